/- The walks of the queue's Get, Leave and New. -/
import Derived.Test.YtpgfenelckonoaaQuC
import Derived.Laws.ResultCell
namespace Go.Proofs.Ytpgfenelckonoaa.QuM
open Go.Proofs.Ytpgfenelckonoaa.ShM
/-- What holds of a queue's numbers. -/
structure QB (L : List Mem) (base : Int) : Prop where
  b0 : 0 ≤ base
  b1 : base ≤ 2305843009213693952
  each : ∀ m ∈ L, 1 ≤ m.id ∧ m.id ≤ 1048576 ∧ 1 ≤ m.wt ∧ m.wt ≤ 1048576 ∧ 0 ≤ m.rem ∧ m.rem < m.wt ∧ base ≤ m.v ∧ m.v ≤ 2305843009213693952
end Go.Proofs.Ytpgfenelckonoaa.QuM
namespace Go.Proofs.Ytpgfenelckonoaa.Qu
open Go.RowKit Go.Proofs.Ytpgfenelckonoaa.Kit Go.Proofs.Ytpgfenelckonoaa.ShM Go.Proofs.Ytpgfenelckonoaa.Sh Go.Proofs.Ytpgfenelckonoaa.QuM
set_option linter.unusedVariables false
set_option linter.unusedSimpArgs false
/-- What Get tells. -/
def gv (o : Option Mem) (base : Int) : Value := match o with
  | some m => tv m base
  | none => .agg #[.int .i64 0, .int .i64 0, .int .i64 0, .int .i64 0]
theorem cell_tmp_ret {fn : Func} {p q : Tmp} {a : Act} {w : World} {R : Ending → World → Prop} {v : Value} (hf : fn.results = #[.cell p 35, .tmp q]) (g : Nat) (u0 u1 u2 u3 : Value) (hp : a.tmps.getD p undef = .pointer (some ⟨g, 0, none⟩)) (hq : a.tmps.getD q undef = v)
    (hb : w.heap[g]? = some (.cells #[u0, u1, u2, u3] 35 (0, 0))) (hd : a.defers = []) (hR : R (.returned (.tuple #[.agg #[u0, u1, u2, u3], v])) w) : bodyPost Try.prog fn R .ret a w := by
  have ha' : a.tmps[p]?.getD undef = .pointer (some ⟨g, 0, none⟩) := by simpa using hp
  have hq' : a.tmps[q]?.getD undef = v := by simpa using hq
  refine bodyPost_ret (v := .tuple #[.agg #[u0, u1, u2, u3], v]) ?_ hd hR
  rw [results_cell_tmp (fn := fn) hf]
  simp [ha', hq', asAddr, run_loadVar_row w g 35 35 #[u0, u1, u2, u3] (0, 0) _ hb Try.underlying35 rfl (by kernel_rfl)]
theorem Qu.far {w WW w' : World} {F : Nat → Prop} {p n g : Nat} {L : List Mem} {base : Int} {a b c d : Value} (h : Qu WW F w' p L base n) (hW : Below w.heap.size w WW) (hF : ∀ k, F k → k < w.heap.size) (hg : w.heap.size ≤ g) (hg2 : g < WW.heap.size) :
    Qu w F ((((w'.setCell ⟨g, 0, none⟩ a).setCell ⟨g, 1, none⟩ b).setCell ⟨g, 2, none⟩ c).setCell ⟨g, 3, none⟩ d) p L base n := by
  obtain ⟨G, g1, g2, g3⟩ := h
  have hn : ¬ G g := fun hG => by
    rcases g2 g hG with h | h
    · have := hF g h; omega
    · omega
  have k : Kept F w w' := ((Kept.refl F w).below hW).trans g3 (fun b hb => .inl hb)
  refine ⟨G, g1.kept fun k hk => set4 (fun e => hn (by rw [← e]; exact hk)), fun k hk => ?_, (((k.setCell (a := ⟨g, 0, none⟩) (.inr hg) _).setCell (a := ⟨g, 1, none⟩) (.inr hg) _).setCell (a := ⟨g, 2, none⟩) (.inr hg) _).setCell (a := ⟨g, 3, none⟩) (.inr hg) _⟩
  rcases g2 k hk with h | h
  · exact .inl h
  · exact .inr (Nat.le_trans hW.size h)
section
variable {F : Nat → Prop} {w w' : World} {p n : Nat} {L : List Mem} {base : Int}
set_option maxRecDepth 8000 in
set_option maxHeartbeats 800000 in
theorem get_any (id : Int) (h : QF F w p L base n) (hq : QB L base) (hi1 : -9223372036854775808 ≤ id) (hi2 : id ≤ 9223372036854775807) :
    Calls Try.prog 41 #[.pointer (some ⟨p, 0, none⟩), .int .i64 id] w fun e w' => e = .returned (.tuple #[gv (get L id) base, .bool (get L id).isSome]) ∧ Below w.heap.size w w' := by
  have HQ := Kit.hid h
  obtain ⟨mb, g, S, hF, hp, hm, hi, hSp, hSm, hpm, hw⟩ := h
  have hml := hm.lt
  have hpl := blk_lt hp
  have HKEY : Hid (keyOf Try.prog 3 (.int .i64 id) = some (.int .i64 id)) := Kit.hid (int_key Try.underlying3 hi1 hi2)
  have HMB : Hid (∀ o, MapV Try.prog 3 (w.alloc o) mb (fmap L) n) := Kit.hid (fun o => hm.same (((Below.refl _ _).alloc (Nat.le_refl _) o).block mb hml))
  have hp0 := blk_cell hp 0
  clear hF hp hm hi hSp hSm hpm hw hml hi1 hi2
  go_enter Try.func41, Try.ntmps41
  cases hget : get L id with
  | none =>
    have HLK : Hid ((if true = true then Value.tuple #[(fmap L id).getD (.agg #[.int .i64 0, .int .i64 0, .int .i64 0]), .bool (fmap L id).isSome] else (fmap L id).getD (.agg #[.int .i64 0, .int .i64 0, .int .i64 0])) = .tuple #[.agg #[.int .i64 0, .int .i64 0, .int .i64 0], .bool false]) := Kit.hid (by simp [fmap, hget])
    have HE : Hid (∀ o o', Below w.heap.size w ((w.alloc o).alloc o')) := Kit.hid (fun o o' => ((Below.refl _ _).alloc (Nat.le_refl _) _).alloc (by simp) _)
    clear hget
    go_wp2_with (at_lookup; refine wpList_lookV rfl _ _ 101 true rfl 3 99 keyed Try.underlying101 _ (zero_mem _) mb n (fmap L) rfl (HMB.out _) id rfl HKEY.out _ HLK.out ?_)
    exact cell_tmp_ret rfl w.heap.size _ _ _ _ rfl rfl (blk_alloc (blk_new _ _) _) rfl ⟨rfl, HE.out _ _⟩
  | some y =>
    have HLK : Hid ((if true = true then Value.tuple #[(fmap L id).getD (.agg #[.int .i64 0, .int .i64 0, .int .i64 0]), .bool (fmap L id).isSome] else (fmap L id).getD (.agg #[.int .i64 0, .int .i64 0, .int .i64 0])) = .tuple #[.agg #[.int .i64 y.wt, .int .i64 y.v, .int .i64 y.rem], .bool true]) := Kit.hid (by simp [fmap, hget, mv])
    obtain ⟨hyL, hyid⟩ := get_mem hget
    have hy := hq.each y hyL
    have HTD : Hid (∀ w', Below w.heap.size w w' → Calls Try.prog 62 #[.pointer (some ⟨p, 0, none⟩), .int .i64 id, .agg #[.int .i64 y.wt, .int .i64 y.v, .int .i64 y.rem]] w' fun e w'' => e = .returned (.agg #[.int .i64 id, .int .i64 y.wt, .int .i64 (y.v - base), .int .i64 y.rem]) ∧ Below w'.heap.size w' w'') := Kit.hid (fun w' hb => by
      have := qtold_any y (HQ.out.below hb) hq.b0 hq.b1 (by have := hq.b0; omega) (by omega)
      unfold mv tv at this
      rw [hyid] at this
      exact this)
    have HGV : Hid (gv (some y) base = .agg #[.int .i64 id, .int .i64 y.wt, .int .i64 (y.v - base), .int .i64 y.rem]) := Kit.hid (by show tv y base = _; unfold tv; rw [hyid])
    rw [HGV.out]
    have HE : Hid (∀ o o', Below w.heap.size w ((w.alloc o).alloc o')) := Kit.hid (fun o o' => ((Below.refl _ _).alloc (Nat.le_refl _) _).alloc (by simp) _)
    have HR0 : Hid (((w.alloc (.cells #[.int .i64 0, .int .i64 0, .int .i64 0, .int .i64 0] 35)).alloc (.cells #[.int .i64 y.wt, .int .i64 y.v, .int .i64 y.rem] 99)).heap[w.heap.size]? = some (.cells #[.int .i64 0, .int .i64 0, .int .i64 0, .int .i64 0] 35 (0, 0))) := Kit.hid (blk_alloc (blk_new _ _) _)
    clear hget hyL hyid hy hq
    go_wp2_with (at_lookup; refine wpList_lookV rfl _ _ 101 true rfl 3 99 keyed Try.underlying101 _ (zero_mem _) mb n (fmap L) rfl (HMB.out _) id rfl HKEY.out _ HLK.out ?_)
    (with_reducible refine (HTD.out _ (HE.out _ _)).mono ?_); rintro e w3 ⟨rfl, hd3⟩
    have hr3 := blk_below HR0.out hd3
    have f0 := blk_frozen hr3 0
    have f1 := blk_frozen hr3 1
    have f2 := blk_frozen hr3 2
    have f3 := blk_frozen hr3 3
    have y0 := blk_cell hr3 0
    have y1 := blk_cell hr3 1
    have y2 := blk_cell hr3 2
    have y3 := blk_cell hr3 3
    have HR3 := Kit.hid hr3
    have HB3 := Kit.hid ((HE.out _ _).trans (hd3.mono (HE.out _ _).size))
    clear hr3 hd3
    go_wp2
    exact cell_tmp_ret rfl w.heap.size _ _ _ _ rfl rfl (mem_store HR3.out) rfl ⟨rfl, below_set4 HB3.out (Nat.le_refl _)⟩
theorem leave_fin {F S : Nat → Prop} {w w2 w3 w4 : World} {p mb g n : Nat} {L : List Mem} {base id : Int} (hF : F = fun k => k = p ∨ k = mb ∨ S k)
    (hb2 : Below w.heap.size w w2) (hSp : ¬ S p) (hSm : ¬ S mb) (hpm : p ≠ mb) (hpl : p < w.heap.size) (hml : mb < w.heap.size) (hw : WQ L)
    (hp : w.heap[p]? = some (.cells #[.map (some mb), .pointer (some ⟨g, 0, none⟩), .int .i64 base] 104 (0, 0))) (hi3 : Items w2 S w3 g ((del L id).map Mem.it) n)
    (hm4 : MapV Try.prog 3 w4 mb (fun j => if j = id then none else fmap L j) n) (hg4 : w3.grownBy w4 (some mb)) : Qu w F w4 p (del L id) base n := by
  obtain ⟨S3, hf, he⟩ := hi3.foot
  have k3 := hi3.kept
  have z2 := hb2.size
  have z3 := k3.size
  have k4 : Kept F w w4 := (((Kept.refl F w).below hb2).trans k3 (fun b hb => .inl (by rw [hF]; exact .inr (.inr hb)))).grown hg4 (fun k e => .inl (by cases e; rw [hF]; exact .inr (.inl rfl)))
  have n3m : ¬ S3 mb := fun h => by
    rcases he mb h with h | h
    · exact hSm h
    · omega
  refine ⟨fun k => k = p ∨ k = mb ∨ S3 k, ⟨mb, g, S3, rfl, ?_, ?_, hf.kept fun k hk => hg4.block k (hf.lt k hk) (fun e => n3m (by cases e; exact hk)), fun h => ?_, n3m, hpm, del_wq hw id⟩, fun k hk => ?_, k4⟩
  · rw [hg4.block p (by omega) (fun e => hpm (Option.some.inj e)), k3.block p (by omega) hSp, hb2.block p hpl]
    exact hp
  · refine hm4.congr fun j => ?_
    unfold fmap
    rw [get_del hw]
    by_cases h : j = id
    · rw [if_pos h, if_pos h]; rfl
    · rw [if_neg h, if_neg h]
  · rcases he p h with h | h
    · exact hSp h
    · omega
  · rcases hk with rfl | rfl | hk
    · exact .inl (by rw [hF]; exact .inl rfl)
    · exact .inl (by rw [hF]; exact .inr (.inl rfl))
    · rcases he k hk with h | h
      · exact .inl (by rw [hF]; exact .inr (.inr h))
      · exact .inr (by omega)
set_option maxRecDepth 8000 in
set_option maxHeartbeats 1600000 in
theorem leave_any (id : Int) (h : QF F w p L base n) (hq : QB L base) (hn : n ≤ 1000000) (hi1 : -9223372036854775808 ≤ id) (hi2 : id ≤ 9223372036854775807) :
    Calls Try.prog 50 #[.pointer (some ⟨p, 0, none⟩), .int .i64 id] w fun e w' => e = .returned (.tuple #[gv (get L id) base, .int .i64 (if (get L id).isSome = true then 0 else 8)]) ∧ Qu w F w' p (del L id) base n := by
  have HQ := Kit.hid h
  obtain ⟨mb, g, S, hF, hp, hm, hi, hSp, hSm, hpm, hw⟩ := h
  have hml := hm.lt
  have hpl := blk_lt hp
  have HKEY : Hid (keyOf Try.prog 3 (.int .i64 id) = some (.int .i64 id)) := Kit.hid (int_key Try.underlying3 hi1 hi2)
  have HMB : Hid (∀ o, MapV Try.prog 3 (w.alloc o) mb (fmap L) n) := Kit.hid (fun o => hm.same (((Below.refl _ _).alloc (Nat.le_refl _) o).block mb hml))
  have hp0 := blk_cell hp 0
  have HE : Hid (∀ o o', Below w.heap.size w ((w.alloc o).alloc o')) := Kit.hid (fun o o' => ((Below.refl _ _).alloc (Nat.le_refl _) _).alloc (by simp) _)
  go_enter Try.func50, Try.ntmps50
  cases hget : get L id with
  | none =>
    have HLK : Hid ((if true = true then Value.tuple #[(fmap L id).getD (.agg #[.int .i64 0, .int .i64 0, .int .i64 0]), .bool (fmap L id).isSome] else (fmap L id).getD (.agg #[.int .i64 0, .int .i64 0, .int .i64 0])) = .tuple #[.agg #[.int .i64 0, .int .i64 0, .int .i64 0], .bool false]) := Kit.hid (by simp [fmap, hget])
    have HDL : Hid (del L id = L) := Kit.hid (del_none hget)
    clear hget hF hp hm hi hSp hSm hpm hw hml hi1 hi2
    go_wp2_with (at_lookup; refine wpList_lookV rfl _ _ 101 true rfl 3 99 keyed Try.underlying101 _ (zero_mem _) mb n (fmap L) rfl (HMB.out _) id rfl HKEY.out _ HLK.out ?_)
    exact cell_tmp_ret rfl w.heap.size _ _ _ _ rfl rfl (blk_alloc (blk_new _ _) _) rfl ⟨rfl, by rw [HDL.out]; exact HQ.out.self.below (HE.out _ _)⟩
  | some y =>
    have HLK : Hid ((if true = true then Value.tuple #[(fmap L id).getD (.agg #[.int .i64 0, .int .i64 0, .int .i64 0]), .bool (fmap L id).isSome] else (fmap L id).getD (.agg #[.int .i64 0, .int .i64 0, .int .i64 0])) = .tuple #[.agg #[.int .i64 y.wt, .int .i64 y.v, .int .i64 y.rem], .bool true]) := Kit.hid (by simp [fmap, hget, mv])
    obtain ⟨hyL, hyid⟩ := get_mem hget
    have hy := hq.each y hyL
    have HDL : Hid ((del L id).map Mem.it = dropL y.it (L.map Mem.it)) := Kit.hid (by rw [← hyid]; exact del_items hw hyL)
    have HGV : Hid (gv (some y) base = .agg #[.int .i64 id, .int .i64 y.wt, .int .i64 (y.v - base), .int .i64 y.rem]) := Kit.hid (by show tv y base = _; unfold tv; rw [hyid])
    have HTD : Hid (∀ F' L' n' w', QF F' w' p L' base n' → Calls Try.prog 62 #[.pointer (some ⟨p, 0, none⟩), .int .i64 id, .agg #[.int .i64 y.wt, .int .i64 y.v, .int .i64 y.rem]] w' fun e w'' => e = .returned (.agg #[.int .i64 id, .int .i64 y.wt, .int .i64 (y.v - base), .int .i64 y.rem]) ∧ Below w'.heap.size w' w'') := Kit.hid (fun F' L' n' w' h => by
      have := qtold_any y h hq.b0 hq.b1 (by have := hq.b0; omega) (by omega)
      unfold mv tv at this
      rw [hyid] at this
      exact this)
    have HIT : Hid (∀ w', Calls Try.prog 68 #[.int .i64 id, .agg #[.int .i64 y.wt, .int .i64 y.v, .int .i64 y.rem]] w' fun e w'' => e = .returned (.agg #[.int .i64 y.v, .int .i64 id]) ∧ Below w'.heap.size w' w'') := Kit.hid (fun w' => by
      have := item_any y w'
      unfold mv at this
      rw [hyid] at this
      exact this)
    have HDV : Hid (∀ w', ItemsF S w' g (L.map Mem.it) n → Calls Try.prog 67 #[.pointer (some ⟨g, 0, none⟩), .agg #[.int .i64 y.v, .int .i64 id]] w' fun e w'' => ∃ b, e = .returned (.bool b) ∧ Items w' S w'' g ((del L id).map Mem.it) n) := Kit.hid (fun w' h => by
      have := items_drop y.it h.items (by omega)
      unfold Mem.it at this
      rw [hyid] at this
      rw [HDL.out]
      unfold Mem.it
      rw [hyid]
      exact this.mono fun e w'' h => ⟨_, h⟩)
    rw [HGV.out]
    have HF := Kit.hid hF
    have HP := Kit.hid hp
    have HM := Kit.hid hm
    have HI := Kit.hid hi
    have HSP := Kit.hid hSp
    have HSM := Kit.hid hSm
    have HPM := Kit.hid hpm
    have HWQ := Kit.hid hw
    have HLP := Kit.hid hpl
    have HLM := Kit.hid hml
    have HR0 : Hid (((w.alloc (.cells #[.int .i64 0, .int .i64 0, .int .i64 0, .int .i64 0] 35)).alloc (.cells #[.int .i64 y.wt, .int .i64 y.v, .int .i64 y.rem] 99)).heap[w.heap.size]? = some (.cells #[.int .i64 0, .int .i64 0, .int .i64 0, .int .i64 0] 35 (0, 0))) := Kit.hid (blk_alloc (blk_new _ _) _)
    have HY0 : Hid (((w.alloc (.cells #[.int .i64 0, .int .i64 0, .int .i64 0, .int .i64 0] 35)).alloc (.cells #[.int .i64 y.wt, .int .i64 y.v, .int .i64 y.rem] 99)).heap[w.heap.size + 1]? = some (.cells #[.int .i64 y.wt, .int .i64 y.v, .int .i64 y.rem] 99 (0, 0))) := Kit.hid (by
      have := blk_new (w.alloc (.cells #[.int .i64 0, .int .i64 0, .int .i64 0, .int .i64 0] 35)) (.cells #[.int .i64 y.wt, .int .i64 y.v, .int .i64 y.rem] 99)
      simpa using this)
    have HBW : Hid (Below w.heap.size w ((w.alloc (.cells #[.int .i64 0, .int .i64 0, .int .i64 0, .int .i64 0] 35)).alloc (.cells #[.int .i64 y.wt, .int .i64 y.v, .int .i64 y.rem] 99))) := Kit.hid (HE.out _ _)
    clear hget hyL hyid hy hq hF hp hm hi hSp hSm hpm hw hml hi1 hi2
    go_wp2_with (at_lookup; refine wpList_lookV rfl _ _ 101 true rfl 3 99 keyed Try.underlying101 _ (zero_mem _) mb n (fmap L) rfl (HMB.out _) id rfl HKEY.out _ HLK.out ?_)
    generalize (w.alloc (.cells #[.int .i64 0, .int .i64 0, .int .i64 0, .int .i64 0] 35)).alloc (.cells #[.int .i64 y.wt, .int .i64 y.v, .int .i64 y.rem] 99) = WW at HR0 HY0 HBW ⊢
    have HPW := Kit.hid ((HBW.out.block p HLP.out).trans HP.out)
    have HIW : Hid (ItemsF S WW g (L.map Mem.it) n) := Kit.hid (HI.out.kept fun k hk => HBW.out.block k (HI.out.lt k hk))
    have HS3 : Hid (∀ w' : World, (w'.heap[p]? = WW.heap[p]? ∧ w'.heap[w.heap.size + 1]? = WW.heap[w.heap.size + 1]?) → w'.cell? ⟨p, 1, none⟩ = some (.pointer (some ⟨g, 0, none⟩)) ∧ w'.cell? ⟨w.heap.size + 1, 0, none⟩ = some (.int .i64 y.wt) ∧ w'.cell? ⟨w.heap.size + 1, 1, none⟩ = some (.int .i64 y.v) ∧ w'.cell? ⟨w.heap.size + 1, 2, none⟩ = some (.int .i64 y.rem)) := Kit.hid (fun w' h => by
      have h1 := h.1.trans HPW.out
      have h2 := h.2.trans HY0.out
      exact ⟨blk_cell h1 1, blk_cell h2 0, blk_cell h2 1, blk_cell h2 2⟩)
    refine wp_region_noPanic ?_
    refine wp_region_held_drew (S := fun (w' : World) => w'.heap[p]? = WW.heap[p]? ∧ w'.heap[w.heap.size + 1]? = WW.heap[w.heap.size + 1]?) (by kernel_rfl) ⟨rfl, rfl⟩ (fun hHeld => ?_)
    refine wpAnyH_take (i := 0) (hi := by simp only [List.getElem?_toArray, List.getElem?_cons_succ, List.getElem?_cons_zero]; rfl) (v := ?_) (by kernel_rfl) (by kernel_rfl) (by kernel_rfl) (fun _ _ _ h => h) (Or.inl ⟨by rfl, ?_⟩) (by assumption) ?_
    rotate_left
    · (intro w hSw; (try dsimp only at hSw); go_simp; first | done | with_reducible rfl)
    try simp only [Act.put, List.setIfInBounds_toArray, List.set_cons_zero, List.set_cons_succ]
    refine wpAnyH_take (i := 1) (hi := by simp only [List.getElem?_toArray, List.getElem?_cons_succ, List.getElem?_cons_zero]; rfl) (v := ?_) (by kernel_rfl) (by kernel_rfl) (by kernel_rfl) (fun _ _ _ h => h) (Or.inl ⟨by rfl, ?_⟩) (by assumption) ?_
    rotate_left
    · (intro w hSw; (try dsimp only at hSw); (obtain ⟨x0, x1, x2, x3⟩ := HS3.out _ hSw); go_simp; first | done | with_reducible rfl)
    try simp only [Act.put, List.setIfInBounds_toArray, List.set_cons_zero, List.set_cons_succ]
    refine wpAnyH_take (i := 2) (hi := by simp only [List.getElem?_toArray, List.getElem?_cons_succ, List.getElem?_cons_zero]; rfl) (v := ?_) (by kernel_rfl) (by kernel_rfl) (by kernel_rfl) (fun _ _ _ h => h) (Or.inl ⟨by rfl, ?_⟩) (by assumption) ?_
    rotate_left
    · (intro w hSw; (try dsimp only at hSw); go_simp; first | done | with_reducible rfl)
    try simp only [Act.put, List.setIfInBounds_toArray, List.set_cons_zero, List.set_cons_succ]
    refine wpAnyH_take (i := 3) (hi := by simp only [List.getElem?_toArray, List.getElem?_cons_succ, List.getElem?_cons_zero]; rfl) (v := ?_) (by kernel_rfl) (by kernel_rfl) (by kernel_rfl) (fun _ _ _ h => h) (Or.inl ⟨by rfl, ?_⟩) (by assumption) ?_
    rotate_left
    · (intro w hSw; (try dsimp only at hSw); (obtain ⟨x0, x1, x2, x3⟩ := HS3.out _ hSw); go_simp; first | done | with_reducible rfl)
    try simp only [Act.put, List.setIfInBounds_toArray, List.set_cons_zero, List.set_cons_succ]
    refine wpAnyH_take (i := 4) (hi := by simp only [List.getElem?_toArray, List.getElem?_cons_succ, List.getElem?_cons_zero]; rfl) (v := ?_) (by kernel_rfl) (by kernel_rfl) (by kernel_rfl) (fun _ _ _ h => h) (Or.inl ⟨by rfl, ?_⟩) (by assumption) ?_
    rotate_left
    · (intro w hSw; (try dsimp only at hSw); go_simp; first | done | with_reducible rfl)
    try simp only [Act.put, List.setIfInBounds_toArray, List.set_cons_zero, List.set_cons_succ]
    refine wpAnyH_take (i := 5) (hi := by simp only [List.getElem?_toArray, List.getElem?_cons_succ, List.getElem?_cons_zero]; rfl) (v := ?_) (by kernel_rfl) (by kernel_rfl) (by kernel_rfl) (fun _ _ _ h => h) (Or.inl ⟨by rfl, ?_⟩) (by assumption) ?_
    rotate_left
    · (intro w hSw; (try dsimp only at hSw); (obtain ⟨x0, x1, x2, x3⟩ := HS3.out _ hSw); go_simp; first | done | with_reducible rfl)
    try simp only [Act.put, List.setIfInBounds_toArray, List.set_cons_zero, List.set_cons_succ]
    refine wpAnyH_ready (rs := [6]) (by kernel_rfl) (by simp) ?_
    refine AllReadyH.cons (ho := by simp only [List.getElem?_toArray, List.getElem?_cons_succ, List.getElem?_cons_zero]; rfl) (fun K hK => ?_) (AllReadyH.nil)
    go_simp
    go_at_call 68; (with_reducible refine (HIT.out _).mono ?_); rintro e w2 ⟨rfl, hd2⟩
    have HD2 : Hid (Below WW.heap.size WW w2) := Kit.hid ((Below.refl _ WW).drew.trans hd2)
    clear hd2
    go_wp2_with fail
    refine hK.out _ _ ?_ (fun hHeldN => ?_)
    · exact ⟨HD2.out.block p (blk_lt HPW.out), HD2.out.block _ (blk_lt HY0.out)⟩
    clear hHeld
    have hHeld := hHeldN
    clear hHeldN
    clear hK K
    try simp only [Act.put, List.setIfInBounds_toArray, List.set_cons_zero, List.set_cons_succ]
    refine wpAnyH_ready (rs := [7]) (by kernel_rfl) (by simp) ?_
    refine AllReadyH.cons (ho := by simp only [List.getElem?_toArray, List.getElem?_cons_succ, List.getElem?_cons_zero]; rfl) (fun K hK => ?_) (AllReadyH.nil)
    go_simp
    go_at_call 67; (with_reducible refine (HDV.out _ (HIW.out.kept fun k hk => HD2.out.block k (HIW.out.lt k hk))).mono ?_); rintro e w3 ⟨b, rfl, h6⟩
    have HI6 := Kit.hid h6
    clear h6
    go_wp2_with fail
    refine hK.out _ _ ?_ (fun hHeldN => ?_)
    · exact ⟨(HI6.out.kept.block p (Nat.lt_of_lt_of_le (blk_lt HPW.out) HD2.out.size) HSP.out).trans (HD2.out.block p (blk_lt HPW.out)), (HI6.out.kept.block _ (Nat.lt_of_lt_of_le (blk_lt HY0.out) HD2.out.size) (fun h => by have := HI.out.lt _ h; omega)).trans (HD2.out.block _ (blk_lt HY0.out))⟩
    clear hHeld
    have hHeld := hHeldN
    clear hHeldN
    clear hK K
    try simp only [Act.put, List.setIfInBounds_toArray, List.set_cons_zero, List.set_cons_succ]
    clear hHeld
    refine wpAnyH_done (by kernel_rfl) ?_ _
    refine NoPanic.normal ?_
    skip
    have hz2 := HD2.out.size
    have hzw := HBW.out.size
    have hlr := blk_lt HR0.out
    have hly := blk_lt HY0.out
    have HP3 : Hid (w3.heap[p]? = some (.cells #[.map (some mb), .pointer (some ⟨g, 0, none⟩), .int .i64 base] 104 (0, 0))) := Kit.hid (by
      have := HLP.out
      rw [HI6.out.kept.block p (by omega) HSP.out, HD2.out.block p (by omega)]; exact HPW.out)
    have HM3 : Hid (MapV Try.prog 3 w3 mb (fmap L) n) := Kit.hid (by
      have := HLM.out
      exact ((HM.out.same (HBW.out.block mb HLM.out)).same (HD2.out.block mb (by omega))).same (HI6.out.kept.block mb (by omega) HSM.out))
    have HR3 : Hid (w3.heap[w.heap.size]? = some (.cells #[.int .i64 0, .int .i64 0, .int .i64 0, .int .i64 0] 35 (0, 0))) := Kit.hid (by
      rw [HI6.out.kept.block _ (by omega) (fun h => by have := HI.out.lt _ h; omega), HD2.out.block _ (by omega)]; exact HR0.out)
    have HY3 : Hid (w3.heap[w.heap.size + 1]? = some (.cells #[.int .i64 y.wt, .int .i64 y.v, .int .i64 y.rem] 99 (0, 0))) := Kit.hid (by
      rw [HI6.out.kept.block _ (by omega) (fun h => by have := HI.out.lt _ h; omega), HD2.out.block _ (by omega)]; exact HY0.out)
    have HB2 : Hid (Below w.heap.size w w2) := Kit.hid (HBW.out.trans (HD2.out.mono HBW.out.size))
    have q0 := blk_cell HP3.out 0
    clear HS3 HIW HDV hp0 hpl hz2 hzw
    obtain ⟨w4, hrun, hm4, hg4⟩ := HM3.out.drop (ty := 0) keyed Try.underlying101 HKEY.out
    have HFIN := Kit.hid (leave_fin HF.out HD2.out HSP.out HSM.out HPM.out (blk_lt HPW.out) (Nat.lt_of_lt_of_le HLM.out HBW.out.size) HWQ.out HPW.out HI6.out hm4 hg4)
    have HR4 : Hid (w4.heap[w.heap.size]? = some (.cells #[.int .i64 0, .int .i64 0, .int .i64 0, .int .i64 0] 35 (0, 0))) := Kit.hid ((hg4.block _ (blk_lt HR3.out) (fun e => by have := HLM.out; have := Option.some.inj e; omega)).trans HR3.out)
    have hy4 := (hg4.block _ (blk_lt HY3.out) (fun e => by have := HLM.out; have := Option.some.inj e; omega)).trans HY3.out
    have x0 := blk_cell hy4 0
    have x1 := blk_cell hy4 1
    have x2 := blk_cell hy4 2
    have lx := blk_lt hy4
    clear hm4 hg4 hy4
    go_wp2_with fail
    obtain ⟨F4, hq4, he4, hk4⟩ := HFIN.out
    (with_reducible refine (HTD.out F4 _ _ _ hq4).mono ?_); rintro e w5 ⟨rfl, hd5⟩
    have hr5 := blk_below HR4.out hd5
    have f0 := blk_frozen hr5 0
    have f1 := blk_frozen hr5 1
    have f2 := blk_frozen hr5 2
    have f3 := blk_frozen hr5 3
    have y0 := blk_cell hr5 0
    have y1 := blk_cell hr5 1
    have y2 := blk_cell hr5 2
    have y3 := blk_cell hr5 3
    have HR5 := Kit.hid hr5
    have HQ5 := Kit.hid (HFIN.out.below hd5)
    have HLR := Kit.hid (blk_lt hr5)
    clear hr5 hd5 hq4 he4 hk4 x0 x1 x2 lx
    go_wp2
    exact cell_tmp_ret rfl w.heap.size _ _ _ _ rfl rfl (mem_store HR5.out) rfl ⟨rfl, HQ5.out.far HBW.out HQ.out.lt (Nat.le_refl _) (blk_lt HR0.out)⟩
end
end Go.Proofs.Ytpgfenelckonoaa.Qu
