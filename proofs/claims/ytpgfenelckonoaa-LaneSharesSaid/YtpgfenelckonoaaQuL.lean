/- The walk of the queue's All. -/
import Derived.Test.YtpgfenelckonoaaQuG
import Derived.Test.YtpgfenelckonoaaHeldIn
namespace Go.Proofs.Ytpgfenelckonoaa.Seq
theorem wpIn_region_T {l n : Nat} {P : Program} {ops : Array Oper} {Q : Exit → Act → World → Prop} {id : Nat} {a : Act} {w : World} (S : World → Prop) (k : Nat) (hm : P.follows .mixedOrders = true) (hnd : ∀ o : Oper, o ∈ ops.toList → ∀ c, o.op ≠ .defer c) (hS : S w.drew)
    (h : S w.drew → Kit.wpAnyT P .any ops (fun e a w => match e with | .normal => Q .normal a w | _ => False) S k ops.size (Array.replicate ops.size false) a w.drew) : (Code.region id ops true).wpIn (Fence.wide.inRound l) n P Q a w :=
  noPanicIn (wpIn_region_any hm (wpAny_toIn (fun i o ho => hnd o (by
    have := List.mem_of_getElem? (l := ops.toList) (i := i) (a := o) (by rw [Array.getElem?_toList]; exact ho)
    exact this)) (by rintro ⟨a, w, h⟩; exact h.elim) _ _ _ _ (Kit.wpAny_of_T _ _ _ _ (h hS))))
end Go.Proofs.Ytpgfenelckonoaa.Seq
namespace Go.Proofs.Ytpgfenelckonoaa.Qu
open Go.RowKit Go.Shelf Go.Proofs.Ytpgfenelckonoaa.Kit Go.Proofs.Ytpgfenelckonoaa.ShM Go.Proofs.Ytpgfenelckonoaa.Sh Go.Proofs.Ytpgfenelckonoaa.QuM Go.Proofs.Ytpgfenelckonoaa.Seq
set_option linter.unusedVariables false
set_option linter.unusedSimpArgs false
attribute [local go_sem] Oper.semAt_some
theorem ranked_get : ∀ (k : Nat) (l : List It) (pre : List (Nat × It)) (r : Nat) (y : It), pre ++ [(r, y)] <+: ranked k l → l[pre.length]? = some y
  | k, [], pre, r, y, h => by have := h.length_le; simp [ranked] at this
  | k, x :: l, [], r, y, h => by
    obtain ⟨q, hq⟩ := h
    simp only [ranked, List.nil_append, List.cons_append, List.cons.injEq, Prod.mk.injEq] at hq
    rw [hq.1.2]; simp
  | k, x :: l, z :: pre, r, y, h => by
    obtain ⟨q, hq⟩ := h
    simp only [ranked, List.cons_append, List.cons.injEq] at hq
    have := ranked_get (k + 1) l pre r y ⟨q, hq.2⟩
    simpa using this
/-- Members with their lags, flat in memory. -/
def flatM (base : Int) (L : List Mem) : List Value := L.flatMap fun m => [.int .i64 m.id, .int .i64 m.wt, .int .i64 (m.v - base), .int .i64 m.rem]
theorem flatM_snoc (base : Int) (L : List Mem) (i : Nat) (m : Mem) (h : L[i]? = some m) : flatM base (L.take (i + 1)) = flatM base (L.take i) ++ [.int .i64 m.id, .int .i64 m.wt, .int .i64 (m.v - base), .int .i64 m.rem] := by
  obtain ⟨h1, rfl⟩ := List.getElem?_eq_some_iff.1 h
  unfold flatM
  rw [List.take_succ_eq_append_getElem h1, List.flatMap_append]
  rfl
theorem infoMb : (Try.prog.info? 35).map (fun i => (i.zero, i.size, i.bytes)) = some (some (.agg #[.int .i64 0, .int .i64 0, .int .i64 0, .int .i64 0]), 4, 32) := by kernel_rfl
theorem litMb (w : World) (a b c d : Int) : Cells (w.alloc (.cells #[.int .i64 a, .int .i64 b, .int .i64 c, .int .i64 d] 35)) (some ⟨w.heap.size, 0, none⟩) [.int .i64 a, .int .i64 b, .int .i64 c, .int .i64 d] := by
  have h := World.ownsRow_lit (base := 0) (e := 35) (size := 4) w #[.int .i64 a, .int .i64 b, .int .i64 c, .int .i64 d] 1 (Nat.zero_le _) (by decide) rfl
  obtain ⟨A, cap, hv, hc, _⟩ := own_readsS (by decide) h
  cases hv
  exact hc
/-- What the loop keeps. -/
def AllI (w : World) (ob : Nat) (tO : TypeId) (base : Int) (L : List Mem) : (Nat → Prop) → List (Nat × It) → World → Prop := fun M pre W => ∃ v, M = (fun k => k = ob ∨ v.ownBlock = some k) ∧ W.heap[ob]? = some (.cells #[v] tO (0, 0)) ∧ W.ownsRow w.heap.size 35 4 v pre.length (flatM base (L.take pre.length)) ∧ v.ownBlock ≠ some ob ∧ Below w.heap.size w W
theorem AllI.abide {w : World} {ob : Nat} {tO : TypeId} {base : Int} {L : List Mem} {B : Nat} (hB : w.heap.size ≤ B) : Abide B (AllI w ob tO base L) := by
  rintro M s A A' ⟨v, rfl, h1, h2, h3, h4⟩ hag
  refine ⟨v, rfl, (hag.same ob (Array.getElem?_eq_some_iff.1 h1).1 (.inr (.inl rfl))).trans h1, own_same h2 (fun g hg => hag.same g (h2.lt g hg).2 (.inr (.inr hg))), h3, ?_⟩
  exact ⟨hag.os.trans h4.os, hag.tape.trans h4.tape, hag.output.trans h4.output, Nat.le_trans h4.size hag.size, fun k hk => (hag.same k (by have := h4.size; omega) (.inl (by omega))).trans (h4.block k hk)⟩
/-- One more is told. -/
theorem AllI.snoc {w w₂ W' w5 : World} {ob : Nat} {tO : TypeId} {base : Int} {L : List Mem} {A : Option Addr} {cap g' cap' : Nat} {pre : List (Nat × It)} {x : Nat × It} {m : Mem} {N : Nat → Prop} {S : Nat} (hob : w.heap.size ≤ ob) (hS : S ≤ w₂.heap.size) (hm : L[pre.length]? = some m)
    (hN : N = fun k => k = ob ∨ (Value.slice A pre.length cap).ownBlock = some k) (hvb : w₂.heap[ob]? = some (.cells #[.slice A pre.length cap] tO (0, 0))) (hown : w₂.ownsRow w.heap.size 35 4 (.slice A pre.length cap) pre.length (flatM base (L.take pre.length))) (hne : (Value.slice A pre.length cap).ownBlock ≠ some ob) (hb : Below w.heap.size w w₂) (hd : Below w₂.heap.size w₂ W')
    (ho : w5.ownsRow w.heap.size 35 4 (.slice (some ⟨g', 0, none⟩) (pre.length + 1) cap') (pre.length + 1) (flatM base (L.take pre.length) ++ [.int .i64 m.id, .int .i64 m.wt, .int .i64 (m.v - base), .int .i64 m.rem])) (hg : W'.grownBy w5 (Value.slice A pre.length cap).ownBlock) (hv : (Value.slice (some ⟨g', 0, none⟩) (pre.length + 1) cap').ownBlock = (Value.slice A pre.length cap).ownBlock ∨ (Value.slice (some ⟨g', 0, none⟩) (pre.length + 1) cap').ownBlock = some W'.heap.size) :
    w5.heap[ob]? = some (.cells #[.slice A pre.length cap] tO (0, 0)) ∧
      Lie (fun k => N k ∨ S ≤ k) w₂ (w5.setCell ⟨ob, 0, none⟩ (.slice (some ⟨g', 0, none⟩) (pre.length + 1) cap')) ∧ Lie N w₂ (w5.setCell ⟨ob, 0, none⟩ (.slice (some ⟨g', 0, none⟩) (pre.length + 1) cap')) ∧ ∃ M', Grows N M' w₂ (w5.setCell ⟨ob, 0, none⟩ (.slice (some ⟨g', 0, none⟩) (pre.length + 1) cap')) ∧ AllI w ob tO base L M' (pre ++ [x]) (w5.setCell ⟨ob, 0, none⟩ (.slice (some ⟨g', 0, none⟩) (pre.length + 1) cap')) := by
  have lo := (Array.getElem?_eq_some_iff.1 hvb).1
  have hz0 := hd.size
  have h5 : w5.heap[ob]? = some (.cells #[.slice A pre.length cap] tO (0, 0)) := (hg.block ob (by omega) (fun e => hne e.symm)).trans ((hd.block ob lo).trans hvb)
  have hs5 : (w5.setCell ⟨ob, 0, none⟩ (.slice (some ⟨g', 0, none⟩) (pre.length + 1) cap')).heap.size = w5.heap.size := by simp [World.setCell]
  have hz := hg.size
  have hne' : g' ≠ ob := by
    rcases hv with hv | hv
    · exact fun e => hne (by rw [← hv, e]; rfl)
    · have : g' = W'.heap.size := by simpa [Value.ownBlock] using hv
      omega
  have hlie : Lie N w₂ (w5.setCell ⟨ob, 0, none⟩ (.slice (some ⟨g', 0, none⟩) (pre.length + 1) cap')) := by
    refine ⟨by rw [hs5]; omega, fun j hj hn => ?_⟩
    rw [hN] at hn
    rw [Below.heap_setCell _ _ _ j (fun e => hn (.inl e)), hg.block j (by omega) (fun e => hn (.inr e.symm)), hd.block j hj]
  have hown' := ho.lt g' rfl
  refine ⟨h5, hlie.mono (fun k h => .inl h), hlie, fun j => j = ob ∨ (Value.slice (some ⟨g', 0, none⟩) (pre.length + 1) cap').ownBlock = some j, fun j hj => ?_, _, rfl, ?_, ?_, ?_, ?_⟩
  · rw [hs5, hN]
    rcases hj with rfl | hj
    · exact ⟨by omega, .inl (.inl rfl)⟩
    · obtain rfl : g' = j := by simpa [Value.ownBlock] using hj
      refine ⟨hown'.2, ?_⟩
      rcases hv with hv | hv
      · exact .inl (.inr (by rw [← hv]; rfl))
      · have : g' = W'.heap.size := by simpa [Value.ownBlock] using hv
        exact .inr (by omega)
  · exact (blk_put h5 0 _ rfl).trans (by simp)
  · rw [List.length_append, List.length_singleton, flatM_snoc base L _ m hm]
    exact own_same ho (fun g hg => by
      obtain rfl : g' = g := by simpa [Value.ownBlock] using hg
      exact Below.heap_setCell _ _ _ _ hne')
  · simp [Value.ownBlock, hne']
  · have hb5 : Below w.heap.size w w5 := (hb.trans (hd.mono hb.size)).grown hg (by have := hb.size; omega) (fun k hk => (hown.lt k hk).1)
    exact hb5.setCell (p := ⟨ob, 0, none⟩) hob _
set_option maxRecDepth 8000 in
set_option maxHeartbeats 4000000 in
theorem qall_any {F : Nat → Prop} {w : World} {p n : Nat} {L : List Mem} {base : Int} (h : QF F w p L base n) (hq : QB L base) (hn : n ≤ 4000) :
    Calls Try.prog 40 #[.pointer (some ⟨p, 0, none⟩)] w fun e w' => ∃ v, e = .returned v ∧ w'.ownsRow w.heap.size 35 4 v L.length (flatM base L) ∧ Below w.heap.size w w' := by
  have HQ := Kit.hid h
  have HLEN := Kit.hid h.len
  obtain ⟨mb, g, S, hF, hp, hm, hi, hSp, hSm, hpm, hw⟩ := h
  obtain ⟨gl, lp, lg, hll, hS⟩ := items_look hi.items (by omega)
  have HS := Kit.hid hS
  have HM := Kit.hid hm
  have HP := Kit.hid hp
  have HLM := Kit.hid hm.lt
  have HW := Kit.hid hw
  have p1 := blk_cell hp 1
  have hlp := blk_lt hp
  clear hF hp hm hi hSp hSm hpm hw hS
  refine (callsIn_wide (n := 3)).1 ?_
  refine callsIn_of_wp_marks Try.func40 rfl trivial ?_ rfl
  simp only [Try.ntmps40, List.size_toArray, List.length_cons, List.length_nil, Nat.reduceAdd, Nat.reduceSub, Array.replicate_succ, Array.replicate_zero, List.push_toArray, List.append_toArray, List.nil_append, List.cons_append]
  gi_wp2
  generalize hW2 : World.alloc (World.alloc w _) _ = W2
  have sz2 : W2.heap.size = w.heap.size + 1 + 1 := by rw [← hW2]; simp
  have hq2 : W2.heap[w.heap.size]? = some (.cells #[.pointer (some ⟨p, 0, none⟩)] 82 (0, 0)) := by rw [← hW2]; exact (Below.heap_alloc _ _ _ (by simp)).trans (World.alloc_heap_new w _)
  have hob : W2.heap[w.heap.size + 1]? = some (.cells #[.slice none 0 0] 39 (0, 0)) := by
    rw [← hW2]
    have := World.alloc_heap_new (w.alloc (.cells #[.pointer (some ⟨p, 0, none⟩)] 82)) (.cells #[.slice none 0 0] 39)
    rwa [World.size_alloc] at this
  have hb2 : Below w.heap.size w W2 := by rw [← hW2]; exact ((Below.refl _ w).alloc (Nat.le_refl _) _).alloc (by simp) _
  clear hW2
  refine ⟨trivial, (callsIn_wide.2 (all_mk g _)).mono ?_⟩
  rintro e wB ⟨rfl, hbB, hsB, hB0⟩
  dsimp only
  rw [sz2] at hsB hB0 hbB ⊢
  have hbWB : Below w.heap.size w wB := hb2.trans (hbB.mono (by omega))
  have HS1 : Hid (∀ W', Below wB.heap.size wB W' → SeqAt Try.prog 76 #[.pointer (some ⟨w.heap.size + 1 + 1, 0, none⟩)] encR (ranked 0 (L.map Mem.it)) (allRd g gl (w.heap.size + 1 + 1)) W') :=
    Kit.hid fun W' hb => HS.out _ W' (hbWB.trans (hb.mono hbWB.size)) ((cell_same (hb.block _ (by omega)) 0).trans (blk_at hB0 0))
  have HQB := Kit.hid ((hbB.block _ (by omega)).trans hq2)
  have HOB := Kit.hid ((hbB.block _ (by omega)).trans hob)
  obtain ⟨R, hR⟩ : ∃ R : Nat → Prop, R = fun k => k = w.heap.size := ⟨_, rfl⟩
  have HRlt : Hid (∀ k, R k → k < wB.heap.size ∧ k < wB.heap.size) := Kit.hid (fun k h => by rw [hR] at h; omega)
  have RA : Hid (R w.heap.size) := Kit.hid (by rw [hR])
  have HM0 : Hid (∀ k, (k = w.heap.size + 1 ∨ Value.ownBlock (.slice none 0 0) = some k) → k = w.heap.size + 1 ∧ ¬ R k) := Kit.hid (fun k hk => by
    rcases hk with hk | hk
    · exact ⟨hk, fun h => by rw [hR] at h; omega⟩
    · cases hk)
  have H2 : Hid (AllI w (w.heap.size + 1) 39 base L (fun k => k = w.heap.size + 1 ∨ Value.ownBlock (.slice none 0 0) = some k) [] wB) := Kit.hid ⟨_, rfl, HOB.out, ⟨rfl, .inl ⟨rfl, rfl⟩⟩, (fun e => by cases e), hbWB⟩
  clear hR hq2 hob hB0 p1
  gi_wp2
  refine wpIn_rangeO (gf := 76) (lb := #[.pointer (some ⟨w.heap.size + 1 + 1, 0, none⟩)]) rfl (enters_of Try.func76 (by kernel_rfl) rfl)
    (encs := encR) (xs := ranked 0 (L.map Mem.it)) (Rd := allRd g gl (w.heap.size + 1 + 1)) HS1.out (fun _ => rfl)
    (Held R wB (AllI w (w.heap.size + 1) 39 base L)) (fun _ _ _ _ => False) (Held.abide (AllI.abide hbWB.size) (Nat.le_refl _) HRlt.out) (fun c N s A A' h hag => h)
    (fun k => k = w.heap.size + 1 ∨ Value.ownBlock (.slice none 0 0) = some k) (fun k hk => ?_) (fun k hk => ?_) ⟨H2.out, fun k hk => (HM0.out k hk).2, fun k hk => ?_, Nat.le_refl _, fun _ _ => rfl⟩ ?round ?done ?stop
  · have := (HM0.out k hk).1
    refine ⟨by omega, fun h => ?_⟩
    rcases h with h | h | h <;> omega
  · rcases hk with h | h | h <;> omega
  · have := (HM0.out k hk).1
    omega
  case stop =>
    rintro D M3 c pre W3 hD hMD hpre h
    exact h.elim
  case round =>
    rintro k l' N pre ⟨ry, y⟩ W3 hpre hI hN3 hl1 hl2 hnl
    obtain rfl : ry = pre.length := by have := ranked_at 0 (L.map Mem.it) pre (ry, y) hpre; simpa using this
    have hE : encR (pre.length, y) = #[.int .i64 (pre.length : Int), .agg #[.int .i64 y.key, .int .i64 y.id]] := rfl
    simp only [hE]
    have hyl := ranked_get 0 (L.map Mem.it) pre pre.length y hpre
    rw [List.getElem?_map] at hyl
    obtain ⟨m, hml, rfl⟩ := Option.map_eq_some_iff.1 hyl
    have HML := Kit.hid hml
    have hplen : pre.length < L.length := (List.getElem?_eq_some_iff.1 hml).1
    clear hyl hml
    unfold Mem.it
    dsimp only
    gi_wp2
    refine ⟨(Below.refl _ W3).alloc (Nat.le_refl _) _, fun w₂ hI2 hs2 ho2 => ?_⟩
    rw [World.size_alloc] at hs2
    have hX := (ho2 _ (by omega)).trans (World.alloc_heap_new W3 _)
    have lX : W3.heap.size < w₂.heap.size := by omega
    obtain ⟨v, hN, hvb, hown, hvne, hbw⟩ := hI2.j
    obtain ⟨A, cap, rfl, _, _, _⟩ := own_readsS (by decide) hown
    have hqb := (hI2.same _ RA.out).trans HQB.out
    have HX := Kit.hid hX
    have HQB2 := Kit.hid hqb
    have HI2 := Kit.hid hI2
    have HBW := Kit.hid hbw
    have HNX := Kit.hid hN
    have HVB := Kit.hid hvb
    have HVN := Kit.hid hvne
    have HOX := Kit.hid hown
    have hsz := hbw.size
    have HO := Kit.hid (Nat.le_of_lt lX)
    have HNO : Hid (∀ j, (Value.slice A pre.length cap).ownBlock = some j → j ≠ w.heap.size ∧ j ≠ W3.heap.size ∧ w.heap.size ≤ j) := Kit.hid (fun j hj => ⟨fun e => hI2.off j (by rw [hN]; exact .inr hj) (by rw [e]; exact RA.out), fun e => by have := hN3 j (by rw [hN]; exact .inr hj); omega, (hown.lt j hj).1⟩)
    clear hX hI hI2 ho2 hN3 hpre hbw hN hvb hvne hown hs2 hqb
    have HS4 : Hid (∀ w' : World, (w'.heap[w.heap.size + 1]? = w₂.heap[w.heap.size + 1]? ∧ w'.heap[w.heap.size]? = w₂.heap[w.heap.size]? ∧ w'.heap[W3.heap.size]? = w₂.heap[W3.heap.size]? ∧ w'.heap[p]? = w₂.heap[p]? ∧ w'.heap[mb]? = w₂.heap[mb]?) →
        w'.cell? ⟨w.heap.size + 1, 0, none⟩ = some (.slice A pre.length cap) ∧ w'.cell? ⟨w.heap.size, 0, none⟩ = some (.pointer (some ⟨p, 0, none⟩)) ∧ w'.cell? ⟨W3.heap.size, 0, none⟩ = some (.int .i64 m.v) ∧ w'.cell? ⟨W3.heap.size, 1, none⟩ = some (.int .i64 m.id) ∧ w'.cell? ⟨p, 0, none⟩ = some (.map (some mb)) ∧
        (Instr.lookup 101 (.map (some mb)) (.int .i64 m.id) false).run Try.prog w' = .ok (.agg #[.int .i64 m.wt, .int .i64 m.v, .int .i64 m.rem]) w') := Kit.hid (fun w' h => by
      obtain ⟨h1, h2, h3, h4, h5⟩ := h
      have hmem : m ∈ L := List.mem_of_getElem? HML.out
      have hb := hq.each m hmem
      have hl := (HM.out.same (h5.trans (HBW.out.block mb HLM.out))).look false keyed Try.underlying101 (zero_mem w') (int_key (i := m.id) Try.underlying3 (by omega) (by omega))
      refine ⟨blk_cell (h1.trans HVB.out) 0, blk_cell (h2.trans HQB2.out) 0, blk_cell (h3.trans HX.out) 0, blk_cell (h3.trans HX.out) 1, blk_cell ((h4.trans (HBW.out.block p hlp)).trans HP.out) 0, ?_⟩
      rw [hl]
      simp [fmap, get_of HW.out hmem, mv])
    have HTD : Hid (∀ w', Below w₂.heap.size w₂ w' → Calls Try.prog 62 #[.pointer (some ⟨p, 0, none⟩), .int .i64 m.id, .agg #[.int .i64 m.wt, .int .i64 m.v, .int .i64 m.rem]] w' fun e w'' => e = .returned (.agg #[.int .i64 m.id, .int .i64 m.wt, .int .i64 (m.v - base), .int .i64 m.rem]) ∧ Below w'.heap.size w' w'') := Kit.hid (fun w' hb => by
      have hmem : m ∈ L := List.mem_of_getElem? HML.out
      have hbd := hq.each m hmem
      exact qtold_any m (HQ.out.below (HBW.out.trans (hb.mono HBW.out.size))) hq.b0 hq.b1 (by have := hq.b0; omega) (by omega))
    have HLX := Kit.hid lX
    have HLO := Kit.hid (blk_lt HVB.out)
    have hlen4 : L.length ≤ 4000 := by have := HLEN.out; omega
    gi_wp2
    refine wpIn_region_T (fun (w' : World) => w'.heap[w.heap.size + 1]? = w₂.heap[w.heap.size + 1]? ∧ w'.heap[w.heap.size]? = w₂.heap[w.heap.size]? ∧ w'.heap[W3.heap.size]? = w₂.heap[W3.heap.size]? ∧ w'.heap[p]? = w₂.heap[p]? ∧ w'.heap[mb]? = w₂.heap[mb]?) 14 (by kernel_rfl) (by simp) ⟨rfl, rfl, rfl, rfl, rfl⟩ (fun hHeld => ?_)
    refine wpAnyT_take (i := 0) (hi := by simp only [List.getElem?_toArray, List.getElem?_cons_succ, List.getElem?_cons_zero]; rfl) (v := ?_) (by kernel_rfl) (by kernel_rfl) (by kernel_rfl) (by kernel_rfl) (fun _ _ _ h => h) (Or.inl ⟨by rfl, ?_⟩) (by assumption) ?_
    rotate_left
    · (intro w hSw; (try dsimp only at hSw); (obtain ⟨z0, z1, z2, z3, z4, z5⟩ := HS4.out _ hSw); go_simp; first | done | with_reducible rfl)
    try simp only [Act.put, List.setIfInBounds_toArray, List.set_cons_zero, List.set_cons_succ]
    refine wpAnyT_take (i := 1) (hi := by simp only [List.getElem?_toArray, List.getElem?_cons_succ, List.getElem?_cons_zero]; rfl) (v := ?_) (by kernel_rfl) (by kernel_rfl) (by kernel_rfl) (by kernel_rfl) (fun _ _ _ h => h) (Or.inl ⟨by rfl, ?_⟩) (by assumption) ?_
    rotate_left
    · (intro w hSw; (try dsimp only at hSw); (obtain ⟨z0, z1, z2, z3, z4, z5⟩ := HS4.out _ hSw); go_simp; first | done | with_reducible rfl)
    try simp only [Act.put, List.setIfInBounds_toArray, List.set_cons_zero, List.set_cons_succ]
    refine wpAnyT_take (i := 2) (hi := by simp only [List.getElem?_toArray, List.getElem?_cons_succ, List.getElem?_cons_zero]; rfl) (v := ?_) (by kernel_rfl) (by kernel_rfl) (by kernel_rfl) (by kernel_rfl) (fun _ _ _ h => h) (Or.inl ⟨by rfl, ?_⟩) (by assumption) ?_
    rotate_left
    · (intro w hSw; (try dsimp only at hSw); go_simp; first | done | with_reducible rfl)
    try simp only [Act.put, List.setIfInBounds_toArray, List.set_cons_zero, List.set_cons_succ]
    refine wpAnyT_take (i := 3) (hi := by simp only [List.getElem?_toArray, List.getElem?_cons_succ, List.getElem?_cons_zero]; rfl) (v := ?_) (by kernel_rfl) (by kernel_rfl) (by kernel_rfl) (by kernel_rfl) (fun _ _ _ h => h) (Or.inl ⟨by rfl, ?_⟩) (by assumption) ?_
    rotate_left
    · (intro w hSw; (try dsimp only at hSw); (obtain ⟨z0, z1, z2, z3, z4, z5⟩ := HS4.out _ hSw); go_simp; first | done | with_reducible rfl)
    try simp only [Act.put, List.setIfInBounds_toArray, List.set_cons_zero, List.set_cons_succ]
    refine wpAnyT_take (i := 4) (hi := by simp only [List.getElem?_toArray, List.getElem?_cons_succ, List.getElem?_cons_zero]; rfl) (v := ?_) (by kernel_rfl) (by kernel_rfl) (by kernel_rfl) (by kernel_rfl) (fun _ _ _ h => h) (Or.inl ⟨by rfl, ?_⟩) (by assumption) ?_
    rotate_left
    · (intro w hSw; (try dsimp only at hSw); (obtain ⟨z0, z1, z2, z3, z4, z5⟩ := HS4.out _ hSw); go_simp; first | done | with_reducible rfl)
    try simp only [Act.put, List.setIfInBounds_toArray, List.set_cons_zero, List.set_cons_succ]
    refine wpAnyT_take (i := 5) (hi := by simp only [List.getElem?_toArray, List.getElem?_cons_succ, List.getElem?_cons_zero]; rfl) (v := ?_) (by kernel_rfl) (by kernel_rfl) (by kernel_rfl) (by kernel_rfl) (fun _ _ _ h => h) (Or.inl ⟨by rfl, ?_⟩) (by assumption) ?_
    rotate_left
    · (intro w hSw; (try dsimp only at hSw); (obtain ⟨z0, z1, z2, z3, z4, z5⟩ := HS4.out _ hSw); go_simp; first | done | with_reducible rfl)
    try simp only [Act.put, List.setIfInBounds_toArray, List.set_cons_zero, List.set_cons_succ]
    refine wpAnyT_take (i := 6) (hi := by simp only [List.getElem?_toArray, List.getElem?_cons_succ, List.getElem?_cons_zero]; rfl) (v := ?_) (by kernel_rfl) (by kernel_rfl) (by kernel_rfl) (by kernel_rfl) (fun _ _ _ h => h) (Or.inl ⟨by rfl, ?_⟩) (by assumption) ?_
    rotate_left
    · (intro w hSw; (try dsimp only at hSw); go_simp; first | done | with_reducible rfl)
    try simp only [Act.put, List.setIfInBounds_toArray, List.set_cons_zero, List.set_cons_succ]
    refine wpAnyT_take (i := 7) (hi := by simp only [List.getElem?_toArray, List.getElem?_cons_succ, List.getElem?_cons_zero]; rfl) (v := ?_) (by kernel_rfl) (by kernel_rfl) (by kernel_rfl) (by kernel_rfl) (fun _ _ _ h => h) (Or.inl ⟨by rfl, ?_⟩) (by assumption) ?_
    rotate_left
    · (intro w hSw; (try dsimp only at hSw); (obtain ⟨z0, z1, z2, z3, z4, z5⟩ := HS4.out _ hSw); go_simp; first | done | with_reducible rfl)
    try simp only [Act.put, List.setIfInBounds_toArray, List.set_cons_zero, List.set_cons_succ]
    refine wpAnyT_take (i := 8) (hi := by simp only [List.getElem?_toArray, List.getElem?_cons_succ, List.getElem?_cons_zero]; rfl) (v := ?_) (by kernel_rfl) (by kernel_rfl) (by kernel_rfl) (by kernel_rfl) (fun _ _ _ h => h) (Or.inl ⟨by rfl, ?_⟩) (by assumption) ?_
    rotate_left
    · (intro w hSw; (try dsimp only at hSw); go_simp; first | done | with_reducible rfl)
    try simp only [Act.put, List.setIfInBounds_toArray, List.set_cons_zero, List.set_cons_succ]
    refine wpAnyT_take (i := 9) (hi := by simp only [List.getElem?_toArray, List.getElem?_cons_succ, List.getElem?_cons_zero]; rfl) (v := ?_) (by kernel_rfl) (by kernel_rfl) (by kernel_rfl) (by kernel_rfl) (fun _ _ _ h => h) (Or.inl ⟨by rfl, ?_⟩) (by assumption) ?_
    rotate_left
    · (intro w hSw; (try dsimp only at hSw); (obtain ⟨z0, z1, z2, z3, z4, z5⟩ := HS4.out _ hSw); go_simp; first | done | with_reducible rfl)
    try simp only [Act.put, List.setIfInBounds_toArray, List.set_cons_zero, List.set_cons_succ]
    refine wpAnyT_take (i := 10) (hi := by simp only [List.getElem?_toArray, List.getElem?_cons_succ, List.getElem?_cons_zero]; rfl) (v := ?_) (by kernel_rfl) (by kernel_rfl) (by kernel_rfl) (by kernel_rfl) (fun _ _ _ h => h) (Or.inl ⟨by rfl, ?_⟩) (by assumption) ?_
    rotate_left
    · (intro w hSw; (try dsimp only at hSw); (obtain ⟨z0, z1, z2, z3, z4, z5⟩ := HS4.out _ hSw); go_simp; first | done | with_reducible rfl)
    try simp only [Act.put, List.setIfInBounds_toArray, List.set_cons_zero, List.set_cons_succ]
    refine wpAnyT_step (i := 11) (by kernel_rfl) (ho := by simp only [List.getElem?_toArray, List.getElem?_cons_succ, List.getElem?_cons_zero]; rfl) (fun K hK => ?_)
    go_simp
    go_at_call 62; (with_reducible refine (HTD.out _ (Below.refl _ w₂).drew).mono ?_); rintro e w6 ⟨rfl, hd6⟩
    have HD6 : Hid (Below w₂.heap.size w₂ w6) := Kit.hid ((Below.refl _ w₂).drew.trans hd6)
    clear hd6
    go_wp2_with fail
    refine hK.out _ _ ?_ (fun hHeldN => ?_)
    · exact ⟨HD6.out.block _ HLO.out, HD6.out.block _ (by omega), HD6.out.block _ HLX.out, HD6.out.block _ (by omega), HD6.out.block _ (by have := HLM.out; omega)⟩
    clear hHeld
    have hHeld := hHeldN
    clear hHeldN
    clear hK K
    try simp only [Act.put, List.setIfInBounds_toArray, List.set_cons_zero, List.set_cons_succ]
    refine wpAnyT_step (i := 12) (by kernel_rfl) (ho := by simp only [List.getElem?_toArray, List.getElem?_cons_succ, List.getElem?_cons_zero]; rfl) (fun K hK => ?_)
    go_simp
    go_wp2_with fail
    have HD7 : Hid (Below w₂.heap.size w₂ (w6.alloc (.cells #[.int .i64 m.id, .int .i64 m.wt, .int .i64 (m.v - base), .int .i64 m.rem] 35))) := Kit.hid (HD6.out.alloc HD6.out.size _)
    have HOW7 := Kit.hid (own_belowS HOX.out HD7.out)
    refine hK.out _ _ ?_ (fun hHeldN => ?_)
    · exact ⟨HD7.out.block _ HLO.out, HD7.out.block _ (by omega), HD7.out.block _ HLX.out, HD7.out.block _ (by omega), HD7.out.block _ (by have := HLM.out; omega)⟩
    clear hHeld
    have hHeld := hHeldN
    clear hHeldN
    clear hK K
    try simp only [Act.put, List.setIfInBounds_toArray, List.set_cons_zero, List.set_cons_succ]
    refine wpAnyT_step (i := 13) (by kernel_rfl) (ho := by simp only [List.getElem?_toArray, List.getElem?_cons_succ, List.getElem?_cons_zero]; rfl) (fun K hK => ?_)
    refine step_append_srcS rfl _ _ 39 rfl w.heap.size 35 (.agg #[.int .i64 0, .int .i64 0, .int .i64 0, .int .i64 0]) 4 32 (by decide) Try.underlying39 infoMb rfl _ pre.length _ (by simp [Act.eval, Act.put]) HOW7.out (some ⟨w6.heap.size, 0, none⟩) 1 1 [.int .i64 m.id, .int .i64 m.wt, .int .i64 (m.v - base), .int .i64 m.rem] (by simp [Act.eval, Act.put]) rfl (litMb w6 _ _ _ _) (by simp [Value.oneCell']) (by unfold maxLen; omega) (by omega) (by have := HD6.out.size; simp; omega) ?_
    intro v' w5 hown' hgrow hvb'
    obtain ⟨g', cap', rfl⟩ := ownsRow_succ hown'
    have HG5 := Kit.hid hgrow
    obtain ⟨hz1, hz2, hz3, M5, hz4, hz5⟩ := AllI.snoc (x := (pre.length, m.it)) (tO := 39) (by omega) HO.out HML.out HNX.out HVB.out HOX.out HVN.out HBW.out HD7.out hown' hgrow hvb'
    have cO5 : w5.cell? ⟨w.heap.size + 1, 0, none⟩ = some (.slice A pre.length cap) := blk_at hz1 0
    have fO5 : w5.frozen? ⟨w.heap.size + 1, 0, none⟩ = false := blk_frozen hz1 0
    have lO5 := blk_lt hz1
    have HZ1 := Kit.hid hz1
    have HZ2 := Kit.hid hz2
    have HZ4 := Kit.hid (hz4.of_below HO.out)
    have HZ5 := Kit.hid (HI2.out.step (fun k h => (HRlt.out k h).1) hz3 hz4 hz5)
    clear hown' hgrow hvb' hz1 hz2 hz3 hz4 hz5
    refine hK.out _ _ ?_ (fun hHeldN => ?_)
    · exact ⟨HZ1.out.trans HVB.out.symm, (HG5.out.block _ (by have := HD7.out.size; omega) (fun e => (HNO.out _ e.symm).1 rfl)).trans (HD7.out.block _ (by omega)), (HG5.out.block _ (by have := HD7.out.size; have := HLX.out; omega) (fun e => (HNO.out _ e.symm).2.1 rfl)).trans (HD7.out.block _ HLX.out), (HG5.out.block _ (by have := HD7.out.size; omega) (fun e => by have := (HNO.out _ e.symm).2.2; omega)).trans (HD7.out.block _ (by omega)), (HG5.out.block _ (by have := HD7.out.size; have := HLM.out; omega) (fun e => by have := (HNO.out _ e.symm).2.2; have := HLM.out; omega)).trans (HD7.out.block _ (by have := HLM.out; omega))⟩
    clear hHeld
    have hHeld := hHeldN
    clear hHeldN
    clear hK K
    try simp only [Act.put, List.setIfInBounds_toArray, List.set_cons_zero, List.set_cons_succ]
    refine wpAnyT_last (by kernel_rfl) (ho := by simp only [List.getElem?_toArray, List.getElem?_cons_succ, List.getElem?_cons_zero]; rfl) (fun K hK => ?_)
    go_simp
    go_wp2_with fail
    refine hK.out _ _ ?_
    clear hK K
    try simp only [Act.put, List.setIfInBounds_toArray, List.set_cons_zero, List.set_cons_succ]
    clear hHeld
    refine wpAnyT_done (by kernel_rfl) ?_ _
    dsimp only
    skip
    gi_wp2
    exact ⟨HZ2.out, M5, HZ4.out, HZ5.out⟩
  case done =>
    intro D M3 W3 hD hMD hI3 hK
    obtain ⟨v, hN, hvb, hown, hvne, hbw⟩ := hI3.j
    rw [ranked_length, List.length_map, List.take_length] at hown
    obtain ⟨A, cap, rfl, _, _, _⟩ := own_readsS (by decide) hown
    have cO : W3.cell? ⟨w.heap.size + 1, 0, none⟩ = some (.slice A L.length cap) := blk_at hvb 0
    have lO : w.heap.size + 1 < W3.heap.size := (Array.getElem?_eq_some_iff.1 hvb).1
    have HOW : Hid ((W3.putObj D (.deferred none)).ownsRow w.heap.size 35 4 (.slice A L.length cap) L.length (flatM base L)) := Kit.hid (own_same hown (fun g hg => by
      have hgD : g ≠ D := fun e => hMD (by rw [hN]; exact .inr (by rw [← e]; exact hg))
      rw [World.putObj_heap_other hgD]))
    have HBF : Hid (Below w.heap.size w (W3.putObj D (.deferred none))) := Kit.hid (hbw.trans ⟨rfl, rfl, rfl, by simp, fun k hk => World.putObj_heap_other (by omega)⟩)
    clear hI3 hN hvb hown hvne hbw
    gi_wp2
    exact leaves_mark hK ⟨_, results_tmp rfl _ _ _, .slice A L.length cap, rfl, HOW.out, HBF.out⟩
end Go.Proofs.Ytpgfenelckonoaa.Qu
