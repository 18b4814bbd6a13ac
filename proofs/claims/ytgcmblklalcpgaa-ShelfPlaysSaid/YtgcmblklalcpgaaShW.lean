/- The walk of told: all the items of a shelf, in a row of their own. -/
import Derived.Test.YtgcmblklalcpgaaShV
import Derived.Test.YtgcmblklalcpgaaShR
namespace Go.Proofs.Ytgcmblklalcpgaa.Kit
open Go.RowKit
set_option linter.unusedVariables false
theorem wpListIn_append_srcS {F : Fence} {m' : Nat} {P : Program} {w : World} {ops : Array Oper} {rest : List Oper} {o : Oper} {a : Act} {Q : Exit → Act → World → Prop} (hgd : o.guard = none) (s x : Operand) (t : TypeId)
    (ho : o.op = .call { callee := .builtin .append, args := #[s, x], argTypes := #[t, t] })
    (base : Nat) (e : TypeId) (z : Value) (size bytes : Nat) (hs0 : 0 < size) (ht : P.underlying t = some (.slice e)) (hinfo : (P.info? e).map (fun i => (i.zero, i.size, i.bytes)) = some (some z, size, bytes)) (hzs : z.cells.size = size)
    (v : Value) (n : Nat) (xs : List Value) (hs : a.eval s = v) (hown : w.ownsRow base e size v n xs)
    (A : Option Addr) (m c : Nat) (news : List Value) (hx : a.eval x = .slice A m c) (hl : news.length = m * size) (hnews : Cells w A news) (h1 : ∀ u ∈ news, u.oneCell' = true)
    (h63 : n + m ≤ maxLen) (hbytes : (n + m) * bytes ≤ 140737488355328) (hbase : base ≤ w.heap.size)
    (h : ∀ v' w', w'.ownsRow base e size v' (n + m) (xs ++ news) → w.grownBy w' v.ownBlock → (v'.ownBlock = v.ownBlock ∨ v'.ownBlock = some w.heap.size) → wpListIn F m' P ops Q rest (a.put o.dst v') w') : wpListIn F m' P ops Q (o :: rest) a w := by
  refine wpListIn_plain hgd fun K hK' => ?_
  obtain ⟨i, hi, hz, hsize, hby⟩ := info_ofS hinfo
  obtain ⟨v', w', hr, h2, h3, h4⟩ := run_append_srcS (P := P) base t o.type e i z size bytes hs0 ht hi hz hsize hby hzs v n xs hown A m c news hl hnews h1 h63 hbytes hbase
  unfold Oper.wpIn
  refine ⟨?_, ?_⟩
  · simp [Oper.about, ho, resolve, Target.leads, Sem.run_pure]
  · rw [Oper.semAt_plain F _ _ (by rw [ho]; intro c hc'; cases hc')]
    simp [execOp, ho, resolve, invoke, builtin, hs, hx, hr, Result.andThen]
    exact hK' _ _ (h v' w' h2 h3 h4)
theorem own_same {w w' : World} {base : Nat} {e : TypeId} {size : Nat} {v : Value} {n : Nat} {xs : List Value} (h : w.ownsRow base e size v n xs) (hs : ∀ g, v.ownBlock = some g → w'.heap[g]? = w.heap[g]?) : w'.ownsRow base e size v n xs := by
  refine ⟨h.1, ?_⟩
  rcases h.2 with ⟨rfl, h0⟩ | ⟨g, cap, cur, rfl, h1, h2, h3⟩
  · exact .inl ⟨rfl, h0⟩
  · exact .inr ⟨g, cap, cur, rfl, h1, (hs g rfl).trans h2, h3⟩
theorem results_cell_cell {fn : Func} {p u : Tmp} {tp tu : TypeId} (h : fn.results = #[.cell p tp, .cell u tu]) (tmps : Array Value) (P : Program) (w : World) {a b : Addr} {v v' : Value} (ha : tmps.getD p undef = .pointer (some a)) (hb : tmps.getD u undef = .pointer (some b))
    (hv : (loadVar tp a).run P w = .ok v w) (hv' : (loadVar tu b).run P w = .ok v' w) : (results fn tmps).run P w = .ok (.tuple #[v, v']) w := by
  have ha' : tmps[p]?.getD undef = .pointer (some a) := by simpa using ha
  have hb' : tmps[u]?.getD undef = .pointer (some b) := by simpa using hb
  simp only [results, h]
  simp [Sem.run_bind, Result.andThen, ha', hb', asAddr, hv, hv']
end Go.Proofs.Ytgcmblklalcpgaa.Kit
namespace Go.Proofs.Ytgcmblklalcpgaa.Sh
open Go.RowKit Go.Shelf Go.Proofs.Ytgcmblklalcpgaa.Kit Go.Proofs.Ytgcmblklalcpgaa.ShM Go.Proofs.Ytgcmblklalcpgaa.Seq
set_option linter.unusedVariables false
set_option linter.unusedSimpArgs false
attribute [local go_sem] Oper.semAt_some
theorem items_look {w0 w : World} {S0 : Nat → Prop} {p n : Nat} {l : List It} (h : Items w0 S0 w p l n) (hn : n ≤ 1099511627776) : ∃ gl, p < w.heap.size ∧ gl < w.heap.size ∧ l.length ≤ n ∧ ∀ (sb : Nat) (W' : World), Below w.heap.size w W' → W'.cell? ⟨sb, 0, none⟩ = some (.pointer (some ⟨p, 0, none⟩)) →
    SeqAt Try.prog 33 #[.pointer (some ⟨sb, 0, none⟩)] encR (ranked 0 l) (allRd p gl sb) W' := by
  have hl := h.length
  obtain ⟨t, ⟨gl, cl, vf, L, F, hH⟩, rfl, _⟩ := h
  have lp := hH.sh.plt
  have lg := hH.sh.glt
  refine ⟨gl, lp, lg, hl, fun sb W' hb hs => ?_⟩
  have hLw : Looks p gl cl L w := ⟨hH.sh.pcells.1, fun i n hi => hH.sh.ncells hi⟩
  exact all_seq p gl cl L t n ⟨_, hH.zero⟩ (Nat.le_trans hH.len hn) hH.fit.holds hH.fit.pos (Nat.le_trans hl hn) sb W' (hLw.same (hb.block _ lp) (hb.block _ lg)) ((cell_same (hb.block _ lp) 1).trans hH.sh.pcells.2.1) hs (by have := hb.size; omega)
def flatI (l : List It) : List Value := l.flatMap fun x => [.int .i64 x.key, .int .i64 x.id]
theorem flatI_snoc (l : List It) (x : It) : flatI (l ++ [x]) = flatI l ++ [.int .i64 x.key, .int .i64 x.id] := by simp [flatI]
theorem infoIt : (Try.prog.info? 24).map (fun i => (i.zero, i.size, i.bytes)) = some (some (.agg #[.int .i64 0, .int .i64 0]), 2, 16) := by kernel_rfl
theorem ranked_at : ∀ (k : Nat) (l : List It) (pre : List (Nat × It)) (e : Nat × It), pre ++ [e] <+: ranked k l → e.1 = k + pre.length
  | k, [], pre, e, h => by have := h.length_le; simp [ranked] at this
  | k, x :: l, [], e, h => by
    obtain ⟨q, hq⟩ := h
    simp only [ranked, List.nil_append, List.cons_append, List.cons.injEq] at hq
    rw [hq.1]; simp
  | k, x :: l, y :: pre, e, h => by
    obtain ⟨q, hq⟩ := h
    simp only [ranked, List.cons_append, List.cons.injEq] at hq
    have := ranked_at (k + 1) l pre e ⟨q, hq.2⟩
    simp only [List.length_cons]
    omega
theorem ranked_length : ∀ (k : Nat) (l : List It), (ranked k l).length = l.length
  | _, [] => rfl
  | k, x :: l => by simp [ranked, ranked_length (k + 1) l]
theorem ranked_snd : ∀ (k : Nat) (l : List It), (ranked k l).map Prod.snd = l
  | _, [] => rfl
  | k, x :: l => by simp [ranked, ranked_snd (k + 1) l]
theorem ranked_pre : ∀ (k : Nat) (l : List It) (pre : List (Nat × It)), pre <+: ranked k l → pre.map Prod.snd <+: l := fun k l pre h => by
  obtain ⟨q, hq⟩ := h
  refine ⟨q.map Prod.snd, ?_⟩
  rw [← List.map_append, hq, ranked_snd]
/-- What told's loop keeps. -/
def ToldI (w : World) (ob : Nat) (tO : TypeId) : (Nat → Prop) → List (Nat × It) → World → Prop := fun M pre W => ∃ v, M = (fun k => k = ob ∨ v.ownBlock = some k) ∧ W.heap[ob]? = some (.cells #[v] tO (0, 0)) ∧ W.ownsRow w.heap.size 24 2 v pre.length (flatI (pre.map Prod.snd)) ∧ v.ownBlock ≠ some ob ∧ Below w.heap.size w W
theorem ToldI.abide {w : World} {ob : Nat} {tO : TypeId} {B : Nat} (hB : w.heap.size ≤ B) : Abide B (ToldI w ob tO) := by
  rintro M s A A' ⟨v, rfl, h1, h2, h3, h4⟩ hag
  refine ⟨v, rfl, (hag.same ob (Array.getElem?_eq_some_iff.1 h1).1 (.inr (.inl rfl))).trans h1, own_same h2 (fun g hg => hag.same g (h2.lt g hg).2 (.inr (.inr hg))), h3, ?_⟩
  exact ⟨hag.os.trans h4.os, hag.tape.trans h4.tape, hag.output.trans h4.output, Nat.le_trans h4.size hag.size, fun k hk => (hag.same k (by have := h4.size; omega) (.inl (by omega))).trans (h4.block k hk)⟩
theorem litIt (w : World) (x : It) : Cells (w.alloc (.cells #[.int .i64 x.key, .int .i64 x.id] 24)) (some ⟨w.heap.size, 0, none⟩) [.int .i64 x.key, .int .i64 x.id] := by
  have h := World.ownsRow_lit (base := 0) (e := 24) (size := 2) w #[.int .i64 x.key, .int .i64 x.id] 1 (Nat.zero_le _) (by decide) rfl
  obtain ⟨A, cap, hv, hc, _⟩ := own_readsS (by decide) h
  cases hv
  exact hc
/-- One more is told. -/
theorem ToldI.snoc {w w₂ w5 : World} {ob : Nat} {tO : TypeId} {A : Option Addr} {cap g' cap' : Nat} {pre : List (Nat × It)} {y : It} {k : Nat} {tmp : Obj} {N : Nat → Prop} {S : Nat} (hob : w.heap.size ≤ ob) (hS : S ≤ w₂.heap.size)
    (hN : N = fun k => k = ob ∨ (Value.slice A pre.length cap).ownBlock = some k) (hvb : w₂.heap[ob]? = some (.cells #[.slice A pre.length cap] tO (0, 0))) (hown : w₂.ownsRow w.heap.size 24 2 (.slice A pre.length cap) pre.length (flatI (pre.map Prod.snd))) (hne : (Value.slice A pre.length cap).ownBlock ≠ some ob) (hb : Below w.heap.size w w₂)
    (ho : w5.ownsRow w.heap.size 24 2 (.slice (some ⟨g', 0, none⟩) (pre.length + 1) cap') (pre.length + 1) (flatI (pre.map Prod.snd) ++ [.int .i64 y.key, .int .i64 y.id])) (hg : (w₂.alloc tmp).grownBy w5 (Value.slice A pre.length cap).ownBlock) (hv : (Value.slice (some ⟨g', 0, none⟩) (pre.length + 1) cap').ownBlock = (Value.slice A pre.length cap).ownBlock ∨ (Value.slice (some ⟨g', 0, none⟩) (pre.length + 1) cap').ownBlock = some (w₂.alloc tmp).heap.size) :
    w5.heap[ob]? = some (.cells #[.slice A pre.length cap] tO (0, 0)) ∧
      Lie (fun k => N k ∨ S ≤ k) w₂ (w5.setCell ⟨ob, 0, none⟩ (.slice (some ⟨g', 0, none⟩) (pre.length + 1) cap')) ∧ Lie N w₂ (w5.setCell ⟨ob, 0, none⟩ (.slice (some ⟨g', 0, none⟩) (pre.length + 1) cap')) ∧ ∃ M', Grows N M' w₂ (w5.setCell ⟨ob, 0, none⟩ (.slice (some ⟨g', 0, none⟩) (pre.length + 1) cap')) ∧ ToldI w ob tO M' (pre ++ [(k, y)]) (w5.setCell ⟨ob, 0, none⟩ (.slice (some ⟨g', 0, none⟩) (pre.length + 1) cap')) := by
  have lo := (Array.getElem?_eq_some_iff.1 hvb).1
  have h5 : w5.heap[ob]? = some (.cells #[.slice A pre.length cap] tO (0, 0)) := (hg.block ob (by simp; omega) (fun e => hne e.symm)).trans ((Below.heap_alloc _ _ _ lo).trans hvb)
  have hs5 : (w5.setCell ⟨ob, 0, none⟩ (.slice (some ⟨g', 0, none⟩) (pre.length + 1) cap')).heap.size = w5.heap.size := by simp [World.setCell]
  have hz := hg.size
  rw [World.size_alloc] at hz hv
  have hne' : g' ≠ ob := by
    rcases hv with hv | hv
    · exact fun e => hne (by rw [← hv, e]; rfl)
    · have : g' = w₂.heap.size + 1 := by simpa [Value.ownBlock] using hv
      omega
  have hlie : Lie N w₂ (w5.setCell ⟨ob, 0, none⟩ (.slice (some ⟨g', 0, none⟩) (pre.length + 1) cap')) := by
    refine ⟨by rw [hs5]; omega, fun j hj hn => ?_⟩
    rw [hN] at hn
    rw [Below.heap_setCell _ _ _ j (fun e => hn (.inl e)), hg.block j (by simp; omega) (fun e => hn (.inr e.symm)), Below.heap_alloc _ _ _ hj]
  have hown' := ho.lt g' rfl
  refine ⟨h5, hlie.mono (fun k h => .inl h), hlie, fun j => j = ob ∨ (Value.slice (some ⟨g', 0, none⟩) (pre.length + 1) cap').ownBlock = some j, fun j hj => ?_, _, rfl, ?_, ?_, ?_, ?_⟩
  · rw [hs5, hN]
    rcases hj with rfl | hj
    · exact ⟨by omega, .inl (.inl rfl)⟩
    · obtain rfl : g' = j := by simpa [Value.ownBlock] using hj
      refine ⟨hown'.2, ?_⟩
      rcases hv with hv | hv
      · exact .inl (.inr (by rw [← hv]; rfl))
      · have : g' = w₂.heap.size + 1 := by simpa [Value.ownBlock] using hv
        exact .inr (by omega)
  · exact (blk_put h5 0 _ rfl).trans (by simp)
  · rw [List.length_append, List.map_append, List.map_cons, List.map_nil, flatI_snoc]
    exact own_same ho (fun g hg => by
      obtain rfl : g' = g := by simpa [Value.ownBlock] using hg
      exact Below.heap_setCell _ _ _ _ hne')
  · simp [Value.ownBlock, hne']
  · have hb5 : Below w.heap.size w w5 := (hb.alloc hb.size tmp).grown hg (by have := hb.size; simp; omega) (fun k hk => (hown.lt k hk).1)
    exact hb5.setCell (p := ⟨ob, 0, none⟩) hob _
set_option maxHeartbeats 4000000 in
theorem told_any {w0 w : World} {S0 : Nat → Prop} {p n : Nat} {l : List It} (h : Items w0 S0 w p l n) (hn : n ≤ 1099511627776) :
    Calls Try.prog 25 #[.pointer (some ⟨p, 0, none⟩)] w fun e w' => ∃ v, e = .returned (.tuple #[v, .bool true]) ∧ w'.ownsRow w.heap.size 24 2 v l.length (flatI l) ∧ Below w.heap.size w w' := by
  obtain ⟨gl, lp, lg, hll, hS⟩ := items_look h hn
  have HS := Kit.hid hS
  clear h hS
  refine (callsIn_wide (n := 3)).1 ?_
  refine callsIn_of_wp_marks Try.func25 rfl trivial ?_ rfl
  simp only [Try.ntmps25, List.size_toArray, List.length_cons, List.length_nil, Nat.reduceAdd, Nat.reduceSub, Array.replicate_succ, Array.replicate_zero, List.push_toArray, List.append_toArray, List.nil_append, List.cons_append]
  gi_wp2
  generalize hW2 : World.alloc (World.alloc (World.alloc w _) _) _ = W2
  have sz2 : W2.heap.size = w.heap.size + 1 + 1 + 1 := by rw [← hW2]; simp
  have hr2 : W2.heap[w.heap.size]? = some (.cells #[.slice none 0 0] 39 (0, 0)) := by rw [← hW2]; exact (Below.heap_alloc _ _ _ (by simp; omega)).trans ((Below.heap_alloc _ _ _ (by simp)).trans (World.alloc_heap_new w _))
  have hr3 : W2.heap[w.heap.size + 1]? = some (.cells #[.bool false] 4 (0, 0)) := by
    rw [← hW2]
    refine (Below.heap_alloc _ _ _ (by simp)).trans ?_
    have := World.alloc_heap_new (w.alloc (.cells #[.slice none 0 0] 39)) (.cells #[.bool false] 4)
    rwa [World.size_alloc] at this
  have hob : W2.heap[w.heap.size + 1 + 1]? = some (.cells #[.slice none 0 0] 39 (0, 0)) := by
    rw [← hW2]
    have := World.alloc_heap_new ((w.alloc (.cells #[.slice none 0 0] 39)).alloc (.cells #[.bool false] 4)) (.cells #[.slice none 0 0] 39)
    rwa [World.size_alloc, World.size_alloc] at this
  have hb2 : Below w.heap.size w W2 := by rw [← hW2]; exact (((Below.refl _ w).alloc (Nat.le_refl _) _).alloc (by simp) _).alloc (by simp; omega) _
  clear hW2
  refine ⟨trivial, (callsIn_wide.2 (all_mk p _)).mono ?_⟩
  rintro e wB ⟨rfl, hbB, hsB, hB0⟩
  dsimp only
  rw [sz2] at hsB hB0 hbB ⊢
  have hbWB : Below w.heap.size w wB := hb2.trans (hbB.mono (by omega))
  have HS1 : Hid (∀ W', Below wB.heap.size wB W' → SeqAt Try.prog 33 #[.pointer (some ⟨w.heap.size + 1 + 1 + 1, 0, none⟩)] encR (ranked 0 l) (allRd p gl (w.heap.size + 1 + 1 + 1)) W') :=
    Kit.hid fun W' hb => HS.out _ W' (hbWB.trans (hb.mono hbWB.size)) ((cell_same (hb.block _ (by omega)) 0).trans (blk_at hB0 0))
  have HR2 := Kit.hid ((hbB.block _ (by omega)).trans hr2)
  have HR3 := Kit.hid ((hbB.block _ (by omega)).trans hr3)
  have HOB := Kit.hid ((hbB.block _ (by omega)).trans hob)
  obtain ⟨R, hR⟩ : ∃ R : Nat → Prop, R = fun k => k = w.heap.size ∨ k = w.heap.size + 1 := ⟨_, rfl⟩
  have HRlt : Hid (∀ k, R k → k < wB.heap.size ∧ k < wB.heap.size) := Kit.hid (fun k h => by rw [hR] at h; omega)
  have RA : Hid (R w.heap.size) := Kit.hid (by rw [hR]; exact .inl rfl)
  have RB : Hid (R (w.heap.size + 1)) := Kit.hid (by rw [hR]; exact .inr rfl)
  have HM0 : Hid (∀ k, (k = w.heap.size + 1 + 1 ∨ Value.ownBlock (.slice none 0 0) = some k) → k = w.heap.size + 1 + 1 ∧ ¬ R k) := Kit.hid (fun k hk => by
    rcases hk with hk | hk
    · exact ⟨hk, fun h => by rw [hR] at h; omega⟩
    · cases hk)
  have H2 : Hid (ToldI w (w.heap.size + 1 + 1) 39 (fun k => k = w.heap.size + 1 + 1 ∨ Value.ownBlock (.slice none 0 0) = some k) [] wB) := Kit.hid ⟨_, rfl, HOB.out, ⟨rfl, .inl ⟨rfl, rfl⟩⟩, (fun e => by cases e), hbWB⟩
  clear hR hr2 hr3 hob hB0
  gi_wp2
  refine wpIn_rangeO (gf := 33) (lb := #[.pointer (some ⟨w.heap.size + 1 + 1 + 1, 0, none⟩)]) rfl (enters_of Try.func33 (by kernel_rfl) rfl)
    (encs := encR) (xs := ranked 0 l) (Rd := allRd p gl (w.heap.size + 1 + 1 + 1)) HS1.out (fun _ => rfl)
    (Held R wB (ToldI w (w.heap.size + 1 + 1) 39)) (fun _ _ _ _ => False) (Held.abide (ToldI.abide hbWB.size) (Nat.le_refl _) HRlt.out) (fun c N s A A' h hag => h)
    (fun k => k = w.heap.size + 1 + 1 ∨ Value.ownBlock (.slice none 0 0) = some k) (fun k hk => ?_) (fun k hk => ?_) ⟨H2.out, fun k hk => (HM0.out k hk).2, fun k hk => ?_, Nat.le_refl _, fun _ _ => rfl⟩ ?round ?done ?stop
  · have := (HM0.out k hk).1
    refine ⟨by omega, fun h => ?_⟩
    rcases h with h | h | h <;> omega
  · rcases hk with h | h | h <;> omega
  · have := (HM0.out k hk).1
    omega
  case stop =>
    rintro D M3 c pre W3 hD hMD hpre h
    exact h.elim
  case round =>
    rintro m l' N pre ⟨ry, y⟩ W3 hpre hI hN3 hl1 hl2 hnl
    obtain rfl : ry = pre.length := by have := ranked_at 0 l pre (ry, y) hpre; simpa using this
    have hE : encR (pre.length, y) = #[.int .i64 (pre.length : Int), .agg #[.int .i64 y.key, .int .i64 y.id]] := rfl
    simp only [hE]
    gi_wp2
    refine ⟨(Below.refl _ W3).alloc (Nat.le_refl _) _, fun w₂ hI2 hs2 ho2 => ?_⟩
    rw [World.size_alloc] at hs2
    have hX := (ho2 _ (by omega)).trans (World.alloc_heap_new W3 _)
    have cX0 : w₂.cell? ⟨W3.heap.size, 0, none⟩ = some (.int .i64 y.key) := blk_at hX 0
    have cX1 : w₂.cell? ⟨W3.heap.size, 1, none⟩ = some (.int .i64 y.id) := blk_at hX 1
    have lX : W3.heap.size < w₂.heap.size := by omega
    obtain ⟨v, hN, hvb, hown, hvne, hbw⟩ := hI2.j
    obtain ⟨A, cap, rfl, _, _, _⟩ := own_readsS (by decide) hown
    have cO : w₂.cell? ⟨w.heap.size + 1 + 1, 0, none⟩ = some (.slice A pre.length cap) := blk_at hvb 0
    have lO : w.heap.size + 1 + 1 < w₂.heap.size := (Array.getElem?_eq_some_iff.1 hvb).1
    have hplen : pre.length < l.length := by have := hpre.length_le; rw [ranked_length] at this; simp at this; omega
    have HI2 := Kit.hid hI2
    have HO := Kit.hid (Nat.le_of_lt lX)
    have HOW := Kit.hid (own_belowS hown ((Below.refl _ w₂).alloc (Nat.le_refl _) (.cells #[.int .i64 y.key, .int .i64 y.id] 24)))
    have HBW := Kit.hid hbw
    have HNX := Kit.hid hN
    have HVB := Kit.hid hvb
    have HVN := Kit.hid hvne
    have HOX := Kit.hid hown
    have HLIT := Kit.hid (litIt w₂ y)
    have hsz := hbw.size
    clear hX hI hI2 ho2 hN3 hpre hbw hN hvb hvne hown hs2
    gi_wp2_with (gi_at_builtin; refine wpListIn_append_srcS rfl _ _ 39 rfl w.heap.size 24 (.agg #[.int .i64 0, .int .i64 0]) 2 16 (by decide) Try.underlying39 infoIt rfl (.slice A pre.length cap) pre.length _ rfl HOW.out (some ⟨w₂.heap.size, 0, none⟩) 1 1 [.int .i64 y.key, .int .i64 y.id] rfl rfl HLIT.out (by simp [Value.oneCell']) (by unfold maxLen; omega) (by omega) (by simp; omega) ?_; intro v' w5 hown' hgrow hvb'; obtain ⟨g', cap', rfl⟩ := ownsRow_succ hown'; obtain ⟨hz1, hz2, hz3, M5, hz4, hz5⟩ := ToldI.snoc (k := pre.length) (y := y) (tO := 39) (by omega) HO.out HNX.out HVB.out HOX.out HVN.out HBW.out hown' hgrow hvb'; have cO5 : w5.cell? ⟨w.heap.size + 1 + 1, 0, none⟩ = some (.slice A pre.length cap) := blk_at hz1 0; have fO5 : w5.frozen? ⟨w.heap.size + 1 + 1, 0, none⟩ = false := blk_frozen hz1 0; have lO5 := blk_lt hz1; have HZ2 := Kit.hid hz2; have HZ4 := Kit.hid (hz4.of_below HO.out); have HZ5 := Kit.hid (HI2.out.step (fun k h => (HRlt.out k h).1) hz3 hz4 hz5); clear hown' hgrow hvb' hz1 hz2 hz3 hz4 hz5)
    exact ⟨HZ2.out, M5, HZ4.out, HZ5.out⟩
  case done =>
    intro D M3 W3 hD hMD hI3 hK
    obtain ⟨v, hN, hvb, hown, hvne, hbw⟩ := hI3.j
    rw [ranked_length, ranked_snd] at hown
    obtain ⟨A, cap, rfl, _, _, _⟩ := own_readsS (by decide) hown
    have cO : W3.cell? ⟨w.heap.size + 1 + 1, 0, none⟩ = some (.slice A l.length cap) := blk_at hvb 0
    have lO : w.heap.size + 1 + 1 < W3.heap.size := (Array.getElem?_eq_some_iff.1 hvb).1
    have h2 := (hI3.same _ RA.out).trans HR2.out
    have h3 := (hI3.same _ RB.out).trans HR3.out
    have cA : W3.cell? ⟨w.heap.size, 0, none⟩ = some (.slice none 0 0) := blk_at h2 0
    have fA : W3.frozen? ⟨w.heap.size, 0, none⟩ = false := blk_frozen h2 0
    have cB : W3.cell? ⟨w.heap.size + 1, 0, none⟩ = some (.bool false) := blk_at h3 0
    have fB : W3.frozen? ⟨w.heap.size + 1, 0, none⟩ = false := blk_frozen h3 0
    have lA : w.heap.size < W3.heap.size := by omega
    have lB : w.heap.size + 1 < W3.heap.size := by omega
    have q2 := blk_far (blk_put h2 0 (.slice A l.length cap) (cs' := #[.slice A l.length cap]) rfl) (p := ⟨w.heap.size + 1, 0, none⟩) (by simp) (.bool true)
    have q3 := blk_put (blk_far h3 (p := ⟨w.heap.size, 0, none⟩) (by simp) (.slice A l.length cap)) 0 (.bool true) (cs' := #[.bool true]) rfl
    have n2 : (Value.slice A l.length cap).ownBlock ≠ some w.heap.size := fun e => hI3.off w.heap.size (by rw [hN]; exact .inr e) RA.out
    have n3 : (Value.slice A l.length cap).ownBlock ≠ some (w.heap.size + 1) := fun e => hI3.off (w.heap.size + 1) (by rw [hN]; exact .inr e) RB.out
    obtain ⟨Wf, hWf⟩ : ∃ Wf, Wf = ((W3.setCell ⟨w.heap.size, 0, none⟩ (.slice A l.length cap)).setCell ⟨w.heap.size + 1, 0, none⟩ (.bool true)).putObj D (.deferred none) := ⟨_, rfl⟩
    have hKf : ((W3.setCell ⟨w.heap.size, 0, none⟩ (.slice A l.length cap)).setCell ⟨w.heap.size + 1, 0, none⟩ (.bool true)).heap[D]? = some (.deferred (some [])) := blk_far (blk_far hK (p := ⟨w.heap.size, 0, none⟩) (by simp; omega) _) (p := ⟨w.heap.size + 1, 0, none⟩) (by simp; omega) _
    have f2 : Wf.heap[w.heap.size]? = some (.cells #[.slice A l.length cap] 39 (0, 0)) := by rw [hWf]; exact (World.putObj_heap_other (by omega)).trans q2
    have f3 : Wf.heap[w.heap.size + 1]? = some (.cells #[.bool true] 4 (0, 0)) := by rw [hWf]; exact (World.putObj_heap_other (by omega)).trans q3
    have HOW : Hid (Wf.ownsRow w.heap.size 24 2 (.slice A l.length cap) l.length (flatI l)) := Kit.hid (own_same hown (fun g hg => by
      have hgD : g ≠ D := fun e => hMD (by rw [hN]; exact .inr (by rw [← e]; exact hg))
      rw [hWf, World.putObj_heap_other hgD, Below.heap_setCell _ _ _ _ (fun e => n3 (by rw [hg, e])), Below.heap_setCell _ _ _ _ (fun e => n2 (by rw [hg, e]))]))
    have HBF : Hid (Below w.heap.size w Wf) := Kit.hid (by
      rw [hWf]
      exact ((hbw.setCell (p := ⟨w.heap.size, 0, none⟩) (Nat.le_refl _) _).setCell (p := ⟨w.heap.size + 1, 0, none⟩) (by simp) _).trans ⟨rfl, rfl, rfl, by simp, fun k hk => World.putObj_heap_other (by omega)⟩)
    clear hI3 hN hvb hown hvne hbw h2 h3 q2 q3 n2 n3 hK
    gi_wp2
    refine leaves_mark hKf ?_
    rw [← hWf]
    clear hWf
    have r2 : (loadVar 39 ⟨w.heap.size, 0, none⟩).run Try.prog Wf = .ok (.slice A l.length cap) Wf := by
      have c2 : Wf.cell? ⟨w.heap.size, 0, none⟩ = some (.slice A l.length cap) := blk_at f2 0
      have := blk_lt f2
      go_simp
    have r3 : (loadVar 4 ⟨w.heap.size + 1, 0, none⟩).run Try.prog Wf = .ok (.bool true) Wf := by
      have c3 : Wf.cell? ⟨w.heap.size + 1, 0, none⟩ = some (.bool true) := blk_at f3 0
      have := blk_lt f3
      go_simp
    exact ⟨_, results_cell_cell rfl _ _ _ rfl rfl r2 r3, _, rfl, HOW.out, HBF.out⟩
end Go.Proofs.Ytgcmblklalcpgaa.Sh
