/- The walks of the queue's told and put. -/
import Derived.Test.YtpgfenelckonoaaQuB
namespace Go.Proofs.Ytpgfenelckonoaa.Qu
open Go.RowKit Go.Proofs.Ytpgfenelckonoaa.Kit Go.Proofs.Ytpgfenelckonoaa.ShM Go.Proofs.Ytpgfenelckonoaa.Sh Go.Proofs.Ytpgfenelckonoaa.QuM
set_option linter.unusedVariables false
set_option linter.unusedSimpArgs false
/-- What is told of a member: with its lag. -/
def tv (m : Mem) (base : Int) : Value := .agg #[.int .i64 m.id, .int .i64 m.wt, .int .i64 (m.v - base), .int .i64 m.rem]
theorem mem_store {w : World} {g : Nat} {u0 u1 u2 u3 a b c d : Value} (h : w.heap[g]? = some (.cells #[u0, u1, u2, u3] 35 (0, 0))) : ((((w.setCell ⟨g, 0, none⟩ a).setCell ⟨g, 1, none⟩ b).setCell ⟨g, 2, none⟩ c).setCell ⟨g, 3, none⟩ d).heap[g]? = some (.cells #[a, b, c, d] 35 (0, 0)) :=
  blk_put (blk_put (blk_put (blk_put h 0 a (cs' := #[a, u1, u2, u3]) rfl) 1 b (cs' := #[a, b, u2, u3]) rfl) 2 c (cs' := #[a, b, c, u3]) rfl) 3 d (cs' := #[a, b, c, d]) rfl
theorem set4 {w : World} {g k : Nat} {a b c d : Value} (hne : k ≠ g) : ((((w.setCell ⟨g, 0, none⟩ a).setCell ⟨g, 1, none⟩ b).setCell ⟨g, 2, none⟩ c).setCell ⟨g, 3, none⟩ d).heap[k]? = w.heap[k]? :=
  (Below.heap_setCell _ _ _ _ hne).trans ((Below.heap_setCell _ _ _ _ hne).trans ((Below.heap_setCell _ _ _ _ hne).trans (Below.heap_setCell _ _ _ _ hne)))
theorem below_set4 {w0 w : World} {g : Nat} {a b c d : Value} (hb : Below w0.heap.size w0 w) (hg : w0.heap.size ≤ g) : Below w0.heap.size w0 ((((w.setCell ⟨g, 0, none⟩ a).setCell ⟨g, 1, none⟩ b).setCell ⟨g, 2, none⟩ c).setCell ⟨g, 3, none⟩ d) :=
  (((hb.setCell (p := ⟨g, 0, none⟩) hg _).setCell (p := ⟨g, 1, none⟩) hg _).setCell (p := ⟨g, 2, none⟩) hg _).setCell (p := ⟨g, 3, none⟩) hg _
theorem qmem_ret {fn : Func} {p : Tmp} {a : Act} {w : World} {R : Ending → World → Prop} (hf : fn.results = #[.cell p 35]) (g : Nat) (u0 u1 u2 u3 : Value) (hp : a.tmps.getD p undef = .pointer (some ⟨g, 0, none⟩))
    (hb : w.heap[g]? = some (.cells #[u0, u1, u2, u3] 35 (0, 0))) (hd : a.defers = []) (hR : R (.returned (.agg #[u0, u1, u2, u3])) w) : bodyPost Try.prog fn R .ret a w :=
  bodyPost_ret (results_cell_row hf _ _ g 35 #[u0, u1, u2, u3] (0, 0) _ hp hb Try.underlying35 rfl (by kernel_rfl)) hd hR
theorem zero_mem (w : World) : (zeroValue 99).run Try.prog w = .ok (.agg #[.int .i64 0, .int .i64 0, .int .i64 0]) w := by
  have h : (Try.prog.info? 99).map (·.zero) = some (some (.agg #[.int .i64 0, .int .i64 0, .int .i64 0])) := by kernel_rfl
  cases hp : Try.prog.info? 99 with
  | none => rw [hp] at h; cases h
  | some i =>
    rw [hp] at h
    simp only [Option.map_some, Option.some.injEq] at h
    simp [zeroValue, typeInfo, hp, h]
theorem keyed : Go.Maps.Keyed Try.prog 3 := Go.Maps.int_keyed Try.underlying3
section
variable {F : Nat → Prop} {w w' : World} {p n : Nat} {L : List Mem} {base : Int}
theorem QF.blk (h : QF F w p L base n) : ∃ mb g, w.heap[p]? = some (.cells #[.map (some mb), .pointer (some ⟨g, 0, none⟩), .int .i64 base] 104 (0, 0)) := by
  obtain ⟨mb, g, S, _, h, _⟩ := h
  exact ⟨mb, g, h⟩
theorem base_any (h : QF F w p L base n) :
    Calls Try.prog 42 #[.pointer (some ⟨p, 0, none⟩)] w fun e w' => e = .returned (.int .i64 base) ∧ Below w.heap.size w w' := by
  obtain ⟨mb, g, hp⟩ := h.blk
  have c2 := blk_cell hp 2
  have lp := blk_lt hp
  have hb : Below w.heap.size w w := Below.refl _ _
  clear h hp
  go_enter Try.func42, Try.ntmps42
  go_wp2
  go_ret
  exact ⟨rfl, hb⟩
set_option maxHeartbeats 800000 in
theorem qtold_any (m : Mem) (h : QF F w p L base n) (hb0 : 0 ≤ base) (hb1 : base ≤ 2305843009213693952) (hv0 : 0 ≤ m.v) (hv1 : m.v ≤ 2305843009213693952) :
    Calls Try.prog 62 #[.pointer (some ⟨p, 0, none⟩), .int .i64 m.id, mv m] w fun e w' => e = .returned (tv m base) ∧ Below w.heap.size w w' := by
  unfold mv tv
  have hsub : IntKind.i64.wrap (m.v - base) = m.v - base := by rw [IntKind.wrap_i64]; omega
  obtain ⟨mb, g, hp⟩ := h.blk
  obtain ⟨wb, hwb⟩ : ∃ wb, wb = (w.alloc (.cells #[.int .i64 m.wt, .int .i64 m.v, .int .i64 m.rem] 99)).alloc (.cells #[.int .i64 0, .int .i64 0, .int .i64 0, .int .i64 0] 35) := ⟨_, rfl⟩
  have hB : Below w.heap.size w wb := by rw [hwb]; exact ((Below.refl _ _).alloc (Nat.le_refl _) _).alloc (by simp) _
  have HX : Hid (wb.heap[w.heap.size]? = some (.cells #[.int .i64 m.wt, .int .i64 m.v, .int .i64 m.rem] 99 (0, 0))) := Kit.hid (by rw [hwb]; exact blk_alloc (blk_new _ _) _)
  have hy : wb.heap[w.heap.size + 1]? = some (.cells #[.int .i64 0, .int .i64 0, .int .i64 0, .int .i64 0] 35 (0, 0)) := by
    rw [hwb]
    have := blk_new (w.alloc (.cells #[.int .i64 m.wt, .int .i64 m.v, .int .i64 m.rem] 99)) (.cells #[.int .i64 0, .int .i64 0, .int .i64 0, .int .i64 0] 35)
    simpa using this
  have f0 := blk_frozen hy 0
  have f1 := blk_frozen hy 1
  have f2 := blk_frozen hy 2
  have f3 := blk_frozen hy 3
  have y0 := blk_cell hy 0
  have y1 := blk_cell hy 1
  have y2 := blk_cell hy 2
  have y3 := blk_cell hy 3
  have hlp := blk_lt hp
  have HP : Hid (wb.heap[p]? = some (.cells #[.map (some mb), .pointer (some ⟨g, 0, none⟩), .int .i64 base] 104 (0, 0))) := Kit.hid ((hB.block _ hlp).trans hp)
  have HS : Hid (∀ w' : World, (w'.heap[w.heap.size]? = wb.heap[w.heap.size]? ∧ w'.heap[p]? = wb.heap[p]?) → w'.cell? ⟨w.heap.size, 0, none⟩ = some (.int .i64 m.wt) ∧ w'.cell? ⟨w.heap.size, 1, none⟩ = some (.int .i64 m.v) ∧ w'.cell? ⟨w.heap.size, 2, none⟩ = some (.int .i64 m.rem) ∧ w'.cell? ⟨p, 2, none⟩ = some (.int .i64 base)) := Kit.hid (fun w' h => by
    have h1 := h.1.trans HX.out
    have h2 := h.2.trans HP.out
    exact ⟨blk_cell h1 0, blk_cell h1 1, blk_cell h1 2, blk_cell h2 2⟩)
  have HY := Kit.hid hy
  have HB := Kit.hid hB
  have HLP := Kit.hid hlp
  clear h hp hB hy hlp hb0 hb1 hv0 hv1
  go_enter Try.func62, Try.ntmps62
  go_wp2_with fail
  rw [← hwb]
  clear hwb
  refine wp_region_noPanic ?_
  refine wp_region_held_drew (S := fun (w' : World) => w'.heap[w.heap.size]? = wb.heap[w.heap.size]? ∧ w'.heap[p]? = wb.heap[p]?) (by kernel_rfl) ⟨rfl, rfl⟩ (fun hHeld => ?_)
  refine wpAnyH_take (i := 0) (hi := by simp only [List.getElem?_toArray, List.getElem?_cons_succ, List.getElem?_cons_zero]; rfl) (v := ?_) (by kernel_rfl) (by kernel_rfl) (by kernel_rfl) (fun _ _ _ h => h) (Or.inl ⟨by rfl, ?_⟩) (by assumption) ?_
  rotate_left
  · (intro w hSw; (try dsimp only at hSw); go_simp; first | done | with_reducible rfl)
  try simp only [Act.put, List.setIfInBounds_toArray, List.set_cons_zero, List.set_cons_succ]
  refine wpAnyH_take (i := 1) (hi := by simp only [List.getElem?_toArray, List.getElem?_cons_succ, List.getElem?_cons_zero]; rfl) (v := ?_) (by kernel_rfl) (by kernel_rfl) (by kernel_rfl) (fun _ _ _ h => h) (Or.inl ⟨by rfl, ?_⟩) (by assumption) ?_
  rotate_left
  · (intro w hSw; (try dsimp only at hSw); go_simp; first | done | with_reducible rfl)
  try simp only [Act.put, List.setIfInBounds_toArray, List.set_cons_zero, List.set_cons_succ]
  refine wpAnyH_take (i := 2) (hi := by simp only [List.getElem?_toArray, List.getElem?_cons_succ, List.getElem?_cons_zero]; rfl) (v := ?_) (by kernel_rfl) (by kernel_rfl) (by kernel_rfl) (fun _ _ _ h => h) (Or.inl ⟨by rfl, ?_⟩) (by assumption) ?_
  rotate_left
  · (intro w hSw; (try dsimp only at hSw); (obtain ⟨x0, x1, x2, x3⟩ := HS.out _ hSw); go_simp; first | done | with_reducible rfl)
  try simp only [Act.put, List.setIfInBounds_toArray, List.set_cons_zero, List.set_cons_succ]
  refine wpAnyH_take (i := 3) (hi := by simp only [List.getElem?_toArray, List.getElem?_cons_succ, List.getElem?_cons_zero]; rfl) (v := ?_) (by kernel_rfl) (by kernel_rfl) (by kernel_rfl) (fun _ _ _ h => h) (Or.inl ⟨by rfl, ?_⟩) (by assumption) ?_
  rotate_left
  · (intro w hSw; (try dsimp only at hSw); go_simp; first | done | with_reducible rfl)
  try simp only [Act.put, List.setIfInBounds_toArray, List.set_cons_zero, List.set_cons_succ]
  refine wpAnyH_take (i := 4) (hi := by simp only [List.getElem?_toArray, List.getElem?_cons_succ, List.getElem?_cons_zero]; rfl) (v := ?_) (by kernel_rfl) (by kernel_rfl) (by kernel_rfl) (fun _ _ _ h => h) (Or.inl ⟨by rfl, ?_⟩) (by assumption) ?_
  rotate_left
  · (intro w hSw; (try dsimp only at hSw); go_simp; first | done | with_reducible rfl)
  try simp only [Act.put, List.setIfInBounds_toArray, List.set_cons_zero, List.set_cons_succ]
  refine wpAnyH_take (i := 5) (hi := by simp only [List.getElem?_toArray, List.getElem?_cons_succ, List.getElem?_cons_zero]; rfl) (v := ?_) (by kernel_rfl) (by kernel_rfl) (by kernel_rfl) (fun _ _ _ h => h) (Or.inl ⟨by rfl, ?_⟩) (by assumption) ?_
  rotate_left
  · (intro w hSw; (try dsimp only at hSw); (obtain ⟨x0, x1, x2, x3⟩ := HS.out _ hSw); go_simp; first | done | with_reducible rfl)
  try simp only [Act.put, List.setIfInBounds_toArray, List.set_cons_zero, List.set_cons_succ]
  refine wpAnyH_take (i := 6) (hi := by simp only [List.getElem?_toArray, List.getElem?_cons_succ, List.getElem?_cons_zero]; rfl) (v := ?_) (by kernel_rfl) (by kernel_rfl) (by kernel_rfl) (fun _ _ _ h => h) (Or.inl ⟨by rfl, ?_⟩) (by assumption) ?_
  rotate_left
  · (intro w hSw; (try dsimp only at hSw); go_simp; first | done | with_reducible rfl)
  try simp only [Act.put, List.setIfInBounds_toArray, List.set_cons_zero, List.set_cons_succ]
  refine wpAnyH_take (i := 7) (hi := by simp only [List.getElem?_toArray, List.getElem?_cons_succ, List.getElem?_cons_zero]; rfl) (v := ?_) (by kernel_rfl) (by kernel_rfl) (by kernel_rfl) (fun _ _ _ h => h) (Or.inl ⟨by rfl, ?_⟩) (by assumption) ?_
  rotate_left
  · (intro w hSw; (try dsimp only at hSw); (obtain ⟨x0, x1, x2, x3⟩ := HS.out _ hSw); go_simp; first | done | with_reducible rfl)
  try simp only [Act.put, List.setIfInBounds_toArray, List.set_cons_zero, List.set_cons_succ]
  refine wpAnyH_take (i := 8) (hi := by simp only [List.getElem?_toArray, List.getElem?_cons_succ, List.getElem?_cons_zero]; rfl) (v := ?_) (by kernel_rfl) (by kernel_rfl) (by kernel_rfl) (fun _ _ _ h => h) (Or.inl ⟨by rfl, ?_⟩) (by assumption) ?_
  rotate_left
  · (intro w hSw; (try dsimp only at hSw); go_simp; first | done | with_reducible rfl)
  try simp only [Act.put, List.setIfInBounds_toArray, List.set_cons_zero, List.set_cons_succ]
  refine wpAnyH_take (i := 9) (hi := by simp only [List.getElem?_toArray, List.getElem?_cons_succ, List.getElem?_cons_zero]; rfl) (v := ?_) (by kernel_rfl) (by kernel_rfl) (by kernel_rfl) (fun _ _ _ h => h) (Or.inl ⟨by rfl, ?_⟩) (by assumption) ?_
  rotate_left
  · (intro w hSw; (try dsimp only at hSw); (obtain ⟨x0, x1, x2, x3⟩ := HS.out _ hSw); go_simp; first | done | with_reducible rfl)
  try simp only [Act.put, List.setIfInBounds_toArray, List.set_cons_zero, List.set_cons_succ]
  refine wpAnyH_take (i := 10) (hi := by simp only [List.getElem?_toArray, List.getElem?_cons_succ, List.getElem?_cons_zero]; rfl) (v := ?_) (by kernel_rfl) (by kernel_rfl) (by kernel_rfl) (fun _ _ _ h => h) (Or.inl ⟨by rfl, ?_⟩) (by assumption) ?_
  rotate_left
  · (intro w hSw; (try dsimp only at hSw); go_simp; first | done | with_reducible rfl)
  try simp only [Act.put, List.setIfInBounds_toArray, List.set_cons_zero, List.set_cons_succ]
  refine wpAnyH_take (i := 11) (hi := by simp only [List.getElem?_toArray, List.getElem?_cons_succ, List.getElem?_cons_zero]; rfl) (v := ?_) (by kernel_rfl) (by kernel_rfl) (by kernel_rfl) (fun _ _ _ h => h) (Or.inl ⟨by rfl, ?_⟩) (by assumption) ?_
  rotate_left
  · (intro w hSw; (try dsimp only at hSw); go_simp; first | done | with_reducible rfl)
  try simp only [Act.put, List.setIfInBounds_toArray, List.set_cons_zero, List.set_cons_succ]
  refine wpAnyH_take (i := 12) (hi := by simp only [List.getElem?_toArray, List.getElem?_cons_succ, List.getElem?_cons_zero]; rfl) (v := ?_) (by kernel_rfl) (by kernel_rfl) (by kernel_rfl) (fun _ _ _ h => h) (Or.inl ⟨by rfl, ?_⟩) (by assumption) ?_
  rotate_left
  · (intro w hSw; (try dsimp only at hSw); go_simp; first | done | with_reducible rfl)
  try simp only [Act.put, List.setIfInBounds_toArray, List.set_cons_zero, List.set_cons_succ]
  refine wpAnyH_take (i := 13) (hi := by simp only [List.getElem?_toArray, List.getElem?_cons_succ, List.getElem?_cons_zero]; rfl) (v := ?_) (by kernel_rfl) (by kernel_rfl) (by kernel_rfl) (fun _ _ _ h => h) (Or.inl ⟨by rfl, ?_⟩) (by assumption) ?_
  rotate_left
  · (intro w hSw; (try dsimp only at hSw); (obtain ⟨x0, x1, x2, x3⟩ := HS.out _ hSw); go_simp; first | done | with_reducible rfl)
  try simp only [Act.put, List.setIfInBounds_toArray, List.set_cons_zero, List.set_cons_succ]
  refine wpAnyH_take (i := 14) (hi := by simp only [List.getElem?_toArray, List.getElem?_cons_succ, List.getElem?_cons_zero]; rfl) (v := ?_) (by kernel_rfl) (by kernel_rfl) (by kernel_rfl) (fun _ _ _ h => h) (Or.inl ⟨by rfl, ?_⟩) (by assumption) ?_
  rotate_left
  · (intro w hSw; (try dsimp only at hSw); go_simp; first | done | with_reducible rfl)
  try simp only [Act.put, List.setIfInBounds_toArray, List.set_cons_zero, List.set_cons_succ]
  refine wpAnyH_take (i := 15) (hi := by simp only [List.getElem?_toArray, List.getElem?_cons_succ, List.getElem?_cons_zero]; rfl) (v := ?_) (by kernel_rfl) (by kernel_rfl) (by kernel_rfl) (fun _ _ _ h => h) (Or.inl ⟨by rfl, ?_⟩) (by assumption) ?_
  rotate_left
  · (intro w hSw; (try dsimp only at hSw); go_simp; first | done | with_reducible rfl)
  try simp only [Act.put, List.setIfInBounds_toArray, List.set_cons_zero, List.set_cons_succ]
  refine wpAnyH_ready (rs := [16]) (by kernel_rfl) (by simp) ?_
  refine AllReadyH.cons (ho := by simp only [List.getElem?_toArray, List.getElem?_cons_succ, List.getElem?_cons_zero]; rfl) (fun K hK => ?_) (AllReadyH.nil)
  go_simp
  go_wp2_with fail
  refine hK.out _ _ ?_ (fun hHeldN => ?_)
  · exact ⟨set4 (by omega), set4 (by have := HLP.out; omega)⟩
  clear hHeld
  have hHeld := hHeldN
  clear hHeldN
  clear hK K
  try simp only [Act.put, List.setIfInBounds_toArray, List.set_cons_zero, List.set_cons_succ]
  clear hHeld
  refine wpAnyH_done (by kernel_rfl) ?_ _
  refine NoPanic.normal ?_
  skip
  go_wp2
  exact qmem_ret rfl (w.heap.size + 1) _ _ _ _ rfl (mem_store HY.out) rfl ⟨rfl, below_set4 HB.out.drew (by simp)⟩
theorem put_fin {F S S3 : Nat → Prop} {w w3 w4 w5 w6 : World} {p mb g n : Nat} {L : List Mem} {base : Int} {m : Mem} (hF : F = fun k => k = p ∨ k = mb ∨ S k)
    (k3 : Kept F w w3) (s3 : ∀ k, S3 k → Ext F w k) (hp3 : ¬ S3 p) (hm3 : ¬ S3 mb) (hpm : p ≠ mb) (hpl : p < w.heap.size) (hml : mb < w.heap.size) (hw : WQ L)
    (hb : w3.heap[p]? = some (.cells #[.map (some mb), .pointer (some ⟨g, 0, none⟩), .int .i64 base] 104 (0, 0)))
    (hm4 : MapV Try.prog 3 w4 mb (fun j => if j = m.id then some (mv m) else fmap L j) (n + 1)) (hg4 : w3.grownBy w4 (some mb)) (hd5 : Below w4.heap.size w4 w5)
    (hi6 : Items w5 S3 w6 g (putL m.it ((del L m.id).map Mem.it)) (n + 1)) : Qu w F w6 p (putM m L) base (n + 1) := by
  obtain ⟨S6, hf, he⟩ := hi6.foot
  have k6 := hi6.kept
  have z3 := k3.size
  have z4 := hg4.size
  have z5 := hd5.size
  have z6 := k6.size
  have k5 : Kept F w w5 := (k3.grown hg4 (fun k e => .inl (by cases e; rw [hF]; exact .inr (.inl rfl)))).below hd5
  refine ⟨fun k => k = p ∨ k = mb ∨ S6 k, ⟨mb, g, S6, rfl, ?_, ?_, ?_, fun h => ?_, fun h => ?_, hpm, put_wq hw m⟩, fun k hk => ?_, k5.trans k6 s3⟩
  · rw [k6.block p (by omega) hp3, hd5.block p (by omega), hg4.block p (by omega) (fun e => hpm (Option.some.inj e))]
    exact hb
  · refine ((hm4.same (hd5.block mb (by omega))).same (k6.block mb (by omega) hm3)).congr fun j => ?_
    unfold fmap
    rw [get_put hw]
    by_cases h : j = m.id
    · rw [if_pos h, if_pos h]; rfl
    · rw [if_neg h, if_neg h]
  · rw [put_items]; exact hf
  · rcases he p h with h | h
    · exact hp3 h
    · omega
  · rcases he mb h with h | h
    · exact hm3 h
    · omega
  · rcases hk with rfl | rfl | hk
    · exact .inl (by rw [hF]; exact .inl rfl)
    · exact .inl (by rw [hF]; exact .inr (.inl rfl))
    · rcases he k hk with h | h
      · exact s3 k h
      · exact .inr (by omega)
set_option maxRecDepth 8000 in
set_option maxHeartbeats 1600000 in
theorem put_any (m : Mem) (h : QF F w p L base n) (hid1 : 1 ≤ m.id) (hid2 : m.id ≤ 1048576) (hn : n ≤ 1000000) :
    Calls Try.prog 59 #[.pointer (some ⟨p, 0, none⟩), .int .i64 m.id, mv m] w fun e w' => e = .returned (.tuple #[]) ∧ Qu w F w' p (putM m L) base (n + 1) := by
  have hpl : p < w.heap.size := h.lt p (by obtain ⟨mb, g, S, rfl, _⟩ := h; exact .inl rfl)
  obtain ⟨mb, g, S, hF, hp, hm, hi, hSp, hSm, hpm, hw⟩ := h
  have hml := hm.lt
  have HKEY : Hid (keyOf Try.prog 3 (.int .i64 m.id) = some (.int .i64 m.id)) := Kit.hid (int_key Try.underlying3 (by omega) (by omega))
  have hbb : Below w.heap.size w (w.alloc (.cells #[.int .i64 m.wt, .int .i64 m.v, .int .i64 m.rem] 99)) := (Below.refl _ _).alloc (Nat.le_refl _) _
  have HMB : Hid (MapV Try.prog 3 (w.alloc (.cells #[.int .i64 m.wt, .int .i64 m.v, .int .i64 m.rem] 99)) mb (fmap L) n) := Kit.hid (hm.same (hbb.block mb hml))
  have hp0 := blk_cell hp 0
  have HIT := Kit.hid (fun (y : Mem) (w' : World) => item_any y w')
  unfold mv at HIT ⊢
  have HF := Kit.hid hF
  have HP := Kit.hid hp
  have HM := Kit.hid hm
  have HI := Kit.hid hi
  have HSP := Kit.hid hSp
  have HSM := Kit.hid hSm
  have HPM := Kit.hid hpm
  have HWQ := Kit.hid hw
  have HLP := Kit.hid hpl
  have HLM := Kit.hid hml
  have HPV : Hid (∀ w5 S3 w', ItemsF S3 w' g ((del L m.id).map Mem.it) n → w' = w5 → Calls Try.prog 74 #[.pointer (some ⟨g, 0, none⟩), .agg #[.int .i64 m.v, .int .i64 m.id]] w' fun e w'' => ∃ b, e = .returned (.bool b) ∧ Items w' S3 w'' g (putL m.it ((del L m.id).map Mem.it)) (n + 1)) := Kit.hid (fun w5 S3 w' h _ => (items_put m.it h.items (by omega)).mono fun e w'' h => ⟨_, h⟩)
  clear hF hp hm hi hSp hSm hpm hw hml hbb
  go_enter Try.func59, Try.ntmps59
  cases hget : get L m.id with
  | none =>
    have HLK : Hid ((if true = true then Value.tuple #[(fmap L m.id).getD (.agg #[.int .i64 0, .int .i64 0, .int .i64 0]), .bool (fmap L m.id).isSome] else (fmap L m.id).getD (.agg #[.int .i64 0, .int .i64 0, .int .i64 0])) = .tuple #[.agg #[.int .i64 0, .int .i64 0, .int .i64 0], .bool false]) := Kit.hid (by simp [fmap, hget])
    have HDL : Hid (del L m.id = L) := Kit.hid (del_none hget)
    clear hget
    go_wp2_with (at_lookup; refine wpList_lookV rfl _ _ 101 true rfl 3 99 keyed Try.underlying101 _ (zero_mem _) mb n (fmap L) rfl HMB.out m.id rfl HKEY.out _ HLK.out ?_)
    have hBW : Below w.heap.size w ((w.alloc (.cells #[.int .i64 m.wt, .int .i64 m.v, .int .i64 m.rem] 99)).alloc (.cells #[.int .i64 0, .int .i64 0, .int .i64 0] 99)) := ((Below.refl _ _).alloc (Nat.le_refl _) _).alloc (by simp) _
    have hXW : ((w.alloc (.cells #[.int .i64 m.wt, .int .i64 m.v, .int .i64 m.rem] 99)).alloc (.cells #[.int .i64 0, .int .i64 0, .int .i64 0] 99)).heap[w.heap.size]? = some (.cells #[.int .i64 m.wt, .int .i64 m.v, .int .i64 m.rem] 99 (0, 0)) := blk_alloc (blk_new _ _) _
    have hYW : ((w.alloc (.cells #[.int .i64 m.wt, .int .i64 m.v, .int .i64 m.rem] 99)).alloc (.cells #[.int .i64 0, .int .i64 0, .int .i64 0] 99)).heap[w.heap.size + 1]? = some (.cells #[.int .i64 0, .int .i64 0, .int .i64 0] 99 (0, 0)) := by
      have := blk_new (w.alloc (.cells #[.int .i64 m.wt, .int .i64 m.v, .int .i64 m.rem] 99)) (.cells #[.int .i64 0, .int .i64 0, .int .i64 0] 99)
      simpa using this
    generalize (w.alloc (.cells #[.int .i64 m.wt, .int .i64 m.v, .int .i64 m.rem] 99)).alloc (.cells #[.int .i64 0, .int .i64 0, .int .i64 0] 99) = WW at hBW hXW hYW ⊢
    obtain ⟨w3, rfl⟩ : ∃ w3, w3 = WW := ⟨_, rfl⟩
    obtain ⟨S3, rfl⟩ : ∃ S3, S3 = S := ⟨_, rfl⟩
    have HS3F : Hid (∀ k, S3 k → Ext F w k) := Kit.hid (fun k hk => .inl (by rw [HF.out]; exact .inr (.inr hk)))
    have HS3P := HSP
    have HS3M := HSM
    have HS3X : Hid (¬ S3 w.heap.size) := Kit.hid (fun h => by have := HI.out.lt _ h; omega)
    have HK3 : Hid (Kept F w w3) := Kit.hid ((Kept.refl F w).below hBW)
    have HP3 := Kit.hid ((hBW.block p HLP.out).trans HP.out)
    have HX3 := Kit.hid hXW
    have HM3 := Kit.hid (HM.out.same (hBW.block mb HLM.out))
    have HI3 : Hid (ItemsF S3 w3 g ((del L m.id).map Mem.it) n) := Kit.hid (by rw [HDL.out]; exact HI.out.kept fun k hk => hBW.block k (HI.out.lt k hk))
    have HIT := Kit.hid (fun (w' : World) => HIT.out m w')
    clear hBW hXW hYW HLK HDL HMB
    have HS4 : Hid (∀ w' : World, (w'.heap[p]? = w3.heap[p]? ∧ w'.heap[w.heap.size]? = w3.heap[w.heap.size]?) → w'.cell? ⟨p, 0, none⟩ = some (.map (some mb)) ∧ w'.cell? ⟨p, 1, none⟩ = some (.pointer (some ⟨g, 0, none⟩)) ∧ w'.cell? ⟨w.heap.size, 0, none⟩ = some (.int .i64 m.wt) ∧ w'.cell? ⟨w.heap.size, 1, none⟩ = some (.int .i64 m.v) ∧ w'.cell? ⟨w.heap.size, 2, none⟩ = some (.int .i64 m.rem)) := Kit.hid (fun w' h => by
      have h1 := h.1.trans HP3.out
      have h2 := h.2.trans HX3.out
      exact ⟨blk_cell h1 0, blk_cell h1 1, blk_cell h2 0, blk_cell h2 1, blk_cell h2 2⟩)
    have HM3D : Hid (MapV Try.prog 3 w3.drew mb (fmap L) n) := Kit.hid (HM3.out.same rfl)
    have HZ3 : Hid (w.heap.size ≤ w3.heap.size) := Kit.hid HK3.out.size
    refine wp_region_noPanic ?_
    refine wp_region_held_drew (S := fun (w' : World) => w'.heap[p]? = w3.heap[p]? ∧ w'.heap[w.heap.size]? = w3.heap[w.heap.size]?) (by kernel_rfl) ⟨rfl, rfl⟩ (fun hHeld => ?_)
    refine wpAnyH_take (i := 0) (hi := by simp only [List.getElem?_toArray, List.getElem?_cons_succ, List.getElem?_cons_zero]; rfl) (v := ?_) (by kernel_rfl) (by kernel_rfl) (by kernel_rfl) (fun _ _ _ h => h) (Or.inl ⟨by rfl, ?_⟩) (by assumption) ?_
    rotate_left
    · (intro w hSw; (try dsimp only at hSw); go_simp; first | done | with_reducible rfl)
    try simp only [Act.put, List.setIfInBounds_toArray, List.set_cons_zero, List.set_cons_succ]
    refine wpAnyH_take (i := 1) (hi := by simp only [List.getElem?_toArray, List.getElem?_cons_succ, List.getElem?_cons_zero]; rfl) (v := ?_) (by kernel_rfl) (by kernel_rfl) (by kernel_rfl) (fun _ _ _ h => h) (Or.inl ⟨by rfl, ?_⟩) (by assumption) ?_
    rotate_left
    · (intro w hSw; (try dsimp only at hSw); (obtain ⟨x0, x1, x2, x3, x4⟩ := HS4.out _ hSw); go_simp; first | done | with_reducible rfl)
    try simp only [Act.put, List.setIfInBounds_toArray, List.set_cons_zero, List.set_cons_succ]
    refine wpAnyH_take (i := 2) (hi := by simp only [List.getElem?_toArray, List.getElem?_cons_succ, List.getElem?_cons_zero]; rfl) (v := ?_) (by kernel_rfl) (by kernel_rfl) (by kernel_rfl) (fun _ _ _ h => h) (Or.inl ⟨by rfl, ?_⟩) (by assumption) ?_
    rotate_left
    · (intro w hSw; (try dsimp only at hSw); go_simp; first | done | with_reducible rfl)
    try simp only [Act.put, List.setIfInBounds_toArray, List.set_cons_zero, List.set_cons_succ]
    refine wpAnyH_take (i := 3) (hi := by simp only [List.getElem?_toArray, List.getElem?_cons_succ, List.getElem?_cons_zero]; rfl) (v := ?_) (by kernel_rfl) (by kernel_rfl) (by kernel_rfl) (fun _ _ _ h => h) (Or.inl ⟨by rfl, ?_⟩) (by assumption) ?_
    rotate_left
    · (intro w hSw; (try dsimp only at hSw); (obtain ⟨x0, x1, x2, x3, x4⟩ := HS4.out _ hSw); go_simp; first | done | with_reducible rfl)
    try simp only [Act.put, List.setIfInBounds_toArray, List.set_cons_zero, List.set_cons_succ]
    refine wpAnyH_take (i := 4) (hi := by simp only [List.getElem?_toArray, List.getElem?_cons_succ, List.getElem?_cons_zero]; rfl) (v := ?_) (by kernel_rfl) (by kernel_rfl) (by kernel_rfl) (fun _ _ _ h => h) (Or.inl ⟨by rfl, ?_⟩) (by assumption) ?_
    rotate_left
    · (intro w hSw; (try dsimp only at hSw); go_simp; first | done | with_reducible rfl)
    try simp only [Act.put, List.setIfInBounds_toArray, List.set_cons_zero, List.set_cons_succ]
    refine wpAnyH_take (i := 5) (hi := by simp only [List.getElem?_toArray, List.getElem?_cons_succ, List.getElem?_cons_zero]; rfl) (v := ?_) (by kernel_rfl) (by kernel_rfl) (by kernel_rfl) (fun _ _ _ h => h) (Or.inl ⟨by rfl, ?_⟩) (by assumption) ?_
    rotate_left
    · (intro w hSw; (try dsimp only at hSw); (obtain ⟨x0, x1, x2, x3, x4⟩ := HS4.out _ hSw); go_simp; first | done | with_reducible rfl)
    try simp only [Act.put, List.setIfInBounds_toArray, List.set_cons_zero, List.set_cons_succ]
    refine wpAnyH_ready (rs := [6]) (by kernel_rfl) (by simp) ?_
    refine AllReadyH.cons (ho := by simp only [List.getElem?_toArray, List.getElem?_cons_succ, List.getElem?_cons_zero]; rfl) (fun K hK => ?_) (AllReadyH.nil)
    refine step_of_wp rfl (wp_storeV _ _ _ 101 rfl 3 99 keyed Try.underlying101 mb n (fmap L) (by simp [Act.eval, Act.put]) HM3D.out (by unfold maxLen; omega) m.id (mv m) (by simp [Act.eval, Act.put]) (by simp [Act.eval, Act.put, mv]) HKEY.out ?_)
    intro w4 hm4 hg4
    have HM4 := Kit.hid hm4
    have HG4 : Hid (w3.grownBy w4 (some mb)) := Kit.hid ⟨hg4.os, hg4.tape, hg4.output, hg4.size, hg4.block⟩
    clear hm4 hg4
    refine hK.out _ _ ?_ (fun hHeldN => ?_)
    · exact ⟨HG4.out.block p (blk_lt HP3.out) (fun e => HPM.out (Option.some.inj e)), HG4.out.block _ (blk_lt HX3.out) (fun e => by have := HLM.out; have := Option.some.inj e; omega)⟩
    clear hHeld
    have hHeld := hHeldN
    clear hHeldN
    clear hK K
    try simp only [Act.put, List.setIfInBounds_toArray, List.set_cons_zero, List.set_cons_succ]
    clear hHeld
    refine wpAnyH_done (by kernel_rfl) ?_ _
    refine NoPanic.normal ?_
    skip
    have HI4 : Hid (ItemsF S3 w4 g ((del L m.id).map Mem.it) n) := Kit.hid (HI3.out.kept fun k hk => HG4.out.block k (HI3.out.lt k hk) (fun e => HS3M.out (by cases e; exact hk)))
    have HP4 : Hid (w4.heap[p]? = w3.heap[p]?) := Kit.hid (HG4.out.block p (blk_lt HP3.out) (fun e => HPM.out (Option.some.inj e)))
    have HX4 : Hid (w4.heap[w.heap.size]? = w3.heap[w.heap.size]?) := Kit.hid (HG4.out.block _ (blk_lt HX3.out) (fun e => by have := HLM.out; have := Option.some.inj e; omega))
    go_wp2_with fail
    refine wp_region_noPanic ?_
    refine wp_region_held_drew (S := fun (w' : World) => w'.heap[p]? = w3.heap[p]? ∧ w'.heap[w.heap.size]? = w3.heap[w.heap.size]?) (by kernel_rfl) ⟨HP4.out, HX4.out⟩ (fun hHeld => ?_)
    refine wpAnyH_take (i := 0) (hi := by simp only [List.getElem?_toArray, List.getElem?_cons_succ, List.getElem?_cons_zero]; rfl) (v := ?_) (by kernel_rfl) (by kernel_rfl) (by kernel_rfl) (fun _ _ _ h => h) (Or.inl ⟨by rfl, ?_⟩) (by assumption) ?_
    rotate_left
    · (intro w hSw; (try dsimp only at hSw); go_simp; first | done | with_reducible rfl)
    try simp only [Act.put, List.setIfInBounds_toArray, List.set_cons_zero, List.set_cons_succ]
    refine wpAnyH_take (i := 1) (hi := by simp only [List.getElem?_toArray, List.getElem?_cons_succ, List.getElem?_cons_zero]; rfl) (v := ?_) (by kernel_rfl) (by kernel_rfl) (by kernel_rfl) (fun _ _ _ h => h) (Or.inl ⟨by rfl, ?_⟩) (by assumption) ?_
    rotate_left
    · (intro w hSw; (try dsimp only at hSw); (obtain ⟨x0, x1, x2, x3, x4⟩ := HS4.out _ hSw); go_simp; first | done | with_reducible rfl)
    try simp only [Act.put, List.setIfInBounds_toArray, List.set_cons_zero, List.set_cons_succ]
    refine wpAnyH_take (i := 2) (hi := by simp only [List.getElem?_toArray, List.getElem?_cons_succ, List.getElem?_cons_zero]; rfl) (v := ?_) (by kernel_rfl) (by kernel_rfl) (by kernel_rfl) (fun _ _ _ h => h) (Or.inl ⟨by rfl, ?_⟩) (by assumption) ?_
    rotate_left
    · (intro w hSw; (try dsimp only at hSw); go_simp; first | done | with_reducible rfl)
    try simp only [Act.put, List.setIfInBounds_toArray, List.set_cons_zero, List.set_cons_succ]
    refine wpAnyH_take (i := 3) (hi := by simp only [List.getElem?_toArray, List.getElem?_cons_succ, List.getElem?_cons_zero]; rfl) (v := ?_) (by kernel_rfl) (by kernel_rfl) (by kernel_rfl) (fun _ _ _ h => h) (Or.inl ⟨by rfl, ?_⟩) (by assumption) ?_
    rotate_left
    · (intro w hSw; (try dsimp only at hSw); (obtain ⟨x0, x1, x2, x3, x4⟩ := HS4.out _ hSw); go_simp; first | done | with_reducible rfl)
    try simp only [Act.put, List.setIfInBounds_toArray, List.set_cons_zero, List.set_cons_succ]
    refine wpAnyH_take (i := 4) (hi := by simp only [List.getElem?_toArray, List.getElem?_cons_succ, List.getElem?_cons_zero]; rfl) (v := ?_) (by kernel_rfl) (by kernel_rfl) (by kernel_rfl) (fun _ _ _ h => h) (Or.inl ⟨by rfl, ?_⟩) (by assumption) ?_
    rotate_left
    · (intro w hSw; (try dsimp only at hSw); go_simp; first | done | with_reducible rfl)
    try simp only [Act.put, List.setIfInBounds_toArray, List.set_cons_zero, List.set_cons_succ]
    refine wpAnyH_take (i := 5) (hi := by simp only [List.getElem?_toArray, List.getElem?_cons_succ, List.getElem?_cons_zero]; rfl) (v := ?_) (by kernel_rfl) (by kernel_rfl) (by kernel_rfl) (fun _ _ _ h => h) (Or.inl ⟨by rfl, ?_⟩) (by assumption) ?_
    rotate_left
    · (intro w hSw; (try dsimp only at hSw); (obtain ⟨x0, x1, x2, x3, x4⟩ := HS4.out _ hSw); go_simp; first | done | with_reducible rfl)
    try simp only [Act.put, List.setIfInBounds_toArray, List.set_cons_zero, List.set_cons_succ]
    refine wpAnyH_ready (rs := [6]) (by kernel_rfl) (by simp) ?_
    refine AllReadyH.cons (ho := by simp only [List.getElem?_toArray, List.getElem?_cons_succ, List.getElem?_cons_zero]; rfl) (fun K hK => ?_) (AllReadyH.nil)
    go_simp
    go_at_call 68; (with_reducible refine (HIT.out _).mono ?_); rintro e w5 ⟨rfl, hd5⟩
    have HD5 : Hid (Below w4.heap.size w4 w5) := Kit.hid ((Below.refl _ w4).drew.trans hd5)
    clear hd5
    go_wp2_with fail
    refine hK.out _ _ ?_ (fun hHeldN => ?_)
    · exact ⟨(HD5.out.block p (by have := blk_lt HP3.out; have := HG4.out.size; omega)).trans HP4.out, (HD5.out.block _ (by have := blk_lt HX3.out; have := HG4.out.size; omega)).trans HX4.out⟩
    clear hHeld
    have hHeld := hHeldN
    clear hHeldN
    clear hK K
    try simp only [Act.put, List.setIfInBounds_toArray, List.set_cons_zero, List.set_cons_succ]
    refine wpAnyH_ready (rs := [7]) (by kernel_rfl) (by simp) ?_
    refine AllReadyH.cons (ho := by simp only [List.getElem?_toArray, List.getElem?_cons_succ, List.getElem?_cons_zero]; rfl) (fun K hK => ?_) (AllReadyH.nil)
    go_simp
    go_at_call 74; (with_reducible refine (HPV.out w5 S3 _ (HI4.out.kept fun k hk => HD5.out.block k (HI4.out.lt k hk)) rfl).mono ?_); rintro e w6 ⟨b, rfl, h6⟩
    have HI6 := Kit.hid h6
    clear h6
    go_wp2_with fail
    refine hK.out _ _ ?_ (fun hHeldN => ?_)
    · exact ⟨((HI6.out.kept.block p (by have := blk_lt HP3.out; have := HG4.out.size; have := HD5.out.size; omega) HS3P.out).trans (HD5.out.block p (by have := blk_lt HP3.out; have := HG4.out.size; omega))).trans HP4.out, ((HI6.out.kept.block _ (by have := blk_lt HX3.out; have := HG4.out.size; have := HD5.out.size; omega) HS3X.out).trans (HD5.out.block _ (by have := blk_lt HX3.out; have := HG4.out.size; omega))).trans HX4.out⟩
    clear hHeld
    have hHeld := hHeldN
    clear hHeldN
    clear hK K
    try simp only [Act.put, List.setIfInBounds_toArray, List.set_cons_zero, List.set_cons_succ]
    clear hHeld
    refine wpAnyH_done (by kernel_rfl) ?_ _
    refine NoPanic.normal ?_
    skip
    go_wp2
    go_end0
    exact ⟨rfl, put_fin HF.out HK3.out HS3F.out HS3P.out HS3M.out HPM.out HLP.out HLM.out HWQ.out HP3.out HM4.out HG4.out HD5.out HI6.out⟩
  | some y =>
    have HLK : Hid ((if true = true then Value.tuple #[(fmap L m.id).getD (.agg #[.int .i64 0, .int .i64 0, .int .i64 0]), .bool (fmap L m.id).isSome] else (fmap L m.id).getD (.agg #[.int .i64 0, .int .i64 0, .int .i64 0])) = .tuple #[.agg #[.int .i64 y.wt, .int .i64 y.v, .int .i64 y.rem], .bool true]) := Kit.hid (by simp [fmap, hget, mv])
    obtain ⟨hyL, hyid⟩ := get_mem hget
    have HDL : Hid ((del L m.id).map Mem.it = dropL y.it (L.map Mem.it)) := Kit.hid (by rw [← hyid]; exact del_items HWQ.out hyL)
    have HYI : Hid (y.id = m.id) := Kit.hid hyid
    clear hget hyL hyid
    go_wp2_with (at_lookup; refine wpList_lookV rfl _ _ 101 true rfl 3 99 keyed Try.underlying101 _ (zero_mem _) mb n (fmap L) rfl HMB.out m.id rfl HKEY.out _ HLK.out ?_)
    have hBW : Below w.heap.size w ((w.alloc (.cells #[.int .i64 m.wt, .int .i64 m.v, .int .i64 m.rem] 99)).alloc (.cells #[.int .i64 y.wt, .int .i64 y.v, .int .i64 y.rem] 99)) := ((Below.refl _ _).alloc (Nat.le_refl _) _).alloc (by simp) _
    have hXW : ((w.alloc (.cells #[.int .i64 m.wt, .int .i64 m.v, .int .i64 m.rem] 99)).alloc (.cells #[.int .i64 y.wt, .int .i64 y.v, .int .i64 y.rem] 99)).heap[w.heap.size]? = some (.cells #[.int .i64 m.wt, .int .i64 m.v, .int .i64 m.rem] 99 (0, 0)) := blk_alloc (blk_new _ _) _
    have hYW : ((w.alloc (.cells #[.int .i64 m.wt, .int .i64 m.v, .int .i64 m.rem] 99)).alloc (.cells #[.int .i64 y.wt, .int .i64 y.v, .int .i64 y.rem] 99)).heap[w.heap.size + 1]? = some (.cells #[.int .i64 y.wt, .int .i64 y.v, .int .i64 y.rem] 99 (0, 0)) := by
      have := blk_new (w.alloc (.cells #[.int .i64 m.wt, .int .i64 m.v, .int .i64 m.rem] 99)) (.cells #[.int .i64 y.wt, .int .i64 y.v, .int .i64 y.rem] 99)
      simpa using this
    generalize (w.alloc (.cells #[.int .i64 m.wt, .int .i64 m.v, .int .i64 m.rem] 99)).alloc (.cells #[.int .i64 y.wt, .int .i64 y.v, .int .i64 y.rem] 99) = WW at hBW hXW hYW ⊢
    have HBW := Kit.hid hBW
    have HXW := Kit.hid hXW
    have HYW := Kit.hid hYW
    have HPW := Kit.hid ((hBW.block p HLP.out).trans HP.out)
    have HIW : Hid (ItemsF S WW g (L.map Mem.it) n) := Kit.hid (HI.out.kept fun k hk => hBW.block k (HI.out.lt k hk))
    have HS3 : Hid (∀ w' : World, (w'.heap[p]? = WW.heap[p]? ∧ w'.heap[w.heap.size + 1]? = WW.heap[w.heap.size + 1]?) → w'.cell? ⟨p, 1, none⟩ = some (.pointer (some ⟨g, 0, none⟩)) ∧ w'.cell? ⟨w.heap.size + 1, 0, none⟩ = some (.int .i64 y.wt) ∧ w'.cell? ⟨w.heap.size + 1, 1, none⟩ = some (.int .i64 y.v) ∧ w'.cell? ⟨w.heap.size + 1, 2, none⟩ = some (.int .i64 y.rem)) := Kit.hid (fun w' h => by
      have h1 := h.1.trans HPW.out
      have h2 := h.2.trans HYW.out
      exact ⟨blk_cell h1 1, blk_cell h2 0, blk_cell h2 1, blk_cell h2 2⟩)
    have HITY : Hid (∀ w', Calls Try.prog 68 #[.int .i64 m.id, .agg #[.int .i64 y.wt, .int .i64 y.v, .int .i64 y.rem]] w' fun e w'' => e = .returned (.agg #[.int .i64 y.v, .int .i64 m.id]) ∧ Below w'.heap.size w' w'') := Kit.hid (fun w' => by have := HIT.out y w'; rw [HYI.out] at this; exact this)
    have HDV : Hid (∀ w', ItemsF S w' g (L.map Mem.it) n → Calls Try.prog 67 #[.pointer (some ⟨g, 0, none⟩), .agg #[.int .i64 y.v, .int .i64 m.id]] w' fun e w'' => ∃ b, e = .returned (.bool b) ∧ Items w' S w'' g ((del L m.id).map Mem.it) n) := Kit.hid (fun w' h => by
      have := items_drop y.it h.items (by omega)
      unfold Mem.it at this
      rw [HYI.out] at this
      rw [HDL.out]
      unfold Mem.it
      rw [HYI.out]
      exact this.mono fun e w'' h => ⟨_, h⟩)
    clear hBW hXW hYW HLK HDL HMB HIT
    refine wp_region_noPanic ?_
    refine wp_region_held_drew (S := fun (w' : World) => w'.heap[p]? = WW.heap[p]? ∧ w'.heap[w.heap.size + 1]? = WW.heap[w.heap.size + 1]?) (by kernel_rfl) ⟨rfl, rfl⟩ (fun hHeld => ?_)
    refine wpAnyH_take (i := 0) (hi := by simp only [List.getElem?_toArray, List.getElem?_cons_succ, List.getElem?_cons_zero]; rfl) (v := ?_) (by kernel_rfl) (by kernel_rfl) (by kernel_rfl) (fun _ _ _ h => h) (Or.inl ⟨by rfl, ?_⟩) (by assumption) ?_
    rotate_left
    · (intro w hSw; (try dsimp only at hSw); go_simp; first | done | with_reducible rfl)
    try simp only [Act.put, List.setIfInBounds_toArray, List.set_cons_zero, List.set_cons_succ]
    refine wpAnyH_take (i := 1) (hi := by simp only [List.getElem?_toArray, List.getElem?_cons_succ, List.getElem?_cons_zero]; rfl) (v := ?_) (by kernel_rfl) (by kernel_rfl) (by kernel_rfl) (fun _ _ _ h => h) (Or.inl ⟨by rfl, ?_⟩) (by assumption) ?_
    rotate_left
    · (intro w hSw; (try dsimp only at hSw); (obtain ⟨x0, x1, x2, x3⟩ := HS3.out _ hSw); go_simp; first | done | with_reducible rfl)
    try simp only [Act.put, List.setIfInBounds_toArray, List.set_cons_zero, List.set_cons_succ]
    refine wpAnyH_take (i := 2) (hi := by simp only [List.getElem?_toArray, List.getElem?_cons_succ, List.getElem?_cons_zero]; rfl) (v := ?_) (by kernel_rfl) (by kernel_rfl) (by kernel_rfl) (fun _ _ _ h => h) (Or.inl ⟨by rfl, ?_⟩) (by assumption) ?_
    rotate_left
    · (intro w hSw; (try dsimp only at hSw); go_simp; first | done | with_reducible rfl)
    try simp only [Act.put, List.setIfInBounds_toArray, List.set_cons_zero, List.set_cons_succ]
    refine wpAnyH_take (i := 3) (hi := by simp only [List.getElem?_toArray, List.getElem?_cons_succ, List.getElem?_cons_zero]; rfl) (v := ?_) (by kernel_rfl) (by kernel_rfl) (by kernel_rfl) (fun _ _ _ h => h) (Or.inl ⟨by rfl, ?_⟩) (by assumption) ?_
    rotate_left
    · (intro w hSw; (try dsimp only at hSw); (obtain ⟨x0, x1, x2, x3⟩ := HS3.out _ hSw); go_simp; first | done | with_reducible rfl)
    try simp only [Act.put, List.setIfInBounds_toArray, List.set_cons_zero, List.set_cons_succ]
    refine wpAnyH_take (i := 4) (hi := by simp only [List.getElem?_toArray, List.getElem?_cons_succ, List.getElem?_cons_zero]; rfl) (v := ?_) (by kernel_rfl) (by kernel_rfl) (by kernel_rfl) (fun _ _ _ h => h) (Or.inl ⟨by rfl, ?_⟩) (by assumption) ?_
    rotate_left
    · (intro w hSw; (try dsimp only at hSw); go_simp; first | done | with_reducible rfl)
    try simp only [Act.put, List.setIfInBounds_toArray, List.set_cons_zero, List.set_cons_succ]
    refine wpAnyH_take (i := 5) (hi := by simp only [List.getElem?_toArray, List.getElem?_cons_succ, List.getElem?_cons_zero]; rfl) (v := ?_) (by kernel_rfl) (by kernel_rfl) (by kernel_rfl) (fun _ _ _ h => h) (Or.inl ⟨by rfl, ?_⟩) (by assumption) ?_
    rotate_left
    · (intro w hSw; (try dsimp only at hSw); (obtain ⟨x0, x1, x2, x3⟩ := HS3.out _ hSw); go_simp; first | done | with_reducible rfl)
    try simp only [Act.put, List.setIfInBounds_toArray, List.set_cons_zero, List.set_cons_succ]
    refine wpAnyH_ready (rs := [6]) (by kernel_rfl) (by simp) ?_
    refine AllReadyH.cons (ho := by simp only [List.getElem?_toArray, List.getElem?_cons_succ, List.getElem?_cons_zero]; rfl) (fun K hK => ?_) (AllReadyH.nil)
    go_simp
    go_at_call 68; (with_reducible refine (HITY.out _).mono ?_); rintro e w2 ⟨rfl, hd2⟩
    have HD2 : Hid (Below WW.heap.size WW w2) := Kit.hid ((Below.refl _ WW).drew.trans hd2)
    clear hd2
    go_wp2_with fail
    refine hK.out _ _ ?_ (fun hHeldN => ?_)
    · exact ⟨HD2.out.block p (blk_lt HPW.out), HD2.out.block _ (blk_lt HYW.out)⟩
    clear hHeld
    have hHeld := hHeldN
    clear hHeldN
    clear hK K
    try simp only [Act.put, List.setIfInBounds_toArray, List.set_cons_zero, List.set_cons_succ]
    refine wpAnyH_ready (rs := [7]) (by kernel_rfl) (by simp) ?_
    refine AllReadyH.cons (ho := by simp only [List.getElem?_toArray, List.getElem?_cons_succ, List.getElem?_cons_zero]; rfl) (fun K hK => ?_) (AllReadyH.nil)
    go_simp
    go_at_call 67; (with_reducible refine (HDV.out _ (HIW.out.kept fun k hk => HD2.out.block k (HIW.out.lt k hk))).mono ?_); rintro e w3 ⟨b, rfl, h6⟩
    have HI6 := Kit.hid h6
    clear h6
    go_wp2_with fail
    refine hK.out _ _ ?_ (fun hHeldN => ?_)
    · exact ⟨(HI6.out.kept.block p (Nat.lt_of_lt_of_le (blk_lt HPW.out) HD2.out.size) HSP.out).trans (HD2.out.block p (blk_lt HPW.out)), (HI6.out.kept.block _ (Nat.lt_of_lt_of_le (blk_lt HYW.out) HD2.out.size) (fun h => by have := HI.out.lt _ h; omega)).trans (HD2.out.block _ (blk_lt HYW.out))⟩
    clear hHeld
    have hHeld := hHeldN
    clear hHeldN
    clear hK K
    try simp only [Act.put, List.setIfInBounds_toArray, List.set_cons_zero, List.set_cons_succ]
    clear hHeld
    refine wpAnyH_done (by kernel_rfl) ?_ _
    refine NoPanic.normal ?_
    skip
    obtain ⟨S3, hf3, he3⟩ := HI6.out.foot
    have hz2 := HD2.out.size
    have hzw := HBW.out.size
    have HS3F : Hid (∀ k, S3 k → Ext F w k) := Kit.hid (fun k hk => by
      rcases he3 k hk with h | h
      · exact .inl (by rw [HF.out]; exact .inr (.inr h))
      · exact .inr (by omega))
    have HS3P : Hid (¬ S3 p) := Kit.hid (fun hk => by
      rcases he3 _ hk with h | h
      · exact HSP.out h
      · have := HLP.out; omega)
    have HS3M : Hid (¬ S3 mb) := Kit.hid (fun hk => by
      rcases he3 _ hk with h | h
      · exact HSM.out h
      · have := HLM.out; omega)
    have HS3X : Hid (¬ S3 w.heap.size) := Kit.hid (fun hk => by
      have := blk_lt HXW.out
      rcases he3 _ hk with h | h
      · have := HI.out.lt _ h; omega
      · omega)
    have HK3 : Hid (Kept F w w3) := Kit.hid (((Kept.refl F w).below (HBW.out.trans (HD2.out.mono HBW.out.size))).trans HI6.out.kept (fun b hb => .inl (by rw [HF.out]; exact .inr (.inr hb))))
    have HP3 : Hid (w3.heap[p]? = some (.cells #[.map (some mb), .pointer (some ⟨g, 0, none⟩), .int .i64 base] 104 (0, 0))) := Kit.hid (by
      have := HLP.out
      rw [HI6.out.kept.block p (by omega) HSP.out, HD2.out.block p (by omega)]; exact HPW.out)
    have HX3 : Hid (w3.heap[w.heap.size]? = some (.cells #[.int .i64 m.wt, .int .i64 m.v, .int .i64 m.rem] 99 (0, 0))) := Kit.hid (by
      have := blk_lt HXW.out
      rw [HI6.out.kept.block _ (by omega) (fun h => by have := HI.out.lt _ h; omega), HD2.out.block _ (by omega)]; exact HXW.out)
    have HM3 : Hid (MapV Try.prog 3 w3 mb (fmap L) n) := Kit.hid (by
      have := HLM.out
      exact ((HM.out.same (HBW.out.block mb HLM.out)).same (HD2.out.block mb (by omega))).same (HI6.out.kept.block mb (by omega) HSM.out))
    have HI3 : Hid (ItemsF S3 w3 g ((del L m.id).map Mem.it) n) := Kit.hid hf3
    have HIT := Kit.hid (fun (w' : World) => item_any m w')
    unfold mv at HIT
    clear hf3 he3 hz2 hzw HS3 HITY HDV HI6
    go_wp2_with fail
    have HS4 : Hid (∀ w' : World, (w'.heap[p]? = w3.heap[p]? ∧ w'.heap[w.heap.size]? = w3.heap[w.heap.size]?) → w'.cell? ⟨p, 0, none⟩ = some (.map (some mb)) ∧ w'.cell? ⟨p, 1, none⟩ = some (.pointer (some ⟨g, 0, none⟩)) ∧ w'.cell? ⟨w.heap.size, 0, none⟩ = some (.int .i64 m.wt) ∧ w'.cell? ⟨w.heap.size, 1, none⟩ = some (.int .i64 m.v) ∧ w'.cell? ⟨w.heap.size, 2, none⟩ = some (.int .i64 m.rem)) := Kit.hid (fun w' h => by
      have h1 := h.1.trans HP3.out
      have h2 := h.2.trans HX3.out
      exact ⟨blk_cell h1 0, blk_cell h1 1, blk_cell h2 0, blk_cell h2 1, blk_cell h2 2⟩)
    have HM3D : Hid (MapV Try.prog 3 w3.drew mb (fmap L) n) := Kit.hid (HM3.out.same rfl)
    have HZ3 : Hid (w.heap.size ≤ w3.heap.size) := Kit.hid HK3.out.size
    refine wp_region_noPanic ?_
    refine wp_region_held_drew (S := fun (w' : World) => w'.heap[p]? = w3.heap[p]? ∧ w'.heap[w.heap.size]? = w3.heap[w.heap.size]?) (by kernel_rfl) ⟨rfl, rfl⟩ (fun hHeld => ?_)
    refine wpAnyH_take (i := 0) (hi := by simp only [List.getElem?_toArray, List.getElem?_cons_succ, List.getElem?_cons_zero]; rfl) (v := ?_) (by kernel_rfl) (by kernel_rfl) (by kernel_rfl) (fun _ _ _ h => h) (Or.inl ⟨by rfl, ?_⟩) (by assumption) ?_
    rotate_left
    · (intro w hSw; (try dsimp only at hSw); go_simp; first | done | with_reducible rfl)
    try simp only [Act.put, List.setIfInBounds_toArray, List.set_cons_zero, List.set_cons_succ]
    refine wpAnyH_take (i := 1) (hi := by simp only [List.getElem?_toArray, List.getElem?_cons_succ, List.getElem?_cons_zero]; rfl) (v := ?_) (by kernel_rfl) (by kernel_rfl) (by kernel_rfl) (fun _ _ _ h => h) (Or.inl ⟨by rfl, ?_⟩) (by assumption) ?_
    rotate_left
    · (intro w hSw; (try dsimp only at hSw); (obtain ⟨x0, x1, x2, x3, x4⟩ := HS4.out _ hSw); go_simp; first | done | with_reducible rfl)
    try simp only [Act.put, List.setIfInBounds_toArray, List.set_cons_zero, List.set_cons_succ]
    refine wpAnyH_take (i := 2) (hi := by simp only [List.getElem?_toArray, List.getElem?_cons_succ, List.getElem?_cons_zero]; rfl) (v := ?_) (by kernel_rfl) (by kernel_rfl) (by kernel_rfl) (fun _ _ _ h => h) (Or.inl ⟨by rfl, ?_⟩) (by assumption) ?_
    rotate_left
    · (intro w hSw; (try dsimp only at hSw); go_simp; first | done | with_reducible rfl)
    try simp only [Act.put, List.setIfInBounds_toArray, List.set_cons_zero, List.set_cons_succ]
    refine wpAnyH_take (i := 3) (hi := by simp only [List.getElem?_toArray, List.getElem?_cons_succ, List.getElem?_cons_zero]; rfl) (v := ?_) (by kernel_rfl) (by kernel_rfl) (by kernel_rfl) (fun _ _ _ h => h) (Or.inl ⟨by rfl, ?_⟩) (by assumption) ?_
    rotate_left
    · (intro w hSw; (try dsimp only at hSw); (obtain ⟨x0, x1, x2, x3, x4⟩ := HS4.out _ hSw); go_simp; first | done | with_reducible rfl)
    try simp only [Act.put, List.setIfInBounds_toArray, List.set_cons_zero, List.set_cons_succ]
    refine wpAnyH_take (i := 4) (hi := by simp only [List.getElem?_toArray, List.getElem?_cons_succ, List.getElem?_cons_zero]; rfl) (v := ?_) (by kernel_rfl) (by kernel_rfl) (by kernel_rfl) (fun _ _ _ h => h) (Or.inl ⟨by rfl, ?_⟩) (by assumption) ?_
    rotate_left
    · (intro w hSw; (try dsimp only at hSw); go_simp; first | done | with_reducible rfl)
    try simp only [Act.put, List.setIfInBounds_toArray, List.set_cons_zero, List.set_cons_succ]
    refine wpAnyH_take (i := 5) (hi := by simp only [List.getElem?_toArray, List.getElem?_cons_succ, List.getElem?_cons_zero]; rfl) (v := ?_) (by kernel_rfl) (by kernel_rfl) (by kernel_rfl) (fun _ _ _ h => h) (Or.inl ⟨by rfl, ?_⟩) (by assumption) ?_
    rotate_left
    · (intro w hSw; (try dsimp only at hSw); (obtain ⟨x0, x1, x2, x3, x4⟩ := HS4.out _ hSw); go_simp; first | done | with_reducible rfl)
    try simp only [Act.put, List.setIfInBounds_toArray, List.set_cons_zero, List.set_cons_succ]
    refine wpAnyH_ready (rs := [6]) (by kernel_rfl) (by simp) ?_
    refine AllReadyH.cons (ho := by simp only [List.getElem?_toArray, List.getElem?_cons_succ, List.getElem?_cons_zero]; rfl) (fun K hK => ?_) (AllReadyH.nil)
    refine step_of_wp rfl (wp_storeV _ _ _ 101 rfl 3 99 keyed Try.underlying101 mb n (fmap L) (by simp [Act.eval, Act.put]) HM3D.out (by unfold maxLen; omega) m.id (mv m) (by simp [Act.eval, Act.put]) (by simp [Act.eval, Act.put, mv]) HKEY.out ?_)
    intro w4 hm4 hg4
    have HM4 := Kit.hid hm4
    have HG4 : Hid (w3.grownBy w4 (some mb)) := Kit.hid ⟨hg4.os, hg4.tape, hg4.output, hg4.size, hg4.block⟩
    clear hm4 hg4
    refine hK.out _ _ ?_ (fun hHeldN => ?_)
    · exact ⟨HG4.out.block p (blk_lt HP3.out) (fun e => HPM.out (Option.some.inj e)), HG4.out.block _ (blk_lt HX3.out) (fun e => by have := HLM.out; have := Option.some.inj e; omega)⟩
    clear hHeld
    have hHeld := hHeldN
    clear hHeldN
    clear hK K
    try simp only [Act.put, List.setIfInBounds_toArray, List.set_cons_zero, List.set_cons_succ]
    clear hHeld
    refine wpAnyH_done (by kernel_rfl) ?_ _
    refine NoPanic.normal ?_
    skip
    have HI4 : Hid (ItemsF S3 w4 g ((del L m.id).map Mem.it) n) := Kit.hid (HI3.out.kept fun k hk => HG4.out.block k (HI3.out.lt k hk) (fun e => HS3M.out (by cases e; exact hk)))
    have HP4 : Hid (w4.heap[p]? = w3.heap[p]?) := Kit.hid (HG4.out.block p (blk_lt HP3.out) (fun e => HPM.out (Option.some.inj e)))
    have HX4 : Hid (w4.heap[w.heap.size]? = w3.heap[w.heap.size]?) := Kit.hid (HG4.out.block _ (blk_lt HX3.out) (fun e => by have := HLM.out; have := Option.some.inj e; omega))
    go_wp2_with fail
    refine wp_region_noPanic ?_
    refine wp_region_held_drew (S := fun (w' : World) => w'.heap[p]? = w3.heap[p]? ∧ w'.heap[w.heap.size]? = w3.heap[w.heap.size]?) (by kernel_rfl) ⟨HP4.out, HX4.out⟩ (fun hHeld => ?_)
    refine wpAnyH_take (i := 0) (hi := by simp only [List.getElem?_toArray, List.getElem?_cons_succ, List.getElem?_cons_zero]; rfl) (v := ?_) (by kernel_rfl) (by kernel_rfl) (by kernel_rfl) (fun _ _ _ h => h) (Or.inl ⟨by rfl, ?_⟩) (by assumption) ?_
    rotate_left
    · (intro w hSw; (try dsimp only at hSw); go_simp; first | done | with_reducible rfl)
    try simp only [Act.put, List.setIfInBounds_toArray, List.set_cons_zero, List.set_cons_succ]
    refine wpAnyH_take (i := 1) (hi := by simp only [List.getElem?_toArray, List.getElem?_cons_succ, List.getElem?_cons_zero]; rfl) (v := ?_) (by kernel_rfl) (by kernel_rfl) (by kernel_rfl) (fun _ _ _ h => h) (Or.inl ⟨by rfl, ?_⟩) (by assumption) ?_
    rotate_left
    · (intro w hSw; (try dsimp only at hSw); (obtain ⟨x0, x1, x2, x3, x4⟩ := HS4.out _ hSw); go_simp; first | done | with_reducible rfl)
    try simp only [Act.put, List.setIfInBounds_toArray, List.set_cons_zero, List.set_cons_succ]
    refine wpAnyH_take (i := 2) (hi := by simp only [List.getElem?_toArray, List.getElem?_cons_succ, List.getElem?_cons_zero]; rfl) (v := ?_) (by kernel_rfl) (by kernel_rfl) (by kernel_rfl) (fun _ _ _ h => h) (Or.inl ⟨by rfl, ?_⟩) (by assumption) ?_
    rotate_left
    · (intro w hSw; (try dsimp only at hSw); go_simp; first | done | with_reducible rfl)
    try simp only [Act.put, List.setIfInBounds_toArray, List.set_cons_zero, List.set_cons_succ]
    refine wpAnyH_take (i := 3) (hi := by simp only [List.getElem?_toArray, List.getElem?_cons_succ, List.getElem?_cons_zero]; rfl) (v := ?_) (by kernel_rfl) (by kernel_rfl) (by kernel_rfl) (fun _ _ _ h => h) (Or.inl ⟨by rfl, ?_⟩) (by assumption) ?_
    rotate_left
    · (intro w hSw; (try dsimp only at hSw); (obtain ⟨x0, x1, x2, x3, x4⟩ := HS4.out _ hSw); go_simp; first | done | with_reducible rfl)
    try simp only [Act.put, List.setIfInBounds_toArray, List.set_cons_zero, List.set_cons_succ]
    refine wpAnyH_take (i := 4) (hi := by simp only [List.getElem?_toArray, List.getElem?_cons_succ, List.getElem?_cons_zero]; rfl) (v := ?_) (by kernel_rfl) (by kernel_rfl) (by kernel_rfl) (fun _ _ _ h => h) (Or.inl ⟨by rfl, ?_⟩) (by assumption) ?_
    rotate_left
    · (intro w hSw; (try dsimp only at hSw); go_simp; first | done | with_reducible rfl)
    try simp only [Act.put, List.setIfInBounds_toArray, List.set_cons_zero, List.set_cons_succ]
    refine wpAnyH_take (i := 5) (hi := by simp only [List.getElem?_toArray, List.getElem?_cons_succ, List.getElem?_cons_zero]; rfl) (v := ?_) (by kernel_rfl) (by kernel_rfl) (by kernel_rfl) (fun _ _ _ h => h) (Or.inl ⟨by rfl, ?_⟩) (by assumption) ?_
    rotate_left
    · (intro w hSw; (try dsimp only at hSw); (obtain ⟨x0, x1, x2, x3, x4⟩ := HS4.out _ hSw); go_simp; first | done | with_reducible rfl)
    try simp only [Act.put, List.setIfInBounds_toArray, List.set_cons_zero, List.set_cons_succ]
    refine wpAnyH_ready (rs := [6]) (by kernel_rfl) (by simp) ?_
    refine AllReadyH.cons (ho := by simp only [List.getElem?_toArray, List.getElem?_cons_succ, List.getElem?_cons_zero]; rfl) (fun K hK => ?_) (AllReadyH.nil)
    go_simp
    go_at_call 68; (with_reducible refine (HIT.out _).mono ?_); rintro e w5 ⟨rfl, hd5⟩
    have HD5 : Hid (Below w4.heap.size w4 w5) := Kit.hid ((Below.refl _ w4).drew.trans hd5)
    clear hd5
    go_wp2_with fail
    refine hK.out _ _ ?_ (fun hHeldN => ?_)
    · exact ⟨(HD5.out.block p (by have := blk_lt HP3.out; have := HG4.out.size; omega)).trans HP4.out, (HD5.out.block _ (by have := blk_lt HX3.out; have := HG4.out.size; omega)).trans HX4.out⟩
    clear hHeld
    have hHeld := hHeldN
    clear hHeldN
    clear hK K
    try simp only [Act.put, List.setIfInBounds_toArray, List.set_cons_zero, List.set_cons_succ]
    refine wpAnyH_ready (rs := [7]) (by kernel_rfl) (by simp) ?_
    refine AllReadyH.cons (ho := by simp only [List.getElem?_toArray, List.getElem?_cons_succ, List.getElem?_cons_zero]; rfl) (fun K hK => ?_) (AllReadyH.nil)
    go_simp
    go_at_call 74; (with_reducible refine (HPV.out w5 S3 _ (HI4.out.kept fun k hk => HD5.out.block k (HI4.out.lt k hk)) rfl).mono ?_); rintro e w6 ⟨b, rfl, h6⟩
    have HI6 := Kit.hid h6
    clear h6
    go_wp2_with fail
    refine hK.out _ _ ?_ (fun hHeldN => ?_)
    · exact ⟨((HI6.out.kept.block p (by have := blk_lt HP3.out; have := HG4.out.size; have := HD5.out.size; omega) HS3P.out).trans (HD5.out.block p (by have := blk_lt HP3.out; have := HG4.out.size; omega))).trans HP4.out, ((HI6.out.kept.block _ (by have := blk_lt HX3.out; have := HG4.out.size; have := HD5.out.size; omega) HS3X.out).trans (HD5.out.block _ (by have := blk_lt HX3.out; have := HG4.out.size; omega))).trans HX4.out⟩
    clear hHeld
    have hHeld := hHeldN
    clear hHeldN
    clear hK K
    try simp only [Act.put, List.setIfInBounds_toArray, List.set_cons_zero, List.set_cons_succ]
    clear hHeld
    refine wpAnyH_done (by kernel_rfl) ?_ _
    refine NoPanic.normal ?_
    skip
    go_wp2
    go_end0
    exact ⟨rfl, put_fin HF.out HK3.out HS3F.out HS3P.out HS3M.out HPM.out HLP.out HLM.out HWQ.out HP3.out HM4.out HG4.out HD5.out HI6.out⟩
end
end Go.Proofs.Ytpgfenelckonoaa.Qu
