/- The walks of kin's link and unlink. -/
import Derived.Test.YtkhoiiinifdhcaaKiD
namespace Go.Proofs.Ytkhoiiinifdhcaa.Ki
open Go.RowKit Go.Proofs.Ytkhoiiinifdhcaa.Kit Go.Proofs.Ytkhoiiinifdhcaa.KiM
set_option linter.unusedVariables false
set_option linter.unusedSimpArgs false
section
variable {w w' : World} {p mb n : Nat} {P : Int → Option Int} {K : Int → List Int}
theorem KM.step (h : KM w p mb P K n) : ∃ f, MapV Try.prog 3 w mb f n ∧ ∀ (w'' : World) (j0 q0 : Int) (v : Value) (l : List Int) (m : Nat), Row 0 w v l → l.length ≤ m → n ≤ m →
    MapV Try.prog 3 w'' mb (fun j => if j = j0 then some (nodeV q0 v) else f j) m → w.grownBy w'' (some mb) → KM w'' p mb (fun j => if j = j0 then some q0 else P j) (fun j => if j = j0 then l else K j) m := by
  have hlt := h.lt
  obtain ⟨h1, va, h2, h3⟩ := h
  obtain ⟨es, clock, hb⟩ := MapV.obj h2
  exact ⟨_, h2, fun w'' j0 q0 v l m hv hl hnm hm hg => KM.store h1 h3 hv hl hnm hlt.2.2 hb hm hg⟩
theorem insI_len (x : Int) : ∀ l : List Int, (insI x l).length = l.length + 1
  | [] => rfl
  | y :: l => by unfold insI; split <;> simp [insI_len x l]
set_option maxRecDepth 40000 in
set_option maxHeartbeats 3200000 in
theorem link_any (h : KM w p mb P K n) (hn : n ≤ 99990) (id par qp : Int) (hp : P par = some qp) (hs : (K par).Pairwise (· < ·)) (hni : id ∉ K par) (hid : P id = none → K id = []) (hne : id ≠ par)
    (hi1 : -9223372036854775808 ≤ id) (hi2 : id ≤ 9223372036854775807) (hj1 : -9223372036854775808 ≤ par) (hj2 : par ≤ 9223372036854775807) :
    Calls Try.prog 33 #[.pointer (some ⟨p, 0, none⟩), .int .i64 id, .int .i64 par] w fun e w' => e = .returned (.tuple #[]) ∧
      KM w' p mb (fun j => if j = id then some par else P j) (fun j => if j = par then insI id (K par) else K j) (n + 2) ∧ Kp mb w w' := by
  have HKI : Hid (keyOf Try.prog 3 (.int .i64 id) = some (.int .i64 id)) := Kit.hid (int_key Try.underlying3 hi1 hi2)
  have HKP : Hid (keyOf Try.prog 3 (.int .i64 par) = some (.int .i64 par)) := Kit.hid (int_key Try.underlying3 hj1 hj2)
  have HH := Kit.hid h
  have HID := Kit.hid hid
  have HNE := Kit.hid hne
  have HPP := Kit.hid hp
  obtain ⟨f, hm, hf⟩ := h.entry par
  rcases hf with ⟨h1, _⟩ | ⟨q', A, c, h1, h2, h3, h4⟩
  · rw [hp] at h1; cases h1
  rw [hp] at h1
  cases h1
  obtain ⟨k, hk⟩ : ∃ k, k = (K par).length := ⟨_, rfl⟩
  rw [← hk] at h2 h3 h4
  have HLK : Hid ((if false = true then Value.tuple #[(f par).getD (.agg #[.int .i64 0, .slice none 0 0]), .bool (f par).isSome] else (f par).getD (.agg #[.int .i64 0, .slice none 0 0])) = .agg #[.int .i64 qp, .slice A k c]) := Kit.hid (by simp [h2])
  have HMB := Kit.hid hm
  have hp0 := blk_cell h.1 0
  obtain ⟨gp, hgp⟩ : ∃ gp, gp = w.heap.size := ⟨_, rfl⟩
  obtain ⟨w1, hw1⟩ : ∃ w1, w1 = w.alloc (.cells #[.int .i64 qp, .slice A k c] 50) := ⟨_, rfl⟩
  have HB1 : Hid (Below w.heap.size w w1) := Kit.hid (by rw [hw1]; exact (Below.refl _ _).alloc (Nat.le_refl _) _)
  have HG1 : Hid (w1.heap[gp]? = some (.cells #[.int .i64 qp, .slice A k c] 50 (0, 0))) := Kit.hid (by rw [hw1, hgp]; exact blk_new _ _)
  have HR1 : Hid (Row 0 w1 (.slice A k c) (K par)) := Kit.hid (h3.below HB1.out)
  have HSR := Kit.hid (search_row HR1.out id (by omega) (hs.imp fun h => by omega))
  obtain ⟨i, hi⟩ : ∃ i, i = (K par).countP (· < id) := ⟨_, rfl⟩
  rw [← hi] at HSR
  have hik : i ≤ k := by rw [hi, hk]; exact List.countP_le_length
  have HIN : Hid ((K par).take i ++ id :: (K par).drop i = insI id (K par)) := Kit.hid (by rw [hi]; exact ins_at hs)
  generalize (K par).contains id = bb at HSR
  have g0 := blk_cell HG1.out 0
  have g1 := blk_cell HG1.out 1
  have HSO := Kit.hid hs
  have HNI := Kit.hid hni
  have HK := Kit.hid hk
  have HGP := Kit.hid hgp
  have hfk := field_kids
  clear h hm hid hne hp hs hni h2 h3 hi1 hi2 hj1 hj2 hk hi
  go_enter Try.func33, Try.ntmps33
  go_wp2_with (at_lookup; refine wpList_lookV rfl _ _ 51 false rfl 3 50 keyedK Try.underlying51 _ (zero_node _) mb n f rfl HMB.out par rfl HKP.out _ HLK.out ?_)
  rw [← hgp, ← hw1]
  (with_reducible refine HSR.out.mono ?_); rintro e w2 ⟨rfl, q2, hw2⟩
  have HB2 : Hid (Below w.heap.size w w2) := Kit.hid (by rw [hw2]; exact below_drewN HB1.out q2)
  have HG2 : Hid (w2.heap[gp]? = some (.cells #[.int .i64 qp, .slice A k c] 50 (0, 0))) := Kit.hid (by rw [hw2]; exact HG1.out)
  have HR2 : Hid (Row 0 w2 (.slice A k c) (K par)) := Kit.hid (by rw [hw2]; exact HR1.out.below (below_drewN (Below.refl _ _) q2))
  have g2 := blk_cell HG2.out 1
  have HCL := Kit.hid (clone_row HR2.out (by rw [← HK.out]; omega))
  clear hw2 hw1 hgp g0 g1 HSR
  go_wp2_with fail
  (with_reducible refine HCL.out.mono ?_); rintro e w3 ⟨v3, rfl, hr3, hb3⟩
  have HB3 := Kit.hid (HB2.out.trans (hb3.mono HB2.out.size))
  have HG3 := Kit.hid (blk_below HG2.out hb3)
  obtain ⟨w4, hw4⟩ : ∃ w4, w4 = w3.alloc (.cells #[.int .i64 id] 3) := ⟨_, rfl⟩
  have hb4 : Below w3.heap.size w3 w4 := by rw [hw4]; exact (Below.refl _ _).alloc (Nat.le_refl _) _
  have HB4 := Kit.hid (HB3.out.trans (hb4.mono HB3.out.size))
  have HG4 := Kit.hid (blk_below HG3.out hb4)
  have HR4 := Kit.hid (hr3.below hb4)
  have HV4 : Hid (w4.heap[w3.heap.size]? = some (.cells #[.int .i64 id] 3 (0, 0))) := Kit.hid (by rw [hw4]; exact blk_new _ _)
  have HG2L := Kit.hid (blk_lt HG2.out)
  have HIR := Kit.hid (insert_row HR4.out i (by rw [← HK.out]; exact hik) (by rw [← HK.out]; omega) (by have := HB2.out.size; have := hb3.size; have := hb4.size; omega) HV4.out (fun g hg e => by
    have := (hr3.own_lt g hg).2
    omega))
  clear hr3 hb3 hb4 HCL g2
  go_wp2_with fail
  rw [← hw4]
  clear hw4
  (with_reducible refine HIR.out.mono ?_); rintro e w5 ⟨v5, rfl, hr5, hg5⟩
  rw [HIN.out] at hr5
  have HB5 : Hid (Below w.heap.size w w5) := Kit.hid (HB4.out.grown hg5 HB4.out.size (fun g hg => Nat.le_trans HB2.out.size (HR4.out.own_lt g hg).1))
  have HG5 : Hid (w5.heap[gp]? = some (.cells #[.int .i64 qp, .slice A k c] 50 (0, 0))) := Kit.hid ((hg5.block gp (blk_lt HG4.out) (fun e => by
    have := (HR4.out.own_lt gp e.symm).1
    have := HG2L.out
    omega)).trans HG4.out)
  obtain ⟨A5, c5, rfl, _, _, _⟩ := hr5.reads
  have hl5 : (insI id (K par)).length = k + 1 := by rw [insI_len, HK.out]
  have HR5 : Hid (Row w2.heap.size w5 (.slice A5 (k + 1) c5) (insI id (K par))) := Kit.hid (by rw [hl5] at hr5; exact hr5)
  rw [hl5]
  have f1 := blk_frozen HG5.out 1
  have k1 := blk_cell HG5.out 1
  obtain ⟨w6, hw6⟩ : ∃ w6, w6 = w5.setCell ⟨gp, 1, none⟩ (.slice A5 (k + 1) c5) := ⟨_, rfl⟩
  have HB6 : Hid (Below w.heap.size w w6) := Kit.hid (by rw [hw6]; exact HB5.out.setCell (p := ⟨gp, 1, none⟩) (by rw [HGP.out]; exact Nat.le_refl _) _)
  have HG6 : Hid (w6.heap[gp]? = some (.cells #[.int .i64 qp, .slice A5 (k + 1) c5] 50 (0, 0))) := Kit.hid (by rw [hw6]; exact blk_put HG5.out 1 _ rfl)
  have HR6 : Hid (Row 0 w6 (.slice A5 (k + 1) c5) (insI id (K par))) := Kit.hid (by
    rw [hw6]
    exact (HR5.out.mono (Nat.zero_le _)).same fun g hg => Below.heap_setCell _ _ _ _ (fun e => by
      have := (HR5.out.own_lt g hg).1
      have := HG2L.out
      have e : g = gp := e
      omega))
  have HH6 : Hid (KM w6.drew p mb P K n) := Kit.hid (HH.out.below HB6.out.drew)
  obtain ⟨f6, hm6, hst6⟩ := HH6.out.step
  have HM6 := Kit.hid hm6
  have HST6 := Kit.hid hst6
  have HS6 : Hid (∀ w' : World, (w'.heap[p]? = w6.heap[p]? ∧ w'.heap[gp]? = w6.heap[gp]?) → w'.cell? ⟨p, 0, none⟩ = some (.map (some mb)) ∧ w'.cell? ⟨gp, 0, none⟩ = some (.int .i64 qp) ∧ w'.cell? ⟨gp, 1, none⟩ = some (.slice A5 (k + 1) c5)) := Kit.hid (fun w' h => by
    have h1 := h.1.trans HH6.out.1
    have h2 := h.2.trans HG6.out
    exact ⟨blk_cell h1 0, blk_cell h2 0, blk_cell h2 1⟩)
  have HPN : Hid (p ≠ mb ∧ gp ≠ mb) := Kit.hid ⟨HH.out.lt.2.2, by rw [HGP.out]; have := HH.out.lt.2.1; omega⟩
  clear hr5 hg5 hl5 HIR hm6 hst6
  go_wp2_with fail
  rw [← hw6]
  clear hw6 f1 k1
  refine wp_region_noPanic ?_
  refine wp_region_held_drew (S := fun (w' : World) => w'.heap[p]? = w6.heap[p]? ∧ w'.heap[gp]? = w6.heap[gp]?) (by kernel_rfl) ⟨rfl, rfl⟩ (fun hHeld => ?_)
  refine wpAnyH_take (i := 0) (hi := by simp only [List.getElem?_toArray, List.getElem?_cons_succ, List.getElem?_cons_zero]; rfl) (v := ?_) (by kernel_rfl) (by kernel_rfl) (by kernel_rfl) (fun _ _ _ h => h) (Or.inl ⟨by rfl, ?_⟩) (by assumption) ?_
  rotate_left
  · (intro w hSw; (try dsimp only at hSw); go_simp; first | done | with_reducible rfl)
  try simp only [Act.put, List.setIfInBounds_toArray, List.set_cons_zero, List.set_cons_succ]
  refine wpAnyH_take (i := 1) (hi := by simp only [List.getElem?_toArray, List.getElem?_cons_succ, List.getElem?_cons_zero]; rfl) (v := ?_) (by kernel_rfl) (by kernel_rfl) (by kernel_rfl) (fun _ _ _ h => h) (Or.inl ⟨by rfl, ?_⟩) (by assumption) ?_
  rotate_left
  · (intro w hSw; (try dsimp only at hSw); (obtain ⟨x0, x1, x2⟩ := HS6.out _ hSw); go_simp; first | done | with_reducible rfl)
  try simp only [Act.put, List.setIfInBounds_toArray, List.set_cons_zero, List.set_cons_succ]
  refine wpAnyH_take (i := 2) (hi := by simp only [List.getElem?_toArray, List.getElem?_cons_succ, List.getElem?_cons_zero]; rfl) (v := ?_) (by kernel_rfl) (by kernel_rfl) (by kernel_rfl) (fun _ _ _ h => h) (Or.inl ⟨by rfl, ?_⟩) (by assumption) ?_
  rotate_left
  · (intro w hSw; (try dsimp only at hSw); go_simp; first | done | with_reducible rfl)
  try simp only [Act.put, List.setIfInBounds_toArray, List.set_cons_zero, List.set_cons_succ]
  refine wpAnyH_take (i := 3) (hi := by simp only [List.getElem?_toArray, List.getElem?_cons_succ, List.getElem?_cons_zero]; rfl) (v := ?_) (by kernel_rfl) (by kernel_rfl) (by kernel_rfl) (fun _ _ _ h => h) (Or.inl ⟨by rfl, ?_⟩) (by assumption) ?_
  rotate_left
  · (intro w hSw; (try dsimp only at hSw); (obtain ⟨x0, x1, x2⟩ := HS6.out _ hSw); go_simp; first | done | with_reducible rfl)
  try simp only [Act.put, List.setIfInBounds_toArray, List.set_cons_zero, List.set_cons_succ]
  refine wpAnyH_take (i := 4) (hi := by simp only [List.getElem?_toArray, List.getElem?_cons_succ, List.getElem?_cons_zero]; rfl) (v := ?_) (by kernel_rfl) (by kernel_rfl) (by kernel_rfl) (fun _ _ _ h => h) (Or.inl ⟨by rfl, ?_⟩) (by assumption) ?_
  rotate_left
  · (intro w hSw; (try dsimp only at hSw); go_simp; first | done | with_reducible rfl)
  try simp only [Act.put, List.setIfInBounds_toArray, List.set_cons_zero, List.set_cons_succ]
  refine wpAnyH_take (i := 5) (hi := by simp only [List.getElem?_toArray, List.getElem?_cons_succ, List.getElem?_cons_zero]; rfl) (v := ?_) (by kernel_rfl) (by kernel_rfl) (by kernel_rfl) (fun _ _ _ h => h) (Or.inl ⟨by rfl, ?_⟩) (by assumption) ?_
  rotate_left
  · (intro w hSw; (try dsimp only at hSw); (obtain ⟨x0, x1, x2⟩ := HS6.out _ hSw); go_simp; first | done | with_reducible rfl)
  try simp only [Act.put, List.setIfInBounds_toArray, List.set_cons_zero, List.set_cons_succ]
  refine wpAnyH_ready (rs := [6]) (by kernel_rfl) (by simp) ?_
  refine AllReadyH.cons (ho := by simp only [List.getElem?_toArray, List.getElem?_cons_succ, List.getElem?_cons_zero]; rfl) (fun K hK => ?_) (AllReadyH.nil)
  refine step_of_wp rfl (wp_storeV _ _ _ 51 rfl 3 50 keyedK Try.underlying51 mb _ f6 (by simp [Act.eval, Act.put]) HM6.out (by unfold maxLen; omega) par (nodeV qp (.slice A5 (k + 1) c5)) (by simp [Act.eval, Act.put]) (by simp [Act.eval, Act.put, nodeV]) HKP.out ?_)
  intro w7 hmm hgg
  have HMw7 := Kit.hid hmm
  have HGw7 := Kit.hid hgg
  clear hmm hgg
  refine hK.out _ _ ?_ (fun hHeldN => ?_)
  · exact ⟨HGw7.out.block p (blk_lt HH6.out.1) (fun e => HPN.out.1 (Option.some.inj e)), HGw7.out.block gp (blk_lt HG6.out) (fun e => HPN.out.2 (Option.some.inj e))⟩
  clear hHeld
  have hHeld := hHeldN
  clear hHeldN
  clear hK K
  try simp only [Act.put, List.setIfInBounds_toArray, List.set_cons_zero, List.set_cons_succ]
  clear hHeld
  refine wpAnyH_done (by kernel_rfl) ?_ _
  refine NoPanic.normal ?_
  skip
  have HK7 : Hid (KM w7 p mb (fun j => if j = par then some qp else P j) (fun j => if j = par then insI id (K par) else K j) (n + 1)) := Kit.hid (HST6.out w7 par qp _ _ (n + 1) (HR6.out.below (Below.refl _ _).drew) (by rw [insI_len, ← HK.out]; omega) (by omega) HMw7.out HGw7.out)
  have HKP7 : Hid (Kp mb w w7) := Kit.hid ((Kp.of_below HB6.out.drew).trans (Kp.grown HGw7.out))
  obtain ⟨f7, hm7, hf7⟩ := HK7.out.entry id
  have HMB7 := Kit.hid hm7
  have p7 := blk_cell HK7.out.1 0
  obtain ⟨gn, hgn⟩ : ∃ gn, gn = w7.heap.size := ⟨_, rfl⟩
  have hne' := HNE.out
  simp only [if_neg hne'] at hf7
  clear hm7 hne'
  rcases hf7 with ⟨e1, e2⟩ | ⟨q7, A8, c8, e1, e2, e3, e4⟩
  · have hK0 : K id = [] := HID.out e1
    have HLK7 : Hid ((if false = true then Value.tuple #[(f7 id).getD (.agg #[.int .i64 0, .slice none 0 0]), .bool (f7 id).isSome] else (f7 id).getD (.agg #[.int .i64 0, .slice none 0 0])) = .agg #[.int .i64 0, .slice none 0 0]) := Kit.hid (by simp [e2])
    have hrow : Row 0 w7 (.slice none 0 0) (K id) := by rw [hK0]; exact row_nil _ _
    have hkl : (K id).length ≤ n + 2 := by rw [hK0]; simp
    clear e1 e2 hK0
    obtain ⟨w8, hw8⟩ : ∃ w8, w8 = w7.alloc (.cells #[.int .i64 par, .slice none 0 0] 50) := ⟨_, rfl⟩
    have hb8 : Below w7.heap.size w7 w8 := by rw [hw8]; exact (Below.refl _ _).alloc (Nat.le_refl _) _
    have HG8 : Hid (w8.heap[gn]? = some (.cells #[.int .i64 par, .slice none 0 0] 50 (0, 0))) := Kit.hid (by rw [hw8, hgn]; exact blk_new _ _)
    have HK8 : Hid (KM w8.drew p mb (fun j => if j = par then some qp else P j) (fun j => if j = par then insI id (K par) else K j) (n + 1)) := Kit.hid (HK7.out.below hb8.drew)
    have HR8 : Hid (Row 0 w8.drew (.slice none 0 0) (K id)) := Kit.hid (hrow.below hb8.drew)
    have HKP8 : Hid (Kp mb w w8.drew) := Kit.hid (HKP7.out.trans (Kp.of_below hb8.drew))
    obtain ⟨f8, hm8, hst8⟩ := HK8.out.step
    have HM8 := Kit.hid hm8
    have HST8 := Kit.hid hst8
    have HS8 : Hid (∀ w' : World, (w'.heap[p]? = w8.heap[p]? ∧ w'.heap[gn]? = w8.heap[gn]?) → w'.cell? ⟨p, 0, none⟩ = some (.map (some mb)) ∧ w'.cell? ⟨gn, 0, none⟩ = some (.int .i64 par) ∧ w'.cell? ⟨gn, 1, none⟩ = some (.slice none 0 0)) := Kit.hid (fun w' h => by
      have h1 := h.1.trans HK8.out.1
      have h2 := h.2.trans HG8.out
      exact ⟨blk_cell h1 0, blk_cell h2 0, blk_cell h2 1⟩)
    have HPN8 : Hid (p ≠ mb ∧ gn ≠ mb) := Kit.hid ⟨HK8.out.lt.2.2, by rw [hgn]; have := HK7.out.lt.2.1; omega⟩
    clear hb8 hm8 hst8 hrow
    go_wp2_with (at_lookup; refine wpList_lookV rfl _ _ 51 false rfl 3 50 keyedK Try.underlying51 _ (zero_node _) mb (n + 1) f7 rfl HMB7.out id rfl HKI.out _ HLK7.out ?_)
    rw [← hgn, ← hw8]
    clear hgn hw8
    refine wp_region_noPanic ?_
    refine wp_region_held_drew (S := fun (w' : World) => w'.heap[p]? = w8.heap[p]? ∧ w'.heap[gn]? = w8.heap[gn]?) (by kernel_rfl) ⟨rfl, rfl⟩ (fun hHeld => ?_)
    refine wpAnyH_take (i := 0) (hi := by simp only [List.getElem?_toArray, List.getElem?_cons_succ, List.getElem?_cons_zero]; rfl) (v := ?_) (by kernel_rfl) (by kernel_rfl) (by kernel_rfl) (fun _ _ _ h => h) (Or.inl ⟨by rfl, ?_⟩) (by assumption) ?_
    rotate_left
    · (intro w hSw; (try dsimp only at hSw); go_simp; first | done | with_reducible rfl)
    try simp only [Act.put, List.setIfInBounds_toArray, List.set_cons_zero, List.set_cons_succ]
    refine wpAnyH_take (i := 1) (hi := by simp only [List.getElem?_toArray, List.getElem?_cons_succ, List.getElem?_cons_zero]; rfl) (v := ?_) (by kernel_rfl) (by kernel_rfl) (by kernel_rfl) (fun _ _ _ h => h) (Or.inl ⟨by rfl, ?_⟩) (by assumption) ?_
    rotate_left
    · (intro w hSw; (try dsimp only at hSw); (obtain ⟨x0, x1, x2⟩ := HS8.out _ hSw); go_simp; first | done | with_reducible rfl)
    try simp only [Act.put, List.setIfInBounds_toArray, List.set_cons_zero, List.set_cons_succ]
    refine wpAnyH_take (i := 2) (hi := by simp only [List.getElem?_toArray, List.getElem?_cons_succ, List.getElem?_cons_zero]; rfl) (v := ?_) (by kernel_rfl) (by kernel_rfl) (by kernel_rfl) (fun _ _ _ h => h) (Or.inl ⟨by rfl, ?_⟩) (by assumption) ?_
    rotate_left
    · (intro w hSw; (try dsimp only at hSw); go_simp; first | done | with_reducible rfl)
    try simp only [Act.put, List.setIfInBounds_toArray, List.set_cons_zero, List.set_cons_succ]
    refine wpAnyH_take (i := 3) (hi := by simp only [List.getElem?_toArray, List.getElem?_cons_succ, List.getElem?_cons_zero]; rfl) (v := ?_) (by kernel_rfl) (by kernel_rfl) (by kernel_rfl) (fun _ _ _ h => h) (Or.inl ⟨by rfl, ?_⟩) (by assumption) ?_
    rotate_left
    · (intro w hSw; (try dsimp only at hSw); (obtain ⟨x0, x1, x2⟩ := HS8.out _ hSw); go_simp; first | done | with_reducible rfl)
    try simp only [Act.put, List.setIfInBounds_toArray, List.set_cons_zero, List.set_cons_succ]
    refine wpAnyH_take (i := 4) (hi := by simp only [List.getElem?_toArray, List.getElem?_cons_succ, List.getElem?_cons_zero]; rfl) (v := ?_) (by kernel_rfl) (by kernel_rfl) (by kernel_rfl) (fun _ _ _ h => h) (Or.inl ⟨by rfl, ?_⟩) (by assumption) ?_
    rotate_left
    · (intro w hSw; (try dsimp only at hSw); go_simp; first | done | with_reducible rfl)
    try simp only [Act.put, List.setIfInBounds_toArray, List.set_cons_zero, List.set_cons_succ]
    refine wpAnyH_take (i := 5) (hi := by simp only [List.getElem?_toArray, List.getElem?_cons_succ, List.getElem?_cons_zero]; rfl) (v := ?_) (by kernel_rfl) (by kernel_rfl) (by kernel_rfl) (fun _ _ _ h => h) (Or.inl ⟨by rfl, ?_⟩) (by assumption) ?_
    rotate_left
    · (intro w hSw; (try dsimp only at hSw); (obtain ⟨x0, x1, x2⟩ := HS8.out _ hSw); go_simp; first | done | with_reducible rfl)
    try simp only [Act.put, List.setIfInBounds_toArray, List.set_cons_zero, List.set_cons_succ]
    refine wpAnyH_ready (rs := [6]) (by kernel_rfl) (by simp) ?_
    refine AllReadyH.cons (ho := by simp only [List.getElem?_toArray, List.getElem?_cons_succ, List.getElem?_cons_zero]; rfl) (fun K hK => ?_) (AllReadyH.nil)
    refine step_of_wp rfl (wp_storeV _ _ _ 51 rfl 3 50 keyedK Try.underlying51 mb _ f8 (by simp [Act.eval, Act.put]) HM8.out (by unfold maxLen; omega) id (nodeV par (.slice none 0 0)) (by simp [Act.eval, Act.put]) (by simp [Act.eval, Act.put, nodeV]) HKI.out ?_)
    intro w9 hmm hgg
    have HMw9 := Kit.hid hmm
    have HGw9 := Kit.hid hgg
    clear hmm hgg
    refine hK.out _ _ ?_ (fun hHeldN => ?_)
    · exact ⟨HGw9.out.block p (blk_lt HK8.out.1) (fun e => HPN8.out.1 (Option.some.inj e)), HGw9.out.block gn (blk_lt HG8.out) (fun e => HPN8.out.2 (Option.some.inj e))⟩
    clear hHeld
    have hHeld := hHeldN
    clear hHeldN
    clear hK K
    try simp only [Act.put, List.setIfInBounds_toArray, List.set_cons_zero, List.set_cons_succ]
    clear hHeld
    refine wpAnyH_done (by kernel_rfl) ?_ _
    refine NoPanic.normal ?_
    skip
    have HKF : Hid (KM w9 p mb (fun j => if j = id then some par else P j) (fun j => if j = par then insI id (K par) else K j) (n + 2)) := Kit.hid ((HST8.out w9 id par _ (K id) (n + 2) HR8.out hkl (by omega) HMw9.out HGw9.out).congr (fun j => by
        by_cases e1 : j = id
        · simp [e1]
        · by_cases e2 : j = par
          · simp [e1, e2, HPP.out, HNE.out.symm]
          · simp [e1, e2]) (fun j q hj => by
        by_cases e1 : j = id
        · simp [e1, HNE.out]
        · simp [e1]))
    have HKQ : Hid (Kp mb w w9) := Kit.hid (HKP8.out.trans (Kp.grown HGw9.out))
    go_wp2
    go_end0
    exact ⟨rfl, HKF.out, HKQ.out⟩
  · obtain ⟨k8, hk8⟩ : ∃ k8, k8 = (K id).length := ⟨_, rfl⟩
    rw [← hk8] at e2 e3
    have HLK7 : Hid ((if false = true then Value.tuple #[(f7 id).getD (.agg #[.int .i64 0, .slice none 0 0]), .bool (f7 id).isSome] else (f7 id).getD (.agg #[.int .i64 0, .slice none 0 0])) = .agg #[.int .i64 q7, .slice A8 k8 c8]) := Kit.hid (by simp [e2])
    have hrow : Row 0 w7 (.slice A8 k8 c8) (K id) := e3
    have hkl : (K id).length ≤ n + 2 := by omega
    clear e1 e2 e3 hk8
    obtain ⟨w8, hw8⟩ : ∃ w8, w8 = w7.alloc (.cells #[.int .i64 par, .slice A8 k8 c8] 50) := ⟨_, rfl⟩
    have hb8 : Below w7.heap.size w7 w8 := by rw [hw8]; exact (Below.refl _ _).alloc (Nat.le_refl _) _
    have HG8 : Hid (w8.heap[gn]? = some (.cells #[.int .i64 par, .slice A8 k8 c8] 50 (0, 0))) := Kit.hid (by rw [hw8, hgn]; exact blk_new _ _)
    have HK8 : Hid (KM w8.drew p mb (fun j => if j = par then some qp else P j) (fun j => if j = par then insI id (K par) else K j) (n + 1)) := Kit.hid (HK7.out.below hb8.drew)
    have HR8 : Hid (Row 0 w8.drew (.slice A8 k8 c8) (K id)) := Kit.hid (hrow.below hb8.drew)
    have HKP8 : Hid (Kp mb w w8.drew) := Kit.hid (HKP7.out.trans (Kp.of_below hb8.drew))
    obtain ⟨f8, hm8, hst8⟩ := HK8.out.step
    have HM8 := Kit.hid hm8
    have HST8 := Kit.hid hst8
    have HS8 : Hid (∀ w' : World, (w'.heap[p]? = w8.heap[p]? ∧ w'.heap[gn]? = w8.heap[gn]?) → w'.cell? ⟨p, 0, none⟩ = some (.map (some mb)) ∧ w'.cell? ⟨gn, 0, none⟩ = some (.int .i64 par) ∧ w'.cell? ⟨gn, 1, none⟩ = some (.slice A8 k8 c8)) := Kit.hid (fun w' h => by
      have h1 := h.1.trans HK8.out.1
      have h2 := h.2.trans HG8.out
      exact ⟨blk_cell h1 0, blk_cell h2 0, blk_cell h2 1⟩)
    have HPN8 : Hid (p ≠ mb ∧ gn ≠ mb) := Kit.hid ⟨HK8.out.lt.2.2, by rw [hgn]; have := HK7.out.lt.2.1; omega⟩
    clear hb8 hm8 hst8 hrow
    go_wp2_with (at_lookup; refine wpList_lookV rfl _ _ 51 false rfl 3 50 keyedK Try.underlying51 _ (zero_node _) mb (n + 1) f7 rfl HMB7.out id rfl HKI.out _ HLK7.out ?_)
    rw [← hgn, ← hw8]
    clear hgn hw8
    refine wp_region_noPanic ?_
    refine wp_region_held_drew (S := fun (w' : World) => w'.heap[p]? = w8.heap[p]? ∧ w'.heap[gn]? = w8.heap[gn]?) (by kernel_rfl) ⟨rfl, rfl⟩ (fun hHeld => ?_)
    refine wpAnyH_take (i := 0) (hi := by simp only [List.getElem?_toArray, List.getElem?_cons_succ, List.getElem?_cons_zero]; rfl) (v := ?_) (by kernel_rfl) (by kernel_rfl) (by kernel_rfl) (fun _ _ _ h => h) (Or.inl ⟨by rfl, ?_⟩) (by assumption) ?_
    rotate_left
    · (intro w hSw; (try dsimp only at hSw); go_simp; first | done | with_reducible rfl)
    try simp only [Act.put, List.setIfInBounds_toArray, List.set_cons_zero, List.set_cons_succ]
    refine wpAnyH_take (i := 1) (hi := by simp only [List.getElem?_toArray, List.getElem?_cons_succ, List.getElem?_cons_zero]; rfl) (v := ?_) (by kernel_rfl) (by kernel_rfl) (by kernel_rfl) (fun _ _ _ h => h) (Or.inl ⟨by rfl, ?_⟩) (by assumption) ?_
    rotate_left
    · (intro w hSw; (try dsimp only at hSw); (obtain ⟨x0, x1, x2⟩ := HS8.out _ hSw); go_simp; first | done | with_reducible rfl)
    try simp only [Act.put, List.setIfInBounds_toArray, List.set_cons_zero, List.set_cons_succ]
    refine wpAnyH_take (i := 2) (hi := by simp only [List.getElem?_toArray, List.getElem?_cons_succ, List.getElem?_cons_zero]; rfl) (v := ?_) (by kernel_rfl) (by kernel_rfl) (by kernel_rfl) (fun _ _ _ h => h) (Or.inl ⟨by rfl, ?_⟩) (by assumption) ?_
    rotate_left
    · (intro w hSw; (try dsimp only at hSw); go_simp; first | done | with_reducible rfl)
    try simp only [Act.put, List.setIfInBounds_toArray, List.set_cons_zero, List.set_cons_succ]
    refine wpAnyH_take (i := 3) (hi := by simp only [List.getElem?_toArray, List.getElem?_cons_succ, List.getElem?_cons_zero]; rfl) (v := ?_) (by kernel_rfl) (by kernel_rfl) (by kernel_rfl) (fun _ _ _ h => h) (Or.inl ⟨by rfl, ?_⟩) (by assumption) ?_
    rotate_left
    · (intro w hSw; (try dsimp only at hSw); (obtain ⟨x0, x1, x2⟩ := HS8.out _ hSw); go_simp; first | done | with_reducible rfl)
    try simp only [Act.put, List.setIfInBounds_toArray, List.set_cons_zero, List.set_cons_succ]
    refine wpAnyH_take (i := 4) (hi := by simp only [List.getElem?_toArray, List.getElem?_cons_succ, List.getElem?_cons_zero]; rfl) (v := ?_) (by kernel_rfl) (by kernel_rfl) (by kernel_rfl) (fun _ _ _ h => h) (Or.inl ⟨by rfl, ?_⟩) (by assumption) ?_
    rotate_left
    · (intro w hSw; (try dsimp only at hSw); go_simp; first | done | with_reducible rfl)
    try simp only [Act.put, List.setIfInBounds_toArray, List.set_cons_zero, List.set_cons_succ]
    refine wpAnyH_take (i := 5) (hi := by simp only [List.getElem?_toArray, List.getElem?_cons_succ, List.getElem?_cons_zero]; rfl) (v := ?_) (by kernel_rfl) (by kernel_rfl) (by kernel_rfl) (fun _ _ _ h => h) (Or.inl ⟨by rfl, ?_⟩) (by assumption) ?_
    rotate_left
    · (intro w hSw; (try dsimp only at hSw); (obtain ⟨x0, x1, x2⟩ := HS8.out _ hSw); go_simp; first | done | with_reducible rfl)
    try simp only [Act.put, List.setIfInBounds_toArray, List.set_cons_zero, List.set_cons_succ]
    refine wpAnyH_ready (rs := [6]) (by kernel_rfl) (by simp) ?_
    refine AllReadyH.cons (ho := by simp only [List.getElem?_toArray, List.getElem?_cons_succ, List.getElem?_cons_zero]; rfl) (fun K hK => ?_) (AllReadyH.nil)
    refine step_of_wp rfl (wp_storeV _ _ _ 51 rfl 3 50 keyedK Try.underlying51 mb _ f8 (by simp [Act.eval, Act.put]) HM8.out (by unfold maxLen; omega) id (nodeV par (.slice A8 k8 c8)) (by simp [Act.eval, Act.put]) (by simp [Act.eval, Act.put, nodeV]) HKI.out ?_)
    intro w9 hmm hgg
    have HMw9 := Kit.hid hmm
    have HGw9 := Kit.hid hgg
    clear hmm hgg
    refine hK.out _ _ ?_ (fun hHeldN => ?_)
    · exact ⟨HGw9.out.block p (blk_lt HK8.out.1) (fun e => HPN8.out.1 (Option.some.inj e)), HGw9.out.block gn (blk_lt HG8.out) (fun e => HPN8.out.2 (Option.some.inj e))⟩
    clear hHeld
    have hHeld := hHeldN
    clear hHeldN
    clear hK K
    try simp only [Act.put, List.setIfInBounds_toArray, List.set_cons_zero, List.set_cons_succ]
    clear hHeld
    refine wpAnyH_done (by kernel_rfl) ?_ _
    refine NoPanic.normal ?_
    skip
    have HKF : Hid (KM w9 p mb (fun j => if j = id then some par else P j) (fun j => if j = par then insI id (K par) else K j) (n + 2)) := Kit.hid ((HST8.out w9 id par _ (K id) (n + 2) HR8.out hkl (by omega) HMw9.out HGw9.out).congr (fun j => by
        by_cases e1 : j = id
        · simp [e1]
        · by_cases e2 : j = par
          · simp [e1, e2, HPP.out, HNE.out.symm]
          · simp [e1, e2]) (fun j q hj => by
        by_cases e1 : j = id
        · simp [e1, HNE.out]
        · simp [e1]))
    have HKQ : Hid (Kp mb w w9) := Kit.hid (HKP8.out.trans (Kp.grown HGw9.out))
    go_wp2
    go_end0
    exact ⟨rfl, HKF.out, HKQ.out⟩
set_option maxRecDepth 40000 in
set_option maxHeartbeats 3200000 in
theorem unlink_any (h : KM w p mb P K n) (hn : n ≤ 99990) (id par qp : Int) (hpi : P id = some par) (hp : P par = some qp) (hs : (K par).Pairwise (· < ·)) (hmi : id ∈ K par)
    (hi1 : -9223372036854775808 ≤ id) (hi2 : id ≤ 9223372036854775807) (hj1 : -9223372036854775808 ≤ par) (hj2 : par ≤ 9223372036854775807) :
    Calls Try.prog 35 #[.pointer (some ⟨p, 0, none⟩), .int .i64 id] w fun e w' => e = .returned (.tuple #[]) ∧
      KM w' p mb P (fun j => if j = par then (K par).filter (fun y => decide (y ≠ id)) else K j) (n + 1) ∧ Kp mb w w' := by
  have HKI : Hid (keyOf Try.prog 3 (.int .i64 id) = some (.int .i64 id)) := Kit.hid (int_key Try.underlying3 hi1 hi2)
  have HKP : Hid (keyOf Try.prog 3 (.int .i64 par) = some (.int .i64 par)) := Kit.hid (int_key Try.underlying3 hj1 hj2)
  have HH := Kit.hid h
  have HPP := Kit.hid hp
  obtain ⟨f0, hm0, hf0⟩ := h.entry id
  rcases hf0 with ⟨h1, _⟩ | ⟨q', A0, c0, h1, h20, _, _⟩
  · rw [hpi] at h1; cases h1
  rw [hpi] at h1
  cases h1
  obtain ⟨f, hm, hf⟩ := h.entry par
  rcases hf with ⟨h1, _⟩ | ⟨q', A, c, h1, h2, h3, h4⟩
  · rw [hp] at h1; cases h1
  rw [hp] at h1
  cases h1
  obtain ⟨k, hk⟩ : ∃ k, k = (K par).length := ⟨_, rfl⟩
  rw [← hk] at h2 h3 h4
  have HLK0 : Hid ((if false = true then Value.tuple #[(f0 id).getD (.agg #[.int .i64 0, .slice none 0 0]), .bool (f0 id).isSome] else (f0 id).getD (.agg #[.int .i64 0, .slice none 0 0])) = .agg #[.int .i64 par, .slice A0 (K id).length c0]) := Kit.hid (by simp [h20])
  have HMB0 := Kit.hid hm0
  have HLK : Hid ((if false = true then Value.tuple #[(f par).getD (.agg #[.int .i64 0, .slice none 0 0]), .bool (f par).isSome] else (f par).getD (.agg #[.int .i64 0, .slice none 0 0])) = .agg #[.int .i64 qp, .slice A k c]) := Kit.hid (by simp [h2])
  have HMB := Kit.hid hm
  have hp0 := blk_cell h.1 0
  obtain ⟨gp, hgp⟩ : ∃ gp, gp = w.heap.size := ⟨_, rfl⟩
  obtain ⟨w1, hw1⟩ : ∃ w1, w1 = w.alloc (.cells #[.int .i64 qp, .slice A k c] 50) := ⟨_, rfl⟩
  have HB1 : Hid (Below w.heap.size w w1) := Kit.hid (by rw [hw1]; exact (Below.refl _ _).alloc (Nat.le_refl _) _)
  have HG1 : Hid (w1.heap[gp]? = some (.cells #[.int .i64 qp, .slice A k c] 50 (0, 0))) := Kit.hid (by rw [hw1, hgp]; exact blk_new _ _)
  have HR1 : Hid (Row 0 w1 (.slice A k c) (K par)) := Kit.hid (h3.below HB1.out)
  have HSR := Kit.hid (search_row HR1.out id (by omega) (hs.imp fun h => by omega))
  obtain ⟨i, hi⟩ : ∃ i, i = (K par).countP (· < id) := ⟨_, rfl⟩
  rw [← hi] at HSR
  obtain ⟨hdel, hik⟩ := del_at hs hmi
  rw [← hi] at hdel hik
  have HDL := Kit.hid hdel
  generalize (K par).contains id = bb at HSR
  have g0 := blk_cell HG1.out 0
  have g1 := blk_cell HG1.out 1
  have HK := Kit.hid hk
  have HGP := Kit.hid hgp
  have hfk := field_parent
  have hik2 : i < k := by omega
  clear h hm hm0 h20 hp hpi hs h2 h3 hi1 hi2 hj1 hj2 hk hi hdel hik hmi
  go_enter Try.func35, Try.ntmps35
  go_wp2_with (first
    | (at_lookup; refine wpList_lookV rfl _ _ 51 false rfl 3 50 keyedK Try.underlying51 _ (zero_node _) mb n f0 rfl HMB0.out id rfl HKI.out _ HLK0.out ?_)
    | (at_lookup; refine wpList_lookV rfl _ _ 51 false rfl 3 50 keyedK Try.underlying51 _ (zero_node _) mb n f rfl HMB.out par rfl HKP.out _ HLK.out ?_))
  rw [← hgp, ← hw1]
  (with_reducible refine HSR.out.mono ?_); rintro e w2 ⟨rfl, q2, hw2⟩
  have HB2 : Hid (Below w.heap.size w w2) := Kit.hid (by rw [hw2]; exact below_drewN HB1.out q2)
  have HG2 : Hid (w2.heap[gp]? = some (.cells #[.int .i64 qp, .slice A k c] 50 (0, 0))) := Kit.hid (by rw [hw2]; exact HG1.out)
  have HR2 : Hid (Row 0 w2 (.slice A k c) (K par)) := Kit.hid (by rw [hw2]; exact HR1.out.below (below_drewN (Below.refl _ _) q2))
  have g2 := blk_cell HG2.out 1
  have HCL := Kit.hid (clone_row HR2.out (by rw [← HK.out]; omega))
  clear hw2 hw1 hgp g0 g1 HSR
  go_wp2_with fail
  (with_reducible refine HCL.out.mono ?_); rintro e w3 ⟨v3, rfl, hr3, hb3⟩
  have HB3 := Kit.hid (HB2.out.trans (hb3.mono HB2.out.size))
  have HG3 := Kit.hid (blk_below HG2.out hb3)
  have HR3 := Kit.hid hr3
  have HG2L := Kit.hid (blk_lt HG2.out)
  have HIR := Kit.hid (delete_row HR3.out i (by rw [← HK.out]; exact hik2) (by rw [← HK.out]; omega))
  clear hr3 hb3 HCL g2
  go_wp2_with fail
  (with_reducible refine HIR.out.mono ?_); rintro e w5 ⟨v5, rfl, hr5, hg5⟩
  rw [HDL.out] at hr5
  have HB5 : Hid (Below w.heap.size w w5) := Kit.hid (HB3.out.grown hg5 HB3.out.size (fun g hg => Nat.le_trans HB2.out.size (HR3.out.own_lt g hg).1))
  have HG5 : Hid (w5.heap[gp]? = some (.cells #[.int .i64 qp, .slice A k c] 50 (0, 0))) := Kit.hid ((hg5.block gp (blk_lt HG3.out) (fun e => by
    have := (HR3.out.own_lt gp e.symm).1
    have := HG2L.out
    omega)).trans HG3.out)
  obtain ⟨A5, c5, rfl, _, _, _⟩ := hr5.reads
  have hl6 : ((K par).filter (fun y => decide (y ≠ id))).length ≤ k := by rw [HK.out]; exact List.length_filter_le _ _
  obtain ⟨k5, hk5⟩ : ∃ k5, k5 = ((K par).filter (fun y => decide (y ≠ id))).length := ⟨_, rfl⟩
  have HR5 : Hid (Row w2.heap.size w5 (.slice A5 k5 c5) ((K par).filter (fun y => decide (y ≠ id)))) := Kit.hid (by rw [hk5]; exact hr5)
  rw [← hk5]
  have HL6 := Kit.hid hl6
  have f1 := blk_frozen HG5.out 1
  have k1 := blk_cell HG5.out 1
  obtain ⟨w6, hw6⟩ : ∃ w6, w6 = w5.setCell ⟨gp, 1, none⟩ (.slice A5 k5 c5) := ⟨_, rfl⟩
  have HB6 : Hid (Below w.heap.size w w6) := Kit.hid (by rw [hw6]; exact HB5.out.setCell (p := ⟨gp, 1, none⟩) (by rw [HGP.out]; exact Nat.le_refl _) _)
  have HG6 : Hid (w6.heap[gp]? = some (.cells #[.int .i64 qp, .slice A5 k5 c5] 50 (0, 0))) := Kit.hid (by rw [hw6]; exact blk_put HG5.out 1 _ rfl)
  have HR6 : Hid (Row 0 w6 (.slice A5 k5 c5) ((K par).filter (fun y => decide (y ≠ id)))) := Kit.hid (by
    rw [hw6]
    exact (HR5.out.mono (Nat.zero_le _)).same fun g hg => Below.heap_setCell _ _ _ _ (fun e => by
      have := (HR5.out.own_lt g hg).1
      have := HG2L.out
      have e : g = gp := e
      omega))
  have HH6 : Hid (KM w6.drew p mb P K n) := Kit.hid (HH.out.below HB6.out.drew)
  obtain ⟨f6, hm6, hst6⟩ := HH6.out.step
  have HM6 := Kit.hid hm6
  have HST6 := Kit.hid hst6
  have HS6 : Hid (∀ w' : World, (w'.heap[p]? = w6.heap[p]? ∧ w'.heap[gp]? = w6.heap[gp]?) → w'.cell? ⟨p, 0, none⟩ = some (.map (some mb)) ∧ w'.cell? ⟨gp, 0, none⟩ = some (.int .i64 qp) ∧ w'.cell? ⟨gp, 1, none⟩ = some (.slice A5 k5 c5)) := Kit.hid (fun w' h => by
    have h1 := h.1.trans HH6.out.1
    have h2 := h.2.trans HG6.out
    exact ⟨blk_cell h1 0, blk_cell h2 0, blk_cell h2 1⟩)
  have HPN : Hid (p ≠ mb ∧ gp ≠ mb) := Kit.hid ⟨HH.out.lt.2.2, by rw [HGP.out]; have := HH.out.lt.2.1; omega⟩
  clear hr5 hg5 hl6 hk5 HIR hm6 hst6
  go_wp2_with fail
  rw [← hw6]
  clear hw6 f1 k1
  refine wp_region_noPanic ?_
  refine wp_region_held_drew (S := fun (w' : World) => w'.heap[p]? = w6.heap[p]? ∧ w'.heap[gp]? = w6.heap[gp]?) (by kernel_rfl) ⟨rfl, rfl⟩ (fun hHeld => ?_)
  refine wpAnyH_take (i := 0) (hi := by simp only [List.getElem?_toArray, List.getElem?_cons_succ, List.getElem?_cons_zero]; rfl) (v := ?_) (by kernel_rfl) (by kernel_rfl) (by kernel_rfl) (fun _ _ _ h => h) (Or.inl ⟨by rfl, ?_⟩) (by assumption) ?_
  rotate_left
  · (intro w hSw; (try dsimp only at hSw); go_simp; first | done | with_reducible rfl)
  try simp only [Act.put, List.setIfInBounds_toArray, List.set_cons_zero, List.set_cons_succ]
  refine wpAnyH_take (i := 1) (hi := by simp only [List.getElem?_toArray, List.getElem?_cons_succ, List.getElem?_cons_zero]; rfl) (v := ?_) (by kernel_rfl) (by kernel_rfl) (by kernel_rfl) (fun _ _ _ h => h) (Or.inl ⟨by rfl, ?_⟩) (by assumption) ?_
  rotate_left
  · (intro w hSw; (try dsimp only at hSw); (obtain ⟨x0, x1, x2⟩ := HS6.out _ hSw); go_simp; first | done | with_reducible rfl)
  try simp only [Act.put, List.setIfInBounds_toArray, List.set_cons_zero, List.set_cons_succ]
  refine wpAnyH_take (i := 2) (hi := by simp only [List.getElem?_toArray, List.getElem?_cons_succ, List.getElem?_cons_zero]; rfl) (v := ?_) (by kernel_rfl) (by kernel_rfl) (by kernel_rfl) (fun _ _ _ h => h) (Or.inl ⟨by rfl, ?_⟩) (by assumption) ?_
  rotate_left
  · (intro w hSw; (try dsimp only at hSw); go_simp; first | done | with_reducible rfl)
  try simp only [Act.put, List.setIfInBounds_toArray, List.set_cons_zero, List.set_cons_succ]
  refine wpAnyH_take (i := 3) (hi := by simp only [List.getElem?_toArray, List.getElem?_cons_succ, List.getElem?_cons_zero]; rfl) (v := ?_) (by kernel_rfl) (by kernel_rfl) (by kernel_rfl) (fun _ _ _ h => h) (Or.inl ⟨by rfl, ?_⟩) (by assumption) ?_
  rotate_left
  · (intro w hSw; (try dsimp only at hSw); (obtain ⟨x0, x1, x2⟩ := HS6.out _ hSw); go_simp; first | done | with_reducible rfl)
  try simp only [Act.put, List.setIfInBounds_toArray, List.set_cons_zero, List.set_cons_succ]
  refine wpAnyH_take (i := 4) (hi := by simp only [List.getElem?_toArray, List.getElem?_cons_succ, List.getElem?_cons_zero]; rfl) (v := ?_) (by kernel_rfl) (by kernel_rfl) (by kernel_rfl) (fun _ _ _ h => h) (Or.inl ⟨by rfl, ?_⟩) (by assumption) ?_
  rotate_left
  · (intro w hSw; (try dsimp only at hSw); go_simp; first | done | with_reducible rfl)
  try simp only [Act.put, List.setIfInBounds_toArray, List.set_cons_zero, List.set_cons_succ]
  refine wpAnyH_take (i := 5) (hi := by simp only [List.getElem?_toArray, List.getElem?_cons_succ, List.getElem?_cons_zero]; rfl) (v := ?_) (by kernel_rfl) (by kernel_rfl) (by kernel_rfl) (fun _ _ _ h => h) (Or.inl ⟨by rfl, ?_⟩) (by assumption) ?_
  rotate_left
  · (intro w hSw; (try dsimp only at hSw); (obtain ⟨x0, x1, x2⟩ := HS6.out _ hSw); go_simp; first | done | with_reducible rfl)
  try simp only [Act.put, List.setIfInBounds_toArray, List.set_cons_zero, List.set_cons_succ]
  refine wpAnyH_ready (rs := [6]) (by kernel_rfl) (by simp) ?_
  refine AllReadyH.cons (ho := by simp only [List.getElem?_toArray, List.getElem?_cons_succ, List.getElem?_cons_zero]; rfl) (fun K hK => ?_) (AllReadyH.nil)
  refine step_of_wp rfl (wp_storeV _ _ _ 51 rfl 3 50 keyedK Try.underlying51 mb _ f6 (by simp [Act.eval, Act.put]) HM6.out (by unfold maxLen; omega) par (nodeV qp (.slice A5 k5 c5)) (by simp [Act.eval, Act.put]) (by simp [Act.eval, Act.put, nodeV]) HKP.out ?_)
  intro w7 hmm hgg
  have HMw7 := Kit.hid hmm
  have HGw7 := Kit.hid hgg
  clear hmm hgg
  refine hK.out _ _ ?_ (fun hHeldN => ?_)
  · exact ⟨HGw7.out.block p (blk_lt HH6.out.1) (fun e => HPN.out.1 (Option.some.inj e)), HGw7.out.block gp (blk_lt HG6.out) (fun e => HPN.out.2 (Option.some.inj e))⟩
  clear hHeld
  have hHeld := hHeldN
  clear hHeldN
  clear hK K
  try simp only [Act.put, List.setIfInBounds_toArray, List.set_cons_zero, List.set_cons_succ]
  clear hHeld
  refine wpAnyH_done (by kernel_rfl) ?_ _
  refine NoPanic.normal ?_
  skip
  have HK7 : Hid (KM w7 p mb P (fun j => if j = par then (K par).filter (fun y => decide (y ≠ id)) else K j) (n + 1)) := Kit.hid ((HST6.out w7 par qp _ _ (n + 1) (HR6.out.below (Below.refl _ _).drew) (by have := HL6.out; omega) (by omega) HMw7.out HGw7.out).congr (fun j => by
    by_cases e : j = par
    · simp [e, HPP.out]
    · simp [e]) (fun j q _ => rfl))
  have HKP7 : Hid (Kp mb w w7) := Kit.hid ((Kp.of_below HB6.out.drew).trans (Kp.grown HGw7.out))
  go_wp2
  go_end0
  exact ⟨rfl, HK7.out, HKP7.out⟩
end
end Go.Proofs.Ytkhoiiinifdhcaa.Ki
