/- The walks of count, lean, up and down. -/
import Derived.Test.YtpgfenelckonoaaShS
import Derived.Outline
namespace Go.Proofs.Ytpgfenelckonoaa.Sh
open Go.RowKit Go.Proofs.Ytpgfenelckonoaa.Kit Go.Proofs.Ytpgfenelckonoaa.ShM
set_option linter.unusedVariables false
set_option linter.unusedSimpArgs false
theorem lean_any {w0 w : World} {S0 : Nat → Prop} {p gl cl : Nat} {vf : Value} {L : List Nd} {top : Nat} {F : List Nat} (h : Sh w0 S0 w p gl cl vf L top F) (i : Nat) (n nl nh : Nd) (hi : L[i]? = some n) (hl : L[n.low]? = some nl) (hh : L[n.high]? = some nh)
    (bl : nl.deep ≤ 4611686018427387904) (bh : nh.deep ≤ 4611686018427387904) :
    Calls Try.prog 89 #[.pointer (some ⟨p, 0, none⟩), .int .i64 (i : Int)] w fun e w' => e = .returned (.int .i64 ((nl.deep : Int) - (nh.deep : Int))) ∧ ∃ m, w' = w.drewN m := by
  obtain ⟨p0, p1, p2, _, _, _⟩ := h.pcells
  obtain ⟨a0, a1, a2, a3, a4, a5⟩ := h.ncells hi
  obtain ⟨b0, b1, b2, b3, b4, b5⟩ := h.ncells hl
  obtain ⟨c0, c1, c2, c3, c4, c5⟩ := h.ncells hh
  have li := (List.getElem?_eq_some_iff.1 hi).1
  have ll := (List.getElem?_eq_some_iff.1 hl).1
  have lh := (List.getElem?_eq_some_iff.1 hh).1
  have z1 : (0 : Int) ≤ (i : Int) := by omega
  have z2 : (0 : Int) ≤ (n.low : Int) := by omega
  have z3 : (0 : Int) ≤ (n.high : Int) := by omega
  have y1 : (i : Int) < (L.length : Int) := by omega
  have y2 : (n.low : Int) < (L.length : Int) := by omega
  have y3 : (n.high : Int) < (L.length : Int) := by omega
  clear h hi hl hh
  go_enter Try.func89, Try.ntmps89
  go_wp2
  go_quiet (fail)
  go_wp2
  go_ret
  exact ⟨rfl, _, rfl⟩
theorem Sh.counted {w0 w : World} {S0 : Nat → Prop} {p gl cl : Nat} {vf : Value} {L : List Nd} {top : Nat} {F : List Nat} (h : Sh w0 S0 w p gl cl vf L top F) {i : Nat} {n nl nh : Nd} (hi : L[i]? = some n) {d : Nat} (hd : (d : Int) + 1 = ((max nl.deep nh.deep + 1 : Nat) : Int)) (A B : Obj) :
    Sh w0 S0 ((((w.setCell ⟨gl, i * 6 + 4, none⟩ (.int .i64 ((nl.many : Int) + (nh.many : Int) + 1))).setCell ⟨gl, i * 6 + 5, none⟩ (.int .i64 ((d : Int) + 1))).alloc A).alloc B).drew p gl cl vf (L.set i { n with many := nl.many + nh.many + 1, deep := max nl.deep nh.deep + 1 }) top F := by
  have h1 := h.nset (n' := { n with many := nl.many + nh.many + 1 }) (v := .int .i64 ((nl.many : Int) + (nh.many : Int) + 1)) hi (k := 4) (by decide) (by simp [cellsN])
  have hlt := (List.getElem?_eq_some_iff.1 hi).1
  have h2 := h1.nset (i := i) (n := { n with many := nl.many + nh.many + 1 }) (n' := { n with many := nl.many + nh.many + 1, deep := max nl.deep nh.deep + 1 }) (v := .int .i64 ((d : Int) + 1)) (k := 5) (by rw [List.getElem?_set_self hlt]) (by decide) (by rw [hd]; simp [cellsN])
  rw [List.set_set] at h2
  exact ((h2.alloc A).alloc B).drew
theorem count_any {w0 w : World} {S0 : Nat → Prop} {p gl cl : Nat} {vf : Value} {L : List Nd} {top : Nat} {F : List Nat} (h : Sh w0 S0 w p gl cl vf L top F) (i : Nat) (n nl nh : Nd) (hi : L[i]? = some n) (hl : L[n.low]? = some nl) (hh : L[n.high]? = some nh)
    (bl : nl.deep ≤ 4611686018427387903) (bh : nh.deep ≤ 4611686018427387903) (bm : nl.many ≤ 2305843009213693951) (bn : nh.many ≤ 2305843009213693951) :
    Calls Try.prog 88 #[.pointer (some ⟨p, 0, none⟩), .int .i64 (i : Int)] w fun e w' => e = .returned (.tuple #[]) ∧ Sh w0 S0 w' p gl cl vf (L.set i { n with many := nl.many + nh.many + 1, deep := max nl.deep nh.deep + 1 }) top F := by
  obtain ⟨p0, p1, p2, _, _, _⟩ := h.pcells
  obtain ⟨a0, a1, a2, a3, a4, a5⟩ := h.ncells hi
  obtain ⟨b0, b1, b2, b3, b4, b5⟩ := h.ncells hl
  obtain ⟨c0, c1, c2, c3, c4, c5⟩ := h.ncells hh
  have li := (List.getElem?_eq_some_iff.1 hi).1
  have ll := (List.getElem?_eq_some_iff.1 hl).1
  have lh := (List.getElem?_eq_some_iff.1 hh).1
  have z1 : (0 : Int) ≤ (i : Int) := by omega
  have z2 : (0 : Int) ≤ (n.low : Int) := by omega
  have z3 : (0 : Int) ≤ (n.high : Int) := by omega
  have y1 : (i : Int) < (L.length : Int) := by omega
  have y2 : (n.low : Int) < (L.length : Int) := by omega
  have y3 : (n.high : Int) < (L.length : Int) := by omega
  have HC : Hid (∀ w', Below w.heap.size w w' → w'.cell? ⟨p, 0, none⟩ = some (.slice (some ⟨gl, 0, none⟩) L.length cl) ∧ w'.cell? ⟨p, 1, none⟩ = some (.int .i64 (top : Int)) ∧ w'.cell? ⟨p, 2, none⟩ = some vf ∧
      NC w' gl i n ∧ NC w' gl n.low nl ∧ NC w' gl n.high nh) := Kit.hid (fun w' hb => by
    have h' := h.below hb
    exact ⟨h'.pcells.1, h'.pcells.2.1, h'.pcells.2.2.1, h'.ncells hi, h'.ncells hl, h'.ncells hh⟩)
  unfold NC at HC
  have f4 := h.row.frozenAt (i * 6 + 4)
  have f5 := h.row.frozenAt (i * 6 + 5)
  have HS := Kit.hid h
  have HI := Kit.hid hi
  have hg := h.glt
  have hp := h.plt
  clear h hi hl hh
  go_enter Try.func88, Try.ntmps88
  go_wp2
  refine wp_region_noPanic ?_
  refine wp_region_held_drew (S := fun w' => Below w.heap.size w w') (by kernel_rfl) ((Below.refl _ w).drew) (fun hHeld => ?_)
  refine wpAnyH_take (i := 0) (hi := by simp only [List.getElem?_toArray, List.getElem?_cons_succ, List.getElem?_cons_zero]; rfl) (v := ?_) (by kernel_rfl) (by kernel_rfl) (by kernel_rfl) (fun _ _ _ h => h) (Or.inl ⟨by rfl, ?_⟩) (by assumption) ?_
  rotate_left
  · (intro w hSw; (try dsimp only at hSw); go_simp; first | done | with_reducible rfl)
  try simp only [Act.put, List.setIfInBounds_toArray, List.set_cons_zero, List.set_cons_succ]
  refine wpAnyH_take (i := 1) (hi := by simp only [List.getElem?_toArray, List.getElem?_cons_succ, List.getElem?_cons_zero]; rfl) (v := ?_) (by kernel_rfl) (by kernel_rfl) (by kernel_rfl) (fun _ _ _ h => h) (Or.inl ⟨by rfl, ?_⟩) (by assumption) ?_
  rotate_left
  · (intro w hSw; (try dsimp only at hSw); (obtain ⟨p0, p1, p2, ⟨a0, a1, a2, a3, a4, a5⟩, ⟨b0, b1, b2, b3, b4, b5⟩, c0, c1, c2, c3, c4, c5⟩ := HC.out _ hSw); go_simp; first | done | with_reducible rfl)
  try simp only [Act.put, List.setIfInBounds_toArray, List.set_cons_zero, List.set_cons_succ]
  refine wpAnyH_take (i := 2) (hi := by simp only [List.getElem?_toArray, List.getElem?_cons_succ, List.getElem?_cons_zero]; rfl) (v := ?_) (by kernel_rfl) (by kernel_rfl) (by kernel_rfl) (fun _ _ _ h => h) (Or.inl ⟨by rfl, ?_⟩) (by assumption) ?_
  rotate_left
  · (intro w hSw; (try dsimp only at hSw); go_simp; first | done | with_reducible rfl)
  try simp only [Act.put, List.setIfInBounds_toArray, List.set_cons_zero, List.set_cons_succ]
  refine wpAnyH_take (i := 3) (hi := by simp only [List.getElem?_toArray, List.getElem?_cons_succ, List.getElem?_cons_zero]; rfl) (v := ?_) (by kernel_rfl) (by kernel_rfl) (by kernel_rfl) (fun _ _ _ h => h) (Or.inl ⟨by rfl, ?_⟩) (by assumption) ?_
  rotate_left
  · (intro w hSw; (try dsimp only at hSw); (obtain ⟨p0, p1, p2, ⟨a0, a1, a2, a3, a4, a5⟩, ⟨b0, b1, b2, b3, b4, b5⟩, c0, c1, c2, c3, c4, c5⟩ := HC.out _ hSw); go_simp; first | done | with_reducible rfl)
  try simp only [Act.put, List.setIfInBounds_toArray, List.set_cons_zero, List.set_cons_succ]
  refine wpAnyH_take (i := 4) (hi := by simp only [List.getElem?_toArray, List.getElem?_cons_succ, List.getElem?_cons_zero]; rfl) (v := ?_) (by kernel_rfl) (by kernel_rfl) (by kernel_rfl) (fun _ _ _ h => h) (Or.inl ⟨by rfl, ?_⟩) (by assumption) ?_
  rotate_left
  · (intro w hSw; (try dsimp only at hSw); go_simp; first | done | with_reducible rfl)
  try simp only [Act.put, List.setIfInBounds_toArray, List.set_cons_zero, List.set_cons_succ]
  refine wpAnyH_take (i := 5) (hi := by simp only [List.getElem?_toArray, List.getElem?_cons_succ, List.getElem?_cons_zero]; rfl) (v := ?_) (by kernel_rfl) (by kernel_rfl) (by kernel_rfl) (fun _ _ _ h => h) (Or.inl ⟨by rfl, ?_⟩) (by assumption) ?_
  rotate_left
  · (intro w hSw; (try dsimp only at hSw); (obtain ⟨p0, p1, p2, ⟨a0, a1, a2, a3, a4, a5⟩, ⟨b0, b1, b2, b3, b4, b5⟩, c0, c1, c2, c3, c4, c5⟩ := HC.out _ hSw); go_simp; first | done | with_reducible rfl)
  try simp only [Act.put, List.setIfInBounds_toArray, List.set_cons_zero, List.set_cons_succ]
  refine wpAnyH_take (i := 6) (hi := by simp only [List.getElem?_toArray, List.getElem?_cons_succ, List.getElem?_cons_zero]; rfl) (v := ?_) (by kernel_rfl) (by kernel_rfl) (by kernel_rfl) (fun _ _ _ h => h) (Or.inl ⟨by rfl, ?_⟩) (by assumption) ?_
  rotate_left
  · (intro w hSw; (try dsimp only at hSw); go_simp; first | done | with_reducible rfl)
  try simp only [Act.put, List.setIfInBounds_toArray, List.set_cons_zero, List.set_cons_succ]
  refine wpAnyH_take (i := 7) (hi := by simp only [List.getElem?_toArray, List.getElem?_cons_succ, List.getElem?_cons_zero]; rfl) (v := ?_) (by kernel_rfl) (by kernel_rfl) (by kernel_rfl) (fun _ _ _ h => h) (Or.inl ⟨by rfl, ?_⟩) (by assumption) ?_
  rotate_left
  · (intro w hSw; (try dsimp only at hSw); (obtain ⟨p0, p1, p2, ⟨a0, a1, a2, a3, a4, a5⟩, ⟨b0, b1, b2, b3, b4, b5⟩, c0, c1, c2, c3, c4, c5⟩ := HC.out _ hSw); go_simp; first | done | with_reducible rfl)
  try simp only [Act.put, List.setIfInBounds_toArray, List.set_cons_zero, List.set_cons_succ]
  refine wpAnyH_take (i := 8) (hi := by simp only [List.getElem?_toArray, List.getElem?_cons_succ, List.getElem?_cons_zero]; rfl) (v := ?_) (by kernel_rfl) (by kernel_rfl) (by kernel_rfl) (fun _ _ _ h => h) (Or.inl ⟨by rfl, ?_⟩) (by assumption) ?_
  rotate_left
  · (intro w hSw; (try dsimp only at hSw); (obtain ⟨p0, p1, p2, ⟨a0, a1, a2, a3, a4, a5⟩, ⟨b0, b1, b2, b3, b4, b5⟩, c0, c1, c2, c3, c4, c5⟩ := HC.out _ hSw); go_simp; first | done | with_reducible rfl)
  try simp only [Act.put, List.setIfInBounds_toArray, List.set_cons_zero, List.set_cons_succ]
  refine wpAnyH_take (i := 9) (hi := by simp only [List.getElem?_toArray, List.getElem?_cons_succ, List.getElem?_cons_zero]; rfl) (v := ?_) (by kernel_rfl) (by kernel_rfl) (by kernel_rfl) (fun _ _ _ h => h) (Or.inl ⟨by rfl, ?_⟩) (by assumption) ?_
  rotate_left
  · (intro w hSw; (try dsimp only at hSw); (obtain ⟨p0, p1, p2, ⟨a0, a1, a2, a3, a4, a5⟩, ⟨b0, b1, b2, b3, b4, b5⟩, c0, c1, c2, c3, c4, c5⟩ := HC.out _ hSw); go_simp; first | done | with_reducible rfl)
  try simp only [Act.put, List.setIfInBounds_toArray, List.set_cons_zero, List.set_cons_succ]
  refine wpAnyH_take (i := 10) (hi := by simp only [List.getElem?_toArray, List.getElem?_cons_succ, List.getElem?_cons_zero]; rfl) (v := ?_) (by kernel_rfl) (by kernel_rfl) (by kernel_rfl) (fun _ _ _ h => h) (Or.inl ⟨by rfl, ?_⟩) (by assumption) ?_
  rotate_left
  · (intro w hSw; (try dsimp only at hSw); go_simp; first | done | with_reducible rfl)
  try simp only [Act.put, List.setIfInBounds_toArray, List.set_cons_zero, List.set_cons_succ]
  refine wpAnyH_take (i := 11) (hi := by simp only [List.getElem?_toArray, List.getElem?_cons_succ, List.getElem?_cons_zero]; rfl) (v := ?_) (by kernel_rfl) (by kernel_rfl) (by kernel_rfl) (fun _ _ _ h => h) (Or.inl ⟨by rfl, ?_⟩) (by assumption) ?_
  rotate_left
  · (intro w hSw; (try dsimp only at hSw); (obtain ⟨p0, p1, p2, ⟨a0, a1, a2, a3, a4, a5⟩, ⟨b0, b1, b2, b3, b4, b5⟩, c0, c1, c2, c3, c4, c5⟩ := HC.out _ hSw); go_simp; first | done | with_reducible rfl)
  try simp only [Act.put, List.setIfInBounds_toArray, List.set_cons_zero, List.set_cons_succ]
  refine wpAnyH_take (i := 12) (hi := by simp only [List.getElem?_toArray, List.getElem?_cons_succ, List.getElem?_cons_zero]; rfl) (v := ?_) (by kernel_rfl) (by kernel_rfl) (by kernel_rfl) (fun _ _ _ h => h) (Or.inl ⟨by rfl, ?_⟩) (by assumption) ?_
  rotate_left
  · (intro w hSw; (try dsimp only at hSw); go_simp; first | done | with_reducible rfl)
  try simp only [Act.put, List.setIfInBounds_toArray, List.set_cons_zero, List.set_cons_succ]
  refine wpAnyH_take (i := 13) (hi := by simp only [List.getElem?_toArray, List.getElem?_cons_succ, List.getElem?_cons_zero]; rfl) (v := ?_) (by kernel_rfl) (by kernel_rfl) (by kernel_rfl) (fun _ _ _ h => h) (Or.inl ⟨by rfl, ?_⟩) (by assumption) ?_
  rotate_left
  · (intro w hSw; (try dsimp only at hSw); (obtain ⟨p0, p1, p2, ⟨a0, a1, a2, a3, a4, a5⟩, ⟨b0, b1, b2, b3, b4, b5⟩, c0, c1, c2, c3, c4, c5⟩ := HC.out _ hSw); go_simp; first | done | with_reducible rfl)
  try simp only [Act.put, List.setIfInBounds_toArray, List.set_cons_zero, List.set_cons_succ]
  refine wpAnyH_take (i := 14) (hi := by simp only [List.getElem?_toArray, List.getElem?_cons_succ, List.getElem?_cons_zero]; rfl) (v := ?_) (by kernel_rfl) (by kernel_rfl) (by kernel_rfl) (fun _ _ _ h => h) (Or.inl ⟨by rfl, ?_⟩) (by assumption) ?_
  rotate_left
  · (intro w hSw; (try dsimp only at hSw); go_simp; first | done | with_reducible rfl)
  try simp only [Act.put, List.setIfInBounds_toArray, List.set_cons_zero, List.set_cons_succ]
  refine wpAnyH_take (i := 15) (hi := by simp only [List.getElem?_toArray, List.getElem?_cons_succ, List.getElem?_cons_zero]; rfl) (v := ?_) (by kernel_rfl) (by kernel_rfl) (by kernel_rfl) (fun _ _ _ h => h) (Or.inl ⟨by rfl, ?_⟩) (by assumption) ?_
  rotate_left
  · (intro w hSw; (try dsimp only at hSw); (obtain ⟨p0, p1, p2, ⟨a0, a1, a2, a3, a4, a5⟩, ⟨b0, b1, b2, b3, b4, b5⟩, c0, c1, c2, c3, c4, c5⟩ := HC.out _ hSw); go_simp; first | done | with_reducible rfl)
  try simp only [Act.put, List.setIfInBounds_toArray, List.set_cons_zero, List.set_cons_succ]
  refine wpAnyH_take (i := 16) (hi := by simp only [List.getElem?_toArray, List.getElem?_cons_succ, List.getElem?_cons_zero]; rfl) (v := ?_) (by kernel_rfl) (by kernel_rfl) (by kernel_rfl) (fun _ _ _ h => h) (Or.inl ⟨by rfl, ?_⟩) (by assumption) ?_
  rotate_left
  · (intro w hSw; (try dsimp only at hSw); go_simp; first | done | with_reducible rfl)
  try simp only [Act.put, List.setIfInBounds_toArray, List.set_cons_zero, List.set_cons_succ]
  refine wpAnyH_take (i := 17) (hi := by simp only [List.getElem?_toArray, List.getElem?_cons_succ, List.getElem?_cons_zero]; rfl) (v := ?_) (by kernel_rfl) (by kernel_rfl) (by kernel_rfl) (fun _ _ _ h => h) (Or.inl ⟨by rfl, ?_⟩) (by assumption) ?_
  rotate_left
  · (intro w hSw; (try dsimp only at hSw); (obtain ⟨p0, p1, p2, ⟨a0, a1, a2, a3, a4, a5⟩, ⟨b0, b1, b2, b3, b4, b5⟩, c0, c1, c2, c3, c4, c5⟩ := HC.out _ hSw); go_simp; first | done | with_reducible rfl)
  try simp only [Act.put, List.setIfInBounds_toArray, List.set_cons_zero, List.set_cons_succ]
  refine wpAnyH_take (i := 18) (hi := by simp only [List.getElem?_toArray, List.getElem?_cons_succ, List.getElem?_cons_zero]; rfl) (v := ?_) (by kernel_rfl) (by kernel_rfl) (by kernel_rfl) (fun _ _ _ h => h) (Or.inl ⟨by rfl, ?_⟩) (by assumption) ?_
  rotate_left
  · (intro w hSw; (try dsimp only at hSw); (obtain ⟨p0, p1, p2, ⟨a0, a1, a2, a3, a4, a5⟩, ⟨b0, b1, b2, b3, b4, b5⟩, c0, c1, c2, c3, c4, c5⟩ := HC.out _ hSw); go_simp; first | done | with_reducible rfl)
  try simp only [Act.put, List.setIfInBounds_toArray, List.set_cons_zero, List.set_cons_succ]
  refine wpAnyH_take (i := 19) (hi := by simp only [List.getElem?_toArray, List.getElem?_cons_succ, List.getElem?_cons_zero]; rfl) (v := ?_) (by kernel_rfl) (by kernel_rfl) (by kernel_rfl) (fun _ _ _ h => h) (Or.inl ⟨by rfl, ?_⟩) (by assumption) ?_
  rotate_left
  · (intro w hSw; (try dsimp only at hSw); (obtain ⟨p0, p1, p2, ⟨a0, a1, a2, a3, a4, a5⟩, ⟨b0, b1, b2, b3, b4, b5⟩, c0, c1, c2, c3, c4, c5⟩ := HC.out _ hSw); go_simp; first | done | with_reducible rfl)
  try simp only [Act.put, List.setIfInBounds_toArray, List.set_cons_zero, List.set_cons_succ]
  refine wpAnyH_ready (rs := [20, 21]) (by kernel_rfl) (by simp) ?_
  refine AllReadyH.cons (ho := by simp only [List.getElem?_toArray, List.getElem?_cons_succ, List.getElem?_cons_zero]; rfl) (fun K hK => ?_) (AllReadyH.cons (ho := by simp only [List.getElem?_toArray, List.getElem?_cons_succ, List.getElem?_cons_zero]; rfl) (fun K hK => ?_) (AllReadyH.nil))
  · skip
    go_simp
    go_wp2_with fail
    refine hK.out _ _ ?_ (fun hHeldN => ?_)
    · (repeat (first | exact Below.refl _ _ | exact hHeld | refine Below.drew ?_ | refine Below.alloc ?_ (by first | exact Nat.le_refl _ | simp) _ | refine Below.setCell ?_ (by first | exact Nat.le_refl _ | simp) _))
    clear hHeld
    have hHeld := hHeldN
    clear hHeldN
    clear hK K
    try simp only [Act.put, List.setIfInBounds_toArray, List.set_cons_zero, List.set_cons_succ]
    refine wpAnyH_ready (rs := [21]) (by kernel_rfl) (by simp) ?_
    refine AllReadyH.cons (ho := by simp only [List.getElem?_toArray, List.getElem?_cons_succ, List.getElem?_cons_zero]; rfl) (fun K hK => ?_) (AllReadyH.nil)
    go_simp
    go_wp2_with fail
    refine hK.out _ _ ?_ (fun hHeldN => ?_)
    · (repeat (first | exact Below.refl _ _ | exact hHeld | refine Below.drew ?_ | refine Below.alloc ?_ (by first | exact Nat.le_refl _ | simp) _ | refine Below.setCell ?_ (by first | exact Nat.le_refl _ | simp) _))
    clear hHeld
    have hHeld := hHeldN
    clear hHeldN
    clear hK K
    try simp only [Act.put, List.setIfInBounds_toArray, List.set_cons_zero, List.set_cons_succ]
    refine wpAnyH_ready (rs := [22]) (by kernel_rfl) (by simp) ?_
    refine AllReadyH.cons (ho := by simp only [List.getElem?_toArray, List.getElem?_cons_succ, List.getElem?_cons_zero]; rfl) (fun K hK => ?_) (AllReadyH.nil)
    go_simp
    go_wp2_with fail
    refine hK.out _ _ ?_ (fun hHeldN => ?_)
    · (repeat (first | exact Below.refl _ _ | exact hHeld | refine Below.drew ?_ | refine Below.alloc ?_ (by first | exact Nat.le_refl _ | simp) _ | refine Below.setCell ?_ (by first | exact Nat.le_refl _ | simp) _))
    clear hHeld
    have hHeld := hHeldN
    clear hHeldN
    clear hK K
    try simp only [Act.put, List.setIfInBounds_toArray, List.set_cons_zero, List.set_cons_succ]
    refine wpAnyH_ready (rs := [23]) (by kernel_rfl) (by simp) ?_
    refine AllReadyH.cons (ho := by simp only [List.getElem?_toArray, List.getElem?_cons_succ, List.getElem?_cons_zero]; rfl) (fun K hK => ?_) (AllReadyH.nil)
    go_simp
    go_wp2_with fail
    refine hK.out _ _ ?_ (fun hHeldN => ?_)
    · (repeat (first | exact Below.refl _ _ | exact hHeld | refine Below.drew ?_ | refine Below.alloc ?_ (by first | exact Nat.le_refl _ | simp) _ | refine Below.setCell ?_ (by first | exact Nat.le_refl _ | simp) _))
    clear hHeld
    have hHeld := hHeldN
    clear hHeldN
    clear hK K
    try simp only [Act.put, List.setIfInBounds_toArray, List.set_cons_zero, List.set_cons_succ]
    clear hHeld
    refine wpAnyH_done (by kernel_rfl) ?_ _
    refine NoPanic.normal ?_
    go_wp2
    all_goals (go_end0; exact ⟨rfl, HS.out.counted HI.out (by omega) _ _⟩)
  · skip
    go_simp
    go_wp2_with fail
    refine hK.out _ _ ?_ (fun hHeldN => ?_)
    · (repeat (first | exact Below.refl _ _ | exact hHeld | refine Below.drew ?_ | refine Below.alloc ?_ (by first | exact Nat.le_refl _ | simp) _ | refine Below.setCell ?_ (by first | exact Nat.le_refl _ | simp) _))
    clear hHeld
    have hHeld := hHeldN
    clear hHeldN
    clear hK K
    try simp only [Act.put, List.setIfInBounds_toArray, List.set_cons_zero, List.set_cons_succ]
    refine wpAnyH_ready (rs := [20]) (by kernel_rfl) (by simp) ?_
    refine AllReadyH.cons (ho := by simp only [List.getElem?_toArray, List.getElem?_cons_succ, List.getElem?_cons_zero]; rfl) (fun K hK => ?_) (AllReadyH.nil)
    go_simp
    go_wp2_with fail
    refine hK.out _ _ ?_ (fun hHeldN => ?_)
    · (repeat (first | exact Below.refl _ _ | exact hHeld | refine Below.drew ?_ | refine Below.alloc ?_ (by first | exact Nat.le_refl _ | simp) _ | refine Below.setCell ?_ (by first | exact Nat.le_refl _ | simp) _))
    clear hHeld
    have hHeld := hHeldN
    clear hHeldN
    clear hK K
    try simp only [Act.put, List.setIfInBounds_toArray, List.set_cons_zero, List.set_cons_succ]
    refine wpAnyH_ready (rs := [22]) (by kernel_rfl) (by simp) ?_
    refine AllReadyH.cons (ho := by simp only [List.getElem?_toArray, List.getElem?_cons_succ, List.getElem?_cons_zero]; rfl) (fun K hK => ?_) (AllReadyH.nil)
    go_simp
    go_wp2_with fail
    refine hK.out _ _ ?_ (fun hHeldN => ?_)
    · (repeat (first | exact Below.refl _ _ | exact hHeld | refine Below.drew ?_ | refine Below.alloc ?_ (by first | exact Nat.le_refl _ | simp) _ | refine Below.setCell ?_ (by first | exact Nat.le_refl _ | simp) _))
    clear hHeld
    have hHeld := hHeldN
    clear hHeldN
    clear hK K
    try simp only [Act.put, List.setIfInBounds_toArray, List.set_cons_zero, List.set_cons_succ]
    refine wpAnyH_ready (rs := [23]) (by kernel_rfl) (by simp) ?_
    refine AllReadyH.cons (ho := by simp only [List.getElem?_toArray, List.getElem?_cons_succ, List.getElem?_cons_zero]; rfl) (fun K hK => ?_) (AllReadyH.nil)
    go_simp
    go_wp2_with fail
    refine hK.out _ _ ?_ (fun hHeldN => ?_)
    · (repeat (first | exact Below.refl _ _ | exact hHeld | refine Below.drew ?_ | refine Below.alloc ?_ (by first | exact Nat.le_refl _ | simp) _ | refine Below.setCell ?_ (by first | exact Nat.le_refl _ | simp) _))
    clear hHeld
    have hHeld := hHeldN
    clear hHeldN
    clear hK K
    try simp only [Act.put, List.setIfInBounds_toArray, List.set_cons_zero, List.set_cons_succ]
    clear hHeld
    refine wpAnyH_done (by kernel_rfl) ?_ _
    refine NoPanic.normal ?_
    go_wp2
    all_goals (go_end0; exact ⟨rfl, HS.out.counted HI.out (by omega) _ _⟩)
/-- A node whose sides are trees is counted. -/
theorem count_fit {w0 w : World} {S0 : Nat → Prop} {p gl cl : Nat} {vf : Value} {L : List Nd} {top : Nat} {F : List Nat} (h : Sh w0 S0 w p gl cl vf L top F) (hz : L[0]? = some zeroN) (hlen : L.length ≤ 1099511627776) (i : Nat) (x : It) (l r : T) (m d : Nat)
    (hi : L[i]? = some ⟨x, l.root, r.root, m, d⟩) (hl : Fit L l) (hr : Fit L r) :
    Calls Try.prog 88 #[.pointer (some ⟨p, 0, none⟩), .int .i64 (i : Int)] w fun e w' => e = .returned (.tuple #[]) ∧ Sh w0 S0 w' p gl cl vf (L.set i (ndOf x l r)) top F := by
  obtain ⟨nl, e1, e2, e3⟩ := hl.holds.top hz
  obtain ⟨nh, e4, e5, e6⟩ := hr.holds.top hz
  have b1 := hl.many_lt
  have b2 := hr.many_lt
  have b3 := T.deep_many l
  have b4 := T.deep_many r
  refine (count_any h i _ nl nh hi e1 e4 (by omega) (by omega) (by omega) (by omega)).mono ?_
  rintro e w' ⟨rfl, hs⟩
  rw [e2, e3, e5, e6] at hs
  exact ⟨rfl, hs⟩
theorem up_any {w0 w : World} {S0 : Nat → Prop} {p gl cl : Nat} {vf : Value} {L : List Nd} {top : Nat} {F : List Nat} (h : Sh w0 S0 w p gl cl vf L top F) (hz : L[0]? = some zeroN) (hlen : L.length ≤ 1099511627776) (i a : Nat) (x y : It) (ll lr r : T) (m d m' d' : Nat)
    (hi : L[i]? = some ⟨x, a, r.root, m, d⟩) (hl : L[a]? = some ⟨y, ll.root, lr.root, m', d'⟩) (h1 : Fit L ll) (h2 : Fit L lr) (h3 : Fit L r) (hnd : (i :: a :: (ll.idx ++ (lr.idx ++ r.idx))).Nodup) (pi : 0 < i) (pa : 0 < a) :
    Calls Try.prog 91 #[.pointer (some ⟨p, 0, none⟩), .int .i64 (i : Int)] w fun e w' => ∃ L', e = .returned (.int .i64 (a : Int)) ∧ Sh w0 S0 w' p gl cl vf L' top F ∧ Rot L L' i a (ndOf x lr r) (ndOf y ll (.node i x lr r)) := by
  obtain ⟨p0, p1, p2, _, _, _⟩ := h.pcells
  obtain ⟨a0, a1, a2, a3, a4, a5⟩ := h.ncells hi
  obtain ⟨b0, b1, b2, b3, b4, b5⟩ := h.ncells hl
  have li := (List.getElem?_eq_some_iff.1 hi).1
  have la := (List.getElem?_eq_some_iff.1 hl).1
  simp only [List.nodup_cons, List.nodup_append, List.mem_cons, List.mem_append, not_or] at hnd
  obtain ⟨⟨hia, hi1, hi2, hi3⟩, ⟨ha1, ha2, ha3⟩, hn1, ⟨hn2, hn3, hd2⟩, hd1⟩ := hnd
  -- the array behind the two stores
  have s1 := h.nset (n' := ⟨x, lr.root, r.root, m, d⟩) (v := .int .i64 (lr.root : Int)) hi (k := 2) (by decide) rfl
  have s2 := (s1.nset (i := a) (n := ⟨y, ll.root, lr.root, m', d'⟩) (n' := ⟨y, ll.root, i, m', d'⟩) (v := .int .i64 (i : Int)) (k := 3) (by rw [List.getElem?_set_ne hia]; exact hl) (by decide) rfl).drew
  obtain ⟨L2, hL2⟩ : ∃ L2, L2 = (L.set i ⟨x, lr.root, r.root, m, d⟩).set a ⟨y, ll.root, i, m', d'⟩ := ⟨_, rfl⟩
  rw [← hL2] at s2
  have o2 : ∀ j, j ≠ i → j ≠ a → L2[j]? = L[j]? := fun j h1 h2 => by rw [hL2, List.getElem?_set_ne (Ne.symm h2), List.getElem?_set_ne (Ne.symm h1)]
  have z2 : L2[0]? = some zeroN := by rw [o2 0 (by omega) (by omega)]; exact hz
  have l2 : L2.length = L.length := by rw [hL2]; simp
  have i2 : L2[i]? = some ⟨x, lr.root, r.root, m, d⟩ := by rw [hL2, List.getElem?_set_ne (Ne.symm hia), List.getElem?_set_self li]
  have a2' : L2[a]? = some ⟨y, ll.root, i, m', d'⟩ := by rw [hL2, List.getElem?_set_self (by simpa using la)]
  have f2 : ∀ t : T, i ∉ t.idx → a ∉ t.idx → Fit L t → Fit L2 t := fun t h1 h2 hf => hf.off fun j hj => o2 j (fun e => h1 (e ▸ hj)) (fun e => h2 (e ▸ hj))
  have HC1 := Kit.hid (count_fit s2 z2 (by omega) i x lr r m d i2 (f2 lr hi2 ha2 h2) (f2 r hi3 ha3 h3))
  -- behind the first count
  obtain ⟨L3, hL3⟩ : ∃ L3, L3 = L2.set i (ndOf x lr r) := ⟨_, rfl⟩
  rw [← hL3] at HC1
  have o3 : ∀ j, j ≠ i → L3[j]? = L2[j]? := fun j h1 => by rw [hL3, List.getElem?_set_ne (Ne.symm h1)]
  have z3 : L3[0]? = some zeroN := by rw [o3 0 (by omega)]; exact z2
  have l3 : L3.length = L.length := by rw [hL3]; simp [l2]
  have i3 : L3[i]? = some (ndOf x lr r) := by rw [hL3, List.getElem?_set_self (by omega)]
  have a3' : L3[a]? = some ⟨y, ll.root, (T.node i x lr r).root, m', d'⟩ := by rw [o3 a (Ne.symm hia)]; exact a2'
  have f3 : ∀ t : T, i ∉ t.idx → a ∉ t.idx → Fit L t → Fit L3 t := fun t h1 h2 hf => (f2 t h1 h2 hf).off fun j hj => o3 j (fun e => h1 (e ▸ hj))
  have fn : Fit L3 (.node i x lr r) := by
    refine ⟨⟨i3, (f3 lr hi2 ha2 h2).holds, (f3 r hi3 ha3 h3).holds⟩, ?_, ?_⟩
    · simp only [T.idx, List.nodup_cons, List.mem_append, not_or, List.nodup_append]
      exact ⟨⟨hi2, hi3⟩, hn2, hn3, hd2⟩
    · intro j hj
      simp only [T.idx, List.mem_cons, List.mem_append] at hj
      rcases hj with rfl | hj | hj
      · exact pi
      · exact h2.pos j hj
      · exact h3.pos j hj
  have HC2 : Hid (∀ w', Sh w0 S0 w' p gl cl vf L3 top F → Calls Try.prog 88 #[.pointer (some ⟨p, 0, none⟩), .int .i64 (a : Int)] w' fun e w'' => e = .returned (.tuple #[]) ∧ Sh w0 S0 w'' p gl cl vf (L3.set a (ndOf y ll (.node i x lr r))) top F) :=
    Kit.hid (fun w' hs => count_fit hs z3 (by omega) a y ll (.node i x lr r) m' d' a3' (f3 ll hi1 ha1 h1) fn)
  have HR : Hid (Rot L (L3.set a (ndOf y ll (.node i x lr r))) i a (ndOf x lr r) (ndOf y ll (.node i x lr r))) := Kit.hid ⟨by simp [l3], by rw [List.getElem?_set_ne (Ne.symm hia)]; exact i3, by rw [List.getElem?_set_self (by omega)], fun j hj1 hj2 => by
    rw [List.getElem?_set_ne (Ne.symm hj2), o3 j hj1, o2 j hj1 hj2]⟩
  have z1 : (0 : Int) ≤ (i : Int) := by omega
  have z2' : (0 : Int) ≤ (a : Int) := by omega
  have y1 : (i : Int) < (L.length : Int) := by omega
  have y2 : (a : Int) < (L.length : Int) := by omega
  have fr2 := h.row.frozenAt (i * 6 + 2)
  have fr3 := h.row.frozenAt (a * 6 + 3)
  have hg := h.glt
  have hp := h.plt
  have hgp := h.gp
  clear h hi hl s1 s2 hL2 hL3 o2 o3 z2 z3 l2 l3 i2 i3 a2' a3' f2 f3 fn hz hi1 hi2 hi3 ha1 ha2 ha3 hn1 hn2 hn3 hd2 hd1
  go_enter Try.func91, Try.ntmps91
  go_wp2
  go_region
  go_wp2_with fail
  (with_reducible refine HC1.out.mono ?_); rintro e w3 ⟨rfl, hs3⟩
  have HS3 := Kit.hid hs3
  clear hs3
  go_wp2_with fail
  (with_reducible refine (HC2.out _ HS3.out).mono ?_); rintro e w4 ⟨rfl, hs4⟩
  have HS4 := Kit.hid hs4
  clear hs4
  go_wp2
  go_ret
  exact ⟨_, rfl, HS4.out, HR.out⟩
theorem down_any {w0 w : World} {S0 : Nat → Prop} {p gl cl : Nat} {vf : Value} {L : List Nd} {top : Nat} {F : List Nat} (h : Sh w0 S0 w p gl cl vf L top F) (hz : L[0]? = some zeroN) (hlen : L.length ≤ 1099511627776) (i a : Nat) (x y : It) (l rl rr : T) (m d m' d' : Nat)
    (hi : L[i]? = some ⟨x, l.root, a, m, d⟩) (hl : L[a]? = some ⟨y, rl.root, rr.root, m', d'⟩) (h1 : Fit L rr) (h2 : Fit L l) (h3 : Fit L rl) (hnd : (i :: a :: (rr.idx ++ (l.idx ++ rl.idx))).Nodup) (pi : 0 < i) (pa : 0 < a) :
    Calls Try.prog 90 #[.pointer (some ⟨p, 0, none⟩), .int .i64 (i : Int)] w fun e w' => ∃ L', e = .returned (.int .i64 (a : Int)) ∧ Sh w0 S0 w' p gl cl vf L' top F ∧ Rot L L' i a (ndOf x l rl) (ndOf y (.node i x l rl) rr) := by
  obtain ⟨p0, p1, p2, _, _, _⟩ := h.pcells
  obtain ⟨a0, a1, a2, a3, a4, a5⟩ := h.ncells hi
  obtain ⟨b0, b1, b2, b3, b4, b5⟩ := h.ncells hl
  have li := (List.getElem?_eq_some_iff.1 hi).1
  have la := (List.getElem?_eq_some_iff.1 hl).1
  simp only [List.nodup_cons, List.nodup_append, List.mem_cons, List.mem_append, not_or] at hnd
  obtain ⟨⟨hia, hi1, hi2, hi3⟩, ⟨ha1, ha2, ha3⟩, hn1, ⟨hn2, hn3, hd2⟩, hd1⟩ := hnd
  -- the array behind the two stores
  have s1 := h.nset (n' := ⟨x, l.root, rl.root, m, d⟩) (v := .int .i64 (rl.root : Int)) hi (k := 3) (by decide) rfl
  have s2 := (s1.nset (i := a) (n := ⟨y, rl.root, rr.root, m', d'⟩) (n' := ⟨y, i, rr.root, m', d'⟩) (v := .int .i64 (i : Int)) (k := 2) (by rw [List.getElem?_set_ne hia]; exact hl) (by decide) rfl).drew
  obtain ⟨L2, hL2⟩ : ∃ L2, L2 = (L.set i ⟨x, l.root, rl.root, m, d⟩).set a ⟨y, i, rr.root, m', d'⟩ := ⟨_, rfl⟩
  rw [← hL2] at s2
  have o2 : ∀ j, j ≠ i → j ≠ a → L2[j]? = L[j]? := fun j h1 h2 => by rw [hL2, List.getElem?_set_ne (Ne.symm h2), List.getElem?_set_ne (Ne.symm h1)]
  have z2 : L2[0]? = some zeroN := by rw [o2 0 (by omega) (by omega)]; exact hz
  have l2 : L2.length = L.length := by rw [hL2]; simp
  have i2 : L2[i]? = some ⟨x, l.root, rl.root, m, d⟩ := by rw [hL2, List.getElem?_set_ne (Ne.symm hia), List.getElem?_set_self li]
  have a2' : L2[a]? = some ⟨y, i, rr.root, m', d'⟩ := by rw [hL2, List.getElem?_set_self (by simpa using la)]
  have f2 : ∀ t : T, i ∉ t.idx → a ∉ t.idx → Fit L t → Fit L2 t := fun t h1 h2 hf => hf.off fun j hj => o2 j (fun e => h1 (e ▸ hj)) (fun e => h2 (e ▸ hj))
  have HC1 := Kit.hid (count_fit s2 z2 (by omega) i x l rl m d i2 (f2 l hi2 ha2 h2) (f2 rl hi3 ha3 h3))
  -- behind the first count
  obtain ⟨L3, hL3⟩ : ∃ L3, L3 = L2.set i (ndOf x l rl) := ⟨_, rfl⟩
  rw [← hL3] at HC1
  have o3 : ∀ j, j ≠ i → L3[j]? = L2[j]? := fun j h1 => by rw [hL3, List.getElem?_set_ne (Ne.symm h1)]
  have z3 : L3[0]? = some zeroN := by rw [o3 0 (by omega)]; exact z2
  have l3 : L3.length = L.length := by rw [hL3]; simp [l2]
  have i3 : L3[i]? = some (ndOf x l rl) := by rw [hL3, List.getElem?_set_self (by omega)]
  have a3' : L3[a]? = some ⟨y, (T.node i x l rl).root, rr.root, m', d'⟩ := by rw [o3 a (Ne.symm hia)]; exact a2'
  have f3 : ∀ t : T, i ∉ t.idx → a ∉ t.idx → Fit L t → Fit L3 t := fun t h1 h2 hf => (f2 t h1 h2 hf).off fun j hj => o3 j (fun e => h1 (e ▸ hj))
  have fn : Fit L3 (.node i x l rl) := by
    refine ⟨⟨i3, (f3 l hi2 ha2 h2).holds, (f3 rl hi3 ha3 h3).holds⟩, ?_, ?_⟩
    · simp only [T.idx, List.nodup_cons, List.mem_append, not_or, List.nodup_append]
      exact ⟨⟨hi2, hi3⟩, hn2, hn3, hd2⟩
    · intro j hj
      simp only [T.idx, List.mem_cons, List.mem_append] at hj
      rcases hj with rfl | hj | hj
      · exact pi
      · exact h2.pos j hj
      · exact h3.pos j hj
  have HC2 : Hid (∀ w', Sh w0 S0 w' p gl cl vf L3 top F → Calls Try.prog 88 #[.pointer (some ⟨p, 0, none⟩), .int .i64 (a : Int)] w' fun e w'' => e = .returned (.tuple #[]) ∧ Sh w0 S0 w'' p gl cl vf (L3.set a (ndOf y (.node i x l rl) rr)) top F) :=
    Kit.hid (fun w' hs => count_fit hs z3 (by omega) a y (.node i x l rl) rr m' d' a3' fn (f3 rr hi1 ha1 h1))
  have HR : Hid (Rot L (L3.set a (ndOf y (.node i x l rl) rr)) i a (ndOf x l rl) (ndOf y (.node i x l rl) rr)) := Kit.hid ⟨by simp [l3], by rw [List.getElem?_set_ne (Ne.symm hia)]; exact i3, by rw [List.getElem?_set_self (by omega)], fun j hj1 hj2 => by
    rw [List.getElem?_set_ne (Ne.symm hj2), o3 j hj1, o2 j hj1 hj2]⟩
  have z1 : (0 : Int) ≤ (i : Int) := by omega
  have z2' : (0 : Int) ≤ (a : Int) := by omega
  have y1 : (i : Int) < (L.length : Int) := by omega
  have y2 : (a : Int) < (L.length : Int) := by omega
  have fr2 := h.row.frozenAt (i * 6 + 3)
  have fr3 := h.row.frozenAt (a * 6 + 2)
  have hg := h.glt
  have hp := h.plt
  have hgp := h.gp
  clear h hi hl s1 s2 hL2 hL3 o2 o3 z2 z3 l2 l3 i2 i3 a2' a3' f2 f3 fn hz hi1 hi2 hi3 ha1 ha2 ha3 hn1 hn2 hn3 hd2 hd1
  go_enter Try.func90, Try.ntmps90
  go_wp2
  go_region
  go_wp2_with fail
  (with_reducible refine HC1.out.mono ?_); rintro e w3 ⟨rfl, hs3⟩
  have HS3 := Kit.hid hs3
  clear hs3
  go_wp2_with fail
  (with_reducible refine (HC2.out _ HS3.out).mono ?_); rintro e w4 ⟨rfl, hs4⟩
  have HS4 := Kit.hid hs4
  clear hs4
  go_wp2
  go_ret
  exact ⟨_, rfl, HS4.out, HR.out⟩
end Go.Proofs.Ytpgfenelckonoaa.Sh
