/- A tree in memory; the walks of kin's Has, Parent and Kids. -/
import Derived.Test.YtkhoiiinifdhcaaKiN
import Derived.Test.YtkhoiiinifdhcaaKiS
import Derived.Test.YtkhoiiinifdhcaaMapW
import Derived.Test.YtkhoiiinifdhcaaHeldT
import Derived.WalkKit
namespace Go.Proofs.Ytkhoiiinifdhcaa.Ki
open Go.RowKit Go.Proofs.Ytkhoiiinifdhcaa.Kit Go.Proofs.Ytkhoiiinifdhcaa.KiM
set_option linter.unusedVariables false
set_option linter.unusedSimpArgs false
/-- All blocks but one are as they were. -/
structure Kp (mb : Nat) (w w' : World) : Prop where
  os : w'.os = w.os
  tape : w'.tape = w.tape
  output : w'.output = w.output
  size : w.heap.size ≤ w'.heap.size
  block : ∀ k, k < w.heap.size → k ≠ mb → w'.heap[k]? = w.heap[k]?
theorem Kp.refl (mb : Nat) (w : World) : Kp mb w w := ⟨rfl, rfl, rfl, Nat.le_refl _, fun _ _ _ => rfl⟩
theorem Kp.of_below {mb : Nat} {w w' : World} (h : Below w.heap.size w w') : Kp mb w w' := ⟨h.os, h.tape, h.output, h.size, fun k hk _ => h.block k hk⟩
theorem Kp.trans {mb : Nat} {w w' w'' : World} (h : Kp mb w w') (k : Kp mb w' w'') : Kp mb w w'' :=
  ⟨k.os.trans h.os, k.tape.trans h.tape, k.output.trans h.output, Nat.le_trans h.size k.size, fun x hx hne => (k.block x (Nat.lt_of_lt_of_le hx h.size) hne).trans (h.block x hx hne)⟩
theorem Kp.below {mb : Nat} {w w' : World} (h : Kp mb w w') {B : Nat} {w0 : World} (hb : Below B w0 w) (hB : B ≤ mb) (hw : B ≤ w.heap.size) : Below B w0 w' :=
  ⟨h.os.trans hb.os, h.tape.trans hb.tape, h.output.trans hb.output, Nat.le_trans hb.size h.size, fun x hx => (h.block x (Nat.lt_of_lt_of_le hx hw) (by omega)).trans (hb.block x hx)⟩
theorem Kp.grown {mb : Nat} {w w' : World} (h : w.grownBy w' (some mb)) : Kp mb w w' := ⟨h.os, h.tape, h.output, h.size, fun k hk hne => h.block k hk (fun e => hne (Option.some.inj e))⟩
def nodeV (q : Int) (v : Value) : Value := .agg #[.int .i64 q, v]
/-- A tree in memory: its map, with whatever parents and kids. -/
def KM (w : World) (p mb : Nat) (P : Int → Option Int) (K : Int → List Int) (n : Nat) : Prop :=
  w.heap[p]? = some (.cells #[.map (some mb)] 53 (0, 0)) ∧
  ∃ va : Int → Value, MapV Try.prog 3 w mb (fun j => (P j).map fun q => nodeV q (va j)) n ∧ ∀ j q, P j = some q → Row 0 w (va j) (K j) ∧ (K j).length ≤ n
theorem MapV.obj {P : Program} {k : TypeId} {w : World} {b : Nat} {f : Int → Option Value} {n : Nat} (h : MapV P k w b f n) : ∃ es clock, w.heap[b]? = some (.map es clock) := by
  obtain ⟨es, clock, hb, _⟩ := h
  exact ⟨es, clock, hb⟩
section
variable {w w' : World} {p mb n : Nat} {P : Int → Option Int} {K : Int → List Int}
theorem KM.lt (h : KM w p mb P K n) : p < w.heap.size ∧ mb < w.heap.size ∧ p ≠ mb := by
  obtain ⟨h1, va, h2, h3⟩ := h
  refine ⟨blk_lt h1, h2.lt, fun e => ?_⟩
  obtain ⟨es, clock, hb⟩ := MapV.obj h2
  rw [← e, h1] at hb
  cases hb
theorem row_ne {v : Value} {l : List Int} {B : Nat} {es : Array MapEntry} {clock : Nat} (h : Row B w v l) (hb : w.heap[mb]? = some (.map es clock)) : ∀ g, v.ownBlock = some g → g ≠ mb := by
  intro g hg e
  subst e
  rcases h.form with ⟨rfl, _⟩ | ⟨g', c, cur, rfl, h1, h2, _⟩
  · cases hg
  · cases hg
    rw [h2] at hb
    cases hb
theorem KM.below (h : KM w p mb P K n) (hb : Below w.heap.size w w') : KM w' p mb P K n := by
  obtain ⟨h1, va, h2, h3⟩ := h
  exact ⟨blk_below h1 hb, va, h2.same (hb.block _ h2.lt), fun j q hj => ⟨(h3 j q hj).1.below hb, (h3 j q hj).2⟩⟩
theorem KM.more {m : Nat} (h : KM w p mb P K n) (hm : n ≤ m) : KM w p mb P K m := by
  obtain ⟨h1, va, h2, h3⟩ := h
  exact ⟨h1, va, h2.more hm, fun j q hj => ⟨(h3 j q hj).1, Nat.le_trans (h3 j q hj).2 hm⟩⟩
theorem KM.congr {P' : Int → Option Int} {K' : Int → List Int} (h : KM w p mb P K n) (hP : ∀ j, P' j = P j) (hK : ∀ j q, P j = some q → K' j = K j) : KM w p mb P' K' n := by
  obtain ⟨h1, va, h2, h3⟩ := h
  refine ⟨h1, va, h2.congr fun j => by rw [hP], fun j q hj => ?_⟩
  rw [hP] at hj
  rw [hK j q hj]
  exact h3 j q hj
/-- One entry is stored. -/
theorem KM.store {w'' : World} {j0 q0 : Int} {v : Value} {l : List Int} {m : Nat} (h1 : w.heap[p]? = some (.cells #[.map (some mb)] 53 (0, 0))) {va : Int → Value}
    (h3 : ∀ j q, P j = some q → Row 0 w (va j) (K j) ∧ (K j).length ≤ n) (hv : Row 0 w v l) (hl : l.length ≤ m) (hnm : n ≤ m) (hpm : p ≠ mb) {es : Array MapEntry} {clock : Nat} (hb : w.heap[mb]? = some (.map es clock))
    (hm : MapV Try.prog 3 w'' mb (fun j => if j = j0 then some (nodeV q0 v) else (P j).map fun q => nodeV q (va j)) m) (hg : w.grownBy w'' (some mb)) :
    KM w'' p mb (fun j => if j = j0 then some q0 else P j) (fun j => if j = j0 then l else K j) m := by
  have hs : ∀ u (k : List Int), Row 0 w u k → Row 0 w'' u k := fun u k hu => hu.same fun g hg' => hg.block g (hu.own_lt g hg').2 (fun e => row_ne hu hb g hg' (Option.some.inj e))
  refine ⟨(hg.block p (blk_lt h1) (fun e => hpm (Option.some.inj e))).trans h1, fun j => if j = j0 then v else va j, hm.congr fun j => ?_, fun j q hj => ?_⟩
  · by_cases e : j = j0
    · simp [e]
    · simp [e]
  · by_cases e : j = j0
    · simp only [e, if_true]
      exact ⟨hs _ _ hv, hl⟩
    · simp only [e, if_false] at hj ⊢
      obtain ⟨k1, k2⟩ := h3 j q hj
      exact ⟨hs _ _ k1, Nat.le_trans k2 hnm⟩
theorem zero_node (w : World) : (zeroValue 50).run Try.prog w = .ok (.agg #[.int .i64 0, .slice none 0 0]) w := by
  rw [Try.zeroValue50]
theorem field_kids (q : Int) (A : Option Addr) (k c : Nat) (w : World) : (Instr.field 50 (.agg #[.int .i64 q, .slice A k c]) 1).run Try.prog w = .ok (.slice A k c) w := by
  simp [Instr.field, run_underlying Try.underlying50, asAgg, go_sem]
theorem field_parent (q : Int) (A : Option Addr) (k c : Nat) (w : World) : (Instr.field 50 (.agg #[.int .i64 q, .slice A k c]) 0).run Try.prog w = .ok (.int .i64 q) w := by
  simp [Instr.field, run_underlying Try.underlying50, asAgg, go_sem]
theorem keyedK : Go.Maps.Keyed Try.prog 3 := Go.Maps.int_keyed Try.underlying3
/-- What a look tells. -/
theorem KM.entry (h : KM w p mb P K n) (id : Int) : ∃ f, MapV Try.prog 3 w mb f n ∧ ((P id = none ∧ f id = none) ∨ ∃ q A c, P id = some q ∧ f id = some (.agg #[.int .i64 q, .slice A (K id).length c]) ∧ Row 0 w (.slice A (K id).length c) (K id) ∧ (K id).length ≤ n) := by
  obtain ⟨h1, va, h2, h3⟩ := h
  refine ⟨_, h2, ?_⟩
  cases hp : P id with
  | none => exact .inl ⟨rfl, by simp [hp]⟩
  | some q =>
    obtain ⟨k1, k2⟩ := h3 id q hp
    obtain ⟨A, c, e, _⟩ := k1.reads
    refine .inr ⟨q, A, c, rfl, by simp [hp, nodeV, e], e ▸ k1, k2⟩
set_option maxRecDepth 8000 in
set_option maxHeartbeats 800000 in
theorem has_any (h : KM w p mb P K n) (id : Int) (hi1 : -9223372036854775808 ≤ id) (hi2 : id ≤ 9223372036854775807) :
    Calls Try.prog 21 #[.pointer (some ⟨p, 0, none⟩), .int .i64 id] w fun e w' => e = .returned (.bool (P id).isSome) ∧ Below w.heap.size w w' := by
  have HKEY : Hid (keyOf Try.prog 3 (.int .i64 id) = some (.int .i64 id)) := Kit.hid (int_key Try.underlying3 hi1 hi2)
  obtain ⟨f, hm, hf⟩ := h.entry id
  have HMB : Hid (MapV Try.prog 3 w mb f n) := Kit.hid hm
  have HE : Hid (∀ o, Below w.heap.size w (w.alloc o)) := Kit.hid (fun o => (Below.refl _ _).alloc (Nat.le_refl _) _)
  have hp0 := blk_cell h.1 0
  clear hm hi1 hi2 h
  go_enter Try.func21, Try.ntmps21
  rcases hf with ⟨h1, h2⟩ | ⟨q, A, c, h1, h2, h3⟩
  · have HLK : Hid ((if true = true then Value.tuple #[(f id).getD (.agg #[.int .i64 0, .slice none 0 0]), .bool (f id).isSome] else (f id).getD (.agg #[.int .i64 0, .slice none 0 0])) = .tuple #[.agg #[.int .i64 0, .slice none 0 0], .bool false]) := Kit.hid (by simp [h2])
    have HP := Kit.hid h1
    clear h1 h2
    go_wp2_with (at_lookup; refine wpList_lookV rfl _ _ 51 true rfl 3 50 keyedK Try.underlying51 _ (zero_node _) mb n f rfl HMB.out id rfl HKEY.out _ HLK.out ?_)
    go_ret
    rw [HP.out]
    exact ⟨rfl, HE.out _⟩
  · have HLK : Hid ((if true = true then Value.tuple #[(f id).getD (.agg #[.int .i64 0, .slice none 0 0]), .bool (f id).isSome] else (f id).getD (.agg #[.int .i64 0, .slice none 0 0])) = .tuple #[.agg #[.int .i64 q, .slice A (K id).length c], .bool true]) := Kit.hid (by simp [h2])
    have HP := Kit.hid h1
    clear h1 h2 h3
    go_wp2_with (at_lookup; refine wpList_lookV rfl _ _ 51 true rfl 3 50 keyedK Try.underlying51 _ (zero_node _) mb n f rfl HMB.out id rfl HKEY.out _ HLK.out ?_)
    go_ret
    rw [HP.out]
    exact ⟨rfl, HE.out _⟩
set_option maxRecDepth 8000 in
set_option maxHeartbeats 800000 in
theorem parent_any (h : KM w p mb P K n) (id : Int) (hi1 : -9223372036854775808 ≤ id) (hi2 : id ≤ 9223372036854775807) :
    Calls Try.prog 23 #[.pointer (some ⟨p, 0, none⟩), .int .i64 id] w fun e w' => e = .returned (.int .i64 ((P id).getD (-1))) ∧ Below w.heap.size w w' := by
  have HKEY : Hid (keyOf Try.prog 3 (.int .i64 id) = some (.int .i64 id)) := Kit.hid (int_key Try.underlying3 hi1 hi2)
  obtain ⟨f, hm, hf⟩ := h.entry id
  have HMB : Hid (MapV Try.prog 3 w mb f n) := Kit.hid hm
  have HE : Hid (∀ o, Below w.heap.size w (w.alloc o)) := Kit.hid (fun o => (Below.refl _ _).alloc (Nat.le_refl _) _)
  have hp0 := blk_cell h.1 0
  clear hm hi1 hi2 h
  go_enter Try.func23, Try.ntmps23
  rcases hf with ⟨h1, h2⟩ | ⟨q, A, c, h1, h2, h3⟩
  · have HLK : Hid ((if true = true then Value.tuple #[(f id).getD (.agg #[.int .i64 0, .slice none 0 0]), .bool (f id).isSome] else (f id).getD (.agg #[.int .i64 0, .slice none 0 0])) = .tuple #[.agg #[.int .i64 0, .slice none 0 0], .bool false]) := Kit.hid (by simp [h2])
    have HP := Kit.hid h1
    clear h1 h2
    go_wp2_with (at_lookup; refine wpList_lookV rfl _ _ 51 true rfl 3 50 keyedK Try.underlying51 _ (zero_node _) mb n f rfl HMB.out id rfl HKEY.out _ HLK.out ?_)
    go_ret
    rw [HP.out]
    exact ⟨rfl, HE.out _⟩
  · have HLK : Hid ((if true = true then Value.tuple #[(f id).getD (.agg #[.int .i64 0, .slice none 0 0]), .bool (f id).isSome] else (f id).getD (.agg #[.int .i64 0, .slice none 0 0])) = .tuple #[.agg #[.int .i64 q, .slice A (K id).length c], .bool true]) := Kit.hid (by simp [h2])
    have HP := Kit.hid h1
    clear h1 h2 h3
    go_wp2_with (at_lookup; refine wpList_lookV rfl _ _ 51 true rfl 3 50 keyedK Try.underlying51 _ (zero_node _) mb n f rfl HMB.out id rfl HKEY.out _ HLK.out ?_)
    go_ret
    rw [HP.out]
    exact ⟨rfl, HE.out _⟩
set_option maxRecDepth 8000 in
set_option maxHeartbeats 800000 in
theorem kids_any (h : KM w p mb P K n) (hn : n ≤ 100000) (id : Int) (hi1 : -9223372036854775808 ≤ id) (hi2 : id ≤ 9223372036854775807) (hk : P id = none → K id = []) :
    Calls Try.prog 26 #[.pointer (some ⟨p, 0, none⟩), .int .i64 id] w fun e w' => ∃ v, e = .returned v ∧ Row w.heap.size w' v (K id) ∧ Below w.heap.size w w' := by
  have HKEY : Hid (keyOf Try.prog 3 (.int .i64 id) = some (.int .i64 id)) := Kit.hid (int_key Try.underlying3 hi1 hi2)
  obtain ⟨f, hm, hf⟩ := h.entry id
  have HMB : Hid (MapV Try.prog 3 w mb f n) := Kit.hid hm
  have hp0 := blk_cell h.1 0
  clear hm hi1 hi2 h
  have hfk := field_kids
  go_enter Try.func26, Try.ntmps26
  rcases hf with ⟨h1, h2⟩ | ⟨q, A, c, h1, h2, h3, h4⟩
  · have HLK : Hid ((if false = true then Value.tuple #[(f id).getD (.agg #[.int .i64 0, .slice none 0 0]), .bool (f id).isSome] else (f id).getD (.agg #[.int .i64 0, .slice none 0 0])) = .agg #[.int .i64 0, .slice none 0 0]) := Kit.hid (by simp [h2])
    have HP := Kit.hid (hk h1)
    have HC := Kit.hid (clone_row (row_nil 0 w) (by simp))
    clear h1 h2 hk
    go_wp2_with (at_lookup; refine wpList_lookV rfl _ _ 51 false rfl 3 50 keyedK Try.underlying51 _ (zero_node _) mb n f rfl HMB.out id rfl HKEY.out _ HLK.out ?_)
    (with_reducible refine HC.out.mono ?_); rintro e w2 ⟨v, rfl, hr, hb⟩
    have HR := Kit.hid hr
    have HB := Kit.hid hb
    clear hr hb
    go_wp2_with fail
    go_ret
    rw [HP.out]
    exact ⟨_, rfl, HR.out, HB.out⟩
  · have HLK : Hid ((if false = true then Value.tuple #[(f id).getD (.agg #[.int .i64 0, .slice none 0 0]), .bool (f id).isSome] else (f id).getD (.agg #[.int .i64 0, .slice none 0 0])) = .agg #[.int .i64 q, .slice A (K id).length c]) := Kit.hid (by simp [h2])
    have HC := Kit.hid (clone_row h3 (by omega))
    clear h1 h2 h3 hk
    go_wp2_with (at_lookup; refine wpList_lookV rfl _ _ 51 false rfl 3 50 keyedK Try.underlying51 _ (zero_node _) mb n f rfl HMB.out id rfl HKEY.out _ HLK.out ?_)
    (with_reducible refine HC.out.mono ?_); rintro e w2 ⟨v, rfl, hr, hb⟩
    have HR := Kit.hid hr
    have HB := Kit.hid hb
    clear hr hb
    go_wp2_with fail
    go_ret
    exact ⟨_, rfl, HR.out, HB.out⟩
end
end Go.Proofs.Ytkhoiiinifdhcaa.Ki
