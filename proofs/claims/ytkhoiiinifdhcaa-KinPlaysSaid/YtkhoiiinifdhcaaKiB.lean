/- The walks of kin's Path and Tall; trees as the plain law has them. -/
import Derived.Test.YtkhoiiinifdhcaaKiA
namespace Go.Proofs.Ytkhoiiinifdhcaa.Ki
open Go.RowKit Go.Proofs.Ytkhoiiinifdhcaa.Kit Go.Proofs.Ytkhoiiinifdhcaa.KiM
set_option linter.unusedVariables false
set_option linter.unusedSimpArgs false
def parF (T : Tr) (j : Int) : Option Int := if j = 0 then some (-1) else get T j
/-- A tree in memory, as the plain law has it. -/
def KT (w : World) (p mb : Nat) (T : Tr) (n : Nat) : Prop := KM w p mb (parF T) (kids T) n ∧ WF T ∧ n ≤ 100000 ∧ T.length ≤ n
theorem infoI : (Try.prog.info? 3).map (fun i => (i.zero, i.size, i.bytes)) = some (some (.int .i64 0), 1, 8) := by kernel_rfl
section
variable {w w' : World} {p mb n : Nat} {T : Tr}
theorem KT.below (h : KT w p mb T n) (hb : Below w.heap.size w w') : KT w' p mb T n := ⟨h.1.below hb, h.2⟩
theorem KT.more {m : Nat} (h : KT w p mb T n) (hm : n ≤ m) (hm2 : m ≤ 100000) : KT w p mb T m := ⟨h.1.more hm, h.2.1, hm2, Nat.le_trans h.2.2.2 hm⟩
theorem parF_has (T : Tr) (j : Int) : (parF T j).isSome = has T j := by
  unfold parF has
  by_cases e : j = 0
  · simp [e]
  · simp [e]
theorem parF_par {T : Tr} (h : WF T) (j : Int) : (parF T j).getD (-1) = parent T j := by
  unfold parF parent
  by_cases e : j = 0
  · rw [if_pos e, e, h.zero]; rfl
  · rw [if_neg e]
theorem kids_none {T : Tr} (h : WF T) {j : Int} (hj : parF T j = none) : kids T j = [] := by
  cases hk : kids T j with
  | nil => rfl
  | cons k l =>
    have hg := (mem_kids h.rises).1 (show k ∈ kids T j by rw [hk]; simp)
    have h2 := (h.path_cons hg).2
    rw [← parF_has, hj] at h2
    cases h2
theorem kt_has (h : KT w p mb T n) (id : Int) (hi1 : -9223372036854775808 ≤ id) (hi2 : id ≤ 9223372036854775807) :
    Calls Try.prog 21 #[.pointer (some ⟨p, 0, none⟩), .int .i64 id] w fun e w' => e = .returned (.bool (has T id)) ∧ Below w.heap.size w w' := by
  have := has_any h.1 id hi1 hi2
  rw [parF_has] at this
  exact this
theorem kt_parent (h : KT w p mb T n) (id : Int) (hi1 : -9223372036854775808 ≤ id) (hi2 : id ≤ 9223372036854775807) :
    Calls Try.prog 23 #[.pointer (some ⟨p, 0, none⟩), .int .i64 id] w fun e w' => e = .returned (.int .i64 (parent T id)) ∧ Below w.heap.size w w' := by
  have := parent_any h.1 id hi1 hi2
  rw [parF_par h.2.1] at this
  exact this
theorem kt_kids (h : KT w p mb T n) (id : Int) (hi1 : -9223372036854775808 ≤ id) (hi2 : id ≤ 9223372036854775807) :
    Calls Try.prog 26 #[.pointer (some ⟨p, 0, none⟩), .int .i64 id] w fun e w' => ∃ v, e = .returned v ∧ Row w.heap.size w' v (kids T id) ∧ Below w.heap.size w w' :=
  kids_any h.1 h.2.2.1 id hi1 hi2 (kids_none h.2.1)
theorem row_push {B : Nat} {v : Value} {l k : List Int} (h : w.ownsRow B 3 1 v (l.length + k.length) (iv l ++ iv k)) : Row B w v (l ++ k) := by
  unfold Row
  rw [List.length_append, show iv (l ++ k) = iv l ++ iv k from by simp [iv]]
  exact h
theorem lit_int (w : World) (x : Int) : Cells (w.alloc (.cells #[.int .i64 x] 3)) (some ⟨w.heap.size, 0, none⟩) [.int .i64 x] := fun i hi => ⟨_, rfl, by
  have hi : i < 1 := by simpa using hi
  obtain rfl : i = 0 := by omega
  rw [add_lit, blk_cell (blk_new w _)]
  rfl⟩
theorem row_below {B : Nat} {w0 : World} {v : Value} {l : List Int} (hb : Below B w0 w) (hr : Row B w v l) (hg : w.grownBy w' v.ownBlock) (hB : B ≤ w.heap.size) : Below B w0 w' := hb.grown hg hB fun k hk => (hr.own_lt k hk).1
theorem tree_path_next {T : Tr} (h : WF T) {x : Int} (hp : parent T x ≠ -1) : ∃ q, parent T x = q ∧ get T x = some q ∧ path T x = x :: path T q ∧ 1 ≤ x ∧ x ≤ 1048576 ∧ (q = 0 ∨ (1 ≤ q ∧ q ≤ 1048576)) := by
  unfold parent at hp ⊢
  cases hg : get T x with
  | none => rw [hg] at hp; exact absurd rfl hp
  | some q =>
    obtain ⟨h1, h2⟩ := h.path_cons hg
    have h3 := h.pos hg
    refine ⟨q, rfl, rfl, h1, h3.1, h3.2, ?_⟩
    rcases has_iff.1 h2 with rfl | ⟨r, hr⟩
    · exact .inl rfl
    · exact .inr (h.pos hr)
theorem tree_path_end {T : Tr} (h : WF T) {x : Int} (hp : parent T x = -1) : path T x = [] := by
  cases hg : get T x with
  | none => exact path_none hg
  | some q =>
    unfold parent at hp
    rw [hg] at hp
    have hp : q = -1 := hp
    subst hp
    rcases has_iff.1 (h.path_cons hg).2 with h1 | ⟨r, hr⟩
    · omega
    · have := (h.pos hr).1; omega
theorem path_len (h : WF T) (x : Int) : (path T x).length ≤ 16 := by
  by_cases hh : has T x = true
  · exact (h.is_path hh).2
  · rw [path_none (has_false hh).2]; simp
set_option maxRecDepth 8000 in
set_option maxHeartbeats 1600000 in
theorem path_any (h : KT w p mb T n) (id : Int) (hi1 : -9223372036854775808 ≤ id) (hi2 : id ≤ 9223372036854775807) :
    Calls Try.prog 28 #[.pointer (some ⟨p, 0, none⟩), .int .i64 id] w fun e w' => ∃ v, e = .returned v ∧ Row w.heap.size w' v (path T id) ∧ Below w.heap.size w w' := by
  have HT := Kit.hid h
  have HW : Hid (WF T) := Kit.hid h.2.1
  have HPA : Hid (∀ (x : Int) w', Below w.heap.size w w' → -9223372036854775808 ≤ x → x ≤ 9223372036854775807 → Calls Try.prog 23 #[.pointer (some ⟨p, 0, none⟩), .int .i64 x] w' fun e w'' => e = .returned (.int .i64 (parent T x)) ∧ Below w'.heap.size w' w'') := Kit.hid (fun x w' hb h1 h2 => kt_parent (HT.out.below hb) x h1 h2)
  have HB0 : Hid (Below w.heap.size w w) := Kit.hid (Below.refl _ _)
  have HR0 : Hid (Row w.heap.size w (.slice none 0 0) []) := Kit.hid (row_nil _ _)
  have HI : Hid (-9223372036854775808 ≤ id ∧ id ≤ 9223372036854775807) := Kit.hid ⟨hi1, hi2⟩
  clear h hi1 hi2
  go_enter Try.func28, Try.ntmps28
  go_wp2_with fail
  go_loopw [1, 5] (fun v1 v5 wr => ∃ (x : Int) (pre : List Int) (vo : Value), v1 = .int .i64 x ∧ vo = v5 ∧ Hid (-9223372036854775808 ≤ x ∧ x ≤ 9223372036854775807) ∧ Hid (path T id = pre ++ path T x) ∧ Hid (Row w.heap.size wr vo pre) ∧ Hid (Below w.heap.size w wr)) (fun v1 _ _ => (path T (intOf v1)).length)
  case atStart => exact ⟨id, [], _, rfl, rfl, HI, Kit.hid rfl, HR0, HB0⟩
  case round =>
    obtain ⟨x, pre, vo, rfl, rfl, HX, HP, HR, HB⟩ := hrel
    have HC := Kit.hid (HPA.out x _ HB.out HX.out.1 HX.out.2)
    by_cases hpar : parent T x = -1
    · have he := tree_path_end HW.out hpar
      rw [hpar] at HC
      go_wp2_with fail
      (with_reducible refine HC.out.mono ?_); rintro e w2 ⟨rfl, hb2⟩
      have HB2 := Kit.hid (HB.out.trans (hb2.mono HB.out.size))
      have HR2 := Kit.hid (HR.out.below hb2)
      have HPE : Hid (path T id = pre) := Kit.hid (by rw [HP.out, he, List.append_nil])
      clear hb2 he
      go_wp2_with fail
      go_ret
      exact ⟨_, rfl, by rw [HPE.out]; exact HR2.out, HB2.out⟩
    · obtain ⟨q, hq, hgq, hpx, hx1, hx2, hq2⟩ := tree_path_next HW.out hpar
      rw [hq] at HC hpar
      have g1 : (q == -1) = false := beq_eq_false_iff_ne.2 hpar
      have g2 : (q != -1) = true := by simp [hpar]
      have HPX := Kit.hid hpx
      have HPQ : Hid (∀ w', Below w.heap.size w w' → Calls Try.prog 23 #[.pointer (some ⟨p, 0, none⟩), .int .i64 x] w' fun e w'' => e = .returned (.int .i64 q) ∧ Below w'.heap.size w' w'') := Kit.hid (fun w' hb => by
        have := HPA.out x w' hb HX.out.1 HX.out.2
        rw [hq] at this
        exact this)
      have HQ : Hid (-9223372036854775808 ≤ q ∧ q ≤ 9223372036854775807) := Kit.hid (by omega)
      have HLE : Hid (pre.length ≤ 16) := Kit.hid (by
        have h1 := congrArg List.length HP.out
        have h2 := path_len HW.out id
        rw [List.length_append] at h1
        omega)
      clear hq hgq hpx hx1 hx2 hq2 hpar
      go_wp2_with fail
      (with_reducible refine HC.out.mono ?_); rintro e w2 ⟨rfl, hb2⟩
      have HB2 := Kit.hid (HB.out.trans (hb2.mono HB.out.size))
      have HR2 := Kit.hid (HR.out.below hb2)
      have hownA : (w2.alloc (.cells #[.int .i64 x] 3)).ownsRow w.heap.size 3 1 vo pre.length (iv pre) := HR2.out.below ((Below.refl _ _).alloc (Nat.le_refl _) _)
      have HBA := Kit.hid (HB2.out.alloc HB2.out.size (.cells #[.int .i64 x] 3))
      have hcA := lit_int w2 x
      clear hb2 HC
      go_wp2_with (at_builtin; refine wpList_append_src rfl _ _ 39 rfl w.heap.size 3 (.int .i64 0) 8 Try.underlying39 infoI rfl vo _ _ rfl hownA (some ⟨w2.heap.size, 0, none⟩) 1 1 [.int .i64 x] rfl rfl hcA (fun u hu => by rw [List.mem_singleton.1 hu]; rfl) (by have := HLE.out; unfold maxLen; omega) (by have := HLE.out; omega) HBA.out.size ?_
                   intro v3 w3 hown3 hg3 _
                   have HR3 : Hid (Row w.heap.size w3 v3 (pre ++ [x])) := Kit.hid (row_push (k := [x]) hown3)
                   have HB3 : Hid (Below w.heap.size w w3) := Kit.hid (row_below HBA.out hownA hg3 HBA.out.size)
                   have HC3 := Kit.hid (HPQ.out _ HB3.out)
                   clear hown3 hg3)
      (with_reducible refine HC3.out.mono ?_); rintro e w4 ⟨rfl, hb4⟩
      have HB4 := Kit.hid (HB3.out.trans (hb4.mono HB3.out.size))
      have HR4 := Kit.hid (HR3.out.below hb4)
      have HP4 : Hid (path T id = (pre ++ [x]) ++ path T q) := Kit.hid (by rw [HP.out, HPX.out]; simp)
      clear hb4 hownA hcA
      go_wp2_with fail
      go_roundw
      case rel => exact ⟨q, pre ++ [x], v3, rfl, rfl, HQ, HP4, HR4, HB4⟩
      case measure => show (path T q).length < (path T x).length; rw [HPX.out]; simp
end
end Go.Proofs.Ytkhoiiinifdhcaa.Ki
