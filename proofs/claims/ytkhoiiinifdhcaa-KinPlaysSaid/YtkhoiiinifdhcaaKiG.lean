/- The walks of kin's Drop and Move. -/
import Derived.Test.YtkhoiiinifdhcaaKiF
namespace Go.Proofs.Ytkhoiiinifdhcaa.Ki
open Go.RowKit Go.Proofs.Ytkhoiiinifdhcaa.Kit Go.Proofs.Ytkhoiiinifdhcaa.KiM
set_option linter.unusedVariables false
set_option linter.unusedSimpArgs false
section
variable {w w' : World} {p mb n : Nat} {T : Tr}
/-- What an unlinked group leaves: it stands in the map still, and is nobody's kid. -/
theorem unlink_kt (h : KT w p mb T n) (hn : n ≤ 99990) {id old : Int} (ho : get T id = some old) :
    Calls Try.prog 35 #[.pointer (some ⟨p, 0, none⟩), .int .i64 id] w fun e w' => e = .returned (.tuple #[]) ∧ KM w' p mb (parF T) (kids (del T id)) (n + 1) ∧ Kp mb w w' := by
  have hw := h.2.1
  have hid := hw.pos ho
  obtain ⟨qp, hq, hb1, hb2⟩ := parF_some hw (hw.path_cons ho).2
  have hpi : parF T id = some old := by unfold parF; rw [if_neg (by omega)]; exact ho
  refine (unlink_any h.1 hn id old qp hpi hq (kids_lt hw.rises _) ((mem_kids hw.rises).2 ho) (by omega) (by omega) hb1 hb2).mono fun e w' hh => ⟨hh.1, hh.2.1.congr (fun j => rfl) (fun j q _ => ?_), hh.2.2⟩
  by_cases e : j = old
  · rw [if_pos e, kids_del, e]
  · rw [if_neg e]
    exact kids_del_other hw.rises (fun e2 => e (by rw [ho] at e2; exact (Option.some.inj e2).symm))
set_option maxRecDepth 8000 in
set_option maxHeartbeats 1600000 in
theorem drop_any (h : KT w p mb T n) (hn : n ≤ 4000) (id : Int) (hi1 : -9223372036854775808 ≤ id) (hi2 : id ≤ 9223372036854775807) :
    Calls Try.prog 36 #[.pointer (some ⟨p, 0, none⟩), .int .i64 id] w fun e w' => e = .returned (.int .i64 (dropR T id).1) ∧ KT w' p mb (dropR T id).2 (n + 2) ∧ Kp mb w w' := by
  have HT := Kit.hid h
  have HM : Hid (∀ w', Below w.heap.size w w' → KT w' p mb T (n + 2) ∧ Kp mb w w') := Kit.hid (fun w' hb => ⟨(HT.out.below hb).more (by omega) (by omega), Kp.of_below hb⟩)
  have HH1 := Kit.hid (kt_has h id hi1 hi2)
  have HKI : Hid (keyOf Try.prog 3 (.int .i64 id) = some (.int .i64 id)) := Kit.hid (int_key Try.underlying3 hi1 hi2)
  have hfk := field_kids
  clear h
  go_enter Try.func36, Try.ntmps36
  by_cases a1 : id = 0
  · have HR : Hid (dropR T id = (8, T)) := Kit.hid (by unfold dropR; rw [if_pos (.inl a1)])
    have g1 : (id == 0) = true := by simp [a1]
    clear a1
    go_wp2
    go_ret
    rw [HR.out]
    exact ⟨rfl, HM.out _ (Below.refl _ _)⟩
  have g1 : (id == 0) = false := beq_eq_false_iff_ne.2 a1
  have A1 := Kit.hid a1
  clear a1
  go_wp2_with fail
  (with_reducible refine HH1.out.mono ?_); rintro e w1 ⟨rfl, hb1⟩
  have HB1 := Kit.hid hb1
  clear hb1 HH1
  cases h3 : has T id with
  | false =>
    have HR : Hid (dropR T id = (8, T)) := Kit.hid (by unfold dropR; rw [if_pos (.inr (by rw [h3]; simp))])
    go_wp2
    go_ret
    rw [HR.out]
    exact ⟨rfl, HM.out _ HB1.out⟩
  | true =>
    have A3 := Kit.hid h3
    obtain ⟨old, ho⟩ := HT.out.2.1.has_get h3 A1.out
    have HO := Kit.hid ho
    have hK1 := HT.out.below HB1.out
    obtain ⟨f, hm, hf⟩ := hK1.1.entry id
    rcases hf with ⟨e1, _⟩ | ⟨q', A, c, e1, e2, _, e4⟩
    · unfold parF at e1; rw [if_neg A1.out, ho] at e1; cases e1
    have HMB := Kit.hid hm
    have x1 := blk_cell hK1.1.1 0
    have HLK : Hid ((if false = true then Value.tuple #[(f id).getD (.agg #[.int .i64 0, .slice none 0 0]), .bool (f id).isSome] else (f id).getD (.agg #[.int .i64 0, .slice none 0 0])) = .agg #[.int .i64 q', .slice A (kids T id).length c]) := Kit.hid (by simp [e2])
    have HUN := Kit.hid (unlink_kt hK1 (by omega) ho)
    have hkl : (kids T id).length ≤ 4000 := by omega
    have N12 : Hid (¬ (id = 0 ∨ ¬ has T id = true)) := Kit.hid (by rintro (e | e); exact A1.out e; exact e A3.out)
    obtain ⟨k, hk⟩ : ∃ k, k = (kids T id).length := ⟨_, rfl⟩
    rw [← hk] at HLK hkl
    have HK := Kit.hid hk
    clear hm e1 e2 e4 hK1 ho h3 hk
    by_cases h5 : 0 < k
    · have HR : Hid (dropR T id = (12, T)) := Kit.hid (by unfold dropR; rw [if_neg N12.out, if_pos (by rw [← HK.out]; exact h5)])
      have g2 : decide ((0 : Int) < (k : Int)) = true := decide_eq_true (by omega)
      go_wp2_with (at_lookup; refine wpList_lookV rfl _ _ 51 false rfl 3 50 keyedK Try.underlying51 _ (zero_node _) mb n f rfl HMB.out id rfl HKI.out _ HLK.out ?_)
      go_ret
      rw [HR.out]
      exact ⟨rfl, HM.out _ HB1.out⟩
    · have HR : Hid (dropR T id = (0, del T id)) := Kit.hid (by unfold dropR; rw [if_neg N12.out, if_neg (by rw [← HK.out]; exact h5)])
      have g2 : decide ((0 : Int) < (k : Int)) = false := decide_eq_false (by omega)
      go_wp2_with (at_lookup; refine wpList_lookV rfl _ _ 51 false rfl 3 50 keyedK Try.underlying51 _ (zero_node _) mb n f rfl HMB.out id rfl HKI.out _ HLK.out ?_)
      (with_reducible refine HUN.out.mono ?_); rintro e w2 ⟨rfl, hk2, hp2⟩
      have x2 := blk_cell hk2.1 0
      obtain ⟨f2, hm2, hst2⟩ := hk2.strike
      obtain ⟨w3, hrun, hm3, hg3⟩ := hm2.drop (ty := 0) keyedK Try.underlying51 HKI.out
      have HK3 : Hid (KM w3 p mb (fun j => if j = id then none else parF T j) (kids (del T id)) (n + 1)) := Kit.hid (hst2 w3 id hm3 hg3)
      have HKP : Hid (Kp mb w w3) := Kit.hid (((Kp.of_below HB1.out).trans hp2).trans (Kp.grown hg3))
      have HKT : Hid (KT w3 p mb (del T id) (n + 2)) := Kit.hid (by
        have hw := HT.out.2.1
        refine ⟨(HK3.out.congr (fun j => ?_) (fun j q _ => rfl)).more (by omega), hw.drop (List.eq_nil_of_length_eq_zero (by rw [← HK.out]; omega)) A1.out, by omega, Nat.le_trans (del_len _ _) (by have := HT.out.2.2.2; omega)⟩
        unfold parF
        rw [get_del hw.rises]
        by_cases e0 : j = 0
        · rw [if_pos e0, if_neg (by rw [e0]; exact fun e => A1.out e.symm), if_pos e0]
        · rw [if_neg e0, if_neg e0])
      clear hk2 hp2 hm2 hst2 hm3 hg3 HMB HUN
      go_wp2
      go_ret
      rw [HR.out]
      exact ⟨rfl, HKT.out, HKP.out⟩
set_option maxRecDepth 8000 in
set_option maxHeartbeats 1600000 in
theorem move_any (h : KT w p mb T n) (hn : n ≤ 4000) (id par : Int) (hi1 : -9223372036854775808 ≤ id) (hi2 : id ≤ 9223372036854775807) (hj1 : -9223372036854775808 ≤ par) (hj2 : par ≤ 9223372036854775807) :
    Calls Try.prog 12 #[.pointer (some ⟨p, 0, none⟩), .int .i64 id, .int .i64 par] w fun e w' => e = .returned (.int .i64 (moveR T id par).1) ∧ KT w' p mb (moveR T id par).2 (n + 3) ∧ Kp mb w w' := by
  have HT := Kit.hid h
  have HM : Hid (∀ w', Below w.heap.size w w' → KT w' p mb T (n + 3) ∧ Kp mb w w') := Kit.hid (fun w' hb => ⟨(HT.out.below hb).more (by omega) (by omega), Kp.of_below hb⟩)
  have HH1 := Kit.hid (kt_has h id hi1 hi2)
  have HH2 : Hid (∀ w', Below w.heap.size w w' → Calls Try.prog 21 #[.pointer (some ⟨p, 0, none⟩), .int .i64 par] w' fun e w'' => e = .returned (.bool (has T par)) ∧ Below w'.heap.size w' w'') := Kit.hid (fun w' hb => kt_has (HT.out.below hb) par hj1 hj2)
  have HPT : Hid (∀ w', Below w.heap.size w w' → Calls Try.prog 28 #[.pointer (some ⟨p, 0, none⟩), .int .i64 par] w' fun e w'' => ∃ v, e = .returned v ∧ Row w'.heap.size w'' v (path T par) ∧ Below w'.heap.size w' w'') := Kit.hid (fun w' hb => path_any (HT.out.below hb) par hj1 hj2)
  have HUT : Hid (∀ w', Below w.heap.size w w' → Calls Try.prog 19 #[.pointer (some ⟨p, 0, none⟩), .int .i64 id] w' fun e w'' => ∃ v, e = .returned v ∧ Row w'.heap.size w'' v (under T id) ∧ Below w'.heap.size w' w'') := Kit.hid (fun w' hb => under_any (HT.out.below hb) id hi1 hi2)
  have HTT : Hid (∀ w', Below w.heap.size w w' → Calls Try.prog 13 #[.pointer (some ⟨p, 0, none⟩), .int .i64 id] w' fun e w'' => e = .returned (.int .i64 (tall T id)) ∧ Below w'.heap.size w' w'') := Kit.hid (fun w' hb => tall_any (HT.out.below hb) id hi1 hi2)
  clear h
  go_enter Try.func12, Try.ntmps12
  by_cases a1 : id = 0
  · have HR : Hid (moveR T id par = (8, T)) := Kit.hid (by unfold moveR; rw [if_pos (.inl a1)])
    have g1 : (id == 0) = true := by simp [a1]
    clear a1
    go_wp2
    go_ret
    rw [HR.out]
    exact ⟨rfl, HM.out _ (Below.refl _ _)⟩
  have g1 : (id == 0) = false := beq_eq_false_iff_ne.2 a1
  have A1 := Kit.hid a1
  clear a1
  go_wp2_with fail
  (with_reducible refine HH1.out.mono ?_); rintro e w1 ⟨rfl, hb1⟩
  have HB1 := Kit.hid hb1
  clear hb1 HH1
  cases h3 : has T id with
  | false =>
    have HR : Hid (moveR T id par = (8, T)) := Kit.hid (by unfold moveR; rw [if_pos (.inr (.inl (by rw [h3]; simp)))])
    go_wp2
    go_ret
    rw [HR.out]
    exact ⟨rfl, HM.out _ HB1.out⟩
  | true =>
    have A3 := Kit.hid h3
    have HC2 := Kit.hid (HH2.out _ HB1.out)
    clear h3
    go_wp2_with fail
    (with_reducible refine HC2.out.mono ?_); rintro e w2 ⟨rfl, hb2⟩
    have HB2 := Kit.hid (HB1.out.trans (hb2.mono HB1.out.size))
    clear hb2 HC2
    cases h4 : has T par with
    | false =>
      have HR : Hid (moveR T id par = (8, T)) := Kit.hid (by unfold moveR; rw [if_pos (.inr (.inr (by rw [h4]; simp)))])
      go_wp2
      go_ret
      rw [HR.out]
      exact ⟨rfl, HM.out _ HB2.out⟩
    | true =>
      have A4 := Kit.hid h4
      have N123 : Hid (¬ (id = 0 ∨ ¬ has T id = true ∨ ¬ has T par = true)) := Kit.hid (by rintro (e | e | e); exact A1.out e; exact e A3.out; exact e A4.out)
      have HC3 := Kit.hid (HUT.out _ HB2.out)
      clear h4
      go_wp2_with fail
      (with_reducible refine HC3.out.mono ?_); rintro e w3 ⟨vu, rfl, hru, hb3⟩
      have HB3 := Kit.hid (HB2.out.trans (hb3.mono HB2.out.size))
      have HCT := Kit.hid (contains_row hru par (by have := under_len HT.out.2.1 id; have := HT.out.2.2.2; have := HT.out.2.2.1; omega))
      clear hru hb3 HC3
      cases h5 : (under T id).contains par with
      | true =>
        rw [h5] at HCT
        have HR : Hid (moveR T id par = (11, T)) := Kit.hid (by unfold moveR; rw [if_neg N123.out, if_pos h5])
        go_wp2_with fail
        (with_reducible refine HCT.out.mono ?_); rintro e w4 ⟨rfl, rfl⟩
        go_wp2
        go_ret
        rw [HR.out]
        exact ⟨rfl, HM.out _ HB3.out⟩
      | false =>
        rw [h5] at HCT
        have A5 : Hid (¬ (under T id).contains par = true) := Kit.hid (by rw [h5]; simp)
        have HC4 := Kit.hid (HPT.out _ HB3.out)
        clear h5
        go_wp2_with fail
        (with_reducible refine HCT.out.mono ?_); rintro e w4 ⟨rfl, rfl⟩
        go_wp2_with fail
        (with_reducible refine HC4.out.mono ?_); rintro e w5 ⟨vp, rfl, hrp, hb5⟩
        have HB5 := Kit.hid (HB3.out.trans (hb5.mono HB3.out.size))
        obtain ⟨Ap, cp, rfl, _, _, _⟩ := hrp.reads
        obtain ⟨k, hk⟩ : ∃ k, k = (path T par).length := ⟨_, rfl⟩
        have hk16 : k ≤ 16 := by rw [hk]; exact path_len HT.out.2.1 _
        rw [← hk]
        have HK := Kit.hid hk
        have HC5 := Kit.hid (HTT.out _ HB5.out)
        obtain ⟨t, ht⟩ : ∃ t, t = tall T id := ⟨_, rfl⟩
        have ht0 : 0 ≤ t := by rw [ht]; exact tall_nonneg A3.out
        have ht1 : t ≤ 16 := by
          rw [ht]
          refine tall_le A3.out (by omega) fun x hx => ?_
          have := HT.out.2.1.dep_le ((HT.out.2.1.mem_under A3.out).1 hx).1
          omega
        rw [← ht] at HC5
        have HTE := Kit.hid ht
        clear hrp hb5 HC4 hk ht
        go_wp2_with fail
        (with_reducible refine HC5.out.mono ?_); rintro e w6 ⟨rfl, hb6⟩
        have HB6 := Kit.hid (HB5.out.trans (hb6.mono HB5.out.size))
        clear hb6 HC5
        by_cases h6 : 16 < (k : Int) + 1 + t
        · have HR : Hid (moveR T id par = (10, T)) := Kit.hid (by unfold moveR; rw [if_neg N123.out, if_neg A5.out, if_pos (by rw [← HK.out, ← HTE.out]; exact h6)])
          have g6 : decide (16 < (k : Int) + 1 + t) = true := decide_eq_true h6
          go_wp2
          go_ret
          rw [HR.out]
          exact ⟨rfl, HM.out _ HB6.out⟩
        · have HR : Hid (moveR T id par = (0, ins (id, par) (del T id))) := Kit.hid (by unfold moveR; rw [if_neg N123.out, if_neg A5.out, if_neg (by rw [← HK.out, ← HTE.out]; exact h6)])
          have g6 : decide (16 < (k : Int) + 1 + t) = false := decide_eq_false h6
          obtain ⟨old, ho⟩ := HT.out.2.1.has_get A3.out A1.out
          have HO := Kit.hid ho
          have HUN := Kit.hid (unlink_kt (HT.out.below HB6.out) (by omega) ho)
          clear ho h6
          go_wp2_with fail
          (with_reducible refine HUN.out.mono ?_); rintro e w7 ⟨rfl, hk7, hp7⟩
          have HK7 := Kit.hid hk7
          have HP7 := Kit.hid ((Kp.of_below HB6.out).trans hp7)
          obtain ⟨qp, hq, hb1, hb2⟩ := parF_some HT.out.2.1 A4.out
          have hw := HT.out.2.1
          have hid := hw.pos HO.out
          have hne : id ≠ par := fun e => by
            subst e
            apply A5.out
            rw [List.contains_iff_mem, hw.under_eq A3.out]
            simp
          have HLN := Kit.hid (link_any HK7.out (by omega) id par qp hq (kids_lt (del_rs hw.rises id) _) (fun hm => by rw [mem_kids (del_rs hw.rises id), get_del hw.rises, if_pos rfl] at hm; cases hm) (fun hf => by unfold parF at hf; rw [if_neg (by omega), HO.out] at hf; cases hf) hne (by omega) (by omega) hb1 hb2)
          clear hk7 hp7 HUN hq hb1 hb2 hw hid hne
          go_wp2_with fail
          (with_reducible refine HLN.out.mono ?_); rintro e w8 ⟨rfl, hk8, hp8⟩
          have HP8 : Hid (Kp mb w w8) := Kit.hid (HP7.out.trans hp8)
          have HK8 : Hid (KT w8 p mb (ins (id, par) (del T id)) (n + 3)) := Kit.hid (by
            have hw := HT.out.2.1
            have hwm := hw.moveR id par
            rw [HR.out] at hwm
            have hnm : ∀ y ∈ del T id, y.1 ≠ id := fun y hy => (mem_del.1 hy).2
            refine ⟨hk8.congr (fun j => ?_) (fun j q _ => kids_ins (del_rs hw.rises id) hnm j), hwm, by omega, ?_⟩
            · unfold parF
              rw [get_ins (del_rs hw.rises id) hnm, get_del hw.rises]
              by_cases e0 : j = 0
              · rw [if_pos e0, if_neg (by rw [e0]; exact fun e => A1.out e.symm), if_pos e0]
              · rw [if_neg e0, if_neg e0]
                by_cases e1 : j = id
                · rw [if_pos e1, if_pos e1]
                · rw [if_neg e1, if_neg e1, if_neg e1]
            · rw [ins_len]
              have := del_len T id
              have := HT.out.2.2.2
              omega)
          clear hk8 hp8 HLN
          go_wp2
          go_ret
          rw [HR.out]
          exact ⟨rfl, HK8.out, HP8.out⟩
end
end Go.Proofs.Ytkhoiiinifdhcaa.Ki
