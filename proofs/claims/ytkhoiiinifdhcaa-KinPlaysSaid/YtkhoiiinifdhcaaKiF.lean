/- The walks of kin's Add, Drop, Move, New and Copy. -/
import Derived.Test.YtkhoiiinifdhcaaKiE
import Derived.WideLaws
namespace Go.Proofs.Ytkhoiiinifdhcaa.Ki
open Go.RowKit Go.Proofs.Ytkhoiiinifdhcaa.Kit Go.Proofs.Ytkhoiiinifdhcaa.KiM
set_option linter.unusedVariables false
set_option linter.unusedSimpArgs false
section
variable {w w' : World} {p mb n : Nat} {T : Tr}
theorem KM.obj {P : Int → Option Int} {K : Int → List Int} (h : KM w p mb P K n) : ∃ es clock, w.heap[mb]? = some (.map es clock) ∧ es.size ≤ n := by
  obtain ⟨h1, va, ⟨es, clock, hb, _, hs, _⟩, h3⟩ := h
  exact ⟨es, clock, hb, hs⟩
theorem KM.strike {P : Int → Option Int} {K : Int → List Int} (h : KM w p mb P K n) : ∃ f, MapV Try.prog 3 w mb f n ∧ ∀ (w'' : World) (j0 : Int),
    MapV Try.prog 3 w'' mb (fun j => if j = j0 then none else f j) n → w.grownBy w'' (some mb) → KM w'' p mb (fun j => if j = j0 then none else P j) K n := by
  have hlt := h.lt
  obtain ⟨h1, va, h2, h3⟩ := h
  obtain ⟨es, clock, hb⟩ := MapV.obj h2
  refine ⟨_, h2, fun w'' j0 hm hg => ⟨(hg.block p (blk_lt h1) (fun e => hlt.2.2 (Option.some.inj e))).trans h1, va, hm.congr fun j => ?_, fun j q hj => ?_⟩⟩
  · by_cases e : j = j0
    · simp [e]
    · simp [e]
  · by_cases e : j = j0
    · simp [e] at hj
    · simp only [e, if_false] at hj
      obtain ⟨k1, k2⟩ := h3 j q hj
      exact ⟨k1.same fun g hg' => hg.block g (k1.own_lt g hg').2 (fun e => row_ne k1 hb g hg' (Option.some.inj e)), k2⟩
theorem ins_len (x : Int × Int) : ∀ T : Tr, (ins x T).length = T.length + 1
  | [] => rfl
  | y :: T => by unfold ins; split <;> simp [ins_len x T]
theorem del_len (T : Tr) (id : Int) : (del T id).length ≤ T.length := List.length_filter_le _ _
theorem parF_some {T : Tr} (h : WF T) {id : Int} (hh : has T id = true) : ∃ q, parF T id = some q ∧ -9223372036854775808 ≤ id ∧ id ≤ 9223372036854775807 := by
  unfold parF
  by_cases e : id = 0
  · rw [if_pos e]; exact ⟨_, rfl, by omega, by omega⟩
  · rw [if_neg e]
    obtain ⟨q, hq⟩ := h.has_get hh e
    have := h.pos hq
    exact ⟨q, hq, by omega, by omega⟩
theorem kt_added {T : Tr} (hw : WF T) {id par : Int} (hn : get T id = none) (h0 : id ≠ 0) (hw' : WF (ins (id, par) T)) (hT : T.length ≤ n) (hn2 : n ≤ 99990)
    (h : KM w p mb (fun j => if j = id then some par else parF T j) (fun j => if j = par then insI id (kids T par) else kids T j) (n + 2)) : KT w p mb (ins (id, par) T) (n + 2) := by
  have hnm := hw.not_mem hn
  refine ⟨h.congr (fun j => ?_) (fun j q _ => kids_ins hw.rises hnm j), hw', by omega, by rw [ins_len]; omega⟩
  unfold parF
  by_cases e0 : j = 0
  · rw [if_pos e0, if_neg (by rw [e0]; exact fun e => h0 e.symm), if_pos e0]
  · rw [if_neg e0, if_neg e0, get_ins hw.rises hnm]
theorem link_kt (h : KT w p mb T n) (hn : n ≤ 99990) {id par : Int} (hni : get T id = none) (h1 : 1 ≤ id) (h2 : id ≤ 1048576) (hp : has T par = true) (hd : dep T par < 16) :
    Calls Try.prog 33 #[.pointer (some ⟨p, 0, none⟩), .int .i64 id, .int .i64 par] w fun e w' => e = .returned (.tuple #[]) ∧ KT w' p mb (ins (id, par) T) (n + 2) ∧ Kp mb w w' := by
  obtain ⟨qp, hq, hb1, hb2⟩ := parF_some h.2.1 hp
  have hne : id ≠ par := fun e => by subst e; rcases has_iff.1 hp with h3 | ⟨r, hr⟩; · omega
                                     · rw [hni] at hr; cases hr
  refine (link_any h.1 hn id par qp hq (kids_lt h.2.1.rises _) (fun hm => by rw [mem_kids h.2.1.rises, hni] at hm; cases hm) (fun hf => kids_none h.2.1 hf) hne (by omega) (by omega) hb1 hb2).mono fun e w' hh => ⟨hh.1, ?_, hh.2.2⟩
  exact kt_added h.2.1 hni (by omega) (h.2.1.add h1 h2 hni hp hd) h.2.2.2 hn hh.2.1
set_option maxRecDepth 8000 in
set_option maxHeartbeats 1600000 in
theorem add_any (h : KT w p mb T n) (hn : n ≤ 4000) (id par : Int) (hi1 : -9223372036854775808 ≤ id) (hi2 : id ≤ 9223372036854775807) (hj1 : -9223372036854775808 ≤ par) (hj2 : par ≤ 9223372036854775807) :
    Calls Try.prog 11 #[.pointer (some ⟨p, 0, none⟩), .int .i64 id, .int .i64 par] w fun e w' => e = .returned (.int .i64 (addR T id par).1) ∧ KT w' p mb (addR T id par).2 (n + 2) ∧ Kp mb w w' := by
  have HT := Kit.hid h
  have HM : Hid (∀ w', Below w.heap.size w w' → KT w' p mb T (n + 2) ∧ Kp mb w w') := Kit.hid (fun w' hb => ⟨(HT.out.below hb).more (by omega) (by omega), Kp.of_below hb⟩)
  have HH1 := Kit.hid (kt_has h id hi1 hi2)
  have HH2 : Hid (∀ w', Below w.heap.size w w' → Calls Try.prog 21 #[.pointer (some ⟨p, 0, none⟩), .int .i64 par] w' fun e w'' => e = .returned (.bool (has T par)) ∧ Below w'.heap.size w' w'') := Kit.hid (fun w' hb => kt_has (HT.out.below hb) par hj1 hj2)
  have HPT : Hid (∀ w', Below w.heap.size w w' → Calls Try.prog 28 #[.pointer (some ⟨p, 0, none⟩), .int .i64 par] w' fun e w'' => ∃ v, e = .returned v ∧ Row w'.heap.size w'' v (path T par) ∧ Below w'.heap.size w' w'') := Kit.hid (fun w' hb => path_any (HT.out.below hb) par hj1 hj2)
  have HPB : Hid (∀ w', Below w.heap.size w w' → w'.cell? ⟨p, 0, none⟩ = some (.map (some mb))) := Kit.hid (fun w' hb => blk_cell (HT.out.below hb).1.1 0)
  have hi1' := hi1
  clear h hj1 hj2
  go_enter Try.func11, Try.ntmps11
  by_cases a1 : id < 1
  · have HR : Hid (addR T id par = (1, T)) := Kit.hid (by unfold addR; rw [if_pos (.inl a1)])
    go_wp2
    go_ret
    rw [HR.out]
    exact ⟨rfl, HM.out _ (Below.refl _ _)⟩
  by_cases a2 : 1048576 < id
  · have HR : Hid (addR T id par = (1, T)) := Kit.hid (by unfold addR; rw [if_pos (.inr a2)])
    have g1 : decide (id < 1) = false := decide_eq_false a1
    go_wp2
    go_ret
    rw [HR.out]
    exact ⟨rfl, HM.out _ (Below.refl _ _)⟩
  have g1 : decide (id < 1) = false := decide_eq_false a1
  have g2 : decide (1048576 < id) = false := decide_eq_false a2
  have A12 : Hid (¬ (id < 1 ∨ 1048576 < id)) := Kit.hid (by omega)
  clear a1 a2
  go_wp2_with fail
  (with_reducible refine HH1.out.mono ?_); rintro e w1 ⟨rfl, hb1⟩
  have HB1 := Kit.hid hb1
  clear hb1 HH1
  cases h3 : has T id with
  | true =>
    have HR : Hid (addR T id par = (9, T)) := Kit.hid (by unfold addR; rw [if_neg A12.out, if_pos h3])
    go_wp2
    go_ret
    rw [HR.out]
    exact ⟨rfl, HM.out _ HB1.out⟩
  | false =>
    have HC2 := Kit.hid (HH2.out _ HB1.out)
    have A3 : Hid (¬ has T id = true) := Kit.hid (by rw [h3]; simp)
    clear h3
    go_wp2_with fail
    (with_reducible refine HC2.out.mono ?_); rintro e w2 ⟨rfl, hb2⟩
    have HB2 := Kit.hid (HB1.out.trans (hb2.mono HB1.out.size))
    clear hb2 HC2
    cases h4 : has T par with
    | false =>
      have HR : Hid (addR T id par = (8, T)) := Kit.hid (by unfold addR; rw [if_neg A12.out, if_neg A3.out, if_pos (by rw [h4]; simp)])
      go_wp2
      go_ret
      rw [HR.out]
      exact ⟨rfl, HM.out _ HB2.out⟩
    | true =>
      have A4 : Hid (¬ ¬ has T par = true) := Kit.hid (by rw [h4]; simp)
      clear h4
      obtain ⟨es, clock, hes, hsz⟩ := (HT.out.below HB2.out).1.obj
      have hlen : (Builtin.len_ #[51] 3 #[.map (some mb)]).run Try.prog w2 = .ok (.int .i64 (es.size : Int)) w2 := run_len_map _ _ _ _ es clock (by kernel_rfl) hes
      have x2 := HPB.out _ HB2.out
      have g5 : decide ((4096 : Int) < (es.size : Int)) = false := decide_eq_false (by omega)
      have HC3 := Kit.hid (HPT.out _ HB2.out)
      clear hes
      go_wp2_with fail
      (with_reducible refine HC3.out.mono ?_); rintro e w3 ⟨vp, rfl, hrp, hb3⟩
      have HB3 := Kit.hid (HB2.out.trans (hb3.mono HB2.out.size))
      obtain ⟨Ap, cp, rfl, _, _, _⟩ := hrp.reads
      obtain ⟨k, hk⟩ : ∃ k, k = (path T par).length := ⟨_, rfl⟩
      rw [← hk]
      have HK := Kit.hid hk
      clear hrp hb3 HC3 hlen x2 hk
      by_cases h5 : 16 ≤ k
      · have HR : Hid (addR T id par = (10, T)) := Kit.hid (by unfold addR; rw [if_neg A12.out, if_neg A3.out, if_neg A4.out, if_pos (by rw [← HK.out]; exact h5)])
        have g6 : decide ((16 : Int) ≤ (k : Int)) = true := decide_eq_true (by omega)
        go_wp2
        go_ret
        rw [HR.out]
        exact ⟨rfl, HM.out _ HB3.out⟩
      · have HR : Hid (addR T id par = (0, ins (id, par) T)) := Kit.hid (by unfold addR; rw [if_neg A12.out, if_neg A3.out, if_neg A4.out, if_neg (by rw [← HK.out]; exact h5)])
        have g6 : decide ((16 : Int) ≤ (k : Int)) = false := decide_eq_false (by omega)
        have HL := Kit.hid (link_kt (HT.out.below HB3.out) (by omega) (id := id) (par := par) (has_false A3.out).2 (by have := A12.out; omega) (by have := A12.out; omega) (Classical.not_not.1 A4.out) (by unfold dep; rw [← HK.out]; omega))
        go_wp2_with fail
        (with_reducible refine HL.out.mono ?_); rintro e w4 ⟨rfl, hk4, hp4⟩
        have HK4 := Kit.hid hk4
        have HP4 : Hid (Kp mb w w4) := Kit.hid ((Kp.of_below HB3.out).trans hp4)
        clear hk4 hp4 HL
        go_wp2
        go_ret
        rw [HR.out]
        exact ⟨rfl, HK4.out, HP4.out⟩
set_option maxRecDepth 8000 in
set_option maxHeartbeats 1600000 in
theorem kin_new (w : World) :
    Calls Try.prog 10 #[] w fun e w' => ∃ p mb, e = .returned (.pointer (some ⟨p, 0, none⟩)) ∧ w.heap.size ≤ p ∧ w.heap.size ≤ mb ∧ KT w' p mb [] 1 ∧ Below w.heap.size w w' := by
  have hm0 := mapV_made w Try.prog 3
  obtain ⟨w2, hrun, hm2, hg2⟩ := hm0.store keyedK Try.underlying51 (by unfold maxLen; omega) (.agg #[.int .i64 (-1), .slice none 0 0]) (int_key Try.underlying3 (i := 0) (by omega) (by omega))
  have hmk := run_makeMap (P := Try.prog) 51 w
  have hb1 : Below w.heap.size w (w.alloc (.map #[] 0)) := (Below.refl _ _).alloc (Nat.le_refl _) _
  have hb2 : Below w.heap.size w w2 := hb1.grown hg2 hb1.size (fun k hk => by cases hk; exact Nat.le_refl _)
  have HB2 := Kit.hid hb2
  have HM2 := Kit.hid hm2
  clear hm2 hg2 hb1 hb2 hm0
  go_enter Try.func10, Try.ntmps10
  go_wp2
  go_ret
  have hb3 : Below w2.heap.size w2 (w2.alloc (.cells #[.map (some w.heap.size)] 53)) := (Below.refl _ _).alloc (Nat.le_refl _) _
  refine ⟨w2.heap.size, w.heap.size, rfl, HB2.out.size, Nat.le_refl _, ⟨⟨blk_new _ _, fun _ => .slice none 0 0, (HM2.out.same (hb3.block _ HM2.out.lt)).congr fun j => ?_, fun j q hj => ⟨row_nil _ _, by simp [kids]⟩⟩, WF.nil, by omega, by simp⟩, HB2.out.trans (hb3.mono HB2.out.size)⟩
  unfold parF
  by_cases e : j = 0
  · simp [e, nodeV]
  · simp [e, KiM.get]
theorem copy_any (h : KT w p mb T n) :
    Calls Try.prog 32 #[.pointer (some ⟨p, 0, none⟩)] w fun e w' => ∃ p' mb', e = .returned (.pointer (some ⟨p', 0, none⟩)) ∧ w.heap.size ≤ p' ∧ w.heap.size ≤ mb' ∧ KT w' p' mb' T n ∧ Below w.heap.size w w' := by
  have HT := Kit.hid h
  have hp0 := blk_cell h.1.1 0
  obtain ⟨h1, va, ⟨es, clock, hb, hF, hs, hf⟩, h3⟩ := h.1
  have HC := Kit.hid (copy_map hb)
  have HFI := Kit.hid (And.intro hF (And.intro hs hf))
  have H3 := Kit.hid h3
  clear h h1 hb hF hs hf h3
  go_enter Try.func32, Try.ntmps32
  go_wp2_with fail
  (with_reducible refine HC.out.mono ?_); rintro e w2 ⟨rfl, hw2⟩
  have hb2 : Below w.heap.size w w2 := by rw [hw2]; exact (Below.refl _ _).alloc (Nat.le_refl _) _
  have HB2 := Kit.hid hb2
  have HN2 : Hid (w2.heap[w.heap.size]? = some (.map es clock)) := Kit.hid (by rw [hw2]; exact blk_new _ _)
  clear hw2 hb2
  go_wp2
  go_ret
  have hb3 : Below w2.heap.size w2 (w2.alloc (.cells #[.map (some w.heap.size)] 53)) := (Below.refl _ _).alloc (Nat.le_refl _) _
  have hb4 := HB2.out.trans (hb3.mono HB2.out.size)
  refine ⟨w2.heap.size, w.heap.size, rfl, HB2.out.size, Nat.le_refl _, ⟨⟨blk_new _ _, va, ⟨es, clock, blk_below HN2.out hb3, HFI.out⟩, fun j q hj => ?_⟩, HT.out.2⟩, hb4⟩
  obtain ⟨k1, k2⟩ := H3.out j q hj
  exact ⟨k1.below hb4, k2⟩
end
end Go.Proofs.Ytkhoiiinifdhcaa.Ki
