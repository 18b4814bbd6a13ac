/- The law ShelfBack. -/
import Derived.Test.YtgcmblklalcpgaaShX
namespace Go.Proofs.Ytgcmblklalcpgaa.ShM
set_option linter.unusedSimpArgs false
theorem dropL_ins (x : It) (l : List It) : dropL x (insL x l) = dropL x l := by
  induction l with
  | nil => simp [insL, dropL]
  | cons y l ih =>
    simp only [insL]
    split
    · simp [dropL]
    · unfold dropL at ih ⊢
      simp only [List.filter_cons, ih]
theorem dropL_put (x : It) (l : List It) : dropL x (putL x l) = dropL x l := by
  unfold putL
  split
  · rfl
  · exact dropL_ins x l
theorem putL_mem (x : It) (l : List It) : x ∈ putL x l := by
  unfold putL
  split
  · assumption
  · rw [insL_mem]; exact .inl rfl
theorem putL_twice (x : It) (l : List It) : putL x (putL x l) = putL x l := by
  rw [putL, if_pos (putL_mem x l)]
theorem dropL_not (x : It) (l : List It) : x ∉ dropL x l := by
  intro h
  have := (List.mem_filter.1 h).2
  simp at this
theorem putL_length (x : It) (l : List It) : (putL x l).length = if x ∈ l then l.length else l.length + 1 := by
  unfold putL
  split
  · rfl
  · exact insL_length x l
theorem dropL_length (x : It) : ∀ l : List It, Rises l → x ∈ l → (dropL x l).length + 1 = l.length
  | [], _, h => by cases h
  | y :: l, hr, h => by
    obtain ⟨h1, h2⟩ := List.pairwise_cons.1 hr
    by_cases e : y = x
    · subst e
      have hn : y ∉ l := fun hm => by have := h1 y hm; simp [less] at this
      have e2 : dropL y (y :: l) = dropL y l := by simp [dropL]
      rw [e2, dropL_none hn]
      rfl
    · have hm : x ∈ l := (List.mem_cons.1 h).resolve_left (fun q => e q.symm)
      have e2 : dropL x (y :: l) = y :: dropL x l := by simp [dropL, e]
      rw [e2]
      simp [dropL_length x l h2 hm]
end Go.Proofs.Ytgcmblklalcpgaa.ShM
namespace Go.Proofs.Ytgcmblklalcpgaa.Sh
open Go.RowKit Go.Proofs.Ytgcmblklalcpgaa.Kit Go.Proofs.Ytgcmblklalcpgaa.ShM
set_option linter.unusedVariables false
set_option linter.unusedSimpArgs false
theorem below_over {S : Nat → Prop} {w1 w3 w' : World} (h : Below w1.heap.size w1 w3) (k : Kept S w3 w') (hs : ∀ b, S b → w1.heap.size ≤ b) : Below w1.heap.size w1 w' :=
  ⟨k.os.trans h.os, k.tape.trans h.tape, k.output.trans h.output, Nat.le_trans h.size k.size, fun b hb => (k.block b (Nat.lt_of_lt_of_le hb h.size) (fun n => by have := hs b n; omega)).trans (h.block b hb)⟩
set_option maxHeartbeats 3200000 in
theorem backLaw_any (A : Option Addr) (ops : List OpM) (cap : Nat) (x : It) (w : World) (hr : Hid (OpRow w A ops)) (hl : ops.length ≤ 9223372036854775807) :
    Calls Try.prog 8 #[.slice A ops.length cap, .agg #[.int .i64 x.key, .int .i64 x.id]] w fun e w' => e = .returned (.bool true) ∧ Below w.heap.size w w' := by
  have HAW := Kit.hid awake_any
  obtain ⟨W0, hW0⟩ : ∃ W0, W0 = w.alloc (.cells #[.int .i64 x.key, .int .i64 x.id] 24) := ⟨_, rfl⟩
  have hb0 : Below w.heap.size w W0 := by rw [hW0]; exact (Below.refl _ w).alloc (Nat.le_refl _) _
  have hx0 : W0.heap[w.heap.size]? = some (.cells #[.int .i64 x.key, .int .i64 x.id] 24 (0, 0)) := by rw [hW0]; exact World.alloc_heap_new w _
  have HR := hr
  clear hr
  go_enter Try.func8, Try.ntmps8
  go_wp2_with fail
  rw [← hW0]
  clear hW0
  (with_reducible refine (HAW.out W0).mono ?_); rintro e w1 ⟨rfl, hd1⟩
  have hx1 := (hd1.block _ (blk_lt hx0)).trans hx0
  have hb1 : Below w.heap.size w w1 := hb0.trans (hd1.mono hb0.size)
  have hr1 := oprow_below HR hb1
  have HB1 := Kit.hid hb1
  have HX1 := Kit.hid hx1
  clear hx0 hx1 hb1 hd1 hb0 HAW HR
  by_cases hbig : 100 < ops.length
  · have g1 : (100 : Int) < (ops.length : Int) := by omega
    clear hbig
    go_wp2
    go_ret
    exact ⟨rfl, HB1.out⟩
  have g1 : ¬ (100 : Int) < (ops.length : Int) := by omega
  have hops : ops.length ≤ 100 := by omega
  clear hbig hl
  have HWK := Kit.hid (walked_any A ops cap w1 hr1 (by omega))
  obtain ⟨l, hl'⟩ : ∃ l, l = walkedL ops := ⟨_, rfl⟩
  rw [← hl'] at HWK
  clear hl' hr1
  unfold WalkedPost at HWK
  go_wp2_with fail
  (with_reducible refine HWK.out.mono ?_); rintro e w2 ⟨g, rfl, hg, hi2⟩
  have HI2 := Kit.hid hi2
  have HLE := Kit.hid hi2.length
  have HT2 := Kit.hid (told_any hi2 (by omega))
  clear hi2 HWK
  go_wp2_with fail
  (with_reducible refine HT2.out.mono ?_); rintro e w3 ⟨va, rfl, hva, hb3⟩
  obtain ⟨A3, c3, rfl, hc3, hn3, hA3⟩ := own_readsS (by decide) hva
  obtain ⟨S', hS1, hS2, hi3⟩ := items_self HI2.out hb3
  have HRA := itrow_cells hc3
  have hk13 : Below w1.heap.size w1 w3 := (HI2.out.kept.toBelow (fun k h => h.elim)).trans (hb3.mono (HI2.out.kept.toBelow (fun k h => h.elim)).size)
  have HK3 : Hid (∀ w' l' n, Items w3 S' w' g l' n → Below w1.heap.size w1 w') := Kit.hid (fun w' l' n h => below_over hk13 h.kept (fun k hk => by
    rcases hS2 k hk with h | h
    · exact h.elim
    · exact h))
  have HXX : Hid (∀ w' l' n, Items w3 S' w' g l' n → w'.cell? ⟨w.heap.size, 0, none⟩ = some (.int .i64 x.key) ∧ w'.cell? ⟨w.heap.size, 1, none⟩ = some (.int .i64 x.id) ∧ w.heap.size < w'.heap.size) := Kit.hid (fun w' l' n h => by
    have hb := HK3.out w' l' n h
    have hx := (hb.block _ (blk_lt HX1.out)).trans HX1.out
    exact ⟨blk_cell hx 0, blk_cell hx 1, blk_lt hx⟩)
  have HRW : Hid (∀ w' l' n, Items w3 S' w' g l' n → Hid (ItRow w' A3 l)) := Kit.hid (fun w' l' n h => itrow_same HRA (fun ad he => by
    rcases hA3 with ⟨h0, _⟩ | ⟨g', h0, h1, h2⟩
    · rw [h0] at he; cases he
    · rw [h0] at he
      cases he
      exact h.kept.block g' h2 (fun hs => by have := hS1 _ hs; omega)))
  have HI3 := Kit.hid hi3
  obtain ⟨x0, x1, xl⟩ := HXX.out _ _ _ hi3
  clear hva hc3 hn3 hA3 hS1 hS2 hi3 hk13 hb3 HT2 HRA HI2
  have hln := HLE.out
  obtain ⟨P, hP⟩ : ∃ P, P = putL x l := ⟨_, rfl⟩
  have hPl : P.length ≤ 102 := by rw [hP, putL_length]; split <;> omega
  have HPM : Hid (x ∈ P) := Kit.hid (by rw [hP]; exact putL_mem x l)
  have HPT : Hid (putL x P = P) := Kit.hid (by rw [hP]; exact putL_twice x l)
  have HPR : Hid (Rises l → Rises P) := Kit.hid (fun h => by rw [hP]; exact putL_rises h)
  have HPD : Hid (dropL x P = dropL x l) := Kit.hid (by rw [hP]; exact dropL_put x l)
  have HPL : Hid (P.length = if x ∈ l then l.length else l.length + 1) := Kit.hid (by rw [hP]; exact putL_length x l)
  have hdd : dropL x (dropL x P) = dropL x P := dropL_none (dropL_not x P)
  have HDD := Kit.hid hdd
  obtain ⟨b, hb⟩ : ∃ b, b = decide (x ∈ l) := ⟨_, rfl⟩
  have hnb : decide (x ∉ l) = !b := by rw [hb]; simp
  have HA4 := Kit.hid (items_has x HI3.out (by omega))
  rw [← hb] at HA4
  have HRS := Kit.hid (HI3.out.rises)
  have HPU : Hid (∀ w' n, Items w3 S' w' g l n → n ≤ 1000 → Calls Try.prog 17 #[.pointer (some ⟨g, 0, none⟩), .agg #[.int .i64 x.key, .int .i64 x.id]] w' fun e w'' => e = .returned (.bool (!b)) ∧ Items w3 S' w'' g P (n + 1)) := Kit.hid (fun w' n h hn => by
    have := items_put x h (by omega)
    rw [hnb, ← hP] at this
    exact this)
  have HPV : Hid (∀ w' n, Items w3 S' w' g P n → n ≤ 1000 → Calls Try.prog 17 #[.pointer (some ⟨g, 0, none⟩), .agg #[.int .i64 x.key, .int .i64 x.id]] w' fun e w'' => e = .returned (.bool false) ∧ Items w3 S' w'' g P (n + 1)) := Kit.hid (fun w' n h hn => by
    have := items_put x h (by omega)
    rw [HPT.out, decide_eq_false (fun h => h HPM.out)] at this
    exact this)
  have HDR : Hid (∀ w' n, Items w3 S' w' g P n → n ≤ 1000 → Calls Try.prog 21 #[.pointer (some ⟨g, 0, none⟩), .agg #[.int .i64 x.key, .int .i64 x.id]] w' fun e w'' => e = .returned (.bool true) ∧ Items w3 S' w'' g (dropL x l) n) := Kit.hid (fun w' n h hn => by
    have := items_drop x h (by omega)
    rw [HPD.out, decide_eq_true HPM.out] at this
    exact this)
  have HDS : Hid (∀ w' n, Items w3 S' w' g (dropL x l) n → n ≤ 1000 → Calls Try.prog 21 #[.pointer (some ⟨g, 0, none⟩), .agg #[.int .i64 x.key, .int .i64 x.id]] w' fun e w'' => e = .returned (.bool false) ∧ Items w3 S' w'' g (dropL x l) n) := Kit.hid (fun w' n h hn => by
    have := items_drop x h (by omega)
    rw [dropL_none (dropL_not x l), decide_eq_false (dropL_not x l)] at this
    exact this)
  have HLN : Hid (∀ w' n, Items w3 S' w' g P n → Calls Try.prog 13 #[.pointer (some ⟨g, 0, none⟩)] w' fun e w'' => e = .returned (.int .i64 (P.length : Int)) ∧ ∃ m, w'' = w'.drewN m) := Kit.hid (fun w' n h => items_len h)
  have HHS : Hid (∀ w' n, Items w3 S' w' g (dropL x l) n → n ≤ 1000 → Calls Try.prog 24 #[.pointer (some ⟨g, 0, none⟩), .agg #[.int .i64 x.key, .int .i64 x.id]] w' fun e w'' => e = .returned (.bool false) ∧ Below w'.heap.size w' w'') := Kit.hid (fun w' n h hn => by
    have := items_has x h (by omega)
    rw [decide_eq_false (dropL_not x l)] at this
    exact this)
  have HBD := Kit.hid hb
  clear hnb hP hdd hb
  go_wp2_with fail
  (with_reducible refine HA4.out.mono ?_); rintro e w4 ⟨rfl, hb4⟩
  have HI4 := Kit.hid (HI3.out.below hb4)
  clear hb4 x0 x1 xl
  obtain ⟨x0, x1, xl⟩ := HXX.out _ _ _ HI4.out
  go_wp2_with fail
  (with_reducible refine (HPU.out _ _ HI4.out (by omega)).mono ?_); rintro e w5 ⟨rfl, hi5⟩
  have HI5 := Kit.hid hi5
  clear hi5 x0 x1 xl
  obtain ⟨x0, x1, xl⟩ := HXX.out _ _ _ HI5.out
  go_wp2_with fail
  (with_reducible refine (HPV.out _ _ HI5.out (by omega)).mono ?_); rintro e w6 ⟨rfl, hi6⟩
  have HI6 := Kit.hid hi6
  clear hi6 x0 x1 xl
  obtain ⟨x0, x1, xl⟩ := HXX.out _ _ _ HI6.out
  go_wp2_with fail
  (with_reducible refine (HLN.out _ _ HI6.out).mono ?_); rintro e w7 ⟨rfl, m7, rfl⟩
  have HI7 := Kit.hid (HI6.out.below (below_drewN (Below.refl _ _) m7))
  clear x0 x1 xl
  obtain ⟨x0, x1, xl⟩ := HXX.out _ _ _ HI7.out
  go_wp2_with fail
  (with_reducible refine (HDR.out _ _ HI7.out (by omega)).mono ?_); rintro e w8 ⟨rfl, hi8⟩
  have HI8 := Kit.hid hi8
  clear hi8 x0 x1 xl
  obtain ⟨x0, x1, xl⟩ := HXX.out _ _ _ HI8.out
  go_wp2_with fail
  (with_reducible refine (HDS.out _ _ HI8.out (by omega)).mono ?_); rintro e w9 ⟨rfl, hi9⟩
  have HI9 := Kit.hid hi9
  clear hi9 x0 x1 xl
  have HT9 := Kit.hid (told_any HI9.out (by omega))
  go_wp2_with fail
  (with_reducible refine HT9.out.mono ?_); rintro e w10 ⟨vb, rfl, hvb, hb10⟩
  obtain ⟨A10, c10, rfl, hc10, _, _⟩ := own_readsS (by decide) hvb
  have HRB := itrow_cells hc10
  have HI10 := Kit.hid (HI9.out.below hb10)
  obtain ⟨x0, x1, xl⟩ := HXX.out _ _ _ HI10.out
  clear hvb hc10 hb10 HT9
  have hPQ : ((P.length : Int) != ((dropL x l).length : Int) + 1) = false := by
    have := dropL_length x P (HPR.out HRS.out) HPM.out
    rw [HPD.out] at this
    simp
    omega
  have hq102 : (dropL x l).length ≤ 102 := by
    have := dropL_length x P (HPR.out HRS.out) HPM.out
    rw [HPD.out] at this
    omega
  have hbb : (!b == b) = false := by cases b <;> rfl
  go_wp2_with fail
  (with_reducible refine (HHS.out _ _ HI10.out (by omega)).mono ?_); rintro e w11 ⟨rfl, hb11⟩
  have HI11 := Kit.hid (HI10.out.below hb11)
  have HRB11 := Kit.hid (itrow_below HRB hb11)
  have HRA11 := HRW.out _ _ _ HI11.out
  have HD11 := Kit.hid (rdrop_any A3 l c3 x w11 HRA11 (by omega))
  clear x0 x1 xl hb11
  obtain ⟨x0, x1, xl⟩ := HXX.out _ _ _ HI11.out
  have HSM : Hid (∀ w' B cb, Hid (ItRow w' A10 (dropL x l)) → Hid (ItRow w' B (dropL x l)) → Calls Try.prog 27 #[.slice A10 (dropL x l).length c10, .slice B (dropL x l).length cb] w' fun e w'' => e = .returned (.bool true) ∧ ∃ m, w'' = w'.drewN m) := Kit.hid (fun w' B cb h1 h2 => by
    have := same_any A10 B (dropL x l) (dropL x l) c10 cb w' h1 h2 (by omega) (by omega)
    rw [decide_eq_true rfl] at this
    exact this)
  have HKF : Hid (∀ w', Below w11.heap.size w11 w' → Below w.heap.size w w') := Kit.hid (fun w' h => HB1.out.trans (((HK3.out _ _ _ HI11.out).trans (h.mono (HK3.out _ _ _ HI11.out).size)).mono HB1.out.size))
  go_wp2_with fail
  (with_reducible refine HD11.out.mono ?_); rintro e w12 ⟨vd, rfl, hvd, hb12⟩
  obtain ⟨A12, c12, rfl, hc12, _, _⟩ := own_readsS (by decide) hvd
  have HRD := itrow_cells hc12
  have HRB12 := itrow_below HRB11.out hb12
  have HB12 := Kit.hid hb12
  clear hvd hc12 hb12 HD11 x0 x1 xl
  go_wp2_with fail
  (with_reducible refine (HSM.out _ _ _ HRB12 HRD).mono ?_); rintro e w13 ⟨rfl, m13, rfl⟩
  have hend : Hid (Below w.heap.size w (w12.drewN m13)) := Kit.hid (HKF.out _ (below_drewN HB12.out m13))
  cases b
  · have g8 : ((P.length : Int) == (l.length : Int) + 1) = true := by
      have := HPL.out
      rw [if_neg (of_decide_eq_false HBD.out.symm)] at this
      rw [this]
      simp
    go_wp2
    go_ret
    exact ⟨rfl, hend.out⟩
  · go_wp2
    go_ret
    exact ⟨rfl, hend.out⟩
end Go.Proofs.Ytgcmblklalcpgaa.Sh
