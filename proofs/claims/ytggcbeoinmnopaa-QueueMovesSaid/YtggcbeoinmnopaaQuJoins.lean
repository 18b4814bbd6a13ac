/- The law QueueJoins. -/
import Derived.Test.YtggcbeoinmnopaaQuU
namespace Go.Proofs.Ytggcbeoinmnopaa.QuM
theorem joinL_mem {m y : Mem} {L : List Mem} {base : Int} : y ∈ joinL m L base ↔ (joinC m L base = 0 ∧ y = { m with v := base + m.v }) ∨ y ∈ L := by
  unfold joinL
  split
  · rename_i h
    have hn := (join_ok h).2.2.2.2.2.2.2.2
    rw [put_mem]
    constructor
    · rintro (h' | ⟨h', _⟩)
      · exact .inl ⟨h, h'⟩
      · exact .inr h'
    · rintro (⟨_, h'⟩ | h')
      · exact .inl h'
      · exact .inr ⟨h', fun e => get_none.1 hn y h' e⟩
  · rename_i h
    exact ⟨.inr, fun h' => h'.elim (fun h' => absurd h'.1 h) id⟩
theorem get_join {L : List Mem} (h : WQ L) {m : Mem} {base j : Int} (hj : j ≠ m.id) : get (joinL m L base) j = get L j := by
  unfold joinL
  split
  · rw [get_put h, if_neg hj]
  · rfl
theorem joinC_get {m : Mem} {L K : List Mem} {base : Int} (h : get L m.id = get K m.id) : joinC m L base = joinC m K base := by
  unfold joinC
  rw [h]
theorem join_comm {L : List Mem} (h : WQ L) {a b : Mem} {base : Int} (hab : a.id ≠ b.id) :
    joinC a (joinL b L base) base = joinC a L base ∧ joinC b (joinL a L base) base = joinC b L base ∧ joinL b (joinL a L base) base = joinL a (joinL b L base) base := by
  have h1 : joinC a (joinL b L base) base = joinC a L base := joinC_get (get_join h hab)
  have h2 : joinC b (joinL a L base) base = joinC b L base := joinC_get (get_join h hab.symm)
  refine ⟨h1, h2, wq_ext (join_wq (join_wq h _ _) _ _) (join_wq (join_wq h _ _) _ _) fun y => ?_⟩
  rw [joinL_mem, joinL_mem, joinL_mem, joinL_mem, h1, h2]
  constructor
  · rintro (h | h | h)
    · exact .inr (.inl h)
    · exact .inl h
    · exact .inr (.inr h)
  · rintro (h | h | h)
    · exact .inr (.inl h)
    · exact .inl h
    · exact .inr (.inr h)
end Go.Proofs.Ytggcbeoinmnopaa.QuM
namespace Go.Proofs.Ytggcbeoinmnopaa.Qu
open Go.RowKit Go.Proofs.Ytggcbeoinmnopaa.Kit Go.Proofs.Ytggcbeoinmnopaa.ShM Go.Proofs.Ytggcbeoinmnopaa.Sh Go.Proofs.Ytggcbeoinmnopaa.QuM
set_option linter.unusedVariables false
set_option linter.unusedSimpArgs false
set_option maxRecDepth 8000 in
set_option maxHeartbeats 4000000 in
theorem joinsLaw_any (A : Option Addr) (ops : List QOp) (cap : Nat) (a b : Mem) (w : World) (hr : Hid (QRow w A ops)) (hl : ops.length ≤ 9223372036854775807) (ha : -9223372036854775808 ≤ a.id ∧ a.id ≤ 9223372036854775807) (hb : -9223372036854775808 ≤ b.id ∧ b.id ≤ 9223372036854775807) :
    Calls Try.prog 7 #[.slice A ops.length cap, .agg #[.int .i64 a.id, .int .i64 a.wt, .int .i64 a.v, .int .i64 a.rem], .agg #[.int .i64 b.id, .int .i64 b.wt, .int .i64 b.v, .int .i64 b.rem]] w fun e w' => e = .returned (.bool true) ∧ Below w.heap.size w w' := by
  have HAW := Kit.hid qawake_any
  have hb0 : Below w.heap.size w ((w.alloc (.cells #[.int .i64 a.id, .int .i64 a.wt, .int .i64 a.v, .int .i64 a.rem] 32)).alloc (.cells #[.int .i64 b.id, .int .i64 b.wt, .int .i64 b.v, .int .i64 b.rem] 32)) := ((Below.refl _ _).alloc (Nat.le_refl _) _).alloc (by simp) _
  have ha0 : ((w.alloc (.cells #[.int .i64 a.id, .int .i64 a.wt, .int .i64 a.v, .int .i64 a.rem] 32)).alloc (.cells #[.int .i64 b.id, .int .i64 b.wt, .int .i64 b.v, .int .i64 b.rem] 32)).heap[w.heap.size]? = some (.cells #[.int .i64 a.id, .int .i64 a.wt, .int .i64 a.v, .int .i64 a.rem] 32 (0, 0)) := blk_alloc (blk_new _ _) _
  have hc0 : ((w.alloc (.cells #[.int .i64 a.id, .int .i64 a.wt, .int .i64 a.v, .int .i64 a.rem] 32)).alloc (.cells #[.int .i64 b.id, .int .i64 b.wt, .int .i64 b.v, .int .i64 b.rem] 32)).heap[w.heap.size + 1]? = some (.cells #[.int .i64 b.id, .int .i64 b.wt, .int .i64 b.v, .int .i64 b.rem] 32 (0, 0)) := by
    have := blk_new (w.alloc (.cells #[.int .i64 a.id, .int .i64 a.wt, .int .i64 a.v, .int .i64 a.rem] 32)) (.cells #[.int .i64 b.id, .int .i64 b.wt, .int .i64 b.v, .int .i64 b.rem] 32)
    simpa using this
  have HR := hr
  clear hr
  go_enter Try.func7, Try.ntmps7
  go_wp2_with fail
  generalize (w.alloc (.cells #[.int .i64 a.id, .int .i64 a.wt, .int .i64 a.v, .int .i64 a.rem] 32)).alloc (.cells #[.int .i64 b.id, .int .i64 b.wt, .int .i64 b.v, .int .i64 b.rem] 32) = W0 at hb0 ha0 hc0 ⊢
  (with_reducible refine (HAW.out W0).mono ?_); rintro e w1 ⟨rfl, hd1⟩
  have HB1 := Kit.hid (hb0.trans (hd1.mono hb0.size))
  have HA1 := Kit.hid (blk_below ha0 hd1)
  have HC1 := Kit.hid (blk_below hc0 hd1)
  have hr1 := qrow_below HR HB1.out
  clear hd1 HAW HR hb0 ha0 hc0
  by_cases hbig : 60 < ops.length
  · have g1 : (60 : Int) < (ops.length : Int) := by omega
    clear hbig
    go_wp2
    go_ret
    exact ⟨rfl, HB1.out⟩
  have g1 : ¬ (60 : Int) < (ops.length : Int) := by omega
  have hops : ops.length ≤ 60 := by omega
  clear hbig hl
  have HWK : Hid (∀ w', Hid (QRow w' A ops) → Calls Try.prog 17 #[.slice A ops.length cap] w' fun e w'' => ∃ p, e = .returned (.pointer (some ⟨p, 0, none⟩)) ∧ w'.heap.size ≤ p ∧ Qu w' (fun _ => False) w'' p (walkedQ ops).1 (walkedQ ops).2 (ops.length + 1)) := Kit.hid (fun w' h => qwalked_any A ops cap w' h (by omega))
  obtain ⟨HWQ, HQB⟩ := walkedQ_ok ops
  generalize walkedQ ops = s at HWK HWQ HQB
  obtain ⟨L, base⟩ := s
  dsimp only at HWK HWQ HQB
  have HWQ := Kit.hid HWQ
  have HQB := Kit.hid HQB
  go_wp2_with fail
  (with_reducible refine (HWK.out _ hr1).mono ?_); rintro e w2 ⟨q, rfl, hq, hq2⟩
  have hr2 := qrow_below hr1 (hq2.kept.toBelow fun k h => h.elim)
  have HQ2 := Kit.hid hq2
  clear hq2
  go_wp2_with fail
  (with_reducible refine (HWK.out _ hr2).mono ?_); rintro e w3 ⟨p, rfl, hp, hp3⟩
  have HT3 : Hid (TwoQ w1 w3 q L base (ops.length + 1) p L base (ops.length + 1)) := Kit.hid (twoq_new HQ2.out hp3)
  clear hp3 HQ2 HWK hr1 hr2 hq hp
  obtain ⟨n, hn⟩ : ∃ n, n = ops.length + 1 := ⟨_, rfl⟩
  rw [← hn] at HT3
  have HN : Hid (n ≤ 61) := Kit.hid (by omega)
  have HXA : Hid (∀ w' L b2 n K c k, TwoQ w1 w' q L b2 n p K c k → w'.heap[w.heap.size]? = some (.cells #[.int .i64 a.id, .int .i64 a.wt, .int .i64 a.v, .int .i64 a.rem] 32 (0, 0)) ∧ w'.heap[w.heap.size + 1]? = some (.cells #[.int .i64 b.id, .int .i64 b.wt, .int .i64 b.v, .int .i64 b.rem] 32 (0, 0))) := Kit.hid (fun w' L b' n K c k h => ⟨blk_below HA1.out h.to, blk_below HC1.out h.to⟩)
  have HJQ : Hid (∀ m L n K k w', TwoQ w1 w' q L base n p K base k → QB L base → n ≤ 1000 → -9223372036854775808 ≤ m.id → m.id ≤ 9223372036854775807 → Calls Try.prog 12 #[.pointer (some ⟨q, 0, none⟩), .agg #[.int .i64 (QuM.Mem.id m), .int .i64 (QuM.Mem.wt m), .int .i64 (QuM.Mem.v m), .int .i64 (QuM.Mem.rem m)]] w' fun e w'' => e = .returned (.int .i64 (joinC m L base)) ∧ TwoQ w1 w'' q (joinL m L base) base (n + 1) p K base k) := Kit.hid (fun m L n K k w' h hq hn h1 h2 => h.op fun F hf => join_any m hf hq (by omega) h1 h2)
  have HJP : Hid (∀ m L n K k w', TwoQ w1 w' q L base n p K base k → QB K base → k ≤ 1000 → -9223372036854775808 ≤ m.id → m.id ≤ 9223372036854775807 → Calls Try.prog 12 #[.pointer (some ⟨p, 0, none⟩), .agg #[.int .i64 (QuM.Mem.id m), .int .i64 (QuM.Mem.wt m), .int .i64 (QuM.Mem.v m), .int .i64 (QuM.Mem.rem m)]] w' fun e w'' => e = .returned (.int .i64 (joinC m K base)) ∧ TwoQ w1 w'' q L base n p (joinL m K base) base (k + 1)) := Kit.hid (fun m L n K k w' h hq hn h1 h2 => (h.symm.op fun F hf => join_any m hf hq (by omega) h1 h2).mono fun e w'' h => ⟨h.1, h.2.symm⟩)
  clear hn
  obtain ⟨x, y⟩ := HXA.out _ _ _ _ _ _ _ HT3.out
  have a0 := blk_cell x 0
  have a1 := blk_cell x 1
  have a2 := blk_cell x 2
  have a3 := blk_cell x 3
  have la := blk_lt x
  clear x y
  go_wp2_with fail
  (with_reducible refine (HJQ.out a _ _ _ _ _ HT3.out HQB.out (by have := HN.out; omega) ha.1 ha.2).mono ?_); rintro e w4 ⟨rfl, h4⟩
  have HT4 := Kit.hid h4
  clear h4 a0 a1 a2 a3 la
  obtain ⟨x, y⟩ := HXA.out _ _ _ _ _ _ _ HT4.out
  have b0 := blk_cell y 0
  have b1 := blk_cell y 1
  have b2 := blk_cell y 2
  have b3 := blk_cell y 3
  have lb := blk_lt y
  clear x y
  go_wp2_with fail
  (with_reducible refine (HJQ.out b _ _ _ _ _ HT4.out (HQB.out.join a) (by have := HN.out; omega) hb.1 hb.2).mono ?_); rintro e w5 ⟨rfl, h5⟩
  have HT5 := Kit.hid h5
  clear h5 b0 b1 b2 b3 lb
  obtain ⟨x, y⟩ := HXA.out _ _ _ _ _ _ _ HT5.out
  have b0 := blk_cell y 0
  have b1 := blk_cell y 1
  have b2 := blk_cell y 2
  have b3 := blk_cell y 3
  have lb := blk_lt y
  clear x y
  go_wp2_with fail
  (with_reducible refine (HJP.out b _ _ _ _ _ HT5.out HQB.out (by have := HN.out; omega) hb.1 hb.2).mono ?_); rintro e w6 ⟨rfl, h6⟩
  have HT6 := Kit.hid h6
  clear h6 b0 b1 b2 b3 lb
  obtain ⟨x, y⟩ := HXA.out _ _ _ _ _ _ _ HT6.out
  have a0 := blk_cell x 0
  have a1 := blk_cell x 1
  have a2 := blk_cell x 2
  have a3 := blk_cell x 3
  have la := blk_lt x
  clear x y
  go_wp2_with fail
  (with_reducible refine (HJP.out a _ _ _ _ _ HT6.out (HQB.out.join b) (by have := HN.out; omega) ha.1 ha.2).mono ?_); rintro e w7 ⟨rfl, h7⟩
  have HT7 := Kit.hid h7
  clear h7 a0 a1 a2 a3 la
  obtain ⟨x, y⟩ := HXA.out _ _ _ _ _ _ _ HT7.out
  have a0 := blk_cell x 0
  have la := blk_lt x
  have b0 := blk_cell y 0
  have lb := blk_lt y
  clear x y
  have HE7 := Kit.hid (HB1.out.trans (HT7.out.to.mono HB1.out.size))
  by_cases hab : a.id = b.id
  · have g2 : (a.id == b.id) = true := beq_iff_eq.2 hab
    go_wp2
    go_ret
    exact ⟨rfl, HE7.out⟩
  have g2 : (a.id == b.id) = false := beq_eq_false_iff_ne.2 hab
  obtain ⟨e1, e2, e3⟩ := join_comm (base := base) HWQ.out hab
  have HQM : Hid (QB (joinL b (joinL a L base) base) base) := Kit.hid ((HQB.out.join a).join b)
  have HLN : Hid ((joinL b (joinL a L base) base).length ≤ 63) := Kit.hid (by
    obtain ⟨F, hf⟩ := HT7.out.get
    have := hf.len
    have := HN.out
    omega)
  rw [← e3] at HT7
  rw [e1, e2]
  obtain ⟨M, hM⟩ : ∃ M, M = joinL b (joinL a L base) base := ⟨_, rfl⟩
  rw [← hM] at HT7 HQM HLN
  obtain ⟨ca, hca⟩ : ∃ ca, ca = joinC a L base := ⟨_, rfl⟩
  obtain ⟨cb, hcb⟩ : ∃ cb, cb = joinC b L base := ⟨_, rfl⟩
  rw [← hca, ← hcb]
  obtain ⟨n7, hn7⟩ : ∃ n7, n7 = n + 1 + 1 := ⟨_, rfl⟩
  have HN7 : Hid (n7 ≤ 63) := Kit.hid (by have := HN.out; omega)
  rw [← hn7] at HT7
  have HBQ : Hid (∀ w', TwoQ w1 w' q M base n7 p M base n7 → Calls Try.prog 16 #[.pointer (some ⟨q, 0, none⟩)] w' fun e w'' => e = .returned (.int .i64 base) ∧ Below w'.heap.size w' w'') := Kit.hid (fun w' h => by
    obtain ⟨F, hf⟩ := h.get
    exact base_any hf)
  have HBP : Hid (∀ w', TwoQ w1 w' q M base n7 p M base n7 → Calls Try.prog 16 #[.pointer (some ⟨p, 0, none⟩)] w' fun e w'' => e = .returned (.int .i64 base) ∧ Below w'.heap.size w' w'') := Kit.hid (fun w' h => by
    obtain ⟨F, hf⟩ := h.symm.get
    exact base_any hf)
  have HAQ : Hid (∀ w', TwoQ w1 w' q M base n7 p M base n7 → Calls Try.prog 13 #[.pointer (some ⟨q, 0, none⟩)] w' fun e w'' => ∃ v, e = .returned v ∧ w''.ownsRow w'.heap.size 32 4 v M.length (flatM base M) ∧ Below w'.heap.size w' w'') := Kit.hid (fun w' h => by
    obtain ⟨F, hf⟩ := h.get
    exact qall_any hf HQM.out (by have := HN7.out; omega))
  have HAP : Hid (∀ w', TwoQ w1 w' q M base n7 p M base n7 → Calls Try.prog 13 #[.pointer (some ⟨p, 0, none⟩)] w' fun e w'' => ∃ v, e = .returned v ∧ w''.ownsRow w'.heap.size 32 4 v M.length (flatM base M) ∧ Below w'.heap.size w' w'') := Kit.hid (fun w' h => by
    obtain ⟨F, hf⟩ := h.symm.get
    exact qall_any hf HQM.out (by have := HN7.out; omega))
  have g3 : (ca == ca) = true := by simp
  have g4 : (cb == cb) = true := by simp
  have g5 : (base == base) = true := by simp
  clear hM hca hcb hn7 e1 e2 e3 HJQ HJP HXA
  go_wp2_with fail
  (with_reducible refine (HBQ.out _ HT7.out).mono ?_); rintro e w8 ⟨rfl, hb8⟩
  have HT8 := Kit.hid (HT7.out.below hb8)
  clear hb8 a0 b0 la lb
  go_wp2_with fail
  (with_reducible refine (HBP.out _ HT8.out).mono ?_); rintro e w9 ⟨rfl, hb9⟩
  have HT9 := Kit.hid (HT8.out.below hb9)
  clear hb9
  go_wp2_with fail
  (with_reducible refine (HAQ.out _ HT9.out).mono ?_); rintro e w10 ⟨va, rfl, hva, hb10⟩
  obtain ⟨A10, c10, rfl, hc10, _, _⟩ := own_readsS (by decide) hva
  have HRA := trow_cells hc10
  have HT10 := Kit.hid (HT9.out.below hb10)
  clear hva hc10 hb10
  go_wp2_with fail
  (with_reducible refine (HAP.out _ HT10.out).mono ?_); rintro e w11 ⟨vb, rfl, hvb, hb11⟩
  obtain ⟨A11, c11, rfl, hc11, _, _⟩ := own_readsS (by decide) hvb
  have HRB := trow_cells hc11
  have HRA11 := trow_below HRA hb11
  have HT11 := Kit.hid (HT10.out.below hb11)
  have HSM : Hid (Calls Try.prog 19 #[.slice A10 M.length c10, .slice A11 M.length c11] w11 fun e w' => e = .returned (.bool true) ∧ ∃ m, w' = w11.drewN m) := Kit.hid (by
    have := qsame_any A10 A11 (told base M) (told base M) c10 c11 w11 HRA11 HRB (by rw [told_len]; have := HLN.out; omega) (by rw [told_len]; have := HLN.out; omega)
    rw [told_len, decide_eq_true rfl] at this
    exact this)
  clear hvb hc11 hb11
  go_wp2_with fail
  (with_reducible refine HSM.out.mono ?_); rintro e w12 ⟨rfl, m12, rfl⟩
  have HE : Hid (Below w.heap.size w (w11.drewN m12)) := Kit.hid (below_drewN (HB1.out.trans (HT11.out.to.mono HB1.out.size)) m12)
  go_wp2
  go_ret
  exact ⟨rfl, HE.out⟩
end Go.Proofs.Ytggcbeoinmnopaa.Qu
