/- The law QueueMoves. -/
import Derived.Test.YtggcbeoinmnopaaQuV
import Derived.Test.YtggcbeoinmnopaaQuJoins
namespace Go.Proofs.Ytggcbeoinmnopaa.QuM
theorem back_eq {L : List Mem} (h : WQ L) {m : Mem} (hm : m ∈ L) : putM m (del L m.id) = L := by
  refine wq_ext (put_wq (del_wq h _) _) h fun y => ?_
  rw [put_mem, del_mem]
  constructor
  · rintro (rfl | ⟨⟨h1, _⟩, _⟩)
    · exact hm
    · exact h1
  · intro hy
    by_cases e : y.id = m.id
    · exact .inl (uniq_eq h hy hm e)
    · exact .inr ⟨⟨hy, e⟩, e⟩
/-- A member with its lag. -/
def lagM (m : Mem) (b : Int) : Mem := { m with v := m.v - b }
theorem lag_join {L : List Mem} {b : Int} (h : QB L b) (hw : WQ L) {m : Mem} (hm : m ∈ L) : joinC (lagM m b) (del L m.id) b = 0 ∧ joinL (lagM m b) (del L m.id) b = L := by
  obtain ⟨h1, h2, h3, h4, h5, h6, h7, h8⟩ := h.each m hm
  have hb := h.b0
  have hc : joinC (lagM m b) (del L m.id) b = 0 := by
    unfold joinC
    rw [if_neg, if_neg, if_neg]
    · show ¬ _ < m.v - b; omega
    · show ¬ (get (del L m.id) m.id).isSome = true
      rw [get_del hw, if_pos rfl]; simp
    · show ¬ (m.id < 1 ∨ 1048576 < m.id ∨ ¬ (1 ≤ m.wt ∧ m.wt ≤ 1048576) ∨ ¬ (0 ≤ m.v - b ∧ m.v - b ≤ 2305843009213693952 ∧ 0 ≤ m.rem ∧ m.rem < m.wt))
      omega
  refine ⟨hc, ?_⟩
  unfold joinL
  rw [if_pos hc]
  have e : ({ lagM m b with v := b + (lagM m b).v } : Mem) = m := by
    cases m
    simp only [lagM, Mem.mk.injEq, true_and, and_true]
    omega
  rw [e]
  exact back_eq hw hm
theorem lag_other {K : List Mem} {c b : Int} {L : List Mem} (h : QB L b) {m : Mem} (hm : m ∈ L) :
    ((get K m.id).isSome = true ∧ joinC (lagM m b) K c = 9) ∨ (get K m.id = none ∧ (joinC (lagM m b) K c = 0 ∨ joinC (lagM m b) K c = 6)) := by
  obtain ⟨h1, h2, h3, h4, h5, h6, h7, h8⟩ := h.each m hm
  have hb := h.b0
  have hn : ¬ ((lagM m b).id < 1 ∨ 1048576 < (lagM m b).id ∨ ¬ (1 ≤ (lagM m b).wt ∧ (lagM m b).wt ≤ 1048576) ∨ ¬ (0 ≤ (lagM m b).v ∧ (lagM m b).v ≤ 2305843009213693952 ∧ 0 ≤ (lagM m b).rem ∧ (lagM m b).rem < (lagM m b).wt)) := by
    show ¬ (m.id < 1 ∨ 1048576 < m.id ∨ ¬ (1 ≤ m.wt ∧ m.wt ≤ 1048576) ∨ ¬ (0 ≤ m.v - b ∧ m.v - b ≤ 2305843009213693952 ∧ 0 ≤ m.rem ∧ m.rem < m.wt))
    omega
  unfold joinC
  rw [if_neg hn]
  show ((get K m.id).isSome = true ∧ (if (get K m.id).isSome = true then (9 : Int) else _) = 9) ∨ _
  cases hg : get K m.id with
  | none =>
    right
    refine ⟨rfl, ?_⟩
    have hg' : get K (lagM m b).id = none := hg
    rw [hg', if_neg (by simp)]
    split
    · exact .inr rfl
    · exact .inl rfl
  | some y => exact .inl ⟨rfl, by simp⟩
end Go.Proofs.Ytggcbeoinmnopaa.QuM
namespace Go.Proofs.Ytggcbeoinmnopaa.Qu
open Go.RowKit Go.Proofs.Ytggcbeoinmnopaa.Kit Go.Proofs.Ytggcbeoinmnopaa.ShM Go.Proofs.Ytggcbeoinmnopaa.Sh Go.Proofs.Ytggcbeoinmnopaa.QuM
set_option linter.unusedVariables false
set_option linter.unusedSimpArgs false
theorem told_get (b : Int) (L : List Mem) (i : Nat) (m : Mem) (h : L[i]? = some m) : (told b L)[i]? = some (lagM m b) := by
  unfold told lagM
  rw [List.getElem?_map, h]
  rfl
set_option maxRecDepth 8000 in
set_option maxHeartbeats 4000000 in
theorem movesLaw_any (A : Option Addr) (l : List QOp) (ca : Nat) (B : Option Addr) (k : List QOp) (cb : Nat) (wh : Int) (w : World) (hr : Hid (QRow w A l)) (hl : l.length ≤ 9223372036854775807) (hs : Hid (QRow w B k)) (hk : k.length ≤ 9223372036854775807) (hw0 : 0 ≤ wh) (hw1 : wh ≤ 255) :
    Calls Try.prog 5 #[.slice A l.length ca, .slice B k.length cb, .int .u8 wh] w fun e w' => e = .returned (.bool true) ∧ Below w.heap.size w w' := by
  have HAW := Kit.hid qawake_any
  have HR := hr
  have HS := hs
  clear hr hs
  go_enter Try.func5, Try.ntmps5
  go_wp2_with fail
  (with_reducible refine (HAW.out w).mono ?_); rintro e w1 ⟨rfl, hd1⟩
  have HB1 := Kit.hid hd1
  have hr1 := qrow_below HR hd1
  have hs1 := qrow_below HS hd1
  clear hd1 HAW HR HS
  by_cases hbig : 60 < l.length
  · have g1 : decide ((60 : Int) < (l.length : Int)) = true := decide_eq_true (by omega)
    clear hbig
    go_wp2
    go_ret
    exact ⟨rfl, HB1.out⟩
  have g1 : decide ((60 : Int) < (l.length : Int)) = false := decide_eq_false (by omega)
  have hll : l.length ≤ 60 := by omega
  clear hbig hl
  by_cases hbig : 60 < k.length
  · have g2 : decide ((60 : Int) < (k.length : Int)) = true := decide_eq_true (by omega)
    clear hbig
    go_wp2
    go_ret
    exact ⟨rfl, HB1.out⟩
  have g2 : decide ((60 : Int) < (k.length : Int)) = false := decide_eq_false (by omega)
  have hkl : k.length ≤ 60 := by omega
  clear hbig hk
  have HWL : Hid (∀ w', Hid (QRow w' A l) → Calls Try.prog 17 #[.slice A l.length ca] w' fun e w'' => ∃ p, e = .returned (.pointer (some ⟨p, 0, none⟩)) ∧ w'.heap.size ≤ p ∧ Qu w' (fun _ => False) w'' p (walkedQ l).1 (walkedQ l).2 (l.length + 1)) := Kit.hid (fun w' h => qwalked_any A l ca w' h (by omega))
  have HWK : Hid (∀ w', Hid (QRow w' B k) → Calls Try.prog 17 #[.slice B k.length cb] w' fun e w'' => ∃ p, e = .returned (.pointer (some ⟨p, 0, none⟩)) ∧ w'.heap.size ≤ p ∧ Qu w' (fun _ => False) w'' p (walkedQ k).1 (walkedQ k).2 (k.length + 1)) := Kit.hid (fun w' h => qwalked_any B k cb w' h (by omega))
  obtain ⟨HWQ, HQB⟩ := walkedQ_ok l
  obtain ⟨HWP, HQP⟩ := walkedQ_ok k
  generalize walkedQ l = s at HWL HWQ HQB
  obtain ⟨L, b⟩ := s
  generalize walkedQ k = s at HWK HWP HQP
  obtain ⟨K, c⟩ := s
  dsimp only at HWL HWK HWQ HQB HWP HQP
  have HWQ := Kit.hid HWQ
  have HQB := Kit.hid HQB
  have HWP := Kit.hid HWP
  have HQP := Kit.hid HQP
  go_wp2_with fail
  (with_reducible refine (HWL.out _ hr1).mono ?_); rintro e w2 ⟨q, rfl, hq, hq2⟩
  have hs2 := qrow_below hs1 (hq2.kept.toBelow fun k h => h.elim)
  have HQ2 := Kit.hid hq2
  clear hq2
  go_wp2_with fail
  (with_reducible refine (HWK.out _ hs2).mono ?_); rintro e w3 ⟨p, rfl, hp, hp3⟩
  have ht3 := twoq_new HQ2.out hp3
  have HT3 := Kit.hid ht3.toP
  have HTO3 := Kit.hid ht3.to
  clear hp3 HQ2 HWK HWL hr1 hs1 hs2 hq hp ht3
  obtain ⟨nl, hnl⟩ : ∃ nl, nl = l.length + 1 := ⟨_, rfl⟩
  obtain ⟨nk, hnk⟩ : ∃ nk, nk = k.length + 1 := ⟨_, rfl⟩
  rw [← hnl, ← hnk] at HT3
  have HNL : Hid (nl ≤ 61) := Kit.hid (by omega)
  have HNK : Hid (nk ≤ 61) := Kit.hid (by omega)
  have HLL : Hid (L.length ≤ 61) := Kit.hid (by
    obtain ⟨F, hf⟩ := HT3.out.get
    have := hf.len
    have := HNL.out
    omega)
  have HALL : Hid (∀ R n d w', TwoP R w' q L b n p K c d → n ≤ 100 → Calls Try.prog 13 #[.pointer (some ⟨q, 0, none⟩)] w' fun e w'' => ∃ v, e = .returned v ∧ w''.ownsRow w'.heap.size 32 4 v L.length (flatM b L) ∧ Below w'.heap.size w' w'') := Kit.hid (fun R n d w' h hn => by
    obtain ⟨F, hf⟩ := h.get
    exact qall_any hf HQB.out (by omega))
  have HALL2 : Hid (∀ R n K' d w', TwoP R w' q L b n p K' c d → n ≤ 100 → Calls Try.prog 13 #[.pointer (some ⟨q, 0, none⟩)] w' fun e w'' => ∃ v, e = .returned v ∧ w''.ownsRow w'.heap.size 32 4 v L.length (flatM b L) ∧ Below w'.heap.size w' w'') := Kit.hid (fun R n K' d w' h hn => by
    obtain ⟨F, hf⟩ := h.get
    exact qall_any hf HQB.out (by omega))
  clear hnl hnk
  go_wp2_with fail
  (with_reducible refine (HALL.out _ _ _ _ HT3.out (by have := HNL.out; omega)).mono ?_); rintro e w4 ⟨va, rfl, hva, hb4⟩
  obtain ⟨A4, c4, rfl, hc4, hn4, hA4⟩ := own_readsS (by decide) hva
  have HRA := trow_cells hc4
  have HT4 := Kit.hid (HT3.out.below hb4)
  have HB4 := Kit.hid hb4
  have HG4 : Hid (∀ ad, A4 = some ad → w3.heap.size ≤ ad.block ∧ ad.block < w4.heap.size) := Kit.hid (fun ad e => by
    rcases hA4 with ⟨h0, _⟩ | ⟨g', h0, h1, h2⟩
    · rw [h0] at e; cases e
    · rw [h0] at e; cases e; exact ⟨h1, h2⟩)
  clear hva hc4 hn4 hb4 hA4
  by_cases hz : L = []
  · subst hz
    have HE := Kit.hid (HB1.out.trans ((HTO3.out.trans (HB4.out.mono HTO3.out.size)).mono HB1.out.size))
    go_wp2
    go_ret
    exact ⟨rfl, HE.out⟩
  have hpos : 0 < L.length := List.length_pos_iff.2 hz
  obtain ⟨whn, rfl⟩ := Int.eq_ofNat_of_zero_le hw0
  obtain ⟨i, hi⟩ : ∃ i, i = whn % L.length := ⟨_, rfl⟩
  have hil : i < L.length := by rw [hi]; exact Nat.mod_lt _ hpos
  have hrem : Int.tmod (whn : Int) (L.length : Int) = (i : Int) := by rw [hi, Int.tmod_eq_emod_of_nonneg (by omega)]; simp
  obtain ⟨m, hm⟩ : ∃ m, L[i]? = some m := ⟨_, List.getElem?_eq_getElem hil⟩
  have hmL : m ∈ L := List.mem_of_getElem? hm
  have hmb := HQB.out.each m hmL
  obtain ⟨ad, hA, c0, c1, c2, c3⟩ := t_at HRA (told_get b L i m hm)
  unfold lagM at c0 c1 c2 c3
  dsimp only at c0 c1 c2 c3
  have HML := Kit.hid hmL
  have HMB := Kit.hid hmb
  have hi4 : (i : Int) < (L.length : Int) := by omega
  have hz' : ¬ L.length = 0 := by omega
  have hz2 : ((L.length : Int) == 0) = false := by simp; omega
  have hz3 : ¬ (L.length : Int) = 0 := by omega
  have HGA := HG4
  have HAD := Kit.hid hA
  subst hA
  have HTM : Hid (∀ R d K' e w', TwoP R w' q L b nl p K' e d → Calls Try.prog 20 #[.pointer (some ⟨q, 0, none⟩), .int .i64 m.id] w' fun e' w'' => e' = .returned (.tuple #[.agg #[.int .i64 m.id, .int .i64 m.wt, .int .i64 (m.v - b), .int .i64 m.rem], .int .i64 0]) ∧ TwoP R w'' q (del L m.id) b nl p K' e d ∧ KeepR R w' w'') := Kit.hid (fun R d K' e w' h => by
    have hg : get L m.id = some m := get_of HWQ.out hmL
    have := h.op fun F hf => leave_any m.id hf HQB.out (by have := HNL.out; omega) (by omega) (by omega)
    rw [hg] at this
    exact this)
  have HGQ : Hid (∀ R d K' e w', TwoP R w' q (del L m.id) b nl p K' e d → Calls Try.prog 15 #[.pointer (some ⟨q, 0, none⟩), .int .i64 m.id] w' fun e' w'' => e' = .returned (.tuple #[.agg #[.int .i64 0, .int .i64 0, .int .i64 0, .int .i64 0], .bool false]) ∧ Below w'.heap.size w' w'') := Kit.hid (fun R d K' e w' h => by
    obtain ⟨F, hf⟩ := h.get
    have := get_any m.id hf (HQB.out.del _) (by omega) (by omega)
    rw [get_del HWQ.out, if_pos rfl] at this
    exact this)
  have HGP : Hid (∀ R L' K' nk' w', TwoP R w' q L' b nl p K' c nk' → QB K' c → ∀ o, get K' m.id = o → Calls Try.prog 15 #[.pointer (some ⟨p, 0, none⟩), .int .i64 m.id] w' fun e' w'' => e' = .returned (.tuple #[gv o c, .bool o.isSome]) ∧ Below w'.heap.size w' w'') := Kit.hid (fun R L' K' nk' w' h hq o ho => by
    obtain ⟨F, hf⟩ := h.symm.get
    have := get_any m.id hf hq (by omega) (by omega)
    rw [ho] at this
    exact this)
  have HJP : Hid (∀ R L' w', TwoP R w' q L' b nl p K c nk → Calls Try.prog 12 #[.pointer (some ⟨p, 0, none⟩), .agg #[.int .i64 m.id, .int .i64 m.wt, .int .i64 (m.v - b), .int .i64 m.rem]] w' fun e' w'' => e' = .returned (.int .i64 (joinC (lagM m b) K c)) ∧ TwoP R w'' q L' b nl p (joinL (lagM m b) K c) c (nk + 1) ∧ KeepR R w' w'') := Kit.hid (fun R L' w' h => (h.symm.op fun F hf => join_any (lagM m b) hf HQP.out (by have := HNK.out; omega) (by show _ ≤ m.id; omega) (by show m.id ≤ _; omega)).mono fun e w'' h => ⟨h.1, h.2.1.symm, h.2.2⟩)
  have HJQ : Hid (∀ R K' d w', TwoP R w' q (del L m.id) b nl p K' c d → Calls Try.prog 12 #[.pointer (some ⟨q, 0, none⟩), .agg #[.int .i64 m.id, .int .i64 m.wt, .int .i64 (m.v - b), .int .i64 m.rem]] w' fun e' w'' => e' = .returned (.int .i64 0) ∧ TwoP R w'' q L b (nl + 1) p K' c d ∧ KeepR R w' w'') := Kit.hid (fun R K' d w' h => by
    have := h.op fun F hf => join_any (lagM m b) hf (HQB.out.del _) (by have := HNL.out; omega) (by show _ ≤ m.id; omega) (by show m.id ≤ _; omega)
    rw [(lag_join HQB.out HWQ.out hmL).1, (lag_join HQB.out HWQ.out hmL).2] at this
    exact this)
  have HLO := Kit.hid (lag_other (K := K) (c := c) HQB.out hmL)
  clear hi hmb hmL hm hz hpos HALL
  go_wp2_with fail
  have HT5 := Kit.hid (HT4.out.below ((Below.refl _ w4).alloc (Nat.le_refl _) (.cells #[.int .i64 m.id, .int .i64 m.wt, .int .i64 (m.v - b), .int .i64 m.rem] 32)))
  have HX5 := Kit.hid (blk_new w4 (.cells #[.int .i64 m.id, .int .i64 m.wt, .int .i64 (m.v - b), .int .i64 m.rem] 32))
  have HRA5 := trow_below HRA ((Below.refl _ w4).alloc (Nat.le_refl _) (.cells #[.int .i64 m.id, .int .i64 m.wt, .int .i64 (m.v - b), .int .i64 m.rem] 32))
  have HE5 := Kit.hid (((HTO3.out.trans (HB4.out.mono HTO3.out.size))).alloc (HTO3.out.trans (HB4.out.mono HTO3.out.size)).size (.cells #[.int .i64 m.id, .int .i64 m.wt, .int .i64 (m.v - b), .int .i64 m.rem] 32))
  obtain ⟨R5, hR5⟩ : ∃ R5 : Nat → Prop, R5 = fun x => (x < w1.heap.size ∨ (w3.heap.size ≤ x ∧ x < w4.heap.size)) ∨ (w4.heap.size ≤ x ∧ x < (w4.alloc (.cells #[.int .i64 m.id, .int .i64 m.wt, .int .i64 (m.v - b), .int .i64 m.rem] 32)).heap.size) := ⟨_, rfl⟩
  rw [← hR5] at HT5
  have HR5 : Hid ((∀ x, x < w1.heap.size → R5 x) ∧ R5 w4.heap.size ∧ ∀ x, some ad = some x → R5 x.block) := Kit.hid (by
    rw [hR5]
    exact ⟨fun x hx => .inl (.inl hx), .inr ⟨Nat.le_refl _, by simp⟩, fun x e => .inl (.inr (HGA.out x e))⟩)
  clear hR5 c0 c1 c2 c3
  (with_reducible refine (HTM.out _ _ _ _ _ HT5.out).mono ?_); rintro e w6 ⟨rfl, h6, k6⟩
  have hx6 := (k6.block _ HR5.out.2.1).trans HX5.out
  have HT6 := Kit.hid (h6.below ((Below.refl _ w6).alloc (Nat.le_refl _) (.cells #[.int .i64 m.id, .int .i64 m.wt, .int .i64 (m.v - b), .int .i64 m.rem] 32)))
  have HX6 := Kit.hid (blk_alloc hx6 (.cells #[.int .i64 m.id, .int .i64 m.wt, .int .i64 (m.v - b), .int .i64 m.rem] 32))
  have HM6 := Kit.hid (blk_new w6 (.cells #[.int .i64 m.id, .int .i64 m.wt, .int .i64 (m.v - b), .int .i64 m.rem] 32))
  have HRA6 := trow_below (trow_same HRA5 fun x e => k6.block _ (HR5.out.2.2 x e)) ((Below.refl _ w6).alloc (Nat.le_refl _) (.cells #[.int .i64 m.id, .int .i64 m.wt, .int .i64 (m.v - b), .int .i64 m.rem] 32))
  have he6 := k6.to HE5.out HR5.out.1
  have HE6 := Kit.hid (he6.alloc he6.size (.cells #[.int .i64 m.id, .int .i64 m.wt, .int .i64 (m.v - b), .int .i64 m.rem] 32))
  obtain ⟨R6, hR6⟩ : ∃ R6 : Nat → Prop, R6 = fun x => R5 x ∨ (w6.heap.size ≤ x ∧ x < (w6.alloc (.cells #[.int .i64 m.id, .int .i64 m.wt, .int .i64 (m.v - b), .int .i64 m.rem] 32)).heap.size) := ⟨_, rfl⟩
  rw [← hR6] at HT6
  have HR6 : Hid ((∀ x, x < w1.heap.size → R6 x) ∧ R6 w4.heap.size ∧ (∀ x, some ad = some x → R6 x.block) ∧ R6 w6.heap.size) := Kit.hid (by
    rw [hR6]
    exact ⟨fun x hx => .inl (HR5.out.1 x hx), .inl HR5.out.2.1, fun x e => .inl (HR5.out.2.2 x e), .inr ⟨Nat.le_refl _, by simp⟩⟩)
  have x0 := blk_cell hx6 0
  have lx := blk_lt hx6
  clear hR6 hx6 h6 k6 he6 HTM
  go_wp2_with fail
  (with_reducible refine (HGQ.out _ _ _ _ _ HT6.out).mono ?_); rintro e w7 ⟨rfl, hb7⟩
  have hx7 := blk_below HX6.out hb7
  have hm7 := blk_below HM6.out hb7
  have HX7 := Kit.hid (blk_alloc hx7 (.cells #[.int .i64 0, .int .i64 0, .int .i64 0, .int .i64 0] 32))
  have HM7 := Kit.hid (blk_alloc hm7 (.cells #[.int .i64 0, .int .i64 0, .int .i64 0, .int .i64 0] 32))
  have HRA7 := trow_below (trow_below HRA6 hb7) ((Below.refl _ w7).alloc (Nat.le_refl _) (.cells #[.int .i64 0, .int .i64 0, .int .i64 0, .int .i64 0] 32))
  have HT7 := Kit.hid ((HT6.out.still hb7).still ((Below.refl _ w7).alloc (Nat.le_refl _) (.cells #[.int .i64 0, .int .i64 0, .int .i64 0, .int .i64 0] 32)))
  have he7 := HE6.out.trans (hb7.mono HE6.out.size)
  have HE7 := Kit.hid (he7.alloc he7.size (.cells #[.int .i64 0, .int .i64 0, .int .i64 0, .int .i64 0] 32))
  clear x0 lx
  have x0 := blk_cell hx7 0
  have lx := blk_lt hx7
  clear hx7 hm7 he7 hb7 HGQ
  obtain ⟨a0, a1, a2, a3, hgv⟩ : ∃ a0 a1 a2 a3 : Int, gv (get K m.id) c = .agg #[.int .i64 a0, .int .i64 a1, .int .i64 a2, .int .i64 a3] := by
    cases get K m.id with
    | none => exact ⟨_, _, _, _, rfl⟩
    | some y => exact ⟨_, _, _, _, rfl⟩
  have HGV := Kit.hid hgv
  clear hgv
  have gx : ∀ w', (binOp .neq 32 (.agg #[.int .i64 m.id, .int .i64 m.wt, .int .i64 (m.v - b), .int .i64 m.rem]) (.agg #[.int .i64 m.id, .int .i64 m.wt, .int .i64 (m.v - b), .int .i64 m.rem])).run Try.prog w' = .ok (.bool false) w' := fun w' => by
    have := neq_mem (lagM m b) (lagM m b) w'
    rw [decide_eq_true rfl] at this
    exact this
  rcases HLO.out with ⟨ht, hj⟩ | ⟨ht, hj | hj⟩
  · have HG1 : Hid (∀ R L' d w', TwoP R w' q L' b nl p K c d → Calls Try.prog 15 #[.pointer (some ⟨p, 0, none⟩), .int .i64 m.id] w' fun e' w'' => e' = .returned (.tuple #[.agg #[.int .i64 a0, .int .i64 a1, .int .i64 a2, .int .i64 a3], .bool true]) ∧ Below w'.heap.size w' w'') := Kit.hid (fun R L' d w' h => by
      have := HGP.out R L' K d w' h HQP.out _ rfl
      rw [HGV.out, ht] at this
      exact this)
    have HJ1 : Hid (∀ R L' w', TwoP R w' q L' b nl p K c nk → Calls Try.prog 12 #[.pointer (some ⟨p, 0, none⟩), .agg #[.int .i64 m.id, .int .i64 m.wt, .int .i64 (m.v - b), .int .i64 m.rem]] w' fun e' w'' => e' = .returned (.int .i64 9) ∧ TwoP R w'' q L' b nl p (K) c (nk + 1) ∧ KeepR R w' w'') := Kit.hid (fun R L' w' h => by
      have := HJP.out R L' w' h
      rw [hj] at this
      have hK : joinL (lagM m b) K c = K := by unfold joinL; rw [if_neg (by rw [hj]; decide)]
      rw [hK] at this
      exact this)
    obtain ⟨b0, b1, b2, b3, hgv2⟩ : ∃ b0 b1 b2 b3 : Int, gv (get K m.id) c = .agg #[.int .i64 b0, .int .i64 b1, .int .i64 b2, .int .i64 b3] := ⟨_, _, _, _, HGV.out⟩
    have HGV2 := Kit.hid hgv2
    clear hgv2
    have HG2 : Hid (∀ R L' d w', TwoP R w' q L' b nl p (K) c d → Calls Try.prog 15 #[.pointer (some ⟨p, 0, none⟩), .int .i64 m.id] w' fun e' w'' => e' = .returned (.tuple #[.agg #[.int .i64 b0, .int .i64 b1, .int .i64 b2, .int .i64 b3], .bool true]) ∧ Below w'.heap.size w' w'') := Kit.hid (fun R L' d w' h => by
      have := HGP.out R L' _ d w' h HQP.out _ rfl
      rw [HGV2.out, ht] at this
      exact this)
    go_wp2_with fail
    (with_reducible refine (HG1.out _ _ _ _ HT7.out).mono ?_); rintro e w8 ⟨rfl, hb8⟩
    have hx8 := blk_below HX7.out hb8
    have hm8 := blk_below HM7.out hb8
    have HX8 := Kit.hid (blk_alloc hx8 (.cells #[.int .i64 a0, .int .i64 a1, .int .i64 a2, .int .i64 a3] 32))
    have HM8 := Kit.hid (blk_alloc hm8 (.cells #[.int .i64 a0, .int .i64 a1, .int .i64 a2, .int .i64 a3] 32))
    have HRA8 := trow_below (trow_below HRA7 hb8) ((Below.refl _ w8).alloc (Nat.le_refl _) (.cells #[.int .i64 a0, .int .i64 a1, .int .i64 a2, .int .i64 a3] 32))
    have HT8 := Kit.hid ((HT7.out.still hb8).still ((Below.refl _ w8).alloc (Nat.le_refl _) (.cells #[.int .i64 a0, .int .i64 a1, .int .i64 a2, .int .i64 a3] 32)))
    have he8 := HE7.out.trans (hb8.mono HE7.out.size)
    have HE8 := Kit.hid (he8.alloc he8.size (.cells #[.int .i64 a0, .int .i64 a1, .int .i64 a2, .int .i64 a3] 32))
    clear x0 lx
    have m0 := blk_cell hm8 0
    have m1 := blk_cell hm8 1
    have m2 := blk_cell hm8 2
    have m3 := blk_cell hm8 3
    have lm := blk_lt hm8
    clear hx8 hm8 he8 hb8 HG1
    go_wp2_with fail
    (with_reducible refine (HJ1.out _ _ _ HT8.out).mono ?_); rintro e w9 ⟨rfl, h9, k9⟩
    have HX9 := Kit.hid ((k9.block _ HR6.out.2.1).trans HX8.out)
    have HM9 := Kit.hid ((k9.block _ HR6.out.2.2.2).trans HM8.out)
    have HRA9 := trow_same HRA8 fun x e => k9.block _ (HR6.out.2.2.1 x e)
    have HT9 := Kit.hid h9
    have HE9 := Kit.hid (k9.to HE8.out HR6.out.1)
    clear m0 m1 m2 m3 lm h9 k9 HJ1
    have x0 := blk_cell HX9.out 0
    have lx := blk_lt HX9.out
    go_wp2_with fail
    (with_reducible refine (HG2.out _ _ _ _ HT9.out).mono ?_); rintro e w10 ⟨rfl, hb10⟩
    have hx10 := blk_below HX9.out hb10
    have hm10 := blk_below HM9.out hb10
    have HX10 := Kit.hid (blk_alloc hx10 (.cells #[.int .i64 b0, .int .i64 b1, .int .i64 b2, .int .i64 b3] 32))
    have HM10 := Kit.hid (blk_alloc hm10 (.cells #[.int .i64 b0, .int .i64 b1, .int .i64 b2, .int .i64 b3] 32))
    have HRA10 := trow_below (trow_below HRA9 hb10) ((Below.refl _ w10).alloc (Nat.le_refl _) (.cells #[.int .i64 b0, .int .i64 b1, .int .i64 b2, .int .i64 b3] 32))
    have HT10 := Kit.hid ((HT9.out.still hb10).still ((Below.refl _ w10).alloc (Nat.le_refl _) (.cells #[.int .i64 b0, .int .i64 b1, .int .i64 b2, .int .i64 b3] 32)))
    have he10 := HE9.out.trans (hb10.mono HE9.out.size)
    have HE10 := Kit.hid (he10.alloc he10.size (.cells #[.int .i64 b0, .int .i64 b1, .int .i64 b2, .int .i64 b3] 32))
    clear x0 lx
    have m0 := blk_cell hm10 0
    have m1 := blk_cell hm10 1
    have m2 := blk_cell hm10 2
    have m3 := blk_cell hm10 3
    have lm := blk_lt hm10
    have x0 := blk_cell hx10 0
    have x1 := blk_cell hx10 1
    have x2 := blk_cell hx10 2
    have x3 := blk_cell hx10 3
    have lx := blk_lt hx10
    clear hx10 hm10 he10 hb10 HG2
    go_wp2_with fail
    (with_reducible refine (HJQ.out _ _ _ _ HT10.out).mono ?_); rintro e w11 ⟨rfl, h11, k11⟩
    have HRA11 := trow_same HRA10 fun x e => k11.block _ (HR6.out.2.2.1 x e)
    have HT11 := Kit.hid h11
    have HE11 := Kit.hid (k11.to HE10.out HR6.out.1)
    clear m0 m1 m2 m3 lm x0 x1 x2 x3 lx h11 k11
    go_wp2_with fail
    (with_reducible refine (HALL2.out _ _ _ _ _ HT11.out (by have := HNL.out; omega)).mono ?_); rintro e w12 ⟨vb, rfl, hvb, hb12⟩
    obtain ⟨A12, c12, rfl, hc12, _, _⟩ := own_readsS (by decide) hvb
    have HRB := trow_cells hc12
    have HRA12 := trow_below HRA11 hb12
    have HE12 := Kit.hid (HE11.out.trans (hb12.mono HE11.out.size))
    have HSM : Hid (Calls Try.prog 19 #[.slice A12 L.length c12, .slice (some ad) L.length c4] w12 fun e w' => e = .returned (.bool true) ∧ ∃ m, w' = w12.drewN m) := Kit.hid (by
      have := qsame_any A12 (some ad) (told b L) (told b L) c12 c4 w12 HRB HRA12 (by rw [told_len]; have := HLL.out; omega) (by rw [told_len]; have := HLL.out; omega)
      rw [told_len, decide_eq_true rfl] at this
      exact this)
    clear hvb hc12 hb12
    go_wp2_with fail
    (with_reducible refine HSM.out.mono ?_); rintro e w13 ⟨rfl, m13, rfl⟩
    have HE : Hid (Below w.heap.size w (w12.drewN m13)) := Kit.hid (below_drewN (HB1.out.trans (HE12.out.mono HB1.out.size)) m13)
    go_wp2
    go_ret
    exact ⟨rfl, HE.out⟩
  · have HG1 : Hid (∀ R L' d w', TwoP R w' q L' b nl p K c d → Calls Try.prog 15 #[.pointer (some ⟨p, 0, none⟩), .int .i64 m.id] w' fun e' w'' => e' = .returned (.tuple #[.agg #[.int .i64 a0, .int .i64 a1, .int .i64 a2, .int .i64 a3], .bool false]) ∧ Below w'.heap.size w' w'') := Kit.hid (fun R L' d w' h => by
      have := HGP.out R L' K d w' h HQP.out _ rfl
      rw [HGV.out, show (get K m.id).isSome = false by rw [ht]; rfl] at this
      exact this)
    have HJ1 : Hid (∀ R L' w', TwoP R w' q L' b nl p K c nk → Calls Try.prog 12 #[.pointer (some ⟨p, 0, none⟩), .agg #[.int .i64 m.id, .int .i64 m.wt, .int .i64 (m.v - b), .int .i64 m.rem]] w' fun e' w'' => e' = .returned (.int .i64 0) ∧ TwoP R w'' q L' b nl p (joinL (lagM m b) K c) c (nk + 1) ∧ KeepR R w' w'') := Kit.hid (fun R L' w' h => by
      have := HJP.out R L' w' h
      rw [hj] at this
      skip
      exact this)
    have HG2 : Hid (∀ R L' d w', TwoP R w' q L' b nl p (joinL (lagM m b) K c) c d → Calls Try.prog 15 #[.pointer (some ⟨p, 0, none⟩), .int .i64 m.id] w' fun e' w'' => e' = .returned (.tuple #[.agg #[.int .i64 m.id, .int .i64 m.wt, .int .i64 (m.v - b), .int .i64 m.rem], .bool true]) ∧ Below w'.heap.size w' w'') := Kit.hid (fun R L' d w' h => by
      have := HGP.out R L' _ d w' h (HQP.out.join (lagM m b)) _ rfl
      have hg : get (joinL (lagM m b) K c) m.id = some { lagM m b with v := c + (lagM m b).v } := by
        unfold joinL
        rw [if_pos hj, get_put HWP.out]
        exact if_pos rfl
      rw [hg] at this
      have hv : gv (some ({ lagM m b with v := c + (lagM m b).v } : Mem)) c = .agg #[.int .i64 m.id, .int .i64 m.wt, .int .i64 (m.v - b), .int .i64 m.rem] := by
        show tv _ c = _
        unfold tv lagM
        rw [show c + (m.v - b) - c = m.v - b by omega]
      rw [hv] at this
      exact this)
    go_wp2_with fail
    (with_reducible refine (HG1.out _ _ _ _ HT7.out).mono ?_); rintro e w8 ⟨rfl, hb8⟩
    have hx8 := blk_below HX7.out hb8
    have hm8 := blk_below HM7.out hb8
    have HX8 := Kit.hid (blk_alloc hx8 (.cells #[.int .i64 a0, .int .i64 a1, .int .i64 a2, .int .i64 a3] 32))
    have HM8 := Kit.hid (blk_alloc hm8 (.cells #[.int .i64 a0, .int .i64 a1, .int .i64 a2, .int .i64 a3] 32))
    have HRA8 := trow_below (trow_below HRA7 hb8) ((Below.refl _ w8).alloc (Nat.le_refl _) (.cells #[.int .i64 a0, .int .i64 a1, .int .i64 a2, .int .i64 a3] 32))
    have HT8 := Kit.hid ((HT7.out.still hb8).still ((Below.refl _ w8).alloc (Nat.le_refl _) (.cells #[.int .i64 a0, .int .i64 a1, .int .i64 a2, .int .i64 a3] 32)))
    have he8 := HE7.out.trans (hb8.mono HE7.out.size)
    have HE8 := Kit.hid (he8.alloc he8.size (.cells #[.int .i64 a0, .int .i64 a1, .int .i64 a2, .int .i64 a3] 32))
    clear x0 lx
    have m0 := blk_cell hm8 0
    have m1 := blk_cell hm8 1
    have m2 := blk_cell hm8 2
    have m3 := blk_cell hm8 3
    have lm := blk_lt hm8
    clear hx8 hm8 he8 hb8 HG1
    go_wp2_with fail
    (with_reducible refine (HJ1.out _ _ _ HT8.out).mono ?_); rintro e w9 ⟨rfl, h9, k9⟩
    have HX9 := Kit.hid ((k9.block _ HR6.out.2.1).trans HX8.out)
    have HM9 := Kit.hid ((k9.block _ HR6.out.2.2.2).trans HM8.out)
    have HRA9 := trow_same HRA8 fun x e => k9.block _ (HR6.out.2.2.1 x e)
    have HT9 := Kit.hid h9
    have HE9 := Kit.hid (k9.to HE8.out HR6.out.1)
    clear m0 m1 m2 m3 lm h9 k9 HJ1
    have x0 := blk_cell HX9.out 0
    have lx := blk_lt HX9.out
    go_wp2_with fail
    (with_reducible refine (HG2.out _ _ _ _ HT9.out).mono ?_); rintro e w10 ⟨rfl, hb10⟩
    have hx10 := blk_below HX9.out hb10
    have hm10 := blk_below HM9.out hb10
    have HX10 := Kit.hid (blk_alloc hx10 (.cells #[.int .i64 m.id, .int .i64 m.wt, .int .i64 (m.v - b), .int .i64 m.rem] 32))
    have HM10 := Kit.hid (blk_alloc hm10 (.cells #[.int .i64 m.id, .int .i64 m.wt, .int .i64 (m.v - b), .int .i64 m.rem] 32))
    have HRA10 := trow_below (trow_below HRA9 hb10) ((Below.refl _ w10).alloc (Nat.le_refl _) (.cells #[.int .i64 m.id, .int .i64 m.wt, .int .i64 (m.v - b), .int .i64 m.rem] 32))
    have HT10 := Kit.hid ((HT9.out.still hb10).still ((Below.refl _ w10).alloc (Nat.le_refl _) (.cells #[.int .i64 m.id, .int .i64 m.wt, .int .i64 (m.v - b), .int .i64 m.rem] 32)))
    have he10 := HE9.out.trans (hb10.mono HE9.out.size)
    have HE10 := Kit.hid (he10.alloc he10.size (.cells #[.int .i64 m.id, .int .i64 m.wt, .int .i64 (m.v - b), .int .i64 m.rem] 32))
    clear x0 lx
    have m0 := blk_cell hm10 0
    have m1 := blk_cell hm10 1
    have m2 := blk_cell hm10 2
    have m3 := blk_cell hm10 3
    have lm := blk_lt hm10
    have x0 := blk_cell hx10 0
    have x1 := blk_cell hx10 1
    have x2 := blk_cell hx10 2
    have x3 := blk_cell hx10 3
    have lx := blk_lt hx10
    clear hx10 hm10 he10 hb10 HG2
    go_wp2_with fail
    (with_reducible refine (HJQ.out _ _ _ _ HT10.out).mono ?_); rintro e w11 ⟨rfl, h11, k11⟩
    have HRA11 := trow_same HRA10 fun x e => k11.block _ (HR6.out.2.2.1 x e)
    have HT11 := Kit.hid h11
    have HE11 := Kit.hid (k11.to HE10.out HR6.out.1)
    clear m0 m1 m2 m3 lm x0 x1 x2 x3 lx h11 k11
    go_wp2_with fail
    (with_reducible refine (HALL2.out _ _ _ _ _ HT11.out (by have := HNL.out; omega)).mono ?_); rintro e w12 ⟨vb, rfl, hvb, hb12⟩
    obtain ⟨A12, c12, rfl, hc12, _, _⟩ := own_readsS (by decide) hvb
    have HRB := trow_cells hc12
    have HRA12 := trow_below HRA11 hb12
    have HE12 := Kit.hid (HE11.out.trans (hb12.mono HE11.out.size))
    have HSM : Hid (Calls Try.prog 19 #[.slice A12 L.length c12, .slice (some ad) L.length c4] w12 fun e w' => e = .returned (.bool true) ∧ ∃ m, w' = w12.drewN m) := Kit.hid (by
      have := qsame_any A12 (some ad) (told b L) (told b L) c12 c4 w12 HRB HRA12 (by rw [told_len]; have := HLL.out; omega) (by rw [told_len]; have := HLL.out; omega)
      rw [told_len, decide_eq_true rfl] at this
      exact this)
    clear hvb hc12 hb12
    go_wp2_with fail
    (with_reducible refine HSM.out.mono ?_); rintro e w13 ⟨rfl, m13, rfl⟩
    have HE : Hid (Below w.heap.size w (w12.drewN m13)) := Kit.hid (below_drewN (HB1.out.trans (HE12.out.mono HB1.out.size)) m13)
    go_wp2
    go_ret
    exact ⟨rfl, HE.out⟩
  · have HG1 : Hid (∀ R L' d w', TwoP R w' q L' b nl p K c d → Calls Try.prog 15 #[.pointer (some ⟨p, 0, none⟩), .int .i64 m.id] w' fun e' w'' => e' = .returned (.tuple #[.agg #[.int .i64 a0, .int .i64 a1, .int .i64 a2, .int .i64 a3], .bool false]) ∧ Below w'.heap.size w' w'') := Kit.hid (fun R L' d w' h => by
      have := HGP.out R L' K d w' h HQP.out _ rfl
      rw [HGV.out, show (get K m.id).isSome = false by rw [ht]; rfl] at this
      exact this)
    have HJ1 : Hid (∀ R L' w', TwoP R w' q L' b nl p K c nk → Calls Try.prog 12 #[.pointer (some ⟨p, 0, none⟩), .agg #[.int .i64 m.id, .int .i64 m.wt, .int .i64 (m.v - b), .int .i64 m.rem]] w' fun e' w'' => e' = .returned (.int .i64 6) ∧ TwoP R w'' q L' b nl p (K) c (nk + 1) ∧ KeepR R w' w'') := Kit.hid (fun R L' w' h => by
      have := HJP.out R L' w' h
      rw [hj] at this
      have hK : joinL (lagM m b) K c = K := by unfold joinL; rw [if_neg (by rw [hj]; decide)]
      rw [hK] at this
      exact this)
    obtain ⟨b0, b1, b2, b3, hgv2⟩ : ∃ b0 b1 b2 b3 : Int, gv (get K m.id) c = .agg #[.int .i64 b0, .int .i64 b1, .int .i64 b2, .int .i64 b3] := ⟨_, _, _, _, HGV.out⟩
    have HGV2 := Kit.hid hgv2
    clear hgv2
    have HG2 : Hid (∀ R L' d w', TwoP R w' q L' b nl p (K) c d → Calls Try.prog 15 #[.pointer (some ⟨p, 0, none⟩), .int .i64 m.id] w' fun e' w'' => e' = .returned (.tuple #[.agg #[.int .i64 b0, .int .i64 b1, .int .i64 b2, .int .i64 b3], .bool false]) ∧ Below w'.heap.size w' w'') := Kit.hid (fun R L' d w' h => by
      have := HGP.out R L' _ d w' h HQP.out _ rfl
      rw [HGV2.out, show (get K m.id).isSome = false by rw [ht]; rfl] at this
      exact this)
    go_wp2_with fail
    (with_reducible refine (HG1.out _ _ _ _ HT7.out).mono ?_); rintro e w8 ⟨rfl, hb8⟩
    have hx8 := blk_below HX7.out hb8
    have hm8 := blk_below HM7.out hb8
    have HX8 := Kit.hid (blk_alloc hx8 (.cells #[.int .i64 a0, .int .i64 a1, .int .i64 a2, .int .i64 a3] 32))
    have HM8 := Kit.hid (blk_alloc hm8 (.cells #[.int .i64 a0, .int .i64 a1, .int .i64 a2, .int .i64 a3] 32))
    have HRA8 := trow_below (trow_below HRA7 hb8) ((Below.refl _ w8).alloc (Nat.le_refl _) (.cells #[.int .i64 a0, .int .i64 a1, .int .i64 a2, .int .i64 a3] 32))
    have HT8 := Kit.hid ((HT7.out.still hb8).still ((Below.refl _ w8).alloc (Nat.le_refl _) (.cells #[.int .i64 a0, .int .i64 a1, .int .i64 a2, .int .i64 a3] 32)))
    have he8 := HE7.out.trans (hb8.mono HE7.out.size)
    have HE8 := Kit.hid (he8.alloc he8.size (.cells #[.int .i64 a0, .int .i64 a1, .int .i64 a2, .int .i64 a3] 32))
    clear x0 lx
    have m0 := blk_cell hm8 0
    have m1 := blk_cell hm8 1
    have m2 := blk_cell hm8 2
    have m3 := blk_cell hm8 3
    have lm := blk_lt hm8
    clear hx8 hm8 he8 hb8 HG1
    go_wp2_with fail
    (with_reducible refine (HJ1.out _ _ _ HT8.out).mono ?_); rintro e w9 ⟨rfl, h9, k9⟩
    have HX9 := Kit.hid ((k9.block _ HR6.out.2.1).trans HX8.out)
    have HM9 := Kit.hid ((k9.block _ HR6.out.2.2.2).trans HM8.out)
    have HRA9 := trow_same HRA8 fun x e => k9.block _ (HR6.out.2.2.1 x e)
    have HT9 := Kit.hid h9
    have HE9 := Kit.hid (k9.to HE8.out HR6.out.1)
    clear m0 m1 m2 m3 lm h9 k9 HJ1
    have x0 := blk_cell HX9.out 0
    have lx := blk_lt HX9.out
    go_wp2_with fail
    (with_reducible refine (HG2.out _ _ _ _ HT9.out).mono ?_); rintro e w10 ⟨rfl, hb10⟩
    have hx10 := blk_below HX9.out hb10
    have hm10 := blk_below HM9.out hb10
    have HX10 := Kit.hid (blk_alloc hx10 (.cells #[.int .i64 b0, .int .i64 b1, .int .i64 b2, .int .i64 b3] 32))
    have HM10 := Kit.hid (blk_alloc hm10 (.cells #[.int .i64 b0, .int .i64 b1, .int .i64 b2, .int .i64 b3] 32))
    have HRA10 := trow_below (trow_below HRA9 hb10) ((Below.refl _ w10).alloc (Nat.le_refl _) (.cells #[.int .i64 b0, .int .i64 b1, .int .i64 b2, .int .i64 b3] 32))
    have HT10 := Kit.hid ((HT9.out.still hb10).still ((Below.refl _ w10).alloc (Nat.le_refl _) (.cells #[.int .i64 b0, .int .i64 b1, .int .i64 b2, .int .i64 b3] 32)))
    have he10 := HE9.out.trans (hb10.mono HE9.out.size)
    have HE10 := Kit.hid (he10.alloc he10.size (.cells #[.int .i64 b0, .int .i64 b1, .int .i64 b2, .int .i64 b3] 32))
    clear x0 lx
    have m0 := blk_cell hm10 0
    have m1 := blk_cell hm10 1
    have m2 := blk_cell hm10 2
    have m3 := blk_cell hm10 3
    have lm := blk_lt hm10
    have x0 := blk_cell hx10 0
    have x1 := blk_cell hx10 1
    have x2 := blk_cell hx10 2
    have x3 := blk_cell hx10 3
    have lx := blk_lt hx10
    clear hx10 hm10 he10 hb10 HG2
    go_wp2_with fail
    (with_reducible refine (HJQ.out _ _ _ _ HT10.out).mono ?_); rintro e w11 ⟨rfl, h11, k11⟩
    have HRA11 := trow_same HRA10 fun x e => k11.block _ (HR6.out.2.2.1 x e)
    have HT11 := Kit.hid h11
    have HE11 := Kit.hid (k11.to HE10.out HR6.out.1)
    clear m0 m1 m2 m3 lm x0 x1 x2 x3 lx h11 k11
    go_wp2_with fail
    (with_reducible refine (HALL2.out _ _ _ _ _ HT11.out (by have := HNL.out; omega)).mono ?_); rintro e w12 ⟨vb, rfl, hvb, hb12⟩
    obtain ⟨A12, c12, rfl, hc12, _, _⟩ := own_readsS (by decide) hvb
    have HRB := trow_cells hc12
    have HRA12 := trow_below HRA11 hb12
    have HE12 := Kit.hid (HE11.out.trans (hb12.mono HE11.out.size))
    have HSM : Hid (Calls Try.prog 19 #[.slice A12 L.length c12, .slice (some ad) L.length c4] w12 fun e w' => e = .returned (.bool true) ∧ ∃ m, w' = w12.drewN m) := Kit.hid (by
      have := qsame_any A12 (some ad) (told b L) (told b L) c12 c4 w12 HRB HRA12 (by rw [told_len]; have := HLL.out; omega) (by rw [told_len]; have := HLL.out; omega)
      rw [told_len, decide_eq_true rfl] at this
      exact this)
    clear hvb hc12 hb12
    go_wp2_with fail
    (with_reducible refine HSM.out.mono ?_); rintro e w13 ⟨rfl, m13, rfl⟩
    have HE : Hid (Below w.heap.size w (w12.drewN m13)) := Kit.hid (below_drewN (HB1.out.trans (HE12.out.mono HB1.out.size)) m13)
    go_wp2
    go_ret
    exact ⟨rfl, HE.out⟩
end Go.Proofs.Ytggcbeoinmnopaa.Qu
