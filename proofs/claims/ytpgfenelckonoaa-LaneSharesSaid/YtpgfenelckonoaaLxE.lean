/- Lanes: what is asked of one; a tick run; who is picked. -/
import Derived.Test.YtpgfenelckonoaaLxD
import Derived.Laws.StructEq
import Derived.Deep.SlicePairs
namespace Go.Proofs.Ytpgfenelckonoaa.La
open Go.RowKit Go.Proofs.Ytpgfenelckonoaa.Kit Go.Proofs.Ytpgfenelckonoaa.ShM Go.Proofs.Ytpgfenelckonoaa.Sh Go.Proofs.Ytpgfenelckonoaa.QuM Go.Proofs.Ytpgfenelckonoaa.Qu Go.Proofs.Ytpgfenelckonoaa.LaM
open Go.Proofs.Ytpgfenelckonoaa.Ki (Row row_nil row_of iv iv_len iv_one search_row contains_row clone_row)
set_option linter.unusedVariables false
set_option linter.unusedSimpArgs false
/-- What Get tells. -/
def getM (S : LS) (id : Int) : Mem := match S.home id with
  | none => ⟨0, 0, 0, 0⟩
  | some g => memS S g id
section
variable {w w' : World} {lp n : Nat} {S : LS} {F : Nat → Prop}
/-- A lane, and a row of one's own beside it. -/
def LnO (w : World) (F : Nat → Prop) (w' : World) (lp : Nat) (S : LS) (n : Nat) (v : Value) : Prop :=
  ∃ G, LF G w' lp S n ∧ (∀ k, G k → Ext F w k) ∧ Kept F w w' ∧ (∀ k, v.ownBlock = some k → w.heap.size ≤ k ∧ k < w'.heap.size ∧ ¬ G k)
theorem LnO.ln {v : Value} (h : LnO w F w' lp S n v) : Ln w F w' lp S n := by
  obtain ⟨G, h1, h2, h3, _⟩ := h
  exact ⟨G, h1, h2, h3⟩
set_option maxHeartbeats 1600000 in
theorem get_lane (id : Int) (h : LF F w lp S n) (wl : WL S) (hn0 : 1 ≤ n) (hn : n ≤ 3900) (hi : int64 id) :
    Calls Try.prog 14 #[.pointer (some ⟨lp, 0, none⟩), .int .i64 id] w fun e w' => e = .returned (.tuple #[memV (getM S id), .bool (S.home id).isSome]) ∧ Ln w F w' lp S (n + 1) := by
  have HLF := Kit.hid h
  have HIR := Kit.hid hi
  have HLT := Kit.hid h.lt
  obtain ⟨gp, hgp⟩ : ∃ gp, gp = w.heap.size := ⟨_, rfl⟩
  obtain ⟨W1, hW1⟩ : ∃ W1, W1 = w.alloc (.cells #[.int .i64 0, .int .i64 0, .int .i64 0, .int .i64 0] 35) := ⟨_, rfl⟩
  have HB1 : Hid (Below w.heap.size w W1) := Kit.hid (by rw [hW1]; exact (Below.refl _ _).alloc (Nat.le_refl _) _)
  have HX1 : Hid (W1.heap[gp]? = some (.cells #[.int .i64 0, .int .i64 0, .int .i64 0, .int .i64 0] 35 (0, 0))) := Kit.hid (by rw [hW1, hgp]; exact blk_new _ _)
  have HNF : Hid (¬ F gp) := Kit.hid (fun hf => by have := HLT.out gp hf; omega)
  obtain ⟨mb, mh, mk, vt, Qp, Fq, hFe, hx⟩ := (show LF F w lp S n from h)
  have x1 := blk_cell hx.at_ 1
  have hll := blk_lt hx.at_
  have HEQ : Hid (∀ o, (Instr.lookup 63 (.map (some mh)) (.int .i64 id) true).run Try.prog (w.alloc o) = .ok (.tuple #[.int .i64 ((S.home id).getD 0), .bool (S.home id).isSome]) (w.alloc o)) := Kit.hid (fun o => by
    rw [(hx.home.same (((Below.refl _ w).alloc (Nat.le_refl _) o).block mh hx.home.lt)).look true keyed Try.underlying63 (zero_int _) (int_key Try.underlying3 hi.1 hi.2)]
    cases S.home id <;> rfl)
  have heq := HEQ.out (.cells #[.int .i64 0, .int .i64 0, .int .i64 0, .int .i64 0] 35)
  have HL1 := Kit.hid (h.below HB1.out)
  cases hh : S.home id with
  | none =>
    have HG : Hid (getM S id = ⟨0, 0, 0, 0⟩) := Kit.hid (by unfold getM; rw [hh])
    rw [hh] at heq
    simp only [Option.getD_none, Option.isSome_none] at heq
    have y0 := blk_cell HX1.out 0
    have HGP := Kit.hid hgp
    have HW1 := Kit.hid hW1
    have HR2 : Hid (Ln w F W1 lp S (n + 1)) := Kit.hid ((HLF.out.self_below HB1.out).more (Nat.le_succ _))
    clear h hi hx hFe hgp hW1 hh y0
    go_enter Try.func14, Try.ntmps14
    go_wp2
    rw [← HW1.out, ← HGP.out]
    exact cell_tmp_ret rfl gp _ _ _ _ rfl rfl HX1.out rfl ⟨by rw [HG.out]; rfl, HR2.out⟩
  | some g =>
    have HG : Hid (getM S id = memS S g id) := Kit.hid (by unfold getM; rw [hh])
    have hgr := h.rng hh
    have HIS : Hid ((get (S.Q g).1 id).isSome = true) := Kit.hid ((wl.home id g).1 hh)
    rw [hh] at heq
    simp only [Option.getD_some, Option.isSome_some] at heq
    have HOF := Kit.hid (of_any g HL1.out hn0 (by omega) hgr.1 hgr.2)
    obtain ⟨m, hm⟩ : ∃ m, m = memS S g id := ⟨_, rfl⟩
    have hgv := gv_memS S g id
    rw [← hm] at hgv HG
    rw [HG.out]
    unfold memV at hgv ⊢
    have HGV := Kit.hid hgv
    have HGP := Kit.hid hgp
    have HW1 := Kit.hid hW1
    have HGL := Kit.hid (blk_lt HX1.out)
    clear h hi hx hFe hgp hW1 hh hgv hm hgr
    go_enter Try.func14, Try.ntmps14
    go_wp2_with fail
    rw [← HW1.out, ← HGP.out]
    (with_reducible refine HOF.out.mono ?_); rintro e w2 ⟨p, rfl, G, q1, q2, q3, q4, q5, q6, q7⟩
    have HL2 := Kit.hid q5
    have HG2 : Hid (w2.heap[gp]? = W1.heap[gp]?) := Kit.hid (q5.kept.block gp HGL.out HNF.out)
    have HGW : Hid (gp < w2.heap.size) := Kit.hid (Nat.lt_of_lt_of_le HGL.out q5.kept.size)
    have HGT := Kit.hid (get_any id q1 q2 HIR.out.1 HIR.out.2)
    rw [HGV.out, HIS.out] at HGT
    clear q1 q2 q3 q4 q5 q6 q7 HOF x1 hll heq
    go_wp2_with fail
    (with_reducible refine HGT.out.mono ?_); rintro e w3 ⟨rfl, hb3⟩
    have HX3 : Hid (w3.heap[gp]? = some (.cells #[.int .i64 0, .int .i64 0, .int .i64 0, .int .i64 0] 35 (0, 0))) := Kit.hid ((hb3.block gp HGW.out).trans (HG2.out.trans HX1.out))
    have HL3 := Kit.hid (HL2.out.below hb3)
    have y0 := blk_cell HX3.out 0
    have y1 := blk_cell HX3.out 1
    have y2 := blk_cell HX3.out 2
    have y3 := blk_cell HX3.out 3
    have f0 := blk_frozen HX3.out 0
    have f1 := blk_frozen HX3.out 1
    have f2 := blk_frozen HX3.out 2
    have f3 := blk_frozen HX3.out 3
    have yl := blk_lt HX3.out
    clear hb3 HGT
    go_wp2
    exact cell_tmp_ret rfl gp _ _ _ _ rfl rfl (mem_store HX3.out) rfl ⟨rfl, HL3.out.own HB1.out HLT.out (Nat.le_of_eq HGP.out.symm) HGL.out (set4_grown _ _ _ _ _ _)⟩
theorem queue_lane (g : Int) (h : LF F w lp S n) (hn0 : 1 ≤ n) (hn : n ≤ 3900) (hg : int64 g) :
    Calls Try.prog 13 #[.pointer (some ⟨lp, 0, none⟩), .int .i64 g] w fun e w' => ∃ v, e = .returned v ∧ w'.ownsRow w.heap.size 35 4 v (S.Q g).1.length (flatM (S.Q g).2 (S.Q g).1) ∧ LnO w F w' lp S (n + 1) v := by
  have HOF := Kit.hid (of_any g h hn0 (by omega) hg.1 hg.2)
  clear h
  go_enter Try.func13, Try.ntmps13
  go_wp2_with fail
  (with_reducible refine HOF.out.mono ?_); rintro e w2 ⟨p, rfl, G, q1, q2, q3, q4, ⟨G5, q5, q6, q7⟩, q8⟩
  have HA := Kit.hid (qall_any q1 q2 (by omega))
  have H5 := Kit.hid q5
  have H6 := Kit.hid q6
  have H7 := Kit.hid q7
  clear q1 q2 q3 q4 q5 q6 q7 q8 HOF
  go_wp2_with fail
  (with_reducible refine HA.out.mono ?_); rintro e w3 ⟨v, rfl, hv, hb3⟩
  have HV : Hid (w3.ownsRow w.heap.size 35 4 v (S.Q g).1.length (flatM (S.Q g).2 (S.Q g).1)) := Kit.hid (by
    refine ⟨hv.1, ?_⟩
    rcases hv.2 with h | ⟨g', cap, cur, h1, h2, h3⟩
    · exact .inl h
    · exact .inr ⟨g', cap, cur, h1, Nat.le_trans H7.out.size h2, h3⟩)
  have HLO : Hid (LnO w F w3 lp S (n + 1) v) := Kit.hid ⟨G5, H5.out.below hb3, H6.out, H7.out.below hb3, fun k hk => by
    have h1 := hv.lt k hk
    have := H7.out.size
    exact ⟨by omega, h1.2, fun hg => by have := H5.out.lt k hg; omega⟩⟩
  obtain ⟨A, c, rfl, _, _, _⟩ := own_readsS (by decide) hv
  clear hv hb3 HA
  go_wp2
  go_ret
  exact ⟨_, rfl, HV.out, HLO.out⟩
theorem base_lane (g : Int) (h : LF F w lp S n) (hn0 : 1 ≤ n) (hn : n ≤ 3900) (hg : int64 g) :
    Calls Try.prog 15 #[.pointer (some ⟨lp, 0, none⟩), .int .i64 g] w fun e w' => e = .returned (.int .i64 (S.Q g).2) ∧ Ln w F w' lp S (n + 1) := by
  have HOF := Kit.hid (of_any g h hn0 (by omega) hg.1 hg.2)
  clear h
  go_enter Try.func15, Try.ntmps15
  go_wp2_with fail
  (with_reducible refine HOF.out.mono ?_); rintro e w2 ⟨p, rfl, G, q1, q2, q3, q4, q5, q8⟩
  have HA := Kit.hid (base_any q1)
  have H5 := Kit.hid q5
  clear q1 q2 q3 q4 q5 q8 HOF
  go_wp2_with fail
  (with_reducible refine HA.out.mono ?_); rintro e w3 ⟨rfl, hb3⟩
  have H6 := Kit.hid (H5.out.below hb3)
  clear hb3 HA
  go_wp2
  go_ret
  exact ⟨rfl, H6.out⟩
theorem tasks_lane (h : LF F w lp S n) (hn : n ≤ 100000) :
    Calls Try.prog 18 #[.pointer (some ⟨lp, 0, none⟩)] w fun e w' => ∃ v, e = .returned v ∧ Row w.heap.size w' v S.tasks ∧ Below w.heap.size w w' := by
  obtain ⟨mb, mh, mk, vt, Qp, Fq, hFe, hx⟩ := h
  have c2 := blk_cell hx.at_ 2
  have hll := blk_lt hx.at_
  have HC := Kit.hid (clone_row hx.row (by have := hx.tn; omega))
  obtain ⟨A, c, rfl, _, _, _⟩ := hx.row.reads
  clear hx hFe
  go_enter Try.func18, Try.ntmps18
  go_wp2_with fail
  (with_reducible refine HC.out.mono ?_); rintro e w1 ⟨v, rfl, hr, hb⟩
  have HR := Kit.hid hr
  have HB := Kit.hid hb
  obtain ⟨A1, c1, rfl, _, _, _⟩ := hr.reads
  clear hr hb HC
  go_wp2
  go_ret
  exact ⟨_, rfl, HR.out, HB.out⟩
set_option maxHeartbeats 800000 in
theorem weigh_lane (id u : Int) (h : LF F w lp S n) (hn0 : 1 ≤ n) (hn : n ≤ 3900) (hi : int64 id) :
    Calls Try.prog 45 #[.pointer (some ⟨lp, 0, none⟩), .int .i64 id, .int .i64 u] w fun e w' => e = .returned (.int .i64 (weighS S id u).1) ∧ Ln w F w' lp (weighS S id u).2 (n + 2) := by
  have HLF := Kit.hid h
  have HIR := Kit.hid hi
  obtain ⟨mb, mh, mk, vt, Qp, Fq, hFe, hx⟩ := (show LF F w lp S n from h)
  have x1 := blk_cell hx.at_ 1
  have hll := blk_lt hx.at_
  have heq : (Instr.lookup 63 (.map (some mh)) (.int .i64 id) true).run Try.prog w = .ok (.tuple #[.int .i64 ((S.home id).getD 0), .bool (S.home id).isSome]) w := by
    rw [hx.home.look true keyed Try.underlying63 (zero_int _) (int_key Try.underlying3 hi.1 hi.2)]
    cases S.home id <;> rfl
  cases hh : S.home id with
  | none =>
    have HR : Hid (weighS S id u = (8, S)) := Kit.hid (by unfold weighS; rw [hh])
    rw [hh] at heq
    simp only [Option.getD_none, Option.isSome_none] at heq
    clear h hi hx hFe hh
    go_enter Try.func45, Try.ntmps45
    go_wp2
    go_ret
    rw [HR.out]
    exact ⟨rfl, HLF.out.self.more (by omega)⟩
  | some g =>
    have HR : Hid (weighS S id u = ((weighR (S.Q g).1 id u).1, { S with Q := upd S.Q g ((weighR (S.Q g).1 id u).2, (S.Q g).2) })) := Kit.hid (by unfold weighS; rw [hh])
    have hgr := h.rng hh
    rw [hh] at heq
    simp only [Option.getD_some, Option.isSome_some] at heq
    have HOF := Kit.hid (of_any g h hn0 (by omega) hgr.1 hgr.2)
    clear h hi hx hFe hh
    go_enter Try.func45, Try.ntmps45
    go_wp2_with fail
    (with_reducible refine HOF.out.mono ?_); rintro e w2 ⟨p, rfl, G, q1, q2, q3, q4, q5, q8⟩
    have HW := Kit.hid (qweigh_any id u q1 q2 (by omega) HIR.out.1 HIR.out.2)
    have H2 := Kit.hid q2
    have H4 := Kit.hid q4
    clear q1 q2 q3 q4 q5 q8 HOF x1 hll heq
    go_wp2_with fail
    (with_reducible refine HW.out.mono ?_); rintro e w3 ⟨rfl, q⟩
    have HL := Kit.hid (H4.out w3 _ _ (n + 1 + 1) q (Nat.le_succ _) (H2.out.weigh id u))
    clear q HW
    go_wp2
    go_ret
    rw [HR.out]
    exact ⟨rfl, HL.out⟩
set_option maxHeartbeats 1600000 in
theorem forget_lane (g : Int) (h : LF F w lp S n) (hn0 : 1 ≤ n) (hn : n ≤ 3900) (hg : int64 g) :
    Calls Try.prog 46 #[.pointer (some ⟨lp, 0, none⟩), .int .i64 g] w fun e w' => e = .returned (.int .i64 (forgetS S g).1) ∧ Ln w F w' lp (forgetS S g).2 (n + 1) := by
  have HKEY : Hid (keyOf Try.prog 3 (.int .i64 g) = some (.int .i64 g)) := Kit.hid (int_key Try.underlying3 hg.1 hg.2)
  have HE := Kit.hid (empty_any g h hn0 hn hg.1 hg.2)
  clear h
  go_enter Try.func46, Try.ntmps46
  by_cases hq : (S.Q g).1 = []
  · have HR : Hid (forgetS S g = (0, { S with Q := upd S.Q g ([], 0), kept := upd S.kept g none })) := Kit.hid (by unfold forgetS; rw [if_pos hq])
    rw [decide_eq_true hq] at HE
    clear hq
    go_wp2_with fail
    (with_reducible refine HE.out.mono ?_); rintro e w1 ⟨rfl, hl⟩
    obtain ⟨F1, h1, h2, h3⟩ := hl
    obtain ⟨mb, mh, mk, vt, Qp, Fq, hFe, hx⟩ := h1
    obtain ⟨w2, hrun, hm, hg2⟩ := hx.by_.drop (ty := 0) keyed Try.underlying62 HKEY.out
    have hl2 := hx.strike hm hg2
    have hll2 : Ln w F w2 lp { S with Q := upd S.Q g ([], 0) } (n + 1) := Ln.trans h2 h3 (by rw [hFe]; exact hl2)
    have ha2 : w2.heap[lp]? = some (.cells #[.map (some mb), .map (some mh), vt, .map (some mk)] 66 (0, 0)) := (hg2.block lp (blk_lt hx.at_) (fun e => hx.parts.1.1 (Option.some.inj e))).trans hx.at_
    obtain ⟨F2, k1, k2, k3⟩ := hll2
    obtain ⟨nb, nh, nk, ut, Rp, Rq, hFe2, hx2⟩ := k1
    have hnk : nk = mk := by
      have h1 := hx2.at_.symm.trans ha2
      have h2 : nb = mb ∧ nh = mh ∧ ut = vt ∧ nk = mk := by simpa using h1
      exact h2.2.2.2
    subst hnk
    obtain ⟨w3, hrun3, hm3, hg3⟩ := hx2.kept.drop (ty := 0) keyed Try.underlying64 HKEY.out
    have HL3 : Hid (Ln w F w3 lp { S with Q := upd S.Q g ([], 0), kept := upd S.kept g none } (n + 1)) := Kit.hid (Ln.trans k2 k3 (by
      rw [hFe2]
      exact hx2.setKept (H := upd S.kept g none) (n' := n + 1) (hm3.congr fun j => by
        unfold upd
        try dsimp only
        split <;> rfl) hg3 (Nat.le_refl _)))
    have x1 := blk_cell hx.at_ 0
    have x2 := blk_cell ha2 3
    have l1 := blk_lt hx.at_
    have l2 := blk_lt ha2
    clear HE h2 h3 hFe hx hm hg2 hl2 ha2 k2 k3 hFe2 hx2 hm3 hg3
    go_wp2
    go_ret
    rw [HR.out]
    exact ⟨rfl, HL3.out⟩
  · have HR : Hid (forgetS S g = (12, S)) := Kit.hid (by unfold forgetS; rw [if_neg hq])
    rw [decide_eq_false hq] at HE
    clear hq
    go_wp2_with fail
    (with_reducible refine HE.out.mono ?_); rintro e w1 ⟨rfl, hl⟩
    have HL := Kit.hid hl
    clear hl HE
    go_wp2
    go_ret
    rw [HR.out]
    exact ⟨rfl, HL.out⟩
/-- A group that has members has a queue. -/
theorem of_full (g : Int) (h : LF F w lp S n) (hq : (S.Q g).1 ≠ []) (hg : int64 g) :
    Calls Try.prog 38 #[.pointer (some ⟨lp, 0, none⟩), .int .i64 g] w fun e w' => ∃ p, e = .returned (.pointer (some ⟨p, 0, none⟩)) ∧ w' = w ∧ OfP w F w lp S n g p := by
  obtain ⟨mb, mh, mk, vt, Qp, Fq, hFe, hx⟩ := h
  have HMB : Hid (MapV Try.prog 3 w mb (qv Qp) n) := Kit.hid hx.by_
  have HKEY : Hid (keyOf Try.prog 3 (.int .i64 g) = some (.int .i64 g)) := Kit.hid (int_key Try.underlying3 hg.1 hg.2)
  have hp0 := blk_cell hx.at_ 0
  have hll := blk_lt hx.at_
  cases hget : Qp g with
  | none => exact absurd (by rw [hx.none_ g hget]) hq
  | some p =>
    have HLK : Hid ((if false = true then Value.tuple #[(qv Qp g).getD (.pointer none), .bool (qv Qp g).isSome] else (qv Qp g).getD (.pointer none)) = .pointer (some ⟨p, 0, none⟩)) := Kit.hid (by simp [qv, hget])
    have HR : Hid (OfP w F w lp S n g p) := Kit.hid (by rw [hFe]; exact of_post hx hget (fun k hk => .inl hk) (Kept.refl _ _) rfl)
    clear hx hget hFe hq
    go_enter Try.func38, Try.ntmps38
    go_wp2_with (at_lookup; refine wpList_lookV rfl _ _ 62 false rfl 3 82 keyed Try.underlying62 _ (zero_ptr _) mb n (qv Qp) rfl HMB.out g rfl HKEY.out _ HLK.out ?_)
    go_wp2_with (at_lookup; refine wpList_lookV rfl _ _ 62 false rfl 3 82 keyed Try.underlying62 _ (zero_ptr _) mb n (qv Qp) rfl HMB.out g rfl HKEY.out _ HLK.out ?_)
    go_ret
    exact ⟨p, rfl, rfl, HR.out⟩
def muW (S : LS) (g : Int) : Nat := if g = 0 then 0 else 1 + (wayF S 16 g).length
theorem mu_way (wl : WL S) {l : List Int} {g : Int} (h : IsWay S g l) (hl : l.length ≤ 8) : muW S g = l.length := by
  unfold muW
  cases l with
  | nil =>
    have h : g = 0 := h
    rw [if_pos h]; rfl
  | cons y l =>
    obtain ⟨rfl, h2, _, k, h4, h5⟩ := h
    rw [if_neg h2, chain_way (zero_home wl) (way_chain h4 h5) (by simp at hl; omega), List.length_cons]
    omega
theorem way_is (wl : WL S) {id g : Int} (h : S.home id = some g) : ∃ l, IsWay S g l ∧ l.length ≤ 8 ∧ wayS S id = l := by
  obtain ⟨l, hl, hn⟩ := wl.way id g h
  exact ⟨l, hl, hn, chain_way (zero_home wl) (way_chain h hl) (by omega)⟩
set_option maxHeartbeats 1600000 in
theorem way_lane (id : Int) (h : LF F w lp S n) (wl : WL S) (hi : int64 id) :
    Calls Try.prog 19 #[.pointer (some ⟨lp, 0, none⟩), .int .i64 id] w fun e w' => ∃ v, e = .returned v ∧ Row w.heap.size w' v (wayS S id) ∧ Below w.heap.size w w' := by
  have HWL := Kit.hid wl
  have HLF := Kit.hid h
  have HB0 : Hid (Below w.heap.size w w) := Kit.hid (Below.refl _ _)
  have HR0 : Hid (Row w.heap.size w (.slice none 0 0) []) := Kit.hid (row_nil _ _)
  obtain ⟨mb, mh, mk, vt, Qp, Fq, hFe, hx⟩ := h
  have HX := Kit.hid hx
  have HLK : Hid (∀ (x : Int) (w' : World), Below w.heap.size w w' → int64 x → (Instr.lookup 63 (.map (some mh)) (.int .i64 x) true).run Try.prog w' = .ok (.tuple #[.int .i64 ((S.home x).getD 0), .bool (S.home x).isSome]) w') := Kit.hid (fun x w' hb hxr => by
    rw [(HX.out.home.same (hb.block mh HX.out.home.lt)).look true keyed Try.underlying63 (zero_int w') (int_key Try.underlying3 hxr.1 hxr.2)]
    cases S.home x <;> rfl)
  have HAT : Hid (∀ (w' : World), Below w.heap.size w w' → w'.cell? ⟨lp, 1, none⟩ = some (.map (some mh)) ∧ lp < w'.heap.size) := Kit.hid (fun w' hb => ⟨blk_cell (blk_below HX.out.at_ hb) 1, blk_lt (blk_below HX.out.at_ hb)⟩)
  have e0 := HLK.out id w HB0.out hi
  have x0 := (HAT.out w HB0.out).1
  have l0 := (HAT.out w HB0.out).2
  obtain ⟨b0, hb0⟩ : ∃ b0, b0 = (S.home id).isSome := ⟨_, rfl⟩
  obtain ⟨g0, hg0⟩ : ∃ g0, g0 = (S.home id).getD 0 := ⟨_, rfl⟩
  have HST : Hid ((b0 = false ∧ wayS S id = []) ∨ (b0 = true ∧ ∃ l, IsWay S g0 l ∧ wayS S id = [] ++ l ∧ ([] : List Int).length + l.length ≤ 8)) := Kit.hid (by
    cases hh : S.home id with
    | none => rw [hh] at hb0; exact .inl ⟨hb0, by unfold wayS wayF; rw [hh]⟩
    | some g =>
      rw [hh] at hb0 hg0
      obtain ⟨l, h1, h2, h3⟩ := way_is HWL.out hh
      rw [hg0]
      exact .inr ⟨hb0, l, h1, by rw [h3]; rfl, by simpa using h2⟩)
  rw [← hb0, ← hg0] at e0
  clear hi hx hFe hb0 hg0
  go_enter Try.func19, Try.ntmps19
  go_wp2_with fail
  clear e0 x0 l0
  go_loopw [5, 6, 7] (fun v5 v6 v7 wr => ∃ (vo : Value) (g : Int) (b : Bool) (pre : List Int), vo = v5 ∧ v6 = .int .i64 g ∧ v7 = .bool b ∧ Hid ((b = false ∧ wayS S id = pre) ∨ (b = true ∧ ∃ l, IsWay S g l ∧ wayS S id = pre ++ l ∧ pre.length + l.length ≤ 8)) ∧ Hid (Row w.heap.size wr vo pre) ∧ Hid (Below w.heap.size w wr)) (fun _ v6 _ _ => muW S (intOf v6))
  case atStart => exact ⟨_, g0, b0, [], rfl, rfl, rfl, HST, HR0, HB0⟩
  case round =>
    obtain ⟨vo, g, b, pre, rfl, rfl, rfl, HS, HR, HB⟩ := hrel
    by_cases hend : b = false ∨ g = 0
    · have HE : Hid (wayS S id = pre) := Kit.hid (by
        rcases HS.out with ⟨_, h⟩ | ⟨hb, l, h1, h2, _⟩
        · exact h
        · rcases hend with e | e
          · rw [hb] at e; cases e
          · cases l with
            | nil => rw [h2, List.append_nil]
            | cons y l => exact absurd e h1.2.1)
      obtain ⟨A0, c0, rfl, _, _, _⟩ := HR.out.reads
      cases b with
      | false =>
        clear hend
        go_wp2
        go_ret
        rw [HE.out]
        exact ⟨_, rfl, HR.out, HB.out⟩
      | true =>
        have hg : g = 0 := by
          rcases hend with e | e
          · cases e
          · exact e
        subst hg
        clear hend
        go_wp2
        go_ret
        rw [HE.out]
        exact ⟨_, rfl, HR.out, HB.out⟩
    · have hg0 : g ≠ 0 := fun e => hend (.inr e)
      have hbt : b = true := by cases b; exact absurd (.inl rfl) hend; rfl
      subst hbt
      rcases HS.out with ⟨h, _⟩ | ⟨_, l, h1, h2, h3⟩
      · cases h
      cases l with
      | nil => exact absurd h1 hg0
      | cons y l =>
        obtain ⟨rfl, _, _, k, h4, h5⟩ := h1
        have hyi : int64 y := by
          obtain ⟨m, hm, rfl⟩ := home_mem HWL.out h4
          have := (HWL.out.qb k).each m hm
          exact ⟨by omega, by omega⟩
        have HYI := Kit.hid hyi
        have hy1 : (y != 0) = true := by simp [hg0]
        have HSN : Hid ((true = false ∧ wayS S id = pre ++ [y]) ∨ (true = true ∧ ∃ l, IsWay S k l ∧ wayS S id = (pre ++ [y]) ++ l ∧ (pre ++ [y]).length + l.length ≤ 8)) := Kit.hid (.inr ⟨rfl, l, h5, by rw [h2]; simp, by simp at h3 ⊢; omega⟩)
        have hpl : pre.length ≤ 8 := by omega
        have HMU : Hid (muW S k < muW S y) := Kit.hid (by
          have e1 := mu_way HWL.out h5 (by simp at h3; omega)
          have e2 := mu_way (S := S) (g := y) (l := y :: l) HWL.out ⟨rfl, hg0, by assumption, k, h4, h5⟩ (by simp at h3 ⊢; omega)
          rw [e1, e2, List.length_cons]
          omega)
        have HHK := Kit.hid h4
        have hownA : (wr.alloc (.cells #[.int .i64 y] 3)).ownsRow w.heap.size 3 1 vo pre.length (iv pre) := HR.out.below ((Below.refl _ _).alloc (Nat.le_refl _) _)
        have HBA := Kit.hid (HB.out.alloc HB.out.size (.cells #[.int .i64 y] 3))
        have hcA := lit_int wr y
        clear hend hg0 h2 h3 h4 h5 hyi
        go_wp2_with (at_builtin; refine wpList_append_src rfl _ _ 36 rfl w.heap.size 3 (.int .i64 0) 8 Try.underlying36 infoI rfl vo _ _ rfl hownA (some ⟨wr.heap.size, 0, none⟩) 1 1 [.int .i64 y] rfl rfl hcA (fun u hu => by rw [List.mem_singleton.1 hu]; rfl) (by unfold maxLen; omega) (by omega) HBA.out.size ?_
                     intro v7 w7 hown7 hg7 _
                     have HR7 : Hid (Row w.heap.size w7 v7 (pre ++ [y])) := Kit.hid (row_push (k := [y]) hown7)
                     have HB7 : Hid (Below w.heap.size w w7) := Kit.hid (row_below HBA.out hownA hg7 HBA.out.size)
                     have e7 := HLK.out y w7 HB7.out HYI.out
                     have x7 := (HAT.out w7 HB7.out).1
                     have l7 := (HAT.out w7 HB7.out).2
                     rw [HHK.out] at e7
                     simp only [Option.getD_some, Option.isSome_some] at e7
                     clear hown7 hg7)
        go_roundw
        case rel => exact ⟨v7, k, true, pre ++ [y], rfl, rfl, rfl, HSN, HR7, HB7⟩
        case measure => exact HMU.out
theorem new_lane (w : World) :
    Calls Try.prog 9 #[] w fun e w' => ∃ lp, e = .returned (.pointer (some ⟨lp, 0, none⟩)) ∧ Ln w (fun _ => False) w' lp LS.new 1 ∧ Below w.heap.size w w' := by
  obtain ⟨w1, hw1⟩ : ∃ w1, w1 = w.alloc (.map #[] 0) := ⟨_, rfl⟩
  obtain ⟨w2, hw2⟩ : ∃ w2, w2 = w1.alloc (.map #[] 0) := ⟨_, rfl⟩
  obtain ⟨w3, hw3⟩ : ∃ w3, w3 = w2.alloc (.map #[] 0) := ⟨_, rfl⟩
  have h1 : w1.heap.size = w.heap.size + 1 := by rw [hw1]; simp
  have h2 : w2.heap.size = w.heap.size + 1 + 1 := by rw [hw2, World.size_alloc, h1]
  have h3 : w3.heap.size = w.heap.size + 1 + 1 + 1 := by rw [hw3, World.size_alloc, h2]
  have m1 : MapV Try.prog 3 w1 w.heap.size (fun _ => none) 0 := by rw [hw1]; exact mapV_made w _ _
  have m2 : MapV Try.prog 3 w2 (w.heap.size + 1) (fun _ => none) 0 := by rw [hw2, ← h1]; exact mapV_made w1 _ _
  have m3 : MapV Try.prog 3 w3 (w.heap.size + 1 + 1) (fun _ => none) 0 := by rw [hw3, ← h2]; exact mapV_made w2 _ _
  have b1 : Below w.heap.size w w1 := by rw [hw1]; exact (Below.refl _ _).alloc (Nat.le_refl _) _
  have b2 : Below w1.heap.size w1 w2 := by rw [hw2]; exact (Below.refl _ _).alloc (Nat.le_refl _) _
  have b3 : Below w2.heap.size w2 w3 := by rw [hw3]; exact (Below.refl _ _).alloc (Nat.le_refl _) _
  have HB : Hid (∀ o, Below w.heap.size w (w3.alloc o)) := Kit.hid (fun o => ((b1.trans (b2.mono b1.size)).trans (b3.mono (by omega))).alloc (by omega) o)
  have HL : Hid (∀ w4, w4 = w3.alloc (.cells #[.map (some w.heap.size), .map (some (w.heap.size + 1)), .slice none 0 0, .map (some (w.heap.size + 1 + 1))] 66) → Ln w (fun _ => False) w4 w3.heap.size LS.new 1) := Kit.hid (fun w4 e => by
    have b4 : Below w3.heap.size w3 w4 := by rw [e]; exact (Below.refl _ _).alloc (Nat.le_refl _) _
    have hb : Below w.heap.size w w4 := by rw [e]; exact HB.out _
    refine ⟨_, ⟨w.heap.size, w.heap.size + 1, w.heap.size + 1 + 1, .slice none 0 0, fun _ => none, fun _ _ => False, rfl, ⟨?_, ?_, ?_, ?_, row_nil _ _, fun j p h => (by cases h), fun j h => rfl, fun i j p p' k h => (by cases h), ⟨by omega, by omega, by omega⟩, fun j p k h => (by cases h), fun j => QB.nil, List.Pairwise.nil, Nat.zero_le _, fun x g h => (by cases h)⟩⟩, fun k hk => ?_, (Kept.refl _ w).below hb⟩
    · rw [e]; exact blk_new _ _
    · exact (((m1.same (b2.block _ (by omega))).same (b3.block _ (by omega))).same (b4.block _ (by omega))).more (Nat.zero_le _)
    · exact ((m2.same (b3.block _ (by omega))).same (b4.block _ (by omega))).more (Nat.zero_le _)
    · exact (m3.same (b4.block _ (by omega))).more (Nat.zero_le _)
    · rcases hk with rfl | rfl | rfl | rfl | hk | ⟨j, p, h, _⟩
      · exact .inr (by omega)
      · exact .inr (by omega)
      · exact .inr (by omega)
      · exact .inr (by omega)
      · cases hk
      · cases h)
  have hmk1 := run_makeMap (P := Try.prog) 62 w
  have hmk2 : (Instr.makeMap 63 none).run Try.prog w1 = .ok (.map (some (w.heap.size + 1))) w2 := by rw [← h1, hw2]; rfl
  have hmk3 : (Instr.makeMap 64 none).run Try.prog w2 = .ok (.map (some (w.heap.size + 1 + 1))) w3 := by rw [← h2, hw3]; rfl
  rw [← hw1] at hmk1
  clear hw1 hw2 hw3 h1 h2 h3 m1 m2 m3 b1 b2 b3
  go_enter Try.func9, Try.ntmps9
  go_wp2
  go_ret
  exact ⟨_, rfl, HL.out _ rfl, HB.out _⟩
end
end Go.Proofs.Ytpgfenelckonoaa.La
namespace Go.Proofs.Ytpgfenelckonoaa.La
open Go.RowKit Go.Proofs.Ytpgfenelckonoaa.Kit Go.Proofs.Ytpgfenelckonoaa.ShM Go.Proofs.Ytpgfenelckonoaa.Sh Go.Proofs.Ytpgfenelckonoaa.QuM Go.Proofs.Ytpgfenelckonoaa.Qu Go.Proofs.Ytpgfenelckonoaa.LaM
open Go.Proofs.Ytpgfenelckonoaa.Ki (Row row_nil row_of iv iv_len iv_one search_row contains_row clone_row)
set_option linter.unusedVariables false
set_option linter.unusedSimpArgs false
theorem field_v (a b : Int) (w : World) : (Instr.field 33 (.agg #[.int .i64 a, .int .i64 b]) 0).run Try.prog w = .ok (.int .i64 a) w := by
  simp [Instr.field, run_underlying Try.underlying33, asAgg, go_sem]
section
variable {w w' : World} {lp n : Nat} {S : LS} {F : Nat → Prop}
theorem member_some (wl : WL S) {id g : Int} (h : S.home id = some g) : ∃ y, get (S.Q g).1 id = some y ∧ y ∈ (S.Q g).1 ∧ y.id = id := by
  have h1 := (wl.home id g).1 h
  cases hq : get (S.Q g).1 id with
  | none => rw [hq] at h1; cases h1
  | some y => exact ⟨y, rfl, (get_mem hq).1, (get_mem hq).2⟩
set_option maxRecDepth 20000 in
set_option maxHeartbeats 3200000 in
theorem far_lane (id : Int) {g : Int} (h : LF F w lp S n) (wl : WL S) (hn : n ≤ 3900) (hh : S.home id = some g) :
    Calls Try.prog 37 #[.pointer (some ⟨lp, 0, none⟩), .int .i64 id] w fun e w' => e = .returned (.bool (farS S id)) ∧ Below w.heap.size w w' := by
  obtain ⟨y, hy, hym, hyid⟩ := member_some wl hh
  have hb := (wl.qb g).each y hym
  have hb0 := (wl.qb g).b0
  have hb1 := (wl.qb g).b1
  have HLF := Kit.hid h
  have HI : Hid (int64 id) := Kit.hid ⟨by omega, by omega⟩
  have hgr := h.rng hh
  obtain ⟨base, hbase⟩ : ∃ base, base = (S.Q g).2 := ⟨_, rfl⟩
  have HFS : Hid (farS S id = decide (2305843009213693952 < y.v + (1048576 * 1 + y.rem) / y.wt)) := Kit.hid (by
    unfold farS
    rw [hh]
    dsimp only [Option.getD_some]
    rw [hy]
    rfl)
  obtain ⟨mb, mh, mk, vt, Qp, Fq, hFe, hx⟩ := (show LF F w lp S n from h)
  have x1 := blk_cell hx.at_ 1
  have hll := blk_lt hx.at_
  have HMH := Kit.hid hx.home
  have HKEY : Hid (keyOf Try.prog 3 (.int .i64 id) = some (.int .i64 id)) := Kit.hid (int_key Try.underlying3 HI.out.1 HI.out.2)
  have HLK : Hid ((if false = true then Value.tuple #[((S.home id).map (Value.int .i64)).getD (.int .i64 0), .bool ((S.home id).map (Value.int .i64)).isSome] else ((S.home id).map (Value.int .i64)).getD (.int .i64 0)) = .int .i64 g) := Kit.hid (by rw [hh]; rfl)
  have HOF := Kit.hid (of_full g h (fun e => by rw [e] at hym; cases hym) hgr)
  have HGV : Hid (gv (get (S.Q g).1 id) (S.Q g).2 = .agg #[.int .i64 y.id, .int .i64 y.wt, .int .i64 (y.v - base), .int .i64 y.rem] ∧ (get (S.Q g).1 id).isSome = true) := Kit.hid (by rw [hy, hbase]; exact ⟨rfl, rfl⟩)
  have HB2 : Hid ((S.Q g).2 = base) := Kit.hid hbase.symm
  have HY : Hid (1 ≤ y.wt ∧ y.wt ≤ 1048576 ∧ 0 ≤ y.rem ∧ y.rem < y.wt ∧ base ≤ y.v ∧ y.v ≤ 2305843009213693952 ∧ 0 ≤ base) := Kit.hid (by rw [hbase]; exact ⟨by omega, by omega, by omega, by omega, by omega, by omega, by omega⟩)
  obtain ⟨yr, hyr⟩ : ∃ yr, yr = (1048576 * 1 + y.rem) / y.wt := ⟨_, rfl⟩
  have HRN := Kit.hid (fun (w' : World) => run_any y.v y.rem y.wt 1 w' HY.out.1 HY.out.2.1 (by omega) (by omega) (by have := HY.out; omega) HY.out.2.2.2.2.2.1 HY.out.2.2.1 HY.out.2.2.2.1)
  rw [← hyr] at HFS HRN
  rw [HFS.out]
  have hsum : IntKind.i64.wrap (base + (y.v - base)) = y.v := by rw [IntKind.wrap_i64]; have := HY.out; omega
  have hfv := field_v
  clear h hy hym hb hb0 hb1 hgr hx hFe hh hbase hyr hyid
  go_enter Try.func37, Try.ntmps37
  go_wp2_with (at_lookup; refine wpList_lookV rfl _ _ 63 false rfl 3 3 keyed Try.underlying63 _ (zero_int _) mh n (fun j => (S.home j).map (Value.int .i64)) rfl HMH.out id rfl HKEY.out _ HLK.out ?_)
  (with_reducible refine HOF.out.mono ?_); rintro e w2 ⟨p, rfl, hw2, G, q1, q2, q3, q4, q5, q6, q7⟩
  subst hw2
  have HQ1 := Kit.hid q1
  have HGT := Kit.hid (get_any id q1 q2 HI.out.1 HI.out.2)
  rw [HGV.out.1, HGV.out.2] at HGT
  clear q1 q2 q3 q4 q5 q6 q7 HOF x1 hll
  go_wp2_with fail
  (with_reducible refine HGT.out.mono ?_); rintro e w3 ⟨rfl, hb3⟩
  obtain ⟨w4, hw4⟩ : ∃ w4, w4 = w3.alloc (.cells #[.int .i64 y.id, .int .i64 y.wt, .int .i64 (y.v - base), .int .i64 y.rem] 35) := ⟨_, rfl⟩
  have HB4 : Hid (Below w2.heap.size w2 w4) := Kit.hid (by rw [hw4]; exact hb3.alloc hb3.size _)
  have HX4 : Hid (w4.heap[w3.heap.size]? = some (.cells #[.int .i64 y.id, .int .i64 y.wt, .int .i64 (y.v - base), .int .i64 y.rem] 35 (0, 0))) := Kit.hid (by rw [hw4]; exact blk_new _ _)
  have HS4 : Hid (∀ w' : World, Below w4.heap.size w4 w' → w'.cell? ⟨w3.heap.size, 1, none⟩ = some (.int .i64 y.wt) ∧ w'.cell? ⟨w3.heap.size, 2, none⟩ = some (.int .i64 (y.v - base)) ∧ w'.cell? ⟨w3.heap.size, 3, none⟩ = some (.int .i64 y.rem)) := Kit.hid (fun w' hb => by
    have h := blk_below HX4.out hb
    exact ⟨blk_cell h 1, blk_cell h 2, blk_cell h 3⟩)
  have HBS : Hid (∀ w', Below w4.heap.size w4 w' → Calls Try.prog 42 #[.pointer (some ⟨p, 0, none⟩)] w' fun e w'' => e = .returned (.int .i64 base) ∧ Below w'.heap.size w' w'') := Kit.hid (fun w' hb => by
    have hb' := HB4.out.trans (hb.mono HB4.out.size)
    have := base_any (HQ1.out.kept fun k hk => hb'.block k (HQ1.out.lt k hk))
    rw [HB2.out] at this
    exact this)
  clear hb3 HGT
  go_wp2_with fail
  rw [← hw4]
  clear hw4
  refine wp_region_noPanic ?_
  refine wp_region_held_drew (S := fun (w' : World) => Below w4.heap.size w4 w') (by kernel_rfl) (Below.refl _ w4).drew (fun hHeld => ?_)
  refine wpAnyH_take (i := 0) (hi := by simp only [List.getElem?_toArray, List.getElem?_cons_succ, List.getElem?_cons_zero]; rfl) (v := ?_) (by kernel_rfl) (by kernel_rfl) (by kernel_rfl) (fun _ _ _ h => h) (Or.inl ⟨by rfl, ?_⟩) (by assumption) ?_
  rotate_left
  · (intro w hSw; (try dsimp only at hSw); go_simp; first | done | with_reducible rfl)
  try simp only [Act.put, List.setIfInBounds_toArray, List.set_cons_zero, List.set_cons_succ]
  refine wpAnyH_take (i := 2) (hi := by simp only [List.getElem?_toArray, List.getElem?_cons_succ, List.getElem?_cons_zero]; rfl) (v := ?_) (by kernel_rfl) (by kernel_rfl) (by kernel_rfl) (fun _ _ _ h => h) (Or.inl ⟨by rfl, ?_⟩) (by assumption) ?_
  rotate_left
  · (intro w hSw; (try dsimp only at hSw); go_simp; first | done | with_reducible rfl)
  try simp only [Act.put, List.setIfInBounds_toArray, List.set_cons_zero, List.set_cons_succ]
  refine wpAnyH_take (i := 3) (hi := by simp only [List.getElem?_toArray, List.getElem?_cons_succ, List.getElem?_cons_zero]; rfl) (v := ?_) (by kernel_rfl) (by kernel_rfl) (by kernel_rfl) (fun _ _ _ h => h) (Or.inl ⟨by rfl, ?_⟩) (by assumption) ?_
  rotate_left
  · (intro w hSw; (try dsimp only at hSw); go_simp; first | done | with_reducible rfl)
  try simp only [Act.put, List.setIfInBounds_toArray, List.set_cons_zero, List.set_cons_succ]
  refine wpAnyH_take (i := 4) (hi := by simp only [List.getElem?_toArray, List.getElem?_cons_succ, List.getElem?_cons_zero]; rfl) (v := ?_) (by kernel_rfl) (by kernel_rfl) (by kernel_rfl) (fun _ _ _ h => h) (Or.inl ⟨by rfl, ?_⟩) (by assumption) ?_
  rotate_left
  · (intro w hSw; (try dsimp only at hSw); (obtain ⟨x1, x2, x3⟩ := HS4.out _ hSw); go_simp; first | done | with_reducible rfl)
  try simp only [Act.put, List.setIfInBounds_toArray, List.set_cons_zero, List.set_cons_succ]
  refine wpAnyH_take (i := 6) (hi := by simp only [List.getElem?_toArray, List.getElem?_cons_succ, List.getElem?_cons_zero]; rfl) (v := ?_) (by kernel_rfl) (by kernel_rfl) (by kernel_rfl) (fun _ _ _ h => h) (Or.inl ⟨by rfl, ?_⟩) (by assumption) ?_
  rotate_left
  · (intro w hSw; (try dsimp only at hSw); go_simp; first | done | with_reducible rfl)
  try simp only [Act.put, List.setIfInBounds_toArray, List.set_cons_zero, List.set_cons_succ]
  refine wpAnyH_take (i := 7) (hi := by simp only [List.getElem?_toArray, List.getElem?_cons_succ, List.getElem?_cons_zero]; rfl) (v := ?_) (by kernel_rfl) (by kernel_rfl) (by kernel_rfl) (fun _ _ _ h => h) (Or.inl ⟨by rfl, ?_⟩) (by assumption) ?_
  rotate_left
  · (intro w hSw; (try dsimp only at hSw); go_simp; first | done | with_reducible rfl)
  try simp only [Act.put, List.setIfInBounds_toArray, List.set_cons_zero, List.set_cons_succ]
  refine wpAnyH_take (i := 8) (hi := by simp only [List.getElem?_toArray, List.getElem?_cons_succ, List.getElem?_cons_zero]; rfl) (v := ?_) (by kernel_rfl) (by kernel_rfl) (by kernel_rfl) (fun _ _ _ h => h) (Or.inl ⟨by rfl, ?_⟩) (by assumption) ?_
  rotate_left
  · (intro w hSw; (try dsimp only at hSw); (obtain ⟨x1, x2, x3⟩ := HS4.out _ hSw); go_simp; first | done | with_reducible rfl)
  try simp only [Act.put, List.setIfInBounds_toArray, List.set_cons_zero, List.set_cons_succ]
  refine wpAnyH_take (i := 10) (hi := by simp only [List.getElem?_toArray, List.getElem?_cons_succ, List.getElem?_cons_zero]; rfl) (v := ?_) (by kernel_rfl) (by kernel_rfl) (by kernel_rfl) (fun _ _ _ h => h) (Or.inl ⟨by rfl, ?_⟩) (by assumption) ?_
  rotate_left
  · (intro w hSw; (try dsimp only at hSw); go_simp; first | done | with_reducible rfl)
  try simp only [Act.put, List.setIfInBounds_toArray, List.set_cons_zero, List.set_cons_succ]
  refine wpAnyH_take (i := 11) (hi := by simp only [List.getElem?_toArray, List.getElem?_cons_succ, List.getElem?_cons_zero]; rfl) (v := ?_) (by kernel_rfl) (by kernel_rfl) (by kernel_rfl) (fun _ _ _ h => h) (Or.inl ⟨by rfl, ?_⟩) (by assumption) ?_
  rotate_left
  · (intro w hSw; (try dsimp only at hSw); (obtain ⟨x1, x2, x3⟩ := HS4.out _ hSw); go_simp; first | done | with_reducible rfl)
  try simp only [Act.put, List.setIfInBounds_toArray, List.set_cons_zero, List.set_cons_succ]
  refine wpAnyH_ready (rs := [1]) (by kernel_rfl) (by simp) ?_
  refine AllReadyH.cons (ho := by simp only [List.getElem?_toArray, List.getElem?_cons_succ, List.getElem?_cons_zero]; rfl) (fun K hK => ?_) (AllReadyH.nil)
  go_simp
  go_at_call 42; (with_reducible refine (HBS.out _ (Below.refl _ w4).drew).mono ?_); rintro e w5 ⟨rfl, hd5⟩
  have HB5 : Hid (Below w4.heap.size w4 w5) := Kit.hid ((Below.refl _ w4).drew.trans hd5)
  clear hd5
  go_wp2_with fail
  refine hK.out _ _ ?_ (fun hHeldN => ?_)
  · exact HB5.out
  clear hHeld
  have hHeld := hHeldN
  clear hHeldN
  clear hK K
  try simp only [Act.put, List.setIfInBounds_toArray, List.set_cons_zero, List.set_cons_succ]
  refine wpAnyH_take (i := 5) (hi := by simp only [List.getElem?_toArray, List.getElem?_cons_succ, List.getElem?_cons_zero]; rfl) (v := ?_) (by kernel_rfl) (by kernel_rfl) (by kernel_rfl) (fun _ _ _ h => h) (Or.inl ⟨by rfl, ?_⟩) (by assumption) ?_
  rotate_left
  · (intro w hSw; (try dsimp only at hSw); go_simp; first | done | with_reducible rfl)
  try simp only [Act.put, List.setIfInBounds_toArray, List.set_cons_zero, List.set_cons_succ]
  refine wpAnyH_take (i := 9) (hi := by simp only [List.getElem?_toArray, List.getElem?_cons_succ, List.getElem?_cons_zero]; rfl) (v := ?_) (by kernel_rfl) (by kernel_rfl) (by kernel_rfl) (fun _ _ _ h => h) (Or.inl ⟨by rfl, ?_⟩) (by assumption) ?_
  rotate_left
  · (intro w hSw; (try dsimp only at hSw); go_simp; first | done | with_reducible rfl)
  try simp only [Act.put, List.setIfInBounds_toArray, List.set_cons_zero, List.set_cons_succ]
  refine wpAnyH_ready (rs := [12]) (by kernel_rfl) (by simp) ?_
  refine AllReadyH.cons (ho := by simp only [List.getElem?_toArray, List.getElem?_cons_succ, List.getElem?_cons_zero]; rfl) (fun K hK => ?_) (AllReadyH.nil)
  go_simp
  go_at_call 57; (with_reducible refine (HRN.out _).mono ?_); rintro e w6 ⟨rfl, hd6⟩
  have HD6 : Hid (Below w4.heap.size w4 w6) := Kit.hid (HB5.out.trans (hd6.mono HB5.out.size))
  have HB6 : Hid (Below w2.heap.size w2 w6) := Kit.hid (HB4.out.trans (HD6.out.mono HB4.out.size))
  clear hd6
  go_wp2_with fail
  refine hK.out _ _ ?_ (fun hHeldN => ?_)
  · exact HD6.out
  clear hHeld
  have hHeld := hHeldN
  clear hHeldN
  clear hK K
  try simp only [Act.put, List.setIfInBounds_toArray, List.set_cons_zero, List.set_cons_succ]
  refine wpAnyH_take (i := 13) (hi := by simp only [List.getElem?_toArray, List.getElem?_cons_succ, List.getElem?_cons_zero]; rfl) (v := ?_) (by kernel_rfl) (by kernel_rfl) (by kernel_rfl) (fun _ _ _ h => h) (Or.inl ⟨by rfl, ?_⟩) (by assumption) ?_
  rotate_left
  · (intro w hSw; (try dsimp only at hSw); go_simp; first | done | with_reducible rfl)
  try simp only [Act.put, List.setIfInBounds_toArray, List.set_cons_zero, List.set_cons_succ]
  refine wpAnyH_take (i := 14) (hi := by simp only [List.getElem?_toArray, List.getElem?_cons_succ, List.getElem?_cons_zero]; rfl) (v := ?_) (by kernel_rfl) (by kernel_rfl) (by kernel_rfl) (fun _ _ _ h => h) (Or.inl ⟨by rfl, ?_⟩) (by assumption) ?_
  rotate_left
  · (intro w hSw; (try dsimp only at hSw); go_simp; first | done | with_reducible rfl)
  try simp only [Act.put, List.setIfInBounds_toArray, List.set_cons_zero, List.set_cons_succ]
  refine wpAnyH_take (i := 15) (hi := by simp only [List.getElem?_toArray, List.getElem?_cons_succ, List.getElem?_cons_zero]; rfl) (v := ?_) (by kernel_rfl) (by kernel_rfl) (by kernel_rfl) (fun _ _ _ h => h) (Or.inl ⟨by rfl, ?_⟩) (by assumption) ?_
  rotate_left
  · (intro w hSw; (try dsimp only at hSw); go_simp; first | done | with_reducible rfl)
  try simp only [Act.put, List.setIfInBounds_toArray, List.set_cons_zero, List.set_cons_succ]
  clear hHeld
  refine wpAnyH_done (by kernel_rfl) ?_ _
  refine NoPanic.normal ?_
  skip
  go_wp2
  go_ret
  exact ⟨by simp, HB6.out⟩
set_option maxHeartbeats 1600000 in
theorem indexfar (v : Value) (l : List Int) (h : LF F w lp S n) (wl : WL S) (hn : n ≤ 3900) (B : Nat) (hr : Row B w v l) (hl : l.length ≤ 1000) (hh : ∀ x ∈ l, (S.home x).isSome = true) :
    Calls Try.prog 56 #[v, .func (.func 37) #[.pointer (some ⟨lp, 0, none⟩)] #[]] w fun e w' => ∃ z : Int, e = .returned (.int .i64 z) ∧ decide (0 ≤ z) = l.any (farS S) ∧ Below w.heap.size w w' := by
  have HC : Hid (∀ x ∈ l, ∀ w', Below w.heap.size w w' → Calls Try.prog 37 #[.pointer (some ⟨lp, 0, none⟩), .int .i64 x] w' fun e w'' => e = .returned (.bool (farS S x)) ∧ Below w'.heap.size w' w'') := Kit.hid (fun x hx w' hb => by
    have := hh x hx
    cases hg : S.home x with
    | none => rw [hg] at this; cases this
    | some g => exact far_lane x (h.below hb) wl hn hg)
  have HD : Hid (Below w.heap.size w w) := Kit.hid (Below.refl _ _)
  have HR := Kit.hid hr
  obtain ⟨A, c, rfl, _, hlc, _⟩ := hr.reads
  clear h hr hh
  go_enter Try.func56, Try.ntmps56
  go_wp2
  go_loopw [8] (fun v8 wr => ∃ i : Nat, i ≤ l.length ∧ v8 = .int .i64 i ∧ Hid (∀ s ∈ l.take i, farS S s = false) ∧ Hid (Below w.heap.size w wr)) (fun i _ => l.length - (intOf i).toNat)
  case atStart => exact ⟨0, by omega, rfl, Kit.hid (by simp), HD⟩
  case round =>
    obtain ⟨i, hi, rfl, hrr, hbw⟩ := hrel
    by_cases hlt : i < l.length
    · obtain ⟨x, hx⟩ : ∃ x, l[i]? = some x := ⟨_, List.getElem?_eq_getElem hlt⟩
      obtain ⟨A', c', hv', hcs, _⟩ := (HR.out.below hbw.out).reads
      cases hv'
      obtain ⟨ad, hA, k0⟩ : ∃ ad, A = some ad ∧ wr.cell? (ad.add i) = some (.int .i64 x) := by
        obtain ⟨ad, h1, h2⟩ := hcs i (by rw [iv_len]; exact hlt)
        refine ⟨ad, h1, ?_⟩
        rw [h2]
        obtain ⟨_, rfl⟩ := List.getElem?_eq_some_iff.1 hx
        simp [iv]
      subst hA
      have HX := Kit.hid (HC.out x (List.mem_of_getElem? hx) wr hbw.out)
      have hT : l.take (i + 1) = l.take i ++ [x] := by rw [List.take_add_one, hx]; rfl
      have HT := Kit.hid hT
      have hil : (i : Int) < (l.length : Int) := by omega
      have z1 : (0 : Int) ≤ (i : Int) := by omega
      obtain ⟨q, hq⟩ : ∃ q, q = farS S x := ⟨_, rfl⟩
      have HQ := Kit.hid hq
      rw [← hq] at HX
      have HXM := Kit.hid (List.mem_of_getElem? hx)
      clear hcs hx hT hq
      cases q with
      | true =>
        have E : Hid (decide (0 ≤ (i : Int)) = l.any (farS S)) := Kit.hid (by
          have h1 : l.any (farS S) = true := List.any_eq_true.2 ⟨x, HXM.out, HQ.out.symm⟩
          rw [h1]
          exact decide_eq_true (by omega))
        go_wp2_with fail
        (with_reducible refine HX.out.mono ?_); rintro e w1 ⟨rfl, hd1⟩
        have HB1 := Kit.hid (hbw.out.trans (hd1.mono hbw.out.size))
        clear hd1
        go_wp2
        go_ret
        exact ⟨(i : Int), rfl, E.out, HB1.out⟩
      | false =>
        have HR2 : Hid (∀ y ∈ l.take (i + 1), farS S y = false) := Kit.hid (by
          intro y hy
          rw [HT.out, List.mem_append] at hy
          rcases hy with hy | hy
          · exact hrr.out y hy
          · rw [List.mem_singleton.1 hy]; exact HQ.out.symm)
        go_wp2_with fail
        (with_reducible refine HX.out.mono ?_); rintro e w1 ⟨rfl, hd1⟩
        have HB1 := Kit.hid (hbw.out.trans (hd1.mono hbw.out.size))
        clear hd1 k0
        go_wp2_with fail
        go_roundw
        case rel => exact ⟨i + 1, by omega, by go_num, HR2, HB1⟩
        case measure => simp [intOf]; omega
    · obtain rfl : i = l.length := by omega
      have E : Hid (decide (0 ≤ (-1 : Int)) = l.any (farS S)) := Kit.hid (by
        have := hrr.out
        rw [List.take_length] at this
        have h1 : l.any (farS S) = false := List.any_eq_false.2 fun x hx => by rw [this x hx]; simp
        rw [h1]
        rfl)
      clear hrr
      go_wp2
      go_ret
      exact ⟨-1, rfl, E.out, hbw.out⟩
theorem containsfar (v : Value) (l : List Int) (h : LF F w lp S n) (wl : WL S) (hn : n ≤ 3900) (B : Nat) (hr : Row B w v l) (hl : l.length ≤ 1000) (hh : ∀ x ∈ l, (S.home x).isSome = true) :
    Calls Try.prog 36 #[v, .func (.func 37) #[.pointer (some ⟨lp, 0, none⟩)] #[]] w fun e w' => e = .returned (.bool (l.any (farS S))) ∧ Below w.heap.size w w' := by
  have HC := Kit.hid (indexfar v l h wl hn B hr hl hh)
  obtain ⟨A, c, rfl, _, _, _⟩ := hr.reads
  clear h hr hh
  go_enter Try.func36, Try.ntmps36
  go_wp2_with fail
  (with_reducible refine HC.out.mono ?_); rintro e w1 ⟨z, rfl, hz, hd1⟩
  have HD := Kit.hid hd1
  have HZ := Kit.hid hz
  clear hd1 HC hz
  go_wp2
  go_ret
  rw [← HZ.out]
  exact ⟨rfl, HD.out⟩
/-- A lane, and a row of numbers of one's own beside it. -/
def LnR (w : World) (F : Nat → Prop) (wr : World) (lp : Nat) (S : LS) (n : Nat) (v : Value) (l : List Int) : Prop :=
  ∃ G, LF G wr lp S n ∧ (∀ k, G k → Ext F w k) ∧ Kept F w wr ∧ Row w.heap.size wr v l ∧ (∀ k, v.ownBlock = some k → ¬ G k)
theorem LnR.ln {v : Value} {l : List Int} (h : LnR w F w' lp S n v l) : Ln w F w' lp S n := by
  obtain ⟨G, h1, h2, h3, _⟩ := h
  exact ⟨G, h1, h2, h3⟩
theorem LnR.row {v : Value} {l : List Int} (h : LnR w F w' lp S n v l) : Row w.heap.size w' v l := by
  obtain ⟨G, h1, h2, h3, h4, _⟩ := h
  exact h4
/-- The next call on the lane. -/
theorem LnR.look {wr : World} {v : Value} {l : List Int} (h : LnR w F wr lp S n v l) : ∃ G, LF G wr lp S n ∧ ∀ w' S' n', Ln wr G w' lp S' n' → LnR w F w' lp S' n' v l := by
  obtain ⟨G, h1, h2, h3, h4, h5⟩ := h
  refine ⟨G, h1, fun w' S' n' hl => ?_⟩
  obtain ⟨G2, g1, g2, g3⟩ := hl
  refine ⟨G2, g1, fun k hk => ?_, h3.trans g3 h2, h4.same fun k hk => g3.block k (h4.own_lt k hk).2 (h5 k hk), fun k hk hg => ?_⟩
  · rcases g2 k hk with e | e
    · exact h2 k e
    · exact .inr (Nat.le_trans h3.size e)
  · rcases g2 k hg with e | e
    · exact h5 k hk e
    · have := (h4.own_lt k hk).2; omega
theorem way_home2 (wl : WL S) {id : Int} : ∀ x ∈ wayS S id, (S.home x).isSome = true := by
  intro x hx
  cases hh : S.home id with
  | none => unfold wayS wayF at hx; rw [hh] at hx; cases hx
  | some g =>
    obtain ⟨l, h1, _, h3⟩ := way_is wl hh
    rw [h3] at hx
    exact (way_home h1 x hx).1
theorem home_int (wl : WL S) {x : Int} (h : (S.home x).isSome = true) : int64 x := by
  cases hh : S.home x with
  | none => rw [hh] at h; cases h
  | some g =>
    obtain ⟨y, _, hy, rfl⟩ := member_some wl hh
    have := (wl.qb g).each y hy
    exact ⟨by omega, by omega⟩
theorem way_len (wl : WL S) (id : Int) : (wayS S id).length ≤ 8 := by
  cases hh : S.home id with
  | none => unfold wayS wayF; rw [hh]; simp
  | some g =>
    obtain ⟨l, _, h2, h3⟩ := way_is wl hh
    rw [h3]; exact h2
theorem runs_home (S : LS) : ∀ l : List Int, (l.foldl run1 S).home = S.home ∧ (l.foldl run1 S).tasks = S.tasks ∧ (l.foldl run1 S).kept = S.kept
  | [] => ⟨rfl, rfl, rfl⟩
  | x :: l => runs_home (run1 S x) l
set_option maxRecDepth 20000 in
set_option maxHeartbeats 3200000 in
theorem run_lane (id : Int) (h : LF F w lp S n) (wl : WL S) (hn0 : 1 ≤ n) (hn : n ≤ 3800) (hi : int64 id) :
    Calls Try.prog 12 #[.pointer (some ⟨lp, 0, none⟩), .int .i64 id] w fun e w' => e = .returned (.int .i64 (runS S id).1) ∧ Ln w F w' lp (runS S id).2 (n + 20) := by
  have HLF := Kit.hid h
  have HWL := Kit.hid wl
  have HIR := Kit.hid hi
  have HTS := Kit.hid (task_any id h (by omega) hi.1 hi.2)
  clear h hi
  go_enter Try.func12, Try.ntmps12
  by_cases htk : id ∈ S.tasks
  rotate_left
  · have HR : Hid (runS S id = (8, S)) := Kit.hid (by unfold runS; rw [if_neg htk])
    rw [decide_eq_false htk] at HTS
    clear htk
    go_wp2_with fail
    (with_reducible refine HTS.out.mono ?_); rintro e w2 ⟨rfl, hb2⟩
    have HB2 := Kit.hid hb2
    clear hb2 HTS
    go_wp2
    go_ret
    rw [HR.out]
    exact ⟨rfl, (HLF.out.self_below HB2.out).more (by omega)⟩
  rw [decide_eq_true htk] at HTS
  have HHID : Hid ((S.home id).isSome = true) := Kit.hid (wl.isHome id htk)
  obtain ⟨wy, hwy⟩ : ∃ wy, wy = wayS S id := ⟨_, rfl⟩
  have HWY := Kit.hid hwy
  have hwl8 : wy.length ≤ 8 := by rw [hwy]; exact way_len wl id
  have HALL : Hid (∀ x ∈ id :: wy, (S.home x).isSome = true) := Kit.hid (fun x hx => by
    rcases List.mem_cons.1 hx with rfl | hx
    · exact HHID.out
    · exact way_home2 HWL.out x (by rw [← HWY.out]; exact hx))
  have HRS : Hid (runS S id = if (id :: wy).any (farS S) = true then (6, S) else (0, (id :: wy).foldl run1 S)) := Kit.hid (by unfold runS; rw [if_pos htk, hwy])
  clear htk hwy
  go_wp2_with fail
  (with_reducible refine HTS.out.mono ?_); rintro e w2 ⟨rfl, hb2⟩
  have HB2 := Kit.hid hb2
  obtain ⟨wA, hwA⟩ : ∃ wA, wA = w2.alloc (.cells #[.int .i64 id] 3) := ⟨_, rfl⟩
  have hbA : Below w.heap.size w wA := by rw [hwA]; exact hb2.alloc hb2.size _
  have HBA := Kit.hid hbA
  have HR1 : Hid (Row w.heap.size wA (.slice (some ⟨w2.heap.size, 0, none⟩) 1 1) [id]) := Kit.hid (row_of (l := [id]) hb2.size (by rw [hwA]; exact blk_new _ _) (by simp) (by decide) rfl (fun j x hj => by
    match j, hj with
    | 0, hj => simpa using hj))
  have HWW := Kit.hid (way_lane id (HLF.out.below hbA) HWL.out HIR.out)
  rw [← HWY.out] at HWW
  clear hb2 hbA HTS
  go_wp2_with fail
  rw [← hwA]
  clear hwA
  (with_reducible refine HWW.out.mono ?_); rintro e w3 ⟨vw, rfl, hrw, hb3⟩
  have HB3 := Kit.hid (HBA.out.trans (hb3.mono HBA.out.size))
  obtain ⟨Aw, cw, rfl, hcw, _, _⟩ := hrw.reads
  have hown3 : w3.ownsRow w.heap.size 3 1 (.slice (some ⟨w2.heap.size, 0, none⟩) 1 1) 1 (iv [id]) := HR1.out.below hb3
  have HOW3 := Kit.hid hown3
  clear hrw hb3 HWW
  go_wp2_with (at_builtin; refine wpList_append_src rfl _ _ 36 rfl w.heap.size 3 (.int .i64 0) 8 Try.underlying36 infoI rfl (.slice (some ⟨w2.heap.size, 0, none⟩) 1 1) _ _ rfl hown3 Aw wy.length cw (iv wy) rfl (iv_len wy) hcw (iv_one wy) (by unfold maxLen; omega) (by omega) HB3.out.size ?_
               intro v4 w4 hown4 hg4 _
               have HR4 : Hid (Row w.heap.size w4 v4 (id :: wy)) := Kit.hid (by
                 have := row_push (l := [id]) (k := wy) (B := w.heap.size) (w := w4) (v := v4) (by simpa using hown4)
                 exact this)
               have HB4 : Hid (Below w.heap.size w w4) := Kit.hid (HB3.out.grown hg4 HB3.out.size fun k hk => (HOW3.out.lt k hk).1)
               have HCF := Kit.hid (containsfar v4 (id :: wy) (HLF.out.below HB4.out) HWL.out (by omega) _ HR4.out (by simp; omega) HALL.out)
               clear hown4 hg4)
  cases hfar : (id :: wy).any (farS S) with
  | true =>
    have HR : Hid (runS S id = (6, S)) := Kit.hid (by rw [HRS.out, if_pos hfar])
    rw [hfar] at HCF
    (with_reducible refine HCF.out.mono ?_); rintro e w5 ⟨rfl, hb5⟩
    have HB5 := Kit.hid (HB4.out.trans (hb5.mono HB4.out.size))
    clear hb5 HCF hcw hown3 hfar
    go_wp2
    go_ret
    rw [HR.out]
    exact ⟨rfl, (HLF.out.self_below HB5.out).more (by omega)⟩
  | false =>
    have HR : Hid (runS S id = (0, (id :: wy).foldl run1 S)) := Kit.hid (by rw [HRS.out, if_neg (by rw [hfar]; simp)])
    rw [hfar] at HCF
    (with_reducible refine HCF.out.mono ?_); rintro e w5 ⟨rfl, hb5⟩
    have HB5 := Kit.hid (HB4.out.trans (hb5.mono HB4.out.size))
    have HR5 : Hid (Row w.heap.size w5 v4 (id :: wy)) := Kit.hid (HR4.out.below hb5)
    obtain ⟨A4, c4, rfl, _, _, _⟩ := HR4.out.reads
    obtain ⟨all, hall⟩ : ∃ all, all = id :: wy := ⟨_, rfl⟩
    have HLN : Hid (all.length ≤ 9) := Kit.hid (by rw [hall]; simp; omega)
    rw [← hall] at HR5 HR HALL ⊢
    have HI0 : Hid (LnR w F w5 lp S n (.slice A4 all.length c4) all) := Kit.hid ⟨F, HLF.out.below HB5.out, fun k hk => .inl hk, (Kept.refl F w).below HB5.out, HR5.out, fun k hk hf => by
      have := (HR5.out.own_lt k hk).1
      have := HLF.out.lt k hf
      omega⟩
    clear hb5 HCF hcw hown3 hfar hall
    go_wp2_with fail
    go_loopw [24] (fun v24 wr => ∃ i : Nat, i ≤ all.length ∧ v24 = .int .i64 i ∧ Hid (LnR w F wr lp ((all.take i).foldl run1 S) (n + 2 * i) (.slice A4 all.length c4) all)) (fun i _ => all.length - (intOf i).toNat)
    case atStart => exact ⟨0, by omega, rfl, HI0⟩
    case round =>
      obtain ⟨i, hi, rfl, HI⟩ := hrel
      by_cases hlt : i < all.length
      · obtain ⟨x, hx⟩ : ∃ x, all[i]? = some x := ⟨_, List.getElem?_eq_getElem hlt⟩
        have hlen9 := HLN.out
        obtain ⟨A', c', hv', hcs, _⟩ := HI.out.row.reads
        cases hv'
        obtain ⟨ad, hA, k0⟩ : ∃ ad, A4 = some ad ∧ wr.cell? (ad.add i) = some (.int .i64 x) := by
          obtain ⟨ad, h1, h2⟩ := hcs i (by rw [iv_len]; exact hlt)
          refine ⟨ad, h1, ?_⟩
          rw [h2]
          obtain ⟨_, rfl⟩ := List.getElem?_eq_some_iff.1 hx
          simp [iv]
        subst hA
        obtain ⟨S1, hS1⟩ : ∃ S1, S1 = (all.take i).foldl run1 S := ⟨_, rfl⟩
        have HSN : Hid ((all.take (i + 1)).foldl run1 S = run1 S1 x) := Kit.hid (by
          rw [List.take_add_one, hx, List.foldl_append, ← hS1]
          rfl)
        have hsome := HALL.out x (List.mem_of_getElem? hx)
        have HXI := Kit.hid (home_int HWL.out hsome)
        have HHO : Hid (S1.home x = S.home x) := Kit.hid (by rw [hS1, (runs_home S _).1])
        rw [← hS1] at HI
        obtain ⟨G, hG, hGs⟩ := HI.out.look
        have HGS := Kit.hid hGs
        obtain ⟨g, hg⟩ : ∃ g, g = (S1.home x).getD 0 := ⟨_, rfl⟩
        have HRU : Hid (run1 S1 x = { S1 with Q := upd S1.Q g ((runR (S1.Q g).1 (S1.Q g).2 x 1).2.1, (runR (S1.Q g).1 (S1.Q g).2 x 1).2.2) }) := Kit.hid (by unfold run1; rw [← hg])
        have hgr : int64 g := by
          rw [hg, HHO.out]
          cases hh : S.home x with
          | none => exact ⟨by decide, by decide⟩
          | some k => exact HLF.out.rng hh
        have HOF := Kit.hid (of_any g hG (by omega) (by omega) hgr.1 hgr.2)
        have HWQ := Kit.hid (hG.wq g)
        obtain ⟨mb, mh, mk, vt, Qp, Fq, hFe, hxx⟩ := (show LF G wr lp S1 (n + 2 * i) from hG)
        have x1 := blk_cell hxx.at_ 1
        have hll := blk_lt hxx.at_
        have HMH := Kit.hid hxx.home
        have HKEY : Hid (keyOf Try.prog 3 (.int .i64 x) = some (.int .i64 x)) := Kit.hid (int_key Try.underlying3 HXI.out.1 HXI.out.2)
        have HLK : Hid ((if false = true then Value.tuple #[((S1.home x).map (Value.int .i64)).getD (.int .i64 0), .bool ((S1.home x).map (Value.int .i64)).isSome] else ((S1.home x).map (Value.int .i64)).getD (.int .i64 0)) = .int .i64 g) := Kit.hid (by rw [hg]; cases S1.home x <;> rfl)
        have hil : (i : Int) < (all.length : Int) := by omega
        have z1 : (0 : Int) ≤ (i : Int) := by omega
        clear hx hcs hS1 hsome hG hGs hg hgr hxx hFe
        go_wp2_with (at_lookup; refine wpList_lookV rfl _ _ 63 false rfl 3 3 keyed Try.underlying63 _ (zero_int _) mh (n + 2 * i) (fun j => (S1.home j).map (Value.int .i64)) rfl HMH.out x rfl HKEY.out _ HLK.out ?_)
        (with_reducible refine HOF.out.mono ?_); rintro e w6 ⟨p, rfl, G6, q1, q2, q3, q4, q5, q8⟩
        have HRN := Kit.hid (qrun_any x 1 q1 q2 (by omega) HXI.out.1 HXI.out.2)
        have H2 := Kit.hid q2
        have H4 := Kit.hid q4
        clear q1 q2 q3 q4 q5 q8 HOF x1 hll k0
        go_wp2_with fail
        (with_reducible refine HRN.out.mono ?_); rintro e w7 ⟨rfl, q⟩
        have HI7 : Hid (LnR w F w7 lp ((all.take (i + 1)).foldl run1 S) (n + 2 * (i + 1)) (.slice (some ad) all.length c4) all) := Kit.hid (by
          rw [HSN.out, HRU.out]
          exact HGS.out w7 _ _ (H4.out w7 _ _ (n + 2 * i + 1 + 1) q (Nat.le_succ _) (H2.out.run HWQ.out x 1)))
        clear q HRN
        go_wp2_with fail
        go_roundw
        case rel => exact ⟨i + 1, by omega, by go_num, HI7⟩
        case measure => simp [intOf]; omega
      · obtain rfl : i = all.length := by omega
        have HE : Hid (Ln w F wr lp (all.foldl run1 S) (n + 20)) := Kit.hid (by
          have := HI.out.ln
          rw [List.take_length] at this
          have hle := HLN.out
          exact this.more (by omega))
        go_wp2
        go_ret
        rw [HR.out]
        exact ⟨rfl, HE.out⟩
end
end Go.Proofs.Ytpgfenelckonoaa.La
namespace Go.Proofs.Ytpgfenelckonoaa.QuM
/-- Members as they are told: with their lags. -/
def told (base : Int) (L : List Mem) : List Mem := L.map fun m => { m with v := m.v - base }
end Go.Proofs.Ytpgfenelckonoaa.QuM
namespace Go.Proofs.Ytpgfenelckonoaa.Qu
open Go.RowKit Go.Proofs.Ytpgfenelckonoaa.Kit Go.Proofs.Ytpgfenelckonoaa.ShM Go.Proofs.Ytpgfenelckonoaa.Sh Go.Proofs.Ytpgfenelckonoaa.QuM
set_option linter.unusedVariables false
set_option linter.unusedSimpArgs false
def TRow (w : World) (A : Option Addr) (l : List Mem) : Prop :=
  ∀ i (h : i < l.length), ∃ ad : Addr, A = some ad ∧ w.cell? (ad.add (i * 4)) = some (.int .i64 l[i].id) ∧ w.cell? (ad.add (i * 4 + 1)) = some (.int .i64 l[i].wt) ∧ w.cell? (ad.add (i * 4 + 2)) = some (.int .i64 l[i].v) ∧ w.cell? (ad.add (i * 4 + 3)) = some (.int .i64 l[i].rem)
theorem trow_below {w w1 : World} {A : Option Addr} {l : List Mem} (h : Hid (TRow w A l)) (hb : Below w.heap.size w w1) : Hid (TRow w1 A l) := by
  intro i hi
  obtain ⟨ad, rfl, h0, h1, h2, h3⟩ := h.out i hi
  exact ⟨ad, rfl, (hb.cell (cell_lt h0)).trans h0, (hb.cell (cell_lt h1)).trans h1, (hb.cell (cell_lt h2)).trans h2, (hb.cell (cell_lt h3)).trans h3⟩
theorem trow_same {w w' : World} {A : Option Addr} {l : List Mem} (h : Hid (TRow w A l)) (hs : ∀ ad, A = some ad → w'.heap[ad.block]? = w.heap[ad.block]?) : Hid (TRow w' A l) := by
  intro i hi
  obtain ⟨ad, rfl, h0, h1, h2, h3⟩ := h.out i hi
  have := hs ad rfl
  exact ⟨ad, rfl, (cell_blk (by rw [add_blk]; exact this)).trans h0, (cell_blk (by rw [add_blk]; exact this)).trans h1, (cell_blk (by rw [add_blk]; exact this)).trans h2, (cell_blk (by rw [add_blk]; exact this)).trans h3⟩
theorem t_at {w : World} {A : Option Addr} {l : List Mem} {i : Nat} {x : Mem} (h : Hid (TRow w A l)) (hi : l[i]? = some x) :
    ∃ ad : Addr, A = some ad ∧ w.cell? (ad.add (i * 4)) = some (.int .i64 x.id) ∧ w.cell? ⟨(ad.add (i * 4)).block, (ad.add (i * 4)).off + 1, none⟩ = some (.int .i64 x.wt) ∧ w.cell? ⟨(ad.add (i * 4)).block, (ad.add (i * 4)).off + 2, none⟩ = some (.int .i64 x.v) ∧ w.cell? ⟨(ad.add (i * 4)).block, (ad.add (i * 4)).off + 3, none⟩ = some (.int .i64 x.rem) := by
  obtain ⟨h1, rfl⟩ := List.getElem?_eq_some_iff.1 hi
  obtain ⟨ad, rfl, c0, c1, c2, c3⟩ := h.out i h1
  rw [add_part _ _ _ (by decide)] at c1 c2 c3
  exact ⟨ad, rfl, c0, c1, c2, c3⟩
theorem flatM_get (base : Int) : ∀ (l : List Mem) (i : Nat) (h : i < l.length), (flatM base l)[i * 4]? = some (.int .i64 l[i].id) ∧ (flatM base l)[i * 4 + 1]? = some (.int .i64 l[i].wt) ∧ (flatM base l)[i * 4 + 2]? = some (.int .i64 (l[i].v - base)) ∧ (flatM base l)[i * 4 + 3]? = some (.int .i64 l[i].rem)
  | [], i, h => absurd h (Nat.not_lt_zero _)
  | x :: l, 0, h => by simp [flatM]
  | x :: l, i + 1, h => by
    have := flatM_get base l i (by simpa using h)
    have e : flatM base (x :: l) = .int .i64 x.id :: .int .i64 x.wt :: .int .i64 (x.v - base) :: .int .i64 x.rem :: flatM base l := rfl
    rw [e, show (i + 1) * 4 = i * 4 + 1 + 1 + 1 + 1 by omega]
    simpa using this
theorem told_len (base : Int) (L : List Mem) : (told base L).length = L.length := by simp [told]
theorem trow_cells {w : World} {A : Option Addr} {L : List Mem} {base : Int} (h : Cells w A (flatM base L)) : Hid (TRow w A (told base L)) := by
  intro i hi
  rw [told_len] at hi
  obtain ⟨h0, h1, h2, h3⟩ := flatM_get base L i hi
  obtain ⟨l0, e0⟩ := List.getElem?_eq_some_iff.1 h0
  obtain ⟨l1, e1⟩ := List.getElem?_eq_some_iff.1 h1
  obtain ⟨l2, e2⟩ := List.getElem?_eq_some_iff.1 h2
  obtain ⟨l3, e3⟩ := List.getElem?_eq_some_iff.1 h3
  obtain ⟨ad, rfl, c0⟩ := h _ l0
  obtain ⟨a1, f1, c1⟩ := h _ l1
  obtain rfl := Option.some.inj f1
  obtain ⟨a2, f2, c2⟩ := h _ l2
  obtain rfl := Option.some.inj f2
  obtain ⟨a3, f3, c3⟩ := h _ l3
  obtain rfl := Option.some.inj f3
  refine ⟨ad, rfl, ?_, ?_, ?_, ?_⟩
  · rw [c0, e0]; simp [told]
  · rw [c1, e1]; simp [told]
  · rw [c2, e2]; simp [told]
  · rw [c3, e3]; simp [told]
theorem mem_eq (a b : Mem) : (a.id == b.id && (a.wt == b.wt && (a.v == b.v && a.rem == b.rem))) = decide (a = b) := by
  cases a; cases b
  rw [Bool.eq_iff_iff]
  simp
theorem equalIn_pace (a b c d : Int) (n : Nat) (w : World) : (Op.equalIn (n + 2) 33 (.agg #[.int .i64 a, .int .i64 b]) (.agg #[.int .i64 c, .int .i64 d])).run Try.prog w = .ok (decide (a = c ∧ b = d)) w := by
  have u3 := Try.underlying3
  have a3 := Try.isAgg3
  have z3 := Try.sizeOf3
  have hS : Try.prog.underlying 33 = some (.struct (Try.prog.fieldsOf 33)) := by kernel_rfl
  rw [run_equalIn_agg w (n + 1) 33 _ _ hS (by kernel_rfl)]
  simp only [Program.fieldsOf, Try.underlying33]
  go_simp
  by_cases h : a = c <;> by_cases h2 : b = d <;> simp [h, h2]
theorem equalIn_mem (a b : Mem) (w : World) : (Op.equalIn 10000 35 (.agg #[.int .i64 a.id, .int .i64 a.wt, .int .i64 a.v, .int .i64 a.rem]) (.agg #[.int .i64 b.id, .int .i64 b.wt, .int .i64 b.v, .int .i64 b.rem])).run Try.prog w = .ok (decide (a = b)) w := by
  have u3 := Try.underlying3
  have a3 := Try.isAgg3
  have z3 := Try.sizeOf3
  have a30 := Try.isAgg33
  have z30 := Try.sizeOf33
  have hp := fun (n : Nat) (w : World) => equalIn_pace a.v a.rem b.v b.rem n w
  have hS : Try.prog.underlying 35 = some (.struct (Try.prog.fieldsOf 35)) := by kernel_rfl
  rw [show (10000 : Nat) = 9999 + 1 from rfl, run_equalIn_agg w 9999 35 _ _ hS (by kernel_rfl)]
  simp only [Program.fieldsOf, Try.underlying35]
  rw [← mem_eq]
  have hp2 := hp 9997 w
  go_simp
  by_cases h : a.id = b.id <;> by_cases h2 : a.wt = b.wt <;> by_cases h3 : a.v = b.v <;> by_cases h4 : a.rem = b.rem <;> simp [h, h2, h3, h4]
theorem neq_mem (a b : Mem) (w : World) : (binOp .neq 35 (.agg #[.int .i64 a.id, .int .i64 a.wt, .int .i64 a.v, .int .i64 a.rem]) (.agg #[.int .i64 b.id, .int .i64 b.wt, .int .i64 b.v, .int .i64 b.rem])).run Try.prog w = .ok (.bool (!decide (a = b))) w := by
  rw [run_neq_struct, equalIn_mem]
  rfl
theorem mext_upto {la lb : List Mem} (hl : la.length = lb.length) (h : ∀ j, j < la.length → la[j]? = lb[j]?) : la = lb := by
  apply List.ext_getElem?
  intro j
  by_cases hj : j < la.length
  · exact h j hj
  · rw [List.getElem?_eq_none (by omega), List.getElem?_eq_none (by omega)]
set_option maxHeartbeats 800000 in
theorem qsame_any (A B : Option Addr) (la lb : List Mem) (ca cb : Nat) (w : World) (ha : Hid (TRow w A la)) (hb : Hid (TRow w B lb)) (h1 : la.length ≤ 1000000) (h2 : lb.length ≤ 1000000) :
    Calls Try.prog 23 #[.slice A la.length ca, .slice B lb.length cb] w fun e w' => e = .returned (.bool (decide (la = lb))) ∧ ∃ m, w' = w.drewN m := by
  by_cases hl : la.length = lb.length
  · have hln : ((la.length : Int) != (lb.length : Int)) = false := by simp [hl]
    go_enter Try.func23, Try.ntmps23
    go_wp2
    go_loopw [5] (fun v5 wr => ∃ i m : Nat, i ≤ la.length ∧ v5 = .int .i64 i ∧ wr = w.drewN m ∧ Hid (∀ j, j < i → la[j]? = lb[j]?)) (fun i _ => la.length - (intOf i).toNat)
    case atStart => exact ⟨0, 0, by omega, rfl, rfl, Kit.hid (fun j h => absurd h (Nat.not_lt_zero _))⟩
    case round =>
      obtain ⟨i, m, hi, rfl, rfl, hE⟩ := hrel
      by_cases hlt : i < la.length
      · obtain ⟨x, hx⟩ : ∃ x, la[i]? = some x := ⟨_, List.getElem?_eq_getElem hlt⟩
        obtain ⟨y, hy⟩ : ∃ y, lb[i]? = some y := ⟨_, List.getElem?_eq_getElem (by omega)⟩
        obtain ⟨ad, rfl, c0, c1, c2, c3⟩ := t_at ha hx
        obtain ⟨bd, rfl, d0, d1, d2, d3⟩ := t_at hb hy
        have hltb : (i : Int) < (lb.length : Int) := by omega
        have HX := Kit.hid hx
        have HY := Kit.hid hy
        have HL := Kit.hid hl
        clear hx hy hl
        by_cases hxy : x = y
        · have g1 : ∀ w', (binOp .neq 35 (.agg #[.int .i64 x.id, .int .i64 x.wt, .int .i64 x.v, .int .i64 x.rem]) (.agg #[.int .i64 y.id, .int .i64 y.wt, .int .i64 y.v, .int .i64 y.rem])).run Try.prog w' = .ok (.bool false) w' := fun w' => by rw [neq_mem, decide_eq_true hxy]; rfl
          have HE : Hid (∀ j, j < i + 1 → la[j]? = lb[j]?) := Kit.hid (fun j hj => by
            by_cases h : j = i
            · subst h; rw [HX.out, HY.out, hxy]
            · exact hE.out j (by omega))
          clear hxy
          go_wp2_with fail
          go_quiet (fail)
          go_wp2
          go_roundw
          case rel => exact ⟨i + 1, _, by omega, by go_num, rfl, HE⟩
          case measure => simp [intOf]; omega
        · have g1 : ∀ w', (binOp .neq 35 (.agg #[.int .i64 x.id, .int .i64 x.wt, .int .i64 x.v, .int .i64 x.rem]) (.agg #[.int .i64 y.id, .int .i64 y.wt, .int .i64 y.v, .int .i64 y.rem])).run Try.prog w' = .ok (.bool true) w' := fun w' => by rw [neq_mem, decide_eq_false hxy]; rfl
          have HD : Hid (decide (la = lb) = false) := Kit.hid (decide_eq_false (fun e => hxy (by have := HX.out; rw [e, HY.out] at this; exact (Option.some.inj this).symm)))
          clear hxy
          go_wp2_with fail
          go_quiet (fail)
          go_wp2
          go_ret
          exact ⟨by rw [HD.out]; rfl, _, World.drewN_drewN _ _ _⟩
      · obtain rfl : i = la.length := by omega
        have HD : Hid (decide (la = lb) = true) := Kit.hid (decide_eq_true (mext_upto hl hE.out))
        clear hl
        go_wp2
        go_ret
        exact ⟨by rw [HD.out]; rfl, _, rfl⟩
  · have hln : ((la.length : Int) != (lb.length : Int)) = true := by simp; omega
    have HD : Hid (decide (la = lb) = false) := Kit.hid (decide_eq_false (fun e => hl (by rw [e])))
    clear hl
    go_enter Try.func23, Try.ntmps23
    go_wp2
    go_ret
    exact ⟨by rw [HD.out]; rfl, 0, rfl⟩
end Go.Proofs.Ytpgfenelckonoaa.Qu
namespace Go.Proofs.Ytpgfenelckonoaa.La
open Go.RowKit Go.Proofs.Ytpgfenelckonoaa.Kit Go.Proofs.Ytpgfenelckonoaa.Ki
set_option linter.unusedVariables false
set_option linter.unusedSimpArgs false
theorem cells_at {w : World} {A : Option Addr} {l : List Int} {i : Nat} {x : Int} (h : Cells w A (iv l)) (hi : l[i]? = some x) : ∃ ad, A = some ad ∧ w.cell? (ad.add i) = some (.int .i64 x) := by
  obtain ⟨hl, rfl⟩ := List.getElem?_eq_some_iff.1 hi
  obtain ⟨ad, h1, h2⟩ := h i (by rw [iv_len]; exact hl)
  exact ⟨ad, h1, by rw [h2]; simp [iv]⟩
theorem cells_over {w w' : World} {A : Option Addr} {l : List Value} (h : Cells w A l) (hb : Below w.heap.size w w') : Cells w' A l := fun i hi => by
  obtain ⟨ad, h1, h2⟩ := h i hi
  exact ⟨ad, h1, (hb.cell (cell_lt h2)).trans h2⟩
/-! ### rows of numbers, compared and looked through -/
theorem ext_upto {la lb : List Int} (hl : la.length = lb.length) (h : ∀ j, j < la.length → la[j]? = lb[j]?) : la = lb := by
  apply List.ext_getElem?
  intro j
  by_cases hj : j < la.length
  · exact h j hj
  · rw [List.getElem?_eq_none (by omega), List.getElem?_eq_none (by omega)]
set_option maxHeartbeats 800000 in
theorem same_any (A B : Option Addr) (la lb : List Int) (ca cb : Nat) (w : World) (ha : Hid (Cells w A (iv la))) (hb : Hid (Cells w B (iv lb))) (h1 : la.length ≤ 1000000) (h2 : lb.length ≤ 1000000) :
    Calls Try.prog 22 #[.slice A la.length ca, .slice B lb.length cb] w fun e w' => e = .returned (.bool (decide (la = lb))) ∧ ∃ m, w' = w.drewN m := by
  by_cases hl : la.length = lb.length
  · have hln : ((la.length : Int) != (lb.length : Int)) = false := by simp [hl]
    go_enter Try.func22, Try.ntmps22
    go_wp2
    go_loopw [5] (fun v5 wr => ∃ i m : Nat, i ≤ la.length ∧ v5 = .int .i64 i ∧ wr = w.drewN m ∧ Hid (∀ j, j < i → la[j]? = lb[j]?)) (fun i _ => la.length - (intOf i).toNat)
    case atStart => exact ⟨0, 0, by omega, rfl, rfl, Kit.hid (fun j h => absurd h (Nat.not_lt_zero _))⟩
    case round =>
      obtain ⟨i, m, hi, rfl, rfl, hE⟩ := hrel
      by_cases hlt : i < la.length
      · obtain ⟨x, hx⟩ : ∃ x, la[i]? = some x := ⟨_, List.getElem?_eq_getElem hlt⟩
        obtain ⟨y, hy⟩ : ∃ y, lb[i]? = some y := ⟨_, List.getElem?_eq_getElem (by omega)⟩
        obtain ⟨ad, rfl, c0⟩ := cells_at ha.out hx
        obtain ⟨bd, rfl, d0⟩ := cells_at hb.out hy
        have hltb : (i : Int) < (lb.length : Int) := by omega
        have HX := Kit.hid hx
        have HY := Kit.hid hy
        have HL := Kit.hid hl
        clear hx hy hl
        by_cases hxy : x = y
        · have g1 : (x != y) = false := by simp [hxy]
          have HE : Hid (∀ j, j < i + 1 → la[j]? = lb[j]?) := Kit.hid (fun j hj => by
            by_cases h : j = i
            · subst h; rw [HX.out, HY.out, hxy]
            · exact hE.out j (by omega))
          clear hxy
          go_wp2_with fail
          go_quiet (fail)
          go_wp2
          go_roundw
          case rel => exact ⟨i + 1, _, by omega, by go_num, rfl, HE⟩
          case measure => simp [intOf]; omega
        · have g1 : (x != y) = true := by simp [hxy]
          have HD : Hid (decide (la = lb) = false) := Kit.hid (decide_eq_false (fun e => hxy (by have := HX.out; rw [e, HY.out] at this; exact (Option.some.inj this).symm)))
          clear hxy
          go_wp2_with fail
          go_quiet (fail)
          go_wp2
          go_ret
          exact ⟨by rw [HD.out]; rfl, _, World.drewN_drewN _ _ _⟩
      · obtain rfl : i = la.length := by omega
        have HD : Hid (decide (la = lb) = true) := Kit.hid (decide_eq_true (ext_upto hl hE.out))
        clear hl
        go_wp2
        go_ret
        exact ⟨by rw [HD.out]; rfl, _, rfl⟩
  · have hln : ((la.length : Int) != (lb.length : Int)) = true := by simp; omega
    have HD : Hid (decide (la = lb) = false) := Kit.hid (decide_eq_false (fun e => hl (by rw [e])))
    clear hl
    go_enter Try.func22, Try.ntmps22
    go_wp2
    go_ret
    exact ⟨by rw [HD.out]; rfl, 0, rfl⟩
/-- Two rows, compared. -/
theorem rsame_any {B B' : Nat} {w : World} {v v' : Value} {l l' : List Int} (h : Row B w v l) (h' : Row B' w v' l') (h1 : l.length ≤ 1000000) (h2 : l'.length ≤ 1000000) :
    Calls Try.prog 22 #[v, v'] w fun e w' => e = .returned (.bool (decide (l = l'))) ∧ Below w.heap.size w w' := by
  obtain ⟨A, c, rfl, hc, _⟩ := h.reads
  obtain ⟨A', c', rfl, hc', _⟩ := h'.reads
  refine (same_any A A' l l' c c' w hc hc' h1 h2).mono ?_
  rintro e w' ⟨rfl, m, rfl⟩
  exact ⟨rfl, below_drewN (Below.refl _ _) m⟩
end Go.Proofs.Ytpgfenelckonoaa.La
namespace Go.Proofs.Ytpgfenelckonoaa.La
open Go.RowKit Go.Proofs.Ytpgfenelckonoaa.Kit Go.Proofs.Ytpgfenelckonoaa.ShM Go.Proofs.Ytpgfenelckonoaa.Sh Go.Proofs.Ytpgfenelckonoaa.QuM Go.Proofs.Ytpgfenelckonoaa.Qu Go.Proofs.Ytpgfenelckonoaa.LaM
open Go.Proofs.Ytpgfenelckonoaa.Ki (Row row_nil row_of iv iv_len iv_one search_row contains_row clone_row layContains)
set_option linter.unusedVariables false
set_option linter.unusedSimpArgs false
/-- Whether one of any numbers is among them. -/
theorem contains_cells {w : World} {A : Option Addr} {l : List Int} {c : Nat} (h : Cells w A (iv l)) (x : Int) (hl : l.length ≤ 1000000) :
    Calls Try.prog 47 #[.slice A l.length c, .int .i64 x] w fun e w' => e = .returned (.bool (decide (x ∈ l))) ∧ w' = w := by
  cases hll : l with
  | nil =>
    have := Any.slices_Contains_int_empty layContains A c x w
    refine this.mono ?_
    rintro e w' ⟨h1, h2⟩
    exact ⟨by rw [h1]; simp, h2⟩
  | cons y t =>
    rw [← hll]
    obtain ⟨ad, hA, h0⟩ := cells_at (i := 0) h (by rw [hll]; rfl)
    have hsp := World.cell?_spot h0
    have e0 : ad.add 0 = ad := rfl
    rw [e0] at hsp
    obtain ⟨b, o, sp⟩ := ad
    have hsp : sp = none := hsp
    subst hsp hA
    have := Any.slices_Contains_int layContains b o l.length c l x w (Nat.le_refl _) (by omega) fun j hj => by
      obtain ⟨ad', h1, h2⟩ := cells_at (i := j) h (Ki.getD_of _ _ hj)
      cases h1
      by_cases hj0 : j = 0
      · subst hj0; exact h2
      · have : (Addr.mk b o none).add j = ⟨b, o + j, none⟩ := by unfold Addr.add; rw [if_neg hj0]
        rw [this] at h2
        exact h2
    rw [List.take_length] at this
    refine this.mono ?_
    rintro e w' ⟨h1, h2⟩
    exact ⟨by rw [h1]; simp, h2⟩
/-- Groups one below the other, down to fuel k. -/
def Deep (S : LS) : Nat → Int → Prop
  | 0, _ => False
  | k + 1, g => ∀ m ∈ (S.Q g).1, m.id ∉ S.tasks → (S.Q m.id).1 ≠ [] ∧ Deep S k m.id
theorem way_uniq {S : LS} : ∀ {l l' : List Int} {g : Int}, IsWay S g l → IsWay S g l' → l = l'
  | [], [], g, _, _ => rfl
  | [], y :: l', g, h, h' => absurd h h'.2.1
  | y :: l, [], g, h, h' => absurd h' h.2.1
  | y :: l, z :: l', g, h, h' => by
    obtain ⟨rfl, _, _, k, h4, h5⟩ := h
    obtain ⟨rfl, _, _, k', h4', h5'⟩ := h'
    rw [h4] at h4'
    cases h4'
    rw [way_uniq h5 h5']
theorem deep_ok {S : LS} (wl : WL S) : ∀ (k : Nat) (g : Int) (l : List Int), IsWay S g l → l.length ≤ 8 → 9 ≤ l.length + k → Deep S k g
  | 0, g, l, h, hl, hk => by omega
  | k + 1, g, l, h, hl, hk => by
    intro m hm ht
    have hh := mem_home wl hm
    have hne := wl.full m.id g hh ht
    have hm0 : m.id ≠ 0 := by
      have := (wl.qb g).each m hm
      omega
    have hw : IsWay S m.id (m.id :: l) := ⟨rfl, hm0, ht, g, hh, h⟩
    have hlen : (m.id :: l).length ≤ 8 := by
      cases hL : (S.Q m.id).1 with
      | nil => exact absurd hL hne
      | cons y t =>
        have hy := mem_home wl (show y ∈ (S.Q m.id).1 by rw [hL]; simp)
        obtain ⟨l', h1, h2⟩ := wl.way y.id m.id hy
        rw [way_uniq hw h1]
        exact h2
    exact ⟨hne, deep_ok wl k m.id (m.id :: l) hw hlen (by simp; omega)⟩
section
variable {w w' : World} {lp n : Nat} {S : LS} {F : Nat → Prop}
/-- What a queue's members show of who is next. -/
theorem go_take {shut : List Int} {k : Nat} : ∀ (l : List Mem) (i : Nat), (∀ m ∈ l.take i, m.id ∉ S.tasks ∧ (m.id ∈ shut ∨ nextF S shut k m.id ≤ 0)) → nextF.go S shut l k = nextF.go S shut (l.drop i) k
  | [], i, h => by simp
  | y :: l, 0, h => rfl
  | y :: l, i + 1, h => by
    have h1 := h y (by simp)
    rw [List.drop_succ_cons, ← go_take l i (fun m hm => h m (by simp [hm]))]
    conv => lhs; unfold nextF.go
    rw [if_neg h1.1]
    by_cases h2 : y.id ∈ shut
    · rw [if_pos h2]
    · rw [if_neg h2, if_neg (by have := h1.2.resolve_left h2; omega)]
set_option maxRecDepth 20000 in
set_option maxHeartbeats 3200000 in
theorem next_gen (k : Nat) (g : Int) (A : Option Addr) (shut : List Int) (c : Nat) (n2 : Nat) (Pq : World → Prop) (wl : WL S) (hn : n2 ≤ 3900) (hF : ∀ x, F x → x < w.heap.size)
    (HOF : Calls Try.prog 38 #[.pointer (some ⟨lp, 0, none⟩), .int .i64 g] w fun e w2 => ∃ p, e = .returned (.pointer (some ⟨p, 0, none⟩)) ∧ OfP w F w2 lp S n2 g p ∧ Pq w2)
    (hc : Cells w A (iv shut)) (hA : shut ≠ [] → ∀ a, A = some a → a.block < w.heap.size ∧ ¬ F a.block) (hs : shut.length ≤ 1000)
    (IH : ∀ m ∈ (S.Q g).1, m.id ∉ S.tasks → ∀ (w' : World) (G : Nat → Prop), LF G w' lp S n2 → Cells w' A (iv shut) → (shut ≠ [] → ∀ a, A = some a → a.block < w'.heap.size ∧ ¬ G a.block) →
      Calls Try.prog 35 #[.pointer (some ⟨lp, 0, none⟩), .int .i64 m.id, .slice A shut.length c] w' fun e w'' => e = .returned (.int .i64 (nextF S shut k m.id)) ∧ Below w'.heap.size w' w'') :
    Calls Try.prog 35 #[.pointer (some ⟨lp, 0, none⟩), .int .i64 g, .slice A shut.length c] w fun e w' => e = .returned (.int .i64 (nextF S shut (k + 1) g)) ∧ ∃ w2, Pq w2 ∧ Ln w F w2 lp S n2 ∧ Below w2.heap.size w2 w' := by
  have HWL := Kit.hid wl
  have HO := Kit.hid HOF
  have HI := Kit.hid IH
  have HC := Kit.hid hc
  have HA := Kit.hid hA
  have HNX : Hid (nextF S shut (k + 1) g = nextF.go S shut (S.Q g).1 k) := Kit.hid (by conv => lhs; unfold nextF)
  clear HOF IH hc hA
  go_enter Try.func35, Try.ntmps35
  go_wp2_with fail
  (with_reducible refine HO.out.mono ?_); rintro e w2 ⟨p, rfl, ⟨G, q1, q2, q3, q4, ⟨G2, l1, l2, l3⟩, q8⟩, hpq⟩
  have HQA := Kit.hid (qall_any q1 q2 (by omega))
  have HL := Kit.hid l1
  have HLN : Hid (Ln w F w2 lp S n2) := Kit.hid ⟨G2, l1, l2, l3⟩
  have HPQ := Kit.hid hpq
  have HLEN := Kit.hid q1.len
  have HQB := Kit.hid q2
  have HC2 : Hid (Cells w2 A (iv shut)) := Kit.hid (fun i hi => by
    obtain ⟨ad, h1, h2⟩ := HC.out i hi
    have hne : shut ≠ [] := fun e => by rw [e] at hi; exact absurd hi (Nat.not_lt_zero _)
    refine ⟨ad, h1, ?_⟩
    rw [← h2]
    refine cell_blk ?_
    rw [add_blk]
    exact l3.block _ (HA.out hne ad h1).1 (HA.out hne ad h1).2)
  have HA2 : Hid (shut ≠ [] → ∀ a, A = some a → a.block < w2.heap.size ∧ ¬ G2 a.block) := Kit.hid (fun hne a ha => ⟨Nat.lt_of_lt_of_le (HA.out hne a ha).1 l3.size, fun hg => by
    rcases l2 _ hg with e | e
    · exact (HA.out hne a ha).2 e
    · have := (HA.out hne a ha).1; omega⟩)
  clear q1 q2 q3 q4 l1 l2 l3 q8 hpq HO
  go_wp2_with fail
  (with_reducible refine HQA.out.mono ?_); rintro e w3 ⟨v, rfl, hv, hb3⟩
  obtain ⟨A3, c3, rfl, hc3, _, _⟩ := own_readsS (by decide) hv
  have HT3 := trow_cells hc3
  have HB3 := Kit.hid hb3
  obtain ⟨L, hL⟩ : ∃ L, L = (S.Q g).1 := ⟨_, rfl⟩
  obtain ⟨base, hbs⟩ : ∃ base, base = (S.Q g).2 := ⟨_, rfl⟩
  have HLE := Kit.hid hL
  rw [← hL, ← hbs] at HT3
  rw [← hL] at HLEN HI HNX ⊢
  have hlen4 : L.length ≤ 4000 := by have := HLEN.out; omega
  clear hv hb3 HQA hc3 hL hbs
  go_wp2_with fail
  go_loopw [15] (fun v15 wr => ∃ i : Nat, i ≤ L.length ∧ v15 = .int .i64 i ∧ Hid (∀ m ∈ L.take i, m.id ∉ S.tasks ∧ (m.id ∈ shut ∨ nextF S shut k m.id ≤ 0)) ∧ Hid (Below w3.heap.size w3 wr)) (fun i _ => L.length - (intOf i).toNat)
  case atStart => exact ⟨0, by omega, rfl, Kit.hid (by simp), Kit.hid (Below.refl _ _)⟩
  case round =>
    obtain ⟨i, hi, rfl, HP, HB⟩ := hrel
    have hbw2 : Below w2.heap.size w2 wr := HB3.out.trans (HB.out.mono HB3.out.size)
    by_cases hlt : i < L.length
    · obtain ⟨m, hm⟩ : ∃ m, L[i]? = some m := ⟨_, List.getElem?_eq_getElem hlt⟩
      have hmt : (told base L)[i]? = some { m with v := m.v - base } := by unfold told; rw [List.getElem?_map, hm]; rfl
      obtain ⟨ad, hA3, c0, c1, c2, c3'⟩ := t_at (trow_below HT3 HB.out) hmt
      subst hA3
      have hmL : m ∈ L := List.mem_of_getElem? hm
      have hmb := HQB.out.each m (by rw [← HLE.out]; exact hmL)
      have HMI : Hid (int64 m.id ∧ 0 < m.id) := Kit.hid ⟨⟨by omega, by omega⟩, by omega⟩
      have HML := Kit.hid hmL
      have HTK : Hid (L.take (i + 1) = L.take i ++ [m]) := Kit.hid (by rw [List.take_add_one, hm]; rfl)
      have HGD : Hid (nextF S shut (k + 1) g = nextF.go S shut (m :: L.drop (i + 1)) k) := Kit.hid (by
        rw [HNX.out, go_take L i HP.out]
        congr 1
        obtain ⟨h1, rfl⟩ := List.getElem?_eq_some_iff.1 hm
        exact List.drop_eq_getElem_cons h1)
      obtain ⟨mv, hmv⟩ : ∃ mv, mv = m.v - base := ⟨_, rfl⟩
      rw [← hmv] at c2
      obtain ⟨w4, hw4⟩ : ∃ w4, w4 = wr.alloc (.cells #[.int .i64 m.id, .int .i64 m.wt, .int .i64 mv, .int .i64 m.rem] 35) := ⟨_, rfl⟩
      have HB4 : Hid (Below wr.heap.size wr w4) := Kit.hid (by rw [hw4]; exact (Below.refl _ _).alloc (Nat.le_refl _) _)
      have HX4 : Hid (w4.heap[wr.heap.size]? = some (.cells #[.int .i64 m.id, .int .i64 m.wt, .int .i64 mv, .int .i64 m.rem] 35 (0, 0))) := Kit.hid (by rw [hw4]; exact blk_new _ _)
      have HBW : Hid (Below w2.heap.size w2 w4) := Kit.hid (hbw2.trans (HB4.out.mono hbw2.size))
      have HTS := Kit.hid (task_any m.id (HL.out.below HBW.out) (by omega) HMI.out.1.1 HMI.out.1.2)
      have hil : (i : Int) < (L.length : Int) := by omega
      have z1 : (0 : Int) ≤ (i : Int) := by omega
      have HBS : Hid (Below w3.heap.size w3 w4) := Kit.hid (HB.out.trans (HB4.out.mono HB.out.size))
      clear hm hmt hmL hmb hmv hbw2
      go_wp2_with fail
      rw [← hw4]
      clear hw4 c0 c1 c2 c3'
      have y0 := blk_cell HX4.out 0
      have yl := blk_lt HX4.out
      by_cases ht : m.id ∈ S.tasks
      · have HRES : Hid (nextF S shut (k + 1) g = m.id) := Kit.hid (by rw [HGD.out]; unfold nextF.go; rw [if_pos ht])
        rw [decide_eq_true ht] at HTS
        clear ht y0 yl
        (with_reducible refine HTS.out.mono ?_); rintro e w5 ⟨rfl, hb5⟩
        have hx5 := blk_below HX4.out hb5
        have y0 := blk_cell hx5 0
        have yl := blk_lt hx5
        have HB5 := Kit.hid (HBW.out.trans (hb5.mono HBW.out.size))
        clear hb5 hx5 HTS
        go_wp2
        go_ret
        rw [HRES.out]
        exact ⟨rfl, w2, HPQ.out, HLN.out, HB5.out⟩
      have HNT := Kit.hid ht
      rw [decide_eq_false ht] at HTS
      clear ht y0 yl
      (with_reducible refine HTS.out.mono ?_); rintro e w5 ⟨rfl, hb5⟩
      have hx5 := blk_below HX4.out hb5
      have y0 := blk_cell hx5 0
      have yl := blk_lt hx5
      have HX5 := Kit.hid hx5
      have HB5 := Kit.hid (HBW.out.trans (hb5.mono HBW.out.size))
      have HBS5 := Kit.hid (HBS.out.trans (hb5.mono HBS.out.size))
      have HCT := Kit.hid (contains_cells (c := c) (cells_over HC2.out HB5.out) m.id (by omega))
      clear hb5 hx5 HTS
      by_cases hsh : m.id ∈ shut
      · have HPN : Hid (∀ m ∈ L.take (i + 1), m.id ∉ S.tasks ∧ (m.id ∈ shut ∨ nextF S shut k m.id ≤ 0)) := Kit.hid (by
          intro y hy
          rw [HTK.out, List.mem_append] at hy
          rcases hy with hy | hy
          · exact HP.out y hy
          · rw [List.mem_singleton.1 hy]; exact ⟨HNT.out, .inl hsh⟩)
        rw [decide_eq_true hsh] at HCT
        clear hsh
        go_wp2_with fail
        (with_reducible refine HCT.out.mono ?_); rintro e w6 ⟨rfl, rfl⟩
        clear HCT
        go_wp2_with fail
        go_roundw
        case rel => exact ⟨i + 1, by omega, by go_num, HPN, HBS5⟩
        case measure => simp [intOf]; omega
      have HNS := Kit.hid hsh
      rw [decide_eq_false hsh] at HCT
      have HNN := Kit.hid (HI.out m HML.out HNT.out w5 G2 (HL.out.below HB5.out) (cells_over HC2.out HB5.out) (fun hne a ha => ⟨Nat.lt_of_lt_of_le (HA2.out hne a ha).1 HB5.out.size, (HA2.out hne a ha).2⟩))
      clear hsh
      go_wp2_with fail
      (with_reducible refine HCT.out.mono ?_); rintro e w6 ⟨rfl, rfl⟩
      clear HCT
      obtain ⟨z, hz⟩ : ∃ z, z = nextF S shut k m.id := ⟨_, rfl⟩
      have HZ := Kit.hid hz
      rw [← hz] at HNN
      clear hz
      go_wp2_with fail
      (with_reducible refine HNN.out.mono ?_); rintro e w7 ⟨rfl, hb7⟩
      have HB7 := Kit.hid (HB5.out.trans (hb7.mono HB5.out.size))
      have HBS7 := Kit.hid (HBS5.out.trans (hb7.mono HBS5.out.size))
      clear hb7 HNN y0 yl
      by_cases hz0 : 0 < z
      · have HRES : Hid (nextF S shut (k + 1) g = z) := Kit.hid (by
          rw [HGD.out]
          unfold nextF.go
          rw [if_neg HNT.out, if_neg HNS.out, ← HZ.out, if_pos hz0])
        have g1 : decide (0 < z) = true := decide_eq_true hz0
        clear hz0
        go_wp2
        go_ret
        rw [HRES.out]
        exact ⟨rfl, w2, HPQ.out, HLN.out, HB7.out⟩
      · have HPN : Hid (∀ m ∈ L.take (i + 1), m.id ∉ S.tasks ∧ (m.id ∈ shut ∨ nextF S shut k m.id ≤ 0)) := Kit.hid (by
          intro y hy
          rw [HTK.out, List.mem_append] at hy
          rcases hy with hy | hy
          · exact HP.out y hy
          · rw [List.mem_singleton.1 hy]; exact ⟨HNT.out, .inr (by rw [← HZ.out]; omega)⟩)
        have g1 : decide (0 < z) = false := decide_eq_false hz0
        clear hz0
        go_wp2_with fail
        go_roundw
        case rel => exact ⟨i + 1, by omega, by go_num, HPN, HBS7⟩
        case measure => simp [intOf]; omega
    · obtain rfl : i = L.length := by omega
      have HRES : Hid (nextF S shut (k + 1) g = 0) := Kit.hid (by
        have h1 := go_take L L.length HP.out
        rw [HNX.out, h1, List.drop_length]
        unfold nextF.go
        rfl)
      have HE := Kit.hid hbw2
      clear hbw2
      go_wp2
      go_ret
      rw [HRES.out]
      exact ⟨rfl, w2, HPQ.out, HLN.out, HE.out⟩
theorem next_full (wl : WL S) (A : Option Addr) (shut : List Int) (c : Nat) (hs : shut.length ≤ 1000) (hn : n ≤ 3900) : ∀ (k : Nat) (g : Int) (w : World) (F : Nat → Prop), LF F w lp S n → Deep S k g → (S.Q g).1 ≠ [] → int64 g → Cells w A (iv shut) → (shut ≠ [] → ∀ a, A = some a → a.block < w.heap.size ∧ ¬ F a.block) →
    Calls Try.prog 35 #[.pointer (some ⟨lp, 0, none⟩), .int .i64 g, .slice A shut.length c] w fun e w' => e = .returned (.int .i64 (nextF S shut k g)) ∧ Below w.heap.size w w'
  | 0, g, w, F, h, hd, _, _, _, _ => hd.elim
  | k + 1, g, w, F, h, hd, hq, hg, hc, hA => by
    have H := next_gen (F := F) k g A shut c n (fun w2 => w2 = w) wl hn h.lt ((of_full g h hq hg).mono fun e w' ⟨p, h1, h2, h3⟩ => ⟨p, h1, by rw [h2]; exact h3, h2⟩) hc hA hs
      (fun m hm ht w' G hl hc' hA' => next_full wl A shut c hs hn k m.id w' G hl (hd m hm ht).2 (hd m hm ht).1 (by have := (wl.qb g).each m hm; exact ⟨by omega, by omega⟩) hc' hA')
    refine H.mono ?_
    rintro e w' ⟨h1, w2, rfl, _, h3⟩
    exact ⟨h1, h3⟩
theorem pick_lane (A : Option Addr) (shut : List Int) (c : Nat) (h : LF F w lp S n) (wl : WL S) (hn0 : 1 ≤ n) (hn : n ≤ 3800) (hc : Cells w A (iv shut)) (hA : shut ≠ [] → ∀ a, A = some a → a.block < w.heap.size ∧ ¬ F a.block) (hs : shut.length ≤ 1000) :
    Calls Try.prog 11 #[.pointer (some ⟨lp, 0, none⟩), .slice A shut.length c] w fun e w' => e = .returned (.int .i64 (pickS S shut)) ∧ Ln w F w' lp S (n + 1) := by
  have hd : Deep S 16 0 := deep_ok wl 16 0 [] rfl (by simp) (by simp)
  have HN : Hid (Calls Try.prog 35 #[.pointer (some ⟨lp, 0, none⟩), .int .i64 0, .slice A shut.length c] w fun e w' => e = .returned (.int .i64 (pickS S shut)) ∧ Ln w F w' lp S (n + 1)) := Kit.hid (by
    have H := next_gen (F := F) 15 0 A shut c (n + 1) (fun _ => True) wl (by omega) h.lt ((of_any 0 h hn0 (by omega) (by omega) (by omega)).mono fun e w' ⟨p, h1, h2⟩ => ⟨p, h1, h2, trivial⟩) hc hA hs
      (fun m hm ht w' G hl hc' hA' => next_full wl A shut c hs (by omega) 15 m.id w' G hl (hd m hm ht).2 (hd m hm ht).1 (by have := (wl.qb 0).each m hm; exact ⟨by omega, by omega⟩) hc' hA')
    refine H.mono ?_
    rintro e w' ⟨h1, w2, _, h2, h3⟩
    exact ⟨h1, h2.below h3⟩)
  clear h hc hA hd
  go_enter Try.func11, Try.ntmps11
  go_wp2_with fail
  (with_reducible refine HN.out.mono ?_); rintro e w2 ⟨rfl, hl⟩
  have HL := Kit.hid hl
  clear hl HN
  go_wp2
  go_ret
  exact ⟨rfl, HL.out⟩
end
end Go.Proofs.Ytpgfenelckonoaa.La
