/- The law LaneLags. -/
import Derived.Test.YtpgfenelckonoaaLxF
namespace Go.Proofs.Ytpgfenelckonoaa.LaM
open Go.Proofs.Ytpgfenelckonoaa.ShM Go.Proofs.Ytpgfenelckonoaa.QuM
set_option linter.unusedVariables false
theorem joinS_Q (S : LS) (g : Int) (m : Mem) {j : Int} (h : j ≠ g) : (joinS S g m).2.Q j = S.Q j := by
  unfold joinS
  split
  · exact upd_ne _ _ h
  · rfl
theorem joinS_home (S : LS) (g : Int) (m : Mem) {y : Int} (h : y ≠ m.id) : (joinS S g m).2.home y = S.home y := by
  unfold joinS
  split
  · exact upd_ne _ _ h
  · rfl
theorem enter_q : ∀ (p : List St) (S : LS) (m : Mem) (g : Int), g ≠ 0 → g ∉ p.map St.id → (enterGo S p m).2.Q g = S.Q g
  | [], S, m, g, h0, _ => joinS_Q S 0 m h0
  | s :: p, S, m, g, h0, hn => by
    have h1 : g ≠ s.id := fun e => hn (by rw [e]; simp)
    have h2 : g ∉ p.map St.id := fun hm => hn (by simp only [List.map_cons, List.mem_cons]; exact .inr hm)
    unfold enterGo
    split
    · exact joinS_Q S s.id m h1
    split
    · rw [enter_q p _ _ g h0 h2]; exact joinS_Q S s.id m h1
    · exact joinS_Q S s.id m h1
theorem enter_h : ∀ (p : List St) (S : LS) (m : Mem) (y : Int), y ≠ m.id → y ∉ p.map St.id → (enterGo S p m).2.home y = S.home y
  | [], S, m, y, h0, _ => joinS_home S 0 m h0
  | s :: p, S, m, y, h0, hn => by
    have h1 : y ≠ s.id := fun e => hn (by rw [e]; simp)
    have h2 : y ∉ p.map St.id := fun hm => hn (by simp only [List.map_cons, List.mem_cons]; exact .inr hm)
    unfold enterGo
    split
    · exact joinS_home S s.id m h0
    split
    · rw [enter_h p _ _ y (by rw [memberS_id]; exact h1) h2]; exact joinS_home S s.id m h0
    · exact joinS_home S s.id m h0
theorem joinS_tk (S : LS) (g : Int) (m : Mem) : (joinS S g m).2.tasks = S.tasks ∧ (joinS S g m).2.kept = S.kept := by
  unfold joinS
  split <;> exact ⟨rfl, rfl⟩
theorem enter_tk : ∀ (p : List St) (S : LS) (m : Mem), (enterGo S p m).2.tasks = S.tasks ∧ (enterGo S p m).2.kept = S.kept
  | [], S, m => joinS_tk S 0 m
  | s :: p, S, m => by
    unfold enterGo
    split
    · exact joinS_tk S s.id m
    split
    · have h1 := enter_tk p (joinS S s.id m).2 (memberS S s)
      have h2 := joinS_tk S s.id m
      exact ⟨h1.1.trans h2.1, h1.2.trans h2.2⟩
    · exact joinS_tk S s.id m
theorem ids_notin {S : LS} {p : List St} {sn : List Int} (h : oddGo S p sn = false) {y : Int} (hy : y ∈ sn) : y ∉ p.map St.id := fun hm => by
  obtain ⟨s, hs, e⟩ := List.mem_map.1 hm
  exact odd_notin h s hs (by rw [e]; exact hy)
/-- The way of who entered is the path. -/
theorem enter_way {t : Int} (ht0 : t ≠ 0) : ∀ (p : List St) (S : LS) (x : Int) (k : Nat) (sn : List Int) (m : Mem), WP S t x k sn → m.id = x → oddGo S p sn = false → t ∈ sn → k + p.length ≤ 8 → (enterGo S p m).1 = 0 →
    (enterGo S p m).2.home x = some (firstS p) ∧ IsWay (enterGo S p m).2 (firstS p) (p.map St.id)
  | [], S, x, k, sn, m, w, hm, ho, hts, hk, h => by
    unfold enterGo at h ⊢
    obtain ⟨L', e, hL, hc⟩ := join_is h
    rw [e]
    exact ⟨by show upd S.home m.id _ x = _; rw [hm, upd_at]; rfl, rfl⟩
  | s :: p, S, x, k, sn, m, w, hm, ho, hts, hk, h => by
    unfold enterGo at h ⊢
    obtain ⟨h1, h2, h3, h4, h5⟩ := odd_cons ho
    have hne : s.id ≠ t := fun e => h2 (by rw [e]; exact hts)
    by_cases hj : (joinS S s.id m).1 = 0
    · rw [if_neg (by simpa using hj)] at h ⊢
      obtain ⟨L', e, hL, hc⟩ := join_is hj
      by_cases hq : (S.Q s.id).1 = []
      · rw [if_pos hq] at h ⊢
        have hh : S.home s.id = none := by
          cases hh : S.home s.id with
          | none => rfl
          | some j => exact absurd hq (w.full s.id j hh h3 hne)
        rw [e, hL, hm] at h ⊢
        have w' := wp_join w hm hc h2 hh (by omega) h3 hne
        have ho' : oddGo { S with Q := upd S.Q s.id (joinL m (S.Q s.id).1 (S.Q s.id).2, (S.Q s.id).2), home := upd S.home x (some s.id) } p (sn ++ [s.id]) = false := by
          rw [← h5]
          refine odd_same (S := S) (S' := { S with Q := upd S.Q s.id (joinL m (S.Q s.id).1 (S.Q s.id).2, (S.Q s.id).2), home := upd S.home x (some s.id) }) rfl (fun a ha => ?_)
          show upd S.home x (some s.id) a.id = S.home a.id
          exact upd_ne _ _ (fun e => odd_notin h5 a ha (by rw [e]; exact List.mem_append_left _ w.next.2.1))
        obtain ⟨i1, i2⟩ := enter_way ht0 p _ s.id (k + 1) (sn ++ [s.id]) (memberS S s) w' (memberS_id S s) ho' (List.mem_append_left _ hts) (by simp at hk; omega) h
        have hxs : x ≠ s.id := fun e => h2 (by rw [← e]; exact w.next.2.1)
        refine ⟨?_, rfl, by show s.id ≠ 0; omega, ?_, firstS p, i1, i2⟩
        · rw [enter_h p _ _ x (by rw [memberS_id]; exact hxs) (ids_notin h5 (List.mem_append_left _ w.next.2.1))]
          show upd S.home x (some s.id) x = _
          rw [upd_at]; rfl
        · rw [(enter_tk p _ _).1]; exact h3
      · rw [if_neg hq] at h ⊢
        rw [e, hm]
        obtain ⟨y, hy⟩ := queue_home w hq
        have ha := active_home w hy (by omega) h2
        have hr := path_way w ho (fun z hz => hz) (fun s' q e => by cases e; exact ha)
        exact ⟨by show upd S.home x (some s.id) x = _; rw [upd_at]; rfl, way_upd w.next.1 hr⟩
    · rw [if_pos hj] at h
      exact absurd h hj
theorem join_lag {S : LS} {g : Int} {m : Mem} (hw : WQ (S.Q g).1) (h : (joinS S g m).1 = 0) : memS (joinS S g m).2 g m.id = m := by
  obtain ⟨L', e, hL, hc⟩ := join_is h
  rw [e, hL]
  unfold memS
  dsimp only
  rw [upd_at]
  dsimp only
  have hg : QuM.get (joinL m (S.Q g).1 (S.Q g).2) m.id = some { m with v := (S.Q g).2 + m.v } := by
    unfold joinL
    rw [if_pos hc, get_put hw]
    simp
  rw [hg]
  dsimp only
  cases m
  simp
  omega
/-- Who enters has its lag there, and its way is the path. -/
theorem enter_lag {S : LS} (wl : WL S) (p : List St) (hp : p.length ≤ 8) (m : Mem) (h : (enterS S p m).1 = 0) :
    (enterS S p m).2.home m.id = some (firstS p) ∧ wayS (enterS S p m).2 m.id = p.map St.id ∧ memS (enterS S p m).2 (firstS p) m.id = m ∧ m.id ∈ (enterS S p m).2.tasks := by
  have w2 := wl.enter p hp m
  unfold enterS at h w2 ⊢
  by_cases h1 : m.id ∈ S.tasks
  · rw [if_pos h1] at h; exact absurd h (show ¬ (9 : Int) = 0 by decide)
  rw [if_neg h1] at h w2 ⊢
  by_cases h2 : oddS S p m.id = true
  · rw [if_pos h2] at h; exact absurd h (show ¬ (11 : Int) = 0 by decide)
  rw [if_neg h2] at h w2 ⊢
  by_cases h3 : (enterGo S p m).1 = 0
  rotate_left
  · rw [if_pos h3] at h; exact absurd h h3
  rw [if_neg (by simpa using h3)] at w2 ⊢
  have ho : oddGo S p [m.id] = false ∧ (S.home m.id).isSome = false := by
    unfold oddS at h2
    simpa using h2
  have hh : S.home m.id = none := by
    cases hh : S.home m.id with
    | none => rfl
    | some j => rw [hh] at ho; cases ho.2
  have hj := enter_first h3
  obtain ⟨_, _, _, hc⟩ := join_is hj
  have h0 : m.id ≠ 0 := by
    have := (join_ok hc).1
    omega
  obtain ⟨i1, i2⟩ := enter_way h0 p S m.id 0 [m.id] m (wp_start wl h1 hh h0) rfl ho.1 (by simp) (by omega) h3
  have hnot := ids_notin ho.1 (show m.id ∈ [m.id] by simp)
  have i3 : IsWay { (enterGo S p m).2 with tasks := insT m.id (enterGo S p m).2.tasks } (firstS p) (p.map St.id) := way_task i2 hnot
  refine ⟨i1, chain_way (zero_home w2) (way_chain i1 i3) (by simp; omega), ?_, mem_insT.2 (.inl rfl)⟩
  have hQ : (enterGo S p m).2.Q (firstS p) = (joinS S (firstS p) m).2.Q (firstS p) := by
    cases p with
    | nil => rfl
    | cons s p =>
      obtain ⟨k1, k2, k3, k4, k5⟩ := odd_cons ho.1
      have hj' : (joinS S s.id m).1 = 0 := hj
      show (enterGo S (s :: p) m).2.Q s.id = (joinS S s.id m).2.Q s.id
      unfold enterGo
      rw [if_neg (by simpa using hj')]
      split
      · exact enter_q p _ _ s.id (by omega) (ids_notin k5 (by simp))
      · rfl
  have hl := join_lag (wl.wq (firstS p)) hj
  unfold memS at hl ⊢
  show (match QuM.get ((enterGo S p m).2.Q (firstS p)).1 m.id with
    | none => (⟨0, 0, 0, 0⟩ : Mem)
    | some m' => { m' with v := m'.v - ((enterGo S p m).2.Q (firstS p)).2 }) = m
  rw [hQ]
  exact hl
theorem leave_none {y : Int} : ∀ (n : Nat) (S : LS) (g : Int), S.home y = none → (leaveGo n S g).home y = none
  | 0, S, g, h => h
  | n + 1, S, g, h => by
    unfold leaveGo
    split
    · refine leave_none n _ _ ?_
      show upd S.home g none y = none
      unfold upd
      split
      · rfl
      · exact h
    · exact h
theorem leave_tells {S : LS} {id g : Int} (ht : id ∈ S.tasks) (hh : S.home id = some g) : leaveS S id = (some (memS S g id), 0, (leaveS S id).2.2) ∧ (leaveS S id).2.2.home id = none := by
  unfold leaveS
  rw [if_pos ht, hh]
  refine ⟨rfl, ?_⟩
  show (leaveGo 16 (quitS S id) g).home id = none
  refine leave_none 16 _ _ ?_
  show upd S.home id none id = none
  exact upd_at _ _ _
end Go.Proofs.Ytpgfenelckonoaa.LaM
namespace Go.Proofs.Ytpgfenelckonoaa.La
open Go.RowKit Go.Proofs.Ytpgfenelckonoaa.Kit Go.Proofs.Ytpgfenelckonoaa.ShM Go.Proofs.Ytpgfenelckonoaa.Sh Go.Proofs.Ytpgfenelckonoaa.QuM Go.Proofs.Ytpgfenelckonoaa.Qu Go.Proofs.Ytpgfenelckonoaa.LaM
open Go.Proofs.Ytpgfenelckonoaa.Ki (Row row_nil row_of iv iv_len iv_one)
set_option linter.unusedVariables false
set_option linter.unusedSimpArgs false
theorem eql_mem (a b : Mem) (w : World) : (binOp .eql 35 (.agg #[.int .i64 a.id, .int .i64 a.wt, .int .i64 a.v, .int .i64 a.rem]) (.agg #[.int .i64 b.id, .int .i64 b.wt, .int .i64 b.v, .int .i64 b.rem])).run Try.prog w = .ok (.bool (decide (a = b))) w := by
  rw [run_eql_struct, equalIn_mem]
  rfl
/-- Two lanes side by side, and blocks beside them. -/
structure Duo (w0 w : World) (lp : Nat) (S : LS) (n mp : Nat) (T : LS) (k : Nat) (R : Nat → Obj → Prop) : Prop where
  ex : ∃ G H : Nat → Prop, LF G w lp S n ∧ LF H w mp T k ∧ (∀ x, G x → ¬ H x) ∧ (∀ x, G x → w0.heap.size ≤ x) ∧ (∀ x, H x → w0.heap.size ≤ x) ∧ (∀ b o, R b o → w.heap[b]? = some o ∧ ¬ G b ∧ ¬ H b)
  bel : Below w0.heap.size w0 w
section
variable {w0 w w' : World} {lp n mp k : Nat} {S T : LS} {R : Nat → Obj → Prop}
theorem Duo.symm (h : Duo w0 w lp S n mp T k R) : Duo w0 w mp T k lp S n R := by
  obtain ⟨⟨G, H, h1, h2, h3, h4, h5, h6⟩, h7⟩ := h
  exact ⟨⟨H, G, h2, h1, fun x hx hg => h3 x hg hx, h5, h4, fun b o hr => ⟨(h6 b o hr).1, (h6 b o hr).2.2, (h6 b o hr).2.1⟩⟩, h7⟩
theorem Duo.get {b : Nat} {o : Obj} (h : Duo w0 w lp S n mp T k R) (hr : R b o) : w.heap[b]? = some o := by
  obtain ⟨⟨G, H, h1, h2, h3, h4, h5, h6⟩, h7⟩ := h
  exact (h6 b o hr).1
theorem Duo.left (h : Duo w0 w lp S n mp T k R) : ∃ G, LF G w lp S n ∧ (∀ x, G x → w0.heap.size ≤ x) ∧ ∀ w' S' n', Ln w G w' lp S' n' → Duo w0 w' lp S' n' mp T k R := by
  obtain ⟨⟨G, H, h1, h2, h3, h4, h5, h6⟩, h7⟩ := h
  refine ⟨G, h1, h4, fun w' S' n' hl => ?_⟩
  obtain ⟨G2, g1, g2, g3⟩ := hl
  refine ⟨⟨G2, H, g1, h2.same fun x hx => g3.block x (h2.lt x hx) (fun hg => h3 x hg hx), fun x hx hh => ?_, fun x hx => ?_, h5, fun b o hr => ?_⟩, ?_⟩
  · rcases g2 x hx with e | e
    · exact h3 x e hh
    · have := h2.lt x hh; omega
  · rcases g2 x hx with e | e
    · exact h4 x e
    · exact Nat.le_trans h7.size e
  · obtain ⟨e1, e2, e3⟩ := h6 b o hr
    have hb := (Array.getElem?_eq_some_iff.1 e1).1
    refine ⟨(g3.block b hb e2).trans e1, fun hg => ?_, e3⟩
    rcases g2 b hg with e | e
    · exact e2 e
    · omega
  · exact ⟨g3.os.trans h7.os, g3.tape.trans h7.tape, g3.output.trans h7.output, Nat.le_trans h7.size g3.size, fun x hx => (g3.block x (Nat.lt_of_lt_of_le hx h7.size) (fun hg => by have := h4 x hg; omega)).trans (h7.block x hx)⟩
theorem Duo.below (h : Duo w0 w lp S n mp T k R) (hb : Below w.heap.size w w') : Duo w0 w' lp S n mp T k R := by
  obtain ⟨⟨G, H, h1, h2, h3, h4, h5, h6⟩, h7⟩ := h
  exact ⟨⟨G, H, h1.below hb, h2.below hb, h3, h4, h5, fun b o hr => ⟨(hb.block b (Array.getElem?_eq_some_iff.1 (h6 b o hr).1).1).trans (h6 b o hr).1, (h6 b o hr).2⟩⟩, h7.trans (hb.mono h7.size)⟩
theorem Duo.add (h : Duo w0 w lp S n mp T k R) (o : Obj) : Duo w0 (w.alloc o) lp S n mp T k (fun b x => R b x ∨ (b = w.heap.size ∧ x = o)) := by
  have h8 := h.below ((Below.refl _ w).alloc (Nat.le_refl _) o)
  obtain ⟨⟨G, H, h1, h2, h3, h4, h5, h6⟩, h7⟩ := h
  have hb : Below w.heap.size w (w.alloc o) := (Below.refl _ w).alloc (Nat.le_refl _) o
  refine ⟨⟨G, H, h1.below hb, h2.below hb, h3, h4, h5, fun b x hr => ?_⟩, h8.bel⟩
  rcases hr with hr | ⟨rfl, rfl⟩
  · exact ⟨(hb.block b (Array.getElem?_eq_some_iff.1 (h6 b x hr).1).1).trans (h6 b x hr).1, (h6 b x hr).2⟩
  · exact ⟨blk_new _ _, fun hg => by have := h1.lt _ hg; omega, fun hg => by have := h2.lt _ hg; omega⟩
end
set_option maxRecDepth 40000 in
set_option maxHeartbeats 6400000 in
theorem lagsLaw_any (A : Option Addr) (l : List LOp) (cap : Nat) (B : Option Addr) (k : List LOp) (cbp : Nat) (whi : Int) (As : Option Addr) (path : List St) (cs : Nat) (w : World) (hr : Hid (LRow w A l)) (hl : l.length ≤ 9223372036854775807) (hr2 : Hid (LRow w B k)) (hl2 : k.length ≤ 9223372036854775807)
    (hw0 : 0 ≤ whi) (hw1 : whi ≤ 255) (hs : Hid (SRow w As path)) (hsl : path.length ≤ 9223372036854775807) (hsc : path.length ≤ cs) :
    Calls Try.prog 5 #[.slice A l.length cap, .slice B k.length cbp, .int .u8 whi, .slice As path.length cs] w fun e w' => e = .returned (.bool true) ∧ Below w.heap.size w w' := by
  have HA := Kit.hid (awake_lane w)
  go_enter Try.func5, Try.ntmps5
  go_wp2_with fail
  (with_reducible refine HA.out.mono ?_); rintro e w1 ⟨rfl, hb1⟩
  have HB1 := Kit.hid hb1
  have HF := Kit.hid (few_any A l cap w1 (Kit.hid (hr.out.below hb1)) hl)
  have HF2 := Kit.hid (few_any B k cbp w1 (Kit.hid (hr2.out.below hb1)) hl2)
  clear hb1 HA
  obtain ⟨f1, hf1⟩ : ∃ f1, f1 = fewS l := ⟨_, rfl⟩
  obtain ⟨f2, hf2⟩ : ∃ f2, f2 = fewS k := ⟨_, rfl⟩
  have HE1 := Kit.hid hf1
  have HE2 := Kit.hid hf2
  rw [← hf1] at HF
  rw [← hf2] at HF2
  clear hf1 hf2
  go_wp2_with fail
  (with_reducible refine HF.out.mono ?_); rintro e w2 ⟨rfl, rfl⟩
  go_wp2_with fail
  (with_reducible refine HF2.out.mono ?_); rintro e w2 ⟨rfl, rfl⟩
  clear HF HF2
  cases f1 with
  | false =>
    go_wp2
    go_ret
    exact ⟨rfl, HB1.out⟩
  | true =>
  cases f2 with
  | false =>
    go_wp2
    go_ret
    exact ⟨rfl, HB1.out⟩
  | true =>
  by_cases hs8 : path.length ≤ 8
  rotate_left
  · have g1 : decide ((8 : Int) < (path.length : Int)) = true := decide_eq_true (by omega)
    clear hs8
    go_wp2
    go_ret
    exact ⟨rfl, HB1.out⟩
  have g1 : decide ((8 : Int) < (path.length : Int)) = false := decide_eq_false (by omega)
  have HWK := Kit.hid (walked_lane A l cap w2 (Kit.hid (hr.out.below HB1.out)) HE1.out.symm)
  have HWL : Hid (WL (walkedS l)) := Kit.hid (walkedS_ok l fun o ho => ((few_ok HE1.out.symm).1 o ho).1)
  have HWM : Hid (WL (walkedS k)) := Kit.hid (walkedS_ok k fun o ho => ((few_ok HE2.out.symm).1 o ho).1)
  have hl40 := (few_ok HE1.out.symm).2
  have hk40 := (few_ok HE2.out.symm).2
  obtain ⟨S, hS⟩ : ∃ S, S = walkedS l := ⟨_, rfl⟩
  obtain ⟨T, hT⟩ : ∃ T, T = walkedS k := ⟨_, rfl⟩
  rw [← hS] at HWK HWL
  rw [← hT] at HWM
  have HTE := Kit.hid hT
  clear hS hT
  go_wp2_with fail
  (with_reducible refine HWK.out.mono ?_); rintro e w3 ⟨lp, rfl, hl3⟩
  have hbl3 := hl3.blw
  have HB3 := Kit.hid (HB1.out.trans (hbl3.mono HB1.out.size))
  have HWK2 := Kit.hid (walked_lane B k cbp w3 (Kit.hid (hr2.out.below HB3.out)) HE2.out.symm)
  rw [← HTE.out] at HWK2
  have HL3 := Kit.hid hl3
  clear hl3 hbl3 HWK
  go_wp2_with fail
  (with_reducible refine HWK2.out.mono ?_); rintro e w4 ⟨mp, rfl, hl4⟩
  have HD4 : Hid (Duo w2 w4 lp S (60 * l.length + 1) mp T (60 * k.length + 1) (fun _ _ => False)) := Kit.hid (by
    have hb := hl4.blw
    obtain ⟨G, a1, a2, a3⟩ := HL3.out
    obtain ⟨H, b1, b2, b3⟩ := hl4
    have hb3 := HL3.out.blw
    refine ⟨⟨G, H, a1.below hb, b1, fun x hx hh => ?_, fun x hx => (a2 x hx).resolve_left id, fun x hx => ?_, fun b o hr => hr.elim⟩, hb3.trans (hb.mono hb3.size)⟩
    · have h1 := a1.lt x hx
      have h2 := (b2 x hh).resolve_left id
      omega
    · have h2 := (b2 x hx).resolve_left id
      have := hb3.size
      omega)
  clear hl4 HWK2 HL3 HB3
  obtain ⟨G4, g41, g42, g43⟩ := HD4.out.left
  have HTS := Kit.hid (tasks_lane g41 (by omega))
  have htl : S.tasks.length ≤ 100000 := by
    obtain ⟨mb, mh, mk, vt, Qp, Fq, _, hx⟩ := g41
    have := hx.tn
    omega
  clear g41 g42 g43
  go_wp2_with fail
  (with_reducible refine HTS.out.mono ?_); rintro e w5 ⟨vt, rfl, hrt, hb5⟩
  have HD5 := Kit.hid (HD4.out.below hb5)
  obtain ⟨At, ct, rfl, hct, _, _⟩ := hrt.reads
  clear hrt hb5 HTS HD4
  by_cases hz : S.tasks = []
  · rw [hz]
    have HE := Kit.hid (HB1.out.trans (HD5.out.bel.mono HB1.out.size))
    go_wp2
    go_ret
    exact ⟨rfl, HE.out⟩
  have hpos : 0 < S.tasks.length := List.length_pos_iff.2 hz
  obtain ⟨whn, rfl⟩ := Int.eq_ofNat_of_zero_le hw0
  obtain ⟨i, hi⟩ : ∃ i, i = whn % S.tasks.length := ⟨_, rfl⟩
  have hil : i < S.tasks.length := by rw [hi]; exact Nat.mod_lt _ hpos
  have hrem : Int.tmod (whn : Int) (S.tasks.length : Int) = (i : Int) := by rw [hi, Int.tmod_eq_emod_of_nonneg (by omega)]; simp
  obtain ⟨id, hid⟩ : ∃ id, S.tasks[i]? = some id := ⟨_, List.getElem?_eq_getElem hil⟩
  have hidt : id ∈ S.tasks := List.mem_of_getElem? hid
  have hsome := HWL.out.isHome id hidt
  obtain ⟨g, hg⟩ : ∃ g, S.home id = some g := by
    cases hh : S.home id with
    | none => rw [hh] at hsome; cases hsome
    | some g => exact ⟨g, rfl⟩
  obtain ⟨y, hy, hym, hyid⟩ := member_some HWL.out hg
  obtain ⟨m, hm⟩ : ∃ m, m = getM S id := ⟨_, rfl⟩
  have hmS : m = memS S g id := by rw [hm]; unfold getM; rw [hg]
  have HMI : Hid (m.id = id) := Kit.hid (by rw [hmS]; unfold memS; rw [hy]; exact hyid)
  have HII : Hid (int64 id) := Kit.hid (home_int HWL.out hsome)
  obtain ⟨hlv1, hlv2⟩ := leave_tells hidt hg
  rw [← hmS] at hlv1
  have HLV := Kit.hid hlv1
  have HLN := Kit.hid hlv2
  have HWL2 := Kit.hid (HWL.out.leave id)
  obtain ⟨ad, hA, k0⟩ := cells_at hct hid
  subst hA
  obtain ⟨G5, g51, g52, g53⟩ := HD5.out.left
  have HGT := Kit.hid (get_lane id g51 HWL.out (by omega) (by omega) HII.out)
  rw [← hm, hsome] at HGT
  unfold memV at HGT
  have HG5 := Kit.hid g53
  have hi4 : (i : Int) < (S.tasks.length : Int) := by omega
  have hz' : ¬ S.tasks.length = 0 := by omega
  have hz2 : ((S.tasks.length : Int) == 0) = false := by simp; omega
  have hz3 : ¬ (S.tasks.length : Int) = 0 := by omega
  clear hz hi hil hid hidt hsome hg hy hym hyid hm hmS hlv1 hlv2 hct g51 g52 g53
  go_wp2_with fail
  (with_reducible refine HGT.out.mono ?_); rintro e w6 ⟨rfl, hl6⟩
  have HD6 := Kit.hid ((HG5.out _ _ _ hl6).add (memO m))
  obtain ⟨w7, hw7⟩ : ∃ w7, w7 = w6.alloc (memO m) := ⟨_, rfl⟩
  rw [← hw7] at HD6
  obtain ⟨G7, g71, g72, g73⟩ := HD6.out.left
  have HLE := Kit.hid (leave_lane id g71 HWL.out (by omega) (by omega) HII.out.1 HII.out.2)
  rw [HLV.out] at HLE
  simp only [Option.getD_some] at HLE
  have HG7 := Kit.hid g73
  unfold memO at hw7
  unfold memV at HLE
  clear hl6 HGT HG5 k0 g71 g72 g73
  go_wp2_with fail
  rw [← hw7]
  clear hw7
  (with_reducible refine HLE.out.mono ?_); rintro e w8 ⟨rfl, hl8⟩
  obtain ⟨S2, hS2⟩ : ∃ S2, S2 = (leaveS S id).2.2 := ⟨_, rfl⟩
  rw [← hS2] at hl8 HLN HWL2
  have HD8 := Kit.hid ((HG7.out _ _ _ hl8).add (memO m))
  obtain ⟨w9, hw9⟩ : ∃ w9, w9 = w8.alloc (memO m) := ⟨_, rfl⟩
  rw [← hw9] at HD8
  obtain ⟨G9, g91, g92, g93⟩ := HD8.out.left
  have HGT2 := Kit.hid (get_lane id g91 HWL2.out (by omega) (by omega) HII.out)
  have hgn : getM S2 id = ⟨0, 0, 0, 0⟩ := by unfold getM; rw [HLN.out]
  rw [hgn, HLN.out] at HGT2
  have HG9 := Kit.hid g93
  unfold memO at hw9
  unfold memV at HGT2
  simp only [Option.isSome_none] at HGT2
  clear hl8 HLE HG7 g91 g92 g93 hgn hS2
  go_wp2_with fail
  rw [← hw9]
  clear hw9
  (with_reducible refine HGT2.out.mono ?_); rintro e w10 ⟨rfl, hl10⟩
  have HD10 := Kit.hid (HG9.out _ _ _ hl10)
  obtain ⟨w11, hw11⟩ : ∃ w11, w11 = w10.alloc (.cells #[.int .i64 0, .int .i64 0, .int .i64 0, .int .i64 0] 35) := ⟨_, rfl⟩
  have HD11 : Hid (Duo w2 w11 lp S2 (60 * l.length + 1 + 1 + 60 + 1) mp T (60 * k.length + 1) (fun b o => (False ∨ b = w6.heap.size ∧ o = memO m) ∨ b = w8.heap.size ∧ o = memO m)) := Kit.hid (by rw [hw11]; exact HD10.out.below ((Below.refl _ _).alloc (Nat.le_refl _) _))
  have h16 := HD11.out.get (b := w6.heap.size) (.inl (.inr ⟨rfl, rfl⟩))
  have h18 := HD11.out.get (b := w8.heap.size) (.inr ⟨rfl, rfl⟩)
  unfold memO at h16 h18
  have p0 := blk_cell h16 0
  have p1 := blk_cell h16 1
  have p2 := blk_cell h16 2
  have p3 := blk_cell h16 3
  have pl := blk_lt h16
  have q0 := blk_cell h18 0
  have q1 := blk_cell h18 1
  have q2 := blk_cell h18 2
  have q3 := blk_cell h18 3
  have ql := blk_lt h18
  have hneq : ∀ w', (binOp .neq 35 (.agg #[.int .i64 m.id, .int .i64 m.wt, .int .i64 m.v, .int .i64 m.rem]) (.agg #[.int .i64 m.id, .int .i64 m.wt, .int .i64 m.v, .int .i64 m.rem])).run Try.prog w' = .ok (.bool false) w' := fun w' => by rw [neq_mem, decide_eq_true rfl]; rfl
  obtain ⟨H11, g111, g112, g113⟩ := HD11.out.symm.left
  have hbw : Below w.heap.size w w11 := HB1.out.trans (HD11.out.bel.mono HB1.out.size)
  have HBW := Kit.hid hbw
  have HEN := Kit.hid (enter_lane As path cs m g111 HWM.out (hs.out.below hbw) (fun hp a ha => by
    obtain ⟨ad', e, c, _⟩ := hs.out 0 (List.length_pos_iff.2 hp)
    rw [e] at ha
    cases ha
    have := cell_lt c
    have e0 : a.add (0 * 2) = a := rfl
    rw [e0] at this
    exact ⟨Nat.lt_of_lt_of_le this hbw.size, fun hg => by have := g112 _ hg; have := HB1.out.size; omega⟩) hsc hs8 (by omega) (by omega) (by rw [HMI.out]; exact HII.out))
  have HG11 := Kit.hid g113
  have HWT := Kit.hid (HWM.out.enter path hs8 m)
  obtain ⟨fc, hfc⟩ : ∃ fc, fc = (enterS T path m).1 := ⟨_, rfl⟩
  obtain ⟨T2, hT2⟩ : ∃ T2, T2 = (enterS T path m).2 := ⟨_, rfl⟩
  rw [← hfc, ← hT2] at HEN
  rw [← hT2] at HWT
  have HFC := Kit.hid hfc
  have HT2 := Kit.hid hT2
  clear hl10 HGT2 HG9 g111 g112 g113 hbw h16 h18 hfc hT2
  rw [hw11] at p0 p1 p2 p3 pl q0 q1 q2 q3 ql
  go_wp2_with fail
  rw [← hw11]
  clear hw11
  (with_reducible refine HEN.out.mono ?_); rintro e w12 ⟨rfl, hl12⟩
  have HD12 := Kit.hid (HG11.out _ _ _ hl12)
  clear HEN HG11 hl12 HBW HD11 HD10 p0 p1 p2 p3 pl q0 q1 q2 q3 ql hneq
  obtain ⟨G12, g121, g122, g123⟩ := HD12.out.left
  have HGT3 := Kit.hid (get_lane id g121 HWT.out (by omega) (by omega) HII.out)
  have HG12 := Kit.hid g123
  clear g121 g122 g123
  have HBW : Hid (Below w.heap.size w w12) := Kit.hid (HB1.out.trans (HD12.out.bel.mono HB1.out.size))
  by_cases hf0 : fc = 0
  rotate_left
  · have hf2 : (fc == 0) = false := by simpa using hf0
    unfold memV at HGT3
    go_wp2_with fail
    (with_reducible refine HGT3.out.mono ?_); rintro e w13 ⟨rfl, hl13⟩
    have hb13 := (HG12.out _ _ _ hl13).bel
    obtain ⟨w14, hw14⟩ : ∃ w14, w14 = w13.alloc (memO (getM T2 id)) := ⟨_, rfl⟩
    have HE : Hid (Below w.heap.size w w14) := Kit.hid (by rw [hw14]; exact HB1.out.trans ((hb13.alloc hb13.size _).mono HB1.out.size))
    unfold memO at hw14
    clear hb13 hl13 HGT3 HG12
    go_wp2
    rw [← hw14]
    go_ret
    exact ⟨rfl, HE.out⟩
  subst hf0
  obtain ⟨e1, e2, e3, e4⟩ := enter_lag HWM.out path hs8 m HFC.out.symm
  rw [← HT2.out, HMI.out] at e1 e2 e3
  have hgm : getM T2 id = m := by unfold getM; rw [e1]; exact e3
  rw [hgm, e1] at HGT3
  have HWY := Kit.hid e2
  unfold memV at HGT3
  simp only [Option.isSome_some] at HGT3
  clear e1 e2 e3 e4 hgm
  go_wp2_with fail
  (with_reducible refine HGT3.out.mono ?_); rintro e w13 ⟨rfl, hl13⟩
  have HD14 := Kit.hid ((HG12.out _ _ _ hl13).add (memO m))
  obtain ⟨w14, hw14⟩ : ∃ w14, w14 = w13.alloc (memO m) := ⟨_, rfl⟩
  rw [← hw14] at HD14
  have HE : Hid (Below w.heap.size w w14) := Kit.hid (HB1.out.trans (HD14.out.bel.mono HB1.out.size))
  obtain ⟨G14, g141, g142, g143⟩ := HD14.out.left
  have HWA := Kit.hid (way_lane id g141 HWT.out HII.out)
  rw [HWY.out] at HWA
  have heq : ∀ w', (binOp .eql 35 (.agg #[.int .i64 m.id, .int .i64 m.wt, .int .i64 m.v, .int .i64 m.rem]) (.agg #[.int .i64 m.id, .int .i64 m.wt, .int .i64 m.v, .int .i64 m.rem])).run Try.prog w' = .ok (.bool true) w' := fun w' => by rw [eql_mem, decide_eq_true rfl]
  have hs14 := hs.out.below HE.out
  have h16 := HD14.out.get (b := w6.heap.size) (.inl (.inl (.inr ⟨rfl, rfl⟩)))
  have h23 := HD14.out.get (b := w13.heap.size) (.inr ⟨rfl, rfl⟩)
  obtain ⟨x6, hx6⟩ : ∃ x6, x6 = w6.heap.size := ⟨_, rfl⟩
  obtain ⟨x13, hx13⟩ : ∃ x13, x13 = w13.heap.size := ⟨_, rfl⟩
  have HH16 := Kit.hid h16
  have HH23 := Kit.hid h23
  unfold memO at hw14
  clear hl13 HGT3 HG12 g141 g142 g143 h16 h23
  cases path with
  | nil =>
    clear hs14
    go_wp2_with fail
    rw [← hw14]
    clear hw14
    (with_reducible refine HWA.out.mono ?_); rintro e w15 ⟨v, rfl, hrw, hb15⟩
    have HEE := Kit.hid (HE.out.trans (hb15.mono HE.out.size))
    have j16 := (hb15.block _ (Array.getElem?_eq_some_iff.1 HH16.out).1).trans HH16.out
    have j23 := (hb15.block _ (Array.getElem?_eq_some_iff.1 HH23.out).1).trans HH23.out
    unfold memO at j16 j23
    have p0 := blk_cell j16 0
    have p1 := blk_cell j16 1
    have p2 := blk_cell j16 2
    have p3 := blk_cell j16 3
    have pl := blk_lt j16
    have q0 := blk_cell j23 0
    have q1 := blk_cell j23 1
    have q2 := blk_cell j23 2
    have q3 := blk_cell j23 3
    have ql := blk_lt j23
    obtain ⟨Aw, cw, rfl, hcw, _, _⟩ := hrw.reads
    clear hcw hrw hb15 j16 j23
    go_wp2
    go_ret
    exact ⟨rfl, HEE.out⟩
  | cons s p =>
    obtain ⟨sa, rfl, c0, c1, c2⟩ := srow_at hs14 (i := 0) rfl
    have c3 : w14.cell? sa = some (.int .i64 s.id) := c0
    rw [hw14] at c3
    have c4 := cell_lt c3
    have hgp : ((0 : Int) < ((s :: p).length : Int)) := by rw [List.length_cons]; omega
    have hgp2 : (((s :: p).length : Int) == 0) = false := beq_eq_false_iff_ne.2 (by rw [List.length_cons]; omega)
    clear hs14 c0 c1
    go_wp2_with fail
    rw [← hw14]
    clear hw14
    (with_reducible refine HWA.out.mono ?_); rintro e w15 ⟨v, rfl, hrw, hb15⟩
    have HEE := Kit.hid (HE.out.trans (hb15.mono HE.out.size))
    have j16 := (hb15.block _ (Array.getElem?_eq_some_iff.1 HH16.out).1).trans HH16.out
    have j23 := (hb15.block _ (Array.getElem?_eq_some_iff.1 HH23.out).1).trans HH23.out
    unfold memO at j16 j23
    have p0 := blk_cell j16 0
    have p1 := blk_cell j16 1
    have p2 := blk_cell j16 2
    have p3 := blk_cell j16 3
    have pl := blk_lt j16
    have q0 := blk_cell j23 0
    have q1 := blk_cell j23 1
    have q2 := blk_cell j23 2
    have q3 := blk_cell j23 3
    have ql := blk_lt j23
    obtain ⟨Aw, cw, rfl, hcw, _, _⟩ := hrw.reads
    obtain ⟨wa, rfl, k0⟩ := cells_at hcw (i := 0) (x := s.id) rfl
    have k1 : w15.cell? wa = some (.int .i64 s.id) := k0
    have k2 := cell_lt k1
    clear hcw hrw hb15 j16 j23 k0
    go_wp2
    go_ret
    exact ⟨rfl, HEE.out⟩
end Go.Proofs.Ytpgfenelckonoaa.La
