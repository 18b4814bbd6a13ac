/- The walk of even. -/
import Derived.Test.YtpgfenelckonoaaShA
namespace Go.Proofs.Ytpgfenelckonoaa.Sh
open Go.RowKit Go.Proofs.Ytpgfenelckonoaa.Kit Go.Proofs.Ytpgfenelckonoaa.ShM
set_option linter.unusedVariables false
set_option linter.unusedSimpArgs false
theorem Sh.drewN {w0 w : World} {S0 : Nat → Prop} {p gl cl : Nat} {vf : Value} {L : List Nd} {top : Nat} {F : List Nat} (h : Sh w0 S0 w p gl cl vf L top F) (m : Nat) : Sh w0 S0 (w.drewN m) p gl cl vf L top F := h.below (below_drewN (Below.refl _ _) m)
/-- How a tree leans, told. -/
theorem lean_fit {w0 w : World} {S0 : Nat → Prop} {p gl cl : Nat} {vf : Value} {L : List Nd} {top : Nat} {F : List Nat} (h : Sh w0 S0 w p gl cl vf L top F) (hz : L[0]? = some zeroN) (hlen : L.length ≤ 1099511627776) (i : Nat) (x : It) (l r : T) (q : Int) (hi : Fit L (.node i x l r)) (hq : (l.deep : Int) - (r.deep : Int) = q) :
    Calls Try.prog 89 #[.pointer (some ⟨p, 0, none⟩), .int .i64 (i : Int)] w fun e w' => e = .returned (.int .i64 q) ∧ ∃ m, w' = w.drewN m := by
  subst hq
  have hl := hi.left
  have hr := hi.right
  obtain ⟨nl, e1, e2, e3⟩ := hl.holds.top hz
  obtain ⟨nh, e4, e5, e6⟩ := hr.holds.top hz
  have b1 := hl.many_lt
  have b2 := hr.many_lt
  have b3 := T.deep_many l
  have b4 := T.deep_many r
  have := lean_any h i _ nl nh hi.holds.node e1 e4 (by omega) (by omega)
  rw [e3, e6] at this
  exact this
section
variable {w0 w : World} {S0 : Nat → Prop} {p gl cl : Nat} {vf : Value} {L : List Nd} {top : Nat} {F : List Nat}
/-- No side is much deeper. -/
theorem even_flat (h : Sh w0 S0 w p gl cl vf L top F) (hz : L[0]? = some zeroN) (hlen : L.length ≤ 1099511627776) (i : Nat) (x : It) (l r : T) (m d : Nat) (q : Int)
    (hi : L[i]? = some ⟨x, l.root, r.root, m, d⟩) (h1 : Fit L l) (h2 : Fit L r) (hnd : (i :: (l.idx ++ r.idx)).Nodup) (pi : 0 < i) (hq : (l.deep : Int) - (r.deep : Int) = q) (hq1 : q ≠ 2) (hq2 : q ≠ -2) :
    Calls Try.prog 86 #[.pointer (some ⟨p, 0, none⟩), .int .i64 (i : Int)] w fun e w' => e = .returned (.int .i64 (i : Int)) ∧ Sh w0 S0 w' p gl cl vf (L.set i (ndOf x l r)) top F := by
  have li := (List.getElem?_eq_some_iff.1 hi).1
  have hni := List.nodup_cons.1 hnd
  have HC := Kit.hid (count_fit h hz hlen i x l r m d hi h1 h2)
  obtain ⟨L1, hL1⟩ : ∃ L1, L1 = L.set i (ndOf x l r) := ⟨_, rfl⟩
  rw [← hL1] at HC ⊢
  have o1 : ∀ j, j ≠ i → L1[j]? = L[j]? := fun j h => by rw [hL1, List.getElem?_set_ne (Ne.symm h)]
  have n1 : L1[i]? = some (ndOf x l r) := by rw [hL1, List.getElem?_set_self li]
  have f1 : Fit L1 (.node i x l r) := ⟨⟨n1, h1.holds.off fun j hj => o1 j (fun e => hni.1 (by rw [← e]; simp [hj])), h2.holds.off fun j hj => o1 j (fun e => hni.1 (by rw [← e]; simp [hj]))⟩, hnd, fun j hj => by
    simp only [T.idx, List.mem_cons, List.mem_append] at hj
    rcases hj with rfl | hj | hj
    · exact pi
    · exact h1.pos j hj
    · exact h2.pos j hj⟩
  have hlen1 : L1.length = L.length := by rw [hL1]; simp
  have CL : Hid (∀ w', Sh w0 S0 w' p gl cl vf L1 top F → Calls Try.prog 89 #[.pointer (some ⟨p, 0, none⟩), .int .i64 (i : Int)] w' fun e w'' => e = .returned (.int .i64 q) ∧ ∃ m, w'' = w'.drewN m) :=
    Kit.hid (fun w' hs => lean_fit hs (by rw [o1 0 (by omega)]; exact hz) (by omega) i x l r q f1 hq)
  have HN : Hid (∀ w', Sh w0 S0 w' p gl cl vf L1 top F → NC w' gl i (ndOf x l r)) := Kit.hid (fun w' hs => hs.ncells n1)
  have z1 : (0 : Int) ≤ (i : Int) := by omega
  have y1 : (i : Int) < (L1.length : Int) := by omega
  have g1 : (q == 2) = false := beq_eq_false_iff_ne.2 hq1
  have g2 : (q == -2) = false := beq_eq_false_iff_ne.2 hq2
  clear h hz hi h1 h2 hnd hq hq1 hq2 hni hL1 o1 n1 f1 hlen1 li
  go_enter Try.func86, Try.ntmps86
  go_wp2_with fail
  (with_reducible refine HC.out.mono ?_); rintro e w3 ⟨rfl, hs3⟩
  obtain ⟨p0, p1, p2, _, _, _⟩ := hs3.pcells
  have HS3 := Kit.hid hs3
  clear hs3
  go_wp2_with fail
  (with_reducible refine (CL.out _ HS3.out).mono ?_); rintro e w4 ⟨rfl, m4, rfl⟩
  go_wp2
  go_ret
  exact ⟨rfl, HS3.out.drewN _⟩
/-- The lesser side is deeper by two, and leans to its lesser side, or to none: it comes up. -/
theorem even_one (h : Sh w0 S0 w p gl cl vf L top F) (hz : L[0]? = some zeroN) (hlen : L.length ≤ 1099511627776) (i a : Nat) (x y : It) (ll lr r : T) (m d : Nat) (q : Int)
    (hi : L[i]? = some ⟨x, a, r.root, m, d⟩) (h1 : Fit L (.node a y ll lr)) (h2 : Fit L r) (hnd : (i :: ((T.node a y ll lr).idx ++ r.idx)).Nodup) (pi : 0 < i) (hq : ((T.node a y ll lr).deep : Int) - (r.deep : Int) = 2) (hq1 : (ll.deep : Int) - (lr.deep : Int) = q) (hq2 : ¬ q < 0) :
    Calls Try.prog 86 #[.pointer (some ⟨p, 0, none⟩), .int .i64 (i : Int)] w fun e w' => ∃ L', e = .returned (.int .i64 (a : Int)) ∧ Sh w0 S0 w' p gl cl vf L' top F ∧ Rot L L' i a (ndOf x lr r) (ndOf y ll (.node i x lr r)) := by
  have li := (List.getElem?_eq_some_iff.1 hi).1
  have hni := List.nodup_cons.1 hnd
  have hia : i ≠ a := fun e => hni.1 (by rw [e]; simp [T.idx])
  have HC := Kit.hid (count_fit h hz hlen i x (.node a y ll lr) r m d hi h1 h2)
  obtain ⟨L1, hL1⟩ : ∃ L1, L1 = L.set i (ndOf x (.node a y ll lr) r) := ⟨_, rfl⟩
  rw [← hL1] at HC
  have o1 : ∀ j, j ≠ i → L1[j]? = L[j]? := fun j h => by rw [hL1, List.getElem?_set_ne (Ne.symm h)]
  have n1 : L1[i]? = some (ndOf x (.node a y ll lr) r) := by rw [hL1, List.getElem?_set_self li]
  have fl : Fit L1 (.node a y ll lr) := h1.off fun j hj => o1 j (fun e => hni.1 (by rw [← e]; exact List.mem_append_left _ hj))
  have fr : Fit L1 r := h2.off fun j hj => o1 j (fun e => hni.1 (by rw [← e]; exact List.mem_append_right _ hj))
  have f1 : Fit L1 (.node i x (.node a y ll lr) r) := ⟨⟨n1, fl.holds, fr.holds⟩, hnd, fun j hj => by
    rw [T.idx, List.mem_cons, List.mem_append] at hj
    rcases hj with rfl | hj | hj
    · exact pi
    · exact h1.pos j hj
    · exact h2.pos j hj⟩
  have z1 : L1[0]? = some zeroN := by rw [o1 0 (by omega)]; exact hz
  have hlen1 : L1.length = L.length := by rw [hL1]; simp
  have CL : Hid (∀ w', Sh w0 S0 w' p gl cl vf L1 top F → Calls Try.prog 89 #[.pointer (some ⟨p, 0, none⟩), .int .i64 (i : Int)] w' fun e w'' => e = .returned (.int .i64 2) ∧ ∃ m, w'' = w'.drewN m) :=
    Kit.hid (fun w' hs => lean_fit hs z1 (by omega) i x (.node a y ll lr) r 2 f1 hq)
  have CM : Hid (∀ w', Sh w0 S0 w' p gl cl vf L1 top F → Calls Try.prog 89 #[.pointer (some ⟨p, 0, none⟩), .int .i64 (a : Int)] w' fun e w'' => e = .returned (.int .i64 q) ∧ ∃ m, w'' = w'.drewN m) :=
    Kit.hid (fun w' hs => lean_fit hs z1 (by omega) a y ll lr q fl hq1)
  have hnd2 : (i :: a :: (ll.idx ++ (lr.idx ++ r.idx))).Nodup := by
    have := hnd
    simp only [T.idx, List.cons_append, List.append_assoc] at this
    exact this
  have CU : Hid (∀ w', Sh w0 S0 w' p gl cl vf L1 top F → Calls Try.prog 91 #[.pointer (some ⟨p, 0, none⟩), .int .i64 (i : Int)] w' fun e w'' => ∃ L', e = .returned (.int .i64 (a : Int)) ∧ Sh w0 S0 w'' p gl cl vf L' top F ∧ Hid (Rot L L' i a (ndOf x lr r) (ndOf y ll (.node i x lr r)))) :=
    Kit.hid (fun w' hs => (up_any hs z1 (by omega) i a x y ll lr r _ _ _ _ n1 fl.holds.1 fl.left fl.right fr hnd2 pi (fl.pos a (by simp [T.idx]))).mono fun e w'' ⟨L', h1, h2, h3⟩ => ⟨L', h1, h2, Kit.hid (Rot.trans hlen1.symm (fun j hj _ => o1 j hj) h3)⟩)
  have HN : Hid (∀ w', Sh w0 S0 w' p gl cl vf L1 top F → NC w' gl i (ndOf x (.node a y ll lr) r)) := Kit.hid (fun w' hs => hs.ncells n1)
  have z1 : (0 : Int) ≤ (i : Int) := by omega
  have y1 : (i : Int) < (L1.length : Int) := by omega
  have g1 : decide (q < 0) = false := decide_eq_false hq2
  clear h hz hi h1 h2 hnd hq hq1 hq2 hni hL1 o1 n1 f1 hlen1 li fl fr hnd2 hia
  go_enter Try.func86, Try.ntmps86
  go_wp2_with fail
  (with_reducible refine HC.out.mono ?_); rintro e w3 ⟨rfl, hs3⟩
  obtain ⟨p0, p1, p2, _, _, _⟩ := hs3.pcells
  obtain ⟨a0, a1, a2, a3, a4, a5⟩ := HN.out _ hs3
  replace a2 : w3.cell? ⟨gl, i * 6 + 2, none⟩ = some (.int .i64 (a : Int)) := a2
  clear a0 a1 a3 a4 a5
  have HS3 := Kit.hid hs3
  clear hs3
  go_wp2_with fail
  (with_reducible refine (CL.out _ HS3.out).mono ?_); rintro e w4 ⟨rfl, m4, rfl⟩
  go_wp2_with fail
  (with_reducible refine (CM.out _ (HS3.out.drewN _)).mono ?_); rintro e w5 ⟨rfl, m5, rfl⟩
  go_wp2_with fail
  (with_reducible refine (CU.out _ (HS3.out.drewN _)).mono ?_); rintro e w6 ⟨L6, rfl, hs6, hr6⟩
  have HS6 := Kit.hid hs6
  clear hs6
  go_wp2
  go_ret
  exact ⟨_, rfl, HS6.out, hr6.out⟩
/-- The lesser side is deeper by two, and leans to its greater side. -/
theorem even_two (h : Sh w0 S0 w p gl cl vf L top F) (hz : L[0]? = some zeroN) (hlen : L.length ≤ 1099511627776) (i a b : Nat) (x y z : It) (ll lm lr r : T) (m d : Nat) (q : Int)
    (hi : L[i]? = some ⟨x, a, r.root, m, d⟩) (h1 : Fit L (.node a y ll (.node b z lm lr))) (h2 : Fit L r) (hnd : (i :: ((T.node a y ll (.node b z lm lr)).idx ++ r.idx)).Nodup) (pi : 0 < i) (hq : ((T.node a y ll (.node b z lm lr)).deep : Int) - (r.deep : Int) = 2) (hq1 : (ll.deep : Int) - ((T.node b z lm lr).deep : Int) = q) (hq2 : q < 0) :
    Calls Try.prog 86 #[.pointer (some ⟨p, 0, none⟩), .int .i64 (i : Int)] w fun e w' => ∃ L', e = .returned (.int .i64 (b : Int)) ∧ Sh w0 S0 w' p gl cl vf L' top F ∧ L'.length = L.length ∧
      Holds L' (.node b z (.node a y ll lm) (.node i x lr r)) ∧ (∀ j, j ≠ i → j ≠ a → j ≠ b → L'[j]? = L[j]?) := by
  have li := (List.getElem?_eq_some_iff.1 hi).1
  have hni := List.nodup_cons.1 hnd
  have hia : i ≠ a := fun e => hni.1 (by rw [e]; simp [T.idx])
  have hib : i ≠ b := fun e => hni.1 (by rw [e]; simp [T.idx])
  have HC := Kit.hid (count_fit h hz hlen i x (.node a y ll (.node b z lm lr)) r m d hi h1 h2)
  obtain ⟨L1, hL1⟩ : ∃ L1, L1 = L.set i (ndOf x (.node a y ll (.node b z lm lr)) r) := ⟨_, rfl⟩
  rw [← hL1] at HC
  have o1 : ∀ j, j ≠ i → L1[j]? = L[j]? := fun j h => by rw [hL1, List.getElem?_set_ne (Ne.symm h)]
  have n1 : L1[i]? = some (ndOf x (.node a y ll (.node b z lm lr)) r) := by rw [hL1, List.getElem?_set_self li]
  have fl : Fit L1 (.node a y ll (.node b z lm lr)) := h1.off fun j hj => o1 j (fun e => hni.1 (by rw [← e]; exact List.mem_append_left _ hj))
  have fr : Fit L1 r := h2.off fun j hj => o1 j (fun e => hni.1 (by rw [← e]; exact List.mem_append_right _ hj))
  have f1 : Fit L1 (.node i x (.node a y ll (.node b z lm lr)) r) := ⟨⟨n1, fl.holds, fr.holds⟩, hnd, fun j hj => by
    rw [T.idx, List.mem_cons, List.mem_append] at hj
    rcases hj with rfl | hj | hj
    · exact pi
    · exact h1.pos j hj
    · exact h2.pos j hj⟩
  have z1 : L1[0]? = some zeroN := by rw [o1 0 (by omega)]; exact hz
  have hlen1 : L1.length = L.length := by rw [hL1]; simp
  have pa := fl.pos a (by simp [T.idx])
  have pb := fl.pos b (by simp [T.idx])
  have hnd' := hnd
  simp only [T.idx, List.cons_append, List.append_assoc, List.nodup_cons, List.nodup_append, List.mem_cons, List.mem_append, not_or] at hnd'
  obtain ⟨⟨_, ix1, _, ix2, ix3, ix4⟩, ⟨ax1, hab, ax2, ax3, ax4⟩, nl1, ⟨⟨bx1, bx2, bx3⟩, nl2, ⟨nl3, nl4, dd3⟩, dd2⟩, dd1⟩ := hnd'
  have bx0 : b ∉ ll.idx := fun e => dd1 b e b (.inl rfl) rfl
  have CL : Hid (∀ w', Sh w0 S0 w' p gl cl vf L1 top F → Calls Try.prog 89 #[.pointer (some ⟨p, 0, none⟩), .int .i64 (i : Int)] w' fun e w'' => e = .returned (.int .i64 2) ∧ ∃ m, w'' = w'.drewN m) :=
    Kit.hid (fun w' hs => lean_fit hs z1 (by omega) i x (.node a y ll (.node b z lm lr)) r 2 f1 hq)
  have CM : Hid (∀ w', Sh w0 S0 w' p gl cl vf L1 top F → Calls Try.prog 89 #[.pointer (some ⟨p, 0, none⟩), .int .i64 (a : Int)] w' fun e w'' => e = .returned (.int .i64 q) ∧ ∃ m, w'' = w'.drewN m) :=
    Kit.hid (fun w' hs => lean_fit hs z1 (by omega) a y ll (.node b z lm lr) q fl hq1)
  have hnd2 : (a :: b :: (lr.idx ++ (ll.idx ++ lm.idx))).Nodup := by
    simp only [List.nodup_cons, List.nodup_append, List.mem_cons, List.mem_append, not_or]
    refine ⟨⟨hab, ax3, ax1, ax2⟩, ⟨bx2, bx0, bx1⟩, nl3, ⟨nl1, nl2, fun u hu v hv => dd1 u hu v (.inr (.inl hv))⟩, fun u hu v hv e => ?_⟩
    rcases hv with hv | hv
    · exact dd1 v hv u (.inr (.inr (.inl hu))) e.symm
    · exact dd2 v hv u (.inl hu) e.symm
  have CD : Hid (∀ w', Sh w0 S0 w' p gl cl vf L1 top F → Calls Try.prog 90 #[.pointer (some ⟨p, 0, none⟩), .int .i64 (a : Int)] w' fun e w'' => ∃ L', e = .returned (.int .i64 (b : Int)) ∧ Sh w0 S0 w'' p gl cl vf L' top F ∧ Hid (Rot L1 L' a b (ndOf y ll lm) (ndOf z (.node a y ll lm) lr))) :=
    Kit.hid (fun w' hs => (down_any hs z1 (by omega) a b y z ll lm lr _ _ _ _ fl.holds.1 fl.right.holds.1 fl.right.right fl.left fl.right.left hnd2 pa pb).mono fun e w'' ⟨L', h1, h2, h3⟩ => ⟨L', h1, h2, Kit.hid h3⟩)
  have hnd3 : (i :: b :: (a :: (ll.idx ++ lm.idx) ++ (lr.idx ++ r.idx))).Nodup := by
    simp only [List.cons_append, List.append_assoc, List.nodup_cons, List.nodup_append, List.mem_cons, List.mem_append, not_or]
    refine ⟨⟨hib, hia, ix1, ix2, ix3, ix4⟩, ⟨Ne.symm hab, bx0, bx1, bx2, bx3⟩, ⟨ax1, ax2, ax3, ax4⟩, nl1, ⟨nl2, ⟨nl3, nl4, dd3⟩, dd2⟩, fun u hu v hv => dd1 u hu v (.inr hv)⟩
  have CU : Hid (∀ w' L2, Sh w0 S0 w' p gl cl vf (L2.set i ⟨x, b, r.root, (ndOf x (.node a y ll (.node b z lm lr)) r).many, (ndOf x (.node a y ll (.node b z lm lr)) r).deep⟩) top F → Hid (Rot L1 L2 a b (ndOf y ll lm) (ndOf z (.node a y ll lm) lr)) →
      Calls Try.prog 91 #[.pointer (some ⟨p, 0, none⟩), .int .i64 (i : Int)] w' fun e w'' => ∃ L', e = .returned (.int .i64 (b : Int)) ∧ Sh w0 S0 w'' p gl cl vf L' top F ∧ Hid (L'.length = L.length ∧
      Holds L' (.node b z (.node a y ll lm) (.node i x lr r)) ∧ (∀ j, j ≠ i → j ≠ a → j ≠ b → L'[j]? = L[j]?))) := Kit.hid (fun w' L2 hs hr => by
    have hr := hr.out
    have l2 : L2.length = L.length := hr.len.trans hlen1
    obtain ⟨L3, hL3⟩ : ∃ L3, L3 = L2.set i ⟨x, b, r.root, (ndOf x (.node a y ll (.node b z lm lr)) r).many, (ndOf x (.node a y ll (.node b z lm lr)) r).deep⟩ := ⟨_, rfl⟩
    rw [← hL3] at hs
    have l3 : L3.length = L.length := by rw [hL3]; simp [l2]
    have o3 : ∀ j, j ≠ i → L3[j]? = L2[j]? := fun j h => by rw [hL3, List.getElem?_set_ne (Ne.symm h)]
    have o4 : ∀ j, j ≠ i → j ≠ a → j ≠ b → L3[j]? = L[j]? := fun j j1 j2 j3 => by rw [o3 j j1, hr.off j j2 j3, o1 j j1]
    have keep : ∀ t : T, i ∉ t.idx → a ∉ t.idx → b ∉ t.idx → Fit L1 t → Fit L3 t := fun t k1 k2 k3 hf => hf.off fun j hj => by
      have e1 : j ≠ i := fun e => k1 (e ▸ hj)
      rw [o4 j e1 (fun e => k2 (e ▸ hj)) (fun e => k3 (e ▸ hj)), o1 j e1]
    have fll := keep ll ix1 ax1 bx0 fl.left
    have flm := keep lm ix2 ax2 bx1 fl.right.left
    have fa : Fit L3 (.node a y ll lm) := ⟨⟨by rw [o3 a (Ne.symm hia)]; exact hr.ati, fll.holds, flm.holds⟩, by
      simp only [T.idx, List.nodup_cons, List.nodup_append, List.mem_append, not_or]
      exact ⟨⟨ax1, ax2⟩, nl1, nl2, fun u hu v hv => dd1 u hu v (.inr (.inl hv))⟩, fun j hj => by
      simp only [T.idx, List.mem_cons, List.mem_append] at hj
      rcases hj with rfl | hj | hj
      · exact pa
      · exact fll.pos j hj
      · exact flm.pos j hj⟩
    refine (up_any hs (by rw [o4 0 (by omega) (by omega) (by omega)]; exact hz) (by omega) i b x z (.node a y ll lm) lr r _ _ _ _ (by rw [hL3, List.getElem?_set_self (by omega)]) (by rw [o3 b (Ne.symm hib)]; exact hr.ata) fa (keep lr ix3 ax3 bx2 fl.right.right) (keep r ix4 ax4 bx3 fr) hnd3 pi pb).mono ?_
    rintro e w'' ⟨L', e1, hs', hr'⟩
    refine ⟨L', e1, hs', Kit.hid ⟨hr'.len.trans l3, ⟨hr'.ata, fa.holds.off fun j hj => ?_, hr'.ati, (keep lr ix3 ax3 bx2 fl.right.right).holds.off fun j hj => ?_, (keep r ix4 ax4 bx3 fr).holds.off fun j hj => ?_⟩, fun j j1 j2 j3 => ?_⟩⟩
    · refine hr'.off j (fun e => ?_) (fun e => ?_)
      · subst e
        simp only [T.idx, List.mem_cons, List.mem_append] at hj
        rcases hj with hj | hj | hj
        · exact hia hj
        · exact ix1 hj
        · exact ix2 hj
      · subst e
        simp only [T.idx, List.mem_cons, List.mem_append] at hj
        rcases hj with hj | hj | hj
        · exact hab hj.symm
        · exact bx0 hj
        · exact bx1 hj
    · exact hr'.off j (fun e => ix3 (e ▸ hj)) (fun e => bx2 (e ▸ hj))
    · exact hr'.off j (fun e => ix4 (e ▸ hj)) (fun e => bx3 (e ▸ hj))
    · rw [hr'.off j j1 j3, o4 j j1 j2 j3])
  have HN : Hid (∀ w', Sh w0 S0 w' p gl cl vf L1 top F → NC w' gl i (ndOf x (.node a y ll (.node b z lm lr)) r)) := Kit.hid (fun w' hs => hs.ncells n1)
  have N1 : Hid (∀ L2, Rot L1 L2 a b (ndOf y ll lm) (ndOf z (.node a y ll lm) lr) → L2[i]? = some (ndOf x (.node a y ll (.node b z lm lr)) r)) := Kit.hid (fun L2 hr => by rw [hr.off i hia hib]; exact n1)
  have hil : i < L1.length := by omega
  have z1 : (0 : Int) ≤ (i : Int) := by omega
  have y1 : (i : Int) < (L1.length : Int) := by omega
  have g1 : decide (q < 0) = true := decide_eq_true hq2
  clear h hz hi h1 h2 hnd hq hq1 hq2 hni hL1 o1 n1 f1 hlen1 li fl fr hnd2 hnd3 hia hib hab ix1 ix2 ix3 ix4 ax1 ax2 ax3 ax4 bx0 bx1 bx2 bx3 nl1 nl2 nl3 nl4 dd1 dd2 dd3
  go_enter Try.func86, Try.ntmps86
  go_wp2_with fail
  (with_reducible refine HC.out.mono ?_); rintro e w3 ⟨rfl, hs3⟩
  obtain ⟨p0, p1, p2, _, _, _⟩ := hs3.pcells
  obtain ⟨a0, a1, a2, a3, a4, a5⟩ := HN.out _ hs3
  replace a2 : w3.cell? ⟨gl, i * 6 + 2, none⟩ = some (.int .i64 (a : Int)) := a2
  clear a0 a1 a3 a4 a5
  have HS3 := Kit.hid hs3
  clear hs3
  go_wp2_with fail
  (with_reducible refine (CL.out _ HS3.out).mono ?_); rintro e w4 ⟨rfl, m4, rfl⟩
  go_wp2_with fail
  (with_reducible refine (CM.out _ (HS3.out.drewN _)).mono ?_); rintro e w5 ⟨rfl, m5, rfl⟩
  go_wp2_with fail
  (with_reducible refine (CD.out _ (HS3.out.drewN _)).mono ?_); rintro e w6 ⟨L6, rfl, hs6, hr6⟩
  obtain ⟨q0, q1, q2, _, _, _⟩ := hs6.pcells
  obtain ⟨a0, a1, a2, a3, a4, a5⟩ := hs6.ncells (N1.out _ hr6.out)
  have y6 : (i : Int) < (L6.length : Int) := by have := hr6.out.len; omega
  have fr2 := hs6.row.frozenAt (i * 6 + 2)
  have hgp := hs6.gp
  have S7 := Kit.hid (hs6.nset (n' := ⟨x, b, r.root, (ndOf x (.node a y ll (.node b z lm lr)) r).many, (ndOf x (.node a y ll (.node b z lm lr)) r).deep⟩) (v := .int .i64 (b : Int)) (N1.out _ hr6.out) (k := 2) (by decide) rfl)
  clear hs6
  go_wp2_with fail
  (with_reducible refine (CU.out _ _ S7.out hr6).mono ?_); rintro e w8 ⟨L8, rfl, hs8, hr8⟩
  have HS8 := Kit.hid hs8
  clear hs8
  go_wp2
  go_ret
  exact ⟨_, rfl, HS8.out, hr8.out⟩
/-- The greater side is deeper by two, and leans to its greater side, or to none: it comes up. -/
theorem even_one_r (h : Sh w0 S0 w p gl cl vf L top F) (hz : L[0]? = some zeroN) (hlen : L.length ≤ 1099511627776) (i a : Nat) (x y : It) (l rl rr : T) (m d : Nat) (q : Int)
    (hi : L[i]? = some ⟨x, l.root, a, m, d⟩) (h1 : Fit L l) (h2 : Fit L (.node a y rl rr)) (hnd : (i :: (l.idx ++ (T.node a y rl rr).idx)).Nodup) (pi : 0 < i) (hq : (l.deep : Int) - ((T.node a y rl rr).deep : Int) = -2) (hq1 : (rl.deep : Int) - (rr.deep : Int) = q) (hq2 : ¬ 0 < q) :
    Calls Try.prog 86 #[.pointer (some ⟨p, 0, none⟩), .int .i64 (i : Int)] w fun e w' => ∃ L', e = .returned (.int .i64 (a : Int)) ∧ Sh w0 S0 w' p gl cl vf L' top F ∧ Rot L L' i a (ndOf x l rl) (ndOf y (.node i x l rl) rr) := by
  have li := (List.getElem?_eq_some_iff.1 hi).1
  have hni := List.nodup_cons.1 hnd
  have hia : i ≠ a := fun e => hni.1 (by rw [e]; simp [T.idx])
  have HC := Kit.hid (count_fit h hz hlen i x l (.node a y rl rr) m d hi h1 h2)
  obtain ⟨L1, hL1⟩ : ∃ L1, L1 = L.set i (ndOf x l (.node a y rl rr)) := ⟨_, rfl⟩
  rw [← hL1] at HC
  have o1 : ∀ j, j ≠ i → L1[j]? = L[j]? := fun j h => by rw [hL1, List.getElem?_set_ne (Ne.symm h)]
  have n1 : L1[i]? = some (ndOf x l (.node a y rl rr)) := by rw [hL1, List.getElem?_set_self li]
  have fr : Fit L1 l := h1.off fun j hj => o1 j (fun e => hni.1 (by rw [← e]; exact List.mem_append_left _ hj))
  have fl : Fit L1 (.node a y rl rr) := h2.off fun j hj => o1 j (fun e => hni.1 (by rw [← e]; exact List.mem_append_right _ hj))
  have f1 : Fit L1 (.node i x l (.node a y rl rr)) := ⟨⟨n1, fr.holds, fl.holds⟩, hnd, fun j hj => by
    rw [T.idx, List.mem_cons, List.mem_append] at hj
    rcases hj with rfl | hj | hj
    · exact pi
    · exact h1.pos j hj
    · exact h2.pos j hj⟩
  have z1 : L1[0]? = some zeroN := by rw [o1 0 (by omega)]; exact hz
  have hlen1 : L1.length = L.length := by rw [hL1]; simp
  have CL : Hid (∀ w', Sh w0 S0 w' p gl cl vf L1 top F → Calls Try.prog 89 #[.pointer (some ⟨p, 0, none⟩), .int .i64 (i : Int)] w' fun e w'' => e = .returned (.int .i64 (-2)) ∧ ∃ m, w'' = w'.drewN m) :=
    Kit.hid (fun w' hs => lean_fit hs z1 (by omega) i x l (.node a y rl rr) (-2) f1 hq)
  have CM : Hid (∀ w', Sh w0 S0 w' p gl cl vf L1 top F → Calls Try.prog 89 #[.pointer (some ⟨p, 0, none⟩), .int .i64 (a : Int)] w' fun e w'' => e = .returned (.int .i64 q) ∧ ∃ m, w'' = w'.drewN m) :=
    Kit.hid (fun w' hs => lean_fit hs z1 (by omega) a y rl rr q fl hq1)
  have hnd2 : (i :: a :: (rr.idx ++ (l.idx ++ rl.idx))).Nodup := by
    have hnd' := hnd
    simp only [T.idx, List.nodup_cons, List.nodup_append, List.mem_cons, List.mem_append, not_or] at hnd'
    obtain ⟨⟨k1, k2, k3, k4⟩, m1, ⟨⟨k5, k6⟩, m2, m3, dd2⟩, dd1⟩ := hnd'
    have k7 : a ∉ l.idx := fun e => dd1 a e a (.inl rfl) rfl
    simp only [List.nodup_cons, List.nodup_append, List.mem_cons, List.mem_append, not_or]
    refine ⟨⟨hia, k4, k1, k3⟩, ⟨k6, k7, k5⟩, m3, ⟨m1, m2, fun u hu v hv => dd1 u hu v (.inr (.inl hv))⟩, fun u hu v hv e => ?_⟩
    rcases hv with hv | hv
    · exact dd1 v hv u (.inr (.inr hu)) e.symm
    · exact dd2 v hv u hu e.symm
  have CU : Hid (∀ w', Sh w0 S0 w' p gl cl vf L1 top F → Calls Try.prog 90 #[.pointer (some ⟨p, 0, none⟩), .int .i64 (i : Int)] w' fun e w'' => ∃ L', e = .returned (.int .i64 (a : Int)) ∧ Sh w0 S0 w'' p gl cl vf L' top F ∧ Hid (Rot L L' i a (ndOf x l rl) (ndOf y (.node i x l rl) rr))) :=
    Kit.hid (fun w' hs => (down_any hs z1 (by omega) i a x y l rl rr _ _ _ _ n1 fl.holds.1 fl.right fr fl.left hnd2 pi (fl.pos a (by simp [T.idx]))).mono fun e w'' ⟨L', h1, h2, h3⟩ => ⟨L', h1, h2, Kit.hid (Rot.trans hlen1.symm (fun j hj _ => o1 j hj) h3)⟩)
  have HN : Hid (∀ w', Sh w0 S0 w' p gl cl vf L1 top F → NC w' gl i (ndOf x l (.node a y rl rr))) := Kit.hid (fun w' hs => hs.ncells n1)
  have z1 : (0 : Int) ≤ (i : Int) := by omega
  have y1 : (i : Int) < (L1.length : Int) := by omega
  have g1 : decide (0 < q) = false := decide_eq_false hq2
  clear h hz hi h1 h2 hnd hq hq1 hq2 hni hL1 o1 n1 f1 hlen1 li fl fr hnd2 hia
  go_enter Try.func86, Try.ntmps86
  go_wp2_with fail
  (with_reducible refine HC.out.mono ?_); rintro e w3 ⟨rfl, hs3⟩
  obtain ⟨p0, p1, p2, _, _, _⟩ := hs3.pcells
  obtain ⟨a0, a1, a2, a3, a4, a5⟩ := HN.out _ hs3
  replace a3 : w3.cell? ⟨gl, i * 6 + 3, none⟩ = some (.int .i64 (a : Int)) := a3
  clear a0 a1 a2 a4 a5
  have HS3 := Kit.hid hs3
  clear hs3
  go_wp2_with fail
  (with_reducible refine (CL.out _ HS3.out).mono ?_); rintro e w4 ⟨rfl, m4, rfl⟩
  go_wp2_with fail
  (with_reducible refine (CM.out _ (HS3.out.drewN _)).mono ?_); rintro e w5 ⟨rfl, m5, rfl⟩
  go_wp2_with fail
  (with_reducible refine (CU.out _ (HS3.out.drewN _)).mono ?_); rintro e w6 ⟨L6, rfl, hs6, hr6⟩
  have HS6 := Kit.hid hs6
  clear hs6
  go_wp2
  go_ret
  exact ⟨_, rfl, HS6.out, hr6.out⟩
/-- The greater side is deeper by two, and leans to its lesser side. -/
theorem even_two_r (h : Sh w0 S0 w p gl cl vf L top F) (hz : L[0]? = some zeroN) (hlen : L.length ≤ 1099511627776) (i a b : Nat) (x y z : It) (l rl rm rr : T) (m d : Nat) (q : Int)
    (hi : L[i]? = some ⟨x, l.root, a, m, d⟩) (h1 : Fit L l) (h2 : Fit L (.node a y (.node b z rl rm) rr)) (hnd : (i :: (l.idx ++ (T.node a y (.node b z rl rm) rr).idx)).Nodup) (pi : 0 < i) (hq : (l.deep : Int) - ((T.node a y (.node b z rl rm) rr).deep : Int) = -2) (hq1 : ((T.node b z rl rm).deep : Int) - (rr.deep : Int) = q) (hq2 : 0 < q) :
    Calls Try.prog 86 #[.pointer (some ⟨p, 0, none⟩), .int .i64 (i : Int)] w fun e w' => ∃ L', e = .returned (.int .i64 (b : Int)) ∧ Sh w0 S0 w' p gl cl vf L' top F ∧ L'.length = L.length ∧
      Holds L' (.node b z (.node i x l rl) (.node a y rm rr)) ∧ (∀ j, j ≠ i → j ≠ a → j ≠ b → L'[j]? = L[j]?) := by
  have li := (List.getElem?_eq_some_iff.1 hi).1
  have hni := List.nodup_cons.1 hnd
  have hia : i ≠ a := fun e => hni.1 (by rw [e]; simp [T.idx])
  have hib : i ≠ b := fun e => hni.1 (by rw [e]; simp [T.idx])
  have HC := Kit.hid (count_fit h hz hlen i x l (.node a y (.node b z rl rm) rr) m d hi h1 h2)
  obtain ⟨L1, hL1⟩ : ∃ L1, L1 = L.set i (ndOf x l (.node a y (.node b z rl rm) rr)) := ⟨_, rfl⟩
  rw [← hL1] at HC
  have o1 : ∀ j, j ≠ i → L1[j]? = L[j]? := fun j h => by rw [hL1, List.getElem?_set_ne (Ne.symm h)]
  have n1 : L1[i]? = some (ndOf x l (.node a y (.node b z rl rm) rr)) := by rw [hL1, List.getElem?_set_self li]
  have fr : Fit L1 l := h1.off fun j hj => o1 j (fun e => hni.1 (by rw [← e]; exact List.mem_append_left _ hj))
  have fl : Fit L1 (.node a y (.node b z rl rm) rr) := h2.off fun j hj => o1 j (fun e => hni.1 (by rw [← e]; exact List.mem_append_right _ hj))
  have f1 : Fit L1 (.node i x l (.node a y (.node b z rl rm) rr)) := ⟨⟨n1, fr.holds, fl.holds⟩, hnd, fun j hj => by
    rw [T.idx, List.mem_cons, List.mem_append] at hj
    rcases hj with rfl | hj | hj
    · exact pi
    · exact h1.pos j hj
    · exact h2.pos j hj⟩
  have z1 : L1[0]? = some zeroN := by rw [o1 0 (by omega)]; exact hz
  have hlen1 : L1.length = L.length := by rw [hL1]; simp
  have pa := fl.pos a (by simp [T.idx])
  have pb := fl.pos b (by simp [T.idx])
  have hnd' := hnd
  simp only [T.idx, List.cons_append, List.append_assoc, List.nodup_cons, List.nodup_append, List.mem_cons, List.mem_append, not_or] at hnd'
  obtain ⟨⟨ix4, _, _, ix3, ix2, ix1⟩, nl4, ⟨⟨hab, ax3, ax2, ax1⟩, ⟨bx2, bx1, bx0⟩, nl3, ⟨nl2, nl1, dd3⟩, dd2⟩, dd1⟩ := hnd'
  have ax4 : a ∉ l.idx := fun e => dd1 a e a (.inl rfl) rfl
  have bx3 : b ∉ l.idx := fun e => dd1 b e b (.inr (.inl rfl)) rfl
  have CL : Hid (∀ w', Sh w0 S0 w' p gl cl vf L1 top F → Calls Try.prog 89 #[.pointer (some ⟨p, 0, none⟩), .int .i64 (i : Int)] w' fun e w'' => e = .returned (.int .i64 (-2)) ∧ ∃ m, w'' = w'.drewN m) :=
    Kit.hid (fun w' hs => lean_fit hs z1 (by omega) i x l (.node a y (.node b z rl rm) rr) (-2) f1 hq)
  have CM : Hid (∀ w', Sh w0 S0 w' p gl cl vf L1 top F → Calls Try.prog 89 #[.pointer (some ⟨p, 0, none⟩), .int .i64 (a : Int)] w' fun e w'' => e = .returned (.int .i64 q) ∧ ∃ m, w'' = w'.drewN m) :=
    Kit.hid (fun w' hs => lean_fit hs z1 (by omega) a y (.node b z rl rm) rr q fl hq1)
  have hnd2 : (a :: b :: (rl.idx ++ (rm.idx ++ rr.idx))).Nodup := by
    simp only [List.nodup_cons, List.nodup_append, List.mem_cons, List.mem_append, not_or]
    exact ⟨⟨hab, ax3, ax2, ax1⟩, ⟨bx2, bx1, bx0⟩, nl3, ⟨nl2, nl1, dd3⟩, dd2⟩
  have CD : Hid (∀ w', Sh w0 S0 w' p gl cl vf L1 top F → Calls Try.prog 91 #[.pointer (some ⟨p, 0, none⟩), .int .i64 (a : Int)] w' fun e w'' => ∃ L', e = .returned (.int .i64 (b : Int)) ∧ Sh w0 S0 w'' p gl cl vf L' top F ∧ Hid (Rot L1 L' a b (ndOf y rm rr) (ndOf z rl (.node a y rm rr)))) :=
    Kit.hid (fun w' hs => (up_any hs z1 (by omega) a b y z rl rm rr _ _ _ _ fl.holds.1 fl.left.holds.1 fl.left.left fl.left.right fl.right hnd2 pa pb).mono fun e w'' ⟨L', h1, h2, h3⟩ => ⟨L', h1, h2, Kit.hid h3⟩)
  have hnd3 : (i :: b :: (a :: (rm.idx ++ rr.idx) ++ (l.idx ++ rl.idx))).Nodup := by
    simp only [List.cons_append, List.append_assoc, List.nodup_cons, List.nodup_append, List.mem_cons, List.mem_append, not_or]
    refine ⟨⟨hib, hia, ix2, ix1, ix4, ix3⟩, ⟨Ne.symm hab, bx1, bx0, bx3, bx2⟩, ⟨ax2, ax1, ax4, ax3⟩, nl2, ⟨nl1, ⟨nl4, nl3, fun u hu v hv => dd1 u hu v (.inr (.inr (.inl hv)))⟩, fun u hu v hv e => ?_⟩, fun u hu v hv e => ?_⟩
    · rcases hv with hv | hv
      · exact dd1 v hv u (.inr (.inr (.inr (.inr hu)))) e.symm
      · exact dd2 v hv u (.inr hu) e.symm
    · rcases hv with hv | hv | hv
      · exact dd3 u hu v hv e
      · exact dd1 v hv u (.inr (.inr (.inr (.inl hu)))) e.symm
      · exact dd2 v hv u (.inl hu) e.symm
  have CU : Hid (∀ w' L2, Sh w0 S0 w' p gl cl vf (L2.set i ⟨x, l.root, b, (ndOf x l (.node a y (.node b z rl rm) rr)).many, (ndOf x l (.node a y (.node b z rl rm) rr)).deep⟩) top F → Hid (Rot L1 L2 a b (ndOf y rm rr) (ndOf z rl (.node a y rm rr))) →
      Calls Try.prog 90 #[.pointer (some ⟨p, 0, none⟩), .int .i64 (i : Int)] w' fun e w'' => ∃ L', e = .returned (.int .i64 (b : Int)) ∧ Sh w0 S0 w'' p gl cl vf L' top F ∧ Hid (L'.length = L.length ∧
      Holds L' (.node b z (.node i x l rl) (.node a y rm rr)) ∧ (∀ j, j ≠ i → j ≠ a → j ≠ b → L'[j]? = L[j]?))) := Kit.hid (fun w' L2 hs hr => by
    have hr := hr.out
    have l2 : L2.length = L.length := hr.len.trans hlen1
    obtain ⟨L3, hL3⟩ : ∃ L3, L3 = L2.set i ⟨x, l.root, b, (ndOf x l (.node a y (.node b z rl rm) rr)).many, (ndOf x l (.node a y (.node b z rl rm) rr)).deep⟩ := ⟨_, rfl⟩
    rw [← hL3] at hs
    have l3 : L3.length = L.length := by rw [hL3]; simp [l2]
    have o3 : ∀ j, j ≠ i → L3[j]? = L2[j]? := fun j h => by rw [hL3, List.getElem?_set_ne (Ne.symm h)]
    have o4 : ∀ j, j ≠ i → j ≠ a → j ≠ b → L3[j]? = L[j]? := fun j j1 j2 j3 => by rw [o3 j j1, hr.off j j2 j3, o1 j j1]
    have keep : ∀ t : T, i ∉ t.idx → a ∉ t.idx → b ∉ t.idx → Fit L1 t → Fit L3 t := fun t k1 k2 k3 hf => hf.off fun j hj => by
      have e1 : j ≠ i := fun e => k1 (e ▸ hj)
      rw [o4 j e1 (fun e => k2 (e ▸ hj)) (fun e => k3 (e ▸ hj)), o1 j e1]
    have fll := keep rr ix1 ax1 bx0 fl.right
    have flm := keep rm ix2 ax2 bx1 fl.left.right
    have fa : Fit L3 (.node a y rm rr) := ⟨⟨by rw [o3 a (Ne.symm hia)]; exact hr.ati, flm.holds, fll.holds⟩, by
      simp only [T.idx, List.nodup_cons, List.nodup_append, List.mem_append, not_or]
      exact ⟨⟨ax2, ax1⟩, nl2, nl1, dd3⟩, fun j hj => by
      simp only [T.idx, List.mem_cons, List.mem_append] at hj
      rcases hj with rfl | hj | hj
      · exact pa
      · exact flm.pos j hj
      · exact fll.pos j hj⟩
    refine (down_any hs (by rw [o4 0 (by omega) (by omega) (by omega)]; exact hz) (by omega) i b x z l rl (.node a y rm rr) _ _ _ _ (by rw [hL3, List.getElem?_set_self (by omega)]) (by rw [o3 b (Ne.symm hib)]; exact hr.ata) fa (keep l ix4 ax4 bx3 fr) (keep rl ix3 ax3 bx2 fl.left.left) hnd3 pi pb).mono ?_
    rintro e w'' ⟨L', e1, hs', hr'⟩
    refine ⟨L', e1, hs', Kit.hid ⟨hr'.len.trans l3, ⟨hr'.ata, ⟨hr'.ati, (keep l ix4 ax4 bx3 fr).holds.off fun j hj => ?_, (keep rl ix3 ax3 bx2 fl.left.left).holds.off fun j hj => ?_⟩, fa.holds.off fun j hj => ?_⟩, fun j j1 j2 j3 => ?_⟩⟩
    · exact hr'.off j (fun e => ix4 (e ▸ hj)) (fun e => bx3 (e ▸ hj))
    · exact hr'.off j (fun e => ix3 (e ▸ hj)) (fun e => bx2 (e ▸ hj))
    · refine hr'.off j (fun e => ?_) (fun e => ?_)
      · subst e
        simp only [T.idx, List.mem_cons, List.mem_append] at hj
        rcases hj with hj | hj | hj
        · exact hia hj
        · exact ix2 hj
        · exact ix1 hj
      · subst e
        simp only [T.idx, List.mem_cons, List.mem_append] at hj
        rcases hj with hj | hj | hj
        · exact hab hj.symm
        · exact bx1 hj
        · exact bx0 hj
    · rw [hr'.off j j1 j3, o4 j j1 j2 j3])
  have HN : Hid (∀ w', Sh w0 S0 w' p gl cl vf L1 top F → NC w' gl i (ndOf x l (.node a y (.node b z rl rm) rr))) := Kit.hid (fun w' hs => hs.ncells n1)
  have N1 : Hid (∀ L2, Rot L1 L2 a b (ndOf y rm rr) (ndOf z rl (.node a y rm rr)) → L2[i]? = some (ndOf x l (.node a y (.node b z rl rm) rr))) := Kit.hid (fun L2 hr => by rw [hr.off i hia hib]; exact n1)
  have hil : i < L1.length := by omega
  have z1 : (0 : Int) ≤ (i : Int) := by omega
  have y1 : (i : Int) < (L1.length : Int) := by omega
  have g1 : decide (0 < q) = true := decide_eq_true hq2
  clear h hz hi h1 h2 hnd hq hq1 hq2 hni hL1 o1 n1 f1 hlen1 li fl fr hnd2 hnd3 hia hib hab ix1 ix2 ix3 ix4 ax1 ax2 ax3 ax4 bx0 bx1 bx2 bx3 nl1 nl2 nl3 nl4 dd1 dd2 dd3
  go_enter Try.func86, Try.ntmps86
  go_wp2_with fail
  (with_reducible refine HC.out.mono ?_); rintro e w3 ⟨rfl, hs3⟩
  obtain ⟨p0, p1, p2, _, _, _⟩ := hs3.pcells
  obtain ⟨a0, a1, a2, a3, a4, a5⟩ := HN.out _ hs3
  replace a3 : w3.cell? ⟨gl, i * 6 + 3, none⟩ = some (.int .i64 (a : Int)) := a3
  clear a0 a1 a2 a4 a5
  have HS3 := Kit.hid hs3
  clear hs3
  go_wp2_with fail
  (with_reducible refine (CL.out _ HS3.out).mono ?_); rintro e w4 ⟨rfl, m4, rfl⟩
  go_wp2_with fail
  (with_reducible refine (CM.out _ (HS3.out.drewN _)).mono ?_); rintro e w5 ⟨rfl, m5, rfl⟩
  go_wp2_with fail
  (with_reducible refine (CD.out _ (HS3.out.drewN _)).mono ?_); rintro e w6 ⟨L6, rfl, hs6, hr6⟩
  obtain ⟨q0, q1, q2, _, _, _⟩ := hs6.pcells
  obtain ⟨a0, a1, a2, a3, a4, a5⟩ := hs6.ncells (N1.out _ hr6.out)
  have y6 : (i : Int) < (L6.length : Int) := by have := hr6.out.len; omega
  have fr2 := hs6.row.frozenAt (i * 6 + 3)
  have hgp := hs6.gp
  have S7 := Kit.hid (hs6.nset (n' := ⟨x, l.root, b, (ndOf x l (.node a y (.node b z rl rm) rr)).many, (ndOf x l (.node a y (.node b z rl rm) rr)).deep⟩) (v := .int .i64 (b : Int)) (N1.out _ hr6.out) (k := 3) (by decide) rfl)
  clear hs6
  go_wp2_with fail
  (with_reducible refine (CU.out _ _ S7.out hr6).mono ?_); rintro e w8 ⟨L8, rfl, hs8, hr8⟩
  have HS8 := Kit.hid hs8
  clear hs8
  go_wp2
  go_ret
  exact ⟨_, rfl, HS8.out, hr8.out⟩
end
end Go.Proofs.Ytpgfenelckonoaa.Sh
