/- The law KinPlays. -/
import Derived.Test.YtkhoiiinifdhcaaKiV
import Derived.Deep.CutBlock
import Derived.Deep.DeepCutAuto
namespace Go.Proofs.Ytkhoiiinifdhcaa.Ki
open Go.RowKit Go.Proofs.Ytkhoiiinifdhcaa.Kit Go.Proofs.Ytkhoiiinifdhcaa.KiM
set_option linter.unusedVariables false
set_option linter.unusedSimpArgs false
theorem RT.kp {w w' : World} {q mb : Nat} {l S : Tr} (h : RT w q l S) (hm : ∃ es clock, w.heap[mb]? = some (.map es clock)) (k : Kp mb w w') : RT w' q l S := by
  obtain ⟨es, clock, hmb⟩ := hm
  obtain ⟨⟨v, h1, h2⟩, h3⟩ := h
  refine ⟨⟨v, (k.block q (blk_lt h1) (fun e => by subst e; rw [h1] at hmb; cases hmb)).trans h1, h2.1, ?_⟩, h3⟩
  rcases h2.2 with h2 | ⟨g, cap, cur, rfl, h4, h5, h6⟩
  · exact .inl h2
  · exact .inr ⟨g, cap, cur, rfl, h4, (k.block g (blk_lt h5) (fun e => by subst e; rw [h5] at hmb; cases hmb)).trans h5, h6⟩
theorem KT.kq {w w' : World} {p mb n q : Nat} {T l S : Tr} (h : KT w p mb T n) (hr : RT w q l S) (k : Kp q w w') : KT w' p mb T n := by
  obtain ⟨⟨v, hq, _⟩, _⟩ := hr
  obtain ⟨es, clock, hmb, _⟩ := h.1.obj
  refine ⟨?_, h.2⟩
  obtain ⟨h1, va, h2, h3⟩ := h.1
  refine ⟨(k.block p (blk_lt h1) (fun e => ?_)).trans h1, va, h2.same (k.block mb h2.lt (fun e => ?_)), fun j x hj => ⟨(h3 j x hj).1.same fun g hg => k.block g ((h3 j x hj).1.own_lt g hg).2 (fun e => ?_), (h3 j x hj).2⟩⟩
  · subst e
    rw [h1] at hq
    simp at hq
  · subst e
    rw [hmb] at hq
    cases hq
  · subst e
    rcases (h3 j x hj).1.form with ⟨e, _⟩ | ⟨g', c, cur, e, _, h5, _⟩
    · rw [e] at hg; cases hg
    · rw [e] at hg
      cases hg
      rw [h5] at hq
      simp at hq
theorem row0 {f : Nat} {args : Array Value} {w : World} {l : List Int} (H : Calls Try.prog f args w fun e w' => ∃ v, e = .returned v ∧ Row w.heap.size w' v l ∧ Below w.heap.size w w') :
    Calls Try.prog f args w fun e w' => ∃ A c, e = .returned (.slice A l.length c) ∧ Row 0 w' (.slice A l.length c) l ∧ Below w.heap.size w w' :=
  H.mono fun e w' g => by
    obtain ⟨v, h1, h2, h3⟩ := g
    obtain ⟨A, c, rfl, _⟩ := h2.reads
    exact ⟨A, c, h1, h2.mono (Nat.zero_le _), h3⟩
/-- A tree of the program's and one of the document's, side by side. -/
def Duo (W w : World) (p mb : Nat) (T : Tr) (n q : Nat) (l S : Tr) (m : Nat) : Prop := Kt W w p mb T n ∧ RT w q l S ∧ W.heap.size ≤ q ∧ l.length ≤ m
section
variable {W w w' : World} {p mb n n' q m : Nat} {T T' l S : Tr}
theorem Duo.below (h : Duo W w p mb T n q l S m) (hb : Below w.heap.size w w') : Duo W w' p mb T n q l S m := ⟨h.1.below hb, h.2.1.below hb, h.2.2⟩
theorem Duo.op {Q : Ending → Prop} {f : Nat} {args : Array Value} (h : Duo W w p mb T n q l S m)
    (H : Calls Try.prog f args w fun e w' => Q e ∧ KT w' p mb T' n' ∧ Kp mb w w') : Calls Try.prog f args w fun e w' => Q e ∧ Duo W w' p mb T' n' q l S m ∧ ∀ k, k < w.heap.size → k ≠ mb → w'.heap[k]? = w.heap[k]? :=
  H.mono fun e w' g => by
    obtain ⟨es, clock, hb, _⟩ := h.1.1.1.obj
    exact ⟨g.1, ⟨h.1.step g.2.1 g.2.2, h.2.1.kp ⟨es, clock, hb⟩ g.2.2, h.2.2⟩, g.2.2.block⟩
theorem Duo.rop {f : Nat} {args : Array Value} {r : Int × Tr} (h : Duo W w p mb T n q l S m)
    (H : Calls Try.prog f args w (RPost q l r w)) : Calls Try.prog f args w fun e w' => e = .returned (.int .i64 r.1) ∧ ∃ l', Duo W w' p mb T n q l' r.2 (m + 1) ∧ ∀ k, k < w.heap.size → k ≠ q → w'.heap[k]? = w.heap[k]? :=
  H.mono fun e w' g => by
    obtain ⟨h1, l', h2, h3, h4⟩ := g
    exact ⟨h1, l', ⟨⟨h.1.1.kq h.2.1 h4, h.1.2.1, h.1.2.2.1, h4.below h.1.2.2.2 h.2.2.1 h.1.2.2.2.size⟩, h2, h.2.2.1, by have := h.2.2.2; omega⟩, h4.block⟩
end
set_option maxRecDepth 8000 in
set_option maxHeartbeats 3200000 in
theorem playsLaw_any (A : Option Addr) (l : List KOp) (ca : Nat) (at_ : Int) (w : World) (hr : Hid (KRow w A l)) (hl : l.length ≤ 9223372036854775807) (ha1 : -9223372036854775808 ≤ at_) (ha2 : at_ ≤ 9223372036854775807) :
    Calls Try.prog 4 #[.slice A l.length ca, .int .i64 at_] w fun e w' => e = .returned (.bool true) ∧ Below w.heap.size w w' := by
  have HAW := Kit.hid awake_any
  have HR := hr
  clear hr
  go_enter Try.func4, Try.ntmps4
  go_wp2_with fail
  (with_reducible refine (HAW.out w).mono ?_); rintro e w1 ⟨rfl, hd1⟩
  have HB1 := Kit.hid hd1
  have hr1 := krow_below HR HB1.out
  clear hd1 HAW HR
  by_cases hbig : 60 < l.length
  · have g1 : (60 : Int) < (l.length : Int) := by omega
    clear hbig
    go_wp2
    go_ret
    exact ⟨rfl, HB1.out⟩
  have g1 : ¬ (60 : Int) < (l.length : Int) := by omega
  have hll : l.length ≤ 60 := by omega
  clear hbig hl
  have HN := Kit.hid (Kt.new w1)
  have HRO := hr1
  clear hr1
  go_wp2_with fail
  (with_reducible refine HN.out.mono ?_); rintro e w2 ⟨p, mb, rfl, hk2⟩
  have HD0 : Hid (Duo w1 (w2.alloc (.cells #[.slice none 0 0] 33)) p mb (walkedK []) 1 w2.heap.size [] (walkedK []) 0) := Kit.hid ⟨hk2.below ((Below.refl _ _).alloc (Nat.le_refl _) _), ⟨⟨_, blk_new w2 _, rfl, .inl ⟨rfl, rfl⟩⟩, List.Perm.refl _, WF.nil, Nat.zero_le _⟩, hk2.2.2.2.size, Nat.le_refl _⟩
  clear hk2 HN
  obtain ⟨q, hq⟩ : ∃ q, q = w2.heap.size := ⟨_, rfl⟩
  rw [← hq] at HD0
  have HQ := Kit.hid hq
  clear hq
  go_wp2_with fail
  rw [← HQ.out]
  generalize w2.alloc (.cells #[.slice none 0 0] 33) = wz at HD0 ⊢
  have HAT : Hid (-9223372036854775808 ≤ at_ ∧ at_ ≤ 9223372036854775807) := Kit.hid ⟨ha1, ha2⟩
  have HU : Hid (∀ (T S l' : Tr) n m w', Duo w1 w' p mb T n q l' S m → Calls Try.prog 19 #[.pointer (some ⟨p, 0, none⟩), .int .i64 0] w' (RowPost w1 p mb T n (under T 0) w')) := Kit.hid (fun T S l' n m w' h => kt_under h.1 0 (by omega))
  clear ha1 ha2 HQ
  go_loopw [8] (fun v8 wr => ∃ (i : Nat) (r : Tr), i ≤ l.length ∧ v8 = .int .i64 i ∧ Hid (Duo w1 wr p mb (walkedK (l.take i)) (3 * i + 1) q r (walkedK (l.take i)) i)) (fun v8 _ => l.length - (intOf v8).toNat)
  case atStart => exact ⟨0, [], by omega, rfl, HD0⟩
  case round =>
    obtain ⟨i, r, hi, rfl, HD⟩ := hrel
    by_cases hlt : i < l.length
    · obtain ⟨o, ho⟩ : ∃ o, l[i]? = some o := ⟨_, List.getElem?_eq_getElem hlt⟩
      have HW : Hid (walkedK (l.take (i + 1)) = (doK (walkedK (l.take i)) o).2) := Kit.hid (runK_snoc [] l i o ho)
      obtain ⟨T, hT⟩ : ∃ T, T = walkedK (l.take i) := ⟨_, rfl⟩
      rw [← hT] at HD HW
      obtain ⟨ad, hA, c0, c1, c2, hi1, hi2⟩ := kop_at (krow_below HRO HD.out.1.2.2.2) ho
      have HI1 := Kit.hid hi1
      have HI2 := Kit.hid hi2
      subst hA
      have HBX : Hid (Below wr.heap.size wr (wr.alloc (.cells #[.int .i64 o.d, .int .i64 o.id, .int .i64 o.p] 35))) := Kit.hid ((Below.refl _ _).alloc (Nat.le_refl _) _)
      have hox := blk_new wr (.cells #[.int .i64 o.d, .int .i64 o.id, .int .i64 o.p] 35)
      have HDX := Kit.hid (HD.out.below HBX.out)
      have HOX := Kit.hid hox
      have o0 := blk_cell hox 0
      have o1 := blk_cell hox 1
      have o2 := blk_cell hox 2
      have lo := blk_lt hox
      have HDO := Kit.hid (HDX.out.op (do_any o HDX.out.1.1 (by omega) HI1.out.1 HI1.out.2 HI2.out.1 HI2.out.2))
      have HLB : Hid (mb < wr.heap.size ∧ q < wr.heap.size) := Kit.hid ⟨HD.out.1.1.1.lt.2.1, by
        obtain ⟨A, c, hq, _⟩ := HD.out.2.1.look
        exact blk_lt hq⟩
      obtain ⟨ec, T2, hec⟩ : ∃ ec T2, doK T o = (ec, T2) := ⟨_, _, rfl⟩
      have HEC := Kit.hid hec
      rw [hec] at HDO HW
      obtain ⟨ob, hob⟩ : ∃ ob, ob = wr.heap.size := ⟨_, rfl⟩
      have HOB := Kit.hid hob
      rw [← hob] at HOX o0 o1 o2 lo
      clear ho hT hi1 hi2 hox hec hob
      go_wp2_with fail
      (with_reducible refine HDO.out.mono ?_); rintro e w3 ⟨rfl, hd3, hk3⟩
      rw [← HOB.out]
      have HD3 := Kit.hid hd3
      have HO3 : Hid (w3.heap[ob]? = some (.cells #[.int .i64 o.d, .int .i64 o.id, .int .i64 o.p] 35 (0, 0))) := Kit.hid ((hk3 ob (blk_lt HOX.out) (by have := HLB.out.1; have := HOB.out; omega)).trans HOX.out)
      have o3 := blk_cell HO3.out 0
      have o4 := blk_cell HO3.out 1
      have o5 := blk_cell HO3.out 2
      have lo3 := blk_lt HO3.out
      clear hd3 hk3 o0 o1 o2 lo HDO c0 c1 c2
      go_upto_block 2 with fail
      go_cut [11] (fun v11 wx => v11 = .int .i64 ec ∧ ∃ l', Hid (Duo w1 wx p mb T2 (3 * i + 1 + 3) q l' T2 (i + 1)) ∧ Hid (wx.heap[ob]? = some (.cells #[.int .i64 o.d, .int .i64 o.id, .int .i64 o.p] 35 (0, 0))))
      case first =>
        go_wp2_with fail
        · have e1 : (o.d == 1) = true := by assumption
          have d1 := beq_iff_eq.1 e1
          have HR : Hid (addR T o.id o.p = (ec, T2)) := Kit.hid (by rw [← HEC.out]; unfold doK; rw [if_pos d1])
          have HJ := Kit.hid (HD3.out.rop (radd_any HD3.out.2.1 (by have := HD3.out.2.2.2; omega) o.id o.p))
          rw [HR.out] at HJ
          clear d1 
          (with_reducible refine HJ.out.mono ?_); rintro e w4 ⟨rfl, l', hd4, hk4⟩
          have HD4 := Kit.hid hd4
          have HO4 : Hid (w4.heap[ob]? = some (.cells #[.int .i64 o.d, .int .i64 o.id, .int .i64 o.p] 35 (0, 0))) := Kit.hid ((hk4 ob lo3 (by have := HLB.out.2; have := HOB.out; omega)).trans HO3.out)
          clear hd4 hk4 HJ
          go_wp2
          go_meet
          case rel => exact ⟨rfl, l', HD4, HO4⟩
        · have e1 : (o.d == 1) = false := by assumption
          have n1 := beq_eq_false_iff_ne.1 e1
          have e2 : (o.d == 2) = true := by assumption
          have d2 := beq_iff_eq.1 e2
          have HR : Hid (dropR T o.id = (ec, T2)) := Kit.hid (by rw [← HEC.out]; unfold doK; rw [if_neg n1, if_pos d2])
          have HJ := Kit.hid (HD3.out.rop (rdrop_any HD3.out.2.1 o.id))
          rw [HR.out] at HJ
          clear d2 n1
          (with_reducible refine HJ.out.mono ?_); rintro e w4 ⟨rfl, l', hd4, hk4⟩
          have HD4 := Kit.hid hd4
          have HO4 : Hid (w4.heap[ob]? = some (.cells #[.int .i64 o.d, .int .i64 o.id, .int .i64 o.p] 35 (0, 0))) := Kit.hid ((hk4 ob lo3 (by have := HLB.out.2; have := HOB.out; omega)).trans HO3.out)
          clear hd4 hk4 HJ
          go_wp2
          go_meet
          case rel => exact ⟨rfl, l', HD4, HO4⟩
        · have e1 : (o.d == 1) = false := by assumption
          have n1 := beq_eq_false_iff_ne.1 e1
          have e2 : (o.d == 2) = false := by assumption
          have n2 := beq_eq_false_iff_ne.1 e2
          have e3 : (o.d == 3) = true := by assumption
          have d3 := beq_iff_eq.1 e3
          have HR : Hid (moveR T o.id o.p = (ec, T2)) := Kit.hid (by rw [← HEC.out]; unfold doK; rw [if_neg n1, if_neg n2, if_pos d3])
          have HJ := Kit.hid (HD3.out.rop (rmove_any HD3.out.2.1 (by have := HD3.out.2.2.2; omega) o.id o.p))
          rw [HR.out] at HJ
          clear d3 n1 n2
          (with_reducible refine HJ.out.mono ?_); rintro e w4 ⟨rfl, l', hd4, hk4⟩
          have HD4 := Kit.hid hd4
          have HO4 : Hid (w4.heap[ob]? = some (.cells #[.int .i64 o.d, .int .i64 o.id, .int .i64 o.p] 35 (0, 0))) := Kit.hid ((hk4 ob lo3 (by have := HLB.out.2; have := HOB.out; omega)).trans HO3.out)
          clear hd4 hk4 HJ
          go_wp2
          go_meet
          case rel => exact ⟨rfl, l', HD4, HO4⟩
        · have e1 : (o.d == 1) = false := by assumption
          have n1 := beq_eq_false_iff_ne.1 e1
          have e2 : (o.d == 2) = false := by assumption
          have n2 := beq_eq_false_iff_ne.1 e2
          have e3 : (o.d == 3) = false := by assumption
          have n3 := beq_eq_false_iff_ne.1 e3
          have HR : Hid ((0, T) = (ec, T2)) := Kit.hid (by rw [← HEC.out]; unfold doK; rw [if_neg n1, if_neg n2, if_neg n3])
          clear n1 n2 n3
          obtain ⟨hz, hT2⟩ := Prod.mk.inj HR.out
          subst hz
          subst hT2
          go_meet
          case rel => exact ⟨rfl, r, Kit.hid ⟨HD3.out.1, HD3.out.2.1, HD3.out.2.2.1, Nat.le_succ_of_le HD3.out.2.2.2⟩, HO3⟩
      case rest =>
        obtain ⟨rfl, l', HD4, HO4⟩ := hcut
        clear o3 o4 o5 lo3 HD3 HO3
        have hlt4 : l'.length ≤ 60 := by have := HD4.out.2.2.2; omega
        have HUL : Hid (∀ x, (under T2 x).length ≤ 1000000) := Kit.hid (fun x => by have := under_len HD4.out.1.1.2.1 x; have := HD4.out.2.1.2.1.length_eq; omega)
        have HKL : Hid (∀ x, (kids T2 x).length ≤ 1000000) := Kit.hid (fun x => by have := kids_len (T := T2) x; have := HD4.out.2.1.2.1.length_eq; omega)
        have HPL : Hid (∀ x, (path T2 x).length ≤ 1000000) := Kit.hid (fun x => by have := path_len HD4.out.1.1.2.1 x; omega)
        have H5 := Kit.hid (kt_under HD4.out.1 0 (by omega))
        obtain ⟨V, hV⟩ : ∃ V, V = under T2 0 := ⟨_, rfl⟩
        have HVE := Kit.hid hV
        rw [← hV] at H5
        clear hV
        go_wp2_with fail
        (with_reducible refine H5.out.mono ?_); rintro e w5 ⟨A5, c5, rfl, hr5, _, hb5⟩
        have HR5 := Kit.hid hr5
        have HD5 := Kit.hid (HD4.out.below hb5)
        have HO5 := Kit.hid (blk_below HO4.out hb5)
        have H6 := Kit.hid (runder_any HD5.out.2.1 0)
        rw [← HVE.out] at H6
        clear hr5 hb5 H5 HD4 HO4
        go_wp2_with fail
        (with_reducible refine H6.out.mono ?_); rintro e w6 ⟨v6, rfl, hr6, hb6⟩
        have HD6 := Kit.hid (HD5.out.below hb6)
        have HO6 := Kit.hid (blk_below HO5.out hb6)
        have H7 := Kit.hid (rsame_any (HR5.out.below hb6) hr6 (by rw [HVE.out]; exact HUL.out 0) (by rw [HVE.out]; exact HUL.out 0))
        rw [decide_eq_true rfl] at H7
        obtain ⟨A6, c6, rfl, _, _, _⟩ := hr6.reads
        clear hr6 hb6 H6 HD5 HO5 HR5
        go_wp2_with fail
        (with_reducible refine H7.out.mono ?_); rintro e w7 ⟨rfl, hb7⟩
        have HD7 := Kit.hid (HD6.out.below hb7)
        have ho7 := blk_below HO6.out hb7
        have o3 := blk_cell ho7 1
        have o4 := blk_cell ho7 2
        have lo3 := blk_lt ho7
        clear hb7 ho7 H7 HD6 HO6
        have HX8 : Hid (Row 0 (w7.alloc (.cells #[.int .i64 at_, .int .i64 o.id, .int .i64 o.p] 3)) (.slice (some ⟨w7.heap.size, 0, none⟩) 3 3) [at_, o.id, o.p]) := Kit.hid (row_of (l := [at_, o.id, o.p]) (Nat.zero_le _) (blk_new w7 _) (Nat.le_refl 3) (by unfold maxLen; omega) rfl fun j x hj => by
          have hj3 : j < 3 := (List.getElem?_eq_some_iff.1 hj).1
          have : j = 0 ∨ j = 1 ∨ j = 2 := by omega
          rcases this with rfl | rfl | rfl <;> simpa using hj)
        have HD8 : Hid (Duo w1 (w7.alloc (.cells #[.int .i64 at_, .int .i64 o.id, .int .i64 o.p] 3)) p mb T2 (3 * i + 1 + 3) q l' T2 (i + 1)) := Kit.hid (HD7.out.below ((Below.refl _ _).alloc (Nat.le_refl _) _))
        go_wp2_with fail
        obtain ⟨xb, hxb⟩ : ∃ xb, xb = w7.heap.size := ⟨_, rfl⟩
        rw [← hxb] at HX8 ⊢
        generalize w7.alloc (.cells #[.int .i64 at_, .int .i64 o.id, .int .i64 o.p] 3) = w8 at HX8 HD8 ⊢
        obtain ⟨X, hX⟩ : ∃ X : List Int, X = [at_, o.id, o.p] := ⟨_, rfl⟩
        have HXB : Hid (∀ y ∈ X, -9223372036854775808 ≤ y ∧ y ≤ 9223372036854775807) := Kit.hid (fun y hy => by
          rw [hX] at hy
          simp at hy
          rcases hy with rfl | rfl | rfl
          · exact HAT.out
          · exact HI1.out
          · exact HI2.out)
        have HXL : Hid (X.length = 3) := Kit.hid (by rw [hX]; rfl)
        rw [← hX] at HX8
        clear hxb hX o3 o4 lo3 HD7
        go_loopw [13] (fun v13 wr => ∃ k : Nat, k ≤ 3 ∧ v13 = .int .i64 k ∧ Hid (Duo w1 wr p mb T2 (3 * i + 1 + 3) q l' T2 (i + 1)) ∧ Hid (Row 0 wr (.slice (some ⟨xb, 0, none⟩) 3 3) X)) (fun v13 _ => 3 - (intOf v13).toNat)
        case atStart => exact ⟨0, by omega, rfl, HD8, HX8⟩
        case round =>
          obtain ⟨k, hk, rfl, HD, HX⟩ := hrel
          by_cases hltk : k < 3
          · obtain ⟨y, hy⟩ : ∃ y, X[k]? = some y := ⟨_, List.getElem?_eq_getElem (by rw [HXL.out]; exact hltk)⟩
            have HYB := Kit.hid (HXB.out y (List.mem_of_getElem? hy))
            have HC : Hid (∀ w', Below wr.heap.size wr w' → w'.cell? ⟨xb, k, none⟩ = some (.int .i64 y)) := Kit.hid (fun w' hb => by
              obtain ⟨a1, e1, d1⟩ := row_at (HX.out.below hb) hy
              cases e1
              rw [add_lit] at d1
              exact d1)
            obtain ⟨B1, hB1⟩ : ∃ b, b = has T2 y := ⟨_, rfl⟩
            obtain ⟨P1, hP1⟩ : ∃ b, b = parent T2 y := ⟨_, rfl⟩
            obtain ⟨T1, hT1⟩ : ∃ b, b = tall T2 y := ⟨_, rfl⟩
            obtain ⟨K1, hK1⟩ : ∃ b, b = kids T2 y := ⟨_, rfl⟩
            obtain ⟨Q1, hQ1⟩ : ∃ b, b = path T2 y := ⟨_, rfl⟩
            obtain ⟨U1, hU1⟩ : ∃ b, b = under T2 y := ⟨_, rfl⟩
            have HC5 : Hid (∀ w', Below wr.heap.size wr w' → Calls Try.prog 21 #[.pointer (some ⟨p, 0, none⟩), .int .i64 y] w' fun e w'' => e = .returned (.bool B1) ∧ Below w'.heap.size w' w'') := Kit.hid (fun w' hb => by rw [hB1]; exact kt_has (HD.out.below hb).1.1 y HYB.out.1 HYB.out.2)
            have HC11 : Hid (∀ w', Below wr.heap.size wr w' → Calls Try.prog 22 #[.pointer (some ⟨q, 0, none⟩), .int .i64 y] w' fun e w'' => e = .returned (.bool B1) ∧ Below w'.heap.size w' w'') := Kit.hid (fun w' hb => by rw [hB1]; exact (rhas_any (HD.out.below hb).2.1 y).mono fun e w'' g => ⟨g.1, by rw [g.2]; exact Below.refl _ _⟩)
            have HC19 : Hid (∀ w', Below wr.heap.size wr w' → Calls Try.prog 23 #[.pointer (some ⟨p, 0, none⟩), .int .i64 y] w' fun e w'' => e = .returned (.int .i64 P1) ∧ Below w'.heap.size w' w'') := Kit.hid (fun w' hb => by rw [hP1]; exact kt_parent (HD.out.below hb).1.1 y HYB.out.1 HYB.out.2)
            have HC25 : Hid (∀ w', Below wr.heap.size wr w' → Calls Try.prog 24 #[.pointer (some ⟨q, 0, none⟩), .int .i64 y] w' fun e w'' => e = .returned (.int .i64 P1) ∧ Below w'.heap.size w' w'') := Kit.hid (fun w' hb => by rw [hP1]; exact (rparent_any (HD.out.below hb).2.1 y).mono fun e w'' g => ⟨g.1, by rw [g.2]; exact Below.refl _ _⟩)
            have HC34 : Hid (∀ w', Below wr.heap.size wr w' → Calls Try.prog 13 #[.pointer (some ⟨p, 0, none⟩), .int .i64 y] w' fun e w'' => e = .returned (.int .i64 T1) ∧ Below w'.heap.size w' w'') := Kit.hid (fun w' hb => by rw [hT1]; exact tall_any (HD.out.below hb).1.1 y HYB.out.1 HYB.out.2)
            have HC40 : Hid (∀ w', Below wr.heap.size wr w' → Calls Try.prog 25 #[.pointer (some ⟨q, 0, none⟩), .int .i64 y] w' fun e w'' => e = .returned (.int .i64 T1) ∧ Below w'.heap.size w' w'') := Kit.hid (fun w' hb => by rw [hT1]; exact rtall_any (HD.out.below hb).2.1 y)
            have HC49 : Hid (∀ w', Below wr.heap.size wr w' → Calls Try.prog 26 #[.pointer (some ⟨p, 0, none⟩), .int .i64 y] w' fun e w'' => ∃ A c, e = .returned (.slice A K1.length c) ∧ Row 0 w'' (.slice A K1.length c) K1 ∧ Below w'.heap.size w' w'') := Kit.hid (fun w' hb => by rw [hK1]; exact row0 (kt_kids (HD.out.below hb).1.1 y HYB.out.1 HYB.out.2))
            have HC55 : Hid (∀ w', Below wr.heap.size wr w' → Calls Try.prog 27 #[.pointer (some ⟨q, 0, none⟩), .int .i64 y] w' fun e w'' => ∃ A c, e = .returned (.slice A K1.length c) ∧ Row 0 w'' (.slice A K1.length c) K1 ∧ Below w'.heap.size w' w'') := Kit.hid (fun w' hb => by rw [hK1]; exact row0 (rkids_any (HD.out.below hb).2.1 y))
            have HC65 : Hid (∀ w', Below wr.heap.size wr w' → Calls Try.prog 28 #[.pointer (some ⟨p, 0, none⟩), .int .i64 y] w' fun e w'' => ∃ A c, e = .returned (.slice A Q1.length c) ∧ Row 0 w'' (.slice A Q1.length c) Q1 ∧ Below w'.heap.size w' w'') := Kit.hid (fun w' hb => by rw [hQ1]; exact row0 (path_any (HD.out.below hb).1.1 y HYB.out.1 HYB.out.2))
            have HC71 : Hid (∀ w', Below wr.heap.size wr w' → Calls Try.prog 29 #[.pointer (some ⟨q, 0, none⟩), .int .i64 y] w' fun e w'' => ∃ A c, e = .returned (.slice A Q1.length c) ∧ Row 0 w'' (.slice A Q1.length c) Q1 ∧ Below w'.heap.size w' w'') := Kit.hid (fun w' hb => by rw [hQ1]; exact row0 (rpath_any (HD.out.below hb).2.1 y))
            have HC81 : Hid (∀ w', Below wr.heap.size wr w' → Calls Try.prog 19 #[.pointer (some ⟨p, 0, none⟩), .int .i64 y] w' fun e w'' => ∃ A c, e = .returned (.slice A U1.length c) ∧ Row 0 w'' (.slice A U1.length c) U1 ∧ Below w'.heap.size w' w'') := Kit.hid (fun w' hb => by rw [hU1]; exact row0 (under_any (HD.out.below hb).1.1 y HYB.out.1 HYB.out.2))
            have HC87 : Hid (∀ w', Below wr.heap.size wr w' → Calls Try.prog 20 #[.pointer (some ⟨q, 0, none⟩), .int .i64 y] w' fun e w'' => ∃ A c, e = .returned (.slice A U1.length c) ∧ Row 0 w'' (.slice A U1.length c) U1 ∧ Below w'.heap.size w' w'') := Kit.hid (fun w' hb => by rw [hU1]; exact row0 (runder_any (HD.out.below hb).2.1 y))
            have HC56 : Hid (∀ w' A c A' c', Row 0 w' (.slice A K1.length c) K1 → Row 0 w' (.slice A' K1.length c') K1 → Calls Try.prog 18 #[.slice A K1.length c, .slice A' K1.length c'] w' fun e w'' => e = .returned (.bool true) ∧ Below w'.heap.size w' w'') := Kit.hid (fun w' A c A' c' h1 h2 => by
              have hl : K1.length ≤ 1000000 := by rw [hK1]; exact HKL.out y
              have := rsame_any h1 h2 hl hl
              rw [decide_eq_true rfl] at this
              exact this)
            have HC72 : Hid (∀ w' A c A' c', Row 0 w' (.slice A Q1.length c) Q1 → Row 0 w' (.slice A' Q1.length c') Q1 → Calls Try.prog 18 #[.slice A Q1.length c, .slice A' Q1.length c'] w' fun e w'' => e = .returned (.bool true) ∧ Below w'.heap.size w' w'') := Kit.hid (fun w' A c A' c' h1 h2 => by
              have hl : Q1.length ≤ 1000000 := by rw [hQ1]; exact HPL.out y
              have := rsame_any h1 h2 hl hl
              rw [decide_eq_true rfl] at this
              exact this)
            have HC88 : Hid (∀ w' A c A' c', Row 0 w' (.slice A U1.length c) U1 → Row 0 w' (.slice A' U1.length c') U1 → Calls Try.prog 18 #[.slice A U1.length c, .slice A' U1.length c'] w' fun e w'' => e = .returned (.bool true) ∧ Below w'.heap.size w' w'') := Kit.hid (fun w' A c A' c' h1 h2 => by
              have hl : U1.length ≤ 1000000 := by rw [hU1]; exact HUL.out y
              have := rsame_any h1 h2 hl hl
              rw [decide_eq_true rfl] at this
              exact this)
            have b1 : (B1 != B1) = false := by simp
            have b2 : (P1 != P1) = false := by simp
            have b3 : (T1 != T1) = false := by simp
            clear hy hB1 hP1 hT1 hK1 hQ1 hU1
            go_wp2_with fail
            refine wp_region_noPanic ?_
            refine wp_region_held_drew (S := fun w' => Below wr.heap.size wr w') (by as_aux_lemma => kernel_rfl) (Below.refl _ _).drew (fun hHeld => ?_)
            refine wpAnyH_take (i := 0) (hi := by simp only [List.getElem?_toArray, List.getElem?_cons_succ, List.getElem?_cons_zero]; rfl) (v := ?_) (by as_aux_lemma => kernel_rfl) (by as_aux_lemma => kernel_rfl) (by as_aux_lemma => kernel_rfl) (fun _ _ _ h => h) (Or.inl ⟨by rfl, ?_⟩) (by assumption) ?_
            rotate_left
            · (intro w hSw; (try dsimp only at hSw); go_simp; first | done | with_reducible rfl)
            try simp only [Act.put, List.setIfInBounds_toArray, List.set_cons_zero, List.set_cons_succ]
            refine wpAnyH_take (i := 1) (hi := by simp only [List.getElem?_toArray, List.getElem?_cons_succ, List.getElem?_cons_zero]; rfl) (v := ?_) (by as_aux_lemma => kernel_rfl) (by as_aux_lemma => kernel_rfl) (by as_aux_lemma => kernel_rfl) (fun _ _ _ h => h) (Or.inl ⟨by rfl, ?_⟩) (by assumption) ?_
            rotate_left
            · (intro w hSw; (try dsimp only at hSw); go_simp; first | done | with_reducible rfl)
            try simp only [Act.put, List.setIfInBounds_toArray, List.set_cons_zero, List.set_cons_succ]
            refine wpAnyH_take (i := 2) (hi := by simp only [List.getElem?_toArray, List.getElem?_cons_succ, List.getElem?_cons_zero]; rfl) (v := ?_) (by as_aux_lemma => kernel_rfl) (by as_aux_lemma => kernel_rfl) (by as_aux_lemma => kernel_rfl) (fun _ _ _ h => h) (Or.inl ⟨by rfl, ?_⟩) (by assumption) ?_
            rotate_left
            · (intro w hSw; (try dsimp only at hSw); go_simp; first | done | with_reducible rfl)
            try simp only [Act.put, List.setIfInBounds_toArray, List.set_cons_zero, List.set_cons_succ]
            refine wpAnyH_take (i := 3) (hi := by simp only [List.getElem?_toArray, List.getElem?_cons_succ, List.getElem?_cons_zero]; rfl) (v := ?_) (by as_aux_lemma => kernel_rfl) (by as_aux_lemma => kernel_rfl) (by as_aux_lemma => kernel_rfl) (fun _ _ _ h => h) (Or.inl ⟨by rfl, ?_⟩) (by assumption) ?_
            rotate_left
            · (intro w hSw; (try dsimp only at hSw); (have c0 := HC.out _ hSw); go_simp; first | done | with_reducible rfl)
            try simp only [Act.put, List.setIfInBounds_toArray, List.set_cons_zero, List.set_cons_succ]
            refine wpAnyH_take (i := 4) (hi := by simp only [List.getElem?_toArray, List.getElem?_cons_succ, List.getElem?_cons_zero]; rfl) (v := ?_) (by as_aux_lemma => kernel_rfl) (by as_aux_lemma => kernel_rfl) (by as_aux_lemma => kernel_rfl) (fun _ _ _ h => h) (Or.inl ⟨by rfl, ?_⟩) (by assumption) ?_
            rotate_left
            · (intro w hSw; (try dsimp only at hSw); (have c0 := HC.out _ hSw); go_simp; first | done | with_reducible rfl)
            try simp only [Act.put, List.setIfInBounds_toArray, List.set_cons_zero, List.set_cons_succ]
            refine wpAnyH_take (i := 6) (hi := by simp only [List.getElem?_toArray, List.getElem?_cons_succ, List.getElem?_cons_zero]; rfl) (v := ?_) (by as_aux_lemma => kernel_rfl) (by as_aux_lemma => kernel_rfl) (by as_aux_lemma => kernel_rfl) (fun _ _ _ h => h) (Or.inl ⟨by rfl, ?_⟩) (by assumption) ?_
            rotate_left
            · (intro w hSw; (try dsimp only at hSw); go_simp; first | done | with_reducible rfl)
            try simp only [Act.put, List.setIfInBounds_toArray, List.set_cons_zero, List.set_cons_succ]
            refine wpAnyH_take (i := 7) (hi := by simp only [List.getElem?_toArray, List.getElem?_cons_succ, List.getElem?_cons_zero]; rfl) (v := ?_) (by as_aux_lemma => kernel_rfl) (by as_aux_lemma => kernel_rfl) (by as_aux_lemma => kernel_rfl) (fun _ _ _ h => h) (Or.inl ⟨by rfl, ?_⟩) (by assumption) ?_
            rotate_left
            · (intro w hSw; (try dsimp only at hSw); go_simp; first | done | with_reducible rfl)
            try simp only [Act.put, List.setIfInBounds_toArray, List.set_cons_zero, List.set_cons_succ]
            refine wpAnyH_take (i := 8) (hi := by simp only [List.getElem?_toArray, List.getElem?_cons_succ, List.getElem?_cons_zero]; rfl) (v := ?_) (by as_aux_lemma => kernel_rfl) (by as_aux_lemma => kernel_rfl) (by as_aux_lemma => kernel_rfl) (fun _ _ _ h => h) (Or.inl ⟨by rfl, ?_⟩) (by assumption) ?_
            rotate_left
            · (intro w hSw; (try dsimp only at hSw); go_simp; first | done | with_reducible rfl)
            try simp only [Act.put, List.setIfInBounds_toArray, List.set_cons_zero, List.set_cons_succ]
            refine wpAnyH_take (i := 9) (hi := by simp only [List.getElem?_toArray, List.getElem?_cons_succ, List.getElem?_cons_zero]; rfl) (v := ?_) (by as_aux_lemma => kernel_rfl) (by as_aux_lemma => kernel_rfl) (by as_aux_lemma => kernel_rfl) (fun _ _ _ h => h) (Or.inl ⟨by rfl, ?_⟩) (by assumption) ?_
            rotate_left
            · (intro w hSw; (try dsimp only at hSw); (have c0 := HC.out _ hSw); go_simp; first | done | with_reducible rfl)
            try simp only [Act.put, List.setIfInBounds_toArray, List.set_cons_zero, List.set_cons_succ]
            refine wpAnyH_take (i := 10) (hi := by simp only [List.getElem?_toArray, List.getElem?_cons_succ, List.getElem?_cons_zero]; rfl) (v := ?_) (by as_aux_lemma => kernel_rfl) (by as_aux_lemma => kernel_rfl) (by as_aux_lemma => kernel_rfl) (fun _ _ _ h => h) (Or.inl ⟨by rfl, ?_⟩) (by assumption) ?_
            rotate_left
            · (intro w hSw; (try dsimp only at hSw); (have c0 := HC.out _ hSw); go_simp; first | done | with_reducible rfl)
            try simp only [Act.put, List.setIfInBounds_toArray, List.set_cons_zero, List.set_cons_succ]
            refine wpAnyH_ready (rs := [5]) (by as_aux_lemma => kernel_rfl) (by simp) ?_
            refine AllReadyH.cons (ho := by simp only [List.getElem?_toArray, List.getElem?_cons_succ, List.getElem?_cons_zero]; rfl) (fun K hK => ?_) (AllReadyH.nil)
            go_simp
            go_at_call 21; (with_reducible refine (HC5.out _ hHeld).mono ?_); rintro e w5 ⟨rfl, hb5⟩
            have HB5 : Hid (Below wr.heap.size wr w5) := Kit.hid (hHeld.trans (hb5.mono hHeld.size))
            clear hb5
            go_wp2_with fail
            refine hK.out _ _ ?_ (fun hHeldN => ?_)
            · exact HB5.out
            clear hHeld
            have hHeld := hHeldN
            clear hHeldN
            clear hK K
            try simp only [Act.put, List.setIfInBounds_toArray, List.set_cons_zero, List.set_cons_succ]
            refine wpAnyH_ready (rs := [11]) (by as_aux_lemma => kernel_rfl) (by simp) ?_
            refine AllReadyH.cons (ho := by simp only [List.getElem?_toArray, List.getElem?_cons_succ, List.getElem?_cons_zero]; rfl) (fun K hK => ?_) (AllReadyH.nil)
            go_simp
            go_at_call 22; (with_reducible refine (HC11.out _ hHeld).mono ?_); rintro e w11 ⟨rfl, hb11⟩
            have HB11 : Hid (Below wr.heap.size wr w11) := Kit.hid (hHeld.trans (hb11.mono hHeld.size))
            clear hb11
            go_wp2_with fail
            refine hK.out _ _ ?_ (fun hHeldN => ?_)
            · exact HB11.out
            clear hHeld
            have hHeld := hHeldN
            clear hHeldN
            clear hK K
            try simp only [Act.put, List.setIfInBounds_toArray, List.set_cons_zero, List.set_cons_succ]
            refine wpAnyH_take (i := 12) (hi := by simp only [List.getElem?_toArray, List.getElem?_cons_succ, List.getElem?_cons_zero]; rfl) (v := ?_) (by as_aux_lemma => kernel_rfl) (by as_aux_lemma => kernel_rfl) (by as_aux_lemma => kernel_rfl) (fun _ _ _ h => h) (Or.inl ⟨by rfl, ?_⟩) (by assumption) ?_
            rotate_left
            · (intro w hSw; (try dsimp only at hSw); go_simp; first | done | with_reducible rfl)
            try simp only [Act.put, List.setIfInBounds_toArray, List.set_cons_zero, List.set_cons_succ]
            refine wpAnyH_take (i := 13) (hi := by simp only [List.getElem?_toArray, List.getElem?_cons_succ, List.getElem?_cons_zero]; rfl) (v := ?_) (by as_aux_lemma => kernel_rfl) (by as_aux_lemma => kernel_rfl) (by as_aux_lemma => kernel_rfl) (fun _ _ _ h => h) (Or.inl ⟨by rfl, ?_⟩) (by assumption) ?_
            rotate_left
            · (intro w hSw; (try dsimp only at hSw); go_simp; first | done | with_reducible rfl)
            try simp only [Act.put, List.setIfInBounds_toArray, List.set_cons_zero, List.set_cons_succ]
            refine wpAnyH_take (i := 14) (hi := by simp only [List.getElem?_toArray, List.getElem?_cons_succ, List.getElem?_cons_zero]; rfl) (v := ?_) (by as_aux_lemma => kernel_rfl) (by as_aux_lemma => kernel_rfl) (by as_aux_lemma => kernel_rfl) (fun _ _ _ h => h) (Or.inl ⟨by rfl, ?_⟩) (by assumption) ?_
            rotate_left
            · (intro w hSw; (try dsimp only at hSw); go_simp; first | done | with_reducible rfl)
            try simp only [Act.put, List.setIfInBounds_toArray, List.set_cons_zero, List.set_cons_succ]
            refine wpAnyH_take (i := 15) (hi := by simp only [List.getElem?_toArray, List.getElem?_cons_succ, List.getElem?_cons_zero]; rfl) (v := ?_) (by as_aux_lemma => kernel_rfl) (by as_aux_lemma => kernel_rfl) (by as_aux_lemma => kernel_rfl) (fun _ _ _ h => h) (Or.inl ⟨by rfl, ?_⟩) (by assumption) ?_
            rotate_left
            · (intro w hSw; (try dsimp only at hSw); go_simp; first | done | with_reducible rfl)
            try simp only [Act.put, List.setIfInBounds_toArray, List.set_cons_zero, List.set_cons_succ]
            refine wpAnyH_take (i := 16) (hi := by simp only [List.getElem?_toArray, List.getElem?_cons_succ, List.getElem?_cons_zero]; rfl) (v := ?_) (by as_aux_lemma => kernel_rfl) (by as_aux_lemma => kernel_rfl) (by as_aux_lemma => kernel_rfl) (fun _ _ _ h => h) (Or.inl ⟨by rfl, ?_⟩) (by assumption) ?_
            rotate_left
            · (intro w hSw; (try dsimp only at hSw); go_simp; first | done | with_reducible rfl)
            try simp only [Act.put, List.setIfInBounds_toArray, List.set_cons_zero, List.set_cons_succ]
            refine wpAnyH_take (i := 17) (hi := by simp only [List.getElem?_toArray, List.getElem?_cons_succ, List.getElem?_cons_zero]; rfl) (v := ?_) (by as_aux_lemma => kernel_rfl) (by as_aux_lemma => kernel_rfl) (by as_aux_lemma => kernel_rfl) (fun _ _ _ h => h) (Or.inl ⟨by rfl, ?_⟩) (by assumption) ?_
            rotate_left
            · (intro w hSw; (try dsimp only at hSw); (have c0 := HC.out _ hSw); go_simp; first | done | with_reducible rfl)
            try simp only [Act.put, List.setIfInBounds_toArray, List.set_cons_zero, List.set_cons_succ]
            refine wpAnyH_take (i := 18) (hi := by simp only [List.getElem?_toArray, List.getElem?_cons_succ, List.getElem?_cons_zero]; rfl) (v := ?_) (by as_aux_lemma => kernel_rfl) (by as_aux_lemma => kernel_rfl) (by as_aux_lemma => kernel_rfl) (fun _ _ _ h => h) (Or.inl ⟨by rfl, ?_⟩) (by assumption) ?_
            rotate_left
            · (intro w hSw; (try dsimp only at hSw); (have c0 := HC.out _ hSw); go_simp; first | done | with_reducible rfl)
            try simp only [Act.put, List.setIfInBounds_toArray, List.set_cons_zero, List.set_cons_succ]
            refine wpAnyH_take (i := 20) (hi := by simp only [List.getElem?_toArray, List.getElem?_cons_succ, List.getElem?_cons_zero]; rfl) (v := ?_) (by as_aux_lemma => kernel_rfl) (by as_aux_lemma => kernel_rfl) (by as_aux_lemma => kernel_rfl) (fun _ _ _ h => h) (Or.inl ⟨by rfl, ?_⟩) (by assumption) ?_
            rotate_left
            · (intro w hSw; (try dsimp only at hSw); go_simp; first | done | with_reducible rfl)
            try simp only [Act.put, List.setIfInBounds_toArray, List.set_cons_zero, List.set_cons_succ]
            refine wpAnyH_take (i := 21) (hi := by simp only [List.getElem?_toArray, List.getElem?_cons_succ, List.getElem?_cons_zero]; rfl) (v := ?_) (by as_aux_lemma => kernel_rfl) (by as_aux_lemma => kernel_rfl) (by as_aux_lemma => kernel_rfl) (fun _ _ _ h => h) (Or.inl ⟨by rfl, ?_⟩) (by assumption) ?_
            rotate_left
            · (intro w hSw; (try dsimp only at hSw); go_simp; first | done | with_reducible rfl)
            try simp only [Act.put, List.setIfInBounds_toArray, List.set_cons_zero, List.set_cons_succ]
            refine wpAnyH_take (i := 22) (hi := by simp only [List.getElem?_toArray, List.getElem?_cons_succ, List.getElem?_cons_zero]; rfl) (v := ?_) (by as_aux_lemma => kernel_rfl) (by as_aux_lemma => kernel_rfl) (by as_aux_lemma => kernel_rfl) (fun _ _ _ h => h) (Or.inl ⟨by rfl, ?_⟩) (by assumption) ?_
            rotate_left
            · (intro w hSw; (try dsimp only at hSw); go_simp; first | done | with_reducible rfl)
            try simp only [Act.put, List.setIfInBounds_toArray, List.set_cons_zero, List.set_cons_succ]
            refine wpAnyH_take (i := 23) (hi := by simp only [List.getElem?_toArray, List.getElem?_cons_succ, List.getElem?_cons_zero]; rfl) (v := ?_) (by as_aux_lemma => kernel_rfl) (by as_aux_lemma => kernel_rfl) (by as_aux_lemma => kernel_rfl) (fun _ _ _ h => h) (Or.inl ⟨by rfl, ?_⟩) (by assumption) ?_
            rotate_left
            · (intro w hSw; (try dsimp only at hSw); (have c0 := HC.out _ hSw); go_simp; first | done | with_reducible rfl)
            try simp only [Act.put, List.setIfInBounds_toArray, List.set_cons_zero, List.set_cons_succ]
            refine wpAnyH_take (i := 24) (hi := by simp only [List.getElem?_toArray, List.getElem?_cons_succ, List.getElem?_cons_zero]; rfl) (v := ?_) (by as_aux_lemma => kernel_rfl) (by as_aux_lemma => kernel_rfl) (by as_aux_lemma => kernel_rfl) (fun _ _ _ h => h) (Or.inl ⟨by rfl, ?_⟩) (by assumption) ?_
            rotate_left
            · (intro w hSw; (try dsimp only at hSw); (have c0 := HC.out _ hSw); go_simp; first | done | with_reducible rfl)
            try simp only [Act.put, List.setIfInBounds_toArray, List.set_cons_zero, List.set_cons_succ]
            refine wpAnyH_ready (rs := [19]) (by as_aux_lemma => kernel_rfl) (by simp) ?_
            refine AllReadyH.cons (ho := by simp only [List.getElem?_toArray, List.getElem?_cons_succ, List.getElem?_cons_zero]; rfl) (fun K hK => ?_) (AllReadyH.nil)
            go_simp
            go_at_call 23; (with_reducible refine (HC19.out _ hHeld).mono ?_); rintro e w19 ⟨rfl, hb19⟩
            have HB19 : Hid (Below wr.heap.size wr w19) := Kit.hid (hHeld.trans (hb19.mono hHeld.size))
            clear hb19
            go_wp2_with fail
            refine hK.out _ _ ?_ (fun hHeldN => ?_)
            · exact HB19.out
            clear hHeld
            have hHeld := hHeldN
            clear hHeldN
            clear hK K
            try simp only [Act.put, List.setIfInBounds_toArray, List.set_cons_zero, List.set_cons_succ]
            refine wpAnyH_ready (rs := [25]) (by as_aux_lemma => kernel_rfl) (by simp) ?_
            refine AllReadyH.cons (ho := by simp only [List.getElem?_toArray, List.getElem?_cons_succ, List.getElem?_cons_zero]; rfl) (fun K hK => ?_) (AllReadyH.nil)
            go_simp
            go_at_call 24; (with_reducible refine (HC25.out _ hHeld).mono ?_); rintro e w25 ⟨rfl, hb25⟩
            have HB25 : Hid (Below wr.heap.size wr w25) := Kit.hid (hHeld.trans (hb25.mono hHeld.size))
            clear hb25
            go_wp2_with fail
            refine hK.out _ _ ?_ (fun hHeldN => ?_)
            · exact HB25.out
            clear hHeld
            have hHeld := hHeldN
            clear hHeldN
            clear hK K
            try simp only [Act.put, List.setIfInBounds_toArray, List.set_cons_zero, List.set_cons_succ]
            refine wpAnyH_take (i := 26) (hi := by simp only [List.getElem?_toArray, List.getElem?_cons_succ, List.getElem?_cons_zero]; rfl) (v := ?_) (by as_aux_lemma => kernel_rfl) (by as_aux_lemma => kernel_rfl) (by as_aux_lemma => kernel_rfl) (fun _ _ _ h => h) (Or.inl ⟨by rfl, ?_⟩) (by assumption) ?_
            rotate_left
            · (intro w hSw; (try dsimp only at hSw); go_simp; first | done | with_reducible rfl)
            try simp only [Act.put, List.setIfInBounds_toArray, List.set_cons_zero, List.set_cons_succ]
            refine wpAnyH_take (i := 27) (hi := by simp only [List.getElem?_toArray, List.getElem?_cons_succ, List.getElem?_cons_zero]; rfl) (v := ?_) (by as_aux_lemma => kernel_rfl) (by as_aux_lemma => kernel_rfl) (by as_aux_lemma => kernel_rfl) (fun _ _ _ h => h) (Or.inl ⟨by rfl, ?_⟩) (by assumption) ?_
            rotate_left
            · (intro w hSw; (try dsimp only at hSw); go_simp; first | done | with_reducible rfl)
            try simp only [Act.put, List.setIfInBounds_toArray, List.set_cons_zero, List.set_cons_succ]
            refine wpAnyH_take (i := 28) (hi := by simp only [List.getElem?_toArray, List.getElem?_cons_succ, List.getElem?_cons_zero]; rfl) (v := ?_) (by as_aux_lemma => kernel_rfl) (by as_aux_lemma => kernel_rfl) (by as_aux_lemma => kernel_rfl) (fun _ _ _ h => h) (Or.inl ⟨by rfl, ?_⟩) (by assumption) ?_
            rotate_left
            · (intro w hSw; (try dsimp only at hSw); go_simp; first | done | with_reducible rfl)
            try simp only [Act.put, List.setIfInBounds_toArray, List.set_cons_zero, List.set_cons_succ]
            refine wpAnyH_take (i := 29) (hi := by simp only [List.getElem?_toArray, List.getElem?_cons_succ, List.getElem?_cons_zero]; rfl) (v := ?_) (by as_aux_lemma => kernel_rfl) (by as_aux_lemma => kernel_rfl) (by as_aux_lemma => kernel_rfl) (fun _ _ _ h => h) (Or.inl ⟨by rfl, ?_⟩) (by assumption) ?_
            rotate_left
            · (intro w hSw; (try dsimp only at hSw); go_simp; first | done | with_reducible rfl)
            try simp only [Act.put, List.setIfInBounds_toArray, List.set_cons_zero, List.set_cons_succ]
            refine wpAnyH_take (i := 30) (hi := by simp only [List.getElem?_toArray, List.getElem?_cons_succ, List.getElem?_cons_zero]; rfl) (v := ?_) (by as_aux_lemma => kernel_rfl) (by as_aux_lemma => kernel_rfl) (by as_aux_lemma => kernel_rfl) (fun _ _ _ h => h) (Or.inl ⟨by rfl, ?_⟩) (by assumption) ?_
            rotate_left
            · (intro w hSw; (try dsimp only at hSw); go_simp; first | done | with_reducible rfl)
            try simp only [Act.put, List.setIfInBounds_toArray, List.set_cons_zero, List.set_cons_succ]
            refine wpAnyH_take (i := 31) (hi := by simp only [List.getElem?_toArray, List.getElem?_cons_succ, List.getElem?_cons_zero]; rfl) (v := ?_) (by as_aux_lemma => kernel_rfl) (by as_aux_lemma => kernel_rfl) (by as_aux_lemma => kernel_rfl) (fun _ _ _ h => h) (Or.inl ⟨by rfl, ?_⟩) (by assumption) ?_
            rotate_left
            · (intro w hSw; (try dsimp only at hSw); go_simp; first | done | with_reducible rfl)
            try simp only [Act.put, List.setIfInBounds_toArray, List.set_cons_zero, List.set_cons_succ]
            refine wpAnyH_take (i := 32) (hi := by simp only [List.getElem?_toArray, List.getElem?_cons_succ, List.getElem?_cons_zero]; rfl) (v := ?_) (by as_aux_lemma => kernel_rfl) (by as_aux_lemma => kernel_rfl) (by as_aux_lemma => kernel_rfl) (fun _ _ _ h => h) (Or.inl ⟨by rfl, ?_⟩) (by assumption) ?_
            rotate_left
            · (intro w hSw; (try dsimp only at hSw); (have c0 := HC.out _ hSw); go_simp; first | done | with_reducible rfl)
            try simp only [Act.put, List.setIfInBounds_toArray, List.set_cons_zero, List.set_cons_succ]
            refine wpAnyH_take (i := 33) (hi := by simp only [List.getElem?_toArray, List.getElem?_cons_succ, List.getElem?_cons_zero]; rfl) (v := ?_) (by as_aux_lemma => kernel_rfl) (by as_aux_lemma => kernel_rfl) (by as_aux_lemma => kernel_rfl) (fun _ _ _ h => h) (Or.inl ⟨by rfl, ?_⟩) (by assumption) ?_
            rotate_left
            · (intro w hSw; (try dsimp only at hSw); (have c0 := HC.out _ hSw); go_simp; first | done | with_reducible rfl)
            try simp only [Act.put, List.setIfInBounds_toArray, List.set_cons_zero, List.set_cons_succ]
            refine wpAnyH_take (i := 35) (hi := by simp only [List.getElem?_toArray, List.getElem?_cons_succ, List.getElem?_cons_zero]; rfl) (v := ?_) (by as_aux_lemma => kernel_rfl) (by as_aux_lemma => kernel_rfl) (by as_aux_lemma => kernel_rfl) (fun _ _ _ h => h) (Or.inl ⟨by rfl, ?_⟩) (by assumption) ?_
            rotate_left
            · (intro w hSw; (try dsimp only at hSw); go_simp; first | done | with_reducible rfl)
            try simp only [Act.put, List.setIfInBounds_toArray, List.set_cons_zero, List.set_cons_succ]
            refine wpAnyH_take (i := 36) (hi := by simp only [List.getElem?_toArray, List.getElem?_cons_succ, List.getElem?_cons_zero]; rfl) (v := ?_) (by as_aux_lemma => kernel_rfl) (by as_aux_lemma => kernel_rfl) (by as_aux_lemma => kernel_rfl) (fun _ _ _ h => h) (Or.inl ⟨by rfl, ?_⟩) (by assumption) ?_
            rotate_left
            · (intro w hSw; (try dsimp only at hSw); go_simp; first | done | with_reducible rfl)
            try simp only [Act.put, List.setIfInBounds_toArray, List.set_cons_zero, List.set_cons_succ]
            refine wpAnyH_take (i := 37) (hi := by simp only [List.getElem?_toArray, List.getElem?_cons_succ, List.getElem?_cons_zero]; rfl) (v := ?_) (by as_aux_lemma => kernel_rfl) (by as_aux_lemma => kernel_rfl) (by as_aux_lemma => kernel_rfl) (fun _ _ _ h => h) (Or.inl ⟨by rfl, ?_⟩) (by assumption) ?_
            rotate_left
            · (intro w hSw; (try dsimp only at hSw); go_simp; first | done | with_reducible rfl)
            try simp only [Act.put, List.setIfInBounds_toArray, List.set_cons_zero, List.set_cons_succ]
            refine wpAnyH_take (i := 38) (hi := by simp only [List.getElem?_toArray, List.getElem?_cons_succ, List.getElem?_cons_zero]; rfl) (v := ?_) (by as_aux_lemma => kernel_rfl) (by as_aux_lemma => kernel_rfl) (by as_aux_lemma => kernel_rfl) (fun _ _ _ h => h) (Or.inl ⟨by rfl, ?_⟩) (by assumption) ?_
            rotate_left
            · (intro w hSw; (try dsimp only at hSw); (have c0 := HC.out _ hSw); go_simp; first | done | with_reducible rfl)
            try simp only [Act.put, List.setIfInBounds_toArray, List.set_cons_zero, List.set_cons_succ]
            refine wpAnyH_take (i := 39) (hi := by simp only [List.getElem?_toArray, List.getElem?_cons_succ, List.getElem?_cons_zero]; rfl) (v := ?_) (by as_aux_lemma => kernel_rfl) (by as_aux_lemma => kernel_rfl) (by as_aux_lemma => kernel_rfl) (fun _ _ _ h => h) (Or.inl ⟨by rfl, ?_⟩) (by assumption) ?_
            rotate_left
            · (intro w hSw; (try dsimp only at hSw); (have c0 := HC.out _ hSw); go_simp; first | done | with_reducible rfl)
            try simp only [Act.put, List.setIfInBounds_toArray, List.set_cons_zero, List.set_cons_succ]
            refine wpAnyH_ready (rs := [34]) (by as_aux_lemma => kernel_rfl) (by simp) ?_
            refine AllReadyH.cons (ho := by simp only [List.getElem?_toArray, List.getElem?_cons_succ, List.getElem?_cons_zero]; rfl) (fun K hK => ?_) (AllReadyH.nil)
            go_simp
            go_at_call 13; (with_reducible refine (HC34.out _ hHeld).mono ?_); rintro e w34 ⟨rfl, hb34⟩
            have HB34 : Hid (Below wr.heap.size wr w34) := Kit.hid (hHeld.trans (hb34.mono hHeld.size))
            clear hb34
            go_wp2_with fail
            refine hK.out _ _ ?_ (fun hHeldN => ?_)
            · exact HB34.out
            clear hHeld
            have hHeld := hHeldN
            clear hHeldN
            clear hK K
            try simp only [Act.put, List.setIfInBounds_toArray, List.set_cons_zero, List.set_cons_succ]
            refine wpAnyH_ready (rs := [40]) (by as_aux_lemma => kernel_rfl) (by simp) ?_
            refine AllReadyH.cons (ho := by simp only [List.getElem?_toArray, List.getElem?_cons_succ, List.getElem?_cons_zero]; rfl) (fun K hK => ?_) (AllReadyH.nil)
            go_simp
            go_at_call 25; (with_reducible refine (HC40.out _ hHeld).mono ?_); rintro e w40 ⟨rfl, hb40⟩
            have HB40 : Hid (Below wr.heap.size wr w40) := Kit.hid (hHeld.trans (hb40.mono hHeld.size))
            clear hb40
            go_wp2_with fail
            refine hK.out _ _ ?_ (fun hHeldN => ?_)
            · exact HB40.out
            clear hHeld
            have hHeld := hHeldN
            clear hHeldN
            clear hK K
            try simp only [Act.put, List.setIfInBounds_toArray, List.set_cons_zero, List.set_cons_succ]
            refine wpAnyH_take (i := 41) (hi := by simp only [List.getElem?_toArray, List.getElem?_cons_succ, List.getElem?_cons_zero]; rfl) (v := ?_) (by as_aux_lemma => kernel_rfl) (by as_aux_lemma => kernel_rfl) (by as_aux_lemma => kernel_rfl) (fun _ _ _ h => h) (Or.inl ⟨by rfl, ?_⟩) (by assumption) ?_
            rotate_left
            · (intro w hSw; (try dsimp only at hSw); go_simp; first | done | with_reducible rfl)
            try simp only [Act.put, List.setIfInBounds_toArray, List.set_cons_zero, List.set_cons_succ]
            refine wpAnyH_take (i := 42) (hi := by simp only [List.getElem?_toArray, List.getElem?_cons_succ, List.getElem?_cons_zero]; rfl) (v := ?_) (by as_aux_lemma => kernel_rfl) (by as_aux_lemma => kernel_rfl) (by as_aux_lemma => kernel_rfl) (fun _ _ _ h => h) (Or.inl ⟨by rfl, ?_⟩) (by assumption) ?_
            rotate_left
            · (intro w hSw; (try dsimp only at hSw); go_simp; first | done | with_reducible rfl)
            try simp only [Act.put, List.setIfInBounds_toArray, List.set_cons_zero, List.set_cons_succ]
            refine wpAnyH_take (i := 43) (hi := by simp only [List.getElem?_toArray, List.getElem?_cons_succ, List.getElem?_cons_zero]; rfl) (v := ?_) (by as_aux_lemma => kernel_rfl) (by as_aux_lemma => kernel_rfl) (by as_aux_lemma => kernel_rfl) (fun _ _ _ h => h) (Or.inl ⟨by rfl, ?_⟩) (by assumption) ?_
            rotate_left
            · (intro w hSw; (try dsimp only at hSw); go_simp; first | done | with_reducible rfl)
            try simp only [Act.put, List.setIfInBounds_toArray, List.set_cons_zero, List.set_cons_succ]
            refine wpAnyH_take (i := 44) (hi := by simp only [List.getElem?_toArray, List.getElem?_cons_succ, List.getElem?_cons_zero]; rfl) (v := ?_) (by as_aux_lemma => kernel_rfl) (by as_aux_lemma => kernel_rfl) (by as_aux_lemma => kernel_rfl) (fun _ _ _ h => h) (Or.inl ⟨by rfl, ?_⟩) (by assumption) ?_
            rotate_left
            · (intro w hSw; (try dsimp only at hSw); go_simp; first | done | with_reducible rfl)
            try simp only [Act.put, List.setIfInBounds_toArray, List.set_cons_zero, List.set_cons_succ]
            refine wpAnyH_take (i := 45) (hi := by simp only [List.getElem?_toArray, List.getElem?_cons_succ, List.getElem?_cons_zero]; rfl) (v := ?_) (by as_aux_lemma => kernel_rfl) (by as_aux_lemma => kernel_rfl) (by as_aux_lemma => kernel_rfl) (fun _ _ _ h => h) (Or.inl ⟨by rfl, ?_⟩) (by assumption) ?_
            rotate_left
            · (intro w hSw; (try dsimp only at hSw); go_simp; first | done | with_reducible rfl)
            try simp only [Act.put, List.setIfInBounds_toArray, List.set_cons_zero, List.set_cons_succ]
            refine wpAnyH_take (i := 46) (hi := by simp only [List.getElem?_toArray, List.getElem?_cons_succ, List.getElem?_cons_zero]; rfl) (v := ?_) (by as_aux_lemma => kernel_rfl) (by as_aux_lemma => kernel_rfl) (by as_aux_lemma => kernel_rfl) (fun _ _ _ h => h) (Or.inl ⟨by rfl, ?_⟩) (by assumption) ?_
            rotate_left
            · (intro w hSw; (try dsimp only at hSw); go_simp; first | done | with_reducible rfl)
            try simp only [Act.put, List.setIfInBounds_toArray, List.set_cons_zero, List.set_cons_succ]
            refine wpAnyH_take (i := 47) (hi := by simp only [List.getElem?_toArray, List.getElem?_cons_succ, List.getElem?_cons_zero]; rfl) (v := ?_) (by as_aux_lemma => kernel_rfl) (by as_aux_lemma => kernel_rfl) (by as_aux_lemma => kernel_rfl) (fun _ _ _ h => h) (Or.inl ⟨by rfl, ?_⟩) (by assumption) ?_
            rotate_left
            · (intro w hSw; (try dsimp only at hSw); (have c0 := HC.out _ hSw); go_simp; first | done | with_reducible rfl)
            try simp only [Act.put, List.setIfInBounds_toArray, List.set_cons_zero, List.set_cons_succ]
            refine wpAnyH_take (i := 48) (hi := by simp only [List.getElem?_toArray, List.getElem?_cons_succ, List.getElem?_cons_zero]; rfl) (v := ?_) (by as_aux_lemma => kernel_rfl) (by as_aux_lemma => kernel_rfl) (by as_aux_lemma => kernel_rfl) (fun _ _ _ h => h) (Or.inl ⟨by rfl, ?_⟩) (by assumption) ?_
            rotate_left
            · (intro w hSw; (try dsimp only at hSw); (have c0 := HC.out _ hSw); go_simp; first | done | with_reducible rfl)
            try simp only [Act.put, List.setIfInBounds_toArray, List.set_cons_zero, List.set_cons_succ]
            refine wpAnyH_take (i := 50) (hi := by simp only [List.getElem?_toArray, List.getElem?_cons_succ, List.getElem?_cons_zero]; rfl) (v := ?_) (by as_aux_lemma => kernel_rfl) (by as_aux_lemma => kernel_rfl) (by as_aux_lemma => kernel_rfl) (fun _ _ _ h => h) (Or.inl ⟨by rfl, ?_⟩) (by assumption) ?_
            rotate_left
            · (intro w hSw; (try dsimp only at hSw); go_simp; first | done | with_reducible rfl)
            try simp only [Act.put, List.setIfInBounds_toArray, List.set_cons_zero, List.set_cons_succ]
            refine wpAnyH_take (i := 51) (hi := by simp only [List.getElem?_toArray, List.getElem?_cons_succ, List.getElem?_cons_zero]; rfl) (v := ?_) (by as_aux_lemma => kernel_rfl) (by as_aux_lemma => kernel_rfl) (by as_aux_lemma => kernel_rfl) (fun _ _ _ h => h) (Or.inl ⟨by rfl, ?_⟩) (by assumption) ?_
            rotate_left
            · (intro w hSw; (try dsimp only at hSw); go_simp; first | done | with_reducible rfl)
            try simp only [Act.put, List.setIfInBounds_toArray, List.set_cons_zero, List.set_cons_succ]
            refine wpAnyH_take (i := 52) (hi := by simp only [List.getElem?_toArray, List.getElem?_cons_succ, List.getElem?_cons_zero]; rfl) (v := ?_) (by as_aux_lemma => kernel_rfl) (by as_aux_lemma => kernel_rfl) (by as_aux_lemma => kernel_rfl) (fun _ _ _ h => h) (Or.inl ⟨by rfl, ?_⟩) (by assumption) ?_
            rotate_left
            · (intro w hSw; (try dsimp only at hSw); go_simp; first | done | with_reducible rfl)
            try simp only [Act.put, List.setIfInBounds_toArray, List.set_cons_zero, List.set_cons_succ]
            refine wpAnyH_take (i := 53) (hi := by simp only [List.getElem?_toArray, List.getElem?_cons_succ, List.getElem?_cons_zero]; rfl) (v := ?_) (by as_aux_lemma => kernel_rfl) (by as_aux_lemma => kernel_rfl) (by as_aux_lemma => kernel_rfl) (fun _ _ _ h => h) (Or.inl ⟨by rfl, ?_⟩) (by assumption) ?_
            rotate_left
            · (intro w hSw; (try dsimp only at hSw); (have c0 := HC.out _ hSw); go_simp; first | done | with_reducible rfl)
            try simp only [Act.put, List.setIfInBounds_toArray, List.set_cons_zero, List.set_cons_succ]
            refine wpAnyH_take (i := 54) (hi := by simp only [List.getElem?_toArray, List.getElem?_cons_succ, List.getElem?_cons_zero]; rfl) (v := ?_) (by as_aux_lemma => kernel_rfl) (by as_aux_lemma => kernel_rfl) (by as_aux_lemma => kernel_rfl) (fun _ _ _ h => h) (Or.inl ⟨by rfl, ?_⟩) (by assumption) ?_
            rotate_left
            · (intro w hSw; (try dsimp only at hSw); (have c0 := HC.out _ hSw); go_simp; first | done | with_reducible rfl)
            try simp only [Act.put, List.setIfInBounds_toArray, List.set_cons_zero, List.set_cons_succ]
            refine wpAnyH_ready (rs := [49]) (by as_aux_lemma => kernel_rfl) (by simp) ?_
            refine AllReadyH.cons (ho := by simp only [List.getElem?_toArray, List.getElem?_cons_succ, List.getElem?_cons_zero]; rfl) (fun K hK => ?_) (AllReadyH.nil)
            go_simp
            go_at_call 26; (with_reducible refine (HC49.out _ hHeld).mono ?_); rintro e w49 ⟨A49, c49, rfl, hr49, hb49⟩
            have HB49 : Hid (Below wr.heap.size wr w49) := Kit.hid (hHeld.trans (hb49.mono hHeld.size))
            have HR49 := Kit.hid hr49
            clear hb49 hr49
            go_wp2_with fail
            refine hK.out _ _ ?_ (fun hHeldN => ?_)
            · exact HB49.out
            clear hHeld
            have hHeld := hHeldN
            clear hHeldN
            clear hK K
            try simp only [Act.put, List.setIfInBounds_toArray, List.set_cons_zero, List.set_cons_succ]
            refine wpAnyH_ready (rs := [55]) (by as_aux_lemma => kernel_rfl) (by simp) ?_
            refine AllReadyH.cons (ho := by simp only [List.getElem?_toArray, List.getElem?_cons_succ, List.getElem?_cons_zero]; rfl) (fun K hK => ?_) (AllReadyH.nil)
            go_simp
            go_at_call 27; (with_reducible refine (HC55.out _ hHeld).mono ?_); rintro e w55 ⟨A55, c55, rfl, hr55, hb55⟩
            have HB55 : Hid (Below wr.heap.size wr w55) := Kit.hid (hHeld.trans (hb55.mono hHeld.size))
            have HR55 := Kit.hid hr55
            have HS56 := Kit.hid (HC56.out _ _ _ _ _ (HR49.out.below hb55) hr55)
            clear hb55 hr55
            go_wp2_with fail
            refine hK.out _ _ ?_ (fun hHeldN => ?_)
            · exact HB55.out
            clear hHeld
            have hHeld := hHeldN
            clear hHeldN
            clear hK K
            try simp only [Act.put, List.setIfInBounds_toArray, List.set_cons_zero, List.set_cons_succ]
            refine wpAnyH_ready (rs := [56]) (by as_aux_lemma => kernel_rfl) (by simp) ?_
            refine AllReadyH.cons (ho := by simp only [List.getElem?_toArray, List.getElem?_cons_succ, List.getElem?_cons_zero]; rfl) (fun K hK => ?_) (AllReadyH.nil)
            go_simp
            go_at_call 18; (with_reducible refine HS56.out.mono ?_); rintro e w56 ⟨rfl, hb56⟩
            have HB56 : Hid (Below wr.heap.size wr w56) := Kit.hid (hHeld.trans (hb56.mono hHeld.size))
            clear hb56
            go_wp2_with fail
            refine hK.out _ _ ?_ (fun hHeldN => ?_)
            · exact HB56.out
            clear hHeld
            have hHeld := hHeldN
            clear hHeldN
            clear hK K
            try simp only [Act.put, List.setIfInBounds_toArray, List.set_cons_zero, List.set_cons_succ]
            refine wpAnyH_take (i := 57) (hi := by simp only [List.getElem?_toArray, List.getElem?_cons_succ, List.getElem?_cons_zero]; rfl) (v := ?_) (by as_aux_lemma => kernel_rfl) (by as_aux_lemma => kernel_rfl) (by as_aux_lemma => kernel_rfl) (fun _ _ _ h => h) (Or.inl ⟨by rfl, ?_⟩) (by assumption) ?_
            rotate_left
            · (intro w hSw; (try dsimp only at hSw); go_simp; first | done | with_reducible rfl)
            try simp only [Act.put, List.setIfInBounds_toArray, List.set_cons_zero, List.set_cons_succ]
            refine wpAnyH_take (i := 58) (hi := by simp only [List.getElem?_toArray, List.getElem?_cons_succ, List.getElem?_cons_zero]; rfl) (v := ?_) (by as_aux_lemma => kernel_rfl) (by as_aux_lemma => kernel_rfl) (by as_aux_lemma => kernel_rfl) (fun _ _ _ h => h) (Or.inl ⟨by rfl, ?_⟩) (by assumption) ?_
            rotate_left
            · (intro w hSw; (try dsimp only at hSw); go_simp; first | done | with_reducible rfl)
            try simp only [Act.put, List.setIfInBounds_toArray, List.set_cons_zero, List.set_cons_succ]
            refine wpAnyH_take (i := 59) (hi := by simp only [List.getElem?_toArray, List.getElem?_cons_succ, List.getElem?_cons_zero]; rfl) (v := ?_) (by as_aux_lemma => kernel_rfl) (by as_aux_lemma => kernel_rfl) (by as_aux_lemma => kernel_rfl) (fun _ _ _ h => h) (Or.inl ⟨by rfl, ?_⟩) (by assumption) ?_
            rotate_left
            · (intro w hSw; (try dsimp only at hSw); go_simp; first | done | with_reducible rfl)
            try simp only [Act.put, List.setIfInBounds_toArray, List.set_cons_zero, List.set_cons_succ]
            refine wpAnyH_take (i := 60) (hi := by simp only [List.getElem?_toArray, List.getElem?_cons_succ, List.getElem?_cons_zero]; rfl) (v := ?_) (by as_aux_lemma => kernel_rfl) (by as_aux_lemma => kernel_rfl) (by as_aux_lemma => kernel_rfl) (fun _ _ _ h => h) (Or.inl ⟨by rfl, ?_⟩) (by assumption) ?_
            rotate_left
            · (intro w hSw; (try dsimp only at hSw); go_simp; first | done | with_reducible rfl)
            try simp only [Act.put, List.setIfInBounds_toArray, List.set_cons_zero, List.set_cons_succ]
            refine wpAnyH_take (i := 61) (hi := by simp only [List.getElem?_toArray, List.getElem?_cons_succ, List.getElem?_cons_zero]; rfl) (v := ?_) (by as_aux_lemma => kernel_rfl) (by as_aux_lemma => kernel_rfl) (by as_aux_lemma => kernel_rfl) (fun _ _ _ h => h) (Or.inl ⟨by rfl, ?_⟩) (by assumption) ?_
            rotate_left
            · (intro w hSw; (try dsimp only at hSw); go_simp; first | done | with_reducible rfl)
            try simp only [Act.put, List.setIfInBounds_toArray, List.set_cons_zero, List.set_cons_succ]
            refine wpAnyH_take (i := 62) (hi := by simp only [List.getElem?_toArray, List.getElem?_cons_succ, List.getElem?_cons_zero]; rfl) (v := ?_) (by as_aux_lemma => kernel_rfl) (by as_aux_lemma => kernel_rfl) (by as_aux_lemma => kernel_rfl) (fun _ _ _ h => h) (Or.inl ⟨by rfl, ?_⟩) (by assumption) ?_
            rotate_left
            · (intro w hSw; (try dsimp only at hSw); go_simp; first | done | with_reducible rfl)
            try simp only [Act.put, List.setIfInBounds_toArray, List.set_cons_zero, List.set_cons_succ]
            refine wpAnyH_take (i := 63) (hi := by simp only [List.getElem?_toArray, List.getElem?_cons_succ, List.getElem?_cons_zero]; rfl) (v := ?_) (by as_aux_lemma => kernel_rfl) (by as_aux_lemma => kernel_rfl) (by as_aux_lemma => kernel_rfl) (fun _ _ _ h => h) (Or.inl ⟨by rfl, ?_⟩) (by assumption) ?_
            rotate_left
            · (intro w hSw; (try dsimp only at hSw); (have c0 := HC.out _ hSw); go_simp; first | done | with_reducible rfl)
            try simp only [Act.put, List.setIfInBounds_toArray, List.set_cons_zero, List.set_cons_succ]
            refine wpAnyH_take (i := 64) (hi := by simp only [List.getElem?_toArray, List.getElem?_cons_succ, List.getElem?_cons_zero]; rfl) (v := ?_) (by as_aux_lemma => kernel_rfl) (by as_aux_lemma => kernel_rfl) (by as_aux_lemma => kernel_rfl) (fun _ _ _ h => h) (Or.inl ⟨by rfl, ?_⟩) (by assumption) ?_
            rotate_left
            · (intro w hSw; (try dsimp only at hSw); (have c0 := HC.out _ hSw); go_simp; first | done | with_reducible rfl)
            try simp only [Act.put, List.setIfInBounds_toArray, List.set_cons_zero, List.set_cons_succ]
            refine wpAnyH_take (i := 66) (hi := by simp only [List.getElem?_toArray, List.getElem?_cons_succ, List.getElem?_cons_zero]; rfl) (v := ?_) (by as_aux_lemma => kernel_rfl) (by as_aux_lemma => kernel_rfl) (by as_aux_lemma => kernel_rfl) (fun _ _ _ h => h) (Or.inl ⟨by rfl, ?_⟩) (by assumption) ?_
            rotate_left
            · (intro w hSw; (try dsimp only at hSw); go_simp; first | done | with_reducible rfl)
            try simp only [Act.put, List.setIfInBounds_toArray, List.set_cons_zero, List.set_cons_succ]
            refine wpAnyH_take (i := 67) (hi := by simp only [List.getElem?_toArray, List.getElem?_cons_succ, List.getElem?_cons_zero]; rfl) (v := ?_) (by as_aux_lemma => kernel_rfl) (by as_aux_lemma => kernel_rfl) (by as_aux_lemma => kernel_rfl) (fun _ _ _ h => h) (Or.inl ⟨by rfl, ?_⟩) (by assumption) ?_
            rotate_left
            · (intro w hSw; (try dsimp only at hSw); go_simp; first | done | with_reducible rfl)
            try simp only [Act.put, List.setIfInBounds_toArray, List.set_cons_zero, List.set_cons_succ]
            refine wpAnyH_take (i := 68) (hi := by simp only [List.getElem?_toArray, List.getElem?_cons_succ, List.getElem?_cons_zero]; rfl) (v := ?_) (by as_aux_lemma => kernel_rfl) (by as_aux_lemma => kernel_rfl) (by as_aux_lemma => kernel_rfl) (fun _ _ _ h => h) (Or.inl ⟨by rfl, ?_⟩) (by assumption) ?_
            rotate_left
            · (intro w hSw; (try dsimp only at hSw); go_simp; first | done | with_reducible rfl)
            try simp only [Act.put, List.setIfInBounds_toArray, List.set_cons_zero, List.set_cons_succ]
            refine wpAnyH_take (i := 69) (hi := by simp only [List.getElem?_toArray, List.getElem?_cons_succ, List.getElem?_cons_zero]; rfl) (v := ?_) (by as_aux_lemma => kernel_rfl) (by as_aux_lemma => kernel_rfl) (by as_aux_lemma => kernel_rfl) (fun _ _ _ h => h) (Or.inl ⟨by rfl, ?_⟩) (by assumption) ?_
            rotate_left
            · (intro w hSw; (try dsimp only at hSw); (have c0 := HC.out _ hSw); go_simp; first | done | with_reducible rfl)
            try simp only [Act.put, List.setIfInBounds_toArray, List.set_cons_zero, List.set_cons_succ]
            refine wpAnyH_take (i := 70) (hi := by simp only [List.getElem?_toArray, List.getElem?_cons_succ, List.getElem?_cons_zero]; rfl) (v := ?_) (by as_aux_lemma => kernel_rfl) (by as_aux_lemma => kernel_rfl) (by as_aux_lemma => kernel_rfl) (fun _ _ _ h => h) (Or.inl ⟨by rfl, ?_⟩) (by assumption) ?_
            rotate_left
            · (intro w hSw; (try dsimp only at hSw); (have c0 := HC.out _ hSw); go_simp; first | done | with_reducible rfl)
            try simp only [Act.put, List.setIfInBounds_toArray, List.set_cons_zero, List.set_cons_succ]
            refine wpAnyH_ready (rs := [65]) (by as_aux_lemma => kernel_rfl) (by simp) ?_
            refine AllReadyH.cons (ho := by simp only [List.getElem?_toArray, List.getElem?_cons_succ, List.getElem?_cons_zero]; rfl) (fun K hK => ?_) (AllReadyH.nil)
            go_simp
            go_at_call 28; (with_reducible refine (HC65.out _ hHeld).mono ?_); rintro e w65 ⟨A65, c65, rfl, hr65, hb65⟩
            have HB65 : Hid (Below wr.heap.size wr w65) := Kit.hid (hHeld.trans (hb65.mono hHeld.size))
            have HR65 := Kit.hid hr65
            clear hb65 hr65
            go_wp2_with fail
            refine hK.out _ _ ?_ (fun hHeldN => ?_)
            · exact HB65.out
            clear hHeld
            have hHeld := hHeldN
            clear hHeldN
            clear hK K
            try simp only [Act.put, List.setIfInBounds_toArray, List.set_cons_zero, List.set_cons_succ]
            refine wpAnyH_ready (rs := [71]) (by as_aux_lemma => kernel_rfl) (by simp) ?_
            refine AllReadyH.cons (ho := by simp only [List.getElem?_toArray, List.getElem?_cons_succ, List.getElem?_cons_zero]; rfl) (fun K hK => ?_) (AllReadyH.nil)
            go_simp
            go_at_call 29; (with_reducible refine (HC71.out _ hHeld).mono ?_); rintro e w71 ⟨A71, c71, rfl, hr71, hb71⟩
            have HB71 : Hid (Below wr.heap.size wr w71) := Kit.hid (hHeld.trans (hb71.mono hHeld.size))
            have HR71 := Kit.hid hr71
            have HS72 := Kit.hid (HC72.out _ _ _ _ _ (HR65.out.below hb71) hr71)
            clear hb71 hr71
            go_wp2_with fail
            refine hK.out _ _ ?_ (fun hHeldN => ?_)
            · exact HB71.out
            clear hHeld
            have hHeld := hHeldN
            clear hHeldN
            clear hK K
            try simp only [Act.put, List.setIfInBounds_toArray, List.set_cons_zero, List.set_cons_succ]
            refine wpAnyH_ready (rs := [72]) (by as_aux_lemma => kernel_rfl) (by simp) ?_
            refine AllReadyH.cons (ho := by simp only [List.getElem?_toArray, List.getElem?_cons_succ, List.getElem?_cons_zero]; rfl) (fun K hK => ?_) (AllReadyH.nil)
            go_simp
            go_at_call 18; (with_reducible refine HS72.out.mono ?_); rintro e w72 ⟨rfl, hb72⟩
            have HB72 : Hid (Below wr.heap.size wr w72) := Kit.hid (hHeld.trans (hb72.mono hHeld.size))
            clear hb72
            go_wp2_with fail
            refine hK.out _ _ ?_ (fun hHeldN => ?_)
            · exact HB72.out
            clear hHeld
            have hHeld := hHeldN
            clear hHeldN
            clear hK K
            try simp only [Act.put, List.setIfInBounds_toArray, List.set_cons_zero, List.set_cons_succ]
            refine wpAnyH_take (i := 73) (hi := by simp only [List.getElem?_toArray, List.getElem?_cons_succ, List.getElem?_cons_zero]; rfl) (v := ?_) (by as_aux_lemma => kernel_rfl) (by as_aux_lemma => kernel_rfl) (by as_aux_lemma => kernel_rfl) (fun _ _ _ h => h) (Or.inl ⟨by rfl, ?_⟩) (by assumption) ?_
            rotate_left
            · (intro w hSw; (try dsimp only at hSw); go_simp; first | done | with_reducible rfl)
            try simp only [Act.put, List.setIfInBounds_toArray, List.set_cons_zero, List.set_cons_succ]
            refine wpAnyH_take (i := 74) (hi := by simp only [List.getElem?_toArray, List.getElem?_cons_succ, List.getElem?_cons_zero]; rfl) (v := ?_) (by as_aux_lemma => kernel_rfl) (by as_aux_lemma => kernel_rfl) (by as_aux_lemma => kernel_rfl) (fun _ _ _ h => h) (Or.inl ⟨by rfl, ?_⟩) (by assumption) ?_
            rotate_left
            · (intro w hSw; (try dsimp only at hSw); go_simp; first | done | with_reducible rfl)
            try simp only [Act.put, List.setIfInBounds_toArray, List.set_cons_zero, List.set_cons_succ]
            refine wpAnyH_take (i := 75) (hi := by simp only [List.getElem?_toArray, List.getElem?_cons_succ, List.getElem?_cons_zero]; rfl) (v := ?_) (by as_aux_lemma => kernel_rfl) (by as_aux_lemma => kernel_rfl) (by as_aux_lemma => kernel_rfl) (fun _ _ _ h => h) (Or.inl ⟨by rfl, ?_⟩) (by assumption) ?_
            rotate_left
            · (intro w hSw; (try dsimp only at hSw); go_simp; first | done | with_reducible rfl)
            try simp only [Act.put, List.setIfInBounds_toArray, List.set_cons_zero, List.set_cons_succ]
            refine wpAnyH_take (i := 76) (hi := by simp only [List.getElem?_toArray, List.getElem?_cons_succ, List.getElem?_cons_zero]; rfl) (v := ?_) (by as_aux_lemma => kernel_rfl) (by as_aux_lemma => kernel_rfl) (by as_aux_lemma => kernel_rfl) (fun _ _ _ h => h) (Or.inl ⟨by rfl, ?_⟩) (by assumption) ?_
            rotate_left
            · (intro w hSw; (try dsimp only at hSw); go_simp; first | done | with_reducible rfl)
            try simp only [Act.put, List.setIfInBounds_toArray, List.set_cons_zero, List.set_cons_succ]
            refine wpAnyH_take (i := 77) (hi := by simp only [List.getElem?_toArray, List.getElem?_cons_succ, List.getElem?_cons_zero]; rfl) (v := ?_) (by as_aux_lemma => kernel_rfl) (by as_aux_lemma => kernel_rfl) (by as_aux_lemma => kernel_rfl) (fun _ _ _ h => h) (Or.inl ⟨by rfl, ?_⟩) (by assumption) ?_
            rotate_left
            · (intro w hSw; (try dsimp only at hSw); go_simp; first | done | with_reducible rfl)
            try simp only [Act.put, List.setIfInBounds_toArray, List.set_cons_zero, List.set_cons_succ]
            refine wpAnyH_take (i := 78) (hi := by simp only [List.getElem?_toArray, List.getElem?_cons_succ, List.getElem?_cons_zero]; rfl) (v := ?_) (by as_aux_lemma => kernel_rfl) (by as_aux_lemma => kernel_rfl) (by as_aux_lemma => kernel_rfl) (fun _ _ _ h => h) (Or.inl ⟨by rfl, ?_⟩) (by assumption) ?_
            rotate_left
            · (intro w hSw; (try dsimp only at hSw); go_simp; first | done | with_reducible rfl)
            try simp only [Act.put, List.setIfInBounds_toArray, List.set_cons_zero, List.set_cons_succ]
            refine wpAnyH_take (i := 79) (hi := by simp only [List.getElem?_toArray, List.getElem?_cons_succ, List.getElem?_cons_zero]; rfl) (v := ?_) (by as_aux_lemma => kernel_rfl) (by as_aux_lemma => kernel_rfl) (by as_aux_lemma => kernel_rfl) (fun _ _ _ h => h) (Or.inl ⟨by rfl, ?_⟩) (by assumption) ?_
            rotate_left
            · (intro w hSw; (try dsimp only at hSw); (have c0 := HC.out _ hSw); go_simp; first | done | with_reducible rfl)
            try simp only [Act.put, List.setIfInBounds_toArray, List.set_cons_zero, List.set_cons_succ]
            refine wpAnyH_take (i := 80) (hi := by simp only [List.getElem?_toArray, List.getElem?_cons_succ, List.getElem?_cons_zero]; rfl) (v := ?_) (by as_aux_lemma => kernel_rfl) (by as_aux_lemma => kernel_rfl) (by as_aux_lemma => kernel_rfl) (fun _ _ _ h => h) (Or.inl ⟨by rfl, ?_⟩) (by assumption) ?_
            rotate_left
            · (intro w hSw; (try dsimp only at hSw); (have c0 := HC.out _ hSw); go_simp; first | done | with_reducible rfl)
            try simp only [Act.put, List.setIfInBounds_toArray, List.set_cons_zero, List.set_cons_succ]
            refine wpAnyH_take (i := 82) (hi := by simp only [List.getElem?_toArray, List.getElem?_cons_succ, List.getElem?_cons_zero]; rfl) (v := ?_) (by as_aux_lemma => kernel_rfl) (by as_aux_lemma => kernel_rfl) (by as_aux_lemma => kernel_rfl) (fun _ _ _ h => h) (Or.inl ⟨by rfl, ?_⟩) (by assumption) ?_
            rotate_left
            · (intro w hSw; (try dsimp only at hSw); go_simp; first | done | with_reducible rfl)
            try simp only [Act.put, List.setIfInBounds_toArray, List.set_cons_zero, List.set_cons_succ]
            refine wpAnyH_take (i := 83) (hi := by simp only [List.getElem?_toArray, List.getElem?_cons_succ, List.getElem?_cons_zero]; rfl) (v := ?_) (by as_aux_lemma => kernel_rfl) (by as_aux_lemma => kernel_rfl) (by as_aux_lemma => kernel_rfl) (fun _ _ _ h => h) (Or.inl ⟨by rfl, ?_⟩) (by assumption) ?_
            rotate_left
            · (intro w hSw; (try dsimp only at hSw); go_simp; first | done | with_reducible rfl)
            try simp only [Act.put, List.setIfInBounds_toArray, List.set_cons_zero, List.set_cons_succ]
            refine wpAnyH_take (i := 84) (hi := by simp only [List.getElem?_toArray, List.getElem?_cons_succ, List.getElem?_cons_zero]; rfl) (v := ?_) (by as_aux_lemma => kernel_rfl) (by as_aux_lemma => kernel_rfl) (by as_aux_lemma => kernel_rfl) (fun _ _ _ h => h) (Or.inl ⟨by rfl, ?_⟩) (by assumption) ?_
            rotate_left
            · (intro w hSw; (try dsimp only at hSw); go_simp; first | done | with_reducible rfl)
            try simp only [Act.put, List.setIfInBounds_toArray, List.set_cons_zero, List.set_cons_succ]
            refine wpAnyH_take (i := 85) (hi := by simp only [List.getElem?_toArray, List.getElem?_cons_succ, List.getElem?_cons_zero]; rfl) (v := ?_) (by as_aux_lemma => kernel_rfl) (by as_aux_lemma => kernel_rfl) (by as_aux_lemma => kernel_rfl) (fun _ _ _ h => h) (Or.inl ⟨by rfl, ?_⟩) (by assumption) ?_
            rotate_left
            · (intro w hSw; (try dsimp only at hSw); (have c0 := HC.out _ hSw); go_simp; first | done | with_reducible rfl)
            try simp only [Act.put, List.setIfInBounds_toArray, List.set_cons_zero, List.set_cons_succ]
            refine wpAnyH_take (i := 86) (hi := by simp only [List.getElem?_toArray, List.getElem?_cons_succ, List.getElem?_cons_zero]; rfl) (v := ?_) (by as_aux_lemma => kernel_rfl) (by as_aux_lemma => kernel_rfl) (by as_aux_lemma => kernel_rfl) (fun _ _ _ h => h) (Or.inl ⟨by rfl, ?_⟩) (by assumption) ?_
            rotate_left
            · (intro w hSw; (try dsimp only at hSw); (have c0 := HC.out _ hSw); go_simp; first | done | with_reducible rfl)
            try simp only [Act.put, List.setIfInBounds_toArray, List.set_cons_zero, List.set_cons_succ]
            refine wpAnyH_ready (rs := [81]) (by as_aux_lemma => kernel_rfl) (by simp) ?_
            refine AllReadyH.cons (ho := by simp only [List.getElem?_toArray, List.getElem?_cons_succ, List.getElem?_cons_zero]; rfl) (fun K hK => ?_) (AllReadyH.nil)
            go_simp
            go_at_call 19; (with_reducible refine (HC81.out _ hHeld).mono ?_); rintro e w81 ⟨A81, c81, rfl, hr81, hb81⟩
            have HB81 : Hid (Below wr.heap.size wr w81) := Kit.hid (hHeld.trans (hb81.mono hHeld.size))
            have HR81 := Kit.hid hr81
            clear hb81 hr81
            go_wp2_with fail
            refine hK.out _ _ ?_ (fun hHeldN => ?_)
            · exact HB81.out
            clear hHeld
            have hHeld := hHeldN
            clear hHeldN
            clear hK K
            try simp only [Act.put, List.setIfInBounds_toArray, List.set_cons_zero, List.set_cons_succ]
            refine wpAnyH_ready (rs := [87]) (by as_aux_lemma => kernel_rfl) (by simp) ?_
            refine AllReadyH.cons (ho := by simp only [List.getElem?_toArray, List.getElem?_cons_succ, List.getElem?_cons_zero]; rfl) (fun K hK => ?_) (AllReadyH.nil)
            go_simp
            go_at_call 20; (with_reducible refine (HC87.out _ hHeld).mono ?_); rintro e w87 ⟨A87, c87, rfl, hr87, hb87⟩
            have HB87 : Hid (Below wr.heap.size wr w87) := Kit.hid (hHeld.trans (hb87.mono hHeld.size))
            have HR87 := Kit.hid hr87
            have HS88 := Kit.hid (HC88.out _ _ _ _ _ (HR81.out.below hb87) hr87)
            clear hb87 hr87
            go_wp2_with fail
            refine hK.out _ _ ?_ (fun hHeldN => ?_)
            · exact HB87.out
            clear hHeld
            have hHeld := hHeldN
            clear hHeldN
            clear hK K
            try simp only [Act.put, List.setIfInBounds_toArray, List.set_cons_zero, List.set_cons_succ]
            refine wpAnyH_ready (rs := [88]) (by as_aux_lemma => kernel_rfl) (by simp) ?_
            refine AllReadyH.cons (ho := by simp only [List.getElem?_toArray, List.getElem?_cons_succ, List.getElem?_cons_zero]; rfl) (fun K hK => ?_) (AllReadyH.nil)
            go_simp
            go_at_call 18; (with_reducible refine HS88.out.mono ?_); rintro e w88 ⟨rfl, hb88⟩
            have HB88 : Hid (Below wr.heap.size wr w88) := Kit.hid (hHeld.trans (hb88.mono hHeld.size))
            clear hb88
            go_wp2_with fail
            refine hK.out _ _ ?_ (fun hHeldN => ?_)
            · exact HB88.out
            clear hHeld
            have hHeld := hHeldN
            clear hHeldN
            clear hK K
            try simp only [Act.put, List.setIfInBounds_toArray, List.set_cons_zero, List.set_cons_succ]
            refine wpAnyH_take (i := 89) (hi := by simp only [List.getElem?_toArray, List.getElem?_cons_succ, List.getElem?_cons_zero]; rfl) (v := ?_) (by as_aux_lemma => kernel_rfl) (by as_aux_lemma => kernel_rfl) (by as_aux_lemma => kernel_rfl) (fun _ _ _ h => h) (Or.inl ⟨by rfl, ?_⟩) (by assumption) ?_
            rotate_left
            · (intro w hSw; (try dsimp only at hSw); go_simp; first | done | with_reducible rfl)
            try simp only [Act.put, List.setIfInBounds_toArray, List.set_cons_zero, List.set_cons_succ]
            refine wpAnyH_take (i := 90) (hi := by simp only [List.getElem?_toArray, List.getElem?_cons_succ, List.getElem?_cons_zero]; rfl) (v := ?_) (by as_aux_lemma => kernel_rfl) (by as_aux_lemma => kernel_rfl) (by as_aux_lemma => kernel_rfl) (fun _ _ _ h => h) (Or.inl ⟨by rfl, ?_⟩) (by assumption) ?_
            rotate_left
            · (intro w hSw; (try dsimp only at hSw); go_simp; first | done | with_reducible rfl)
            try simp only [Act.put, List.setIfInBounds_toArray, List.set_cons_zero, List.set_cons_succ]
            clear hHeld
            refine wpAnyH_done (by as_aux_lemma => kernel_rfl) ?_ _
            refine NoPanic.normal ?_
            skip
            have HDE := Kit.hid (HD.out.below HB88.out)
            have HXE := Kit.hid (HX.out.below HB88.out)
            clear HD HX
            go_wp2_with fail
            go_roundw
            case rel => exact ⟨k + 1, by omega, by go_num, HDE, HXE⟩
            case measure => simp [intOf]; omega
          · obtain rfl : k = 3 := by omega
            have HR2 : Hid (Duo w1 wr p mb (walkedK (l.take (i + 1))) (3 * (i + 1) + 1) q l' (walkedK (l.take (i + 1))) (i + 1)) := Kit.hid (by rw [HW.out]; exact HD.out)
            go_wp2
            go_roundw
            case rel => exact ⟨i + 1, l', by omega, by go_num, HR2⟩
            case measure => simp [intOf]; omega
    · obtain rfl : i = l.length := by omega
      go_wp2
      go_ret
      exact ⟨rfl, HB1.out.trans (HD.out.1.2.2.2.mono HB1.out.size)⟩
end Go.Proofs.Ytkhoiiinifdhcaa.Ki
