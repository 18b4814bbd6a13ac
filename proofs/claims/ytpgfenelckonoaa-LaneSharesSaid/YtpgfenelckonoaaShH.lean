/- The walk of find. -/
import Derived.Test.YtpgfenelckonoaaShG
import Derived.Test.YtpgfenelckonoaaShN
import Derived.Test.YtpgfenelckonoaaShI
namespace Go.Proofs.Ytpgfenelckonoaa.Sh
open Go.RowKit Go.Proofs.Ytpgfenelckonoaa.Kit Go.Proofs.Ytpgfenelckonoaa.ShM
set_option linter.unusedVariables false
set_option linter.unusedSimpArgs false
section
variable {w0 : World} {S0 : Nat → Prop} {p gl cl : Nat} {vf : Value} {L : List Nd} {top : Nat} {F : List Nat}
theorem list_lits (l : List Value) (n : Nat) (h : l.length = n) : l = (List.range n).map fun i => l.getD i undef := by
  refine List.ext_getElem (by simp [h]) fun i h1 h2 => ?_
  simp [h1]
theorem lits86 (f : Nat → Value) : (List.range 86).map f = f 0 :: f 1 :: f 2 :: f 3 :: f 4 :: f 5 :: f 6 :: f 7 :: f 8 :: f 9 :: f 10 :: f 11 :: f 12 :: f 13 :: f 14 :: f 15 :: f 16 :: f 17 :: f 18 :: f 19 :: f 20 :: f 21 :: f 22 :: f 23 :: f 24 :: f 25 :: f 26 :: f 27 :: f 28 :: f 29 :: f 30 :: f 31 :: f 32 :: f 33 :: f 34 :: f 35 :: f 36 :: f 37 :: f 38 :: f 39 :: f 40 :: f 41 :: f 42 :: f 43 :: f 44 :: f 45 :: f 46 :: f 47 :: f 48 :: f 49 :: f 50 :: f 51 :: f 52 :: f 53 :: f 54 :: f 55 :: f 56 :: f 57 :: f 58 :: f 59 :: f 60 :: f 61 :: f 62 :: f 63 :: f 64 :: f 65 :: f 66 :: f 67 :: f 68 :: f 69 :: f 70 :: f 71 :: f 72 :: f 73 :: f 74 :: f 75 :: f 76 :: f 77 :: f 78 :: f 79 :: f 80 :: f 81 :: f 82 :: f 83 :: f 84 :: f 85 :: [] := rfl
/-- What holds at the label: in which tree the search is, and how many are known to be less. -/
def FindJ (x : It) (t : T) (p xb : Nat) (wb : World) (a' : Act) (wr : World) : Prop :=
  ∃ (s : T) (rk : Nat), a'.tmps.size = 86 ∧ a'.defers = [] ∧ a'.tmps.getD 0 undef = .pointer (some ⟨p, 0, none⟩) ∧ a'.tmps.getD 1 undef = .agg #[.int .i64 x.key, .int .i64 x.id] ∧ a'.tmps.getD 3 undef = .pointer (some ⟨xb, 0, none⟩) ∧ a'.tmps.getD 4 undef = .int .i64 (s.root : Int) ∧ a'.tmps.getD 5 undef = .int .i64 (rk : Int) ∧ Hid (Sub s t) ∧ Hid (findT x s rk = findT x t 0) ∧ rk + s.many ≤ t.many ∧ Hid (Below wb.heap.size wb wr)
theorem FindJ.open {x : It} {t : T} {p xb : Nat} {wb : World} {a' : Act} {wr : World} (h : FindJ x t p xb wb a' wr) :
    ∃ (s : T) (rk : Nat) (u : Nat → Value), a' = { tmps := (.pointer (some ⟨p, 0, none⟩) :: .agg #[.int .i64 x.key, .int .i64 x.id] :: u 2 :: .pointer (some ⟨xb, 0, none⟩) :: .int .i64 (s.root : Int) :: .int .i64 (rk : Int) :: u 6 :: u 7 :: u 8 :: u 9 :: u 10 :: u 11 :: u 12 :: u 13 :: u 14 :: u 15 :: u 16 :: u 17 :: u 18 :: u 19 :: u 20 :: u 21 :: u 22 :: u 23 :: u 24 :: u 25 :: u 26 :: u 27 :: u 28 :: u 29 :: u 30 :: u 31 :: u 32 :: u 33 :: u 34 :: u 35 :: u 36 :: u 37 :: u 38 :: u 39 :: u 40 :: u 41 :: u 42 :: u 43 :: u 44 :: u 45 :: u 46 :: u 47 :: u 48 :: u 49 :: u 50 :: u 51 :: u 52 :: u 53 :: u 54 :: u 55 :: u 56 :: u 57 :: u 58 :: u 59 :: u 60 :: u 61 :: u 62 :: u 63 :: u 64 :: u 65 :: u 66 :: u 67 :: u 68 :: u 69 :: u 70 :: u 71 :: u 72 :: u 73 :: u 74 :: u 75 :: u 76 :: u 77 :: u 78 :: u 79 :: u 80 :: u 81 :: u 82 :: u 83 :: u 84 :: u 85 :: []).toArray, defers := [] } ∧ Hid (Sub s t) ∧ Hid (findT x s rk = findT x t 0) ∧ rk + s.many ≤ t.many ∧ Hid (Below wb.heap.size wb wr) := by
  obtain ⟨s, rk, hs, hd, h0, h1, h3, h4, h5, rest⟩ := h
  obtain ⟨⟨l⟩, df⟩ := a'
  cases hd
  have e := (list_lits l 86 hs).trans (lits86 _)
  have g : ∀ i, l.getD i undef = (Array.mk l).getD i undef := fun i => by by_cases h : i < l.length <;> simp [Array.getD, h]
  rw [g 0, h0, g 1, h1, g 3, h3, g 4, h4, g 5, h5] at e
  exact ⟨s, rk, fun i => l.getD i undef, congrArg (fun x => (⟨Array.mk x, []⟩ : Act)) e, rest⟩
set_option maxRecDepth 100000 in
set_option maxHeartbeats 1600000 in
theorem find_any (x : It) (t : T) (w : World) (h : Sh w0 S0 w p gl cl vf L t.root F) (hz : L[0]? = some zeroN) (hlen : L.length ≤ 1099511627776) (ft : Fit L t) :
    Calls Try.prog 83 #[.pointer (some ⟨p, 0, none⟩), .agg #[.int .i64 x.key, .int .i64 x.id]] w fun e w' => e = .returned (.tuple #[.int .i64 ((findT x t 0).1 : Int), .int .i64 ((findT x t 0).2 : Int)]) ∧ Below w.heap.size w w' := by
  have hml := ft.many_lt
  obtain ⟨wb, hwb⟩ : ∃ wb, wb = w.alloc (.cells #[.int .i64 x.key, .int .i64 x.id] 107) := ⟨_, rfl⟩
  obtain ⟨xb, hxb⟩ : ∃ xb, xb = w.heap.size := ⟨_, rfl⟩
  have HSB : Hid (Sh w0 S0 wb p gl cl vf L t.root F) := Kit.hid (by rw [hwb]; exact h.alloc _)
  have HXB : Hid (wb.heap[xb]? = some (.cells #[.int .i64 x.key, .int .i64 x.id] 107 (0, 0))) := Kit.hid (by rw [hwb, hxb]; exact blk_new _ _)
  have HWB := Kit.hid hwb
  have HXN := Kit.hid hxb
  have HBB : Hid (Below w.heap.size w wb) := Kit.hid (by rw [hwb]; exact (Below.refl _ _).alloc (Nat.le_refl _) _)
  have HFT := Kit.hid ft
  have HZ := Kit.hid hz
  obtain ⟨p0, p1, p2, _, _, _⟩ := h.pcells
  have hp := h.plt
  clear h hz ft hwb hxb
  go_enter Try.func83, Try.ntmps83
  go_wp2
  rw [← HWB.out, ← HXN.out]
  refine scope_label 0 (FindJ x t p xb wb) (fun a' _ => t.big (intOf (a'.tmps.getD 4 undef)).toNat) rfl ?_ ?_
  · rintro a' wr hJ
    obtain ⟨s, rk, u, rfl, hsub, hfi, hrk, hb⟩ := hJ.open
    clear hJ
    have hfit := hsub.out.fit HFT.out
    have hr := HSB.out.below hb.out
    have hx := blk_below HXB.out hb.out
    obtain ⟨p0, p1, p2, _, _, _⟩ := hr.pcells
    have x0 := blk_cell hx 0
    have x1 := blk_cell hx 1
    have hg := hr.glt
    have hp := hr.plt
    cases s with
    | nil =>
      have g0 : (((T.nil.root : Nat) : Int) == 0) = true := rfl
      obtain ⟨a0, a1, a2, a3, a4, a5⟩ := hr.ncells HZ.out
      have hlt := (List.getElem?_eq_some_iff.1 HZ.out).1
      replace a2 : wr.cell? ⟨gl, 2, none⟩ = some (.int .i64 0) := a2
      replace a4 : wr.cell? ⟨gl, 4, none⟩ = some (.int .i64 0) := a4
      have y1 : (0 : Int) < (L.length : Int) := by omega
      have y2 : 0 < L.length := by omega
      have r0 : ((T.nil.root : Nat) : Int) = 0 := rfl
      rw [r0] at g0 ⊢
      have hrk2 : (rk : Int) ≤ 1099511627776 := by omega
      have HR := Kit.hid hrk
      clear hrk hr hx hfit hlt a0 a1 a3 a5 r0
      go_wp2
      go_quiet (fail)
      go_wp2
      go_quiet (fail)
      go_wp2
      simp only [Exit.jump]
      go_ret2
      have hf1 : findT x t 0 = (0, rk) := hfi.out.symm
      refine ⟨by rw [hf1]; rfl, ?_⟩
      exact below_drewN (HBB.out.trans (hb.out.mono HBB.out.size)) _
    | node k y l r =>
      have HN := Kit.hid hfit.holds.node
      obtain ⟨a0, a1, a2, a3, a4, a5⟩ := hr.ncells HN.out
      replace a0 : wr.cell? ⟨gl, k * 6, none⟩ = some (.int .i64 y.key) := a0
      replace a1 : wr.cell? ⟨gl, k * 6 + 1, none⟩ = some (.int .i64 y.id) := a1
      replace a2 : wr.cell? ⟨gl, k * 6 + 2, none⟩ = some (.int .i64 (l.root : Int)) := a2
      replace a3 : wr.cell? ⟨gl, k * 6 + 3, none⟩ = some (.int .i64 (r.root : Int)) := a3
      clear a4 a5
      obtain ⟨nl, hnl, hnl2, _⟩ := hfit.left.holds.top HZ.out
      obtain ⟨b0, b1, b2, b3, b4, b5⟩ := hr.ncells hnl
      rw [hnl2] at b4
      clear b0 b1 b2 b3 b5
      have hk := (List.getElem?_eq_some_iff.1 HN.out).1
      have hkl := (List.getElem?_eq_some_iff.1 hnl).1
      have pk := hfit.pos k (by simp [T.idx])
      have g0 : ((k : Int) == 0) = false := beq_eq_false_iff_ne.2 (by omega)
      have z1 : (0 : Int) ≤ (k : Int) := by omega
      have y1 : (k : Int) < (L.length : Int) := by omega
      have z2 : (0 : Int) ≤ (l.root : Int) := by omega
      have y2 : (l.root : Int) < (L.length : Int) := by omega
      have hmn : l.many ≤ 1099511627776 := by simp only [T.many] at hrk; omega
      have hrk2 : rk ≤ 1099511627776 := by omega
      have r0 : ((T.node k y l r).root : Int) = (k : Int) := rfl
      rw [r0]
      have HRK := Kit.hid hrk
      have HSZ := Kit.hid (Sub.big_root HFT.out.nodup HFT.out.pos hsub.out)
      have HSL := Kit.hid (Sub.left hsub.out)
      have HSR := Kit.hid (Sub.right hsub.out)
      have HZL := Kit.hid (Sub.big_root HFT.out.nodup HFT.out.pos HSL.out)
      have HZR := Kit.hid (Sub.big_root HFT.out.nodup HFT.out.pos HSR.out)
      have HR := Kit.hid hr
      have HX := Kit.hid hx
      clear hrk hr hx hfit hnl hnl2 hkl hk pk r0 hsub
      by_cases hxy : y = x
      · subst hxy
        have HF1 : Hid (findT y t 0 = (k, rk + l.many)) := Kit.hid (by rw [← hfi.out, findT, if_pos rfl])
        go_wp2
        go_quiet (fail)
        go_wp2
        go_quiet (fail)
        go_wp2
        simp only [Exit.jump]
        go_ret2
        refine ⟨by rw [HF1.out]; simp, ?_⟩
        exact below_drewN (HBB.out.trans (hb.out.mono HBB.out.size)) _
      · have g1 : ∀ w', (binOp .eql 107 (.agg #[.int .i64 y.key, .int .i64 y.id]) (.agg #[.int .i64 x.key, .int .i64 x.id])).run Try.prog w' = .ok (.bool false) w' := fun w' => by rw [eql_item, decide_eq_false hxy]
        have HC : Hid (∀ w', Below wr.heap.size wr w' → w'.cell? ⟨p, 0, none⟩ = some (.slice (some ⟨gl, 0, none⟩) L.length cl) ∧ w'.cell? ⟨xb, 0, none⟩ = some (.int .i64 x.key) ∧ w'.cell? ⟨xb, 1, none⟩ = some (.int .i64 x.id) ∧ w'.cell? ⟨gl, k * 6, none⟩ = some (.int .i64 y.key) ∧ w'.cell? ⟨gl, k * 6 + 1, none⟩ = some (.int .i64 y.id)) := Kit.hid (fun w' hb => by
          have h' := HR.out.below hb
          have hx' := blk_below HX.out hb
          exact ⟨h'.pcells.1, blk_cell hx' 0, blk_cell hx' 1, (h'.ncells HN.out).1, (h'.ncells HN.out).2.1⟩)
        have HN5 : Hid (∀ w', Below wr.heap.size wr w' → w'.cell? ⟨p, 0, none⟩ = some (.slice (some ⟨gl, 0, none⟩) L.length cl) ∧ w'.cell? ⟨gl, k * 6 + 2, none⟩ = some (.int .i64 (l.root : Int)) ∧ w'.cell? ⟨gl, k * 6 + 3, none⟩ = some (.int .i64 (r.root : Int)) ∧ w'.cell? ⟨gl, l.root * 6 + 4, none⟩ = some (.int .i64 (l.many : Int))) := Kit.hid (fun w' hb => by
          have h' := HR.out.below hb
          exact ⟨h'.pcells.1, (h'.ncells HN.out).2.2.1, (h'.ncells HN.out).2.2.2.1, (hb.cell (cell_lt b4)).trans b4⟩)
        go_wp2
        go_quiet (fail)
        go_wp2
        cases hl : less x y
        · have HL : Hid (∀ w', Calls Try.prog 84 #[.agg #[.int .i64 x.key, .int .i64 x.id], .agg #[.int .i64 y.key, .int .i64 y.id]] w' fun e w'' => e = .returned (.bool false) ∧ Below w'.heap.size w' w'') := Kit.hid (fun w' => by have := less_any x y w'; rw [hl] at this; exact this)
          have HF2 : Hid (findT x r (rk + l.many + 1) = findT x t 0) := Kit.hid (by rw [← hfi.out, findT, if_neg hxy, if_neg (by rw [hl]; decide)])
          have HB2 := hb
          clear hl hxy
          refine wp_region_noPanic ?_
          refine wp_region_held_drew (S := fun w' => Below wr.heap.size wr w') (by kernel_rfl) (below_drewN (Below.refl _ _) _).drew (fun hHeld => ?_)
          refine wpAnyH_take (i := 0) (hi := by simp only [List.getElem?_toArray, List.getElem?_cons_succ, List.getElem?_cons_zero]; rfl) (v := ?_) (by kernel_rfl) (by kernel_rfl) (by kernel_rfl) (fun _ _ _ h => h) (Or.inl ⟨by rfl, ?_⟩) (by assumption) ?_
          rotate_left
          · (intro w hSw; (try dsimp only at hSw); (obtain ⟨p0, x0, x1, a0, a1⟩ := HC.out _ hSw); go_simp; first | done | with_reducible rfl)
          try simp only [Act.put, List.setIfInBounds_toArray, List.set_cons_zero, List.set_cons_succ]
          refine wpAnyH_take (i := 1) (hi := by simp only [List.getElem?_toArray, List.getElem?_cons_succ, List.getElem?_cons_zero]; rfl) (v := ?_) (by kernel_rfl) (by kernel_rfl) (by kernel_rfl) (fun _ _ _ h => h) (Or.inl ⟨by rfl, ?_⟩) (by assumption) ?_
          rotate_left
          · (intro w hSw; (try dsimp only at hSw); go_simp; first | done | with_reducible rfl)
          try simp only [Act.put, List.setIfInBounds_toArray, List.set_cons_zero, List.set_cons_succ]
          refine wpAnyH_take (i := 2) (hi := by simp only [List.getElem?_toArray, List.getElem?_cons_succ, List.getElem?_cons_zero]; rfl) (v := ?_) (by kernel_rfl) (by kernel_rfl) (by kernel_rfl) (fun _ _ _ h => h) (Or.inl ⟨by rfl, ?_⟩) (by assumption) ?_
          rotate_left
          · (intro w hSw; (try dsimp only at hSw); (obtain ⟨p0, x0, x1, a0, a1⟩ := HC.out _ hSw); go_simp; first | done | with_reducible rfl)
          try simp only [Act.put, List.setIfInBounds_toArray, List.set_cons_zero, List.set_cons_succ]
          refine wpAnyH_take (i := 3) (hi := by simp only [List.getElem?_toArray, List.getElem?_cons_succ, List.getElem?_cons_zero]; rfl) (v := ?_) (by kernel_rfl) (by kernel_rfl) (by kernel_rfl) (fun _ _ _ h => h) (Or.inl ⟨by rfl, ?_⟩) (by assumption) ?_
          rotate_left
          · (intro w hSw; (try dsimp only at hSw); go_simp; first | done | with_reducible rfl)
          try simp only [Act.put, List.setIfInBounds_toArray, List.set_cons_zero, List.set_cons_succ]
          refine wpAnyH_take (i := 4) (hi := by simp only [List.getElem?_toArray, List.getElem?_cons_succ, List.getElem?_cons_zero]; rfl) (v := ?_) (by kernel_rfl) (by kernel_rfl) (by kernel_rfl) (fun _ _ _ h => h) (Or.inl ⟨by rfl, ?_⟩) (by assumption) ?_
          rotate_left
          · (intro w hSw; (try dsimp only at hSw); (obtain ⟨p0, x0, x1, a0, a1⟩ := HC.out _ hSw); go_simp; first | done | with_reducible rfl)
          try simp only [Act.put, List.setIfInBounds_toArray, List.set_cons_zero, List.set_cons_succ]
          refine wpAnyH_take (i := 5) (hi := by simp only [List.getElem?_toArray, List.getElem?_cons_succ, List.getElem?_cons_zero]; rfl) (v := ?_) (by kernel_rfl) (by kernel_rfl) (by kernel_rfl) (fun _ _ _ h => h) (Or.inl ⟨by rfl, ?_⟩) (by assumption) ?_
          rotate_left
          · (intro w hSw; (try dsimp only at hSw); go_simp; first | done | with_reducible rfl)
          try simp only [Act.put, List.setIfInBounds_toArray, List.set_cons_zero, List.set_cons_succ]
          refine wpAnyH_take (i := 6) (hi := by simp only [List.getElem?_toArray, List.getElem?_cons_succ, List.getElem?_cons_zero]; rfl) (v := ?_) (by kernel_rfl) (by kernel_rfl) (by kernel_rfl) (fun _ _ _ h => h) (Or.inl ⟨by rfl, ?_⟩) (by assumption) ?_
          rotate_left
          · (intro w hSw; (try dsimp only at hSw); (obtain ⟨p0, x0, x1, a0, a1⟩ := HC.out _ hSw); go_simp; first | done | with_reducible rfl)
          try simp only [Act.put, List.setIfInBounds_toArray, List.set_cons_zero, List.set_cons_succ]
          refine wpAnyH_take (i := 7) (hi := by simp only [List.getElem?_toArray, List.getElem?_cons_succ, List.getElem?_cons_zero]; rfl) (v := ?_) (by kernel_rfl) (by kernel_rfl) (by kernel_rfl) (fun _ _ _ h => h) (Or.inl ⟨by rfl, ?_⟩) (by assumption) ?_
          rotate_left
          · (intro w hSw; (try dsimp only at hSw); go_simp; first | done | with_reducible rfl)
          try simp only [Act.put, List.setIfInBounds_toArray, List.set_cons_zero, List.set_cons_succ]
          refine wpAnyH_take (i := 8) (hi := by simp only [List.getElem?_toArray, List.getElem?_cons_succ, List.getElem?_cons_zero]; rfl) (v := ?_) (by kernel_rfl) (by kernel_rfl) (by kernel_rfl) (fun _ _ _ h => h) (Or.inl ⟨by rfl, ?_⟩) (by assumption) ?_
          rotate_left
          · (intro w hSw; (try dsimp only at hSw); (obtain ⟨p0, x0, x1, a0, a1⟩ := HC.out _ hSw); go_simp; first | done | with_reducible rfl)
          try simp only [Act.put, List.setIfInBounds_toArray, List.set_cons_zero, List.set_cons_succ]
          refine wpAnyH_ready (rs := [9]) (by kernel_rfl) (by simp) ?_
          refine AllReadyH.cons (ho := by simp only [List.getElem?_toArray, List.getElem?_cons_succ, List.getElem?_cons_zero]; rfl) (fun K hK => ?_) (AllReadyH.nil)
          go_simp
          go_at_call 84; (with_reducible refine (HL.out _).mono ?_); rintro e w5 ⟨rfl, hd5⟩
          have hb5 := Kit.hid (hHeld.trans (hd5.mono hHeld.size))
          go_wp2_with fail
          refine hK.out _ _ ?_ (fun hHeldN => ?_)
          · exact hb5.out
          clear hHeld
          have hHeld := hHeldN
          clear hHeldN
          clear hK K
          try simp only [Act.put, List.setIfInBounds_toArray, List.set_cons_zero, List.set_cons_succ]
          clear hHeld
          refine wpAnyH_done (by kernel_rfl) ?_ _
          refine NoPanic.normal ?_
          skip
          obtain ⟨p0', n2, n3, n4⟩ := HN5.out _ hb5.out
          clear p0 p1 p2 a0 a1 a2 a3 b4 x0 x1
          go_wp2
          go_quiet (fail)
          go_wp2
          go_step3
          refine ⟨rfl, ⟨r, rk + l.many + 1, rfl, rfl, rfl, rfl, rfl, rfl, (congrArg (Value.int .i64) (by omega)), HSR, HF2, ?_, ?_⟩, ?_⟩
          · have := HRK.out; simp only [T.many] at this; omega
          · exact Kit.hid (below_drewN (hb.out.trans (hb5.out.mono hb.out.size)) _)
          · have h1 := HSZ.out
            have h2 := HZR.out
            simp only [T.root] at h1
            show t.big (intOf (.int .i64 (r.root : Int))).toNat < t.big (intOf (.int .i64 (k : Int))).toNat
            simp only [intOf, Int.toNat_natCast]
            rw [h1, h2, T.many]; omega
        · have HL : Hid (∀ w', Calls Try.prog 84 #[.agg #[.int .i64 x.key, .int .i64 x.id], .agg #[.int .i64 y.key, .int .i64 y.id]] w' fun e w'' => e = .returned (.bool true) ∧ Below w'.heap.size w' w'') := Kit.hid (fun w' => by have := less_any x y w'; rw [hl] at this; exact this)
          have HF2 : Hid (findT x l rk = findT x t 0) := Kit.hid (by rw [← hfi.out, findT, if_neg hxy, if_pos hl])
          clear hl hxy
          refine wp_region_noPanic ?_
          refine wp_region_held_drew (S := fun w' => Below wr.heap.size wr w') (by kernel_rfl) (below_drewN (Below.refl _ _) _).drew (fun hHeld => ?_)
          refine wpAnyH_take (i := 0) (hi := by simp only [List.getElem?_toArray, List.getElem?_cons_succ, List.getElem?_cons_zero]; rfl) (v := ?_) (by kernel_rfl) (by kernel_rfl) (by kernel_rfl) (fun _ _ _ h => h) (Or.inl ⟨by rfl, ?_⟩) (by assumption) ?_
          rotate_left
          · (intro w hSw; (try dsimp only at hSw); (obtain ⟨p0, x0, x1, a0, a1⟩ := HC.out _ hSw); go_simp; first | done | with_reducible rfl)
          try simp only [Act.put, List.setIfInBounds_toArray, List.set_cons_zero, List.set_cons_succ]
          refine wpAnyH_take (i := 1) (hi := by simp only [List.getElem?_toArray, List.getElem?_cons_succ, List.getElem?_cons_zero]; rfl) (v := ?_) (by kernel_rfl) (by kernel_rfl) (by kernel_rfl) (fun _ _ _ h => h) (Or.inl ⟨by rfl, ?_⟩) (by assumption) ?_
          rotate_left
          · (intro w hSw; (try dsimp only at hSw); go_simp; first | done | with_reducible rfl)
          try simp only [Act.put, List.setIfInBounds_toArray, List.set_cons_zero, List.set_cons_succ]
          refine wpAnyH_take (i := 2) (hi := by simp only [List.getElem?_toArray, List.getElem?_cons_succ, List.getElem?_cons_zero]; rfl) (v := ?_) (by kernel_rfl) (by kernel_rfl) (by kernel_rfl) (fun _ _ _ h => h) (Or.inl ⟨by rfl, ?_⟩) (by assumption) ?_
          rotate_left
          · (intro w hSw; (try dsimp only at hSw); (obtain ⟨p0, x0, x1, a0, a1⟩ := HC.out _ hSw); go_simp; first | done | with_reducible rfl)
          try simp only [Act.put, List.setIfInBounds_toArray, List.set_cons_zero, List.set_cons_succ]
          refine wpAnyH_take (i := 3) (hi := by simp only [List.getElem?_toArray, List.getElem?_cons_succ, List.getElem?_cons_zero]; rfl) (v := ?_) (by kernel_rfl) (by kernel_rfl) (by kernel_rfl) (fun _ _ _ h => h) (Or.inl ⟨by rfl, ?_⟩) (by assumption) ?_
          rotate_left
          · (intro w hSw; (try dsimp only at hSw); go_simp; first | done | with_reducible rfl)
          try simp only [Act.put, List.setIfInBounds_toArray, List.set_cons_zero, List.set_cons_succ]
          refine wpAnyH_take (i := 4) (hi := by simp only [List.getElem?_toArray, List.getElem?_cons_succ, List.getElem?_cons_zero]; rfl) (v := ?_) (by kernel_rfl) (by kernel_rfl) (by kernel_rfl) (fun _ _ _ h => h) (Or.inl ⟨by rfl, ?_⟩) (by assumption) ?_
          rotate_left
          · (intro w hSw; (try dsimp only at hSw); (obtain ⟨p0, x0, x1, a0, a1⟩ := HC.out _ hSw); go_simp; first | done | with_reducible rfl)
          try simp only [Act.put, List.setIfInBounds_toArray, List.set_cons_zero, List.set_cons_succ]
          refine wpAnyH_take (i := 5) (hi := by simp only [List.getElem?_toArray, List.getElem?_cons_succ, List.getElem?_cons_zero]; rfl) (v := ?_) (by kernel_rfl) (by kernel_rfl) (by kernel_rfl) (fun _ _ _ h => h) (Or.inl ⟨by rfl, ?_⟩) (by assumption) ?_
          rotate_left
          · (intro w hSw; (try dsimp only at hSw); go_simp; first | done | with_reducible rfl)
          try simp only [Act.put, List.setIfInBounds_toArray, List.set_cons_zero, List.set_cons_succ]
          refine wpAnyH_take (i := 6) (hi := by simp only [List.getElem?_toArray, List.getElem?_cons_succ, List.getElem?_cons_zero]; rfl) (v := ?_) (by kernel_rfl) (by kernel_rfl) (by kernel_rfl) (fun _ _ _ h => h) (Or.inl ⟨by rfl, ?_⟩) (by assumption) ?_
          rotate_left
          · (intro w hSw; (try dsimp only at hSw); (obtain ⟨p0, x0, x1, a0, a1⟩ := HC.out _ hSw); go_simp; first | done | with_reducible rfl)
          try simp only [Act.put, List.setIfInBounds_toArray, List.set_cons_zero, List.set_cons_succ]
          refine wpAnyH_take (i := 7) (hi := by simp only [List.getElem?_toArray, List.getElem?_cons_succ, List.getElem?_cons_zero]; rfl) (v := ?_) (by kernel_rfl) (by kernel_rfl) (by kernel_rfl) (fun _ _ _ h => h) (Or.inl ⟨by rfl, ?_⟩) (by assumption) ?_
          rotate_left
          · (intro w hSw; (try dsimp only at hSw); go_simp; first | done | with_reducible rfl)
          try simp only [Act.put, List.setIfInBounds_toArray, List.set_cons_zero, List.set_cons_succ]
          refine wpAnyH_take (i := 8) (hi := by simp only [List.getElem?_toArray, List.getElem?_cons_succ, List.getElem?_cons_zero]; rfl) (v := ?_) (by kernel_rfl) (by kernel_rfl) (by kernel_rfl) (fun _ _ _ h => h) (Or.inl ⟨by rfl, ?_⟩) (by assumption) ?_
          rotate_left
          · (intro w hSw; (try dsimp only at hSw); (obtain ⟨p0, x0, x1, a0, a1⟩ := HC.out _ hSw); go_simp; first | done | with_reducible rfl)
          try simp only [Act.put, List.setIfInBounds_toArray, List.set_cons_zero, List.set_cons_succ]
          refine wpAnyH_ready (rs := [9]) (by kernel_rfl) (by simp) ?_
          refine AllReadyH.cons (ho := by simp only [List.getElem?_toArray, List.getElem?_cons_succ, List.getElem?_cons_zero]; rfl) (fun K hK => ?_) (AllReadyH.nil)
          go_simp
          go_at_call 84; (with_reducible refine (HL.out _).mono ?_); rintro e w5 ⟨rfl, hd5⟩
          have hb5 := Kit.hid (hHeld.trans (hd5.mono hHeld.size))
          go_wp2_with fail
          refine hK.out _ _ ?_ (fun hHeldN => ?_)
          · exact hb5.out
          clear hHeld
          have hHeld := hHeldN
          clear hHeldN
          clear hK K
          try simp only [Act.put, List.setIfInBounds_toArray, List.set_cons_zero, List.set_cons_succ]
          clear hHeld
          refine wpAnyH_done (by kernel_rfl) ?_ _
          refine NoPanic.normal ?_
          skip
          obtain ⟨p0', n2, n3, n4⟩ := HN5.out _ hb5.out
          clear p0 p1 p2 a0 a1 a2 a3 b4 x0 x1
          go_wp2
          go_step3
          refine ⟨rfl, ⟨l, rk, rfl, rfl, rfl, rfl, rfl, rfl, rfl, HSL, HF2, ?_, ?_⟩, ?_⟩
          · have := HRK.out; simp only [T.many] at this; omega
          · exact Kit.hid (hb.out.trans (hb5.out.mono hb.out.size))
          · have h1 := HSZ.out
            have h2 := HZL.out
            simp only [T.root] at h1
            show t.big (intOf (.int .i64 (l.root : Int))).toNat < t.big (intOf (.int .i64 (k : Int))).toNat
            simp only [intOf, Int.toNat_natCast]
            rw [h1, h2, T.many]; omega
  · intro HF
    clear p0 p1 p2 hp
    obtain ⟨p0, p1, p2, _, _, _⟩ := HSB.out.pcells
    have hp := HSB.out.plt
    go_wp2
    go_step3
    rename_i K hK
    refine hK _ _ ?_
    exact HF.out _ _ ⟨t, 0, rfl, rfl, rfl, rfl, rfl, rfl, rfl, Kit.hid (Sub.refl t), Kit.hid rfl, by omega, Kit.hid (Below.refl _ _)⟩
end
end Go.Proofs.Ytpgfenelckonoaa.Sh
