/- The walks of the laws' own helpers of layer 5. -/
import Derived.Test.YtjddoohlmgacjaaMoC
namespace Go.Proofs.Ytjddoohlmgacjaa.Mo
open Go.RowKit Go.Proofs.Ytjddoohlmgacjaa.Kit Go.Proofs.Ytjddoohlmgacjaa.Flo Go.IntWalk
set_option linter.unusedVariables false
set_option linter.unusedSimpArgs false
/-- A member. -/
structure One where
  b : Int
  w : Int
  out : Bool
  deriving Inhabited
def One.val (o : One) : Value := .agg #[.int .i32 o.b, .int .u32 o.w, .bool o.out]
structure One.Wf (o : One) : Prop where
  b0 : -2147483648 ≤ o.b
  b1 : o.b ≤ 2147483647
  w0 : 0 ≤ o.w
  w1 : o.w ≤ 4294967295
def One.lag (o : One) : Int := o.b.tmod 1048576
def One.wt (o : One) : Int := o.w % 1048577
theorem tmod_bd (a m : Int) (hm : 0 < m) : -m < a.tmod m ∧ a.tmod m < m := by
  rcases Int.lt_or_le a 0 with h | h
  · have h1 := Int.tmod_nonneg m (show 0 ≤ -a by omega)
    have h2 := Int.tmod_lt_of_pos (-a) hm
    rw [Int.neg_tmod] at h1 h2
    omega
  · have h1 := Int.tmod_nonneg m h
    have h2 := Int.tmod_lt_of_pos a hm
    omega
theorem One.lag_bd (o : One) : -1048576 < o.lag ∧ o.lag < 1048576 := tmod_bd _ _ (by decide)
theorem One.wt_bd (o : One) : 0 ≤ o.wt ∧ o.wt ≤ 1048576 := by
  unfold One.wt
  omega
theorem by_any (o : One) (h : o.Wf) (w : World) : Calls Try.prog 13 #[o.val] w (ValPost w (.int .i64 o.lag)) := by
  have hb := o.lag_bd
  obtain ⟨l, hl⟩ : ∃ l, l = o.lag := ⟨_, rfl⟩
  rw [← hl] at hb ⊢
  have e1 : o.b.tmod 1048576 = l := hl.symm
  unfold One.val
  generalize o.b = b at *
  generalize o.w = wt at *
  generalize o.out = u at *
  clear hl h
  go_enter Try.func13, Try.ntmps13
  go_wp2
  go_ret
  exact ⟨rfl, (Below.refl _ _).alloc (Nat.le_refl _) _⟩
theorem wt_any (o : One) (h : o.Wf) (w : World) : Calls Try.prog 12 #[o.val] w (ValPost w (.int .i64 o.wt)) := by
  have hb := o.wt_bd
  have h0 := h.w0
  have h1 := h.w1
  obtain ⟨l, hl⟩ : ∃ l, l = o.wt := ⟨_, rfl⟩
  rw [← hl] at hb ⊢
  have e1 : o.w % 1048577 = l := hl.symm
  unfold One.val
  generalize o.b = b at *
  generalize o.w = wt at *
  generalize o.out = u at *
  clear hl h
  go_enter Try.func12, Try.ntmps12
  go_wp2
  go_ret
  exact ⟨rfl, (Below.refl _ _).alloc (Nat.le_refl _) _⟩
def basedOf (n : Int) : Int := n.tmod 1152921504606846976
theorem based_any (n : Int) (w : World) : Calls Try.prog 10 #[.int .i64 n] w fun e w' => e = .returned (.int .i64 (basedOf n)) ∧ w = w' := by
  have hb := tmod_bd n 1152921504606846976 (by decide)
  obtain ⟨l, hl⟩ : ∃ l, l = basedOf n := ⟨_, rfl⟩
  have e1 : n.tmod 1152921504606846976 = l := hl.symm
  rw [← hl]
  rw [e1] at hb
  clear hl
  go_enter Try.func10, Try.ntmps10
  go_wp2
  go_ret
  exact ⟨rfl, rfl⟩
set_option maxHeartbeats 400000 in
theorem awake_any (w : World) : Calls Try.prog 9 #[] w (ValPost w (.bool true)) := by
  have HN : Hid (∀ w, Calls Try.prog 18 #[.int .i64 100] w (ValPost w (.agg #[.int .i64 100, .complex .f64 (fi 0) (fi 0)]))) := fun w => new_any 100 w
  have HA1 : Hid (∀ w, Calls Try.prog 17 #[.agg #[.int .i64 100, .complex .f64 (fi 0) (fi 0)], .int .i64 101, .int .i64 3] w (ValPost w (.agg #[.int .i64 100, .complex .f64 (fi 3) (fi 3)]))) :=
    fun w => add_any 100 0 0 101 3 1 w (by decide) (by decide) (by decide) (by decide) (by decide) (by decide) (by decide) (by decide) (by decide)
  have HA2 : Hid (∀ w, Calls Try.prog 17 #[.agg #[.int .i64 100, .complex .f64 (fi 3) (fi 3)], .int .i64 105, .int .i64 1] w (ValPost w (.agg #[.int .i64 100, .complex .f64 (fi 4) (fi 8)]))) :=
    fun w => add_any 100 3 3 105 1 5 w (by decide) (by decide) (by decide) (by decide) (by decide) (by decide) (by decide) (by decide) (by decide)
  have HM : Hid (∀ w, Calls Try.prog 15 #[.agg #[.int .i64 100, .complex .f64 (fi 4) (fi 8)]] w (ValPost w (.int .i64 102))) := fun w => mean_any 100 4 8 w (by decide) (by decide) (by decide)
  have HG1 : Hid (∀ w, Calls Try.prog 16 #[.agg #[.int .i64 100, .complex .f64 (fi 4) (fi 8)], .int .i64 101] w (ValPost w (.int .i64 4))) := fun w => gap_any 100 4 8 101 1 w (by decide) (by decide) (by decide) (by decide) (by decide)
  have HG2 : Hid (∀ w, Calls Try.prog 16 #[.agg #[.int .i64 100, .complex .f64 (fi 4) (fi 8)], .int .i64 105] w (ValPost w (.int .i64 (-12)))) := fun w => gap_any 100 4 8 105 5 w (by decide) (by decide) (by decide) (by decide) (by decide)
  have HW : Hid (∀ w, Calls Try.prog 14 #[.agg #[.int .i64 100, .complex .f64 (fi 4) (fi 8)]] w (ValPost w (.int .i64 4))) := fun w => weight_any 100 4 (fi 8) w (by decide)
  have hst := store_complex
  have q1 : (FloatKind.f64.format.order (fi 4) 4616189618054758400 == some Ordering.eq) = true := by decide
  have q2 : (FloatKind.f64.format.order (fi 8) 4620693217682128896 == some Ordering.eq) = true := by decide
  have HB : Hid (∀ (wa w2 : World), Below (wa.alloc (.cells #[.int .i64 100, .complex .f64 (fi 4) (fi 8)] 27)).heap.size (wa.alloc (.cells #[.int .i64 100, .complex .f64 (fi 4) (fi 8)] 27)) w2 → w2.cell? ⟨wa.heap.size, 0, none⟩ = some (.int .i64 100) ∧ w2.cell? ⟨wa.heap.size, 1, none⟩ = some (.complex .f64 (fi 4) (fi 8)) ∧ Below wa.heap.size wa w2) := fun wa w2 h => one_block wa w2 _ _ h
  go_enter Try.func9, Try.ntmps9
  go_wp2_with (first
    | (go_at_call 18; refine (HN.out _).mono ?_; rintro e w1 ⟨rfl, hd1⟩)
    | (go_at_call 17; (with_reducible refine (HA1.out _).mono ?_); rintro e w2 ⟨rfl, hd2⟩
       have hd12 := hd1.trans (hd2.mono hd1.size))
    | (go_at_call 17; (with_reducible refine (HA2.out _).mono ?_); rintro e w3 ⟨rfl, hd3⟩
       have hd13 := hd12.trans (hd3.mono hd12.size))
    | (go_at_call 15; refine (HM.out _).mono ?_; rintro e w4 ⟨rfl, hd4⟩
       obtain ⟨c0, c1, hd34⟩ := HB.out _ _ hd4)
    | (go_at_call 16; (with_reducible refine (HG1.out _).mono ?_); rintro e w5 ⟨rfl, hd5⟩
       have hd45 := hd4.trans (hd5.mono hd4.size)
       obtain ⟨c0', c1', hd35⟩ := HB.out _ _ hd45)
    | (go_at_call 16; (with_reducible refine (HG2.out _).mono ?_); rintro e w6 ⟨rfl, hd6⟩
       have hd46 := hd45.trans (hd6.mono hd45.size)
       obtain ⟨c0'', c1'', hd36⟩ := HB.out _ _ hd46)
    | (go_at_call 14; refine (HW.out _).mono ?_; rintro e w7 ⟨rfl, hd7⟩
       have hd47 := hd46.trans (hd7.mono hd46.size)
       obtain ⟨_, _, hd37⟩ := HB.out _ _ hd47
       have hfin := hd13.trans (hd37.mono hd13.size)))
  go_ret
  exact ⟨rfl, hfin⟩
end Go.Proofs.Ytjddoohlmgacjaa.Mo
