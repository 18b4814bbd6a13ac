/- The walks of package le: numbers put behind bytes, and told with a sign. -/
import Derived.Test.YtlmbghemlphoaaaDoorOwn
import Derived.Test.YtlmbghemlphoaaaDoorLeM
namespace Go.Proofs.YtlmbghemlphoaaaDoor.Le
open Go.RowKit Go.Proofs.YtlmbghemlphoaaaDoor.Kit Go.Proofs.YtlmbghemlphoaaaDoor.LeM
set_option linter.unusedVariables false
set_option linter.unusedSimpArgs false
theorem infoB : (Tryd.prog.info? 5).map (fun i => (i.zero, i.size, i.bytes)) = some (some (.int .u8 0), 1, 1) := by kernel_rfl
theorem held_any (width : Int) (w : World) :
    Calls Tryd.prog 38 #[.int .i64 width] w fun e w' => e = .returned (.int .i64 (hw width)) ∧ w = w' := by
  obtain ⟨a, ha⟩ : ∃ a, (if 8 < width then 8 else width) = a := ⟨_, rfl⟩
  have hb : (if 1 < a then a else 1) = (hw width : Int) := by
    rw [← ha]
    unfold hw
    repeat' split
    all_goals omega
  go_enter Tryd.func38, Tryd.ntmps38
  go_wp2
  go_ret
  exact ⟨rfl, rfl⟩
/-- What a number put behind bytes leaves. -/
def PutPost (B : Nat) (w : World) (v : Value) (l : List (BitVec 8)) (e : Ending) (w' : World) : Prop :=
  ∃ v', e = .returned v' ∧ w'.ownsRow B 5 1 v' l.length (l.map byteV) ∧ w.grownBy w' v.ownBlock ∧ (v'.ownBlock = v.ownBlock ∨ ∃ g, v'.ownBlock = some g ∧ w.heap.size ≤ g)
set_option maxHeartbeats 400000 in
theorem put_any (B : Nat) (v : Value) (l : List (BitVec 8)) (n : Nat) (width : Int) (w : World) (hown : Hid (w.ownsRow B 5 1 v l.length (l.map byteV))) (hB : B ≤ w.heap.size) (hl : l.length ≤ 70368744177664) (hn : n < 18446744073709551616) :
    Calls Tryd.prog 28 #[v, .int .u64 n, .int .i64 width] w (PutPost B w v (l ++ dig n (hw width))) := by
  have hk := hw_bd width
  obtain ⟨k, hkk⟩ : ∃ k, k = hw width := ⟨_, rfl⟩
  rw [← hkk] at hk
  have HK := Kit.hid hkk
  have HP : Hid (∀ (e : Ending) (w' : World) (l' : List (BitVec 8)) (v' : Value), l' = l ++ dig n k → e = .returned v' → w'.ownsRow B 5 1 v' l'.length (l'.map byteV) → w.grownBy w' v.ownBlock → (v'.ownBlock = v.ownBlock ∨ ∃ g, v'.ownBlock = some g ∧ w.heap.size ≤ g) → PutPost B w v (l ++ dig n (hw width)) e w') := by
    show ∀ _ _ _ _, _
    intro e w' l' v' h1 h2 h3 h4 h5
    rw [← hkk, ← h1]
    exact ⟨v', h2, h3, h4, h5⟩
  clear hkk
  go_enter Tryd.func28, Tryd.ntmps28
  go_wp2
  refine scope_label 0 (fun a' wr => ∃ (j m : Nat) (v' : Value) (l' : List (BitVec 8)) (u8 u9 u10 u11 u12 u13 u14 u15 u16 u17 u18 u19 u20 u21 : Value),
    a' = { tmps := #[v', .int .u64 m, .int .i64 width, undef, undef, undef, .slice none 0 0, .int .i64 j, u8, u9, u10, u11, u12, u13, u14, u15, u16, u17, u18, u19, u20, u21], defers := [] } ∧
    Hid (wr.ownsRow B 5 1 v' l'.length (l'.map byteV)) ∧ Hid (w.grownBy wr v.ownBlock) ∧ Hid (v'.ownBlock = v.ownBlock ∨ ∃ g, v'.ownBlock = some g ∧ w.heap.size ≤ g) ∧ Hid (l' ++ dig m j = l ++ dig n k) ∧ j ≤ 8 ∧ l'.length ≤ 70368744177664 + (8 - j) ∧ m < 18446744073709551616) (fun a' _ => (intOf (a'.tmps.getD 7 undef)).toNat) rfl ?_ ?_
  · rintro a' wr ⟨j, m, v', l', u8, u9, u10, u11, u12, u13, u14, u15, u16, u17, u18, u19, u20, u21, rfl, ho, hg, hv, hd, hj, hll, hm⟩
    by_cases hz : j = 0
    · subst hz
      have h0 : ((0 : Int) == 0) = true := rfl
      go_wp2
      simp only [Exit.jump]
      go_ret
      have hd' := hd.out
      simp only [dig, List.append_nil] at hd'
      exact HP.out _ _ l' v' hd' rfl ho.out hg.out hv.out
    · obtain ⟨i, rfl⟩ : ∃ i, j = i + 1 := ⟨j - 1, by omega⟩
      have h0 : (((i + 1 : Nat) : Int) == 0) = false := beq_eq_false_iff_ne.2 (by omega)
      have h1 : ((i : Int) + 1 == 0) = false := beq_eq_false_iff_ne.2 (by omega)
      obtain ⟨b, hb⟩ : ∃ b, b = BitVec.ofNat 8 m := ⟨_, rfl⟩
      have e1 : (m : Int) % 256 = (b.toNat : Int) := by
        rw [hb, BitVec.toNat_ofNat]
        omega
      obtain ⟨q, hq⟩ : ∃ q, q = m / 256 := ⟨_, rfl⟩
      have e2 : (m : Int) / 256 = (q : Int) := by omega
      have hq2 : q < 18446744073709551616 := by omega
      have bb := b.isLt
      have HD : Hid ((l' ++ [b]) ++ dig q i = l ++ dig n k) := by
        show _ = _
        rw [← hd.out, hb, hq]
        simp [dig]
      clear hb hq hd
      have hown0 := ho.out.alloc (.cells #[.int .u8 (b.toNat : Int)] 5)
      have hnew : Cells (wr.alloc (.cells #[.int .u8 (b.toNat : Int)] 5)) (some ⟨wr.heap.size, 0, none⟩) [byteV b] := by
        intro i hi
        obtain rfl : i = 0 := by simpa using hi
        exact ⟨_, rfl, (blk_cell (blk_new wr (.cells #[.int .u8 (b.toNat : Int)] 5)) 0).trans rfl⟩
      have hBw : B ≤ wr.heap.size := Nat.le_trans hB hg.out.size
      go_wp2_with (at_builtin; refine wpList_append_src rfl _ _ 22 rfl B 5 (.int .u8 0) 1 Tryd.underlying22 infoB rfl _ _ _ rfl hown0 (some ⟨wr.heap.size, 0, none⟩) 1 1 [byteV b] rfl rfl hnew (fun u hu => by simp at hu; subst hu; rfl) (by unfold maxLen; omega) (by omega) (by simp; omega) ?_
                   intro v2 w2 hown2 hg2 hv2)
      go_step3
      refine ⟨rfl, ⟨i, q, v2, l' ++ [b], _, _, _, _, _, _, _, _, _, _, _, _, _, _, ⟨by first | rfl | (congr 1), ?_, ?_, ?_, HD, by omega, by simp; omega, hq2⟩⟩, ?_⟩
      · show World.ownsRow _ _ _ _ _ _ _
        rw [List.map_append, List.length_append]
        exact hown2
      · refine Kit.hid (grown_trans (grown_alloc hg.out _) hg2 (fun g h => ?_))
        rcases hv.out with h3 | ⟨g', h3, h4⟩
        · left
          rw [← h3]
          exact h.symm
        · right
          have : some g = some g' := h.symm.trans h3
          cases this
          exact h4
      · refine Kit.hid ?_
        rcases hv2 with h3 | h3
        · rcases hv.out with h4 | h4
          · left
            rw [h3]
            exact h4
          · right
            obtain ⟨g', h5, h6⟩ := h4
            exact ⟨g', h3.trans h5, h6⟩
        · right
          refine ⟨_, h3, ?_⟩
          have := hg.out.size
          simp
          omega
      · simp [intOf]
  · intro HF
    go_wp2_with (go_at_call 38; refine (held_any width _).mono ?_; rintro e w' ⟨rfl, rfl⟩)
    go_step3
    rename_i K hK
    refine hK _ _ ?_
    exact HF.out _ _ ⟨k, n, v, l, _, _, _, _, _, _, _, _, _, _, _, _, _, _, ⟨by rw [HK.out], hown, Kit.hid (grown_refl _ _), Kit.hid (.inl rfl), Kit.hid rfl, by omega, by omega, hn⟩⟩
end Go.Proofs.YtlmbghemlphoaaaDoor.Le
