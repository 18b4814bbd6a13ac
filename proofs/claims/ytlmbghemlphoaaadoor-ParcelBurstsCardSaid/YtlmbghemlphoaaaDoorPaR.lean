/- The walks of le's reader once more, telling that what is left lies where the bytes lay. -/
import Derived.Test.YtlmbghemlphoaaaDoorLeF
import Derived.Lib.EndianBits
import Derived.Lib.SliceRun
namespace Go.Proofs.YtlmbghemlphoaaaDoor.Le
open Go.RowKit Go.Proofs.YtlmbghemlphoaaaDoor.Kit Go.Proofs.YtlmbghemlphoaaaDoor.LeM
set_option linter.unusedVariables false
set_option linter.unusedSimpArgs false
def PartS (w : World) (g : Nat) (A : Option Addr) (r : List (BitVec 8) × List (BitVec 8) × Int) (e : Ending) (w' : World) : Prop :=
  ∃ (B : Option Addr) (c : Nat) (A' : Option Addr) (cap' : Nat), e = .returned (.slice B r.1.length c) ∧ Hid (Bytes w' B r.1) ∧ r.1.length ≤ c ∧ (∀ ad, B = some ad → ∃ a0, A = some a0 ∧ ad.block = a0.block) ∧ RdAt w' g A' r.2.1 cap' r.2.2 ∧
    (∀ ad, A' = some ad → ∃ a0, A = some a0 ∧ ad.block = a0.block) ∧ w.grownBy w' (some g)
def TakeS (w : World) (g : Nat) (A : Option Addr) (r : List (BitVec 8) × List (BitVec 8) × Int) (e : Ending) (w' : World) : Prop :=
  ∃ (A' : Option Addr) (cap' : Nat), e = .returned (.int .u64 (num r.1)) ∧ RdAt w' g A' r.2.1 cap' r.2.2 ∧ (∀ ad, A' = some ad → ∃ a0, A = some a0 ∧ ad.block = a0.block) ∧ w.grownBy w' (some g)
theorem part_goodS {w : World} {g : Nat} {ad : Addr} {l : List (BitVec 8)} {cap : Nat} {e : Int} (h : RdAt w g (some ad) l cap e) (he : e = 0) {m : Nat} (hm : m ≤ l.length) (ad' : Addr) (c' : Nat)
    (h1 : c' = cap - m) (h2 : (cap = m ∧ ad' = ad) ∨ (cap ≠ m ∧ ad' = ad.add m)) :
    PartS w g (some ad) (l.take m, l.drop m, 0) (.returned (.slice (some ad) m m)) (w.setCell ⟨g, 0, none⟩ (.slice (some ad') (l.length - m) c')) := by
  have hr := h.room
  have hl' : (l.take m).length = m := by rw [List.length_take]; omega
  have hl2 : (l.drop m).length = l.length - m := List.length_drop
  have hfar := h.far ad rfl
  have hB := bytes_far h.bytes (p := ⟨g, 0, none⟩) (fun a ha => h.far a ha) (.slice (some ad') (l.length - m) c')
  refine ⟨some ad, m, some ad', c', by rw [hl'], bytes_take hB m, by rw [hl']; exact Nat.le_refl _, (fun a ha => by cases ha; exact ⟨ad, rfl, rfl⟩), ⟨?_, ?_, ?_, ?_⟩, ?_, grown_set _⟩
  · rw [show (l.take m, l.drop m, (0 : Int)).2.1.length = l.length - m from hl2]
    exact blk_put h.blk 0 _ (by subst he; rfl)
  · rcases h2 with ⟨h3, rfl⟩ | ⟨h3, rfl⟩
    · have e1 : l.drop m = [] := List.drop_eq_nil_iff.2 (by omega)
      show Hid (Bytes _ _ (l.drop m))
      rw [e1]
      exact bytes_nil _ _
    · exact bytes_drop hB m
  · show (l.drop m).length ≤ c'
    omega
  · intro a ha
    cases ha
    rcases h2 with ⟨h3, rfl⟩ | ⟨h3, rfl⟩
    · exact hfar
    · rw [add_block]; exact hfar
  · intro a ha
    cases ha
    rcases h2 with ⟨h3, rfl⟩ | ⟨h3, rfl⟩
    · exact ⟨_, rfl, rfl⟩
    · exact ⟨_, rfl, add_block _ _⟩
set_option maxHeartbeats 400000 in
theorem part_anyS (g : Nat) (A : Option Addr) (l : List (BitVec 8)) (cap : Nat) (e many : Int) (w : World) (h : RdAt w g A l cap e) (hl : l.length ≤ 140737488351232) :
    Calls Tryd.prog 22 #[.pointer (some ⟨g, 0, none⟩), .int .i64 many] w (PartS w g A (rp l e many)) := by
  have c0 : w.cell? ⟨g, 0, none⟩ = some (.slice A l.length cap) := (blk_cell h.blk 0).trans rfl
  have c1 : w.cell? ⟨g, 1, none⟩ = some (.int .i64 e) := (blk_cell h.blk 1).trans rfl
  have z0 := blk_frozen h.blk 0
  have z1 := blk_frozen h.blk 1
  have hr := h.room
  have H := Kit.hid h
  clear h
  by_cases he : e = 0
  · by_cases hm : many < 0
    · have hq : rp l e many = ([], l, 1) := by
        unfold rp
        rw [if_neg (by simpa using he), if_pos hm]
      have HQ := Kit.hid hq
      have g1 : (e != 0) = false := by simp [he]
      clear hq he
      go_enter Tryd.func22, Tryd.ntmps22
      go_wp2
      go_ret
      rw [HQ.out]
      refine ⟨none, 0, A, cap, rfl, bytes_nil _ _, Nat.le_refl _, (fun ad h => by cases h), ⟨?_, bytes_far H.out.bytes H.out.far _, H.out.room, H.out.far⟩, (fun ad h => ⟨ad, h, rfl⟩), grown_set _⟩
      exact blk_put H.out.blk 1 _ rfl
    · by_cases hs : (l.length : Int) < many
      · have hq : rp l e many = ([], l, 2) := by
          unfold rp
          rw [if_neg (by simpa using he), if_neg hm, if_pos hs]
        have HQ := Kit.hid hq
        have g1 : (e != 0) = false := by simp [he]
        clear hq he
        go_enter Tryd.func22, Tryd.ntmps22
        go_wp2
        go_ret
        rw [HQ.out]
        refine ⟨none, 0, A, cap, rfl, bytes_nil _ _, Nat.le_refl _, (fun ad h => by cases h), ⟨?_, bytes_far H.out.bytes H.out.far _, H.out.room, H.out.far⟩, (fun ad h => ⟨ad, h, rfl⟩), grown_set _⟩
        exact blk_put H.out.blk 1 _ rfl
      · obtain ⟨m, rfl⟩ := Int.eq_ofNat_of_zero_le (show 0 ≤ many by omega)
        have hq : rp l e m = (l.take m, l.drop m, 0) := by
          unfold rp
          rw [if_neg (by simpa using he), if_neg hm, if_neg hs]
          simp
        have HQ := Kit.hid hq
        have HE := Kit.hid he
        have hml : m ≤ l.length := by omega
        have g1 : (e != 0) = false := by simp [he]
        have h0 : 0 ≤ (m : Int) := by omega
        clear hq he hm hs
        cases A with
        | none =>
          obtain rfl := bytes_none H.out.bytes
          obtain rfl : m = 0 := by simpa using hml
          go_enter Tryd.func22, Tryd.ntmps22
          go_wp2
          all_goals
            go_ret
            rw [HQ.out]
            refine ⟨none, 0, none, cap, rfl, bytes_nil _ _, Nat.le_refl _, (fun ad h => by cases h), ⟨?_, bytes_nil _ _, by simp, fun ad h => by cases h⟩, (fun ad h => by cases h), grown_set _⟩
            exact blk_put H.out.blk 0 _ (by rw [HE.out]; rfl)
        | some ad =>
          go_enter Tryd.func22, Tryd.ntmps22
          go_wp2
          · go_ret
            rw [HQ.out]
            exact part_goodS H.out HE.out hml _ _ (by omega) (Or.inl ⟨by assumption, rfl⟩)
          · go_ret
            rw [HQ.out]
            exact part_goodS H.out HE.out hml _ _ rfl (Or.inr ⟨by assumption, rfl⟩)
  · have hq : rp l e many = ([], l, e) := by
      unfold rp
      rw [if_pos he]
    have HQ := Kit.hid hq
    have g1 : (e != 0) = true := by simp [he]
    clear hq he
    go_enter Tryd.func22, Tryd.ntmps22
    go_wp2
    go_ret
    rw [HQ.out]
    exact ⟨none, 0, A, cap, rfl, bytes_nil _ _, Nat.le_refl _, (fun ad h => by cases h), H.out, (fun ad h => ⟨ad, h, rfl⟩), grown_refl _ _⟩
set_option maxHeartbeats 400000 in
theorem take_anyS (g : Nat) (A : Option Addr) (l : List (BitVec 8)) (cap : Nat) (e width : Int) (w : World) (h : RdAt w g A l cap e) (hl : l.length ≤ 140737488351232) :
    Calls Tryd.prog 35 #[.pointer (some ⟨g, 0, none⟩), .int .i64 width] w (TakeS w g A (rp l e (hw width))) := by
  have hk := hw_bd width
  have HC := Kit.hid (part_anyS g A l cap e (hw width) w h hl)
  have hlen := rp_len l e (hw width)
  obtain ⟨r, hr⟩ : ∃ r, r = rp l e (hw width) := ⟨_, rfl⟩
  rw [← hr] at hlen HC ⊢
  obtain ⟨p, hp⟩ : ∃ p, p = r.1 := ⟨_, rfl⟩
  have HP : Hid (p = r.1) := hp
  rw [← hp] at hlen
  have hp8 : p.length ≤ 8 := by omega
  clear hr hp hlen
  go_enter Tryd.func35, Tryd.ntmps35
  go_wp2
  refine scope_label 0 (fun a' wr => ∃ (j m c : Nat) (B : Option Addr) (u8 u9 u10 u11 u12 u13 u14 u15 u16 u17 u18 u19 u20 u21 u22 u23 u24 u25 u26 : Value),
    a' = { tmps := #[.pointer (some ⟨g, 0, none⟩), .int .i64 width, undef, undef, .int .u64 0, .slice B p.length c, .int .u64 m, .int .i64 j, u8, u9, u10, u11, u12, u13, u14, u15, u16, u17, u18, u19, u20, u21, u22, u23, u24, u25, u26], defers := [] } ∧
    Hid (Bytes wr B p) ∧ p.length ≤ c ∧ j ≤ p.length ∧ Hid (m = num (p.drop j)) ∧ Hid (TakeS w g A r (.returned (.int .u64 (num r.1))) wr)) (fun a' _ => (intOf (a'.tmps.getD 7 undef)).toNat) rfl ?_ ?_
  · rintro a' wr ⟨j, m, c, B, u8, u9, u10, u11, u12, u13, u14, u15, u16, u17, u18, u19, u20, u21, u22, u23, u24, u25, u26, rfl, hb, hc, hj, hm, hd⟩
    by_cases hz : j = 0
    · subst hz
      have h0 : ((0 : Int) == 0) = true := rfl
      go_wp2
      simp only [Exit.jump]
      go_ret
      have h1 := hm.out
      rw [List.drop_zero, HP.out] at h1
      rw [h1]
      exact hd.out
    · obtain ⟨i, rfl⟩ : ∃ i, j = i + 1 := ⟨j - 1, by omega⟩
      have h0 : (((i + 1 : Nat) : Int) == 0) = false := beq_eq_false_iff_ne.2 (by omega)
      have h1 : ((i : Int) + 1 == 0) = false := beq_eq_false_iff_ne.2 (by omega)
      obtain ⟨ad, rfl, hcell⟩ := hb.out i (by omega)
      obtain ⟨b, hbb⟩ : ∃ b, b = p[i]'(by omega) := ⟨_, rfl⟩
      rw [← hbb] at hcell
      have bb := b.isLt
      have hmlt : m < 72057594037927936 := by
        have h := num_lt (p.drop (i + 1))
        rw [← hm.out, List.length_drop] at h
        have h3 : 256 ^ (p.length - (i + 1)) ≤ 256 ^ 7 := Nat.pow_le_pow_right (by decide) (by omega)
        have h4 : (256 : Nat) ^ 7 = 72057594037927936 := by decide
        omega
      have HN : Hid (m * 256 + b.toNat = num (p.drop i)) := by
        show _ = _
        rw [hm.out, hbb, List.drop_eq_getElem_cons (by omega : i < p.length), num_snoc]
        omega
      have e1 : ((m : Int) * 256) % 18446744073709551616 = ((m * 256 : Nat) : Int) := by omega
      have e2 : Go.bits .or .u64 ((m : Int) * 256) (b.toNat : Int) = ((m * 256 + b.toNat : Nat) : Int) := by
        rw [Go.bits_join .u64 64 (by decide) wraps_u64 8 _ _ (by omega) (by omega) (by omega) (by omega) (by omega) (by omega)]
        omega
      clear hbb hm
      go_wp2
      rw [show ((m : Int) * 256 + (b.toNat : Int)) = ((m * 256 + b.toNat : Nat) : Int) from by omega]
      go_step3
      refine ⟨rfl, ⟨i, m * 256 + b.toNat, c, _, _, _, _, _, _, _, _, _, _, _, _, _, _, _, _, _, _, _, _, ⟨by first | rfl | (congr 1), hb, hc, by omega, HN, hd⟩⟩, ?_⟩
      simp [intOf]
  · intro HF
    go_wp2_with (first
      | (go_at_call 38; refine (held_any width _).mono ?_; rintro e w' ⟨rfl, rfl⟩)
      | (go_at_call 22; refine HC.out.mono ?_; rintro e w' ⟨B, c, A', cap', rfl, hB, hcB, hfar, hR, hK, hG⟩; rw [← HP.out] at hB hcB; have HT := Kit.hid (show TakeS w g A r (.returned (.int .u64 (num r.1))) w' from ⟨A', cap', rfl, hR, hK, hG⟩); rw [← HP.out]))
    go_step3
    rename_i K hK
    refine hK _ _ ?_
    exact HF.out _ _ ⟨p.length, 0, c, B, _, _, _, _, _, _, _, _, _, _, _, _, _, _, _, _, _, _, _, ⟨rfl, hB, hcB, Nat.le_refl _, Kit.hid (by simp [num]), HT⟩⟩

end Go.Proofs.YtlmbghemlphoaaaDoor.Le
