/- The walks of le's reader: numbers taken, what is left. -/
import Derived.Test.YtlmbghemlphoaaaDoorLeR
import Derived.Lib.EndianBits
import Derived.Lib.SliceRun
namespace Go.Proofs.YtlmbghemlphoaaaDoor.Le
open Go.RowKit Go.Proofs.YtlmbghemlphoaaaDoor.Kit Go.Proofs.YtlmbghemlphoaaaDoor.LeM
set_option linter.unusedVariables false
set_option linter.unusedSimpArgs false
/-- What a number taken from a reader leaves. -/
def TakePost (w : World) (g : Nat) (r : List (BitVec 8) × List (BitVec 8) × Int) (e : Ending) (w' : World) : Prop :=
  ∃ (A' : Option Addr) (cap' : Nat), e = .returned (.int .u64 (num r.1)) ∧ RdAt w' g A' r.2.1 cap' r.2.2 ∧ w.grownBy w' (some g)
theorem rp_len (l : List (BitVec 8)) (e : Int) (m : Nat) : (rp l e m).1.length ≤ m := by
  unfold rp
  repeat' split
  all_goals simp
  all_goals omega
theorem rp_left (l : List (BitVec 8)) (e m : Int) : (rp l e m).2.1.length ≤ l.length := by
  unfold rp
  repeat' split
  all_goals simp
set_option maxHeartbeats 400000 in
theorem take_any (g : Nat) (A : Option Addr) (l : List (BitVec 8)) (cap : Nat) (e width : Int) (w : World) (h : RdAt w g A l cap e) (hl : l.length ≤ 140737488351232) :
    Calls Tryd.prog 35 #[.pointer (some ⟨g, 0, none⟩), .int .i64 width] w (TakePost w g (rp l e (hw width))) := by
  have hk := hw_bd width
  have HC := Kit.hid (part_any g A l cap e (hw width) w h hl)
  have hlen := rp_len l e (hw width)
  obtain ⟨r, hr⟩ : ∃ r, r = rp l e (hw width) := ⟨_, rfl⟩
  rw [← hr] at hlen HC ⊢
  obtain ⟨p, hp⟩ : ∃ p, p = r.1 := ⟨_, rfl⟩
  have HP : Hid (p = r.1) := hp
  rw [← hp] at hlen
  have hp8 : p.length ≤ 8 := by omega
  clear hr hp hlen
  go_enter Tryd.func35, Tryd.ntmps35
  go_wp2
  refine scope_label 0 (fun a' wr => ∃ (j m c : Nat) (B : Option Addr) (u8 u9 u10 u11 u12 u13 u14 u15 u16 u17 u18 u19 u20 u21 u22 u23 u24 u25 u26 : Value),
    a' = { tmps := #[.pointer (some ⟨g, 0, none⟩), .int .i64 width, undef, undef, .int .u64 0, .slice B p.length c, .int .u64 m, .int .i64 j, u8, u9, u10, u11, u12, u13, u14, u15, u16, u17, u18, u19, u20, u21, u22, u23, u24, u25, u26], defers := [] } ∧
    Hid (Bytes wr B p) ∧ p.length ≤ c ∧ j ≤ p.length ∧ Hid (m = num (p.drop j)) ∧ Hid (TakePost w g r (.returned (.int .u64 (num r.1))) wr)) (fun a' _ => (intOf (a'.tmps.getD 7 undef)).toNat) rfl ?_ ?_
  · rintro a' wr ⟨j, m, c, B, u8, u9, u10, u11, u12, u13, u14, u15, u16, u17, u18, u19, u20, u21, u22, u23, u24, u25, u26, rfl, hb, hc, hj, hm, hd⟩
    by_cases hz : j = 0
    · subst hz
      have h0 : ((0 : Int) == 0) = true := rfl
      go_wp2
      simp only [Exit.jump]
      go_ret
      have h1 := hm.out
      rw [List.drop_zero, HP.out] at h1
      rw [h1]
      exact hd.out
    · obtain ⟨i, rfl⟩ : ∃ i, j = i + 1 := ⟨j - 1, by omega⟩
      have h0 : (((i + 1 : Nat) : Int) == 0) = false := beq_eq_false_iff_ne.2 (by omega)
      have h1 : ((i : Int) + 1 == 0) = false := beq_eq_false_iff_ne.2 (by omega)
      obtain ⟨ad, rfl, hcell⟩ := hb.out i (by omega)
      obtain ⟨b, hbb⟩ : ∃ b, b = p[i]'(by omega) := ⟨_, rfl⟩
      rw [← hbb] at hcell
      have bb := b.isLt
      have hmlt : m < 72057594037927936 := by
        have h := num_lt (p.drop (i + 1))
        rw [← hm.out, List.length_drop] at h
        have h3 : 256 ^ (p.length - (i + 1)) ≤ 256 ^ 7 := Nat.pow_le_pow_right (by decide) (by omega)
        have h4 : (256 : Nat) ^ 7 = 72057594037927936 := by decide
        omega
      have HN : Hid (m * 256 + b.toNat = num (p.drop i)) := by
        show _ = _
        rw [hm.out, hbb, List.drop_eq_getElem_cons (by omega : i < p.length), num_snoc]
        omega
      have e1 : ((m : Int) * 256) % 18446744073709551616 = ((m * 256 : Nat) : Int) := by omega
      have e2 : Go.bits .or .u64 ((m : Int) * 256) (b.toNat : Int) = ((m * 256 + b.toNat : Nat) : Int) := by
        rw [Go.bits_join .u64 64 (by decide) wraps_u64 8 _ _ (by omega) (by omega) (by omega) (by omega) (by omega) (by omega)]
        omega
      clear hbb hm
      go_wp2
      rw [show ((m : Int) * 256 + (b.toNat : Int)) = ((m * 256 + b.toNat : Nat) : Int) from by omega]
      go_step3
      refine ⟨rfl, ⟨i, m * 256 + b.toNat, c, _, _, _, _, _, _, _, _, _, _, _, _, _, _, _, _, _, _, _, _, ⟨by first | rfl | (congr 1), hb, hc, by omega, HN, hd⟩⟩, ?_⟩
      simp [intOf]
  · intro HF
    go_wp2_with (first
      | (go_at_call 38; refine (held_any width _).mono ?_; rintro e w' ⟨rfl, rfl⟩)
      | (go_at_call 22; refine HC.out.mono ?_; rintro e w' ⟨B, c, A', cap', rfl, hB, hcB, hfar, hR, hG⟩; rw [← HP.out] at hB hcB; have HT := Kit.hid (show TakePost w g r (.returned (.int .u64 (num r.1))) w' from ⟨A', cap', rfl, hR, hG⟩); rw [← HP.out]))
    go_step3
    rename_i K hK
    refine hK _ _ ?_
    exact HF.out _ _ ⟨p.length, 0, c, B, _, _, _, _, _, _, _, _, _, _, _, _, _, _, _, _, _, _, _, ⟨rfl, hB, hcB, Nat.le_refl _, Kit.hid (by simp [num]), HT⟩⟩

/-- What is wrong at the end. -/
def endOf (l : List (BitVec 8)) (e : Int) : Int := if e = 0 ∧ 0 < l.length then 3 else e
theorem end_any (g : Nat) (A : Option Addr) (l : List (BitVec 8)) (cap : Nat) (e : Int) (w : World) (h : Hid (RdAt w g A l cap e)) :
    Calls Tryd.prog 23 #[.pointer (some ⟨g, 0, none⟩)] w fun en w' => en = .returned (.int .i64 (endOf l e)) ∧ w = w' := by
  have c0 : w.cell? ⟨g, 0, none⟩ = some (.slice A l.length cap) := (blk_cell h.out.blk 0).trans rfl
  have c1 : w.cell? ⟨g, 1, none⟩ = some (.int .i64 e) := (blk_cell h.out.blk 1).trans rfl
  by_cases he : e = 0
  · subst he
    have g1 : ((0 : Int) == 0) = true := rfl
    by_cases hl : 0 < l.length
    · have HQ : Hid (endOf l 0 = 3) := by
        show _ = _
        unfold endOf
        rw [if_pos ⟨rfl, hl⟩]
      go_enter Tryd.func23, Tryd.ntmps23
      go_wp2
      go_ret
      exact ⟨ret_int HQ.out.symm, rfl⟩
    · have HQ : Hid (endOf l 0 = 0) := by
        show _ = _
        unfold endOf
        rw [if_neg (by omega)]
      go_enter Tryd.func23, Tryd.ntmps23
      go_wp2
      go_ret
      exact ⟨ret_int HQ.out.symm, rfl⟩
  · have HQ : Hid (endOf l e = e) := by
      show _ = _
      unfold endOf
      rw [if_neg (by omega)]
    have g1 : (e == 0) = false := by simp [he]
    clear he
    go_enter Tryd.func23, Tryd.ntmps23
    go_wp2
    go_ret
    exact ⟨ret_int HQ.out.symm, rfl⟩
/-- What a reader that is made is. -/
def NewPost (w : World) (l : List (BitVec 8)) (e : Ending) (w' : World) : Prop :=
  ∃ (g : Nat) (A : Option Addr) (cap : Nat), e = .returned (.pointer (some ⟨g, 0, none⟩)) ∧ w.heap.size ≤ g ∧ (∀ ad, A = some ad → w.heap.size ≤ ad.block) ∧ RdAt w' g A l cap 0 ∧ Below w.heap.size w w'
/-- What a copy is. -/
def ClonePost (w : World) (l : List (BitVec 8)) (e : Ending) (w' : World) : Prop :=
  ∃ (A : Option Addr) (cap : Nat), e = .returned (.slice A l.length cap) ∧ (∀ ad, A = some ad → w.heap.size ≤ ad.block ∧ ad.block < w'.heap.size) ∧ l.length ≤ cap ∧ Hid (Bytes w' A l) ∧ Below w.heap.size w w'
theorem clone_any (A : Option Addr) (l : List (BitVec 8)) (cap : Nat) (w : World) (hb : Hid (Bytes w A l)) (hl : l.length ≤ 140737488351232) :
    Calls Tryd.prog 40 #[.slice A l.length cap] w (ClonePost w l) := by
  cases A with
  | none =>
    obtain rfl := bytes_none hb
    have hnil := Go.Lib.run_eql_slice_nil (P := Tryd.prog) w 22 5 none 0 cap 0 0 Tryd.underlying22
    go_enter Tryd.func40, Tryd.ntmps40
    go_wp2
    go_ret
    exact ⟨none, 0, rfl, (fun ad h => by cases h), Nat.le_refl _, bytes_nil _ _, Below.refl _ _⟩
  | some ad =>
    have hown0 := World.ownsRow_lit (base := w.heap.size) (e := 5) (size := 1) w #[] 0 (Nat.le_refl _) (by decide) rfl
    have hnil := Go.Lib.run_eql_slice_nil (P := Tryd.prog) w 22 5 (some ad) l.length cap 0 0 Tryd.underlying22
    go_enter Tryd.func40, Tryd.ntmps40
    go_wp2_with (first | (at_builtin; (refine wpList_append_src rfl _ _ 22 rfl w.heap.size 5 (.int .u8 0) 1 Tryd.underlying22 infoB rfl _ 0 _ rfl hown0 (some ad) l.length cap (l.map byteV) rfl (by simp) (cells_of_bytes (bytes_below hb ((Below.refl _ _).alloc (Nat.le_refl _) _))) (one_byteV _) (by unfold maxLen; omega) (by omega) (by simp) ?_)
                          intro v2 w2 hown2 hg2 _
                          have hd2 := below_own ((Below.refl _ _).alloc (Nat.le_refl _) _) hown0 hg2 (by simp)
                          rw [Nat.zero_add] at hown2
                          obtain ⟨A3, cap3, rfl, hc3, hcap3, hf3⟩ := own_reads hown2
                          have hB3 := bytes_of_cells (l := l) (by simpa using hc3)))
    go_ret
    refine ⟨A3, cap3, rfl, fun a ha => ?_, hcap3, hB3, hd2⟩
    rcases hf3 with ⟨rfl, _⟩ | ⟨g, rfl, h1, h2⟩
    · cases ha
    · cases ha
      exact ⟨h1, h2⟩
theorem new_any (A : Option Addr) (l : List (BitVec 8)) (cap : Nat) (w : World) (hb : Hid (Bytes w A l)) (hl : l.length ≤ 140737488351232) :
    Calls Tryd.prog 34 #[.slice A l.length cap] w (NewPost w l) := by
  have HC := Kit.hid (clone_any A l cap w hb hl)
  go_enter Tryd.func34, Tryd.ntmps34
  go_wp2_with (go_at_call 40; refine HC.out.mono ?_; rintro e w' ⟨A', cap', rfl, hA, hcap, hB, hd⟩)
  go_ret
  refine ⟨w'.heap.size, A', cap', rfl, hd.size, fun ad h => (hA ad h).1, ⟨blk_new _ _, bytes_below hB ((Below.refl _ _).alloc (Nat.le_refl _) _), hcap, fun ad h => Nat.ne_of_lt (hA ad h).2⟩, hd.alloc hd.size _⟩
end Go.Proofs.YtlmbghemlphoaaaDoor.Le
