/- The walks of le.Sign and of the document's answer for le: digits, what bytes tell, whether they are the same. -/
import Derived.Test.YtlmbghemlphoaaaDoorLe
namespace Go.Proofs.YtlmbghemlphoaaaDoor.Le
open Go.RowKit Go.Proofs.YtlmbghemlphoaaaDoor.Kit Go.Proofs.YtlmbghemlphoaaaDoor.LeM
set_option linter.unusedVariables false
set_option linter.unusedSimpArgs false
theorem ret_int {k : IntKind} {a b : Int} (h : a = b) : Ending.returned (.int k a) = .returned (.int k b) := by rw [h]
theorem take_snoc {α : Type} {l : List α} {i : Nat} (h : i < l.length) : l.take (i + 1) = l.take i ++ [l[i]] := by
  rw [List.take_succ_eq_append_getElem h]
theorem wrap_u64 (n : Int) : IntKind.u64.wrap n = n % 18446744073709551616 := by simp [IntKind.wrap, IntKind.bits, IntKind.signed]
/-- The length in a slot: for a measure. -/
def lenV : Value → Nat | .slice _ n _ => n | _ => 0
theorem hw_cases (w : Int) : hw w = 1 ∨ hw w = 2 ∨ hw w = 3 ∨ hw w = 4 ∨ hw w = 5 ∨ hw w = 6 ∨ hw w = 7 ∨ hw w = 8 := by
  have := hw_bd w
  omega
set_option maxHeartbeats 400000 in
theorem rwidth_any (width : Int) (w : World) :
    Calls Tryd.prog 39 #[.int .i64 width] w fun e w' => e = .returned (.int .i64 (hw width)) ∧ w = w' := by
  obtain ⟨a, ha⟩ : ∃ a, (if 8 < width then 8 else width) = a := ⟨_, rfl⟩
  have hb : (if 1 < a then a else 1) = (hw width : Int) := by
    rw [← ha]
    unfold hw
    repeat' split
    all_goals omega
  go_enter Tryd.func39, Tryd.ntmps39
  go_wp2
  go_ret
  exact ⟨rfl, rfl⟩
theorem dig_snoc : ∀ (w n : Nat), dig n (w + 1) = dig n w ++ [BitVec.ofNat 8 (n / 256 ^ w)] := by
  intro w n
  rw [dig_add w 1 n]
  rfl
/-- What digits leave: a row of the call's own. -/
def DigPost (w : World) (l : List (BitVec 8)) (e : Ending) (w' : World) : Prop :=
  ∃ v', e = .returned v' ∧ w'.ownsRow w.heap.size 5 1 v' l.length (l.map byteV) ∧ Below w.heap.size w w'
set_option maxHeartbeats 400000 in
theorem digits_any (n : Nat) (width : Int) (w : World) (hn : n < 18446744073709551616) :
    Calls Tryd.prog 30 #[.int .u64 n, .int .i64 width] w (DigPost w (dig n (hw width))) := by
  have hk := hw_bd width
  have HC := Kit.hid (rwidth_any width)
  obtain ⟨k, hkk⟩ : ∃ k, k = hw width := ⟨_, rfl⟩
  rw [← hkk] at hk HC ⊢
  clear hkk
  have HP : Hid (∀ (e : Ending) (w' : World) (l' : List (BitVec 8)) (v' : Value), l' = dig n k → e = .returned v' → w'.ownsRow w.heap.size 5 1 v' l'.length (l'.map byteV) → Below w.heap.size w w' → DigPost w (dig n k) e w') := by
    show ∀ _ _ _ _, _
    intro e w' l' v' h1 h2 h3 h4
    rw [← h1]
    exact ⟨v', h2, h3, h4⟩
  go_enter Tryd.func30, Tryd.ntmps30
  go_wp2
  go_loopw [0, 5, 6] (fun v0 v5 v6 wr => ∃ (i m : Nat) (v' : Value), i ≤ k ∧ v6 = .int .i64 i ∧ v0 = .int .u64 m ∧ v5 = v' ∧ m < 18446744073709551616 ∧ Hid (m = n / 256 ^ i) ∧ Hid (wr.ownsRow w.heap.size 5 1 v' i ((dig n i).map byteV)) ∧ Hid (Below w.heap.size w wr)) (fun _ _ i _ => k - (intOf i).toNat)
  case atStart => exact ⟨0, n, .slice none 0 0, by omega, rfl, rfl, rfl, hn, Kit.hid (by simp), Kit.hid (World.ownsRow_nil _ _ _ _), Kit.hid (Below.refl _ _)⟩
  case round =>
    obtain ⟨i, m, v', hi, rfl, rfl, rfl, hm, hmm, ho, hb⟩ := hrel
    by_cases hlt : i < k
    · obtain ⟨b, hbb⟩ : ∃ b, b = BitVec.ofNat 8 m := ⟨_, rfl⟩
      have e1 : (m : Int) % 256 = (b.toNat : Int) := by
        rw [hbb, BitVec.toNat_ofNat]
        omega
      obtain ⟨q, hq⟩ : ∃ q, q = m / 256 := ⟨_, rfl⟩
      have e2 : (m : Int) / 256 = (q : Int) := by omega
      have hq2 : q < 18446744073709551616 := by omega
      have bb := b.isLt
      have HD : Hid (dig n (i + 1) = dig n i ++ [b]) := by
        show _ = _
        rw [dig_snoc, hbb, hmm.out]
      have HQ : Hid (q = n / 256 ^ (i + 1)) := by
        show _ = _
        rw [hq, hmm.out, Nat.div_div_eq_div_mul, Nat.pow_succ]
      clear hbb hq hmm
      have hown0 := ho.out.alloc (.cells #[.int .u8 (b.toNat : Int)] 5)
      have hnew : Cells (wr.alloc (.cells #[.int .u8 (b.toNat : Int)] 5)) (some ⟨wr.heap.size, 0, none⟩) [byteV b] := by
        intro i hi
        obtain rfl : i = 0 := by simpa using hi
        exact ⟨_, rfl, (blk_cell (blk_new wr (.cells #[.int .u8 (b.toNat : Int)] 5)) 0).trans rfl⟩
      have hBw : w.heap.size ≤ wr.heap.size := hb.out.size
      go_wp2_with (first
        | (go_at_call 39; refine (HC.out _).mono ?_; rintro e w' ⟨rfl, rfl⟩)
        | (at_builtin; refine wpList_append_src rfl _ _ 22 rfl w.heap.size 5 (.int .u8 0) 1 Tryd.underlying22 infoB rfl _ _ _ rfl hown0 (some ⟨wr.heap.size, 0, none⟩) 1 1 [byteV b] rfl rfl hnew (fun u hu => by simp at hu; subst hu; rfl) (by unfold maxLen; omega) (by omega) (by simp; omega) ?_
           intro v2 w2 hown2 hg2 hv2))
      go_roundw
      case rel =>
        refine ⟨i + 1, q, v2, by omega, by go_num, rfl, rfl, hq2, HQ, ?_, ?_⟩
        · rw [HD.out, List.map_append]
          exact Kit.hid hown2
        · exact Kit.hid (below_own (hb.out.alloc hBw _) hown0 hg2 (by simp; omega))
      case measure => simp [intOf]; omega
    · go_wp2_with (go_at_call 39; refine (HC.out _).mono ?_; rintro e w' ⟨rfl, rfl⟩)
      go_ret
      obtain rfl : i = k := by omega
      exact HP.out _ _ (dig n i) _ rfl rfl (by rw [dig_length]; exact ho.out) hb.out
end Go.Proofs.YtlmbghemlphoaaaDoor.Le
