/- The walks of the document's reader, and of bytes compared. -/
import Derived.Test.YtlmbghemlphoaaaDoorLeT
namespace Go.Proofs.YtlmbghemlphoaaaDoor.Le
open Go.RowKit Go.Proofs.YtlmbghemlphoaaaDoor.Kit Go.Proofs.YtlmbghemlphoaaaDoor.LeM
set_option linter.unusedVariables false
set_option linter.unusedSimpArgs false
theorem take_succ_eq {l m : List (BitVec 8)} {k : Nat} (hl : k < l.length) (hm : k < m.length) : (l.take (k + 1) = m.take (k + 1)) ↔ (l.take k = m.take k ∧ l[k] = m[k]) := by
  rw [take_snoc hl, take_snoc hm]
  constructor
  · intro h
    have h2 := List.append_inj h (by simp; omega)
    exact ⟨h2.1, by simpa using h2.2⟩
  · rintro ⟨h1, h2⟩
    rw [h1, h2]
set_option maxHeartbeats 400000 in
theorem same_any (A : Option Addr) (l : List (BitVec 8)) (c : Nat) (B : Option Addr) (m : List (BitVec 8)) (d : Nat) (w : World) (ha : Hid (Bytes w A l)) (hb : Hid (Bytes w B m)) (hl : l.length ≤ 140737488351232) (hm : m.length ≤ 140737488351232) :
    Calls Tryd.prog 15 #[.slice A l.length c, .slice B m.length d] w fun e w' => e = .returned (.bool (decide (l = m))) ∧ ∃ n, w' = w.drewN n := by
  by_cases hne : l.length = m.length
  · have g0 : ((l.length : Int) != (m.length : Int)) = false := by simp [hne]
    have HE := Kit.hid hne
    clear hne
    go_enter Tryd.func15, Tryd.ntmps15
    go_wp2
    go_loopw [5] (fun v5 wr => ∃ (k : Nat), k ≤ l.length ∧ v5 = .int .i64 k ∧ Hid (l.take k = m.take k) ∧ Hid (∃ n, wr = w.drewN n)) (fun i _ => l.length - (intOf i).toNat)
    case atStart => exact ⟨0, by omega, rfl, Kit.hid rfl, Kit.hid ⟨0, rfl⟩⟩
    case round =>
      obtain ⟨k, hk, rfl, hq, hw⟩ := hrel
      obtain ⟨n, rfl⟩ := hw.out
      by_cases hlt : k < l.length
      · have hlm : k < m.length := by have := HE.out; omega
        obtain ⟨ad, rfl, ca⟩ := ha.out k hlt
        obtain ⟨bd, rfl, cb⟩ := hb.out k hlm
        have ca' : (w.drewN n).cell? (ad.add k) = some (.int .u8 (l[k].toNat : Int)) := ca
        have cb' : (w.drewN n).cell? (bd.add k) = some (.int .u8 (m[k].toNat : Int)) := cb
        have HX := Kit.hid (take_succ_eq hlt hlm)
        obtain ⟨x, hx⟩ : ∃ x, x = l[k] := ⟨_, rfl⟩
        obtain ⟨y, hy⟩ : ∃ y, y = m[k] := ⟨_, rfl⟩
        rw [← hx] at ca ca'
        rw [← hy] at cb cb'
        rw [← hx, ← hy] at HX
        have bx := x.isLt
        have by_ := y.isLt
        by_cases he : x = y
        · have HN := Kit.hid (HX.out.2 ⟨hq.out, he⟩)
          have g1 : ((x.toNat : Int) != (y.toNat : Int)) = false := by simp [he]
          clear hx hy he
          go_wp2
          go_region
          go_wp2
          go_roundw
          case rel => exact ⟨k + 1, by omega, by go_num, HN, Kit.hid ⟨n + 1, rfl⟩⟩
          case measure => simp [intOf]; omega
        · have HN : Hid (decide (l = m) = false) := by
            refine Kit.hid (decide_eq_false fun h => he ?_)
            subst h
            rw [hx, hy]
          have g1 : ((x.toNat : Int) != (y.toNat : Int)) = true := by
            have : x.toNat ≠ y.toNat := fun h => he (BitVec.eq_of_toNat_eq h)
            simp
            omega
          clear hx hy he
          go_wp2
          go_region
          go_wp2
          go_ret
          rw [HN.out]
          exact ⟨rfl, n + 1, rfl⟩
      · have HN : Hid (decide (l = m) = true) := by
          refine Kit.hid (decide_eq_true ?_)
          have h := hq.out
          have h2 := HE.out
          rw [List.take_of_length_le (by omega), List.take_of_length_le (by omega)] at h
          exact h
        go_wp2
        go_ret
        rw [HN.out]
        exact ⟨rfl, n, rfl⟩
  · have g0 : ((l.length : Int) != (m.length : Int)) = true := by
      simp
      omega
    have HN : Hid (decide (l = m) = false) := Kit.hid (decide_eq_false fun h => hne (by rw [h]))
    clear hne
    go_enter Tryd.func15, Tryd.ntmps15
    go_wp2
    go_ret
    rw [HN.out]
    exact ⟨rfl, 0, rfl⟩
theorem grown_drewN {a b : World} {row : Option Nat} (h : a.grownBy b row) (n : Nat) : a.grownBy (b.drewN n) row := ⟨h.os, h.tape, h.output, h.size, h.block⟩
theorem rd_below {w w1 : World} {g : Nat} {A : Option Addr} {l : List (BitVec 8)} {cap : Nat} {e : Int} (h : RdAt w g A l cap e) (hb : Below w.heap.size w w1) : RdAt w1 g A l cap e :=
  ⟨blk_below h.blk hb, bytes_below h.bytes hb, h.room, h.far⟩
theorem bytes_new (w : World) (cs : Array Value) (t : TypeId) (l : List (BitVec 8)) (h : cs.toList = l.map byteV) : Hid (Bytes (w.alloc (.cells cs t)) (some ⟨w.heap.size, 0, none⟩) l) := by
  intro i hi
  refine ⟨_, rfl, ?_⟩
  rw [add_lit]
  refine (blk_cell (blk_new w (.cells cs t)) i).trans ?_
  rw [← Array.getElem?_toList, h, List.getElem?_map, List.getElem?_eq_getElem hi]
  rfl
end Go.Proofs.YtlmbghemlphoaaaDoor.Le
