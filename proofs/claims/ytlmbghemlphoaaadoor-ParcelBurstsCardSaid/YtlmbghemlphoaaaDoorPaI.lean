/- The walks of bytes.Equal and bytes.HasPrefix, at a parcel's first four bytes. -/
import Derived.Test.YtlmbghemlphoaaaDoorPaG
import Derived.Test.YtlmbghemlphoaaaDoorPaS
import Derived.Laws.BytesArg
import Derived.Laws.StructEq
namespace Go.Proofs.YtlmbghemlphoaaaDoor.Pa
open Go.RowKit Go.Proofs.YtlmbghemlphoaaaDoor.Kit Go.Proofs.YtlmbghemlphoaaaDoor.PaM
set_option linter.unusedVariables false
set_option linter.unusedSimpArgs false
def strB (l : List (BitVec 8)) : ByteArray := strOfNums (l.map fun b => (b.toNat : Int))
theorem strB_list (l : List (BitVec 8)) : (strB l).data.toList = l.map fun b => UInt8.ofNat b.toNat := by
  unfold strB
  rw [strOfNums_data, List.map_map]
  rfl
theorem strB_inj {l m : List (BitVec 8)} : ((strB l).toList == (strB m).toList) = decide (l = m) := by
  rw [ByteArray.toList_eq, ByteArray.toList_eq, strB_list, strB_list]
  have id' : ∀ l : List (BitVec 8), l.map ((fun u : UInt8 => BitVec.ofNat 8 u.toNat) ∘ fun b : BitVec 8 => UInt8.ofNat b.toNat) = l := by
    intro l
    conv => rhs; rw [← List.map_id l]
    apply List.map_congr_left
    intro b _
    apply BitVec.eq_of_toNat_eq
    have := b.isLt
    simp [UInt8.toNat_ofNat]
  by_cases e : l = m
  · subst e
    simp
  · rw [decide_eq_false e]
    refine beq_eq_false_iff_ne.2 (fun x => e ?_)
    have h1 := congrArg (List.map fun u : UInt8 => BitVec.ofNat 8 u.toNat) x
    rw [List.map_map, List.map_map, id', id'] at h1
    exact h1
theorem conv_str (A : Option Addr) (l : List (BitVec 8)) (cap : Nat) (w : World) (hb : Hid (Bytes w A l)) :
    (convert 22 9 (.slice A l.length cap)).run Tryd.prog w = .ok (.string (strB l)) w := by
  cases A with
  | none =>
    obtain rfl : l = [] := by
      cases l with
      | nil => rfl
      | cons b l =>
        obtain ⟨ad, h, _⟩ := hb.out 0 (by simp)
        cases h
    exact run_convert_bytes_nil w 22 5 Tryd.underlying22 Tryd.underlying5 0 cap 9 Tryd.underlying9
  | some ad =>
    have hl : (loadCells ad l.length).run Tryd.prog w = .ok ((l.map fun b => (b.toNat : Int)).map (Value.int .u8)).toArray w := by
      have := run_loadCells_list (P := Tryd.prog) w ad ((l.map fun b => (b.toNat : Int)).map (Value.int .u8)) (fun j v hj => by
        have hjl : j < l.length := by
          have := (List.getElem?_eq_some_iff.1 hj).1
          simpa using this
        obtain ⟨ad', h, hc⟩ := hb.out j hjl
        cases h
        rw [hc]
        simp [List.getElem?_eq_getElem hjl] at hj
        rw [← hj])
      simpa using this
    rw [run_convert_bytes_string w 22 9 5 (some ad) l.length cap Tryd.underlying22 Tryd.underlying5 Tryd.underlying9, run_bytesToString w _ l.length cap _ hl, foldl_push_bytes]
    simp [strB, strOfNums, ByteArray.empty, ByteArray.emptyWithCapacity]
    rfl
theorem equal_any (A : Option Addr) (l : List (BitVec 8)) (c : Nat) (B : Option Addr) (m : List (BitVec 8)) (d : Nat) (w : World) (ha : Hid (Bytes w A l)) (hb : Hid (Bytes w B m)) :
    Calls Tryd.prog 33 #[.slice A l.length c, .slice B m.length d] w fun e w' => e = .returned (.bool (decide (l = m))) ∧ w = w' := by
  have h1 := conv_str A l c w ha
  have h2 := conv_str B m d w hb
  have h3 := strB_inj (l := l) (m := m)
  obtain ⟨r, hr⟩ : ∃ r, r = decide (l = m) := ⟨_, rfl⟩
  rw [← hr] at h3 ⊢
  clear hr ha hb
  go_enter Tryd.func33, Tryd.ntmps33
  go_wp2
  go_ret
  exact ⟨by simp [← h3], rfl⟩
/-- At bytes that are at least as many as the prefix: it is compared with their first ones. -/
theorem prefix_any (A : Option Addr) (l : List (BitVec 8)) (c : Nat) (B : Option Addr) (m : List (BitVec 8)) (d : Nat) (w : World) (ha : Hid (Bytes w A l)) (hb : Hid (Bytes w B m)) (hle : m.length ≤ l.length) (hc : l.length ≤ c) (hlm : l.length ≤ 140737488351232) :
    Calls Tryd.prog 19 #[.slice A l.length c, .slice B m.length d] w fun e w' => e = .returned (.bool (decide (l.take m.length = m))) ∧ w = w' := by
  have HE : Hid (∀ c', Calls Tryd.prog 33 #[.slice A m.length c', .slice B m.length d] w fun e w' => e = .returned (.bool (decide (l.take m.length = m))) ∧ w = w') :=
    Kit.hid (fun c' => by
      have := equal_any A (l.take m.length) c' B m d w (Le.bytes_take ha _) hb
      rw [List.length_take, Nat.min_eq_left hle] at this
      exact this)
  obtain ⟨r, hr⟩ : ∃ r, r = decide (l.take m.length = m) := ⟨_, rfl⟩
  rw [← hr] at HE ⊢
  have g1 : (m.length : Int) ≤ (l.length : Int) := by omega
  have g2 : (m.length : Int) ≤ (c : Int) := by omega
  have g3 : (0 : Int) ≤ (m.length : Int) := by omega
  clear hr ha hb
  go_enter Tryd.func19, Tryd.ntmps19
  go_wp2_with (go_at_call 33; refine (HE.out _).mono ?_; rintro e w1 ⟨rfl, rfl⟩)
  go_ret
  exact ⟨by simp, rfl⟩
end Go.Proofs.YtlmbghemlphoaaaDoor.Pa
