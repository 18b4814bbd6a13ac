/- The walk of the table. -/
import Derived.Test.YtlmbghemlphoaaaDoorPaR
import Derived.Test.YtlmbghemlphoaaaDoorPaE
import Derived.Test.YtlmbghemlphoaaaDoorOwnS
import Derived.OwnWalk
namespace Go.Proofs.YtlmbghemlphoaaaDoor.Pa
open Go.RowKit Go.Proofs.YtlmbghemlphoaaaDoor.Kit Go.Proofs.YtlmbghemlphoaaaDoor.PaM Go.Proofs.YtlmbghemlphoaaaDoor.Le Go.IntWalk
set_option linter.unusedVariables false
set_option linter.unusedSimpArgs false
/-- Entries, flat in memory. -/
def flatE : List Ent → List Value
  | [] => []
  | x :: l => .int .i64 (x.kind : Int) :: .int .i64 (x.size : Int) :: .int .u64 (x.check : Int) :: flatE l
theorem flatE_length : ∀ l : List Ent, (flatE l).length = l.length * 3
  | [] => rfl
  | x :: l => by simp only [flatE, List.length_cons, flatE_length l]; omega
theorem flatE_append : ∀ l k : List Ent, flatE (l ++ k) = flatE l ++ flatE k
  | [], _ => rfl
  | x :: l, k => by simp only [List.cons_append, flatE, flatE_append l k]
theorem flatE_one : ∀ (l : List Ent), ∀ u ∈ flatE l, u.oneCell' = true
  | [], u, h => by cases h
  | x :: l, u, h => by
    simp only [flatE, List.mem_cons] at h
    rcases h with rfl | rfl | rfl | h
    · rfl
    · rfl
    · rfl
    · exact flatE_one l u h
theorem infoE : (Tryd.prog.info? 49).map (fun i => (i.zero, i.size, i.bytes)) = some (some (.agg #[.int .i64 0, .int .i64 0, .int .u64 0]), 3, 24) := by kernel_rfl
theorem litE (w : World) (x : Ent) : Cells (w.alloc (.cells #[.int .i64 (x.kind : Int), .int .i64 (x.size : Int), .int .u64 (x.check : Int)] 49)) (some ⟨w.heap.size, 0, none⟩) (flatE [x]) := by
  have h := World.ownsRow_lit (base := 0) (e := 49) (size := 3) w #[.int .i64 (x.kind : Int), .int .i64 (x.size : Int), .int .u64 (x.check : Int)] 1 (Nat.zero_le _) (by decide) rfl
  obtain ⟨A, cap, hv, hc, _⟩ := own_readsS (by decide) h
  cases hv
  exact hc
/-- A reader, and where its bytes lie: both the call's own, and apart from a row. -/
structure Rd (B : Nat) (w : World) (g gb : Nat) (l : List (BitVec 8)) : Prop where
  at_ : ∃ (A : Option Addr) (cap : Nat), RdAt w g A l cap 0 ∧ ∀ ad, A = some ad → ad.block = gb
  own : B ≤ g
  lt : g < w.heap.size
  ownb : B ≤ gb
  ltb : gb < w.heap.size
theorem rp_ok {l : List (BitVec 8)} {m : Nat} (h : m ≤ l.length) : rp l 0 (m : Int) = (l.take m, l.drop m, 0) := by
  unfold rp
  rw [if_neg (by decide), if_neg (by omega), if_neg (by omega)]
  simp
theorem Rd.grown {B : Nat} {w w' : World} {g gb : Nat} {l : List (BitVec 8)} {row : Option Nat} (h : Rd B w g gb l) (hg : w.grownBy w' row) (h1 : row ≠ some g) (h2 : row ≠ some gb) : Rd B w' g gb l := by
  obtain ⟨A, cap, hr, hb⟩ := h.at_
  refine ⟨⟨A, cap, ⟨blk_grown hr.blk hg h1, ?_, hr.room, hr.far⟩, hb⟩, h.own, Nat.lt_of_lt_of_le h.lt hg.size, h.ownb, Nat.lt_of_lt_of_le h.ltb hg.size⟩
  intro i hi
  obtain ⟨ad, hA, hc⟩ := hr.bytes.out i hi
  refine ⟨ad, hA, ?_⟩
  rw [← hc]
  refine World.cell?_of_block ?_
  have : (ad.add i).block = gb := by rw [add_block]; exact hb ad hA
  rw [this]
  exact hg.block gb h.ltb (fun e => h2 e.symm)
theorem Rd.below {B : Nat} {w w' : World} {g gb : Nat} {l : List (BitVec 8)} (h : Rd B w g gb l) (hb : Below w.heap.size w w') : Rd B w' g gb l :=
  h.grown (below_none hb) (fun e => by cases e) (fun e => by cases e)
theorem Rd.lt_le {B : Nat} {w : World} {g gb : Nat} {l : List (BitVec 8)} (h : Rd B w g gb l) : B ≤ w.heap.size := Nat.le_of_lt (Nat.lt_of_le_of_lt h.own h.lt)
theorem Rd.own_row {B : Nat} {w : World} {g gb : Nat} {l : List (BitVec 8)} (h : Rd B w g gb l) : ∀ k, some g = some k → B ≤ k := fun k e => by cases e; exact h.own
def RdTake (B : Nat) (w : World) (g gb : Nat) (l : List (BitVec 8)) (m : Nat) (e : Ending) (w' : World) : Prop :=
  e = .returned (.int .u64 (LeM.num (l.take m) : Int)) ∧ Rd B w' g gb (l.drop m) ∧ w.grownBy w' (some g)
theorem rd_take {B : Nat} {w : World} {g gb : Nat} {l : List (BitVec 8)} (h : Rd B w g gb l) (m : Nat) (width : Int) (hm : LeM.hw width = m) (hml : m ≤ l.length) (hl : l.length ≤ 140737488351232) :
    Calls Tryd.prog 35 #[.pointer (some ⟨g, 0, none⟩), .int .i64 width] w (RdTake B w g gb l m) := by
  obtain ⟨A, cap, hr, hb⟩ := h.at_
  have hc := take_anyS g A l cap 0 width w hr hl
  rw [hm, rp_ok hml] at hc
  refine hc.mono ?_
  rintro e w' ⟨A', cap', rfl, hr', hk, hg⟩
  exact ⟨rfl, ⟨⟨A', cap', hr', fun ad ha => by obtain ⟨a0, h0, h1⟩ := hk ad ha; rw [h1]; exact hb a0 h0⟩, h.own, Nat.lt_of_lt_of_le h.lt hg.size, h.ownb, Nat.lt_of_lt_of_le h.ltb hg.size⟩, hg⟩
def RdPart (B : Nat) (w : World) (g gb : Nat) (l : List (BitVec 8)) (m : Nat) (e : Ending) (w' : World) : Prop :=
  ∃ (P : Option Addr) (c : Nat), e = .returned (.slice P (l.take m).length c) ∧ Hid (Bytes w' P (l.take m)) ∧ (l.take m).length ≤ c ∧ (∀ ad, P = some ad → ad.block = gb) ∧ Rd B w' g gb (l.drop m) ∧ w.grownBy w' (some g)
theorem rd_part {B : Nat} {w : World} {g gb : Nat} {l : List (BitVec 8)} (h : Rd B w g gb l) (m : Nat) (hml : m ≤ l.length) (hl : l.length ≤ 140737488351232) :
    Calls Tryd.prog 22 #[.pointer (some ⟨g, 0, none⟩), .int .i64 m] w (RdPart B w g gb l m) := by
  obtain ⟨A, cap, hr, hb⟩ := h.at_
  have hc := part_anyS g A l cap 0 m w hr hl
  rw [rp_ok hml] at hc
  refine hc.mono ?_
  rintro e w' ⟨P, c, A', cap', rfl, hB, hcl, hk0, hr', hk, hg⟩
  exact ⟨P, c, rfl, hB, hcl, fun ad ha => by (obtain ⟨a0, h0, h1⟩ := hk0 ad ha; rw [h1]; exact hb a0 h0), ⟨⟨A', cap', hr', fun ad ha => by obtain ⟨a0, h0, h1⟩ := hk ad ha; rw [h1]; exact hb a0 h0⟩, h.own, Nat.lt_of_lt_of_le h.lt hg.size, h.ownb, Nat.lt_of_lt_of_le h.ltb hg.size⟩, hg⟩
def RdNew (w : World) (l : List (BitVec 8)) (e : Ending) (w' : World) : Prop :=
  ∃ g gb : Nat, e = .returned (.pointer (some ⟨g, 0, none⟩)) ∧ g ≠ gb ∧ Rd w.heap.size w' g gb l ∧ Below w.heap.size w w'
theorem rd_new (A : Option Addr) (l : List (BitVec 8)) (cap : Nat) (w : World) (hb : Hid (Bytes w A l)) (h0 : 0 < l.length) (hl : l.length ≤ 140737488351232) :
    Calls Tryd.prog 34 #[.slice A l.length cap] w (RdNew w l) := by
  refine (Le.new_any A l cap w hb hl).mono ?_
  rintro e w' ⟨g, A', cap', rfl, hg, hA, hr, hbw⟩
  obtain ⟨ad, hA', hc⟩ := hr.bytes.out 0 h0
  have hlt : ad.block < w'.heap.size := by
    have := cell_lt hc
    rw [add_block] at this
    exact this
  refine ⟨g, ad.block, rfl, fun e => hr.far ad hA' e.symm, ⟨⟨A', cap', hr, fun a ha => by rw [hA'] at ha; cases ha; rfl⟩, hg, blk_lt hr.blk, hA ad hA', hlt⟩, hbw⟩
end Go.Proofs.YtlmbghemlphoaaaDoor.Pa
