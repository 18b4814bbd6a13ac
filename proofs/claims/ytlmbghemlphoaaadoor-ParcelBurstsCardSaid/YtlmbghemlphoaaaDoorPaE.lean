/- Two rows that a call owns side by side: one is grown, the other stays. -/
import Derived.Test.YtlmbghemlphoaaaDoorPaD
namespace Go.Proofs.YtlmbghemlphoaaaDoor.Pa
open Go.RowKit Go.Proofs.YtlmbghemlphoaaaDoor.Kit Go.Proofs.YtlmbghemlphoaaaDoor.PaM
set_option linter.unusedVariables false
set_option linter.unusedSimpArgs false
structure St (B : Nat) (w0 w : World) (vo : Value) (o : List (BitVec 8)) (vb : Value) (b : List (BitVec 8)) : Prop where
  oo : w.ownsRow B 5 1 vo o.length (o.map byteV)
  ob : w.ownsRow B 5 1 vb b.length (b.map byteV)
  ap : ∀ g, vo.ownBlock = some g → vb.ownBlock ≠ some g
  bel : Below B w0 w
  sz : B ≤ w.heap.size
theorem St.below {B : Nat} {w0 w w' : World} {vo vb : Value} {o b : List (BitVec 8)} (h : St B w0 w vo o vb b) (hb : Below w.heap.size w w') : St B w0 w' vo o vb b :=
  ⟨own_below h.oo hb, own_below h.ob hb, h.ap, h.bel.trans (hb.mono h.sz), Nat.le_trans h.sz hb.size⟩
theorem St.swap {B : Nat} {w0 w : World} {vo vb : Value} {o b : List (BitVec 8)} (h : St B w0 w vo o vb b) : St B w0 w vb b vo o :=
  ⟨h.ob, h.oo, fun g h1 h2 => h.ap g h2 h1, h.bel, h.sz⟩
theorem St.grow {B : Nat} {w0 w w' : World} {vo vb v' : Value} {o b o' : List (BitVec 8)} (h : St B w0 w vo o vb b) (hown : w'.ownsRow B 5 1 v' o'.length (o'.map byteV)) (hg : w.grownBy w' vo.ownBlock)
    (hc : v'.ownBlock = vo.ownBlock ∨ ∃ g, v'.ownBlock = some g ∧ w.heap.size ≤ g) : St B w0 w' v' o' vb b := by
  refine ⟨hown, own_kept h.ob hg ?_, ?_, below_own h.bel h.oo hg h.sz, Nat.le_trans h.sz hg.size⟩
  · cases hv : vb.ownBlock with
    | none => exact .inl rfl
    | some g => exact .inr (fun e => h.ap g e.symm hv)
  · intro g hv hb
    rcases hc with hc | ⟨g', hc, hle⟩
    · exact h.ap g (hc.symm.trans hv) hb
    · rw [hv] at hc
      cases hc
      have := (h.ob.lt g hb).2
      omega
/-- Another block stays. -/
theorem blk_grown {w w' : World} {g : Nat} {o : Obj} {row : Option Nat} (h : w.heap[g]? = some o) (hg : w.grownBy w' row) (hne : row ≠ some g) : w'.heap[g]? = some o := by
  rw [hg.block g (blk_lt h) (fun e => hne e.symm)]
  exact h
theorem St.apart {B : Nat} {w0 w : World} {vo vb : Value} {o b : List (BitVec 8)} (h : St B w0 w vo o vb b) : vo.ownBlock ≠ some w.heap.size ∧ vb.ownBlock ≠ some w.heap.size := by
  constructor
  · intro e
    have := (h.oo.lt _ e).2
    omega
  · intro e
    have := (h.ob.lt _ e).2
    omega
theorem grown_apart {w : World} {v v' : Value} {g : Nat} (hv : v.ownBlock ≠ some g) (hg : g < w.heap.size) (hc : v'.ownBlock = v.ownBlock ∨ ∃ g, v'.ownBlock = some g ∧ w.heap.size ≤ g) : v'.ownBlock ≠ some g := by
  rcases hc with hc | ⟨g', hc, hle⟩
  · rw [hc]; exact hv
  · rw [hc]
    intro e
    cases e
    omega
/-- The first row, as a call reads it. -/
theorem St.reads {B : Nat} {w0 w : World} {vo vb : Value} {o b : List (BitVec 8)} (h : St B w0 w vo o vb b) : ∃ (A : Option Addr) (cap : Nat), vo = .slice A o.length cap ∧ Hid (Bytes w A o) ∧ o.length ≤ cap := by
  obtain ⟨A, cap, rfl, hc, hle, _⟩ := own_reads h.oo
  exact ⟨A, cap, rfl, bytes_of_cells hc, hle⟩
end Go.Proofs.YtlmbghemlphoaaaDoor.Pa
