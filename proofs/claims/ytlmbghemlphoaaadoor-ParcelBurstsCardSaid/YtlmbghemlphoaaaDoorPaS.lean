/- Sections in memory: a slice of them, opened. -/
import Derived.Test.YtlmbghemlphoaaaDoorPaM
import Derived.Test.YtlmbghemlphoaaaDoorLeF
import Derived.Test.YtlmbghemlphoaaaDoorOwnS
import Derived.Deep.SlicePairs
namespace Go.Proofs.YtlmbghemlphoaaaDoor.Pa
open Go.RowKit Go.Proofs.YtlmbghemlphoaaaDoor.Kit Go.Proofs.YtlmbghemlphoaaaDoor.PaM
set_option linter.unusedVariables false
set_option linter.unusedSimpArgs false
/-- A section, as it lies in memory. -/
structure SecM where
  kind : Int
  A : Option Addr
  b : List (BitVec 8)
  cap : Nat
  deriving Inhabited
def SecM.sec (s : SecM) : Sec := ⟨s.kind, s.b⟩
def SecM.body (s : SecM) : Value := .slice s.A s.b.length s.cap
def SecM.val (s : SecM) : Value := .agg #[.int .i64 s.kind, s.body]
structure SecM.Wf (s : SecM) : Prop where
  k0 : -9223372036854775808 ≤ s.kind
  k1 : s.kind ≤ 9223372036854775807
  room : s.b.length ≤ s.cap
  top : s.cap ≤ maxLen
/-- Sections, as they lie in memory: two cells each, and each one's bytes. -/
def Secs (w : World) (A : Option Addr) (l : List SecM) : Prop :=
  ∀ i (h : i < l.length), ∃ ad : Addr, A = some ad ∧ w.cell? (ad.add (i * 2)) = some (.int .i64 l[i].kind) ∧ w.cell? (ad.add (i * 2 + 1)) = some l[i].body ∧ Hid (Bytes w l[i].A l[i].b)
theorem secs_below {w w1 : World} {A : Option Addr} {l : List SecM} (h : Hid (Secs w A l)) (hb : Below w.heap.size w w1) : Hid (Secs w1 A l) := by
  intro i hi
  obtain ⟨ad, rfl, h0, h1, h2⟩ := h.out i hi
  exact ⟨ad, rfl, (hb.cell (cell_lt h0)).trans h0, (hb.cell (cell_lt h1)).trans h1, bytes_below h2 hb⟩
theorem add_part (ad : Addr) (n j : Nat) (hj : 0 < j) : ad.add (n + j) = ⟨(ad.add n).block, (ad.add n).off + j, none⟩ := by
  unfold Addr.add
  by_cases hn : n = 0
  · subst hn
    simp [show j ≠ 0 by omega]
  · simp [hn, Nat.add_assoc]
/-- One section's cells, as a walk reckons their addresses. -/
theorem sec_at {w : World} {A : Option Addr} {l : List SecM} {i : Nat} {s : SecM} (h : Hid (Secs w A l)) (hi : i < l.length) (hs : s = l[i]) :
    ∃ ad : Addr, A = some ad ∧ w.cell? (ad.add (i * 2)) = some (.int .i64 s.kind) ∧ w.cell? ⟨(ad.add (i * 2)).block, (ad.add (i * 2)).off + 1, none⟩ = some s.body ∧ Hid (Bytes w s.A s.b) := by
  obtain ⟨ad, rfl, h0, h1, h2⟩ := h.out i hi
  rw [add_part ad (i * 2) 1 (by decide)] at h1
  rw [hs]
  exact ⟨ad, rfl, h0, h1, h2⟩
open Go.ChangeShapes Go.WideShapes Go.ChangeAt Go.Joins Go.Deep in
theorem open_inner {H : Type} {enc : TypeId × Value → H} {P : Program} {W : World} {base k : Nat} {held : Bool} {t e : TypeId} {v : Value} {y : DataW H × List MemPlace}
    (ht : P.underlying t = some (.slice e)) (he : P.underlying e = some (.int .u8)) (hc : P.cellsOf e = 1)
    (h : DataW.trod enc P W base (fun _ => true) held k t [v] = some y) :
    ∃ (A : Option Addr) (l : List (BitVec 8)) (cap : Nat), v = .slice A l.length cap ∧ Hid (Bytes W A l) ∧ l.length ≤ cap ∧ cap ≤ maxLen := by
  rcases open_slice ht h with ⟨hcs, _⟩ | ⟨x, l, c, m, n, D, Pl, hcs, _, hl, hm, hmm, _, hx⟩
  · simp at hcs
    subst hcs
    exact ⟨none, [], 0, rfl, (fun i hi => by cases hi), Nat.le_refl _, Nat.zero_le _⟩
  · simp at hcs
    subst hcs
    simp only [if_true] at hmm
    subst hmm
    have each : ∀ i, i < m → ∃ b : BitVec 8, W.cell? (x.add i) = some (.int .u8 b.toNat) := by
      intro i hi
      obtain ⟨cs', h1, h2⟩ := hx i hi
      rw [hc, Nat.mul_one] at h1
      obtain ⟨_, hlen, hcell⟩ := World.cells?_some h1
      match cs', hlen with
      | [v0], _ =>
        have e0 := hcell 0 (by omega)
        rw [Kit.add_add] at e0
        obtain ⟨a, q0, _, wa⟩ := DataW.trod_int he h2
        simp only [List.cons.injEq, and_true] at q0
        subst q0
        have hb := Go.bounds_u8 wa
        refine ⟨BitVec.ofNat 8 a.toNat, ?_⟩
        have e2 : ((BitVec.ofNat 8 a.toNat).toNat : Int) = a := by
          rw [BitVec.toNat_ofNat]
          omega
        rw [e2]
        simpa using e0
    obtain ⟨O, hO⟩ := choose_lt each
    refine ⟨some x, (List.range l).map O, m, by simp, ?_, by simpa using hl, hm⟩
    intro i hi
    have hi' : i < m := by simp at hi; omega
    refine ⟨x, rfl, ?_⟩
    simp only [List.getElem_map, List.getElem_range]
    exact hO i hi'
open Go.ChangeShapes Go.WideShapes Go.ChangeAt Go.Joins Go.Deep in
theorem open_secs {H : Type} {enc : TypeId × Value → H} {P : Program} {W : World} {r : Reach} {b0 base : Nat} {held : Bool} {t e q : TypeId} {f0 f1 : Field} {v : Value} {d : DataW H} {ps : List MemPlace}
    (ht : P.underlying t = some (.slice e)) (he : P.underlying e = some (.struct #[f0, f1])) (ce : P.cellsOf e = 2) (o0 : f0.offset = 0) (o1 : f1.offset = 1) (c0 : P.cellsOf f0.type = 1) (c1 : P.cellsOf f1.type = 1)
    (u0 : P.underlying f0.type = some (.int .i64)) (u1 : P.underlying f1.type = some (.slice q)) (uq : P.underlying q = some (.int .u8)) (cq : P.cellsOf q = 1)
    (hv : Value.okWide P W r b0 t v) (h : DataW.Trod enc P W base (fun _ => true) held t v d ps) :
    ∃ (A : Option Addr) (l : List SecM) (cap : Nat), v = .slice A l.length cap ∧ Hid (Secs W A l) ∧ (∀ s ∈ l, s.Wf) ∧ l.length ≤ cap ∧ cap ≤ maxLen := by
  obtain ⟨A, len, cap, rfl⟩ := okWide_slice ht hv
  obtain ⟨fuel, hf⟩ := h
  rcases open_slice ht hf with ⟨hcs, _⟩ | ⟨x, l, c, m, n, D, Pl, hcs, _, hl, hm, hmm, _, hx⟩
  · simp [Value.cells] at hcs
    obtain ⟨rfl, rfl, rfl⟩ := hcs
    exact ⟨none, [], 0, rfl, (fun i hi => by cases hi), (fun o ho => by cases ho), Nat.le_refl _, Nat.zero_le _⟩
  · simp [Value.cells] at hcs
    obtain ⟨rfl, rfl, rfl⟩ := hcs
    simp only [if_true] at hmm
    subst hmm
    have each : ∀ i, i < m → ∃ s : SecM, (W.cell? (x.add (i * 2)) = some (.int .i64 s.kind) ∧ W.cell? (x.add (i * 2 + 1)) = some s.body ∧ Hid (Bytes W s.A s.b)) ∧ s.Wf := by
      intro i hi
      obtain ⟨cs', h1, h2⟩ := hx i hi
      rw [ce] at h1
      obtain ⟨_, hlen, hcell⟩ := World.cells?_some h1
      obtain ⟨xs, k, hk, hxy, _, hxl, hfd⟩ := DataW.trod_struct he h2
      match xs, hxl, cs', hlen with
      | [y0, y1], _, [v0, v1], _ =>
        have g0 := hfd 0 f0 rfl
        have g1 := hfd 1 f1 rfl
        simp [o0, o1, c0, c1] at g0 g1
        have e0 := hcell 0 (by omega)
        have e1 := hcell 1 (by omega)
        rw [Kit.add_add] at e0 e1
        obtain ⟨a, q0, _, wa⟩ := DataW.trod_int u0 g0
        obtain ⟨A, b, cap, rfl, hb, hl, hm⟩ := open_inner u1 uq cq g1
        simp only [List.cons.injEq, and_true] at q0
        subst q0
        have ba := Go.bounds_i64 wa
        exact ⟨⟨a, A, b, cap⟩, ⟨by simpa using e0, by simpa [SecM.body] using e1, hb⟩, ⟨ba.1, ba.2, hl, hm⟩⟩
    obtain ⟨O, hO⟩ := choose_lt each
    refine ⟨some x, (List.range len).map O, m, by simp, ?_, ?_, by simpa using hl, hm⟩
    · intro i hi
      have hi' : i < m := by simp at hi; omega
      obtain ⟨⟨h0, h1, h2⟩, _⟩ := hO i hi'
      refine ⟨x, rfl, ?_⟩
      simp only [List.getElem_map, List.getElem_range]
      exact ⟨h0, h1, h2⟩
    · intro o ho
      obtain ⟨i, hi, rfl⟩ := List.mem_map.1 ho
      have hi2 := List.mem_range.1 hi
      exact (hO i (by omega)).2
end Go.Proofs.YtlmbghemlphoaaaDoor.Pa
