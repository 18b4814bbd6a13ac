/- A shelf in memory: its three variables, the row of nodes, the row of free ones; what an operation on it may write. -/
import Derived.Test.YtpgfenelckonoaaShM
import Derived.Test.YtpgfenelckonoaaOwnS
import Derived.Test.YtpgfenelckonoaaHeldT
namespace Go.Proofs.Ytpgfenelckonoaa.Sh
open Go.RowKit Go.Proofs.Ytpgfenelckonoaa.Kit Go.Proofs.Ytpgfenelckonoaa.ShM
set_option linter.unusedVariables false
set_option linter.unusedSimpArgs false
/-- Only blocks of S, and new ones, are written. -/
structure Kept (S : Nat → Prop) (w w' : World) : Prop where
  os : w'.os = w.os
  tape : w'.tape = w.tape
  output : w'.output = w.output
  size : w.heap.size ≤ w'.heap.size
  block : ∀ k, k < w.heap.size → ¬ S k → w'.heap[k]? = w.heap[k]?
def Ext (S : Nat → Prop) (w : World) (k : Nat) : Prop := S k ∨ w.heap.size ≤ k
section
variable {S : Nat → Prop} {w0 w w' : World}
theorem Kept.refl (S : Nat → Prop) (w : World) : Kept S w w := ⟨rfl, rfl, rfl, Nat.le_refl _, fun _ _ _ => rfl⟩
theorem Kept.drew (h : Kept S w0 w) : Kept S w0 w.drew := ⟨h.os, h.tape, h.output, h.size, h.block⟩
theorem Kept.drewN (h : Kept S w0 w) (n : Nat) : Kept S w0 (w.drewN n) := ⟨h.os, h.tape, h.output, h.size, h.block⟩
theorem Kept.alloc (h : Kept S w0 w) (o : Obj) : Kept S w0 (w.alloc o) :=
  ⟨h.os, h.tape, h.output, Nat.le_trans h.size (by simp), fun k hk hs => (Below.heap_alloc w o k (Nat.lt_of_lt_of_le hk h.size)).trans (h.block k hk hs)⟩
theorem Kept.setCell (h : Kept S w0 w) {a : Addr} (ha : Ext S w0 a.block) (u : Value) : Kept S w0 (w.setCell a u) :=
  ⟨h.os, h.tape, h.output, Nat.le_trans h.size (by simp [World.setCell]), fun k hk hs => (Below.heap_setCell w a u k (fun e => by
    subst e
    rcases ha with ha | ha
    · exact hs ha
    · omega)).trans (h.block k hk hs)⟩
theorem Kept.grown (h : Kept S w0 w) {row : Option Nat} (hg : w.grownBy w' row) (hr : ∀ k, row = some k → Ext S w0 k) : Kept S w0 w' :=
  ⟨hg.os.trans h.os, hg.tape.trans h.tape, hg.output.trans h.output, Nat.le_trans h.size hg.size, fun k hk hs => (hg.block k (Nat.lt_of_lt_of_le hk h.size) (fun e => by
    rcases hr k e.symm with ha | ha
    · exact hs ha
    · omega)).trans (h.block k hk hs)⟩
theorem Kept.below (h : Kept S w0 w) (hb : Below w.heap.size w w') : Kept S w0 w' :=
  ⟨hb.os.trans h.os, hb.tape.trans h.tape, hb.output.trans h.output, Nat.le_trans h.size hb.size, fun k hk hs => (hb.block k (Nat.lt_of_lt_of_le hk h.size)).trans (h.block k hk hs)⟩
theorem Kept.trans {S' : Nat → Prop} (h : Kept S w0 w) (k : Kept S' w w') (hs : ∀ b, S' b → Ext S w0 b) : Kept S w0 w' :=
  ⟨k.os.trans h.os, k.tape.trans h.tape, k.output.trans h.output, Nat.le_trans h.size k.size, fun b hb hn => (k.block b (Nat.lt_of_lt_of_le hb h.size) (fun e => by
    rcases hs b e with ha | ha
    · exact hn ha
    · omega)).trans (h.block b hb hn)⟩
theorem Kept.toBelow (h : Kept S w0 w) (hs : ∀ k, S k → w0.heap.size ≤ k) : Below w0.heap.size w0 w :=
  ⟨h.os, h.tape, h.output, h.size, fun k hk => h.block k hk (fun e => by have := hs k e; omega)⟩
end
/-- Nodes, flat in memory. -/
def cellsN (n : Nd) : List Value := [.int .i64 n.x.key, .int .i64 n.x.id, .int .i64 (n.low : Int), .int .i64 (n.high : Int), .int .i64 (n.many : Int), .int .i64 (n.deep : Int)]
def flatN (L : List Nd) : List Value := L.flatMap cellsN
theorem flatN_length : ∀ L : List Nd, (flatN L).length = L.length * 6
  | [] => rfl
  | n :: L => by
    have := flatN_length L
    simp only [flatN, List.flatMap_cons, List.length_append, List.length_cons] at this ⊢
    rw [this]
    simp only [cellsN, List.length_cons, List.length_nil]
    omega
theorem flatN_cons (n : Nd) (L : List Nd) : flatN (n :: L) = .int .i64 n.x.key :: .int .i64 n.x.id :: .int .i64 (n.low : Int) :: .int .i64 (n.high : Int) :: .int .i64 (n.many : Int) :: .int .i64 (n.deep : Int) :: flatN L := rfl
theorem flatN_append (L M : List Nd) : flatN (L ++ M) = flatN L ++ flatN M := by simp [flatN]
theorem flatN_one : ∀ (L : List Nd), ∀ u ∈ flatN L, u.oneCell' = true := by
  intro L u hu
  simp only [flatN, List.mem_flatMap] at hu
  obtain ⟨n, _, h⟩ := hu
  simp only [cellsN, List.mem_cons, List.not_mem_nil, or_false] at h
  rcases h with rfl | rfl | rfl | rfl | rfl | rfl <;> rfl
theorem flatN_get : ∀ (L : List Nd) (i : Nat) (n : Nd), L[i]? = some n → ∀ k, k < 6 → (flatN L)[i * 6 + k]? = (cellsN n)[k]?
  | [], i, n, h, _, _ => by cases h
  | m :: L, 0, n, h, k, hk => by
    cases h
    rw [Nat.zero_mul, Nat.zero_add]
    show (cellsN m ++ flatN L)[k]? = _
    rw [List.getElem?_append_left (by simpa [cellsN] using hk)]
  | m :: L, i + 1, n, h, k, hk => by
    have := flatN_get L i n h k hk
    show (cellsN m ++ flatN L)[(i + 1) * 6 + k]? = _
    rw [List.getElem?_append_right (by simp [cellsN]; omega)]
    rw [← this]
    congr 1
    simp [cellsN]
    omega
theorem flatN_set : ∀ (L : List Nd) (i : Nat) (n n' : Nd) (k : Nat) (v : Value), L[i]? = some n → k < 6 → (cellsN n).set k v = cellsN n' → (flatN L).set (i * 6 + k) v = flatN (L.set i n')
  | [], i, n, n', k, v, h, _, _ => by cases h
  | m :: L, 0, n, n', k, v, h, hk, e => by
    cases h
    rw [Nat.zero_mul, Nat.zero_add]
    show (cellsN m ++ flatN L).set k v = cellsN n' ++ flatN L
    rw [List.set_append_left _ _ (by simpa [cellsN] using hk), e]
  | m :: L, i + 1, n, n', k, v, h, hk, e => by
    have := flatN_set L i n n' k v h hk e
    show (cellsN m ++ flatN L).set ((i + 1) * 6 + k) v = cellsN m ++ flatN (L.set i n')
    rw [List.set_append_right _ _ (by simp [cellsN]; omega), ← this]
    congr 2
    simp [cellsN]
    omega
/-- A node's cells. -/
def NC (w : World) (gl i : Nat) (n : Nd) : Prop :=
  w.cell? ⟨gl, i * 6, none⟩ = some (.int .i64 n.x.key) ∧ w.cell? ⟨gl, i * 6 + 1, none⟩ = some (.int .i64 n.x.id) ∧ w.cell? ⟨gl, i * 6 + 2, none⟩ = some (.int .i64 (n.low : Int)) ∧
    w.cell? ⟨gl, i * 6 + 3, none⟩ = some (.int .i64 (n.high : Int)) ∧ w.cell? ⟨gl, i * 6 + 4, none⟩ = some (.int .i64 (n.many : Int)) ∧ w.cell? ⟨gl, i * 6 + 5, none⟩ = some (.int .i64 (n.deep : Int))
/-- A shelf in memory. -/
structure Sh (w0 : World) (S0 : Nat → Prop) (w : World) (p gl cl : Nat) (vf : Value) (L : List Nd) (top : Nat) (F : List Nat) : Prop where
  at_ : w.heap[p]? = some (.cells #[.slice (some ⟨gl, 0, none⟩) L.length cl, .int .i64 (top : Int), vf] 122 (0, 0))
  row : w.ownsRow 0 124 6 (.slice (some ⟨gl, 0, none⟩) L.length cl) L.length (flatN L)
  free : w.ownsRow 0 3 1 vf F.length (F.map fun (n : Nat) => Value.int .i64 (n : Int))
  gp : gl ≠ p
  fp : vf.ownBlock ≠ some p
  fg : vf.ownBlock ≠ some gl
  inp : Ext S0 w0 p
  ing : Ext S0 w0 gl
  inf : ∀ k, vf.ownBlock = some k → Ext S0 w0 k
  kept : Kept S0 w0 w
section
variable {w0 w w' : World} {S0 : Nat → Prop} {p gl cl : Nat} {vf : Value} {L : List Nd} {top : Nat} {F : List Nat}
theorem Sh.pcells (h : Sh w0 S0 w p gl cl vf L top F) : w.cell? ⟨p, 0, none⟩ = some (.slice (some ⟨gl, 0, none⟩) L.length cl) ∧ w.cell? ⟨p, 1, none⟩ = some (.int .i64 (top : Int)) ∧ w.cell? ⟨p, 2, none⟩ = some vf ∧
    w.frozen? ⟨p, 0, none⟩ = false ∧ w.frozen? ⟨p, 1, none⟩ = false ∧ w.frozen? ⟨p, 2, none⟩ = false :=
  ⟨blk_cell h.at_ 0, blk_cell h.at_ 1, blk_cell h.at_ 2, blk_frozen h.at_ 0, blk_frozen h.at_ 1, blk_frozen h.at_ 2⟩
theorem Sh.ncell (h : Sh w0 S0 w p gl cl vf L top F) {i : Nat} {n : Nd} (hi : L[i]? = some n) (k : Nat) (hk : k < 6) : w.cell? ⟨gl, i * 6 + k, none⟩ = (cellsN n)[k]? := by
  have hlt := (List.getElem?_eq_some_iff.1 hi).1
  rw [World.ownsRow.cellAt h.row (i * 6 + k) (by omega), flatN_get L i n hi k hk]
theorem Sh.ncells (h : Sh w0 S0 w p gl cl vf L top F) {i : Nat} {n : Nd} (hi : L[i]? = some n) : NC w gl i n :=
  ⟨h.ncell hi 0 (by decide), h.ncell hi 1 (by decide), h.ncell hi 2 (by decide), h.ncell hi 3 (by decide), h.ncell hi 4 (by decide), h.ncell hi 5 (by decide)⟩
theorem Sh.plt (h : Sh w0 S0 w p gl cl vf L top F) : p < w.heap.size := blk_lt h.at_
theorem Sh.glt (h : Sh w0 S0 w p gl cl vf L top F) : gl < w.heap.size := (h.row.lt gl rfl).2
theorem Sh.flt (h : Sh w0 S0 w p gl cl vf L top F) : ∀ k, vf.ownBlock = some k → k < w.heap.size := fun k hk => (h.free.lt k hk).2
/-- What writes new blocks alone. -/
theorem Sh.below (h : Sh w0 S0 w p gl cl vf L top F) (hb : Below w.heap.size w w') : Sh w0 S0 w' p gl cl vf L top F :=
  ⟨blk_below h.at_ hb, own_belowS h.row hb, own_belowS h.free hb, h.gp, h.fp, h.fg, h.inp, h.ing, h.inf, h.kept.below hb⟩
theorem Sh.drew (h : Sh w0 S0 w p gl cl vf L top F) : Sh w0 S0 w.drew p gl cl vf L top F := h.below (Below.refl _ _).drew
theorem Sh.alloc (h : Sh w0 S0 w p gl cl vf L top F) (o : Obj) : Sh w0 S0 (w.alloc o) p gl cl vf L top F := h.below ((Below.refl _ _).alloc (Nat.le_refl _) o)
/-- A store into a node. -/
theorem Sh.nset (h : Sh w0 S0 w p gl cl vf L top F) {i : Nat} {n n' : Nd} {k : Nat} {v : Value} (hi : L[i]? = some n) (hk : k < 6) (e : (cellsN n).set k v = cellsN n') :
    Sh w0 S0 (w.setCell ⟨gl, i * 6 + k, none⟩ v) p gl cl vf (L.set i n') top F := by
  obtain ⟨h1, hg⟩ := h.row.stored (i * 6 + k) v
  rw [flatN_set L i n n' k v hi hk e] at h1
  refine ⟨?_, by rw [List.length_set]; exact h1, own_keptS h.free hg (.inr h.fg), h.gp, h.fp, h.fg, h.inp, h.ing, h.inf, h.kept.setCell (a := ⟨gl, i * 6 + k, none⟩) h.ing v⟩
  rw [List.length_set]
  exact blk_far h.at_ (p := ⟨gl, i * 6 + k, none⟩) (fun e => h.gp e.symm) v
/-- A store into the variable top. -/
theorem Sh.tset (h : Sh w0 S0 w p gl cl vf L top F) (t : Nat) : Sh w0 S0 (w.setCell ⟨p, 1, none⟩ (.int .i64 (t : Int))) p gl cl vf L t F := by
  have hgb : w.grownBy (w.setCell ⟨p, 1, none⟩ (.int .i64 (t : Int))) (some p) := ⟨rfl, rfl, rfl, by simp [World.setCell], fun k hk hn => Below.heap_setCell w ⟨p, 1, none⟩ _ k (fun e => hn (by rw [e]))⟩
  exact ⟨blk_put h.at_ 1 _ rfl, own_keptS h.row hgb (.inr (by intro e; exact h.gp (Option.some.inj e))), own_keptS h.free hgb (.inr h.fp), h.gp, h.fp, h.fg, h.inp, h.ing, h.inf, h.kept.setCell (a := ⟨p, 1, none⟩) h.inp _⟩
end
end Go.Proofs.Ytpgfenelckonoaa.Sh
