/- A small kit for rows of laws: a law's call that returns true and leaves what was there alone answers its row; structs of ints by value, opened. No condition of its own. -/
import Derived.Test.YtpgfenelckonoaaRows
import Derived.WalkKit
import Derived.ProofKit
import Derived.OpenShut
import Derived.ShutString
import Derived.ChangeOld
import Derived.Below
import Derived.SizedLaws
import Derived.Lib.SmallJoins
import Derived.Carry
import Derived.ChangeSlices
import Derived.Laws.Rows
import Derived.Deep.QuietTactic
import Derived.BigQuiet
import Derived.KernelRfl
import Derived.ScopeJumps
import Derived.WalkMore
namespace Go.Proofs.Ytpgfenelckonoaa.Kit
open Go.ChangeShapes Go.WideShapes Go.ChangeAt Go.RowKit Go.Joins Go.Deep
set_option linter.unusedVariables false

theorem hid {p : Prop} (h : p) : Hid p := h

/-! ### blocks of the heap -/
theorem blk_lt {w : World} {g : Nat} {o : Obj} (h : w.heap[g]? = some o) : g < w.heap.size := (Array.getElem?_eq_some_iff.1 h).1
theorem cell_lt {w : World} {a : Addr} {v : Value} (h : w.cell? a = some v) : a.block < w.heap.size := by
  unfold World.cell? at h
  split at h
  · rename_i c t r hx
    exact (Array.getElem?_eq_some_iff.1 hx).1
  · cases h
theorem blk_alloc {w : World} {g : Nat} {o : Obj} (h : w.heap[g]? = some o) (o' : Obj) : (w.alloc o').heap[g]? = some o := (Below.heap_alloc w o' g (blk_lt h)).trans h
theorem blk_drewN {w : World} {g : Nat} {o : Obj} (h : w.heap[g]? = some o) (n : Nat) : (w.drewN n).heap[g]? = some o := h
theorem blk_below {w w1 : World} {g : Nat} {o : Obj} (h : w.heap[g]? = some o) (hb : Below w.heap.size w w1) : w1.heap[g]? = some o := (hb.block g (blk_lt h)).trans h
theorem blk_new (w : World) (o : Obj) : (w.alloc o).heap[w.heap.size]? = some o := by
  show (w.heap.push o)[w.heap.size]? = some o
  simp
theorem blk_cell {w : World} {g : Nat} {t : TypeId} {cs : Array Value} {r : Nat × Nat} (h : w.heap[g]? = some (.cells cs t r)) (i : Nat) : w.cell? ⟨g, i, none⟩ = cs[i]? := cell_of_row w g i cs t r h
theorem blk_frozen {w : World} {g : Nat} {t : TypeId} {cs : Array Value} (h : w.heap[g]? = some (.cells cs t (0, 0))) (i : Nat) : w.frozen? ⟨g, i, none⟩ = false := by simp [World.frozen?, h]
theorem blk_far {w : World} {g : Nat} {o : Obj} (h : w.heap[g]? = some o) {p : Addr} (hp : g ≠ p.block) (u : Value) : (w.setCell p u).heap[g]? = some o := (Below.heap_setCell w p u g hp).trans h
theorem blk_put {w : World} {g : Nat} {t : TypeId} {cs cs' : Array Value} {r : Nat × Nat} (h : w.heap[g]? = some (.cells cs t r)) (i : Nat) (u : Value) (e : cs.setIfInBounds i u = cs') : (w.setCell ⟨g, i, none⟩ u).heap[g]? = some (.cells cs' t r) := by
  subst e
  simp only [World.setCell, Array.getElem?_modify, if_true, h]
  rfl
theorem below_drewN {B : Nat} {w W : World} (h : Below B w W) (n : Nat) : Below B w (W.drewN n) := ⟨h.os, h.tape, h.output, h.size, h.block⟩

/-! ### addresses -/
theorem add_add (ad : Addr) (a b : Nat) : (ad.add a).add b = ad.add (a + b) := by
  unfold Addr.add
  by_cases h1 : a = 0
  · subst h1
    simp
  · by_cases h2 : b = 0
    · subst h2
      simp [h1]
    · simp [h1, h2, Nat.add_assoc]
theorem add_block (ad : Addr) (a : Nat) : (ad.add a).block = ad.block := by unfold Addr.add; split <;> rfl
theorem add_lit (g i : Nat) : (⟨g, 0, none⟩ : Addr).add i = ⟨g, i, none⟩ := by
  unfold Addr.add
  split
  · rename_i h
    rw [h]
  · simp

/-! ### contracts at a call in a region that draws its order and only reads -/
theorem quiet_left {P : Program} {f : FuncId} {args : Array Value} {w : World} {n : Nat} {v : Value}
    (h : Calls P f args (w.drewN n) fun e w' => e = .returned v ∧ w.drewN n = w') : Calls P f args (w.drewN n) fun e w'' => e = .returned v ∧ ∃ m, w'' = w.drewN m :=
  h.mono fun _ _ ⟨he, hm⟩ => ⟨he, n, hm.symm⟩
theorem quiet_add_left {P : Program} {f : FuncId} {args : Array Value} {w : World} {a n : Nat} {v : Value}
    (h : Calls P f args (w.drewN (a + n)) fun e w' => e = .returned v ∧ w.drewN (a + n) = w') :
    Calls P f args (w.drewN (a + n)) fun e w'' => e = .returned v ∧ ∃ m, w'' = w.drewN (a + m) :=
  h.mono fun _ _ ⟨he, hm⟩ => ⟨he, n, hm.symm⟩

/-! ### a scope with one label to which the run jumps back: what holds at the label, each time -/
theorem scope_label {P : Program} {a : Act} {w : World} {Q : Exit → Act → World → Prop} {c rest : Code} (l : Nat) (J : Act → World → Prop) (μ : Act → World → Nat) (hf : findLabel c l = some (Code.skip.seq rest))
    (pass : ∀ a w, J a w → rest.wp P (Exit.jump l (fun a' w' => J a' w' ∧ μ a' w' < μ a w) Q) a w)
    (first : Hid (∀ a w, J a w → rest.wp P (Exit.jump l J Q) a w) → c.wp P (Exit.jump l J Q) a w) : (Code.scope c).wp P Q a w := by
  refine wp_scope_jumps l J μ hf (first fun a w hJ => ?_) (fun a w hJ => wp_seq (wp_skip (pass a w hJ)))
  refine Code.wp_mono ?_ (pass a w hJ)
  intro e a' w' h
  cases e <;> first | exact h | exact ⟨h.1, h.2.1⟩

theorem stays {H : Type} {enc : TypeId × Value → H} {P : Program} (hl : laidOutB P = true) {W W' : World} (hb : Below W.heap.size W W') :
    ∀ {ts : List TypeId} {vs : List Value} {ds : List (DataW H)} {ps : List MemPlace}, ts.all (fun t => P.readableRec t && decide (t < P.types.size)) = true →
      DataW.TrodAll enc P W 0 (fun _ => true) true ts vs ds ps → (∀ x ∈ ps, x.block < W.heap.size) →
      DataW.TrodAll enc P W' 0 (fun b => decide (b < W.heap.size)) true ts vs ds ps
  | [], vs, ds, ps, _, h, _ => by
    obtain ⟨rfl, rfl, rfl⟩ := trodAll_nil h
    exact trodAll_mk0
  | t :: ts, vs, ds, ps, hts, h, hlt => by
    obtain ⟨v, vs1, d, ds1, p, q, rfl, rfl, rfl, h0, h1⟩ := trodAll_cons h
    simp only [List.all_cons, Bool.and_eq_true, decide_eq_true_eq] at hts
    exact trodAll_cons_mk (Below.trod hl hts.1.1 hts.1.2 h0 hb (fun x hx => hlt x (List.mem_append.2 (Or.inl hx))))
      (stays hl hb hts.2 h1 (fun x hx => hlt x (List.mem_append.2 (Or.inr hx))))

theorem trodAll_len {H : Type} {enc : TypeId × Value → H} {P : Program} {w : World} {base : Nat} {spare : Nat → Bool} {held : Bool} :
    ∀ {ts : List TypeId} {vs : List Value} {ds : List (DataW H)} {ps : List MemPlace}, DataW.TrodAll enc P w base spare held ts vs ds ps → ds.length = ts.length
  | [], vs, ds, ps, h => by
    obtain ⟨_, rfl, _⟩ := trodAll_nil h
    rfl
  | t :: ts, vs, ds, ps, h => by
    obtain ⟨v, vs1, d, ds1, p, q, rfl, rfl, rfl, h0, h1⟩ := trodAll_cons h
    simp [trodAll_len h1]

theorem law_post {H : Type} {enc : TypeId × Value → H} {P : Program} {f : Func} {s : ChangeSpec} {apart : Bool} {tb : TypeId} (hl : laidOutB P = true)
    (hts : f.params.toList.all (fun t => P.readableRec t && decide (t < P.types.size)) = true) (hr : f.resultTypes = #[tb]) (htb : P.underlying tb = some .bool) (hv : s.vars = [])
    (hs : ∀ ds : List (DataW H), ds.length = f.params.toList.length → (s.fn H ds) = { results := [.lit (.bool true)], args := ds })
    {W W' : World} {args : Array Value} {ds gs : List (DataW H)} {before : List MemPlace} (hW : DataW.Whole enc P f.params.toList s.vars apart W args.toList ds gs before)
    (hb : Below W.heap.size W W') : s.post enc P f apart true false false W args (.bool true) W' := by
  have hW' := hW
  have hlt := DataW.Whole.lt hW
  obtain ⟨p, q, hA, hV, rfl, _, _⟩ := hW
  rw [hv] at hV
  obtain ⟨rfl, rfl⟩ := trodVars_none hV
  have hlen := trodAll_len hA
  have e1 : s.fn H (ds ++ []) = { results := [.lit (.bool true)], args := ds } := by rw [List.append_nil]; exact hs ds hlen
  refine ⟨ds, [], _, [], p, [], hW', ?_, ?_, ?_, hb.frame _, fun h => by cases h⟩
  · rw [e1, hr]
    exact trodAll_mk1 (shut_bool htb true)
  · rw [e1]
    exact stays hl hb hts hA (fun x hx => hlt x (List.mem_append.2 (Or.inl hx)))
  · rw [e1, hv]
    exact rfl

/-- A row of bytes, as it lies in memory. -/
def Bytes (w : World) (A : Option Addr) (l : List (BitVec 8)) : Prop := ∀ i (h : i < l.length), ∃ ad : Addr, A = some ad ∧ w.cell? (ad.add i) = some (.int .u8 (l[i].toNat : Int))
/-- A row of integers, as it lies in memory. -/
def Ints (k : IntKind) (w : World) (A : Option Addr) (l : List Int) : Prop := ∀ i (h : i < l.length), ∃ ad : Addr, A = some ad ∧ w.cell? (ad.add i) = some (.int k l[i])
theorem bytes_below {w w1 : World} {A : Option Addr} {l : List (BitVec 8)} (h : Hid (Bytes w A l)) (hb : Below w.heap.size w w1) : Hid (Bytes w1 A l) := by
  intro i hi
  obtain ⟨ad, rfl, hc⟩ := h.out i hi
  exact ⟨ad, rfl, (hb.cell (cell_lt hc)).trans hc⟩
theorem ints_below {k : IntKind} {w w1 : World} {A : Option Addr} {l : List Int} (h : Hid (Ints k w A l)) (hb : Below w.heap.size w w1) : Hid (Ints k w1 A l) := by
  intro i hi
  obtain ⟨ad, rfl, hc⟩ := h.out i hi
  exact ⟨ad, rfl, (hb.cell (cell_lt hc)).trans hc⟩
theorem bytes_nil (w : World) (A : Option Addr) : Hid (Bytes w A []) := by
  intro i hi
  cases hi
/-- A slice of integers that came in, opened. -/
theorem open_row {H : Type} {enc : TypeId × Value → H} {P : Program} {W : World} {r : Reach} {b0 base : Nat} {spare : Nat → Bool} {held : Bool} {t e : TypeId} {k : IntKind} {v : Value} {d : DataW H} {ps : List MemPlace} {ts : List TypeId} {ds : List (DataW H)} (j : Nat)
    (ht : P.underlying t = some (.slice e)) (he : P.underlying e = some (.int k)) (hc : P.cellsOf e = 1) {B : Nat} (hB : P.bytesOf e = B)
    (hsz : (DataW.weightsEach P ts ds).all (· ≤ reachBytes) = true) (hj : ts[j]? = some t) (hd : ds[j]? = some d)
    (hv : Value.okWide P W r b0 t v) (h : DataW.Trod enc P W base spare held t v d ps) :
    ∃ (A : Option Addr) (l : List Int) (cap : Nat), v = .slice A l.length cap ∧ Hid (Ints k W A l) ∧ (∀ x ∈ l, (Lit.int k x).wf = true) ∧ l.length ≤ cap ∧ cap ≤ maxLen ∧ l.length * B ≤ 140737488351232 := by
  obtain ⟨A, len, cap, rfl⟩ := okWide_slice ht hv
  obtain ⟨fuel, hf⟩ := h
  rcases open_ints ht he hc hf with ⟨hcs, _⟩ | ⟨x, l, c, zs, hcs, _, hl, hm, hz, hx, hcell, hwz⟩
  · simp [Value.cells] at hcs
    obtain ⟨rfl, rfl, rfl⟩ := hcs
    exact ⟨none, [], 0, rfl, (fun i hi => by cases hi), (fun x hx => by cases hx), Nat.le_refl _, Nat.zero_le _, by simp⟩
  · simp [Value.cells] at hcs
    obtain ⟨rfl, rfl, rfl⟩ := hcs
    have hl2 : len ≤ zs.length := by
      rw [hz]
      split
      · exact hl
      · exact Nat.le_refl _
    have hlen : (zs.take len).length = len := by simp [hl2]
    obtain ⟨hx, _⟩ := Prod.mk.inj hx
    subst hx
    have z := sized_slice hsz hj hd ht
    rw [hB] at z
    have h1 : (lits (H := H) k (zs.take len)).length + (lits (H := H) k (zs.drop len)).length = zs.length := by
      simp [lits]
      omega
    rw [h1] at z
    refine ⟨some x, zs.take len, cap, by rw [hlen], ?_, fun y hy => hwz y (List.mem_of_mem_take hy), by rw [hlen]; exact hl, hm, by rw [hlen]; exact Nat.le_trans (Nat.mul_le_mul_right _ hl2) z⟩
    intro i hi
    refine ⟨x, rfl, ?_⟩
    rw [hlen] at hi
    rw [hcell i (by omega), List.getElem_take, List.getD_eq_getElem?_getD, List.getElem?_eq_getElem (by omega)]
    rfl
/-- A slice of bytes that came in, opened. -/
theorem open_bytes {H : Type} {enc : TypeId × Value → H} {P : Program} {W : World} {r : Reach} {b0 base : Nat} {spare : Nat → Bool} {held : Bool} {t e : TypeId} {v : Value} {d : DataW H} {ps : List MemPlace} {ts : List TypeId} {ds : List (DataW H)} (j : Nat)
    (ht : P.underlying t = some (.slice e)) (he : P.underlying e = some (.int .u8)) (hc : P.cellsOf e = 1) (hB : P.bytesOf e = 1)
    (hsz : (DataW.weightsEach P ts ds).all (· ≤ reachBytes) = true) (hj : ts[j]? = some t) (hd : ds[j]? = some d)
    (hv : Value.okWide P W r b0 t v) (h : DataW.Trod enc P W base spare held t v d ps) :
    ∃ (A : Option Addr) (l : List (BitVec 8)) (cap : Nat), v = .slice A l.length cap ∧ Hid (Bytes W A l) ∧ l.length ≤ 140737488351232 ∧ l.length ≤ cap ∧ cap ≤ maxLen := by
  obtain ⟨A, l, cap, rfl, hI, hw, hl, hm, hb⟩ := open_row j ht he hc hB hsz hj hd hv h
  refine ⟨A, l.map (BitVec.ofInt 8), cap, by simp, ?_, by simpa using hb, by simpa using hl, hm⟩
  intro i hi
  have hi' : i < l.length := by simpa using hi
  obtain ⟨ad, rfl, hcell⟩ := hI.out i hi'
  refine ⟨ad, rfl, ?_⟩
  rw [hcell]
  have hwf := Go.bounds_u8 (hw _ (List.getElem_mem hi'))
  have e1 : ((BitVec.ofInt 8 l[i]).toNat : Int) = l[i] := by
    rw [BitVec.toNat_ofInt]
    omega
  simp only [List.getElem_map]
  rw [e1]
/-- An array of four bytes by value, opened. -/
theorem open_bytes4 {H : Type} {enc : TypeId × Value → H} {P : Program} {W : World} {r : Reach} {b0 base : Nat} {spare : Nat → Bool} {held : Bool} {t e : TypeId} {v : Value} {d : DataW H} {p : List MemPlace}
    (ht : P.underlying t = some (.array 4 e)) (he : P.underlying e = some (.int .u8)) (hc : P.cellsOf e = 1) (hC : P.cellsOf t = 4)
    (hv : Value.okWide P W r b0 t v) (h : DataW.Trod enc P W base spare held t v d p) :
    ∃ x0 x1 x2 x3 : BitVec 8, v = .agg #[.int .u8 x0.toNat, .int .u8 x1.toNat, .int .u8 x2.toNat, .int .u8 x3.toNat] := by
  unfold Value.okWide at hv
  rw [ht] at hv
  obtain ⟨cs, rfl, hsz, _⟩ := hv
  obtain ⟨c0, c1, c2, c3, rfl⟩ := array4 (hsz.trans hC)
  obtain ⟨fuel, hf⟩ := h
  obtain ⟨xs, m, _, _, _, hn, hel⟩ := DataW.trod_array ht hf
  have one : ∀ (i : Nat) (c : Value), i < 4 → ([c0, c1, c2, c3].drop i).take 1 = [c] → ∃ x : BitVec 8, c = .int .u8 x.toNat := by
    intro i c hi hc1
    have h1 := hel i hi
    rw [hc, Nat.mul_one, List.getElem?_eq_getElem (by omega)] at h1
    obtain ⟨a, e0, _, wa⟩ := DataW.trod_int he h1
    have e1 : ([c0, c1, c2, c3].drop i).take 1 = [.int .u8 a] := e0
    rw [hc1] at e1
    simp only [List.cons.injEq, and_true] at e1
    subst e1
    have hb := Go.bounds_u8 wa
    refine ⟨BitVec.ofNat 8 a.toNat, ?_⟩
    have e2 : ((BitVec.ofNat 8 a.toNat).toNat : Int) = a := by
      rw [BitVec.toNat_ofNat]
      omega
    rw [e2]
  obtain ⟨x0, rfl⟩ := one 0 c0 (by decide) rfl
  obtain ⟨x1, rfl⟩ := one 1 c1 (by decide) rfl
  obtain ⟨x2, rfl⟩ := one 2 c2 (by decide) rfl
  obtain ⟨x3, rfl⟩ := one 3 c3 (by decide) rfl
  exact ⟨x0, x1, x2, x3, rfl⟩
/-- An integer of 8, 16, 32 bits as bits. -/
theorem as_bits {k : IntKind} {n : Nat} {a : Int} (h0 : 0 ≤ a) (h1 : a < 2 ^ n) : ∃ x : BitVec n, a = (x.toNat : Int) := by
  refine ⟨BitVec.ofNat n a.toNat, ?_⟩
  have h2 : a.toNat < 2 ^ n := by
    have e : ((2 ^ n : Nat) : Int) = (2 : Int) ^ n := by simp
    omega
  rw [BitVec.toNat_ofNat, Nat.mod_eq_of_lt h2]
  omega

/-- A struct of two ints by value, opened. -/
theorem open_pair {H : Type} {enc : TypeId × Value → H} {P : Program} {W : World} {r : Reach} {b0 base : Nat} {spare : Nat → Bool} {held : Bool} {t : TypeId} {f0 f1 : Field} {v : Value} {d : DataW H} {p : List MemPlace}
    (hs : P.underlying t = some (.struct #[f0, f1])) (hone : oneCellFields P #[f0, f1] = true) (hC : P.cellsOf t = 2) (h0 : P.underlying f0.type = some (.int .i64)) (h1 : P.underlying f1.type = some (.int .i64))
    (hv : Value.okWide P W r b0 t v) (h : DataW.Trod enc P W base spare held t v d p) :
    ∃ a b : Int, v = .agg #[.int .i64 a, .int .i64 b] ∧ (Lit.int .i64 a).wf = true ∧ (Lit.int .i64 b).wf = true := by
  obtain ⟨c0, c1, y0, y1, m, rfl, rfl, rfl, hy0, hy1⟩ := open_agg2 hs hone hC hv h
  obtain ⟨a, e0, _, wa⟩ := DataW.trod_int h0 hy0
  obtain ⟨b, e1, _, wb⟩ := DataW.trod_int h1 hy1
  simp only [List.cons.injEq, and_true] at e0 e1
  subst e0 e1
  exact ⟨a, b, rfl, wa, wb⟩
end Go.Proofs.Ytpgfenelckonoaa.Kit
