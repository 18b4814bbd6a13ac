/- The reference's Same and Drop, over rows of items in memory. -/
import Derived.Test.YtpgfenelckonoaaShW
namespace Go.Proofs.Ytpgfenelckonoaa.Sh
open Go.RowKit Go.Proofs.Ytpgfenelckonoaa.Kit Go.Proofs.Ytpgfenelckonoaa.ShM
set_option linter.unusedVariables false
set_option linter.unusedSimpArgs false
def ItRow (w : World) (A : Option Addr) (l : List It) : Prop :=
  ∀ i (h : i < l.length), ∃ ad : Addr, A = some ad ∧ w.cell? (ad.add (i * 2)) = some (.int .i64 l[i].key) ∧ w.cell? (ad.add (i * 2 + 1)) = some (.int .i64 l[i].id)
theorem itrow_below {w w1 : World} {A : Option Addr} {l : List It} (h : Hid (ItRow w A l)) (hb : Below w.heap.size w w1) : Hid (ItRow w1 A l) := by
  intro i hi
  obtain ⟨ad, rfl, h0, h1⟩ := h.out i hi
  exact ⟨ad, rfl, (hb.cell (cell_lt h0)).trans h0, (hb.cell (cell_lt h1)).trans h1⟩
theorem it_at {w : World} {A : Option Addr} {l : List It} {i : Nat} {x : It} (h : Hid (ItRow w A l)) (hi : l[i]? = some x) :
    ∃ ad : Addr, A = some ad ∧ w.cell? (ad.add (i * 2)) = some (.int .i64 x.key) ∧ w.cell? ⟨(ad.add (i * 2)).block, (ad.add (i * 2)).off + 1, none⟩ = some (.int .i64 x.id) := by
  obtain ⟨h1, rfl⟩ := List.getElem?_eq_some_iff.1 hi
  obtain ⟨ad, rfl, c0, c1⟩ := h.out i h1
  rw [add_part _ _ _ (by decide)] at c1
  exact ⟨ad, rfl, c0, c1⟩
theorem flatI_get : ∀ (l : List It) (i : Nat) (h : i < l.length), (flatI l)[i * 2]? = some (.int .i64 l[i].key) ∧ (flatI l)[i * 2 + 1]? = some (.int .i64 l[i].id)
  | [], i, h => absurd h (Nat.not_lt_zero _)
  | x :: l, 0, h => by simp [flatI]
  | x :: l, i + 1, h => by
    have := flatI_get l i (by simpa using h)
    have e : flatI (x :: l) = .int .i64 x.key :: .int .i64 x.id :: flatI l := rfl
    rw [e, show (i + 1) * 2 = i * 2 + 1 + 1 by omega]
    simpa using this
theorem itrow_cells {w : World} {A : Option Addr} {l : List It} (h : Cells w A (flatI l)) : Hid (ItRow w A l) := by
  intro i hi
  obtain ⟨h0, h1⟩ := flatI_get l i hi
  obtain ⟨l0, e0⟩ := List.getElem?_eq_some_iff.1 h0
  obtain ⟨l1, e1⟩ := List.getElem?_eq_some_iff.1 h1
  obtain ⟨ad, rfl, c0⟩ := h _ l0
  obtain ⟨ad', e, c1⟩ := h _ l1
  obtain rfl := Option.some.inj e
  exact ⟨ad, rfl, by rw [c0, e0], by rw [c1, e1]⟩
theorem ext_upto {la lb : List It} (hl : la.length = lb.length) (h : ∀ j, j < la.length → la[j]? = lb[j]?) : la = lb := by
  apply List.ext_getElem? 
  intro j
  by_cases hj : j < la.length
  · exact h j hj
  · rw [List.getElem?_eq_none (by omega), List.getElem?_eq_none (by omega)]
theorem blk_grown' {w w' : World} {g : Nat} {o : Obj} {row : Option Nat} (h : w.heap[g]? = some o) (hg : w.grownBy w' row) (hne : row ≠ some g) : w'.heap[g]? = some o := by
  rw [hg.block g (blk_lt h) (fun e => hne e.symm)]
  exact h
theorem dropL_take (x : It) (l : List It) (i : Nat) (y : It) (hy : l[i]? = some y) : dropL x (l.take (i + 1)) = dropL x (l.take i) ++ (if y = x then [] else [y]) := by
  obtain ⟨h1, rfl⟩ := List.getElem?_eq_some_iff.1 hy
  rw [List.take_succ_eq_append_getElem h1]
  unfold dropL
  rw [List.filter_append]
  congr 1
  by_cases h : l[i] = x <;> simp [h]
theorem cell_blk {w w' : World} {a : Addr} (h : w'.heap[a.block]? = w.heap[a.block]?) : w'.cell? a = w.cell? a := by
  unfold World.cell?
  rw [h]
theorem add_blk (ad : Addr) (n : Nat) : (ad.add n).block = ad.block := by
  unfold Addr.add
  split <;> rfl
theorem itrow_same {w w' : World} {A : Option Addr} {l : List It} (h : Hid (ItRow w A l)) (hs : ∀ ad, A = some ad → w'.heap[ad.block]? = w.heap[ad.block]?) : Hid (ItRow w' A l) := by
  intro i hi
  obtain ⟨ad, rfl, h0, h1⟩ := h.out i hi
  have := hs ad rfl
  exact ⟨ad, rfl, (cell_blk (by rw [add_blk]; exact this)).trans h0, (cell_blk (by rw [add_blk]; exact this)).trans h1⟩
/-- A shelf's origin, taken anew: what is not its own is kept from here on. -/
theorem items_self {w0 w w' : World} {S0 : Nat → Prop} {p n : Nat} {l : List It} (h : Items w0 S0 w p l n) (hb : Below w.heap.size w w') :
    ∃ S', (∀ k, S' k → k < w.heap.size) ∧ (∀ k, S' k → Ext S0 w0 k) ∧ Items w' S' w' p l n := by
  obtain ⟨t, ⟨gl, cl, vf, L, F, hH⟩, h2⟩ := h
  refine ⟨foot p gl vf, ?_, fun k hk => hH.sh.foot_ext (.inl hk), t, ⟨gl, cl, vf, L, F, (hH.sh.below hb).self, hH.zero, hH.fit, hH.free, hH.len⟩, h2⟩
  rintro k (rfl | rfl | hk)
  · exact hH.sh.plt
  · exact hH.sh.glt
  · exact hH.sh.flt k hk
end Go.Proofs.Ytpgfenelckonoaa.Sh
