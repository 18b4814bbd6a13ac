/- The library's functions over rows of whole numbers, and the copy of a map: laid at this program; what they say of rows that a call owns. -/
import Derived.Test.YtpgfenelckonoaaOwn
import Derived.Shelf.Slices.Clone
import Derived.Shelf.Slices.Turned
import Derived.Shelf.Slices.Reverse
import Derived.Shelf.Slices.SearchI
import Derived.Shelf.Slices.Delete
import Derived.Shelf.Slices.Cells
import Derived.Shelf.Slices.Empties
import Derived.Shelf.Spec.SlicesInsert
import Derived.Shelf.Spec.SlicesInsertGrow
import Derived.Shelf.SlMaps.Clone
namespace Go.Proofs.Ytpgfenelckonoaa.Ki
open Go.RowKit Go.Proofs.Ytpgfenelckonoaa.Kit
set_option linter.unusedVariables false
set_option linter.unusedSimpArgs false
def layClone_ren : Go.Shelf.Ren := ⟨fun | 15 => 43 | n => n, fun | 22 => 36 | 3 => 3 | 4 => 4 | n => n, fun | n => n⟩
theorem layClone : Go.Proofs.Lays2.n15 Try.prog layClone_ren := {
  mixed := by kernel_rfl,
  f15 := Try.func43.trans (congrArg some (by kernel_rfl)),
  t3 := Try.underlying3,
  a3 := Try.isAgg3,
  z3 := Try.sizeOf3,
  v3 := Try.zeroValue3,
  t4 := Try.underlying4,
  a4 := Try.isAgg4,
  z4 := Try.sizeOf4,
  v4 := Try.zeroValue4,
  t22 := Try.underlying36,
  a22 := Try.isAgg36,
  z22 := Try.sizeOf36,
  v22 := Try.zeroValue36,
  i3 := by kernel_rfl }
def layContains_ren : Go.Shelf.Ren := ⟨fun | 107 => 47 | 108 => 64 | n => n, fun | 28 => 36 | 3 => 3 | 4 => 4 | 0 => 0 | n => n, fun | n => n⟩
theorem layContains : Go.Proofs.Lays.n107 Try.prog layContains_ren := {
  mixed := by kernel_rfl,
  f107 := Try.func47.trans (congrArg some (by kernel_rfl)),
  f108 := Try.func64.trans (congrArg some (by kernel_rfl)),
  t0 := Try.underlying0,
  a0 := Try.isAgg0,
  z0 := Try.sizeOf0,
  v0 := Try.zeroValue0,
  t3 := Try.underlying3,
  a3 := Try.isAgg3,
  z3 := Try.sizeOf3,
  v3 := Try.zeroValue3,
  t4 := Try.underlying4,
  a4 := Try.isAgg4,
  z4 := Try.sizeOf4,
  v4 := Try.zeroValue4,
  t28 := Try.underlying36,
  a28 := Try.isAgg36,
  z28 := Try.sizeOf36,
  v28 := Try.zeroValue36 }
def layReverse_ren : Go.Shelf.Ren := ⟨fun | 112 => 80 | n => n, fun | 28 => 36 | 3 => 3 | 4 => 4 | 0 => 0 | n => n, fun | n => n⟩
theorem layReverse : Go.Proofs.Lays.n112 Try.prog layReverse_ren := {
  mixed := by kernel_rfl,
  f112 := Try.func80.trans (congrArg some (by kernel_rfl)),
  t0 := Try.underlying0,
  a0 := Try.isAgg0,
  z0 := Try.sizeOf0,
  v0 := Try.zeroValue0,
  t3 := Try.underlying3,
  a3 := Try.isAgg3,
  z3 := Try.sizeOf3,
  v3 := Try.zeroValue3,
  t4 := Try.underlying4,
  a4 := Try.isAgg4,
  z4 := Try.sizeOf4,
  v4 := Try.zeroValue4,
  t28 := Try.underlying36,
  a28 := Try.isAgg36,
  z28 := Try.sizeOf36,
  v28 := Try.zeroValue36 }
def laySearch_ren : Go.Shelf.Ren := ⟨fun | 25 => 33 | 31 => 52 | 32 => 53 | 37 => 70 | n => n, fun | 22 => 36 | 3 => 3 | 4 => 4 | 40 => 93 | 0 => 0 | n => n, fun | n => n⟩
theorem laySearch : Go.Proofs.Lays2.n25 Try.prog laySearch_ren := {
  mixed := by kernel_rfl,
  f25 := Try.func33.trans (congrArg some (by kernel_rfl)),
  f31 := Try.func52.trans (congrArg some (by kernel_rfl)),
  f32 := Try.func53.trans (congrArg some (by kernel_rfl)),
  f37 := Try.func70.trans (congrArg some (by kernel_rfl)),
  t0 := Try.underlying0,
  a0 := Try.isAgg0,
  z0 := Try.sizeOf0,
  v0 := Try.zeroValue0,
  t3 := Try.underlying3,
  a3 := Try.isAgg3,
  z3 := Try.sizeOf3,
  v3 := Try.zeroValue3,
  t4 := Try.underlying4,
  a4 := Try.isAgg4,
  z4 := Try.sizeOf4,
  v4 := Try.zeroValue4,
  t22 := Try.underlying36,
  a22 := Try.isAgg36,
  z22 := Try.sizeOf36,
  v22 := Try.zeroValue36,
  t40 := Try.underlying93,
  a40 := Try.isAgg93,
  z40 := Try.sizeOf93,
  v40 := Try.zeroValue93 }
def layInsert_ren : Go.Shelf.Ren := ⟨fun | 21 => 34 | 27 => 54 | 28 => 55 | 35 => 71 | 39 => 80 | n => n, fun | 22 => 36 | 3 => 3 | 4 => 4 | 0 => 0 | n => n, fun | n => n⟩
theorem layInsert : Go.Proofs.Lays2.n21 Try.prog layInsert_ren := {
  mixed := by kernel_rfl,
  f21 := Try.func34.trans (congrArg some (by kernel_rfl)),
  f27 := Try.func54.trans (congrArg some (by kernel_rfl)),
  f28 := Try.func55.trans (congrArg some (by kernel_rfl)),
  f35 := Try.func71.trans (congrArg some (by kernel_rfl)),
  f39 := Try.func80.trans (congrArg some (by kernel_rfl)),
  t0 := Try.underlying0,
  a0 := Try.isAgg0,
  z0 := Try.sizeOf0,
  v0 := Try.zeroValue0,
  t3 := Try.underlying3,
  a3 := Try.isAgg3,
  z3 := Try.sizeOf3,
  v3 := Try.zeroValue3,
  t4 := Try.underlying4,
  a4 := Try.isAgg4,
  z4 := Try.sizeOf4,
  v4 := Try.zeroValue4,
  t22 := Try.underlying36,
  a22 := Try.isAgg36,
  z22 := Try.sizeOf36,
  v22 := Try.zeroValue36,
  i3 := by kernel_rfl }
def layDelete_ren : Go.Shelf.Ren := ⟨fun | 23 => 44 | n => n, fun | 22 => 36 | 3 => 3 | 4 => 4 | 0 => 0 | n => n, fun | n => n⟩
theorem layDelete : Go.Proofs.Lays2.n23 Try.prog layDelete_ren := {
  mixed := by kernel_rfl,
  f23 := Try.func44.trans (congrArg some (by kernel_rfl)),
  t0 := Try.underlying0,
  a0 := Try.isAgg0,
  z0 := Try.sizeOf0,
  v0 := Try.zeroValue0,
  t3 := Try.underlying3,
  a3 := Try.isAgg3,
  z3 := Try.sizeOf3,
  v3 := Try.zeroValue3,
  t4 := Try.underlying4,
  a4 := Try.isAgg4,
  z4 := Try.sizeOf4,
  v4 := Try.zeroValue4,
  t22 := Try.underlying36,
  a22 := Try.isAgg36,
  z22 := Try.sizeOf36,
  v22 := Try.zeroValue36,
  i3 := by kernel_rfl }
def iv (l : List Int) : List Value := l.map (Value.int .i64)
/-- A row of whole numbers, in memory from block B on. -/
def Row (B : Nat) (w : World) (v : Value) (l : List Int) : Prop := w.ownsRow B 3 1 v l.length (iv l)
theorem iv_len (l : List Int) : (iv l).length = l.length := by simp [iv]
theorem iv_one (l : List Int) : ∀ u ∈ iv l, u.oneCell' = true := fun u hu => by
  obtain ⟨x, _, rfl⟩ := List.mem_map.1 hu
  rfl
theorem iv_get {l : List Int} {j : Nat} {x : Int} (h : l[j]? = some x) : (iv l)[j]? = some (.int .i64 x) := by simp [iv, h]
section
variable {B : Nat} {w w' : World} {v : Value} {l : List Int}
theorem row_nil (B : Nat) (w : World) : Row B w (.slice none 0 0) [] := ⟨rfl, .inl ⟨rfl, rfl⟩⟩
theorem Row.mono {B' : Nat} (h : Row B w v l) (hb : B' ≤ B) : Row B' w v l := by
  refine ⟨h.1, ?_⟩
  rcases h.2 with h | ⟨g, cap, cur, h1, h2, h3⟩
  · exact .inl h
  · exact .inr ⟨g, cap, cur, h1, Nat.le_trans hb h2, h3⟩
theorem Row.form (h : Row B w v l) : (v = .slice none 0 0 ∧ l = []) ∨ ∃ g c cur, v = .slice (some ⟨g, 0, none⟩) l.length c ∧ B ≤ g ∧ w.heap[g]? = some (.cells cur 3 (0, 0)) ∧ l.length ≤ c ∧ c ≤ maxLen ∧ cur.size = c ∧ ∀ (j : Nat) (x : Int), l[j]? = some x → cur[j]? = some (Value.int .i64 x) := by
  rcases h.2 with ⟨h1, h2⟩ | ⟨g, cap, cur, h1, h2, h3, h4, h5, h6, h7⟩
  · exact .inl ⟨h1, List.eq_nil_of_length_eq_zero h2⟩
  · refine .inr ⟨g, cap, cur, h1, h2, h3, h4, h5, by omega, fun j x hj => ?_⟩
    have h8 : (cur.toList.take (l.length * 1))[j]? = some (.int .i64 x) := by rw [h7]; exact iv_get hj
    obtain ⟨hj1, _⟩ := List.getElem?_eq_some_iff.1 hj
    rw [List.getElem?_take, if_pos (by omega)] at h8
    simpa using h8
theorem row_of {g c : Nat} {cur : Array Value} (hB : B ≤ g) (hg : w.heap[g]? = some (.cells cur 3 (0, 0))) (hl : l.length ≤ c) (hc : c ≤ maxLen) (hs : cur.size = c) (h : ∀ (j : Nat) (x : Int), l[j]? = some x → cur[j]? = some (Value.int .i64 x)) :
    Row B w (.slice (some ⟨g, 0, none⟩) l.length c) l := by
  refine ⟨by rw [iv_len]; omega, .inr ⟨g, c, cur, rfl, hB, hg, hl, hc, by omega, ?_⟩⟩
  apply List.ext_getElem?
  intro j
  by_cases hj : j < l.length
  · rw [List.getElem?_take, if_pos (by omega)]
    have h1 := h j _ (List.getElem?_eq_getElem hj)
    have h2 := iv_get (List.getElem?_eq_getElem hj)
    rw [h2]
    simpa using h1
  · rw [List.getElem?_eq_none (by simp; omega), List.getElem?_eq_none (by rw [iv_len]; omega)]
theorem Row.own_lt (h : Row B w v l) : ∀ g, v.ownBlock = some g → B ≤ g ∧ g < w.heap.size := by
  intro g hg
  rcases h.form with ⟨rfl, _⟩ | ⟨g', c, cur, rfl, h1, h2, _⟩
  · cases hg
  · cases hg
    exact ⟨h1, blk_lt h2⟩
theorem Row.same (h : Row B w v l) (hs : ∀ g, v.ownBlock = some g → w'.heap[g]? = w.heap[g]?) : Row B w' v l := by
  refine ⟨h.1, ?_⟩
  rcases h.2 with h | ⟨g, cap, cur, rfl, h2, h3, h4⟩
  · exact .inl h
  · exact .inr ⟨g, cap, cur, rfl, h2, (hs g rfl).trans h3, h4⟩
theorem Row.below (h : Row B w v l) (hb : Below w.heap.size w w') : Row B w' v l := h.same fun g hg => hb.block g (h.own_lt g hg).2
theorem Row.reads (h : Row B w v l) : ∃ (A : Option Addr) (c : Nat), v = .slice A l.length c ∧ Cells w A (iv l) ∧ l.length ≤ c ∧ (A = none ∧ l.length = 0 ∧ c = 0 ∨ ∃ g, A = some ⟨g, 0, none⟩ ∧ B ≤ g ∧ g < w.heap.size) := own_reads h
theorem Row.cells {g n c : Nat} (h : Row B w (.slice (some ⟨g, 0, none⟩) n c) l) : n = l.length ∧ (∀ (j : Nat) (x : Int), l[j]? = some x → w.cell? ⟨g, j, none⟩ = some (.int .i64 x)) := by
  rcases h.form with ⟨h1, _⟩ | ⟨g', c', cur, h1, h2, h3, h4, h5, h6, h7⟩
  · cases h1
  · cases h1
    refine ⟨rfl, fun j x hj => ?_⟩
    rw [blk_cell h3]
    exact h7 j x hj
theorem setCells_blk {g : Nat} {t : TypeId} {r : Nat × Nat} : ∀ (vs : List Value) (o : Nat) (w : World) (cur : Array Value), w.heap[g]? = some (.cells cur t r) → ∃ cur', (w.setCells g o vs).heap[g]? = some (.cells cur' t r) ∧ cur'.size = cur.size
  | [], o, w, cur, h => ⟨cur, h, rfl⟩
  | v :: vs, o, w, cur, h => by
    obtain ⟨cur', h1, h2⟩ := setCells_blk vs (o + 1) (w.setCell ⟨g, o, none⟩ v) (cur.setIfInBounds o v) (blk_put h o v rfl)
    exact ⟨cur', h1, by rw [h2]; simp⟩
theorem setCells_far {g k : Nat} (hk : k ≠ g) : ∀ (vs : List Value) (o : Nat) (w : World), (w.setCells g o vs).heap[k]? = w.heap[k]?
  | [], o, w => rfl
  | v :: vs, o, w => by
    show ((w.setCell ⟨g, o, none⟩ v).setCells g (o + 1) vs).heap[k]? = _
    rw [setCells_far hk vs (o + 1)]
    exact Below.heap_setCell _ _ _ _ hk
theorem setCells_rest {g : Nat} : ∀ (vs : List Value) (o : Nat) (w : World), (w.setCells g o vs).os = w.os ∧ (w.setCells g o vs).tape = w.tape ∧ (w.setCells g o vs).output = w.output ∧ (w.setCells g o vs).heap.size = w.heap.size
  | [], o, w => ⟨rfl, rfl, rfl, rfl⟩
  | v :: vs, o, w => by
    obtain ⟨h1, h2, h3, h4⟩ := setCells_rest (g := g) vs (o + 1) (w.setCell ⟨g, o, none⟩ v)
    have hs : w.grownBy (w.setCell ⟨g, o, none⟩ v) (some g) := ⟨rfl, rfl, rfl, by simp, fun i hi hne => Below.heap_setCell _ _ _ _ (fun e => hne (by rw [e]))⟩
    refine ⟨h1.trans rfl, h2.trans rfl, h3.trans rfl, h4.trans (by simp)⟩
theorem setCells_grown (w : World) (g o : Nat) (vs : List Value) : w.grownBy (w.setCells g o vs) (some g) := by
  obtain ⟨h1, h2, h3, h4⟩ := setCells_rest (g := g) vs o w
  exact ⟨h1, h2, h3, by omega, fun i hi hne => setCells_far (fun e => hne (by rw [e])) vs o w⟩
end
section
variable {B : Nat} {w w' : World} {v : Value} {l : List Int}
theorem getD_of (l : List Int) (j : Nat) (h : j < l.length) : l[j]? = some (l.getD j 0) := by
  rw [List.getD_eq_getElem?_getD, List.getElem?_eq_getElem h]
  rfl
theorem clone_row (h : Row B w v l) (hl : l.length ≤ 1000000) :
    Calls Try.prog 43 #[v] w fun e w' => ∃ v', e = .returned v' ∧ Row w.heap.size w' v' l ∧ Below w.heap.size w w' := by
  rcases h.form with ⟨rfl, rfl⟩ | ⟨g, c, cur, rfl, h1, h2, h3, h4, h5, h6⟩
  · exact (Any.slices_Clone_int_nil layClone 0 0 w).mono fun e w' ⟨he, hw⟩ => ⟨_, he, row_nil _ _, hw ▸ Below.refl _ _⟩
  · cases l with
    | nil => exact (Any.slices_Clone_int_zero layClone ⟨g, 0, none⟩ c w).mono fun e w' ⟨v', he, hr, _, hb⟩ => ⟨v', he, hr, hb⟩
    | cons x l =>
      refine (Any.slices_Clone_int layClone g 0 (x :: l).length c (x :: l) w (Nat.le_refl _) (by omega) fun j hj => ?_).mono fun e w' ⟨v', he, hr, _, hb⟩ => ⟨v', he, ?_, hb⟩
      · rw [Nat.zero_add, blk_cell h2]
        exact h6 j _ (getD_of _ _ hj)
      · rw [List.take_length] at hr
        exact hr
theorem contains_row (h : Row B w v l) (x : Int) (hl : l.length ≤ 1000000) :
    Calls Try.prog 47 #[v, .int .i64 x] w fun e w' => e = .returned (.bool (l.contains x)) ∧ w' = w := by
  rcases h.form with ⟨rfl, rfl⟩ | ⟨g, c, cur, rfl, h1, h2, h3, h4, h5, h6⟩
  · exact Any.slices_Contains_int_empty layContains none 0 x w
  · have := Any.slices_Contains_int layContains g 0 l.length c l x w (Nat.le_refl _) (by omega) fun j hj => by
      rw [Nat.zero_add, blk_cell h2]
      exact h6 j _ (getD_of _ _ hj)
    rw [List.take_length] at this
    exact this
theorem search_row (h : Row B w v l) (x : Int) (hl : l.length ≤ 1000000) (hs : l.Pairwise (· ≤ ·)) :
    Calls Try.prog 33 #[v, .int .i64 x] w fun e w' => e = .returned (.tuple #[.int .i64 (l.countP (· < x) : Nat), .bool (l.contains x)]) ∧ ∃ q, w' = w.drewN q := by
  rcases h.form with ⟨rfl, rfl⟩ | ⟨g, c, cur, rfl, h1, h2, h3, h4, h5, h6⟩
  · exact (Any.slices_BinarySearch_int_empty laySearch none 0 x w).mono fun e w' ⟨he, hw⟩ => ⟨he, 0, hw⟩
  · have := Any.slices_BinarySearch_int laySearch g 0 l.length c l x w (Nat.le_refl _) (by omega) (fun j hj => by
      rw [Nat.zero_add, blk_cell h2]
      exact h6 j _ (getD_of _ _ hj)) (by rw [List.take_length]; exact hs)
    rw [List.take_length] at this
    exact this
/-- A row whose cells are told anew. -/
theorem row_set {g c o q : Nat} {cur : Array Value} {vs : List Value} {l' : List Int} (hB : B ≤ g) (hg : w.heap[g]? = some (.cells cur 3 (0, 0))) (hl : l'.length ≤ c) (hc : c ≤ maxLen) (hs : cur.size = c)
    (ho : o + vs.length ≤ c) (h : ∀ (j : Nat) (x : Int), l'[j]? = some x → if o ≤ j ∧ j < o + vs.length then vs[j - o]? = some (Value.int .i64 x) else cur[j]? = some (Value.int .i64 x)) :
    Row B ((w.drewN q).setCells g o vs) (.slice (some ⟨g, 0, none⟩) l'.length c) l' ∧ w.grownBy ((w.drewN q).setCells g o vs) (some g) := by
  have hg' : (w.drewN q).heap[g]? = some (.cells cur 3 (0, 0)) := hg
  obtain ⟨cur', h1, h2⟩ := setCells_blk vs o (w.drewN q) cur hg'
  have hcell : ∀ k, k < c → ((w.drewN q).cell? ⟨g, k, none⟩).isSome = true := fun k hk => by
    rw [blk_cell hg', Array.getElem?_eq_getElem (by omega)]
    rfl
  refine ⟨row_of hB h1 hl hc (h2.trans hs) fun j x hj => ?_, ?_⟩
  · have h3 := h j x hj
    have h4 := blk_cell h1 j
    by_cases hin : o ≤ j ∧ j < o + vs.length
    · rw [if_pos hin] at h3
      have h5 := World.cell?_setCells_in g vs o (w.drewN q) (fun k hk => hcell _ (by omega)) (j - o) (by omega)
      rw [show o + (j - o) = j by omega, h4] at h5
      rw [h5, ← h3]
      rw [List.getElem?_eq_getElem (by omega)]
    · rw [if_neg hin] at h3
      have h5 := World.cell?_setCells_out g vs o (w.drewN q) ⟨g, j, none⟩ (fun _ _ => by show j < o ∨ o + vs.length ≤ j; omega)
      rw [h4, blk_cell hg'] at h5
      rw [h5, h3]
  · have := setCells_grown (w.drewN q) g o vs
    exact ⟨this.os, this.tape, this.output, this.size, this.block⟩
end
section
variable {B : Nat} {w w' : World} {v : Value} {l : List Int}
theorem reverse_row (h : Row B w v l) (hl : l.length ≤ 1000000) :
    Calls Try.prog 80 #[v] w fun e w' => e = .returned (.tuple #[]) ∧ Row B w' v l.reverse ∧ w.grownBy w' v.ownBlock := by
  rcases h.form with ⟨rfl, rfl⟩ | ⟨g, c, cur, rfl, h1, h2, h3, h4, h5, h6⟩
  · exact (Any.slices_Reverse_int_empty layReverse none 0 w).mono fun e w' ⟨he, hw⟩ => ⟨he, row_nil _ _, hw ▸ grown_refl _ _⟩
  · refine (Any.slices_Reverse_int_cells layReverse g 0 l.length c l w (Nat.le_refl _) (by omega) (fun j hj => ?_) (fun j hj => blk_frozen h2 _)).mono fun e w' ⟨he, q, hw⟩ => ⟨he, ?_⟩
    · rw [Nat.zero_add, blk_cell h2]
      exact h6 j _ (getD_of _ _ hj)
    · subst hw
      rw [List.take_length]
      have hll : l.reverse.length = l.length := List.length_reverse
      have := row_set (B := B) (g := g) (c := c) (o := 0) (q := q) (vs := l.reverse.map (Value.int .i64)) (l' := l.reverse) h1 h2 (by omega) h4 h5 (by simp; omega) (fun j x hj => by
        obtain ⟨hj1, _⟩ := List.getElem?_eq_some_iff.1 hj
        rw [if_pos (by simp; omega)]
        simp only [Nat.sub_zero, List.getElem?_map, hj]
        rfl)
      rw [hll] at this
      exact this
theorem delete_row (h : Row B w v l) (i : Nat) (hi : i < l.length) (hl : l.length ≤ 1000000) :
    Calls Try.prog 44 #[v, .int .i64 i, .int .i64 ((i : Int) + 1)] w fun e w' => ∃ v', e = .returned v' ∧ Row B w' v' (l.take i ++ l.drop (i + 1)) ∧ w.grownBy w' v.ownBlock := by
  rcases h.form with ⟨rfl, rfl⟩ | ⟨g, c, cur, rfl, h1, h2, h3, h4, h5, h6⟩
  · simp at hi
  · have hd := Any.slices_Delete_int_cells layDelete g 0 l.length c i (i + 1) l w (Nat.le_refl _) h3 (by unfold maxLen at h4; omega) (by omega) (by omega) (fun j hj => by
      rw [Nat.zero_add, blk_cell h2]
      exact h6 j _ (getD_of _ _ hj)) (fun j hj => blk_frozen h2 _)
    rw [List.take_length] at hd
    refine hd.mono fun e w' ⟨he, q, hw⟩ => ?_
    subst hw
    have hll : (l.take i ++ l.drop (i + 1)).length = l.length - (i + 1 - i) := by simp; omega
    have := row_set (B := B) (g := g) (c := c) (o := 0) (q := q) (vs := (l.take i ++ l.drop (i + 1) ++ List.replicate (i + 1 - i) 0).map (Value.int .i64)) (l' := l.take i ++ l.drop (i + 1)) h1 h2 (by omega) h4 h5 (by simp; omega) (fun j x hj => by
      obtain ⟨hj1, _⟩ := List.getElem?_eq_some_iff.1 hj
      rw [if_pos (by simp at hj1 ⊢; omega)]
      rw [Nat.sub_zero, List.getElem?_map, List.getElem?_append_left hj1, hj]
      rfl)
    rw [hll] at this
    exact ⟨_, he, this.1, this.2⟩
theorem ins_get (l : List Int) (x : Int) (i : Nat) (hi : i ≤ l.length) (j : Nat) : (l.take i ++ x :: l.drop i)[j]? = if j < i then l[j]? else if j = i then some x else l[j - 1]? := by
  have ht : (l.take i).length = i := by simp; omega
  by_cases h1 : j < i
  · rw [if_pos h1, List.getElem?_append_left (by omega), List.getElem?_take, if_pos h1]
  · rw [if_neg h1, List.getElem?_append_right (by omega), ht]
    by_cases h2 : j = i
    · rw [if_pos h2, h2, Nat.sub_self]; rfl
    · rw [if_neg h2, show j - i = (j - i - 1) + 1 by omega, List.getElem?_cons_succ, List.getElem?_drop]
      congr 1; omega
theorem insert_row {vb : Nat} {t : TypeId} {x : Int} (h : Row B w v l) (i : Nat) (hi : i ≤ l.length) (hl : l.length ≤ 1000000) (hB : B ≤ w.heap.size) (hvb : w.heap[vb]? = some (.cells #[.int .i64 x] t (0, 0))) (hne : ∀ g, v.ownBlock = some g → vb ≠ g) :
    Calls Try.prog 34 #[v, .int .i64 i, .slice (some ⟨vb, 0, none⟩) 1 1] w fun e w' => ∃ v', e = .returned v' ∧ Row B w' v' (l.take i ++ x :: l.drop i) ∧ w.grownBy w' v.ownBlock := by
  have hvs : ∀ (j : Nat) (u : Value), [Value.int .i64 x][j]? = some u → w.cell? ⟨vb, 0 + j, none⟩ = some u := fun j u hj => by
    rw [Nat.zero_add, blk_cell hvb]
    simpa using hj
  have h1v : ∀ u ∈ [Value.int .i64 x], u.oneCell' = true := fun u hu => by rw [List.mem_singleton.1 hu]; rfl
  have hll : (l.take i ++ x :: l.drop i).length = l.length + 1 := by simp; omega
  have hget := ins_get l x i hi
  have hmx : l.length + 1 ≤ maxLen := by unfold maxLen; omega
  have grown : ∀ (cells : Array Value) (C : Nat), l.length + 1 ≤ C → C ≤ maxLen → cells.size = C → (∀ (j : Nat) (y : Int), (l.take i ++ x :: l.drop i)[j]? = some y → cells[j]? = some (Value.int .i64 y)) → Row B (w.drew.alloc (.cells cells 3)) (.slice (some ⟨w.heap.size, 0, none⟩) (l.length + 1) C) (l.take i ++ x :: l.drop i) := fun cells C hC1 hC2 hs hc => by
    have := row_of (l := l.take i ++ x :: l.drop i) (B := B) hB (blk_new w.drew (.cells cells 3)) (by omega) hC2 hs hc
    rw [hll] at this
    exact this
  have hga : ∀ o, w.grownBy (w.drew.alloc o) v.ownBlock := fun o => by
    have hb : Below w.heap.size w (w.drew.alloc o) := (Below.refl _ _).drew.alloc (Nat.le_refl _) _
    exact ⟨hb.os, hb.tape, hb.output, hb.size, fun k hk _ => hb.block k hk⟩
  by_cases hin : i = l.length
  · subst hin
    by_cases hroom : ∃ g c cur, v = .slice (some ⟨g, 0, none⟩) l.length c ∧ B ≤ g ∧ w.heap[g]? = some (.cells cur 3 (0, 0)) ∧ l.length + 1 ≤ c ∧ c ≤ maxLen ∧ cur.size = c ∧ ∀ (j : Nat) (x : Int), l[j]? = some x → cur[j]? = some (Value.int .i64 x)
    · obtain ⟨g, c, cur, rfl, h1, h2, h3, h4, h5, h6⟩ := hroom
      refine (Any2.slices_Insert_int_end_room layInsert g 0 l.length c vb 0 1 1 [Value.int .i64 x] w (by omega) h3 (by unfold maxLen at h4; omega) rfl (fun j hj => ?_) (fun j hj => blk_frozen h2 _) hvs h1v).mono fun e w' ⟨he, hw⟩ => ?_
      · rw [blk_cell h2, Array.getElem?_eq_getElem (by omega)]; rfl
      · subst hw
        have := row_set (B := B) (g := g) (c := c) (o := 0 + l.length) (q := 0) (vs := [Value.int .i64 x]) (l' := l.take l.length ++ x :: l.drop l.length) h1 h2 (by omega) h4 h5 (by simp; omega) (fun j y hj => by
          rw [hget] at hj
          by_cases e1 : j < l.length
          · rw [if_pos e1] at hj
            rw [if_neg (by omega)]
            exact h6 j y hj
          · rw [if_neg e1] at hj
            by_cases e2 : j = l.length
            · rw [if_pos e2] at hj
              rw [if_pos (by simp; omega), show j - (0 + l.length) = 0 by omega]
              cases hj; rfl
            · rw [if_neg e2, List.getElem?_eq_none (by omega)] at hj
              cases hj)
        rw [hll] at this
        exact ⟨_, he, this.1, this.2⟩
    · have hform : ∃ base c, v = .slice base l.length c ∧ l.length ≤ c ∧ c < l.length + 1 ∧ (base = none → l.length = 0) ∧ ∀ a, base = some a → ∀ (j : Nat) (u : Value), (iv l)[j]? = some u → w.cell? (a.add j) = some u := by
        rcases h.form with ⟨rfl, rfl⟩ | ⟨g, c, cur, rfl, h1, h2, h3, h4, h5, h6⟩
        · exact ⟨none, 0, rfl, Nat.le_refl _, by simp, fun _ => rfl, fun a e => by cases e⟩
        · refine ⟨some ⟨g, 0, none⟩, c, rfl, h3, ?_, (fun e => by cases e), fun a e j u hj => ?_⟩
          · apply Nat.lt_of_not_le
            intro hc
            exact hroom ⟨g, c, cur, rfl, h1, h2, hc, h4, h5, h6⟩
          · cases e
            rw [add_lit, blk_cell h2]
            unfold iv at hj
            rw [List.getElem?_map] at hj
            obtain ⟨y, hy, rfl⟩ := Option.map_eq_some_iff.1 hj
            exact h6 j y hy
      obtain ⟨base, c, rfl, hc1, hc2, hc3, hc4⟩ := hform
      refine (Any2.slices_Insert_int_end_grow layInsert base l.length c vb 0 1 1 (iv l) [Value.int .i64 x] w (by omega) hc1 hc2 (by omega) (iv_len l) rfl hc3 hc4 hvs h1v).mono fun e w' ⟨he, hw⟩ => ?_
      subst hw
      refine ⟨_, he, grown _ _ (grownCap_ge _ _ _ _) (grownCap_le_maxLen _ _ _ _ hmx) ?_ (fun j y hj => ?_), hga _⟩
      · have := grownCap_ge w (l.length + 1) c 3
        simp only [Array.size_append, List.size_toArray, List.length_append, iv_len, size_zeroCells, List.length_singleton]
        have e1 : (Value.int .i64 0).cells.size = 1 := rfl
        rw [e1]
        show l.length + 1 + (grownCap w (l.length + 1) c 3 - (l.length + 1)) * 1 = grownCap w (l.length + 1) c 3
        omega
      · rw [List.take_length, List.drop_length] at hj
        obtain ⟨hj1, _⟩ := List.getElem?_eq_some_iff.1 hj
        rw [Array.getElem?_append_left (by simp [iv_len] at hj1 ⊢; omega)]
        have : iv l ++ [Value.int .i64 x] = iv (l ++ [x]) := by simp [iv]
        rw [List.getElem?_toArray, this]
        exact iv_get hj
  · have hi2 : i < l.length := by omega
    rcases h.form with ⟨rfl, rfl⟩ | ⟨g, c, cur, rfl, h1, h2, h3, h4, h5, h6⟩
    · simp at hi2
    have hcs : ∀ (j : Nat) (u : Value), (iv l)[j]? = some u → w.cell? ⟨g, 0 + j, none⟩ = some u := fun j u hj => by
      rw [Nat.zero_add, blk_cell h2]
      unfold iv at hj
      rw [List.getElem?_map] at hj
      obtain ⟨y, hy, rfl⟩ := Option.map_eq_some_iff.1 hj
      exact h6 j y hy
    by_cases hroom : l.length + 1 ≤ c
    · refine (Any2.slices_Insert_int_shift layInsert g 0 l.length c i vb 0 1 1 (iv l) [Value.int .i64 x] w hi2 (by omega) hroom (by unfold maxLen at h4; omega) (hne g rfl) (iv_len l) rfl hcs (fun j hj => ?_) (fun j hj => blk_frozen h2 _) hvs (iv_one l) h1v
        t 3 1 c (by simp [World.shape?, hvb]) (by simp [World.shape?, h2, h5]) (by omega) (blk_frozen hvb _) (blk_frozen hvb _)).mono fun e w' ⟨he, hw⟩ => ?_
      · rw [blk_cell h2, Array.getElem?_eq_getElem (by omega)]; rfl
      · subst hw
        have hlen1 : (l.take (i + 1) ++ l.drop i).length = l.length + 1 := by simp; omega
        have r1 := row_set (B := B) (g := g) (c := c) (o := 0 + (i + 1)) (q := 1) (vs := (iv l).drop i) (l' := l.take (i + 1) ++ l.drop i) h1 h2 (by omega) h4 h5 (by simp [iv_len]; omega) (fun j y hj => by
          obtain ⟨hj1, _⟩ := List.getElem?_eq_some_iff.1 hj
          have ht : (l.take (i + 1)).length = i + 1 := by simp; omega
          by_cases e1 : j < i + 1
          · rw [List.getElem?_append_left (by omega), List.getElem?_take, if_pos e1] at hj
            rw [if_neg (by omega)]
            exact h6 j y hj
          · rw [List.getElem?_append_right (by omega), ht] at hj
            rw [if_pos (by simp [iv_len]; omega)]
            rw [show j - (0 + (i + 1)) = j - (i + 1) by omega, List.getElem?_drop]
            rw [List.getElem?_drop] at hj
            exact iv_get hj)
        rw [hlen1] at r1
        obtain ⟨hr1, hg1⟩ := r1
        rcases hr1.form with ⟨he1, _⟩ | ⟨g', c', cur', he1, k1, k2, k3, k4, k5, k6⟩
        · cases he1
        injection he1 with e1 e2 e3
        injection e1 with e1
        injection e1 with e1
        subst e1 e3
        have r2 := row_set (B := B) (g := g) (c := c) (o := 0 + i) (q := 0) (vs := [Value.int .i64 x]) (l' := l.take i ++ x :: l.drop i) k1 k2 (by omega) k4 k5 (by simp; omega) (fun j y hj => by
          rw [hget] at hj
          by_cases e1 : j < i
          · rw [if_pos e1] at hj
            rw [if_neg (by omega)]
            apply k6
            rw [List.getElem?_append_left (by simp; omega), List.getElem?_take, if_pos (by omega)]
            exact hj
          · rw [if_neg e1] at hj
            by_cases e2 : j = i
            · rw [if_pos e2] at hj
              rw [if_pos (by simp; omega), show j - (0 + i) = 0 by omega]
              cases hj; rfl
            · rw [if_neg e2] at hj
              rw [if_neg (by simp; omega)]
              apply k6
              rw [List.getElem?_append_right (by simp; omega), List.getElem?_drop, ← hj]
              have : (l.take (i + 1)).length = i + 1 := by simp; omega
              rw [this]
              congr 1
              omega)
        rw [hll] at r2
        refine ⟨_, he, r2.1, ?_⟩
        exact grown_trans hg1 r2.2 (fun k hk => .inl hk.symm)
    · refine (Any2.slices_Insert_int_grow layInsert g 0 l.length c i vb 0 1 1 (iv l) [Value.int .i64 x] w hi2 (by omega) h3 (by omega) (by omega) (iv_len l) rfl hcs hvs (iv_one l) h1v).mono fun e w' ⟨he, hw⟩ => ?_
      have hG := grownCap_ge w (l.length + 1) c 3
      have hG2 := grownCap_le_maxLen w (l.length + 1) c 3 hmx
      obtain ⟨C, hC⟩ : ∃ C, C = grownCap w (l.length + 1) c 3 := ⟨_, rfl⟩
      rw [← hC] at hG hG2
      obtain ⟨c0, hc⟩ : ∃ c0, c0 = ((((iv l).take i).toArray ++ Builtin.zeroCells (Value.int .i64 0).cells (l.length + 1 - i)) ++ Builtin.zeroCells (Value.int .i64 0).cells (C - (l.length + 1))) := ⟨_, rfl⟩
      have hw2 : w' = (((w.alloc (.cells c0 3)).drew.setCells w.heap.size i [Value.int .i64 x]).drew).setCells w.heap.size (i + 1) ((iv l).drop i) := by rw [hc, hC]; exact hw
      have he2 : e = .returned (.slice (some ⟨w.heap.size, 0, none⟩) (l.length + 1) C) := by rw [hC]; exact he
      have hc0 : (w.alloc (.cells c0 3)).heap[w.heap.size]? = some (.cells c0 3 (0, 0)) := blk_new _ _
      have hb1 : Below w.heap.size w (w.alloc (.cells c0 3)) := (Below.refl _ _).alloc (Nat.le_refl _) _
      have hit : ((iv l).take i).length = i := by simp [iv_len]; omega
      have hsz : c0.size = C := by
        have e1 : ∀ k, (Builtin.zeroCells (Value.int .i64 0).cells k).size = k := fun k => by rw [size_zeroCells]; show k * 1 = k; omega
        rw [hc, Array.size_append, Array.size_append, e1, e1, List.size_toArray, hit]
        omega
      have hfirst : ∀ (j : Nat) (y : Int), j < i → l[j]? = some y → c0[j]? = some (Value.int .i64 y) := fun j y hj hy => by
        rw [hc, Array.getElem?_append_left (by rw [Array.size_append, List.size_toArray, hit]; omega), Array.getElem?_append_left (by rw [List.size_toArray, hit]; omega), List.getElem?_toArray, List.getElem?_take, if_pos hj]
        exact iv_get hy
      have hl1 : (l.take i ++ [x]).length = i + 1 := by simp; omega
      obtain ⟨hr1, hg1⟩ := row_set (B := w.heap.size) (g := w.heap.size) (c := C) (o := i) (q := 1) (vs := [Value.int .i64 x]) (l' := l.take i ++ [x]) (Nat.le_refl _) hc0 (by omega) hG2 hsz (by simp; omega) (fun j y hj => by
        obtain ⟨hj1, _⟩ := List.getElem?_eq_some_iff.1 hj
        have ht : (l.take i).length = i := by simp; omega
        by_cases e1 : j < i
        · rw [List.getElem?_append_left (by omega), List.getElem?_take, if_pos e1] at hj
          rw [if_neg (by omega)]
          exact hfirst j y e1 hj
        · have e2 : j = i := by omega
          subst e2
          rw [List.getElem?_append_right (by omega), ht, Nat.sub_self] at hj
          cases hj
          rw [if_pos (by simp), Nat.sub_self]
          rfl)
      rw [hl1] at hr1
      rcases hr1.form with ⟨he1, _⟩ | ⟨g', c', cur', he1, k1, k2, k3, k4, k5, k6⟩
      · cases he1
      injection he1 with e1 e2 e3
      injection e1 with e1
      injection e1 with e1
      subst e1 e3
      obtain ⟨hr2, hg2⟩ := row_set (B := w.heap.size) (g := w.heap.size) (c := C) (o := i + 1) (q := 1) (vs := (iv l).drop i) (l' := l.take i ++ x :: l.drop i) (Nat.le_refl _) k2 (by omega) k4 k5 (by simp [iv_len]; omega) (fun j y hj => by
        rw [hget] at hj
        by_cases e1 : j < i
        · rw [if_pos e1] at hj
          rw [if_neg (by omega)]
          apply k6
          rw [List.getElem?_append_left (by simp; omega), List.getElem?_take, if_pos e1]
          exact hj
        · rw [if_neg e1] at hj
          have ht : (l.take i).length = i := by simp; omega
          by_cases e2 : j = i
          · rw [if_pos e2] at hj
            rw [if_neg (by omega)]
            apply k6
            subst e2
            rw [List.getElem?_append_right (by omega), ht, Nat.sub_self]
            exact hj
          · rw [if_neg e2] at hj
            obtain ⟨hj1, _⟩ := List.getElem?_eq_some_iff.1 hj
            rw [if_pos (by simp [iv_len]; omega), List.getElem?_drop, show i + (j - (i + 1)) = j - 1 by omega]
            exact iv_get hj)
      rw [hll] at hr2
      have hb2 : Below w.heap.size w ((w.alloc (.cells c0 3)).drew.setCells w.heap.size i [Value.int .i64 x]) := hb1.grown hg1 hb1.size (fun k hk => by cases hk; exact Nat.le_refl _)
      have hb3 := hb2.grown hg2 hb2.size (fun k hk => by cases hk; exact Nat.le_refl _)
      subst hw2
      exact ⟨_, he2, hr2.mono hB, ⟨hb3.os, hb3.tape, hb3.output, hb3.size, fun k hk _ => hb3.block k hk⟩⟩
end
end Go.Proofs.Ytpgfenelckonoaa.Ki
