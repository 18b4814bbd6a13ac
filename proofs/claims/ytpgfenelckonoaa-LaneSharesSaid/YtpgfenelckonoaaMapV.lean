/- Maps keyed by whole numbers that a call has made: which value lies at each key. Any values, those that lead to memory too. -/
import Derived.Test.YtpgfenelckonoaaOwn
import Derived.Maps.OwnOps
import Derived.Maps.AppendAt
namespace Go.Proofs.Ytpgfenelckonoaa.Kit
open Go.Maps Go.WideElems Go.MapKept Go.WideShapes
open Go.ChangeMaps (notKey putKey delKey mem_insert_iff setBlock heap_setBlock_same heap_setBlock_other)
set_option linter.unusedVariables false
set_option linter.unusedSimpArgs false
/-- Each value reads as itself. -/
def rv (v : Value) : Option (DataW Value × List MemPlace) := some (.held v, [])
/-- Block b is a map of at most n entries, with just what f tells. -/
def MapV (P : Program) (k : TypeId) (w : World) (b : Nat) (f : Int → Option Value) (n : Nat) : Prop :=
  ∃ es clock, w.heap[b]? = some (.map es clock) ∧ Fit P k rv es clock ∧ es.size ≤ n ∧ ∀ i v, f i = some v ↔ ∃ x ∈ es.toList, x.key = .int .i64 i ∧ x.val = v
section
variable {P : Program} {k t e : TypeId} {w w' : World} {b n : Nat} {f : Int → Option Value}
theorem MapV.lt (h : MapV P k w b f n) : b < w.heap.size := by
  obtain ⟨es, clock, hb, _⟩ := h
  exact (Array.getElem?_eq_some_iff.1 hb).1
theorem MapV.same (h : MapV P k w b f n) (hs : w'.heap[b]? = w.heap[b]?) : MapV P k w' b f n := by
  obtain ⟨es, clock, hb, h⟩ := h
  exact ⟨es, clock, hs.trans hb, h⟩
theorem MapV.more {m : Nat} (h : MapV P k w b f n) (hm : n ≤ m) : MapV P k w b f m := by
  obtain ⟨es, clock, hb, F, hs, h⟩ := h
  exact ⟨es, clock, hb, F, Nat.le_trans hs hm, h⟩
theorem MapV.congr {g : Int → Option Value} (h : MapV P k w b f n) (hg : ∀ i, g i = f i) : MapV P k w b g n := by
  obtain ⟨es, clock, hb, F, hs, h⟩ := h
  exact ⟨es, clock, hb, F, hs, fun i v => by rw [hg]; exact h i v⟩
theorem mapV_made (w : World) (P : Program) (k : TypeId) : MapV P k (w.alloc (.map #[] 0)) w.heap.size (fun _ => none) 0 :=
  ⟨#[], 0, (MapKept.heap_alloc w _).1, ⟨by simp, stamped_empty 0, by simp⟩, Nat.le_refl _, fun i v => by simp⟩
theorem rd_rv {x : MapEntry} {l : Lit} (h : keyOf P k x.key = some l) : rg P k rv x = (l, .held x.val) := by
  unfold rg rd rv
  rw [h]
  rfl
theorem fit_key {es : Array MapEntry} {clock : Nat} (F : Fit P k rv es clock) {x : MapEntry} (hx : x ∈ es.toList) : ∃ l, keyOf P k x.key = some l ∧ rg P k rv x = (l, .held x.val) := by
  obtain ⟨y, hy⟩ := F.reads x hx
  exact ⟨_, rd_key hy, rd_rv (rd_key hy)⟩
/-- What is told of a key. -/
theorem MapV.look (h : MapV P k w b f n) (c : Bool) (K : Keyed P k) (ht : P.underlying t = some (.map k e)) {z : Value} (hz : (zeroValue e).run P w = .ok z w) {i : Int} (hkey : keyOf P k (.int .i64 i) = some (.int .i64 i)) :
    (Instr.lookup t (.map (some b)) (.int .i64 i) c).run P w = .ok (if c then .tuple #[(f i).getD z, .bool (f i).isSome] else (f i).getD z) w := by
  obtain ⟨es, clock, hb, F, hs, hf⟩ := h
  rcases Maps.fit_look c K ht hz hb F hkey with ⟨hrun, hno, _⟩ | ⟨e0, y, hm, hk, hrun, _⟩
  · have hn : f i = none := by
      cases hfi : f i with
      | none => rfl
      | some v =>
        obtain ⟨x, hx, hxk, _⟩ := (hf i v).1 hfi
        exact absurd hxk (hno x hx)
    rw [hrun, hn]; rfl
  · have hn : f i = some e0.val := (hf i e0.val).2 ⟨e0, hm, hk, rfl⟩
    rw [hrun, hn]; rfl
theorem not_int {i j : Int} (h : j ≠ i) : (Value.int .i64 j) ≠ .int .i64 i := fun e => h (by injection e)
/-- A store. -/
theorem MapV.store (h : MapV P k w b f n) (K : Keyed P k) (ht : P.underlying t = some (.map k e)) (hn : n < maxLen) {i : Int} (v : Value) (hkey : keyOf P k (.int .i64 i) = some (.int .i64 i)) :
    ∃ w', (Instr.mapUpdate t (.map (some b)) (.int .i64 i) v).run P w = .ok () w' ∧ MapV P k w' b (fun j => if j = i then some v else f j) (n + 1) ∧ w.grownBy w' (some b) := by
  obtain ⟨es, clock, hb, F, hs, hf⟩ := h
  obtain ⟨es', clock', hrun, F', hput, _, _, hsub⟩ := Maps.fit_store (R' := rv) K ht hb F (Nat.lt_of_le_of_lt hs hn) (fun _ _ _ _ hz => hz) hkey (show rv v = some (.held v, []) from rfl)
  have hin : ∀ p : Lit × DataW Value, p ∈ es'.toList.map (rg P k rv) ↔ p = (.int .i64 i, .held v) ∨ (p ∈ es.toList.map (rg P k rv) ∧ notKey (.int .i64 i) p = true) := fun p => by
    rw [← (sorted_perm _).mem_iff, hput, putKey, mem_insert_iff, List.mem_filter, (sorted_perm _).mem_iff]
  have back : ∀ (l : Lit) (u : Value), (l, DataW.held u) ∈ es'.toList.map (rg P k rv) → ∀ key, keyOf P k key = some l → ∃ x ∈ es'.toList, x.key = key ∧ x.val = u := by
    intro l u h key hk
    obtain ⟨x, hx, e⟩ := List.mem_map.1 h
    obtain ⟨l', h1, h2⟩ := fit_key F' hx
    rw [h2] at e
    simp only [Prod.mk.injEq, DataW.held.injEq] at e
    obtain ⟨rfl, rfl⟩ := e
    exact ⟨x, hx, K.inj h1 hk, rfl⟩
  refine ⟨_, hrun, ⟨es', clock', heap_setBlock_same hb _, F', ?_, fun j u => ?_⟩, ⟨rfl, rfl, rfl, by simp [setBlock], fun i _ hi => heap_setBlock_other hb _ (fun e => hi (by rw [e]))⟩⟩
  · have e1 : es'.size = ((es'.toList.map (rg P k rv)).foldr DataW.insert []).length := by rw [length_sorted]; simp
    rw [e1, hput]
    unfold putKey
    rw [length_insert]
    have e2 := List.length_filter_le (notKey (.int .i64 i)) ((es.toList.map (rg P k rv)).foldr DataW.insert [])
    rw [length_sorted] at e2
    simp at e2
    omega
  · by_cases hj : j = i
    · subst hj
      dsimp only
      rw [if_pos rfl]
      constructor
      · rintro ⟨rfl⟩
        exact back _ _ ((hin _).2 (.inl rfl)) _ hkey
      · rintro ⟨x, hx, hk, rfl⟩
        rcases hsub x hx with ⟨_, h2⟩ | ⟨_, h2⟩
        · exact absurd hk h2
        · rw [h2]
    · dsimp only
      rw [if_neg hj, hf]
      constructor
      · rintro ⟨x, hx, hk, rfl⟩
        obtain ⟨l, h1, h2⟩ := fit_key F hx
        have hne : l ≠ .int .i64 i := fun e => by
          rw [e] at h1
          exact not_int hj (hk.symm.trans (K.inj h1 hkey))
        obtain ⟨x', hx', e1, e2⟩ := back l x.val ((hin _).2 (.inr ⟨List.mem_map.2 ⟨x, hx, h2⟩, (Maps.notKey_iff (K.key hkey)).2 hne⟩)) _ h1
        exact ⟨x', hx', e1.trans hk, e2⟩
      · rintro ⟨x, hx, hk, rfl⟩
        rcases hsub x hx with ⟨h1, _⟩ | ⟨h1, _⟩
        · exact ⟨x, h1, hk, rfl⟩
        · exact absurd (hk.symm.trans h1) (not_int hj)
/-- A key is struck. -/
theorem MapV.drop (h : MapV P k w b f n) (K : Keyed P k) (ht : P.underlying t = some (.map k e)) {i : Int} {ty : TypeId} (hkey : keyOf P k (.int .i64 i) = some (.int .i64 i)) :
    ∃ w', (Builtin.delete_ #[t, k] ty #[.map (some b), .int .i64 i]).run P w = .ok (.tuple #[]) w' ∧ MapV P k w' b (fun j => if j = i then none else f j) n ∧ w.grownBy w' (some b) := by
  obtain ⟨es, clock, hb, F, hs, hf⟩ := h
  obtain ⟨es', hrun, F', hsz, hput, _⟩ := Maps.fit_drop (ty := ty) K ht hb F hkey
  have hin : ∀ p : Lit × DataW Value, p ∈ es'.toList.map (rg P k rv) ↔ (p ∈ es.toList.map (rg P k rv) ∧ notKey (.int .i64 i) p = true) := fun p => by
    rw [← (sorted_perm _).mem_iff, hput, delKey, List.mem_filter, (sorted_perm _).mem_iff]
  refine ⟨_, hrun, ⟨es', clock, heap_setBlock_same hb _, F', Nat.le_trans hsz hs, fun j u => ?_⟩, ⟨rfl, rfl, rfl, by simp [setBlock], fun i _ hi => heap_setBlock_other hb _ (fun e => hi (by rw [e]))⟩⟩
  by_cases hj : j = i
  · subst hj
    dsimp only
    rw [if_pos rfl]
    constructor
    · intro h; cases h
    · rintro ⟨x, hx, hk, rfl⟩
      obtain ⟨l, h1, h2⟩ := fit_key F' hx
      have := ((hin _).1 (List.mem_map.2 ⟨x, hx, h2⟩)).2
      rw [Maps.notKey_iff (K.key hkey)] at this
      rw [hk, hkey] at h1
      exact absurd (Option.some.inj h1).symm this
  · dsimp only
    rw [if_neg hj, hf]
    constructor
    · rintro ⟨x, hx, hk, rfl⟩
      obtain ⟨l, h1, h2⟩ := fit_key F hx
      have hne : l ≠ .int .i64 i := fun e => by
        rw [e] at h1
        exact not_int hj (hk.symm.trans (K.inj h1 hkey))
      obtain ⟨x', hx', e⟩ := List.mem_map.1 ((hin _).2 ⟨List.mem_map.2 ⟨x, hx, h2⟩, (Maps.notKey_iff (K.key hkey)).2 hne⟩)
      obtain ⟨l', h1', h2'⟩ := fit_key F' hx'
      rw [h2'] at e
      simp only [Prod.mk.injEq, DataW.held.injEq] at e
      obtain ⟨rfl, e2⟩ := e
      exact ⟨x', hx', (K.inj h1' h1).trans hk, e2⟩
    · rintro ⟨x, hx, hk, rfl⟩
      obtain ⟨l, h1, h2⟩ := fit_key F' hx
      obtain ⟨x', hx', e⟩ := List.mem_map.1 ((hin _).1 (List.mem_map.2 ⟨x, hx, h2⟩)).1
      obtain ⟨l', h1', h2'⟩ := fit_key F hx'
      rw [h2'] at e
      simp only [Prod.mk.injEq, DataW.held.injEq] at e
      obtain ⟨rfl, e2⟩ := e
      exact ⟨x', hx', (K.inj h1' h1).trans hk, e2⟩
theorem int_key (hk : P.underlying k = some (.int .i64)) {i : Int} (h1 : -9223372036854775808 ≤ i) (h2 : i ≤ 9223372036854775807) : keyOf P k (.int .i64 i) = some (.int .i64 i) :=
  Maps.keyOf_int_mk hk (by simp [Lit.wf, IntKind.min, IntKind.max, IntKind.signed, IntKind.bits]; omega)
end
end Go.Proofs.Ytpgfenelckonoaa.Kit
