/- A shelf with its own blocks named; two shelves side by side; the reference's Has over a row of items; rows of items as arguments. -/
import Derived.Test.YtpgfenelckonoaaShX
namespace Go.Proofs.Ytpgfenelckonoaa.ShM
theorem putL_mem_iff (x y : It) (l : List It) : y ∈ putL x l ↔ y = x ∨ y ∈ l := by
  unfold putL
  split
  · rename_i h
    exact ⟨.inr, fun h' => h'.elim (fun e => by rw [e]; exact h) id⟩
  · exact insL_mem ..
theorem dropL_mem_iff (x y : It) (l : List It) : y ∈ dropL x l ↔ y ∈ l ∧ y ≠ x := by
  unfold dropL
  rw [List.mem_filter, decide_eq_true_eq]
theorem less_self (x : It) : less x x = false := by simp [less]
theorem rises_ext : ∀ (l m : List It), Rises l → Rises m → (∀ y, y ∈ l ↔ y ∈ m) → l = m
  | [], [], _, _, _ => rfl
  | [], y :: m, _, _, h => by have := (h y).2 (by simp); cases this
  | x :: l, [], _, _, h => by have := (h x).1 (by simp); cases this
  | x :: l, y :: m, hl, hm, h => by
    obtain ⟨l1, l2⟩ := List.pairwise_cons.1 hl
    obtain ⟨m1, m2⟩ := List.pairwise_cons.1 hm
    have hxy : x = y := by
      rcases List.mem_cons.1 ((h x).1 (by simp)) with e | hx
      · exact e
      rcases List.mem_cons.1 ((h y).2 (by simp)) with e | hy
      · exact e.symm
      have := less_trans (m1 x hx) (l1 y hy)
      rw [less_self] at this; cases this
    subst hxy
    have hxl : x ∉ l := fun hx => by have := l1 x hx; rw [less_self] at this; cases this
    have hxm : x ∉ m := fun hx => by have := m1 x hx; rw [less_self] at this; cases this
    rw [rises_ext l m l2 m2 fun z => by
      constructor
      · intro hz
        rcases List.mem_cons.1 ((h z).1 (List.mem_cons_of_mem _ hz)) with e | h'
        · subst e; exact absurd hz hxl
        · exact h'
      · intro hz
        rcases List.mem_cons.1 ((h z).2 (List.mem_cons_of_mem _ hz)) with e | h'
        · subst e; exact absurd hz hxm
        · exact h']
end Go.Proofs.Ytpgfenelckonoaa.ShM
namespace Go.Proofs.Ytpgfenelckonoaa.Sh
open Go.RowKit Go.Proofs.Ytpgfenelckonoaa.Kit Go.Proofs.Ytpgfenelckonoaa.ShM
set_option linter.unusedVariables false
set_option linter.unusedSimpArgs false
/-- A shelf with its own blocks named. -/
def ItemsF (S : Nat → Prop) (w : World) (p : Nat) (l : List It) (n : Nat) : Prop := ∃ t gl cl vf L F, S = foot p gl vf ∧ Holds w S w p gl cl vf L F t n ∧ t.items = l ∧ Rises l ∧ Even t
theorem ItemsF.items {S : Nat → Prop} {w : World} {p n : Nat} {l : List It} (h : ItemsF S w p l n) : Items w S w p l n := by
  obtain ⟨t, gl, cl, vf, L, F, rfl, h1, h2⟩ := h
  exact ⟨t, ⟨gl, cl, vf, L, F, h1⟩, h2⟩
theorem Items.foot {w0 w : World} {S0 : Nat → Prop} {p n : Nat} {l : List It} (h : Items w0 S0 w p l n) : ∃ S, ItemsF S w p l n ∧ ∀ k, S k → Ext S0 w0 k := by
  obtain ⟨t, ⟨gl, cl, vf, L, F, hH⟩, h2⟩ := h
  exact ⟨Sh.foot p gl vf, ⟨t, gl, cl, vf, L, F, rfl, ⟨hH.sh.self, hH.zero, hH.fit, hH.free, hH.len⟩, h2⟩, fun k hk => hH.sh.foot_ext (.inl hk)⟩
theorem ItemsF.lt {S : Nat → Prop} {w : World} {p n : Nat} {l : List It} (h : ItemsF S w p l n) : ∀ k, S k → k < w.heap.size := by
  obtain ⟨t, gl, cl, vf, L, F, rfl, hH, h2⟩ := h
  rintro k (rfl | rfl | hk)
  · exact hH.sh.plt
  · exact hH.sh.glt
  · exact hH.sh.flt k hk
theorem ItemsF.kept {S : Nat → Prop} {w w' : World} {p n : Nat} {l : List It} (h : ItemsF S w p l n) (hs : ∀ k, S k → w'.heap[k]? = w.heap[k]?) : ItemsF S w' p l n := by
  obtain ⟨t, gl, cl, vf, L, F, rfl, hH, h2⟩ := h
  have s := hH.sh
  refine ⟨t, gl, cl, vf, L, F, rfl, ⟨⟨(hs p (.inl rfl)).trans s.at_, own_same s.row fun g hg => hs g ?_, own_same s.free fun g hg => hs g (.inr (.inr hg)), s.gp, s.fp, s.fg, .inl (.inl rfl), .inl (.inr (.inl rfl)), fun k hk => .inl (.inr (.inr hk)), Kept.refl _ _⟩, hH.zero, hH.fit, hH.free, hH.len⟩, h2⟩
  obtain rfl : gl = g := by simpa [Value.ownBlock] using hg
  exact .inr (.inl rfl)
/-- Two shelves side by side, both laid behind w0. -/
def Two (w0 w : World) (p : Nat) (l : List It) (n : Nat) (q : Nat) (m : List It) (k : Nat) : Prop :=
  ∃ S T : Nat → Prop, (∀ b, S b → T b → False) ∧ (∀ b, S b → w0.heap.size ≤ b) ∧ (∀ b, T b → w0.heap.size ≤ b) ∧ ItemsF S w p l n ∧ ItemsF T w q m k ∧ Below w0.heap.size w0 w
section
variable {w0 w w' : World} {p n q k : Nat} {l m : List It}
theorem Two.symm (h : Two w0 w p l n q m k) : Two w0 w q m k p l n := by
  obtain ⟨S, T, h1, h2, h3, h4, h5, h6⟩ := h
  exact ⟨T, S, fun b a c => h1 b c a, h3, h2, h5, h4, h6⟩
theorem Two.to (h : Two w0 w p l n q m k) : Below w0.heap.size w0 w := by
  obtain ⟨S, T, h1, h2, h3, h4, h5, h6⟩ := h
  exact h6
theorem Two.rises (h : Two w0 w p l n q m k) : Rises l := by
  obtain ⟨S, T, h1, h2, h3, h4, h5, h6⟩ := h
  exact h4.items.rises
theorem Two.length (h : Two w0 w p l n q m k) : l.length ≤ n := by
  obtain ⟨S, T, h1, h2, h3, h4, h5, h6⟩ := h
  exact h4.items.length
theorem Two.below (h : Two w0 w p l n q m k) (hb : Below w.heap.size w w') : Two w0 w' p l n q m k := by
  obtain ⟨S, T, h1, h2, h3, h4, h5, h6⟩ := h
  exact ⟨S, T, h1, h2, h3, h4.kept fun b hb' => hb.block b (h4.lt b hb'), h5.kept fun b hb' => hb.block b (h5.lt b hb'), h6.trans (hb.mono h6.size)⟩
theorem Two.step {S T : Nat → Prop} {l' : List It} {n' : Nat} (h1 : ∀ b, S b → T b → False) (h2 : ∀ b, S b → w0.heap.size ≤ b) (h3 : ∀ b, T b → w0.heap.size ≤ b) (h4 : ItemsF S w p l n) (h5 : ItemsF T w q m k) (h6 : Below w0.heap.size w0 w) (hi : Items w S w' p l' n') : Two w0 w' p l' n' q m k := by
  obtain ⟨S', hf, he⟩ := hi.foot
  have hk := hi.kept
  refine ⟨S', T, fun b hs ht => ?_, fun b hs => ?_, h3, hf, h5.kept fun b ht => hk.block b (h5.lt b ht) (fun hs => h1 b hs ht), ?_⟩
  · rcases he b hs with h | h
    · exact h1 b h ht
    · have := h5.lt b ht; omega
  · rcases he b hs with h | h
    · exact h2 b h
    · have := h6.size; omega
  · exact ⟨hk.os.trans h6.os, hk.tape.trans h6.tape, hk.output.trans h6.output, Nat.le_trans h6.size hk.size, fun b hb => (hk.block b (Nat.lt_of_lt_of_le hb h6.size) (fun hs => by have := h2 b hs; omega)).trans (h6.block b hb)⟩
theorem two_put (x : It) (h : Two w0 w p l n q m k) (hn : n ≤ 549755813888) :
    Calls Try.prog 74 #[.pointer (some ⟨p, 0, none⟩), .agg #[.int .i64 x.key, .int .i64 x.id]] w fun e w' => ∃ b, e = .returned (.bool b) ∧ Two w0 w' p (putL x l) (n + 1) q m k := by
  obtain ⟨S, T, h1, h2, h3, h4, h5, h6⟩ := h
  exact (items_put x h4.items hn).mono fun e w' h => ⟨_, h.1, Two.step h1 h2 h3 h4 h5 h6 h.2⟩
theorem two_drop (x : It) (h : Two w0 w p l n q m k) (hn : n ≤ 549755813888) :
    Calls Try.prog 67 #[.pointer (some ⟨p, 0, none⟩), .agg #[.int .i64 x.key, .int .i64 x.id]] w fun e w' => ∃ b, e = .returned (.bool b) ∧ Two w0 w' p (dropL x l) n q m k := by
  obtain ⟨S, T, h1, h2, h3, h4, h5, h6⟩ := h
  exact (items_drop x h4.items hn).mono fun e w' h => ⟨_, h.1, Two.step h1 h2 h3 h4 h5 h6 h.2⟩
theorem two_new (hs : Items w0 (fun _ => False) w p l n) (ht : Items w (fun _ => False) w' q m k) : Two w0 w' p l n q m k := by
  obtain ⟨S, hf, he⟩ := hs.foot
  obtain ⟨T, hg, hd⟩ := ht.foot
  have hb0 := hs.kept.toBelow fun k h => h.elim
  have hb := ht.kept.toBelow fun k h => h.elim
  have hS : ∀ b, S b → w0.heap.size ≤ b := fun b h => (he b h).elim (fun h => h.elim) id
  have hT : ∀ b, T b → w.heap.size ≤ b := fun b h => (hd b h).elim (fun h => h.elim) id
  exact ⟨S, T, fun b a c => by have := hf.lt b a; have := hT b c; omega, hS, fun b c => Nat.le_trans hb0.size (hT b c), hf.kept fun b h => hb.block b (hf.lt b h), hg, hb0.trans (hb.mono hb0.size)⟩
end
open Go.ChangeShapes Go.WideShapes Go.ChangeAt Go.Joins Go.Deep in
theorem open_items {H : Type} {enc : TypeId × Value → H} {P : Program} {W : World} {r : Reach} {b0 base : Nat} {held : Bool} {t e : TypeId} {g0 g1 : Field} {v : Value} {d : DataW H} {ps : List MemPlace}
    (ht : P.underlying t = some (.slice e)) (he : P.underlying e = some (.struct #[g0, g1])) (ce : P.cellsOf e = 2) (p0 : g0.offset = 0) (p1 : g1.offset = 1) (d0 : P.cellsOf g0.type = 1) (d1 : P.cellsOf g1.type = 1) (v0 : P.underlying g0.type = some (.int .i64)) (v1 : P.underlying g1.type = some (.int .i64))
    (hv : Value.okWide P W r b0 t v) (h : DataW.Trod enc P W base (fun _ => true) held t v d ps) :
    ∃ (A : Option Addr) (l : List It) (cap : Nat), v = .slice A l.length cap ∧ Hid (ItRow W A l) ∧ l.length ≤ cap ∧ cap ≤ maxLen := by
  obtain ⟨A, len, cap, rfl⟩ := okWide_slice ht hv
  obtain ⟨fuel, hf⟩ := h
  rcases open_slice ht hf with ⟨hcs, _⟩ | ⟨x, l, c, m, n, D, Pl, hcs, _, hl, hm, hmm, _, hx⟩
  · simp [Value.cells] at hcs
    obtain ⟨rfl, rfl, rfl⟩ := hcs
    exact ⟨none, [], 0, rfl, (fun i hi => by cases hi), Nat.le_refl _, Nat.zero_le _⟩
  · simp [Value.cells] at hcs
    obtain ⟨rfl, rfl, rfl⟩ := hcs
    simp only [if_true] at hmm
    subst hmm
    have each : ∀ i, i < m → ∃ o : It, W.cell? (x.add (i * 2)) = some (.int .i64 o.key) ∧ W.cell? (x.add (i * 2 + 1)) = some (.int .i64 o.id) := by
      intro i hi
      obtain ⟨cs', h1, h2⟩ := hx i hi
      rw [ce] at h1
      obtain ⟨_, hlen, hcell⟩ := World.cells?_some h1
      obtain ⟨zs, k2, hk2, hzy, _, hzl, hgd⟩ := DataW.trod_struct he h2
      match zs, hzl, cs', hlen with
      | [z0, z1], _, [w0, w1], _ =>
        have r0 := hgd 0 g0 rfl
        have r1 := hgd 1 g1 rfl
        simp [p0, p1, d0, d1] at r0 r1
        have e0 := hcell 0 (by omega)
        have e1 := hcell 1 (by omega)
        rw [Kit.add_add] at e0 e1
        obtain ⟨a, s0, _, _⟩ := DataW.trod_int v0 r0
        obtain ⟨b, s1, _, _⟩ := DataW.trod_int v1 r1
        simp only [List.cons.injEq, and_true] at s0 s1
        subst s0 s1
        exact ⟨⟨a, b⟩, by simpa using e0, by simpa using e1⟩
    obtain ⟨O, hO⟩ := choose_lt each
    refine ⟨some x, (List.range len).map O, m, by simp, ?_, by simpa using hl, hm⟩
    intro i hi
    have hi' : i < m := by simp at hi; omega
    obtain ⟨h0, h1⟩ := hO i hi'
    refine ⟨x, rfl, ?_⟩
    simp only [List.getElem_map, List.getElem_range]
    exact ⟨h0, h1⟩
end Go.Proofs.Ytpgfenelckonoaa.Sh
