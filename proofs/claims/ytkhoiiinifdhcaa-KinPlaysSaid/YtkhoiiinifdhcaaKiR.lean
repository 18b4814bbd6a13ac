/- The document's own tree of groups: its rows in memory; the walks of its Has, Parent and Path. -/
import Derived.Test.YtkhoiiinifdhcaaKiO
import Derived.Test.YtkhoiiinifdhcaaOwnS
namespace Go.Proofs.Ytkhoiiinifdhcaa.KiM
variable {T l : Tr}
theorem get_perm (h : l.Perm T) (hw : WF T) (id : Int) : get l id = get T id := by
  have uq : ∀ a ∈ l, ∀ b ∈ l, a.1 = b.1 → a = b := fun a ha b hb e => rs_eq hw.rises (h.mem_iff.1 ha) (h.mem_iff.1 hb) e
  apply opt_ext
  intro m
  constructor
  · intro g
    exact get_of hw.rises (h.mem_iff.1 (get_mem g))
  · intro g
    have hm := h.mem_iff.2 (get_mem g)
    unfold get
    cases hf : l.find? fun x => decide (x.1 = id) with
    | none =>
      have := List.find?_eq_none.1 hf _ hm
      simp at this
    | some y =>
      have h1 := List.mem_of_find?_eq_some hf
      have h2 : y.1 = id := by simpa using List.find?_some hf
      have := uq y h1 _ hm h2
      subst this
      rfl
theorem tr_at (h : l.Perm T) (hw : WF T) {i : Nat} {x : Int × Int} (hx : l[i]? = some x) : get T x.1 = some x.2 :=
  get_of hw.rises (h.mem_iff.1 (List.mem_of_getElem? hx))
theorem tr_not (h : l.Perm T) {id : Int} (hn : ∀ x ∈ l, x.1 ≠ id) : get T id = none := by
  cases hg : get T id with
  | none => rfl
  | some p => exact absurd rfl (hn _ (h.mem_iff.2 (get_mem hg)))
end Go.Proofs.Ytkhoiiinifdhcaa.KiM
namespace Go.Proofs.Ytkhoiiinifdhcaa.Ki
open Go.RowKit Go.Proofs.Ytkhoiiinifdhcaa.Kit Go.Proofs.Ytkhoiiinifdhcaa.KiM
set_option linter.unusedVariables false
set_option linter.unusedSimpArgs false
def flatP (l : Tr) : List Value := l.flatMap fun x => [.int .i64 x.1, .int .i64 x.2]
theorem flatP_len (l : Tr) : (flatP l).length = l.length * 2 := by
  induction l with
  | nil => rfl
  | cons x l ih =>
    have e : flatP (x :: l) = .int .i64 x.1 :: .int .i64 x.2 :: flatP l := rfl
    rw [e]
    simp only [List.length_cons, ih]
    omega
theorem flatP_app (l k : Tr) : flatP (l ++ k) = flatP l ++ flatP k := by simp [flatP]
theorem flatP_one (l : Tr) : ∀ u ∈ flatP l, u.oneCell' = true := by
  intro u hu
  obtain ⟨x, _, hx⟩ := List.mem_flatMap.1 hu
  simp at hx
  rcases hx with rfl | rfl <;> rfl
def PRow (w : World) (A : Option Addr) (l : Tr) : Prop :=
  ∀ i (h : i < l.length), ∃ ad : Addr, A = some ad ∧ w.cell? (ad.add (i * 2)) = some (.int .i64 l[i].1) ∧ w.cell? (ad.add (i * 2 + 1)) = some (.int .i64 l[i].2)
theorem prow_below {w w1 : World} {A : Option Addr} {l : Tr} (h : Hid (PRow w A l)) (hb : Below w.heap.size w w1) : Hid (PRow w1 A l) := by
  intro i hi
  obtain ⟨ad, rfl, h0, h1⟩ := h.out i hi
  exact ⟨ad, rfl, (hb.cell (cell_lt h0)).trans h0, (hb.cell (cell_lt h1)).trans h1⟩
theorem p_at {w : World} {A : Option Addr} {l : Tr} {i : Nat} {x : Int × Int} (h : Hid (PRow w A l)) (hi : l[i]? = some x) :
    ∃ ad : Addr, A = some ad ∧ w.cell? (ad.add (i * 2)) = some (.int .i64 x.1) ∧ w.cell? ⟨(ad.add (i * 2)).block, (ad.add (i * 2)).off + 1, none⟩ = some (.int .i64 x.2) := by
  obtain ⟨h1, rfl⟩ := List.getElem?_eq_some_iff.1 hi
  obtain ⟨ad, rfl, c0, c1⟩ := h.out i h1
  rw [add_part _ _ _ (by decide)] at c1
  exact ⟨ad, rfl, c0, c1⟩
theorem flatP_get : ∀ (l : Tr) (i : Nat) (h : i < l.length), (flatP l)[i * 2]? = some (.int .i64 l[i].1) ∧ (flatP l)[i * 2 + 1]? = some (.int .i64 l[i].2)
  | [], i, h => absurd h (Nat.not_lt_zero _)
  | x :: l, 0, h => by simp [flatP]
  | x :: l, i + 1, h => by
    have := flatP_get l i (by simpa using h)
    have e : flatP (x :: l) = .int .i64 x.1 :: .int .i64 x.2 :: flatP l := rfl
    rw [e, show (i + 1) * 2 = i * 2 + 1 + 1 by omega]
    simpa using this
theorem prow_cells {w : World} {A : Option Addr} {l : Tr} (h : Cells w A (flatP l)) : Hid (PRow w A l) := by
  intro i hi
  obtain ⟨h0, h1⟩ := flatP_get l i hi
  obtain ⟨l0, e0⟩ := List.getElem?_eq_some_iff.1 h0
  obtain ⟨l1, e1⟩ := List.getElem?_eq_some_iff.1 h1
  obtain ⟨ad, rfl, c0⟩ := h _ l0
  obtain ⟨ad', e, c1⟩ := h _ l1
  obtain rfl := Option.some.inj e
  exact ⟨ad, rfl, by rw [c0, e0], by rw [c1, e1]⟩
/-- The document's tree in memory: its groups in whatever order. -/
def RT (w : World) (q : Nat) (l T : Tr) : Prop :=
  (∃ v, w.heap[q]? = some (.cells #[v] 33 (0, 0)) ∧ w.ownsRow 0 57 2 v l.length (flatP l)) ∧ l.Perm T ∧ WF T ∧ l.length ≤ 200
section
variable {w w' : World} {q : Nat} {l T : Tr}
theorem RT.below (h : RT w q l T) (hb : Below w.heap.size w w') : RT w' q l T := by
  obtain ⟨⟨v, h1, h2⟩, h3⟩ := h
  exact ⟨⟨v, blk_below h1 hb, own_belowS h2 hb⟩, h3⟩
theorem RT.look (h : RT w q l T) : ∃ A c, w.heap[q]? = some (.cells #[.slice A l.length c] 33 (0, 0)) ∧ Hid (PRow w A l) := by
  obtain ⟨⟨v, h1, h2⟩, _⟩ := h
  obtain ⟨A, c, rfl, hc, _⟩ := own_readsS (by decide) h2
  exact ⟨A, c, h1, prow_cells hc⟩
theorem not_snoc {id : Int} {i : Nat} {x : Int × Int} (hx : l[i]? = some x) (hn : ∀ y ∈ l.take i, y.1 ≠ id) (h : x.1 ≠ id) : ∀ y ∈ l.take (i + 1), y.1 ≠ id := by
  rw [List.take_add_one, hx]
  intro y hy
  rcases List.mem_append.1 hy with hy | hy
  · exact hn y hy
  · simp at hy
    rw [hy]
    exact h
theorem rhas_any (h : RT w q l T) (id : Int) :
    Calls Try.prog 22 #[.pointer (some ⟨q, 0, none⟩), .int .i64 id] w fun e w' => e = .returned (.bool (has T id)) ∧ w' = w := by
  obtain ⟨A, c, hq, hr⟩ := h.look
  have q0 := blk_cell hq 0
  have ql := blk_lt hq
  have HP := Kit.hid h.2.1
  have HW := Kit.hid h.2.2.1
  have hll := h.2.2.2
  clear h hq
  go_enter Try.func22, Try.ntmps22
  go_wp2
  go_loopw [5] (fun v5 wr => ∃ i : Nat, i ≤ l.length ∧ v5 = .int .i64 i ∧ wr = w ∧ Hid (∀ y ∈ l.take i, y.1 ≠ id)) (fun v5 _ => l.length - (intOf v5).toNat)
  case atStart => exact ⟨0, by omega, rfl, rfl, Kit.hid (by simp)⟩
  case round =>
    obtain ⟨i, hi, rfl, rfl, HE⟩ := hrel
    by_cases hlt : i < l.length
    · obtain ⟨x, hx⟩ : ∃ x, l[i]? = some x := ⟨_, List.getElem?_eq_getElem hlt⟩
      obtain ⟨ad, rfl, c0, c1⟩ := p_at hr hx
      have HX := Kit.hid hx
      clear hx
      by_cases hxy : x.1 = id
      · have g1 : (x.1 == id) = true := by simp [hxy]
        have HD : Hid (has T id = true) := Kit.hid (has_iff.2 (.inr ⟨_, by rw [← hxy]; exact tr_at HP.out HW.out HX.out⟩))
        clear hxy
        go_wp2
        go_ret
        exact ⟨by rw [HD.out]; rfl, rfl⟩
      · have g1 : (x.1 == id) = false := by simp [hxy]
        have HE : Hid (∀ y ∈ l.take (i + 1), y.1 ≠ id) := Kit.hid (not_snoc HX.out HE.out hxy)
        clear hxy
        go_wp2
        go_roundw
        case rel => exact ⟨i + 1, by omega, by go_num, trivial, HE⟩
        case measure => simp [intOf]; omega
    · obtain rfl : i = l.length := by omega
      have HD : Hid (has T id = (id == 0)) := Kit.hid (by
        have := tr_not HP.out (id := id) (by have := HE.out; rwa [List.take_length] at this)
        unfold has
        rw [this, Bool.eq_iff_iff]
        simp)
      go_wp2
      go_ret
      exact ⟨by rw [HD.out]; rfl, rfl⟩
theorem rparent_any (h : RT w q l T) (id : Int) :
    Calls Try.prog 24 #[.pointer (some ⟨q, 0, none⟩), .int .i64 id] w fun e w' => e = .returned (.int .i64 (parent T id)) ∧ w' = w := by
  obtain ⟨A, c, hq, hr⟩ := h.look
  have q0 := blk_cell hq 0
  have ql := blk_lt hq
  have HP := Kit.hid h.2.1
  have HW := Kit.hid h.2.2.1
  have hll := h.2.2.2
  clear h hq
  go_enter Try.func24, Try.ntmps24
  go_wp2
  go_loopw [5] (fun v5 wr => ∃ i : Nat, i ≤ l.length ∧ v5 = .int .i64 i ∧ wr = w ∧ Hid (∀ y ∈ l.take i, y.1 ≠ id)) (fun v5 _ => l.length - (intOf v5).toNat)
  case atStart => exact ⟨0, by omega, rfl, rfl, Kit.hid (by simp)⟩
  case round =>
    obtain ⟨i, hi, rfl, rfl, HE⟩ := hrel
    by_cases hlt : i < l.length
    · obtain ⟨x, hx⟩ : ∃ x, l[i]? = some x := ⟨_, List.getElem?_eq_getElem hlt⟩
      obtain ⟨ad, rfl, c0, c1⟩ := p_at hr hx
      have HX := Kit.hid hx
      clear hx
      by_cases hxy : x.1 = id
      · have g1 : (x.1 == id) = true := by simp [hxy]
        have HD : Hid (parent T id = x.2) := Kit.hid (by
          unfold parent
          rw [← hxy, tr_at HP.out HW.out HX.out]
          rfl)
        clear hxy
        go_wp2
        go_ret
        exact ⟨by rw [HD.out]; rfl, rfl⟩
      · have g1 : (x.1 == id) = false := by simp [hxy]
        have HE : Hid (∀ y ∈ l.take (i + 1), y.1 ≠ id) := Kit.hid (not_snoc HX.out HE.out hxy)
        clear hxy
        go_wp2
        go_roundw
        case rel => exact ⟨i + 1, by omega, by go_num, trivial, HE⟩
        case measure => simp [intOf]; omega
    · obtain rfl : i = l.length := by omega
      have HD : Hid (parent T id = -1) := Kit.hid (by
        have := tr_not HP.out (id := id) (by have := HE.out; rwa [List.take_length] at this)
        unfold parent
        rw [this]
        rfl)
      go_wp2
      go_ret
      exact ⟨by rw [HD.out]; rfl, rfl⟩
theorem ref_path_next {T : Tr} (h : WF T) {x : Int} (hx : 0 < x) (hh : has T x = true) : ∃ p, parent T x = p ∧ path T x = x :: path T p := by
  obtain ⟨p, hp⟩ := h.has_get hh (by omega)
  exact ⟨p, by unfold parent; rw [hp]; rfl, (h.path_cons hp).1⟩
theorem ref_path_end {T : Tr} (h : WF T) {x : Int} (hx : ¬ (0 < x ∧ has T x = true)) : path T x = [] := by
  cases hg : get T x with
  | none => exact path_none hg
  | some p => exact absurd ⟨(h.pos hg).1, has_iff.2 (.inr ⟨_, hg⟩)⟩ hx
set_option maxRecDepth 8000 in
set_option maxHeartbeats 1600000 in
theorem rpath_any (h : RT w q l T) (id : Int) :
    Calls Try.prog 29 #[.pointer (some ⟨q, 0, none⟩), .int .i64 id] w fun e w' => ∃ v, e = .returned v ∧ Row w.heap.size w' v (path T id) ∧ Below w.heap.size w w' := by
  have HT := Kit.hid h
  have HW : Hid (WF T) := Kit.hid h.2.2.1
  have HHA : Hid (∀ (x : Int) w', Below w.heap.size w w' → Calls Try.prog 22 #[.pointer (some ⟨q, 0, none⟩), .int .i64 x] w' fun e w'' => e = .returned (.bool (has T x)) ∧ w'' = w') := Kit.hid (fun x w' hb => rhas_any (HT.out.below hb) x)
  have HPA : Hid (∀ (x : Int) w', Below w.heap.size w w' → Calls Try.prog 24 #[.pointer (some ⟨q, 0, none⟩), .int .i64 x] w' fun e w'' => e = .returned (.int .i64 (parent T x)) ∧ w'' = w') := Kit.hid (fun x w' hb => rparent_any (HT.out.below hb) x)
  have HB0 : Hid (Below w.heap.size w w) := Kit.hid (Below.refl _ _)
  have HR0 : Hid (Row w.heap.size w (.slice none 0 0) []) := Kit.hid (row_nil _ _)
  clear h
  go_enter Try.func29, Try.ntmps29
  go_wp2_with fail
  go_loopw [1, 5] (fun v1 v5 wr => ∃ (x : Int) (pre : List Int) (vo : Value), v1 = .int .i64 x ∧ vo = v5 ∧ Hid (path T id = pre ++ path T x) ∧ Hid (Row w.heap.size wr vo pre) ∧ Hid (Below w.heap.size w wr)) (fun v1 _ _ => (path T (intOf v1)).length)
  case atStart => exact ⟨id, [], _, rfl, rfl, Kit.hid rfl, HR0, HB0⟩
  case round =>
    obtain ⟨x, pre, vo, rfl, rfl, HP, HR, HB⟩ := hrel
    have HC := Kit.hid (HHA.out x _ HB.out)
    by_cases hx0 : 0 < x
    · have g0 : decide (0 < x) = true := decide_eq_true hx0
      cases hh : has T x with
      | false =>
        have he := ref_path_end HW.out (x := x) (fun h => by rw [hh] at h; cases h.2)
        have HPE : Hid (path T id = pre) := Kit.hid (by rw [HP.out, he, List.append_nil])
        rw [hh] at HC
        clear he hh
        go_wp2_with fail
        (with_reducible refine HC.out.mono ?_); rintro e w2 ⟨rfl, rfl⟩
        go_wp2_with fail
        go_ret
        exact ⟨_, rfl, by rw [HPE.out]; exact HR.out, HB.out⟩
      | true =>
        obtain ⟨p, hp, hpx⟩ := ref_path_next HW.out hx0 hh
        have HPX := Kit.hid hpx
        have HPQ : Hid (∀ w', Below w.heap.size w w' → Calls Try.prog 24 #[.pointer (some ⟨q, 0, none⟩), .int .i64 x] w' fun e w'' => e = .returned (.int .i64 p) ∧ w'' = w') := Kit.hid (fun w' hb => by
          have := HPA.out x w' hb
          rw [hp] at this
          exact this)
        have HLE : Hid (pre.length ≤ 16) := Kit.hid (by
          have h1 := congrArg List.length HP.out
          have h2 := path_len HW.out id
          rw [List.length_append] at h1
          omega)
        rw [hh] at HC
        have hownA : (wr.alloc (.cells #[.int .i64 x] 3)).ownsRow w.heap.size 3 1 vo pre.length (iv pre) := HR.out.below ((Below.refl _ _).alloc (Nat.le_refl _) _)
        have HBA := Kit.hid (HB.out.alloc HB.out.size (.cells #[.int .i64 x] 3))
        have hcA := lit_int wr x
        clear hp hpx hh
        go_wp2_with fail
        (with_reducible refine HC.out.mono ?_); rintro e w2 ⟨rfl, rfl⟩
        clear HC
        go_wp2_with (at_builtin; refine wpList_append_src rfl _ _ 39 rfl w.heap.size 3 (.int .i64 0) 8 Try.underlying39 infoI rfl vo _ _ rfl hownA (some ⟨w2.heap.size, 0, none⟩) 1 1 [.int .i64 x] rfl rfl hcA (fun u hu => by rw [List.mem_singleton.1 hu]; rfl) (by have := HLE.out; unfold maxLen; omega) (by have := HLE.out; omega) HBA.out.size ?_
                     intro v3 w3 hown3 hg3 _
                     have HR3 : Hid (Row w.heap.size w3 v3 (pre ++ [x])) := Kit.hid (row_push (k := [x]) hown3)
                     have HB3 : Hid (Below w.heap.size w w3) := Kit.hid (row_below HBA.out hownA hg3 HBA.out.size)
                     have HC3 := Kit.hid (HPQ.out _ HB3.out)
                     clear hown3 hg3)
        (with_reducible refine HC3.out.mono ?_); rintro e w4 ⟨rfl, rfl⟩
        have HP4 : Hid (path T id = (pre ++ [x]) ++ path T p) := Kit.hid (by rw [HP.out, HPX.out]; simp)
        clear hownA hcA
        go_wp2_with fail
        go_roundw
        case rel => exact ⟨p, pre ++ [x], v3, rfl, rfl, HP4, HR3, HB3⟩
        case measure => show (path T p).length < (path T x).length; rw [HPX.out]; simp
    · have g0 : decide (0 < x) = false := decide_eq_false hx0
      have he := ref_path_end HW.out (x := x) (fun h => hx0 h.1)
      have HPE : Hid (path T id = pre) := Kit.hid (by rw [HP.out, he, List.append_nil])
      clear he hx0
      go_wp2_with fail
      go_ret
      exact ⟨_, rfl, by rw [HPE.out]; exact HR.out, HB.out⟩
end
end Go.Proofs.Ytkhoiiinifdhcaa.Ki
