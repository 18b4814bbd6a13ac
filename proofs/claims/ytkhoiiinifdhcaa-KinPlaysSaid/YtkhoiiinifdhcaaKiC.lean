/- The walk of kin's Under: a label loop over a stack. -/
import Derived.Test.YtkhoiiinifdhcaaKiB
namespace Go.Proofs.Ytkhoiiinifdhcaa.Ki
open Go.RowKit Go.Proofs.Ytkhoiiinifdhcaa.Kit Go.Proofs.Ytkhoiiinifdhcaa.KiM
set_option linter.unusedVariables false
set_option linter.unusedSimpArgs false
def lenV : Value → Nat
  | .slice _ n _ => n
  | _ => 0
theorem Row.len {B : Nat} {w : World} {v : Value} {l : List Int} (h : Row B w v l) : lenV v = l.length := by
  rcases h.form with ⟨rfl, rfl⟩ | ⟨g, c, cur, rfl, _⟩ <;> rfl
theorem list_lits (l : List Value) (n : Nat) (h : l.length = n) : l = (List.range n).map fun i => l.getD i undef := by
  refine List.ext_getElem (by simp [h]) fun i h1 h2 => ?_
  simp [h1]
theorem lits41 (f : Nat → Value) : (List.range 41).map f = f 0 :: f 1 :: f 2 :: f 3 :: f 4 :: f 5 :: f 6 :: f 7 :: f 8 :: f 9 :: f 10 :: f 11 :: f 12 :: f 13 :: f 14 :: f 15 :: f 16 :: f 17 :: f 18 :: f 19 :: f 20 :: f 21 :: f 22 :: f 23 :: f 24 :: f 25 :: f 26 :: f 27 :: f 28 :: f 29 :: f 30 :: f 31 :: f 32 :: f 33 :: f 34 :: f 35 :: f 36 :: f 37 :: f 38 :: f 39 :: f 40 :: [] := rfl
/-- What holds at the label: what is told already, and what is still on the stack. -/
def UndJ (T : Tr) (id : Int) (w0 : World) (p : Nat) (a' : Act) (wr : World) : Prop :=
  ∃ (vo vl : Value) (out st : List Int), a'.tmps.size = 41 ∧ a'.defers = [] ∧ a'.tmps.getD 0 undef = .pointer (some ⟨p, 0, none⟩) ∧ a'.tmps.getD 5 undef = vo ∧ a'.tmps.getD 6 undef = vl ∧
    Hid (Row w0.heap.size wr vo out) ∧ Hid (Row w0.heap.size wr vl st) ∧ Hid (∀ g, vo.ownBlock = some g → vl.ownBlock ≠ some g) ∧ Hid (under T id = out ++ st.reverse.flatMap (under T)) ∧ Hid (∀ x ∈ st, has T x = true) ∧ Hid (Below w0.heap.size w0 wr)
theorem UndJ.open {T : Tr} {id : Int} {w0 : World} {p : Nat} {a' : Act} {wr : World} (h : UndJ T id w0 p a' wr) :
    ∃ (vo vl : Value) (out st : List Int) (u : Nat → Value), a' = { tmps := (.pointer (some ⟨p, 0, none⟩) :: u 1 :: u 2 :: u 3 :: u 4 :: vo :: vl :: u 7 :: u 8 :: u 9 :: u 10 :: u 11 :: u 12 :: u 13 :: u 14 :: u 15 :: u 16 :: u 17 :: u 18 :: u 19 :: u 20 :: u 21 :: u 22 :: u 23 :: u 24 :: u 25 :: u 26 :: u 27 :: u 28 :: u 29 :: u 30 :: u 31 :: u 32 :: u 33 :: u 34 :: u 35 :: u 36 :: u 37 :: u 38 :: u 39 :: u 40 :: []).toArray, defers := [] } ∧
    Hid (Row w0.heap.size wr vo out) ∧ Hid (Row w0.heap.size wr vl st) ∧ Hid (∀ g, vo.ownBlock = some g → vl.ownBlock ≠ some g) ∧ Hid (under T id = out ++ st.reverse.flatMap (under T)) ∧ Hid (∀ x ∈ st, has T x = true) ∧ Hid (Below w0.heap.size w0 wr) := by
  obtain ⟨vo, vl, out, st, hs, hd, h0, h5, h6, rest⟩ := h
  obtain ⟨⟨l⟩, df⟩ := a'
  cases hd
  have e := (list_lits l 41 hs).trans (lits41 _)
  have g : ∀ i, l.getD i undef = (Array.mk l).getD i undef := fun i => by by_cases h : i < l.length <;> simp [Array.getD, h]
  rw [g 0, h0, g 5, h5, g 6, h6] at e
  exact ⟨vo, vl, out, st, fun i => l.getD i undef, congrArg (fun x => (⟨Array.mk x, []⟩ : Act)) e, rest⟩
section
variable {w w' : World} {p mb n : Nat} {T : Tr}
theorem under_len (h : WF T) (id : Int) : (under T id).length ≤ T.length + 1 := by
  by_cases hh : has T id = true
  · have : (under T id).length ≤ (0 :: T.map (·.1)).length := (h.nodup_under hh).length_le_of_subset fun x hx => by
      rcases has_iff.1 ((h.mem_under hh).1 hx).1 with rfl | ⟨q, hq⟩
      · simp
      · exact List.mem_cons_of_mem _ (List.mem_map.2 ⟨_, get_mem hq, rfl⟩)
    simpa using this
  · rw [under_none (by cases h : has T id with | true => exact absurd h hh | false => rfl)]; simp
theorem st_len (h : WF T) : ∀ {st : List Int}, (∀ x ∈ st, has T x = true) → st.length ≤ (st.flatMap (under T)).length
  | [], _ => by simp
  | x :: st, hs => by
    have h1 := st_len h (st := st) fun y hy => hs y (List.mem_cons_of_mem _ hy)
    rw [List.flatMap_cons, List.length_append, h.under_eq (hs x (by simp))]
    simp only [List.length_cons]
    omega
theorem own_apart {B : Nat} {v : Value} {l : List Int} {vv : Value} (h : Row B w v l) (hv : vv.ownBlock = v.ownBlock ∨ vv.ownBlock = some w.heap.size) {u : Value} {k : List Int} {C : Nat} (hu : Row C w u k) (ha : ∀ g, v.ownBlock = some g → u.ownBlock ≠ some g) : ∀ g, vv.ownBlock = some g → u.ownBlock ≠ some g := by
  intro g hg hu2
  rcases hv with e | e
  · exact ha g (e.symm.trans hg) hu2
  · rw [e] at hg
    cases hg
    have := (hu.own_lt _ hu2).2
    omega
theorem row_kept {B : Nat} {v u : Value} {l : List Int} (h : Row B w u l) (hg : w.grownBy w' v.ownBlock) (ha : ∀ g, v.ownBlock = some g → u.ownBlock ≠ some g) : Row B w' u l :=
  h.same fun g hu => hg.block g (h.own_lt g hu).2 fun e => ha g e.symm hu
theorem row_take {B g m c : Nat} {l r : List Int} (h : Row B w (.slice (some ⟨g, 0, none⟩) m c) (l ++ r)) : Row B w (.slice (some ⟨g, 0, none⟩) l.length c) l := by
  rcases h.form with ⟨e, _⟩ | ⟨g', c', cur, e, h1, h2, h3, h4, h5, h6⟩
  · cases e
  · cases e
    rw [List.length_append] at h3
    exact row_of h1 h2 (by omega) h4 h5 fun j x hj => h6 j x (by
      obtain ⟨hl, _⟩ := List.getElem?_eq_some_iff.1 hj
      rw [List.getElem?_append_left hl]; exact hj)
set_option maxRecDepth 100000 in
set_option maxHeartbeats 3200000 in
theorem under_any (h : KT w p mb T n) (id : Int) (hi1 : -9223372036854775808 ≤ id) (hi2 : id ≤ 9223372036854775807) :
    Calls Try.prog 19 #[.pointer (some ⟨p, 0, none⟩), .int .i64 id] w fun e w' => ∃ v, e = .returned v ∧ Row w.heap.size w' v (under T id) ∧ Below w.heap.size w w' := by
  have HT := Kit.hid h
  have HW : Hid (WF T) := Kit.hid h.2.1
  have HC := Kit.hid (kt_has h id hi1 hi2)
  have HN : Hid (∀ x, (under T x).length ≤ 100001) := Kit.hid (fun x => by have := under_len h.2.1 x; have := h.2.2.2; have := h.2.2.1; omega)
  have HBD : Hid (∀ x, has T x = true → -9223372036854775808 ≤ x ∧ x ≤ 9223372036854775807) := Kit.hid (fun x hx => by
    rcases has_iff.1 hx with rfl | ⟨q, hq⟩
    · omega
    · have := h.2.1.pos hq; omega)
  clear h hi1 hi2
  go_enter Try.func19, Try.ntmps19
  go_wp2_with fail
  refine scope_label 0 (UndJ T id w p) (fun a' _ => (under T id).length + 1 - lenV (a'.tmps.getD 5 undef)) rfl ?_ ?_
  · rintro a' wr hJ
    obtain ⟨vo, vl, out, st, u, rfl, HO, HL, HA, HE, HS, HB⟩ := hJ.open
    clear hJ
    have hst : st = [] ∨ ∃ st' x, st = st' ++ [x] := by
      rcases List.eq_nil_or_concat st with h | ⟨s, x, h⟩
      · exact .inl h
      · exact .inr ⟨s, x, by rw [h, List.concat_eq_append]⟩
    rcases hst with rfl | ⟨st', x, rfl⟩
    · obtain ⟨A, c, rfl, _, _, _⟩ := HL.out.reads
      have HU : Hid (under T id = out) := Kit.hid (by rw [HE.out]; simp)
      go_wp2
      simp only [Exit.jump]
      go_ret
      exact ⟨_, rfl, by rw [HU.out]; exact HO.out, HB.out⟩
    · have hhx : has T x = true := HS.out x (by simp)
      rcases HL.out.form with ⟨_, h0⟩ | ⟨g, c, cur, rfl, hg1, hg2, hg3, hg4, hg5, hg6⟩
      · simp at h0
      have hlen : (st' ++ [x]).length = st'.length + 1 := by simp
      rw [hlen] at hg3
      have hx0 : wr.cell? ⟨g, st'.length, none⟩ = some (.int .i64 x) := by
        rw [blk_cell hg2]
        exact hg6 _ _ (by simp)
      obtain ⟨k, hk⟩ : ∃ k, k = st'.length := ⟨_, rfl⟩
      have hkb : k ≤ 100001 := by
        have h1 := HN.out id
        rw [HE.out, List.length_append] at h1
        have h2 := st_len HW.out (st := (st' ++ [x]).reverse) (fun y hy => HS.out y (List.mem_reverse.1 hy))
        rw [List.length_reverse] at h2
        omega
      have hol : out.length ≤ 100001 := by
        have h1 := HN.out id
        rw [HE.out, List.length_append] at h1
        omega
      rw [← hk] at hx0 hg3
      have hxb := HBD.out x hhx
      have HL' : Hid (Row w.heap.size wr (.slice (some ⟨g, 0, none⟩) (k + 1) c) (st' ++ [x])) := Kit.hid (by rw [hk, ← hlen]; exact HL.out)
      have HXB := Kit.hid hxb
      have HKE := Kit.hid hk
      have HHX := Kit.hid hhx
      have HG2 := Kit.hid hg2
      rw [hlen, ← hk]
      have hownA : (wr.alloc (.cells #[.int .i64 x] 3)).ownsRow w.heap.size 3 1 vo out.length (iv out) := HO.out.below ((Below.refl _ _).alloc (Nat.le_refl _) _)
      have HBA := Kit.hid (HB.out.alloc HB.out.size (.cells #[.int .i64 x] 3))
      have hcA := lit_int wr x
      have e1 : ((k : Int) + 1 - 1) = (k : Int) := by omega
      have e2 : (0 : Int) ≤ (k : Int) := by omega
      have e3 : (k : Int) < (k : Int) + 1 := by omega
      have e4 : ¬ (k : Int) < 0 := by omega
      have HKI : Hid (∀ w', Below w.heap.size w w' → Calls Try.prog 26 #[.pointer (some ⟨p, 0, none⟩), .int .i64 x] w' fun e w'' => ∃ v, e = .returned v ∧ Row w'.heap.size w'' v (kids T x) ∧ Below w'.heap.size w' w'') := Kit.hid (fun w' hb => kt_kids (HT.out.below hb) x HXB.out.1 HXB.out.2)
      have HKL : Hid ((kids T x).length ≤ 100001) := Kit.hid (by
        have h1 := HN.out x
        rw [HW.out.under_eq HHX.out, List.length_cons] at h1
        have h2 := st_len HW.out (st := kids T x) (fun y hy => (HW.out.has_kid hy).2.1)
        omega)
      have HLU : Hid (out.length < (under T id).length) := Kit.hid (by
        rw [HE.out, List.length_append, List.reverse_append, List.flatMap_append, List.length_append]
        show out.length < out.length + (([x].reverse.flatMap (under T)).length + _)
        rw [show [x].reverse = [x] from rfl, List.flatMap_cons, List.length_append, HW.out.under_eq HHX.out, List.length_cons]
        omega)
      clear hk hlen hg1 hg4 hg5 hg6 hxb hhx hg2
      go_wp2_with (at_builtin; refine wpList_append_src rfl _ _ 39 rfl w.heap.size 3 (.int .i64 0) 8 Try.underlying39 infoI rfl vo _ _ rfl hownA (some ⟨wr.heap.size, 0, none⟩) 1 1 [.int .i64 x] rfl rfl hcA (fun u hu => by rw [List.mem_singleton.1 hu]; rfl) (by unfold maxLen; omega) (by omega) HBA.out.size ?_
                   intro v3 w3 hown3 hg3' hv3
                   have HR3 : Hid (Row w.heap.size w3 v3 (out ++ [x])) := Kit.hid (row_push (k := [x]) hown3)
                   have HB3 : Hid (Below w.heap.size w w3) := Kit.hid (row_below HBA.out hownA hg3' HBA.out.size)
                   have HLA : Hid (Row w.heap.size (wr.alloc (.cells #[.int .i64 x] 3)) (.slice (some ⟨g, 0, none⟩) (k + 1) c) (st' ++ [x])) := Kit.hid (HL'.out.below ((Below.refl _ _).alloc (Nat.le_refl _) _))
                   have HL3 : Hid (Row w.heap.size w3 (.slice (some ⟨g, 0, none⟩) (k + 1) c) (st' ++ [x])) := Kit.hid (row_kept HLA.out hg3' (fun g hg' => by rw [← HKE.out] at *; exact HA.out g hg'))
                   have HA3 : Hid (∀ g', v3.ownBlock = some g' → (Value.slice (some ⟨g, 0, none⟩) (k + 1) c).ownBlock ≠ some g') := Kit.hid (own_apart hownA hv3 HLA.out (fun g hg' => HA.out g hg'))
                   have HC3 := Kit.hid (HKI.out _ HB3.out)
                   clear hown3 hg3' hv3)
      (with_reducible refine HC3.out.mono ?_); rintro e w4 ⟨vk, rfl, hrk, hb4⟩
      have HB4 := Kit.hid (HB3.out.trans (hb4.mono HB3.out.size))
      have HR4 := Kit.hid (HR3.out.below hb4)
      have HL4 := Kit.hid (HL3.out.below hb4)
      have HRK := Kit.hid hrk
      have HV := Kit.hid (reverse_row hrk (by have := HKL.out; omega))
      obtain ⟨Ak, ck, hvk, _, _, _⟩ := hrk.reads
      subst hvk
      have h3s := HB3.out.size
      clear hrk hb4 HC3 hownA hcA
      go_wp2_with fail
      (with_reducible refine HV.out.mono ?_); rintro e w5 ⟨rfl, hr5, hg5⟩
      have hk5 : ∀ g', (Value.slice Ak (kids T x).length ck).ownBlock = some g' → w3.heap.size ≤ g' := fun g' hg' => (HRK.out.own_lt g' hg').1
      have HB5 : Hid (Below w.heap.size w w5) := Kit.hid (HB4.out.grown hg5 HB4.out.size (fun k hk => Nat.le_trans h3s (hk5 k hk)))
      have HR5 : Hid (Row w.heap.size w5 v3 (out ++ [x])) := Kit.hid (row_kept HR4.out hg5 (fun g' hg' e => by have := hk5 g' hg'; have := (HR3.out.own_lt g' e).2; omega))
      have HL5 : Hid (Row w.heap.size w5 (.slice (some ⟨g, 0, none⟩) (k + 1) c) (st' ++ [x])) := Kit.hid (row_kept HL4.out hg5 (fun g' hg' e => by have := hk5 g' hg'; have := (HL3.out.own_lt g' e).2; omega))
      have hownB : w5.ownsRow w.heap.size 3 1 (.slice (some ⟨g, 0, none⟩) k c) st'.length (iv st') := by
        have := row_take HL5.out
        rw [← HKE.out] at this
        unfold Row at this
        exact this
      obtain ⟨Ak', ck', hvk', hcB, _, _⟩ := hr5.reads
      rw [List.length_reverse] at hvk'
      injection hvk' with q1 q2 q3
      subst q1 q3
      have hlB : (iv (kids T x).reverse).length = (kids T x).length := by rw [iv_len, List.length_reverse]
      have e5 : (k : Int) ≤ (c : Int) := by omega
      have e6 : k ≤ c := by omega
      have hkl := HKL.out
      have hks : st'.length = k := HKE.out.symm
      clear hr5 hg5 hk5 h3s HV
      go_wp2_with (at_builtin; refine wpList_append_src rfl _ _ 39 rfl w.heap.size 3 (.int .i64 0) 8 Try.underlying39 infoI rfl (.slice (some ⟨g, 0, none⟩) k c) _ _ rfl hownB Ak (kids T x).length ck (iv (kids T x).reverse) rfl hlB hcB (iv_one _) (by unfold maxLen; omega) (by omega) HB5.out.size ?_
                   intro v6 w6 hown6 hg6 hv6
                   have HL6 : Hid (Row w.heap.size w6 v6 (st' ++ (kids T x).reverse)) := Kit.hid (row_push (by rw [List.length_reverse]; exact hown6))
                   have HB6 : Hid (Below w.heap.size w w6) := Kit.hid (row_below (l := st') HB5.out (row_take HL5.out) hg6 HB5.out.size)
                   have HR6 : Hid (Row w.heap.size w6 v3 (out ++ [x])) := Kit.hid (row_kept HR5.out hg6 (fun g' hg' e => HA3.out g' e hg'))
                   have HA6 : Hid (∀ g', v3.ownBlock = some g' → v6.ownBlock ≠ some g') := Kit.hid (fun g' hg' h6 => by
                     rcases hv6 with e | e
                     · exact HA3.out g' hg' (e.symm.trans h6)
                     · rw [e] at h6; cases h6; have := (HR5.out.own_lt _ hg').2; omega)
                   clear hown6 hg6 hv6)
      go_step3
      have HE6 : Hid (under T id = (out ++ [x]) ++ (st' ++ (kids T x).reverse).reverse.flatMap (under T)) := Kit.hid (by
        rw [HE.out, List.reverse_append, List.reverse_append, List.reverse_reverse, List.flatMap_append, List.flatMap_append, show [x].reverse = [x] from rfl, List.flatMap_cons, List.flatMap_nil, HW.out.under_eq HHX.out]
        simp)
      have HS6 : Hid (∀ y ∈ st' ++ (kids T x).reverse, has T y = true) := Kit.hid (fun y hy => by
        rcases List.mem_append.1 hy with hy | hy
        · exact HS.out y (List.mem_append_left _ hy)
        · exact (HW.out.has_kid (List.mem_reverse.1 hy)).2.1)
      refine ⟨rfl, ⟨v3, v6, out ++ [x], st' ++ (kids T x).reverse, rfl, rfl, rfl, rfl, rfl, HR6, HL6, HA6, HE6, HS6, HB6⟩, ?_⟩
      show (under T id).length + 1 - lenV v3 < (under T id).length + 1 - lenV vo
      rw [HR6.out.len, HO.out.len, List.length_append, List.length_singleton]
      have := HLU.out
      omega
  · intro HF
    cases hh : has T id with
    | false =>
      rw [hh] at HC
      go_wp2_with fail
      (with_reducible refine HC.out.mono ?_); rintro e w2 ⟨rfl, hb2⟩
      have HB2 := Kit.hid hb2
      have HU : Hid (under T id = []) := Kit.hid (under_none hh)
      clear hb2 HC
      go_wp2_with fail
      go_step3
      rename_i K hK
      refine hK _ _ ?_
      exact HF.out _ _ ⟨_, _, [], [], rfl, rfl, rfl, rfl, rfl, Kit.hid (row_nil _ _), Kit.hid (row_nil _ _), Kit.hid (fun g h => by cases h), Kit.hid (by rw [HU.out]; rfl), Kit.hid (fun x h => by cases h), HB2⟩
    | true =>
      rw [hh] at HC
      go_wp2_with fail
      (with_reducible refine HC.out.mono ?_); rintro e w2 ⟨rfl, hb2⟩
      have hownA : (w2.alloc (.cells #[.int .i64 id] 3)).ownsRow w.heap.size 3 1 (.slice none 0 0) 0 (iv []) := row_nil _ _
      have HBA := Kit.hid (hb2.alloc hb2.size (.cells #[.int .i64 id] 3))
      have hcA := lit_int w2 id
      clear hb2 HC
      go_wp2_with (at_builtin; refine wpList_append_src rfl _ _ 39 rfl w.heap.size 3 (.int .i64 0) 8 Try.underlying39 infoI rfl (.slice none 0 0) _ _ rfl hownA (some ⟨w2.heap.size, 0, none⟩) 1 1 [.int .i64 id] rfl rfl hcA (fun u hu => by rw [List.mem_singleton.1 hu]; rfl) (by unfold maxLen; omega) (by omega) HBA.out.size ?_
                   intro v3 w3 hown3 hg3 _
                   have HR3 : Hid (Row w.heap.size w3 v3 [id]) := Kit.hid hown3
                   have HB3 : Hid (Below w.heap.size w w3) := Kit.hid (row_below (l := []) HBA.out (row_nil _ _) hg3 HBA.out.size)
                   clear hown3 hg3)
      go_step3
      rename_i K hK
      refine hK _ _ ?_
      exact HF.out _ _ ⟨_, _, [], [id], rfl, rfl, rfl, rfl, rfl, Kit.hid (row_nil _ _), HR3, Kit.hid (fun g h => by cases h), Kit.hid (by simp), Kit.hid (fun x h => by rw [List.mem_singleton.1 h]; exact hh), HB3⟩
end
end Go.Proofs.Ytkhoiiinifdhcaa.Ki
