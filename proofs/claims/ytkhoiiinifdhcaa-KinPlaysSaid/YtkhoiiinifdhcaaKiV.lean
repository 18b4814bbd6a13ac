/- The document's own tree of groups: the walks of its without, Add, Drop and Move. -/
import Derived.Test.YtkhoiiinifdhcaaKiT
namespace Go.Proofs.Ytkhoiiinifdhcaa.KiM
theorem ins_perm (x : Int × Int) : ∀ T : Tr, (ins x T).Perm (T ++ [x])
  | [] => List.Perm.refl _
  | y :: T => by
    unfold ins
    split
    · exact (List.perm_append_comm (l₁ := [x]) (l₂ := y :: T))
    · exact (ins_perm x T).cons y
theorem del_take (id : Int) (l : Tr) (i : Nat) (y : Int × Int) (hy : l[i]? = some y) : del (l.take (i + 1)) id = del (l.take i) id ++ (if y.1 = id then [] else [y]) := by
  unfold del
  rw [List.take_add_one, hy, List.filter_append]
  congr 1
  by_cases h : y.1 = id <;> simp [h]
end Go.Proofs.Ytkhoiiinifdhcaa.KiM
namespace Go.Proofs.Ytkhoiiinifdhcaa.Ki
open Go.RowKit Go.Proofs.Ytkhoiiinifdhcaa.Kit Go.Proofs.Ytkhoiiinifdhcaa.KiM
set_option linter.unusedVariables false
set_option linter.unusedSimpArgs false
theorem infoP : (Try.prog.info? 57).map (fun i => (i.zero, i.size, i.bytes)) = some (some (.agg #[.int .i64 0, .int .i64 0]), 2, 16) := by kernel_rfl
theorem litP (w : World) (x : Int × Int) : Cells (w.alloc (.cells #[.int .i64 x.1, .int .i64 x.2] 57)) (some ⟨w.heap.size, 0, none⟩) [.int .i64 x.1, .int .i64 x.2] := by
  have h := World.ownsRow_lit (base := 0) (e := 57) (size := 2) w #[.int .i64 x.1, .int .i64 x.2] 1 (Nat.zero_le _) (by decide) rfl
  obtain ⟨A, cap, hv, hc, _⟩ := own_readsS (by decide) h
  cases hv
  exact hc
/-- A row of pairs, owned from block B on. -/
def PR (B : Nat) (w : World) (v : Value) (l : Tr) : Prop := w.ownsRow B 57 2 v l.length (flatP l)
theorem PR.below {B : Nat} {w w' : World} {v : Value} {l : Tr} (h : PR B w v l) (hb : Below w.heap.size w w') : PR B w' v l := own_belowS h hb
theorem PR.nil (B : Nat) (w : World) : PR B w (.slice none 0 0) [] := ⟨rfl, .inl ⟨rfl, rfl⟩⟩
theorem PR.mono {B B' : Nat} {w : World} {v : Value} {l : Tr} (h : PR B w v l) (hb : B' ≤ B) : PR B' w v l :=
  ⟨h.1, h.2.imp id fun ⟨g, cap, cur, h1, h2, h3⟩ => ⟨g, cap, cur, h1, Nat.le_trans hb h2, h3⟩⟩
section
variable {w w' : World} {q : Nat} {l T : Tr}
set_option maxRecDepth 8000 in
set_option maxHeartbeats 1600000 in
theorem rwithout_any (h : RT w q l T) (id : Int) :
    Calls Try.prog 37 #[.pointer (some ⟨q, 0, none⟩), .int .i64 id] w fun e w' => ∃ v, e = .returned v ∧ PR w.heap.size w' v (del l id) ∧ Below w.heap.size w w' := by
  have HT := Kit.hid h
  have hll := h.2.2.2
  have HB0 : Hid (Below w.heap.size w w) := Kit.hid (Below.refl _ _)
  have HR0 : Hid (PR w.heap.size w (.slice none 0 0) (del [] id)) := Kit.hid (PR.nil _ _)
  clear h
  go_enter Try.func37, Try.ntmps37
  go_wp2_with fail
  go_loopw [5, 6] (fun v5 v6 wr => ∃ (i : Nat) (vo : Value), i ≤ l.length ∧ v6 = .int .i64 i ∧ vo = v5 ∧ Hid (PR w.heap.size wr vo (del (l.take i) id)) ∧ Hid (Below w.heap.size w wr)) (fun _ v6 _ => l.length - (intOf v6).toNat)
  case atStart => exact ⟨0, _, by omega, rfl, rfl, HR0, HB0⟩
  case round =>
    obtain ⟨i, vo, hi, rfl, rfl, HO, HB⟩ := hrel
    obtain ⟨A, c, hq, hr⟩ := (HT.out.below HB.out).look
    have q0 := blk_cell hq 0
    have ql := blk_lt hq
    clear hq
    by_cases hlt : i < l.length
    · obtain ⟨x, hx⟩ : ∃ x, l[i]? = some x := ⟨_, List.getElem?_eq_getElem hlt⟩
      obtain ⟨ad, rfl, c0, c1⟩ := p_at hr hx
      have HS := Kit.hid (del_take id l i x hx)
      have hlen : (del (l.take i) id).length ≤ 200 := Nat.le_trans (del_len _ _) (by rw [List.length_take]; omega)
      obtain ⟨D, hD⟩ : ∃ D, D = del (l.take i) id := ⟨_, rfl⟩
      rw [← hD] at HS hlen HO
      clear hx hD
      by_cases hxy : x.1 = id
      · have g1 : (x.1 != id) = false := by simp [hxy]
        have HS2 : Hid (del (l.take (i + 1)) id = D) := Kit.hid (by rw [HS.out, if_pos hxy, List.append_nil])
        clear hxy HS
        go_wp2
        go_roundw
        case rel => exact ⟨i + 1, vo, by omega, by go_num, rfl, Kit.hid (by rw [HS2.out]; exact HO.out), HB⟩
        case measure => simp [intOf]; omega
      · have g1 : (x.1 != id) = true := by simp [hxy]
        have HS2 : Hid (del (l.take (i + 1)) id = D ++ [x]) := Kit.hid (by rw [HS.out, if_neg hxy])
        have hown : (wr.alloc (.cells #[.int .i64 x.1, .int .i64 x.2] 57)).ownsRow w.heap.size 57 2 vo D.length (flatP D) := HO.out.below ((Below.refl _ _).alloc (Nat.le_refl _) _)
        have HBA := Kit.hid (HB.out.alloc HB.out.size (.cells #[.int .i64 x.1, .int .i64 x.2] 57))
        have hcA := litP wr x
        clear hxy HS
        go_wp2_with (at_builtin; refine wpList_append_srcS rfl _ _ 31 rfl w.heap.size 57 (.agg #[.int .i64 0, .int .i64 0]) 2 16 (by decide) Try.underlying31 infoP rfl vo _ _ rfl hown (some ⟨wr.heap.size, 0, none⟩) 1 1 [.int .i64 x.1, .int .i64 x.2] rfl rfl hcA (by simp [Value.oneCell']) (by unfold maxLen; omega) (by omega) HBA.out.size ?_
                     intro v3 w3 hown3 hg3 _
                     have HR3 : Hid (PR w.heap.size w3 v3 (D ++ [x])) := Kit.hid (by unfold PR; rw [List.length_append, flatP_app]; exact hown3)
                     have HB3 : Hid (Below w.heap.size w w3) := Kit.hid (below_ownS HBA.out hown hg3 HBA.out.size)
                     clear hown3 hg3)
        go_roundw
        case rel => exact ⟨i + 1, v3, by omega, by go_num, rfl, Kit.hid (by rw [HS2.out]; exact HR3.out), HB3⟩
        case measure => simp [intOf]; omega
    · obtain rfl : i = l.length := by omega
      rw [List.take_length] at HO
      go_wp2
      go_ret
      exact ⟨_, rfl, HO.out, HB.out⟩
theorem RT.put {w1 : World} {v : Value} {l' T' : Tr} (h : RT w q l T) (hb : Below w.heap.size w w1) (hr : PR w.heap.size w1 v l') (hp : l'.Perm T') (hw : WF T') (hl : l'.length ≤ 200) :
    RT (w1.setCell ⟨q, 0, none⟩ v) q l' T' ∧ Kp q w (w1.setCell ⟨q, 0, none⟩ v) := by
  obtain ⟨A, c, hq, _⟩ := h.look
  have hq1 := blk_below hq hb
  have hlt := blk_lt hq
  have hgb : w1.grownBy (w1.setCell ⟨q, 0, none⟩ v) (some q) := ⟨rfl, rfl, rfl, by simp [World.setCell], fun k hk hn => Below.heap_setCell w1 ⟨q, 0, none⟩ _ k (fun e => hn (by rw [e]))⟩
  have hne : v.ownBlock ≠ some q := fun e => by
    have := (World.ownsRow.lt hr q e).1
    omega
  exact ⟨⟨⟨v, blk_put hq1 0 v rfl, own_keptS (hr.mono (Nat.zero_le _)) hgb (.inr hne)⟩, hp, hw, hl⟩, (Kp.of_below hb).trans (Kp.grown hgb)⟩
/-- What the document's tree is behind a change. -/
def RPost (q : Nat) (l : Tr) (r : Int × Tr) (w : World) (e : Ending) (w' : World) : Prop := e = .returned (.int .i64 r.1) ∧ ∃ l', RT w' q l' r.2 ∧ l'.length ≤ l.length + 1 ∧ Kp q w w'
theorem rpost_same {r : Int × Tr} {e : Ending} {c : Int} (h : RT w q l T) (hb : Below w.heap.size w w') (hr : r = (c, T)) (he : e = .returned (.int .i64 c)) : RPost q l r w e w' := by
  subst hr
  exact ⟨he, l, h.below hb, Nat.le_succ _, Kp.of_below hb⟩
set_option maxRecDepth 8000 in
set_option maxHeartbeats 3200000 in
theorem radd_any (h : RT w q l T) (hl : l.length < 200) (id par : Int) :
    Calls Try.prog 15 #[.pointer (some ⟨q, 0, none⟩), .int .i64 id, .int .i64 par] w (RPost q l (addR T id par) w) := by
  have HT := Kit.hid h
  have HB0 : Hid (Below w.heap.size w w) := Kit.hid (Below.refl _ _)
  have HC1 := Kit.hid (rhas_any h id)
  have HC2 := Kit.hid (rhas_any h par)
  have HC3 := Kit.hid (rpath_any h par)
  obtain ⟨A0, c0', hq0, _⟩ := h.look
  have q0 := blk_cell hq0 0
  have ql := blk_lt hq0
  clear h hq0
  go_enter Try.func15, Try.ntmps15
  by_cases a1 : id < 1
  · have HR : Hid (addR T id par = (1, T)) := Kit.hid (by unfold addR; rw [if_pos (.inl a1)])
    have g1 : decide (id < 1) = true := decide_eq_true a1
    clear a1
    go_wp2
    go_ret
    exact rpost_same HT.out HB0.out HR.out rfl
  have g1 : decide (id < 1) = false := decide_eq_false a1
  by_cases a2 : 1048576 < id
  · have HR : Hid (addR T id par = (1, T)) := Kit.hid (by unfold addR; rw [if_pos (.inr a2)])
    have g2 : decide (1048576 < id) = true := decide_eq_true a2
    clear a1 a2
    go_wp2
    go_ret
    exact rpost_same HT.out HB0.out HR.out rfl
  have g2 : decide (1048576 < id) = false := decide_eq_false a2
  have N12 : Hid (¬ (id < 1 ∨ 1048576 < id)) := Kit.hid (fun h => h.elim a1 a2)
  clear a1 a2
  cases h3 : has T id with
  | true =>
    have HR : Hid (addR T id par = (9, T)) := Kit.hid (by unfold addR; rw [if_neg N12.out, if_pos h3])
    rw [h3] at HC1
    clear h3
    go_wp2_with fail
    (with_reducible refine HC1.out.mono ?_); rintro e w2 ⟨rfl, rfl⟩
    go_wp2
    go_ret
    exact rpost_same HT.out HB0.out HR.out rfl
  | false =>
    have N3 : Hid (¬ has T id = true) := Kit.hid (by rw [h3]; simp)
    rw [h3] at HC1
    clear h3
    go_wp2_with fail
    (with_reducible refine HC1.out.mono ?_); rintro e w2 ⟨rfl, rfl⟩
    clear HC1
    cases h4 : has T par with
    | false =>
      have HR : Hid (addR T id par = (8, T)) := Kit.hid (by unfold addR; rw [if_neg N12.out, if_neg N3.out, if_pos (by rw [h4]; simp)])
      rw [h4] at HC2
      clear h4
      go_wp2_with fail
      (with_reducible refine HC2.out.mono ?_); rintro e w3 ⟨rfl, rfl⟩
      go_wp2
      go_ret
      exact rpost_same HT.out HB0.out HR.out rfl
    | true =>
      have N4 : Hid (¬ ¬ has T par = true) := Kit.hid (by rw [h4]; simp)
      rw [h4] at HC2
      clear h4
      go_wp2_with fail
      (with_reducible refine HC2.out.mono ?_); rintro e w3 ⟨rfl, rfl⟩
      clear HC2
      have g4 : decide ((4096 : Int) ≤ (l.length : Int)) = false := decide_eq_false (by omega)
      go_wp2_with fail
      (with_reducible refine HC3.out.mono ?_); rintro e w4 ⟨vp, rfl, hrp, hb4⟩
      obtain ⟨Ap, cp, rfl, _, _, _⟩ := hrp.reads
      have HB4 := Kit.hid hb4
      obtain ⟨k, hk⟩ : ∃ k, k = (path T par).length := ⟨_, rfl⟩
      have hkl := path_len HT.out.2.2.1 par
      have HKE := Kit.hid hk
      rw [← hk] at hkl ⊢
      clear hrp hb4 HC3 hk
      by_cases a5 : (16 : Int) < (k : Int) + 1
      · have HR : Hid (addR T id par = (10, T)) := Kit.hid (by unfold addR; rw [if_neg N12.out, if_neg N3.out, if_neg N4.out, if_pos (by rw [← HKE.out]; omega)])
        go_wp2
        go_ret
        exact rpost_same HT.out HB4.out HR.out rfl
      · have HR : Hid (addR T id par = (0, ins (id, par) T)) := Kit.hid (by unfold addR; rw [if_neg N12.out, if_neg N3.out, if_neg N4.out, if_neg (by rw [← HKE.out]; omega)])
        have g5 : ¬ (16 : Int) < (k : Int) + 1 := a5
        obtain ⟨A, c, hq, hr⟩ := (HT.out.below HB4.out).look
        have q4 := blk_cell hq 0
        have q4l := blk_lt hq
        have q4f := blk_frozen hq 0
        have HQ4 := Kit.hid hq
        obtain ⟨⟨v0, hv0, hown⟩, _⟩ := HT.out.below HB4.out
        have hv : v0 = .slice A l.length c := by
          rw [hq] at hv0
          simpa using hv0.symm
        subst hv
        obtain ⟨A', c', e', hcl, _⟩ := own_readsS (by decide) hown
        cases e'
        have HCL : Hid (∀ {wd : World}, Below w4.heap.size w4 wd → Cells wd A (flatP l)) := Kit.hid (fun hd => cells_over hcl hd)
        have hown0 : (w4.alloc (.cells #[] 57)).ownsRow w4.heap.size 57 2 (.slice (some ⟨w4.heap.size, 0, none⟩) 0 0) 0 [] := World.ownsRow_lit w4 #[] 0 (Nat.le_refl _) (by decide) rfl
        have hd0 : Below w4.heap.size w4 (w4.alloc (.cells #[] 57)) := (Below.refl _ _).alloc (Nat.le_refl _) _
        have HOWN := Kit.hid hown0
        have HD0 := Kit.hid hd0
        have q5 : (w4.alloc (.cells #[] 57)).cell? ⟨q, 0, none⟩ = some (.slice A l.length c) := (HD0.out.cell q4l).trans q4
        clear hq hv0 hown hcl hown0 hd0 a5 q0
        go_wp2_with (first
          | (at_builtin; refine wpList_append_srcS rfl _ _ 31 rfl w4.heap.size 57 (.agg #[.int .i64 0, .int .i64 0]) 2 16 (by decide) Try.underlying31 infoP rfl _ 0 _ rfl HOWN.out A l.length c (flatP l) rfl (flatP_len l) (HCL.out HD0.out) (flatP_one _) (by unfold maxLen; omega) (by omega) (by simp) ?_
             intro v5 w5 hown5 hg5 _
             have HB5 := Kit.hid (below_ownS (B := w4.heap.size) (w0 := w4) HD0.out HOWN.out hg5 (by simp))
             have HP5 : Hid (PR w4.heap.size w5 v5 l) := Kit.hid (by unfold PR; rw [Nat.zero_add] at hown5; exact hown5)
             have HBA := Kit.hid (HB5.out.alloc HB5.out.size (.cells #[.int .i64 id, .int .i64 par] 57))
             have hown6 : (w5.alloc (.cells #[.int .i64 id, .int .i64 par] 57)).ownsRow w4.heap.size 57 2 v5 l.length (flatP l) := HP5.out.below ((Below.refl _ _).alloc (Nat.le_refl _) _)
             have hcA := litP w5 (id, par)
             clear hown5 hg5)
          | (at_builtin; refine wpList_append_srcS rfl _ _ 31 rfl w4.heap.size 57 (.agg #[.int .i64 0, .int .i64 0]) 2 16 (by decide) Try.underlying31 infoP rfl v5 _ _ rfl hown6 (some ⟨w5.heap.size, 0, none⟩) 1 1 [.int .i64 id, .int .i64 par] rfl rfl hcA (by simp [Value.oneCell']) (by unfold maxLen; omega) (by omega) HBA.out.size ?_
             intro v7 w7 hown7 hg7 _
             obtain ⟨A7, c7, hv7, _, _, _⟩ := own_readsS (by decide) hown7
             subst hv7
             have HP7 : Hid (PR w4.heap.size w7 (.slice A7 (l.length + 1) c7) (l ++ [(id, par)])) := Kit.hid (by unfold PR; rw [List.length_append, flatP_app]; exact hown7)
             have HB7 : Hid (Below w4.heap.size w4 w7) := Kit.hid (below_ownS HBA.out hown6 hg7 HBA.out.size)
             have q7 : w7.cell? ⟨q, 0, none⟩ = some (.slice A l.length c) := (HB7.out.cell q4l).trans q4
             have HQ7 := blk_below HQ4.out HB7.out
             have q7f := blk_frozen HQ7 0
             have q7l := blk_lt HQ7
             clear hown7 hg7))
        go_ret
        have hfin := (HT.out.below HB4.out).put HB7.out HP7.out (T' := ins (id, par) T) ((List.Perm.append_right _ HT.out.2.1).trans (ins_perm _ _).symm) (by have := HT.out.2.2.1.addR id par; rw [HR.out] at this; exact this) (by simp; omega)
        exact ⟨by rw [HR.out]; rfl, _, by rw [HR.out]; exact hfin.1, by simp, (Kp.of_below HB4.out).trans hfin.2⟩
set_option maxRecDepth 8000 in
set_option maxHeartbeats 3200000 in
theorem rdrop_any (h : RT w q l T) (id : Int) :
    Calls Try.prog 16 #[.pointer (some ⟨q, 0, none⟩), .int .i64 id] w (RPost q l (dropR T id) w) := by
  have HT := Kit.hid h
  have HB0 : Hid (Below w.heap.size w w) := Kit.hid (Below.refl _ _)
  have HC1 := Kit.hid (rhas_any h id)
  have HC2 := Kit.hid (rkids_any h id)
  have HKL : Hid ((kids T id).length ≤ 200) := Kit.hid (by have := kids_len (T := T) id; have := h.2.1.length_eq; have := h.2.2.2; omega)
  have HLL := Kit.hid h.2.2.2
  clear h
  go_enter Try.func16, Try.ntmps16
  by_cases a1 : id = 0
  · have HR : Hid (dropR T id = (8, T)) := Kit.hid (by unfold dropR; rw [if_pos (.inl a1)])
    have g1 : (id == 0) = true := beq_iff_eq.2 a1
    clear a1
    go_wp2
    go_ret
    exact rpost_same HT.out HB0.out HR.out rfl
  have g1 : (id == 0) = false := beq_eq_false_iff_ne.2 a1
  have A1 := Kit.hid a1
  clear a1
  cases h3 : has T id with
  | false =>
    have HR : Hid (dropR T id = (8, T)) := Kit.hid (by unfold dropR; rw [if_pos (.inr (by rw [h3]; simp))])
    rw [h3] at HC1
    clear h3
    go_wp2_with fail
    (with_reducible refine HC1.out.mono ?_); rintro e w2 ⟨rfl, rfl⟩
    go_wp2
    go_ret
    exact rpost_same HT.out HB0.out HR.out rfl
  | true =>
    have A3 := Kit.hid h3
    rw [h3] at HC1
    clear h3
    go_wp2_with fail
    (with_reducible refine HC1.out.mono ?_); rintro e w2 ⟨rfl, rfl⟩
    clear HC1
    obtain ⟨k, hk⟩ : ∃ k, k = (kids T id).length := ⟨_, rfl⟩
    have HKE := Kit.hid hk
    rw [← hk] at HKL
    have hk2 := HKL.out
    clear hk
    go_wp2_with fail
    (with_reducible refine HC2.out.mono ?_); rintro e w4 ⟨vp, rfl, hrp, hb4⟩
    obtain ⟨Ap, cp, rfl, _, _, _⟩ := hrp.reads
    have HB4 := Kit.hid hb4
    rw [← HKE.out]
    clear hrp hb4 HC2
    by_cases a5 : 0 < k
    · have HR : Hid (dropR T id = (12, T)) := Kit.hid (by unfold dropR; rw [if_neg (fun h => h.elim A1.out (fun h => h A3.out)), if_pos (by rw [← HKE.out]; exact a5)])
      have g5 : (0 : Int) < (k : Int) := by omega
      clear a5
      go_wp2
      go_ret
      exact rpost_same HT.out HB4.out HR.out rfl
    · have HR : Hid (dropR T id = (0, del T id)) := Kit.hid (by unfold dropR; rw [if_neg (fun h => h.elim A1.out (fun h => h A3.out)), if_neg (by rw [← HKE.out]; exact a5)])
      obtain rfl : k = 0 := by omega
      have HW := Kit.hid (rwithout_any (HT.out.below HB4.out) id)
      clear a5
      go_wp2_with fail
      (with_reducible refine HW.out.mono ?_); rintro e w7 ⟨v7, rfl, hp7, hb7⟩
      obtain ⟨A7, c7, rfl, _, _, _⟩ := own_readsS (by decide) hp7
      have HP7 := Kit.hid hp7
      have HB7 := Kit.hid hb7
      obtain ⟨A, c, hq7, _⟩ := ((HT.out.below HB4.out).below HB7.out).look
      have q7 := blk_cell hq7 0
      have q7f := blk_frozen hq7 0
      have q7l := blk_lt hq7
      clear hp7 hb7 hq7 HW
      go_wp2
      go_ret
      have hfin := (HT.out.below HB4.out).put HB7.out HP7.out (T' := del T id) (List.Perm.filter _ HT.out.2.1) (by have := HT.out.2.2.1.dropR id; rw [HR.out] at this; exact this) (Nat.le_trans (del_len _ _) HLL.out)
      exact ⟨by rw [HR.out]; rfl, _, by rw [HR.out]; exact hfin.1, Nat.le_trans (del_len _ _) (Nat.le_succ _), (Kp.of_below HB4.out).trans hfin.2⟩
set_option maxRecDepth 8000 in
set_option maxHeartbeats 3200000 in
theorem rmove_any (h : RT w q l T) (hl : l.length < 200) (id par : Int) :
    Calls Try.prog 17 #[.pointer (some ⟨q, 0, none⟩), .int .i64 id, .int .i64 par] w (RPost q l (moveR T id par) w) := by
  have HT := Kit.hid h
  have HB0 : Hid (Below w.heap.size w w) := Kit.hid (Below.refl _ _)
  have HC1 := Kit.hid (rhas_any h id)
  have HC2 := Kit.hid (rhas_any h par)
  have HC3 := Kit.hid (rpath_any h par)
  clear h
  go_enter Try.func17, Try.ntmps17
  by_cases a1 : id = 0
  · have HR : Hid (moveR T id par = (8, T)) := Kit.hid (by unfold moveR; rw [if_pos (.inl a1)])
    have g1 : (id == 0) = true := beq_iff_eq.2 a1
    clear a1
    go_wp2
    go_ret
    exact rpost_same HT.out HB0.out HR.out rfl
  have g1 : (id == 0) = false := beq_eq_false_iff_ne.2 a1
  have A1 := Kit.hid a1
  clear a1
  cases h3 : has T id with
  | false =>
    have HR : Hid (moveR T id par = (8, T)) := Kit.hid (by unfold moveR; rw [if_pos (.inr (.inl (by rw [h3]; simp)))])
    rw [h3] at HC1
    clear h3
    go_wp2_with fail
    (with_reducible refine HC1.out.mono ?_); rintro e w2 ⟨rfl, rfl⟩
    go_wp2
    go_ret
    exact rpost_same HT.out HB0.out HR.out rfl
  | true =>
    have A3 := Kit.hid h3
    rw [h3] at HC1
    clear h3
    go_wp2_with fail
    (with_reducible refine HC1.out.mono ?_); rintro e w2 ⟨rfl, rfl⟩
    clear HC1
    cases h4 : has T par with
    | false =>
      have HR : Hid (moveR T id par = (8, T)) := Kit.hid (by unfold moveR; rw [if_pos (.inr (.inr (by rw [h4]; simp)))])
      rw [h4] at HC2
      clear h4
      go_wp2_with fail
      (with_reducible refine HC2.out.mono ?_); rintro e w3 ⟨rfl, rfl⟩
      go_wp2
      go_ret
      exact rpost_same HT.out HB0.out HR.out rfl
    | true =>
      have A4 := Kit.hid h4
      have N123 : Hid (¬ (id = 0 ∨ ¬ has T id = true ∨ ¬ has T par = true)) := Kit.hid (fun h => h.elim A1.out (fun h => h.elim (fun h => h A3.out) (fun h => h A4.out)))
      have HMU : Hid ((under T id).contains par = true ↔ id ∈ path T par) := Kit.hid (by
        rw [List.contains_iff_mem, HT.out.2.2.1.mem_under A3.out]
        simp [A1.out, A4.out])
      rw [h4] at HC2
      clear h4
      go_wp2_with fail
      (with_reducible refine HC2.out.mono ?_); rintro e w3 ⟨rfl, rfl⟩
      clear HC2
      go_wp2_with fail
      (with_reducible refine HC3.out.mono ?_); rintro e w4 ⟨vp, rfl, hrp, hb4⟩
      have HRP4 := Kit.hid (hrp.mono (Nat.zero_le _))
      obtain ⟨Ap, cp, rfl, _, _, _⟩ := hrp.reads
      have HB4 := Kit.hid hb4
      obtain ⟨P, hP⟩ : ∃ P, P = path T par := ⟨_, rfl⟩
      have hpl := path_len HT.out.2.2.1 par
      have HPE := Kit.hid hP
      rw [← hP] at hpl HRP4 HMU ⊢
      clear hrp hb4 HC3 hP
      go_wp2_with fail
      go_loopw [8] (fun v8 wr => ∃ i : Nat, i ≤ P.length ∧ v8 = .int .i64 i ∧ wr = w4 ∧ Hid (id ∉ P.take i)) (fun v8 _ => P.length - (intOf v8).toNat)
      case atStart => exact ⟨0, by omega, rfl, rfl, Kit.hid (by simp)⟩
      case round =>
        obtain ⟨i, hi, rfl, rfl, HE⟩ := hrel
        by_cases hlt : i < P.length
        · obtain ⟨y, hy⟩ : ∃ y, P[i]? = some y := ⟨_, List.getElem?_eq_getElem hlt⟩
          obtain ⟨ad, rfl, c0⟩ := row_at HRP4.out hy
          have HY := Kit.hid hy
          clear hy
          by_cases hxy : y = id
          · have g2 : (y == id) = true := by simp [hxy]
            have HR : Hid (moveR T id par = (11, T)) := Kit.hid (by unfold moveR; rw [if_neg N123.out, if_pos (HMU.out.2 (by rw [← hxy]; exact List.mem_of_getElem? HY.out))])
            clear hxy
            go_wp2
            go_ret
            exact rpost_same HT.out HB4.out HR.out rfl
          · have g2 : (y == id) = false := by simp [hxy]
            have HE2 : Hid (id ∉ P.take (i + 1)) := Kit.hid (by
              rw [List.take_add_one, HY.out]
              simp only [Option.toList_some, List.mem_append, List.mem_singleton, not_or]
              exact ⟨HE.out, fun e => hxy e.symm⟩)
            clear hxy
            go_wp2
            go_roundw
            case rel => exact ⟨i + 1, by omega, by go_num, trivial, HE2⟩
            case measure => simp [intOf]; omega
        · obtain rfl : i = P.length := by omega
          have N5 : Hid (¬ (under T id).contains par = true) := Kit.hid (fun h => by
            have := HE.out
            rw [List.take_length] at this
            exact this (HMU.out.1 h))
          have HTA := Kit.hid (rtall_any (HT.out.below HB4.out) id)
          have htl := tall_16 HT.out.2.2.1 id
          obtain ⟨t, ht⟩ : ∃ t, t = tall T id := ⟨_, rfl⟩
          obtain ⟨k, hk⟩ : ∃ k, k = P.length := ⟨_, rfl⟩
          have HTE := Kit.hid ht
          have HKE : Hid (k = (path T par).length) := Kit.hid (by rw [hk, HPE.out])
          rw [← ht] at HTA htl
          rw [← hk] at hpl ⊢
          clear ht hk hlt hi HE
          go_wp2_with fail
          (with_reducible refine HTA.out.mono ?_); rintro e w5 ⟨rfl, hb5⟩
          have HB5 := Kit.hid (HB4.out.trans (hb5.mono HB4.out.size))
          clear hb5 HTA
          by_cases a6 : (16 : Int) < (k : Int) + 1 + t
          · have HR : Hid (moveR T id par = (10, T)) := Kit.hid (by unfold moveR; rw [if_neg N123.out, if_neg N5.out, if_pos (by rw [← HKE.out, ← HTE.out]; exact a6)])
            go_wp2
            go_ret
            exact rpost_same HT.out HB5.out HR.out rfl
          · have HR : Hid (moveR T id par = (0, ins (id, par) (del T id))) := Kit.hid (by unfold moveR; rw [if_neg N123.out, if_neg N5.out, if_neg (by rw [← HKE.out, ← HTE.out]; exact a6)])
            have g6 : decide ((16 : Int) < (k : Int) + 1 + t) = false := decide_eq_false a6
            have HW := Kit.hid (rwithout_any (HT.out.below HB5.out) id)
            have hdl := del_len l id
            obtain ⟨D, hD⟩ : ∃ D, D = del l id := ⟨_, rfl⟩
            have HDE := Kit.hid hD
            rw [← hD] at HW hdl
            clear a6 hD
            go_wp2_with fail
            (with_reducible refine HW.out.mono ?_); rintro e w6 ⟨v6, rfl, hp6, hb6⟩
            have HP6 := Kit.hid hp6
            have HB6 := Kit.hid hb6
            have HBA := Kit.hid (HB6.out.alloc HB6.out.size (.cells #[.int .i64 id, .int .i64 par] 57))
            have hown6 : (w6.alloc (.cells #[.int .i64 id, .int .i64 par] 57)).ownsRow w5.heap.size 57 2 v6 D.length (flatP D) := HP6.out.below ((Below.refl _ _).alloc (Nat.le_refl _) _)
            have hcA := litP w6 (id, par)
            clear hp6 hb6 HW
            go_wp2_with (at_builtin; refine wpList_append_srcS rfl _ _ 31 rfl w5.heap.size 57 (.agg #[.int .i64 0, .int .i64 0]) 2 16 (by decide) Try.underlying31 infoP rfl v6 _ _ rfl hown6 (some ⟨w6.heap.size, 0, none⟩) 1 1 [.int .i64 id, .int .i64 par] rfl rfl hcA (by simp [Value.oneCell']) (by unfold maxLen; omega) (by omega) HBA.out.size ?_
                         intro v7 w7 hown7 hg7 _
                         obtain ⟨A7, c7, hv7, _, _, _⟩ := own_readsS (by decide) hown7
                         subst hv7
                         have HP7 : Hid (PR w5.heap.size w7 (.slice A7 (D.length + 1) c7) (D ++ [(id, par)])) := Kit.hid (by unfold PR; rw [List.length_append, flatP_app]; exact hown7)
                         have HB7 : Hid (Below w5.heap.size w5 w7) := Kit.hid (below_ownS HBA.out hown6 hg7 HBA.out.size)
                         obtain ⟨A, c, hq7, _⟩ := ((HT.out.below HB5.out).below HB7.out).look
                         have q7 := blk_cell hq7 0
                         have q7f := blk_frozen hq7 0
                         have q7l := blk_lt hq7
                         clear hown7 hg7 hq7)
            go_ret
            have hfin := (HT.out.below HB5.out).put HB7.out HP7.out (T' := ins (id, par) (del T id)) ((List.Perm.append_right _ (by rw [HDE.out]; exact List.Perm.filter _ HT.out.2.1)).trans (ins_perm _ _).symm) (by have := HT.out.2.2.1.moveR id par; rw [HR.out] at this; exact this) (by simp; omega)
            exact ⟨by rw [HR.out]; rfl, _, by rw [HR.out]; exact hfin.1, by simp; omega, (Kp.of_below HB5.out).trans hfin.2⟩
end
end Go.Proofs.Ytkhoiiinifdhcaa.Ki
