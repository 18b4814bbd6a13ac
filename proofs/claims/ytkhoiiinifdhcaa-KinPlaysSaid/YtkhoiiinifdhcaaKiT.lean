/- The document's own tree of groups: the walks of its Kids, Under and Tall. -/
import Derived.Test.YtkhoiiinifdhcaaKiR
namespace Go.Proofs.Ytkhoiiinifdhcaa.KiM
variable {T l : Tr}
/-- The least kid above the last one, of those that were looked at. -/
def Nx (k : Tr) (id last nx : Int) : Prop := (nx = 0 ∧ ∀ x ∈ k, x.2 = id → x.1 ≤ last) ∨ (last < nx ∧ (nx, id) ∈ k ∧ ∀ x ∈ k, x.2 = id → last < x.1 → nx ≤ x.1)
theorem Nx.nil (id last : Int) : Nx [] id last 0 := .inl ⟨rfl, fun x h => by cases h⟩
theorem Nx.step {k : Tr} {id last nx : Int} (h : Nx k id last nx) (h0 : 0 ≤ last) (x : Int × Int) :
    (x.2 = id ∧ last < x.1 ∧ (nx = 0 ∨ x.1 < nx) → Nx (k ++ [x]) id last x.1) ∧ (¬ (x.2 = id ∧ last < x.1 ∧ (nx = 0 ∨ x.1 < nx)) → Nx (k ++ [x]) id last nx) := by
  constructor
  · rintro ⟨e, hl, hn⟩
    refine .inr ⟨hl, by rw [← e]; simp, fun y hy hy2 hy3 => ?_⟩
    rcases List.mem_append.1 hy with hy | hy
    · rcases h with ⟨_, h⟩ | ⟨h1, _, h⟩
      · have := h y hy hy2; omega
      · have := h y hy hy2 hy3
        rcases hn with hn | hn <;> omega
    · simp at hy
      rw [hy]
      exact Int.le_refl _
  · intro hc
    rcases h with ⟨h1, h⟩ | ⟨h1, h2, h⟩
    · refine .inl ⟨h1, fun y hy hy2 => ?_⟩
      rcases List.mem_append.1 hy with hy | hy
      · exact h y hy hy2
      · simp at hy
        rw [hy] at hy2 ⊢
        by_cases hle : x.1 ≤ last
        · exact hle
        · exact absurd ⟨hy2, by omega, .inl h1⟩ hc
    · refine .inr ⟨h1, List.mem_append_left _ h2, fun y hy hy2 hy3 => ?_⟩
      rcases List.mem_append.1 hy with hy | hy
      · exact h y hy hy2 hy3
      · simp at hy
        rw [hy] at hy2 hy3 ⊢
        by_cases hle : nx ≤ x.1
        · exact hle
        · exact absurd ⟨hy2, hy3, .inr (by omega)⟩ hc
theorem Nx.pos {k : Tr} {id last nx : Int} (h : Nx k id last nx) (h0 : 0 ≤ last) : nx = 0 ∨ last < nx := by
  rcases h with ⟨h, _⟩ | ⟨h, _⟩
  · exact .inl h
  · exact .inr h
/-- The kids, split behind the last one that was told. -/
structure KSplit (T : Tr) (id last : Int) (pre rest : List Int) : Prop where
  eq : kids T id = pre ++ rest
  lo : ∀ x ∈ pre, x ≤ last
  hi : ∀ x ∈ rest, last < x
  nn : 0 ≤ last
theorem KSplit.start (hw : WF T) (id : Int) : KSplit T id 0 [] (kids T id) :=
  ⟨rfl, fun x h => (by cases h), fun x hx => by have := hw.pos (hw.has_kid hx).1; omega, by omega⟩
theorem KSplit.next {id last nx : Int} {pre rest : List Int} (s : KSplit T id last pre rest) (hp : l.Perm T) (hw : WF T) (h : Nx l id last nx) :
    (nx = 0 ∧ rest = []) ∨ (nx ≠ 0 ∧ has T id = true ∧ ∃ rest', rest = nx :: rest' ∧ KSplit T id nx (pre ++ [nx]) rest') := by
  have hk : ∀ x, (x, id) ∈ l ↔ x ∈ kids T id := fun x => by
    rw [hp.mem_iff, mem_kids hw.rises, get_iff hw.rises]
  have hlt := kids_lt hw.rises id
  rw [s.eq] at hlt
  rcases h with ⟨h1, h⟩ | ⟨h1, h2, h⟩
  · refine .inl ⟨h1, ?_⟩
    cases rest with
    | nil => rfl
    | cons r rest =>
      have hr : r ∈ kids T id := by rw [s.eq]; simp
      have := h _ ((hk r).2 hr) rfl
      have := s.hi r (by simp)
      dsimp only at *
      omega
  · have hn : nx ∈ kids T id := (hk nx).1 h2
    refine .inr ⟨by have := s.nn; omega, (hw.path_cons (hw.has_kid hn).1).2, ?_⟩
    rw [s.eq] at hn
    have hn2 : nx ∈ rest := by
      rcases List.mem_append.1 hn with hn | hn
      · have := s.lo nx hn; omega
      · exact hn
    cases rest with
    | nil => cases hn2
    | cons r rest =>
      have hr : r ∈ kids T id := by rw [s.eq]; simp
      have h3 := h _ ((hk r).2 hr) rfl (s.hi r (by simp))
      have hc := List.pairwise_cons.1 (List.pairwise_append.1 hlt).2.1
      have e : r = nx := by
        rcases List.mem_cons.1 hn2 with e | hm
        · exact e.symm
        · have := hc.1 nx hm
          dsimp only at h3
          omega
      subst e
      refine ⟨rest, rfl, by rw [s.eq]; simp, fun x hx => ?_, fun x hx => hc.1 x hx, by have := s.nn; omega⟩
      rcases List.mem_append.1 hx with hx | hx
      · have := s.lo x hx; omega
      · simp at hx; omega
theorem count_less {last nx : Int} (h : last < nx) : ∀ {K : List Int}, nx ∈ K → (K.countP fun k => decide (nx < k)) < K.countP fun k => decide (last < k)
  | [], hm => by cases hm
  | y :: K, hm => by
    have hle : (K.countP fun k => decide (nx < k)) ≤ K.countP fun k => decide (last < k) := List.countP_mono_left fun x _ hx => by
      simp at hx ⊢
      omega
    rw [List.countP_cons, List.countP_cons]
    rcases List.mem_cons.1 hm with e | hm
    · subst e
      have h1 : decide (nx < nx) = false := by simp
      have h2 : decide (last < nx) = true := by simpa using h
      rw [h1, h2]
      simp
      omega
    · have := count_less h hm
      by_cases h1 : nx < y
      · have h2 : last < y := by omega
        simp [h1, h2]
        omega
      · by_cases h2 : last < y
        · simp [h1, h2]
          omega
        · simp [h1, h2]
          exact this
theorem tall_eq (hw : WF T) {id : Int} (hh : has T id = true) : tall T id = maxI ((kids T id).map fun k => 1 + tall T k) := by
  apply Int.le_antisymm
  · refine tall_le hh (maxI_nonneg _) fun x hx => ?_
    rw [hw.under_eq hh] at hx
    rcases List.mem_cons.1 hx with rfl | hx
    · have := maxI_nonneg ((kids T x).map fun k => 1 + tall T k); omega
    · obtain ⟨k, hk, hx⟩ := List.mem_flatMap.1 hx
      obtain ⟨_, hkh, _, hkd⟩ := hw.has_kid hk
      have h1 := tall_ge hkh hx
      have h2 := maxI_ge (l := (kids T id).map fun k => 1 + tall T k) (List.mem_map.2 ⟨k, hk, rfl⟩)
      omega
  · refine maxI_le (tall_nonneg hh) fun y hy => ?_
    obtain ⟨k, hk, rfl⟩ := List.mem_map.1 hy
    obtain ⟨_, hkh, _, hkd⟩ := hw.has_kid hk
    have h0 : (1 : Int) ≤ tall T id := by
      have hkm : k ∈ under T id := by
        rw [hw.under_eq hh]
        refine List.mem_cons_of_mem _ (List.mem_flatMap.2 ⟨k, hk, ?_⟩)
        rw [hw.under_eq hkh]
        simp
      have := tall_ge hh hkm
      omega
    have h1 : tall T k ≤ tall T id - 1 := by
      refine tall_le hkh (by omega) fun x hx => ?_
      have hxm : x ∈ under T id := by
        rw [hw.under_eq hh]
        exact List.mem_cons_of_mem _ (List.mem_flatMap.2 ⟨k, hk, hx⟩)
      have := tall_ge hh hxm
      omega
    omega
theorem tall_16 (hw : WF T) (id : Int) : -1 ≤ tall T id ∧ tall T id ≤ 16 := by
  by_cases hh : has T id = true
  · have := tall_nonneg hh
    refine ⟨by omega, tall_le hh (by omega) fun x hx => ?_⟩
    have := hw.dep_le ((hw.mem_under hh).1 hx).1
    omega
  · unfold tall
    rw [if_neg hh]
    omega
end Go.Proofs.Ytkhoiiinifdhcaa.KiM
namespace Go.Proofs.Ytkhoiiinifdhcaa.Ki
open Go.RowKit Go.Proofs.Ytkhoiiinifdhcaa.Kit Go.Proofs.Ytkhoiiinifdhcaa.KiM
set_option linter.unusedVariables false
set_option linter.unusedSimpArgs false
section
variable {w w' : World} {q : Nat} {l T : Tr}
set_option maxRecDepth 8000 in
set_option maxHeartbeats 1600000 in
theorem rkids_any (h : RT w q l T) (id : Int) :
    Calls Try.prog 27 #[.pointer (some ⟨q, 0, none⟩), .int .i64 id] w fun e w' => ∃ v, e = .returned v ∧ Row w.heap.size w' v (kids T id) ∧ Below w.heap.size w w' := by
  have HT := Kit.hid h
  have HW : Hid (WF T) := Kit.hid h.2.2.1
  have HP : Hid (l.Perm T) := Kit.hid h.2.1
  have hll := h.2.2.2
  have HHA : Hid (∀ w', Below w.heap.size w w' → Calls Try.prog 22 #[.pointer (some ⟨q, 0, none⟩), .int .i64 id] w' fun e w'' => e = .returned (.bool (has T id)) ∧ w'' = w') := Kit.hid (fun w' hb => rhas_any (HT.out.below hb) id)
  have HB0 : Hid (Below w.heap.size w w) := Kit.hid (Below.refl _ _)
  have HR0 : Hid (Row w.heap.size w (.slice none 0 0) []) := Kit.hid (row_nil _ _)
  have HS0 := Kit.hid (KSplit.start HW.out id)
  have HKL : Hid ((kids T id).length ≤ 200) := Kit.hid (by have := kids_len (T := T) id; have := HP.out.length_eq; omega)
  clear h
  go_enter Try.func27, Try.ntmps27
  go_wp2_with fail
  go_loopw [5, 6] (fun v5 v6 wr => ∃ (last : Int) (pre rest : List Int) (vo : Value), v6 = .int .i64 last ∧ vo = v5 ∧ Hid (KSplit T id last pre rest) ∧ Hid (Row w.heap.size wr vo pre) ∧ Hid (Below w.heap.size w wr)) (fun _ v6 _ => (kids T id).countP fun k => decide (intOf v6 < k))
  case atStart => exact ⟨0, [], _, _, rfl, rfl, HS0, HR0, HB0⟩
  case round =>
    obtain ⟨last, pre, rest, vo, rfl, rfl, HS, HR, HB⟩ := hrel
    have HPL : Hid (pre.length ≤ 200) := Kit.hid (by have h1 := congrArg List.length HS.out.eq; rw [List.length_append] at h1; have := HKL.out; omega)
    have HL0 : Hid (0 ≤ last) := Kit.hid HS.out.nn
    go_wp2_with fail
    go_loopw [7, 8] (fun v7 v8 wi => ∃ (i : Nat) (nx : Int), i ≤ l.length ∧ v8 = .int .i64 i ∧ v7 = .int .i64 nx ∧ Hid (Nx (l.take i) id last nx) ∧ Hid (Row w.heap.size wi vo pre) ∧ Hid (Below w.heap.size w wi)) (fun _ v8 _ => l.length - (intOf v8).toNat)
    case atStart => exact ⟨0, 0, by omega, rfl, rfl, Kit.hid (Nx.nil _ _), HR, HB⟩
    case round =>
      obtain ⟨i, nx, hi, rfl, rfl, HX, HRi, HBi⟩ := hrel
      obtain ⟨A, c, hq, hr⟩ := (HT.out.below HBi.out).look
      have q0 := blk_cell hq 0
      have ql := blk_lt hq
      clear hq
      by_cases hlt : i < l.length
      · obtain ⟨x, hx⟩ : ∃ x, l[i]? = some x := ⟨_, List.getElem?_eq_getElem hlt⟩
        obtain ⟨ad, rfl, c0, c1⟩ := p_at hr hx
        have HXS := Kit.hid (HX.out.step HL0.out x)
        have HTK : Hid (l.take (i + 1) = l.take i ++ [x]) := Kit.hid (by rw [List.take_add_one, hx]; rfl)
        clear hx
        by_cases a1 : x.2 = id
        · have g1 : (x.2 == id) = true := beq_iff_eq.2 a1
          by_cases a2 : last < x.1
          · have g2 : decide (last < x.1) = true := decide_eq_true a2
            by_cases a3 : nx = 0
            · have g3 : (nx == 0) = true := beq_iff_eq.2 a3
              have HN : Hid (Nx (l.take (i + 1)) id last x.1) := Kit.hid (by rw [HTK.out]; exact HXS.out.1 ⟨a1, a2, .inl a3⟩)
              clear a1 a2 a3
              go_wp2
              go_roundw
              case rel => exact ⟨i + 1, x.1, by omega, by go_num, rfl, HN, Kit.hid (HRi.out.below ((Below.refl _ _).alloc (Nat.le_refl _) _)), Kit.hid (HBi.out.alloc HBi.out.size _)⟩
              case measure => simp [intOf]; omega
            · have g3 : (nx == 0) = false := beq_eq_false_iff_ne.2 a3
              by_cases a4 : x.1 < nx
              · have g4 : decide (x.1 < nx) = true := decide_eq_true a4
                have HN : Hid (Nx (l.take (i + 1)) id last x.1) := Kit.hid (by rw [HTK.out]; exact HXS.out.1 ⟨a1, a2, .inr a4⟩)
                clear a1 a2 a3 a4
                go_wp2
                go_roundw
                case rel => exact ⟨i + 1, x.1, by omega, by go_num, rfl, HN, Kit.hid (HRi.out.below ((Below.refl _ _).alloc (Nat.le_refl _) _)), Kit.hid (HBi.out.alloc HBi.out.size _)⟩
                case measure => simp [intOf]; omega
              · have g4 : decide (x.1 < nx) = false := decide_eq_false a4
                have HN : Hid (Nx (l.take (i + 1)) id last nx) := Kit.hid (by rw [HTK.out]; exact HXS.out.2 (fun h => h.2.2.elim a3 a4))
                clear a1 a2 a3 a4
                go_wp2
                go_roundw
                case rel => exact ⟨i + 1, nx, by omega, by go_num, rfl, HN, Kit.hid (HRi.out.below ((Below.refl _ _).alloc (Nat.le_refl _) _)), Kit.hid (HBi.out.alloc HBi.out.size _)⟩
                case measure => simp [intOf]; omega
          · have g2 : decide (last < x.1) = false := decide_eq_false a2
            have HN : Hid (Nx (l.take (i + 1)) id last nx) := Kit.hid (by rw [HTK.out]; exact HXS.out.2 (fun h => a2 h.2.1))
            clear a1 a2
            go_wp2
            go_roundw
            case rel => exact ⟨i + 1, nx, by omega, by go_num, rfl, HN, Kit.hid (HRi.out.below ((Below.refl _ _).alloc (Nat.le_refl _) _)), Kit.hid (HBi.out.alloc HBi.out.size _)⟩
            case measure => simp [intOf]; omega
        · have g1 : (x.2 == id) = false := beq_eq_false_iff_ne.2 a1
          have HN : Hid (Nx (l.take (i + 1)) id last nx) := Kit.hid (by rw [HTK.out]; exact HXS.out.2 (fun h => a1 h.1))
          clear a1
          go_wp2
          go_roundw
          case rel => exact ⟨i + 1, nx, by omega, by go_num, rfl, HN, Kit.hid (HRi.out.below ((Below.refl _ _).alloc (Nat.le_refl _) _)), Kit.hid (HBi.out.alloc HBi.out.size _)⟩
          case measure => simp [intOf]; omega
      · obtain rfl : i = l.length := by omega
        rw [List.take_length] at HX
        rcases HS.out.next HP.out HW.out HX.out with ⟨hz, hr0⟩ | ⟨hnz, hhid, rest', hre, hs'⟩
        · have g5 : (nx == 0) = true := beq_iff_eq.2 hz
          have HE : Hid (kids T id = pre) := Kit.hid (by rw [HS.out.eq, hr0, List.append_nil])
          clear hz hr0
          go_wp2_with fail
          go_ret
          exact ⟨_, rfl, by rw [HE.out]; exact HRi.out, HBi.out⟩
        · have g5 : (nx == 0) = false := beq_eq_false_iff_ne.2 hnz
          have HC := Kit.hid (HHA.out _ HBi.out)
          rw [hhid] at HC
          have HS2 := Kit.hid hs'
          have HRE := Kit.hid hre
          have HNX : Hid (last < nx) := Kit.hid ((HX.out.pos HL0.out).resolve_left hnz)
          have hownA : (wr.alloc (.cells #[.int .i64 nx] 3)).ownsRow w.heap.size 3 1 vo pre.length (iv pre) := HRi.out.below ((Below.refl _ _).alloc (Nat.le_refl _) _)
          have HBA := Kit.hid (HBi.out.alloc HBi.out.size (.cells #[.int .i64 nx] 3))
          have hcA := lit_int wr nx
          clear hnz hhid hs' hre
          go_wp2_with fail
          (with_reducible refine HC.out.mono ?_); rintro e w2 ⟨rfl, rfl⟩
          clear HC
          go_wp2_with (at_builtin; refine wpList_append_src rfl _ _ 39 rfl w.heap.size 3 (.int .i64 0) 8 Try.underlying39 infoI rfl vo _ _ rfl hownA (some ⟨w2.heap.size, 0, none⟩) 1 1 [.int .i64 nx] rfl rfl hcA (fun u hu => by rw [List.mem_singleton.1 hu]; rfl) (by have := HPL.out; unfold maxLen; omega) (by have := HPL.out; omega) HBA.out.size ?_
                       intro v3 w3 hown3 hg3 _
                       have HR3 : Hid (Row w.heap.size w3 v3 (pre ++ [nx])) := Kit.hid (row_push (k := [nx]) hown3)
                       have HB3 : Hid (Below w.heap.size w w3) := Kit.hid (row_below HBA.out hownA hg3 HBA.out.size)
                       clear hown3 hg3)
          go_roundw
          case rel => exact ⟨nx, pre ++ [nx], rest', v3, rfl, rfl, HS2, HR3, HB3⟩
          case measure => exact count_less HNX.out (by rw [HS.out.eq, HRE.out]; simp)
theorem lit_row {B : Nat} (w : World) (x : Int) (hB : B ≤ w.heap.size) : Row B (w.alloc (.cells #[.int .i64 x] 3)) (.slice (some ⟨w.heap.size, 0, none⟩) 1 1) [x] :=
  row_of (l := [x]) hB (blk_new w _) (Nat.le_refl 1) (by unfold maxLen; omega) rfl fun j y hj => by
    cases j with
    | zero => simpa using hj
    | succ j => cases hj
set_option maxRecDepth 8000 in
set_option maxHeartbeats 1600000 in
theorem runder_aux (q : Nat) (l T : Tr) (n : Nat) : ∀ (w : World) (id : Int), RT w q l T → 17 ≤ n + dep T id →
    Calls Try.prog 20 #[.pointer (some ⟨q, 0, none⟩), .int .i64 id] w fun e w' => ∃ v, e = .returned v ∧ Row w.heap.size w' v (under T id) ∧ Below w.heap.size w w' := by
  induction n with
  | zero =>
    intro w id h hd
    have := path_len h.2.2.1 id
    unfold dep at hd
    omega
  | succ n ih =>
    intro w id h hd
    have HT := Kit.hid h
    have HW : Hid (WF T) := Kit.hid h.2.2.1
    have hll := h.2.2.2
    have HC := Kit.hid (rhas_any h id)
    have HUL : Hid (∀ x, (under T x).length ≤ 201) := Kit.hid (fun x => by have := under_len HW.out x; have := h.2.1.length_eq; omega)
    cases hh : has T id with
    | false =>
      rw [hh] at HC
      have HU := Kit.hid (under_none hh)
      clear h hd hh
      go_enter Try.func20, Try.ntmps20
      go_wp2_with fail
      (with_reducible refine HC.out.mono ?_); rintro e w2 ⟨rfl, rfl⟩
      go_wp2
      go_ret
      exact ⟨_, rfl, by rw [HU.out]; exact row_nil _ _, Below.refl _ _⟩
    | true =>
      rw [hh] at HC
      have HU := Kit.hid (HW.out.under_eq hh)
      have HB0 : Hid (Below w.heap.size w (w.alloc (.cells #[.int .i64 id] 3))) := Kit.hid ((Below.refl _ _).alloc (Nat.le_refl _) _)
      have HR0 : Hid (Row w.heap.size (w.alloc (.cells #[.int .i64 id] 3)) (.slice (some ⟨w.heap.size, 0, none⟩) 1 1) [id]) := Kit.hid (lit_row w id (Nat.le_refl _))
      have HK := Kit.hid (rkids_any (HT.out.below HB0.out) id)
      have HI : Hid (∀ w' k, Below w.heap.size w w' → k ∈ kids T id → Calls Try.prog 20 #[.pointer (some ⟨q, 0, none⟩), .int .i64 k] w' fun e w'' => ∃ v, e = .returned v ∧ Row w'.heap.size w'' v (under T k) ∧ Below w'.heap.size w' w'') := Kit.hid (fun w' k hb hk => ih w' k (HT.out.below hb) (by have := (HW.out.has_kid hk).2.2.2; omega))
      obtain ⟨K, hK⟩ : ∃ K, K = kids T id := ⟨_, rfl⟩
      have hkl : K.length ≤ 201 := by
        have h1 := HUL.out id
        rw [HU.out, List.length_cons] at h1
        have h2 := st_len HW.out (st := kids T id) (fun y hy => (HW.out.has_kid hy).2.1)
        rw [hK]
        omega
      rw [← hK] at HK HI HU
      clear h hd hh ih hK
      go_enter Try.func20, Try.ntmps20
      go_wp2_with fail
      (with_reducible refine HC.out.mono ?_); rintro e w2 ⟨rfl, rfl⟩
      clear HC
      go_wp2_with fail
      (with_reducible refine HK.out.mono ?_); rintro e w3 ⟨vk, rfl, hrk, hb3⟩
      obtain ⟨Ak, ck, rfl, hck, _, _⟩ := hrk.reads
      have HRK := Kit.hid hrk
      have HB3 := Kit.hid (HB0.out.trans (hb3.mono HB0.out.size))
      have HR3 := Kit.hid (HR0.out.below hb3)
      have HAP : Hid (∀ g, (Value.slice (some ⟨w2.heap.size, 0, none⟩) 1 1).ownBlock = some g → (Value.slice Ak K.length ck).ownBlock ≠ some g) := Kit.hid (fun g hg hk => by
        cases hg
        have := (hrk.own_lt _ hk).1
        simp at this
        omega)
      clear hrk hb3 hck HK HB0 HR0
      go_wp2_with fail
      go_loopw [5, 7] (fun v5 v7 wr => ∃ (i : Nat) (vo : Value), i ≤ K.length ∧ v7 = .int .i64 i ∧ vo = v5 ∧ Hid (Row w2.heap.size wr vo (id :: (K.take i).flatMap (under T))) ∧ Hid (Row 0 wr (.slice Ak K.length ck) K) ∧ Hid (∀ g, vo.ownBlock = some g → (Value.slice Ak K.length ck).ownBlock ≠ some g) ∧ Hid (Below w2.heap.size w2 wr)) (fun _ v7 _ => K.length - (intOf v7).toNat)
      case atStart => exact ⟨0, _, by omega, rfl, rfl, HR3, Kit.hid (HRK.out.mono (Nat.zero_le _)), HAP, HB3⟩
      case round =>
        obtain ⟨i, vo, hi, rfl, rfl, HR, HRk, HAP, HB⟩ := hrel
        by_cases hlt : i < K.length
        · obtain ⟨k, hk⟩ : ∃ k, K[i]? = some k := ⟨_, List.getElem?_eq_getElem hlt⟩
          obtain ⟨ad, rfl, c0⟩ := row_at HRk.out hk
          have HKI := Kit.hid (HI.out wr k HB.out (List.mem_of_getElem? hk))
          have HTK : Hid ((K.take (i + 1)).flatMap (under T) = (K.take i).flatMap (under T) ++ under T k) := Kit.hid (by rw [List.take_add_one, hk]; simp)
          have HLE : Hid ((id :: (K.take (i + 1)).flatMap (under T)).length ≤ 201) := Kit.hid (by
            have h1 := HUL.out id
            rw [HU.out] at h1
            have h2 : K = K.take (i + 1) ++ K.drop (i + 1) := (List.take_append_drop _ _).symm
            rw [h2] at h1
            simp only [List.flatMap_append, List.length_cons, List.length_append] at h1 ⊢
            omega)
          rw [HTK.out] at HLE
          obtain ⟨O, hO⟩ : ∃ O, O = id :: (K.take i).flatMap (under T) := ⟨_, rfl⟩
          have HOE : Hid (id :: (K.take (i + 1)).flatMap (under T) = O ++ under T k) := Kit.hid (by rw [HTK.out, hO]; rfl)
          rw [← hO] at HR
          have hol : O.length + (under T k).length ≤ 201 := by
            have := HLE.out
            rw [hO]
            simp only [List.length_cons, List.length_append] at this ⊢
            omega
          clear hk hO HLE HTK
          go_wp2_with fail
          (with_reducible refine HKI.out.mono ?_); rintro e w4 ⟨vu, rfl, hru, hb4⟩
          obtain ⟨Au, cu, rfl, hcu, _, _⟩ := hru.reads
          have hown4 := HR.out.below hb4
          have HB4 := Kit.hid (HB.out.trans (hb4.mono HB.out.size))
          have HRk4 := Kit.hid (HRk.out.below hb4)
          clear hru hb4 HKI c0
          go_wp2_with (at_builtin; refine wpList_append_src rfl _ _ 39 rfl w2.heap.size 3 (.int .i64 0) 8 Try.underlying39 infoI rfl vo _ _ rfl hown4 Au (under T k).length cu (iv (under T k)) rfl (iv_len _) hcu (iv_one _) (by unfold maxLen; omega) (by omega) HB4.out.size ?_
                       intro v5 w5 hown5 hg5 hv5
                       have HR5 : Hid (Row w2.heap.size w5 v5 (O ++ under T k)) := Kit.hid (row_push hown5)
                       have HB5 : Hid (Below w2.heap.size w2 w5) := Kit.hid (row_below HB4.out hown4 hg5 HB4.out.size)
                       have HRk5 := Kit.hid (row_kept HRk4.out hg5 HAP.out)
                       have HAP5 := Kit.hid (own_apart hown4 hv5 HRk4.out HAP.out)
                       clear hown5 hg5 hv5)
          go_roundw
          case rel => exact ⟨i + 1, v5, by omega, by go_num, rfl, Kit.hid (by rw [HOE.out]; exact HR5.out), HRk5, HAP5, HB5⟩
          case measure => simp [intOf]; omega
        · obtain rfl : i = K.length := by omega
          rw [List.take_length, ← HU.out] at HR
          go_wp2
          go_ret
          exact ⟨_, rfl, HR.out, HB.out⟩
theorem runder_any (h : RT w q l T) (id : Int) :
    Calls Try.prog 20 #[.pointer (some ⟨q, 0, none⟩), .int .i64 id] w fun e w' => ∃ v, e = .returned v ∧ Row w.heap.size w' v (under T id) ∧ Below w.heap.size w w' := runder_aux q l T 17 w id h (by omega)
set_option maxRecDepth 8000 in
set_option maxHeartbeats 1600000 in
theorem rtall_aux (q : Nat) (l T : Tr) (n : Nat) : ∀ (w : World) (id : Int), RT w q l T → 17 ≤ n + dep T id →
    Calls Try.prog 25 #[.pointer (some ⟨q, 0, none⟩), .int .i64 id] w fun e w' => e = .returned (.int .i64 (tall T id)) ∧ Below w.heap.size w w' := by
  induction n with
  | zero =>
    intro w id h hd
    have := path_len h.2.2.1 id
    unfold dep at hd
    omega
  | succ n ih =>
    intro w id h hd
    have HT := Kit.hid h
    have HW : Hid (WF T) := Kit.hid h.2.2.1
    have hll := h.2.2.2
    have HC := Kit.hid (rhas_any h id)
    have HKL : Hid ((kids T id).length ≤ 200) := Kit.hid (by have := kids_len (T := T) id; have := h.2.1.length_eq; omega)
    cases hh : has T id with
    | false =>
      rw [hh] at HC
      have HU : Hid (tall T id = -1) := Kit.hid (by unfold tall; rw [hh]; rfl)
      clear h hd hh
      go_enter Try.func25, Try.ntmps25
      go_wp2_with fail
      (with_reducible refine HC.out.mono ?_); rintro e w2 ⟨rfl, rfl⟩
      go_wp2
      go_ret
      exact ⟨by rw [HU.out]; rfl, Below.refl _ _⟩
    | true =>
      rw [hh] at HC
      have HU := Kit.hid (tall_eq HW.out hh)
      have HK := Kit.hid (rkids_any h id)
      have HI : Hid (∀ w' k, Below w.heap.size w w' → k ∈ kids T id → Calls Try.prog 25 #[.pointer (some ⟨q, 0, none⟩), .int .i64 k] w' fun e w'' => e = .returned (.int .i64 (tall T k)) ∧ Below w'.heap.size w' w'') := Kit.hid (fun w' k hb hk => ih w' k (HT.out.below hb) (by have := (HW.out.has_kid hk).2.2.2; omega))
      obtain ⟨K, hK⟩ : ∃ K, K = kids T id := ⟨_, rfl⟩
      rw [← hK] at HK HI HU HKL
      have hkl := HKL.out
      clear h hd hh ih hK
      go_enter Try.func25, Try.ntmps25
      go_wp2_with fail
      (with_reducible refine HC.out.mono ?_); rintro e w2 ⟨rfl, rfl⟩
      clear HC
      go_wp2_with fail
      (with_reducible refine HK.out.mono ?_); rintro e w3 ⟨vk, rfl, hrk, hb3⟩
      obtain ⟨Ak, ck, rfl, hck, _, _⟩ := hrk.reads
      have HRK : Hid (Row 0 w3 (.slice Ak K.length ck) K) := Kit.hid (hrk.mono (Nat.zero_le _))
      have HB3 := Kit.hid hb3
      clear hrk hb3 hck HK
      go_wp2_with fail
      go_loopw [5, 7] (fun v5 v7 wr => ∃ (i : Nat) (m : Int), i ≤ K.length ∧ v7 = .int .i64 i ∧ v5 = .int .i64 m ∧ Hid (m = maxI ((K.take i).map fun k => 1 + tall T k)) ∧ 0 ≤ m ∧ m ≤ 17 ∧ Hid (Row 0 wr (.slice Ak K.length ck) K) ∧ Hid (Below w2.heap.size w2 wr)) (fun _ v7 _ => K.length - (intOf v7).toNat)
      case atStart => exact ⟨0, 0, by omega, rfl, rfl, Kit.hid rfl, by omega, by omega, HRK, HB3⟩
      case round =>
        obtain ⟨i, m, hi, rfl, rfl, HM, hm0, hm17, HRk, HB⟩ := hrel
        by_cases hlt : i < K.length
        · obtain ⟨k, hk⟩ : ∃ k, K[i]? = some k := ⟨_, List.getElem?_eq_getElem hlt⟩
          obtain ⟨ad, rfl, c0⟩ := row_at HRk.out hk
          have HKI := Kit.hid (HI.out wr k HB.out (List.mem_of_getElem? hk))
          have ht := tall_16 HW.out k
          have HMN : Hid (max m (1 + tall T k) = maxI ((K.take (i + 1)).map fun k => 1 + tall T k)) := Kit.hid (by
            rw [List.take_add_one, hk, Option.toList_some, List.map_append, List.map_singleton, maxI_snoc _ _ (maxI_nonneg _), ← HM.out])
          obtain ⟨t, htt⟩ : ∃ t, t = tall T k := ⟨_, rfl⟩
          rw [← htt] at HKI ht HMN
          clear hk htt
          go_wp2_with fail
          (with_reducible refine HKI.out.mono ?_); rintro e w4 ⟨rfl, hb4⟩
          have HB4 := Kit.hid (HB.out.trans (hb4.mono HB.out.size))
          have HRk4 := Kit.hid (HRk.out.below hb4)
          clear hb4 HKI c0
          go_wp2
          go_roundw
          case rel => exact ⟨i + 1, max m (1 + t), by omega, by go_num, rfl, HMN, by omega, by omega, HRk4, HB4⟩
          case measure => simp [intOf]; omega
        · obtain rfl : i = K.length := by omega
          have HE : Hid (tall T id = m) := Kit.hid (by rw [HM.out, List.take_length, HU.out])
          go_wp2
          go_ret
          exact ⟨by rw [HE.out]; rfl, HB.out⟩
theorem rtall_any (h : RT w q l T) (id : Int) :
    Calls Try.prog 25 #[.pointer (some ⟨q, 0, none⟩), .int .i64 id] w fun e w' => e = .returned (.int .i64 (tall T id)) ∧ Below w.heap.size w w' := rtall_aux q l T 17 w id h (by omega)
end
end Go.Proofs.Ytkhoiiinifdhcaa.Ki
