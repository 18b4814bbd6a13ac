/- The law MomentBack. -/
import Derived.Test.YtjddoohlmgacjaaMoA
import Derived.Test.YtjddoohlmgacjaaMoE
import Derived.Test.YtjddoohlmgacjaaMoMeans
import Derived.Test.YtjddoohlmgacjaaHeldT
import Derived.Test.YtjddoohlmgacjaaMoC
namespace Go.Proofs.Ytjddoohlmgacjaa.Mo
open Go.RowKit Go.Proofs.Ytjddoohlmgacjaa.Kit Go.Proofs.Ytjddoohlmgacjaa.Flo Go.IntWalk
set_option linter.unusedVariables false
set_option linter.unusedSimpArgs false
theorem infoOne : (Try.prog.info? 31).map (fun i => (i.zero, i.size, i.bytes)) = some (some (.agg #[.int .i32 0, .int .u32 0, .bool false]), 3, 12) := by kernel_rfl
theorem sumW_append : ∀ l k : List One, sumW (l ++ k) = sumW l + sumW k
  | [], k => by simp [sumW]
  | o :: l, k => by simp only [List.cons_append, sumW, sumW_append l k]; omega
theorem sumP_append : ∀ l k : List One, sumP (l ++ k) = sumP l + sumP k
  | [], k => by simp [sumP]
  | o :: l, k => by simp only [List.cons_append, sumP, sumP_append l k]; omega
theorem wf_append {l k : List One} (h1 : ∀ o ∈ l, o.Wf) (h2 : ∀ o ∈ k, o.Wf) : ∀ o ∈ l ++ k, o.Wf := fun o h => (List.mem_append.1 h).elim (h1 o) (h2 o)
theorem field_any (u : Value) (re im : Nat) (w : World) : (Instr.field 27 (.agg #[u, .complex .f64 re im]) 1).run Try.prog w = .ok (.complex .f64 re im) w := by
  simp [Instr.field, run_underlying Try.underlying27, asAgg, go_sem]
set_option maxHeartbeats 8000000 in
theorem backLaw_any (n : Int) (A : Option Addr) (l : List One) (cap : Nat) (A2 : Option Addr) (k : List One) (cap2 : Nat) (w : World) (ho : Hid (Ones w A l)) (hk : Hid (Ones w A2 k)) (hwf : ∀ o ∈ l, o.Wf) (hwk : ∀ o ∈ k, o.Wf) :
    Calls Try.prog 6 #[.int .i64 n, .slice A l.length cap, .slice A2 k.length cap2] w (ValPost w (.bool true)) := by
  have HAW := Kit.hid awake_any
  by_cases hl : 30 < l.length
  · have g1 : (30 : Int) < (l.length : Int) := by omega
    go_enter Try.func6, Try.ntmps6
    go_wp2_with (go_at_call 9; refine (HAW.out _).mono ?_; rintro e w1 ⟨rfl, hd1⟩)
    go_ret
    exact ⟨rfl, hd1⟩
  have g1 : ¬ (30 : Int) < (l.length : Int) := by omega
  have g1b : decide (30 < (l.length : Int)) = false := decide_eq_false g1
  by_cases hl2 : 30 < k.length
  · have g2 : (30 : Int) < (k.length : Int) := by omega
    go_enter Try.func6, Try.ntmps6
    go_wp2_with (go_at_call 9; refine (HAW.out _).mono ?_; rintro e w1 ⟨rfl, hd1⟩)
    go_ret
    exact ⟨rfl, hd1⟩
  have g2 : ¬ (30 : Int) < (k.length : Int) := by omega
  have g2b : decide (30 < (k.length : Int)) = false := decide_eq_false g2
  have HB := Kit.hid (based_any n)
  have hb := based_bd n
  obtain ⟨b, hb'⟩ : ∃ b, b = basedOf n := ⟨_, rfl⟩
  rw [← hb'] at HB hb
  clear hb'
  have HS : Hid (∀ A' cap' w', Hid (Ones w' A' (l ++ k)) → Calls Try.prog 11 #[.int .i64 b, .slice A' (l.length + k.length) cap'] w' (ValPost w' (mo b (sumW l + sumW (k.drop 0)) (sumP l + sumP (k.drop 0))))) :=
    Kit.hid (fun A' cap' w' h => by
      have := summed_any b A' (l ++ k) cap' w' h (wf_append hwf hwk) (by simp; omega) (by omega)
      rw [sumW_append, sumP_append, List.length_append] at this
      exact this)
  obtain ⟨W, hW⟩ : ∃ W, W = sumW l := ⟨_, rfl⟩
  obtain ⟨P, hP⟩ : ∃ P, P = sumP l := ⟨_, rfl⟩
  have hbd := sum_bd l
  rw [← hW, ← hP] at hbd
  have hbs : 0 ≤ W ∧ W ≤ 31457280 ∧ -32985348833280 ≤ P ∧ P ≤ 32985348833280 := by omega
  clear hbd
  have HSL : Hid (∀ w', Hid (Ones w' A l) → Calls Try.prog 11 #[.int .i64 b, .slice A l.length cap] w' (ValPost w' (mo b W P))) :=
    Kit.hid (fun w' h => by rw [hW, hP]; exact summed_any b A l cap w' h hwf (by omega) (by omega))
  rw [← hW, ← hP] at HS
  have HWE := Kit.hid hW
  have HPE := Kit.hid hP
  have HWK := Kit.hid hwk
  have HBS := Kit.hid hbs
  have HBB := Kit.hid hb
  have heq := cx_eql W P (by omega) (by omega)
  have hst := store_complex
  have hfl := field_any
  have hlen0 : l.length + k.length ≤ 60 := by omega
  clear hwf hwk hbs hW hP hb
  unfold mo at HS HSL
  go_enter Try.func6, Try.ntmps6
  go_wp2_with (first
    | (go_at_call 9; refine (HAW.out _).mono ?_; rintro e w1 ⟨rfl, hd1⟩
       have hsz1 := hd1.size
       have ho1 := ones_below ho hd1
       have hk1 := ones_below hk hd1
       have hown1 := World.ownsRow_lit (base := w.heap.size) (e := 31) (size := 3) w1 #[] 0 hsz1 (by decide) rfl)
    | (go_at_call 10; refine (HB.out _).mono ?_; rintro e w9 ⟨rfl, rfl⟩)
    | (at_builtin; (refine wpList_append_srcS rfl _ _ 22 rfl w.heap.size 31 (.agg #[.int .i32 0, .int .u32 0, .bool false]) 3 12 (by decide) Try.underlying22 infoOne rfl _ 0 _ rfl hown1 A l.length cap (flat l) rfl (flat_length l) (cells_of_ones (ones_below ho1 ((Below.refl _ _).alloc (Nat.le_refl _) _))) (flat_one l) (by unfold maxLen; omega) (by omega) (by simp; omega) ?_)
       intro v2 w2 hown2 hg2 _
       have hd2 := below_ownS (hd1.alloc hsz1 _) hown1 hg2 (by simp; omega)
       have hsz2 := hd2.size
       have hk2 := ones_below hk hd2
       rw [Nat.zero_add] at hown2)
    | (at_builtin; (refine wpList_append_srcS rfl _ _ 22 rfl w.heap.size 31 (.agg #[.int .i32 0, .int .u32 0, .bool false]) 3 12 (by decide) Try.underlying22 infoOne rfl _ _ _ rfl hown2 A2 k.length cap2 (flat k) rfl (flat_length k) (cells_of_ones hk2) (flat_one k) (by unfold maxLen; omega) (by omega) hsz2 ?_)
       intro v4 w4 hown4 hg4 _
       have hd4 := below_ownS hd2 hown2 hg4 hsz2
       have hsz4 := hd4.size
       obtain ⟨A4, cap4, rfl, hc4, _, _⟩ := own_readsS (by decide) hown4
       have hO4 : Hid (Ones w4 A4 (l ++ k)) := ones_of_cells (l := l ++ k) (by rw [flat_append]; simpa using hc4))
    | (go_at_call 11; refine (HS.out _ _ _ hO4).mono ?_; rintro e w5 ⟨rfl, hd5⟩))
  have hb5 := Kit.hid (hd4.trans (hd5.mono hsz4))
  have HM := Kit.hid (blk_new w5 (.cells #[.int .i64 b, .complex .f64 (fi (W + sumW (k.drop 0))) (fi (P + sumP (k.drop 0)))] 27))
  have HD := Kit.hid (hb5.out.alloc hb5.out.size (.cells #[.int .i64 b, .complex .f64 (fi (W + sumW (k.drop 0))) (fi (P + sumP (k.drop 0)))] 27))
  obtain ⟨g, hg⟩ : ∃ g, g = w5.heap.size := ⟨_, rfl⟩
  have HGW : Hid (w.heap.size ≤ g) := Kit.hid (by rw [hg]; exact hb5.out.size)
  rw [← hg] at HM ⊢
  clear hg hd1 hd2 hd4 hd5 hc4 hO4 hown1 hown2 hown4 hg2 hg4 ho1 hk1 hk2 hsz1 hsz2 hsz4
  go_loopw [10] (fun v10 wr => ∃ (i : Nat), i ≤ k.length ∧ v10 = .int .i64 i ∧ Hid (wr.heap[g]? = some (.cells #[.int .i64 b, .complex .f64 (fi (W + sumW (k.drop i))) (fi (P + sumP (k.drop i)))] 27 (0, 0))) ∧ Hid (Below w.heap.size w wr)) (fun i _ => k.length - (intOf i).toNat)
  case atStart => exact ⟨0, by omega, rfl, HM, HD⟩
  case round =>
    obtain ⟨i, hi, rfl, hm, hbw⟩ := hrel
    by_cases hlt : i < k.length
    · obtain ⟨ad, rfl, k0, k1, k2⟩ := (ones_below hk hbw.out).out i hlt
      rw [add_part ad (i * 3) 1 (by decide)] at k1
      rw [add_part ad (i * 3) 2 (by decide)] at k2
      have hwf := HWK.out k[i] (List.getElem_mem hlt)
      have hdr := List.drop_eq_getElem_cons hlt
      obtain ⟨o, hoo⟩ : ∃ o, o = k[i] := ⟨_, rfl⟩
      rw [← hoo] at k0 k1 k2 hwf hdr
      obtain ⟨W2, hW2⟩ : ∃ x, x = W + sumW (k.drop (i + 1)) := ⟨_, rfl⟩
      obtain ⟨P2, hP2⟩ : ∃ x, x = P + sumP (k.drop (i + 1)) := ⟨_, rfl⟩
      obtain ⟨Wi, hWi⟩ : ∃ x, x = W + sumW (k.drop i) := ⟨_, rfl⟩
      obtain ⟨Pi, hPi⟩ : ∃ x, x = P + sumP (k.drop i) := ⟨_, rfl⟩
      rw [← hWi, ← hPi] at hm
      have eW : Wi - o.wt = W2 := by rw [hWi, hW2, hdr, sumW]; omega
      have eP : Pi - o.wt * o.lag = P2 := by rw [hPi, hP2, hdr, sumP]; omega
      have hbd := sum_bd (k.drop i)
      have hbd2 := sum_bd (k.drop (i + 1))
      have hbs := HBS.out
      have hb := HBB.out
      have hl1 : (k.drop i).length ≤ 30 := by simp; omega
      have hl3 : (k.drop (i + 1)).length ≤ 30 := by simp; omega
      have ob := o.wt_bd
      have lb := o.lag_bd
      have mb := mul_bd o
      have HBY := Kit.hid (fun w' => by_any o hwf w')
      have HWT := Kit.hid (fun w' => wt_any o hwf w')
      have HTK : Hid (∀ w', Calls Try.prog 20 #[mo b Wi Pi, .int .i64 (b + o.lag), .int .i64 o.wt] w' (ValPost w' (mo b W2 P2))) :=
        Kit.hid (fun w' => by rw [← eW, ← eP]; exact take_any b Wi Pi (b + o.lag) o.wt o.lag w' (by omega) (by omega) ob.1 (by omega) (by rw [← Int.natAbs_mul]; omega) (by omega) (by omega) (by omega) (by omega))
      have r1 : IntKind.i64.wrap (b + o.lag) = b + o.lag := i64_in _ (by omega)
      have r2 : wrap64 (b + o.lag) = b + o.lag := by unfold wrap64; omega
      have HW2 := Kit.hid hW2
      have HP2 := Kit.hid hP2
      unfold One.val at HBY HWT
      unfold mo at HTK
      have hlt1 : (i : Int) < (k.length : Int) := by omega
      have hlt0 : (0 : Int) ≤ (i : Int) := by omega
      clear hWi hPi hW2 hP2 eW eP hbd hbd2 hbs hb ob lb mb hoo hwf hdr hl1 hl3
      obtain ⟨c0, c1, z0, z1, _, _⟩ := own_block hm.out (.int .i64 b)
      go_wp2
      refine wp_region_noPanic ?_
      refine wp_region_T (fun w' => w'.cell? ⟨g, 0, none⟩ = some (.int .i64 b) ∧ w'.cell? ⟨g, 1, none⟩ = some (.complex .f64 (fi Wi) (fi Pi)) ∧ w'.cell? (ad.add (i * 3)) = some (.int .i32 o.b) ∧ w'.cell? ⟨(ad.add (i * 3)).block, (ad.add (i * 3)).off + 1, none⟩ = some (.int .u32 o.w) ∧ w'.cell? ⟨(ad.add (i * 3)).block, (ad.add (i * 3)).off + 2, none⟩ = some (.bool o.out)) 14 (by kernel_rfl) ⟨c0, c1, k0, k1, k2⟩ (fun hHeld => ?_)
      refine wpAnyT_take (i := 0) (hi := by simp only [List.getElem?_toArray, List.getElem?_cons_succ, List.getElem?_cons_zero]; rfl) (v := ?_) (by kernel_rfl) (by kernel_rfl) (by kernel_rfl) (by kernel_rfl) (fun _ _ _ h => h) (Or.inl ⟨by rfl, ?_⟩) (by assumption) ?_
      rotate_left
      · (intro w hSw; (try dsimp only at hSw); go_simp; first | done | with_reducible rfl)
      try simp only [Act.put, List.setIfInBounds_toArray, List.set_cons_zero, List.set_cons_succ]
      refine wpAnyT_take (i := 1) (hi := by simp only [List.getElem?_toArray, List.getElem?_cons_succ, List.getElem?_cons_zero]; rfl) (v := ?_) (by kernel_rfl) (by kernel_rfl) (by kernel_rfl) (by kernel_rfl) (fun _ _ _ h => h) (Or.inl ⟨by rfl, ?_⟩) (by assumption) ?_
      rotate_left
      · (intro w hSw; (try dsimp only at hSw); go_simp; first | done | with_reducible rfl)
      try simp only [Act.put, List.setIfInBounds_toArray, List.set_cons_zero, List.set_cons_succ]
      refine wpAnyT_take (i := 2) (hi := by simp only [List.getElem?_toArray, List.getElem?_cons_succ, List.getElem?_cons_zero]; rfl) (v := ?_) (by kernel_rfl) (by kernel_rfl) (by kernel_rfl) (by kernel_rfl) (fun _ _ _ h => h) (Or.inl ⟨by rfl, ?_⟩) (by assumption) ?_
      rotate_left
      · (intro w hSw; (try dsimp only at hSw); go_simp; first | done | with_reducible rfl)
      try simp only [Act.put, List.setIfInBounds_toArray, List.set_cons_zero, List.set_cons_succ]
      refine wpAnyT_take (i := 3) (hi := by simp only [List.getElem?_toArray, List.getElem?_cons_succ, List.getElem?_cons_zero]; rfl) (v := ?_) (by kernel_rfl) (by kernel_rfl) (by kernel_rfl) (by kernel_rfl) (fun _ _ _ h => h) (Or.inl ⟨by rfl, ?_⟩) (by assumption) ?_
      rotate_left
      · (intro w hSw; (try dsimp only at hSw); go_simp; first | done | with_reducible rfl)
      try simp only [Act.put, List.setIfInBounds_toArray, List.set_cons_zero, List.set_cons_succ]
      refine wpAnyT_take (i := 4) (hi := by simp only [List.getElem?_toArray, List.getElem?_cons_succ, List.getElem?_cons_zero]; rfl) (v := ?_) (by kernel_rfl) (by kernel_rfl) (by kernel_rfl) (by kernel_rfl) (fun _ _ _ h => h) (Or.inl ⟨by rfl, ?_⟩) (by assumption) ?_
      rotate_left
      · (intro w hSw; (try dsimp only at hSw); go_simp; first | done | with_reducible rfl)
      try simp only [Act.put, List.setIfInBounds_toArray, List.set_cons_zero, List.set_cons_succ]
      refine wpAnyT_take (i := 5) (hi := by simp only [List.getElem?_toArray, List.getElem?_cons_succ, List.getElem?_cons_zero]; rfl) (v := ?_) (by kernel_rfl) (by kernel_rfl) (by kernel_rfl) (by kernel_rfl) (fun _ _ _ h => h) (Or.inl ⟨by rfl, ?_⟩) (by assumption) ?_
      rotate_left
      · (intro w hSw; (try dsimp only at hSw); go_simp; first | done | with_reducible rfl)
      try simp only [Act.put, List.setIfInBounds_toArray, List.set_cons_zero, List.set_cons_succ]
      refine wpAnyT_take (i := 8) (hi := by simp only [List.getElem?_toArray, List.getElem?_cons_succ, List.getElem?_cons_zero]; rfl) (v := ?_) (by kernel_rfl) (by kernel_rfl) (by kernel_rfl) (by kernel_rfl) (fun _ _ _ h => h) (Or.inl ⟨by rfl, ?_⟩) (by assumption) ?_
      rotate_left
      · (intro w hSw; (try dsimp only at hSw); go_simp; first | done | with_reducible rfl)
      try simp only [Act.put, List.setIfInBounds_toArray, List.set_cons_zero, List.set_cons_succ]
      refine wpAnyT_take (i := 9) (hi := by simp only [List.getElem?_toArray, List.getElem?_cons_succ, List.getElem?_cons_zero]; rfl) (v := ?_) (by kernel_rfl) (by kernel_rfl) (by kernel_rfl) (by kernel_rfl) (fun _ _ _ h => h) (Or.inl ⟨by rfl, ?_⟩) (by assumption) ?_
      rotate_left
      · (intro w hSw; (try dsimp only at hSw); go_simp; first | done | with_reducible rfl)
      try simp only [Act.put, List.setIfInBounds_toArray, List.set_cons_zero, List.set_cons_succ]
      refine wpAnyT_take (i := 10) (hi := by simp only [List.getElem?_toArray, List.getElem?_cons_succ, List.getElem?_cons_zero]; rfl) (v := ?_) (by kernel_rfl) (by kernel_rfl) (by kernel_rfl) (by kernel_rfl) (fun _ _ _ h => h) (Or.inl ⟨by rfl, ?_⟩) (by assumption) ?_
      rotate_left
      · (intro w hSw; (try dsimp only at hSw); go_simp; first | done | with_reducible rfl)
      try simp only [Act.put, List.setIfInBounds_toArray, List.set_cons_zero, List.set_cons_succ]
      refine wpAnyT_take (i := 11) (hi := by simp only [List.getElem?_toArray, List.getElem?_cons_succ, List.getElem?_cons_zero]; rfl) (v := ?_) (by kernel_rfl) (by kernel_rfl) (by kernel_rfl) (by kernel_rfl) (fun _ _ _ h => h) (Or.inl ⟨by rfl, ?_⟩) (by assumption) ?_
      rotate_left
      · (intro w hSw; (try dsimp only at hSw); go_simp; first | done | with_reducible rfl)
      try simp only [Act.put, List.setIfInBounds_toArray, List.set_cons_zero, List.set_cons_succ]
      refine wpAnyT_step (i := 6) (by kernel_rfl) (ho := by simp only [List.getElem?_toArray, List.getElem?_cons_succ, List.getElem?_cons_zero]; rfl) (fun K hK => ?_)
      go_simp
      first
        | (go_at_call 13; refine (HBY.out _).mono ?_; rintro e w2 ⟨rfl, hd2⟩; have hM2 := Kit.hid (blk_below (w := wr.drew) hm.out hd2); have hB2 := hid_below (Kit.hid hbw.out.drew) hd2)
        | (go_at_call 12; refine (HWT.out _).mono ?_; rintro e w2 ⟨rfl, hd2⟩; have hM2 := Kit.hid (blk_below hM2.out hd2); have hB2 := hid_below hB2 hd2)
        | (go_at_call 20; refine (HTK.out _).mono ?_; rintro e w2 ⟨rfl, hd2⟩; have hM2 := Kit.hid (blk_below hM2.out hd2); have hB2 := hid_below hB2 hd2; obtain ⟨c0, c1, z0, z1, _, z2⟩ := own_block hM2.out (.int .i64 b); obtain ⟨d0, d1, y0, y1, d2, y2⟩ := own_block hM2.out (.int .i64 b))
      go_wp2_with fail
      refine hK.out _ _ ?_ (fun hHeld => ?_)
      · ((try dsimp only); go_split_ands; exact ⟨(hd2.cell (cell_lt (by assumption))).trans (by assumption), (hd2.cell (cell_lt (by assumption))).trans (by assumption), (hd2.cell (cell_lt (by assumption))).trans (by assumption), (hd2.cell (cell_lt (by assumption))).trans (by assumption), (hd2.cell (cell_lt (by assumption))).trans (by assumption)⟩)
      clear hK K
      try simp only [Act.put, List.setIfInBounds_toArray, List.set_cons_zero, List.set_cons_succ]
      refine wpAnyT_take (i := 7) (hi := by simp only [List.getElem?_toArray, List.getElem?_cons_succ, List.getElem?_cons_zero]; rfl) (v := ?_) (by kernel_rfl) (by kernel_rfl) (by kernel_rfl) (by kernel_rfl) (fun _ _ _ h => h) (Or.inl ⟨by rfl, ?_⟩) (by assumption) ?_
      rotate_left
      · (intro w hSw; (try dsimp only at hSw); go_simp; first | done | with_reducible rfl)
      try simp only [Act.put, List.setIfInBounds_toArray, List.set_cons_zero, List.set_cons_succ]
      refine wpAnyT_step (i := 12) (by kernel_rfl) (ho := by simp only [List.getElem?_toArray, List.getElem?_cons_succ, List.getElem?_cons_zero]; rfl) (fun K hK => ?_)
      go_simp
      first
        | (go_at_call 13; refine (HBY.out _).mono ?_; rintro e w2 ⟨rfl, hd2⟩; have hM2 := Kit.hid (blk_below (w := wr.drew) hm.out hd2); have hB2 := hid_below (Kit.hid hbw.out.drew) hd2)
        | (go_at_call 12; refine (HWT.out _).mono ?_; rintro e w2 ⟨rfl, hd2⟩; have hM2 := Kit.hid (blk_below hM2.out hd2); have hB2 := hid_below hB2 hd2)
        | (go_at_call 20; refine (HTK.out _).mono ?_; rintro e w2 ⟨rfl, hd2⟩; have hM2 := Kit.hid (blk_below hM2.out hd2); have hB2 := hid_below hB2 hd2; obtain ⟨c0, c1, z0, z1, _, z2⟩ := own_block hM2.out (.int .i64 b); obtain ⟨d0, d1, y0, y1, d2, y2⟩ := own_block hM2.out (.int .i64 b))
      go_wp2_with fail
      refine hK.out _ _ ?_ (fun hHeld => ?_)
      · ((try dsimp only); go_split_ands; exact ⟨(hd2.cell (cell_lt (by assumption))).trans (by assumption), (hd2.cell (cell_lt (by assumption))).trans (by assumption), (hd2.cell (cell_lt (by assumption))).trans (by assumption), (hd2.cell (cell_lt (by assumption))).trans (by assumption), (hd2.cell (cell_lt (by assumption))).trans (by assumption)⟩)
      clear hK K
      try simp only [Act.put, List.setIfInBounds_toArray, List.set_cons_zero, List.set_cons_succ]
      refine wpAnyT_step (i := 13) (by kernel_rfl) (ho := by simp only [List.getElem?_toArray, List.getElem?_cons_succ, List.getElem?_cons_zero]; rfl) (fun K hK => ?_)
      go_simp
      first
        | (go_at_call 13; refine (HBY.out _).mono ?_; rintro e w2 ⟨rfl, hd2⟩; have hM2 := Kit.hid (blk_below (w := wr.drew) hm.out hd2); have hB2 := hid_below (Kit.hid hbw.out.drew) hd2)
        | (go_at_call 12; refine (HWT.out _).mono ?_; rintro e w2 ⟨rfl, hd2⟩; have hM2 := Kit.hid (blk_below hM2.out hd2); have hB2 := hid_below hB2 hd2)
        | (go_at_call 20; refine (HTK.out _).mono ?_; rintro e w2 ⟨rfl, hd2⟩; have hM2 := Kit.hid (blk_below hM2.out hd2); have hB2 := hid_below hB2 hd2; obtain ⟨c0, c1, z0, z1, _, z2⟩ := own_block hM2.out (.int .i64 b); obtain ⟨d0, d1, y0, y1, d2, y2⟩ := own_block hM2.out (.int .i64 b))
      go_wp2_with fail
      refine hK.out _ _ ?_ (fun hHeld => ?_)
      · ((try dsimp only); go_split_ands; exact ⟨(hd2.cell (cell_lt (by assumption))).trans (by assumption), (hd2.cell (cell_lt (by assumption))).trans (by assumption), (hd2.cell (cell_lt (by assumption))).trans (by assumption), (hd2.cell (cell_lt (by assumption))).trans (by assumption), (hd2.cell (cell_lt (by assumption))).trans (by assumption)⟩)
      clear hK K
      try simp only [Act.put, List.setIfInBounds_toArray, List.set_cons_zero, List.set_cons_succ]
      refine wpAnyT_last (by kernel_rfl) (ho := by simp only [List.getElem?_toArray, List.getElem?_cons_succ, List.getElem?_cons_zero]; rfl) (fun K hK => ?_)
      go_simp
      go_wp2_with fail
      refine hK.out _ _ ?_
      clear hK K
      try simp only [Act.put, List.setIfInBounds_toArray, List.set_cons_zero, List.set_cons_succ]
      refine wpAnyT_done (by kernel_rfl) ?_ _
      refine NoPanic.normal ?_
      go_wp2_with fail
      obtain ⟨_, _, hm5⟩ := own_done hM2.out (.int .i64 b) (.complex .f64 (fi W2) (fi P2))
      have HM5 := Kit.hid hm5
      have HB5 := Kit.hid ((hB2.out.setCell (p := ⟨g, 0, none⟩) HGW.out (.int .i64 b)).setCell (p := ⟨g, 1, none⟩) HGW.out (.complex .f64 (fi W2) (fi P2)))
      rw [HW2.out, HP2.out] at HM5 HB5 ⊢
      clear hm5
      go_roundw
      case rel => exact ⟨i + 1, by omega, by go_num, HM5, HB5⟩
      case measure => simp [intOf]; omega
    · obtain rfl : i = k.length := by omega
      rw [List.drop_length] at hm
      have eW : W + sumW [] = W := Int.add_zero W
      have eP : P + sumP [] = P := Int.add_zero P
      rw [eW, eP] at hm
      clear eW eP
      obtain ⟨c0, c1, _, _, _, _⟩ := own_block hm.out (.int .i64 b)
      go_wp2_with fail
      refine wp_region_noPanic ?_
      refine wp_region_held_drew (S := fun w' => w'.cell? ⟨g, 0, none⟩ = some (.int .i64 b) ∧ w'.cell? ⟨g, 1, none⟩ = some (.complex .f64 (fi W) (fi P))) (by kernel_rfl) ⟨c0, c1⟩ (fun hHeld => ?_)
      refine wpAnyH_take (i := 0) (hi := by simp only [List.getElem?_toArray, List.getElem?_cons_succ, List.getElem?_cons_zero]; rfl) (v := ?_) (by kernel_rfl) (by kernel_rfl) (by kernel_rfl) (fun _ _ _ h => h) (Or.inl ⟨by rfl, ?_⟩) (by assumption) ?_
      rotate_left
      · (intro w hSw; (try dsimp only at hSw); go_simp; first | done | with_reducible rfl)
      try simp only [Act.put, List.setIfInBounds_toArray, List.set_cons_zero, List.set_cons_succ]
      refine wpAnyH_take (i := 1) (hi := by simp only [List.getElem?_toArray, List.getElem?_cons_succ, List.getElem?_cons_zero]; rfl) (v := ?_) (by kernel_rfl) (by kernel_rfl) (by kernel_rfl) (fun _ _ _ h => h) (Or.inl ⟨by rfl, ?_⟩) (by assumption) ?_
      rotate_left
      · (intro w hSw; (try dsimp only at hSw); go_simp; first | done | with_reducible rfl)
      try simp only [Act.put, List.setIfInBounds_toArray, List.set_cons_zero, List.set_cons_succ]
      refine wpAnyH_take (i := 2) (hi := by simp only [List.getElem?_toArray, List.getElem?_cons_succ, List.getElem?_cons_zero]; rfl) (v := ?_) (by kernel_rfl) (by kernel_rfl) (by kernel_rfl) (fun _ _ _ h => h) (Or.inl ⟨by rfl, ?_⟩) (by assumption) ?_
      rotate_left
      · (intro w hSw; (try dsimp only at hSw); go_simp; first | done | with_reducible rfl)
      try simp only [Act.put, List.setIfInBounds_toArray, List.set_cons_zero, List.set_cons_succ]
      refine wpAnyH_take (i := 3) (hi := by simp only [List.getElem?_toArray, List.getElem?_cons_succ, List.getElem?_cons_zero]; rfl) (v := ?_) (by kernel_rfl) (by kernel_rfl) (by kernel_rfl) (fun _ _ _ h => h) (Or.inl ⟨by rfl, ?_⟩) (by assumption) ?_
      rotate_left
      · (intro w hSw; (try dsimp only at hSw); go_simp; first | done | with_reducible rfl)
      try simp only [Act.put, List.setIfInBounds_toArray, List.set_cons_zero, List.set_cons_succ]
      refine wpAnyH_take (i := 4) (hi := by simp only [List.getElem?_toArray, List.getElem?_cons_succ, List.getElem?_cons_zero]; rfl) (v := ?_) (by kernel_rfl) (by kernel_rfl) (by kernel_rfl) (fun _ _ _ h => h) (Or.inl ⟨by rfl, ?_⟩) (by assumption) ?_
      rotate_left
      · (intro w hSw; (try dsimp only at hSw); go_simp; first | done | with_reducible rfl)
      try simp only [Act.put, List.setIfInBounds_toArray, List.set_cons_zero, List.set_cons_succ]
      refine wpAnyH_take (i := 5) (hi := by simp only [List.getElem?_toArray, List.getElem?_cons_succ, List.getElem?_cons_zero]; rfl) (v := ?_) (by kernel_rfl) (by kernel_rfl) (by kernel_rfl) (fun _ _ _ h => h) (Or.inl ⟨by rfl, ?_⟩) (by assumption) ?_
      rotate_left
      · (intro w hSw; (try dsimp only at hSw); go_simp; first | done | with_reducible rfl)
      try simp only [Act.put, List.setIfInBounds_toArray, List.set_cons_zero, List.set_cons_succ]
      refine wpAnyH_ready (rs := [6]) (by kernel_rfl) (by simp) ?_
      refine AllReadyH.cons (ho := by simp only [List.getElem?_toArray, List.getElem?_cons_succ, List.getElem?_cons_zero]; rfl) (fun K hK => ?_) AllReadyH.nil
      go_simp
      go_at_call 11; refine (HSL.out _ (ones_below (ones_below ho hbw.out.drew) (Below.refl _ _))).mono ?_; rintro e w2 ⟨rfl, hd2⟩; have hB2 := hid_below (Kit.hid hbw.out.drew) hd2
      go_wp2_with fail
      refine hK.out _ _ ?_ (fun hHeld => ?_)
      · ((try dsimp only); go_split_ands; exact ⟨(hd2.cell (cell_lt (by assumption))).trans (by assumption), (hd2.cell (cell_lt (by assumption))).trans (by assumption)⟩)
      clear hK K
      try simp only [Act.put, List.setIfInBounds_toArray, List.set_cons_zero, List.set_cons_succ]
      refine wpAnyH_take (i := 7) (hi := by simp only [List.getElem?_toArray, List.getElem?_cons_succ, List.getElem?_cons_zero]; rfl) (v := ?_) (by kernel_rfl) (by kernel_rfl) (by kernel_rfl) (fun _ _ _ h => h) (Or.inl ⟨by rfl, ?_⟩) (by assumption) ?_
      rotate_left
      · (intro w hSw; (try dsimp only at hSw); go_simp; first | done | with_reducible rfl)
      try simp only [Act.put, List.setIfInBounds_toArray, List.set_cons_zero, List.set_cons_succ]
      refine wpAnyH_take (i := 8) (hi := by simp only [List.getElem?_toArray, List.getElem?_cons_succ, List.getElem?_cons_zero]; rfl) (v := ?_) (by kernel_rfl) (by kernel_rfl) (by kernel_rfl) (fun _ _ _ h => h) (Or.inl ⟨by rfl, ?_⟩) (by assumption) ?_
      rotate_left
      · (intro w hSw; (try dsimp only at hSw); go_simp; first | done | with_reducible rfl)
      try simp only [Act.put, List.setIfInBounds_toArray, List.set_cons_zero, List.set_cons_succ]
      refine wpAnyH_take (i := 9) (hi := by simp only [List.getElem?_toArray, List.getElem?_cons_succ, List.getElem?_cons_zero]; rfl) (v := ?_) (by kernel_rfl) (by kernel_rfl) (by kernel_rfl) (fun _ _ _ h => h) (Or.inl ⟨by rfl, ?_⟩) (by assumption) ?_
      rotate_left
      · (intro w hSw; (try dsimp only at hSw); go_simp; first | done | with_reducible rfl)
      try simp only [Act.put, List.setIfInBounds_toArray, List.set_cons_zero, List.set_cons_succ]
      refine wpAnyH_take (i := 10) (hi := by simp only [List.getElem?_toArray, List.getElem?_cons_succ, List.getElem?_cons_zero]; rfl) (v := ?_) (by kernel_rfl) (by kernel_rfl) (by kernel_rfl) (fun _ _ _ h => h) (Or.inl ⟨by rfl, ?_⟩) (by assumption) ?_
      rotate_left
      · (intro w hSw; (try dsimp only at hSw); go_simp; first | done | with_reducible rfl)
      try simp only [Act.put, List.setIfInBounds_toArray, List.set_cons_zero, List.set_cons_succ]
      refine wpAnyH_take (i := 11) (hi := by simp only [List.getElem?_toArray, List.getElem?_cons_succ, List.getElem?_cons_zero]; rfl) (v := ?_) (by kernel_rfl) (by kernel_rfl) (by kernel_rfl) (fun _ _ _ h => h) (Or.inl ⟨by rfl, ?_⟩) (by assumption) ?_
      rotate_left
      · (intro w hSw; (try dsimp only at hSw); go_simp; first | done | with_reducible rfl)
      try simp only [Act.put, List.setIfInBounds_toArray, List.set_cons_zero, List.set_cons_succ]
      refine wpAnyH_take (i := 12) (hi := by simp only [List.getElem?_toArray, List.getElem?_cons_succ, List.getElem?_cons_zero]; rfl) (v := ?_) (by kernel_rfl) (by kernel_rfl) (by kernel_rfl) (fun _ _ _ h => h) (Or.inl ⟨by rfl, ?_⟩) (by assumption) ?_
      rotate_left
      · (intro w hSw; (try dsimp only at hSw); go_simp; first | done | with_reducible rfl)
      try simp only [Act.put, List.setIfInBounds_toArray, List.set_cons_zero, List.set_cons_succ]
      refine wpAnyH_take (i := 13) (hi := by simp only [List.getElem?_toArray, List.getElem?_cons_succ, List.getElem?_cons_zero]; rfl) (v := ?_) (by kernel_rfl) (by kernel_rfl) (by kernel_rfl) (fun _ _ _ h => h) (Or.inl ⟨by rfl, ?_⟩) (by assumption) ?_
      rotate_left
      · (intro w hSw; (try dsimp only at hSw); go_simp; first | done | with_reducible rfl)
      try simp only [Act.put, List.setIfInBounds_toArray, List.set_cons_zero, List.set_cons_succ]
      refine wpAnyH_take (i := 14) (hi := by simp only [List.getElem?_toArray, List.getElem?_cons_succ, List.getElem?_cons_zero]; rfl) (v := ?_) (by kernel_rfl) (by kernel_rfl) (by kernel_rfl) (fun _ _ _ h => h) (Or.inl ⟨by rfl, ?_⟩) (by assumption) ?_
      rotate_left
      · (intro w hSw; (try dsimp only at hSw); go_simp; first | done | with_reducible rfl)
      try simp only [Act.put, List.setIfInBounds_toArray, List.set_cons_zero, List.set_cons_succ]
      refine wpAnyH_take (i := 15) (hi := by simp only [List.getElem?_toArray, List.getElem?_cons_succ, List.getElem?_cons_zero]; rfl) (v := ?_) (by kernel_rfl) (by kernel_rfl) (by kernel_rfl) (fun _ _ _ h => h) (Or.inl ⟨by rfl, ?_⟩) (by assumption) ?_
      rotate_left
      · (intro w hSw; (try dsimp only at hSw); go_simp; first | done | with_reducible rfl)
      try simp only [Act.put, List.setIfInBounds_toArray, List.set_cons_zero, List.set_cons_succ]
      refine wpAnyH_take (i := 16) (hi := by simp only [List.getElem?_toArray, List.getElem?_cons_succ, List.getElem?_cons_zero]; rfl) (v := ?_) (by kernel_rfl) (by kernel_rfl) (by kernel_rfl) (fun _ _ _ h => h) (Or.inl ⟨by rfl, ?_⟩) (by assumption) ?_
      rotate_left
      · (intro w hSw; (try dsimp only at hSw); go_simp; first | done | with_reducible rfl)
      try simp only [Act.put, List.setIfInBounds_toArray, List.set_cons_zero, List.set_cons_succ]
      refine wpAnyH_done (by kernel_rfl) ?_ _
      refine NoPanic.normal ?_
      go_wp2_with fail
      go_ret
      exact ⟨by simp, hB2.out⟩
end Go.Proofs.Ytjddoohlmgacjaa.Mo
