/- The queue's Mean, and the law QueueMean. -/
import Derived.Test.YtggcbeoinmnopaaQuU
import Derived.Test.YtggcbeoinmnopaaMoB
import Derived.Test.YtggcbeoinmnopaaHeldT
namespace Go.Proofs.Ytggcbeoinmnopaa.QuM
open Go.Proofs.Ytggcbeoinmnopaa.ShM
def sumWq : List Mem → Int
  | [] => 0
  | m :: l => m.wt + sumWq l
def sumPq (b : Int) : List Mem → Int
  | [] => 0
  | m :: l => m.wt * (m.v - b) + sumPq b l
theorem sumWq_snoc : ∀ (l : List Mem) (m : Mem), sumWq (l ++ [m]) = sumWq l + m.wt
  | [], m => by simp [sumWq]
  | x :: l, m => by simp only [List.cons_append, sumWq, sumWq_snoc l m]; omega
theorem sumPq_snoc (b : Int) : ∀ (l : List Mem) (m : Mem), sumPq b (l ++ [m]) = sumPq b l + m.wt * (m.v - b)
  | [], m => by simp [sumPq]
  | x :: l, m => by simp only [List.cons_append, sumPq, sumPq_snoc b l m]; omega
def farQ (b : Int) (L : List Mem) : Bool := L.any fun m => decide (1048576 < m.v - b)
/-- What Mean answers. -/
def meanQ (L : List Mem) (b : Int) : Int × Bool := if farQ b L = true then (0, false) else if L = [] then (0, false) else (b + sumPq b L / sumWq L, true)
theorem near_mul {a c : Int} (h1 : 1 ≤ a) (h2 : a ≤ 1048576) (h3 : 0 ≤ c) (h4 : c ≤ 1048576) : 0 ≤ a * c ∧ a * c ≤ 1099511627776 :=
  ⟨Int.mul_nonneg (by omega) h3, Int.le_trans (Int.mul_le_mul_of_nonneg_right h2 h3) (by omega)⟩
theorem sums_bd {b : Int} : ∀ {l : List Mem}, (∀ m ∈ l, 1 ≤ m.wt ∧ m.wt ≤ 1048576 ∧ 0 ≤ m.v - b ∧ m.v - b ≤ 1048576) → (l.length : Int) ≤ sumWq l ∧ sumWq l ≤ 1048576 * (l.length : Int) ∧ 0 ≤ sumPq b l ∧ sumPq b l ≤ 1099511627776 * (l.length : Int)
  | [], _ => by simp [sumWq, sumPq]
  | m :: l, h => by
    obtain ⟨h1, h2, h3, h4⟩ := sums_bd (l := l) fun x hx => h x (List.mem_cons_of_mem _ hx)
    obtain ⟨k1, k2, k3, k4⟩ := h m (by simp)
    have := near_mul k1 k2 k3 k4
    simp only [sumWq, sumPq, List.length_cons]
    omega
theorem sum_ge {b k : Int} : ∀ {l : List Mem}, (∀ m ∈ l, 1 ≤ m.wt ∧ k ≤ m.v - b) → k * sumWq l ≤ sumPq b l
  | [], _ => by simp [sumWq, sumPq]
  | m :: l, h => by
    have h1 := sum_ge (l := l) fun x hx => h x (List.mem_cons_of_mem _ hx)
    obtain ⟨k1, k2⟩ := h m (by simp)
    have h2 : m.wt * k ≤ m.wt * (m.v - b) := Int.mul_le_mul_of_nonneg_left k2 (by omega)
    simp only [sumWq, sumPq]
    rw [Int.mul_add, Int.mul_comm k m.wt]
    omega
theorem sum_le {b k : Int} : ∀ {l : List Mem}, (∀ m ∈ l, 1 ≤ m.wt ∧ m.v - b ≤ k) → sumPq b l ≤ k * sumWq l
  | [], _ => by simp [sumWq, sumPq]
  | m :: l, h => by
    have h1 := sum_le (l := l) fun x hx => h x (List.mem_cons_of_mem _ hx)
    obtain ⟨k1, k2⟩ := h m (by simp)
    have h2 : m.wt * (m.v - b) ≤ m.wt * k := Int.mul_le_mul_of_nonneg_left k2 (by omega)
    simp only [sumWq, sumPq]
    rw [Int.mul_add, Int.mul_comm k m.wt]
    omega
theorem far_no {b : Int} {L : List Mem} (h : ¬ farQ b L = true) : ∀ m ∈ L, m.v - b ≤ 1048576 := fun m hm => by
  apply Int.not_lt.1
  intro hc
  exact h (List.any_eq_true.2 ⟨m, hm, decide_eq_true hc⟩)
theorem wq_le {L : List Mem} (h : WQ L) {i j : Nat} {y z : Mem} (hij : i ≤ j) (hy : L[i]? = some y) (hz : L[j]? = some z) : y.v ≤ z.v := by
  by_cases e : i = j
  · subst e; rw [hy] at hz; cases hz; exact Int.le_refl _
  obtain ⟨a, rfl⟩ := List.getElem?_eq_some_iff.1 hy
  obtain ⟨c, rfl⟩ := List.getElem?_eq_some_iff.1 hz
  have := List.pairwise_iff_getElem.1 h.rises i j (by simpa using a) (by simpa using c) (by omega)
  rw [less_iff] at this
  have h2 : L[i].v < L[j].v ∨ (L[i].v = L[j].v ∧ L[i].id < L[j].id) := by simpa [Mem.it] using this
  omega
theorem mean_between {L : List Mem} {b : Int} (hw : WQ L) (hq : QB L b) {y z : Mem} (hy : L[0]? = some y) (hz : L[L.length - 1]? = some z) (hf : ¬ farQ b L = true) :
    y.v ≤ b + sumPq b L / sumWq L ∧ b + sumPq b L / sumWq L ≤ z.v := by
  have hbd := sums_bd (b := b) (l := L) fun m hm => by have := hq.each m hm; have := far_no hf m hm; omega
  have hpos : 0 < L.length := by obtain ⟨a, _⟩ := List.getElem?_eq_some_iff.1 hy; omega
  have h1 : (y.v - b) * sumWq L ≤ sumPq b L := sum_ge fun m hm => by
    have := hq.each m hm
    obtain ⟨i, hi⟩ := List.mem_iff_getElem?.1 hm
    have := wq_le hw (Nat.zero_le i) hy hi
    omega
  have h2 : sumPq b L ≤ (z.v - b) * sumWq L := sum_le fun m hm => by
    have := hq.each m hm
    obtain ⟨i, hi⟩ := List.mem_iff_getElem?.1 hm
    obtain ⟨a, _⟩ := List.getElem?_eq_some_iff.1 hi
    have := wq_le hw (show i ≤ L.length - 1 by omega) hi hz
    omega
  have h3 : y.v - b ≤ sumPq b L / sumWq L := Int.le_ediv_of_mul_le (by omega) h1
  have h4 : sumPq b L / sumWq L ≤ z.v - b := Int.ediv_le_of_le_mul (by omega) h2
  omega
end Go.Proofs.Ytggcbeoinmnopaa.QuM
namespace Go.Proofs.Ytggcbeoinmnopaa.Qu
open Go.RowKit Go.Proofs.Ytggcbeoinmnopaa.Kit Go.Proofs.Ytggcbeoinmnopaa.ShM Go.Proofs.Ytggcbeoinmnopaa.Sh Go.Proofs.Ytggcbeoinmnopaa.QuM Go.Proofs.Ytggcbeoinmnopaa.Mo Go.Proofs.Ytggcbeoinmnopaa.Flo
set_option linter.unusedVariables false
set_option linter.unusedSimpArgs false
theorem tget (b : Int) (L : List Mem) (i : Nat) (m : Mem) (h : L[i]? = some m) : (told b L)[i]? = some { m with v := m.v - b } := by
  unfold told
  rw [List.getElem?_map, h]
  rfl
set_option maxRecDepth 8000 in
set_option maxHeartbeats 4000000 in
theorem qmean_any {F : Nat → Prop} {w : World} {p n : Nat} {L : List Mem} {base : Int} (h : QF F w p L base n) (hq : QB L base) (hn : n ≤ 100) :
    Calls Try.prog 23 #[.pointer (some ⟨p, 0, none⟩)] w fun e w' => e = .returned (.tuple #[.int .i64 (meanQ L base).1, .bool (meanQ L base).2]) ∧ Below w.heap.size w w' := by
  have HQF := Kit.hid h
  have HQB := Kit.hid hq
  have hb0 := hq.b0
  have hb1 := hq.b1
  have HLL : Hid (L.length ≤ 100) := Kit.hid (by have := h.len; omega)
  obtain ⟨mb, g0, hp⟩ := h.blk
  have HN := Kit.hid (fun w' => Mo.new_any base w')
  have HPB : Hid (∀ w', Below w.heap.size w w' → w'.cell? ⟨p, 2, none⟩ = some (.int .i64 base)) := Kit.hid (fun w' hb => blk_cell (blk_below hp hb) 2)
  have HPL := Kit.hid (blk_lt hp)
  have x2 := HPB.out w (Below.refl _ _)
  have HBN : Hid (-2305843009213693952 ≤ base ∧ base ≤ 2305843009213693952) := Kit.hid (by omega)
  clear h hq hp hb0 hb1
  go_enter Try.func23, Try.ntmps23
  go_wp2_with fail
  (with_reducible refine (HN.out w).mono ?_); rintro e w1 ⟨rfl, hd1⟩
  obtain ⟨gm, hgm⟩ : ∃ gm, gm = w1.heap.size := ⟨_, rfl⟩
  obtain ⟨w2, hw2⟩ : ∃ w2, w2 = w1.alloc (.cells #[.int .i64 base, .complex .f64 (fi 0) (fi 0)] 86) := ⟨_, rfl⟩
  have HB2 : Hid (Below w.heap.size w w2) := Kit.hid (by rw [hw2]; exact hd1.alloc hd1.size _)
  have HM2 : Hid (w2.heap[gm]? = some (.cells #[.int .i64 base, .complex .f64 (fi 0) (fi 0)] 86 (0, 0))) := Kit.hid (by rw [hw2, hgm]; exact blk_new _ _)
  have HG : Hid (w.heap.size ≤ gm) := Kit.hid (by rw [hgm]; exact hd1.size)
  have HQ2 := Kit.hid (HQF.out.below HB2.out)
  have HAL := Kit.hid (qall_any HQ2.out HQB.out (by omega))
  unfold mo
  clear x2 hd1
  have hst := store_complex
  go_wp2_with fail
  rw [← hgm, ← hw2]
  clear hgm hw2
  (with_reducible refine HAL.out.mono ?_); rintro e w3 ⟨va, rfl, hva, hb3⟩
  obtain ⟨A3, c3, rfl, hc3, _, hA3⟩ := own_readsS (by decide) hva
  have HRA := trow_cells hc3
  have HB3 := Kit.hid (HB2.out.trans (hb3.mono HB2.out.size))
  have HM3 := Kit.hid (blk_below HM2.out hb3)
  have HNE : Hid (∀ x, A3 = some x → x.block ≠ gm) := Kit.hid (fun x e => by
    rcases hA3 with ⟨h0, _⟩ | ⟨g', h0, h1, h2⟩
    · rw [h0] at e; cases e
    · rw [h0] at e; cases e; have := blk_lt HM2.out; show g' ≠ gm; omega)
  clear hva hc3 hb3 hA3 HAL HM2
  have hll := HLL.out
  go_wp2_with fail
  go_loopw [5, 16] (fun v5 v16 wr => ∃ (i : Nat) (W P : Int), i ≤ L.length ∧ v16 = .int .i64 i ∧ v5 = .int .i64 W ∧ Hid (W = sumWq (L.take i)) ∧ Hid (P = sumPq base (L.take i)) ∧ Hid (∀ m ∈ L.take i, m.v - base ≤ 1048576) ∧ Hid (Below w.heap.size w wr) ∧ Hid (TRow wr A3 (told base L)) ∧ Hid (wr.heap[gm]? = some (.cells #[.int .i64 base, .complex .f64 (fi W) (fi P)] 86 (0, 0)))) (fun _ i _ => L.length - (intOf i).toNat)
  case atStart => exact ⟨0, 0, 0, by omega, rfl, rfl, rfl, rfl, Kit.hid (fun m h => by cases h), HB3, HRA, HM3⟩
  case round =>
    obtain ⟨i, W, P, hi, rfl, rfl, HW, HP, HNR, HB, HR, HM⟩ := hrel
    have hbd := sums_bd (b := base) (l := L.take i) fun m hm => by
      have := HQB.out.each m (List.mem_of_mem_take hm)
      have := HNR.out m hm
      omega
    rw [List.length_take, Nat.min_eq_left hi, ← HW.out, ← HP.out] at hbd
    obtain ⟨hbd1, hbd2, hbd3, hbd4⟩ := hbd
    by_cases hlt : i < L.length
    · obtain ⟨z, hz⟩ : ∃ z, L[i]? = some z := ⟨_, List.getElem?_eq_getElem hlt⟩
      obtain ⟨ax, hax, p0, p1, p2, p3⟩ := t_at HR (tget base L i z hz)
      subst hax
      dsimp only at p0 p1 p2 p3
      have hzb := HQB.out.each z (List.mem_of_getElem? hz)
      have hb0 := HQB.out.b0
      obtain ⟨z1, z2, z3, z4, z5, z6, z7, z8⟩ := hzb
      obtain ⟨lv, hlv⟩ : ∃ lv, lv = z.v - base := ⟨_, rfl⟩
      rw [← hlv] at p2
      have HZ := Kit.hid hz
      have HLV := Kit.hid hlv
      have hT : L.take (i + 1) = L.take i ++ [z] := by
        obtain ⟨a, rfl⟩ := List.getElem?_eq_some_iff.1 hz
        exact List.take_succ_eq_append_getElem a
      have HT := Kit.hid hT
      have hax : ax.block ≠ gm := HNE.out ax rfl
      by_cases hfar : 1048576 < lv
      · have g1 : decide (1048576 < lv) = true := decide_eq_true hfar
        have HMQ : Hid (meanQ L base = (0, false)) := Kit.hid (by
          unfold meanQ
          rw [if_pos (show farQ base L = true from List.any_eq_true.2 ⟨z, List.mem_of_getElem? hz, decide_eq_true (by omega)⟩)])
        have HE := Kit.hid (HB.out.alloc HB.out.size (.cells #[.int .i64 z.id, .int .i64 z.wt, .int .i64 lv, .int .i64 z.rem] 32))
        clear hT hz hlv z7 z8
        go_wp2_with fail
        go_ret2
        rw [HMQ.out]
        exact ⟨rfl, HE.out⟩
      · have g1 : decide (1048576 < lv) = false := decide_eq_false hfar
        have g2 : decide (4294967296 < W + z.wt) = false := decide_eq_false (by omega)
        have hd := near_mul z3 z4 (show 0 ≤ lv by omega) (Int.not_lt.1 hfar)
        have HAD : Hid (∀ w', Calls Try.prog 43 #[.agg #[.int .i64 base, .complex .f64 (fi W) (fi P)], .int .i64 z.v, .int .i64 z.wt] w' (ValPost w' (.agg #[.int .i64 base, .complex .f64 (fi (W + z.wt)) (fi (P + z.wt * lv))]))) :=
          Kit.hid (fun w' => add_any base W P z.v z.wt lv w' (by omega) (by omega) (by omega) (by omega) (by rw [← Int.natAbs_mul]; omega) (by omega) (by omega) (by omega) (by omega))
        have r1 : IntKind.i64.wrap (base + lv) = z.v := by rw [IntKind.wrap_i64]; omega
        obtain ⟨wy, hwy⟩ : ∃ wy, wy = wr.alloc (.cells #[.int .i64 z.id, .int .i64 z.wt, .int .i64 lv, .int .i64 z.rem] 32) := ⟨_, rfl⟩
        have hby : Below wr.heap.size wr wy := by rw [hwy]; exact (Below.refl _ _).alloc (Nat.le_refl _) _
        have HBY := Kit.hid (HB.out.trans (hby.mono HB.out.size))
        have HMY := Kit.hid (blk_below HM.out hby)
        have HRY := trow_below HR hby
        have HZY : Hid (wy.heap[wr.heap.size]? = some (.cells #[.int .i64 z.id, .int .i64 z.wt, .int .i64 lv, .int .i64 z.rem] 32 (0, 0))) := Kit.hid (by rw [hwy]; exact blk_new _ _)
        have HSX : Hid (∀ w', Below wy.heap.size wy w' → w'.cell? ⟨p, 2, none⟩ = some (.int .i64 base) ∧ w'.cell? ⟨gm, 0, none⟩ = some (.int .i64 base) ∧ w'.cell? ⟨gm, 1, none⟩ = some (.complex .f64 (fi W) (fi P)) ∧ w'.cell? ⟨wr.heap.size, 1, none⟩ = some (.int .i64 z.wt) ∧ w'.cell? ⟨wr.heap.size, 2, none⟩ = some (.int .i64 lv)) := Kit.hid (fun w' hb => by
          have h1 := blk_below HMY.out hb
          have h2 := blk_below HZY.out hb
          exact ⟨HPB.out _ (HBY.out.trans (hb.mono HBY.out.size)), blk_cell h1 0, blk_cell h1 1, blk_cell h2 1, blk_cell h2 2⟩)
        have HSW : Hid (W + z.wt = sumWq (L.take (i + 1))) := Kit.hid (by rw [HT.out, sumWq_snoc, HW.out])
        have HSP : Hid (P + z.wt * lv = sumPq base (L.take (i + 1))) := Kit.hid (by rw [HT.out, sumPq_snoc, HP.out, hlv])
        have HNX : Hid (∀ m ∈ L.take (i + 1), m.v - base ≤ 1048576) := Kit.hid (fun m hm => by
          rw [HT.out] at hm
          rcases List.mem_append.1 hm with hm | hm
          · exact HNR.out m hm
          · rw [List.mem_singleton.1 hm]; omega)
        have hst := store_complex
        clear hT hz hlv z7 z8 hby HM HB HR HNR HW HP hfar hbd3 hbd4
        go_wp2_with fail
        rw [← hwy]
        clear hwy
        refine wp_region_noPanic ?_
        refine wp_region_T (fun w' => Below wy.heap.size wy w') 12 (by kernel_rfl) (Below.refl _ _).drew (fun hHeld => ?_)
        refine wpAnyT_take (i := 0) (hi := by simp only [List.getElem?_toArray, List.getElem?_cons_succ, List.getElem?_cons_zero]; rfl) (v := ?_) (by kernel_rfl) (by kernel_rfl) (by kernel_rfl) (by kernel_rfl) (fun _ _ _ h => h) (Or.inl ⟨by rfl, ?_⟩) (by assumption) ?_
        rotate_left
        · (intro w hSw; (try dsimp only at hSw); (obtain ⟨x0, x1, x2, x3, x4⟩ := HSX.out _ hSw); go_simp; first | done | with_reducible rfl)
        try simp only [Act.put, List.setIfInBounds_toArray, List.set_cons_zero, List.set_cons_succ]
        refine wpAnyT_take (i := 1) (hi := by simp only [List.getElem?_toArray, List.getElem?_cons_succ, List.getElem?_cons_zero]; rfl) (v := ?_) (by kernel_rfl) (by kernel_rfl) (by kernel_rfl) (by kernel_rfl) (fun _ _ _ h => h) (Or.inl ⟨by rfl, ?_⟩) (by assumption) ?_
        rotate_left
        · (intro w hSw; (try dsimp only at hSw); go_simp; first | done | with_reducible rfl)
        try simp only [Act.put, List.setIfInBounds_toArray, List.set_cons_zero, List.set_cons_succ]
        refine wpAnyT_take (i := 2) (hi := by simp only [List.getElem?_toArray, List.getElem?_cons_succ, List.getElem?_cons_zero]; rfl) (v := ?_) (by kernel_rfl) (by kernel_rfl) (by kernel_rfl) (by kernel_rfl) (fun _ _ _ h => h) (Or.inl ⟨by rfl, ?_⟩) (by assumption) ?_
        rotate_left
        · (intro w hSw; (try dsimp only at hSw); (obtain ⟨x0, x1, x2, x3, x4⟩ := HSX.out _ hSw); go_simp; first | done | with_reducible rfl)
        try simp only [Act.put, List.setIfInBounds_toArray, List.set_cons_zero, List.set_cons_succ]
        refine wpAnyT_take (i := 3) (hi := by simp only [List.getElem?_toArray, List.getElem?_cons_succ, List.getElem?_cons_zero]; rfl) (v := ?_) (by kernel_rfl) (by kernel_rfl) (by kernel_rfl) (by kernel_rfl) (fun _ _ _ h => h) (Or.inl ⟨by rfl, ?_⟩) (by assumption) ?_
        rotate_left
        · (intro w hSw; (try dsimp only at hSw); go_simp; first | done | with_reducible rfl)
        try simp only [Act.put, List.setIfInBounds_toArray, List.set_cons_zero, List.set_cons_succ]
        refine wpAnyT_take (i := 4) (hi := by simp only [List.getElem?_toArray, List.getElem?_cons_succ, List.getElem?_cons_zero]; rfl) (v := ?_) (by kernel_rfl) (by kernel_rfl) (by kernel_rfl) (by kernel_rfl) (fun _ _ _ h => h) (Or.inl ⟨by rfl, ?_⟩) (by assumption) ?_
        rotate_left
        · (intro w hSw; (try dsimp only at hSw); (obtain ⟨x0, x1, x2, x3, x4⟩ := HSX.out _ hSw); go_simp; first | done | with_reducible rfl)
        try simp only [Act.put, List.setIfInBounds_toArray, List.set_cons_zero, List.set_cons_succ]
        refine wpAnyT_take (i := 5) (hi := by simp only [List.getElem?_toArray, List.getElem?_cons_succ, List.getElem?_cons_zero]; rfl) (v := ?_) (by kernel_rfl) (by kernel_rfl) (by kernel_rfl) (by kernel_rfl) (fun _ _ _ h => h) (Or.inl ⟨by rfl, ?_⟩) (by assumption) ?_
        rotate_left
        · (intro w hSw; (try dsimp only at hSw); go_simp; first | done | with_reducible rfl)
        try simp only [Act.put, List.setIfInBounds_toArray, List.set_cons_zero, List.set_cons_succ]
        refine wpAnyT_take (i := 6) (hi := by simp only [List.getElem?_toArray, List.getElem?_cons_succ, List.getElem?_cons_zero]; rfl) (v := ?_) (by kernel_rfl) (by kernel_rfl) (by kernel_rfl) (by kernel_rfl) (fun _ _ _ h => h) (Or.inl ⟨by rfl, ?_⟩) (by assumption) ?_
        rotate_left
        · (intro w hSw; (try dsimp only at hSw); go_simp; first | done | with_reducible rfl)
        try simp only [Act.put, List.setIfInBounds_toArray, List.set_cons_zero, List.set_cons_succ]
        refine wpAnyT_take (i := 7) (hi := by simp only [List.getElem?_toArray, List.getElem?_cons_succ, List.getElem?_cons_zero]; rfl) (v := ?_) (by kernel_rfl) (by kernel_rfl) (by kernel_rfl) (by kernel_rfl) (fun _ _ _ h => h) (Or.inl ⟨by rfl, ?_⟩) (by assumption) ?_
        rotate_left
        · (intro w hSw; (try dsimp only at hSw); (obtain ⟨x0, x1, x2, x3, x4⟩ := HSX.out _ hSw); go_simp; first | done | with_reducible rfl)
        try simp only [Act.put, List.setIfInBounds_toArray, List.set_cons_zero, List.set_cons_succ]
        refine wpAnyT_take (i := 8) (hi := by simp only [List.getElem?_toArray, List.getElem?_cons_succ, List.getElem?_cons_zero]; rfl) (v := ?_) (by kernel_rfl) (by kernel_rfl) (by kernel_rfl) (by kernel_rfl) (fun _ _ _ h => h) (Or.inl ⟨by rfl, ?_⟩) (by assumption) ?_
        rotate_left
        · (intro w hSw; (try dsimp only at hSw); go_simp; first | done | with_reducible rfl)
        try simp only [Act.put, List.setIfInBounds_toArray, List.set_cons_zero, List.set_cons_succ]
        refine wpAnyT_take (i := 9) (hi := by simp only [List.getElem?_toArray, List.getElem?_cons_succ, List.getElem?_cons_zero]; rfl) (v := ?_) (by kernel_rfl) (by kernel_rfl) (by kernel_rfl) (by kernel_rfl) (fun _ _ _ h => h) (Or.inl ⟨by rfl, ?_⟩) (by assumption) ?_
        rotate_left
        · (intro w hSw; (try dsimp only at hSw); go_simp; first | done | with_reducible rfl)
        try simp only [Act.put, List.setIfInBounds_toArray, List.set_cons_zero, List.set_cons_succ]
        refine wpAnyT_take (i := 10) (hi := by simp only [List.getElem?_toArray, List.getElem?_cons_succ, List.getElem?_cons_zero]; rfl) (v := ?_) (by kernel_rfl) (by kernel_rfl) (by kernel_rfl) (by kernel_rfl) (fun _ _ _ h => h) (Or.inl ⟨by rfl, ?_⟩) (by assumption) ?_
        rotate_left
        · (intro w hSw; (try dsimp only at hSw); (obtain ⟨x0, x1, x2, x3, x4⟩ := HSX.out _ hSw); go_simp; first | done | with_reducible rfl)
        try simp only [Act.put, List.setIfInBounds_toArray, List.set_cons_zero, List.set_cons_succ]
        refine wpAnyT_step (i := 11) (by kernel_rfl) (ho := by simp only [List.getElem?_toArray, List.getElem?_cons_succ, List.getElem?_cons_zero]; rfl) (fun K hK => ?_)
        go_simp
        go_at_call 43; (with_reducible refine (HAD.out _).mono ?_); rintro e w4 ⟨rfl, hb4⟩
        have HB4 : Hid (Below wy.heap.size wy w4) := Kit.hid (hHeld.trans (hb4.mono hHeld.size))
        clear hb4
        go_wp2_with fail
        refine hK.out _ _ ?_ (fun hHeldN => ?_)
        · exact HB4.out
        clear hHeld
        have hHeld := hHeldN
        clear hHeldN
        clear hK K
        try simp only [Act.put, List.setIfInBounds_toArray, List.set_cons_zero, List.set_cons_succ]
        refine wpAnyT_last (by kernel_rfl) (ho := by simp only [List.getElem?_toArray, List.getElem?_cons_succ, List.getElem?_cons_zero]; rfl) (fun K hK => ?_)
        go_simp
        obtain ⟨c0, c1, z0, z1, _, z2⟩ := own_block (blk_below HMY.out HB4.out) (.int .i64 base)
        go_wp2_with fail
        case inl => exact absurd (z0.symm.trans ‹w4.frozen? ⟨gm, 0, none⟩ = true›) (by decide)
        refine hK.out _ _ ?_
        clear hK K
        try simp only [Act.put, List.setIfInBounds_toArray, List.set_cons_zero, List.set_cons_succ]
        clear hHeld
        refine wpAnyT_done (by kernel_rfl) ?_ _
        refine NoPanic.normal ?_
        skip
        have HW9 : Hid (Below w.heap.size w ((w4.setCell ⟨gm, 0, none⟩ (.int .i64 base)).setCell ⟨gm, 1, none⟩ (.complex .f64 (fi (W + z.wt)) (fi (P + z.wt * lv))))) := Kit.hid (((HBY.out.trans (HB4.out.mono HBY.out.size)).setCell (p := ⟨gm, 0, none⟩) HG.out _).setCell (p := ⟨gm, 1, none⟩) HG.out _)
        obtain ⟨_, _, hm9⟩ := own_done (blk_below HMY.out HB4.out) (.int .i64 base) (.complex .f64 (fi (W + z.wt)) (fi (P + z.wt * lv)))
        have HM9 := Kit.hid hm9
        have HR9 := trow_same (trow_below HRY HB4.out) (w' := ((w4.setCell ⟨gm, 0, none⟩ (.int .i64 base)).setCell ⟨gm, 1, none⟩ (.complex .f64 (fi (W + z.wt)) (fi (P + z.wt * lv))))) (fun x e => (Below.heap_setCell _ _ _ _ (HNE.out x e)).trans (Below.heap_setCell _ _ _ _ (HNE.out x e)))
        clear hm9
        go_wp2
        go_roundw
        case rel => exact ⟨i + 1, W + z.wt, P + z.wt * lv, by omega, by go_num, rfl, HSW, HSP, HNX, HW9, HR9, HM9⟩
        case measure => simp [intOf]; omega
    · obtain rfl : i = L.length := by omega
      rw [List.take_length] at HW HP HNR
      have c2 : wr.cell? ⟨gm, 0, none⟩ = some (.int .i64 base) := blk_cell HM.out 0
      have c4 : wr.cell? ⟨gm, 1, none⟩ = some (.complex .f64 (fi W) (fi P)) := blk_cell HM.out 1
      have HNF : Hid (¬ farQ base L = true) := Kit.hid (fun h => by
        obtain ⟨m, hm, hd⟩ := List.any_eq_true.1 h
        have := HNR.out m hm
        have := of_decide_eq_true hd
        omega)
      by_cases hz : L = []
      · subst hz
        have hW0 : W = 0 := HW.out
        subst hW0
        have HMQ : Hid (meanQ ([] : List Mem) base = (0, false)) := Kit.hid rfl
        go_wp2_with fail
        go_ret2
        rw [HMQ.out]
        exact ⟨rfl, HB.out⟩
      · have hlen : 0 < L.length := List.length_pos_iff.2 hz
        have g3 : (W == 0) = false := beq_eq_false_iff_ne.2 (by omega)
        have HMQ : Hid (meanQ L base = (base + P / W, true)) := Kit.hid (by
          unfold meanQ
          rw [if_neg HNF.out, if_neg hz, HW.out, HP.out])
        have HME : Hid (Calls Try.prog 44 #[.agg #[.int .i64 base, .complex .f64 (fi W) (fi P)]] wr (ValPost wr (.int .i64 (base + P / W)))) := Kit.hid (by
          have := mean_any base W P wr (by omega) (by omega) HBN.out
          unfold meanOf at this
          rw [if_neg (by omega)] at this
          exact this)
        go_wp2_with fail
        (with_reducible refine HME.out.mono ?_); rintro e w9 ⟨rfl, hb9⟩
        have HE := Kit.hid (HB.out.trans (hb9.mono HB.out.size))
        go_wp2_with fail
        go_ret2
        rw [HMQ.out]
        exact ⟨rfl, HE.out⟩
end Go.Proofs.Ytggcbeoinmnopaa.Qu
