/- The document's own queue: its rows in memory; the walks of its paces, at, told, set, Run, Weigh, Leave, Join and Get. -/
import Derived.Test.YtggcbeoinmnopaaQuU
import Derived.Deep.CutBlock
import Derived.Deep.DeepCutAuto
import Derived.Test.YtggcbeoinmnopaaHeldT
namespace Go.Proofs.Ytggcbeoinmnopaa.QuM
variable {L l : List Mem}
/-- A weight as the document holds it. -/
def clampW (w : Int) : Int := if w < 1 then 1 else if 1048576 < w then 1048576 else w
theorem clampW_bd (w : Int) : 1 ≤ clampW w ∧ clampW w ≤ 1048576 := by
  unfold clampW
  split
  · omega
  split <;> omega
theorem clampW_id {w : Int} (h1 : 1 ≤ w) (h2 : w ≤ 1048576) : clampW w = w := by
  unfold clampW
  rw [if_neg (by omega), if_neg (by omega)]
theorem uq_eq (hw : WQ L) {a b : Mem} (ha : a ∈ L) (hb : b ∈ L) (e : a.id = b.id) : a = b := by
  obtain ⟨i, hi, rfl⟩ := List.getElem_of_mem ha
  obtain ⟨j, hj, rfl⟩ := List.getElem_of_mem hb
  have hp := List.pairwise_iff_getElem.1 hw.uniq
  rcases Nat.lt_trichotomy i j with h | h | h
  · exact absurd e (hp i j hi hj h)
  · subst h; rfl
  · exact absurd e.symm (hp j i hj hi h)
theorem get_mem_of (hw : WQ L) {m : Mem} (hm : m ∈ L) : get L m.id = some m := by
  unfold get
  cases hf : L.find? fun x => decide (x.id = m.id) with
  | none =>
    have := List.find?_eq_none.1 hf _ hm
    simp at this
  | some y =>
    have h1 := List.mem_of_find?_eq_some hf
    have h2 : y.id = m.id := by simpa using List.find?_some hf
    rw [uq_eq hw h1 hm h2]
theorem rget_at (h : l.Perm L) (hw : WQ L) {i : Nat} {m : Mem} (hm : l[i]? = some m) : get L m.id = some m := get_mem_of hw (h.mem_iff.1 (List.mem_of_getElem? hm))
theorem rget_not (h : l.Perm L) {id : Int} (hn : ∀ m ∈ l, m.id ≠ id) : get L id = none := by
  cases hg : get L id with
  | none => rfl
  | some y =>
    obtain ⟨h1, h2⟩ := get_mem hg
    exact absurd h2 (hn y (h.mem_iff.2 h1))
end Go.Proofs.Ytggcbeoinmnopaa.QuM
namespace Go.Proofs.Ytggcbeoinmnopaa.Qu
open Go.RowKit Go.Proofs.Ytggcbeoinmnopaa.Kit Go.Proofs.Ytggcbeoinmnopaa.ShM Go.Proofs.Ytggcbeoinmnopaa.Sh Go.Proofs.Ytggcbeoinmnopaa.QuM
set_option linter.unusedVariables false
set_option linter.unusedSimpArgs false
/-! ### paces, as the document reckons them -/
theorem rweight_any (wt : Int) (w : World) :
    Calls Try.prog 68 #[.int .i64 wt] w fun e w' => e = .returned (.int .i64 (clampW wt)) ∧ w' = w := by
  go_enter Try.func68, Try.ntmps68
  by_cases a1 : wt < 1
  · have HR : Hid (clampW wt = 1) := Kit.hid (by unfold clampW; rw [if_pos a1])
    go_wp2
    go_ret
    exact ⟨by rw [HR.out]; rfl, rfl⟩
  by_cases a2 : 1048576 < wt
  · have HR : Hid (clampW wt = 1048576) := Kit.hid (by unfold clampW; rw [if_neg a1, if_pos a2])
    go_wp2
    go_ret
    exact ⟨by rw [HR.out]; rfl, rfl⟩
  · have HR : Hid (clampW wt = wt) := Kit.hid (by unfold clampW; rw [if_neg a1, if_neg a2])
    go_wp2
    go_ret
    exact ⟨by rw [HR.out]; rfl, rfl⟩
set_option maxHeartbeats 800000 in
theorem rright_any (v rem wt : Int) (w : World) :
    Calls Try.prog 55 #[.agg #[.int .i64 v, .int .i64 rem], .int .i64 wt] w fun e w' => e = .returned (.bool (right v rem (clampW wt))) ∧ Below w.heap.size w w' := by
  have HW := Kit.hid (fun w' => rweight_any wt w')
  obtain ⟨c, hc⟩ : ∃ c, c = clampW wt := ⟨_, rfl⟩
  rw [← hc] at HW ⊢
  clear hc
  have HB : Hid (Below w.heap.size w (w.alloc (.cells #[.int .i64 v, .int .i64 rem] 30))) := Kit.hid ((Below.refl _ _).alloc (Nat.le_refl _) _)
  have hx := blk_new w (.cells #[.int .i64 v, .int .i64 rem] 30)
  have x0 := blk_cell hx 0
  have x1 := blk_cell hx 1
  have lx := blk_lt hx
  clear hx
  go_enter Try.func55, Try.ntmps55
  go_wp2_with fail
  generalize w.alloc (.cells #[.int .i64 v, .int .i64 rem] 30) = wb at HB x0 x1 lx ⊢
  (with_reducible refine (HW.out _).mono ?_); rintro e w1 ⟨rfl, rfl⟩
  clear HW
  by_cases a1 : 0 ≤ v
  · have g1 : decide (0 ≤ v) = true := decide_eq_true a1
    by_cases a2 : v ≤ 2305843009213693952
    · have g2 : decide (v ≤ 2305843009213693952) = true := decide_eq_true a2
      by_cases a3 : 0 ≤ rem
      · have g3 : decide (0 ≤ rem) = true := decide_eq_true a3
        obtain ⟨b, hb⟩ : ∃ b, b = decide (rem < c) := ⟨_, rfl⟩
        have HR : Hid (right v rem c = b) := Kit.hid (by rw [hb]; unfold right; exact decide_eq_decide.2 ⟨fun h => h.2.2.2, fun h => ⟨a1, a2, a3, h⟩⟩)
        have g4 : decide (rem < c) = b := hb.symm
        clear a1 a2 a3 hb
        go_wp2
        go_ret
        exact ⟨by rw [HR.out]; rfl, HB.out⟩
      · have HR : Hid (right v rem c = false) := Kit.hid (decide_eq_false (fun h => a3 h.2.2.1))
        have g3 : decide (0 ≤ rem) = false := decide_eq_false a3
        clear a1 a2 a3
        go_wp2
        go_ret
        exact ⟨by rw [HR.out]; rfl, HB.out⟩
    · have HR : Hid (right v rem c = false) := Kit.hid (decide_eq_false (fun h => a2 h.2.1))
      have g2 : decide (v ≤ 2305843009213693952) = false := decide_eq_false a2
      clear a1 a2
      go_wp2
      go_ret
      exact ⟨by rw [HR.out]; rfl, HB.out⟩
  · have HR : Hid (right v rem c = false) := Kit.hid (decide_eq_false (fun h => a1 h.1))
    have g1 : decide (0 ≤ v) = false := decide_eq_false a1
    clear a1
    go_wp2
    go_ret
    exact ⟨by rw [HR.out]; rfl, HB.out⟩
set_option maxHeartbeats 800000 in
theorem rrun_any (v rem wt n : Int) (w : World) (h1 : 1 ≤ wt) (h2 : wt ≤ 1048576) (hn0 : 0 ≤ n) (hn1 : n ≤ 1099511627776) (hv0 : 0 ≤ v) (hv1 : v ≤ 2305843009213693952) (hr0 : 0 ≤ rem) (hr1 : rem < wt) :
    Calls Try.prog 56 #[.agg #[.int .i64 v, .int .i64 rem], .int .i64 wt, .int .i64 n] w fun e w' => e = .returned (.agg #[.int .i64 (v + (1048576 * n + rem) / wt), .int .i64 ((1048576 * n + rem) % wt)]) ∧ Below w.heap.size w w' := by
  have HW := Kit.hid (fun w' => rweight_any wt w')
  rw [clampW_id h1 h2] at HW
  obtain ⟨way, hway⟩ : ∃ way, way = 1048576 * n + rem := ⟨_, rfl⟩
  have hw0 : 0 ≤ way := by omega
  have hw1 : way ≤ 1152921504607895552 := by omega
  have hq0 : 0 ≤ way / wt := Int.ediv_nonneg hw0 (by omega)
  have hq1 : way / wt ≤ way := Int.ediv_le_self _ hw0
  have e1 : way.tdiv wt = way / wt := by rw [Int.tdiv_eq_ediv_of_nonneg hw0]
  have e3 : wrap64 (1048576 * n) = 1048576 * n := by unfold wrap64; omega
  have e4 : wrap64 (1048576 * n + rem) = way := by unfold wrap64; omega
  have hr3 := Int.emod_nonneg way (show wt ≠ 0 by omega)
  have hr4 := Int.emod_lt_of_pos way (show 0 < wt by omega)
  have hdm := Int.emod_add_mul_ediv way wt
  have hcm : way / wt * wt = wt * (way / wt) := Int.mul_comm _ _
  have HMD : Hid (way - way / wt * wt = way % wt) := Kit.hid (by omega)
  have e7 : wrap64 (way / wt * wt) = way / wt * wt := by unfold wrap64; omega
  have e8 : wrap64 (way - way / wt * wt) = way % wt := by unfold wrap64; omega
  have e6 : wrap64 (way / wt) = way / wt := by unfold wrap64; omega
  have e5 : wrap64 (v + way / wt) = v + way / wt := by unfold wrap64; omega
  have hmn : min n 1099511627776 = n := by omega
  have hmx : max 0 n = n := by omega
  have hwt : ¬ wt = 0 := by omega
  rw [← hway]
  obtain ⟨wb, hwb⟩ : ∃ wb, wb = (w.alloc (.cells #[.int .i64 v, .int .i64 rem] 30)).alloc (.cells #[.int .i64 0, .int .i64 0] 30) := ⟨_, rfl⟩
  have HB : Hid (Below w.heap.size w wb) := Kit.hid (by rw [hwb]; exact ((Below.refl _ _).alloc (Nat.le_refl _) _).alloc (by simp) _)
  have hx : wb.heap[w.heap.size]? = some (.cells #[.int .i64 v, .int .i64 rem] 30 (0, 0)) := by rw [hwb]; exact blk_alloc (blk_new _ _) _
  have hy : wb.heap[w.heap.size + 1]? = some (.cells #[.int .i64 0, .int .i64 0] 30 (0, 0)) := by
    rw [hwb]
    have := blk_new (w.alloc (.cells #[.int .i64 v, .int .i64 rem] 30)) (.cells #[.int .i64 0, .int .i64 0] 30)
    simpa using this
  have HY := Kit.hid hy
  have x0 := blk_cell hx 0
  have x1 := blk_cell hx 1
  have f0 := blk_frozen hy 0
  have f1 := blk_frozen hy 1
  have y0 := blk_cell hy 0
  have y1 := blk_cell hy 1
  clear hv0 hr0 hr1 hdm hcm hx hy
  by_cases hz : n = 0
  · subst hz
    obtain rfl : way = rem := by omega
    have e9 : wrap64 way = way := by
      unfold wrap64; omega
    clear e3 e4 hway
    go_enter Try.func56, Try.ntmps56
    go_wp2_with fail
    rw [← hwb]
    clear hwb
    (with_reducible refine (HW.out _).mono ?_); rintro e w1 ⟨rfl, rfl⟩
    clear HW
    go_wp2
    exact bodyPost_ret (results_cell_row rfl _ _ (w.heap.size + 1) 30 #[.int .i64 (v + way / wt), .int .i64 (way % wt)] (0, 0) _ rfl (blk_put (blk_put HY.out 0 (.int .i64 (v + way / wt)) (cs' := #[.int .i64 (v + way / wt), .int .i64 0]) rfl) 1 (.int .i64 (way % wt)) (cs' := #[.int .i64 (v + way / wt), .int .i64 (way % wt)]) rfl) Try.underlying30 rfl (by kernel_rfl)) rfl ⟨rfl, (HB.out.setCell (p := ⟨w.heap.size + 1, 0, none⟩) (by simp) _).setCell (p := ⟨w.heap.size + 1, 1, none⟩) (by simp) _⟩
  · have hpos : 0 < n := by omega
    clear hz hway
    go_enter Try.func56, Try.ntmps56
    go_wp2_with fail
    rw [← hwb]
    clear hwb
    (with_reducible refine (HW.out _).mono ?_); rintro e w1 ⟨rfl, rfl⟩
    clear HW
    go_wp2
    exact bodyPost_ret (results_cell_row rfl _ _ (w.heap.size + 1) 30 #[.int .i64 (v + way / wt), .int .i64 (way % wt)] (0, 0) _ rfl (blk_put (blk_put HY.out 0 (.int .i64 (v + way / wt)) (cs' := #[.int .i64 (v + way / wt), .int .i64 0]) rfl) 1 (.int .i64 (way % wt)) (cs' := #[.int .i64 (v + way / wt), .int .i64 (way % wt)]) rfl) Try.underlying30 rfl (by kernel_rfl)) rfl ⟨rfl, (HB.out.setCell (p := ⟨w.heap.size + 1, 0, none⟩) (by simp) _).setCell (p := ⟨w.heap.size + 1, 1, none⟩) (by simp) _⟩
set_option maxHeartbeats 800000 in
theorem rreweigh_any (v rem wt wu : Int) (w : World) (h1 : 1 ≤ wt) (h2 : wt ≤ 1048576) (g1 : 1 ≤ wu) (g2 : wu ≤ 1048576) (hr0 : 0 ≤ rem) (hr1 : rem < wt) :
    Calls Try.prog 58 #[.agg #[.int .i64 v, .int .i64 rem], .int .i64 wt, .int .i64 wu] w fun e w' => e = .returned (.agg #[.int .i64 v, .int .i64 (rem * wu / wt)]) ∧ Below w.heap.size w w' := by
  have HW := Kit.hid (fun (w' : World) => rweight_any wt w')
  have HU := Kit.hid (fun (w' : World) => rweight_any wu w')
  rw [clampW_id h1 h2] at HW
  rw [clampW_id g1 g2] at HU
  obtain ⟨pr, hpr⟩ : ∃ pr, pr = rem * wu := ⟨_, rfl⟩
  have hp0 : 0 ≤ pr := by rw [hpr]; exact Int.mul_nonneg hr0 (by omega)
  have hp1 : pr ≤ 1099511627776 := by
    rw [hpr]
    calc rem * wu ≤ 1048576 * wu := Int.mul_le_mul_of_nonneg_right (by omega) (by omega)
      _ ≤ 1048576 * 1048576 := Int.mul_le_mul_of_nonneg_left g2 (by omega)
      _ = 1099511627776 := by decide
  have hq0 : 0 ≤ pr / wt := Int.ediv_nonneg hp0 (by omega)
  have hq1 : pr / wt ≤ pr := Int.ediv_le_self _ hp0
  have e1 : pr.tdiv wt = pr / wt := by rw [Int.tdiv_eq_ediv_of_nonneg hp0]
  have e3 : IntKind.i64.wrap (rem * wu) = pr := by rw [IntKind.wrap_i64, ← hpr]; omega
  have e6 : IntKind.i64.wrap (pr / wt) = pr / wt := by rw [IntKind.wrap_i64]; omega
  have hwt : ¬ wt = 0 := by omega
  rw [← hpr]
  obtain ⟨wb, hwb⟩ : ∃ wb, wb = (w.alloc (.cells #[.int .i64 v, .int .i64 rem] 30)).alloc (.cells #[.int .i64 0, .int .i64 0] 30) := ⟨_, rfl⟩
  have HB : Hid (Below w.heap.size w wb) := Kit.hid (by rw [hwb]; exact ((Below.refl _ _).alloc (Nat.le_refl _) _).alloc (by simp) _)
  have HX : Hid (wb.heap[w.heap.size]? = some (.cells #[.int .i64 v, .int .i64 rem] 30 (0, 0))) := Kit.hid (by rw [hwb]; exact blk_alloc (blk_new _ _) _)
  have HY : Hid (wb.heap[w.heap.size + 1]? = some (.cells #[.int .i64 0, .int .i64 0] 30 (0, 0))) := Kit.hid (by
    rw [hwb]
    have := blk_new (w.alloc (.cells #[.int .i64 v, .int .i64 rem] 30)) (.cells #[.int .i64 0, .int .i64 0] 30)
    simpa using this)
  have HC : Hid (∀ w' : World, w'.heap[w.heap.size]? = wb.heap[w.heap.size]? → w'.cell? ⟨w.heap.size, 0, none⟩ = some (.int .i64 v) ∧ w'.cell? ⟨w.heap.size, 1, none⟩ = some (.int .i64 rem)) := Kit.hid (fun (w' : World) h => by
    have h1 := h.trans HX.out
    exact ⟨blk_cell h1 0, blk_cell h1 1⟩)
  have f0 := blk_frozen HY.out 0
  have f1 := blk_frozen HY.out 1
  have y0 := blk_cell HY.out 0
  have y1 := blk_cell HY.out 1
  clear h1 h2 g1 g2 hr0 hr1 hpr
  go_enter Try.func58, Try.ntmps58
  go_wp2_with fail
  rw [← hwb]
  clear hwb
  (with_reducible refine (HW.out _).mono ?_); rintro e w1 ⟨rfl, rfl⟩
  go_wp2_with fail
  (with_reducible refine (HU.out _).mono ?_); rintro e w2 ⟨rfl, rfl⟩
  clear HW HU
  go_wp2
  refine wp_region_noPanic ?_
  refine wp_region_held_drew (S := fun (w' : World) => w'.heap[w.heap.size]? = w2.heap[w.heap.size]?) (by kernel_rfl) rfl (fun hHeld => ?_)
  refine wpAnyH_take (i := 0) (hi := by simp only [List.getElem?_toArray, List.getElem?_cons_succ, List.getElem?_cons_zero]; rfl) (v := ?_) (by kernel_rfl) (by kernel_rfl) (by kernel_rfl) (fun _ _ _ h => h) (Or.inl ⟨by rfl, ?_⟩) (by assumption) ?_
  rotate_left
  · (intro w hSw; (try dsimp only at hSw); go_simp; first | done | with_reducible rfl)
  try simp only [Act.put, List.setIfInBounds_toArray, List.set_cons_zero, List.set_cons_succ]
  refine wpAnyH_take (i := 1) (hi := by simp only [List.getElem?_toArray, List.getElem?_cons_succ, List.getElem?_cons_zero]; rfl) (v := ?_) (by kernel_rfl) (by kernel_rfl) (by kernel_rfl) (fun _ _ _ h => h) (Or.inl ⟨by rfl, ?_⟩) (by assumption) ?_
  rotate_left
  · (intro w hSw; (try dsimp only at hSw); (obtain ⟨x0, x1⟩ := HC.out _ hSw); go_simp; first | done | with_reducible rfl)
  try simp only [Act.put, List.setIfInBounds_toArray, List.set_cons_zero, List.set_cons_succ]
  refine wpAnyH_take (i := 2) (hi := by simp only [List.getElem?_toArray, List.getElem?_cons_succ, List.getElem?_cons_zero]; rfl) (v := ?_) (by kernel_rfl) (by kernel_rfl) (by kernel_rfl) (fun _ _ _ h => h) (Or.inl ⟨by rfl, ?_⟩) (by assumption) ?_
  rotate_left
  · (intro w hSw; (try dsimp only at hSw); go_simp; first | done | with_reducible rfl)
  try simp only [Act.put, List.setIfInBounds_toArray, List.set_cons_zero, List.set_cons_succ]
  refine wpAnyH_take (i := 3) (hi := by simp only [List.getElem?_toArray, List.getElem?_cons_succ, List.getElem?_cons_zero]; rfl) (v := ?_) (by kernel_rfl) (by kernel_rfl) (by kernel_rfl) (fun _ _ _ h => h) (Or.inl ⟨by rfl, ?_⟩) (by assumption) ?_
  rotate_left
  · (intro w hSw; (try dsimp only at hSw); (obtain ⟨x0, x1⟩ := HC.out _ hSw); go_simp; first | done | with_reducible rfl)
  try simp only [Act.put, List.setIfInBounds_toArray, List.set_cons_zero, List.set_cons_succ]
  refine wpAnyH_take (i := 4) (hi := by simp only [List.getElem?_toArray, List.getElem?_cons_succ, List.getElem?_cons_zero]; rfl) (v := ?_) (by kernel_rfl) (by kernel_rfl) (by kernel_rfl) (fun _ _ _ h => h) (Or.inl ⟨by rfl, ?_⟩) (by assumption) ?_
  rotate_left
  · (intro w hSw; (try dsimp only at hSw); go_simp; first | done | with_reducible rfl)
  try simp only [Act.put, List.setIfInBounds_toArray, List.set_cons_zero, List.set_cons_succ]
  refine wpAnyH_take (i := 5) (hi := by simp only [List.getElem?_toArray, List.getElem?_cons_succ, List.getElem?_cons_zero]; rfl) (v := ?_) (by kernel_rfl) (by kernel_rfl) (by kernel_rfl) (fun _ _ _ h => h) (Or.inl ⟨by rfl, ?_⟩) (by assumption) ?_
  rotate_left
  · (intro w hSw; (try dsimp only at hSw); go_simp; first | done | with_reducible rfl)
  try simp only [Act.put, List.setIfInBounds_toArray, List.set_cons_zero, List.set_cons_succ]
  refine wpAnyH_take (i := 6) (hi := by simp only [List.getElem?_toArray, List.getElem?_cons_succ, List.getElem?_cons_zero]; rfl) (v := ?_) (by kernel_rfl) (by kernel_rfl) (by kernel_rfl) (fun _ _ _ h => h) (Or.inl ⟨by rfl, ?_⟩) (by assumption) ?_
  rotate_left
  · (intro w hSw; (try dsimp only at hSw); go_simp; first | done | with_reducible rfl)
  try simp only [Act.put, List.setIfInBounds_toArray, List.set_cons_zero, List.set_cons_succ]
  refine wpAnyH_take (i := 7) (hi := by simp only [List.getElem?_toArray, List.getElem?_cons_succ, List.getElem?_cons_zero]; rfl) (v := ?_) (by kernel_rfl) (by kernel_rfl) (by kernel_rfl) (fun _ _ _ h => h) (Or.inl ⟨by rfl, ?_⟩) (by assumption) ?_
  rotate_left
  · (intro w hSw; (try dsimp only at hSw); go_simp; first | done | with_reducible rfl)
  try simp only [Act.put, List.setIfInBounds_toArray, List.set_cons_zero, List.set_cons_succ]
  refine wpAnyH_take (i := 8) (hi := by simp only [List.getElem?_toArray, List.getElem?_cons_succ, List.getElem?_cons_zero]; rfl) (v := ?_) (by kernel_rfl) (by kernel_rfl) (by kernel_rfl) (fun _ _ _ h => h) (Or.inl ⟨by rfl, ?_⟩) (by assumption) ?_
  rotate_left
  · (intro w hSw; (try dsimp only at hSw); go_simp; first | done | with_reducible rfl)
  try simp only [Act.put, List.setIfInBounds_toArray, List.set_cons_zero, List.set_cons_succ]
  refine wpAnyH_ready (rs := [9]) (by kernel_rfl) (by simp) ?_
  refine AllReadyH.cons (ho := by simp only [List.getElem?_toArray, List.getElem?_cons_succ, List.getElem?_cons_zero]; rfl) (fun K hK => ?_) (AllReadyH.nil)
  go_simp
  go_wp2_with fail
  refine hK.out _ _ ?_ (fun hHeldN => ?_)
  · exact (Below.heap_setCell _ _ _ _ (by simp)).trans (Below.heap_setCell _ _ _ _ (by simp))
  clear hHeld
  have hHeld := hHeldN
  clear hHeldN
  clear hK K
  try simp only [Act.put, List.setIfInBounds_toArray, List.set_cons_zero, List.set_cons_succ]
  clear hHeld
  refine wpAnyH_done (by kernel_rfl) ?_ _
  refine NoPanic.normal ?_
  skip
  go_wp2
  exact bodyPost_ret (results_cell_row rfl _ _ (w.heap.size + 1) 30 #[.int .i64 v, .int .i64 (pr / wt)] (0, 0) _ rfl (blk_put (blk_put (w := w2.drew) HY.out 0 (.int .i64 v) (cs' := #[.int .i64 v, .int .i64 0]) rfl) 1 (.int .i64 (pr / wt)) (cs' := #[.int .i64 v, .int .i64 (pr / wt)]) rfl) Try.underlying30 rfl (by kernel_rfl)) rfl ⟨rfl, (HB.out.drew.setCell (p := ⟨w.heap.size + 1, 0, none⟩) (by simp) _).setCell (p := ⟨w.heap.size + 1, 1, none⟩) (by simp) _⟩
/-! ### the document's queue in memory -/
theorem told_zero (l : List Mem) : told 0 l = l := by
  unfold told
  induction l with
  | nil => rfl
  | cons m l ih => rw [List.map_cons, ih]; simp
/-- The document's queue: its members in whatever order, and its base. -/
def RQ (w : World) (q : Nat) (l L : List Mem) (base : Int) : Prop :=
  (∃ v, w.heap[q]? = some (.cells #[v, .int .i64 base] 56 (0, 0)) ∧ w.ownsRow 0 90 4 v l.length (flatM 0 l)) ∧ l.Perm L ∧ WQ L ∧ QB L base ∧ l.length ≤ 200
section
variable {w w' : World} {q : Nat} {l L : List Mem} {base : Int}
theorem RQ.below (h : RQ w q l L base) (hb : Below w.heap.size w w') : RQ w' q l L base := by
  obtain ⟨⟨v, h1, h2⟩, h3⟩ := h
  exact ⟨⟨v, blk_below h1 hb, own_belowS h2 hb⟩, h3⟩
theorem RQ.look (h : RQ w q l L base) : ∃ A c, w.heap[q]? = some (.cells #[.slice A l.length c, .int .i64 base] 56 (0, 0)) ∧ Hid (TRow w A l) ∧ Cells w A (flatM 0 l) := by
  obtain ⟨⟨v, h1, h2⟩, _⟩ := h
  obtain ⟨A, c, rfl, hc, _⟩ := own_readsS (by decide) h2
  have := trow_cells hc
  rw [told_zero] at this
  exact ⟨A, c, h1, this, hc⟩
theorem RQ.each (h : RQ w q l L base) : ∀ m ∈ l, 1 ≤ m.id ∧ m.id ≤ 1048576 ∧ 1 ≤ m.wt ∧ m.wt ≤ 1048576 ∧ 0 ≤ m.rem ∧ m.rem < m.wt ∧ base ≤ m.v ∧ m.v ≤ 2305843009213693952 := fun m hm => h.2.2.2.1.each m (h.2.1.mem_iff.1 hm)
theorem noid_snoc {id : Int} {i : Nat} {x : Mem} (hx : l[i]? = some x) (hn : ∀ y ∈ l.take i, y.id ≠ id) (h : x.id ≠ id) : ∀ y ∈ l.take (i + 1), y.id ≠ id := by
  rw [List.take_add_one, hx]
  intro y hy
  rcases List.mem_append.1 hy with hy | hy
  · exact hn y hy
  · simp at hy
    rw [hy]
    exact h
theorem rat_any (h : RQ w q l L base) (id : Int) :
    Calls Try.prog 46 #[.pointer (some ⟨q, 0, none⟩), .int .i64 id] w fun e w' => ((∃ (i : Nat) (m : Mem), l[i]? = some m ∧ m.id = id ∧ e = .returned (.int .i64 i)) ∨ ((∀ m ∈ l, m.id ≠ id) ∧ e = .returned (.int .i64 (-1)))) ∧ w' = w := by
  obtain ⟨A, c, hq, hr, _⟩ := h.look
  have q0 := blk_cell hq 0
  have ql := blk_lt hq
  have hll := h.2.2.2.2
  clear h hq
  go_enter Try.func46, Try.ntmps46
  go_wp2
  go_loopw [5] (fun v5 wr => ∃ i : Nat, i ≤ l.length ∧ v5 = .int .i64 i ∧ wr = w ∧ Hid (∀ y ∈ l.take i, y.id ≠ id)) (fun v5 _ => l.length - (intOf v5).toNat)
  case atStart => exact ⟨0, by omega, rfl, rfl, Kit.hid (by simp)⟩
  case round =>
    obtain ⟨i, hi, rfl, rfl, HE⟩ := hrel
    by_cases hlt : i < l.length
    · obtain ⟨x, hx⟩ : ∃ x, l[i]? = some x := ⟨_, List.getElem?_eq_getElem hlt⟩
      obtain ⟨ad, rfl, c0, c1, c2, c3⟩ := t_at hr hx
      have HX := Kit.hid hx
      clear hx
      by_cases hxy : x.id = id
      · have g1 : (x.id == id) = true := by simp [hxy]
        have HXY := Kit.hid hxy
        clear hxy
        go_wp2
        go_ret
        exact ⟨.inl ⟨i, x, HX.out, HXY.out, rfl⟩, rfl⟩
      · have g1 : (x.id == id) = false := by simp [hxy]
        have HE : Hid (∀ y ∈ l.take (i + 1), y.id ≠ id) := Kit.hid (noid_snoc HX.out HE.out hxy)
        clear hxy
        go_wp2
        go_roundw
        case rel => exact ⟨i + 1, by omega, by go_num, trivial, HE⟩
        case measure => simp [intOf]; omega
    · obtain rfl : i = l.length := by omega
      rw [List.take_length] at HE
      go_wp2
      go_ret
      exact ⟨.inr ⟨HE.out, rfl⟩, rfl⟩
set_option maxHeartbeats 800000 in
theorem rtold_any (m : Mem) (h : RQ w q l L base) (hv0 : base ≤ m.v) (hv1 : m.v ≤ 2305843009213693952) :
    Calls Try.prog 45 #[.pointer (some ⟨q, 0, none⟩), .agg #[.int .i64 m.id, .int .i64 m.wt, .int .i64 m.v, .int .i64 m.rem]] w fun e w' => e = .returned (tv m base) ∧ Below w.heap.size w w' := by
  unfold tv
  have hb0 := h.2.2.2.1.b0
  have hsub : IntKind.i64.wrap (m.v - base) = m.v - base := by rw [IntKind.wrap_i64]; omega
  obtain ⟨A, c, hp, _⟩ := h.look
  obtain ⟨wb, hwb⟩ : ∃ wb, wb = (w.alloc (.cells #[.int .i64 m.id, .int .i64 m.wt, .int .i64 m.v, .int .i64 m.rem] 90)).alloc (.cells #[.int .i64 0, .int .i64 0, .int .i64 0, .int .i64 0] 32) := ⟨_, rfl⟩
  have hB : Below w.heap.size w wb := by rw [hwb]; exact ((Below.refl _ _).alloc (Nat.le_refl _) _).alloc (by simp) _
  have HX : Hid (wb.heap[w.heap.size]? = some (.cells #[.int .i64 m.id, .int .i64 m.wt, .int .i64 m.v, .int .i64 m.rem] 90 (0, 0))) := Kit.hid (by rw [hwb]; exact blk_alloc (blk_new _ _) _)
  have hy : wb.heap[w.heap.size + 1]? = some (.cells #[.int .i64 0, .int .i64 0, .int .i64 0, .int .i64 0] 32 (0, 0)) := by
    rw [hwb]
    have := blk_new (w.alloc (.cells #[.int .i64 m.id, .int .i64 m.wt, .int .i64 m.v, .int .i64 m.rem] 90)) (.cells #[.int .i64 0, .int .i64 0, .int .i64 0, .int .i64 0] 32)
    simpa using this
  have f0 := blk_frozen hy 0
  have f1 := blk_frozen hy 1
  have f2 := blk_frozen hy 2
  have f3 := blk_frozen hy 3
  have y0 := blk_cell hy 0
  have y1 := blk_cell hy 1
  have y2 := blk_cell hy 2
  have y3 := blk_cell hy 3
  have hlp := blk_lt hp
  have HP : Hid (wb.heap[q]? = some (.cells #[.slice A l.length c, .int .i64 base] 56 (0, 0))) := Kit.hid ((hB.block _ hlp).trans hp)
  have HS : Hid (∀ w' : World, (w'.heap[w.heap.size]? = wb.heap[w.heap.size]? ∧ w'.heap[q]? = wb.heap[q]?) → w'.cell? ⟨w.heap.size, 0, none⟩ = some (.int .i64 m.id) ∧ w'.cell? ⟨w.heap.size, 1, none⟩ = some (.int .i64 m.wt) ∧ w'.cell? ⟨w.heap.size, 2, none⟩ = some (.int .i64 m.v) ∧ w'.cell? ⟨w.heap.size, 3, none⟩ = some (.int .i64 m.rem) ∧ w'.cell? ⟨q, 1, none⟩ = some (.int .i64 base)) := Kit.hid (fun w' h => by
    have h1 := h.1.trans HX.out
    have h2 := h.2.trans HP.out
    exact ⟨blk_cell h1 0, blk_cell h1 1, blk_cell h1 2, blk_cell h1 3, blk_cell h2 1⟩)
  have HY := Kit.hid hy
  have HB := Kit.hid hB
  have HLP := Kit.hid hlp
  clear h hp hB hy hlp hv0 hv1 hb0
  go_enter Try.func45, Try.ntmps45
  go_wp2_with fail
  rw [← hwb]
  clear hwb
  refine wp_region_noPanic ?_
  refine wp_region_held_drew (S := fun (w' : World) => w'.heap[w.heap.size]? = wb.heap[w.heap.size]? ∧ w'.heap[q]? = wb.heap[q]?) (by kernel_rfl) ⟨rfl, rfl⟩ (fun hHeld => ?_)
  refine wpAnyH_take (i := 0) (hi := by simp only [List.getElem?_toArray, List.getElem?_cons_succ, List.getElem?_cons_zero]; rfl) (v := ?_) (by kernel_rfl) (by kernel_rfl) (by kernel_rfl) (fun _ _ _ h => h) (Or.inl ⟨by rfl, ?_⟩) (by assumption) ?_
  rotate_left
  · (intro w hSw; (try dsimp only at hSw); go_simp; first | done | with_reducible rfl)
  try simp only [Act.put, List.setIfInBounds_toArray, List.set_cons_zero, List.set_cons_succ]
  refine wpAnyH_take (i := 1) (hi := by simp only [List.getElem?_toArray, List.getElem?_cons_succ, List.getElem?_cons_zero]; rfl) (v := ?_) (by kernel_rfl) (by kernel_rfl) (by kernel_rfl) (fun _ _ _ h => h) (Or.inl ⟨by rfl, ?_⟩) (by assumption) ?_
  rotate_left
  · (intro w hSw; (try dsimp only at hSw); (obtain ⟨x0, x1, x2, x3, x4⟩ := HS.out _ hSw); go_simp; first | done | with_reducible rfl)
  try simp only [Act.put, List.setIfInBounds_toArray, List.set_cons_zero, List.set_cons_succ]
  refine wpAnyH_take (i := 2) (hi := by simp only [List.getElem?_toArray, List.getElem?_cons_succ, List.getElem?_cons_zero]; rfl) (v := ?_) (by kernel_rfl) (by kernel_rfl) (by kernel_rfl) (fun _ _ _ h => h) (Or.inl ⟨by rfl, ?_⟩) (by assumption) ?_
  rotate_left
  · (intro w hSw; (try dsimp only at hSw); go_simp; first | done | with_reducible rfl)
  try simp only [Act.put, List.setIfInBounds_toArray, List.set_cons_zero, List.set_cons_succ]
  refine wpAnyH_take (i := 3) (hi := by simp only [List.getElem?_toArray, List.getElem?_cons_succ, List.getElem?_cons_zero]; rfl) (v := ?_) (by kernel_rfl) (by kernel_rfl) (by kernel_rfl) (fun _ _ _ h => h) (Or.inl ⟨by rfl, ?_⟩) (by assumption) ?_
  rotate_left
  · (intro w hSw; (try dsimp only at hSw); (obtain ⟨x0, x1, x2, x3, x4⟩ := HS.out _ hSw); go_simp; first | done | with_reducible rfl)
  try simp only [Act.put, List.setIfInBounds_toArray, List.set_cons_zero, List.set_cons_succ]
  refine wpAnyH_take (i := 4) (hi := by simp only [List.getElem?_toArray, List.getElem?_cons_succ, List.getElem?_cons_zero]; rfl) (v := ?_) (by kernel_rfl) (by kernel_rfl) (by kernel_rfl) (fun _ _ _ h => h) (Or.inl ⟨by rfl, ?_⟩) (by assumption) ?_
  rotate_left
  · (intro w hSw; (try dsimp only at hSw); go_simp; first | done | with_reducible rfl)
  try simp only [Act.put, List.setIfInBounds_toArray, List.set_cons_zero, List.set_cons_succ]
  refine wpAnyH_take (i := 5) (hi := by simp only [List.getElem?_toArray, List.getElem?_cons_succ, List.getElem?_cons_zero]; rfl) (v := ?_) (by kernel_rfl) (by kernel_rfl) (by kernel_rfl) (fun _ _ _ h => h) (Or.inl ⟨by rfl, ?_⟩) (by assumption) ?_
  rotate_left
  · (intro w hSw; (try dsimp only at hSw); go_simp; first | done | with_reducible rfl)
  try simp only [Act.put, List.setIfInBounds_toArray, List.set_cons_zero, List.set_cons_succ]
  refine wpAnyH_take (i := 6) (hi := by simp only [List.getElem?_toArray, List.getElem?_cons_succ, List.getElem?_cons_zero]; rfl) (v := ?_) (by kernel_rfl) (by kernel_rfl) (by kernel_rfl) (fun _ _ _ h => h) (Or.inl ⟨by rfl, ?_⟩) (by assumption) ?_
  rotate_left
  · (intro w hSw; (try dsimp only at hSw); (obtain ⟨x0, x1, x2, x3, x4⟩ := HS.out _ hSw); go_simp; first | done | with_reducible rfl)
  try simp only [Act.put, List.setIfInBounds_toArray, List.set_cons_zero, List.set_cons_succ]
  refine wpAnyH_take (i := 7) (hi := by simp only [List.getElem?_toArray, List.getElem?_cons_succ, List.getElem?_cons_zero]; rfl) (v := ?_) (by kernel_rfl) (by kernel_rfl) (by kernel_rfl) (fun _ _ _ h => h) (Or.inl ⟨by rfl, ?_⟩) (by assumption) ?_
  rotate_left
  · (intro w hSw; (try dsimp only at hSw); go_simp; first | done | with_reducible rfl)
  try simp only [Act.put, List.setIfInBounds_toArray, List.set_cons_zero, List.set_cons_succ]
  refine wpAnyH_take (i := 8) (hi := by simp only [List.getElem?_toArray, List.getElem?_cons_succ, List.getElem?_cons_zero]; rfl) (v := ?_) (by kernel_rfl) (by kernel_rfl) (by kernel_rfl) (fun _ _ _ h => h) (Or.inl ⟨by rfl, ?_⟩) (by assumption) ?_
  rotate_left
  · (intro w hSw; (try dsimp only at hSw); (obtain ⟨x0, x1, x2, x3, x4⟩ := HS.out _ hSw); go_simp; first | done | with_reducible rfl)
  try simp only [Act.put, List.setIfInBounds_toArray, List.set_cons_zero, List.set_cons_succ]
  refine wpAnyH_take (i := 9) (hi := by simp only [List.getElem?_toArray, List.getElem?_cons_succ, List.getElem?_cons_zero]; rfl) (v := ?_) (by kernel_rfl) (by kernel_rfl) (by kernel_rfl) (fun _ _ _ h => h) (Or.inl ⟨by rfl, ?_⟩) (by assumption) ?_
  rotate_left
  · (intro w hSw; (try dsimp only at hSw); go_simp; first | done | with_reducible rfl)
  try simp only [Act.put, List.setIfInBounds_toArray, List.set_cons_zero, List.set_cons_succ]
  refine wpAnyH_take (i := 10) (hi := by simp only [List.getElem?_toArray, List.getElem?_cons_succ, List.getElem?_cons_zero]; rfl) (v := ?_) (by kernel_rfl) (by kernel_rfl) (by kernel_rfl) (fun _ _ _ h => h) (Or.inl ⟨by rfl, ?_⟩) (by assumption) ?_
  rotate_left
  · (intro w hSw; (try dsimp only at hSw); (obtain ⟨x0, x1, x2, x3, x4⟩ := HS.out _ hSw); go_simp; first | done | with_reducible rfl)
  try simp only [Act.put, List.setIfInBounds_toArray, List.set_cons_zero, List.set_cons_succ]
  refine wpAnyH_take (i := 11) (hi := by simp only [List.getElem?_toArray, List.getElem?_cons_succ, List.getElem?_cons_zero]; rfl) (v := ?_) (by kernel_rfl) (by kernel_rfl) (by kernel_rfl) (fun _ _ _ h => h) (Or.inl ⟨by rfl, ?_⟩) (by assumption) ?_
  rotate_left
  · (intro w hSw; (try dsimp only at hSw); go_simp; first | done | with_reducible rfl)
  try simp only [Act.put, List.setIfInBounds_toArray, List.set_cons_zero, List.set_cons_succ]
  refine wpAnyH_take (i := 12) (hi := by simp only [List.getElem?_toArray, List.getElem?_cons_succ, List.getElem?_cons_zero]; rfl) (v := ?_) (by kernel_rfl) (by kernel_rfl) (by kernel_rfl) (fun _ _ _ h => h) (Or.inl ⟨by rfl, ?_⟩) (by assumption) ?_
  rotate_left
  · (intro w hSw; (try dsimp only at hSw); go_simp; first | done | with_reducible rfl)
  try simp only [Act.put, List.setIfInBounds_toArray, List.set_cons_zero, List.set_cons_succ]
  refine wpAnyH_take (i := 13) (hi := by simp only [List.getElem?_toArray, List.getElem?_cons_succ, List.getElem?_cons_zero]; rfl) (v := ?_) (by kernel_rfl) (by kernel_rfl) (by kernel_rfl) (fun _ _ _ h => h) (Or.inl ⟨by rfl, ?_⟩) (by assumption) ?_
  rotate_left
  · (intro w hSw; (try dsimp only at hSw); go_simp; first | done | with_reducible rfl)
  try simp only [Act.put, List.setIfInBounds_toArray, List.set_cons_zero, List.set_cons_succ]
  refine wpAnyH_take (i := 14) (hi := by simp only [List.getElem?_toArray, List.getElem?_cons_succ, List.getElem?_cons_zero]; rfl) (v := ?_) (by kernel_rfl) (by kernel_rfl) (by kernel_rfl) (fun _ _ _ h => h) (Or.inl ⟨by rfl, ?_⟩) (by assumption) ?_
  rotate_left
  · (intro w hSw; (try dsimp only at hSw); (obtain ⟨x0, x1, x2, x3, x4⟩ := HS.out _ hSw); go_simp; first | done | with_reducible rfl)
  try simp only [Act.put, List.setIfInBounds_toArray, List.set_cons_zero, List.set_cons_succ]
  refine wpAnyH_take (i := 15) (hi := by simp only [List.getElem?_toArray, List.getElem?_cons_succ, List.getElem?_cons_zero]; rfl) (v := ?_) (by kernel_rfl) (by kernel_rfl) (by kernel_rfl) (fun _ _ _ h => h) (Or.inl ⟨by rfl, ?_⟩) (by assumption) ?_
  rotate_left
  · (intro w hSw; (try dsimp only at hSw); go_simp; first | done | with_reducible rfl)
  try simp only [Act.put, List.setIfInBounds_toArray, List.set_cons_zero, List.set_cons_succ]
  refine wpAnyH_take (i := 16) (hi := by simp only [List.getElem?_toArray, List.getElem?_cons_succ, List.getElem?_cons_zero]; rfl) (v := ?_) (by kernel_rfl) (by kernel_rfl) (by kernel_rfl) (fun _ _ _ h => h) (Or.inl ⟨by rfl, ?_⟩) (by assumption) ?_
  rotate_left
  · (intro w hSw; (try dsimp only at hSw); go_simp; first | done | with_reducible rfl)
  try simp only [Act.put, List.setIfInBounds_toArray, List.set_cons_zero, List.set_cons_succ]
  refine wpAnyH_ready (rs := [17]) (by kernel_rfl) (by simp) ?_
  refine AllReadyH.cons (ho := by simp only [List.getElem?_toArray, List.getElem?_cons_succ, List.getElem?_cons_zero]; rfl) (fun K hK => ?_) (AllReadyH.nil)
  go_simp
  go_wp2_with fail
  refine hK.out _ _ ?_ (fun hHeldN => ?_)
  · exact ⟨set4 (by omega), set4 (by have := HLP.out; omega)⟩
  clear hHeld
  have hHeld := hHeldN
  clear hHeldN
  clear hK K
  try simp only [Act.put, List.setIfInBounds_toArray, List.set_cons_zero, List.set_cons_succ]
  clear hHeld
  refine wpAnyH_done (by kernel_rfl) ?_ _
  refine NoPanic.normal ?_
  skip
  go_wp2
  exact qmem_ret rfl (w.heap.size + 1) _ _ _ _ rfl (mem_store HY.out) rfl ⟨rfl, below_set4 HB.out.drew (by simp)⟩
end
end Go.Proofs.Ytggcbeoinmnopaa.Qu
namespace Go.Proofs.Ytggcbeoinmnopaa.QuM
variable {L l : List Mem}
theorem insM_perm (m : Mem) : ∀ L : List Mem, (insM m L).Perm (m :: L)
  | [] => List.Perm.refl _
  | y :: l => by
    unfold insM
    split
    · exact List.Perm.refl _
    · exact ((insM_perm m l).cons y).trans (List.Perm.swap m y l)
theorem uq_perm (h : l.Perm L) (hw : WQ L) : l.Pairwise fun a b => a.id ≠ b.id := (h.pairwise_iff (fun h e => h e.symm)).2 hw.uniq
theorem del_split (hu : l.Pairwise fun a b => a.id ≠ b.id) {i : Nat} {m : Mem} (hi : l[i]? = some m) : del l m.id = l.take i ++ l.drop (i + 1) := by
  obtain ⟨hl, rfl⟩ := List.getElem?_eq_some_iff.1 hi
  have e : l = l.take i ++ l[i] :: l.drop (i + 1) := by rw [← List.drop_eq_getElem_cons hl, List.take_append_drop]
  have hp : (l.take i ++ l[i] :: l.drop (i + 1)).Pairwise fun a b => a.id ≠ b.id := by rw [← e]; exact hu
  obtain ⟨h1, h2, h3⟩ := List.pairwise_append.1 hp
  have h4 := (List.pairwise_cons.1 h2).1
  have e2 : del l l[i].id = del (l.take i ++ l[i] :: l.drop (i + 1)) l[i].id := by rw [← e]
  rw [e2]
  unfold del
  rw [List.filter_append, List.filter_cons_of_neg (by simp)]
  congr 1
  · exact List.filter_eq_self.2 fun x hx => by simpa using h3 x hx l[i] (List.mem_cons_self ..)
  · exact List.filter_eq_self.2 fun x hx => by simpa using fun e => h4 x hx e.symm
theorem put_perm (h : l.Perm L) (hw : WQ L) {i : Nat} {m m' : Mem} (hi : l[i]? = some m) (he : m'.id = m.id) : (l.set i m').Perm (putM m' L) := by
  have h1 : (l.set i m').Perm (m' :: del l m.id) := by
    obtain ⟨hl, _⟩ := List.getElem?_eq_some_iff.1 hi
    rw [del_split (uq_perm h hw) hi, List.set_eq_take_append_cons_drop, if_pos hl]
    exact List.perm_middle
  refine h1.trans (List.Perm.trans ?_ (insM_perm m' _).symm)
  rw [he]
  exact (List.Perm.filter _ h).cons m'
theorem leave_perm (h : l.Perm L) (hw : WQ L) {i : Nat} {m : Mem} (hi : l[i]? = some m) : (l.take i ++ l.drop (i + 1)).Perm (del L m.id) := by
  rw [← del_split (uq_perm h hw) hi]
  exact List.Perm.filter _ h
theorem del_not {id : Int} (h : get L id = none) : del L id = L := List.filter_eq_self.2 fun x hx => by
  have := List.find?_eq_none.1 h x hx
  simpa using this
theorem join_perm (h : l.Perm L) {m : Mem} (hg : get L m.id = none) : (l ++ [m]).Perm (putM m L) := by
  refine List.Perm.trans ?_ (insM_perm m _).symm
  rw [del_not hg]
  exact (List.perm_append_comm (l₁ := l) (l₂ := [m])).trans (h.cons m)
def minV (a : Int) (l : List Mem) : Int := l.foldl (fun a m => min a m.v) a
theorem minV_snoc (a : Int) (l : List Mem) (m : Mem) : minV a (l ++ [m]) = min (minV a l) m.v := by simp [minV, List.foldl_append]
theorem minV_le : ∀ (l : List Mem) (a : Int), minV a l ≤ a ∧ ∀ m ∈ l, minV a l ≤ m.v
  | [], a => ⟨Int.le_refl _, fun m h => by cases h⟩
  | x :: l, a => by
    have h := minV_le l (min a x.v)
    have e : minV a (x :: l) = minV (min a x.v) l := rfl
    rw [e]
    refine ⟨by omega, fun m hm => ?_⟩
    rcases List.mem_cons.1 hm with rfl | hm
    · omega
    · exact h.2 m hm
theorem minV_is : ∀ (l : List Mem) (a : Int), minV a l = a ∨ ∃ m ∈ l, minV a l = m.v
  | [], a => .inl rfl
  | x :: l, a => by
    have e : minV a (x :: l) = minV (min a x.v) l := rfl
    rw [e]
    rcases minV_is l (min a x.v) with h | ⟨m, hm, h⟩
    · by_cases hx : a ≤ x.v
      · exact .inl (by omega)
      · exact .inr ⟨x, by simp, by omega⟩
    · exact .inr ⟨m, List.mem_cons_of_mem _ hm, h⟩
theorem minV_first (h : l.Perm L) (hw : WQ L) {a : Int} (ha : ∃ m ∈ l, a = m.v) : minV a l = firstV L := by
  obtain ⟨m0, hm0, rfl⟩ := ha
  have hne : L ≠ [] := by
    rintro rfl
    have := h.mem_iff.1 hm0
    cases this
  obtain ⟨z, hz, hf⟩ := first_mem hne
  apply Int.le_antisymm
  · rw [hf]
    exact (minV_le l _).2 z (h.mem_iff.2 hz)
  · rcases minV_is l m0.v with e | ⟨m, hm, e⟩
    · rw [e]; exact first_le hw m0 (h.mem_iff.1 hm0)
    · rw [e]; exact first_le hw m (h.mem_iff.1 hm)
end Go.Proofs.Ytggcbeoinmnopaa.QuM
namespace Go.Proofs.Ytggcbeoinmnopaa.Qu
open Go.RowKit Go.Proofs.Ytggcbeoinmnopaa.Kit Go.Proofs.Ytggcbeoinmnopaa.ShM Go.Proofs.Ytggcbeoinmnopaa.Sh Go.Proofs.Ytggcbeoinmnopaa.QuM
set_option linter.unusedVariables false
set_option linter.unusedSimpArgs false
theorem infoR : (Try.prog.info? 90).map (fun i => (i.zero, i.size, i.bytes)) = some (some (.agg #[.int .i64 0, .int .i64 0, .int .i64 0, .int .i64 0]), 4, 32) := by kernel_rfl
theorem litR (w : World) (a b c d : Int) : Cells (w.alloc (.cells #[.int .i64 a, .int .i64 b, .int .i64 c, .int .i64 d] 90)) (some ⟨w.heap.size, 0, none⟩) [.int .i64 a, .int .i64 b, .int .i64 c, .int .i64 d] := by
  have h := World.ownsRow_lit (base := 0) (e := 90) (size := 4) w #[.int .i64 a, .int .i64 b, .int .i64 c, .int .i64 d] 1 (Nat.zero_le _) (by decide) rfl
  obtain ⟨A, cap, hv, hc, _⟩ := own_readsS (by decide) h
  cases hv
  exact hc
theorem cells_over {w w' : World} {A : Option Addr} {l : List Value} (h : Cells w A l) (hb : Below w.heap.size w w') : Cells w' A l := fun i hi => by
  obtain ⟨ad, h1, h2⟩ := h i hi
  exact ⟨ad, h1, (hb.cell (cell_lt h2)).trans h2⟩
theorem flatM_len (b : Int) (l : List Mem) : (flatM b l).length = l.length * 4 := by
  induction l with
  | nil => rfl
  | cons x l ih =>
    have e : flatM b (x :: l) = .int .i64 x.id :: .int .i64 x.wt :: .int .i64 (x.v - b) :: .int .i64 x.rem :: flatM b l := rfl
    rw [e]
    simp only [List.length_cons, ih]
    omega
theorem flatM_app (b : Int) (l k : List Mem) : flatM b (l ++ k) = flatM b l ++ flatM b k := by simp [flatM]
theorem flatM_one (b : Int) (l : List Mem) : ∀ u ∈ flatM b l, u.oneCell' = true := by
  intro u hu
  obtain ⟨x, _, hx⟩ := List.mem_flatMap.1 hu
  simp at hx
  rcases hx with rfl | rfl | rfl | rfl <;> rfl
theorem flatM_set : ∀ (l : List Mem) (i : Nat) (m : Mem), i < l.length → ((((flatM 0 l).set (i * 4) (.int .i64 m.id)).set (i * 4 + 1) (.int .i64 m.wt)).set (i * 4 + 2) (.int .i64 m.v)).set (i * 4 + 3) (.int .i64 m.rem) = flatM 0 (l.set i m)
  | [], i, m, h => absurd h (Nat.not_lt_zero _)
  | x :: l, 0, m, h => by simp [flatM]
  | x :: l, i + 1, m, h => by
    have := flatM_set l i m (by simpa using h)
    have e : flatM 0 (x :: l) = .int .i64 x.id :: .int .i64 x.wt :: .int .i64 (x.v - 0) :: .int .i64 x.rem :: flatM 0 l := rfl
    have e2 : flatM 0 ((x :: l).set (i + 1) m) = .int .i64 x.id :: .int .i64 x.wt :: .int .i64 (x.v - 0) :: .int .i64 x.rem :: flatM 0 (l.set i m) := rfl
    rw [e, e2, ← this, show (i + 1) * 4 = i * 4 + 1 + 1 + 1 + 1 by omega]
    simp only [show i * 4 + 1 + 1 + 1 + 1 + 1 = (i * 4 + 1) + 1 + 1 + 1 + 1 by omega, show i * 4 + 1 + 1 + 1 + 1 + 2 = (i * 4 + 2) + 1 + 1 + 1 + 1 by omega, show i * 4 + 1 + 1 + 1 + 1 + 3 = (i * 4 + 3) + 1 + 1 + 1 + 1 by omega, List.set_cons_succ]
theorem row_some {w : World} {B n : Nat} {e : TypeId} {v : Value} {xs : List Value} (hn : 0 < n) (h : w.ownsRow B e 4 v n xs) : ∃ g c, v = .slice (some ⟨g, 0, none⟩) n c ∧ B ≤ g := by
  obtain ⟨A, c, hv, _, _, hA⟩ := own_readsS (by decide) h
  rcases hA with ⟨_, h0, _⟩ | ⟨g, rfl, hg, _⟩
  · omega
  · exact ⟨g, c, hv, hg⟩
/-- All blocks but one are kept: on and on. -/
theorem grown_trans {w w1 w2 : World} {q : Nat} (h : w.grownBy w1 (some q)) (k : w1.grownBy w2 (some q)) : w.grownBy w2 (some q) :=
  ⟨k.os.trans h.os, k.tape.trans h.tape, k.output.trans h.output, Nat.le_trans h.size k.size, fun x hx hn => (k.block x (Nat.lt_of_lt_of_le hx h.size) hn).trans (h.block x hx hn)⟩
theorem grown_below {w w1 : World} (q : Nat) (h : Below w.heap.size w w1) : w.grownBy w1 (some q) := ⟨h.os, h.tape, h.output, h.size, fun x hx _ => h.block x hx⟩
theorem grown_cell (w : World) (q k : Nat) (v : Value) : w.grownBy (w.setCell ⟨q, k, none⟩ v) (some q) :=
  ⟨rfl, rfl, rfl, by simp [World.setCell], fun x hx hn => Below.heap_setCell w ⟨q, k, none⟩ _ x (fun e => hn (by rw [e]))⟩
/-- What is written into a new block besides. -/
theorem grown_new {w w1 w2 : World} {q g : Nat} (h : w.grownBy w1 (some q)) (k : w1.grownBy w2 (some g)) (hg : w.heap.size ≤ g) : w.grownBy w2 (some q) :=
  ⟨k.os.trans h.os, k.tape.trans h.tape, k.output.trans h.output, Nat.le_trans h.size k.size, fun x hx hn => (k.block x (Nat.lt_of_lt_of_le hx h.size) (fun e => by have := Option.some.inj e; omega)).trans (h.block x hx hn)⟩
theorem set4i {w : World} {g k j : Nat} {a b c d : Value} (hne : k ≠ g) : ((((w.setCell ⟨g, j, none⟩ a).setCell ⟨g, j + 1, none⟩ b).setCell ⟨g, j + 2, none⟩ c).setCell ⟨g, j + 3, none⟩ d).heap[k]? = w.heap[k]? :=
  (Below.heap_setCell _ _ _ _ hne).trans ((Below.heap_setCell _ _ _ _ hne).trans ((Below.heap_setCell _ _ _ _ hne).trans (Below.heap_setCell _ _ _ _ hne)))
/-- A member is stored into a row. -/
theorem own_set4 {w : World} {B g c i : Nat} {l : List Mem} (m : Mem) (h : w.ownsRow B 90 4 (.slice (some ⟨g, 0, none⟩) l.length c) l.length (flatM 0 l)) (hi : i < l.length) :
    ((((w.setCell ⟨g, i * 4, none⟩ (.int .i64 m.id)).setCell ⟨g, i * 4 + 1, none⟩ (.int .i64 m.wt)).setCell ⟨g, i * 4 + 2, none⟩ (.int .i64 m.v)).setCell ⟨g, i * 4 + 3, none⟩ (.int .i64 m.rem)).ownsRow B 90 4 (.slice (some ⟨g, 0, none⟩) l.length c) l.length (flatM 0 (l.set i m)) ∧
    w.grownBy ((((w.setCell ⟨g, i * 4, none⟩ (.int .i64 m.id)).setCell ⟨g, i * 4 + 1, none⟩ (.int .i64 m.wt)).setCell ⟨g, i * 4 + 2, none⟩ (.int .i64 m.v)).setCell ⟨g, i * 4 + 3, none⟩ (.int .i64 m.rem)) (some g) := by
  have h1 := (h.stored (i * 4) (.int .i64 m.id)).1
  have h2 := (h1.stored (i * 4 + 1) (.int .i64 m.wt)).1
  have h3 := (h2.stored (i * 4 + 2) (.int .i64 m.v)).1
  have h4 := (h3.stored (i * 4 + 3) (.int .i64 m.rem)).1
  rw [flatM_set l i m hi] at h4
  exact ⟨h4, grown_trans (grown_trans (grown_trans (grown_cell _ _ _ _) (grown_cell _ _ _ _)) (grown_cell _ _ _ _)) (grown_cell _ _ _ _)⟩
section
variable {w w' : World} {q : Nat} {l L : List Mem} {base : Int}
set_option maxRecDepth 8000 in
set_option maxHeartbeats 3200000 in
theorem rset_any (h : RQ w q l L base) {i : Nat} {m0 : Mem} (m : Mem) (hi : l[i]? = some m0) {L' : List Mem} (hp : (l.set i m).Perm L') (hw : WQ L') (hb : QB L' base) :
    Calls Try.prog 57 #[.pointer (some ⟨q, 0, none⟩), .int .i64 i, .agg #[.int .i64 m.id, .int .i64 m.wt, .int .i64 m.v, .int .i64 m.rem]] w fun e w' => e = .returned (.tuple #[]) ∧ RQ w' q (l.set i m) L' base ∧ w.grownBy w' (some q) := by
  have HT := Kit.hid h
  have hil := (List.getElem?_eq_some_iff.1 hi).1
  have hll := h.2.2.2.2
  have HP' : Hid ((l.set i m).Perm L' ∧ WQ L' ∧ QB L' base ∧ (l.set i m).length ≤ 200) := Kit.hid ⟨hp, hw, hb, by rw [List.length_set]; exact hll⟩
  obtain ⟨w1, hw1⟩ : ∃ w1, w1 = w.alloc (.cells #[.int .i64 m.id, .int .i64 m.wt, .int .i64 m.v, .int .i64 m.rem] 90) := ⟨_, rfl⟩
  have HB1 : Hid (Below w.heap.size w w1) := Kit.hid (by rw [hw1]; exact (Below.refl _ _).alloc (Nat.le_refl _) _)
  have HX1 : Hid (w1.heap[w.heap.size]? = some (.cells #[.int .i64 m.id, .int .i64 m.wt, .int .i64 m.v, .int .i64 m.rem] 90 (0, 0))) := Kit.hid (by rw [hw1]; exact blk_new _ _)
  have HT1 := Kit.hid (HT.out.below HB1.out)
  obtain ⟨A, c, hq1, _, hcl⟩ := HT1.out.look
  have q0 := blk_cell hq1 0
  have ql := blk_lt hq1
  have HQ1 := Kit.hid hq1
  have HCL : Hid (∀ {wd : World}, Below w1.heap.size w1 wd → Cells wd A (flatM 0 l)) := Kit.hid (fun hd => cells_over hcl hd)
  have hown0 : (w1.alloc (.cells #[] 90)).ownsRow w1.heap.size 90 4 (.slice (some ⟨w1.heap.size, 0, none⟩) 0 0) 0 [] := World.ownsRow_lit w1 #[] 0 (Nat.le_refl _) (by decide) rfl
  have hd0 : Below w1.heap.size w1 (w1.alloc (.cells #[] 90)) := (Below.refl _ _).alloc (Nat.le_refl _) _
  have HOWN := Kit.hid hown0
  have HD0 := Kit.hid hd0
  have q2 : (w1.alloc (.cells #[] 90)).cell? ⟨q, 0, none⟩ = some (.slice A l.length c) := (HD0.out.cell ql).trans q0
  clear h hi hp hw hb hq1 hcl hown0 hd0
  go_enter Try.func57, Try.ntmps57
  go_upto_region 1 with fail
  rw [← hw1]
  clear hw1
  go_upto_region 2 with (at_builtin; refine wpList_append_srcS rfl _ _ 54 rfl w1.heap.size 90 (.agg #[.int .i64 0, .int .i64 0, .int .i64 0, .int .i64 0]) 4 32 (by decide) Try.underlying54 infoR rfl _ 0 _ rfl HOWN.out A l.length c (flatM 0 l) rfl (flatM_len 0 l) (HCL.out HD0.out) (flatM_one _ _) (by unfold maxLen; omega) (by omega) (by simp) ?_; intro v5 w5 hown5 hg5 _; rw [Nat.zero_add, List.nil_append] at hown5; obtain ⟨g5, c5, hv5, hgb5⟩ := row_some (by omega) hown5; subst hv5; have HB5 := Kit.hid (below_ownS (B := w1.heap.size) (w0 := w1) HD0.out HOWN.out hg5 (by simp)); have HP5 := Kit.hid hown5; have HQ5 := Kit.hid (blk_below HQ1.out HB5.out); have HX5 := Kit.hid (blk_below HX1.out HB5.out); have q5 := blk_cell HQ5.out 0; have q5f := blk_frozen HQ5.out 0; have q5l := blk_lt HQ5.out; have HG5 := Kit.hid hgb5; clear hown5 hg5 q0 q2)
  have HQL : Hid (q < w.heap.size) := Kit.hid (by
    obtain ⟨A, c, hq, _⟩ := HT.out.look
    exact blk_lt hq)
  have HG : Hid (g5 ≠ q ∧ g5 ≠ w.heap.size ∧ w.heap.size + 1 ≤ g5) := Kit.hid (by
    have := HG5.out
    have := HQL.out
    have := blk_lt HX1.out
    omega)
  have HQ6 := Kit.hid (blk_put HQ5.out 0 (.slice (some ⟨g5, 0, none⟩) l.length c5) (cs' := #[.slice (some ⟨g5, 0, none⟩) l.length c5, .int .i64 base]) rfl)
  have HX6 := Kit.hid ((Below.heap_setCell w5 ⟨q, 0, none⟩ (.slice (some ⟨g5, 0, none⟩) l.length c5) w.heap.size (by have := HQL.out; simp; omega)).trans HX5.out)
  have HP6 := Kit.hid (own_keptS HP5.out (grown_cell w5 q 0 (.slice (some ⟨g5, 0, none⟩) l.length c5)) (.inr (by intro e; exact HG.out.1 (Option.some.inj e))))
  have HW6 : Hid (w.grownBy (w5.setCell ⟨q, 0, none⟩ (.slice (some ⟨g5, 0, none⟩) l.length c5)) (some q)) := Kit.hid (grown_trans (grown_below q (HB1.out.trans (HB5.out.mono HB1.out.size))) (grown_cell _ _ _ _))
  generalize w5.setCell ⟨q, 0, none⟩ (.slice (some ⟨g5, 0, none⟩) l.length c5) = w6 at HQ6 HX6 HP6 HW6 ⊢
  have HS : Hid (∀ w' : World, (w'.heap[q]? = w6.heap[q]? ∧ w'.heap[w.heap.size]? = w6.heap[w.heap.size]?) → w'.cell? ⟨q, 0, none⟩ = some (.slice (some ⟨g5, 0, none⟩) l.length c5) ∧ w'.cell? ⟨w.heap.size, 0, none⟩ = some (.int .i64 m.id) ∧ w'.cell? ⟨w.heap.size, 1, none⟩ = some (.int .i64 m.wt) ∧ w'.cell? ⟨w.heap.size, 2, none⟩ = some (.int .i64 m.v) ∧ w'.cell? ⟨w.heap.size, 3, none⟩ = some (.int .i64 m.rem)) := Kit.hid (fun w' h => by
    have h1 := h.1.trans HQ6.out
    have h2 := h.2.trans HX6.out
    exact ⟨blk_cell h1 0, blk_cell h2 0, blk_cell h2 1, blk_cell h2 2, blk_cell h2 3⟩)
  have hfl := flatM_len 0 l
  have zz : ∀ k, k < 4 → ∃ u, w6.cell? ⟨g5, i * 4 + k, none⟩ = some u := fun k hk => by
    rw [World.ownsRow.cellAt HP6.out (i * 4 + k) (by omega)]
    exact ⟨_, List.getElem?_eq_getElem (by omega)⟩
  obtain ⟨u0, z0⟩ := zz 0 (by omega)
  obtain ⟨u1, z1⟩ := zz 1 (by omega)
  obtain ⟨u2, z2⟩ := zz 2 (by omega)
  obtain ⟨u3, z3⟩ := zz 3 (by omega)
  rw [Nat.add_zero] at z0
  have f0 := World.ownsRow.frozenAt HP6.out (i * 4)
  have f1 := World.ownsRow.frozenAt HP6.out (i * 4 + 1)
  have f2 := World.ownsRow.frozenAt HP6.out (i * 4 + 2)
  have f3 := World.ownsRow.frozenAt HP6.out (i * 4 + 3)
  clear zz hfl q5 q5f q5l ql
  refine wp_region_noPanic ?_
  refine wp_region_held_drew (S := fun (w' : World) => w'.heap[q]? = w6.heap[q]? ∧ w'.heap[w.heap.size]? = w6.heap[w.heap.size]?) (by kernel_rfl) ⟨rfl, rfl⟩ (fun hHeld => ?_)
  refine wpAnyH_take (i := 0) (hi := by simp only [List.getElem?_toArray, List.getElem?_cons_succ, List.getElem?_cons_zero]; rfl) (v := ?_) (by kernel_rfl) (by kernel_rfl) (by kernel_rfl) (fun _ _ _ h => h) (Or.inl ⟨by rfl, ?_⟩) (by assumption) ?_
  rotate_left
  · (intro w hSw; (try dsimp only at hSw); go_simp; first | done | with_reducible rfl)
  try simp only [Act.put, List.setIfInBounds_toArray, List.set_cons_zero, List.set_cons_succ]
  refine wpAnyH_take (i := 1) (hi := by simp only [List.getElem?_toArray, List.getElem?_cons_succ, List.getElem?_cons_zero]; rfl) (v := ?_) (by kernel_rfl) (by kernel_rfl) (by kernel_rfl) (fun _ _ _ h => h) (Or.inl ⟨by rfl, ?_⟩) (by assumption) ?_
  rotate_left
  · (intro w hSw; (try dsimp only at hSw); (obtain ⟨x0, x1, x2, x3, x4⟩ := HS.out _ hSw); go_simp; first | done | with_reducible rfl)
  try simp only [Act.put, List.setIfInBounds_toArray, List.set_cons_zero, List.set_cons_succ]
  refine wpAnyH_take (i := 2) (hi := by simp only [List.getElem?_toArray, List.getElem?_cons_succ, List.getElem?_cons_zero]; rfl) (v := ?_) (by kernel_rfl) (by kernel_rfl) (by kernel_rfl) (fun _ _ _ h => h) (Or.inl ⟨by rfl, ?_⟩) (by assumption) ?_
  rotate_left
  · (intro w hSw; (try dsimp only at hSw); go_simp; first | done | with_reducible rfl)
  try simp only [Act.put, List.setIfInBounds_toArray, List.set_cons_zero, List.set_cons_succ]
  refine wpAnyH_take (i := 3) (hi := by simp only [List.getElem?_toArray, List.getElem?_cons_succ, List.getElem?_cons_zero]; rfl) (v := ?_) (by kernel_rfl) (by kernel_rfl) (by kernel_rfl) (fun _ _ _ h => h) (Or.inl ⟨by rfl, ?_⟩) (by assumption) ?_
  rotate_left
  · (intro w hSw; (try dsimp only at hSw); (obtain ⟨x0, x1, x2, x3, x4⟩ := HS.out _ hSw); go_simp; first | done | with_reducible rfl)
  try simp only [Act.put, List.setIfInBounds_toArray, List.set_cons_zero, List.set_cons_succ]
  refine wpAnyH_take (i := 4) (hi := by simp only [List.getElem?_toArray, List.getElem?_cons_succ, List.getElem?_cons_zero]; rfl) (v := ?_) (by kernel_rfl) (by kernel_rfl) (by kernel_rfl) (fun _ _ _ h => h) (Or.inl ⟨by rfl, ?_⟩) (by assumption) ?_
  rotate_left
  · (intro w hSw; (try dsimp only at hSw); go_simp; first | done | with_reducible rfl)
  try simp only [Act.put, List.setIfInBounds_toArray, List.set_cons_zero, List.set_cons_succ]
  refine wpAnyH_take (i := 5) (hi := by simp only [List.getElem?_toArray, List.getElem?_cons_succ, List.getElem?_cons_zero]; rfl) (v := ?_) (by kernel_rfl) (by kernel_rfl) (by kernel_rfl) (fun _ _ _ h => h) (Or.inl ⟨by rfl, ?_⟩) (by assumption) ?_
  rotate_left
  · (intro w hSw; (try dsimp only at hSw); (obtain ⟨x0, x1, x2, x3, x4⟩ := HS.out _ hSw); go_simp; first | done | with_reducible rfl)
  try simp only [Act.put, List.setIfInBounds_toArray, List.set_cons_zero, List.set_cons_succ]
  refine wpAnyH_take (i := 6) (hi := by simp only [List.getElem?_toArray, List.getElem?_cons_succ, List.getElem?_cons_zero]; rfl) (v := ?_) (by kernel_rfl) (by kernel_rfl) (by kernel_rfl) (fun _ _ _ h => h) (Or.inl ⟨by rfl, ?_⟩) (by assumption) ?_
  rotate_left
  · (intro w hSw; (try dsimp only at hSw); (obtain ⟨x0, x1, x2, x3, x4⟩ := HS.out _ hSw); go_simp; first | done | with_reducible rfl)
  try simp only [Act.put, List.setIfInBounds_toArray, List.set_cons_zero, List.set_cons_succ]
  refine wpAnyH_ready (rs := [7]) (by kernel_rfl) (by simp) ?_
  refine AllReadyH.cons (ho := by simp only [List.getElem?_toArray, List.getElem?_cons_succ, List.getElem?_cons_zero]; rfl) (fun K hK => ?_) (AllReadyH.nil)
  go_simp
  go_wp2_with fail
  refine hK.out _ _ ?_ (fun hHeldN => ?_)
  · exact ⟨set4i HG.out.1.symm, set4i HG.out.2.1.symm⟩
  clear hHeld
  have hHeld := hHeldN
  clear hHeldN
  clear hK K
  try simp only [Act.put, List.setIfInBounds_toArray, List.set_cons_zero, List.set_cons_succ]
  clear hHeld
  refine wpAnyH_done (by kernel_rfl) ?_ _
  refine NoPanic.normal ?_
  skip
  go_wp2
  have hfin := own_set4 m (w := w6.drew) HP6.out.drew hil
  go_end0
  refine ⟨rfl, ⟨⟨_, (set4i HG.out.1.symm).trans HQ6.out, ?_⟩, HP'.out⟩, grown_new (g := g5) (grown_trans HW6.out (grown_below q (Below.refl _ w6).drew)) ?_ (by have := HG.out.2.2; omega)⟩
  · rw [List.length_set]
    exact ⟨hfin.1.1, hfin.1.2.imp id fun ⟨g, cap, cur, h1, h2, h3⟩ => ⟨g, cap, cur, h1, Nat.zero_le _, h3⟩⟩
  · exact hfin.2
theorem RQ.apart (h : RQ w q l L base) : ∀ v, w.heap[q]? = some (.cells #[v, .int .i64 base] 56 (0, 0)) → w.ownsRow 0 90 4 v l.length (flatM 0 l) → v.ownBlock ≠ some q := by
  intro v hq hr e
  rcases hr.2 with ⟨rfl, _⟩ | ⟨g, cap, cur, rfl, h4, h5, h6⟩
  · cases e
  · cases e
    rw [h5] at hq
    simp at hq
theorem RQ.rebase (h : RQ w q l L base) {b' : Int} (hb : QB L b') : RQ (w.setCell ⟨q, 1, none⟩ (.int .i64 b')) q l L b' ∧ w.grownBy (w.setCell ⟨q, 1, none⟩ (.int .i64 b')) (some q) := by
  have ha := h.apart
  obtain ⟨⟨v, h1, h2⟩, h3, h4, h5, h6⟩ := h
  exact ⟨⟨⟨v, blk_put h1 1 (.int .i64 b') (cs' := #[v, .int .i64 b']) rfl, own_keptS h2 (grown_cell _ _ _ _) (.inr (ha v h1 h2))⟩, h3, h4, hb, h6⟩, grown_cell _ _ _ _⟩
/-- What the document's queue is behind a change. -/
def RQPost (q : Nat) (l : List Mem) (c : Int) (L' : List Mem) (base' : Int) (w : World) (e : Ending) (w' : World) : Prop := e = .returned (.int .i64 c) ∧ ∃ l', RQ w' q l' L' base' ∧ l'.length ≤ l.length + 1 ∧ w.grownBy w' (some q)
theorem rqpost_same {c : Int} {e : Ending} (h : RQ w q l L base) (hb : Below w.heap.size w w') (he : e = .returned (.int .i64 c)) : RQPost q l c L base w e w' := ⟨he, l, h.below hb, Nat.le_succ _, grown_below q hb⟩
set_option maxRecDepth 8000 in
set_option maxHeartbeats 3200000 in
theorem rqrun_any (h : RQ w q l L base) (id t : Int) :
    Calls Try.prog 40 #[.pointer (some ⟨q, 0, none⟩), .int .i64 id, .int .i64 t] w (RQPost q l (runR L base id t).1 (runR L base id t).2.1 (runR L base id t).2.2 w) := by
  have HT := Kit.hid h
  have HB0 : Hid (Below w.heap.size w w) := Kit.hid (Below.refl _ _)
  have HA := Kit.hid (rat_any h id)
  obtain ⟨A, c, hq, hr, _⟩ := h.look
  have q0 := blk_cell hq 0
  have ql := blk_lt hq
  have hll := h.2.2.2.2
  clear h hq
  go_enter Try.func40, Try.ntmps40
  go_wp2_with fail
  (with_reducible refine HA.out.mono ?_); rintro e w1 ⟨hcase, rfl⟩
  clear HA
  rcases hcase with ⟨i, m0, hi, hid, rfl⟩ | ⟨hno, rfl⟩
  rotate_left
  · have HR : Hid (runR L base id t = (8, L, base)) := Kit.hid (by unfold runR; rw [rget_not HT.out.2.1 hno])
    clear hno
    go_wp2
    go_ret
    rw [HR.out]
    exact rqpost_same HT.out HB0.out rfl
  have hgt : get L id = some m0 := by rw [← hid]; exact rget_at HT.out.2.1 HT.out.2.2.1 hi
  have HGT := Kit.hid hgt
  have HID := Kit.hid hid
  have HI := Kit.hid hi
  obtain ⟨ad, rfl, c0, c1, c2, c3⟩ := t_at hr hi
  have hil := (List.getElem?_eq_some_iff.1 hi).1
  have HE := Kit.hid (HT.out.each m0 (List.mem_of_getElem? hi))
  have g0 : ¬ (i : Int) < 0 := by omega
  clear hgt hid hi
  by_cases a1 : t < 0
  · have HR : Hid (runR L base id t = (1, L, base)) := Kit.hid (by unfold runR; rw [HGT.out]; dsimp only; rw [if_pos (.inl a1)])
    have g1 : decide (t < 0) = true := decide_eq_true a1
    clear a1
    go_wp2
    go_ret
    rw [HR.out]
    exact rqpost_same HT.out HB0.out rfl
  have g1 : decide (t < 0) = false := decide_eq_false a1
  by_cases a2 : 1099511627776 < t
  · have HR : Hid (runR L base id t = (1, L, base)) := Kit.hid (by unfold runR; rw [HGT.out]; dsimp only; rw [if_pos (.inr a2)])
    have g2 : decide (1099511627776 < t) = true := decide_eq_true a2
    clear a2 a1
    go_wp2
    go_ret
    rw [HR.out]
    exact rqpost_same HT.out HB0.out rfl
  have g2 : decide (1099511627776 < t) = false := decide_eq_false a2
  have HRN : Hid (runR L base id t = if 2305843009213693952 < (ranM m0 t).v then (6, L, base) else (0, putM (ranM m0 t) L, max base (firstV (putM (ranM m0 t) L)))) := Kit.hid (by unfold runR; rw [HGT.out]; dsimp only; rw [if_neg (by omega)])
  have HRUN := Kit.hid (fun (w' : World) => rrun_any m0.v m0.rem m0.wt t w' HE.out.2.2.1 HE.out.2.2.2.1 (by omega) (by omega) (by have := HE.out.2.2.2.2.2.2.1; have := HT.out.2.2.2.1.b0; omega) HE.out.2.2.2.2.2.2.2 HE.out.2.2.2.2.1 HE.out.2.2.2.2.2.1)
  obtain ⟨m, hm⟩ : ∃ m, m = ranM m0 t := ⟨_, rfl⟩
  have HME : Hid (m.id = m0.id ∧ m.wt = m0.wt ∧ m.v = m0.v + (1048576 * t + m0.rem) / m0.wt ∧ m.rem = (1048576 * t + m0.rem) % m0.wt) := Kit.hid (by rw [hm]; exact ⟨rfl, rfl, rfl, rfl⟩)
  rw [← HME.out.2.2.1, ← HME.out.2.2.2] at HRUN
  have HRO := Kit.hid (ran_ok (m := m0) (t := t) HE.out.2.2.1 HE.out.2.2.2.2.1 (by omega))
  rw [← hm] at HRN HRO
  have HB1 : Hid (Below w1.heap.size w1 (w1.alloc (.cells #[.int .i64 m0.id, .int .i64 m0.wt, .int .i64 m0.v, .int .i64 m0.rem] 90))) := Kit.hid ((Below.refl _ _).alloc (Nat.le_refl _) _)
  have hx := blk_new w1 (.cells #[.int .i64 m0.id, .int .i64 m0.wt, .int .i64 m0.v, .int .i64 m0.rem] 90)
  have HX := Kit.hid hx
  have x1 := blk_cell hx 1
  have x2 := blk_cell hx 2
  have x3 := blk_cell hx 3
  have lx := blk_lt hx
  clear a1 a2 hm hx
  go_wp2_with fail
  generalize w1.alloc (.cells #[.int .i64 m0.id, .int .i64 m0.wt, .int .i64 m0.v, .int .i64 m0.rem] 90) = wb at HB1 HX x1 x2 x3 lx ⊢
  (with_reducible refine (HRUN.out _).mono ?_); rintro e w2 ⟨rfl, hb2⟩
  have HB2 := Kit.hid (HB1.out.trans (hb2.mono HB1.out.size))
  have HX2 := Kit.hid (blk_below HX.out hb2)
  have y1 := blk_cell HX2.out 2
  have y2 := blk_cell HX2.out 3
  have f1 := blk_frozen HX2.out 2
  have f2 := blk_frozen HX2.out 3
  have l2 := blk_lt HX2.out
  have HBS := Kit.hid ((HB2.out.setCell (p := ⟨w1.heap.size, 2, none⟩) (Nat.le_refl _) (.int .i64 m.v)).setCell (p := ⟨w1.heap.size, 3, none⟩) (Nat.le_refl _) (.int .i64 m.rem))
  have hx3 := blk_put (blk_put HX2.out 2 (.int .i64 m.v) (cs' := #[.int .i64 m0.id, .int .i64 m0.wt, .int .i64 m.v, .int .i64 m0.rem]) rfl) 3 (.int .i64 m.rem) (cs' := #[.int .i64 m0.id, .int .i64 m0.wt, .int .i64 m.v, .int .i64 m.rem]) rfl
  clear hb2 x1 x2 x3 lx HRUN c0 c1 c2 c3
  go_upto_region 8 with fail
  generalize (w2.setCell ⟨w1.heap.size, 2, none⟩ (.int .i64 m.v)).setCell ⟨w1.heap.size, 3, none⟩ (.int .i64 m.rem) = w3 at HBS hx3 ⊢
  have HX3 := Kit.hid hx3
  have b2 := blk_cell hx3 2
  have b3 := blk_cell hx3 3
  have b1 := blk_cell hx3 1
  have b0 := blk_cell hx3 0
  have bl := blk_lt hx3
  clear y1 y2 f1 f2 l2 hx3 HX2
  by_cases a3 : 2305843009213693952 < m.v
  · have HR : Hid (runR L base id t = (6, L, base)) := Kit.hid (by rw [HRN.out, if_pos a3])
    have g3 : (2305843009213693952 : Int) < m.v := a3
    clear a3
    go_wp2
    go_ret
    rw [HR.out]
    exact rqpost_same HT.out HBS.out rfl
  have g3 : decide ((2305843009213693952 : Int) < m.v) = false := decide_eq_false a3
  have HR : Hid (runR L base id t = (0, putM m L, max base (firstV (putM m L)))) := Kit.hid (by rw [HRN.out, if_neg a3])
  have HQB := Kit.hid (by
    have := HT.out.2.2.2.1.run HT.out.2.2.1 id t
    rw [HR.out] at this
    exact this)
  have HPP := Kit.hid (put_perm HT.out.2.1 HT.out.2.2.1 (m' := m) HI.out HME.out.1)
  have HPW := Kit.hid (put_wq HT.out.2.2.1 m)
  have HPB : Hid (QB (putM m L) base) := Kit.hid (HT.out.2.2.2.1.put (by
    obtain ⟨e1, e2, e3, e4, e5, e6, e7, e8⟩ := HE.out
    obtain ⟨k1, k2, k3, k4⟩ := HME.out
    obtain ⟨r1, r2, r3⟩ := HRO.out
    refine ⟨by omega, by omega, by omega, by omega, by omega, by omega, by omega, by omega⟩))
  have HS := Kit.hid (rset_any (HT.out.below HBS.out) m HI.out HPP.out HPW.out HPB.out)
  have HLM : Hid (w1.heap.size ≠ q) := Kit.hid (by omega)
  rw [HME.out.1, HME.out.2.1] at HS
  clear a3 HRN
  go_wp2_with fail
  (with_reducible refine HS.out.mono ?_); rintro e w4 ⟨rfl, h4, hg4⟩
  have HT4 := Kit.hid h4
  have HG4 := Kit.hid (grown_trans (grown_below q HBS.out) hg4)
  have hx4 : w4.heap[w1.heap.size]? = _ := (hg4.block w1.heap.size bl (fun e => HLM.out (Option.some.inj e))).trans HX3.out
  have d2 := blk_cell hx4 2
  have dl := blk_lt hx4
  obtain ⟨l', hl'⟩ : ∃ l', l' = l.set i m := ⟨_, rfl⟩
  have HML : Hid (∃ y ∈ l', m.v = y.v) := Kit.hid ⟨m, by rw [hl']; exact List.mem_set hil m, rfl⟩
  have HLL : Hid (l'.length = l.length) := Kit.hid (by rw [hl', List.length_set])
  rw [← hl'] at HT4
  have hll4 := HT4.out.2.2.2.2
  obtain ⟨A4, c4, hq4, hr4, _⟩ := HT4.out.look
  have q4 := blk_cell hq4 0
  have q5 := blk_cell hq4 1
  have q5f := blk_frozen hq4 1
  have q4l := blk_lt hq4
  clear h4 hg4 hx4 hl' hq4 b0 b1 b2 b3 bl HS q0 ql
  go_wp2_with fail
  go_loopw [9, 10] (fun v9 v10 wr => ∃ k : Nat, k ≤ l'.length ∧ v10 = .int .i64 k ∧ v9 = .int .i64 (minV m.v (l'.take k)) ∧ wr = w4) (fun _ v10 _ => l'.length - (intOf v10).toNat)
  case atStart => exact ⟨0, by omega, rfl, rfl, rfl⟩
  case round =>
    obtain ⟨k, hk, rfl, rfl, rfl⟩ := hrel
    by_cases hlt : k < l'.length
    · obtain ⟨y, hy⟩ : ∃ y, l'[k]? = some y := ⟨_, List.getElem?_eq_getElem hlt⟩
      obtain ⟨ad4, rfl, k0, k1, k2, k3⟩ := t_at hr4 hy
      have HMN : Hid (minV m.v (l'.take (k + 1)) = min (minV m.v (l'.take k)) y.v) := Kit.hid (by rw [List.take_add_one, hy]; exact minV_snoc _ _ _)
      obtain ⟨mv0, hmv⟩ : ∃ x, x = minV m.v (l'.take k) := ⟨_, rfl⟩
      rw [← hmv] at HMN ⊢
      clear hy hmv
      go_wp2
      go_roundw
      case rel => exact ⟨k + 1, by omega, by go_num, by rw [HMN.out]; refine congrArg _ ?_; split <;> omega, trivial⟩
      case measure => simp [intOf]; omega
    · obtain rfl : k = l'.length := by omega
      have HMV : Hid (minV m.v (l'.take l'.length) = firstV (putM m L)) := Kit.hid (by rw [List.take_length]; exact minV_first HT4.out.2.1 HPW.out HML.out)
      rw [HMV.out]
      obtain ⟨fv, hfv⟩ : ∃ x, x = firstV (putM m L) := ⟨_, rfl⟩
      have HFV := Kit.hid hfv
      rw [← hfv]
      clear hfv
      by_cases hbf : base < fv
      · have hmx : max base fv = fv := by omega
        have HMX := Kit.hid hmx
        clear hmx
        go_wp2
        go_ret
        have hfin := HT4.out.rebase (b' := fv) (by rw [← HMX.out, HFV.out]; exact HQB.out)
        rw [HR.out]
        exact ⟨rfl, l', by rw [← HFV.out, HMX.out]; exact hfin.1, by have := HLL.out; omega, grown_trans HG4.out hfin.2⟩
      · have hmx : max base fv = base := by omega
        have HMX := Kit.hid hmx
        have hfb : ¬ base < fv := hbf
        clear hmx
        go_wp2
        go_ret
        have hfin := HT4.out.rebase (b' := base) (by have := HQB.out; rw [← HFV.out, HMX.out] at this; exact this)
        rw [HR.out]
        exact ⟨rfl, l', by rw [← HFV.out, HMX.out]; exact hfin.1, by have := HLL.out; omega, grown_trans HG4.out hfin.2⟩
set_option maxRecDepth 8000 in
set_option maxHeartbeats 3200000 in
theorem rqweigh_any (h : RQ w q l L base) (id u : Int) :
    Calls Try.prog 41 #[.pointer (some ⟨q, 0, none⟩), .int .i64 id, .int .i64 u] w (RQPost q l (weighR L id u).1 (weighR L id u).2 base w) := by
  have HT := Kit.hid h
  have HB0 : Hid (Below w.heap.size w w) := Kit.hid (Below.refl _ _)
  have HA := Kit.hid (rat_any h id)
  obtain ⟨A, c, hq, hr, _⟩ := h.look
  have q0 := blk_cell hq 0
  have ql := blk_lt hq
  have hll := h.2.2.2.2
  clear h hq
  go_enter Try.func41, Try.ntmps41
  go_wp2_with fail
  (with_reducible refine HA.out.mono ?_); rintro e w1 ⟨hcase, rfl⟩
  clear HA
  rcases hcase with ⟨i, m0, hi, hid, rfl⟩ | ⟨hno, rfl⟩
  rotate_left
  · have HR : Hid (weighR L id u = (8, L)) := Kit.hid (by unfold weighR; rw [rget_not HT.out.2.1 hno])
    clear hno
    go_wp2
    go_ret
    rw [HR.out]
    exact rqpost_same HT.out HB0.out rfl
  have hgt : get L id = some m0 := by rw [← hid]; exact rget_at HT.out.2.1 HT.out.2.2.1 hi
  have HGT := Kit.hid hgt
  have HID := Kit.hid hid
  have HI := Kit.hid hi
  obtain ⟨ad, rfl, c0, c1, c2, c3⟩ := t_at hr hi
  have hil := (List.getElem?_eq_some_iff.1 hi).1
  have HE := Kit.hid (HT.out.each m0 (List.mem_of_getElem? hi))
  have g0 : ¬ (i : Int) < 0 := by omega
  clear hgt hid hi
  by_cases a1 : u < 1
  · have HR : Hid (weighR L id u = (1, L)) := Kit.hid (by unfold weighR; rw [HGT.out]; dsimp only; rw [if_pos (by omega)])
    have g1 : decide (u < 1) = true := decide_eq_true a1
    clear a1
    go_wp2
    go_ret
    rw [HR.out]
    exact rqpost_same HT.out HB0.out rfl
  have g1 : decide (u < 1) = false := decide_eq_false a1
  by_cases a2 : 1048576 < u
  · have HR : Hid (weighR L id u = (1, L)) := Kit.hid (by unfold weighR; rw [HGT.out]; dsimp only; rw [if_pos (by omega)])
    have g2 : decide (1048576 < u) = true := decide_eq_true a2
    clear a2 a1
    go_wp2
    go_ret
    rw [HR.out]
    exact rqpost_same HT.out HB0.out rfl
  have g2 : decide (1048576 < u) = false := decide_eq_false a2
  have HR : Hid (weighR L id u = (0, putM (weighM m0 u) L)) := Kit.hid (by unfold weighR; rw [HGT.out]; dsimp only; rw [if_neg (by omega)])
  have HRUN := Kit.hid (fun (w' : World) => rreweigh_any m0.v m0.rem m0.wt u w' HE.out.2.2.1 HE.out.2.2.2.1 (by omega) (by omega) HE.out.2.2.2.2.1 HE.out.2.2.2.2.2.1)
  obtain ⟨m, hm⟩ : ∃ m, m = weighM m0 u := ⟨_, rfl⟩
  have HME : Hid (m.id = m0.id ∧ m.wt = u ∧ m.v = m0.v ∧ m.rem = m0.rem * u / m0.wt) := Kit.hid (by rw [hm]; exact ⟨rfl, rfl, rfl, rfl⟩)
  rw [← HME.out.2.2.2] at HRUN
  have HRO := Kit.hid (weigh_ok (m := m0) (u := u) HE.out.2.2.1 HE.out.2.2.2.2.1 HE.out.2.2.2.2.2.1 (by omega))
  have HUB : Hid (1 ≤ u ∧ u ≤ 1048576) := Kit.hid (by omega)
  rw [← hm] at HR HRO
  have HB1 : Hid (Below w1.heap.size w1 (w1.alloc (.cells #[.int .i64 m0.id, .int .i64 m0.wt, .int .i64 m0.v, .int .i64 m0.rem] 90))) := Kit.hid ((Below.refl _ _).alloc (Nat.le_refl _) _)
  have hx := blk_new w1 (.cells #[.int .i64 m0.id, .int .i64 m0.wt, .int .i64 m0.v, .int .i64 m0.rem] 90)
  have HX := Kit.hid hx
  have x1 := blk_cell hx 1
  have x2 := blk_cell hx 2
  have x3 := blk_cell hx 3
  have lx := blk_lt hx
  clear a1 a2 hm hx
  go_wp2_with fail
  generalize w1.alloc (.cells #[.int .i64 m0.id, .int .i64 m0.wt, .int .i64 m0.v, .int .i64 m0.rem] 90) = wb at HB1 HX x1 x2 x3 lx ⊢
  (with_reducible refine (HRUN.out _).mono ?_); rintro e w2 ⟨rfl, hb2⟩
  have HB2 := Kit.hid (HB1.out.trans (hb2.mono HB1.out.size))
  have HX2 := Kit.hid (blk_below HX.out hb2)
  have y0 := blk_cell HX2.out 1
  have y1 := blk_cell HX2.out 2
  have y2 := blk_cell HX2.out 3
  have f0 := blk_frozen HX2.out 1
  have f1 := blk_frozen HX2.out 2
  have f2 := blk_frozen HX2.out 3
  have l2 := blk_lt HX2.out
  have HBS := Kit.hid (((HB2.out.setCell (p := ⟨w1.heap.size, 2, none⟩) (Nat.le_refl _) (.int .i64 m0.v)).setCell (p := ⟨w1.heap.size, 3, none⟩) (Nat.le_refl _) (.int .i64 m.rem)).setCell (p := ⟨w1.heap.size, 1, none⟩) (Nat.le_refl _) (.int .i64 u))
  have hx3 := blk_put (blk_put (blk_put HX2.out 2 (.int .i64 m0.v) (cs' := #[.int .i64 m0.id, .int .i64 m0.wt, .int .i64 m0.v, .int .i64 m0.rem]) rfl) 3 (.int .i64 m.rem) (cs' := #[.int .i64 m0.id, .int .i64 m0.wt, .int .i64 m0.v, .int .i64 m.rem]) rfl) 1 (.int .i64 u) (cs' := #[.int .i64 m0.id, .int .i64 u, .int .i64 m0.v, .int .i64 m.rem]) rfl
  clear hb2 x1 x2 x3 lx HRUN c0 c1 c2 c3
  go_upto_region 9 with fail
  generalize ((w2.setCell ⟨w1.heap.size, 2, none⟩ (.int .i64 m0.v)).setCell ⟨w1.heap.size, 3, none⟩ (.int .i64 m.rem)).setCell ⟨w1.heap.size, 1, none⟩ (.int .i64 u) = w3 at HBS hx3 ⊢
  have b2 := blk_cell hx3 2
  have b3 := blk_cell hx3 3
  have b1 := blk_cell hx3 1
  have b0 := blk_cell hx3 0
  have bl := blk_lt hx3
  have HPP := Kit.hid (put_perm HT.out.2.1 HT.out.2.2.1 (m' := m) HI.out HME.out.1)
  have HPW := Kit.hid (put_wq HT.out.2.2.1 m)
  have HPB : Hid (QB (putM m L) base) := Kit.hid (HT.out.2.2.2.1.put (by
    obtain ⟨e1, e2, e3, e4, e5, e6, e7, e8⟩ := HE.out
    obtain ⟨k1, k2, k3, k4⟩ := HME.out
    obtain ⟨r1, r2⟩ := HRO.out
    obtain ⟨v1, v2⟩ := HUB.out
    refine ⟨by omega, by omega, by omega, by omega, by omega, by omega, by omega, by omega⟩))
  have HS := Kit.hid (rset_any (HT.out.below HBS.out) m HI.out HPP.out HPW.out HPB.out)
  rw [HME.out.1, HME.out.2.1, HME.out.2.2.1] at HS
  clear y0 y1 y2 f0 f1 f2 l2 hx3 HX2
  go_wp2_with fail
  (with_reducible refine HS.out.mono ?_); rintro e w4 ⟨rfl, h4, hg4⟩
  have HT4 := Kit.hid h4
  have HG4 := Kit.hid (grown_trans (grown_below q HBS.out) hg4)
  clear h4 hg4 HS q0 ql b0 b1 b2 b3 bl
  go_wp2
  go_ret
  rw [HR.out]
  exact ⟨rfl, _, HT4.out, by rw [List.length_set]; exact Nat.le_succ _, HG4.out⟩
end
end Go.Proofs.Ytggcbeoinmnopaa.Qu
namespace Go.Proofs.Ytggcbeoinmnopaa.Kit
open Go
/-- Two operations may come up, and neither is the last. -/
theorem wpAnyT_two {P : Program} {ops : Array Oper} {Q : Exit → Act → World → Prop} {md : Region.Mode} {S : World → Prop} {n : Nat} {i j : Nat} {oi oj : Oper} {fuel : Nat} {listed : Array Bool} {a : Act} {w : World} (hr : Region.ready md ops listed = [i, j]) (hoi : ops[i]? = some oi) (hoj : ops[j]? = some oj)
    (h : ∀ K' : Act → World → Prop, Shut (∀ a w, S w → (S w → wpAnyT P md ops Q S n fuel (listed.setIfInBounds i true) a w) → K' a w) → if Region.wanted oi (yielded ops a.tmps) = true then Oper.wp P oi a w K' Q else K' (a.put oi.dst undef) w)
    (k : ∀ K' : Act → World → Prop, Shut (∀ a w, S w → (S w → wpAnyT P md ops Q S n fuel (listed.setIfInBounds j true) a w) → K' a w) → if Region.wanted oj (yielded ops a.tmps) = true then Oper.wp P oj a w K' Q else K' (a.put oj.dst undef) w) :
    wpAnyT P md ops Q S n (fuel + 1) listed a w := by
  refine ⟨fun h0 => (by rw [hr] at h0; cases h0), fun x hx => ?_⟩
  rw [hr] at hx
  rcases List.mem_cons.1 hx with rfl | hx
  · exact wpOp_step hoi (fun K' hK => h K' (fun a w hS hW => hK a w ⟨fun _ => hS, hW hS⟩))
  · obtain rfl := List.mem_singleton.1 hx
    exact wpOp_step hoj (fun K' hK => k K' (fun a w hS hW => hK a w ⟨fun _ => hS, hW hS⟩))
end Go.Proofs.Ytggcbeoinmnopaa.Kit
namespace Go.Proofs.Ytggcbeoinmnopaa.Qu
open Go.RowKit Go.Proofs.Ytggcbeoinmnopaa.Kit Go.Proofs.Ytggcbeoinmnopaa.ShM Go.Proofs.Ytggcbeoinmnopaa.Sh Go.Proofs.Ytggcbeoinmnopaa.QuM
set_option linter.unusedVariables false
set_option linter.unusedSimpArgs false
section
variable {w w' : World} {q : Nat} {l L : List Mem} {base : Int}
/-- A new row becomes the document's. -/
theorem RQ.put {w1 : World} {B : Nat} {v : Value} {l' L' : List Mem} (h : RQ w q l L base) (hb : Below w.heap.size w w1) (hr : w1.ownsRow B 90 4 v l'.length (flatM 0 l')) (hB : w.heap.size ≤ B) (hp : l'.Perm L') (hw : WQ L') (hq : QB L' base) (hl : l'.length ≤ 200) :
    RQ (w1.setCell ⟨q, 0, none⟩ v) q l' L' base ∧ w.grownBy (w1.setCell ⟨q, 0, none⟩ v) (some q) := by
  obtain ⟨A, c, h1, _⟩ := h.look
  have hq1 := blk_below h1 hb
  have hlt := blk_lt h1
  have hne : v.ownBlock ≠ some q := fun e => by
    have := (World.ownsRow.lt hr q e).1
    omega
  have hr0 : w1.ownsRow 0 90 4 v l'.length (flatM 0 l') := ⟨hr.1, hr.2.imp id fun ⟨g, cap, cur, h1, h2, h3⟩ => ⟨g, cap, cur, h1, Nat.zero_le _, h3⟩⟩
  exact ⟨⟨⟨v, blk_put hq1 0 v rfl, own_keptS hr0 (grown_cell _ _ _ _) (.inr hne)⟩, hp, hw, hq, hl⟩, grown_trans (grown_below q hb) (grown_cell _ _ _ _)⟩
/-- What is stored into a member's own variable leaves the document's queue alone. -/
theorem RQ.kept4 {g : Nat} {a b c d x0 x1 x2 x3 : Value} (h : RQ w q l L base) (hx : w.heap[g]? = some (.cells #[x0, x1, x2, x3] 32 (0, 0))) : RQ ((((w.setCell ⟨g, 0, none⟩ a).setCell ⟨g, 1, none⟩ b).setCell ⟨g, 2, none⟩ c).setCell ⟨g, 3, none⟩ d) q l L base := by
  obtain ⟨⟨v, h1, h2⟩, h3⟩ := h
  have hne : q ≠ g := fun e => by
    subst e
    rw [h1] at hx
    simp at hx
  refine ⟨⟨v, (set4 hne).trans h1, h2.1, ?_⟩, h3⟩
  rcases h2.2 with h2 | ⟨g', cap, cur, rfl, h4, h5, h6⟩
  · exact .inl h2
  · refine .inr ⟨g', cap, cur, rfl, h4, (set4 (fun e => ?_)).trans h5, h6⟩
    subst e
    rw [h5] at hx
    simp at hx
theorem cells_take {w : World} {A : Option Addr} {l : List Value} (h : Cells w A l) (k : Nat) : Cells w A (l.take k) := fun i hi => by
  have hi2 : i < l.length := by rw [List.length_take] at hi; omega
  obtain ⟨ad, h1, h2⟩ := h i hi2
  exact ⟨ad, h1, by rw [h2]; simp⟩
theorem cells_drop {w : World} {ad : Addr} {l : List Value} (h : Cells w (some ad) l) (k : Nat) : Cells w (some (ad.add k)) (l.drop k) := fun i hi => by
  have hi2 : k + i < l.length := by rw [List.length_drop] at hi; omega
  obtain ⟨ad', h1, h2⟩ := h (k + i) hi2
  cases h1
  exact ⟨ad.add k, rfl, by rw [add_add, h2]; simp⟩
theorem flatM_take (b : Int) : ∀ (l : List Mem) (i : Nat), flatM b (l.take i) = (flatM b l).take (i * 4)
  | [], i => by simp [flatM]
  | x :: l, 0 => by simp [flatM]
  | x :: l, i + 1 => by
    have e : flatM b (x :: l) = .int .i64 x.id :: .int .i64 x.wt :: .int .i64 (x.v - b) :: .int .i64 x.rem :: flatM b l := rfl
    have e2 : flatM b ((x :: l).take (i + 1)) = .int .i64 x.id :: .int .i64 x.wt :: .int .i64 (x.v - b) :: .int .i64 x.rem :: flatM b (l.take i) := rfl
    rw [e, e2, flatM_take b l i, show (i + 1) * 4 = i * 4 + 1 + 1 + 1 + 1 by omega]
    rfl
theorem flatM_drop (b : Int) : ∀ (l : List Mem) (i : Nat), flatM b (l.drop i) = (flatM b l).drop (i * 4)
  | [], i => by simp [flatM]
  | x :: l, 0 => by simp
  | x :: l, i + 1 => by
    have e : flatM b (x :: l) = .int .i64 x.id :: .int .i64 x.wt :: .int .i64 (x.v - b) :: .int .i64 x.rem :: flatM b l := rfl
    rw [e, List.drop_succ_cons, flatM_drop b l i, show (i + 1) * 4 = i * 4 + 1 + 1 + 1 + 1 by omega]
    rfl
set_option maxRecDepth 8000 in
set_option maxHeartbeats 3200000 in
theorem rqleave_any (h : RQ w q l L base) (id : Int) :
    Calls Try.prog 39 #[.pointer (some ⟨q, 0, none⟩), .int .i64 id] w fun e w' => e = .returned (.tuple #[gv (get L id) base, .int .i64 (if (get L id).isSome = true then 0 else 8)]) ∧ ∃ l', RQ w' q l' (del L id) base ∧ l'.length ≤ l.length + 1 ∧ w.grownBy w' (some q) := by
  have HT := Kit.hid h
  obtain ⟨w1, hw1⟩ : ∃ w1, w1 = w.alloc (.cells #[.int .i64 0, .int .i64 0, .int .i64 0, .int .i64 0] 32) := ⟨_, rfl⟩
  have HB1 : Hid (Below w.heap.size w w1) := Kit.hid (by rw [hw1]; exact (Below.refl _ _).alloc (Nat.le_refl _) _)
  have hx1 : w1.heap[w.heap.size]? = some (.cells #[.int .i64 0, .int .i64 0, .int .i64 0, .int .i64 0] 32 (0, 0)) := by rw [hw1]; exact blk_new _ _
  have HX1 := Kit.hid hx1
  have HT1 := Kit.hid (HT.out.below HB1.out)
  have HA := Kit.hid (rat_any HT1.out id)
  obtain ⟨A, c, hq, hr, _⟩ := HT1.out.look
  have q0 := blk_cell hq 0
  have ql := blk_lt hq
  have hll := h.2.2.2.2
  have y0 := blk_cell hx1 0
  have y1 := blk_cell hx1 1
  have y2 := blk_cell hx1 2
  have y3 := blk_cell hx1 3
  have f0 := blk_frozen hx1 0
  have f1 := blk_frozen hx1 1
  have f2 := blk_frozen hx1 2
  have f3 := blk_frozen hx1 3
  have lx := blk_lt hx1
  clear h hq hx1
  obtain ⟨cd, hcd⟩ : ∃ cd : Int, cd = if (get L id).isSome = true then 0 else 8 := ⟨_, rfl⟩
  rw [← hcd]
  have HCD := Kit.hid hcd
  clear hcd
  go_enter Try.func39, Try.ntmps39
  go_upto_region 1 with fail
  rw [← hw1]
  clear hw1
  go_wp2_with fail
  (with_reducible refine HA.out.mono ?_); rintro e w2 ⟨hcase, rfl⟩
  clear HA
  rcases hcase with ⟨i, m0, hi, hid, rfl⟩ | ⟨hno, rfl⟩
  rotate_left
  · have hg := rget_not HT.out.2.1 hno
    have HR : Hid (gv (get L id) base = .agg #[.int .i64 0, .int .i64 0, .int .i64 0, .int .i64 0] ∧ cd = 8 ∧ del L id = L) := Kit.hid ⟨by rw [hg]; rfl, by rw [HCD.out, hg]; rfl, del_not hg⟩
    clear hno hg
    go_wp2
    refine cell_tmp_ret rfl w.heap.size _ _ _ _ rfl rfl (mem_store HX1.out) rfl ⟨by rw [HR.out.1, HR.out.2.1]; rfl, l, ?_, Nat.le_succ _, grown_below q (below_set4 HB1.out (Nat.le_refl _))⟩
    rw [HR.out.2.2]
    exact HT.out.below (below_set4 HB1.out (Nat.le_refl _))
  have hgt : get L id = some m0 := by rw [← hid]; exact rget_at HT.out.2.1 HT.out.2.2.1 hi
  have HR : Hid (gv (get L id) base = tv m0 base ∧ cd = 0) := Kit.hid ⟨by rw [hgt]; rfl, by rw [HCD.out, hgt]; rfl⟩
  have HI := Kit.hid hi
  have HID := Kit.hid hid
  obtain ⟨ad, rfl, c0, c1, c2, c3⟩ := t_at hr hi
  have hil := (List.getElem?_eq_some_iff.1 hi).1
  have HE := Kit.hid (HT.out.each m0 (List.mem_of_getElem? hi))
  have g0 : ¬ (i : Int) < 0 := by omega
  have HTD := Kit.hid (rtold_any m0 HT1.out HE.out.2.2.2.2.2.2.1 HE.out.2.2.2.2.2.2.2)
  clear hgt hi hid f0 f1 f2 f3 y0 y1 y2 y3 lx
  go_wp2_with fail
  (with_reducible refine HTD.out.mono ?_); rintro e w3 ⟨rfl, hb3⟩
  have HB3 := Kit.hid (HB1.out.trans (hb3.mono HB1.out.size))
  obtain ⟨wz, hwz⟩ : ∃ wz, wz = w3.alloc (.cells #[.int .i64 m0.id, .int .i64 m0.wt, .int .i64 (m0.v - base), .int .i64 m0.rem] 32) := ⟨_, rfl⟩
  have HBZ : Hid (Below w.heap.size w wz) := Kit.hid (by rw [hwz]; exact HB3.out.alloc HB3.out.size _)
  have HMZ : Hid (wz.heap[w3.heap.size]? = some (.cells #[.int .i64 m0.id, .int .i64 m0.wt, .int .i64 (m0.v - base), .int .i64 m0.rem] 32 (0, 0))) := Kit.hid (by rw [hwz]; exact blk_new _ _)
  have HXZ : Hid (wz.heap[w.heap.size]? = some (.cells #[.int .i64 0, .int .i64 0, .int .i64 0, .int .i64 0] 32 (0, 0))) := Kit.hid (by rw [hwz]; exact blk_alloc (blk_below HX1.out hb3) _)
  have HL3 : Hid (w.heap.size < w3.heap.size) := Kit.hid (Nat.lt_of_lt_of_le (blk_lt HX1.out) hb3.size)
  unfold tv
  clear hb3 HTD c0 c1 c2 c3 q0 ql
  go_upto_region 5 with fail
  rw [← hwz]
  clear hwz
  have HTZ := Kit.hid (HT.out.below HBZ.out)
  obtain ⟨A2, k2, hqz, hrz, hclz⟩ := HTZ.out.look
  obtain ⟨ad2, rfl⟩ : ∃ ad2, A2 = some ad2 := by
    obtain ⟨ad2, h1, _⟩ := t_at hrz HI.out
    exact ⟨ad2, h1⟩
  have hkk : l.length ≤ k2 := by
    obtain ⟨⟨v, h1, h2⟩, _⟩ := HTZ.out
    rw [hqz] at h1
    simp at h1
    obtain ⟨A3, k3, hv3, _, hlk, _⟩ := own_readsS (by decide) h2
    rw [← h1] at hv3
    cases hv3
    exact hlk
  have HQZ := Kit.hid hqz
  have HS : Hid (∀ w' : World, Below wz.heap.size wz w' → w'.cell? ⟨q, 0, none⟩ = some (.slice (some ad2) l.length k2)) := Kit.hid (fun w' h => blk_cell (blk_below HQZ.out h) 0)
  have HCT : Hid (∀ w' : World, Below wz.heap.size wz w' → Cells w' (some ad2) (flatM 0 (l.take i))) := Kit.hid (fun w' h => by rw [flatM_take]; exact cells_take (cells_over hclz h) _)
  obtain ⟨AA, hAA⟩ : ∃ AA, (if k2 = i + 1 then some ad2 else some (ad2.add ((i + 1) * 4))) = AA := ⟨_, rfl⟩
  have HCDR : Hid (∀ w' : World, Below wz.heap.size wz w' → Cells w' AA (flatM 0 (l.drop (i + 1)))) := Kit.hid (fun w' h => by
    rw [← hAA]
    by_cases hk : k2 = i + 1
    · rw [show l.drop (i + 1) = [] from List.drop_eq_nil_of_le (by omega)]
      exact fun j hj => by cases hj
    · rw [if_neg hk, flatM_drop]
      exact cells_drop (cells_over hclz h) _)
  have HLT : Hid ((l.take i).length = i) := Kit.hid (by rw [List.length_take]; omega)
  have HLD : Hid ((l.drop (i + 1)).length = l.length - (i + 1)) := Kit.hid (List.length_drop ..)
  have hik : i ≤ k2 := by omega
  have hil2 : i ≤ l.length := by omega
  have hi1k : (i : Int) + 1 ≤ (l.length : Int) := by omega
  have hi10 : (0 : Int) ≤ (i : Int) + 1 := by omega
  have hwr : IntKind.i64.wrap ((i : Int) + 1) = (i : Int) + 1 := by rw [IntKind.wrap_i64]; omega
  clear hqz hrz hclz
  refine wp_region_noPanic ?_
  refine wp_region_T (fun (w' : World) => Below wz.heap.size wz w') 19 (by kernel_rfl) (Below.refl _ _).drew (fun hHeld => ?_)
  refine wpAnyT_take (i := 0) (hi := by simp only [List.getElem?_toArray, List.getElem?_cons_succ, List.getElem?_cons_zero]; rfl) (v := ?_) (by kernel_rfl) (by kernel_rfl) (by kernel_rfl) (by kernel_rfl) (fun _ _ _ h => h) (Or.inl ⟨by rfl, ?_⟩) (by assumption) ?_
  rotate_left
  · (intro w hSw; (try dsimp only at hSw); go_simp; first | done | with_reducible rfl)
  try simp only [Act.put, List.setIfInBounds_toArray, List.set_cons_zero, List.set_cons_succ]
  refine wpAnyT_take (i := 2) (hi := by simp only [List.getElem?_toArray, List.getElem?_cons_succ, List.getElem?_cons_zero]; rfl) (v := ?_) (by kernel_rfl) (by kernel_rfl) (by kernel_rfl) (by kernel_rfl) (fun _ _ _ h => h) (Or.inl ⟨by rfl, ?_⟩) (by assumption) ?_
  rotate_left
  · (intro w hSw; (try dsimp only at hSw); go_simp; first | done | with_reducible rfl)
  try simp only [Act.put, List.setIfInBounds_toArray, List.set_cons_zero, List.set_cons_succ]
  refine wpAnyT_take (i := 3) (hi := by simp only [List.getElem?_toArray, List.getElem?_cons_succ, List.getElem?_cons_zero]; rfl) (v := ?_) (by kernel_rfl) (by kernel_rfl) (by kernel_rfl) (by kernel_rfl) (fun _ _ _ h => h) (Or.inl ⟨by rfl, ?_⟩) (by assumption) ?_
  rotate_left
  · (intro w hSw; (try dsimp only at hSw); (have x0 := HS.out _ hSw); go_simp; first | done | with_reducible rfl)
  try simp only [Act.put, List.setIfInBounds_toArray, List.set_cons_zero, List.set_cons_succ]
  refine wpAnyT_take (i := 4) (hi := by simp only [List.getElem?_toArray, List.getElem?_cons_succ, List.getElem?_cons_zero]; rfl) (v := ?_) (by kernel_rfl) (by kernel_rfl) (by kernel_rfl) (by kernel_rfl) (fun _ _ _ h => h) (Or.inl ⟨by rfl, ?_⟩) (by assumption) ?_
  rotate_left
  · (intro w hSw; (try dsimp only at hSw); go_simp; first | done | with_reducible rfl)
  try simp only [Act.put, List.setIfInBounds_toArray, List.set_cons_zero, List.set_cons_succ]
  refine wpAnyT_take (i := 5) (hi := by simp only [List.getElem?_toArray, List.getElem?_cons_succ, List.getElem?_cons_zero]; rfl) (v := ?_) (by kernel_rfl) (by kernel_rfl) (by kernel_rfl) (by kernel_rfl) (fun _ _ _ h => h) (Or.inl ⟨by rfl, ?_⟩) (by assumption) ?_
  rotate_left
  · (intro w hSw; (try dsimp only at hSw); (have x0 := HS.out _ hSw); go_simp; first | done | with_reducible rfl)
  try simp only [Act.put, List.setIfInBounds_toArray, List.set_cons_zero, List.set_cons_succ]
  refine wpAnyT_take (i := 6) (hi := by simp only [List.getElem?_toArray, List.getElem?_cons_succ, List.getElem?_cons_zero]; rfl) (v := ?_) (by kernel_rfl) (by kernel_rfl) (by kernel_rfl) (by kernel_rfl) (fun _ _ _ h => h) (Or.inl ⟨by rfl, ?_⟩) (by assumption) ?_
  rotate_left
  · (intro w hSw; (try dsimp only at hSw); go_simp; first | done | with_reducible rfl)
  try simp only [Act.put, List.setIfInBounds_toArray, List.set_cons_zero, List.set_cons_succ]
  refine wpAnyT_take (i := 7) (hi := by simp only [List.getElem?_toArray, List.getElem?_cons_succ, List.getElem?_cons_zero]; rfl) (v := ?_) (by kernel_rfl) (by kernel_rfl) (by kernel_rfl) (by kernel_rfl) (fun _ _ _ h => h) (Or.inl ⟨by rfl, ?_⟩) (by assumption) ?_
  rotate_left
  · (intro w hSw; (try dsimp only at hSw); go_simp; first | done | with_reducible rfl)
  try simp only [Act.put, List.setIfInBounds_toArray, List.set_cons_zero, List.set_cons_succ]
  refine wpAnyT_take (i := 9) (hi := by simp only [List.getElem?_toArray, List.getElem?_cons_succ, List.getElem?_cons_zero]; rfl) (v := ?_) (by kernel_rfl) (by kernel_rfl) (by kernel_rfl) (by kernel_rfl) (fun _ _ _ h => h) (Or.inl ⟨by rfl, ?_⟩) (by assumption) ?_
  rotate_left
  · (intro w hSw; (try dsimp only at hSw); go_simp; first | done | with_reducible rfl)
  try simp only [Act.put, List.setIfInBounds_toArray, List.set_cons_zero, List.set_cons_succ]
  refine wpAnyT_take (i := 10) (hi := by simp only [List.getElem?_toArray, List.getElem?_cons_succ, List.getElem?_cons_zero]; rfl) (v := ?_) (by kernel_rfl) (by kernel_rfl) (by kernel_rfl) (by kernel_rfl) (fun _ _ _ h => h) (Or.inl ⟨by rfl, ?_⟩) (by assumption) ?_
  rotate_left
  · (intro w hSw; (try dsimp only at hSw); (have x0 := HS.out _ hSw); go_simp; first | done | with_reducible rfl)
  try simp only [Act.put, List.setIfInBounds_toArray, List.set_cons_zero, List.set_cons_succ]
  refine wpAnyT_take (i := 11) (hi := by simp only [List.getElem?_toArray, List.getElem?_cons_succ, List.getElem?_cons_zero]; rfl) (v := ?_) (by kernel_rfl) (by kernel_rfl) (by kernel_rfl) (by kernel_rfl) (fun _ _ _ h => h) (Or.inl ⟨by rfl, ?_⟩) (by assumption) ?_
  rotate_left
  · (intro w hSw; (try dsimp only at hSw); go_simp; first | done | with_reducible rfl)
  try simp only [Act.put, List.setIfInBounds_toArray, List.set_cons_zero, List.set_cons_succ]
  refine wpAnyT_take (i := 12) (hi := by simp only [List.getElem?_toArray, List.getElem?_cons_succ, List.getElem?_cons_zero]; rfl) (v := ?_) (by kernel_rfl) (by kernel_rfl) (by kernel_rfl) (by kernel_rfl) (fun _ _ _ h => h) (Or.inl ⟨by rfl, ?_⟩) (by assumption) ?_
  rotate_left
  · (intro w hSw; (try dsimp only at hSw); (have x0 := HS.out _ hSw); go_simp; first | done | with_reducible rfl)
  try simp only [Act.put, List.setIfInBounds_toArray, List.set_cons_zero, List.set_cons_succ]
  refine wpAnyT_take (i := 13) (hi := by simp only [List.getElem?_toArray, List.getElem?_cons_succ, List.getElem?_cons_zero]; rfl) (v := ?_) (by kernel_rfl) (by kernel_rfl) (by kernel_rfl) (by kernel_rfl) (fun _ _ _ h => h) (Or.inl ⟨by rfl, ?_⟩) (by assumption) ?_
  rotate_left
  · (intro w hSw; (try dsimp only at hSw); go_simp; first | done | with_reducible rfl)
  try simp only [Act.put, List.setIfInBounds_toArray, List.set_cons_zero, List.set_cons_succ]
  refine wpAnyT_take (i := 14) (hi := by simp only [List.getElem?_toArray, List.getElem?_cons_succ, List.getElem?_cons_zero]; rfl) (v := ?_) (by kernel_rfl) (by kernel_rfl) (by kernel_rfl) (by kernel_rfl) (fun _ _ _ h => h) (Or.inl ⟨by rfl, ?_⟩) (by assumption) ?_
  rotate_left
  · (intro w hSw; (try dsimp only at hSw); go_simp; first | done | with_reducible rfl)
  try simp only [Act.put, List.setIfInBounds_toArray, List.set_cons_zero, List.set_cons_succ]
  refine wpAnyT_take (i := 15) (hi := by simp only [List.getElem?_toArray, List.getElem?_cons_succ, List.getElem?_cons_zero]; rfl) (v := ?_) (by kernel_rfl) (by kernel_rfl) (by kernel_rfl) (by kernel_rfl) (fun _ _ _ h => h) (Or.inl ⟨by rfl, ?_⟩) (by assumption) ?_
  rotate_left
  · (intro w hSw; (try dsimp only at hSw); go_simp; first | done | with_reducible rfl)
  try simp only [Act.put, List.setIfInBounds_toArray, List.set_cons_zero, List.set_cons_succ]
  refine wpAnyT_step (i := 1) (by kernel_rfl) (ho := by simp only [List.getElem?_toArray, List.getElem?_cons_succ, List.getElem?_cons_zero]; rfl) (fun K hK => ?_)
  go_simp
  go_wp2_with fail
  have HO1 : Hid ((wz.drew.alloc (.cells #[] 90)).ownsRow wz.heap.size 90 4 (.slice (some ⟨wz.heap.size, 0, none⟩) 0 0) 0 []) := Kit.hid (World.ownsRow_lit wz.drew #[] 0 (Nat.le_refl _) (by decide) rfl)
  refine hK.out _ _ ?_ (fun hHeldN => ?_)
  · exact hHeld.alloc hHeld.size _
  clear hHeld
  have hHeld := hHeldN
  clear hHeldN
  clear hK K
  try simp only [Act.put, List.setIfInBounds_toArray, List.set_cons_zero, List.set_cons_succ]
  refine wpAnyT_step (i := 8) (by kernel_rfl) (ho := by simp only [List.getElem?_toArray, List.getElem?_cons_succ, List.getElem?_cons_zero]; rfl) (fun K hK => ?_)
  refine step_append_srcS rfl _ _ 54 rfl wz.heap.size 90 (.agg #[.int .i64 0, .int .i64 0, .int .i64 0, .int .i64 0]) 4 32 (by decide) Try.underlying54 infoR rfl _ 0 _ (by simp [Act.eval, Act.put]) HO1.out (some ad2) i k2 (flatM 0 (l.take i)) (by simp [Act.eval, Act.put]) (by rw [flatM_len, HLT.out]) (HCT.out _ hHeld) (flatM_one _ _) (by unfold maxLen; omega) (by omega) hHeld.size ?_
  intro v6 w6 hown6 hg6 _
  rw [Nat.zero_add, List.nil_append] at hown6
  have HD6 : Hid (Below wz.heap.size wz w6) := Kit.hid (hHeld.grown hg6 hHeld.size (fun k hk => (HO1.out.lt k hk).1))
  have HO6 := Kit.hid hown6
  clear hown6 hg6
  refine hK.out _ _ ?_ (fun hHeldN => ?_)
  · exact HD6.out
  clear hHeld
  have hHeld := hHeldN
  clear hHeldN
  clear hK K
  try simp only [Act.put, List.setIfInBounds_toArray, List.set_cons_zero, List.set_cons_succ]
  refine wpAnyT_step (i := 16) (by kernel_rfl) (ho := by simp only [List.getElem?_toArray, List.getElem?_cons_succ, List.getElem?_cons_zero]; rfl) (fun K hK => ?_)
  refine step_append_srcS rfl _ _ 54 rfl wz.heap.size 90 (.agg #[.int .i64 0, .int .i64 0, .int .i64 0, .int .i64 0]) 4 32 (by decide) Try.underlying54 infoR rfl _ i _ (by simp [Act.eval, Act.put]) HO6.out AA (l.length - (i + 1)) (k2 - (i + 1)) (flatM 0 (l.drop (i + 1))) (by simp [Act.eval, Act.put]) (by rw [flatM_len, HLD.out]) (HCDR.out _ hHeld) (flatM_one _ _) (by unfold maxLen; omega) (by omega) hHeld.size ?_
  intro v7 w7 hown7 hg7 _
  obtain ⟨A7, c7, hv7, _, _, _⟩ := own_readsS (by decide) hown7
  subst hv7
  have HD7 : Hid (Below wz.heap.size wz w7) := Kit.hid (hHeld.grown hg7 hHeld.size (fun k hk => (HO6.out.lt k hk).1))
  have HO7 : Hid (w7.ownsRow wz.heap.size 90 4 (.slice A7 (i + (l.length - (i + 1))) c7) (l.take i ++ l.drop (i + 1)).length (flatM 0 (l.take i ++ l.drop (i + 1)))) := Kit.hid (by
    rw [List.length_append, HLT.out, HLD.out, flatM_app]
    exact hown7)
  have HQ7 := Kit.hid (blk_below HQZ.out HD7.out)
  have q7 := blk_cell HQ7.out 0
  have q7f := blk_frozen HQ7.out 0
  have q7l := blk_lt HQ7.out
  clear hown7 hg7
  refine hK.out _ _ ?_ (fun hHeldN => ?_)
  · exact HD7.out
  clear hHeld
  have hHeld := hHeldN
  clear hHeldN
  clear hK K
  try simp only [Act.put, List.setIfInBounds_toArray, List.set_cons_zero, List.set_cons_succ]
  refine wpAnyT_step (i := 17) (by kernel_rfl) (ho := by simp only [List.getElem?_toArray, List.getElem?_cons_succ, List.getElem?_cons_zero]; rfl) (fun K hK => ?_)
  go_simp
  refine hK.out _ _ ?_ (fun hHeldN => ?_)
  · exact hHeld
  clear hHeld
  have hHeld := hHeldN
  clear hHeldN
  clear hK K
  try simp only [Act.put, List.setIfInBounds_toArray, List.set_cons_zero, List.set_cons_succ]
  refine wpAnyT_take (i := 18) (hi := by simp only [List.getElem?_toArray, List.getElem?_cons_succ, List.getElem?_cons_zero]; rfl) (v := ?_) (by kernel_rfl) (by kernel_rfl) (by kernel_rfl) (by kernel_rfl) (fun _ _ _ h => h) (Or.inl ⟨by rfl, ?_⟩) (by assumption) ?_
  rotate_left
  · (intro w hSw; (try dsimp only at hSw); go_simp; first | done | with_reducible rfl)
  try simp only [Act.put, List.setIfInBounds_toArray, List.set_cons_zero, List.set_cons_succ]
  refine wpAnyT_last (by kernel_rfl) (ho := by simp only [List.getElem?_toArray, List.getElem?_cons_succ, List.getElem?_cons_zero]; rfl) (fun K hK => ?_)
  go_simp
  go_wp2_with fail
  refine hK.out _ _ ?_
  clear hK K
  try simp only [Act.put, List.setIfInBounds_toArray, List.set_cons_zero, List.set_cons_succ]
  clear hHeld
  refine wpAnyT_done (by kernel_rfl) ?_ _
  refine NoPanic.normal ?_
  skip
  have hput := HTZ.out.put HD7.out HO7.out (Nat.le_refl _) (leave_perm HT.out.2.1 HT.out.2.2.1 HI.out) (del_wq HT.out.2.2.1 _) (HT.out.2.2.2.1.del _) (by rw [List.length_append, HLT.out, HLD.out]; omega)
  have HQW := Kit.hid hput.1
  have HGW := Kit.hid (grown_trans (grown_below q HBZ.out) hput.2)
  have HQL : Hid (q < w.heap.size) := Kit.hid (by
    obtain ⟨A, c, hq, _⟩ := HT.out.look
    exact blk_lt hq)
  have HMW : Hid ((w7.setCell ⟨q, 0, none⟩ (.slice A7 (i + (l.length - (i + 1))) c7)).heap[w3.heap.size]? = some (.cells #[.int .i64 m0.id, .int .i64 m0.wt, .int .i64 (m0.v - base), .int .i64 m0.rem] 32 (0, 0))) := Kit.hid ((Below.heap_setCell _ _ _ _ (by have := HQL.out; have := HL3.out; simp; omega)).trans (blk_below HMZ.out HD7.out))
  have HXW : Hid ((w7.setCell ⟨q, 0, none⟩ (.slice A7 (i + (l.length - (i + 1))) c7)).heap[w.heap.size]? = some (.cells #[.int .i64 0, .int .i64 0, .int .i64 0, .int .i64 0] 32 (0, 0))) := Kit.hid ((Below.heap_setCell _ _ _ _ (by have := HQL.out; simp; omega)).trans (blk_below HXZ.out HD7.out))
  clear hput
  generalize w7.setCell ⟨q, 0, none⟩ (.slice A7 (i + (l.length - (i + 1))) c7) = w8 at HQW HGW HMW HXW ⊢
  have e0 := blk_cell HMW.out 0
  have e1 := blk_cell HMW.out 1
  have e2 := blk_cell HMW.out 2
  have e3 := blk_cell HMW.out 3
  have le := blk_lt HMW.out
  have y0 := blk_cell HXW.out 0
  have y1 := blk_cell HXW.out 1
  have y2 := blk_cell HXW.out 2
  have y3 := blk_cell HXW.out 3
  have f0 := blk_frozen HXW.out 0
  have f1 := blk_frozen HXW.out 1
  have f2 := blk_frozen HXW.out 2
  have f3 := blk_frozen HXW.out 3
  have ly := blk_lt HXW.out
  go_wp2
  have hg4 : w.grownBy ((((w8.setCell ⟨w.heap.size, 0, none⟩ (.int .i64 m0.id)).setCell ⟨w.heap.size, 1, none⟩ (.int .i64 m0.wt)).setCell ⟨w.heap.size, 2, none⟩ (.int .i64 (m0.v - base))).setCell ⟨w.heap.size, 3, none⟩ (.int .i64 m0.rem)) (some q) :=
    grown_new (g := w.heap.size) HGW.out (grown_trans (grown_trans (grown_trans (grown_cell _ _ _ _) (grown_cell _ _ _ _)) (grown_cell _ _ _ _)) (grown_cell _ _ _ _)) (Nat.le_refl _)
  refine cell_tmp_ret rfl w.heap.size _ _ _ _ rfl rfl (mem_store HXW.out) rfl ⟨by rw [HR.out.1, HR.out.2]; rfl, l.take i ++ l.drop (i + 1), ?_, ?_, hg4⟩
  · have hb : RQ w8 q (l.take i ++ l.drop (i + 1)) (del L m0.id) base := HQW.out
    rw [HID.out] at hb
    exact hb.kept4 HXW.out
  · rw [List.length_append, HLT.out, HLD.out]
    omega
set_option maxRecDepth 8000 in
set_option maxHeartbeats 1600000 in
theorem rqget_any (h : RQ w q l L base) (id : Int) :
    Calls Try.prog 26 #[.pointer (some ⟨q, 0, none⟩), .int .i64 id] w fun e w' => e = .returned (.tuple #[gv (get L id) base, .bool (get L id).isSome]) ∧ Below w.heap.size w w' := by
  have HT := Kit.hid h
  obtain ⟨w1, hw1⟩ : ∃ w1, w1 = w.alloc (.cells #[.int .i64 0, .int .i64 0, .int .i64 0, .int .i64 0] 32) := ⟨_, rfl⟩
  have HB1 : Hid (Below w.heap.size w w1) := Kit.hid (by rw [hw1]; exact (Below.refl _ _).alloc (Nat.le_refl _) _)
  have hx1 : w1.heap[w.heap.size]? = some (.cells #[.int .i64 0, .int .i64 0, .int .i64 0, .int .i64 0] 32 (0, 0)) := by rw [hw1]; exact blk_new _ _
  have HX1 := Kit.hid hx1
  have HT1 := Kit.hid (HT.out.below HB1.out)
  have HA := Kit.hid (rat_any HT1.out id)
  obtain ⟨A, c, hq, hr, _⟩ := HT1.out.look
  have q0 := blk_cell hq 0
  have ql := blk_lt hq
  have hll := h.2.2.2.2
  have y0 := blk_cell hx1 0
  have y1 := blk_cell hx1 1
  have y2 := blk_cell hx1 2
  have y3 := blk_cell hx1 3
  have f0 := blk_frozen hx1 0
  have f1 := blk_frozen hx1 1
  have f2 := blk_frozen hx1 2
  have f3 := blk_frozen hx1 3
  have lx := blk_lt hx1
  clear h hq hx1
  go_enter Try.func26, Try.ntmps26
  go_upto_region 1 with fail
  rw [← hw1]
  clear hw1
  go_wp2_with fail
  (with_reducible refine HA.out.mono ?_); rintro e w2 ⟨hcase, rfl⟩
  clear HA
  rcases hcase with ⟨i, m0, hi, hid, rfl⟩ | ⟨hno, rfl⟩
  rotate_left
  · have hg := rget_not HT.out.2.1 hno
    have HR : Hid (gv (get L id) base = .agg #[.int .i64 0, .int .i64 0, .int .i64 0, .int .i64 0] ∧ (get L id).isSome = false) := Kit.hid ⟨by rw [hg]; rfl, by rw [hg]; rfl⟩
    clear hno hg
    go_wp2
    exact cell_tmp_ret rfl w.heap.size _ _ _ _ rfl rfl (mem_store HX1.out) rfl ⟨by rw [HR.out.1, HR.out.2]; rfl, below_set4 HB1.out (Nat.le_refl _)⟩
  have hgt : get L id = some m0 := by rw [← hid]; exact rget_at HT.out.2.1 HT.out.2.2.1 hi
  have HR : Hid (gv (get L id) base = tv m0 base ∧ (get L id).isSome = true) := Kit.hid ⟨by rw [hgt]; rfl, by rw [hgt]; rfl⟩
  obtain ⟨ad, rfl, c0, c1, c2, c3⟩ := t_at hr hi
  have hil := (List.getElem?_eq_some_iff.1 hi).1
  have HE := Kit.hid (HT.out.each m0 (List.mem_of_getElem? hi))
  have g0 : ¬ (i : Int) < 0 := by omega
  have HTD := Kit.hid (rtold_any m0 HT1.out HE.out.2.2.2.2.2.2.1 HE.out.2.2.2.2.2.2.2)
  clear hgt hi hid f0 f1 f2 f3 y0 y1 y2 y3 lx
  go_wp2_with fail
  (with_reducible refine HTD.out.mono ?_); rintro e w3 ⟨rfl, hb3⟩
  have HB3 := Kit.hid (HB1.out.trans (hb3.mono HB1.out.size))
  have HX3 := Kit.hid (blk_below HX1.out hb3)
  have y0 := blk_cell HX3.out 0
  have y1 := blk_cell HX3.out 1
  have y2 := blk_cell HX3.out 2
  have y3 := blk_cell HX3.out 3
  have f0 := blk_frozen HX3.out 0
  have f1 := blk_frozen HX3.out 1
  have f2 := blk_frozen HX3.out 2
  have f3 := blk_frozen HX3.out 3
  have lx := blk_lt HX3.out
  unfold tv
  clear hb3 HTD c0 c1 c2 c3 q0 ql
  go_wp2
  exact cell_tmp_ret rfl w.heap.size _ _ _ _ rfl rfl (mem_store HX3.out) rfl ⟨by rw [HR.out.1, HR.out.2]; rfl, below_set4 HB3.out (Nat.le_refl _)⟩
theorem lit_cells {w : World} {g : Nat} {a b c d : Int} (h : w.heap[g]? = some (.cells #[.int .i64 a, .int .i64 b, .int .i64 c, .int .i64 d] 90 (0, 0))) : Cells w (some ⟨g, 0, none⟩) [.int .i64 a, .int .i64 b, .int .i64 c, .int .i64 d] := fun i hi => by
  refine ⟨_, rfl, ?_⟩
  rw [add_lit, blk_cell h]
  have : i = 0 ∨ i = 1 ∨ i = 2 ∨ i = 3 := by simp at hi; omega
  rcases this with rfl | rfl | rfl | rfl <;> rfl
set_option maxRecDepth 8000 in
set_option maxHeartbeats 6400000 in
theorem rqjoin_any (h : RQ w q l L base) (hl : l.length < 200) (m : Mem) :
    Calls Try.prog 38 #[.pointer (some ⟨q, 0, none⟩), .agg #[.int .i64 m.id, .int .i64 m.wt, .int .i64 m.v, .int .i64 m.rem]] w (RQPost q l (joinC m L base) (joinL m L base) base w) := by
  have HT := Kit.hid h
  obtain ⟨w1, hw1⟩ : ∃ w1, w1 = w.alloc (.cells #[.int .i64 m.id, .int .i64 m.wt, .int .i64 m.v, .int .i64 m.rem] 32) := ⟨_, rfl⟩
  have HB1 : Hid (Below w.heap.size w w1) := Kit.hid (by rw [hw1]; exact (Below.refl _ _).alloc (Nat.le_refl _) _)
  have hx1 : w1.heap[w.heap.size]? = some (.cells #[.int .i64 m.id, .int .i64 m.wt, .int .i64 m.v, .int .i64 m.rem] 32 (0, 0)) := by rw [hw1]; exact blk_new _ _
  have HX1 := Kit.hid hx1
  have HRI := Kit.hid (fun (w' : World) => rright_any m.v m.rem m.wt w')
  have hb0 := h.2.2.2.1.b0
  have hb1 := h.2.2.2.1.b1
  have x1 := blk_cell hx1 1
  have x2 := blk_cell hx1 2
  have x3 := blk_cell hx1 3
  have lx := blk_lt hx1
  obtain ⟨rb, hrb⟩ : ∃ rb, rb = right m.v m.rem (clampW m.wt) := ⟨_, rfl⟩
  rw [← hrb] at HRI
  have HRB := Kit.hid hrb
  clear h hx1 hrb
  go_enter Try.func38, Try.ntmps38
  go_upto_region 1 with fail
  rw [← hw1]
  clear hw1
  go_wp2_with fail
  (with_reducible refine (HRI.out _).mono ?_); rintro e w2 ⟨rfl, hb2⟩
  have HB2 := Kit.hid (HB1.out.trans (hb2.mono HB1.out.size))
  have HX2 := Kit.hid (blk_below HX1.out hb2)
  have z0 := blk_cell HX2.out 0
  have z1 := blk_cell HX2.out 1
  have z2 := blk_cell HX2.out 2
  have z3 := blk_cell HX2.out 3
  have lz := blk_lt HX2.out
  clear hb2 HRI x1 x2 x3 lx
  have HBAD : Hid ((m.id < 1 ∨ 1048576 < m.id ∨ ¬ (1 ≤ m.wt ∧ m.wt ≤ 1048576) ∨ rb = false) → joinC m L base = 1 ∧ joinL m L base = L) := Kit.hid (fun h => by
    have hc : joinC m L base = 1 := by
      unfold joinC
      rw [if_pos]
      by_cases hw : 1 ≤ m.wt ∧ m.wt ≤ 1048576
      · rcases h with h | h | h | h
        · exact .inl h
        · exact .inr (.inl h)
        · exact absurd hw h
        · rw [HRB.out, clampW_id hw.1 hw.2] at h
          exact .inr (.inr (.inr (of_decide_eq_false h)))
      · exact .inr (.inr (.inl hw))
    exact ⟨hc, by unfold joinL; rw [if_neg (by omega)]⟩)
  have HOK : Hid (¬ (m.id < 1 ∨ 1048576 < m.id ∨ ¬ (1 ≤ m.wt ∧ m.wt ≤ 1048576) ∨ rb = false) → ¬ (m.id < 1 ∨ 1048576 < m.id ∨ ¬ (1 ≤ m.wt ∧ m.wt ≤ 1048576) ∨ ¬ (0 ≤ m.v ∧ m.v ≤ 2305843009213693952 ∧ 0 ≤ m.rem ∧ m.rem < m.wt))) := Kit.hid (fun h hh => h (by
    rcases hh with hh | hh | hh | hh
    · exact .inl hh
    · exact .inr (.inl hh)
    · exact .inr (.inr (.inl hh))
    · by_cases hw : 1 ≤ m.wt ∧ m.wt ≤ 1048576
      · exact .inr (.inr (.inr (by rw [HRB.out, clampW_id hw.1 hw.2]; exact decide_eq_false hh)))
      · exact .inr (.inr (.inl hw))))
  by_cases a1 : m.id < 1
  · have HR := Kit.hid (HBAD.out (.inl a1))
    have g1 : decide (m.id < 1) = true := decide_eq_true a1
    clear a1
    go_wp2
    go_ret
    rw [HR.out.1, HR.out.2]
    exact rqpost_same HT.out HB2.out rfl
  have g1 : decide (m.id < 1) = false := decide_eq_false a1
  by_cases a2 : 1048576 < m.id
  · have HR := Kit.hid (HBAD.out (.inr (.inl a2)))
    have g2 : decide (1048576 < m.id) = true := decide_eq_true a2
    clear a1 a2
    go_wp2
    go_ret
    rw [HR.out.1, HR.out.2]
    exact rqpost_same HT.out HB2.out rfl
  have g2 : decide (1048576 < m.id) = false := decide_eq_false a2
  by_cases a3 : m.wt < 1
  · have HR := Kit.hid (HBAD.out (.inr (.inr (.inl (by omega)))))
    have g3 : decide (m.wt < 1) = true := decide_eq_true a3
    clear a1 a2 a3
    go_wp2
    go_ret
    rw [HR.out.1, HR.out.2]
    exact rqpost_same HT.out HB2.out rfl
  have g3 : decide (m.wt < 1) = false := decide_eq_false a3
  by_cases a4 : 1048576 < m.wt
  · have HR := Kit.hid (HBAD.out (.inr (.inr (.inl (by omega)))))
    have g4 : decide (1048576 < m.wt) = true := decide_eq_true a4
    clear a1 a2 a3 a4
    go_wp2
    go_ret
    rw [HR.out.1, HR.out.2]
    exact rqpost_same HT.out HB2.out rfl
  have g4 : decide (1048576 < m.wt) = false := decide_eq_false a4
  cases rb with
  | false =>
    have HR := Kit.hid (HBAD.out (.inr (.inr (.inr rfl))))
    clear a1 a2 a3 a4
    go_wp2
    go_ret
    rw [HR.out.1, HR.out.2]
    exact rqpost_same HT.out HB2.out rfl
  | true =>
    have hok := HOK.out (fun h => by rcases h with h | h | h | h <;> first | omega | cases h)
    have HGOOD := Kit.hid hok
    have hv : 0 ≤ m.v ∧ m.v ≤ 2305843009213693952 := by omega
    have HT2 := Kit.hid (HT.out.below HB2.out)
    have HA := Kit.hid (rat_any HT2.out m.id)
    clear hok a1 a2 a3 a4
    go_wp2_with fail
    (with_reducible refine HA.out.mono ?_); rintro e w3 ⟨hcase, rfl⟩
    clear HA
    rcases hcase with ⟨i, m0, hi, hid, rfl⟩ | ⟨hno, rfl⟩
    · have hg : get L m.id = some m0 := by rw [← hid]; exact rget_at HT.out.2.1 HT.out.2.2.1 hi
      have HR : Hid (joinC m L base = 9 ∧ joinL m L base = L) := Kit.hid (by
        have hc : joinC m L base = 9 := by unfold joinC; rw [if_neg HGOOD.out, hg]; rfl
        exact ⟨hc, by unfold joinL; rw [if_neg (by omega)]⟩)
      have g5 : (0 : Int) ≤ (i : Int) := by omega
      clear hi hid hg
      go_wp2
      go_ret
      rw [HR.out.1, HR.out.2]
      exact rqpost_same HT.out HB2.out rfl
    have hg := rget_not HT.out.2.1 hno
    have HGN := Kit.hid hg
    clear hg hno
    obtain ⟨A, c, hq3, hr3, hcl3⟩ := HT2.out.look
    have q0 := blk_cell hq3 0
    have q1 := blk_cell hq3 1
    have ql := blk_lt hq3
    have HQ3 := Kit.hid hq3
    have g6 : decide ((4096 : Int) ≤ (l.length : Int)) = false := decide_eq_false (by omega)
    have hsub : IntKind.i64.wrap (2305843009213693952 - base) = 2305843009213693952 - base := by rw [IntKind.wrap_i64]; omega
    have HS8 : Hid (∀ w' : World, Below w3.heap.size w3 w' → w'.cell? ⟨q, 1, none⟩ = some (.int .i64 base) ∧ w'.cell? ⟨w.heap.size, 2, none⟩ = some (.int .i64 m.v)) := Kit.hid (fun w' h => ⟨blk_cell (blk_below HQ3.out h) 1, blk_cell (blk_below HX2.out h) 2⟩)
    by_cases a7 : 2305843009213693952 - base < m.v
    · have HR : Hid (joinC m L base = 6 ∧ joinL m L base = L) := Kit.hid (by
        have hc : joinC m L base = 6 := by unfold joinC; rw [if_neg HGOOD.out, HGN.out, if_neg (by simp), if_pos a7]
        exact ⟨hc, by unfold joinL; rw [if_neg (by omega)]⟩)
      have g7 : decide (2305843009213693952 - base < m.v) = true := decide_eq_true a7
      clear a7 hq3 hcl3
      go_wp2
      refine wp_region_noPanic ?_
      refine wp_region_held_drew (S := fun (w' : World) => Below w3.heap.size w3 w') (by kernel_rfl) (Below.refl _ _).drew (fun hHeld => ?_)
      refine wpAnyH_take (i := 0) (hi := by simp only [List.getElem?_toArray, List.getElem?_cons_succ, List.getElem?_cons_zero]; rfl) (v := ?_) (by kernel_rfl) (by kernel_rfl) (by kernel_rfl) (fun _ _ _ h => h) (Or.inl ⟨by rfl, ?_⟩) (by assumption) ?_
      rotate_left
      · (intro w hSw; (try dsimp only at hSw); go_simp; first | done | with_reducible rfl)
      try simp only [Act.put, List.setIfInBounds_toArray, List.set_cons_zero, List.set_cons_succ]
      refine wpAnyH_take (i := 1) (hi := by simp only [List.getElem?_toArray, List.getElem?_cons_succ, List.getElem?_cons_zero]; rfl) (v := ?_) (by kernel_rfl) (by kernel_rfl) (by kernel_rfl) (fun _ _ _ h => h) (Or.inl ⟨by rfl, ?_⟩) (by assumption) ?_
      rotate_left
      · (intro w hSw; (try dsimp only at hSw); go_simp; first | done | with_reducible rfl)
      try simp only [Act.put, List.setIfInBounds_toArray, List.set_cons_zero, List.set_cons_succ]
      refine wpAnyH_take (i := 2) (hi := by simp only [List.getElem?_toArray, List.getElem?_cons_succ, List.getElem?_cons_zero]; rfl) (v := ?_) (by kernel_rfl) (by kernel_rfl) (by kernel_rfl) (fun _ _ _ h => h) (Or.inl ⟨by rfl, ?_⟩) (by assumption) ?_
      rotate_left
      · (intro w hSw; (try dsimp only at hSw); (obtain ⟨x0, x1⟩ := HS8.out _ hSw); go_simp; first | done | with_reducible rfl)
      try simp only [Act.put, List.setIfInBounds_toArray, List.set_cons_zero, List.set_cons_succ]
      refine wpAnyH_take (i := 3) (hi := by simp only [List.getElem?_toArray, List.getElem?_cons_succ, List.getElem?_cons_zero]; rfl) (v := ?_) (by kernel_rfl) (by kernel_rfl) (by kernel_rfl) (fun _ _ _ h => h) (Or.inl ⟨by rfl, ?_⟩) (by assumption) ?_
      rotate_left
      · (intro w hSw; (try dsimp only at hSw); go_simp; first | done | with_reducible rfl)
      try simp only [Act.put, List.setIfInBounds_toArray, List.set_cons_zero, List.set_cons_succ]
      refine wpAnyH_take (i := 4) (hi := by simp only [List.getElem?_toArray, List.getElem?_cons_succ, List.getElem?_cons_zero]; rfl) (v := ?_) (by kernel_rfl) (by kernel_rfl) (by kernel_rfl) (fun _ _ _ h => h) (Or.inl ⟨by rfl, ?_⟩) (by assumption) ?_
      rotate_left
      · (intro w hSw; (try dsimp only at hSw); (obtain ⟨x0, x1⟩ := HS8.out _ hSw); go_simp; first | done | with_reducible rfl)
      try simp only [Act.put, List.setIfInBounds_toArray, List.set_cons_zero, List.set_cons_succ]
      refine wpAnyH_take (i := 5) (hi := by simp only [List.getElem?_toArray, List.getElem?_cons_succ, List.getElem?_cons_zero]; rfl) (v := ?_) (by kernel_rfl) (by kernel_rfl) (by kernel_rfl) (fun _ _ _ h => h) (Or.inl ⟨by rfl, ?_⟩) (by assumption) ?_
      rotate_left
      · (intro w hSw; (try dsimp only at hSw); go_simp; first | done | with_reducible rfl)
      try simp only [Act.put, List.setIfInBounds_toArray, List.set_cons_zero, List.set_cons_succ]
      refine wpAnyH_take (i := 6) (hi := by simp only [List.getElem?_toArray, List.getElem?_cons_succ, List.getElem?_cons_zero]; rfl) (v := ?_) (by kernel_rfl) (by kernel_rfl) (by kernel_rfl) (fun _ _ _ h => h) (Or.inl ⟨by rfl, ?_⟩) (by assumption) ?_
      rotate_left
      · (intro w hSw; (try dsimp only at hSw); (obtain ⟨x0, x1⟩ := HS8.out _ hSw); go_simp; first | done | with_reducible rfl)
      try simp only [Act.put, List.setIfInBounds_toArray, List.set_cons_zero, List.set_cons_succ]
      refine wpAnyH_take (i := 7) (hi := by simp only [List.getElem?_toArray, List.getElem?_cons_succ, List.getElem?_cons_zero]; rfl) (v := ?_) (by kernel_rfl) (by kernel_rfl) (by kernel_rfl) (fun _ _ _ h => h) (Or.inl ⟨by rfl, ?_⟩) (by assumption) ?_
      rotate_left
      · (intro w hSw; (try dsimp only at hSw); go_simp; first | done | with_reducible rfl)
      try simp only [Act.put, List.setIfInBounds_toArray, List.set_cons_zero, List.set_cons_succ]
      refine wpAnyH_take (i := 8) (hi := by simp only [List.getElem?_toArray, List.getElem?_cons_succ, List.getElem?_cons_zero]; rfl) (v := ?_) (by kernel_rfl) (by kernel_rfl) (by kernel_rfl) (fun _ _ _ h => h) (Or.inl ⟨by rfl, ?_⟩) (by assumption) ?_
      rotate_left
      · (intro w hSw; (try dsimp only at hSw); go_simp; first | done | with_reducible rfl)
      try simp only [Act.put, List.setIfInBounds_toArray, List.set_cons_zero, List.set_cons_succ]
      clear hHeld
      refine wpAnyH_done (by kernel_rfl) ?_ _
      refine NoPanic.normal ?_
      skip
      go_wp2
      go_ret
      rw [HR.out.1, HR.out.2]
      exact rqpost_same HT.out HB2.out.drew rfl
    have HR : Hid (joinC m L base = 0 ∧ joinL m L base = putM { m with v := base + m.v } L) := Kit.hid (by
      have hc : joinC m L base = 0 := by unfold joinC; rw [if_neg HGOOD.out, HGN.out, if_neg (by simp), if_neg a7]
      exact ⟨hc, by unfold joinL; rw [if_pos hc]⟩)
    have g7 : decide (2305843009213693952 - base < m.v) = false := decide_eq_false a7
    obtain ⟨nv, hnv⟩ : ∃ nv, nv = base + m.v := ⟨_, rfl⟩
    have hadd : IntKind.i64.wrap (base + m.v) = nv := by rw [IntKind.wrap_i64, hnv]; omega
    have HNV := Kit.hid hnv
    have HQB := Kit.hid (HT.out.2.2.2.1.join m)
    rw [HR.out.2, ← hnv] at HQB
    clear a7 hnv
    clear hq3 hcl3 hr3
    go_upto_region 8 with (fail)
    refine wp_region_noPanic ?_
    refine wp_region_held_drew (S := fun (w' : World) => Below w3.heap.size w3 w') (by kernel_rfl) (Below.refl _ _).drew (fun hHeld => ?_)
    refine wpAnyH_take (i := 0) (hi := by simp only [List.getElem?_toArray, List.getElem?_cons_succ, List.getElem?_cons_zero]; rfl) (v := ?_) (by kernel_rfl) (by kernel_rfl) (by kernel_rfl) (fun _ _ _ h => h) (Or.inl ⟨by rfl, ?_⟩) (by assumption) ?_
    rotate_left
    · (intro w hSw; (try dsimp only at hSw); go_simp; first | done | with_reducible rfl)
    try simp only [Act.put, List.setIfInBounds_toArray, List.set_cons_zero, List.set_cons_succ]
    refine wpAnyH_take (i := 1) (hi := by simp only [List.getElem?_toArray, List.getElem?_cons_succ, List.getElem?_cons_zero]; rfl) (v := ?_) (by kernel_rfl) (by kernel_rfl) (by kernel_rfl) (fun _ _ _ h => h) (Or.inl ⟨by rfl, ?_⟩) (by assumption) ?_
    rotate_left
    · (intro w hSw; (try dsimp only at hSw); go_simp; first | done | with_reducible rfl)
    try simp only [Act.put, List.setIfInBounds_toArray, List.set_cons_zero, List.set_cons_succ]
    refine wpAnyH_take (i := 2) (hi := by simp only [List.getElem?_toArray, List.getElem?_cons_succ, List.getElem?_cons_zero]; rfl) (v := ?_) (by kernel_rfl) (by kernel_rfl) (by kernel_rfl) (fun _ _ _ h => h) (Or.inl ⟨by rfl, ?_⟩) (by assumption) ?_
    rotate_left
    · (intro w hSw; (try dsimp only at hSw); (obtain ⟨x0, x1⟩ := HS8.out _ hSw); go_simp; first | done | with_reducible rfl)
    try simp only [Act.put, List.setIfInBounds_toArray, List.set_cons_zero, List.set_cons_succ]
    refine wpAnyH_take (i := 3) (hi := by simp only [List.getElem?_toArray, List.getElem?_cons_succ, List.getElem?_cons_zero]; rfl) (v := ?_) (by kernel_rfl) (by kernel_rfl) (by kernel_rfl) (fun _ _ _ h => h) (Or.inl ⟨by rfl, ?_⟩) (by assumption) ?_
    rotate_left
    · (intro w hSw; (try dsimp only at hSw); go_simp; first | done | with_reducible rfl)
    try simp only [Act.put, List.setIfInBounds_toArray, List.set_cons_zero, List.set_cons_succ]
    refine wpAnyH_take (i := 4) (hi := by simp only [List.getElem?_toArray, List.getElem?_cons_succ, List.getElem?_cons_zero]; rfl) (v := ?_) (by kernel_rfl) (by kernel_rfl) (by kernel_rfl) (fun _ _ _ h => h) (Or.inl ⟨by rfl, ?_⟩) (by assumption) ?_
    rotate_left
    · (intro w hSw; (try dsimp only at hSw); (obtain ⟨x0, x1⟩ := HS8.out _ hSw); go_simp; first | done | with_reducible rfl)
    try simp only [Act.put, List.setIfInBounds_toArray, List.set_cons_zero, List.set_cons_succ]
    refine wpAnyH_take (i := 5) (hi := by simp only [List.getElem?_toArray, List.getElem?_cons_succ, List.getElem?_cons_zero]; rfl) (v := ?_) (by kernel_rfl) (by kernel_rfl) (by kernel_rfl) (fun _ _ _ h => h) (Or.inl ⟨by rfl, ?_⟩) (by assumption) ?_
    rotate_left
    · (intro w hSw; (try dsimp only at hSw); go_simp; first | done | with_reducible rfl)
    try simp only [Act.put, List.setIfInBounds_toArray, List.set_cons_zero, List.set_cons_succ]
    refine wpAnyH_take (i := 6) (hi := by simp only [List.getElem?_toArray, List.getElem?_cons_succ, List.getElem?_cons_zero]; rfl) (v := ?_) (by kernel_rfl) (by kernel_rfl) (by kernel_rfl) (fun _ _ _ h => h) (Or.inl ⟨by rfl, ?_⟩) (by assumption) ?_
    rotate_left
    · (intro w hSw; (try dsimp only at hSw); (obtain ⟨x0, x1⟩ := HS8.out _ hSw); go_simp; first | done | with_reducible rfl)
    try simp only [Act.put, List.setIfInBounds_toArray, List.set_cons_zero, List.set_cons_succ]
    refine wpAnyH_take (i := 7) (hi := by simp only [List.getElem?_toArray, List.getElem?_cons_succ, List.getElem?_cons_zero]; rfl) (v := ?_) (by kernel_rfl) (by kernel_rfl) (by kernel_rfl) (fun _ _ _ h => h) (Or.inl ⟨by rfl, ?_⟩) (by assumption) ?_
    rotate_left
    · (intro w hSw; (try dsimp only at hSw); go_simp; first | done | with_reducible rfl)
    try simp only [Act.put, List.setIfInBounds_toArray, List.set_cons_zero, List.set_cons_succ]
    refine wpAnyH_take (i := 8) (hi := by simp only [List.getElem?_toArray, List.getElem?_cons_succ, List.getElem?_cons_zero]; rfl) (v := ?_) (by kernel_rfl) (by kernel_rfl) (by kernel_rfl) (fun _ _ _ h => h) (Or.inl ⟨by rfl, ?_⟩) (by assumption) ?_
    rotate_left
    · (intro w hSw; (try dsimp only at hSw); go_simp; first | done | with_reducible rfl)
    try simp only [Act.put, List.setIfInBounds_toArray, List.set_cons_zero, List.set_cons_succ]
    clear hHeld
    refine wpAnyH_done (by kernel_rfl) ?_ _
    refine NoPanic.normal ?_
    skip
    have HBZ := Kit.hid (HB2.out.drew)
    have HQZ : Hid (w3.drew.heap[q]? = some (.cells #[.slice A l.length c, .int .i64 base] 56 (0, 0))) := Kit.hid HQ3.out
    have HXZ : Hid (w3.drew.heap[w.heap.size]? = some (.cells #[.int .i64 m.id, .int .i64 m.wt, .int .i64 m.v, .int .i64 m.rem] 32 (0, 0))) := Kit.hid HX2.out
    clear HT2 HS8 q0 q1 ql z0 z1 z2 z3 lz HB1 HX1 HB2 HX2 HQ3
    generalize w3.drew = wz at HBZ HQZ HXZ ⊢
    have HTZ := Kit.hid (HT.out.below HBZ.out)
    have HCL : Hid (∀ w' : World, Below wz.heap.size wz w' → Cells w' A (flatM 0 l)) := Kit.hid (fun w' h => by
      obtain ⟨A', c', hq', _, hc'⟩ := HTZ.out.look
      have e := hq'.symm.trans HQZ.out
      simp at e
      rw [← e.1]
      exact cells_over hc' h)
    have HSZ : Hid (∀ w' : World, Below wz.heap.size wz w' → w'.cell? ⟨q, 0, none⟩ = some (.slice A l.length c) ∧ w'.cell? ⟨q, 1, none⟩ = some (.int .i64 base) ∧ w'.cell? ⟨w.heap.size, 0, none⟩ = some (.int .i64 m.id) ∧ w'.cell? ⟨w.heap.size, 1, none⟩ = some (.int .i64 m.wt) ∧ w'.cell? ⟨w.heap.size, 2, none⟩ = some (.int .i64 m.v) ∧ w'.cell? ⟨w.heap.size, 3, none⟩ = some (.int .i64 m.rem)) := Kit.hid (fun w' h => by
      have h1 := blk_below HQZ.out h
      have h2 := blk_below HXZ.out h
      exact ⟨blk_cell h1 0, blk_cell h1 1, blk_cell h2 0, blk_cell h2 1, blk_cell h2 2, blk_cell h2 3⟩)
    have HFIN : Hid (∀ (w7 : World) (v7 : Value), Below wz.heap.size wz w7 → w7.ownsRow wz.heap.size 90 4 v7 (l.length + 1) (flatM 0 l ++ [.int .i64 m.id, .int .i64 m.wt, .int .i64 nv, .int .i64 m.rem]) → RQPost q l (joinC m L base) (joinL m L base) base w (.returned (.int .i64 0)) (w7.setCell ⟨q, 0, none⟩ v7)) := Kit.hid (fun w7 v7 hb7 ho7 => by
      rw [HR.out.1, HR.out.2, ← HNV.out]
      have hp : (l ++ [{ m with v := nv }]).Perm (putM { m with v := nv } L) := join_perm HT.out.2.1 HGN.out
      have hput := HTZ.out.put (l' := l ++ [{ m with v := nv }]) hb7 (B := wz.heap.size) (v := v7) (by
        rw [List.length_append, flatM_app]
        have e : flatM 0 [{ m with v := nv }] = [.int .i64 m.id, .int .i64 m.wt, .int .i64 nv, .int .i64 m.rem] := by simp [flatM]
        rw [e]
        exact ho7) (Nat.le_refl _) hp (put_wq HT.out.2.2.1 _) HQB.out (by simp; omega)
      exact ⟨rfl, _, hput.1, by simp, grown_trans (grown_below q HBZ.out) hput.2⟩)
    go_upto_region 10 with (fail)
    refine wp_region_noPanic ?_
    refine wp_region_T (fun (w' : World) => Below wz.heap.size wz w') 28 (by kernel_rfl) (Below.refl _ _).drew (fun hHeld => ?_)
    refine wpAnyT_take (i := 0) (hi := by simp only [List.getElem?_toArray, List.getElem?_cons_succ, List.getElem?_cons_zero]; rfl) (v := ?_) (by kernel_rfl) (by kernel_rfl) (by kernel_rfl) (by kernel_rfl) (fun _ _ _ h => h) (Or.inl ⟨by rfl, ?_⟩) (by assumption) ?_
    rotate_left
    · (intro w hSw; (try dsimp only at hSw); go_simp; first | done | with_reducible rfl)
    try simp only [Act.put, List.setIfInBounds_toArray, List.set_cons_zero, List.set_cons_succ]
    refine wpAnyT_take (i := 2) (hi := by simp only [List.getElem?_toArray, List.getElem?_cons_succ, List.getElem?_cons_zero]; rfl) (v := ?_) (by kernel_rfl) (by kernel_rfl) (by kernel_rfl) (by kernel_rfl) (fun _ _ _ h => h) (Or.inl ⟨by rfl, ?_⟩) (by assumption) ?_
    rotate_left
    · (intro w hSw; (try dsimp only at hSw); go_simp; first | done | with_reducible rfl)
    try simp only [Act.put, List.setIfInBounds_toArray, List.set_cons_zero, List.set_cons_succ]
    refine wpAnyT_take (i := 3) (hi := by simp only [List.getElem?_toArray, List.getElem?_cons_succ, List.getElem?_cons_zero]; rfl) (v := ?_) (by kernel_rfl) (by kernel_rfl) (by kernel_rfl) (by kernel_rfl) (fun _ _ _ h => h) (Or.inl ⟨by rfl, ?_⟩) (by assumption) ?_
    rotate_left
    · (intro w hSw; (try dsimp only at hSw); (obtain ⟨x0, x1, x2, x3, x4, x5⟩ := HSZ.out _ hSw); go_simp; first | done | with_reducible rfl)
    try simp only [Act.put, List.setIfInBounds_toArray, List.set_cons_zero, List.set_cons_succ]
    refine wpAnyT_take (i := 4) (hi := by simp only [List.getElem?_toArray, List.getElem?_cons_succ, List.getElem?_cons_zero]; rfl) (v := ?_) (by kernel_rfl) (by kernel_rfl) (by kernel_rfl) (by kernel_rfl) (fun _ _ _ h => h) (Or.inl ⟨by rfl, ?_⟩) (by assumption) ?_
    rotate_left
    · (intro w hSw; (try dsimp only at hSw); go_simp; first | done | with_reducible rfl)
    try simp only [Act.put, List.setIfInBounds_toArray, List.set_cons_zero, List.set_cons_succ]
    refine wpAnyT_take (i := 5) (hi := by simp only [List.getElem?_toArray, List.getElem?_cons_succ, List.getElem?_cons_zero]; rfl) (v := ?_) (by kernel_rfl) (by kernel_rfl) (by kernel_rfl) (by kernel_rfl) (fun _ _ _ h => h) (Or.inl ⟨by rfl, ?_⟩) (by assumption) ?_
    rotate_left
    · (intro w hSw; (try dsimp only at hSw); (obtain ⟨x0, x1, x2, x3, x4, x5⟩ := HSZ.out _ hSw); go_simp; first | done | with_reducible rfl)
    try simp only [Act.put, List.setIfInBounds_toArray, List.set_cons_zero, List.set_cons_succ]
    refine wpAnyT_take (i := 7) (hi := by simp only [List.getElem?_toArray, List.getElem?_cons_succ, List.getElem?_cons_zero]; rfl) (v := ?_) (by kernel_rfl) (by kernel_rfl) (by kernel_rfl) (by kernel_rfl) (fun _ _ _ h => h) (Or.inl ⟨by rfl, ?_⟩) (by assumption) ?_
    rotate_left
    · (intro w hSw; (try dsimp only at hSw); go_simp; first | done | with_reducible rfl)
    try simp only [Act.put, List.setIfInBounds_toArray, List.set_cons_zero, List.set_cons_succ]
    refine wpAnyT_take (i := 8) (hi := by simp only [List.getElem?_toArray, List.getElem?_cons_succ, List.getElem?_cons_zero]; rfl) (v := ?_) (by kernel_rfl) (by kernel_rfl) (by kernel_rfl) (by kernel_rfl) (fun _ _ _ h => h) (Or.inl ⟨by rfl, ?_⟩) (by assumption) ?_
    rotate_left
    · (intro w hSw; (try dsimp only at hSw); (obtain ⟨x0, x1, x2, x3, x4, x5⟩ := HSZ.out _ hSw); go_simp; first | done | with_reducible rfl)
    try simp only [Act.put, List.setIfInBounds_toArray, List.set_cons_zero, List.set_cons_succ]
    refine wpAnyT_take (i := 9) (hi := by simp only [List.getElem?_toArray, List.getElem?_cons_succ, List.getElem?_cons_zero]; rfl) (v := ?_) (by kernel_rfl) (by kernel_rfl) (by kernel_rfl) (by kernel_rfl) (fun _ _ _ h => h) (Or.inl ⟨by rfl, ?_⟩) (by assumption) ?_
    rotate_left
    · (intro w hSw; (try dsimp only at hSw); go_simp; first | done | with_reducible rfl)
    try simp only [Act.put, List.setIfInBounds_toArray, List.set_cons_zero, List.set_cons_succ]
    refine wpAnyT_take (i := 10) (hi := by simp only [List.getElem?_toArray, List.getElem?_cons_succ, List.getElem?_cons_zero]; rfl) (v := ?_) (by kernel_rfl) (by kernel_rfl) (by kernel_rfl) (by kernel_rfl) (fun _ _ _ h => h) (Or.inl ⟨by rfl, ?_⟩) (by assumption) ?_
    rotate_left
    · (intro w hSw; (try dsimp only at hSw); (obtain ⟨x0, x1, x2, x3, x4, x5⟩ := HSZ.out _ hSw); go_simp; first | done | with_reducible rfl)
    try simp only [Act.put, List.setIfInBounds_toArray, List.set_cons_zero, List.set_cons_succ]
    refine wpAnyT_take (i := 11) (hi := by simp only [List.getElem?_toArray, List.getElem?_cons_succ, List.getElem?_cons_zero]; rfl) (v := ?_) (by kernel_rfl) (by kernel_rfl) (by kernel_rfl) (by kernel_rfl) (fun _ _ _ h => h) (Or.inl ⟨by rfl, ?_⟩) (by assumption) ?_
    rotate_left
    · (intro w hSw; (try dsimp only at hSw); go_simp; first | done | with_reducible rfl)
    try simp only [Act.put, List.setIfInBounds_toArray, List.set_cons_zero, List.set_cons_succ]
    refine wpAnyT_take (i := 12) (hi := by simp only [List.getElem?_toArray, List.getElem?_cons_succ, List.getElem?_cons_zero]; rfl) (v := ?_) (by kernel_rfl) (by kernel_rfl) (by kernel_rfl) (by kernel_rfl) (fun _ _ _ h => h) (Or.inl ⟨by rfl, ?_⟩) (by assumption) ?_
    rotate_left
    · (intro w hSw; (try dsimp only at hSw); (obtain ⟨x0, x1, x2, x3, x4, x5⟩ := HSZ.out _ hSw); go_simp; first | done | with_reducible rfl)
    try simp only [Act.put, List.setIfInBounds_toArray, List.set_cons_zero, List.set_cons_succ]
    refine wpAnyT_take (i := 13) (hi := by simp only [List.getElem?_toArray, List.getElem?_cons_succ, List.getElem?_cons_zero]; rfl) (v := ?_) (by kernel_rfl) (by kernel_rfl) (by kernel_rfl) (by kernel_rfl) (fun _ _ _ h => h) (Or.inl ⟨by rfl, ?_⟩) (by assumption) ?_
    rotate_left
    · (intro w hSw; (try dsimp only at hSw); go_simp; first | done | with_reducible rfl)
    try simp only [Act.put, List.setIfInBounds_toArray, List.set_cons_zero, List.set_cons_succ]
    refine wpAnyT_take (i := 14) (hi := by simp only [List.getElem?_toArray, List.getElem?_cons_succ, List.getElem?_cons_zero]; rfl) (v := ?_) (by kernel_rfl) (by kernel_rfl) (by kernel_rfl) (by kernel_rfl) (fun _ _ _ h => h) (Or.inl ⟨by rfl, ?_⟩) (by assumption) ?_
    rotate_left
    · (intro w hSw; (try dsimp only at hSw); (obtain ⟨x0, x1, x2, x3, x4, x5⟩ := HSZ.out _ hSw); go_simp; first | done | with_reducible rfl)
    try simp only [Act.put, List.setIfInBounds_toArray, List.set_cons_zero, List.set_cons_succ]
    refine wpAnyT_take (i := 15) (hi := by simp only [List.getElem?_toArray, List.getElem?_cons_succ, List.getElem?_cons_zero]; rfl) (v := ?_) (by kernel_rfl) (by kernel_rfl) (by kernel_rfl) (by kernel_rfl) (fun _ _ _ h => h) (Or.inl ⟨by rfl, ?_⟩) (by assumption) ?_
    rotate_left
    · (intro w hSw; (try dsimp only at hSw); go_simp; first | done | with_reducible rfl)
    try simp only [Act.put, List.setIfInBounds_toArray, List.set_cons_zero, List.set_cons_succ]
    refine wpAnyT_take (i := 16) (hi := by simp only [List.getElem?_toArray, List.getElem?_cons_succ, List.getElem?_cons_zero]; rfl) (v := ?_) (by kernel_rfl) (by kernel_rfl) (by kernel_rfl) (by kernel_rfl) (fun _ _ _ h => h) (Or.inl ⟨by rfl, ?_⟩) (by assumption) ?_
    rotate_left
    · (intro w hSw; (try dsimp only at hSw); go_simp; first | done | with_reducible rfl)
    try simp only [Act.put, List.setIfInBounds_toArray, List.set_cons_zero, List.set_cons_succ]
    refine wpAnyT_take (i := 17) (hi := by simp only [List.getElem?_toArray, List.getElem?_cons_succ, List.getElem?_cons_zero]; rfl) (v := ?_) (by kernel_rfl) (by kernel_rfl) (by kernel_rfl) (by kernel_rfl) (fun _ _ _ h => h) (Or.inl ⟨by rfl, ?_⟩) (by assumption) ?_
    rotate_left
    · (intro w hSw; (try dsimp only at hSw); (obtain ⟨x0, x1, x2, x3, x4, x5⟩ := HSZ.out _ hSw); go_simp; first | done | with_reducible rfl)
    try simp only [Act.put, List.setIfInBounds_toArray, List.set_cons_zero, List.set_cons_succ]
    refine wpAnyT_take (i := 18) (hi := by simp only [List.getElem?_toArray, List.getElem?_cons_succ, List.getElem?_cons_zero]; rfl) (v := ?_) (by kernel_rfl) (by kernel_rfl) (by kernel_rfl) (by kernel_rfl) (fun _ _ _ h => h) (Or.inl ⟨by rfl, ?_⟩) (by assumption) ?_
    rotate_left
    · (intro w hSw; (try dsimp only at hSw); go_simp; first | done | with_reducible rfl)
    try simp only [Act.put, List.setIfInBounds_toArray, List.set_cons_zero, List.set_cons_succ]
    refine wpAnyT_take (i := 19) (hi := by simp only [List.getElem?_toArray, List.getElem?_cons_succ, List.getElem?_cons_zero]; rfl) (v := ?_) (by kernel_rfl) (by kernel_rfl) (by kernel_rfl) (by kernel_rfl) (fun _ _ _ h => h) (Or.inl ⟨by rfl, ?_⟩) (by assumption) ?_
    rotate_left
    · (intro w hSw; (try dsimp only at hSw); go_simp; first | done | with_reducible rfl)
    try simp only [Act.put, List.setIfInBounds_toArray, List.set_cons_zero, List.set_cons_succ]
    refine wpAnyT_take (i := 20) (hi := by simp only [List.getElem?_toArray, List.getElem?_cons_succ, List.getElem?_cons_zero]; rfl) (v := ?_) (by kernel_rfl) (by kernel_rfl) (by kernel_rfl) (by kernel_rfl) (fun _ _ _ h => h) (Or.inl ⟨by rfl, ?_⟩) (by assumption) ?_
    rotate_left
    · (intro w hSw; (try dsimp only at hSw); go_simp; first | done | with_reducible rfl)
    try simp only [Act.put, List.setIfInBounds_toArray, List.set_cons_zero, List.set_cons_succ]
    refine wpAnyT_take (i := 21) (hi := by simp only [List.getElem?_toArray, List.getElem?_cons_succ, List.getElem?_cons_zero]; rfl) (v := ?_) (by kernel_rfl) (by kernel_rfl) (by kernel_rfl) (by kernel_rfl) (fun _ _ _ h => h) (Or.inl ⟨by rfl, ?_⟩) (by assumption) ?_
    rotate_left
    · (intro w hSw; (try dsimp only at hSw); (obtain ⟨x0, x1, x2, x3, x4, x5⟩ := HSZ.out _ hSw); go_simp; first | done | with_reducible rfl)
    try simp only [Act.put, List.setIfInBounds_toArray, List.set_cons_zero, List.set_cons_succ]
    refine wpAnyT_take (i := 22) (hi := by simp only [List.getElem?_toArray, List.getElem?_cons_succ, List.getElem?_cons_zero]; rfl) (v := ?_) (by kernel_rfl) (by kernel_rfl) (by kernel_rfl) (by kernel_rfl) (fun _ _ _ h => h) (Or.inl ⟨by rfl, ?_⟩) (by assumption) ?_
    rotate_left
    · (intro w hSw; (try dsimp only at hSw); go_simp; first | done | with_reducible rfl)
    try simp only [Act.put, List.setIfInBounds_toArray, List.set_cons_zero, List.set_cons_succ]
    refine wpAnyT_take (i := 23) (hi := by simp only [List.getElem?_toArray, List.getElem?_cons_succ, List.getElem?_cons_zero]; rfl) (v := ?_) (by kernel_rfl) (by kernel_rfl) (by kernel_rfl) (by kernel_rfl) (fun _ _ _ h => h) (Or.inl ⟨by rfl, ?_⟩) (by assumption) ?_
    rotate_left
    · (intro w hSw; (try dsimp only at hSw); go_simp; first | done | with_reducible rfl)
    try simp only [Act.put, List.setIfInBounds_toArray, List.set_cons_zero, List.set_cons_succ]
    refine wpAnyT_two (i := 1) (j := 24) (by kernel_rfl) (hoi := by simp only [List.getElem?_toArray, List.getElem?_cons_succ, List.getElem?_cons_zero]; rfl) (hoj := by simp only [List.getElem?_toArray, List.getElem?_cons_succ, List.getElem?_cons_zero]; rfl) (fun K hK => ?_) (fun K hK => ?_)
    · skip
      go_simp
      go_wp2_with fail
      have HO1 : Hid ((wz.drew.alloc (.cells #[] 90)).ownsRow wz.heap.size 90 4 (.slice (some ⟨wz.heap.size, 0, none⟩) 0 0) 0 []) := Kit.hid (by
        have := World.ownsRow_lit (base := wz.heap.size) (e := 90) (size := 4) wz.drew #[] 0 (Nat.le_refl _) (by decide) rfl
        exact this)
      refine hK.out _ _ ?_ (fun hHeldN => ?_)
      · exact hHeld.alloc hHeld.size _
      clear hHeld
      have hHeld := hHeldN
      clear hHeldN
      clear hK K
      try simp only [Act.put, List.setIfInBounds_toArray, List.set_cons_zero, List.set_cons_succ]
      refine wpAnyT_two (i := 6) (j := 24) (by kernel_rfl) (hoi := by simp only [List.getElem?_toArray, List.getElem?_cons_succ, List.getElem?_cons_zero]; rfl) (hoj := by simp only [List.getElem?_toArray, List.getElem?_cons_succ, List.getElem?_cons_zero]; rfl) (fun K hK => ?_) (fun K hK => ?_)
      · skip
        refine step_append_srcS rfl _ _ 54 rfl wz.heap.size 90 (.agg #[.int .i64 0, .int .i64 0, .int .i64 0, .int .i64 0]) 4 32 (by decide) Try.underlying54 infoR rfl _ 0 _ (by simp [Act.eval, Act.put]) HO1.out A l.length c (flatM 0 l) (by simp [Act.eval, Act.put]) (flatM_len 0 l) (HCL.out _ hHeld) (flatM_one _ _) (by unfold maxLen; omega) (by omega) hHeld.size ?_
        intro v6 w6 hown6 hg6 _
        rw [Nat.zero_add, List.nil_append] at hown6
        have HD6 : Hid (Below wz.heap.size wz w6) := Kit.hid (hHeld.grown hg6 hHeld.size (fun k hk => (HO1.out.lt k hk).1))
        have HO6 := Kit.hid hown6
        clear hown6 hg6
        refine hK.out _ _ ?_ (fun hHeldN => ?_)
        · exact HD6.out
        clear hHeld
        have hHeld := hHeldN
        clear hHeldN
        clear hK K
        try simp only [Act.put, List.setIfInBounds_toArray, List.set_cons_zero, List.set_cons_succ]
        refine wpAnyT_step (i := 24) (by kernel_rfl) (ho := by simp only [List.getElem?_toArray, List.getElem?_cons_succ, List.getElem?_cons_zero]; rfl) (fun K hK => ?_)
        go_simp
        go_wp2_with fail
        have HLB6 : Hid ((w6.alloc (.cells #[.int .i64 m.id, .int .i64 m.wt, .int .i64 nv, .int .i64 m.rem] 90)).heap[w6.heap.size]? = some (.cells #[.int .i64 m.id, .int .i64 m.wt, .int .i64 nv, .int .i64 m.rem] 90 (0, 0))) := Kit.hid (blk_new w6 _)
        have HO6b := Kit.hid (own_belowS HO6.out ((Below.refl _ w6).alloc (Nat.le_refl _) (.cells #[.int .i64 m.id, .int .i64 m.wt, .int .i64 nv, .int .i64 m.rem] 90)))
        refine hK.out _ _ ?_ (fun hHeldN => ?_)
        · exact hHeld.alloc hHeld.size _
        clear hHeld
        have hHeld := hHeldN
        clear hHeldN
        clear hK K
        try simp only [Act.put, List.setIfInBounds_toArray, List.set_cons_zero, List.set_cons_succ]
        refine wpAnyT_step (i := 25) (by kernel_rfl) (ho := by simp only [List.getElem?_toArray, List.getElem?_cons_succ, List.getElem?_cons_zero]; rfl) (fun K hK => ?_)
        first
          | (refine step_append_srcS rfl _ _ 54 rfl wz.heap.size 90 (.agg #[.int .i64 0, .int .i64 0, .int .i64 0, .int .i64 0]) 4 32 (by decide) Try.underlying54 infoR rfl _ l.length _ (by simp [Act.eval, Act.put]) HO6b.out (some ⟨w6.heap.size, 0, none⟩) 1 1 [.int .i64 m.id, .int .i64 m.wt, .int .i64 nv, .int .i64 m.rem] (by simp [Act.eval, Act.put]) rfl (lit_cells HLB6.out) (by simp [Value.oneCell']) (by unfold maxLen; omega) (by omega) hHeld.size ?_
             intro v7 w7 hown7 hg7 _
             obtain ⟨A7, c7, hv7, _, _, _⟩ := own_readsS (by decide) hown7
             subst hv7
             have HD7 : Hid (Below wz.heap.size wz w7) := Kit.hid (hHeld.grown hg7 hHeld.size (fun k hk => (HO6b.out.lt k hk).1))
             have HO7 := Kit.hid hown7
             have HQ7 := Kit.hid (blk_below HQZ.out HD7.out)
             have q7 := blk_cell HQ7.out 0
             have q7f := blk_frozen HQ7.out 0
             have q7l := blk_lt HQ7.out
             clear hown7 hg7)
          | (refine step_append_srcS rfl _ _ 54 rfl wz.heap.size 90 (.agg #[.int .i64 0, .int .i64 0, .int .i64 0, .int .i64 0]) 4 32 (by decide) Try.underlying54 infoR rfl _ l.length _ (by simp [Act.eval, Act.put]) HO6.out (some ⟨(wz.heap.size + 1), 0, none⟩) 1 1 [.int .i64 m.id, .int .i64 m.wt, .int .i64 nv, .int .i64 m.rem] (by simp [Act.eval, Act.put]) rfl (lit_cells HLB6.out) (by simp [Value.oneCell']) (by unfold maxLen; omega) (by omega) hHeld.size ?_
             intro v7 w7 hown7 hg7 _
             obtain ⟨A7, c7, hv7, _, _, _⟩ := own_readsS (by decide) hown7
             subst hv7
             have HD7 : Hid (Below wz.heap.size wz w7) := Kit.hid (hHeld.grown hg7 hHeld.size (fun k hk => (HO6.out.lt k hk).1))
             have HO7 := Kit.hid hown7
             have HQ7 := Kit.hid (blk_below HQZ.out HD7.out)
             have q7 := blk_cell HQ7.out 0
             have q7f := blk_frozen HQ7.out 0
             have q7l := blk_lt HQ7.out
             clear hown7 hg7)
          | (refine step_append_srcS rfl _ _ 54 rfl wz.heap.size 90 (.agg #[.int .i64 0, .int .i64 0, .int .i64 0, .int .i64 0]) 4 32 (by decide) Try.underlying54 infoR rfl _ l.length _ (by simp [Act.eval, Act.put]) HO6.out (some ⟨wz.heap.size, 0, none⟩) 1 1 [.int .i64 m.id, .int .i64 m.wt, .int .i64 nv, .int .i64 m.rem] (by simp [Act.eval, Act.put]) rfl (lit_cells HLB6.out) (by simp [Value.oneCell']) (by unfold maxLen; omega) (by omega) hHeld.size ?_
             intro v7 w7 hown7 hg7 _
             obtain ⟨A7, c7, hv7, _, _, _⟩ := own_readsS (by decide) hown7
             subst hv7
             have HD7 : Hid (Below wz.heap.size wz w7) := Kit.hid (hHeld.grown hg7 hHeld.size (fun k hk => (HO6.out.lt k hk).1))
             have HO7 := Kit.hid hown7
             have HQ7 := Kit.hid (blk_below HQZ.out HD7.out)
             have q7 := blk_cell HQ7.out 0
             have q7f := blk_frozen HQ7.out 0
             have q7l := blk_lt HQ7.out
             clear hown7 hg7)
        refine hK.out _ _ ?_ (fun hHeldN => ?_)
        · exact HD7.out
        clear hHeld
        have hHeld := hHeldN
        clear hHeldN
        clear hK K
        try simp only [Act.put, List.setIfInBounds_toArray, List.set_cons_zero, List.set_cons_succ]
        refine wpAnyT_step (i := 26) (by kernel_rfl) (ho := by simp only [List.getElem?_toArray, List.getElem?_cons_succ, List.getElem?_cons_zero]; rfl) (fun K hK => ?_)
        go_simp
        refine hK.out _ _ ?_ (fun hHeldN => ?_)
        · exact hHeld
        clear hHeld
        have hHeld := hHeldN
        clear hHeldN
        clear hK K
        try simp only [Act.put, List.setIfInBounds_toArray, List.set_cons_zero, List.set_cons_succ]
        refine wpAnyT_take (i := 27) (hi := by simp only [List.getElem?_toArray, List.getElem?_cons_succ, List.getElem?_cons_zero]; rfl) (v := ?_) (by kernel_rfl) (by kernel_rfl) (by kernel_rfl) (by kernel_rfl) (fun _ _ _ h => h) (Or.inl ⟨by rfl, ?_⟩) (by assumption) ?_
        rotate_left
        · (intro w hSw; (try dsimp only at hSw); go_simp; first | done | with_reducible rfl)
        try simp only [Act.put, List.setIfInBounds_toArray, List.set_cons_zero, List.set_cons_succ]
        refine wpAnyT_last (by kernel_rfl) (ho := by simp only [List.getElem?_toArray, List.getElem?_cons_succ, List.getElem?_cons_zero]; rfl) (fun K hK => ?_)
        go_simp
        go_wp2_with fail
        refine hK.out _ _ ?_
        clear hK K
        try simp only [Act.put, List.setIfInBounds_toArray, List.set_cons_zero, List.set_cons_succ]
        clear hHeld
        refine wpAnyT_done (by kernel_rfl) ?_ _
        refine NoPanic.normal ?_
        go_wp2
        go_ret
        exact HFIN.out _ _ HD7.out HO7.out
      · skip
        go_simp
        go_wp2_with fail
        have HLB1 : Hid (((wz.drew.alloc (.cells #[] 90)).alloc (.cells #[.int .i64 m.id, .int .i64 m.wt, .int .i64 nv, .int .i64 m.rem] 90)).heap[wz.heap.size + 1]? = some (.cells #[.int .i64 m.id, .int .i64 m.wt, .int .i64 nv, .int .i64 m.rem] 90 (0, 0))) := Kit.hid (by
          have := blk_new (wz.drew.alloc (.cells #[] 90)) (.cells #[.int .i64 m.id, .int .i64 m.wt, .int .i64 nv, .int .i64 m.rem] 90)
          rw [World.size_alloc] at this
          exact this)
        have HO1b := Kit.hid (own_belowS HO1.out ((Below.refl _ _).alloc (Nat.le_refl _) (.cells #[.int .i64 m.id, .int .i64 m.wt, .int .i64 nv, .int .i64 m.rem] 90)))
        refine hK.out _ _ ?_ (fun hHeldN => ?_)
        · exact hHeld.alloc hHeld.size _
        clear hHeld
        have hHeld := hHeldN
        clear hHeldN
        clear hK K
        try simp only [Act.put, List.setIfInBounds_toArray, List.set_cons_zero, List.set_cons_succ]
        refine wpAnyT_step (i := 6) (by kernel_rfl) (ho := by simp only [List.getElem?_toArray, List.getElem?_cons_succ, List.getElem?_cons_zero]; rfl) (fun K hK => ?_)
        first
          | (refine step_append_srcS rfl _ _ 54 rfl wz.heap.size 90 (.agg #[.int .i64 0, .int .i64 0, .int .i64 0, .int .i64 0]) 4 32 (by decide) Try.underlying54 infoR rfl _ 0 _ (by simp [Act.eval, Act.put]) HO1b.out A l.length c (flatM 0 l) (by simp [Act.eval, Act.put]) (flatM_len 0 l) (HCL.out _ hHeld) (flatM_one _ _) (by unfold maxLen; omega) (by omega) hHeld.size ?_
             intro v6 w6 hown6 hg6 _
             rw [Nat.zero_add, List.nil_append] at hown6
             have HD6 : Hid (Below wz.heap.size wz w6) := Kit.hid (hHeld.grown hg6 hHeld.size (fun k hk => (HO1b.out.lt k hk).1))
             have HO6 := Kit.hid hown6
             have HLB6 : Hid (w6.heap[(wz.heap.size + 1)]? = some (.cells #[.int .i64 m.id, .int .i64 m.wt, .int .i64 nv, .int .i64 m.rem] 90 (0, 0))) := Kit.hid ((hg6.block _ (blk_lt HLB1.out) (fun e => by have h : (wz.heap.size + 1) = wz.heap.size := Option.some.inj e; omega)).trans HLB1.out)
             clear hown6 hg6)
          | (refine step_append_srcS rfl _ _ 54 rfl wz.heap.size 90 (.agg #[.int .i64 0, .int .i64 0, .int .i64 0, .int .i64 0]) 4 32 (by decide) Try.underlying54 infoR rfl _ 0 _ (by simp [Act.eval, Act.put]) HO1.out A l.length c (flatM 0 l) (by simp [Act.eval, Act.put]) (flatM_len 0 l) (HCL.out _ hHeld) (flatM_one _ _) (by unfold maxLen; omega) (by omega) hHeld.size ?_
             intro v6 w6 hown6 hg6 _
             rw [Nat.zero_add, List.nil_append] at hown6
             have HD6 : Hid (Below wz.heap.size wz w6) := Kit.hid (hHeld.grown hg6 hHeld.size (fun k hk => (HO1.out.lt k hk).1))
             have HO6 := Kit.hid hown6
             have HLB6 : Hid (w6.heap[wz.heap.size]? = some (.cells #[.int .i64 m.id, .int .i64 m.wt, .int .i64 nv, .int .i64 m.rem] 90 (0, 0))) := Kit.hid ((hg6.block _ (blk_lt HLB1.out) (fun e => by have h : wz.heap.size = (wz.heap.size + 1) := Option.some.inj e; omega)).trans HLB1.out)
             clear hown6 hg6)
        refine hK.out _ _ ?_ (fun hHeldN => ?_)
        · exact HD6.out
        clear hHeld
        have hHeld := hHeldN
        clear hHeldN
        clear hK K
        try simp only [Act.put, List.setIfInBounds_toArray, List.set_cons_zero, List.set_cons_succ]
        refine wpAnyT_step (i := 25) (by kernel_rfl) (ho := by simp only [List.getElem?_toArray, List.getElem?_cons_succ, List.getElem?_cons_zero]; rfl) (fun K hK => ?_)
        first
          | (refine step_append_srcS rfl _ _ 54 rfl wz.heap.size 90 (.agg #[.int .i64 0, .int .i64 0, .int .i64 0, .int .i64 0]) 4 32 (by decide) Try.underlying54 infoR rfl _ l.length _ (by simp [Act.eval, Act.put]) HO6b.out (some ⟨w6.heap.size, 0, none⟩) 1 1 [.int .i64 m.id, .int .i64 m.wt, .int .i64 nv, .int .i64 m.rem] (by simp [Act.eval, Act.put]) rfl (lit_cells HLB6.out) (by simp [Value.oneCell']) (by unfold maxLen; omega) (by omega) hHeld.size ?_
             intro v7 w7 hown7 hg7 _
             obtain ⟨A7, c7, hv7, _, _, _⟩ := own_readsS (by decide) hown7
             subst hv7
             have HD7 : Hid (Below wz.heap.size wz w7) := Kit.hid (hHeld.grown hg7 hHeld.size (fun k hk => (HO6b.out.lt k hk).1))
             have HO7 := Kit.hid hown7
             have HQ7 := Kit.hid (blk_below HQZ.out HD7.out)
             have q7 := blk_cell HQ7.out 0
             have q7f := blk_frozen HQ7.out 0
             have q7l := blk_lt HQ7.out
             clear hown7 hg7)
          | (refine step_append_srcS rfl _ _ 54 rfl wz.heap.size 90 (.agg #[.int .i64 0, .int .i64 0, .int .i64 0, .int .i64 0]) 4 32 (by decide) Try.underlying54 infoR rfl _ l.length _ (by simp [Act.eval, Act.put]) HO6.out (some ⟨(wz.heap.size + 1), 0, none⟩) 1 1 [.int .i64 m.id, .int .i64 m.wt, .int .i64 nv, .int .i64 m.rem] (by simp [Act.eval, Act.put]) rfl (lit_cells HLB6.out) (by simp [Value.oneCell']) (by unfold maxLen; omega) (by omega) hHeld.size ?_
             intro v7 w7 hown7 hg7 _
             obtain ⟨A7, c7, hv7, _, _, _⟩ := own_readsS (by decide) hown7
             subst hv7
             have HD7 : Hid (Below wz.heap.size wz w7) := Kit.hid (hHeld.grown hg7 hHeld.size (fun k hk => (HO6.out.lt k hk).1))
             have HO7 := Kit.hid hown7
             have HQ7 := Kit.hid (blk_below HQZ.out HD7.out)
             have q7 := blk_cell HQ7.out 0
             have q7f := blk_frozen HQ7.out 0
             have q7l := blk_lt HQ7.out
             clear hown7 hg7)
          | (refine step_append_srcS rfl _ _ 54 rfl wz.heap.size 90 (.agg #[.int .i64 0, .int .i64 0, .int .i64 0, .int .i64 0]) 4 32 (by decide) Try.underlying54 infoR rfl _ l.length _ (by simp [Act.eval, Act.put]) HO6.out (some ⟨wz.heap.size, 0, none⟩) 1 1 [.int .i64 m.id, .int .i64 m.wt, .int .i64 nv, .int .i64 m.rem] (by simp [Act.eval, Act.put]) rfl (lit_cells HLB6.out) (by simp [Value.oneCell']) (by unfold maxLen; omega) (by omega) hHeld.size ?_
             intro v7 w7 hown7 hg7 _
             obtain ⟨A7, c7, hv7, _, _, _⟩ := own_readsS (by decide) hown7
             subst hv7
             have HD7 : Hid (Below wz.heap.size wz w7) := Kit.hid (hHeld.grown hg7 hHeld.size (fun k hk => (HO6.out.lt k hk).1))
             have HO7 := Kit.hid hown7
             have HQ7 := Kit.hid (blk_below HQZ.out HD7.out)
             have q7 := blk_cell HQ7.out 0
             have q7f := blk_frozen HQ7.out 0
             have q7l := blk_lt HQ7.out
             clear hown7 hg7)
        refine hK.out _ _ ?_ (fun hHeldN => ?_)
        · exact HD7.out
        clear hHeld
        have hHeld := hHeldN
        clear hHeldN
        clear hK K
        try simp only [Act.put, List.setIfInBounds_toArray, List.set_cons_zero, List.set_cons_succ]
        refine wpAnyT_step (i := 26) (by kernel_rfl) (ho := by simp only [List.getElem?_toArray, List.getElem?_cons_succ, List.getElem?_cons_zero]; rfl) (fun K hK => ?_)
        go_simp
        refine hK.out _ _ ?_ (fun hHeldN => ?_)
        · exact hHeld
        clear hHeld
        have hHeld := hHeldN
        clear hHeldN
        clear hK K
        try simp only [Act.put, List.setIfInBounds_toArray, List.set_cons_zero, List.set_cons_succ]
        refine wpAnyT_take (i := 27) (hi := by simp only [List.getElem?_toArray, List.getElem?_cons_succ, List.getElem?_cons_zero]; rfl) (v := ?_) (by kernel_rfl) (by kernel_rfl) (by kernel_rfl) (by kernel_rfl) (fun _ _ _ h => h) (Or.inl ⟨by rfl, ?_⟩) (by assumption) ?_
        rotate_left
        · (intro w hSw; (try dsimp only at hSw); go_simp; first | done | with_reducible rfl)
        try simp only [Act.put, List.setIfInBounds_toArray, List.set_cons_zero, List.set_cons_succ]
        refine wpAnyT_last (by kernel_rfl) (ho := by simp only [List.getElem?_toArray, List.getElem?_cons_succ, List.getElem?_cons_zero]; rfl) (fun K hK => ?_)
        go_simp
        go_wp2_with fail
        refine hK.out _ _ ?_
        clear hK K
        try simp only [Act.put, List.setIfInBounds_toArray, List.set_cons_zero, List.set_cons_succ]
        clear hHeld
        refine wpAnyT_done (by kernel_rfl) ?_ _
        refine NoPanic.normal ?_
        go_wp2
        go_ret
        exact HFIN.out _ _ HD7.out HO7.out
    · skip
      go_simp
      go_wp2_with fail
      have HLB : Hid ((wz.drew.alloc (.cells #[.int .i64 m.id, .int .i64 m.wt, .int .i64 nv, .int .i64 m.rem] 90)).heap[wz.heap.size]? = some (.cells #[.int .i64 m.id, .int .i64 m.wt, .int .i64 nv, .int .i64 m.rem] 90 (0, 0))) := Kit.hid (blk_new wz.drew _)
      refine hK.out _ _ ?_ (fun hHeldN => ?_)
      · exact hHeld.alloc hHeld.size _
      clear hHeld
      have hHeld := hHeldN
      clear hHeldN
      clear hK K
      try simp only [Act.put, List.setIfInBounds_toArray, List.set_cons_zero, List.set_cons_succ]
      refine wpAnyT_step (i := 1) (by kernel_rfl) (ho := by simp only [List.getElem?_toArray, List.getElem?_cons_succ, List.getElem?_cons_zero]; rfl) (fun K hK => ?_)
      go_simp
      go_wp2_with fail
      have HO1 : Hid (((wz.drew.alloc (.cells #[.int .i64 m.id, .int .i64 m.wt, .int .i64 nv, .int .i64 m.rem] 90)).alloc (.cells #[] 90)).ownsRow wz.heap.size 90 4 (.slice (some ⟨(wz.heap.size + 1), 0, none⟩) 0 0) 0 []) := Kit.hid (by
        have := World.ownsRow_lit (base := wz.heap.size) (e := 90) (size := 4) (wz.drew.alloc (.cells #[.int .i64 m.id, .int .i64 m.wt, .int .i64 nv, .int .i64 m.rem] 90)) #[] 0 (by rw [World.size_alloc]; exact Nat.le_succ _) (by decide) rfl
        rw [World.size_alloc] at this
        exact this)
      have HLB1 : Hid (((wz.drew.alloc (.cells #[.int .i64 m.id, .int .i64 m.wt, .int .i64 nv, .int .i64 m.rem] 90)).alloc (.cells #[] 90)).heap[wz.heap.size]? = some (.cells #[.int .i64 m.id, .int .i64 m.wt, .int .i64 nv, .int .i64 m.rem] 90 (0, 0))) := Kit.hid (blk_alloc HLB.out _)
      refine hK.out _ _ ?_ (fun hHeldN => ?_)
      · exact hHeld.alloc hHeld.size _
      clear hHeld
      have hHeld := hHeldN
      clear hHeldN
      clear hK K
      try simp only [Act.put, List.setIfInBounds_toArray, List.set_cons_zero, List.set_cons_succ]
      refine wpAnyT_step (i := 6) (by kernel_rfl) (ho := by simp only [List.getElem?_toArray, List.getElem?_cons_succ, List.getElem?_cons_zero]; rfl) (fun K hK => ?_)
      first
        | (refine step_append_srcS rfl _ _ 54 rfl wz.heap.size 90 (.agg #[.int .i64 0, .int .i64 0, .int .i64 0, .int .i64 0]) 4 32 (by decide) Try.underlying54 infoR rfl _ 0 _ (by simp [Act.eval, Act.put]) HO1b.out A l.length c (flatM 0 l) (by simp [Act.eval, Act.put]) (flatM_len 0 l) (HCL.out _ hHeld) (flatM_one _ _) (by unfold maxLen; omega) (by omega) hHeld.size ?_
           intro v6 w6 hown6 hg6 _
           rw [Nat.zero_add, List.nil_append] at hown6
           have HD6 : Hid (Below wz.heap.size wz w6) := Kit.hid (hHeld.grown hg6 hHeld.size (fun k hk => (HO1b.out.lt k hk).1))
           have HO6 := Kit.hid hown6
           have HLB6 : Hid (w6.heap[(wz.heap.size + 1)]? = some (.cells #[.int .i64 m.id, .int .i64 m.wt, .int .i64 nv, .int .i64 m.rem] 90 (0, 0))) := Kit.hid ((hg6.block _ (blk_lt HLB1.out) (fun e => by have h : (wz.heap.size + 1) = wz.heap.size := Option.some.inj e; omega)).trans HLB1.out)
           clear hown6 hg6)
        | (refine step_append_srcS rfl _ _ 54 rfl wz.heap.size 90 (.agg #[.int .i64 0, .int .i64 0, .int .i64 0, .int .i64 0]) 4 32 (by decide) Try.underlying54 infoR rfl _ 0 _ (by simp [Act.eval, Act.put]) HO1.out A l.length c (flatM 0 l) (by simp [Act.eval, Act.put]) (flatM_len 0 l) (HCL.out _ hHeld) (flatM_one _ _) (by unfold maxLen; omega) (by omega) hHeld.size ?_
           intro v6 w6 hown6 hg6 _
           rw [Nat.zero_add, List.nil_append] at hown6
           have HD6 : Hid (Below wz.heap.size wz w6) := Kit.hid (hHeld.grown hg6 hHeld.size (fun k hk => (HO1.out.lt k hk).1))
           have HO6 := Kit.hid hown6
           have HLB6 : Hid (w6.heap[wz.heap.size]? = some (.cells #[.int .i64 m.id, .int .i64 m.wt, .int .i64 nv, .int .i64 m.rem] 90 (0, 0))) := Kit.hid ((hg6.block _ (blk_lt HLB1.out) (fun e => by have h : wz.heap.size = (wz.heap.size + 1) := Option.some.inj e; omega)).trans HLB1.out)
           clear hown6 hg6)
      refine hK.out _ _ ?_ (fun hHeldN => ?_)
      · exact HD6.out
      clear hHeld
      have hHeld := hHeldN
      clear hHeldN
      clear hK K
      try simp only [Act.put, List.setIfInBounds_toArray, List.set_cons_zero, List.set_cons_succ]
      refine wpAnyT_step (i := 25) (by kernel_rfl) (ho := by simp only [List.getElem?_toArray, List.getElem?_cons_succ, List.getElem?_cons_zero]; rfl) (fun K hK => ?_)
      first
        | (refine step_append_srcS rfl _ _ 54 rfl wz.heap.size 90 (.agg #[.int .i64 0, .int .i64 0, .int .i64 0, .int .i64 0]) 4 32 (by decide) Try.underlying54 infoR rfl _ l.length _ (by simp [Act.eval, Act.put]) HO6b.out (some ⟨w6.heap.size, 0, none⟩) 1 1 [.int .i64 m.id, .int .i64 m.wt, .int .i64 nv, .int .i64 m.rem] (by simp [Act.eval, Act.put]) rfl (lit_cells HLB6.out) (by simp [Value.oneCell']) (by unfold maxLen; omega) (by omega) hHeld.size ?_
           intro v7 w7 hown7 hg7 _
           obtain ⟨A7, c7, hv7, _, _, _⟩ := own_readsS (by decide) hown7
           subst hv7
           have HD7 : Hid (Below wz.heap.size wz w7) := Kit.hid (hHeld.grown hg7 hHeld.size (fun k hk => (HO6b.out.lt k hk).1))
           have HO7 := Kit.hid hown7
           have HQ7 := Kit.hid (blk_below HQZ.out HD7.out)
           have q7 := blk_cell HQ7.out 0
           have q7f := blk_frozen HQ7.out 0
           have q7l := blk_lt HQ7.out
           clear hown7 hg7)
        | (refine step_append_srcS rfl _ _ 54 rfl wz.heap.size 90 (.agg #[.int .i64 0, .int .i64 0, .int .i64 0, .int .i64 0]) 4 32 (by decide) Try.underlying54 infoR rfl _ l.length _ (by simp [Act.eval, Act.put]) HO6.out (some ⟨(wz.heap.size + 1), 0, none⟩) 1 1 [.int .i64 m.id, .int .i64 m.wt, .int .i64 nv, .int .i64 m.rem] (by simp [Act.eval, Act.put]) rfl (lit_cells HLB6.out) (by simp [Value.oneCell']) (by unfold maxLen; omega) (by omega) hHeld.size ?_
           intro v7 w7 hown7 hg7 _
           obtain ⟨A7, c7, hv7, _, _, _⟩ := own_readsS (by decide) hown7
           subst hv7
           have HD7 : Hid (Below wz.heap.size wz w7) := Kit.hid (hHeld.grown hg7 hHeld.size (fun k hk => (HO6.out.lt k hk).1))
           have HO7 := Kit.hid hown7
           have HQ7 := Kit.hid (blk_below HQZ.out HD7.out)
           have q7 := blk_cell HQ7.out 0
           have q7f := blk_frozen HQ7.out 0
           have q7l := blk_lt HQ7.out
           clear hown7 hg7)
        | (refine step_append_srcS rfl _ _ 54 rfl wz.heap.size 90 (.agg #[.int .i64 0, .int .i64 0, .int .i64 0, .int .i64 0]) 4 32 (by decide) Try.underlying54 infoR rfl _ l.length _ (by simp [Act.eval, Act.put]) HO6.out (some ⟨wz.heap.size, 0, none⟩) 1 1 [.int .i64 m.id, .int .i64 m.wt, .int .i64 nv, .int .i64 m.rem] (by simp [Act.eval, Act.put]) rfl (lit_cells HLB6.out) (by simp [Value.oneCell']) (by unfold maxLen; omega) (by omega) hHeld.size ?_
           intro v7 w7 hown7 hg7 _
           obtain ⟨A7, c7, hv7, _, _, _⟩ := own_readsS (by decide) hown7
           subst hv7
           have HD7 : Hid (Below wz.heap.size wz w7) := Kit.hid (hHeld.grown hg7 hHeld.size (fun k hk => (HO6.out.lt k hk).1))
           have HO7 := Kit.hid hown7
           have HQ7 := Kit.hid (blk_below HQZ.out HD7.out)
           have q7 := blk_cell HQ7.out 0
           have q7f := blk_frozen HQ7.out 0
           have q7l := blk_lt HQ7.out
           clear hown7 hg7)
      refine hK.out _ _ ?_ (fun hHeldN => ?_)
      · exact HD7.out
      clear hHeld
      have hHeld := hHeldN
      clear hHeldN
      clear hK K
      try simp only [Act.put, List.setIfInBounds_toArray, List.set_cons_zero, List.set_cons_succ]
      refine wpAnyT_step (i := 26) (by kernel_rfl) (ho := by simp only [List.getElem?_toArray, List.getElem?_cons_succ, List.getElem?_cons_zero]; rfl) (fun K hK => ?_)
      go_simp
      refine hK.out _ _ ?_ (fun hHeldN => ?_)
      · exact hHeld
      clear hHeld
      have hHeld := hHeldN
      clear hHeldN
      clear hK K
      try simp only [Act.put, List.setIfInBounds_toArray, List.set_cons_zero, List.set_cons_succ]
      refine wpAnyT_take (i := 27) (hi := by simp only [List.getElem?_toArray, List.getElem?_cons_succ, List.getElem?_cons_zero]; rfl) (v := ?_) (by kernel_rfl) (by kernel_rfl) (by kernel_rfl) (by kernel_rfl) (fun _ _ _ h => h) (Or.inl ⟨by rfl, ?_⟩) (by assumption) ?_
      rotate_left
      · (intro w hSw; (try dsimp only at hSw); go_simp; first | done | with_reducible rfl)
      try simp only [Act.put, List.setIfInBounds_toArray, List.set_cons_zero, List.set_cons_succ]
      refine wpAnyT_last (by kernel_rfl) (ho := by simp only [List.getElem?_toArray, List.getElem?_cons_succ, List.getElem?_cons_zero]; rfl) (fun K hK => ?_)
      go_simp
      go_wp2_with fail
      refine hK.out _ _ ?_
      clear hK K
      try simp only [Act.put, List.setIfInBounds_toArray, List.set_cons_zero, List.set_cons_succ]
      clear hHeld
      refine wpAnyT_done (by kernel_rfl) ?_ _
      refine NoPanic.normal ?_
      go_wp2
      go_ret
      exact HFIN.out _ _ HD7.out HO7.out
end
end Go.Proofs.Ytggcbeoinmnopaa.Qu
