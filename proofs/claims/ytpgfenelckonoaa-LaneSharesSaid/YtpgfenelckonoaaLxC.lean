/- Lanes: one leaves its queue; paths; Leave. -/
import Derived.Test.YtpgfenelckonoaaLxB
import Derived.Test.YtpgfenelckonoaaKiS
namespace Go.Proofs.Ytpgfenelckonoaa.Qu
open Go.RowKit Go.Proofs.Ytpgfenelckonoaa.Kit Go.Proofs.Ytpgfenelckonoaa.ShM Go.Proofs.Ytpgfenelckonoaa.Sh Go.Proofs.Ytpgfenelckonoaa.QuM
set_option linter.unusedVariables false
set_option linter.unusedSimpArgs false
theorem held_cl (x : Int) (w : World) :
    Calls Try.prog 72 #[.int .i64 x, .int .i64 1, .int .i64 1048576] w fun e w' => e = .returned (.int .i64 (Go.Proofs.Ytpgfenelckonoaa.LaM.clampW x)) ∧ Below w.heap.size w w' := by
  have hb : Below w.heap.size w w := Below.refl _ _
  have HC : Hid (Go.Proofs.Ytpgfenelckonoaa.LaM.clampW x = if x < 1 then 1 else if 1048576 < x then 1048576 else x) := Kit.hid rfl
  generalize Go.Proofs.Ytpgfenelckonoaa.LaM.clampW x = c at HC ⊢
  go_enter Try.func72, Try.ntmps72
  go_wp2
  all_goals
    have hc := HC.out
    go_ret
    refine ⟨?_, hb⟩
    show Ending.returned (.int .i64 _) = Ending.returned (.int .i64 _)
    refine congrArg (fun z => Ending.returned (.int .i64 z)) ?_
    split at hc
    · omega
    split at hc
    · omega
    · omega
theorem weighs_cl (x : Int) (w : World) :
    Calls Try.prog 69 #[.int .i64 x] w fun e w' => e = .returned (.int .i64 (Go.Proofs.Ytpgfenelckonoaa.LaM.clampW x)) ∧ Below w.heap.size w w' := by
  have H := Kit.hid (held_cl x w)
  go_enter Try.func69, Try.ntmps69
  go_wp2_with fail
  (with_reducible refine H.out.mono ?_); rintro e w1 ⟨rfl, hb⟩
  go_wp2
  go_ret
  exact ⟨rfl, hb⟩
set_option maxHeartbeats 800000 in
theorem reweigh_cl (v rem wt zu : Int) (w : World) (h1 : 1 ≤ wt) (h2 : wt ≤ 1048576) (hr0 : 0 ≤ rem) (hr1 : rem < wt) :
    Calls Try.prog 51 #[.agg #[.int .i64 v, .int .i64 rem], .int .i64 wt, .int .i64 zu] w fun e w' => e = .returned (.agg #[.int .i64 v, .int .i64 (rem * Go.Proofs.Ytpgfenelckonoaa.LaM.clampW zu / wt)]) ∧ Below w.heap.size w w' := by
  have HW := Kit.hid (fun (w' : World) => weighs_id wt w' h1 h2)
  have HU := Kit.hid (fun (w' : World) => weighs_cl zu w')
  have hcl : 1 ≤ Go.Proofs.Ytpgfenelckonoaa.LaM.clampW zu ∧ Go.Proofs.Ytpgfenelckonoaa.LaM.clampW zu ≤ 1048576 := by
    unfold Go.Proofs.Ytpgfenelckonoaa.LaM.clampW
    split
    · omega
    · split <;> omega
  obtain ⟨g1, g2⟩ := hcl
  generalize Go.Proofs.Ytpgfenelckonoaa.LaM.clampW zu = wu at g1 g2 HU ⊢
  obtain ⟨pr, hpr⟩ : ∃ pr, pr = rem * wu := ⟨_, rfl⟩
  have hp0 : 0 ≤ pr := by rw [hpr]; exact Int.mul_nonneg hr0 (by omega)
  have hp1 : pr ≤ 1099511627776 := by
    rw [hpr]
    calc rem * wu ≤ 1048576 * wu := Int.mul_le_mul_of_nonneg_right (by omega) (by omega)
      _ ≤ 1048576 * 1048576 := Int.mul_le_mul_of_nonneg_left g2 (by omega)
      _ = 1099511627776 := by decide
  have hq0 : 0 ≤ pr / wt := Int.ediv_nonneg hp0 (by omega)
  have hq1 : pr / wt ≤ pr := Int.ediv_le_self _ hp0
  have e1 : pr.tdiv wt = pr / wt := by rw [Int.tdiv_eq_ediv_of_nonneg hp0]
  have e3 : IntKind.i64.wrap (rem * wu) = pr := by rw [IntKind.wrap_i64, ← hpr]; omega
  have e6 : IntKind.i64.wrap (pr / wt) = pr / wt := by rw [IntKind.wrap_i64]; omega
  have hwt : ¬ wt = 0 := by omega
  rw [← hpr]
  obtain ⟨wb, hwb⟩ : ∃ wb, wb = (w.alloc (.cells #[.int .i64 v, .int .i64 rem] 33)).alloc (.cells #[.int .i64 0, .int .i64 0] 33) := ⟨_, rfl⟩
  have HB : Hid (Below w.heap.size w wb) := Kit.hid (by rw [hwb]; exact ((Below.refl _ _).alloc (Nat.le_refl _) _).alloc (by simp) _)
  have HX : Hid (wb.heap[w.heap.size]? = some (.cells #[.int .i64 v, .int .i64 rem] 33 (0, 0))) := Kit.hid (by rw [hwb]; exact blk_alloc (blk_new _ _) _)
  have HY : Hid (wb.heap[w.heap.size + 1]? = some (.cells #[.int .i64 0, .int .i64 0] 33 (0, 0))) := Kit.hid (by
    rw [hwb]
    have := blk_new (w.alloc (.cells #[.int .i64 v, .int .i64 rem] 33)) (.cells #[.int .i64 0, .int .i64 0] 33)
    simpa using this)
  have HC : Hid (∀ w' : World, w'.heap[w.heap.size]? = wb.heap[w.heap.size]? → w'.cell? ⟨w.heap.size, 0, none⟩ = some (.int .i64 v) ∧ w'.cell? ⟨w.heap.size, 1, none⟩ = some (.int .i64 rem)) := Kit.hid (fun (w' : World) h => by
    have h1 := h.trans HX.out
    exact ⟨blk_cell h1 0, blk_cell h1 1⟩)
  have HLX := Kit.hid (blk_lt HX.out)
  clear h1 h2 g1 g2 hr0 hr1 hpr
  go_enter Try.func51, Try.ntmps51
  go_wp2_with fail
  rw [← hwb]
  clear hwb
  refine wp_region_noPanic ?_
  refine wp_region_held_drew (S := fun (w' : World) => w'.heap[w.heap.size]? = wb.heap[w.heap.size]?) (by kernel_rfl) rfl (fun hHeld => ?_)
  refine wpAnyH_take (i := 0) (hi := by simp only [List.getElem?_toArray, List.getElem?_cons_succ, List.getElem?_cons_zero]; rfl) (v := ?_) (by kernel_rfl) (by kernel_rfl) (by kernel_rfl) (fun _ _ _ h => h) (Or.inl ⟨by rfl, ?_⟩) (by assumption) ?_
  rotate_left
  · (intro w hSw; (try dsimp only at hSw); go_simp; first | done | with_reducible rfl)
  try simp only [Act.put, List.setIfInBounds_toArray, List.set_cons_zero, List.set_cons_succ]
  refine wpAnyH_take (i := 1) (hi := by simp only [List.getElem?_toArray, List.getElem?_cons_succ, List.getElem?_cons_zero]; rfl) (v := ?_) (by kernel_rfl) (by kernel_rfl) (by kernel_rfl) (fun _ _ _ h => h) (Or.inl ⟨by rfl, ?_⟩) (by assumption) ?_
  rotate_left
  · (intro w hSw; (try dsimp only at hSw); (obtain ⟨x0, x1⟩ := HC.out _ hSw); go_simp; first | done | with_reducible rfl)
  try simp only [Act.put, List.setIfInBounds_toArray, List.set_cons_zero, List.set_cons_succ]
  refine wpAnyH_take (i := 2) (hi := by simp only [List.getElem?_toArray, List.getElem?_cons_succ, List.getElem?_cons_zero]; rfl) (v := ?_) (by kernel_rfl) (by kernel_rfl) (by kernel_rfl) (fun _ _ _ h => h) (Or.inl ⟨by rfl, ?_⟩) (by assumption) ?_
  rotate_left
  · (intro w hSw; (try dsimp only at hSw); go_simp; first | done | with_reducible rfl)
  try simp only [Act.put, List.setIfInBounds_toArray, List.set_cons_zero, List.set_cons_succ]
  refine wpAnyH_take (i := 3) (hi := by simp only [List.getElem?_toArray, List.getElem?_cons_succ, List.getElem?_cons_zero]; rfl) (v := ?_) (by kernel_rfl) (by kernel_rfl) (by kernel_rfl) (fun _ _ _ h => h) (Or.inl ⟨by rfl, ?_⟩) (by assumption) ?_
  rotate_left
  · (intro w hSw; (try dsimp only at hSw); (obtain ⟨x0, x1⟩ := HC.out _ hSw); go_simp; first | done | with_reducible rfl)
  try simp only [Act.put, List.setIfInBounds_toArray, List.set_cons_zero, List.set_cons_succ]
  refine wpAnyH_take (i := 4) (hi := by simp only [List.getElem?_toArray, List.getElem?_cons_succ, List.getElem?_cons_zero]; rfl) (v := ?_) (by kernel_rfl) (by kernel_rfl) (by kernel_rfl) (fun _ _ _ h => h) (Or.inl ⟨by rfl, ?_⟩) (by assumption) ?_
  rotate_left
  · (intro w hSw; (try dsimp only at hSw); go_simp; first | done | with_reducible rfl)
  try simp only [Act.put, List.setIfInBounds_toArray, List.set_cons_zero, List.set_cons_succ]
  refine wpAnyH_take (i := 7) (hi := by simp only [List.getElem?_toArray, List.getElem?_cons_succ, List.getElem?_cons_zero]; rfl) (v := ?_) (by kernel_rfl) (by kernel_rfl) (by kernel_rfl) (fun _ _ _ h => h) (Or.inl ⟨by rfl, ?_⟩) (by assumption) ?_
  rotate_left
  · (intro w hSw; (try dsimp only at hSw); go_simp; first | done | with_reducible rfl)
  try simp only [Act.put, List.setIfInBounds_toArray, List.set_cons_zero, List.set_cons_succ]
  refine wpAnyH_ready (rs := [5]) (by kernel_rfl) (by simp) ?_
  refine AllReadyH.cons (ho := by simp only [List.getElem?_toArray, List.getElem?_cons_succ, List.getElem?_cons_zero]; rfl) (fun K hK => ?_) (AllReadyH.nil)
  go_simp
  go_at_call 69; (with_reducible refine (HU.out _).mono ?_); rintro e w5 ⟨rfl, hd⟩
  have HD5 : Hid (Below wb.heap.size wb w5) := Kit.hid ((Below.refl _ wb).drew.trans hd)
  clear hd
  go_wp2_with fail
  refine hK.out _ _ ?_ (fun hHeldN => ?_)
  · exact HD5.out.block _ HLX.out
  clear hHeld
  have hHeld := hHeldN
  clear hHeldN
  clear hK K
  try simp only [Act.put, List.setIfInBounds_toArray, List.set_cons_zero, List.set_cons_succ]
  refine wpAnyH_take (i := 6) (hi := by simp only [List.getElem?_toArray, List.getElem?_cons_succ, List.getElem?_cons_zero]; rfl) (v := ?_) (by kernel_rfl) (by kernel_rfl) (by kernel_rfl) (fun _ _ _ h => h) (Or.inl ⟨by rfl, ?_⟩) (by assumption) ?_
  rotate_left
  · (intro w hSw; (try dsimp only at hSw); go_simp; first | done | with_reducible rfl)
  try simp only [Act.put, List.setIfInBounds_toArray, List.set_cons_zero, List.set_cons_succ]
  refine wpAnyH_ready (rs := [8]) (by kernel_rfl) (by simp) ?_
  refine AllReadyH.cons (ho := by simp only [List.getElem?_toArray, List.getElem?_cons_succ, List.getElem?_cons_zero]; rfl) (fun K hK => ?_) (AllReadyH.nil)
  go_simp
  go_at_call 69; (with_reducible refine (HW.out _).mono ?_); rintro e w8 ⟨rfl, hd⟩
  have HD8 : Hid (Below wb.heap.size wb w8) := Kit.hid (HD5.out.trans (hd.mono HD5.out.size))
  have HB8 : Hid (Below w.heap.size w w8) := Kit.hid (HB.out.trans (HD8.out.mono HB.out.size))
  have HY8 : Hid (w8.heap[w.heap.size + 1]? = some (.cells #[.int .i64 0, .int .i64 0] 33 (0, 0))) := Kit.hid (blk_below HY.out HD8.out)
  have f0 := blk_frozen HY8.out 0
  have f1 := blk_frozen HY8.out 1
  have y0 := blk_cell HY8.out 0
  have y1 := blk_cell HY8.out 1
  clear hd
  go_wp2_with fail
  refine hK.out _ _ ?_ (fun hHeldN => ?_)
  · exact HD8.out.block _ HLX.out
  clear hHeld
  have hHeld := hHeldN
  clear hHeldN
  clear hK K
  try simp only [Act.put, List.setIfInBounds_toArray, List.set_cons_zero, List.set_cons_succ]
  refine wpAnyH_take (i := 9) (hi := by simp only [List.getElem?_toArray, List.getElem?_cons_succ, List.getElem?_cons_zero]; rfl) (v := ?_) (by kernel_rfl) (by kernel_rfl) (by kernel_rfl) (fun _ _ _ h => h) (Or.inl ⟨by rfl, ?_⟩) (by assumption) ?_
  rotate_left
  · (intro w hSw; (try dsimp only at hSw); go_simp; first | done | with_reducible rfl)
  try simp only [Act.put, List.setIfInBounds_toArray, List.set_cons_zero, List.set_cons_succ]
  refine wpAnyH_take (i := 10) (hi := by simp only [List.getElem?_toArray, List.getElem?_cons_succ, List.getElem?_cons_zero]; rfl) (v := ?_) (by kernel_rfl) (by kernel_rfl) (by kernel_rfl) (fun _ _ _ h => h) (Or.inl ⟨by rfl, ?_⟩) (by assumption) ?_
  rotate_left
  · (intro w hSw; (try dsimp only at hSw); go_simp; first | done | with_reducible rfl)
  try simp only [Act.put, List.setIfInBounds_toArray, List.set_cons_zero, List.set_cons_succ]
  refine wpAnyH_ready (rs := [11]) (by kernel_rfl) (by simp) ?_
  refine AllReadyH.cons (ho := by simp only [List.getElem?_toArray, List.getElem?_cons_succ, List.getElem?_cons_zero]; rfl) (fun K hK => ?_) (AllReadyH.nil)
  go_simp
  go_wp2_with fail
  refine hK.out _ _ ?_ (fun hHeldN => ?_)
  · exact ((Below.heap_setCell _ _ _ _ (by simp)).trans (Below.heap_setCell _ _ _ _ (by simp))).trans hHeld
  clear hHeld
  have hHeld := hHeldN
  clear hHeldN
  clear hK K
  try simp only [Act.put, List.setIfInBounds_toArray, List.set_cons_zero, List.set_cons_succ]
  clear hHeld
  refine wpAnyH_done (by kernel_rfl) ?_ _
  refine NoPanic.normal ?_
  skip
  go_wp2
  exact bodyPost_ret (results_cell_row rfl _ _ (w.heap.size + 1) 33 #[.int .i64 v, .int .i64 (pr / wt)] (0, 0) _ rfl (blk_put (blk_put HY8.out 0 (.int .i64 v) (cs' := #[.int .i64 v, .int .i64 0]) rfl) 1 (.int .i64 (pr / wt)) (cs' := #[.int .i64 v, .int .i64 (pr / wt)]) rfl) Try.underlying33 rfl (by kernel_rfl)) rfl ⟨rfl, (HB8.out.setCell (p := ⟨w.heap.size + 1, 0, none⟩) (by simp) _).setCell (p := ⟨w.heap.size + 1, 1, none⟩) (by simp) _⟩
end Go.Proofs.Ytpgfenelckonoaa.Qu
namespace Go.Proofs.Ytpgfenelckonoaa.La
open Go.RowKit Go.Proofs.Ytpgfenelckonoaa.Kit Go.Proofs.Ytpgfenelckonoaa.ShM Go.Proofs.Ytpgfenelckonoaa.Sh Go.Proofs.Ytpgfenelckonoaa.QuM Go.Proofs.Ytpgfenelckonoaa.Qu Go.Proofs.Ytpgfenelckonoaa.LaM
open Go.Proofs.Ytpgfenelckonoaa.Ki (Row row_nil row_of iv search_row contains_row clone_row insert_row delete_row)
set_option linter.unusedVariables false
set_option linter.unusedSimpArgs false
theorem zero_memb (w : World) : (zeroValue 35).run Try.prog w = .ok (.agg #[.int .i64 0, .int .i64 0, .int .i64 0, .int .i64 0]) w := by
  have h : (Try.prog.info? 35).map (·.zero) = some (some (.agg #[.int .i64 0, .int .i64 0, .agg #[.int .i64 0, .int .i64 0]])) ∨ (Try.prog.info? 35).map (·.zero) = some (some (.agg #[.int .i64 0, .int .i64 0, .int .i64 0, .int .i64 0])) := by
    first
      | exact Or.inr (by kernel_rfl)
      | exact Or.inl (by kernel_rfl)
  rcases h with h | h
  · exact absurd h (by
      intro h
      have h2 : (Try.prog.info? 35).map (·.zero) = some (some (.agg #[.int .i64 0, .int .i64 0, .int .i64 0, .int .i64 0])) := by kernel_rfl
      rw [h2] at h
      cases h)
  cases hp : Try.prog.info? 35 with
  | none => rw [hp] at h; cases h
  | some i =>
    rw [hp] at h
    simp only [Option.map_some, Option.some.injEq] at h
    simp [zeroValue, typeInfo, hp, h]
theorem gv_memS (S : LS) (g id : Int) : gv (get (S.Q g).1 id) (S.Q g).2 = memV (memS S g id) := by
  unfold memS
  cases get (S.Q g).1 id with
  | none => rfl
  | some m => rfl
section
variable {w w' : World} {lp n : Nat} {S : LS} {F : Nat → Prop}
theorem home_rng (h : LF F w lp S n) (id : Int) : -9223372036854775808 ≤ (S.home id).getD 0 ∧ (S.home id).getD 0 ≤ 9223372036854775807 := by
  cases hh : S.home id with
  | none => exact ⟨by decide, by decide⟩
  | some g => exact h.rng hh
set_option maxRecDepth 20000 in
set_option maxHeartbeats 3200000 in
theorem quit_lane (id : Int) (h : LF F w lp S n) (hn0 : 1 ≤ n) (hn : n ≤ 3900) (hi1 : -9223372036854775808 ≤ id) (hi2 : id ≤ 9223372036854775807) :
    Calls Try.prog 31 #[.pointer (some ⟨lp, 0, none⟩), .int .i64 id] w fun e w' => e = .returned (memV (memS S ((S.home id).getD 0) id)) ∧ Ln w F w' lp (quitS S id) (n + 1) ∧ w'.heap[lp]? = w.heap[lp]? := by
  have HLT := Kit.hid h.lt
  have HKEY : Hid (keyOf Try.prog 3 (.int .i64 id) = some (.int .i64 id)) := Kit.hid (int_key Try.underlying3 hi1 hi2)
  have HIR : Hid (-9223372036854775808 ≤ id ∧ id ≤ 9223372036854775807) := Kit.hid ⟨hi1, hi2⟩
  obtain ⟨g, hg⟩ : ∃ g, g = (S.home id).getD 0 := ⟨_, rfl⟩
  have hgr := home_rng h id
  rw [← hg] at hgr ⊢
  have HQS : Hid (quitS S id = { S with Q := upd S.Q g (del (S.Q g).1 id, (S.Q g).2), home := upd S.home id none }) := Kit.hid (by unfold quitS; rw [← hg])
  obtain ⟨gp, hgp⟩ : ∃ gp, gp = w.heap.size := ⟨_, rfl⟩
  obtain ⟨W1, hW1⟩ : ∃ W1, W1 = w.alloc (.cells #[.int .i64 0, .int .i64 0, .int .i64 0, .int .i64 0] 35) := ⟨_, rfl⟩
  have HB1 : Hid (Below w.heap.size w W1) := Kit.hid (by rw [hW1]; exact (Below.refl _ _).alloc (Nat.le_refl _) _)
  have HX1 : Hid (W1.heap[gp]? = some (.cells #[.int .i64 0, .int .i64 0, .int .i64 0, .int .i64 0] 35 (0, 0))) := Kit.hid (by rw [hW1, hgp]; exact blk_new _ _)
  have HNF : Hid (¬ F gp) := Kit.hid (fun hf => by have := HLT.out gp hf; omega)
  have HLW := Kit.hid (h.below HB1.out)
  have HGL := Kit.hid (blk_lt HX1.out)
  have HOF := Kit.hid (of_any g HLW.out hn0 (by omega) hgr.1 hgr.2)
  obtain ⟨mb, mh, mk, vt, Qp, Fq, hFe, hx⟩ := (show LF F w lp S n from h)
  have x1 := blk_cell hx.at_ 1
  have hll := blk_lt hx.at_
  have HLP := Kit.hid hll
  have HMH : Hid (∀ o, MapV Try.prog 3 (w.alloc o) mh (fun j => (S.home j).map (Value.int .i64)) n) := Kit.hid (fun o => hx.home.same (((Below.refl _ w).alloc (Nat.le_refl _) o).block mh hx.home.lt))
  have HLK : Hid ((if false = true then Value.tuple #[((S.home id).map (Value.int .i64)).getD (.int .i64 0), .bool ((S.home id).map (Value.int .i64)).isSome] else ((S.home id).map (Value.int .i64)).getD (.int .i64 0)) = .int .i64 g) := Kit.hid (by
    rw [hg]
    cases S.home id <;> rfl)
  obtain ⟨m, hm⟩ : ∃ m, m = memS S g id := ⟨_, rfl⟩
  have hgv := gv_memS S g id
  rw [← hm] at hgv ⊢
  unfold memV
  have HGV := Kit.hid hgv
  clear h hi1 hi2 hgr hg hFe hx hm hgv
  go_enter Try.func31, Try.ntmps31
  go_wp2_with (at_lookup; refine wpList_lookV rfl _ _ 63 false rfl 3 3 keyed Try.underlying63 _ (zero_int _) mh n (fun j => (S.home j).map (Value.int .i64)) rfl (HMH.out _) id rfl HKEY.out _ HLK.out ?_)
  rw [← hgp, ← hW1]
  have HGP := Kit.hid hgp
  clear hW1 hgp
  (with_reducible refine HOF.out.mono ?_); rintro e w2 ⟨p, rfl, G, q1, q2, q3, q4, q5, q6, q7⟩
  have HQ2 := Kit.hid q2
  have HQ3 := Kit.hid q3
  have HQ4 := Kit.hid q4
  have HG2 : Hid (w2.heap[gp]? = W1.heap[gp]?) := Kit.hid (q5.kept.block gp HGL.out HNF.out)
  have HGW : Hid (gp < w2.heap.size) := Kit.hid (Nat.lt_of_lt_of_le HGL.out q5.kept.size)
  have HA2 : Hid (w2.heap[lp]? = w.heap[lp]?) := Kit.hid (q6.trans (HB1.out.block lp HLP.out))
  have HL2 : Hid (lp < w2.heap.size) := Kit.hid (Nat.lt_of_lt_of_le HLP.out (Nat.le_trans HB1.out.size q5.kept.size))
  have HN2 := Kit.hid q7
  have HLV := Kit.hid (leave_any id q1 q2 (by omega) HIR.out.1 HIR.out.2)
  clear q1 q2 q3 q4 q5 q6 q7 x1 hll HOF
  rw [HGV.out] at HLV
  unfold memV at HLV
  obtain ⟨cd, hcd⟩ : ∃ cd : Int, cd = (if (get (S.Q g).1 id).isSome = true then 0 else 8) := ⟨_, rfl⟩
  rw [← hcd] at HLV
  clear hcd
  go_wp2_with fail
  (with_reducible refine HLV.out.mono ?_); rintro e w3 ⟨rfl, q⟩
  have hL3 : Ln W1 F w3 lp { S with Q := upd S.Q g (del (S.Q g).1 id, (S.Q g).2) } (n + 1) := HQ4.out w3 _ _ (n + 1) q (Nat.le_refl _) (HQ2.out.del id)
  have hG3 : w3.heap[gp]? = W1.heap[gp]? := (q.kept.block gp HGW.out (fun hf => by
    rcases HQ3.out gp hf with hh | hh
    · exact HNF.out hh
    · have := HGL.out
      omega)).trans HG2.out
  have hA3 : w3.heap[lp]? = w.heap[lp]? := (q.kept.block lp HL2.out HN2.out).trans HA2.out
  obtain ⟨w4, hw4⟩ : ∃ w4, w4 = w3.alloc (.cells #[.int .i64 m.id, .int .i64 m.wt, .int .i64 m.v, .int .i64 m.rem] 35) := ⟨_, rfl⟩
  have hb4 : Below w3.heap.size w3 w4 := by rw [hw4]; exact (Below.refl _ _).alloc (Nat.le_refl _) _
  have hX4 : w4.heap[w3.heap.size]? = some (.cells #[.int .i64 m.id, .int .i64 m.wt, .int .i64 m.v, .int .i64 m.rem] 35 (0, 0)) := by rw [hw4]; exact blk_new _ _
  obtain ⟨F3, h3, hF3, hK3⟩ := hL3
  have h4 := h3.below hb4
  have hlt3 := h3.lt
  have hl3 : lp < w3.heap.size := Nat.lt_of_lt_of_le HL2.out q.kept.size
  obtain ⟨nb, nh, nk, ut, Qp3, Fq3, rfl, hx4⟩ := h4
  obtain ⟨w5, hrun, hm5, hg5⟩ := hx4.home.drop (ty := 0) keyed Try.underlying63 HKEY.out
  have HN5 : Hid (gp ≠ nh ∧ w3.heap.size ≠ nh ∧ lp ≠ nh) := Kit.hid ⟨fun e => by
      subst e
      rcases hF3 gp (.inr (.inr (.inl rfl))) with hh | hh
      · exact HNF.out hh
      · have := HGL.out; omega, fun e => by
      have := hlt3 nh (.inr (.inr (.inl rfl)))
      omega, hx4.parts.1.2.1⟩
  have HL5 : Hid (Ln W1 F w5 lp (quitS S id) (n + 1)) := Kit.hid (by
    rw [HQS.out]
    have h := hx4.setHome (H := upd S.home id none) (n' := n + 1) (hm5.congr fun j => by
      unfold upd
      try dsimp only
      split <;> rfl) hg5 (Nat.le_refl _) (fun x y hxy => by
      unfold upd at hxy
      split at hxy
      · cases hxy
      · exact hx4.rng x y hxy)
    exact Ln.trans hF3 (hK3.below hb4) h)
  have hgl3 : gp < w3.heap.size := Nat.lt_of_lt_of_le HGW.out q.kept.size
  have HX5 : Hid (w5.heap[w3.heap.size]? = some (.cells #[.int .i64 m.id, .int .i64 m.wt, .int .i64 m.v, .int .i64 m.rem] 35 (0, 0))) := Kit.hid ((hg5.block _ (blk_lt hX4) (fun e => HN5.out.2.1 (Option.some.inj e))).trans hX4)
  have HY5 : Hid (w5.heap[gp]? = some (.cells #[.int .i64 0, .int .i64 0, .int .i64 0, .int .i64 0] 35 (0, 0))) := Kit.hid ((hg5.block gp (Nat.lt_of_lt_of_le hgl3 hb4.size) (fun e => HN5.out.1 (Option.some.inj e))).trans ((hb4.block gp hgl3).trans (hG3.trans HX1.out)))
  have HA5 : Hid (w5.heap[lp]? = w.heap[lp]?) := Kit.hid ((hg5.block lp (Nat.lt_of_lt_of_le hl3 hb4.size) (fun e => HN5.out.2.2 (Option.some.inj e))).trans ((hb4.block lp hl3).trans hA3))
  have x4 : w4.cell? ⟨lp, 1, none⟩ = some (.map (some nh)) := blk_cell hx4.at_ 1
  have r0 := blk_cell HX5.out 0
  have r1 := blk_cell HX5.out 1
  have r2 := blk_cell HX5.out 2
  have r3 := blk_cell HX5.out 3
  have y0 := blk_cell HY5.out 0
  have y1 := blk_cell HY5.out 1
  have y2 := blk_cell HY5.out 2
  have y3 := blk_cell HY5.out 3
  have f0 := blk_frozen HY5.out 0
  have f1 := blk_frozen HY5.out 1
  have f2 := blk_frozen HY5.out 2
  have f3 := blk_frozen HY5.out 3
  have HNG : Hid (¬ F gp) := HNF
  have HL6 : Hid (Ln w F ((((w5.setCell ⟨gp, 0, none⟩ (.int .i64 m.id)).setCell ⟨gp, 1, none⟩ (.int .i64 m.wt)).setCell ⟨gp, 2, none⟩ (.int .i64 m.v)).setCell ⟨gp, 3, none⟩ (.int .i64 m.rem)) lp (quitS S id) (n + 1)) := Kit.hid (HL5.out.own HB1.out HLT.out (Nat.le_of_eq HGP.out.symm) HGL.out (set4_grown _ _ _ _ _ _))
  clear hx4 hm5 hg5 q h3 hF3 hK3 hG3 hb4 hX4 hlt3 HLV hA3 hl3 hgl3
  rw [hw4] at hrun x4
  clear hw4
  go_wp2
  exact qmem_ret rfl gp _ _ _ _ rfl (mem_store HY5.out) rfl ⟨rfl, HL6.out, (set4 (by have := HLP.out; have := HGP.out; omega)).trans HA5.out⟩
set_option maxRecDepth 20000 in
set_option maxHeartbeats 3200000 in
theorem member_any (s : St) (h : LF F w lp S n) (hk : ∀ k, S.kept s.id = some k → 1 ≤ k.wt ∧ k.wt ≤ 1048576 ∧ 0 ≤ k.rem ∧ k.rem < k.wt) (hi1 : -9223372036854775808 ≤ s.id) (hi2 : s.id ≤ 9223372036854775807) :
    Calls Try.prog 32 #[.pointer (some ⟨lp, 0, none⟩), .agg #[.int .i64 s.id, .int .i64 s.wt]] w fun e w' => e = .returned (memV (memberS S s)) ∧ Below w.heap.size w w' := by
  have HKEY : Hid (keyOf Try.prog 3 (.int .i64 s.id) = some (.int .i64 s.id)) := Kit.hid (int_key Try.underlying3 hi1 hi2)
  obtain ⟨mb, mh, mk, vt, Qp, Fq, hFe, hx⟩ := h
  obtain ⟨W1, hW1⟩ : ∃ W1, W1 = ((w.alloc (.cells #[.int .i64 s.id, .int .i64 s.wt] 30)).alloc (.cells #[.int .i64 0, .int .i64 0, .int .i64 0, .int .i64 0] 35)).alloc (.cells #[.int .i64 s.id, .int .i64 s.wt, .int .i64 0, .int .i64 0] 35) := ⟨_, rfl⟩
  have HB1 : Hid (Below w.heap.size w W1) := Kit.hid (by rw [hW1]; exact (((Below.refl _ _).alloc (Nat.le_refl _) _).alloc (by simp) _).alloc (by simp; omega) _)
  have HX1 : Hid (W1.heap[w.heap.size]? = some (.cells #[.int .i64 s.id, .int .i64 s.wt] 30 (0, 0))) := Kit.hid (by rw [hW1]; exact blk_alloc (blk_alloc (blk_new _ _) _) _)
  have HY1 : Hid (W1.heap[w.heap.size + 1]? = some (.cells #[.int .i64 0, .int .i64 0, .int .i64 0, .int .i64 0] 35 (0, 0))) := Kit.hid (by
    rw [hW1]
    have := blk_new (w.alloc (.cells #[.int .i64 s.id, .int .i64 s.wt] 30)) (.cells #[.int .i64 0, .int .i64 0, .int .i64 0, .int .i64 0] 35)
    rw [World.size_alloc] at this
    exact blk_alloc this _)
  have HZ1 : Hid (W1.heap[w.heap.size + 1 + 1]? = some (.cells #[.int .i64 s.id, .int .i64 s.wt, .int .i64 0, .int .i64 0] 35 (0, 0))) := Kit.hid (by
    rw [hW1]
    have := blk_new ((w.alloc (.cells #[.int .i64 s.id, .int .i64 s.wt] 30)).alloc (.cells #[.int .i64 0, .int .i64 0, .int .i64 0, .int .i64 0] 35)) (.cells #[.int .i64 s.id, .int .i64 s.wt, .int .i64 0, .int .i64 0] 35)
    rw [World.size_alloc, World.size_alloc] at this
    exact this)
  have hx1 := hx.below HB1.out
  have HLW := Kit.hid (blk_lt hx1.at_)
  have HAT := Kit.hid hx1.at_
  have HMK := Kit.hid hx1.kept
  have hlp := blk_lt hx.at_
  clear hi1 hi2 hFe hx hx1
  go_enter Try.func32, Try.ntmps32
  go_wp2_with fail
  rw [← hW1]
  clear hW1
  cases hkp : S.kept s.id with
  | none =>
    have HM : Hid (memberS S s = ⟨s.id, s.wt, 0, 0⟩) := Kit.hid (by unfold memberS; rw [hkp])
    have HS1 : Hid (∀ w' : World, Below W1.heap.size W1 w' → w'.cell? ⟨lp, 3, none⟩ = some (.map (some mk)) ∧ w'.cell? ⟨w.heap.size, 0, none⟩ = some (.int .i64 s.id) ∧ (Instr.lookup 64 (.map (some mk)) (.int .i64 s.id) true).run Try.prog w' = .ok (.tuple #[.agg #[.int .i64 0, .int .i64 0, .int .i64 0, .int .i64 0], .bool false]) w') := Kit.hid (fun w' hb => by
      refine ⟨blk_cell (blk_below HAT.out hb) 3, blk_cell (blk_below HX1.out hb) 0, ?_⟩
      rw [(HMK.out.same (hb.block mk HMK.out.lt)).look true keyed Try.underlying64 (zero_memb w') HKEY.out]
      simp [hkp])
    clear hkp hk
    refine wp_region_noPanic ?_
    refine wp_region_held_drew (S := fun (w' : World) => Below W1.heap.size W1 w') (by kernel_rfl) (Below.refl _ W1).drew (fun hHeld => ?_)
    refine wpAnyH_take (i := 0) (hi := by simp only [List.getElem?_toArray, List.getElem?_cons_succ, List.getElem?_cons_zero]; rfl) (v := ?_) (by kernel_rfl) (by kernel_rfl) (by kernel_rfl) (fun _ _ _ h => h) (Or.inl ⟨by rfl, ?_⟩) (by assumption) ?_
    rotate_left
    · (intro w hSw; (try dsimp only at hSw); go_simp; first | done | with_reducible rfl)
    try simp only [Act.put, List.setIfInBounds_toArray, List.set_cons_zero, List.set_cons_succ]
    refine wpAnyH_take (i := 1) (hi := by simp only [List.getElem?_toArray, List.getElem?_cons_succ, List.getElem?_cons_zero]; rfl) (v := ?_) (by kernel_rfl) (by kernel_rfl) (by kernel_rfl) (fun _ _ _ h => h) (Or.inl ⟨by rfl, ?_⟩) (by assumption) ?_
    rotate_left
    · (intro w hSw; (try dsimp only at hSw); (obtain ⟨x0, x1, x2⟩ := HS1.out _ hSw); go_simp; first | done | with_reducible rfl)
    try simp only [Act.put, List.setIfInBounds_toArray, List.set_cons_zero, List.set_cons_succ]
    refine wpAnyH_take (i := 2) (hi := by simp only [List.getElem?_toArray, List.getElem?_cons_succ, List.getElem?_cons_zero]; rfl) (v := ?_) (by kernel_rfl) (by kernel_rfl) (by kernel_rfl) (fun _ _ _ h => h) (Or.inl ⟨by rfl, ?_⟩) (by assumption) ?_
    rotate_left
    · (intro w hSw; (try dsimp only at hSw); go_simp; first | done | with_reducible rfl)
    try simp only [Act.put, List.setIfInBounds_toArray, List.set_cons_zero, List.set_cons_succ]
    refine wpAnyH_take (i := 3) (hi := by simp only [List.getElem?_toArray, List.getElem?_cons_succ, List.getElem?_cons_zero]; rfl) (v := ?_) (by kernel_rfl) (by kernel_rfl) (by kernel_rfl) (fun _ _ _ h => h) (Or.inl ⟨by rfl, ?_⟩) (by assumption) ?_
    rotate_left
    · (intro w hSw; (try dsimp only at hSw); (obtain ⟨x0, x1, x2⟩ := HS1.out _ hSw); go_simp; first | done | with_reducible rfl)
    try simp only [Act.put, List.setIfInBounds_toArray, List.set_cons_zero, List.set_cons_succ]
    refine wpAnyH_take (i := 4) (hi := by simp only [List.getElem?_toArray, List.getElem?_cons_succ, List.getElem?_cons_zero]; rfl) (v := ?_) (by kernel_rfl) (by kernel_rfl) (by kernel_rfl) (fun _ _ _ h => h) (Or.inl ⟨by rfl, ?_⟩) (by assumption) ?_
    rotate_left
    · (intro w hSw; (try dsimp only at hSw); go_simp; first | done | with_reducible rfl)
    try simp only [Act.put, List.setIfInBounds_toArray, List.set_cons_zero, List.set_cons_succ]
    refine wpAnyH_take (i := 5) (hi := by simp only [List.getElem?_toArray, List.getElem?_cons_succ, List.getElem?_cons_zero]; rfl) (v := ?_) (by kernel_rfl) (by kernel_rfl) (by kernel_rfl) (fun _ _ _ h => h) (Or.inl ⟨by rfl, ?_⟩) (by assumption) ?_
    rotate_left
    · (intro w hSw; (try dsimp only at hSw); (obtain ⟨x0, x1, x2⟩ := HS1.out _ hSw); go_simp; first | done | with_reducible rfl)
    try simp only [Act.put, List.setIfInBounds_toArray, List.set_cons_zero, List.set_cons_succ]
    refine wpAnyH_take (i := 6) (hi := by simp only [List.getElem?_toArray, List.getElem?_cons_succ, List.getElem?_cons_zero]; rfl) (v := ?_) (by kernel_rfl) (by kernel_rfl) (by kernel_rfl) (fun _ _ _ h => h) (Or.inl ⟨by rfl, ?_⟩) (by assumption) ?_
    rotate_left
    · (intro w hSw; (try dsimp only at hSw); (obtain ⟨x0, x1, x2⟩ := HS1.out _ hSw); go_simp; first | done | with_reducible rfl)
    try simp only [Act.put, List.setIfInBounds_toArray, List.set_cons_zero, List.set_cons_succ]
    refine wpAnyH_take (i := 7) (hi := by simp only [List.getElem?_toArray, List.getElem?_cons_succ, List.getElem?_cons_zero]; rfl) (v := ?_) (by kernel_rfl) (by kernel_rfl) (by kernel_rfl) (fun _ _ _ h => h) (Or.inl ⟨by rfl, ?_⟩) (by assumption) ?_
    rotate_left
    · (intro w hSw; (try dsimp only at hSw); go_simp; first | done | with_reducible rfl)
    try simp only [Act.put, List.setIfInBounds_toArray, List.set_cons_zero, List.set_cons_succ]
    refine wpAnyH_take (i := 8) (hi := by simp only [List.getElem?_toArray, List.getElem?_cons_succ, List.getElem?_cons_zero]; rfl) (v := ?_) (by kernel_rfl) (by kernel_rfl) (by kernel_rfl) (fun _ _ _ h => h) (Or.inl ⟨by rfl, ?_⟩) (by assumption) ?_
    rotate_left
    · (intro w hSw; (try dsimp only at hSw); go_simp; first | done | with_reducible rfl)
    try simp only [Act.put, List.setIfInBounds_toArray, List.set_cons_zero, List.set_cons_succ]
    refine wpAnyH_take (i := 9) (hi := by simp only [List.getElem?_toArray, List.getElem?_cons_succ, List.getElem?_cons_zero]; rfl) (v := ?_) (by kernel_rfl) (by kernel_rfl) (by kernel_rfl) (fun _ _ _ h => h) (Or.inl ⟨by rfl, ?_⟩) (by assumption) ?_
    rotate_left
    · (intro w hSw; (try dsimp only at hSw); go_simp; first | done | with_reducible rfl)
    try simp only [Act.put, List.setIfInBounds_toArray, List.set_cons_zero, List.set_cons_succ]
    refine wpAnyH_ready (rs := [10]) (by kernel_rfl) (by simp) ?_
    refine AllReadyH.cons (ho := by simp only [List.getElem?_toArray, List.getElem?_cons_succ, List.getElem?_cons_zero]; rfl) (fun K hK => ?_) (AllReadyH.nil)
    go_simp
    go_wp2_with fail
    refine hK.out _ _ ?_ (fun hHeldN => ?_)
    · exact (Below.refl _ W1).drew.alloc (Nat.le_refl _) _
    clear hHeld
    have hHeld := hHeldN
    clear hHeldN
    clear hK K
    try simp only [Act.put, List.setIfInBounds_toArray, List.set_cons_zero, List.set_cons_succ]
    refine wpAnyH_ready (rs := [11]) (by kernel_rfl) (by simp) ?_
    refine AllReadyH.cons (ho := by simp only [List.getElem?_toArray, List.getElem?_cons_succ, List.getElem?_cons_zero]; rfl) (fun K hK => ?_) (AllReadyH.nil)
    go_simp
    go_wp2_with fail
    refine hK.out _ _ ?_ (fun hHeldN => ?_)
    · exact ((Below.refl _ W1).alloc (Nat.le_refl _) _).drew
    clear hHeld
    have hHeld := hHeldN
    clear hHeldN
    clear hK K
    try simp only [Act.put, List.setIfInBounds_toArray, List.set_cons_zero, List.set_cons_succ]
    refine wpAnyH_take (i := 12) (hi := by simp only [List.getElem?_toArray, List.getElem?_cons_succ, List.getElem?_cons_zero]; rfl) (v := ?_) (by kernel_rfl) (by kernel_rfl) (by kernel_rfl) (fun _ _ _ h => h) (Or.inl ⟨by rfl, ?_⟩) (by assumption) ?_
    rotate_left
    · (intro w hSw; (try dsimp only at hSw); go_simp; first | done | with_reducible rfl)
    try simp only [Act.put, List.setIfInBounds_toArray, List.set_cons_zero, List.set_cons_succ]
    clear hHeld
    refine wpAnyH_done (by kernel_rfl) ?_ _
    refine NoPanic.normal ?_
    generalize hW2 : World.drew (World.alloc W1 _) = W2
    have HB2 : Hid (Below W1.heap.size W1 W2) := Kit.hid (by rw [← hW2]; exact ((Below.refl _ W1).alloc (Nat.le_refl _) _).drew)
    have HN2 : Hid (W2.heap[W1.heap.size]? = some (.cells #[.int .i64 0, .int .i64 0, .int .i64 0, .int .i64 0] 35 (0, 0))) := Kit.hid (by rw [← hW2]; exact blk_new W1 _)
    clear hW2
    have HR2 := Kit.hid (blk_below HY1.out HB2.out)
    have hZ2 := blk_below HZ1.out HB2.out
    have z0 := blk_cell hZ2 0
    have z1 := blk_cell hZ2 1
    have z2 := blk_cell hZ2 2
    have z3 := blk_cell hZ2 3
    have lz := blk_lt hZ2
    have r0 := blk_cell HR2.out 0
    have r1 := blk_cell HR2.out 1
    have r2 := blk_cell HR2.out 2
    have r3 := blk_cell HR2.out 3
    have f0 := blk_frozen HR2.out 0
    have f1 := blk_frozen HR2.out 1
    have f2 := blk_frozen HR2.out 2
    have f3 := blk_frozen HR2.out 3
    clear hZ2
    go_wp2
    exact qmem_ret rfl (w.heap.size + 1) _ _ _ _ rfl (mem_store HR2.out) rfl ⟨by rw [HM.out]; rfl, below_set4 (HB1.out.trans (HB2.out.mono HB1.out.size)) (by omega)⟩
  | some k =>
    obtain ⟨q1, q2, q3, q4⟩ := hk k hkp
    obtain ⟨nr, hnr⟩ : ∃ nr, nr = k.rem * clampW s.wt / k.wt := ⟨_, rfl⟩
    have HM : Hid (memberS S s = ⟨s.id, s.wt, k.v, nr⟩) := Kit.hid (by unfold memberS; rw [hkp, hnr])
    have HS1 : Hid (∀ w' : World, Below W1.heap.size W1 w' → w'.cell? ⟨lp, 3, none⟩ = some (.map (some mk)) ∧ w'.cell? ⟨w.heap.size, 0, none⟩ = some (.int .i64 s.id) ∧ (Instr.lookup 64 (.map (some mk)) (.int .i64 s.id) true).run Try.prog w' = .ok (.tuple #[.agg #[.int .i64 k.id, .int .i64 k.wt, .int .i64 k.v, .int .i64 k.rem], .bool true]) w') := Kit.hid (fun w' hb => by
      refine ⟨blk_cell (blk_below HAT.out hb) 3, blk_cell (blk_below HX1.out hb) 0, ?_⟩
      rw [(HMK.out.same (hb.block mk HMK.out.lt)).look true keyed Try.underlying64 (zero_memb w') HKEY.out]
      simp [hkp, memV])
    have HRW := Kit.hid (fun (w' : World) => reweigh_cl k.v k.rem k.wt s.wt w' q1 q2 q3 q4)
    rw [← hnr] at HRW
    clear hkp hk hnr
    refine wp_region_noPanic ?_
    refine wp_region_held_drew (S := fun (w' : World) => Below W1.heap.size W1 w') (by kernel_rfl) (Below.refl _ W1).drew (fun hHeld => ?_)
    refine wpAnyH_take (i := 0) (hi := by simp only [List.getElem?_toArray, List.getElem?_cons_succ, List.getElem?_cons_zero]; rfl) (v := ?_) (by kernel_rfl) (by kernel_rfl) (by kernel_rfl) (fun _ _ _ h => h) (Or.inl ⟨by rfl, ?_⟩) (by assumption) ?_
    rotate_left
    · (intro w hSw; (try dsimp only at hSw); go_simp; first | done | with_reducible rfl)
    try simp only [Act.put, List.setIfInBounds_toArray, List.set_cons_zero, List.set_cons_succ]
    refine wpAnyH_take (i := 1) (hi := by simp only [List.getElem?_toArray, List.getElem?_cons_succ, List.getElem?_cons_zero]; rfl) (v := ?_) (by kernel_rfl) (by kernel_rfl) (by kernel_rfl) (fun _ _ _ h => h) (Or.inl ⟨by rfl, ?_⟩) (by assumption) ?_
    rotate_left
    · (intro w hSw; (try dsimp only at hSw); (obtain ⟨x0, x1, x2⟩ := HS1.out _ hSw); go_simp; first | done | with_reducible rfl)
    try simp only [Act.put, List.setIfInBounds_toArray, List.set_cons_zero, List.set_cons_succ]
    refine wpAnyH_take (i := 2) (hi := by simp only [List.getElem?_toArray, List.getElem?_cons_succ, List.getElem?_cons_zero]; rfl) (v := ?_) (by kernel_rfl) (by kernel_rfl) (by kernel_rfl) (fun _ _ _ h => h) (Or.inl ⟨by rfl, ?_⟩) (by assumption) ?_
    rotate_left
    · (intro w hSw; (try dsimp only at hSw); go_simp; first | done | with_reducible rfl)
    try simp only [Act.put, List.setIfInBounds_toArray, List.set_cons_zero, List.set_cons_succ]
    refine wpAnyH_take (i := 3) (hi := by simp only [List.getElem?_toArray, List.getElem?_cons_succ, List.getElem?_cons_zero]; rfl) (v := ?_) (by kernel_rfl) (by kernel_rfl) (by kernel_rfl) (fun _ _ _ h => h) (Or.inl ⟨by rfl, ?_⟩) (by assumption) ?_
    rotate_left
    · (intro w hSw; (try dsimp only at hSw); (obtain ⟨x0, x1, x2⟩ := HS1.out _ hSw); go_simp; first | done | with_reducible rfl)
    try simp only [Act.put, List.setIfInBounds_toArray, List.set_cons_zero, List.set_cons_succ]
    refine wpAnyH_take (i := 4) (hi := by simp only [List.getElem?_toArray, List.getElem?_cons_succ, List.getElem?_cons_zero]; rfl) (v := ?_) (by kernel_rfl) (by kernel_rfl) (by kernel_rfl) (fun _ _ _ h => h) (Or.inl ⟨by rfl, ?_⟩) (by assumption) ?_
    rotate_left
    · (intro w hSw; (try dsimp only at hSw); go_simp; first | done | with_reducible rfl)
    try simp only [Act.put, List.setIfInBounds_toArray, List.set_cons_zero, List.set_cons_succ]
    refine wpAnyH_take (i := 5) (hi := by simp only [List.getElem?_toArray, List.getElem?_cons_succ, List.getElem?_cons_zero]; rfl) (v := ?_) (by kernel_rfl) (by kernel_rfl) (by kernel_rfl) (fun _ _ _ h => h) (Or.inl ⟨by rfl, ?_⟩) (by assumption) ?_
    rotate_left
    · (intro w hSw; (try dsimp only at hSw); (obtain ⟨x0, x1, x2⟩ := HS1.out _ hSw); go_simp; first | done | with_reducible rfl)
    try simp only [Act.put, List.setIfInBounds_toArray, List.set_cons_zero, List.set_cons_succ]
    refine wpAnyH_take (i := 6) (hi := by simp only [List.getElem?_toArray, List.getElem?_cons_succ, List.getElem?_cons_zero]; rfl) (v := ?_) (by kernel_rfl) (by kernel_rfl) (by kernel_rfl) (fun _ _ _ h => h) (Or.inl ⟨by rfl, ?_⟩) (by assumption) ?_
    rotate_left
    · (intro w hSw; (try dsimp only at hSw); (obtain ⟨x0, x1, x2⟩ := HS1.out _ hSw); go_simp; first | done | with_reducible rfl)
    try simp only [Act.put, List.setIfInBounds_toArray, List.set_cons_zero, List.set_cons_succ]
    refine wpAnyH_take (i := 7) (hi := by simp only [List.getElem?_toArray, List.getElem?_cons_succ, List.getElem?_cons_zero]; rfl) (v := ?_) (by kernel_rfl) (by kernel_rfl) (by kernel_rfl) (fun _ _ _ h => h) (Or.inl ⟨by rfl, ?_⟩) (by assumption) ?_
    rotate_left
    · (intro w hSw; (try dsimp only at hSw); go_simp; first | done | with_reducible rfl)
    try simp only [Act.put, List.setIfInBounds_toArray, List.set_cons_zero, List.set_cons_succ]
    refine wpAnyH_take (i := 8) (hi := by simp only [List.getElem?_toArray, List.getElem?_cons_succ, List.getElem?_cons_zero]; rfl) (v := ?_) (by kernel_rfl) (by kernel_rfl) (by kernel_rfl) (fun _ _ _ h => h) (Or.inl ⟨by rfl, ?_⟩) (by assumption) ?_
    rotate_left
    · (intro w hSw; (try dsimp only at hSw); go_simp; first | done | with_reducible rfl)
    try simp only [Act.put, List.setIfInBounds_toArray, List.set_cons_zero, List.set_cons_succ]
    refine wpAnyH_take (i := 9) (hi := by simp only [List.getElem?_toArray, List.getElem?_cons_succ, List.getElem?_cons_zero]; rfl) (v := ?_) (by kernel_rfl) (by kernel_rfl) (by kernel_rfl) (fun _ _ _ h => h) (Or.inl ⟨by rfl, ?_⟩) (by assumption) ?_
    rotate_left
    · (intro w hSw; (try dsimp only at hSw); go_simp; first | done | with_reducible rfl)
    try simp only [Act.put, List.setIfInBounds_toArray, List.set_cons_zero, List.set_cons_succ]
    refine wpAnyH_ready (rs := [10]) (by kernel_rfl) (by simp) ?_
    refine AllReadyH.cons (ho := by simp only [List.getElem?_toArray, List.getElem?_cons_succ, List.getElem?_cons_zero]; rfl) (fun K hK => ?_) (AllReadyH.nil)
    go_simp
    go_wp2_with fail
    refine hK.out _ _ ?_ (fun hHeldN => ?_)
    · exact (Below.refl _ W1).drew.alloc (Nat.le_refl _) _
    clear hHeld
    have hHeld := hHeldN
    clear hHeldN
    clear hK K
    try simp only [Act.put, List.setIfInBounds_toArray, List.set_cons_zero, List.set_cons_succ]
    refine wpAnyH_ready (rs := [11]) (by kernel_rfl) (by simp) ?_
    refine AllReadyH.cons (ho := by simp only [List.getElem?_toArray, List.getElem?_cons_succ, List.getElem?_cons_zero]; rfl) (fun K hK => ?_) (AllReadyH.nil)
    go_simp
    go_wp2_with fail
    refine hK.out _ _ ?_ (fun hHeldN => ?_)
    · exact ((Below.refl _ W1).alloc (Nat.le_refl _) _).drew
    clear hHeld
    have hHeld := hHeldN
    clear hHeldN
    clear hK K
    try simp only [Act.put, List.setIfInBounds_toArray, List.set_cons_zero, List.set_cons_succ]
    refine wpAnyH_take (i := 12) (hi := by simp only [List.getElem?_toArray, List.getElem?_cons_succ, List.getElem?_cons_zero]; rfl) (v := ?_) (by kernel_rfl) (by kernel_rfl) (by kernel_rfl) (fun _ _ _ h => h) (Or.inl ⟨by rfl, ?_⟩) (by assumption) ?_
    rotate_left
    · (intro w hSw; (try dsimp only at hSw); go_simp; first | done | with_reducible rfl)
    try simp only [Act.put, List.setIfInBounds_toArray, List.set_cons_zero, List.set_cons_succ]
    clear hHeld
    refine wpAnyH_done (by kernel_rfl) ?_ _
    refine NoPanic.normal ?_
    generalize hW2 : World.drew (World.alloc W1 _) = W2
    have HB2 : Hid (Below W1.heap.size W1 W2) := Kit.hid (by rw [← hW2]; exact ((Below.refl _ W1).alloc (Nat.le_refl _) _).drew)
    have HN2 : Hid (W2.heap[W1.heap.size]? = some (.cells #[.int .i64 k.id, .int .i64 k.wt, .int .i64 k.v, .int .i64 k.rem] 35 (0, 0))) := Kit.hid (by rw [← hW2]; exact blk_new W1 _)
    clear hW2
    have HR2 := Kit.hid (blk_below HY1.out HB2.out)
    have HZ2 := Kit.hid (blk_below HZ1.out HB2.out)
    have HX2 := Kit.hid (blk_below HX1.out HB2.out)
    have s1 := blk_cell HX2.out 1
    have ls := blk_lt HX2.out
    have n1 := blk_cell HN2.out 1
    have n2 := blk_cell HN2.out 2
    have n3 := blk_cell HN2.out 3
    have ln := blk_lt HN2.out
    go_wp2_with fail
    (with_reducible refine (HRW.out _).mono ?_); rintro e w3 ⟨rfl, hb3⟩
    have HB3 : Hid (Below w.heap.size w w3) := Kit.hid (HB1.out.trans ((HB2.out.trans (hb3.mono HB2.out.size)).mono HB1.out.size))
    have HR3 := Kit.hid (blk_below HR2.out hb3)
    have HZ3 := Kit.hid (blk_below HZ2.out hb3)
    clear s1 ls n1 n2 n3 ln hb3 HRW
    have z0 := blk_cell HZ3.out 0
    have z1 := blk_cell HZ3.out 1
    have z2 := blk_cell HZ3.out 2
    have z3 := blk_cell HZ3.out 3
    have lz := blk_lt HZ3.out
    have g2 := blk_frozen HZ3.out 2
    have g3 := blk_frozen HZ3.out 3
    have r0 := blk_cell HR3.out 0
    have r1 := blk_cell HR3.out 1
    have r2 := blk_cell HR3.out 2
    have r3 := blk_cell HR3.out 3
    have f0 := blk_frozen HR3.out 0
    have f1 := blk_frozen HR3.out 1
    have f2 := blk_frozen HR3.out 2
    have f3 := blk_frozen HR3.out 3
    have HR4 : Hid (((w3.setCell ⟨w.heap.size + 1 + 1, 2, none⟩ (.int .i64 k.v)).setCell ⟨w.heap.size + 1 + 1, 3, none⟩ (.int .i64 nr)).heap[w.heap.size + 1]? = some (.cells #[.int .i64 0, .int .i64 0, .int .i64 0, .int .i64 0] 35 (0, 0))) := Kit.hid (((Below.heap_setCell _ _ _ _ (by simp)).trans (Below.heap_setCell _ _ _ _ (by simp))).trans HR3.out)
    go_wp2
    exact qmem_ret rfl (w.heap.size + 1) _ _ _ _ rfl (mem_store HR4.out) rfl ⟨by rw [HM.out]; rfl, below_set4 ((HB3.out.setCell (p := ⟨w.heap.size + 1 + 1, 2, none⟩) (by simp; omega) _).setCell (p := ⟨w.heap.size + 1 + 1, 3, none⟩) (by simp; omega) _) (by omega)⟩
end
end Go.Proofs.Ytpgfenelckonoaa.La
namespace Go.Proofs.Ytpgfenelckonoaa.La
open Go.RowKit Go.Proofs.Ytpgfenelckonoaa.Kit Go.Proofs.Ytpgfenelckonoaa.ShM Go.Proofs.Ytpgfenelckonoaa.Sh Go.Proofs.Ytpgfenelckonoaa.QuM Go.Proofs.Ytpgfenelckonoaa.Qu Go.Proofs.Ytpgfenelckonoaa.LaM
open Go.Proofs.Ytpgfenelckonoaa.Ki (Row row_nil row_of iv iv_len iv_one search_row contains_row clone_row insert_row delete_row)
set_option linter.unusedVariables false
set_option linter.unusedSimpArgs false
theorem infoI : (Try.prog.info? 3).map (fun i => (i.zero, i.size, i.bytes)) = some (some (.int .i64 0), 1, 8) := by kernel_rfl
theorem row_push {B : Nat} {w : World} {v : Value} {l k : List Int} (h : w.ownsRow B 3 1 v (l.length + k.length) (iv l ++ iv k)) : Row B w v (l ++ k) := by
  unfold Row
  rw [List.length_append, show iv (l ++ k) = iv l ++ iv k from by simp [iv]]
  exact h
theorem lit_int (w : World) (x : Int) : Cells (w.alloc (.cells #[.int .i64 x] 3)) (some ⟨w.heap.size, 0, none⟩) [.int .i64 x] := fun i hi => ⟨_, rfl, by
  have hi : i < 1 := by simpa using hi
  obtain rfl : i = 0 := by omega
  rw [add_lit, blk_cell (blk_new w _)]
  rfl⟩
theorem row_below {B : Nat} {w0 w w' : World} {v : Value} {l : List Int} (hb : Below B w0 w) (hr : Row B w v l) (hg : w.grownBy w' v.ownBlock) (hB : B ≤ w.heap.size) : Below B w0 w' := hb.grown hg hB fun k hk => (hr.own_lt k hk).1
def int64 (x : Int) : Prop := -9223372036854775808 ≤ x ∧ x ≤ 9223372036854775807
/-- A path in memory. -/
def SRow (w : World) (A : Option Addr) (l : List St) : Prop :=
  ∀ i (h : i < l.length), ∃ ad : Addr, A = some ad ∧ w.cell? (ad.add (i * 2)) = some (.int .i64 l[i].id) ∧ w.cell? (ad.add (i * 2 + 1)) = some (.int .i64 l[i].wt) ∧ int64 l[i].id
theorem SRow.below {w w' : World} {A : Option Addr} {l : List St} (h : SRow w A l) (hb : Below w.heap.size w w') : SRow w' A l := fun i hi => by
  obtain ⟨ad, h1, h2, h3, h4⟩ := h i hi
  exact ⟨ad, h1, (hb.cell (cell_lt h2)).trans h2, (hb.cell (cell_lt h3)).trans h3, h4⟩
theorem SRow.same {w w' : World} {A : Option Addr} {l : List St} (h : SRow w A l) (hs : ∀ a, A = some a → w'.heap[a.block]? = w.heap[a.block]?) : SRow w' A l := fun i hi => by
  obtain ⟨ad, h1, h2, h3, h4⟩ := h i hi
  have key : ∀ n, w'.cell? (ad.add n) = w.cell? (ad.add n) := fun n => by
    have hb : (ad.add n).block = ad.block := by unfold Addr.add; split <;> rfl
    unfold World.cell?
    rw [hb, hs ad h1]
  exact ⟨ad, h1, (key _).trans h2, (key _).trans h3, h4⟩
theorem srow_drop {w : World} {A : Option Addr} {l : List St} {cap : Nat} (h : SRow w A l) (j : Nat) (hj : j ≤ l.length) (hc : l.length ≤ cap) : SRow w (if cap = j then A else A.map (·.add (j * 2))) (l.drop j) := fun i hi => by
  have hi' : j + i < l.length := by simp at hi; omega
  rw [if_neg (by omega)]
  obtain ⟨ad, h1, h2, h3, h4⟩ := h (j + i) hi'
  refine ⟨ad.add (j * 2), by rw [h1]; rfl, ?_, ?_, ?_⟩
  · rw [Kit.add_add, List.getElem_drop, show j * 2 + i * 2 = (j + i) * 2 by omega]; exact h2
  · rw [Kit.add_add, List.getElem_drop, show j * 2 + (i * 2 + 1) = (j + i) * 2 + 1 by omega]; exact h3
  · rw [List.getElem_drop]; exact h4
theorem add_half (ad : Addr) (n : Nat) : ad.add (n * 2 + 1) = ⟨(ad.add (n * 2)).block, (ad.add (n * 2)).off + 1, none⟩ := by
  unfold Addr.add
  by_cases hn : n * 2 = 0
  · rw [hn]; simp
  · simp [hn, Nat.add_assoc]
theorem srow_at {w : World} {A : Option Addr} {l : List St} {i : Nat} {s : St} (h : SRow w A l) (hi : l[i]? = some s) :
    ∃ ad : Addr, A = some ad ∧ w.cell? (ad.add (i * 2)) = some (.int .i64 s.id) ∧ w.cell? ⟨(ad.add (i * 2)).block, (ad.add (i * 2)).off + 1, none⟩ = some (.int .i64 s.wt) ∧ int64 s.id := by
  obtain ⟨h1, rfl⟩ := List.getElem?_eq_some_iff.1 hi
  obtain ⟨ad, rfl, c0, c1, c2⟩ := h i h1
  rw [add_half] at c1
  exact ⟨ad, rfl, c0, c1, c2⟩
theorem first_any (A : Option Addr) (l : List St) (k cap : Nat) (w : World) (hk : k = l.length) (h : SRow w A l) :
    Calls Try.prog 26 #[.slice A k cap] w fun e w' => e = .returned (.int .i64 (firstS l)) ∧ Below w.heap.size w w' := by
  subst hk
  have hb : Below w.heap.size w w := Below.refl _ _
  cases l with
  | nil =>
    clear h
    go_enter Try.func26, Try.ntmps26
    go_wp2
    go_ret
    exact ⟨rfl, hb⟩
  | cons s l =>
    obtain ⟨ad, rfl, c0, c1, _⟩ := h 0 (by simp)
    have c2 : w.cell? ad = some (.int .i64 s.id) := by
      have : ad.add (0 * 2) = ad := rfl
      rw [this] at c0
      exact c0
    have g1 : ((((s :: l).length : Nat) : Int) == 0) = false := beq_eq_false_iff_ne.2 (by rw [List.length_cons]; omega)
    have g2 : (0 : Int) < (((s :: l).length : Nat) : Int) := by rw [List.length_cons]; omega
    have hfs : firstS (s :: l) = s.id := rfl
    clear h c0 c1
    generalize (s :: l).length = k at g1 g2 ⊢
    rw [hfs]
    go_enter Try.func26, Try.ntmps26
    go_wp2
    go_ret
    exact ⟨rfl, hb⟩
section
variable {w w' : World} {lp n : Nat} {S : LS} {F : Nat → Prop}
theorem odd_step (S : LS) (s : St) (p : List St) (seen : List Int) : oddGo S (s :: p) seen = if s.id < 1 ∨ s.id ∈ seen ∨ s.id ∈ S.tasks ∨ ((S.home s.id).isSome = true ∧ S.home s.id ≠ some (firstS p)) then true else oddGo S p (seen ++ [s.id]) := rfl
set_option maxRecDepth 20000 in
set_option maxHeartbeats 3200000 in
theorem odd_any (A : Option Addr) (p : List St) (cap : Nat) (id : Int) (h : LF F w lp S n) (hr : SRow w A p) (hc : p.length ≤ cap) (hl : p.length ≤ 8) (hn : n ≤ 100000) (hi1 : -9223372036854775808 ≤ id) (hi2 : id ≤ 9223372036854775807) :
    Calls Try.prog 25 #[.pointer (some ⟨lp, 0, none⟩), .slice A p.length cap, .int .i64 id] w fun e w' => e = .returned (.bool (oddS S p id)) ∧ Below w.heap.size w w' := by
  have HTK : Hid (∀ (x : Int) w', Below w.heap.size w w' → int64 x → Calls Try.prog 24 #[.pointer (some ⟨lp, 0, none⟩), .int .i64 x] w' fun e w'' => e = .returned (.bool (decide (x ∈ S.tasks))) ∧ Below w'.heap.size w' w'') := Kit.hid (fun x w' hb hx => task_any x (h.below hb) hn hx.1 hx.2)
  have HSR := Kit.hid hr
  have HIR : Hid (int64 id) := Kit.hid ⟨hi1, hi2⟩
  obtain ⟨mb, mh, mk, vt, Qp, Fq, hFe, hx⟩ := h
  have HX := Kit.hid hx
  have HLK : Hid (∀ (x : Int) (w' : World), Below w.heap.size w w' → int64 x → (Instr.lookup 63 (.map (some mh)) (.int .i64 x) true).run Try.prog w' = .ok (.tuple #[.int .i64 ((S.home x).getD 0), .bool (S.home x).isSome]) w') := Kit.hid (fun x w' hb hxr => by
    rw [(HX.out.home.same (hb.block mh HX.out.home.lt)).look true keyed Try.underlying63 (zero_int w') (int_key Try.underlying3 hxr.1 hxr.2)]
    cases S.home x <;> rfl)
  have HAT : Hid (∀ (w' : World), Below w.heap.size w w' → w'.cell? ⟨lp, 1, none⟩ = some (.map (some mh)) ∧ lp < w'.heap.size) := Kit.hid (fun w' hb => ⟨blk_cell (blk_below HX.out.at_ hb) 1, blk_lt (blk_below HX.out.at_ hb)⟩)
  have HB0 : Hid (Below w.heap.size w (w.alloc (.cells #[.int .i64 id] 3))) := Kit.hid ((Below.refl _ _).alloc (Nat.le_refl _) _)
  have HR0 : Hid (Row w.heap.size (w.alloc (.cells #[.int .i64 id] 3)) (.slice (some ⟨w.heap.size, 0, none⟩) 1 1) [id]) := Kit.hid (row_of (l := [id]) (Nat.le_refl _) (blk_new _ _) (by simp) (by decide) rfl (fun j x hj => by
    match j, hj with
    | 0, hj => simpa using hj))
  clear hr hi1 hi2 hx hFe
  go_enter Try.func25, Try.ntmps25
  go_wp2_with fail
  generalize w.alloc (.cells #[.int .i64 id] 3) = W0 at HB0 HR0 ⊢
  go_loopw [7, 18] (fun v7 v18 wr => ∃ (i : Nat) (vo : Value), i ≤ p.length ∧ v18 = .int .i64 i ∧ vo = v7 ∧ Hid (Row w.heap.size wr vo (id :: (p.take i).map St.id)) ∧ Hid (Below w.heap.size w wr) ∧ Hid (oddGo S p [id] = oddGo S (p.drop i) (id :: (p.take i).map St.id))) (fun _ i _ => p.length - (intOf i).toNat)
  case atStart => exact ⟨0, _, by omega, rfl, rfl, HR0, HB0, Kit.hid rfl⟩
  case round =>
    obtain ⟨i, vo, hi, rfl, rfl, HR, HB, HG⟩ := hrel
    by_cases hlt : i < p.length
    · obtain ⟨s, hs⟩ : ∃ s, p[i]? = some s := ⟨_, List.getElem?_eq_getElem hlt⟩
      obtain ⟨ad, hA, c0, c1, hsr⟩ := srow_at (HSR.out.below HB.out) hs
      subst hA
      have HDR : Hid (p.drop i = s :: p.drop (i + 1)) := Kit.hid (by
        obtain ⟨h1, rfl⟩ := List.getElem?_eq_some_iff.1 hs
        exact List.drop_eq_getElem_cons h1)
      have HTK1 : Hid ((p.take (i + 1)).map St.id = (p.take i).map St.id ++ [s.id]) := Kit.hid (by
        rw [List.take_add_one, hs]
        simp)
      have HSI := Kit.hid hsr
      have HOS : Hid (oddGo S p [id] = if s.id < 1 ∨ s.id ∈ (id :: (p.take i).map St.id) ∨ s.id ∈ S.tasks ∨ ((S.home s.id).isSome = true ∧ S.home s.id ≠ some (firstS (p.drop (i + 1)))) then true else oddGo S (p.drop (i + 1)) ((id :: (p.take i).map St.id) ++ [s.id])) := Kit.hid (by rw [HG.out, HDR.out, odd_step])
      obtain ⟨sn, hsn⟩ : ∃ sn, sn = id :: (p.take i).map St.id := ⟨_, rfl⟩
      have HSN := Kit.hid hsn
      have hsl : sn.length = i + 1 := by rw [hsn]; simp; omega
      have HSL := Kit.hid hsl
      rw [← hsn] at HR HOS
      obtain ⟨WA, hWA⟩ : ∃ WA, WA = wr.alloc (.cells #[.int .i64 s.id, .int .i64 s.wt] 30) := ⟨_, rfl⟩
      have HBA : Hid (Below wr.heap.size wr WA) := Kit.hid (by rw [hWA]; exact (Below.refl _ _).alloc (Nat.le_refl _) _)
      have HBW : Hid (Below w.heap.size w WA) := Kit.hid (HB.out.trans (HBA.out.mono HB.out.size))
      have HZA : Hid (WA.heap[wr.heap.size]? = some (.cells #[.int .i64 s.id, .int .i64 s.wt] 30 (0, 0))) := Kit.hid (by rw [hWA]; exact blk_new _ _)
      have HS5 : Hid (∀ w' : World, Below WA.heap.size WA w' → w'.cell? ⟨lp, 1, none⟩ = some (.map (some mh)) ∧ w'.cell? ⟨wr.heap.size, 0, none⟩ = some (.int .i64 s.id) ∧ (Instr.lookup 63 (.map (some mh)) (.int .i64 s.id) true).run Try.prog w' = .ok (.tuple #[.int .i64 ((S.home s.id).getD 0), .bool (S.home s.id).isSome]) w') := Kit.hid (fun w' hb => by
        have hb' := HBW.out.trans (hb.mono HBW.out.size)
        exact ⟨(HAT.out w' hb').1, blk_cell (blk_below HZA.out hb) 0, HLK.out s.id w' hb' HSI.out⟩)
      have HRA : Hid (Row w.heap.size WA.drew vo sn) := Kit.hid ((HR.out.below HBA.out).below (Below.refl _ _).drew)
      have HCT := Kit.hid (contains_row HRA.out s.id (by omega))
      have HTS := Kit.hid (HTK.out s.id WA.drew HBW.out.drew HSI.out)
      have HFS : Hid (∀ A' k' c' w', Below WA.heap.size WA w' → k' = (p.drop (i + 1)).length → A' = (if cap = i + 1 then some ad else (some ad).map (·.add ((i + 1) * 2))) → Calls Try.prog 26 #[.slice A' k' c'] w' fun e w'' => e = .returned (.int .i64 (firstS (p.drop (i + 1)))) ∧ Below w'.heap.size w' w'') := Kit.hid (fun A' k' c' w' hb hk hA => by
        rw [hA]
        exact first_any _ _ _ _ _ hk (srow_drop (HSR.out.below (HBW.out.trans (hb.mono HBW.out.size))) (i + 1) (by omega) hc))
      obtain ⟨A0, c00, rfl, _, _, _⟩ := HR.out.reads
      rw [hsl] at HR HRA HCT ⊢
      clear hs hsr hsn hsl
      go_wp2_with fail
      rw [← hWA]
      clear hWA c0 c1
      refine wp_region_noPanic ?_
      refine wp_region_held_drew (S := fun (w' : World) => Below WA.heap.size WA w') (by kernel_rfl) (Below.refl _ WA).drew (fun hHeld => ?_)
      refine wpAnyH_take (i := 0) (hi := by simp only [List.getElem?_toArray, List.getElem?_cons_succ, List.getElem?_cons_zero]; rfl) (v := ?_) (by kernel_rfl) (by kernel_rfl) (by kernel_rfl) (fun _ _ _ h => h) (Or.inl ⟨by rfl, ?_⟩) (by assumption) ?_
      rotate_left
      · (intro w hSw; (try dsimp only at hSw); go_simp; first | done | with_reducible rfl)
      try simp only [Act.put, List.setIfInBounds_toArray, List.set_cons_zero, List.set_cons_succ]
      refine wpAnyH_take (i := 1) (hi := by simp only [List.getElem?_toArray, List.getElem?_cons_succ, List.getElem?_cons_zero]; rfl) (v := ?_) (by kernel_rfl) (by kernel_rfl) (by kernel_rfl) (fun _ _ _ h => h) (Or.inl ⟨by rfl, ?_⟩) (by assumption) ?_
      rotate_left
      · (intro w hSw; (try dsimp only at hSw); (obtain ⟨x0, x1, x2⟩ := HS5.out _ hSw); go_simp; first | done | with_reducible rfl)
      try simp only [Act.put, List.setIfInBounds_toArray, List.set_cons_zero, List.set_cons_succ]
      refine wpAnyH_take (i := 2) (hi := by simp only [List.getElem?_toArray, List.getElem?_cons_succ, List.getElem?_cons_zero]; rfl) (v := ?_) (by kernel_rfl) (by kernel_rfl) (by kernel_rfl) (fun _ _ _ h => h) (Or.inl ⟨by rfl, ?_⟩) (by assumption) ?_
      rotate_left
      · (intro w hSw; (try dsimp only at hSw); go_simp; first | done | with_reducible rfl)
      try simp only [Act.put, List.setIfInBounds_toArray, List.set_cons_zero, List.set_cons_succ]
      refine wpAnyH_take (i := 3) (hi := by simp only [List.getElem?_toArray, List.getElem?_cons_succ, List.getElem?_cons_zero]; rfl) (v := ?_) (by kernel_rfl) (by kernel_rfl) (by kernel_rfl) (fun _ _ _ h => h) (Or.inl ⟨by rfl, ?_⟩) (by assumption) ?_
      rotate_left
      · (intro w hSw; (try dsimp only at hSw); (obtain ⟨x0, x1, x2⟩ := HS5.out _ hSw); go_simp; first | done | with_reducible rfl)
      try simp only [Act.put, List.setIfInBounds_toArray, List.set_cons_zero, List.set_cons_succ]
      refine wpAnyH_take (i := 4) (hi := by simp only [List.getElem?_toArray, List.getElem?_cons_succ, List.getElem?_cons_zero]; rfl) (v := ?_) (by kernel_rfl) (by kernel_rfl) (by kernel_rfl) (fun _ _ _ h => h) (Or.inl ⟨by rfl, ?_⟩) (by assumption) ?_
      rotate_left
      · (intro w hSw; (try dsimp only at hSw); go_simp; first | done | with_reducible rfl)
      try simp only [Act.put, List.setIfInBounds_toArray, List.set_cons_zero, List.set_cons_succ]
      refine wpAnyH_take (i := 5) (hi := by simp only [List.getElem?_toArray, List.getElem?_cons_succ, List.getElem?_cons_zero]; rfl) (v := ?_) (by kernel_rfl) (by kernel_rfl) (by kernel_rfl) (fun _ _ _ h => h) (Or.inl ⟨by rfl, ?_⟩) (by assumption) ?_
      rotate_left
      · (intro w hSw; (try dsimp only at hSw); (obtain ⟨x0, x1, x2⟩ := HS5.out _ hSw); go_simp; first | done | with_reducible rfl)
      try simp only [Act.put, List.setIfInBounds_toArray, List.set_cons_zero, List.set_cons_succ]
      refine wpAnyH_take (i := 6) (hi := by simp only [List.getElem?_toArray, List.getElem?_cons_succ, List.getElem?_cons_zero]; rfl) (v := ?_) (by kernel_rfl) (by kernel_rfl) (by kernel_rfl) (fun _ _ _ h => h) (Or.inl ⟨by rfl, ?_⟩) (by assumption) ?_
      rotate_left
      · (intro w hSw; (try dsimp only at hSw); (obtain ⟨x0, x1, x2⟩ := HS5.out _ hSw); go_simp; first | done | with_reducible rfl)
      try simp only [Act.put, List.setIfInBounds_toArray, List.set_cons_zero, List.set_cons_succ]
      refine wpAnyH_take (i := 7) (hi := by simp only [List.getElem?_toArray, List.getElem?_cons_succ, List.getElem?_cons_zero]; rfl) (v := ?_) (by kernel_rfl) (by kernel_rfl) (by kernel_rfl) (fun _ _ _ h => h) (Or.inl ⟨by rfl, ?_⟩) (by assumption) ?_
      rotate_left
      · (intro w hSw; (try dsimp only at hSw); go_simp; first | done | with_reducible rfl)
      try simp only [Act.put, List.setIfInBounds_toArray, List.set_cons_zero, List.set_cons_succ]
      refine wpAnyH_take (i := 8) (hi := by simp only [List.getElem?_toArray, List.getElem?_cons_succ, List.getElem?_cons_zero]; rfl) (v := ?_) (by kernel_rfl) (by kernel_rfl) (by kernel_rfl) (fun _ _ _ h => h) (Or.inl ⟨by rfl, ?_⟩) (by assumption) ?_
      rotate_left
      · (intro w hSw; (try dsimp only at hSw); go_simp; first | done | with_reducible rfl)
      try simp only [Act.put, List.setIfInBounds_toArray, List.set_cons_zero, List.set_cons_succ]
      refine wpAnyH_take (i := 9) (hi := by simp only [List.getElem?_toArray, List.getElem?_cons_succ, List.getElem?_cons_zero]; rfl) (v := ?_) (by kernel_rfl) (by kernel_rfl) (by kernel_rfl) (fun _ _ _ h => h) (Or.inl ⟨by rfl, ?_⟩) (by assumption) ?_
      rotate_left
      · (intro w hSw; (try dsimp only at hSw); go_simp; first | done | with_reducible rfl)
      try simp only [Act.put, List.setIfInBounds_toArray, List.set_cons_zero, List.set_cons_succ]
      refine wpAnyH_take (i := 10) (hi := by simp only [List.getElem?_toArray, List.getElem?_cons_succ, List.getElem?_cons_zero]; rfl) (v := ?_) (by kernel_rfl) (by kernel_rfl) (by kernel_rfl) (fun _ _ _ h => h) (Or.inl ⟨by rfl, ?_⟩) (by assumption) ?_
      rotate_left
      · (intro w hSw; (try dsimp only at hSw); go_simp; first | done | with_reducible rfl)
      try simp only [Act.put, List.setIfInBounds_toArray, List.set_cons_zero, List.set_cons_succ]
      refine wpAnyH_take (i := 11) (hi := by simp only [List.getElem?_toArray, List.getElem?_cons_succ, List.getElem?_cons_zero]; rfl) (v := ?_) (by kernel_rfl) (by kernel_rfl) (by kernel_rfl) (fun _ _ _ h => h) (Or.inl ⟨by rfl, ?_⟩) (by assumption) ?_
      rotate_left
      · (intro w hSw; (try dsimp only at hSw); go_simp; first | done | with_reducible rfl)
      try simp only [Act.put, List.setIfInBounds_toArray, List.set_cons_zero, List.set_cons_succ]
      clear hHeld
      refine wpAnyH_done (by kernel_rfl) ?_ _
      refine NoPanic.normal ?_
      skip
      have z0 := blk_cell HZA.out 0
      have lz := blk_lt HZA.out
      by_cases a1 : s.id < 1
      · have HRES : Hid (oddS S p id = true) := Kit.hid (by unfold oddS; rw [HOS.out, if_pos (.inl a1)]; rfl)
        have g1 : decide (s.id < 1) = true := decide_eq_true a1
        clear a1
        go_wp2
        go_ret
        rw [HRES.out]
        exact ⟨rfl, HBW.out.drew⟩
      have g1 : decide (s.id < 1) = false := decide_eq_false a1
      have A1 := Kit.hid a1
      clear a1
      cases h2 : sn.contains s.id with
      | true =>
        have HRES : Hid (oddS S p id = true) := Kit.hid (by unfold oddS; rw [HOS.out, if_pos (.inr (.inl (by simpa using h2)))]; rfl)
        rw [h2] at HCT
        clear h2
        go_wp2_with fail
        (with_reducible refine HCT.out.mono ?_); rintro e w4 ⟨rfl, rfl⟩
        go_wp2
        go_ret
        rw [HRES.out]
        exact ⟨rfl, HBW.out.drew⟩
      | false =>
        have A2 : Hid (¬ s.id ∈ sn) := Kit.hid (by simpa using h2)
        rw [h2] at HCT
        clear h2
        go_wp2_with fail
        (with_reducible refine HCT.out.mono ?_); rintro e w4 ⟨rfl, rfl⟩
        by_cases h3 : s.id ∈ S.tasks
        · have HRES : Hid (oddS S p id = true) := Kit.hid (by unfold oddS; rw [HOS.out, if_pos (.inr (.inr (.inl h3)))]; rfl)
          rw [decide_eq_true h3] at HTS
          clear h3
          go_wp2_with fail
          (with_reducible refine HTS.out.mono ?_); rintro e w5 ⟨rfl, hb5⟩
          have HB5 := Kit.hid (HBW.out.drew.trans (hb5.mono HBW.out.size))
          clear hb5
          go_wp2
          go_ret
          rw [HRES.out]
          exact ⟨rfl, HB5.out⟩
        have A3 := Kit.hid h3
        rw [decide_eq_false h3] at HTS
        clear h3
        go_wp2_with fail
        (with_reducible refine HTS.out.mono ?_); rintro e w5 ⟨rfl, hb5⟩
        have HD5 : Hid (Below WA.heap.size WA w5) := Kit.hid ((Below.refl _ WA).drew.trans hb5)
        have HB5 := Kit.hid (HBW.out.trans (HD5.out.mono HBW.out.size))
        have HR5 : Hid (Row w.heap.size w5 (.slice A0 (i + 1) c00) sn) := Kit.hid (HRA.out.below hb5)
        have hz5 := blk_below HZA.out HD5.out
        have z5 := blk_cell hz5 0
        have lz5 := blk_lt hz5
        have HZ5 := Kit.hid hz5
        clear hb5 hz5 z0 lz HTS HCT
        cases hh : S.home s.id with
        | none =>
          have HNX : Hid (oddGo S p [id] = oddGo S (p.drop (i + 1)) (sn ++ [s.id])) := Kit.hid (by
            rw [HOS.out, if_neg]
            rintro (e | e | e | e)
            · have := A1.out; omega
            · exact A2.out e
            · exact A3.out e
            · rw [hh] at e; cases e.1)
          clear hh
          have hownA : (w5.alloc (.cells #[.int .i64 s.id] 3)).ownsRow w.heap.size 3 1 (.slice A0 (i + 1) c00) (i + 1) (iv sn) := by
            have h := HR5.out.below ((Below.refl _ w5).alloc (Nat.le_refl _) (.cells #[.int .i64 s.id] 3))
            unfold Row at h
            rw [HSL.out] at h
            exact h
          have HBB := Kit.hid (HB5.out.alloc HB5.out.size (.cells #[.int .i64 s.id] 3))
          have hcA := lit_int w5 s.id
          go_wp2_with (at_builtin; refine wpList_append_src rfl _ _ 36 rfl w.heap.size 3 (.int .i64 0) 8 Try.underlying36 infoI rfl (.slice A0 (i + 1) c00) _ _ rfl hownA (some ⟨w5.heap.size, 0, none⟩) 1 1 [.int .i64 s.id] rfl rfl hcA (fun u hu => by rw [List.mem_singleton.1 hu]; rfl) (by unfold maxLen; omega) (by omega) HBB.out.size ?_
                       intro v7 w7 hown7 hg7 _
                       have HR7 : Hid (Row w.heap.size w7 v7 (sn ++ [s.id])) := Kit.hid (row_push (k := [s.id]) (by rw [HSL.out]; exact hown7))
                       have HB7 : Hid (Below w.heap.size w w7) := Kit.hid (HBB.out.grown hg7 HBB.out.size fun k hk => (hownA.lt k hk).1)
                       clear hown7 hg7)
          go_roundw
          case rel => exact ⟨i + 1, v7, by omega, by go_num, rfl, Kit.hid (by rw [HTK1.out]; have := HR7.out; rw [HSN.out] at this; exact this), HB7, Kit.hid (by rw [HTK1.out]; have := HNX.out; rw [HSN.out] at this; exact this)⟩
          case measure => simp [intOf]; omega
        | some hg =>
          have HHH := Kit.hid hh
          have HF5 := Kit.hid HFS.out
          clear hh
          have hwr : IntKind.i64.wrap ((i : Int) + 1) = (i : Int) + 1 := by rw [IntKind.wrap_i64]; omega
          obtain ⟨Aq, hAq⟩ : ∃ Aq, Aq = (if cap = i + 1 then some ad else some (ad.add ((i + 1) * 2))) := ⟨_, rfl⟩
          have HAQ := Kit.hid hAq
          have eAq := hAq.symm
          clear hAq
          go_wp2_with fail
          (with_reducible refine (HF5.out _ _ _ _ HD5.out ?_ ?_).mono ?_)
          · rw [List.length_drop]
          · rw [HAQ.out]; rfl
          clear eAq
          rintro e w6 ⟨rfl, hb6⟩
          have HB6 := Kit.hid (HB5.out.trans (hb6.mono HB5.out.size))
          have HR6 : Hid (Row w.heap.size w6 (.slice A0 (i + 1) c00) sn) := Kit.hid (HR5.out.below hb6)
          have hz6 := blk_below HZ5.out hb6
          have z6 := blk_cell hz6 0
          have lz6 := blk_lt hz6
          clear hb6 hz6 z5 lz5 HF5 HFS
          obtain ⟨fv, hfv⟩ : ∃ fv, fv = firstS (p.drop (i + 1)) := ⟨_, rfl⟩
          rw [← hfv] at HOS ⊢
          clear hfv
          by_cases h6 : hg = fv
          · have HNX : Hid (oddGo S p [id] = oddGo S (p.drop (i + 1)) (sn ++ [s.id])) := Kit.hid (by
              rw [HOS.out, if_neg]
              rintro (e | e | e | e)
              · have := A1.out; omega
              · exact A2.out e
              · exact A3.out e
              · exact e.2 (by rw [HHH.out, h6]))
            have g6 : (hg != fv) = false := by rw [h6]; simp
            clear h6
            have hownA : (w6.alloc (.cells #[.int .i64 s.id] 3)).ownsRow w.heap.size 3 1 (.slice A0 (i + 1) c00) (i + 1) (iv sn) := by
              have h := HR6.out.below ((Below.refl _ w6).alloc (Nat.le_refl _) (.cells #[.int .i64 s.id] 3))
              unfold Row at h
              rw [HSL.out] at h
              exact h
            have HBB := Kit.hid (HB6.out.alloc HB6.out.size (.cells #[.int .i64 s.id] 3))
            have hcA := lit_int w6 s.id
            go_wp2_with (at_builtin; refine wpList_append_src rfl _ _ 36 rfl w.heap.size 3 (.int .i64 0) 8 Try.underlying36 infoI rfl (.slice A0 (i + 1) c00) _ _ rfl hownA (some ⟨w6.heap.size, 0, none⟩) 1 1 [.int .i64 s.id] rfl rfl hcA (fun u hu => by rw [List.mem_singleton.1 hu]; rfl) (by unfold maxLen; omega) (by omega) HBB.out.size ?_
                         intro v7 w7 hown7 hg7 _
                         have HR7 : Hid (Row w.heap.size w7 v7 (sn ++ [s.id])) := Kit.hid (row_push (k := [s.id]) (by rw [HSL.out]; exact hown7))
                         have HB7 : Hid (Below w.heap.size w w7) := Kit.hid (HBB.out.grown hg7 HBB.out.size fun k hk => (hownA.lt k hk).1)
                         clear hown7 hg7)
            go_roundw
            case rel => exact ⟨i + 1, v7, by omega, by go_num, rfl, Kit.hid (by rw [HTK1.out]; have := HR7.out; rw [HSN.out] at this; exact this), HB7, Kit.hid (by rw [HTK1.out]; have := HNX.out; rw [HSN.out] at this; exact this)⟩
            case measure => simp [intOf]; omega
          · have HRES : Hid (oddS S p id = true) := Kit.hid (by
              unfold oddS
              rw [HOS.out, if_pos (.inr (.inr (.inr ⟨by rw [HHH.out]; rfl, fun e => h6 (by rw [HHH.out] at e; exact Option.some.inj e)⟩)))]
              rfl)
            have g6 : (hg != fv) = true := by simp [h6]
            clear h6
            go_wp2
            go_ret
            rw [HRES.out]
            exact ⟨rfl, HB6.out⟩
    · obtain rfl : i = p.length := by omega
      have HOE : Hid (oddS S p id = (S.home id).isSome) := Kit.hid (by
        unfold oddS
        rw [HG.out, List.drop_length]
        rfl)
      have HE := Kit.hid HB.out
      have x1 := (HAT.out wr HB.out).1
      have l1 := (HAT.out wr HB.out).2
      have e1 := HLK.out id wr HB.out HIR.out
      go_wp2
      go_ret
      rw [HOE.out]
      exact ⟨rfl, HE.out⟩
end
end Go.Proofs.Ytpgfenelckonoaa.La
namespace Go.Proofs.Ytpgfenelckonoaa.Ki
open Go.RowKit Go.Proofs.Ytpgfenelckonoaa.Kit
set_option linter.unusedVariables false
set_option linter.unusedSimpArgs false
section
variable {B : Nat} {w w' : World} {v : Value} {l : List Int}
theorem delete_own (h : Row B w v l) (i : Nat) (hi : i < l.length) (hl : l.length ≤ 1000000) :
    Calls Try.prog 44 #[v, .int .i64 i, .int .i64 ((i : Int) + 1)] w fun e w' => ∃ v', e = .returned v' ∧ Row B w' v' (l.take i ++ l.drop (i + 1)) ∧ w.grownBy w' v.ownBlock ∧ (v'.ownBlock = v.ownBlock ∨ ∀ k, v'.ownBlock = some k → w.heap.size ≤ k) := by
  rcases h.form with ⟨rfl, rfl⟩ | ⟨g, c, cur, rfl, h1, h2, h3, h4, h5, h6⟩
  · simp at hi
  · have hd := Any.slices_Delete_int_cells layDelete g 0 l.length c i (i + 1) l w (Nat.le_refl _) h3 (by unfold maxLen at h4; omega) (by omega) (by omega) (fun j hj => by
      rw [Nat.zero_add, blk_cell h2]
      exact h6 j _ (getD_of _ _ hj)) (fun j hj => blk_frozen h2 _)
    rw [List.take_length] at hd
    refine hd.mono fun e w' ⟨he, q, hw⟩ => ?_
    subst hw
    have hll : (l.take i ++ l.drop (i + 1)).length = l.length - (i + 1 - i) := by simp; omega
    have := row_set (B := B) (g := g) (c := c) (o := 0) (q := q) (vs := (l.take i ++ l.drop (i + 1) ++ List.replicate (i + 1 - i) 0).map (Value.int .i64)) (l' := l.take i ++ l.drop (i + 1)) h1 h2 (by omega) h4 h5 (by simp; omega) (fun j x hj => by
      obtain ⟨hj1, _⟩ := List.getElem?_eq_some_iff.1 hj
      rw [if_pos (by simp at hj1 ⊢; omega)]
      rw [Nat.sub_zero, List.getElem?_map, List.getElem?_append_left hj1, hj]
      rfl)
    rw [hll] at this
    exact ⟨_, he, this.1, this.2, .inl rfl⟩
theorem insert_own {vb : Nat} {t : TypeId} {x : Int} (h : Row B w v l) (i : Nat) (hi : i ≤ l.length) (hl : l.length ≤ 1000000) (hB : B ≤ w.heap.size) (hvb : w.heap[vb]? = some (.cells #[.int .i64 x] t (0, 0))) (hne : ∀ g, v.ownBlock = some g → vb ≠ g) :
    Calls Try.prog 34 #[v, .int .i64 i, .slice (some ⟨vb, 0, none⟩) 1 1] w fun e w' => ∃ v', e = .returned v' ∧ Row B w' v' (l.take i ++ x :: l.drop i) ∧ w.grownBy w' v.ownBlock ∧ (v'.ownBlock = v.ownBlock ∨ ∀ k, v'.ownBlock = some k → w.heap.size ≤ k) := by
  have hvs : ∀ (j : Nat) (u : Value), [Value.int .i64 x][j]? = some u → w.cell? ⟨vb, 0 + j, none⟩ = some u := fun j u hj => by
    rw [Nat.zero_add, blk_cell hvb]
    simpa using hj
  have h1v : ∀ u ∈ [Value.int .i64 x], u.oneCell' = true := fun u hu => by rw [List.mem_singleton.1 hu]; rfl
  have hll : (l.take i ++ x :: l.drop i).length = l.length + 1 := by simp; omega
  have hget := ins_get l x i hi
  have hmx : l.length + 1 ≤ maxLen := by unfold maxLen; omega
  have grown : ∀ (cells : Array Value) (C : Nat), l.length + 1 ≤ C → C ≤ maxLen → cells.size = C → (∀ (j : Nat) (y : Int), (l.take i ++ x :: l.drop i)[j]? = some y → cells[j]? = some (Value.int .i64 y)) → Row B (w.drew.alloc (.cells cells 3)) (.slice (some ⟨w.heap.size, 0, none⟩) (l.length + 1) C) (l.take i ++ x :: l.drop i) := fun cells C hC1 hC2 hs hc => by
    have := row_of (l := l.take i ++ x :: l.drop i) (B := B) hB (blk_new w.drew (.cells cells 3)) (by omega) hC2 hs hc
    rw [hll] at this
    exact this
  have hga : ∀ o, w.grownBy (w.drew.alloc o) v.ownBlock := fun o => by
    have hb : Below w.heap.size w (w.drew.alloc o) := (Below.refl _ _).drew.alloc (Nat.le_refl _) _
    exact ⟨hb.os, hb.tape, hb.output, hb.size, fun k hk _ => hb.block k hk⟩
  by_cases hin : i = l.length
  · subst hin
    by_cases hroom : ∃ g c cur, v = .slice (some ⟨g, 0, none⟩) l.length c ∧ B ≤ g ∧ w.heap[g]? = some (.cells cur 3 (0, 0)) ∧ l.length + 1 ≤ c ∧ c ≤ maxLen ∧ cur.size = c ∧ ∀ (j : Nat) (x : Int), l[j]? = some x → cur[j]? = some (Value.int .i64 x)
    · obtain ⟨g, c, cur, rfl, h1, h2, h3, h4, h5, h6⟩ := hroom
      refine (Any2.slices_Insert_int_end_room layInsert g 0 l.length c vb 0 1 1 [Value.int .i64 x] w (by omega) h3 (by unfold maxLen at h4; omega) rfl (fun j hj => ?_) (fun j hj => blk_frozen h2 _) hvs h1v).mono fun e w' ⟨he, hw⟩ => ?_
      · rw [blk_cell h2, Array.getElem?_eq_getElem (by omega)]; rfl
      · subst hw
        have := row_set (B := B) (g := g) (c := c) (o := 0 + l.length) (q := 0) (vs := [Value.int .i64 x]) (l' := l.take l.length ++ x :: l.drop l.length) h1 h2 (by omega) h4 h5 (by simp; omega) (fun j y hj => by
          rw [hget] at hj
          by_cases e1 : j < l.length
          · rw [if_pos e1] at hj
            rw [if_neg (by omega)]
            exact h6 j y hj
          · rw [if_neg e1] at hj
            by_cases e2 : j = l.length
            · rw [if_pos e2] at hj
              rw [if_pos (by simp; omega), show j - (0 + l.length) = 0 by omega]
              cases hj; rfl
            · rw [if_neg e2, List.getElem?_eq_none (by omega)] at hj
              cases hj)
        rw [hll] at this
        exact ⟨_, he, this.1, this.2, .inl rfl⟩
    · have hform : ∃ base c, v = .slice base l.length c ∧ l.length ≤ c ∧ c < l.length + 1 ∧ (base = none → l.length = 0) ∧ ∀ a, base = some a → ∀ (j : Nat) (u : Value), (iv l)[j]? = some u → w.cell? (a.add j) = some u := by
        rcases h.form with ⟨rfl, rfl⟩ | ⟨g, c, cur, rfl, h1, h2, h3, h4, h5, h6⟩
        · exact ⟨none, 0, rfl, Nat.le_refl _, by simp, fun _ => rfl, fun a e => by cases e⟩
        · refine ⟨some ⟨g, 0, none⟩, c, rfl, h3, ?_, (fun e => by cases e), fun a e j u hj => ?_⟩
          · apply Nat.lt_of_not_le
            intro hc
            exact hroom ⟨g, c, cur, rfl, h1, h2, hc, h4, h5, h6⟩
          · cases e
            rw [add_lit, blk_cell h2]
            unfold iv at hj
            rw [List.getElem?_map] at hj
            obtain ⟨y, hy, rfl⟩ := Option.map_eq_some_iff.1 hj
            exact h6 j y hy
      obtain ⟨base, c, rfl, hc1, hc2, hc3, hc4⟩ := hform
      refine (Any2.slices_Insert_int_end_grow layInsert base l.length c vb 0 1 1 (iv l) [Value.int .i64 x] w (by omega) hc1 hc2 (by omega) (iv_len l) rfl hc3 hc4 hvs h1v).mono fun e w' ⟨he, hw⟩ => ?_
      subst hw
      refine ⟨_, he, grown _ _ (grownCap_ge _ _ _ _) (grownCap_le_maxLen _ _ _ _ hmx) ?_ (fun j y hj => ?_), hga _, .inr (fun k hk => by cases hk; exact Nat.le_refl _)⟩
      · have := grownCap_ge w (l.length + 1) c 3
        simp only [Array.size_append, List.size_toArray, List.length_append, iv_len, size_zeroCells, List.length_singleton]
        have e1 : (Value.int .i64 0).cells.size = 1 := rfl
        rw [e1]
        show l.length + 1 + (grownCap w (l.length + 1) c 3 - (l.length + 1)) * 1 = grownCap w (l.length + 1) c 3
        omega
      · rw [List.take_length, List.drop_length] at hj
        obtain ⟨hj1, _⟩ := List.getElem?_eq_some_iff.1 hj
        rw [Array.getElem?_append_left (by simp [iv_len] at hj1 ⊢; omega)]
        have : iv l ++ [Value.int .i64 x] = iv (l ++ [x]) := by simp [iv]
        rw [List.getElem?_toArray, this]
        exact iv_get hj
  · have hi2 : i < l.length := by omega
    rcases h.form with ⟨rfl, rfl⟩ | ⟨g, c, cur, rfl, h1, h2, h3, h4, h5, h6⟩
    · simp at hi2
    have hcs : ∀ (j : Nat) (u : Value), (iv l)[j]? = some u → w.cell? ⟨g, 0 + j, none⟩ = some u := fun j u hj => by
      rw [Nat.zero_add, blk_cell h2]
      unfold iv at hj
      rw [List.getElem?_map] at hj
      obtain ⟨y, hy, rfl⟩ := Option.map_eq_some_iff.1 hj
      exact h6 j y hy
    by_cases hroom : l.length + 1 ≤ c
    · refine (Any2.slices_Insert_int_shift layInsert g 0 l.length c i vb 0 1 1 (iv l) [Value.int .i64 x] w hi2 (by omega) hroom (by unfold maxLen at h4; omega) (hne g rfl) (iv_len l) rfl hcs (fun j hj => ?_) (fun j hj => blk_frozen h2 _) hvs (iv_one l) h1v
        t 3 1 c (by simp [World.shape?, hvb]) (by simp [World.shape?, h2, h5]) (by omega) (blk_frozen hvb _) (blk_frozen hvb _)).mono fun e w' ⟨he, hw⟩ => ?_
      · rw [blk_cell h2, Array.getElem?_eq_getElem (by omega)]; rfl
      · subst hw
        have hlen1 : (l.take (i + 1) ++ l.drop i).length = l.length + 1 := by simp; omega
        have r1 := row_set (B := B) (g := g) (c := c) (o := 0 + (i + 1)) (q := 1) (vs := (iv l).drop i) (l' := l.take (i + 1) ++ l.drop i) h1 h2 (by omega) h4 h5 (by simp [iv_len]; omega) (fun j y hj => by
          obtain ⟨hj1, _⟩ := List.getElem?_eq_some_iff.1 hj
          have ht : (l.take (i + 1)).length = i + 1 := by simp; omega
          by_cases e1 : j < i + 1
          · rw [List.getElem?_append_left (by omega), List.getElem?_take, if_pos e1] at hj
            rw [if_neg (by omega)]
            exact h6 j y hj
          · rw [List.getElem?_append_right (by omega), ht] at hj
            rw [if_pos (by simp [iv_len]; omega)]
            rw [show j - (0 + (i + 1)) = j - (i + 1) by omega, List.getElem?_drop]
            rw [List.getElem?_drop] at hj
            exact iv_get hj)
        rw [hlen1] at r1
        obtain ⟨hr1, hg1⟩ := r1
        rcases hr1.form with ⟨he1, _⟩ | ⟨g', c', cur', he1, k1, k2, k3, k4, k5, k6⟩
        · cases he1
        injection he1 with e1 e2 e3
        injection e1 with e1
        injection e1 with e1
        subst e1 e3
        have r2 := row_set (B := B) (g := g) (c := c) (o := 0 + i) (q := 0) (vs := [Value.int .i64 x]) (l' := l.take i ++ x :: l.drop i) k1 k2 (by omega) k4 k5 (by simp; omega) (fun j y hj => by
          rw [hget] at hj
          by_cases e1 : j < i
          · rw [if_pos e1] at hj
            rw [if_neg (by omega)]
            apply k6
            rw [List.getElem?_append_left (by simp; omega), List.getElem?_take, if_pos (by omega)]
            exact hj
          · rw [if_neg e1] at hj
            by_cases e2 : j = i
            · rw [if_pos e2] at hj
              rw [if_pos (by simp; omega), show j - (0 + i) = 0 by omega]
              cases hj; rfl
            · rw [if_neg e2] at hj
              rw [if_neg (by simp; omega)]
              apply k6
              rw [List.getElem?_append_right (by simp; omega), List.getElem?_drop, ← hj]
              have : (l.take (i + 1)).length = i + 1 := by simp; omega
              rw [this]
              congr 1
              omega)
        rw [hll] at r2
        refine ⟨_, he, r2.1, ?_, .inl rfl⟩
        exact grown_trans hg1 r2.2 (fun k hk => .inl hk.symm)
    · refine (Any2.slices_Insert_int_grow layInsert g 0 l.length c i vb 0 1 1 (iv l) [Value.int .i64 x] w hi2 (by omega) h3 (by omega) (by omega) (iv_len l) rfl hcs hvs (iv_one l) h1v).mono fun e w' ⟨he, hw⟩ => ?_
      have hG := grownCap_ge w (l.length + 1) c 3
      have hG2 := grownCap_le_maxLen w (l.length + 1) c 3 hmx
      obtain ⟨C, hC⟩ : ∃ C, C = grownCap w (l.length + 1) c 3 := ⟨_, rfl⟩
      rw [← hC] at hG hG2
      obtain ⟨c0, hc⟩ : ∃ c0, c0 = ((((iv l).take i).toArray ++ Builtin.zeroCells (Value.int .i64 0).cells (l.length + 1 - i)) ++ Builtin.zeroCells (Value.int .i64 0).cells (C - (l.length + 1))) := ⟨_, rfl⟩
      have hw2 : w' = (((w.alloc (.cells c0 3)).drew.setCells w.heap.size i [Value.int .i64 x]).drew).setCells w.heap.size (i + 1) ((iv l).drop i) := by rw [hc, hC]; exact hw
      have he2 : e = .returned (.slice (some ⟨w.heap.size, 0, none⟩) (l.length + 1) C) := by rw [hC]; exact he
      have hc0 : (w.alloc (.cells c0 3)).heap[w.heap.size]? = some (.cells c0 3 (0, 0)) := blk_new _ _
      have hb1 : Below w.heap.size w (w.alloc (.cells c0 3)) := (Below.refl _ _).alloc (Nat.le_refl _) _
      have hit : ((iv l).take i).length = i := by simp [iv_len]; omega
      have hsz : c0.size = C := by
        have e1 : ∀ k, (Builtin.zeroCells (Value.int .i64 0).cells k).size = k := fun k => by rw [size_zeroCells]; show k * 1 = k; omega
        rw [hc, Array.size_append, Array.size_append, e1, e1, List.size_toArray, hit]
        omega
      have hfirst : ∀ (j : Nat) (y : Int), j < i → l[j]? = some y → c0[j]? = some (Value.int .i64 y) := fun j y hj hy => by
        rw [hc, Array.getElem?_append_left (by rw [Array.size_append, List.size_toArray, hit]; omega), Array.getElem?_append_left (by rw [List.size_toArray, hit]; omega), List.getElem?_toArray, List.getElem?_take, if_pos hj]
        exact iv_get hy
      have hl1 : (l.take i ++ [x]).length = i + 1 := by simp; omega
      obtain ⟨hr1, hg1⟩ := row_set (B := w.heap.size) (g := w.heap.size) (c := C) (o := i) (q := 1) (vs := [Value.int .i64 x]) (l' := l.take i ++ [x]) (Nat.le_refl _) hc0 (by omega) hG2 hsz (by simp; omega) (fun j y hj => by
        obtain ⟨hj1, _⟩ := List.getElem?_eq_some_iff.1 hj
        have ht : (l.take i).length = i := by simp; omega
        by_cases e1 : j < i
        · rw [List.getElem?_append_left (by omega), List.getElem?_take, if_pos e1] at hj
          rw [if_neg (by omega)]
          exact hfirst j y e1 hj
        · have e2 : j = i := by omega
          subst e2
          rw [List.getElem?_append_right (by omega), ht, Nat.sub_self] at hj
          cases hj
          rw [if_pos (by simp), Nat.sub_self]
          rfl)
      rw [hl1] at hr1
      rcases hr1.form with ⟨he1, _⟩ | ⟨g', c', cur', he1, k1, k2, k3, k4, k5, k6⟩
      · cases he1
      injection he1 with e1 e2 e3
      injection e1 with e1
      injection e1 with e1
      subst e1 e3
      obtain ⟨hr2, hg2⟩ := row_set (B := w.heap.size) (g := w.heap.size) (c := C) (o := i + 1) (q := 1) (vs := (iv l).drop i) (l' := l.take i ++ x :: l.drop i) (Nat.le_refl _) k2 (by omega) k4 k5 (by simp [iv_len]; omega) (fun j y hj => by
        rw [hget] at hj
        by_cases e1 : j < i
        · rw [if_pos e1] at hj
          rw [if_neg (by omega)]
          apply k6
          rw [List.getElem?_append_left (by simp; omega), List.getElem?_take, if_pos e1]
          exact hj
        · rw [if_neg e1] at hj
          have ht : (l.take i).length = i := by simp; omega
          by_cases e2 : j = i
          · rw [if_pos e2] at hj
            rw [if_neg (by omega)]
            apply k6
            subst e2
            rw [List.getElem?_append_right (by omega), ht, Nat.sub_self]
            exact hj
          · rw [if_neg e2] at hj
            obtain ⟨hj1, _⟩ := List.getElem?_eq_some_iff.1 hj
            rw [if_pos (by simp [iv_len]; omega), List.getElem?_drop, show i + (j - (i + 1)) = j - 1 by omega]
            exact iv_get hj)
      rw [hll] at hr2
      have hb2 : Below w.heap.size w ((w.alloc (.cells c0 3)).drew.setCells w.heap.size i [Value.int .i64 x]) := hb1.grown hg1 hb1.size (fun k hk => by cases hk; exact Nat.le_refl _)
      have hb3 := hb2.grown hg2 hb2.size (fun k hk => by cases hk; exact Nat.le_refl _)
      subst hw2
      exact ⟨_, he2, hr2.mono hB, ⟨hb3.os, hb3.tape, hb3.output, hb3.size, fun k hk _ => hb3.block k hk⟩, .inr (fun k hk => by cases hk; exact Nat.le_refl _)⟩
end
end Go.Proofs.Ytpgfenelckonoaa.Ki
namespace Go.Proofs.Ytpgfenelckonoaa.Kit
open Go.RowKit
/-- A scope with one label, to which the run jumps back; what holds there is counted by a number that falls. -/
theorem scope_label_n {P : Program} {a : Act} {w : World} {Q : Exit → Act → World → Prop} {c rest : Code} (l : Nat) (J : Nat → Act → World → Prop) (hf : findLabel c l = some (Code.skip.seq rest))
    (pass : ∀ n a w, J n a w → rest.wp P (Exit.jump l (fun a' w' => ∃ m, m < n ∧ J m a' w') Q) a w)
    (first : Hid (∀ n a w, J n a w → rest.wp P (Exit.jump l (fun a' w' => ∃ m, J m a' w') Q) a w) → c.wp P (Exit.jump l (fun a' w' => ∃ m, J m a' w') Q) a w) : (Code.scope c).wp P Q a w := by
  have least : ∀ (a : Act) (w : World) (n : Nat), J n a w → ∃ m, J m a w ∧ ∀ k, J k a w → m ≤ k := by
    intro a w n
    induction n using Nat.strongRecOn with
    | ind n ih =>
      intro hn
      by_cases h : ∃ k, k < n ∧ J k a w
      · obtain ⟨k, hk, hj⟩ := h
        exact ih k hk hj
      · exact ⟨n, hn, fun k hk => Nat.le_of_not_lt fun hlt => h ⟨k, hlt, hk⟩⟩
  have key : ∀ a w, ∃ μ : Nat, (∃ n, J n a w) → J μ a w ∧ ∀ k, J k a w → μ ≤ k := fun a w => by
    by_cases h : ∃ n, J n a w
    · obtain ⟨n, hn⟩ := h
      obtain ⟨m, h1, h2⟩ := least a w n hn
      exact ⟨m, fun _ => ⟨h1, h2⟩⟩
    · exact ⟨0, fun h' => absurd h' h⟩
  refine scope_label l (fun a w => ∃ n, J n a w) (fun a w => Classical.choose (key a w)) hf ?_ (fun hH => first (Kit.hid fun n a w hJ => hH.out a w ⟨n, hJ⟩))
  intro a w hJ
  obtain ⟨h1, h2⟩ := Classical.choose_spec (key a w) hJ
  refine Code.wp_mono ?_ (pass _ a w h1)
  intro e a' w' h
  cases e <;> first | exact h | (obtain ⟨hl, m, hm, hj⟩ := h; exact ⟨hl, ⟨m, hj⟩, Nat.lt_of_le_of_lt ((Classical.choose_spec (key a' w') ⟨m, hj⟩).2 m hj) hm⟩)
end Go.Proofs.Ytpgfenelckonoaa.Kit
namespace Go.Proofs.Ytpgfenelckonoaa.LaM
open Go.Proofs.Ytpgfenelckonoaa.ShM Go.Proofs.Ytpgfenelckonoaa.QuM
set_option linter.unusedVariables false
variable {S : LS}
/-- What is left when a group without members leaves. -/
def lnS (S : LS) (g : Int) : LS := { (quitS S g) with kept := upd S.kept g (some (memS S ((S.home g).getD 0) g)) }
def LC (S : LS) (g : Int) (n : Nat) : Prop := g = 0 ∨ ∃ h l, S.home g = some h ∧ IsWay S h l ∧ l.length + 1 < n
theorem lnS_eq {g h : Int} (hh : S.home g = some h) : lnS S g = { S with Q := upd S.Q h (del (S.Q h).1 g, (S.Q h).2), home := upd S.home g none, kept := upd S.kept g (some (memS S h g)) } := by
  unfold lnS quitS
  rw [hh]
  rfl
theorem leave_next {n : Nat} {g : Int} (w : WE S g) (hl : LC S g (n + 1)) (hc : g ≠ 0 ∧ (S.Q g).1 = []) :
    WE (lnS S g) ((S.home g).getD 0) ∧ LC (lnS S g) ((S.home g).getD 0) n ∧ leaveGo (n + 1) S g = leaveGo n (lnS S g) ((S.home g).getD 0) ∧ (S.home g).isSome = true := by
  rcases hl with h0 | ⟨h, l, hh, hw, hln⟩
  · exact absurd h0 hc.1
  · have w' := we_quit (K := upd S.kept g (some (memS S h g))) w hc.2 hh (fun j k hk => by
      unfold upd at hk
      split at hk
      · cases hk
        exact memS_ok w hh
      · exact w.kept j k hk)
    have e3 : leaveGo (n + 1) S g = leaveGo n (lnS S g) ((S.home g).getD 0) := by
      conv => lhs; unfold leaveGo
      rw [if_pos hc]
      rfl
    refine ⟨?_, ?_, e3, by rw [hh]; rfl⟩
    · rw [lnS_eq hh, hh]; exact w'
    · rw [lnS_eq hh, hh]
      cases l with
      | nil => exact .inl hw
      | cons z l =>
        obtain ⟨rfl, h2, h3, k, h4, h5⟩ := hw
        have hgz : z ≠ g := fun e => by
          subst e
          have := (w.home z z).1 hh
          rw [hc.2] at this
          simp [QuM.get] at this
        refine .inr ⟨k, l, ?_, way_quit h5 (way_past w hc.2 h4 h5), by simp at hln; omega⟩
        show upd S.home g none z = some k
        rw [upd_ne _ _ hgz]
        exact h4
theorem leave_stop {n : Nat} {g : Int} (hc : ¬ (g ≠ 0 ∧ (S.Q g).1 = [])) : leaveGo n S g = S := by
  cases n with
  | zero => rfl
  | succ n => unfold leaveGo; rw [if_neg hc]
theorem leave_first (w : WL S) {id : Int} (ht : id ∈ S.tasks) : WE { (quitS S id) with tasks := S.tasks.filter fun x => decide (x ≠ id) } ((S.home id).getD 0) ∧ LC { (quitS S id) with tasks := S.tasks.filter fun x => decide (x ≠ id) } ((S.home id).getD 0) 16 := by
  have hT : ∀ u, u ∈ S.tasks.filter (fun x => decide (x ≠ id)) ↔ u ∈ S.tasks ∧ u ≠ id := fun u => by simp
  have w0 : WE { S with tasks := S.tasks.filter fun x => decide (x ≠ id) } id :=
    ⟨w.wq, w.qb, w.home, w.tasks.filter _, fun u hu => w.isHome u ((hT u).1 hu).1, fun u hu => w.noGroup u ((hT u).1 hu).1, fun y j hy hn hne => w.full y j hy (fun hm => hn ((hT y).2 ⟨hm, hne⟩)), fun y j hy => by
      obtain ⟨l, hl, hn⟩ := w.way y j hy
      exact ⟨l, way_less (fun u hu => ((hT u).1 hu).1) hl, hn⟩, w.kept, fun hm => ((hT id).1 hm).2 rfl⟩
  have h1 := w.isHome id ht
  cases hh : S.home id with
  | none => rw [hh] at h1; cases h1
  | some g =>
    obtain ⟨r, hr, hr8⟩ := w0.way id g hh
    have hq := w.noGroup id ht
    have w1 := we_quit (K := S.kept) w0 hq hh w.kept
    have e : ({ (quitS S id) with tasks := S.tasks.filter fun x => decide (x ≠ id) } : LS) = { S with tasks := S.tasks.filter fun x => decide (x ≠ id), Q := upd S.Q g (del (S.Q g).1 id, (S.Q g).2), home := upd S.home id none } := by
      unfold quitS
      rw [hh]
      rfl
    rw [e]
    refine ⟨w1, ?_⟩
    cases r with
    | nil => exact .inl hr
    | cons z r =>
      obtain ⟨rfl, h2, h3, k, h4, h5⟩ := hr
      have hgz : z ≠ id := fun e => by
        subst e
        have := (w.home z z).1 hh
        rw [hq] at this
        simp [QuM.get] at this
      refine .inr ⟨k, r, ?_, way_quit (K := S.kept) h5 (way_past w0 hq h4 h5), by simp at hr8; omega⟩
      show upd S.home id none z = some k
      rw [upd_ne _ _ hgz]
      exact h4
theorem count_none {x : Int} {l : List Int} (h : ∀ y ∈ l, ¬ y < x) : l.countP (fun y => decide (y < x)) = 0 := List.countP_eq_zero.2 fun y hy => by simpa using h y hy
/-- A number is struck from a rising row, where it is searched. -/
theorem rise_del {x : Int} : ∀ {l : List Int}, l.Pairwise (· < ·) → x ∈ l → l.countP (fun y => decide (y < x)) < l.length ∧ l.take (l.countP (fun y => decide (y < x))) ++ l.drop (l.countP (fun y => decide (y < x)) + 1) = l.filter fun y => decide (y ≠ x)
  | [], _, h => by cases h
  | y :: l, hp, hm => by
    obtain ⟨h1, h2⟩ := List.pairwise_cons.1 hp
    by_cases hyx : y < x
    · have hml : x ∈ l := by
        rcases List.mem_cons.1 hm with e | e
        · omega
        · exact e
      obtain ⟨i1, i2⟩ := rise_del h2 hml
      rw [List.countP_cons_of_pos (by simpa using hyx)]
      refine ⟨by rw [List.length_cons]; omega, ?_⟩
      rw [List.take_succ_cons, List.drop_succ_cons, List.filter_cons_of_pos (by simp; omega), List.cons_append, i2]
    · have hyx' : y = x := by
        rcases List.mem_cons.1 hm with e | e
        · exact e.symm
        · have := h1 x e; omega
      subst hyx'
      have hc : (y :: l).countP (fun z => decide (z < y)) = 0 := count_none fun z hz => by
        rcases List.mem_cons.1 hz with rfl | hz
        · omega
        · have := h1 z hz; omega
      rw [hc]
      refine ⟨by simp, ?_⟩
      rw [List.filter_cons_of_neg (by simp)]
      have : l.filter (fun z => decide (z ≠ y)) = l := List.filter_eq_self.2 fun z hz => by
        have := h1 z hz
        simp; omega
      rw [this]
      rfl
/-- A number is laid into a rising row, where it is searched. -/
theorem rise_ins {x : Int} : ∀ {l : List Int}, l.Pairwise (· < ·) → l.take (l.countP (fun y => decide (y < x))) ++ x :: l.drop (l.countP (fun y => decide (y < x))) = insT x l
  | [], _ => rfl
  | y :: l, hp => by
    obtain ⟨h1, h2⟩ := List.pairwise_cons.1 hp
    unfold insT
    by_cases hyx : y < x
    · rw [if_pos hyx, List.countP_cons_of_pos (by simpa using hyx), List.take_succ_cons, List.drop_succ_cons, List.cons_append, rise_ins h2]
    · have hc : (y :: l).countP (fun z => decide (z < x)) = 0 := count_none fun z hz => by
        rcases List.mem_cons.1 hz with rfl | hz
        · exact hyx
        · have := h1 z hz; omega
      rw [if_neg hyx, hc]
      rfl
end Go.Proofs.Ytpgfenelckonoaa.LaM
namespace Go.Proofs.Ytpgfenelckonoaa.La
open Go.RowKit Go.Proofs.Ytpgfenelckonoaa.Kit Go.Proofs.Ytpgfenelckonoaa.ShM Go.Proofs.Ytpgfenelckonoaa.Sh Go.Proofs.Ytpgfenelckonoaa.QuM Go.Proofs.Ytpgfenelckonoaa.Qu Go.Proofs.Ytpgfenelckonoaa.LaM
open Go.Proofs.Ytpgfenelckonoaa.Ki (Row row_nil row_of iv iv_len iv_one search_row contains_row clone_row insert_own delete_own)
set_option linter.unusedVariables false
set_option linter.unusedSimpArgs false
section
variable {w w' : World} {lp n : Nat} {S : LS} {F : Nat → Prop}
theorem Ln.own2 {w4 w6 : World} {F4 : Nat → Prop} {gp : Nat} (h : Ln w4 F4 w' lp S n) (hF : ∀ k, F4 k → Ext F w k) (hK : Kept F w w4) (hg : w.heap.size ≤ gp) (hg2 : gp < w4.heap.size) (hn : ¬ F4 gp) (hgr : w'.grownBy w6 (some gp)) : Ln w F w6 lp S n := by
  obtain ⟨G, g1, g2, g3⟩ := h
  have hnG : ¬ G gp := fun hG => by
    rcases g2 gp hG with h | h
    · exact hn h
    · omega
  refine ⟨G, g1.same fun k hk => hgr.block k (g1.lt k hk) fun e => hnG (by rw [Option.some.inj e] at hk; exact hk), fun k hk => ?_, (hK.trans g3 hF).grown hgr (fun k e => by cases e; exact .inr hg)⟩
  rcases g2 k hk with h | h
  · exact hF k h
  · exact .inr (Nat.le_trans hK.size h)
/-- The next call on a lane that is relative to an origin. -/
theorem Ln.step {Q : Ending → World → Prop} {f : Nat} {args : Array Value} {w0 : World} {F0 : Nat → Prop} {S' : LS} {n' : Nat} (h : Ln w0 F0 w lp S n)
    (H : ∀ F, LF F w lp S n → Calls Try.prog f args w fun e w' => Q e w' ∧ Ln w F w' lp S' n') :
    Calls Try.prog f args w fun e w' => Q e w' ∧ Ln w0 F0 w' lp S' n' := by
  obtain ⟨F, h1, h2, h3⟩ := h
  exact (H F h1).mono fun e w' ⟨hq, hl⟩ => ⟨hq, Ln.trans h2 h3 hl⟩
/-- A lane, and two blocks beside it. -/
structure Bes (w : World) (F : Nat → Prop) (wr : World) (lp : Nat) (S : LS) (n g1 g2 : Nat) (o1 o2 : Obj) : Prop where
  ex : ∃ (w4 : World) (F4 : Nat → Prop), (∀ k, F4 k → Ext F w k) ∧ Kept F w w4 ∧ Ln w4 F4 wr lp S n ∧ (g1 < w4.heap.size ∧ ¬ F4 g1) ∧ (g2 < w4.heap.size ∧ ¬ F4 g2) ∧ w4.heap[g1]? = some o1 ∧ w4.heap[g2]? = some o2
  ge : w.heap.size ≤ g1 ∧ w.heap.size ≤ g2
theorem Bes.b1 {wr : World} {g1 g2 : Nat} {o1 o2 : Obj} (h : Bes w F wr lp S n g1 g2 o1 o2) : wr.heap[g1]? = some o1 := by
  obtain ⟨⟨w4, F4, h1, h2, h3, h4, h5, h6, h7⟩, _⟩ := h
  exact (h3.kept.block g1 h4.1 h4.2).trans h6
theorem Bes.b2 {wr : World} {g1 g2 : Nat} {o1 o2 : Obj} (h : Bes w F wr lp S n g1 g2 o1 o2) : wr.heap[g2]? = some o2 := by
  obtain ⟨⟨w4, F4, h1, h2, h3, h4, h5, h6, h7⟩, _⟩ := h
  exact (h3.kept.block g2 h5.1 h5.2).trans h7
theorem Bes.step {wr w' : World} {S' : LS} {n' g1 g2 : Nat} {o1 o2 : Obj} (h : Bes w F wr lp S n g1 g2 o1 o2) {G : Nat → Prop} (hG : ∀ w4 F4, Ln w4 F4 wr lp S n → Ln w4 F4 w' lp S' n') : Bes w F w' lp S' n' g1 g2 o1 o2 := by
  obtain ⟨⟨w4, F4, h1, h2, h3, h4⟩, h5⟩ := h
  exact ⟨⟨w4, F4, h1, h2, hG w4 F4 h3, h4⟩, h5⟩
theorem Bes.look {wr : World} {g1 g2 : Nat} {o1 o2 : Obj} (h : Bes w F wr lp S n g1 g2 o1 o2) : ∃ G, LF G wr lp S n ∧ ¬ G g1 ∧ ¬ G g2 ∧ (∀ w' S' n', Ln wr G w' lp S' n' → Bes w F w' lp S' n' g1 g2 o1 o2) := by
  obtain ⟨⟨w4, F4, h1, h2, h3, h4, h5, h6⟩, h7⟩ := h
  obtain ⟨G, k1, k2, k3⟩ := h3
  refine ⟨G, k1, fun e => ?_, fun e => ?_, fun w' S' n' hl => ⟨⟨w4, F4, h1, h2, Ln.trans k2 k3 hl, h4, h5, h6⟩, h7⟩⟩
  · rcases k2 _ e with e | e
    · exact h4.2 e
    · omega
  · rcases k2 _ e with e | e
    · exact h5.2 e
    · omega
/-- The first of the two is written last. -/
theorem Bes.last {wr w6 : World} {g1 g2 : Nat} {o1 o2 : Obj} (h : Bes w F wr lp S n g1 g2 o1 o2) (hgr : wr.grownBy w6 (some g1)) : Ln w F w6 lp S n := by
  obtain ⟨⟨w4, F4, h1, h2, h3, h4, h5, h6⟩, h7⟩ := h
  exact h3.own2 h1 h2 h7.1 h4.1 h4.2 hgr
/-- What holds at Leave's label. -/
def LvJ (w : World) (F : Nat → Prop) (lp gp : Nat) (T T0 : List Int) (id : Int) (mm : Mem) (R : LS) (M : Nat) (j : Nat) (a' : Act) (wr : World) : Prop :=
  ∃ (S' : LS) (g : Int) (m gm : Nat), a'.tmps.size = 68 ∧ a'.defers = [] ∧ a'.tmps.getD 0 undef = .pointer (some ⟨lp, 0, none⟩) ∧ a'.tmps.getD 1 undef = .int .i64 id ∧ a'.tmps.getD 4 undef = .pointer (some ⟨gp, 0, none⟩) ∧
    a'.tmps.getD 5 undef = .int .i64 0 ∧ a'.tmps.getD 6 undef = .int .i64 g ∧ a'.tmps.getD 7 undef = .pointer (some ⟨gm, 0, none⟩) ∧
    Hid (Bes w F wr lp S' m gp gm (.cells #[.int .i64 0, .int .i64 0, .int .i64 0, .int .i64 0] 35 (0, 0)) (.cells #[.int .i64 mm.id, .int .i64 mm.wt, .int .i64 mm.v, .int .i64 mm.rem] 35 (0, 0))) ∧
    Hid (WE { S' with tasks := T } g) ∧ Hid (LC { S' with tasks := T } g j) ∧ Hid (leaveGo j { S' with tasks := T } g = R) ∧ Hid (m + 3 * j ≤ M ∧ 1 ≤ m) ∧ Hid (S'.tasks = T0)
theorem lits68 (f : Nat → Value) : (List.range 68).map f = f 0 :: f 1 :: f 2 :: f 3 :: f 4 :: f 5 :: f 6 :: f 7 :: f 8 :: f 9 :: f 10 :: f 11 :: f 12 :: f 13 :: f 14 :: f 15 :: f 16 :: f 17 :: f 18 :: f 19 :: f 20 :: f 21 :: f 22 :: f 23 :: f 24 :: f 25 :: f 26 :: f 27 :: f 28 :: f 29 :: f 30 :: f 31 :: f 32 :: f 33 :: f 34 :: f 35 :: f 36 :: f 37 :: f 38 :: f 39 :: f 40 :: f 41 :: f 42 :: f 43 :: f 44 :: f 45 :: f 46 :: f 47 :: f 48 :: f 49 :: f 50 :: f 51 :: f 52 :: f 53 :: f 54 :: f 55 :: f 56 :: f 57 :: f 58 :: f 59 :: f 60 :: f 61 :: f 62 :: f 63 :: f 64 :: f 65 :: f 66 :: f 67 :: [] := rfl
theorem LvJ.open {w : World} {F : Nat → Prop} {lp gp : Nat} {T T0 : List Int} {id : Int} {mm : Mem} {R : LS} {M j : Nat} {a' : Act} {wr : World} (h : LvJ w F lp gp T T0 id mm R M j a' wr) :
    ∃ (S' : LS) (g : Int) (m gm : Nat) (u : Nat → Value), a' = { tmps := (.pointer (some ⟨lp, 0, none⟩) :: .int .i64 id :: u 2 :: u 3 :: .pointer (some ⟨gp, 0, none⟩) :: .int .i64 0 :: .int .i64 g :: .pointer (some ⟨gm, 0, none⟩) :: u 8 :: u 9 :: u 10 :: u 11 :: u 12 :: u 13 :: u 14 :: u 15 :: u 16 :: u 17 :: u 18 :: u 19 :: u 20 :: u 21 :: u 22 :: u 23 :: u 24 :: u 25 :: u 26 :: u 27 :: u 28 :: u 29 :: u 30 :: u 31 :: u 32 :: u 33 :: u 34 :: u 35 :: u 36 :: u 37 :: u 38 :: u 39 :: u 40 :: u 41 :: u 42 :: u 43 :: u 44 :: u 45 :: u 46 :: u 47 :: u 48 :: u 49 :: u 50 :: u 51 :: u 52 :: u 53 :: u 54 :: u 55 :: u 56 :: u 57 :: u 58 :: u 59 :: u 60 :: u 61 :: u 62 :: u 63 :: u 64 :: u 65 :: u 66 :: u 67 :: []).toArray, defers := [] } ∧
    Hid (Bes w F wr lp S' m gp gm (.cells #[.int .i64 0, .int .i64 0, .int .i64 0, .int .i64 0] 35 (0, 0)) (.cells #[.int .i64 mm.id, .int .i64 mm.wt, .int .i64 mm.v, .int .i64 mm.rem] 35 (0, 0))) ∧
    Hid (WE { S' with tasks := T } g) ∧ Hid (LC { S' with tasks := T } g j) ∧ Hid (leaveGo j { S' with tasks := T } g = R) ∧ Hid (m + 3 * j ≤ M ∧ 1 ≤ m) ∧ Hid (S'.tasks = T0) := by
  obtain ⟨S', g, m, gm, hs, hd, h0, h1, h4, h5, h6, h7, rest⟩ := h
  obtain ⟨⟨l⟩, df⟩ := a'
  cases hd
  have e := (list_lits l 68 hs).trans (lits68 _)
  have gg : ∀ i, l.getD i undef = (Array.mk l).getD i undef := fun i => by by_cases h : i < l.length <;> simp [Array.getD, h]
  rw [gg 0, h0, gg 1, h1, gg 4, h4, gg 5, h5, gg 6, h6, gg 7, h7] at e
  exact ⟨S', g, m, gm, fun i => l.getD i undef, congrArg (fun x => (⟨Array.mk x, []⟩ : Act)) e, rest⟩
set_option maxRecDepth 40000 in
set_option maxHeartbeats 6400000 in
theorem leave_lane (id : Int) (h : LF F w lp S n) (wl : WL S) (hn0 : 1 ≤ n) (hn : n ≤ 3800) (hi1 : -9223372036854775808 ≤ id) (hi2 : id ≤ 9223372036854775807) :
    Calls Try.prog 20 #[.pointer (some ⟨lp, 0, none⟩), .int .i64 id] w fun e w' => e = .returned (.tuple #[memV ((leaveS S id).1.getD ⟨0, 0, 0, 0⟩), .int .i64 (leaveS S id).2.1]) ∧ Ln w F w' lp (leaveS S id).2.2 (n + 60) := by
  have HLF := Kit.hid h
  have HWL := Kit.hid wl
  have HIR : Hid (int64 id) := Kit.hid ⟨hi1, hi2⟩
  have HKEY : Hid (keyOf Try.prog 3 (.int .i64 id) = some (.int .i64 id)) := Kit.hid (int_key Try.underlying3 hi1 hi2)
  have HLT := Kit.hid h.lt
  obtain ⟨gp, hgp⟩ : ∃ gp, gp = w.heap.size := ⟨_, rfl⟩
  obtain ⟨W1, hW1⟩ : ∃ W1, W1 = w.alloc (.cells #[.int .i64 0, .int .i64 0, .int .i64 0, .int .i64 0] 35) := ⟨_, rfl⟩
  have HB1 : Hid (Below w.heap.size w W1) := Kit.hid (by rw [hW1]; exact (Below.refl _ _).alloc (Nat.le_refl _) _)
  have HX1 : Hid (W1.heap[gp]? = some (.cells #[.int .i64 0, .int .i64 0, .int .i64 0, .int .i64 0] 35 (0, 0))) := Kit.hid (by rw [hW1, hgp]; exact blk_new _ _)
  have HNF : Hid (¬ F gp) := Kit.hid (fun hf => by have := HLT.out gp hf; omega)
  have HL1 := Kit.hid (h.below HB1.out)
  have HGP := Kit.hid hgp
  have HW1 := Kit.hid hW1
  clear h hi1 hi2 hgp hW1
  go_enter Try.func20, Try.ntmps20
  go_wp2
  rw [← HW1.out, ← HGP.out]
  by_cases htk : id ∈ S.tasks
  · have HTK := Kit.hid htk
    obtain ⟨HWE0, HLC0⟩ := leave_first wl htk
    obtain ⟨T, hT⟩ : ∃ T, T = S.tasks.filter fun x => decide (x ≠ id) := ⟨_, rfl⟩
    obtain ⟨g0, hg0⟩ : ∃ g0, g0 = (S.home id).getD 0 := ⟨_, rfl⟩
    obtain ⟨mm, hmm⟩ : ∃ mm, mm = memS S g0 id := ⟨_, rfl⟩
    obtain ⟨R, hR⟩ : ∃ R, R = leaveGo 16 { (quitS S id) with tasks := T } g0 := ⟨_, rfl⟩
    have HRS : Hid (leaveS S id = (some mm, 0, R)) := Kit.hid (by
      unfold leaveS
      rw [if_pos htk, ← hg0, ← hmm, leave_tasks, ← hT, ← hR])
    rw [← hT, ← hg0] at HWE0 HLC0
    have HWE1 := Kit.hid HWE0
    have HLC1 := Kit.hid HLC0
    have HTE := Kit.hid hT
    have HGE := Kit.hid hg0
    have HME := Kit.hid hmm
    have HRE := Kit.hid hR
    have hRi := fun i => rise_del (x := i) wl.tasks
    have HRD := Kit.hid (rise_del wl.tasks htk)
    have HTS := Kit.hid (task_any id HL1.out (by omega) HIR.out.1 HIR.out.2)
    rw [decide_eq_true htk] at HTS
    clear HWE0 HLC0 hT hg0 hmm hR hRi htk
    refine scope_label_n 0 (LvJ w F lp gp T S.tasks id mm R (n + 52)) rfl ?_ ?_
    · rintro j a' wr hJ
      obtain ⟨S', g, m, gm, u, rfl, HBS, HWE, HLC, HGO, HM, HTT⟩ := hJ.open
      clear hJ
      have hm2 : m ≤ n + 52 := by have := HM.out; omega
      have hm1 := HM.out.2
      obtain ⟨G, hG, hg1, hg2, hGs⟩ := HBS.out.look
      have HG := Kit.hid hG
      have HGS := Kit.hid hGs
      have HG12 : Hid (¬ G gp ∧ ¬ G gm) := Kit.hid ⟨hg1, hg2⟩
      have hgr : int64 g := by
        rcases HLC.out with e | ⟨h, l, hh, _⟩
        · rw [e]; exact ⟨by decide, by decide⟩
        · obtain ⟨m, hm, rfl⟩ : ∃ m : Mem, m ∈ (S'.Q h).1 ∧ m.id = g := by
            have h1 := (HWE.out.home g h).1 hh
            cases hq : get (S'.Q h).1 g with
            | none =>
              have h1 : (get (S'.Q h).1 g).isSome = true := h1
              rw [hq] at h1; cases h1
            | some y => exact ⟨y, (get_mem hq).1, (get_mem hq).2⟩
          have := (HWE.out.qb h).each m hm
          exact ⟨by omega, by omega⟩
      have HGR := Kit.hid hgr
      clear hG hg1 hg2 hGs hgr
      by_cases hg0 : g = 0
      · have g1 : (g != 0) = false := by simp [hg0]
        have HST : Hid ({ S' with tasks := T } = R) := Kit.hid (by rw [← HGO.out, leave_stop (S := { S' with tasks := T }) (fun e => e.1 hg0)])
        have HB5 : Hid (Bes w F wr lp S' (m + 1) gp gm (.cells #[.int .i64 0, .int .i64 0, .int .i64 0, .int .i64 0] 35 (0, 0)) (.cells #[.int .i64 mm.id, .int .i64 mm.wt, .int .i64 mm.v, .int .i64 mm.rem] 35 (0, 0))) := Kit.hid (HGS.out _ _ _ (HG.out.self.more (Nat.le_succ _)))
        clear hg0
        obtain ⟨G5, hG5, hg1, hg2, hGs⟩ := HB5.out.look
        have HGS5 := Kit.hid hGs
        have HN5 : Hid (¬ G5 gp ∧ ¬ G5 gm) := Kit.hid ⟨hg1, hg2⟩
        obtain ⟨nb, nh, nk, vt, Qp, Fq, hFe, hx5⟩ := hG5
        have hrow := hx5.row
        rw [HTT.out] at hrow
        have htn := hx5.tn
        rw [HTT.out] at htn
        have HX5 := Kit.hid hx5
        have HSR := Kit.hid (search_row hrow id (by omega) (rise_le HWL.out.tasks))
        have c2 := blk_cell hx5.at_ 2
        have hll := blk_lt hx5.at_
        obtain ⟨i, hi⟩ : ∃ i, i = S.tasks.countP (fun y => decide (y < id)) := ⟨_, rfl⟩
        have HDT := HRD
        rw [← hi] at HSR HDT
        have HROW := Kit.hid hrow
        have HTN := Kit.hid htn
        have HDL : Hid (∀ q, Calls Try.prog 44 #[vt, .int .i64 i, .int .i64 ((i : Int) + 1)] (wr.drewN q) fun e w' => ∃ v', e = .returned v' ∧ Row 0 w' v' T ∧ (wr.drewN q).grownBy w' vt.ownBlock ∧ (v'.ownBlock = vt.ownBlock ∨ ∀ k, v'.ownBlock = some k → (wr.drewN q).heap.size ≤ k)) := Kit.hid (fun q => by
          have h := delete_own (HROW.out.below (below_drewN (Below.refl _ _) q)) i HDT.out.1 (by have := HTN.out; omega)
          rw [HDT.out.2, ← HTE.out] at h
          exact h)
        have hib : (i : Int) ≤ 4000 := by have := HDT.out.1; have := htn; omega
        have hwr : IntKind.i64.wrap ((i : Int) + 1) = (i : Int) + 1 := by rw [IntKind.wrap_i64]; omega
        have hwr2 : wrap64 ((i : Int) + 1) = (i : Int) + 1 := by unfold wrap64; omega
        have hb2 : wr.heap[gm]? = _ := HB5.out.b2
        have hb1 : wr.heap[gp]? = _ := HB5.out.b1
        have HB1G := Kit.hid hb1
        have HB2G := Kit.hid hb2
        have hform := hrow.form
        obtain ⟨A5, c5, rfl, _, _, _⟩ := hrow.reads
        have HII := Kit.hid hi
        clear hg1 hg2 hGs hrow htn hx5 hb1 hb2 hform hi
        generalize S.tasks.contains id = bb at HSR
        go_wp2_with fail
        (with_reducible refine HSR.out.mono ?_); rintro e w6 ⟨rfl, q, rfl⟩
        go_wp2_with fail
        (with_reducible refine (HDL.out q).mono ?_); rintro e w7 ⟨v7, rfl, hr7, hg7, ho7⟩
        have HPT := Kit.hid HX5.out.parts
        have hlp7 : w7.heap[lp]? = some (.cells #[.map (some nb), .map (some nh), .slice A5 S.tasks.length c5, .map (some nk)] 66 (0, 0)) := (hg7.block lp hll (fun e => HPT.out.2.2.2.2 e.symm)).trans HX5.out.at_
        have HR7 := Kit.hid hr7
        have HG7 : Hid (wr.grownBy w7 (Value.slice A5 S.tasks.length c5).ownBlock) := Kit.hid ⟨hg7.os, hg7.tape, hg7.output, hg7.size, hg7.block⟩
        have HO7 : Hid (v7.ownBlock = (Value.slice A5 S.tasks.length c5).ownBlock ∨ ∀ k, v7.ownBlock = some k → wr.heap.size ≤ k) := Kit.hid ho7
        have HPG : Hid (gp ≠ lp ∧ gm ≠ lp) := Kit.hid ⟨fun e => HN5.out.1 (by rw [hFe, e]; exact .inl rfl), fun e => HN5.out.2 (by rw [hFe, e]; exact .inl rfl)⟩
        have HOW : Hid (∀ k, (Value.slice A5 S.tasks.length c5).ownBlock = some k → G5 k) := Kit.hid (fun k hk => by rw [hFe]; exact .inr (.inr (.inr (.inr (.inl hk)))))
        have hgm7 : w7.heap[gm]? = _ := (HG7.out.block gm (blk_lt HB2G.out) (fun e => HN5.out.2 (HOW.out _ e.symm))).trans HB2G.out
        have hgp7 : w7.heap[gp]? = _ := (HG7.out.block gp (blk_lt HB1G.out) (fun e => HN5.out.1 (HOW.out _ e.symm))).trans HB1G.out
        obtain ⟨A7, c7, rfl, _, _, _⟩ := hr7.reads
        have HLP7 := Kit.hid hlp7
        have HNL : Hid (∀ k, (Value.slice A7 T.length c7).ownBlock = some k → k ≠ lp) := Kit.hid (fun k hk e => by
          subst e
          rcases HO7.out with h | h
          · rw [h] at hk; exact HPT.out.2.2.2.2 hk
          · have := h _ hk; omega)
        have HB8 : Hid (Bes w F (w7.setCell ⟨lp, 2, none⟩ (.slice A7 T.length c7)) lp { S' with tasks := T } (m + 1) gp gm (.cells #[.int .i64 0, .int .i64 0, .int .i64 0, .int .i64 0] 35 (0, 0)) (.cells #[.int .i64 mm.id, .int .i64 mm.wt, .int .i64 mm.v, .int .i64 mm.rem] 35 (0, 0))) := Kit.hid (by
          refine HGS5.out _ _ _ ?_
          rw [hFe]
          refine HX5.out.setTasks (vt' := .slice A7 T.length c7) (T := T) (n' := m + 1) ?_ (blk_put HLP7.out 2 _ rfl) ?_ ?_ (Nat.le_refl _) ?_ ?_ ?_
          · intro k hk hk1 hk2
            exact (Below.heap_setCell _ _ _ _ hk1).trans (HG7.out.block k (HX5.out.lt k hk) (fun e => hk2 e.symm))
          · exact HR7.out.same fun g hg => Below.heap_setCell _ _ _ _ (HNL.out g hg)
          · intro k hk
            rcases HO7.out with h | h
            · exact .inl (by rw [← h]; exact hk)
            · exact .inr (h k hk)
          · rw [HTE.out]; exact HWL.out.tasks.filter _
          · have h1 := List.length_filter_le (fun x => decide (x ≠ id)) S.tasks
            rw [← HTE.out] at h1
            have := HTN.out
            omega
          · exact ((Kept.refl _ _).grown HG7.out fun k hk => .inl (.inr (.inr (.inr (.inr (.inl hk)))))).setCell (a := ⟨lp, 2, none⟩) (.inl (.inl rfl)) _)
        have k2 := blk_cell hlp7 2
        have kf := blk_frozen hlp7 2
        have kl := blk_lt hlp7
        have r0 := blk_cell hgm7 0
        have r1 := blk_cell hgm7 1
        have r2 := blk_cell hgm7 2
        have r3 := blk_cell hgm7 3
        have rl := blk_lt hgm7
        have y0 := blk_cell hgp7 0
        have y1 := blk_cell hgp7 1
        have y2 := blk_cell hgp7 2
        have y3 := blk_cell hgp7 3
        have f0 := blk_frozen hgp7 0
        have f1 := blk_frozen hgp7 1
        have f2 := blk_frozen hgp7 2
        have f3 := blk_frozen hgp7 3
        have yl := blk_lt hgp7
        have hne1 : gp ≠ lp := HPG.out.1
        have hne2 : gm ≠ lp := HPG.out.2
        have hne3 : lp ≠ gp := fun e => hne1 e.symm
        have hne4 : lp ≠ gm := fun e => hne2 e.symm
        have HY8 : Hid ((w7.setCell ⟨lp, 2, none⟩ (.slice A7 T.length c7)).heap[gp]? = some (.cells #[.int .i64 0, .int .i64 0, .int .i64 0, .int .i64 0] 35 (0, 0))) := Kit.hid ((Below.heap_setCell _ _ _ _ hne1).trans hgp7)
        clear hr7 hg7 ho7 hgm7 hgp7 hlp7
        go_wp2
        simp only [Exit.jump]
        exact cell_tmp_ret rfl gp _ _ _ _ rfl rfl (mem_store HY8.out) rfl ⟨by rw [HRS.out]; rfl, by rw [HRS.out, ← HST.out]; exact (HB8.out.last (set4_grown _ _ _ _ _ _)).more (by omega)⟩
      · have g1 : (g != 0) = true := by simp [hg0]
        have HG0 := Kit.hid hg0
        have HE := Kit.hid (empty_any g HG.out hm1 (by omega) HGR.out.1 HGR.out.2)
        clear hg0
        by_cases hq : (S'.Q g).1 = []
        · rw [decide_eq_true hq] at HE
          have HQ := Kit.hid hq
          clear hq
          go_wp2_with fail
          (with_reducible refine HE.out.mono ?_); rintro e w5 ⟨rfl, hl5⟩
          obtain ⟨j', rfl⟩ : ∃ j', j = j' + 1 := by
            cases j with
            | zero =>
              rcases HLC.out with e | ⟨h, l, _, _, hl⟩
              · exact absurd e HG0.out
              · omega
            | succ j => exact ⟨j, rfl⟩
          obtain ⟨hwe, hlc, hgo, hso⟩ := leave_next HWE.out HLC.out ⟨HG0.out, HQ.out⟩
          have HWE2 := Kit.hid hwe
          have HLC2 := Kit.hid hlc
          have HGO2 : Hid (leaveGo j' (lnS { S' with tasks := T } g) ((S'.home g).getD 0) = R) := Kit.hid (by rw [← HGO.out]; exact hgo.symm)
          have HB5 := Kit.hid (HGS.out _ _ _ hl5)
          obtain ⟨G5, hG5, hg1, hg2, hGs⟩ := HB5.out.look
          have HGS5 := Kit.hid hGs
          have HL5 := Kit.hid hG5
          obtain ⟨nb, nh, nk, vt, Qp, Fq, hFe, hx5⟩ := (show LF G5 w5 lp S' (m + 1) from hG5)
          have HX5 := Kit.hid hx5
          have x1 := blk_cell hx5.at_ 1
          have ll := blk_lt hx5.at_
          have HLL := Kit.hid ll
          have HMH := Kit.hid hx5.home
          have HKG : Hid (keyOf Try.prog 3 (.int .i64 g) = some (.int .i64 g)) := Kit.hid (int_key Try.underlying3 HGR.out.1 HGR.out.2)
          obtain ⟨hh, hhh⟩ : ∃ hh, hh = (S'.home g).getD 0 := ⟨_, rfl⟩
          have HHH := Kit.hid hhh
          have HLK : Hid ((if false = true then Value.tuple #[((S'.home g).map (Value.int .i64)).getD (.int .i64 0), .bool ((S'.home g).map (Value.int .i64)).isSome] else ((S'.home g).map (Value.int .i64)).getD (.int .i64 0)) = .int .i64 hh) := Kit.hid (by
            rw [hhh]
            cases S'.home g <;> rfl)
          have HQT := Kit.hid (quit_lane g (hG5.below (Below.refl _ w5).drew) (by omega) (by omega) HGR.out.1 HGR.out.2)
          obtain ⟨mg, hmg⟩ : ∃ mg, mg = memS S' hh g := ⟨_, rfl⟩
          have HMG := Kit.hid hmg
          rw [← hhh, ← hmg] at HQT
          have HS5 : Hid (∀ w' : World, w'.heap[lp]? = w5.heap[lp]? → w'.cell? ⟨lp, 3, none⟩ = some (.map (some nk))) := Kit.hid (fun w' h => blk_cell (h.trans HX5.out.at_) 3)
          unfold memV at HQT
          clear hwe hlc hgo hso hl5 hG5 hg1 hg2 hGs hx5 hFe HE hhh hmg
          go_wp2_with (at_lookup; refine wpList_lookV rfl _ _ 63 false rfl 3 3 keyed Try.underlying63 _ (zero_int _) nh (m + 1) (fun j => (S'.home j).map (Value.int .i64)) rfl HMH.out g rfl HKG.out _ HLK.out ?_)
          refine wp_region_noPanic ?_
          refine wp_region_held_drew (S := fun (w' : World) => w'.heap[lp]? = w5.heap[lp]?) (by kernel_rfl) rfl (fun hHeld => ?_)
          refine wpAnyH_take (i := 0) (hi := by simp only [List.getElem?_toArray, List.getElem?_cons_succ, List.getElem?_cons_zero]; rfl) (v := ?_) (by kernel_rfl) (by kernel_rfl) (by kernel_rfl) (fun _ _ _ h => h) (Or.inl ⟨by rfl, ?_⟩) (by assumption) ?_
          rotate_left
          · (intro w hSw; (try dsimp only at hSw); go_simp; first | done | with_reducible rfl)
          try simp only [Act.put, List.setIfInBounds_toArray, List.set_cons_zero, List.set_cons_succ]
          refine wpAnyH_take (i := 1) (hi := by simp only [List.getElem?_toArray, List.getElem?_cons_succ, List.getElem?_cons_zero]; rfl) (v := ?_) (by kernel_rfl) (by kernel_rfl) (by kernel_rfl) (fun _ _ _ h => h) (Or.inl ⟨by rfl, ?_⟩) (by assumption) ?_
          rotate_left
          · (intro w hSw; (try dsimp only at hSw); (have x3 := HS5.out _ hSw); go_simp; first | done | with_reducible rfl)
          try simp only [Act.put, List.setIfInBounds_toArray, List.set_cons_zero, List.set_cons_succ]
          refine wpAnyH_take (i := 2) (hi := by simp only [List.getElem?_toArray, List.getElem?_cons_succ, List.getElem?_cons_zero]; rfl) (v := ?_) (by kernel_rfl) (by kernel_rfl) (by kernel_rfl) (fun _ _ _ h => h) (Or.inl ⟨by rfl, ?_⟩) (by assumption) ?_
          rotate_left
          · (intro w hSw; (try dsimp only at hSw); go_simp; first | done | with_reducible rfl)
          try simp only [Act.put, List.setIfInBounds_toArray, List.set_cons_zero, List.set_cons_succ]
          refine wpAnyH_take (i := 3) (hi := by simp only [List.getElem?_toArray, List.getElem?_cons_succ, List.getElem?_cons_zero]; rfl) (v := ?_) (by kernel_rfl) (by kernel_rfl) (by kernel_rfl) (fun _ _ _ h => h) (Or.inl ⟨by rfl, ?_⟩) (by assumption) ?_
          rotate_left
          · (intro w hSw; (try dsimp only at hSw); (have x3 := HS5.out _ hSw); go_simp; first | done | with_reducible rfl)
          try simp only [Act.put, List.setIfInBounds_toArray, List.set_cons_zero, List.set_cons_succ]
          refine wpAnyH_take (i := 4) (hi := by simp only [List.getElem?_toArray, List.getElem?_cons_succ, List.getElem?_cons_zero]; rfl) (v := ?_) (by kernel_rfl) (by kernel_rfl) (by kernel_rfl) (fun _ _ _ h => h) (Or.inl ⟨by rfl, ?_⟩) (by assumption) ?_
          rotate_left
          · (intro w hSw; (try dsimp only at hSw); go_simp; first | done | with_reducible rfl)
          try simp only [Act.put, List.setIfInBounds_toArray, List.set_cons_zero, List.set_cons_succ]
          refine wpAnyH_take (i := 5) (hi := by simp only [List.getElem?_toArray, List.getElem?_cons_succ, List.getElem?_cons_zero]; rfl) (v := ?_) (by kernel_rfl) (by kernel_rfl) (by kernel_rfl) (fun _ _ _ h => h) (Or.inl ⟨by rfl, ?_⟩) (by assumption) ?_
          rotate_left
          · (intro w hSw; (try dsimp only at hSw); go_simp; first | done | with_reducible rfl)
          try simp only [Act.put, List.setIfInBounds_toArray, List.set_cons_zero, List.set_cons_succ]
          refine wpAnyH_take (i := 6) (hi := by simp only [List.getElem?_toArray, List.getElem?_cons_succ, List.getElem?_cons_zero]; rfl) (v := ?_) (by kernel_rfl) (by kernel_rfl) (by kernel_rfl) (fun _ _ _ h => h) (Or.inl ⟨by rfl, ?_⟩) (by assumption) ?_
          rotate_left
          · (intro w hSw; (try dsimp only at hSw); go_simp; first | done | with_reducible rfl)
          try simp only [Act.put, List.setIfInBounds_toArray, List.set_cons_zero, List.set_cons_succ]
          refine wpAnyH_ready (rs := [7]) (by kernel_rfl) (by simp) ?_
          refine AllReadyH.cons (ho := by simp only [List.getElem?_toArray, List.getElem?_cons_succ, List.getElem?_cons_zero]; rfl) (fun K hK => ?_) (AllReadyH.nil)
          go_simp
          go_at_call 31; (with_reducible refine HQT.out.mono ?_); rintro e w7 ⟨rfl, hl7, ha7⟩
          have HA7 : Hid (w7.heap[lp]? = w5.heap[lp]?) := Kit.hid ha7
          have hl7' : Ln w5 G5 w7 lp (quitS S' g) (m + 2) := hl7.lift (Below.refl _ w5).drew
          obtain ⟨G7, hG7, hE7, hK7⟩ := hl7'
          obtain ⟨ob, oh, ok, ut, Qp7, Fq7, hFe7, hx7⟩ := hG7
          have hnk : ok = nk := by
            have h1 := hx7.at_.symm.trans (ha7.trans HX5.out.at_)
            have h2 : ob = nb ∧ oh = nh ∧ ut = vt ∧ ok = nk := by simpa using h1
            exact h2.2.2.2
          subst hnk
          have HX7 := Kit.hid hx7
          have HE7 := Kit.hid hE7
          have HK7 := Kit.hid hK7
          have HFE7 := Kit.hid hFe7
          have HMK : Hid (MapV Try.prog 3 w7 ok (fun j => (S'.kept j).map memV) (m + 2)) := Kit.hid hx7.kept
          clear hl7 ha7 hx7 hE7 hK7 hFe7
          go_wp2_with fail
          refine hK.out _ _ ?_ (fun hHeldN => ?_)
          · exact HA7.out
          clear hHeld
          have hHeld := hHeldN
          clear hHeldN
          clear hK K
          try simp only [Act.put, List.setIfInBounds_toArray, List.set_cons_zero, List.set_cons_succ]
          refine wpAnyH_ready (rs := [8]) (by kernel_rfl) (by simp) ?_
          refine AllReadyH.cons (ho := by simp only [List.getElem?_toArray, List.getElem?_cons_succ, List.getElem?_cons_zero]; rfl) (fun K hK => ?_) (AllReadyH.nil)
          refine step_of_wp rfl (wp_storeV _ _ _ 64 rfl 3 35 keyed Try.underlying64 ok (m + 2) (fun j => (S'.kept j).map memV) (by simp [Act.eval, Act.put]) HMK.out (by unfold maxLen; omega) g (memV mg) (by simp [Act.eval, Act.put]) (by simp [Act.eval, Act.put, memV]) HKG.out ?_)
          intro w8 hm8 hg8
          have HB8 : Hid (Bes w F w8 lp { (quitS S' g) with kept := upd S'.kept g (some mg) } (m + 3) gp gm (.cells #[.int .i64 0, .int .i64 0, .int .i64 0, .int .i64 0] 35 (0, 0)) (.cells #[.int .i64 mm.id, .int .i64 mm.wt, .int .i64 mm.v, .int .i64 mm.rem] 35 (0, 0))) := Kit.hid (by
            have h := HX7.out.setKept (H := upd S'.kept g (some mg)) (n' := m + 3) (hm8.congr fun j => by
              unfold upd
              try dsimp only
              split <;> rfl) hg8 (by omega)
            refine HGS5.out _ _ _ (Ln.trans HE7.out HK7.out ?_)
            rw [HFE7.out]
            exact h)
          have HG8 := Kit.hid hg8
          have HNK : Hid (lp ≠ ok) := Kit.hid HX7.out.parts.1.2.2
          have HLL7 : Hid (lp < w7.heap.size) := Kit.hid (blk_lt HX7.out.at_)
          clear hm8 hg8
          refine hK.out _ _ ?_ (fun hHeldN => ?_)
          · exact (HG8.out.block lp HLL7.out (fun e => HNK.out (Option.some.inj e))).trans HA7.out
          clear hHeld
          have hHeld := hHeldN
          clear hHeldN
          clear hK K
          try simp only [Act.put, List.setIfInBounds_toArray, List.set_cons_zero, List.set_cons_succ]
          clear hHeld
          refine wpAnyH_done (by kernel_rfl) ?_ _
          refine NoPanic.normal ?_
          skip
          go_wp2
          go_step3
          refine ⟨rfl, j', Nat.lt_succ_self _, { (quitS S' g) with kept := upd S'.kept g (some mg) }, hh, m + 3, gm, rfl, rfl, rfl, rfl, rfl, rfl, rfl, rfl, HB8, Kit.hid ?_, Kit.hid ?_, Kit.hid ?_, Kit.hid ?_, Kit.hid ?_⟩
          · have := HWE2.out; rw [HMG.out, HHH.out]; exact this
          · have := HLC2.out; rw [HMG.out, HHH.out]; exact this
          · have := HGO2.out; rw [HMG.out, HHH.out]; exact this
          · have := HM.out; omega
          · exact HTT.out
        · rw [decide_eq_false hq] at HE
          have HST : Hid ({ S' with tasks := T } = R) := Kit.hid (by rw [← HGO.out, leave_stop (S := { S' with tasks := T }) (fun e => hq e.2)])
          clear hq
          go_wp2_with fail
          (with_reducible refine HE.out.mono ?_); rintro e w5 ⟨rfl, hl5⟩
          have HB5 := Kit.hid (HGS.out _ _ _ hl5)
          clear hl5 HE
          obtain ⟨G5, hG5, hg1, hg2, hGs⟩ := HB5.out.look
          have HGS5 := Kit.hid hGs
          have HN5 : Hid (¬ G5 gp ∧ ¬ G5 gm) := Kit.hid ⟨hg1, hg2⟩
          obtain ⟨nb, nh, nk, vt, Qp, Fq, hFe, hx5⟩ := hG5
          have hrow := hx5.row
          rw [HTT.out] at hrow
          have htn := hx5.tn
          rw [HTT.out] at htn
          have HX5 := Kit.hid hx5
          have HSR := Kit.hid (search_row hrow id (by omega) (rise_le HWL.out.tasks))
          have c2 := blk_cell hx5.at_ 2
          have hll := blk_lt hx5.at_
          obtain ⟨i, hi⟩ : ∃ i, i = S.tasks.countP (fun y => decide (y < id)) := ⟨_, rfl⟩
          have HDT := HRD
          rw [← hi] at HSR HDT
          have HROW := Kit.hid hrow
          have HTN := Kit.hid htn
          have HDL : Hid (∀ q, Calls Try.prog 44 #[vt, .int .i64 i, .int .i64 ((i : Int) + 1)] (w5.drewN q) fun e w' => ∃ v', e = .returned v' ∧ Row 0 w' v' T ∧ (w5.drewN q).grownBy w' vt.ownBlock ∧ (v'.ownBlock = vt.ownBlock ∨ ∀ k, v'.ownBlock = some k → (w5.drewN q).heap.size ≤ k)) := Kit.hid (fun q => by
            have h := delete_own (HROW.out.below (below_drewN (Below.refl _ _) q)) i HDT.out.1 (by have := HTN.out; omega)
            rw [HDT.out.2, ← HTE.out] at h
            exact h)
          have hib : (i : Int) ≤ 4000 := by have := HDT.out.1; have := htn; omega
          have hwr : IntKind.i64.wrap ((i : Int) + 1) = (i : Int) + 1 := by rw [IntKind.wrap_i64]; omega
          have hwr2 : wrap64 ((i : Int) + 1) = (i : Int) + 1 := by unfold wrap64; omega
          have hb2 : w5.heap[gm]? = _ := HB5.out.b2
          have hb1 : w5.heap[gp]? = _ := HB5.out.b1
          have HB1G := Kit.hid hb1
          have HB2G := Kit.hid hb2
          have hform := hrow.form
          obtain ⟨A5, c5, rfl, _, _, _⟩ := hrow.reads
          have HII := Kit.hid hi
          clear hg1 hg2 hGs hrow htn hx5 hb1 hb2 hform hi
          generalize S.tasks.contains id = bb at HSR
          go_wp2_with fail
          (with_reducible refine HSR.out.mono ?_); rintro e w6 ⟨rfl, q, rfl⟩
          go_wp2_with fail
          (with_reducible refine (HDL.out q).mono ?_); rintro e w7 ⟨v7, rfl, hr7, hg7, ho7⟩
          have HPT := Kit.hid HX5.out.parts
          have hlp7 : w7.heap[lp]? = some (.cells #[.map (some nb), .map (some nh), .slice A5 S.tasks.length c5, .map (some nk)] 66 (0, 0)) := (hg7.block lp hll (fun e => HPT.out.2.2.2.2 e.symm)).trans HX5.out.at_
          have HR7 := Kit.hid hr7
          have HG7 : Hid (w5.grownBy w7 (Value.slice A5 S.tasks.length c5).ownBlock) := Kit.hid ⟨hg7.os, hg7.tape, hg7.output, hg7.size, hg7.block⟩
          have HO7 : Hid (v7.ownBlock = (Value.slice A5 S.tasks.length c5).ownBlock ∨ ∀ k, v7.ownBlock = some k → w5.heap.size ≤ k) := Kit.hid ho7
          have HPG : Hid (gp ≠ lp ∧ gm ≠ lp) := Kit.hid ⟨fun e => HN5.out.1 (by rw [hFe, e]; exact .inl rfl), fun e => HN5.out.2 (by rw [hFe, e]; exact .inl rfl)⟩
          have HOW : Hid (∀ k, (Value.slice A5 S.tasks.length c5).ownBlock = some k → G5 k) := Kit.hid (fun k hk => by rw [hFe]; exact .inr (.inr (.inr (.inr (.inl hk)))))
          have hgm7 : w7.heap[gm]? = _ := (HG7.out.block gm (blk_lt HB2G.out) (fun e => HN5.out.2 (HOW.out _ e.symm))).trans HB2G.out
          have hgp7 : w7.heap[gp]? = _ := (HG7.out.block gp (blk_lt HB1G.out) (fun e => HN5.out.1 (HOW.out _ e.symm))).trans HB1G.out
          obtain ⟨A7, c7, rfl, _, _, _⟩ := hr7.reads
          have HLP7 := Kit.hid hlp7
          have HNL : Hid (∀ k, (Value.slice A7 T.length c7).ownBlock = some k → k ≠ lp) := Kit.hid (fun k hk e => by
            subst e
            rcases HO7.out with h | h
            · rw [h] at hk; exact HPT.out.2.2.2.2 hk
            · have := h _ hk; omega)
          have HB8 : Hid (Bes w F (w7.setCell ⟨lp, 2, none⟩ (.slice A7 T.length c7)) lp { S' with tasks := T } (m + 1) gp gm (.cells #[.int .i64 0, .int .i64 0, .int .i64 0, .int .i64 0] 35 (0, 0)) (.cells #[.int .i64 mm.id, .int .i64 mm.wt, .int .i64 mm.v, .int .i64 mm.rem] 35 (0, 0))) := Kit.hid (by
            refine HGS5.out _ _ _ ?_
            rw [hFe]
            refine HX5.out.setTasks (vt' := .slice A7 T.length c7) (T := T) (n' := m + 1) ?_ (blk_put HLP7.out 2 _ rfl) ?_ ?_ (Nat.le_refl _) ?_ ?_ ?_
            · intro k hk hk1 hk2
              exact (Below.heap_setCell _ _ _ _ hk1).trans (HG7.out.block k (HX5.out.lt k hk) (fun e => hk2 e.symm))
            · exact HR7.out.same fun g hg => Below.heap_setCell _ _ _ _ (HNL.out g hg)
            · intro k hk
              rcases HO7.out with h | h
              · exact .inl (by rw [← h]; exact hk)
              · exact .inr (h k hk)
            · rw [HTE.out]; exact HWL.out.tasks.filter _
            · have h1 := List.length_filter_le (fun x => decide (x ≠ id)) S.tasks
              rw [← HTE.out] at h1
              have := HTN.out
              omega
            · exact ((Kept.refl _ _).grown HG7.out fun k hk => .inl (.inr (.inr (.inr (.inr (.inl hk)))))).setCell (a := ⟨lp, 2, none⟩) (.inl (.inl rfl)) _)
          have k2 := blk_cell hlp7 2
          have kf := blk_frozen hlp7 2
          have kl := blk_lt hlp7
          have r0 := blk_cell hgm7 0
          have r1 := blk_cell hgm7 1
          have r2 := blk_cell hgm7 2
          have r3 := blk_cell hgm7 3
          have rl := blk_lt hgm7
          have y0 := blk_cell hgp7 0
          have y1 := blk_cell hgp7 1
          have y2 := blk_cell hgp7 2
          have y3 := blk_cell hgp7 3
          have f0 := blk_frozen hgp7 0
          have f1 := blk_frozen hgp7 1
          have f2 := blk_frozen hgp7 2
          have f3 := blk_frozen hgp7 3
          have yl := blk_lt hgp7
          have hne1 : gp ≠ lp := HPG.out.1
          have hne2 : gm ≠ lp := HPG.out.2
          have hne3 : lp ≠ gp := fun e => hne1 e.symm
          have hne4 : lp ≠ gm := fun e => hne2 e.symm
          have HY8 : Hid ((w7.setCell ⟨lp, 2, none⟩ (.slice A7 T.length c7)).heap[gp]? = some (.cells #[.int .i64 0, .int .i64 0, .int .i64 0, .int .i64 0] 35 (0, 0))) := Kit.hid ((Below.heap_setCell _ _ _ _ hne1).trans hgp7)
          clear hr7 hg7 ho7 hgm7 hgp7 hlp7
          go_wp2
          simp only [Exit.jump]
          exact cell_tmp_ret rfl gp _ _ _ _ rfl rfl (mem_store HY8.out) rfl ⟨by rw [HRS.out]; rfl, by rw [HRS.out, ← HST.out]; exact (HB8.out.last (set4_grown _ _ _ _ _ _)).more (by omega)⟩
    · intro HF
      go_wp2_with fail
      (with_reducible refine HTS.out.mono ?_); rintro e w2 ⟨rfl, hb2⟩
      have HB2 := Kit.hid (HB1.out.trans (hb2.mono HB1.out.size))
      have hX2 := blk_below HX1.out hb2
      have HX2 := Kit.hid hX2
      have HL2 := Kit.hid (HL1.out.below hb2)
      have HQT := Kit.hid (quit_lane id HL2.out hn0 (by omega) HIR.out.1 HIR.out.2)
      rw [← HGE.out, ← HME.out] at HQT
      unfold memV at HQT
      obtain ⟨mb, mh, mk, vt, Qp, Fq, hFe, hx2⟩ := (show LF F w2 lp S n from HL2.out)
      have x1 := blk_cell hx2.at_ 1
      have ll := blk_lt hx2.at_
      have HMH := Kit.hid hx2.home
      have HLK : Hid ((if false = true then Value.tuple #[((S.home id).map (Value.int .i64)).getD (.int .i64 0), .bool ((S.home id).map (Value.int .i64)).isSome] else ((S.home id).map (Value.int .i64)).getD (.int .i64 0)) = .int .i64 g0) := Kit.hid (by
        rw [HGE.out]
        cases S.home id <;> rfl)
      clear hb2 hX2 HTS hx2 hFe
      go_wp2_with (at_lookup; refine wpList_lookV rfl _ _ 63 false rfl 3 3 keyed Try.underlying63 _ (zero_int _) mh n (fun j => (S.home j).map (Value.int .i64)) rfl HMH.out id rfl HKEY.out _ HLK.out ?_)
      (with_reducible refine HQT.out.mono ?_); rintro e w3 ⟨rfl, hl3, _⟩
      obtain ⟨F3, h3, hF3, hK3⟩ := hl3
      have hgl2 := blk_lt HX2.out
      have hg3 : w3.heap[gp]? = w2.heap[gp]? := hK3.block gp hgl2 HNF.out
      obtain ⟨w4, hw4⟩ : ∃ w4, w4 = w3.alloc (.cells #[.int .i64 mm.id, .int .i64 mm.wt, .int .i64 mm.v, .int .i64 mm.rem] 35) := ⟨_, rfl⟩
      have hb4 : Below w3.heap.size w3 w4 := by rw [hw4]; exact (Below.refl _ _).alloc (Nat.le_refl _) _
      have hX4 : w4.heap[w3.heap.size]? = some (.cells #[.int .i64 mm.id, .int .i64 mm.wt, .int .i64 mm.v, .int .i64 mm.rem] 35 (0, 0)) := by rw [hw4]; exact blk_new _ _
      have hgp3 : gp < w3.heap.size := Nat.lt_of_lt_of_le hgl2 hK3.size
      have hlt3 := h3.lt
      have hF3w : ∀ k, F3 k → Ext F w k := fun k hk => by
        rcases hF3 k hk with e | e
        · exact .inl e
        · exact .inr (Nat.le_trans HB2.out.size e)
      have hK4 : Kept F w w4 := (((Kept.refl F w).below HB2.out).trans hK3 fun k hk => .inl hk).below hb4
      have HBS : Hid (Bes w F w4 lp (quitS S id) (n + 1) gp w3.heap.size (.cells #[.int .i64 0, .int .i64 0, .int .i64 0, .int .i64 0] 35 (0, 0)) (.cells #[.int .i64 mm.id, .int .i64 mm.wt, .int .i64 mm.v, .int .i64 mm.rem] 35 (0, 0))) :=
        Kit.hid ⟨⟨w4, F3, hF3w, hK4, (h3.below hb4).self, ⟨Nat.lt_of_lt_of_le hgp3 hb4.size, fun e => by
          rcases hF3 gp e with e | e
          · exact HNF.out e
          · omega⟩, ⟨blk_lt hX4, fun e => by have := hlt3 _ e; omega⟩, (hb4.block gp hgp3).trans (hg3.trans HX2.out), hX4⟩, ⟨Nat.le_of_eq HGP.out.symm, Nat.le_trans HB2.out.size hK3.size⟩⟩
      clear h3 hF3 hK3 hg3 hb4 hX4 hlt3 hF3w hK4 HQT x1 ll
      go_wp2
      go_step3
      rename_i K hK
      refine hK _ _ ?_
      rw [← hw4]
      exact HF.out 16 _ _ ⟨quitS S id, g0, n + 1, w3.heap.size, rfl, rfl, rfl, rfl, rfl, rfl, rfl, rfl, HBS, HWE1, HLC1, Kit.hid HRE.out.symm, Kit.hid (by omega), Kit.hid rfl⟩
  · have HR : Hid (leaveS S id = (none, 8, S)) := Kit.hid (by unfold leaveS; rw [if_neg htk])
    have HTS := Kit.hid (task_any id HL1.out (by omega) HIR.out.1 HIR.out.2)
    rw [decide_eq_false htk] at HTS
    clear htk
    refine scope_label_n 0 (fun _ _ _ => False) rfl (fun n a w h => h.elim) ?_
    intro HF
    go_wp2_with fail
    (with_reducible refine HTS.out.mono ?_); rintro e w2 ⟨rfl, hb2⟩
    have HB2 := Kit.hid (HB1.out.trans (hb2.mono HB1.out.size))
    have HX2 := Kit.hid (blk_below HX1.out hb2)
    have y0 := blk_cell HX2.out 0
    have y1 := blk_cell HX2.out 1
    have y2 := blk_cell HX2.out 2
    have y3 := blk_cell HX2.out 3
    have f0 := blk_frozen HX2.out 0
    have f1 := blk_frozen HX2.out 1
    have f2 := blk_frozen HX2.out 2
    have f3 := blk_frozen HX2.out 3
    have HD2 := Kit.hid hb2
    clear hb2 HTS
    go_wp2
    simp only [Exit.jump]
    exact cell_tmp_ret rfl gp _ _ _ _ rfl rfl (mem_store HX2.out) rfl ⟨by rw [HR.out]; rfl, by rw [HR.out]; exact ((HL1.out.below HD2.out).self.more (Nat.le_add_right _ _)).own2 (fun k hk => .inl hk) ((Kept.refl F w).below HB2.out) (Nat.le_of_eq HGP.out.symm) (blk_lt HX2.out) HNF.out (set4_grown _ _ _ _ _ _)⟩
end
end Go.Proofs.Ytpgfenelckonoaa.La
