/- The walks of the queue's Run, Weigh and New. -/
import Derived.Test.YtpgfenelckonoaaQuE
namespace Go.Proofs.Ytpgfenelckonoaa.QuM
def ranM (m : Mem) (t : Int) : Mem := { m with v := m.v + (1048576 * t + m.rem) / m.wt, rem := (1048576 * t + m.rem) % m.wt }
def firstV : List Mem → Int
  | [] => 0
  | m :: _ => m.v
/-- What Run answers, and makes. -/
def runR (L : List Mem) (base id t : Int) : Int × List Mem × Int := match get L id with
  | none => (8, L, base)
  | some m => if t < 0 ∨ 1099511627776 < t then (1, L, base) else if 2305843009213693952 < (ranM m t).v then (6, L, base) else (0, putM (ranM m t) L, max base (firstV (putM (ranM m t) L)))
def weighM (m : Mem) (u : Int) : Mem := { m with wt := u, rem := m.rem * u / m.wt }
def weighR (L : List Mem) (id u : Int) : Int × List Mem := match get L id with
  | none => (8, L)
  | some m => if ¬ (1 ≤ u ∧ u ≤ 1048576) then (1, L) else (0, putM (weighM m u) L)
end Go.Proofs.Ytpgfenelckonoaa.QuM
namespace Go.Proofs.Ytpgfenelckonoaa.Qu
open Go.RowKit Go.Proofs.Ytpgfenelckonoaa.Kit Go.Proofs.Ytpgfenelckonoaa.ShM Go.Proofs.Ytpgfenelckonoaa.Sh Go.Proofs.Ytpgfenelckonoaa.QuM
set_option linter.unusedVariables false
set_option linter.unusedSimpArgs false
section
variable {F : Nat → Prop} {w w' : World} {p n : Nat} {L : List Mem} {base : Int}
theorem QF.setBase (h : QF F w p L base n) (b : Int) : QF F (w.setCell ⟨p, 2, none⟩ (.int .i64 b)) p L b n := by
  obtain ⟨mb, g, S, hF, hp, hm, hi, hSp, hSm, hpm, hw⟩ := h
  exact ⟨mb, g, S, hF, blk_put hp 2 _ rfl, hm.same (Below.heap_setCell _ _ _ _ (fun e => hpm e.symm)), hi.kept fun k hk => Below.heap_setCell _ _ _ _ (fun e => hSp (by rw [← show k = p from e]; exact hk)), hSp, hSm, hpm, hw⟩
theorem QF.at_p (h : QF F w p L base n) : F p := by
  obtain ⟨mb, g, S, rfl, _⟩ := h
  exact .inl rfl
theorem Qu.setBase {wc : World} (h : Qu wc F w p L base n) (hF : F p) (b : Int) : Qu wc F (w.setCell ⟨p, 2, none⟩ (.int .i64 b)) p L b n := by
  obtain ⟨G, g1, g2, g3⟩ := h
  exact ⟨G, g1.setBase b, g2, g3.setCell (a := ⟨p, 2, none⟩) (.inl hF) _⟩
theorem ins_ne (m : Mem) (L : List Mem) : ∃ z K, insM m L = z :: K := by
  cases L with
  | nil => exact ⟨m, [], rfl⟩
  | cons y L =>
    unfold insM
    split
    · exact ⟨_, _, rfl⟩
    · exact ⟨_, _, rfl⟩
theorem put_ne (m : Mem) (L : List Mem) : ∃ z K, putM m L = z :: K := ins_ne m _
set_option maxRecDepth 40000 in
set_option maxHeartbeats 3200000 in
theorem qrun_any (id t : Int) (h : QF F w p L base n) (hq : QB L base) (hn : n ≤ 4000) (hi1 : -9223372036854775808 ≤ id) (hi2 : id ≤ 9223372036854775807) :
    Calls Try.prog 39 #[.pointer (some ⟨p, 0, none⟩), .int .i64 id, .int .i64 t] w fun e w' => e = .returned (.int .i64 (runR L base id t).1) ∧ Qu w F w' p (runR L base id t).2.1 (runR L base id t).2.2 (n + 1) := by
  have HQ := Kit.hid h
  obtain ⟨mb, g, S, hF, hp, hm, hi, hSp, hSm, hpm, hw⟩ := h
  have hml := hm.lt
  have hpl := blk_lt hp
  have HKEY : Hid (keyOf Try.prog 3 (.int .i64 id) = some (.int .i64 id)) := Kit.hid (int_key Try.underlying3 hi1 hi2)
  have HM := Kit.hid hm
  have hp0 := blk_cell hp 0
  have HE : Hid (∀ o, Below w.heap.size w (w.alloc o)) := Kit.hid (fun o => (Below.refl _ _).alloc (Nat.le_refl _) _)
  clear hF hp hm hi hSp hSm hpm hw hml hi1 hi2
  go_enter Try.func39, Try.ntmps39
  cases hget : get L id with
  | none =>
    have HLK : Hid ((if true = true then Value.tuple #[(fmap L id).getD (.agg #[.int .i64 0, .int .i64 0, .int .i64 0]), .bool (fmap L id).isSome] else (fmap L id).getD (.agg #[.int .i64 0, .int .i64 0, .int .i64 0])) = .tuple #[.agg #[.int .i64 0, .int .i64 0, .int .i64 0], .bool false]) := Kit.hid (by simp [fmap, hget])
    have HR : Hid (runR L base id t = (8, L, base)) := Kit.hid (by unfold runR; rw [hget])
    clear hget
    go_wp2_with (at_lookup; refine wpList_lookV rfl _ _ 101 true rfl 3 99 keyed Try.underlying101 _ (zero_mem _) mb n (fmap L) rfl HM.out id rfl HKEY.out _ HLK.out ?_)
    go_ret
    rw [HR.out]
    exact ⟨rfl, (HQ.out.self_below (HE.out _)).more (Nat.le_succ _)⟩
  | some y =>
    have HLK : Hid ((if true = true then Value.tuple #[(fmap L id).getD (.agg #[.int .i64 0, .int .i64 0, .int .i64 0]), .bool (fmap L id).isSome] else (fmap L id).getD (.agg #[.int .i64 0, .int .i64 0, .int .i64 0])) = .tuple #[.agg #[.int .i64 y.wt, .int .i64 y.v, .int .i64 y.rem], .bool true]) := Kit.hid (by simp [fmap, hget, mv])
    obtain ⟨hyL, hyid⟩ := get_mem hget
    subst hyid
    obtain ⟨b1, b2, b3, b4, b5, b6, b7, b8⟩ := hq.each y hyL
    by_cases a1 : t < 0
    · have HR : Hid (runR L base y.id t = (1, L, base)) := Kit.hid (by unfold runR; rw [hget]; exact if_pos (.inl a1))
      have g1 : decide (t < 0) = true := decide_eq_true a1
      clear hget hyL
      go_wp2_with (at_lookup; refine wpList_lookV rfl _ _ 101 true rfl 3 99 keyed Try.underlying101 _ (zero_mem _) mb n (fmap L) rfl HM.out y.id rfl HKEY.out _ HLK.out ?_)
      go_ret
      rw [HR.out]
      exact ⟨rfl, (HQ.out.self_below (HE.out _)).more (Nat.le_succ _)⟩
    by_cases a2 : 1099511627776 < t
    · have HR : Hid (runR L base y.id t = (1, L, base)) := Kit.hid (by unfold runR; rw [hget]; exact if_pos (.inr a2))
      have g1 : decide (t < 0) = false := decide_eq_false a1
      have g2 : decide (1099511627776 < t) = true := decide_eq_true a2
      clear hget hyL
      go_wp2_with (at_lookup; refine wpList_lookV rfl _ _ 101 true rfl 3 99 keyed Try.underlying101 _ (zero_mem _) mb n (fmap L) rfl HM.out y.id rfl HKEY.out _ HLK.out ?_)
      go_ret
      rw [HR.out]
      exact ⟨rfl, (HQ.out.self_below (HE.out _)).more (Nat.le_succ _)⟩
    have g1 : decide (t < 0) = false := decide_eq_false a1
    have g2 : decide (1099511627776 < t) = false := decide_eq_false a2
    obtain ⟨nv, hnv⟩ : ∃ nv, nv = y.v + (1048576 * t + y.rem) / y.wt := ⟨_, rfl⟩
    obtain ⟨nr, hnr⟩ : ∃ nr, nr = (1048576 * t + y.rem) % y.wt := ⟨_, rfl⟩
    have hbase := hq.b0
    have HRN : Hid (∀ w', Calls Try.prog 57 #[.agg #[.int .i64 y.v, .int .i64 y.rem], .int .i64 y.wt, .int .i64 t] w' fun e w'' => e = .returned (.agg #[.int .i64 nv, .int .i64 nr]) ∧ Below w'.heap.size w' w'') := Kit.hid (fun w' => by rw [hnv, hnr]; exact run_any y.v y.rem y.wt t w' b3 b4 (by omega) (by omega) (by omega) b8 b5 b6)
    have HZ : Hid (ranM y t = { y with v := nv, rem := nr }) := Kit.hid (by rw [hnv, hnr]; rfl)
    have HGE : Hid (y.v ≤ nv) := Kit.hid (by
      have : 0 ≤ (1048576 * t + y.rem) / y.wt := Int.ediv_nonneg (by omega) (by omega)
      omega)
    have HGT : Hid (get L y.id = some y) := Kit.hid hget
    have HK1 : Hid ((w.alloc (.cells #[.int .i64 y.wt, .int .i64 y.v, .int .i64 y.rem] 99)).heap[w.heap.size]? = some (.cells #[.int .i64 y.wt, .int .i64 y.v, .int .i64 y.rem] 99 (0, 0))) := Kit.hid (blk_new _ _)
    have HN1 : Hid (∀ t', t' < 0 ∨ 1099511627776 < t' → t' = t → False) := Kit.hid (fun t' h e => by subst e; exact h.elim a1 a2)
    have HB2 : Hid (1 ≤ y.id ∧ y.id ≤ 1048576) := Kit.hid ⟨b1, b2⟩
    have HLB : Hid (∀ z ∈ L, base ≤ z.v) := Kit.hid (fun z hz => (hq.each z hz).2.2.2.2.2.2.1)
    have hbv : base ≤ nv := by have := HGE.out; omega
    clear hget hyL a1 a2 hnv hnr hq b1 b2 b3 b4 b5 b6 b7 b8
    go_wp2_with (at_lookup; refine wpList_lookV rfl _ _ 101 true rfl 3 99 keyed Try.underlying101 _ (zero_mem _) mb n (fmap L) rfl HM.out y.id rfl HKEY.out _ HLK.out ?_)
    (with_reducible refine (HRN.out _).mono ?_); rintro e w2 ⟨rfl, hd2⟩
    have hk2 := blk_below HK1.out hd2
    have f1 := blk_frozen hk2 1
    have f2 := blk_frozen hk2 2
    have y0 := blk_cell hk2 0
    have y1 := blk_cell hk2 1
    have y2 := blk_cell hk2 2
    have ly := blk_lt hk2
    have HK2 := Kit.hid hk2
    have HBW := Kit.hid ((HE.out _).trans (hd2.mono (HE.out _).size))
    clear hk2 hd2
    have HBC : Hid (Below w.heap.size w ((w2.setCell ⟨w.heap.size, 1, none⟩ (.int .i64 nv)).setCell ⟨w.heap.size, 2, none⟩ (.int .i64 nr))) := Kit.hid ((HBW.out.setCell (p := ⟨w.heap.size, 1, none⟩) (Nat.le_refl _) _).setCell (p := ⟨w.heap.size, 2, none⟩) (Nat.le_refl _) _)
    by_cases a3 : 2305843009213693952 < nv
    · have HR : Hid (runR L base y.id t = (6, L, base)) := Kit.hid (by unfold runR; rw [HGT.out]; dsimp only; rw [if_neg (fun h => HN1.out t h rfl), HZ.out]; exact if_pos a3)
      have g3 : decide (2305843009213693952 < nv) = true := decide_eq_true a3
      clear a3
      go_wp2
      go_ret
      rw [HR.out]
      exact ⟨rfl, (HQ.out.self_below HBC.out).more (Nat.le_succ _)⟩
    have g3 : decide (2305843009213693952 < nv) = false := decide_eq_false a3
    obtain ⟨z, K, hzK⟩ := put_ne { y with v := nv, rem := nr } L
    have hzv : base ≤ z.v := by
      have hz : z ∈ putM { y with v := nv, rem := nr } L := by rw [hzK]; simp
      rcases put_mem.1 hz with e | ⟨h, _⟩
      · rw [e]; exact hbv
      · exact HLB.out z h
    have HR : Hid (runR L base y.id t = (0, putM { y with v := nv, rem := nr } L, z.v)) := Kit.hid (by
      unfold runR
      rw [HGT.out]; dsimp only
      rw [if_neg (fun h => HN1.out t h rfl), HZ.out, if_neg a3, hzK]
      show (0, z :: K, max base z.v) = _
      rw [Int.max_eq_right hzv])
    have HPT : Hid (∀ w', QF F w' p L base n → Calls Try.prog 59 #[.pointer (some ⟨p, 0, none⟩), .int .i64 y.id, .agg #[.int .i64 y.wt, .int .i64 nv, .int .i64 nr]] w' fun e w'' => e = .returned (.tuple #[]) ∧ Qu w' F w'' p (putM { y with v := nv, rem := nr } L) base (n + 1)) := Kit.hid (fun w' h => by
      exact put_any { y with v := nv, rem := nr } h HB2.out.1 HB2.out.2 (by omega))
    have HZK := Kit.hid hzK
    have HFP := Kit.hid HQ.out.at_p
    clear a3 hzK hbv
    go_wp2_with fail
    (with_reducible refine (HPT.out _ (HQ.out.below HBC.out)).mono ?_); rintro e w4 ⟨rfl, hq4⟩
    have HQ4 := Kit.hid (QF.lift (F := F) HBC.out hq4)
    clear hq4 f1 f2 y0 y1 y2 ly hp0
    obtain ⟨G, hG, hG2, hG3⟩ := HQ4.out
    obtain ⟨mb4, g4, S4, _, hp4, _, hi4, _⟩ := hG
    have p1 := blk_cell hp4 1
    have p2 := blk_cell hp4 2
    have f2 := blk_frozen hp4 2
    have lp := blk_lt hp4
    have HAT : Hid (Calls Try.prog 60 #[.pointer (some ⟨g4, 0, none⟩), .int .i64 0] w4 (AtPost w4 z.it true)) := Kit.hid (items_at 0 z.it hi4.items (by omega) (by rw [HZK.out]; rfl))
    unfold AtPost Mem.it at HAT
    have HP4 := Kit.hid hp4
    clear hG2 hG3 hp4 hi4
    go_wp2_with fail
    (with_reducible refine HAT.out.mono ?_); rintro e w5 ⟨rfl, hd5⟩
    have HQ5 := Kit.hid ((HQ4.out.below hd5).below ((Below.refl _ _).alloc (Nat.le_refl _) (.cells #[.int .i64 z.v, .int .i64 z.id] 107)))
    have HP5 := Kit.hid (blk_alloc (blk_below HP4.out hd5) (.cells #[.int .i64 z.v, .int .i64 z.id] 107))
    have HX5 : Hid ((w5.alloc (.cells #[.int .i64 z.v, .int .i64 z.id] 107)).heap[w5.heap.size]? = some (.cells #[.int .i64 z.v, .int .i64 z.id] 107 (0, 0))) := Kit.hid (blk_new _ _)
    have hp5 := blk_below HP4.out hd5
    clear p1 p2 f2 lp hd5
    have p1 := blk_cell hp5 1
    have p2 := blk_cell hp5 2
    have f2 := blk_frozen hp5 2
    have lp := blk_lt hp5
    clear hp5
    clear p1 p2 f2 lp
    go_wp2
    generalize w5.alloc (.cells #[.int .i64 z.v, .int .i64 z.id] 107) = W6 at HQ5 HP5 HX5 ⊢
    have p1 := blk_cell HP5.out 1
    have p2 := blk_cell HP5.out 2
    have f2 := blk_frozen HP5.out 2
    have lp := blk_lt HP5.out
    by_cases e4 : base = z.v
    · subst e4
      have HS6 : Hid (∀ w' : World, (w'.heap[p]? = W6.heap[p]? ∧ w'.heap[w5.heap.size]? = W6.heap[w5.heap.size]?) → w'.cell? ⟨p, 2, none⟩ = some (.int .i64 z.v) ∧ w'.cell? ⟨w5.heap.size, 0, none⟩ = some (.int .i64 z.v)) := Kit.hid (fun w' h => ⟨blk_cell (h.1.trans HP5.out) 2, blk_cell (h.2.trans HX5.out) 0⟩)
      refine wp_region_noPanic ?_
      refine wp_region_T (fun (w' : World) => w'.heap[p]? = W6.heap[p]? ∧ w'.heap[w5.heap.size]? = W6.heap[w5.heap.size]?) 10 (by kernel_rfl) ⟨rfl, rfl⟩ (fun hHeld => ?_)
      refine wpAnyT_take (i := 0) (hi := by simp only [List.getElem?_toArray, List.getElem?_cons_succ, List.getElem?_cons_zero]; rfl) (v := ?_) (by kernel_rfl) (by kernel_rfl) (by kernel_rfl) (by kernel_rfl) (fun _ _ _ h => h) (Or.inl ⟨by rfl, ?_⟩) (by assumption) ?_
      rotate_left
      · (intro w hSw; (try dsimp only at hSw); go_simp; first | done | with_reducible rfl)
      try simp only [Act.put, List.setIfInBounds_toArray, List.set_cons_zero, List.set_cons_succ]
      refine wpAnyT_take (i := 1) (hi := by simp only [List.getElem?_toArray, List.getElem?_cons_succ, List.getElem?_cons_zero]; rfl) (v := ?_) (by kernel_rfl) (by kernel_rfl) (by kernel_rfl) (by kernel_rfl) (fun _ _ _ h => h) (Or.inl ⟨by rfl, ?_⟩) (by assumption) ?_
      rotate_left
      · (intro w hSw; (try dsimp only at hSw); go_simp; first | done | with_reducible rfl)
      try simp only [Act.put, List.setIfInBounds_toArray, List.set_cons_zero, List.set_cons_succ]
      refine wpAnyT_take (i := 2) (hi := by simp only [List.getElem?_toArray, List.getElem?_cons_succ, List.getElem?_cons_zero]; rfl) (v := ?_) (by kernel_rfl) (by kernel_rfl) (by kernel_rfl) (by kernel_rfl) (fun _ _ _ h => h) (Or.inl ⟨by rfl, ?_⟩) (by assumption) ?_
      rotate_left
      · (intro w hSw; (try dsimp only at hSw); (obtain ⟨x0, x1⟩ := HS6.out _ hSw); go_simp; first | done | with_reducible rfl)
      try simp only [Act.put, List.setIfInBounds_toArray, List.set_cons_zero, List.set_cons_succ]
      refine wpAnyT_take (i := 3) (hi := by simp only [List.getElem?_toArray, List.getElem?_cons_succ, List.getElem?_cons_zero]; rfl) (v := ?_) (by kernel_rfl) (by kernel_rfl) (by kernel_rfl) (by kernel_rfl) (fun _ _ _ h => h) (Or.inl ⟨by rfl, ?_⟩) (by assumption) ?_
      rotate_left
      · (intro w hSw; (try dsimp only at hSw); go_simp; first | done | with_reducible rfl)
      try simp only [Act.put, List.setIfInBounds_toArray, List.set_cons_zero, List.set_cons_succ]
      refine wpAnyT_take (i := 4) (hi := by simp only [List.getElem?_toArray, List.getElem?_cons_succ, List.getElem?_cons_zero]; rfl) (v := ?_) (by kernel_rfl) (by kernel_rfl) (by kernel_rfl) (by kernel_rfl) (fun _ _ _ h => h) (Or.inl ⟨by rfl, ?_⟩) (by assumption) ?_
      rotate_left
      · (intro w hSw; (try dsimp only at hSw); (obtain ⟨x0, x1⟩ := HS6.out _ hSw); go_simp; first | done | with_reducible rfl)
      try simp only [Act.put, List.setIfInBounds_toArray, List.set_cons_zero, List.set_cons_succ]
      refine wpAnyT_take (i := 5) (hi := by simp only [List.getElem?_toArray, List.getElem?_cons_succ, List.getElem?_cons_zero]; rfl) (v := ?_) (by kernel_rfl) (by kernel_rfl) (by kernel_rfl) (by kernel_rfl) (fun _ _ _ h => h) (Or.inl ⟨by rfl, ?_⟩) (by assumption) ?_
      rotate_left
      · (intro w hSw; (try dsimp only at hSw); go_simp; first | done | with_reducible rfl)
      try simp only [Act.put, List.setIfInBounds_toArray, List.set_cons_zero, List.set_cons_succ]
      refine wpAnyT_take (i := 6) (hi := by simp only [List.getElem?_toArray, List.getElem?_cons_succ, List.getElem?_cons_zero]; rfl) (v := ?_) (by kernel_rfl) (by kernel_rfl) (by kernel_rfl) (by kernel_rfl) (fun _ _ _ h => h) (Or.inl ⟨by rfl, ?_⟩) (by assumption) ?_
      rotate_left
      · (intro w hSw; (try dsimp only at hSw); (obtain ⟨x0, x1⟩ := HS6.out _ hSw); go_simp; first | done | with_reducible rfl)
      try simp only [Act.put, List.setIfInBounds_toArray, List.set_cons_zero, List.set_cons_succ]
      refine wpAnyT_take (i := 7) (hi := by simp only [List.getElem?_toArray, List.getElem?_cons_succ, List.getElem?_cons_zero]; rfl) (v := ?_) (by kernel_rfl) (by kernel_rfl) (by kernel_rfl) (by kernel_rfl) (fun _ _ _ h => h) (Or.inl ⟨by rfl, ?_⟩) (by assumption) ?_
      rotate_left
      · (intro w hSw; (try dsimp only at hSw); go_simp; first | done | with_reducible rfl)
      try simp only [Act.put, List.setIfInBounds_toArray, List.set_cons_zero, List.set_cons_succ]
      refine wpAnyT_step (i := 8) (by kernel_rfl) (ho := by simp only [List.getElem?_toArray, List.getElem?_cons_succ, List.getElem?_cons_zero]; rfl) (fun K hK => ?_)
      go_simp
      refine hK.out _ _ ?_ (fun hHeldN => ?_)
      · exact hHeld
      clear hHeld
      have hHeld := hHeldN
      clear hHeldN
      clear hK K
      try simp only [Act.put, List.setIfInBounds_toArray, List.set_cons_zero, List.set_cons_succ]
      refine wpAnyT_take (i := 9) (hi := by simp only [List.getElem?_toArray, List.getElem?_cons_succ, List.getElem?_cons_zero]; rfl) (v := ?_) (by kernel_rfl) (by kernel_rfl) (by kernel_rfl) (by kernel_rfl) (fun _ _ _ h => h) (Or.inl ⟨by rfl, ?_⟩) (by assumption) ?_
      rotate_left
      · (intro w hSw; (try dsimp only at hSw); go_simp; first | done | with_reducible rfl)
      try simp only [Act.put, List.setIfInBounds_toArray, List.set_cons_zero, List.set_cons_succ]
      refine wpAnyT_last (by kernel_rfl) (ho := by simp only [List.getElem?_toArray, List.getElem?_cons_succ, List.getElem?_cons_zero]; rfl) (fun K hK => ?_)
      go_simp
      go_wp2_with fail
      refine hK.out _ _ ?_
      clear hK K
      try simp only [Act.put, List.setIfInBounds_toArray, List.set_cons_zero, List.set_cons_succ]
      clear hHeld
      refine wpAnyT_done (by kernel_rfl) ?_ _
      refine NoPanic.normal ?_
      skip
      go_wp2
      go_ret
      rw [HR.out]
      exact ⟨rfl, (HQ5.out.setBase HFP.out z.v).below (Below.refl _ _).drew⟩
    · have g4 : base < z.v := by omega
      have g5 : ¬ z.v < base := by omega
      have g6 : base ≤ z.v := hzv
      have g7 : ¬ z.v ≤ base := by omega
      have HS6 : Hid (∀ w' : World, (w'.heap[p]? = W6.heap[p]? ∧ w'.heap[w5.heap.size]? = W6.heap[w5.heap.size]?) → w'.cell? ⟨p, 2, none⟩ = some (.int .i64 base) ∧ w'.cell? ⟨w5.heap.size, 0, none⟩ = some (.int .i64 z.v)) := Kit.hid (fun w' h => ⟨blk_cell (h.1.trans HP5.out) 2, blk_cell (h.2.trans HX5.out) 0⟩)
      refine wp_region_noPanic ?_
      refine wp_region_T (fun (w' : World) => w'.heap[p]? = W6.heap[p]? ∧ w'.heap[w5.heap.size]? = W6.heap[w5.heap.size]?) 10 (by kernel_rfl) ⟨rfl, rfl⟩ (fun hHeld => ?_)
      refine wpAnyT_take (i := 0) (hi := by simp only [List.getElem?_toArray, List.getElem?_cons_succ, List.getElem?_cons_zero]; rfl) (v := ?_) (by kernel_rfl) (by kernel_rfl) (by kernel_rfl) (by kernel_rfl) (fun _ _ _ h => h) (Or.inl ⟨by rfl, ?_⟩) (by assumption) ?_
      rotate_left
      · (intro w hSw; (try dsimp only at hSw); go_simp; first | done | with_reducible rfl)
      try simp only [Act.put, List.setIfInBounds_toArray, List.set_cons_zero, List.set_cons_succ]
      refine wpAnyT_take (i := 1) (hi := by simp only [List.getElem?_toArray, List.getElem?_cons_succ, List.getElem?_cons_zero]; rfl) (v := ?_) (by kernel_rfl) (by kernel_rfl) (by kernel_rfl) (by kernel_rfl) (fun _ _ _ h => h) (Or.inl ⟨by rfl, ?_⟩) (by assumption) ?_
      rotate_left
      · (intro w hSw; (try dsimp only at hSw); go_simp; first | done | with_reducible rfl)
      try simp only [Act.put, List.setIfInBounds_toArray, List.set_cons_zero, List.set_cons_succ]
      refine wpAnyT_take (i := 2) (hi := by simp only [List.getElem?_toArray, List.getElem?_cons_succ, List.getElem?_cons_zero]; rfl) (v := ?_) (by kernel_rfl) (by kernel_rfl) (by kernel_rfl) (by kernel_rfl) (fun _ _ _ h => h) (Or.inl ⟨by rfl, ?_⟩) (by assumption) ?_
      rotate_left
      · (intro w hSw; (try dsimp only at hSw); (obtain ⟨x0, x1⟩ := HS6.out _ hSw); go_simp; first | done | with_reducible rfl)
      try simp only [Act.put, List.setIfInBounds_toArray, List.set_cons_zero, List.set_cons_succ]
      refine wpAnyT_take (i := 3) (hi := by simp only [List.getElem?_toArray, List.getElem?_cons_succ, List.getElem?_cons_zero]; rfl) (v := ?_) (by kernel_rfl) (by kernel_rfl) (by kernel_rfl) (by kernel_rfl) (fun _ _ _ h => h) (Or.inl ⟨by rfl, ?_⟩) (by assumption) ?_
      rotate_left
      · (intro w hSw; (try dsimp only at hSw); go_simp; first | done | with_reducible rfl)
      try simp only [Act.put, List.setIfInBounds_toArray, List.set_cons_zero, List.set_cons_succ]
      refine wpAnyT_take (i := 4) (hi := by simp only [List.getElem?_toArray, List.getElem?_cons_succ, List.getElem?_cons_zero]; rfl) (v := ?_) (by kernel_rfl) (by kernel_rfl) (by kernel_rfl) (by kernel_rfl) (fun _ _ _ h => h) (Or.inl ⟨by rfl, ?_⟩) (by assumption) ?_
      rotate_left
      · (intro w hSw; (try dsimp only at hSw); (obtain ⟨x0, x1⟩ := HS6.out _ hSw); go_simp; first | done | with_reducible rfl)
      try simp only [Act.put, List.setIfInBounds_toArray, List.set_cons_zero, List.set_cons_succ]
      refine wpAnyT_take (i := 5) (hi := by simp only [List.getElem?_toArray, List.getElem?_cons_succ, List.getElem?_cons_zero]; rfl) (v := ?_) (by kernel_rfl) (by kernel_rfl) (by kernel_rfl) (by kernel_rfl) (fun _ _ _ h => h) (Or.inl ⟨by rfl, ?_⟩) (by assumption) ?_
      rotate_left
      · (intro w hSw; (try dsimp only at hSw); go_simp; first | done | with_reducible rfl)
      try simp only [Act.put, List.setIfInBounds_toArray, List.set_cons_zero, List.set_cons_succ]
      refine wpAnyT_take (i := 6) (hi := by simp only [List.getElem?_toArray, List.getElem?_cons_succ, List.getElem?_cons_zero]; rfl) (v := ?_) (by kernel_rfl) (by kernel_rfl) (by kernel_rfl) (by kernel_rfl) (fun _ _ _ h => h) (Or.inl ⟨by rfl, ?_⟩) (by assumption) ?_
      rotate_left
      · (intro w hSw; (try dsimp only at hSw); (obtain ⟨x0, x1⟩ := HS6.out _ hSw); go_simp; first | done | with_reducible rfl)
      try simp only [Act.put, List.setIfInBounds_toArray, List.set_cons_zero, List.set_cons_succ]
      refine wpAnyT_take (i := 7) (hi := by simp only [List.getElem?_toArray, List.getElem?_cons_succ, List.getElem?_cons_zero]; rfl) (v := ?_) (by kernel_rfl) (by kernel_rfl) (by kernel_rfl) (by kernel_rfl) (fun _ _ _ h => h) (Or.inl ⟨by rfl, ?_⟩) (by assumption) ?_
      rotate_left
      · (intro w hSw; (try dsimp only at hSw); go_simp; first | done | with_reducible rfl)
      try simp only [Act.put, List.setIfInBounds_toArray, List.set_cons_zero, List.set_cons_succ]
      refine wpAnyT_step (i := 8) (by kernel_rfl) (ho := by simp only [List.getElem?_toArray, List.getElem?_cons_succ, List.getElem?_cons_zero]; rfl) (fun K hK => ?_)
      go_simp
      refine hK.out _ _ ?_ (fun hHeldN => ?_)
      · exact hHeld
      clear hHeld
      have hHeld := hHeldN
      clear hHeldN
      clear hK K
      try simp only [Act.put, List.setIfInBounds_toArray, List.set_cons_zero, List.set_cons_succ]
      refine wpAnyT_take (i := 9) (hi := by simp only [List.getElem?_toArray, List.getElem?_cons_succ, List.getElem?_cons_zero]; rfl) (v := ?_) (by kernel_rfl) (by kernel_rfl) (by kernel_rfl) (by kernel_rfl) (fun _ _ _ h => h) (Or.inl ⟨by rfl, ?_⟩) (by assumption) ?_
      rotate_left
      · (intro w hSw; (try dsimp only at hSw); go_simp; first | done | with_reducible rfl)
      try simp only [Act.put, List.setIfInBounds_toArray, List.set_cons_zero, List.set_cons_succ]
      refine wpAnyT_last (by kernel_rfl) (ho := by simp only [List.getElem?_toArray, List.getElem?_cons_succ, List.getElem?_cons_zero]; rfl) (fun K hK => ?_)
      go_simp
      go_wp2_with fail
      refine hK.out _ _ ?_
      clear hK K
      try simp only [Act.put, List.setIfInBounds_toArray, List.set_cons_zero, List.set_cons_succ]
      clear hHeld
      refine wpAnyT_done (by kernel_rfl) ?_ _
      refine NoPanic.normal ?_
      skip
      go_wp2
      go_ret
      rw [HR.out]
      exact ⟨rfl, (HQ5.out.setBase HFP.out z.v).below (Below.refl _ _).drew⟩
end
end Go.Proofs.Ytpgfenelckonoaa.Qu
