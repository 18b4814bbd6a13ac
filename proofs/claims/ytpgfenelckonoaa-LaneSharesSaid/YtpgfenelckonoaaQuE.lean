/- The walk of the queue's Join. -/
import Derived.Test.YtpgfenelckonoaaQuD
import Derived.Test.YtpgfenelckonoaaQuP
namespace Go.Proofs.Ytpgfenelckonoaa.QuM
/-- What Join answers, and what it makes of the members: m.v is the lag. -/
def joinC (m : Mem) (L : List Mem) (base : Int) : Int :=
  if m.id < 1 ∨ 1048576 < m.id ∨ ¬ (1 ≤ m.wt ∧ m.wt ≤ 1048576) ∨ ¬ (0 ≤ m.v ∧ m.v ≤ 2305843009213693952 ∧ 0 ≤ m.rem ∧ m.rem < m.wt) then 1
  else if (get L m.id).isSome = true then 9 else if 2305843009213693952 - base < m.v then 6 else 0
def joinL (m : Mem) (L : List Mem) (base : Int) : List Mem := if joinC m L base = 0 then putM { m with v := base + m.v } L else L
end Go.Proofs.Ytpgfenelckonoaa.QuM
namespace Go.Proofs.Ytpgfenelckonoaa.Qu
open Go.RowKit Go.Proofs.Ytpgfenelckonoaa.Kit Go.Proofs.Ytpgfenelckonoaa.ShM Go.Proofs.Ytpgfenelckonoaa.Sh Go.Proofs.Ytpgfenelckonoaa.QuM
set_option linter.unusedVariables false
set_option linter.unusedSimpArgs false
section
variable {F : Nat → Prop} {w w' : World} {p n : Nat} {L : List Mem} {base : Int}
theorem QF.self_below (h : QF F w p L base n) (hb : Below w.heap.size w w') : Qu w F w' p L base n := h.self.below hb
theorem QF.lift {wc : World} {L' : List Mem} {base' : Int} {n' : Nat} (hb : Below w.heap.size w wc) (g : Qu wc F w' p L' base' n') : Qu w F w' p L' base' n' :=
  g.trans (F0 := F) (w0 := w) (F := F) (fun k hk => .inl hk) ((Kept.refl F w).below hb)
theorem Qu.blk (h : Qu w F w' p L base n) : w'.cell? ⟨p, 2, none⟩ = some (.int .i64 base) ∧ p < w'.heap.size := by
  obtain ⟨G, g1, _⟩ := h
  obtain ⟨mb, g, hp⟩ := g1.blk
  exact ⟨blk_cell hp 2, blk_lt hp⟩
set_option maxRecDepth 40000 in
set_option maxHeartbeats 3200000 in
theorem join_any (m : Mem) (h : QF F w p L base n) (hq : QB L base) (hn : n ≤ 4000) (hi1 : -9223372036854775808 ≤ m.id) (hi2 : m.id ≤ 9223372036854775807) :
    Calls Try.prog 48 #[.pointer (some ⟨p, 0, none⟩), .agg #[.int .i64 m.id, .int .i64 m.wt, .int .i64 m.v, .int .i64 m.rem]] w fun e w' => e = .returned (.int .i64 (joinC m L base)) ∧ Qu w F w' p (joinL m L base) base (n + 1) := by
  have HQ := Kit.hid h
  have HQB := Kit.hid hq
  obtain ⟨mb, g, S, hF, hp, hm, hi, hSp, hSm, hpm, hw⟩ := h
  have hml := hm.lt
  have hpl := blk_lt hp
  have HKEY : Hid (keyOf Try.prog 3 (.int .i64 m.id) = some (.int .i64 m.id)) := Kit.hid (int_key Try.underlying3 hi1 hi2)
  have HFT := Kit.hid (fun (w' : World) => fits_any m.wt w')
  have HLM := Kit.hid hml
  have HP := Kit.hid hp
  have HM := Kit.hid hm
  have hb0 := hq.b0
  have hb1 := hq.b1
  have HX0 : Hid ((w.alloc (.cells #[.int .i64 m.id, .int .i64 m.wt, .int .i64 m.v, .int .i64 m.rem] 35)).heap[w.heap.size]? = some (.cells #[.int .i64 m.id, .int .i64 m.wt, .int .i64 m.v, .int .i64 m.rem] 35 (0, 0))) := Kit.hid (blk_new _ _)
  have HB0 : Hid (Below w.heap.size w (w.alloc (.cells #[.int .i64 m.id, .int .i64 m.wt, .int .i64 m.v, .int .i64 m.rem] 35))) := Kit.hid ((Below.refl _ _).alloc (Nat.le_refl _) _)
  clear hF hp hm hi hSp hSm hpm hw hml hi1 hi2 hq
  go_enter Try.func48, Try.ntmps48
  go_wp2_with fail
  generalize w.alloc (.cells #[.int .i64 m.id, .int .i64 m.wt, .int .i64 m.v, .int .i64 m.rem] 35) = wb at HX0 HB0 ⊢
  have hlb := HB0.out.size
  have HPB := Kit.hid ((HB0.out.block p hpl).trans HP.out)
  have HMB := Kit.hid (HM.out.same (HB0.out.block mb HLM.out))
  have HKA : Hid (∀ o, ((wb.alloc o).drew).heap[p]? = wb.heap[p]? ∧ ((wb.alloc o).drew).heap[w.heap.size]? = wb.heap[w.heap.size]? ∧ ((wb.alloc o).drew).heap[mb]? = wb.heap[mb]?) := Kit.hid (fun o => ⟨Below.heap_alloc _ _ _ (by show p < wb.heap.size; omega), Below.heap_alloc _ _ _ (blk_lt HX0.out), Below.heap_alloc _ _ _ (by have := HLM.out; show mb < wb.heap.size; omega)⟩)
  cases hget : get L m.id with
  | none =>
    have HS1 : Hid (∀ w' : World, (w'.heap[p]? = wb.heap[p]? ∧ w'.heap[w.heap.size]? = wb.heap[w.heap.size]? ∧ w'.heap[mb]? = wb.heap[mb]?) → w'.cell? ⟨p, 0, none⟩ = some (.map (some mb)) ∧ w'.cell? ⟨w.heap.size, 0, none⟩ = some (.int .i64 m.id) ∧ (Instr.lookup 101 (.map (some mb)) (.int .i64 m.id) true).run Try.prog w' = .ok (.tuple #[.agg #[.int .i64 0, .int .i64 0, .int .i64 0], .bool false]) w') := Kit.hid (fun w' h => by
      have hl := (HMB.out.same h.2.2).look true keyed Try.underlying101 (zero_mem w') HKEY.out
      refine ⟨blk_cell (h.1.trans HPB.out) 0, blk_cell (h.2.1.trans HX0.out) 0, ?_⟩
      rw [hl]
      simp [fmap, hget])
    have HGN : Hid (get L m.id = none) := Kit.hid hget
    clear hget
    refine wp_region_noPanic ?_
    refine wp_region_held_drew (S := fun (w' : World) => w'.heap[p]? = wb.heap[p]? ∧ w'.heap[w.heap.size]? = wb.heap[w.heap.size]? ∧ w'.heap[mb]? = wb.heap[mb]?) (by kernel_rfl) ⟨rfl, rfl, rfl⟩ (fun hHeld => ?_)
    refine wpAnyH_take (i := 0) (hi := by simp only [List.getElem?_toArray, List.getElem?_cons_succ, List.getElem?_cons_zero]; rfl) (v := ?_) (by kernel_rfl) (by kernel_rfl) (by kernel_rfl) (fun _ _ _ h => h) (Or.inl ⟨by rfl, ?_⟩) (by assumption) ?_
    rotate_left
    · (intro w hSw; (try dsimp only at hSw); go_simp; first | done | with_reducible rfl)
    try simp only [Act.put, List.setIfInBounds_toArray, List.set_cons_zero, List.set_cons_succ]
    refine wpAnyH_take (i := 1) (hi := by simp only [List.getElem?_toArray, List.getElem?_cons_succ, List.getElem?_cons_zero]; rfl) (v := ?_) (by kernel_rfl) (by kernel_rfl) (by kernel_rfl) (fun _ _ _ h => h) (Or.inl ⟨by rfl, ?_⟩) (by assumption) ?_
    rotate_left
    · (intro w hSw; (try dsimp only at hSw); (obtain ⟨x0, x1, x2⟩ := HS1.out _ hSw); go_simp; first | done | with_reducible rfl)
    try simp only [Act.put, List.setIfInBounds_toArray, List.set_cons_zero, List.set_cons_succ]
    refine wpAnyH_take (i := 2) (hi := by simp only [List.getElem?_toArray, List.getElem?_cons_succ, List.getElem?_cons_zero]; rfl) (v := ?_) (by kernel_rfl) (by kernel_rfl) (by kernel_rfl) (fun _ _ _ h => h) (Or.inl ⟨by rfl, ?_⟩) (by assumption) ?_
    rotate_left
    · (intro w hSw; (try dsimp only at hSw); go_simp; first | done | with_reducible rfl)
    try simp only [Act.put, List.setIfInBounds_toArray, List.set_cons_zero, List.set_cons_succ]
    refine wpAnyH_take (i := 3) (hi := by simp only [List.getElem?_toArray, List.getElem?_cons_succ, List.getElem?_cons_zero]; rfl) (v := ?_) (by kernel_rfl) (by kernel_rfl) (by kernel_rfl) (fun _ _ _ h => h) (Or.inl ⟨by rfl, ?_⟩) (by assumption) ?_
    rotate_left
    · (intro w hSw; (try dsimp only at hSw); (obtain ⟨x0, x1, x2⟩ := HS1.out _ hSw); go_simp; first | done | with_reducible rfl)
    try simp only [Act.put, List.setIfInBounds_toArray, List.set_cons_zero, List.set_cons_succ]
    refine wpAnyH_take (i := 4) (hi := by simp only [List.getElem?_toArray, List.getElem?_cons_succ, List.getElem?_cons_zero]; rfl) (v := ?_) (by kernel_rfl) (by kernel_rfl) (by kernel_rfl) (fun _ _ _ h => h) (Or.inl ⟨by rfl, ?_⟩) (by assumption) ?_
    rotate_left
    · (intro w hSw; (try dsimp only at hSw); go_simp; first | done | with_reducible rfl)
    try simp only [Act.put, List.setIfInBounds_toArray, List.set_cons_zero, List.set_cons_succ]
    refine wpAnyH_take (i := 5) (hi := by simp only [List.getElem?_toArray, List.getElem?_cons_succ, List.getElem?_cons_zero]; rfl) (v := ?_) (by kernel_rfl) (by kernel_rfl) (by kernel_rfl) (fun _ _ _ h => h) (Or.inl ⟨by rfl, ?_⟩) (by assumption) ?_
    rotate_left
    · (intro w hSw; (try dsimp only at hSw); (obtain ⟨x0, x1, x2⟩ := HS1.out _ hSw); go_simp; first | done | with_reducible rfl)
    try simp only [Act.put, List.setIfInBounds_toArray, List.set_cons_zero, List.set_cons_succ]
    refine wpAnyH_take (i := 6) (hi := by simp only [List.getElem?_toArray, List.getElem?_cons_succ, List.getElem?_cons_zero]; rfl) (v := ?_) (by kernel_rfl) (by kernel_rfl) (by kernel_rfl) (fun _ _ _ h => h) (Or.inl ⟨by rfl, ?_⟩) (by assumption) ?_
    rotate_left
    · (intro w hSw; (try dsimp only at hSw); (obtain ⟨x0, x1, x2⟩ := HS1.out _ hSw); go_simp; first | done | with_reducible rfl)
    try simp only [Act.put, List.setIfInBounds_toArray, List.set_cons_zero, List.set_cons_succ]
    refine wpAnyH_take (i := 7) (hi := by simp only [List.getElem?_toArray, List.getElem?_cons_succ, List.getElem?_cons_zero]; rfl) (v := ?_) (by kernel_rfl) (by kernel_rfl) (by kernel_rfl) (fun _ _ _ h => h) (Or.inl ⟨by rfl, ?_⟩) (by assumption) ?_
    rotate_left
    · (intro w hSw; (try dsimp only at hSw); go_simp; first | done | with_reducible rfl)
    try simp only [Act.put, List.setIfInBounds_toArray, List.set_cons_zero, List.set_cons_succ]
    refine wpAnyH_take (i := 8) (hi := by simp only [List.getElem?_toArray, List.getElem?_cons_succ, List.getElem?_cons_zero]; rfl) (v := ?_) (by kernel_rfl) (by kernel_rfl) (by kernel_rfl) (fun _ _ _ h => h) (Or.inl ⟨by rfl, ?_⟩) (by assumption) ?_
    rotate_left
    · (intro w hSw; (try dsimp only at hSw); go_simp; first | done | with_reducible rfl)
    try simp only [Act.put, List.setIfInBounds_toArray, List.set_cons_zero, List.set_cons_succ]
    refine wpAnyH_take (i := 9) (hi := by simp only [List.getElem?_toArray, List.getElem?_cons_succ, List.getElem?_cons_zero]; rfl) (v := ?_) (by kernel_rfl) (by kernel_rfl) (by kernel_rfl) (fun _ _ _ h => h) (Or.inl ⟨by rfl, ?_⟩) (by assumption) ?_
    rotate_left
    · (intro w hSw; (try dsimp only at hSw); go_simp; first | done | with_reducible rfl)
    try simp only [Act.put, List.setIfInBounds_toArray, List.set_cons_zero, List.set_cons_succ]
    refine wpAnyH_ready (rs := [10]) (by kernel_rfl) (by simp) ?_
    refine AllReadyH.cons (ho := by simp only [List.getElem?_toArray, List.getElem?_cons_succ, List.getElem?_cons_zero]; rfl) (fun K hK => ?_) (AllReadyH.nil)
    go_simp
    go_wp2_with fail
    refine hK.out _ _ ?_ (fun hHeldN => ?_)
    · exact HKA.out _
    clear hHeld
    have hHeld := hHeldN
    clear hHeldN
    clear hK K
    try simp only [Act.put, List.setIfInBounds_toArray, List.set_cons_zero, List.set_cons_succ]
    refine wpAnyH_ready (rs := [11]) (by kernel_rfl) (by simp) ?_
    refine AllReadyH.cons (ho := by simp only [List.getElem?_toArray, List.getElem?_cons_succ, List.getElem?_cons_zero]; rfl) (fun K hK => ?_) (AllReadyH.nil)
    go_simp
    go_wp2_with fail
    refine hK.out _ _ ?_ (fun hHeldN => ?_)
    · exact HKA.out _
    clear hHeld
    have hHeld := hHeldN
    clear hHeldN
    clear hK K
    try simp only [Act.put, List.setIfInBounds_toArray, List.set_cons_zero, List.set_cons_succ]
    refine wpAnyH_take (i := 12) (hi := by simp only [List.getElem?_toArray, List.getElem?_cons_succ, List.getElem?_cons_zero]; rfl) (v := ?_) (by kernel_rfl) (by kernel_rfl) (by kernel_rfl) (fun _ _ _ h => h) (Or.inl ⟨by rfl, ?_⟩) (by assumption) ?_
    rotate_left
    · (intro w hSw; (try dsimp only at hSw); go_simp; first | done | with_reducible rfl)
    try simp only [Act.put, List.setIfInBounds_toArray, List.set_cons_zero, List.set_cons_succ]
    clear hHeld
    refine wpAnyH_done (by kernel_rfl) ?_ _
    refine NoPanic.normal ?_
    skip
    have hW1 : Below w.heap.size w ((wb.alloc (.cells #[.int .i64 0, .int .i64 0, .int .i64 0] 99)).drew) := (HB0.out.alloc hlb _).drew
    have hX1 := (HKA.out (.cells #[.int .i64 0, .int .i64 0, .int .i64 0] 99)).2.1.trans HX0.out
    generalize (wb.alloc (.cells #[.int .i64 0, .int .i64 0, .int .i64 0] 99)).drew = W1 at hW1 hX1 ⊢
    have HB1 := Kit.hid hW1
    have HX1 := Kit.hid hX1
    have x0 := blk_cell hX1 0
    have x1 := blk_cell hX1 1
    have x2 := blk_cell hX1 2
    have x3 := blk_cell hX1 3
    have lx := blk_lt hX1
    clear hW1 hX1 HS1 HKA
    have HE1 : Hid (∀ w', Below w.heap.size w w' → joinC m L base ≠ 0 → Qu w F w' p (joinL m L base) base (n + 1)) := Kit.hid (fun w' hb hc => by rw [joinL, if_neg hc]; exact (HQ.out.self_below hb).more (Nat.le_succ _))
    by_cases a1 : m.id < 1
    · have HC : Hid (joinC m L base = 1) := Kit.hid (by rw [joinC, if_pos (.inl a1)])
      go_wp2
      go_ret
      exact ⟨by rw [HC.out]; rfl, HE1.out _ HB1.out (by rw [HC.out]; decide)⟩
    by_cases a2 : 1048576 < m.id
    · have HC : Hid (joinC m L base = 1) := Kit.hid (by rw [joinC, if_pos (.inr (.inl a2))])
      go_wp2
      go_ret
      exact ⟨by rw [HC.out]; rfl, HE1.out _ HB1.out (by rw [HC.out]; decide)⟩
    go_wp2_with fail
    (with_reducible refine (HFT.out _).mono ?_); rintro e w2 ⟨rfl, hd2⟩
    have hx2 := blk_below HX1.out hd2
    have HB2 := Kit.hid (HB1.out.trans (hd2.mono HB1.out.size))
    have HX2 := Kit.hid hx2
    clear x0 x1 x2 x3 lx hd2
    have x0 := blk_cell hx2 0
    have x1 := blk_cell hx2 1
    have x2 := blk_cell hx2 2
    have x3 := blk_cell hx2 3
    have lx := blk_lt hx2
    clear hx2
    by_cases a3 : 1 ≤ m.wt ∧ m.wt ≤ 1048576
    rotate_left
    · have HC : Hid (joinC m L base = 1) := Kit.hid (by rw [joinC, if_pos (.inr (.inr (.inl a3)))])
      rw [decide_eq_false a3]
      go_wp2
      go_ret
      exact ⟨by rw [HC.out]; rfl, HE1.out _ HB2.out (by rw [HC.out]; decide)⟩
    rw [decide_eq_true a3]
    have HRT := Kit.hid (fun (w' : World) => right_any m.v m.rem m.wt w' a3.1 a3.2)
    go_wp2_with fail
    (with_reducible refine (HRT.out _).mono ?_); rintro e w3 ⟨rfl, hd3⟩
    have hx3 := blk_below HX2.out hd3
    have HB3 := Kit.hid (HB2.out.trans (hd3.mono HB2.out.size))
    have HX3 := Kit.hid hx3
    clear x0 x1 x2 x3 lx hd3
    have x0 := blk_cell hx3 0
    have x1 := blk_cell hx3 1
    have x2 := blk_cell hx3 2
    have x3 := blk_cell hx3 3
    have lx := blk_lt hx3
    clear hx3
    by_cases a4 : 0 ≤ m.v ∧ m.v ≤ 2305843009213693952 ∧ 0 ≤ m.rem ∧ m.rem < m.wt
    rotate_left
    · have HC : Hid (joinC m L base = 1) := Kit.hid (by rw [joinC, if_pos (.inr (.inr (.inr a4)))])
      have HR : Hid (right m.v m.rem m.wt = false) := Kit.hid (decide_eq_false a4)
      rw [HR.out]
      go_wp2
      go_ret
      exact ⟨by rw [HC.out]; rfl, HE1.out _ HB3.out (by rw [HC.out]; decide)⟩
    have HR : Hid (right m.v m.rem m.wt = true) := Kit.hid (decide_eq_true a4)
    have HNO : Hid (¬ (m.id < 1 ∨ 1048576 < m.id ∨ ¬ (1 ≤ m.wt ∧ m.wt ≤ 1048576) ∨ ¬ (0 ≤ m.v ∧ m.v ≤ 2305843009213693952 ∧ 0 ≤ m.rem ∧ m.rem < m.wt))) := Kit.hid (fun h => h.elim (fun h => by omega) (fun h => h.elim (fun h => by omega) (fun h => h.elim (fun h => h a3) (fun h => h a4))))
    rw [HR.out]
    have hp3 := (HB3.out.block p hpl).trans HP.out
    obtain ⟨es, clock, hes, _, hesz, _⟩ := HM.out.same (HB3.out.block mb HLM.out)
    have p0 := blk_cell hp3 0
    have p2 := blk_cell hp3 2
    have lp := blk_lt hp3
    have HP3 := Kit.hid hp3
    have hfull : ¬ (4096 : Int) ≤ (es.size : Int) := by omega
    have hsub : IntKind.i64.wrap (2305843009213693952 - base) = 2305843009213693952 - base := by rw [IntKind.wrap_i64]; omega
    have hlen : (Builtin.len_ #[101] 3 #[.map (some mb)]).run Try.prog w3 = .ok (.int .i64 (es.size : Int)) w3 := run_len_map _ _ _ _ es clock (by kernel_rfl) hes
    clear hp3 hesz hes
    by_cases a5 : 2305843009213693952 - base < m.v
    · have HC : Hid (joinC m L base = 6) := Kit.hid (by rw [joinC, if_neg HNO.out, if_neg (by rw [HGN.out]; simp), if_pos a5])
      go_wp2
      go_quiet (fail)
      go_wp2
      go_ret
      exact ⟨by rw [HC.out]; rfl, HE1.out _ (below_drewN HB3.out _) (by rw [HC.out]; decide)⟩
    have HC : Hid (joinC m L base = 0) := Kit.hid (by rw [joinC, if_neg HNO.out, if_neg (by rw [HGN.out]; simp), if_neg a5])
    have hadd : IntKind.i64.wrap (base + m.v) = base + m.v := by rw [IntKind.wrap_i64]; omega
    have HPT : Hid (∀ w', QF F w' p L base n → Calls Try.prog 59 #[.pointer (some ⟨p, 0, none⟩), .int .i64 m.id, .agg #[.int .i64 m.wt, .int .i64 (base + m.v), .int .i64 m.rem]] w' fun e w'' => e = .returned (.tuple #[]) ∧ Qu w' F w'' p (putM { m with v := base + m.v } L) base (n + 1)) := Kit.hid (fun w' h => put_any { m with v := base + m.v } h (by show 1 ≤ m.id; omega) (by show m.id ≤ 1048576; omega) (by omega))
    have HLQ := Kit.hid HQ.out.lt
    have HS5 : Hid (∀ w' : World, (w'.cell? ⟨p, 2, none⟩ = some (.int .i64 base) ∧ w'.heap[w.heap.size]? = w3.heap[w.heap.size]?) → w'.cell? ⟨p, 2, none⟩ = some (.int .i64 base) ∧ w'.cell? ⟨w.heap.size, 0, none⟩ = some (.int .i64 m.id) ∧ w'.cell? ⟨w.heap.size, 1, none⟩ = some (.int .i64 m.wt) ∧ w'.cell? ⟨w.heap.size, 2, none⟩ = some (.int .i64 m.v) ∧ w'.cell? ⟨w.heap.size, 3, none⟩ = some (.int .i64 m.rem)) := Kit.hid (fun w' h => by
      have h2 := h.2.trans HX3.out
      exact ⟨h.1, blk_cell h2 0, blk_cell h2 1, blk_cell h2 2, blk_cell h2 3⟩)
    have HP2 := Kit.hid p2
    have g5 : decide (2305843009213693952 - base < m.v) = false := decide_eq_false a5
    clear a5
    go_wp2
    go_quiet (fail)
    go_wp2_with fail
    refine wp_region_noPanic ?_
    refine wp_region_held_drew (S := fun (w' : World) => w'.cell? ⟨p, 2, none⟩ = some (.int .i64 base) ∧ w'.heap[w.heap.size]? = w3.heap[w.heap.size]?) (by kernel_rfl) ⟨HP2.out, rfl⟩ (fun hHeld => ?_)
    refine wpAnyH_take (i := 0) (hi := by simp only [List.getElem?_toArray, List.getElem?_cons_succ, List.getElem?_cons_zero]; rfl) (v := ?_) (by kernel_rfl) (by kernel_rfl) (by kernel_rfl) (fun _ _ _ h => h) (Or.inl ⟨by rfl, ?_⟩) (by assumption) ?_
    rotate_left
    · (intro w hSw; (try dsimp only at hSw); go_simp; first | done | with_reducible rfl)
    try simp only [Act.put, List.setIfInBounds_toArray, List.set_cons_zero, List.set_cons_succ]
    refine wpAnyH_take (i := 1) (hi := by simp only [List.getElem?_toArray, List.getElem?_cons_succ, List.getElem?_cons_zero]; rfl) (v := ?_) (by kernel_rfl) (by kernel_rfl) (by kernel_rfl) (fun _ _ _ h => h) (Or.inl ⟨by rfl, ?_⟩) (by assumption) ?_
    rotate_left
    · (intro w hSw; (try dsimp only at hSw); go_simp; first | done | with_reducible rfl)
    try simp only [Act.put, List.setIfInBounds_toArray, List.set_cons_zero, List.set_cons_succ]
    refine wpAnyH_take (i := 2) (hi := by simp only [List.getElem?_toArray, List.getElem?_cons_succ, List.getElem?_cons_zero]; rfl) (v := ?_) (by kernel_rfl) (by kernel_rfl) (by kernel_rfl) (fun _ _ _ h => h) (Or.inl ⟨by rfl, ?_⟩) (by assumption) ?_
    rotate_left
    · (intro w hSw; (try dsimp only at hSw); (obtain ⟨z0, z1, z2, z3, z4⟩ := HS5.out _ hSw); go_simp; first | done | with_reducible rfl)
    try simp only [Act.put, List.setIfInBounds_toArray, List.set_cons_zero, List.set_cons_succ]
    refine wpAnyH_take (i := 3) (hi := by simp only [List.getElem?_toArray, List.getElem?_cons_succ, List.getElem?_cons_zero]; rfl) (v := ?_) (by kernel_rfl) (by kernel_rfl) (by kernel_rfl) (fun _ _ _ h => h) (Or.inl ⟨by rfl, ?_⟩) (by assumption) ?_
    rotate_left
    · (intro w hSw; (try dsimp only at hSw); go_simp; first | done | with_reducible rfl)
    try simp only [Act.put, List.setIfInBounds_toArray, List.set_cons_zero, List.set_cons_succ]
    refine wpAnyH_take (i := 4) (hi := by simp only [List.getElem?_toArray, List.getElem?_cons_succ, List.getElem?_cons_zero]; rfl) (v := ?_) (by kernel_rfl) (by kernel_rfl) (by kernel_rfl) (fun _ _ _ h => h) (Or.inl ⟨by rfl, ?_⟩) (by assumption) ?_
    rotate_left
    · (intro w hSw; (try dsimp only at hSw); (obtain ⟨z0, z1, z2, z3, z4⟩ := HS5.out _ hSw); go_simp; first | done | with_reducible rfl)
    try simp only [Act.put, List.setIfInBounds_toArray, List.set_cons_zero, List.set_cons_succ]
    refine wpAnyH_take (i := 5) (hi := by simp only [List.getElem?_toArray, List.getElem?_cons_succ, List.getElem?_cons_zero]; rfl) (v := ?_) (by kernel_rfl) (by kernel_rfl) (by kernel_rfl) (fun _ _ _ h => h) (Or.inl ⟨by rfl, ?_⟩) (by assumption) ?_
    rotate_left
    · (intro w hSw; (try dsimp only at hSw); go_simp; first | done | with_reducible rfl)
    try simp only [Act.put, List.setIfInBounds_toArray, List.set_cons_zero, List.set_cons_succ]
    refine wpAnyH_take (i := 6) (hi := by simp only [List.getElem?_toArray, List.getElem?_cons_succ, List.getElem?_cons_zero]; rfl) (v := ?_) (by kernel_rfl) (by kernel_rfl) (by kernel_rfl) (fun _ _ _ h => h) (Or.inl ⟨by rfl, ?_⟩) (by assumption) ?_
    rotate_left
    · (intro w hSw; (try dsimp only at hSw); (obtain ⟨z0, z1, z2, z3, z4⟩ := HS5.out _ hSw); go_simp; first | done | with_reducible rfl)
    try simp only [Act.put, List.setIfInBounds_toArray, List.set_cons_zero, List.set_cons_succ]
    refine wpAnyH_take (i := 7) (hi := by simp only [List.getElem?_toArray, List.getElem?_cons_succ, List.getElem?_cons_zero]; rfl) (v := ?_) (by kernel_rfl) (by kernel_rfl) (by kernel_rfl) (fun _ _ _ h => h) (Or.inl ⟨by rfl, ?_⟩) (by assumption) ?_
    rotate_left
    · (intro w hSw; (try dsimp only at hSw); go_simp; first | done | with_reducible rfl)
    try simp only [Act.put, List.setIfInBounds_toArray, List.set_cons_zero, List.set_cons_succ]
    refine wpAnyH_take (i := 8) (hi := by simp only [List.getElem?_toArray, List.getElem?_cons_succ, List.getElem?_cons_zero]; rfl) (v := ?_) (by kernel_rfl) (by kernel_rfl) (by kernel_rfl) (fun _ _ _ h => h) (Or.inl ⟨by rfl, ?_⟩) (by assumption) ?_
    rotate_left
    · (intro w hSw; (try dsimp only at hSw); (obtain ⟨z0, z1, z2, z3, z4⟩ := HS5.out _ hSw); go_simp; first | done | with_reducible rfl)
    try simp only [Act.put, List.setIfInBounds_toArray, List.set_cons_zero, List.set_cons_succ]
    refine wpAnyH_take (i := 9) (hi := by simp only [List.getElem?_toArray, List.getElem?_cons_succ, List.getElem?_cons_zero]; rfl) (v := ?_) (by kernel_rfl) (by kernel_rfl) (by kernel_rfl) (fun _ _ _ h => h) (Or.inl ⟨by rfl, ?_⟩) (by assumption) ?_
    rotate_left
    · (intro w hSw; (try dsimp only at hSw); go_simp; first | done | with_reducible rfl)
    try simp only [Act.put, List.setIfInBounds_toArray, List.set_cons_zero, List.set_cons_succ]
    refine wpAnyH_take (i := 10) (hi := by simp only [List.getElem?_toArray, List.getElem?_cons_succ, List.getElem?_cons_zero]; rfl) (v := ?_) (by kernel_rfl) (by kernel_rfl) (by kernel_rfl) (fun _ _ _ h => h) (Or.inl ⟨by rfl, ?_⟩) (by assumption) ?_
    rotate_left
    · (intro w hSw; (try dsimp only at hSw); go_simp; first | done | with_reducible rfl)
    try simp only [Act.put, List.setIfInBounds_toArray, List.set_cons_zero, List.set_cons_succ]
    refine wpAnyH_take (i := 11) (hi := by simp only [List.getElem?_toArray, List.getElem?_cons_succ, List.getElem?_cons_zero]; rfl) (v := ?_) (by kernel_rfl) (by kernel_rfl) (by kernel_rfl) (fun _ _ _ h => h) (Or.inl ⟨by rfl, ?_⟩) (by assumption) ?_
    rotate_left
    · (intro w hSw; (try dsimp only at hSw); (obtain ⟨z0, z1, z2, z3, z4⟩ := HS5.out _ hSw); go_simp; first | done | with_reducible rfl)
    try simp only [Act.put, List.setIfInBounds_toArray, List.set_cons_zero, List.set_cons_succ]
    refine wpAnyH_take (i := 12) (hi := by simp only [List.getElem?_toArray, List.getElem?_cons_succ, List.getElem?_cons_zero]; rfl) (v := ?_) (by kernel_rfl) (by kernel_rfl) (by kernel_rfl) (fun _ _ _ h => h) (Or.inl ⟨by rfl, ?_⟩) (by assumption) ?_
    rotate_left
    · (intro w hSw; (try dsimp only at hSw); go_simp; first | done | with_reducible rfl)
    try simp only [Act.put, List.setIfInBounds_toArray, List.set_cons_zero, List.set_cons_succ]
    refine wpAnyH_take (i := 13) (hi := by simp only [List.getElem?_toArray, List.getElem?_cons_succ, List.getElem?_cons_zero]; rfl) (v := ?_) (by kernel_rfl) (by kernel_rfl) (by kernel_rfl) (fun _ _ _ h => h) (Or.inl ⟨by rfl, ?_⟩) (by assumption) ?_
    rotate_left
    · (intro w hSw; (try dsimp only at hSw); go_simp; first | done | with_reducible rfl)
    try simp only [Act.put, List.setIfInBounds_toArray, List.set_cons_zero, List.set_cons_succ]
    refine wpAnyH_take (i := 14) (hi := by simp only [List.getElem?_toArray, List.getElem?_cons_succ, List.getElem?_cons_zero]; rfl) (v := ?_) (by kernel_rfl) (by kernel_rfl) (by kernel_rfl) (fun _ _ _ h => h) (Or.inl ⟨by rfl, ?_⟩) (by assumption) ?_
    rotate_left
    · (intro w hSw; (try dsimp only at hSw); go_simp; first | done | with_reducible rfl)
    try simp only [Act.put, List.setIfInBounds_toArray, List.set_cons_zero, List.set_cons_succ]
    refine wpAnyH_take (i := 15) (hi := by simp only [List.getElem?_toArray, List.getElem?_cons_succ, List.getElem?_cons_zero]; rfl) (v := ?_) (by kernel_rfl) (by kernel_rfl) (by kernel_rfl) (fun _ _ _ h => h) (Or.inl ⟨by rfl, ?_⟩) (by assumption) ?_
    rotate_left
    · (intro w hSw; (try dsimp only at hSw); (obtain ⟨z0, z1, z2, z3, z4⟩ := HS5.out _ hSw); go_simp; first | done | with_reducible rfl)
    try simp only [Act.put, List.setIfInBounds_toArray, List.set_cons_zero, List.set_cons_succ]
    refine wpAnyH_take (i := 16) (hi := by simp only [List.getElem?_toArray, List.getElem?_cons_succ, List.getElem?_cons_zero]; rfl) (v := ?_) (by kernel_rfl) (by kernel_rfl) (by kernel_rfl) (fun _ _ _ h => h) (Or.inl ⟨by rfl, ?_⟩) (by assumption) ?_
    rotate_left
    · (intro w hSw; (try dsimp only at hSw); go_simp; first | done | with_reducible rfl)
    try simp only [Act.put, List.setIfInBounds_toArray, List.set_cons_zero, List.set_cons_succ]
    refine wpAnyH_take (i := 17) (hi := by simp only [List.getElem?_toArray, List.getElem?_cons_succ, List.getElem?_cons_zero]; rfl) (v := ?_) (by kernel_rfl) (by kernel_rfl) (by kernel_rfl) (fun _ _ _ h => h) (Or.inl ⟨by rfl, ?_⟩) (by assumption) ?_
    rotate_left
    · (intro w hSw; (try dsimp only at hSw); go_simp; first | done | with_reducible rfl)
    try simp only [Act.put, List.setIfInBounds_toArray, List.set_cons_zero, List.set_cons_succ]
    refine wpAnyH_ready (rs := [18]) (by kernel_rfl) (by simp) ?_
    refine AllReadyH.cons (ho := by simp only [List.getElem?_toArray, List.getElem?_cons_succ, List.getElem?_cons_zero]; rfl) (fun K hK => ?_) (AllReadyH.nil)
    go_simp
    go_at_call 59; (with_reducible refine (HPT.out _ (HQ.out.below (below_drewN HB3.out _))).mono ?_); rintro e w6 ⟨rfl, hq6⟩
    have HQ6 := Kit.hid hq6
    clear hq6
    go_wp2_with fail
    refine hK.out _ _ ?_ (fun hHeldN => ?_)
    · exact ⟨HQ6.out.blk.1, HQ6.out.kept.block _ (blk_lt HX3.out) (fun h => by have := HLQ.out _ h; omega)⟩
    clear hHeld
    have hHeld := hHeldN
    clear hHeldN
    clear hK K
    try simp only [Act.put, List.setIfInBounds_toArray, List.set_cons_zero, List.set_cons_succ]
    clear hHeld
    refine wpAnyH_done (by kernel_rfl) ?_ _
    refine NoPanic.normal ?_
    skip
    go_wp2
    go_ret
    exact ⟨by rw [HC.out]; rfl, by rw [joinL, if_pos HC.out]; exact QF.lift (F := F) (below_drewN HB3.out _) HQ6.out⟩
  | some y =>
    have HS1 : Hid (∀ w' : World, (w'.heap[p]? = wb.heap[p]? ∧ w'.heap[w.heap.size]? = wb.heap[w.heap.size]? ∧ w'.heap[mb]? = wb.heap[mb]?) → w'.cell? ⟨p, 0, none⟩ = some (.map (some mb)) ∧ w'.cell? ⟨w.heap.size, 0, none⟩ = some (.int .i64 m.id) ∧ (Instr.lookup 101 (.map (some mb)) (.int .i64 m.id) true).run Try.prog w' = .ok (.tuple #[.agg #[.int .i64 y.wt, .int .i64 y.v, .int .i64 y.rem], .bool true]) w') := Kit.hid (fun w' h => by
      have hl := (HMB.out.same h.2.2).look true keyed Try.underlying101 (zero_mem w') HKEY.out
      refine ⟨blk_cell (h.1.trans HPB.out) 0, blk_cell (h.2.1.trans HX0.out) 0, ?_⟩
      rw [hl]
      simp [fmap, hget, mv])
    have HGN : Hid ((get L m.id).isSome = true) := Kit.hid (by rw [hget]; rfl)
    clear hget
    refine wp_region_noPanic ?_
    refine wp_region_held_drew (S := fun (w' : World) => w'.heap[p]? = wb.heap[p]? ∧ w'.heap[w.heap.size]? = wb.heap[w.heap.size]? ∧ w'.heap[mb]? = wb.heap[mb]?) (by kernel_rfl) ⟨rfl, rfl, rfl⟩ (fun hHeld => ?_)
    refine wpAnyH_take (i := 0) (hi := by simp only [List.getElem?_toArray, List.getElem?_cons_succ, List.getElem?_cons_zero]; rfl) (v := ?_) (by kernel_rfl) (by kernel_rfl) (by kernel_rfl) (fun _ _ _ h => h) (Or.inl ⟨by rfl, ?_⟩) (by assumption) ?_
    rotate_left
    · (intro w hSw; (try dsimp only at hSw); go_simp; first | done | with_reducible rfl)
    try simp only [Act.put, List.setIfInBounds_toArray, List.set_cons_zero, List.set_cons_succ]
    refine wpAnyH_take (i := 1) (hi := by simp only [List.getElem?_toArray, List.getElem?_cons_succ, List.getElem?_cons_zero]; rfl) (v := ?_) (by kernel_rfl) (by kernel_rfl) (by kernel_rfl) (fun _ _ _ h => h) (Or.inl ⟨by rfl, ?_⟩) (by assumption) ?_
    rotate_left
    · (intro w hSw; (try dsimp only at hSw); (obtain ⟨x0, x1, x2⟩ := HS1.out _ hSw); go_simp; first | done | with_reducible rfl)
    try simp only [Act.put, List.setIfInBounds_toArray, List.set_cons_zero, List.set_cons_succ]
    refine wpAnyH_take (i := 2) (hi := by simp only [List.getElem?_toArray, List.getElem?_cons_succ, List.getElem?_cons_zero]; rfl) (v := ?_) (by kernel_rfl) (by kernel_rfl) (by kernel_rfl) (fun _ _ _ h => h) (Or.inl ⟨by rfl, ?_⟩) (by assumption) ?_
    rotate_left
    · (intro w hSw; (try dsimp only at hSw); go_simp; first | done | with_reducible rfl)
    try simp only [Act.put, List.setIfInBounds_toArray, List.set_cons_zero, List.set_cons_succ]
    refine wpAnyH_take (i := 3) (hi := by simp only [List.getElem?_toArray, List.getElem?_cons_succ, List.getElem?_cons_zero]; rfl) (v := ?_) (by kernel_rfl) (by kernel_rfl) (by kernel_rfl) (fun _ _ _ h => h) (Or.inl ⟨by rfl, ?_⟩) (by assumption) ?_
    rotate_left
    · (intro w hSw; (try dsimp only at hSw); (obtain ⟨x0, x1, x2⟩ := HS1.out _ hSw); go_simp; first | done | with_reducible rfl)
    try simp only [Act.put, List.setIfInBounds_toArray, List.set_cons_zero, List.set_cons_succ]
    refine wpAnyH_take (i := 4) (hi := by simp only [List.getElem?_toArray, List.getElem?_cons_succ, List.getElem?_cons_zero]; rfl) (v := ?_) (by kernel_rfl) (by kernel_rfl) (by kernel_rfl) (fun _ _ _ h => h) (Or.inl ⟨by rfl, ?_⟩) (by assumption) ?_
    rotate_left
    · (intro w hSw; (try dsimp only at hSw); go_simp; first | done | with_reducible rfl)
    try simp only [Act.put, List.setIfInBounds_toArray, List.set_cons_zero, List.set_cons_succ]
    refine wpAnyH_take (i := 5) (hi := by simp only [List.getElem?_toArray, List.getElem?_cons_succ, List.getElem?_cons_zero]; rfl) (v := ?_) (by kernel_rfl) (by kernel_rfl) (by kernel_rfl) (fun _ _ _ h => h) (Or.inl ⟨by rfl, ?_⟩) (by assumption) ?_
    rotate_left
    · (intro w hSw; (try dsimp only at hSw); (obtain ⟨x0, x1, x2⟩ := HS1.out _ hSw); go_simp; first | done | with_reducible rfl)
    try simp only [Act.put, List.setIfInBounds_toArray, List.set_cons_zero, List.set_cons_succ]
    refine wpAnyH_take (i := 6) (hi := by simp only [List.getElem?_toArray, List.getElem?_cons_succ, List.getElem?_cons_zero]; rfl) (v := ?_) (by kernel_rfl) (by kernel_rfl) (by kernel_rfl) (fun _ _ _ h => h) (Or.inl ⟨by rfl, ?_⟩) (by assumption) ?_
    rotate_left
    · (intro w hSw; (try dsimp only at hSw); (obtain ⟨x0, x1, x2⟩ := HS1.out _ hSw); go_simp; first | done | with_reducible rfl)
    try simp only [Act.put, List.setIfInBounds_toArray, List.set_cons_zero, List.set_cons_succ]
    refine wpAnyH_take (i := 7) (hi := by simp only [List.getElem?_toArray, List.getElem?_cons_succ, List.getElem?_cons_zero]; rfl) (v := ?_) (by kernel_rfl) (by kernel_rfl) (by kernel_rfl) (fun _ _ _ h => h) (Or.inl ⟨by rfl, ?_⟩) (by assumption) ?_
    rotate_left
    · (intro w hSw; (try dsimp only at hSw); go_simp; first | done | with_reducible rfl)
    try simp only [Act.put, List.setIfInBounds_toArray, List.set_cons_zero, List.set_cons_succ]
    refine wpAnyH_take (i := 8) (hi := by simp only [List.getElem?_toArray, List.getElem?_cons_succ, List.getElem?_cons_zero]; rfl) (v := ?_) (by kernel_rfl) (by kernel_rfl) (by kernel_rfl) (fun _ _ _ h => h) (Or.inl ⟨by rfl, ?_⟩) (by assumption) ?_
    rotate_left
    · (intro w hSw; (try dsimp only at hSw); go_simp; first | done | with_reducible rfl)
    try simp only [Act.put, List.setIfInBounds_toArray, List.set_cons_zero, List.set_cons_succ]
    refine wpAnyH_take (i := 9) (hi := by simp only [List.getElem?_toArray, List.getElem?_cons_succ, List.getElem?_cons_zero]; rfl) (v := ?_) (by kernel_rfl) (by kernel_rfl) (by kernel_rfl) (fun _ _ _ h => h) (Or.inl ⟨by rfl, ?_⟩) (by assumption) ?_
    rotate_left
    · (intro w hSw; (try dsimp only at hSw); go_simp; first | done | with_reducible rfl)
    try simp only [Act.put, List.setIfInBounds_toArray, List.set_cons_zero, List.set_cons_succ]
    refine wpAnyH_ready (rs := [10]) (by kernel_rfl) (by simp) ?_
    refine AllReadyH.cons (ho := by simp only [List.getElem?_toArray, List.getElem?_cons_succ, List.getElem?_cons_zero]; rfl) (fun K hK => ?_) (AllReadyH.nil)
    go_simp
    go_wp2_with fail
    refine hK.out _ _ ?_ (fun hHeldN => ?_)
    · exact HKA.out _
    clear hHeld
    have hHeld := hHeldN
    clear hHeldN
    clear hK K
    try simp only [Act.put, List.setIfInBounds_toArray, List.set_cons_zero, List.set_cons_succ]
    refine wpAnyH_ready (rs := [11]) (by kernel_rfl) (by simp) ?_
    refine AllReadyH.cons (ho := by simp only [List.getElem?_toArray, List.getElem?_cons_succ, List.getElem?_cons_zero]; rfl) (fun K hK => ?_) (AllReadyH.nil)
    go_simp
    go_wp2_with fail
    refine hK.out _ _ ?_ (fun hHeldN => ?_)
    · exact HKA.out _
    clear hHeld
    have hHeld := hHeldN
    clear hHeldN
    clear hK K
    try simp only [Act.put, List.setIfInBounds_toArray, List.set_cons_zero, List.set_cons_succ]
    refine wpAnyH_take (i := 12) (hi := by simp only [List.getElem?_toArray, List.getElem?_cons_succ, List.getElem?_cons_zero]; rfl) (v := ?_) (by kernel_rfl) (by kernel_rfl) (by kernel_rfl) (fun _ _ _ h => h) (Or.inl ⟨by rfl, ?_⟩) (by assumption) ?_
    rotate_left
    · (intro w hSw; (try dsimp only at hSw); go_simp; first | done | with_reducible rfl)
    try simp only [Act.put, List.setIfInBounds_toArray, List.set_cons_zero, List.set_cons_succ]
    clear hHeld
    refine wpAnyH_done (by kernel_rfl) ?_ _
    refine NoPanic.normal ?_
    skip
    have hW1 : Below w.heap.size w ((wb.alloc (.cells #[.int .i64 y.wt, .int .i64 y.v, .int .i64 y.rem] 99)).drew) := (HB0.out.alloc hlb _).drew
    have hX1 := (HKA.out (.cells #[.int .i64 y.wt, .int .i64 y.v, .int .i64 y.rem] 99)).2.1.trans HX0.out
    generalize (wb.alloc (.cells #[.int .i64 y.wt, .int .i64 y.v, .int .i64 y.rem] 99)).drew = W1 at hW1 hX1 ⊢
    have HB1 := Kit.hid hW1
    have HX1 := Kit.hid hX1
    have x0 := blk_cell hX1 0
    have x1 := blk_cell hX1 1
    have x2 := blk_cell hX1 2
    have x3 := blk_cell hX1 3
    have lx := blk_lt hX1
    clear hW1 hX1 HS1 HKA
    have HE1 : Hid (∀ w', Below w.heap.size w w' → joinC m L base ≠ 0 → Qu w F w' p (joinL m L base) base (n + 1)) := Kit.hid (fun w' hb hc => by rw [joinL, if_neg hc]; exact (HQ.out.self_below hb).more (Nat.le_succ _))
    by_cases a1 : m.id < 1
    · have HC : Hid (joinC m L base = 1) := Kit.hid (by rw [joinC, if_pos (.inl a1)])
      go_wp2
      go_ret
      exact ⟨by rw [HC.out]; rfl, HE1.out _ HB1.out (by rw [HC.out]; decide)⟩
    by_cases a2 : 1048576 < m.id
    · have HC : Hid (joinC m L base = 1) := Kit.hid (by rw [joinC, if_pos (.inr (.inl a2))])
      go_wp2
      go_ret
      exact ⟨by rw [HC.out]; rfl, HE1.out _ HB1.out (by rw [HC.out]; decide)⟩
    go_wp2_with fail
    (with_reducible refine (HFT.out _).mono ?_); rintro e w2 ⟨rfl, hd2⟩
    have hx2 := blk_below HX1.out hd2
    have HB2 := Kit.hid (HB1.out.trans (hd2.mono HB1.out.size))
    have HX2 := Kit.hid hx2
    clear x0 x1 x2 x3 lx hd2
    have x0 := blk_cell hx2 0
    have x1 := blk_cell hx2 1
    have x2 := blk_cell hx2 2
    have x3 := blk_cell hx2 3
    have lx := blk_lt hx2
    clear hx2
    by_cases a3 : 1 ≤ m.wt ∧ m.wt ≤ 1048576
    rotate_left
    · have HC : Hid (joinC m L base = 1) := Kit.hid (by rw [joinC, if_pos (.inr (.inr (.inl a3)))])
      rw [decide_eq_false a3]
      go_wp2
      go_ret
      exact ⟨by rw [HC.out]; rfl, HE1.out _ HB2.out (by rw [HC.out]; decide)⟩
    rw [decide_eq_true a3]
    have HRT := Kit.hid (fun (w' : World) => right_any m.v m.rem m.wt w' a3.1 a3.2)
    go_wp2_with fail
    (with_reducible refine (HRT.out _).mono ?_); rintro e w3 ⟨rfl, hd3⟩
    have hx3 := blk_below HX2.out hd3
    have HB3 := Kit.hid (HB2.out.trans (hd3.mono HB2.out.size))
    have HX3 := Kit.hid hx3
    clear x0 x1 x2 x3 lx hd3
    have x0 := blk_cell hx3 0
    have x1 := blk_cell hx3 1
    have x2 := blk_cell hx3 2
    have x3 := blk_cell hx3 3
    have lx := blk_lt hx3
    clear hx3
    by_cases a4 : 0 ≤ m.v ∧ m.v ≤ 2305843009213693952 ∧ 0 ≤ m.rem ∧ m.rem < m.wt
    rotate_left
    · have HC : Hid (joinC m L base = 1) := Kit.hid (by rw [joinC, if_pos (.inr (.inr (.inr a4)))])
      have HR : Hid (right m.v m.rem m.wt = false) := Kit.hid (decide_eq_false a4)
      rw [HR.out]
      go_wp2
      go_ret
      exact ⟨by rw [HC.out]; rfl, HE1.out _ HB3.out (by rw [HC.out]; decide)⟩
    have HR : Hid (right m.v m.rem m.wt = true) := Kit.hid (decide_eq_true a4)
    have HNO : Hid (¬ (m.id < 1 ∨ 1048576 < m.id ∨ ¬ (1 ≤ m.wt ∧ m.wt ≤ 1048576) ∨ ¬ (0 ≤ m.v ∧ m.v ≤ 2305843009213693952 ∧ 0 ≤ m.rem ∧ m.rem < m.wt))) := Kit.hid (fun h => h.elim (fun h => by omega) (fun h => h.elim (fun h => by omega) (fun h => h.elim (fun h => h a3) (fun h => h a4))))
    rw [HR.out]
    have HC : Hid (joinC m L base = 9) := Kit.hid (by rw [joinC, if_neg HNO.out, if_pos HGN.out])
    go_wp2
    go_ret
    exact ⟨by rw [HC.out]; rfl, HE1.out _ HB3.out (by rw [HC.out]; decide)⟩
end
end Go.Proofs.Ytpgfenelckonoaa.Qu
