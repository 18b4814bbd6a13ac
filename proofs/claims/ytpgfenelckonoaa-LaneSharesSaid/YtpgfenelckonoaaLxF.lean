/- Lanes: what is done, one thing and many; the example. -/
import Derived.Test.YtpgfenelckonoaaLxE
import Derived.Deep.SlicePairs
namespace Go.Proofs.Ytpgfenelckonoaa.La
open Go.RowKit Go.Proofs.Ytpgfenelckonoaa.Kit Go.Proofs.Ytpgfenelckonoaa.ShM Go.Proofs.Ytpgfenelckonoaa.Sh Go.Proofs.Ytpgfenelckonoaa.QuM Go.Proofs.Ytpgfenelckonoaa.Qu Go.Proofs.Ytpgfenelckonoaa.LaM
open Go.Proofs.Ytpgfenelckonoaa.Ki (Row row_nil row_of iv iv_len iv_one search_row contains_row clone_row)
set_option linter.unusedVariables false
set_option linter.unusedSimpArgs false
def mO (x : Option Mem) : Mem := x.getD ⟨0, 0, 0, 0⟩
def opC (o : LOp) (Ap As : Option Addr) (cp cs : Nat) : Array Value := #[.int .i64 o.d, .int .i64 o.m.id, .int .i64 o.m.wt, .int .i64 o.m.v, .int .i64 o.m.rem, .slice Ap o.p.length cp, .int .i64 o.n, .slice As o.shut.length cs]
/-- What one thing that is done brings along: its path, and who is shut. -/
structure OpM (w : World) (F : Nat → Prop) (o : LOp) (Ap As : Option Addr) (cp cs : Nat) : Prop where
  path : SRow w Ap o.p
  pcap : o.p.length ≤ cp
  pblk : o.p ≠ [] → ∀ a, Ap = some a → a.block < w.heap.size ∧ ¬ F a.block
  shut : Cells w As (iv o.shut)
  sblk : o.shut ≠ [] → ∀ a, As = some a → a.block < w.heap.size ∧ ¬ F a.block
  ints : int64 o.m.id ∧ int64 o.n
theorem OpM.below {w w' : World} {F : Nat → Prop} {o : LOp} {Ap As : Option Addr} {cp cs : Nat} (h : OpM w F o Ap As cp cs) (hb : Below w.heap.size w w') : OpM w' F o Ap As cp cs :=
  ⟨h.path.below hb, h.pcap, fun hp a ha => ⟨Nat.lt_of_lt_of_le (h.pblk hp a ha).1 hb.size, (h.pblk hp a ha).2⟩, cells_over h.shut hb, fun hp a ha => ⟨Nat.lt_of_lt_of_le (h.sblk hp a ha).1 hb.size, (h.sblk hp a ha).2⟩, h.ints⟩
section
variable {w w' : World} {lp n : Nat} {S : LS} {F : Nat → Prop}
theorem go_nn (wl : WL S) (shut : List Int) (k : Nat) : ∀ (l : List Mem), (∀ m ∈ l, 0 < m.id) → 0 ≤ nextF.go S shut l k
  | [], _ => by unfold nextF.go; omega
  | y :: l, h => by
    unfold nextF.go
    split
    · have := h y (by simp); omega
    split
    · exact go_nn wl shut k l (fun m hm => h m (List.mem_cons_of_mem _ hm))
    split
    · rename_i h0; omega
    · exact go_nn wl shut k l (fun m hm => h m (List.mem_cons_of_mem _ hm))
theorem pick_int (wl : WL S) (shut : List Int) : int64 (pickS S shut) := by
  by_cases h : 0 < pickS S shut
  · exact home_int wl (wl.isHome _ (next_is wl 16 0 h).1)
  · have h1 : 0 ≤ pickS S shut := by
      unfold pickS nextF
      exact go_nn wl shut 15 _ fun m hm => by have := (wl.qb 0).each m hm; omega
    exact ⟨by omega, by omega⟩
set_option maxRecDepth 40000 in
set_option maxHeartbeats 1600000 in
theorem do_lane (o : LOp) (Ap As : Option Addr) (cp cs : Nat) (h : LF F w lp S n) (wl : WL S) (ho : OpM w F o Ap As cp cs) (hp8 : o.p.length ≤ 8) (hs8 : o.shut.length ≤ 8) (hn0 : 1 ≤ n) (hn : n ≤ 3700) :
    Calls Try.prog 21 #[.pointer (some ⟨lp, 0, none⟩), .agg (opC o Ap As cp cs)] w fun e w' => e = .returned (.tuple #[memV (mO (doS S o).1), .int .i64 (doS S o).2.1]) ∧ Ln w F w' lp (doS S o).2.2 (n + 60) := by
  have HLF := Kit.hid h
  have HWL := Kit.hid wl
  have HLT := Kit.hid h.lt
  obtain ⟨W1, hW1⟩ : ∃ W1, W1 = (w.alloc (.cells (opC o Ap As cp cs) 55)).alloc (.cells #[.int .i64 0, .int .i64 0, .int .i64 0, .int .i64 0] 35) := ⟨_, rfl⟩
  have HB1 : Hid (Below w.heap.size w W1) := Kit.hid (by rw [hW1]; exact ((Below.refl _ _).alloc (Nat.le_refl _) _).alloc (by simp) _)
  have hox : W1.heap[w.heap.size]? = some (.cells (opC o Ap As cp cs) 55 (0, 0)) := by rw [hW1]; exact blk_alloc (blk_new _ _) _
  have hrx : W1.heap[w.heap.size + 1]? = some (.cells #[.int .i64 0, .int .i64 0, .int .i64 0, .int .i64 0] 35 (0, 0)) := by
    rw [hW1]
    have := blk_new (w.alloc (.cells (opC o Ap As cp cs) 55)) (.cells #[.int .i64 0, .int .i64 0, .int .i64 0, .int .i64 0] 35)
    rw [World.size_alloc] at this
    exact this
  unfold opC at hW1 hox ⊢
  have HRX := Kit.hid hrx
  have HNF : Hid (¬ F (w.heap.size + 1)) := Kit.hid (fun hf => by have := HLT.out _ hf; omega)
  have HL1 := Kit.hid (h.below HB1.out)
  have HO1 := Kit.hid (ho.below HB1.out)
  have HGL := Kit.hid (blk_lt hrx)
  have HW1 := Kit.hid hW1
  have HRK : Hid (∀ w' S' n', Ln W1 F w' lp S' n' → w'.heap[w.heap.size + 1]? = some (.cells #[.int .i64 0, .int .i64 0, .int .i64 0, .int .i64 0] 35 (0, 0))) := Kit.hid (fun w' S' n' hl => (hl.kept.block _ HGL.out HNF.out).trans HRX.out)
  have HOWN : Hid (∀ w' S' n' a b c d, Ln W1 F w' lp S' n' → Ln w F ((((w'.setCell ⟨w.heap.size + 1, 0, none⟩ a).setCell ⟨w.heap.size + 1, 1, none⟩ b).setCell ⟨w.heap.size + 1, 2, none⟩ c).setCell ⟨w.heap.size + 1, 3, none⟩ d) lp S' n') := Kit.hid (fun w' S' n' a b c d hl => hl.own HB1.out HLT.out (Nat.le_succ _) HGL.out (set4_grown _ _ _ _ _ _))
  clear h ho hrx hW1
  go_enter Try.func21, Try.ntmps21
  go_wp2_with fail
  all_goals
    rw [← HW1.out]
    have HOX := Kit.hid hox
    have o0 := blk_cell hox 0
    have o1 := blk_cell hox 1
    have o2 := blk_cell hox 2
    have o3 := blk_cell hox 3
    have o4 := blk_cell hox 4
    have o5 := blk_cell hox 5
    have o6 := blk_cell hox 6
    have o7 := blk_cell hox 7
    have lo := blk_lt hox
    clear hox
  · have e1 : (o.d == 1) = true := by assumption
    have d1 := beq_iff_eq.1 e1
    have HD : Hid (doS S o = (none, enterS S o.p o.m)) := Kit.hid (by unfold doS; rw [if_pos d1])
    have HJ := Kit.hid (enter_lane Ap o.p cp o.m HL1.out HWL.out HO1.out.path HO1.out.pblk HO1.out.pcap hp8 hn0 (by omega) HO1.out.ints.1)
    clear d1
    (with_reducible refine HJ.out.mono ?_); rintro e w2 ⟨rfl, hl2⟩
    have HL2 := Kit.hid (Ln.more hl2 (m := n + 60) (by omega))
    have hr2 := HRK.out _ _ _ hl2
    have HR2 := Kit.hid hr2
    clear hl2 HJ o0 o1 o2 o3 o4 o5 o6 o7 lo
    have r0 := blk_cell hr2 0
    have r1 := blk_cell hr2 1
    have r2 := blk_cell hr2 2
    have r3 := blk_cell hr2 3
    have f0 := blk_frozen hr2 0
    have f1 := blk_frozen hr2 1
    have f2 := blk_frozen hr2 2
    have f3 := blk_frozen hr2 3
    have lr := blk_lt hr2
    clear hr2
    go_wp2
    exact cell_tmp_ret rfl (w.heap.size + 1) _ _ _ _ rfl rfl (mem_store HR2.out) rfl ⟨by rw [HD.out]; rfl, by rw [HD.out]; exact HOWN.out _ _ _ _ _ _ _ HL2.out⟩
  · have e1 : (o.d == 1) = false := by assumption
    have n1 := beq_eq_false_iff_ne.1 e1
    have e2 : (o.d == 2) = true := by assumption
    have d2 := beq_iff_eq.1 e2
    have HD : Hid (doS S o = leaveS S o.m.id) := Kit.hid (by unfold doS; rw [if_neg n1, if_pos d2])
    have HJ := Kit.hid (leave_lane o.m.id HL1.out HWL.out hn0 (by omega) HO1.out.ints.1.1 HO1.out.ints.1.2)
    obtain ⟨mm, hmm⟩ : ∃ mm, mm = (leaveS S o.m.id).1.getD ⟨0, 0, 0, 0⟩ := ⟨_, rfl⟩
    have HMM : Hid (mO (leaveS S o.m.id).1 = mm) := Kit.hid (by rw [hmm]; rfl)
    rw [← hmm] at HJ
    unfold memV at HJ
    clear n1 d2 hmm
    (with_reducible refine HJ.out.mono ?_); rintro e w2 ⟨rfl, hl2⟩
    have HL2 := Kit.hid hl2
    have hr2 := HRK.out _ _ _ hl2
    have HR2 := Kit.hid hr2
    clear hl2 HJ o0 o1 o2 o3 o4 o5 o6 o7 lo
    have r0 := blk_cell hr2 0
    have r1 := blk_cell hr2 1
    have r2 := blk_cell hr2 2
    have r3 := blk_cell hr2 3
    have f0 := blk_frozen hr2 0
    have f1 := blk_frozen hr2 1
    have f2 := blk_frozen hr2 2
    have f3 := blk_frozen hr2 3
    have lr := blk_lt hr2
    clear hr2
    go_wp2
    exact cell_tmp_ret rfl (w.heap.size + 1) _ _ _ _ rfl rfl (blk_alloc (mem_store HR2.out) _) rfl ⟨by rw [HD.out, HMM.out]; rfl, by rw [HD.out]; exact (HOWN.out _ _ _ _ _ _ _ HL2.out).below ((Below.refl _ _).alloc (Nat.le_refl _) _)⟩
  · have e1 : (o.d == 1) = false := by assumption
    have n1 := beq_eq_false_iff_ne.1 e1
    have e2 : (o.d == 2) = false := by assumption
    have n2 := beq_eq_false_iff_ne.1 e2
    have e3 : (o.d == 3) = true := by assumption
    have d3 := beq_iff_eq.1 e3
    have HD : Hid (doS S o = (none, runS S o.m.id)) := Kit.hid (by unfold doS; rw [if_neg n1, if_neg n2, if_pos d3])
    have HJ := Kit.hid (run_lane o.m.id HL1.out HWL.out hn0 (by omega) HO1.out.ints.1)
    clear n1 n2 d3
    (with_reducible refine HJ.out.mono ?_); rintro e w2 ⟨rfl, hl2⟩
    have HL2 := Kit.hid (Ln.more hl2 (m := n + 60) (by omega))
    have hr2 := HRK.out _ _ _ hl2
    have HR2 := Kit.hid hr2
    clear hl2 HJ o0 o1 o2 o3 o4 o5 o6 o7 lo
    have r0 := blk_cell hr2 0
    have r1 := blk_cell hr2 1
    have r2 := blk_cell hr2 2
    have r3 := blk_cell hr2 3
    have f0 := blk_frozen hr2 0
    have f1 := blk_frozen hr2 1
    have f2 := blk_frozen hr2 2
    have f3 := blk_frozen hr2 3
    have lr := blk_lt hr2
    clear hr2
    go_wp2
    exact cell_tmp_ret rfl (w.heap.size + 1) _ _ _ _ rfl rfl (mem_store HR2.out) rfl ⟨by rw [HD.out]; rfl, by rw [HD.out]; exact HOWN.out _ _ _ _ _ _ _ HL2.out⟩
  · have e1 : (o.d == 1) = false := by assumption
    have n1 := beq_eq_false_iff_ne.1 e1
    have e2 : (o.d == 2) = false := by assumption
    have n2 := beq_eq_false_iff_ne.1 e2
    have e3 : (o.d == 3) = false := by assumption
    have n3 := beq_eq_false_iff_ne.1 e3
    have e4 : (o.d == 4) = true := by assumption
    have d4 := beq_iff_eq.1 e4
    have HD : Hid (doS S o = (none, weighS S o.m.id o.n)) := Kit.hid (by unfold doS; rw [if_neg n1, if_neg n2, if_neg n3, if_pos d4])
    have HJ := Kit.hid (weigh_lane o.m.id o.n HL1.out hn0 (by omega) HO1.out.ints.1)
    clear n1 n2 n3 d4
    (with_reducible refine HJ.out.mono ?_); rintro e w2 ⟨rfl, hl2⟩
    have HL2 := Kit.hid (Ln.more hl2 (m := n + 60) (by omega))
    have hr2 := HRK.out _ _ _ hl2
    have HR2 := Kit.hid hr2
    clear hl2 HJ o0 o1 o2 o3 o4 o5 o6 o7 lo
    have r0 := blk_cell hr2 0
    have r1 := blk_cell hr2 1
    have r2 := blk_cell hr2 2
    have r3 := blk_cell hr2 3
    have f0 := blk_frozen hr2 0
    have f1 := blk_frozen hr2 1
    have f2 := blk_frozen hr2 2
    have f3 := blk_frozen hr2 3
    have lr := blk_lt hr2
    clear hr2
    go_wp2
    exact cell_tmp_ret rfl (w.heap.size + 1) _ _ _ _ rfl rfl (mem_store HR2.out) rfl ⟨by rw [HD.out]; rfl, by rw [HD.out]; exact HOWN.out _ _ _ _ _ _ _ HL2.out⟩
  · have e1 : (o.d == 1) = false := by assumption
    have n1 := beq_eq_false_iff_ne.1 e1
    have e2 : (o.d == 2) = false := by assumption
    have n2 := beq_eq_false_iff_ne.1 e2
    have e3 : (o.d == 3) = false := by assumption
    have n3 := beq_eq_false_iff_ne.1 e3
    have e4 : (o.d == 4) = false := by assumption
    have n4 := beq_eq_false_iff_ne.1 e4
    have e5 : (o.d == 5) = true := by assumption
    have d5 := beq_iff_eq.1 e5
    have HD : Hid (doS S o = (some ⟨pickS S o.shut, 0, 0, 0⟩, runS S (pickS S o.shut))) := Kit.hid (by unfold doS; rw [if_neg n1, if_neg n2, if_neg n3, if_neg n4, if_pos d5])
    have HJ := Kit.hid (pick_lane As o.shut cs HL1.out HWL.out hn0 (by omega) HO1.out.shut HO1.out.sblk (by omega))
    obtain ⟨z, hz⟩ : ∃ z, z = pickS S o.shut := ⟨_, rfl⟩
    have HZI : Hid (int64 z) := Kit.hid (by rw [hz]; exact pick_int HWL.out _)
    rw [← hz] at HJ HD
    clear n1 n2 n3 n4 d5 hz
    (with_reducible refine HJ.out.mono ?_); rintro e w2 ⟨rfl, hl2⟩
    have HR2 := Kit.hid (HRK.out _ _ _ hl2)
    obtain ⟨G2, g1, g2, g3⟩ := hl2
    have HRU := Kit.hid (run_lane z g1 HWL.out (by omega) (by omega) HZI.out)
    have HL3 : Hid (∀ w3 S3 n3, Ln w2 G2 w3 lp S3 n3 → Ln W1 F w3 lp S3 n3) := Kit.hid (fun w3 S3 n3 hl => Ln.trans g2 g3 hl)
    clear g1 g2 g3 HJ o0 o1 o2 o3 o4 o5 o6 o7 lo
    go_wp2_with fail
    (with_reducible refine HRU.out.mono ?_); rintro e w3 ⟨rfl, hl3⟩
    have hl3' := HL3.out _ _ _ hl3
    have HL4 := Kit.hid (Ln.more hl3' (m := n + 60) (by omega))
    have hr2 := HRK.out _ _ _ hl3'
    have HR3 := Kit.hid hr2
    clear hl3 hl3' HRU
    have r0 := blk_cell hr2 0
    have r1 := blk_cell hr2 1
    have r2 := blk_cell hr2 2
    have r3 := blk_cell hr2 3
    have f0 := blk_frozen hr2 0
    have f1 := blk_frozen hr2 1
    have f2 := blk_frozen hr2 2
    have f3 := blk_frozen hr2 3
    have lr := blk_lt hr2
    clear hr2
    go_wp2
    exact cell_tmp_ret rfl (w.heap.size + 1) _ _ _ _ rfl rfl (mem_store HR3.out) rfl ⟨by rw [HD.out]; rfl, by rw [HD.out]; exact HOWN.out _ _ _ _ _ _ _ HL4.out⟩
  · have e1 : (o.d == 1) = false := by assumption
    have n1 := beq_eq_false_iff_ne.1 e1
    have e2 : (o.d == 2) = false := by assumption
    have n2 := beq_eq_false_iff_ne.1 e2
    have e3 : (o.d == 3) = false := by assumption
    have n3 := beq_eq_false_iff_ne.1 e3
    have e4 : (o.d == 4) = false := by assumption
    have n4 := beq_eq_false_iff_ne.1 e4
    have e5 : (o.d == 5) = false := by assumption
    have n5 := beq_eq_false_iff_ne.1 e5
    have e6 : (o.d == 6) = true := by assumption
    have d6 := beq_iff_eq.1 e6
    have HD : Hid (doS S o = (none, forgetS S o.n)) := Kit.hid (by unfold doS; rw [if_neg n1, if_neg n2, if_neg n3, if_neg n4, if_neg n5, if_pos d6])
    have HJ := Kit.hid (forget_lane o.n HL1.out hn0 (by omega) HO1.out.ints.2)
    clear n1 n2 n3 n4 n5 d6
    (with_reducible refine HJ.out.mono ?_); rintro e w2 ⟨rfl, hl2⟩
    have HL2 := Kit.hid (Ln.more hl2 (m := n + 60) (by omega))
    have hr2 := HRK.out _ _ _ hl2
    have HR2 := Kit.hid hr2
    clear hl2 HJ o0 o1 o2 o3 o4 o5 o6 o7 lo
    have r0 := blk_cell hr2 0
    have r1 := blk_cell hr2 1
    have r2 := blk_cell hr2 2
    have r3 := blk_cell hr2 3
    have f0 := blk_frozen hr2 0
    have f1 := blk_frozen hr2 1
    have f2 := blk_frozen hr2 2
    have f3 := blk_frozen hr2 3
    have lr := blk_lt hr2
    clear hr2
    go_wp2
    exact cell_tmp_ret rfl (w.heap.size + 1) _ _ _ _ rfl rfl (mem_store HR2.out) rfl ⟨by rw [HD.out]; rfl, by rw [HD.out]; exact HOWN.out _ _ _ _ _ _ _ HL2.out⟩
  · have e1 : (o.d == 1) = false := by assumption
    have n1 := beq_eq_false_iff_ne.1 e1
    have e2 : (o.d == 2) = false := by assumption
    have n2 := beq_eq_false_iff_ne.1 e2
    have e3 : (o.d == 3) = false := by assumption
    have n3 := beq_eq_false_iff_ne.1 e3
    have e4 : (o.d == 4) = false := by assumption
    have n4 := beq_eq_false_iff_ne.1 e4
    have e5 : (o.d == 5) = false := by assumption
    have n5 := beq_eq_false_iff_ne.1 e5
    have e6 : (o.d == 6) = false := by assumption
    have n6 := beq_eq_false_iff_ne.1 e6
    have HD : Hid (doS S o = (none, 0, S)) := Kit.hid (by unfold doS; rw [if_neg n1, if_neg n2, if_neg n3, if_neg n4, if_neg n5, if_neg n6])
    have HL2 : Hid (Ln w F W1 lp S (n + 60)) := Kit.hid ((HLF.out.self_below HB1.out).more (by omega))
    exact cell_tmp_ret rfl (w.heap.size + 1) _ _ _ _ rfl rfl HRX.out rfl ⟨by rw [HD.out]; rfl, by rw [HD.out]; exact HL2.out⟩
end
end Go.Proofs.Ytpgfenelckonoaa.La
namespace Go.Proofs.Ytpgfenelckonoaa.La
open Go.RowKit Go.Proofs.Ytpgfenelckonoaa.Kit Go.Proofs.Ytpgfenelckonoaa.ShM Go.Proofs.Ytpgfenelckonoaa.Sh Go.Proofs.Ytpgfenelckonoaa.QuM Go.Proofs.Ytpgfenelckonoaa.Qu Go.Proofs.Ytpgfenelckonoaa.LaM
open Go.Proofs.Ytpgfenelckonoaa.Ki (Row row_nil row_of iv iv_len iv_one)
set_option linter.unusedVariables false
set_option linter.unusedSimpArgs false
/-- One thing that is done, in memory. -/
def LAt (w : World) (ad : Addr) (i : Nat) (o : LOp) : Prop :=
  ∃ (Ap As : Option Addr) (cp cs : Nat), w.cell? (ad.add (i * 8)) = some (.int .i64 o.d) ∧ w.cell? (ad.add (i * 8 + 1)) = some (.int .i64 o.m.id) ∧ w.cell? (ad.add (i * 8 + 2)) = some (.int .i64 o.m.wt) ∧ w.cell? (ad.add (i * 8 + 3)) = some (.int .i64 o.m.v) ∧
    w.cell? (ad.add (i * 8 + 4)) = some (.int .i64 o.m.rem) ∧ w.cell? (ad.add (i * 8 + 5)) = some (.slice Ap o.p.length cp) ∧ w.cell? (ad.add (i * 8 + 6)) = some (.int .i64 o.n) ∧ w.cell? (ad.add (i * 8 + 7)) = some (.slice As o.shut.length cs) ∧
    SRow w Ap o.p ∧ o.p.length ≤ cp ∧ Cells w As (iv o.shut) ∧ int64 o.m.id ∧ int64 o.n
theorem LAt.below {w w' : World} {ad : Addr} {i : Nat} {o : LOp} (h : LAt w ad i o) (hb : Below w.heap.size w w') : LAt w' ad i o := by
  obtain ⟨Ap, As, cp, cs, h0, h1, h2, h3, h4, h5, h6, h7, h8, h9, h10, h11, h12⟩ := h
  exact ⟨Ap, As, cp, cs, (hb.cell (cell_lt h0)).trans h0, (hb.cell (cell_lt h1)).trans h1, (hb.cell (cell_lt h2)).trans h2, (hb.cell (cell_lt h3)).trans h3, (hb.cell (cell_lt h4)).trans h4, (hb.cell (cell_lt h5)).trans h5, (hb.cell (cell_lt h6)).trans h6, (hb.cell (cell_lt h7)).trans h7, h8.below hb, h9, cells_over h10 hb, h11, h12⟩
def LRow (w : World) (A : Option Addr) (l : List LOp) : Prop := ∀ i (h : i < l.length), ∃ ad : Addr, A = some ad ∧ LAt w ad i l[i]
theorem LRow.below {w w' : World} {A : Option Addr} {l : List LOp} (h : LRow w A l) (hb : Below w.heap.size w w') : LRow w' A l := fun i hi => by
  obtain ⟨ad, h1, h2⟩ := h i hi
  exact ⟨ad, h1, h2.below hb⟩
theorem lop_at {w : World} {A : Option Addr} {l : List LOp} {i : Nat} {o : LOp} (h : LRow w A l) (hi : l[i]? = some o) :
    ∃ (ad : Addr) (Ap As : Option Addr) (cp cs : Nat), A = some ad ∧ (w.cell? (ad.add (i * 8)) = some (.int .i64 o.d) ∧ w.cell? ⟨(ad.add (i * 8)).block, (ad.add (i * 8)).off + 1, none⟩ = some (.int .i64 o.m.id) ∧ w.cell? ⟨(ad.add (i * 8)).block, (ad.add (i * 8)).off + 2, none⟩ = some (.int .i64 o.m.wt) ∧
      w.cell? ⟨(ad.add (i * 8)).block, (ad.add (i * 8)).off + 3, none⟩ = some (.int .i64 o.m.v) ∧ w.cell? ⟨(ad.add (i * 8)).block, (ad.add (i * 8)).off + 4, none⟩ = some (.int .i64 o.m.rem) ∧ w.cell? ⟨(ad.add (i * 8)).block, (ad.add (i * 8)).off + 5, none⟩ = some (.slice Ap o.p.length cp) ∧
      w.cell? ⟨(ad.add (i * 8)).block, (ad.add (i * 8)).off + 6, none⟩ = some (.int .i64 o.n) ∧ w.cell? ⟨(ad.add (i * 8)).block, (ad.add (i * 8)).off + 7, none⟩ = some (.slice As o.shut.length cs)) ∧
      SRow w Ap o.p ∧ o.p.length ≤ cp ∧ Cells w As (iv o.shut) ∧ int64 o.m.id ∧ int64 o.n := by
  obtain ⟨hi', rfl⟩ := List.getElem?_eq_some_iff.1 hi
  obtain ⟨ad, hA, Ap, As, cp, cs, h0, h1, h2, h3, h4, h5, h6, h7, h8⟩ := h i hi'
  rw [add_part _ _ _ (by decide)] at h1 h2 h3 h4 h5 h6 h7
  exact ⟨ad, Ap, As, cp, cs, hA, ⟨h0, h1, h2, h3, h4, h5, h6, h7⟩, h8⟩
open Go.ChangeShapes Go.WideShapes Go.ChangeAt Go.Joins Go.Deep in
theorem open_steps {H : Type} {enc : TypeId × Value → H} {P : Program} {W : World} {base : Nat} {held : Bool} {t e : TypeId} {f0 f1 : Field} {fuel : Nat} {v : Value} {x : DataW H × List MemPlace}
    (ht : P.underlying t = some (.slice e)) (he : P.underlying e = some (.struct #[f0, f1])) (ce : P.cellsOf e = 2) (o0 : f0.offset = 0) (o1 : f1.offset = 1) (c0 : P.cellsOf f0.type = 1) (c1 : P.cellsOf f1.type = 1)
    (u0 : P.underlying f0.type = some (.int .i64)) (u1 : P.underlying f1.type = some (.int .i64)) (h : DataW.trod enc P W base (fun _ => true) held fuel t [v] = some x) :
    ∃ (A : Option Addr) (l : List St) (cap : Nat), v = .slice A l.length cap ∧ SRow W A l ∧ l.length ≤ cap ∧ cap ≤ maxLen := by
  haveI : Inhabited St := ⟨⟨0, 0⟩⟩
  rcases open_slice ht h with ⟨hcs, _⟩ | ⟨a, l, c, m, n, D, Pl, hcs, _, hl, hm, hmm, _, hx⟩
  · simp only [List.cons.injEq, and_true] at hcs
    subst hcs
    exact ⟨none, [], 0, rfl, (fun i hi => by cases hi), Nat.le_refl _, Nat.zero_le _⟩
  · simp only [List.cons.injEq, and_true] at hcs
    subst hcs
    simp only [if_true] at hmm
    subst hmm
    have each : ∀ i, i < m → ∃ o : St, W.cell? (a.add (i * 2)) = some (.int .i64 o.id) ∧ W.cell? (a.add (i * 2 + 1)) = some (.int .i64 o.wt) ∧ int64 o.id := by
      intro i hi
      obtain ⟨cs', h1, h2⟩ := hx i hi
      rw [ce] at h1
      obtain ⟨_, hlen, hcell⟩ := World.cells?_some h1
      obtain ⟨xs, k, hk, hxy, _, hxl, hfd⟩ := DataW.trod_struct he h2
      match xs, hxl, cs', hlen with
      | [y0, y1], _, [v0, v1], _ =>
        have g0 := hfd 0 f0 rfl
        have g1 := hfd 1 f1 rfl
        simp [o0, o1, c0, c1] at g0 g1
        have e0 := hcell 0 (by omega)
        have e1 := hcell 1 (by omega)
        rw [Kit.add_add] at e0 e1
        obtain ⟨n0, q0, _, w0⟩ := DataW.trod_int u0 g0
        obtain ⟨n1, q1, _, w1⟩ := DataW.trod_int u1 g1
        simp only [List.cons.injEq, and_true] at q0 q1
        subst q0 q1
        have b0 := Go.bounds_i64 w0
        exact ⟨⟨n0, n1⟩, by simpa using e0, by simpa using e1, b0⟩
    obtain ⟨O, hO⟩ := choose_lt each
    refine ⟨some a, (List.range l).map O, m, by simp, ?_, by simpa using hl, hm⟩
    intro i hi
    have hi' : i < m := by simp at hi; omega
    obtain ⟨h0, h1, h2⟩ := hO i hi'
    refine ⟨a, rfl, ?_⟩
    simp only [List.getElem_map, List.getElem_range]
    exact ⟨h0, h1, h2⟩
open Go.ChangeShapes Go.WideShapes Go.ChangeAt Go.Joins Go.Deep in
theorem open_ints {H : Type} {enc : TypeId × Value → H} {P : Program} {W : World} {base : Nat} {held : Bool} {t e : TypeId} {fuel : Nat} {v : Value} {x : DataW H × List MemPlace}
    (ht : P.underlying t = some (.slice e)) (ce : P.cellsOf e = 1) (ue : P.underlying e = some (.int .i64)) (h : DataW.trod enc P W base (fun _ => true) held fuel t [v] = some x) :
    ∃ (A : Option Addr) (l : List Int) (cap : Nat), v = .slice A l.length cap ∧ Cells W A (iv l) ∧ l.length ≤ cap ∧ cap ≤ maxLen := by
  rcases open_slice1 ht ce h with ⟨hcs, _⟩ | ⟨a, l, c, m, n, V, D, Pl, hcs, _, hl, hm, hmm, _, hx⟩
  · simp only [List.cons.injEq, and_true] at hcs
    subst hcs
    exact ⟨none, [], 0, rfl, (fun i hi => by cases hi), Nat.le_refl _, Nat.zero_le _⟩
  · simp only [List.cons.injEq, and_true] at hcs
    subst hcs
    simp only [if_true] at hmm
    subst hmm
    have each : ∀ i, i < m → ∃ y : Int, W.cell? (a.add i) = some (.int .i64 y) := by
      intro i hi
      obtain ⟨h1, h2⟩ := hx i hi
      obtain ⟨y, q, _, _⟩ := DataW.trod_int ue h2
      simp only [List.cons.injEq, and_true] at q
      exact ⟨y, by rw [h1, q]⟩
    obtain ⟨O, hO⟩ := choose_lt each
    refine ⟨some a, (List.range l).map O, m, by simp, ?_, by simpa using hl, hm⟩
    intro i hi
    rw [iv_len] at hi
    have hi' : i < m := by simp at hi; omega
    refine ⟨a, rfl, ?_⟩
    rw [hO i hi']
    simp [iv]
open Go.ChangeShapes Go.WideShapes Go.ChangeAt Go.Joins Go.Deep in
/-- The cells of one thing that is done. -/
theorem open_lcells {H : Type} {enc : TypeId × Value → H} {P : Program} {W : World} {base : Nat} {held : Bool} {e es ei : TypeId} {f0 f1 f2 f3 f4 g0 g1 g2 fa fb h0 h1 : Field} {fuel : Nat} {cs : List Value} {x : DataW H × List MemPlace}
    (he : P.underlying e = some (.struct #[f0, f1, f2, f3, f4])) (o0 : f0.offset = 0) (o1 : f1.offset = 1) (o2 : f2.offset = 5) (o3 : f3.offset = 6) (o4 : f4.offset = 7) (c0 : P.cellsOf f0.type = 1) (c1 : P.cellsOf f1.type = 4) (c2 : P.cellsOf f2.type = 1) (c3 : P.cellsOf f3.type = 1) (c4 : P.cellsOf f4.type = 1)
    (u0 : P.underlying f0.type = some (.int .i64)) (u3 : P.underlying f3.type = some (.int .i64)) (u1 : P.underlying f1.type = some (.struct #[g0, g1, g2])) (p0 : g0.offset = 0) (p1 : g1.offset = 1) (p2 : g2.offset = 2) (d0 : P.cellsOf g0.type = 1) (d1 : P.cellsOf g1.type = 1) (d2 : P.cellsOf g2.type = 2)
    (v0 : P.underlying g0.type = some (.int .i64)) (v1 : P.underlying g1.type = some (.int .i64)) (v2 : P.underlying g2.type = some (.struct #[fa, fb])) (q0 : fa.offset = 0) (q1 : fb.offset = 1) (e0 : P.cellsOf fa.type = 1) (e1 : P.cellsOf fb.type = 1) (x0 : P.underlying fa.type = some (.int .i64)) (x1 : P.underlying fb.type = some (.int .i64))
    (u2 : P.underlying f2.type = some (.slice es)) (us : P.underlying es = some (.struct #[h0, h1])) (ces : P.cellsOf es = 2) (r0 : h0.offset = 0) (r1 : h1.offset = 1) (s0 : P.cellsOf h0.type = 1) (s1 : P.cellsOf h1.type = 1) (y0 : P.underlying h0.type = some (.int .i64)) (y1 : P.underlying h1.type = some (.int .i64))
    (u4 : P.underlying f4.type = some (.slice ei)) (cei : P.cellsOf ei = 1) (uei : P.underlying ei = some (.int .i64))
    (hlen : cs.length = 8) (h : DataW.trod enc P W base (fun _ => true) held fuel e cs = some x) :
    ∃ (o : LOp) (Ap As : Option Addr) (cp cc : Nat), cs = [.int .i64 o.d, .int .i64 o.m.id, .int .i64 o.m.wt, .int .i64 o.m.v, .int .i64 o.m.rem, .slice Ap o.p.length cp, .int .i64 o.n, .slice As o.shut.length cc] ∧
      SRow W Ap o.p ∧ o.p.length ≤ cp ∧ Cells W As (iv o.shut) ∧ int64 o.m.id ∧ int64 o.n := by
  obtain ⟨xs, k, hk, hxy, _, hxl, hfd⟩ := DataW.trod_struct he h
  match xs, hxl, cs, hlen with
  | [y0', y1', y2', y3', y4'], _, [w0, w1, w2, w3, w4, w5, w6, w7], _ =>
    have a0 := hfd 0 f0 rfl
    have a1 := hfd 1 f1 rfl
    have a2 := hfd 2 f2 rfl
    have a3 := hfd 3 f3 rfl
    have a4 := hfd 4 f4 rfl
    simp [o0, o1, o2, o3, o4, c0, c1, c2, c3, c4] at a0 a1 a2 a3 a4
    obtain ⟨zs, k2, hk2, hzy, _, hzl, hgd⟩ := DataW.trod_struct u1 a1
    match zs, hzl with
    | [z0, z1, z2], _ =>
      have b0 := hgd 0 g0 rfl
      have b1 := hgd 1 g1 rfl
      have b2 := hgd 2 g2 rfl
      simp [p0, p1, p2, d0, d1, d2] at b0 b1 b2
      obtain ⟨ys, k3, hk3, hys, _, hyl, hyd⟩ := DataW.trod_struct v2 b2
      match ys, hyl with
      | [t0, t1], _ =>
        have l0 := hyd 0 fa rfl
        have l1 := hyd 1 fb rfl
        simp [q0, q1, e0, e1] at l0 l1
        obtain ⟨n0, m0, _, _⟩ := DataW.trod_int u0 a0
        obtain ⟨n6, m6, _, j6⟩ := DataW.trod_int u3 a3
        obtain ⟨n1, m1, _, j1⟩ := DataW.trod_int v0 b0
        obtain ⟨n2, m2, _, _⟩ := DataW.trod_int v1 b1
        obtain ⟨n3, m3, _, _⟩ := DataW.trod_int x0 l0
        obtain ⟨n4, m4, _, _⟩ := DataW.trod_int x1 l1
        obtain ⟨Ap, p, cp, rfl, hp, hpc, _⟩ := open_steps u2 us ces r0 r1 s0 s1 y0 y1 a2
        obtain ⟨As, sh, cc, rfl, hs, _, _⟩ := open_ints u4 cei uei a4
        simp only [List.cons.injEq, and_true] at m0 m1 m2 m3 m4 m6
        subst m0 m1 m2 m3 m4 m6
        have hb := Go.bounds_i64 j1
        have hb6 := Go.bounds_i64 j6
        exact ⟨⟨n0, ⟨n1, n2, n3, n4⟩, p, n6, sh⟩, Ap, As, cp, cc, rfl, hp, hpc, hs, hb, hb6⟩
set_option maxRecDepth 100000 in
open Go.ChangeShapes Go.WideShapes Go.ChangeAt Go.Joins Go.Deep in
/-- Rows of what is done, as an argument. -/
theorem open_lops {H : Type} {enc : TypeId × Value → H} {W : World} {r : Reach} {b0 base : Nat} {held : Bool} {v : Value} {d : DataW H} {ps : List MemPlace}
    (hv : Value.okWide Try.prog W r b0 45 v) (h : DataW.Trod enc Try.prog W base (fun _ => true) held 45 v d ps) :
    ∃ (A : Option Addr) (l : List LOp) (cap : Nat), v = .slice A l.length cap ∧ Hid (LRow W A l) ∧ l.length ≤ cap ∧ cap ≤ maxLen := by
  haveI : Inhabited LOp := ⟨⟨0, ⟨0, 0, 0, 0⟩, [], 0, []⟩⟩
  obtain ⟨A, len, cap, rfl⟩ := okWide_slice Try.underlying45 hv
  obtain ⟨fuel, hf⟩ := h
  rcases open_slice Try.underlying45 hf with ⟨hcs, _⟩ | ⟨x, l, c, m, n, D, Pl, hcs, _, hl, hm, hmm, _, hx⟩
  · simp [Value.cells] at hcs
    obtain ⟨rfl, rfl, rfl⟩ := hcs
    exact ⟨none, [], 0, rfl, (fun i hi => by cases hi), Nat.le_refl _, Nat.zero_le _⟩
  · simp [Value.cells] at hcs
    obtain ⟨rfl, rfl, rfl⟩ := hcs
    simp only [if_true] at hmm
    subst hmm
    have ce : Try.prog.cellsOf 55 = 8 := by kernel_rfl
    have each : ∀ i, i < m → ∃ o : LOp, LAt W x i o := by
      intro i hi
      obtain ⟨cs', h1, h2⟩ := hx i hi
      rw [ce] at h1
      obtain ⟨_, hlen, hcell⟩ := World.cells?_some h1
      obtain ⟨o, Ap, As, cp, cc, rfl, h8, h9, h10, h11, h12⟩ := open_lcells Try.underlying55 rfl rfl rfl rfl rfl (by kernel_rfl) (by kernel_rfl) (by kernel_rfl) (by kernel_rfl) (by kernel_rfl) Try.underlying3 Try.underlying3 Try.underlying35 rfl rfl rfl (by kernel_rfl) (by kernel_rfl) (by kernel_rfl) Try.underlying3 Try.underlying3 Try.underlying33 rfl rfl (by kernel_rfl) (by kernel_rfl) Try.underlying3 Try.underlying3 Try.underlying31 Try.underlying30 (by kernel_rfl) rfl rfl (by kernel_rfl) (by kernel_rfl) Try.underlying3 Try.underlying3 Try.underlying36 (by kernel_rfl) Try.underlying3 hlen h2
      have b0 := hcell 0 (by omega)
      have b1 := hcell 1 (by omega)
      have b2 := hcell 2 (by omega)
      have b3 := hcell 3 (by omega)
      have b4 := hcell 4 (by omega)
      have b5 := hcell 5 (by omega)
      have b6 := hcell 6 (by omega)
      have b7 := hcell 7 (by omega)
      rw [Kit.add_add] at b0 b1 b2 b3 b4 b5 b6 b7
      exact ⟨o, Ap, As, cp, cc, by simpa using b0, by simpa using b1, by simpa using b2, by simpa using b3, by simpa using b4, by simpa using b5, by simpa using b6, by simpa using b7, h8, h9, h10, h11, h12⟩
    obtain ⟨O, hO⟩ := choose_lt each
    refine ⟨some x, (List.range len).map O, m, by simp, ?_, by simpa using hl, hm⟩
    intro i hi
    have hi' : i < m := by simp at hi; omega
    refine ⟨x, rfl, ?_⟩
    simp only [List.getElem_map, List.getElem_range]
    exact hO i hi'
set_option maxRecDepth 100000 in
open Go.ChangeShapes Go.WideShapes Go.ChangeAt Go.Joins Go.Deep in
/-- One thing that is done, as an argument. -/
theorem open_lop {H : Type} {enc : TypeId × Value → H} {W : World} {r : Reach} {b0 base : Nat} {held : Bool} {v : Value} {d : DataW H} {ps : List MemPlace}
    (hv : Value.okWide Try.prog W r b0 55 v) (h : DataW.Trod enc Try.prog W base (fun _ => true) held 55 v d ps) :
    ∃ (o : LOp) (Ap As : Option Addr) (cp cs : Nat), v = .agg (opC o Ap As cp cs) ∧ Hid (SRow W Ap o.p ∧ o.p.length ≤ cp ∧ Cells W As (iv o.shut) ∧ int64 o.m.id ∧ int64 o.n) := by
  obtain ⟨cs, rfl, hsz⟩ := okWide_struct Try.underlying55 hv
  obtain ⟨fuel, hf⟩ := h
  have ce : Try.prog.cellsOf 55 = 8 := by kernel_rfl
  obtain ⟨cl⟩ := cs
  rw [ce] at hsz
  have hf' : DataW.trod enc Try.prog W base (fun _ => true) held fuel 55 cl = some (d, ps) := by simpa [Value.cells] using hf
  obtain ⟨o, Ap, As, cp, cc, rfl, h8, h9, h10, h11, h12⟩ := open_lcells Try.underlying55 rfl rfl rfl rfl rfl (by kernel_rfl) (by kernel_rfl) (by kernel_rfl) (by kernel_rfl) (by kernel_rfl) Try.underlying3 Try.underlying3 Try.underlying35 rfl rfl rfl (by kernel_rfl) (by kernel_rfl) (by kernel_rfl) Try.underlying3 Try.underlying3 Try.underlying33 rfl rfl (by kernel_rfl) (by kernel_rfl) Try.underlying3 Try.underlying3 Try.underlying31 Try.underlying30 (by kernel_rfl) rfl rfl (by kernel_rfl) (by kernel_rfl) Try.underlying3 Try.underlying3 Try.underlying36 (by kernel_rfl) Try.underlying3 (by simpa using hsz) hf'
  exact ⟨o, Ap, As, cp, cc, rfl, h8, h9, h10, h11, h12⟩
set_option maxRecDepth 100000 in
open Go.ChangeShapes Go.WideShapes Go.ChangeAt Go.Joins Go.Deep in
/-- A path, as an argument. -/
theorem open_path {H : Type} {enc : TypeId × Value → H} {W : World} {r : Reach} {b0 base : Nat} {held : Bool} {v : Value} {d : DataW H} {ps : List MemPlace}
    (hv : Value.okWide Try.prog W r b0 31 v) (h : DataW.Trod enc Try.prog W base (fun _ => true) held 31 v d ps) :
    ∃ (A : Option Addr) (l : List St) (cap : Nat), v = .slice A l.length cap ∧ Hid (SRow W A l) ∧ l.length ≤ cap ∧ cap ≤ maxLen := by
  obtain ⟨A, len, cap, rfl⟩ := okWide_slice Try.underlying31 hv
  obtain ⟨fuel, hf⟩ := h
  have hf' : DataW.trod enc Try.prog W base (fun _ => true) held fuel 31 [.slice A len cap] = some (d, ps) := by simpa [Value.cells] using hf
  obtain ⟨A', l, cap', h1, h2, h3, h4⟩ := open_steps Try.underlying31 Try.underlying30 (by kernel_rfl) rfl rfl (by kernel_rfl) (by kernel_rfl) Try.underlying3 Try.underlying3 hf'
  exact ⟨A', l, cap', h1, h2, h3, h4⟩
set_option maxRecDepth 100000 in
open Go.ChangeShapes Go.WideShapes Go.ChangeAt Go.Joins Go.Deep in
/-- A row of numbers, as an argument. -/
theorem open_nums {H : Type} {enc : TypeId × Value → H} {W : World} {r : Reach} {b0 base : Nat} {held : Bool} {v : Value} {d : DataW H} {ps : List MemPlace}
    (hv : Value.okWide Try.prog W r b0 36 v) (h : DataW.Trod enc Try.prog W base (fun _ => true) held 36 v d ps) :
    ∃ (A : Option Addr) (l : List Int) (cap : Nat), v = .slice A l.length cap ∧ Hid (Cells W A (iv l)) ∧ l.length ≤ cap ∧ cap ≤ maxLen := by
  obtain ⟨A, len, cap, rfl⟩ := okWide_slice Try.underlying36 hv
  obtain ⟨fuel, hf⟩ := h
  have hf' : DataW.trod enc Try.prog W base (fun _ => true) held fuel 36 [.slice A len cap] = some (d, ps) := by simpa [Value.cells] using hf
  obtain ⟨A', l, cap', h1, h2, h3, h4⟩ := open_ints Try.underlying36 (by kernel_rfl) Try.underlying3 hf'
  exact ⟨A', l, cap', h1, h2, h3, h4⟩
end Go.Proofs.Ytpgfenelckonoaa.La
namespace Go.Proofs.Ytpgfenelckonoaa.La
open Go.RowKit Go.Proofs.Ytpgfenelckonoaa.Kit Go.Proofs.Ytpgfenelckonoaa.ShM Go.Proofs.Ytpgfenelckonoaa.Sh Go.Proofs.Ytpgfenelckonoaa.QuM Go.Proofs.Ytpgfenelckonoaa.Qu Go.Proofs.Ytpgfenelckonoaa.LaM
open Go.Proofs.Ytpgfenelckonoaa.Ki (Row row_nil row_of iv iv_len iv_one)
set_option linter.unusedVariables false
set_option linter.unusedSimpArgs false
def fewO (o : LOp) : Bool := decide (o.p.length ≤ 8) && decide (o.shut.length ≤ 8)
def fewS (l : List LOp) : Bool := l.all fewO && decide (l.length ≤ 40)
theorem few_ok {l : List LOp} (h : fewS l = true) : (∀ o ∈ l, o.p.length ≤ 8 ∧ o.shut.length ≤ 8) ∧ l.length ≤ 40 := by
  unfold fewS fewO at h
  simp only [Bool.and_eq_true, List.all_eq_true, decide_eq_true_eq] at h
  exact h
set_option maxHeartbeats 1600000 in
theorem few_any (A : Option Addr) (l : List LOp) (cap : Nat) (w : World) (hr : Hid (LRow w A l)) (hl : l.length ≤ 9223372036854775807) :
    Calls Try.prog 16 #[.slice A l.length cap] w fun e w' => e = .returned (.bool (fewS l)) ∧ w' = w := by
  go_enter Try.func16, Try.ntmps16
  go_wp2_with fail
  go_loopw [3] (fun v3 wr => ∃ i : Nat, i ≤ l.length ∧ v3 = .int .i64 i ∧ wr = w ∧ Hid (∀ o ∈ l.take i, fewO o = true)) (fun i _ => l.length - (intOf i).toNat)
  case atStart => exact ⟨0, by omega, rfl, rfl, Kit.hid (by simp)⟩
  case round =>
    obtain ⟨i, hi, rfl, rfl, HP⟩ := hrel
    by_cases hlt : i < l.length
    · obtain ⟨o, ho⟩ : ∃ o, l[i]? = some o := ⟨_, List.getElem?_eq_getElem hlt⟩
      obtain ⟨ad, Ap, As, cp, cs, hA, ⟨_, _, _, _, _, c5, _, c7⟩, _⟩ := lop_at hr.out ho
      subst hA
      have HM := Kit.hid (List.mem_of_getElem? ho)
      have HT : Hid (l.take (i + 1) = l.take i ++ [o]) := Kit.hid (by rw [List.take_add_one, ho]; rfl)
      have hil : (i : Int) < (l.length : Int) := by omega
      have z1 : (0 : Int) ≤ (i : Int) := by omega
      clear ho
      by_cases h1 : o.p.length ≤ 8
      · have g1 : decide ((8 : Int) < (o.p.length : Int)) = false := decide_eq_false (by omega)
        by_cases h2 : o.shut.length ≤ 8
        · have g2 : decide ((8 : Int) < (o.shut.length : Int)) = false := decide_eq_false (by omega)
          have HPN : Hid (∀ o ∈ l.take (i + 1), fewO o = true) := Kit.hid (by
            intro y hy
            rw [HT.out, List.mem_append] at hy
            rcases hy with hy | hy
            · exact HP.out y hy
            · rw [List.mem_singleton.1 hy]
              unfold fewO
              rw [decide_eq_true h1, decide_eq_true h2]; rfl)
          go_wp2_with fail
          go_roundw
          case rel => exact ⟨i + 1, by omega, by go_num, by first | trivial | rfl, HPN⟩
          case measure => simp [intOf]; omega
        · have g2 : decide ((8 : Int) < (o.shut.length : Int)) = true := decide_eq_true (by omega)
          have HF : Hid (fewS l = false) := Kit.hid (by
            unfold fewS
            rw [Bool.and_eq_false_iff]
            left
            rw [List.all_eq_false]
            exact ⟨o, HM.out, by unfold fewO; rw [decide_eq_false h2]; simp⟩)
          go_wp2
          go_ret
          rw [HF.out]
          exact ⟨rfl, rfl⟩
      · have g1 : decide ((8 : Int) < (o.p.length : Int)) = true := decide_eq_true (by omega)
        have HF : Hid (fewS l = false) := Kit.hid (by
          unfold fewS
          rw [Bool.and_eq_false_iff]
          left
          rw [List.all_eq_false]
          exact ⟨o, HM.out, by unfold fewO; rw [decide_eq_false h1]; simp⟩)
        go_wp2
        go_ret
        rw [HF.out]
        exact ⟨rfl, rfl⟩
    · obtain rfl : i = l.length := by omega
      have HF : Hid (fewS l = decide ((l.length : Int) ≤ 40)) := Kit.hid (by
        have h1 := HP.out
        rw [List.take_length] at h1
        unfold fewS
        rw [List.all_eq_true.2 h1, Bool.true_and]
        exact decide_eq_decide.2 ⟨fun h => by omega, fun h => by omega⟩)
      go_wp2
      go_ret
      rw [HF.out]
      exact ⟨rfl, rfl⟩
theorem Ln.blw {w w' : World} {lp n : Nat} {S : LS} (h : Ln w (fun _ => False) w' lp S n) : Below w.heap.size w w' := h.kept.toBelow fun k hk => hk.elim
/-- What was given ahead of the lane is not the lane's. -/
theorem op_mem {w wr : World} {G : Nat → Prop} {o : LOp} {Ap As : Option Addr} {cp cs : Nat} (hb : Below w.heap.size w wr) (hG : ∀ k, G k → w.heap.size ≤ k) (h : SRow w Ap o.p ∧ o.p.length ≤ cp ∧ Cells w As (iv o.shut) ∧ int64 o.m.id ∧ int64 o.n) : OpM wr G o Ap As cp cs := by
  obtain ⟨h1, h2, h3, h4⟩ := h
  refine ⟨h1.below hb, h2, fun hp a ha => ?_, cells_over h3 hb, fun hs a ha => ?_, h4⟩
  · obtain ⟨ad, e, c, _⟩ := h1 0 (List.length_pos_iff.2 hp)
    rw [e] at ha
    cases ha
    have := cell_lt c
    have e0 : a.add (0 * 2) = a := rfl
    rw [e0] at this
    exact ⟨Nat.lt_of_lt_of_le this hb.size, fun hg => by have := hG _ hg; omega⟩
  · obtain ⟨ad, e, c⟩ := h3 0 (by rw [iv_len]; exact List.length_pos_iff.2 hs)
    rw [e] at ha
    cases ha
    have := cell_lt c
    have e0 : a.add 0 = a := rfl
    rw [e0] at this
    exact ⟨Nat.lt_of_lt_of_le this hb.size, fun hg => by have := hG _ hg; omega⟩
theorem Ln.ge {w w' : World} {lp n : Nat} {S : LS} (h : Ln w (fun _ => False) w' lp S n) : ∃ G, LF G w' lp S n ∧ (∀ k, G k → w.heap.size ≤ k) ∧ ∀ w'' S' n', Ln w' G w'' lp S' n' → Ln w (fun _ => False) w'' lp S' n' := by
  obtain ⟨G, h1, h2, h3⟩ := h
  exact ⟨G, h1, fun k hk => (h2 k hk).resolve_left id, fun w'' S' n' hl => Ln.trans h2 h3 hl⟩
set_option maxHeartbeats 1600000 in
theorem walked_lane (A : Option Addr) (l : List LOp) (cap : Nat) (w : World) (hr : Hid (LRow w A l)) (hf : fewS l = true) :
    Calls Try.prog 17 #[.slice A l.length cap] w fun e w' => ∃ lp, e = .returned (.pointer (some ⟨lp, 0, none⟩)) ∧ Ln w (fun _ => False) w' lp (walkedS l) (60 * l.length + 1) := by
  have HN := Kit.hid (new_lane w)
  obtain ⟨hf8, hf40⟩ := few_ok hf
  have HF8 := Kit.hid hf8
  have HDO : Hid (∀ (o : LOp) (lp n : Nat) (S : LS) (w' : World) (Ap As : Option Addr) (cp cs : Nat), Ln w (fun _ => False) w' lp S n → WL S → (SRow w Ap o.p ∧ o.p.length ≤ cp ∧ Cells w As (iv o.shut) ∧ int64 o.m.id ∧ int64 o.n) → o.p.length ≤ 8 → o.shut.length ≤ 8 → 1 ≤ n → n ≤ 3700 →
      Calls Try.prog 21 #[.pointer (some ⟨lp, 0, none⟩), .agg (opC o Ap As cp cs)] w' fun e w'' => e = .returned (.tuple #[memV (mO (doS S o).1), .int .i64 (doS S o).2.1]) ∧ Ln w (fun _ => False) w'' lp (doS S o).2.2 (n + 60)) := Kit.hid (fun o lp n S w' Ap As cp cs hl wl hm h1 h2 h3 h4 => by
    obtain ⟨G, g1, g2, g3⟩ := hl.ge
    refine (do_lane o Ap As cp cs g1 wl (op_mem hl.blw g2 hm) h1 h2 h3 h4).mono ?_
    rintro e w'' ⟨he, hl'⟩
    exact ⟨he, g3 _ _ _ hl'⟩)
  unfold opC memV at HDO
  clear hf hf8
  go_enter Try.func17, Try.ntmps17
  go_wp2_with fail
  (with_reducible refine HN.out.mono ?_); rintro e w1 ⟨lp, rfl, hl, _⟩
  have HL := Kit.hid hl
  clear hl HN
  go_wp2_with fail
  go_loopw [4] (fun v4 wr => ∃ i : Nat, i ≤ l.length ∧ v4 = .int .i64 i ∧ Hid (Ln w (fun _ => False) wr lp (walkedS (l.take i)) (60 * i + 1))) (fun i _ => l.length - (intOf i).toNat)
  case atStart => exact ⟨0, by omega, rfl, HL⟩
  case round =>
    obtain ⟨i, hi, rfl, HI⟩ := hrel
    by_cases hlt : i < l.length
    · obtain ⟨o, ho⟩ : ∃ o, l[i]? = some o := ⟨_, List.getElem?_eq_getElem hlt⟩
      obtain ⟨ad, Ap, As, cp, cs, hA, ⟨c0, c1, c2, c3, c4, c5, c6, c7⟩, _⟩ := lop_at (hr.out.below HI.out.blw) ho
      obtain ⟨ad', Ap', As', cp', cs', hA', ⟨d0, d1, d2, d3, d4, d5, d6, d7⟩, hm⟩ := lop_at hr.out ho
      have hsame : Ap' = Ap ∧ cp' = cp ∧ As' = As ∧ cs' = cs := by
        rw [hA] at hA'
        cases hA'
        have e5 := ((HI.out.blw.cell (cell_lt d5)).trans d5).symm.trans c5
        have e7 := ((HI.out.blw.cell (cell_lt d7)).trans d7).symm.trans c7
        simp only [Option.some.injEq, Value.slice.injEq] at e5 e7
        exact ⟨e5.1, e5.2.2, e7.1, e7.2.2⟩
      obtain ⟨rfl, rfl, rfl, rfl⟩ := hsame
      have hmem := List.mem_of_getElem? ho
      have HWL : Hid (WL (walkedS (l.take i))) := Kit.hid (walkedS_ok _ fun o ho => (HF8.out o (List.mem_of_mem_take ho)).1)
      have HS := Kit.hid (walkedS_snoc l i o ho)
      have HC := Kit.hid (HDO.out o lp _ _ wr Ap' As' cp' cs' HI.out HWL.out hm (HF8.out o hmem).1 (HF8.out o hmem).2 (by omega) (by omega))
      subst hA
      have hil : (i : Int) < (l.length : Int) := by omega
      have z1 : (0 : Int) ≤ (i : Int) := by omega
      obtain ⟨mm, hmm⟩ : ∃ mm, mm = mO (doS (walkedS (l.take i)) o).1 := ⟨_, rfl⟩
      rw [← hmm] at HC
      clear ho d0 d1 d2 d3 d4 d5 d6 d7 hA' hm hmem hmm
      go_wp2_with fail
      (with_reducible refine HC.out.mono ?_); rintro e w2 ⟨rfl, hl2⟩
      have HI2 : Hid (Ln w (fun _ => False) w2 lp (walkedS (l.take (i + 1))) (60 * (i + 1) + 1)) := Kit.hid (by
        rw [HS.out]
        exact hl2.more (by omega))
      clear hl2 HC c0 c1 c2 c3 c4 c5 c6 c7
      go_wp2_with fail
      go_roundw
      case rel => exact ⟨i + 1, by omega, by go_num, HI2⟩
      case measure => simp [intOf]; omega
    · obtain rfl : i = l.length := by omega
      rw [List.take_length] at HI
      go_wp2
      go_ret
      exact ⟨lp, rfl, HI.out⟩
end Go.Proofs.Ytpgfenelckonoaa.La
namespace Go.Proofs.Ytpgfenelckonoaa.La
open Go.RowKit Go.Proofs.Ytpgfenelckonoaa.Kit Go.Proofs.Ytpgfenelckonoaa.ShM Go.Proofs.Ytpgfenelckonoaa.Sh Go.Proofs.Ytpgfenelckonoaa.QuM Go.Proofs.Ytpgfenelckonoaa.Qu Go.Proofs.Ytpgfenelckonoaa.LaM
open Go.Proofs.Ytpgfenelckonoaa.Ki (Row row_nil row_of iv iv_len iv_one)
set_option linter.unusedVariables false
set_option linter.unusedSimpArgs false
def aw1 : LS := (enterS LS.new [⟨2, 1⟩] ⟨5, 1, 0, 0⟩).2
def aw2 : LS := (enterS aw1 [] ⟨6, 1, 0, 0⟩).2
theorem aw_1 : (enterS LS.new [⟨2, 1⟩] ⟨5, 1, 0, 0⟩).1 = 0 := by decide +kernel
theorem aw_2 : (enterS aw1 [] ⟨6, 1, 0, 0⟩).1 = 0 := by decide +kernel
theorem aw_q0 : (aw2.Q 0).1 = [⟨2, 1, 0, 0⟩, ⟨6, 1, 0, 0⟩] := by rfl
theorem aw_q2 : (aw2.Q 2).1 = [⟨5, 1, 0, 0⟩] := by rfl
theorem aw_t : aw2.tasks = [5, 6] := by rfl
theorem aw_n2 (shut : List Int) : nextF aw2 shut 15 2 = 5 := by
  unfold nextF
  rw [aw_q2]
  unfold nextF.go
  rw [aw_t, if_pos (by decide)]
theorem aw_3 : pickS aw2 [] = 5 := by
  unfold pickS nextF
  rw [aw_q0]
  unfold nextF.go
  rw [aw_t, if_neg (by decide), if_neg (by decide), aw_n2, if_pos (by decide)]
theorem aw_4 : pickS aw2 [2] = 6 := by
  unfold pickS nextF
  rw [aw_q0]
  unfold nextF.go
  rw [aw_t, if_neg (by decide), if_pos (by decide)]
  unfold nextF.go
  rw [aw_t, if_pos (by decide)]
theorem aw_5 : wayS aw2 5 = [2] := by decide +kernel
theorem step_lit {w : World} (x y : Int) (hx : int64 x) : SRow (w.alloc (.cells #[.int .i64 x, .int .i64 y] 30)) (some ⟨w.heap.size, 0, none⟩) [⟨x, y⟩] := fun i hi => by
  have hi : i < 1 := by simpa using hi
  obtain rfl : i = 0 := by omega
  refine ⟨_, rfl, ?_, ?_, hx⟩
  · rw [add_lit, blk_cell (blk_new w _)]; rfl
  · rw [add_lit, blk_cell (blk_new w _)]; rfl
theorem num_lit (w : World) (x : Int) : Cells (w.alloc (.cells #[.int .i64 x] 3)) (some ⟨w.heap.size, 0, none⟩) (iv [x]) := lit_int w x
set_option maxHeartbeats 1600000 in
theorem awake_lane (w : World) : Calls Try.prog 8 #[] w fun e w' => e = .returned (.bool true) ∧ Below w.heap.size w w' := by
  have HN := Kit.hid (new_lane w)
  have w1l : WL aw1 := WL.new.enter [⟨2, 1⟩] (by simp) ⟨5, 1, 0, 0⟩
  have w2l : WL aw2 := w1l.enter [] (by simp) ⟨6, 1, 0, 0⟩
  have HW1 := Kit.hid w1l
  have HW2 := Kit.hid w2l
  clear w1l w2l
  go_enter Try.func8, Try.ntmps8
  go_wp2_with fail
  (with_reducible refine HN.out.mono ?_); rintro e w1 ⟨lp, rfl, hl, _⟩
  obtain ⟨G1, g1, g2, g3⟩ := hl.ge
  obtain ⟨wA, hwA⟩ : ∃ wA, wA = w1.alloc (.cells #[.int .i64 2, .int .i64 1] 30) := ⟨_, rfl⟩
  have hbA : Below w1.heap.size w1 wA := by rw [hwA]; exact (Below.refl _ _).alloc (Nat.le_refl _) _
  have hszA : wA.heap.size = w1.heap.size + 1 := by rw [hwA]; simp
  have HE1 := Kit.hid (enter_lane (w := wA) (lp := lp) (n := 1) (some ⟨w1.heap.size, 0, none⟩) [⟨2, 1⟩] 1 ⟨5, 1, 0, 0⟩ (g1.below hbA) WL.new (by rw [hwA]; exact step_lit 2 1 ⟨by decide, by decide⟩) (fun _ a ha => by
    cases ha
    exact ⟨by show w1.heap.size < _; omega, fun hg => by have := g1.lt _ hg; have : w1.heap.size < w1.heap.size := this; omega⟩) (by simp) (by simp) (by omega) (by omega) ⟨by decide, by decide⟩)
  rw [aw_1] at HE1
  simp only [List.length_singleton] at HE1
  have HG3 : Hid (∀ w'' S' n', Ln wA G1 w'' lp S' n' → Ln w (fun _ => False) w'' lp S' n') := Kit.hid (fun w'' S' n' hl' => g3 w'' S' n' (Ln.trans (fun k hk => .inl hk) ((Kept.refl G1 w1).below hbA) hl'))
  clear hl g1 g2 g3 hbA hszA HN
  go_wp2_with fail
  rw [← hwA]
  clear hwA
  (with_reducible refine HE1.out.mono ?_); rintro e w2 ⟨rfl, hl2⟩
  obtain ⟨G2, g1, g2, g3⟩ := (HG3.out _ _ _ hl2).ge
  have HE2 := Kit.hid (enter_lane (w := w2) (lp := lp) (n := 1 + 60) none [] 0 ⟨6, 1, 0, 0⟩ g1 HW1.out (fun i hi => by cases hi) (fun h => absurd rfl h) (by simp) (by simp) (by omega) (by omega) ⟨by decide, by decide⟩)
  rw [show (enterS (enterS LS.new [⟨2, 1⟩] ⟨5, 1, 0, 0⟩).2 [] ⟨6, 1, 0, 0⟩) = enterS aw1 [] ⟨6, 1, 0, 0⟩ from rfl, aw_2] at HE2
  simp only [List.length_nil] at HE2
  have HG4 := Kit.hid g3
  clear hl2 g1 g2 g3 HE1 HG3
  go_wp2_with fail
  (with_reducible refine HE2.out.mono ?_); rintro e w3 ⟨rfl, hl3⟩
  obtain ⟨G3, g1, g2, g3⟩ := (HG4.out _ _ _ hl3).ge
  have HP1 := Kit.hid (pick_lane (w := w3) (lp := lp) none [] 0 g1 HW2.out (by omega) (by omega) (fun i hi => by cases hi) (fun h => absurd rfl h) (by simp))
  rw [show pickS (enterS aw1 [] ⟨6, 1, 0, 0⟩).2 [] = pickS aw2 [] from rfl, aw_3] at HP1
  simp only [List.length_nil] at HP1
  have HG5 := Kit.hid g3
  clear hl3 g1 g2 g3 HE2 HG4
  go_wp2_with fail
  (with_reducible refine HP1.out.mono ?_); rintro e w4 ⟨rfl, hl4⟩
  obtain ⟨G4, g1, g2, g3⟩ := (HG5.out _ _ _ hl4).ge
  obtain ⟨wB, hwB⟩ : ∃ wB, wB = w4.alloc (.cells #[.int .i64 2] 3) := ⟨_, rfl⟩
  have hbB : Below w4.heap.size w4 wB := by rw [hwB]; exact (Below.refl _ _).alloc (Nat.le_refl _) _
  have hszB : wB.heap.size = w4.heap.size + 1 := by rw [hwB]; simp
  have HP2 := Kit.hid (pick_lane (w := wB) (lp := lp) (some ⟨w4.heap.size, 0, none⟩) [2] 1 (g1.below hbB) HW2.out (by omega) (by omega) (by rw [hwB]; exact num_lit w4 2) (fun _ a ha => by
    cases ha
    exact ⟨by show w4.heap.size < _; omega, fun hg => by have := g1.lt _ hg; have : w4.heap.size < w4.heap.size := this; omega⟩) (by simp))
  rw [show pickS (enterS aw1 [] ⟨6, 1, 0, 0⟩).2 [2] = pickS aw2 [2] from rfl, aw_4] at HP2
  simp only [List.length_singleton] at HP2
  have HG6 : Hid (∀ w'' S' n', Ln wB G4 w'' lp S' n' → Ln w (fun _ => False) w'' lp S' n') := Kit.hid (fun w'' S' n' hl' => g3 w'' S' n' (Ln.trans (fun k hk => .inl hk) ((Kept.refl G4 w4).below hbB) hl'))
  clear hl4 g1 g2 g3 hbB hszB HP1 HG5
  go_wp2_with fail
  rw [← hwB]
  clear hwB
  (with_reducible refine HP2.out.mono ?_); rintro e w5 ⟨rfl, hl5⟩
  have hln5 := HG6.out _ _ _ hl5
  have HB5 := Kit.hid hln5.blw
  obtain ⟨G5, g1, g2, g3⟩ := hln5.ge
  have HWY := Kit.hid (way_lane (w := w5) (lp := lp) 5 g1 HW2.out ⟨by decide, by decide⟩)
  rw [show wayS (enterS aw1 [] ⟨6, 1, 0, 0⟩).2 5 = wayS aw2 5 from rfl, aw_5] at HWY
  clear hl5 hln5 g1 g2 g3 HP2 HG6
  go_wp2_with fail
  (with_reducible refine HWY.out.mono ?_); rintro e w6 ⟨v6, rfl, hr6, hb6⟩
  obtain ⟨wC, hwC⟩ : ∃ wC, wC = w6.alloc (.cells #[.int .i64 2] 3) := ⟨_, rfl⟩
  have hbC : Below w6.heap.size w6 wC := by rw [hwC]; exact (Below.refl _ _).alloc (Nat.le_refl _) _
  have hr2 : Row 0 wC (.slice (some ⟨w6.heap.size, 0, none⟩) 1 1) [2] := row_of (l := [2]) (Nat.zero_le _) (by rw [hwC]; exact blk_new _ _) (by simp) (by decide) rfl (fun j x hj => by
    match j, hj with
    | 0, hj => simpa using hj)
  have HSM := Kit.hid (rsame_any (hr6.below hbC) hr2 (by simp) (by simp))
  have HBC := Kit.hid (HB5.out.trans ((hb6.trans (hbC.mono hb6.size)).mono HB5.out.size))
  rw [decide_eq_true rfl] at HSM
  clear hr6 hb6 hbC hr2 HWY
  go_wp2_with fail
  rw [← hwC]
  clear hwC
  (with_reducible refine HSM.out.mono ?_); rintro e w7 ⟨rfl, hb7⟩
  have HB7 := Kit.hid (HBC.out.trans (hb7.mono HBC.out.size))
  clear hb7 HSM
  go_wp2
  go_ret
  exact ⟨rfl, HB7.out⟩
end Go.Proofs.Ytpgfenelckonoaa.La
