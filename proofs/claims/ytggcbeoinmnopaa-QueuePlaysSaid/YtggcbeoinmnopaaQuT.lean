/- Rows of members as they are told, compared; rows of what is done, as arguments; two queues side by side. -/
import Derived.Test.YtggcbeoinmnopaaQuR
namespace Go.Proofs.Ytggcbeoinmnopaa.Qu
open Go.RowKit Go.Proofs.Ytggcbeoinmnopaa.Kit Go.Proofs.Ytggcbeoinmnopaa.ShM Go.Proofs.Ytggcbeoinmnopaa.Sh Go.Proofs.Ytggcbeoinmnopaa.QuM
set_option linter.unusedVariables false
set_option linter.unusedSimpArgs false
def TRow (w : World) (A : Option Addr) (l : List Mem) : Prop :=
  ∀ i (h : i < l.length), ∃ ad : Addr, A = some ad ∧ w.cell? (ad.add (i * 4)) = some (.int .i64 l[i].id) ∧ w.cell? (ad.add (i * 4 + 1)) = some (.int .i64 l[i].wt) ∧ w.cell? (ad.add (i * 4 + 2)) = some (.int .i64 l[i].v) ∧ w.cell? (ad.add (i * 4 + 3)) = some (.int .i64 l[i].rem)
theorem trow_below {w w1 : World} {A : Option Addr} {l : List Mem} (h : Hid (TRow w A l)) (hb : Below w.heap.size w w1) : Hid (TRow w1 A l) := by
  intro i hi
  obtain ⟨ad, rfl, h0, h1, h2, h3⟩ := h.out i hi
  exact ⟨ad, rfl, (hb.cell (cell_lt h0)).trans h0, (hb.cell (cell_lt h1)).trans h1, (hb.cell (cell_lt h2)).trans h2, (hb.cell (cell_lt h3)).trans h3⟩
theorem trow_same {w w' : World} {A : Option Addr} {l : List Mem} (h : Hid (TRow w A l)) (hs : ∀ ad, A = some ad → w'.heap[ad.block]? = w.heap[ad.block]?) : Hid (TRow w' A l) := by
  intro i hi
  obtain ⟨ad, rfl, h0, h1, h2, h3⟩ := h.out i hi
  have := hs ad rfl
  exact ⟨ad, rfl, (cell_blk (by rw [add_blk]; exact this)).trans h0, (cell_blk (by rw [add_blk]; exact this)).trans h1, (cell_blk (by rw [add_blk]; exact this)).trans h2, (cell_blk (by rw [add_blk]; exact this)).trans h3⟩
theorem t_at {w : World} {A : Option Addr} {l : List Mem} {i : Nat} {x : Mem} (h : Hid (TRow w A l)) (hi : l[i]? = some x) :
    ∃ ad : Addr, A = some ad ∧ w.cell? (ad.add (i * 4)) = some (.int .i64 x.id) ∧ w.cell? ⟨(ad.add (i * 4)).block, (ad.add (i * 4)).off + 1, none⟩ = some (.int .i64 x.wt) ∧ w.cell? ⟨(ad.add (i * 4)).block, (ad.add (i * 4)).off + 2, none⟩ = some (.int .i64 x.v) ∧ w.cell? ⟨(ad.add (i * 4)).block, (ad.add (i * 4)).off + 3, none⟩ = some (.int .i64 x.rem) := by
  obtain ⟨h1, rfl⟩ := List.getElem?_eq_some_iff.1 hi
  obtain ⟨ad, rfl, c0, c1, c2, c3⟩ := h.out i h1
  rw [add_part _ _ _ (by decide)] at c1 c2 c3
  exact ⟨ad, rfl, c0, c1, c2, c3⟩
theorem flatM_get (base : Int) : ∀ (l : List Mem) (i : Nat) (h : i < l.length), (flatM base l)[i * 4]? = some (.int .i64 l[i].id) ∧ (flatM base l)[i * 4 + 1]? = some (.int .i64 l[i].wt) ∧ (flatM base l)[i * 4 + 2]? = some (.int .i64 (l[i].v - base)) ∧ (flatM base l)[i * 4 + 3]? = some (.int .i64 l[i].rem)
  | [], i, h => absurd h (Nat.not_lt_zero _)
  | x :: l, 0, h => by simp [flatM]
  | x :: l, i + 1, h => by
    have := flatM_get base l i (by simpa using h)
    have e : flatM base (x :: l) = .int .i64 x.id :: .int .i64 x.wt :: .int .i64 (x.v - base) :: .int .i64 x.rem :: flatM base l := rfl
    rw [e, show (i + 1) * 4 = i * 4 + 1 + 1 + 1 + 1 by omega]
    simpa using this
theorem told_len (base : Int) (L : List Mem) : (told base L).length = L.length := by simp [told]
theorem trow_cells {w : World} {A : Option Addr} {L : List Mem} {base : Int} (h : Cells w A (flatM base L)) : Hid (TRow w A (told base L)) := by
  intro i hi
  rw [told_len] at hi
  obtain ⟨h0, h1, h2, h3⟩ := flatM_get base L i hi
  obtain ⟨l0, e0⟩ := List.getElem?_eq_some_iff.1 h0
  obtain ⟨l1, e1⟩ := List.getElem?_eq_some_iff.1 h1
  obtain ⟨l2, e2⟩ := List.getElem?_eq_some_iff.1 h2
  obtain ⟨l3, e3⟩ := List.getElem?_eq_some_iff.1 h3
  obtain ⟨ad, rfl, c0⟩ := h _ l0
  obtain ⟨a1, f1, c1⟩ := h _ l1
  obtain rfl := Option.some.inj f1
  obtain ⟨a2, f2, c2⟩ := h _ l2
  obtain rfl := Option.some.inj f2
  obtain ⟨a3, f3, c3⟩ := h _ l3
  obtain rfl := Option.some.inj f3
  refine ⟨ad, rfl, ?_, ?_, ?_, ?_⟩
  · rw [c0, e0]; simp [told]
  · rw [c1, e1]; simp [told]
  · rw [c2, e2]; simp [told]
  · rw [c3, e3]; simp [told]
theorem mem_eq (a b : Mem) : (a.id == b.id && (a.wt == b.wt && (a.v == b.v && a.rem == b.rem))) = decide (a = b) := by
  cases a; cases b
  rw [Bool.eq_iff_iff]
  simp
theorem equalIn_pace (a b c d : Int) (n : Nat) (w : World) : (Op.equalIn (n + 2) 30 (.agg #[.int .i64 a, .int .i64 b]) (.agg #[.int .i64 c, .int .i64 d])).run Try.prog w = .ok (decide (a = c ∧ b = d)) w := by
  have u3 := Try.underlying3
  have a3 := Try.isAgg3
  have z3 := Try.sizeOf3
  have hS : Try.prog.underlying 30 = some (.struct (Try.prog.fieldsOf 30)) := by kernel_rfl
  rw [run_equalIn_agg w (n + 1) 30 _ _ hS (by kernel_rfl)]
  simp only [Program.fieldsOf, Try.underlying30]
  go_simp
  by_cases h : a = c <;> by_cases h2 : b = d <;> simp [h, h2]
theorem equalIn_mem (a b : Mem) (w : World) : (Op.equalIn 10000 32 (.agg #[.int .i64 a.id, .int .i64 a.wt, .int .i64 a.v, .int .i64 a.rem]) (.agg #[.int .i64 b.id, .int .i64 b.wt, .int .i64 b.v, .int .i64 b.rem])).run Try.prog w = .ok (decide (a = b)) w := by
  have u3 := Try.underlying3
  have a3 := Try.isAgg3
  have z3 := Try.sizeOf3
  have a30 := Try.isAgg30
  have z30 := Try.sizeOf30
  have hp := fun (n : Nat) (w : World) => equalIn_pace a.v a.rem b.v b.rem n w
  have hS : Try.prog.underlying 32 = some (.struct (Try.prog.fieldsOf 32)) := by kernel_rfl
  rw [show (10000 : Nat) = 9999 + 1 from rfl, run_equalIn_agg w 9999 32 _ _ hS (by kernel_rfl)]
  simp only [Program.fieldsOf, Try.underlying32]
  rw [← mem_eq]
  have hp2 := hp 9997 w
  go_simp
  by_cases h : a.id = b.id <;> by_cases h2 : a.wt = b.wt <;> by_cases h3 : a.v = b.v <;> by_cases h4 : a.rem = b.rem <;> simp [h, h2, h3, h4]
theorem neq_mem (a b : Mem) (w : World) : (binOp .neq 32 (.agg #[.int .i64 a.id, .int .i64 a.wt, .int .i64 a.v, .int .i64 a.rem]) (.agg #[.int .i64 b.id, .int .i64 b.wt, .int .i64 b.v, .int .i64 b.rem])).run Try.prog w = .ok (.bool (!decide (a = b))) w := by
  rw [run_neq_struct, equalIn_mem]
  rfl
theorem mext_upto {la lb : List Mem} (hl : la.length = lb.length) (h : ∀ j, j < la.length → la[j]? = lb[j]?) : la = lb := by
  apply List.ext_getElem?
  intro j
  by_cases hj : j < la.length
  · exact h j hj
  · rw [List.getElem?_eq_none (by omega), List.getElem?_eq_none (by omega)]
set_option maxHeartbeats 800000 in
theorem qsame_any (A B : Option Addr) (la lb : List Mem) (ca cb : Nat) (w : World) (ha : Hid (TRow w A la)) (hb : Hid (TRow w B lb)) (h1 : la.length ≤ 1000000) (h2 : lb.length ≤ 1000000) :
    Calls Try.prog 19 #[.slice A la.length ca, .slice B lb.length cb] w fun e w' => e = .returned (.bool (decide (la = lb))) ∧ ∃ m, w' = w.drewN m := by
  by_cases hl : la.length = lb.length
  · have hln : ((la.length : Int) != (lb.length : Int)) = false := by simp [hl]
    go_enter Try.func19, Try.ntmps19
    go_wp2
    go_loopw [5] (fun v5 wr => ∃ i m : Nat, i ≤ la.length ∧ v5 = .int .i64 i ∧ wr = w.drewN m ∧ Hid (∀ j, j < i → la[j]? = lb[j]?)) (fun i _ => la.length - (intOf i).toNat)
    case atStart => exact ⟨0, 0, by omega, rfl, rfl, Kit.hid (fun j h => absurd h (Nat.not_lt_zero _))⟩
    case round =>
      obtain ⟨i, m, hi, rfl, rfl, hE⟩ := hrel
      by_cases hlt : i < la.length
      · obtain ⟨x, hx⟩ : ∃ x, la[i]? = some x := ⟨_, List.getElem?_eq_getElem hlt⟩
        obtain ⟨y, hy⟩ : ∃ y, lb[i]? = some y := ⟨_, List.getElem?_eq_getElem (by omega)⟩
        obtain ⟨ad, rfl, c0, c1, c2, c3⟩ := t_at ha hx
        obtain ⟨bd, rfl, d0, d1, d2, d3⟩ := t_at hb hy
        have hltb : (i : Int) < (lb.length : Int) := by omega
        have HX := Kit.hid hx
        have HY := Kit.hid hy
        have HL := Kit.hid hl
        clear hx hy hl
        by_cases hxy : x = y
        · have g1 : ∀ w', (binOp .neq 32 (.agg #[.int .i64 x.id, .int .i64 x.wt, .int .i64 x.v, .int .i64 x.rem]) (.agg #[.int .i64 y.id, .int .i64 y.wt, .int .i64 y.v, .int .i64 y.rem])).run Try.prog w' = .ok (.bool false) w' := fun w' => by rw [neq_mem, decide_eq_true hxy]; rfl
          have HE : Hid (∀ j, j < i + 1 → la[j]? = lb[j]?) := Kit.hid (fun j hj => by
            by_cases h : j = i
            · subst h; rw [HX.out, HY.out, hxy]
            · exact hE.out j (by omega))
          clear hxy
          go_wp2_with fail
          go_quiet (fail)
          go_wp2
          go_roundw
          case rel => exact ⟨i + 1, _, by omega, by go_num, rfl, HE⟩
          case measure => simp [intOf]; omega
        · have g1 : ∀ w', (binOp .neq 32 (.agg #[.int .i64 x.id, .int .i64 x.wt, .int .i64 x.v, .int .i64 x.rem]) (.agg #[.int .i64 y.id, .int .i64 y.wt, .int .i64 y.v, .int .i64 y.rem])).run Try.prog w' = .ok (.bool true) w' := fun w' => by rw [neq_mem, decide_eq_false hxy]; rfl
          have HD : Hid (decide (la = lb) = false) := Kit.hid (decide_eq_false (fun e => hxy (by have := HX.out; rw [e, HY.out] at this; exact (Option.some.inj this).symm)))
          clear hxy
          go_wp2_with fail
          go_quiet (fail)
          go_wp2
          go_ret
          exact ⟨by rw [HD.out]; rfl, _, World.drewN_drewN _ _ _⟩
      · obtain rfl : i = la.length := by omega
        have HD : Hid (decide (la = lb) = true) := Kit.hid (decide_eq_true (mext_upto hl hE.out))
        clear hl
        go_wp2
        go_ret
        exact ⟨by rw [HD.out]; rfl, _, rfl⟩
  · have hln : ((la.length : Int) != (lb.length : Int)) = true := by simp; omega
    have HD : Hid (decide (la = lb) = false) := Kit.hid (decide_eq_false (fun e => hl (by rw [e])))
    clear hl
    go_enter Try.func19, Try.ntmps19
    go_wp2
    go_ret
    exact ⟨by rw [HD.out]; rfl, 0, rfl⟩
end Go.Proofs.Ytggcbeoinmnopaa.Qu
