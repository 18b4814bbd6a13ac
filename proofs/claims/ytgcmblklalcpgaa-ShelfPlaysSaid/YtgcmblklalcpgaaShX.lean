/- The reference's Same and Drop, over rows of items in memory. -/
import Derived.Test.YtgcmblklalcpgaaShW
namespace Go.Proofs.Ytgcmblklalcpgaa.Sh
open Go.RowKit Go.Proofs.Ytgcmblklalcpgaa.Kit Go.Proofs.Ytgcmblklalcpgaa.ShM
set_option linter.unusedVariables false
set_option linter.unusedSimpArgs false
def ItRow (w : World) (A : Option Addr) (l : List It) : Prop :=
  ∀ i (h : i < l.length), ∃ ad : Addr, A = some ad ∧ w.cell? (ad.add (i * 2)) = some (.int .i64 l[i].key) ∧ w.cell? (ad.add (i * 2 + 1)) = some (.int .i64 l[i].id)
theorem itrow_below {w w1 : World} {A : Option Addr} {l : List It} (h : Hid (ItRow w A l)) (hb : Below w.heap.size w w1) : Hid (ItRow w1 A l) := by
  intro i hi
  obtain ⟨ad, rfl, h0, h1⟩ := h.out i hi
  exact ⟨ad, rfl, (hb.cell (cell_lt h0)).trans h0, (hb.cell (cell_lt h1)).trans h1⟩
theorem it_at {w : World} {A : Option Addr} {l : List It} {i : Nat} {x : It} (h : Hid (ItRow w A l)) (hi : l[i]? = some x) :
    ∃ ad : Addr, A = some ad ∧ w.cell? (ad.add (i * 2)) = some (.int .i64 x.key) ∧ w.cell? ⟨(ad.add (i * 2)).block, (ad.add (i * 2)).off + 1, none⟩ = some (.int .i64 x.id) := by
  obtain ⟨h1, rfl⟩ := List.getElem?_eq_some_iff.1 hi
  obtain ⟨ad, rfl, c0, c1⟩ := h.out i h1
  rw [add_part _ _ _ (by decide)] at c1
  exact ⟨ad, rfl, c0, c1⟩
theorem flatI_get : ∀ (l : List It) (i : Nat) (h : i < l.length), (flatI l)[i * 2]? = some (.int .i64 l[i].key) ∧ (flatI l)[i * 2 + 1]? = some (.int .i64 l[i].id)
  | [], i, h => absurd h (Nat.not_lt_zero _)
  | x :: l, 0, h => by simp [flatI]
  | x :: l, i + 1, h => by
    have := flatI_get l i (by simpa using h)
    have e : flatI (x :: l) = .int .i64 x.key :: .int .i64 x.id :: flatI l := rfl
    rw [e, show (i + 1) * 2 = i * 2 + 1 + 1 by omega]
    simpa using this
theorem itrow_cells {w : World} {A : Option Addr} {l : List It} (h : Cells w A (flatI l)) : Hid (ItRow w A l) := by
  intro i hi
  obtain ⟨h0, h1⟩ := flatI_get l i hi
  obtain ⟨l0, e0⟩ := List.getElem?_eq_some_iff.1 h0
  obtain ⟨l1, e1⟩ := List.getElem?_eq_some_iff.1 h1
  obtain ⟨ad, rfl, c0⟩ := h _ l0
  obtain ⟨ad', e, c1⟩ := h _ l1
  obtain rfl := Option.some.inj e
  exact ⟨ad, rfl, by rw [c0, e0], by rw [c1, e1]⟩
theorem ext_upto {la lb : List It} (hl : la.length = lb.length) (h : ∀ j, j < la.length → la[j]? = lb[j]?) : la = lb := by
  apply List.ext_getElem? 
  intro j
  by_cases hj : j < la.length
  · exact h j hj
  · rw [List.getElem?_eq_none (by omega), List.getElem?_eq_none (by omega)]
theorem same_any (A B : Option Addr) (la lb : List It) (ca cb : Nat) (w : World) (ha : Hid (ItRow w A la)) (hb : Hid (ItRow w B lb)) (h1 : la.length ≤ 1099511627776) (h2 : lb.length ≤ 1099511627776) :
    Calls Try.prog 27 #[.slice A la.length ca, .slice B lb.length cb] w fun e w' => e = .returned (.bool (decide (la = lb))) ∧ ∃ m, w' = w.drewN m := by
  by_cases hl : la.length = lb.length
  · have hln : ((la.length : Int) != (lb.length : Int)) = false := by simp [hl]
    go_enter Try.func27, Try.ntmps27
    go_wp2
    go_loopw [5] (fun v5 wr => ∃ i m : Nat, i ≤ la.length ∧ v5 = .int .i64 i ∧ wr = w.drewN m ∧ Hid (∀ j, j < i → la[j]? = lb[j]?)) (fun i _ => la.length - (intOf i).toNat)
    case atStart => exact ⟨0, 0, by omega, rfl, rfl, Kit.hid (fun j h => absurd h (Nat.not_lt_zero _))⟩
    case round =>
      obtain ⟨i, m, hi, rfl, rfl, hE⟩ := hrel
      by_cases hlt : i < la.length
      · obtain ⟨x, hx⟩ : ∃ x, la[i]? = some x := ⟨_, List.getElem?_eq_getElem hlt⟩
        obtain ⟨y, hy⟩ : ∃ y, lb[i]? = some y := ⟨_, List.getElem?_eq_getElem (by omega)⟩
        obtain ⟨ad, rfl, c0, c1⟩ := it_at ha hx
        obtain ⟨bd, rfl, d0, d1⟩ := it_at hb hy
        have hltb : (i : Int) < (lb.length : Int) := by omega
        have HX := Kit.hid hx
        have HY := Kit.hid hy
        have HL := Kit.hid hl
        clear hx hy hl
        by_cases hxy : x = y
        · have g1 : ∀ w', (binOp .neq 24 (.agg #[.int .i64 x.key, .int .i64 x.id]) (.agg #[.int .i64 y.key, .int .i64 y.id])).run Try.prog w' = .ok (.bool false) w' := fun w' => by rw [neq_item, decide_eq_true hxy]; rfl
          have HE : Hid (∀ j, j < i + 1 → la[j]? = lb[j]?) := Kit.hid (fun j hj => by
            by_cases h : j = i
            · subst h; rw [HX.out, HY.out, hxy]
            · exact hE.out j (by omega))
          clear hxy
          go_wp2_with fail
          go_quiet (fail)
          go_wp2
          go_roundw
          case rel => exact ⟨i + 1, _, by omega, by go_num, rfl, HE⟩
          case measure => simp [intOf]; omega
        · have g1 : ∀ w', (binOp .neq 24 (.agg #[.int .i64 x.key, .int .i64 x.id]) (.agg #[.int .i64 y.key, .int .i64 y.id])).run Try.prog w' = .ok (.bool true) w' := fun w' => by rw [neq_item, decide_eq_false hxy]; rfl
          have HD : Hid (decide (la = lb) = false) := Kit.hid (decide_eq_false (fun e => hxy (by have := HX.out; rw [e, HY.out] at this; exact (Option.some.inj this).symm)))
          clear hxy
          go_wp2_with fail
          go_quiet (fail)
          go_wp2
          go_ret
          exact ⟨by rw [HD.out]; rfl, _, World.drewN_drewN _ _ _⟩
      · obtain rfl : i = la.length := by omega
        have HD : Hid (decide (la = lb) = true) := Kit.hid (decide_eq_true (ext_upto hl hE.out))
        clear hl
        go_wp2
        go_ret
        exact ⟨by rw [HD.out]; rfl, _, rfl⟩
  · have hln : ((la.length : Int) != (lb.length : Int)) = true := by simp; omega
    have HD : Hid (decide (la = lb) = false) := Kit.hid (decide_eq_false (fun e => hl (by rw [e])))
    clear hl
    go_enter Try.func27, Try.ntmps27
    go_wp2
    go_ret
    exact ⟨by rw [HD.out]; rfl, 0, rfl⟩
theorem blk_grown' {w w' : World} {g : Nat} {o : Obj} {row : Option Nat} (h : w.heap[g]? = some o) (hg : w.grownBy w' row) (hne : row ≠ some g) : w'.heap[g]? = some o := by
  rw [hg.block g (blk_lt h) (fun e => hne e.symm)]
  exact h
theorem dropL_take (x : It) (l : List It) (i : Nat) (y : It) (hy : l[i]? = some y) : dropL x (l.take (i + 1)) = dropL x (l.take i) ++ (if y = x then [] else [y]) := by
  obtain ⟨h1, rfl⟩ := List.getElem?_eq_some_iff.1 hy
  rw [List.take_succ_eq_append_getElem h1]
  unfold dropL
  rw [List.filter_append]
  congr 1
  by_cases h : l[i] = x <;> simp [h]
set_option maxHeartbeats 1600000 in
theorem rdrop_any (A : Option Addr) (l : List It) (ca : Nat) (x : It) (w : World) (ha : Hid (ItRow w A l)) (h1 : l.length ≤ 1000000) :
    Calls Try.prog 22 #[.slice A l.length ca, .agg #[.int .i64 x.key, .int .i64 x.id]] w fun e w' => ∃ v, e = .returned v ∧ w'.ownsRow w.heap.size 24 2 v (dropL x l).length (flatI (dropL x l)) ∧ Below w.heap.size w w' := by
  go_enter Try.func22, Try.ntmps22
  go_wp2
  have hb0 : Below w.heap.size w (w.alloc (.cells #[.int .i64 x.key, .int .i64 x.id] 24)) := (Below.refl _ w).alloc (Nat.le_refl _) _
  go_loopw [5, 6] (fun v5 v6 wr => ∃ i : Nat, i ≤ l.length ∧ v6 = .int .i64 i ∧ Hid (wr.ownsRow (w.heap.size + 1) 24 2 v5 (dropL x (l.take i)).length (flatI (dropL x (l.take i)))) ∧ Hid (Below w.heap.size w wr) ∧ Hid (wr.heap[w.heap.size]? = some (.cells #[.int .i64 x.key, .int .i64 x.id] 24 (0, 0)))) (fun _ i _ => l.length - (intOf i).toNat)
  case atStart => exact ⟨0, by omega, rfl, Kit.hid ⟨rfl, .inl ⟨rfl, rfl⟩⟩, Kit.hid hb0, Kit.hid (World.alloc_heap_new w _)⟩
  case round =>
    obtain ⟨i, hi, rfl, HO, HB, HX⟩ := hrel
    obtain ⟨Ao, co, rfl, _, _, _⟩ := own_readsS (by decide) HO.out
    by_cases hlt : i < l.length
    · obtain ⟨y, hy⟩ : ∃ y, l[i]? = some y := ⟨_, List.getElem?_eq_getElem hlt⟩
      obtain ⟨ad, rfl, c0, c1⟩ := it_at (itrow_below ha HB.out) hy
      have d0 : wr.cell? ⟨w.heap.size, 0, none⟩ = some (.int .i64 x.key) := blk_at HX.out 0
      have d1 : wr.cell? ⟨w.heap.size, 1, none⟩ = some (.int .i64 x.id) := blk_at HX.out 1
      have lx := blk_lt HX.out
      have HS := Kit.hid (dropL_take x l i y hy)
      have hlen : (dropL x (l.take i)).length ≤ 1000000 := Nat.le_trans (List.length_filter_le _ _) (by rw [List.length_take]; omega)
      obtain ⟨D, hD⟩ : ∃ D, D = dropL x (l.take i) := ⟨_, rfl⟩
      rw [← hD] at HS hlen HO ⊢
      obtain ⟨q, hq⟩ : ∃ q, q = D.length := ⟨_, rfl⟩
      rw [← hq] at HO hlen ⊢
      clear hy
      by_cases hxy : y = x
      · have g1 : ∀ w', (binOp .neq 24 (.agg #[.int .i64 y.key, .int .i64 y.id]) (.agg #[.int .i64 x.key, .int .i64 x.id])).run Try.prog w' = .ok (.bool false) w' := fun w' => by rw [neq_item, decide_eq_true hxy]; rfl
        have HS2 : Hid (dropL x (l.take (i + 1)) = D) := Kit.hid (by rw [HS.out, if_pos hxy, List.append_nil])
        clear hxy HS
        go_wp2_with fail
        go_quiet (fail)
        go_wp2
        go_roundw
        case rel => exact ⟨i + 1, by omega, by go_num, Kit.hid (by rw [HS2.out, ← hq]; exact HO.out), Kit.hid (below_drewN HB.out _), Kit.hid HX.out⟩
        case measure => simp [intOf]; omega
      · have g1 : ∀ w', (binOp .neq 24 (.agg #[.int .i64 y.key, .int .i64 y.id]) (.agg #[.int .i64 x.key, .int .i64 x.id])).run Try.prog w' = .ok (.bool true) w' := fun w' => by rw [neq_item, decide_eq_false hxy]; rfl
        have HS2 : Hid (dropL x (l.take (i + 1)) = D ++ [y]) := Kit.hid (by rw [HS.out, if_neg hxy])
        clear hxy HS
        have HOW : Hid (∀ m, ((wr.drewN m).alloc (.cells #[.int .i64 y.key, .int .i64 y.id] 24)).ownsRow (w.heap.size + 1) 24 2 (.slice Ao q co) q (flatI D)) := Kit.hid (fun m => own_belowS HO.out ((below_drewN (Below.refl _ wr) m).alloc (Nat.le_refl _) _))
        have hzb := HB.out.size
        go_wp2_with fail
        go_quiet (fail)
        go_wp2_with (at_builtin; refine wpList_append_srcS rfl _ _ 39 rfl (w.heap.size + 1) 24 (.agg #[.int .i64 0, .int .i64 0]) 2 16 (by decide) Try.underlying39 infoIt rfl (.slice Ao q co) q _ rfl (HOW.out _) (some ⟨wr.heap.size, 0, none⟩) 1 1 [.int .i64 y.key, .int .i64 y.id] rfl rfl (litIt _ y) (by simp [Value.oneCell']) (by unfold maxLen; omega) (by omega) (by simp; omega) ?_; intro v' w5 hown' hgrow hvb'; have HB5 : Hid (Below w.heap.size w w5) := Kit.hid ((((below_drewN HB.out _).alloc (by simpa using HB.out.size) _)).grown hgrow (by simp; omega) (fun k hk => by have := ((HOW.out 0).lt k hk).1; omega)); have HX5 : Hid (w5.heap[w.heap.size]? = some (.cells #[.int .i64 x.key, .int .i64 x.id] 24 (0, 0))) := Kit.hid (blk_grown' (blk_alloc (blk_drewN HX.out nq) _) hgrow (fun e => by have := ((HOW.out 0).lt _ e).1; omega)); have HO5 := Kit.hid hown'; clear hown' hgrow hvb')
        go_roundw
        case rel => exact ⟨i + 1, by omega, by go_num, Kit.hid (by rw [HS2.out, List.length_append, flatI_snoc, ← hq]; exact HO5.out), HB5, HX5⟩
        case measure => simp [intOf]; omega
    · obtain rfl : i = l.length := by omega
      rw [List.take_length] at HO ⊢
      go_wp2
      go_ret
      exact ⟨_, rfl, ⟨HO.out.1, HO.out.2.imp id fun ⟨g, cap, cur, h1, h2, h3⟩ => ⟨g, cap, cur, h1, by omega, h3⟩⟩, HB.out⟩
theorem cell_blk {w w' : World} {a : Addr} (h : w'.heap[a.block]? = w.heap[a.block]?) : w'.cell? a = w.cell? a := by
  unfold World.cell?
  rw [h]
theorem add_blk (ad : Addr) (n : Nat) : (ad.add n).block = ad.block := by
  unfold Addr.add
  split <;> rfl
theorem itrow_same {w w' : World} {A : Option Addr} {l : List It} (h : Hid (ItRow w A l)) (hs : ∀ ad, A = some ad → w'.heap[ad.block]? = w.heap[ad.block]?) : Hid (ItRow w' A l) := by
  intro i hi
  obtain ⟨ad, rfl, h0, h1⟩ := h.out i hi
  have := hs ad rfl
  exact ⟨ad, rfl, (cell_blk (by rw [add_blk]; exact this)).trans h0, (cell_blk (by rw [add_blk]; exact this)).trans h1⟩
/-- A shelf's origin, taken anew: what is not its own is kept from here on. -/
theorem items_self {w0 w w' : World} {S0 : Nat → Prop} {p n : Nat} {l : List It} (h : Items w0 S0 w p l n) (hb : Below w.heap.size w w') :
    ∃ S', (∀ k, S' k → k < w.heap.size) ∧ (∀ k, S' k → Ext S0 w0 k) ∧ Items w' S' w' p l n := by
  obtain ⟨t, ⟨gl, cl, vf, L, F, hH⟩, h2⟩ := h
  refine ⟨foot p gl vf, ?_, fun k hk => hH.sh.foot_ext (.inl hk), t, ⟨gl, cl, vf, L, F, (hH.sh.below hb).self, hH.zero, hH.fit, hH.free, hH.len⟩, h2⟩
  rintro k (rfl | rfl | hk)
  · exact hH.sh.plt
  · exact hH.sh.glt
  · exact hH.sh.flt k hk
end Go.Proofs.Ytgcmblklalcpgaa.Sh
