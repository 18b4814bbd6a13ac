/- The walks of Has, Rank, Len, Deep, Put and Drop. -/
import Derived.Test.YtpgfenelckonoaaShH
namespace Go.Proofs.Ytpgfenelckonoaa.Sh
open Go.RowKit Go.Proofs.Ytpgfenelckonoaa.Kit Go.Proofs.Ytpgfenelckonoaa.ShM
set_option linter.unusedVariables false
set_option linter.unusedSimpArgs false
/-- A shelf in memory that holds a tree. -/
structure Holds (w0 : World) (S0 : Nat → Prop) (w : World) (p : Nat) (gl cl : Nat) (vf : Value) (L : List Nd) (F : List Nat) (t : T) (n : Nat) : Prop where
  sh : Sh w0 S0 w p gl cl vf L t.root F
  zero : L[0]? = some zeroN
  fit : Fit L t
  free : Free L F t.idx
  len : L.length ≤ n
def Shelf (w0 : World) (S0 : Nat → Prop) (w : World) (p : Nat) (t : T) (n : Nat) : Prop := ∃ gl cl vf L F, Holds w0 S0 w p gl cl vf L F t n
theorem dropLast_split {F : List Nat} (h : F ≠ []) : F = F.dropLast ++ [F.getLast h] := (List.dropLast_concat_getLast h).symm
theorem free_put {L L' : List Nd} {F I J : List Nat} (h : Free L F I) (hp : J.Perm (fresh L.length F :: I)) (hl : L.length ≤ L'.length) : Free L' F.dropLast J := by
  refine ⟨h.nodup.sublist (List.dropLast_sublist F), fun k hk => ?_, fun k hk hj => ?_⟩
  · have := h.lt k ((List.dropLast_sublist F).subset hk); omega
  · rcases List.mem_cons.1 (hp.mem_iff.1 hj) with e | e
    · have hF : F ≠ [] := fun e => by rw [e] at hk; cases hk
      have h1 : fresh L.length F = F.getLast hF := by unfold fresh; rw [List.getLast?_eq_some_getLast hF]; rfl
      have h2 := h.nodup
      rw [dropLast_split hF] at h2
      exact (List.nodup_append.1 h2).2.2 k hk _ (List.mem_singleton.2 rfl) (e.trans h1)
    · exact h.off k ((List.dropLast_sublist F).subset hk) e
theorem free_drop {L L' : List Nd} {F I J : List Nat} {f : Nat} (h : Free L F I) (hp : (f :: J).Perm I) (hI : I.Nodup) (hpos : 0 < f) (hf : f < L.length) (hl : L'.length = L.length) : Free L' (F ++ [f]) J := by
  have hfI : f ∈ I := hp.mem_iff.1 List.mem_cons_self
  refine ⟨?_, fun k hk => ?_, fun k hk hj => ?_⟩
  · rw [List.nodup_append]
    exact ⟨h.nodup, by simp, fun a ha b hb e => by rw [List.mem_singleton.1 hb] at e; exact h.off a ha (e ▸ hfI)⟩
  · rw [hl]
    rcases List.mem_append.1 hk with hk | hk
    · exact h.lt k hk
    · rw [List.mem_singleton.1 hk]; exact ⟨hpos, hf⟩
  · rcases List.mem_append.1 hk with hk | hk
    · exact h.off k hk (hp.mem_iff.1 (List.mem_cons_of_mem _ hj))
    · rw [List.mem_singleton.1 hk] at hj
      exact (List.nodup_cons.1 (hp.nodup_iff.2 hI)).1 hj
section
variable {w0 w w' : World} {S0 : Nat → Prop} {p n : Nat} {t : T}
theorem Shelf.below (h : Shelf w0 S0 w p t n) (hb : Below w.heap.size w w') : Shelf w0 S0 w' p t n := by
  obtain ⟨gl, cl, vf, L, F, h⟩ := h
  exact ⟨gl, cl, vf, L, F, h.sh.below hb, h.zero, h.fit, h.free, h.len⟩
theorem Shelf.kept (h : Shelf w0 S0 w p t n) : Kept S0 w0 w := by
  obtain ⟨gl, cl, vf, L, F, h⟩ := h
  exact h.sh.kept
theorem shelf_find (x : It) (h : Shelf w0 S0 w p t n) (hn : n ≤ 549755813888) :
    Calls Try.prog 83 #[.pointer (some ⟨p, 0, none⟩), .agg #[.int .i64 x.key, .int .i64 x.id]] w fun e w' => e = .returned (.tuple #[.int .i64 ((findT x t 0).1 : Int), .int .i64 ((findT x t 0).2 : Int)]) ∧ Below w.heap.size w w' := by
  obtain ⟨gl, cl, vf, L, F, h⟩ := h
  exact find_any x t w h.sh h.zero (by have := h.len; omega) h.fit
theorem has_any (x : It) (h : Shelf w0 S0 w p t n) (hn : n ≤ 549755813888) :
    Calls Try.prog 78 #[.pointer (some ⟨p, 0, none⟩), .agg #[.int .i64 x.key, .int .i64 x.id]] w fun e w' => e = .returned (.bool (decide (0 < (findT x t 0).1))) ∧ Below w.heap.size w w' := by
  have HB := Kit.hid ((Below.refl w.heap.size w).alloc (Nat.le_refl _) (.cells #[.int .i64 x.key, .int .i64 x.id] 107))
  have HC := Kit.hid (shelf_find x (h.below HB.out) hn)
  obtain ⟨q, hq⟩ : ∃ q, q = findT x t 0 := ⟨_, rfl⟩
  rw [← hq] at HC ⊢
  clear hq h
  go_enter Try.func78, Try.ntmps78
  go_wp2_with fail
  (with_reducible refine HC.out.mono ?_); rintro e w2 ⟨rfl, hb⟩
  have H2 := Kit.hid (HB.out.trans (hb.mono HB.out.size))
  clear hb
  go_wp2
  go_ret
  exact ⟨by simp, H2.out⟩
theorem len_any (h : Shelf w0 S0 w p t n) :
    Calls Try.prog 75 #[.pointer (some ⟨p, 0, none⟩)] w fun e w' => e = .returned (.int .i64 (t.many : Int)) ∧ ∃ m, w' = w.drewN m := by
  obtain ⟨gl, cl, vf, L, F, h⟩ := h
  obtain ⟨p0, p1, p2, _, _, _⟩ := h.sh.pcells
  obtain ⟨nl, hnl, hnm, _⟩ := h.fit.holds.top h.zero
  obtain ⟨b0, b1, b2, b3, b4, b5⟩ := h.sh.ncells hnl
  rw [hnm] at b4
  have hk := (List.getElem?_eq_some_iff.1 hnl).1
  have z1 : (0 : Int) ≤ (t.root : Int) := by omega
  have y1 : (t.root : Int) < (L.length : Int) := by omega
  clear h hnl hnm b0 b1 b2 b3 b5
  go_enter Try.func75, Try.ntmps75
  go_wp2
  go_quiet (fail)
  go_wp2
  go_ret
  exact ⟨rfl, _, rfl⟩
/-- A new item put. -/
theorem put_new (x : It) (h : Shelf w0 S0 w p t n) (hn : n ≤ 549755813888) (hx : (findT x t 0).1 = 0) :
    Calls Try.prog 74 #[.pointer (some ⟨p, 0, none⟩), .agg #[.int .i64 x.key, .int .i64 x.id]] w fun e w' => e = .returned (.bool true) ∧ ∃ k, Shelf w0 S0 w' p (putT k x t) (n + 1) := by
  have HB := Kit.hid ((Below.refl w.heap.size w).alloc (Nat.le_refl _) (.cells #[.int .i64 x.key, .int .i64 x.id] 107))
  obtain ⟨wb, hwb⟩ : ∃ wb, wb = w.alloc (.cells #[.int .i64 x.key, .int .i64 x.id] 107) := ⟨_, rfl⟩
  obtain ⟨xb, hxb⟩ : ∃ xb, xb = w.heap.size := ⟨_, rfl⟩
  have HXB : Hid (wb.heap[xb]? = some (.cells #[.int .i64 x.key, .int .i64 x.id] 107 (0, 0))) := Kit.hid (by rw [hwb, hxb]; exact blk_new _ _)
  have hs := h.below HB.out
  rw [← hwb] at hs
  have HC := has_any x hs hn
  rw [hx] at HC
  have HC := Kit.hid HC
  obtain ⟨gl, cl, vf, L, F, h'⟩ := hs
  have HP : Hid (∀ w', Below wb.heap.size wb w' → Calls Try.prog 81 #[.pointer (some ⟨p, 0, none⟩), .int .i64 (t.root : Int), .agg #[.int .i64 x.key, .int .i64 x.id]] w' (PutPost w0 S0 p L t.root F (fresh L.length F) (putT (fresh L.length F) x t) t.idx)) :=
    Kit.hid (fun w' hb => put_any x t w' gl cl vf (h'.sh.below hb) h'.zero (by have := h'.len; omega) h'.fit h'.free)
  have HH := Kit.hid h'
  have HWB := Kit.hid hwb
  have HXN := Kit.hid hxb
  clear hwb hxb hx h h'
  go_enter Try.func74, Try.ntmps74
  go_wp2_with fail
  rw [← HWB.out, ← HXN.out]
  (with_reducible refine HC.out.mono ?_); rintro e w2 ⟨rfl, hb⟩
  have h2 := HH.out.sh.below hb
  have hx2 := blk_below HXB.out hb
  obtain ⟨p0, p1, p2, _, _, _⟩ := h2.pcells
  have x0 := blk_cell hx2 0
  have x1 := blk_cell hx2 1
  have hp := h2.plt
  have HB2 := Kit.hid hb
  clear h2 hx2 hb
  go_wp2
  go_region_with ((go_at_call 81; (with_reducible refine (HP.out _ HB2.out.drew).mono ?_); rintro e w4 ⟨L4, gl4, cl4, vf4, rfl, hs4, l4, m4, hh4, ho4⟩; have HS4 := Kit.hid hs4; have HH4 := Kit.hid hh4; have HO4 := Kit.hid ho4; obtain ⟨q0, q1, q2, s0, s1, s2⟩ := hs4.pcells; clear hs4 hh4 ho4))
  all_goals
    go_wp2
    go_ret
    have hp' := putT_idx (fresh L.length F) x t
    refine ⟨rfl, fresh L.length F, gl4, cl4, vf4, L4, F.dropLast, ⟨?_, ?_, ?_, free_put HH.out.free hp' m4, by have := HH.out.len; omega⟩⟩
    · exact HS4.out.tset _
    · have hlt := (List.getElem?_eq_some_iff.1 HH.out.zero).1
      rw [HO4.out 0 (fun e => Nat.lt_irrefl _ (HH.out.fit.pos 0 e)) (by have := HH.out.free.fresh_pos hlt; omega)]
      exact HH.out.zero
    · refine Fit.of_perm HH4.out hp' (List.nodup_cons.2 ⟨HH.out.free.fresh_not HH.out.fit.holds.lt, HH.out.fit.nodup⟩) (fun j hj => ?_)
      rcases List.mem_cons.1 hj with rfl | hj
      · exact HH.out.free.fresh_pos (List.getElem?_eq_some_iff.1 HH.out.zero).1
      · exact HH.out.fit.pos j hj
/-- An item that is there, put. -/
theorem put_old (x : It) (h : Shelf w0 S0 w p t n) (hn : n ≤ 549755813888) (hx : 0 < (findT x t 0).1) :
    Calls Try.prog 74 #[.pointer (some ⟨p, 0, none⟩), .agg #[.int .i64 x.key, .int .i64 x.id]] w fun e w' => e = .returned (.bool false) ∧ Below w.heap.size w w' := by
  have HB := Kit.hid ((Below.refl w.heap.size w).alloc (Nat.le_refl _) (.cells #[.int .i64 x.key, .int .i64 x.id] 107))
  have HC := has_any x (h.below HB.out) hn
  rw [decide_eq_true hx] at HC
  have HC := Kit.hid HC
  clear h hx
  go_enter Try.func74, Try.ntmps74
  go_wp2_with fail
  (with_reducible refine HC.out.mono ?_); rintro e w2 ⟨rfl, hb⟩
  have H2 := Kit.hid (HB.out.trans (hb.mono HB.out.size))
  clear hb
  go_wp2
  go_ret
  exact ⟨rfl, H2.out⟩
/-- An item that is not there, dropped. -/
theorem drop_none (x : It) (h : Shelf w0 S0 w p t n) (hn : n ≤ 549755813888) (hx : (findT x t 0).1 = 0) :
    Calls Try.prog 67 #[.pointer (some ⟨p, 0, none⟩), .agg #[.int .i64 x.key, .int .i64 x.id]] w fun e w' => e = .returned (.bool false) ∧ Below w.heap.size w w' := by
  have HB := Kit.hid ((Below.refl w.heap.size w).alloc (Nat.le_refl _) (.cells #[.int .i64 x.key, .int .i64 x.id] 107))
  have HC := has_any x (h.below HB.out) hn
  rw [hx] at HC
  have HC := Kit.hid HC
  clear h hx
  go_enter Try.func67, Try.ntmps67
  go_wp2_with fail
  (with_reducible refine HC.out.mono ?_); rintro e w2 ⟨rfl, hb⟩
  have H2 := Kit.hid (HB.out.trans (hb.mono HB.out.size))
  clear hb
  go_wp2
  go_ret
  exact ⟨rfl, H2.out⟩
/-- An item that is there, dropped. -/
theorem drop_old (x : It) (h : Shelf w0 S0 w p t n) (hn : n ≤ 549755813888) (hx : 0 < (findT x t 0).1) (hh : Hits x t) :
    Calls Try.prog 67 #[.pointer (some ⟨p, 0, none⟩), .agg #[.int .i64 x.key, .int .i64 x.id]] w fun e w' => e = .returned (.bool true) ∧ Shelf w0 S0 w' p (dropT x t) n := by
  have HB := Kit.hid ((Below.refl w.heap.size w).alloc (Nat.le_refl _) (.cells #[.int .i64 x.key, .int .i64 x.id] 107))
  obtain ⟨wb, hwb⟩ : ∃ wb, wb = w.alloc (.cells #[.int .i64 x.key, .int .i64 x.id] 107) := ⟨_, rfl⟩
  obtain ⟨xb, hxb⟩ : ∃ xb, xb = w.heap.size := ⟨_, rfl⟩
  have HXB : Hid (wb.heap[xb]? = some (.cells #[.int .i64 x.key, .int .i64 x.id] 107 (0, 0))) := Kit.hid (by rw [hwb, hxb]; exact blk_new _ _)
  have hs := h.below HB.out
  rw [← hwb] at hs
  have HC := has_any x hs hn
  rw [decide_eq_true hx] at HC
  have HC := Kit.hid HC
  obtain ⟨gl, cl, vf, L, F, h'⟩ := hs
  have HP : Hid (∀ w', Below wb.heap.size wb w' → Calls Try.prog 79 #[.pointer (some ⟨p, 0, none⟩), .int .i64 (t.root : Int), .agg #[.int .i64 x.key, .int .i64 x.id]] w' (DropPost w0 S0 p gl cl L t.root F (dropK x t) (dropT x t) t.idx)) :=
    Kit.hid (fun w' hb => drop_any x h'.zero (by have := h'.len; omega) (nodup_len _ _ h'.free.nodup fun k hk => (h'.free.lt k hk).2) t w' hh (h'.sh.below hb) h'.fit)
  have HH := Kit.hid h'
  have HWB := Kit.hid hwb
  have HXN := Kit.hid hxb
  have HHT := Kit.hid hh
  clear hwb hxb hx h h' hh
  go_enter Try.func67, Try.ntmps67
  go_wp2_with fail
  rw [← HWB.out, ← HXN.out]
  (with_reducible refine HC.out.mono ?_); rintro e w2 ⟨rfl, hb⟩
  have h2 := HH.out.sh.below hb
  have hx2 := blk_below HXB.out hb
  obtain ⟨p0, p1, p2, _, _, _⟩ := h2.pcells
  have x0 := blk_cell hx2 0
  have x1 := blk_cell hx2 1
  have hp := h2.plt
  have HB2 := Kit.hid hb
  clear h2 hx2 hb
  go_wp2
  go_region_with ((go_at_call 79; (with_reducible refine (HP.out _ HB2.out.drew).mono ?_); rintro e w4 ⟨L4, vf4, rfl, hs4, l4, hh4, ho4⟩; have HS4 := Kit.hid hs4; have HH4 := Kit.hid hh4; have HO4 := Kit.hid ho4; have HL4 := Kit.hid l4; obtain ⟨q0, q1, q2, s0, s1, s2⟩ := hs4.pcells; clear hs4 hh4 ho4 l4))
  all_goals
    go_wp2
    go_ret
    have hp' := dropT_idx x t HHT.out
    have hm : dropK x t ∈ t.idx := hp'.mem_iff.1 List.mem_cons_self
    have hnd := hp'.nodup_iff.2 HH.out.fit.nodup
    refine ⟨rfl, gl, cl, vf4, L4, F ++ [dropK x t], ⟨?_, ?_, ⟨HH4.out, (List.nodup_cons.1 hnd).2, fun j hj => HH.out.fit.pos j (hp'.mem_iff.1 (List.mem_cons_of_mem _ hj))⟩,
      free_drop HH.out.free hp' HH.out.fit.nodup (HH.out.fit.pos _ hm) (HH.out.fit.holds.lt _ hm) HL4.out, by have := HH.out.len; rw [HL4.out]; exact this⟩⟩
    · exact HS4.out.tset _
    · rw [HO4.out 0 (fun e => Nat.lt_irrefl _ (HH.out.fit.pos 0 e))]
      exact HH.out.zero
end
end Go.Proofs.Ytpgfenelckonoaa.Sh
