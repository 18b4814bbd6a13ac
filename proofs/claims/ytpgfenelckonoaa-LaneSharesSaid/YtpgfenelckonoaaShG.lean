/- The walk of drop. -/
import Derived.Test.YtpgfenelckonoaaShF
namespace Go.Proofs.Ytpgfenelckonoaa.Sh
open Go.RowKit Go.Proofs.Ytpgfenelckonoaa.Kit Go.Proofs.Ytpgfenelckonoaa.ShM
set_option linter.unusedVariables false
set_option linter.unusedSimpArgs false
/-- The blocks of a shelf. -/
def foot (p gl : Nat) (vf : Value) (k : Nat) : Prop := k = p ∨ k = gl ∨ vf.ownBlock = some k
section
variable {w0 w w' : World} {S0 : Nat → Prop} {p gl cl : Nat} {vf : Value} {L : List Nd} {top : Nat} {F : List Nat}
theorem Sh.self (h : Sh w0 S0 w p gl cl vf L top F) : Sh w (foot p gl vf) w p gl cl vf L top F :=
  ⟨h.at_, h.row, h.free, h.gp, h.fp, h.fg, .inl (.inl rfl), .inl (.inr (.inl rfl)), fun k hk => .inl (.inr (.inr hk)), Kept.refl _ _⟩
theorem Sh.foot_ext (h : Sh w0 S0 w p gl cl vf L top F) {k : Nat} (hk : Ext (foot p gl vf) w k) : Ext S0 w0 k := by
  rcases hk with (rfl | rfl | hk) | hk
  · exact h.inp
  · exact h.ing
  · exact h.inf k hk
  · exact .inr (Nat.le_trans h.kept.size hk)
theorem Sh.back {gl' cl' : Nat} {vf' : Value} {L' : List Nd} {top' : Nat} {F' : List Nat} (h : Sh w0 S0 w p gl cl vf L top F) (h' : Sh w (foot p gl vf) w' p gl' cl' vf' L' top' F') : Sh w0 S0 w' p gl' cl' vf' L' top' F' :=
  ⟨h'.at_, h'.row, h'.free, h'.gp, h'.fp, h'.fg, h.foot_ext h'.inp, h.foot_ext h'.ing, fun k hk => h.foot_ext (h'.inf k hk), h.kept.trans h'.kept fun b hb => h.foot_ext (.inl hb)⟩
theorem infoI : (Try.prog.info? 3).map (fun i => (i.zero, i.size, i.bytes)) = some (some (.int .i64 0), 1, 8) := by kernel_rfl
theorem litI (w : World) (n : Int) : Cells (w.alloc (.cells #[.int .i64 n] 3)) (some ⟨w.heap.size, 0, none⟩) [.int .i64 n] := by
  have h := World.ownsRow_lit (base := 0) (e := 3) (size := 1) w #[.int .i64 n] 1 (Nat.zero_le _) (by decide) rfl
  obtain ⟨A, cap, hv, hc, _⟩ := own_reads h
  cases hv
  exact hc
/-- The row of free nodes, appended to, and stored. -/
theorem Sh.fgrow {vf' : Value} {k : Nat} (h : Sh w0 S0 w p gl cl vf L top F) (hown : w'.ownsRow 0 3 1 vf' (F.length + 1) (F.map (fun (n : Nat) => Value.int .i64 (n : Int)) ++ [.int .i64 (k : Int)])) (hg : w.grownBy w' vf.ownBlock) (hc : vf'.ownBlock = vf.ownBlock ∨ vf'.ownBlock = some w.heap.size) :
    Sh w0 S0 (w'.setCell ⟨p, 2, none⟩ vf') p gl cl vf' L top (F ++ [k]) := by
  have hp := h.plt
  have hgl := h.glt
  have h1 : vf'.ownBlock ≠ some p := by
    rcases hc with e | e
    · rw [e]; exact h.fp
    · rw [e]; intro e2; cases e2; omega
  have h2 : vf'.ownBlock ≠ some gl := by
    rcases hc with e | e
    · rw [e]; exact h.fg
    · rw [e]; intro e2; cases e2; omega
  have hat : w'.heap[p]? = some (.cells #[.slice (some ⟨gl, 0, none⟩) L.length cl, .int .i64 (top : Int), vf] 122 (0, 0)) := (hg.block p hp (fun e => h.fp e.symm)).trans h.at_
  have hgb : w'.grownBy (w'.setCell ⟨p, 2, none⟩ vf') (some p) := ⟨rfl, rfl, rfl, by simp [World.setCell], fun k hk hn => Below.heap_setCell w' ⟨p, 2, none⟩ _ k (fun e => hn (by rw [e]))⟩
  refine ⟨blk_put hat 2 _ rfl, own_keptS (own_keptS h.row hg (.inr (fun e => h.fg e.symm))) hgb (.inr (by intro e; exact h.gp (Option.some.inj e))), ?_, h.gp, h1, h2, h.inp, h.ing, fun j hj => ?_, (h.kept.grown hg h.inf).setCell (a := ⟨p, 2, none⟩) h.inp _⟩
  · have e : (F ++ [k]).map (fun (n : Nat) => Value.int .i64 (n : Int)) = F.map (fun (n : Nat) => Value.int .i64 (n : Int)) ++ [.int .i64 (k : Int)] := by simp
    rw [e, List.length_append, List.length_singleton]
    exact own_keptS hown hgb (.inr h1)
  · rcases hc with e | e
    · exact h.inf j (by rw [← e]; exact hj)
    · rw [e] at hj; cases hj; exact .inr h.kept.size
end
def DropPost (w0 : World) (S0 : Nat → Prop) (p gl cl : Nat) (L : List Nd) (top : Nat) (F : List Nat) (k : Nat) (t' : T) (I : List Nat) (e : Ending) (w' : World) : Prop :=
  ∃ L' vf', e = .returned (.int .i64 (t'.root : Int)) ∧ Sh w0 S0 w' p gl cl vf' L' top (F ++ [k]) ∧ L'.length = L.length ∧ Holds L' t' ∧ ∀ j, j ∉ I → L'[j]? = L[j]?
section
variable {w0 : World} {S0 : Nat → Prop} {p gl cl : Nat} {vf : Value} {L : List Nd} {top : Nat} {F : List Nat}
set_option maxHeartbeats 800000 in
theorem drop_left (x : It) (k : Nat) (y : It) (l r : T) (w : World) (h : Sh w0 S0 w p gl cl vf L top F) (hz : L[0]? = some zeroN) (hlen : L.length ≤ 549755813888) (ft : Fit L (.node k y l r)) (hx : less x y = true) (hfd : Hits x l)
    (IH : Hid (∀ w', Sh w0 S0 w' p gl cl vf L top F → Calls Try.prog 79 #[.pointer (some ⟨p, 0, none⟩), .int .i64 (l.root : Int), .agg #[.int .i64 x.key, .int .i64 x.id]] w' (DropPost w0 S0 p gl cl L top F (dropK x l) (dropT x l) l.idx))) :
    Calls Try.prog 79 #[.pointer (some ⟨p, 0, none⟩), .int .i64 (k : Int), .agg #[.int .i64 x.key, .int .i64 x.id]] w (DropPost w0 S0 p gl cl L top F (dropK x (.node k y l r)) (dropT x (.node k y l r)) (T.node k y l r).idx) := by
  have hk := (List.getElem?_eq_some_iff.1 ft.holds.node).1
  have pk := ft.pos k (by simp [T.idx])
  have hp := dropT_idx x l hfd
  have HK1 : Hid (dropK x (.node k y l r) = dropK x l) := Kit.hid (by rw [dropK, if_pos hx])
  have HT1 : Hid (dropT x (.node k y l r) = evenT (.node k y (dropT x l) r)) := Kit.hid (by rw [dropT, if_pos hx])
  rw [HK1.out, HT1.out]
  obtain ⟨f, hf⟩ : ∃ f, f = dropK x l := ⟨_, rfl⟩
  obtain ⟨t, ht⟩ : ∃ t, t = dropT x l := ⟨_, rfl⟩
  rw [← hf, ← ht] at IH hp
  rw [← hf, ← ht]
  have hdd := ft.nodup
  simp only [T.idx, List.nodup_cons, List.nodup_append, List.mem_append, not_or] at hdd
  obtain ⟨⟨kl, kr⟩, _, _, hdd⟩ := hdd
  have hnq : (f :: t.idx).Nodup := hp.nodup_iff.2 ft.left.nodup
  have HE : Hid (∀ w' L' vf', Sh w0 S0 w' p gl cl vf' (L'.set k ⟨y, t.root, r.root, l.many + r.many + 1, max l.deep r.deep + 1⟩) top (F ++ [f]) → L'.length = L.length → Holds L' t → (∀ j, j ∉ l.idx → L'[j]? = L[j]?) →
      Calls Try.prog 86 #[.pointer (some ⟨p, 0, none⟩), .int .i64 (k : Int)] w' (DropPost w0 S0 p gl cl L top F f (evenT (.node k y t r)) (T.node k y l r).idx)) := Kit.hid (fun w' L' vf' hs l1 hh ho => by
    have fl1 : Fit L' t := ⟨hh, (List.nodup_cons.1 hnq).2, fun j hj => ft.left.pos j (hp.mem_iff.1 (List.mem_cons_of_mem _ hj))⟩
    have hkp : k ∉ t.idx := fun e => kl (hp.mem_iff.1 (List.mem_cons_of_mem _ e))
    have fl2 := fl1.set hkp ⟨y, t.root, r.root, l.many + r.many + 1, max l.deep r.deep + 1⟩
    have fo2 := (ft.right.off fun j hj => ho j (fun e => hdd j e j hj rfl)).set kr ⟨y, t.root, r.root, l.many + r.many + 1, max l.deep r.deep + 1⟩
    have hnd : (k :: (t.idx ++ r.idx)).Nodup := by
      have h1 : (f :: k :: (t.idx ++ r.idx)).Perm (T.node k y l r).idx := by
        refine List.perm_iff_count.2 fun c => ?_
        have := List.perm_iff_count.1 hp c
        simp only [T.idx, List.count_cons, List.count_append] at this ⊢
        omega
      exact (List.nodup_cons.1 (h1.nodup_iff.2 ft.nodup)).2
    refine (even_any hs (by rw [List.getElem?_set_ne (by omega), ho 0 (fun e => Nat.lt_irrefl _ (ft.left.pos 0 e))]; exact hz) (by simp; omega) k y t r _ _ (by rw [List.getElem?_set_self (by omega)]) fl2 fo2 hnd pk).mono ?_
    rintro e w'' ⟨L'', he, hs', hl', hh', ho'⟩
    refine ⟨L'', vf', he, hs', by rw [hl']; simp; omega, hh', fun j hj => ?_⟩
    simp only [T.idx, List.mem_cons, List.mem_append, not_or] at hj
    rw [ho' j (fun e => ?_), List.getElem?_set_ne (Ne.symm hj.1), ho j hj.2.1]
    simp only [List.mem_cons, List.mem_append] at e
    rcases e with e | e | e
    · exact hj.1 e
    · exact hj.2.1 (hp.mem_iff.1 (List.mem_cons_of_mem _ e))
    · exact hj.2.2 e)
  have HK : Hid (∀ L' : List Nd, (∀ j, j ∉ l.idx → L'[j]? = L[j]?) → L'[k]? = some (ndOf y l r)) := Kit.hid (fun L' ho => by rw [ho k kl]; exact ft.holds.node)
  have HL : Hid (∀ w', Calls Try.prog 84 #[.agg #[.int .i64 x.key, .int .i64 x.id], .agg #[.int .i64 y.key, .int .i64 y.id]] w' fun e w'' => e = .returned (.bool true) ∧ Below w'.heap.size w' w'') := Kit.hid (fun w' => by have := less_any x y w'; rw [hx] at this; exact this)
  obtain ⟨p0, p1, p2, _, _, _⟩ := h.pcells
  obtain ⟨a0, a1, a2, a3, a4, a5⟩ := h.ncells ft.holds.node
  replace a0 : w.cell? ⟨gl, k * 6, none⟩ = some (.int .i64 y.key) := a0
  replace a1 : w.cell? ⟨gl, k * 6 + 1, none⟩ = some (.int .i64 y.id) := a1
  replace a2 : w.cell? ⟨gl, k * 6 + 2, none⟩ = some (.int .i64 (l.root : Int)) := a2
  replace a3 : w.cell? ⟨gl, k * 6 + 3, none⟩ = some (.int .i64 (r.root : Int)) := a3
  obtain ⟨mn, hmn⟩ : ∃ mn, mn = (ndOf y l r).many := ⟨_, rfl⟩
  obtain ⟨dp, hdp⟩ : ∃ dp, dp = (ndOf y l r).deep := ⟨_, rfl⟩
  rw [← hmn] at a4
  rw [← hdp] at a5
  have z1 : (0 : Int) ≤ (k : Int) := by omega
  have y1 : (k : Int) < (L.length : Int) := by omega
  have hg := h.glt
  have hp' := h.plt
  have HS := Kit.hid h
  obtain ⟨wb, hwb⟩ : ∃ wb, wb = ((w.alloc (.cells #[.int .i64 x.key, .int .i64 x.id] 107)).alloc (.cells #[.int .i64 y.key, .int .i64 y.id, .int .i64 (l.root : Int), .int .i64 (r.root : Int), .int .i64 (mn : Int), .int .i64 (dp : Int)] 124)) := ⟨_, rfl⟩
  obtain ⟨xb, hxb⟩ : ∃ xb, xb = w.heap.size := ⟨_, rfl⟩
  obtain ⟨nb, hnb⟩ : ∃ nb, nb = w.heap.size + 1 := ⟨_, rfl⟩
  have HSB : Hid (Sh w0 S0 wb p gl cl vf L top F) := Kit.hid (by rw [hwb]; exact (h.alloc _).alloc _)
  have HXB : Hid (wb.heap[xb]? = some (.cells #[.int .i64 x.key, .int .i64 x.id] 107 (0, 0))) := Kit.hid (by rw [hwb, hxb]; exact blk_alloc (blk_new _ _) _)
  have HNB : Hid (wb.heap[nb]? = some (.cells #[.int .i64 y.key, .int .i64 y.id, .int .i64 (l.root : Int), .int .i64 (r.root : Int), .int .i64 (mn : Int), .int .i64 (dp : Int)] 124 (0, 0))) := Kit.hid (by
    rw [hwb, hnb]
    have := blk_new (w.alloc (.cells #[.int .i64 x.key, .int .i64 x.id] 107)) (.cells #[.int .i64 y.key, .int .i64 y.id, .int .i64 (l.root : Int), .int .i64 (r.root : Int), .int .i64 (mn : Int), .int .i64 (dp : Int)] 124)
    rw [World.size_alloc] at this
    exact this)
  have HWB := Kit.hid hwb
  have HXN := Kit.hid hxb
  have HNN := Kit.hid hnb
  clear h ft hdd kl kr hp hx hz hnq hmn hdp hf ht hfd pk hwb hxb hnb
  go_enter Try.func79, Try.ntmps79
  go_wp2_with fail
  rw [← HWB.out, ← HNN.out, ← HXN.out]
  clear p0 p1 p2 a0 a1 a2 a3 a4 a5 hg hp'
  (with_reducible refine (HL.out _).mono ?_); rintro e w3 ⟨rfl, hb3⟩
  have h3 := HSB.out.below hb3
  have hx3 := blk_below HXB.out hb3
  have hn3 := blk_below HNB.out hb3
  have x0 := blk_cell hx3 0
  have x1 := blk_cell hx3 1
  have n2 := blk_cell hn3 2
  have HS3 := Kit.hid h3
  clear h3 hx3 hn3 hb3
  go_wp2_with fail
  (with_reducible refine (IH.out _ HS3.out).mono ?_); rintro e w4 ⟨L4, vf4, rfl, hs4, l4, hh4, ho4⟩
  have HS4 := Kit.hid hs4
  have HH4 := Kit.hid hh4
  have HO4 := Kit.hid ho4
  have HL4 := Kit.hid l4
  have y4 : (k : Int) < (L4.length : Int) := by omega
  clear hs4 hh4 ho4 l4 x0 x1 n2
  obtain ⟨p0, p1, p2, _, _, _⟩ := HS4.out.pcells
  obtain ⟨a0, a1, a2, a3, a4, a5⟩ := HS4.out.ncells (HK.out L4 HO4.out)
  have fr4 := HS4.out.row.frozenAt (k * 6 + 2)
  have S5 := Kit.hid (HS4.out.nset (n' := ⟨y, t.root, r.root, l.many + r.many + 1, max l.deep r.deep + 1⟩) (v := .int .i64 (t.root : Int)) (HK.out L4 HO4.out) (k := 2) (by decide) rfl)
  go_wp2_with fail
  (with_reducible refine (HE.out _ _ _ S5.out HL4.out HH4.out HO4.out).mono ?_); rintro e w5 ⟨L5, vf5, rfl, hs5, l5, hh5, ho5⟩
  have HS5 := Kit.hid hs5
  have HH5 := Kit.hid hh5
  have HO5 := Kit.hid ho5
  have HL5 := Kit.hid l5
  clear hs5 hh5 ho5 l5
  go_wp2
  go_ret
  exact ⟨L5, vf5, rfl, HS5.out, HL5.out, HH5.out, HO5.out⟩
set_option maxHeartbeats 800000 in
theorem drop_right (x : It) (k : Nat) (y : It) (l r : T) (w : World) (h : Sh w0 S0 w p gl cl vf L top F) (hz : L[0]? = some zeroN) (hlen : L.length ≤ 549755813888) (ft : Fit L (.node k y l r)) (hx : less x y = false) (hx2 : less y x = true) (hfd : Hits x r)
    (IH : Hid (∀ w', Sh w0 S0 w' p gl cl vf L top F → Calls Try.prog 79 #[.pointer (some ⟨p, 0, none⟩), .int .i64 (r.root : Int), .agg #[.int .i64 x.key, .int .i64 x.id]] w' (DropPost w0 S0 p gl cl L top F (dropK x r) (dropT x r) r.idx))) :
    Calls Try.prog 79 #[.pointer (some ⟨p, 0, none⟩), .int .i64 (k : Int), .agg #[.int .i64 x.key, .int .i64 x.id]] w (DropPost w0 S0 p gl cl L top F (dropK x (.node k y l r)) (dropT x (.node k y l r)) (T.node k y l r).idx) := by
  have hk := (List.getElem?_eq_some_iff.1 ft.holds.node).1
  have pk := ft.pos k (by simp [T.idx])
  have hp := dropT_idx x r hfd
  have HK1 : Hid (dropK x (.node k y l r) = dropK x r) := Kit.hid (by rw [dropK, if_neg (by rw [hx]; decide), if_pos hx2])
  have HT1 : Hid (dropT x (.node k y l r) = evenT (.node k y l (dropT x r))) := Kit.hid (by rw [dropT, if_neg (by rw [hx]; decide), if_pos hx2])
  rw [HK1.out, HT1.out]
  obtain ⟨f, hf⟩ : ∃ f, f = dropK x r := ⟨_, rfl⟩
  obtain ⟨t, ht⟩ : ∃ t, t = dropT x r := ⟨_, rfl⟩
  rw [← hf, ← ht] at IH hp
  rw [← hf, ← ht]
  have hdd := ft.nodup
  simp only [T.idx, List.nodup_cons, List.nodup_append, List.mem_append, not_or] at hdd
  obtain ⟨⟨kl, kr⟩, _, _, hdd⟩ := hdd
  have hnq : (f :: t.idx).Nodup := hp.nodup_iff.2 ft.right.nodup
  have HE : Hid (∀ w' L' vf', Sh w0 S0 w' p gl cl vf' (L'.set k ⟨y, l.root, t.root, l.many + r.many + 1, max l.deep r.deep + 1⟩) top (F ++ [f]) → L'.length = L.length → Holds L' t → (∀ j, j ∉ r.idx → L'[j]? = L[j]?) →
      Calls Try.prog 86 #[.pointer (some ⟨p, 0, none⟩), .int .i64 (k : Int)] w' (DropPost w0 S0 p gl cl L top F f (evenT (.node k y l t)) (T.node k y l r).idx)) := Kit.hid (fun w' L' vf' hs l1 hh ho => by
    have fl1 : Fit L' t := ⟨hh, (List.nodup_cons.1 hnq).2, fun j hj => ft.right.pos j (hp.mem_iff.1 (List.mem_cons_of_mem _ hj))⟩
    have hkp : k ∉ t.idx := fun e => kr (hp.mem_iff.1 (List.mem_cons_of_mem _ e))
    have fl2 := fl1.set hkp ⟨y, l.root, t.root, l.many + r.many + 1, max l.deep r.deep + 1⟩
    have fo2 := (ft.left.off fun j hj => ho j (fun e => hdd j hj j e rfl)).set kl ⟨y, l.root, t.root, l.many + r.many + 1, max l.deep r.deep + 1⟩
    have hnd : (k :: (l.idx ++ t.idx)).Nodup := by
      have h1 : (f :: k :: (l.idx ++ t.idx)).Perm (T.node k y l r).idx := by
        refine List.perm_iff_count.2 fun c => ?_
        have := List.perm_iff_count.1 hp c
        simp only [T.idx, List.count_cons, List.count_append] at this ⊢
        omega
      exact (List.nodup_cons.1 (h1.nodup_iff.2 ft.nodup)).2
    refine (even_any hs (by rw [List.getElem?_set_ne (by omega), ho 0 (fun e => Nat.lt_irrefl _ (ft.right.pos 0 e))]; exact hz) (by simp; omega) k y l t _ _ (by rw [List.getElem?_set_self (by omega)]) fo2 fl2 hnd pk).mono ?_
    rintro e w'' ⟨L'', he, hs', hl', hh', ho'⟩
    refine ⟨L'', vf', he, hs', by rw [hl']; simp; omega, hh', fun j hj => ?_⟩
    simp only [T.idx, List.mem_cons, List.mem_append, not_or] at hj
    rw [ho' j (fun e => ?_), List.getElem?_set_ne (Ne.symm hj.1), ho j hj.2.2]
    simp only [List.mem_cons, List.mem_append] at e
    rcases e with e | e | e
    · exact hj.1 e
    · exact hj.2.1 e
    · exact hj.2.2 (hp.mem_iff.1 (List.mem_cons_of_mem _ e)))
  have HK : Hid (∀ L' : List Nd, (∀ j, j ∉ r.idx → L'[j]? = L[j]?) → L'[k]? = some (ndOf y l r)) := Kit.hid (fun L' ho => by rw [ho k kr]; exact ft.holds.node)
  have HL : Hid (∀ w', Calls Try.prog 84 #[.agg #[.int .i64 x.key, .int .i64 x.id], .agg #[.int .i64 y.key, .int .i64 y.id]] w' fun e w'' => e = .returned (.bool false) ∧ Below w'.heap.size w' w'') := Kit.hid (fun w' => by have := less_any x y w'; rw [hx] at this; exact this)
  have HL2 : Hid (∀ w', Calls Try.prog 84 #[.agg #[.int .i64 y.key, .int .i64 y.id], .agg #[.int .i64 x.key, .int .i64 x.id]] w' fun e w'' => e = .returned (.bool true) ∧ Below w'.heap.size w' w'') := Kit.hid (fun w' => by have := less_any y x w'; rw [hx2] at this; exact this)
  obtain ⟨p0, p1, p2, _, _, _⟩ := h.pcells
  obtain ⟨a0, a1, a2, a3, a4, a5⟩ := h.ncells ft.holds.node
  replace a0 : w.cell? ⟨gl, k * 6, none⟩ = some (.int .i64 y.key) := a0
  replace a1 : w.cell? ⟨gl, k * 6 + 1, none⟩ = some (.int .i64 y.id) := a1
  replace a2 : w.cell? ⟨gl, k * 6 + 2, none⟩ = some (.int .i64 (l.root : Int)) := a2
  replace a3 : w.cell? ⟨gl, k * 6 + 3, none⟩ = some (.int .i64 (r.root : Int)) := a3
  obtain ⟨mn, hmn⟩ : ∃ mn, mn = (ndOf y l r).many := ⟨_, rfl⟩
  obtain ⟨dp, hdp⟩ : ∃ dp, dp = (ndOf y l r).deep := ⟨_, rfl⟩
  rw [← hmn] at a4
  rw [← hdp] at a5
  have z1 : (0 : Int) ≤ (k : Int) := by omega
  have y1 : (k : Int) < (L.length : Int) := by omega
  have hg := h.glt
  have hp' := h.plt
  have HS := Kit.hid h
  obtain ⟨wb, hwb⟩ : ∃ wb, wb = ((w.alloc (.cells #[.int .i64 x.key, .int .i64 x.id] 107)).alloc (.cells #[.int .i64 y.key, .int .i64 y.id, .int .i64 (l.root : Int), .int .i64 (r.root : Int), .int .i64 (mn : Int), .int .i64 (dp : Int)] 124)) := ⟨_, rfl⟩
  obtain ⟨xb, hxb⟩ : ∃ xb, xb = w.heap.size := ⟨_, rfl⟩
  obtain ⟨nb, hnb⟩ : ∃ nb, nb = w.heap.size + 1 := ⟨_, rfl⟩
  have HSB : Hid (Sh w0 S0 wb p gl cl vf L top F) := Kit.hid (by rw [hwb]; exact (h.alloc _).alloc _)
  have HXB : Hid (wb.heap[xb]? = some (.cells #[.int .i64 x.key, .int .i64 x.id] 107 (0, 0))) := Kit.hid (by rw [hwb, hxb]; exact blk_alloc (blk_new _ _) _)
  have HNB : Hid (wb.heap[nb]? = some (.cells #[.int .i64 y.key, .int .i64 y.id, .int .i64 (l.root : Int), .int .i64 (r.root : Int), .int .i64 (mn : Int), .int .i64 (dp : Int)] 124 (0, 0))) := Kit.hid (by
    rw [hwb, hnb]
    have := blk_new (w.alloc (.cells #[.int .i64 x.key, .int .i64 x.id] 107)) (.cells #[.int .i64 y.key, .int .i64 y.id, .int .i64 (l.root : Int), .int .i64 (r.root : Int), .int .i64 (mn : Int), .int .i64 (dp : Int)] 124)
    rw [World.size_alloc] at this
    exact this)
  have HWB := Kit.hid hwb
  have HXN := Kit.hid hxb
  have HNN := Kit.hid hnb
  clear h ft hdd kl kr hp hx hx2 hz hnq hmn hdp hf ht hfd pk hwb hxb hnb
  go_enter Try.func79, Try.ntmps79
  go_wp2_with fail
  rw [← HWB.out, ← HNN.out, ← HXN.out]
  clear p0 p1 p2 a0 a1 a2 a3 a4 a5 hg hp'
  (with_reducible refine (HL.out _).mono ?_); rintro e w3 ⟨rfl, hb3⟩
  have h3 := HSB.out.below hb3
  have hx3 := blk_below HXB.out hb3
  have hn3 := blk_below HNB.out hb3
  have x0 := blk_cell hx3 0
  have x1 := blk_cell hx3 1
  have n0 := blk_cell hn3 0
  have n1 := blk_cell hn3 1
  have HX3 := Kit.hid hx3
  have HN3 := Kit.hid hn3
  have HS3' := Kit.hid h3
  clear h3 hx3 hn3 hb3
  go_wp2_with fail
  (with_reducible refine (HL2.out _).mono ?_); rintro e w3' ⟨rfl, hb3⟩
  clear x0 x1 n0 n1
  have h3 := HS3'.out.below hb3
  have hx3 := blk_below HX3.out hb3
  have hn3 := blk_below HN3.out hb3
  have x0 := blk_cell hx3 0
  have x1 := blk_cell hx3 1
  have n3 := blk_cell hn3 3
  have HS3 := Kit.hid h3
  clear h3 hx3 hn3 hb3
  go_wp2_with fail
  (with_reducible refine (IH.out _ HS3.out).mono ?_); rintro e w4 ⟨L4, vf4, rfl, hs4, l4, hh4, ho4⟩
  have HS4 := Kit.hid hs4
  have HH4 := Kit.hid hh4
  have HO4 := Kit.hid ho4
  have HL4 := Kit.hid l4
  have y4 : (k : Int) < (L4.length : Int) := by omega
  clear hs4 hh4 ho4 l4 x0 x1 n3
  obtain ⟨p0, p1, p2, _, _, _⟩ := HS4.out.pcells
  obtain ⟨a0, a1, a2, a3, a4, a5⟩ := HS4.out.ncells (HK.out L4 HO4.out)
  have fr4 := HS4.out.row.frozenAt (k * 6 + 3)
  have S5 := Kit.hid (HS4.out.nset (n' := ⟨y, l.root, t.root, l.many + r.many + 1, max l.deep r.deep + 1⟩) (v := .int .i64 (t.root : Int)) (HK.out L4 HO4.out) (k := 3) (by decide) rfl)
  go_wp2_with fail
  (with_reducible refine (HE.out _ _ _ S5.out HL4.out HH4.out HO4.out).mono ?_); rintro e w5 ⟨L5, vf5, rfl, hs5, l5, hh5, ho5⟩
  have HS5 := Kit.hid hs5
  have HH5 := Kit.hid hh5
  have HO5 := Kit.hid ho5
  have HL5 := Kit.hid l5
  clear hs5 hh5 ho5 l5
  go_wp2
  go_ret
  exact ⟨L5, vf5, rfl, HS5.out, HL5.out, HH5.out, HO5.out⟩
/-- The item is found, and one side is empty. -/
theorem drop_leaf (x : It) (k : Nat) (y : It) (l r : T) (w : World) (h : Sh w0 S0 w p gl cl vf L top F) (hlen : L.length ≤ 549755813888) (hfl : F.length ≤ L.length) (ft : Fit L (.node k y l r)) (hx : less x y = false) (hx2 : less y x = false) (hlr : l = .nil ∨ r = .nil) :
    Calls Try.prog 79 #[.pointer (some ⟨p, 0, none⟩), .int .i64 (k : Int), .agg #[.int .i64 x.key, .int .i64 x.id]] w (DropPost w0 S0 p gl cl L top F (dropK x (.node k y l r)) (dropT x (.node k y l r)) (T.node k y l r).idx) := by
  have hk := (List.getElem?_eq_some_iff.1 ft.holds.node).1
  have pk := ft.pos k (by simp [T.idx])
  have HK1 : Hid (dropK x (.node k y l r) = k) := Kit.hid (by rw [dropK, if_neg (by rw [hx]; decide), if_neg (by rw [hx2]; decide)])
  have HT1 : Hid (dropT x (.node k y l r) = joinT l r) := Kit.hid (by rw [dropT, if_neg (by rw [hx]; decide), if_neg (by rw [hx2]; decide)])
  rw [HK1.out, HT1.out]
  have HJ : Hid (((l.root : Nat) : Int) + ((r.root : Nat) : Int) = (((joinT l r).root : Nat) : Int) ∧ Holds L (joinT l r)) := Kit.hid (by
    rcases hlr with rfl | rfl
    · exact ⟨by simp [joinT, T.root], ft.holds.2.2⟩
    · cases l with
      | nil => exact ⟨by simp [joinT, T.root], trivial⟩
      | node a z ll lr => exact ⟨by simp [joinT, T.root], ft.holds.2.1⟩)
  have HL : Hid (∀ w', Calls Try.prog 84 #[.agg #[.int .i64 x.key, .int .i64 x.id], .agg #[.int .i64 y.key, .int .i64 y.id]] w' fun e w'' => e = .returned (.bool false) ∧ Below w'.heap.size w' w'') := Kit.hid (fun w' => by have := less_any x y w'; rw [hx] at this; exact this)
  have HL2 : Hid (∀ w', Calls Try.prog 84 #[.agg #[.int .i64 y.key, .int .i64 y.id], .agg #[.int .i64 x.key, .int .i64 x.id]] w' fun e w'' => e = .returned (.bool false) ∧ Below w'.heap.size w' w'') := Kit.hid (fun w' => by have := less_any y x w'; rw [hx2] at this; exact this)
  have gl0 : ((l.root : Int) == 0) = true ∨ ((l.root : Int) == 0) = false ∧ ((r.root : Int) == 0) = true := by
    rcases hlr with rfl | rfl
    · exact .inl rfl
    · cases hq : ((l.root : Int) == 0)
      · exact .inr ⟨rfl, rfl⟩
      · exact .inl rfl
  have hrl : l.root < L.length := by
    cases l with
    | nil => simp only [T.root]; omega
    | node a z ll lr => exact ft.left.holds.lt a (by simp [T.idx])
  have hrr : r.root < L.length := by
    cases r with
    | nil => simp only [T.root]; omega
    | node a z rl rr => exact ft.right.holds.lt a (by simp [T.idx])
  obtain ⟨p0, p1, p2, _, _, _⟩ := h.pcells
  obtain ⟨a0, a1, a2, a3, a4, a5⟩ := h.ncells ft.holds.node
  replace a0 : w.cell? ⟨gl, k * 6, none⟩ = some (.int .i64 y.key) := a0
  replace a1 : w.cell? ⟨gl, k * 6 + 1, none⟩ = some (.int .i64 y.id) := a1
  replace a2 : w.cell? ⟨gl, k * 6 + 2, none⟩ = some (.int .i64 (l.root : Int)) := a2
  replace a3 : w.cell? ⟨gl, k * 6 + 3, none⟩ = some (.int .i64 (r.root : Int)) := a3
  obtain ⟨mn, hmn⟩ : ∃ mn, mn = (ndOf y l r).many := ⟨_, rfl⟩
  obtain ⟨dp, hdp⟩ : ∃ dp, dp = (ndOf y l r).deep := ⟨_, rfl⟩
  rw [← hmn] at a4
  rw [← hdp] at a5
  have z1 : (0 : Int) ≤ (k : Int) := by omega
  have y1 : (k : Int) < (L.length : Int) := by omega
  have hg := h.glt
  have hp' := h.plt
  have HS := Kit.hid h
  obtain ⟨wb, hwb⟩ : ∃ wb, wb = ((w.alloc (.cells #[.int .i64 x.key, .int .i64 x.id] 107)).alloc (.cells #[.int .i64 y.key, .int .i64 y.id, .int .i64 (l.root : Int), .int .i64 (r.root : Int), .int .i64 (mn : Int), .int .i64 (dp : Int)] 124)) := ⟨_, rfl⟩
  obtain ⟨xb, hxb⟩ : ∃ xb, xb = w.heap.size := ⟨_, rfl⟩
  obtain ⟨nb, hnb⟩ : ∃ nb, nb = w.heap.size + 1 := ⟨_, rfl⟩
  have HSB : Hid (Sh w0 S0 wb p gl cl vf L top F) := Kit.hid (by rw [hwb]; exact (h.alloc _).alloc _)
  have HXB : Hid (wb.heap[xb]? = some (.cells #[.int .i64 x.key, .int .i64 x.id] 107 (0, 0))) := Kit.hid (by rw [hwb, hxb]; exact blk_alloc (blk_new _ _) _)
  have HNB : Hid (wb.heap[nb]? = some (.cells #[.int .i64 y.key, .int .i64 y.id, .int .i64 (l.root : Int), .int .i64 (r.root : Int), .int .i64 (mn : Int), .int .i64 (dp : Int)] 124 (0, 0))) := Kit.hid (by
    rw [hwb, hnb]
    have := blk_new (w.alloc (.cells #[.int .i64 x.key, .int .i64 x.id] 107)) (.cells #[.int .i64 y.key, .int .i64 y.id, .int .i64 (l.root : Int), .int .i64 (r.root : Int), .int .i64 (mn : Int), .int .i64 (dp : Int)] 124)
    rw [World.size_alloc] at this
    exact this)
  have HWB := Kit.hid hwb
  have HXN := Kit.hid hxb
  have HNN := Kit.hid hnb
  have HFN : Hid (∀ j, vf.ownBlock = some j → j ≠ nb) := Kit.hid (fun j hj => by have := HS.out.flt j hj; have := HNN.out; omega)
  have hnp : nb ≠ p := by have := HNN.out; omega
  have HR := Kit.hid ft.holds
  clear h ft hx hx2 hmn hdp pk hwb hxb hnb hlr
  rcases gl0 with gl0 | ⟨gl0, gr0⟩
  all_goals
    go_enter Try.func79, Try.ntmps79
    go_wp2_with fail
    rw [← HWB.out, ← HNN.out, ← HXN.out]
    clear p0 p1 p2 a0 a1 a2 a3 a4 a5 hg hp'
    (with_reducible refine (HL.out _).mono ?_); rintro e w3 ⟨rfl, hb3⟩
    have h3 := HSB.out.below hb3
    have hx3 := blk_below HXB.out hb3
    have hn3 := blk_below HNB.out hb3
    have x0 := blk_cell hx3 0
    have x1 := blk_cell hx3 1
    have n0 := blk_cell hn3 0
    have n1 := blk_cell hn3 1
    have HX3 := Kit.hid hx3
    have HN3 := Kit.hid hn3
    have HS3' := Kit.hid h3
    clear h3 hx3 hn3 hb3
    go_wp2_with fail
    (with_reducible refine (HL2.out _).mono ?_); rintro e w3' ⟨rfl, hb3⟩
    clear x0 x1 n0 n1
    have h3 := HS3'.out.below hb3
    have hn3 := blk_below HN3.out hb3
    have n2 := blk_cell hn3 2
    have n3 := blk_cell hn3 3
    obtain ⟨p0, p1, p2, fp0, fp1, fp2⟩ := h3.pcells
    have hA := Kit.hid (h3.alloc (.cells #[.int .i64 (k : Int)] 3))
    have hfree := hA.out.free
    have hlit := litI w3' (k : Int)
    have HS3 := Kit.hid h3
    have HN4 := Kit.hid hn3
    have hp3 := h3.plt
    clear h3 hn3 hb3
    go_wp2_with (at_builtin; refine wpList_append_src rfl _ _ 36 rfl 0 3 (.int .i64 0) 8 Try.underlying36 infoI rfl vf F.length (F.map fun (n : Nat) => Value.int .i64 (n : Int)) rfl hfree (some ⟨w3'.heap.size, 0, none⟩) 1 1 [.int .i64 (k : Int)] rfl rfl hlit (by simp [Value.oneCell']) (by unfold maxLen; omega) (by omega) (Nat.zero_le _) ?_
                 intro v4 w4 hown4 hg4 hc4
                 obtain ⟨g4, c4, rfl, _, _, _⟩ := own_form hown4 (by omega)
                 have hn4 := (hg4.block nb (by have := blk_lt HN4.out; simp; omega) (fun e => HFN.out nb e.symm rfl)).trans (blk_alloc HN4.out _)
                 have hat4 := (hg4.block p (by simp; omega) (fun e => hA.out.fp e.symm)).trans hA.out.at_
                 have q2 := blk_cell hn4 2
                 have q3 := blk_cell hn4 3
                 have r2 := blk_cell hat4 2
                 have s2 := blk_frozen hat4 2
                 have S5 := Kit.hid (hA.out.fgrow hown4 hg4 hc4)
                 clear hown4 hg4 hc4 hn4 hat4 n2 n3 p0 p1 p2 fp0 fp1 fp2)
    go_ret
    exact ⟨L, _, by rw [← HJ.out.1]; rfl, S5.out, rfl, HJ.out.2, fun j _ => rfl⟩
set_option maxHeartbeats 1600000 in
/-- The item is found, and both sides are there. -/
theorem drop_both (x : It) (k : Nat) (y : It) (l r : T) (w : World) (h : Sh w0 S0 w p gl cl vf L top F) (hlen : L.length ≤ 549755813888) (hfl : F.length ≤ L.length) (ft : Fit L (.node k y l r)) (hx : less x y = false) (hx2 : less y x = false) (hl : l ≠ .nil) (hr : r ≠ .nil) (hz : L[0]? = some zeroN) :
    Calls Try.prog 79 #[.pointer (some ⟨p, 0, none⟩), .int .i64 (k : Int), .agg #[.int .i64 x.key, .int .i64 x.id]] w (DropPost w0 S0 p gl cl L top F (dropK x (.node k y l r)) (dropT x (.node k y l r)) (T.node k y l r).idx) := by
  have hk := (List.getElem?_eq_some_iff.1 ft.holds.node).1
  have pk := ft.pos k (by simp [T.idx])
  have HK1 : Hid (dropK x (.node k y l r) = k) := Kit.hid (by rw [dropK, if_neg (by rw [hx]; decide), if_neg (by rw [hx2]; decide)])
  have HT1 : Hid (dropT x (.node k y l r) = joinT l r) := Kit.hid (by rw [dropT, if_neg (by rw [hx]; decide), if_neg (by rw [hx2]; decide)])
  rw [HK1.out, HT1.out]
  have HL : Hid (∀ w', Calls Try.prog 84 #[.agg #[.int .i64 x.key, .int .i64 x.id], .agg #[.int .i64 y.key, .int .i64 y.id]] w' fun e w'' => e = .returned (.bool false) ∧ Below w'.heap.size w' w'') := Kit.hid (fun w' => by have := less_any x y w'; rw [hx] at this; exact this)
  have HL2 : Hid (∀ w', Calls Try.prog 84 #[.agg #[.int .i64 y.key, .int .i64 y.id], .agg #[.int .i64 x.key, .int .i64 x.id]] w' fun e w'' => e = .returned (.bool false) ∧ Below w'.heap.size w' w'') := Kit.hid (fun w' => by have := less_any y x w'; rw [hx2] at this; exact this)
  have rne : ∀ t : T, Fit L t → t ≠ .nil → ((t.root : Int) == 0) = false := fun t hf hn => by
    cases t with
    | nil => exact absurd rfl hn
    | node a z tl tr => have := hf.pos a (by simp [T.idx]); exact beq_eq_false_iff_ne.2 (by simp only [T.root]; omega)
  have gl0 := rne l ft.left hl
  have gr0 := rne r ft.right hr
  have hp := leastT_idx r hr
  have HJE : Hid (joinT l r = evenT (.node (leastT r).1 (leastT r).2.1 l (leastT r).2.2)) := Kit.hid (by
    cases l with
    | nil => exact absurd rfl hl
    | node a z ll lr =>
      cases r with
      | nil => exact absurd rfl hr
      | node b u rl rr => rfl)
  rw [HJE.out]
  have HLE : Hid (∀ w' S0' w0' vf', Sh w0' S0' w' p gl cl vf' L top (F ++ [k]) → Calls Try.prog 85 #[.pointer (some ⟨p, 0, none⟩), .int .i64 (r.root : Int)] w' (LeastPost w0' S0' p gl cl vf' L top (F ++ [k]) (leastT r) r.idx)) :=
    Kit.hid (fun w' S0' w0' vf' hs => least_any r w' hr hs hz (by omega) ft.right)
  obtain ⟨q, hq⟩ : ∃ q, q = leastT r := ⟨_, rfl⟩
  rw [← hq] at hp HLE
  rw [← hq]
  have hdd := ft.nodup
  simp only [T.idx, List.nodup_cons, List.nodup_append, List.mem_append, not_or] at hdd
  obtain ⟨⟨kl, kr⟩, _, _, hdd⟩ := hdd
  have q1r : q.1 ∈ r.idx := hp.mem_iff.1 List.mem_cons_self
  have hnq : (q.1 :: q.2.2.idx).Nodup := hp.nodup_iff.2 ft.right.nodup
  have hql : q.1 < L.length := ft.right.holds.lt _ q1r
  have HE : Hid (∀ w' L' vf' (m d : Nat), Sh w0 S0 w' p gl cl vf' (L'.set q.1 ⟨q.2.1, l.root, q.2.2.root, m, d⟩) top (F ++ [k]) → L'.length = L.length → Holds L' q.2.2 → (∀ j, j ∉ r.idx → L'[j]? = L[j]?) →
      Calls Try.prog 86 #[.pointer (some ⟨p, 0, none⟩), .int .i64 (q.1 : Int)] w' (DropPost w0 S0 p gl cl L top F k (evenT (.node q.1 q.2.1 l q.2.2)) (T.node k y l r).idx)) := Kit.hid (fun w' L' vf' m d hs l1 hh ho => by
    have q1l : q.1 ∉ l.idx := fun e => hdd q.1 e q.1 q1r rfl
    have fl2 := (ft.left.off fun j hj => ho j (fun e => hdd j hj j e rfl)).set q1l ⟨q.2.1, l.root, q.2.2.root, m, d⟩
    have fo1 : Fit L' q.2.2 := ⟨hh, (List.nodup_cons.1 hnq).2, fun j hj => ft.right.pos j (hp.mem_iff.1 (List.mem_cons_of_mem _ hj))⟩
    have fo2 := fo1.set (List.nodup_cons.1 hnq).1 ⟨q.2.1, l.root, q.2.2.root, m, d⟩
    have hnd : (q.1 :: (l.idx ++ q.2.2.idx)).Nodup := by
      have h1 : (k :: q.1 :: (l.idx ++ q.2.2.idx)).Perm (T.node k y l r).idx := by
        refine List.perm_iff_count.2 fun c => ?_
        have := List.perm_iff_count.1 hp c
        simp only [T.idx, List.count_cons, List.count_append] at this ⊢
        omega
      exact (List.nodup_cons.1 (h1.nodup_iff.2 ft.nodup)).2
    have pq := ft.right.pos _ q1r
    refine (even_any hs (by rw [List.getElem?_set_ne (by omega), ho 0 (fun e => Nat.lt_irrefl _ (ft.right.pos 0 e))]; exact hz) (by simp; omega) q.1 q.2.1 l q.2.2 _ _ (by rw [List.getElem?_set_self (by omega)]) fl2 fo2 hnd pq).mono ?_
    rintro e w'' ⟨L'', he, hs', hl', hh', ho'⟩
    refine ⟨L'', vf', he, hs', by rw [hl']; simp; omega, hh', fun j hj => ?_⟩
    simp only [T.idx, List.mem_cons, List.mem_append, not_or] at hj
    have hjq : j ≠ q.1 := fun e => hj.2.2 (by rw [e]; exact q1r)
    rw [ho' j (fun e => ?_), List.getElem?_set_ne (Ne.symm hjq), ho j hj.2.2]
    simp only [List.mem_cons, List.mem_append] at e
    rcases e with e | e | e
    · exact hjq e
    · exact hj.2.1 e
    · exact hj.2.2 (hp.mem_iff.1 (List.mem_cons_of_mem _ e)))
  have hrl : l.root < L.length := by
    cases l with
    | nil => simp only [T.root]; omega
    | node a z ll lr => exact ft.left.holds.lt a (by simp [T.idx])
  have hrr : r.root < L.length := by
    cases r with
    | nil => simp only [T.root]; omega
    | node a z rl rr => exact ft.right.holds.lt a (by simp [T.idx])
  obtain ⟨p0, p1, p2, _, _, _⟩ := h.pcells
  obtain ⟨a0, a1, a2, a3, a4, a5⟩ := h.ncells ft.holds.node
  replace a0 : w.cell? ⟨gl, k * 6, none⟩ = some (.int .i64 y.key) := a0
  replace a1 : w.cell? ⟨gl, k * 6 + 1, none⟩ = some (.int .i64 y.id) := a1
  replace a2 : w.cell? ⟨gl, k * 6 + 2, none⟩ = some (.int .i64 (l.root : Int)) := a2
  replace a3 : w.cell? ⟨gl, k * 6 + 3, none⟩ = some (.int .i64 (r.root : Int)) := a3
  obtain ⟨mn, hmn⟩ : ∃ mn, mn = (ndOf y l r).many := ⟨_, rfl⟩
  obtain ⟨dp, hdp⟩ : ∃ dp, dp = (ndOf y l r).deep := ⟨_, rfl⟩
  rw [← hmn] at a4
  rw [← hdp] at a5
  have z1 : (0 : Int) ≤ (k : Int) := by omega
  have y1 : (k : Int) < (L.length : Int) := by omega
  have hg := h.glt
  have hp' := h.plt
  have HS := Kit.hid h
  obtain ⟨wb, hwb⟩ : ∃ wb, wb = ((w.alloc (.cells #[.int .i64 x.key, .int .i64 x.id] 107)).alloc (.cells #[.int .i64 y.key, .int .i64 y.id, .int .i64 (l.root : Int), .int .i64 (r.root : Int), .int .i64 (mn : Int), .int .i64 (dp : Int)] 124)) := ⟨_, rfl⟩
  obtain ⟨xb, hxb⟩ : ∃ xb, xb = w.heap.size := ⟨_, rfl⟩
  obtain ⟨nb, hnb⟩ : ∃ nb, nb = w.heap.size + 1 := ⟨_, rfl⟩
  have HSB : Hid (Sh w0 S0 wb p gl cl vf L top F) := Kit.hid (by rw [hwb]; exact (h.alloc _).alloc _)
  have HXB : Hid (wb.heap[xb]? = some (.cells #[.int .i64 x.key, .int .i64 x.id] 107 (0, 0))) := Kit.hid (by rw [hwb, hxb]; exact blk_alloc (blk_new _ _) _)
  have HNB : Hid (wb.heap[nb]? = some (.cells #[.int .i64 y.key, .int .i64 y.id, .int .i64 (l.root : Int), .int .i64 (r.root : Int), .int .i64 (mn : Int), .int .i64 (dp : Int)] 124 (0, 0))) := Kit.hid (by
    rw [hwb, hnb]
    have := blk_new (w.alloc (.cells #[.int .i64 x.key, .int .i64 x.id] 107)) (.cells #[.int .i64 y.key, .int .i64 y.id, .int .i64 (l.root : Int), .int .i64 (r.root : Int), .int .i64 (mn : Int), .int .i64 (dp : Int)] 124)
    rw [World.size_alloc] at this
    exact this)
  have HWB := Kit.hid hwb
  have HXN := Kit.hid hxb
  have HNN := Kit.hid hnb
  have HFN : Hid (∀ j, vf.ownBlock = some j → j ≠ nb) := Kit.hid (fun j hj => by have := HS.out.flt j hj; have := HNN.out; omega)
  have hnp : nb ≠ p := by have := HNN.out; omega
  have z1q : (0 : Int) ≤ (q.1 : Int) := by omega
  have hgp := h.gp
  have hngl : nb ≠ gl := by have := h.glt; omega
  clear h ft hx hx2 hmn hdp pk hwb hxb hnb hl hr hq hp hdd kl kr q1r hnq rne hz
  go_enter Try.func79, Try.ntmps79
  go_wp2_with fail
  rw [← HWB.out, ← HNN.out, ← HXN.out]
  clear p0 p1 p2 a0 a1 a2 a3 a4 a5 hg hp'
  (with_reducible refine (HL.out _).mono ?_); rintro e w3 ⟨rfl, hb3⟩
  have h3 := HSB.out.below hb3
  have hx3 := blk_below HXB.out hb3
  have hn3 := blk_below HNB.out hb3
  have x0 := blk_cell hx3 0
  have x1 := blk_cell hx3 1
  have n0 := blk_cell hn3 0
  have n1 := blk_cell hn3 1
  have HX3 := Kit.hid hx3
  have HN3 := Kit.hid hn3
  have HS3' := Kit.hid h3
  clear h3 hx3 hn3 hb3
  go_wp2_with fail
  (with_reducible refine (HL2.out _).mono ?_); rintro e w3' ⟨rfl, hb3⟩
  clear x0 x1 n0 n1
  have h3 := HS3'.out.below hb3
  have hn3 := blk_below HN3.out hb3
  have n2 := blk_cell hn3 2
  have n3 := blk_cell hn3 3
  obtain ⟨p0, p1, p2, fp0, fp1, fp2⟩ := h3.pcells
  have hA := Kit.hid (h3.alloc (.cells #[.int .i64 (k : Int)] 3))
  have hfree := hA.out.free
  have hlit := litI w3' (k : Int)
  have HS3 := Kit.hid h3
  have HN4 := Kit.hid hn3
  have hp3 := h3.plt
  clear h3 hn3 hb3
  go_wp2_with (first
    | (at_builtin; refine wpList_append_src rfl _ _ 36 rfl 0 3 (.int .i64 0) 8 Try.underlying36 infoI rfl vf F.length (F.map fun (n : Nat) => Value.int .i64 (n : Int)) rfl hfree (some ⟨w3'.heap.size, 0, none⟩) 1 1 [.int .i64 (k : Int)] rfl rfl hlit (by simp [Value.oneCell']) (by unfold maxLen; omega) (by omega) (Nat.zero_le _) ?_
       intro v4 w4 hown4 hg4 hc4
       obtain ⟨g4, c4, rfl, _, _, _⟩ := own_form hown4 (by omega)
       have hn4 := (hg4.block nb (by have := blk_lt HN4.out; simp; omega) (fun e => HFN.out nb e.symm rfl)).trans (blk_alloc HN4.out _)
       have hat4 := (hg4.block p (by simp; omega) (fun e => hA.out.fp e.symm)).trans hA.out.at_
       have q3 := blk_cell hn4 3
       have r2 := blk_cell hat4 2
       have s2 := blk_frozen hat4 2
       have S5 := Kit.hid (hA.out.fgrow hown4 hg4 hc4)
       have N5 := Kit.hid (blk_far hn4 (p := ⟨p, 2, none⟩) hnp (.slice (some ⟨g4, 0, none⟩) (F.length + 1) c4))
       have G4 : Hid (g4 ≠ nb) := Kit.hid (by
         rcases hc4 with e | e
         · exact fun e2 => HFN.out g4 e.symm e2
         · have e' : g4 = (w3'.alloc (.cells #[.int .i64 (k : Int)] 3)).heap.size := Option.some.inj e
           have := blk_lt HN4.out
           rw [World.size_alloc] at e'
           omega)
       clear hown4 hg4 hc4 hn4 hat4 n2 n3 p0 p1 p2 fp0 fp1 fp2)
    | (go_at_call 85; (with_reducible refine (HLE.out _ _ _ _ S5.out.self).mono ?_); rintro e w6 ⟨L6, rfl, hs6, l6, hh6, hq6, ⟨nd, hnd, hndx⟩, ho6⟩
       have N6 := Kit.hid ((hs6.kept.block nb (blk_lt N5.out) (by
         rintro (e | e | e)
         · exact hnp e
         · exact hngl e
         · exact G4.out (Option.some.inj e))).trans N5.out)
       have hs6 := S5.out.back hs6
       obtain ⟨p0, p1, p2, _, _, _⟩ := hs6.pcells
       have n2 := blk_cell N6.out 2
       obtain ⟨nx, nlow, nhigh, nmany, ndeep⟩ := nd
       have hndx : nx = q.2.1 := hndx
       subst hndx
       have hn6 := hq6.trans hnd
       obtain ⟨b0, b1, b2, b3, b4, b5⟩ := hs6.ncells hn6
       have fr2 := hs6.row.frozenAt (q.1 * 6 + 2)
       have fr3 := hs6.row.frozenAt (q.1 * 6 + 3)
       have y6 : (q.1 : Int) < (L6.length : Int) := by omega
       have hlt6 := (List.getElem?_eq_some_iff.1 hn6).1
       have A1 := hs6.nset (n' := ⟨q.2.1, l.root, nhigh, nmany, ndeep⟩) (v := .int .i64 (l.root : Int)) hn6 (k := 2) (by decide) rfl
       have A2 := A1.nset (i := q.1) (n := ⟨q.2.1, l.root, nhigh, nmany, ndeep⟩) (n' := ⟨q.2.1, l.root, q.2.2.root, nmany, ndeep⟩) (v := .int .i64 (q.2.2.root : Int)) (k := 3) (by rw [List.getElem?_set_self hlt6]) (by decide) rfl
       rw [List.set_set] at A2
       have B1 := hs6.nset (n' := ⟨q.2.1, nlow, q.2.2.root, nmany, ndeep⟩) (v := .int .i64 (q.2.2.root : Int)) hn6 (k := 3) (by decide) rfl
       have B2 := B1.nset (i := q.1) (n := ⟨q.2.1, nlow, q.2.2.root, nmany, ndeep⟩) (n' := ⟨q.2.1, l.root, q.2.2.root, nmany, ndeep⟩) (v := .int .i64 (l.root : Int)) (k := 2) (by rw [List.getElem?_set_self hlt6]) (by decide) rfl
       rw [List.set_set] at B2
       have SA := Kit.hid A2.drew
       have SB := Kit.hid B2.drew
       have HH6 := Kit.hid hh6
       have HO6 := Kit.hid ho6
       have HL6 := Kit.hid l6
       clear A1 A2 B1 B2 hs6 hh6 ho6 l6 hnd hn6 hq6 hlt6 q3 r2 s2))
  go_region
  all_goals
    go_wp2_with fail
    (with_reducible refine (HE.out _ _ _ _ _ SA.out HL6.out HH6.out HO6.out).mono ?_); rintro e w7 ⟨L7, vf7, rfl, hs7, l7, hh7, ho7⟩
    have HS7 := Kit.hid hs7
    have HH7 := Kit.hid hh7
    have HO7 := Kit.hid ho7
    have HL7 := Kit.hid l7
    clear hs7 hh7 ho7 l7
    go_wp2
    go_ret
    exact ⟨L7, vf7, rfl, HS7.out, HL7.out, HH7.out, HO7.out⟩
theorem drop_any (x : It) (hz : L[0]? = some zeroN) (hlen : L.length ≤ 549755813888) (hfl : F.length ≤ L.length) (t : T) : ∀ (w : World), Hits x t → Sh w0 S0 w p gl cl vf L top F → Fit L t →
    Calls Try.prog 79 #[.pointer (some ⟨p, 0, none⟩), .int .i64 (t.root : Int), .agg #[.int .i64 x.key, .int .i64 x.id]] w (DropPost w0 S0 p gl cl L top F (dropK x t) (dropT x t) t.idx) := by
  induction t with
  | nil => exact fun _ h => h.elim
  | node k y l r ihl ihr =>
    intro w hh h ft
    cases hx : less x y with
    | true =>
      have hl : Hits x l := by
        simp only [Hits] at hh
        rw [if_pos hx] at hh
        exact hh
      exact drop_left x k y l r w h hz hlen ft hx hl (Kit.hid fun w' hs => ihl w' hl hs ft.left)
    | false =>
      cases hx2 : less y x with
      | true =>
        have hr : Hits x r := by
          simp only [Hits] at hh
          rw [if_neg (by rw [hx]; decide), if_pos hx2] at hh
          exact hh
        exact drop_right x k y l r w h hz hlen ft hx hx2 hr (Kit.hid fun w' hs => ihr w' hr hs ft.right)
      | false =>
        by_cases hlr : l = .nil ∨ r = .nil
        · exact drop_leaf x k y l r w h hlen hfl ft hx hx2 hlr
        · exact drop_both x k y l r w h hlen hfl ft hx hx2 (fun e => hlr (.inl e)) (fun e => hlr (.inr e)) hz
end
end Go.Proofs.Ytpgfenelckonoaa.Sh
