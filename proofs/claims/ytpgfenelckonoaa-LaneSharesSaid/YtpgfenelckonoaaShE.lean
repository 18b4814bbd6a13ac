/- The walk of put. -/
import Derived.Test.YtpgfenelckonoaaShD
import Derived.Deep.RegionWith
import Derived.Deep.CutRange
import Derived.Deep.DeepCutAuto
namespace Go.Proofs.Ytpgfenelckonoaa.Sh
open Go.RowKit Go.Proofs.Ytpgfenelckonoaa.Kit Go.Proofs.Ytpgfenelckonoaa.ShM
set_option linter.unusedVariables false
set_option linter.unusedSimpArgs false
def PutPost (w0 : World) (S0 : Nat → Prop) (p : Nat) (L : List Nd) (top : Nat) (F : List Nat) (n : Nat) (t' : T) (I : List Nat) (e : Ending) (w' : World) : Prop :=
  ∃ L' gl' cl' vf', e = .returned (.int .i64 (t'.root : Int)) ∧ Sh w0 S0 w' p gl' cl' vf' L' top F.dropLast ∧ L'.length ≤ L.length + 1 ∧ L.length ≤ L'.length ∧ Holds L' t' ∧ ∀ j, j ∉ I → j ≠ n → L'[j]? = L[j]?
section
variable {w0 : World} {S0 : Nat → Prop} {p : Nat} {L : List Nd} {top : Nat} {F : List Nat}
theorem made_any {w : World} {gl cl : Nat} {vf : Value} (h : Sh w0 S0 w p gl cl vf L top F) (hlen : L.length ≤ 549755813888) (x : It) (hf : Free L F []) :
    Calls Try.prog 87 #[.pointer (some ⟨p, 0, none⟩), .agg #[.int .i64 x.key, .int .i64 x.id]] w (MadePost w0 S0 p L top F x) := by
  have hfl := nodup_len L.length F hf.nodup (fun k hk => (hf.lt k hk).2)
  rcases List.eq_nil_or_concat F with rfl | ⟨F', k, rfl⟩
  · exact made_grow h (by omega) x
  · rw [List.concat_eq_append] at *
    exact made_free h (by omega) x k F' rfl (hf.lt k (by simp)).2 (by simp at hfl; omega)
theorem put_nil (x : It) (w : World) (gl cl : Nat) (vf : Value) (h : Sh w0 S0 w p gl cl vf L top F) (hz : L[0]? = some zeroN) (hlen : L.length ≤ 549755813888) (hf : Free L F []) :
    Calls Try.prog 81 #[.pointer (some ⟨p, 0, none⟩), .int .i64 (T.nil.root : Int), .agg #[.int .i64 x.key, .int .i64 x.id]] w (PutPost w0 S0 p L top F (fresh L.length F) (putT (fresh L.length F) x .nil) T.nil.idx) := by
  have HM : Hid (∀ w', Sh w0 S0 w' p gl cl vf L top F → Calls Try.prog 87 #[.pointer (some ⟨p, 0, none⟩), .agg #[.int .i64 x.key, .int .i64 x.id]] w' (MadePost w0 S0 p L top F x)) := Kit.hid (fun w' hs => made_any hs hlen x hf)
  have HS := Kit.hid (h.alloc (.cells #[.int .i64 x.key, .int .i64 x.id] 107))
  have r0 : ((T.nil.root : Nat) : Int) = 0 := rfl
  rw [r0]
  clear h hz hlen hf r0
  go_enter Try.func81, Try.ntmps81
  go_wp2_with fail
  (with_reducible refine (HM.out _ HS.out).mono ?_); rintro e w3 ⟨L', gl', cl', vf', rfl, hs, h1, h2, h3, h4⟩
  have HS3 := Kit.hid hs
  have HQ := Kit.hid h3
  have HO := Kit.hid h4
  clear hs h3 h4
  go_wp2
  go_ret
  exact ⟨L', gl', cl', vf', rfl, HS3.out, h1, h2, ⟨HQ.out, trivial, trivial⟩, fun j _ hj => HO.out j hj⟩
set_option maxHeartbeats 800000 in
theorem put_right (x : It) (k : Nat) (y : It) (l r : T) (n : Nat) (w : World) (gl cl : Nat) (vf : Value) (h : Sh w0 S0 w p gl cl vf L top F) (hz : L[0]? = some zeroN) (hlen : L.length ≤ 549755813888) (ft : Fit L (.node k y l r)) (hf : Free L F (T.node k y l r).idx) (hn : n = fresh L.length F) (hx : less x y = false)
    (IH : Hid (∀ w', Sh w0 S0 w' p gl cl vf L top F → Calls Try.prog 81 #[.pointer (some ⟨p, 0, none⟩), .int .i64 (r.root : Int), .agg #[.int .i64 x.key, .int .i64 x.id]] w' (PutPost w0 S0 p L top F n (putT n x r) r.idx))) :
    Calls Try.prog 81 #[.pointer (some ⟨p, 0, none⟩), .int .i64 ((T.node k y l r).root : Int), .agg #[.int .i64 x.key, .int .i64 x.id]] w (PutPost w0 S0 p L top F n (putT n x (.node k y l r)) (T.node k y l r).idx) := by
  have hk := (List.getElem?_eq_some_iff.1 ft.holds.node).1
  have pk := ft.pos k (by simp [T.idx])
  have pn := hf.fresh_pos (by omega)
  have nn := hf.fresh_not ft.holds.lt
  rw [← hn] at pn nn
  have hdd := ft.nodup
  simp only [T.idx, List.nodup_cons, List.nodup_append, List.mem_append, not_or] at hdd
  obtain ⟨⟨kl, kr⟩, _, _, hdd⟩ := hdd
  have dd : ∀ j, j ∈ l.idx → j ∈ r.idx → False := fun j h1 h2 => hdd j h1 j h2 rfl
  have l_in : ∀ {j}, j ∈ l.idx → j ∈ l.idx := fun h => h
  have r_in : ∀ {j}, j ∈ r.idx → j ∈ r.idx := fun h => h
  have hkn : k ≠ n := fun e => nn (by rw [← e]; simp [T.idx])
  have nn_l : n ∉ l.idx := fun e => nn (by simp [T.idx, e])
  have nn_r : n ∉ r.idx := fun e => nn (by simp [T.idx, e])
  clear hdd
  have gk : ((k : Int) == 0) = false := beq_eq_false_iff_ne.2 (by omega)
  have r0 : (((T.node k y l r).root : Nat) : Int) = (k : Int) := rfl
  rw [r0]
  obtain ⟨wb, hwb⟩ : ∃ wb, wb = w.alloc (.cells #[.int .i64 x.key, .int .i64 x.id] 107) := ⟨_, rfl⟩
  obtain ⟨xb, hxb⟩ : ∃ xb, xb = w.heap.size := ⟨_, rfl⟩
  have HSB : Hid (Sh w0 S0 wb p gl cl vf L top F) := Kit.hid (by rw [hwb]; exact h.alloc _)
  have HXB2 : Hid (wb.heap[xb]? = some (.cells #[.int .i64 x.key, .int .i64 x.id] 107 (0, 0))) := Kit.hid (by rw [hwb, hxb]; exact blk_new _ _)
  have HKN := Kit.hid ft.holds.node
  obtain ⟨p0, p1, p2, _, _, _⟩ := HSB.out.pcells
  obtain ⟨a0, a1, a2, a3, a4, a5⟩ := HSB.out.ncells HKN.out
  replace a0 : wb.cell? ⟨gl, k * 6, none⟩ = some (.int .i64 y.key) := a0
  replace a1 : wb.cell? ⟨gl, k * 6 + 1, none⟩ = some (.int .i64 y.id) := a1
  have x0 := blk_cell HXB2.out 0
  have x1 := blk_cell HXB2.out 1
  have hg := HSB.out.glt
  have hp := HSB.out.plt
  clear a2 a3 a4 a5 r0
  have z1 : (0 : Int) ≤ (k : Int) := by omega
  have y1 : (k : Int) < (L.length : Int) := by omega
  have HL : Hid (∀ w', Calls Try.prog 84 #[.agg #[.int .i64 x.key, .int .i64 x.id], .agg #[.int .i64 y.key, .int .i64 y.id]] w' fun e w'' => e = .returned (.bool false) ∧ Below w'.heap.size w' w'') := Kit.hid (fun w' => by have := less_any x y w'; rw [hx] at this; exact this)
  have HT : Hid (putT n x (.node k y l r) = evenT (.node k y l (putT n x r))) := Kit.hid (by rw [putT, if_neg (by rw [hx]; decide)])
  have HE : Hid (∀ w' gl' cl' vf' L', Sh w0 S0 w' p gl' cl' vf' (L'.set k ⟨y, l.root, (putT n x r).root, l.many + r.many + 1, max l.deep r.deep + 1⟩) top F.dropLast → L'.length ≤ L.length + 1 → L.length ≤ L'.length → Holds L' (putT n x r) → (∀ j, j ∉ r.idx → j ≠ n → L'[j]? = L[j]?) →
      Calls Try.prog 86 #[.pointer (some ⟨p, 0, none⟩), .int .i64 (k : Int)] w' (PutPost w0 S0 p L top F n (evenT (.node k y l (putT n x r))) (T.node k y l r).idx)) := Kit.hid (fun w' gl' cl' vf' L' hs l1 l2 hh ho => by
    have fl1 : Fit L' (putT n x r) := Fit.of_perm hh (putT_idx n x r) (List.nodup_cons.2 ⟨nn_r, ft.right.nodup⟩) (fun j hj => by
      rcases List.mem_cons.1 hj with rfl | hj
      · exact pn
      · exact ft.right.pos j hj)
    have hkp : k ∉ (putT n x r).idx := fun e => by
      rcases List.mem_cons.1 ((putT_idx n x r).mem_iff.1 e) with e | e
      · exact hkn e
      · exact kr e
    have fl2 := fl1.set hkp ⟨y, l.root, (putT n x r).root, l.many + r.many + 1, max l.deep r.deep + 1⟩
    have fo2 : Fit (L'.set k ⟨y, l.root, (putT n x r).root, l.many + r.many + 1, max l.deep r.deep + 1⟩) l := (ft.left.off fun j hj => ho j (fun e => dd j hj e) (fun e => nn_l (e ▸ hj))).set kl _
    have hnd : (k :: (l.idx ++ (putT n x r).idx)).Nodup := by
      have h1 : ((T.node k y l (putT n x r)).idx).Perm (n :: (T.node k y l r).idx) := by
        refine List.perm_iff_count.2 fun c => ?_
        have := List.perm_iff_count.1 (putT_idx n x r) c
        simp only [T.idx, List.count_cons, List.count_append] at this ⊢
        omega
      exact h1.nodup_iff.2 (List.nodup_cons.2 ⟨nn, ft.nodup⟩)
    refine (even_any hs (by rw [List.getElem?_set_ne (by omega), ho 0 (fun e => Nat.lt_irrefl _ (ft.right.pos 0 e)) (by omega)]; exact hz) (by simp; omega) k y l (putT n x r) _ _ (by rw [List.getElem?_set_self (by omega)]) fo2 fl2 hnd pk).mono ?_
    rintro e w'' ⟨L'', he, hs', hl', hh', ho'⟩
    refine ⟨L'', gl', cl', vf', he, hs', by rw [hl']; simp; omega, by rw [hl']; simp; omega, hh', fun j hj hjn => ?_⟩
    simp only [T.idx, List.mem_cons, List.mem_append, not_or] at hj
    rw [ho' j (fun e => ?_), List.getElem?_set_ne (Ne.symm hj.1), ho j hj.2.2 hjn]
    have := (putT_idx n x r).mem_iff (a := j)
    simp only [List.mem_cons, List.mem_append, this] at e
    rcases e with e | e | (e | e)
    · exact hj.1 e
    · exact hj.2.1 e
    · exact hjn e
    · exact hj.2.2 e)
  have HK : Hid (∀ L' : List Nd, (∀ j, j ∉ r.idx → j ≠ n → L'[j]? = L[j]?) → L'[k]? = some (ndOf y l r)) := Kit.hid (fun L' ho => by rw [ho k kr hkn]; exact ft.holds.node)
  rw [HT.out]
  clear hx h hz ft hf hlen pk pn hn nn nn_l nn_r kl kr hkn dd l_in r_in
  go_enter Try.func81, Try.ntmps81
  go_wp2_with fail
  rw [← hwb, ← hxb]
  have HXB := Kit.hid hxb
  clear hxb hwb
  go_upto_region 3 with fail
  go_cut [23] (fun v23 wr => v23 = .bool false ∧ Hid (Below wb.heap.size wb wr))
  case first =>
    go_region_with ((go_at_call 84; (with_reducible refine (HL.out _).mono ?_); rintro e w3 ⟨rfl, hd3⟩))
    all_goals
      have hb3 := Kit.hid ((below_drewN (Below.refl wb.heap.size wb) _).trans hd3)
      go_wp2_with fail
      go_meet
      exact ⟨rfl, hb3⟩
  obtain ⟨rfl, hb3⟩ := hcut
  obtain ⟨w3, rfl⟩ : ∃ w3, w3 = wc := ⟨_, rfl⟩
  have h3 := HSB.out.below hb3.out
  have hx3 := blk_below HXB2.out hb3.out
  obtain ⟨p0, p1, p2, _, _, _⟩ := h3.pcells
  obtain ⟨a0, a1, a2, a3, a4, a5⟩ := h3.ncells HKN.out
  replace a3 : w3.cell? ⟨gl, k * 6 + 3, none⟩ = some (.int .i64 (r.root : Int)) := a3
  have x0 := blk_cell hx3 0
  have x1 := blk_cell hx3 1
  have hg := h3.glt
  have hp := h3.plt
  have HS3 := Kit.hid h3
  clear h3 hx3 HKN
  go_upto_region 6 with fail
  go_cut [8] (fun v7 wr => ∃ L' gl' cl' vf', v7 = .int .i64 ((putT n x r).root : Int) ∧ Hid (Sh w0 S0 wr p gl' cl' vf' L' top F.dropLast) ∧ L'.length ≤ L.length + 1 ∧ L.length ≤ L'.length ∧ Hid (Holds L' (putT n x r)) ∧ Hid (∀ j, j ∉ r.idx → j ≠ n → L'[j]? = L[j]?))
  case first =>
    go_region_with ((go_at_call 81; (with_reducible refine (IH.out _ HS3.out.drew).mono ?_); rintro e w4 ⟨L4, gl4, cl4, vf4, rfl, hs4, l4, m4, hh4, ho4⟩; have HS4 := Kit.hid hs4; have HH4 := Kit.hid hh4; have HO4 := Kit.hid ho4; clear hs4 hh4 ho4))
    all_goals
      go_wp2_with fail
      go_meet
      exact ⟨L4, gl4, cl4, vf4, rfl, HS4, l4, m4, HH4, HO4⟩
  obtain ⟨L4, gl4, cl4, vf4, rfl, HS4, l4, m4, HH4, HO4⟩ := hcut
  obtain ⟨w4, rfl⟩ : ∃ w4, w4 = wc := ⟨_, rfl⟩
  clear p0 p1 p2 a0 a1 a2 a3 a4 a5 x0 x1 hg hp
  obtain ⟨p0, p1, p2, _, _, _⟩ := HS4.out.pcells
  obtain ⟨a0, a1, a2, a3, a4, a5⟩ := HS4.out.ncells (HK.out L4 HO4.out)
  have y4 : (k : Int) < (L4.length : Int) := by omega
  have fr4 := HS4.out.row.frozenAt (k * 6 + 3)
  have S5 := Kit.hid (HS4.out.nset (n' := ⟨y, l.root, (putT n x r).root, l.many + r.many + 1, max l.deep r.deep + 1⟩) (v := .int .i64 ((putT n x r).root : Int)) (HK.out L4 HO4.out) (k := 3) (by decide) rfl)
  go_wp2_with fail
  (with_reducible refine (HE.out _ _ _ _ _ S5.out l4 m4 HH4.out HO4.out).mono ?_); rintro e w5 ⟨L5, gl5, cl5, vf5, rfl, hs5, l5, m5, hh5, ho5⟩
  have HS5 := Kit.hid hs5
  have HH5 := Kit.hid hh5
  have HO5 := Kit.hid ho5
  clear hs5 hh5 ho5
  go_wp2
  go_ret
  exact ⟨L5, gl5, cl5, vf5, rfl, HS5.out, l5, m5, HH5.out, HO5.out⟩
set_option maxHeartbeats 800000 in
theorem put_left (x : It) (k : Nat) (y : It) (l r : T) (n : Nat) (w : World) (gl cl : Nat) (vf : Value) (h : Sh w0 S0 w p gl cl vf L top F) (hz : L[0]? = some zeroN) (hlen : L.length ≤ 549755813888) (ft : Fit L (.node k y l r)) (hf : Free L F (T.node k y l r).idx) (hn : n = fresh L.length F) (hx : less x y = true)
    (IH : Hid (∀ w', Sh w0 S0 w' p gl cl vf L top F → Calls Try.prog 81 #[.pointer (some ⟨p, 0, none⟩), .int .i64 (l.root : Int), .agg #[.int .i64 x.key, .int .i64 x.id]] w' (PutPost w0 S0 p L top F n (putT n x l) l.idx))) :
    Calls Try.prog 81 #[.pointer (some ⟨p, 0, none⟩), .int .i64 ((T.node k y l r).root : Int), .agg #[.int .i64 x.key, .int .i64 x.id]] w (PutPost w0 S0 p L top F n (putT n x (.node k y l r)) (T.node k y l r).idx) := by
  have hk := (List.getElem?_eq_some_iff.1 ft.holds.node).1
  have pk := ft.pos k (by simp [T.idx])
  have pn := hf.fresh_pos (by omega)
  have nn := hf.fresh_not ft.holds.lt
  rw [← hn] at pn nn
  have hdd := ft.nodup
  simp only [T.idx, List.nodup_cons, List.nodup_append, List.mem_append, not_or] at hdd
  obtain ⟨⟨kl, kr⟩, _, _, hdd⟩ := hdd
  have dd : ∀ j, j ∈ l.idx → j ∈ r.idx → False := fun j h1 h2 => hdd j h1 j h2 rfl
  have l_in : ∀ {j}, j ∈ l.idx → j ∈ l.idx := fun h => h
  have r_in : ∀ {j}, j ∈ r.idx → j ∈ r.idx := fun h => h
  have hkn : k ≠ n := fun e => nn (by rw [← e]; simp [T.idx])
  have nn_l : n ∉ l.idx := fun e => nn (by simp [T.idx, e])
  have nn_r : n ∉ r.idx := fun e => nn (by simp [T.idx, e])
  clear hdd
  have gk : ((k : Int) == 0) = false := beq_eq_false_iff_ne.2 (by omega)
  have r0 : (((T.node k y l r).root : Nat) : Int) = (k : Int) := rfl
  rw [r0]
  obtain ⟨wb, hwb⟩ : ∃ wb, wb = w.alloc (.cells #[.int .i64 x.key, .int .i64 x.id] 107) := ⟨_, rfl⟩
  obtain ⟨xb, hxb⟩ : ∃ xb, xb = w.heap.size := ⟨_, rfl⟩
  have HSB : Hid (Sh w0 S0 wb p gl cl vf L top F) := Kit.hid (by rw [hwb]; exact h.alloc _)
  have HXB2 : Hid (wb.heap[xb]? = some (.cells #[.int .i64 x.key, .int .i64 x.id] 107 (0, 0))) := Kit.hid (by rw [hwb, hxb]; exact blk_new _ _)
  have HKN := Kit.hid ft.holds.node
  obtain ⟨p0, p1, p2, _, _, _⟩ := HSB.out.pcells
  obtain ⟨a0, a1, a2, a3, a4, a5⟩ := HSB.out.ncells HKN.out
  replace a0 : wb.cell? ⟨gl, k * 6, none⟩ = some (.int .i64 y.key) := a0
  replace a1 : wb.cell? ⟨gl, k * 6 + 1, none⟩ = some (.int .i64 y.id) := a1
  have x0 := blk_cell HXB2.out 0
  have x1 := blk_cell HXB2.out 1
  have hg := HSB.out.glt
  have hp := HSB.out.plt
  clear a2 a3 a4 a5 r0
  have z1 : (0 : Int) ≤ (k : Int) := by omega
  have y1 : (k : Int) < (L.length : Int) := by omega
  have HL : Hid (∀ w', Calls Try.prog 84 #[.agg #[.int .i64 x.key, .int .i64 x.id], .agg #[.int .i64 y.key, .int .i64 y.id]] w' fun e w'' => e = .returned (.bool true) ∧ Below w'.heap.size w' w'') := Kit.hid (fun w' => by have := less_any x y w'; rw [hx] at this; exact this)
  have HT : Hid (putT n x (.node k y l r) = evenT (.node k y (putT n x l) r)) := Kit.hid (by rw [putT, if_pos hx])
  have HE : Hid (∀ w' gl' cl' vf' L', Sh w0 S0 w' p gl' cl' vf' (L'.set k ⟨y, (putT n x l).root, r.root, l.many + r.many + 1, max l.deep r.deep + 1⟩) top F.dropLast → L'.length ≤ L.length + 1 → L.length ≤ L'.length → Holds L' (putT n x l) → (∀ j, j ∉ l.idx → j ≠ n → L'[j]? = L[j]?) →
      Calls Try.prog 86 #[.pointer (some ⟨p, 0, none⟩), .int .i64 (k : Int)] w' (PutPost w0 S0 p L top F n (evenT (.node k y (putT n x l) r)) (T.node k y l r).idx)) := Kit.hid (fun w' gl' cl' vf' L' hs l1 l2 hh ho => by
    have fl1 : Fit L' (putT n x l) := Fit.of_perm hh (putT_idx n x l) (List.nodup_cons.2 ⟨nn_l, ft.left.nodup⟩) (fun j hj => by
      rcases List.mem_cons.1 hj with rfl | hj
      · exact pn
      · exact ft.left.pos j hj)
    have hkp : k ∉ (putT n x l).idx := fun e => by
      rcases List.mem_cons.1 ((putT_idx n x l).mem_iff.1 e) with e | e
      · exact hkn e
      · exact kl e
    have fl2 := fl1.set hkp ⟨y, (putT n x l).root, r.root, l.many + r.many + 1, max l.deep r.deep + 1⟩
    have fo2 : Fit (L'.set k ⟨y, (putT n x l).root, r.root, l.many + r.many + 1, max l.deep r.deep + 1⟩) r := (ft.right.off fun j hj => ho j (fun e => dd j e hj) (fun e => nn_r (e ▸ hj))).set kr _
    have hnd : (k :: ((putT n x l).idx ++ r.idx)).Nodup := by
      have h1 : ((T.node k y (putT n x l) r).idx).Perm (n :: (T.node k y l r).idx) := by
        refine List.perm_iff_count.2 fun c => ?_
        have := List.perm_iff_count.1 (putT_idx n x l) c
        simp only [T.idx, List.count_cons, List.count_append] at this ⊢
        omega
      exact h1.nodup_iff.2 (List.nodup_cons.2 ⟨nn, ft.nodup⟩)
    refine (even_any hs (by rw [List.getElem?_set_ne (by omega), ho 0 (fun e => Nat.lt_irrefl _ (ft.left.pos 0 e)) (by omega)]; exact hz) (by simp; omega) k y (putT n x l) r _ _ (by rw [List.getElem?_set_self (by omega)]) fl2 fo2 hnd pk).mono ?_
    rintro e w'' ⟨L'', he, hs', hl', hh', ho'⟩
    refine ⟨L'', gl', cl', vf', he, hs', by rw [hl']; simp; omega, by rw [hl']; simp; omega, hh', fun j hj hjn => ?_⟩
    simp only [T.idx, List.mem_cons, List.mem_append, not_or] at hj
    rw [ho' j (fun e => ?_), List.getElem?_set_ne (Ne.symm hj.1), ho j hj.2.1 hjn]
    have := (putT_idx n x l).mem_iff (a := j)
    simp only [List.mem_cons, List.mem_append, this] at e
    rcases e with e | (e | e) | e
    · exact hj.1 e
    · exact hjn e
    · exact hj.2.1 e
    · exact hj.2.2 e)
  have HK : Hid (∀ L' : List Nd, (∀ j, j ∉ l.idx → j ≠ n → L'[j]? = L[j]?) → L'[k]? = some (ndOf y l r)) := Kit.hid (fun L' ho => by rw [ho k kl hkn]; exact ft.holds.node)
  rw [HT.out]
  clear hx h hz ft hf hlen pk pn hn nn nn_l nn_r kl kr hkn dd l_in r_in
  go_enter Try.func81, Try.ntmps81
  go_wp2_with fail
  rw [← hwb, ← hxb]
  have HXB := Kit.hid hxb
  clear hxb hwb
  go_upto_region 3 with fail
  go_cut [23] (fun v23 wr => v23 = .bool true ∧ Hid (Below wb.heap.size wb wr))
  case first =>
    go_region_with ((go_at_call 84; (with_reducible refine (HL.out _).mono ?_); rintro e w3 ⟨rfl, hd3⟩))
    all_goals
      have hb3 := Kit.hid ((below_drewN (Below.refl wb.heap.size wb) _).trans hd3)
      go_wp2_with fail
      go_meet
      exact ⟨rfl, hb3⟩
  obtain ⟨rfl, hb3⟩ := hcut
  obtain ⟨w3, rfl⟩ : ∃ w3, w3 = wc := ⟨_, rfl⟩
  have h3 := HSB.out.below hb3.out
  have hx3 := blk_below HXB2.out hb3.out
  obtain ⟨p0, p1, p2, _, _, _⟩ := h3.pcells
  obtain ⟨a0, a1, a2, a3, a4, a5⟩ := h3.ncells HKN.out
  replace a2 : w3.cell? ⟨gl, k * 6 + 2, none⟩ = some (.int .i64 (l.root : Int)) := a2
  have x0 := blk_cell hx3 0
  have x1 := blk_cell hx3 1
  have hg := h3.glt
  have hp := h3.plt
  have HS3 := Kit.hid h3
  clear h3 hx3 HKN
  go_upto_region 4 with fail
  go_cut [7] (fun v7 wr => ∃ L' gl' cl' vf', v7 = .int .i64 ((putT n x l).root : Int) ∧ Hid (Sh w0 S0 wr p gl' cl' vf' L' top F.dropLast) ∧ L'.length ≤ L.length + 1 ∧ L.length ≤ L'.length ∧ Hid (Holds L' (putT n x l)) ∧ Hid (∀ j, j ∉ l.idx → j ≠ n → L'[j]? = L[j]?))
  case first =>
    go_region_with ((go_at_call 81; (with_reducible refine (IH.out _ HS3.out.drew).mono ?_); rintro e w4 ⟨L4, gl4, cl4, vf4, rfl, hs4, l4, m4, hh4, ho4⟩; have HS4 := Kit.hid hs4; have HH4 := Kit.hid hh4; have HO4 := Kit.hid ho4; clear hs4 hh4 ho4))
    all_goals
      go_wp2_with fail
      go_meet
      exact ⟨L4, gl4, cl4, vf4, rfl, HS4, l4, m4, HH4, HO4⟩
  obtain ⟨L4, gl4, cl4, vf4, rfl, HS4, l4, m4, HH4, HO4⟩ := hcut
  obtain ⟨w4, rfl⟩ : ∃ w4, w4 = wc := ⟨_, rfl⟩
  clear p0 p1 p2 a0 a1 a2 a3 a4 a5 x0 x1 hg hp
  obtain ⟨p0, p1, p2, _, _, _⟩ := HS4.out.pcells
  obtain ⟨a0, a1, a2, a3, a4, a5⟩ := HS4.out.ncells (HK.out L4 HO4.out)
  have y4 : (k : Int) < (L4.length : Int) := by omega
  have fr4 := HS4.out.row.frozenAt (k * 6 + 2)
  have S5 := Kit.hid (HS4.out.nset (n' := ⟨y, (putT n x l).root, r.root, l.many + r.many + 1, max l.deep r.deep + 1⟩) (v := .int .i64 ((putT n x l).root : Int)) (HK.out L4 HO4.out) (k := 2) (by decide) rfl)
  go_wp2_with fail
  (with_reducible refine (HE.out _ _ _ _ _ S5.out l4 m4 HH4.out HO4.out).mono ?_); rintro e w5 ⟨L5, gl5, cl5, vf5, rfl, hs5, l5, m5, hh5, ho5⟩
  have HS5 := Kit.hid hs5
  have HH5 := Kit.hid hh5
  have HO5 := Kit.hid ho5
  clear hs5 hh5 ho5
  go_wp2
  go_ret
  exact ⟨L5, gl5, cl5, vf5, rfl, HS5.out, l5, m5, HH5.out, HO5.out⟩
theorem put_any (x : It) (t : T) : ∀ (w : World) (gl cl : Nat) (vf : Value), Sh w0 S0 w p gl cl vf L top F → L[0]? = some zeroN → L.length ≤ 549755813888 → Fit L t → Free L F t.idx →
    Calls Try.prog 81 #[.pointer (some ⟨p, 0, none⟩), .int .i64 (t.root : Int), .agg #[.int .i64 x.key, .int .i64 x.id]] w (PutPost w0 S0 p L top F (fresh L.length F) (putT (fresh L.length F) x t) t.idx) := by
  induction t with
  | nil => exact fun w gl cl vf h hz hlen _ hf => put_nil x w gl cl vf h hz hlen hf
  | node k y l r ihl ihr =>
    intro w gl cl vf h hz hlen ft hf
    cases hx : less x y with
    | false => exact put_right x k y l r _ w gl cl vf h hz hlen ft hf rfl hx (Kit.hid fun w' hs => ihr w' gl cl vf hs hz hlen ft.right (hf.sub fun j hj => by simp [T.idx, hj]))
    | true => exact put_left x k y l r _ w gl cl vf h hz hlen ft hf rfl hx (Kit.hid fun w' hs => ihl w' gl cl vf hs hz hlen ft.left (hf.sub fun j hj => by simp [T.idx, hj]))
end
end Go.Proofs.Ytpgfenelckonoaa.Sh
