/- All the items, each with its rank. -/
import Derived.Test.YtpgfenelckonoaaShU
namespace Go.Proofs.Ytpgfenelckonoaa.Sh
open Go.RowKit Go.Shelf Go.Proofs.Ytpgfenelckonoaa.Kit Go.Proofs.Ytpgfenelckonoaa.ShM Go.Proofs.Ytpgfenelckonoaa.Seq
set_option linter.unusedVariables false
set_option linter.unusedSimpArgs false
attribute [local go_sem] Oper.semAt_some
def ranked : Nat → List It → List (Nat × It)
  | _, [] => []
  | k, x :: l => (k, x) :: ranked (k + 1) l
theorem ranked_append (k : Nat) (a b : List It) : ranked k (a ++ b) = ranked k a ++ ranked (k + a.length) b := by
  induction a generalizing k with
  | nil => simp [ranked]
  | cons x a ih =>
    simp only [List.cons_append, ranked, ih, List.length_cons]
    rw [Nat.add_assoc, Nat.add_comm 1]
def encR (e : Nat × It) : Array Value := #[.int .i64 (e.1 : Int), .agg #[.int .i64 e.2.key, .int .i64 e.2.id]]
def allRd (p gl sb : Nat) : Nat → Prop := fun k => k = p ∨ k = gl ∨ k = sb
theorem all_mk (p : Nat) (w : World) :
    Calls Try.prog 61 #[.pointer (some ⟨p, 0, none⟩)] w fun e w' => e = .returned (.func (.func 76) #[] #[.pointer (some ⟨w.heap.size, 0, none⟩)]) ∧
      Below w.heap.size w w' ∧ w'.heap.size = w.heap.size + 1 ∧ w'.heap[w.heap.size]? = some (.cells #[.pointer (some ⟨p, 0, none⟩)] 102 (0, 0)) := by
  go_enter Try.func61, Try.ntmps61
  go_wp2
  go_ret
  exact ⟨rfl, (Below.refl _ w).alloc (Nat.le_refl _) _, by simp, World.alloc_heap_new w _⟩
set_option maxHeartbeats 4000000 in
theorem all_seq (p gl cl : Nat) (L : List Nd) (t : T) (n : Nat) (hz : ∃ n, L[0]? = some n) (hlen : L.length ≤ 1099511627776) (hh : ShM.Holds L t) (hp : ∀ i ∈ t.idx, 0 < i) (hmany : t.items.length ≤ 1099511627776) (sb : Nat) (W : World) (hL : Looks p gl cl L W) (ht : W.cell? ⟨p, 1, none⟩ = some (.int .i64 (t.root : Int))) (hb : W.cell? ⟨sb, 0, none⟩ = some (.pointer (some ⟨p, 0, none⟩))) (lg : gl < W.heap.size) :
    SeqAt Try.prog 76 #[.pointer (some ⟨sb, 0, none⟩)] encR (ranked 0 t.items) (allRd p gl sb) W := by
  intro l J Jx M hJ hJx hM h0 hY
  have lb := cell_lt hb
  have lp := cell_lt ht
  have HY := Kit.hid hY
  have HJ := Kit.hid hJ
  have HJx := Kit.hid hJx
  have HM := Kit.hid hM
  have H0 := Kit.hid h0
  have HL := Kit.hid hL
  have HS := Kit.hid (below_seq p gl cl L hz hlen t)
  have HH := Kit.hid hh
  have HP := Kit.hid hp
  clear hY hJ hJx hM h0 hL hh hp hz
  refine (callsIn_wide (n := 3)).1 ?_
  refine callsIn_of_wp_marks Try.func76 rfl trivial ?_ rfl
  simp only [Try.ntmps76, List.size_toArray, List.length_cons, List.length_nil, Nat.reduceAdd, Nat.reduceSub, Array.replicate_succ, Array.replicate_zero, List.push_toArray, List.append_toArray, List.nil_append, List.cons_append]
  gi_wp2
  generalize hW2 : World.alloc (World.alloc W _) _ = W2
  have sz2 : W2.heap.size = W.heap.size + 2 := by rw [← hW2]; simp
  have hA2 : ∃ t, W2.heap[W.heap.size]? = some (.cells #[.func (.yield l) #[] #[]] t (0, 0)) := by rw [← hW2]; exact ⟨_, (Below.heap_alloc _ _ _ (by simp)).trans (World.alloc_heap_new W _)⟩
  have hN2 : ∃ t, W2.heap[W.heap.size + 1]? = some (.cells #[.int .i64 0] t (0, 0)) := by
    rw [← hW2]
    exact ⟨_, by have := World.alloc_heap_new (W.alloc (.cells #[.func (.yield l) #[] #[]] 125)) (.cells #[.int .i64 0] 3); rwa [World.size_alloc] at this⟩
  have hb2 : Below W.heap.size W W2 := by rw [← hW2]; exact ((Below.refl _ W).alloc (Nat.le_refl _) _).alloc (by simp) _
  clear hW2
  have cS : W2.cell? ⟨sb, 0, none⟩ = some (.pointer (some ⟨p, 0, none⟩)) := (cell_same (hb2.block _ lb) 0).trans hb
  have cP : W2.cell? ⟨p, 1, none⟩ = some (.int .i64 (t.root : Int)) := (cell_same (hb2.block _ lp) 1).trans ht
  have lS2 : sb < W2.heap.size := by omega
  have lP2 : p < W2.heap.size := by omega
  clear hb ht
  refine cutIn { tmps := #[.func (.yield l) #[] #[], .pointer (some ⟨sb, 0, none⟩), .pointer (some ⟨W.heap.size, 0, none⟩), .pointer (some ⟨W.heap.size + 1, 0, none⟩), undef, .pointer (some ⟨p, 0, none⟩), .pointer (some ⟨p, 0, none⟩), .pointer (some ⟨p, 0, none⟩), .pointer (some ⟨p, 1, none⟩), .int .i64 (t.root : Int),
      .func (.func 82) #[] #[.pointer (some ⟨W.heap.size + 2 + 1, 0, none⟩), .pointer (some ⟨W.heap.size + 2, 0, none⟩)], undef, undef, undef, undef, undef, undef, undef, undef], defers := [] } (fun w' => Below (W.heap.size + 2) W2 w' ∧ w'.heap.size = W.heap.size + 2 + 2 ∧ w'.heap[W.heap.size + 2]? = some (.cells #[.pointer (some ⟨p, 0, none⟩)] 102 (0, 0)) ∧ w'.heap[W.heap.size + 2 + 1]? = some (.cells #[.int .i64 (t.root : Int)] 3 (0, 0))) ?h ?k
  case h =>
    gi_region_with (refine ⟨trivial, (callsIn_wide.2 (below_mk p _ _)).mono ?_⟩; rintro e wB ⟨rfl, hbB, hsB, hB0, hB1⟩)
    all_goals
      have e2 : W2.drew.heap.size = W.heap.size + 2 := sz2
      rw [e2] at hB0 hB1 hsB hbB
      exact ⟨rfl, ⟨hbB.os, hbB.tape, hbB.output, hbB.size, hbB.block⟩, hsB, hB0, hB1⟩
  case k =>
    rintro wB ⟨hbB, hsB, hB0, hB1⟩
    have hbWB : Below W.heap.size W wB := hb2.trans (hbB.mono (by omega))
    have HLB := Kit.hid (HL.out.same (hbWB.block _ lp) (hbWB.block _ lg))
    have HS1 : Hid (∀ W', Below wB.heap.size wB W' → SeqAt Try.prog 82 #[.pointer (some ⟨W.heap.size + 2 + 1, 0, none⟩), .pointer (some ⟨W.heap.size + 2, 0, none⟩)] encI t.items (belowRd p gl (W.heap.size + 2 + 1) (W.heap.size + 2)) W') :=
      Kit.hid fun W' hb => HS.out _ _ W' HH.out HP.out (HLB.out.same (hb.block _ (by omega)) (hb.block _ (by omega))) ((cell_same (hb.block _ (by omega)) 0).trans (blk_at hB1 0)) ((cell_same (hb.block _ (by omega)) 0).trans (blk_at hB0 0))
    obtain ⟨tA, hA2⟩ := hA2
    obtain ⟨tN, hN2⟩ := hN2
    have HA : Hid (wB.heap[W.heap.size]? = some (.cells #[.func (.yield l) #[] #[]] tA (0, 0))) := Kit.hid ((hbB.block _ (by omega)).trans hA2)
    have hN : wB.heap[W.heap.size + 1]? = some (.cells #[.int .i64 0] tN (0, 0)) := (hbB.block _ (by omega)).trans hN2
    obtain ⟨R, hR⟩ : ∃ R : Nat → Prop, R = fun k => k = W.heap.size := ⟨_, rfl⟩
    have HRlt : Hid (∀ k, R k → k < wB.heap.size ∧ k < wB.heap.size) := Kit.hid (fun k h => by rw [hR] at h; omega)
    have RA : Hid (R W.heap.size) := Kit.hid (by rw [hR])
    have HM0 : Hid (∀ k, plusL M (W.heap.size + 1) k → ¬ R k) := Kit.hid (fun k hk h => by
      rw [hR] at h
      rcases hk with hk | hk
      · have := (HM.out k hk).1; omega
      · omega)
    obtain ⟨J2, hJ2⟩ : ∃ J2 : ((Nat → Prop) → List (Nat × It) → World → Prop) → (Nat → Prop) → List It → World → Prop, J2 = fun J N pre W' => ∃ N', N = plusL N' (W.heap.size + 1) ∧ ¬ N' (W.heap.size + 1) ∧ J N' (ranked 0 pre) W' ∧ W'.heap[W.heap.size + 1]? = some (.cells #[.int .i64 (pre.length : Int)] tN (0, 0)) := ⟨_, rfl⟩
    have HAb : Hid (∀ J, Abide W.heap.size J → Abide wB.heap.size (J2 J)) := Kit.hid (fun J hJ => by
      rw [hJ2]
      rintro N s A A' ⟨N', rfl, h1, h2, h3⟩ hag
      have := (Array.getElem?_eq_some_iff.1 h3).1
      refine ⟨N', rfl, h1, hJ _ _ _ _ h2 (hag.mono fun k hk => ?_), (hag.same _ this (.inl (by omega))).trans h3⟩
      rcases hk with h | h
      · exact .inl (by omega)
      · exact .inr (.inl h))
    have H2 : Hid (J2 J (plusL M (W.heap.size + 1)) [] wB) := Kit.hid (by
      rw [hJ2]
      exact ⟨M, rfl, fun h => by have := (HM.out _ h).1; omega, HJ.out _ _ _ _ H0.out (Agree.of_below hbWB), hN⟩)
    obtain ⟨X2, hX2⟩ : ∃ X2 : (Nat → Prop) → List It → World → Prop, X2 = fun N pre W' => ∃ N', N = plusL N' (W.heap.size + 1) ∧ Jx N' (ranked 0 pre) W' := ⟨_, rfl⟩
    have HXb : Hid (Abide wB.heap.size X2) := Kit.hid (by
      rw [hX2]
      rintro N s A A' ⟨N', rfl, h2⟩ hag
      refine ⟨N', rfl, HJx.out _ _ _ _ h2 (hag.mono fun k hk => ?_)⟩
      rcases hk with h | h
      · exact .inl (by omega)
      · exact .inr (.inl h))
    have HJ2 := Kit.hid hJ2
    have HX2 := Kit.hid hX2
    clear hR hN hA2 hN2 hB0 hB1 hJ2 hX2
    gi_wp2
    refine wpIn_rangeO (gf := 82) (lb := #[.pointer (some ⟨W.heap.size + 2 + 1, 0, none⟩), .pointer (some ⟨W.heap.size + 2, 0, none⟩)]) rfl (enters_of Try.func82 (by kernel_rfl) rfl)
      (encs := encI) (xs := t.items) (Rd := belowRd p gl (W.heap.size + 2 + 1) (W.heap.size + 2)) HS1.out (fun _ => rfl)
      (Held R wB (J2 J)) (fun c N s W' => c = .ret ∧ X2 N s W') (Held.abide (HAb.out J HJ.out) (Nat.le_refl _) HRlt.out) (fun c N s A A' h hag => ⟨h.1, HXb.out _ _ _ _ h.2 hag⟩)
      (plusL M (W.heap.size + 1)) (fun k hk => ?_) (fun k hk => ?_) ⟨H2.out, HM0.out, fun k hk => ?_, Nat.le_refl _, fun _ _ => rfl⟩ ?round ?done ?stop
    · rcases hk with hk | hk
      · have := HM.out k hk
        refine ⟨by omega, fun h => ?_⟩
        rcases h with h | h | h | h
        · exact this.2 (.inl h)
        · exact this.2 (.inr (.inl h))
        · omega
        · omega
      · refine ⟨by omega, fun h => ?_⟩
        rcases h with h | h | h | h <;> omega
    · rcases hk with h | h | h | h <;> omega
    · rcases hk with hk | hk
      · have := (HM.out k hk).1; omega
      · omega
    case round =>
      intro m l' N pre y W3 hpre hI hN3 hl1 hl2 hnl
      have hE : encI y = #[.agg #[.int .i64 y.key, .int .i64 y.id]] := rfl
      simp only [hE]
      gi_wp2
      refine ⟨(Below.refl _ W3).alloc (Nat.le_refl _) _, fun w₂ hI2 hs2 ho2 => ?_⟩
      rw [World.size_alloc] at hs2
      have hX := (ho2 _ (by omega)).trans (World.alloc_heap_new W3 _)
      have cX0 : w₂.cell? ⟨W3.heap.size, 0, none⟩ = some (.int .i64 y.key) := blk_at hX 0
      have cX1 : w₂.cell? ⟨W3.heap.size, 1, none⟩ = some (.int .i64 y.id) := blk_at hX 1
      have cY : w₂.cell? ⟨W.heap.size, 0, none⟩ = some (.func (.yield l) #[] #[]) := blk_at ((hI2.same _ RA.out).trans HA.out) 0
      have lX : W3.heap.size < w₂.heap.size := by omega
      have lY : W.heap.size < w₂.heap.size := by omega
      have hj2 := hI2.j
      rw [HJ2.out] at hj2
      obtain ⟨N', rfl, n1, hj, hrk⟩ := hj2
      have cR : w₂.cell? ⟨W.heap.size + 1, 0, none⟩ = some (.int .i64 (pre.length : Int)) := blk_at hrk 0
      have lR : W.heap.size + 1 < w₂.heap.size := (Array.getElem?_eq_some_iff.1 hrk).1
      have hplen : pre.length < t.items.length := by have := hpre.length_le; simp at this; omega
      obtain ⟨fn, tmps, assign, body, hy, hRR⟩ := HY.out N' (ranked 0 pre) (pre.length, y) w₂ hj (fun k hk => hI2.lt k (.inl hk)) (by
        obtain ⟨q, hq⟩ := hpre
        rw [← hq, List.append_assoc, ranked_append]
        exact ⟨ranked (pre.length + 1) q, by simp [ranked]⟩) (m - 1)
      have hE2 : encR (pre.length, y) = #[.int .i64 (pre.length : Int), .agg #[.int .i64 y.key, .int .i64 y.id]] := rfl
      simp only [hE2] at hy
      have HI2 := Kit.hid hI2
      have HO := Kit.hid (Nat.le_of_lt lX)
      have HRK := Kit.hid hrk
      have HN1 := Kit.hid n1
      have hpre1 : ranked 0 pre ++ [(pre.length, y)] = ranked 0 (pre ++ [y]) := by rw [ranked_append]; simp [ranked]
      rw [hpre1] at hRR
      replace hRR := round_inside l' hRR
      clear hX hI hI2 ho2 hN3 hpre hrk n1 hj hpre1
      gi_wp2
      refine ⟨fun h => (by cases h), hRR.mono ?_⟩
      rintro e W4 ⟨hlie, M4, hg4, (⟨rfl, hj4⟩ | ⟨rfl, hj4⟩)⟩
      · have hrk4 := (hlie.same _ lR HN1.out).trans HRK.out
        have cR4 : W4.cell? ⟨W.heap.size + 1, 0, none⟩ = some (.int .i64 (pre.length : Int)) := blk_at hrk4 0
        have fR4 : W4.frozen? ⟨W.heap.size + 1, 0, none⟩ = false := blk_frozen hrk4 0
        have lR4 : W.heap.size + 1 < W4.heap.size := (Array.getElem?_eq_some_iff.1 hrk4).1
        have hn4 : ¬ M4 (W.heap.size + 1) := fun h => (hg4 _ h).2.elim HN1.out (by omega)
        have hrk5 := blk_put hrk4 0 (.int .i64 ((pre.length : Int) + 1)) (cs' := #[.int .i64 ((pre.length : Int) + 1)]) rfl
        have HZ : Hid (Lie (fun k => plusL N' (W.heap.size + 1) k ∨ W3.heap.size ≤ k) w₂ (W4.setCell ⟨W.heap.size + 1, 0, none⟩ (.int .i64 ((pre.length : Int) + 1))) ∧ ∃ M', Grows (plusL N' (W.heap.size + 1)) M' W3 (W4.setCell ⟨W.heap.size + 1, 0, none⟩ (.int .i64 ((pre.length : Int) + 1))) ∧ Held R wB (J2 J) M' (pre ++ [y]) (W4.setCell ⟨W.heap.size + 1, 0, none⟩ (.int .i64 ((pre.length : Int) + 1)))) := Kit.hid (by
          have hs5 : (W4.setCell ⟨W.heap.size + 1, 0, none⟩ (.int .i64 ((pre.length : Int) + 1))).heap.size = W4.heap.size := by simp [World.setCell]
          have ho5 : ∀ k, k ≠ W.heap.size + 1 → (W4.setCell ⟨W.heap.size + 1, 0, none⟩ (.int .i64 ((pre.length : Int) + 1))).heap[k]? = W4.heap[k]? := fun k hk => Below.heap_setCell _ _ _ _ hk
          have hl5 : Lie (plusL N' (W.heap.size + 1)) w₂ (W4.setCell ⟨W.heap.size + 1, 0, none⟩ (.int .i64 ((pre.length : Int) + 1))) :=
            ⟨by rw [hs5]; exact hlie.size, fun k hk hn => (ho5 k (fun e => hn (.inr e))).trans (hlie.same k hk (fun h => hn (.inl h)))⟩
          have hg5 : Grows (plusL N' (W.heap.size + 1)) (plusL M4 (W.heap.size + 1)) w₂ (W4.setCell ⟨W.heap.size + 1, 0, none⟩ (.int .i64 ((pre.length : Int) + 1))) := fun k hk => by
            rw [hs5]
            rcases hk with h | rfl
            · exact ⟨(hg4 k h).1, (hg4 k h).2.imp .inl id⟩
            · exact ⟨lR4, .inl (.inr rfl)⟩
          refine ⟨hl5.mono (fun k h => .inl h), _, hg5.of_below HO.out, HI2.out.step (fun k h => (HRlt.out k h).1) hl5 hg5 ?_⟩
          rw [HJ2.out]
          refine ⟨M4, rfl, hn4, HJ.out _ _ _ _ hj4 ⟨rfl, rfl, rfl, by rw [hs5]; exact Nat.le_refl _, fun k _ hk => ho5 k ?_⟩, ?_⟩
          · rintro rfl
            rcases hk with h | h
            · omega
            · exact hn4 h
          · rw [List.length_append]
            exact hrk5)
        clear hrk4 hrk5 hlie hg4 hj4 hn4
        gi_wp2
        exact HZ.out
      · have HZ : Hid (X2 (plusL M4 (W.heap.size + 1)) (pre ++ [y]) W4) := Kit.hid (by rw [HX2.out]; exact ⟨M4, rfl, hj4⟩)
        have lR4 : W.heap.size + 1 < W4.heap.size := Nat.lt_of_lt_of_le lR hlie.size
        have HG : Hid (Grows (plusL N' (W.heap.size + 1)) (plusL M4 (W.heap.size + 1)) w₂ W4) := Kit.hid (fun k hk => by
          rcases hk with h | rfl
          · exact ⟨(hg4 k h).1, (hg4 k h).2.imp .inl id⟩
          · exact ⟨lR4, .inl (.inr rfl)⟩)
        gi_wp2
        exact ⟨hlie.mono (fun k h => .inl (.inl h)), _, HG.out.of_below HO.out, rfl, HZ.out⟩
    case stop =>
      rintro D M3 c pre W3 hD hMD hpre ⟨rfl, hx⟩ hK
      rw [HX2.out] at hx
      obtain ⟨N', rfl, hj⟩ := hx
      gi_wp2
      refine leaves_mark hK ⟨_, results_none rfl _ _ _, ⟨_, rfl⟩, N', .inr ⟨ranked 0 pre, ?_, HJx.out _ _ _ _ hj (Agree.putObj _ _ ?_)⟩⟩
      · obtain ⟨q, hq⟩ := hpre
        rw [← hq, ranked_append]
        exact List.prefix_append _ _
      rintro (h | h)
      · omega
      · exact hMD (.inl h)
    case done =>
      intro D M3 W3 hD hMD hI3 hK
      have hx := hI3.j
      rw [HJ2.out] at hx
      obtain ⟨N', rfl, n1, hj, hrk⟩ := hx
      clear hrk hI3
      gi_wp2
      refine leaves_mark hK ⟨_, results_none rfl _ _ _, ⟨_, rfl⟩, N', .inl (HJ.out _ _ _ _ hj (Agree.putObj _ _ ?_))⟩
      rintro (h | h)
      · omega
      · exact hMD (.inl h)
end Go.Proofs.Ytpgfenelckonoaa.Sh
