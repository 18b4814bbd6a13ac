/- The walk of the items, in order. -/
import Derived.RangeFuncCalls
import Derived.Shelf.Abstract
import Derived.Shelf.RegionOpen
import Derived.WalkKit
import Derived.OwnWalkIn
import Derived.TacticsInMore
import Derived.LoopNIn
import Derived.LoopIn
import Derived.Test.YtpgfenelckonoaaShT
namespace Go.Proofs.Ytpgfenelckonoaa.Sh
open Go.RowKit Go.Shelf Go.Proofs.Ytpgfenelckonoaa.Kit Go.Proofs.Ytpgfenelckonoaa.ShM Go.Proofs.Ytpgfenelckonoaa.Seq
set_option linter.unusedVariables false
set_option linter.unusedSimpArgs false
attribute [local go_sem] Oper.semAt_some
/-- What a walk of the items reads. -/
structure Looks (p gl cl : Nat) (L : List Nd) (W : World) : Prop where
  top : W.cell? ⟨p, 0, none⟩ = some (.slice (some ⟨gl, 0, none⟩) L.length cl)
  nd : ∀ i n, L[i]? = some n → NC W gl i n
theorem cell_same {W W' : World} {k : Nat} (h : W'.heap[k]? = W.heap[k]?) (j : Nat) : W'.cell? ⟨k, j, none⟩ = W.cell? ⟨k, j, none⟩ := by
  unfold World.cell?
  rw [h]
theorem Looks.same {p gl cl : Nat} {L : List Nd} {W W' : World} (h : Looks p gl cl L W) (hp : W'.heap[p]? = W.heap[p]?) (hg : W'.heap[gl]? = W.heap[gl]?) : Looks p gl cl L W' := by
  refine ⟨(cell_same hp 0).trans h.top, fun i n hi => ?_⟩
  obtain ⟨h0, h1, h2, h3, h4, h5⟩ := h.nd i n hi
  exact ⟨(cell_same hg _).trans h0, (cell_same hg _).trans h1, (cell_same hg _).trans h2, (cell_same hg _).trans h3, (cell_same hg _).trans h4, (cell_same hg _).trans h5⟩
def encI (x : It) : Array Value := #[.agg #[.int .i64 x.key, .int .i64 x.id]]
def belowRd (p gl ab sb : Nat) : Nat → Prop := fun k => k = p ∨ k = gl ∨ k = ab ∨ k = sb
theorem below_mk (p : Nat) (at_ : Int) (w : World) :
    Calls Try.prog 77 #[.pointer (some ⟨p, 0, none⟩), .int .i64 at_] w fun e w' => e = .returned (.func (.func 82) #[] #[.pointer (some ⟨w.heap.size + 1, 0, none⟩), .pointer (some ⟨w.heap.size, 0, none⟩)]) ∧
      Below w.heap.size w w' ∧ w'.heap.size = w.heap.size + 2 ∧ w'.heap[w.heap.size]? = some (.cells #[.pointer (some ⟨p, 0, none⟩)] 102 (0, 0)) ∧ w'.heap[w.heap.size + 1]? = some (.cells #[.int .i64 at_] 3 (0, 0)) := by
  go_enter Try.func77, Try.ntmps77
  go_wp2
  go_ret
  refine ⟨rfl, ((Below.refl _ w).alloc (Nat.le_refl _) _).alloc (by simp) _, by simp, (Below.heap_alloc _ _ _ (by simp)).trans (World.alloc_heap_new w _), ?_⟩
  have := World.alloc_heap_new (w.alloc (.cells #[.pointer (some ⟨p, 0, none⟩)] 102)) (.cells #[.int .i64 at_] 3)
  rwa [World.size_alloc] at this
theorem blk_at {W : World} {k : Nat} {c : Array Value} {t : TypeId} (h : W.heap[k]? = some (.cells c t (0, 0))) (j : Nat) : W.cell? ⟨k, j, none⟩ = c[j]? := by
  simp [World.cell?, h]
set_option maxHeartbeats 2000000 in
theorem below_nil (p gl cl : Nat) (L : List Nd) (ab sb : Nat) (W : World) (ha : W.cell? ⟨ab, 0, none⟩ = some (.int .i64 0)) : SeqAt Try.prog 82 #[.pointer (some ⟨ab, 0, none⟩), .pointer (some ⟨sb, 0, none⟩)] encI [] (belowRd p gl ab sb) W := by
  intro l J Jx M hJ hJx hM h0 hY
  have hlt := cell_lt ha
  refine (callsIn_wide (n := 3)).1 ?_
  refine callsIn_of_wp_marks Try.func82 rfl trivial ?_ rfl
  simp only [Try.ntmps82, List.size_toArray, List.length_cons, List.length_nil, Nat.reduceAdd, Nat.reduceSub, Array.replicate_succ, Array.replicate_zero, List.push_toArray, List.append_toArray, List.nil_append, List.cons_append]
  gi_wp2
  exact ⟨_, results_none rfl _ _ _, ⟨_, rfl⟩, M, .inl (hJ _ _ _ _ h0 (Agree.of_below ((Below.refl _ W).alloc (Nat.le_refl _) _)))⟩
/-- A mark is come to; no call was deferred. -/
theorem leaves_mark {F : Fence} {n : Nat} {P : Program} {fn : Func} {tmps : Array Value} {R : Ending → World → Prop} {D : Nat} {ds : List Deferred} {W : World} (hK : W.heap[D]? = some (.deferred (some [])))
    (h : LeavesInM F n P fn tmps R ds .returning (W.putObj D (.deferred none))) : LeavesInM F n P fn tmps R ({ target := .collected D, args := #[] } :: ds) .returning W :=
  ⟨by simp, .inl ⟨_, _, rfl, run_takeDeferred hK, h⟩⟩
set_option maxHeartbeats 4000000 in
theorem below_node (p gl cl : Nat) (L : List Nd) (i : Nat) (x : It) (tl tr : T) (ab sb : Nat) (W : World) (ha : W.cell? ⟨ab, 0, none⟩ = some (.int .i64 (i : Int))) (hb : W.cell? ⟨sb, 0, none⟩ = some (.pointer (some ⟨p, 0, none⟩))) (hi : L[i]? = some (ndOf x tl tr)) (hi0 : 0 < i) (hlen : L.length ≤ 1099511627776)
    (hL : Looks p gl cl L W)
    (ihl : ∀ (ab sb : Nat) (W : World), Looks p gl cl L W → W.cell? ⟨ab, 0, none⟩ = some (.int .i64 (tl.root : Int)) → W.cell? ⟨sb, 0, none⟩ = some (.pointer (some ⟨p, 0, none⟩)) →
      SeqAt Try.prog 82 #[.pointer (some ⟨ab, 0, none⟩), .pointer (some ⟨sb, 0, none⟩)] encI tl.items (belowRd p gl ab sb) W)
    (ihr : ∀ (ab sb : Nat) (W : World), Looks p gl cl L W → W.cell? ⟨ab, 0, none⟩ = some (.int .i64 (tr.root : Int)) → W.cell? ⟨sb, 0, none⟩ = some (.pointer (some ⟨p, 0, none⟩)) →
      SeqAt Try.prog 82 #[.pointer (some ⟨ab, 0, none⟩), .pointer (some ⟨sb, 0, none⟩)] encI tr.items (belowRd p gl ab sb) W) :
    SeqAt Try.prog 82 #[.pointer (some ⟨ab, 0, none⟩), .pointer (some ⟨sb, 0, none⟩)] encI (T.node i x tl tr).items (belowRd p gl ab sb) W := by
  intro l J Jx M hJ hJx hM h0 hY
  obtain ⟨a0, a1, a2, a3, a4, a5⟩ := hL.nd i _ hi
  have hT := hL.top
  have la := cell_lt ha
  have lb := cell_lt hb
  have lp := cell_lt hT
  have lg := cell_lt a0
  have hgi : ((i : Int) == 0) = false := beq_eq_false_iff_ne.2 (by omega)
  have z1 : (0 : Int) ≤ (i : Int) := by omega
  have li := (List.getElem?_eq_some_iff.1 hi).1
  have y1 : (i : Int) < (L.length : Int) := by omega
  have HY := Kit.hid hY
  have HJ := Kit.hid hJ
  have HJx := Kit.hid hJx
  have HM := Kit.hid hM
  have H0 := Kit.hid h0
  have IHL := Kit.hid ihl
  have IHR := Kit.hid ihr
  have HL := Kit.hid hL
  clear hY hJ hJx hM h0 ihl ihr hL hi
  simp only [ndOf] at a2 a3 a4 a5
  refine (callsIn_wide (n := 3)).1 ?_
  refine callsIn_of_wp_marks Try.func82 rfl trivial ?_ rfl
  simp only [Try.ntmps82, List.size_toArray, List.length_cons, List.length_nil, Nat.reduceAdd, Nat.reduceSub, Array.replicate_succ, Array.replicate_zero, List.push_toArray, List.append_toArray, List.nil_append, List.cons_append]
  gi_wp2
  gi_region
  have hNx : (ndOf x tl tr).x = x := rfl
  simp only [hNx] at a0 a1 ⊢
  gi_wp2
  generalize hW2 : World.drew _ = W2
  have sz2 : W2.heap.size = W.heap.size + 2 := by rw [← hW2]; simp
  have hA2 : ∃ t, W2.heap[W.heap.size]? = some (.cells #[.func (.yield l) #[] #[]] t (0, 0)) := by rw [← hW2]; exact ⟨_, (Below.heap_alloc _ _ _ (by simp)).trans (World.alloc_heap_new W _)⟩
  have hN2 : ∃ t, W2.heap[W.heap.size + 1]? = some (.cells #[.int .i64 x.key, .int .i64 x.id, .int .i64 tl.root, .int .i64 tr.root, .int .i64 ((tl.many : Int) + tr.many + 1), .int .i64 (((max tl.deep tr.deep : Nat) : Int) + 1)] t (0, 0)) := by
    rw [← hW2]
    exact ⟨_, by have := World.alloc_heap_new (W.alloc (.cells #[.func (.yield l) #[] #[]] 116)) (.cells #[.int .i64 x.key, .int .i64 x.id, .int .i64 tl.root, .int .i64 tr.root, .int .i64 ((tl.many : Int) + tr.many + 1), .int .i64 (((max tl.deep tr.deep : Nat) : Int) + 1)] 124); rwa [World.size_alloc] at this⟩
  have hb2 : Below W.heap.size W W2 := by rw [← hW2]; exact (((Below.refl _ W).alloc (Nat.le_refl _) _).alloc (by simp) _).drew
  clear hW2
  refine ⟨trivial, (callsIn_wide.2 (below_mk p _ _)).mono ?_⟩
  rintro e wB ⟨rfl, hbB, hsB, hB0, hB1⟩
  rw [sz2] at hsB hB0 hB1 hbB ⊢
  dsimp only
  have hbWB : Below W.heap.size W wB := hb2.trans (hbB.mono (by omega))
  have HLB := Kit.hid (HL.out.same (hbWB.block _ lp) (hbWB.block _ lg))
  have HS1 : Hid (∀ W', Below wB.heap.size wB W' → SeqAt Try.prog 82 #[.pointer (some ⟨W.heap.size + 2 + 1, 0, none⟩), .pointer (some ⟨W.heap.size + 2, 0, none⟩)] encI tl.items (belowRd p gl (W.heap.size + 2 + 1) (W.heap.size + 2)) W') :=
    Kit.hid fun W' hb => IHL.out _ _ W' (HLB.out.same (hb.block _ (by omega)) (hb.block _ (by omega))) ((cell_same (hb.block _ (by omega)) 0).trans (blk_at hB1 0)) ((cell_same (hb.block _ (by omega)) 0).trans (blk_at hB0 0))
  obtain ⟨tA, hA2⟩ := hA2
  obtain ⟨tN, hN2⟩ := hN2
  have hA : wB.heap[W.heap.size]? = some (.cells #[.func (.yield l) #[] #[]] tA (0, 0)) := (hbB.block _ (by omega)).trans hA2
  have hN : wB.heap[W.heap.size + 1]? = some (.cells #[.int .i64 x.key, .int .i64 x.id, .int .i64 tl.root, .int .i64 tr.root, .int .i64 ((tl.many : Int) + tr.many + 1), .int .i64 (((max tl.deep tr.deep : Nat) : Int) + 1)] tN (0, 0)) := (hbB.block _ (by omega)).trans hN2
  obtain ⟨R, hR⟩ : ∃ R : Nat → Prop, R = fun k => k = p ∨ k = gl ∨ k = sb ∨ k = W.heap.size ∨ k = W.heap.size + 1 := ⟨_, rfl⟩
  have HRlt : Hid (∀ k, R k → k < wB.heap.size ∧ k < wB.heap.size) := Kit.hid (fun k h => by rw [hR] at h; omega)
  have RA : Hid (R W.heap.size) := Kit.hid (by rw [hR]; simp)
  have RN : Hid (R (W.heap.size + 1)) := Kit.hid (by rw [hR]; simp)
  have Rp : Hid (R p) := Kit.hid (by rw [hR]; simp)
  have Rg : Hid (R gl) := Kit.hid (by rw [hR]; simp)
  have Rs : Hid (R sb) := Kit.hid (by rw [hR]; simp)
  have HM0 : Hid (∀ k, M k → ¬ R k) := Kit.hid (fun k hk h => by
    have := HM.out k hk
    rw [hR] at h
    rcases h with h | h | h | h | h
    · exact this.2 (.inl h)
    · exact this.2 (.inr (.inl h))
    · exact this.2 (.inr (.inr (.inr h)))
    · omega
    · omega)
  have HA := Kit.hid hA
  have HN := Kit.hid hN
  clear hR hA hN hA2 hN2 hB0 hB1 ha a0 a1 a2 a3 a4 a5 hT
  gi_wp2
  refine wpIn_rangeO (gf := 82) (lb := #[.pointer (some ⟨W.heap.size + 2 + 1, 0, none⟩), .pointer (some ⟨W.heap.size + 2, 0, none⟩)]) rfl (enters_of Try.func82 (by kernel_rfl) rfl)
    (encs := encI) (xs := tl.items) (Rd := belowRd p gl (W.heap.size + 2 + 1) (W.heap.size + 2)) HS1.out (fun _ => rfl)
    (Held R wB J) (fun c N s W' => c = .ret ∧ Jx N s W') (Held.abide HJ.out (by omega) HRlt.out) (fun c N s A A' h hag => ⟨h.1, HJx.out _ _ _ _ h.2 (hag.mono fun k hk => hk.imp (fun h => by omega) id)⟩)
    M (fun k hk => ?_) (fun k hk => ?_) ⟨HJ.out _ _ _ _ H0.out (Agree.of_below hbWB), HM0.out, fun k hk => by have := (HM.out k hk).1; omega, Nat.le_refl _, fun _ _ => rfl⟩ ?round ?done ?stop
  · have := HM.out k hk
    refine ⟨by omega, fun h => ?_⟩
    rcases h with h | h | h | h
    · exact this.2 (.inl h)
    · exact this.2 (.inr (.inl h))
    · omega
    · omega
  · rcases hk with h | h | h | h <;> omega
  case round =>
    intro m l' N pre y W3 hpre hI hN3 hl1 hl2 hnl
    have hE : encI y = #[.agg #[.int .i64 y.key, .int .i64 y.id]] := rfl
    simp only [hE]
    gi_wp2
    refine ⟨(Below.refl _ W3).alloc (Nat.le_refl _) _, fun w₂ hI2 hs2 ho2 => ?_⟩
    rw [World.size_alloc] at hs2
    have hX := (ho2 _ (by omega)).trans (World.alloc_heap_new W3 _)
    have cX0 : w₂.cell? ⟨W3.heap.size, 0, none⟩ = some (.int .i64 y.key) := blk_at hX 0
    have cX1 : w₂.cell? ⟨W3.heap.size, 1, none⟩ = some (.int .i64 y.id) := blk_at hX 1
    have cY : w₂.cell? ⟨W.heap.size, 0, none⟩ = some (.func (.yield l) #[] #[]) := blk_at ((hI2.same _ RA.out).trans HA.out) 0
    have lX : W3.heap.size < w₂.heap.size := by omega
    have lY : W.heap.size < w₂.heap.size := by omega
    obtain ⟨fn, tmps, assign, body, hy, hRR⟩ := HY.out N pre y w₂ hI2.j hI2.lt (hpre.trans (List.prefix_append _ _)) (m - 1)
    simp only [hE] at hy
    have HI2 := Kit.hid hI2
    have HO := Kit.hid (Nat.le_of_lt lX)
    replace hRR := round_inside l' hRR
    clear hX hI hI2 ho2 hN3 hpre
    gi_wp2
    refine ⟨fun h => (by cases h), hRR.mono ?_⟩
    rintro e W4 ⟨hlie, M4, hg4, (⟨rfl, hj4⟩ | ⟨rfl, hj4⟩)⟩
    · have HZ := Kit.hid (HI2.out.step (fun k h => (HRlt.out k h).1) hlie hg4 hj4)
      gi_wp2
      exact ⟨hlie.mono (fun k h => .inl h), M4, hg4.of_below HO.out, HZ.out⟩
    · have HZ := Kit.hid hj4
      gi_wp2
      exact ⟨hlie.mono (fun k h => .inl h), M4, hg4.of_below HO.out, rfl, HZ.out⟩
  case stop =>
    rintro D M3 c pre W3 hD hMD hpre ⟨rfl, hx⟩ hK
    gi_wp2
    refine leaves_mark hK ⟨_, results_none rfl _ _ _, ⟨_, rfl⟩, M3, .inr ⟨pre, hpre.trans (List.prefix_append _ _), HJx.out _ _ _ _ hx (Agree.putObj _ _ ?_)⟩⟩
    rintro (h | h)
    · omega
    · exact hMD h
  case done =>
    intro D M3 W3 hD hMD hI3 hK
    have cY : W3.cell? ⟨W.heap.size, 0, none⟩ = some (.func (.yield l) #[] #[]) := blk_at ((hI3.same _ RA.out).trans HA.out) 0
    have hNB := (hI3.same _ RN.out).trans HN.out
    have cN0 : W3.cell? ⟨W.heap.size + 1, 0, none⟩ = some (.int .i64 x.key) := blk_at hNB 0
    have cN1 : W3.cell? ⟨W.heap.size + 1, 1, none⟩ = some (.int .i64 x.id) := blk_at hNB 1
    have hsz3 := hI3.size
    have lY : W.heap.size < W3.heap.size := by omega
    have lN : W.heap.size + 1 < W3.heap.size := by omega
    obtain ⟨fn, tmps, assign, body, hy, hRR⟩ := HY.out M3 tl.items x W3 hI3.j hI3.lt ⟨tr.items, by simp [T.items]⟩ 2
    have hE : encI x = #[.agg #[.int .i64 x.key, .int .i64 x.id]] := rfl
    simp only [hE] at hy
    have HI3 := Kit.hid hI3
    have HK := Kit.hid hK
    clear hI3 hNB hK
    gi_wp2
    refine hRR.mono ?_
    rintro e W4 ⟨hlie, M4, hg4, (⟨rfl, hj4⟩ | ⟨rfl, hj4⟩)⟩
    · have hD3 := (Array.getElem?_eq_some_iff.1 HK.out).1
      have hK4 := (hlie.same D hD3 hMD).trans HK.out
      have hn4 : ¬ M4 D := fun h => (hg4 D h).2.elim hMD (by omega)
      have HI4 : Hid (Held R wB (fun N s W => J N (tl.items ++ [x] ++ s) W) M4 [] W4) := Kit.hid (HI3.out.step (fun k h => (HRlt.out k h).1) hlie hg4 (by rw [List.append_nil]; exact hj4))
      have hNB := (HI4.out.same _ RN.out).trans HN.out
      have cN3 : W4.cell? ⟨W.heap.size + 1, 3, none⟩ = some (.int .i64 (tr.root : Int)) := blk_at hNB 3
      have cS4 : W4.cell? ⟨sb, 0, none⟩ = some (.pointer (some ⟨p, 0, none⟩)) := (cell_same (HI4.out.same _ Rs.out) 0).trans ((cell_same (hbWB.block _ lb) 0).trans hb)
      have HL4 := Kit.hid (HLB.out.same (HI4.out.same _ Rp.out) (HI4.out.same _ Rg.out))
      have hsz4 := HI4.out.size
      have lN4 : W.heap.size + 1 < W4.heap.size := by omega
      have lS4 : sb < W4.heap.size := by omega
      have hD4 : D < W4.heap.size := (Array.getElem?_eq_some_iff.1 hK4).1
      have HK4 := Kit.hid hK4
      have Hn4 := Kit.hid hn4
      clear hK4 hn4 hlie hg4 hj4 hNB cY cN0 cN1 hb hRR HK hMD HI3
      gi_wp2
      refine ⟨trivial, (callsIn_wide.2 (below_mk p _ _)).mono ?_⟩
      rintro e wC ⟨rfl, hbC, hsC, hC0, hC1⟩
      dsimp only
      have HLC := Kit.hid (HL4.out.same (hbC.block _ (by omega)) (hbC.block _ (by omega)))
      have HS2 : Hid (∀ W', Below wC.heap.size wC W' → SeqAt Try.prog 82 #[.pointer (some ⟨W4.heap.size + 1, 0, none⟩), .pointer (some ⟨W4.heap.size, 0, none⟩)] encI tr.items (belowRd p gl (W4.heap.size + 1) W4.heap.size) W') :=
        Kit.hid fun W' hb => IHR.out _ _ W' (HLC.out.same (hb.block _ (by omega)) (hb.block _ (by omega))) ((cell_same (hb.block _ (by omega)) 0).trans (blk_at hC1 0)) ((cell_same (hb.block _ (by omega)) 0).trans (blk_at hC0 0))
      have HAC := Kit.hid ((hbC.block _ (by omega)).trans ((HI4.out.same _ RA.out).trans HA.out))
      have HKC := Kit.hid ((hbC.block _ (by omega)).trans HK4.out)
      obtain ⟨R2, hR2⟩ : ∃ R2 : Nat → Prop, R2 = fun k => R k ∨ k = D := ⟨_, rfl⟩
      have HR2 : Hid (∀ k, R2 k → k < wC.heap.size ∧ k < wC.heap.size) := Kit.hid (fun k h => by
        rw [hR2] at h
        rcases h with h | h
        · have := (HRlt.out k h).1; omega
        · omega)
      have R2A : Hid (R2 W.heap.size) := Kit.hid (by rw [hR2]; exact .inl RA.out)
      have R2D : Hid (R2 D) := Kit.hid (by rw [hR2]; exact .inr rfl)
      have HM2 : Hid (∀ k, M4 k → ¬ R2 k) := Kit.hid (fun k hk h => by
        rw [hR2] at h
        rcases h with h | rfl
        · exact HI4.out.off k hk h
        · exact Hn4.out hk)
      have HMR : Hid (∀ k, M4 k → k ≠ p ∧ k ≠ gl) := Kit.hid (fun k hk => ⟨fun e => HI4.out.off k hk (by rw [e]; exact Rp.out), fun e => HI4.out.off k hk (by rw [e]; exact Rg.out)⟩)
      have HJC := Kit.hid (HJ.out _ _ _ _ HI4.out.j (Agree.of_below hbC))
      have HX2 : Hid (Abide wC.heap.size (Held R2 wC (fun N s W => Jx N (tl.items ++ [x] ++ s) W))) := Kit.hid (Held.abide (B := W.heap.size) (fun N s A A' h hag => HJx.out _ _ _ _ h hag) (by omega) HR2.out)
      clear hR2 hC0 hC1
      gi_wp2
      refine wpIn_rangeO (gf := 82) (lb := #[.pointer (some ⟨W4.heap.size + 1, 0, none⟩), .pointer (some ⟨W4.heap.size, 0, none⟩)]) rfl (enters_of Try.func82 (by kernel_rfl) rfl)
        (encs := encI) (xs := tr.items) (Rd := belowRd p gl (W4.heap.size + 1) W4.heap.size) HS2.out (fun _ => rfl)
        (Held R2 wC (fun N s W => J N (tl.items ++ [x] ++ s) W)) (fun c N s W' => c = .ret ∧ Held R2 wC (fun N s W => Jx N (tl.items ++ [x] ++ s) W) N s W') (Held.abide (fun N s A A' h hag => HJ.out _ _ _ _ h hag) (by omega) HR2.out) (fun c N s A A' h hag => ⟨h.1, HX2.out _ _ _ _ h.2 hag⟩)
        M4 (fun k hk => ?_) (fun k hk => ?_) ⟨HJC.out, HM2.out, fun k hk => by have := HI4.out.lt k hk; omega, Nat.le_refl _, fun _ _ => rfl⟩ ?round2 ?done2 ?stop2
      · have := HI4.out.lt k hk
        refine ⟨by omega, fun h => ?_⟩
        rcases h with h | h | h | h
        · exact (HMR.out k hk).1 h
        · exact (HMR.out k hk).2 h
        · omega
        · omega
      · rcases hk with h | h | h | h <;> omega
      case round2 =>
        intro m l' N pre y W5 hpre hI hN5 hl1 hl2 hnl
        have hE : encI y = #[.agg #[.int .i64 y.key, .int .i64 y.id]] := rfl
        simp only [hE]
        gi_wp2
        refine ⟨(Below.refl _ W5).alloc (Nat.le_refl _) _, fun w₂ hI2 hs2 ho2 => ?_⟩
        rw [World.size_alloc] at hs2
        have hX := (ho2 _ (by omega)).trans (World.alloc_heap_new W5 _)
        have cX0 : w₂.cell? ⟨W5.heap.size, 0, none⟩ = some (.int .i64 y.key) := blk_at hX 0
        have cX1 : w₂.cell? ⟨W5.heap.size, 1, none⟩ = some (.int .i64 y.id) := blk_at hX 1
        have cY : w₂.cell? ⟨W.heap.size, 0, none⟩ = some (.func (.yield l) #[] #[]) := blk_at ((hI2.same _ R2A.out).trans HAC.out) 0
        have lX : W5.heap.size < w₂.heap.size := by omega
        have lY : W.heap.size < w₂.heap.size := by omega
        obtain ⟨fn, tmps, assign, body, hy, hRR⟩ := HY.out N (tl.items ++ [x] ++ pre) y w₂ hI2.j hI2.lt (by
          obtain ⟨q, hq⟩ := hpre
          exact ⟨q, by simp [T.items, ← hq]⟩) (m - 1)
        simp only [hE] at hy
        have HI2 := Kit.hid hI2
        have HO := Kit.hid (Nat.le_of_lt lX)
        replace hRR := round_inside l' hRR
        clear hX hI hI2 ho2 hN5 hpre
        gi_wp2
        refine ⟨fun h => (by cases h), hRR.mono ?_⟩
        rintro e W6 ⟨hlie, M6, hg6, (⟨rfl, hj6⟩ | ⟨rfl, hj6⟩)⟩
        · have HZ : Hid (Held R2 wC (fun N s W => J N (tl.items ++ [x] ++ s) W) M6 (pre ++ [y]) W6) := Kit.hid (HI2.out.step (fun k h => (HR2.out k h).1) hlie hg6 (by rw [← List.append_assoc]; exact hj6))
          gi_wp2
          exact ⟨hlie.mono (fun k h => .inl h), M6, hg6.of_below HO.out, HZ.out⟩
        · have HZ : Hid (Held R2 wC (fun N s W => Jx N (tl.items ++ [x] ++ s) W) M6 (pre ++ [y]) W6) := Kit.hid (HI2.out.step (fun k h => (HR2.out k h).1) hlie hg6 (by rw [← List.append_assoc]; exact hj6))
          gi_wp2
          exact ⟨hlie.mono (fun k h => .inl h), M6, hg6.of_below HO.out, rfl, HZ.out⟩
      case stop2 =>
        rintro D2 M5 c pre W5 hD2 hMD2 hpre ⟨rfl, hI5⟩ hK5
        have hn5 : ¬ M5 D := fun h => hI5.off D h R2D.out
        have hKD : (W5.putObj D2 (.deferred none)).heap[D]? = some (.deferred (some [])) := (World.putObj_heap_other (by omega)).trans ((hI5.same _ R2D.out).trans HKC.out)
        gi_wp2
        refine leaves_mark hK5 (leaves_mark hKD ⟨_, results_none rfl _ _ _, ⟨_, rfl⟩, M5, .inr ⟨tl.items ++ [x] ++ pre, ?_, ?_⟩⟩)
        · obtain ⟨q, hq⟩ := hpre
          exact ⟨q, by simp [T.items, ← hq]⟩
        refine HJx.out _ _ _ _ (HJx.out _ _ _ _ hI5.j (Agree.putObj _ _ ?_)) (Agree.putObj _ _ ?_)
        · rintro (h | h)
          · omega
          · exact hMD2 h
        · rintro (h | h)
          · omega
          · exact hn5 h
      case done2 =>
        intro D2 M5 W5 hD2 hMD2 hI5 hK5
        have hn5 : ¬ M5 D := fun h => hI5.off D h R2D.out
        have hKD : (W5.putObj D2 (.deferred none)).heap[D]? = some (.deferred (some [])) := (World.putObj_heap_other (by omega)).trans ((hI5.same _ R2D.out).trans HKC.out)
        gi_wp2
        refine leaves_mark hK5 (leaves_mark hKD ⟨_, results_none rfl _ _ _, ⟨_, rfl⟩, M5, .inl ?_⟩)
        have hfin : (T.node i x tl tr).items = tl.items ++ [x] ++ tr.items := by simp [T.items]
        rw [hfin]
        refine HJ.out _ _ _ _ (HJ.out _ _ _ _ hI5.j (Agree.putObj _ _ ?_)) (Agree.putObj _ _ ?_)
        · rintro (h | h)
          · omega
          · exact hMD2 h
        · rintro (h | h)
          · omega
          · exact hn5 h
    · have hK4 := (hlie.same D (Array.getElem?_eq_some_iff.1 HK.out).1 hMD).trans HK.out
      have HZ := Kit.hid hj4
      have HK4 := Kit.hid hK4
      have hn4 : ¬ M4 D := fun h => (hg4 D h).2.elim hMD (by have := (Array.getElem?_eq_some_iff.1 HK.out).1; omega)
      clear hK4 hlie hg4
      gi_wp2
      refine leaves_mark HK4.out ⟨_, results_none rfl _ _ _, ⟨_, rfl⟩, M4, .inr ⟨tl.items ++ [x], ⟨tr.items, by simp [T.items]⟩, HJx.out _ _ _ _ HZ.out (Agree.putObj _ _ ?_)⟩⟩
      rintro (h | h)
      · omega
      · exact hn4 h
/-- What lies below a node, in order. -/
theorem below_seq (p gl cl : Nat) (L : List Nd) (hz : ∃ n, L[0]? = some n) (hlen : L.length ≤ 1099511627776) : ∀ (t : T) (ab sb : Nat) (W : World), ShM.Holds L t → (∀ i ∈ t.idx, 0 < i) → Looks p gl cl L W → W.cell? ⟨ab, 0, none⟩ = some (.int .i64 (t.root : Int)) → W.cell? ⟨sb, 0, none⟩ = some (.pointer (some ⟨p, 0, none⟩)) →
      SeqAt Try.prog 82 #[.pointer (some ⟨ab, 0, none⟩), .pointer (some ⟨sb, 0, none⟩)] encI t.items (belowRd p gl ab sb) W
  | .nil, ab, sb, W, _, _, _, ha, _ => below_nil p gl cl L ab sb W ha
  | .node i x tl tr, ab, sb, W, h, hp, hL, ha, hb => by
    have h' := h
    unfold ShM.Holds at h'
    exact below_node p gl cl L i x tl tr ab sb W ha hb h'.1 (hp i (by simp [T.idx])) hlen hL
      (fun ab sb W hL ha hb => below_seq p gl cl L hz hlen tl ab sb W h'.2.1 (fun i hi => hp i (by simp [T.idx, hi])) hL ha hb)
      (fun ab sb W hL ha hb => below_seq p gl cl L hz hlen tr ab sb W h'.2.2 (fun i hi => hp i (by simp [T.idx, hi])) hL ha hb)
end Go.Proofs.Ytpgfenelckonoaa.Sh
