/- The law ShelfStops. -/
import Derived.Test.YtgcmblklalcpgaaShW
namespace Go.Proofs.Ytgcmblklalcpgaa.Kit
theorem results_cell1 {fn : Func} {p : Tmp} {tp : TypeId} (h : fn.results = #[.cell p tp]) (tmps : Array Value) (P : Program) (w : World) {a : Addr} {v : Value} (ha : tmps.getD p undef = .pointer (some a))
    (hv : (loadVar tp a).run P w = .ok v w) : (results fn tmps).run P w = .ok v w := by
  have ha' : tmps[p]?.getD undef = .pointer (some a) := by simpa using ha
  simp only [results, h]
  simp [ha', asAddr, hv]
end Go.Proofs.Ytgcmblklalcpgaa.Kit
namespace Go.Proofs.Ytgcmblklalcpgaa.Sh
open Go.RowKit Go.Shelf Go.Proofs.Ytgcmblklalcpgaa.Kit Go.Proofs.Ytgcmblklalcpgaa.ShM Go.Proofs.Ytgcmblklalcpgaa.Seq
set_option linter.unusedVariables false
set_option linter.unusedSimpArgs false
attribute [local go_sem] Oper.semAt_some
theorem load_bool {W : World} {k : Nat} {b : Bool} {t : TypeId} (h : W.heap[k]? = some (.cells #[.bool b] t (0, 0))) : (loadVar 4 ⟨k, 0, none⟩).run Try.prog W = .ok (.bool b) W := by
  have c2 : W.cell? ⟨k, 0, none⟩ = some (.bool b) := blk_at h 0
  have := blk_lt h
  go_simp
theorem ranked_get : ∀ (k : Nat) (l : List It) (pre : List (Nat × It)) (r : Nat) (y : It), pre ++ [(r, y)] <+: ranked k l → l[pre.length]? = some y
  | k, [], pre, r, y, h => by have := h.length_le; simp [ranked] at this
  | k, x :: l, [], r, y, h => by
    obtain ⟨q, hq⟩ := h
    simp only [ranked, List.nil_append, List.cons_append, List.cons.injEq, Prod.mk.injEq] at hq
    rw [hq.1.2]; simp
  | k, x :: l, z :: pre, r, y, h => by
    obtain ⟨q, hq⟩ := h
    simp only [ranked, List.cons_append, List.cons.injEq] at hq
    have := ranked_get (k + 1) l pre r y ⟨q, hq.2⟩
    simpa using this
theorem wrap64_small {x : Int} (h1 : -9223372036854775808 ≤ x) (h2 : x ≤ 9223372036854775807) : IntKind.i64.wrap x = x := by
  rw [IntKind.wrap_i64]
  omega
/-- What ShelfStops' loop keeps. -/
def StopsI (w2 : World) (nb : Nat) (tI : TypeId) (na : Nat) : (Nat → Prop) → List (Nat × It) → World → Prop := fun M pre W => M = (fun k => k = nb) ∧ W.heap[nb]? = some (.cells #[.int .i64 (pre.length : Int)] tI (0, 0)) ∧ Below w2.heap.size w2 W ∧ pre.length ≤ na
def StopsX (w2 : World) (nb : Nat) (tI : TypeId) (na : Nat) : (Nat → Prop) → List (Nat × It) → World → Prop := fun M pre W => M = (fun k => k = nb) ∧ W.heap[nb]? = some (.cells #[.int .i64 (pre.length : Int)] tI (0, 0)) ∧ Below w2.heap.size w2 W ∧ pre.length = na + 1
theorem below_agree {S : Nat → Prop} {w2 A A' : World} {B : Nat} (h : Below w2.heap.size w2 A) (hag : Agree (fun k => k < B ∨ S k) A A') (hB : w2.heap.size ≤ B) : Below w2.heap.size w2 A' :=
  ⟨hag.os.trans h.os, hag.tape.trans h.tape, hag.output.trans h.output, Nat.le_trans h.size hag.size, fun k hk => (hag.same k (by have := h.size; omega) (.inl (by omega))).trans (h.block k hk)⟩
theorem StopsI.abide {w2 : World} {nb : Nat} {tI : TypeId} {na B : Nat} (hB : w2.heap.size ≤ B) : Abide B (StopsI w2 nb tI na) := by
  rintro M s A A' ⟨rfl, h1, h2, h3⟩ hag
  exact ⟨rfl, (hag.same nb (Array.getElem?_eq_some_iff.1 h1).1 (.inr rfl)).trans h1, below_agree h2 hag hB, h3⟩
theorem StopsX.abide {w2 : World} {nb : Nat} {tI : TypeId} {na B : Nat} (hB : w2.heap.size ≤ B) : Abide B (StopsX w2 nb tI na) := by
  rintro M s A A' ⟨rfl, h1, h2, h3⟩ hag
  exact ⟨rfl, (hag.same nb (Array.getElem?_eq_some_iff.1 h1).1 (.inr rfl)).trans h1, below_agree h2 hag hB, h3⟩
theorem stops_step {w2 w₂ w3 : World} {nb : Nat} {tI : TypeId} {n : Int} {v : Value} {o : Obj} (hn : w₂.heap[nb]? = some (.cells #[v] tI (0, 0))) (hd : Below w₂.heap.size w₂ w3) (hb : Below w2.heap.size w2 w₂) (hnb : w2.heap.size ≤ nb) :
    Lie (fun k => k = nb) w₂ ((w3.setCell ⟨nb, 0, none⟩ (.int .i64 n)).alloc o) ∧ Grows (fun k => k = nb) (fun k => k = nb) w₂ ((w3.setCell ⟨nb, 0, none⟩ (.int .i64 n)).alloc o) ∧
      ((w3.setCell ⟨nb, 0, none⟩ (.int .i64 n)).alloc o).heap[nb]? = some (.cells #[.int .i64 n] tI (0, 0)) ∧ Below w2.heap.size w2 ((w3.setCell ⟨nb, 0, none⟩ (.int .i64 n)).alloc o) := by
  have ln := blk_lt hn
  have hs := hd.size
  have hz' : (w3.setCell ⟨nb, 0, none⟩ (.int .i64 n)).heap.size = w3.heap.size := by simp [World.setCell]
  have hz : ((w3.setCell ⟨nb, 0, none⟩ (.int .i64 n)).alloc o).heap.size = w3.heap.size + 1 := by rw [World.size_alloc, hz']
  have h3 : w3.heap[nb]? = some (.cells #[v] tI (0, 0)) := (hd.block _ ln).trans hn
  refine ⟨⟨by omega, fun k hk hne => (Below.heap_alloc _ _ _ (by omega)).trans ((Below.heap_setCell _ _ _ _ hne).trans (hd.block _ hk))⟩, fun k hk => ⟨by show k < _; rw [hz]; omega, .inl hk⟩, (Below.heap_alloc _ _ _ (by omega)).trans (blk_put h3 0 _ rfl), ?_⟩
  exact ((hb.trans (hd.mono hb.size)).setCell (p := ⟨nb, 0, none⟩) hnb _).alloc (by have := hb.size; omega) o
set_option maxHeartbeats 4000000 in
theorem stopsLaw_any (A : Option Addr) (ops : List OpM) (cap : Nat) (a : Int) (w : World) (hr : Hid (OpRow w A ops)) (hl : ops.length ≤ 9223372036854775807) (ha0 : 0 ≤ a) (ha1 : a ≤ 255) :
    Calls Try.prog 9 #[.slice A ops.length cap, .int .u8 a] w fun e w' => e = .returned (.bool true) ∧ Below w.heap.size w w' := by
  have HWK : Hid (∀ w', Hid (OpRow w' A ops) → ops.length ≤ 1000000 → Calls Try.prog 11 #[.slice A ops.length cap] w' (WalkedPost w' (fun _ => False) w' (walkedL ops) (ops.length + 1))) := Kit.hid (fun w' h => walked_any A ops cap w' h)
  obtain ⟨l, hl'⟩ : ∃ l, l = walkedL ops := ⟨_, rfl⟩
  rw [← hl'] at HWK
  clear hl'
  unfold WalkedPost at HWK
  obtain ⟨na, rfl⟩ := Int.eq_ofNat_of_zero_le ha0
  have HR := hr
  have HAW := Kit.hid awake_any
  clear hr
  refine (callsIn_wide (n := 3)).1 ?_
  refine callsIn_of_wp_marks Try.func9 rfl trivial ?_ rfl
  simp only [Try.ntmps9, List.size_toArray, List.length_cons, List.length_nil, Nat.reduceAdd, Nat.reduceSub, Array.replicate_succ, Array.replicate_zero, List.push_toArray, List.append_toArray, List.nil_append, List.cons_append]
  gi_wp2
  generalize hW0 : World.alloc (World.alloc w _) _ = W0
  have sz0 : W0.heap.size = w.heap.size + 2 := by rw [← hW0]; simp
  have hb0 : Below w.heap.size w W0 := by rw [← hW0]; exact ((Below.refl _ w).alloc (Nat.le_refl _) _).alloc (by simp) _
  have h30 : W0.heap[w.heap.size]? = some (.cells #[.int .u8 (na : Int)] 5 (0, 0)) := by rw [← hW0]; exact (Below.heap_alloc _ _ _ (by simp)).trans (World.alloc_heap_new w _)
  have h40 : W0.heap[w.heap.size + 1]? = some (.cells #[.bool false] 4 (0, 0)) := by
    rw [← hW0]
    have := World.alloc_heap_new (w.alloc (.cells #[.int .u8 (na : Int)] 5)) (.cells #[.bool false] 4)
    rwa [World.size_alloc] at this
  clear hW0
  refine ⟨trivial, (callsIn_wide.2 (HAW.out W0)).mono ?_⟩
  rintro e w1 ⟨rfl, hd1⟩
  dsimp only
  have h31 := (hd1.block _ (by omega)).trans h30
  have h41 := (hd1.block _ (by omega)).trans h40
  have hb1 : Below w.heap.size w w1 := hb0.trans (hd1.mono hb0.size)
  have hr1 := oprow_below HR hb1
  have c4 : w1.cell? ⟨w.heap.size + 1, 0, none⟩ = some (.bool false) := blk_at h41 0
  have f4 : w1.frozen? ⟨w.heap.size + 1, 0, none⟩ = false := blk_frozen h41 0
  have l4 := blk_lt h41
  have HB1 := Kit.hid hb1
  have H31 := Kit.hid h31
  have H41 := Kit.hid h41
  clear h30 h40 hd1 h31 h41 hb1 HR
  by_cases hbig : 100 < ops.length
  · have g1 : decide ((100 : Int) < (ops.length : Int)) = true := decide_eq_true (by omega)
    have q4 := blk_put H41.out 0 (.bool true) (cs' := #[.bool true]) rfl
    have HQ := Kit.hid (load_bool q4)
    clear hbig q4
    gi_wp2
    exact ⟨_, results_cell1 rfl _ _ _ rfl HQ.out, rfl, HB1.out.setCell (p := ⟨w.heap.size + 1, 0, none⟩) (by simp) _⟩
  have g1 : decide ((100 : Int) < (ops.length : Int)) = false := decide_eq_false (by omega)
  have hops : ops.length ≤ 100 := by omega
  clear hbig
  gi_wp2
  refine ⟨trivial, (callsIn_wide.2 (HWK.out w1 hr1 (by omega))).mono ?_⟩
  rintro e w2 ⟨g, rfl, hg, hi⟩
  dsimp only
  have hk2 : Below w1.heap.size w1 w2 := hi.kept.toBelow (fun k h => h.elim)
  obtain ⟨gl, lp, lg, hll, hS⟩ := items_look hi (by omega)
  have HS := Kit.hid hS
  have HI := Kit.hid hi
  have hsz2 := hk2.size
  have H32 := Kit.hid ((hk2.block _ (blk_lt H31.out)).trans H31.out)
  have H42 := Kit.hid ((hk2.block _ (blk_lt H41.out)).trans H41.out)
  have HB2 := Kit.hid (HB1.out.trans (hk2.mono HB1.out.size))
  have l3 := blk_lt H31.out
  clear hS hi hk2 HWK HAW c4 f4 hr1 H31 H41 HB1
  gi_wp2
  generalize hW4 : World.alloc (World.alloc w2 _) _ = W4
  have sz4 : W4.heap.size = w2.heap.size + 1 + 1 := by rw [← hW4]; simp
  have hb4 : Below w2.heap.size w2 W4 := by rw [← hW4]; exact ((Below.refl _ w2).alloc (Nat.le_refl _) _).alloc (by simp) _
  have h64 : W4.heap[w2.heap.size]? = some (.cells #[.pointer (some ⟨g, 0, none⟩)] 26 (0, 0)) := by rw [← hW4]; exact (Below.heap_alloc _ _ _ (by simp)).trans (World.alloc_heap_new w2 _)
  have h74 : W4.heap[w2.heap.size + 1]? = some (.cells #[.int .i64 0] 3 (0, 0)) := by
    rw [← hW4]
    have := World.alloc_heap_new (w2.alloc (.cells #[.pointer (some ⟨g, 0, none⟩)] 26)) (.cells #[.int .i64 0] 3)
    rwa [World.size_alloc] at this
  clear hW4
  refine ⟨trivial, (callsIn_wide.2 (all_mk g W4)).mono ?_⟩
  rintro e wB ⟨rfl, hbB, hsB, hB0⟩
  dsimp only
  rw [sz4] at hsB hB0 hbB ⊢
  have hbWB : Below w2.heap.size w2 wB := hb4.trans (hbB.mono (by omega))
  have HS1 : Hid (∀ W', Below wB.heap.size wB W' → SeqAt Try.prog 33 #[.pointer (some ⟨w2.heap.size + 1 + 1, 0, none⟩)] encR (ranked 0 l) (allRd g gl (w2.heap.size + 1 + 1)) W') :=
    Kit.hid fun W' hb => HS.out _ W' (hbWB.trans (hb.mono hbWB.size)) ((cell_same (hb.block _ (by omega)) 0).trans (blk_at hB0 0))
  have H6 := Kit.hid ((hbB.block _ (by omega)).trans h64)
  have H7 := Kit.hid ((hbB.block _ (by omega)).trans h74)
  obtain ⟨R, hR⟩ : ∃ R : Nat → Prop, R = fun k => k = w2.heap.size := ⟨_, rfl⟩
  have HRlt : Hid (∀ k, R k → k < wB.heap.size ∧ k < wB.heap.size) := Kit.hid (fun k h => by rw [hR] at h; omega)
  have R6 : Hid (R w2.heap.size) := Kit.hid (by rw [hR])
  have HM0 : Hid (∀ k, k = w2.heap.size + 1 → ¬ R k) := Kit.hid (fun k hk h => by rw [hR] at h; omega)
  have H2 : Hid (StopsI w2 (w2.heap.size + 1) 3 na (fun k => k = w2.heap.size + 1) [] wB) := Kit.hid ⟨rfl, H7.out, hbWB, Nat.zero_le _⟩
  clear hR hB0 h64 h74
  gi_wp2
  refine wpIn_rangeO (gf := 33) (lb := #[.pointer (some ⟨w2.heap.size + 1 + 1, 0, none⟩)]) rfl (enters_of Try.func33 (by kernel_rfl) rfl)
    (encs := encR) (xs := ranked 0 l) (Rd := allRd g gl (w2.heap.size + 1 + 1)) HS1.out (fun _ => rfl)
    (Held R wB (StopsI w2 (w2.heap.size + 1) 3 na)) (fun c N s W => c = .exit 0 ∧ Held R wB (StopsX w2 (w2.heap.size + 1) 3 na) N s W) (Held.abide (StopsI.abide hbWB.size) (Nat.le_refl _) HRlt.out)
    (fun c N s A A' h hag => ⟨h.1, Held.abide (StopsX.abide hbWB.size) (Nat.le_refl _) HRlt.out _ _ _ _ h.2 hag⟩)
    (fun k => k = w2.heap.size + 1) (fun k hk => ⟨by omega, fun h => ?_⟩) (fun k hk => ?_) ⟨H2.out, HM0.out, fun k hk => by omega, Nat.le_refl _, fun _ _ => rfl⟩ ?round ?done ?stop
  · rcases h with h | h | h <;> omega
  · rcases hk with h | h | h <;> omega
  case stop =>
    rintro D M3 c pre W3 hD hMD hpre ⟨rfl, hI3⟩ hK
    obtain ⟨rfl, hn7, hbw, hle⟩ := hI3.j
    have hpl : pre.length ≤ l.length := by have := hpre.length_le; rw [ranked_length] at this; exact this
    have HE : Hid ((pre.length : Int) = min (l.length : Int) ((na : Int) + 1)) := Kit.hid (by omega)
    have HF := Kit.hid (hI3.same _ R6.out)
    clear hI3 hpre hle
    have c7 : W3.cell? ⟨w2.heap.size + 1, 0, none⟩ = some (.int .i64 (pre.length : Int)) := blk_at hn7 0
    have c6 : W3.cell? ⟨w2.heap.size, 0, none⟩ = some (.pointer (some ⟨g, 0, none⟩)) := blk_at (HF.out.trans H6.out) 0
    have h33 := (hbw.block _ (blk_lt H32.out)).trans H32.out
    have h43 := (hbw.block _ (blk_lt H42.out)).trans H42.out
    have c3 : W3.cell? ⟨w.heap.size, 0, none⟩ = some (.int .u8 (na : Int)) := blk_at h33 0
    have c4 : W3.cell? ⟨w.heap.size + 1, 0, none⟩ = some (.bool false) := blk_at h43 0
    have f4 : W3.frozen? ⟨w.heap.size + 1, 0, none⟩ = false := blk_frozen h43 0
    have k7 := blk_lt hn7
    have k6 : w2.heap.size < W3.heap.size := by omega
    have k3 := blk_lt h33
    have k4 := blk_lt h43
    have HLEN : Hid (∀ m, Calls Try.prog 13 #[.pointer (some ⟨g, 0, none⟩)] (W3.drewN m) fun e w' => e = .returned (.int .i64 (l.length : Int)) ∧ ∃ m, w' = (W3.drewN m)) := Kit.hid (fun m => (items_len (HI.out.below (below_drewN hbw m))).mono (fun e w' h => h.imp id fun ⟨k, hk⟩ => ⟨m + k, by rw [hk, World.drewN_drewN]⟩))
    have q4 := blk_put h43 0 (.bool true) (cs' := #[.bool true]) rfl
    have HQ4 := Kit.hid q4
    have HBW := Kit.hid (HB2.out.trans (hbw.mono HB2.out.size))
    have HK := Kit.hid hK
    have HL4 : Hid (∀ m, (loadVar 4 ⟨w.heap.size + 1, 0, none⟩).run Try.prog (((W3.drewN m).setCell ⟨w.heap.size + 1, 0, none⟩ (.bool true)).putObj D (.deferred none)) = .ok (.bool true) (((W3.drewN m).setCell ⟨w.heap.size + 1, 0, none⟩ (.bool true)).putObj D (.deferred none))) := Kit.hid (fun m => load_bool ((World.putObj_heap_other (by omega)).trans HQ4.out))
    have HBF : Hid (∀ m, Below w.heap.size w (((W3.drewN m).setCell ⟨w.heap.size + 1, 0, none⟩ (.bool true)).putObj D (.deferred none))) := Kit.hid (fun m => ((below_drewN HBW.out m).setCell (p := ⟨w.heap.size + 1, 0, none⟩) (by simp) _).trans ⟨rfl, rfl, rfl, by simp, fun k hk => World.putObj_heap_other (by omega)⟩)
    clear hn7 hbw h33 h43 q4 hK HF
    gi_wp2
    have hw1 : IntKind.i64.wrap (na : Int) = (na : Int) := wrap64_small (by omega) (by omega)
    have hw2 : IntKind.i64.wrap ((na : Int) + 1) = (na : Int) + 1 := wrap64_small (by omega) (by omega)
    refine noPanicIn ?_
    by_cases hm : (na : Int) + 1 < (l.length : Int)
    · have g5 : ((pre.length : Int) == (na : Int) + 1) = true := beq_iff_eq.2 (by have := HE.out; omega)
      gi_region_with (refine ⟨trivial, (callsIn_wide.2 (HLEN.out 1)).mono ?_⟩; rintro e w' ⟨rfl, m, rfl⟩)
      all_goals
        dsimp only
        gi_wp2
        exact leaves_mark (blk_far HK.out (p := ⟨w.heap.size + 1, 0, none⟩) (by simp; omega) _) ⟨_, results_cell1 rfl _ _ _ rfl (HL4.out _), rfl, HBF.out _⟩
    · have g5 : ((pre.length : Int) == (l.length : Int)) = true := beq_iff_eq.2 (by have := HE.out; omega)
      gi_region_with (refine ⟨trivial, (callsIn_wide.2 (HLEN.out 1)).mono ?_⟩; rintro e w' ⟨rfl, m, rfl⟩)
      all_goals
        dsimp only
        gi_wp2
        exact leaves_mark (blk_far HK.out (p := ⟨w.heap.size + 1, 0, none⟩) (by simp; omega) _) ⟨_, results_cell1 rfl _ _ _ rfl (HL4.out _), rfl, HBF.out _⟩
  case round =>
    rintro m l' N pre ⟨ry, y⟩ W3 hpre hI hN3 hl1 hl2 hnl
    obtain rfl : ry = pre.length := by have := ranked_at 0 l pre (ry, y) hpre; simpa using this
    have hE : encR (pre.length, y) = #[.int .i64 (pre.length : Int), .agg #[.int .i64 y.key, .int .i64 y.id]] := rfl
    simp only [hE]
    gi_wp2
    refine ⟨(Below.refl _ W3).alloc (Nat.le_refl _) _, fun w₂ hI2 hs2 ho2 => ?_⟩
    rw [World.size_alloc] at hs2
    have hX := (ho2 _ (by omega)).trans (World.alloc_heap_new W3 _)
    have cX0 : w₂.cell? ⟨W3.heap.size, 0, none⟩ = some (.int .i64 y.key) := blk_at hX 0
    have cX1 : w₂.cell? ⟨W3.heap.size, 1, none⟩ = some (.int .i64 y.id) := blk_at hX 1
    have lX : W3.heap.size < w₂.heap.size := by omega
    obtain ⟨rfl, hn7, hbw, hle⟩ := hI2.j
    have c6 : w₂.cell? ⟨w2.heap.size, 0, none⟩ = some (.pointer (some ⟨g, 0, none⟩)) := blk_at ((hI2.same _ R6.out).trans H6.out) 0
    have l7 := blk_lt hn7
    have l6 : w2.heap.size < w₂.heap.size := by omega
    have hyl := ranked_get 0 l pre pre.length y hpre
    have hplen : pre.length < l.length := (List.getElem?_eq_some_iff.1 hyl).1
    have HAT : Hid (Calls Try.prog 14 #[.pointer (some ⟨g, 0, none⟩), .int .i64 (pre.length : Int)] w₂ (AtPost w₂ y true)) := Kit.hid (items_at pre.length y (HI.out.below hbw) (by omega) hyl)
    unfold AtPost at HAT
    have HI2 := Kit.hid hI2
    have HX := Kit.hid hX
    have HN7 := Kit.hid hn7
    have HBW := Kit.hid hbw
    have HO := Kit.hid hs2
    clear hX hI hI2 ho2 hN3 hpre hbw hn7 hyl hs2
    gi_wp2
    refine ⟨trivial, fun h => (by cases h), (CallsIn.inRound l' (callsIn_wide.2 HAT.out)).mono ?_⟩
    rintro e w3 ⟨rfl, hd3⟩
    dsimp only
    have hs3 := hd3.size
    have hX3 := (hd3.block _ lX).trans HX.out
    have c30 : w3.cell? ⟨W3.heap.size, 0, none⟩ = some (.int .i64 y.key) := blk_at hX3 0
    have c31 : w3.cell? ⟨W3.heap.size, 1, none⟩ = some (.int .i64 y.id) := blk_at hX3 1
    have l3X : W3.heap.size < w3.heap.size := by omega
    have h73 := (hd3.block _ l7).trans HN7.out
    have c7 : w3.cell? ⟨w2.heap.size + 1, 0, none⟩ = some (.int .i64 (pre.length : Int)) := blk_at h73 0
    have f7 : w3.frozen? ⟨w2.heap.size + 1, 0, none⟩ = false := blk_frozen h73 0
    have l73 := blk_lt h73
    have hbw3 := HBW.out.trans (hd3.mono HBW.out.size)
    have c3 : w3.cell? ⟨w.heap.size, 0, none⟩ = some (.int .u8 (na : Int)) := blk_at ((hbw3.block _ (blk_lt H32.out)).trans H32.out) 0
    have l33 : w.heap.size < w3.heap.size := by have := hbw3.size; have := blk_lt H32.out; omega
    have g2 : ∀ w', (binOp .neq 24 (.agg #[.int .i64 y.key, .int .i64 y.id]) (.agg #[.int .i64 y.key, .int .i64 y.id])).run Try.prog w' = .ok (.bool false) w' := fun w' => by rw [neq_item, decide_eq_true rfl]; rfl
    obtain ⟨z1, z2, z3, z4⟩ := stops_step (n := (pre.length : Int) + 1) (o := .cells #[.int .i64 y.key, .int .i64 y.id] 24) HN7.out hd3 HBW.out (by omega)
    have HZ1 := Kit.hid z1
    have HZ2 := Kit.hid z2
    have HZ3 := Kit.hid z3
    have HZ4 := Kit.hid z4
    have hO : W3.heap.size ≤ w₂.heap.size := by omega
    clear cX0 cX1 c6 hX3 h73 hbw3 hd3 HAT z1 z2 z3 z4
    by_cases hlast : pre.length = na
    · have g3 : decide ((na : Int) < (pre.length : Int) + 1) = true := decide_eq_true (by omega)
      have HZ5 : Hid (Held R wB (StopsX w2 (w2.heap.size + 1) 3 na) (fun k => k = w2.heap.size + 1) (pre ++ [(pre.length, y)]) ((w3.setCell ⟨w2.heap.size + 1, 0, none⟩ (.int .i64 ((pre.length : Int) + 1))).alloc (.cells #[.int .i64 y.key, .int .i64 y.id] 24))) :=
        Kit.hid (HI2.out.step (fun k h => (HRlt.out k h).1) HZ1.out HZ2.out ⟨rfl, by rw [List.length_append]; exact HZ3.out, HZ4.out, by simp [hlast]⟩)
      have HL := Kit.hid hlast
      clear hlast
      gi_wp2
      exact ⟨HZ1.out.mono (fun k h => .inl h), _, HZ2.out.of_below hO, rfl, HZ5.out⟩
    · have g3 : decide ((na : Int) < (pre.length : Int) + 1) = false := decide_eq_false (by omega)
      have HZ5 : Hid (Held R wB (StopsI w2 (w2.heap.size + 1) 3 na) (fun k => k = w2.heap.size + 1) (pre ++ [(pre.length, y)]) ((w3.setCell ⟨w2.heap.size + 1, 0, none⟩ (.int .i64 ((pre.length : Int) + 1))).alloc (.cells #[.int .i64 y.key, .int .i64 y.id] 24))) :=
        Kit.hid (HI2.out.step (fun k h => (HRlt.out k h).1) HZ1.out HZ2.out ⟨rfl, by rw [List.length_append]; exact HZ3.out, HZ4.out, by simp; omega⟩)
      clear hlast
      gi_wp2
      exact ⟨HZ1.out.mono (fun k h => .inl h), _, HZ2.out.of_below hO, HZ5.out⟩
  case done =>
    intro D M3 W3 hD hMD hI3 hK
    obtain ⟨rfl, hn7, hbw, hle⟩ := hI3.j
    rw [ranked_length] at hn7 hle
    have HE : Hid ((l.length : Int) = min (l.length : Int) ((na : Int) + 1)) := Kit.hid (by omega)
    have HF := Kit.hid (hI3.same _ R6.out)
    clear hI3 hle
    have c7 : W3.cell? ⟨w2.heap.size + 1, 0, none⟩ = some (.int .i64 (l.length : Int)) := blk_at hn7 0
    have c6 : W3.cell? ⟨w2.heap.size, 0, none⟩ = some (.pointer (some ⟨g, 0, none⟩)) := blk_at (HF.out.trans H6.out) 0
    have h33 := (hbw.block _ (blk_lt H32.out)).trans H32.out
    have h43 := (hbw.block _ (blk_lt H42.out)).trans H42.out
    have c3 : W3.cell? ⟨w.heap.size, 0, none⟩ = some (.int .u8 (na : Int)) := blk_at h33 0
    have c4 : W3.cell? ⟨w.heap.size + 1, 0, none⟩ = some (.bool false) := blk_at h43 0
    have f4 : W3.frozen? ⟨w.heap.size + 1, 0, none⟩ = false := blk_frozen h43 0
    have k7 := blk_lt hn7
    have k6 : w2.heap.size < W3.heap.size := by omega
    have k3 := blk_lt h33
    have k4 := blk_lt h43
    have HLEN : Hid (∀ m, Calls Try.prog 13 #[.pointer (some ⟨g, 0, none⟩)] (W3.drewN m) fun e w' => e = .returned (.int .i64 (l.length : Int)) ∧ ∃ m, w' = (W3.drewN m)) := Kit.hid (fun m => (items_len (HI.out.below (below_drewN hbw m))).mono (fun e w' h => h.imp id fun ⟨k, hk⟩ => ⟨m + k, by rw [hk, World.drewN_drewN]⟩))
    have q4 := blk_put h43 0 (.bool true) (cs' := #[.bool true]) rfl
    have HQ4 := Kit.hid q4
    have HBW := Kit.hid (HB2.out.trans (hbw.mono HB2.out.size))
    have HK := Kit.hid hK
    have HL4 : Hid (∀ m, (loadVar 4 ⟨w.heap.size + 1, 0, none⟩).run Try.prog (((W3.drewN m).setCell ⟨w.heap.size + 1, 0, none⟩ (.bool true)).putObj D (.deferred none)) = .ok (.bool true) (((W3.drewN m).setCell ⟨w.heap.size + 1, 0, none⟩ (.bool true)).putObj D (.deferred none))) := Kit.hid (fun m => load_bool ((World.putObj_heap_other (by omega)).trans HQ4.out))
    have HBF : Hid (∀ m, Below w.heap.size w (((W3.drewN m).setCell ⟨w.heap.size + 1, 0, none⟩ (.bool true)).putObj D (.deferred none))) := Kit.hid (fun m => ((below_drewN HBW.out m).setCell (p := ⟨w.heap.size + 1, 0, none⟩) (by simp) _).trans ⟨rfl, rfl, rfl, by simp, fun k hk => World.putObj_heap_other (by omega)⟩)
    clear hn7 hbw h33 h43 q4 hK HF
    gi_wp2
    have hw1 : IntKind.i64.wrap (na : Int) = (na : Int) := wrap64_small (by omega) (by omega)
    have hw2 : IntKind.i64.wrap ((na : Int) + 1) = (na : Int) + 1 := wrap64_small (by omega) (by omega)
    refine noPanicIn ?_
    by_cases hm : (na : Int) + 1 < (l.length : Int)
    · exact absurd HE.out (by omega)
    · skip
      gi_region_with (refine ⟨trivial, (callsIn_wide.2 (HLEN.out 1)).mono ?_⟩; rintro e w' ⟨rfl, m, rfl⟩)
      all_goals
        dsimp only
        gi_wp2
        exact leaves_mark (blk_far HK.out (p := ⟨w.heap.size + 1, 0, none⟩) (by simp; omega) _) ⟨_, results_cell1 rfl _ _ _ rfl (HL4.out _), rfl, HBF.out _⟩
end Go.Proofs.Ytgcmblklalcpgaa.Sh
