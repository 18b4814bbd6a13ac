/- The walks of the queue's Weigh and New. -/
import Derived.Test.YtpgfenelckonoaaQuF
namespace Go.Proofs.Ytpgfenelckonoaa.Qu
open Go.RowKit Go.Proofs.Ytpgfenelckonoaa.Kit Go.Proofs.Ytpgfenelckonoaa.ShM Go.Proofs.Ytpgfenelckonoaa.Sh Go.Proofs.Ytpgfenelckonoaa.QuM
set_option linter.unusedVariables false
set_option linter.unusedSimpArgs false
section
variable {F : Nat → Prop} {w w' : World} {p n : Nat} {L : List Mem} {base : Int}
set_option maxRecDepth 8000 in
set_option maxHeartbeats 1600000 in
theorem qweigh_any (id u : Int) (h : QF F w p L base n) (hq : QB L base) (hn : n ≤ 4000) (hi1 : -9223372036854775808 ≤ id) (hi2 : id ≤ 9223372036854775807) :
    Calls Try.prog 63 #[.pointer (some ⟨p, 0, none⟩), .int .i64 id, .int .i64 u] w fun e w' => e = .returned (.int .i64 (weighR L id u).1) ∧ Qu w F w' p (weighR L id u).2 base (n + 1) := by
  have HQ := Kit.hid h
  obtain ⟨mb, g, S, hF, hp, hm, hi, hSp, hSm, hpm, hw⟩ := h
  have hml := hm.lt
  have hpl := blk_lt hp
  have HKEY : Hid (keyOf Try.prog 3 (.int .i64 id) = some (.int .i64 id)) := Kit.hid (int_key Try.underlying3 hi1 hi2)
  have HM := Kit.hid hm
  have hp0 := blk_cell hp 0
  have HE : Hid (∀ o, Below w.heap.size w (w.alloc o)) := Kit.hid (fun o => (Below.refl _ _).alloc (Nat.le_refl _) _)
  have HFT := Kit.hid (fun (w' : World) => fits_any u w')
  clear hF hp hm hi hSp hSm hpm hw hml hi1 hi2
  go_enter Try.func63, Try.ntmps63
  cases hget : get L id with
  | none =>
    have HLK : Hid ((if true = true then Value.tuple #[(fmap L id).getD (.agg #[.int .i64 0, .int .i64 0, .int .i64 0]), .bool (fmap L id).isSome] else (fmap L id).getD (.agg #[.int .i64 0, .int .i64 0, .int .i64 0])) = .tuple #[.agg #[.int .i64 0, .int .i64 0, .int .i64 0], .bool false]) := Kit.hid (by simp [fmap, hget])
    have HR : Hid (weighR L id u = (8, L)) := Kit.hid (by unfold weighR; rw [hget])
    clear hget
    go_wp2_with (at_lookup; refine wpList_lookV rfl _ _ 101 true rfl 3 99 keyed Try.underlying101 _ (zero_mem _) mb n (fmap L) rfl HM.out id rfl HKEY.out _ HLK.out ?_)
    go_ret
    rw [HR.out]
    exact ⟨rfl, (HQ.out.self_below (HE.out _)).more (Nat.le_succ _)⟩
  | some y =>
    have HLK : Hid ((if true = true then Value.tuple #[(fmap L id).getD (.agg #[.int .i64 0, .int .i64 0, .int .i64 0]), .bool (fmap L id).isSome] else (fmap L id).getD (.agg #[.int .i64 0, .int .i64 0, .int .i64 0])) = .tuple #[.agg #[.int .i64 y.wt, .int .i64 y.v, .int .i64 y.rem], .bool true]) := Kit.hid (by simp [fmap, hget, mv])
    obtain ⟨hyL, hyid⟩ := get_mem hget
    subst hyid
    obtain ⟨b1, b2, b3, b4, b5, b6, b7, b8⟩ := hq.each y hyL
    have HGT : Hid (get L y.id = some y) := Kit.hid hget
    have HK1 : Hid ((w.alloc (.cells #[.int .i64 y.wt, .int .i64 y.v, .int .i64 y.rem] 99)).heap[w.heap.size]? = some (.cells #[.int .i64 y.wt, .int .i64 y.v, .int .i64 y.rem] 99 (0, 0))) := Kit.hid (blk_new _ _)
    have HY : Hid (1 ≤ y.id ∧ y.id ≤ 1048576 ∧ 1 ≤ y.wt ∧ y.wt ≤ 1048576 ∧ 0 ≤ y.rem ∧ y.rem < y.wt) := Kit.hid ⟨b1, b2, b3, b4, b5, b6⟩
    clear hget hyL hq b1 b2 b3 b4 b5 b6 b7 b8
    go_wp2_with (at_lookup; refine wpList_lookV rfl _ _ 101 true rfl 3 99 keyed Try.underlying101 _ (zero_mem _) mb n (fmap L) rfl HM.out y.id rfl HKEY.out _ HLK.out ?_)
    (with_reducible refine (HFT.out _).mono ?_); rintro e w2 ⟨rfl, hd2⟩
    have hk2 := blk_below HK1.out hd2
    have y0 := blk_cell hk2 0
    have y1 := blk_cell hk2 1
    have y2 := blk_cell hk2 2
    have ly := blk_lt hk2
    have HK2 := Kit.hid hk2
    have HBW := Kit.hid ((HE.out _).trans (hd2.mono (HE.out _).size))
    clear hk2 hd2
    by_cases a1 : 1 ≤ u ∧ u ≤ 1048576
    rotate_left
    · have HR : Hid (weighR L y.id u = (1, L)) := Kit.hid (by unfold weighR; rw [HGT.out]; exact if_pos a1)
      rw [decide_eq_false a1]
      go_wp2
      go_ret
      rw [HR.out]
      exact ⟨rfl, (HQ.out.self_below HBW.out).more (Nat.le_succ _)⟩
    have HR : Hid (weighR L y.id u = (0, putM (weighM y u) L)) := Kit.hid (by unfold weighR; rw [HGT.out]; exact if_neg (fun h => h a1))
    rw [decide_eq_true a1]
    have HRW := Kit.hid (fun (w' : World) => reweigh_any y.v y.rem y.wt u w' HY.out.2.2.1 HY.out.2.2.2.1 a1.1 a1.2 HY.out.2.2.2.2.1 HY.out.2.2.2.2.2)
    obtain ⟨nr, hnr⟩ : ∃ nr, nr = y.rem * u / y.wt := ⟨_, rfl⟩
    rw [← hnr] at HRW
    have HWM : Hid (weighM y u = { y with wt := u, rem := nr }) := Kit.hid (by rw [hnr]; rfl)
    have HPT : Hid (∀ w', QF F w' p L base n → Calls Try.prog 59 #[.pointer (some ⟨p, 0, none⟩), .int .i64 y.id, .agg #[.int .i64 u, .int .i64 y.v, .int .i64 nr]] w' fun e w'' => e = .returned (.tuple #[]) ∧ Qu w' F w'' p (putM { y with wt := u, rem := nr } L) base (n + 1)) := Kit.hid (fun w' h => put_any { y with wt := u, rem := nr } h HY.out.1 HY.out.2.1 (by omega))
    clear hnr
    go_wp2_with fail
    (with_reducible refine (HRW.out _).mono ?_); rintro e w3 ⟨rfl, hd3⟩
    have HB3 := Kit.hid (HBW.out.trans (hd3.mono HBW.out.size))
    clear hd3 y0 y1 y2 ly
    go_wp2_with fail
    (with_reducible refine (HPT.out _ (HQ.out.below HB3.out)).mono ?_); rintro e w4 ⟨rfl, hq4⟩
    have HQ4 := Kit.hid (QF.lift (F := F) HB3.out hq4)
    clear hq4
    go_wp2
    go_ret
    rw [HR.out]
    exact ⟨rfl, by rw [HWM.out]; exact HQ4.out⟩
end
theorem qnew_any (w : World) :
    Calls Try.prog 58 #[] w fun e w' => ∃ p, e = .returned (.pointer (some ⟨p, 0, none⟩)) ∧ w.heap.size ≤ p ∧ Qu w (fun _ => False) w' p [] 0 1 := by
  have HN : Hid (∀ w', Calls Try.prog 73 #[] w' fun e w'' => ∃ g, e = .returned (.pointer (some ⟨g, 0, none⟩)) ∧ w'.heap.size ≤ g ∧ Items w' (fun _ => False) w'' g [] 1 ∧ Below w'.heap.size w' w'') := Kit.hid (fun w' => items_new (Kept.refl (fun _ => False) w'))
  have HM := Kit.hid (mapV_made w Try.prog 3)
  have HE : Hid (∀ o, Below w.heap.size w (w.alloc o)) := Kit.hid (fun o => (Below.refl _ _).alloc (Nat.le_refl _) _)
  have hmk := run_makeMap (P := Try.prog) 101 w
  go_enter Try.func58, Try.ntmps58
  go_wp2_with fail
  (with_reducible refine (HN.out _).mono ?_); rintro e w2 ⟨g, rfl, hg, hi, hb⟩
  have hz := hb.size
  have hz1 : (w.alloc (.map #[] 0)).heap.size = w.heap.size + 1 := by simp
  obtain ⟨S, hf, he⟩ := hi.foot
  have hS1 : ∀ k, S k → w.heap.size + 1 ≤ k := fun k hk => by
    rcases he k hk with h | h
    · exact h.elim
    · rw [hz1] at h; exact h
  have hS2 := hf.lt
  have HQ : Hid (∀ w3, w3 = w2.alloc (.cells #[.map (some w.heap.size), .pointer (some ⟨g, 0, none⟩), .int .i64 0] 104) → Qu w (fun _ => False) w3 w2.heap.size [] 0 1) := Kit.hid (fun w3 e => by
    subst e
    have hb3 : Below w2.heap.size w2 (w2.alloc (.cells #[.map (some w.heap.size), .pointer (some ⟨g, 0, none⟩), .int .i64 0] 104)) := (Below.refl _ _).alloc (Nat.le_refl _) _
    rw [hz1] at hz
    refine ⟨fun k => k = w2.heap.size ∨ k = w.heap.size ∨ S k, ⟨w.heap.size, g, S, rfl, blk_new _ _, ?_, hf.kept fun k hk => hb3.block k (hS2 k hk), fun h => ?_, fun h => ?_, by omega, WQ.nil⟩, fun k hk => ?_, ?_⟩
    · exact (((HM.out.same (hb.block _ (by rw [hz1]; omega))).same (hb3.block _ (by omega))).congr (fun i => rfl)).more (Nat.zero_le _)
    · have := hS2 _ h; omega
    · have := hS1 _ h; omega
    · rcases hk with rfl | rfl | hk
      · exact .inr (by omega)
      · exact .inr (Nat.le_refl _)
      · have := hS1 k hk; exact .inr (by omega)
    · exact (Kept.refl _ w).below (((HE.out _).trans (hb.mono (by rw [hz1]; omega))).trans (hb3.mono (by omega))))
  have HZ : Hid (w.heap.size ≤ w2.heap.size) := Kit.hid (by omega)
  clear hi hb hz hz1 hf he hS1 hS2
  go_wp2
  go_ret
  exact ⟨_, rfl, HZ.out, HQ.out _ rfl⟩
end Go.Proofs.Ytpgfenelckonoaa.Qu
