/- The walk of the reference's Unpack. -/
import Derived.Test.YtlmbghemlphoaaaDoorPaT
namespace Go.Proofs.YtlmbghemlphoaaaDoor.Pa
open Go.RowKit Go.Proofs.YtlmbghemlphoaaaDoor.Kit Go.Proofs.YtlmbghemlphoaaaDoor.PaM Go.Proofs.YtlmbghemlphoaaaDoor.Le Go.IntWalk
set_option linter.unusedVariables false
set_option linter.unusedSimpArgs false
theorem unp_fail {w w' : World} {l : List (BitVec 8)} {x : Int} (h : unp l = (x, [])) (hb : Below w.heap.size w w') : Unp w (unp l).1 (unp l).2 (.returned (.tuple #[.slice none 0 0, .int .i64 x])) w' :=
  ⟨none, 0, 0, [], by rw [h], Kit.hid rfl, Kit.hid (by rw [h]; rfl), Kit.hid (fun i hi => by cases hi), Nat.le_refl _, Nat.zero_le _, hb⟩
/-- The sections that the second loop has made. -/
structure Uo (w wr : World) (v : Value) (i : Nat) (ls : List SecM) : Prop where
  own : wr.ownsRow w.heap.size 39 2 v i (flatS ls)
  len : ls.length = i
  bs : ∀ s ∈ ls, Hid (∀ w', Below w.heap.size w w' → Hid (Bytes w' s.A s.b))
  bel : Below w.heap.size w wr
section
variable {w wr w' : World} {v v' : Value} {i : Nat} {ls : List SecM}
theorem Uo.drew (h : Uo w wr v i ls) : Uo w wr.drew v i ls := ⟨own_belowS h.own ((Below.refl wr.heap.size wr).drew), h.len, h.bs, h.bel.drew⟩
theorem Uo.below (h : Uo w wr v i ls) (hb : Below wr.heap.size wr w') : Uo w w' v i ls := ⟨own_belowS h.own hb, h.len, h.bs, h.bel.trans (hb.mono h.bel.size)⟩
theorem Uo.app (h : Uo w wr v i ls) (s : SecM) (hs : Hid (∀ w', Below w.heap.size w w' → Hid (Bytes w' s.A s.b))) (hown : w'.ownsRow w.heap.size 39 2 v' (i + 1) (flatS ls ++ flatS [s])) (hg : wr.grownBy w' v.ownBlock) : Uo w w' v' (i + 1) (ls ++ [s]) := by
  refine ⟨by rw [flatS_append]; exact hown, by rw [List.length_append, h.len]; rfl, fun x hx => ?_, below_ownS h.bel h.own hg h.bel.size⟩
  rcases List.mem_append.1 hx with hx | hx
  · exact h.bs x hx
  · rw [List.mem_singleton.1 hx]; exact hs
end
set_option maxRecDepth 20000 in
set_option maxHeartbeats 8000000 in
theorem runpack_any (A : Option Addr) (l : List (BitVec 8)) (cap : Nat) (w : World) (hb : Hid (Bytes w A l)) (hl : l.length ≤ 140737488351232) (hc : l.length ≤ cap) :
    Calls Tryd.prog 11 #[.slice A l.length cap] w (Unp w (unp l).1 (unp l).2) := by
  by_cases h9 : l.length < 9
  · have E : Hid (unp l = (2, [])) := Kit.hid (by unfold unp; rw [if_pos h9])
    have p1 : (l.length : Int) < 9 := by omega
    go_enter Tryd.func11, Tryd.ntmps11
    go_wp2
    go_ret2
    exact unp_fail E.out (Below.refl _ _)
  have p1 : ¬ (l.length : Int) < 9 := by omega
  have p1b : decide ((l.length : Int) < 9) = false := decide_eq_false p1
  obtain ⟨ad, hA, hc0⟩ := hb.out 0 (by omega)
  subst hA
  clear hc0
  have g1 : (4 : Int) ≤ (cap : Int) := by omega
  have g2 : (4 : Int) ≤ (l.length : Int) := by omega
  have hcv : (convert 22 9 (.slice (some ad) 4 cap)).run Tryd.prog w = .ok (.string (strB (l.take 4))) w := by
    have := conv_str (some ad) (l.take 4) cap w (Le.bytes_take hb 4)
    rw [List.length_take, Nat.min_eq_left (show 4 ≤ l.length by omega)] at this
    exact this
  have hsm := magic_cmp (l.take 4)
  by_cases hmg : l.take 4 = magic
  case neg =>
    have E : Hid (unp l = (20, [])) := Kit.hid (by unfold unp; rw [if_neg h9, if_pos hmg])
    rw [decide_eq_false hmg] at hsm
    clear hmg
    go_enter Tryd.func11, Tryd.ntmps11
    go_wp2
    go_ret2
    exact unp_fail E.out (Below.refl _ _)
  rw [decide_eq_true hmg] at hsm
  have HMG := Kit.hid hmg
  have H9 := Kit.hid h9
  have g5 : (5 : Int) ≤ (cap : Int) := by omega
  have g9 : (9 : Int) ≤ (cap : Int) := by omega
  have l5 : ((l.drop 5).take 4).length = 4 := by rw [List.length_take, List.length_drop]; omega
  have CK5 := Kit.hid (rcheck_any (some ad) (l.take 5) 5 cap w.drew (by rw [List.length_take]; omega) (bytes_below (Le.bytes_take hb 5) ((Below.refl _ w).drew)) (by decide))
  have HS5 : Hid (∀ c' A2 cap2 w2, Below w.drew.heap.size w.drew w2 → Hid (Bytes w2 A2 (crcD (l.take 5))) → Calls Tryd.prog 15 #[.slice (some ⟨ad.block, ad.off + 5, none⟩) 4 c', .slice A2 4 cap2] w2 fun e w' => e = .returned (.bool (decide ((l.drop 5).take 4 = crcD (l.take 5)))) ∧ ∃ n, w' = w2.drewN n) :=
    Kit.hid (fun c' A2 cap2 w2 h1 h2 => by
      have h3 : Hid (Bytes w2 (some ⟨ad.block, ad.off + 5, none⟩) ((l.drop 5).take 4)) := bytes_below (Le.bytes_take (Le.bytes_drop hb 5) 4) ((Below.refl w.heap.size w).drew.trans (h1.mono ((Below.refl w.heap.size w).drew).size))
      exact rsame_four _ _ c' A2 _ cap2 w2 l5 (crcD_length _) h3 h2)
  unfold CkPost at CK5
  have g4 : (4 : Int) < (l.length : Int) := by omega
  have HC4 : Hid (∀ w', Below w.heap.size w w' → w'.cell? ⟨ad.block, ad.off + 4, none⟩ = some (.int .u8 (LeM.num ((l.drop 4).take 1) : Int))) := Kit.hid (fun w' h => by
    obtain ⟨ad', e4, c4⟩ := (bytes_below hb h).out 4 (by omega)
    cases e4
    rw [num_one_at (show 4 < l.length by omega)]
    exact c4)
  obtain ⟨m, hm⟩ : ∃ m, m = LeM.num ((l.drop 4).take 1) := ⟨_, rfl⟩
  have hm255 : m ≤ 255 := by rw [hm]; exact num_one _
  rw [← hm] at HC4
  have HM := Kit.hid hm.symm
  have HBD5 := Kit.hid ((Below.refl w.heap.size w).drew)
  obtain ⟨r5, hr5⟩ : ∃ r, r = decide ((l.drop 5).take 4 = crcD (l.take 5)) := ⟨_, rfl⟩
  rw [← hr5] at HS5
  have HR5 := Kit.hid hr5
  clear hm hmg l5 h9 hr5
  go_enter Tryd.func11, Tryd.ntmps11
  go_wp2
  refine wp_region_noPanic ?_
  refine wp_region_held_drew (S := fun _ => True) (by kernel_rfl) trivial (fun hHeld => ?_)
  refine wpAnyH_take (i := 0) (hi := by simp only [List.getElem?_toArray, List.getElem?_cons_succ, List.getElem?_cons_zero]; rfl) (v := ?_) (by kernel_rfl) (by kernel_rfl) (by kernel_rfl) (fun _ _ _ h => h) (Or.inl ⟨by rfl, ?_⟩) (by assumption) ?_
  rotate_left
  · (intro w hSw; (try dsimp only at hSw); go_simp; first | done | with_reducible rfl)
  try simp only [Act.put, List.setIfInBounds_toArray, List.set_cons_zero, List.set_cons_succ]
  refine wpAnyH_take (i := 1) (hi := by simp only [List.getElem?_toArray, List.getElem?_cons_succ, List.getElem?_cons_zero]; rfl) (v := ?_) (by kernel_rfl) (by kernel_rfl) (by kernel_rfl) (fun _ _ _ h => h) (Or.inl ⟨by rfl, ?_⟩) (by assumption) ?_
  rotate_left
  · (intro w hSw; (try dsimp only at hSw); go_simp; first | done | with_reducible rfl)
  try simp only [Act.put, List.setIfInBounds_toArray, List.set_cons_zero, List.set_cons_succ]
  refine wpAnyH_take (i := 2) (hi := by simp only [List.getElem?_toArray, List.getElem?_cons_succ, List.getElem?_cons_zero]; rfl) (v := ?_) (by kernel_rfl) (by kernel_rfl) (by kernel_rfl) (fun _ _ _ h => h) (Or.inl ⟨by rfl, ?_⟩) (by assumption) ?_
  rotate_left
  · (intro w hSw; (try dsimp only at hSw); go_simp; first | done | with_reducible rfl)
  try simp only [Act.put, List.setIfInBounds_toArray, List.set_cons_zero, List.set_cons_succ]
  refine wpAnyH_take (i := 3) (hi := by simp only [List.getElem?_toArray, List.getElem?_cons_succ, List.getElem?_cons_zero]; rfl) (v := ?_) (by kernel_rfl) (by kernel_rfl) (by kernel_rfl) (fun _ _ _ h => h) (Or.inl ⟨by rfl, ?_⟩) (by assumption) ?_
  rotate_left
  · (intro w hSw; (try dsimp only at hSw); go_simp; first | done | with_reducible rfl)
  try simp only [Act.put, List.setIfInBounds_toArray, List.set_cons_zero, List.set_cons_succ]
  refine wpAnyH_ready (rs := [4]) (by kernel_rfl) (by simp) ?_
  refine AllReadyH.cons (ho := by simp only [List.getElem?_toArray, List.getElem?_cons_succ, List.getElem?_cons_zero]; rfl) (fun K hK => ?_) AllReadyH.nil
  go_simp
  go_at_call 25; (with_reducible refine CK5.out.mono ?_); rintro e w5 ⟨A5, cap5, rfl, hB5, hd5⟩
  go_wp2_with fail
  refine hK.out _ _ ?_ (fun hHeldN => ?_)
  · trivial
  clear hHeld
  have hHeld := hHeldN
  clear hHeldN
  clear hK K
  try simp only [Act.put, List.setIfInBounds_toArray, List.set_cons_zero, List.set_cons_succ]
  refine wpAnyH_ready (rs := [5]) (by kernel_rfl) (by simp) ?_
  refine AllReadyH.cons (ho := by simp only [List.getElem?_toArray, List.getElem?_cons_succ, List.getElem?_cons_zero]; rfl) (fun K hK => ?_) AllReadyH.nil
  go_simp
  go_at_call 15; (with_reducible refine (HS5.out _ A5 cap5 w5 hd5 hB5).mono ?_); rintro e v5 ⟨rfl, n5, rfl⟩
  have hbw5 := Kit.hid (below_drewN (HBD5.out.trans (hd5.mono HBD5.out.size)) n5)
  go_wp2_with fail
  refine hK.out _ _ ?_ (fun hHeldN => ?_)
  · trivial
  clear hHeld
  have hHeld := hHeldN
  clear hHeldN
  clear hK K
  try simp only [Act.put, List.setIfInBounds_toArray, List.set_cons_zero, List.set_cons_succ]
  refine wpAnyH_take (i := 6) (hi := by simp only [List.getElem?_toArray, List.getElem?_cons_succ, List.getElem?_cons_zero]; rfl) (v := ?_) (by kernel_rfl) (by kernel_rfl) (by kernel_rfl) (fun _ _ _ h => h) (Or.inl ⟨by rfl, ?_⟩) (by assumption) ?_
  rotate_left
  · (intro w hSw; (try dsimp only at hSw); go_simp; first | done | with_reducible rfl)
  try simp only [Act.put, List.setIfInBounds_toArray, List.set_cons_zero, List.set_cons_succ]
  clear hHeld
  refine wpAnyH_done (by kernel_rfl) ?_ _
  refine NoPanic.normal ?_
  clear CK5 HS5
  generalize w5.drewN n5 = wq at hbw5 ⊢
  have c4 := HC4.out wq hbw5.out
  cases r5
  · have E : Hid (unp l = (4, [])) := Kit.hid (unp_sum1 H9.out HMG.out (of_decide_eq_false HR5.out.symm))
    go_wp2
    go_ret2
    exact unp_fail E.out hbw5.out
  have HQ1 := Kit.hid (of_decide_eq_true HR5.out.symm)
  clear HR5
  by_cases h16 : 16 < m
  · have E : Hid (unp l = (7, [])) := Kit.hid (unp_full H9.out HMG.out HM.out HQ1.out h16)
    have p2 : (16 : Int) < (m : Int) := by omega
    have p3 : IntKind.i64.wrap (m : Int) = (m : Int) := by simp [IntKind.wrap, IntKind.bits, IntKind.signed]; omega
    go_wp2
    go_ret2
    exact unp_fail E.out hbw5.out
  have p2 : ¬ (16 : Int) < (m : Int) := by omega
  by_cases hsh : l.length < 9 + 7 * m + 4
  · have E : Hid (unp l = (2, [])) := Kit.hid (unp_short H9.out HMG.out HM.out HQ1.out h16 hsh)
    have p4 : (l.length : Int) < 9 + 7 * (m : Int) + 4 := by omega
    go_wp2
    go_ret2
    exact unp_fail E.out hbw5.out
  have p4 : ¬ (l.length : Int) < 9 + 7 * (m : Int) + 4 := by omega
  have H16 := Kit.hid h16
  have HSH := Kit.hid hsh
  go_wp2
  obtain ⟨en, hen⟩ : ∃ en : Nat, en = 9 + 7 * m := ⟨_, rfl⟩
  have hen' : (9 + 7 * (m : Int)) = (en : Int) := by omega
  rw [hen']
  have HEN := Kit.hid hen
  have e1 : (en : Int) + 4 ≤ (cap : Int) := by omega
  have e2 : (0 : Int) ≤ (en : Int) := by omega
  have e3 : (en : Int) ≤ (cap : Int) := by omega
  have e5 : IntKind.i64.wrap ((en : Int) + 4) = (en : Int) + 4 := by simp [IntKind.wrap, IntKind.bits, IntKind.signed]; omega
  have e6 : ((en : Int) + 4).toNat = en + 4 := by omega
  have e7 : ¬ cap = en := by omega
  have e8 : (0 : Int) ≤ (en : Int) + 4 := by omega
  have le13 : ((l.drop en).take 4).length = 4 := by rw [List.length_take, List.length_drop]; omega
  have HBD13 := Kit.hid (hbw5.out.drew)
  have CK13 := Kit.hid (rcheck_any (some ad) (l.take en) en cap wq.drew (by rw [List.length_take]; omega) (bytes_below (Le.bytes_take hb en) HBD13.out) (by omega))
  have HS13 : Hid (∀ c' A2 cap2 w2, Below wq.drew.heap.size wq.drew w2 → Hid (Bytes w2 A2 (crcD (l.take en))) → Calls Tryd.prog 15 #[.slice (some (ad.add en)) 4 c', .slice A2 4 cap2] w2 fun e w' => e = .returned (.bool (decide ((l.drop en).take 4 = crcD (l.take en)))) ∧ ∃ n, w' = w2.drewN n) :=
    Kit.hid (fun c' A2 cap2 w2 h1 h2 => by
      have h3 : Hid (Bytes w2 (some (ad.add en)) ((l.drop en).take 4)) := bytes_below (Le.bytes_take (Le.bytes_drop hb en) 4) (HBD13.out.trans (h1.mono HBD13.out.size))
      exact rsame_four _ _ c' A2 _ cap2 w2 le13 (crcD_length _) h3 h2)
  unfold CkPost at CK13
  obtain ⟨r13, hr13⟩ : ∃ r, r = decide ((l.drop en).take 4 = crcD (l.take en)) := ⟨_, rfl⟩
  rw [← hr13] at HS13
  have HR13 := Kit.hid hr13
  clear hen hen' hr13 le13 h16 hsh c4
  refine wp_region_noPanic ?_
  refine wp_region_held_drew (S := fun _ => True) (by kernel_rfl) trivial (fun hHeld => ?_)
  refine wpAnyH_take (i := 0) (hi := by simp only [List.getElem?_toArray, List.getElem?_cons_succ, List.getElem?_cons_zero]; rfl) (v := ?_) (by kernel_rfl) (by kernel_rfl) (by kernel_rfl) (fun _ _ _ h => h) (Or.inl ⟨by rfl, ?_⟩) (by assumption) ?_
  rotate_left
  · (intro w hSw; (try dsimp only at hSw); go_simp; first | done | with_reducible rfl)
  try simp only [Act.put, List.setIfInBounds_toArray, List.set_cons_zero, List.set_cons_succ]
  refine wpAnyH_take (i := 1) (hi := by simp only [List.getElem?_toArray, List.getElem?_cons_succ, List.getElem?_cons_zero]; rfl) (v := ?_) (by kernel_rfl) (by kernel_rfl) (by kernel_rfl) (fun _ _ _ h => h) (Or.inl ⟨by rfl, ?_⟩) (by assumption) ?_
  rotate_left
  · (intro w hSw; (try dsimp only at hSw); go_simp; first | done | with_reducible rfl)
  try simp only [Act.put, List.setIfInBounds_toArray, List.set_cons_zero, List.set_cons_succ]
  refine wpAnyH_take (i := 2) (hi := by simp only [List.getElem?_toArray, List.getElem?_cons_succ, List.getElem?_cons_zero]; rfl) (v := ?_) (by kernel_rfl) (by kernel_rfl) (by kernel_rfl) (fun _ _ _ h => h) (Or.inl ⟨by rfl, ?_⟩) (by assumption) ?_
  rotate_left
  · (intro w hSw; (try dsimp only at hSw); go_simp; first | done | with_reducible rfl)
  try simp only [Act.put, List.setIfInBounds_toArray, List.set_cons_zero, List.set_cons_succ]
  refine wpAnyH_take (i := 3) (hi := by simp only [List.getElem?_toArray, List.getElem?_cons_succ, List.getElem?_cons_zero]; rfl) (v := ?_) (by kernel_rfl) (by kernel_rfl) (by kernel_rfl) (fun _ _ _ h => h) (Or.inl ⟨by rfl, ?_⟩) (by assumption) ?_
  rotate_left
  · (intro w hSw; (try dsimp only at hSw); go_simp; first | done | with_reducible rfl)
  try simp only [Act.put, List.setIfInBounds_toArray, List.set_cons_zero, List.set_cons_succ]
  refine wpAnyH_take (i := 4) (hi := by simp only [List.getElem?_toArray, List.getElem?_cons_succ, List.getElem?_cons_zero]; rfl) (v := ?_) (by kernel_rfl) (by kernel_rfl) (by kernel_rfl) (fun _ _ _ h => h) (Or.inl ⟨by rfl, ?_⟩) (by assumption) ?_
  rotate_left
  · (intro w hSw; (try dsimp only at hSw); go_simp; first | done | with_reducible rfl)
  try simp only [Act.put, List.setIfInBounds_toArray, List.set_cons_zero, List.set_cons_succ]
  refine wpAnyH_take (i := 5) (hi := by simp only [List.getElem?_toArray, List.getElem?_cons_succ, List.getElem?_cons_zero]; rfl) (v := ?_) (by kernel_rfl) (by kernel_rfl) (by kernel_rfl) (fun _ _ _ h => h) (Or.inl ⟨by rfl, ?_⟩) (by assumption) ?_
  rotate_left
  · (intro w hSw; (try dsimp only at hSw); go_simp; first | done | with_reducible rfl)
  try simp only [Act.put, List.setIfInBounds_toArray, List.set_cons_zero, List.set_cons_succ]
  refine wpAnyH_take (i := 6) (hi := by simp only [List.getElem?_toArray, List.getElem?_cons_succ, List.getElem?_cons_zero]; rfl) (v := ?_) (by kernel_rfl) (by kernel_rfl) (by kernel_rfl) (fun _ _ _ h => h) (Or.inl ⟨by rfl, ?_⟩) (by assumption) ?_
  rotate_left
  · (intro w hSw; (try dsimp only at hSw); go_simp; first | done | with_reducible rfl)
  try simp only [Act.put, List.setIfInBounds_toArray, List.set_cons_zero, List.set_cons_succ]
  refine wpAnyH_take (i := 7) (hi := by simp only [List.getElem?_toArray, List.getElem?_cons_succ, List.getElem?_cons_zero]; rfl) (v := ?_) (by kernel_rfl) (by kernel_rfl) (by kernel_rfl) (fun _ _ _ h => h) (Or.inl ⟨by rfl, ?_⟩) (by assumption) ?_
  rotate_left
  · (intro w hSw; (try dsimp only at hSw); go_simp; first | done | with_reducible rfl)
  try simp only [Act.put, List.setIfInBounds_toArray, List.set_cons_zero, List.set_cons_succ]
  refine wpAnyH_ready (rs := [8]) (by kernel_rfl) (by simp) ?_
  refine AllReadyH.cons (ho := by simp only [List.getElem?_toArray, List.getElem?_cons_succ, List.getElem?_cons_zero]; rfl) (fun K hK => ?_) AllReadyH.nil
  go_simp
  go_at_call 25; (with_reducible refine CK13.out.mono ?_); rintro e w13 ⟨A13, cap13, rfl, hB13, hd13⟩
  go_wp2_with fail
  refine hK.out _ _ ?_ (fun hHeldN => ?_)
  · trivial
  clear hHeld
  have hHeld := hHeldN
  clear hHeldN
  clear hK K
  try simp only [Act.put, List.setIfInBounds_toArray, List.set_cons_zero, List.set_cons_succ]
  refine wpAnyH_ready (rs := [9]) (by kernel_rfl) (by simp) ?_
  refine AllReadyH.cons (ho := by simp only [List.getElem?_toArray, List.getElem?_cons_succ, List.getElem?_cons_zero]; rfl) (fun K hK => ?_) AllReadyH.nil
  go_simp
  go_at_call 15; (with_reducible refine (HS13.out _ A13 cap13 w13 hd13 hB13).mono ?_); rintro e v13 ⟨rfl, n13, rfl⟩
  have hbw13 := Kit.hid (below_drewN (HBD13.out.trans (hd13.mono HBD13.out.size)) n13)
  go_wp2_with fail
  refine hK.out _ _ ?_ (fun hHeldN => ?_)
  · trivial
  clear hHeld
  have hHeld := hHeldN
  clear hHeldN
  clear hK K
  try simp only [Act.put, List.setIfInBounds_toArray, List.set_cons_zero, List.set_cons_succ]
  refine wpAnyH_take (i := 10) (hi := by simp only [List.getElem?_toArray, List.getElem?_cons_succ, List.getElem?_cons_zero]; rfl) (v := ?_) (by kernel_rfl) (by kernel_rfl) (by kernel_rfl) (fun _ _ _ h => h) (Or.inl ⟨by rfl, ?_⟩) (by assumption) ?_
  rotate_left
  · (intro w hSw; (try dsimp only at hSw); go_simp; first | done | with_reducible rfl)
  try simp only [Act.put, List.setIfInBounds_toArray, List.set_cons_zero, List.set_cons_succ]
  clear hHeld
  refine wpAnyH_done (by kernel_rfl) ?_ _
  refine NoPanic.normal ?_
  clear CK13 HS13
  generalize w13.drewN n13 = wq2 at hbw13 ⊢
  cases r13
  · have E : Hid (unp l = (4, [])) := Kit.hid (unp_sum2 H9.out HMG.out HM.out HQ1.out H16.out HSH.out (by have := of_decide_eq_false HR13.out.symm; rw [HEN.out] at this; exact this))
    go_wp2
    go_ret2
    exact unp_fail E.out hbw13.out
  have HU : Hid (unp l = tail (ents m (l.drop 9)) (l.drop (en + 4))) := Kit.hid (by
    have := of_decide_eq_true HR13.out.symm
    rw [HEN.out] at this ⊢
    exact unp_tail H9.out HMG.out HM.out HQ1.out H16.out HSH.out this)
  clear HR13 hbw5 H9 HMG HQ1
  obtain ⟨Es, hEs⟩ : ∃ Es, Es = ents m (l.drop 9) := ⟨_, rfl⟩
  obtain ⟨q, hq⟩ : ∃ q, q = l.drop (en + 4) := ⟨_, rfl⟩
  have hEl : Es.length = m := by rw [hEs, ents_length]
  have hend : 9 + 7 * m + 4 ≤ l.length := by have := HSH.out; omega
  have hql : q.length + (en + 4) = l.length := by have := HEN.out; rw [hq, List.length_drop]; omega
  have HENT := Kit.hid (ent_cells (m := m) hb (by omega))
  have HTS : Hid (∀ i, total (Es.take i) ≤ 65535 * i) := Kit.hid (fun i => by rw [hEs]; exact ent_size_le i)
  rw [← hEs, ← hq] at HU
  rw [← hEs] at HENT
  have HQ := Kit.hid hq
  have hm16 : m ≤ 16 := by have := H16.out; omega
  have HEL := Kit.hid hEl
  have HQL := Kit.hid hql
  clear hEs hq hEl hql e1 e2 e3 e5 e6 e7 e8 g1 g2 g4 g5 g9
  go_wp2
  rw [Bool.not_true]
  go_loopw [6, 7, 8] (fun v6 v7 v8 wr => ∃ (i la su : Nat), i ≤ m ∧ v6 = .int .i64 la ∧ v7 = .int .i64 su ∧ v8 = .int .i64 i ∧ la ≤ 255 ∧ su ≤ 65535 * i ∧ Hid ((la : Int) = lastE 0 (Es.take i)) ∧ Hid (su = total (Es.take i)) ∧ Hid (erise 0 (Es.take i) = true) ∧ Hid (Below w.heap.size w wr)) (fun _ _ i _ => m - (intOf i).toNat)
  case atStart => exact ⟨0, 0, 0, by omega, rfl, rfl, rfl, by omega, by omega, Kit.hid rfl, Kit.hid rfl, Kit.hid rfl, hbw13⟩
  case round =>
    obtain ⟨i, la, su, hi, rfl, rfl, rfl, hla, hsu, HLA, HSU, HER, hbw⟩ := hrel
    by_cases hlt : i < m
    · obtain ⟨k, a, b, hk, ha, hb8, HCL, HES⟩ := HENT.out i hlt
      obtain ⟨j9, hj9⟩ : ∃ j : Nat, j = 9 + 7 * i := ⟨_, rfl⟩
      obtain ⟨j10, hj10⟩ : ∃ j : Nat, j = 10 + 7 * i := ⟨_, rfl⟩
      obtain ⟨j11, hj11⟩ : ∃ j : Nat, j = 11 + 7 * i := ⟨_, rfl⟩
      obtain ⟨c9, c10, c11⟩ := HCL.out wr hbw.out
      obtain ⟨_, d10, d11⟩ := HCL.out wr.drew hbw.out.drew
      rw [← hj9] at c9
      rw [← hj10] at c10 d10
      rw [← hj11] at c11 d11
      have q9 : (9 + 7 * (i : Int)) = (j9 : Int) := by omega
      have q10 : (10 + 7 * (i : Int)) = (j10 : Int) := by omega
      have q11 : (11 + 7 * (i : Int)) = (j11 : Int) := by omega
      have b9 : (j9 : Int) < (l.length : Int) := by omega
      have b10 : (j10 : Int) < (l.length : Int) := by omega
      have b11 : (j11 : Int) < (l.length : Int) := by omega
      have z9 : (0 : Int) ≤ (j9 : Int) := by omega
      have z10 : (0 : Int) ≤ (j10 : Int) := by omega
      have z11 : (0 : Int) ≤ (j11 : Int) := by omega
      have r7 : IntKind.i64.wrap (7 * (i : Int)) = 7 * (i : Int) := by simp [IntKind.wrap, IntKind.bits, IntKind.signed]; omega
      have r9 : IntKind.i64.wrap (j9 : Int) = (j9 : Int) := by simp [IntKind.wrap, IntKind.bits, IntKind.signed]; omega
      have r10 : IntKind.i64.wrap (j10 : Int) = (j10 : Int) := by simp [IntKind.wrap, IntKind.bits, IntKind.signed]; omega
      have r11 : IntKind.i64.wrap (j11 : Int) = (j11 : Int) := by simp [IntKind.wrap, IntKind.bits, IntKind.signed]; omega
      have s0 : IntKind.i64.wrap (k : Int) = (k : Int) := by simp [IntKind.wrap, IntKind.bits, IntKind.signed]; omega
      have s1 : IntKind.i64.wrap (a : Int) = (a : Int) := by simp [IntKind.wrap, IntKind.bits, IntKind.signed]; omega
      have s2 : IntKind.i64.wrap (b : Int) = (b : Int) := by simp [IntKind.wrap, IntKind.bits, IntKind.signed]; omega
      have s3 : IntKind.i64.wrap ((su : Int) + (a : Int)) = (su : Int) + (a : Int) := by simp [IntKind.wrap, IntKind.bits, IntKind.signed]; omega
      have s4 : IntKind.i64.wrap (256 * (b : Int)) = 256 * (b : Int) := by simp [IntKind.wrap, IntKind.bits, IntKind.signed]; omega
      have s5 : IntKind.i64.wrap ((su : Int) + (a : Int) + 256 * (b : Int)) = (su : Int) + (a : Int) + 256 * (b : Int) := by simp [IntKind.wrap, IntKind.bits, IntKind.signed]; omega
      have HNX : Hid (Es.take (i + 1) = Es.take i ++ [⟨k, a + 256 * b, LeM.num ((l.drop (12 + 7 * i)).take 4)⟩]) := Kit.hid (by
        obtain ⟨h, e⟩ := HES.out
        exact take_next h e.symm)
      clear hj9 hj10 hj11
      by_cases hkl : k ≤ la
      · have E : Hid (unp l = (21, [])) := Kit.hid (by
          rw [HU.out]
          have : erise 0 (Es.take (i + 1)) = false := by
            rw [HNX.out, erise_app, HER.out, ← HLA.out, Bool.true_and]
            simp only [erise, Bool.and_true]
            exact decide_eq_false (by omega)
          unfold tail
          rw [if_pos (erise_bad this)])
        have k1 : (k : Int) ≤ (la : Int) := by omega
        go_wp2
        go_ret2
        exact unp_fail E.out hbw.out
      have k1 : ¬ (k : Int) ≤ (la : Int) := by omega
      have k2 : decide ((k : Int) ≤ (la : Int)) = false := decide_eq_false k1
      go_wp2
      refine wp_region_noPanic ?_
      refine wp_region_held_drew (S := fun w' => w'.cell? (ad.add j10) = some (.int .u8 (a : Int)) ∧ w'.cell? (ad.add j11) = some (.int .u8 (b : Int))) (by kernel_rfl) ⟨c10, c11⟩ (fun hHeld => ?_)
      refine wpAnyH_take (i := 0) (hi := by simp only [List.getElem?_toArray, List.getElem?_cons_succ, List.getElem?_cons_zero]; rfl) (v := ?_) (by kernel_rfl) (by kernel_rfl) (by kernel_rfl) (fun _ _ _ h => h) (Or.inl ⟨by rfl, ?_⟩) (by assumption) ?_
      rotate_left
      · (intro w hSw; (try dsimp only at hSw); go_simp; first | done | with_reducible rfl)
      try simp only [Act.put, List.setIfInBounds_toArray, List.set_cons_zero, List.set_cons_succ]
      refine wpAnyH_take (i := 1) (hi := by simp only [List.getElem?_toArray, List.getElem?_cons_succ, List.getElem?_cons_zero]; rfl) (v := ?_) (by kernel_rfl) (by kernel_rfl) (by kernel_rfl) (fun _ _ _ h => h) (Or.inl ⟨by rfl, ?_⟩) (by assumption) ?_
      rotate_left
      · (intro w hSw; (try dsimp only at hSw); go_simp; first | done | with_reducible rfl)
      try simp only [Act.put, List.setIfInBounds_toArray, List.set_cons_zero, List.set_cons_succ]
      refine wpAnyH_take (i := 2) (hi := by simp only [List.getElem?_toArray, List.getElem?_cons_succ, List.getElem?_cons_zero]; rfl) (v := ?_) (by kernel_rfl) (by kernel_rfl) (by kernel_rfl) (fun _ _ _ h => h) (Or.inl ⟨by rfl, ?_⟩) (by assumption) ?_
      rotate_left
      · (intro w hSw; (try dsimp only at hSw); go_simp; first | done | with_reducible rfl)
      try simp only [Act.put, List.setIfInBounds_toArray, List.set_cons_zero, List.set_cons_succ]
      refine wpAnyH_take (i := 3) (hi := by simp only [List.getElem?_toArray, List.getElem?_cons_succ, List.getElem?_cons_zero]; rfl) (v := ?_) (by kernel_rfl) (by kernel_rfl) (by kernel_rfl) (fun _ _ _ h => h) (Or.inl ⟨by rfl, ?_⟩) (by assumption) ?_
      rotate_left
      · (intro w hSw; (try dsimp only at hSw); go_simp; first | done | with_reducible rfl)
      try simp only [Act.put, List.setIfInBounds_toArray, List.set_cons_zero, List.set_cons_succ]
      refine wpAnyH_take (i := 4) (hi := by simp only [List.getElem?_toArray, List.getElem?_cons_succ, List.getElem?_cons_zero]; rfl) (v := ?_) (by kernel_rfl) (by kernel_rfl) (by kernel_rfl) (fun _ _ _ h => h) (Or.inl ⟨by rfl, ?_⟩) (by assumption) ?_
      rotate_left
      · (intro w hSw; (try dsimp only at hSw); go_simp; first | done | with_reducible rfl)
      try simp only [Act.put, List.setIfInBounds_toArray, List.set_cons_zero, List.set_cons_succ]
      refine wpAnyH_take (i := 5) (hi := by simp only [List.getElem?_toArray, List.getElem?_cons_succ, List.getElem?_cons_zero]; rfl) (v := ?_) (by kernel_rfl) (by kernel_rfl) (by kernel_rfl) (fun _ _ _ h => h) (Or.inl ⟨by rfl, ?_⟩) (by assumption) ?_
      rotate_left
      · (intro w hSw; (try dsimp only at hSw); go_simp; first | done | with_reducible rfl)
      try simp only [Act.put, List.setIfInBounds_toArray, List.set_cons_zero, List.set_cons_succ]
      refine wpAnyH_take (i := 6) (hi := by simp only [List.getElem?_toArray, List.getElem?_cons_succ, List.getElem?_cons_zero]; rfl) (v := ?_) (by kernel_rfl) (by kernel_rfl) (by kernel_rfl) (fun _ _ _ h => h) (Or.inl ⟨by rfl, ?_⟩) (by assumption) ?_
      rotate_left
      · (intro w hSw; (try dsimp only at hSw); go_simp; first | done | with_reducible rfl)
      try simp only [Act.put, List.setIfInBounds_toArray, List.set_cons_zero, List.set_cons_succ]
      refine wpAnyH_take (i := 7) (hi := by simp only [List.getElem?_toArray, List.getElem?_cons_succ, List.getElem?_cons_zero]; rfl) (v := ?_) (by kernel_rfl) (by kernel_rfl) (by kernel_rfl) (fun _ _ _ h => h) (Or.inl ⟨by rfl, ?_⟩) (by assumption) ?_
      rotate_left
      · (intro w hSw; (try dsimp only at hSw); go_simp; first | done | with_reducible rfl)
      try simp only [Act.put, List.setIfInBounds_toArray, List.set_cons_zero, List.set_cons_succ]
      refine wpAnyH_take (i := 8) (hi := by simp only [List.getElem?_toArray, List.getElem?_cons_succ, List.getElem?_cons_zero]; rfl) (v := ?_) (by kernel_rfl) (by kernel_rfl) (by kernel_rfl) (fun _ _ _ h => h) (Or.inl ⟨by rfl, ?_⟩) (by assumption) ?_
      rotate_left
      · (intro w hSw; (try dsimp only at hSw); go_simp; first | done | with_reducible rfl)
      try simp only [Act.put, List.setIfInBounds_toArray, List.set_cons_zero, List.set_cons_succ]
      refine wpAnyH_take (i := 9) (hi := by simp only [List.getElem?_toArray, List.getElem?_cons_succ, List.getElem?_cons_zero]; rfl) (v := ?_) (by kernel_rfl) (by kernel_rfl) (by kernel_rfl) (fun _ _ _ h => h) (Or.inl ⟨by rfl, ?_⟩) (by assumption) ?_
      rotate_left
      · (intro w hSw; (try dsimp only at hSw); go_simp; first | done | with_reducible rfl)
      try simp only [Act.put, List.setIfInBounds_toArray, List.set_cons_zero, List.set_cons_succ]
      refine wpAnyH_take (i := 10) (hi := by simp only [List.getElem?_toArray, List.getElem?_cons_succ, List.getElem?_cons_zero]; rfl) (v := ?_) (by kernel_rfl) (by kernel_rfl) (by kernel_rfl) (fun _ _ _ h => h) (Or.inl ⟨by rfl, ?_⟩) (by assumption) ?_
      rotate_left
      · (intro w hSw; (try dsimp only at hSw); go_simp; first | done | with_reducible rfl)
      try simp only [Act.put, List.setIfInBounds_toArray, List.set_cons_zero, List.set_cons_succ]
      refine wpAnyH_take (i := 11) (hi := by simp only [List.getElem?_toArray, List.getElem?_cons_succ, List.getElem?_cons_zero]; rfl) (v := ?_) (by kernel_rfl) (by kernel_rfl) (by kernel_rfl) (fun _ _ _ h => h) (Or.inl ⟨by rfl, ?_⟩) (by assumption) ?_
      rotate_left
      · (intro w hSw; (try dsimp only at hSw); go_simp; first | done | with_reducible rfl)
      try simp only [Act.put, List.setIfInBounds_toArray, List.set_cons_zero, List.set_cons_succ]
      refine wpAnyH_take (i := 12) (hi := by simp only [List.getElem?_toArray, List.getElem?_cons_succ, List.getElem?_cons_zero]; rfl) (v := ?_) (by kernel_rfl) (by kernel_rfl) (by kernel_rfl) (fun _ _ _ h => h) (Or.inl ⟨by rfl, ?_⟩) (by assumption) ?_
      rotate_left
      · (intro w hSw; (try dsimp only at hSw); go_simp; first | done | with_reducible rfl)
      try simp only [Act.put, List.setIfInBounds_toArray, List.set_cons_zero, List.set_cons_succ]
      refine wpAnyH_take (i := 13) (hi := by simp only [List.getElem?_toArray, List.getElem?_cons_succ, List.getElem?_cons_zero]; rfl) (v := ?_) (by kernel_rfl) (by kernel_rfl) (by kernel_rfl) (fun _ _ _ h => h) (Or.inl ⟨by rfl, ?_⟩) (by assumption) ?_
      rotate_left
      · (intro w hSw; (try dsimp only at hSw); go_simp; first | done | with_reducible rfl)
      try simp only [Act.put, List.setIfInBounds_toArray, List.set_cons_zero, List.set_cons_succ]
      refine wpAnyH_take (i := 14) (hi := by simp only [List.getElem?_toArray, List.getElem?_cons_succ, List.getElem?_cons_zero]; rfl) (v := ?_) (by kernel_rfl) (by kernel_rfl) (by kernel_rfl) (fun _ _ _ h => h) (Or.inl ⟨by rfl, ?_⟩) (by assumption) ?_
      rotate_left
      · (intro w hSw; (try dsimp only at hSw); go_simp; first | done | with_reducible rfl)
      try simp only [Act.put, List.setIfInBounds_toArray, List.set_cons_zero, List.set_cons_succ]
      refine wpAnyH_take (i := 15) (hi := by simp only [List.getElem?_toArray, List.getElem?_cons_succ, List.getElem?_cons_zero]; rfl) (v := ?_) (by kernel_rfl) (by kernel_rfl) (by kernel_rfl) (fun _ _ _ h => h) (Or.inl ⟨by rfl, ?_⟩) (by assumption) ?_
      rotate_left
      · (intro w hSw; (try dsimp only at hSw); go_simp; first | done | with_reducible rfl)
      try simp only [Act.put, List.setIfInBounds_toArray, List.set_cons_zero, List.set_cons_succ]
      refine wpAnyH_take (i := 16) (hi := by simp only [List.getElem?_toArray, List.getElem?_cons_succ, List.getElem?_cons_zero]; rfl) (v := ?_) (by kernel_rfl) (by kernel_rfl) (by kernel_rfl) (fun _ _ _ h => h) (Or.inl ⟨by rfl, ?_⟩) (by assumption) ?_
      rotate_left
      · (intro w hSw; (try dsimp only at hSw); go_simp; first | done | with_reducible rfl)
      try simp only [Act.put, List.setIfInBounds_toArray, List.set_cons_zero, List.set_cons_succ]
      refine wpAnyH_take (i := 17) (hi := by simp only [List.getElem?_toArray, List.getElem?_cons_succ, List.getElem?_cons_zero]; rfl) (v := ?_) (by kernel_rfl) (by kernel_rfl) (by kernel_rfl) (fun _ _ _ h => h) (Or.inl ⟨by rfl, ?_⟩) (by assumption) ?_
      rotate_left
      · (intro w hSw; (try dsimp only at hSw); go_simp; first | done | with_reducible rfl)
      try simp only [Act.put, List.setIfInBounds_toArray, List.set_cons_zero, List.set_cons_succ]
      refine wpAnyH_take (i := 18) (hi := by simp only [List.getElem?_toArray, List.getElem?_cons_succ, List.getElem?_cons_zero]; rfl) (v := ?_) (by kernel_rfl) (by kernel_rfl) (by kernel_rfl) (fun _ _ _ h => h) (Or.inl ⟨by rfl, ?_⟩) (by assumption) ?_
      rotate_left
      · (intro w hSw; (try dsimp only at hSw); go_simp; first | done | with_reducible rfl)
      try simp only [Act.put, List.setIfInBounds_toArray, List.set_cons_zero, List.set_cons_succ]
      clear hHeld
      refine wpAnyH_done (by kernel_rfl) ?_ _
      refine NoPanic.normal ?_
      go_wp2_with fail
      go_roundw
      case rel =>
        refine ⟨i + 1, k, su + (a + 256 * b), by omega, by go_num, by go_num, by go_num, hk, by omega, Kit.hid ?_, Kit.hid ?_, Kit.hid ?_, Kit.hid hbw.out.drew⟩
        · rw [HNX.out, lastE_snoc]
        · rw [HNX.out, total_app, ← HSU.out]; rfl
        · rw [HNX.out, erise_app, HER.out, ← HLA.out, Bool.true_and]
          simp only [erise, Bool.and_true]
          exact decide_eq_true (by omega)
      case measure => simp [intOf]; omega
    · obtain rfl : i = m := by omega
      have hem : Es.take i = Es := List.take_of_length_le (by rw [HEL.out]; exact Nat.le_refl _)
      have HSU2 : Hid (su = total Es) := Kit.hid (by rw [HSU.out, hem])
      have HER2 : Hid (erise 0 Es = true) := Kit.hid (by have := HER.out; rw [hem] at this; exact this)
      clear hem HSU HER HLA
      have x1 : (l.length : Int) - (en : Int) - 4 = (q.length : Int) := by have := HQL.out; omega
      have X1 := Kit.hid x1
      have hql2 : q.length + (en + 4) = l.length := HQL.out
      have x2 : IntKind.i64.wrap ((l.length : Int) - (en : Int)) = (q.length : Int) + 4 := by
        rw [show (l.length : Int) - (en : Int) = (q.length : Int) + 4 by omega]; simp [IntKind.wrap, IntKind.bits, IntKind.signed]; omega
      have x3 : IntKind.i64.wrap ((q.length : Int) + 4 - 4) = (q.length : Int) := by
        rw [show (q.length : Int) + 4 - 4 = (q.length : Int) by omega]; simp [IntKind.wrap, IntKind.bits, IntKind.signed]; omega
      have hq9 : q.length ≤ 140737488351232 := by omega
      have he9 : en ≤ 140737488351232 := by omega
      clear x1 hql2 x3
      by_cases hsh : q.length < su
      · have E : Hid (unp l = (2, [])) := Kit.hid (by
          rw [HU.out]; unfold tail; rw [if_neg (by rw [HER2.out]; decide), ← HSU2.out, if_pos hsh])
        go_wp2
        go_ret2
        exact unp_fail E.out hbw.out
      have y1 : decide (q.length < su) = false := decide_eq_false hsh
      by_cases hta : su < q.length
      · have E : Hid (unp l = (3, [])) := Kit.hid (by
          rw [HU.out]; unfold tail; rw [if_neg (by rw [HER2.out]; decide), ← HSU2.out, if_neg hsh, if_pos hta])
        go_wp2
        go_ret2
        exact unp_fail E.out hbw.out
      have y2 : decide (su < q.length) = false := decide_eq_false hta
      have HQS : Hid (q.length = su) := Kit.hid (by omega)
      have HU2 : Hid (unp l = if checks Es q = false then (4, []) else (0, cut Es q)) := Kit.hid (by
        rw [HU.out]; unfold tail; rw [if_neg (by rw [HER2.out]; decide), ← HSU2.out, if_neg hsh, if_neg hta])
      clear HU HER2
      go_wp2
      obtain ⟨wo, hwo⟩ : ∃ wo, wo = wr := ⟨_, rfl⟩
      rw [← hwo] at hbw ⊢
      clear hwo wr
      have hqq : q.length + (en + 4) = l.length := HQL.out
      have z1 : IntKind.i64.wrap ((en : Int) + 4) = (en : Int) + 4 := by simp [IntKind.wrap, IntKind.bits, IntKind.signed]; omega
      clear hqq
      go_loopw [10, 11, 12] (fun v10 v11 v12 wr => ∃ (j at' : Nat) (ls : List SecM), j ≤ i ∧ v12 = .int .i64 j ∧ v11 = .int .i64 at' ∧ at' ≤ l.length ∧ Hid (at' = en + 4 + total (Es.take j)) ∧ Hid (ls.map SecM.sec = cut (Es.take j) q) ∧ Hid (checks (Es.take j) q = true) ∧ Hid (Uo w wr v10 j ls)) (fun _ _ j _ => i - (intOf j).toNat)
      case atStart =>
        refine ⟨0, en + 4, [], by omega, rfl, by go_num, by have := HQL.out; omega, Kit.hid rfl, Kit.hid rfl, Kit.hid rfl, Kit.hid ⟨?_, rfl, (fun s hs => by cases hs), hbw.out⟩⟩
        exact World.ownsRow_nil _ _ _ _
      case round =>
        obtain ⟨j, at', ls, hj, rfl, rfl, hat, HAT, HLS, HCK, hU⟩ := hrel
        by_cases hlt : j < i
        · obtain ⟨k, a, b, hk, ha, hb8, HCL, HES⟩ := HENT.out j hlt
          obtain ⟨j9, hj9⟩ : ∃ j' : Nat, j' = 9 + 7 * j := ⟨_, rfl⟩
          obtain ⟨j10, hj10⟩ : ∃ j' : Nat, j' = 10 + 7 * j := ⟨_, rfl⟩
          obtain ⟨j11, hj11⟩ : ∃ j' : Nat, j' = 11 + 7 * j := ⟨_, rfl⟩
          obtain ⟨j12, hj12⟩ : ∃ j' : Nat, j' = 12 + 7 * j := ⟨_, rfl⟩
          rw [← hj9, ← hj10, ← hj11] at HCL
          rw [← hj12] at HES
          obtain ⟨_, c10, c11⟩ := HCL.out wr hU.out.bel
          have HNX : Hid (Es.take (j + 1) = Es.take j ++ [⟨k, a + 256 * b, LeM.num ((l.drop j12).take 4)⟩]) := Kit.hid (by
            obtain ⟨h, e⟩ := HES.out
            exact take_next h e.symm)
          have htl : total (Es.take j) + (a + 256 * b) ≤ q.length := by
            have := total_le (E := Es) (j + 1)
            rw [HNX.out, total_app] at this
            simp only [total] at this
            rw [HQS.out, HSU2.out]; omega
          obtain ⟨bd, hbd⟩ : ∃ bd, bd = (l.drop at').take (a + 256 * b) := ⟨_, rfl⟩
          have hbl : bd.length = a + 256 * b := by
            have h1 := HAT.out
            have h2 := HQL.out
            rw [hbd, List.length_take, List.length_drop]; omega
          have hend2 : at' + bd.length ≤ l.length := by
            have h1 := HAT.out
            have h2 := HQL.out
            omega
          have HBQ : Hid (bd = (q.drop (total (Es.take j))).take (a + 256 * b)) := Kit.hid (by rw [HQ.out, List.drop_drop, ← HAT.out]; exact hbd)
          have HBD0 := Kit.hid hbd
          have HBL := Kit.hid hbl
          have hsum : (a : Int) + 256 * (b : Int) = (bd.length : Int) := by omega
          have hbl2 : bd.length ≤ 65535 := by omega
          have q10 : (10 + 7 * (j : Int)) = (j10 : Int) := by omega
          have q11 : (11 + 7 * (j : Int)) = (j11 : Int) := by omega
          have b10 : (j10 : Int) < (l.length : Int) := by omega
          have b11 : (j11 : Int) < (l.length : Int) := by omega
          have z10 : (0 : Int) ≤ (j10 : Int) := by omega
          have z11 : (0 : Int) ≤ (j11 : Int) := by omega
          have r7 : IntKind.i64.wrap (7 * (j : Int)) = 7 * (j : Int) := by simp [IntKind.wrap, IntKind.bits, IntKind.signed]; omega
          have r10 : IntKind.i64.wrap (j10 : Int) = (j10 : Int) := by simp [IntKind.wrap, IntKind.bits, IntKind.signed]; omega
          have r11 : IntKind.i64.wrap (j11 : Int) = (j11 : Int) := by simp [IntKind.wrap, IntKind.bits, IntKind.signed]; omega
          have s1 : IntKind.i64.wrap (a : Int) = (a : Int) := by simp [IntKind.wrap, IntKind.bits, IntKind.signed]; omega
          have s2 : IntKind.i64.wrap (b : Int) = (b : Int) := by simp [IntKind.wrap, IntKind.bits, IntKind.signed]; omega
          have s4 : IntKind.i64.wrap (256 * (b : Int)) = 256 * (b : Int) := by simp [IntKind.wrap, IntKind.bits, IntKind.signed]; omega
          have s5 : IntKind.i64.wrap ((a : Int) + 256 * (b : Int)) = (a : Int) + 256 * (b : Int) := by simp [IntKind.wrap, IntKind.bits, IntKind.signed]; omega
          have HSM := Kit.hid hsum
          have H9 := Kit.hid hj9
          have H12 := Kit.hid hj12
          clear hbd hbl hj9 hj10 hj11 hj12 hsum htl
          go_wp2
          refine wp_region_noPanic ?_
          refine wp_region_held_drew (S := fun w' => w'.cell? (ad.add j10) = some (.int .u8 (a : Int)) ∧ w'.cell? (ad.add j11) = some (.int .u8 (b : Int))) (by kernel_rfl) ⟨c10, c11⟩ (fun hHeld => ?_)
          refine wpAnyH_take (i := 0) (hi := by simp only [List.getElem?_toArray, List.getElem?_cons_succ, List.getElem?_cons_zero]; rfl) (v := ?_) (by kernel_rfl) (by kernel_rfl) (by kernel_rfl) (fun _ _ _ h => h) (Or.inl ⟨by rfl, ?_⟩) (by assumption) ?_
          rotate_left
          · (intro w hSw; (try dsimp only at hSw); go_simp; first | done | with_reducible rfl)
          try simp only [Act.put, List.setIfInBounds_toArray, List.set_cons_zero, List.set_cons_succ]
          refine wpAnyH_take (i := 1) (hi := by simp only [List.getElem?_toArray, List.getElem?_cons_succ, List.getElem?_cons_zero]; rfl) (v := ?_) (by kernel_rfl) (by kernel_rfl) (by kernel_rfl) (fun _ _ _ h => h) (Or.inl ⟨by rfl, ?_⟩) (by assumption) ?_
          rotate_left
          · (intro w hSw; (try dsimp only at hSw); go_simp; first | done | with_reducible rfl)
          try simp only [Act.put, List.setIfInBounds_toArray, List.set_cons_zero, List.set_cons_succ]
          refine wpAnyH_take (i := 2) (hi := by simp only [List.getElem?_toArray, List.getElem?_cons_succ, List.getElem?_cons_zero]; rfl) (v := ?_) (by kernel_rfl) (by kernel_rfl) (by kernel_rfl) (fun _ _ _ h => h) (Or.inl ⟨by rfl, ?_⟩) (by assumption) ?_
          rotate_left
          · (intro w hSw; (try dsimp only at hSw); go_simp; first | done | with_reducible rfl)
          try simp only [Act.put, List.setIfInBounds_toArray, List.set_cons_zero, List.set_cons_succ]
          refine wpAnyH_take (i := 3) (hi := by simp only [List.getElem?_toArray, List.getElem?_cons_succ, List.getElem?_cons_zero]; rfl) (v := ?_) (by kernel_rfl) (by kernel_rfl) (by kernel_rfl) (fun _ _ _ h => h) (Or.inl ⟨by rfl, ?_⟩) (by assumption) ?_
          rotate_left
          · (intro w hSw; (try dsimp only at hSw); go_simp; first | done | with_reducible rfl)
          try simp only [Act.put, List.setIfInBounds_toArray, List.set_cons_zero, List.set_cons_succ]
          refine wpAnyH_take (i := 4) (hi := by simp only [List.getElem?_toArray, List.getElem?_cons_succ, List.getElem?_cons_zero]; rfl) (v := ?_) (by kernel_rfl) (by kernel_rfl) (by kernel_rfl) (fun _ _ _ h => h) (Or.inl ⟨by rfl, ?_⟩) (by assumption) ?_
          rotate_left
          · (intro w hSw; (try dsimp only at hSw); go_simp; first | done | with_reducible rfl)
          try simp only [Act.put, List.setIfInBounds_toArray, List.set_cons_zero, List.set_cons_succ]
          refine wpAnyH_take (i := 5) (hi := by simp only [List.getElem?_toArray, List.getElem?_cons_succ, List.getElem?_cons_zero]; rfl) (v := ?_) (by kernel_rfl) (by kernel_rfl) (by kernel_rfl) (fun _ _ _ h => h) (Or.inl ⟨by rfl, ?_⟩) (by assumption) ?_
          rotate_left
          · (intro w hSw; (try dsimp only at hSw); go_simp; first | done | with_reducible rfl)
          try simp only [Act.put, List.setIfInBounds_toArray, List.set_cons_zero, List.set_cons_succ]
          refine wpAnyH_take (i := 6) (hi := by simp only [List.getElem?_toArray, List.getElem?_cons_succ, List.getElem?_cons_zero]; rfl) (v := ?_) (by kernel_rfl) (by kernel_rfl) (by kernel_rfl) (fun _ _ _ h => h) (Or.inl ⟨by rfl, ?_⟩) (by assumption) ?_
          rotate_left
          · (intro w hSw; (try dsimp only at hSw); go_simp; first | done | with_reducible rfl)
          try simp only [Act.put, List.setIfInBounds_toArray, List.set_cons_zero, List.set_cons_succ]
          refine wpAnyH_take (i := 7) (hi := by simp only [List.getElem?_toArray, List.getElem?_cons_succ, List.getElem?_cons_zero]; rfl) (v := ?_) (by kernel_rfl) (by kernel_rfl) (by kernel_rfl) (fun _ _ _ h => h) (Or.inl ⟨by rfl, ?_⟩) (by assumption) ?_
          rotate_left
          · (intro w hSw; (try dsimp only at hSw); go_simp; first | done | with_reducible rfl)
          try simp only [Act.put, List.setIfInBounds_toArray, List.set_cons_zero, List.set_cons_succ]
          refine wpAnyH_take (i := 8) (hi := by simp only [List.getElem?_toArray, List.getElem?_cons_succ, List.getElem?_cons_zero]; rfl) (v := ?_) (by kernel_rfl) (by kernel_rfl) (by kernel_rfl) (fun _ _ _ h => h) (Or.inl ⟨by rfl, ?_⟩) (by assumption) ?_
          rotate_left
          · (intro w hSw; (try dsimp only at hSw); go_simp; first | done | with_reducible rfl)
          try simp only [Act.put, List.setIfInBounds_toArray, List.set_cons_zero, List.set_cons_succ]
          refine wpAnyH_take (i := 9) (hi := by simp only [List.getElem?_toArray, List.getElem?_cons_succ, List.getElem?_cons_zero]; rfl) (v := ?_) (by kernel_rfl) (by kernel_rfl) (by kernel_rfl) (fun _ _ _ h => h) (Or.inl ⟨by rfl, ?_⟩) (by assumption) ?_
          rotate_left
          · (intro w hSw; (try dsimp only at hSw); go_simp; first | done | with_reducible rfl)
          try simp only [Act.put, List.setIfInBounds_toArray, List.set_cons_zero, List.set_cons_succ]
          refine wpAnyH_take (i := 10) (hi := by simp only [List.getElem?_toArray, List.getElem?_cons_succ, List.getElem?_cons_zero]; rfl) (v := ?_) (by kernel_rfl) (by kernel_rfl) (by kernel_rfl) (fun _ _ _ h => h) (Or.inl ⟨by rfl, ?_⟩) (by assumption) ?_
          rotate_left
          · (intro w hSw; (try dsimp only at hSw); go_simp; first | done | with_reducible rfl)
          try simp only [Act.put, List.setIfInBounds_toArray, List.set_cons_zero, List.set_cons_succ]
          refine wpAnyH_take (i := 11) (hi := by simp only [List.getElem?_toArray, List.getElem?_cons_succ, List.getElem?_cons_zero]; rfl) (v := ?_) (by kernel_rfl) (by kernel_rfl) (by kernel_rfl) (fun _ _ _ h => h) (Or.inl ⟨by rfl, ?_⟩) (by assumption) ?_
          rotate_left
          · (intro w hSw; (try dsimp only at hSw); go_simp; first | done | with_reducible rfl)
          try simp only [Act.put, List.setIfInBounds_toArray, List.set_cons_zero, List.set_cons_succ]
          refine wpAnyH_take (i := 12) (hi := by simp only [List.getElem?_toArray, List.getElem?_cons_succ, List.getElem?_cons_zero]; rfl) (v := ?_) (by kernel_rfl) (by kernel_rfl) (by kernel_rfl) (fun _ _ _ h => h) (Or.inl ⟨by rfl, ?_⟩) (by assumption) ?_
          rotate_left
          · (intro w hSw; (try dsimp only at hSw); go_simp; first | done | with_reducible rfl)
          try simp only [Act.put, List.setIfInBounds_toArray, List.set_cons_zero, List.set_cons_succ]
          refine wpAnyH_take (i := 13) (hi := by simp only [List.getElem?_toArray, List.getElem?_cons_succ, List.getElem?_cons_zero]; rfl) (v := ?_) (by kernel_rfl) (by kernel_rfl) (by kernel_rfl) (fun _ _ _ h => h) (Or.inl ⟨by rfl, ?_⟩) (by assumption) ?_
          rotate_left
          · (intro w hSw; (try dsimp only at hSw); go_simp; first | done | with_reducible rfl)
          try simp only [Act.put, List.setIfInBounds_toArray, List.set_cons_zero, List.set_cons_succ]
          refine wpAnyH_take (i := 14) (hi := by simp only [List.getElem?_toArray, List.getElem?_cons_succ, List.getElem?_cons_zero]; rfl) (v := ?_) (by kernel_rfl) (by kernel_rfl) (by kernel_rfl) (fun _ _ _ h => h) (Or.inl ⟨by rfl, ?_⟩) (by assumption) ?_
          rotate_left
          · (intro w hSw; (try dsimp only at hSw); go_simp; first | done | with_reducible rfl)
          try simp only [Act.put, List.setIfInBounds_toArray, List.set_cons_zero, List.set_cons_succ]
          refine wpAnyH_take (i := 15) (hi := by simp only [List.getElem?_toArray, List.getElem?_cons_succ, List.getElem?_cons_zero]; rfl) (v := ?_) (by kernel_rfl) (by kernel_rfl) (by kernel_rfl) (fun _ _ _ h => h) (Or.inl ⟨by rfl, ?_⟩) (by assumption) ?_
          rotate_left
          · (intro w hSw; (try dsimp only at hSw); go_simp; first | done | with_reducible rfl)
          try simp only [Act.put, List.setIfInBounds_toArray, List.set_cons_zero, List.set_cons_succ]
          refine wpAnyH_take (i := 16) (hi := by simp only [List.getElem?_toArray, List.getElem?_cons_succ, List.getElem?_cons_zero]; rfl) (v := ?_) (by kernel_rfl) (by kernel_rfl) (by kernel_rfl) (fun _ _ _ h => h) (Or.inl ⟨by rfl, ?_⟩) (by assumption) ?_
          rotate_left
          · (intro w hSw; (try dsimp only at hSw); go_simp; first | done | with_reducible rfl)
          try simp only [Act.put, List.setIfInBounds_toArray, List.set_cons_zero, List.set_cons_succ]
          clear hHeld
          refine wpAnyH_done (by kernel_rfl) ?_ _
          refine NoPanic.normal ?_
          rw [HSM.out]
          have hUd := Kit.hid hU.out.drew
          generalize wr.drew = wq at hUd ⊢
          clear hU q10 q11 b10 b11 z10 z11 r10 r11 s1 s2 s4 s5 c10 c11
          have t1 : IntKind.i64.wrap ((at' : Int) + (bd.length : Int)) = (at' : Int) + (bd.length : Int) := by simp [IntKind.wrap, IntKind.bits, IntKind.signed]; omega
          have t2 : (at' : Int) + (bd.length : Int) ≤ (cap : Int) := by omega
          have t3 : (0 : Int) ≤ (at' : Int) := by omega
          have t4 : ((at' : Int) + (bd.length : Int)).toNat = at' + bd.length := by omega
          obtain ⟨A3, hA3⟩ : ∃ A3, (if cap = at' then some ad else some (ad.add at')) = A3 := ⟨_, rfl⟩
          have HA3 := Kit.hid hA3
          go_wp2
          have HA3B : Hid (∀ w', Below w.heap.size w w' → Hid (Bytes w' A3 bd)) := Kit.hid (fun w' h => by
            have h1 := HA3.out
            by_cases hca : cap = at'
            · have : bd = [] := List.length_eq_zero_iff.1 (by omega)
              rw [this]
              exact Kit.hid (fun i hi => by cases hi)
            · rw [if_neg hca] at h1
              rw [← h1, HBD0.out]
              exact Le.bytes_take (Le.bytes_drop (bytes_below hb h) at') _)
          clear hA3 t1 t2 t3 t4
          have hj12 := H12.out
          have le36 : ((l.drop j12).take 4).length = 4 := by rw [List.length_take, List.length_drop]; omega
          have q12 : (12 + 7 * (j : Int)) = (j12 : Int) := by omega
          have q16 : (16 + 7 * (j : Int)) = (j12 : Int) + 4 := by omega
          have r12 : IntKind.i64.wrap (j12 : Int) = (j12 : Int) := by simp [IntKind.wrap, IntKind.bits, IntKind.signed]; omega
          have r16 : IntKind.i64.wrap ((j12 : Int) + 4) = (j12 : Int) + 4 := by simp [IntKind.wrap, IntKind.bits, IntKind.signed]; omega
          have e1 : (j12 : Int) + 4 ≤ (cap : Int) := by omega
          have e2 : (0 : Int) ≤ (j12 : Int) := by omega
          have e3 : (j12 : Int) ≤ (cap : Int) := by omega
          have e6 : ((j12 : Int) + 4).toNat = j12 + 4 := by omega
          have e7 : ¬ cap = j12 := by omega
          have e8 : (0 : Int) ≤ (j12 : Int) + 4 := by omega
          clear hj12
          have HBD36 := Kit.hid (hUd.out.bel.drew)
          have HB36 := Kit.hid ((Below.refl wq.heap.size wq).drew)
          have CK36 := Kit.hid (rcheck_any A3 bd bd.length (cap - at') wq.drew rfl (HA3B.out _ HBD36.out) (by omega))
          have HS36 : Hid (∀ c' A2 cap2 w2, Below wq.drew.heap.size wq.drew w2 → Hid (Bytes w2 A2 (crcD bd)) → Calls Tryd.prog 15 #[.slice A2 4 cap2, .slice (some (ad.add j12)) 4 c'] w2 fun e w' => e = .returned (.bool (decide (crcD bd = (l.drop j12).take 4))) ∧ ∃ n, w' = w2.drewN n) :=
            Kit.hid (fun c' A2 cap2 w2 h1 h2 => by
              have h3 : Hid (Bytes w2 (some (ad.add j12)) ((l.drop j12).take 4)) := bytes_below (Le.bytes_take (Le.bytes_drop hb j12) 4) (HBD36.out.trans (h1.mono HBD36.out.size))
              exact rsame_four A2 _ cap2 _ _ c' w2 (crcD_length _) le36 h2 h3)
          unfold CkPost at CK36
          obtain ⟨r36, hr36⟩ : ∃ r, r = decide (crcD bd = (l.drop j12).take 4) := ⟨_, rfl⟩
          rw [← hr36] at HS36
          have HCK2 : Hid (checks (Es.take (j + 1)) q = r36) := Kit.hid (by
            rw [HNX.out, checks_app, HCK.out, Bool.true_and, hr36, crcD_num le36]
            simp only [checks, Bool.and_true]
            rw [← HBQ.out])
          clear hr36 le36
          refine wp_region_noPanic ?_
          refine wp_region_held_drew (S := fun _ => True) (by kernel_rfl) trivial (fun hHeld => ?_)
          refine wpAnyH_take (i := 0) (hi := by simp only [List.getElem?_toArray, List.getElem?_cons_succ, List.getElem?_cons_zero]; rfl) (v := ?_) (by kernel_rfl) (by kernel_rfl) (by kernel_rfl) (fun _ _ _ h => h) (Or.inl ⟨by rfl, ?_⟩) (by assumption) ?_
          rotate_left
          · (intro w hSw; (try dsimp only at hSw); go_simp; first | done | with_reducible rfl)
          try simp only [Act.put, List.setIfInBounds_toArray, List.set_cons_zero, List.set_cons_succ]
          refine wpAnyH_take (i := 2) (hi := by simp only [List.getElem?_toArray, List.getElem?_cons_succ, List.getElem?_cons_zero]; rfl) (v := ?_) (by kernel_rfl) (by kernel_rfl) (by kernel_rfl) (fun _ _ _ h => h) (Or.inl ⟨by rfl, ?_⟩) (by assumption) ?_
          rotate_left
          · (intro w hSw; (try dsimp only at hSw); go_simp; first | done | with_reducible rfl)
          try simp only [Act.put, List.setIfInBounds_toArray, List.set_cons_zero, List.set_cons_succ]
          refine wpAnyH_take (i := 3) (hi := by simp only [List.getElem?_toArray, List.getElem?_cons_succ, List.getElem?_cons_zero]; rfl) (v := ?_) (by kernel_rfl) (by kernel_rfl) (by kernel_rfl) (fun _ _ _ h => h) (Or.inl ⟨by rfl, ?_⟩) (by assumption) ?_
          rotate_left
          · (intro w hSw; (try dsimp only at hSw); go_simp; first | done | with_reducible rfl)
          try simp only [Act.put, List.setIfInBounds_toArray, List.set_cons_zero, List.set_cons_succ]
          refine wpAnyH_take (i := 4) (hi := by simp only [List.getElem?_toArray, List.getElem?_cons_succ, List.getElem?_cons_zero]; rfl) (v := ?_) (by kernel_rfl) (by kernel_rfl) (by kernel_rfl) (fun _ _ _ h => h) (Or.inl ⟨by rfl, ?_⟩) (by assumption) ?_
          rotate_left
          · (intro w hSw; (try dsimp only at hSw); go_simp; first | done | with_reducible rfl)
          try simp only [Act.put, List.setIfInBounds_toArray, List.set_cons_zero, List.set_cons_succ]
          refine wpAnyH_take (i := 5) (hi := by simp only [List.getElem?_toArray, List.getElem?_cons_succ, List.getElem?_cons_zero]; rfl) (v := ?_) (by kernel_rfl) (by kernel_rfl) (by kernel_rfl) (fun _ _ _ h => h) (Or.inl ⟨by rfl, ?_⟩) (by assumption) ?_
          rotate_left
          · (intro w hSw; (try dsimp only at hSw); go_simp; first | done | with_reducible rfl)
          try simp only [Act.put, List.setIfInBounds_toArray, List.set_cons_zero, List.set_cons_succ]
          refine wpAnyH_take (i := 6) (hi := by simp only [List.getElem?_toArray, List.getElem?_cons_succ, List.getElem?_cons_zero]; rfl) (v := ?_) (by kernel_rfl) (by kernel_rfl) (by kernel_rfl) (fun _ _ _ h => h) (Or.inl ⟨by rfl, ?_⟩) (by assumption) ?_
          rotate_left
          · (intro w hSw; (try dsimp only at hSw); go_simp; first | done | with_reducible rfl)
          try simp only [Act.put, List.setIfInBounds_toArray, List.set_cons_zero, List.set_cons_succ]
          refine wpAnyH_take (i := 7) (hi := by simp only [List.getElem?_toArray, List.getElem?_cons_succ, List.getElem?_cons_zero]; rfl) (v := ?_) (by kernel_rfl) (by kernel_rfl) (by kernel_rfl) (fun _ _ _ h => h) (Or.inl ⟨by rfl, ?_⟩) (by assumption) ?_
          rotate_left
          · (intro w hSw; (try dsimp only at hSw); go_simp; first | done | with_reducible rfl)
          try simp only [Act.put, List.setIfInBounds_toArray, List.set_cons_zero, List.set_cons_succ]
          refine wpAnyH_take (i := 8) (hi := by simp only [List.getElem?_toArray, List.getElem?_cons_succ, List.getElem?_cons_zero]; rfl) (v := ?_) (by kernel_rfl) (by kernel_rfl) (by kernel_rfl) (fun _ _ _ h => h) (Or.inl ⟨by rfl, ?_⟩) (by assumption) ?_
          rotate_left
          · (intro w hSw; (try dsimp only at hSw); go_simp; first | done | with_reducible rfl)
          try simp only [Act.put, List.setIfInBounds_toArray, List.set_cons_zero, List.set_cons_succ]
          refine wpAnyH_take (i := 9) (hi := by simp only [List.getElem?_toArray, List.getElem?_cons_succ, List.getElem?_cons_zero]; rfl) (v := ?_) (by kernel_rfl) (by kernel_rfl) (by kernel_rfl) (fun _ _ _ h => h) (Or.inl ⟨by rfl, ?_⟩) (by assumption) ?_
          rotate_left
          · (intro w hSw; (try dsimp only at hSw); go_simp; first | done | with_reducible rfl)
          try simp only [Act.put, List.setIfInBounds_toArray, List.set_cons_zero, List.set_cons_succ]
          refine wpAnyH_ready (rs := [1]) (by kernel_rfl) (by simp) ?_
          refine AllReadyH.cons (ho := by simp only [List.getElem?_toArray, List.getElem?_cons_succ, List.getElem?_cons_zero]; rfl) (fun K hK => ?_) AllReadyH.nil
          go_simp
          go_at_call 25; (with_reducible refine CK36.out.mono ?_); rintro e w36 ⟨A36, cap36, rfl, hB36, hd36⟩
          go_wp2_with fail
          refine hK.out _ _ ?_ (fun hHeldN => ?_)
          · trivial
          clear hHeld
          have hHeld := hHeldN
          clear hHeldN
          clear hK K
          try simp only [Act.put, List.setIfInBounds_toArray, List.set_cons_zero, List.set_cons_succ]
          refine wpAnyH_ready (rs := [10]) (by kernel_rfl) (by simp) ?_
          refine AllReadyH.cons (ho := by simp only [List.getElem?_toArray, List.getElem?_cons_succ, List.getElem?_cons_zero]; rfl) (fun K hK => ?_) AllReadyH.nil
          go_simp
          go_at_call 15; (with_reducible refine (HS36.out _ A36 cap36 w36 hd36 hB36).mono ?_); rintro e v36 ⟨rfl, n36, rfl⟩
          have hbw36 := Kit.hid (below_drewN (HB36.out.trans (hd36.mono HB36.out.size)) n36)
          go_wp2_with fail
          refine hK.out _ _ ?_ (fun hHeldN => ?_)
          · trivial
          clear hHeld
          have hHeld := hHeldN
          clear hHeldN
          clear hK K
          try simp only [Act.put, List.setIfInBounds_toArray, List.set_cons_zero, List.set_cons_succ]
          refine wpAnyH_take (i := 11) (hi := by simp only [List.getElem?_toArray, List.getElem?_cons_succ, List.getElem?_cons_zero]; rfl) (v := ?_) (by kernel_rfl) (by kernel_rfl) (by kernel_rfl) (fun _ _ _ h => h) (Or.inl ⟨by rfl, ?_⟩) (by assumption) ?_
          rotate_left
          · (intro w hSw; (try dsimp only at hSw); go_simp; first | done | with_reducible rfl)
          try simp only [Act.put, List.setIfInBounds_toArray, List.set_cons_zero, List.set_cons_succ]
          clear hHeld
          refine wpAnyH_done (by kernel_rfl) ?_ _
          refine NoPanic.normal ?_
          clear CK36 HS36 q12 q16 r12 r16 e1 e2 e3 e6 e7 e8
          generalize w36.drewN n36 = wq3 at hbw36 ⊢
          cases r36
          · have E : Hid (unp l = (4, [])) := Kit.hid (by rw [HU2.out, if_pos (checks_bad HCK2.out)])
            go_wp2
            go_ret2
            exact unp_fail E.out (hUd.out.bel.trans (hbw36.out.mono hUd.out.bel.size))
          have hU3 := Kit.hid (hUd.out.below hbw36.out)
          have hj9 := H9.out
          obtain ⟨c9, _, _⟩ := HCL.out wq3 hU3.out.bel
          have q9 : (9 + 7 * (j : Int)) = (j9 : Int) := by omega
          have b9 : (j9 : Int) < (l.length : Int) := by omega
          have z9 : (0 : Int) ≤ (j9 : Int) := by omega
          have r9 : IntKind.i64.wrap (j9 : Int) = (j9 : Int) := by simp [IntKind.wrap, IntKind.bits, IntKind.signed]; omega
          have s0 : IntKind.i64.wrap (k : Int) = (k : Int) := by simp [IntKind.wrap, IntKind.bits, IntKind.signed]; omega
          have t1 : IntKind.i64.wrap ((at' : Int) + (bd.length : Int)) = (at' : Int) + (bd.length : Int) := by simp [IntKind.wrap, IntKind.bits, IntKind.signed]; omega
          have hbA := (Below.refl wq3.heap.size wq3).alloc (Nat.le_refl _) (.cells #[.int .i64 (k : Int), .slice A3 bd.length (cap - at')] 39)
          have hUA := hU3.out.below hbA
          have hlit := litS wq3 ⟨(k : Int), A3, bd, cap - at'⟩
          have hoo := hUA.own
          have hUAs := hUA.bel.size
          clear hj9
          go_wp2_with (at_builtin; refine wpList_append_srcS rfl _ _ 24 rfl w.heap.size 39 (.agg #[.int .i64 0, .slice none 0 0]) 2 32 (by decide) Tryd.underlying24 infoS rfl _ j _ rfl hoo (some ⟨wq3.heap.size, 0, none⟩) 1 1 (flatS [⟨(k : Int), A3, bd, cap - at'⟩]) rfl rfl hlit (flatS_one _) (by unfold maxLen; omega) (by omega) hUAs ?_
                       intro v6 w6 hown6 hg6 hc6)
          have hU6 : Hid (Uo w w6 v6 (j + 1) (ls ++ [⟨(k : Int), A3, bd, cap - at'⟩])) := Kit.hid (hUA.app _ HA3B hown6 hg6)
          clear hown6 hg6 hc6 hoo hUA hlit q9 b9 z9 r9 s0 t1 c9
          go_roundw
          case rel =>
            refine ⟨j + 1, at' + bd.length, _, by omega, by go_num, by go_num, hend2, Kit.hid ?_, Kit.hid ?_, HCK2, hU6⟩
            · rw [HNX.out, total_app, HAT.out]
              simp only [total]
              rw [HBL.out]; omega
            · rw [HNX.out, cut_app, List.map_append, HLS.out]
              simp only [cut, List.map_cons, List.map_nil, SecM.sec]
              rw [← HBQ.out]
          case measure => simp [intOf]; omega
        · obtain rfl : j = i := by omega
          have hem : Es.take j = Es := List.take_of_length_le (by rw [HEL.out]; exact Nat.le_refl _)
          have HCK2 := HCK.out
          have HLS2 := HLS.out
          rw [hem] at HCK2 HLS2
          have E : Hid (unp l = (0, cut Es q)) := Kit.hid (by rw [HU2.out, HCK2, if_neg (by decide)])
          have HL2 := Kit.hid HLS2
          obtain ⟨Ao, capo, hvo, hco, hle, hblk⟩ := own_readsS (by decide) hU.out.own
          subst hvo
          have HS2 := secs_of_cells hco (fun s hs => (hU.out.bs s hs).out wr hU.out.bel)
          have HLEN := Kit.hid hU.out.len
          clear hem HCK2 HLS2 hblk hco
          go_wp2
          go_ret2
          refine ⟨Ao, j, capo, ls, by rw [E.out]; rfl, Kit.hid HLEN.out.symm, Kit.hid (by rw [HL2.out, E.out]), HS2, hle, hm16, hU.out.bel⟩
end Go.Proofs.YtlmbghemlphoaaaDoor.Pa
