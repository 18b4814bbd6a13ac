/- The walk of the table of a parcel. -/
import Derived.Test.YtlmbghemlphoaaaDoorPaJ
import Derived.Test.YtlmbghemlphoaaaDoorHeldT
namespace Go.Proofs.YtlmbghemlphoaaaDoor.Pa
open Go.RowKit Go.Proofs.YtlmbghemlphoaaaDoor.Kit Go.Proofs.YtlmbghemlphoaaaDoor.PaM Go.Proofs.YtlmbghemlphoaaaDoor.Le Go.IntWalk
set_option linter.unusedVariables false
set_option linter.unusedSimpArgs false
def manyOf (l : List (BitVec 8)) : Nat := LeM.num ((l.drop 4).take 1)
def TabPost (w : World) (l : List (BitVec 8)) (e : Ending) (w' : World) : Prop :=
  (tab l ≠ 0 ∧ e = .returned (.tuple #[.slice none 0 0, .pointer none, .int .i64 (tab l)]) ∧ Below w.heap.size w w') ∨
  (tab l = 0 ∧ ∃ (v : Value) (g gb : Nat), e = .returned (.tuple #[v, .pointer (some ⟨g, 0, none⟩), .int .i64 0]) ∧ w'.ownsRow w.heap.size 49 3 v (manyOf l) (flatE (ents (manyOf l) (l.drop 9))) ∧
    Rd w.heap.size w' g gb (l.drop (9 + 7 * manyOf l + 4)) ∧ v.ownBlock ≠ some g ∧ v.ownBlock ≠ some gb ∧ g ≠ gb ∧ Below w.heap.size w w')
theorem tab_bad {w w' : World} {l : List (BitVec 8)} {x : Int} (h : tab l = x) (hx : x ≠ 0) (hb : Below w.heap.size w w') : TabPost w l (.returned (.tuple #[.slice none 0 0, .pointer none, .int .i64 x])) w' :=
  .inl ⟨by rw [h]; exact hx, by rw [h], hb⟩
theorem chk_iff {r x : List (BitVec 8)} (hr : r.length = 4) : LeM.num r = (CrcM.more 0#32 x).toNat ↔ r = crcD x := by
  constructor
  · intro h
    unfold crcD
    rw [← h]
    exact (dig_back hr rfl).symm
  · rintro rfl
    unfold crcD
    rw [LeM.num_dig, Nat.mod_eq_of_lt (crc_lt _)]
theorem ents_snoc : ∀ (m : Nat) (r : List (BitVec 8)), ents (m + 1) r = ents m r ++ [⟨LeM.num ((r.drop (7 * m)).take 1), LeM.num (((r.drop (7 * m)).drop 1).take 2), LeM.num (((r.drop (7 * m)).drop 3).take 4)⟩]
  | 0, r => by simp [ents]
  | m + 1, r => by
    rw [ents, ents_snoc m, ents]
    simp only [List.cons_append, List.drop_drop]
    rw [show 7 + 7 * m = 7 * (m + 1) by omega]
theorem ent_block {w : World} {g : Nat} {x y z : Value} (h : w.heap[g]? = some (.cells #[x, y, z] 49 (0, 0))) :
    w.cell? ⟨g, 0, none⟩ = some x ∧ w.cell? ⟨g, 1, none⟩ = some y ∧ w.cell? ⟨g, 2, none⟩ = some z ∧ w.frozen? ⟨g, 0, none⟩ = false ∧ w.frozen? ⟨g, 1, none⟩ = false ∧ w.frozen? ⟨g, 2, none⟩ = false :=
  ⟨(blk_cell h 0).trans rfl, (blk_cell h 1).trans rfl, (blk_cell h 2).trans rfl, blk_frozen h 0, blk_frozen h 1, blk_frozen h 2⟩
theorem num4_lt (r : List (BitVec 8)) : LeM.num (r.take 4) < 4294967296 := by
  have := LeM.num_lt (r.take 4)
  have h2 : 256 ^ (r.take 4).length ≤ 256 ^ 4 := Nat.pow_le_pow_right (by decide) (by simp; omega)
  omega
set_option maxHeartbeats 8000000 in
theorem table_any (A : Option Addr) (l : List (BitVec 8)) (cap : Nat) (w : World) (hT : Hid (Crc.Tab w)) (hb : Hid (Bytes w A l)) (h9 : 9 ≤ l.length) (hl : l.length ≤ 140737488351232) (hc : l.length ≤ cap) :
    Calls Tryd.prog 20 #[.slice A l.length cap] w (TabPost w l) := by
  have HN := Kit.hid (rd_new A l cap w hb (by omega) hl)
  have OF : Hid (∀ (n : Nat) (cap' : Nat) (w' : World), n ≤ l.length → Hid (Crc.Tab w') → Hid (Bytes w' A l) →
      Calls Tryd.prog 24 #[.slice A n cap'] w' fun e w'' => e = .returned (.int .u32 (CrcM.more 0#32 (l.take n)).toNat) ∧ w' = w'') :=
    Kit.hid (fun n cap' w' h1 h2 h3 => Crc.of_any A (l.take n) n cap' w' h2 (bytes_take h3 n) (by rw [List.length_take]; omega) (by rw [List.length_take]; omega))
  have CB : Hid (∀ b : List (BitVec 8), IntKind.u64.wrap ((CrcM.more 0#32 b).toNat : Int) = ((CrcM.more 0#32 b).toNat : Int)) := Kit.hid (fun b => by have := crc_lt b; simp [IntKind.wrap, IntKind.bits, IntKind.signed]; omega)
  have hm1 : manyOf l ≤ 255 := num_one _
  have HM : Hid (LeM.num ((l.drop 4).take 1) = manyOf l) := Kit.hid rfl
  have HTAB : Hid (tab l = if (l.drop 5).take 4 ≠ crcD (l.take 5) then 4 else if 16 < manyOf l then 7 else if l.length < 9 + 7 * manyOf l + 4 then 2 else if (l.drop (9 + 7 * manyOf l)).take 4 ≠ crcD (l.take (9 + 7 * manyOf l)) then 4 else 0) := Kit.hid rfl
  obtain ⟨m, hm⟩ : ∃ m, m = manyOf l := ⟨_, rfl⟩
  rw [← hm] at HM HTAB hm1
  have HMM := Kit.hid hm
  have rm1 : IntKind.i64.wrap (m : Int) = (m : Int) := i64_in _ (by omega)
  have rm2 : wrap64 (m : Int) = (m : Int) := by unfold wrap64; omega
  have g5 : (5 : Int) ≤ (cap : Int) := by omega
  have g5b : 5 ≤ cap := by omega
  have rc5 := CB.out (l.take 5)
  have HS1 : Hid ((LeM.num ((l.drop 5).take 4) = (CrcM.more 0#32 (l.take 5)).toNat) ↔ (l.drop 5).take 4 = crcD (l.take 5)) := Kit.hid (chk_iff (by simp; omega))
  have hn5 := num4_lt (l.drop 5)
  obtain ⟨n5, hn5'⟩ : ∃ n, n = LeM.num ((l.drop 5).take 4) := ⟨_, rfl⟩
  obtain ⟨c5, hc5'⟩ : ∃ c, c = (CrcM.more 0#32 (l.take 5)).toNat := ⟨_, rfl⟩
  rw [← hn5', ← hc5'] at HS1
  rw [← hc5'] at rc5
  rw [← hn5'] at hn5
  have HN5 := Kit.hid hn5'
  have HC5 := Kit.hid hc5'
  clear hm hn5' hc5'
  go_enter Tryd.func20, Tryd.ntmps20
  go_wp2_with (first
    | (go_at_call 34; (with_reducible refine HN.out.mono ?_); rintro e w1 ⟨g, gb, rfl, hgg, hR1, hb1⟩
       have CP : Hid (Calls Tryd.prog 22 #[.pointer (some ⟨g, 0, none⟩), .int .i64 4] w1 (RdPart w.heap.size w1 g gb l 4)) := Kit.hid (rd_part hR1 4 (by omega) hl))
    | (go_at_call 22; (with_reducible refine CP.out.mono ?_); rintro e w2 ⟨P2, c2, rfl, _, _, _, hR2, hg2⟩
       have hb2 := hb1.grown hg2 hR1.lt_le hR1.own_row
       have CT1 := Kit.hid (rd_take hR2 1 1 rfl (by simp; omega) (by simp; omega)))
    | (go_at_call 35; (with_reducible refine CT1.out.mono ?_); rintro e w3 ⟨rfl, hR3, hg3⟩
       have hb3 := hb2.grown hg3 hR2.lt_le hR2.own_row
       rw [HM.out]))
  have hR3 := Kit.hid hR3
  have hb3 := Kit.hid hb3
  clear hb1 hb2 hR1 hR2 hg2 hg3
  obtain ⟨wc, hwc⟩ : ∃ x, x = w3 := ⟨_, rfl⟩
  subst hwc
  have hR3d : Rd w.heap.size wc.drew g gb ((l.drop 4).drop 1) := hR3.out.below ((Below.refl _ wc).drew)
  have hb3d : Below w.heap.size w wc.drew := hb3.out.drew
  have E5 : (l.drop 4).drop 1 = l.drop 5 := by rw [List.drop_drop]
  rw [E5] at hR3d
  have CT2 := Kit.hid (rd_take hR3d 4 4 rfl (by simp; omega) (by simp; omega))
  clear E5
  have CO5 : Hid (∀ cap' w', Hid (Crc.Tab w') → Hid (Bytes w' A l) → Calls Tryd.prog 24 #[.slice A 5 cap'] w' fun e w'' => e = .returned (.int .u32 c5) ∧ w' = w'') := Kit.hid (fun cap' w' h1 h2 => by rw [HC5.out]; exact OF.out 5 cap' w' (by omega) h1 h2)
  refine wp_region_noPanic ?_
  refine wp_region_held_drew (S := fun _ => True) (by kernel_rfl) trivial (fun hHeld => ?_)
  refine wpAnyH_take (i := 0) (hi := by simp only [List.getElem?_toArray, List.getElem?_cons_succ, List.getElem?_cons_zero]; rfl) (v := ?_) (by kernel_rfl) (by kernel_rfl) (by kernel_rfl) (fun _ _ _ h => h) (Or.inl ⟨by rfl, ?_⟩) (by assumption) ?_
  rotate_left
  · (intro w hSw; (try dsimp only at hSw); go_simp; first | done | with_reducible rfl)
  try simp only [Act.put, List.setIfInBounds_toArray, List.set_cons_zero, List.set_cons_succ]
  refine wpAnyH_take (i := 2) (hi := by simp only [List.getElem?_toArray, List.getElem?_cons_succ, List.getElem?_cons_zero]; rfl) (v := ?_) (by kernel_rfl) (by kernel_rfl) (by kernel_rfl) (fun _ _ _ h => h) (Or.inl ⟨by rfl, ?_⟩) (by assumption) ?_
  rotate_left
  · (intro w hSw; (try dsimp only at hSw); go_simp; first | done | with_reducible rfl)
  try simp only [Act.put, List.setIfInBounds_toArray, List.set_cons_zero, List.set_cons_succ]
  refine wpAnyH_take (i := 3) (hi := by simp only [List.getElem?_toArray, List.getElem?_cons_succ, List.getElem?_cons_zero]; rfl) (v := ?_) (by kernel_rfl) (by kernel_rfl) (by kernel_rfl) (fun _ _ _ h => h) (Or.inl ⟨by rfl, ?_⟩) (by assumption) ?_
  rotate_left
  · (intro w hSw; (try dsimp only at hSw); go_simp; first | done | with_reducible rfl)
  try simp only [Act.put, List.setIfInBounds_toArray, List.set_cons_zero, List.set_cons_succ]
  refine wpAnyH_ready (rs := [1]) (by kernel_rfl) (by simp) ?_
  refine AllReadyH.cons (ho := by simp only [List.getElem?_toArray, List.getElem?_cons_succ, List.getElem?_cons_zero]; rfl) (fun K hK => ?_) AllReadyH.nil
  go_simp
  first
    | (go_at_call 35; (with_reducible refine CT2.out.mono ?_); rintro e w4 ⟨he4, hR4, hg4⟩; rw [← HN5.out] at he4; subst he4; have hR4 := Kit.hid hR4; have hb4 := Kit.hid (hb3d.grown hg4 hR3d.lt_le hR3d.own_row); have CO := Kit.hid (CO5.out cap w4 (Crc.tab_below hT hb4.out) (bytes_below hb hb4.out)))
    | (go_at_call 24; (with_reducible refine CO.out.mono ?_); rintro e w5 ⟨rfl, rfl⟩)
  go_wp2_with fail
  refine hK.out _ _ ?_ (fun hHeldN => ?_)
  · exact trivial
  clear hHeld
  have hHeld := hHeldN
  clear hHeldN
  clear hK K
  try simp only [Act.put, List.setIfInBounds_toArray, List.set_cons_zero, List.set_cons_succ]
  refine wpAnyH_ready (rs := [4]) (by kernel_rfl) (by simp) ?_
  refine AllReadyH.cons (ho := by simp only [List.getElem?_toArray, List.getElem?_cons_succ, List.getElem?_cons_zero]; rfl) (fun K hK => ?_) AllReadyH.nil
  go_simp
  first
    | (go_at_call 35; (with_reducible refine CT2.out.mono ?_); rintro e w4 ⟨he4, hR4, hg4⟩; rw [← HN5.out] at he4; subst he4; have hR4 := Kit.hid hR4; have hb4 := Kit.hid (hb3d.grown hg4 hR3d.lt_le hR3d.own_row); have CO := Kit.hid (CO5.out cap w4 (Crc.tab_below hT hb4.out) (bytes_below hb hb4.out)))
    | (go_at_call 24; (with_reducible refine CO.out.mono ?_); rintro e w5 ⟨rfl, rfl⟩)
  go_wp2_with fail
  refine hK.out _ _ ?_ (fun hHeldN => ?_)
  · exact trivial
  clear hHeld
  have hHeld := hHeldN
  clear hHeldN
  clear hK K
  try simp only [Act.put, List.setIfInBounds_toArray, List.set_cons_zero, List.set_cons_succ]
  refine wpAnyH_take (i := 5) (hi := by simp only [List.getElem?_toArray, List.getElem?_cons_succ, List.getElem?_cons_zero]; rfl) (v := ?_) (by kernel_rfl) (by kernel_rfl) (by kernel_rfl) (fun _ _ _ h => h) (Or.inl ⟨by rfl, ?_⟩) (by assumption) ?_
  rotate_left
  · (intro w hSw; (try dsimp only at hSw); go_simp; first | done | with_reducible rfl)
  try simp only [Act.put, List.setIfInBounds_toArray, List.set_cons_zero, List.set_cons_succ]
  refine wpAnyH_take (i := 6) (hi := by simp only [List.getElem?_toArray, List.getElem?_cons_succ, List.getElem?_cons_zero]; rfl) (v := ?_) (by kernel_rfl) (by kernel_rfl) (by kernel_rfl) (fun _ _ _ h => h) (Or.inl ⟨by rfl, ?_⟩) (by assumption) ?_
  rotate_left
  · (intro w hSw; (try dsimp only at hSw); go_simp; first | done | with_reducible rfl)
  try simp only [Act.put, List.setIfInBounds_toArray, List.set_cons_zero, List.set_cons_succ]
  refine wpAnyH_take (i := 7) (hi := by simp only [List.getElem?_toArray, List.getElem?_cons_succ, List.getElem?_cons_zero]; rfl) (v := ?_) (by kernel_rfl) (by kernel_rfl) (by kernel_rfl) (fun _ _ _ h => h) (Or.inl ⟨by rfl, ?_⟩) (by assumption) ?_
  rotate_left
  · (intro w hSw; (try dsimp only at hSw); go_simp; first | done | with_reducible rfl)
  try simp only [Act.put, List.setIfInBounds_toArray, List.set_cons_zero, List.set_cons_succ]
  clear hHeld
  refine wpAnyH_done (by kernel_rfl) ?_ _
  refine NoPanic.normal ?_
  clear CT2 hR3d hb3d hg4
  by_cases hq : n5 = c5
  case neg =>
    have E : Hid (tab l = 4) := Kit.hid (by rw [HTAB.out, if_pos (fun h => hq (HS1.out.2 h))])
    have q1 : ((n5 : Int) != (c5 : Int)) = true := by simp; omega
    have q2 : ((n5 : Int) == (c5 : Int)) = false := by simp; omega
    have q3 : (n5 != c5) = true := by simp [hq]
    have q4 : (n5 == c5) = false := by simp [hq]
    go_wp2_with fail
    go_ret3
    exact tab_bad E.out (by decide) hb4.out
  have HQ : Hid ((l.drop 5).take 4 = crcD (l.take 5)) := Kit.hid (HS1.out.1 hq)
  have q1 : ((n5 : Int) != (c5 : Int)) = false := by simp; omega
  have q2 : ((n5 : Int) == (c5 : Int)) = true := by simp; omega
  have q3 : (n5 != c5) = false := by simp [hq]
  have q4 : (n5 == c5) = true := by simp [hq]
  clear hq
  by_cases h16 : 16 < m
  · have E : Hid (tab l = 7) := Kit.hid (by rw [HTAB.out, if_neg (fun h => h HQ.out), if_pos h16])
    have p1 : (16 : Int) < (m : Int) := by omega
    go_wp2_with fail
    go_ret3
    exact tab_bad E.out (by decide) hb4.out
  have p1 : ¬ (16 : Int) < (m : Int) := by omega
  have p1b : decide ((16 : Int) < (m : Int)) = false := decide_eq_false p1
  have p1c : decide (16 < m) = false := decide_eq_false h16
  have r7 : IntKind.i64.wrap (7 * (m : Int)) = 7 * (m : Int) := i64_in _ (by omega)
  have r7b : wrap64 (7 * (m : Int)) = 7 * (m : Int) := by unfold wrap64; omega
  have r8 : IntKind.i64.wrap (9 + 7 * (m : Int)) = 9 + 7 * (m : Int) := i64_in _ (by omega)
  have r8b : wrap64 (9 + 7 * (m : Int)) = 9 + 7 * (m : Int) := by unfold wrap64; omega
  have r9 : IntKind.i64.wrap (9 + 7 * (m : Int) + 4) = 9 + 7 * (m : Int) + 4 := i64_in _ (by omega)
  have r9b : wrap64 (9 + 7 * (m : Int) + 4) = 9 + 7 * (m : Int) + 4 := by unfold wrap64; omega
  by_cases hsh : l.length < 9 + 7 * m + 4
  · have E : Hid (tab l = 2) := Kit.hid (by rw [HTAB.out, if_neg (fun h => h HQ.out), if_neg h16, if_pos hsh])
    have p2 : (l.length : Int) < 9 + 7 * (m : Int) + 4 := by omega
    go_wp2_with fail
    go_ret3
    exact tab_bad E.out (by decide) hb4.out
  have p2 : ¬ (l.length : Int) < 9 + 7 * (m : Int) + 4 := by omega
  have p2b : decide ((l.length : Int) < 9 + 7 * (m : Int) + 4) = false := decide_eq_false p2
  have hE0 : Hid (Rd w.heap.size w4 g gb (l.drop (9 + 7 * 0))) := Kit.hid (by have := hR4.out; rw [List.drop_drop] at this; exact this)
  go_wp2_with fail
  go_loopw [8, 37] (fun v8 v37 wr => ∃ (i : Nat) (va : Value), i ≤ m ∧ va = v8 ∧ v37 = .int .i64 i ∧ Hid (wr.ownsRow w.heap.size 49 3 va i (flatE (ents i (l.drop 9)))) ∧ Hid (Rd w.heap.size wr g gb (l.drop (9 + 7 * i))) ∧
    Hid (va.ownBlock ≠ some g ∧ va.ownBlock ≠ some gb) ∧ Hid (Below w.heap.size w wr)) (fun _ i _ => m - (intOf i).toNat)
  case atStart => exact ⟨0, _, by omega, rfl, rfl, Kit.hid (World.ownsRow_nil _ _ _ _), hE0, Kit.hid ⟨(fun e => by cases e), fun e => by cases e⟩, hb4⟩
  case round =>
    obtain ⟨i, va, hi, rfl, rfl, ho, hR, hne, hbw⟩ := hrel
    by_cases hlt : i < m
    · obtain ⟨q, hq⟩ : ∃ q, q = l.drop (9 + 7 * i) := ⟨_, rfl⟩
      have hql : 11 ≤ q.length := by rw [hq, List.length_drop]; omega
      have hqm : q.length ≤ 140737488351232 := by rw [hq, List.length_drop]; omega
      have HENT := ents_snoc i (l.drop 9)
      rw [List.drop_drop, ← hq] at HENT
      have HQ7 : Hid ((((q.drop 1).drop 2).drop 4) = l.drop (9 + 7 * (i + 1))) := Kit.hid (by rw [hq, List.drop_drop, List.drop_drop, List.drop_drop]; congr 1)
      have e3 : (q.drop 1).drop 2 = q.drop 3 := by rw [List.drop_drop]
      rw [← hq] at hR
      have n1 := num_one q
      have n2 := num_two (q.drop 1)
      have n3 := num4_lt (q.drop 3)
      obtain ⟨k1, hk1⟩ : ∃ k, k = LeM.num (q.take 1) := ⟨_, rfl⟩
      obtain ⟨k2, hk2⟩ : ∃ k, k = LeM.num ((q.drop 1).take 2) := ⟨_, rfl⟩
      obtain ⟨k3, hk3⟩ : ∃ k, k = LeM.num ((q.drop 3).take 4) := ⟨_, rfl⟩
      rw [← hk1, ← hk2, ← hk3] at HENT
      rw [← hk1] at n1
      rw [← hk2] at n2
      rw [← hk3] at n3
      have HENT := Kit.hid HENT
      have HK1 := Kit.hid hk1
      have HK2 := Kit.hid hk2
      have HK3 := Kit.hid hk3
      have HE3 := Kit.hid e3
      have rk1 : IntKind.i64.wrap (k1 : Int) = (k1 : Int) := i64_in _ (by omega)
      have rk2 : IntKind.i64.wrap (k2 : Int) = (k2 : Int) := i64_in _ (by omega)
      have hgl := hR.out.lt
      have hgbl := hR.out.ltb
      have hva : va.ownBlock ≠ some wr.heap.size := fun e => by have := (ho.out.lt _ e).2; omega
      have hg9 : Hid (g ≠ wr.heap.size ∧ gb ≠ wr.heap.size) := Kit.hid ⟨by omega, by omega⟩
      have hbA := (Below.refl wr.heap.size wr).alloc (Nat.le_refl _) (.cells #[.int .i64 0, .int .i64 0, .int .u64 0] 49)
      have hRq := hR.out.below hbA
      have hoq := Kit.hid (own_belowS ho.out hbA)
      have hLq := Kit.hid (blk_new wr (.cells #[.int .i64 0, .int .i64 0, .int .u64 0] 49))
      have hbq := Kit.hid (hbw.out.alloc hbw.out.size (.cells #[.int .i64 0, .int .i64 0, .int .u64 0] 49))
      have CT1 := Kit.hid (rd_take hRq 1 1 rfl (by omega) hqm)
      have HG9 : Hid (w.heap.size ≤ wr.heap.size) := Kit.hid hbw.out.size
      clear hq hk1 hk2 hk3 e3 hR ho hbw hgl hgbl
      go_wp2_with (first
        | (go_at_call 35; (with_reducible refine CT1.out.mono ?_); rintro e w2 ⟨he2, hR2, hg2⟩
           rw [← HK1.out] at he2
           subst he2
           have hL2 := blk_grown hLq.out hg2 (fun e => hg9.out.1 (Option.some.inj e))
           have ho2 := own_keptS hoq.out hg2 (.inr hne.out.1)
           have hb2 := hbq.out.grown hg2 hbq.out.size (fun k e => by cases e; exact hR2.own)
           obtain ⟨f0, f1, f2, z0, z1, z2⟩ := ent_block hL2
           have hL2s := blk_put hL2 0 (.int .i64 (k1 : Int)) (cs' := #[.int .i64 (k1 : Int), .int .i64 0, .int .u64 0]) rfl
           have hG2 : w2.grownBy (w2.setCell ⟨wr.heap.size, 0, none⟩ (.int .i64 (k1 : Int))) (some wr.heap.size) := grown_set _
           have hR2s := hR2.grown hG2 (fun e => hg9.out.1 (Option.some.inj e).symm) (fun e => hg9.out.2 (Option.some.inj e).symm)
           have ho2s := own_keptS ho2 hG2 (.inr hva)
           have hb2s := hb2.grown hG2 hb2.size (fun k e => by cases e; exact HG9.out)
           have CT2 := Kit.hid (rd_take hR2s 2 2 rfl (by simp; omega) (by simp; omega)))
        | (go_at_call 35; (with_reducible refine CT2.out.mono ?_); rintro e w3 ⟨he3, hR3, hg3⟩
           rw [← HK2.out] at he3
           subst he3
           have hL3 := blk_grown hL2s hg3 (fun e => hg9.out.1 (Option.some.inj e))
           have ho3 := own_keptS ho2s hg3 (.inr hne.out.1)
           have hb3 := hb2s.grown hg3 hb2s.size (fun k e => by cases e; exact hR3.own)
           obtain ⟨f0, f1, f2, z0, z1, z2⟩ := ent_block hL3
           have hL3s := blk_put hL3 1 (.int .i64 (k2 : Int)) (cs' := #[.int .i64 (k1 : Int), .int .i64 (k2 : Int), .int .u64 0]) rfl
           have hG3 : w3.grownBy (w3.setCell ⟨wr.heap.size, 1, none⟩ (.int .i64 (k2 : Int))) (some wr.heap.size) := grown_set _
           have hR3s := hR3.grown hG3 (fun e => hg9.out.1 (Option.some.inj e).symm) (fun e => hg9.out.2 (Option.some.inj e).symm)
           have ho3s := own_keptS ho3 hG3 (.inr hva)
           have hb3s := hb3.grown hG3 hb3.size (fun k e => by cases e; exact HG9.out)
           have CT3 := Kit.hid (rd_take hR3s 4 4 rfl (by simp; omega) (by simp; omega)))
        | (go_at_call 35; (with_reducible refine CT3.out.mono ?_); rintro e w4 ⟨he4, hR4, hg4⟩
           rw [HE3.out, ← HK3.out] at he4
           subst he4
           have hL4 := blk_grown hL3s hg4 (fun e => hg9.out.1 (Option.some.inj e))
           have ho4 := own_keptS ho3s hg4 (.inr hne.out.1)
           have hb4 := hb3s.grown hg4 hb3s.size (fun k e => by cases e; exact hR4.own)
           obtain ⟨f0, f1, f2, z0, z1, z2⟩ := ent_block hL4
           have hL4s := blk_put hL4 2 (.int .u64 (k3 : Int)) (cs' := #[.int .i64 (k1 : Int), .int .i64 (k2 : Int), .int .u64 (k3 : Int)]) rfl
           have hG4 : w4.grownBy (w4.setCell ⟨wr.heap.size, 2, none⟩ (.int .u64 (k3 : Int))) (some wr.heap.size) := grown_set _
           have hR4s := hR4.grown hG4 (fun e => hg9.out.1 (Option.some.inj e).symm) (fun e => hg9.out.2 (Option.some.inj e).symm)
           have ho4s := own_keptS ho4 hG4 (.inr hva)
           have hb4s := hb4.grown hG4 hb4.size (fun k e => by cases e; exact HG9.out)
           obtain ⟨s0, s1, s2, _, _, _⟩ := ent_block hL4s
           have hlit := litE (w4.setCell ⟨wr.heap.size, 2, none⟩ (.int .u64 (k3 : Int))) ⟨k1, k2, k3⟩
           have hsz4 : (w4.setCell ⟨wr.heap.size, 2, none⟩ (.int .u64 (k3 : Int))).heap.size = w4.heap.size := by simp
           rw [hsz4] at hlit
           have hbL := (Below.refl _ (w4.setCell ⟨wr.heap.size, 2, none⟩ (.int .u64 (k3 : Int)))).alloc (Nat.le_refl _) (.cells #[.int .i64 (k1 : Int), .int .i64 (k2 : Int), .int .u64 (k3 : Int)] 49)
           have ho5 := own_belowS ho4s hbL
           have hR5 := hR4s.below hbL
           have hb5 := hb4s.trans (hbL.mono hb4s.size))
        | (at_builtin; refine wpList_append_srcS rfl _ _ 43 rfl w.heap.size 49 (.agg #[.int .i64 0, .int .i64 0, .int .u64 0]) 3 24 (by decide) Tryd.underlying43 infoE rfl va i _ rfl ho5 (some ⟨w4.heap.size, 0, none⟩) 1 1 (flatE [⟨k1, k2, k3⟩]) rfl rfl hlit (flatE_one _) (by unfold maxLen; omega) (by omega) hb5.size ?_
           intro v6 w6 hown6 hg6 hc6))
      have hR6 := hR5.grown hg6 hne.out.1 hne.out.2
      have hne6 : v6.ownBlock ≠ some g ∧ v6.ownBlock ≠ some gb := by
        rcases hc6 with h | h
        · rw [h]; exact hne.out
        · rw [h]
          have h1 := hR5.lt
          have h2 := hR5.ltb
          exact ⟨fun e => (by cases e; omega), fun e => (by cases e; omega)⟩
      have hb6 := Kit.hid (below_ownS hb5 ho5 hg6 hb5.size)
      have hown7 : Hid (w6.ownsRow w.heap.size 49 3 v6 (i + 1) (flatE (ents (i + 1) (l.drop 9)))) := Kit.hid (by rw [HENT.out, flatE_append]; exact hown6)
      rw [HQ7.out] at hR6
      have hR6 := Kit.hid hR6
      have hne6 := Kit.hid hne6
      clear hown6 hg6 hc6 ho5 hR5 hb5 hb4s ho4s hR4s hlit hbL
      go_roundw
      case rel => exact ⟨i + 1, _, by omega, rfl, by go_num, hown7, hR6, hne6, hb6⟩
      case measure => simp [intOf]; omega
    · obtain rfl : i = m := by omega
      obtain ⟨E, hE⟩ : ∃ E, E = 9 + 7 * i := ⟨_, rfl⟩
      have hEi : (9 : Int) + 7 * (i : Int) = (E : Int) := by omega
      have hn9 := num4_lt (l.drop E)
      have hr9 : ((l.drop E).take 4).length = 4 := by simp; omega
      have HS9 : Hid ((LeM.num ((l.drop E).take 4) = (CrcM.more 0#32 (l.take E)).toNat) ↔ (l.drop E).take 4 = crcD (l.take E)) := Kit.hid (chk_iff hr9)
      have rc9 := CB.out (l.take E)
      obtain ⟨n9, hn9'⟩ : ∃ n, n = LeM.num ((l.drop E).take 4) := ⟨_, rfl⟩
      obtain ⟨c9, hc9'⟩ : ∃ c, c = (CrcM.more 0#32 (l.take E)).toNat := ⟨_, rfl⟩
      rw [← hn9', ← hc9'] at HS9
      rw [← hc9'] at rc9
      rw [← hn9'] at hn9
      have HN9 := Kit.hid hn9'
      have HC9 := Kit.hid hc9'
      rw [← hE] at HTAB hR
      have s1 : (0 : Int) ≤ (E : Int) := by omega
      have s2 : (E : Int) ≤ (cap : Int) := by omega
      have s3 : E ≤ cap := by omega
      have hEl : E + 4 ≤ l.length := by omega
      have HEE := Kit.hid hE
      rw [hEi]
      clear hn9' hc9' hr9 hE hEi
      go_wp2_with fail
      obtain ⟨wc, hwc⟩ : ∃ x, x = wr := ⟨_, rfl⟩
      subst hwc
      have hRd : Rd w.heap.size wc.drew g gb (l.drop E) := hR.out.below ((Below.refl _ wc).drew)
      have hbd : Below w.heap.size w wc.drew := hbw.out.drew
      have hod := own_belowS ho.out ((Below.refl _ wc).drew)
      have CT2 := Kit.hid (rd_take hRd 4 4 rfl (by simp; omega) (by simp; omega))
      have CO9 : Hid (∀ cap' w', Hid (Crc.Tab w') → Hid (Bytes w' A l) → Calls Tryd.prog 24 #[.slice A E cap'] w' fun e w'' => e = .returned (.int .u32 c9) ∧ w' = w'') := Kit.hid (fun cap' w' h1 h2 => by rw [HC9.out]; exact OF.out E cap' w' (by omega) h1 h2)
      refine wp_region_noPanic ?_
      refine wp_region_held_drew (S := fun _ => True) (by kernel_rfl) trivial (fun hHeld => ?_)
      refine wpAnyH_take (i := 0) (hi := by simp only [List.getElem?_toArray, List.getElem?_cons_succ, List.getElem?_cons_zero]; rfl) (v := ?_) (by kernel_rfl) (by kernel_rfl) (by kernel_rfl) (fun _ _ _ h => h) (Or.inl ⟨by rfl, ?_⟩) (by assumption) ?_
      rotate_left
      · (intro w hSw; (try dsimp only at hSw); go_simp; first | done | with_reducible rfl)
      try simp only [Act.put, List.setIfInBounds_toArray, List.set_cons_zero, List.set_cons_succ]
      refine wpAnyH_take (i := 2) (hi := by simp only [List.getElem?_toArray, List.getElem?_cons_succ, List.getElem?_cons_zero]; rfl) (v := ?_) (by kernel_rfl) (by kernel_rfl) (by kernel_rfl) (fun _ _ _ h => h) (Or.inl ⟨by rfl, ?_⟩) (by assumption) ?_
      rotate_left
      · (intro w hSw; (try dsimp only at hSw); go_simp; first | done | with_reducible rfl)
      try simp only [Act.put, List.setIfInBounds_toArray, List.set_cons_zero, List.set_cons_succ]
      refine wpAnyH_take (i := 3) (hi := by simp only [List.getElem?_toArray, List.getElem?_cons_succ, List.getElem?_cons_zero]; rfl) (v := ?_) (by kernel_rfl) (by kernel_rfl) (by kernel_rfl) (fun _ _ _ h => h) (Or.inl ⟨by rfl, ?_⟩) (by assumption) ?_
      rotate_left
      · (intro w hSw; (try dsimp only at hSw); go_simp; first | done | with_reducible rfl)
      try simp only [Act.put, List.setIfInBounds_toArray, List.set_cons_zero, List.set_cons_succ]
      refine wpAnyH_take (i := 4) (hi := by simp only [List.getElem?_toArray, List.getElem?_cons_succ, List.getElem?_cons_zero]; rfl) (v := ?_) (by kernel_rfl) (by kernel_rfl) (by kernel_rfl) (fun _ _ _ h => h) (Or.inl ⟨by rfl, ?_⟩) (by assumption) ?_
      rotate_left
      · (intro w hSw; (try dsimp only at hSw); go_simp; first | done | with_reducible rfl)
      try simp only [Act.put, List.setIfInBounds_toArray, List.set_cons_zero, List.set_cons_succ]
      refine wpAnyH_ready (rs := [1]) (by kernel_rfl) (by simp) ?_
      refine AllReadyH.cons (ho := by simp only [List.getElem?_toArray, List.getElem?_cons_succ, List.getElem?_cons_zero]; rfl) (fun K hK => ?_) AllReadyH.nil
      go_simp
      first
        | (go_at_call 35; (with_reducible refine CT2.out.mono ?_); rintro e w7 ⟨he7, hR7, hg7⟩; rw [← HN9.out] at he7; subst he7; have hR7 := Kit.hid hR7; have hb7 := Kit.hid (hbd.grown hg7 hRd.lt_le hRd.own_row); have CO := Kit.hid (CO9.out cap w7 (Crc.tab_below hT hb7.out) (bytes_below hb hb7.out)))
        | (go_at_call 24; (with_reducible refine CO.out.mono ?_); rintro e w8 ⟨rfl, rfl⟩)
      go_wp2_with fail
      refine hK.out _ _ ?_ (fun hHeldN => ?_)
      · exact trivial
      clear hHeld
      have hHeld := hHeldN
      clear hHeldN
      clear hK K
      try simp only [Act.put, List.setIfInBounds_toArray, List.set_cons_zero, List.set_cons_succ]
      refine wpAnyH_ready (rs := [5]) (by kernel_rfl) (by simp) ?_
      refine AllReadyH.cons (ho := by simp only [List.getElem?_toArray, List.getElem?_cons_succ, List.getElem?_cons_zero]; rfl) (fun K hK => ?_) AllReadyH.nil
      go_simp
      first
        | (go_at_call 35; (with_reducible refine CT2.out.mono ?_); rintro e w7 ⟨he7, hR7, hg7⟩; rw [← HN9.out] at he7; subst he7; have hR7 := Kit.hid hR7; have hb7 := Kit.hid (hbd.grown hg7 hRd.lt_le hRd.own_row); have CO := Kit.hid (CO9.out cap w7 (Crc.tab_below hT hb7.out) (bytes_below hb hb7.out)))
        | (go_at_call 24; (with_reducible refine CO.out.mono ?_); rintro e w8 ⟨rfl, rfl⟩)
      go_wp2_with fail
      refine hK.out _ _ ?_ (fun hHeldN => ?_)
      · exact trivial
      clear hHeld
      have hHeld := hHeldN
      clear hHeldN
      clear hK K
      try simp only [Act.put, List.setIfInBounds_toArray, List.set_cons_zero, List.set_cons_succ]
      refine wpAnyH_take (i := 6) (hi := by simp only [List.getElem?_toArray, List.getElem?_cons_succ, List.getElem?_cons_zero]; rfl) (v := ?_) (by kernel_rfl) (by kernel_rfl) (by kernel_rfl) (fun _ _ _ h => h) (Or.inl ⟨by rfl, ?_⟩) (by assumption) ?_
      rotate_left
      · (intro w hSw; (try dsimp only at hSw); go_simp; first | done | with_reducible rfl)
      try simp only [Act.put, List.setIfInBounds_toArray, List.set_cons_zero, List.set_cons_succ]
      refine wpAnyH_take (i := 7) (hi := by simp only [List.getElem?_toArray, List.getElem?_cons_succ, List.getElem?_cons_zero]; rfl) (v := ?_) (by kernel_rfl) (by kernel_rfl) (by kernel_rfl) (fun _ _ _ h => h) (Or.inl ⟨by rfl, ?_⟩) (by assumption) ?_
      rotate_left
      · (intro w hSw; (try dsimp only at hSw); go_simp; first | done | with_reducible rfl)
      try simp only [Act.put, List.setIfInBounds_toArray, List.set_cons_zero, List.set_cons_succ]
      clear hHeld
      refine wpAnyH_done (by kernel_rfl) ?_ _
      refine NoPanic.normal ?_
      have E7 : Hid (l.drop (E + 4) = l.drop (9 + 7 * i + 4)) := Kit.hid (by rw [HEE.out])
      have ho7 := own_keptS hod hg7 (.inr hne.out.1)
      clear CT2 CO hRd hbd hod hg7
      by_cases hq : n9 = c9
      case neg =>
        have ET : Hid (tab l = 4) := Kit.hid (by rw [HTAB.out, if_neg (fun h => h HQ.out), if_neg h16, if_neg (by omega), if_pos (fun h => hq (HS9.out.2 h))])
        have t1 : ((n9 : Int) != (c9 : Int)) = true := by simp; omega
        have t2 : ((n9 : Int) == (c9 : Int)) = false := by simp; omega
        have t3 : (n9 != c9) = true := by simp [hq]
        have t4 : (n9 == c9) = false := by simp [hq]
        go_wp2_with fail
        go_ret3
        exact tab_bad ET.out (by decide) hb7.out
      have ET : Hid (tab l = 0) := Kit.hid (by rw [HTAB.out, if_neg (fun h => h HQ.out), if_neg h16, if_neg (by omega), if_neg (fun h => h (HS9.out.1 hq))])
      have t1 : ((n9 : Int) != (c9 : Int)) = false := by simp; omega
      have t2 : ((n9 : Int) == (c9 : Int)) = true := by simp; omega
      have t3 : (n9 != c9) = false := by simp [hq]
      have t4 : (n9 == c9) = true := by simp [hq]
      clear hq
      have hR8 := hR7.out
      rw [List.drop_drop, E7.out] at hR8
      have hR8 := Kit.hid hR8
      have ho7 := Kit.hid ho7
      go_wp2_with fail
      go_ret3
      refine .inr ⟨ET.out, va, g, gb, rfl, ?_, ?_, hne.out.1, hne.out.2, hgg, hb7.out⟩
      · rw [← HMM.out]
        exact ho7.out
      · rw [← HMM.out]
        exact hR8.out
end Go.Proofs.YtlmbghemlphoaaaDoor.Pa
