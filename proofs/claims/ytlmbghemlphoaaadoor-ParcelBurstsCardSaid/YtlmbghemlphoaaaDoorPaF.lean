/- The walk of Pack. -/
import Derived.Test.YtlmbghemlphoaaaDoorPaE
import Derived.Test.YtlmbghemlphoaaaDoorPaG
import Derived.Lib.SlBytesConst
import Derived.Lib.SmallJoins
import Derived.OwnWalk
namespace Go.Proofs.YtlmbghemlphoaaaDoor.Pa
open Go.RowKit Go.Proofs.YtlmbghemlphoaaaDoor.Kit Go.Proofs.YtlmbghemlphoaaaDoor.PaM Go.IntWalk
set_option linter.unusedVariables false
set_option linter.unusedSimpArgs false
def packed (l : List SecM) : List (BitVec 8) := if wrongM l = 0 then img (l.map SecM.sec) else []
def PackPost (w : World) (l : List SecM) (e : Ending) (w' : World) : Prop :=
  ∃ (A : Option Addr) (cap : Nat), e = .returned (.tuple #[.slice A (packed l).length cap, .int .i64 (wrongM l)]) ∧ Hid (Bytes w' A (packed l)) ∧ (packed l).length ≤ cap ∧ Below w.heap.size w w'
theorem packed_bad {l : List SecM} {x : Int} (h : wrongM l = x) (hx : x ≠ 0) : packed l = [] := by unfold packed; rw [if_neg (by rw [h]; exact hx)]
theorem pack_bad {l : List SecM} {x : Int} {w w' : World} (h : wrongM l = x) (hx : x ≠ 0) (hb : Below w.heap.size w w') : PackPost w l (.returned (.tuple #[.slice none 0 0, .int .i64 x])) w' := by
  unfold PackPost
  rw [packed_bad h hx, h]
  exact ⟨none, 0, rfl, (fun i hi => by cases hi), Nat.le_refl _, hb⟩
theorem magic_bytes (w : World) : Hid (Bytes (w.alloc (.cells #[.int .u8 68, .int .u8 80, .int .u8 90, .int .u8 49] 5 (4, 5))) (some ⟨w.heap.size, 0, none⟩) magic) := by
  intro i hi
  refine ⟨_, rfl, ?_⟩
  have hadd : (⟨w.heap.size, 0, none⟩ : Addr).add i = ⟨w.heap.size, i, none⟩ := by unfold Addr.add; split <;> simp_all
  rw [hadd, World.cell?_alloc_mark]
  have : i < 4 := hi
  match i, this with
  | 0, _ => rfl
  | 1, _ => rfl
  | 2, _ => rfl
  | 3, _ => rfl
theorem rows_snoc (l : List Sec) (s : Sec) : rows (l ++ [s]) = rows l ++ row s := by simp [rows]
theorem bodies_snoc (l : List Sec) (s : Sec) : bodies (l ++ [s]) = bodies l ++ s.body := by simp [bodies]
theorem bodies_bd : ∀ (l : List Sec), (∀ s ∈ l, s.body.length ≤ 65535) → (bodies l).length ≤ 65535 * l.length
  | [], _ => Nat.le_refl _
  | s :: l, h => by
    have h1 := h s List.mem_cons_self
    have h2 := bodies_bd l (fun x hx => h x (List.mem_cons_of_mem _ hx))
    simp only [bodies, List.flatMap_cons, List.length_append, List.length_cons] at h2 ⊢
    omega
def outOf (l : List SecM) (i : Nat) : List (BitVec 8) := hd l.length ++ (crcD (hd l.length) ++ rows ((l.take i).map SecM.sec))
def bodOf (l : List SecM) (i : Nat) : List (BitVec 8) := bodies ((l.take i).map SecM.sec)
theorem outOf_length (l : List SecM) (i : Nat) (hi : i ≤ l.length) : (outOf l i).length = 9 + 7 * i := by
  simp [outOf, hd_length, crcD_length, rows_length, Nat.min_eq_left hi]
  omega
theorem bodOf_bd (l : List SecM) (i : Nat) (hi : i ≤ l.length) (h : ∀ s ∈ l, s.b.length ≤ 65535) : (bodOf l i).length ≤ 65535 * i := by
  have := bodies_bd ((l.take i).map SecM.sec) (by
    intro x hx
    obtain ⟨s, hs, rfl⟩ := List.mem_map.1 hx
    exact h s (List.mem_of_mem_take hs))
  simpa [bodOf, Nat.min_eq_left hi] using this
theorem outOf_succ (l : List SecM) (i : Nat) (hi : i < l.length) : outOf l i ++ LeM.dig l[i].kind.toNat 1 ++ LeM.dig l[i].b.length 2 ++ LeM.dig (CrcM.more 0#32 l[i].b).toNat 4 = outOf l (i + 1) := by
  unfold outOf
  rw [List.take_succ_eq_append_getElem hi, List.map_append, List.map_cons, List.map_nil, rows_snoc]
  simp [row, SecM.sec, crcD]
theorem bodOf_succ (l : List SecM) (i : Nat) (hi : i < l.length) : bodOf l i ++ l[i].b = bodOf l (i + 1) := by
  unfold bodOf
  rw [List.take_succ_eq_append_getElem hi, List.map_append, List.map_cons, List.map_nil, bodies_snoc]
  rfl
set_option maxHeartbeats 8000000 in
theorem pack_any (A : Option Addr) (l : List SecM) (cap : Nat) (w : World) (hT : Hid (Crc.Tab w)) (hs : Hid (Secs w A l)) (hl : l.length ≤ 9223372036854775807) :
    Calls Tryd.prog 14 #[.slice A l.length cap] w (PackPost w l) := by
  have HW := Kit.hid (wrongM_eq l)
  by_cases hf : 16 < l.length
  · have g1 : (16 : Int) < (l.length : Int) := by omega
    have E : Hid (wrongM l = 7) := Kit.hid (by rw [HW.out, if_pos hf])
    go_enter Tryd.func14, Tryd.ntmps14
    go_wp2
    go_ret2
    exact pack_bad E.out (by decide) (Below.refl _ _)
  have g1 : ¬ (16 : Int) < (l.length : Int) := by omega
  have HR := Kit.hid (rising_any A l cap w hs hl)
  by_cases hr : risingM 0 l = false
  · have E : Hid (wrongM l = 21) := Kit.hid (by rw [HW.out, if_neg hf, if_pos hr])
    rw [hr] at HR
    clear hr
    go_enter Tryd.func14, Tryd.ntmps14
    go_wp2_with (go_at_call 21; refine HR.out.mono ?_; rintro e w1 ⟨rfl, hd1⟩)
    go_ret2
    exact pack_bad E.out (by decide) hd1
  have hr' : risingM 0 l = true := by simpa using hr
  rw [hr'] at HR
  by_cases hlo : l.any isLong = true
  · have E : Hid (wrongM l = 22) := Kit.hid (by rw [HW.out, if_neg hf, if_neg hr, if_pos hlo])
    have HCO : Hid (∀ w', Hid (Secs w' A l) → Calls Tryd.prog 26 #[.slice A l.length cap, .func (.func 27) #[] #[]] w' fun e w'' => e = .returned (.bool true) ∧ Below w'.heap.size w' w'') :=
      Kit.hid (fun w' h => by rw [← hlo]; exact contains_any A l cap w' h hl)
    clear hr hr' hlo
    go_enter Tryd.func14, Tryd.ntmps14
    go_wp2_with (first
      | (go_at_call 21; refine HR.out.mono ?_; rintro e w1 ⟨rfl, hd1⟩)
      | (go_at_call 26; refine (HCO.out _ (secs_below hs hd1)).mono ?_; rintro e w2 ⟨rfl, hd2⟩))
    go_ret2
    exact pack_bad E.out (by decide) (hd1.trans (hd2.mono hd1.size))
  have hlo' : l.any isLong = false := by simpa using hlo
  have E : Hid (wrongM l = 0) := Kit.hid (by rw [HW.out, if_neg hf, if_neg hr, if_neg hlo])
  have HCO : Hid (∀ w', Hid (Secs w' A l) → Calls Tryd.prog 26 #[.slice A l.length cap, .func (.func 27) #[] #[]] w' fun e w'' => e = .returned (.bool false) ∧ Below w'.heap.size w' w'') :=
    Kit.hid (fun w' h => by rw [← hlo']; exact contains_any A l cap w' h hl)
  have HPOS := Kit.hid (risingM_pos hr')
  have HLG : Hid (∀ s ∈ l, s.b.length ≤ 65535) := Kit.hid (fun s hs => by
    have := List.any_eq_false.1 hlo' s hs
    unfold isLong at this
    simpa using this)
  have hl16 : l.length ≤ 16 := by omega
  have e4 : LeM.hw 4 = 4 := rfl
  have e1 : LeM.hw 1 = 1 := rfl
  have e2 : LeM.hw 2 = 2 := rfl
  have PUT4 : Hid (∀ (v : Value) (o : List (BitVec 8)) (n : Nat) (w' : World), w'.ownsRow w.heap.size 5 1 v o.length (o.map byteV) → w.heap.size ≤ w'.heap.size → o.length ≤ 70368744177664 → n < 18446744073709551616 →
      Calls Tryd.prog 28 #[v, .int .u64 n, .int .i64 4] w' (Le.PutPost w.heap.size w' v (o ++ LeM.dig n 4))) := Kit.hid (fun v o n w' h1 h2 h3 h4 => Le.put_any w.heap.size v o n 4 w' (Kit.hid h1) h2 h3 h4)
  have PUT1 : Hid (∀ (v : Value) (o : List (BitVec 8)) (n : Nat) (w' : World), w'.ownsRow w.heap.size 5 1 v o.length (o.map byteV) → w.heap.size ≤ w'.heap.size → o.length ≤ 70368744177664 → n < 18446744073709551616 →
      Calls Tryd.prog 28 #[v, .int .u64 n, .int .i64 1] w' (Le.PutPost w.heap.size w' v (o ++ LeM.dig n 1))) := Kit.hid (fun v o n w' h1 h2 h3 h4 => Le.put_any w.heap.size v o n 1 w' (Kit.hid h1) h2 h3 h4)
  have PUT2 : Hid (∀ (v : Value) (o : List (BitVec 8)) (n : Nat) (w' : World), w'.ownsRow w.heap.size 5 1 v o.length (o.map byteV) → w.heap.size ≤ w'.heap.size → o.length ≤ 70368744177664 → n < 18446744073709551616 →
      Calls Tryd.prog 28 #[v, .int .u64 n, .int .i64 2] w' (Le.PutPost w.heap.size w' v (o ++ LeM.dig n 2))) := Kit.hid (fun v o n w' h1 h2 h3 h4 => Le.put_any w.heap.size v o n 2 w' (Kit.hid h1) h2 h3 h4)
  have PUTM : Hid (∀ (ad : Addr) (n : Nat) (w' : World), Hid (Bytes w' (some ad) magic) → n < 18446744073709551616 →
      Calls Tryd.prog 28 #[.slice (some ad) 4 4, .int .u64 n, .int .i64 1] w' (Le.PutFull w' (magic ++ LeM.dig n 1))) := Kit.hid (fun ad n w' h1 h2 => Le.put_full ad magic n 1 w' h1 (by decide) h2)
  have OF : Hid (∀ (A' : Option Addr) (b : List (BitVec 8)) (cap' : Nat) (w' : World), Hid (Crc.Tab w') → Hid (Bytes w' A' b) → b.length ≤ 140737488351232 →
      Calls Tryd.prog 24 #[.slice A' b.length cap'] w' fun e w'' => e = .returned (.int .u32 (CrcM.more 0#32 b).toNat) ∧ w' = w'') := Kit.hid (fun A' b cap' w' h1 h2 h3 => Crc.of_any A' b b.length cap' w' h1 h2 h3 rfl)
  have CB : Hid (∀ b : List (BitVec 8), IntKind.u64.wrap ((CrcM.more 0#32 b).toNat : Int) = ((CrcM.more 0#32 b).toNat : Int)) := Kit.hid (fun b => by have := crc_lt b; simp [IntKind.wrap, IntKind.bits, IntKind.signed]; omega)
  have HD : Hid (hd l.length = magic ++ LeM.dig l.length 1) := Kit.hid rfl
  clear hr hr' hlo hlo'
  go_enter Tryd.func14, Tryd.ntmps14
  go_wp2_with (first
    | (go_at_call 21; (with_reducible refine HR.out.mono ?_); rintro e w1 ⟨rfl, hd1⟩; have HC1 := Kit.hid (HCO.out _ (secs_below hs hd1)))
    | (go_at_call 26; (with_reducible refine HC1.out.mono ?_); rintro e w2 ⟨rfl, hd2⟩
       have hb2 := hd1.trans (hd2.mono hd1.size)
       have hcv := Go.Lib.run_convert_bytes_const (P := Tryd.prog) w2 22 5 #[.int .u8 68, .int .u8 80, .int .u8 90, .int .u8 49] 4 4 Tryd.underlying22 Tryd.underlying5
       have hm2 := magic_bytes w2
       have hb2m := hb2.alloc hb2.size (.cells #[.int .u8 68, .int .u8 80, .int .u8 90, .int .u8 49] 5 (4, 5))
       have CP1 := Kit.hid (PUTM.out ⟨w2.heap.size, 0, none⟩ l.length _ hm2 (by omega)))
    | (go_at_call 28; (with_reducible refine CP1.out.mono ?_); rintro e w3 ⟨v3, rfl, hown3', hd3⟩
       have hown3 := own_base hown3' hb2m.size
       have hb3 := hb2m.trans (hd3.mono hb2m.size)
       rw [← HD.out] at hown3
       obtain ⟨A3, cap3, hv3, hcl3, _, _⟩ := own_reads hown3
       subst hv3
       have hB3 := bytes_of_cells hcl3
       have hw3 := CB.out (hd l.length)
       have CO1 := Kit.hid (OF.out A3 (hd l.length) cap3 w3 (Crc.tab_below hT hb3) hB3 (by rw [hd_length]; decide))
       have CP2 := Kit.hid (PUT4.out _ (hd l.length) (CrcM.more 0#32 (hd l.length)).toNat w3 hown3 hb3.size (by rw [hd_length]; decide) (by have := crc_lt (hd l.length); omega)))
    | (go_at_call 24; (with_reducible refine CO1.out.mono ?_); rintro e w4 ⟨rfl, rfl⟩)
    | (go_at_call 28; (with_reducible refine CP2.out.mono ?_); rintro e w5 ⟨v5, rfl, hown5, hg5, hc5⟩))
  have h0 : St w.heap.size w w3 (.slice A3 (hd l.length).length cap3) (hd l.length) (.slice none 0 0) [] := ⟨hown3, World.ownsRow_nil _ _ _ _, (fun g _ h => by cases h), hb3, hb3.size⟩
  have h5 := Kit.hid (h0.grow hown5 hg5 hc5)
  have HO0 : Hid (hd l.length ++ LeM.dig (CrcM.more 0#32 (hd l.length)).toNat 4 = outOf l 0) := Kit.hid (by simp [outOf, crcD, rows])
  have HB0 : Hid (([] : List (BitVec 8)) = bodOf l 0) := Kit.hid rfl
  rw [HO0.out, HB0.out] at h5
  clear h0 hown5 hg5 hc5 hown3 hown3' hb3 hB3 hw3 hcl3 hd3 hd2 hd1 hb2 hm2 hb2m hcv
  go_loopw [4, 5, 32] (fun v4 v5 v32 wr => ∃ (i : Nat) (va vb : Value), i ≤ l.length ∧ va = v4 ∧ vb = v5 ∧ v32 = .int .i64 i ∧ Hid (St w.heap.size w wr va (outOf l i) vb (bodOf l i))) (fun _ _ i _ => l.length - (intOf i).toNat)
  case atStart => exact ⟨0, _, _, by omega, rfl, rfl, rfl, h5⟩
  case round =>
    obtain ⟨i, va, vb, hi, rfl, rfl, rfl, hst⟩ := hrel
    by_cases hlt : i < l.length
    · obtain ⟨s, hss⟩ : ∃ s, s = l[i] := ⟨_, rfl⟩
      obtain ⟨ad, hA, k0, k1, kb⟩ := sec_at (secs_below hs hst.out.bel) hlt hss
      subst hA
      obtain ⟨ad0, hA0, q0, q1, kb0⟩ := sec_at hs hlt hss
      clear q0 q1 hA0 ad0
      have hmem : s ∈ l := by rw [hss]; exact List.getElem_mem hlt
      have hpos := HPOS.out s hmem
      have hlong := HLG.out s hmem
      have hOl := outOf_length l i hi
      have hBl := bodOf_bd l i hi HLG.out
      have hO1 := outOf_succ l i hlt
      have hB1 := bodOf_succ l i hlt
      rw [← hss] at hO1 hB1
      obtain ⟨kn, hkn⟩ : ∃ kn : Nat, s.kind = (kn : Int) := ⟨s.kind.toNat, by omega⟩
      rw [hkn] at k0 hpos hO1
      rw [Int.toNat_natCast] at hO1
      obtain ⟨o, ho⟩ : ∃ o, o = outOf l i := ⟨_, rfl⟩
      obtain ⟨bb, hbb⟩ : ∃ bb, bb = bodOf l i := ⟨_, rfl⟩
      rw [← ho] at hOl hO1 hst
      rw [← hbb] at hBl hB1 hst
      have HO1 := Kit.hid hO1
      have HB1 := Kit.hid hB1
      have rk : IntKind.u64.wrap (kn : Int) = (kn : Int) := by simp [IntKind.wrap, IntKind.bits, IntKind.signed]; omega
      have rl : IntKind.u64.wrap (s.b.length : Int) = (s.b.length : Int) := by simp [IntKind.wrap, IntKind.bits, IntKind.signed]; omega
      have rc := CB.out s.b
      unfold SecM.body at k1
      clear hss ho hbb hO1 hB1 hkn hmem
      go_wp2_with fail
      have h1q : Hid (St w.heap.size w (wr.alloc (.cells #[.int .i64 kn, .slice s.A s.b.length s.cap] 39)) va o vb bb) := Kit.hid (hst.out.below ((Below.refl _ _).alloc (Nat.le_refl _) _))
      have hvo := hst.out.apart.1
      have hvb := hst.out.apart.2
      have hL := Kit.hid (blk_new wr (.cells #[.int .i64 kn, .slice s.A s.b.length s.cap] 39))
      have kb1 := bytes_below kb ((Below.refl _ _).alloc (Nat.le_refl _) (.cells #[.int .i64 kn, .slice s.A s.b.length s.cap] 39))
      obtain ⟨g7, hg7⟩ : ∃ g, g = wr.heap.size := ⟨_, rfl⟩
      rw [← hg7] at hvo hvb hL ⊢
      obtain ⟨wq, hwq⟩ : ∃ x, x = wr.alloc (.cells #[.int .i64 kn, .slice s.A s.b.length s.cap] 39) := ⟨_, rfl⟩
      rw [← hwq] at h1q hL kb1 ⊢
      clear hwq hg7 k0 k1 hst
      have h1q : Hid (St w.heap.size w wq.drew va o vb bb) := Kit.hid (h1q.out.below ((Below.refl _ wq).drew))
      have hL : Hid (wq.drew.heap[g7]? = some (.cells #[.int .i64 kn, .slice s.A s.b.length s.cap] 39 (0, 0))) := hL
      have HP1 := Kit.hid (PUT1.out va o kn wq.drew h1q.out.oo h1q.out.sz (by omega) (by omega))
      refine wp_region_noPanic ?_
      refine wp_region_held_drew (S := fun w' => w'.cell? ⟨g7, 0, none⟩ = some (.int .i64 kn) ∧ w'.cell? ⟨g7, 1, none⟩ = some (.slice s.A s.b.length s.cap)) (by kernel_rfl) ⟨(blk_cell hL.out 0).trans rfl, (blk_cell hL.out 1).trans rfl⟩ (fun hHeld => ?_)
      refine wpAnyH_take (i := 0) (hi := by simp only [List.getElem?_toArray, List.getElem?_cons_succ, List.getElem?_cons_zero]; rfl) (v := ?_) (by kernel_rfl) (by kernel_rfl) (by kernel_rfl) (fun _ _ _ h => h) (Or.inl ⟨by rfl, ?_⟩) (by assumption) ?_
      rotate_left
      · (intro w hSw; (try dsimp only at hSw); go_simp; first | done | with_reducible rfl)
      try simp only [Act.put, List.setIfInBounds_toArray, List.set_cons_zero, List.set_cons_succ]
      refine wpAnyH_take (i := 1) (hi := by simp only [List.getElem?_toArray, List.getElem?_cons_succ, List.getElem?_cons_zero]; rfl) (v := ?_) (by kernel_rfl) (by kernel_rfl) (by kernel_rfl) (fun _ _ _ h => h) (Or.inl ⟨by rfl, ?_⟩) (by assumption) ?_
      rotate_left
      · (intro w hSw; (try dsimp only at hSw); go_simp; first | done | with_reducible rfl)
      try simp only [Act.put, List.setIfInBounds_toArray, List.set_cons_zero, List.set_cons_succ]
      refine wpAnyH_take (i := 2) (hi := by simp only [List.getElem?_toArray, List.getElem?_cons_succ, List.getElem?_cons_zero]; rfl) (v := ?_) (by kernel_rfl) (by kernel_rfl) (by kernel_rfl) (fun _ _ _ h => h) (Or.inl ⟨by rfl, ?_⟩) (by assumption) ?_
      rotate_left
      · (intro w hSw; (try dsimp only at hSw); go_simp; first | done | with_reducible rfl)
      try simp only [Act.put, List.setIfInBounds_toArray, List.set_cons_zero, List.set_cons_succ]
      refine wpAnyH_take (i := 3) (hi := by simp only [List.getElem?_toArray, List.getElem?_cons_succ, List.getElem?_cons_zero]; rfl) (v := ?_) (by kernel_rfl) (by kernel_rfl) (by kernel_rfl) (fun _ _ _ h => h) (Or.inl ⟨by rfl, ?_⟩) (by assumption) ?_
      rotate_left
      · (intro w hSw; (try dsimp only at hSw); go_simp; first | done | with_reducible rfl)
      try simp only [Act.put, List.setIfInBounds_toArray, List.set_cons_zero, List.set_cons_succ]
      refine wpAnyH_take (i := 5) (hi := by simp only [List.getElem?_toArray, List.getElem?_cons_succ, List.getElem?_cons_zero]; rfl) (v := ?_) (by kernel_rfl) (by kernel_rfl) (by kernel_rfl) (fun _ _ _ h => h) (Or.inl ⟨by rfl, ?_⟩) (by assumption) ?_
      rotate_left
      · (intro w hSw; (try dsimp only at hSw); go_simp; first | done | with_reducible rfl)
      try simp only [Act.put, List.setIfInBounds_toArray, List.set_cons_zero, List.set_cons_succ]
      refine wpAnyH_take (i := 6) (hi := by simp only [List.getElem?_toArray, List.getElem?_cons_succ, List.getElem?_cons_zero]; rfl) (v := ?_) (by kernel_rfl) (by kernel_rfl) (by kernel_rfl) (fun _ _ _ h => h) (Or.inl ⟨by rfl, ?_⟩) (by assumption) ?_
      rotate_left
      · (intro w hSw; (try dsimp only at hSw); go_simp; first | done | with_reducible rfl)
      try simp only [Act.put, List.setIfInBounds_toArray, List.set_cons_zero, List.set_cons_succ]
      refine wpAnyH_take (i := 7) (hi := by simp only [List.getElem?_toArray, List.getElem?_cons_succ, List.getElem?_cons_zero]; rfl) (v := ?_) (by kernel_rfl) (by kernel_rfl) (by kernel_rfl) (fun _ _ _ h => h) (Or.inl ⟨by rfl, ?_⟩) (by assumption) ?_
      rotate_left
      · (intro w hSw; (try dsimp only at hSw); go_simp; first | done | with_reducible rfl)
      try simp only [Act.put, List.setIfInBounds_toArray, List.set_cons_zero, List.set_cons_succ]
      refine wpAnyH_take (i := 8) (hi := by simp only [List.getElem?_toArray, List.getElem?_cons_succ, List.getElem?_cons_zero]; rfl) (v := ?_) (by kernel_rfl) (by kernel_rfl) (by kernel_rfl) (fun _ _ _ h => h) (Or.inl ⟨by rfl, ?_⟩) (by assumption) ?_
      rotate_left
      · (intro w hSw; (try dsimp only at hSw); go_simp; first | done | with_reducible rfl)
      try simp only [Act.put, List.setIfInBounds_toArray, List.set_cons_zero, List.set_cons_succ]
      refine wpAnyH_ready (rs := [4]) (by kernel_rfl) (by simp) ?_
      refine AllReadyH.cons (ho := by simp only [List.getElem?_toArray, List.getElem?_cons_succ, List.getElem?_cons_zero]; rfl) (fun K hK => ?_) AllReadyH.nil
      go_simp
      first
        | (go_at_call 28; (with_reducible refine HP1.out.mono ?_); rintro e w2 ⟨v2, rfl, hown2, hg2, hc2⟩
           have h2 := Kit.hid (h1q.out.grow hown2 hg2 hc2)
           have hL72 := blk_lt hL.out
           have hv2 := grown_apart hvo hL72 hc2
           have hL := Kit.hid (blk_grown hL.out hg2 hvo)
           have HP2 := Kit.hid (PUT2.out v2 (o ++ LeM.dig kn 1) s.b.length w2 h2.out.oo h2.out.sz (by simp [LeM.dig_length]; omega) (by omega)))
        | (go_at_call 28; (with_reducible refine HP2.out.mono ?_); rintro e w3 ⟨v3, rfl, hown3, hg3, hc3⟩
           have h3 := Kit.hid (h2.out.grow hown3 hg3 hc3)
           have hL73 := blk_lt hL.out
           have hv3 := grown_apart hv2 hL73 hc3
           have hL := Kit.hid (blk_grown hL.out hg3 hv2))
      go_wp2_with fail
      refine hK.out _ _ ?_ (fun hHeldN => ?_)
      · exact ⟨(blk_cell hL.out 0).trans rfl, (blk_cell hL.out 1).trans rfl⟩
      clear hHeld
      have hHeld := hHeldN
      clear hHeldN
      clear hK K
      try simp only [Act.put, List.setIfInBounds_toArray, List.set_cons_zero, List.set_cons_succ]
      refine wpAnyH_ready (rs := [9]) (by kernel_rfl) (by simp) ?_
      refine AllReadyH.cons (ho := by simp only [List.getElem?_toArray, List.getElem?_cons_succ, List.getElem?_cons_zero]; rfl) (fun K hK => ?_) AllReadyH.nil
      go_simp
      first
        | (go_at_call 28; (with_reducible refine HP1.out.mono ?_); rintro e w2 ⟨v2, rfl, hown2, hg2, hc2⟩
           have h2 := Kit.hid (h1q.out.grow hown2 hg2 hc2)
           have hL72 := blk_lt hL.out
           have hv2 := grown_apart hvo hL72 hc2
           have hL := Kit.hid (blk_grown hL.out hg2 hvo)
           have HP2 := Kit.hid (PUT2.out v2 (o ++ LeM.dig kn 1) s.b.length w2 h2.out.oo h2.out.sz (by simp [LeM.dig_length]; omega) (by omega)))
        | (go_at_call 28; (with_reducible refine HP2.out.mono ?_); rintro e w3 ⟨v3, rfl, hown3, hg3, hc3⟩
           have h3 := Kit.hid (h2.out.grow hown3 hg3 hc3)
           have hL73 := blk_lt hL.out
           have hv3 := grown_apart hv2 hL73 hc3
           have hL := Kit.hid (blk_grown hL.out hg3 hv2))
      go_wp2_with fail
      refine hK.out _ _ ?_ (fun hHeldN => ?_)
      · exact ⟨(blk_cell hL.out 0).trans rfl, (blk_cell hL.out 1).trans rfl⟩
      clear hHeld
      have hHeld := hHeldN
      clear hHeldN
      clear hK K
      try simp only [Act.put, List.setIfInBounds_toArray, List.set_cons_zero, List.set_cons_succ]
      refine wpAnyH_take (i := 10) (hi := by simp only [List.getElem?_toArray, List.getElem?_cons_succ, List.getElem?_cons_zero]; rfl) (v := ?_) (by kernel_rfl) (by kernel_rfl) (by kernel_rfl) (fun _ _ _ h => h) (Or.inl ⟨by rfl, ?_⟩) (by assumption) ?_
      rotate_left
      · (intro w hSw; (try dsimp only at hSw); go_simp; first | done | with_reducible rfl)
      try simp only [Act.put, List.setIfInBounds_toArray, List.set_cons_zero, List.set_cons_succ]
      clear hHeld
      refine wpAnyH_done (by kernel_rfl) ?_ _
      refine NoPanic.normal ?_
      have c1 := (blk_cell hL.out 1).trans (rfl : _ = some (Value.slice s.A s.b.length s.cap))
      have kb3 := bytes_below kb0 h3.out.bel
      have CO := Kit.hid (OF.out s.A s.b s.cap w3 (Crc.tab_below hT h3.out.bel) kb3 (by omega))
      have CP := Kit.hid (PUT4.out v3 (o ++ LeM.dig kn 1 ++ LeM.dig s.b.length 2) (CrcM.more 0#32 s.b).toNat w3 h3.out.oo h3.out.sz (by simp [LeM.dig_length]; omega) (by have := crc_lt s.b; omega))
      clear h1q h2 HP1 HP2
      go_wp2_with (first
        | (go_at_call 24; (with_reducible refine CO.out.mono ?_); rintro e w9 ⟨rfl, rfl⟩)
        | (go_at_call 28; (with_reducible refine CP.out.mono ?_); rintro e w4 ⟨v4, rfl, hown4, hg4, hc4⟩
           have h4 := Kit.hid (h3.out.grow hown4 hg4 hc4)
           have hL4 := blk_grown hL.out hg4 hv3
           have c1 := (blk_cell hL4 1).trans (rfl : _ = some (Value.slice s.A s.b.length s.cap))
           have kb4 := bytes_below kb0 h4.out.bel)
        | (at_builtin; refine wpList_append_src rfl _ _ 22 rfl w.heap.size 5 (.int .u8 0) 1 Tryd.underlying22 Le.infoB rfl vb bb.length (bb.map byteV) rfl h4.out.ob s.A s.b.length s.cap (s.b.map byteV) rfl (by simp) (cells_of_bytes kb4) (one_byteV _) (by unfold maxLen; omega) (by omega) h4.out.sz ?_
           intro v5 w5 hown5 hg5 hc5))
      have hown6 : w5.ownsRow w.heap.size 5 1 v5 (bb ++ s.b).length ((bb ++ s.b).map byteV) := by rw [List.map_append, List.length_append]; exact hown5
      have h6 := Kit.hid (h4.out.swap.grow hown6 hg5 (hc5.imp id (fun h => ⟨_, h, Nat.le_refl _⟩))).swap
      have h7 : Hid (St w.heap.size w w5 v4 (o ++ LeM.dig kn 1 ++ LeM.dig s.b.length 2 ++ LeM.dig (CrcM.more 0#32 s.b).toNat 4) v5 (bb ++ s.b)) := h6
      rw [HO1.out, HB1.out] at h7
      clear h6 hown6 hown5 hg5 hc5 c1
      go_roundw
      case rel => exact ⟨i + 1, _, _, by omega, rfl, rfl, by go_num, h7⟩
      case measure => simp [intOf]; omega
    · obtain rfl : i = l.length := by omega
      have HO2 : Hid (outOf l l.length = top (l.map SecM.sec)) := Kit.hid (by unfold outOf top; rw [List.take_length, List.length_map])
      have HB2 : Hid (bodOf l l.length = bodies (l.map SecM.sec)) := Kit.hid (by unfold bodOf; rw [List.take_length])
      have hOl := outOf_length l l.length (Nat.le_refl _)
      have hBl := bodOf_bd l l.length (Nat.le_refl _) HLG.out
      rw [HO2.out] at hOl hst
      rw [HB2.out] at hBl hst
      obtain ⟨o, ho⟩ : ∃ o, o = top (l.map SecM.sec) := ⟨_, rfl⟩
      obtain ⟨bb, hbb⟩ : ∃ bb, bb = bodies (l.map SecM.sec) := ⟨_, rfl⟩
      rw [← ho] at hOl hst
      rw [← hbb] at hBl hst
      have hOl2 : o.length ≤ 121 := by omega
      clear hOl
      have HPK : Hid (packed l = o ++ LeM.dig (CrcM.more 0#32 o).toNat 4 ++ bb) := Kit.hid (by unfold packed; rw [if_pos E.out, ho, hbb]; simp [img, crcD])
      clear ho hbb
      obtain ⟨Ao, capo, hvo, hBo, _⟩ := hst.out.reads
      subst hvo
      have rc := CB.out o
      have CO := Kit.hid (OF.out Ao o capo wr (Crc.tab_below hT hst.out.bel) hBo (by omega))
      have CP := Kit.hid (PUT4.out _ o (CrcM.more 0#32 o).toNat wr hst.out.oo hst.out.sz (by omega) (by have := crc_lt o; omega))
      go_wp2_with (first
        | (go_at_call 24; (with_reducible refine CO.out.mono ?_); rintro e w9 ⟨rfl, rfl⟩)
        | (go_at_call 28; (with_reducible refine CP.out.mono ?_); rintro e w4 ⟨v4, rfl, hown4, hg4, hc4⟩
           have h4 := Kit.hid (hst.out.grow hown4 hg4 hc4)
           have hl4 : (o ++ LeM.dig (CrcM.more 0#32 o).toNat 4).length ≤ 125 := by simp [LeM.dig_length]; omega
           obtain ⟨Ab, capb, hvb, hBb, _⟩ := h4.out.swap.reads
           subst hvb)
        | (at_builtin; refine wpList_append_src rfl _ _ 22 rfl w.heap.size 5 (.int .u8 0) 1 Tryd.underlying22 Le.infoB rfl v4 _ _ rfl h4.out.oo Ab bb.length capb (bb.map byteV) rfl (by simp) (cells_of_bytes hBb) (one_byteV _) (by unfold maxLen; omega) (by omega) h4.out.sz ?_
           intro v5 w5 hown5 hg5 hc5))
      have hown6 : w5.ownsRow w.heap.size 5 1 v5 (packed l).length ((packed l).map byteV) := by rw [HPK.out, List.map_append, List.length_append]; exact hown5
      have hb5 := below_own h4.out.bel h4.out.oo hg5 h4.out.sz
      obtain ⟨A6, cap6, hv6, hc6, hle6, _⟩ := own_reads hown6
      subst hv6
      go_ret2
      refine ⟨A6, cap6, ?_, bytes_of_cells hc6, hle6, hb5⟩
      rw [E.out]
      rfl
end Go.Proofs.YtlmbghemlphoaaaDoor.Pa
