/- The law LanePicks. -/
import Derived.Test.YtpgfenelckonoaaLxF
namespace Go.Proofs.Ytpgfenelckonoaa.La
open Go.RowKit Go.Proofs.Ytpgfenelckonoaa.Kit Go.Proofs.Ytpgfenelckonoaa.ShM Go.Proofs.Ytpgfenelckonoaa.Sh Go.Proofs.Ytpgfenelckonoaa.QuM Go.Proofs.Ytpgfenelckonoaa.Qu Go.Proofs.Ytpgfenelckonoaa.LaM
open Go.Proofs.Ytpgfenelckonoaa.Ki (Row row_nil row_of iv iv_len iv_one)
set_option linter.unusedVariables false
set_option linter.unusedSimpArgs false
def shutB (shut : List Int) (x : Int) : Bool := shut.any fun y => y == x
def closedB (S : LS) (shut : List Int) (t : Int) : Bool := (wayS S t).any (shutB shut)
def anyB (S : LS) (shut T : List Int) : Bool := T.any fun t => !closedB S shut t
def foundB (S : LS) (shut : List Int) (id : Int) (T : List Int) : Bool := T.any fun t => t == id && !closedB S shut t
theorem shut_iff {shut : List Int} {x : Int} : shutB shut x = true ↔ x ∈ shut := by
  unfold shutB
  rw [List.any_eq_true]
  constructor
  · rintro ⟨y, hy, e⟩
    have : y = x := by simpa using e
    rw [← this]; exact hy
  · exact fun h => ⟨x, h, by simp⟩
theorem open_iff {S : LS} {shut : List Int} {t : Int} : closedB S shut t = false ↔ ∀ x ∈ wayS S t, x ∉ shut := by
  unfold closedB
  rw [List.any_eq_false]
  constructor
  · exact fun h x hx hm => h x hx (shut_iff.2 hm)
  · exact fun h x hx hm => h x hx (shut_iff.1 hm)
theorem pick_nn {S : LS} (wl : WL S) (shut : List Int) : 0 ≤ pickS S shut := by
  unfold pickS nextF
  exact go_nn wl shut 15 _ fun m hm => by have := (wl.qb 0).each m hm; omega
theorem picks_end {S : LS} (wl : WL S) (shut : List Int) : foundB S shut (pickS S shut) S.tasks = anyB S shut S.tasks ∧ (pickS S shut == 0) = !anyB S shut S.tasks := by
  obtain ⟨h1, h2⟩ := picks_law wl shut
  have hnn := pick_nn wl shut
  cases ha : anyB S shut S.tasks with
  | true =>
    unfold anyB at ha
    obtain ⟨t, ht, hc⟩ := List.any_eq_true.1 ha
    have hp : 0 < pickS S shut := h2 t ht (open_iff.1 (by simpa using hc))
    obtain ⟨k1, k2⟩ := h1 hp
    refine ⟨List.any_eq_true.2 ⟨pickS S shut, k1, ?_⟩, ?_⟩
    · have := open_iff.2 k2
      have e : closedB S shut (pickS S shut) = false := this
      simp [e]
    · exact beq_eq_false_iff_ne.2 (by omega)
  | false =>
    unfold anyB at ha
    have ha' := List.any_eq_false.1 ha
    refine ⟨List.any_eq_false.2 fun t ht hc => ?_, ?_⟩
    · have : t = pickS S shut ∧ closedB S shut t = false := by simpa using hc
      exact ha' t ht (by simp [this.2])
    · have h0 : pickS S shut = 0 := by
        by_cases hp : 0 < pickS S shut
        · obtain ⟨k1, k2⟩ := h1 hp
          exact absurd (by rw [show closedB S shut (nextF S shut 16 0) = false from open_iff.2 k2]; rfl) (ha' _ k1)
        · omega
      rw [h0]; rfl
theorem any_snoc {f : Int → Bool} {l : List Int} {i : Nat} {x : Int} (h : l[i]? = some x) : (l.take (i + 1)).any f = ((l.take i).any f || f x) := by
  rw [List.take_add_one, h, List.any_append]
  simp
theorem row_cells2 {B : Nat} {w : World} {A : Option Addr} {n c : Nat} {l : List Int} (h : Row B w (.slice A n c) l) : Cells w A (iv l) := by
  obtain ⟨A', c', e, hc, _⟩ := h.reads
  cases e
  exact hc
set_option maxRecDepth 20000 in
set_option maxHeartbeats 3200000 in
theorem picksLaw_any (A : Option Addr) (l : List LOp) (cap : Nat) (As : Option Addr) (shut : List Int) (cs : Nat) (w : World) (hr : Hid (LRow w A l)) (hl : l.length ≤ 9223372036854775807) (hs : Hid (Cells w As (iv shut))) (hsl : shut.length ≤ 9223372036854775807) :
    Calls Try.prog 4 #[.slice A l.length cap, .slice As shut.length cs] w fun e w' => e = .returned (.bool true) ∧ Below w.heap.size w w' := by
  have HA := Kit.hid (awake_lane w)
  go_enter Try.func4, Try.ntmps4
  go_wp2_with fail
  (with_reducible refine HA.out.mono ?_); rintro e w1 ⟨rfl, hb1⟩
  have HB1 := Kit.hid hb1
  have HF := Kit.hid (few_any A l cap w1 (Kit.hid (hr.out.below hb1)) hl)
  clear hb1 HA
  cases hf : fewS l with
  | false =>
    rw [hf] at HF
    go_wp2_with fail
    (with_reducible refine HF.out.mono ?_); rintro e w2 ⟨rfl, rfl⟩
    go_wp2
    go_ret
    exact ⟨rfl, HB1.out⟩
  | true =>
    have HFW := Kit.hid hf
    rw [hf] at HF
    clear hf
    go_wp2_with fail
    (with_reducible refine HF.out.mono ?_); rintro e w2 ⟨rfl, rfl⟩
    clear HF
    by_cases hs8 : shut.length ≤ 8
    rotate_left
    · have g1 : decide ((8 : Int) < (shut.length : Int)) = true := decide_eq_true (by omega)
      clear hs8
      go_wp2
      go_ret
      exact ⟨rfl, HB1.out⟩
    have g1 : decide ((8 : Int) < (shut.length : Int)) = false := decide_eq_false (by omega)
    have HWK := Kit.hid (walked_lane A l cap w2 (Kit.hid (hr.out.below HB1.out)) HFW.out)
    have HWL : Hid (WL (walkedS l)) := Kit.hid (walkedS_ok l fun o ho => ((few_ok HFW.out).1 o ho).1)
    have hl40 := (few_ok HFW.out).2
    obtain ⟨S, hS⟩ : ∃ S, S = walkedS l := ⟨_, rfl⟩
    rw [← hS] at HWK HWL
    clear hS
    go_wp2_with fail
    (with_reducible refine HWK.out.mono ?_); rintro e w3 ⟨lp, rfl, hl3⟩
    have hb3 : Below w.heap.size w w3 := HB1.out.trans (hl3.blw.mono HB1.out.size)
    obtain ⟨G3, g3, g3g, g3s⟩ := hl3.ge
    have HG3 := Kit.hid g3
    have HB3 := Kit.hid hb3
    have HTS := Kit.hid (tasks_lane g3 (by omega))
    have HGG : Hid (∀ k, G3 k → w2.heap.size ≤ k) := Kit.hid g3g
    clear hl3 hb3 g3 g3g g3s HWK
    go_wp2_with fail
    (with_reducible refine HTS.out.mono ?_); rintro e w4 ⟨vt, rfl, hrt, hb4⟩
    have HB4 := Kit.hid (HB3.out.trans (hb4.mono HB3.out.size))
    have HRT := Kit.hid hrt
    obtain ⟨At, ct, rfl, _, _, _⟩ := hrt.reads
    have HPK := Kit.hid (pick_lane As shut cs (HG3.out.below hb4) HWL.out (by omega) (by omega) (cells_over hs.out HB4.out) (fun hne a ha => by
      obtain ⟨ad, e, c⟩ := hs.out 0 (by rw [iv_len]; exact List.length_pos_iff.2 hne)
      rw [e] at ha
      cases ha
      have hc := cell_lt c
      have e0 : a.add 0 = a := rfl
      rw [e0] at hc
      exact ⟨Nat.lt_of_lt_of_le hc HB4.out.size, fun hg => by have := HGG.out _ hg; have := HB1.out.size; omega⟩) (by omega))
    obtain ⟨id, hid⟩ : ∃ id, id = pickS S shut := ⟨_, rfl⟩
    have HID := Kit.hid hid
    rw [← hid] at HPK
    have HSZ4 : Hid (w3.heap.size ≤ w4.heap.size) := Kit.hid hb4.size
    clear hrt hb4 hid HTS
    go_wp2_with fail
    (with_reducible refine HPK.out.mono ?_); rintro e w5 ⟨rfl, hl5⟩
    have HRT5 : Hid (Row w3.heap.size w5 (.slice At S.tasks.length ct) S.tasks) := Kit.hid (HRT.out.same fun g hg => hl5.kept.block g (HRT.out.own_lt g hg).2 (fun hG => by
      have h1 := (HRT.out.own_lt g hg).1
      have h2 := HG3.out.lt g hG
      omega))
    have HB5 : Hid (Below w.heap.size w w5) := Kit.hid (by
      have h := hl5.kept
      refine ⟨h.os.trans HB4.out.os, h.tape.trans HB4.out.tape, h.output.trans HB4.out.output, Nat.le_trans HB4.out.size h.size, fun k hk => (h.block k (Nat.lt_of_lt_of_le hk HB4.out.size) (fun hG => ?_)).trans (HB4.out.block k hk)⟩
      have := HGG.out k hG
      have := HB1.out.size
      omega)
    obtain ⟨G5, g5, _, _⟩ := hl5
    have HG5 := Kit.hid g5
    have HC5 := Kit.hid (cells_over hs.out HB5.out)
    obtain ⟨T, hT⟩ : ∃ T, T = S.tasks := ⟨_, rfl⟩
    have HTT := Kit.hid hT
    rw [← hT] at HRT5 ⊢
    have htl : T.length ≤ 100000 := by
      have := HRT5.out.1
      obtain ⟨mb, mh, mk, vt, Qp, Fq, _, hx⟩ := HG5.out
      have := hx.tn
      rw [hT]
      omega
    have HTI : Hid (∀ t ∈ T, int64 t) := Kit.hid (fun t ht => home_int HWL.out (HWL.out.isHome t (by rw [← HTT.out]; exact ht)))
    clear g5 hT HPK
    go_wp2_with fail
    go_loopw [10, 11, 12] (fun v10 v11 v12 wr => ∃ (i : Nat), i ≤ T.length ∧ v12 = .int .i64 i ∧ v10 = .bool (anyB S shut (T.take i)) ∧ v11 = .bool (foundB S shut id (T.take i)) ∧ Hid (Below w5.heap.size w5 wr)) (fun _ _ i _ => T.length - (intOf i).toNat)
    case atStart => exact ⟨0, by omega, rfl, rfl, rfl, Kit.hid (Below.refl _ _)⟩
    case round =>
      obtain ⟨i, hi, rfl, rfl, rfl, HB⟩ := hrel
      by_cases hlt : i < T.length
      · obtain ⟨t, ht⟩ : ∃ t, T[i]? = some t := ⟨_, List.getElem?_eq_getElem hlt⟩
        obtain ⟨A', c', hv', hcs, _⟩ := (HRT5.out.below HB.out).reads
        cases hv'
        obtain ⟨ad, hA, k0⟩ := cells_at hcs ht
        subst hA
        have HCT := Kit.hid hcs
        have hil : (i : Int) < (T.length : Int) := by omega
        have z1 : (0 : Int) ≤ (i : Int) := by omega
        have HWY := Kit.hid (way_lane t (HG5.out.below HB.out) HWL.out (HTI.out t (List.mem_of_getElem? ht)))
        have HT := Kit.hid ht
        obtain ⟨wy, hwy⟩ : ∃ wy, wy = wayS S t := ⟨_, rfl⟩
        have hw8 : wy.length ≤ 8 := by rw [hwy]; exact way_len HWL.out t
        have HWE := Kit.hid hwy
        rw [← hwy] at HWY
        clear hcs ht hwy
        go_wp2_with fail
        (with_reducible refine HWY.out.mono ?_); rintro e w6 ⟨vy, rfl, hry, hb6⟩
        obtain ⟨Ay, cy, rfl, hcy, _, _⟩ := hry.reads
        have HCY := Kit.hid hcy
        have HB6 := Kit.hid (HB.out.trans (hb6.mono HB.out.size))
        clear hry hb6 hcy HWY k0
        go_wp2_with fail
        go_loopw [14, 15] (fun v14 v15 wr => ∃ (k : Nat), k ≤ wy.length ∧ v15 = .int .i64 k ∧ v14 = .bool ((wy.take k).any (shutB shut)) ∧ Hid (Below w6.heap.size w6 wr)) (fun _ k _ => wy.length - (intOf k).toNat)
        case atStart => exact ⟨0, by omega, rfl, rfl, Kit.hid (Below.refl _ _)⟩
        case round =>
          obtain ⟨k, hk, rfl, rfl, HBk⟩ := hrel
          by_cases hkt : k < wy.length
          · obtain ⟨x, hx⟩ : ∃ x, wy[k]? = some x := ⟨_, List.getElem?_eq_getElem hkt⟩
            have HX := Kit.hid hx
            have hkl : (k : Int) < (wy.length : Int) := by omega
            have zk : (0 : Int) ≤ (k : Int) := by omega
            obtain ⟨cl, hcl⟩ : ∃ cl, cl = (wy.take k).any (shutB shut) := ⟨_, rfl⟩
            have HCL := Kit.hid hcl
            rw [← hcl]
            clear hx hcl
            go_wp2_with fail
            go_loopw [14, 16] (fun v14 v16 wr => ∃ (j : Nat), j ≤ shut.length ∧ v16 = .int .i64 j ∧ v14 = .bool (cl || (shut.take j).any fun y => y == x) ∧ Hid (Below w6.heap.size w6 wr)) (fun _ j _ => shut.length - (intOf j).toNat)
            case atStart => exact ⟨0, by omega, rfl, by simp, HBk⟩
            case round =>
              obtain ⟨j, hj, rfl, rfl, HBj⟩ := hrel
              by_cases hjt : j < shut.length
              · obtain ⟨y, hy⟩ : ∃ y, shut[j]? = some y := ⟨_, List.getElem?_eq_getElem hjt⟩
                obtain ⟨ay, hAy, y0⟩ := cells_at (cells_over HCY.out HBj.out) HX.out
                obtain ⟨sd, hAs, s0⟩ := cells_at (cells_over HC5.out (HB6.out.trans (HBj.out.mono HB6.out.size))) hy
                have HN : Hid (((shut.take (j + 1)).any fun y => y == x) = (((shut.take j).any fun y => y == x) || y == x)) := Kit.hid (any_snoc hy)
                subst hAy hAs
                have hjl : (j : Int) < (shut.length : Int) := by omega
                have zj : (0 : Int) ≤ (j : Int) := by omega
                clear hy
                cases hc2 : (cl || (shut.take j).any fun y => y == x) with
                | true =>
                  have HV : Hid ((cl || (shut.take (j + 1)).any fun y => y == x) = true) := Kit.hid (by rw [HN.out, ← Bool.or_assoc, hc2]; rfl)
                  clear hc2
                  go_wp2_with fail
                  go_quiet (fail)
                  go_wp2_with fail
                  go_roundw
                  case rel => exact ⟨j + 1, by omega, by go_num, by rw [HV.out], Kit.hid (below_drewN HBj.out _)⟩
                  case measure => simp [intOf]; omega
                | false =>
                  have HV : Hid ((cl || (shut.take (j + 1)).any fun y => y == x) = (y == x)) := Kit.hid (by rw [HN.out, ← Bool.or_assoc, hc2]; rfl)
                  clear hc2
                  go_wp2_with fail
                  go_quiet (fail)
                  go_wp2_with fail
                  go_roundw
                  case rel => exact ⟨j + 1, by omega, by go_num, by rw [HV.out], Kit.hid (below_drewN HBj.out _)⟩
                  case measure => simp [intOf]; omega
              · obtain rfl : j = shut.length := by omega
                rw [List.take_length]
                have HV : Hid ((cl || shut.any fun y => y == x) = (wy.take (k + 1)).any (shutB shut)) := Kit.hid (by
                  rw [any_snoc HX.out, ← HCL.out]
                  rfl)
                generalize (cl || shut.any fun y => y == x) = cl2 at HV ⊢
                go_wp2_with fail
                go_roundw
                case rel => exact ⟨k + 1, by omega, by go_num, by rw [HV.out], HBj⟩
                case measure => simp [intOf]; omega
          · obtain rfl : k = wy.length := by omega
            rw [List.take_length]
            have HCB : Hid (wy.any (shutB shut) = closedB S shut t) := Kit.hid (by rw [HWE.out]; rfl)
            rw [HCB.out]
            obtain ⟨cb, hcb⟩ : ∃ cb, cb = closedB S shut t := ⟨_, rfl⟩
            have HA1 : Hid (anyB S shut (T.take (i + 1)) = (anyB S shut (T.take i) || !cb)) := Kit.hid (by unfold anyB; rw [any_snoc HT.out, hcb])
            have HF1 : Hid (foundB S shut id (T.take (i + 1)) = (foundB S shut id (T.take i) || (t == id && !cb))) := Kit.hid (by unfold foundB; rw [any_snoc HT.out, hcb])
            rw [← hcb]
            have HBW := Kit.hid (HB6.out.trans (HBk.out.mono HB6.out.size))
            obtain ⟨ad', hA', k0⟩ := cells_at (cells_over (row_cells2 HRT5.out) HBW.out) HT.out
            cases hA'
            generalize anyB S shut (T.take i) = a1 at HA1 ⊢
            generalize foundB S shut id (T.take i) = f1 at HF1 ⊢
            obtain ⟨b1, hb1⟩ : ∃ b1, (t == id) = b1 := ⟨_, rfl⟩
            rw [hb1] at HF1
            clear hcb
            cases a1 <;> cases f1 <;> cases cb <;> cases b1
            all_goals
              go_wp2_with fail
              go_roundw
              case rel => exact ⟨i + 1, by omega, by go_num, by rw [HA1.out]; rfl, by rw [HF1.out]; rfl, HBW⟩
              case measure => simp [intOf]; omega
      · obtain rfl : i = T.length := by omega
        rw [List.take_length]
        obtain ⟨e1, e2⟩ := picks_end HWL.out shut
        rw [← HID.out, ← HTT.out] at e1 e2
        have HBE := Kit.hid (HB5.out.trans (HB.out.mono HB5.out.size))
        rw [e1]
        clear e1
        generalize anyB S shut T = a1 at e2 ⊢
        cases a1
        all_goals
          simp only [Bool.not_true, Bool.not_false] at e2
          go_wp2
          go_ret
          exact ⟨rfl, HBE.out⟩
end Go.Proofs.Ytpgfenelckonoaa.La
