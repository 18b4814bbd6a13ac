/- The law ShelfOrder. -/
import Derived.Test.YtgcmblklalcpgaaShY
namespace Go.Proofs.Ytgcmblklalcpgaa.Sh
open Go.RowKit Go.Proofs.Ytgcmblklalcpgaa.Kit Go.Proofs.Ytgcmblklalcpgaa.ShM
set_option linter.unusedVariables false
set_option linter.unusedSimpArgs false
theorem mem_take_succ {l : List It} {i : Nat} {x y : It} (h : l[i]? = some x) : y ∈ l.take (i + 1) ↔ y ∈ l.take i ∨ y = x := by
  obtain ⟨h1, rfl⟩ := List.getElem?_eq_some_iff.1 h
  rw [List.take_succ_eq_append_getElem h1, List.mem_append, List.mem_singleton]
/-- What the second shelf has behind i of its second puts. -/
def Turned (l : List It) (b i : Nat) (y : It) : Prop := ∃ j, j < i ∧ l[(j + b) % l.length]? = some y
theorem turned_succ {l : List It} {b i : Nat} {x y : It} (h : l[(i + b) % l.length]? = some x) : Turned l b (i + 1) y ↔ Turned l b i y ∨ y = x := by
  constructor
  · rintro ⟨j, h1, h2⟩
    by_cases e : j = i
    · subst e; rw [h] at h2; exact .inr (Option.some.inj h2).symm
    · exact .inl ⟨j, by omega, h2⟩
  · rintro (⟨j, h1, h2⟩ | rfl)
    · exact ⟨j, by omega, h2⟩
    · exact ⟨i, by omega, h⟩
theorem turned_all (l : List It) (b : Nat) (y : It) : Turned l b l.length y ↔ y ∈ l := by
  constructor
  · rintro ⟨j, h1, h2⟩
    exact List.mem_of_getElem? h2
  · intro h
    obtain ⟨k, hk, rfl⟩ := List.getElem_of_mem h
    have hb := Nat.mod_lt b (show 0 < l.length by omega)
    have hd := Nat.mod_add_div b l.length
    generalize b % l.length = r at hb hd
    generalize b / l.length = q at hd
    subst hd
    by_cases hkr : r ≤ k
    · refine ⟨k - r, by omega, ?_⟩
      rw [show k - r + (r + l.length * q) = k + l.length * q by omega, Nat.add_mul_mod_self_left, Nat.mod_eq_of_lt hk, List.getElem?_eq_getElem hk]
    · refine ⟨k + l.length - r, by omega, ?_⟩
      rw [show k + l.length - r + (r + l.length * q) = k + l.length * (q + 1) by rw [Nat.mul_add]; omega, Nat.add_mul_mod_self_left, Nat.mod_eq_of_lt hk, List.getElem?_eq_getElem hk]
set_option maxHeartbeats 4000000 in
theorem orderLaw_any (A : Option Addr) (l : List It) (cap : Nat) (a : Int) (B : Option Addr) (o : List It) (cbp : Nat) (w : World) (hr : Hid (ItRow w A l)) (hl : l.length ≤ 9223372036854775807) (hro : Hid (ItRow w B o)) (hlo : o.length ≤ 9223372036854775807) (ha0 : 0 ≤ a) :
    Calls Try.prog 7 #[.slice A l.length cap, .int .u64 a, .slice B o.length cbp] w fun e w' => e = .returned (.bool true) ∧ Below w.heap.size w w' := by
  have HAW := Kit.hid awake_any
  have HR := hr
  have HRO := hro
  clear hr hro
  go_enter Try.func7, Try.ntmps7
  go_wp2_with fail
  (with_reducible refine (HAW.out w).mono ?_); rintro e w1 ⟨rfl, hd1⟩
  have hr1 := itrow_below HR hd1
  have ho1 := itrow_below HRO hd1
  have HB1 := Kit.hid hd1
  clear hd1 HAW HR HRO
  by_cases hbig : 50 < l.length
  · have g1 : decide ((50 : Int) < (l.length : Int)) = true := decide_eq_true (by omega)
    clear hbig
    go_wp2
    go_ret
    exact ⟨rfl, HB1.out⟩
  have g1 : decide ((50 : Int) < (l.length : Int)) = false := decide_eq_false (by omega)
  have hll : l.length ≤ 50 := by omega
  clear hbig hl
  by_cases hbig : 50 < o.length
  · have g2 : decide ((50 : Int) < (o.length : Int)) = true := decide_eq_true (by omega)
    clear hbig
    go_wp2
    go_ret
    exact ⟨rfl, HB1.out⟩
  have g2 : decide ((50 : Int) < (o.length : Int)) = false := decide_eq_false (by omega)
  have hol : o.length ≤ 50 := by omega
  clear hbig hlo
  have HNW : Hid (∀ w', Calls Try.prog 16 #[] w' fun e w'' => ∃ g, e = .returned (.pointer (some ⟨g, 0, none⟩)) ∧ w'.heap.size ≤ g ∧ Items w' (fun _ => False) w'' g [] 1 ∧ Below w'.heap.size w' w'') := Kit.hid (fun w' => items_new (Kept.refl (fun _ => False) w'))
  go_wp2_with fail
  (with_reducible refine (HNW.out w1).mono ?_); rintro e w2 ⟨s, rfl, hs, his, hb2⟩
  have HIS := Kit.hid his
  clear his hb2
  go_wp2_with fail
  (with_reducible refine (HNW.out w2).mono ?_); rintro e w3 ⟨t, rfl, ht, hit, hb3⟩
  have HT3 : Hid (Two w1 w3 s [] 1 t [] 1) := Kit.hid (two_new HIS.out hit)
  clear hit hb3 HIS HNW hs ht
  have HPS : Hid (∀ x w' ls n lt m, Two w1 w' s ls n t lt m → n ≤ 1000 → Calls Try.prog 17 #[.pointer (some ⟨s, 0, none⟩), .agg #[.int .i64 (ShM.It.key x), .int .i64 (ShM.It.id x)]] w' fun e w'' => ∃ b, e = .returned (.bool b) ∧ Two w1 w'' s (putL x ls) (n + 1) t lt m) := Kit.hid (fun x w' ls n lt m h hn => two_put x h (by omega))
  have HPT : Hid (∀ x w' ls n lt m, Two w1 w' s ls n t lt m → m ≤ 1000 → Calls Try.prog 17 #[.pointer (some ⟨t, 0, none⟩), .agg #[.int .i64 (ShM.It.key x), .int .i64 (ShM.It.id x)]] w' fun e w'' => ∃ b, e = .returned (.bool b) ∧ Two w1 w'' s ls n t (putL x lt) (m + 1)) := Kit.hid (fun x w' ls n lt m h hn => (two_put x h.symm (by omega)).mono fun e w' h => h.imp fun b h => ⟨h.1, h.2.symm⟩)
  have HDT : Hid (∀ x w' ls n lt m, Two w1 w' s ls n t lt m → m ≤ 1000 → Calls Try.prog 21 #[.pointer (some ⟨t, 0, none⟩), .agg #[.int .i64 (ShM.It.key x), .int .i64 (ShM.It.id x)]] w' fun e w'' => ∃ b, e = .returned (.bool b) ∧ Two w1 w'' s ls n t (dropL x lt) m) := Kit.hid (fun x w' ls n lt m h hn => (two_drop x h.symm (by omega)).mono fun e w' h => h.imp fun b h => ⟨h.1, h.2.symm⟩)
  have HHS : Hid (∀ x w', Hid (ItRow w' A l) → Calls Try.prog 20 #[.slice A l.length cap, .agg #[.int .i64 (ShM.It.key x), .int .i64 (ShM.It.id x)]] w' fun e w'' => e = .returned (.bool (decide (x ∈ l))) ∧ Below w'.heap.size w' w'') := Kit.hid (fun x w' h => rhas_any A l cap x w' h (by omega))
  go_wp2_with fail
  go_loopw [10] (fun v10 wr => ∃ (i : Nat) (ls : List It), i ≤ l.length ∧ v10 = .int .i64 i ∧ Hid (∀ y, y ∈ ls ↔ y ∈ l.take i) ∧ Hid (Two w1 wr s ls (i + 1) t [] 1)) (fun i _ => l.length - (intOf i).toNat)
  case atStart => exact ⟨0, [], by omega, rfl, Kit.hid (fun y => by simp), HT3⟩
  case round =>
    obtain ⟨i, ls, hi, rfl, HM, hT⟩ := hrel
    by_cases hlt : i < l.length
    · obtain ⟨x, hx⟩ : ∃ x, l[i]? = some x := ⟨_, List.getElem?_eq_getElem hlt⟩
      obtain ⟨ad, hA, c0, c1⟩ := it_at (itrow_below hr1 hT.out.to) hx
      subst hA
      have HM2 : Hid (∀ y, y ∈ putL x ls ↔ y ∈ l.take (i + 1)) := Kit.hid (fun y => by rw [putL_mem_iff, HM.out, mem_take_succ hx, or_comm])
      clear hx
      go_wp2_with fail
      (with_reducible refine (HPS.out x _ _ _ _ _ hT.out (by omega)).mono ?_); rintro e w4 ⟨b, rfl, h4⟩
      have H4 := Kit.hid h4
      clear h4
      go_wp2_with fail
      go_roundw
      case rel => exact ⟨i + 1, _, by omega, by go_num, HM2, H4⟩
      case measure => simp [intOf]; omega
    · obtain rfl : i = l.length := by omega
      have HMS : Hid (∀ y, y ∈ ls ↔ y ∈ l) := Kit.hid (fun y => by rw [HM.out, List.take_length])
      clear HM
      obtain ⟨n1, hn1⟩ : ∃ n1, n1 = l.length + 1 := ⟨_, rfl⟩
      rw [← hn1] at hT
      have HN1 : Hid (n1 ≤ 51) := Kit.hid (by omega)
      clear hn1
      go_wp2_with fail
      go_loopw [11] (fun v11 wr => ∃ (i : Nat) (lt : List It), i ≤ o.length ∧ v11 = .int .i64 i ∧ Hid (∀ y, y ∈ lt ↔ y ∈ o.take i) ∧ Hid (Two w1 wr s ls n1 t lt (i + 1))) (fun i _ => o.length - (intOf i).toNat)
      case atStart => exact ⟨0, [], by omega, rfl, Kit.hid (fun y => by simp), hT⟩
      case round =>
        obtain ⟨i, lt, hi, rfl, HM, hT⟩ := hrel
        by_cases hlt : i < o.length
        · obtain ⟨x, hx⟩ : ∃ x, o[i]? = some x := ⟨_, List.getElem?_eq_getElem hlt⟩
          obtain ⟨ad, hA, c0, c1⟩ := it_at (itrow_below ho1 hT.out.to) hx
          subst hA
          have HM2 : Hid (∀ y, y ∈ putL x lt ↔ y ∈ o.take (i + 1)) := Kit.hid (fun y => by rw [putL_mem_iff, HM.out, mem_take_succ hx, or_comm])
          clear hx
          go_wp2_with fail
          (with_reducible refine (HPT.out x _ _ _ _ _ hT.out (by omega)).mono ?_); rintro e w4 ⟨b, rfl, h4⟩
          have H4 := Kit.hid h4
          clear h4
          go_wp2_with fail
          go_roundw
          case rel => exact ⟨i + 1, _, by omega, by go_num, HM2, H4⟩
          case measure => simp [intOf]; omega
        · obtain rfl : i = o.length := by omega
          have HMO : Hid (∀ y, y ∈ lt ↔ y ∈ o) := Kit.hid (fun y => by rw [HM.out, List.take_length])
          obtain ⟨n2, hn2⟩ : ∃ n2, n2 = o.length + 1 := ⟨_, rfl⟩
          rw [← hn2] at hT
          have HN2 : Hid (n2 ≤ 51) := Kit.hid (by omega)
          clear HM hn2
          obtain ⟨b, hb⟩ := Int.eq_ofNat_of_zero_le (Int.emod_nonneg a (b := 50) (by omega))
          have hb5 : b < 50 := by
            have := Int.emod_lt_of_pos a (b := 50) (by omega)
            omega
          go_wp2_with fail
          go_loopw [12] (fun v12 wr => ∃ (i : Nat) (lu : List It), i ≤ l.length ∧ v12 = .int .i64 i ∧ Hid (∀ y, y ∈ lu ↔ y ∈ o ∨ Turned l b i y) ∧ Hid (Two w1 wr s ls n1 t lu (n2 + i))) (fun i _ => l.length - (intOf i).toNat)
          case atStart => exact ⟨0, lt, by omega, rfl, Kit.hid (fun y => by rw [HMO.out]; simp [Turned]), hT⟩
          case round =>
            obtain ⟨i, lu, hi, rfl, HM, hT⟩ := hrel
            by_cases hlt : i < l.length
            · have hmod : (i + b) % l.length < l.length := Nat.mod_lt _ (by omega)
              obtain ⟨x, hx⟩ : ∃ x, l[(i + b) % l.length]? = some x := ⟨_, List.getElem?_eq_getElem hmod⟩
              obtain ⟨ad, hA, c0, c1⟩ := it_at (itrow_below hr1 hT.out.to) hx
              subst hA
              have HM2 : Hid (∀ y, y ∈ putL x lu ↔ y ∈ o ∨ Turned l b (i + 1) y) := Kit.hid (fun y => by rw [putL_mem_iff, HM.out, turned_succ hx]; constructor <;> (intro h; rcases h with h | h | h <;> simp [h]))
              clear hx
              have hrem : Int.tmod ((i : Int) + (b : Int)) (l.length : Int) = (((i + b) % l.length : Nat) : Int) := by
                rw [Int.tmod_eq_emod_of_nonneg (by omega)]; simp
              obtain ⟨q, hq⟩ : ∃ q, q = (i + b) % l.length := ⟨_, rfl⟩
              rw [← hq] at hrem hmod c0 c1
              clear hq
              go_wp2_with fail
              (with_reducible refine (HPT.out x _ _ _ _ _ hT.out (by have := HN2.out; omega)).mono ?_); rintro e w4 ⟨b, rfl, h4⟩
              have H4 := Kit.hid h4
              clear h4
              go_wp2_with fail
              go_roundw
              case rel => exact ⟨i + 1, _, by omega, by go_num, HM2, H4⟩
              case measure => simp [intOf]; omega
            · obtain rfl : i = l.length := by omega
              have HMU : Hid (∀ y, y ∈ lu ↔ y ∈ o ∨ y ∈ l) := Kit.hid (fun y => by rw [HM.out, turned_all])
              obtain ⟨n3, hn3⟩ : ∃ n3, n3 = n2 + l.length := ⟨_, rfl⟩
              rw [← hn3] at hT
              have HN3 : Hid (n3 ≤ 101) := Kit.hid (by have := HN2.out; omega)
              clear HM hn3
              go_wp2_with fail
              go_loopw [13] (fun v13 wr => ∃ (i : Nat) (lv : List It), i ≤ o.length ∧ v13 = .int .i64 i ∧ Hid (∀ y, y ∈ lv ↔ y ∈ l ∨ (y ∈ o ∧ y ∉ o.take i)) ∧ Hid (Two w1 wr s ls n1 t lv n3)) (fun i _ => o.length - (intOf i).toNat)
              case atStart => exact ⟨0, lu, by omega, rfl, Kit.hid (fun y => by rw [HMU.out]; simp [or_comm]), hT⟩
              case round =>
                obtain ⟨i, lv, hi, rfl, HM, hT⟩ := hrel
                by_cases hlt : i < o.length
                · obtain ⟨x, hx⟩ : ∃ x, o[i]? = some x := ⟨_, List.getElem?_eq_getElem hlt⟩
                  obtain ⟨ad, hA, c0, c1⟩ := it_at (itrow_below ho1 hT.out.to) hx
                  have HX := Kit.hid hx
                  have HRL := itrow_below hr1 hT.out.to
                  subst hA
                  clear hx
                  go_wp2_with fail
                  (with_reducible refine (HHS.out x _ HRL).mono ?_); rintro e w4 ⟨rfl, h4⟩
                  have H4 : Hid (Two w1 w4 s ls n1 t lv n3) := Kit.hid (hT.out.below h4)
                  have d0 := (h4.cell (cell_lt c0)).trans c0
                  have d1 := (h4.cell (cell_lt c1)).trans c1
                  clear h4 c0 c1 HRL
                  by_cases hin : x ∈ l
                  · have HM2 : Hid (∀ y, y ∈ lv ↔ y ∈ l ∨ (y ∈ o ∧ y ∉ o.take (i + 1))) := Kit.hid (fun y => by
                      rw [HM.out, mem_take_succ HX.out]
                      constructor
                      · rintro (h | ⟨h1, h2⟩)
                        · exact .inl h
                        · by_cases e : y = x
                          · subst e; exact .inl hin
                          · exact .inr ⟨h1, fun h => h.elim h2 e⟩
                      · rintro (h | ⟨h1, h2⟩)
                        · exact .inl h
                        · exact .inr ⟨h1, fun h => h2 (.inl h)⟩)
                    have hd : decide (x ∈ l) = true := decide_eq_true hin
                    rw [hd]
                    clear hin hd
                    go_wp2_with fail
                    go_roundw
                    case rel => exact ⟨i + 1, _, by omega, by go_num, HM2, H4⟩
                    case measure => simp [intOf]; omega
                  · have HM2 : Hid (∀ y, y ∈ dropL x lv ↔ y ∈ l ∨ (y ∈ o ∧ y ∉ o.take (i + 1))) := Kit.hid (fun y => by
                      rw [dropL_mem_iff, HM.out, mem_take_succ HX.out]
                      constructor
                      · rintro ⟨h | ⟨h1, h2⟩, h3⟩
                        · exact .inl h
                        · exact .inr ⟨h1, fun h => h.elim h2 h3⟩
                      · rintro (h | ⟨h1, h2⟩)
                        · exact ⟨.inl h, fun e => hin (by rw [← e]; exact h)⟩
                        · exact ⟨.inr ⟨h1, fun h => h2 (.inl h)⟩, fun e => h2 (.inr e)⟩)
                    have hd : decide (x ∈ l) = false := decide_eq_false hin
                    rw [hd]
                    clear hin hd
                    go_wp2_with fail
                    (with_reducible refine (HDT.out x _ _ _ _ _ H4.out (by have := HN3.out; omega)).mono ?_); rintro e w5 ⟨b, rfl, h5⟩
                    have H5 := Kit.hid h5
                    clear h5
                    go_wp2_with fail
                    go_roundw
                    case rel => exact ⟨i + 1, _, by omega, by go_num, HM2, H5⟩
                    case measure => simp [intOf]; omega
                · obtain rfl : i = o.length := by omega
                  have HEQ : Hid (ls = lv) := Kit.hid (rises_ext ls lv hT.out.rises hT.out.symm.rises (fun y => by rw [HMS.out, HM.out, List.take_length]; exact ⟨.inl, fun h => h.elim id (fun h => absurd h.1 h.2)⟩))
                  have hls : ls.length ≤ 101 := by have := hT.out.symm.length; have := HN3.out; rw [HEQ.out]; omega
                  have HTS := Kit.hid (two_told hT.out (by have := HN1.out; omega))
                  have HTT : Hid (∀ w', Two w1 w' s ls n1 t lv n3 → Calls Try.prog 25 #[.pointer (some ⟨t, 0, none⟩)] w' fun e w'' => ∃ v, e = .returned (.tuple #[v, .bool true]) ∧ w''.ownsRow w'.heap.size 24 2 v lv.length (flatI lv) ∧ Below w'.heap.size w' w'') := Kit.hid (fun w' h => two_told h.symm (by have := HN3.out; omega))
                  clear HM
                  go_wp2_with fail
                  (with_reducible refine HTS.out.mono ?_); rintro e w4 ⟨va, rfl, hva, hb4⟩
                  obtain ⟨A4, c4, rfl, hc4, _, _⟩ := own_readsS (by decide) hva
                  have HRA := itrow_cells hc4
                  have H4 : Hid (Two w1 w4 s ls n1 t lv n3) := Kit.hid (hT.out.below hb4)
                  clear hva hc4 hb4 HTS
                  go_wp2_with fail
                  (with_reducible refine (HTT.out _ H4.out).mono ?_); rintro e w5 ⟨vb, rfl, hvb, hb5⟩
                  obtain ⟨A5, c5, rfl, hc5, _, _⟩ := own_readsS (by decide) hvb
                  have HRB := itrow_cells hc5
                  have HRA5 := itrow_below HRA hb5
                  have H5 : Hid (Two w1 w5 s ls n1 t lv n3) := Kit.hid (H4.out.below hb5)
                  have HSM : Hid (Calls Try.prog 27 #[.slice A4 ls.length c4, .slice A5 lv.length c5] w5 fun e w' => e = .returned (.bool true) ∧ ∃ m, w' = w5.drewN m) := Kit.hid (by
                    have := same_any A4 A5 ls lv c4 c5 w5 HRA5 HRB (by omega) (by rw [← HEQ.out]; omega)
                    rw [decide_eq_true HEQ.out] at this
                    exact this)
                  clear hvb hc5 hb5
                  go_wp2_with fail
                  (with_reducible refine HSM.out.mono ?_); rintro e w6 ⟨rfl, m6, rfl⟩
                  have HE : Hid (Below w.heap.size w (w5.drewN m6)) := Kit.hid (below_drewN (HB1.out.trans (H5.out.to.mono HB1.out.size)) m6)
                  go_wp2
                  go_ret
                  exact ⟨rfl, HE.out⟩
end Go.Proofs.Ytgcmblklalcpgaa.Sh
