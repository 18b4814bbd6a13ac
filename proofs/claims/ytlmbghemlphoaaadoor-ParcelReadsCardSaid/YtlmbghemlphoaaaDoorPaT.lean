/- What the reference's Unpack reckons, step by step. -/
import Derived.Test.YtlmbghemlphoaaaDoorPaQ
namespace Go.Proofs.YtlmbghemlphoaaaDoor.Pa
open Go.RowKit Go.Proofs.YtlmbghemlphoaaaDoor.Kit Go.Proofs.YtlmbghemlphoaaaDoor.PaM Go.Proofs.YtlmbghemlphoaaaDoor.Le Go.IntWalk
set_option linter.unusedVariables false
set_option linter.unusedSimpArgs false
theorem drop_take_one {l : List (BitVec 8)} {k : Nat} (h : k < l.length) : (l.drop k).take 1 = [l[k]] := by
  rw [List.drop_eq_getElem_cons h]; rfl
theorem num_one_at {l : List (BitVec 8)} {k : Nat} (h : k < l.length) : LeM.num ((l.drop k).take 1) = l[k].toNat := by
  rw [drop_take_one h]; simp [LeM.num]
theorem num_two_at {l : List (BitVec 8)} {k : Nat} (h : k + 1 < l.length) : LeM.num ((l.drop k).take 2) = l[k].toNat + 256 * l[k + 1].toNat := by
  rw [List.drop_eq_getElem_cons (show k < l.length by omega), List.take_succ_cons]
  show l[k].toNat + 256 * LeM.num ((l.drop (k + 1)).take 1) = _
  rw [num_one_at h]
theorem ents_get : ∀ (m : Nat) (r : List (BitVec 8)) (i : Nat) (h : i < (ents m r).length), (ents m r)[i] = ⟨LeM.num ((r.drop (7 * i)).take 1), LeM.num ((r.drop (7 * i + 1)).take 2), LeM.num ((r.drop (7 * i + 3)).take 4)⟩
  | 0, r, i, h => absurd h (Nat.not_lt_zero _)
  | m + 1, r, 0, h => by simp [ents]
  | m + 1, r, i + 1, h => by
    have h' : i < (ents m (r.drop 7)).length := by simpa [ents] using h
    simp only [ents, List.getElem_cons_succ]
    rw [ents_get m (r.drop 7) i h', List.drop_drop, List.drop_drop, List.drop_drop]
    have e1 : 7 + 7 * i = 7 * (i + 1) := by omega
    have e2 : 7 + (7 * i + 1) = 7 * (i + 1) + 1 := by omega
    have e3 : 7 + (7 * i + 3) = 7 * (i + 1) + 3 := by omega
    rw [e1, e2, e3]
/-- The entry i, read off the bytes. -/
theorem ent_read {l : List (BitVec 8)} {m i : Nat} (hi : i < m) (hl : 9 + 7 * m + 4 ≤ l.length) :
    ∃ (h : i < (ents m (l.drop 9)).length) (h0 : 9 + 7 * i < l.length) (h1 : 10 + 7 * i < l.length) (h2 : 11 + 7 * i < l.length),
      (ents m (l.drop 9))[i].kind = l[9 + 7 * i].toNat ∧ (ents m (l.drop 9))[i].size = l[10 + 7 * i].toNat + 256 * l[11 + 7 * i].toNat ∧ (ents m (l.drop 9))[i].check = LeM.num ((l.drop (12 + 7 * i)).take 4) := by
  have h : i < (ents m (l.drop 9)).length := by rw [ents_length]; exact hi
  refine ⟨h, by omega, by omega, by omega, ?_, ?_, ?_⟩
  · rw [ents_get m _ i h, List.drop_drop]
    exact num_one_at _
  · rw [ents_get m _ i h]
    show LeM.num (((l.drop 9).drop (7 * i + 1)).take 2) = _
    rw [List.drop_drop]
    have e : 9 + (7 * i + 1) = 10 + 7 * i := by omega
    have e2 : 11 + 7 * i = 10 + 7 * i + 1 := by omega
    simp only [e, e2]
    exact num_two_at (by omega)
  · rw [ents_get m _ i h]
    show LeM.num (((l.drop 9).drop (7 * i + 3)).take 4) = _
    rw [List.drop_drop]
    have e : 9 + (7 * i + 3) = 12 + 7 * i := by omega
    rw [e]
def lastE : Int → List Ent → Int
  | last, [] => last
  | _, x :: E => lastE x.kind E
theorem erise_app : ∀ (last : Int) (E F : List Ent), erise last (E ++ F) = (erise last E && erise (lastE last E) F)
  | last, [], F => by simp [erise, lastE]
  | last, x :: E, F => by simp only [List.cons_append, erise, lastE, erise_app x.kind E F, Bool.and_assoc]
theorem lastE_snoc : ∀ (last : Int) (E : List Ent) (x : Ent), lastE last (E ++ [x]) = x.kind
  | _, [], _ => rfl
  | last, y :: E, x => by simp only [List.cons_append, lastE, lastE_snoc y.kind E x]
theorem total_app : ∀ E F : List Ent, total (E ++ F) = total E + total F
  | [], F => by simp [total]
  | x :: E, F => by simp only [List.cons_append, total, total_app E F]; omega
theorem cut_app : ∀ (E F : List Ent) (q : List (BitVec 8)), cut (E ++ F) q = cut E q ++ cut F (q.drop (total E))
  | [], F, q => by simp [cut, total]
  | x :: E, F, q => by simp only [List.cons_append, cut, cut_app E F, total, List.drop_drop]
theorem checks_app : ∀ (E F : List Ent) (q : List (BitVec 8)), checks (E ++ F) q = (checks E q && checks F (q.drop (total E)))
  | [], F, q => by simp [checks, total]
  | x :: E, F, q => by simp only [List.cons_append, checks, checks_app E F, total, List.drop_drop, Bool.and_assoc]
theorem take_next {E : List Ent} {i : Nat} {x : Ent} (h : i < E.length) (hx : x = E[i]) : E.take (i + 1) = E.take i ++ [x] := by
  rw [List.take_succ_eq_append_getElem h, hx]
theorem erise_bad {E : List Ent} {i : Nat} (h : erise 0 (E.take i) = false) : erise 0 E = false := by
  have := erise_app 0 (E.take i) (E.drop i)
  rw [List.take_append_drop, h, Bool.false_and] at this
  exact this
theorem checks_bad {E : List Ent} {i : Nat} {q : List (BitVec 8)} (h : checks (E.take i) q = false) : checks E q = false := by
  have := checks_app (E.take i) (E.drop i) q
  rw [List.take_append_drop, h, Bool.false_and] at this
  exact this
theorem total_le {E : List Ent} (i : Nat) : total (E.take i) ≤ total E := by
  have := total_app (E.take i) (E.drop i)
  rw [List.take_append_drop] at this
  omega
/-- A check as four bytes, and as a number. -/
theorem crcD_num {b r : List (BitVec 8)} (hr : r.length = 4) : decide (crcD b = r) = decide ((CrcM.more 0#32 b).toNat = LeM.num r) := by
  have h1 : crcD b = LeM.dig (CrcM.more 0#32 b).toNat 4 := rfl
  by_cases h : (CrcM.more 0#32 b).toNat = LeM.num r
  · rw [decide_eq_true h]
    refine decide_eq_true ?_
    rw [h1, h, ← hr]
    exact LeM.dig_num r
  · rw [decide_eq_false h]
    refine decide_eq_false fun e => h ?_
    rw [← e, h1, LeM.num_dig]
    exact (Nat.mod_eq_of_lt (crc_lt b)).symm
theorem strB_magic : strB magic = ⟨#[68, 80, 90, 49]⟩ := rfl
/-- The reference's check: four bytes of its own. -/
def CkPost (w : World) (b : List (BitVec 8)) (e : Ending) (w' : World) : Prop :=
  ∃ (A2 : Option Addr) (cap2 : Nat), e = .returned (.slice A2 4 cap2) ∧ Hid (Bytes w' A2 (crcD b)) ∧ Below w.heap.size w w'
theorem rcheck_any (A : Option Addr) (b : List (BitVec 8)) (n cap : Nat) (w : World) (hn : b.length = n) (hb : Hid (Bytes w A b)) (hl : n ≤ 140737488351232) :
    Calls Tryd.prog 25 #[.slice A n cap] w (CkPost w b) := by
  subst hn
  refine (check_any A b cap w hb hl).mono ?_
  rintro e w2 ⟨v2, rfl, hown, hd⟩
  obtain ⟨A2, cap2, rfl, hc2, _⟩ := own_reads hown
  rw [crcD_length]
  exact ⟨A2, cap2, rfl, bytes_of_cells hc2, hd⟩
/-- A slice compared with four bytes. -/
theorem rsame_four (A : Option Addr) (b : List (BitVec 8)) (cap : Nat) (B : Option Addr) (m : List (BitVec 8)) (d : Nat) (w : World) (hbl : b.length = 4) (hml : m.length = 4) (ha : Hid (Bytes w A b)) (hb : Hid (Bytes w B m)) :
    Calls Tryd.prog 15 #[.slice A 4 cap, .slice B 4 d] w fun e w' => e = .returned (.bool (decide (b = m))) ∧ ∃ n, w' = w.drewN n := by
  have h := Le.same_big A b cap B m d w ha hb (by rw [hbl]; decide) (by rw [hml]; decide)
  rw [hbl, hml] at h
  exact h
theorem magic_cmp (l : List (BitVec 8)) : ((strB l).toList == [68, 80, 90, 49]) = decide (l = magic) := by
  have h := strB_inj (l := l) (m := magic)
  rw [strB_magic] at h
  have e : (⟨#[68, 80, 90, 49]⟩ : ByteArray).toList = [68, 80, 90, 49] := by rw [ByteArray.toList_eq]
  rw [e] at h
  exact h
section
variable {l : List (BitVec 8)} {m : Nat} (h9 : ¬ l.length < 9) (hm : l.take 4 = magic) (hn : LeM.num ((l.drop 4).take 1) = m)
include h9 hm in
theorem unp_tab (x : Int) (h : tab l = x) (hx : x ≠ 0) : unp l = (x, []) := by
  unfold unp
  rw [if_neg h9, if_neg (fun n => n hm), h, if_pos hx]
include h9 hm in
theorem unp_sum1 (h : (l.drop 5).take 4 ≠ crcD (l.take 5)) : unp l = (4, []) :=
  unp_tab h9 hm 4 (by unfold tab; rw [if_pos h]) (by decide)
include h9 hm hn in
theorem unp_full (h : (l.drop 5).take 4 = crcD (l.take 5)) (h16 : 16 < m) : unp l = (7, []) :=
  unp_tab h9 hm 7 (by unfold tab; rw [if_neg (fun n => n h), hn, if_pos h16]) (by decide)
include h9 hm hn in
theorem unp_short (h : (l.drop 5).take 4 = crcD (l.take 5)) (h16 : ¬ 16 < m) (hs : l.length < 9 + 7 * m + 4) : unp l = (2, []) :=
  unp_tab h9 hm 2 (by unfold tab; rw [if_neg (fun n => n h), hn, if_neg h16, if_pos hs]) (by decide)
include h9 hm hn in
theorem unp_sum2 (h : (l.drop 5).take 4 = crcD (l.take 5)) (h16 : ¬ 16 < m) (hs : ¬ l.length < 9 + 7 * m + 4) (h2 : (l.drop (9 + 7 * m)).take 4 ≠ crcD (l.take (9 + 7 * m))) : unp l = (4, []) :=
  unp_tab h9 hm 4 (by unfold tab; rw [if_neg (fun n => n h), hn, if_neg h16, if_neg hs, if_pos h2]) (by decide)
include h9 hm hn in
theorem unp_tail (h : (l.drop 5).take 4 = crcD (l.take 5)) (h16 : ¬ 16 < m) (hs : ¬ l.length < 9 + 7 * m + 4) (h2 : (l.drop (9 + 7 * m)).take 4 = crcD (l.take (9 + 7 * m))) : unp l = tail (ents m (l.drop 9)) (l.drop (9 + 7 * m + 4)) := by
  have ht : tab l = 0 := by unfold tab; rw [if_neg (fun n => n h), hn, if_neg h16, if_neg hs, if_neg (fun n => n h2)]
  unfold unp
  rw [if_neg h9, if_neg (fun n => n hm), ht, if_neg (fun n => n rfl), hn]
end
/-- The entry i: its cells, and what it tells. -/
theorem ent_cells {w : World} {ad : Addr} {l : List (BitVec 8)} {m : Nat} (hb : Hid (Bytes w (some ad) l)) (hl : 9 + 7 * m + 4 ≤ l.length) (i : Nat) (hi : i < m) :
    ∃ k a b : Nat, k ≤ 255 ∧ a ≤ 255 ∧ b ≤ 255 ∧ Hid (∀ w', Below w.heap.size w w' → w'.cell? (ad.add (9 + 7 * i)) = some (.int .u8 (k : Int)) ∧ w'.cell? (ad.add (10 + 7 * i)) = some (.int .u8 (a : Int)) ∧ w'.cell? (ad.add (11 + 7 * i)) = some (.int .u8 (b : Int))) ∧
      Hid (∃ h : i < (ents m (l.drop 9)).length, (ents m (l.drop 9))[i] = ⟨k, a + 256 * b, LeM.num ((l.drop (12 + 7 * i)).take 4)⟩) := by
  obtain ⟨h, h0, h1, h2, e0, e1, e2⟩ := ent_read (l := l) hi hl
  refine ⟨l[9 + 7 * i].toNat, l[10 + 7 * i].toNat, l[11 + 7 * i].toNat, by have := l[9 + 7 * i].isLt; omega, by have := l[10 + 7 * i].isLt; omega, by have := l[11 + 7 * i].isLt; omega, Kit.hid (fun w' hw => ?_), Kit.hid ⟨h, ?_⟩⟩
  · have hb' := bytes_below hb hw
    obtain ⟨_, x0, c0⟩ := hb'.out _ h0
    cases x0
    obtain ⟨_, x1, c1⟩ := hb'.out _ h1
    cases x1
    obtain ⟨_, x2, c2⟩ := hb'.out _ h2
    cases x2
    exact ⟨c0, c1, c2⟩
  · rw [← e0, ← e1, ← e2]
theorem ent_size_le {m : Nat} {r : List (BitVec 8)} (i : Nat) : total ((ents m r).take i) ≤ 65535 * i := by
  induction i with
  | zero => simp [total]
  | succ i ih =>
    rcases Nat.lt_or_ge i (ents m r).length with h | h
    · rw [List.take_succ_eq_append_getElem h, total_app]
      have := (ents_kind m r _ (List.getElem_mem h)).2
      simp only [total]
      omega
    · rw [List.take_of_length_le (by omega)] at ih ⊢
      omega
end Go.Proofs.YtlmbghemlphoaaaDoor.Pa
