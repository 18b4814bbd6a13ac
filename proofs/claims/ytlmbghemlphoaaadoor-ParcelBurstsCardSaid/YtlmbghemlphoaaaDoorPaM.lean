/- The plain law of parcels: an image of sections, and what bytes tell; no program in sight. -/
import Derived.Test.YtlmbghemlphoaaaDoorCrcM
import Derived.Test.YtlmbghemlphoaaaDoorLeM
namespace Go.Proofs.YtlmbghemlphoaaaDoor.PaM
open Go.Proofs.YtlmbghemlphoaaaDoor.CrcM Go.Proofs.YtlmbghemlphoaaaDoor.LeM
set_option linter.unusedVariables false
set_option linter.unusedSimpArgs false
abbrev Byte := BitVec 8
def magic : List Byte := [68#8, 80#8, 90#8, 49#8]
structure Sec where
  kind : Int
  body : List Byte
  deriving DecidableEq, Inhabited
def rising : Int → List Sec → Bool
  | _, [] => true
  | last, s :: l => decide (last < s.kind) && (decide (s.kind ≤ 255) && rising s.kind l)
def anyLong (l : List Sec) : Bool := l.any fun s => decide (65535 < s.body.length)
def wrong (l : List Sec) : Int := if 16 < l.length then 7 else if rising 0 l = false then 21 else if anyLong l = true then 22 else 0
def crcD (b : List Byte) : List Byte := dig (more 0#32 b).toNat 4
def row (s : Sec) : List Byte := dig s.kind.toNat 1 ++ (dig s.body.length 2 ++ crcD s.body)
def hd (n : Nat) : List Byte := magic ++ dig n 1
def rows (l : List Sec) : List Byte := l.flatMap row
def bodies (l : List Sec) : List Byte := l.flatMap Sec.body
def top (l : List Sec) : List Byte := hd l.length ++ (crcD (hd l.length) ++ rows l)
def img (l : List Sec) : List Byte := top l ++ (crcD (top l) ++ bodies l)
structure Ent where
  kind : Nat
  size : Nat
  check : Nat
  deriving Inhabited
def ents : Nat → List Byte → List Ent
  | 0, _ => []
  | m + 1, r => ⟨num (r.take 1), num ((r.drop 1).take 2), num ((r.drop 3).take 4)⟩ :: ents m (r.drop 7)
def erise : Int → List Ent → Bool
  | _, [] => true
  | last, x :: l => decide (last < (x.kind : Int)) && erise x.kind l
def total : List Ent → Nat
  | [] => 0
  | x :: l => x.size + total l
def cut : List Ent → List Byte → List Sec
  | [], _ => []
  | x :: l, r => ⟨x.kind, r.take x.size⟩ :: cut l (r.drop x.size)
def checks : List Ent → List Byte → Bool
  | [], _ => true
  | x :: l, r => decide ((more 0#32 (r.take x.size)).toNat = x.check) && checks l (r.drop x.size)
/-- What a table that is right tells. -/
def tail (E : List Ent) (r : List Byte) : Int × List Sec :=
  if erise 0 E = false then (21, []) else if r.length < total E then (2, []) else if total E < r.length then (3, []) else if checks E r = false then (4, []) else (0, cut E r)
/-- The table of bytes, or what is wrong with it. -/
def tab (b : List Byte) : Int :=
  if (b.drop 5).take 4 ≠ crcD (b.take 5) then 4
  else if 16 < num ((b.drop 4).take 1) then 7
  else if b.length < 9 + 7 * num ((b.drop 4).take 1) + 4 then 2
  else if (b.drop (9 + 7 * num ((b.drop 4).take 1))).take 4 ≠ crcD (b.take (9 + 7 * num ((b.drop 4).take 1))) then 4 else 0
def unp (b : List Byte) : Int × List Sec :=
  if b.length < 9 then (2, [])
  else if b.take 4 ≠ magic then (20, [])
  else if tab b ≠ 0 then (tab b, [])
  else tail (ents (num ((b.drop 4).take 1)) (b.drop 9)) (b.drop (9 + 7 * num ((b.drop 4).take 1) + 4))
theorem crcD_length (b : List Byte) : (crcD b).length = 4 := dig_length _ _
theorem row_length (s : Sec) : (row s).length = 7 := by simp [row, dig_length, crcD_length]
theorem hd_length (n : Nat) : (hd n).length = 5 := by simp [hd, magic, dig_length]
theorem rows_length : ∀ l : List Sec, (rows l).length = 7 * l.length
  | [] => rfl
  | s :: l => by
    have := rows_length l
    simp only [rows, List.flatMap_cons, List.length_append, row_length, List.length_cons] at this ⊢
    omega
theorem top_length (l : List Sec) : (top l).length = 9 + 7 * l.length := by simp [top, hd_length, crcD_length, rows_length]; omega
theorem img_length (l : List Sec) : (img l).length = 13 + 7 * l.length + (bodies l).length := by simp [img, top_length, crcD_length]; omega
theorem crc_lt (b : List Byte) : (more 0#32 b).toNat < 256 ^ 4 := (more 0#32 b).isLt
theorem crcD_eq {a b : List Byte} : crcD a = crcD b ↔ more 0#32 a = more 0#32 b := by
  unfold crcD
  rw [dig_eq, Nat.mod_eq_of_lt (crc_lt a), Nat.mod_eq_of_lt (crc_lt b)]
  exact ⟨fun h => BitVec.eq_of_toNat_eq h, fun h => by rw [h]⟩
theorem rising_spec : ∀ (last : Int) (l : List Sec), 0 ≤ last → rising last l = true → ∀ s ∈ l, 0 < s.kind ∧ s.kind ≤ 255
  | last, [], h0, h, s, hs => by cases hs
  | last, x :: l, h0, h, s, hs => by
    simp only [rising, Bool.and_eq_true, decide_eq_true_eq] at h
    rcases List.mem_cons.1 hs with rfl | hs
    · omega
    · exact rising_spec x.kind l (by omega) h.2.2 s hs
def entOf (s : Sec) : Ent := ⟨s.kind.toNat, s.body.length, (more 0#32 s.body).toNat⟩
theorem take_app {a b : List Byte} {n : Nat} (h : a.length = n) : (a ++ b).take n = a := by rw [← h]; simp
theorem drop_app {a b : List Byte} {n : Nat} (h : a.length = n) : (a ++ b).drop n = b := by rw [← h]; simp
theorem ents_rows : ∀ (l : List Sec) (X : List Byte), (∀ s ∈ l, 0 < s.kind ∧ s.kind ≤ 255) → (∀ s ∈ l, s.body.length ≤ 65535) → ents l.length (rows l ++ X) = l.map entOf
  | [], _, _, _ => rfl
  | s :: l, X, h1, h2 => by
    have hk := h1 s List.mem_cons_self
    have hb := h2 s List.mem_cons_self
    have e : rows (s :: l) ++ X = dig s.kind.toNat 1 ++ (dig s.body.length 2 ++ (crcD s.body ++ (rows l ++ X))) := by simp [rows, row]
    rw [List.length_cons, ents, e, take_app (dig_length _ _), drop_app (dig_length _ _), take_app (dig_length _ _)]
    have e3 : (dig s.kind.toNat 1 ++ (dig s.body.length 2 ++ (crcD s.body ++ (rows l ++ X)))).drop 3 = crcD s.body ++ (rows l ++ X) := by
      rw [← List.append_assoc]
      exact drop_app (by simp [dig_length])
    have e7 : (dig s.kind.toNat 1 ++ (dig s.body.length 2 ++ (crcD s.body ++ (rows l ++ X)))).drop 7 = rows l ++ X := by
      rw [← List.append_assoc, ← List.append_assoc]
      exact drop_app (by simp [dig_length, crcD_length])
    rw [e3, e7, take_app (crcD_length _), ents_rows l X (fun s hs => h1 s (List.mem_cons_of_mem _ hs)) (fun s hs => h2 s (List.mem_cons_of_mem _ hs))]
    unfold crcD
    rw [num_dig, num_dig, num_dig, Nat.mod_eq_of_lt (crc_lt _), Nat.mod_eq_of_lt (by omega), Nat.mod_eq_of_lt (by omega)]
    rfl
theorem erise_map : ∀ (last : Int) (l : List Sec), 0 ≤ last → rising last l = true → erise last (l.map entOf) = true
  | _, [], _, _ => rfl
  | last, s :: l, h0, h => by
    simp only [rising, Bool.and_eq_true, decide_eq_true_eq] at h
    have e : ((entOf s).kind : Int) = s.kind := by simp only [entOf]; omega
    simp only [List.map_cons, erise, e, Bool.and_eq_true, decide_eq_true_eq]
    exact ⟨h.1, erise_map s.kind l (by omega) h.2.2⟩
theorem total_map : ∀ l : List Sec, total (l.map entOf) = (bodies l).length
  | [] => rfl
  | s :: l => by
    have := total_map l
    simp only [bodies] at this
    simp [total, bodies, entOf, this]
theorem cut_map : ∀ (l : List Sec) (X : List Byte), (∀ s ∈ l, 0 < s.kind) → cut (l.map entOf) (bodies l ++ X) = l ∧ checks (l.map entOf) (bodies l ++ X) = true
  | [], _, _ => ⟨rfl, rfl⟩
  | s :: l, X, h => by
    have hk := h s List.mem_cons_self
    obtain ⟨i1, i2⟩ := cut_map l X (fun s hs => h s (List.mem_cons_of_mem _ hs))
    have e : bodies (s :: l) ++ X = s.body ++ (bodies l ++ X) := by simp [bodies]
    simp only [List.map_cons, cut, checks, e]
    have et : (s.body ++ (bodies l ++ X)).take (entOf s).size = s.body := take_app rfl
    have ed : (s.body ++ (bodies l ++ X)).drop (entOf s).size = bodies l ++ X := drop_app rfl
    rw [et, ed, i1, i2]
    refine ⟨?_, by simp [entOf]⟩
    have ek : ((entOf s).kind : Int) = s.kind := by simp only [entOf]; omega
    rw [ek]
theorem wrong_ok {l : List Sec} (h : wrong l = 0) : l.length ≤ 16 ∧ rising 0 l = true ∧ ∀ s ∈ l, s.body.length ≤ 65535 := by
  unfold wrong at h
  by_cases h1 : 16 < l.length
  · rw [if_pos h1] at h; cases h
  · rw [if_neg h1] at h
    by_cases h2 : rising 0 l = false
    · rw [if_pos h2] at h; cases h
    · rw [if_neg h2] at h
      by_cases h3 : anyLong l = true
      · rw [if_pos h3] at h; cases h
      · refine ⟨by omega, by simpa using h2, fun s hs => ?_⟩
        unfold anyLong at h3
        rw [List.any_eq_true] at h3
        rcases Nat.lt_or_ge 65535 s.body.length with h4 | h4
        · exact absurd ⟨s, hs, by simpa using h4⟩ h3
        · exact h4
/-- What was packed is unpacked. -/
theorem unp_img {l : List Sec} (h : wrong l = 0) : unp (img l) = (0, l) := by
  obtain ⟨h1, h2, h3⟩ := wrong_ok h
  have hk := rising_spec 0 l (by decide) h2
  have e0 : img l = magic ++ (dig l.length 1 ++ (crcD (hd l.length) ++ (rows l ++ (crcD (top l) ++ bodies l)))) := by simp [img, top, hd]
  have e5 : img l = hd l.length ++ (crcD (hd l.length) ++ (rows l ++ (crcD (top l) ++ bodies l))) := by simp [img, top]
  have e9 : (img l).drop 9 = rows l ++ (crcD (top l) ++ bodies l) := by
    rw [e5, ← List.append_assoc]
    exact drop_app (by simp [hd_length, crcD_length])
  have et : img l = top l ++ (crcD (top l) ++ bodies l) := rfl
  have hm : num (((img l).drop 4).take 1) = l.length := by
    rw [e0, drop_app (show magic.length = 4 from rfl), take_app (dig_length _ _), num_dig, Nat.mod_eq_of_lt (by omega)]
  have htab : tab (img l) = 0 := by
    unfold tab
    rw [hm]
    rw [if_neg (by
      rw [e5, drop_app (hd_length _), take_app (crcD_length _), take_app (hd_length _)]
      exact fun h => h rfl), if_neg (by omega), if_neg (by rw [img_length]; omega)]
    rw [if_neg (by
      rw [et, drop_app (top_length _), take_app (crcD_length _), take_app (top_length _)]
      exact fun h => h rfl)]
  unfold unp
  rw [if_neg (by rw [img_length]; omega), if_neg (by rw [e0, take_app (show magic.length = 4 from rfl)]; exact fun h => h rfl), if_neg (by rw [htab]; exact fun h => h rfl), hm, e9, ents_rows l _ hk h3]
  have ed : (img l).drop (9 + 7 * l.length + 4) = bodies l := by
    rw [et, ← List.append_assoc]
    exact drop_app (by simp [top_length, crcD_length])
  rw [ed]
  unfold tail
  have hc := cut_map l [] (fun s hs => (hk s hs).1)
  rw [List.append_nil] at hc
  rw [if_neg (by rw [erise_map 0 l (by decide) h2]; decide), total_map, if_neg (Nat.lt_irrefl _), if_neg (Nat.lt_irrefl _), hc.1, hc.2]
  rfl
theorem ents_length : ∀ (m : Nat) (r : List Byte), (ents m r).length = m
  | 0, _ => rfl
  | m + 1, r => by simp [ents, ents_length m]
theorem cut_length : ∀ (E : List Ent) (r : List Byte), (cut E r).length = E.length
  | [], _ => rfl
  | x :: E, r => by simp [cut, cut_length E]
theorem bodies_cut : ∀ (E : List Ent) (r : List Byte), r.length = total E → bodies (cut E r) = r
  | [], r, h => by
    simp only [total] at h
    rw [List.length_eq_zero_iff.1 h]; rfl
  | x :: E, r, h => by
    simp only [total] at h
    have := bodies_cut E (r.drop x.size) (by simp; omega)
    simp only [bodies] at this
    simp [cut, bodies, this]
theorem dig_back {r : List Byte} {n k : Nat} (hr : r.length = k) (hn : num r = n) : dig n k = r := by rw [← hn, ← hr, dig_num]
theorem rows_cut : ∀ (m : Nat) (r q : List Byte), 7 * m ≤ r.length → total (ents m r) ≤ q.length → checks (ents m r) q = true → rows (cut (ents m r) q) = r.take (7 * m)
  | 0, _, _, _, _, _ => rfl
  | m + 1, r, q, h1, h2, h3 => by
    simp only [ents, total] at h2
    simp only [ents, checks, Bool.and_eq_true, decide_eq_true_eq] at h3
    have i := rows_cut m (r.drop 7) (q.drop (num ((r.drop 1).take 2))) (by rw [List.length_drop]; omega) (by rw [List.length_drop]; omega) h3.2
    simp only [rows] at i
    simp only [ents, cut, rows, List.flatMap_cons, i]
    have l1 : (r.take 1).length = 1 := by simp; omega
    have l2 : ((r.drop 1).take 2).length = 2 := by simp; omega
    have l3 : ((r.drop 3).take 4).length = 4 := by simp; omega
    have e1 : dig (((num (r.take 1) : Nat) : Int)).toNat 1 = r.take 1 := by rw [Int.toNat_natCast]; exact dig_back l1 rfl
    have e2 : dig (q.take (num ((r.drop 1).take 2))).length 2 = (r.drop 1).take 2 := by
      rw [List.length_take, Nat.min_eq_left (by omega)]
      exact dig_back l2 rfl
    have e3 : crcD (q.take (num ((r.drop 1).take 2))) = (r.drop 3).take 4 := by
      unfold crcD
      rw [h3.1]
      exact dig_back l3 rfl
    simp only [row, e1, e2, e3]
    have s1 : r.take (7 * (m + 1)) = r.take 1 ++ ((r.drop 1).take 2 ++ ((r.drop 3).take 4 ++ (r.drop 7).take (7 * m))) := by
      rw [show 7 * (m + 1) = 1 + (2 + (4 + 7 * m)) by omega, List.take_add, List.take_add, List.take_add, List.drop_drop, List.drop_drop]
    rw [s1]
    simp
theorem erise_back : ∀ (last : Int) (E : List Ent) (q : List Byte), (∀ x ∈ E, x.kind ≤ 255) → erise last E = true → rising last (cut E q) = true
  | _, [], _, _, _ => rfl
  | last, x :: E, q, h, h2 => by
    simp only [erise, Bool.and_eq_true, decide_eq_true_eq] at h2
    have hx := h x List.mem_cons_self
    simp only [cut, rising, Bool.and_eq_true, decide_eq_true_eq]
    exact ⟨h2.1, by omega, erise_back x.kind E _ (fun y hy => h y (List.mem_cons_of_mem _ hy)) h2.2⟩
theorem num_one (r : List Byte) : num (r.take 1) ≤ 255 := by
  have := num_lt (r.take 1)
  have h2 : 256 ^ (r.take 1).length ≤ 256 ^ 1 := Nat.pow_le_pow_right (by decide) (by simp; omega)
  omega
theorem num_two (r : List Byte) : num (r.take 2) ≤ 65535 := by
  have := num_lt (r.take 2)
  have h2 : 256 ^ (r.take 2).length ≤ 256 ^ 2 := Nat.pow_le_pow_right (by decide) (by simp; omega)
  omega
theorem ents_kind : ∀ (m : Nat) (r : List Byte), ∀ x ∈ ents m r, x.kind ≤ 255 ∧ x.size ≤ 65535
  | 0, _, x, h => by cases h
  | m + 1, r, x, h => by
    simp only [ents, List.mem_cons] at h
    rcases h with rfl | h
    · exact ⟨num_one r, num_two _⟩
    · exact ents_kind m _ x h
theorem cut_small : ∀ (E : List Ent) (q : List Byte), (∀ x ∈ E, x.size ≤ 65535) → ∀ s ∈ cut E q, s.body.length ≤ 65535
  | [], _, _, s, h => by cases h
  | x :: E, q, h, s, hs => by
    simp only [cut, List.mem_cons] at hs
    rcases hs with rfl | hs
    · have := h x List.mem_cons_self
      simp only [List.length_take]
      omega
    · exact cut_small E _ (fun y hy => h y (List.mem_cons_of_mem _ hy)) s hs
theorem pair_ne {a : Int} {l m : List Sec} (h : (a, l) = (0, m)) (ha : a ≠ 0) : False := ha (congrArg Prod.fst h)
theorem tab_ok {b : List Byte} (h : tab b = 0) : (b.drop 5).take 4 = crcD (b.take 5) ∧ num ((b.drop 4).take 1) ≤ 16 ∧ 9 + 7 * num ((b.drop 4).take 1) + 4 ≤ b.length ∧
    (b.drop (9 + 7 * num ((b.drop 4).take 1))).take 4 = crcD (b.take (9 + 7 * num ((b.drop 4).take 1))) := by
  unfold tab at h
  by_cases h1 : (b.drop 5).take 4 = crcD (b.take 5)
  · rw [if_neg (fun n => n h1)] at h
    by_cases h2 : 16 < num ((b.drop 4).take 1)
    · rw [if_pos h2] at h; cases h
    · rw [if_neg h2] at h
      by_cases h3 : b.length < 9 + 7 * num ((b.drop 4).take 1) + 4
      · rw [if_pos h3] at h; cases h
      · rw [if_neg h3] at h
        by_cases h4 : (b.drop (9 + 7 * num ((b.drop 4).take 1))).take 4 = crcD (b.take (9 + 7 * num ((b.drop 4).take 1)))
        · exact ⟨h1, by omega, by omega, h4⟩
        · rw [if_pos h4] at h; cases h
  · rw [if_pos h1] at h; cases h
theorem tail_ok {E : List Ent} {r : List Byte} {l : List Sec} (h : tail E r = (0, l)) : erise 0 E = true ∧ r.length = total E ∧ checks E r = true ∧ l = cut E r := by
  unfold tail at h
  by_cases h1 : erise 0 E = false
  · rw [if_pos h1] at h; exact (pair_ne h (by decide)).elim
  · rw [if_neg h1] at h
    by_cases h2 : r.length < total E
    · rw [if_pos h2] at h; exact (pair_ne h (by decide)).elim
    · rw [if_neg h2] at h
      by_cases h3 : total E < r.length
      · rw [if_pos h3] at h; exact (pair_ne h (by decide)).elim
      · rw [if_neg h3] at h
        by_cases h4 : checks E r = false
        · rw [if_pos h4] at h; exact (pair_ne h (by decide)).elim
        · rw [if_neg h4] at h
          exact ⟨by simpa using h1, by omega, by simpa using h4, (congrArg Prod.snd h).symm⟩
/-- What is unpacked, packed, is the same bytes. -/
theorem img_unp {b : List Byte} {l : List Sec} (h : unp b = (0, l)) : wrong l = 0 ∧ img l = b := by
  unfold unp at h
  by_cases h1 : b.length < 9
  · rw [if_pos h1] at h; exact (pair_ne h (by decide)).elim
  rw [if_neg h1] at h
  by_cases h2 : b.take 4 = magic
  · rw [if_neg (fun n => n h2)] at h
    by_cases h3 : tab b = 0
    · rw [if_neg (fun n => n h3)] at h
      obtain ⟨t1, t2, t3, t4⟩ := tab_ok h3
      obtain ⟨m, hm⟩ : ∃ m, m = num ((b.drop 4).take 1) := ⟨_, rfl⟩
      rw [← hm] at t2 t3 t4 h
      obtain ⟨u1, u2, u3, rfl⟩ := tail_ok h
      have hlen : (cut (ents m (b.drop 9)) (b.drop (9 + 7 * m + 4))).length = m := by rw [cut_length, ents_length]
      have hrise := erise_back 0 (ents m (b.drop 9)) (b.drop (9 + 7 * m + 4)) (fun x hx => (ents_kind m _ x hx).1) u1
      have hsmall := cut_small (ents m (b.drop 9)) (b.drop (9 + 7 * m + 4)) (fun x hx => (ents_kind m _ x hx).2)
      constructor
      · unfold wrong
        rw [if_neg (by omega), hrise, if_neg (by decide), if_neg]
        unfold anyLong
        rw [List.any_eq_true]
        rintro ⟨s, hs, h5⟩
        have := hsmall s hs
        simp at h5
        omega
      · have hh : hd m = b.take 5 := by
          unfold hd
          rw [dig_back (r := (b.drop 4).take 1) (by simp; omega) hm.symm, ← h2, ← List.take_add]
        have hr := rows_cut m (b.drop 9) (b.drop (9 + 7 * m + 4)) (by simp; omega) (by omega) u3
        have htop : top (cut (ents m (b.drop 9)) (b.drop (9 + 7 * m + 4))) = b.take (9 + 7 * m) := by
          unfold top
          rw [hlen, hr, hh, ← t1, show 9 + 7 * m = 5 + (4 + 7 * m) by omega, List.take_add (i := 5), List.take_add (i := 4), List.drop_drop]
        unfold img
        rw [htop, bodies_cut _ _ u2, ← t4]
        have : b = b.take (9 + 7 * m) ++ ((b.drop (9 + 7 * m)).take 4 ++ (b.drop (9 + 7 * m)).drop 4) := by rw [List.take_append_drop, List.take_append_drop]
        rw [List.drop_drop] at this
        exact this.symm
    · rw [if_pos h3] at h; exact (pair_ne h h3).elim
  · rw [if_pos h2] at h; exact (pair_ne h (by decide)).elim
end Go.Proofs.YtlmbghemlphoaaaDoor.PaM
