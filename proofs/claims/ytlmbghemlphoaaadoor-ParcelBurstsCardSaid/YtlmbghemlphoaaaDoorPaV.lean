/- What differs within 32 bits in a row, what is cut off, and what has more behind it, is no image: the plain law, no program in sight. -/
import Derived.Test.YtlmbghemlphoaaaDoorPaM
import Derived.Test.YtlmbghemlphoaaaDoorCrcN
namespace Go.Proofs.YtlmbghemlphoaaaDoor.PaM
open Go.Proofs.YtlmbghemlphoaaaDoor.CrcM Go.Proofs.YtlmbghemlphoaaaDoor.LeM
set_option linter.unusedVariables false
set_option linter.unusedSimpArgs false
def bit (l : List Byte) (j : Nat) : Bool := (l.getD (j / 8) 0#8).getLsbD (j % 8)
theorem bit_out {l : List Byte} {j : Nat} (h : 8 * l.length ≤ j) : bit l j = false := by
  unfold bit
  rw [List.getD_eq_getElem?_getD, List.getElem?_eq_none (by omega)]
  simp
theorem ext_bits {a c : List Byte} (hl : a.length = c.length) (h : ∀ j, bit a j = bit c j) : a = c := by
  refine List.ext_getElem hl fun i h1 h2 => BitVec.eq_of_getLsbD_eq fun p hp => ?_
  have := h (8 * i + p)
  unfold bit at this
  rw [show (8 * i + p) / 8 = i by omega, show (8 * i + p) % 8 = p by omega, List.getD_eq_getElem?_getD, List.getD_eq_getElem?_getD, List.getElem?_eq_getElem h1, List.getElem?_eq_getElem h2] at this
  exact this
theorem bit_flip {l : List Byte} {s : Nat} (hs : s / 8 < l.length) (j : Nat) : bit (l.set (s / 8) (l[s / 8] ^^^ (1#8 <<< (s % 8)))) j = if j = s then !bit l j else bit l j := by
  unfold bit
  rw [List.getD_eq_getElem?_getD, List.getD_eq_getElem?_getD, List.getElem?_set]
  by_cases hq : s / 8 = j / 8
  · rw [if_pos hq, if_pos hs, ← hq, List.getElem?_eq_getElem hs]
    simp only [Option.getD_some, BitVec.getLsbD_xor, BitVec.getLsbD_shiftLeft]
    by_cases hj : j = s
    · subst hj
      rw [if_pos rfl]
      have h8 : j % 8 < 8 := by omega
      simp [h8]
    · rw [if_neg hj]
      have h8 : j % 8 < 8 := by omega
      rcases Nat.lt_or_ge (j % 8) (s % 8) with h | h
      · simp [h8, h]
      · have : j % 8 - s % 8 ≠ 0 := by omega
        simp [h8, this]
  · rw [if_neg hq, if_neg (by intro h; exact hq (by rw [h]))]
/-- Two texts of one length that differ within i bits from bit k on. -/
theorem near_crc_at (l : List Byte) (k : Nat) : ∀ i, i ≤ 32 → ∀ X : List Byte, X.length = l.length → (∀ j, bit X j ≠ bit l j → k ≤ j ∧ j < k + i) →
    ∃ v : BitVec 32, more 0#32 X = more 0#32 l ^^^ stepN (8 * l.length - k) v ∧ (∀ j, i ≤ j → v.getLsbD j = false) ∧ (v = 0#32 → X = l)
  | 0, _, X, hl, h => ⟨0#32, by
      have : X = l := ext_bits hl fun j => Classical.byContradiction fun n => by have := h j n; omega
      rw [this, stepN_zero, BitVec.xor_zero], fun j _ => by simp, fun _ => ext_bits hl fun j => Classical.byContradiction fun n => by have := h j n; omega⟩
  | i + 1, hi, X, hl, h => by
    by_cases hb : bit X (k + i) = bit l (k + i)
    · obtain ⟨v, h1, h2, h3⟩ := near_crc_at l k i (by omega) X hl (fun j hj => by
        have := h j hj
        have : j ≠ k + i := fun e => hj (by rw [e]; exact hb)
        omega)
      exact ⟨v, h1, fun j hj => h2 j (by omega), h3⟩
    · have hlt : k + i < 8 * l.length := by
        rcases Nat.lt_or_ge (k + i) (8 * l.length) with h | h
        · exact h
        · exact absurd (by rw [bit_out (by omega), bit_out h]) hb
      have hlx : k + i < 8 * X.length := by rw [hl]; exact hlt
      obtain ⟨v, h1, h2, h3⟩ := near_crc_at l k i (by omega) (X.set ((k + i) / 8) (X[(k + i) / 8]'(by omega) ^^^ (1#8 <<< ((k + i) % 8)))) (by simp [hl]) (fun j hj => by
        rw [bit_flip (by omega)] at hj
        by_cases e : j = k + i
        · subst e
          rw [if_pos rfl] at hj
          exact absurd (by revert hb; cases bit X (k + i) <;> cases bit l (k + i) <;> simp) hj
        · rw [if_neg e] at hj
          have := h j hj
          omega)
      have hm := more_burst 0#32 X k i (by omega) hlx
      rw [h1, hl] at hm
      refine ⟨v ^^^ (1#32 <<< i), ?_, fun j hj => ?_, fun e => ?_⟩
      · rw [stepN_xor, ← BitVec.xor_assoc, hm, BitVec.xor_assoc, BitVec.xor_self, BitVec.xor_zero]
      · rw [BitVec.getLsbD_xor, h2 j (by omega), BitVec.getLsbD_shiftLeft]
        have : ¬ j - i = 0 := by omega
        simp [this]
      · exfalso
        have h5 : (v ^^^ (1#32 <<< i)).getLsbD i = true := by
          rw [BitVec.getLsbD_xor, h2 i (Nat.le_refl _), BitVec.getLsbD_shiftLeft]
          have : i < 32 := by omega
          simp [this]
        rw [e] at h5
        simp at h5
/-- Texts of one length, all whose bits that differ lie within 32 in a row. -/
def Near (a c : List Byte) : Prop := a.length = c.length ∧ ∀ i j, bit a i ≠ bit c i → bit a j ≠ bit c j → j < i + 32
theorem least {P : Nat → Prop} (n : Nat) (h : P n) : ∃ k, P k ∧ ∀ j, P j → k ≤ j := by
  induction n using Nat.strongRecOn with
  | _ n ih =>
    by_cases hx : ∃ m, m < n ∧ P m
    · obtain ⟨m, h1, h2⟩ := hx
      exact ih m h1 h2
    · exact ⟨n, h, fun j hj => Nat.le_of_not_lt fun hlt => hx ⟨j, hlt, hj⟩⟩
theorem Near.crc {a c : List Byte} (h : Near a c) (hc : more 0#32 a = more 0#32 c) : a = c := by
  by_cases hx : ∃ j, bit a j ≠ bit c j
  · obtain ⟨n, hn⟩ := hx
    obtain ⟨k, hk, hmin⟩ := least (P := fun j => bit a j ≠ bit c j) n hn
    obtain ⟨v, h1, _, h3⟩ := near_crc_at c k 32 (Nat.le_refl _) a h.1 (fun j hj => ⟨hmin j hj, h.2 k j hk hj⟩)
    rw [hc] at h1
    exact h3 (stepN_eq_zero (xor_eq_self.1 h1.symm))
  · exact ext_bits h.1 fun j => Classical.byContradiction fun n => hx ⟨j, n⟩
theorem bit_take (a : List Byte) (n j : Nat) : bit (a.take n) j = if j / 8 < n then bit a j else false := by
  unfold bit
  rw [List.getD_eq_getElem?_getD, List.getD_eq_getElem?_getD, List.getElem?_take]
  by_cases h : j / 8 < n
  · rw [if_pos h, if_pos h]
  · rw [if_neg h, if_neg h]; simp
theorem bit_drop (a : List Byte) (n j : Nat) : bit (a.drop n) j = bit a (8 * n + j) := by
  unfold bit
  rw [List.getD_eq_getElem?_getD, List.getD_eq_getElem?_getD, List.getElem?_drop, show (8 * n + j) / 8 = n + j / 8 by omega, show (8 * n + j) % 8 = j % 8 by omega]
theorem Near.take {a c : List Byte} (h : Near a c) (n : Nat) : Near (a.take n) (c.take n) := by
  refine ⟨by rw [List.length_take, List.length_take, h.1], fun i j hi hj => ?_⟩
  rw [bit_take, bit_take] at hi hj
  by_cases h1 : i / 8 < n
  · by_cases h2 : j / 8 < n
    · rw [if_pos h1, if_pos h1] at hi
      rw [if_pos h2, if_pos h2] at hj
      exact h.2 i j hi hj
    · rw [if_neg h2, if_neg h2] at hj; exact absurd rfl hj
  · rw [if_neg h1, if_neg h1] at hi; exact absurd rfl hi
theorem Near.drop {a c : List Byte} (h : Near a c) (n : Nat) : Near (a.drop n) (c.drop n) := by
  refine ⟨by rw [List.length_drop, List.length_drop, h.1], fun i j hi hj => ?_⟩
  rw [bit_drop, bit_drop] at hi hj
  have := h.2 _ _ hi hj
  omega
theorem word_ofNat (r : BitVec 32) : word (BitVec.ofNat 8 r.toNat) (BitVec.ofNat 8 (r.toNat / 256)) (BitVec.ofNat 8 (r.toNat / 256 / 256)) (BitVec.ofNat 8 (r.toNat / 256 / 256 / 256)) = r := by
  unfold word
  rw [Nat.div_div_eq_div_mul, Nat.div_div_eq_div_mul, show 256 = 2 ^ 8 from rfl, show 2 ^ 8 * 2 ^ 8 = 2 ^ 16 from rfl, show 2 ^ 16 * 2 ^ 8 = 2 ^ 24 from rfl]
  apply BitVec.eq_of_getLsbD_eq
  intro i hi
  simp only [BitVec.getLsbD_append, BitVec.getLsbD_ofNat, Nat.testBit_div_two_pow]
  by_cases h0 : i < 8
  · simp [h0, BitVec.getLsbD]
  · by_cases h1 : i - 8 < 8
    · simp [h0, h1, BitVec.getLsbD, show i - 8 + 8 = i by omega]
    · by_cases h2 : i - 8 - 8 < 8
      · simp [h0, h1, h2, BitVec.getLsbD, show i - 8 - 8 + 16 = i by omega]
      · have h3 : i - 8 - 8 - 8 < 8 := by omega
        simp [h0, h1, h2, h3, BitVec.getLsbD, show i - 8 - 8 - 8 + 24 = i by omega]
theorem crcD_four (o : List Byte) : crcD o = [BitVec.ofNat 8 (more 0#32 o).toNat, BitVec.ofNat 8 ((more 0#32 o).toNat / 256), BitVec.ofNat 8 ((more 0#32 o).toNat / 256 / 256), BitVec.ofNat 8 ((more 0#32 o).toNat / 256 / 256 / 256)] := rfl
theorem ones_get : ∀ i : Fin 32, (4294967295#32)[i.val] = true := by decide
/-- Bytes with their check behind them have one check. -/
theorem codeword (o : List Byte) : more 0#32 (o ++ crcD o) = ~~~(stepN 32 (~~~0#32)) := by
  rw [← more_more, crcD_four]
  generalize more 0#32 o = r
  unfold more
  rw [fold_four, word_ofNat]
  congr 2
  apply BitVec.eq_of_getLsbD_eq
  intro i hi
  have := ones_get ⟨i, hi⟩
  simp [hi]
  exact this
theorem codeword_near {o o' : List Byte} (h : Near (o ++ crcD o) (o' ++ crcD o')) : o = o' := by
  have e := h.crc (by rw [codeword, codeword])
  have hl := h.1
  rw [List.length_append, List.length_append, crcD_length, crcD_length] at hl
  exact (List.append_inj e (by omega)).1
theorem bodies_near : ∀ (l l' : List Sec), l.length = l'.length → (∀ s ∈ l, s.body.length ≤ 65535) → (∀ s ∈ l', s.body.length ≤ 65535) → rows l = rows l' → Near (bodies l) (bodies l') → bodies l = bodies l'
  | [], [], _, _, _, _, _ => rfl
  | [], _ :: _, h, _, _, _, _ => by cases h
  | _ :: _, [], h, _, _, _, _ => by cases h
  | s :: l, s' :: l', hl, h1, h2, hr, hn => by
    have hb := h1 s List.mem_cons_self
    have hb' := h2 s' List.mem_cons_self
    have er : row s ++ rows l = row s' ++ rows l' := by simpa [rows] using hr
    obtain ⟨e1, e2⟩ := List.append_inj er (by rw [row_length, row_length])
    have e3 := (List.append_inj e1 (by rw [dig_length, dig_length])).2
    obtain ⟨e4, e5⟩ := List.append_inj e3 (by rw [dig_length, dig_length])
    rw [dig_eq, Nat.mod_eq_of_lt (by omega), Nat.mod_eq_of_lt (by omega)] at e4
    rw [crcD_eq] at e5
    have b1 : bodies (s :: l) = s.body ++ bodies l := by simp [bodies]
    have b2 : bodies (s' :: l') = s'.body ++ bodies l' := by simp [bodies]
    rw [b1, b2] at hn ⊢
    have n1 := hn.take s.body.length
    rw [take_app rfl, take_app e4.symm] at n1
    have n2 := hn.drop s.body.length
    rw [drop_app rfl, drop_app e4.symm] at n2
    rw [n1.crc e5, bodies_near l l' (by simpa using hl) (fun s hs => h1 s (List.mem_cons_of_mem _ hs)) (fun s hs => h2 s (List.mem_cons_of_mem _ hs)) e2 n2]
/-- Images that differ within 32 bits in a row are one. -/
theorem img_near {l l' : List Sec} (hw : wrong l = 0) (hw' : wrong l' = 0) (h : Near (img l) (img l')) : img l = img l' := by
  obtain ⟨a1, _, a3⟩ := wrong_ok hw
  obtain ⟨c1, _, c3⟩ := wrong_ok hw'
  have s9 : ∀ l : List Sec, (img l).take 9 = hd l.length ++ crcD (hd l.length) := fun l => by
    have : img l = (hd l.length ++ crcD (hd l.length)) ++ (rows l ++ (crcD (top l) ++ bodies l)) := by simp [img, top]
    rw [this]
    exact take_app (by simp [hd_length, crcD_length])
  have n9 := h.take 9
  rw [s9, s9] at n9
  have e9 := codeword_near n9
  have e10 := (List.append_inj e9 rfl).2
  rw [dig_eq, Nat.mod_eq_of_lt (by omega), Nat.mod_eq_of_lt (by omega)] at e10
  have st : ∀ l : List Sec, (img l).take (13 + 7 * l.length) = top l ++ crcD (top l) := fun l => by
    have : img l = (top l ++ crcD (top l)) ++ bodies l := by simp [img]
    rw [this]
    exact take_app (by simp [top_length, crcD_length]; omega)
  have nt := h.take (13 + 7 * l.length)
  rw [st, e10, st] at nt
  have et := codeword_near nt
  have sd : ∀ l : List Sec, (img l).drop (13 + 7 * l.length) = bodies l := fun l => by
    have : img l = (top l ++ crcD (top l)) ++ bodies l := by simp [img]
    rw [this]
    exact drop_app (by simp [top_length, crcD_length]; omega)
  have nb := h.drop (13 + 7 * l.length)
  rw [sd, e10, sd] at nb
  have er : rows l = rows l' := by
    have := et
    unfold top at this
    exact (List.append_inj (List.append_inj this (by rw [hd_length, hd_length])).2 (by rw [crcD_length, crcD_length])).2
  have eb := bodies_near l l' e10 a3 c3 er nb
  unfold img
  rw [et, eb]
/-- What differs within 32 bits in a row isn't unpacked. -/
theorem unp_near {l : List Sec} {X : List Byte} (hw : wrong l = 0) (h : Near (img l) X) (hx : X ≠ img l) : (unp X).1 ≠ 0 := by
  intro h0
  obtain ⟨h1, h2⟩ := img_unp (b := X) (l := (unp X).2) (by rw [← h0])
  rw [← h2] at h
  exact hx (h2.symm.trans (img_near hw h1 h).symm)
theorem take_drop_take (a : List Byte) (k i j : Nat) (h : i + j ≤ k) : ((a.take k).drop i).take j = (a.drop i).take j := by
  rw [List.drop_take, List.take_take, Nat.min_eq_left (by omega)]
/-- What an image's table tells, whatever stands behind it or is cut off. -/
theorem tab_img {l : List Sec} (hw : wrong l = 0) {b : List Byte} (h9 : b.take 9 = (img l).take 9) (hb : 9 ≤ b.length) (hs : b.take (13 + 7 * l.length) = (img l).take (13 + 7 * l.length) ∨ b.length < 13 + 7 * l.length) :
    unp b = if b.length < 13 + 7 * l.length then (2, []) else tail (l.map entOf) (b.drop (13 + 7 * l.length)) := by
  obtain ⟨h1, h2, h3⟩ := wrong_ok hw
  have hk := rising_spec 0 l (by decide) h2
  have s9 : (img l).take 9 = magic ++ (dig l.length 1 ++ crcD (hd l.length)) := by
    have : img l = (magic ++ (dig l.length 1 ++ crcD (hd l.length))) ++ (rows l ++ (crcD (top l) ++ bodies l)) := by simp [img, top, hd]
    rw [this]
    exact take_app (by simp [magic, dig_length, crcD_length])
  have p9 : ∀ i j, i + j ≤ 9 → (b.drop i).take j = ((magic ++ (dig l.length 1 ++ crcD (hd l.length))).drop i).take j := fun i j hij => by
    rw [← take_drop_take b 9 i j hij, h9, s9]
  have hm : num ((b.drop 4).take 1) = l.length := by
    rw [p9 4 1 (by decide), drop_app (show magic.length = 4 from rfl), take_app (dig_length _ _), num_dig, Nat.mod_eq_of_lt (by omega)]
  have hmg : b.take 4 = magic := by
    have := p9 0 4 (by decide)
    rw [List.drop_zero, List.drop_zero, take_app (show magic.length = 4 from rfl)] at this
    exact this
  have h5 : b.take 5 = hd l.length := by
    have := p9 0 5 (by decide)
    rw [List.drop_zero, List.drop_zero, ← List.append_assoc, take_app (show (magic ++ dig l.length 1).length = 5 by simp [magic, dig_length])] at this
    exact this
  have h54 : (b.drop 5).take 4 = crcD (hd l.length) := by
    rw [p9 5 4 (by decide), ← List.append_assoc, drop_app (show (magic ++ dig l.length 1).length = 5 by simp [magic, dig_length])]
    exact List.take_of_length_le (by rw [crcD_length]; exact Nat.le_refl _)
  unfold unp
  rw [if_neg (by omega), if_neg (fun n => n hmg)]
  by_cases hlt : b.length < 13 + 7 * l.length
  · have : tab b = 2 := by
      unfold tab
      rw [hm, h54, h5, if_neg (fun n => n rfl), if_neg (by omega), if_pos (by omega)]
    rw [this, if_pos (by decide), if_pos hlt]
  · rw [if_neg hlt]
    have hs' : b.take (13 + 7 * l.length) = top l ++ crcD (top l) := by
      rcases hs with hs | hs
      · rw [hs]
        have : img l = (top l ++ crcD (top l)) ++ bodies l := by simp [img]
        rw [this]
        exact take_app (by simp [top_length, crcD_length]; omega)
      · exact absurd hs hlt
    have pt : ∀ i j, i + j ≤ 13 + 7 * l.length → (b.drop i).take j = ((top l ++ crcD (top l)).drop i).take j := fun i j hij => by
      rw [← take_drop_take b (13 + 7 * l.length) i j hij, hs']
    have ht : b.take (9 + 7 * l.length) = top l := by
      have := pt 0 (9 + 7 * l.length) (by omega)
      rw [List.drop_zero, List.drop_zero, take_app (top_length _)] at this
      exact this
    have ht4 : (b.drop (9 + 7 * l.length)).take 4 = crcD (top l) := by
      rw [pt _ _ (by omega), drop_app (top_length _)]
      exact List.take_of_length_le (by rw [crcD_length]; exact Nat.le_refl _)
    have htab : tab b = 0 := by
      unfold tab
      rw [hm, h54, h5, if_neg (fun n => n rfl), if_neg (by omega), if_neg (by omega), ht4, ht, if_neg (fun n => n rfl)]
    rw [htab, if_neg (fun n => n rfl), hm]
    have e9 : b.drop 9 = rows l ++ (crcD (top l) ++ b.drop (13 + 7 * l.length)) := by
      have e : b = b.take (13 + 7 * l.length) ++ b.drop (13 + 7 * l.length) := (List.take_append_drop _ _).symm
      rw [hs'] at e
      have e2 : b = (hd l.length ++ crcD (hd l.length)) ++ (rows l ++ (crcD (top l) ++ b.drop (13 + 7 * l.length))) := by
        have : top l = (hd l.length ++ crcD (hd l.length)) ++ rows l := by simp [top]
        rw [this] at e
        rw [this]
        simpa using e
      have e3 : b.drop 9 = ((hd l.length ++ crcD (hd l.length)) ++ (rows l ++ (crcD (top l) ++ b.drop (13 + 7 * l.length)))).drop 9 := by rw [← e2]
      rw [e3]
      exact drop_app (by simp [hd_length, crcD_length])
    rw [e9, ents_rows l _ hk h3, show 9 + 7 * l.length + 4 = 13 + 7 * l.length by omega]
theorem img_take {l : List Sec} {k : Nat} (hw : wrong l = 0) (hk : k < (img l).length) : unp ((img l).take k) = (2, []) := by
  obtain ⟨h1, h2, h3⟩ := wrong_ok hw
  have hkl : ((img l).take k).length = k := by rw [List.length_take]; omega
  by_cases h9 : k < 9
  · unfold unp
    rw [if_pos (by rw [hkl]; exact h9)]
  · rw [tab_img hw (by rw [List.take_take, Nat.min_eq_left (by omega)]) (by omega) (by
      rcases Nat.lt_or_ge k (13 + 7 * l.length) with h | h
      · exact .inr (by rw [hkl]; exact h)
      · exact .inl (by rw [List.take_take, Nat.min_eq_left h])), hkl]
    by_cases hlt : k < 13 + 7 * l.length
    · rw [if_pos hlt]
    · rw [if_neg hlt]
      unfold tail
      rw [if_neg (by rw [erise_map 0 l (by decide) h2]; decide), total_map, if_pos (by rw [List.length_drop, hkl]; rw [img_length] at hk; omega)]
theorem img_more {l : List Sec} {m : List Byte} (hw : wrong l = 0) (hm : 0 < m.length) : unp (img l ++ m) = (3, []) := by
  obtain ⟨h1, h2, h3⟩ := wrong_ok hw
  have hl := img_length l
  rw [tab_img hw (List.take_append_of_le_length (by omega)) (by simp; omega) (.inl (List.take_append_of_le_length (by omega))), if_neg (by simp; omega)]
  unfold tail
  rw [if_neg (by rw [erise_map 0 l (by decide) h2]; decide), total_map, if_neg (by simp; omega), if_pos (by simp; omega)]
end Go.Proofs.YtlmbghemlphoaaaDoor.PaM
