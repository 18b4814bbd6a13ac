/- What Unpack reckons behind its table, step by step; sections in an owned row; a reader that may have failed. -/
import Derived.Test.YtlmbghemlphoaaaDoorPaK
import Derived.Test.YtlmbghemlphoaaaDoorPaI
namespace Go.Proofs.YtlmbghemlphoaaaDoor.Pa
open Go.RowKit Go.Proofs.YtlmbghemlphoaaaDoor.Kit Go.Proofs.YtlmbghemlphoaaaDoor.PaM Go.Proofs.YtlmbghemlphoaaaDoor.Le Go.IntWalk
set_option linter.unusedVariables false
set_option linter.unusedSimpArgs false
/-- The bodies that are read, what is left, what is wrong then. -/
def parts : List Ent → List (BitVec 8) → Int → List (List (BitVec 8)) × List (BitVec 8) × Int
  | [], q, e => ([], q, e)
  | x :: E, q, e => ((rp q e x.size).1 :: (parts E (rp q e x.size).2.1 (rp q e x.size).2.2).1, (parts E (rp q e x.size).2.1 (rp q e x.size).2.2).2)
theorem parts_length : ∀ (E : List Ent) (q : List (BitVec 8)) (e : Int), (parts E q e).1.length = E.length
  | [], _, _ => rfl
  | x :: E, q, e => by simp [parts, parts_length E]
theorem parts_snoc : ∀ (E : List Ent) (x : Ent) (q : List (BitVec 8)) (e : Int),
    parts (E ++ [x]) q e = ((parts E q e).1 ++ [(rp (parts E q e).2.1 (parts E q e).2.2 x.size).1], (rp (parts E q e).2.1 (parts E q e).2.2 x.size).2)
  | [], x, q, e => rfl
  | y :: E, x, q, e => by
    simp only [List.cons_append, parts, parts_snoc E x]
theorem parts_two : ∀ (E : List Ent) (q : List (BitVec 8)), (parts E q 2).2.2 = 2
  | [], _ => rfl
  | x :: E, q => by
    have h : rp q 2 x.size = ([], q, 2) := by unfold rp; rw [if_pos (by decide)]
    simp only [parts, h]
    exact parts_two E q
theorem rp_short {q : List (BitVec 8)} {m : Nat} (h : q.length < m) : rp q 0 (m : Int) = ([], q, 2) := by
  unfold rp
  rw [if_neg (by decide), if_neg (by omega), if_pos (by omega)]
theorem parts_short : ∀ (E : List Ent) (q : List (BitVec 8)), q.length < total E → (parts E q 0).2.2 = 2
  | [], q, h => by simp only [total] at h; omega
  | x :: E, q, h => by
    simp only [total] at h
    by_cases hx : x.size ≤ q.length
    · simp only [parts, rp_ok hx]
      exact parts_short E _ (by simp; omega)
    · simp only [parts, rp_short (show q.length < x.size by omega)]
      exact parts_two E q
theorem parts_ok : ∀ (E : List Ent) (q : List (BitVec 8)), total E ≤ q.length → parts E q 0 = ((cut E q).map Sec.body, q.drop (total E), 0)
  | [], q, _ => by simp [parts, cut, total]
  | x :: E, q, h => by
    simp only [total] at h
    have i := parts_ok E (q.drop x.size) (by simp; omega)
    simp only [parts, rp_ok (show x.size ≤ q.length by omega), i, cut, List.map_cons, total, List.drop_drop]
/-- The sections, with the bodies that are read so far. -/
def mk : List Ent → List (List (BitVec 8)) → List Sec
  | [], _ => []
  | x :: E, [] => ⟨x.kind, []⟩ :: mk E []
  | x :: E, b :: bs => ⟨x.kind, b⟩ :: mk E bs
theorem mk_nil : ∀ E : List Ent, mk E [] = E.map fun x => ⟨(x.kind : Int), []⟩
  | [] => rfl
  | x :: E => by simp [mk, mk_nil E]
theorem mk_cut : ∀ (E : List Ent) (q : List (BitVec 8)), mk E ((cut E q).map Sec.body) = cut E q
  | [], _ => rfl
  | x :: E, q => by simp [mk, cut, mk_cut E]
theorem mk_set : ∀ (E : List Ent) (bs : List (List (BitVec 8))) (b : List (BitVec 8)) (h : bs.length < E.length), mk E (bs ++ [b]) = (mk E bs).set bs.length ⟨(E[bs.length].kind : Int), b⟩
  | [], _, _, h => absurd h (Nat.not_lt_zero _)
  | x :: E, [], b, h => by simp [mk]
  | x :: E, c :: bs, b, h => by
    have h' : bs.length < E.length := by simpa using h
    have i := mk_set E bs b h'
    simp [mk, i]
theorem mk_length : ∀ (E : List Ent) (bs : List (List (BitVec 8))), (mk E bs).length = E.length
  | [], _ => rfl
  | x :: E, [] => by simp [mk, mk_length E]
  | x :: E, b :: bs => by simp [mk, mk_length E]
theorem erise_mk : ∀ (last : Int) (E : List Ent), (∀ x ∈ E, x.kind ≤ 255) → rising last (E.map fun x => ⟨(x.kind : Int), []⟩) = erise last E
  | _, [], _ => rfl
  | last, x :: E, h => by
    have hx := h x List.mem_cons_self
    simp only [List.map_cons, rising, erise]
    rw [erise_mk x.kind E (fun y hy => h y (List.mem_cons_of_mem _ hy)), decide_eq_true (show (x.kind : Int) ≤ 255 by omega), Bool.true_and]
theorem checks_at : ∀ (E : List Ent) (q : List (BitVec 8)), checks E q = (List.range E.length).all fun i => decide ((CrcM.more 0#32 ((cut E q).map Sec.body)[i]!).toNat = E[i]!.check)
  | [], q => rfl
  | x :: E, q => by
    rw [checks, checks_at E (q.drop x.size), List.length_cons, List.range_succ_eq_map, List.all_cons, List.all_map]
    rfl
/-- What stands at the end. -/
theorem tail_parts (E : List Ent) (q : List (BitVec 8)) (h : erise 0 E = true) :
    tail E q = if endOf (parts E q 0).2.1 (parts E q 0).2.2 ≠ 0 then (endOf (parts E q 0).2.1 (parts E q 0).2.2, []) else if checks E q = false then (4, []) else (0, mk E (parts E q 0).1) := by
  unfold tail
  rw [if_neg (by rw [h]; decide)]
  by_cases h1 : q.length < total E
  · have e2 := parts_short E q h1
    have e3 : endOf (parts E q 0).2.1 (parts E q 0).2.2 = 2 := by unfold endOf; rw [e2, if_neg (by omega)]
    rw [if_pos h1, e3, if_pos (by decide)]
  · have e1 := parts_ok E q (by omega)
    rw [if_neg h1, e1]
    by_cases h2 : total E < q.length
    · have e3 : endOf (q.drop (total E)) 0 = 3 := by unfold endOf; rw [if_pos ⟨rfl, by simp; omega⟩]
      rw [if_pos h2]
      simp only [e3]
      rw [if_pos (by decide)]
    · have e3 : endOf (q.drop (total E)) 0 = 0 := by unfold endOf; rw [if_neg (by simp; omega)]
      rw [if_neg h2]
      simp only [e3, mk_cut, ne_eq, not_true_eq_false, if_false]
/-- Sections, flat in memory. -/
def flatS : List SecM → List Value
  | [] => []
  | s :: l => .int .i64 s.kind :: s.body :: flatS l
theorem flatS_length : ∀ l : List SecM, (flatS l).length = l.length * 2
  | [] => rfl
  | s :: l => by simp only [flatS, List.length_cons, flatS_length l]; omega
theorem flatS_append : ∀ l k : List SecM, flatS (l ++ k) = flatS l ++ flatS k
  | [], _ => rfl
  | s :: l, k => by simp only [List.cons_append, flatS, flatS_append l k]
theorem flatS_one : ∀ (l : List SecM), ∀ u ∈ flatS l, u.oneCell' = true
  | [], u, h => by cases h
  | s :: l, u, h => by
    simp only [flatS, List.mem_cons] at h
    rcases h with rfl | rfl | h
    · rfl
    · rfl
    · exact flatS_one l u h
theorem flatS_get : ∀ (l : List SecM) (i : Nat) (h : i < l.length), (flatS l)[i * 2]? = some (.int .i64 l[i].kind) ∧ (flatS l)[i * 2 + 1]? = some l[i].body
  | [], i, h => absurd h (Nat.not_lt_zero _)
  | s :: l, 0, h => ⟨rfl, rfl⟩
  | s :: l, i + 1, h => by
    have := flatS_get l i (by simpa using h)
    rw [Nat.succ_mul]
    exact this
theorem flatS_set : ∀ (l : List SecM) (i : Nat) (h : i < l.length) (s : SecM), s.kind = l[i].kind → (flatS l).set (i * 2 + 1) s.body = flatS (l.set i s)
  | [], i, h, _, _ => absurd h (Nat.not_lt_zero _)
  | x :: l, 0, h, s, hk => by
    have hk' : s.kind = x.kind := hk
    simp [flatS, hk']
  | x :: l, i + 1, h, s, hk => by
    have := flatS_set l i (by simpa using h) s hk
    rw [show (i + 1) * 2 + 1 = (i * 2 + 1) + 1 + 1 by omega]
    simp only [flatS, List.set_cons_succ, this]
theorem secs_of_cells {w : World} {A : Option Addr} {l : List SecM} (h : Cells w A (flatS l)) (hb : ∀ s ∈ l, Hid (Bytes w s.A s.b)) : Hid (Secs w A l) := by
  intro i hi
  have hl := flatS_length l
  obtain ⟨g0, g1⟩ := flatS_get l i hi
  obtain ⟨ad, rfl, c0⟩ := h (i * 2) (by omega)
  obtain ⟨ad1, e1, c1⟩ := h (i * 2 + 1) (by omega)
  cases e1
  rw [List.getElem?_eq_getElem (by omega)] at g0 g1
  exact ⟨ad, rfl, c0.trans g0, c1.trans g1, hb _ (List.getElem_mem hi)⟩
theorem infoS : (Tryd.prog.info? 39).map (fun i => (i.zero, i.size, i.bytes)) = some (some (.agg #[.int .i64 0, .slice none 0 0]), 2, 32) := by kernel_rfl
theorem litS (w : World) (s : SecM) : Cells (w.alloc (.cells #[.int .i64 s.kind, s.body] 39)) (some ⟨w.heap.size, 0, none⟩) (flatS [s]) := by
  have h := World.ownsRow_lit (base := 0) (e := 39) (size := 2) w #[.int .i64 s.kind, s.body] 1 (Nat.zero_le _) (by decide) rfl
  obtain ⟨A, cap, hv, hc, _⟩ := own_readsS (by decide) h
  cases hv
  exact hc
/-- A reader that may have failed. -/
structure RdE (B : Nat) (w : World) (g gb : Nat) (l : List (BitVec 8)) (e : Int) : Prop where
  at_ : ∃ (A : Option Addr) (cap : Nat), RdAt w g A l cap e ∧ ∀ ad, A = some ad → ad.block = gb
  own : B ≤ g
  lt : g < w.heap.size
  ownb : B ≤ gb
  ltb : gb < w.heap.size
theorem Rd.toE {B : Nat} {w : World} {g gb : Nat} {l : List (BitVec 8)} (h : Rd B w g gb l) : RdE B w g gb l 0 := ⟨h.at_, h.own, h.lt, h.ownb, h.ltb⟩
theorem bytes_grown {w w' : World} {A : Option Addr} {l : List (BitVec 8)} {gb : Nat} {row : Option Nat} (h : Hid (Bytes w A l)) (hb : ∀ ad, A = some ad → ad.block = gb) (hlt : gb < w.heap.size) (hg : w.grownBy w' row) (h2 : row ≠ some gb) : Hid (Bytes w' A l) := by
  intro i hi
  obtain ⟨ad, hA, hc⟩ := h.out i hi
  refine ⟨ad, hA, ?_⟩
  rw [← hc]
  refine World.cell?_of_block ?_
  have : (ad.add i).block = gb := by rw [add_block]; exact hb ad hA
  rw [this]
  exact hg.block gb hlt (fun e => h2 e.symm)
theorem RdE.grown {B : Nat} {w w' : World} {g gb : Nat} {l : List (BitVec 8)} {e : Int} {row : Option Nat} (h : RdE B w g gb l e) (hg : w.grownBy w' row) (h1 : row ≠ some g) (h2 : row ≠ some gb) : RdE B w' g gb l e := by
  obtain ⟨A, cap, hr, hb⟩ := h.at_
  exact ⟨⟨A, cap, ⟨blk_grown hr.blk hg h1, bytes_grown hr.bytes hb h.ltb hg h2, hr.room, hr.far⟩, hb⟩, h.own, Nat.lt_of_lt_of_le h.lt hg.size, h.ownb, Nat.lt_of_lt_of_le h.ltb hg.size⟩
theorem RdE.below {B : Nat} {w w' : World} {g gb : Nat} {l : List (BitVec 8)} {e : Int} (h : RdE B w g gb l e) (hb : Below w.heap.size w w') : RdE B w' g gb l e :=
  h.grown (below_none hb) (fun e => by cases e) (fun e => by cases e)
theorem RdE.lt_le {B : Nat} {w : World} {g gb : Nat} {l : List (BitVec 8)} {e : Int} (h : RdE B w g gb l e) : B ≤ w.heap.size := Nat.le_of_lt (Nat.lt_of_le_of_lt h.own h.lt)
theorem RdE.own_row {B : Nat} {w : World} {g gb : Nat} {l : List (BitVec 8)} {e : Int} (h : RdE B w g gb l e) : ∀ k, some g = some k → B ≤ k := fun k e => by cases e; exact h.own
def PartE (B : Nat) (w : World) (g gb : Nat) (r : List (BitVec 8) × List (BitVec 8) × Int) (en : Ending) (w' : World) : Prop :=
  ∃ (P : Option Addr) (c : Nat), en = .returned (.slice P r.1.length c) ∧ Hid (Bytes w' P r.1) ∧ r.1.length ≤ c ∧ (∀ ad, P = some ad → ad.block = gb) ∧ RdE B w' g gb r.2.1 r.2.2 ∧ w.grownBy w' (some g)
theorem rde_part {B : Nat} {w : World} {g gb : Nat} {l : List (BitVec 8)} {e : Int} (h : RdE B w g gb l e) (m : Int) (hl : l.length ≤ 140737488351232) :
    Calls Tryd.prog 22 #[.pointer (some ⟨g, 0, none⟩), .int .i64 m] w (PartE B w g gb (rp l e m)) := by
  obtain ⟨A, cap, hr, hb⟩ := h.at_
  refine (part_anyS g A l cap e m w hr hl).mono ?_
  rintro en w' ⟨P, c, A', cap', rfl, hB, hcl, hk0, hr', hk, hg⟩
  exact ⟨P, c, rfl, hB, hcl, fun ad ha => by (obtain ⟨a0, h0, h1⟩ := hk0 ad ha; rw [h1]; exact hb a0 h0), ⟨⟨A', cap', hr', fun ad ha => by obtain ⟨a0, h0, h1⟩ := hk ad ha; rw [h1]; exact hb a0 h0⟩, h.own, Nat.lt_of_lt_of_le h.lt hg.size, h.ownb, Nat.lt_of_lt_of_le h.ltb hg.size⟩, hg⟩
theorem rde_end {B : Nat} {w : World} {g gb : Nat} {l : List (BitVec 8)} {e : Int} (h : RdE B w g gb l e) :
    Calls Tryd.prog 23 #[.pointer (some ⟨g, 0, none⟩)] w fun en w' => en = .returned (.int .i64 (endOf l e)) ∧ w = w' := by
  obtain ⟨A, cap, hr, hb⟩ := h.at_
  exact end_any g A l cap e w (Kit.hid hr)
end Go.Proofs.YtlmbghemlphoaaaDoor.Pa
