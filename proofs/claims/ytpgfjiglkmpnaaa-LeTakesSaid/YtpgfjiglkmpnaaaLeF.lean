/- The walks of the document's reader, and of bytes compared. -/
import Derived.Test.YtpgfjiglkmpnaaaLeT
namespace Go.Proofs.Ytpgfjiglkmpnaaa.Le
open Go.RowKit Go.Proofs.Ytpgfjiglkmpnaaa.Kit Go.Proofs.Ytpgfjiglkmpnaaa.LeM
set_option linter.unusedVariables false
set_option linter.unusedSimpArgs false
theorem take_succ_eq {l m : List (BitVec 8)} {k : Nat} (hl : k < l.length) (hm : k < m.length) : (l.take (k + 1) = m.take (k + 1)) ↔ (l.take k = m.take k ∧ l[k] = m[k]) := by
  rw [take_snoc hl, take_snoc hm]
  constructor
  · intro h
    have h2 := List.append_inj h (by simp; omega)
    exact ⟨h2.1, by simpa using h2.2⟩
  · rintro ⟨h1, h2⟩
    rw [h1, h2]
set_option maxHeartbeats 400000 in
theorem same_any (A : Option Addr) (l : List (BitVec 8)) (c : Nat) (B : Option Addr) (m : List (BitVec 8)) (d : Nat) (w : World) (ha : Hid (Bytes w A l)) (hb : Hid (Bytes w B m)) (hl : l.length ≤ 140737488351232) (hm : m.length ≤ 140737488351232) :
    Calls Try.prog 12 #[.slice A l.length c, .slice B m.length d] w fun e w' => e = .returned (.bool (decide (l = m))) ∧ ∃ n, w' = w.drewN n := by
  by_cases hne : l.length = m.length
  · have g0 : ((l.length : Int) != (m.length : Int)) = false := by simp [hne]
    have HE := Kit.hid hne
    clear hne
    go_enter Try.func12, Try.ntmps12
    go_wp2
    go_loopw [5] (fun v5 wr => ∃ (k : Nat), k ≤ l.length ∧ v5 = .int .i64 k ∧ Hid (l.take k = m.take k) ∧ Hid (∃ n, wr = w.drewN n)) (fun i _ => l.length - (intOf i).toNat)
    case atStart => exact ⟨0, by omega, rfl, Kit.hid rfl, Kit.hid ⟨0, rfl⟩⟩
    case round =>
      obtain ⟨k, hk, rfl, hq, hw⟩ := hrel
      obtain ⟨n, rfl⟩ := hw.out
      by_cases hlt : k < l.length
      · have hlm : k < m.length := by have := HE.out; omega
        obtain ⟨ad, rfl, ca⟩ := ha.out k hlt
        obtain ⟨bd, rfl, cb⟩ := hb.out k hlm
        have ca' : (w.drewN n).cell? (ad.add k) = some (.int .u8 (l[k].toNat : Int)) := ca
        have cb' : (w.drewN n).cell? (bd.add k) = some (.int .u8 (m[k].toNat : Int)) := cb
        have HX := Kit.hid (take_succ_eq hlt hlm)
        obtain ⟨x, hx⟩ : ∃ x, x = l[k] := ⟨_, rfl⟩
        obtain ⟨y, hy⟩ : ∃ y, y = m[k] := ⟨_, rfl⟩
        rw [← hx] at ca ca'
        rw [← hy] at cb cb'
        rw [← hx, ← hy] at HX
        have bx := x.isLt
        have by_ := y.isLt
        by_cases he : x = y
        · have HN := Kit.hid (HX.out.2 ⟨hq.out, he⟩)
          have g1 : ((x.toNat : Int) != (y.toNat : Int)) = false := by simp [he]
          clear hx hy he
          go_wp2
          go_region
          go_wp2
          go_roundw
          case rel => exact ⟨k + 1, by omega, by go_num, HN, Kit.hid ⟨n + 1, rfl⟩⟩
          case measure => simp [intOf]; omega
        · have HN : Hid (decide (l = m) = false) := by
            refine Kit.hid (decide_eq_false fun h => he ?_)
            subst h
            rw [hx, hy]
          have g1 : ((x.toNat : Int) != (y.toNat : Int)) = true := by
            have : x.toNat ≠ y.toNat := fun h => he (BitVec.eq_of_toNat_eq h)
            simp
            omega
          clear hx hy he
          go_wp2
          go_region
          go_wp2
          go_ret
          rw [HN.out]
          exact ⟨rfl, n + 1, rfl⟩
      · have HN : Hid (decide (l = m) = true) := by
          refine Kit.hid (decide_eq_true ?_)
          have h := hq.out
          have h2 := HE.out
          rw [List.take_of_length_le (by omega), List.take_of_length_le (by omega)] at h
          exact h
        go_wp2
        go_ret
        rw [HN.out]
        exact ⟨rfl, n, rfl⟩
  · have g0 : ((l.length : Int) != (m.length : Int)) = true := by
      simp
      omega
    have HN : Hid (decide (l = m) = false) := Kit.hid (decide_eq_false fun h => hne (by rw [h]))
    clear hne
    go_enter Try.func12, Try.ntmps12
    go_wp2
    go_ret
    rw [HN.out]
    exact ⟨rfl, 0, rfl⟩
/-- The document's reader in memory: all bytes, where it is, how it failed. -/
structure RfAt (w : World) (g : Nat) (A : Option Addr) (b : List (BitVec 8)) (cap k : Nat) (e : Int) : Prop where
  blk : w.heap[g]? = some (.cells #[.slice A b.length cap, .int .i64 k, .int .i64 e] 43 (0, 0))
  bytes : Hid (Bytes w A b)
  room : b.length ≤ cap
  far : ∀ ad, A = some ad → ad.block ≠ g
  at_ : k ≤ b.length
/-- What a part of the document's reader leaves: the row that is told lies in the bytes. -/
def RPartPost (w : World) (g : Nat) (A : Option Addr) (b : List (BitVec 8)) (cap k : Nat) (e many : Int) (en : Ending) (w' : World) : Prop :=
  ∃ (B : Option Addr) (c k' : Nat), en = .returned (.slice B (rp (b.drop k) e many).1.length c) ∧ Hid (Bytes w' B (rp (b.drop k) e many).1) ∧ (rp (b.drop k) e many).1.length ≤ c ∧
    RfAt w' g A b cap k' (rp (b.drop k) e many).2.2 ∧ b.drop k' = (rp (b.drop k) e many).2.1 ∧ w.grownBy w' (some g)
theorem grown_drewN {a b : World} {row : Option Nat} (h : a.grownBy b row) (n : Nat) : a.grownBy (b.drewN n) row := ⟨h.os, h.tape, h.output, h.size, h.block⟩
theorem rpart_good {w : World} {g : Nat} {A : Option Addr} {b : List (BitVec 8)} {cap k : Nat} {e : Int} (h : RfAt w g A b cap k e) (he : e = 0) {m : Nat} (hm : k + m ≤ b.length) (B : Option Addr) (c n : Nat) (z : Int)
    (hz : z = ((k + m : Nat) : Int)) (h2 : (cap = k ∧ c = 0) ∨ (c = cap - k ∧ B = A.map (fun x => x.add k))) :
    RPartPost w g A b cap k e m (.returned (.slice B m c)) ((w.setCell ⟨g, 1, none⟩ (.int .i64 z)).drewN n) := by
  subst hz
  have hr := h.room
  have hq : rp (b.drop k) e m = ((b.drop k).take m, (b.drop k).drop m, 0) := by
    unfold rp
    rw [if_neg (by simpa using he), if_neg (by omega), if_neg (by simp; omega)]
    simp
  have hl' : ((b.drop k).take m).length = m := by rw [List.length_take, List.length_drop]; omega
  have hB := bytes_far h.bytes (p := ⟨g, 1, none⟩) (fun a ha => h.far a ha) (.int .i64 ((k + m : Nat) : Int))
  unfold RPartPost
  rw [hq]
  refine ⟨B, c, k + m, by rw [hl'], ?_, by rw [hl']; rcases h2 with ⟨h3, h4⟩ | ⟨h3, h4⟩ <;> omega, ⟨?_, hB, hr, h.far, hm⟩, by rw [List.drop_drop], ⟨rfl, rfl, rfl, by simp, fun k _ hk => Below.heap_setCell w _ _ k (fun e => hk (by rw [e]))⟩⟩
  · by_cases hm0 : m = 0
    · subst hm0
      exact bytes_nil _ _
    · rcases h2 with ⟨h3, h4⟩ | ⟨h3, h4⟩
      · omega
      · cases A with
        | none =>
          have h5 := bytes_none h.bytes
          rw [h5] at hm
          simp at hm
          omega
        | some ad =>
          subst h4
          exact bytes_take (bytes_drop hB k) m
  · exact blk_put h.blk 1 _ (by subst he; rfl)
set_option maxHeartbeats 400000 in
theorem rpart_any (g : Nat) (A : Option Addr) (b : List (BitVec 8)) (cap k : Nat) (e many : Int) (w : World) (h : RfAt w g A b cap k e) (hl : b.length ≤ 140737488351232) :
    Calls Try.prog 21 #[.pointer (some ⟨g, 0, none⟩), .int .i64 many] w (RPartPost w g A b cap k e many) := by
  have c0 : w.cell? ⟨g, 0, none⟩ = some (.slice A b.length cap) := (blk_cell h.blk 0).trans rfl
  have c1 : w.cell? ⟨g, 1, none⟩ = some (.int .i64 k) := (blk_cell h.blk 1).trans rfl
  have c2 : w.cell? ⟨g, 2, none⟩ = some (.int .i64 e) := (blk_cell h.blk 2).trans rfl
  have z0 := blk_frozen h.blk 0
  have z1 := blk_frozen h.blk 1
  have z2 := blk_frozen h.blk 2
  have hr := h.room
  have hk := h.at_
  have H := Kit.hid h
  have hdl : (b.drop k).length = b.length - k := List.length_drop
  have HP : Hid (∀ en w' r, rp (b.drop k) e many = r → (∃ (B : Option Addr) (c k' : Nat), en = .returned (.slice B r.1.length c) ∧ Hid (Bytes w' B r.1) ∧ r.1.length ≤ c ∧ RfAt w' g A b cap k' r.2.2 ∧ b.drop k' = r.2.1 ∧ w.grownBy w' (some g)) → RPartPost w g A b cap k e many en w') := by
    show ∀ _ _ _, _
    intro en w' r h1 h2
    subst h1
    exact h2
  clear h
  by_cases he : e = 0
  · by_cases hm : many < 0
    · have hq : rp (b.drop k) e many = ([], b.drop k, 1) := by
        unfold rp
        rw [if_neg (by simpa using he), if_pos hm]
      have HQ := Kit.hid hq
      have g1 : (e != 0) = false := by simp [he]
      clear hq he
      go_enter Try.func21, Try.ntmps21
      go_wp2
      go_ret
      refine HP.out _ _ _ HQ.out ⟨none, 0, k, rfl, bytes_nil _ _, Nat.le_refl _, ⟨?_, bytes_far H.out.bytes H.out.far _, H.out.room, H.out.far, hk⟩, rfl, grown_set _⟩
      exact blk_put H.out.blk 2 _ rfl
    · by_cases hs : ((b.drop k).length : Int) < many
      · have hq : rp (b.drop k) e many = ([], b.drop k, 2) := by
          unfold rp
          rw [if_neg (by simpa using he), if_neg hm, if_pos hs]
        have HQ := Kit.hid hq
        have g1 : (e != 0) = false := by simp [he]
        have g2 : (b.length : Int) - (k : Int) < many := by omega
        clear hq he hs
        go_enter Try.func21, Try.ntmps21
        go_wp2
        go_region
        go_wp2
        go_ret
        refine HP.out _ _ _ HQ.out ⟨none, 0, k, rfl, bytes_nil _ _, Nat.le_refl _, ⟨?_, bytes_far H.out.bytes H.out.far _, H.out.room, H.out.far, hk⟩, rfl, grown_drewN (grown_set _) 1⟩
        exact blk_put H.out.blk 2 _ rfl
      · obtain ⟨m, rfl⟩ := Int.eq_ofNat_of_zero_le (show 0 ≤ many by omega)
        have hq : rp (b.drop k) e m = ((b.drop k).take m, (b.drop k).drop m, 0) := by
          unfold rp
          rw [if_neg (by simpa using he), if_neg hm, if_neg hs]
          simp
        have HQ := Kit.hid hq
        have HE := Kit.hid he
        have hml : k + m ≤ b.length := by omega
        have g1 : (e != 0) = false := by simp [he]
        have g2 : ¬ (b.length : Int) - (k : Int) < (m : Int) := by omega
        have h0 : 0 ≤ (m : Int) := by omega
        clear hq he hm hs hdl
        go_enter Try.func21, Try.ntmps21
        go_wp2
        go_region
        go_wp2
        go_region
        go_wp2
        all_goals go_ret
        · obtain rfl : cap = k := by assumption
          exact rpart_good H.out HE.out hml _ _ 2 _ rfl (Or.inl ⟨rfl, rfl⟩)
        · exact rpart_good H.out HE.out hml _ _ 2 _ rfl (Or.inr ⟨rfl, rfl⟩)
  · have hq : rp (b.drop k) e many = ([], b.drop k, e) := by
      unfold rp
      rw [if_pos he]
    have HQ := Kit.hid hq
    have g1 : (e != 0) = true := by simp [he]
    clear hq he
    go_enter Try.func21, Try.ntmps21
    go_wp2
    go_ret
    exact HP.out _ _ _ HQ.out ⟨none, 0, k, rfl, bytes_nil _ _, Nat.le_refl _, H.out, rfl, grown_refl _ _⟩
/-- What a number taken from the document's reader leaves. -/
def RTakePost (w : World) (g : Nat) (A : Option Addr) (b : List (BitVec 8)) (cap k : Nat) (e many : Int) (en : Ending) (w' : World) : Prop :=
  ∃ (k' : Nat), en = .returned (.int .u64 (num (rp (b.drop k) e many).1)) ∧ RfAt w' g A b cap k' (rp (b.drop k) e many).2.2 ∧ b.drop k' = (rp (b.drop k) e many).2.1 ∧ w.grownBy w' (some g)
theorem rtake_any (g : Nat) (A : Option Addr) (b : List (BitVec 8)) (cap k : Nat) (e width : Int) (w : World) (h : RfAt w g A b cap k e) (hl : b.length ≤ 140737488351232) :
    Calls Try.prog 22 #[.pointer (some ⟨g, 0, none⟩), .int .i64 width] w (RTakePost w g A b cap k e (hw width)) := by
  have hk := hw_bd width
  have HC := Kit.hid (rpart_any g A b cap k e (hw width) w h hl)
  have HW := Kit.hid (rwidth_any width)
  have hlen := rp_len (b.drop k) e (hw width)
  go_enter Try.func22, Try.ntmps22
  go_wp2_with (first
    | (go_at_call 26; refine (HW.out _).mono ?_; rintro e w' ⟨rfl, rfl⟩)
    | (go_at_call 21; refine HC.out.mono ?_; rintro e w' ⟨B, c, k', rfl, hB, hcB, hR, hdr, hG⟩)
    | (go_at_call 16; refine (number_any _ _ _ _ hB (by omega)).mono ?_; rintro e w' ⟨rfl, rfl⟩))
  go_ret
  exact ⟨k', rfl, hR, hdr, hG⟩
theorem rend_any (g : Nat) (A : Option Addr) (b : List (BitVec 8)) (cap k : Nat) (e : Int) (w : World) (h : Hid (RfAt w g A b cap k e)) :
    Calls Try.prog 25 #[.pointer (some ⟨g, 0, none⟩)] w fun en w' => en = .returned (.int .i64 (endOf (b.drop k) e)) ∧ ∃ n, w' = w.drewN n := by
  have c0 : w.cell? ⟨g, 0, none⟩ = some (.slice A b.length cap) := (blk_cell h.out.blk 0).trans rfl
  have c1 : w.cell? ⟨g, 1, none⟩ = some (.int .i64 k) := (blk_cell h.out.blk 1).trans rfl
  have c2 : w.cell? ⟨g, 2, none⟩ = some (.int .i64 e) := (blk_cell h.out.blk 2).trans rfl
  by_cases he : e = 0
  · subst he
    have g1 : ((0 : Int) != 0) = false := rfl
    by_cases hl : k < b.length
    · have HQ : Hid (endOf (b.drop k) 0 = 3) := by
        show _ = _
        unfold endOf
        rw [if_pos ⟨rfl, by simp; omega⟩]
      go_enter Try.func25, Try.ntmps25
      go_wp2
      go_region
      go_wp2
      go_ret
      exact ⟨ret_int HQ.out.symm, 1, rfl⟩
    · have HQ : Hid (endOf (b.drop k) 0 = 0) := by
        show _ = _
        unfold endOf
        rw [if_neg (by simp; omega)]
      go_enter Try.func25, Try.ntmps25
      go_wp2
      go_region
      go_wp2
      go_ret
      exact ⟨ret_int HQ.out.symm, 1, rfl⟩
  · have HQ : Hid (endOf (b.drop k) e = e) := by
      show _ = _
      unfold endOf
      rw [if_neg (by omega)]
    have g1 : (e != 0) = true := by simp [he]
    clear he
    go_enter Try.func25, Try.ntmps25
    go_wp2
    go_ret
    exact ⟨ret_int HQ.out.symm, 0, rfl⟩
theorem rd_below {w w1 : World} {g : Nat} {A : Option Addr} {l : List (BitVec 8)} {cap : Nat} {e : Int} (h : RdAt w g A l cap e) (hb : Below w.heap.size w w1) : RdAt w1 g A l cap e :=
  ⟨blk_below h.blk hb, bytes_below h.bytes hb, h.room, h.far⟩
theorem rf_below {w w1 : World} {g : Nat} {A : Option Addr} {l : List (BitVec 8)} {cap k : Nat} {e : Int} (h : RfAt w g A l cap k e) (hb : Below w.heap.size w w1) : RfAt w1 g A l cap k e :=
  ⟨blk_below h.blk hb, bytes_below h.bytes hb, h.room, h.far, h.at_⟩
theorem bytes_new (w : World) (cs : Array Value) (t : TypeId) (l : List (BitVec 8)) (h : cs.toList = l.map byteV) : Hid (Bytes (w.alloc (.cells cs t)) (some ⟨w.heap.size, 0, none⟩) l) := by
  intro i hi
  refine ⟨_, rfl, ?_⟩
  rw [add_lit]
  refine (blk_cell (blk_new w (.cells cs t)) i).trans ?_
  rw [← Array.getElem?_toList, h, List.getElem?_map, List.getElem?_eq_getElem hi]
  rfl
theorem awake_any (w : World) :
    Calls Try.prog 10 #[] w fun e w' => e = .returned (.bool true) ∧ Below w.heap.size w w' := by
  have HPut : Hid (Calls Try.prog 13 #[.slice none 0 0, .int .u64 258, .int .i64 3] w (PutPost w.heap.size w (.slice none 0 0) [2#8, 1#8, 0#8])) :=
    put_any w.heap.size (.slice none 0 0) [] 258 3 w (World.ownsRow_nil _ _ _ _) (Nat.le_refl _) (by decide) (by decide)
  go_enter Try.func10, Try.ntmps10
  go_wp2_with (first
    | (go_at_call 13; refine HPut.out.mono ?_; rintro e w1 ⟨v1, rfl, hown, hg1, _⟩
       have hd1 := below_own (Below.refl _ _) (World.ownsRow_nil w w.heap.size 5 1) hg1 (Nat.le_refl _)
       obtain ⟨A1, cap1, rfl, hc1, hcap1, _⟩ := own_reads hown
       have hB1 := bytes_of_cells (l := [2#8, 1#8, 0#8]) hc1)
    | (go_at_call 17; refine (new_any A1 [2#8, 1#8, 0#8] cap1 _ hB1 (by decide)).mono ?_; rintro e w2 ⟨g, A2, cap2, rfl, hg2, hA2, hR2, hd2⟩
       have hsz1 := hd1.size
       have hB2 := bytes_below hB1 hd2
       have hd12 := hd1.trans (hd2.mono hsz1)
       have hsz2 := hd12.size
       have HR := Kit.hid hR2)
    | (go_at_call 12
       refine (same_any A1 [2#8, 1#8, 0#8] cap1 (some ⟨w2.heap.size, 0, none⟩) [2#8, 1#8, 0#8] 3 _ (bytes_below hB2 ((Below.refl _ _).alloc (Nat.le_refl _) _)) (bytes_new w2 _ _ _ rfl) (by decide) (by decide)).mono ?_
       rintro e w3 ⟨rfl, n3, rfl⟩
       have hb3 : Below w2.heap.size w2 ((w2.alloc (.cells #[.int .u8 2, .int .u8 1, .int .u8 0] 5)).drewN n3) := below_drewN ((Below.refl _ _).alloc (Nat.le_refl _) _) _
       have HR3 := rd_below HR.out hb3
       have hd3 := hd12.trans (hb3.mono hsz2)
       have HT := Kit.hid (take_any g A2 [2#8, 1#8, 0#8] cap2 0 3 _ HR3 (by decide)))
    | (go_at_call 18; refine HT.out.mono ?_; rintro e w4 ⟨A4, cap4, rfl, hR4, hG4⟩
       have hd4 := hd3.grown hG4 hd3.size (fun k hk => by cases hk; omega))
    | (go_at_call 14; refine (sign_any 255 1 _ (by decide)).mono ?_; rintro e w5 ⟨rfl, rfl⟩))
  go_ret
  exact ⟨congrArg (fun b => Ending.returned (.bool b)) (show (sgn 255 (hw 1) == -1) = true by decide), hd4⟩
end Go.Proofs.Ytpgfjiglkmpnaaa.Le
