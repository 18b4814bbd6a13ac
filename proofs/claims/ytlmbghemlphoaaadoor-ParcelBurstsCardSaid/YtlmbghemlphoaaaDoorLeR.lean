/- The walks of le's reader. -/
import Derived.Test.YtlmbghemlphoaaaDoorLeS
namespace Go.Proofs.YtlmbghemlphoaaaDoor.Le
open Go.RowKit Go.Proofs.YtlmbghemlphoaaaDoor.Kit Go.Proofs.YtlmbghemlphoaaaDoor.LeM
set_option linter.unusedVariables false
set_option linter.unusedSimpArgs false
/-- A reader in memory: the bytes that are left, and how it failed. -/
structure RdAt (w : World) (g : Nat) (A : Option Addr) (l : List (BitVec 8)) (cap : Nat) (e : Int) : Prop where
  blk : w.heap[g]? = some (.cells #[.slice A l.length cap, .int .i64 e] 63 (0, 0))
  bytes : Hid (Bytes w A l)
  room : l.length ≤ cap
  far : ∀ ad, A = some ad → ad.block ≠ g
/-- What the next bytes are: they, what is left, how the reader failed. -/
def rp (l : List (BitVec 8)) (e many : Int) : List (BitVec 8) × List (BitVec 8) × Int :=
  if e ≠ 0 then ([], l, e) else if many < 0 then ([], l, 1) else if (l.length : Int) < many then ([], l, 2) else (l.take many.toNat, l.drop many.toNat, 0)
/-- What a part of a reader leaves. -/
def PartPost (w : World) (g : Nat) (r : List (BitVec 8) × List (BitVec 8) × Int) (e : Ending) (w' : World) : Prop :=
  ∃ (B : Option Addr) (c : Nat) (A' : Option Addr) (cap' : Nat), e = .returned (.slice B r.1.length c) ∧ Hid (Bytes w' B r.1) ∧ r.1.length ≤ c ∧ (∀ ad, B = some ad → ad.block ≠ g) ∧ RdAt w' g A' r.2.1 cap' r.2.2 ∧ w.grownBy w' (some g)
theorem grown_set {w : World} {g i : Nat} (u : Value) : w.grownBy (w.setCell ⟨g, i, none⟩ u) (some g) :=
  ⟨rfl, rfl, rfl, by simp, fun k _ hk => Below.heap_setCell w ⟨g, i, none⟩ u k (fun e => hk (by rw [e]))⟩
theorem bytes_far {w : World} {A : Option Addr} {l : List (BitVec 8)} (h : Hid (Bytes w A l)) {p : Addr} (hp : ∀ ad, A = some ad → ad.block ≠ p.block) (u : Value) : Hid (Bytes (w.setCell p u) A l) := by
  intro i hi
  obtain ⟨ad, rfl, hc⟩ := h.out i hi
  refine ⟨ad, rfl, ?_⟩
  rw [← hc]
  exact World.cell?_of_block (Below.heap_setCell w p u _ (by rw [add_block]; exact hp ad rfl))
theorem bytes_drop {w : World} {ad : Addr} {l : List (BitVec 8)} (h : Hid (Bytes w (some ad) l)) (n : Nat) : Hid (Bytes w (some (ad.add n)) (l.drop n)) := by
  intro i hi
  have hi' : n + i < l.length := by rw [List.length_drop] at hi; omega
  obtain ⟨ad', h1, hc⟩ := h.out (n + i) hi'
  cases h1
  exact ⟨_, rfl, by rw [add_add, hc, List.getElem_drop]⟩
theorem bytes_take {w : World} {A : Option Addr} {l : List (BitVec 8)} (h : Hid (Bytes w A l)) (n : Nat) : Hid (Bytes w A (l.take n)) := by
  intro i hi
  have hi' : i < l.length := by rw [List.length_take] at hi; omega
  obtain ⟨ad, rfl, hc⟩ := h.out i hi'
  exact ⟨ad, rfl, by rw [hc, List.getElem_take]⟩
theorem bytes_none {w : World} {l : List (BitVec 8)} (h : Hid (Bytes w none l)) : l = [] := by
  cases l with
  | nil => rfl
  | cons b l =>
    obtain ⟨ad, h1, _⟩ := h.out 0 (by simp)
    cases h1
theorem part_good {w : World} {g : Nat} {ad : Addr} {l : List (BitVec 8)} {cap : Nat} {e : Int} (h : RdAt w g (some ad) l cap e) (he : e = 0) {m : Nat} (hm : m ≤ l.length) (ad' : Addr) (c' : Nat)
    (h1 : c' = cap - m) (h2 : (cap = m ∧ ad' = ad) ∨ (cap ≠ m ∧ ad' = ad.add m)) :
    PartPost w g (l.take m, l.drop m, 0) (.returned (.slice (some ad) m m)) (w.setCell ⟨g, 0, none⟩ (.slice (some ad') (l.length - m) c')) := by
  have hr := h.room
  have hl' : (l.take m).length = m := by rw [List.length_take]; omega
  have hl2 : (l.drop m).length = l.length - m := List.length_drop
  have hfar := h.far ad rfl
  have hB := bytes_far h.bytes (p := ⟨g, 0, none⟩) (fun a ha => h.far a ha) (.slice (some ad') (l.length - m) c')
  refine ⟨some ad, m, some ad', c', by rw [hl'], bytes_take hB m, by rw [hl']; exact Nat.le_refl _, (fun a ha => by cases ha; exact hfar), ⟨?_, ?_, ?_, ?_⟩, grown_set _⟩
  · rw [show (l.take m, l.drop m, (0 : Int)).2.1.length = l.length - m from hl2]
    exact blk_put h.blk 0 _ (by subst he; rfl)
  · rcases h2 with ⟨h3, rfl⟩ | ⟨h3, rfl⟩
    · have e1 : l.drop m = [] := List.drop_eq_nil_iff.2 (by omega)
      show Hid (Bytes _ _ (l.drop m))
      rw [e1]
      exact bytes_nil _ _
    · exact bytes_drop hB m
  · show (l.drop m).length ≤ c'
    omega
  · intro a ha
    cases ha
    rcases h2 with ⟨h3, rfl⟩ | ⟨h3, rfl⟩
    · exact hfar
    · rw [add_block]; exact hfar
set_option maxHeartbeats 400000 in
theorem part_any (g : Nat) (A : Option Addr) (l : List (BitVec 8)) (cap : Nat) (e many : Int) (w : World) (h : RdAt w g A l cap e) (hl : l.length ≤ 140737488351232) :
    Calls Tryd.prog 22 #[.pointer (some ⟨g, 0, none⟩), .int .i64 many] w (PartPost w g (rp l e many)) := by
  have c0 : w.cell? ⟨g, 0, none⟩ = some (.slice A l.length cap) := (blk_cell h.blk 0).trans rfl
  have c1 : w.cell? ⟨g, 1, none⟩ = some (.int .i64 e) := (blk_cell h.blk 1).trans rfl
  have z0 := blk_frozen h.blk 0
  have z1 := blk_frozen h.blk 1
  have hr := h.room
  have H := Kit.hid h
  clear h
  by_cases he : e = 0
  · by_cases hm : many < 0
    · have hq : rp l e many = ([], l, 1) := by
        unfold rp
        rw [if_neg (by simpa using he), if_pos hm]
      have HQ := Kit.hid hq
      have g1 : (e != 0) = false := by simp [he]
      clear hq he
      go_enter Tryd.func22, Tryd.ntmps22
      go_wp2
      go_ret
      rw [HQ.out]
      refine ⟨none, 0, A, cap, rfl, bytes_nil _ _, Nat.le_refl _, (fun ad h => by cases h), ⟨?_, bytes_far H.out.bytes H.out.far _, H.out.room, H.out.far⟩, grown_set _⟩
      exact blk_put H.out.blk 1 _ rfl
    · by_cases hs : (l.length : Int) < many
      · have hq : rp l e many = ([], l, 2) := by
          unfold rp
          rw [if_neg (by simpa using he), if_neg hm, if_pos hs]
        have HQ := Kit.hid hq
        have g1 : (e != 0) = false := by simp [he]
        clear hq he
        go_enter Tryd.func22, Tryd.ntmps22
        go_wp2
        go_ret
        rw [HQ.out]
        refine ⟨none, 0, A, cap, rfl, bytes_nil _ _, Nat.le_refl _, (fun ad h => by cases h), ⟨?_, bytes_far H.out.bytes H.out.far _, H.out.room, H.out.far⟩, grown_set _⟩
        exact blk_put H.out.blk 1 _ rfl
      · obtain ⟨m, rfl⟩ := Int.eq_ofNat_of_zero_le (show 0 ≤ many by omega)
        have hq : rp l e m = (l.take m, l.drop m, 0) := by
          unfold rp
          rw [if_neg (by simpa using he), if_neg hm, if_neg hs]
          simp
        have HQ := Kit.hid hq
        have HE := Kit.hid he
        have hml : m ≤ l.length := by omega
        have g1 : (e != 0) = false := by simp [he]
        have h0 : 0 ≤ (m : Int) := by omega
        clear hq he hm hs
        cases A with
        | none =>
          obtain rfl := bytes_none H.out.bytes
          obtain rfl : m = 0 := by simpa using hml
          go_enter Tryd.func22, Tryd.ntmps22
          go_wp2
          all_goals
            go_ret
            rw [HQ.out]
            refine ⟨none, 0, none, cap, rfl, bytes_nil _ _, Nat.le_refl _, (fun ad h => by cases h), ⟨?_, bytes_nil _ _, by simp, fun ad h => by cases h⟩, grown_set _⟩
            exact blk_put H.out.blk 0 _ (by rw [HE.out]; rfl)
        | some ad =>
          go_enter Tryd.func22, Tryd.ntmps22
          go_wp2
          · go_ret
            rw [HQ.out]
            exact part_good H.out HE.out hml _ _ (by omega) (Or.inl ⟨by assumption, rfl⟩)
          · go_ret
            rw [HQ.out]
            exact part_good H.out HE.out hml _ _ rfl (Or.inr ⟨by assumption, rfl⟩)
  · have hq : rp l e many = ([], l, e) := by
      unfold rp
      rw [if_pos he]
    have HQ := Kit.hid hq
    have g1 : (e != 0) = true := by simp [he]
    clear hq he
    go_enter Tryd.func22, Tryd.ntmps22
    go_wp2
    go_ret
    rw [HQ.out]
    exact ⟨none, 0, A, cap, rfl, bytes_nil _ _, Nat.le_refl _, (fun ad h => by cases h), H.out, grown_refl _ _⟩
end Go.Proofs.YtlmbghemlphoaaaDoor.Le
