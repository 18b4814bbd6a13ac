/- The laws' example of parcels. -/
import Derived.Test.YtlmbghemlphoaaaDoorPaN
import Derived.Test.YtlmbghemlphoaaaDoorPaH
namespace Go.Proofs.YtlmbghemlphoaaaDoor.Pa
open Go.RowKit Go.Proofs.YtlmbghemlphoaaaDoor.Kit Go.Proofs.YtlmbghemlphoaaaDoor.PaM Go.Proofs.YtlmbghemlphoaaaDoor.Le Go.IntWalk
set_option linter.unusedVariables false
set_option linter.unusedSimpArgs false
/-- A parcel's image at a slice: what its cells are. -/
theorem byte_at {w : World} {A : Option Addr} {l : List (BitVec 8)} {i : Nat} {b : BitVec 8} (h : Hid (Bytes w A l)) (hb : l[i]? = some b) : ∃ ad, A = some ad ∧ w.cell? (ad.add i) = some (.int .u8 (b.toNat : Int)) := by
  obtain ⟨hi, rfl⟩ := List.getElem?_eq_some_iff.1 hb
  exact h.out i hi
def PackOk (w : World) (b : List (BitVec 8)) (n : Nat) (e : Ending) (w' : World) : Prop :=
  ∃ (A : Option Addr) (cap : Nat), e = .returned (.tuple #[.slice A n cap, .int .i64 0]) ∧ Hid (Bytes w' A b) ∧ n ≤ cap ∧ Below w.heap.size w w'
theorem pack_ok (A : Option Addr) (l : List SecM) (cap n : Nat) (w : World) (hT : Hid (Crc.Tab w)) (hs : Hid (Secs w A l)) (hl : l.length ≤ 9223372036854775807) (hw : wrongM l = 0) (hn : (img (l.map SecM.sec)).length = n) :
    Calls Tryd.prog 14 #[.slice A l.length cap] w (PackOk w (img (l.map SecM.sec)) n) := by
  refine (pack_any A l cap w hT hs hl).mono ?_
  rintro e w' ⟨A', cap', rfl, hb, hc, hd⟩
  have hp : packed l = img (l.map SecM.sec) := by unfold packed; rw [if_pos hw]
  rw [hp] at hb hc
  rw [hn] at hc
  exact ⟨A', cap', by rw [hp, hn, hw], hb, hc, hd⟩
def UnpOne (w : World) (e : Ending) (w' : World) : Prop :=
  ∃ (ad : Addr) (cap : Nat) (bd : Addr) (c : Nat), e = .returned (.tuple #[.slice (some ad) 1 cap, .int .i64 0]) ∧ w'.cell? ad = some (.int .i64 3) ∧ w'.cell? ⟨ad.block, ad.off + 1, none⟩ = some (.slice (some bd) 1 c) ∧ w'.cell? bd = some (.int .u8 7) ∧ 1 ≤ cap ∧ True ∧ Below w.heap.size w w'
theorem unpack_one (A : Option Addr) (cap : Nat) (w' : World) (h1 : Hid (Crc.Tab w')) (h2 : Hid (Bytes w' A (img [⟨3, [7#8]⟩]))) (h3 : 21 ≤ cap) :
    Calls Tryd.prog 10 #[.slice A 21 cap] w' (UnpOne w') := by
  have hln : (img [⟨3, [7#8]⟩]).length = 21 := by rw [img_length]; rfl
  have hun : unp (img [⟨3, [7#8]⟩]) = (0, [⟨3, [7#8]⟩]) := unp_img (by decide)
  have h := unpack_any A (img [⟨3, [7#8]⟩]) cap w' h1 h2 (by rw [hln]; decide) (by rw [hln]; exact h3)
  rw [hln] at h
  refine h.mono ?_
  rintro e w6 ⟨A6, cap6, ls, rfl, hls, hS6, hc6, _, hd6⟩
  rw [hun] at hls ⊢
  obtain ⟨s, rfl⟩ : ∃ s, ls = [s] := by
    cases ls with
    | nil => simp at hls
    | cons s l =>
      cases l with
      | nil => exact ⟨s, rfl⟩
      | cons a b =>
        have := congrArg List.length hls
        simp at this
  · have hs : s.sec = ⟨3, [7#8]⟩ := by simpa using hls
    have hsk : s.kind = 3 := congrArg Sec.kind hs
    have hsbb : s.b = [7#8] := congrArg Sec.body hs
    obtain ⟨ad, hA6, k0, k1, kb⟩ := sec_at hS6 (i := 0) (by simp) rfl
    subst hA6
    have hadd : ad.add (0 * 2) = ad := by unfold Addr.add; simp
    simp only [List.getElem_cons_zero] at k0 k1 kb
    rw [hadd, hsk] at k0
    rw [hadd] at k1
    unfold SecM.body at k1
    rw [hsbb] at k1 kb
    obtain ⟨bd, hbd, c7⟩ := byte_at (i := 0) kb rfl
    have hadd2 : bd.add 0 = bd := by unfold Addr.add; simp
    rw [hadd2] at c7
    rw [hbd] at k1
    exact ⟨ad, cap6, bd, s.cap, rfl, k0, k1, c7, hc6, trivial, hd6⟩
set_option maxHeartbeats 1600000 in
theorem awake_any (w : World) (hT : Hid (Crc.Tab w)) : Calls Tryd.prog 9 #[] w fun e w' => e = .returned (.bool true) ∧ Below w.heap.size w w' := by
  have CP1 : Hid (Calls Tryd.prog 14 #[.slice none 0 0] w (PackOk w (img []) 13)) := Kit.hid (pack_ok none [] 0 13 w hT (fun i hi => by cases hi) (by decide) rfl (by show (img []).length = 13; rw [img_length]; rfl))
  have HU := Kit.hid unpack_one
  go_enter Tryd.func9, Tryd.ntmps9
  go_wp2_with (first
    | (go_at_call 14; (with_reducible refine CP1.out.mono ?_); rintro e w1 ⟨A1, cap1, rfl, hB1, hc1, hd1⟩
       have hlitb : Cells (w1.alloc (.cells #[.int .u8 7] 5)) (some ⟨w1.heap.size, 0, none⟩) [byteV 7#8] := lit1 w1 7#8
       have hb2 := (Below.refl w1.heap.size w1).alloc (Nat.le_refl _) (.cells #[.int .u8 7] 5)
       have hsz : (w1.alloc (.cells #[.int .u8 7] 5)).heap.size = w1.heap.size + 1 := by simp
       have hlits := litS (w1.alloc (.cells #[.int .u8 7] 5)) ⟨3, some ⟨w1.heap.size, 0, none⟩, [7#8], 1⟩
       rw [hsz] at hlits
       have hb3 := hb2.alloc hb2.size (.cells #[.int .i64 3, .slice (some ⟨w1.heap.size, 0, none⟩) 1 1] 39)
       have hsec : Hid (Secs ((w1.alloc (.cells #[.int .u8 7] 5)).alloc (.cells #[.int .i64 3, .slice (some ⟨w1.heap.size, 0, none⟩) 1 1] 39)) (some ⟨w1.heap.size + 1, 0, none⟩) [⟨3, some ⟨w1.heap.size, 0, none⟩, [7#8], 1⟩]) :=
         secs_of_cells hlits (fun s hs => by
           rw [List.mem_singleton.1 hs]
           exact bytes_below (bytes_of_cells (l := [7#8]) hlitb) ((Below.refl _ _).alloc (Nat.le_refl _) _))
       have hd3 := Kit.hid (hd1.trans (hb3.mono hd1.size))
       have CP2 : Hid (Calls Tryd.prog 14 #[.slice (some ⟨w1.heap.size + 1, 0, none⟩) 1 1] ((w1.alloc (.cells #[.int .u8 7] 5)).alloc (.cells #[.int .i64 3, .slice (some ⟨w1.heap.size, 0, none⟩) 1 1] 39)) (PackOk ((w1.alloc (.cells #[.int .u8 7] 5)).alloc (.cells #[.int .i64 3, .slice (some ⟨w1.heap.size, 0, none⟩) 1 1] 39)) (img [⟨3, [7#8]⟩]) 21)) :=
         Kit.hid (pack_ok (some ⟨w1.heap.size + 1, 0, none⟩) [⟨3, some ⟨w1.heap.size, 0, none⟩, [7#8], 1⟩] 1 21 _ (Crc.tab_below hT hd3.out) hsec (by simp) rfl (by show (img [⟨3, [7#8]⟩]).length = 21; rw [img_length]; rfl)))
    | (go_at_call 14; (with_reducible refine CP2.out.mono ?_); rintro e w4 ⟨A4, cap4, rfl, hB4, hc4, hd4⟩
       have hd5 := Kit.hid (hd3.out.trans (hd4.mono hd3.out.size))
       have CU := Kit.hid (HU.out A4 cap4 w4 (Crc.tab_below hT hd5.out) hB4 hc4))
    | (go_at_call 10; (with_reducible refine CU.out.mono ?_); rintro e w6 ⟨ad, cap6, bd, c6, rfl, k0, k1, c7, hc6, hc6b, hd6⟩
       have hB16 := bytes_below hB1 ((hb3.trans (hd4.mono hb3.size)).trans (hd6.mono (hb3.trans (hd4.mono hb3.size)).size))
       obtain ⟨b3, hA1, c3⟩ := byte_at (i := 3) (b := 49#8) hB16 rfl
       subst hA1
       obtain ⟨b4, hA4, c4⟩ := byte_at (i := 4) (b := 0#8) hB16 rfl
       cases hA4
       have c3' : w6.cell? ⟨b3.block, b3.off + 3, none⟩ = some (.int .u8 49) := c3
       have c4' : w6.cell? ⟨b3.block, b3.off + 4, none⟩ = some (.int .u8 0) := c4
       have hd7 := Kit.hid (hd5.out.trans (hd6.mono hd5.out.size))))
  go_ret
  exact ⟨rfl, hd7.out⟩
end Go.Proofs.YtlmbghemlphoaaaDoor.Pa
