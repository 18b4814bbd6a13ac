/- The law ShelfPlays. -/
import Derived.Test.YtgcmblklalcpgaaShPut
namespace Go.Proofs.Ytgcmblklalcpgaa.Sh
open Go.RowKit Go.Proofs.Ytgcmblklalcpgaa.Kit Go.Proofs.Ytgcmblklalcpgaa.ShM
set_option linter.unusedVariables false
set_option linter.unusedSimpArgs false
/-- A shelf, and the reference's row beside it, both laid behind w0. -/
def PlayI (w0 wr : World) (g : Nat) (ls : List It) (n : Nat) (A : Option Addr) (lr : List It) (c : Nat) : Prop :=
  ∃ S : Nat → Prop, (∀ b, S b → w0.heap.size ≤ b) ∧ ItemsF S wr g ls n ∧ Hid (ItRow wr A lr) ∧ (∀ ad, A = some ad → ¬ S ad.block ∧ ad.block < wr.heap.size) ∧ lr.length ≤ c ∧ Below w0.heap.size w0 wr
section
variable {w0 w w' : World} {g n c : Nat} {ls lr : List It} {A : Option Addr}
theorem PlayI.to (h : PlayI w0 w g ls n A lr c) : Below w0.heap.size w0 w := by
  obtain ⟨S, h1, h2, h3, h4, h5, h6⟩ := h
  exact h6
theorem PlayI.row (h : PlayI w0 w g ls n A lr c) : Hid (ItRow w A lr) := by
  obtain ⟨S, h1, h2, h3, h4, h5, h6⟩ := h
  exact h3
theorem PlayI.cap (h : PlayI w0 w g ls n A lr c) : lr.length ≤ c := by
  obtain ⟨S, h1, h2, h3, h4, h5, h6⟩ := h
  exact h5
theorem PlayI.shelf (h : PlayI w0 w g ls n A lr c) : ∃ S, Items w S w g ls n := by
  obtain ⟨S, h1, h2, h3, h4, h5, h6⟩ := h
  exact ⟨S, h2.items⟩
theorem PlayI.more {m : Nat} (h : PlayI w0 w g ls n A lr c) (hm : n ≤ m) : PlayI w0 w g ls m A lr c := by
  obtain ⟨S, h1, ⟨t, gl, cl, vf, L, F, h2, hH, h3⟩, h4⟩ := h
  exact ⟨S, h1, ⟨t, gl, cl, vf, L, F, h2, ⟨hH.sh, hH.zero, hH.fit, hH.free, Nat.le_trans hH.len hm⟩, h3⟩, h4⟩
theorem PlayI.below (h : PlayI w0 w g ls n A lr c) (hb : Below w.heap.size w w') : PlayI w0 w' g ls n A lr c := by
  obtain ⟨S, h1, h2, h3, h4, h5, h6⟩ := h
  exact ⟨S, h1, h2.kept fun b hb' => hb.block b (h2.lt b hb'), itrow_below h3 hb, fun ad e => ⟨(h4 ad e).1, Nat.lt_of_lt_of_le (h4 ad e).2 hb.size⟩, h5, h6.trans (hb.mono h6.size)⟩
theorem PlayI.step {S : Nat → Prop} {l' : List It} {n' : Nat} (h1 : ∀ b, S b → w0.heap.size ≤ b) (h2 : ItemsF S w g ls n) (h3 : Hid (ItRow w A lr)) (h4 : ∀ ad, A = some ad → ¬ S ad.block ∧ ad.block < w.heap.size) (h5 : lr.length ≤ c) (h6 : Below w0.heap.size w0 w) (hi : Items w S w' g l' n') : PlayI w0 w' g l' n' A lr c := by
  obtain ⟨S', hf, he⟩ := hi.foot
  have hk := hi.kept
  refine ⟨S', fun b hs => ?_, hf, itrow_same h3 fun ad e => hk.block _ (h4 ad e).2 (h4 ad e).1, fun ad e => ⟨fun hs => ?_, Nat.lt_of_lt_of_le (h4 ad e).2 hk.size⟩, h5, ?_⟩
  · rcases he b hs with h | h
    · exact h1 b h
    · have := h6.size; omega
  · rcases he _ hs with h | h
    · exact (h4 ad e).1 h
    · have := (h4 ad e).2; omega
  · exact ⟨hk.os.trans h6.os, hk.tape.trans h6.tape, hk.output.trans h6.output, Nat.le_trans h6.size hk.size, fun b hb => (hk.block b (Nat.lt_of_lt_of_le hb h6.size) (fun hs => by have := h1 b hs; omega)).trans (h6.block b hb)⟩
theorem play_put (x : It) (h : PlayI w0 w g ls n A lr c) (hn : n ≤ 549755813888) :
    Calls Try.prog 17 #[.pointer (some ⟨g, 0, none⟩), .agg #[.int .i64 x.key, .int .i64 x.id]] w fun e w' => e = .returned (.bool (decide (x ∉ ls))) ∧ PlayI w0 w' g (putL x ls) (n + 1) A lr c := by
  obtain ⟨S, h1, h2, h3, h4, h5, h6⟩ := h
  exact (items_put x h2.items hn).mono fun e w' h => ⟨h.1, PlayI.step h1 h2 h3 h4 h5 h6 h.2⟩
theorem play_drop (x : It) (h : PlayI w0 w g ls n A lr c) (hn : n ≤ 549755813888) :
    Calls Try.prog 21 #[.pointer (some ⟨g, 0, none⟩), .agg #[.int .i64 x.key, .int .i64 x.id]] w fun e w' => e = .returned (.bool (decide (x ∈ ls))) ∧ PlayI w0 w' g (dropL x ls) n A lr c := by
  obtain ⟨S, h1, h2, h3, h4, h5, h6⟩ := h
  exact (items_drop x h2.items hn).mono fun e w' h => ⟨h.1, PlayI.step h1 h2 h3 h4 h5 h6 h.2⟩
theorem PlayI.turn {A' : Option Addr} {lr' : List It} {c' : Nat} (h : PlayI w0 w g ls n A lr c) (hb : Below w.heap.size w w') (hr : Hid (ItRow w' A' lr')) (hc : lr'.length ≤ c') (hA : A' = A ∨ ∀ ad, A' = some ad → w.heap.size ≤ ad.block ∧ ad.block < w'.heap.size) : PlayI w0 w' g ls n A' lr' c' := by
  obtain ⟨S, h1, h2, h3, h4, h5, h6⟩ := h
  refine ⟨S, h1, h2.kept fun b hb' => hb.block b (h2.lt b hb'), hr, fun ad e => ?_, hc, h6.trans (hb.mono h6.size)⟩
  rcases hA with rfl | hA
  · exact ⟨(h4 ad e).1, Nat.lt_of_lt_of_le (h4 ad e).2 hb.size⟩
  · exact ⟨fun hs => by have := h2.lt _ hs; have := (hA ad e).1; omega, (hA ad e).2⟩
theorem play_rput (x : It) (h : PlayI w0 w g ls n A lr c) (hr : Rises lr) (hl : lr.length ≤ 1000000) :
    Calls Try.prog 23 #[.slice A lr.length c, .agg #[.int .i64 x.key, .int .i64 x.id]] w fun e w' => ∃ A' c', e = .returned (.slice A' (putL x lr).length c') ∧ PlayI w0 w' g ls n A' (putL x lr) c' :=
  (rput_any A lr c x w h.row hr h.cap hl).mono fun e w' ⟨A', c', h1, h2, h3, h4, h5⟩ => ⟨A', c', h1, h.turn h5 h2 h3 h4⟩
theorem play_rdrop (x : It) (h : PlayI w0 w g ls n A lr c) (hl : lr.length ≤ 1000000) :
    Calls Try.prog 22 #[.slice A lr.length c, .agg #[.int .i64 x.key, .int .i64 x.id]] w fun e w' => ∃ A' c', e = .returned (.slice A' (dropL x lr).length c') ∧ PlayI w0 w' g ls n A' (dropL x lr) c' :=
  (rdrop_any A lr c x w h.row hl).mono fun e w' ⟨v, h1, h2, h3⟩ => by
    obtain ⟨A', c', rfl, hc, hn, hA⟩ := own_readsS (by decide) h2
    refine ⟨A', c', h1, h.turn h3 (itrow_cells hc) hn (.inr fun ad e => ?_)⟩
    rcases hA with ⟨h0, _⟩ | ⟨g', h0, h1, h2⟩
    · rw [h0] at e; cases e
    · rw [h0] at e; cases e; exact ⟨h1, h2⟩
theorem items_atL {S0 : Nat → Prop} {p : Nat} {l : List It} (rank : Int) (h : Items w0 S0 w p l n) (hn : n ≤ 549755813888) :
    Calls Try.prog 14 #[.pointer (some ⟨p, 0, none⟩), .int .i64 rank] w (AtPost w (atL l rank).1 (atL l rank).2) := by
  unfold atL
  by_cases hr : rank < 0 ∨ (l.length : Int) ≤ rank
  · rw [if_pos hr]
    exact items_at_out rank h hn hr
  · rw [if_neg hr]
    obtain ⟨k, rfl⟩ := Int.eq_ofNat_of_zero_le (show 0 ≤ rank by omega)
    have hk : k < l.length := by omega
    refine items_at k _ h hn ?_
    simp [List.getElem?_eq_getElem hk]
end
set_option maxRecDepth 8000 in
set_option maxHeartbeats 4000000 in
theorem playsLaw_any (A : Option Addr) (ops : List OpM) (cap : Nat) (x : It) (rank : Int) (w : World) (hr : Hid (OpRow w A ops)) (hl : ops.length ≤ 9223372036854775807) :
    Calls Try.prog 5 #[.slice A ops.length cap, .agg #[.int .i64 x.key, .int .i64 x.id], .int .i64 rank] w fun e w' => e = .returned (.bool true) ∧ Below w.heap.size w w' := by
  have HAW := Kit.hid awake_any
  obtain ⟨W0, hW0⟩ : ∃ W0, W0 = w.alloc (.cells #[.int .i64 x.key, .int .i64 x.id] 24) := ⟨_, rfl⟩
  have hb0 : Below w.heap.size w W0 := by rw [hW0]; exact (Below.refl _ w).alloc (Nat.le_refl _) _
  have hx0 : W0.heap[w.heap.size]? = some (.cells #[.int .i64 x.key, .int .i64 x.id] 24 (0, 0)) := by rw [hW0]; exact World.alloc_heap_new w _
  have HR := hr
  clear hr
  go_enter Try.func5, Try.ntmps5
  go_wp2_with fail
  rw [← hW0]
  clear hW0
  (with_reducible refine (HAW.out W0).mono ?_); rintro e w1 ⟨rfl, hd1⟩
  have hx1 := (hd1.block _ (blk_lt hx0)).trans hx0
  have hb1 : Below w.heap.size w w1 := hb0.trans (hd1.mono hb0.size)
  have hr1 := oprow_below HR hb1
  have HB1 := Kit.hid hb1
  have HX1 := Kit.hid hx1
  clear hx0 hx1 hb1 hd1 hb0 HAW HR
  by_cases hbig : 100 < ops.length
  · have g1 : (100 : Int) < (ops.length : Int) := by omega
    clear hbig
    go_wp2
    go_ret
    exact ⟨rfl, HB1.out⟩
  have g1 : ¬ (100 : Int) < (ops.length : Int) := by omega
  have hops : ops.length ≤ 100 := by omega
  clear hbig hl
  have HNW := Kit.hid (items_new (Kept.refl (fun _ => False) w1))
  go_wp2_with fail
  (with_reducible refine HNW.out.mono ?_); rintro e w2 ⟨g, rfl, hg, hi, hb2⟩
  have HI2 : Hid (PlayI w1 w2 g [] 1 none [] 0) := Kit.hid (by
    obtain ⟨S, hf, he⟩ := hi.foot
    have hrow0 : Hid (ItRow w2 none []) := Kit.hid (fun i hi => by cases hi)
    have hoff0 : ∀ ad : Addr, (none : Option Addr) = some ad → ¬ S ad.block ∧ ad.block < w2.heap.size := fun ad e => by cases e
    exact ⟨S, fun b h => (he b h).elim (fun h => h.elim) id, hf, hrow0, hoff0, Nat.le_refl _, hb2⟩)
  clear hi hb2 HNW hg
  have HSP : Hid (∀ x w' ls n A lr c, PlayI w1 w' g ls n A lr c → n ≤ 1000 → Calls Try.prog 17 #[.pointer (some ⟨g, 0, none⟩), .agg #[.int .i64 (ShM.It.key x), .int .i64 (ShM.It.id x)]] w' fun e w'' => e = .returned (.bool (decide (x ∉ ls))) ∧ PlayI w1 w'' g (putL x ls) (n + 1) A lr c) := Kit.hid (fun x w' ls n A lr c h hn => play_put x h (by omega))
  have HSD : Hid (∀ x w' ls n A lr c, PlayI w1 w' g ls n A lr c → n ≤ 1000 → Calls Try.prog 21 #[.pointer (some ⟨g, 0, none⟩), .agg #[.int .i64 (ShM.It.key x), .int .i64 (ShM.It.id x)]] w' fun e w'' => e = .returned (.bool (decide (x ∈ ls))) ∧ PlayI w1 w'' g (dropL x ls) n A lr c) := Kit.hid (fun x w' ls n A lr c h hn => play_drop x h (by omega))
  have HRP : Hid (∀ x w' ls n A lr c, PlayI w1 w' g ls n A lr c → Rises lr → lr.length ≤ 1000 → Calls Try.prog 23 #[.slice A lr.length c, .agg #[.int .i64 (ShM.It.key x), .int .i64 (ShM.It.id x)]] w' fun e w'' => ∃ A' c', e = .returned (.slice A' (putL x lr).length c') ∧ PlayI w1 w'' g ls n A' (putL x lr) c') := Kit.hid (fun x w' ls n A lr c h hr hn => play_rput x h hr (by omega))
  have HRD : Hid (∀ x w' ls n A lr c, PlayI w1 w' g ls n A lr c → lr.length ≤ 1000 → Calls Try.prog 22 #[.slice A lr.length c, .agg #[.int .i64 (ShM.It.key x), .int .i64 (ShM.It.id x)]] w' fun e w'' => ∃ A' c', e = .returned (.slice A' (dropL x lr).length c') ∧ PlayI w1 w'' g ls n A' (dropL x lr) c') := Kit.hid (fun x w' ls n A lr c h hn => play_rdrop x h (by omega))
  have HRH : Hid (∀ x w' ls n A lr c b, PlayI w1 w' g ls n A lr c → lr.length ≤ 1000 → decide (x ∈ lr) = b → Calls Try.prog 20 #[.slice A lr.length c, .agg #[.int .i64 (ShM.It.key x), .int .i64 (ShM.It.id x)]] w' fun e w'' => e = .returned (.bool b) ∧ Below w'.heap.size w' w'') := Kit.hid (fun x w' ls n A lr c b h hn hb => by rw [← hb]; exact rhas_any A lr c x w' h.row (by omega))
  have HSH : Hid (∀ x w' ls n A lr c b, PlayI w1 w' g ls n A lr c → n ≤ 1000 → decide (x ∈ ls) = b → Calls Try.prog 24 #[.pointer (some ⟨g, 0, none⟩), .agg #[.int .i64 (ShM.It.key x), .int .i64 (ShM.It.id x)]] w' fun e w'' => e = .returned (.bool b) ∧ Below w'.heap.size w' w'') := Kit.hid (fun x w' ls n A lr c b h hn hb => by
    rw [← hb]
    obtain ⟨S, hs⟩ := h.shelf
    exact items_has x hs (by omega))
  have HSL : Hid (∀ w' ls n A lr c, PlayI w1 w' g ls n A lr c → Calls Try.prog 13 #[.pointer (some ⟨g, 0, none⟩)] w' fun e w'' => e = .returned (.int .i64 (ls.length : Int)) ∧ ∃ m, w'' = w'.drewN m) := Kit.hid (fun w' ls n A lr c h => by
    obtain ⟨S, hs⟩ := h.shelf
    exact items_len hs)
  have HOP : Hid (∀ i o w', Below w1.heap.size w1 w' → ops[i]? = some o → ∃ ad : Addr, A = some ad ∧ w'.cell? (ad.add (i * 3)) = some (.int .i64 o.x.key) ∧ w'.cell? ⟨(ad.add (i * 3)).block, (ad.add (i * 3)).off + 1, none⟩ = some (.int .i64 o.x.id) ∧ w'.cell? ⟨(ad.add (i * 3)).block, (ad.add (i * 3)).off + 2, none⟩ = some (.bool o.out)) := Kit.hid (fun i o w' hb ho => op_at (oprow_below hr1 hb) ho)
  go_wp2_with fail
  go_loopw [9, 10] (fun v9 v10 wr => ∃ (i : Nat) (A' : Option Addr) (c' : Nat), i ≤ ops.length ∧ v10 = .int .i64 i ∧ v9 = .slice A' (walkedL (ops.take i)).length c' ∧ Hid (PlayI w1 wr g (walkedL (ops.take i)) (i + 1) A' (walkedL (ops.take i)) c')) (fun _ i _ => ops.length - (intOf i).toNat)
  case atStart => exact ⟨0, none, 0, by omega, rfl, rfl, HI2⟩
  case round =>
    obtain ⟨i, A', c', hi, rfl, rfl, hP⟩ := hrel
    obtain ⟨l, hl⟩ : ∃ l, l = walkedL (ops.take i) := ⟨_, rfl⟩
    rw [← hl] at hP ⊢
    have hll : l.length ≤ 101 := by
      obtain ⟨S, hs⟩ := hP.out.shelf
      have := hs.length
      omega
    have HRS : Hid (Rises l) := Kit.hid (by
      obtain ⟨S, hs⟩ := hP.out.shelf
      exact hs.rises)
    by_cases hlt : i < ops.length
    · obtain ⟨o, ho⟩ : ∃ o, ops[i]? = some o := ⟨_, List.getElem?_eq_getElem hlt⟩
      have HO := Kit.hid ho
      have HW : Hid (walkedL (ops.take (i + 1)) = playL l o) := Kit.hid (by rw [walkedL_snoc ops i o ho, hl])
      clear hl ho
      obtain ⟨ad, hA, d0, d1, d2⟩ := HOP.out i o _ hP.out.to HO.out
      subst hA
      have HC : Hid (∀ w', Below w1.heap.size w1 w' → w'.cell? (ad.add (i * 3)) = some (.int .i64 o.x.key) ∧ w'.cell? ⟨(ad.add (i * 3)).block, (ad.add (i * 3)).off + 1, none⟩ = some (.int .i64 o.x.id) ∧ w'.cell? ⟨(ad.add (i * 3)).block, (ad.add (i * 3)).off + 2, none⟩ = some (.bool o.out)) := Kit.hid (fun w' hb => by
        obtain ⟨ad', e1, q0, q1, q2⟩ := HOP.out i o w' hb HO.out
        obtain rfl := Option.some.inj e1
        exact ⟨q0, q1, q2⟩)
      obtain ⟨y, out⟩ := o
      dsimp only at d0 d1 d2 HC
      obtain ⟨b, hb⟩ : ∃ b, decide (y ∈ l) = b := ⟨_, rfl⟩
      have HBD := Kit.hid hb
      clear hb HO
      cases out
      · skip
        have HQ : Hid (walkedL (ops.take (i + 1)) = putL y l) := Kit.hid (by rw [HW.out]; rfl)
        clear HW
        go_wp2_with fail
        (with_reducible refine (HRH.out y _ _ _ _ _ _ b hP.out (by omega) HBD.out).mono ?_); rintro e w3 ⟨rfl, hb3⟩
        have HP3 := Kit.hid (hP.out.below hb3)
        clear d0 d1 d2 hb3
        obtain ⟨d0, d1, d2⟩ := HC.out _ HP3.out.to
        go_wp2_with fail
        (with_reducible refine (HSP.out y _ _ _ _ _ _ HP3.out (by omega)).mono ?_); rintro e w4 ⟨rfl, h4⟩
        have HP4 := Kit.hid h4
        clear d0 d1 d2 h4
        obtain ⟨d0, d1, d2⟩ := HC.out _ HP4.out.to
        rw [show decide (y ∉ l) = !b by rw [← HBD.out]; simp]
        have hbb : (!b == b) = false := by cases b <;> rfl
        go_wp2_with fail
        (with_reducible refine (HRP.out y _ _ _ _ _ _ HP4.out HRS.out (by omega)).mono ?_); rintro e w5 ⟨A5, c5, rfl, h5⟩
        have HP5 := Kit.hid h5
        clear d0 d1 d2 h5
        obtain ⟨d0, d1, d2⟩ := HC.out _ HP5.out.to
        have HC5 : Hid (∀ w', Below w5.heap.size w5 w' → w'.cell? (ad.add (i * 3)) = some (.int .i64 y.key) ∧ w'.cell? ⟨(ad.add (i * 3)).block, (ad.add (i * 3)).off + 1, none⟩ = some (.int .i64 y.id) ∧ w'.cell? ⟨(ad.add (i * 3)).block, (ad.add (i * 3)).off + 2, none⟩ = some (.bool false)) := Kit.hid (fun w' hb => HC.out w' (HP5.out.below hb).to)
        have HSHB : Hid (∀ w', Below w5.heap.size w5 w' → Calls Try.prog 24 #[.pointer (some ⟨g, 0, none⟩), .agg #[.int .i64 y.key, .int .i64 y.id]] w' fun e w'' => e = .returned (.bool true) ∧ Below w'.heap.size w' w'') := Kit.hid (fun w' hb => HSH.out y w' _ _ _ _ _ true (HP5.out.below hb) (by omega) (decide_eq_true ((putL_mem_iff y y l).2 (.inl rfl))))
        have HSLB : Hid (∀ w', Below w5.heap.size w5 w' → Calls Try.prog 13 #[.pointer (some ⟨g, 0, none⟩)] w' fun e w'' => e = .returned (.int .i64 ((putL y l).length : Int)) ∧ Below w'.heap.size w' w'') := Kit.hid (fun w' hb => (HSL.out w' _ _ _ _ _ (HP5.out.below hb)).mono fun e w'' h => ⟨h.1, by obtain ⟨m, rfl⟩ := h.2; exact below_drewN (Below.refl _ _) m⟩)
        clear d0 d1 d2
        go_wp2_with fail
        refine wp_region_noPanic ?_
        refine wp_region_held_drew (S := fun w' => Below w5.heap.size w5 w') (by kernel_rfl) (Below.refl _ _).drew (fun hHeld => ?_)
        refine wpAnyH_take (i := 0) (hi := by simp only [List.getElem?_toArray, List.getElem?_cons_succ, List.getElem?_cons_zero]; rfl) (v := ?_) (by kernel_rfl) (by kernel_rfl) (by kernel_rfl) (fun _ _ _ h => h) (Or.inl ⟨by rfl, ?_⟩) (by assumption) ?_
        rotate_left
        · (intro w hSw; (try dsimp only at hSw); go_simp; first | done | with_reducible rfl)
        try simp only [Act.put, List.setIfInBounds_toArray, List.set_cons_zero, List.set_cons_succ]
        refine wpAnyH_take (i := 2) (hi := by simp only [List.getElem?_toArray, List.getElem?_cons_succ, List.getElem?_cons_zero]; rfl) (v := ?_) (by kernel_rfl) (by kernel_rfl) (by kernel_rfl) (fun _ _ _ h => h) (Or.inl ⟨by rfl, ?_⟩) (by assumption) ?_
        rotate_left
        · (intro w hSw; (try dsimp only at hSw); go_simp; first | done | with_reducible rfl)
        try simp only [Act.put, List.setIfInBounds_toArray, List.set_cons_zero, List.set_cons_succ]
        refine wpAnyH_take (i := 3) (hi := by simp only [List.getElem?_toArray, List.getElem?_cons_succ, List.getElem?_cons_zero]; rfl) (v := ?_) (by kernel_rfl) (by kernel_rfl) (by kernel_rfl) (fun _ _ _ h => h) (Or.inl ⟨by rfl, ?_⟩) (by assumption) ?_
        rotate_left
        · (intro w hSw; (try dsimp only at hSw); go_simp; first | done | with_reducible rfl)
        try simp only [Act.put, List.setIfInBounds_toArray, List.set_cons_zero, List.set_cons_succ]
        refine wpAnyH_ready (rs := [1]) (by kernel_rfl) (by simp) ?_
        refine AllReadyH.cons (ho := by simp only [List.getElem?_toArray, List.getElem?_cons_succ, List.getElem?_cons_zero]; rfl) (fun K hK => ?_) (AllReadyH.nil)
        go_simp
        go_at_call 13; (with_reducible refine (HSLB.out _ hHeld).mono ?_); rintro e w6 ⟨rfl, hd6⟩
        have hb6 := Kit.hid (hHeld.trans (hd6.mono hHeld.size))
        go_wp2_with fail
        refine hK.out _ _ ?_ (fun hHeldN => ?_)
        · exact hb6.out
        clear hHeld
        have hHeld := hHeldN
        clear hHeldN
        clear hK K
        try simp only [Act.put, List.setIfInBounds_toArray, List.set_cons_zero, List.set_cons_succ]
        refine wpAnyH_take (i := 4) (hi := by simp only [List.getElem?_toArray, List.getElem?_cons_succ, List.getElem?_cons_zero]; rfl) (v := ?_) (by kernel_rfl) (by kernel_rfl) (by kernel_rfl) (fun _ _ _ h => h) (Or.inl ⟨by rfl, ?_⟩) (by assumption) ?_
        rotate_left
        · (intro w hSw; (try dsimp only at hSw); go_simp; first | done | with_reducible rfl)
        try simp only [Act.put, List.setIfInBounds_toArray, List.set_cons_zero, List.set_cons_succ]
        refine wpAnyH_take (i := 5) (hi := by simp only [List.getElem?_toArray, List.getElem?_cons_succ, List.getElem?_cons_zero]; rfl) (v := ?_) (by kernel_rfl) (by kernel_rfl) (by kernel_rfl) (fun _ _ _ h => h) (Or.inl ⟨by rfl, ?_⟩) (by assumption) ?_
        rotate_left
        · (intro w hSw; (try dsimp only at hSw); go_simp; first | done | with_reducible rfl)
        try simp only [Act.put, List.setIfInBounds_toArray, List.set_cons_zero, List.set_cons_succ]
        refine wpAnyH_take (i := 6) (hi := by simp only [List.getElem?_toArray, List.getElem?_cons_succ, List.getElem?_cons_zero]; rfl) (v := ?_) (by kernel_rfl) (by kernel_rfl) (by kernel_rfl) (fun _ _ _ h => h) (Or.inl ⟨by rfl, ?_⟩) (by assumption) ?_
        rotate_left
        · (intro w hSw; (try dsimp only at hSw); go_simp; first | done | with_reducible rfl)
        try simp only [Act.put, List.setIfInBounds_toArray, List.set_cons_zero, List.set_cons_succ]
        refine wpAnyH_take (i := 7) (hi := by simp only [List.getElem?_toArray, List.getElem?_cons_succ, List.getElem?_cons_zero]; rfl) (v := ?_) (by kernel_rfl) (by kernel_rfl) (by kernel_rfl) (fun _ _ _ h => h) (Or.inl ⟨by rfl, ?_⟩) (by assumption) ?_
        rotate_left
        · (intro w hSw; (try dsimp only at hSw); go_simp; first | done | with_reducible rfl)
        try simp only [Act.put, List.setIfInBounds_toArray, List.set_cons_zero, List.set_cons_succ]
        refine wpAnyH_take (i := 8) (hi := by simp only [List.getElem?_toArray, List.getElem?_cons_succ, List.getElem?_cons_zero]; rfl) (v := ?_) (by kernel_rfl) (by kernel_rfl) (by kernel_rfl) (fun _ _ _ h => h) (Or.inl ⟨by rfl, ?_⟩) (by assumption) ?_
        rotate_left
        · (intro w hSw; (try dsimp only at hSw); go_simp; first | done | with_reducible rfl)
        try simp only [Act.put, List.setIfInBounds_toArray, List.set_cons_zero, List.set_cons_succ]
        refine wpAnyH_take (i := 9) (hi := by simp only [List.getElem?_toArray, List.getElem?_cons_succ, List.getElem?_cons_zero]; rfl) (v := ?_) (by kernel_rfl) (by kernel_rfl) (by kernel_rfl) (fun _ _ _ h => h) (Or.inl ⟨by rfl, ?_⟩) (by assumption) ?_
        rotate_left
        · (intro w hSw; (try dsimp only at hSw); (obtain ⟨a0, a1, a2⟩ := HC5.out _ hSw); go_simp; first | done | with_reducible rfl)
        try simp only [Act.put, List.setIfInBounds_toArray, List.set_cons_zero, List.set_cons_succ]
        refine wpAnyH_take (i := 10) (hi := by simp only [List.getElem?_toArray, List.getElem?_cons_succ, List.getElem?_cons_zero]; rfl) (v := ?_) (by kernel_rfl) (by kernel_rfl) (by kernel_rfl) (fun _ _ _ h => h) (Or.inl ⟨by rfl, ?_⟩) (by assumption) ?_
        rotate_left
        · (intro w hSw; (try dsimp only at hSw); go_simp; first | done | with_reducible rfl)
        try simp only [Act.put, List.setIfInBounds_toArray, List.set_cons_zero, List.set_cons_succ]
        refine wpAnyH_take (i := 11) (hi := by simp only [List.getElem?_toArray, List.getElem?_cons_succ, List.getElem?_cons_zero]; rfl) (v := ?_) (by kernel_rfl) (by kernel_rfl) (by kernel_rfl) (fun _ _ _ h => h) (Or.inl ⟨by rfl, ?_⟩) (by assumption) ?_
        rotate_left
        · (intro w hSw; (try dsimp only at hSw); (obtain ⟨a0, a1, a2⟩ := HC5.out _ hSw); go_simp; first | done | with_reducible rfl)
        try simp only [Act.put, List.setIfInBounds_toArray, List.set_cons_zero, List.set_cons_succ]
        refine wpAnyH_take (i := 13) (hi := by simp only [List.getElem?_toArray, List.getElem?_cons_succ, List.getElem?_cons_zero]; rfl) (v := ?_) (by kernel_rfl) (by kernel_rfl) (by kernel_rfl) (fun _ _ _ h => h) (Or.inl ⟨by rfl, ?_⟩) (by assumption) ?_
        rotate_left
        · (intro w hSw; (try dsimp only at hSw); go_simp; first | done | with_reducible rfl)
        try simp only [Act.put, List.setIfInBounds_toArray, List.set_cons_zero, List.set_cons_succ]
        refine wpAnyH_take (i := 14) (hi := by simp only [List.getElem?_toArray, List.getElem?_cons_succ, List.getElem?_cons_zero]; rfl) (v := ?_) (by kernel_rfl) (by kernel_rfl) (by kernel_rfl) (fun _ _ _ h => h) (Or.inl ⟨by rfl, ?_⟩) (by assumption) ?_
        rotate_left
        · (intro w hSw; (try dsimp only at hSw); go_simp; first | done | with_reducible rfl)
        try simp only [Act.put, List.setIfInBounds_toArray, List.set_cons_zero, List.set_cons_succ]
        refine wpAnyH_take (i := 15) (hi := by simp only [List.getElem?_toArray, List.getElem?_cons_succ, List.getElem?_cons_zero]; rfl) (v := ?_) (by kernel_rfl) (by kernel_rfl) (by kernel_rfl) (fun _ _ _ h => h) (Or.inl ⟨by rfl, ?_⟩) (by assumption) ?_
        rotate_left
        · (intro w hSw; (try dsimp only at hSw); (obtain ⟨a0, a1, a2⟩ := HC5.out _ hSw); go_simp; first | done | with_reducible rfl)
        try simp only [Act.put, List.setIfInBounds_toArray, List.set_cons_zero, List.set_cons_succ]
        refine wpAnyH_take (i := 16) (hi := by simp only [List.getElem?_toArray, List.getElem?_cons_succ, List.getElem?_cons_zero]; rfl) (v := ?_) (by kernel_rfl) (by kernel_rfl) (by kernel_rfl) (fun _ _ _ h => h) (Or.inl ⟨by rfl, ?_⟩) (by assumption) ?_
        rotate_left
        · (intro w hSw; (try dsimp only at hSw); go_simp; first | done | with_reducible rfl)
        try simp only [Act.put, List.setIfInBounds_toArray, List.set_cons_zero, List.set_cons_succ]
        refine wpAnyH_take (i := 17) (hi := by simp only [List.getElem?_toArray, List.getElem?_cons_succ, List.getElem?_cons_zero]; rfl) (v := ?_) (by kernel_rfl) (by kernel_rfl) (by kernel_rfl) (fun _ _ _ h => h) (Or.inl ⟨by rfl, ?_⟩) (by assumption) ?_
        rotate_left
        · (intro w hSw; (try dsimp only at hSw); (obtain ⟨a0, a1, a2⟩ := HC5.out _ hSw); go_simp; first | done | with_reducible rfl)
        try simp only [Act.put, List.setIfInBounds_toArray, List.set_cons_zero, List.set_cons_succ]
        refine wpAnyH_ready (rs := [12]) (by kernel_rfl) (by simp) ?_
        refine AllReadyH.cons (ho := by simp only [List.getElem?_toArray, List.getElem?_cons_succ, List.getElem?_cons_zero]; rfl) (fun K hK => ?_) (AllReadyH.nil)
        go_simp
        go_at_call 24; (with_reducible refine (HSHB.out _ hHeld).mono ?_); rintro e w7 ⟨rfl, hd7⟩
        have hb7 := Kit.hid (hHeld.trans (hd7.mono hHeld.size))
        go_wp2_with fail
        refine hK.out _ _ ?_ (fun hHeldN => ?_)
        · exact hb7.out
        clear hHeld
        have hHeld := hHeldN
        clear hHeldN
        clear hK K
        try simp only [Act.put, List.setIfInBounds_toArray, List.set_cons_zero, List.set_cons_succ]
        refine wpAnyH_take (i := 18) (hi := by simp only [List.getElem?_toArray, List.getElem?_cons_succ, List.getElem?_cons_zero]; rfl) (v := ?_) (by kernel_rfl) (by kernel_rfl) (by kernel_rfl) (fun _ _ _ h => h) (Or.inl ⟨by rfl, ?_⟩) (by assumption) ?_
        rotate_left
        · (intro w hSw; (try dsimp only at hSw); go_simp; first | done | with_reducible rfl)
        try simp only [Act.put, List.setIfInBounds_toArray, List.set_cons_zero, List.set_cons_succ]
        refine wpAnyH_take (i := 19) (hi := by simp only [List.getElem?_toArray, List.getElem?_cons_succ, List.getElem?_cons_zero]; rfl) (v := ?_) (by kernel_rfl) (by kernel_rfl) (by kernel_rfl) (fun _ _ _ h => h) (Or.inl ⟨by rfl, ?_⟩) (by assumption) ?_
        rotate_left
        · (intro w hSw; (try dsimp only at hSw); go_simp; first | done | with_reducible rfl)
        try simp only [Act.put, List.setIfInBounds_toArray, List.set_cons_zero, List.set_cons_succ]
        clear hHeld
        refine wpAnyH_done (by kernel_rfl) ?_ _
        refine NoPanic.normal ?_
        skip
        have HP7 : Hid (PlayI w1 w7 g (walkedL (ops.take (i + 1))) (i + 1 + 1) A5 (walkedL (ops.take (i + 1))) c5) := Kit.hid (by rw [HQ.out]; exact (HP5.out.below hb7.out))
        have HV7 : Hid (Value.slice A5 (putL y l).length c5 = .slice A5 (walkedL (ops.take (i + 1))).length c5) := Kit.hid (by rw [HQ.out])
        clear hb7 HC5 HSHB HSLB
        go_wp2
        go_roundw
        case rel => exact ⟨i + 1, A5, c5, by omega, by go_num, HV7.out, HP7⟩
        case measure => simp [intOf]; omega
      · skip
        have HQ : Hid (walkedL (ops.take (i + 1)) = dropL y l) := Kit.hid (by rw [HW.out]; rfl)
        clear HW
        go_wp2_with fail
        (with_reducible refine (HRH.out y _ _ _ _ _ _ b hP.out (by omega) HBD.out).mono ?_); rintro e w3 ⟨rfl, hb3⟩
        have HP3 := Kit.hid (hP.out.below hb3)
        clear d0 d1 d2 hb3
        obtain ⟨d0, d1, d2⟩ := HC.out _ HP3.out.to
        go_wp2_with fail
        (with_reducible refine (HSD.out y _ _ _ _ _ _ HP3.out (by omega)).mono ?_); rintro e w4 ⟨rfl, h4⟩
        have HP4 := Kit.hid h4
        clear d0 d1 d2 h4
        obtain ⟨d0, d1, d2⟩ := HC.out _ HP4.out.to
        rw [HBD.out]
        go_wp2_with fail
        (with_reducible refine (HRD.out y _ _ _ _ _ _ HP4.out (by omega)).mono ?_); rintro e w5 ⟨A5, c5, rfl, h5⟩
        have HP5 := Kit.hid h5
        clear d0 d1 d2 h5
        obtain ⟨d0, d1, d2⟩ := HC.out _ HP5.out.to
        have HC5 : Hid (∀ w', Below w5.heap.size w5 w' → w'.cell? (ad.add (i * 3)) = some (.int .i64 y.key) ∧ w'.cell? ⟨(ad.add (i * 3)).block, (ad.add (i * 3)).off + 1, none⟩ = some (.int .i64 y.id) ∧ w'.cell? ⟨(ad.add (i * 3)).block, (ad.add (i * 3)).off + 2, none⟩ = some (.bool true)) := Kit.hid (fun w' hb => HC.out w' (HP5.out.below hb).to)
        have HSHB : Hid (∀ w', Below w5.heap.size w5 w' → Calls Try.prog 24 #[.pointer (some ⟨g, 0, none⟩), .agg #[.int .i64 y.key, .int .i64 y.id]] w' fun e w'' => e = .returned (.bool false) ∧ Below w'.heap.size w' w'') := Kit.hid (fun w' hb => HSH.out y w' _ _ _ _ _ false (HP5.out.below hb) (by omega) (decide_eq_false (fun h => ((dropL_mem_iff y y l).1 h).2 rfl)))
        have HSLB : Hid (∀ w', Below w5.heap.size w5 w' → Calls Try.prog 13 #[.pointer (some ⟨g, 0, none⟩)] w' fun e w'' => e = .returned (.int .i64 ((dropL y l).length : Int)) ∧ Below w'.heap.size w' w'') := Kit.hid (fun w' hb => (HSL.out w' _ _ _ _ _ (HP5.out.below hb)).mono fun e w'' h => ⟨h.1, by obtain ⟨m, rfl⟩ := h.2; exact below_drewN (Below.refl _ _) m⟩)
        clear d0 d1 d2
        go_wp2_with fail
        refine wp_region_noPanic ?_
        refine wp_region_held_drew (S := fun w' => Below w5.heap.size w5 w') (by kernel_rfl) (Below.refl _ _).drew (fun hHeld => ?_)
        refine wpAnyH_take (i := 0) (hi := by simp only [List.getElem?_toArray, List.getElem?_cons_succ, List.getElem?_cons_zero]; rfl) (v := ?_) (by kernel_rfl) (by kernel_rfl) (by kernel_rfl) (fun _ _ _ h => h) (Or.inl ⟨by rfl, ?_⟩) (by assumption) ?_
        rotate_left
        · (intro w hSw; (try dsimp only at hSw); go_simp; first | done | with_reducible rfl)
        try simp only [Act.put, List.setIfInBounds_toArray, List.set_cons_zero, List.set_cons_succ]
        refine wpAnyH_take (i := 2) (hi := by simp only [List.getElem?_toArray, List.getElem?_cons_succ, List.getElem?_cons_zero]; rfl) (v := ?_) (by kernel_rfl) (by kernel_rfl) (by kernel_rfl) (fun _ _ _ h => h) (Or.inl ⟨by rfl, ?_⟩) (by assumption) ?_
        rotate_left
        · (intro w hSw; (try dsimp only at hSw); go_simp; first | done | with_reducible rfl)
        try simp only [Act.put, List.setIfInBounds_toArray, List.set_cons_zero, List.set_cons_succ]
        refine wpAnyH_take (i := 3) (hi := by simp only [List.getElem?_toArray, List.getElem?_cons_succ, List.getElem?_cons_zero]; rfl) (v := ?_) (by kernel_rfl) (by kernel_rfl) (by kernel_rfl) (fun _ _ _ h => h) (Or.inl ⟨by rfl, ?_⟩) (by assumption) ?_
        rotate_left
        · (intro w hSw; (try dsimp only at hSw); go_simp; first | done | with_reducible rfl)
        try simp only [Act.put, List.setIfInBounds_toArray, List.set_cons_zero, List.set_cons_succ]
        refine wpAnyH_ready (rs := [1]) (by kernel_rfl) (by simp) ?_
        refine AllReadyH.cons (ho := by simp only [List.getElem?_toArray, List.getElem?_cons_succ, List.getElem?_cons_zero]; rfl) (fun K hK => ?_) (AllReadyH.nil)
        go_simp
        go_at_call 13; (with_reducible refine (HSLB.out _ hHeld).mono ?_); rintro e w6 ⟨rfl, hd6⟩
        have hb6 := Kit.hid (hHeld.trans (hd6.mono hHeld.size))
        go_wp2_with fail
        refine hK.out _ _ ?_ (fun hHeldN => ?_)
        · exact hb6.out
        clear hHeld
        have hHeld := hHeldN
        clear hHeldN
        clear hK K
        try simp only [Act.put, List.setIfInBounds_toArray, List.set_cons_zero, List.set_cons_succ]
        refine wpAnyH_take (i := 4) (hi := by simp only [List.getElem?_toArray, List.getElem?_cons_succ, List.getElem?_cons_zero]; rfl) (v := ?_) (by kernel_rfl) (by kernel_rfl) (by kernel_rfl) (fun _ _ _ h => h) (Or.inl ⟨by rfl, ?_⟩) (by assumption) ?_
        rotate_left
        · (intro w hSw; (try dsimp only at hSw); go_simp; first | done | with_reducible rfl)
        try simp only [Act.put, List.setIfInBounds_toArray, List.set_cons_zero, List.set_cons_succ]
        refine wpAnyH_take (i := 5) (hi := by simp only [List.getElem?_toArray, List.getElem?_cons_succ, List.getElem?_cons_zero]; rfl) (v := ?_) (by kernel_rfl) (by kernel_rfl) (by kernel_rfl) (fun _ _ _ h => h) (Or.inl ⟨by rfl, ?_⟩) (by assumption) ?_
        rotate_left
        · (intro w hSw; (try dsimp only at hSw); go_simp; first | done | with_reducible rfl)
        try simp only [Act.put, List.setIfInBounds_toArray, List.set_cons_zero, List.set_cons_succ]
        refine wpAnyH_take (i := 6) (hi := by simp only [List.getElem?_toArray, List.getElem?_cons_succ, List.getElem?_cons_zero]; rfl) (v := ?_) (by kernel_rfl) (by kernel_rfl) (by kernel_rfl) (fun _ _ _ h => h) (Or.inl ⟨by rfl, ?_⟩) (by assumption) ?_
        rotate_left
        · (intro w hSw; (try dsimp only at hSw); go_simp; first | done | with_reducible rfl)
        try simp only [Act.put, List.setIfInBounds_toArray, List.set_cons_zero, List.set_cons_succ]
        refine wpAnyH_take (i := 7) (hi := by simp only [List.getElem?_toArray, List.getElem?_cons_succ, List.getElem?_cons_zero]; rfl) (v := ?_) (by kernel_rfl) (by kernel_rfl) (by kernel_rfl) (fun _ _ _ h => h) (Or.inl ⟨by rfl, ?_⟩) (by assumption) ?_
        rotate_left
        · (intro w hSw; (try dsimp only at hSw); go_simp; first | done | with_reducible rfl)
        try simp only [Act.put, List.setIfInBounds_toArray, List.set_cons_zero, List.set_cons_succ]
        refine wpAnyH_take (i := 8) (hi := by simp only [List.getElem?_toArray, List.getElem?_cons_succ, List.getElem?_cons_zero]; rfl) (v := ?_) (by kernel_rfl) (by kernel_rfl) (by kernel_rfl) (fun _ _ _ h => h) (Or.inl ⟨by rfl, ?_⟩) (by assumption) ?_
        rotate_left
        · (intro w hSw; (try dsimp only at hSw); go_simp; first | done | with_reducible rfl)
        try simp only [Act.put, List.setIfInBounds_toArray, List.set_cons_zero, List.set_cons_succ]
        refine wpAnyH_take (i := 9) (hi := by simp only [List.getElem?_toArray, List.getElem?_cons_succ, List.getElem?_cons_zero]; rfl) (v := ?_) (by kernel_rfl) (by kernel_rfl) (by kernel_rfl) (fun _ _ _ h => h) (Or.inl ⟨by rfl, ?_⟩) (by assumption) ?_
        rotate_left
        · (intro w hSw; (try dsimp only at hSw); (obtain ⟨a0, a1, a2⟩ := HC5.out _ hSw); go_simp; first | done | with_reducible rfl)
        try simp only [Act.put, List.setIfInBounds_toArray, List.set_cons_zero, List.set_cons_succ]
        refine wpAnyH_take (i := 10) (hi := by simp only [List.getElem?_toArray, List.getElem?_cons_succ, List.getElem?_cons_zero]; rfl) (v := ?_) (by kernel_rfl) (by kernel_rfl) (by kernel_rfl) (fun _ _ _ h => h) (Or.inl ⟨by rfl, ?_⟩) (by assumption) ?_
        rotate_left
        · (intro w hSw; (try dsimp only at hSw); go_simp; first | done | with_reducible rfl)
        try simp only [Act.put, List.setIfInBounds_toArray, List.set_cons_zero, List.set_cons_succ]
        refine wpAnyH_take (i := 11) (hi := by simp only [List.getElem?_toArray, List.getElem?_cons_succ, List.getElem?_cons_zero]; rfl) (v := ?_) (by kernel_rfl) (by kernel_rfl) (by kernel_rfl) (fun _ _ _ h => h) (Or.inl ⟨by rfl, ?_⟩) (by assumption) ?_
        rotate_left
        · (intro w hSw; (try dsimp only at hSw); (obtain ⟨a0, a1, a2⟩ := HC5.out _ hSw); go_simp; first | done | with_reducible rfl)
        try simp only [Act.put, List.setIfInBounds_toArray, List.set_cons_zero, List.set_cons_succ]
        refine wpAnyH_take (i := 13) (hi := by simp only [List.getElem?_toArray, List.getElem?_cons_succ, List.getElem?_cons_zero]; rfl) (v := ?_) (by kernel_rfl) (by kernel_rfl) (by kernel_rfl) (fun _ _ _ h => h) (Or.inl ⟨by rfl, ?_⟩) (by assumption) ?_
        rotate_left
        · (intro w hSw; (try dsimp only at hSw); go_simp; first | done | with_reducible rfl)
        try simp only [Act.put, List.setIfInBounds_toArray, List.set_cons_zero, List.set_cons_succ]
        refine wpAnyH_take (i := 14) (hi := by simp only [List.getElem?_toArray, List.getElem?_cons_succ, List.getElem?_cons_zero]; rfl) (v := ?_) (by kernel_rfl) (by kernel_rfl) (by kernel_rfl) (fun _ _ _ h => h) (Or.inl ⟨by rfl, ?_⟩) (by assumption) ?_
        rotate_left
        · (intro w hSw; (try dsimp only at hSw); go_simp; first | done | with_reducible rfl)
        try simp only [Act.put, List.setIfInBounds_toArray, List.set_cons_zero, List.set_cons_succ]
        refine wpAnyH_take (i := 15) (hi := by simp only [List.getElem?_toArray, List.getElem?_cons_succ, List.getElem?_cons_zero]; rfl) (v := ?_) (by kernel_rfl) (by kernel_rfl) (by kernel_rfl) (fun _ _ _ h => h) (Or.inl ⟨by rfl, ?_⟩) (by assumption) ?_
        rotate_left
        · (intro w hSw; (try dsimp only at hSw); (obtain ⟨a0, a1, a2⟩ := HC5.out _ hSw); go_simp; first | done | with_reducible rfl)
        try simp only [Act.put, List.setIfInBounds_toArray, List.set_cons_zero, List.set_cons_succ]
        refine wpAnyH_take (i := 16) (hi := by simp only [List.getElem?_toArray, List.getElem?_cons_succ, List.getElem?_cons_zero]; rfl) (v := ?_) (by kernel_rfl) (by kernel_rfl) (by kernel_rfl) (fun _ _ _ h => h) (Or.inl ⟨by rfl, ?_⟩) (by assumption) ?_
        rotate_left
        · (intro w hSw; (try dsimp only at hSw); go_simp; first | done | with_reducible rfl)
        try simp only [Act.put, List.setIfInBounds_toArray, List.set_cons_zero, List.set_cons_succ]
        refine wpAnyH_take (i := 17) (hi := by simp only [List.getElem?_toArray, List.getElem?_cons_succ, List.getElem?_cons_zero]; rfl) (v := ?_) (by kernel_rfl) (by kernel_rfl) (by kernel_rfl) (fun _ _ _ h => h) (Or.inl ⟨by rfl, ?_⟩) (by assumption) ?_
        rotate_left
        · (intro w hSw; (try dsimp only at hSw); (obtain ⟨a0, a1, a2⟩ := HC5.out _ hSw); go_simp; first | done | with_reducible rfl)
        try simp only [Act.put, List.setIfInBounds_toArray, List.set_cons_zero, List.set_cons_succ]
        refine wpAnyH_ready (rs := [12]) (by kernel_rfl) (by simp) ?_
        refine AllReadyH.cons (ho := by simp only [List.getElem?_toArray, List.getElem?_cons_succ, List.getElem?_cons_zero]; rfl) (fun K hK => ?_) (AllReadyH.nil)
        go_simp
        go_at_call 24; (with_reducible refine (HSHB.out _ hHeld).mono ?_); rintro e w7 ⟨rfl, hd7⟩
        have hb7 := Kit.hid (hHeld.trans (hd7.mono hHeld.size))
        go_wp2_with fail
        refine hK.out _ _ ?_ (fun hHeldN => ?_)
        · exact hb7.out
        clear hHeld
        have hHeld := hHeldN
        clear hHeldN
        clear hK K
        try simp only [Act.put, List.setIfInBounds_toArray, List.set_cons_zero, List.set_cons_succ]
        refine wpAnyH_take (i := 18) (hi := by simp only [List.getElem?_toArray, List.getElem?_cons_succ, List.getElem?_cons_zero]; rfl) (v := ?_) (by kernel_rfl) (by kernel_rfl) (by kernel_rfl) (fun _ _ _ h => h) (Or.inl ⟨by rfl, ?_⟩) (by assumption) ?_
        rotate_left
        · (intro w hSw; (try dsimp only at hSw); go_simp; first | done | with_reducible rfl)
        try simp only [Act.put, List.setIfInBounds_toArray, List.set_cons_zero, List.set_cons_succ]
        refine wpAnyH_take (i := 19) (hi := by simp only [List.getElem?_toArray, List.getElem?_cons_succ, List.getElem?_cons_zero]; rfl) (v := ?_) (by kernel_rfl) (by kernel_rfl) (by kernel_rfl) (fun _ _ _ h => h) (Or.inl ⟨by rfl, ?_⟩) (by assumption) ?_
        rotate_left
        · (intro w hSw; (try dsimp only at hSw); go_simp; first | done | with_reducible rfl)
        try simp only [Act.put, List.setIfInBounds_toArray, List.set_cons_zero, List.set_cons_succ]
        clear hHeld
        refine wpAnyH_done (by kernel_rfl) ?_ _
        refine NoPanic.normal ?_
        skip
        have HP7 : Hid (PlayI w1 w7 g (walkedL (ops.take (i + 1))) (i + 1 + 1) A5 (walkedL (ops.take (i + 1))) c5) := Kit.hid (by rw [HQ.out]; exact ((HP5.out.below hb7.out).more (Nat.le_succ _)))
        have HV7 : Hid (Value.slice A5 (dropL y l).length c5 = .slice A5 (walkedL (ops.take (i + 1))).length c5) := Kit.hid (by rw [HQ.out])
        clear hb7 HC5 HSHB HSLB
        go_wp2
        go_roundw
        case rel => exact ⟨i + 1, A5, c5, by omega, by go_num, HV7.out, HP7⟩
        case measure => simp [intOf]; omega
    · obtain rfl : i = ops.length := by omega
      have HTD : Hid (Calls Try.prog 25 #[.pointer (some ⟨g, 0, none⟩)] wr fun e w' => ∃ v, e = .returned (.tuple #[v, .bool true]) ∧ w'.ownsRow wr.heap.size 24 2 v l.length (flatI l) ∧ Below wr.heap.size wr w') := Kit.hid (by
        obtain ⟨S, hs⟩ := hP.out.shelf
        exact told_any hs (by omega))
      clear hl HOP hlt
      go_wp2_with fail
      (with_reducible refine HTD.out.mono ?_); rintro e w3 ⟨va, rfl, hva, hb3⟩
      obtain ⟨A3, c3, rfl, hc3, _, _⟩ := own_readsS (by decide) hva
      have HRA := itrow_cells hc3
      have HP3 := Kit.hid (hP.out.below hb3)
      clear hva hc3 hb3 HTD
      obtain ⟨ya, hya⟩ : ∃ ya, ya = (atL l rank).1 := ⟨_, rfl⟩
      obtain ⟨yb, hyb⟩ : ∃ yb, yb = (atL l rank).2 := ⟨_, rfl⟩
      have HA1 : Hid (∀ w', PlayI w1 w' g l (ops.length + 1) A' l c' → Calls Try.prog 14 #[.pointer (some ⟨g, 0, none⟩), .int .i64 rank] w' (AtPost w' ya yb)) := Kit.hid (fun w' h => by
        obtain ⟨S, hs⟩ := h.shelf
        rw [hya, hyb]
        exact items_atL rank hs (by omega))
      have HA2 : Hid (∀ w', PlayI w1 w' g l (ops.length + 1) A' l c' → Calls Try.prog 26 #[.slice A' l.length c', .int .i64 rank] w' (AtPost w' ya yb)) := Kit.hid (fun w' h => by
        rw [hya, hyb]
        exact rat_any A' l c' rank w' h.row (by omega))
      unfold AtPost at HA1 HA2
      clear hya hyb
      go_wp2_with fail
      (with_reducible refine (HA1.out _ HP3.out).mono ?_); rintro e w4 ⟨rfl, hb4⟩
      have HP4 := Kit.hid ((HP3.out.below hb4).below ((Below.refl _ _).alloc (Nat.le_refl _) (.cells #[.int .i64 ya.key, .int .i64 ya.id] 24)))
      have HR4 := itrow_below (itrow_below HRA hb4) ((Below.refl _ _).alloc (Nat.le_refl _) (.cells #[.int .i64 ya.key, .int .i64 ya.id] 24))
      have HK4 : Hid ((w4.alloc (.cells #[.int .i64 ya.key, .int .i64 ya.id] 24)).heap[w4.heap.size]? = some (.cells #[.int .i64 ya.key, .int .i64 ya.id] 24 (0, 0))) := Kit.hid (blk_new _ _)
      clear hb4
      go_wp2_with fail
      (with_reducible refine (HA2.out _ HP4.out).mono ?_); rintro e w5 ⟨rfl, hb5⟩
      have HP5 := Kit.hid ((HP4.out.below hb5).below ((Below.refl _ _).alloc (Nat.le_refl _) (.cells #[.int .i64 ya.key, .int .i64 ya.id] 24)))
      have HR5 := itrow_below (itrow_below HR4 hb5) ((Below.refl _ _).alloc (Nat.le_refl _) (.cells #[.int .i64 ya.key, .int .i64 ya.id] 24))
      have HK5 : Hid ((w5.alloc (.cells #[.int .i64 ya.key, .int .i64 ya.id] 24)).heap[w5.heap.size]? = some (.cells #[.int .i64 ya.key, .int .i64 ya.id] 24 (0, 0))) := Kit.hid (blk_new _ _)
      have HJ5 := Kit.hid (blk_below (blk_below HK4.out hb5) ((Below.refl _ _).alloc (Nat.le_refl _) (.cells #[.int .i64 ya.key, .int .i64 ya.id] 24)))
      clear hb5
      go_wp2_with fail
      generalize w5.alloc (.cells #[.int .i64 ya.key, .int .i64 ya.id] 24) = W6 at HP5 HR5 HK5 HJ5
      have HC : Hid (∀ w', Below W6.heap.size W6 w' → w'.cell? ⟨w.heap.size, 0, none⟩ = some (.int .i64 x.key) ∧ w'.cell? ⟨w.heap.size, 1, none⟩ = some (.int .i64 x.id) ∧ w'.cell? ⟨w4.heap.size, 0, none⟩ = some (.int .i64 ya.key) ∧ w'.cell? ⟨w4.heap.size, 1, none⟩ = some (.int .i64 ya.id) ∧ w'.cell? ⟨w5.heap.size, 0, none⟩ = some (.int .i64 ya.key) ∧ w'.cell? ⟨w5.heap.size, 1, none⟩ = some (.int .i64 ya.id)) := Kit.hid (fun w' hb => by
        have hx := blk_below HX1.out (HP5.out.below hb).to
        have ha := blk_below HJ5.out hb
        have hc := blk_below HK5.out hb
        exact ⟨blk_cell hx 0, blk_cell hx 1, blk_cell ha 0, blk_cell ha 1, blk_cell hc 0, blk_cell hc 1⟩)
      obtain ⟨rk, hrk⟩ : ∃ rk, rk = rankL x l := ⟨_, rfl⟩
      obtain ⟨b, hb⟩ : ∃ b, decide (x ∈ l) = b := ⟨_, rfl⟩
      have HC1 : Hid (∀ w', Below W6.heap.size W6 w' → Calls Try.prog 27 #[.slice A3 l.length c3, .slice A' l.length c'] w' fun e w'' => e = .returned (.bool true) ∧ Below w'.heap.size w' w'') := Kit.hid (fun w' hb => (same_any A3 A' l l c3 c' w' (itrow_below HR5 hb) (HP5.out.below hb).row (by omega) (by omega)).mono fun e w'' h => ⟨by rw [h.1, decide_eq_true rfl], by obtain ⟨m, rfl⟩ := h.2; exact below_drewN (Below.refl _ _) m⟩)
      have HC2 : Hid (∀ w', Below W6.heap.size W6 w' → Calls Try.prog 12 #[.pointer (some ⟨g, 0, none⟩), .agg #[.int .i64 x.key, .int .i64 x.id]] w' fun e w'' => e = .returned (.int .i64 (rk : Int)) ∧ Below w'.heap.size w' w'') := Kit.hid (fun w' hb => by
        obtain ⟨S, hs⟩ := (HP5.out.below hb).shelf
        rw [hrk]
        exact items_rank x hs (by omega))
      have HC3 : Hid (∀ w', Below W6.heap.size W6 w' → Calls Try.prog 28 #[.slice A' l.length c', .agg #[.int .i64 x.key, .int .i64 x.id]] w' fun e w'' => e = .returned (.int .i64 (rk : Int)) ∧ Below w'.heap.size w' w'') := Kit.hid (fun w' hb => by
        rw [hrk]
        exact rrank_any A' l c' x w' (HP5.out.below hb).row (by omega))
      have HC4 : Hid (∀ w', Below W6.heap.size W6 w' → Calls Try.prog 24 #[.pointer (some ⟨g, 0, none⟩), .agg #[.int .i64 x.key, .int .i64 x.id]] w' fun e w'' => e = .returned (.bool b) ∧ Below w'.heap.size w' w'') := Kit.hid (fun w' h => HSH.out x w' _ _ _ _ _ b (HP5.out.below h) (by omega) hb)
      have HC5 : Hid (∀ w', Below W6.heap.size W6 w' → Calls Try.prog 20 #[.slice A' l.length c', .agg #[.int .i64 x.key, .int .i64 x.id]] w' fun e w'' => e = .returned (.bool b) ∧ Below w'.heap.size w' w'') := Kit.hid (fun w' h => HRH.out x w' _ _ _ _ _ b (HP5.out.below h) (by omega) hb)
      have g2 : ∀ w', (binOp .eql 24 (.agg #[.int .i64 ya.key, .int .i64 ya.id]) (.agg #[.int .i64 ya.key, .int .i64 ya.id])).run Try.prog w' = .ok (.bool true) w' := fun w' => by rw [eql_item, decide_eq_true rfl]
      have g3 : (yb == yb) = true := by simp
      have g4 : (b == b) = true := by simp
      clear hrk hb HSP HSD HRP HRD HRH HSH HSL
      refine wp_region_noPanic ?_
      refine wp_region_held_drew (S := fun w' => Below W6.heap.size W6 w') (by kernel_rfl) (Below.refl _ _).drew (fun hHeld => ?_)
      refine wpAnyH_take (i := 0) (hi := by simp only [List.getElem?_toArray, List.getElem?_cons_succ, List.getElem?_cons_zero]; rfl) (v := ?_) (by kernel_rfl) (by kernel_rfl) (by kernel_rfl) (fun _ _ _ h => h) (Or.inl ⟨by rfl, ?_⟩) (by assumption) ?_
      rotate_left
      · (intro w hSw; (try dsimp only at hSw); go_simp; first | done | with_reducible rfl)
      try simp only [Act.put, List.setIfInBounds_toArray, List.set_cons_zero, List.set_cons_succ]
      refine wpAnyH_take (i := 1) (hi := by simp only [List.getElem?_toArray, List.getElem?_cons_succ, List.getElem?_cons_zero]; rfl) (v := ?_) (by kernel_rfl) (by kernel_rfl) (by kernel_rfl) (fun _ _ _ h => h) (Or.inl ⟨by rfl, ?_⟩) (by assumption) ?_
      rotate_left
      · (intro w hSw; (try dsimp only at hSw); go_simp; first | done | with_reducible rfl)
      try simp only [Act.put, List.setIfInBounds_toArray, List.set_cons_zero, List.set_cons_succ]
      refine wpAnyH_take (i := 2) (hi := by simp only [List.getElem?_toArray, List.getElem?_cons_succ, List.getElem?_cons_zero]; rfl) (v := ?_) (by kernel_rfl) (by kernel_rfl) (by kernel_rfl) (fun _ _ _ h => h) (Or.inl ⟨by rfl, ?_⟩) (by assumption) ?_
      rotate_left
      · (intro w hSw; (try dsimp only at hSw); go_simp; first | done | with_reducible rfl)
      try simp only [Act.put, List.setIfInBounds_toArray, List.set_cons_zero, List.set_cons_succ]
      refine wpAnyH_take (i := 3) (hi := by simp only [List.getElem?_toArray, List.getElem?_cons_succ, List.getElem?_cons_zero]; rfl) (v := ?_) (by kernel_rfl) (by kernel_rfl) (by kernel_rfl) (fun _ _ _ h => h) (Or.inl ⟨by rfl, ?_⟩) (by assumption) ?_
      rotate_left
      · (intro w hSw; (try dsimp only at hSw); go_simp; first | done | with_reducible rfl)
      try simp only [Act.put, List.setIfInBounds_toArray, List.set_cons_zero, List.set_cons_succ]
      refine wpAnyH_take (i := 4) (hi := by simp only [List.getElem?_toArray, List.getElem?_cons_succ, List.getElem?_cons_zero]; rfl) (v := ?_) (by kernel_rfl) (by kernel_rfl) (by kernel_rfl) (fun _ _ _ h => h) (Or.inl ⟨by rfl, ?_⟩) (by assumption) ?_
      rotate_left
      · (intro w hSw; (try dsimp only at hSw); go_simp; first | done | with_reducible rfl)
      try simp only [Act.put, List.setIfInBounds_toArray, List.set_cons_zero, List.set_cons_succ]
      refine wpAnyH_take (i := 5) (hi := by simp only [List.getElem?_toArray, List.getElem?_cons_succ, List.getElem?_cons_zero]; rfl) (v := ?_) (by kernel_rfl) (by kernel_rfl) (by kernel_rfl) (fun _ _ _ h => h) (Or.inl ⟨by rfl, ?_⟩) (by assumption) ?_
      rotate_left
      · (intro w hSw; (try dsimp only at hSw); go_simp; first | done | with_reducible rfl)
      try simp only [Act.put, List.setIfInBounds_toArray, List.set_cons_zero, List.set_cons_succ]
      refine wpAnyH_take (i := 6) (hi := by simp only [List.getElem?_toArray, List.getElem?_cons_succ, List.getElem?_cons_zero]; rfl) (v := ?_) (by kernel_rfl) (by kernel_rfl) (by kernel_rfl) (fun _ _ _ h => h) (Or.inl ⟨by rfl, ?_⟩) (by assumption) ?_
      rotate_left
      · (intro w hSw; (try dsimp only at hSw); go_simp; first | done | with_reducible rfl)
      try simp only [Act.put, List.setIfInBounds_toArray, List.set_cons_zero, List.set_cons_succ]
      refine wpAnyH_ready (rs := [7]) (by kernel_rfl) (by simp) ?_
      refine AllReadyH.cons (ho := by simp only [List.getElem?_toArray, List.getElem?_cons_succ, List.getElem?_cons_zero]; rfl) (fun K hK => ?_) (AllReadyH.nil)
      go_simp
      go_at_call 27; (with_reducible refine (HC1.out _ hHeld).mono ?_); rintro e w7 ⟨rfl, hd⟩
      have hb7 := Kit.hid (hHeld.trans (hd.mono hHeld.size))
      clear hd
      go_wp2_with fail
      refine hK.out _ _ ?_ (fun hHeldN => ?_)
      · exact hb7.out
      clear hHeld
      have hHeld := hHeldN
      clear hHeldN
      clear hK K
      try simp only [Act.put, List.setIfInBounds_toArray, List.set_cons_zero, List.set_cons_succ]
      refine wpAnyH_take (i := 8) (hi := by simp only [List.getElem?_toArray, List.getElem?_cons_succ, List.getElem?_cons_zero]; rfl) (v := ?_) (by kernel_rfl) (by kernel_rfl) (by kernel_rfl) (fun _ _ _ h => h) (Or.inl ⟨by rfl, ?_⟩) (by assumption) ?_
      rotate_left
      · (intro w hSw; (try dsimp only at hSw); go_simp; first | done | with_reducible rfl)
      try simp only [Act.put, List.setIfInBounds_toArray, List.set_cons_zero, List.set_cons_succ]
      refine wpAnyH_take (i := 9) (hi := by simp only [List.getElem?_toArray, List.getElem?_cons_succ, List.getElem?_cons_zero]; rfl) (v := ?_) (by kernel_rfl) (by kernel_rfl) (by kernel_rfl) (fun _ _ _ h => h) (Or.inl ⟨by rfl, ?_⟩) (by assumption) ?_
      rotate_left
      · (intro w hSw; (try dsimp only at hSw); go_simp; first | done | with_reducible rfl)
      try simp only [Act.put, List.setIfInBounds_toArray, List.set_cons_zero, List.set_cons_succ]
      refine wpAnyH_take (i := 10) (hi := by simp only [List.getElem?_toArray, List.getElem?_cons_succ, List.getElem?_cons_zero]; rfl) (v := ?_) (by kernel_rfl) (by kernel_rfl) (by kernel_rfl) (fun _ _ _ h => h) (Or.inl ⟨by rfl, ?_⟩) (by assumption) ?_
      rotate_left
      · (intro w hSw; (try dsimp only at hSw); (obtain ⟨x0, x1, a0, a1, b0, b1⟩ := HC.out _ hSw); go_simp; first | done | with_reducible rfl)
      try simp only [Act.put, List.setIfInBounds_toArray, List.set_cons_zero, List.set_cons_succ]
      refine wpAnyH_take (i := 11) (hi := by simp only [List.getElem?_toArray, List.getElem?_cons_succ, List.getElem?_cons_zero]; rfl) (v := ?_) (by kernel_rfl) (by kernel_rfl) (by kernel_rfl) (fun _ _ _ h => h) (Or.inl ⟨by rfl, ?_⟩) (by assumption) ?_
      rotate_left
      · (intro w hSw; (try dsimp only at hSw); (obtain ⟨x0, x1, a0, a1, b0, b1⟩ := HC.out _ hSw); go_simp; first | done | with_reducible rfl)
      try simp only [Act.put, List.setIfInBounds_toArray, List.set_cons_zero, List.set_cons_succ]
      refine wpAnyH_take (i := 12) (hi := by simp only [List.getElem?_toArray, List.getElem?_cons_succ, List.getElem?_cons_zero]; rfl) (v := ?_) (by kernel_rfl) (by kernel_rfl) (by kernel_rfl) (fun _ _ _ h => h) (Or.inl ⟨by rfl, ?_⟩) (by assumption) ?_
      rotate_left
      · (intro w hSw; (try dsimp only at hSw); go_simp; first | done | with_reducible rfl)
      try simp only [Act.put, List.setIfInBounds_toArray, List.set_cons_zero, List.set_cons_succ]
      refine wpAnyH_take (i := 13) (hi := by simp only [List.getElem?_toArray, List.getElem?_cons_succ, List.getElem?_cons_zero]; rfl) (v := ?_) (by kernel_rfl) (by kernel_rfl) (by kernel_rfl) (fun _ _ _ h => h) (Or.inl ⟨by rfl, ?_⟩) (by assumption) ?_
      rotate_left
      · (intro w hSw; (try dsimp only at hSw); go_simp; first | done | with_reducible rfl)
      try simp only [Act.put, List.setIfInBounds_toArray, List.set_cons_zero, List.set_cons_succ]
      refine wpAnyH_take (i := 14) (hi := by simp only [List.getElem?_toArray, List.getElem?_cons_succ, List.getElem?_cons_zero]; rfl) (v := ?_) (by kernel_rfl) (by kernel_rfl) (by kernel_rfl) (fun _ _ _ h => h) (Or.inl ⟨by rfl, ?_⟩) (by assumption) ?_
      rotate_left
      · (intro w hSw; (try dsimp only at hSw); go_simp; first | done | with_reducible rfl)
      try simp only [Act.put, List.setIfInBounds_toArray, List.set_cons_zero, List.set_cons_succ]
      refine wpAnyH_take (i := 15) (hi := by simp only [List.getElem?_toArray, List.getElem?_cons_succ, List.getElem?_cons_zero]; rfl) (v := ?_) (by kernel_rfl) (by kernel_rfl) (by kernel_rfl) (fun _ _ _ h => h) (Or.inl ⟨by rfl, ?_⟩) (by assumption) ?_
      rotate_left
      · (intro w hSw; (try dsimp only at hSw); go_simp; first | done | with_reducible rfl)
      try simp only [Act.put, List.setIfInBounds_toArray, List.set_cons_zero, List.set_cons_succ]
      refine wpAnyH_take (i := 16) (hi := by simp only [List.getElem?_toArray, List.getElem?_cons_succ, List.getElem?_cons_zero]; rfl) (v := ?_) (by kernel_rfl) (by kernel_rfl) (by kernel_rfl) (fun _ _ _ h => h) (Or.inl ⟨by rfl, ?_⟩) (by assumption) ?_
      rotate_left
      · (intro w hSw; (try dsimp only at hSw); go_simp; first | done | with_reducible rfl)
      try simp only [Act.put, List.setIfInBounds_toArray, List.set_cons_zero, List.set_cons_succ]
      refine wpAnyH_take (i := 17) (hi := by simp only [List.getElem?_toArray, List.getElem?_cons_succ, List.getElem?_cons_zero]; rfl) (v := ?_) (by kernel_rfl) (by kernel_rfl) (by kernel_rfl) (fun _ _ _ h => h) (Or.inl ⟨by rfl, ?_⟩) (by assumption) ?_
      rotate_left
      · (intro w hSw; (try dsimp only at hSw); go_simp; first | done | with_reducible rfl)
      try simp only [Act.put, List.setIfInBounds_toArray, List.set_cons_zero, List.set_cons_succ]
      refine wpAnyH_take (i := 18) (hi := by simp only [List.getElem?_toArray, List.getElem?_cons_succ, List.getElem?_cons_zero]; rfl) (v := ?_) (by kernel_rfl) (by kernel_rfl) (by kernel_rfl) (fun _ _ _ h => h) (Or.inl ⟨by rfl, ?_⟩) (by assumption) ?_
      rotate_left
      · (intro w hSw; (try dsimp only at hSw); go_simp; first | done | with_reducible rfl)
      try simp only [Act.put, List.setIfInBounds_toArray, List.set_cons_zero, List.set_cons_succ]
      refine wpAnyH_take (i := 19) (hi := by simp only [List.getElem?_toArray, List.getElem?_cons_succ, List.getElem?_cons_zero]; rfl) (v := ?_) (by kernel_rfl) (by kernel_rfl) (by kernel_rfl) (fun _ _ _ h => h) (Or.inl ⟨by rfl, ?_⟩) (by assumption) ?_
      rotate_left
      · (intro w hSw; (try dsimp only at hSw); go_simp; first | done | with_reducible rfl)
      try simp only [Act.put, List.setIfInBounds_toArray, List.set_cons_zero, List.set_cons_succ]
      refine wpAnyH_take (i := 20) (hi := by simp only [List.getElem?_toArray, List.getElem?_cons_succ, List.getElem?_cons_zero]; rfl) (v := ?_) (by kernel_rfl) (by kernel_rfl) (by kernel_rfl) (fun _ _ _ h => h) (Or.inl ⟨by rfl, ?_⟩) (by assumption) ?_
      rotate_left
      · (intro w hSw; (try dsimp only at hSw); go_simp; first | done | with_reducible rfl)
      try simp only [Act.put, List.setIfInBounds_toArray, List.set_cons_zero, List.set_cons_succ]
      refine wpAnyH_take (i := 21) (hi := by simp only [List.getElem?_toArray, List.getElem?_cons_succ, List.getElem?_cons_zero]; rfl) (v := ?_) (by kernel_rfl) (by kernel_rfl) (by kernel_rfl) (fun _ _ _ h => h) (Or.inl ⟨by rfl, ?_⟩) (by assumption) ?_
      rotate_left
      · (intro w hSw; (try dsimp only at hSw); (obtain ⟨x0, x1, a0, a1, b0, b1⟩ := HC.out _ hSw); go_simp; first | done | with_reducible rfl)
      try simp only [Act.put, List.setIfInBounds_toArray, List.set_cons_zero, List.set_cons_succ]
      refine wpAnyH_take (i := 23) (hi := by simp only [List.getElem?_toArray, List.getElem?_cons_succ, List.getElem?_cons_zero]; rfl) (v := ?_) (by kernel_rfl) (by kernel_rfl) (by kernel_rfl) (fun _ _ _ h => h) (Or.inl ⟨by rfl, ?_⟩) (by assumption) ?_
      rotate_left
      · (intro w hSw; (try dsimp only at hSw); go_simp; first | done | with_reducible rfl)
      try simp only [Act.put, List.setIfInBounds_toArray, List.set_cons_zero, List.set_cons_succ]
      refine wpAnyH_take (i := 24) (hi := by simp only [List.getElem?_toArray, List.getElem?_cons_succ, List.getElem?_cons_zero]; rfl) (v := ?_) (by kernel_rfl) (by kernel_rfl) (by kernel_rfl) (fun _ _ _ h => h) (Or.inl ⟨by rfl, ?_⟩) (by assumption) ?_
      rotate_left
      · (intro w hSw; (try dsimp only at hSw); (obtain ⟨x0, x1, a0, a1, b0, b1⟩ := HC.out _ hSw); go_simp; first | done | with_reducible rfl)
      try simp only [Act.put, List.setIfInBounds_toArray, List.set_cons_zero, List.set_cons_succ]
      refine wpAnyH_ready (rs := [22]) (by kernel_rfl) (by simp) ?_
      refine AllReadyH.cons (ho := by simp only [List.getElem?_toArray, List.getElem?_cons_succ, List.getElem?_cons_zero]; rfl) (fun K hK => ?_) (AllReadyH.nil)
      go_simp
      go_at_call 12; (with_reducible refine (HC2.out _ hHeld).mono ?_); rintro e w22 ⟨rfl, hd⟩
      have hb22 := Kit.hid (hHeld.trans (hd.mono hHeld.size))
      clear hd
      go_wp2_with fail
      refine hK.out _ _ ?_ (fun hHeldN => ?_)
      · exact hb22.out
      clear hHeld
      have hHeld := hHeldN
      clear hHeldN
      clear hK K
      try simp only [Act.put, List.setIfInBounds_toArray, List.set_cons_zero, List.set_cons_succ]
      refine wpAnyH_ready (rs := [25]) (by kernel_rfl) (by simp) ?_
      refine AllReadyH.cons (ho := by simp only [List.getElem?_toArray, List.getElem?_cons_succ, List.getElem?_cons_zero]; rfl) (fun K hK => ?_) (AllReadyH.nil)
      go_simp
      go_at_call 28; (with_reducible refine (HC3.out _ hHeld).mono ?_); rintro e w25 ⟨rfl, hd⟩
      have hb25 := Kit.hid (hHeld.trans (hd.mono hHeld.size))
      clear hd
      go_wp2_with fail
      refine hK.out _ _ ?_ (fun hHeldN => ?_)
      · exact hb25.out
      clear hHeld
      have hHeld := hHeldN
      clear hHeldN
      clear hK K
      try simp only [Act.put, List.setIfInBounds_toArray, List.set_cons_zero, List.set_cons_succ]
      refine wpAnyH_take (i := 26) (hi := by simp only [List.getElem?_toArray, List.getElem?_cons_succ, List.getElem?_cons_zero]; rfl) (v := ?_) (by kernel_rfl) (by kernel_rfl) (by kernel_rfl) (fun _ _ _ h => h) (Or.inl ⟨by rfl, ?_⟩) (by assumption) ?_
      rotate_left
      · (intro w hSw; (try dsimp only at hSw); go_simp; first | done | with_reducible rfl)
      try simp only [Act.put, List.setIfInBounds_toArray, List.set_cons_zero, List.set_cons_succ]
      refine wpAnyH_take (i := 27) (hi := by simp only [List.getElem?_toArray, List.getElem?_cons_succ, List.getElem?_cons_zero]; rfl) (v := ?_) (by kernel_rfl) (by kernel_rfl) (by kernel_rfl) (fun _ _ _ h => h) (Or.inl ⟨by rfl, ?_⟩) (by assumption) ?_
      rotate_left
      · (intro w hSw; (try dsimp only at hSw); go_simp; first | done | with_reducible rfl)
      try simp only [Act.put, List.setIfInBounds_toArray, List.set_cons_zero, List.set_cons_succ]
      refine wpAnyH_take (i := 28) (hi := by simp only [List.getElem?_toArray, List.getElem?_cons_succ, List.getElem?_cons_zero]; rfl) (v := ?_) (by kernel_rfl) (by kernel_rfl) (by kernel_rfl) (fun _ _ _ h => h) (Or.inl ⟨by rfl, ?_⟩) (by assumption) ?_
      rotate_left
      · (intro w hSw; (try dsimp only at hSw); go_simp; first | done | with_reducible rfl)
      try simp only [Act.put, List.setIfInBounds_toArray, List.set_cons_zero, List.set_cons_succ]
      refine wpAnyH_take (i := 29) (hi := by simp only [List.getElem?_toArray, List.getElem?_cons_succ, List.getElem?_cons_zero]; rfl) (v := ?_) (by kernel_rfl) (by kernel_rfl) (by kernel_rfl) (fun _ _ _ h => h) (Or.inl ⟨by rfl, ?_⟩) (by assumption) ?_
      rotate_left
      · (intro w hSw; (try dsimp only at hSw); go_simp; first | done | with_reducible rfl)
      try simp only [Act.put, List.setIfInBounds_toArray, List.set_cons_zero, List.set_cons_succ]
      refine wpAnyH_take (i := 30) (hi := by simp only [List.getElem?_toArray, List.getElem?_cons_succ, List.getElem?_cons_zero]; rfl) (v := ?_) (by kernel_rfl) (by kernel_rfl) (by kernel_rfl) (fun _ _ _ h => h) (Or.inl ⟨by rfl, ?_⟩) (by assumption) ?_
      rotate_left
      · (intro w hSw; (try dsimp only at hSw); (obtain ⟨x0, x1, a0, a1, b0, b1⟩ := HC.out _ hSw); go_simp; first | done | with_reducible rfl)
      try simp only [Act.put, List.setIfInBounds_toArray, List.set_cons_zero, List.set_cons_succ]
      refine wpAnyH_take (i := 32) (hi := by simp only [List.getElem?_toArray, List.getElem?_cons_succ, List.getElem?_cons_zero]; rfl) (v := ?_) (by kernel_rfl) (by kernel_rfl) (by kernel_rfl) (fun _ _ _ h => h) (Or.inl ⟨by rfl, ?_⟩) (by assumption) ?_
      rotate_left
      · (intro w hSw; (try dsimp only at hSw); go_simp; first | done | with_reducible rfl)
      try simp only [Act.put, List.setIfInBounds_toArray, List.set_cons_zero, List.set_cons_succ]
      refine wpAnyH_take (i := 33) (hi := by simp only [List.getElem?_toArray, List.getElem?_cons_succ, List.getElem?_cons_zero]; rfl) (v := ?_) (by kernel_rfl) (by kernel_rfl) (by kernel_rfl) (fun _ _ _ h => h) (Or.inl ⟨by rfl, ?_⟩) (by assumption) ?_
      rotate_left
      · (intro w hSw; (try dsimp only at hSw); (obtain ⟨x0, x1, a0, a1, b0, b1⟩ := HC.out _ hSw); go_simp; first | done | with_reducible rfl)
      try simp only [Act.put, List.setIfInBounds_toArray, List.set_cons_zero, List.set_cons_succ]
      refine wpAnyH_ready (rs := [31]) (by kernel_rfl) (by simp) ?_
      refine AllReadyH.cons (ho := by simp only [List.getElem?_toArray, List.getElem?_cons_succ, List.getElem?_cons_zero]; rfl) (fun K hK => ?_) (AllReadyH.nil)
      go_simp
      go_at_call 24; (with_reducible refine (HC4.out _ hHeld).mono ?_); rintro e w31 ⟨rfl, hd⟩
      have hb31 := Kit.hid (hHeld.trans (hd.mono hHeld.size))
      clear hd
      go_wp2_with fail
      refine hK.out _ _ ?_ (fun hHeldN => ?_)
      · exact hb31.out
      clear hHeld
      have hHeld := hHeldN
      clear hHeldN
      clear hK K
      try simp only [Act.put, List.setIfInBounds_toArray, List.set_cons_zero, List.set_cons_succ]
      refine wpAnyH_ready (rs := [34]) (by kernel_rfl) (by simp) ?_
      refine AllReadyH.cons (ho := by simp only [List.getElem?_toArray, List.getElem?_cons_succ, List.getElem?_cons_zero]; rfl) (fun K hK => ?_) (AllReadyH.nil)
      go_simp
      go_at_call 20; (with_reducible refine (HC5.out _ hHeld).mono ?_); rintro e w34 ⟨rfl, hd⟩
      have hb34 := Kit.hid (hHeld.trans (hd.mono hHeld.size))
      clear hd
      go_wp2_with fail
      refine hK.out _ _ ?_ (fun hHeldN => ?_)
      · exact hb34.out
      clear hHeld
      have hHeld := hHeldN
      clear hHeldN
      clear hK K
      try simp only [Act.put, List.setIfInBounds_toArray, List.set_cons_zero, List.set_cons_succ]
      refine wpAnyH_take (i := 35) (hi := by simp only [List.getElem?_toArray, List.getElem?_cons_succ, List.getElem?_cons_zero]; rfl) (v := ?_) (by kernel_rfl) (by kernel_rfl) (by kernel_rfl) (fun _ _ _ h => h) (Or.inl ⟨by rfl, ?_⟩) (by assumption) ?_
      rotate_left
      · (intro w hSw; (try dsimp only at hSw); go_simp; first | done | with_reducible rfl)
      try simp only [Act.put, List.setIfInBounds_toArray, List.set_cons_zero, List.set_cons_succ]
      refine wpAnyH_take (i := 36) (hi := by simp only [List.getElem?_toArray, List.getElem?_cons_succ, List.getElem?_cons_zero]; rfl) (v := ?_) (by kernel_rfl) (by kernel_rfl) (by kernel_rfl) (fun _ _ _ h => h) (Or.inl ⟨by rfl, ?_⟩) (by assumption) ?_
      rotate_left
      · (intro w hSw; (try dsimp only at hSw); go_simp; first | done | with_reducible rfl)
      try simp only [Act.put, List.setIfInBounds_toArray, List.set_cons_zero, List.set_cons_succ]
      refine wpAnyH_take (i := 37) (hi := by simp only [List.getElem?_toArray, List.getElem?_cons_succ, List.getElem?_cons_zero]; rfl) (v := ?_) (by kernel_rfl) (by kernel_rfl) (by kernel_rfl) (fun _ _ _ h => h) (Or.inl ⟨by rfl, ?_⟩) (by assumption) ?_
      rotate_left
      · (intro w hSw; (try dsimp only at hSw); go_simp; first | done | with_reducible rfl)
      try simp only [Act.put, List.setIfInBounds_toArray, List.set_cons_zero, List.set_cons_succ]
      clear hHeld
      refine wpAnyH_done (by kernel_rfl) ?_ _
      refine NoPanic.normal ?_
      skip
      have HE := Kit.hid (HB1.out.trans ((HP5.out.below hb34.out).to.mono HB1.out.size))
      go_wp2
      go_ret
      exact ⟨rfl, HE.out⟩
end Go.Proofs.Ytgcmblklalcpgaa.Sh
