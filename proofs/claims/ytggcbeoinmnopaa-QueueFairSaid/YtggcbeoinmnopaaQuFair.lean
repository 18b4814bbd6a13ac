/- The law QueueFair. -/
import Derived.Test.YtggcbeoinmnopaaQuU
import Derived.Deep.OwnRows
namespace Go.Proofs.Ytggcbeoinmnopaa.QuM
open Go.Proofs.Ytggcbeoinmnopaa.ShM
/-- Members that joined at once: W their weights. -/
structure Fair0 (W : List Int) (n : Nat) (L : List Mem) : Prop where
  ids : ∀ m ∈ L, 1 ≤ m.id ∧ m.id ≤ n
  has : ∀ j : Nat, j < n → ∃ m ∈ L, m.id = j + 1
  wt : ∀ m ∈ L, W[(m.id - 1).toNat]? = some m.wt
  zero : ∀ m ∈ L, m.v = 0 ∧ m.rem = 0
/-- R: how often each one ran. -/
structure FairR (W R : List Int) (n : Nat) (L : List Mem) : Prop where
  ids : ∀ m ∈ L, 1 ≤ m.id ∧ m.id ≤ n
  has : ∀ j : Nat, j < n → ∃ m ∈ L, m.id = j + 1
  wt : ∀ m ∈ L, W[(m.id - 1).toNat]? = some m.wt
  run : ∀ m ∈ L, ∃ r, R[(m.id - 1).toNat]? = some r ∧ m.v * m.wt + m.rem = 1048576 * r
  near : ∀ x ∈ L, ∀ y ∈ L, x.v - y.v ≤ 1048576 / x.wt + 1
theorem Fair0.nil (W : List Int) : Fair0 W 0 [] := ⟨fun m h => (by cases h), fun j h => absurd h (Nat.not_lt_zero _), fun m h => (by cases h), fun m h => (by cases h)⟩
theorem fair0_join {W : List Int} {i : Nat} {L : List Mem} {u : Int} (h : Fair0 W i L) (hi : i < 8) (hu : W[i]? = some u) (h1 : 1 ≤ u) (h2 : u ≤ 1048576) :
    joinC ⟨i + 1, u, 0, 0⟩ L 0 = 0 ∧ Fair0 W (i + 1) (joinL ⟨i + 1, u, 0, 0⟩ L 0) := by
  have hg : get L ((i : Int) + 1) = none := get_none.2 fun y hy => by have := (h.ids y hy).2; omega
  have hc : joinC ⟨i + 1, u, 0, 0⟩ L 0 = 0 := by
    unfold joinC
    dsimp only
    rw [if_neg (by omega), hg]
    rfl
  refine ⟨hc, ?_⟩
  unfold joinL
  rw [if_pos hc]
  refine ⟨fun m hm => ?_, fun j hj => ?_, fun m hm => ?_, fun m hm => ?_⟩
  · rcases put_mem.1 hm with rfl | ⟨hm, _⟩
    · show 1 ≤ (i : Int) + 1 ∧ (i : Int) + 1 ≤ ((i + 1 : Nat) : Int); omega
    · have := h.ids m hm; omega
  · by_cases e : j = i
    · exact ⟨_, put_mem.2 (.inl rfl), by rw [e]⟩
    · obtain ⟨m, hm, he⟩ := h.has j (by omega)
      exact ⟨m, put_mem.2 (.inr ⟨hm, by show m.id ≠ (i : Int) + 1; omega⟩), he⟩
  · rcases put_mem.1 hm with rfl | ⟨hm, _⟩
    · show W[((i : Int) + 1 - 1).toNat]? = some u
      rw [show ((i : Int) + 1 - 1).toNat = i by omega, hu]
    · exact h.wt m hm
  · rcases put_mem.1 hm with rfl | ⟨hm, _⟩
    · exact ⟨rfl, rfl⟩
    · exact h.zero m hm
theorem Fair0.fair {W : List Int} {n : Nat} {L : List Mem} (h : Fair0 W n L) (hq : QB L 0) : FairR W (List.replicate n 0) n L := by
  refine ⟨h.ids, h.has, h.wt, fun m hm => ⟨0, ?_, ?_⟩, fun x hx y hy => ?_⟩
  · have := h.ids m hm
    rw [List.getElem?_replicate, if_pos (by omega)]
  · obtain ⟨e1, e2⟩ := h.zero m hm
    rw [e1, e2]; simp
  · have e1 := (h.zero x hx).1
    have e2 := (h.zero y hy).1
    have := hq.each x hx
    have : 0 ≤ 1048576 / x.wt := Int.ediv_nonneg (by omega) (by omega)
    omega
theorem div_tick {u r : Int} (h1 : 1 ≤ u) (h2 : 0 ≤ r) (h3 : r < u) : (1048576 * 1 + r) / u ≤ 1048576 / u + 1 := by
  have e1 := Int.mul_ediv_add_emod 1048576 u
  have e2 := Int.emod_lt_of_pos 1048576 (b := u) (by omega)
  have : (1048576 * 1 + r) / u < 1048576 / u + 2 := by
    apply Int.ediv_lt_of_lt_mul (by omega)
    have : (1048576 / u + 2) * u = u * (1048576 / u) + 2 * u := by rw [Int.add_mul, Int.mul_comm]
    omega
  omega
theorem fair_first {W R : List Int} {n : Nat} {x : Mem} {T : List Mem} {b : Int} {t : Nat} (hw : WQ (x :: T)) (hq : QB (x :: T) b) (h : FairR W R n (x :: T)) (ht : t < 255) (hR : ∀ r ∈ R, 0 ≤ r ∧ r ≤ t) :
    ∃ r, R[(x.id - 1).toNat]? = some r ∧ 0 ≤ r ∧ r ≤ t ∧ 1 ≤ x.id ∧ x.id ≤ n ∧
      runR (x :: T) b x.id 1 = (0, putM (ranM x 1) (x :: T), max b (firstV (putM (ranM x 1) (x :: T)))) ∧
      FairR W (R.set (x.id - 1).toNat (r + 1)) n (putM (ranM x 1) (x :: T)) := by
  have hx : x ∈ x :: T := by simp
  obtain ⟨b1, b2, b3, b4, b5, b6, b7, b8⟩ := hq.each x hx
  obtain ⟨r, hr, he⟩ := h.run x hx
  have hr2 := hR r (List.mem_of_getElem? hr)
  have hb0 := hq.b0
  have hid := h.ids x hx
  have hg : get (x :: T) x.id = some x := get_of hw hx
  have e1 := Int.mul_ediv_add_emod (1048576 * 1 + x.rem) x.wt
  have hrun : (ranM x 1).v * x.wt + (ranM x 1).rem = 1048576 * (r + 1) := by
    show (x.v + (1048576 * 1 + x.rem) / x.wt) * x.wt + (1048576 * 1 + x.rem) % x.wt = _
    rw [Int.add_mul, Int.mul_comm ((1048576 * 1 + x.rem) / x.wt)]
    omega
  obtain ⟨r1, r2, r3⟩ := ran_ok (m := x) (t := 1) b3 b5 (by omega)
  have hv : (ranM x 1).v ≤ 1048576 * (r + 1) := by
    have : (ranM x 1).v * 1 ≤ (ranM x 1).v * x.wt := Int.mul_le_mul_of_nonneg_left (by omega) (by omega)
    omega
  refine ⟨r, hr, hr2.1, hr2.2, hid.1, hid.2, ?_, ?_, fun j hj => ?_, fun m hm => ?_, fun m hm => ?_, ?_⟩
  · unfold runR
    rw [hg]
    dsimp only
    rw [if_neg (by omega), if_neg (by omega)]
  · intro m hm
    rcases put_mem.1 hm with rfl | ⟨hm, _⟩
    · exact hid
    · exact h.ids m hm
  · obtain ⟨m, hm, he⟩ := h.has j hj
    by_cases e : m.id = x.id
    · exact ⟨_, put_mem.2 (.inl rfl), e.symm.trans he⟩
    · exact ⟨m, put_mem.2 (.inr ⟨hm, e⟩), he⟩
  · rcases put_mem.1 hm with rfl | ⟨hm, _⟩
    · exact h.wt x hx
    · exact h.wt m hm
  · rcases put_mem.1 hm with rfl | ⟨hm, hne⟩
    · refine ⟨r + 1, ?_, hrun⟩
      obtain ⟨hl, _⟩ := List.getElem?_eq_some_iff.1 hr
      show (R.set (x.id - 1).toNat (r + 1))[(x.id - 1).toNat]? = _
      rw [List.getElem?_set_self hl]
    · obtain ⟨r', hr', he'⟩ := h.run m hm
      refine ⟨r', ?_, he'⟩
      have h1 := h.ids m hm
      have h2 : m.id ≠ x.id := hne
      rw [List.getElem?_set_ne (by omega)]
      exact hr'
  · have hfl : ∀ y ∈ x :: T, x.v ≤ y.v := fun y hy => first_le hw y hy
    have hd := div_tick b3 b5 b6
    intro y hy z hz
    rcases put_mem.1 hy with rfl | ⟨hy, hyn⟩
    · rcases put_mem.1 hz with rfl | ⟨hz, hzn⟩
      · have : 0 ≤ 1048576 / (ranM x 1).wt := Int.ediv_nonneg (by omega) (by show 0 ≤ x.wt; omega)
        omega
      · have := hfl z hz
        show x.v + (1048576 * 1 + x.rem) / x.wt - z.v ≤ 1048576 / x.wt + 1
        omega
    · rcases put_mem.1 hz with rfl | ⟨hz, hzn⟩
      · have := h.near y hy x hx
        omega
      · exact h.near y hy z hz
theorem set_bound {R : List Int} {i : Nat} {r t : Int} (h : ∀ x ∈ R, 0 ≤ x ∧ x ≤ t) (h0 : 0 ≤ r) (h1 : r ≤ t) : ∀ x ∈ R.set i (r + 1), 0 ≤ x ∧ x ≤ t + 1 := fun x hx => by
  rcases List.mem_or_eq_of_mem_set hx with h2 | rfl
  · have := h x h2; omega
  · omega
end Go.Proofs.Ytggcbeoinmnopaa.QuM
namespace Go.Proofs.Ytggcbeoinmnopaa.Qu
open Go.RowKit Go.Proofs.Ytggcbeoinmnopaa.Kit Go.Proofs.Ytggcbeoinmnopaa.ShM Go.Proofs.Ytggcbeoinmnopaa.Sh Go.Proofs.Ytggcbeoinmnopaa.QuM
set_option linter.unusedVariables false
set_option linter.unusedSimpArgs false
theorem told_get (b : Int) (L : List Mem) (i : Nat) (m : Mem) (h : L[i]? = some m) : (told b L)[i]? = some { m with v := m.v - b } := by
  unfold told
  rw [List.getElem?_map, h]
  rfl
/-- A queue, and a row of numbers of its own. -/
def Tk (w1 w : World) (q g : Nat) (R : List Int) (L : List Mem) (b : Int) (n : Nat) : Prop :=
  ∃ F, QF F w q L b n ∧ (∀ k, F k → w1.heap.size ≤ k) ∧ Below w1.heap.size w1 w ∧ w.heap[g]? = some (.cells (R.map (Value.int .i64)).toArray 3 (0, 0)) ∧ ¬ F g ∧ w1.heap.size ≤ g
section
variable {w1 w w' : World} {q g n : Nat} {R : List Int} {L : List Mem} {b : Int}
theorem Tk.get (h : Tk w1 w q g R L b n) : ∃ F, QF F w q L b n := by
  obtain ⟨F, h1, _⟩ := h
  exact ⟨F, h1⟩
theorem Tk.to (h : Tk w1 w q g R L b n) : Below w1.heap.size w1 w := by
  obtain ⟨F, h1, h2, h3, _⟩ := h
  exact h3
theorem Tk.blk (h : Tk w1 w q g R L b n) : w.heap[g]? = some (.cells (R.map (Value.int .i64)).toArray 3 (0, 0)) := by
  obtain ⟨F, h1, h2, h3, h4, _⟩ := h
  exact h4
theorem Tk.cell (h : Tk w1 w q g R L b n) {i : Nat} {r : Int} (hr : R[i]? = some r) : w.cell? ⟨g, i, none⟩ = some (.int .i64 r) := by
  rw [blk_cell h.blk]
  simp [hr]
theorem Tk.below (h : Tk w1 w q g R L b n) (hb : Below w.heap.size w w') : Tk w1 w' q g R L b n := by
  obtain ⟨F, h1, h2, h3, h4, h5, h6⟩ := h
  exact ⟨F, h1.below hb, h2, h3.trans (hb.mono h3.size), blk_below h4 hb, h5, h6⟩
theorem Tk.set (h : Tk w1 w q g R L b n) (i : Nat) (r : Int) : Tk w1 (w.setCell ⟨g, i, none⟩ (.int .i64 r)) q g (R.set i r) L b n := by
  obtain ⟨F, h1, h2, h3, h4, h5, h6⟩ := h
  refine ⟨F, h1.kept fun k hk => Below.heap_setCell _ _ _ _ (fun e => h5 (by rw [← show k = g from e]; exact hk)), h2, h3.setCell h6 _, ?_, h5, h6⟩
  exact blk_put h4 i _ (by simp [List.map_set])
theorem Tk.op {Q : Ending → Prop} {f : Nat} {args : Array Value} {n' : Nat} {L' : List Mem} {b' : Int} (h : Tk w1 w q g R L b n)
    (H : ∀ F, QF F w q L b n → Calls Try.prog f args w fun e w' => Q e ∧ Qu w F w' q L' b' n') : Calls Try.prog f args w fun e w' => Q e ∧ Tk w1 w' q g R L' b' n' := by
  obtain ⟨F, h1, h2, h3, h4, h5, h6⟩ := h
  refine (H F h1).mono fun e w' hh => ⟨hh.1, ?_⟩
  obtain ⟨F', g1, g2, g3⟩ := hh.2
  have hg := blk_lt h4
  refine ⟨F', g1, fun k hk => ?_, ?_, (g3.block g hg h5).trans h4, fun hf => ?_, h6⟩
  · rcases g2 k hk with hk | hk
    · exact h2 k hk
    · exact Nat.le_trans h3.size hk
  · exact ⟨g3.os.trans h3.os, g3.tape.trans h3.tape, g3.output.trans h3.output, Nat.le_trans h3.size g3.size, fun x hx => (g3.block x (Nat.lt_of_lt_of_le hx h3.size) (fun hf => by have := h2 x hf; omega)).trans (h3.block x hx)⟩
  · rcases g2 g hf with hk | hk
    · exact h5 hk
    · omega
end
theorem infoI : (Try.prog.info? 3).map (fun i => (i.zero, i.size, i.bytes)) = some (some (.int .i64 0), 1, 8) := by kernel_rfl
set_option maxRecDepth 8000 in
set_option maxHeartbeats 4000000 in
theorem fairLaw_any (A : Option Addr) (l : List Int) (ca : Nat) (tk : Int) (w : World) (hr : Hid (Ints .u32 w A l)) (hl : l.length ≤ 9223372036854775807) (hu : ∀ x ∈ l, 0 ≤ x ∧ x ≤ 4294967295) (ht0 : 0 ≤ tk) (ht1 : tk ≤ 255) :
    Calls Try.prog 3 #[.slice A l.length ca, .int .u8 tk] w fun e w' => e = .returned (.bool true) ∧ Below w.heap.size w w' := by
  have HAW := Kit.hid qawake_any
  have HR := hr
  obtain ⟨tn, rfl⟩ := Int.eq_ofNat_of_zero_le ht0
  clear hr ht0
  go_enter Try.func3, Try.ntmps3
  go_wp2_with fail
  (with_reducible refine (HAW.out w).mono ?_); rintro e w1 ⟨rfl, hd1⟩
  have HB1 := Kit.hid hd1
  have HR1 := ints_below HR hd1
  clear hd1 HAW HR
  by_cases hbig : 8 < l.length
  · have g1 : (8 : Int) < (l.length : Int) := by omega
    clear hbig
    go_wp2
    go_ret
    exact ⟨rfl, HB1.out⟩
  have g1 : ¬ (8 : Int) < (l.length : Int) := by omega
  by_cases hnil : l.length = 0
  · have g2 : (l.length : Int) = 0 := by omega
    clear hbig
    go_wp2
    go_ret
    exact ⟨rfl, HB1.out⟩
  have g2 : ((l.length : Int) == 0) = false := beq_eq_false_iff_ne.2 (by omega)
  have g3 : decide ((8 : Int) < (l.length : Int)) = false := decide_eq_false g1
  have hll : l.length ≤ 8 := by omega
  clear hbig hl
  have HN := Kit.hid (qnew_any w1)
  go_wp2_with fail
  (with_reducible refine HN.out.mono ?_); rintro e w2 ⟨q, rfl, hq, hq2⟩
  have HQ2 := Kit.hid hq2
  clear hq2 HN hq
  have HJ : Hid (∀ (m : Mem) L n w', Qu w1 (fun _ => False) w' q L 0 n → QB L 0 → n ≤ 3000 → -9223372036854775808 ≤ m.id → m.id ≤ 9223372036854775807 → Calls Try.prog 12 #[.pointer (some ⟨q, 0, none⟩), .agg #[.int .i64 m.id, .int .i64 m.wt, .int .i64 m.v, .int .i64 m.rem]] w' fun e w'' => e = .returned (.int .i64 (joinC m L 0)) ∧ Qu w1 (fun _ => False) w'' q (joinL m L 0) 0 (n + 1)) :=
    Kit.hid (fun m L n w' h hq hn h1 h2 => h.op fun F hf => join_any m hf hq (by omega) h1 h2)
  obtain ⟨Ws, hWs⟩ : ∃ Ws, Ws = l.map (fun x => 1 + x % 1048576) := ⟨_, rfl⟩
  have HWS := Kit.hid hWs
  have HU := Kit.hid hu
  clear hWs hu
  go_wp2_with fail
  go_loopw [7] (fun v7 wr => ∃ (i : Nat) (L : List Mem), i ≤ l.length ∧ v7 = .int .i64 i ∧ Hid (Fair0 Ws i L) ∧ Hid (WQ L) ∧ Hid (QB L 0) ∧ Hid (Qu w1 (fun _ => False) wr q L 0 (i + 1))) (fun i _ => l.length - (intOf i).toNat)
  case atStart => exact ⟨0, [], by omega, rfl, Fair0.nil _, WQ.nil, QB.nil, HQ2⟩
  case round =>
    obtain ⟨i, L, hi, rfl, HF, HW, HB, HI⟩ := hrel
    by_cases hlt : i < l.length
    · obtain ⟨x, hx⟩ : ∃ x, l[i]? = some x := ⟨_, List.getElem?_eq_getElem hlt⟩
      obtain ⟨ad, hA, c0⟩ := (ints_below HR1 (HI.out.kept.toBelow (fun k h => h.elim))).out i hlt
      rw [show l[i] = x from Option.some.inj ((List.getElem?_eq_getElem hlt).symm.trans hx)] at c0
      subst hA
      obtain ⟨u, hu⟩ : ∃ u, u = x % 1048576 := ⟨_, rfl⟩
      have hu0 := Int.emod_nonneg x (b := 1048576) (by omega)
      have hu1 := Int.emod_lt_of_pos x (b := 1048576) (by omega)
      rw [← hu] at hu0 hu1
      have eu : x % 1048576 = u := hu.symm
      have hx2 := HU.out x (List.mem_of_getElem? hx)
      obtain ⟨hx3, hx4⟩ := hx2
      have hwu : Ws[i]? = some (1 + u) := by rw [HWS.out, List.getElem?_map, hx, hu]; rfl
      obtain ⟨hc, hf⟩ := fair0_join HF.out (by omega) hwu (by omega) (by omega)
      have HC := Kit.hid hc
      have HF' := Kit.hid hf
      have HJ' := Kit.hid (HJ.out ⟨(i : Int) + 1, 1 + u, 0, 0⟩ L _ _ HI.out HB.out (by omega) (by show _ ≤ (i : Int) + 1; omega) (by show (i : Int) + 1 ≤ _; omega))
      have HW' := Kit.hid (join_wq HW.out ⟨(i : Int) + 1, 1 + u, 0, 0⟩ 0)
      have HB' := Kit.hid (HB.out.join ⟨(i : Int) + 1, 1 + u, 0, 0⟩)
      generalize joinL ⟨(i : Int) + 1, 1 + u, 0, 0⟩ L 0 = L' at HF' HJ' HW' HB'
      rw [hc] at HJ'
      clear hx hu hwu hc hf HF HW HB HC
      go_wp2_with fail
      (with_reducible refine HJ'.out.mono ?_); rintro e w3 ⟨rfl, hi3⟩
      have HI3 := Kit.hid hi3
      clear hi3
      go_wp2_with fail
      go_roundw
      case rel => exact ⟨i + 1, L', by omega, by go_num, HF', HW', HB', HI3⟩
      case measure => simp [intOf]; omega
    · obtain rfl : i = l.length := by omega
      have HF2 := Kit.hid (HF.out.fair HB.out)
      obtain ⟨len, hlen⟩ : ∃ len, len = l.length := ⟨_, rfl⟩
      rw [← hlen] at HF2 HI hll hnil g1 g2 g3 ⊢
      have HLEN := Kit.hid hlen
      clear HF hlt hi hlen
      have hmk := run_make_row' (P := Try.prog) 33 3 (.int .i64 0) 8 Try.underlying33 infoI rfl .i64 .i64 len (by omega) (by omega)
      go_wp2_with fail
      have hT0 : Tk w1 (wr.alloc (.cells (madeCells #[.int .i64 0] len) 3)) q wr.heap.size (List.replicate len 0) L 0 (len + 1) := by
        obtain ⟨F, h1, h2, h3⟩ := HI.out
        have hb := h3.toBelow (fun k h => h.elim)
        have ha : Below wr.heap.size wr (wr.alloc (.cells (madeCells #[.int .i64 0] len) 3)) := (Below.refl _ _).alloc (Nat.le_refl _) _
        refine ⟨F, h1.below ha, fun k hk => (h2 k hk).elim (fun h => h.elim) id, hb.alloc hb.size _, ?_, fun hf => Nat.lt_irrefl _ (h1.lt _ hf), hb.size⟩
        rw [blk_new]
        congr 2
        apply Array.ext
        · simp [madeCells]
        · intro i h1 h2; simp [madeCells, Nat.mod_one]
      have HT := Kit.hid hT0
      clear hT0 HI
      generalize wr.alloc (.cells (madeCells #[.int .i64 0] len) 3) = w0 at HT ⊢
      obtain ⟨g, hg⟩ : ∃ g, g = wr.heap.size := ⟨_, rfl⟩
      rw [← hg] at HT ⊢
      clear hg
      have HRL : Hid ((List.replicate len (0 : Int)).length = len) := Kit.hid List.length_replicate
      have HRB : Hid (∀ r ∈ List.replicate len (0 : Int), 0 ≤ r ∧ r ≤ ((0 : Nat) : Int)) := Kit.hid (fun r h => by rw [List.eq_of_mem_replicate h]; exact ⟨Int.le_refl _, Int.le_refl _⟩)
      generalize List.replicate len (0 : Int) = R at HT HRL HRB HF2
      have HLE : Hid (1 ≤ len ∧ len ≤ 8 ∧ Ws.length = len ∧ tn ≤ 255) := Kit.hid ⟨by omega, hll, by rw [HWS.out, List.length_map, HLEN.out], by omega⟩
      go_wp2_with fail
      go_loopw [9] (fun v9 wr => ∃ (t : Nat) (R : List Int) (L : List Mem) (b : Int), t ≤ tn ∧ v9 = .int .i64 t ∧ Hid (R.length = len) ∧ Hid (∀ r ∈ R, 0 ≤ r ∧ r ≤ (t : Int)) ∧ Hid (FairR Ws R len L) ∧ Hid (WQ L) ∧ Hid (QB L b) ∧ Hid (Tk w1 wr q g R L b (len + 1 + t))) (fun t _ => tn - (intOf t).toNat)
      case atStart => exact ⟨0, R, L, 0, by omega, rfl, HRL, HRB, HF2, HW, HB, HT⟩
      case round =>
        clear HRL HRB HF2 HW HB HT HJ
        obtain ⟨t, R, L, b, ht, rfl, HRL, HRB, HF, HW, HB, HT⟩ := hrel
        by_cases hlt : t < tn
        · obtain ⟨x, T, rfl⟩ : ∃ x T, L = x :: T := by
            obtain ⟨m, hm, _⟩ := HF.out.has 0 (by have := HLE.out; omega)
            cases L with
            | nil => cases hm
            | cons x T => exact ⟨x, T, rfl⟩
          obtain ⟨r, hr, hr0, hr1, hx1, hx2, hrun, hfair⟩ := fair_first HW.out HB.out HF.out (by have := HLE.out; omega) HRB.out
          have HAL : Hid (∀ R L b n w', QB L b → n ≤ 3000 → Tk w1 w' q g R L b n → Calls Try.prog 13 #[.pointer (some ⟨q, 0, none⟩)] w' fun e w'' => ∃ v, e = .returned v ∧ w''.ownsRow w'.heap.size 32 4 v L.length (flatM b L) ∧ Below w'.heap.size w' w'') := Kit.hid (fun R L b n w' hq hn h => by
            obtain ⟨F, hf⟩ := h.get
            exact qall_any hf hq (by omega))
          have HA1 := Kit.hid (HAL.out _ _ _ (len + 1 + t) _ HB.out (by have := HLE.out; omega) HT.out)
          obtain ⟨L0, hL0⟩ : ∃ L0, L0 = x :: T := ⟨_, rfl⟩
          have hx0 : L0[0]? = some x := by rw [hL0]; rfl
          have hpos : (0 : Int) < (L0.length : Int) := by rw [hL0]; simp
          rw [← hL0] at HA1 HT HF HW HB hrun hfair
          have HL0 := Kit.hid hL0
          clear hL0
          go_wp2_with fail
          (with_reducible refine HA1.out.mono ?_); rintro e w3 ⟨va, rfl, hva, hb3⟩
          obtain ⟨A3, c3, rfl, hc3, _, _⟩ := own_readsS (by decide) hva
          obtain ⟨ad, hA3, p0, p1, p2, p3⟩ := t_at (trow_cells hc3) (told_get b L0 0 x hx0)
          have HT3 := Kit.hid (HT.out.below hb3)
          subst hA3
          rw [show ad.add (0 * 4) = ad from by unfold Addr.add; simp] at p0 p1 p2 p3
          dsimp only at p0 p1 p2 p3
          obtain ⟨j, hj⟩ : ∃ j : Nat, x.id = (j : Int) + 1 := ⟨(x.id - 1).toNat, by omega⟩
          have hj2 : (x.id - 1).toNat = j := by omega
          have hjl : (j : Int) < (len : Int) := by omega
          rw [hj2] at hr hfair
          rw [hj] at hrun p0
          have hb4 : Below w3.heap.size w3 (w3.alloc (.cells #[.int .i64 ((j : Int) + 1), .int .i64 x.wt, .int .i64 (x.v - b), .int .i64 x.rem] 32)) := (Below.refl _ _).alloc (Nat.le_refl _) _
          have hx4 := blk_new w3 (.cells #[.int .i64 ((j : Int) + 1), .int .i64 x.wt, .int .i64 (x.v - b), .int .i64 x.rem] 32)
          have HT4 := Kit.hid (HT3.out.below hb4)
          have cr := HT4.out.cell hr
          have fr := blk_frozen HT4.out.blk j
          have HRN := Kit.hid hrun
          have HFF := Kit.hid hfair
          have hj5 : (j : Int) + 1 ≤ 9 := by have := HLE.out; omega
          have HTS := Kit.hid (HT4.out.set j (r + 1))
          have HXB := Kit.hid hx4
          have hr5 : r ≤ 255 := by have := HLE.out; omega
          have HRS := Kit.hid (set_bound (i := j) HRB.out hr0 hr1)
          have hxs : g ≠ w3.heap.size := fun e => by have := blk_lt HT3.out.blk; omega
          have c0 : ((w3.alloc (.cells #[.int .i64 ((j : Int) + 1), .int .i64 x.wt, .int .i64 (x.v - b), .int .i64 x.rem] 32)).setCell ⟨g, j, none⟩ (.int .i64 (r + 1))).cell? ⟨w3.heap.size, 0, none⟩ = some (.int .i64 ((j : Int) + 1)) := blk_cell (blk_far hx4 (p := ⟨g, j, none⟩) (fun e => hxs e.symm) _) 0
          have HRU := Kit.hid ((HTS.out).op fun F hf => qrun_any ((j : Int) + 1) 1 hf HB.out (by have := HLE.out; omega) (by omega) (by omega))
          clear hva hc3 hb3 HA1 HT hr hrun hfair hb4 hx4 hx1 hx2 hj2
          have HB5 := Kit.hid (HB.out.run HW.out ((j : Int) + 1) 1)
          have HW5 := Kit.hid (run_wq HW.out b ((j : Int) + 1) 1)
          rw [HRN.out] at HRU HB5 HW5
          dsimp only at HRU HB5 HW5
          obtain ⟨M, hM⟩ : ∃ M, M = putM (ranM x 1) L0 := ⟨_, rfl⟩
          obtain ⟨b5, hb5⟩ : ∃ b5, b5 = max b (firstV M) := ⟨_, rfl⟩
          rw [← hM] at HRU HB5 HW5 HFF
          rw [← hb5] at HRU HB5
          clear hM hb5
          go_wp2_with fail
          (with_reducible refine HRU.out.mono ?_); rintro e w5 ⟨rfl, hT5⟩
          have HT5 := Kit.hid hT5
          clear hT5 HRU cr fr c0 p0 p1 p2 p3 HTS HT4 HXB
          have HA5 := Kit.hid (HAL.out _ _ _ (len + 1 + t + 1) _ HB5.out (by have := HLE.out; omega) HT5.out)
          go_wp2_with fail
          (with_reducible refine HA5.out.mono ?_); rintro e w6 ⟨vb, rfl, hvb, hb6⟩
          obtain ⟨A6, c6, rfl, hc6, _, _⟩ := own_readsS (by decide) hvb
          have HR6 := trow_cells hc6
          have HT6 := Kit.hid (HT5.out.below hb6)
          obtain ⟨y, hy⟩ : ∃ y, M[0]? = some y := by
            obtain ⟨m, hm, _⟩ := HFF.out.has 0 (by have := HLE.out; omega)
            cases M with
            | nil => cases hm
            | cons y T => exact ⟨y, rfl⟩
          obtain ⟨ad6, hA6, s0, s1, s2, s3⟩ := t_at HR6 (told_get b5 M 0 y hy)
          rw [show ad6.add (0 * 4) = ad6 from by unfold Addr.add; simp] at s0 s1 s2 s3
          dsimp only at s0 s1 s2 s3
          have hpos6 : (0 : Int) < (M.length : Int) := by
            cases M with
            | nil => cases hy
            | cons y T => simp
          have hyb := HB5.out.each y (List.mem_of_getElem? hy)
          have hb50 := HB5.out.b0
          obtain ⟨low, hlow⟩ : ∃ low, low = y.v - b5 := ⟨_, rfl⟩
          rw [← hlow] at s2
          have hlow0 : 0 ≤ low := by omega
          have hlow1 : low ≤ 2305843009213693952 := by omega
          have HNE : Hid (∀ z ∈ M, (z.v - b5) - low ≤ 1048576 / z.wt + 1) := Kit.hid (fun z hz => by have := HFF.out.near z hz y (List.mem_of_getElem? hy); omega)
          have HML : Hid (M.length ≤ 4000) := Kit.hid (by
            obtain ⟨F, hf⟩ := HT6.out.get
            have := hf.len
            have := HLE.out
            omega)
          subst hA6
          clear hvb hc6 hb6 HA5 HT5 hy hlow hyb
          go_wp2_with fail
          skip
          have hml := HML.out
          obtain ⟨wi, hwi⟩ : ∃ wi, wi = w6 := ⟨_, rfl⟩
          go_loopw [13] (fun v13 wr => ∃ j k : Nat, j ≤ M.length ∧ v13 = .int .i64 j ∧ wr = w6.drewN k) (fun j _ => M.length - (intOf j).toNat)
          case atStart => exact ⟨0, 0, by omega, rfl, rfl⟩
          case round =>
            obtain ⟨i, k, hi, rfl, rfl⟩ := hrel
            by_cases hil : i < M.length
            · obtain ⟨z, hz⟩ : ∃ z, M[i]? = some z := ⟨_, List.getElem?_eq_getElem hil⟩
              obtain ⟨ax, hax, p0, p1, p2, p3⟩ := t_at HR6 (told_get b5 M i z hz)
              obtain rfl := Option.some.inj hax
              dsimp only at p0 p1 p2 p3
              have hzb := HB5.out.each z (List.mem_of_getElem? hz)
              have hne := HNE.out z (List.mem_of_getElem? hz)
              obtain ⟨lv, hlv⟩ : ∃ lv, lv = z.v - b5 := ⟨_, rfl⟩
              rw [← hlv] at p2 hne
              obtain ⟨d, hd⟩ : ∃ d, d = 1048576 / z.wt := ⟨_, rfl⟩
              rw [← hd] at hne
              have hd0 : 0 ≤ d := by rw [hd]; exact Int.ediv_nonneg (by omega) (by omega)
              have hd1 : d ≤ 1048576 := by rw [hd]; exact Int.ediv_le_self _ (by omega)
              have hdv : Int.tdiv 1048576 z.wt = d := by rw [hd, Int.tdiv_eq_ediv_of_nonneg (by omega)]
              have hz0 : ¬ z.wt = 0 := by omega
              have hz1 : (z.wt == 0) = false := by simp; omega
              have hl0 : 0 ≤ lv := by omega
              have hl1 : lv ≤ 2305843009213693952 := by omega
              have gA : decide (d + 1 < lv - low) = false := decide_eq_false (by omega)
              have hw1 : IntKind.i64.wrap (lv - low) = lv - low := by rw [IntKind.wrap_i64]; omega
              have hw2 : IntKind.i64.wrap d = d := by rw [IntKind.wrap_i64]; omega
              have hw3 : IntKind.i64.wrap (d + 1) = d + 1 := by rw [IntKind.wrap_i64]; omega
              clear hz hzb hlv hd hne
              go_wp2_with fail
              refine wp_region_noPanic ?_
              refine wp_region_held_drew (S := fun w' => w' = (w6.drewN k).drew) (by kernel_rfl) rfl (fun hHeld => ?_)
              refine wpAnyH_take (i := 0) (hi := by simp only [List.getElem?_toArray, List.getElem?_cons_succ, List.getElem?_cons_zero]; rfl) (v := ?_) (by kernel_rfl) (by kernel_rfl) (by kernel_rfl) (fun _ _ _ h => h) (Or.inl ⟨by rfl, ?_⟩) (by assumption) ?_
              rotate_left
              · (intro w hSw; (try dsimp only at hSw); go_simp; first | done | with_reducible rfl)
              try simp only [Act.put, List.setIfInBounds_toArray, List.set_cons_zero, List.set_cons_succ]
              refine wpAnyH_take (i := 1) (hi := by simp only [List.getElem?_toArray, List.getElem?_cons_succ, List.getElem?_cons_zero]; rfl) (v := ?_) (by kernel_rfl) (by kernel_rfl) (by kernel_rfl) (fun _ _ _ h => h) (Or.inl ⟨by rfl, ?_⟩) (by assumption) ?_
              rotate_left
              · (intro w hSw; (try dsimp only at hSw); go_simp; first | done | with_reducible rfl)
              try simp only [Act.put, List.setIfInBounds_toArray, List.set_cons_zero, List.set_cons_succ]
              refine wpAnyH_take (i := 2) (hi := by simp only [List.getElem?_toArray, List.getElem?_cons_succ, List.getElem?_cons_zero]; rfl) (v := ?_) (by kernel_rfl) (by kernel_rfl) (by kernel_rfl) (fun _ _ _ h => h) (Or.inl ⟨by rfl, ?_⟩) (by assumption) ?_
              rotate_left
              · (intro w hSw; (try dsimp only at hSw); subst hSw; go_simp; first | done | with_reducible rfl)
              try simp only [Act.put, List.setIfInBounds_toArray, List.set_cons_zero, List.set_cons_succ]
              refine wpAnyH_take (i := 3) (hi := by simp only [List.getElem?_toArray, List.getElem?_cons_succ, List.getElem?_cons_zero]; rfl) (v := ?_) (by kernel_rfl) (by kernel_rfl) (by kernel_rfl) (fun _ _ _ h => h) (Or.inl ⟨by rfl, ?_⟩) (by assumption) ?_
              rotate_left
              · (intro w hSw; (try dsimp only at hSw); go_simp; first | done | with_reducible rfl)
              try simp only [Act.put, List.setIfInBounds_toArray, List.set_cons_zero, List.set_cons_succ]
              refine wpAnyH_take (i := 4) (hi := by simp only [List.getElem?_toArray, List.getElem?_cons_succ, List.getElem?_cons_zero]; rfl) (v := ?_) (by kernel_rfl) (by kernel_rfl) (by kernel_rfl) (fun _ _ _ h => h) (Or.inl ⟨by rfl, ?_⟩) (by assumption) ?_
              rotate_left
              · (intro w hSw; (try dsimp only at hSw); go_simp; first | done | with_reducible rfl)
              try simp only [Act.put, List.setIfInBounds_toArray, List.set_cons_zero, List.set_cons_succ]
              refine wpAnyH_take (i := 5) (hi := by simp only [List.getElem?_toArray, List.getElem?_cons_succ, List.getElem?_cons_zero]; rfl) (v := ?_) (by kernel_rfl) (by kernel_rfl) (by kernel_rfl) (fun _ _ _ h => h) (Or.inl ⟨by rfl, ?_⟩) (by assumption) ?_
              rotate_left
              · (intro w hSw; (try dsimp only at hSw); subst hSw; go_simp; first | done | with_reducible rfl)
              try simp only [Act.put, List.setIfInBounds_toArray, List.set_cons_zero, List.set_cons_succ]
              refine wpAnyH_take (i := 6) (hi := by simp only [List.getElem?_toArray, List.getElem?_cons_succ, List.getElem?_cons_zero]; rfl) (v := ?_) (by kernel_rfl) (by kernel_rfl) (by kernel_rfl) (fun _ _ _ h => h) (Or.inl ⟨by rfl, ?_⟩) (by assumption) ?_
              rotate_left
              · (intro w hSw; (try dsimp only at hSw); go_simp; first | done | with_reducible rfl)
              try simp only [Act.put, List.setIfInBounds_toArray, List.set_cons_zero, List.set_cons_succ]
              refine wpAnyH_take (i := 7) (hi := by simp only [List.getElem?_toArray, List.getElem?_cons_succ, List.getElem?_cons_zero]; rfl) (v := ?_) (by kernel_rfl) (by kernel_rfl) (by kernel_rfl) (fun _ _ _ h => h) (Or.inl ⟨by rfl, ?_⟩) (by assumption) ?_
              rotate_left
              · (intro w hSw; (try dsimp only at hSw); go_simp; first | done | with_reducible rfl)
              try simp only [Act.put, List.setIfInBounds_toArray, List.set_cons_zero, List.set_cons_succ]
              refine wpAnyH_take (i := 8) (hi := by simp only [List.getElem?_toArray, List.getElem?_cons_succ, List.getElem?_cons_zero]; rfl) (v := ?_) (by kernel_rfl) (by kernel_rfl) (by kernel_rfl) (fun _ _ _ h => h) (Or.inl ⟨by rfl, ?_⟩) (by assumption) ?_
              rotate_left
              · (intro w hSw; (try dsimp only at hSw); go_simp; first | done | with_reducible rfl)
              try simp only [Act.put, List.setIfInBounds_toArray, List.set_cons_zero, List.set_cons_succ]
              refine wpAnyH_take (i := 9) (hi := by simp only [List.getElem?_toArray, List.getElem?_cons_succ, List.getElem?_cons_zero]; rfl) (v := ?_) (by kernel_rfl) (by kernel_rfl) (by kernel_rfl) (fun _ _ _ h => h) (Or.inl ⟨by rfl, ?_⟩) (by assumption) ?_
              rotate_left
              · (intro w hSw; (try dsimp only at hSw); go_simp; first | done | with_reducible rfl)
              try simp only [Act.put, List.setIfInBounds_toArray, List.set_cons_zero, List.set_cons_succ]
              refine wpAnyH_take (i := 10) (hi := by simp only [List.getElem?_toArray, List.getElem?_cons_succ, List.getElem?_cons_zero]; rfl) (v := ?_) (by kernel_rfl) (by kernel_rfl) (by kernel_rfl) (fun _ _ _ h => h) (Or.inl ⟨by rfl, ?_⟩) (by assumption) ?_
              rotate_left
              · (intro w hSw; (try dsimp only at hSw); subst hSw; go_simp; first | done | with_reducible rfl)
              try simp only [Act.put, List.setIfInBounds_toArray, List.set_cons_zero, List.set_cons_succ]
              refine wpAnyH_take (i := 11) (hi := by simp only [List.getElem?_toArray, List.getElem?_cons_succ, List.getElem?_cons_zero]; rfl) (v := ?_) (by kernel_rfl) (by kernel_rfl) (by kernel_rfl) (fun _ _ _ h => h) (Or.inl ⟨by rfl, ?_⟩) (by assumption) ?_
              rotate_left
              · (intro w hSw; (try dsimp only at hSw); go_simp; first | done | with_reducible rfl)
              try simp only [Act.put, List.setIfInBounds_toArray, List.set_cons_zero, List.set_cons_succ]
              refine wpAnyH_take (i := 12) (hi := by simp only [List.getElem?_toArray, List.getElem?_cons_succ, List.getElem?_cons_zero]; rfl) (v := ?_) (by kernel_rfl) (by kernel_rfl) (by kernel_rfl) (fun _ _ _ h => h) (Or.inl ⟨by rfl, ?_⟩) (by assumption) ?_
              rotate_left
              · (intro w hSw; (try dsimp only at hSw); subst hSw; go_simp; first | done | with_reducible rfl)
              try simp only [Act.put, List.setIfInBounds_toArray, List.set_cons_zero, List.set_cons_succ]
              refine wpAnyH_take (i := 13) (hi := by simp only [List.getElem?_toArray, List.getElem?_cons_succ, List.getElem?_cons_zero]; rfl) (v := ?_) (by kernel_rfl) (by kernel_rfl) (by kernel_rfl) (fun _ _ _ h => h) (Or.inl ⟨by rfl, ?_⟩) (by assumption) ?_
              rotate_left
              · (intro w hSw; (try dsimp only at hSw); go_simp; first | done | with_reducible rfl)
              try simp only [Act.put, List.setIfInBounds_toArray, List.set_cons_zero, List.set_cons_succ]
              refine wpAnyH_take (i := 14) (hi := by simp only [List.getElem?_toArray, List.getElem?_cons_succ, List.getElem?_cons_zero]; rfl) (v := ?_) (by kernel_rfl) (by kernel_rfl) (by kernel_rfl) (fun _ _ _ h => h) (Or.inl ⟨by rfl, ?_⟩) (by assumption) ?_
              rotate_left
              · (intro w hSw; (try dsimp only at hSw); go_simp; first | done | with_reducible rfl)
              try simp only [Act.put, List.setIfInBounds_toArray, List.set_cons_zero, List.set_cons_succ]
              refine wpAnyH_take (i := 15) (hi := by simp only [List.getElem?_toArray, List.getElem?_cons_succ, List.getElem?_cons_zero]; rfl) (v := ?_) (by kernel_rfl) (by kernel_rfl) (by kernel_rfl) (fun _ _ _ h => h) (Or.inl ⟨by rfl, ?_⟩) (by assumption) ?_
              rotate_left
              · (intro w hSw; (try dsimp only at hSw); go_simp; first | done | with_reducible rfl)
              try simp only [Act.put, List.setIfInBounds_toArray, List.set_cons_zero, List.set_cons_succ]
              clear hHeld
              refine wpAnyH_done (by kernel_rfl) ?_ _
              refine NoPanic.normal ?_
              skip
              go_wp2
              go_roundw
              case rel => exact ⟨i + 1, _, by omega, by go_num, rfl⟩
              case measure => simp [intOf]; omega
            · obtain rfl : i = M.length := by omega
              have HTE := Kit.hid (HT6.out.below (below_drewN (Below.refl _ _) k))
              clear hil hi
              go_wp2
              go_roundw
              case rel => exact ⟨t + 1, R.set j (r + 1), M, b5, by omega, by go_num, Kit.hid (by rw [List.length_set]; exact HRL.out), Kit.hid (fun x hx => by have := HRS.out x hx; omega), HFF, HW5, HB5, HTE⟩
              case measure => simp [intOf]; omega
        · obtain rfl : t = tn := by omega
          have HGE : Hid (∀ (i : Nat) w', i < len → Tk w1 w' q g R L b (len + 1 + t) → ∃ m r, m ∈ L ∧ R[i]? = some r ∧ (m.v * m.wt + m.rem = 1048576 * r) ∧ 0 ≤ r ∧ r ≤ 255 ∧ Calls Try.prog 15 #[.pointer (some ⟨q, 0, none⟩), .int .i64 ((i : Int) + 1)] w' fun e w'' => e = .returned (.tuple #[.agg #[.int .i64 ((i : Int) + 1), .int .i64 m.wt, .int .i64 (m.v - b), .int .i64 m.rem], .bool true]) ∧ Below w'.heap.size w' w'') := Kit.hid (fun i w' hi h => by
            obtain ⟨F, hf⟩ := h.get
            obtain ⟨m, hm, hid⟩ := HF.out.has i hi
            obtain ⟨r, hr, he⟩ := HF.out.run m hm
            have hr2 := HRB.out r (List.mem_of_getElem? hr)
            rw [hid, show ((i : Int) + 1 - 1).toNat = i by omega] at hr
            have hg : get L ((i : Int) + 1) = some m := by rw [← hid]; exact get_of HW.out hm
            have hle := HLE.out
            have hc := get_any ((i : Int) + 1) hf HB.out (by omega) (by omega)
            rw [hg] at hc
            refine ⟨m, r, hm, hr, he, hr2.1, by omega, ?_⟩
            have e : gv (some m) b = .agg #[.int .i64 ((i : Int) + 1), .int .i64 m.wt, .int .i64 (m.v - b), .int .i64 m.rem] := by
              show tv m b = _
              unfold tv
              rw [hid]
            rw [e] at hc
            exact hc)
          have HBA : Hid (∀ w', Tk w1 w' q g R L b (len + 1 + t) → Calls Try.prog 16 #[.pointer (some ⟨q, 0, none⟩)] w' fun e w'' => e = .returned (.int .i64 b) ∧ Below w'.heap.size w' w'') := Kit.hid (fun w' h => by
            obtain ⟨F, hf⟩ := h.get
            exact base_any hf)
          obtain ⟨wz, hwz⟩ : ∃ wz, wz = wr := ⟨_, rfl⟩
          rw [← hwz] at HT ⊢
          clear hwz ht hlt
          go_wp2_with fail
          go_loopw [14] (fun v14 wr => ∃ i : Nat, i ≤ len ∧ v14 = .int .i64 i ∧ Hid (Tk w1 wr q g R L b (len + 1 + t))) (fun i _ => len - (intOf i).toNat)
          case atStart => exact ⟨0, by omega, rfl, HT⟩
          case round =>
            obtain ⟨i, hi, rfl, HI⟩ := hrel
            by_cases hil : i < len
            · obtain ⟨m, r, hm, hr, he, hr0, hr5, hc⟩ := HGE.out i _ hil HI.out
              have hmb := HB.out.each m hm
              have HC := Kit.hid hc
              have hb0 := HB.out.b0
              have hb1 := HB.out.b1
              obtain ⟨lv, hlv⟩ : ∃ lv, lv = m.v - b := ⟨_, rfl⟩
              obtain ⟨pr, hpr⟩ : ∃ pr, pr = m.v * m.wt := ⟨_, rfl⟩
              have hlv0 : 0 ≤ lv := by omega
              have hlv1 : lv ≤ 2305843009213693952 := by omega
              rw [← hlv] at HC
              have eb : b + lv = m.v := by omega
              have hpr0 : 0 ≤ pr := by rw [hpr]; exact Int.mul_nonneg (by omega) (by omega)
              have hprE : pr + m.rem = 1048576 * r := by rw [hpr]; exact he
              have hpr1 : pr ≤ 1048576 * 255 := by omega
              have k1 : IntKind.i64.wrap (b + lv) = m.v := by rw [IntKind.wrap_i64]; omega
              have k2 : IntKind.i64.wrap (m.v * m.wt) = pr := by rw [← hpr, IntKind.wrap_i64]; omega
              have k3 : IntKind.i64.wrap (pr + m.rem) = pr + m.rem := by rw [IntKind.wrap_i64]; omega
              have k4 : IntKind.i64.wrap (1048576 * r) = 1048576 * r := by rw [IntKind.wrap_i64]; omega
              have k5 : (pr + m.rem != 1048576 * r) = false := by rw [hprE]; simp
              have HRR := Kit.hid hr
              clear hm hr he hc hb0 hb1 hmb hlv hpr hprE hpr1 hpr0 hlv0 hlv1 eb
              go_wp2_with fail
              (with_reducible refine HC.out.mono ?_); rintro e w8 ⟨rfl, hb8⟩
              have HT8 := Kit.hid (HI.out.below hb8)
              clear hb8 HC
              obtain ⟨wX, hwX⟩ : ∃ wX, wX = w8.alloc (.cells #[.int .i64 ((i : Int) + 1), .int .i64 m.wt, .int .i64 lv, .int .i64 m.rem] 32) := ⟨_, rfl⟩
              have HTX : Hid (Tk w1 wX q g R L b (len + 1 + t)) := Kit.hid (by rw [hwX]; exact HT8.out.below ((Below.refl _ _).alloc (Nat.le_refl _) _))
              have HXX : Hid (wX.heap[w8.heap.size]? = some (.cells #[.int .i64 ((i : Int) + 1), .int .i64 m.wt, .int .i64 lv, .int .i64 m.rem] 32 (0, 0))) := Kit.hid (by rw [hwX]; exact blk_new _ _)
              have HSX : Hid (∀ w', Below wX.heap.size wX w' → w'.cell? ⟨w8.heap.size, 1, none⟩ = some (.int .i64 m.wt) ∧ w'.cell? ⟨w8.heap.size, 2, none⟩ = some (.int .i64 lv) ∧ w'.cell? ⟨w8.heap.size, 3, none⟩ = some (.int .i64 m.rem) ∧ w'.cell? ⟨g, i, none⟩ = some (.int .i64 r)) := Kit.hid (fun w' hb => by
                have hx' := blk_below HXX.out hb
                exact ⟨blk_cell hx' 1, blk_cell hx' 2, blk_cell hx' 3, (HTX.out.below hb).cell HRR.out⟩)
              clear HT8
              go_wp2_with fail
              rw [← hwX]
              clear hwX HXX
              have hil2 : (i : Int) < (len : Int) := by omega
              refine wp_region_noPanic ?_
              refine wp_region_held_drew (S := fun w' => Below wX.heap.size wX w') (by kernel_rfl) (Below.refl _ _).drew (fun hHeld => ?_)
              refine wpAnyH_take (i := 0) (hi := by simp only [List.getElem?_toArray, List.getElem?_cons_succ, List.getElem?_cons_zero]; rfl) (v := ?_) (by kernel_rfl) (by kernel_rfl) (by kernel_rfl) (fun _ _ _ h => h) (Or.inl ⟨by rfl, ?_⟩) (by assumption) ?_
              rotate_left
              · (intro w hSw; (try dsimp only at hSw); go_simp; first | done | with_reducible rfl)
              try simp only [Act.put, List.setIfInBounds_toArray, List.set_cons_zero, List.set_cons_succ]
              refine wpAnyH_take (i := 1) (hi := by simp only [List.getElem?_toArray, List.getElem?_cons_succ, List.getElem?_cons_zero]; rfl) (v := ?_) (by kernel_rfl) (by kernel_rfl) (by kernel_rfl) (fun _ _ _ h => h) (Or.inl ⟨by rfl, ?_⟩) (by assumption) ?_
              rotate_left
              · (intro w hSw; (try dsimp only at hSw); go_simp; first | done | with_reducible rfl)
              try simp only [Act.put, List.setIfInBounds_toArray, List.set_cons_zero, List.set_cons_succ]
              refine wpAnyH_take (i := 2) (hi := by simp only [List.getElem?_toArray, List.getElem?_cons_succ, List.getElem?_cons_zero]; rfl) (v := ?_) (by kernel_rfl) (by kernel_rfl) (by kernel_rfl) (fun _ _ _ h => h) (Or.inl ⟨by rfl, ?_⟩) (by assumption) ?_
              rotate_left
              · (intro w hSw; (try dsimp only at hSw); go_simp; first | done | with_reducible rfl)
              try simp only [Act.put, List.setIfInBounds_toArray, List.set_cons_zero, List.set_cons_succ]
              refine wpAnyH_take (i := 3) (hi := by simp only [List.getElem?_toArray, List.getElem?_cons_succ, List.getElem?_cons_zero]; rfl) (v := ?_) (by kernel_rfl) (by kernel_rfl) (by kernel_rfl) (fun _ _ _ h => h) (Or.inl ⟨by rfl, ?_⟩) (by assumption) ?_
              rotate_left
              · (intro w hSw; (try dsimp only at hSw); go_simp; first | done | with_reducible rfl)
              try simp only [Act.put, List.setIfInBounds_toArray, List.set_cons_zero, List.set_cons_succ]
              refine wpAnyH_take (i := 5) (hi := by simp only [List.getElem?_toArray, List.getElem?_cons_succ, List.getElem?_cons_zero]; rfl) (v := ?_) (by kernel_rfl) (by kernel_rfl) (by kernel_rfl) (fun _ _ _ h => h) (Or.inl ⟨by rfl, ?_⟩) (by assumption) ?_
              rotate_left
              · (intro w hSw; (try dsimp only at hSw); go_simp; first | done | with_reducible rfl)
              try simp only [Act.put, List.setIfInBounds_toArray, List.set_cons_zero, List.set_cons_succ]
              refine wpAnyH_take (i := 6) (hi := by simp only [List.getElem?_toArray, List.getElem?_cons_succ, List.getElem?_cons_zero]; rfl) (v := ?_) (by kernel_rfl) (by kernel_rfl) (by kernel_rfl) (fun _ _ _ h => h) (Or.inl ⟨by rfl, ?_⟩) (by assumption) ?_
              rotate_left
              · (intro w hSw; (try dsimp only at hSw); go_simp; first | done | with_reducible rfl)
              try simp only [Act.put, List.setIfInBounds_toArray, List.set_cons_zero, List.set_cons_succ]
              refine wpAnyH_take (i := 7) (hi := by simp only [List.getElem?_toArray, List.getElem?_cons_succ, List.getElem?_cons_zero]; rfl) (v := ?_) (by kernel_rfl) (by kernel_rfl) (by kernel_rfl) (fun _ _ _ h => h) (Or.inl ⟨by rfl, ?_⟩) (by assumption) ?_
              rotate_left
              · (intro w hSw; (try dsimp only at hSw); (obtain ⟨x0, x1, x2, x3⟩ := HSX.out _ hSw); go_simp; first | done | with_reducible rfl)
              try simp only [Act.put, List.setIfInBounds_toArray, List.set_cons_zero, List.set_cons_succ]
              refine wpAnyH_take (i := 9) (hi := by simp only [List.getElem?_toArray, List.getElem?_cons_succ, List.getElem?_cons_zero]; rfl) (v := ?_) (by kernel_rfl) (by kernel_rfl) (by kernel_rfl) (fun _ _ _ h => h) (Or.inl ⟨by rfl, ?_⟩) (by assumption) ?_
              rotate_left
              · (intro w hSw; (try dsimp only at hSw); go_simp; first | done | with_reducible rfl)
              try simp only [Act.put, List.setIfInBounds_toArray, List.set_cons_zero, List.set_cons_succ]
              refine wpAnyH_take (i := 10) (hi := by simp only [List.getElem?_toArray, List.getElem?_cons_succ, List.getElem?_cons_zero]; rfl) (v := ?_) (by kernel_rfl) (by kernel_rfl) (by kernel_rfl) (fun _ _ _ h => h) (Or.inl ⟨by rfl, ?_⟩) (by assumption) ?_
              rotate_left
              · (intro w hSw; (try dsimp only at hSw); (obtain ⟨x0, x1, x2, x3⟩ := HSX.out _ hSw); go_simp; first | done | with_reducible rfl)
              try simp only [Act.put, List.setIfInBounds_toArray, List.set_cons_zero, List.set_cons_succ]
              refine wpAnyH_take (i := 12) (hi := by simp only [List.getElem?_toArray, List.getElem?_cons_succ, List.getElem?_cons_zero]; rfl) (v := ?_) (by kernel_rfl) (by kernel_rfl) (by kernel_rfl) (fun _ _ _ h => h) (Or.inl ⟨by rfl, ?_⟩) (by assumption) ?_
              rotate_left
              · (intro w hSw; (try dsimp only at hSw); go_simp; first | done | with_reducible rfl)
              try simp only [Act.put, List.setIfInBounds_toArray, List.set_cons_zero, List.set_cons_succ]
              refine wpAnyH_take (i := 13) (hi := by simp only [List.getElem?_toArray, List.getElem?_cons_succ, List.getElem?_cons_zero]; rfl) (v := ?_) (by kernel_rfl) (by kernel_rfl) (by kernel_rfl) (fun _ _ _ h => h) (Or.inl ⟨by rfl, ?_⟩) (by assumption) ?_
              rotate_left
              · (intro w hSw; (try dsimp only at hSw); go_simp; first | done | with_reducible rfl)
              try simp only [Act.put, List.setIfInBounds_toArray, List.set_cons_zero, List.set_cons_succ]
              refine wpAnyH_take (i := 14) (hi := by simp only [List.getElem?_toArray, List.getElem?_cons_succ, List.getElem?_cons_zero]; rfl) (v := ?_) (by kernel_rfl) (by kernel_rfl) (by kernel_rfl) (fun _ _ _ h => h) (Or.inl ⟨by rfl, ?_⟩) (by assumption) ?_
              rotate_left
              · (intro w hSw; (try dsimp only at hSw); (obtain ⟨x0, x1, x2, x3⟩ := HSX.out _ hSw); go_simp; first | done | with_reducible rfl)
              try simp only [Act.put, List.setIfInBounds_toArray, List.set_cons_zero, List.set_cons_succ]
              refine wpAnyH_take (i := 16) (hi := by simp only [List.getElem?_toArray, List.getElem?_cons_succ, List.getElem?_cons_zero]; rfl) (v := ?_) (by kernel_rfl) (by kernel_rfl) (by kernel_rfl) (fun _ _ _ h => h) (Or.inl ⟨by rfl, ?_⟩) (by assumption) ?_
              rotate_left
              · (intro w hSw; (try dsimp only at hSw); go_simp; first | done | with_reducible rfl)
              try simp only [Act.put, List.setIfInBounds_toArray, List.set_cons_zero, List.set_cons_succ]
              refine wpAnyH_take (i := 17) (hi := by simp only [List.getElem?_toArray, List.getElem?_cons_succ, List.getElem?_cons_zero]; rfl) (v := ?_) (by kernel_rfl) (by kernel_rfl) (by kernel_rfl) (fun _ _ _ h => h) (Or.inl ⟨by rfl, ?_⟩) (by assumption) ?_
              rotate_left
              · (intro w hSw; (try dsimp only at hSw); go_simp; first | done | with_reducible rfl)
              try simp only [Act.put, List.setIfInBounds_toArray, List.set_cons_zero, List.set_cons_succ]
              refine wpAnyH_take (i := 18) (hi := by simp only [List.getElem?_toArray, List.getElem?_cons_succ, List.getElem?_cons_zero]; rfl) (v := ?_) (by kernel_rfl) (by kernel_rfl) (by kernel_rfl) (fun _ _ _ h => h) (Or.inl ⟨by rfl, ?_⟩) (by assumption) ?_
              rotate_left
              · (intro w hSw; (try dsimp only at hSw); (obtain ⟨x0, x1, x2, x3⟩ := HSX.out _ hSw); go_simp; first | done | with_reducible rfl)
              try simp only [Act.put, List.setIfInBounds_toArray, List.set_cons_zero, List.set_cons_succ]
              refine wpAnyH_take (i := 19) (hi := by simp only [List.getElem?_toArray, List.getElem?_cons_succ, List.getElem?_cons_zero]; rfl) (v := ?_) (by kernel_rfl) (by kernel_rfl) (by kernel_rfl) (fun _ _ _ h => h) (Or.inl ⟨by rfl, ?_⟩) (by assumption) ?_
              rotate_left
              · (intro w hSw; (try dsimp only at hSw); (obtain ⟨x0, x1, x2, x3⟩ := HSX.out _ hSw); go_simp; first | done | with_reducible rfl)
              try simp only [Act.put, List.setIfInBounds_toArray, List.set_cons_zero, List.set_cons_succ]
              refine wpAnyH_take (i := 20) (hi := by simp only [List.getElem?_toArray, List.getElem?_cons_succ, List.getElem?_cons_zero]; rfl) (v := ?_) (by kernel_rfl) (by kernel_rfl) (by kernel_rfl) (fun _ _ _ h => h) (Or.inl ⟨by rfl, ?_⟩) (by assumption) ?_
              rotate_left
              · (intro w hSw; (try dsimp only at hSw); go_simp; first | done | with_reducible rfl)
              try simp only [Act.put, List.setIfInBounds_toArray, List.set_cons_zero, List.set_cons_succ]
              refine wpAnyH_ready (rs := [4]) (by kernel_rfl) (by simp) ?_
              refine AllReadyH.cons (ho := by simp only [List.getElem?_toArray, List.getElem?_cons_succ, List.getElem?_cons_zero]; rfl) (fun K hK => ?_) (AllReadyH.nil)
              go_simp
              go_at_call 16; (with_reducible refine (HBA.out _ (HTX.out.below (Below.refl _ _).drew)).mono ?_); rintro e w9 ⟨rfl, hb9⟩
              have HB9 : Hid (Below wX.heap.size wX w9) := Kit.hid (hHeld.trans (hb9.mono hHeld.size))
              have HT9 := Kit.hid (HTX.out.below HB9.out)
              clear hb9
              go_wp2_with fail
              refine hK.out _ _ ?_ (fun hHeldN => ?_)
              · exact HB9.out
              clear hHeld
              have hHeld := hHeldN
              clear hHeldN
              clear hK K
              try simp only [Act.put, List.setIfInBounds_toArray, List.set_cons_zero, List.set_cons_succ]
              refine wpAnyH_take (i := 8) (hi := by simp only [List.getElem?_toArray, List.getElem?_cons_succ, List.getElem?_cons_zero]; rfl) (v := ?_) (by kernel_rfl) (by kernel_rfl) (by kernel_rfl) (fun _ _ _ h => h) (Or.inl ⟨by rfl, ?_⟩) (by assumption) ?_
              rotate_left
              · (intro w hSw; (try dsimp only at hSw); go_simp; first | done | with_reducible rfl)
              try simp only [Act.put, List.setIfInBounds_toArray, List.set_cons_zero, List.set_cons_succ]
              refine wpAnyH_take (i := 11) (hi := by simp only [List.getElem?_toArray, List.getElem?_cons_succ, List.getElem?_cons_zero]; rfl) (v := ?_) (by kernel_rfl) (by kernel_rfl) (by kernel_rfl) (fun _ _ _ h => h) (Or.inl ⟨by rfl, ?_⟩) (by assumption) ?_
              rotate_left
              · (intro w hSw; (try dsimp only at hSw); go_simp; first | done | with_reducible rfl)
              try simp only [Act.put, List.setIfInBounds_toArray, List.set_cons_zero, List.set_cons_succ]
              refine wpAnyH_take (i := 15) (hi := by simp only [List.getElem?_toArray, List.getElem?_cons_succ, List.getElem?_cons_zero]; rfl) (v := ?_) (by kernel_rfl) (by kernel_rfl) (by kernel_rfl) (fun _ _ _ h => h) (Or.inl ⟨by rfl, ?_⟩) (by assumption) ?_
              rotate_left
              · (intro w hSw; (try dsimp only at hSw); go_simp; first | done | with_reducible rfl)
              try simp only [Act.put, List.setIfInBounds_toArray, List.set_cons_zero, List.set_cons_succ]
              refine wpAnyH_take (i := 21) (hi := by simp only [List.getElem?_toArray, List.getElem?_cons_succ, List.getElem?_cons_zero]; rfl) (v := ?_) (by kernel_rfl) (by kernel_rfl) (by kernel_rfl) (fun _ _ _ h => h) (Or.inl ⟨by rfl, ?_⟩) (by assumption) ?_
              rotate_left
              · (intro w hSw; (try dsimp only at hSw); go_simp; first | done | with_reducible rfl)
              try simp only [Act.put, List.setIfInBounds_toArray, List.set_cons_zero, List.set_cons_succ]
              refine wpAnyH_take (i := 22) (hi := by simp only [List.getElem?_toArray, List.getElem?_cons_succ, List.getElem?_cons_zero]; rfl) (v := ?_) (by kernel_rfl) (by kernel_rfl) (by kernel_rfl) (fun _ _ _ h => h) (Or.inl ⟨by rfl, ?_⟩) (by assumption) ?_
              rotate_left
              · (intro w hSw; (try dsimp only at hSw); go_simp; first | done | with_reducible rfl)
              try simp only [Act.put, List.setIfInBounds_toArray, List.set_cons_zero, List.set_cons_succ]
              clear hHeld
              refine wpAnyH_done (by kernel_rfl) ?_ _
              refine NoPanic.normal ?_
              skip
              go_wp2
              go_roundw
              case rel => exact ⟨i + 1, by omega, by go_num, HT9⟩
              case measure => simp [intOf]; omega
            · obtain rfl : i = len := by omega
              have HE := Kit.hid (HB1.out.trans (HI.out.to.mono HB1.out.size))
              go_wp2
              go_ret
              exact ⟨rfl, HE.out⟩
end Go.Proofs.Ytggcbeoinmnopaa.Qu
