/- The walks of made and put. -/
import Derived.Test.YtpgfenelckonoaaShC
namespace Go.Proofs.Ytpgfenelckonoaa.Sh
open Go.RowKit Go.Proofs.Ytpgfenelckonoaa.Kit Go.Proofs.Ytpgfenelckonoaa.ShM
set_option linter.unusedVariables false
set_option linter.unusedSimpArgs false
theorem own_shrink {w : World} {base : Nat} {e : TypeId} {size g n cap : Nat} {xs : List Value} (h : w.ownsRow base e size (.slice (some ⟨g, 0, none⟩) n cap) n xs) (m : Nat) (hm : m ≤ n) : w.ownsRow base e size (.slice (some ⟨g, 0, none⟩) m cap) m (xs.take (m * size)) := by
  have hms : m * size ≤ n * size := Nat.mul_le_mul_right _ hm
  refine ⟨by rw [List.length_take, h.1]; omega, ?_⟩
  rcases h.2 with ⟨h', _⟩ | ⟨g', cap', cur, h', hb, hg, hnc, hcm, hcs, htake⟩
  · simp at h'
  · simp only [Value.slice.injEq, Option.some.injEq, Addr.mk.injEq, and_true, true_and] at h'
    obtain ⟨rfl, rfl⟩ := h'
    exact .inr ⟨g, cap, cur, rfl, hb, hg, Nat.le_trans hm hnc, hcm, hcs, by rw [← htake, List.take_take, Nat.min_eq_left hms]⟩
section
variable {w0 w : World} {S0 : Nat → Prop} {p gl cl : Nat} {vf : Value} {L : List Nd} {top : Nat} {F : List Nat}
/-- A store into the variable free. -/
theorem Sh.fset {vf' : Value} {F' : List Nat} (h : Sh w0 S0 w p gl cl vf L top F) (hv : w.ownsRow 0 3 1 vf' F'.length (F'.map fun (n : Nat) => Value.int .i64 (n : Int))) (h1 : vf'.ownBlock ≠ some p) (h2 : vf'.ownBlock ≠ some gl) (h3 : ∀ k, vf'.ownBlock = some k → Ext S0 w0 k) :
    Sh w0 S0 (w.setCell ⟨p, 2, none⟩ vf') p gl cl vf' L top F' := by
  have hgb : w.grownBy (w.setCell ⟨p, 2, none⟩ vf') (some p) := ⟨rfl, rfl, rfl, by simp [World.setCell], fun k hk hn => Below.heap_setCell w ⟨p, 2, none⟩ _ k (fun e => hn (by rw [e]))⟩
  exact ⟨blk_put h.at_ 2 _ rfl, own_keptS h.row hgb (.inr (by intro e; exact h.gp (Option.some.inj e))), own_keptS hv hgb (.inr h1), h.gp, h1, h2, h.inp, h.ing, h3, h.kept.setCell (a := ⟨p, 2, none⟩) h.inp _⟩
/-- A node stored whole. -/
theorem Sh.nfill (h : Sh w0 S0 w p gl cl vf L top F) {k : Nat} {n : Nd} (hk : L[k]? = some n) (x : It) :
    Sh w0 S0 ((((((w.setCell ⟨gl, k * 6, none⟩ (.int .i64 x.key)).setCell ⟨gl, k * 6 + 1, none⟩ (.int .i64 x.id)).setCell ⟨gl, k * 6 + 2, none⟩ (.int .i64 0)).setCell ⟨gl, k * 6 + 3, none⟩ (.int .i64 0)).setCell ⟨gl, k * 6 + 4, none⟩ (.int .i64 1)).setCell ⟨gl, k * 6 + 5, none⟩ (.int .i64 1)) p gl cl vf (L.set k (ndOf x .nil .nil)) top F := by
  have hlt := (List.getElem?_eq_some_iff.1 hk).1
  have s0 := h.nset (n' := { n with x := ⟨x.key, n.x.id⟩ }) (v := .int .i64 x.key) hk (k := 0) (by decide) rfl
  have s1 := s0.nset (i := k) (n := { n with x := ⟨x.key, n.x.id⟩ }) (n' := { n with x := x }) (v := .int .i64 x.id) (k := 1) (by rw [List.getElem?_set_self hlt]) (by decide) rfl
  rw [List.set_set] at s1
  have s2 := s1.nset (i := k) (n := { n with x := x }) (n' := { n with x := x, low := 0 }) (v := .int .i64 0) (k := 2) (by rw [List.getElem?_set_self hlt]) (by decide) rfl
  rw [List.set_set] at s2
  have s3 := s2.nset (i := k) (n := { n with x := x, low := 0 }) (n' := { n with x := x, low := 0, high := 0 }) (v := .int .i64 0) (k := 3) (by rw [List.getElem?_set_self hlt]) (by decide) rfl
  rw [List.set_set] at s3
  have s4 := s3.nset (i := k) (n := { n with x := x, low := 0, high := 0 }) (n' := { n with x := x, low := 0, high := 0, many := 1 }) (v := .int .i64 1) (k := 4) (by rw [List.getElem?_set_self hlt]) (by decide) rfl
  rw [List.set_set] at s4
  have s5 := s4.nset (i := k) (n := { n with x := x, low := 0, high := 0, many := 1 }) (n' := ndOf x .nil .nil) (v := .int .i64 1) (k := 5) (by rw [List.getElem?_set_self hlt]) (by decide) rfl
  rw [List.set_set] at s5
  exact s5
/-- The row of nodes, appended to, and stored. -/
theorem Sh.lset {w' : World} (h : Sh w0 S0 w p gl cl vf L top F) {g' c' : Nat} {n : Nd} (hown : w'.ownsRow 0 124 6 (.slice (some ⟨g', 0, none⟩) (L.length + 1) c') (L.length + 1) (flatN L ++ flatN [n])) (hg : w.grownBy w' (some gl)) (hc : g' = gl ∨ g' = w.heap.size) :
    Sh w0 S0 (w'.setCell ⟨p, 0, none⟩ (.slice (some ⟨g', 0, none⟩) (L.length + 1) c')) p g' c' vf (L ++ [n]) top F := by
  have hp := h.plt
  have hgp : g' ≠ p := by
    rcases hc with e | e
    · rw [e]; exact h.gp
    · omega
  have hfg : vf.ownBlock ≠ some g' := by
    rcases hc with e | e
    · rw [e]; exact h.fg
    · intro e2; have := h.flt g' e2; omega
  have hing : Ext S0 w0 g' := by
    rcases hc with e | e
    · rw [e]; exact h.ing
    · exact .inr (by rw [e]; exact h.kept.size)
  have hat : w'.heap[p]? = some (.cells #[.slice (some ⟨gl, 0, none⟩) L.length cl, .int .i64 (top : Int), vf] 122 (0, 0)) := (hg.block p hp (fun e => h.gp (Option.some.inj e).symm)).trans h.at_
  have hgb : w'.grownBy (w'.setCell ⟨p, 0, none⟩ (.slice (some ⟨g', 0, none⟩) (L.length + 1) c')) (some p) := ⟨rfl, rfl, rfl, by simp [World.setCell], fun k hk hn => Below.heap_setCell w' ⟨p, 0, none⟩ _ k (fun e => hn (by rw [e]))⟩
  have hlen : (L ++ [n]).length = L.length + 1 := by simp
  refine ⟨?_, ?_, own_keptS (own_keptS h.free hg (.inr h.fg)) hgb (.inr h.fp), hgp, h.fp, hfg, h.inp, hing, h.inf, (h.kept.grown hg (fun k e => by cases e; exact h.ing)).setCell (a := ⟨p, 0, none⟩) h.inp _⟩
  · rw [hlen]; exact blk_put hat 0 _ rfl
  · rw [hlen, flatN_append]; exact own_keptS hown hgb (.inr (by intro e; exact hgp (Option.some.inj e)))
theorem infoN : (Try.prog.info? 124).map (fun i => (i.zero, i.size, i.bytes)) = some (some (.agg #[.int .i64 0, .int .i64 0, .int .i64 0, .int .i64 0, .int .i64 0, .int .i64 0]), 6, 48) := by kernel_rfl
theorem litN (w : World) (n : Nd) : Cells (w.alloc (.cells #[.int .i64 n.x.key, .int .i64 n.x.id, .int .i64 (n.low : Int), .int .i64 (n.high : Int), .int .i64 (n.many : Int), .int .i64 (n.deep : Int)] 124)) (some ⟨w.heap.size, 0, none⟩) (flatN [n]) := by
  have h := World.ownsRow_lit (base := 0) (e := 124) (size := 6) w #[.int .i64 n.x.key, .int .i64 n.x.id, .int .i64 (n.low : Int), .int .i64 (n.high : Int), .int .i64 (n.many : Int), .int .i64 (n.deep : Int)] 1 (Nat.zero_le _) (by decide) rfl
  obtain ⟨A, cap, hv, hc, _⟩ := own_readsS (by decide) h
  cases hv
  exact hc
def MadePost (w0 : World) (S0 : Nat → Prop) (p : Nat) (L : List Nd) (top : Nat) (F : List Nat) (x : It) (e : Ending) (w' : World) : Prop :=
  ∃ L' gl' cl' vf', e = .returned (.int .i64 ((fresh L.length F : Nat) : Int)) ∧ Sh w0 S0 w' p gl' cl' vf' L' top F.dropLast ∧ L'.length ≤ L.length + 1 ∧ L.length ≤ L'.length ∧ L'[fresh L.length F]? = some (ndOf x .nil .nil) ∧ ∀ j, j ≠ fresh L.length F → L'[j]? = L[j]?
theorem made_free (h : Sh w0 S0 w p gl cl vf L top F) (hlen : L.length ≤ 1099511627776) (x : It) (k : Nat) (F' : List Nat) (hF : F = F' ++ [k]) (hk : k < L.length) (hfl : F'.length ≤ 1099511627776) :
    Calls Try.prog 87 #[.pointer (some ⟨p, 0, none⟩), .agg #[.int .i64 x.key, .int .i64 x.id]] w (MadePost w0 S0 p L top F x) := by
  subst hF
  obtain ⟨p0, p1, p2, fp0, fp1, fp2⟩ := h.pcells
  have hfr := h.free
  rw [List.length_append, List.length_singleton] at hfr
  obtain ⟨gf, cf, hvf, _, hgf, hcf⟩ := own_form hfr (Nat.succ_pos _)
  subst hvf
  have ck : w.cell? ⟨gf, F'.length, none⟩ = some (.int .i64 (k : Int)) := by
    rw [World.ownsRow.cellAt hfr F'.length (by omega)]
    simp
  have hg := h.glt
  have hp := h.plt
  have hgp := h.gp
  have fr : ∀ j, w.frozen? ⟨gl, j, none⟩ = false := fun j => h.row.frozenAt j
  have fr0 := fr (k * 6)
  have fr1 := fr (k * 6 + 1)
  have fr2 := fr (k * 6 + 2)
  have fr3 := fr (k * 6 + 3)
  have fr4 := fr (k * 6 + 4)
  have fr5 := fr (k * 6 + 5)
  have z1 : (0 : Int) ≤ (k : Int) := by omega
  have y1 : (k : Int) < (L.length : Int) := by omega
  have y2 : ((F'.length : Int) + 1) ≤ (cf : Int) := by omega
  obtain ⟨nk, hnk⟩ : ∃ nk, L[k]? = some nk := ⟨_, List.getElem?_eq_getElem hk⟩
  obtain ⟨a0, a1, a2, a3, a4, a5⟩ := h.ncells hnk
  have hshr := own_shrink hfr F'.length (by omega)
  rw [List.map_append, Nat.mul_one, List.take_left' (by simp)] at hshr
  have h2 := (h.fset (vf' := .slice (some ⟨gf, 0, none⟩) F'.length cf) (F' := F') hshr h.fp h.fg h.inf).nfill hnk x
  have HS := Kit.hid h2
  have HFR : Hid (fresh L.length (F' ++ [k]) = k) := Kit.hid (by simp [fresh])
  have HLK : Hid ((L.set k (ndOf x .nil .nil))[k]? = some (ndOf x .nil .nil)) := Kit.hid (List.getElem?_set_self hk)
  clear h hfr fr hnk hshr h2
  go_enter Try.func87, Try.ntmps87
  go_wp2
  go_region
  go_wp2_with fail
  go_ret
  refine ⟨L.set k (ndOf x .nil .nil), gl, cl, .slice (some ⟨gf, 0, none⟩) F'.length cf, by rw [HFR.out]; rfl, ?_, by simp, by simp, by rw [HFR.out]; exact HLK.out, fun j hj => by rw [HFR.out] at hj; rw [List.getElem?_set_ne (Ne.symm hj)]⟩
  rw [List.dropLast_concat]
  exact ((HS.out.alloc _).alloc _).drew
theorem made_grow (h : Sh w0 S0 w p gl cl vf L top []) (hlen : L.length ≤ 1099511627776) (x : It) :
    Calls Try.prog 87 #[.pointer (some ⟨p, 0, none⟩), .agg #[.int .i64 x.key, .int .i64 x.id]] w (MadePost w0 S0 p L top [] x) := by
  obtain ⟨p0, p1, p2, fp0, fp1, fp2⟩ := h.pcells
  obtain ⟨Af, cf, hvf, _, _, _⟩ := own_reads h.free
  have HV := Kit.hid hvf
  subst hvf
  have hg := h.glt
  have hp := h.plt
  have hgp := h.gp
  have HS := Kit.hid h
  clear h
  go_enter Try.func87, Try.ntmps87
  go_wp2
  obtain ⟨w1, hw1⟩ : ∃ w1, w1 = ((w.alloc (.cells #[.int .i64 x.key, .int .i64 x.id] 107)).alloc (.cells #[.int .i64 x.key, .int .i64 x.id, .int .i64 0, .int .i64 0, .int .i64 1, .int .i64 1] 124)) := ⟨_, rfl⟩
  have hn1 : w1.heap[w.heap.size + 1]? = some (.cells #[.int .i64 x.key, .int .i64 x.id, .int .i64 0, .int .i64 0, .int .i64 1, .int .i64 1] 124 (0, 0)) := by
    have := blk_new (w.alloc (.cells #[.int .i64 x.key, .int .i64 x.id] 107)) (.cells #[.int .i64 x.key, .int .i64 x.id, .int .i64 0, .int .i64 0, .int .i64 1, .int .i64 1] 124)
    rw [World.size_alloc] at this
    rw [hw1]; exact this
  have h1 : Sh w0 S0 w1 p gl cl (.slice Af 0 cf) L top [] := by rw [hw1]; exact (HS.out.alloc _).alloc _
  have hs1 : w1.heap.size = w.heap.size + 2 := by rw [hw1]; simp
  rw [← hw1]
  obtain ⟨nb, hnb⟩ : ∃ nb, nb = w.heap.size + 1 := ⟨_, rfl⟩
  rw [← hnb] at hn1 ⊢
  have hnbl := blk_lt hn1
  have hngl : Hid (nb ≠ gl) := Kit.hid (by have := HS.out.glt; omega)
  clear hw1 p0 p1 p2 fp0 fp1 fp2 hg hp hs1
  obtain ⟨p0, p1, p2, fp0, fp1, fp2⟩ := h1.pcells
  have HN1 := Kit.hid hn1
  have HS1 := Kit.hid h1
  clear hn1 h1 hnb
  have hgl1 := HS1.out.glt
  have hA := Kit.hid (HS1.out.alloc (.cells #[.int .i64 x.key, .int .i64 x.id, .int .i64 0, .int .i64 0, .int .i64 1, .int .i64 1] 124)).drew
  have hrow := Kit.hid hA.out.row
  have hlit : Hid (Cells ((w1.alloc (.cells #[.int .i64 x.key, .int .i64 x.id, .int .i64 0, .int .i64 0, .int .i64 1, .int .i64 1] 124)).drew) (some ⟨w1.heap.size, 0, none⟩) (flatN [ndOf x .nil .nil])) := Kit.hid (litN w1 (ndOf x .nil .nil))
  refine wp_region_noPanic ?_
  refine wp_region_T (fun w' => w'.cell? ⟨p, 0, none⟩ = some (.slice (some ⟨gl, 0, none⟩) L.length cl) ∧ Hid (w'.heap[nb]? = some (.cells #[.int .i64 x.key, .int .i64 x.id, .int .i64 0, .int .i64 0, .int .i64 1, .int .i64 1] 124 (0, 0)))) 10 (by kernel_rfl) ⟨p0, HN1⟩ (fun hHeld => ?_)
  refine wpAnyT_take (i := 0) (hi := by simp only [List.getElem?_toArray, List.getElem?_cons_succ, List.getElem?_cons_zero]; rfl) (v := ?_) (by kernel_rfl) (by kernel_rfl) (by kernel_rfl) (by kernel_rfl) (fun _ _ _ h => h) (Or.inl ⟨by rfl, ?_⟩) (by assumption) ?_
  rotate_left
  · (intro w hSw; (try dsimp only at hSw); go_simp; first | done | with_reducible rfl)
  try simp only [Act.put, List.setIfInBounds_toArray, List.set_cons_zero, List.set_cons_succ]
  refine wpAnyT_take (i := 1) (hi := by simp only [List.getElem?_toArray, List.getElem?_cons_succ, List.getElem?_cons_zero]; rfl) (v := ?_) (by kernel_rfl) (by kernel_rfl) (by kernel_rfl) (by kernel_rfl) (fun _ _ _ h => h) (Or.inl ⟨by rfl, ?_⟩) (by assumption) ?_
  rotate_left
  · (intro w hSw; (try dsimp only at hSw); go_simp; first | done | with_reducible rfl)
  try simp only [Act.put, List.setIfInBounds_toArray, List.set_cons_zero, List.set_cons_succ]
  refine wpAnyT_take (i := 2) (hi := by simp only [List.getElem?_toArray, List.getElem?_cons_succ, List.getElem?_cons_zero]; rfl) (v := ?_) (by kernel_rfl) (by kernel_rfl) (by kernel_rfl) (by kernel_rfl) (fun _ _ _ h => h) (Or.inl ⟨by rfl, ?_⟩) (by assumption) ?_
  rotate_left
  · (intro w hSw; (try dsimp only at hSw); (obtain ⟨p0, hnb⟩ := hSw; have b0 := blk_cell hnb.out 0; have b1 := blk_cell hnb.out 1; have b2 := blk_cell hnb.out 2; have b3 := blk_cell hnb.out 3; have b4 := blk_cell hnb.out 4; have b5 := blk_cell hnb.out 5); go_simp; first | done | with_reducible rfl)
  try simp only [Act.put, List.setIfInBounds_toArray, List.set_cons_zero, List.set_cons_succ]
  refine wpAnyT_take (i := 3) (hi := by simp only [List.getElem?_toArray, List.getElem?_cons_succ, List.getElem?_cons_zero]; rfl) (v := ?_) (by kernel_rfl) (by kernel_rfl) (by kernel_rfl) (by kernel_rfl) (fun _ _ _ h => h) (Or.inl ⟨by rfl, ?_⟩) (by assumption) ?_
  rotate_left
  · (intro w hSw; (try dsimp only at hSw); go_simp; first | done | with_reducible rfl)
  try simp only [Act.put, List.setIfInBounds_toArray, List.set_cons_zero, List.set_cons_succ]
  refine wpAnyT_take (i := 4) (hi := by simp only [List.getElem?_toArray, List.getElem?_cons_succ, List.getElem?_cons_zero]; rfl) (v := ?_) (by kernel_rfl) (by kernel_rfl) (by kernel_rfl) (by kernel_rfl) (fun _ _ _ h => h) (Or.inl ⟨by rfl, ?_⟩) (by assumption) ?_
  rotate_left
  · (intro w hSw; (try dsimp only at hSw); (obtain ⟨p0, hnb⟩ := hSw; have b0 := blk_cell hnb.out 0; have b1 := blk_cell hnb.out 1; have b2 := blk_cell hnb.out 2; have b3 := blk_cell hnb.out 3; have b4 := blk_cell hnb.out 4; have b5 := blk_cell hnb.out 5); go_simp; first | done | with_reducible rfl)
  try simp only [Act.put, List.setIfInBounds_toArray, List.set_cons_zero, List.set_cons_succ]
  refine wpAnyT_take (i := 5) (hi := by simp only [List.getElem?_toArray, List.getElem?_cons_succ, List.getElem?_cons_zero]; rfl) (v := ?_) (by kernel_rfl) (by kernel_rfl) (by kernel_rfl) (by kernel_rfl) (fun _ _ _ h => h) (Or.inl ⟨by rfl, ?_⟩) (by assumption) ?_
  rotate_left
  · (intro w hSw; (try dsimp only at hSw); (obtain ⟨p0, hnb⟩ := hSw; have b0 := blk_cell hnb.out 0; have b1 := blk_cell hnb.out 1; have b2 := blk_cell hnb.out 2; have b3 := blk_cell hnb.out 3; have b4 := blk_cell hnb.out 4; have b5 := blk_cell hnb.out 5); go_simp; first | done | with_reducible rfl)
  try simp only [Act.put, List.setIfInBounds_toArray, List.set_cons_zero, List.set_cons_succ]
  refine wpAnyT_step (i := 6) (by kernel_rfl) (ho := by simp only [List.getElem?_toArray, List.getElem?_cons_succ, List.getElem?_cons_zero]; rfl) (fun K hK => ?_)
  go_simp
  go_wp2_with fail
  refine hK.out _ _ ?_ (fun hHeldN => ?_)
  · exact ⟨hA.out.pcells.1, Kit.hid (blk_alloc HN1.out _)⟩
  clear hHeld
  have hHeld := hHeldN
  clear hHeldN
  clear hK K
  try simp only [Act.put, List.setIfInBounds_toArray, List.set_cons_zero, List.set_cons_succ]
  refine wpAnyT_step (i := 7) (by kernel_rfl) (ho := by simp only [List.getElem?_toArray, List.getElem?_cons_succ, List.getElem?_cons_zero]; rfl) (fun K hK => ?_)
  refine step_append_srcS rfl _ _ 120 rfl 0 124 (.agg #[.int .i64 0, .int .i64 0, .int .i64 0, .int .i64 0, .int .i64 0, .int .i64 0]) 6 48 (by decide) Try.underlying120 infoN rfl _ L.length (flatN L) (by simp [Act.eval, Act.put]) hrow.out (some ⟨w1.heap.size, 0, none⟩) 1 1 (flatN [ndOf x .nil .nil]) (by simp [Act.eval, Act.put]) rfl hlit.out (flatN_one _) (by unfold maxLen; omega) (by omega) (Nat.zero_le _) ?_
  intro v2 w2 hown2 hg2 hc2
  obtain ⟨g2, c2, rfl, _, _, _⟩ := own_form hown2 (by omega)
  have HC2 : Hid (g2 = gl ∨ g2 = ((w1.alloc (.cells #[.int .i64 x.key, .int .i64 x.id, .int .i64 0, .int .i64 0, .int .i64 1, .int .i64 1] 124)).drew).heap.size) := Kit.hid (by
    rcases hc2 with e | e
    · exact .inl (Option.some.inj e)
    · exact .inr (Option.some.inj e))
  have HO2 := Kit.hid hown2
  have HG2 : Hid (World.grownBy _ w2 (some gl)) := Kit.hid hg2
  have hN2 : Hid (w2.heap[nb]? = some (.cells #[.int .i64 x.key, .int .i64 x.id, .int .i64 0, .int .i64 0, .int .i64 1, .int .i64 1] 124 (0, 0))) := Kit.hid ((hg2.block nb (by simp; omega) (fun e => hngl.out (Option.some.inj e))).trans (blk_alloc HN1.out _))
  have hat2 := (HG2.out.block p (by have := HS1.out.plt; simp; omega) (fun e => hgp (Option.some.inj e).symm)).trans hA.out.at_
  have q0 := blk_cell hat2 0
  have fq0 := blk_frozen hat2 0
  clear hown2 hg2 hc2 hat2 p0 p1 p2 fp0 fp1 fp2
  refine hK.out _ _ ?_ (fun hHeldN => ?_)
  · exact ⟨q0, hN2⟩
  clear hHeld
  have hHeld := hHeldN
  clear hHeldN
  clear hK K
  try simp only [Act.put, List.setIfInBounds_toArray, List.set_cons_zero, List.set_cons_succ]
  refine wpAnyT_step (i := 8) (by kernel_rfl) (ho := by simp only [List.getElem?_toArray, List.getElem?_cons_succ, List.getElem?_cons_zero]; rfl) (fun K hK => ?_)
  go_simp
  refine hK.out _ _ ?_ (fun hHeldN => ?_)
  · exact hHeld
  clear hHeld
  have hHeld := hHeldN
  clear hHeldN
  clear hK K
  try simp only [Act.put, List.setIfInBounds_toArray, List.set_cons_zero, List.set_cons_succ]
  refine wpAnyT_take (i := 9) (hi := by simp only [List.getElem?_toArray, List.getElem?_cons_succ, List.getElem?_cons_zero]; rfl) (v := ?_) (by kernel_rfl) (by kernel_rfl) (by kernel_rfl) (by kernel_rfl) (fun _ _ _ h => h) (Or.inl ⟨by rfl, ?_⟩) (by assumption) ?_
  rotate_left
  · (intro w hSw; (try dsimp only at hSw); go_simp; first | done | with_reducible rfl)
  try simp only [Act.put, List.setIfInBounds_toArray, List.set_cons_zero, List.set_cons_succ]
  refine wpAnyT_last (by kernel_rfl) (ho := by simp only [List.getElem?_toArray, List.getElem?_cons_succ, List.getElem?_cons_zero]; rfl) (fun K hK => ?_)
  go_simp
  go_wp2_with fail
  refine hK.out _ _ ?_
  clear hK K
  try simp only [Act.put, List.setIfInBounds_toArray, List.set_cons_zero, List.set_cons_succ]
  clear hHeld
  refine wpAnyT_done (by kernel_rfl) ?_ _
  refine NoPanic.normal ?_
  
  go_wp2
  go_ret
  refine ⟨L ++ [ndOf x .nil .nil], g2, c2, .slice Af 0 cf, rfl, hA.out.lset HO2.out HG2.out HC2.out, by simp, by simp, ?_, fun j hj => ?_⟩
  · show (L ++ [ndOf x .nil .nil])[L.length]? = _
    rw [List.getElem?_append_right (Nat.le_refl _), Nat.sub_self]; rfl
  · have hj' : j ≠ L.length := hj
    rcases Nat.lt_or_ge j L.length with h | h
    · rw [List.getElem?_append_left h]
    · rw [List.getElem?_eq_none h, List.getElem?_eq_none (by simp; omega)]
end
end Go.Proofs.Ytpgfenelckonoaa.Sh
