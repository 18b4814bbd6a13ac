/- The walk of Unpack. -/
import Derived.Test.YtlmbghemlphoaaaDoorPaL
import Derived.Lib.SlBytesConst
import Derived.Lib.SmallJoins
namespace Go.Proofs.YtlmbghemlphoaaaDoor.Pa
open Go.RowKit Go.Proofs.YtlmbghemlphoaaaDoor.Kit Go.Proofs.YtlmbghemlphoaaaDoor.PaM Go.Proofs.YtlmbghemlphoaaaDoor.Le Go.IntWalk
set_option linter.unusedVariables false
set_option linter.unusedSimpArgs false
structure Un (B : Nat) (w0 w : World) (vo : Value) (ls : List SecM) (v : Value) (Es : List Ent) (g gb : Nat) (q : List (BitVec 8)) (e : Int) : Prop where
  oo : w.ownsRow B 39 2 vo ls.length (flatS ls)
  ov : w.ownsRow B 49 3 v Es.length (flatE Es)
  rd : RdE B w g gb q e
  a1 : vo.ownBlock ≠ some g
  a2 : vo.ownBlock ≠ some gb
  a3 : v.ownBlock ≠ some g
  a4 : v.ownBlock ≠ some gb
  a5 : ∀ k, vo.ownBlock = some k → v.ownBlock ≠ some k
  gg : g ≠ gb
  bel : Below B w0 w
  sz : B ≤ w.heap.size
  bs : ∀ s ∈ ls, Hid (Bytes w s.A s.b) ∧ ∀ ad, s.A = some ad → ad.block = gb
section
variable {B : Nat} {w0 w w' : World} {vo v : Value} {ls : List SecM} {Es : List Ent} {g gb : Nat} {q : List (BitVec 8)} {e : Int}
theorem Un.below (h : Un B w0 w vo ls v Es g gb q e) (hb : Below w.heap.size w w') : Un B w0 w' vo ls v Es g gb q e :=
  ⟨own_belowS h.oo hb, own_belowS h.ov hb, h.rd.below hb, h.a1, h.a2, h.a3, h.a4, h.a5, h.gg, h.bel.trans (hb.mono h.sz), Nat.le_trans h.sz hb.size, fun s hs => ⟨bytes_below (h.bs s hs).1 hb, (h.bs s hs).2⟩⟩
theorem Un.app {v' : Value} {ls' : List SecM} (h : Un B w0 w vo ls v Es g gb q e) (hown : w'.ownsRow B 39 2 v' ls'.length (flatS ls')) (hg : w.grownBy w' vo.ownBlock)
    (hc : v'.ownBlock = vo.ownBlock ∨ v'.ownBlock = some w.heap.size) (hbs : ∀ s ∈ ls', s ∈ ls ∨ (s.A = none ∧ s.b = [])) : Un B w0 w' v' ls' v Es g gb q e := by
  have hlt := h.rd.lt
  have hltb := h.rd.ltb
  refine ⟨hown, own_keptS h.ov hg ?_, h.rd.grown hg h.a1 h.a2, ?_, ?_, h.a3, h.a4, ?_, h.gg, below_ownS h.bel h.oo hg h.sz, Nat.le_trans h.sz hg.size, ?_⟩
  · cases hv : v.ownBlock with
    | none => exact .inl rfl
    | some k => exact .inr (fun e => h.a5 k e.symm hv)
  · rcases hc with hc | hc
    · rw [hc]; exact h.a1
    · rw [hc]; intro e; cases e; omega
  · rcases hc with hc | hc
    · rw [hc]; exact h.a2
    · rw [hc]; intro e; cases e; omega
  · intro k hk hv
    rcases hc with hc | hc
    · exact h.a5 k (hc.symm.trans hk) hv
    · rw [hc] at hk
      cases hk
      have := (h.ov.lt _ hv).2
      omega
  · intro s hs
    rcases hbs s hs with h1 | ⟨h1, h2⟩
    · exact ⟨bytes_grown (h.bs s h1).1 (h.bs s h1).2 hltb hg h.a2, (h.bs s h1).2⟩
    · rw [h1, h2]
      exact ⟨(fun i hi => by cases hi), fun ad e => by cases e⟩
theorem Un.part {q' : List (BitVec 8)} {e' : Int} (h : Un B w0 w vo ls v Es g gb q e) (hr : RdE B w' g gb q' e') (hg : w.grownBy w' (some g)) : Un B w0 w' vo ls v Es g gb q' e' :=
  ⟨own_keptS h.oo hg (.inr h.a1), own_keptS h.ov hg (.inr h.a3), hr, h.a1, h.a2, h.a3, h.a4, h.a5, h.gg, h.bel.grown hg h.sz (fun k e => by cases e; exact h.rd.own), Nat.le_trans h.sz hg.size,
    fun s hs => ⟨bytes_grown (h.bs s hs).1 (h.bs s hs).2 h.rd.ltb hg (fun e => h.gg (Option.some.inj e)), (h.bs s hs).2⟩⟩
theorem Un.store {go cap i : Nat} {s : SecM} (h : Un B w0 w (.slice (some ⟨go, 0, none⟩) ls.length cap) ls v Es g gb q e) (hi : i < ls.length) (hk : s.kind = ls[i].kind) (hb : Hid (Bytes w s.A s.b)) (hA : ∀ ad, s.A = some ad → ad.block = gb) :
    Un B w0 (w.setCell ⟨go, i * 2 + 1, none⟩ s.body) (.slice (some ⟨go, 0, none⟩) (ls.set i s).length cap) (ls.set i s) v Es g gb q e := by
  obtain ⟨h1, hg⟩ := h.oo.stored (i * 2 + 1) s.body
  rw [flatS_set ls i hi s hk] at h1
  have e0 : (ls.set i s).length = ls.length := List.length_set
  have hgo : (Value.slice (some ⟨go, 0, none⟩) ls.length cap).ownBlock = some go := rfl
  have hg1 : some go ≠ some g := h.a1
  have hg2 : some go ≠ some gb := h.a2
  rw [e0]
  refine ⟨by rw [e0]; exact h1, own_keptS h.ov hg (.inr (fun e => h.a5 go rfl e)), h.rd.grown hg hg1 hg2, h.a1, h.a2, h.a3, h.a4, h.a5, h.gg, h.bel.grown hg h.sz (fun k e => by cases e; exact (h.oo.lt go rfl).1), Nat.le_trans h.sz hg.size, ?_⟩
  intro x hx
  rcases List.mem_or_eq_of_mem_set hx with hx | rfl
  · exact ⟨bytes_grown (h.bs x hx).1 (h.bs x hx).2 h.rd.ltb hg hg2, (h.bs x hx).2⟩
  · exact ⟨bytes_grown hb hA h.rd.ltb hg hg2, hA⟩
/-- An entry's cells, as a walk reckons their addresses. -/
theorem ent_at {A : Option Addr} {n cap : Nat} {i : Nat} {x : Ent} (h : w.ownsRow B 49 3 (.slice A n cap) n (flatE Es)) (hi : i < Es.length) (hx : x = Es[i]) :
    ∃ ad : Addr, A = some ad ∧ w.cell? (ad.add (i * 3)) = some (.int .i64 (x.kind : Int)) ∧ w.cell? ⟨(ad.add (i * 3)).block, (ad.add (i * 3)).off + 1, none⟩ = some (.int .i64 (x.size : Int)) ∧ w.cell? ⟨(ad.add (i * 3)).block, (ad.add (i * 3)).off + 2, none⟩ = some (.int .u64 (x.check : Int)) := by
  obtain ⟨A', cap', hv, hc, _⟩ := own_readsS (by decide) h
  cases hv
  have get : ∀ (l : List Ent) (i : Nat) (h : i < l.length), (flatE l)[i * 3]? = some (.int .i64 (l[i].kind : Int)) ∧ (flatE l)[i * 3 + 1]? = some (.int .i64 (l[i].size : Int)) ∧ (flatE l)[i * 3 + 2]? = some (.int .u64 (l[i].check : Int)) := by
    intro l
    induction l with
    | nil => intro i h; exact absurd h (Nat.not_lt_zero _)
    | cons y l ih =>
      intro i h
      cases i with
      | zero => exact ⟨rfl, rfl, rfl⟩
      | succ i =>
        have := ih i (by simpa using h)
        rw [Nat.succ_mul]
        exact this
  obtain ⟨g0, g1, g2⟩ := get Es i hi
  have hl := flatE_length Es
  obtain ⟨ad, rfl, c0⟩ := hc (i * 3) (by omega)
  obtain ⟨ad1, e1, c1⟩ := hc (i * 3 + 1) (by omega)
  obtain ⟨ad2, e2, c2⟩ := hc (i * 3 + 2) (by omega)
  cases e1
  cases e2
  rw [List.getElem?_eq_getElem (by omega)] at g0 g1 g2
  rw [add_part ad (i * 3) 1 (by decide)] at c1
  rw [add_part ad (i * 3) 2 (by decide)] at c2
  rw [hx]
  exact ⟨ad, rfl, c0.trans g0, c1.trans g1, c2.trans g2⟩
end
def kindsM (E : List Ent) : List SecM := E.map fun x => ⟨(x.kind : Int), none, [], 0⟩
def UnpPost (w : World) (l : List (BitVec 8)) (e : Ending) (w' : World) : Prop :=
  ∃ (A : Option Addr) (cap : Nat) (ls : List SecM), e = .returned (.tuple #[.slice A ls.length cap, .int .i64 (unp l).1]) ∧ ls.map SecM.sec = (unp l).2 ∧ Hid (Secs w' A ls) ∧ ls.length ≤ cap ∧ ls.length ≤ 16 ∧ Below w.heap.size w w'
theorem unp_bad {w w' : World} {l : List (BitVec 8)} {x : Int} (h : unp l = (x, [])) (hb : Below w.heap.size w w') : UnpPost w l (.returned (.tuple #[.slice none 0 0, .int .i64 x])) w' := by
  refine ⟨none, 0, [], by rw [h]; rfl, by rw [h]; rfl, (fun i hi => by cases hi), Nat.le_refl _, Nat.zero_le _, hb⟩
theorem magic_bytesN (w : World) : Hid (Bytes (w.alloc (.cells #[.int .u8 68, .int .u8 80, .int .u8 90, .int .u8 49] 5 (4, 5))) (some ⟨w.heap.size, 0, none⟩) magic) := by
  intro i hi
  refine ⟨_, rfl, ?_⟩
  have hadd : (⟨w.heap.size, 0, none⟩ : Addr).add i = ⟨w.heap.size, i, none⟩ := by unfold Addr.add; split <;> simp_all
  rw [hadd, World.cell?_alloc_mark]
  have : i < 4 := hi
  match i, this with
  | 0, _ => rfl
  | 1, _ => rfl
  | 2, _ => rfl
  | 3, _ => rfl
theorem checks_iff : ∀ (E : List Ent) (q : List (BitVec 8)), checks E q = true ↔ ∀ i (h : i < E.length), (CrcM.more 0#32 ((cut E q)[i]'(by rw [cut_length]; exact h)).body).toNat = E[i].check
  | [], q => ⟨fun _ i h => absurd h (Nat.not_lt_zero _), fun _ => rfl⟩
  | x :: E, q => by
    simp only [checks, Bool.and_eq_true, decide_eq_true_eq, checks_iff E (q.drop x.size)]
    constructor
    · rintro ⟨h1, h2⟩ i h
      cases i with
      | zero => exact h1
      | succ i => exact h2 i (by simpa using h)
    · intro h
      exact ⟨h 0 (by simp), fun i hi => h (i + 1) (by simpa using hi)⟩
theorem mk_kind : ∀ (E : List Ent) (bs : List (List (BitVec 8))) (i : Nat) (h : i < E.length), ((mk E bs)[i]?.map Sec.kind) = some (E[i].kind : Int)
  | [], _, i, h => absurd h (Nat.not_lt_zero _)
  | x :: E, [], 0, h => rfl
  | x :: E, b :: bs, 0, h => rfl
  | x :: E, [], i + 1, h => by simpa [mk] using mk_kind E [] i (by simpa using h)
  | x :: E, b :: bs, i + 1, h => by simpa [mk] using mk_kind E bs i (by simpa using h)
theorem part_addr (go i : Nat) : (⟨((⟨go, 0, none⟩ : Addr).add (i * 2)).block, ((⟨go, 0, none⟩ : Addr).add (i * 2)).off + 1, none⟩ : Addr) = ⟨go, i * 2 + 1, none⟩ := by
  unfold Addr.add
  by_cases h : i * 2 = 0
  · rw [if_pos h, h]
  · rw [if_neg h]
    simp
theorem parts_left : ∀ (E : List Ent) (q : List (BitVec 8)) (e : Int), (parts E q e).2.1.length ≤ q.length
  | [], _, _ => Nat.le_refl _
  | x :: E, q, e => Nat.le_trans (parts_left E _ _) (rp_left q e x.size)
set_option maxHeartbeats 8000000 in
theorem unpack_any (A : Option Addr) (l : List (BitVec 8)) (cap : Nat) (w : World) (hT : Hid (Crc.Tab w)) (hb : Hid (Bytes w A l)) (hl : l.length ≤ 140737488351232) (hc : l.length ≤ cap) :
    Calls Tryd.prog 10 #[.slice A l.length cap] w (UnpPost w l) := by
  by_cases h9 : l.length < 9
  · have E : Hid (unp l = (2, [])) := Kit.hid (by unfold unp; rw [if_pos h9])
    have p1 : (l.length : Int) < 9 := by omega
    go_enter Tryd.func10, Tryd.ntmps10
    go_wp2
    go_ret2
    exact unp_bad E.out (Below.refl _ _)
  have p1 : ¬ (l.length : Int) < 9 := by omega
  have p1b : decide ((l.length : Int) < 9) = false := decide_eq_false p1
  have hcv := Go.Lib.run_convert_bytes_const (P := Tryd.prog) w 22 5 #[.int .u8 68, .int .u8 80, .int .u8 90, .int .u8 49] 4 4 Tryd.underlying22 Tryd.underlying5
  have hm2 := magic_bytesN w
  have hbm := (Below.refl w.heap.size w).alloc (Nat.le_refl _) (.cells #[.int .u8 68, .int .u8 80, .int .u8 90, .int .u8 49] 5 (4, 5))
  have HP0 := prefix_any A l cap (some ⟨w.heap.size, 0, none⟩) magic 4 _ (bytes_below hb hbm) hm2 (by show 4 ≤ _; omega) hc hl
  have hlm : magic.length = 4 := rfl
  rw [hlm] at HP0
  by_cases hmg : l.take 4 = magic
  case neg =>
    have E : Hid (unp l = (20, [])) := Kit.hid (by unfold unp; rw [if_neg h9, if_pos hmg])
    rw [decide_eq_false hmg] at HP0
    have HP0 := Kit.hid HP0
    clear hmg hlm
    go_enter Tryd.func10, Tryd.ntmps10
    go_wp2_with (go_at_call 19; refine HP0.out.mono ?_; rintro e w1 ⟨rfl, rfl⟩)
    go_ret2
    exact unp_bad E.out hbm
  rw [decide_eq_true hmg] at HP0
  have HP0 := Kit.hid HP0
  have HTB := Kit.hid (table_any A l cap _ (Crc.tab_below hT hbm) (bytes_below hb hbm) (by omega) hl hc)
  have HMG := Kit.hid hmg
  clear hmg hlm
  by_cases ht0 : tab l = 0
  case neg =>
    have E : Hid (unp l = (tab l, [])) := Kit.hid (by unfold unp; rw [if_neg h9, if_neg (fun h => h HMG.out), if_pos ht0])
    obtain ⟨t, ht⟩ : ∃ t, t = tab l := ⟨_, rfl⟩
    have HT0 := Kit.hid ht0
    have HTE := Kit.hid ht
    rw [← ht] at E ht0
    have t1 : (t != 0) = true := by simp [ht0]
    have t2 : (t == 0) = false := by simp [ht0]
    clear ht
    go_enter Tryd.func10, Tryd.ntmps10
    go_wp2_with (first
      | (go_at_call 19; (with_reducible refine HP0.out.mono ?_); rintro e w1 ⟨rfl, rfl⟩)
      | (go_at_call 20; (with_reducible refine HTB.out.mono ?_); intro e w2 hpost
         have hpost' : e = .returned (.tuple #[.slice none 0 0, .pointer none, .int .i64 t]) ∧ Below (w.alloc (.cells #[.int .u8 68, .int .u8 80, .int .u8 90, .int .u8 49] 5 (4, 5))).heap.size (w.alloc (.cells #[.int .u8 68, .int .u8 80, .int .u8 90, .int .u8 49] 5 (4, 5))) w2 := by
           rcases hpost with ⟨_, he, hb2⟩ | ⟨h, _⟩
           · rw [HTE.out]; exact ⟨he, hb2⟩
           · exact absurd h HT0.out
         obtain ⟨rfl, hb2⟩ := hpost'))
    go_ret2
    exact unp_bad E.out (hbm.trans (hb2.mono hbm.size))
  have HT0 := Kit.hid ht0
  have HU : Hid (unp l = tail (ents (manyOf l) (l.drop 9)) (l.drop (9 + 7 * manyOf l + 4))) := Kit.hid (by unfold unp; rw [if_neg h9, if_neg (fun h => h HMG.out), if_neg (fun h => h HT0.out)]; rfl)
  have htok := tab_ok ht0
  have hm16 : manyOf l ≤ 16 := htok.2.1
  obtain ⟨Es, hEs⟩ : ∃ Es, Es = ents (manyOf l) (l.drop 9) := ⟨_, rfl⟩
  obtain ⟨q, hq⟩ : ∃ q, q = l.drop (9 + 7 * manyOf l + 4) := ⟨_, rfl⟩
  have hEl : Es.length = manyOf l := by rw [hEs, ents_length]
  have hql : q.length ≤ 140737488351232 := by rw [hq, List.length_drop]; omega
  rw [← hEs, ← hq] at HU
  have HKS : Hid (∀ x ∈ Es, x.kind ≤ 255 ∧ x.size ≤ 65535) := Kit.hid (by rw [hEs]; exact ents_kind _ _)
  have hE16 : Es.length ≤ 16 := by omega
  have HTB2 : Hid (∀ (w1 : World) (e : Ending) (w2 : World), TabPost w1 l e w2 → ∃ (Av : Option Addr) (capv : Nat) (g gb : Nat), e = .returned (.tuple #[.slice Av Es.length capv, .pointer (some ⟨g, 0, none⟩), .int .i64 0]) ∧ Un w1.heap.size w1 w2 (.slice none 0 0) [] (.slice Av Es.length capv) Es g gb q 0) := Kit.hid (by
    intro w1 e w2 hp
    rcases hp with ⟨h, _⟩ | ⟨_, v, g, gb, he, hov, hrd, hvg, hvb, hgg, hb2⟩
    · exact absurd HT0.out h
    · rw [← hEl] at hov
      rw [hEl, ← hEs, ← hEl] at hov
      rw [← hq] at hrd
      obtain ⟨Av, capv, rfl, _⟩ := own_readsS (by decide) hov
      exact ⟨Av, capv, g, gb, he, World.ownsRow_nil _ _ _ _, hov, hrd.toE, (fun e => by cases e), (fun e => by cases e), hvg, hvb, (fun k e => by cases e), hgg, hb2, hrd.lt_le, (fun s hs => by cases hs)⟩)
  clear hEs hq hEl htok ht0 hm16
  go_enter Tryd.func10, Tryd.ntmps10
  go_wp2_with (first
    | (go_at_call 19; (with_reducible refine HP0.out.mono ?_); rintro e w1 ⟨rfl, rfl⟩)
    | (go_at_call 20; (with_reducible refine HTB.out.mono ?_); intro e w2 hpost; obtain ⟨Av, capv, g, gb, rfl, hU0⟩ := HTB2.out _ _ _ hpost))
  obtain ⟨B, hB⟩ : ∃ B, B = (w.alloc (.cells #[.int .u8 68, .int .u8 80, .int .u8 90, .int .u8 49] 5 (4, 5))).heap.size := ⟨_, rfl⟩
  obtain ⟨w1, hw1⟩ : ∃ w1, w1 = w.alloc (.cells #[.int .u8 68, .int .u8 80, .int .u8 90, .int .u8 49] 5 (4, 5)) := ⟨_, rfl⟩
  rw [← hB, ← hw1] at hU0
  rw [← hw1] at hB hbm
  have hU0 := Kit.hid hU0
  have hbm := Kit.hid hbm
  have HBB := Kit.hid hB
  clear hB hw1 HP0 HTB HTB2 hcv hm2
  go_loopw [7, 36] (fun v7 v36 wr => ∃ (i : Nat) (va : Value), i ≤ Es.length ∧ va = v7 ∧ v36 = .int .i64 i ∧ Hid (Un B w1 wr va (kindsM (Es.take i)) (.slice Av Es.length capv) Es g gb q 0)) (fun _ i _ => Es.length - (intOf i).toNat)
  case atStart => exact ⟨0, _, by omega, rfl, rfl, hU0⟩
  case round =>
    obtain ⟨i, va, hi, rfl, rfl, hU⟩ := hrel
    by_cases hlt : i < Es.length
    · obtain ⟨x, hx⟩ : ∃ x, x = Es[i] := ⟨_, rfl⟩
      obtain ⟨ad, hA, k0, k1, k2⟩ := ent_at hU.out.ov hlt hx
      subst hA
      have HT : Hid (kindsM (Es.take i) ++ [⟨(x.kind : Int), none, [], 0⟩] = kindsM (Es.take (i + 1))) := Kit.hid (by rw [List.take_succ_eq_append_getElem hlt, ← hx]; unfold kindsM; rw [List.map_append]; rfl)
      have hkl : (kindsM (Es.take i)).length = i := by simp [kindsM]; omega
      have HKL := Kit.hid hkl
      have hbA := (Below.refl wr.heap.size wr).alloc (Nat.le_refl _) (.cells #[.int .i64 (x.kind : Int), .int .i64 (x.size : Int), .int .u64 (x.check : Int)] 49)
      have hbL := hbA.alloc hbA.size (.cells #[.int .i64 (x.kind : Int), .slice none 0 0] 39)
      have hUL := hU.out.below hbL
      have hlit := litS (wr.alloc (.cells #[.int .i64 (x.kind : Int), .int .i64 (x.size : Int), .int .u64 (x.check : Int)] 49)) ⟨(x.kind : Int), none, [], 0⟩
      have hsz : (wr.alloc (.cells #[.int .i64 (x.kind : Int), .int .i64 (x.size : Int), .int .u64 (x.check : Int)] 49)).heap.size = wr.heap.size + 1 := by simp
      rw [hsz] at hlit
      have hoo := hUL.oo
      rw [hkl] at hoo
      clear hkl hx hsz
      go_wp2_with (at_builtin; refine wpList_append_srcS rfl _ _ 24 rfl B 39 (.agg #[.int .i64 0, .slice none 0 0]) 2 32 (by decide) Tryd.underlying24 infoS rfl va i _ rfl hoo (some ⟨wr.heap.size + 1, 0, none⟩) 1 1 (flatS [⟨(x.kind : Int), none, [], 0⟩]) rfl rfl hlit (flatS_one _) (by unfold maxLen; omega) (by omega) hUL.sz ?_
                   intro v6 w6 hown6 hg6 hc6)
      have hU6 : Hid (Un B w1 w6 v6 (kindsM (Es.take (i + 1))) (.slice (some ad) Es.length capv) Es g gb q 0) := Kit.hid (by
        refine hUL.app (ls' := kindsM (Es.take (i + 1))) ?_ hg6 hc6 (fun s hs => ?_)
        · rw [← HT.out, flatS_append, List.length_append, HKL.out]
          exact hown6
        · rw [← HT.out, List.mem_append] at hs
          rcases hs with hs | hs
          · exact .inl hs
          · rw [List.mem_singleton.1 hs]
            exact .inr ⟨rfl, rfl⟩)
      clear hown6 hg6 hc6 hoo hUL hlit
      go_roundw
      case rel => exact ⟨i + 1, _, by omega, rfl, by go_num, hU6⟩
      case measure => simp [intOf]; omega
    · obtain rfl : i = Es.length := by omega
      rw [List.take_length] at hU
      have hkl : (kindsM Es).length = Es.length := by simp [kindsM]
      have hms : (kindsM Es).map SecM.sec = Es.map fun x => ⟨(x.kind : Int), []⟩ := by simp [kindsM, SecM.sec, Function.comp_def]
      have hrz : risingM 0 (kindsM Es) = erise 0 Es := by
        unfold risingM
        rw [hms]
        exact erise_mk 0 Es (fun x hx => (HKS.out x hx).1)
      have hoo := hU.out.oo
      rw [hkl] at hoo
      obtain ⟨Ao, capo, hvo, hco, hle, hblk⟩ := own_readsS (by decide) hoo
      subst hvo
      have HRS := rising_any Ao (kindsM Es) capo wr (secs_of_cells hco (fun s hs => (hU.out.bs s hs).1)) (by omega)
      rw [hrz, hkl] at HRS
      have HSEC := Kit.hid hms
      have HKL := Kit.hid hkl
      have HBLK := Kit.hid hblk
      clear hms hrz hkl hco hoo hblk
      by_cases her : erise 0 Es = false
      · have E : Hid (unp l = (21, [])) := Kit.hid (by rw [HU.out]; unfold tail; rw [if_pos her])
        rw [her] at HRS
        have HRS := Kit.hid HRS
        clear her
        go_wp2_with (go_at_call 21; (with_reducible refine HRS.out.mono ?_); rintro e w3 ⟨rfl, hd3⟩)
        go_ret2
        exact unp_bad E.out (hbm.out.trans ((hU.out.below hd3).bel.mono (by rw [HBB.out]; exact hbm.out.size)))
      have her' : erise 0 Es = true := by simpa using her
      rw [her'] at HRS
      have HRS := Kit.hid HRS
      have HTP := Kit.hid (tail_parts Es q her')
      clear her her'
      have hU0 : Hid (Un B w1 wr (.slice Ao Es.length capo) (kindsM Es) (.slice Av Es.length capv) Es g gb q 0) := hU
      have HMK0 : Hid ((kindsM Es).map SecM.sec = mk Es (parts (Es.take 0) q 0).1) := Kit.hid (by rw [HSEC.out]; exact (mk_nil Es).symm)
      go_wp2_with (go_at_call 21; (with_reducible refine HRS.out.mono ?_); rintro e w3 ⟨rfl, hd3⟩)
      have hU3 := Kit.hid (hU0.out.below hd3)
      clear hU0 hd3 HRS hU
      go_loopw [52] (fun v52 wr => ∃ (i : Nat) (ls : List SecM), i ≤ Es.length ∧ v52 = .int .i64 i ∧ Hid (ls.length = Es.length) ∧ Hid (ls.map SecM.sec = mk Es (parts (Es.take i) q 0).1) ∧
        Hid (Un B w1 wr (.slice Ao Es.length capo) ls (.slice Av Es.length capv) Es g gb (parts (Es.take i) q 0).2.1 (parts (Es.take i) q 0).2.2)) (fun i _ => Es.length - (intOf i).toNat)
      case atStart => exact ⟨0, kindsM Es, by omega, rfl, HKL, HMK0, hU3⟩
      case round =>
        obtain ⟨i, ls, hi, rfl, hll, hmk, hU⟩ := hrel
        by_cases hlt : i < Es.length
        · obtain ⟨go, hgo⟩ : ∃ go, Ao = some ⟨go, 0, none⟩ := by
            rcases HBLK.out with ⟨_, h, _⟩ | ⟨go, h, _⟩
            · omega
            · exact ⟨go, h⟩
          subst hgo
          obtain ⟨x, hx⟩ : ∃ x, x = Es[i] := ⟨_, rfl⟩
          obtain ⟨ad, hA, k0, k1, k2⟩ := ent_at hU.out.ov hlt hx
          subst hA
          have hps := parts_snoc (Es.take i) x q 0
          rw [hx, ← List.take_succ_eq_append_getElem hlt, ← hx] at hps
          have hsz := (HKS.out x (by rw [hx]; exact List.getElem_mem hlt)).2
          have hpl : (parts (Es.take i) q 0).1.length = i := by rw [parts_length, List.length_take]; omega
          have hms := mk_set Es (parts (Es.take i) q 0).1
          obtain ⟨qi, hqi⟩ : ∃ y, y = (parts (Es.take i) q 0).2.1 := ⟨_, rfl⟩
          obtain ⟨ei, hei⟩ : ∃ y, y = (parts (Es.take i) q 0).2.2 := ⟨_, rfl⟩
          rw [← hqi, ← hei] at hps hU
          have hqil : qi.length ≤ 140737488351232 := by rw [hqi]; exact Nat.le_trans (parts_left _ _ _) hql
          have hbA := (Below.refl wr.heap.size wr).alloc (Nat.le_refl _) (.cells #[.int .i64 (x.kind : Int), .int .i64 (x.size : Int), .int .u64 (x.check : Int)] 49)
          have hUA := Kit.hid (hU.out.below hbA)
          obtain ⟨l0, l1, l2, _, _, _⟩ := ent_block (blk_new wr (.cells #[.int .i64 (x.kind : Int), .int .i64 (x.size : Int), .int .u64 (x.check : Int)] 49))
          have CPA := Kit.hid (rde_part hUA.out.rd (x.size : Int) hqil)
          obtain ⟨r, hr⟩ : ∃ r, r = rp qi ei x.size := ⟨_, rfl⟩
          rw [← hr] at hps CPA
          have HPS := Kit.hid hps
          have HPL := Kit.hid hpl
          have HMS := Kit.hid hms
          have HX := Kit.hid hx
          have hi2 : (i : Int) < (Es.length : Int) := by omega
          have hi0 : (0 : Int) ≤ (i : Int) := by omega
          clear hps hqi hei hr hpl hms hx
          go_wp2_with (go_at_call 22; (with_reducible refine CPA.out.mono ?_); rintro e w2 ⟨P, c, rfl, hPb, hPc, hPA, hPR, hg2⟩
                       have hU2 := hUA.out.part hPR hg2
                       have hoo := hU2.oo
                       rw [hll.out] at hoo
                       have hcell := (hoo.cellAt (i * 2 + 1) (by omega)).trans ((flatS_get ls i (by rw [hll.out]; exact hlt)).2)
                       have hfroz := hoo.frozenAt (i * 2 + 1))
          have hk' : (⟨(x.kind : Int), P, r.1, c⟩ : SecM).kind = (ls[i]'(by rw [hll.out]; exact hlt)).kind := by
            have h1 := congrArg (fun y : List Sec => y[i]?.map Sec.kind) hmk.out
            simp only [List.getElem?_map] at h1
            rw [List.getElem?_eq_getElem (by rw [hll.out]; exact hlt)] at h1
            have h2 := mk_kind Es (parts (Es.take i) q 0).1 i hlt
            rw [h2] at h1
            have h3 : (ls[i]'(by rw [hll.out]; exact hlt)).kind = (Es[i].kind : Int) := by simpa [SecM.sec] using h1
            rw [h3, HX.out]
          have hU2' : Un B w1 w2 (.slice (some ⟨go, 0, none⟩) ls.length capo) ls (.slice (some ad) Es.length capv) Es g gb r.2.1 r.2.2 := by
            rw [hll.out]
            exact hU2
          have hU3 := hU2'.store (s := ⟨(x.kind : Int), P, r.1, c⟩) (by rw [hll.out]; exact hlt) hk' hPb hPA
          have hl3 : (ls.set i ⟨(x.kind : Int), P, r.1, c⟩).length = Es.length := by rw [List.length_set]; exact hll.out
          rw [hl3] at hU3
          have hmk3 : Hid ((ls.set i ⟨(x.kind : Int), P, r.1, c⟩).map SecM.sec = mk Es (parts (Es.take (i + 1)) q 0).1) := Kit.hid (by
            have h1 := HMS.out r.1 (by rw [HPL.out]; exact hlt)
            rw [HPS.out, List.map_set, hmk.out]
            simp only [HPL.out] at h1
            rw [h1, ← HX.out]
            rfl)
          have hU4 : Hid (Un B w1 (w2.setCell ⟨go, i * 2 + 1, none⟩ (.slice P r.1.length c)) (.slice (some ⟨go, 0, none⟩) Es.length capo) (ls.set i ⟨(x.kind : Int), P, r.1, c⟩) (.slice (some ad) Es.length capv) Es g gb (parts (Es.take (i + 1)) q 0).2.1 (parts (Es.take (i + 1)) q 0).2.2) := Kit.hid (by
            rw [HPS.out]
            exact hU3)
          have hl4 := Kit.hid hl3
          clear hU3 hl3 hcell hfroz hoo hU2 hU2'
          go_roundw
          case rel => exact ⟨i + 1, _, by omega, by go_num, hl4, hmk3, hU4⟩
          case measure => simp [intOf]; omega
        · obtain rfl : i = Es.length := by omega
          rw [List.take_length] at hU hmk
          have CE := Kit.hid (rde_end hU.out.rd)
          obtain ⟨en, hen⟩ : ∃ en, en = endOf (parts Es q 0).2.1 (parts Es q 0).2.2 := ⟨_, rfl⟩
          rw [← hen] at CE
          have HEN := Kit.hid hen
          clear hen
          by_cases hz : en = 0
          case neg =>
            have E : Hid (unp l = (en, [])) := Kit.hid (by rw [HU.out, HTP.out, ← HEN.out, if_pos hz])
            have t1 : (en != 0) = true := by simp [hz]
            have t2 : (en == 0) = false := by simp [hz]
            go_wp2_with (go_at_call 23; (with_reducible refine CE.out.mono ?_); rintro e w5 ⟨rfl, rfl⟩)
            go_ret2
            exact unp_bad E.out (hbm.out.trans (hU.out.bel.mono (by rw [HBB.out]; exact hbm.out.size)))
          have hz' := hz
          rw [HEN.out] at hz'
          have htl : total Es ≤ q.length := by
            rcases Nat.lt_or_ge q.length (total Es) with h | h
            · have h2 := parts_short Es q h
              unfold endOf at hz'
              rw [h2, if_neg (by omega)] at hz'
              omega
            · exact h
          have hpo := parts_ok Es q htl
          have HCUT : Hid (ls.map SecM.sec = cut Es q) := Kit.hid (by rw [hmk.out, hpo]; exact mk_cut Es q)
          have HUN : Hid (unp l = if checks Es q = false then (4, []) else (0, cut Es q)) := Kit.hid (by
            rw [HU.out, HTP.out, if_neg (fun h => h hz'), hpo]
            simp only [mk_cut])
          rw [hz] at CE
          clear hz hz' htl hpo
          obtain ⟨qq, hqq⟩ : ∃ y, y = (parts Es q 0).2.1 := ⟨_, rfl⟩
          obtain ⟨eq_, heq_⟩ : ∃ y, y = (parts Es q 0).2.2 := ⟨_, rfl⟩
          rw [← hqq, ← heq_] at hU
          clear hqq heq_ hmk
          go_wp2_with (go_at_call 23; (with_reducible refine CE.out.mono ?_); rintro e w5 ⟨rfl, rfl⟩)
          go_loopw [73] (fun v73 wr => ∃ (i : Nat), i ≤ Es.length ∧ v73 = .int .i64 i ∧ (∀ j (h : j < ls.length), j < i → (CrcM.more 0#32 ls[j].b).toNat = (Es[j]'(by rw [← hll.out]; exact h)).check) ∧
            Hid (Un B w1 wr (.slice Ao Es.length capo) ls (.slice Av Es.length capv) Es g gb qq eq_)) (fun i _ => Es.length - (intOf i).toNat)
          case atStart => exact ⟨0, by omega, rfl, (fun j _ h => absurd h (Nat.not_lt_zero _)), hU⟩
          case round =>
            obtain ⟨i, hi, rfl, hck, hU⟩ := hrel
            by_cases hlt : i < Es.length
            · have hltl : i < ls.length := by rw [hll.out]; exact hlt
              obtain ⟨go, hgo⟩ : ∃ go, Ao = some ⟨go, 0, none⟩ := by
                rcases HBLK.out with ⟨_, h, _⟩ | ⟨go, h, _⟩
                · omega
                · exact ⟨go, h⟩
              subst hgo
              obtain ⟨x, hx⟩ : ∃ x, x = Es[i] := ⟨_, rfl⟩
              obtain ⟨ad, hA, k0, k1, k2⟩ := ent_at hU.out.ov hlt hx
              subst hA
              obtain ⟨s, hs⟩ : ∃ s, s = ls[i] := ⟨_, rfl⟩
              have hmem : s ∈ ls := by rw [hs]; exact List.getElem_mem hltl
              have hsb : s.b.length ≤ 65535 := by
                have h1 := congrArg (fun y : List Sec => y[i]?) HCUT.out
                simp only [List.getElem?_map, List.getElem?_eq_getElem hltl, Option.map_some] at h1
                have h2 := cut_small Es q (fun y hy => (HKS.out y hy).2) s.sec (by rw [hs]; exact List.mem_of_getElem? h1.symm)
                exact h2
              have hbA := (Below.refl wr.heap.size wr).alloc (Nat.le_refl _) (.cells #[.int .i64 (x.kind : Int), .int .i64 (x.size : Int), .int .u64 (x.check : Int)] 49)
              have hUA := Kit.hid (hU.out.below hbA)
              obtain ⟨l0, l1, l2, _, _, _⟩ := ent_block (blk_new wr (.cells #[.int .i64 (x.kind : Int), .int .i64 (x.size : Int), .int .u64 (x.check : Int)] 49))
              have hoo := hUA.out.oo
              rw [hll.out] at hoo
              have hcell := (hoo.cellAt (i * 2 + 1) (by omega)).trans ((flatS_get ls i hltl).2)
              rw [← hs] at hcell
              unfold SecM.body at hcell
              have hbs := (hUA.out.bs s hmem).1
              have hTw : Hid (Crc.Tab (wr.alloc (.cells #[.int .i64 (x.kind : Int), .int .i64 (x.size : Int), .int .u64 (x.check : Int)] 49))) := Crc.tab_below (Crc.tab_below hT hbm.out) (by have h := hUA.out.bel; rw [HBB.out] at h; exact h)
              have CO := Kit.hid (Crc.of_any s.A s.b s.b.length s.cap (wr.alloc (.cells #[.int .i64 (x.kind : Int), .int .i64 (x.size : Int), .int .u64 (x.check : Int)] 49)).drew (Crc.tab_below hTw ((Below.refl _ _).drew)) (bytes_below hbs ((Below.refl _ _).drew)) (by omega) rfl)
              obtain ⟨cr, hcr⟩ : ∃ c, c = (CrcM.more 0#32 s.b).toNat := ⟨_, rfl⟩
              rw [← hcr] at CO
              have hclt := crc_lt s.b
              rw [← hcr] at hclt
              have rc : IntKind.u64.wrap (cr : Int) = (cr : Int) := by simp [IntKind.wrap, IntKind.bits, IntKind.signed]; omega
              have HCR := Kit.hid hcr
              have HX := Kit.hid hx
              have HSS := Kit.hid hs
              have HCK := Kit.hid hck
              have hi2 : (i : Int) < (Es.length : Int) := by omega
              have hi0 : (0 : Int) ≤ (i : Int) := by omega
              clear hcr hclt hx hs hmem hsb hoo hbs hTw hbA hck
              go_wp2_with fail
              obtain ⟨wl, hwl⟩ : ∃ y, y = wr.alloc (.cells #[.int .i64 (x.kind : Int), .int .i64 (x.size : Int), .int .u64 (x.check : Int)] 49) := ⟨_, rfl⟩
              rw [← hwl]
              rw [← hwl] at hUA CO hcell l2
              clear hwl k0 k1 k2 l0 l1
              have hUd := Kit.hid (hUA.out.below ((Below.refl _ wl).drew))
              refine wp_region_noPanic ?_
              refine wp_region_held_drew (S := fun w' => w'.cell? ⟨go, i * 2 + 1, none⟩ = some (.slice s.A s.b.length s.cap) ∧ w'.cell? ⟨wr.heap.size, 2, none⟩ = some (.int .u64 (x.check : Int))) (by kernel_rfl) ⟨hcell, l2⟩ (fun hHeld => ?_)
              refine wpAnyH_take (i := 0) (hi := by simp only [List.getElem?_toArray, List.getElem?_cons_succ, List.getElem?_cons_zero]; rfl) (v := ?_) (by kernel_rfl) (by kernel_rfl) (by kernel_rfl) (fun _ _ _ h => h) (Or.inl ⟨by rfl, ?_⟩) (by assumption) ?_
              rotate_left
              · (intro w hSw; (try dsimp only at hSw); go_simp; first | done | with_reducible rfl)
              try simp only [Act.put, List.setIfInBounds_toArray, List.set_cons_zero, List.set_cons_succ]
              refine wpAnyH_take (i := 1) (hi := by simp only [List.getElem?_toArray, List.getElem?_cons_succ, List.getElem?_cons_zero]; rfl) (v := ?_) (by kernel_rfl) (by kernel_rfl) (by kernel_rfl) (fun _ _ _ h => h) (Or.inl ⟨by rfl, ?_⟩) (by assumption) ?_
              rotate_left
              · (intro w hSw; (try dsimp only at hSw); go_simp; first | done | with_reducible rfl)
              try simp only [Act.put, List.setIfInBounds_toArray, List.set_cons_zero, List.set_cons_succ]
              refine wpAnyH_take (i := 2) (hi := by simp only [List.getElem?_toArray, List.getElem?_cons_succ, List.getElem?_cons_zero]; rfl) (v := ?_) (by kernel_rfl) (by kernel_rfl) (by kernel_rfl) (fun _ _ _ h => h) (Or.inl ⟨by rfl, ?_⟩) (by assumption) ?_
              rotate_left
              · (intro w hSw; (try dsimp only at hSw); go_simp; first | done | with_reducible rfl)
              try simp only [Act.put, List.setIfInBounds_toArray, List.set_cons_zero, List.set_cons_succ]
              refine wpAnyH_take (i := 3) (hi := by simp only [List.getElem?_toArray, List.getElem?_cons_succ, List.getElem?_cons_zero]; rfl) (v := ?_) (by kernel_rfl) (by kernel_rfl) (by kernel_rfl) (fun _ _ _ h => h) (Or.inl ⟨by rfl, ?_⟩) (by assumption) ?_
              rotate_left
              · (intro w hSw; (try dsimp only at hSw); go_simp; first | done | with_reducible rfl)
              try simp only [Act.put, List.setIfInBounds_toArray, List.set_cons_zero, List.set_cons_succ]
              refine wpAnyH_take (i := 4) (hi := by simp only [List.getElem?_toArray, List.getElem?_cons_succ, List.getElem?_cons_zero]; rfl) (v := ?_) (by kernel_rfl) (by kernel_rfl) (by kernel_rfl) (fun _ _ _ h => h) (Or.inl ⟨by rfl, ?_⟩) (by assumption) ?_
              rotate_left
              · (intro w hSw; (try dsimp only at hSw); go_simp; first | done | with_reducible rfl)
              try simp only [Act.put, List.setIfInBounds_toArray, List.set_cons_zero, List.set_cons_succ]
              refine wpAnyH_take (i := 7) (hi := by simp only [List.getElem?_toArray, List.getElem?_cons_succ, List.getElem?_cons_zero]; rfl) (v := ?_) (by kernel_rfl) (by kernel_rfl) (by kernel_rfl) (fun _ _ _ h => h) (Or.inl ⟨by rfl, ?_⟩) (by assumption) ?_
              rotate_left
              · (intro w hSw; (try dsimp only at hSw); go_simp; first | done | with_reducible rfl)
              try simp only [Act.put, List.setIfInBounds_toArray, List.set_cons_zero, List.set_cons_succ]
              refine wpAnyH_take (i := 8) (hi := by simp only [List.getElem?_toArray, List.getElem?_cons_succ, List.getElem?_cons_zero]; rfl) (v := ?_) (by kernel_rfl) (by kernel_rfl) (by kernel_rfl) (fun _ _ _ h => h) (Or.inl ⟨by rfl, ?_⟩) (by assumption) ?_
              rotate_left
              · (intro w hSw; (try dsimp only at hSw); go_simp; first | done | with_reducible rfl)
              try simp only [Act.put, List.setIfInBounds_toArray, List.set_cons_zero, List.set_cons_succ]
              refine wpAnyH_ready (rs := [5]) (by kernel_rfl) (by simp) ?_
              refine AllReadyH.cons (ho := by simp only [List.getElem?_toArray, List.getElem?_cons_succ, List.getElem?_cons_zero]; rfl) (fun K hK => ?_) AllReadyH.nil
              go_simp
              go_at_call 24; refine CO.out.mono ?_; rintro e w9 ⟨rfl, rfl⟩
              go_wp2_with fail
              refine hK.out _ _ ?_ (fun hHeldN => ?_)
              · exact hHeld
              clear hHeld
              have hHeld := hHeldN
              clear hHeldN
              clear hK K
              try simp only [Act.put, List.setIfInBounds_toArray, List.set_cons_zero, List.set_cons_succ]
              refine wpAnyH_take (i := 6) (hi := by simp only [List.getElem?_toArray, List.getElem?_cons_succ, List.getElem?_cons_zero]; rfl) (v := ?_) (by kernel_rfl) (by kernel_rfl) (by kernel_rfl) (fun _ _ _ h => h) (Or.inl ⟨by rfl, ?_⟩) (by assumption) ?_
              rotate_left
              · (intro w hSw; (try dsimp only at hSw); go_simp; first | done | with_reducible rfl)
              try simp only [Act.put, List.setIfInBounds_toArray, List.set_cons_zero, List.set_cons_succ]
              refine wpAnyH_take (i := 9) (hi := by simp only [List.getElem?_toArray, List.getElem?_cons_succ, List.getElem?_cons_zero]; rfl) (v := ?_) (by kernel_rfl) (by kernel_rfl) (by kernel_rfl) (fun _ _ _ h => h) (Or.inl ⟨by rfl, ?_⟩) (by assumption) ?_
              rotate_left
              · (intro w hSw; (try dsimp only at hSw); go_simp; first | done | with_reducible rfl)
              try simp only [Act.put, List.setIfInBounds_toArray, List.set_cons_zero, List.set_cons_succ]
              clear hHeld
              refine wpAnyH_done (by kernel_rfl) ?_ _
              refine NoPanic.normal ?_
              by_cases hq : cr = x.check
              · have t1 : ((cr : Int) != (x.check : Int)) = false := by simp; omega
                have t2 : ((cr : Int) == (x.check : Int)) = true := by simp; omega
                have t3 : (cr != x.check) = false := by simp [hq]
                have t4 : (cr == x.check) = true := by simp [hq]
                have hck2 : Hid (∀ j (h : j < ls.length), j < i + 1 → (CrcM.more 0#32 ls[j].b).toNat = (Es[j]'(by rw [← hll.out]; exact h)).check) := Kit.hid (by
                  intro j h hj
                  rcases Nat.lt_or_ge j i with h1 | h1
                  · exact HCK.out j h h1
                  · obtain rfl : j = i := by omega
                    rw [← HSS.out, ← HX.out, ← HCR.out, hq])
                clear hq
                go_wp2_with fail
                go_roundw
                case rel => exact ⟨i + 1, by omega, by go_num, hck2.out, hUd⟩
                case measure => simp [intOf]; omega
              · have t1 : ((cr : Int) != (x.check : Int)) = true := by simp; omega
                have t2 : ((cr : Int) == (x.check : Int)) = false := by simp; omega
                have t3 : (cr != x.check) = true := by simp [hq]
                have t4 : (cr == x.check) = false := by simp [hq]
                have E : Hid (unp l = (4, [])) := Kit.hid (by
                  rw [HUN.out, if_pos]
                  cases hch : checks Es q with
                  | false => rfl
                  | true =>
                    have h1 := (checks_iff Es q).1 hch i hlt
                    have h2 := congrArg (fun y : List Sec => y[i]?) HCUT.out
                    simp only [List.getElem?_map, List.getElem?_eq_getElem hltl, Option.map_some, List.getElem?_eq_getElem (show i < (cut Es q).length by rw [cut_length]; exact hlt)] at h2
                    rw [← Option.some.inj h2, ← HX.out, ← HSS.out] at h1
                    exact absurd (HCR.out.trans h1) hq)
                clear hq
                go_wp2_with fail
                go_ret2
                exact unp_bad E.out (hbm.out.trans (hUd.out.bel.mono (by rw [HBB.out]; exact hbm.out.size)))
            · obtain rfl : i = Es.length := by omega
              have E : Hid (unp l = (0, cut Es q)) := Kit.hid (by
                rw [HUN.out, if_neg]
                intro hch
                have hct : checks Es q = true := (checks_iff Es q).2 (fun j hj => by
                  have hjl : j < ls.length := by rw [hll.out]; exact hj
                  have h1 := hck j hjl hj
                  have h2 := congrArg (fun y : List Sec => y[j]?) HCUT.out
                  simp only [List.getElem?_map, List.getElem?_eq_getElem hjl, Option.map_some, List.getElem?_eq_getElem (show j < (cut Es q).length by rw [cut_length]; exact hj)] at h2
                  rw [← Option.some.inj h2]
                  exact h1)
                rw [hct] at hch
                cases hch)
              clear hck
              have hoo := hU.out.oo
              obtain ⟨A9, cap9, hv9, hc9, hle9, _⟩ := own_readsS (by decide) hoo
              simp only [Value.slice.injEq] at hv9
              obtain ⟨hA9, _, hcap9⟩ := hv9
              rw [← hA9] at hc9
              rw [← hcap9] at hle9
              clear hA9 hcap9
              have hsecs := secs_of_cells hc9 (fun s hs => (hU.out.bs s hs).1)
              go_wp2_with fail
              go_ret2
              refine ⟨Ao, capo, ls, ?_, ?_, hsecs, ?_, ?_, hbm.out.trans (hU.out.bel.mono (by rw [HBB.out]; exact hbm.out.size))⟩
              · rw [E.out, hll.out]
                rfl
              · rw [E.out]
                exact HCUT.out
              · exact hle9
              · rw [hll.out]; exact hE16
end Go.Proofs.YtlmbghemlphoaaaDoor.Pa
