/- The walk of Put onto a row that has no room: a literal's. -/
import Derived.Test.YtlmbghemlphoaaaDoorLe
import Derived.ArgAppend
namespace Go.Proofs.YtlmbghemlphoaaaDoor.Kit
open Go.RowKit
set_option linter.unusedVariables false
theorem own_base {w : World} {base base' size n : Nat} {e : TypeId} {v : Value} {xs : List Value} (h : w.ownsRow base e size v n xs) (hb : base' ≤ base) : w.ownsRow base' e size v n xs :=
  ⟨h.1, h.2.elim Or.inl (fun ⟨g, cap, cur, hv, hg, r⟩ => Or.inr ⟨g, cap, cur, hv, Nat.le_trans hb hg, r⟩)⟩
/-- append to a row without room, whosever it is: the new row is the call's own. -/
theorem wpList_append_full {P : Program} {w : World} {ops : Array Oper} {rest : List Oper} {o : Oper} {a : Act} {Q : Exit → Act → World → Prop} (hgd : o.guard = none) (s x : Operand) (t : TypeId)
    (ho : o.op = .call { callee := .builtin .append, args := #[s, x], argTypes := #[t, t] })
    (e : TypeId) (z : Value) (bytes : Nat) (ht : P.underlying t = some (.slice e)) (hinfo : (P.info? e).map (fun i => (i.zero, i.size, i.bytes)) = some (some z, 1, bytes)) (hzs : z.cells.size = 1)
    (b : Addr) (n : Nat) (olds : List Value) (hs : a.eval s = .slice (some b) n n) (hlo : olds.length = n) (holds : Cells w (some b) olds)
    (A : Option Addr) (m c : Nat) (news : List Value) (hx : a.eval x = .slice A m c) (hl : news.length = m) (hm : 0 < m) (hnews : Cells w A news)
    (h63 : n + m ≤ maxLen) (hbytes : (n + m) * bytes ≤ 140737488355328)
    (h : ∀ v' w', w'.ownsRow w.heap.size e 1 v' (n + m) (olds ++ news) → w.grownBy w' none → wpList P ops Q rest (a.put o.dst v') w') : wpList P ops Q (o :: rest) a w := by
  refine wpList_plain hgd fun K hK => ?_
  obtain ⟨i, hi, hz, hsize, hby⟩ := info_of hinfo
  have cells : ∀ {A : Addr} {l : List Value}, Cells w (some A) l → ∀ j u, l[j]? = some u → w.cell? (A.add j) = some u := by
    intro A l hc j u hj
    obtain ⟨hlt, rfl⟩ := List.getElem?_eq_some_iff.1 hj
    obtain ⟨ad, h2, h3⟩ := hc j hlt
    cases h2
    exact h3
  cases A with
  | none =>
    obtain ⟨ad, h2, _⟩ := hnews 0 (by omega)
    cases h2
  | some ad =>
    obtain ⟨v', w', hr, h2, h3⟩ := run_append_arg_grows (P := P) w t o.type e i z 1 bytes ht hi hz hsize hby hzs (by decide) b n n olds (by omega) (cells holds) ad m c news (by omega) (cells hnews) (by omega) h63 hbytes
    unfold Oper.wp execOp
    simp only [ho, resolve, invoke, builtin, Sem.run_bind, Sem.run_pure, Result.andThen_ok, List.map_toArray, List.map_cons, List.map_nil, hs, hx, hr]
    exact hK _ _ (h v' w' h2 h3)
end Go.Proofs.YtlmbghemlphoaaaDoor.Kit
namespace Go.Proofs.YtlmbghemlphoaaaDoor.Le
open Go.RowKit Go.Proofs.YtlmbghemlphoaaaDoor.Kit Go.Proofs.YtlmbghemlphoaaaDoor.LeM
set_option linter.unusedVariables false
set_option linter.unusedSimpArgs false
def PutFull (w : World) (l : List (BitVec 8)) (e : Ending) (w' : World) : Prop :=
  ∃ v', e = .returned v' ∧ w'.ownsRow w.heap.size 5 1 v' l.length (l.map byteV) ∧ Below w.heap.size w w'
def Own (w : World) (ad : Addr) (l : List (BitVec 8)) (k : Nat) (wr : World) (v' : Value) (l' : List (BitVec 8)) (j : Nat) : Prop :=
  (v' = .slice (some ad) l.length l.length ∧ l' = l ∧ j = k) ∨ wr.ownsRow w.heap.size 5 1 v' l'.length (l'.map byteV)
set_option maxHeartbeats 400000 in
theorem put_full (ad : Addr) (l : List (BitVec 8)) (n : Nat) (width : Int) (w : World) (hown : Hid (Bytes w (some ad) l)) (hl : l.length ≤ 70368744177664) (hn : n < 18446744073709551616) :
    Calls Tryd.prog 28 #[.slice (some ad) l.length l.length, .int .u64 n, .int .i64 width] w (PutFull w (l ++ dig n (hw width))) := by
  have hk := hw_bd width
  obtain ⟨k, hkk⟩ : ∃ k, k = hw width := ⟨_, rfl⟩
  rw [← hkk] at hk
  have HK := Kit.hid hkk
  have HP : Hid (∀ (e : Ending) (w' : World) (l' : List (BitVec 8)) (v' : Value), l' = l ++ dig n k → e = .returned v' → w'.ownsRow w.heap.size 5 1 v' l'.length (l'.map byteV) → Below w.heap.size w w' → PutFull w (l ++ dig n (hw width)) e w') := by
    show ∀ _ _ _ _, _
    intro e w' l' v' h1 h2 h3 h4
    rw [← hkk, ← h1]
    exact ⟨v', h2, h3, h4⟩
  clear hkk
  go_enter Tryd.func28, Tryd.ntmps28
  go_wp2
  refine scope_label 0 (fun a' wr => ∃ (j m : Nat) (v' : Value) (l' : List (BitVec 8)) (u8 u9 u10 u11 u12 u13 u14 u15 u16 u17 u18 u19 u20 u21 : Value),
    a' = { tmps := #[v', .int .u64 m, .int .i64 width, undef, undef, undef, .slice none 0 0, .int .i64 j, u8, u9, u10, u11, u12, u13, u14, u15, u16, u17, u18, u19, u20, u21], defers := [] } ∧
    Hid (Own w ad l k wr v' l' j) ∧ Hid (Below w.heap.size w wr) ∧ Hid (l' ++ dig m j = l ++ dig n k) ∧ j ≤ 8 ∧ l'.length ≤ 70368744177664 + (8 - j) ∧ m < 18446744073709551616) (fun a' _ => (intOf (a'.tmps.getD 7 undef)).toNat) rfl ?_ ?_
  · rintro a' wr ⟨j, m, v', l', u8, u9, u10, u11, u12, u13, u14, u15, u16, u17, u18, u19, u20, u21, rfl, ho, hg, hd, hj, hll, hm⟩
    by_cases hz : j = 0
    · subst hz
      have h0 : ((0 : Int) == 0) = true := rfl
      go_wp2
      simp only [Exit.jump]
      go_ret
      have hd' := hd.out
      simp only [dig, List.append_nil] at hd'
      rcases ho.out with ⟨_, _, h3⟩ | ho
      · omega
      · exact HP.out _ _ l' v' hd' rfl ho hg.out
    · obtain ⟨i, rfl⟩ : ∃ i, j = i + 1 := ⟨j - 1, by omega⟩
      have h0 : (((i + 1 : Nat) : Int) == 0) = false := beq_eq_false_iff_ne.2 (by omega)
      have h1 : ((i : Int) + 1 == 0) = false := beq_eq_false_iff_ne.2 (by omega)
      obtain ⟨b, hb⟩ : ∃ b, b = BitVec.ofNat 8 m := ⟨_, rfl⟩
      have e1 : (m : Int) % 256 = (b.toNat : Int) := by
        rw [hb, BitVec.toNat_ofNat]
        omega
      obtain ⟨q, hq⟩ : ∃ q, q = m / 256 := ⟨_, rfl⟩
      have e2 : (m : Int) / 256 = (q : Int) := by omega
      have hq2 : q < 18446744073709551616 := by omega
      have bb := b.isLt
      have HD : Hid ((l' ++ [b]) ++ dig q i = l ++ dig n k) := by
        show _ = _
        rw [← hd.out, hb, hq]
        simp [dig]
      clear hb hq hd
      have hnew : Cells (wr.alloc (.cells #[.int .u8 (b.toNat : Int)] 5)) (some ⟨wr.heap.size, 0, none⟩) [byteV b] := by
        intro i hi
        obtain rfl : i = 0 := by simpa using hi
        exact ⟨_, rfl, (blk_cell (blk_new wr (.cells #[.int .u8 (b.toNat : Int)] 5)) 0).trans rfl⟩
      have hBw : w.heap.size ≤ wr.heap.size := hg.out.size
      have hbA := hg.out.alloc hBw (.cells #[.int .u8 (b.toNat : Int)] 5)
      rcases ho.out with ⟨rfl, rfl, hjk⟩ | ho
      · clear hjk
        have hcA : Cells (wr.alloc (.cells #[.int .u8 (b.toNat : Int)] 5)) (some ad) (l'.map byteV) := cells_of_bytes (bytes_below hown hbA)
        go_wp2_with (at_builtin; refine wpList_append_full rfl _ _ 22 rfl 5 (.int .u8 0) 1 Tryd.underlying22 infoB rfl ad l'.length (l'.map byteV) rfl (by simp) hcA (some ⟨wr.heap.size, 0, none⟩) 1 1 [byteV b] rfl rfl (by decide) hnew (by unfold maxLen; omega) (by omega) ?_
                     intro v2 w2 hown2 hg2)
        have hown3 := own_base hown2 (base' := w.heap.size) (by simp; omega)
        have hb2 := hbA.grown hg2 (by simp; omega) (fun k hk => by cases hk)
        go_step3
        refine ⟨rfl, ⟨i, q, v2, l' ++ [b], _, _, _, _, _, _, _, _, _, _, _, _, _, _, ⟨by first | rfl | (congr 1), ?_, Kit.hid hb2, HD, by omega, by simp; omega, hq2⟩⟩, ?_⟩
        · refine Kit.hid (.inr ?_)
          rw [List.map_append, List.length_append]
          exact hown3
        · simp [intOf]
      have hown0 := ho.alloc (.cells #[.int .u8 (b.toNat : Int)] 5)
      go_wp2_with (at_builtin; refine wpList_append_src rfl _ _ 22 rfl w.heap.size 5 (.int .u8 0) 1 Tryd.underlying22 infoB rfl _ _ _ rfl hown0 (some ⟨wr.heap.size, 0, none⟩) 1 1 [byteV b] rfl rfl hnew (fun u hu => by simp at hu; subst hu; rfl) (by unfold maxLen; omega) (by omega) (by simp; omega) ?_
                   intro v2 w2 hown2 hg2 hv2)
      have hb2 := below_own hbA hown0 hg2 (by simp; omega)
      go_step3
      refine ⟨rfl, ⟨i, q, v2, l' ++ [b], _, _, _, _, _, _, _, _, _, _, _, _, _, _, ⟨by first | rfl | (congr 1), ?_, Kit.hid hb2, HD, by omega, by simp; omega, hq2⟩⟩, ?_⟩
      · refine Kit.hid (.inr ?_)
        rw [List.map_append, List.length_append]
        exact hown2
      · simp [intOf]
  · intro HF
    go_wp2_with (go_at_call 38; refine (held_any width _).mono ?_; rintro e w' ⟨rfl, rfl⟩)
    go_step3
    rename_i K hK
    refine hK _ _ ?_
    exact HF.out _ _ ⟨k, n, _, l, _, _, _, _, _, _, _, _, _, _, _, _, _, _, ⟨by rw [HK.out], Kit.hid (.inl ⟨rfl, rfl, rfl⟩), Kit.hid (Below.refl _ _), Kit.hid rfl, by omega, by omega, hn⟩⟩
end Go.Proofs.YtlmbghemlphoaaaDoor.Le
