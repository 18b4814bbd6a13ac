/- The walk of told: all the items of a shelf, in a row of their own. -/
import Derived.Test.YtpgfenelckonoaaShV
import Derived.Test.YtpgfenelckonoaaShR
namespace Go.Proofs.Ytpgfenelckonoaa.Kit
open Go.RowKit
set_option linter.unusedVariables false
theorem wpListIn_append_srcS {F : Fence} {m' : Nat} {P : Program} {w : World} {ops : Array Oper} {rest : List Oper} {o : Oper} {a : Act} {Q : Exit → Act → World → Prop} (hgd : o.guard = none) (s x : Operand) (t : TypeId)
    (ho : o.op = .call { callee := .builtin .append, args := #[s, x], argTypes := #[t, t] })
    (base : Nat) (e : TypeId) (z : Value) (size bytes : Nat) (hs0 : 0 < size) (ht : P.underlying t = some (.slice e)) (hinfo : (P.info? e).map (fun i => (i.zero, i.size, i.bytes)) = some (some z, size, bytes)) (hzs : z.cells.size = size)
    (v : Value) (n : Nat) (xs : List Value) (hs : a.eval s = v) (hown : w.ownsRow base e size v n xs)
    (A : Option Addr) (m c : Nat) (news : List Value) (hx : a.eval x = .slice A m c) (hl : news.length = m * size) (hnews : Cells w A news) (h1 : ∀ u ∈ news, u.oneCell' = true)
    (h63 : n + m ≤ maxLen) (hbytes : (n + m) * bytes ≤ 140737488355328) (hbase : base ≤ w.heap.size)
    (h : ∀ v' w', w'.ownsRow base e size v' (n + m) (xs ++ news) → w.grownBy w' v.ownBlock → (v'.ownBlock = v.ownBlock ∨ v'.ownBlock = some w.heap.size) → wpListIn F m' P ops Q rest (a.put o.dst v') w') : wpListIn F m' P ops Q (o :: rest) a w := by
  refine wpListIn_plain hgd fun K hK' => ?_
  obtain ⟨i, hi, hz, hsize, hby⟩ := info_ofS hinfo
  obtain ⟨v', w', hr, h2, h3, h4⟩ := run_append_srcS (P := P) base t o.type e i z size bytes hs0 ht hi hz hsize hby hzs v n xs hown A m c news hl hnews h1 h63 hbytes hbase
  unfold Oper.wpIn
  refine ⟨?_, ?_⟩
  · simp [Oper.about, ho, resolve, Target.leads, Sem.run_pure]
  · rw [Oper.semAt_plain F _ _ (by rw [ho]; intro c hc'; cases hc')]
    simp [execOp, ho, resolve, invoke, builtin, hs, hx, hr, Result.andThen]
    exact hK' _ _ (h v' w' h2 h3 h4)
theorem own_same {w w' : World} {base : Nat} {e : TypeId} {size : Nat} {v : Value} {n : Nat} {xs : List Value} (h : w.ownsRow base e size v n xs) (hs : ∀ g, v.ownBlock = some g → w'.heap[g]? = w.heap[g]?) : w'.ownsRow base e size v n xs := by
  refine ⟨h.1, ?_⟩
  rcases h.2 with ⟨rfl, h0⟩ | ⟨g, cap, cur, rfl, h1, h2, h3⟩
  · exact .inl ⟨rfl, h0⟩
  · exact .inr ⟨g, cap, cur, rfl, h1, (hs g rfl).trans h2, h3⟩
theorem results_cell_cell {fn : Func} {p u : Tmp} {tp tu : TypeId} (h : fn.results = #[.cell p tp, .cell u tu]) (tmps : Array Value) (P : Program) (w : World) {a b : Addr} {v v' : Value} (ha : tmps.getD p undef = .pointer (some a)) (hb : tmps.getD u undef = .pointer (some b))
    (hv : (loadVar tp a).run P w = .ok v w) (hv' : (loadVar tu b).run P w = .ok v' w) : (results fn tmps).run P w = .ok (.tuple #[v, v']) w := by
  have ha' : tmps[p]?.getD undef = .pointer (some a) := by simpa using ha
  have hb' : tmps[u]?.getD undef = .pointer (some b) := by simpa using hb
  simp only [results, h]
  simp [Sem.run_bind, Result.andThen, ha', hb', asAddr, hv, hv']
end Go.Proofs.Ytpgfenelckonoaa.Kit
namespace Go.Proofs.Ytpgfenelckonoaa.Sh
open Go.RowKit Go.Shelf Go.Proofs.Ytpgfenelckonoaa.Kit Go.Proofs.Ytpgfenelckonoaa.ShM Go.Proofs.Ytpgfenelckonoaa.Seq
set_option linter.unusedVariables false
set_option linter.unusedSimpArgs false
attribute [local go_sem] Oper.semAt_some
theorem items_look {w0 w : World} {S0 : Nat → Prop} {p n : Nat} {l : List It} (h : Items w0 S0 w p l n) (hn : n ≤ 1099511627776) : ∃ gl, p < w.heap.size ∧ gl < w.heap.size ∧ l.length ≤ n ∧ ∀ (sb : Nat) (W' : World), Below w.heap.size w W' → W'.cell? ⟨sb, 0, none⟩ = some (.pointer (some ⟨p, 0, none⟩)) →
    SeqAt Try.prog 76 #[.pointer (some ⟨sb, 0, none⟩)] encR (ranked 0 l) (allRd p gl sb) W' := by
  have hl := h.length
  obtain ⟨t, ⟨gl, cl, vf, L, F, hH⟩, rfl, _⟩ := h
  have lp := hH.sh.plt
  have lg := hH.sh.glt
  refine ⟨gl, lp, lg, hl, fun sb W' hb hs => ?_⟩
  have hLw : Looks p gl cl L w := ⟨hH.sh.pcells.1, fun i n hi => hH.sh.ncells hi⟩
  exact all_seq p gl cl L t n ⟨_, hH.zero⟩ (Nat.le_trans hH.len hn) hH.fit.holds hH.fit.pos (Nat.le_trans hl hn) sb W' (hLw.same (hb.block _ lp) (hb.block _ lg)) ((cell_same (hb.block _ lp) 1).trans hH.sh.pcells.2.1) hs (by have := hb.size; omega)
def flatI (l : List It) : List Value := l.flatMap fun x => [.int .i64 x.key, .int .i64 x.id]
theorem flatI_snoc (l : List It) (x : It) : flatI (l ++ [x]) = flatI l ++ [.int .i64 x.key, .int .i64 x.id] := by simp [flatI]
theorem infoIt : (Try.prog.info? 107).map (fun i => (i.zero, i.size, i.bytes)) = some (some (.agg #[.int .i64 0, .int .i64 0]), 2, 16) := by kernel_rfl
theorem ranked_at : ∀ (k : Nat) (l : List It) (pre : List (Nat × It)) (e : Nat × It), pre ++ [e] <+: ranked k l → e.1 = k + pre.length
  | k, [], pre, e, h => by have := h.length_le; simp [ranked] at this
  | k, x :: l, [], e, h => by
    obtain ⟨q, hq⟩ := h
    simp only [ranked, List.nil_append, List.cons_append, List.cons.injEq] at hq
    rw [hq.1]; simp
  | k, x :: l, y :: pre, e, h => by
    obtain ⟨q, hq⟩ := h
    simp only [ranked, List.cons_append, List.cons.injEq] at hq
    have := ranked_at (k + 1) l pre e ⟨q, hq.2⟩
    simp only [List.length_cons]
    omega
theorem ranked_length : ∀ (k : Nat) (l : List It), (ranked k l).length = l.length
  | _, [] => rfl
  | k, x :: l => by simp [ranked, ranked_length (k + 1) l]
theorem ranked_snd : ∀ (k : Nat) (l : List It), (ranked k l).map Prod.snd = l
  | _, [] => rfl
  | k, x :: l => by simp [ranked, ranked_snd (k + 1) l]
theorem ranked_pre : ∀ (k : Nat) (l : List It) (pre : List (Nat × It)), pre <+: ranked k l → pre.map Prod.snd <+: l := fun k l pre h => by
  obtain ⟨q, hq⟩ := h
  refine ⟨q.map Prod.snd, ?_⟩
  rw [← List.map_append, hq, ranked_snd]
/-- What told's loop keeps. -/
def ToldI (w : World) (ob : Nat) (tO : TypeId) : (Nat → Prop) → List (Nat × It) → World → Prop := fun M pre W => ∃ v, M = (fun k => k = ob ∨ v.ownBlock = some k) ∧ W.heap[ob]? = some (.cells #[v] tO (0, 0)) ∧ W.ownsRow w.heap.size 107 2 v pre.length (flatI (pre.map Prod.snd)) ∧ v.ownBlock ≠ some ob ∧ Below w.heap.size w W
theorem ToldI.abide {w : World} {ob : Nat} {tO : TypeId} {B : Nat} (hB : w.heap.size ≤ B) : Abide B (ToldI w ob tO) := by
  rintro M s A A' ⟨v, rfl, h1, h2, h3, h4⟩ hag
  refine ⟨v, rfl, (hag.same ob (Array.getElem?_eq_some_iff.1 h1).1 (.inr (.inl rfl))).trans h1, own_same h2 (fun g hg => hag.same g (h2.lt g hg).2 (.inr (.inr hg))), h3, ?_⟩
  exact ⟨hag.os.trans h4.os, hag.tape.trans h4.tape, hag.output.trans h4.output, Nat.le_trans h4.size hag.size, fun k hk => (hag.same k (by have := h4.size; omega) (.inl (by omega))).trans (h4.block k hk)⟩
theorem litIt (w : World) (x : It) : Cells (w.alloc (.cells #[.int .i64 x.key, .int .i64 x.id] 107)) (some ⟨w.heap.size, 0, none⟩) [.int .i64 x.key, .int .i64 x.id] := by
  have h := World.ownsRow_lit (base := 0) (e := 107) (size := 2) w #[.int .i64 x.key, .int .i64 x.id] 1 (Nat.zero_le _) (by decide) rfl
  obtain ⟨A, cap, hv, hc, _⟩ := own_readsS (by decide) h
  cases hv
  exact hc
/-- One more is told. -/
theorem ToldI.snoc {w w₂ w5 : World} {ob : Nat} {tO : TypeId} {A : Option Addr} {cap g' cap' : Nat} {pre : List (Nat × It)} {y : It} {k : Nat} {tmp : Obj} {N : Nat → Prop} {S : Nat} (hob : w.heap.size ≤ ob) (hS : S ≤ w₂.heap.size)
    (hN : N = fun k => k = ob ∨ (Value.slice A pre.length cap).ownBlock = some k) (hvb : w₂.heap[ob]? = some (.cells #[.slice A pre.length cap] tO (0, 0))) (hown : w₂.ownsRow w.heap.size 107 2 (.slice A pre.length cap) pre.length (flatI (pre.map Prod.snd))) (hne : (Value.slice A pre.length cap).ownBlock ≠ some ob) (hb : Below w.heap.size w w₂)
    (ho : w5.ownsRow w.heap.size 107 2 (.slice (some ⟨g', 0, none⟩) (pre.length + 1) cap') (pre.length + 1) (flatI (pre.map Prod.snd) ++ [.int .i64 y.key, .int .i64 y.id])) (hg : (w₂.alloc tmp).grownBy w5 (Value.slice A pre.length cap).ownBlock) (hv : (Value.slice (some ⟨g', 0, none⟩) (pre.length + 1) cap').ownBlock = (Value.slice A pre.length cap).ownBlock ∨ (Value.slice (some ⟨g', 0, none⟩) (pre.length + 1) cap').ownBlock = some (w₂.alloc tmp).heap.size) :
    w5.heap[ob]? = some (.cells #[.slice A pre.length cap] tO (0, 0)) ∧
      Lie (fun k => N k ∨ S ≤ k) w₂ (w5.setCell ⟨ob, 0, none⟩ (.slice (some ⟨g', 0, none⟩) (pre.length + 1) cap')) ∧ Lie N w₂ (w5.setCell ⟨ob, 0, none⟩ (.slice (some ⟨g', 0, none⟩) (pre.length + 1) cap')) ∧ ∃ M', Grows N M' w₂ (w5.setCell ⟨ob, 0, none⟩ (.slice (some ⟨g', 0, none⟩) (pre.length + 1) cap')) ∧ ToldI w ob tO M' (pre ++ [(k, y)]) (w5.setCell ⟨ob, 0, none⟩ (.slice (some ⟨g', 0, none⟩) (pre.length + 1) cap')) := by
  have lo := (Array.getElem?_eq_some_iff.1 hvb).1
  have h5 : w5.heap[ob]? = some (.cells #[.slice A pre.length cap] tO (0, 0)) := (hg.block ob (by simp; omega) (fun e => hne e.symm)).trans ((Below.heap_alloc _ _ _ lo).trans hvb)
  have hs5 : (w5.setCell ⟨ob, 0, none⟩ (.slice (some ⟨g', 0, none⟩) (pre.length + 1) cap')).heap.size = w5.heap.size := by simp [World.setCell]
  have hz := hg.size
  rw [World.size_alloc] at hz hv
  have hne' : g' ≠ ob := by
    rcases hv with hv | hv
    · exact fun e => hne (by rw [← hv, e]; rfl)
    · have : g' = w₂.heap.size + 1 := by simpa [Value.ownBlock] using hv
      omega
  have hlie : Lie N w₂ (w5.setCell ⟨ob, 0, none⟩ (.slice (some ⟨g', 0, none⟩) (pre.length + 1) cap')) := by
    refine ⟨by rw [hs5]; omega, fun j hj hn => ?_⟩
    rw [hN] at hn
    rw [Below.heap_setCell _ _ _ j (fun e => hn (.inl e)), hg.block j (by simp; omega) (fun e => hn (.inr e.symm)), Below.heap_alloc _ _ _ hj]
  have hown' := ho.lt g' rfl
  refine ⟨h5, hlie.mono (fun k h => .inl h), hlie, fun j => j = ob ∨ (Value.slice (some ⟨g', 0, none⟩) (pre.length + 1) cap').ownBlock = some j, fun j hj => ?_, _, rfl, ?_, ?_, ?_, ?_⟩
  · rw [hs5, hN]
    rcases hj with rfl | hj
    · exact ⟨by omega, .inl (.inl rfl)⟩
    · obtain rfl : g' = j := by simpa [Value.ownBlock] using hj
      refine ⟨hown'.2, ?_⟩
      rcases hv with hv | hv
      · exact .inl (.inr (by rw [← hv]; rfl))
      · have : g' = w₂.heap.size + 1 := by simpa [Value.ownBlock] using hv
        exact .inr (by omega)
  · exact (blk_put h5 0 _ rfl).trans (by simp)
  · rw [List.length_append, List.map_append, List.map_cons, List.map_nil, flatI_snoc]
    exact own_same ho (fun g hg => by
      obtain rfl : g' = g := by simpa [Value.ownBlock] using hg
      exact Below.heap_setCell _ _ _ _ hne')
  · simp [Value.ownBlock, hne']
  · have hb5 : Below w.heap.size w w5 := (hb.alloc hb.size tmp).grown hg (by have := hb.size; simp; omega) (fun k hk => (hown.lt k hk).1)
    exact hb5.setCell (p := ⟨ob, 0, none⟩) hob _
end Go.Proofs.Ytpgfenelckonoaa.Sh
