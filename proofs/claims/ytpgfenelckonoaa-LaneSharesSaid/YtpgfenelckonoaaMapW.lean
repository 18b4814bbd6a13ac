/- The operations on a map that a call has made, for the walk. -/
import Derived.Test.YtpgfenelckonoaaMapV
namespace Go.Proofs.Ytpgfenelckonoaa.Kit
open Go.Maps (Keyed)
set_option linter.unusedVariables false
theorem wpList_lookV {P : Program} {w : World} {ops : Array Oper} {rest : List Oper} {o : Oper} {a : Act} {Q : Exit → Act → World → Prop} (hg : o.guard = none) (m x : Operand) (t : TypeId) (c : Bool) (hop : o.op = Op.lookup t m x c)
    (k e : TypeId) (K : Keyed P k) (ht : P.underlying t = some (.map k e)) (z : Value) (hz : (zeroValue e).run P w = .ok z w) (b n : Nat) (f : Int → Option Value)
    (hm : a.eval m = .map (some b)) (hown : MapV P k w b f n) (i : Int) (hx : a.eval x = .int .i64 i) (hkey : keyOf P k (.int .i64 i) = some (.int .i64 i)) (r : Value) (hr : (if c then .tuple #[(f i).getD z, .bool (f i).isSome] else (f i).getD z) = r)
    (hK : wpList P ops Q rest (a.put o.dst r) w) : wpList P ops Q (o :: rest) a w := by
  refine wpList_plain hg fun K' hK' => ?_
  have hrun := hown.look c K ht hz hkey
  rw [hr] at hrun
  unfold Oper.wp
  simp [execOp, hop, hm, hx, hrun, Result.andThen]
  exact hK' _ _ hK
theorem wpList_storeV {P : Program} {w : World} {ops : Array Oper} {rest : List Oper} {o : Oper} {a : Act} {Q : Exit → Act → World → Prop} (hg : o.guard = none) (m x v : Operand) (t : TypeId) (hop : o.op = Op.mapUpdate t m x v)
    (k e : TypeId) (K : Keyed P k) (ht : P.underlying t = some (.map k e)) (b n : Nat) (f : Int → Option Value) (hm : a.eval m = .map (some b)) (hown : MapV P k w b f n) (hn : n < maxLen) (i : Int) (val : Value) (hx : a.eval x = .int .i64 i) (hv : a.eval v = val) (hkey : keyOf P k (.int .i64 i) = some (.int .i64 i))
    (hK : ∀ w', MapV P k w' b (fun j => if j = i then some val else f j) (n + 1) → w.grownBy w' (some b) → wpList P ops Q rest (a.put o.dst undef) w') : wpList P ops Q (o :: rest) a w := by
  refine wpList_plain hg fun K' hK' => ?_
  obtain ⟨w', hrun, r1, r2⟩ := hown.store K ht hn val hkey
  unfold Oper.wp
  simp [execOp, hop, hm, hx, hv, hrun, Result.andThen]
  exact hK' _ _ (hK w' r1 r2)
theorem wpList_dropV {P : Program} {w : World} {ops : Array Oper} {rest : List Oper} {o : Oper} {a : Act} {Q : Exit → Act → World → Prop} (hg : o.guard = none) (s x : Operand) (t : TypeId) (k e : TypeId)
    (ho : o.op = .call { callee := .builtin .delete, args := #[s, x], argTypes := #[t, k] }) (K : Keyed P k) (ht : P.underlying t = some (.map k e)) (b n : Nat) (f : Int → Option Value) (hm : a.eval s = .map (some b)) (hown : MapV P k w b f n) (i : Int) (hx : a.eval x = .int .i64 i) (hkey : keyOf P k (.int .i64 i) = some (.int .i64 i))
    (hK : ∀ w', MapV P k w' b (fun j => if j = i then none else f j) n → w.grownBy w' (some b) → wpList P ops Q rest (a.put o.dst (.tuple #[])) w') : wpList P ops Q (o :: rest) a w := by
  refine wpList_plain hg fun K' hK' => ?_
  obtain ⟨w', hrun, r1, r2⟩ := hown.drop (ty := o.type) K ht hkey
  unfold Oper.wp execOp
  simp only [ho, resolve, invoke, builtin, Sem.run_bind, Sem.run_pure, Result.andThen_ok, List.map_toArray, List.map_cons, List.map_nil, hm, hx, hrun]
  exact hK' _ _ (hK w' r1 r2)
theorem wp_storeV {P : Program} {w : World} {o : Oper} {a : Act} {K : Act → World → Prop} {Q : Exit → Act → World → Prop} (m x v : Operand) (t : TypeId) (hop : o.op = Op.mapUpdate t m x v)
    (k e : TypeId) (Kd : Keyed P k) (ht : P.underlying t = some (.map k e)) (b n : Nat) (f : Int → Option Value) (hm : a.eval m = .map (some b)) (hown : MapV P k w b f n) (hn : n < maxLen) (i : Int) (val : Value) (hx : a.eval x = .int .i64 i) (hv : a.eval v = val) (hkey : keyOf P k (.int .i64 i) = some (.int .i64 i))
    (hK : ∀ w', MapV P k w' b (fun j => if j = i then some val else f j) (n + 1) → w.grownBy w' (some b) → K (a.put o.dst undef) w') : o.wp P a w K Q := by
  obtain ⟨w', hrun, r1, r2⟩ := hown.store Kd ht hn val hkey
  unfold Oper.wp
  simp [execOp, hop, hm, hx, hv, hrun, Result.andThen]
  exact hK w' r1 r2
theorem step_of_wp {P : Program} {w : World} {ops : Array Oper} {o : Oper} {a : Act} {K : Act → World → Prop} {Q : Exit → Act → World → Prop} {E : Prop} (hgd : o.guard = none) (h : Oper.wp P o a w K Q) :
    if Region.wanted o (yielded ops a.tmps) = true then Oper.wp P o a w K Q else E := by
  have hw : Region.wanted o (yielded ops a.tmps) = true := by simp [Region.wanted, hgd]
  rw [if_pos hw]
  exact h
end Go.Proofs.Ytpgfenelckonoaa.Kit
