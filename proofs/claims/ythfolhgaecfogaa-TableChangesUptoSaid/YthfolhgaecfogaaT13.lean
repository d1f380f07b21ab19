import Derived.Test.YthfolhgaecfogaaT12
import Derived.Shelf.Spec.SlicesInsert
import Derived.Lib.AppendZerosOnto
set_option linter.unusedVariables false
set_option linter.unusedSimpArgs false
namespace Go.Proofs.Ythfolhgaecfogaa
open Go.RowKit Go.Proofs.YthfolhgaecfogaaW.PrintWords Go.Proofs.YthfolhgaecfogaaW.PrintLast Go.Proofs.YthfolhgaecfogaaW.PrintMore
/-- a row's cells with cs laid over them from off on -/
def over (cur : List Value) (off : Nat) (cs : List Value) : List Value := cur.take off ++ cs ++ cur.drop (off + cs.length)
theorem over_length (cur : List Value) (off : Nat) (cs : List Value) (h : off + cs.length ≤ cur.length) : (over cur off cs).length = cur.length := by simp [over]; omega
/-- copy between rows of elements of any size, the target known whole -/
theorem run_copy_at {P : Program} (w : World) (dT sT ty elem : TypeId) (sz : Nat) (g off dLen dCap : Nat) (ad : Addr) (sLen sCap : Nat) (cur : List Value) (t : TypeId) (cs : List Value) (m : Nat)
    (hu : P.underlying dT = some (.slice elem)) (hs : (P.info? elem).map (·.size) = some sz) (hg : w.heap[g]? = some (.cells cur.toArray t (0, 0)))
    (hm : Nat.min sLen dLen = m) (hl : cs.length = m * sz) (hsrc : ∀ j v, cs[j]? = some v → w.cell? (ad.add j) = some v) (hfit : off + cs.length ≤ cur.length) (h1 : ∀ v ∈ cs, v.oneCell' = true) :
    (Builtin.copy_ #[dT, sT] ty #[.slice (some ⟨g, off, none⟩) dLen dCap, .slice (some ad) sLen sCap]).run P w = .ok (goInt m) (w.setRow g (over cur off cs).toArray) := by
  have hf := run_firstCells_some (P := P) w sz m ad sLen sCap cs hl hsrc
  have hst := run_storeCells_at P g off t cs 0 cur.toArray w hg (by simpa using hfit) h1
  cases hq : P.info? elem with
  | none => simp [hq] at hs
  | some i =>
    have hi : i.size = sz := by simpa [hq] using hs
    simp only [Nat.add_zero] at hst
    simp [Builtin.copy_, run_underlying hu, Builtin.lenOf, sizeOf, typeInfo, hq, hi, hm, hf, hst, over]
theorem heap_setRow_any (w : World) (g : Nat) (a b : List Value) (t : TypeId) (h : w.heap[g]? = some (.cells a.toArray t (0, 0))) : (w.setRow g b.toArray).heap[g]? = some (.cells b.toArray t (0, 0)) := setRow_heap w g _ _ t _ h
theorem grown_setRow {w w' : World} {g : Nat} (h : w.grownBy w' (some g)) (cs : Array Value) : w.grownBy (w'.setRow g cs) (some g) :=
  ⟨h.os, h.tape, h.output, by rw [setRow_size]; exact h.size, fun k hk hne => (setRow_other w' g k cs (fun e => hne (by rw [e]))).trans (h.block k hk hne)⟩
theorem grown_drew {w w' : World} {r : Option Nat} (h : w.grownBy w' r) : w.grownBy w'.drew r := ⟨h.os, h.tape, h.output, h.size, h.block⟩
theorem grown_refl (w : World) (r : Option Nat) : w.grownBy w r := ⟨rfl, rfl, rfl, Nat.le_refl _, fun _ _ _ => rfl⟩
/-- a block that is new may be written -/
theorem grown_new {w w' : World} {g : Nat} {r : Option Nat} (h : w.grownBy w' r) (hg : w.heap.size ≤ g) (cs : Array Value) : w.grownBy (w'.setRow g cs) r :=
  ⟨h.os, h.tape, h.output, by rw [setRow_size]; exact h.size, fun k hk hne => (setRow_other w' g k cs (by omega)).trans (h.block k hk hne)⟩
theorem take_over (cur : List Value) (off : Nat) (cs : List Value) (k : Nat) (h : off + cs.length ≤ cur.length) (hk : k ≤ off) : (over cur off cs).take k = cur.take k := by
  unfold over
  rw [List.append_assoc, List.take_append_of_le_length (by simp; omega), List.take_take, Nat.min_eq_left hk]
/-- in place: the tail moved up by one element, then the element -/
theorem over_insert (cur : List Value) (n i sz : Nat) (x : List Value) (hx : x.length = sz) (hi : i ≤ n) (hcur : (n + 1) * sz ≤ cur.length) :
    (over (over cur ((i + 1) * sz) ((cur.drop (i * sz)).take ((n - i) * sz))) (i * sz) x).take ((n + 1) * sz) = (cur.take (n * sz)).take (i * sz) ++ x ++ (cur.take (n * sz)).drop (i * sz) := by
  have h1 : i * sz ≤ n * sz := Nat.mul_le_mul_right _ hi
  have h2 : (n + 1) * sz = n * sz + sz := by rw [Nat.add_mul, Nat.one_mul]
  have h3 : (i + 1) * sz = i * sz + sz := by rw [Nat.add_mul, Nat.one_mul]
  have h4 : (n - i) * sz = n * sz - i * sz := Nat.sub_mul _ _ _
  rw [h2] at hcur
  rw [h2, h3, h4]
  generalize i * sz = I at *
  generalize n * sz = N at *
  subst hx
  obtain ⟨T, hT⟩ : ∃ T, T = (cur.drop I).take (N - I) := ⟨_, rfl⟩
  have hTl : T.length = N - I := by rw [hT]; simp; omega
  rw [← hT]
  have e1 : (over cur (I + x.length) T).take I = cur.take I := take_over _ _ _ _ (by omega) (by omega)
  have e2 : (over cur (I + x.length) T).drop (I + x.length) = T ++ cur.drop (I + x.length + T.length) := by
    have hl : (cur.take (I + x.length)).length = I + x.length := by simp; omega
    unfold over
    rw [List.append_assoc, List.drop_append, hl, Nat.sub_self, List.drop_of_length_le (by rw [hl]; exact Nat.le_refl _)]
    rfl
  have e3 : cur.take N = cur.take I ++ T := by
    rw [hT]
    have : N = I + (N - I) := by omega
    conv => lhs; rw [this, List.take_add]
  have hI : (cur.take I).length = I := by simp; omega
  have e4 : (cur.take N).take I = cur.take I := by rw [List.take_take, Nat.min_eq_left h1]
  have e5 : (cur.take N).drop I = T := by rw [e3, List.drop_append, hI, Nat.sub_self, List.drop_of_length_le (by rw [hI]; exact Nat.le_refl _)]; rfl
  rw [e4, e5]
  unfold over at e1 e2 ⊢
  rw [e1, e2, ← List.append_assoc, List.take_append_of_le_length (by simp; omega)]
  apply List.take_of_length_le
  simp; omega
/-- in a new row: zeros filled -/
theorem over_filled (A X T D : List Value) (I s : Nat) (Z : List Value) (hA : A.length = I) (hX : X.length = s) (hZ : Z.length = s + T.length) :
    over (over (A ++ Z ++ D) I X) (I + s) T = A ++ X ++ T ++ D := by
  subst hA; subst hX
  have e : over (A ++ Z ++ D) A.length X = A ++ X ++ (Z.drop X.length ++ D) := by
    unfold over
    rw [List.append_assoc A, List.take_left, List.drop_append, List.drop_of_length_le (by omega), Nat.add_sub_cancel_left, List.drop_append, show X.length - Z.length = 0 by omega]
    simp
  rw [e]
  unfold over
  rw [show A.length + X.length = (A ++ X).length by simp, List.take_left, List.append_assoc (A ++ X), List.append_assoc (A ++ X)]
  congr 1
  congr 1
  rw [List.drop_append, List.drop_of_length_le (by omega), Nat.add_sub_cancel_left, List.drop_append, List.drop_of_length_le (by simp; omega)]
  have h0 : T.length - (Z.length - X.length) = 0 := by omega
  simp [h0]
/-- an append whose run is known, in a region that draws -/
theorem step_append_runI {P : Program} {ops : Array Oper} {o : Oper} {a : Act} {w : World} {K : Act → World → Prop} {Q : Exit → Act → World → Prop} {E : Prop}
    (hg : o.guard = none) (d x : Operand) (dT sT : TypeId) (hop : o.op = Op.call { callee := Callee.builtin Builtin.append, args := #[d, x], argTypes := #[dT, sT] })
    (v u : Value) (hd : a.eval d = v) (hx : a.eval x = u) {v' : Value} {w' : World} (hr : (Builtin.append_ #[dT, sT] o.type #[v, u]).run P w = .ok v' w') (hK : K (a.put o.dst v') w') :
    if Region.wanted o (yielded ops a.tmps) = true then Oper.wp P o a w K Q else E := by
  have hw : Region.wanted o (yielded ops a.tmps) = true := by simp [Region.wanted, hg]
  rw [if_pos hw]
  unfold Oper.wp
  simp [execOp, hop, resolve, invoke, builtin, hd, hx, hr, Result.andThen]
  exact hK
end Go.Proofs.Ythfolhgaecfogaa
