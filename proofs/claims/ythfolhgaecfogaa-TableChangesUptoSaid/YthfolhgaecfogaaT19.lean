import Derived.Test.YthfolhgaecfogaaT18
set_option linter.unusedVariables false
set_option linter.unusedSimpArgs false
namespace Go.Proofs.Ythfolhgaecfogaa
open Go.RowKit Go.Proofs.YthfolhgaecfogaaW.PrintWords Go.Proofs.YthfolhgaecfogaaW.PrintLast Go.Proofs.YthfolhgaecfogaaW.PrintMore
def insP (l : List S34) (id : Int) : Nat := (l.takeWhile (fun x => decide (x.f0 ≤ id))).length
theorem insP_le (l : List S34) (id : Int) : insP l id ≤ l.length := (List.takeWhile_sublist _).length_le
theorem insP_at : ∀ (l : List S34) (id : Int) (h : insP l id < l.length), id < l[insP l id].f0
  | [], _, h => by simp [insP] at h
  | x :: r, id, h => by
    unfold insP at h ⊢
    by_cases hx : x.f0 ≤ id
    · simp only [List.takeWhile_cons, decide_eq_true hx, if_true, List.length_cons] at h ⊢
      exact insP_at r id (by simpa [insP] using h)
    · simp only [List.takeWhile_cons, decide_eq_false hx] at h ⊢
      simpa using hx
theorem insP_below : ∀ (l : List S34) (id : Int) (k : Nat) (h : k < l.length), k < insP l id → l[k].f0 ≤ id
  | [], _, k, h, _ => by simp at h
  | x :: r, id, k, h, hk => by
    unfold insP at hk
    by_cases hx : x.f0 ≤ id
    · simp only [List.takeWhile_cons, decide_eq_true hx, if_true, List.length_cons] at hk
      cases k with
      | zero => exact hx
      | succ k => exact insP_below r id k (by simpa using h) (by unfold insP; omega)
    · simp [List.takeWhile_cons, decide_eq_false hx] at hk
/-- what stands after k hosts -/
def stI (l : List S34) (h : S34) (k : Nat) : List S34 := if insP l h.f0 < k then l.take (insP l h.f0) ++ [h] ++ (l.take k).drop (insP l h.f0) else l.take k
def raddCode (l : List S34) (h : S34) : Int := if !tableMay l then 1 else if !hostMay h then 1 else if 0 ≤ findI l h.f0 then 3 else if 64 ≤ l.length then 6 else 0
def insList (l : List S34) (h : S34) : List S34 := l.take (insP l h.f0) ++ [h] ++ l.drop (insP l h.f0)
def raddList (l : List S34) (h : S34) : List S34 := if raddCode l h = 0 then insList l h else []
theorem stI_one {l : List S34} {h : S34} {k : Nat} (hk : k < l.length) (hp : k < insP l h.f0) : stI l h (k + 1) = stI l h k ++ [l[k]] := by
  unfold stI
  rw [if_neg (by omega), if_neg (by omega), List.take_succ_eq_append_getElem hk]
theorem stI_two {l : List S34} {h : S34} {k : Nat} (hk : k < l.length) (hp : k = insP l h.f0) : stI l h (k + 1) = stI l h k ++ [h] ++ [l[k]] := by
  unfold stI
  rw [← hp, if_pos (by omega), if_neg (by omega), List.take_succ_eq_append_getElem hk, List.drop_append_of_le_length (by simp; omega), List.drop_of_length_le (by simp; omega)]
  rfl
theorem stI_more {l : List S34} {h : S34} {k : Nat} (hk : k < l.length) (hp : insP l h.f0 < k) : stI l h (k + 1) = stI l h k ++ [l[k]] := by
  unfold stI
  rw [if_pos (by omega), if_pos hp, List.take_succ_eq_append_getElem hk, List.drop_append_of_le_length (by simp; omega), List.append_assoc, List.append_assoc, List.append_assoc]
theorem stI_len (l : List S34) (h : S34) (k : Nat) (hk : k ≤ l.length) : (stI l h k).length ≤ l.length + 1 := by
  unfold stI
  split
  · simp; omega
  · simp; omega
theorem stI_end {l : List S34} {h : S34} (hp : insP l h.f0 < l.length) : stI l h l.length = insList l h := by
  unfold stI insList
  rw [if_pos hp, List.take_length]
theorem stI_end' {l : List S34} {h : S34} (hp : insP l h.f0 = l.length) : stI l h l.length ++ [h] = insList l h := by
  unfold stI insList
  rw [if_neg (by omega), hp, List.take_length, List.drop_length]
  simp
end Go.Proofs.Ythfolhgaecfogaa
