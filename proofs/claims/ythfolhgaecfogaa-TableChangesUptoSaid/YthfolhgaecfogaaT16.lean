import Derived.Test.YthfolhgaecfogaaT15
set_option linter.unusedVariables false
set_option linter.unusedSimpArgs false
namespace Go.Proofs.Ythfolhgaecfogaa
open Go.RowKit Go.Proofs.YthfolhgaecfogaaW.PrintWords Go.Proofs.YthfolhgaecfogaaW.PrintLast Go.Proofs.YthfolhgaecfogaaW.PrintMore
theorem M_moved {α : Type} {d : Kd α} {w w' : World} {B : Nat} {r r' : Option Nat} {x : α} {c : List Value} (h : d.M w B (fun k => True ∧ some k ≠ r) x c) (hg : w.grownBy w' r) (hat : r' = r ∨ ∃ b, r' = some b ∧ w.heap.size ≤ b) :
    d.M w' B (fun k => True ∧ some k ≠ r') x c := by
  refine d.M_mono (fun k hk => ⟨trivial, ?_⟩) (d.M_move (w1 := w') (fun k hk => hg.block k hk.2.2.1 hk.1.2) (d.M_bound h))
  rcases hat with rfl | ⟨b, rfl, hb⟩
  · exact hk.1.2
  · intro he
    injection he with he
    have := hk.2.2.1
    omega
theorem R_rebuilt {α : Type} {d : Kd α} {e : Nat} {w w' : World} {B : Nat} {v v' : Value} {ys : List α} {cs : List Value} (hr : Reps (d.M w B (fun k => True ∧ some k ≠ v.ownBlock)) d.sz ys cs) (ho : w'.ownsRow B e d.sz v' ys.length cs) (hg : w.grownBy w' v.ownBlock) (hat : v'.ownBlock = v.ownBlock ∨ ∃ b, v'.ownBlock = some b ∧ w.heap.size ≤ b) :
    d.R e w' B (fun _ => True) v' ys :=
  ⟨fun _ _ => trivial, cs, ho, hr.imp_ (fun _ _ hp => M_moved hp hg hat)⟩
theorem reps_one_ {α : Type} {R : α → List Value → Prop} {sz : Nat} {x : α} {c : List Value} (h : R x c) (hl : c.length = sz) : Reps R sz [x] c := by
  have := Reps.snoc (Reps.none R sz) h hl
  simpa using this
theorem insert_any34 (v : Value) (xs : List S34) (i : Nat) (x : S34) (cs : List Value) (okx : Nat → Prop) (b2 : Nat) (w : World) (B : Nat) (hB : B ≤ w.heap.size) (hR : Kd.R k34 34 w B (fun _ => True) v xs) (hi : i ≤ xs.length) (hn : xs.length ≤ 8388608)
    (hM : k34.M w B okx x cs) (hx : ∀ k, okx k → True ∧ some k ≠ v.ownBlock) (hb2 : w.heap[b2]? = some (.cells cs.toArray 34 (0, 0))) (hne : some b2 ≠ v.ownBlock) :
    Calls Try.prog 49 #[v, .int .i64 i, .slice (some ⟨b2, 0, none⟩) 1 1] w fun e w' => ∃ v', e = .returned v' ∧ Kd.R k34 34 w' B (fun _ => True) v' (xs.take i ++ [x] ++ xs.drop i) ∧ w.grownBy w' v.ownBlock := by
  obtain ⟨h0, inner, hown, hr⟩ := hR
  have hone := Kd.reps_one hr (by decide) (fun _ _ hp => k34.K_one (k34.K_of_M hp))
  have hcl : cs.length = 6 := k34.K_len (k34.K_of_M hM)
  refine (insert34 v xs.length i inner cs b2 w B hB hown hi hn hone hb2 hcl (k34.K_one (k34.K_of_M hM)) hne).mono ?_
  rintro e w' ⟨v', rfl, ho, hg, hat⟩
  refine ⟨v', rfl, R_rebuilt (cs := inner.take (i * 6) ++ cs ++ inner.drop (i * 6)) ?_ ?_ hg hat, hg⟩
  · exact Kd.reps_append (Kd.reps_append (Kd.reps_take (m := i) hr hi) (reps_one_ (k34.M_mono hx hM) hcl)) (Kd.reps_drop (m := i) hr)
  · have : (xs.take i ++ [x] ++ xs.drop i).length = xs.length + 1 := by simp; omega
    rw [this]; exact ho
theorem delete_any34 (v : Value) (xs : List S34) (i : Nat) (w : World) (B : Nat) (hR : Kd.R k34 34 w B (fun _ => True) v xs) (hi : i < xs.length) (hn : xs.length ≤ 8388608) :
    Calls Try.prog 63 #[v, .int .i64 i, .int .i64 ((i : Int) + 1)] w fun e w' => ∃ v', e = .returned v' ∧ Kd.R k34 34 w' B (fun _ => True) v' (xs.take i ++ xs.drop (i + 1)) ∧ w.grownBy w' v.ownBlock := by
  obtain ⟨h0, inner, hown, hr⟩ := hR
  have hone := Kd.reps_one hr (by decide) (fun _ _ hp => k34.K_one (k34.K_of_M hp))
  refine (delete34 v xs.length i inner w B hown hi hn hone).mono ?_
  rintro e w' ⟨v', rfl, ho, hg, hat⟩
  refine ⟨v', rfl, R_rebuilt (cs := inner.take (i * 6) ++ inner.drop ((i + 1) * 6)) ?_ ?_ hg (.inl hat), hg⟩
  · exact Kd.reps_append (Kd.reps_take (m := i) hr (by omega)) (Kd.reps_drop (m := i + 1) hr)
  · have : (xs.take i ++ xs.drop (i + 1)).length = xs.length - 1 := by simp; omega
    rw [this]; exact ho
end Go.Proofs.Ythfolhgaecfogaa
