import Derived.Test.YthfolhgaecfogaaT29
import Derived.Test.YthfolhgaecfogaaRows
import Derived.WalkKit
import Derived.ProofKit
import Derived.OpenShut
import Derived.JoinedCond
import Derived.ReadAgain
import Derived.ChangeOld
import Derived.ChangeSame
import Derived.Deep.Slices
set_option linter.unusedVariables false
set_option linter.unusedSimpArgs false
namespace Go.Proofs.Ythfolhgaecfogaa
open Go.RowKit Go.Proofs.YthfolhgaecfogaaW.PrintWords Go.Proofs.YthfolhgaecfogaaW.PrintLast Go.Proofs.YthfolhgaecfogaaW.PrintMore
open Go.ChangeShapes Go.WideShapes Go.ChangeAt
/-! ### what the arguments' readings give -/
theorem kids : Kids Try.prog (· < Try.prog.types.size) := kids_rows (by kernel_rfl) (by kernel_rfl)
theorem full : ∀ t e, t < Try.prog.types.size → Try.prog.underlying t = some (.slice e) → 0 < Try.prog.cellsOf e := slices_full_of Try.prog (by kernel_rfl)
theorem trodAll_carry {H : Type} {enc : TypeId × Value → H} {P : Program} {w w' : World} {base : Nat} {spare : Nat → Bool} {held : Bool} : ∀ {ts : List TypeId} {vs : List Value} {ds : List (DataW H)} {ps : List MemPlace},
    DataW.TrodAll enc P w base spare held ts vs ds ps → (∀ p ∈ ps, w.sameAt w' p) → DataW.TrodAll enc P w' base spare held ts vs ds ps
  | [], [], [], _, h, _ => h
  | _ :: _, _ :: _, _ :: _, _, ⟨p, q, ⟨n, h1⟩, h2, e⟩, hs => ⟨p, q, ⟨n, DataW.trod_carry n _ _ _ h1 (fun x hx => hs x (by rw [e]; exact List.mem_append_left _ hx))⟩, trodAll_carry h2 (fun x hx => hs x (by rw [e]; exact List.mem_append_right _ hx)), e⟩
/-- A LAW THAT ANSWERS TRUE AND WRITES NOTHING THAT CAME IN -/
theorem law_post {H : Type} {enc : TypeId × Value → H} {f : Func} {s : ChangeSpec} {W W' : World} {args : Array Value} {ds gs : List (DataW H)} {before : List MemPlace}
    (hW : DataW.Whole enc Try.prog f.params.toList s.vars false W args.toList ds gs before) (hv : s.vars = []) (hT : ∀ t ∈ f.params.toList, t < Try.prog.types.size) (hr : f.resultTypes = #[4])
    (hs : s.fn H (ds ++ gs) = { results := [.lit (.bool true)], args := ds }) (hb : Ext W W') : s.post enc Try.prog f false true false false W args (.bool true) W' := by
  have hlt := hW.lt
  have hW' := hW
  obtain ⟨p, q, hA, hV, rfl, _, _⟩ := hW
  rw [hv] at hV
  obtain ⟨rfl, rfl⟩ := trodVars_none hV
  have hA0 : DataW.TrodAll enc Try.prog W 0 (fun _ => true) true f.params.toList args.toList ds p := hA
  have h1 := DataW.TrodAll.respare (spare' := fun b => decide (b < W.heap.size)) kids full hT hA0 (fun x hx => by simpa using hlt x (by simpa using hx))
  have h2 := trodAll_carry (w' := W') h1 (fun x hx => hb.same (hlt x (by simpa using hx)))
  refine ⟨ds, [], _, [], p, [], hW', ?_, ?_, ?_, hb.frame _, fun h => by cases h⟩
  · rw [hs, hr]; exact trodAll_mk1 (shut_bool Try.underlying4 _)
  · rw [hs]; exact h2
  · rw [hs, hv]; rfl
/-- a reading of a type gives a value of a kind, no greater than its bulk -/
def Opn {α : Type} (d : Kd α) (t : TypeId) (sz : α → Nat) : Prop := ∀ {H : Type} {enc : TypeId × Value → H} {w : World} {base : Nat} {spare : Nat → Bool} {held : Bool} {fuel : Nat} {cs : List Value} {x : DataW H × List MemPlace},
  DataW.trod enc Try.prog w base spare held fuel t cs = some x → ∃ a, d.K w a cs ∧ sz a ≤ Rows.uptoBulk x.1
theorem bulk_one {H : Type} (d : DataW H) : 1 ≤ Rows.uptoBulk d := by
  cases d with
  | lit l => cases l <;> simp [Rows.uptoBulk]
  | nil => simp [Rows.uptoBulk]
  | ptr d => simp [Rows.uptoBulk]
  | slice elems spare => simp [Rows.uptoBulk]
  | agg parts => simp [Rows.uptoBulk]
  | iface t d => simp [Rows.uptoBulk]
  | map entries => simp [Rows.uptoBulk]
  | held h => simp [Rows.uptoBulk]
theorem sum_bulk {H α : Type} (sz : α → Nat) : ∀ (xs : List α) (ds : List (DataW H)), xs.length = ds.length → (∀ (i : Nat) (a : α) (d : DataW H), xs[i]? = some a → ds[i]? = some d → sz a ≤ Rows.uptoBulk d) → (xs.map sz).sum ≤ Rows.uptoBulkAll ds ∧ xs.length ≤ Rows.uptoBulkAll ds
  | [], [], _, _ => by simp [Rows.uptoBulkAll]
  | a :: r, d :: s, hl, h => by
    have ih := sum_bulk sz r s (by simpa using hl) (fun i a' d' h1 h2 => h (i + 1) a' d' (by simpa using h1) (by simpa using h2))
    have h0 := h 0 a d rfl rfl
    have h1 := bulk_one d
    simp only [List.map_cons, List.sum_cons, List.length_cons, Rows.uptoBulkAll]
    omega
/-- a slice's reading -/
theorem opn_slice {α : Type} [Inhabited α] {d : Kd α} {e : TypeId} {sz : α → Nat} (ho : Opn d e sz) {t : TypeId} (ht : Try.prog.underlying t = some (.slice e)) (hc : Try.prog.cellsOf e = d.sz)
    {H : Type} {enc : TypeId × Value → H} {w : World} {base : Nat} {spare : Nat → Bool} {held : Bool} {fuel : Nat} {cs : List Value} {x : DataW H × List MemPlace} (h : DataW.trod enc Try.prog w base spare held fuel t cs = some x) :
    ∃ (A : Option Addr) (c : Nat) (xs : List α), cs = [.slice A xs.length c] ∧ xs.length ≤ c ∧ Kd.C d w A xs.length xs ∧ (xs.map sz).sum + 1 ≤ Rows.uptoBulk x.1 ∧ xs.length + 1 ≤ Rows.uptoBulk x.1 := by
  rcases DataW.trod_slice ht h with ⟨rfl, rfl⟩ | ⟨a, len, cap, elems, rest, n, _, rfl, rfl, hb, hl, hm, hlen, hel, _, _⟩
  · exact ⟨none, 0, [], rfl, Nat.le_refl _, Kd.C_nil d w, by simp [Rows.uptoBulk], by simp [Rows.uptoBulk]⟩
  · obtain ⟨X, hX⟩ := Go.Deep.choose_lt (α := α) (p := fun i v => ∃ c y, elems[i]? = some y ∧ c.length = d.sz ∧ d.K w v c ∧ (∀ j u, c[j]? = some u → w.cell? (a.add (i * d.sz + j)) = some u) ∧ sz v ≤ Rows.uptoBulk y.1) (fun i hi => by
      have h1 := hel i hi
      have hil : i < elems.length := by omega
      rw [List.getElem?_eq_getElem hil] at h1
      obtain ⟨c, hc1, hc2⟩ := Option.bind_eq_some_iff.1 h1
      obtain ⟨v, hK, hs⟩ := ho hc2
      obtain ⟨_, hcl, hcell⟩ := World.cells?_some hc1
      refine ⟨v, c, _, List.getElem?_eq_getElem hil, by rw [hcl, hc], hK, fun j u hj => ?_, hs⟩
      have hjl : j < c.length := (List.getElem?_eq_some_iff.1 hj).1
      rw [← Go.Deep.add_add, ← hc, hcell j (by omega), hj])
    have hxl : ((List.range len).map X).length = len := by simp
    have hget : ∀ i v, ((List.range len).map X)[i]? = some v → i < len ∧ v = X i := fun i v hv => by
      have hi : i < ((List.range len).map X).length := (List.getElem?_eq_some_iff.1 hv).1
      rw [hxl] at hi
      refine ⟨hi, ?_⟩
      simp [hi] at hv
      exact hv.symm
    have hs := sum_bulk sz ((List.range len).map X) (elems.map (·.1)) (by simp [hlen]) (fun i v y h1 h2 => by
      obtain ⟨hi, rfl⟩ := hget i v h1
      obtain ⟨c, y', hy, _, _, _, hle⟩ := hX i hi
      rw [List.getElem?_map, hy] at h2
      injection h2 with h2
      rw [← h2]
      exact hle)
    refine ⟨some a, cap, (List.range len).map X, by rw [hxl], by omega, ⟨rfl, by rw [hxl]; simp only [maxLen] at hm; omega, fun _ => ⟨a, rfl, fun i v hv => ?_⟩⟩, ?_, ?_⟩
    · obtain ⟨hi, rfl⟩ := hget i v hv
      obtain ⟨c, _, _, hcl, hK, hcell, _⟩ := hX i hi
      exact ⟨c, hcl, hK, hcell⟩
    · simp only [Rows.uptoBulk]; omega
    · simp only [Rows.uptoBulk]; omega
theorem hosts_le : ∀ {l : List S34} {B : Nat}, (l.map hostSz).sum ≤ B → ∀ h ∈ l, hostSz h ≤ B
  | [], _, _, h, hh => by cases hh
  | x :: r, B, hs, h, hh => by
    simp only [List.map_cons, List.sum_cons] at hs
    rcases List.mem_cons.1 hh with rfl | hh
    · omega
    · exact hosts_le (by omega) h hh
instance : Inhabited S77 := ⟨z77⟩
instance : Inhabited S34 := ⟨z34⟩
theorem cells9 : Try.prog.cellsOf 9 = 1 := by kernel_rfl
theorem cells3 : Try.prog.cellsOf 3 = 1 := by kernel_rfl
theorem cells32 : Try.prog.cellsOf 32 = 1 := by kernel_rfl
theorem cells77 : Try.prog.cellsOf 77 = 2 := by kernel_rfl
theorem cells34 : Try.prog.cellsOf 34 = 6 := by kernel_rfl
theorem one_at {cs : List Value} {i n : Nat} {v : Value} (hl : cs.length = n) (hi : i < n) (h : (cs.drop i).take 1 = [v]) : cs[i]? = some v := by
  have : (cs.drop i)[0]? = some v := by
    have h1 : ((cs.drop i).take 1)[0]? = some v := by rw [h]; rfl
    rwa [List.getElem?_take, if_pos (by omega)] at h1
  rwa [List.getElem?_drop, Nat.add_zero] at this
theorem two_at {cs : List Value} {a b : Value} (hl : cs.length = 2) (q0 : cs[0]? = some a) (q1 : cs[1]? = some b) : cs = [a, b] := by
  match cs, hl with
  | [x, y], _ =>
    simp only [List.getElem?_cons_zero, List.getElem?_cons_succ, Option.some.injEq] at q0 q1
    rw [q0, q1]
theorem six_at {cs : List Value} {a b c d e f : Value} (hl : cs.length = 6) (q0 : cs[0]? = some a) (q1 : cs[1]? = some b) (q2 : cs[2]? = some c) (q3 : cs[3]? = some d) (q4 : cs[4]? = some e) (q5 : cs[5]? = some f) : cs = [a, b, c, d, e, f] := by
  match cs, hl with
  | [x0, x1, x2, x3, x4, x5], _ =>
    simp only [List.getElem?_cons_zero, List.getElem?_cons_succ, Option.some.injEq] at q0 q1 q2 q3 q4 q5
    rw [q0, q1, q2, q3, q4, q5]
theorem opn77 : Opn k77 77 pairSz := by
  intro H enc w base spare held fuel cs x h
  obtain ⟨y0, y1, n, rfl, hl, h0, h1⟩ := trod_struct2 Try.underlying77 h
  obtain ⟨s0, e0, rfl, _⟩ := DataW.trod_string Try.underlying9 h0
  obtain ⟨s1, e1, rfl, _⟩ := DataW.trod_string Try.underlying9 h1
  rw [cells77] at hl
  simp only [cells9] at e0 e1
  have q0 := one_at hl (by omega) e0
  have q1 := one_at hl (by omega) e1
  have hcs := two_at hl q0 q1
  subst hcs
  exact ⟨⟨s0, s1⟩, k77_mk w ⟨s0, s1⟩, by
    show 1 + s0.size + s1.size ≤ _
    simp only [Rows.uptoBulk, Rows.uptoBulkAll, Array.length_toList]
    have z0 : s0.size = s0.data.size := rfl
    have z1 : s1.size = s1.data.size := rfl
    omega⟩
theorem opn34 : Opn k34 34 hostSz := by
  intro H enc w base spare held fuel cs x h
  obtain ⟨xs, n, _, rfl, hl, hlen, hf⟩ := DataW.trod_struct Try.underlying34 h
  match xs, hlen with
  | [y0, y1, y2, y3, y4, y5], _ =>
    have g0 : DataW.trod enc Try.prog w base spare held n 3 ((cs.drop 0).take (Try.prog.cellsOf 3)) = some y0 := hf 0 _ rfl
    have g1 : DataW.trod enc Try.prog w base spare held n 9 ((cs.drop 1).take (Try.prog.cellsOf 9)) = some y1 := hf 1 _ rfl
    have g2 : DataW.trod enc Try.prog w base spare held n 3 ((cs.drop 2).take (Try.prog.cellsOf 3)) = some y2 := hf 2 _ rfl
    have g3 : DataW.trod enc Try.prog w base spare held n 9 ((cs.drop 3).take (Try.prog.cellsOf 9)) = some y3 := hf 3 _ rfl
    have g4 : DataW.trod enc Try.prog w base spare held n 3 ((cs.drop 4).take (Try.prog.cellsOf 3)) = some y4 := hf 4 _ rfl
    have g5 : DataW.trod enc Try.prog w base spare held n 32 ((cs.drop 5).take (Try.prog.cellsOf 32)) = some y5 := hf 5 _ rfl
    rw [cells3] at g0 g2 g4
    rw [cells9] at g1 g3
    rw [cells32] at g5
    obtain ⟨a0, e0, rfl, _⟩ := DataW.trod_int Try.underlying3 g0
    obtain ⟨s1, e1, rfl, _⟩ := DataW.trod_string Try.underlying9 g1
    obtain ⟨a2, e2, rfl, _⟩ := DataW.trod_int Try.underlying3 g2
    obtain ⟨s3, e3, rfl, _⟩ := DataW.trod_string Try.underlying9 g3
    obtain ⟨a4, e4, rfl, _⟩ := DataW.trod_int Try.underlying3 g4
    obtain ⟨A, c, ps, e5, hc, hC, hs, hs2⟩ := opn_slice opn77 Try.underlying32 cells77 g5
    rw [cells34] at hl
    have q0 := one_at hl (by omega) e0
    have q1 := one_at hl (by omega) e1
    have q2 := one_at hl (by omega) e2
    have q3 := one_at hl (by omega) e3
    have q4 := one_at hl (by omega) e4
    have q5 := one_at hl (by omega) e5
    have hcs := six_at hl q0 q1 q2 q3 q4 q5
    subst hcs
    refine ⟨⟨a0, s1, a2, s3, a4, ps⟩, k34_mk w ⟨a0, s1, a2, s3, a4, ps⟩ hc hC, ?_⟩
    show s1.size + s3.size + (ps.map pairSz).sum ≤ _
    simp only [List.map_cons, Rows.uptoBulk, Rows.uptoBulkAll, Array.length_toList]
    have z1 : s1.size = s1.data.size := rfl
    have z3 : s3.size = s3.data.size := rfl
    omega
end Go.Proofs.Ythfolhgaecfogaa
