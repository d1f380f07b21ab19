import Derived.Test.YthfolhgaecfogaaM5
import Derived.Test.YthfolhgaecfogaaRows
import Derived.WalkKit
import Derived.ProofKit
import Derived.OpenShut
import Derived.JoinedCond
import Derived.ReadAgain
import Derived.ChangeOld
import Derived.ChangeSame
import Derived.Deep.Slices
set_option linter.unusedVariables false
set_option linter.unusedSimpArgs false
namespace Go.Proofs.Ythfolhgaecfogaa
section
open Go.RowKit Go.Proofs.YthfolhgaecfogaaW.PrintWords Go.Proofs.YthfolhgaecfogaaW.PrintLast Go.Proofs.YthfolhgaecfogaaW.PrintMore
open Go.ChangeShapes Go.WideShapes Go.ChangeAt
/-! ### what the arguments' readings give -/
theorem kids : Kids Try.prog (· < Try.prog.types.size) := kids_rows (by kernel_rfl) (by kernel_rfl)
theorem full : ∀ t e, t < Try.prog.types.size → Try.prog.underlying t = some (.slice e) → 0 < Try.prog.cellsOf e := slices_full_of Try.prog (by kernel_rfl)
theorem trodAll_carry {H : Type} {enc : TypeId × Value → H} {P : Program} {w w' : World} {base : Nat} {spare : Nat → Bool} {held : Bool} : ∀ {ts : List TypeId} {vs : List Value} {ds : List (DataW H)} {ps : List MemPlace},
    DataW.TrodAll enc P w base spare held ts vs ds ps → (∀ p ∈ ps, w.sameAt w' p) → DataW.TrodAll enc P w' base spare held ts vs ds ps
  | [], [], [], _, h, _ => h
  | _ :: _, _ :: _, _ :: _, _, ⟨p, q, ⟨n, h1⟩, h2, e⟩, hs => ⟨p, q, ⟨n, DataW.trod_carry n _ _ _ h1 (fun x hx => hs x (by rw [e]; exact List.mem_append_left _ hx))⟩, trodAll_carry h2 (fun x hx => hs x (by rw [e]; exact List.mem_append_right _ hx)), e⟩
/-- A LAW THAT ANSWERS TRUE AND WRITES NOTHING THAT CAME IN -/
theorem law_post {H : Type} {enc : TypeId × Value → H} {f : Func} {s : ChangeSpec} {W W' : World} {args : Array Value} {ds gs : List (DataW H)} {before : List MemPlace}
    (hW : DataW.Whole enc Try.prog f.params.toList s.vars false W args.toList ds gs before) (hv : s.vars = []) (hT : ∀ t ∈ f.params.toList, t < Try.prog.types.size) (hr : f.resultTypes = #[4])
    (hs : s.fn H (ds ++ gs) = { results := [.lit (.bool true)], args := ds }) (hb : Ext W W') : s.post enc Try.prog f false true false false W args (.bool true) W' := by
  have hlt := hW.lt
  have hW' := hW
  obtain ⟨p, q, hA, hV, rfl, _, _⟩ := hW
  rw [hv] at hV
  obtain ⟨rfl, rfl⟩ := trodVars_none hV
  have hA0 : DataW.TrodAll enc Try.prog W 0 (fun _ => true) true f.params.toList args.toList ds p := hA
  have h1 := DataW.TrodAll.respare (spare' := fun b => decide (b < W.heap.size)) kids full hT hA0 (fun x hx => by simpa using hlt x (by simpa using hx))
  have h2 := trodAll_carry (w' := W') h1 (fun x hx => hb.same (hlt x (by simpa using hx)))
  refine ⟨ds, [], _, [], p, [], hW', ?_, ?_, ?_, hb.frame _, fun h => by cases h⟩
  · rw [hs, hr]; exact trodAll_mk1 (shut_bool Try.underlying4 _)
  · rw [hs]; exact h2
  · rw [hs, hv]; rfl
/-- a reading of a type gives a value of a kind, no greater than its bulk -/
def Opn {α : Type} (d : Kd α) (t : TypeId) (sz : α → Nat) : Prop := ∀ {H : Type} {enc : TypeId × Value → H} {w : World} {base : Nat} {spare : Nat → Bool} {held : Bool} {fuel : Nat} {cs : List Value} {x : DataW H × List MemPlace},
  DataW.trod enc Try.prog w base spare held fuel t cs = some x → ∃ a, d.K w a cs ∧ sz a ≤ Rows.uptoBulk x.1
theorem bulk_one {H : Type} (d : DataW H) : 1 ≤ Rows.uptoBulk d := by
  cases d with
  | lit l => cases l <;> simp [Rows.uptoBulk]
  | nil => simp [Rows.uptoBulk]
  | ptr d => simp [Rows.uptoBulk]
  | slice elems spare => simp [Rows.uptoBulk]
  | agg parts => simp [Rows.uptoBulk]
  | iface t d => simp [Rows.uptoBulk]
  | map entries => simp [Rows.uptoBulk]
  | held h => simp [Rows.uptoBulk]
theorem sum_bulk {H α : Type} (sz : α → Nat) : ∀ (xs : List α) (ds : List (DataW H)), xs.length = ds.length → (∀ (i : Nat) (a : α) (d : DataW H), xs[i]? = some a → ds[i]? = some d → sz a ≤ Rows.uptoBulk d) → (xs.map sz).sum ≤ Rows.uptoBulkAll ds ∧ xs.length ≤ Rows.uptoBulkAll ds
  | [], [], _, _ => by simp [Rows.uptoBulkAll]
  | a :: r, d :: s, hl, h => by
    have ih := sum_bulk sz r s (by simpa using hl) (fun i a' d' h1 h2 => h (i + 1) a' d' (by simpa using h1) (by simpa using h2))
    have h0 := h 0 a d rfl rfl
    have h1 := bulk_one d
    simp only [List.map_cons, List.sum_cons, List.length_cons, Rows.uptoBulkAll]
    omega
/-- a slice's reading -/
theorem opn_slice {α : Type} [Inhabited α] {d : Kd α} {e : TypeId} {sz : α → Nat} (ho : Opn d e sz) {t : TypeId} (ht : Try.prog.underlying t = some (.slice e)) (hc : Try.prog.cellsOf e = d.sz)
    {H : Type} {enc : TypeId × Value → H} {w : World} {base : Nat} {spare : Nat → Bool} {held : Bool} {fuel : Nat} {cs : List Value} {x : DataW H × List MemPlace} (h : DataW.trod enc Try.prog w base spare held fuel t cs = some x) :
    ∃ (A : Option Addr) (c : Nat) (xs : List α), cs = [.slice A xs.length c] ∧ xs.length ≤ c ∧ Kd.C d w A xs.length xs ∧ (xs.map sz).sum + 1 ≤ Rows.uptoBulk x.1 ∧ xs.length + 1 ≤ Rows.uptoBulk x.1 := by
  rcases DataW.trod_slice ht h with ⟨rfl, rfl⟩ | ⟨a, len, cap, elems, rest, n, _, rfl, rfl, hb, hl, hm, hlen, hel, _, _⟩
  · exact ⟨none, 0, [], rfl, Nat.le_refl _, Kd.C_nil d w, by simp [Rows.uptoBulk], by simp [Rows.uptoBulk]⟩
  · obtain ⟨X, hX⟩ := Go.Deep.choose_lt (α := α) (p := fun i v => ∃ c y, elems[i]? = some y ∧ c.length = d.sz ∧ d.K w v c ∧ (∀ j u, c[j]? = some u → w.cell? (a.add (i * d.sz + j)) = some u) ∧ sz v ≤ Rows.uptoBulk y.1) (fun i hi => by
      have h1 := hel i hi
      have hil : i < elems.length := by omega
      rw [List.getElem?_eq_getElem hil] at h1
      obtain ⟨c, hc1, hc2⟩ := Option.bind_eq_some_iff.1 h1
      obtain ⟨v, hK, hs⟩ := ho hc2
      obtain ⟨_, hcl, hcell⟩ := World.cells?_some hc1
      refine ⟨v, c, _, List.getElem?_eq_getElem hil, by rw [hcl, hc], hK, fun j u hj => ?_, hs⟩
      have hjl : j < c.length := (List.getElem?_eq_some_iff.1 hj).1
      rw [← Go.Deep.add_add, ← hc, hcell j (by omega), hj])
    have hxl : ((List.range len).map X).length = len := by simp
    have hget : ∀ i v, ((List.range len).map X)[i]? = some v → i < len ∧ v = X i := fun i v hv => by
      have hi : i < ((List.range len).map X).length := (List.getElem?_eq_some_iff.1 hv).1
      rw [hxl] at hi
      refine ⟨hi, ?_⟩
      simp [hi] at hv
      exact hv.symm
    have hs := sum_bulk sz ((List.range len).map X) (elems.map (·.1)) (by simp [hlen]) (fun i v y h1 h2 => by
      obtain ⟨hi, rfl⟩ := hget i v h1
      obtain ⟨c, y', hy, _, _, _, hle⟩ := hX i hi
      rw [List.getElem?_map, hy] at h2
      injection h2 with h2
      rw [← h2]
      exact hle)
    refine ⟨some a, cap, (List.range len).map X, by rw [hxl], by omega, ⟨rfl, by rw [hxl]; simp only [maxLen] at hm; omega, fun _ => ⟨a, rfl, fun i v hv => ?_⟩⟩, ?_, ?_⟩
    · obtain ⟨hi, rfl⟩ := hget i v hv
      obtain ⟨c, _, _, hcl, hK, hcell, _⟩ := hX i hi
      exact ⟨c, hcl, hK, hcell⟩
    · simp only [Rows.uptoBulk]; omega
    · simp only [Rows.uptoBulk]; omega
theorem hosts_le : ∀ {l : List S34} {B : Nat}, (l.map hostSz).sum ≤ B → ∀ h ∈ l, hostSz h ≤ B
  | [], _, _, h, hh => by cases hh
  | x :: r, B, hs, h, hh => by
    simp only [List.map_cons, List.sum_cons] at hs
    rcases List.mem_cons.1 hh with rfl | hh
    · omega
    · exact hosts_le (by omega) h hh
instance : Inhabited S77 := ⟨z77⟩
instance : Inhabited S34 := ⟨z34⟩
theorem cells9 : Try.prog.cellsOf 9 = 1 := by kernel_rfl
theorem cells3 : Try.prog.cellsOf 3 = 1 := by kernel_rfl
theorem cells32 : Try.prog.cellsOf 32 = 1 := by kernel_rfl
theorem cells77 : Try.prog.cellsOf 77 = 2 := by kernel_rfl
theorem cells34 : Try.prog.cellsOf 34 = 6 := by kernel_rfl
theorem one_at {cs : List Value} {i n : Nat} {v : Value} (hl : cs.length = n) (hi : i < n) (h : (cs.drop i).take 1 = [v]) : cs[i]? = some v := by
  have : (cs.drop i)[0]? = some v := by
    have h1 : ((cs.drop i).take 1)[0]? = some v := by rw [h]; rfl
    rwa [List.getElem?_take, if_pos (by omega)] at h1
  rwa [List.getElem?_drop, Nat.add_zero] at this
theorem two_at {cs : List Value} {a b : Value} (hl : cs.length = 2) (q0 : cs[0]? = some a) (q1 : cs[1]? = some b) : cs = [a, b] := by
  match cs, hl with
  | [x, y], _ =>
    simp only [List.getElem?_cons_zero, List.getElem?_cons_succ, Option.some.injEq] at q0 q1
    rw [q0, q1]
theorem six_at {cs : List Value} {a b c d e f : Value} (hl : cs.length = 6) (q0 : cs[0]? = some a) (q1 : cs[1]? = some b) (q2 : cs[2]? = some c) (q3 : cs[3]? = some d) (q4 : cs[4]? = some e) (q5 : cs[5]? = some f) : cs = [a, b, c, d, e, f] := by
  match cs, hl with
  | [x0, x1, x2, x3, x4, x5], _ =>
    simp only [List.getElem?_cons_zero, List.getElem?_cons_succ, Option.some.injEq] at q0 q1 q2 q3 q4 q5
    rw [q0, q1, q2, q3, q4, q5]
theorem opn77 : Opn k77 77 pairSz := by
  intro H enc w base spare held fuel cs x h
  obtain ⟨y0, y1, n, rfl, hl, h0, h1⟩ := trod_struct2 Try.underlying77 h
  obtain ⟨s0, e0, rfl, _⟩ := DataW.trod_string Try.underlying9 h0
  obtain ⟨s1, e1, rfl, _⟩ := DataW.trod_string Try.underlying9 h1
  rw [cells77] at hl
  simp only [cells9] at e0 e1
  have q0 := one_at hl (by omega) e0
  have q1 := one_at hl (by omega) e1
  have hcs := two_at hl q0 q1
  subst hcs
  exact ⟨⟨s0, s1⟩, k77_mk w ⟨s0, s1⟩, by
    show 1 + s0.size + s1.size ≤ _
    simp only [Rows.uptoBulk, Rows.uptoBulkAll, Array.length_toList]
    have z0 : s0.size = s0.data.size := rfl
    have z1 : s1.size = s1.data.size := rfl
    omega⟩
theorem opn34 : Opn k34 34 hostSz := by
  intro H enc w base spare held fuel cs x h
  obtain ⟨xs, n, _, rfl, hl, hlen, hf⟩ := DataW.trod_struct Try.underlying34 h
  match xs, hlen with
  | [y0, y1, y2, y3, y4, y5], _ =>
    have g0 : DataW.trod enc Try.prog w base spare held n 3 ((cs.drop 0).take (Try.prog.cellsOf 3)) = some y0 := hf 0 _ rfl
    have g1 : DataW.trod enc Try.prog w base spare held n 9 ((cs.drop 1).take (Try.prog.cellsOf 9)) = some y1 := hf 1 _ rfl
    have g2 : DataW.trod enc Try.prog w base spare held n 3 ((cs.drop 2).take (Try.prog.cellsOf 3)) = some y2 := hf 2 _ rfl
    have g3 : DataW.trod enc Try.prog w base spare held n 9 ((cs.drop 3).take (Try.prog.cellsOf 9)) = some y3 := hf 3 _ rfl
    have g4 : DataW.trod enc Try.prog w base spare held n 3 ((cs.drop 4).take (Try.prog.cellsOf 3)) = some y4 := hf 4 _ rfl
    have g5 : DataW.trod enc Try.prog w base spare held n 32 ((cs.drop 5).take (Try.prog.cellsOf 32)) = some y5 := hf 5 _ rfl
    rw [cells3] at g0 g2 g4
    rw [cells9] at g1 g3
    rw [cells32] at g5
    obtain ⟨a0, e0, rfl, _⟩ := DataW.trod_int Try.underlying3 g0
    obtain ⟨s1, e1, rfl, _⟩ := DataW.trod_string Try.underlying9 g1
    obtain ⟨a2, e2, rfl, _⟩ := DataW.trod_int Try.underlying3 g2
    obtain ⟨s3, e3, rfl, _⟩ := DataW.trod_string Try.underlying9 g3
    obtain ⟨a4, e4, rfl, _⟩ := DataW.trod_int Try.underlying3 g4
    obtain ⟨A, c, ps, e5, hc, hC, hs, hs2⟩ := opn_slice opn77 Try.underlying32 cells77 g5
    rw [cells34] at hl
    have q0 := one_at hl (by omega) e0
    have q1 := one_at hl (by omega) e1
    have q2 := one_at hl (by omega) e2
    have q3 := one_at hl (by omega) e3
    have q4 := one_at hl (by omega) e4
    have q5 := one_at hl (by omega) e5
    have hcs := six_at hl q0 q1 q2 q3 q4 q5
    subst hcs
    refine ⟨⟨a0, s1, a2, s3, a4, ps⟩, k34_mk w ⟨a0, s1, a2, s3, a4, ps⟩ hc hC, ?_⟩
    show s1.size + s3.size + (ps.map pairSz).sum ≤ _
    simp only [List.map_cons, Rows.uptoBulk, Rows.uptoBulkAll, Array.length_toList]
    have z1 : s1.size = s1.data.size := rfl
    have z3 : s3.size = s3.data.size := rfl
    omega
end
section
open Go.RowKit Go.Proofs.YthfolhgaecfogaaW.PrintWords Go.Proofs.YthfolhgaecfogaaW.PrintLast Go.Proofs.YthfolhgaecfogaaW.PrintMore
theorem lessK_key (a b : S34) : lessK (keyOf a) (keyOf b) = decide (a.f0 < b.f0) := by
  unfold lessK keyOf
  simp
theorem addAt_eq (l : List S34) (h : S34) : addAt l h = (l.takeWhile (fun x => decide (x.f0 < h.f0))).length := by
  unfold addAt posK
  rw [List.takeWhile_map, List.length_map]
  congr 2
  funext x
  exact lessK_key x h
theorem tw_same {p q : S34 → Bool} : ∀ {l : List S34}, (∀ x ∈ l, p x = q x) → l.takeWhile p = l.takeWhile q
  | [], _ => rfl
  | x :: r, h => by
    rw [List.takeWhile_cons, List.takeWhile_cons, h x List.mem_cons_self, tw_same (fun y hy => h y (List.mem_cons_of_mem _ hy))]
theorem addAt_ins {l : List S34} {h : S34} (hn : ∀ x ∈ l, x.f0 ≠ h.f0) : addAt l h = insP l h.f0 := by
  rw [addAt_eq]
  unfold insP
  rw [tw_same (fun x hx => ?_)]
  have := hn x hx
  by_cases h1 : x.f0 < h.f0
  · rw [decide_eq_true h1, decide_eq_true (by omega)]
  · rw [decide_eq_false h1, decide_eq_false (by omega)]
/-- up to which place all are less -/
theorem addAt_below (l : List S34) (h : S34) (k : Nat) (hk : k < l.length) (hlt : k < addAt l h) : l[k].f0 < h.f0 := by
  have key : ∀ (r : List S34) (j : Nat) (hj : j < r.length), j < (r.takeWhile (fun x => decide (x.f0 < h.f0))).length → r[j].f0 < h.f0 := by
    intro r
    induction r with
    | nil => intro j hj; simp at hj
    | cons x s ih =>
      intro j hj e
      by_cases hx : x.f0 < h.f0
      · rw [List.takeWhile_cons, decide_eq_true hx, if_pos rfl, List.length_cons] at e
        cases j with
        | zero => exact hx
        | succ j => exact ih j (by simpa using hj) (by omega)
      · rw [List.takeWhile_cons, decide_eq_false hx] at e
        simp at e
  rw [addAt_eq] at hlt
  exact key l k hk hlt
theorem addAt_at (l : List S34) (h : S34) (hk : addAt l h < l.length) : h.f0 ≤ l[addAt l h].f0 := by
  have key : ∀ (r : List S34) (j : Nat) (hj : j < r.length), j = (r.takeWhile (fun x => decide (x.f0 < h.f0))).length → h.f0 ≤ r[j].f0 := by
    intro r
    induction r with
    | nil => intro j hj; simp at hj
    | cons x s ih =>
      intro j hj e
      by_cases hx : x.f0 < h.f0
      · rw [List.takeWhile_cons, decide_eq_true hx, if_pos rfl, List.length_cons] at e
        subst e
        exact ih _ (by simpa using hj) rfl
      · rw [List.takeWhile_cons, decide_eq_false hx] at e
        simp only [Bool.false_eq_true, if_false, List.length_nil] at e
        subst e
        show h.f0 ≤ x.f0
        omega
  exact key l _ hk (addAt_eq l h)
theorem hereK_iff {l : List S34} (hl : Rising l) (h : S34) : hereK (l.map keyOf) (keyOf h) = true ↔ ∃ x ∈ l, x.f0 = h.f0 := by
  unfold hereK
  rw [List.getElem?_map]
  show (match Option.map keyOf l[addAt l h]? with | some x => x.f0 == (keyOf h).f0 && x.f1 == (keyOf h).f1 | none => false) = true ↔ _
  constructor
  · intro h1
    by_cases hk : addAt l h < l.length
    · rw [List.getElem?_eq_getElem hk] at h1
      simp [keyOf] at h1
      exact ⟨_, List.getElem_mem hk, h1⟩
    · rw [List.getElem?_eq_none (by omega)] at h1
      simp at h1
  · rintro ⟨x, hx, he⟩
    obtain ⟨i, hi, rfl⟩ := List.getElem_of_mem hx
    have e : addAt l h = i := by
      rcases Nat.lt_trichotomy (addAt l h) i with hlt | heq | hgt
      · have h1 := addAt_at l h (by omega)
        have h2 := List.pairwise_iff_getElem.1 hl (addAt l h) i (by omega) hi hlt
        omega
      · exact heq
      · have := addAt_below l h i hi hgt
        omega
    rw [e, List.getElem?_eq_getElem hi]
    simp [keyOf, he]
theorem add_codes (l : List S34) (h : S34) : raddCode l h = addCode l h := by
  unfold raddCode addCode
  cases h1 : tableMay l
  · rfl
  · cases h2 : hostMay h
    · rfl
    · simp only [Bool.not_true, Bool.false_eq_true, if_false]
      have hl := tableMay_iff.1 h1
      by_cases h3 : ∃ x ∈ l, x.f0 = h.f0
      · rw [if_pos, if_pos]
        · exact (hereK_iff hl.2.1 h).2 h3
        · rcases Int.lt_or_le (findI l h.f0) 0 with hf | hf
          · obtain ⟨x, hx, he⟩ := h3
            exact absurd he (findI_none hf x hx)
          · exact hf
      · rw [if_neg (c := 0 ≤ findI l h.f0), if_neg (c := hereK (l.map keyOf) (keyOf h) = true)]
        · by_cases h4 : l.length = 64
          · rw [if_pos (by omega), if_pos h4]
          · rw [if_neg (by omega), if_neg h4]
        · intro h5; exact h3 ((hereK_iff hl.2.1 h).1 h5)
        · have := findI_neg (l := l) (id := h.f0) (fun x hx he => h3 ⟨x, hx, he⟩)
          omega
theorem addCode_zero {l : List S34} {h : S34} (h0 : addCode l h = 0) : tableMay l = true ∧ hostMay h = true ∧ (∀ x ∈ l, x.f0 ≠ h.f0) ∧ l.length < 64 := by
  unfold addCode at h0
  cases h1 : tableMay l
  · rw [h1] at h0; simp at h0
  · cases h2 : hostMay h
    · rw [h1, h2] at h0; simp at h0
    · have hl := tableMay_iff.1 h1
      rw [h1, h2] at h0
      simp only [Bool.not_true, Bool.false_eq_true, if_false] at h0
      by_cases h3 : hereK (l.map keyOf) (keyOf h) = true
      · rw [if_pos h3] at h0; omega
      · rw [if_neg h3] at h0
        by_cases h4 : l.length = 64
        · rw [if_pos h4] at h0; omega
        · refine ⟨rfl, rfl, fun x hx he => h3 ((hereK_iff hl.2.1 h).2 ⟨x, hx, he⟩), by omega⟩
theorem add_lists (l : List S34) (h : S34) : raddList l h = addList l h := by
  unfold raddList addList
  rw [add_codes]
  by_cases h0 : addCode l h = 0
  · rw [if_pos h0, if_pos h0]
    unfold insList
    rw [addAt_ins (addCode_zero h0).2.2.1]
  · rw [if_neg h0, if_neg h0]
theorem cut_lists (l : List S34) (id : Int) : rcutList l id = cutList l id := by
  unfold rcutList cutList
  by_cases h0 : cutCode l id = 0
  · rw [if_pos h0, if_pos h0]
    have hf : 0 ≤ findI l id ∧ tableMay l = true := by
      unfold cutCode at h0
      cases h1 : tableMay l
      · rw [h1] at h0; simp at h0
      · rw [h1] at h0
        simp only [Bool.not_true, Bool.false_eq_true, if_false] at h0
        by_cases h2 : findI l id < 0
        · rw [if_pos h2] at h0; omega
        · exact ⟨by omega, rfl⟩
    have hl := (tableMay_iff.1 hf.2).2.1
    obtain ⟨hi, he⟩ := findI_some (l := l) (id := id) (i := (findI l id).toNat) (by omega)
    generalize (findI l id).toNat = i at hi he
    unfold outF
    have hsplit : l = l.take i ++ l[i] :: l.drop (i + 1) := by rw [List.getElem_cons_drop hi, List.take_append_drop]
    conv => lhs; rw [hsplit]
    rw [List.filter_append, List.filter_cons]
    have h3 : (!(l[i].f0 == id)) = false := by simp [he]
    rw [h3]
    simp only [Bool.false_eq_true, if_false]
    have ht : (l.take i).filter (fun h => !(h.f0 == id)) = l.take i := by
      rw [List.filter_eq_self]
      intro x hx
      obtain ⟨j, hj, rfl⟩ := List.getElem_of_mem hx
      rw [List.length_take] at hj
      rw [List.getElem_take]
      have := List.pairwise_iff_getElem.1 hl j i (by omega) hi (by omega)
      simp; omega
    have hd : (l.drop (i + 1)).filter (fun h => !(h.f0 == id)) = l.drop (i + 1) := by
      rw [List.filter_eq_self]
      intro x hx
      obtain ⟨j, hj, rfl⟩ := List.getElem_of_mem hx
      rw [List.length_drop] at hj
      rw [List.getElem_drop]
      have := List.pairwise_iff_getElem.1 hl i (i + 1 + j) hi (by omega) (by omega)
      simp; omega
    rw [ht, hd]
  · rw [if_neg h0, if_neg h0]
end
section
open Go.RowKit Go.Proofs.YthfolhgaecfogaaW.PrintWords Go.Proofs.YthfolhgaecfogaaW.PrintLast Go.Proofs.YthfolhgaecfogaaW.PrintMore
theorem light7_two (h : S34) : light7 h = 0 ∨ light7 h = 1 := by unfold light7; split; exact .inr rfl; exact .inl rfl
theorem light7_sz {h : S34} (h0 : light7 h = 0) : hostSz h ≤ 600 := by unfold light7 at h0; split at h0 <;> omega
theorem meta_len (l : List S77) : l.length ≤ metaSz l := by
  induction l with
  | nil => simp [metaSz]
  | cons x r ih => simp only [metaSz, List.map_cons, List.sum_cons, List.length_cons, pairSz] at ih ⊢; omega
theorem host_len {h : S34} {B : Nat} (hs : hostSz h ≤ B) : h.f5.length ≤ B := by have := meta_len h.f5; unfold hostSz at hs; omega
/-! the contracts with what they give read -/
theorem add_reads (A : Option Addr) (c : Nat) (l : List S34) (h : S34) (A5 : Option Addr) (c5 : Nat) (w : World) (hC : Kd.C k34 w A l.length l) (hc : l.length ≤ c) (hn : l.length ≤ 4194304) (hl : ∀ h ∈ l, hostSz h ≤ 4194304)
    (hC5 : Kd.C k77 w A5 h.f5.length h.f5) (hc5 : h.f5.length ≤ c5) (hs : hostSz h ≤ 4194304) :
    Calls Try.prog 17 #[.slice A l.length c, vHost h A5 c5] w fun e w' => ∃ A' n' c', e = .returned (.tuple #[.slice A' n' c', .int .i64 (addCode l h)]) ∧ Hid (n' = (addList l h).length) ∧ n' ≤ c' ∧ Hid (Kd.C k34 w' A' n' (addList l h)) ∧ Ext w w' := by
  refine (add_any A c l h A5 c5 w hC hc hn (szs hl) (fun x hx => host_len (hl x hx)) hC5 hc5 (hostOk_of hs) (host_len hs)).mono ?_
  rintro e w' ⟨v, rfl, hN, hb⟩
  obtain ⟨A1, c1, rfl, hl1, hR1⟩ := Kd.R_reads hN
  exact ⟨A1, _, c1, rfl, rfl, hl1, hR1, hb⟩
theorem radd_reads (A : Option Addr) (c : Nat) (l : List S34) (h : S34) (A5 : Option Addr) (c5 : Nat) (w : World) (hC : Kd.C k34 w A l.length l) (hc : l.length ≤ c) (hl : ∀ h ∈ l, hostSz h ≤ 4194304)
    (hC5 : Kd.C k77 w A5 h.f5.length h.f5) (hc5 : h.f5.length ≤ c5) (hs : hostSz h ≤ 4194304) :
    Calls Try.prog 37 #[.slice A l.length c, vHost h A5 c5] w fun e w' => ∃ A' n' c', e = .returned (.tuple #[.slice A' n' c', .int .i64 (addCode l h)]) ∧ Hid (n' = (addList l h).length) ∧ n' ≤ c' ∧ Hid (Kd.C k34 w' A' n' (addList l h)) ∧ Ext w w' := by
  refine (raddHost_any A c l h A5 c5 w hC hc (fun x hx => host_len (hl x hx)) hC5 hc5 (host_len hs)).mono ?_
  rintro e w' ⟨v, rfl, hN, hb⟩
  rw [add_lists] at hN
  rw [add_codes]
  obtain ⟨A1, c1, rfl, hl1, hR1⟩ := Kd.R_reads hN
  exact ⟨A1, _, c1, rfl, rfl, hl1, hR1, hb⟩
theorem cut_reads (A : Option Addr) (c : Nat) (l : List S34) (id : Int) (w : World) (hC : Kd.C k34 w A l.length l) (hc : l.length ≤ c) (hn : l.length ≤ 4194304) (hl : ∀ h ∈ l, hostSz h ≤ 4194304) :
    Calls Try.prog 38 #[.slice A l.length c, .int .i64 id] w fun e w' => ∃ A' n' c', e = .returned (.tuple #[.slice A' n' c', .int .i64 (cutCode l id)]) ∧ Hid (n' = (cutList l id).length) ∧ n' ≤ c' ∧ Hid (Kd.C k34 w' A' n' (cutList l id)) ∧ Ext w w' := by
  refine (cut_any A c l id w hC hc hn (szs hl) (fun x hx => host_len (hl x hx))).mono ?_
  rintro e w' ⟨v, rfl, hN, hb⟩
  obtain ⟨A1, c1, rfl, hl1, hR1⟩ := Kd.R_reads hN
  exact ⟨A1, _, c1, rfl, rfl, hl1, hR1, hb⟩
theorem rcut_reads (A : Option Addr) (c : Nat) (l : List S34) (id : Int) (w : World) (hC : Kd.C k34 w A l.length l) (hc : l.length ≤ c) (hl : ∀ h ∈ l, hostSz h ≤ 4194304) :
    Calls Try.prog 39 #[.slice A l.length c, .int .i64 id] w fun e w' => ∃ A' n' c', e = .returned (.tuple #[.slice A' n' c', .int .i64 (cutCode l id)]) ∧ Hid (n' = (cutList l id).length) ∧ n' ≤ c' ∧ Hid (Kd.C k34 w' A' n' (cutList l id)) ∧ Ext w w' := by
  refine (rcutHost_any A c l id w hC hc (fun x hx => host_len (hl x hx))).mono ?_
  rintro e w' ⟨v, rfl, hN, hb⟩
  rw [cut_lists] at hN
  obtain ⟨A1, c1, rfl, hl1, hR1⟩ := Kd.R_reads hN
  exact ⟨A1, _, c1, rfl, rfl, hl1, hR1, hb⟩
theorem change_reads (A B : Option Addr) (c cb : Nat) (l m : List S34) (w : World) (hC : Kd.C k34 w A l.length l) (hc : l.length ≤ c) (hn : l.length ≤ 4194304) (hl : ∀ h ∈ l, hostSz h ≤ 4194304)
    (hD : Kd.C k34 w B m.length m) (hcb : m.length ≤ cb) (hnb : m.length ≤ 4194304) (hlb : ∀ h ∈ m, hostSz h ≤ 4194304) :
    Calls Try.prog 13 #[.slice A l.length c, .slice B m.length cb] w fun e w' => ∃ (A1 A2 A3 : Option Addr) (n1 n2 n3 c1 c2 c3 : Nat), e = .returned (.tuple #[.slice A1 n1 c1, .slice A2 n2 c2, .slice A3 n3 c3, .int .i64 (chCode l m)]) ∧
      n1 ≤ c1 ∧ n2 ≤ c2 ∧ n3 ≤ c3 ∧ Hid (Kd.C kI w' A1 n1 (addsOf l m)) ∧ Hid (Kd.C kI w' A2 n2 (cutsOf l m)) ∧ Hid (Kd.C kI w' A3 n3 (samesOf l m)) ∧ Ext w w' := by
  refine (change_any A B c cb l m w hC hc hn (szs hl) hD hcb hnb (szs hlb)).mono ?_
  rintro e w' ⟨v1, v2, v3, rfl, hN1, hN2, hN3, hb⟩
  obtain ⟨A1, c1, rfl, hl1, hR1⟩ := Kd.R_reads hN1
  obtain ⟨A2, c2, rfl, hl2, hR2⟩ := Kd.R_reads hN2
  obtain ⟨A3, c3, rfl, hl3, hR3⟩ := Kd.R_reads hN3
  exact ⟨A1, A2, A3, _, _, _, c1, c2, c3, rfl, hl1, hl2, hl3, hR1, hR2, hR3, hb⟩
theorem rchange_reads (A B : Option Addr) (c cb : Nat) (l m : List S34) (w : World) (hC : Kd.C k34 w A l.length l) (hc : l.length ≤ c)
    (hD : Kd.C k34 w B m.length m) (hcb : m.length ≤ cb) :
    Calls Try.prog 40 #[.slice A l.length c, .slice B m.length cb] w fun e w' => ∃ (A1 A2 A3 : Option Addr) (n1 n2 n3 c1 c2 c3 : Nat), e = .returned (.tuple #[.slice A1 n1 c1, .slice A2 n2 c2, .slice A3 n3 c3, .int .i64 (chCode l m)]) ∧
      n1 ≤ c1 ∧ n2 ≤ c2 ∧ n3 ≤ c3 ∧ Hid (Kd.C kI w' A1 n1 (addsOf l m)) ∧ Hid (Kd.C kI w' A2 n2 (cutsOf l m)) ∧ Hid (Kd.C kI w' A3 n3 (samesOf l m)) ∧ Ext w w' := by
  refine (rchange_any A B c cb l m w hC hc hD hcb).mono ?_
  rintro e w' ⟨v1, v2, v3, rfl, hN1, hN2, hN3, hb⟩
  rw [← cuts_eq] at hN2
  obtain ⟨A1, c1, rfl, hl1, hR1⟩ := Kd.R_reads hN1
  obtain ⟨A2, c2, rfl, hl2, hR2⟩ := Kd.R_reads hN2
  obtain ⟨A3, c3, rfl, hl3, hR3⟩ := Kd.R_reads hN3
  exact ⟨A1, A2, A3, _, _, _, c1, c2, c3, rfl, hl1, hl2, hl3, hR1, hR2, hR3, hb⟩
end
section
open Go.RowKit Go.Proofs.YthfolhgaecfogaaW.PrintWords Go.Proofs.YthfolhgaecfogaaW.PrintLast Go.Proofs.YthfolhgaecfogaaW.PrintMore
set_option maxRecDepth 100000 in
set_option maxHeartbeats 1000000 in
theorem tableForms_no (A B : Option Addr) (c cb : Nat) (l m : List S34) (h : S34) (A5 : Option Addr) (c5 : Nat) (id : Int) (w : World) (hC : Kd.C k34 w A l.length l) (hc : l.length ≤ c) (hl : ∀ h ∈ l, hostSz h ≤ 4194304) (hn : l.length ≤ 4194304)
    (hD : Kd.C k34 w B m.length m) (hcb : m.length ≤ cb) (hlb : ∀ h ∈ m, hostSz h ≤ 4194304) (hnb : m.length ≤ 4194304)
    (hC5 : Kd.C k77 w A5 h.f5.length h.f5) (hc5 : h.f5.length ≤ c5) (hsz : hostSz h ≤ 4194304) (hLL : ¬ (light8 l = 0 ∧ light8 m = 0 ∧ light7 h = 0)) :
    Calls Try.prog 7 #[.slice A l.length c, .slice B m.length cb, vHost h A5 c5, .int .i64 id] w fun e w' => e = .returned (.bool true) ∧ Ext w w' := by
  have hu34 := Try.underlying34
  have HC := Lib.hid hC
  have HD := Lib.hid hD
  have HC5 := Lib.hid hC5
  obtain ⟨L1, hL1⟩ : ∃ L1, L1 = light8 l := ⟨_, rfl⟩
  obtain ⟨L2, hL2⟩ : ∃ L2, L2 = light8 m := ⟨_, rfl⟩
  obtain ⟨L3, hL3⟩ : ∃ L3, L3 = light7 h := ⟨_, rfl⟩
  have b1 := light8_two l
  have b2 := light8_two m
  have b3 := light7_two h
  rw [← hL1] at b1 hLL
  rw [← hL2] at b2 hLL
  rw [← hL3] at b3 hLL
  have hsum : 0 < L1 + L2 + L3 := by omega
  have hw1 : IntKind.i64.wrap (L1 + L2) = L1 + L2 := by rw [IntKind.wrap_i64]; omega
  have hw2 : IntKind.i64.wrap (L1 + L2 + L3) = L1 + L2 + L3 := by rw [IntKind.wrap_i64]; omega
  have HL1 := Lib.hid hL1
  have HL2 := Lib.hid hL2
  have HL3 := Lib.hid hL3
  have hx0 := Lib.hid (ext_alloc w (.cells #[.int .i64 h.f0, .string h.f1, .int .i64 h.f2, .string h.f3, .int .i64 h.f4, .slice A5 h.f5.length c5] 34))
  have hbx := Lib.hid (show Box34 (w.alloc (.cells #[.int .i64 h.f0, .string h.f1, .int .i64 h.f2, .string h.f3, .int .i64 h.f4, .slice A5 h.f5.length c5] 34)) w.heap.size h A5 c5 from heap_alloc_new w _)
  have hd0 := Lib.hid (show Ext (w.alloc (.cells #[.int .i64 h.f0, .string h.f1, .int .i64 h.f2, .string h.f3, .int .i64 h.f4, .slice A5 h.f5.length c5] 34)) (w.alloc (.cells #[.int .i64 h.f0, .string h.f1, .int .i64 h.f2, .string h.f3, .int .i64 h.f4, .slice A5 h.f5.length c5] 34)).drew from Below.drew (Below.refl _ _))
  clear hL1 hL2 hL3 b1 b2 b3 hLL hC hD hC5
  unfold vHost
  go_enter Try.func7, Try.ntmps7
  go_wp2
  obtain ⟨q0, q1, q2, q3, q4, q5⟩ := Box34.cells (Box34.ext hbx.out hd0.out)
  go_region_held3 (fun W => W.cell? ⟨w.heap.size, 0, none⟩ = some (.int .i64 h.f0) ∧ W.cell? ⟨w.heap.size, 1, none⟩ = some (.string h.f1) ∧ W.cell? ⟨w.heap.size, 2, none⟩ = some (.int .i64 h.f2) ∧ W.cell? ⟨w.heap.size, 3, none⟩ = some (.string h.f3) ∧ W.cell? ⟨w.heap.size, 4, none⟩ = some (.int .i64 h.f4) ∧ W.cell? ⟨w.heap.size, 5, none⟩ = some (.slice A5 h.f5.length c5)) (first | assumption | go_keep) (first
    | (go_at_call_of 10 (Value.slice A l.length c); refine (light8_any A c l _ (Kd.C_below HC.out (Ext.tr hx0.out hd0.out)) hc hl).mono ?_; rintro e w1 ⟨he, hb1⟩; rw [← HL1.out] at he; subst he; have Z1 := Box34.cells (Box34.ext (Box34.ext hbx.out hd0.out) hb1))
    | (go_at_call_of 10 (Value.slice B m.length cb); refine (light8_any B cb m w1 (Kd.C_below HD.out (Ext.tr (Ext.tr hx0.out hd0.out) hb1)) hcb hlb).mono ?_; rintro e w2 ⟨he, hb2⟩; rw [← HL2.out] at he; subst he; have Z2 := Box34.cells (Box34.ext (Box34.ext (Box34.ext hbx.out hd0.out) hb1) hb2))
    | (go_at_call 20; refine (light7_any h A5 c5 w2 (Kd.C_below HC5.out (Ext.tr (Ext.tr (Ext.tr hx0.out hd0.out) hb1) hb2)) hc5 hsz).mono ?_; rintro e w3 ⟨he, hb3⟩; rw [← HL3.out] at he; subst he; have Z3 := Box34.cells (Box34.ext (Box34.ext (Box34.ext (Box34.ext hbx.out hd0.out) hb1) hb2) hb3)))
  clear q0 q1 q2 q3 q4 q5 Z1 Z2 Z3
  have hX := Lib.hid (Ext.tr (Ext.tr (Ext.tr (Ext.tr hx0.out hd0.out) hb1) hb2) hb3)
  go_wp2_with fail
  refine (awake_any w3).mono ?_
  rintro e w4 ⟨rfl, hb4⟩
  go_wp2
  go_ret
  exact ⟨rfl, Ext.tr hX.out hb4⟩
end
section
open Go.RowKit Go.Proofs.YthfolhgaecfogaaW.PrintWords Go.Proofs.YthfolhgaecfogaaW.PrintLast Go.Proofs.YthfolhgaecfogaaW.PrintMore
set_option maxRecDepth 100000 in
set_option maxHeartbeats 2000000 in
theorem tableForms_yes (A B : Option Addr) (c cb : Nat) (l m : List S34) (h : S34) (A5 : Option Addr) (c5 : Nat) (id : Int) (w : World) (hC : Kd.C k34 w A l.length l) (hc : l.length ≤ c) (hl : ∀ h ∈ l, hostSz h ≤ 4194304) (hn : l.length ≤ 4194304)
    (hD : Kd.C k34 w B m.length m) (hcb : m.length ≤ cb) (hlb : ∀ h ∈ m, hostSz h ≤ 4194304) (hnb : m.length ≤ 4194304)
    (hC5 : Kd.C k77 w A5 h.f5.length h.f5) (hc5 : h.f5.length ≤ c5) (hsz : hostSz h ≤ 4194304) (hLL : light8 l = 0 ∧ light8 m = 0 ∧ light7 h = 0) :
    Calls Try.prog 7 #[.slice A l.length c, .slice B m.length cb, vHost h A5 c5, .int .i64 id] w fun e w' => e = .returned (.bool true) ∧ Ext w w' := by
  have hu34 := Try.underlying34
  have HC := Lib.hid hC
  have HD := Lib.hid hD
  have HC5 := Lib.hid hC5
  have HLL := Lib.hid hLL
  have hx0 := Lib.hid (ext_alloc w (.cells #[.int .i64 h.f0, .string h.f1, .int .i64 h.f2, .string h.f3, .int .i64 h.f4, .slice A5 h.f5.length c5] 34))
  have hbx := Lib.hid (show Box34 (w.alloc (.cells #[.int .i64 h.f0, .string h.f1, .int .i64 h.f2, .string h.f3, .int .i64 h.f4, .slice A5 h.f5.length c5] 34)) w.heap.size h A5 c5 from heap_alloc_new w _)
  have hd0 := Lib.hid (show Ext (w.alloc (.cells #[.int .i64 h.f0, .string h.f1, .int .i64 h.f2, .string h.f3, .int .i64 h.f4, .slice A5 h.f5.length c5] 34)) (w.alloc (.cells #[.int .i64 h.f0, .string h.f1, .int .i64 h.f2, .string h.f3, .int .i64 h.f4, .slice A5 h.f5.length c5] 34)).drew from Below.drew (Below.refl _ _))
  clear hC hD hC5 hLL
  unfold vHost
  go_enter Try.func7, Try.ntmps7
  go_wp2
  obtain ⟨q0, q1, q2, q3, q4, q5⟩ := Box34.cells (Box34.ext hbx.out hd0.out)
  go_region_held3 (fun W => W.cell? ⟨w.heap.size, 0, none⟩ = some (.int .i64 h.f0) ∧ W.cell? ⟨w.heap.size, 1, none⟩ = some (.string h.f1) ∧ W.cell? ⟨w.heap.size, 2, none⟩ = some (.int .i64 h.f2) ∧ W.cell? ⟨w.heap.size, 3, none⟩ = some (.string h.f3) ∧ W.cell? ⟨w.heap.size, 4, none⟩ = some (.int .i64 h.f4) ∧ W.cell? ⟨w.heap.size, 5, none⟩ = some (.slice A5 h.f5.length c5)) (first | assumption | go_keep) (first
    | (go_at_call_of 10 (Value.slice A l.length c); refine (light8_any A c l _ (Kd.C_below HC.out (Ext.tr hx0.out hd0.out)) hc hl).mono ?_; rintro e w1 ⟨he, hb1⟩; rw [HLL.out.1] at he; subst he; have Z1 := Box34.cells (Box34.ext (Box34.ext hbx.out hd0.out) hb1))
    | (go_at_call_of 10 (Value.slice B m.length cb); refine (light8_any B cb m w1 (Kd.C_below HD.out (Ext.tr (Ext.tr hx0.out hd0.out) hb1)) hcb hlb).mono ?_; rintro e w2 ⟨he, hb2⟩; rw [HLL.out.2.1] at he; subst he; have Z2 := Box34.cells (Box34.ext (Box34.ext (Box34.ext hbx.out hd0.out) hb1) hb2))
    | (go_at_call 20; refine (light7_any h A5 c5 w2 (Kd.C_below HC5.out (Ext.tr (Ext.tr (Ext.tr hx0.out hd0.out) hb1) hb2)) hc5 hsz).mono ?_; rintro e w3 ⟨he, hb3⟩; rw [HLL.out.2.2] at he; subst he; have Z3 := Box34.cells (Box34.ext (Box34.ext (Box34.ext (Box34.ext hbx.out hd0.out) hb1) hb2) hb3)))
  have hX3 := Lib.hid (Ext.tr (Ext.tr (Ext.tr (Ext.tr hx0.out hd0.out) hb1) hb2) hb3)
  have hB3 := Lib.hid (Box34.ext (Box34.ext (Box34.ext (Box34.ext hbx.out hd0.out) hb1) hb2) hb3)
  clear q0 q1 q2 q3 q4 q5 Z1 Z2 Z3 hb1 hb2 hb3
  obtain ⟨q0, q1, q2, q3, q4, q5⟩ := hB3.out.cells
  go_wp2_with fail
  refine (add_reads A c l h A5 c5 w3 (Kd.C_below HC.out hX3.out) hc hn hl (Kd.C_below HC5.out hX3.out) hc5 hsz).mono ?_
  rintro e w4 ⟨Aa, na, ca, rfl, hna, hca, hCa, hb4⟩
  have hX4 := Lib.hid (Ext.tr hX3.out hb4)
  clear q0 q1 q2 q3 q4 q5
  obtain ⟨q0, q1, q2, q3, q4, q5⟩ := (hB3.out.ext hb4).cells
  go_wp2_with fail
  refine (radd_reads A c l h A5 c5 w4 (Kd.C_below HC.out hX4.out) hc hl (Kd.C_below HC5.out hX4.out) hc5 hsz).mono ?_
  rintro e w5 ⟨Ab, nb, cb2, rfl, hnb2, hcb2, hCb, hb5⟩
  have hX5 := Lib.hid (Ext.tr hX4.out hb5)
  clear q0 q1 q2 q3 q4 q5
  go_wp2_with fail
  refine (cut_reads A c l id w5 (Kd.C_below HC.out hX5.out) hc hn hl).mono ?_
  rintro e w6 ⟨Ac, nc, cc, rfl, hnc, hcc, hCc, hb6⟩
  have hX6 := Lib.hid (Ext.tr hX5.out hb6)
  go_wp2_with fail
  refine (rcut_reads A c l id w6 (Kd.C_below HC.out hX6.out) hc hl).mono ?_
  rintro e w7 ⟨Ad, nd, cd, rfl, hnd, hcd, hCd, hb7⟩
  have hX7 := Lib.hid (Ext.tr hX6.out hb7)
  go_wp2_with fail
  refine (change_reads A B c cb l m w7 (Kd.C_below HC.out hX7.out) hc hn hl (Kd.C_below HD.out hX7.out) hcb hnb hlb).mono ?_
  rintro e w8 ⟨E1, E2, E3, n1, n2, n3, c1, c2, c3, rfl, hc1, hc2, hc3, hE1, hE2, hE3, hb8⟩
  have hX8 := Lib.hid (Ext.tr hX7.out hb8)
  go_wp2_with fail
  refine (rchange_reads A B c cb l m w8 (Kd.C_below HC.out hX8.out) hc (Kd.C_below HD.out hX8.out) hcb).mono ?_
  rintro e w9 ⟨F1, F2, F3, m1, m2, m3, d1, d2, d3, rfl, hd1, hd2, hd3, hF1, hF2, hF3, hb9⟩
  have hX9 := Lib.hid (Ext.tr hX8.out hb9)
  have y8 := Lib.hid (Ext.tr hb8 hb9)
  have y7 := Lib.hid (Ext.tr hb7 y8.out)
  have y6 := Lib.hid (Ext.tr hb6 y7.out)
  have y5 := Lib.hid (Ext.tr hb5 y6.out)
  go_wp2_with fail
  refine (sameHosts_any Aa Ab na nb ca cb2 _ _ w9 rfl (Kd.C_below hCa.out y5.out) (Kd.C_below hCb.out y6.out) hca hcb2).mono ?_
  rintro e w10 ⟨rfl, hb10⟩
  go_wp2_with fail
  refine (sameHosts_any Ac Ad nc nd cc cd _ _ w10 rfl (Kd.C_below hCc.out (Ext.tr y7.out hb10)) (Kd.C_below hCd.out (Ext.tr y8.out hb10)) hcc hcd).mono ?_
  rintro e w11 ⟨rfl, hb11⟩
  have z9 := Lib.hid (Ext.tr hb10 hb11)
  go_wp2_with fail
  refine (ints_same E1 F1 n1 m1 c1 d1 _ _ w11 rfl (Kd.C_below hE1.out (Ext.tr hb9 z9.out)) (Kd.C_below hF1.out z9.out) hc1 hd1).mono ?_
  rintro e w12 ⟨rfl, hb12⟩
  go_wp2_with fail
  refine (ints_same E2 F2 n2 m2 c2 d2 _ _ w12 rfl (Kd.C_below hE2.out (Ext.tr hb9 (Ext.tr z9.out hb12))) (Kd.C_below hF2.out (Ext.tr z9.out hb12)) hc2 hd2).mono ?_
  rintro e w13 ⟨rfl, hb13⟩
  go_wp2_with fail
  refine (ints_same E3 F3 n3 m3 c3 d3 _ _ w13 rfl (Kd.C_below hE3.out (Ext.tr hb9 (Ext.tr z9.out (Ext.tr hb12 hb13)))) (Kd.C_below hF3.out (Ext.tr z9.out (Ext.tr hb12 hb13))) hc3 hd3).mono ?_
  rintro e w14 ⟨rfl, hb14⟩
  have hX14 := Lib.hid (Ext.tr hX9.out (Ext.tr z9.out (Ext.tr hb12 (Ext.tr hb13 hb14))))
  go_wp2_with fail
  refine (may_any A c l w14 (Kd.C_below HC.out hX14.out) hc hn (szs hl)).mono ?_
  rintro e w15 ⟨rfl, hb15⟩
  go_wp2_with fail
  refine (rmayTable_any A c l w15 (Kd.C_below HC.out (Ext.tr hX14.out hb15)) hc).mono ?_
  rintro e w16 ⟨rfl, hb16⟩
  have hX16 := Lib.hid (Ext.tr hX14.out (Ext.tr hb15 hb16))
  go_wp2_with fail
  refine (find_any A c l id w16 (Kd.C_below HC.out hX16.out) hc).mono ?_
  rintro e w17 ⟨rfl, hb17⟩
  go_wp2_with fail
  refine (rfind_any A c l id w17 (Kd.C_below HC.out (Ext.tr hX16.out hb17)) hc).mono ?_
  rintro e w18 ⟨rfl, hb18⟩
  have hX18 := Lib.hid (Ext.tr hX16.out (Ext.tr hb17 hb18))
  go_wp2_with fail
  refine (awake_any w18).mono ?_
  rintro e w19 ⟨rfl, hb19⟩
  go_wp2
  go_ret
  exact ⟨rfl, Ext.tr hX18.out hb19⟩
theorem tableForms_any (A B : Option Addr) (c cb : Nat) (l m : List S34) (h : S34) (A5 : Option Addr) (c5 : Nat) (id : Int) (w : World) (hC : Kd.C k34 w A l.length l) (hc : l.length ≤ c) (hl : ∀ h ∈ l, hostSz h ≤ 4194304) (hn : l.length ≤ 4194304)
    (hD : Kd.C k34 w B m.length m) (hcb : m.length ≤ cb) (hlb : ∀ h ∈ m, hostSz h ≤ 4194304) (hnb : m.length ≤ 4194304)
    (hC5 : Kd.C k77 w A5 h.f5.length h.f5) (hc5 : h.f5.length ≤ c5) (hsz : hostSz h ≤ 4194304) :
    Calls Try.prog 7 #[.slice A l.length c, .slice B m.length cb, vHost h A5 c5, .int .i64 id] w fun e w' => e = .returned (.bool true) ∧ Ext w w' := by
  by_cases hLL : light8 l = 0 ∧ light8 m = 0 ∧ light7 h = 0
  · exact tableForms_yes A B c cb l m h A5 c5 id w hC hc hl hn hD hcb hlb hnb hC5 hc5 hsz hLL
  · exact tableForms_no A B c cb l m h A5 c5 id w hC hc hl hn hD hcb hlb hnb hC5 hc5 hsz hLL
end
end Go.Proofs.Ythfolhgaecfogaa
