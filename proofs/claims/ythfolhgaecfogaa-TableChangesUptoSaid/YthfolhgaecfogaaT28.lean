import Derived.Test.YthfolhgaecfogaaT27
set_option linter.unusedVariables false
set_option linter.unusedSimpArgs false
namespace Go.Proofs.Ythfolhgaecfogaa
open Go.RowKit Go.Proofs.YthfolhgaecfogaaW.PrintWords Go.Proofs.YthfolhgaecfogaaW.PrintLast Go.Proofs.YthfolhgaecfogaaW.PrintMore
/-! plain laws: what the tables' readings say -/
abbrev Rising (l : List S34) : Prop := l.Pairwise (fun a b => a.f0 < b.f0)
theorem rising_of {l : List S34} (h : risesB l = true) : Rising l := by
  have hs : ∀ i, i + 1 < l.length → (l.getD i z34).f0 < (l.getD (i + 1) z34).f0 := fun i hi => by
    have := List.all_eq_true.1 h i (List.mem_range.2 (by omega))
    simpa [riseAt] using this
  have hlt : ∀ d i, i + d + 1 < l.length → (l.getD i z34).f0 < (l.getD (i + d + 1) z34).f0 := by
    intro d
    induction d with
    | zero => exact fun i hi => hs i hi
    | succ d ih => exact fun i hi => Int.lt_trans (ih i (by omega)) (hs (i + d + 1) hi)
  refine List.pairwise_iff_getElem.2 ?_
  intro i j hi hj hij
  have h1 := hlt (j - i - 1) i (by omega)
  rw [show i + (j - i - 1) + 1 = j by omega] at h1
  rwa [List.getD_eq_getElem?_getD, List.getD_eq_getElem?_getD, List.getElem?_eq_getElem hi, List.getElem?_eq_getElem hj] at h1
theorem rises_of {l : List S34} (h : Rising l) : risesB l = true := by
  have h := List.pairwise_iff_getElem.1 h
  refine List.all_eq_true.2 (fun i hi => ?_)
  have hi' := List.mem_range.1 hi
  rw [riseAt_of l i (by omega)]
  exact decide_eq_true (h i (i + 1) (by omega) (by omega) (by omega))
theorem tableMay_iff {l : List S34} : tableMay l = true ↔ l.length ≤ 64 ∧ Rising l ∧ ∀ h ∈ l, hostMay h = true := by
  unfold tableMay
  rw [Bool.and_eq_true, Bool.and_eq_true, decide_eq_true_eq, List.all_eq_true]
  exact ⟨fun ⟨⟨a, b⟩, c⟩ => ⟨a, rising_of b, c⟩, fun ⟨a, b, c⟩ => ⟨⟨a, rises_of b⟩, c⟩⟩
theorem Rising.same {l : List S34} (hr : Rising l) {x y : S34} (hx : x ∈ l) (hy : y ∈ l) (h : x.f0 = y.f0) : x = y := by
  obtain ⟨i, hi, rfl⟩ := List.getElem_of_mem hx
  obtain ⟨j, hj, rfl⟩ := List.getElem_of_mem hy
  have hr := List.pairwise_iff_getElem.1 hr
  rcases Nat.lt_trichotomy i j with hij | hij | hij
  · have := hr i j hi hj hij; omega
  · subst hij; rfl
  · have := hr j i hj hi hij; omega
theorem findI_some {l : List S34} {id : Int} {i : Nat} (h : findI l id = i) : ∃ hi : i < l.length, l[i].f0 = id := by
  unfold findI idxF at h
  cases hf : l.findIdx? (fun h => h.f0 == id) with
  | none => rw [hf] at h; simp only at h; omega
  | some j =>
    rw [hf] at h
    simp only at h
    obtain rfl : j = i := by omega
    obtain ⟨hi, hp, _⟩ := List.findIdx?_eq_some_iff_getElem.1 hf
    exact ⟨hi, by simpa using hp⟩
theorem findI_none {l : List S34} {id : Int} (h : findI l id < 0) : ∀ x ∈ l, x.f0 ≠ id := by
  unfold findI idxF at h
  cases hf : l.findIdx? (fun h => h.f0 == id) with
  | none =>
    rw [List.findIdx?_eq_none_iff] at hf
    intro x hx he
    have := hf x hx
    simp [he] at this
  | some j => rw [hf] at h; simp only at h; omega
theorem findI_neg {l : List S34} {id : Int} (h : ∀ x ∈ l, x.f0 ≠ id) : findI l id < 0 := by
  rcases Int.lt_or_le (findI l id) 0 with h1 | h1
  · exact h1
  · obtain ⟨hi, he⟩ := findI_some (l := l) (id := id) (i := (findI l id).toNat) (by omega)
    exact absurd he (h _ (List.getElem_mem hi))
theorem sameAt_iff {l : List S34} (hl : Rising l) (h : S34) : sameAt l h = true ↔ ∃ x ∈ l, x.f0 = h.f0 ∧ x.f1.toList = h.f1.toList := by
  rcases Int.lt_or_le (findI l h.f0) 0 with h1 | h1
  · rw [sameAt_none h1]
    constructor
    · intro h2; cases h2
    · rintro ⟨x, hx, he, _⟩; exact absurd he (findI_none h1 x hx)
  · have hi : findI l h.f0 = ((findI l h.f0).toNat : Int) := by omega
    obtain ⟨hlt, he⟩ := findI_some hi
    rw [sameAt_some hi hlt, beq_iff_eq]
    constructor
    · intro h2; exact ⟨_, List.getElem_mem hlt, he, h2⟩
    · rintro ⟨x, hx, hx1, hx2⟩
      have := hl.same hx (List.getElem_mem hlt) (hx1.trans he.symm)
      rw [← this]; exact hx2
theorem eq_of_sorted : ∀ {a b : List Int}, a.Pairwise (· < ·) → b.Pairwise (· < ·) → (∀ x, x ∈ a ↔ x ∈ b) → a = b
  | [], [], _, _, _ => rfl
  | [], y :: s, _, _, h => by have := (h y).2 List.mem_cons_self; cases this
  | x :: r, [], _, _, h => by have := (h x).1 List.mem_cons_self; cases this
  | x :: r, y :: s, ha, hb, h => by
    rw [List.pairwise_cons] at ha hb
    have hxy : x = y := by
      have h1 := (h x).1 List.mem_cons_self
      have h2 := (h y).2 List.mem_cons_self
      rcases List.mem_cons.1 h1 with e | e
      · exact e
      · rcases List.mem_cons.1 h2 with e2 | e2
        · exact e2.symm
        · have := hb.1 x e; have := ha.1 y e2; omega
    subst hxy
    congr 1
    refine eq_of_sorted ha.2 hb.2 (fun z => ?_)
    constructor
    · intro hz
      rcases List.mem_cons.1 ((h z).1 (List.mem_cons_of_mem _ hz)) with e | e
      · subst e; have := ha.1 z hz; omega
      · exact e
    · intro hz
      rcases List.mem_cons.1 ((h z).2 (List.mem_cons_of_mem _ hz)) with e | e
      · subst e; have := hb.1 z hz; omega
      · exact e
theorem ids_sorted {l : List S34} (hl : Rising l) (p : S34 → Bool) : ((l.filter p).map (·.f0)).Pairwise (· < ·) := by
  rw [List.pairwise_map]
  exact hl.filter p
theorem same_comm {l m : List S34} (hl : Rising l) (hm : Rising m) : (m.filter (fun h => sameAt l h)).map (·.f0) = (l.filter (fun h => sameAt m h)).map (·.f0) := by
  refine eq_of_sorted (ids_sorted hm _) (ids_sorted hl _) (fun z => ?_)
  have side : ∀ {l m : List S34}, Rising l → Rising m → z ∈ (m.filter (fun h => sameAt l h)).map (·.f0) → z ∈ (l.filter (fun h => sameAt m h)).map (·.f0) := by
    intro l m hl hm hz
    obtain ⟨h, hh, rfl⟩ := List.mem_map.1 hz
    obtain ⟨hhm, hs⟩ := List.mem_filter.1 hh
    obtain ⟨x, hx, h1, h2⟩ := (sameAt_iff hl h).1 hs
    exact List.mem_map.2 ⟨x, List.mem_filter.2 ⟨hx, (sameAt_iff hm x).2 ⟨h, hhm, h1.symm, h2.symm⟩⟩, h1⟩
  exact ⟨side hl hm, side hm hl⟩
theorem cuts_eq (l m : List S34) : cutsOf l m = rcutsOf l m := by
  unfold cutsOf rcutsOf samesOf
  cases hb : bothMay l m
  · rfl
  · simp only [if_true]
    unfold bothMay at hb
    rw [Bool.and_eq_true] at hb
    have hl := (tableMay_iff.1 hb.1).2.1
    have hm := (tableMay_iff.1 hb.2).2.1
    congr 1
    refine List.filter_congr (fun h hh => ?_)
    congr 1
    rw [Bool.eq_iff_iff, List.any_eq_true, sameAt_iff hm]
    constructor
    · rintro ⟨y, hy, he⟩
      obtain ⟨g, hg, rfl⟩ := List.mem_map.1 hy
      obtain ⟨hgm, hs⟩ := List.mem_filter.1 hg
      obtain ⟨x, hx, h1, h2⟩ := (sameAt_iff hl g).1 hs
      have he' : h.f0 = g.f0 := by simpa using he
      have := hl.same hx hh (h1.trans he'.symm)
      subst this
      exact ⟨g, hgm, h1.symm, h2.symm⟩
    · rintro ⟨g, hgm, h1, h2⟩
      exact ⟨g.f0, List.mem_map.2 ⟨g, List.mem_filter.2 ⟨hgm, (sameAt_iff hl g).2 ⟨h, hh, h1.symm, h2.symm⟩⟩, rfl⟩, by simp [h1]⟩
theorem both_comm (l m : List S34) : bothMay m l = bothMay l m := by unfold bothMay; rw [Bool.and_comm]
theorem add_cut (l m : List S34) : addsOf l m = cutsOf m l := by
  rw [cuts_eq]
  unfold addsOf rcutsOf
  rw [both_comm l m]
theorem cut_add (l m : List S34) : cutsOf l m = addsOf m l := (add_cut m l).symm
theorem same_same (l m : List S34) : samesOf l m = samesOf m l := by
  unfold samesOf
  rw [both_comm l m]
  cases hb : bothMay l m
  · rfl
  · simp only [if_true]
    unfold bothMay at hb
    rw [Bool.and_eq_true] at hb
    exact same_comm (tableMay_iff.1 hb.1).2.1 (tableMay_iff.1 hb.2).2.1
theorem filter_parts (p : S34 → Bool) : ∀ l : List S34, (l.filter (fun h => !p h)).length + (l.filter p).length = l.length
  | [] => rfl
  | x :: r => by
    have := filter_parts p r
    cases h : p x <;> simp [List.filter_cons, h] <;> omega
theorem add_len {l m : List S34} (hb : bothMay l m = true) : (addsOf l m).length + (samesOf l m).length = m.length := by
  unfold addsOf samesOf
  simp only [hb, if_true, List.length_map]
  exact filter_parts (fun h => sameAt l h) m
theorem cut_len {l m : List S34} (hb : bothMay l m = true) : (cutsOf l m).length + (samesOf l m).length = l.length := by
  rw [cut_add, same_same]
  exact add_len (by rw [both_comm]; exact hb)
theorem self_same {l : List S34} (hb : tableMay l = true) : addsOf l l = [] ∧ cutsOf l l = [] ∧ (samesOf l l).length = l.length := by
  have hr := (tableMay_iff.1 hb).2.1
  have hb2 : bothMay l l = true := by unfold bothMay; rw [hb]; rfl
  have hs : ∀ h ∈ l, sameAt l h = true := fun h hh => (sameAt_iff hr h).2 ⟨h, hh, rfl, rfl⟩
  have ha : addsOf l l = [] := by
    unfold addsOf
    simp only [hb2, if_true]
    rw [List.map_eq_nil_iff, List.filter_eq_nil_iff]
    intro h hh
    simp [hs h hh]
  refine ⟨ha, by rw [← add_cut]; exact ha, ?_⟩
  have := add_len hb2
  rw [ha] at this
  simpa using this
end Go.Proofs.Ythfolhgaecfogaa
