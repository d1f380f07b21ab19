import Derived.Test.YthfolhgaecfogaaT3
set_option linter.unusedVariables false
set_option linter.unusedSimpArgs false
namespace Go.Proofs.Ythfolhgaecfogaa
open Go.RowKit Go.Proofs.YthfolhgaecfogaaW.PrintWords Go.Proofs.YthfolhgaecfogaaW.PrintLast Go.Proofs.YthfolhgaecfogaaW.PrintMore
set_option maxRecDepth 100000 in
set_option maxHeartbeats 1000000 in
theorem rmaySub_any (A : Option Addr) (c : Nat) (l : List S77) (w : World) (hC : Kd.C k77 w A l.length l) (hc : l.length ≤ c) :
    Calls Try.prog 45 #[.slice A l.length c] w fun e w' => e = .returned (.bool (pairsMay l)) ∧ Ext w w' := by
  have hu := Try.underlying77
  have hm := len_max hC
  have HC := Lib.hid hC
  clear hC
  go_enter Try.func45, Try.ntmps45
  go_wp2
  go_loopw [7] (fun i wr => ∃ k : Nat, k ≤ l.length ∧ i = .int .i64 k ∧ Hid ((l.take k).any (fun p => !pairMay p) = false) ∧ Ext w wr) (fun i _ => l.length - (intOf i).toNat)
  case atStart => exact ⟨0, Nat.zero_le _, rfl, rfl, Below.refl _ _⟩
  case round =>
    obtain ⟨k, hk, rfl, hg, hb⟩ := hrel
    by_cases hlt : k < l.length
    · obtain ⟨ad, rfl, h0, h1⟩ := C77 (Kd.C_below HC.out hb) hlt
      cases q1 : wordB l[k].f0
      · have hr : Hid (pairsMay l = false) := by
          show _ = _
          have : l.any (fun p => !pairMay p) = true := List.any_eq_true.2 ⟨l[k], List.getElem_mem hlt, by simp [pairMay, q1]⟩
          simp [pairsMay, this]
        go_wp2_with (go_at_call 44; refine (rword_any _ _).mono ?_; rintro e w' ⟨rfl, rfl⟩)
        go_ret
        exact ⟨by rw [hr.out]; rfl, Ext.tr hb (ext_alloc _ _)⟩
      cases q2 : wordB l[k].f1
      · have hr : Hid (pairsMay l = false) := by
          show _ = _
          have : l.any (fun p => !pairMay p) = true := List.any_eq_true.2 ⟨l[k], List.getElem_mem hlt, by simp [pairMay, q2]⟩
          simp [pairsMay, this]
        go_wp2_with (go_at_call 44; refine (rword_any _ _).mono ?_; rintro e w' ⟨rfl, rfl⟩)
        go_ret
        exact ⟨by rw [hr.out]; rfl, Ext.tr hb (ext_alloc _ _)⟩
      · have hr := Lib.hid (any_step (p := fun p => !pairMay p) hlt hg.out (by simp [pairMay, q1, q2]))
        go_wp2_with (go_at_call 44; refine (rword_any _ _).mono ?_; rintro e w' ⟨rfl, rfl⟩)
        go_roundw
        case rel => exact ⟨k + 1, by omega, by go_num, hr, Ext.tr hb (ext_alloc _ _)⟩
        case measure => simp [intOf]; omega
    · have e : l.take k = l := List.take_of_length_le (by omega)
      have e2 := hg.out
      rw [e] at e2
      have hr : Hid (pairsMay l = decide (l.length ≤ 6)) := by show _ = _; simp [pairsMay, e2]
      clear e e2
      go_wp2
      go_ret
      exact ⟨by rw [hr.out]; simp; omega, hb⟩
theorem bytesLess_lt : ∀ (x y : List UInt8), Op.bytesLess x y = decide (x < y)
  | [], [] => by simp [Op.bytesLess]
  | _ :: _, [] => by simp [Op.bytesLess]
  | [], _ :: _ => by simp [Op.bytesLess]
  | a :: x, b :: y => by
    rw [Op.bytesLess, bytesLess_lt x y]
    by_cases h : a = b
    · subst h; simp [List.cons_lt_cons_iff]
    · by_cases h2 : a < b
      · simp [List.cons_lt_cons_iff, h, h2]
      · simp [List.cons_lt_cons_iff, h, h2]
theorem less_total (a b : List UInt8) : (Op.bytesLess b a || b == a) = !Op.bytesLess a b := by
  rw [bytesLess_lt, bytesLess_lt]
  by_cases h : a < b
  · have h1 : ¬ b < a := List.lt_asymm h
    have h2 : b ≠ a := fun e => by subst e; exact List.lt_irrefl _ h
    simp [h, h1, h2]
  · rcases List.le_iff_lt_or_eq.1 (List.not_lt.1 h) with h1 | h1
    · simp [h, h1]
    · subst h1; simp [h]
set_option maxRecDepth 100000 in
set_option maxHeartbeats 1000000 in
theorem rhostMay_no (h : S34) (A : Option Addr) (c : Nat) (w : World) (hC : Kd.C k77 w A h.f5.length h.f5) (hc : h.f5.length ≤ c) (hno : condMay h = false) :
    Calls Try.prog 15 #[vHost h A c] w fun e w' => e = .returned (.bool (hostMay h)) ∧ Ext w w' := by
  have hu := Try.underlying77
  have hu34 := Try.underlying34
  have hm := len_max hC
  have HC := Lib.hid hC
  clear hC
  have NO : Hid (hostMay h = false) := by show _ = _; simp [hostMay, hno]
  have HN := Lib.hid hno
  clear hno
  have hB0 : Box34 (w.alloc (.cells #[.int .i64 h.f0, .string h.f1, .int .i64 h.f2, .string h.f3, .int .i64 h.f4, .slice A h.f5.length c] 34)) w.heap.size h A c := heap_alloc_new w _
  obtain ⟨c0, c1, c2, c3, c4, c5⟩ := hB0.cells
  clear hB0
  unfold vHost
  refine condMay_split h ?_ ?_ ?_ ?_ ?_ ?_ ?_ ?_ ?_ <;> intro hE <;> intros
  case refine_9 =>
    have qp := hE.out.symm.trans HN.out
    rcases ‹(h.f3.toList.isEmpty) = true ∨ _› with z | ⟨z1, z2⟩
    all_goals
      go_enter Try.func15, Try.ntmps15
      go_wp2_with (first | (go_at_call 44; refine (rword_any _ _).mono ?_; rintro e w' ⟨rfl, rfl⟩) | (go_at_call 45; refine (rmaySub_any A c h.f5 _ (Kd.C_below HC.out (ext_alloc _ _)) hc).mono ?_; rintro e w1 ⟨rfl, hb1⟩))
      go_ret
      exact ⟨by rw [NO.out]; rfl, Ext.tr (ext_alloc _ _) hb1⟩
  case refine_1 | refine_2 | refine_3 | refine_4 =>
    go_enter Try.func15, Try.ntmps15
    go_wp2_with (go_at_call 44; refine (rword_any _ _).mono ?_; rintro e w' ⟨rfl, rfl⟩)
    go_ret
    exact ⟨by rw [NO.out]; rfl, ext_alloc _ _⟩
  all_goals
    rcases ‹(h.f3.toList.isEmpty) = true ∨ _› with z | ⟨z1, z2⟩
    all_goals
      go_enter Try.func15, Try.ntmps15
      go_wp2_with (go_at_call 44; refine (rword_any _ _).mono ?_; rintro e w' ⟨rfl, rfl⟩)
      go_ret
      exact ⟨by rw [NO.out]; rfl, ext_alloc _ _⟩
theorem condMay_yes (h : S34) (hy : condMay h = true) : 1 ≤ h.f0 ∧ h.f0 ≤ 1000000 ∧ wordB h.f1 = true ∧ ((h.f3.toList.isEmpty) = true ∨ (h.f3.toList.isEmpty) = false ∧ wordB h.f3 = true) ∧ 0 ≤ h.f2 ∧ h.f2 ≤ 3 ∧ 1 ≤ h.f4 ∧ h.f4 ≤ 20 ∧ pairsMay h.f5 = true := by
  simp only [condMay, Bool.and_eq_true, Bool.or_eq_true, decide_eq_true_eq] at hy
  obtain ⟨⟨⟨⟨⟨⟨⟨⟨a, b⟩, c⟩, d⟩, e⟩, f⟩, g⟩, i⟩, j⟩ := hy
  refine ⟨a, b, c, ?_, e, f, g, i, j⟩
  rcases d with d | d
  · exact .inl d
  · cases hz : h.f3.toList.isEmpty
    · exact .inr ⟨rfl, d⟩
    · exact .inl rfl
end Go.Proofs.Ythfolhgaecfogaa
