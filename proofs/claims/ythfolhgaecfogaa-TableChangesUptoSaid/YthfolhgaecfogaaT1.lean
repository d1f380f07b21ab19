import Derived.Test.YthfolhgaecfogaaT0
import Derived.Lib.Hide
namespace Go.Proofs.Ythfolhgaecfogaa
open Go.RowKit Go.Proofs.YthfolhgaecfogaaW.PrintWords Go.Proofs.YthfolhgaecfogaaW.PrintLast Go.Proofs.YthfolhgaecfogaaW.PrintMore
def okc (c : UInt8) : Bool := (97 ≤ c && c ≤ 122) || (48 ≤ c && c ≤ 57) || c == 45 || c == 46
def wordB (s : ByteArray) : Bool := 1 ≤ s.size && s.size ≤ 12 && !(s.toList == [45]) && s.data.toList.all okc
theorem take_snoc (s : ByteArray) (k : Nat) (h : k < s.size) : s.data.toList.take (k + 1) = s.data.toList.take k ++ [s[k]] := by
  rw [List.take_succ_eq_append_getElem (by simpa using h)]; rfl
def okP (c : UInt8) : Prop := (97 ≤ (c.toNat : Int) ∧ (c.toNat : Int) ≤ 122) ∨ (48 ≤ (c.toNat : Int) ∧ (c.toNat : Int) ≤ 57) ∨ (c.toNat : Int) = 45 ∨ (c.toNat : Int) = 46
theorem okc_iff (c : UInt8) : okc c = true ↔ okP c := by
  simp only [okc, okP, Bool.or_eq_true, Bool.and_eq_true, decide_eq_true_eq, UInt8.le_iff_toNat_le, beq_iff_eq, ← UInt8.toNat_inj]
  have e1 : (97 : UInt8).toNat = 97 := rfl
  have e2 : (122 : UInt8).toNat = 122 := rfl
  have e3 : (48 : UInt8).toNat = 48 := rfl
  have e4 : (57 : UInt8).toNat = 57 := rfl
  have e5 : (45 : UInt8).toNat = 45 := rfl
  have e6 : (46 : UInt8).toNat = 46 := rfl
  rw [e1, e2, e3, e4, e5, e6]
  omega
theorem okc_split (c : UInt8) {P : Prop} (A : Hid (okc c = true) → 97 ≤ (c.toNat : Int) → (c.toNat : Int) ≤ 122 → P) (B : Hid (okc c = true) → 48 ≤ (c.toNat : Int) → (c.toNat : Int) ≤ 57 → P)
    (C : Hid (okc c = true) → 45 ≤ (c.toNat : Int) → (c.toNat : Int) ≤ 45 → ((c.toNat : Int) != 45) = false → P) (D : Hid (okc c = true) → 46 ≤ (c.toNat : Int) → (c.toNat : Int) ≤ 46 → ((c.toNat : Int) != 45) = true → ((c.toNat : Int) != 46) = false → P)
    (E : Hid (okc c = false) → ((c.toNat : Int) < 97 ∨ 122 < (c.toNat : Int)) → ((c.toNat : Int) < 48 ∨ 57 < (c.toNat : Int)) → ((c.toNat : Int) != 45) = true → ((c.toNat : Int) != 46) = true → P) : P := by
  have h := okc_iff c
  by_cases h1 : 97 ≤ (c.toNat : Int) ∧ (c.toNat : Int) ≤ 122
  · exact A (h.2 (.inl h1)) h1.1 h1.2
  by_cases h2 : 48 ≤ (c.toNat : Int) ∧ (c.toNat : Int) ≤ 57
  · exact B (h.2 (.inr (.inl h2))) h2.1 h2.2
  by_cases h3 : (c.toNat : Int) = 45
  · exact C (h.2 (.inr (.inr (.inl h3)))) (by omega) (by omega) (bne_eq_false_iff_eq.2 h3)
  by_cases h4 : (c.toNat : Int) = 46
  · exact D (h.2 (.inr (.inr (.inr h4)))) (by omega) (by omega) (bne_iff_ne.2 h3) (bne_eq_false_iff_eq.2 h4)
  · refine E ?_ (by omega) (by omega) (bne_iff_ne.2 h3) (bne_iff_ne.2 h4)
    cases hc : okc c
    · rfl
    · have := h.1 hc; unfold okP at this; omega
theorem all_step (s : ByteArray) (k : Nat) (h : k < s.size) (hg : (s.data.toList.take k).all okc = true) (hc : okc s[k] = true) : (s.data.toList.take (k + 1)).all okc = true := by
  rw [take_snoc s k h, List.all_append, hg]; simp [hc]
theorem all_stop (s : ByteArray) (k : Nat) (h : k < s.size) (hc : okc s[k] = false) : s.data.toList.all okc = false := by
  rw [List.all_eq_false]
  exact ⟨s[k], List.getElem_mem (by simpa using h), by rw [hc]; simp⟩
theorem wordB_no1 (s : ByteArray) (h : s.size < 1) : wordB s = false := by simp [wordB]; omega
theorem wordB_no2 (s : ByteArray) (h : 12 < s.size) : wordB s = false := by simp [wordB]; omega
theorem wordB_no3 (s : ByteArray) (h : (s.toList == [45]) = true) : wordB s = false := by simp [wordB, h]
theorem wordB_yes (s : ByteArray) (h1 : 1 ≤ s.size) (h2 : s.size ≤ 12) (h3 : (s.toList == [45]) = false) : wordB s = s.data.toList.all okc := by simp [wordB, h3]; omega
theorem wordB_stop (s : ByteArray) (h : s.data.toList.all okc = false) : wordB s = false := by simp [wordB, h]
set_option maxHeartbeats 400000 in
theorem rword_any (s : ByteArray) (w : World) :
    Calls Try.prog 44 #[.string s] w fun e w' => e = .returned (.bool (wordB s)) ∧ w = w' := by
  by_cases h1 : s.size < 1
  · have E := Lib.hid (wordB_no1 s h1)
    go_enter Try.func44, Try.ntmps44
    go_wp2
    go_ret
    exact ⟨by rw [E.out]; rfl, rfl⟩
  by_cases h2 : 12 < s.size
  · have E := Lib.hid (wordB_no2 s h2)
    go_enter Try.func44, Try.ntmps44
    go_wp2
    go_ret
    exact ⟨by rw [E.out]; rfl, rfl⟩
  have h1' : 1 ≤ s.size := by omega
  have h2' : s.size ≤ 12 := by omega
  clear h1 h2
  cases h3 : s.toList == [45]
  case true =>
    have E := Lib.hid (wordB_no3 s h3)
    go_enter Try.func44, Try.ntmps44
    go_wp2
    go_ret
    exact ⟨by rw [E.out]; rfl, rfl⟩
  case false =>
    have E := Lib.hid (wordB_yes s h1' h2' h3)
    go_enter Try.func44, Try.ntmps44
    go_wp2
    go_loop [19] (fun i => ∃ k : Nat, k ≤ s.size ∧ i = .int .i64 k ∧ Hid ((s.data.toList.take k).all okc = true)) (fun i => s.size - (intOf i).toNat)
    case atStart => exact ⟨0, Nat.zero_le _, rfl, rfl⟩
    case round =>
      obtain ⟨k, hk, rfl, hg⟩ := hrel
      by_cases hlt : k < s.size
      · refine okc_split s[k] ?_ ?_ ?_ ?_ ?_ <;> intro hc
        all_goals intros
        case refine_5 =>
          have hf := Lib.hid (all_stop s k hlt hc.out)
          go_wp2
          all_goals
            go_ret
            exact ⟨by rw [E.out, hf.out]; rfl, rfl⟩
        all_goals
          go_wp2
          all_goals
            go_round
            case rel => exact ⟨k + 1, by omega, by go_num, all_step s k hlt hg.out hc.out⟩
            case measure => simp [intOf]; omega
      · go_wp2
        go_ret
        have e : s.data.toList.take k = s.data.toList := List.take_of_length_le (by simp; omega)
        have e2 := hg.out
        rw [e] at e2
        exact ⟨by rw [E.out, e2]; rfl, rfl⟩
set_option maxHeartbeats 400000 in
theorem word_any (s : ByteArray) (w : World) (hs : s.size ≤ 4194304) :
    Calls Try.prog 68 #[.string s] w fun e w' => e = .returned (.bool (wordB s)) ∧ w = w' := by
  go_enter Try.func68, Try.ntmps68
  go_wp2
  go_loop [7] (fun i => ∃ k : Nat, k ≤ s.size ∧ i = .int .i64 k ∧ Hid ((s.data.toList.take k).all okc = true)) (fun i => s.size - (intOf i).toNat)
  case atStart => exact ⟨0, Nat.zero_le _, rfl, rfl⟩
  case round =>
    obtain ⟨k, hk, rfl, hg⟩ := hrel
    by_cases hlt : k < s.size
    · refine okc_split s[k] ?_ ?_ ?_ ?_ ?_ <;> intro hc
      all_goals intros
      case refine_5 =>
        have hf := Lib.hid (wordB_stop s (all_stop s k hlt hc.out))
        go_wp2
        all_goals
          go_ret
          exact ⟨by rw [hf.out]; rfl, rfl⟩
      all_goals
        go_wp2
        all_goals
          go_round
          case rel => exact ⟨k + 1, by omega, by go_num, all_step s k hlt hg.out hc.out⟩
          case measure => simp [intOf]; omega
    · have e : s.data.toList.take k = s.data.toList := List.take_of_length_le (by simp; omega)
      have e2 := hg.out
      rw [e] at e2
      have E2 := Lib.hid e2
      clear e e2
      by_cases h1 : s.size < 1
      · have E := Lib.hid (wordB_no1 s h1)
        go_wp2
        go_ret
        exact ⟨by rw [E.out]; rfl, rfl⟩
      by_cases h2 : 12 < s.size
      · have E := Lib.hid (wordB_no2 s h2)
        go_wp2
        go_ret
        exact ⟨by rw [E.out]; rfl, rfl⟩
      have h1' : 1 ≤ s.size := by omega
      have h2' : s.size ≤ 12 := by omega
      clear h1 h2
      cases h3 : s.toList == [45]
      case true =>
        have E := Lib.hid (wordB_no3 s h3)
        go_wp2
        go_ret
        exact ⟨by rw [E.out]; rfl, rfl⟩
      case false =>
        have E := Lib.hid (wordB_yes s h1' h2' h3)
        go_wp2
        go_ret
        exact ⟨by rw [E.out, E2.out]; rfl, rfl⟩
def pairMay (p : S77) : Bool := wordB p.f0 && wordB p.f1
theorem notWords_any (p : S77) (w : World) (h0 : p.f0.size ≤ 4194304) (h01 : p.f1.size ≤ 4194304) :
    Calls Try.prog 80 #[.agg #[.string p.f0, .string p.f1]] w fun e w' => e = .returned (.bool (!pairMay p)) ∧ Below w.heap.size w w' := by
  cases h1 : wordB p.f0
  · have E : Hid (pairMay p = false) := by show _ = _; simp [pairMay, h1]
    go_enter Try.func80, Try.ntmps80
    go_wp2_with fail
    refine (word_any _ _ h0).mono ?_
    rintro e w' ⟨rfl, rfl⟩
    rw [h1]
    go_wp2
    go_ret
    exact ⟨by rw [E.out]; rfl, (Below.refl _ _).alloc (Nat.le_refl _) _⟩
  · have E : Hid (pairMay p = wordB p.f1) := by show _ = _; simp [pairMay, h1]
    go_enter Try.func80, Try.ntmps80
    go_wp2_with fail
    refine (word_any _ _ h0).mono ?_
    rintro e w' ⟨rfl, rfl⟩
    rw [h1]
    go_wp2_with fail
    refine (word_any _ _ h01).mono ?_
    rintro e w' ⟨rfl, rfl⟩
    go_wp2
    go_ret
    exact ⟨by rw [E.out]; rfl, (Below.refl _ _).alloc (Nat.le_refl _) _⟩
end Go.Proofs.Ythfolhgaecfogaa
