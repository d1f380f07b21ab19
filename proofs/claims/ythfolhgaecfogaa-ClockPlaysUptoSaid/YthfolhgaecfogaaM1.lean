import Derived.Test.YthfolhgaecfogaaT0
import Derived.Lib.Hide
import Derived.WalkLawsBesides
import Derived.WalkSpells
import Derived.Lib.QuietBelow
set_option linter.unusedVariables false
set_option linter.unusedSimpArgs false
namespace Go.Proofs.Ythfolhgaecfogaa
section
open Go.RowKit Go.Proofs.YthfolhgaecfogaaW.PrintWords Go.Proofs.YthfolhgaecfogaaW.PrintLast Go.Proofs.YthfolhgaecfogaaW.PrintMore
def okc (c : UInt8) : Bool := (97 ≤ c && c ≤ 122) || (48 ≤ c && c ≤ 57) || c == 45 || c == 46
def wordB (s : ByteArray) : Bool := 1 ≤ s.size && s.size ≤ 12 && !(s.toList == [45]) && s.data.toList.all okc
theorem take_snoc (s : ByteArray) (k : Nat) (h : k < s.size) : s.data.toList.take (k + 1) = s.data.toList.take k ++ [s[k]] := by
  rw [List.take_succ_eq_append_getElem (by simpa using h)]; rfl
def okP (c : UInt8) : Prop := (97 ≤ (c.toNat : Int) ∧ (c.toNat : Int) ≤ 122) ∨ (48 ≤ (c.toNat : Int) ∧ (c.toNat : Int) ≤ 57) ∨ (c.toNat : Int) = 45 ∨ (c.toNat : Int) = 46
theorem okc_iff (c : UInt8) : okc c = true ↔ okP c := by
  simp only [okc, okP, Bool.or_eq_true, Bool.and_eq_true, decide_eq_true_eq, UInt8.le_iff_toNat_le, beq_iff_eq, ← UInt8.toNat_inj]
  have e1 : (97 : UInt8).toNat = 97 := rfl
  have e2 : (122 : UInt8).toNat = 122 := rfl
  have e3 : (48 : UInt8).toNat = 48 := rfl
  have e4 : (57 : UInt8).toNat = 57 := rfl
  have e5 : (45 : UInt8).toNat = 45 := rfl
  have e6 : (46 : UInt8).toNat = 46 := rfl
  rw [e1, e2, e3, e4, e5, e6]
  omega
theorem okc_split (c : UInt8) {P : Prop} (A : Hid (okc c = true) → 97 ≤ (c.toNat : Int) → (c.toNat : Int) ≤ 122 → P) (B : Hid (okc c = true) → 48 ≤ (c.toNat : Int) → (c.toNat : Int) ≤ 57 → P)
    (C : Hid (okc c = true) → 45 ≤ (c.toNat : Int) → (c.toNat : Int) ≤ 45 → ((c.toNat : Int) != 45) = false → P) (D : Hid (okc c = true) → 46 ≤ (c.toNat : Int) → (c.toNat : Int) ≤ 46 → ((c.toNat : Int) != 45) = true → ((c.toNat : Int) != 46) = false → P)
    (E : Hid (okc c = false) → ((c.toNat : Int) < 97 ∨ 122 < (c.toNat : Int)) → ((c.toNat : Int) < 48 ∨ 57 < (c.toNat : Int)) → ((c.toNat : Int) != 45) = true → ((c.toNat : Int) != 46) = true → P) : P := by
  have h := okc_iff c
  by_cases h1 : 97 ≤ (c.toNat : Int) ∧ (c.toNat : Int) ≤ 122
  · exact A (h.2 (.inl h1)) h1.1 h1.2
  by_cases h2 : 48 ≤ (c.toNat : Int) ∧ (c.toNat : Int) ≤ 57
  · exact B (h.2 (.inr (.inl h2))) h2.1 h2.2
  by_cases h3 : (c.toNat : Int) = 45
  · exact C (h.2 (.inr (.inr (.inl h3)))) (by omega) (by omega) (bne_eq_false_iff_eq.2 h3)
  by_cases h4 : (c.toNat : Int) = 46
  · exact D (h.2 (.inr (.inr (.inr h4)))) (by omega) (by omega) (bne_iff_ne.2 h3) (bne_eq_false_iff_eq.2 h4)
  · refine E ?_ (by omega) (by omega) (bne_iff_ne.2 h3) (bne_iff_ne.2 h4)
    cases hc : okc c
    · rfl
    · have := h.1 hc; unfold okP at this; omega
theorem all_step (s : ByteArray) (k : Nat) (h : k < s.size) (hg : (s.data.toList.take k).all okc = true) (hc : okc s[k] = true) : (s.data.toList.take (k + 1)).all okc = true := by
  rw [take_snoc s k h, List.all_append, hg]; simp [hc]
theorem all_stop (s : ByteArray) (k : Nat) (h : k < s.size) (hc : okc s[k] = false) : s.data.toList.all okc = false := by
  rw [List.all_eq_false]
  exact ⟨s[k], List.getElem_mem (by simpa using h), by rw [hc]; simp⟩
theorem wordB_no1 (s : ByteArray) (h : s.size < 1) : wordB s = false := by simp [wordB]; omega
theorem wordB_no2 (s : ByteArray) (h : 12 < s.size) : wordB s = false := by simp [wordB]; omega
theorem wordB_no3 (s : ByteArray) (h : (s.toList == [45]) = true) : wordB s = false := by simp [wordB, h]
theorem wordB_yes (s : ByteArray) (h1 : 1 ≤ s.size) (h2 : s.size ≤ 12) (h3 : (s.toList == [45]) = false) : wordB s = s.data.toList.all okc := by simp [wordB, h3]; omega
theorem wordB_stop (s : ByteArray) (h : s.data.toList.all okc = false) : wordB s = false := by simp [wordB, h]
set_option maxHeartbeats 400000 in
theorem rword_any (s : ByteArray) (w : World) :
    Calls Try.prog 44 #[.string s] w fun e w' => e = .returned (.bool (wordB s)) ∧ w = w' := by
  by_cases h1 : s.size < 1
  · have E := Lib.hid (wordB_no1 s h1)
    go_enter Try.func44, Try.ntmps44
    go_wp2
    go_ret
    exact ⟨by rw [E.out]; rfl, rfl⟩
  by_cases h2 : 12 < s.size
  · have E := Lib.hid (wordB_no2 s h2)
    go_enter Try.func44, Try.ntmps44
    go_wp2
    go_ret
    exact ⟨by rw [E.out]; rfl, rfl⟩
  have h1' : 1 ≤ s.size := by omega
  have h2' : s.size ≤ 12 := by omega
  clear h1 h2
  cases h3 : s.toList == [45]
  case true =>
    have E := Lib.hid (wordB_no3 s h3)
    go_enter Try.func44, Try.ntmps44
    go_wp2
    go_ret
    exact ⟨by rw [E.out]; rfl, rfl⟩
  case false =>
    have E := Lib.hid (wordB_yes s h1' h2' h3)
    go_enter Try.func44, Try.ntmps44
    go_wp2
    go_loop [19] (fun i => ∃ k : Nat, k ≤ s.size ∧ i = .int .i64 k ∧ Hid ((s.data.toList.take k).all okc = true)) (fun i => s.size - (intOf i).toNat)
    case atStart => exact ⟨0, Nat.zero_le _, rfl, rfl⟩
    case round =>
      obtain ⟨k, hk, rfl, hg⟩ := hrel
      by_cases hlt : k < s.size
      · refine okc_split s[k] ?_ ?_ ?_ ?_ ?_ <;> intro hc
        all_goals intros
        case refine_5 =>
          have hf := Lib.hid (all_stop s k hlt hc.out)
          go_wp2
          all_goals
            go_ret
            exact ⟨by rw [E.out, hf.out]; rfl, rfl⟩
        all_goals
          go_wp2
          all_goals
            go_round
            case rel => exact ⟨k + 1, by omega, by go_num, all_step s k hlt hg.out hc.out⟩
            case measure => simp [intOf]; omega
      · go_wp2
        go_ret
        have e : s.data.toList.take k = s.data.toList := List.take_of_length_le (by simp; omega)
        have e2 := hg.out
        rw [e] at e2
        exact ⟨by rw [E.out, e2]; rfl, rfl⟩
set_option maxHeartbeats 400000 in
theorem word_any (s : ByteArray) (w : World) (hs : s.size ≤ 4194304) :
    Calls Try.prog 68 #[.string s] w fun e w' => e = .returned (.bool (wordB s)) ∧ w = w' := by
  go_enter Try.func68, Try.ntmps68
  go_wp2
  go_loop [7] (fun i => ∃ k : Nat, k ≤ s.size ∧ i = .int .i64 k ∧ Hid ((s.data.toList.take k).all okc = true)) (fun i => s.size - (intOf i).toNat)
  case atStart => exact ⟨0, Nat.zero_le _, rfl, rfl⟩
  case round =>
    obtain ⟨k, hk, rfl, hg⟩ := hrel
    by_cases hlt : k < s.size
    · refine okc_split s[k] ?_ ?_ ?_ ?_ ?_ <;> intro hc
      all_goals intros
      case refine_5 =>
        have hf := Lib.hid (wordB_stop s (all_stop s k hlt hc.out))
        go_wp2
        all_goals
          go_ret
          exact ⟨by rw [hf.out]; rfl, rfl⟩
      all_goals
        go_wp2
        all_goals
          go_round
          case rel => exact ⟨k + 1, by omega, by go_num, all_step s k hlt hg.out hc.out⟩
          case measure => simp [intOf]; omega
    · have e : s.data.toList.take k = s.data.toList := List.take_of_length_le (by simp; omega)
      have e2 := hg.out
      rw [e] at e2
      have E2 := Lib.hid e2
      clear e e2
      by_cases h1 : s.size < 1
      · have E := Lib.hid (wordB_no1 s h1)
        go_wp2
        go_ret
        exact ⟨by rw [E.out]; rfl, rfl⟩
      by_cases h2 : 12 < s.size
      · have E := Lib.hid (wordB_no2 s h2)
        go_wp2
        go_ret
        exact ⟨by rw [E.out]; rfl, rfl⟩
      have h1' : 1 ≤ s.size := by omega
      have h2' : s.size ≤ 12 := by omega
      clear h1 h2
      cases h3 : s.toList == [45]
      case true =>
        have E := Lib.hid (wordB_no3 s h3)
        go_wp2
        go_ret
        exact ⟨by rw [E.out]; rfl, rfl⟩
      case false =>
        have E := Lib.hid (wordB_yes s h1' h2' h3)
        go_wp2
        go_ret
        exact ⟨by rw [E.out, E2.out]; rfl, rfl⟩
def pairMay (p : S77) : Bool := wordB p.f0 && wordB p.f1
theorem notWords_any (p : S77) (w : World) (h0 : p.f0.size ≤ 4194304) (h01 : p.f1.size ≤ 4194304) :
    Calls Try.prog 80 #[.agg #[.string p.f0, .string p.f1]] w fun e w' => e = .returned (.bool (!pairMay p)) ∧ Below w.heap.size w w' := by
  cases h1 : wordB p.f0
  · have E : Hid (pairMay p = false) := by show _ = _; simp [pairMay, h1]
    go_enter Try.func80, Try.ntmps80
    go_wp2_with fail
    refine (word_any _ _ h0).mono ?_
    rintro e w' ⟨rfl, rfl⟩
    rw [h1]
    go_wp2
    go_ret
    exact ⟨by rw [E.out]; rfl, (Below.refl _ _).alloc (Nat.le_refl _) _⟩
  · have E : Hid (pairMay p = wordB p.f1) := by show _ = _; simp [pairMay, h1]
    go_enter Try.func80, Try.ntmps80
    go_wp2_with fail
    refine (word_any _ _ h0).mono ?_
    rintro e w' ⟨rfl, rfl⟩
    rw [h1]
    go_wp2_with fail
    refine (word_any _ _ h01).mono ?_
    rintro e w' ⟨rfl, rfl⟩
    go_wp2
    go_ret
    exact ⟨by rw [E.out]; rfl, (Below.refl _ _).alloc (Nat.le_refl _) _⟩
end
section
open Go.RowKit Go.Proofs.YthfolhgaecfogaaW.PrintWords Go.Proofs.YthfolhgaecfogaaW.PrintLast Go.Proofs.YthfolhgaecfogaaW.PrintMore
abbrev Ext (w w' : World) : Prop := Below w.heap.size w w'
theorem Ext.tr {a b c : World} (h : Ext a b) (k : Ext b c) : Ext a c := h.trans (k.mono h.size)
/-- the place of the first that is so; -1: none -/
def idxF {α : Type} (p : α → Bool) (l : List α) : Int := match l.findIdx? p with | some i => (i : Int) | none => -1
theorem idxF_hit {α : Type} {p : α → Bool} {l : List α} {k : Nat} (h : k < l.length) (h0 : (l.take k).any p = false) (h1 : p l[k] = true) : idxF p l = k := by
  have e : l.findIdx? p = some k := by
    rw [List.findIdx?_eq_some_iff_getElem]
    refine ⟨h, h1, fun j hj hpj => ?_⟩
    rw [List.any_eq_false] at h0
    exact h0 l[j] (List.mem_take_iff_getElem.2 ⟨j, by omega, rfl⟩) hpj
  unfold idxF; rw [e]
theorem idxF_none {α : Type} {p : α → Bool} {l : List α} (h : l.any p = false) : idxF p l = -1 := by
  have e : l.findIdx? p = none := by
    rw [List.findIdx?_eq_none_iff]
    intro x hx
    rw [List.any_eq_false] at h
    simpa using h x hx
  unfold idxF; rw [e]
theorem idxF_any {α : Type} (p : α → Bool) (l : List α) : decide (0 ≤ idxF p l) = l.any p := by
  cases h : l.any p
  · rw [idxF_none h]; rfl
  · unfold idxF
    cases e : l.findIdx? p with
    | none =>
      rw [List.findIdx?_eq_none_iff] at e
      rw [List.any_eq_true] at h
      obtain ⟨x, hx, hp⟩ := h
      rw [e x hx] at hp; cases hp
    | some i => simp
theorem any_step {α : Type} {p : α → Bool} {l : List α} {k : Nat} (h : k < l.length) (h0 : (l.take k).any p = false) (h1 : p l[k] = false) : (l.take (k + 1)).any p = false := by
  rw [List.take_succ_eq_append_getElem h, List.any_append, h0]; simp [h1]
theorem rd77 (l : List S77) (k : Nat) (h : k < l.length) : rd_T77 l (k : Int) = l[k] := by
  unfold rd_T77; rw [Int.toNat_natCast, List.getD_eq_getElem?_getD, List.getElem?_eq_getElem h]; rfl
def pairOk (p : S77) : Prop := p.f0.size ≤ 4194304 ∧ p.f1.size ≤ 4194304
theorem C77 {w : World} {A : Option Addr} {l : List S77} (h : Kd.C k77 w A l.length l) {k : Nat} (hk : k < l.length) :
    ∃ ad, A = some ad ∧ w.cell? (ad.add (k * 2)) = some (.string l[k].f0) ∧ w.cell? ⟨(ad.add (k * 2)).block, (ad.add (k * 2)).off + 1, none⟩ = some (.string l[k].f1) := by
  obtain ⟨ad, e, h0, h1⟩ := at_T77 h (k : Int) (by omega) (by omega)
  rw [rd77 l k hk, Int.toNat_natCast] at h0 h1
  exact ⟨ad, e, h0, h1⟩
theorem len_max {α : Type} {d : Kd α} {w : World} {A : Option Addr} {l : List α} (h : Kd.C d w A l.length l) : l.length ≤ 9223372036854775807 := Kd.C_max h
set_option maxHeartbeats 400000 in
theorem idx77_any (A : Option Addr) (c : Nat) (l : List S77) (w : World) (hC : Kd.C k77 w A l.length l) (hc : l.length ≤ c) (hl : ∀ p ∈ l, pairOk p) :
    Calls Try.prog 84 #[.slice A l.length c, .func (.func 80) #[] #[]] w fun e w' => e = .returned (.int .i64 (idxF (fun p => !pairMay p) l)) ∧ Ext w w' := by
  have hu := Try.underlying77
  have hm := len_max hC
  have HC := Lib.hid hC
  clear hC
  go_enter Try.func84, Try.ntmps84
  go_wp2
  go_loopw [8] (fun i wr => ∃ k : Nat, k ≤ l.length ∧ i = .int .i64 k ∧ Hid ((l.take k).any (fun p => !pairMay p) = false) ∧ Ext w wr) (fun i _ => l.length - (intOf i).toNat)
  case atStart => exact ⟨0, Nat.zero_le _, rfl, rfl, Below.refl _ _⟩
  case round =>
    obtain ⟨k, hk, rfl, hg, hb⟩ := hrel
    by_cases hlt : k < l.length
    · obtain ⟨ad, rfl, h0, h1⟩ := C77 (Kd.C_below HC.out hb) hlt
      obtain ⟨p0, p1⟩ := hl _ (List.getElem_mem hlt)
      go_wp2_with fail
      refine (notWords_any l[k] _ p0 p1).mono ?_
      rintro e w1 ⟨rfl, hb1⟩
      have hb2 := Ext.tr hb hb1
      cases hp : pairMay l[k]
      · have hr := Lib.hid (idxF_hit (p := fun p => !pairMay p) hlt hg.out (by simp [hp]))
        go_wp2
        go_ret
        exact ⟨by rw [hr.out]; rfl, hb2⟩
      · have hr := Lib.hid (any_step (p := fun p => !pairMay p) hlt hg.out (by simp [hp]))
        go_wp2
        go_roundw
        case rel => exact ⟨k + 1, by omega, by go_num, hr, hb2⟩
        case measure => simp [intOf]; omega
    · have e : l.take k = l := List.take_of_length_le (by omega)
      have e2 := hg.out
      rw [e] at e2
      have hr := Lib.hid (idxF_none e2)
      clear e e2
      go_wp2
      go_ret
      exact ⟨by rw [hr.out]; rfl, hb⟩
theorem cont77_any (A : Option Addr) (c : Nat) (l : List S77) (w : World) (hC : Kd.C k77 w A l.length l) (hc : l.length ≤ c) (hl : ∀ p ∈ l, pairOk p) :
    Calls Try.prog 79 #[.slice A l.length c, .func (.func 80) #[] #[]] w fun e w' => e = .returned (.bool (l.any (fun p => !pairMay p))) ∧ Ext w w' := by
  have hr := Lib.hid (idxF_any (fun p => !pairMay p) l)
  go_enter Try.func79, Try.ntmps79
  go_wp2_with fail
  refine (idx77_any A c l w hC hc hl).mono ?_
  rintro e w1 ⟨rfl, hb1⟩
  go_wp2
  go_ret
  exact ⟨by rw [← hr.out]; rfl, hb1⟩
def pairsMay (l : List S77) : Bool := decide (l.length ≤ 6) && !l.any (fun p => !pairMay p)
theorem maySub_any (A : Option Addr) (c : Nat) (l : List S77) (w : World) (hC : Kd.C k77 w A l.length l) (hc : l.length ≤ c) (hl : ∀ p ∈ l, pairOk p) :
    Calls Try.prog 69 #[.slice A l.length c] w fun e w' => e = .returned (.bool (pairsMay l)) ∧ Ext w w' := by
  by_cases h : l.length ≤ 6
  · have hr : Hid (pairsMay l = !l.any (fun p => !pairMay p)) := by show _ = _; simp [pairsMay, h]
    go_enter Try.func69, Try.ntmps69
    go_wp2_with fail
    refine (cont77_any A c l w hC hc hl).mono ?_
    rintro e w1 ⟨rfl, hb1⟩
    go_wp2
    go_ret
    exact ⟨by rw [hr.out]; rfl, hb1⟩
  · have hr : Hid (pairsMay l = false) := by show _ = _; simp [pairsMay, h]
    go_enter Try.func69, Try.ntmps69
    go_wp2
    go_ret
    exact ⟨by rw [hr.out]; rfl, Below.refl _ _⟩
end
section
open Go.RowKit Go.Proofs.YthfolhgaecfogaaW.PrintWords Go.Proofs.YthfolhgaecfogaaW.PrintLast Go.Proofs.YthfolhgaecfogaaW.PrintMore
def upAt (l : List S77) (i : Nat) : Bool := Op.bytesLess (l.getD i z77).f0.toList (l.getD (i + 1) z77).f0.toList
def upB (l : List S77) : Bool := (List.range (l.length - 1)).all (upAt l)
def condMay (h : S34) : Bool := decide (1 ≤ h.f0) && decide (h.f0 ≤ 1000000) && wordB h.f1 && (h.f3.toList.isEmpty || wordB h.f3) && decide (0 ≤ h.f2) && decide (h.f2 ≤ 3) && decide (1 ≤ h.f4) && decide (h.f4 ≤ 20) && pairsMay h.f5
def hostMay (h : S34) : Bool := upB h.f5 && condMay h
def hostOk (h : S34) : Prop := h.f1.size ≤ 4194304 ∧ h.f3.size ≤ 4194304 ∧ ∀ p ∈ h.f5, pairOk p
def vHost (h : S34) (A : Option Addr) (c : Nat) : Value := .agg #[.int .i64 h.f0, .string h.f1, .int .i64 h.f2, .string h.f3, .int .i64 h.f4, .slice A h.f5.length c]
theorem upAt_of (l : List S77) (j : Nat) (h : j + 1 < l.length) : upAt l j = Op.bytesLess l[j].f0.toList l[j + 1].f0.toList := by
  unfold upAt
  rw [List.getD_eq_getElem?_getD, List.getD_eq_getElem?_getD, List.getElem?_eq_getElem h, List.getElem?_eq_getElem (show j < l.length by omega)]; rfl
theorem up_step (l : List S77) (j : Nat) (h0 : (List.range j).all (upAt l) = true) (h1 : upAt l j = true) : (List.range (j + 1)).all (upAt l) = true := by
  rw [List.range_succ, List.all_append, h0]; simp [h1]
theorem up_stop (l : List S77) (j : Nat) (h : j + 1 < l.length) (h1 : upAt l j = false) : upB l = false := by
  unfold upB; rw [List.all_eq_false]
  exact ⟨j, by simp; omega, by simp [h1]⟩
theorem up_done (l : List S77) (j : Nat) (h : l.length ≤ j + 1) (h0 : (List.range j).all (upAt l) = true) : upB l = true := by
  unfold upB; rw [List.all_eq_true] at h0 ⊢
  exact fun x hx => h0 x (by simp at hx ⊢; omega)
theorem condMay_split (h : S34) {P : Prop}
    (a1 : Hid (condMay h = false) → h.f0 < 1 → P)
    (a2 : Hid (condMay h = false) → 1 ≤ h.f0 → 1000000 < h.f0 → P)
    (a3 : Hid (condMay h = false) → 1 ≤ h.f0 → h.f0 ≤ 1000000 → wordB h.f1 = false → P)
    (a4 : Hid (condMay h = false) → 1 ≤ h.f0 → h.f0 ≤ 1000000 → wordB h.f1 = true → (h.f3.toList.isEmpty) = false → wordB h.f3 = false → P)
    (a5 : Hid (condMay h = false) → 1 ≤ h.f0 → h.f0 ≤ 1000000 → wordB h.f1 = true → (h.f3.toList.isEmpty) = true ∨ (h.f3.toList.isEmpty) = false ∧ wordB h.f3 = true → h.f2 < 0 → P)
    (a6 : Hid (condMay h = false) → 1 ≤ h.f0 → h.f0 ≤ 1000000 → wordB h.f1 = true → (h.f3.toList.isEmpty) = true ∨ (h.f3.toList.isEmpty) = false ∧ wordB h.f3 = true → 0 ≤ h.f2 → 3 < h.f2 → P)
    (a7 : Hid (condMay h = false) → 1 ≤ h.f0 → h.f0 ≤ 1000000 → wordB h.f1 = true → (h.f3.toList.isEmpty) = true ∨ (h.f3.toList.isEmpty) = false ∧ wordB h.f3 = true → 0 ≤ h.f2 → h.f2 ≤ 3 → h.f4 < 1 → P)
    (a8 : Hid (condMay h = false) → 1 ≤ h.f0 → h.f0 ≤ 1000000 → wordB h.f1 = true → (h.f3.toList.isEmpty) = true ∨ (h.f3.toList.isEmpty) = false ∧ wordB h.f3 = true → 0 ≤ h.f2 → h.f2 ≤ 3 → 1 ≤ h.f4 → 20 < h.f4 → P)
    (a9 : Hid (condMay h = pairsMay h.f5) → 1 ≤ h.f0 → h.f0 ≤ 1000000 → wordB h.f1 = true → (h.f3.toList.isEmpty) = true ∨ (h.f3.toList.isEmpty) = false ∧ wordB h.f3 = true → 0 ≤ h.f2 → h.f2 ≤ 3 → 1 ≤ h.f4 → h.f4 ≤ 20 → P) : P := by
  have hid {p : Prop} (x : p) : Hid p := x
  by_cases q1 : 1 ≤ h.f0
  case neg => exact a1 (hid (by simp [condMay, q1])) (by omega)
  by_cases q2 : h.f0 ≤ 1000000
  case neg => exact a2 (hid (by simp [condMay, q2])) q1 (by omega)
  cases q3 : wordB h.f1
  case false => exact a3 (hid (by simp [condMay, q3])) q1 q2 q3
  have hz : ((h.f3.toList.isEmpty) = false ∧ wordB h.f3 = false) ∨ ((h.f3.toList.isEmpty) = true ∨ (h.f3.toList.isEmpty) = false ∧ wordB h.f3 = true) := by
    cases h.f3.toList.isEmpty <;> cases wordB h.f3 <;> simp
  rcases hz with ⟨z1, z2⟩ | hz
  · exact a4 (hid (by simp [condMay, z1, z2])) q1 q2 q3 z1 z2
  have zz : (h.f3.toList.isEmpty || wordB h.f3) = true := by rcases hz with z | ⟨_, z⟩ <;> simp [z]
  by_cases q5 : 0 ≤ h.f2
  case neg => exact a5 (hid (by simp [condMay, q5])) q1 q2 q3 hz (by omega)
  by_cases q6 : h.f2 ≤ 3
  case neg => exact a6 (hid (by simp [condMay, q6])) q1 q2 q3 hz q5 (by omega)
  by_cases q7 : 1 ≤ h.f4
  case neg => exact a7 (hid (by simp [condMay, q7])) q1 q2 q3 hz q5 q6 (by omega)
  by_cases q8 : h.f4 ≤ 20
  case neg => exact a8 (hid (by simp [condMay, q8])) q1 q2 q3 hz q5 q6 q7 (by omega)
  exact a9 (hid (by unfold condMay; rw [q3, zz]; simp [q1, q2, q5, q6, q7, q8])) q1 q2 q3 hz q5 q6 q7 q8
def Box34 (wr : World) (g : Nat) (h : S34) (A : Option Addr) (c : Nat) : Prop := wr.heap[g]? = some (.cells #[.int .i64 h.f0, .string h.f1, .int .i64 h.f2, .string h.f3, .int .i64 h.f4, .slice A h.f5.length c] 34 (0, 0))
theorem Box34.cells {wr : World} {g : Nat} {h : S34} {A : Option Addr} {c : Nat} (b : Box34 wr g h A c) :
    wr.cell? ⟨g, 0, none⟩ = some (.int .i64 h.f0) ∧ wr.cell? ⟨g, 1, none⟩ = some (.string h.f1) ∧ wr.cell? ⟨g, 2, none⟩ = some (.int .i64 h.f2) ∧ wr.cell? ⟨g, 3, none⟩ = some (.string h.f3) ∧ wr.cell? ⟨g, 4, none⟩ = some (.int .i64 h.f4) ∧ wr.cell? ⟨g, 5, none⟩ = some (.slice A h.f5.length c) :=
  ⟨blk_cell b 0, blk_cell b 1, blk_cell b 2, blk_cell b 3, blk_cell b 4, blk_cell b 5⟩
theorem Box34.ext {wr w1 : World} {g : Nat} {h : S34} {A : Option Addr} {c : Nat} (b : Box34 wr g h A c) (e : Ext wr w1) : Box34 w1 g h A c := (e.block g (blk_lt b)).trans b
theorem ext_drewN (w : World) (n : Nat) : Ext w (w.drewN n) := pw_below_drewN (Below.refl _ _) n
theorem ext_alloc (w : World) (o : Obj) : Ext w (w.alloc o) := (Below.refl _ _).alloc (Nat.le_refl _) _
set_option maxRecDepth 100000 in
set_option maxHeartbeats 1000000 in
theorem hostMay_any (h : S34) (A : Option Addr) (c : Nat) (w : World) (hC : Kd.C k77 w A h.f5.length h.f5) (hc : h.f5.length ≤ c) (hok : hostOk h) :
    Calls Try.prog 46 #[vHost h A c] w fun e w' => e = .returned (.bool (hostMay h)) ∧ Ext w w' := by
  have hu := Try.underlying77
  have hu34 := Try.underlying34
  have hm := len_max hC
  have HC := Lib.hid hC
  clear hC
  obtain ⟨k1, k2, k3⟩ := hok
  unfold vHost
  go_enter Try.func46, Try.ntmps46
  go_wp2
  go_loopw [3] (fun i wr => ∃ j : Nat, (j = 0 ∨ j + 1 ≤ h.f5.length) ∧ i = .int .i64 ((j : Int) + 1) ∧ Hid ((List.range j).all (upAt h.f5) = true) ∧ Box34 wr w.heap.size h A c ∧ Ext w wr) (fun i _ => h.f5.length + 1 - (intOf i).toNat)
  case atStart => exact ⟨0, .inl rfl, rfl, rfl, heap_alloc_new w _, ext_alloc _ _⟩
  case round =>
    obtain ⟨j, hj, rfl, hg, hB, hb⟩ := hrel
    obtain ⟨c0, c1, c2, c3, c4, c5⟩ := hB.cells
    have HB := Lib.hid hB
    clear hB
    by_cases hlt : j + 1 < h.f5.length
    · obtain ⟨ad, rfl, h1, h2⟩ := C77 (Kd.C_below HC.out hb) (k := j) (by omega)
      obtain ⟨ad', e, h3, h4⟩ := C77 (Kd.C_below HC.out hb) (k := j + 1) hlt
      cases e
      have u := upAt_of h.f5 j hlt
      cases hp : Op.bytesLess h.f5[j].f0.toList h.f5[j + 1].f0.toList
      · have hr := Lib.hid (up_stop h.f5 j hlt (u.trans hp))
        clear u
        have hf := Lib.hid (show hostMay h = false by simp [hostMay, hr.out])
        go_wp2
        go_quiet (fail)
        go_wp2
        go_ret
        exact ⟨by rw [hf.out]; rfl, Ext.tr hb (ext_drewN _ _)⟩
      · have hr := Lib.hid (up_step h.f5 j hg.out (u.trans hp))
        clear u
        go_wp2
        go_quiet (fail)
        go_wp2
        go_roundw
        case rel => exact ⟨j + 1, .inr (by omega), by go_num, hr, HB.out.ext (ext_drewN _ _), Ext.tr hb (ext_drewN _ _)⟩
        case measure => simp [intOf]; omega
    · have hup := up_done h.f5 j (by omega) hg.out
      have hC' := Lib.hid (Kd.C_below HC.out hb)
      have hge : h.f5.length ≤ j + 1 := by omega
      clear hlt
      have hu2 : hostMay h = condMay h := by simp [hostMay, hup]
      have HU := Lib.hid hu2
      clear hup hu2
      refine condMay_split h ?_ ?_ ?_ ?_ ?_ ?_ ?_ ?_ ?_ <;> intro hE <;> intros
      case refine_9 =>
        rcases ‹(h.f3.toList.isEmpty) = true ∨ _› with z | ⟨z1, z2⟩
        all_goals
          go_wp2_with (first | (go_at_call 68; refine (word_any _ _ (by first | exact k1 | exact k2)).mono ?_; rintro e w' ⟨rfl, rfl⟩) | (go_at_call 69; refine (maySub_any A c h.f5 _ hC'.out hc k3).mono ?_; rintro e w1 ⟨rfl, hb1⟩))
          go_ret
          exact ⟨by rw [HU.out, hE.out]; rfl, Ext.tr hb hb1⟩
      case refine_1 | refine_2 | refine_3 | refine_4 =>
        go_wp2_with (go_at_call 68; refine (word_any _ _ (by first | exact k1 | exact k2)).mono ?_; rintro e w' ⟨rfl, rfl⟩)
        go_ret
        exact ⟨by rw [HU.out, hE.out]; rfl, hb⟩
      all_goals
        rcases ‹(h.f3.toList.isEmpty) = true ∨ _› with z | ⟨z1, z2⟩
        all_goals
          go_wp2_with (go_at_call 68; refine (word_any _ _ (by first | exact k1 | exact k2)).mono ?_; rintro e w' ⟨rfl, rfl⟩)
          go_ret
          exact ⟨by rw [HU.out, hE.out]; rfl, hb⟩
end
section
open Go.RowKit Go.Proofs.YthfolhgaecfogaaW.PrintWords Go.Proofs.YthfolhgaecfogaaW.PrintLast Go.Proofs.YthfolhgaecfogaaW.PrintMore
set_option maxRecDepth 100000 in
set_option maxHeartbeats 1000000 in
theorem rmaySub_any (A : Option Addr) (c : Nat) (l : List S77) (w : World) (hC : Kd.C k77 w A l.length l) (hc : l.length ≤ c) :
    Calls Try.prog 45 #[.slice A l.length c] w fun e w' => e = .returned (.bool (pairsMay l)) ∧ Ext w w' := by
  have hu := Try.underlying77
  have hm := len_max hC
  have HC := Lib.hid hC
  clear hC
  go_enter Try.func45, Try.ntmps45
  go_wp2
  go_loopw [7] (fun i wr => ∃ k : Nat, k ≤ l.length ∧ i = .int .i64 k ∧ Hid ((l.take k).any (fun p => !pairMay p) = false) ∧ Ext w wr) (fun i _ => l.length - (intOf i).toNat)
  case atStart => exact ⟨0, Nat.zero_le _, rfl, rfl, Below.refl _ _⟩
  case round =>
    obtain ⟨k, hk, rfl, hg, hb⟩ := hrel
    by_cases hlt : k < l.length
    · obtain ⟨ad, rfl, h0, h1⟩ := C77 (Kd.C_below HC.out hb) hlt
      cases q1 : wordB l[k].f0
      · have hr : Hid (pairsMay l = false) := by
          show _ = _
          have : l.any (fun p => !pairMay p) = true := List.any_eq_true.2 ⟨l[k], List.getElem_mem hlt, by simp [pairMay, q1]⟩
          simp [pairsMay, this]
        go_wp2_with (go_at_call 44; refine (rword_any _ _).mono ?_; rintro e w' ⟨rfl, rfl⟩)
        go_ret
        exact ⟨by rw [hr.out]; rfl, Ext.tr hb (ext_alloc _ _)⟩
      cases q2 : wordB l[k].f1
      · have hr : Hid (pairsMay l = false) := by
          show _ = _
          have : l.any (fun p => !pairMay p) = true := List.any_eq_true.2 ⟨l[k], List.getElem_mem hlt, by simp [pairMay, q2]⟩
          simp [pairsMay, this]
        go_wp2_with (go_at_call 44; refine (rword_any _ _).mono ?_; rintro e w' ⟨rfl, rfl⟩)
        go_ret
        exact ⟨by rw [hr.out]; rfl, Ext.tr hb (ext_alloc _ _)⟩
      · have hr := Lib.hid (any_step (p := fun p => !pairMay p) hlt hg.out (by simp [pairMay, q1, q2]))
        go_wp2_with (go_at_call 44; refine (rword_any _ _).mono ?_; rintro e w' ⟨rfl, rfl⟩)
        go_roundw
        case rel => exact ⟨k + 1, by omega, by go_num, hr, Ext.tr hb (ext_alloc _ _)⟩
        case measure => simp [intOf]; omega
    · have e : l.take k = l := List.take_of_length_le (by omega)
      have e2 := hg.out
      rw [e] at e2
      have hr : Hid (pairsMay l = decide (l.length ≤ 6)) := by show _ = _; simp [pairsMay, e2]
      clear e e2
      go_wp2
      go_ret
      exact ⟨by rw [hr.out]; simp; omega, hb⟩
theorem bytesLess_lt : ∀ (x y : List UInt8), Op.bytesLess x y = decide (x < y)
  | [], [] => by simp [Op.bytesLess]
  | _ :: _, [] => by simp [Op.bytesLess]
  | [], _ :: _ => by simp [Op.bytesLess]
  | a :: x, b :: y => by
    rw [Op.bytesLess, bytesLess_lt x y]
    by_cases h : a = b
    · subst h; simp [List.cons_lt_cons_iff]
    · by_cases h2 : a < b
      · simp [List.cons_lt_cons_iff, h, h2]
      · simp [List.cons_lt_cons_iff, h, h2]
theorem less_total (a b : List UInt8) : (Op.bytesLess b a || b == a) = !Op.bytesLess a b := by
  rw [bytesLess_lt, bytesLess_lt]
  by_cases h : a < b
  · have h1 : ¬ b < a := List.lt_asymm h
    have h2 : b ≠ a := fun e => by subst e; exact List.lt_irrefl _ h
    simp [h, h1, h2]
  · rcases List.le_iff_lt_or_eq.1 (List.not_lt.1 h) with h1 | h1
    · simp [h, h1]
    · subst h1; simp [h]
set_option maxRecDepth 100000 in
set_option maxHeartbeats 1000000 in
theorem rhostMay_no (h : S34) (A : Option Addr) (c : Nat) (w : World) (hC : Kd.C k77 w A h.f5.length h.f5) (hc : h.f5.length ≤ c) (hno : condMay h = false) :
    Calls Try.prog 15 #[vHost h A c] w fun e w' => e = .returned (.bool (hostMay h)) ∧ Ext w w' := by
  have hu := Try.underlying77
  have hu34 := Try.underlying34
  have hm := len_max hC
  have HC := Lib.hid hC
  clear hC
  have NO : Hid (hostMay h = false) := by show _ = _; simp [hostMay, hno]
  have HN := Lib.hid hno
  clear hno
  have hB0 : Box34 (w.alloc (.cells #[.int .i64 h.f0, .string h.f1, .int .i64 h.f2, .string h.f3, .int .i64 h.f4, .slice A h.f5.length c] 34)) w.heap.size h A c := heap_alloc_new w _
  obtain ⟨c0, c1, c2, c3, c4, c5⟩ := hB0.cells
  clear hB0
  unfold vHost
  refine condMay_split h ?_ ?_ ?_ ?_ ?_ ?_ ?_ ?_ ?_ <;> intro hE <;> intros
  case refine_9 =>
    have qp := hE.out.symm.trans HN.out
    rcases ‹(h.f3.toList.isEmpty) = true ∨ _› with z | ⟨z1, z2⟩
    all_goals
      go_enter Try.func15, Try.ntmps15
      go_wp2_with (first | (go_at_call 44; refine (rword_any _ _).mono ?_; rintro e w' ⟨rfl, rfl⟩) | (go_at_call 45; refine (rmaySub_any A c h.f5 _ (Kd.C_below HC.out (ext_alloc _ _)) hc).mono ?_; rintro e w1 ⟨rfl, hb1⟩))
      go_ret
      exact ⟨by rw [NO.out]; rfl, Ext.tr (ext_alloc _ _) hb1⟩
  case refine_1 | refine_2 | refine_3 | refine_4 =>
    go_enter Try.func15, Try.ntmps15
    go_wp2_with (go_at_call 44; refine (rword_any _ _).mono ?_; rintro e w' ⟨rfl, rfl⟩)
    go_ret
    exact ⟨by rw [NO.out]; rfl, ext_alloc _ _⟩
  all_goals
    rcases ‹(h.f3.toList.isEmpty) = true ∨ _› with z | ⟨z1, z2⟩
    all_goals
      go_enter Try.func15, Try.ntmps15
      go_wp2_with (go_at_call 44; refine (rword_any _ _).mono ?_; rintro e w' ⟨rfl, rfl⟩)
      go_ret
      exact ⟨by rw [NO.out]; rfl, ext_alloc _ _⟩
theorem condMay_yes (h : S34) (hy : condMay h = true) : 1 ≤ h.f0 ∧ h.f0 ≤ 1000000 ∧ wordB h.f1 = true ∧ ((h.f3.toList.isEmpty) = true ∨ (h.f3.toList.isEmpty) = false ∧ wordB h.f3 = true) ∧ 0 ≤ h.f2 ∧ h.f2 ≤ 3 ∧ 1 ≤ h.f4 ∧ h.f4 ≤ 20 ∧ pairsMay h.f5 = true := by
  simp only [condMay, Bool.and_eq_true, Bool.or_eq_true, decide_eq_true_eq] at hy
  obtain ⟨⟨⟨⟨⟨⟨⟨⟨a, b⟩, c⟩, d⟩, e⟩, f⟩, g⟩, i⟩, j⟩ := hy
  refine ⟨a, b, c, ?_, e, f, g, i, j⟩
  rcases d with d | d
  · exact .inl d
  · cases hz : h.f3.toList.isEmpty
    · exact .inr ⟨rfl, d⟩
    · exact .inl rfl
end
section
open Go.RowKit Go.Proofs.YthfolhgaecfogaaW.PrintWords Go.Proofs.YthfolhgaecfogaaW.PrintLast Go.Proofs.YthfolhgaecfogaaW.PrintMore
set_option maxRecDepth 100000 in
set_option maxHeartbeats 2000000 in
theorem rhostMay_yes (h : S34) (A : Option Addr) (c : Nat) (w : World) (hC : Kd.C k77 w A h.f5.length h.f5) (hc : h.f5.length ≤ c) (hyes : condMay h = true) :
    Calls Try.prog 15 #[vHost h A c] w fun e w' => e = .returned (.bool (hostMay h)) ∧ Ext w w' := by
  have hu := Try.underlying77
  have hu34 := Try.underlying34
  have hm := len_max hC
  have HC := Lib.hid hC
  clear hC
  have HE : Hid (hostMay h = upB h.f5) := by show _ = _; simp [hostMay, hyes]
  obtain ⟨q1, q2, q3, hz, q4, q5, q6, q7, q8⟩ := condMay_yes h hyes
  clear hyes
  have d1 : decide (h.f0 < 1) = false := decide_eq_false (by omega)
  have d2 : decide (1000000 < h.f0) = false := decide_eq_false (by omega)
  have d3 : decide (h.f2 < 0) = false := decide_eq_false (by omega)
  have d4 : decide (3 < h.f2) = false := decide_eq_false (by omega)
  have d5 : decide (h.f4 < 1) = false := decide_eq_false (by omega)
  have d6 : decide (20 < h.f4) = false := decide_eq_false (by omega)
  have hB0 : Box34 (w.alloc (.cells #[.int .i64 h.f0, .string h.f1, .int .i64 h.f2, .string h.f3, .int .i64 h.f4, .slice A h.f5.length c] 34)) w.heap.size h A c := heap_alloc_new w _
  obtain ⟨c0, c1, c2, c3, c4, c5⟩ := hB0.cells
  clear hB0
  unfold vHost
  rcases hz with z | ⟨z1, z2⟩
  all_goals
    go_enter Try.func15, Try.ntmps15
    go_wp2_with (first | (go_at_call 44; refine (rword_any _ _).mono ?_; rintro e w' ⟨rfl, rfl⟩) | (go_at_call 45; refine (rmaySub_any A c h.f5 _ (Kd.C_below HC.out (ext_alloc _ _)) hc).mono ?_; rintro e w1 ⟨rfl, hb1⟩))
    have hbw := Ext.tr (ext_alloc w (.cells #[.int .i64 h.f0, .string h.f1, .int .i64 h.f2, .string h.f3, .int .i64 h.f4, .slice A h.f5.length c] 34)) hb1
    have hB1 : Box34 w1 w.heap.size h A c := Box34.ext (heap_alloc_new w _) hb1
    clear hb1
    go_loopw [3] (fun i wr => ∃ j : Nat, (j = 0 ∨ j + 1 ≤ h.f5.length) ∧ i = .int .i64 ((j : Int) + 1) ∧ Hid ((List.range j).all (upAt h.f5) = true) ∧ Hid (Box34 wr w.heap.size h A c) ∧ Ext w wr) (fun i _ => h.f5.length + 1 - (intOf i).toNat)
    case atStart => exact ⟨0, .inl rfl, rfl, rfl, hB1, hbw⟩
    case round =>
      clear c0 c1 c2 c3 c4 c5 hB1 hbw
      obtain ⟨j, hj, rfl, hg, HB, hb⟩ := hrel
      obtain ⟨c0, c1, c2, c3, c4, c5⟩ := HB.out.cells
      by_cases hlt : j + 1 < h.f5.length
      · obtain ⟨ad, rfl, h1, h2⟩ := C77 (Kd.C_below HC.out hb) (k := j) (by omega)
        obtain ⟨ad', e, h3, h4⟩ := C77 (Kd.C_below HC.out hb) (k := j + 1) hlt
        cases e
        have u := upAt_of h.f5 j hlt
        have ht := less_total h.f5[j].f0.toList h.f5[j + 1].f0.toList
        cases hp : Op.bytesLess h.f5[j].f0.toList h.f5[j + 1].f0.toList
        · have hr := Lib.hid (up_stop h.f5 j hlt (u.trans hp))
          rw [hp] at ht
          clear u
          go_wp2
          go_quiet (fail)
          go_wp2
          go_ret
          exact ⟨by rw [HE.out, hr.out]; rfl, Ext.tr hb (ext_drewN _ _)⟩
        · have hr := Lib.hid (up_step h.f5 j hg.out (u.trans hp))
          rw [hp] at ht
          clear u
          go_wp2
          go_quiet (fail)
          go_wp2
          go_roundw
          case rel => exact ⟨j + 1, .inr (by omega), by go_num, hr, HB.out.ext (ext_drewN _ _), Ext.tr hb (ext_drewN _ _)⟩
          case measure => simp [intOf]; omega
      · have hup := Lib.hid (up_done h.f5 j (by omega) hg.out)
        have hge : h.f5.length ≤ j + 1 := by omega
        clear hlt
        go_wp2
        go_ret
        exact ⟨by rw [HE.out, hup.out]; rfl, hb⟩
theorem rhostMay_any (h : S34) (A : Option Addr) (c : Nat) (w : World) (hC : Kd.C k77 w A h.f5.length h.f5) (hc : h.f5.length ≤ c) :
    Calls Try.prog 15 #[vHost h A c] w fun e w' => e = .returned (.bool (hostMay h)) ∧ Ext w w' := by
  cases hy : condMay h
  · exact rhostMay_no h A c w hC hc hy
  · exact rhostMay_yes h A c w hC hc hy
end
section
open Go.RowKit Go.Proofs.YthfolhgaecfogaaW.PrintWords Go.Proofs.YthfolhgaecfogaaW.PrintLast Go.Proofs.YthfolhgaecfogaaW.PrintMore
theorem C34 {w : World} {A : Option Addr} {l : List S34} (h : Kd.C k34 w A l.length l) {k : Nat} (hk : k < l.length) :
    ∃ ad A5 c5, A = some ad ∧ w.cell? (ad.add (k * 6)) = some (.int .i64 l[k].f0) ∧ w.cell? ⟨(ad.add (k * 6)).block, (ad.add (k * 6)).off + 1, none⟩ = some (.string l[k].f1) ∧ w.cell? ⟨(ad.add (k * 6)).block, (ad.add (k * 6)).off + 2, none⟩ = some (.int .i64 l[k].f2) ∧ w.cell? ⟨(ad.add (k * 6)).block, (ad.add (k * 6)).off + 3, none⟩ = some (.string l[k].f3) ∧ w.cell? ⟨(ad.add (k * 6)).block, (ad.add (k * 6)).off + 4, none⟩ = some (.int .i64 l[k].f4) ∧ w.cell? ⟨(ad.add (k * 6)).block, (ad.add (k * 6)).off + 5, none⟩ = some (.slice A5 l[k].f5.length c5) ∧ l[k].f5.length ≤ c5 ∧ Hid (k77.C w A5 l[k].f5.length l[k].f5) := by
  have e : rd_T34 l (k : Int) = l[k] := by
    unfold rd_T34; rw [Int.toNat_natCast, List.getD_eq_getElem?_getD, List.getElem?_eq_getElem hk]; rfl
  obtain ⟨ad, A5, c5, e1, h⟩ := at_T34 h (k : Int) (by omega) (by omega)
  rw [e, Int.toNat_natCast] at h
  exact ⟨ad, A5, c5, e1, h⟩
def pairSz (p : S77) : Nat := 1 + p.f0.size + p.f1.size
def metaSz (l : List S77) : Nat := (l.map pairSz).sum
def hostSz (h : S34) : Nat := h.f1.size + h.f3.size + metaSz h.f5
theorem metaSz_snoc (l : List S77) (k : Nat) (h : k < l.length) : metaSz (l.take (k + 1)) = metaSz (l.take k) + pairSz l[k] := by
  rw [List.take_succ_eq_append_getElem h, metaSz, List.map_append, List.sum_append]; rfl
theorem metaSz_le (l : List S77) (k : Nat) : metaSz (l.take k) ≤ metaSz l := by
  have : metaSz l = metaSz (l.take k) + metaSz (l.drop k) := by
    unfold metaSz; rw [← List.sum_append, ← List.map_append, List.take_append_drop]
  omega
theorem pairSz_le {l : List S77} {p : S77} (h : p ∈ l) : pairSz p ≤ metaSz l := by
  unfold metaSz
  induction l with
  | nil => cases h
  | cons x r ih =>
    rw [List.map_cons, List.sum_cons]
    rcases List.mem_cons.1 h with rfl | h
    · omega
    · have := ih h; omega
theorem hostOk_of {h : S34} (hs : hostSz h ≤ 4194304) : hostOk h := by
  unfold hostSz at hs
  refine ⟨by omega, by omega, fun p hp => ?_⟩
  have := pairSz_le hp
  unfold pairSz at this
  exact ⟨by omega, by omega⟩
/-- 0: light; 1: not -/
def light7 (h : S34) : Int := if 600 < hostSz h then 1 else 0
set_option maxRecDepth 100000 in
set_option maxHeartbeats 1000000 in
theorem light7_any (h : S34) (A : Option Addr) (c : Nat) (w : World) (hC : Kd.C k77 w A h.f5.length h.f5) (hc : h.f5.length ≤ c) (hs : hostSz h ≤ 4194304) :
    Calls Try.prog 20 #[vHost h A c] w fun e w' => e = .returned (.int .i64 (light7 h)) ∧ Ext w w' := by
  have hu := Try.underlying77
  have hu34 := Try.underlying34
  have hm := len_max hC
  have HC := Lib.hid hC
  clear hC
  have hs2 := hs
  unfold hostSz at hs2
  unfold vHost
  go_enter Try.func20, Try.ntmps20
  go_wp2
  go_loopw [3, 16] (fun n i wr => ∃ (k m : Nat), k ≤ h.f5.length ∧ i = .int .i64 k ∧ n = .int .i64 m ∧ m ≤ 4194304 ∧ Hid (m = h.f1.size + h.f3.size + metaSz (h.f5.take k)) ∧ Ext w wr) (fun _ i _ => h.f5.length - (intOf i).toNat)
  case atStart =>
    refine ⟨0, h.f1.size + h.f3.size, Nat.zero_le _, rfl, by simp, by omega, ?_, ext_alloc _ _⟩
    show _ = _
    simp [metaSz]
  case round =>
    obtain ⟨k, m, hk, rfl, rfl, hm4, hg, hb⟩ := hrel
    by_cases hlt : k < h.f5.length
    · obtain ⟨ad, rfl, h0, h1⟩ := C77 (Kd.C_below HC.out hb) hlt
      have e1 := metaSz_snoc h.f5 k hlt
      have e2 := metaSz_le h.f5 (k + 1)
      have e3 := hg.out
      unfold pairSz at e1
      have hr : Hid (m + (1 + h.f5[k].f0.size + h.f5[k].f1.size) = h.f1.size + h.f3.size + metaSz (h.f5.take (k + 1))) := by show _ = _; omega
      have b1 : h.f5[k].f0.size ≤ 4194304 := by omega
      have b2 : h.f5[k].f1.size ≤ 4194304 := by omega
      have b3 : m + (1 + h.f5[k].f0.size + h.f5[k].f1.size) ≤ 4194304 := by omega
      clear e1 e2 e3 hs2 hs
      go_wp2
      go_roundw
      case rel => exact ⟨k + 1, _, by omega, by go_num, by go_num, b3, hr, Ext.tr hb (ext_alloc _ _)⟩
      case measure => simp [intOf]; omega
    · have e : h.f5.take k = h.f5 := List.take_of_length_le (by omega)
      have e3 := hg.out
      rw [e] at e3
      have hr : Hid (m = hostSz h) := e3
      clear e e3 hs2 hs
      by_cases h6 : 600 < m
      · have hl : Hid (light7 h = 1) := by show _ = _; unfold light7; rw [← hr.out, if_pos h6]
        go_wp2
        go_ret
        exact ⟨by rw [hl.out]; rfl, hb⟩
      · have hl : Hid (light7 h = 0) := by show _ = _; unfold light7; rw [← hr.out, if_neg h6]
        go_wp2
        go_ret
        exact ⟨by rw [hl.out]; rfl, hb⟩
/-- 0: hosts that can be gone through -/
def light8 (l : List S34) : Int := if l.length ≤ 81 ∧ ∀ h ∈ l, hostSz h ≤ 600 then 0 else 1
set_option maxRecDepth 100000 in
set_option maxHeartbeats 1000000 in
theorem light8_any (A : Option Addr) (c : Nat) (l : List S34) (w : World) (hC : Kd.C k34 w A l.length l) (hc : l.length ≤ c) (hs : ∀ h ∈ l, hostSz h ≤ 4194304) :
    Calls Try.prog 10 #[.slice A l.length c] w fun e w' => e = .returned (.int .i64 (light8 l)) ∧ Ext w w' := by
  have hu34 := Try.underlying34
  have hm := len_max hC
  have HC := Lib.hid hC
  clear hC
  go_enter Try.func10, Try.ntmps10
  go_wp2
  go_loopw [7] (fun i wr => ∃ k : Nat, k ≤ l.length ∧ k ≤ 81 ∧ i = .int .i64 k ∧ Hid (∀ h ∈ l.take k, hostSz h ≤ 600) ∧ Ext w wr) (fun i _ => l.length - (intOf i).toNat)
  case atStart => exact ⟨0, Nat.zero_le _, by omega, rfl, fun h hh => by simp at hh, Below.refl _ _⟩
  case round =>
    obtain ⟨k, hk, hk8, rfl, hg, hb⟩ := hrel
    by_cases hlt : k < l.length
    · obtain ⟨ad, A5, c5, rfl, h0, h1, h2, h3, h4, h5, hl5, HC5⟩ := C34 (Kd.C_below HC.out hb) hlt
      by_cases h8 : k ≤ 80
      · have hb5 : Hid (Ext w (wr.alloc (.cells #[.int .i64 l[k].f0, .string l[k].f1, .int .i64 l[k].f2, .string l[k].f3, .int .i64 l[k].f4, .slice A5 l[k].f5.length c5] 34))) := Ext.tr hb (ext_alloc _ _)
        have hm4 := hs l[k] (List.getElem_mem hlt)
        by_cases h6 : 600 < hostSz l[k]
        · have hl : Hid (light8 l = 1) := by show _ = _; unfold light8; rw [if_neg (fun hh => by have := hh.2 l[k] (List.getElem_mem hlt); omega)]
          have h7 : Hid (light7 l[k] = 1) := by show _ = _; unfold light7; rw [if_pos h6]
          clear h6
          go_wp2_with fail
          refine (light7_any l[k] A5 c5 _ (Kd.C_below HC5.out (ext_alloc _ _)) hl5 hm4).mono ?_
          rintro e w1 ⟨rfl, hb1⟩
          rw [h7.out]
          go_wp2
          go_ret
          exact ⟨by rw [hl.out]; rfl, Ext.tr hb5.out hb1⟩
        · have h7 : Hid (light7 l[k] = 0) := by show _ = _; unfold light7; rw [if_neg h6]
          have hr : Hid (∀ h ∈ l.take (k + 1), hostSz h ≤ 600) := by
            intro h hh
            rw [List.take_succ_eq_append_getElem hlt, List.mem_append] at hh
            rcases hh with hh | hh
            · exact hg.out h hh
            · rw [List.mem_singleton.1 hh]; omega
          clear h6
          go_wp2_with fail
          refine (light7_any l[k] A5 c5 _ (Kd.C_below HC5.out (ext_alloc _ _)) hl5 hm4).mono ?_
          rintro e w1 ⟨rfl, hb1⟩
          rw [h7.out]
          go_wp2
          go_roundw
          case rel => exact ⟨k + 1, by omega, by omega, by go_num, hr, Ext.tr hb5.out hb1⟩
          case measure => simp [intOf]; omega
      · have hl : Hid (light8 l = 1) := by show _ = _; unfold light8; rw [if_neg (by omega)]
        go_wp2
        go_ret
        exact ⟨by rw [hl.out]; rfl, Ext.tr hb (ext_alloc _ _)⟩
    · have e : l.take k = l := List.take_of_length_le (by omega)
      have e2 := hg.out
      rw [e] at e2
      have hl : Hid (light8 l = 0) := by show _ = _; unfold light8; rw [if_pos ⟨by omega, e2⟩]
      clear e e2
      go_wp2
      go_ret
      exact ⟨by rw [hl.out]; rfl, hb⟩
set_option maxRecDepth 100000 in
set_option maxHeartbeats 1000000 in
theorem rfind_any (A : Option Addr) (c : Nat) (l : List S34) (id : Int) (w : World) (hC : Kd.C k34 w A l.length l) (hc : l.length ≤ c) :
    Calls Try.prog 16 #[.slice A l.length c, .int .i64 id] w fun e w' => e = .returned (.int .i64 (idxF (fun h => h.f0 == id) l)) ∧ Ext w w' := by
  have hu34 := Try.underlying34
  have hm := len_max hC
  have HC := Lib.hid hC
  clear hC
  go_enter Try.func16, Try.ntmps16
  go_wp2
  go_loopw [9] (fun i wr => ∃ k : Nat, k ≤ l.length ∧ i = .int .i64 k ∧ Hid ((l.take k).any (fun h => h.f0 == id) = false) ∧ Ext w wr) (fun i _ => l.length - (intOf i).toNat)
  case atStart => exact ⟨0, Nat.zero_le _, rfl, rfl, Below.refl _ _⟩
  case round =>
    obtain ⟨k, hk, rfl, hg, hb⟩ := hrel
    by_cases hlt : k < l.length
    · obtain ⟨ad, A5, c5, rfl, h0, h1, h2, h3, h4, h5, hl5, HC5⟩ := C34 (Kd.C_below HC.out hb) hlt
      cases hp : l[k].f0 == id
      · have hr := Lib.hid (any_step (p := fun h : S34 => h.f0 == id) hlt hg.out hp)
        go_wp2
        go_roundw
        case rel => exact ⟨k + 1, by omega, by go_num, hr, Ext.tr hb (ext_alloc _ _)⟩
        case measure => simp [intOf]; omega
      · have hr := Lib.hid (idxF_hit (p := fun h : S34 => h.f0 == id) hlt hg.out hp)
        go_wp2
        go_ret
        exact ⟨by rw [hr.out]; rfl, Ext.tr hb (ext_alloc _ _)⟩
    · have e : l.take k = l := List.take_of_length_le (by omega)
      have e2 := hg.out
      rw [e] at e2
      have hr := Lib.hid (idxF_none e2)
      clear e e2
      go_wp2
      go_ret
      exact ⟨by rw [hr.out]; rfl, hb⟩
end
end Go.Proofs.Ythfolhgaecfogaa
