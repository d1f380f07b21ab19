import Derived.Test.YthfolhgaecfogaaT1
set_option linter.unusedVariables false
set_option linter.unusedSimpArgs false
namespace Go.Proofs.Ythfolhgaecfogaa
open Go.RowKit Go.Proofs.YthfolhgaecfogaaW.PrintWords Go.Proofs.YthfolhgaecfogaaW.PrintLast Go.Proofs.YthfolhgaecfogaaW.PrintMore
abbrev Ext (w w' : World) : Prop := Below w.heap.size w w'
theorem Ext.tr {a b c : World} (h : Ext a b) (k : Ext b c) : Ext a c := h.trans (k.mono h.size)
/-- the place of the first that is so; -1: none -/
def idxF {α : Type} (p : α → Bool) (l : List α) : Int := match l.findIdx? p with | some i => (i : Int) | none => -1
theorem idxF_hit {α : Type} {p : α → Bool} {l : List α} {k : Nat} (h : k < l.length) (h0 : (l.take k).any p = false) (h1 : p l[k] = true) : idxF p l = k := by
  have e : l.findIdx? p = some k := by
    rw [List.findIdx?_eq_some_iff_getElem]
    refine ⟨h, h1, fun j hj hpj => ?_⟩
    rw [List.any_eq_false] at h0
    exact h0 l[j] (List.mem_take_iff_getElem.2 ⟨j, by omega, rfl⟩) hpj
  unfold idxF; rw [e]
theorem idxF_none {α : Type} {p : α → Bool} {l : List α} (h : l.any p = false) : idxF p l = -1 := by
  have e : l.findIdx? p = none := by
    rw [List.findIdx?_eq_none_iff]
    intro x hx
    rw [List.any_eq_false] at h
    simpa using h x hx
  unfold idxF; rw [e]
theorem idxF_any {α : Type} (p : α → Bool) (l : List α) : decide (0 ≤ idxF p l) = l.any p := by
  cases h : l.any p
  · rw [idxF_none h]; rfl
  · unfold idxF
    cases e : l.findIdx? p with
    | none =>
      rw [List.findIdx?_eq_none_iff] at e
      rw [List.any_eq_true] at h
      obtain ⟨x, hx, hp⟩ := h
      rw [e x hx] at hp; cases hp
    | some i => simp
theorem any_step {α : Type} {p : α → Bool} {l : List α} {k : Nat} (h : k < l.length) (h0 : (l.take k).any p = false) (h1 : p l[k] = false) : (l.take (k + 1)).any p = false := by
  rw [List.take_succ_eq_append_getElem h, List.any_append, h0]; simp [h1]
theorem rd77 (l : List S77) (k : Nat) (h : k < l.length) : rd_T77 l (k : Int) = l[k] := by
  unfold rd_T77; rw [Int.toNat_natCast, List.getD_eq_getElem?_getD, List.getElem?_eq_getElem h]; rfl
def pairOk (p : S77) : Prop := p.f0.size ≤ 4194304 ∧ p.f1.size ≤ 4194304
theorem C77 {w : World} {A : Option Addr} {l : List S77} (h : Kd.C k77 w A l.length l) {k : Nat} (hk : k < l.length) :
    ∃ ad, A = some ad ∧ w.cell? (ad.add (k * 2)) = some (.string l[k].f0) ∧ w.cell? ⟨(ad.add (k * 2)).block, (ad.add (k * 2)).off + 1, none⟩ = some (.string l[k].f1) := by
  obtain ⟨ad, e, h0, h1⟩ := at_T77 h (k : Int) (by omega) (by omega)
  rw [rd77 l k hk, Int.toNat_natCast] at h0 h1
  exact ⟨ad, e, h0, h1⟩
theorem len_max {α : Type} {d : Kd α} {w : World} {A : Option Addr} {l : List α} (h : Kd.C d w A l.length l) : l.length ≤ 9223372036854775807 := Kd.C_max h
set_option maxHeartbeats 400000 in
theorem idx77_any (A : Option Addr) (c : Nat) (l : List S77) (w : World) (hC : Kd.C k77 w A l.length l) (hc : l.length ≤ c) (hl : ∀ p ∈ l, pairOk p) :
    Calls Try.prog 84 #[.slice A l.length c, .func (.func 80) #[] #[]] w fun e w' => e = .returned (.int .i64 (idxF (fun p => !pairMay p) l)) ∧ Ext w w' := by
  have hu := Try.underlying77
  have hm := len_max hC
  have HC := Lib.hid hC
  clear hC
  go_enter Try.func84, Try.ntmps84
  go_wp2
  go_loopw [8] (fun i wr => ∃ k : Nat, k ≤ l.length ∧ i = .int .i64 k ∧ Hid ((l.take k).any (fun p => !pairMay p) = false) ∧ Ext w wr) (fun i _ => l.length - (intOf i).toNat)
  case atStart => exact ⟨0, Nat.zero_le _, rfl, rfl, Below.refl _ _⟩
  case round =>
    obtain ⟨k, hk, rfl, hg, hb⟩ := hrel
    by_cases hlt : k < l.length
    · obtain ⟨ad, rfl, h0, h1⟩ := C77 (Kd.C_below HC.out hb) hlt
      obtain ⟨p0, p1⟩ := hl _ (List.getElem_mem hlt)
      go_wp2_with fail
      refine (notWords_any l[k] _ p0 p1).mono ?_
      rintro e w1 ⟨rfl, hb1⟩
      have hb2 := Ext.tr hb hb1
      cases hp : pairMay l[k]
      · have hr := Lib.hid (idxF_hit (p := fun p => !pairMay p) hlt hg.out (by simp [hp]))
        go_wp2
        go_ret
        exact ⟨by rw [hr.out]; rfl, hb2⟩
      · have hr := Lib.hid (any_step (p := fun p => !pairMay p) hlt hg.out (by simp [hp]))
        go_wp2
        go_roundw
        case rel => exact ⟨k + 1, by omega, by go_num, hr, hb2⟩
        case measure => simp [intOf]; omega
    · have e : l.take k = l := List.take_of_length_le (by omega)
      have e2 := hg.out
      rw [e] at e2
      have hr := Lib.hid (idxF_none e2)
      clear e e2
      go_wp2
      go_ret
      exact ⟨by rw [hr.out]; rfl, hb⟩
theorem cont77_any (A : Option Addr) (c : Nat) (l : List S77) (w : World) (hC : Kd.C k77 w A l.length l) (hc : l.length ≤ c) (hl : ∀ p ∈ l, pairOk p) :
    Calls Try.prog 79 #[.slice A l.length c, .func (.func 80) #[] #[]] w fun e w' => e = .returned (.bool (l.any (fun p => !pairMay p))) ∧ Ext w w' := by
  have hr := Lib.hid (idxF_any (fun p => !pairMay p) l)
  go_enter Try.func79, Try.ntmps79
  go_wp2_with fail
  refine (idx77_any A c l w hC hc hl).mono ?_
  rintro e w1 ⟨rfl, hb1⟩
  go_wp2
  go_ret
  exact ⟨by rw [← hr.out]; rfl, hb1⟩
def pairsMay (l : List S77) : Bool := decide (l.length ≤ 6) && !l.any (fun p => !pairMay p)
theorem maySub_any (A : Option Addr) (c : Nat) (l : List S77) (w : World) (hC : Kd.C k77 w A l.length l) (hc : l.length ≤ c) (hl : ∀ p ∈ l, pairOk p) :
    Calls Try.prog 69 #[.slice A l.length c] w fun e w' => e = .returned (.bool (pairsMay l)) ∧ Ext w w' := by
  by_cases h : l.length ≤ 6
  · have hr : Hid (pairsMay l = !l.any (fun p => !pairMay p)) := by show _ = _; simp [pairsMay, h]
    go_enter Try.func69, Try.ntmps69
    go_wp2_with fail
    refine (cont77_any A c l w hC hc hl).mono ?_
    rintro e w1 ⟨rfl, hb1⟩
    go_wp2
    go_ret
    exact ⟨by rw [hr.out]; rfl, hb1⟩
  · have hr : Hid (pairsMay l = false) := by show _ = _; simp [pairsMay, h]
    go_enter Try.func69, Try.ntmps69
    go_wp2
    go_ret
    exact ⟨by rw [hr.out]; rfl, Below.refl _ _⟩
end Go.Proofs.Ythfolhgaecfogaa
