import Derived.Test.YthfolhgaecfogaaT21
set_option linter.unusedVariables false
set_option linter.unusedSimpArgs false
namespace Go.Proofs.Ythfolhgaecfogaa
open Go.RowKit Go.Proofs.YthfolhgaecfogaaW.PrintWords Go.Proofs.YthfolhgaecfogaaW.PrintLast Go.Proofs.YthfolhgaecfogaaW.PrintMore
abbrev kI : Kd Int := Kd.int .i64
theorem CI {w : World} {A : Option Addr} {l : List Int} (h : Kd.C kI w A l.length l) {k : Nat} (hk : k < l.length) : ∃ ad, A = some ad ∧ w.cell? (ad.add k) = some (.int .i64 l[k]) := by
  obtain ⟨ad, c, e, _, hK, hc0⟩ := Kd.C_get h (0 : Int) (k : Int) (by omega) (by omega)
  obtain rfl : c = [.int .i64 (l.getD k 0)] := hK
  have := hc0 0 _ rfl
  refine ⟨ad, e, ?_⟩
  rw [List.getD_eq_getElem?_getD, List.getElem?_eq_getElem hk] at this
  simpa [show kI.sz = 1 from rfl] using this
theorem kmI (W : World) (base : Nat) (ok : Nat → Prop) (x : Int) : kI.M W base ok x [.int .i64 x] := rfl
theorem infoI : (Try.prog.info? 3).map (fun i => (i.zero, i.size, i.bytes)) = some (some (.int .i64 0), 1, 8) := by kernel_rfl
/-- slices.Index of ints -/
def idxI (l : List Int) (x : Int) : Int := idxF (fun y => x == y) l
set_option maxRecDepth 100000 in
set_option maxHeartbeats 1000000 in
theorem index_any (A : Option Addr) (c n : Nat) (l : List Int) (x : Int) (w : World) (hC0 : Kd.C kI w A n l) (hc0 : n ≤ c) :
    Calls Try.prog 67 #[.slice A n c, .int .i64 x] w fun e w' => e = .returned (.int .i64 (idxI l x)) ∧ Ext w w' := by
  obtain rfl : l.length = n := Kd.C_len hC0
  have hm := len_max hC0
  have HC := Lib.hid hC0
  clear hC0
  go_enter Try.func67, Try.ntmps67
  go_wp2
  go_loopw [8] (fun i wr => ∃ k : Nat, k ≤ l.length ∧ i = .int .i64 k ∧ Hid ((l.take k).any (fun y => x == y) = false) ∧ Ext w wr) (fun i _ => l.length - (intOf i).toNat)
  case atStart => exact ⟨0, Nat.zero_le _, rfl, rfl, Below.refl _ _⟩
  case round =>
    obtain ⟨k, hk, rfl, hg, hb⟩ := hrel
    by_cases hlt : k < l.length
    · obtain ⟨ad, rfl, x0⟩ := CI (Kd.C_below HC.out hb) hlt
      cases hq : x == l[k]
      · have hs := Lib.hid (any_step hlt hg.out hq)
        go_wp2
        go_roundw
        case rel => exact ⟨k + 1, by omega, by go_num, hs, hb⟩
        case measure => simp [intOf]; omega
      · have hs := Lib.hid (idxF_hit (p := fun y => x == y) hlt hg.out hq)
        go_wp2
        go_ret
        exact ⟨by show _ = Ending.returned (.int .i64 (idxF _ l)); rw [hs.out]; rfl, hb⟩
    · obtain rfl : k = l.length := by omega
      have hs := Lib.hid (idxF_none (p := fun y => x == y) (l := l) (by have := hg.out; rwa [List.take_length] at this))
      go_wp2
      go_ret
      exact ⟨by show _ = Ending.returned (.int .i64 (idxF _ l)); rw [hs.out]; rfl, hb⟩
theorem contains_any (A : Option Addr) (c n : Nat) (l : List Int) (x : Int) (w : World) (hC0 : Kd.C kI w A n l) (hc0 : n ≤ c) :
    Calls Try.prog 43 #[.slice A n c, .int .i64 x] w fun e w' => e = .returned (.bool (l.any (fun y => x == y))) ∧ Ext w w' := by
  go_enter Try.func43, Try.ntmps43
  go_wp2_with fail
  refine (index_any A c n l x w hC0 hc0).mono ?_
  rintro e w1 ⟨rfl, hb⟩
  go_wp2
  go_ret
  exact ⟨by rw [← idxF_any]; rfl, hb⟩
end Go.Proofs.Ythfolhgaecfogaa
