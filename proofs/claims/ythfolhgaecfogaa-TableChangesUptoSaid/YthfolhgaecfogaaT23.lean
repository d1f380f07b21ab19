import Derived.Test.YthfolhgaecfogaaT22
set_option linter.unusedVariables false
set_option linter.unusedSimpArgs false
namespace Go.Proofs.Ythfolhgaecfogaa
open Go.RowKit Go.Proofs.YthfolhgaecfogaaW.PrintWords Go.Proofs.YthfolhgaecfogaaW.PrintLast Go.Proofs.YthfolhgaecfogaaW.PrintMore
set_option maxRecDepth 100000 in
set_option maxHeartbeats 1000000 in
theorem ints_same (A A' : Option Addr) (n n' c c' : Nat) (l l' : List Int) (w : World) (hll : l = l') (hC : Kd.C kI w A n l) (hC' : Kd.C kI w A' n' l') (hc : n ≤ c) (hc' : n' ≤ c') :
    Calls Try.prog 14 #[.slice A n c, .slice A' n' c'] w fun e w' => e = .returned (.bool true) ∧ Ext w w' := by
  subst hll
  obtain rfl : l.length = n := Kd.C_len hC
  obtain rfl : l.length = n' := Kd.C_len hC'
  have hm := len_max hC
  have HC := Lib.hid hC
  have HC' := Lib.hid hC'
  clear hC hC'
  go_enter Try.func14, Try.ntmps14
  go_wp2
  go_loopw [13] (fun i wr => ∃ k : Nat, k ≤ l.length ∧ i = .int .i64 k ∧ Ext w wr) (fun i _ => l.length - (intOf i).toNat)
  case atStart => exact ⟨0, Nat.zero_le _, rfl, Below.refl _ _⟩
  case round =>
    obtain ⟨k, hk, rfl, hb⟩ := hrel
    by_cases hlt : k < l.length
    · obtain ⟨ad, rfl, x0⟩ := CI (Kd.C_below HC.out hb) hlt
      obtain ⟨ad', rfl, x1⟩ := CI (Kd.C_below HC'.out hb) hlt
      have y0 := fun d os => cell_regrown x0 d os
      have y1 := fun d os => cell_regrown x1 d os
      clear x0 x1
      go_wp2
      refine wp_region_quiet_below (by kernel_rfl) (by kernel_rfl) ?_
      repeat (go_big_quiet_step (fail))
      refine wpQuiet_nil ?_
      intro _ hw'
      obtain ⟨⟨dq, osq⟩, hw''⟩ := hw'
      subst hw''
      have hz := Lib.hid (Ext.tr hb (below_regrown _ dq osq))
      go_wp2
      go_roundw
      case rel => exact ⟨k + 1, by omega, by go_num, hz.out⟩
      case measure => simp [intOf]; omega
    · obtain rfl : k = l.length := by omega
      go_wp2
      go_ret
      exact ⟨rfl, hb⟩
attribute [local go_sem high] eqA77
set_option maxRecDepth 100000 in
set_option maxHeartbeats 1000000 in
theorem samePairs_any (A A' : Option Addr) (n n' c c' : Nat) (l l' : List S77) (w : World) (hll : l = l') (hC : Kd.C k77 w A n l) (hC' : Kd.C k77 w A' n' l') (hc : n ≤ c) (hc' : n' ≤ c') :
    Calls Try.prog 66 #[.slice A n c, .slice A' n' c'] w fun e w' => e = .returned (.bool true) ∧ Ext w w' := by
  subst hll
  have hu77 := Try.underlying77
  obtain rfl : l.length = n := Kd.C_len hC
  obtain rfl : l.length = n' := Kd.C_len hC'
  have hm := len_max hC
  have HC := Lib.hid hC
  have HC' := Lib.hid hC'
  clear hC hC'
  go_enter Try.func66, Try.ntmps66
  go_wp2
  go_loopw [13] (fun i wr => ∃ k : Nat, k ≤ l.length ∧ i = .int .i64 k ∧ Ext w wr) (fun i _ => l.length - (intOf i).toNat)
  case atStart => exact ⟨0, Nat.zero_le _, rfl, Below.refl _ _⟩
  case round =>
    obtain ⟨k, hk, rfl, hb⟩ := hrel
    by_cases hlt : k < l.length
    · obtain ⟨ad, rfl, x0, x2⟩ := C77 (Kd.C_below HC.out hb) hlt
      obtain ⟨ad', rfl, x1, x3⟩ := C77 (Kd.C_below HC'.out hb) hlt
      have y0 := fun d os => cell_regrown x0 d os
      have y1 := fun d os => cell_regrown x1 d os
      have y2 := fun d os => cell_regrown x2 d os
      have y3 := fun d os => cell_regrown x3 d os
      clear x0 x1 x2 x3
      go_wp2
      refine wp_region_quiet_below (by kernel_rfl) (by kernel_rfl) ?_
      repeat (go_big_quiet_step (fail))
      refine wpQuiet_nil ?_
      intro _ hw'
      obtain ⟨⟨dq, osq⟩, hw''⟩ := hw'
      subst hw''
      have hz := Lib.hid (Ext.tr hb (below_regrown _ dq osq))
      go_wp2
      go_roundw
      case rel => exact ⟨k + 1, by omega, by go_num, hz.out⟩
      case measure => simp [intOf]; omega
    · obtain rfl : k = l.length := by omega
      go_wp2
      go_ret
      exact ⟨rfl, hb⟩
end Go.Proofs.Ythfolhgaecfogaa
