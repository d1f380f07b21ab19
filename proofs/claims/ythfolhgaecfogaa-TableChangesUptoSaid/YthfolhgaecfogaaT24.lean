import Derived.Test.YthfolhgaecfogaaT23
set_option linter.unusedVariables false
set_option linter.unusedSimpArgs false
namespace Go.Proofs.Ythfolhgaecfogaa
open Go.RowKit Go.Proofs.YthfolhgaecfogaaW.PrintWords Go.Proofs.YthfolhgaecfogaaW.PrintLast Go.Proofs.YthfolhgaecfogaaW.PrintMore
set_option maxRecDepth 100000 in
set_option maxHeartbeats 1000000 in
theorem sameHost_any (h h' : S34) (A A' : Option Addr) (c c' : Nat) (w : World) (hh : h = h') (hC : Kd.C k77 w A h.f5.length h.f5) (hc : h.f5.length ≤ c) (hC' : Kd.C k77 w A' h'.f5.length h'.f5) (hc' : h'.f5.length ≤ c') :
    Calls Try.prog 42 #[vHost h A c, vHost h' A' c'] w fun e w' => e = .returned (.bool true) ∧ Ext w w' := by
  subst hh
  have hu34 := Try.underlying34
  have HC := Lib.hid hC
  have HC' := Lib.hid hC'
  clear hC hC'
  unfold vHost
  go_enter Try.func42, Try.ntmps42
  go_wp2_with fail
  refine (samePairs_any A A' _ _ c c' h.f5 h.f5 _ rfl (Kd.C_below HC.out (Ext.tr (ext_alloc _ _) (ext_alloc _ _))) (Kd.C_below HC'.out (Ext.tr (ext_alloc _ _) (ext_alloc _ _))) hc hc').mono ?_
  rintro e w1 ⟨rfl, hb⟩
  go_wp2
  go_ret
  exact ⟨rfl, Ext.tr (Ext.tr (ext_alloc _ _) (ext_alloc _ _)) hb⟩
theorem q42 (h : S34) (A A' : Option Addr) (c c' : Nat) (W : World) (hC : Kd.C k77 W A h.f5.length h.f5) (hc : h.f5.length ≤ c) (hC' : Kd.C k77 W A' h.f5.length h.f5) (hc' : h.f5.length ≤ c') (d : Nat) (os : Array Obj) :
    Calls Try.prog 42 #[.agg #[.int .i64 h.f0, .string h.f1, .int .i64 h.f2, .string h.f3, .int .i64 h.f4, .slice A h.f5.length c], .agg #[.int .i64 h.f0, .string h.f1, .int .i64 h.f2, .string h.f3, .int .i64 h.f4, .slice A' h.f5.length c']] (Go.Sort.grow (redrawn W d) os) fun e w'' => e = .returned (.bool true) ∧ ∃ p : Regrown, w'' = Go.Sort.grow (redrawn W p.d) p.os :=
  Calls.regrown_of (sameHost_any h h A A' c c' _ rfl (Kd.C_below hC (below_regrown W d os)) hc (Kd.C_below hC' (below_regrown W d os)) hc')
set_option maxRecDepth 100000 in
set_option maxHeartbeats 1000000 in
theorem sameHosts_any (A A' : Option Addr) (n n' c c' : Nat) (l l' : List S34) (w : World) (hll : l = l') (hC : Kd.C k34 w A n l) (hC' : Kd.C k34 w A' n' l') (hc : n ≤ c) (hc' : n' ≤ c') :
    Calls Try.prog 18 #[.slice A n c, .slice A' n' c'] w fun e w' => e = .returned (.bool true) ∧ Ext w w' := by
  subst hll
  have hu34 := Try.underlying34
  obtain rfl : l.length = n := Kd.C_len hC
  obtain rfl : l.length = n' := Kd.C_len hC'
  have hm := len_max hC
  have HC := Lib.hid hC
  have HC' := Lib.hid hC'
  clear hC hC'
  go_enter Try.func18, Try.ntmps18
  go_wp2
  go_loopw [13] (fun i wr => ∃ k : Nat, k ≤ l.length ∧ i = .int .i64 k ∧ Ext w wr) (fun i _ => l.length - (intOf i).toNat)
  case atStart => exact ⟨0, Nat.zero_le _, rfl, Below.refl _ _⟩
  case round =>
    obtain ⟨k, hk, rfl, hb⟩ := hrel
    by_cases hlt : k < l.length
    · obtain ⟨ad, A5, c5, rfl, x0, x1, x2, x3, x4, x5, hl5, HC5⟩ := C34 (Kd.C_below HC.out hb) hlt
      obtain ⟨ad', A6, c6, rfl, z0, z1, z2, z3, z4, z5, hl6, HC6⟩ := C34 (Kd.C_below HC'.out hb) hlt
      have y0 := fun d os => cell_regrown x0 d os
      have y1 := fun d os => cell_regrown x1 d os
      have y2 := fun d os => cell_regrown x2 d os
      have y3 := fun d os => cell_regrown x3 d os
      have y4 := fun d os => cell_regrown x4 d os
      have y5 := fun d os => cell_regrown x5 d os
      have v0 := fun d os => cell_regrown z0 d os
      have v1 := fun d os => cell_regrown z1 d os
      have v2 := fun d os => cell_regrown z2 d os
      have v3 := fun d os => cell_regrown z3 d os
      have v4 := fun d os => cell_regrown z4 d os
      have v5 := fun d os => cell_regrown z5 d os
      clear x0 x1 x2 x3 x4 x5 z0 z1 z2 z3 z4 z5
      go_wp2
      refine wp_region_quiet_below (by kernel_rfl) (by kernel_rfl) ?_
      repeat (go_big_quiet_step ((go_at_call 42; exact q42 l[k] A5 A6 c5 c6 _ HC5.out hl5 HC6.out hl6 _ _)))
      refine wpQuiet_nil ?_
      intro _ hw'
      obtain ⟨⟨dq, osq⟩, hw''⟩ := hw'
      subst hw''
      have hz := Lib.hid (Ext.tr hb (below_regrown _ dq osq))
      go_wp2
      go_roundw
      case rel => exact ⟨k + 1, by omega, by go_num, hz.out⟩
      case measure => simp [intOf]; omega
    · obtain rfl : k = l.length := by omega
      go_wp2
      go_ret
      exact ⟨rfl, hb⟩
end Go.Proofs.Ythfolhgaecfogaa
