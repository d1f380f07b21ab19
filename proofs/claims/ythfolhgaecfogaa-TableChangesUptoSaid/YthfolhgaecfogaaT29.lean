import Derived.Test.YthfolhgaecfogaaT28
set_option linter.unusedVariables false
set_option linter.unusedSimpArgs false
namespace Go.Proofs.Ythfolhgaecfogaa
open Go.RowKit Go.Proofs.YthfolhgaecfogaaW.PrintWords Go.Proofs.YthfolhgaecfogaaW.PrintLast Go.Proofs.YthfolhgaecfogaaW.PrintMore
theorem light8_two (l : List S34) : light8 l = 0 ∨ light8 l = 1 := by unfold light8; split; exact .inl rfl; exact .inr rfl
theorem chCode_zero {l m : List S34} (h : bothMay l m = true) : chCode l m = 0 := by unfold chCode; rw [h]; rfl
theorem szs {l : List S34} (hs : ∀ h ∈ l, hostSz h ≤ 4194304) : ∀ h ∈ l, hostOk h := fun h hh => hostOk_of (hs h hh)
/-- the contract of Change once both may stand, the lengths named -/
theorem change_yes (A B : Option Addr) (c cb : Nat) (l m : List S34) (w : World) (hC : Kd.C k34 w A l.length l) (hc : l.length ≤ c) (hl : ∀ h ∈ l, hostSz h ≤ 4194304)
    (hD : Kd.C k34 w B m.length m) (hcb : m.length ≤ cb) (hlb : ∀ h ∈ m, hostSz h ≤ 4194304) (h1 : tableMay l = true) (h2 : tableMay m = true) :
    Calls Try.prog 13 #[.slice A l.length c, .slice B m.length cb] w fun e w' => ∃ (A1 A2 A3 : Option Addr) (n1 n2 n3 c1 c2 c3 : Nat), e = .returned (.tuple #[.slice A1 n1 c1, .slice A2 n2 c2, .slice A3 n3 c3, .int .i64 0]) ∧
      Hid (n1 = (addsOf l m).length) ∧ Hid (n2 = (cutsOf l m).length) ∧ Hid (n3 = (samesOf l m).length) ∧ n1 ≤ c1 ∧ n2 ≤ c2 ∧ n3 ≤ c3 ∧ Hid (Kd.C kI w' A1 n1 (addsOf l m)) ∧ Hid (Kd.C kI w' A2 n2 (cutsOf l m)) ∧ Hid (Kd.C kI w' A3 n3 (samesOf l m)) ∧ Ext w w' := by
  have hll := (tableMay_iff.1 h1).1
  have hml := (tableMay_iff.1 h2).1
  refine (change_any A B c cb l m w hC hc (by omega) (szs hl) hD hcb (by omega) (szs hlb)).mono ?_
  rintro e w' ⟨v1, v2, v3, rfl, hN1, hN2, hN3, hb⟩
  obtain ⟨A1, c1, rfl, hl1, hR1⟩ := Kd.R_reads hN1
  obtain ⟨A2, c2, rfl, hl2, hR2⟩ := Kd.R_reads hN2
  obtain ⟨A3, c3, rfl, hl3, hR3⟩ := Kd.R_reads hN3
  exact ⟨A1, A2, A3, _, _, _, c1, c2, c3, by rw [chCode_zero (by unfold bothMay; rw [h1, h2]; rfl)], rfl, rfl, rfl, hl1, hl2, hl3, hR1, hR2, hR3, hb⟩
set_option maxRecDepth 100000 in
set_option maxHeartbeats 400000 in
theorem tableChanges_any (A B : Option Addr) (c cb : Nat) (l m : List S34) (w : World) (hC : Kd.C k34 w A l.length l) (hc : l.length ≤ c) (hl : ∀ h ∈ l, hostSz h ≤ 4194304) (hn : l.length ≤ 4194304)
    (hD : Kd.C k34 w B m.length m) (hcb : m.length ≤ cb) (hlb : ∀ h ∈ m, hostSz h ≤ 4194304) (hnb : m.length ≤ 4194304) :
    Calls Try.prog 3 #[.slice A l.length c, .slice B m.length cb] w fun e w' => e = .returned (.bool true) ∧ Ext w w' := by
  have HC := Lib.hid hC
  have HD := Lib.hid hD
  clear hC hD
  by_cases hLL : light8 l = 0 ∧ light8 m = 0
  · cases h1 : tableMay l
    · go_enter Try.func3, Try.ntmps3
      go_wp2_with fail
      refine (light8_any A c l w HC.out hc hl).mono ?_
      rintro e w1 ⟨he, hb1⟩
      rw [hLL.1] at he
      subst he
      go_wp2_with fail
      refine (light8_any B cb m w1 (Kd.C_below HD.out hb1) hcb hlb).mono ?_
      rintro e w2 ⟨he, hb2⟩
      rw [hLL.2] at he
      subst he
      have hX := Lib.hid (Ext.tr hb1 hb2)
      go_wp2_with fail
      refine (rmayTable_any A c l w2 (Kd.C_below HC.out hX.out) hc).mono ?_
      rintro e w3 ⟨he, hb3⟩
      rw [h1] at he
      subst he
      go_wp2_with fail
      refine (awake_any w3).mono ?_
      rintro e w4 ⟨rfl, hb4⟩
      go_wp2
      go_ret
      exact ⟨rfl, Ext.tr hX.out (Ext.tr hb3 hb4)⟩
    · cases h2 : tableMay m
      · go_enter Try.func3, Try.ntmps3
        go_wp2_with fail
        refine (light8_any A c l w HC.out hc hl).mono ?_
        rintro e w1 ⟨he, hb1⟩
        rw [hLL.1] at he
        subst he
        go_wp2_with fail
        refine (light8_any B cb m w1 (Kd.C_below HD.out hb1) hcb hlb).mono ?_
        rintro e w2 ⟨he, hb2⟩
        rw [hLL.2] at he
        subst he
        have hX := Lib.hid (Ext.tr hb1 hb2)
        go_wp2_with fail
        refine (rmayTable_any A c l w2 (Kd.C_below HC.out hX.out) hc).mono ?_
        rintro e w3 ⟨he, hb3⟩
        rw [h1] at he
        subst he
        go_wp2_with fail
        refine (rmayTable_any B cb m w3 (Kd.C_below HD.out (Ext.tr hX.out hb3)) hcb).mono ?_
        rintro e w4 ⟨he, hb4⟩
        rw [h2] at he
        subst he
        go_wp2_with fail
        refine (awake_any w4).mono ?_
        rintro e w5 ⟨rfl, hb5⟩
        go_wp2
        go_ret
        exact ⟨rfl, Ext.tr (Ext.tr hX.out (Ext.tr hb3 hb4)) hb5⟩
      · have hll := (tableMay_iff.1 h1).1
        have hml := (tableMay_iff.1 h2).1
        have hbm : bothMay l m = true := by unfold bothMay; rw [h1, h2]; rfl
        have hbm2 : bothMay m l = true := by unfold bothMay; rw [h1, h2]; rfl
        have a1 := Lib.hid (add_len hbm)
        have a2 := Lib.hid (cut_len hbm)
        have a3 := Lib.hid (self_same h1)
        have E1 := Lib.hid (add_cut l m)
        have E2 := Lib.hid (cut_add l m)
        have E3 := Lib.hid (same_same l m)
        clear hbm hbm2
        go_enter Try.func3, Try.ntmps3
        go_wp2_with fail
        refine (light8_any A c l w HC.out hc hl).mono ?_
        rintro e w1 ⟨he, hb1⟩
        rw [hLL.1] at he
        subst he
        go_wp2_with fail
        refine (light8_any B cb m w1 (Kd.C_below HD.out hb1) hcb hlb).mono ?_
        rintro e w2 ⟨he, hb2⟩
        rw [hLL.2] at he
        subst he
        have hX := Lib.hid (Ext.tr hb1 hb2)
        go_wp2_with fail
        refine (rmayTable_any A c l w2 (Kd.C_below HC.out hX.out) hc).mono ?_
        rintro e w3 ⟨he, hb3⟩
        rw [h1] at he
        subst he
        go_wp2_with fail
        refine (rmayTable_any B cb m w3 (Kd.C_below HD.out (Ext.tr hX.out hb3)) hcb).mono ?_
        rintro e w4 ⟨he, hb4⟩
        rw [h2] at he
        subst he
        have hX4 := Lib.hid (Ext.tr hX.out (Ext.tr hb3 hb4))
        clear hb1 hb2 hb3 hb4 hX
        go_wp2_with fail
        refine (change_yes A B c cb l m w4 (Kd.C_below HC.out hX4.out) hc hl (Kd.C_below HD.out hX4.out) hcb hlb h1 h2).mono ?_
        rintro e w5 ⟨A1, A2, A3, n1, n2, n3, c1, c2, c3, rfl, hn1, hn2, hn3, hc1, hc2, hc3, hC1, hC2, hC3, hb5⟩
        have hX5 := Lib.hid (Ext.tr hX4.out hb5)
        go_wp2_with fail
        refine (change_yes B A cb c m l w5 (Kd.C_below HD.out hX5.out) hcb hlb (Kd.C_below HC.out hX5.out) hc hl h2 h1).mono ?_
        rintro e w6 ⟨B1, B2, B3, m1, m2, m3, d1, d2, d3, rfl, hm1, hm2, hm3, hd1, hd2, hd3, hD1, hD2, hD3, hb6⟩
        have hw1 : IntKind.i64.wrap ((n1 : Int) + (n3 : Int)) = (m.length : Int) := by have := a1.out; rw [← hn1.out, ← hn3.out] at this; rw [IntKind.wrap_i64]; omega
        have hw2 : IntKind.i64.wrap ((n2 : Int) + (n3 : Int)) = (l.length : Int) := by have := a2.out; rw [← hn2.out, ← hn3.out] at this; rw [IntKind.wrap_i64]; omega
        clear hn1 hn2 hn3 hm1 hm2 hm3
        go_wp2_with fail
        refine (ints_same A1 B2 n1 m2 c1 d2 _ _ w6 E1.out (Kd.C_below hC1.out hb6) hD2.out hc1 hd2).mono ?_
        rintro e w7 ⟨rfl, hb7⟩
        go_wp2_with fail
        refine (ints_same A2 B1 n2 m1 c2 d1 _ _ w7 E2.out (Kd.C_below hC2.out (Ext.tr hb6 hb7)) (Kd.C_below hD1.out hb7) hc2 hd1).mono ?_
        rintro e w8 ⟨rfl, hb8⟩
        go_wp2_with fail
        refine (ints_same A3 B3 n3 m3 c3 d3 _ _ w8 E3.out (Kd.C_below hC3.out (Ext.tr hb6 (Ext.tr hb7 hb8))) (Kd.C_below hD3.out (Ext.tr hb7 hb8)) hc3 hd3).mono ?_
        rintro e w9 ⟨rfl, hb9⟩
        have hX9 := Lib.hid (Ext.tr hX5.out (Ext.tr hb6 (Ext.tr hb7 (Ext.tr hb8 hb9))))
        go_wp2_with fail
        refine (change_yes A A c c l l w9 (Kd.C_below HC.out hX9.out) hc hl (Kd.C_below HC.out hX9.out) hc hl h1 h1).mono ?_
        rintro e w10 ⟨F1, F2, F3, k1, k2, k3, f1, f2, f3, rfl, hk1, hk2, hk3, hf1, hf2, hf3, hF1, hF2, hF3, hb10⟩
        have hk1 := hk1.out
        have hk2 := hk2.out
        have hk3 := hk3.out
        rw [a3.out.1] at hk1
        rw [a3.out.2.1] at hk2
        rw [a3.out.2.2] at hk3
        subst hk1; subst hk2; subst hk3
        have hX10 := Lib.hid (Ext.tr hX9.out hb10)
        clear hb5 hb6 hb7 hb8 hb9 hb10
        go_wp2_with fail
        refine (awake_any w10).mono ?_
        rintro e w11 ⟨rfl, hb11⟩
        go_wp2
        go_ret
        exact ⟨rfl, Ext.tr hX10.out hb11⟩
  · obtain ⟨L1, hL1⟩ : ∃ L1, L1 = light8 l := ⟨_, rfl⟩
    obtain ⟨L2, hL2⟩ : ∃ L2, L2 = light8 m := ⟨_, rfl⟩
    have b1 := light8_two l
    have b2 := light8_two m
    rw [← hL1, ← hL2] at hLL
    rw [← hL1] at b1
    rw [← hL2] at b2
    have hsum : 0 < L1 + L2 := by omega
    have hw : IntKind.i64.wrap (L1 + L2) = L1 + L2 := by rw [IntKind.wrap_i64]; omega
    have HL1 := Lib.hid hL1
    have HL2 := Lib.hid hL2
    clear hL1 hL2 b1 b2 hLL
    go_enter Try.func3, Try.ntmps3
    go_wp2_with fail
    refine (light8_any A c l w HC.out hc hl).mono ?_
    rintro e w1 ⟨he, hb1⟩
    rw [← HL1.out] at he
    subst he
    go_wp2_with fail
    refine (light8_any B cb m w1 (Kd.C_below HD.out hb1) hcb hlb).mono ?_
    rintro e w2 ⟨he, hb2⟩
    rw [← HL2.out] at he
    subst he
    go_wp2_with fail
    refine (awake_any w2).mono ?_
    rintro e w3 ⟨rfl, hb3⟩
    go_wp2
    go_ret
    exact ⟨rfl, Ext.tr (Ext.tr hb1 hb2) hb3⟩
end Go.Proofs.Ythfolhgaecfogaa
