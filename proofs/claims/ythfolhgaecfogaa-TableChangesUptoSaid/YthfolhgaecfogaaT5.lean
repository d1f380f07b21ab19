import Derived.Test.YthfolhgaecfogaaT4
set_option linter.unusedVariables false
set_option linter.unusedSimpArgs false
namespace Go.Proofs.Ythfolhgaecfogaa
open Go.RowKit Go.Proofs.YthfolhgaecfogaaW.PrintWords Go.Proofs.YthfolhgaecfogaaW.PrintLast Go.Proofs.YthfolhgaecfogaaW.PrintMore
set_option maxRecDepth 100000 in
set_option maxHeartbeats 2000000 in
theorem rhostMay_yes (h : S34) (A : Option Addr) (c : Nat) (w : World) (hC : Kd.C k77 w A h.f5.length h.f5) (hc : h.f5.length ≤ c) (hyes : condMay h = true) :
    Calls Try.prog 15 #[vHost h A c] w fun e w' => e = .returned (.bool (hostMay h)) ∧ Ext w w' := by
  have hu := Try.underlying77
  have hu34 := Try.underlying34
  have hm := len_max hC
  have HC := Lib.hid hC
  clear hC
  have HE : Hid (hostMay h = upB h.f5) := by show _ = _; simp [hostMay, hyes]
  obtain ⟨q1, q2, q3, hz, q4, q5, q6, q7, q8⟩ := condMay_yes h hyes
  clear hyes
  have d1 : decide (h.f0 < 1) = false := decide_eq_false (by omega)
  have d2 : decide (1000000 < h.f0) = false := decide_eq_false (by omega)
  have d3 : decide (h.f2 < 0) = false := decide_eq_false (by omega)
  have d4 : decide (3 < h.f2) = false := decide_eq_false (by omega)
  have d5 : decide (h.f4 < 1) = false := decide_eq_false (by omega)
  have d6 : decide (20 < h.f4) = false := decide_eq_false (by omega)
  have hB0 : Box34 (w.alloc (.cells #[.int .i64 h.f0, .string h.f1, .int .i64 h.f2, .string h.f3, .int .i64 h.f4, .slice A h.f5.length c] 34)) w.heap.size h A c := heap_alloc_new w _
  obtain ⟨c0, c1, c2, c3, c4, c5⟩ := hB0.cells
  clear hB0
  unfold vHost
  rcases hz with z | ⟨z1, z2⟩
  all_goals
    go_enter Try.func15, Try.ntmps15
    go_wp2_with (first | (go_at_call 44; refine (rword_any _ _).mono ?_; rintro e w' ⟨rfl, rfl⟩) | (go_at_call 45; refine (rmaySub_any A c h.f5 _ (Kd.C_below HC.out (ext_alloc _ _)) hc).mono ?_; rintro e w1 ⟨rfl, hb1⟩))
    have hbw := Ext.tr (ext_alloc w (.cells #[.int .i64 h.f0, .string h.f1, .int .i64 h.f2, .string h.f3, .int .i64 h.f4, .slice A h.f5.length c] 34)) hb1
    have hB1 : Box34 w1 w.heap.size h A c := Box34.ext (heap_alloc_new w _) hb1
    clear hb1
    go_loopw [3] (fun i wr => ∃ j : Nat, (j = 0 ∨ j + 1 ≤ h.f5.length) ∧ i = .int .i64 ((j : Int) + 1) ∧ Hid ((List.range j).all (upAt h.f5) = true) ∧ Hid (Box34 wr w.heap.size h A c) ∧ Ext w wr) (fun i _ => h.f5.length + 1 - (intOf i).toNat)
    case atStart => exact ⟨0, .inl rfl, rfl, rfl, hB1, hbw⟩
    case round =>
      clear c0 c1 c2 c3 c4 c5 hB1 hbw
      obtain ⟨j, hj, rfl, hg, HB, hb⟩ := hrel
      obtain ⟨c0, c1, c2, c3, c4, c5⟩ := HB.out.cells
      by_cases hlt : j + 1 < h.f5.length
      · obtain ⟨ad, rfl, h1, h2⟩ := C77 (Kd.C_below HC.out hb) (k := j) (by omega)
        obtain ⟨ad', e, h3, h4⟩ := C77 (Kd.C_below HC.out hb) (k := j + 1) hlt
        cases e
        have u := upAt_of h.f5 j hlt
        have ht := less_total h.f5[j].f0.toList h.f5[j + 1].f0.toList
        cases hp : Op.bytesLess h.f5[j].f0.toList h.f5[j + 1].f0.toList
        · have hr := Lib.hid (up_stop h.f5 j hlt (u.trans hp))
          rw [hp] at ht
          clear u
          go_wp2
          go_quiet (fail)
          go_wp2
          go_ret
          exact ⟨by rw [HE.out, hr.out]; rfl, Ext.tr hb (ext_drewN _ _)⟩
        · have hr := Lib.hid (up_step h.f5 j hg.out (u.trans hp))
          rw [hp] at ht
          clear u
          go_wp2
          go_quiet (fail)
          go_wp2
          go_roundw
          case rel => exact ⟨j + 1, .inr (by omega), by go_num, hr, HB.out.ext (ext_drewN _ _), Ext.tr hb (ext_drewN _ _)⟩
          case measure => simp [intOf]; omega
      · have hup := Lib.hid (up_done h.f5 j (by omega) hg.out)
        have hge : h.f5.length ≤ j + 1 := by omega
        clear hlt
        go_wp2
        go_ret
        exact ⟨by rw [HE.out, hup.out]; rfl, hb⟩
theorem rhostMay_any (h : S34) (A : Option Addr) (c : Nat) (w : World) (hC : Kd.C k77 w A h.f5.length h.f5) (hc : h.f5.length ≤ c) :
    Calls Try.prog 15 #[vHost h A c] w fun e w' => e = .returned (.bool (hostMay h)) ∧ Ext w w' := by
  cases hy : condMay h
  · exact rhostMay_no h A c w hC hc hy
  · exact rhostMay_yes h A c w hC hc hy
end Go.Proofs.Ythfolhgaecfogaa
