import Derived.Test.YthfolhgaecfogaaM12
set_option linter.unusedVariables false
set_option linter.unusedSimpArgs false
namespace Go.Proofs.Ythfolhgaecfogaa
section
open Go.RowKit Go.Proofs.YthfolhgaecfogaaW.PrintWords Go.Proofs.YthfolhgaecfogaaW.PrintLast Go.Proofs.YthfolhgaecfogaaW.PrintMore
theorem Row_some {w : World} {B n c : Nat} {A : Option Addr} {L : List S48} (h : Row w B (.slice A n c) L) (hc : c ≠ 0) : ∃ g, A = some ⟨g, 0, none⟩ := by
  obtain ⟨_, inner, ho, _⟩ := h
  rcases ho.2 with ⟨e, _⟩ | ⟨g, cap, cur, e, _⟩
  · simp only [Value.slice.injEq] at e
    exact absurd e.2.2 hc
  · simp only [Value.slice.injEq] at e
    exact ⟨g, e.1⟩
theorem box_drewn {W w' : World} {t : S48} (h : Ext ((W.alloc (.cells #[.int .i64 t.f0, .int .i64 t.f1, .int .i64 t.f2] 48)).drew) w') : Box48 w' W.heap.size t :=
  Box48.ext (show Box48 ((W.alloc _).drew) _ _ from heap_alloc_new W _) h
theorem box_C {w : World} {g : Nat} {t : S48} (h : Box48 w g t) : Kd.C k48 w (some ⟨g, 0, none⟩) 1 [t] :=
  C_lit (d := k48) (cs := [.int .i64 t.f0, .int .i64 t.f1, .int .i64 t.f2]) h (reps_one_ (k48_mk w t) rfl) (by simp)
set_option maxRecDepth 100000 in
set_option maxHeartbeats 4000000 in
theorem rset_any (t : S48) (w : World) (B p : Nat) (v : Value) (now : Int) (L : List S48) (hB : B ≤ w.heap.size) (h : Clk 61 w B p v now L) (hG : Good L) (hn : L.length ≤ 4194303) :
    Calls Try.prog 25 #[.pointer (some ⟨p, 0, none⟩), vT t] w fun e w' => ∃ v', e = .returned (.bool (setOk now t)) ∧ Clk 61 w' B p v' now (setT now L t) ∧ Only w w' p v ∧ From w v v' := by
  have hu := Try.underlying61
  have hu48 := Try.underlying48
  have H := Lib.hid h
  have hx0 := Lib.hid (ext_alloc w (.cells #[.int .i64 t.f0, .int .i64 t.f1, .int .i64 t.f2] 48))
  have hbx : Hid (Box48 (w.alloc (.cells #[.int .i64 t.f0, .int .i64 t.f1, .int .i64 t.f2] 48)) w.heap.size t) := heap_alloc_new w _
  have H0 := Lib.hid (h.ext hx0.out)
  have hlt := h.lt
  clear h
  unfold vT
  cases hs : setOk now t
  · have hr : Hid (setT now L t = L) := by show _ = _; simp [setT, hs]
    have hs' := setOk_no.1 hs
    clear hs
    obtain ⟨q0, q1⟩ := H0.out.cells
    obtain ⟨x0, x1, x2⟩ := hbx.out.cells
    by_cases h1 : t.f0 < now
    · go_enter Try.func25, Try.ntmps25
      go_wp2
      go_quiet (fail)
      go_wp2
      go_ret
      exact ⟨v, rfl, by rw [hr.out]; exact H0.out.ext (ext_drewN _ _), ((Only.refl _ _ _).ext hx0.out).ext (ext_drewN _ _), From.refl _ _⟩
    · have h2 : 4611686018427387904 < t.f0 := by omega
      go_enter Try.func25, Try.ntmps25
      go_wp2
      go_quiet (fail)
      go_wp2
      go_ret
      exact ⟨v, rfl, by rw [hr.out]; exact H0.out.ext (ext_drewN _ _), ((Only.refl _ _ _).ext hx0.out).ext (ext_drewN _ _), From.refl _ _⟩
  · have hr : Hid (setT now L t = insT (cutT L t.f1 t.f2) t) := by show _ = _; simp [setT, hs]
    obtain ⟨h1, h2⟩ := setOk_iff.1 hs
    clear hs
    obtain ⟨q0, q1⟩ := H0.out.cells
    obtain ⟨x0, x1, x2⟩ := hbx.out.cells
    go_enter Try.func25, Try.ntmps25
    go_wp2
    go_quiet (fail)
    go_wp2_with fail
    clear q0 q1 x0 x1 x2
    have hd := Lib.hid (ext_drewN (w.alloc (.cells #[.int .i64 t.f0, .int .i64 t.f1, .int .i64 t.f2] 48)))
    refine (rcut_any t.f1 t.f2 _ B p v now L (by simp; omega) (H0.out.ext (hd.out _)) (by omega)).mono ?_
    rintro e w1 ⟨v1, rfl, hC1, hO1, hF1⟩
    obtain ⟨M, hM⟩ : ∃ M, M = cutT L t.f1 t.f2 := ⟨_, rfl⟩
    have hMn : M.length ≤ 4194303 := by rw [hM]; have := cutT_len L t.f1 t.f2; omega
    have hMG := Lib.hid (cutT_good hG t.f1 t.f2)
    rw [← hM] at hC1 hMG hr
    have HM := Lib.hid hM
    clear hM
    have hOw : Hid (Only w w1 p v) := (hO1.after (hd.out _)).after hx0.out
    have hFw : Hid (From w v v1) := (hF1.after (hd.out _).size).after hx0.out.size
    have hb1 : Hid (Box48 w1 w.heap.size t) := Box48.only (hbx.out.ext (hd.out _)) hO1 (by omega) (fun e => by
      have := Kd.R_lt (H.out.2.2) w.heap.size e
      omega)
    have hC1' := Lib.hid hC1
    obtain ⟨A1, n1, c1, rfl⟩ := Row_slice hC1.2.2
    obtain ⟨hn1, hnc1, hCC⟩ := Kd.R_reads' hC1.2.2
    have hCC' : Hid (Kd.C k48 w1 A1 n1 M) := by show Kd.C _ _ _ _ _; rw [hn1]; exact hCC
    have hnn : n1 ≤ 4194303 := by omega
    have hPn : Hid (posT M t ≤ n1) := by show _ ≤ _; rw [hn1]; exact posT_le M t
    have HN1 := Lib.hid hn1
    have hB1 : Hid (B ≤ w1.heap.size) := by show _ ≤ _; have := hOw.out.2.2.2.1; omega
    clear hn1 hC1 hCC hO1 hF1
    go_upto_block 0 with (fail)
    go_cut [5] (fun s5 wx => s5 = .int .i64 ((posT M t : Nat) : Int) ∧ Ext w1 wx)
    case first =>
      go_wp2
      go_loopw [5] (fun i wr => ∃ k : Nat, k ≤ n1 ∧ i = .int .i64 k ∧ Hid (k ≤ posT M t) ∧ Ext w1 wr) (fun i _ => n1 - (intOf i).toNat)
      case atStart => exact ⟨0, Nat.zero_le _, rfl, Nat.zero_le _, Below.refl _ _⟩
      case round =>
        obtain ⟨k, hk, rfl, hkp, hb⟩ := hrel
        have hC2 := Lib.hid (hC1'.out.ext hb)
        have hb2 := Lib.hid (hb1.out.ext hb)
        obtain ⟨q0, q1⟩ := hC2.out.cells
        obtain ⟨x0, x1, x2⟩ := hb2.out.cells
        have y0 := fun d os => cell_regrown q0 d os
        have y1 := fun d os => cell_regrown q1 d os
        have y2 := fun d os => cell_regrown x0 d os
        have y3 := fun d os => cell_regrown x1 d os
        have y4 := fun d os => cell_regrown x2 d os
        by_cases hlt2 : k < posT M t
        · obtain ⟨hkM, hah⟩ := posT_below hlt2
          have hkn : k < n1 := by have := hPn.out; omega
          have hdk : decide ((k : Int) < (n1 : Int)) = true := decide_eq_true (by omega)
          obtain ⟨ad, rfl, z0, z1, z2⟩ := C48 (Kd.C_below hCC'.out hb) hkM
          have y5 := fun d os => cell_regrown z0 d os
          have y6 := fun d os => cell_regrown z1 d os
          have y7 := fun d os => cell_regrown z2 d os
          have hq : Hid (∀ d os, _) := fun d os => q58 M[k] t wr hah d os
          clear q0 q1 x0 x1 x2 z0 z1 z2 hah
          go_wp2
          refine wp_region_quiet_below (by kernel_rfl) (by kernel_rfl) ?_
          repeat (go_big_quiet_step ((go_at_call 58; exact hq.out _ _)))
          refine wpQuiet_nil ?_
          intro _ hw'
          obtain ⟨⟨dq, osq⟩, hw''⟩ := hw'
          subst hw''
          have hz := Lib.hid (Ext.tr hb (below_regrown _ dq osq))
          clear y0 y1 y2 y3 y4 y5 y6 y7
          go_wp2
          go_roundw
          case rel => exact ⟨k + 1, by omega, by go_num, by show _ ≤ _; omega, hz.out⟩
          case measure => simp [intOf]; omega
        · have hkP : k = posT M t := by have := hkp.out; omega
          have HKP := Lib.hid hkP
          clear q0 q1 x0 x1 x2
          by_cases hkn : k < n1
          · have hdk : decide ((k : Int) < (n1 : Int)) = true := decide_eq_true (by omega)
            have hkM : k < M.length := by have := HN1.out; omega
            have hah : ahead M[k] t = false := posT_above hMG.out.1 (by omega) hkM
            obtain ⟨ad, rfl, z0, z1, z2⟩ := C48 (Kd.C_below hCC'.out hb) hkM
            have y5 := fun d os => cell_regrown z0 d os
            have y6 := fun d os => cell_regrown z1 d os
            have y7 := fun d os => cell_regrown z2 d os
            have hq : Hid (∀ d os, _) := fun d os => q58 M[k] t wr hah d os
            clear z0 z1 z2 hah hkP hkp hlt2
            go_wp2
            refine wp_region_quiet_below (by kernel_rfl) (by kernel_rfl) ?_
            repeat (go_big_quiet_step ((go_at_call 58; exact hq.out _ _)))
            refine wpQuiet_nil ?_
            intro _ hw'
            obtain ⟨⟨dq, osq⟩, hw''⟩ := hw'
            subst hw''
            have hz := Lib.hid (Ext.tr hb (below_regrown _ dq osq))
            clear y0 y1 y2 y3 y4 y5 y6 y7
            go_wp2_with fail
            go_meet
            exact ⟨by rw [HKP.out], hz.out⟩
          · have hdk : decide ((k : Int) < (n1 : Int)) = false := decide_eq_false (by omega)
            clear hkP hkp hlt2
            go_wp2
            refine wp_region_quiet_below (by kernel_rfl) (by kernel_rfl) ?_
            repeat (go_big_quiet_step (fail))
            refine wpQuiet_nil ?_
            intro _ hw'
            obtain ⟨⟨dq, osq⟩, hw''⟩ := hw'
            subst hw''
            have hz := Lib.hid (Ext.tr hb (below_regrown _ dq osq))
            clear y0 y1 y2 y3 y4
            go_wp2_with fail
            go_meet
            exact ⟨by rw [HKP.out], hz.out⟩
    case rest =>
      obtain ⟨rfl, hz⟩ := hcut
      obtain ⟨k, hk⟩ : ∃ k, k = posT M t := ⟨_, rfl⟩
      rw [← hk]
      have hkn : k ≤ n1 := by rw [hk]; exact hPn.out
      have hk0 : (0 : Int) ≤ (k : Int) := by omega
      have hk1 : (k : Int) ≤ (n1 : Int) := by omega
      have hk2 : (n1 : Int) ≤ (c1 : Int) := by omega
      have hk3 : (k : Int) ≤ (c1 : Int) := by omega
      have hC7 := Lib.hid (hC1'.out.ext hz)
      have hb7 := Lib.hid (hb1.out.ext hz)
      have hnM : n1 = M.length := HN1.out
      have HT : Hid (Kd.C k48 wc A1 k (M.take k)) := by
        have := Kd.C_take (m := k) (by rw [hnM] at hCC'; exact Kd.C_below hCC'.out hz) (by omega)
        rwa [List.length_take, Nat.min_eq_left (by omega)] at this
      have HD : Hid (Kd.C k48 wc (if c1 = k then A1 else A1.map (·.add (k * 3))) (n1 - k) (M.drop k)) := by
        have := Kd.C_drop (m := k) (c := c1) (by rw [hnM] at hCC'; exact Kd.C_below hCC'.out hz) (by omega) (by omega)
        rwa [List.length_drop, ← hnM] at this
      have HK := Lib.hid hk
      obtain ⟨q0, q1⟩ := hC7.out.cells
      obtain ⟨x0, x1, x2⟩ := hb7.out.cells
      have hlp := hC7.out.lt
      have hlg := blk_lt hb7.out
      have hfz := hC7.out.free 1
      have HZ := Lib.hid hz
      have hins : Hid ([] ++ M.take k ++ [t] ++ M.drop k = insT M t) := by show _ = _; rw [hk]; rfl
      clear hk hnM hz
      have hBc : Hid (B ≤ wc.heap.size) := Nat.le_trans hB1.out HZ.out.size
      have HOs : Hid (w.heap.size ≤ wc.heap.size) := Nat.le_trans hOw.out.2.2.2.1 HZ.out.size
      by_cases hck : c1 = k
      · have hkn2 : k = n1 := by omega
        subst hkn2
        have hck2 := hck.symm
        subst hck2
        rw [if_pos rfl, Nat.sub_self] at HD
        try clear H0
        try clear hbx
        try clear hMG
        try clear HM
        try clear hC1'
        try clear hCC'
        try clear hPn
        try clear HN1
        try clear hb1
        try clear hB1
        try clear hFw
        try clear hx0
        try clear hd
        try clear hC1
        try clear h1
        try clear h2
        try clear hB
        try clear hG
        try clear hlt
        try clear hMn2
        try clear HK
        go_wp2
        go_region_law (first
          | (refine Kd.R_append_rows_step (w0 := wc) k48 wc.heap.size (by first | rfl | simp [Region.wanted]) _ _ _ 48 _ 24 rfl Try.underlying59 info48 rfl (by decide) (by decide) (.slice none 0 0) [] (M.take k) _ _ _ (fun _ => True) (fun _ => False) rfl rfl (Kd.R_nil _ _ _ _ _) (Kd.C_below HT.out (by repeat (first | exact Below.refl _ _ | refine Below.alloc ?_ (by first | (simp; done) | exact HBA.out.size | exact HBC.out.size | (simp; have := HBA.out.size; omega) | (simp; have := HBC.out.size; omega)) _ | refine Below.drew ?_))) (fun x cs h => km48 _ _ _ x cs h) (fun k hk => hk.elim) (fun _ _ => trivial) (by repeat (first | exact Below.refl _ _ | refine Below.alloc ?_ (by first | (simp; done) | exact HBA.out.size | exact HBC.out.size | (simp; have := HBA.out.size; omega) | (simp; have := HBC.out.size; omega)) _ | refine Below.drew ?_)) (by first | (simp; done) | exact HBA.out.size | exact HBC.out.size | (simp; have := HBA.out.size; omega) | (simp; have := HBC.out.size; omega)) (by simp; omega) ?_; intro vA wA hRA hbA hgA hatA; have HRA := Lib.hid hRA; have HEA := Lib.hid (grown_nil hgA); have HBA := Lib.hid hbA; have HCAs := Lib.hid (hC7.out.ext hbA); have HbA := Lib.hid (hb7.out.ext hbA); obtain ⟨qA0, qA1⟩ := HCAs.out.cells; obtain ⟨xA0, xA1, xA2⟩ := HbA.out.cells; have hlpA := HCAs.out.lt; have hlgA := blk_lt HbA.out; have hfzA := HCAs.out.free 1; clear hRA hbA hgA hatA)
          | (refine Kd.R_append_rows_step (w0 := wc) k48 wc.heap.size (by first | rfl | simp [Region.wanted]) _ _ _ 48 _ 24 rfl Try.underlying59 info48 rfl (by decide) (by decide) vC ([] ++ M.take k ++ [t]) (M.drop k) _ _ _ (fun _ => True) (fun _ => False) rfl rfl (Kd.R_below HRC.out (by repeat (first | exact Below.refl _ _ | refine Below.alloc ?_ (by first | (simp; done) | exact HBA.out.size | exact HBC.out.size | (simp; have := HBA.out.size; omega) | (simp; have := HBC.out.size; omega)) _ | refine Below.drew ?_))) (Kd.C_below HD.out (by repeat (first | exact Below.refl _ _ | exact HBC.out | refine Below.alloc ?_ (by first | (simp; done) | exact HBA.out.size | exact HBC.out.size | (simp; have := HBA.out.size; omega) | (simp; have := HBC.out.size; omega)) _ | refine Below.drew ?_))) (fun x cs h => km48 _ _ _ x cs h) (fun k hk => hk.elim) (fun _ _ => trivial) (by repeat (first | exact Below.refl _ _ | exact HBC.out | refine Below.alloc ?_ (by first | (simp; done) | exact HBA.out.size | exact HBC.out.size | (simp; have := HBA.out.size; omega) | (simp; have := HBC.out.size; omega)) _ | refine Below.drew ?_)) (by first | (simp; done) | exact HBA.out.size | exact HBC.out.size | (simp; have := HBA.out.size; omega) | (simp; have := HBC.out.size; omega)) (by simp; omega) ?_; intro vE wE hRE hbE hgE hatE; have HRE := Lib.hid hRE; have HBE := Lib.hid hbE; have HCEs := Lib.hid (hC7.out.ext hbE); have HbE := Lib.hid (hb7.out.ext hbE); obtain ⟨qE0, qE1⟩ := HCEs.out.cells; obtain ⟨xE0, xE1, xE2⟩ := HbE.out.cells; have hlpE := HCEs.out.lt; have hlgE := blk_lt HbE.out; have hfzE := HCEs.out.free 1; obtain ⟨AE, nE, cE, rfl⟩ := Row_slice hRE; clear hRE hbE hgE hatE)
          | (refine Kd.R_append_rows_step (w0 := wc) k48 wc.heap.size (by first | rfl | simp [Region.wanted]) _ _ _ 48 _ 24 rfl Try.underlying59 info48 rfl (by decide) (by decide) vA ([] ++ M.take k) [t] _ _ _ (fun _ => True) (fun _ => False) rfl rfl (Kd.R_below HRA.out (by repeat (first | exact Below.refl _ _ | refine Below.alloc ?_ (by first | (simp; done) | exact HBA.out.size | exact HBC.out.size | (simp; have := HBA.out.size; omega) | (simp; have := HBC.out.size; omega)) _ | refine Below.drew ?_))) (box_C (by first | exact heap_alloc_new _ _ | exact box_drewn HEA.out)) (fun x cs h => km48 _ _ _ x cs h) (fun k hk => hk.elim) (fun _ _ => trivial) (by repeat (first | exact Below.refl _ _ | exact HBA.out | refine Below.alloc ?_ (by first | (simp; done) | exact HBA.out.size | exact HBC.out.size | (simp; have := HBA.out.size; omega) | (simp; have := HBC.out.size; omega)) _ | refine Below.drew ?_)) (by first | (simp; done) | exact HBA.out.size | exact HBC.out.size | (simp; have := HBA.out.size; omega) | (simp; have := HBC.out.size; omega)) (by simp; omega) ?_; intro vC wC hRC hbC hgC hatC; have HRC := Lib.hid hRC; have HBC := Lib.hid hbC; have HCCs := Lib.hid (hC7.out.ext hbC); have HbC := Lib.hid (hb7.out.ext hbC); obtain ⟨qC0, qC1⟩ := HCCs.out.cells; obtain ⟨xC0, xC1, xC2⟩ := HbC.out.cells; have hlpC := HCCs.out.lt; have hlgC := blk_lt HbC.out; have hfzC := HCCs.out.free 1; clear hRC hbC hgC hatC))
        all_goals
          go_wp2
          go_ret
          exact ⟨.slice AE nE cE, rfl, by rw [hr.out, ← hins.out]; exact HCEs.out.anew HRE.out hBc.out (by decide), ((hOw.out.ext HZ.out).ext HBE.out).put 1 _, (new_from HRE.out).after HOs.out⟩
      · obtain ⟨gq, rfl⟩ := Row_some hC1'.out.2.2 (by omega)
        rw [if_neg hck] at HD
        have hck' : ¬ (k : Int) = (c1 : Int) := by omega
        replace HD : Hid (Kd.C k48 wc (some ⟨gq, k * 3, none⟩) (n1 - k) (M.drop k)) := by
          have e : (⟨gq, 0, none⟩ : Addr).add (k * 3) = ⟨gq, k * 3, none⟩ := by
            unfold Addr.add
            split
            · rename_i h; rw [h]
            · simp
          have := HD.out
          show Kd.C _ _ _ _ _
          rw [← e]
          exact this
        try clear H0
        try clear hbx
        try clear hMG
        try clear HM
        try clear hC1'
        try clear hCC'
        try clear hPn
        try clear HN1
        try clear hb1
        try clear hB1
        try clear hFw
        try clear hx0
        try clear hd
        try clear hC1
        try clear h1
        try clear h2
        try clear hB
        try clear hG
        try clear hlt
        try clear hMn2
        try clear HK
        go_wp2
        go_region_law (first
          | (refine Kd.R_append_rows_step (w0 := wc) k48 wc.heap.size (by first | rfl | simp [Region.wanted]) _ _ _ 48 _ 24 rfl Try.underlying59 info48 rfl (by decide) (by decide) (.slice none 0 0) [] (M.take k) _ _ _ (fun _ => True) (fun _ => False) rfl rfl (Kd.R_nil _ _ _ _ _) (Kd.C_below HT.out (by repeat (first | exact Below.refl _ _ | refine Below.alloc ?_ (by first | (simp; done) | exact HBA.out.size | exact HBC.out.size | (simp; have := HBA.out.size; omega) | (simp; have := HBC.out.size; omega)) _ | refine Below.drew ?_))) (fun x cs h => km48 _ _ _ x cs h) (fun k hk => hk.elim) (fun _ _ => trivial) (by repeat (first | exact Below.refl _ _ | refine Below.alloc ?_ (by first | (simp; done) | exact HBA.out.size | exact HBC.out.size | (simp; have := HBA.out.size; omega) | (simp; have := HBC.out.size; omega)) _ | refine Below.drew ?_)) (by first | (simp; done) | exact HBA.out.size | exact HBC.out.size | (simp; have := HBA.out.size; omega) | (simp; have := HBC.out.size; omega)) (by simp; omega) ?_; intro vA wA hRA hbA hgA hatA; have HRA := Lib.hid hRA; have HEA := Lib.hid (grown_nil hgA); have HBA := Lib.hid hbA; have HCAs := Lib.hid (hC7.out.ext hbA); have HbA := Lib.hid (hb7.out.ext hbA); obtain ⟨qA0, qA1⟩ := HCAs.out.cells; obtain ⟨xA0, xA1, xA2⟩ := HbA.out.cells; have hlpA := HCAs.out.lt; have hlgA := blk_lt HbA.out; have hfzA := HCAs.out.free 1; clear hRA hbA hgA hatA)
          | (refine Kd.R_append_rows_step (w0 := wc) k48 wc.heap.size (by first | rfl | simp [Region.wanted]) _ _ _ 48 _ 24 rfl Try.underlying59 info48 rfl (by decide) (by decide) vC ([] ++ M.take k ++ [t]) (M.drop k) _ _ _ (fun _ => True) (fun _ => False) rfl rfl (Kd.R_below HRC.out (by repeat (first | exact Below.refl _ _ | refine Below.alloc ?_ (by first | (simp; done) | exact HBA.out.size | exact HBC.out.size | (simp; have := HBA.out.size; omega) | (simp; have := HBC.out.size; omega)) _ | refine Below.drew ?_))) (Kd.C_below HD.out (by repeat (first | exact Below.refl _ _ | exact HBC.out | refine Below.alloc ?_ (by first | (simp; done) | exact HBA.out.size | exact HBC.out.size | (simp; have := HBA.out.size; omega) | (simp; have := HBC.out.size; omega)) _ | refine Below.drew ?_))) (fun x cs h => km48 _ _ _ x cs h) (fun k hk => hk.elim) (fun _ _ => trivial) (by repeat (first | exact Below.refl _ _ | exact HBC.out | refine Below.alloc ?_ (by first | (simp; done) | exact HBA.out.size | exact HBC.out.size | (simp; have := HBA.out.size; omega) | (simp; have := HBC.out.size; omega)) _ | refine Below.drew ?_)) (by first | (simp; done) | exact HBA.out.size | exact HBC.out.size | (simp; have := HBA.out.size; omega) | (simp; have := HBC.out.size; omega)) (by simp; omega) ?_; intro vE wE hRE hbE hgE hatE; have HRE := Lib.hid hRE; have HBE := Lib.hid hbE; have HCEs := Lib.hid (hC7.out.ext hbE); have HbE := Lib.hid (hb7.out.ext hbE); obtain ⟨qE0, qE1⟩ := HCEs.out.cells; obtain ⟨xE0, xE1, xE2⟩ := HbE.out.cells; have hlpE := HCEs.out.lt; have hlgE := blk_lt HbE.out; have hfzE := HCEs.out.free 1; obtain ⟨AE, nE, cE, rfl⟩ := Row_slice hRE; clear hRE hbE hgE hatE)
          | (refine Kd.R_append_rows_step (w0 := wc) k48 wc.heap.size (by first | rfl | simp [Region.wanted]) _ _ _ 48 _ 24 rfl Try.underlying59 info48 rfl (by decide) (by decide) vA ([] ++ M.take k) [t] _ _ _ (fun _ => True) (fun _ => False) rfl rfl (Kd.R_below HRA.out (by repeat (first | exact Below.refl _ _ | refine Below.alloc ?_ (by first | (simp; done) | exact HBA.out.size | exact HBC.out.size | (simp; have := HBA.out.size; omega) | (simp; have := HBC.out.size; omega)) _ | refine Below.drew ?_))) (box_C (by first | exact heap_alloc_new _ _ | exact box_drewn HEA.out)) (fun x cs h => km48 _ _ _ x cs h) (fun k hk => hk.elim) (fun _ _ => trivial) (by repeat (first | exact Below.refl _ _ | exact HBA.out | refine Below.alloc ?_ (by first | (simp; done) | exact HBA.out.size | exact HBC.out.size | (simp; have := HBA.out.size; omega) | (simp; have := HBC.out.size; omega)) _ | refine Below.drew ?_)) (by first | (simp; done) | exact HBA.out.size | exact HBC.out.size | (simp; have := HBA.out.size; omega) | (simp; have := HBC.out.size; omega)) (by simp; omega) ?_; intro vC wC hRC hbC hgC hatC; have HRC := Lib.hid hRC; have HBC := Lib.hid hbC; have HCCs := Lib.hid (hC7.out.ext hbC); have HbC := Lib.hid (hb7.out.ext hbC); obtain ⟨qC0, qC1⟩ := HCCs.out.cells; obtain ⟨xC0, xC1, xC2⟩ := HbC.out.cells; have hlpC := HCCs.out.lt; have hlgC := blk_lt HbC.out; have hfzC := HCCs.out.free 1; clear hRC hbC hgC hatC))
        all_goals
          go_wp2
          go_ret
          exact ⟨.slice AE nE cE, rfl, by rw [hr.out, ← hins.out]; exact HCEs.out.anew HRE.out hBc.out (by decide), ((hOw.out.ext HZ.out).ext HBE.out).put 1 _, (new_from HRE.out).after HOs.out⟩
end
end Go.Proofs.Ythfolhgaecfogaa
