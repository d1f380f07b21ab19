import Derived.Test.YthfolhgaecfogaaT19
set_option linter.unusedVariables false
set_option linter.unusedSimpArgs false
namespace Go.Proofs.Ythfolhgaecfogaa
open Go.RowKit Go.Proofs.YthfolhgaecfogaaW.PrintWords Go.Proofs.YthfolhgaecfogaaW.PrintLast Go.Proofs.YthfolhgaecfogaaW.PrintMore
theorem Box34.grown {wr w1 : World} {g : Nat} {h : S34} {A : Option Addr} {c : Nat} {r : Option Nat} (b : Box34 wr g h A c) (e : wr.grownBy w1 r) (hne : some g ≠ r) : Box34 w1 g h A c := (e.block g (blk_lt b) hne).trans b
theorem Blk34.grown {wr w1 : World} {g : Nat} {cs : Array Value} {r : Option Nat} (b : Blk34 wr g cs) (e : wr.grownBy w1 r) (hne : some g ≠ r) : Blk34 w1 g cs := (e.block g (blk_lt b) hne).trans b
set_option maxRecDepth 100000 in
set_option maxHeartbeats 4000000 in
theorem raddHost_any (A : Option Addr) (c : Nat) (l : List S34) (h : S34) (A5 : Option Addr) (c5 : Nat) (w : World) (hC : Kd.C k34 w A l.length l) (hc : l.length ≤ c) (hl5 : ∀ h ∈ l, h.f5.length ≤ 4194304)
    (hC5 : Kd.C k77 w A5 h.f5.length h.f5) (hc5 : h.f5.length ≤ c5) (hm5 : h.f5.length ≤ 4194304) :
    Calls Try.prog 37 #[.slice A l.length c, vHost h A5 c5] w fun e w' => ∃ v, e = .returned (.tuple #[v, .int .i64 (raddCode l h)]) ∧ New k34 34 w w' v (raddList l h) ∧ Ext w w' := by
  have hu34 := Try.underlying34
  have hm := len_max hC
  have HC := Lib.hid hC
  have HC5 := Lib.hid hC5
  clear hC hC5
  have hx0 := Lib.hid (ext_alloc w (.cells #[.int .i64 h.f0, .string h.f1, .int .i64 h.f2, .string h.f3, .int .i64 h.f4, .slice A5 h.f5.length c5] 34))
  have hbx := Lib.hid (show Box34 (w.alloc (.cells #[.int .i64 h.f0, .string h.f1, .int .i64 h.f2, .string h.f3, .int .i64 h.f4, .slice A5 h.f5.length c5] 34)) w.heap.size h A5 c5 from heap_alloc_new w _)
  unfold vHost
  cases h1 : tableMay l
  · have hr : Hid (raddCode l h = 1) := by show _ = _; simp [raddCode, h1]
    have hr2 : Hid (raddList l h = []) := by show _ = _; unfold raddList; rw [hr.out]; rfl
    go_enter Try.func37, Try.ntmps37
    go_wp2_with fail
    refine (rmayTable_any A c l _ (Kd.C_below HC.out hx0.out) hc).mono ?_
    rintro e w1 ⟨rfl, hb1⟩
    rw [h1]
    go_wp2
    go_ret2
    exact ⟨_, by rw [hr.out]; rfl, by rw [hr2.out]; exact Kd.R_nil _ _ _ _ _, Ext.tr hx0.out hb1⟩
  have hl64 : l.length ≤ 64 := by
    simp only [tableMay, Bool.and_eq_true, decide_eq_true_eq] at h1
    exact h1.1.1
  cases h2 : hostMay h
  · have hr : Hid (raddCode l h = 1) := by show _ = _; simp [raddCode, h1, h2]
    have hr2 : Hid (raddList l h = []) := by show _ = _; unfold raddList; rw [hr.out]; rfl
    go_enter Try.func37, Try.ntmps37
    go_wp2_with fail
    refine (rmayTable_any A c l _ (Kd.C_below HC.out hx0.out) hc).mono ?_
    rintro e w1 ⟨rfl, hb1⟩
    rw [h1]
    obtain ⟨q0, q1, q2, q3, q4, q5⟩ := Box34.cells (Box34.ext hbx.out hb1)
    go_wp2_with fail
    refine (rhostMay_any h A5 c5 w1 (Kd.C_below HC5.out (Ext.tr hx0.out hb1)) hc5).mono ?_
    rintro e w2 ⟨rfl, hb2⟩
    rw [h2]
    go_wp2
    go_ret2
    exact ⟨_, by rw [hr.out]; rfl, by rw [hr2.out]; exact Kd.R_nil _ _ _ _ _, Ext.tr hx0.out (Ext.tr hb1 hb2)⟩
  have hF0 : findI l h.f0 = idxF (fun x => x.f0 == h.f0) l := rfl
  obtain ⟨F, hF⟩ : ∃ F, F = findI l h.f0 := ⟨_, rfl⟩
  by_cases h3 : 0 ≤ F
  · have hr : Hid (raddCode l h = 3) := by show _ = _; simp [raddCode, h1, h2, ← hF, h3]
    have hr2 : Hid (raddList l h = []) := by show _ = _; unfold raddList; rw [hr.out]; rfl
    have HF := Lib.hid (hF.trans hF0)
    clear hF hF0
    go_enter Try.func37, Try.ntmps37
    go_wp2_with fail
    refine (rmayTable_any A c l _ (Kd.C_below HC.out hx0.out) hc).mono ?_
    rintro e w1 ⟨rfl, hb1⟩
    rw [h1]
    obtain ⟨q0, q1, q2, q3, q4, q5⟩ := Box34.cells (Box34.ext hbx.out hb1)
    go_wp2_with fail
    refine (rhostMay_any h A5 c5 w1 (Kd.C_below HC5.out (Ext.tr hx0.out hb1)) hc5).mono ?_
    rintro e w2 ⟨rfl, hb2⟩
    rw [h2]
    have hX2 := Lib.hid (Ext.tr hx0.out (Ext.tr hb1 hb2))
    clear q0 q1 q2 q3 q4 q5
    obtain ⟨q0, q1, q2, q3, q4, q5⟩ := Box34.cells (Box34.ext (Box34.ext hbx.out hb1) hb2)
    go_wp2_with fail
    refine (rfind_any A c l h.f0 w2 (Kd.C_below HC.out hX2.out) hc).mono ?_
    rintro e w3 ⟨he, hb3⟩
    have he2 := he.trans (show _ = Ending.returned (.int .i64 F) by rw [HF.out])
    clear he
    subst he2
    go_wp2
    go_ret2
    exact ⟨_, by rw [hr.out]; rfl, by rw [hr2.out]; exact Kd.R_nil _ _ _ _ _, Ext.tr hX2.out hb3⟩
  by_cases h4 : 64 ≤ l.length
  · have hr : Hid (raddCode l h = 6) := by show _ = _; simp [raddCode, h1, h2, ← hF, h3, h4]
    have hr2 : Hid (raddList l h = []) := by show _ = _; unfold raddList; rw [hr.out]; rfl
    have HF := Lib.hid (hF.trans hF0)
    have h3' : F < 0 := by omega
    clear hF hF0 h3
    go_enter Try.func37, Try.ntmps37
    go_wp2_with fail
    refine (rmayTable_any A c l _ (Kd.C_below HC.out hx0.out) hc).mono ?_
    rintro e w1 ⟨rfl, hb1⟩
    rw [h1]
    obtain ⟨q0, q1, q2, q3, q4, q5⟩ := Box34.cells (Box34.ext hbx.out hb1)
    go_wp2_with fail
    refine (rhostMay_any h A5 c5 w1 (Kd.C_below HC5.out (Ext.tr hx0.out hb1)) hc5).mono ?_
    rintro e w2 ⟨rfl, hb2⟩
    rw [h2]
    have hX2 := Lib.hid (Ext.tr hx0.out (Ext.tr hb1 hb2))
    clear q0 q1 q2 q3 q4 q5
    obtain ⟨q0, q1, q2, q3, q4, q5⟩ := Box34.cells (Box34.ext (Box34.ext hbx.out hb1) hb2)
    go_wp2_with fail
    refine (rfind_any A c l h.f0 w2 (Kd.C_below HC.out hX2.out) hc).mono ?_
    rintro e w3 ⟨he, hb3⟩
    have he2 := he.trans (show _ = Ending.returned (.int .i64 F) by rw [HF.out])
    clear he
    subst he2
    go_wp2
    go_ret2
    exact ⟨_, by rw [hr.out]; rfl, by rw [hr2.out]; exact Kd.R_nil _ _ _ _ _, Ext.tr hX2.out hb3⟩
  have hr : Hid (raddCode l h = 0) := by show _ = _; simp [raddCode, h1, h2, ← hF, h3, h4]
  have hr2 : Hid (raddList l h = insList l h) := by show _ = _; unfold raddList; rw [hr.out]; rfl
  have HF := Lib.hid (hF.trans hF0)
  have h3' : F < 0 := by omega
  have h4' : l.length < 64 := by omega
  clear hF hF0 h3 h4
  have hp := insP_le l h.f0
  go_enter Try.func37, Try.ntmps37
  go_wp2_with fail
  refine (rmayTable_any A c l _ (Kd.C_below HC.out hx0.out) hc).mono ?_
  rintro e w1 ⟨rfl, hb1⟩
  rw [h1]
  obtain ⟨q0, q1, q2, q3, q4, q5⟩ := Box34.cells (Box34.ext hbx.out hb1)
  go_wp2_with fail
  refine (rhostMay_any h A5 c5 w1 (Kd.C_below HC5.out (Ext.tr hx0.out hb1)) hc5).mono ?_
  rintro e w2 ⟨rfl, hb2⟩
  rw [h2]
  have hX2 := Lib.hid (Ext.tr hx0.out (Ext.tr hb1 hb2))
  clear q0 q1 q2 q3 q4 q5
  obtain ⟨q0, q1, q2, q3, q4, q5⟩ := Box34.cells (Box34.ext (Box34.ext hbx.out hb1) hb2)
  go_wp2_with fail
  refine (rfind_any A c l h.f0 w2 (Kd.C_below HC.out hX2.out) hc).mono ?_
  rintro e w3 ⟨he, hb3⟩
  have he2 := he.trans (show _ = Ending.returned (.int .i64 F) by rw [HF.out])
  clear he
  subst he2
  have hX3 := Lib.hid (Ext.tr hX2.out hb3)
  have hB3 := Lib.hid (Box34.ext (Box34.ext (Box34.ext hbx.out hb1) hb2) hb3)
  clear q0 q1 q2 q3 q4 q5 hb1 hb2 hb3
  go_wp2
  go_loopw [6, 7, 31] (fun v d i wr => ∃ k : Nat, k ≤ l.length ∧ i = .int .i64 k ∧ d = .bool (decide (insP l h.f0 < k)) ∧ Hid (New k34 34 w3 wr v (stI l h k)) ∧ Ext w3 wr) (fun _ _ i _ => l.length - (intOf i).toNat)
  case atStart => exact ⟨0, Nat.zero_le _, rfl, rfl, Kd.R_nil _ _ _ _ _, Below.refl _ _⟩
  case round =>
    obtain ⟨k, hk, rfl, rfl, hR, hb⟩ := hrel
    by_cases hlt : k < l.length
    · have hE := Lib.hid (Ext.tr hX3.out hb)
      obtain ⟨ad, A6, c6, rfl, y0, y1, y2, y3, y4, y5, hl6, HC6w⟩ := C34 HC.out hlt
      have x0 := (hE.out.cell (World.block_lt_of_cell? w _ y0)).trans y0
      have x1 := (hE.out.cell (World.block_lt_of_cell? w _ y1)).trans y1
      have x2 := (hE.out.cell (World.block_lt_of_cell? w _ y2)).trans y2
      have x3 := (hE.out.cell (World.block_lt_of_cell? w _ y3)).trans y3
      have x4 := (hE.out.cell (World.block_lt_of_cell? w _ y4)).trans y4
      have x5 := (hE.out.cell (World.block_lt_of_cell? w _ y5)).trans y5
      have HC6 : Hid (Kd.C k77 wr A6 l[k].f5.length l[k].f5) := Kd.C_below HC6w.out hE.out
      clear y0 y1 y2 y3 y4 y5
      have hm6 := hl5 l[k] (List.getElem_mem hlt)
      have hsl := stI_len l h k hk
      obtain ⟨al, hal⟩ : ∃ al : Obj, al = .cells #[.int .i64 l[k].f0, .string l[k].f1, .int .i64 l[k].f2, .string l[k].f3, .int .i64 l[k].f4, .slice A6 l[k].f5.length c6] 34 := ⟨_, rfl⟩
      have hR1 : Hid (New k34 34 w3 (wr.alloc al) u6 (stI l h k)) := Kd.R_alloc hR.out _
      have hb1 : Hid (Ext w3 (wr.alloc al)) := Ext.tr hb (ext_alloc _ _)
      have hB4 : Hid (Box34 (wr.alloc al) w.heap.size h A5 c5) := Box34.ext (Box34.ext hB3.out hb) (ext_alloc _ _)
      have hlt6 : Hid (∀ j, u6.ownBlock = some j → j < wr.heap.size) := Kd.R_lt hR.out
      obtain ⟨q0, q1, q2, q3, q4, q5⟩ := hB4.out.cells
      rcases Nat.lt_trichotomy k (insP l h.f0) with hkp | hkp | hkp
      · have hle := insP_below l h.f0 k hlt hkp
        have d0 : decide (insP l h.f0 < k) = false := decide_eq_false (by omega)
        have hs := Lib.hid (stI_one hlt hkp)
        subst hal
        rw [d0]
        go_wp2_with fail
        refine (rcopy_any l[k] A6 c6 _ (Kd.C_below HC6.out (ext_alloc _ _)) hl6 hm6).mono ?_
        rintro e w4 ⟨v, rfl, hN, hb2⟩
        have hR2 := Kd.R_below hR1.out hb2
        have hM := Lib.hid (hostMem (base := w3.heap.size) hN hb1.out.size)
        have hap := Lib.hid (apart_of hR1.out (Nat.le_refl _))
        have HR2 := Lib.hid hR2
        have HB3 := Lib.hid (Ext.tr hb1.out hb2)
        obtain ⟨A', c', rfl, hlc, _⟩ := Kd.R_reads hN
        clear hN hR2 hb2 x0 x1 x2 x3 x4 x5
        unfold nHost
        go_wp2_with (at_builtin; refine Kd.R_append (w0 := w3) k34 w3.heap.size rfl _ _ _ 34 _ 80 rfl Try.underlying22 info34 rfl (by decide) (by decide) u6 (stI l h k) l[k] [.int .i64 l[k].f0, .string l[k].f1, .int .i64 l[k].f2, .string l[k].f3, .int .i64 l[k].f4, .slice A' l[k].f5.length c'] (fun _ => True) _ rfl (by simp [Act.eval]) hM.out hap.out (fun _ _ => trivial) HR2.out HB3.out HB3.out.size (by omega) ?_; intro v1 w5 hR3 hb4 hg hat; have HR3 := Lib.hid hR3; have HB4 := Lib.hid hb4; clear hR3 hb4 hg hat)
        go_roundw
        case rel => exact ⟨k + 1, by omega, by go_num, by rw [decide_eq_false (by omega)], by show New _ _ _ _ _ _; rw [hs.out]; exact HR3.out, HB4.out⟩
        case measure => simp [intOf]; omega
      · have hgt : h.f0 < l[k].f0 := by
          have := insP_at l h.f0 (by omega)
          simpa only [← hkp] using this
        have d0 : decide (insP l h.f0 < k) = false := decide_eq_false (by omega)
        have hs := Lib.hid (stI_two hlt hkp)
        have hdn : decide (insP l h.f0 < k + 1) = true := decide_eq_true (by omega)
        clear hkp
        have hbk : Hid (Blk34 (wr.alloc al) wr.heap.size #[.int .i64 l[k].f0, .string l[k].f1, .int .i64 l[k].f2, .string l[k].f3, .int .i64 l[k].f4, .slice A6 l[k].f5.length c6]) := by rw [hal]; exact heap_alloc_new wr _
        have hsz : (wr.alloc al).heap.size = wr.heap.size + 1 := by simp
        have HSZ := Lib.hid hsz
        clear hsz
        subst hal
        rw [d0]
        go_wp2_with fail
        refine (rcopy_any h A5 c5 _ (Kd.C_below HC5.out (Ext.tr hX3.out hb1.out)) hc5 hm5).mono ?_
        rintro e w4 ⟨v, rfl, hN, hb2⟩
        have hR2 := Kd.R_below hR1.out hb2
        have hM := Lib.hid (hostMem (base := w3.heap.size) hN hb1.out.size)
        have hap := Lib.hid (apart_of hR1.out (Nat.le_refl _))
        have HR2 := Lib.hid hR2
        have HB3 := Lib.hid (Ext.tr hb1.out hb2)
        have hbk4 : Hid (Blk34 w4 wr.heap.size _) := (hb2.block wr.heap.size (by rw [HSZ.out]; omega)).trans hbk.out
        have hX4 := Lib.hid hb2
        obtain ⟨A', c', rfl, hlc, _⟩ := Kd.R_reads hN
        clear hN hR2 hb2 x0 x1 x2 x3 x4 x5
        unfold nHost
        go_wp2_with (at_builtin; refine Kd.R_append (w0 := w3) k34 w3.heap.size rfl _ _ _ 34 _ 80 rfl Try.underlying22 info34 rfl (by decide) (by decide) u6 (stI l h k) h [.int .i64 h.f0, .string h.f1, .int .i64 h.f2, .string h.f3, .int .i64 h.f4, .slice A' h.f5.length c'] (fun _ => True) _ rfl (by simp [Act.eval]) hM.out hap.out (fun _ _ => trivial) HR2.out HB3.out HB3.out.size (by omega) ?_; intro v1 w5 hR3 hb4 hg hat; have HR3 := Lib.hid hR3; have HB4 := Lib.hid hb4; have hsl1 : (stI l h k ++ [h]).length ≤ 70 := (by simp; omega); have r0 := Blk34.cells (hbk4.out.grown hg (fun e => by have := hlt6.out _ e.symm; omega)); have HSL1 := Lib.hid hsl1; clear hR3 hb4 hg hat hsl1; obtain ⟨r0, r1, r2, r3, r4, r5⟩ := r0)
        have HC62 : Hid (Kd.C k77 w5 A6 l[k].f5.length l[k].f5) := Kd.C_below HC6w.out (Ext.tr hX3.out HB4.out)
        refine (rcopy_any l[k] A6 c6 _ HC62.out hl6 hm6).mono ?_
        rintro e w6 ⟨v2, rfl, hN, hb5⟩
        have hR4 := Kd.R_below HR3.out hb5
        have hM2 := Lib.hid (hostMem (base := w3.heap.size) hN HB4.out.size)
        have hap2 := Lib.hid (apart_of HR3.out (Nat.le_refl _))
        have HR4 := Lib.hid hR4
        have HB5 := Lib.hid (Ext.tr HB4.out hb5)
        obtain ⟨A'', c'', rfl, hlc2, _⟩ := Kd.R_reads hN
        clear hN hR4 hb5
        unfold nHost
        go_wp2_with (at_builtin; refine Kd.R_append (w0 := w3) k34 w3.heap.size rfl _ _ _ 34 _ 80 rfl Try.underlying22 info34 rfl (by decide) (by decide) v1 (stI l h k ++ [h]) l[k] [.int .i64 l[k].f0, .string l[k].f1, .int .i64 l[k].f2, .string l[k].f3, .int .i64 l[k].f4, .slice A'' l[k].f5.length c''] (fun _ => True) _ rfl (by simp [Act.eval]) hM2.out hap2.out (fun _ _ => trivial) HR4.out HB5.out HB5.out.size (by have := HSL1.out; omega) ?_; intro v3 w7 hR6 hb7 hg hat; have HR6 := Lib.hid hR6; have HB7 := Lib.hid hb7; clear hR6 hb7 hg hat)
        go_roundw
        case rel => exact ⟨k + 1, by omega, by go_num, by rw [hdn], by show New _ _ _ _ _ _; rw [hs.out]; exact HR6.out, HB7.out⟩
        case measure => simp [intOf]; omega
      · have d0 : decide (insP l h.f0 < k) = true := decide_eq_true hkp
        have hs := Lib.hid (stI_more hlt hkp)
        subst hal
        rw [d0]
        go_wp2_with fail
        refine (rcopy_any l[k] A6 c6 _ (Kd.C_below HC6.out (ext_alloc _ _)) hl6 hm6).mono ?_
        rintro e w4 ⟨v, rfl, hN, hb2⟩
        have hR2 := Kd.R_below hR1.out hb2
        have hM := Lib.hid (hostMem (base := w3.heap.size) hN hb1.out.size)
        have hap := Lib.hid (apart_of hR1.out (Nat.le_refl _))
        have HR2 := Lib.hid hR2
        have HB3 := Lib.hid (Ext.tr hb1.out hb2)
        obtain ⟨A', c', rfl, hlc, _⟩ := Kd.R_reads hN
        clear hN hR2 hb2 x0 x1 x2 x3 x4 x5
        unfold nHost
        go_wp2_with (at_builtin; refine Kd.R_append (w0 := w3) k34 w3.heap.size rfl _ _ _ 34 _ 80 rfl Try.underlying22 info34 rfl (by decide) (by decide) u6 (stI l h k) l[k] [.int .i64 l[k].f0, .string l[k].f1, .int .i64 l[k].f2, .string l[k].f3, .int .i64 l[k].f4, .slice A' l[k].f5.length c'] (fun _ => True) _ rfl (by simp [Act.eval]) hM.out hap.out (fun _ _ => trivial) HR2.out HB3.out HB3.out.size (by omega) ?_; intro v1 w5 hR3 hb4 hg hat; have HR3 := Lib.hid hR3; have HB4 := Lib.hid hb4; clear hR3 hb4 hg hat)
        go_roundw
        case rel => exact ⟨k + 1, by omega, by go_num, by rw [decide_eq_true (by omega)], by show New _ _ _ _ _ _; rw [hs.out]; exact HR3.out, HB4.out⟩
        case measure => simp [intOf]; omega
    · obtain rfl : k = l.length := by omega
      have hB4 : Hid (Box34 wr w.heap.size h A5 c5) := Box34.ext hB3.out hb
      have hsl := stI_len l h l.length hk
      have hw3 := hX3.out.size
      by_cases hpl : insP l h.f0 = l.length
      · have d0 : decide (insP l h.f0 < l.length) = false := decide_eq_false (by omega)
        have hs := Lib.hid (stI_end' hpl)
        obtain ⟨q0, q1, q2, q3, q4, q5⟩ := hB4.out.cells
        rw [d0]
        go_wp2_with fail
        refine (rcopy_any h A5 c5 _ (Kd.C_below HC5.out (Ext.tr hX3.out hb)) hc5 hm5).mono ?_
        rintro e w4 ⟨v, rfl, hN, hb2⟩
        have hR2 := Kd.R_below hR.out hb2
        have hM := Lib.hid (hostMem (base := w3.heap.size) hN hb.size)
        have hap := Lib.hid (apart_of hR.out (Nat.le_refl _))
        have HR2 := Lib.hid hR2
        have HB3 := Lib.hid (Ext.tr hb hb2)
        obtain ⟨A', c', rfl, hlc, _⟩ := Kd.R_reads hN
        clear hN hR2 hb2
        unfold nHost
        go_wp2_with (at_builtin; refine Kd.R_append (w0 := w3) k34 w3.heap.size rfl _ _ _ 34 _ 80 rfl Try.underlying22 info34 rfl (by decide) (by decide) u6 (stI l h l.length) h [.int .i64 h.f0, .string h.f1, .int .i64 h.f2, .string h.f3, .int .i64 h.f4, .slice A' h.f5.length c'] (fun _ => True) _ rfl (by simp [Act.eval]) hM.out hap.out (fun _ _ => trivial) HR2.out HB3.out HB3.out.size (by omega) ?_; intro v1 w5 hR3 hb4 hg hat; have HR3 := Lib.hid hR3; have HB4 := Lib.hid hb4; clear hR3 hb4 hg hat)
        go_ret2
        exact ⟨_, by rw [hr.out]; rfl, by rw [hr2.out, ← hs.out]; exact Kd.R_lower HR3.out hw3, Ext.tr hX3.out HB4.out⟩
      · have d0 : decide (insP l h.f0 < l.length) = true := decide_eq_true (by omega)
        have hs := Lib.hid (stI_end (l := l) (h := h) (by omega))
        rw [d0]
        go_wp2
        go_ret2
        exact ⟨_, by rw [hr.out]; rfl, by rw [hr2.out, ← hs.out]; exact Kd.R_lower hR.out hw3, Ext.tr hX3.out hb⟩
end Go.Proofs.Ythfolhgaecfogaa
