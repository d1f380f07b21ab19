import Derived.Test.YthfolhgaecfogaaT6
set_option linter.unusedVariables false
set_option linter.unusedSimpArgs false
namespace Go.Proofs.Ythfolhgaecfogaa
open Go.RowKit Go.Proofs.YthfolhgaecfogaaW.PrintWords Go.Proofs.YthfolhgaecfogaaW.PrintLast Go.Proofs.YthfolhgaecfogaaW.PrintMore
def riseAt (l : List S34) (i : Nat) : Bool := decide ((l.getD i z34).f0 < (l.getD (i + 1) z34).f0)
def risesB (l : List S34) : Bool := (List.range (l.length - 1)).all (riseAt l)
theorem riseAt_of (l : List S34) (j : Nat) (h : j + 1 < l.length) : riseAt l j = decide (l[j].f0 < l[j + 1].f0) := by
  unfold riseAt
  rw [List.getD_eq_getElem?_getD, List.getD_eq_getElem?_getD, List.getElem?_eq_getElem h, List.getElem?_eq_getElem (show j < l.length by omega)]; rfl
theorem range_step {f : Nat → Bool} {j : Nat} (h0 : (List.range j).all f = true) (h1 : f j = true) : (List.range (j + 1)).all f = true := by
  rw [List.range_succ, List.all_append, h0]; simp [h1]
theorem range_stop {f : Nat → Bool} {j n : Nat} (h : j < n) (h1 : f j = false) : (List.range n).all f = false := by
  rw [List.all_eq_false]; exact ⟨j, by simpa using h, by simp [h1]⟩
theorem range_done {f : Nat → Bool} {j n : Nat} (h : n ≤ j) (h0 : (List.range j).all f = true) : (List.range n).all f = true := by
  rw [List.all_eq_true] at h0 ⊢; exact fun x hx => h0 x (by simp at hx ⊢; omega)
theorem all_snoc {α : Type} {p : α → Bool} {l : List α} {k : Nat} (h : k < l.length) (h0 : (l.take k).all p = true) (h1 : p l[k] = true) : (l.take (k + 1)).all p = true := by
  rw [List.take_succ_eq_append_getElem h, List.all_append, h0]; simp [h1]
def tableMay (l : List S34) : Bool := decide (l.length ≤ 64) && risesB l && l.all hostMay
theorem tableMay_no1 {l : List S34} {k : Nat} (h : k < l.length) (hp : hostMay l[k] = false) : tableMay l = false := by
  have : l.all hostMay = false := List.all_eq_false.2 ⟨l[k], List.getElem_mem h, by simp [hp]⟩
  simp [tableMay, this]
theorem tableMay_no2 {l : List S34} {j : Nat} (h : j + 1 < l.length) (hp : l[j + 1].f0 ≤ l[j].f0) : tableMay l = false := by
  have : risesB l = false := range_stop (j := j) (by omega) (by rw [riseAt_of l j h]; simpa using hp)
  simp [tableMay, this]
theorem q15 (h : S34) (A : Option Addr) (c : Nat) (W : World) (hC : Kd.C k77 W A h.f5.length h.f5) (hc : h.f5.length ≤ c) (d : Nat) (os : Array Obj) :
    Calls Try.prog 15 #[.agg #[.int .i64 h.f0, .string h.f1, .int .i64 h.f2, .string h.f3, .int .i64 h.f4, .slice A h.f5.length c]] (Go.Sort.grow (redrawn W d) os) fun e w'' => e = .returned (.bool (hostMay h)) ∧ ∃ p : Regrown, w'' = Go.Sort.grow (redrawn W p.d) p.os :=
  Calls.regrown_of (rhostMay_any h A c _ (Kd.C_below hC (below_regrown _ _ _)) hc)
set_option maxRecDepth 100000 in
set_option maxHeartbeats 1000000 in
theorem rmayTable_any (A : Option Addr) (c : Nat) (l : List S34) (w : World) (hC : Kd.C k34 w A l.length l) (hc : l.length ≤ c) :
    Calls Try.prog 11 #[.slice A l.length c] w fun e w' => e = .returned (.bool (tableMay l)) ∧ Ext w w' := by
  have hu34 := Try.underlying34
  have hm := len_max hC
  have HC := Lib.hid hC
  clear hC
  go_enter Try.func11, Try.ntmps11
  go_wp2
  go_loopw [7] (fun i wr => ∃ k : Nat, k ≤ l.length ∧ i = .int .i64 k ∧ Hid ((l.take k).all hostMay = true ∧ (List.range (k - 1)).all (riseAt l) = true) ∧ Ext w wr) (fun i _ => l.length - (intOf i).toNat)
  case atStart => exact ⟨0, Nat.zero_le _, rfl, ⟨rfl, rfl⟩, Below.refl _ _⟩
  case round =>
    obtain ⟨k, hk, rfl, hg, hb⟩ := hrel
    by_cases hlt : k < l.length
    · obtain ⟨ad, A5, c5, rfl, h0, h1, h2, h3, h4, h5, hl5, HC5⟩ := C34 (Kd.C_below HC.out hb) hlt
      have hB0 : Box34 (wr.alloc (.cells #[.int .i64 l[k].f0, .string l[k].f1, .int .i64 l[k].f2, .string l[k].f3, .int .i64 l[k].f4, .slice A5 l[k].f5.length c5] 34)) wr.heap.size l[k] A5 c5 := heap_alloc_new wr _
      have hX : Hid (Ext w (wr.alloc (.cells #[.int .i64 l[k].f0, .string l[k].f1, .int .i64 l[k].f2, .string l[k].f3, .int .i64 l[k].f4, .slice A5 l[k].f5.length c5] 34))) := Ext.tr hb (ext_alloc _ _)
      have hC5 : Hid (k77.C (wr.alloc (.cells #[.int .i64 l[k].f0, .string l[k].f1, .int .i64 l[k].f2, .string l[k].f3, .int .i64 l[k].f4, .slice A5 l[k].f5.length c5] 34)) A5 l[k].f5.length l[k].f5) := Kd.C_below HC5.out (ext_alloc _ _)
      have hC34 : Hid (k34.C (wr.alloc (.cells #[.int .i64 l[k].f0, .string l[k].f1, .int .i64 l[k].f2, .string l[k].f3, .int .i64 l[k].f4, .slice A5 l[k].f5.length c5] 34)) (some ad) l.length l) := Kd.C_below HC.out hX.out
      obtain ⟨x0, x1, x2, x3, x4, x5⟩ := hB0.cells
      have y0 := fun d os => cell_regrown x0 d os
      have y1 := fun d os => cell_regrown x1 d os
      have y2 := fun d os => cell_regrown x2 d os
      have y3 := fun d os => cell_regrown x3 d os
      have y4 := fun d os => cell_regrown x4 d os
      have y5 := fun d os => cell_regrown x5 d os
      clear x0 x1 x2 x3 x4 x5 hB0
      cases hp : hostMay l[k]
      · have hl := Lib.hid (tableMay_no1 hlt hp)
        go_wp2
        refine wp_region_quiet_below (by kernel_rfl) (by kernel_rfl) ?_
        repeat (go_big_quiet_step ((go_at_call 15; exact q15 l[k] A5 c5 _ hC5.out hl5 _ _)))
        refine wpQuiet_nil ?_
        intro _ hw'
        obtain ⟨⟨dq, osq⟩, hw''⟩ := hw'
        subst hw''
        have hz := Lib.hid (Ext.tr hX.out (below_regrown _ dq osq))
        go_wp2
        go_ret
        exact ⟨by rw [hl.out]; rfl, hz.out⟩
      · by_cases hk0 : k = 0
        · have hr : Hid ((l.take (k + 1)).all hostMay = true ∧ (List.range (k + 1 - 1)).all (riseAt l) = true) := ⟨all_snoc hlt hg.out.1 hp, by subst hk0; rfl⟩
          have hz0 : decide (0 < k) = false := decide_eq_false (by omega)
          clear hk0
          go_wp2
          refine wp_region_quiet_below (by kernel_rfl) (by kernel_rfl) ?_
          repeat (go_big_quiet_step ((go_at_call 15; exact q15 l[k] A5 c5 _ hC5.out hl5 _ _)))
          refine wpQuiet_nil ?_
          intro _ hw'
          obtain ⟨⟨dq, osq⟩, hw''⟩ := hw'
          subst hw''
          have hz := Lib.hid (Ext.tr hX.out (below_regrown _ dq osq))
          go_wp2
          go_roundw
          case rel => exact ⟨k + 1, by omega, by go_num, hr, hz.out⟩
          case measure => simp [intOf]; omega
        obtain ⟨j, rfl⟩ : ∃ j, k = j + 1 := ⟨k - 1, by omega⟩
        clear hk0
        obtain ⟨ad', A6, c6, e6, z0, -, -, -, -, -, -, -⟩ := C34 hC34.out (k := j) (by omega)
        cases e6
        have y6 := fun d os => cell_regrown z0 d os
        clear z0
        have hgt : (0 : Int) < (j : Int) + 1 := by omega
        by_cases hle : l[j + 1].f0 ≤ l[j].f0
        · have hl := Lib.hid (tableMay_no2 hlt hle)
          go_wp2
          refine wp_region_quiet_below (by kernel_rfl) (by kernel_rfl) ?_
          repeat (go_big_quiet_step ((go_at_call 15; exact q15 l[j + 1] A5 c5 _ hC5.out hl5 _ _)))
          refine wpQuiet_nil ?_
          intro _ hw'
          obtain ⟨⟨dq, osq⟩, hw''⟩ := hw'
          subst hw''
          have hz := Lib.hid (Ext.tr hX.out (below_regrown _ dq osq))
          go_wp2
          go_ret
          exact ⟨by rw [hl.out]; rfl, hz.out⟩
        · have hr : Hid ((l.take (j + 1 + 1)).all hostMay = true ∧ (List.range (j + 1 + 1 - 1)).all (riseAt l) = true) := ⟨all_snoc hlt hg.out.1 hp, range_step hg.out.2 (by rw [riseAt_of l j hlt]; simpa using hle)⟩
          go_wp2
          refine wp_region_quiet_below (by kernel_rfl) (by kernel_rfl) ?_
          repeat (go_big_quiet_step ((go_at_call 15; exact q15 l[j + 1] A5 c5 _ hC5.out hl5 _ _)))
          refine wpQuiet_nil ?_
          intro _ hw'
          obtain ⟨⟨dq, osq⟩, hw''⟩ := hw'
          subst hw''
          have hz := Lib.hid (Ext.tr hX.out (below_regrown _ dq osq))
          go_wp2
          go_roundw
          case rel => exact ⟨j + 1 + 1, by omega, by go_num, hr, hz.out⟩
          case measure => simp [intOf]; omega
    · have hr : Hid (tableMay l = decide (l.length ≤ 64)) := by
        show _ = _
        have e : l.take k = l := List.take_of_length_le (by omega)
        obtain ⟨e2, e3⟩ := hg.out
        rw [e] at e2
        have e4 : risesB l = true := range_done (by omega) e3
        simp [tableMay, e2, e4]
      go_wp2
      go_ret
      exact ⟨by rw [hr.out]; simp; omega, hb⟩
end Go.Proofs.Ythfolhgaecfogaa
