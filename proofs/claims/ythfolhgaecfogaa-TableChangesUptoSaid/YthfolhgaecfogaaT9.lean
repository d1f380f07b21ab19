import Derived.Test.YthfolhgaecfogaaT8
set_option linter.unusedVariables false
set_option linter.unusedSimpArgs false
namespace Go.Proofs.Ythfolhgaecfogaa
open Go.RowKit Go.Proofs.YthfolhgaecfogaaW.PrintWords Go.Proofs.YthfolhgaecfogaaW.PrintLast Go.Proofs.YthfolhgaecfogaaW.PrintMore
theorem C82 {w : World} {A : Option Addr} {l : List S82} (h : Kd.C k82 w A l.length l) {k : Nat} (hk : k < l.length) :
    ∃ ad, A = some ad ∧ w.cell? (ad.add (k * 2)) = some (.int .i64 l[k].f0) ∧ w.cell? ⟨(ad.add (k * 2)).block, (ad.add (k * 2)).off + 1, none⟩ = some (.int .i64 l[k].f1) := by
  have e : rd_T82 l (k : Int) = l[k] := by
    unfold rd_T82; rw [Int.toNat_natCast, List.getD_eq_getElem?_getD, List.getElem?_eq_getElem hk]; rfl
  obtain ⟨ad, e1, h0, h1⟩ := at_T82 h (k : Int) (by omega) (by omega)
  rw [e, Int.toNat_natCast] at h0 h1
  exact ⟨ad, e1, h0, h1⟩
def lessK (a b : S82) : Bool := decide (a.f0 < b.f0) || (a.f0 == b.f0 && decide (a.f1 < b.f1))
set_option maxHeartbeats 400000 in
theorem less_any (a b : S82) (w : World) :
    Calls Try.prog 70 #[.agg #[.int .i64 a.f0, .int .i64 a.f1], .agg #[.int .i64 b.f0, .int .i64 b.f1]] w fun e w' => e = .returned (.bool (lessK a b)) ∧ Ext w w' := by
  have hu := Try.underlying82
  by_cases h1 : a.f0 < b.f0
  · have hr : Hid (lessK a b = true) := by show _ = _; simp [lessK, h1]
    go_enter Try.func70, Try.ntmps70
    go_wp2
    go_ret
    exact ⟨by rw [hr.out]; rfl, Ext.tr (ext_alloc w _) (ext_alloc _ _)⟩
  have hd : decide (a.f0 < b.f0) = false := decide_eq_false h1
  cases h2 : a.f0 == b.f0
  · have hr : Hid (lessK a b = false) := by show _ = _; simp [lessK, h1, h2]
    clear h1
    go_enter Try.func70, Try.ntmps70
    go_wp2
    go_ret
    exact ⟨by rw [hr.out]; rfl, Ext.tr (ext_alloc w _) (ext_alloc _ _)⟩
  · have hr : Hid (lessK a b = decide (a.f1 < b.f1)) := by show _ = _; simp [lessK, h1, h2]
    clear h1
    go_enter Try.func70, Try.ntmps70
    go_wp2
    go_ret
    exact ⟨by rw [hr.out]; rfl, Ext.tr (ext_alloc w _) (ext_alloc _ _)⟩
theorem q70 (a b : S82) (W : World) (d : Nat) (os : Array Obj) :
    Calls Try.prog 70 #[.agg #[.int .i64 a.f0, .int .i64 a.f1], .agg #[.int .i64 b.f0, .int .i64 b.f1]] (Go.Sort.grow (redrawn W d) os) fun e w'' => e = .returned (.bool (lessK a b)) ∧ ∃ p : Regrown, w'' = Go.Sort.grow (redrawn W p.d) p.os :=
  Calls.regrown_of (less_any a b _)
def kUpAt (l : List S82) (i : Nat) : Bool := lessK (l.getD i z82) (l.getD (i + 1) z82)
def kRises (l : List S82) : Bool := (List.range (l.length - 1)).all (kUpAt l)
theorem kUpAt_of (l : List S82) (j : Nat) (h : j + 1 < l.length) : kUpAt l j = lessK l[j] l[j + 1] := by
  unfold kUpAt
  rw [List.getD_eq_getElem?_getD, List.getD_eq_getElem?_getD, List.getElem?_eq_getElem h, List.getElem?_eq_getElem (show j < l.length by omega)]; rfl
set_option maxRecDepth 100000 in
set_option maxHeartbeats 1000000 in
theorem rising_any (A : Option Addr) (c : Nat) (l : List S82) (w : World) (hC : Kd.C k82 w A l.length l) (hc : l.length ≤ c) :
    Calls Try.prog 52 #[.slice A l.length c] w fun e w' => e = .returned (.bool (kRises l)) ∧ Ext w w' := by
  have hu := Try.underlying82
  have hm := len_max hC
  have HC := Lib.hid hC
  clear hC
  go_enter Try.func52, Try.ntmps52
  go_wp2
  go_loopw [3] (fun i wr => ∃ j : Nat, (j = 0 ∨ j + 1 ≤ l.length) ∧ i = .int .i64 ((j : Int) + 1) ∧ Hid ((List.range j).all (kUpAt l) = true) ∧ Ext w wr) (fun i _ => l.length + 1 - (intOf i).toNat)
  case atStart => exact ⟨0, .inl rfl, rfl, rfl, Below.refl _ _⟩
  case round =>
    obtain ⟨j, hj, rfl, hg, hb⟩ := hrel
    by_cases hlt : j + 1 < l.length
    · obtain ⟨ad, rfl, x0, x1⟩ := C82 (Kd.C_below HC.out hb) (k := j) (by omega)
      obtain ⟨ad', e, x2, x3⟩ := C82 (Kd.C_below HC.out hb) (k := j + 1) hlt
      cases e
      have y0 := fun d os => cell_regrown x0 d os
      have y1 := fun d os => cell_regrown x1 d os
      have y2 := fun d os => cell_regrown x2 d os
      have y3 := fun d os => cell_regrown x3 d os
      have u := kUpAt_of l j hlt
      clear x0 x1 x2 x3
      cases hp : lessK l[j] l[j + 1]
      · have hr := Lib.hid (show kRises l = false from range_stop (j := j) (by omega) (u.trans hp))
        clear u
        go_wp2
        refine wp_region_quiet_below (by kernel_rfl) (by kernel_rfl) ?_
        repeat (go_big_quiet_step ((go_at_call 70; exact q70 l[j] l[j + 1] _ _ _)))
        refine wpQuiet_nil ?_
        intro _ hw'
        obtain ⟨⟨dq, osq⟩, hw''⟩ := hw'
        subst hw''
        have hz := Lib.hid (Ext.tr hb (below_regrown _ dq osq))
        go_wp2
        go_ret
        exact ⟨by rw [hr.out]; rfl, hz.out⟩
      · have hr := Lib.hid (range_step hg.out (u.trans hp))
        clear u
        go_wp2
        refine wp_region_quiet_below (by kernel_rfl) (by kernel_rfl) ?_
        repeat (go_big_quiet_step ((go_at_call 70; exact q70 l[j] l[j + 1] _ _ _)))
        refine wpQuiet_nil ?_
        intro _ hw'
        obtain ⟨⟨dq, osq⟩, hw''⟩ := hw'
        subst hw''
        have hz := Lib.hid (Ext.tr hb (below_regrown _ dq osq))
        go_wp2
        go_roundw
        case rel => exact ⟨j + 1, .inr (by omega), by go_num, hr, hz.out⟩
        case measure => simp [intOf]; omega
    · have hr := Lib.hid (show kRises l = true from range_done (by omega) hg.out)
      have hge : l.length ≤ j + 1 := by omega
      clear hlt
      go_wp2
      go_ret
      exact ⟨by rw [hr.out]; rfl, hb⟩
def keyOf (h : S34) : S82 := ⟨h.f0, 0⟩
theorem km82 (W : World) (base : Nat) (ok : Nat → Prop) (x : S82) : k82.M W base ok x [.int .i64 x.f0, .int .i64 x.f1] := k82_mkM _ _ _ _
set_option maxRecDepth 100000 in
set_option maxHeartbeats 1000000 in
theorem keys_any (A : Option Addr) (c : Nat) (l : List S34) (w : World) (hC : Kd.C k34 w A l.length l) (hc : l.length ≤ c) (hn : l.length ≤ 4194304) :
    Calls Try.prog 48 #[.slice A l.length c] w fun e w' => ∃ v, e = .returned v ∧ New k82 82 w w' v (l.map keyOf) ∧ Ext w w' := by
  have hu := Try.underlying82
  have hu34 := Try.underlying34
  have hm := len_max hC
  have HC := Lib.hid hC
  clear hC
  go_enter Try.func48, Try.ntmps48
  go_wp2
  go_loopw [3, 8] (fun v i wr => ∃ k : Nat, k ≤ l.length ∧ i = .int .i64 k ∧ Hid (New k82 82 w wr v ((l.take k).map keyOf)) ∧ Ext w wr) (fun _ i _ => l.length - (intOf i).toNat)
  case atStart => exact ⟨0, Nat.zero_le _, rfl, Kd.R_nil _ _ _ _ _, Below.refl _ _⟩
  case round =>
    obtain ⟨k, hk, rfl, hR, hb⟩ := hrel
    by_cases hlt : k < l.length
    · obtain ⟨ad, A5, c5, rfl, h0, h1, h2, h3, h4, h5, hl5, HC5⟩ := C34 (Kd.C_below HC.out hb) hlt
      have hts : Hid ((l.take (k + 1)).map keyOf = (l.take k).map keyOf ++ [keyOf l[k]]) := by show _ = _; rw [List.take_succ_eq_append_getElem hlt, List.map_append]; rfl
      have hlen : Hid (((l.take k).map keyOf).length = k) := by show _ = _; simp; omega
      have hR1 : Hid (New k82 82 w (wr.alloc (.cells #[.int .i64 l[k].f0, .string l[k].f1, .int .i64 l[k].f2, .string l[k].f3, .int .i64 l[k].f4, .slice A5 l[k].f5.length c5] 34)) u3 ((l.take k).map keyOf)) := Kd.R_alloc hR.out _
      have hb1 : Hid (Below w.heap.size w (wr.alloc (.cells #[.int .i64 l[k].f0, .string l[k].f1, .int .i64 l[k].f2, .string l[k].f3, .int .i64 l[k].f4, .slice A5 l[k].f5.length c5] 34))) := Ext.tr hb (ext_alloc _ _)
      have hsz := hb.size
      go_wp2_with (at_builtin; refine Kd.R_append (w0 := w) k82 w.heap.size rfl _ _ _ 82 _ 16 rfl Try.underlying79 info82 rfl (by decide) (by decide) u3 ((l.take k).map keyOf) (keyOf l[k]) [.int .i64 l[k].f0, .int .i64 0] (fun _ => True) (fun _ => False) rfl (by simp [Act.eval]) (km82 _ _ _ _) (fun k hk => hk.elim) (fun _ _ => trivial) hR1.out hb1.out (by simp; omega) (by rw [hlen.out]; omega) ?_; intro v1 w1 hR2 hb2 hg hat; have HR2 := Lib.hid hR2; have HB2 := Lib.hid hb2; clear hR2 hb2 hg hat)
      go_roundw
      case rel => exact ⟨k + 1, by omega, by go_num, by show New _ _ _ _ _ _; rw [hts.out]; exact HR2.out, HB2.out⟩
      case measure => simp [intOf]; omega
    · have e : l.take k = l := List.take_of_length_le (by omega)
      have hR2 := hR.out
      rw [e] at hR2
      have HR2 := Lib.hid hR2
      clear e hR2 hR
      go_wp2
      go_ret
      exact ⟨_, rfl, HR2.out, hb⟩
end Go.Proofs.Ythfolhgaecfogaa
