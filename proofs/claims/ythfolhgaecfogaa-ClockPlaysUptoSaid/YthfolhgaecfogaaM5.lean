import Derived.Test.YthfolhgaecfogaaM4
set_option linter.unusedVariables false
set_option linter.unusedSimpArgs false
namespace Go.Proofs.Ythfolhgaecfogaa
section
open Go.RowKit Go.Proofs.YthfolhgaecfogaaW.PrintWords Go.Proofs.YthfolhgaecfogaaW.PrintLast Go.Proofs.YthfolhgaecfogaaW.PrintMore
/-- two rows of one's own that lie apart -/
def Two {α : Type} (d : Kd α) (e : Nat) (w0 w : World) (v u : Value) (xs ys : List α) : Prop := Kd.R d e w w0.heap.size (fun _ => True) v xs ∧ Kd.R d e w w0.heap.size (fun k => some k ≠ v.ownBlock) u ys
theorem Two.step {α : Type} {d : Kd α} {e : Nat} {w0 w w1 : World} {v u : Value} {xs ys : List α} (h : Two d e w0 w v u xs ys) (hb : Ext w w1) : Two d e w0 w1 v u xs ys := ⟨Kd.R_below h.1 hb, Kd.R_below h.2 hb⟩
theorem Two.first {α : Type} {d : Kd α} {e : Nat} {w0 w w1 : World} {v v1 u : Value} {xs xs1 ys : List α} (h : Two d e w0 w v u xs ys) (h1 : Kd.R d e w1 w0.heap.size (fun _ => True) v1 xs1) (hg : w.grownBy w1 v.ownBlock) (hat : v1.ownBlock = v.ownBlock ∨ ∃ b, v1.ownBlock = some b ∧ w.heap.size ≤ b) : Two d e w0 w1 v1 u xs1 ys := by
  refine ⟨h1, Kd.R_mono (Kd.R_grown (Kd.R_bound h.2) hg (fun k hk => hk.1)) (fun k hk => ?_)⟩
  rcases hat with hat | ⟨b, hb, hle⟩
  · rw [hat]; exact hk.1
  · rw [hb]; intro he; injection he with he; have := hk.2.2.1; omega
theorem Two.second {α : Type} {d : Kd α} (hE : d.E = []) {e : Nat} {w0 w w1 : World} {v u u1 : Value} {xs ys ys1 : List α} (h : Two d e w0 w v u xs ys) (h1 : Kd.R d e w1 w0.heap.size (fun k => some k ≠ v.ownBlock) u1 ys1) (hg : w.grownBy w1 u.ownBlock) : Two d e w0 w1 v u1 xs ys1 := by
  refine ⟨Kd.R_mono (Kd.R_grown (Kd.R_tight hE h.1) hg (fun k hk he => ?_)) (fun _ _ => trivial), h1⟩
  have := h.2.1 k he.symm
  exact this hk
theorem Two.fresh {α : Type} {d : Kd α} {e : Nat} {w0 w : World} {v u : Value} {xs ys : List α} (h : Two d e w0 w v u xs ys) : ∀ k, w.heap.size ≤ k → some k ≠ v.ownBlock := fun k hk he => by have := Kd.R_lt h.1 k he.symm; omega
/-- is there a host of the same number and the same address? -/
def sameAt (l : List S34) (h : S34) : Bool := match l[(findI l h.f0).toNat]? with | some x => decide (0 ≤ findI l h.f0) && (x.f1.toList == h.f1.toList) | none => false
def bothMay (l m : List S34) : Bool := tableMay l && tableMay m
def addsOf (l m : List S34) : List Int := if bothMay l m then (m.filter (fun h => !sameAt l h)).map (·.f0) else []
def samesOf (l m : List S34) : List Int := if bothMay l m then (m.filter (fun h => sameAt l h)).map (·.f0) else []
def cutsOf (l m : List S34) : List Int := if bothMay l m then (l.filter (fun h => !(samesOf l m).any (fun y => h.f0 == y))).map (·.f0) else []
def rcutsOf (l m : List S34) : List Int := if bothMay l m then (l.filter (fun h => !sameAt m h)).map (·.f0) else []
def chCode (l m : List S34) : Int := if bothMay l m then 0 else 1
/-- the ids of the first k that p keeps -/
def idsK (p : S34 → Bool) (l : List S34) (k : Nat) : List Int := ((l.take k).filter p).map (·.f0)
theorem idsK_yes {p : S34 → Bool} {l : List S34} {k : Nat} (hk : k < l.length) (h : p l[k] = true) : idsK p l (k + 1) = idsK p l k ++ [l[k].f0] := by
  unfold idsK
  rw [List.take_succ_eq_append_getElem hk, List.filter_append, List.map_append]
  simp [h]
theorem idsK_no {p : S34 → Bool} {l : List S34} {k : Nat} (hk : k < l.length) (h : p l[k] = false) : idsK p l (k + 1) = idsK p l k := by
  unfold idsK
  rw [List.take_succ_eq_append_getElem hk, List.filter_append, List.map_append]
  simp [h]
theorem idsK_len (p : S34 → Bool) (l : List S34) (k : Nat) : (idsK p l k).length ≤ l.length := by
  unfold idsK
  rw [List.length_map]
  exact Nat.le_trans (List.length_filter_le _ _) (by rw [List.length_take]; omega)
theorem idsK_end (p : S34 → Bool) (l : List S34) : idsK p l l.length = (l.filter p).map (·.f0) := by unfold idsK; rw [List.take_length]
theorem sameAt_none {l : List S34} {h : S34} (hn : findI l h.f0 < 0) : sameAt l h = false := by
  unfold sameAt
  have : decide (0 ≤ findI l h.f0) = false := decide_eq_false (by omega)
  rw [this]
  split <;> rfl
theorem sameAt_some {l : List S34} {h : S34} {i : Nat} (hi : findI l h.f0 = i) (hl : i < l.length) : sameAt l h = (l[i].f1.toList == h.f1.toList) := by
  unfold sameAt
  rw [hi]
  have : decide ((0 : Int) ≤ (i : Int)) = true := decide_eq_true (by omega)
  simp [hl]
set_option maxRecDepth 100000 in
set_option maxHeartbeats 4000000 in
theorem change_any (A B : Option Addr) (c cb : Nat) (l m : List S34) (w : World) (hC : Kd.C k34 w A l.length l) (hc : l.length ≤ c) (hn : l.length ≤ 4194304) (hl : ∀ h ∈ l, hostOk h)
    (hD : Kd.C k34 w B m.length m) (hcb : m.length ≤ cb) (hnb : m.length ≤ 4194304) (hlb : ∀ h ∈ m, hostOk h) :
    Calls Try.prog 13 #[.slice A l.length c, .slice B m.length cb] w fun e w' => ∃ v1 v2 v3, e = .returned (.tuple #[v1, v2, v3, .int .i64 (chCode l m)]) ∧ New kI 3 w w' v1 (addsOf l m) ∧ New kI 3 w w' v2 (cutsOf l m) ∧ New kI 3 w w' v3 (samesOf l m) ∧ Ext w w' := by
  have hu34 := Try.underlying34
  have HC := Lib.hid hC
  have HD := Lib.hid hD
  have hm := len_max hC
  have hmb := len_max hD
  clear hC hD
  cases h1 : tableMay l
  · have hb0 : bothMay l m = false := by simp [bothMay, h1]
    have hr : Hid (chCode l m = 1 ∧ addsOf l m = [] ∧ cutsOf l m = [] ∧ samesOf l m = []) := by refine ⟨?_, ?_, ?_, ?_⟩ <;> simp [chCode, addsOf, cutsOf, samesOf, hb0]
    go_enter Try.func13, Try.ntmps13
    go_wp2_with fail
    refine (may_any A c l w HC.out hc hn hl).mono ?_
    rintro e w1 ⟨rfl, hb1⟩
    rw [h1]
    go_wp2
    refine bodyPost_ret (v := .tuple #[.slice none 0 0, .slice none 0 0, .slice none 0 0, .int .i64 1]) (by simp [results, Try.results13, go_sem]) rfl ?_
    exact ⟨_, _, _, by rw [hr.out.1], by rw [hr.out.2.1]; exact Kd.R_nil _ _ _ _ _, by rw [hr.out.2.2.1]; exact Kd.R_nil _ _ _ _ _, by rw [hr.out.2.2.2]; exact Kd.R_nil _ _ _ _ _, hb1⟩
  cases h2 : tableMay m
  · have hb0 : bothMay l m = false := by simp [bothMay, h2]
    have hr : Hid (chCode l m = 1 ∧ addsOf l m = [] ∧ cutsOf l m = [] ∧ samesOf l m = []) := by refine ⟨?_, ?_, ?_, ?_⟩ <;> simp [chCode, addsOf, cutsOf, samesOf, hb0]
    go_enter Try.func13, Try.ntmps13
    go_wp2_with fail
    refine (may_any A c l w HC.out hc hn hl).mono ?_
    rintro e w1 ⟨rfl, hb1⟩
    rw [h1]
    go_wp2_with fail
    refine (may_any B cb m w1 (Kd.C_below HD.out hb1) hcb hnb hlb).mono ?_
    rintro e w2 ⟨rfl, hb2⟩
    rw [h2]
    go_wp2
    refine bodyPost_ret (v := .tuple #[.slice none 0 0, .slice none 0 0, .slice none 0 0, .int .i64 1]) (by simp [results, Try.results13, go_sem]) rfl ?_
    exact ⟨_, _, _, by rw [hr.out.1], by rw [hr.out.2.1]; exact Kd.R_nil _ _ _ _ _, by rw [hr.out.2.2.1]; exact Kd.R_nil _ _ _ _ _, by rw [hr.out.2.2.2]; exact Kd.R_nil _ _ _ _ _, Ext.tr hb1 hb2⟩
  have hb0 : bothMay l m = true := by simp [bothMay, h1, h2]
  have hr : Hid (chCode l m = 0 ∧ addsOf l m = idsK (fun h => !sameAt l h) m m.length ∧ samesOf l m = idsK (fun h => sameAt l h) m m.length) := by
    refine ⟨?_, ?_, ?_⟩
    · simp [chCode, hb0]
    · rw [idsK_end]; simp [addsOf, hb0]
    · rw [idsK_end]; simp [samesOf, hb0]
  have hr2 : Hid (cutsOf l m = idsK (fun h => !(idsK (fun h => sameAt l h) m m.length).any (fun y => h.f0 == y)) l l.length) := by
    show _ = _
    rw [idsK_end, ← hr.out.2.2]; simp [cutsOf, hb0]
  have hl64 : l.length ≤ 64 := by
    simp only [tableMay, Bool.and_eq_true, decide_eq_true_eq] at h1
    exact h1.1.1
  have hm64 : m.length ≤ 64 := by
    simp only [tableMay, Bool.and_eq_true, decide_eq_true_eq] at h2
    exact h2.1.1
  clear hb0
  go_enter Try.func13, Try.ntmps13
  go_wp2_with fail
  refine (may_any A c l w HC.out hc hn hl).mono ?_
  rintro e w1 ⟨rfl, hb1⟩
  rw [h1]
  go_wp2_with fail
  refine (may_any B cb m w1 (Kd.C_below HD.out hb1) hcb hnb hlb).mono ?_
  rintro e w2 ⟨rfl, hb2⟩
  rw [h2]
  have hX := Lib.hid (Ext.tr hb1 hb2)
  clear hb1 hb2
  go_wp2
  go_loopw [4, 6, 23] (fun va vs i wr => ∃ k : Nat, k ≤ m.length ∧ i = .int .i64 k ∧ Hid (Two kI 3 w2 wr va vs (idsK (fun h => !sameAt l h) m k) (idsK (fun h => sameAt l h) m k)) ∧ Ext w2 wr) (fun _ _ i _ => m.length - (intOf i).toNat)
  case atStart => exact ⟨0, Nat.zero_le _, rfl, ⟨Kd.R_nil _ _ _ _ _, Kd.R_nil _ _ _ _ _⟩, Below.refl _ _⟩
  case round =>
    obtain ⟨k, hk, rfl, hR, hb⟩ := hrel
    by_cases hlt : k < m.length
    · have hE := Lib.hid (Ext.tr hX.out hb)
      obtain ⟨ad, A6, c6, rfl, x0, x1, x2, x3, x4, x5, hl6, HC6⟩ := C34 (Kd.C_below HD.out hE.out) hlt
      have hsl1 := idsK_len (fun h => !sameAt l h) m k
      have hsl2 := idsK_len (fun h => sameAt l h) m k
      obtain ⟨al, hal⟩ : ∃ al : Obj, al = .cells #[.int .i64 m[k].f0, .string m[k].f1, .int .i64 m[k].f2, .string m[k].f3, .int .i64 m[k].f4, .slice A6 m[k].f5.length c6] 34 := ⟨_, rfl⟩
      have hE1 : Hid (Ext w (wr.alloc al)) := Ext.tr hE.out (ext_alloc _ _)
      have hbk : Hid (Blk34 (wr.alloc al) wr.heap.size #[.int .i64 m[k].f0, .string m[k].f1, .int .i64 m[k].f2, .string m[k].f3, .int .i64 m[k].f4, .slice A6 m[k].f5.length c6]) := by rw [hal]; exact heap_alloc_new wr _
      have hR1 : Hid (Two kI 3 w2 (wr.alloc al) u4 u6 (idsK (fun h => !sameAt l h) m k) (idsK (fun h => sameAt l h) m k)) := hR.out.step (ext_alloc _ _)
      have hb1 : Hid (Ext w2 (wr.alloc al)) := Ext.tr hb (ext_alloc _ _)
      have hfl := findI_lt l m[k].f0
      have hF0 : findI l m[k].f0 = idxF (fun x => x.f0 == m[k].f0) l := rfl
      subst hal
      by_cases hF : findI l m[k].f0 < 0
      · have hsm := sameAt_none hF
        obtain ⟨F, hFe⟩ : ∃ F, F = findI l m[k].f0 := ⟨_, rfl⟩
        have hF' : F < 0 := by omega
        have hd : decide (0 ≤ F) = false := decide_eq_false (by omega)
        have HF := Lib.hid (hFe.trans hF0)
        have hs1 := Lib.hid (idsK_yes (p := fun h => !sameAt l h) hlt (by simp [hsm]))
        have hs2 := Lib.hid (idsK_no (p := fun h => sameAt l h) hlt hsm)
        clear hF hFe hF0 hfl hsm
        go_wp2_with fail
        refine (find_any A c l m[k].f0 _ (Kd.C_below HC.out hE1.out) hc).mono ?_
        rintro e w4 ⟨he, hb4⟩
        have he2 := he.trans (show _ = Ending.returned (.int .i64 F) by rw [HF.out])
        clear he
        subst he2
        clear x0 x1 x2 x3 x4 x5
        obtain ⟨q0, q1, q2, q3, q4, q5⟩ := Blk34.cells ((hb4.block wr.heap.size (by simp)).trans hbk.out)
        have y0 := fun d os => cell_regrown q0 d os
        have y1 := fun d os => cell_regrown q1 d os
        go_wp2
        refine wp_region_quiet_below (by kernel_rfl) (by kernel_rfl) ?_
        repeat (go_big_quiet_step (fail))
        refine wpQuiet_nil ?_
        intro _ hw'
        obtain ⟨⟨dq, osq⟩, hw''⟩ := hw'
        subst hw''
        have hR2 := Lib.hid (hR1.out.step (Ext.tr hb4 (below_regrown _ dq osq)))
        have HB3 := Lib.hid (Ext.tr hb1.out (Ext.tr hb4 (below_regrown _ dq osq)))
        clear hb4
        go_wp2_with (at_builtin; refine Kd.R_append (w0 := w2) kI w2.heap.size rfl _ _ _ 3 _ 8 rfl Try.underlying26 infoI rfl (by decide) (by decide) u4 (idsK (fun h => !sameAt l h) m k) m[k].f0 [.int .i64 m[k].f0] (fun _ => True) (fun _ => False) rfl (by simp [Act.eval]) rfl (fun k hk => hk.elim) (fun _ _ => trivial) hR2.out.1 HB3.out HB3.out.size (by omega) ?_; intro v1 w5 hR3 hb5 hg hat; have HR3 := Lib.hid (hR2.out.first hR3 hg hat); have HB5 := Lib.hid hb5; clear hR3 hb5 hg hat)
        go_roundw
        case rel => exact ⟨k + 1, by omega, by go_num, by show Two _ _ _ _ _ _ _ _; rw [hs1.out, hs2.out]; exact HR3.out, HB5.out⟩
        case measure => simp [intOf]; omega
      · obtain ⟨F, hFe⟩ : ∃ F : Nat, F = (findI l m[k].f0).toNat := ⟨_, rfl⟩
        have hFi : findI l m[k].f0 = (F : Int) := by omega
        have hFl : F < l.length := by omega
        have hsm := sameAt_some (h := m[k]) hFi hFl
        have HF := Lib.hid (hFi.symm.trans hF0)
        clear hF hFe hF0 hfl hFi
        cases hq : l[F].f1.toList == m[k].f1.toList
        · rw [hq] at hsm
          have hs1 := Lib.hid (idsK_yes (p := fun h => !sameAt l h) hlt (by simp [hsm]))
          have hs2 := Lib.hid (idsK_no (p := fun h => sameAt l h) hlt hsm)
          clear hsm
          go_wp2_with fail
          refine (find_any A c l m[k].f0 _ (Kd.C_below HC.out hE1.out) hc).mono ?_
          rintro e w4 ⟨he, hb4⟩
          have he2 := he.trans (show _ = Ending.returned (.int .i64 (F : Int)) by rw [HF.out])
          clear he
          subst he2
          clear x0 x1 x2 x3 x4 x5
          obtain ⟨q0, q1, q2, q3, q4, q5⟩ := Blk34.cells ((hb4.block wr.heap.size (by simp)).trans hbk.out)
          obtain ⟨adl, A7, c7, rfl, z0, z1, z2, z3, z4, z5, hl7, HC7⟩ := C34 (Kd.C_below HC.out (Ext.tr hE1.out hb4)) hFl
          have y0 := fun d os => cell_regrown q0 d os
          have y1 := fun d os => cell_regrown q1 d os
          have y2 := fun d os => cell_regrown z1 d os
          clear z0 z1 z2 z3 z4 z5
          go_wp2
          refine wp_region_quiet_below (by kernel_rfl) (by kernel_rfl) ?_
          repeat (go_big_quiet_step (fail))
          refine wpQuiet_nil ?_
          intro _ hw'
          obtain ⟨⟨dq, osq⟩, hw''⟩ := hw'
          subst hw''
          have hR2 := Lib.hid (hR1.out.step (Ext.tr hb4 (below_regrown _ dq osq)))
          have HB3 := Lib.hid (Ext.tr hb1.out (Ext.tr hb4 (below_regrown _ dq osq)))
          clear hb4
          go_wp2_with (at_builtin; refine Kd.R_append (w0 := w2) kI w2.heap.size rfl _ _ _ 3 _ 8 rfl Try.underlying26 infoI rfl (by decide) (by decide) u4 (idsK (fun h => !sameAt l h) m k) m[k].f0 [.int .i64 m[k].f0] (fun _ => True) (fun _ => False) rfl (by simp [Act.eval]) rfl (fun k hk => hk.elim) (fun _ _ => trivial) hR2.out.1 HB3.out HB3.out.size (by omega) ?_; intro v1 w5 hR3 hb5 hg hat; have HR3 := Lib.hid (hR2.out.first hR3 hg hat); have HB5 := Lib.hid hb5; clear hR3 hb5 hg hat)
          go_roundw
          case rel => exact ⟨k + 1, by omega, by go_num, by show Two _ _ _ _ _ _ _ _; rw [hs1.out, hs2.out]; exact HR3.out, HB5.out⟩
          case measure => simp [intOf]; omega
        · rw [hq] at hsm
          have hs1 := Lib.hid (idsK_no (p := fun h => !sameAt l h) hlt (by simp [hsm]))
          have hs2 := Lib.hid (idsK_yes (p := fun h => sameAt l h) hlt hsm)
          clear hsm
          go_wp2_with fail
          refine (find_any A c l m[k].f0 _ (Kd.C_below HC.out hE1.out) hc).mono ?_
          rintro e w4 ⟨he, hb4⟩
          have he2 := he.trans (show _ = Ending.returned (.int .i64 (F : Int)) by rw [HF.out])
          clear he
          subst he2
          clear x0 x1 x2 x3 x4 x5
          obtain ⟨q0, q1, q2, q3, q4, q5⟩ := Blk34.cells ((hb4.block wr.heap.size (by simp)).trans hbk.out)
          obtain ⟨adl, A7, c7, rfl, z0, z1, z2, z3, z4, z5, hl7, HC7⟩ := C34 (Kd.C_below HC.out (Ext.tr hE1.out hb4)) hFl
          have y0 := fun d os => cell_regrown q0 d os
          have y1 := fun d os => cell_regrown q1 d os
          have y2 := fun d os => cell_regrown z1 d os
          clear z0 z1 z2 z3 z4 z5
          go_wp2
          refine wp_region_quiet_below (by kernel_rfl) (by kernel_rfl) ?_
          repeat (go_big_quiet_step (fail))
          refine wpQuiet_nil ?_
          intro _ hw'
          obtain ⟨⟨dq, osq⟩, hw''⟩ := hw'
          subst hw''
          have hR2 := Lib.hid (hR1.out.step (Ext.tr hb4 (below_regrown _ dq osq)))
          have HB3 := Lib.hid (Ext.tr hb1.out (Ext.tr hb4 (below_regrown _ dq osq)))
          clear hb4
          go_wp2_with (at_builtin; refine Kd.R_append (w0 := w2) kI w2.heap.size rfl _ _ _ 3 _ 8 rfl Try.underlying26 infoI rfl (by decide) (by decide) u6 (idsK (fun h => sameAt l h) m k) m[k].f0 [.int .i64 m[k].f0] (fun k => some k ≠ u4.ownBlock) (fun _ => False) rfl (by simp [Act.eval]) rfl (fun k hk => hk.elim) hR2.out.fresh hR2.out.2 HB3.out HB3.out.size (by omega) ?_; intro v1 w5 hR3 hb5 hg hat; have HR3 := Lib.hid (hR2.out.second rfl hR3 hg); have HB5 := Lib.hid hb5; clear hR3 hb5 hg hat)
          go_roundw
          case rel => exact ⟨k + 1, by omega, by go_num, by show Two _ _ _ _ _ _ _ _; rw [hs1.out, hs2.out]; exact HR3.out, HB5.out⟩
          case measure => simp [intOf]; omega
    · obtain rfl : k = m.length := by omega
      obtain ⟨S, hS⟩ : ∃ S, S = idsK (fun h => sameAt l h) m m.length := ⟨_, rfl⟩
      obtain ⟨D, hD2⟩ : ∃ D, D = idsK (fun h => !sameAt l h) m m.length := ⟨_, rfl⟩
      rw [← hS] at hr2 hr hR
      rw [← hD2] at hr hR
      have HX2 := Lib.hid (Ext.tr hX.out hb)
      have HRa := Lib.hid hR.out.1
      have HRs := Lib.hid (Kd.R_mono hR.out.2 (ok' := fun _ => True) (fun _ _ => trivial))
      obtain ⟨As, cs, rfl, hls, hCs⟩ := Kd.R_reads HRs.out
      have HCs := Lib.hid hCs
      have hw2 := hX.out.size
      have hw3 := HX2.out.size
      clear hS hD2 hR hCs
      obtain ⟨w6, hw6⟩ : ∃ w6, w6 = wr := ⟨_, rfl⟩
      subst hw6
      go_wp2
      go_loopw [5, 56] (fun v i ws => ∃ k : Nat, k ≤ l.length ∧ i = .int .i64 k ∧ Hid (New kI 3 w6 ws v (idsK (fun h => !S.any (fun y => h.f0 == y)) l k)) ∧ Ext w6 ws) (fun _ i _ => l.length - (intOf i).toNat)
      case atStart => exact ⟨0, Nat.zero_le _, rfl, Kd.R_nil _ _ _ _ _, Below.refl _ _⟩
      case round =>
        obtain ⟨k, hk, rfl, hR, hb2⟩ := hrel
        by_cases hlt2 : k < l.length
        · obtain ⟨ad, A6, c6, rfl, x0, x1, x2, x3, x4, x5, hl6, HC6⟩ := C34 (Kd.C_below HC.out (Ext.tr HX2.out hb2)) hlt2
          have hsl1 := idsK_len (fun h => !S.any (fun y => h.f0 == y)) l k
          obtain ⟨al, hal⟩ : ∃ al : Obj, al = .cells #[.int .i64 l[k].f0, .string l[k].f1, .int .i64 l[k].f2, .string l[k].f3, .int .i64 l[k].f4, .slice A6 l[k].f5.length c6] 34 := ⟨_, rfl⟩
          have hbk : Hid (Blk34 (wr.alloc al) wr.heap.size #[.int .i64 l[k].f0, .string l[k].f1, .int .i64 l[k].f2, .string l[k].f3, .int .i64 l[k].f4, .slice A6 l[k].f5.length c6]) := by rw [hal]; exact heap_alloc_new wr _
          have hR1 : Hid (New kI 3 w6 (wr.alloc al) u5 (idsK (fun h => !S.any (fun y => h.f0 == y)) l k)) := Kd.R_alloc hR.out _
          have hb1 : Hid (Ext w6 (wr.alloc al)) := Ext.tr hb2 (ext_alloc _ _)
          subst hal
          cases hq : S.any (fun y => l[k].f0 == y)
          · have hs1 := Lib.hid (idsK_yes (p := fun h => !S.any (fun y => h.f0 == y)) hlt2 (by simp only [hq]; rfl))
            go_wp2_with fail
            refine (contains_any As cs _ S l[k].f0 _ (Kd.C_below HCs.out hb1.out) hls).mono ?_
            rintro e w4 ⟨he, hb4⟩
            rw [hq] at he
            subst he
            clear x0 x1 x2 x3 x4 x5
            obtain ⟨q0, q1, q2, q3, q4, q5⟩ := Blk34.cells ((hb4.block wr.heap.size (by simp)).trans hbk.out)
            have hR2 := Lib.hid (Kd.R_below hR1.out hb4)
            have HB3 := Lib.hid (Ext.tr hb1.out hb4)
            clear hb4
            go_wp2_with (at_builtin; refine Kd.R_append (w0 := w6) kI w6.heap.size rfl _ _ _ 3 _ 8 rfl Try.underlying26 infoI rfl (by decide) (by decide) u5 (idsK (fun h => !S.any (fun y => h.f0 == y)) l k) l[k].f0 [.int .i64 l[k].f0] (fun _ => True) (fun _ => False) rfl (by simp [Act.eval]) rfl (fun k hk => hk.elim) (fun _ _ => trivial) hR2.out HB3.out HB3.out.size (by omega) ?_; intro v1 w5 hR3 hb5 hg hat; have HR3 := Lib.hid hR3; have HB5 := Lib.hid hb5; clear hR3 hb5 hg hat)
            go_roundw
            case rel => exact ⟨k + 1, by omega, by go_num, by show New _ _ _ _ _ _; rw [hs1.out]; exact HR3.out, HB5.out⟩
            case measure => simp [intOf]; omega
          · have hs1 := Lib.hid (idsK_no (p := fun h => !S.any (fun y => h.f0 == y)) hlt2 (by simp only [hq]; rfl))
            go_wp2_with fail
            refine (contains_any As cs _ S l[k].f0 _ (Kd.C_below HCs.out hb1.out) hls).mono ?_
            rintro e w4 ⟨he, hb4⟩
            rw [hq] at he
            subst he
            clear x0 x1 x2 x3 x4 x5
            have hR2 := Lib.hid (Kd.R_below hR1.out hb4)
            have HB3 := Lib.hid (Ext.tr hb1.out hb4)
            clear hb4
            go_wp2
            go_roundw
            case rel => exact ⟨k + 1, by omega, by go_num, by show New _ _ _ _ _ _; rw [hs1.out]; exact hR2.out, HB3.out⟩
            case measure => simp [intOf]; omega
        · obtain rfl : k = l.length := by omega
          have HRc := Lib.hid (Kd.R_lower hR.out hw3)
          have HRa2 := Lib.hid (Kd.R_lower (Kd.R_below HRa.out hb2) hw2)
          have HRs2 := Lib.hid (Kd.R_lower (Kd.R_below HRs.out hb2) hw2)
          have HX3 := Lib.hid (Ext.tr HX2.out hb2)
          go_wp2
          refine bodyPost_ret (v := .tuple #[u4, u5, .slice As S.length cs, .int .i64 0]) (by simp [results, Try.results13, go_sem]) rfl ?_
          exact ⟨_, _, _, by rw [hr.out.1], by rw [hr.out.2.1]; exact HRa2.out, by rw [hr2.out]; exact HRc.out, by rw [hr.out.2.2]; exact HRs2.out, HX3.out⟩
end
section
open Go.RowKit Go.Proofs.YthfolhgaecfogaaW.PrintWords Go.Proofs.YthfolhgaecfogaaW.PrintLast Go.Proofs.YthfolhgaecfogaaW.PrintMore
set_option maxRecDepth 100000 in
set_option maxHeartbeats 4000000 in
theorem rchange_any (A B : Option Addr) (c cb : Nat) (l m : List S34) (w : World) (hC : Kd.C k34 w A l.length l) (hc : l.length ≤ c)
    (hD : Kd.C k34 w B m.length m) (hcb : m.length ≤ cb) :
    Calls Try.prog 40 #[.slice A l.length c, .slice B m.length cb] w fun e w' => ∃ v1 v2 v3, e = .returned (.tuple #[v1, v2, v3, .int .i64 (chCode l m)]) ∧ New kI 3 w w' v1 (addsOf l m) ∧ New kI 3 w w' v2 (rcutsOf l m) ∧ New kI 3 w w' v3 (samesOf l m) ∧ Ext w w' := by
  have hu34 := Try.underlying34
  have HC := Lib.hid hC
  have HD := Lib.hid hD
  have hm := len_max hC
  have hmb := len_max hD
  clear hC hD
  cases h1 : tableMay l
  · have hb0 : bothMay l m = false := by simp [bothMay, h1]
    have hr : Hid (chCode l m = 1 ∧ addsOf l m = [] ∧ rcutsOf l m = [] ∧ samesOf l m = []) := by refine ⟨?_, ?_, ?_, ?_⟩ <;> simp [chCode, addsOf, rcutsOf, samesOf, hb0]
    go_enter Try.func40, Try.ntmps40
    go_wp2_with fail
    refine (rmayTable_any A c l w HC.out hc).mono ?_
    rintro e w1 ⟨rfl, hb1⟩
    rw [h1]
    go_wp2
    refine bodyPost_ret (v := .tuple #[.slice none 0 0, .slice none 0 0, .slice none 0 0, .int .i64 1]) (by simp [results, Try.results40, go_sem]) rfl ?_
    exact ⟨_, _, _, by rw [hr.out.1], by rw [hr.out.2.1]; exact Kd.R_nil _ _ _ _ _, by rw [hr.out.2.2.1]; exact Kd.R_nil _ _ _ _ _, by rw [hr.out.2.2.2]; exact Kd.R_nil _ _ _ _ _, hb1⟩
  cases h2 : tableMay m
  · have hb0 : bothMay l m = false := by simp [bothMay, h2]
    have hr : Hid (chCode l m = 1 ∧ addsOf l m = [] ∧ rcutsOf l m = [] ∧ samesOf l m = []) := by refine ⟨?_, ?_, ?_, ?_⟩ <;> simp [chCode, addsOf, rcutsOf, samesOf, hb0]
    go_enter Try.func40, Try.ntmps40
    go_wp2_with fail
    refine (rmayTable_any A c l w HC.out hc).mono ?_
    rintro e w1 ⟨rfl, hb1⟩
    rw [h1]
    go_wp2_with fail
    refine (rmayTable_any B cb m w1 (Kd.C_below HD.out hb1) hcb).mono ?_
    rintro e w2 ⟨rfl, hb2⟩
    rw [h2]
    go_wp2
    refine bodyPost_ret (v := .tuple #[.slice none 0 0, .slice none 0 0, .slice none 0 0, .int .i64 1]) (by simp [results, Try.results40, go_sem]) rfl ?_
    exact ⟨_, _, _, by rw [hr.out.1], by rw [hr.out.2.1]; exact Kd.R_nil _ _ _ _ _, by rw [hr.out.2.2.1]; exact Kd.R_nil _ _ _ _ _, by rw [hr.out.2.2.2]; exact Kd.R_nil _ _ _ _ _, Ext.tr hb1 hb2⟩
  have hb0 : bothMay l m = true := by simp [bothMay, h1, h2]
  have hr : Hid (chCode l m = 0 ∧ addsOf l m = idsK (fun h => !sameAt l h) m m.length ∧ samesOf l m = idsK (fun h => sameAt l h) m m.length) := by
    refine ⟨?_, ?_, ?_⟩
    · simp [chCode, hb0]
    · rw [idsK_end]; simp [addsOf, hb0]
    · rw [idsK_end]; simp [samesOf, hb0]
  have hr2 : Hid (rcutsOf l m = idsK (fun h => !sameAt m h) l l.length) := by
    show _ = _
    rw [idsK_end]; simp [rcutsOf, hb0]
  have hl64 : l.length ≤ 64 := by
    simp only [tableMay, Bool.and_eq_true, decide_eq_true_eq] at h1
    exact h1.1.1
  have hm64 : m.length ≤ 64 := by
    simp only [tableMay, Bool.and_eq_true, decide_eq_true_eq] at h2
    exact h2.1.1
  clear hb0
  go_enter Try.func40, Try.ntmps40
  go_wp2_with fail
  refine (rmayTable_any A c l w HC.out hc).mono ?_
  rintro e w1 ⟨rfl, hb1⟩
  rw [h1]
  go_wp2_with fail
  refine (rmayTable_any B cb m w1 (Kd.C_below HD.out hb1) hcb).mono ?_
  rintro e w2 ⟨rfl, hb2⟩
  rw [h2]
  have hX := Lib.hid (Ext.tr hb1 hb2)
  clear hb1 hb2
  go_wp2
  go_loopw [8, 10, 27] (fun va vs i wr => ∃ k : Nat, k ≤ m.length ∧ i = .int .i64 k ∧ Hid (Two kI 3 w2 wr va vs (idsK (fun h => !sameAt l h) m k) (idsK (fun h => sameAt l h) m k)) ∧ Ext w2 wr) (fun _ _ i _ => m.length - (intOf i).toNat)
  case atStart => exact ⟨0, Nat.zero_le _, rfl, ⟨Kd.R_nil _ _ _ _ _, Kd.R_nil _ _ _ _ _⟩, Below.refl _ _⟩
  case round =>
    obtain ⟨k, hk, rfl, hR, hb⟩ := hrel
    by_cases hlt : k < m.length
    · have hE := Lib.hid (Ext.tr hX.out hb)
      obtain ⟨ad, A6, c6, rfl, x0, x1, x2, x3, x4, x5, hl6, HC6⟩ := C34 (Kd.C_below HD.out hE.out) hlt
      have hsl1 := idsK_len (fun h => !sameAt l h) m k
      have hsl2 := idsK_len (fun h => sameAt l h) m k
      obtain ⟨al, hal⟩ : ∃ al : Obj, al = .cells #[.int .i64 m[k].f0, .string m[k].f1, .int .i64 m[k].f2, .string m[k].f3, .int .i64 m[k].f4, .slice A6 m[k].f5.length c6] 34 := ⟨_, rfl⟩
      have hE1 : Hid (Ext w (wr.alloc al)) := Ext.tr hE.out (ext_alloc _ _)
      have hbk : Hid (Blk34 (wr.alloc al) wr.heap.size #[.int .i64 m[k].f0, .string m[k].f1, .int .i64 m[k].f2, .string m[k].f3, .int .i64 m[k].f4, .slice A6 m[k].f5.length c6]) := by rw [hal]; exact heap_alloc_new wr _
      have hR1 : Hid (Two kI 3 w2 (wr.alloc al) u8 u10 (idsK (fun h => !sameAt l h) m k) (idsK (fun h => sameAt l h) m k)) := hR.out.step (ext_alloc _ _)
      have hb1 : Hid (Ext w2 (wr.alloc al)) := Ext.tr hb (ext_alloc _ _)
      have hfl := findI_lt l m[k].f0
      have hF0 : findI l m[k].f0 = idxF (fun x => x.f0 == m[k].f0) l := rfl
      subst hal
      by_cases hF : findI l m[k].f0 < 0
      · have hsm := sameAt_none hF
        obtain ⟨F, hFe⟩ : ∃ F, F = findI l m[k].f0 := ⟨_, rfl⟩
        have hF' : F < 0 := by omega
        have hd : decide (0 ≤ F) = false := decide_eq_false (by omega)
        have HF := Lib.hid (hFe.trans hF0)
        have hs1 := Lib.hid (idsK_yes (p := fun h => !sameAt l h) hlt (by simp [hsm]))
        have hs2 := Lib.hid (idsK_no (p := fun h => sameAt l h) hlt hsm)
        clear hF hFe hF0 hfl hsm
        go_wp2_with fail
        refine (rfind_any A c l m[k].f0 _ (Kd.C_below HC.out hE1.out) hc).mono ?_
        rintro e w4 ⟨he, hb4⟩
        have he2 := he.trans (show _ = Ending.returned (.int .i64 F) by rw [HF.out])
        clear he
        subst he2
        clear x0 x1 x2 x3 x4 x5
        obtain ⟨q0, q1, q2, q3, q4, q5⟩ := Blk34.cells ((hb4.block wr.heap.size (by simp)).trans hbk.out)
        have y0 := fun d os => cell_regrown q0 d os
        have y1 := fun d os => cell_regrown q1 d os
        go_wp2
        refine wp_region_quiet_below (by kernel_rfl) (by kernel_rfl) ?_
        repeat (go_big_quiet_step (fail))
        refine wpQuiet_nil ?_
        intro _ hw'
        obtain ⟨⟨dq, osq⟩, hw''⟩ := hw'
        subst hw''
        have hR2 := Lib.hid (hR1.out.step (Ext.tr hb4 (below_regrown _ dq osq)))
        have HB3 := Lib.hid (Ext.tr hb1.out (Ext.tr hb4 (below_regrown _ dq osq)))
        clear hb4
        go_wp2_with (at_builtin; refine Kd.R_append (w0 := w2) kI w2.heap.size rfl _ _ _ 3 _ 8 rfl Try.underlying26 infoI rfl (by decide) (by decide) u8 (idsK (fun h => !sameAt l h) m k) m[k].f0 [.int .i64 m[k].f0] (fun _ => True) (fun _ => False) rfl (by simp [Act.eval]) rfl (fun k hk => hk.elim) (fun _ _ => trivial) hR2.out.1 HB3.out HB3.out.size (by omega) ?_; intro v1 w5 hR3 hb5 hg hat; have HR3 := Lib.hid (hR2.out.first hR3 hg hat); have HB5 := Lib.hid hb5; clear hR3 hb5 hg hat)
        go_roundw
        case rel => exact ⟨k + 1, by omega, by go_num, by show Two _ _ _ _ _ _ _ _; rw [hs1.out, hs2.out]; exact HR3.out, HB5.out⟩
        case measure => simp [intOf]; omega
      · obtain ⟨F, hFe⟩ : ∃ F : Nat, F = (findI l m[k].f0).toNat := ⟨_, rfl⟩
        have hFi : findI l m[k].f0 = (F : Int) := by omega
        have hFl : F < l.length := by omega
        have hsm := sameAt_some (h := m[k]) hFi hFl
        have HF := Lib.hid (hFi.symm.trans hF0)
        clear hF hFe hF0 hfl hFi
        cases hq : l[F].f1.toList == m[k].f1.toList
        · rw [hq] at hsm
          have hs1 := Lib.hid (idsK_yes (p := fun h => !sameAt l h) hlt (by simp [hsm]))
          have hs2 := Lib.hid (idsK_no (p := fun h => sameAt l h) hlt hsm)
          clear hsm
          go_wp2_with fail
          refine (rfind_any A c l m[k].f0 _ (Kd.C_below HC.out hE1.out) hc).mono ?_
          rintro e w4 ⟨he, hb4⟩
          have he2 := he.trans (show _ = Ending.returned (.int .i64 (F : Int)) by rw [HF.out])
          clear he
          subst he2
          clear x0 x1 x2 x3 x4 x5
          obtain ⟨q0, q1, q2, q3, q4, q5⟩ := Blk34.cells ((hb4.block wr.heap.size (by simp)).trans hbk.out)
          obtain ⟨adl, A7, c7, rfl, z0, z1, z2, z3, z4, z5, hl7, HC7⟩ := C34 (Kd.C_below HC.out (Ext.tr hE1.out hb4)) hFl
          have y0 := fun d os => cell_regrown q0 d os
          have y1 := fun d os => cell_regrown q1 d os
          have y2 := fun d os => cell_regrown z1 d os
          clear z0 z1 z2 z3 z4 z5
          go_wp2
          refine wp_region_quiet_below (by kernel_rfl) (by kernel_rfl) ?_
          repeat (go_big_quiet_step (fail))
          refine wpQuiet_nil ?_
          intro _ hw'
          obtain ⟨⟨dq, osq⟩, hw''⟩ := hw'
          subst hw''
          have hR2 := Lib.hid (hR1.out.step (Ext.tr hb4 (below_regrown _ dq osq)))
          have HB3 := Lib.hid (Ext.tr hb1.out (Ext.tr hb4 (below_regrown _ dq osq)))
          clear hb4
          go_wp2_with (at_builtin; refine Kd.R_append (w0 := w2) kI w2.heap.size rfl _ _ _ 3 _ 8 rfl Try.underlying26 infoI rfl (by decide) (by decide) u8 (idsK (fun h => !sameAt l h) m k) m[k].f0 [.int .i64 m[k].f0] (fun _ => True) (fun _ => False) rfl (by simp [Act.eval]) rfl (fun k hk => hk.elim) (fun _ _ => trivial) hR2.out.1 HB3.out HB3.out.size (by omega) ?_; intro v1 w5 hR3 hb5 hg hat; have HR3 := Lib.hid (hR2.out.first hR3 hg hat); have HB5 := Lib.hid hb5; clear hR3 hb5 hg hat)
          go_roundw
          case rel => exact ⟨k + 1, by omega, by go_num, by show Two _ _ _ _ _ _ _ _; rw [hs1.out, hs2.out]; exact HR3.out, HB5.out⟩
          case measure => simp [intOf]; omega
        · rw [hq] at hsm
          have hs1 := Lib.hid (idsK_no (p := fun h => !sameAt l h) hlt (by simp [hsm]))
          have hs2 := Lib.hid (idsK_yes (p := fun h => sameAt l h) hlt hsm)
          clear hsm
          go_wp2_with fail
          refine (rfind_any A c l m[k].f0 _ (Kd.C_below HC.out hE1.out) hc).mono ?_
          rintro e w4 ⟨he, hb4⟩
          have he2 := he.trans (show _ = Ending.returned (.int .i64 (F : Int)) by rw [HF.out])
          clear he
          subst he2
          clear x0 x1 x2 x3 x4 x5
          obtain ⟨q0, q1, q2, q3, q4, q5⟩ := Blk34.cells ((hb4.block wr.heap.size (by simp)).trans hbk.out)
          obtain ⟨adl, A7, c7, rfl, z0, z1, z2, z3, z4, z5, hl7, HC7⟩ := C34 (Kd.C_below HC.out (Ext.tr hE1.out hb4)) hFl
          have y0 := fun d os => cell_regrown q0 d os
          have y1 := fun d os => cell_regrown q1 d os
          have y2 := fun d os => cell_regrown z1 d os
          clear z0 z1 z2 z3 z4 z5
          go_wp2
          refine wp_region_quiet_below (by kernel_rfl) (by kernel_rfl) ?_
          repeat (go_big_quiet_step (fail))
          refine wpQuiet_nil ?_
          intro _ hw'
          obtain ⟨⟨dq, osq⟩, hw''⟩ := hw'
          subst hw''
          have hR2 := Lib.hid (hR1.out.step (Ext.tr hb4 (below_regrown _ dq osq)))
          have HB3 := Lib.hid (Ext.tr hb1.out (Ext.tr hb4 (below_regrown _ dq osq)))
          clear hb4
          go_wp2_with (at_builtin; refine Kd.R_append (w0 := w2) kI w2.heap.size rfl _ _ _ 3 _ 8 rfl Try.underlying26 infoI rfl (by decide) (by decide) u10 (idsK (fun h => sameAt l h) m k) m[k].f0 [.int .i64 m[k].f0] (fun k => some k ≠ u8.ownBlock) (fun _ => False) rfl (by simp [Act.eval]) rfl (fun k hk => hk.elim) hR2.out.fresh hR2.out.2 HB3.out HB3.out.size (by omega) ?_; intro v1 w5 hR3 hb5 hg hat; have HR3 := Lib.hid (hR2.out.second rfl hR3 hg); have HB5 := Lib.hid hb5; clear hR3 hb5 hg hat)
          go_roundw
          case rel => exact ⟨k + 1, by omega, by go_num, by show Two _ _ _ _ _ _ _ _; rw [hs1.out, hs2.out]; exact HR3.out, HB5.out⟩
          case measure => simp [intOf]; omega
    · obtain rfl : k = m.length := by omega
      have HX2 := Lib.hid (Ext.tr hX.out hb)
      have HRa := Lib.hid hR.out.1
      have HRs := Lib.hid (Kd.R_mono hR.out.2 (ok' := fun _ => True) (fun _ _ => trivial))
      have hw2 := hX.out.size
      have hw3 := HX2.out.size
      clear hR
      obtain ⟨w6, hw6⟩ : ∃ w6, w6 = wr := ⟨_, rfl⟩
      subst hw6
      go_wp2
      go_loopw [9, 60] (fun v i ws => ∃ k : Nat, k ≤ l.length ∧ i = .int .i64 k ∧ Hid (New kI 3 w6 ws v (idsK (fun h => !sameAt m h) l k)) ∧ Ext w6 ws) (fun _ i _ => l.length - (intOf i).toNat)
      case atStart => exact ⟨0, Nat.zero_le _, rfl, Kd.R_nil _ _ _ _ _, Below.refl _ _⟩
      case round =>
        obtain ⟨k, hk, rfl, hR, hb2⟩ := hrel
        by_cases hlt2 : k < l.length
        · have hE := Lib.hid (Ext.tr HX2.out hb2)
          obtain ⟨ad, A6, c6, rfl, x0, x1, x2, x3, x4, x5, hl6, HC6⟩ := C34 (Kd.C_below HC.out hE.out) hlt2
          have hsl1 := idsK_len (fun h => !sameAt m h) l k
          obtain ⟨al, hal⟩ : ∃ al : Obj, al = .cells #[.int .i64 l[k].f0, .string l[k].f1, .int .i64 l[k].f2, .string l[k].f3, .int .i64 l[k].f4, .slice A6 l[k].f5.length c6] 34 := ⟨_, rfl⟩
          have hE1 : Hid (Ext w (wr.alloc al)) := Ext.tr hE.out (ext_alloc _ _)
          have hbk : Hid (Blk34 (wr.alloc al) wr.heap.size #[.int .i64 l[k].f0, .string l[k].f1, .int .i64 l[k].f2, .string l[k].f3, .int .i64 l[k].f4, .slice A6 l[k].f5.length c6]) := by rw [hal]; exact heap_alloc_new wr _
          have hR1 : Hid (New kI 3 w6 (wr.alloc al) u9 (idsK (fun h => !sameAt m h) l k)) := Kd.R_alloc hR.out _
          have hb1 : Hid (Ext w6 (wr.alloc al)) := Ext.tr hb2 (ext_alloc _ _)
          have hfl := findI_lt m l[k].f0
          have hF0 : findI m l[k].f0 = idxF (fun x => x.f0 == l[k].f0) m := rfl
          subst hal
          by_cases hF : findI m l[k].f0 < 0
          · have hsm := sameAt_none hF
            obtain ⟨F, hFe⟩ : ∃ F, F = findI m l[k].f0 := ⟨_, rfl⟩
            have hF' : F < 0 := by omega
            have hd : decide (F < 0) = true := decide_eq_true (by omega)
            have HF := Lib.hid (hFe.trans hF0)
            have hs1 := Lib.hid (idsK_yes (p := fun h => !sameAt m h) hlt2 (by simp [hsm]))
            clear hF hFe hF0 hfl hsm
            go_wp2_with fail
            refine (rfind_any B cb m l[k].f0 _ (Kd.C_below HD.out hE1.out) hcb).mono ?_
            rintro e w4 ⟨he, hb4⟩
            have he2 := he.trans (show _ = Ending.returned (.int .i64 F) by rw [HF.out])
            clear he
            subst he2
            clear x0 x1 x2 x3 x4 x5
            obtain ⟨q0, q1, q2, q3, q4, q5⟩ := Blk34.cells ((hb4.block wr.heap.size (by simp)).trans hbk.out)
            have y0 := fun d os => cell_regrown q0 d os
            have y1 := fun d os => cell_regrown q1 d os
            go_wp2
            refine wp_region_quiet_below (by kernel_rfl) (by kernel_rfl) ?_
            repeat (go_big_quiet_step (fail))
            refine wpQuiet_nil ?_
            intro _ hw'
            obtain ⟨⟨dq, osq⟩, hw''⟩ := hw'
            subst hw''
            have hR2 := Lib.hid (Kd.R_below hR1.out (Ext.tr hb4 (below_regrown _ dq osq)))
            have HB3 := Lib.hid (Ext.tr hb1.out (Ext.tr hb4 (below_regrown _ dq osq)))
            clear hb4
            go_wp2_with (at_builtin; refine Kd.R_append (w0 := w6) kI w6.heap.size rfl _ _ _ 3 _ 8 rfl Try.underlying26 infoI rfl (by decide) (by decide) u9 (idsK (fun h => !sameAt m h) l k) l[k].f0 [.int .i64 l[k].f0] (fun _ => True) (fun _ => False) rfl (by simp [Act.eval]) rfl (fun k hk => hk.elim) (fun _ _ => trivial) hR2.out HB3.out HB3.out.size (by omega) ?_; intro v1 w5 hR3 hb5 hg hat; have HR3 := Lib.hid hR3; have HB5 := Lib.hid hb5; clear hR3 hb5 hg hat)
            go_roundw
            case rel => exact ⟨k + 1, by omega, by go_num, by show New _ _ _ _ _ _; rw [hs1.out]; exact HR3.out, HB5.out⟩
            case measure => simp [intOf]; omega
          · obtain ⟨F, hFe⟩ : ∃ F : Nat, F = (findI m l[k].f0).toNat := ⟨_, rfl⟩
            have hFi : findI m l[k].f0 = (F : Int) := by omega
            have hFl : F < m.length := by omega
            have hd : decide ((F : Int) < 0) = false := decide_eq_false (by omega)
            have hsm := sameAt_some (h := l[k]) hFi hFl
            have HF := Lib.hid (hFi.symm.trans hF0)
            clear hF hFe hF0 hfl hFi
            cases hq : m[F].f1.toList == l[k].f1.toList
            · rw [hq] at hsm
              have hs1 := Lib.hid (idsK_yes (p := fun h => !sameAt m h) hlt2 (by simp [hsm]))
              clear hsm
              go_wp2_with fail
              refine (rfind_any B cb m l[k].f0 _ (Kd.C_below HD.out hE1.out) hcb).mono ?_
              rintro e w4 ⟨he, hb4⟩
              have he2 := he.trans (show _ = Ending.returned (.int .i64 (F : Int)) by rw [HF.out])
              clear he
              subst he2
              clear x0 x1 x2 x3 x4 x5
              obtain ⟨q0, q1, q2, q3, q4, q5⟩ := Blk34.cells ((hb4.block wr.heap.size (by simp)).trans hbk.out)
              obtain ⟨adl, A7, c7, rfl, z0, z1, z2, z3, z4, z5, hl7, HC7⟩ := C34 (Kd.C_below HD.out (Ext.tr hE1.out hb4)) hFl
              have y0 := fun d os => cell_regrown q0 d os
              have y1 := fun d os => cell_regrown q1 d os
              have y2 := fun d os => cell_regrown z1 d os
              clear z0 z1 z2 z3 z4 z5
              go_wp2
              refine wp_region_quiet_below (by kernel_rfl) (by kernel_rfl) ?_
              repeat (go_big_quiet_step (fail))
              refine wpQuiet_nil ?_
              intro _ hw'
              obtain ⟨⟨dq, osq⟩, hw''⟩ := hw'
              subst hw''
              have hR2 := Lib.hid (Kd.R_below hR1.out (Ext.tr hb4 (below_regrown _ dq osq)))
              have HB3 := Lib.hid (Ext.tr hb1.out (Ext.tr hb4 (below_regrown _ dq osq)))
              clear hb4
              go_wp2_with (at_builtin; refine Kd.R_append (w0 := w6) kI w6.heap.size rfl _ _ _ 3 _ 8 rfl Try.underlying26 infoI rfl (by decide) (by decide) u9 (idsK (fun h => !sameAt m h) l k) l[k].f0 [.int .i64 l[k].f0] (fun _ => True) (fun _ => False) rfl (by simp [Act.eval]) rfl (fun k hk => hk.elim) (fun _ _ => trivial) hR2.out HB3.out HB3.out.size (by omega) ?_; intro v1 w5 hR3 hb5 hg hat; have HR3 := Lib.hid hR3; have HB5 := Lib.hid hb5; clear hR3 hb5 hg hat)
              go_roundw
              case rel => exact ⟨k + 1, by omega, by go_num, by show New _ _ _ _ _ _; rw [hs1.out]; exact HR3.out, HB5.out⟩
              case measure => simp [intOf]; omega
            · rw [hq] at hsm
              have hs1 := Lib.hid (idsK_no (p := fun h => !sameAt m h) hlt2 (by simp [hsm]))
              clear hsm
              go_wp2_with fail
              refine (rfind_any B cb m l[k].f0 _ (Kd.C_below HD.out hE1.out) hcb).mono ?_
              rintro e w4 ⟨he, hb4⟩
              have he2 := he.trans (show _ = Ending.returned (.int .i64 (F : Int)) by rw [HF.out])
              clear he
              subst he2
              clear x0 x1 x2 x3 x4 x5
              obtain ⟨q0, q1, q2, q3, q4, q5⟩ := Blk34.cells ((hb4.block wr.heap.size (by simp)).trans hbk.out)
              obtain ⟨adl, A7, c7, rfl, z0, z1, z2, z3, z4, z5, hl7, HC7⟩ := C34 (Kd.C_below HD.out (Ext.tr hE1.out hb4)) hFl
              have y0 := fun d os => cell_regrown q0 d os
              have y1 := fun d os => cell_regrown q1 d os
              have y2 := fun d os => cell_regrown z1 d os
              clear z0 z1 z2 z3 z4 z5
              go_wp2
              refine wp_region_quiet_below (by kernel_rfl) (by kernel_rfl) ?_
              repeat (go_big_quiet_step (fail))
              refine wpQuiet_nil ?_
              intro _ hw'
              obtain ⟨⟨dq, osq⟩, hw''⟩ := hw'
              subst hw''
              have hR2 := Lib.hid (Kd.R_below hR1.out (Ext.tr hb4 (below_regrown _ dq osq)))
              have HB3 := Lib.hid (Ext.tr hb1.out (Ext.tr hb4 (below_regrown _ dq osq)))
              clear hb4
              go_wp2
              go_roundw
              case rel => exact ⟨k + 1, by omega, by go_num, by show New _ _ _ _ _ _; rw [hs1.out]; exact hR2.out, HB3.out⟩
              case measure => simp [intOf]; omega
        · obtain rfl : k = l.length := by omega
          have HRc := Lib.hid (Kd.R_lower hR.out hw3)
          have HRa2 := Lib.hid (Kd.R_lower (Kd.R_below HRa.out hb2) hw2)
          have HRs2 := Lib.hid (Kd.R_lower (Kd.R_below HRs.out hb2) hw2)
          have HX3 := Lib.hid (Ext.tr HX2.out hb2)
          go_wp2
          refine bodyPost_ret (v := .tuple #[u8, u9, u10, .int .i64 0]) (by simp [results, Try.results40, go_sem]) rfl ?_
          exact ⟨_, _, _, by rw [hr.out.1], by rw [hr.out.2.1]; exact HRa2.out, by rw [hr2.out]; exact HRc.out, by rw [hr.out.2.2]; exact HRs2.out, HX3.out⟩
end
section
open Go.RowKit Go.Proofs.YthfolhgaecfogaaW.PrintWords Go.Proofs.YthfolhgaecfogaaW.PrintLast Go.Proofs.YthfolhgaecfogaaW.PrintMore
theorem C_lit {α : Type} {d : Kd α} {w : World} {g e : Nat} {xs : List α} {cs : List Value} (hb : w.heap[g]? = some (.cells cs.toArray e (0, 0))) (hr : Reps (d.K w) d.sz xs cs) (hn : xs.length ≤ 9223372036854775807) : Kd.C d w (some ⟨g, 0, none⟩) xs.length xs := by
  refine ⟨rfl, hn, fun _ => ⟨_, rfl, fun j p hj => ⟨(cs.drop (j * d.sz)).take d.sz, d.K_len (hr.2 j p hj), hr.2 j p hj, fun i u hu => ?_⟩⟩⟩
  rw [Addr.add_lit, Nat.zero_add, cell_of_row w g _ cs.toArray e (0, 0) hb]
  have hi : i < ((cs.drop (j * d.sz)).take d.sz).length := (List.getElem?_eq_some_iff.1 hu).1
  rw [List.length_take] at hi
  rw [List.getElem?_take, if_pos (by omega), List.getElem?_drop] at hu
  simpa using hu
def hA : S34 := ⟨1, ⟨#[97]⟩, 0, ⟨#[]⟩, 1, []⟩
def hB : S34 := ⟨2, ⟨#[98]⟩, 0, ⟨#[]⟩, 1, []⟩
def hCc : S34 := ⟨3, ⟨#[99]⟩, 0, ⟨#[]⟩, 1, []⟩
theorem aw0 : addCode [hB] hA = 0 := by kernel_rfl
theorem aw1 : addList [hB] hA = [hA, hB] := by kernel_rfl
theorem aw2 : chCode [hA, hB] [hB, hCc] = 0 := by kernel_rfl
theorem aw3 : addsOf [hA, hB] [hB, hCc] = [3] := by kernel_rfl
theorem aw4 : cutsOf [hA, hB] [hB, hCc] = [1] := by kernel_rfl
theorem aw5 : samesOf [hA, hB] [hB, hCc] = [2] := by kernel_rfl
theorem aw6 : tableMay [hA, hB] = true := by kernel_rfl
theorem aw7 : idxF (fun h => h.f0 == 2) [hA, hB] = 1 := by kernel_rfl
theorem smallHost {h : S34} (h1 : h = hA ∨ h = hB ∨ h = hCc) : hostOk h ∧ h.f5.length ≤ 4194304 := by
  rcases h1 with rfl | rfl | rfl <;> exact ⟨⟨by decide, by decide, fun p hp => by cases hp⟩, by decide⟩
def cellsOf (h : S34) : List Value := [.int .i64 h.f0, .string h.f1, .int .i64 h.f2, .string h.f3, .int .i64 h.f4, .slice none 0 0]
theorem kLit (w : World) {h : S34} (h5 : h.f5 = []) : k34.K w h (cellsOf h) := by
  have := k34_mk w h (A5 := none) (c5 := 0) (by rw [h5]; exact Nat.le_refl _) (by rw [h5]; exact Kd.C_nil k77 w)
  rw [h5] at this
  exact this
set_option maxRecDepth 100000 in
set_option maxHeartbeats 4000000 in
theorem awake_any (w : World) : Calls Try.prog 12 #[] w fun e w' => e = .returned (.bool true) ∧ Ext w w' := by
  have hu34 := Try.underlying34
  go_enter Try.func12, Try.ntmps12
  go_wp2_with fail
  obtain ⟨W0, hW0⟩ : ∃ W0, W0 = (w.alloc (.cells #[.int .i64 1, .string ⟨#[97]⟩, .int .i64 0, .string ⟨#[]⟩, .int .i64 1, .slice none 0 0] 34)).alloc (.cells #[.int .i64 2, .string ⟨#[98]⟩, .int .i64 0, .string ⟨#[]⟩, .int .i64 1, .slice none 0 0] 34) := ⟨_, rfl⟩
  rw [← hW0]
  have hsz : W0.heap.size = w.heap.size + 1 + 1 := by rw [hW0]; simp
  have hX0 : Ext w W0 := by rw [hW0]; exact Ext.tr (ext_alloc _ _) (ext_alloc _ _)
  have hB0 : Blk34 W0 (w.heap.size + 1) #[.int .i64 2, .string ⟨#[98]⟩, .int .i64 0, .string ⟨#[]⟩, .int .i64 1, .slice none 0 0] := by rw [hW0]; have := heap_alloc_new (w.alloc (.cells #[.int .i64 1, .string ⟨#[97]⟩, .int .i64 0, .string ⟨#[]⟩, .int .i64 1, .slice none 0 0] 34)) (.cells #[.int .i64 2, .string ⟨#[98]⟩, .int .i64 0, .string ⟨#[]⟩, .int .i64 1, .slice none 0 0] 34); rwa [World.size_alloc] at this
  rw [← hsz]
  have hX1 := ext_alloc W0 (.cells #[.int .i64 2, .string ⟨#[98]⟩, .int .i64 0, .string ⟨#[]⟩, .int .i64 1, .slice none 0 0] 34)
  have hC1 : Kd.C k34 (W0.alloc (.cells #[.int .i64 2, .string ⟨#[98]⟩, .int .i64 0, .string ⟨#[]⟩, .int .i64 1, .slice none 0 0] 34)) (some ⟨W0.heap.size, 0, none⟩) [hB].length [hB] :=
    C_lit (e := 34) (cs := cellsOf hB) (heap_alloc_new W0 _) (reps_one_ (kLit _ rfl) rfl) (by decide)
  refine (add_any (some ⟨W0.heap.size, 0, none⟩) 1 [hB] hA none 0 _ hC1 (by decide) (by decide) (by simp; exact (smallHost (.inr (.inl rfl))).1) (by simp; exact (smallHost (.inr (.inl rfl))).2) (Kd.C_nil _ _) (by decide) (smallHost (.inl rfl)).1 (by decide)).mono ?_
  rintro e w1 ⟨v1, he, hN1, hb1⟩
  rw [aw0] at he
  subst he
  rw [aw1] at hN1
  obtain ⟨A1, c1, rfl, hl1, hR1⟩ := Kd.R_reads hN1
  have HR1 := Lib.hid hR1
  have hl1' : 2 ≤ c1 := hl1
  obtain ⟨q0, q1, q2, q3, q4, q5⟩ := Blk34.cells ((Ext.tr hX1 hb1).block (w.heap.size + 1) (by omega) |>.trans hB0)
  have hXw := Lib.hid (Ext.tr hX0 (Ext.tr hX1 hb1))
  obtain ⟨ad1, _, _, rfl, y0, y1, y2, y3, y4, y5, _, _⟩ := C34 hR1 (k := 0) (by decide)
  clear hC1 hN1 hR1 hb1 hX1 hX0 hB0 hsz hW0 hl1 y1 y2 y3 y4 y5
  go_wp2_with fail
  have hX2 := ext_alloc w1 (.cells #[.int .i64 2, .string ⟨#[98]⟩, .int .i64 0, .string ⟨#[]⟩, .int .i64 1, .slice none 0 0, .int .i64 3, .string ⟨#[99]⟩, .int .i64 0, .string ⟨#[]⟩, .int .i64 1, .slice none 0 0] 34)
  have hC2 : Kd.C k34 (w1.alloc (.cells #[.int .i64 2, .string ⟨#[98]⟩, .int .i64 0, .string ⟨#[]⟩, .int .i64 1, .slice none 0 0, .int .i64 3, .string ⟨#[99]⟩, .int .i64 0, .string ⟨#[]⟩, .int .i64 1, .slice none 0 0] 34)) (some ⟨w1.heap.size, 0, none⟩) [hB, hCc].length [hB, hCc] :=
    C_lit (e := 34) (cs := cellsOf hB ++ cellsOf hCc) (heap_alloc_new w1 _) (Kd.reps_append (reps_one_ (kLit _ rfl) rfl) (reps_one_ (kLit _ rfl) rfl)) (by decide)
  refine (change_any (some ad1) (some ⟨w1.heap.size, 0, none⟩) c1 2 [hA, hB] [hB, hCc] _ (Kd.C_below HR1.out hX2) hl1' (by decide) (fun h hh => (smallHost (by simp at hh; rcases hh with rfl | rfl <;> simp)).1) hC2 (by decide) (by decide) (fun h hh => (smallHost (by simp at hh; rcases hh with rfl | rfl <;> simp)).1)).mono ?_
  rintro e w2 ⟨v1, v2, v3, he, hN1, hN2, hN3, hb2⟩
  rw [aw2] at he
  subst he
  rw [aw3] at hN1
  rw [aw4] at hN2
  rw [aw5] at hN3
  obtain ⟨A4, c4, rfl, hl4, hR4⟩ := Kd.R_reads hN1
  obtain ⟨A5, c5, rfl, hl5, hR5⟩ := Kd.R_reads hN2
  obtain ⟨A6, c6, rfl, hl6, hR6⟩ := Kd.R_reads hN3
  obtain ⟨ad4, rfl, z4⟩ := CI hR4 (k := 0) (by decide)
  obtain ⟨ad5, rfl, z5⟩ := CI hR5 (k := 0) (by decide)
  have hX3 := Lib.hid (Ext.tr hX2 hb2)
  have x0 := (hX3.out.cell (World.block_lt_of_cell? w1 _ y0)).trans y0
  have x0' : w2.cell? ad1 = some (.int .i64 1) := by simpa [hA, go_sem] using x0
  have z4' : w2.cell? ad4 = some (.int .i64 3) := by simpa [go_sem] using z4
  have z5' : w2.cell? ad5 = some (.int .i64 1) := by simpa [go_sem] using z5
  clear hN1 hN2 hN3 hR4 hR5 hR6 hX2 hC2 hb2 hl4 hl5 hl6 y0 q0 q1 q2 q3 q4 q5 x0 z4 z5
  go_wp2_with fail
  refine (may_any (some ad1) c1 [hA, hB] w2 (Kd.C_below HR1.out hX3.out) hl1' (by decide) (fun h hh => (smallHost (by simp at hh; rcases hh with rfl | rfl <;> simp)).1)).mono ?_
  rintro e w3 ⟨he, hb3⟩
  rw [aw6] at he
  subst he
  go_wp2_with fail
  refine (find_any (some ad1) c1 [hA, hB] 2 w3 (Kd.C_below HR1.out (Ext.tr hX3.out hb3)) hl1').mono ?_
  rintro e w4 ⟨he, hb4⟩
  rw [aw7] at he
  subst he
  go_wp2
  go_ret
  exact ⟨rfl, Ext.tr hXw.out (Ext.tr hX3.out (Ext.tr hb3 hb4))⟩
end
section
open Go.RowKit Go.Proofs.YthfolhgaecfogaaW.PrintWords Go.Proofs.YthfolhgaecfogaaW.PrintLast Go.Proofs.YthfolhgaecfogaaW.PrintMore
/-! plain laws: what the tables' readings say -/
abbrev Rising (l : List S34) : Prop := l.Pairwise (fun a b => a.f0 < b.f0)
theorem rising_of {l : List S34} (h : risesB l = true) : Rising l := by
  have hs : ∀ i, i + 1 < l.length → (l.getD i z34).f0 < (l.getD (i + 1) z34).f0 := fun i hi => by
    have := List.all_eq_true.1 h i (List.mem_range.2 (by omega))
    simpa [riseAt] using this
  have hlt : ∀ d i, i + d + 1 < l.length → (l.getD i z34).f0 < (l.getD (i + d + 1) z34).f0 := by
    intro d
    induction d with
    | zero => exact fun i hi => hs i hi
    | succ d ih => exact fun i hi => Int.lt_trans (ih i (by omega)) (hs (i + d + 1) hi)
  refine List.pairwise_iff_getElem.2 ?_
  intro i j hi hj hij
  have h1 := hlt (j - i - 1) i (by omega)
  rw [show i + (j - i - 1) + 1 = j by omega] at h1
  rwa [List.getD_eq_getElem?_getD, List.getD_eq_getElem?_getD, List.getElem?_eq_getElem hi, List.getElem?_eq_getElem hj] at h1
theorem rises_of {l : List S34} (h : Rising l) : risesB l = true := by
  have h := List.pairwise_iff_getElem.1 h
  refine List.all_eq_true.2 (fun i hi => ?_)
  have hi' := List.mem_range.1 hi
  rw [riseAt_of l i (by omega)]
  exact decide_eq_true (h i (i + 1) (by omega) (by omega) (by omega))
theorem tableMay_iff {l : List S34} : tableMay l = true ↔ l.length ≤ 64 ∧ Rising l ∧ ∀ h ∈ l, hostMay h = true := by
  unfold tableMay
  rw [Bool.and_eq_true, Bool.and_eq_true, decide_eq_true_eq, List.all_eq_true]
  exact ⟨fun ⟨⟨a, b⟩, c⟩ => ⟨a, rising_of b, c⟩, fun ⟨a, b, c⟩ => ⟨⟨a, rises_of b⟩, c⟩⟩
theorem Rising.same {l : List S34} (hr : Rising l) {x y : S34} (hx : x ∈ l) (hy : y ∈ l) (h : x.f0 = y.f0) : x = y := by
  obtain ⟨i, hi, rfl⟩ := List.getElem_of_mem hx
  obtain ⟨j, hj, rfl⟩ := List.getElem_of_mem hy
  have hr := List.pairwise_iff_getElem.1 hr
  rcases Nat.lt_trichotomy i j with hij | hij | hij
  · have := hr i j hi hj hij; omega
  · subst hij; rfl
  · have := hr j i hj hi hij; omega
theorem findI_some {l : List S34} {id : Int} {i : Nat} (h : findI l id = i) : ∃ hi : i < l.length, l[i].f0 = id := by
  unfold findI idxF at h
  cases hf : l.findIdx? (fun h => h.f0 == id) with
  | none => rw [hf] at h; simp only at h; omega
  | some j =>
    rw [hf] at h
    simp only at h
    obtain rfl : j = i := by omega
    obtain ⟨hi, hp, _⟩ := List.findIdx?_eq_some_iff_getElem.1 hf
    exact ⟨hi, by simpa using hp⟩
theorem findI_none {l : List S34} {id : Int} (h : findI l id < 0) : ∀ x ∈ l, x.f0 ≠ id := by
  unfold findI idxF at h
  cases hf : l.findIdx? (fun h => h.f0 == id) with
  | none =>
    rw [List.findIdx?_eq_none_iff] at hf
    intro x hx he
    have := hf x hx
    simp [he] at this
  | some j => rw [hf] at h; simp only at h; omega
theorem findI_neg {l : List S34} {id : Int} (h : ∀ x ∈ l, x.f0 ≠ id) : findI l id < 0 := by
  rcases Int.lt_or_le (findI l id) 0 with h1 | h1
  · exact h1
  · obtain ⟨hi, he⟩ := findI_some (l := l) (id := id) (i := (findI l id).toNat) (by omega)
    exact absurd he (h _ (List.getElem_mem hi))
theorem sameAt_iff {l : List S34} (hl : Rising l) (h : S34) : sameAt l h = true ↔ ∃ x ∈ l, x.f0 = h.f0 ∧ x.f1.toList = h.f1.toList := by
  rcases Int.lt_or_le (findI l h.f0) 0 with h1 | h1
  · rw [sameAt_none h1]
    constructor
    · intro h2; cases h2
    · rintro ⟨x, hx, he, _⟩; exact absurd he (findI_none h1 x hx)
  · have hi : findI l h.f0 = ((findI l h.f0).toNat : Int) := by omega
    obtain ⟨hlt, he⟩ := findI_some hi
    rw [sameAt_some hi hlt, beq_iff_eq]
    constructor
    · intro h2; exact ⟨_, List.getElem_mem hlt, he, h2⟩
    · rintro ⟨x, hx, hx1, hx2⟩
      have := hl.same hx (List.getElem_mem hlt) (hx1.trans he.symm)
      rw [← this]; exact hx2
theorem eq_of_sorted : ∀ {a b : List Int}, a.Pairwise (· < ·) → b.Pairwise (· < ·) → (∀ x, x ∈ a ↔ x ∈ b) → a = b
  | [], [], _, _, _ => rfl
  | [], y :: s, _, _, h => by have := (h y).2 List.mem_cons_self; cases this
  | x :: r, [], _, _, h => by have := (h x).1 List.mem_cons_self; cases this
  | x :: r, y :: s, ha, hb, h => by
    rw [List.pairwise_cons] at ha hb
    have hxy : x = y := by
      have h1 := (h x).1 List.mem_cons_self
      have h2 := (h y).2 List.mem_cons_self
      rcases List.mem_cons.1 h1 with e | e
      · exact e
      · rcases List.mem_cons.1 h2 with e2 | e2
        · exact e2.symm
        · have := hb.1 x e; have := ha.1 y e2; omega
    subst hxy
    congr 1
    refine eq_of_sorted ha.2 hb.2 (fun z => ?_)
    constructor
    · intro hz
      rcases List.mem_cons.1 ((h z).1 (List.mem_cons_of_mem _ hz)) with e | e
      · subst e; have := ha.1 z hz; omega
      · exact e
    · intro hz
      rcases List.mem_cons.1 ((h z).2 (List.mem_cons_of_mem _ hz)) with e | e
      · subst e; have := hb.1 z hz; omega
      · exact e
theorem ids_sorted {l : List S34} (hl : Rising l) (p : S34 → Bool) : ((l.filter p).map (·.f0)).Pairwise (· < ·) := by
  rw [List.pairwise_map]
  exact hl.filter p
theorem same_comm {l m : List S34} (hl : Rising l) (hm : Rising m) : (m.filter (fun h => sameAt l h)).map (·.f0) = (l.filter (fun h => sameAt m h)).map (·.f0) := by
  refine eq_of_sorted (ids_sorted hm _) (ids_sorted hl _) (fun z => ?_)
  have side : ∀ {l m : List S34}, Rising l → Rising m → z ∈ (m.filter (fun h => sameAt l h)).map (·.f0) → z ∈ (l.filter (fun h => sameAt m h)).map (·.f0) := by
    intro l m hl hm hz
    obtain ⟨h, hh, rfl⟩ := List.mem_map.1 hz
    obtain ⟨hhm, hs⟩ := List.mem_filter.1 hh
    obtain ⟨x, hx, h1, h2⟩ := (sameAt_iff hl h).1 hs
    exact List.mem_map.2 ⟨x, List.mem_filter.2 ⟨hx, (sameAt_iff hm x).2 ⟨h, hhm, h1.symm, h2.symm⟩⟩, h1⟩
  exact ⟨side hl hm, side hm hl⟩
theorem cuts_eq (l m : List S34) : cutsOf l m = rcutsOf l m := by
  unfold cutsOf rcutsOf samesOf
  cases hb : bothMay l m
  · rfl
  · simp only [if_true]
    unfold bothMay at hb
    rw [Bool.and_eq_true] at hb
    have hl := (tableMay_iff.1 hb.1).2.1
    have hm := (tableMay_iff.1 hb.2).2.1
    congr 1
    refine List.filter_congr (fun h hh => ?_)
    congr 1
    rw [Bool.eq_iff_iff, List.any_eq_true, sameAt_iff hm]
    constructor
    · rintro ⟨y, hy, he⟩
      obtain ⟨g, hg, rfl⟩ := List.mem_map.1 hy
      obtain ⟨hgm, hs⟩ := List.mem_filter.1 hg
      obtain ⟨x, hx, h1, h2⟩ := (sameAt_iff hl g).1 hs
      have he' : h.f0 = g.f0 := by simpa using he
      have := hl.same hx hh (h1.trans he'.symm)
      subst this
      exact ⟨g, hgm, h1.symm, h2.symm⟩
    · rintro ⟨g, hgm, h1, h2⟩
      exact ⟨g.f0, List.mem_map.2 ⟨g, List.mem_filter.2 ⟨hgm, (sameAt_iff hl g).2 ⟨h, hh, h1.symm, h2.symm⟩⟩, rfl⟩, by simp [h1]⟩
theorem both_comm (l m : List S34) : bothMay m l = bothMay l m := by unfold bothMay; rw [Bool.and_comm]
theorem add_cut (l m : List S34) : addsOf l m = cutsOf m l := by
  rw [cuts_eq]
  unfold addsOf rcutsOf
  rw [both_comm l m]
theorem cut_add (l m : List S34) : cutsOf l m = addsOf m l := (add_cut m l).symm
theorem same_same (l m : List S34) : samesOf l m = samesOf m l := by
  unfold samesOf
  rw [both_comm l m]
  cases hb : bothMay l m
  · rfl
  · simp only [if_true]
    unfold bothMay at hb
    rw [Bool.and_eq_true] at hb
    exact same_comm (tableMay_iff.1 hb.1).2.1 (tableMay_iff.1 hb.2).2.1
theorem filter_parts (p : S34 → Bool) : ∀ l : List S34, (l.filter (fun h => !p h)).length + (l.filter p).length = l.length
  | [] => rfl
  | x :: r => by
    have := filter_parts p r
    cases h : p x <;> simp [List.filter_cons, h] <;> omega
theorem add_len {l m : List S34} (hb : bothMay l m = true) : (addsOf l m).length + (samesOf l m).length = m.length := by
  unfold addsOf samesOf
  simp only [hb, if_true, List.length_map]
  exact filter_parts (fun h => sameAt l h) m
theorem cut_len {l m : List S34} (hb : bothMay l m = true) : (cutsOf l m).length + (samesOf l m).length = l.length := by
  rw [cut_add, same_same]
  exact add_len (by rw [both_comm]; exact hb)
theorem self_same {l : List S34} (hb : tableMay l = true) : addsOf l l = [] ∧ cutsOf l l = [] ∧ (samesOf l l).length = l.length := by
  have hr := (tableMay_iff.1 hb).2.1
  have hb2 : bothMay l l = true := by unfold bothMay; rw [hb]; rfl
  have hs : ∀ h ∈ l, sameAt l h = true := fun h hh => (sameAt_iff hr h).2 ⟨h, hh, rfl, rfl⟩
  have ha : addsOf l l = [] := by
    unfold addsOf
    simp only [hb2, if_true]
    rw [List.map_eq_nil_iff, List.filter_eq_nil_iff]
    intro h hh
    simp [hs h hh]
  refine ⟨ha, by rw [← add_cut]; exact ha, ?_⟩
  have := add_len hb2
  rw [ha] at this
  simpa using this
end
section
open Go.RowKit Go.Proofs.YthfolhgaecfogaaW.PrintWords Go.Proofs.YthfolhgaecfogaaW.PrintLast Go.Proofs.YthfolhgaecfogaaW.PrintMore
theorem light8_two (l : List S34) : light8 l = 0 ∨ light8 l = 1 := by unfold light8; split; exact .inl rfl; exact .inr rfl
theorem chCode_zero {l m : List S34} (h : bothMay l m = true) : chCode l m = 0 := by unfold chCode; rw [h]; rfl
theorem szs {l : List S34} (hs : ∀ h ∈ l, hostSz h ≤ 4194304) : ∀ h ∈ l, hostOk h := fun h hh => hostOk_of (hs h hh)
/-- the contract of Change once both may stand, the lengths named -/
theorem change_yes (A B : Option Addr) (c cb : Nat) (l m : List S34) (w : World) (hC : Kd.C k34 w A l.length l) (hc : l.length ≤ c) (hl : ∀ h ∈ l, hostSz h ≤ 4194304)
    (hD : Kd.C k34 w B m.length m) (hcb : m.length ≤ cb) (hlb : ∀ h ∈ m, hostSz h ≤ 4194304) (h1 : tableMay l = true) (h2 : tableMay m = true) :
    Calls Try.prog 13 #[.slice A l.length c, .slice B m.length cb] w fun e w' => ∃ (A1 A2 A3 : Option Addr) (n1 n2 n3 c1 c2 c3 : Nat), e = .returned (.tuple #[.slice A1 n1 c1, .slice A2 n2 c2, .slice A3 n3 c3, .int .i64 0]) ∧
      Hid (n1 = (addsOf l m).length) ∧ Hid (n2 = (cutsOf l m).length) ∧ Hid (n3 = (samesOf l m).length) ∧ n1 ≤ c1 ∧ n2 ≤ c2 ∧ n3 ≤ c3 ∧ Hid (Kd.C kI w' A1 n1 (addsOf l m)) ∧ Hid (Kd.C kI w' A2 n2 (cutsOf l m)) ∧ Hid (Kd.C kI w' A3 n3 (samesOf l m)) ∧ Ext w w' := by
  have hll := (tableMay_iff.1 h1).1
  have hml := (tableMay_iff.1 h2).1
  refine (change_any A B c cb l m w hC hc (by omega) (szs hl) hD hcb (by omega) (szs hlb)).mono ?_
  rintro e w' ⟨v1, v2, v3, rfl, hN1, hN2, hN3, hb⟩
  obtain ⟨A1, c1, rfl, hl1, hR1⟩ := Kd.R_reads hN1
  obtain ⟨A2, c2, rfl, hl2, hR2⟩ := Kd.R_reads hN2
  obtain ⟨A3, c3, rfl, hl3, hR3⟩ := Kd.R_reads hN3
  exact ⟨A1, A2, A3, _, _, _, c1, c2, c3, by rw [chCode_zero (by unfold bothMay; rw [h1, h2]; rfl)], rfl, rfl, rfl, hl1, hl2, hl3, hR1, hR2, hR3, hb⟩
set_option maxRecDepth 100000 in
set_option maxHeartbeats 400000 in
theorem tableChanges_any (A B : Option Addr) (c cb : Nat) (l m : List S34) (w : World) (hC : Kd.C k34 w A l.length l) (hc : l.length ≤ c) (hl : ∀ h ∈ l, hostSz h ≤ 4194304) (hn : l.length ≤ 4194304)
    (hD : Kd.C k34 w B m.length m) (hcb : m.length ≤ cb) (hlb : ∀ h ∈ m, hostSz h ≤ 4194304) (hnb : m.length ≤ 4194304) :
    Calls Try.prog 3 #[.slice A l.length c, .slice B m.length cb] w fun e w' => e = .returned (.bool true) ∧ Ext w w' := by
  have HC := Lib.hid hC
  have HD := Lib.hid hD
  clear hC hD
  by_cases hLL : light8 l = 0 ∧ light8 m = 0
  · cases h1 : tableMay l
    · go_enter Try.func3, Try.ntmps3
      go_wp2_with fail
      refine (light8_any A c l w HC.out hc hl).mono ?_
      rintro e w1 ⟨he, hb1⟩
      rw [hLL.1] at he
      subst he
      go_wp2_with fail
      refine (light8_any B cb m w1 (Kd.C_below HD.out hb1) hcb hlb).mono ?_
      rintro e w2 ⟨he, hb2⟩
      rw [hLL.2] at he
      subst he
      have hX := Lib.hid (Ext.tr hb1 hb2)
      go_wp2_with fail
      refine (rmayTable_any A c l w2 (Kd.C_below HC.out hX.out) hc).mono ?_
      rintro e w3 ⟨he, hb3⟩
      rw [h1] at he
      subst he
      go_wp2_with fail
      refine (awake_any w3).mono ?_
      rintro e w4 ⟨rfl, hb4⟩
      go_wp2
      go_ret
      exact ⟨rfl, Ext.tr hX.out (Ext.tr hb3 hb4)⟩
    · cases h2 : tableMay m
      · go_enter Try.func3, Try.ntmps3
        go_wp2_with fail
        refine (light8_any A c l w HC.out hc hl).mono ?_
        rintro e w1 ⟨he, hb1⟩
        rw [hLL.1] at he
        subst he
        go_wp2_with fail
        refine (light8_any B cb m w1 (Kd.C_below HD.out hb1) hcb hlb).mono ?_
        rintro e w2 ⟨he, hb2⟩
        rw [hLL.2] at he
        subst he
        have hX := Lib.hid (Ext.tr hb1 hb2)
        go_wp2_with fail
        refine (rmayTable_any A c l w2 (Kd.C_below HC.out hX.out) hc).mono ?_
        rintro e w3 ⟨he, hb3⟩
        rw [h1] at he
        subst he
        go_wp2_with fail
        refine (rmayTable_any B cb m w3 (Kd.C_below HD.out (Ext.tr hX.out hb3)) hcb).mono ?_
        rintro e w4 ⟨he, hb4⟩
        rw [h2] at he
        subst he
        go_wp2_with fail
        refine (awake_any w4).mono ?_
        rintro e w5 ⟨rfl, hb5⟩
        go_wp2
        go_ret
        exact ⟨rfl, Ext.tr (Ext.tr hX.out (Ext.tr hb3 hb4)) hb5⟩
      · have hll := (tableMay_iff.1 h1).1
        have hml := (tableMay_iff.1 h2).1
        have hbm : bothMay l m = true := by unfold bothMay; rw [h1, h2]; rfl
        have hbm2 : bothMay m l = true := by unfold bothMay; rw [h1, h2]; rfl
        have a1 := Lib.hid (add_len hbm)
        have a2 := Lib.hid (cut_len hbm)
        have a3 := Lib.hid (self_same h1)
        have E1 := Lib.hid (add_cut l m)
        have E2 := Lib.hid (cut_add l m)
        have E3 := Lib.hid (same_same l m)
        clear hbm hbm2
        go_enter Try.func3, Try.ntmps3
        go_wp2_with fail
        refine (light8_any A c l w HC.out hc hl).mono ?_
        rintro e w1 ⟨he, hb1⟩
        rw [hLL.1] at he
        subst he
        go_wp2_with fail
        refine (light8_any B cb m w1 (Kd.C_below HD.out hb1) hcb hlb).mono ?_
        rintro e w2 ⟨he, hb2⟩
        rw [hLL.2] at he
        subst he
        have hX := Lib.hid (Ext.tr hb1 hb2)
        go_wp2_with fail
        refine (rmayTable_any A c l w2 (Kd.C_below HC.out hX.out) hc).mono ?_
        rintro e w3 ⟨he, hb3⟩
        rw [h1] at he
        subst he
        go_wp2_with fail
        refine (rmayTable_any B cb m w3 (Kd.C_below HD.out (Ext.tr hX.out hb3)) hcb).mono ?_
        rintro e w4 ⟨he, hb4⟩
        rw [h2] at he
        subst he
        have hX4 := Lib.hid (Ext.tr hX.out (Ext.tr hb3 hb4))
        clear hb1 hb2 hb3 hb4 hX
        go_wp2_with fail
        refine (change_yes A B c cb l m w4 (Kd.C_below HC.out hX4.out) hc hl (Kd.C_below HD.out hX4.out) hcb hlb h1 h2).mono ?_
        rintro e w5 ⟨A1, A2, A3, n1, n2, n3, c1, c2, c3, rfl, hn1, hn2, hn3, hc1, hc2, hc3, hC1, hC2, hC3, hb5⟩
        have hX5 := Lib.hid (Ext.tr hX4.out hb5)
        go_wp2_with fail
        refine (change_yes B A cb c m l w5 (Kd.C_below HD.out hX5.out) hcb hlb (Kd.C_below HC.out hX5.out) hc hl h2 h1).mono ?_
        rintro e w6 ⟨B1, B2, B3, m1, m2, m3, d1, d2, d3, rfl, hm1, hm2, hm3, hd1, hd2, hd3, hD1, hD2, hD3, hb6⟩
        have hw1 : IntKind.i64.wrap ((n1 : Int) + (n3 : Int)) = (m.length : Int) := by have := a1.out; rw [← hn1.out, ← hn3.out] at this; rw [IntKind.wrap_i64]; omega
        have hw2 : IntKind.i64.wrap ((n2 : Int) + (n3 : Int)) = (l.length : Int) := by have := a2.out; rw [← hn2.out, ← hn3.out] at this; rw [IntKind.wrap_i64]; omega
        clear hn1 hn2 hn3 hm1 hm2 hm3
        go_wp2_with fail
        refine (ints_same A1 B2 n1 m2 c1 d2 _ _ w6 E1.out (Kd.C_below hC1.out hb6) hD2.out hc1 hd2).mono ?_
        rintro e w7 ⟨rfl, hb7⟩
        go_wp2_with fail
        refine (ints_same A2 B1 n2 m1 c2 d1 _ _ w7 E2.out (Kd.C_below hC2.out (Ext.tr hb6 hb7)) (Kd.C_below hD1.out hb7) hc2 hd1).mono ?_
        rintro e w8 ⟨rfl, hb8⟩
        go_wp2_with fail
        refine (ints_same A3 B3 n3 m3 c3 d3 _ _ w8 E3.out (Kd.C_below hC3.out (Ext.tr hb6 (Ext.tr hb7 hb8))) (Kd.C_below hD3.out (Ext.tr hb7 hb8)) hc3 hd3).mono ?_
        rintro e w9 ⟨rfl, hb9⟩
        have hX9 := Lib.hid (Ext.tr hX5.out (Ext.tr hb6 (Ext.tr hb7 (Ext.tr hb8 hb9))))
        go_wp2_with fail
        refine (change_yes A A c c l l w9 (Kd.C_below HC.out hX9.out) hc hl (Kd.C_below HC.out hX9.out) hc hl h1 h1).mono ?_
        rintro e w10 ⟨F1, F2, F3, k1, k2, k3, f1, f2, f3, rfl, hk1, hk2, hk3, hf1, hf2, hf3, hF1, hF2, hF3, hb10⟩
        have hk1 := hk1.out
        have hk2 := hk2.out
        have hk3 := hk3.out
        rw [a3.out.1] at hk1
        rw [a3.out.2.1] at hk2
        rw [a3.out.2.2] at hk3
        subst hk1; subst hk2; subst hk3
        have hX10 := Lib.hid (Ext.tr hX9.out hb10)
        clear hb5 hb6 hb7 hb8 hb9 hb10
        go_wp2_with fail
        refine (awake_any w10).mono ?_
        rintro e w11 ⟨rfl, hb11⟩
        go_wp2
        go_ret
        exact ⟨rfl, Ext.tr hX10.out hb11⟩
  · obtain ⟨L1, hL1⟩ : ∃ L1, L1 = light8 l := ⟨_, rfl⟩
    obtain ⟨L2, hL2⟩ : ∃ L2, L2 = light8 m := ⟨_, rfl⟩
    have b1 := light8_two l
    have b2 := light8_two m
    rw [← hL1, ← hL2] at hLL
    rw [← hL1] at b1
    rw [← hL2] at b2
    have hsum : 0 < L1 + L2 := by omega
    have hw : IntKind.i64.wrap (L1 + L2) = L1 + L2 := by rw [IntKind.wrap_i64]; omega
    have HL1 := Lib.hid hL1
    have HL2 := Lib.hid hL2
    clear hL1 hL2 b1 b2 hLL
    go_enter Try.func3, Try.ntmps3
    go_wp2_with fail
    refine (light8_any A c l w HC.out hc hl).mono ?_
    rintro e w1 ⟨he, hb1⟩
    rw [← HL1.out] at he
    subst he
    go_wp2_with fail
    refine (light8_any B cb m w1 (Kd.C_below HD.out hb1) hcb hlb).mono ?_
    rintro e w2 ⟨he, hb2⟩
    rw [← HL2.out] at he
    subst he
    go_wp2_with fail
    refine (awake_any w2).mono ?_
    rintro e w3 ⟨rfl, hb3⟩
    go_wp2
    go_ret
    exact ⟨rfl, Ext.tr (Ext.tr hb1 hb2) hb3⟩
end
end Go.Proofs.Ythfolhgaecfogaa
