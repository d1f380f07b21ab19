import Derived.Test.YthfolhgaecfogaaT24
set_option linter.unusedVariables false
set_option linter.unusedSimpArgs false
namespace Go.Proofs.Ythfolhgaecfogaa
open Go.RowKit Go.Proofs.YthfolhgaecfogaaW.PrintWords Go.Proofs.YthfolhgaecfogaaW.PrintLast Go.Proofs.YthfolhgaecfogaaW.PrintMore
/-- two rows of one's own that lie apart -/
def Two {α : Type} (d : Kd α) (e : Nat) (w0 w : World) (v u : Value) (xs ys : List α) : Prop := Kd.R d e w w0.heap.size (fun _ => True) v xs ∧ Kd.R d e w w0.heap.size (fun k => some k ≠ v.ownBlock) u ys
theorem Two.step {α : Type} {d : Kd α} {e : Nat} {w0 w w1 : World} {v u : Value} {xs ys : List α} (h : Two d e w0 w v u xs ys) (hb : Ext w w1) : Two d e w0 w1 v u xs ys := ⟨Kd.R_below h.1 hb, Kd.R_below h.2 hb⟩
theorem Two.first {α : Type} {d : Kd α} {e : Nat} {w0 w w1 : World} {v v1 u : Value} {xs xs1 ys : List α} (h : Two d e w0 w v u xs ys) (h1 : Kd.R d e w1 w0.heap.size (fun _ => True) v1 xs1) (hg : w.grownBy w1 v.ownBlock) (hat : v1.ownBlock = v.ownBlock ∨ ∃ b, v1.ownBlock = some b ∧ w.heap.size ≤ b) : Two d e w0 w1 v1 u xs1 ys := by
  refine ⟨h1, Kd.R_mono (Kd.R_grown (Kd.R_bound h.2) hg (fun k hk => hk.1)) (fun k hk => ?_)⟩
  rcases hat with hat | ⟨b, hb, hle⟩
  · rw [hat]; exact hk.1
  · rw [hb]; intro he; injection he with he; have := hk.2.2.1; omega
theorem Two.second {α : Type} {d : Kd α} (hE : d.E = []) {e : Nat} {w0 w w1 : World} {v u u1 : Value} {xs ys ys1 : List α} (h : Two d e w0 w v u xs ys) (h1 : Kd.R d e w1 w0.heap.size (fun k => some k ≠ v.ownBlock) u1 ys1) (hg : w.grownBy w1 u.ownBlock) : Two d e w0 w1 v u1 xs ys1 := by
  refine ⟨Kd.R_mono (Kd.R_grown (Kd.R_tight hE h.1) hg (fun k hk he => ?_)) (fun _ _ => trivial), h1⟩
  have := h.2.1 k he.symm
  exact this hk
theorem Two.fresh {α : Type} {d : Kd α} {e : Nat} {w0 w : World} {v u : Value} {xs ys : List α} (h : Two d e w0 w v u xs ys) : ∀ k, w.heap.size ≤ k → some k ≠ v.ownBlock := fun k hk he => by have := Kd.R_lt h.1 k he.symm; omega
/-- is there a host of the same number and the same address? -/
def sameAt (l : List S34) (h : S34) : Bool := match l[(findI l h.f0).toNat]? with | some x => decide (0 ≤ findI l h.f0) && (x.f1.toList == h.f1.toList) | none => false
def bothMay (l m : List S34) : Bool := tableMay l && tableMay m
def addsOf (l m : List S34) : List Int := if bothMay l m then (m.filter (fun h => !sameAt l h)).map (·.f0) else []
def samesOf (l m : List S34) : List Int := if bothMay l m then (m.filter (fun h => sameAt l h)).map (·.f0) else []
def cutsOf (l m : List S34) : List Int := if bothMay l m then (l.filter (fun h => !(samesOf l m).any (fun y => h.f0 == y))).map (·.f0) else []
def rcutsOf (l m : List S34) : List Int := if bothMay l m then (l.filter (fun h => !sameAt m h)).map (·.f0) else []
def chCode (l m : List S34) : Int := if bothMay l m then 0 else 1
/-- the ids of the first k that p keeps -/
def idsK (p : S34 → Bool) (l : List S34) (k : Nat) : List Int := ((l.take k).filter p).map (·.f0)
theorem idsK_yes {p : S34 → Bool} {l : List S34} {k : Nat} (hk : k < l.length) (h : p l[k] = true) : idsK p l (k + 1) = idsK p l k ++ [l[k].f0] := by
  unfold idsK
  rw [List.take_succ_eq_append_getElem hk, List.filter_append, List.map_append]
  simp [h]
theorem idsK_no {p : S34 → Bool} {l : List S34} {k : Nat} (hk : k < l.length) (h : p l[k] = false) : idsK p l (k + 1) = idsK p l k := by
  unfold idsK
  rw [List.take_succ_eq_append_getElem hk, List.filter_append, List.map_append]
  simp [h]
theorem idsK_len (p : S34 → Bool) (l : List S34) (k : Nat) : (idsK p l k).length ≤ l.length := by
  unfold idsK
  rw [List.length_map]
  exact Nat.le_trans (List.length_filter_le _ _) (by rw [List.length_take]; omega)
theorem idsK_end (p : S34 → Bool) (l : List S34) : idsK p l l.length = (l.filter p).map (·.f0) := by unfold idsK; rw [List.take_length]
theorem sameAt_none {l : List S34} {h : S34} (hn : findI l h.f0 < 0) : sameAt l h = false := by
  unfold sameAt
  have : decide (0 ≤ findI l h.f0) = false := decide_eq_false (by omega)
  rw [this]
  split <;> rfl
theorem sameAt_some {l : List S34} {h : S34} {i : Nat} (hi : findI l h.f0 = i) (hl : i < l.length) : sameAt l h = (l[i].f1.toList == h.f1.toList) := by
  unfold sameAt
  rw [hi]
  have : decide ((0 : Int) ≤ (i : Int)) = true := decide_eq_true (by omega)
  simp [hl]
set_option maxRecDepth 100000 in
set_option maxHeartbeats 4000000 in
theorem change_any (A B : Option Addr) (c cb : Nat) (l m : List S34) (w : World) (hC : Kd.C k34 w A l.length l) (hc : l.length ≤ c) (hn : l.length ≤ 4194304) (hl : ∀ h ∈ l, hostOk h)
    (hD : Kd.C k34 w B m.length m) (hcb : m.length ≤ cb) (hnb : m.length ≤ 4194304) (hlb : ∀ h ∈ m, hostOk h) :
    Calls Try.prog 13 #[.slice A l.length c, .slice B m.length cb] w fun e w' => ∃ v1 v2 v3, e = .returned (.tuple #[v1, v2, v3, .int .i64 (chCode l m)]) ∧ New kI 3 w w' v1 (addsOf l m) ∧ New kI 3 w w' v2 (cutsOf l m) ∧ New kI 3 w w' v3 (samesOf l m) ∧ Ext w w' := by
  have hu34 := Try.underlying34
  have HC := Lib.hid hC
  have HD := Lib.hid hD
  have hm := len_max hC
  have hmb := len_max hD
  clear hC hD
  cases h1 : tableMay l
  · have hb0 : bothMay l m = false := by simp [bothMay, h1]
    have hr : Hid (chCode l m = 1 ∧ addsOf l m = [] ∧ cutsOf l m = [] ∧ samesOf l m = []) := by refine ⟨?_, ?_, ?_, ?_⟩ <;> simp [chCode, addsOf, cutsOf, samesOf, hb0]
    go_enter Try.func13, Try.ntmps13
    go_wp2_with fail
    refine (may_any A c l w HC.out hc hn hl).mono ?_
    rintro e w1 ⟨rfl, hb1⟩
    rw [h1]
    go_wp2
    refine bodyPost_ret (v := .tuple #[.slice none 0 0, .slice none 0 0, .slice none 0 0, .int .i64 1]) (by simp [results, Try.results13, go_sem]) rfl ?_
    exact ⟨_, _, _, by rw [hr.out.1], by rw [hr.out.2.1]; exact Kd.R_nil _ _ _ _ _, by rw [hr.out.2.2.1]; exact Kd.R_nil _ _ _ _ _, by rw [hr.out.2.2.2]; exact Kd.R_nil _ _ _ _ _, hb1⟩
  cases h2 : tableMay m
  · have hb0 : bothMay l m = false := by simp [bothMay, h2]
    have hr : Hid (chCode l m = 1 ∧ addsOf l m = [] ∧ cutsOf l m = [] ∧ samesOf l m = []) := by refine ⟨?_, ?_, ?_, ?_⟩ <;> simp [chCode, addsOf, cutsOf, samesOf, hb0]
    go_enter Try.func13, Try.ntmps13
    go_wp2_with fail
    refine (may_any A c l w HC.out hc hn hl).mono ?_
    rintro e w1 ⟨rfl, hb1⟩
    rw [h1]
    go_wp2_with fail
    refine (may_any B cb m w1 (Kd.C_below HD.out hb1) hcb hnb hlb).mono ?_
    rintro e w2 ⟨rfl, hb2⟩
    rw [h2]
    go_wp2
    refine bodyPost_ret (v := .tuple #[.slice none 0 0, .slice none 0 0, .slice none 0 0, .int .i64 1]) (by simp [results, Try.results13, go_sem]) rfl ?_
    exact ⟨_, _, _, by rw [hr.out.1], by rw [hr.out.2.1]; exact Kd.R_nil _ _ _ _ _, by rw [hr.out.2.2.1]; exact Kd.R_nil _ _ _ _ _, by rw [hr.out.2.2.2]; exact Kd.R_nil _ _ _ _ _, Ext.tr hb1 hb2⟩
  have hb0 : bothMay l m = true := by simp [bothMay, h1, h2]
  have hr : Hid (chCode l m = 0 ∧ addsOf l m = idsK (fun h => !sameAt l h) m m.length ∧ samesOf l m = idsK (fun h => sameAt l h) m m.length) := by
    refine ⟨?_, ?_, ?_⟩
    · simp [chCode, hb0]
    · rw [idsK_end]; simp [addsOf, hb0]
    · rw [idsK_end]; simp [samesOf, hb0]
  have hr2 : Hid (cutsOf l m = idsK (fun h => !(idsK (fun h => sameAt l h) m m.length).any (fun y => h.f0 == y)) l l.length) := by
    show _ = _
    rw [idsK_end, ← hr.out.2.2]; simp [cutsOf, hb0]
  have hl64 : l.length ≤ 64 := by
    simp only [tableMay, Bool.and_eq_true, decide_eq_true_eq] at h1
    exact h1.1.1
  have hm64 : m.length ≤ 64 := by
    simp only [tableMay, Bool.and_eq_true, decide_eq_true_eq] at h2
    exact h2.1.1
  clear hb0
  go_enter Try.func13, Try.ntmps13
  go_wp2_with fail
  refine (may_any A c l w HC.out hc hn hl).mono ?_
  rintro e w1 ⟨rfl, hb1⟩
  rw [h1]
  go_wp2_with fail
  refine (may_any B cb m w1 (Kd.C_below HD.out hb1) hcb hnb hlb).mono ?_
  rintro e w2 ⟨rfl, hb2⟩
  rw [h2]
  have hX := Lib.hid (Ext.tr hb1 hb2)
  clear hb1 hb2
  go_wp2
  go_loopw [4, 6, 23] (fun va vs i wr => ∃ k : Nat, k ≤ m.length ∧ i = .int .i64 k ∧ Hid (Two kI 3 w2 wr va vs (idsK (fun h => !sameAt l h) m k) (idsK (fun h => sameAt l h) m k)) ∧ Ext w2 wr) (fun _ _ i _ => m.length - (intOf i).toNat)
  case atStart => exact ⟨0, Nat.zero_le _, rfl, ⟨Kd.R_nil _ _ _ _ _, Kd.R_nil _ _ _ _ _⟩, Below.refl _ _⟩
  case round =>
    obtain ⟨k, hk, rfl, hR, hb⟩ := hrel
    by_cases hlt : k < m.length
    · have hE := Lib.hid (Ext.tr hX.out hb)
      obtain ⟨ad, A6, c6, rfl, x0, x1, x2, x3, x4, x5, hl6, HC6⟩ := C34 (Kd.C_below HD.out hE.out) hlt
      have hsl1 := idsK_len (fun h => !sameAt l h) m k
      have hsl2 := idsK_len (fun h => sameAt l h) m k
      obtain ⟨al, hal⟩ : ∃ al : Obj, al = .cells #[.int .i64 m[k].f0, .string m[k].f1, .int .i64 m[k].f2, .string m[k].f3, .int .i64 m[k].f4, .slice A6 m[k].f5.length c6] 34 := ⟨_, rfl⟩
      have hE1 : Hid (Ext w (wr.alloc al)) := Ext.tr hE.out (ext_alloc _ _)
      have hbk : Hid (Blk34 (wr.alloc al) wr.heap.size #[.int .i64 m[k].f0, .string m[k].f1, .int .i64 m[k].f2, .string m[k].f3, .int .i64 m[k].f4, .slice A6 m[k].f5.length c6]) := by rw [hal]; exact heap_alloc_new wr _
      have hR1 : Hid (Two kI 3 w2 (wr.alloc al) u4 u6 (idsK (fun h => !sameAt l h) m k) (idsK (fun h => sameAt l h) m k)) := hR.out.step (ext_alloc _ _)
      have hb1 : Hid (Ext w2 (wr.alloc al)) := Ext.tr hb (ext_alloc _ _)
      have hfl := findI_lt l m[k].f0
      have hF0 : findI l m[k].f0 = idxF (fun x => x.f0 == m[k].f0) l := rfl
      subst hal
      by_cases hF : findI l m[k].f0 < 0
      · have hsm := sameAt_none hF
        obtain ⟨F, hFe⟩ : ∃ F, F = findI l m[k].f0 := ⟨_, rfl⟩
        have hF' : F < 0 := by omega
        have hd : decide (0 ≤ F) = false := decide_eq_false (by omega)
        have HF := Lib.hid (hFe.trans hF0)
        have hs1 := Lib.hid (idsK_yes (p := fun h => !sameAt l h) hlt (by simp [hsm]))
        have hs2 := Lib.hid (idsK_no (p := fun h => sameAt l h) hlt hsm)
        clear hF hFe hF0 hfl hsm
        go_wp2_with fail
        refine (find_any A c l m[k].f0 _ (Kd.C_below HC.out hE1.out) hc).mono ?_
        rintro e w4 ⟨he, hb4⟩
        have he2 := he.trans (show _ = Ending.returned (.int .i64 F) by rw [HF.out])
        clear he
        subst he2
        clear x0 x1 x2 x3 x4 x5
        obtain ⟨q0, q1, q2, q3, q4, q5⟩ := Blk34.cells ((hb4.block wr.heap.size (by simp)).trans hbk.out)
        have y0 := fun d os => cell_regrown q0 d os
        have y1 := fun d os => cell_regrown q1 d os
        go_wp2
        refine wp_region_quiet_below (by kernel_rfl) (by kernel_rfl) ?_
        repeat (go_big_quiet_step (fail))
        refine wpQuiet_nil ?_
        intro _ hw'
        obtain ⟨⟨dq, osq⟩, hw''⟩ := hw'
        subst hw''
        have hR2 := Lib.hid (hR1.out.step (Ext.tr hb4 (below_regrown _ dq osq)))
        have HB3 := Lib.hid (Ext.tr hb1.out (Ext.tr hb4 (below_regrown _ dq osq)))
        clear hb4
        go_wp2_with (at_builtin; refine Kd.R_append (w0 := w2) kI w2.heap.size rfl _ _ _ 3 _ 8 rfl Try.underlying26 infoI rfl (by decide) (by decide) u4 (idsK (fun h => !sameAt l h) m k) m[k].f0 [.int .i64 m[k].f0] (fun _ => True) (fun _ => False) rfl (by simp [Act.eval]) rfl (fun k hk => hk.elim) (fun _ _ => trivial) hR2.out.1 HB3.out HB3.out.size (by omega) ?_; intro v1 w5 hR3 hb5 hg hat; have HR3 := Lib.hid (hR2.out.first hR3 hg hat); have HB5 := Lib.hid hb5; clear hR3 hb5 hg hat)
        go_roundw
        case rel => exact ⟨k + 1, by omega, by go_num, by show Two _ _ _ _ _ _ _ _; rw [hs1.out, hs2.out]; exact HR3.out, HB5.out⟩
        case measure => simp [intOf]; omega
      · obtain ⟨F, hFe⟩ : ∃ F : Nat, F = (findI l m[k].f0).toNat := ⟨_, rfl⟩
        have hFi : findI l m[k].f0 = (F : Int) := by omega
        have hFl : F < l.length := by omega
        have hsm := sameAt_some (h := m[k]) hFi hFl
        have HF := Lib.hid (hFi.symm.trans hF0)
        clear hF hFe hF0 hfl hFi
        cases hq : l[F].f1.toList == m[k].f1.toList
        · rw [hq] at hsm
          have hs1 := Lib.hid (idsK_yes (p := fun h => !sameAt l h) hlt (by simp [hsm]))
          have hs2 := Lib.hid (idsK_no (p := fun h => sameAt l h) hlt hsm)
          clear hsm
          go_wp2_with fail
          refine (find_any A c l m[k].f0 _ (Kd.C_below HC.out hE1.out) hc).mono ?_
          rintro e w4 ⟨he, hb4⟩
          have he2 := he.trans (show _ = Ending.returned (.int .i64 (F : Int)) by rw [HF.out])
          clear he
          subst he2
          clear x0 x1 x2 x3 x4 x5
          obtain ⟨q0, q1, q2, q3, q4, q5⟩ := Blk34.cells ((hb4.block wr.heap.size (by simp)).trans hbk.out)
          obtain ⟨adl, A7, c7, rfl, z0, z1, z2, z3, z4, z5, hl7, HC7⟩ := C34 (Kd.C_below HC.out (Ext.tr hE1.out hb4)) hFl
          have y0 := fun d os => cell_regrown q0 d os
          have y1 := fun d os => cell_regrown q1 d os
          have y2 := fun d os => cell_regrown z1 d os
          clear z0 z1 z2 z3 z4 z5
          go_wp2
          refine wp_region_quiet_below (by kernel_rfl) (by kernel_rfl) ?_
          repeat (go_big_quiet_step (fail))
          refine wpQuiet_nil ?_
          intro _ hw'
          obtain ⟨⟨dq, osq⟩, hw''⟩ := hw'
          subst hw''
          have hR2 := Lib.hid (hR1.out.step (Ext.tr hb4 (below_regrown _ dq osq)))
          have HB3 := Lib.hid (Ext.tr hb1.out (Ext.tr hb4 (below_regrown _ dq osq)))
          clear hb4
          go_wp2_with (at_builtin; refine Kd.R_append (w0 := w2) kI w2.heap.size rfl _ _ _ 3 _ 8 rfl Try.underlying26 infoI rfl (by decide) (by decide) u4 (idsK (fun h => !sameAt l h) m k) m[k].f0 [.int .i64 m[k].f0] (fun _ => True) (fun _ => False) rfl (by simp [Act.eval]) rfl (fun k hk => hk.elim) (fun _ _ => trivial) hR2.out.1 HB3.out HB3.out.size (by omega) ?_; intro v1 w5 hR3 hb5 hg hat; have HR3 := Lib.hid (hR2.out.first hR3 hg hat); have HB5 := Lib.hid hb5; clear hR3 hb5 hg hat)
          go_roundw
          case rel => exact ⟨k + 1, by omega, by go_num, by show Two _ _ _ _ _ _ _ _; rw [hs1.out, hs2.out]; exact HR3.out, HB5.out⟩
          case measure => simp [intOf]; omega
        · rw [hq] at hsm
          have hs1 := Lib.hid (idsK_no (p := fun h => !sameAt l h) hlt (by simp [hsm]))
          have hs2 := Lib.hid (idsK_yes (p := fun h => sameAt l h) hlt hsm)
          clear hsm
          go_wp2_with fail
          refine (find_any A c l m[k].f0 _ (Kd.C_below HC.out hE1.out) hc).mono ?_
          rintro e w4 ⟨he, hb4⟩
          have he2 := he.trans (show _ = Ending.returned (.int .i64 (F : Int)) by rw [HF.out])
          clear he
          subst he2
          clear x0 x1 x2 x3 x4 x5
          obtain ⟨q0, q1, q2, q3, q4, q5⟩ := Blk34.cells ((hb4.block wr.heap.size (by simp)).trans hbk.out)
          obtain ⟨adl, A7, c7, rfl, z0, z1, z2, z3, z4, z5, hl7, HC7⟩ := C34 (Kd.C_below HC.out (Ext.tr hE1.out hb4)) hFl
          have y0 := fun d os => cell_regrown q0 d os
          have y1 := fun d os => cell_regrown q1 d os
          have y2 := fun d os => cell_regrown z1 d os
          clear z0 z1 z2 z3 z4 z5
          go_wp2
          refine wp_region_quiet_below (by kernel_rfl) (by kernel_rfl) ?_
          repeat (go_big_quiet_step (fail))
          refine wpQuiet_nil ?_
          intro _ hw'
          obtain ⟨⟨dq, osq⟩, hw''⟩ := hw'
          subst hw''
          have hR2 := Lib.hid (hR1.out.step (Ext.tr hb4 (below_regrown _ dq osq)))
          have HB3 := Lib.hid (Ext.tr hb1.out (Ext.tr hb4 (below_regrown _ dq osq)))
          clear hb4
          go_wp2_with (at_builtin; refine Kd.R_append (w0 := w2) kI w2.heap.size rfl _ _ _ 3 _ 8 rfl Try.underlying26 infoI rfl (by decide) (by decide) u6 (idsK (fun h => sameAt l h) m k) m[k].f0 [.int .i64 m[k].f0] (fun k => some k ≠ u4.ownBlock) (fun _ => False) rfl (by simp [Act.eval]) rfl (fun k hk => hk.elim) hR2.out.fresh hR2.out.2 HB3.out HB3.out.size (by omega) ?_; intro v1 w5 hR3 hb5 hg hat; have HR3 := Lib.hid (hR2.out.second rfl hR3 hg); have HB5 := Lib.hid hb5; clear hR3 hb5 hg hat)
          go_roundw
          case rel => exact ⟨k + 1, by omega, by go_num, by show Two _ _ _ _ _ _ _ _; rw [hs1.out, hs2.out]; exact HR3.out, HB5.out⟩
          case measure => simp [intOf]; omega
    · obtain rfl : k = m.length := by omega
      obtain ⟨S, hS⟩ : ∃ S, S = idsK (fun h => sameAt l h) m m.length := ⟨_, rfl⟩
      obtain ⟨D, hD2⟩ : ∃ D, D = idsK (fun h => !sameAt l h) m m.length := ⟨_, rfl⟩
      rw [← hS] at hr2 hr hR
      rw [← hD2] at hr hR
      have HX2 := Lib.hid (Ext.tr hX.out hb)
      have HRa := Lib.hid hR.out.1
      have HRs := Lib.hid (Kd.R_mono hR.out.2 (ok' := fun _ => True) (fun _ _ => trivial))
      obtain ⟨As, cs, rfl, hls, hCs⟩ := Kd.R_reads HRs.out
      have HCs := Lib.hid hCs
      have hw2 := hX.out.size
      have hw3 := HX2.out.size
      clear hS hD2 hR hCs
      obtain ⟨w6, hw6⟩ : ∃ w6, w6 = wr := ⟨_, rfl⟩
      subst hw6
      go_wp2
      go_loopw [5, 56] (fun v i ws => ∃ k : Nat, k ≤ l.length ∧ i = .int .i64 k ∧ Hid (New kI 3 w6 ws v (idsK (fun h => !S.any (fun y => h.f0 == y)) l k)) ∧ Ext w6 ws) (fun _ i _ => l.length - (intOf i).toNat)
      case atStart => exact ⟨0, Nat.zero_le _, rfl, Kd.R_nil _ _ _ _ _, Below.refl _ _⟩
      case round =>
        obtain ⟨k, hk, rfl, hR, hb2⟩ := hrel
        by_cases hlt2 : k < l.length
        · obtain ⟨ad, A6, c6, rfl, x0, x1, x2, x3, x4, x5, hl6, HC6⟩ := C34 (Kd.C_below HC.out (Ext.tr HX2.out hb2)) hlt2
          have hsl1 := idsK_len (fun h => !S.any (fun y => h.f0 == y)) l k
          obtain ⟨al, hal⟩ : ∃ al : Obj, al = .cells #[.int .i64 l[k].f0, .string l[k].f1, .int .i64 l[k].f2, .string l[k].f3, .int .i64 l[k].f4, .slice A6 l[k].f5.length c6] 34 := ⟨_, rfl⟩
          have hbk : Hid (Blk34 (wr.alloc al) wr.heap.size #[.int .i64 l[k].f0, .string l[k].f1, .int .i64 l[k].f2, .string l[k].f3, .int .i64 l[k].f4, .slice A6 l[k].f5.length c6]) := by rw [hal]; exact heap_alloc_new wr _
          have hR1 : Hid (New kI 3 w6 (wr.alloc al) u5 (idsK (fun h => !S.any (fun y => h.f0 == y)) l k)) := Kd.R_alloc hR.out _
          have hb1 : Hid (Ext w6 (wr.alloc al)) := Ext.tr hb2 (ext_alloc _ _)
          subst hal
          cases hq : S.any (fun y => l[k].f0 == y)
          · have hs1 := Lib.hid (idsK_yes (p := fun h => !S.any (fun y => h.f0 == y)) hlt2 (by simp only [hq]; rfl))
            go_wp2_with fail
            refine (contains_any As cs _ S l[k].f0 _ (Kd.C_below HCs.out hb1.out) hls).mono ?_
            rintro e w4 ⟨he, hb4⟩
            rw [hq] at he
            subst he
            clear x0 x1 x2 x3 x4 x5
            obtain ⟨q0, q1, q2, q3, q4, q5⟩ := Blk34.cells ((hb4.block wr.heap.size (by simp)).trans hbk.out)
            have hR2 := Lib.hid (Kd.R_below hR1.out hb4)
            have HB3 := Lib.hid (Ext.tr hb1.out hb4)
            clear hb4
            go_wp2_with (at_builtin; refine Kd.R_append (w0 := w6) kI w6.heap.size rfl _ _ _ 3 _ 8 rfl Try.underlying26 infoI rfl (by decide) (by decide) u5 (idsK (fun h => !S.any (fun y => h.f0 == y)) l k) l[k].f0 [.int .i64 l[k].f0] (fun _ => True) (fun _ => False) rfl (by simp [Act.eval]) rfl (fun k hk => hk.elim) (fun _ _ => trivial) hR2.out HB3.out HB3.out.size (by omega) ?_; intro v1 w5 hR3 hb5 hg hat; have HR3 := Lib.hid hR3; have HB5 := Lib.hid hb5; clear hR3 hb5 hg hat)
            go_roundw
            case rel => exact ⟨k + 1, by omega, by go_num, by show New _ _ _ _ _ _; rw [hs1.out]; exact HR3.out, HB5.out⟩
            case measure => simp [intOf]; omega
          · have hs1 := Lib.hid (idsK_no (p := fun h => !S.any (fun y => h.f0 == y)) hlt2 (by simp only [hq]; rfl))
            go_wp2_with fail
            refine (contains_any As cs _ S l[k].f0 _ (Kd.C_below HCs.out hb1.out) hls).mono ?_
            rintro e w4 ⟨he, hb4⟩
            rw [hq] at he
            subst he
            clear x0 x1 x2 x3 x4 x5
            have hR2 := Lib.hid (Kd.R_below hR1.out hb4)
            have HB3 := Lib.hid (Ext.tr hb1.out hb4)
            clear hb4
            go_wp2
            go_roundw
            case rel => exact ⟨k + 1, by omega, by go_num, by show New _ _ _ _ _ _; rw [hs1.out]; exact hR2.out, HB3.out⟩
            case measure => simp [intOf]; omega
        · obtain rfl : k = l.length := by omega
          have HRc := Lib.hid (Kd.R_lower hR.out hw3)
          have HRa2 := Lib.hid (Kd.R_lower (Kd.R_below HRa.out hb2) hw2)
          have HRs2 := Lib.hid (Kd.R_lower (Kd.R_below HRs.out hb2) hw2)
          have HX3 := Lib.hid (Ext.tr HX2.out hb2)
          go_wp2
          refine bodyPost_ret (v := .tuple #[u4, u5, .slice As S.length cs, .int .i64 0]) (by simp [results, Try.results13, go_sem]) rfl ?_
          exact ⟨_, _, _, by rw [hr.out.1], by rw [hr.out.2.1]; exact HRa2.out, by rw [hr2.out]; exact HRc.out, by rw [hr.out.2.2]; exact HRs2.out, HX3.out⟩
end Go.Proofs.Ythfolhgaecfogaa
