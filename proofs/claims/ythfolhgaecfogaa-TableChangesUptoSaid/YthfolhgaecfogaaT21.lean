import Derived.Test.YthfolhgaecfogaaT20
set_option linter.unusedVariables false
set_option linter.unusedSimpArgs false
namespace Go.Proofs.Ythfolhgaecfogaa
open Go.RowKit Go.Proofs.YthfolhgaecfogaaW.PrintWords Go.Proofs.YthfolhgaecfogaaW.PrintLast Go.Proofs.YthfolhgaecfogaaW.PrintMore
def outF (l : List S34) (id : Int) : List S34 := l.filter (fun h => !(h.f0 == id))
def rcutList (l : List S34) (id : Int) : List S34 := if cutCode l id = 0 then outF l id else []
theorem outF_step {l : List S34} {id : Int} {k : Nat} (hk : k < l.length) (h : (l[k].f0 == id) = false) : outF (l.take (k + 1)) id = outF (l.take k) id ++ [l[k]] := by
  unfold outF
  rw [List.take_succ_eq_append_getElem hk, List.filter_append]
  simp [h]
theorem outF_skip {l : List S34} {id : Int} {k : Nat} (hk : k < l.length) (h : (l[k].f0 == id) = true) : outF (l.take (k + 1)) id = outF (l.take k) id := by
  unfold outF
  rw [List.take_succ_eq_append_getElem hk, List.filter_append]
  simp [h]
theorem outF_len (l : List S34) (id : Int) : (outF l id).length ≤ l.length := List.length_filter_le _ _
set_option maxRecDepth 100000 in
set_option maxHeartbeats 2000000 in
theorem rcutHost_any (A : Option Addr) (c : Nat) (l : List S34) (id : Int) (w : World) (hC : Kd.C k34 w A l.length l) (hc : l.length ≤ c) (hl5 : ∀ h ∈ l, h.f5.length ≤ 4194304) :
    Calls Try.prog 39 #[.slice A l.length c, .int .i64 id] w fun e w' => ∃ v, e = .returned (.tuple #[v, .int .i64 (cutCode l id)]) ∧ New k34 34 w w' v (rcutList l id) ∧ Ext w w' := by
  have hu34 := Try.underlying34
  have HC := Lib.hid hC
  have hm := len_max hC
  clear hC
  cases h1 : tableMay l
  · have hr : Hid (cutCode l id = 1) := by show _ = _; simp [cutCode, h1]
    have hr2 : Hid (rcutList l id = []) := by show _ = _; unfold rcutList; rw [hr.out]; rfl
    go_enter Try.func39, Try.ntmps39
    go_wp2_with fail
    refine (rmayTable_any A c l w HC.out hc).mono ?_
    rintro e w1 ⟨rfl, hb1⟩
    rw [h1]
    go_wp2
    go_ret2
    exact ⟨_, by rw [hr.out]; rfl, by rw [hr2.out]; exact Kd.R_nil _ _ _ _ _, hb1⟩
  have hl64 : l.length ≤ 64 := by
    simp only [tableMay, Bool.and_eq_true, decide_eq_true_eq] at h1
    exact h1.1.1
  have hF0 : findI l id = idxF (fun x => x.f0 == id) l := rfl
  obtain ⟨F, hF⟩ : ∃ F, F = findI l id := ⟨_, rfl⟩
  by_cases h3 : F < 0
  · have hr : Hid (cutCode l id = 4) := by show _ = _; simp [cutCode, h1, ← hF, h3]
    have hr2 : Hid (rcutList l id = []) := by show _ = _; unfold rcutList; rw [hr.out]; rfl
    have HF := Lib.hid (hF.trans hF0)
    clear hF hF0
    go_enter Try.func39, Try.ntmps39
    go_wp2_with fail
    refine (rmayTable_any A c l w HC.out hc).mono ?_
    rintro e w1 ⟨rfl, hb1⟩
    rw [h1]
    go_wp2_with fail
    refine (rfind_any A c l id w1 (Kd.C_below HC.out hb1) hc).mono ?_
    rintro e w3 ⟨he, hb3⟩
    have he2 := he.trans (show _ = Ending.returned (.int .i64 F) by rw [HF.out])
    clear he
    subst he2
    go_wp2
    go_ret2
    exact ⟨_, by rw [hr.out]; rfl, by rw [hr2.out]; exact Kd.R_nil _ _ _ _ _, Ext.tr hb1 hb3⟩
  · have hr : Hid (cutCode l id = 0) := by show _ = _; simp [cutCode, h1, ← hF, h3]
    have hr2 : Hid (rcutList l id = outF l id) := by show _ = _; unfold rcutList; rw [hr.out]; rfl
    have HF := Lib.hid (hF.trans hF0)
    have h3' : 0 ≤ F := by omega
    clear hF hF0 h3
    go_enter Try.func39, Try.ntmps39
    go_wp2_with fail
    refine (rmayTable_any A c l w HC.out hc).mono ?_
    rintro e w1 ⟨rfl, hb1⟩
    rw [h1]
    go_wp2_with fail
    refine (rfind_any A c l id w1 (Kd.C_below HC.out hb1) hc).mono ?_
    rintro e w3 ⟨he, hb3⟩
    have he2 := he.trans (show _ = Ending.returned (.int .i64 F) by rw [HF.out])
    clear he
    subst he2
    have hX3 := Lib.hid (Ext.tr hb1 hb3)
    clear hb1 hb3
    go_wp2
    go_loopw [6, 18] (fun v i wr => ∃ k : Nat, k ≤ l.length ∧ i = .int .i64 k ∧ Hid (New k34 34 w3 wr v (outF (l.take k) id)) ∧ Ext w3 wr) (fun _ i _ => l.length - (intOf i).toNat)
    case atStart => exact ⟨0, Nat.zero_le _, rfl, Kd.R_nil _ _ _ _ _, Below.refl _ _⟩
    case round =>
      obtain ⟨k, hk, rfl, hR, hb⟩ := hrel
      by_cases hlt : k < l.length
      · obtain ⟨ad, A6, c6, rfl, x0, x1, x2, x3, x4, x5, hl6, HC6⟩ := C34 (Kd.C_below HC.out (Ext.tr hX3.out hb)) hlt
        have hm6 := hl5 l[k] (List.getElem_mem hlt)
        have hsl : (outF (l.take k) id).length ≤ l.length := Nat.le_trans (outF_len _ _) (by rw [List.length_take]; omega)
        obtain ⟨al, hal⟩ : ∃ al : Obj, al = .cells #[.int .i64 l[k].f0, .string l[k].f1, .int .i64 l[k].f2, .string l[k].f3, .int .i64 l[k].f4, .slice A6 l[k].f5.length c6] 34 := ⟨_, rfl⟩
        have hR1 : Hid (New k34 34 w3 (wr.alloc al) u6 (outF (l.take k) id)) := Kd.R_alloc hR.out _
        have hb1 : Hid (Ext w3 (wr.alloc al)) := Ext.tr hb (ext_alloc _ _)
        cases hq : l[k].f0 == id
        · have hs := Lib.hid (outF_step hlt hq)
          subst hal
          go_wp2_with fail
          refine (rcopy_any l[k] A6 c6 _ (Kd.C_below HC6.out (ext_alloc _ _)) hl6 hm6).mono ?_
          rintro e w4 ⟨v, rfl, hN, hb2⟩
          have hR2 := Kd.R_below hR1.out hb2
          have hM := Lib.hid (hostMem (base := w3.heap.size) hN hb1.out.size)
          have hap := Lib.hid (apart_of hR1.out (Nat.le_refl _))
          have HR2 := Lib.hid hR2
          have HB3 := Lib.hid (Ext.tr hb1.out hb2)
          obtain ⟨A', c', rfl, hlc, _⟩ := Kd.R_reads hN
          clear hN hR2 hb2 x0 x1 x2 x3 x4 x5
          unfold nHost
          go_wp2_with (at_builtin; refine Kd.R_append (w0 := w3) k34 w3.heap.size rfl _ _ _ 34 _ 80 rfl Try.underlying22 info34 rfl (by decide) (by decide) u6 (outF (l.take k) id) l[k] [.int .i64 l[k].f0, .string l[k].f1, .int .i64 l[k].f2, .string l[k].f3, .int .i64 l[k].f4, .slice A' l[k].f5.length c'] (fun _ => True) _ rfl (by simp [Act.eval]) hM.out hap.out (fun _ _ => trivial) HR2.out HB3.out HB3.out.size (by omega) ?_; intro v1 w5 hR3 hb4 hg hat; have HR3 := Lib.hid hR3; have HB4 := Lib.hid hb4; clear hR3 hb4 hg hat)
          go_roundw
          case rel => exact ⟨k + 1, by omega, by go_num, by show New _ _ _ _ _ _; rw [hs.out]; exact HR3.out, HB4.out⟩
          case measure => simp [intOf]; omega
        · have hs := Lib.hid (outF_skip hlt hq)
          subst hal
          go_wp2
          go_roundw
          case rel => exact ⟨k + 1, by omega, by go_num, by show New _ _ _ _ _ _; rw [hs.out]; exact hR1.out, hb1.out⟩
          case measure => simp [intOf]; omega
      · obtain rfl : k = l.length := by omega
        have hs : Hid (outF (l.take l.length) id = outF l id) := by show _ = _; rw [List.take_length]
        have hw3 := hX3.out.size
        go_wp2
        go_ret2
        exact ⟨_, by rw [hr.out]; rfl, by rw [hr2.out, ← hs.out]; exact Kd.R_lower hR.out hw3, Ext.tr hX3.out hb⟩
end Go.Proofs.Ythfolhgaecfogaa
