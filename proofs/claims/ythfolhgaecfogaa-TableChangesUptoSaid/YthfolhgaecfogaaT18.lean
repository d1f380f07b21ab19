import Derived.Test.YthfolhgaecfogaaT17
set_option linter.unusedVariables false
set_option linter.unusedSimpArgs false
namespace Go.Proofs.Ythfolhgaecfogaa
open Go.RowKit Go.Proofs.YthfolhgaecfogaaW.PrintWords Go.Proofs.YthfolhgaecfogaaW.PrintLast Go.Proofs.YthfolhgaecfogaaW.PrintMore
def findI (l : List S34) (id : Int) : Int := idxF (fun h => h.f0 == id) l
def cutCode (l : List S34) (id : Int) : Int := if !tableMay l then 1 else if findI l id < 0 then 4 else 0
def cutList (l : List S34) (id : Int) : List S34 := if cutCode l id = 0 then l.take (findI l id).toNat ++ l.drop ((findI l id).toNat + 1) else []
theorem findI_lt (l : List S34) (id : Int) : findI l id < l.length := by
  unfold findI idxF
  cases h : l.findIdx? (fun h => h.f0 == id) with
  | none => simp only; omega
  | some i =>
    have := (List.findIdx?_eq_some_iff_getElem.1 h).1
    simp only; omega
set_option maxRecDepth 100000 in
set_option maxHeartbeats 1000000 in
theorem cut_any (A : Option Addr) (c : Nat) (l : List S34) (id : Int) (w : World) (hC : Kd.C k34 w A l.length l) (hc : l.length ≤ c) (hn : l.length ≤ 4194304) (hl : ∀ h ∈ l, hostOk h) (hl5 : ∀ h ∈ l, h.f5.length ≤ 4194304) :
    Calls Try.prog 38 #[.slice A l.length c, .int .i64 id] w fun e w' => ∃ v, e = .returned (.tuple #[v, .int .i64 (cutCode l id)]) ∧ New k34 34 w w' v (cutList l id) ∧ Ext w w' := by
  have HC := Lib.hid hC
  have hm := len_max hC
  clear hC
  cases h1 : tableMay l
  · have hr : Hid (cutCode l id = 1) := by show _ = _; simp [cutCode, h1]
    have hr2 : Hid (cutList l id = []) := by show _ = _; unfold cutList; rw [hr.out]; rfl
    go_enter Try.func38, Try.ntmps38
    go_wp2_with fail
    refine (may_any A c l w HC.out hc hn hl).mono ?_
    rintro e w1 ⟨rfl, hb1⟩
    rw [h1]
    go_wp2
    go_ret2
    exact ⟨_, by rw [hr.out]; rfl, by rw [hr2.out]; exact Kd.R_nil _ _ _ _ _, hb1⟩
  · have hlt := findI_lt l id
    by_cases h2 : findI l id < 0
    · have hr : Hid (cutCode l id = 4) := by show _ = _; simp [cutCode, h1, h2]
      have hr2 : Hid (cutList l id = []) := by show _ = _; unfold cutList; rw [hr.out]; rfl
      obtain ⟨F, hF⟩ : ∃ F, F = findI l id := ⟨_, rfl⟩
      have h2' : F < 0 := by rw [hF]; exact h2
      have HF := Lib.hid hF
      clear h2 hlt hF
      go_enter Try.func38, Try.ntmps38
      go_wp2_with fail
      refine (may_any A c l w HC.out hc hn hl).mono ?_
      rintro e w1 ⟨rfl, hb1⟩
      rw [h1]
      go_wp2_with fail
      refine (find_any A c l id w1 (Kd.C_below HC.out hb1) hc).mono ?_
      rintro e w2 ⟨he, hb2⟩
      have he2 := he.trans (show _ = Ending.returned (.int .i64 F) by rw [HF.out]; rfl)
      clear he
      subst he2
      go_wp2
      go_ret2
      exact ⟨_, by rw [hr.out]; rfl, by rw [hr2.out]; exact Kd.R_nil _ _ _ _ _, Ext.tr hb1 hb2⟩
    · have hr : Hid (cutCode l id = 0) := by show _ = _; simp [cutCode, h1, h2]
      have hr2 : Hid (cutList l id = l.take (findI l id).toNat ++ l.drop ((findI l id).toNat + 1)) := by show _ = _; unfold cutList; rw [hr.out]; rfl
      obtain ⟨F, hF⟩ : ∃ F : Nat, F = (findI l id).toNat := ⟨_, rfl⟩
      have hF' : (F : Int) = findI l id := by omega
      have hFl : F < l.length := by omega
      rw [← hF] at hr2
      have HF := Lib.hid hF'
      have hw : IntKind.i64.wrap ((F : Int) + 1) = (F : Int) + 1 := by rw [IntKind.wrap_i64]; omega
      clear h2 hlt hF hF'
      go_enter Try.func38, Try.ntmps38
      go_wp2_with fail
      refine (may_any A c l w HC.out hc hn hl).mono ?_
      rintro e w1 ⟨rfl, hb1⟩
      rw [h1]
      go_wp2_with fail
      refine (find_any A c l id w1 (Kd.C_below HC.out hb1) hc).mono ?_
      rintro e w2 ⟨he, hb2⟩
      have he2 := he.trans (show _ = Ending.returned (.int .i64 (F : Int)) by rw [HF.out]; rfl)
      clear he
      subst he2
      go_wp2_with fail
      refine (copied_any A c l w2 (Kd.C_below HC.out (Ext.tr hb1 hb2)) hc hn hl5).mono ?_
      rintro e w3 ⟨v3, rfl, hN3, hb3⟩
      have HN3 := Lib.hid hN3
      clear hN3
      have hX := Lib.hid (Ext.tr hb1 hb2)
      go_wp2_with fail
      refine (delete_any34 v3 l F w3 w2.heap.size HN3.out hFl (by omega)).mono ?_
      rintro e w4 ⟨v4, rfl, hR4, hg4⟩
      have hE := Lib.hid (Ext_grown hb3 hb3.size HN3.out hg4)
      have HR4 := Lib.hid (Kd.R_lower hR4 hX.out.size)
      clear hR4 hg4
      go_wp2
      go_ret2
      exact ⟨_, by rw [hr.out]; rfl, by rw [hr2.out]; exact HR4.out, Ext.tr hX.out hE.out⟩
end Go.Proofs.Ythfolhgaecfogaa
