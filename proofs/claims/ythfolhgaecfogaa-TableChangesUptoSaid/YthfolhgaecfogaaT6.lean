import Derived.Test.YthfolhgaecfogaaT5
import Derived.Lib.QuietBelow
set_option linter.unusedVariables false
set_option linter.unusedSimpArgs false
namespace Go.Proofs.Ythfolhgaecfogaa
open Go.RowKit Go.Proofs.YthfolhgaecfogaaW.PrintWords Go.Proofs.YthfolhgaecfogaaW.PrintLast Go.Proofs.YthfolhgaecfogaaW.PrintMore
theorem C34 {w : World} {A : Option Addr} {l : List S34} (h : Kd.C k34 w A l.length l) {k : Nat} (hk : k < l.length) :
    ∃ ad A5 c5, A = some ad ∧ w.cell? (ad.add (k * 6)) = some (.int .i64 l[k].f0) ∧ w.cell? ⟨(ad.add (k * 6)).block, (ad.add (k * 6)).off + 1, none⟩ = some (.string l[k].f1) ∧ w.cell? ⟨(ad.add (k * 6)).block, (ad.add (k * 6)).off + 2, none⟩ = some (.int .i64 l[k].f2) ∧ w.cell? ⟨(ad.add (k * 6)).block, (ad.add (k * 6)).off + 3, none⟩ = some (.string l[k].f3) ∧ w.cell? ⟨(ad.add (k * 6)).block, (ad.add (k * 6)).off + 4, none⟩ = some (.int .i64 l[k].f4) ∧ w.cell? ⟨(ad.add (k * 6)).block, (ad.add (k * 6)).off + 5, none⟩ = some (.slice A5 l[k].f5.length c5) ∧ l[k].f5.length ≤ c5 ∧ Hid (k77.C w A5 l[k].f5.length l[k].f5) := by
  have e : rd_T34 l (k : Int) = l[k] := by
    unfold rd_T34; rw [Int.toNat_natCast, List.getD_eq_getElem?_getD, List.getElem?_eq_getElem hk]; rfl
  obtain ⟨ad, A5, c5, e1, h⟩ := at_T34 h (k : Int) (by omega) (by omega)
  rw [e, Int.toNat_natCast] at h
  exact ⟨ad, A5, c5, e1, h⟩
def pairSz (p : S77) : Nat := 1 + p.f0.size + p.f1.size
def metaSz (l : List S77) : Nat := (l.map pairSz).sum
def hostSz (h : S34) : Nat := h.f1.size + h.f3.size + metaSz h.f5
theorem metaSz_snoc (l : List S77) (k : Nat) (h : k < l.length) : metaSz (l.take (k + 1)) = metaSz (l.take k) + pairSz l[k] := by
  rw [List.take_succ_eq_append_getElem h, metaSz, List.map_append, List.sum_append]; rfl
theorem metaSz_le (l : List S77) (k : Nat) : metaSz (l.take k) ≤ metaSz l := by
  have : metaSz l = metaSz (l.take k) + metaSz (l.drop k) := by
    unfold metaSz; rw [← List.sum_append, ← List.map_append, List.take_append_drop]
  omega
theorem pairSz_le {l : List S77} {p : S77} (h : p ∈ l) : pairSz p ≤ metaSz l := by
  unfold metaSz
  induction l with
  | nil => cases h
  | cons x r ih =>
    rw [List.map_cons, List.sum_cons]
    rcases List.mem_cons.1 h with rfl | h
    · omega
    · have := ih h; omega
theorem hostOk_of {h : S34} (hs : hostSz h ≤ 4194304) : hostOk h := by
  unfold hostSz at hs
  refine ⟨by omega, by omega, fun p hp => ?_⟩
  have := pairSz_le hp
  unfold pairSz at this
  exact ⟨by omega, by omega⟩
/-- 0: light; 1: not -/
def light7 (h : S34) : Int := if 600 < hostSz h then 1 else 0
set_option maxRecDepth 100000 in
set_option maxHeartbeats 1000000 in
theorem light7_any (h : S34) (A : Option Addr) (c : Nat) (w : World) (hC : Kd.C k77 w A h.f5.length h.f5) (hc : h.f5.length ≤ c) (hs : hostSz h ≤ 4194304) :
    Calls Try.prog 20 #[vHost h A c] w fun e w' => e = .returned (.int .i64 (light7 h)) ∧ Ext w w' := by
  have hu := Try.underlying77
  have hu34 := Try.underlying34
  have hm := len_max hC
  have HC := Lib.hid hC
  clear hC
  have hs2 := hs
  unfold hostSz at hs2
  unfold vHost
  go_enter Try.func20, Try.ntmps20
  go_wp2
  go_loopw [3, 16] (fun n i wr => ∃ (k m : Nat), k ≤ h.f5.length ∧ i = .int .i64 k ∧ n = .int .i64 m ∧ m ≤ 4194304 ∧ Hid (m = h.f1.size + h.f3.size + metaSz (h.f5.take k)) ∧ Ext w wr) (fun _ i _ => h.f5.length - (intOf i).toNat)
  case atStart =>
    refine ⟨0, h.f1.size + h.f3.size, Nat.zero_le _, rfl, by simp, by omega, ?_, ext_alloc _ _⟩
    show _ = _
    simp [metaSz]
  case round =>
    obtain ⟨k, m, hk, rfl, rfl, hm4, hg, hb⟩ := hrel
    by_cases hlt : k < h.f5.length
    · obtain ⟨ad, rfl, h0, h1⟩ := C77 (Kd.C_below HC.out hb) hlt
      have e1 := metaSz_snoc h.f5 k hlt
      have e2 := metaSz_le h.f5 (k + 1)
      have e3 := hg.out
      unfold pairSz at e1
      have hr : Hid (m + (1 + h.f5[k].f0.size + h.f5[k].f1.size) = h.f1.size + h.f3.size + metaSz (h.f5.take (k + 1))) := by show _ = _; omega
      have b1 : h.f5[k].f0.size ≤ 4194304 := by omega
      have b2 : h.f5[k].f1.size ≤ 4194304 := by omega
      have b3 : m + (1 + h.f5[k].f0.size + h.f5[k].f1.size) ≤ 4194304 := by omega
      clear e1 e2 e3 hs2 hs
      go_wp2
      go_roundw
      case rel => exact ⟨k + 1, _, by omega, by go_num, by go_num, b3, hr, Ext.tr hb (ext_alloc _ _)⟩
      case measure => simp [intOf]; omega
    · have e : h.f5.take k = h.f5 := List.take_of_length_le (by omega)
      have e3 := hg.out
      rw [e] at e3
      have hr : Hid (m = hostSz h) := e3
      clear e e3 hs2 hs
      by_cases h6 : 600 < m
      · have hl : Hid (light7 h = 1) := by show _ = _; unfold light7; rw [← hr.out, if_pos h6]
        go_wp2
        go_ret
        exact ⟨by rw [hl.out]; rfl, hb⟩
      · have hl : Hid (light7 h = 0) := by show _ = _; unfold light7; rw [← hr.out, if_neg h6]
        go_wp2
        go_ret
        exact ⟨by rw [hl.out]; rfl, hb⟩
/-- 0: hosts that can be gone through -/
def light8 (l : List S34) : Int := if l.length ≤ 81 ∧ ∀ h ∈ l, hostSz h ≤ 600 then 0 else 1
set_option maxRecDepth 100000 in
set_option maxHeartbeats 1000000 in
theorem light8_any (A : Option Addr) (c : Nat) (l : List S34) (w : World) (hC : Kd.C k34 w A l.length l) (hc : l.length ≤ c) (hs : ∀ h ∈ l, hostSz h ≤ 4194304) :
    Calls Try.prog 10 #[.slice A l.length c] w fun e w' => e = .returned (.int .i64 (light8 l)) ∧ Ext w w' := by
  have hu34 := Try.underlying34
  have hm := len_max hC
  have HC := Lib.hid hC
  clear hC
  go_enter Try.func10, Try.ntmps10
  go_wp2
  go_loopw [7] (fun i wr => ∃ k : Nat, k ≤ l.length ∧ k ≤ 81 ∧ i = .int .i64 k ∧ Hid (∀ h ∈ l.take k, hostSz h ≤ 600) ∧ Ext w wr) (fun i _ => l.length - (intOf i).toNat)
  case atStart => exact ⟨0, Nat.zero_le _, by omega, rfl, fun h hh => by simp at hh, Below.refl _ _⟩
  case round =>
    obtain ⟨k, hk, hk8, rfl, hg, hb⟩ := hrel
    by_cases hlt : k < l.length
    · obtain ⟨ad, A5, c5, rfl, h0, h1, h2, h3, h4, h5, hl5, HC5⟩ := C34 (Kd.C_below HC.out hb) hlt
      by_cases h8 : k ≤ 80
      · have hb5 : Hid (Ext w (wr.alloc (.cells #[.int .i64 l[k].f0, .string l[k].f1, .int .i64 l[k].f2, .string l[k].f3, .int .i64 l[k].f4, .slice A5 l[k].f5.length c5] 34))) := Ext.tr hb (ext_alloc _ _)
        have hm4 := hs l[k] (List.getElem_mem hlt)
        by_cases h6 : 600 < hostSz l[k]
        · have hl : Hid (light8 l = 1) := by show _ = _; unfold light8; rw [if_neg (fun hh => by have := hh.2 l[k] (List.getElem_mem hlt); omega)]
          have h7 : Hid (light7 l[k] = 1) := by show _ = _; unfold light7; rw [if_pos h6]
          clear h6
          go_wp2_with fail
          refine (light7_any l[k] A5 c5 _ (Kd.C_below HC5.out (ext_alloc _ _)) hl5 hm4).mono ?_
          rintro e w1 ⟨rfl, hb1⟩
          rw [h7.out]
          go_wp2
          go_ret
          exact ⟨by rw [hl.out]; rfl, Ext.tr hb5.out hb1⟩
        · have h7 : Hid (light7 l[k] = 0) := by show _ = _; unfold light7; rw [if_neg h6]
          have hr : Hid (∀ h ∈ l.take (k + 1), hostSz h ≤ 600) := by
            intro h hh
            rw [List.take_succ_eq_append_getElem hlt, List.mem_append] at hh
            rcases hh with hh | hh
            · exact hg.out h hh
            · rw [List.mem_singleton.1 hh]; omega
          clear h6
          go_wp2_with fail
          refine (light7_any l[k] A5 c5 _ (Kd.C_below HC5.out (ext_alloc _ _)) hl5 hm4).mono ?_
          rintro e w1 ⟨rfl, hb1⟩
          rw [h7.out]
          go_wp2
          go_roundw
          case rel => exact ⟨k + 1, by omega, by omega, by go_num, hr, Ext.tr hb5.out hb1⟩
          case measure => simp [intOf]; omega
      · have hl : Hid (light8 l = 1) := by show _ = _; unfold light8; rw [if_neg (by omega)]
        go_wp2
        go_ret
        exact ⟨by rw [hl.out]; rfl, Ext.tr hb (ext_alloc _ _)⟩
    · have e : l.take k = l := List.take_of_length_le (by omega)
      have e2 := hg.out
      rw [e] at e2
      have hl : Hid (light8 l = 0) := by show _ = _; unfold light8; rw [if_pos ⟨by omega, e2⟩]
      clear e e2
      go_wp2
      go_ret
      exact ⟨by rw [hl.out]; rfl, hb⟩
set_option maxRecDepth 100000 in
set_option maxHeartbeats 1000000 in
theorem rfind_any (A : Option Addr) (c : Nat) (l : List S34) (id : Int) (w : World) (hC : Kd.C k34 w A l.length l) (hc : l.length ≤ c) :
    Calls Try.prog 16 #[.slice A l.length c, .int .i64 id] w fun e w' => e = .returned (.int .i64 (idxF (fun h => h.f0 == id) l)) ∧ Ext w w' := by
  have hu34 := Try.underlying34
  have hm := len_max hC
  have HC := Lib.hid hC
  clear hC
  go_enter Try.func16, Try.ntmps16
  go_wp2
  go_loopw [9] (fun i wr => ∃ k : Nat, k ≤ l.length ∧ i = .int .i64 k ∧ Hid ((l.take k).any (fun h => h.f0 == id) = false) ∧ Ext w wr) (fun i _ => l.length - (intOf i).toNat)
  case atStart => exact ⟨0, Nat.zero_le _, rfl, rfl, Below.refl _ _⟩
  case round =>
    obtain ⟨k, hk, rfl, hg, hb⟩ := hrel
    by_cases hlt : k < l.length
    · obtain ⟨ad, A5, c5, rfl, h0, h1, h2, h3, h4, h5, hl5, HC5⟩ := C34 (Kd.C_below HC.out hb) hlt
      cases hp : l[k].f0 == id
      · have hr := Lib.hid (any_step (p := fun h : S34 => h.f0 == id) hlt hg.out hp)
        go_wp2
        go_roundw
        case rel => exact ⟨k + 1, by omega, by go_num, hr, Ext.tr hb (ext_alloc _ _)⟩
        case measure => simp [intOf]; omega
      · have hr := Lib.hid (idxF_hit (p := fun h : S34 => h.f0 == id) hlt hg.out hp)
        go_wp2
        go_ret
        exact ⟨by rw [hr.out]; rfl, Ext.tr hb (ext_alloc _ _)⟩
    · have e : l.take k = l := List.take_of_length_le (by omega)
      have e2 := hg.out
      rw [e] at e2
      have hr := Lib.hid (idxF_none e2)
      clear e e2
      go_wp2
      go_ret
      exact ⟨by rw [hr.out]; rfl, hb⟩
end Go.Proofs.Ythfolhgaecfogaa
