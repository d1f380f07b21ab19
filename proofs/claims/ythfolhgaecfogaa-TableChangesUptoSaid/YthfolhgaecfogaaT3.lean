import Derived.Test.YthfolhgaecfogaaT2
import Derived.WalkLawsBesides
import Derived.WalkSpells
set_option linter.unusedVariables false
set_option linter.unusedSimpArgs false
namespace Go.Proofs.Ythfolhgaecfogaa
open Go.RowKit Go.Proofs.YthfolhgaecfogaaW.PrintWords Go.Proofs.YthfolhgaecfogaaW.PrintLast Go.Proofs.YthfolhgaecfogaaW.PrintMore
def upAt (l : List S77) (i : Nat) : Bool := Op.bytesLess (l.getD i z77).f0.toList (l.getD (i + 1) z77).f0.toList
def upB (l : List S77) : Bool := (List.range (l.length - 1)).all (upAt l)
def condMay (h : S34) : Bool := decide (1 ≤ h.f0) && decide (h.f0 ≤ 1000000) && wordB h.f1 && (h.f3.toList.isEmpty || wordB h.f3) && decide (0 ≤ h.f2) && decide (h.f2 ≤ 3) && decide (1 ≤ h.f4) && decide (h.f4 ≤ 20) && pairsMay h.f5
def hostMay (h : S34) : Bool := upB h.f5 && condMay h
def hostOk (h : S34) : Prop := h.f1.size ≤ 4194304 ∧ h.f3.size ≤ 4194304 ∧ ∀ p ∈ h.f5, pairOk p
def vHost (h : S34) (A : Option Addr) (c : Nat) : Value := .agg #[.int .i64 h.f0, .string h.f1, .int .i64 h.f2, .string h.f3, .int .i64 h.f4, .slice A h.f5.length c]
theorem upAt_of (l : List S77) (j : Nat) (h : j + 1 < l.length) : upAt l j = Op.bytesLess l[j].f0.toList l[j + 1].f0.toList := by
  unfold upAt
  rw [List.getD_eq_getElem?_getD, List.getD_eq_getElem?_getD, List.getElem?_eq_getElem h, List.getElem?_eq_getElem (show j < l.length by omega)]; rfl
theorem up_step (l : List S77) (j : Nat) (h0 : (List.range j).all (upAt l) = true) (h1 : upAt l j = true) : (List.range (j + 1)).all (upAt l) = true := by
  rw [List.range_succ, List.all_append, h0]; simp [h1]
theorem up_stop (l : List S77) (j : Nat) (h : j + 1 < l.length) (h1 : upAt l j = false) : upB l = false := by
  unfold upB; rw [List.all_eq_false]
  exact ⟨j, by simp; omega, by simp [h1]⟩
theorem up_done (l : List S77) (j : Nat) (h : l.length ≤ j + 1) (h0 : (List.range j).all (upAt l) = true) : upB l = true := by
  unfold upB; rw [List.all_eq_true] at h0 ⊢
  exact fun x hx => h0 x (by simp at hx ⊢; omega)
theorem condMay_split (h : S34) {P : Prop}
    (a1 : Hid (condMay h = false) → h.f0 < 1 → P)
    (a2 : Hid (condMay h = false) → 1 ≤ h.f0 → 1000000 < h.f0 → P)
    (a3 : Hid (condMay h = false) → 1 ≤ h.f0 → h.f0 ≤ 1000000 → wordB h.f1 = false → P)
    (a4 : Hid (condMay h = false) → 1 ≤ h.f0 → h.f0 ≤ 1000000 → wordB h.f1 = true → (h.f3.toList.isEmpty) = false → wordB h.f3 = false → P)
    (a5 : Hid (condMay h = false) → 1 ≤ h.f0 → h.f0 ≤ 1000000 → wordB h.f1 = true → (h.f3.toList.isEmpty) = true ∨ (h.f3.toList.isEmpty) = false ∧ wordB h.f3 = true → h.f2 < 0 → P)
    (a6 : Hid (condMay h = false) → 1 ≤ h.f0 → h.f0 ≤ 1000000 → wordB h.f1 = true → (h.f3.toList.isEmpty) = true ∨ (h.f3.toList.isEmpty) = false ∧ wordB h.f3 = true → 0 ≤ h.f2 → 3 < h.f2 → P)
    (a7 : Hid (condMay h = false) → 1 ≤ h.f0 → h.f0 ≤ 1000000 → wordB h.f1 = true → (h.f3.toList.isEmpty) = true ∨ (h.f3.toList.isEmpty) = false ∧ wordB h.f3 = true → 0 ≤ h.f2 → h.f2 ≤ 3 → h.f4 < 1 → P)
    (a8 : Hid (condMay h = false) → 1 ≤ h.f0 → h.f0 ≤ 1000000 → wordB h.f1 = true → (h.f3.toList.isEmpty) = true ∨ (h.f3.toList.isEmpty) = false ∧ wordB h.f3 = true → 0 ≤ h.f2 → h.f2 ≤ 3 → 1 ≤ h.f4 → 20 < h.f4 → P)
    (a9 : Hid (condMay h = pairsMay h.f5) → 1 ≤ h.f0 → h.f0 ≤ 1000000 → wordB h.f1 = true → (h.f3.toList.isEmpty) = true ∨ (h.f3.toList.isEmpty) = false ∧ wordB h.f3 = true → 0 ≤ h.f2 → h.f2 ≤ 3 → 1 ≤ h.f4 → h.f4 ≤ 20 → P) : P := by
  have hid {p : Prop} (x : p) : Hid p := x
  by_cases q1 : 1 ≤ h.f0
  case neg => exact a1 (hid (by simp [condMay, q1])) (by omega)
  by_cases q2 : h.f0 ≤ 1000000
  case neg => exact a2 (hid (by simp [condMay, q2])) q1 (by omega)
  cases q3 : wordB h.f1
  case false => exact a3 (hid (by simp [condMay, q3])) q1 q2 q3
  have hz : ((h.f3.toList.isEmpty) = false ∧ wordB h.f3 = false) ∨ ((h.f3.toList.isEmpty) = true ∨ (h.f3.toList.isEmpty) = false ∧ wordB h.f3 = true) := by
    cases h.f3.toList.isEmpty <;> cases wordB h.f3 <;> simp
  rcases hz with ⟨z1, z2⟩ | hz
  · exact a4 (hid (by simp [condMay, z1, z2])) q1 q2 q3 z1 z2
  have zz : (h.f3.toList.isEmpty || wordB h.f3) = true := by rcases hz with z | ⟨_, z⟩ <;> simp [z]
  by_cases q5 : 0 ≤ h.f2
  case neg => exact a5 (hid (by simp [condMay, q5])) q1 q2 q3 hz (by omega)
  by_cases q6 : h.f2 ≤ 3
  case neg => exact a6 (hid (by simp [condMay, q6])) q1 q2 q3 hz q5 (by omega)
  by_cases q7 : 1 ≤ h.f4
  case neg => exact a7 (hid (by simp [condMay, q7])) q1 q2 q3 hz q5 q6 (by omega)
  by_cases q8 : h.f4 ≤ 20
  case neg => exact a8 (hid (by simp [condMay, q8])) q1 q2 q3 hz q5 q6 q7 (by omega)
  exact a9 (hid (by unfold condMay; rw [q3, zz]; simp [q1, q2, q5, q6, q7, q8])) q1 q2 q3 hz q5 q6 q7 q8
def Box34 (wr : World) (g : Nat) (h : S34) (A : Option Addr) (c : Nat) : Prop := wr.heap[g]? = some (.cells #[.int .i64 h.f0, .string h.f1, .int .i64 h.f2, .string h.f3, .int .i64 h.f4, .slice A h.f5.length c] 34 (0, 0))
theorem Box34.cells {wr : World} {g : Nat} {h : S34} {A : Option Addr} {c : Nat} (b : Box34 wr g h A c) :
    wr.cell? ⟨g, 0, none⟩ = some (.int .i64 h.f0) ∧ wr.cell? ⟨g, 1, none⟩ = some (.string h.f1) ∧ wr.cell? ⟨g, 2, none⟩ = some (.int .i64 h.f2) ∧ wr.cell? ⟨g, 3, none⟩ = some (.string h.f3) ∧ wr.cell? ⟨g, 4, none⟩ = some (.int .i64 h.f4) ∧ wr.cell? ⟨g, 5, none⟩ = some (.slice A h.f5.length c) :=
  ⟨blk_cell b 0, blk_cell b 1, blk_cell b 2, blk_cell b 3, blk_cell b 4, blk_cell b 5⟩
theorem Box34.ext {wr w1 : World} {g : Nat} {h : S34} {A : Option Addr} {c : Nat} (b : Box34 wr g h A c) (e : Ext wr w1) : Box34 w1 g h A c := (e.block g (blk_lt b)).trans b
theorem ext_drewN (w : World) (n : Nat) : Ext w (w.drewN n) := pw_below_drewN (Below.refl _ _) n
theorem ext_alloc (w : World) (o : Obj) : Ext w (w.alloc o) := (Below.refl _ _).alloc (Nat.le_refl _) _
set_option maxRecDepth 100000 in
set_option maxHeartbeats 1000000 in
theorem hostMay_any (h : S34) (A : Option Addr) (c : Nat) (w : World) (hC : Kd.C k77 w A h.f5.length h.f5) (hc : h.f5.length ≤ c) (hok : hostOk h) :
    Calls Try.prog 46 #[vHost h A c] w fun e w' => e = .returned (.bool (hostMay h)) ∧ Ext w w' := by
  have hu := Try.underlying77
  have hu34 := Try.underlying34
  have hm := len_max hC
  have HC := Lib.hid hC
  clear hC
  obtain ⟨k1, k2, k3⟩ := hok
  unfold vHost
  go_enter Try.func46, Try.ntmps46
  go_wp2
  go_loopw [3] (fun i wr => ∃ j : Nat, (j = 0 ∨ j + 1 ≤ h.f5.length) ∧ i = .int .i64 ((j : Int) + 1) ∧ Hid ((List.range j).all (upAt h.f5) = true) ∧ Box34 wr w.heap.size h A c ∧ Ext w wr) (fun i _ => h.f5.length + 1 - (intOf i).toNat)
  case atStart => exact ⟨0, .inl rfl, rfl, rfl, heap_alloc_new w _, ext_alloc _ _⟩
  case round =>
    obtain ⟨j, hj, rfl, hg, hB, hb⟩ := hrel
    obtain ⟨c0, c1, c2, c3, c4, c5⟩ := hB.cells
    have HB := Lib.hid hB
    clear hB
    by_cases hlt : j + 1 < h.f5.length
    · obtain ⟨ad, rfl, h1, h2⟩ := C77 (Kd.C_below HC.out hb) (k := j) (by omega)
      obtain ⟨ad', e, h3, h4⟩ := C77 (Kd.C_below HC.out hb) (k := j + 1) hlt
      cases e
      have u := upAt_of h.f5 j hlt
      cases hp : Op.bytesLess h.f5[j].f0.toList h.f5[j + 1].f0.toList
      · have hr := Lib.hid (up_stop h.f5 j hlt (u.trans hp))
        clear u
        have hf := Lib.hid (show hostMay h = false by simp [hostMay, hr.out])
        go_wp2
        go_quiet (fail)
        go_wp2
        go_ret
        exact ⟨by rw [hf.out]; rfl, Ext.tr hb (ext_drewN _ _)⟩
      · have hr := Lib.hid (up_step h.f5 j hg.out (u.trans hp))
        clear u
        go_wp2
        go_quiet (fail)
        go_wp2
        go_roundw
        case rel => exact ⟨j + 1, .inr (by omega), by go_num, hr, HB.out.ext (ext_drewN _ _), Ext.tr hb (ext_drewN _ _)⟩
        case measure => simp [intOf]; omega
    · have hup := up_done h.f5 j (by omega) hg.out
      have hC' := Lib.hid (Kd.C_below HC.out hb)
      have hge : h.f5.length ≤ j + 1 := by omega
      clear hlt
      have hu2 : hostMay h = condMay h := by simp [hostMay, hup]
      have HU := Lib.hid hu2
      clear hup hu2
      refine condMay_split h ?_ ?_ ?_ ?_ ?_ ?_ ?_ ?_ ?_ <;> intro hE <;> intros
      case refine_9 =>
        rcases ‹(h.f3.toList.isEmpty) = true ∨ _› with z | ⟨z1, z2⟩
        all_goals
          go_wp2_with (first | (go_at_call 68; refine (word_any _ _ (by first | exact k1 | exact k2)).mono ?_; rintro e w' ⟨rfl, rfl⟩) | (go_at_call 69; refine (maySub_any A c h.f5 _ hC'.out hc k3).mono ?_; rintro e w1 ⟨rfl, hb1⟩))
          go_ret
          exact ⟨by rw [HU.out, hE.out]; rfl, Ext.tr hb hb1⟩
      case refine_1 | refine_2 | refine_3 | refine_4 =>
        go_wp2_with (go_at_call 68; refine (word_any _ _ (by first | exact k1 | exact k2)).mono ?_; rintro e w' ⟨rfl, rfl⟩)
        go_ret
        exact ⟨by rw [HU.out, hE.out]; rfl, hb⟩
      all_goals
        rcases ‹(h.f3.toList.isEmpty) = true ∨ _› with z | ⟨z1, z2⟩
        all_goals
          go_wp2_with (go_at_call 68; refine (word_any _ _ (by first | exact k1 | exact k2)).mono ?_; rintro e w' ⟨rfl, rfl⟩)
          go_ret
          exact ⟨by rw [HU.out, hE.out]; rfl, hb⟩
end Go.Proofs.Ythfolhgaecfogaa
