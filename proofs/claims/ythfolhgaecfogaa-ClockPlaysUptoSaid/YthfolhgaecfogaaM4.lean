import Derived.Test.YthfolhgaecfogaaM3
set_option linter.unusedVariables false
set_option linter.unusedSimpArgs false
namespace Go.Proofs.Ythfolhgaecfogaa
section
open Go.RowKit Go.Proofs.YthfolhgaecfogaaW.PrintWords Go.Proofs.YthfolhgaecfogaaW.PrintLast Go.Proofs.YthfolhgaecfogaaW.PrintMore
def insP (l : List S34) (id : Int) : Nat := (l.takeWhile (fun x => decide (x.f0 ≤ id))).length
theorem insP_le (l : List S34) (id : Int) : insP l id ≤ l.length := (List.takeWhile_sublist _).length_le
theorem insP_at : ∀ (l : List S34) (id : Int) (h : insP l id < l.length), id < l[insP l id].f0
  | [], _, h => by simp [insP] at h
  | x :: r, id, h => by
    unfold insP at h ⊢
    by_cases hx : x.f0 ≤ id
    · simp only [List.takeWhile_cons, decide_eq_true hx, if_true, List.length_cons] at h ⊢
      exact insP_at r id (by simpa [insP] using h)
    · simp only [List.takeWhile_cons, decide_eq_false hx] at h ⊢
      simpa using hx
theorem insP_below : ∀ (l : List S34) (id : Int) (k : Nat) (h : k < l.length), k < insP l id → l[k].f0 ≤ id
  | [], _, k, h, _ => by simp at h
  | x :: r, id, k, h, hk => by
    unfold insP at hk
    by_cases hx : x.f0 ≤ id
    · simp only [List.takeWhile_cons, decide_eq_true hx, if_true, List.length_cons] at hk
      cases k with
      | zero => exact hx
      | succ k => exact insP_below r id k (by simpa using h) (by unfold insP; omega)
    · simp [List.takeWhile_cons, decide_eq_false hx] at hk
/-- what stands after k hosts -/
def stI (l : List S34) (h : S34) (k : Nat) : List S34 := if insP l h.f0 < k then l.take (insP l h.f0) ++ [h] ++ (l.take k).drop (insP l h.f0) else l.take k
def raddCode (l : List S34) (h : S34) : Int := if !tableMay l then 1 else if !hostMay h then 1 else if 0 ≤ findI l h.f0 then 3 else if 64 ≤ l.length then 6 else 0
def insList (l : List S34) (h : S34) : List S34 := l.take (insP l h.f0) ++ [h] ++ l.drop (insP l h.f0)
def raddList (l : List S34) (h : S34) : List S34 := if raddCode l h = 0 then insList l h else []
theorem stI_one {l : List S34} {h : S34} {k : Nat} (hk : k < l.length) (hp : k < insP l h.f0) : stI l h (k + 1) = stI l h k ++ [l[k]] := by
  unfold stI
  rw [if_neg (by omega), if_neg (by omega), List.take_succ_eq_append_getElem hk]
theorem stI_two {l : List S34} {h : S34} {k : Nat} (hk : k < l.length) (hp : k = insP l h.f0) : stI l h (k + 1) = stI l h k ++ [h] ++ [l[k]] := by
  unfold stI
  rw [← hp, if_pos (by omega), if_neg (by omega), List.take_succ_eq_append_getElem hk, List.drop_append_of_le_length (by simp; omega), List.drop_of_length_le (by simp; omega)]
  rfl
theorem stI_more {l : List S34} {h : S34} {k : Nat} (hk : k < l.length) (hp : insP l h.f0 < k) : stI l h (k + 1) = stI l h k ++ [l[k]] := by
  unfold stI
  rw [if_pos (by omega), if_pos hp, List.take_succ_eq_append_getElem hk, List.drop_append_of_le_length (by simp; omega), List.append_assoc, List.append_assoc, List.append_assoc]
theorem stI_len (l : List S34) (h : S34) (k : Nat) (hk : k ≤ l.length) : (stI l h k).length ≤ l.length + 1 := by
  unfold stI
  split
  · simp; omega
  · simp; omega
theorem stI_end {l : List S34} {h : S34} (hp : insP l h.f0 < l.length) : stI l h l.length = insList l h := by
  unfold stI insList
  rw [if_pos hp, List.take_length]
theorem stI_end' {l : List S34} {h : S34} (hp : insP l h.f0 = l.length) : stI l h l.length ++ [h] = insList l h := by
  unfold stI insList
  rw [if_neg (by omega), hp, List.take_length, List.drop_length]
  simp
end
section
open Go.RowKit Go.Proofs.YthfolhgaecfogaaW.PrintWords Go.Proofs.YthfolhgaecfogaaW.PrintLast Go.Proofs.YthfolhgaecfogaaW.PrintMore
theorem Box34.grown {wr w1 : World} {g : Nat} {h : S34} {A : Option Addr} {c : Nat} {r : Option Nat} (b : Box34 wr g h A c) (e : wr.grownBy w1 r) (hne : some g ≠ r) : Box34 w1 g h A c := (e.block g (blk_lt b) hne).trans b
theorem Blk34.grown {wr w1 : World} {g : Nat} {cs : Array Value} {r : Option Nat} (b : Blk34 wr g cs) (e : wr.grownBy w1 r) (hne : some g ≠ r) : Blk34 w1 g cs := (e.block g (blk_lt b) hne).trans b
set_option maxRecDepth 100000 in
set_option maxHeartbeats 4000000 in
theorem raddHost_any (A : Option Addr) (c : Nat) (l : List S34) (h : S34) (A5 : Option Addr) (c5 : Nat) (w : World) (hC : Kd.C k34 w A l.length l) (hc : l.length ≤ c) (hl5 : ∀ h ∈ l, h.f5.length ≤ 4194304)
    (hC5 : Kd.C k77 w A5 h.f5.length h.f5) (hc5 : h.f5.length ≤ c5) (hm5 : h.f5.length ≤ 4194304) :
    Calls Try.prog 37 #[.slice A l.length c, vHost h A5 c5] w fun e w' => ∃ v, e = .returned (.tuple #[v, .int .i64 (raddCode l h)]) ∧ New k34 34 w w' v (raddList l h) ∧ Ext w w' := by
  have hu34 := Try.underlying34
  have hm := len_max hC
  have HC := Lib.hid hC
  have HC5 := Lib.hid hC5
  clear hC hC5
  have hx0 := Lib.hid (ext_alloc w (.cells #[.int .i64 h.f0, .string h.f1, .int .i64 h.f2, .string h.f3, .int .i64 h.f4, .slice A5 h.f5.length c5] 34))
  have hbx := Lib.hid (show Box34 (w.alloc (.cells #[.int .i64 h.f0, .string h.f1, .int .i64 h.f2, .string h.f3, .int .i64 h.f4, .slice A5 h.f5.length c5] 34)) w.heap.size h A5 c5 from heap_alloc_new w _)
  unfold vHost
  cases h1 : tableMay l
  · have hr : Hid (raddCode l h = 1) := by show _ = _; simp [raddCode, h1]
    have hr2 : Hid (raddList l h = []) := by show _ = _; unfold raddList; rw [hr.out]; rfl
    go_enter Try.func37, Try.ntmps37
    go_wp2_with fail
    refine (rmayTable_any A c l _ (Kd.C_below HC.out hx0.out) hc).mono ?_
    rintro e w1 ⟨rfl, hb1⟩
    rw [h1]
    go_wp2
    go_ret2
    exact ⟨_, by rw [hr.out]; rfl, by rw [hr2.out]; exact Kd.R_nil _ _ _ _ _, Ext.tr hx0.out hb1⟩
  have hl64 : l.length ≤ 64 := by
    simp only [tableMay, Bool.and_eq_true, decide_eq_true_eq] at h1
    exact h1.1.1
  cases h2 : hostMay h
  · have hr : Hid (raddCode l h = 1) := by show _ = _; simp [raddCode, h1, h2]
    have hr2 : Hid (raddList l h = []) := by show _ = _; unfold raddList; rw [hr.out]; rfl
    go_enter Try.func37, Try.ntmps37
    go_wp2_with fail
    refine (rmayTable_any A c l _ (Kd.C_below HC.out hx0.out) hc).mono ?_
    rintro e w1 ⟨rfl, hb1⟩
    rw [h1]
    obtain ⟨q0, q1, q2, q3, q4, q5⟩ := Box34.cells (Box34.ext hbx.out hb1)
    go_wp2_with fail
    refine (rhostMay_any h A5 c5 w1 (Kd.C_below HC5.out (Ext.tr hx0.out hb1)) hc5).mono ?_
    rintro e w2 ⟨rfl, hb2⟩
    rw [h2]
    go_wp2
    go_ret2
    exact ⟨_, by rw [hr.out]; rfl, by rw [hr2.out]; exact Kd.R_nil _ _ _ _ _, Ext.tr hx0.out (Ext.tr hb1 hb2)⟩
  have hF0 : findI l h.f0 = idxF (fun x => x.f0 == h.f0) l := rfl
  obtain ⟨F, hF⟩ : ∃ F, F = findI l h.f0 := ⟨_, rfl⟩
  by_cases h3 : 0 ≤ F
  · have hr : Hid (raddCode l h = 3) := by show _ = _; simp [raddCode, h1, h2, ← hF, h3]
    have hr2 : Hid (raddList l h = []) := by show _ = _; unfold raddList; rw [hr.out]; rfl
    have HF := Lib.hid (hF.trans hF0)
    clear hF hF0
    go_enter Try.func37, Try.ntmps37
    go_wp2_with fail
    refine (rmayTable_any A c l _ (Kd.C_below HC.out hx0.out) hc).mono ?_
    rintro e w1 ⟨rfl, hb1⟩
    rw [h1]
    obtain ⟨q0, q1, q2, q3, q4, q5⟩ := Box34.cells (Box34.ext hbx.out hb1)
    go_wp2_with fail
    refine (rhostMay_any h A5 c5 w1 (Kd.C_below HC5.out (Ext.tr hx0.out hb1)) hc5).mono ?_
    rintro e w2 ⟨rfl, hb2⟩
    rw [h2]
    have hX2 := Lib.hid (Ext.tr hx0.out (Ext.tr hb1 hb2))
    clear q0 q1 q2 q3 q4 q5
    obtain ⟨q0, q1, q2, q3, q4, q5⟩ := Box34.cells (Box34.ext (Box34.ext hbx.out hb1) hb2)
    go_wp2_with fail
    refine (rfind_any A c l h.f0 w2 (Kd.C_below HC.out hX2.out) hc).mono ?_
    rintro e w3 ⟨he, hb3⟩
    have he2 := he.trans (show _ = Ending.returned (.int .i64 F) by rw [HF.out])
    clear he
    subst he2
    go_wp2
    go_ret2
    exact ⟨_, by rw [hr.out]; rfl, by rw [hr2.out]; exact Kd.R_nil _ _ _ _ _, Ext.tr hX2.out hb3⟩
  by_cases h4 : 64 ≤ l.length
  · have hr : Hid (raddCode l h = 6) := by show _ = _; simp [raddCode, h1, h2, ← hF, h3, h4]
    have hr2 : Hid (raddList l h = []) := by show _ = _; unfold raddList; rw [hr.out]; rfl
    have HF := Lib.hid (hF.trans hF0)
    have h3' : F < 0 := by omega
    clear hF hF0 h3
    go_enter Try.func37, Try.ntmps37
    go_wp2_with fail
    refine (rmayTable_any A c l _ (Kd.C_below HC.out hx0.out) hc).mono ?_
    rintro e w1 ⟨rfl, hb1⟩
    rw [h1]
    obtain ⟨q0, q1, q2, q3, q4, q5⟩ := Box34.cells (Box34.ext hbx.out hb1)
    go_wp2_with fail
    refine (rhostMay_any h A5 c5 w1 (Kd.C_below HC5.out (Ext.tr hx0.out hb1)) hc5).mono ?_
    rintro e w2 ⟨rfl, hb2⟩
    rw [h2]
    have hX2 := Lib.hid (Ext.tr hx0.out (Ext.tr hb1 hb2))
    clear q0 q1 q2 q3 q4 q5
    obtain ⟨q0, q1, q2, q3, q4, q5⟩ := Box34.cells (Box34.ext (Box34.ext hbx.out hb1) hb2)
    go_wp2_with fail
    refine (rfind_any A c l h.f0 w2 (Kd.C_below HC.out hX2.out) hc).mono ?_
    rintro e w3 ⟨he, hb3⟩
    have he2 := he.trans (show _ = Ending.returned (.int .i64 F) by rw [HF.out])
    clear he
    subst he2
    go_wp2
    go_ret2
    exact ⟨_, by rw [hr.out]; rfl, by rw [hr2.out]; exact Kd.R_nil _ _ _ _ _, Ext.tr hX2.out hb3⟩
  have hr : Hid (raddCode l h = 0) := by show _ = _; simp [raddCode, h1, h2, ← hF, h3, h4]
  have hr2 : Hid (raddList l h = insList l h) := by show _ = _; unfold raddList; rw [hr.out]; rfl
  have HF := Lib.hid (hF.trans hF0)
  have h3' : F < 0 := by omega
  have h4' : l.length < 64 := by omega
  clear hF hF0 h3 h4
  have hp := insP_le l h.f0
  go_enter Try.func37, Try.ntmps37
  go_wp2_with fail
  refine (rmayTable_any A c l _ (Kd.C_below HC.out hx0.out) hc).mono ?_
  rintro e w1 ⟨rfl, hb1⟩
  rw [h1]
  obtain ⟨q0, q1, q2, q3, q4, q5⟩ := Box34.cells (Box34.ext hbx.out hb1)
  go_wp2_with fail
  refine (rhostMay_any h A5 c5 w1 (Kd.C_below HC5.out (Ext.tr hx0.out hb1)) hc5).mono ?_
  rintro e w2 ⟨rfl, hb2⟩
  rw [h2]
  have hX2 := Lib.hid (Ext.tr hx0.out (Ext.tr hb1 hb2))
  clear q0 q1 q2 q3 q4 q5
  obtain ⟨q0, q1, q2, q3, q4, q5⟩ := Box34.cells (Box34.ext (Box34.ext hbx.out hb1) hb2)
  go_wp2_with fail
  refine (rfind_any A c l h.f0 w2 (Kd.C_below HC.out hX2.out) hc).mono ?_
  rintro e w3 ⟨he, hb3⟩
  have he2 := he.trans (show _ = Ending.returned (.int .i64 F) by rw [HF.out])
  clear he
  subst he2
  have hX3 := Lib.hid (Ext.tr hX2.out hb3)
  have hB3 := Lib.hid (Box34.ext (Box34.ext (Box34.ext hbx.out hb1) hb2) hb3)
  clear q0 q1 q2 q3 q4 q5 hb1 hb2 hb3
  go_wp2
  go_loopw [6, 7, 31] (fun v d i wr => ∃ k : Nat, k ≤ l.length ∧ i = .int .i64 k ∧ d = .bool (decide (insP l h.f0 < k)) ∧ Hid (New k34 34 w3 wr v (stI l h k)) ∧ Ext w3 wr) (fun _ _ i _ => l.length - (intOf i).toNat)
  case atStart => exact ⟨0, Nat.zero_le _, rfl, rfl, Kd.R_nil _ _ _ _ _, Below.refl _ _⟩
  case round =>
    obtain ⟨k, hk, rfl, rfl, hR, hb⟩ := hrel
    by_cases hlt : k < l.length
    · have hE := Lib.hid (Ext.tr hX3.out hb)
      obtain ⟨ad, A6, c6, rfl, y0, y1, y2, y3, y4, y5, hl6, HC6w⟩ := C34 HC.out hlt
      have x0 := (hE.out.cell (World.block_lt_of_cell? w _ y0)).trans y0
      have x1 := (hE.out.cell (World.block_lt_of_cell? w _ y1)).trans y1
      have x2 := (hE.out.cell (World.block_lt_of_cell? w _ y2)).trans y2
      have x3 := (hE.out.cell (World.block_lt_of_cell? w _ y3)).trans y3
      have x4 := (hE.out.cell (World.block_lt_of_cell? w _ y4)).trans y4
      have x5 := (hE.out.cell (World.block_lt_of_cell? w _ y5)).trans y5
      have HC6 : Hid (Kd.C k77 wr A6 l[k].f5.length l[k].f5) := Kd.C_below HC6w.out hE.out
      clear y0 y1 y2 y3 y4 y5
      have hm6 := hl5 l[k] (List.getElem_mem hlt)
      have hsl := stI_len l h k hk
      obtain ⟨al, hal⟩ : ∃ al : Obj, al = .cells #[.int .i64 l[k].f0, .string l[k].f1, .int .i64 l[k].f2, .string l[k].f3, .int .i64 l[k].f4, .slice A6 l[k].f5.length c6] 34 := ⟨_, rfl⟩
      have hR1 : Hid (New k34 34 w3 (wr.alloc al) u6 (stI l h k)) := Kd.R_alloc hR.out _
      have hb1 : Hid (Ext w3 (wr.alloc al)) := Ext.tr hb (ext_alloc _ _)
      have hB4 : Hid (Box34 (wr.alloc al) w.heap.size h A5 c5) := Box34.ext (Box34.ext hB3.out hb) (ext_alloc _ _)
      have hlt6 : Hid (∀ j, u6.ownBlock = some j → j < wr.heap.size) := Kd.R_lt hR.out
      obtain ⟨q0, q1, q2, q3, q4, q5⟩ := hB4.out.cells
      rcases Nat.lt_trichotomy k (insP l h.f0) with hkp | hkp | hkp
      · have hle := insP_below l h.f0 k hlt hkp
        have d0 : decide (insP l h.f0 < k) = false := decide_eq_false (by omega)
        have hs := Lib.hid (stI_one hlt hkp)
        subst hal
        rw [d0]
        go_wp2_with fail
        refine (rcopy_any l[k] A6 c6 _ (Kd.C_below HC6.out (ext_alloc _ _)) hl6 hm6).mono ?_
        rintro e w4 ⟨v, rfl, hN, hb2⟩
        have hR2 := Kd.R_below hR1.out hb2
        have hM := Lib.hid (hostMem (base := w3.heap.size) hN hb1.out.size)
        have hap := Lib.hid (apart_of hR1.out (Nat.le_refl _))
        have HR2 := Lib.hid hR2
        have HB3 := Lib.hid (Ext.tr hb1.out hb2)
        obtain ⟨A', c', rfl, hlc, _⟩ := Kd.R_reads hN
        clear hN hR2 hb2 x0 x1 x2 x3 x4 x5
        unfold nHost
        go_wp2_with (at_builtin; refine Kd.R_append (w0 := w3) k34 w3.heap.size rfl _ _ _ 34 _ 80 rfl Try.underlying22 info34 rfl (by decide) (by decide) u6 (stI l h k) l[k] [.int .i64 l[k].f0, .string l[k].f1, .int .i64 l[k].f2, .string l[k].f3, .int .i64 l[k].f4, .slice A' l[k].f5.length c'] (fun _ => True) _ rfl (by simp [Act.eval]) hM.out hap.out (fun _ _ => trivial) HR2.out HB3.out HB3.out.size (by omega) ?_; intro v1 w5 hR3 hb4 hg hat; have HR3 := Lib.hid hR3; have HB4 := Lib.hid hb4; clear hR3 hb4 hg hat)
        go_roundw
        case rel => exact ⟨k + 1, by omega, by go_num, by rw [decide_eq_false (by omega)], by show New _ _ _ _ _ _; rw [hs.out]; exact HR3.out, HB4.out⟩
        case measure => simp [intOf]; omega
      · have hgt : h.f0 < l[k].f0 := by
          have := insP_at l h.f0 (by omega)
          simpa only [← hkp] using this
        have d0 : decide (insP l h.f0 < k) = false := decide_eq_false (by omega)
        have hs := Lib.hid (stI_two hlt hkp)
        have hdn : decide (insP l h.f0 < k + 1) = true := decide_eq_true (by omega)
        clear hkp
        have hbk : Hid (Blk34 (wr.alloc al) wr.heap.size #[.int .i64 l[k].f0, .string l[k].f1, .int .i64 l[k].f2, .string l[k].f3, .int .i64 l[k].f4, .slice A6 l[k].f5.length c6]) := by rw [hal]; exact heap_alloc_new wr _
        have hsz : (wr.alloc al).heap.size = wr.heap.size + 1 := by simp
        have HSZ := Lib.hid hsz
        clear hsz
        subst hal
        rw [d0]
        go_wp2_with fail
        refine (rcopy_any h A5 c5 _ (Kd.C_below HC5.out (Ext.tr hX3.out hb1.out)) hc5 hm5).mono ?_
        rintro e w4 ⟨v, rfl, hN, hb2⟩
        have hR2 := Kd.R_below hR1.out hb2
        have hM := Lib.hid (hostMem (base := w3.heap.size) hN hb1.out.size)
        have hap := Lib.hid (apart_of hR1.out (Nat.le_refl _))
        have HR2 := Lib.hid hR2
        have HB3 := Lib.hid (Ext.tr hb1.out hb2)
        have hbk4 : Hid (Blk34 w4 wr.heap.size _) := (hb2.block wr.heap.size (by rw [HSZ.out]; omega)).trans hbk.out
        have hX4 := Lib.hid hb2
        obtain ⟨A', c', rfl, hlc, _⟩ := Kd.R_reads hN
        clear hN hR2 hb2 x0 x1 x2 x3 x4 x5
        unfold nHost
        go_wp2_with (at_builtin; refine Kd.R_append (w0 := w3) k34 w3.heap.size rfl _ _ _ 34 _ 80 rfl Try.underlying22 info34 rfl (by decide) (by decide) u6 (stI l h k) h [.int .i64 h.f0, .string h.f1, .int .i64 h.f2, .string h.f3, .int .i64 h.f4, .slice A' h.f5.length c'] (fun _ => True) _ rfl (by simp [Act.eval]) hM.out hap.out (fun _ _ => trivial) HR2.out HB3.out HB3.out.size (by omega) ?_; intro v1 w5 hR3 hb4 hg hat; have HR3 := Lib.hid hR3; have HB4 := Lib.hid hb4; have hsl1 : (stI l h k ++ [h]).length ≤ 70 := (by simp; omega); have r0 := Blk34.cells (hbk4.out.grown hg (fun e => by have := hlt6.out _ e.symm; omega)); have HSL1 := Lib.hid hsl1; clear hR3 hb4 hg hat hsl1; obtain ⟨r0, r1, r2, r3, r4, r5⟩ := r0)
        have HC62 : Hid (Kd.C k77 w5 A6 l[k].f5.length l[k].f5) := Kd.C_below HC6w.out (Ext.tr hX3.out HB4.out)
        refine (rcopy_any l[k] A6 c6 _ HC62.out hl6 hm6).mono ?_
        rintro e w6 ⟨v2, rfl, hN, hb5⟩
        have hR4 := Kd.R_below HR3.out hb5
        have hM2 := Lib.hid (hostMem (base := w3.heap.size) hN HB4.out.size)
        have hap2 := Lib.hid (apart_of HR3.out (Nat.le_refl _))
        have HR4 := Lib.hid hR4
        have HB5 := Lib.hid (Ext.tr HB4.out hb5)
        obtain ⟨A'', c'', rfl, hlc2, _⟩ := Kd.R_reads hN
        clear hN hR4 hb5
        unfold nHost
        go_wp2_with (at_builtin; refine Kd.R_append (w0 := w3) k34 w3.heap.size rfl _ _ _ 34 _ 80 rfl Try.underlying22 info34 rfl (by decide) (by decide) v1 (stI l h k ++ [h]) l[k] [.int .i64 l[k].f0, .string l[k].f1, .int .i64 l[k].f2, .string l[k].f3, .int .i64 l[k].f4, .slice A'' l[k].f5.length c''] (fun _ => True) _ rfl (by simp [Act.eval]) hM2.out hap2.out (fun _ _ => trivial) HR4.out HB5.out HB5.out.size (by have := HSL1.out; omega) ?_; intro v3 w7 hR6 hb7 hg hat; have HR6 := Lib.hid hR6; have HB7 := Lib.hid hb7; clear hR6 hb7 hg hat)
        go_roundw
        case rel => exact ⟨k + 1, by omega, by go_num, by rw [hdn], by show New _ _ _ _ _ _; rw [hs.out]; exact HR6.out, HB7.out⟩
        case measure => simp [intOf]; omega
      · have d0 : decide (insP l h.f0 < k) = true := decide_eq_true hkp
        have hs := Lib.hid (stI_more hlt hkp)
        subst hal
        rw [d0]
        go_wp2_with fail
        refine (rcopy_any l[k] A6 c6 _ (Kd.C_below HC6.out (ext_alloc _ _)) hl6 hm6).mono ?_
        rintro e w4 ⟨v, rfl, hN, hb2⟩
        have hR2 := Kd.R_below hR1.out hb2
        have hM := Lib.hid (hostMem (base := w3.heap.size) hN hb1.out.size)
        have hap := Lib.hid (apart_of hR1.out (Nat.le_refl _))
        have HR2 := Lib.hid hR2
        have HB3 := Lib.hid (Ext.tr hb1.out hb2)
        obtain ⟨A', c', rfl, hlc, _⟩ := Kd.R_reads hN
        clear hN hR2 hb2 x0 x1 x2 x3 x4 x5
        unfold nHost
        go_wp2_with (at_builtin; refine Kd.R_append (w0 := w3) k34 w3.heap.size rfl _ _ _ 34 _ 80 rfl Try.underlying22 info34 rfl (by decide) (by decide) u6 (stI l h k) l[k] [.int .i64 l[k].f0, .string l[k].f1, .int .i64 l[k].f2, .string l[k].f3, .int .i64 l[k].f4, .slice A' l[k].f5.length c'] (fun _ => True) _ rfl (by simp [Act.eval]) hM.out hap.out (fun _ _ => trivial) HR2.out HB3.out HB3.out.size (by omega) ?_; intro v1 w5 hR3 hb4 hg hat; have HR3 := Lib.hid hR3; have HB4 := Lib.hid hb4; clear hR3 hb4 hg hat)
        go_roundw
        case rel => exact ⟨k + 1, by omega, by go_num, by rw [decide_eq_true (by omega)], by show New _ _ _ _ _ _; rw [hs.out]; exact HR3.out, HB4.out⟩
        case measure => simp [intOf]; omega
    · obtain rfl : k = l.length := by omega
      have hB4 : Hid (Box34 wr w.heap.size h A5 c5) := Box34.ext hB3.out hb
      have hsl := stI_len l h l.length hk
      have hw3 := hX3.out.size
      by_cases hpl : insP l h.f0 = l.length
      · have d0 : decide (insP l h.f0 < l.length) = false := decide_eq_false (by omega)
        have hs := Lib.hid (stI_end' hpl)
        obtain ⟨q0, q1, q2, q3, q4, q5⟩ := hB4.out.cells
        rw [d0]
        go_wp2_with fail
        refine (rcopy_any h A5 c5 _ (Kd.C_below HC5.out (Ext.tr hX3.out hb)) hc5 hm5).mono ?_
        rintro e w4 ⟨v, rfl, hN, hb2⟩
        have hR2 := Kd.R_below hR.out hb2
        have hM := Lib.hid (hostMem (base := w3.heap.size) hN hb.size)
        have hap := Lib.hid (apart_of hR.out (Nat.le_refl _))
        have HR2 := Lib.hid hR2
        have HB3 := Lib.hid (Ext.tr hb hb2)
        obtain ⟨A', c', rfl, hlc, _⟩ := Kd.R_reads hN
        clear hN hR2 hb2
        unfold nHost
        go_wp2_with (at_builtin; refine Kd.R_append (w0 := w3) k34 w3.heap.size rfl _ _ _ 34 _ 80 rfl Try.underlying22 info34 rfl (by decide) (by decide) u6 (stI l h l.length) h [.int .i64 h.f0, .string h.f1, .int .i64 h.f2, .string h.f3, .int .i64 h.f4, .slice A' h.f5.length c'] (fun _ => True) _ rfl (by simp [Act.eval]) hM.out hap.out (fun _ _ => trivial) HR2.out HB3.out HB3.out.size (by omega) ?_; intro v1 w5 hR3 hb4 hg hat; have HR3 := Lib.hid hR3; have HB4 := Lib.hid hb4; clear hR3 hb4 hg hat)
        go_ret2
        exact ⟨_, by rw [hr.out]; rfl, by rw [hr2.out, ← hs.out]; exact Kd.R_lower HR3.out hw3, Ext.tr hX3.out HB4.out⟩
      · have d0 : decide (insP l h.f0 < l.length) = true := decide_eq_true (by omega)
        have hs := Lib.hid (stI_end (l := l) (h := h) (by omega))
        rw [d0]
        go_wp2
        go_ret2
        exact ⟨_, by rw [hr.out]; rfl, by rw [hr2.out, ← hs.out]; exact Kd.R_lower hR.out hw3, Ext.tr hX3.out hb⟩
end
section
open Go.RowKit Go.Proofs.YthfolhgaecfogaaW.PrintWords Go.Proofs.YthfolhgaecfogaaW.PrintLast Go.Proofs.YthfolhgaecfogaaW.PrintMore
def outF (l : List S34) (id : Int) : List S34 := l.filter (fun h => !(h.f0 == id))
def rcutList (l : List S34) (id : Int) : List S34 := if cutCode l id = 0 then outF l id else []
theorem outF_step {l : List S34} {id : Int} {k : Nat} (hk : k < l.length) (h : (l[k].f0 == id) = false) : outF (l.take (k + 1)) id = outF (l.take k) id ++ [l[k]] := by
  unfold outF
  rw [List.take_succ_eq_append_getElem hk, List.filter_append]
  simp [h]
theorem outF_skip {l : List S34} {id : Int} {k : Nat} (hk : k < l.length) (h : (l[k].f0 == id) = true) : outF (l.take (k + 1)) id = outF (l.take k) id := by
  unfold outF
  rw [List.take_succ_eq_append_getElem hk, List.filter_append]
  simp [h]
theorem outF_len (l : List S34) (id : Int) : (outF l id).length ≤ l.length := List.length_filter_le _ _
set_option maxRecDepth 100000 in
set_option maxHeartbeats 2000000 in
theorem rcutHost_any (A : Option Addr) (c : Nat) (l : List S34) (id : Int) (w : World) (hC : Kd.C k34 w A l.length l) (hc : l.length ≤ c) (hl5 : ∀ h ∈ l, h.f5.length ≤ 4194304) :
    Calls Try.prog 39 #[.slice A l.length c, .int .i64 id] w fun e w' => ∃ v, e = .returned (.tuple #[v, .int .i64 (cutCode l id)]) ∧ New k34 34 w w' v (rcutList l id) ∧ Ext w w' := by
  have hu34 := Try.underlying34
  have HC := Lib.hid hC
  have hm := len_max hC
  clear hC
  cases h1 : tableMay l
  · have hr : Hid (cutCode l id = 1) := by show _ = _; simp [cutCode, h1]
    have hr2 : Hid (rcutList l id = []) := by show _ = _; unfold rcutList; rw [hr.out]; rfl
    go_enter Try.func39, Try.ntmps39
    go_wp2_with fail
    refine (rmayTable_any A c l w HC.out hc).mono ?_
    rintro e w1 ⟨rfl, hb1⟩
    rw [h1]
    go_wp2
    go_ret2
    exact ⟨_, by rw [hr.out]; rfl, by rw [hr2.out]; exact Kd.R_nil _ _ _ _ _, hb1⟩
  have hl64 : l.length ≤ 64 := by
    simp only [tableMay, Bool.and_eq_true, decide_eq_true_eq] at h1
    exact h1.1.1
  have hF0 : findI l id = idxF (fun x => x.f0 == id) l := rfl
  obtain ⟨F, hF⟩ : ∃ F, F = findI l id := ⟨_, rfl⟩
  by_cases h3 : F < 0
  · have hr : Hid (cutCode l id = 4) := by show _ = _; simp [cutCode, h1, ← hF, h3]
    have hr2 : Hid (rcutList l id = []) := by show _ = _; unfold rcutList; rw [hr.out]; rfl
    have HF := Lib.hid (hF.trans hF0)
    clear hF hF0
    go_enter Try.func39, Try.ntmps39
    go_wp2_with fail
    refine (rmayTable_any A c l w HC.out hc).mono ?_
    rintro e w1 ⟨rfl, hb1⟩
    rw [h1]
    go_wp2_with fail
    refine (rfind_any A c l id w1 (Kd.C_below HC.out hb1) hc).mono ?_
    rintro e w3 ⟨he, hb3⟩
    have he2 := he.trans (show _ = Ending.returned (.int .i64 F) by rw [HF.out])
    clear he
    subst he2
    go_wp2
    go_ret2
    exact ⟨_, by rw [hr.out]; rfl, by rw [hr2.out]; exact Kd.R_nil _ _ _ _ _, Ext.tr hb1 hb3⟩
  · have hr : Hid (cutCode l id = 0) := by show _ = _; simp [cutCode, h1, ← hF, h3]
    have hr2 : Hid (rcutList l id = outF l id) := by show _ = _; unfold rcutList; rw [hr.out]; rfl
    have HF := Lib.hid (hF.trans hF0)
    have h3' : 0 ≤ F := by omega
    clear hF hF0 h3
    go_enter Try.func39, Try.ntmps39
    go_wp2_with fail
    refine (rmayTable_any A c l w HC.out hc).mono ?_
    rintro e w1 ⟨rfl, hb1⟩
    rw [h1]
    go_wp2_with fail
    refine (rfind_any A c l id w1 (Kd.C_below HC.out hb1) hc).mono ?_
    rintro e w3 ⟨he, hb3⟩
    have he2 := he.trans (show _ = Ending.returned (.int .i64 F) by rw [HF.out])
    clear he
    subst he2
    have hX3 := Lib.hid (Ext.tr hb1 hb3)
    clear hb1 hb3
    go_wp2
    go_loopw [6, 18] (fun v i wr => ∃ k : Nat, k ≤ l.length ∧ i = .int .i64 k ∧ Hid (New k34 34 w3 wr v (outF (l.take k) id)) ∧ Ext w3 wr) (fun _ i _ => l.length - (intOf i).toNat)
    case atStart => exact ⟨0, Nat.zero_le _, rfl, Kd.R_nil _ _ _ _ _, Below.refl _ _⟩
    case round =>
      obtain ⟨k, hk, rfl, hR, hb⟩ := hrel
      by_cases hlt : k < l.length
      · obtain ⟨ad, A6, c6, rfl, x0, x1, x2, x3, x4, x5, hl6, HC6⟩ := C34 (Kd.C_below HC.out (Ext.tr hX3.out hb)) hlt
        have hm6 := hl5 l[k] (List.getElem_mem hlt)
        have hsl : (outF (l.take k) id).length ≤ l.length := Nat.le_trans (outF_len _ _) (by rw [List.length_take]; omega)
        obtain ⟨al, hal⟩ : ∃ al : Obj, al = .cells #[.int .i64 l[k].f0, .string l[k].f1, .int .i64 l[k].f2, .string l[k].f3, .int .i64 l[k].f4, .slice A6 l[k].f5.length c6] 34 := ⟨_, rfl⟩
        have hR1 : Hid (New k34 34 w3 (wr.alloc al) u6 (outF (l.take k) id)) := Kd.R_alloc hR.out _
        have hb1 : Hid (Ext w3 (wr.alloc al)) := Ext.tr hb (ext_alloc _ _)
        cases hq : l[k].f0 == id
        · have hs := Lib.hid (outF_step hlt hq)
          subst hal
          go_wp2_with fail
          refine (rcopy_any l[k] A6 c6 _ (Kd.C_below HC6.out (ext_alloc _ _)) hl6 hm6).mono ?_
          rintro e w4 ⟨v, rfl, hN, hb2⟩
          have hR2 := Kd.R_below hR1.out hb2
          have hM := Lib.hid (hostMem (base := w3.heap.size) hN hb1.out.size)
          have hap := Lib.hid (apart_of hR1.out (Nat.le_refl _))
          have HR2 := Lib.hid hR2
          have HB3 := Lib.hid (Ext.tr hb1.out hb2)
          obtain ⟨A', c', rfl, hlc, _⟩ := Kd.R_reads hN
          clear hN hR2 hb2 x0 x1 x2 x3 x4 x5
          unfold nHost
          go_wp2_with (at_builtin; refine Kd.R_append (w0 := w3) k34 w3.heap.size rfl _ _ _ 34 _ 80 rfl Try.underlying22 info34 rfl (by decide) (by decide) u6 (outF (l.take k) id) l[k] [.int .i64 l[k].f0, .string l[k].f1, .int .i64 l[k].f2, .string l[k].f3, .int .i64 l[k].f4, .slice A' l[k].f5.length c'] (fun _ => True) _ rfl (by simp [Act.eval]) hM.out hap.out (fun _ _ => trivial) HR2.out HB3.out HB3.out.size (by omega) ?_; intro v1 w5 hR3 hb4 hg hat; have HR3 := Lib.hid hR3; have HB4 := Lib.hid hb4; clear hR3 hb4 hg hat)
          go_roundw
          case rel => exact ⟨k + 1, by omega, by go_num, by show New _ _ _ _ _ _; rw [hs.out]; exact HR3.out, HB4.out⟩
          case measure => simp [intOf]; omega
        · have hs := Lib.hid (outF_skip hlt hq)
          subst hal
          go_wp2
          go_roundw
          case rel => exact ⟨k + 1, by omega, by go_num, by show New _ _ _ _ _ _; rw [hs.out]; exact hR1.out, hb1.out⟩
          case measure => simp [intOf]; omega
      · obtain rfl : k = l.length := by omega
        have hs : Hid (outF (l.take l.length) id = outF l id) := by show _ = _; rw [List.take_length]
        have hw3 := hX3.out.size
        go_wp2
        go_ret2
        exact ⟨_, by rw [hr.out]; rfl, by rw [hr2.out, ← hs.out]; exact Kd.R_lower hR.out hw3, Ext.tr hX3.out hb⟩
end
section
open Go.RowKit Go.Proofs.YthfolhgaecfogaaW.PrintWords Go.Proofs.YthfolhgaecfogaaW.PrintLast Go.Proofs.YthfolhgaecfogaaW.PrintMore
abbrev kI : Kd Int := Kd.int .i64
theorem CI {w : World} {A : Option Addr} {l : List Int} (h : Kd.C kI w A l.length l) {k : Nat} (hk : k < l.length) : ∃ ad, A = some ad ∧ w.cell? (ad.add k) = some (.int .i64 l[k]) := by
  obtain ⟨ad, c, e, _, hK, hc0⟩ := Kd.C_get h (0 : Int) (k : Int) (by omega) (by omega)
  obtain rfl : c = [.int .i64 (l.getD k 0)] := hK
  have := hc0 0 _ rfl
  refine ⟨ad, e, ?_⟩
  rw [List.getD_eq_getElem?_getD, List.getElem?_eq_getElem hk] at this
  simpa [show kI.sz = 1 from rfl] using this
theorem kmI (W : World) (base : Nat) (ok : Nat → Prop) (x : Int) : kI.M W base ok x [.int .i64 x] := rfl
theorem infoI : (Try.prog.info? 3).map (fun i => (i.zero, i.size, i.bytes)) = some (some (.int .i64 0), 1, 8) := by kernel_rfl
/-- slices.Index of ints -/
def idxI (l : List Int) (x : Int) : Int := idxF (fun y => x == y) l
set_option maxRecDepth 100000 in
set_option maxHeartbeats 1000000 in
theorem index_any (A : Option Addr) (c n : Nat) (l : List Int) (x : Int) (w : World) (hC0 : Kd.C kI w A n l) (hc0 : n ≤ c) :
    Calls Try.prog 67 #[.slice A n c, .int .i64 x] w fun e w' => e = .returned (.int .i64 (idxI l x)) ∧ Ext w w' := by
  obtain rfl : l.length = n := Kd.C_len hC0
  have hm := len_max hC0
  have HC := Lib.hid hC0
  clear hC0
  go_enter Try.func67, Try.ntmps67
  go_wp2
  go_loopw [8] (fun i wr => ∃ k : Nat, k ≤ l.length ∧ i = .int .i64 k ∧ Hid ((l.take k).any (fun y => x == y) = false) ∧ Ext w wr) (fun i _ => l.length - (intOf i).toNat)
  case atStart => exact ⟨0, Nat.zero_le _, rfl, rfl, Below.refl _ _⟩
  case round =>
    obtain ⟨k, hk, rfl, hg, hb⟩ := hrel
    by_cases hlt : k < l.length
    · obtain ⟨ad, rfl, x0⟩ := CI (Kd.C_below HC.out hb) hlt
      cases hq : x == l[k]
      · have hs := Lib.hid (any_step hlt hg.out hq)
        go_wp2
        go_roundw
        case rel => exact ⟨k + 1, by omega, by go_num, hs, hb⟩
        case measure => simp [intOf]; omega
      · have hs := Lib.hid (idxF_hit (p := fun y => x == y) hlt hg.out hq)
        go_wp2
        go_ret
        exact ⟨by show _ = Ending.returned (.int .i64 (idxF _ l)); rw [hs.out]; rfl, hb⟩
    · obtain rfl : k = l.length := by omega
      have hs := Lib.hid (idxF_none (p := fun y => x == y) (l := l) (by have := hg.out; rwa [List.take_length] at this))
      go_wp2
      go_ret
      exact ⟨by show _ = Ending.returned (.int .i64 (idxF _ l)); rw [hs.out]; rfl, hb⟩
theorem contains_any (A : Option Addr) (c n : Nat) (l : List Int) (x : Int) (w : World) (hC0 : Kd.C kI w A n l) (hc0 : n ≤ c) :
    Calls Try.prog 43 #[.slice A n c, .int .i64 x] w fun e w' => e = .returned (.bool (l.any (fun y => x == y))) ∧ Ext w w' := by
  go_enter Try.func43, Try.ntmps43
  go_wp2_with fail
  refine (index_any A c n l x w hC0 hc0).mono ?_
  rintro e w1 ⟨rfl, hb⟩
  go_wp2
  go_ret
  exact ⟨by rw [← idxF_any]; rfl, hb⟩
end
section
open Go.RowKit Go.Proofs.YthfolhgaecfogaaW.PrintWords Go.Proofs.YthfolhgaecfogaaW.PrintLast Go.Proofs.YthfolhgaecfogaaW.PrintMore
set_option maxRecDepth 100000 in
set_option maxHeartbeats 1000000 in
theorem ints_same (A A' : Option Addr) (n n' c c' : Nat) (l l' : List Int) (w : World) (hll : l = l') (hC : Kd.C kI w A n l) (hC' : Kd.C kI w A' n' l') (hc : n ≤ c) (hc' : n' ≤ c') :
    Calls Try.prog 14 #[.slice A n c, .slice A' n' c'] w fun e w' => e = .returned (.bool true) ∧ Ext w w' := by
  subst hll
  obtain rfl : l.length = n := Kd.C_len hC
  obtain rfl : l.length = n' := Kd.C_len hC'
  have hm := len_max hC
  have HC := Lib.hid hC
  have HC' := Lib.hid hC'
  clear hC hC'
  go_enter Try.func14, Try.ntmps14
  go_wp2
  go_loopw [13] (fun i wr => ∃ k : Nat, k ≤ l.length ∧ i = .int .i64 k ∧ Ext w wr) (fun i _ => l.length - (intOf i).toNat)
  case atStart => exact ⟨0, Nat.zero_le _, rfl, Below.refl _ _⟩
  case round =>
    obtain ⟨k, hk, rfl, hb⟩ := hrel
    by_cases hlt : k < l.length
    · obtain ⟨ad, rfl, x0⟩ := CI (Kd.C_below HC.out hb) hlt
      obtain ⟨ad', rfl, x1⟩ := CI (Kd.C_below HC'.out hb) hlt
      have y0 := fun d os => cell_regrown x0 d os
      have y1 := fun d os => cell_regrown x1 d os
      clear x0 x1
      go_wp2
      refine wp_region_quiet_below (by kernel_rfl) (by kernel_rfl) ?_
      repeat (go_big_quiet_step (fail))
      refine wpQuiet_nil ?_
      intro _ hw'
      obtain ⟨⟨dq, osq⟩, hw''⟩ := hw'
      subst hw''
      have hz := Lib.hid (Ext.tr hb (below_regrown _ dq osq))
      go_wp2
      go_roundw
      case rel => exact ⟨k + 1, by omega, by go_num, hz.out⟩
      case measure => simp [intOf]; omega
    · obtain rfl : k = l.length := by omega
      go_wp2
      go_ret
      exact ⟨rfl, hb⟩
attribute [local go_sem high] eqA77
set_option maxRecDepth 100000 in
set_option maxHeartbeats 1000000 in
theorem samePairs_any (A A' : Option Addr) (n n' c c' : Nat) (l l' : List S77) (w : World) (hll : l = l') (hC : Kd.C k77 w A n l) (hC' : Kd.C k77 w A' n' l') (hc : n ≤ c) (hc' : n' ≤ c') :
    Calls Try.prog 66 #[.slice A n c, .slice A' n' c'] w fun e w' => e = .returned (.bool true) ∧ Ext w w' := by
  subst hll
  have hu77 := Try.underlying77
  obtain rfl : l.length = n := Kd.C_len hC
  obtain rfl : l.length = n' := Kd.C_len hC'
  have hm := len_max hC
  have HC := Lib.hid hC
  have HC' := Lib.hid hC'
  clear hC hC'
  go_enter Try.func66, Try.ntmps66
  go_wp2
  go_loopw [13] (fun i wr => ∃ k : Nat, k ≤ l.length ∧ i = .int .i64 k ∧ Ext w wr) (fun i _ => l.length - (intOf i).toNat)
  case atStart => exact ⟨0, Nat.zero_le _, rfl, Below.refl _ _⟩
  case round =>
    obtain ⟨k, hk, rfl, hb⟩ := hrel
    by_cases hlt : k < l.length
    · obtain ⟨ad, rfl, x0, x2⟩ := C77 (Kd.C_below HC.out hb) hlt
      obtain ⟨ad', rfl, x1, x3⟩ := C77 (Kd.C_below HC'.out hb) hlt
      have y0 := fun d os => cell_regrown x0 d os
      have y1 := fun d os => cell_regrown x1 d os
      have y2 := fun d os => cell_regrown x2 d os
      have y3 := fun d os => cell_regrown x3 d os
      clear x0 x1 x2 x3
      go_wp2
      refine wp_region_quiet_below (by kernel_rfl) (by kernel_rfl) ?_
      repeat (go_big_quiet_step (fail))
      refine wpQuiet_nil ?_
      intro _ hw'
      obtain ⟨⟨dq, osq⟩, hw''⟩ := hw'
      subst hw''
      have hz := Lib.hid (Ext.tr hb (below_regrown _ dq osq))
      go_wp2
      go_roundw
      case rel => exact ⟨k + 1, by omega, by go_num, hz.out⟩
      case measure => simp [intOf]; omega
    · obtain rfl : k = l.length := by omega
      go_wp2
      go_ret
      exact ⟨rfl, hb⟩
end
section
open Go.RowKit Go.Proofs.YthfolhgaecfogaaW.PrintWords Go.Proofs.YthfolhgaecfogaaW.PrintLast Go.Proofs.YthfolhgaecfogaaW.PrintMore
set_option maxRecDepth 100000 in
set_option maxHeartbeats 1000000 in
theorem sameHost_any (h h' : S34) (A A' : Option Addr) (c c' : Nat) (w : World) (hh : h = h') (hC : Kd.C k77 w A h.f5.length h.f5) (hc : h.f5.length ≤ c) (hC' : Kd.C k77 w A' h'.f5.length h'.f5) (hc' : h'.f5.length ≤ c') :
    Calls Try.prog 42 #[vHost h A c, vHost h' A' c'] w fun e w' => e = .returned (.bool true) ∧ Ext w w' := by
  subst hh
  have hu34 := Try.underlying34
  have HC := Lib.hid hC
  have HC' := Lib.hid hC'
  clear hC hC'
  unfold vHost
  go_enter Try.func42, Try.ntmps42
  go_wp2_with fail
  refine (samePairs_any A A' _ _ c c' h.f5 h.f5 _ rfl (Kd.C_below HC.out (Ext.tr (ext_alloc _ _) (ext_alloc _ _))) (Kd.C_below HC'.out (Ext.tr (ext_alloc _ _) (ext_alloc _ _))) hc hc').mono ?_
  rintro e w1 ⟨rfl, hb⟩
  go_wp2
  go_ret
  exact ⟨rfl, Ext.tr (Ext.tr (ext_alloc _ _) (ext_alloc _ _)) hb⟩
theorem q42 (h : S34) (A A' : Option Addr) (c c' : Nat) (W : World) (hC : Kd.C k77 W A h.f5.length h.f5) (hc : h.f5.length ≤ c) (hC' : Kd.C k77 W A' h.f5.length h.f5) (hc' : h.f5.length ≤ c') (d : Nat) (os : Array Obj) :
    Calls Try.prog 42 #[.agg #[.int .i64 h.f0, .string h.f1, .int .i64 h.f2, .string h.f3, .int .i64 h.f4, .slice A h.f5.length c], .agg #[.int .i64 h.f0, .string h.f1, .int .i64 h.f2, .string h.f3, .int .i64 h.f4, .slice A' h.f5.length c']] (Go.Sort.grow (redrawn W d) os) fun e w'' => e = .returned (.bool true) ∧ ∃ p : Regrown, w'' = Go.Sort.grow (redrawn W p.d) p.os :=
  Calls.regrown_of (sameHost_any h h A A' c c' _ rfl (Kd.C_below hC (below_regrown W d os)) hc (Kd.C_below hC' (below_regrown W d os)) hc')
set_option maxRecDepth 100000 in
set_option maxHeartbeats 1000000 in
theorem sameHosts_any (A A' : Option Addr) (n n' c c' : Nat) (l l' : List S34) (w : World) (hll : l = l') (hC : Kd.C k34 w A n l) (hC' : Kd.C k34 w A' n' l') (hc : n ≤ c) (hc' : n' ≤ c') :
    Calls Try.prog 18 #[.slice A n c, .slice A' n' c'] w fun e w' => e = .returned (.bool true) ∧ Ext w w' := by
  subst hll
  have hu34 := Try.underlying34
  obtain rfl : l.length = n := Kd.C_len hC
  obtain rfl : l.length = n' := Kd.C_len hC'
  have hm := len_max hC
  have HC := Lib.hid hC
  have HC' := Lib.hid hC'
  clear hC hC'
  go_enter Try.func18, Try.ntmps18
  go_wp2
  go_loopw [13] (fun i wr => ∃ k : Nat, k ≤ l.length ∧ i = .int .i64 k ∧ Ext w wr) (fun i _ => l.length - (intOf i).toNat)
  case atStart => exact ⟨0, Nat.zero_le _, rfl, Below.refl _ _⟩
  case round =>
    obtain ⟨k, hk, rfl, hb⟩ := hrel
    by_cases hlt : k < l.length
    · obtain ⟨ad, A5, c5, rfl, x0, x1, x2, x3, x4, x5, hl5, HC5⟩ := C34 (Kd.C_below HC.out hb) hlt
      obtain ⟨ad', A6, c6, rfl, z0, z1, z2, z3, z4, z5, hl6, HC6⟩ := C34 (Kd.C_below HC'.out hb) hlt
      have y0 := fun d os => cell_regrown x0 d os
      have y1 := fun d os => cell_regrown x1 d os
      have y2 := fun d os => cell_regrown x2 d os
      have y3 := fun d os => cell_regrown x3 d os
      have y4 := fun d os => cell_regrown x4 d os
      have y5 := fun d os => cell_regrown x5 d os
      have v0 := fun d os => cell_regrown z0 d os
      have v1 := fun d os => cell_regrown z1 d os
      have v2 := fun d os => cell_regrown z2 d os
      have v3 := fun d os => cell_regrown z3 d os
      have v4 := fun d os => cell_regrown z4 d os
      have v5 := fun d os => cell_regrown z5 d os
      clear x0 x1 x2 x3 x4 x5 z0 z1 z2 z3 z4 z5
      go_wp2
      refine wp_region_quiet_below (by kernel_rfl) (by kernel_rfl) ?_
      repeat (go_big_quiet_step ((go_at_call 42; exact q42 l[k] A5 A6 c5 c6 _ HC5.out hl5 HC6.out hl6 _ _)))
      refine wpQuiet_nil ?_
      intro _ hw'
      obtain ⟨⟨dq, osq⟩, hw''⟩ := hw'
      subst hw''
      have hz := Lib.hid (Ext.tr hb (below_regrown _ dq osq))
      go_wp2
      go_roundw
      case rel => exact ⟨k + 1, by omega, by go_num, hz.out⟩
      case measure => simp [intOf]; omega
    · obtain rfl : k = l.length := by omega
      go_wp2
      go_ret
      exact ⟨rfl, hb⟩
end
end Go.Proofs.Ythfolhgaecfogaa
