import Derived.Test.YthfolhgaecfogaaM6
set_option linter.unusedVariables false
set_option linter.unusedSimpArgs false
namespace Go.Proofs.Ythfolhgaecfogaa
section
open Go.RowKit Go.Proofs.YthfolhgaecfogaaW.PrintWords Go.Proofs.YthfolhgaecfogaaW.PrintLast Go.Proofs.YthfolhgaecfogaaW.PrintMore
theorem addList_zero {l : List S34} {h : S34} (h0 : addCode l h = 0) : addList l h = l.take (addAt l h) ++ [h] ++ l.drop (addAt l h) := by unfold addList; rw [if_pos h0]
theorem mem_addList {l : List S34} {h x : S34} (h0 : addCode l h = 0) : x ∈ addList l h ↔ x = h ∨ x ∈ l := by
  rw [addList_zero h0, List.mem_append, List.mem_append, List.mem_singleton]
  constructor
  · rintro ((hx | hx) | hx)
    · exact .inr (List.mem_of_mem_take hx)
    · exact .inl hx
    · exact .inr (List.mem_of_mem_drop hx)
  · rintro (hx | hx)
    · exact .inl (.inr hx)
    · have : x ∈ l.take (addAt l h) ++ l.drop (addAt l h) := by rwa [List.take_append_drop]
      rcases List.mem_append.1 this with h1 | h1
      · exact .inl (.inl h1)
      · exact .inr h1
theorem len_addList {l : List S34} {h : S34} (h0 : addCode l h = 0) : (addList l h).length = l.length + 1 := by
  have := addAt_le l h
  rw [addList_zero h0]
  simp
  omega
theorem rising_addList {l : List S34} {h : S34} (h0 : addCode l h = 0) : Rising (addList l h) := by
  obtain ⟨h1, h2, h3, h4⟩ := addCode_zero h0
  have hl := (tableMay_iff.1 h1).2.1
  have hle := addAt_le l h
  have hlo : ∀ x ∈ l.take (addAt l h), x.f0 < h.f0 := by
    intro x hx
    obtain ⟨i, hi, rfl⟩ := List.getElem_of_mem hx
    rw [List.length_take] at hi
    rw [List.getElem_take]
    exact addAt_below l h i (by omega) (by omega)
  have hhi : ∀ x ∈ l.drop (addAt l h), h.f0 < x.f0 := by
    intro x hx
    obtain ⟨i, hi, rfl⟩ := List.getElem_of_mem hx
    rw [List.length_drop] at hi
    rw [List.getElem_drop]
    have ha := addAt_at l h (by omega)
    have hne := h3 l[addAt l h] (List.getElem_mem _)
    rcases Nat.eq_zero_or_pos i with rfl | hpos
    · show h.f0 < l[addAt l h].f0
      omega
    · have := List.pairwise_iff_getElem.1 hl (addAt l h) (addAt l h + i) (by omega) (by omega) (by omega)
      omega
  rw [addList_zero h0, List.append_assoc]
  refine List.pairwise_append.2 ⟨hl.sublist (List.take_sublist _ _), List.pairwise_append.2 ⟨List.pairwise_singleton _ _, hl.sublist (List.drop_sublist _ _), ?_⟩, ?_⟩
  · intro a ha b hb
    rw [List.mem_singleton.1 ha]
    exact hhi b hb
  · intro a ha b hb
    have h5 := hlo a ha
    rcases List.mem_append.1 hb with hb | hb
    · rw [List.mem_singleton.1 hb]; exact h5
    · have := hhi b hb; omega
theorem may_addList {l : List S34} {h : S34} (h0 : addCode l h = 0) : tableMay (addList l h) = true := by
  obtain ⟨h1, h2, h3, h4⟩ := addCode_zero h0
  refine tableMay_iff.2 ⟨by rw [len_addList h0]; omega, rising_addList h0, fun x hx => ?_⟩
  rcases (mem_addList h0).1 hx with rfl | hx
  · exact h2
  · exact (tableMay_iff.1 h1).2.2 x hx
theorem at_addList {l : List S34} {h : S34} (h0 : addCode l h = 0) : (addList l h)[addAt l h]? = some h := by
  have hle := addAt_le l h
  rw [addList_zero h0, List.append_assoc, List.getElem?_append_right (by rw [List.length_take]; omega), List.length_take, Nat.min_eq_left hle, Nat.sub_self]
  rfl
theorem find_addList {l : List S34} {h : S34} (h0 : addCode l h = 0) : findI (addList l h) h.f0 = (addAt l h : Int) := by
  have ha := at_addList h0
  obtain ⟨hlt, he⟩ := List.getElem?_eq_some_iff.1 ha
  rcases Int.lt_or_le (findI (addList l h) h.f0) 0 with hf | hf
  · exact absurd rfl (findI_none hf h ((mem_addList h0).2 (.inl rfl)))
  · obtain ⟨hi, hei⟩ := findI_some (l := addList l h) (id := h.f0) (i := (findI (addList l h) h.f0).toNat) (by omega)
    rcases Nat.lt_trichotomy (findI (addList l h) h.f0).toNat (addAt l h) with h5 | h5 | h5
    · have := List.pairwise_iff_getElem.1 (rising_addList h0) _ _ hi hlt h5
      rw [he] at this; omega
    · omega
    · have := List.pairwise_iff_getElem.1 (rising_addList h0) _ _ hlt hi h5
      rw [he] at this; omega
theorem again_addList {l : List S34} {h : S34} (h0 : addCode l h = 0) : addCode (addList l h) h = 3 := by
  obtain ⟨h1, h2, h3, h4⟩ := addCode_zero h0
  unfold addCode
  rw [may_addList h0, h2]
  simp only [Bool.not_true, Bool.false_eq_true, if_false]
  rw [if_pos ((hereK_iff (rising_addList h0) h).2 ⟨h, (mem_addList h0).2 (.inl rfl), rfl⟩)]
theorem cutCode_addList {l : List S34} {h : S34} (h0 : addCode l h = 0) : cutCode (addList l h) h.f0 = 0 := by
  unfold cutCode
  rw [may_addList h0, find_addList h0]
  simp only [Bool.not_true, Bool.false_eq_true, if_false]
  rw [if_neg (by omega)]
theorem cut_addList {l : List S34} {h : S34} (h0 : addCode l h = 0) : cutList (addList l h) h.f0 = l := by
  have hle := addAt_le l h
  unfold cutList
  rw [if_pos (cutCode_addList h0), find_addList h0, Int.toNat_natCast, addList_zero h0, List.append_assoc]
  rw [List.take_append_of_le_length (by simp; omega), List.take_of_length_le (by rw [List.length_take]; omega)]
  rw [List.drop_append, List.drop_of_length_le (by simp; omega), List.length_take, Nat.min_eq_left hle, Nat.add_sub_cancel_left]
  show l.take (addAt l h) ++ l.drop (addAt l h) = l
  exact List.take_append_drop _ _
end
section
open Go.RowKit Go.Proofs.YthfolhgaecfogaaW.PrintWords Go.Proofs.YthfolhgaecfogaaW.PrintLast Go.Proofs.YthfolhgaecfogaaW.PrintMore
/-- the six cells of a host at an address -/
def Six (w : World) (ad : Addr) (h : S34) (A : Option Addr) (c : Nat) : Prop :=
  w.cell? ad = some (.int .i64 h.f0) ∧ w.cell? ⟨ad.block, ad.off + 1, none⟩ = some (.string h.f1) ∧ w.cell? ⟨ad.block, ad.off + 2, none⟩ = some (.int .i64 h.f2) ∧ w.cell? ⟨ad.block, ad.off + 3, none⟩ = some (.string h.f3) ∧ w.cell? ⟨ad.block, ad.off + 4, none⟩ = some (.int .i64 h.f4) ∧ w.cell? ⟨ad.block, ad.off + 5, none⟩ = some (.slice A h.f5.length c)
theorem Six.ext {w w' : World} {ad : Addr} {h : S34} {A : Option Addr} {c : Nat} (s : Six w ad h A c) (hb : Ext w w') : Six w' ad h A c := by
  obtain ⟨h0, h1, h2, h3, h4, h5⟩ := s
  exact ⟨(hb.cell (World.block_lt_of_cell? w _ h0)).trans h0, (hb.cell (World.block_lt_of_cell? w _ h1)).trans h1, (hb.cell (World.block_lt_of_cell? w _ h2)).trans h2, (hb.cell (World.block_lt_of_cell? w _ h3)).trans h3, (hb.cell (World.block_lt_of_cell? w _ h4)).trans h4, (hb.cell (World.block_lt_of_cell? w _ h5)).trans h5⟩
theorem q10 (A : Option Addr) (c : Nat) (l : List S34) (W : World) (hC : Kd.C k34 W A l.length l) (hc : l.length ≤ c) (hl : ∀ h ∈ l, hostSz h ≤ 4194304) {r : Int} (hr : light8 l = r) (d : Nat) (os : Array Obj) :
    Calls Try.prog 10 #[.slice A l.length c] (Go.Sort.grow (redrawn W d) os) fun e w'' => e = .returned (.int .i64 r) ∧ ∃ p : Regrown, w'' = Go.Sort.grow (redrawn W p.d) p.os :=
  hr ▸ Calls.regrown_of (light8_any A c l _ (Kd.C_below hC (below_regrown W d os)) hc hl)
theorem q20 (h : S34) (A : Option Addr) (c : Nat) (W : World) (hC : Kd.C k77 W A h.f5.length h.f5) (hc : h.f5.length ≤ c) (hs : hostSz h ≤ 4194304) {r : Int} (hr : light7 h = r) (d : Nat) (os : Array Obj) :
    Calls Try.prog 20 #[.agg #[.int .i64 h.f0, .string h.f1, .int .i64 h.f2, .string h.f3, .int .i64 h.f4, .slice A h.f5.length c]] (Go.Sort.grow (redrawn W d) os) fun e w'' => e = .returned (.int .i64 r) ∧ ∃ p : Regrown, w'' = Go.Sort.grow (redrawn W p.d) p.os :=
  hr ▸ Calls.regrown_of (light7_any h A c _ (Kd.C_below hC (below_regrown W d os)) hc hs)
theorem q19 (A : Option Addr) (c n : Nat) (l : List S34) (W : World) (hC : Kd.C k34 W A n l) (hc : n ≤ c) (hn : n ≤ 4194304) (hl : ∀ h ∈ l, hostSz h ≤ 4194304) {r : Bool} (hr : tableMay l = r) (d : Nat) (os : Array Obj) :
    Calls Try.prog 19 #[.slice A n c] (Go.Sort.grow (redrawn W d) os) fun e w'' => e = .returned (.bool r) ∧ ∃ p : Regrown, w'' = Go.Sort.grow (redrawn W p.d) p.os := by
  obtain rfl : l.length = n := Kd.C_len hC
  exact hr ▸ Calls.regrown_of (may_any A c l _ (Kd.C_below hC (below_regrown W d os)) hc hn (szs hl))
theorem q11 (A : Option Addr) (c : Nat) (l : List S34) (W : World) (hC : Kd.C k34 W A l.length l) (hc : l.length ≤ c) {r : Bool} (hr : tableMay l = r) (d : Nat) (os : Array Obj) :
    Calls Try.prog 11 #[.slice A l.length c] (Go.Sort.grow (redrawn W d) os) fun e w'' => e = .returned (.bool r) ∧ ∃ p : Regrown, w'' = Go.Sort.grow (redrawn W p.d) p.os :=
  hr ▸ Calls.regrown_of (rmayTable_any A c l _ (Kd.C_below hC (below_regrown W d os)) hc)
set_option maxRecDepth 100000 in
set_option maxHeartbeats 2000000 in
theorem tableBack_no (A : Option Addr) (c : Nat) (l : List S34) (h : S34) (A5 : Option Addr) (c5 : Nat) (w : World) (hC : Kd.C k34 w A l.length l) (hc : l.length ≤ c) (hl : ∀ h ∈ l, hostSz h ≤ 4194304) (hn : l.length ≤ 4194304)
    (hC5 : Kd.C k77 w A5 h.f5.length h.f5) (hc5 : h.f5.length ≤ c5) (hsz : hostSz h ≤ 4194304) (hLL : ¬ (light8 l = 0 ∧ light7 h = 0)) :
    Calls Try.prog 8 #[.slice A l.length c, vHost h A5 c5] w fun e w' => e = .returned (.bool true) ∧ Ext w w' := by
  have hu34 := Try.underlying34
  have HC := Lib.hid hC
  have HC5 := Lib.hid hC5
  obtain ⟨L1, hL1⟩ : ∃ L1, L1 = light8 l := ⟨_, rfl⟩
  obtain ⟨L3, hL3⟩ : ∃ L3, L3 = light7 h := ⟨_, rfl⟩
  have b1 := light8_two l
  have b3 := light7_two h
  rw [← hL1] at b1 hLL
  rw [← hL3] at b3 hLL
  have hsum : 0 < L1 + L3 := by omega
  have hdec : decide (0 < L1 + L3) = true := decide_eq_true hsum
  have hw1 : IntKind.i64.wrap (L1 + L3) = L1 + L3 := by rw [IntKind.wrap_i64]; omega
  have HL1 := Lib.hid hL1
  have HL3 := Lib.hid hL3
  have hx0 := Lib.hid (ext_alloc w (.cells #[.int .i64 h.f0, .string h.f1, .int .i64 h.f2, .string h.f3, .int .i64 h.f4, .slice A5 h.f5.length c5] 34))
  have hbx := Lib.hid (show Box34 (w.alloc (.cells #[.int .i64 h.f0, .string h.f1, .int .i64 h.f2, .string h.f3, .int .i64 h.f4, .slice A5 h.f5.length c5] 34)) w.heap.size h A5 c5 from heap_alloc_new w _)
  have hd0 := Lib.hid (show Ext (w.alloc (.cells #[.int .i64 h.f0, .string h.f1, .int .i64 h.f2, .string h.f3, .int .i64 h.f4, .slice A5 h.f5.length c5] 34)) (w.alloc (.cells #[.int .i64 h.f0, .string h.f1, .int .i64 h.f2, .string h.f3, .int .i64 h.f4, .slice A5 h.f5.length c5] 34)).drew from Below.drew (Below.refl _ _))
  clear hL1 hL3 b1 b3 hLL hC hC5
  unfold vHost
  go_enter Try.func8, Try.ntmps8
  go_wp2
  obtain ⟨q0, q1, q2, q3, q4, q5⟩ := Box34.cells hbx.out
  have y0 := fun d os => cell_regrown q0 d os
  have y1 := fun d os => cell_regrown q1 d os
  have y2 := fun d os => cell_regrown q2 d os
  have y3 := fun d os => cell_regrown q3 d os
  have y4 := fun d os => cell_regrown q4 d os
  have y5 := fun d os => cell_regrown q5 d os
  have hCx := Lib.hid (Kd.C_below HC.out hx0.out)
  have hC5x := Lib.hid (Kd.C_below HC5.out hx0.out)
  refine wp_region_quiet_below (by kernel_rfl) (by kernel_rfl) ?_
  repeat (go_big_quiet_step ((first | (go_at_call 10; exact q10 A c l _ hCx.out hc hl HL1.out.symm _ _) | (go_at_call 20; exact q20 h A5 c5 _ hC5x.out hc5 hsz HL3.out.symm _ _))))
  refine wpQuiet_nil ?_
  intro _ hw'
  obtain ⟨⟨dq, osq⟩, hw''⟩ := hw'
  subst hw''
  have hX := Lib.hid (Ext.tr hx0.out (below_regrown _ dq osq))
  clear q0 q1 q2 q3 q4 q5
  go_wp2_with fail
  refine (awake_any _).mono ?_
  rintro e w4 ⟨rfl, hb4⟩
  go_wp2
  go_ret
  exact ⟨rfl, Ext.tr hX.out hb4⟩
set_option maxRecDepth 100000 in
set_option maxHeartbeats 2000000 in
theorem tableBack_nomay (A : Option Addr) (c : Nat) (l : List S34) (h : S34) (A5 : Option Addr) (c5 : Nat) (w : World) (hC : Kd.C k34 w A l.length l) (hc : l.length ≤ c) (hl : ∀ h ∈ l, hostSz h ≤ 4194304) (hn : l.length ≤ 4194304)
    (hC5 : Kd.C k77 w A5 h.f5.length h.f5) (hc5 : h.f5.length ≤ c5) (hsz : hostSz h ≤ 4194304) (hLL : light8 l = 0 ∧ light7 h = 0) (hm : tableMay l = false) :
    Calls Try.prog 8 #[.slice A l.length c, vHost h A5 c5] w fun e w' => e = .returned (.bool true) ∧ Ext w w' := by
  have hu34 := Try.underlying34
  have HC := Lib.hid hC
  have HC5 := Lib.hid hC5
  have HLL := Lib.hid hLL
  have hx0 := Lib.hid (ext_alloc w (.cells #[.int .i64 h.f0, .string h.f1, .int .i64 h.f2, .string h.f3, .int .i64 h.f4, .slice A5 h.f5.length c5] 34))
  have hbx := Lib.hid (show Box34 (w.alloc (.cells #[.int .i64 h.f0, .string h.f1, .int .i64 h.f2, .string h.f3, .int .i64 h.f4, .slice A5 h.f5.length c5] 34)) w.heap.size h A5 c5 from heap_alloc_new w _)
  have hd0 := Lib.hid (show Ext (w.alloc (.cells #[.int .i64 h.f0, .string h.f1, .int .i64 h.f2, .string h.f3, .int .i64 h.f4, .slice A5 h.f5.length c5] 34)) (w.alloc (.cells #[.int .i64 h.f0, .string h.f1, .int .i64 h.f2, .string h.f3, .int .i64 h.f4, .slice A5 h.f5.length c5] 34)).drew from Below.drew (Below.refl _ _))
  clear hLL hC hC5
  unfold vHost
  go_enter Try.func8, Try.ntmps8
  go_wp2
  obtain ⟨q0, q1, q2, q3, q4, q5⟩ := Box34.cells hbx.out
  have y0 := fun d os => cell_regrown q0 d os
  have y1 := fun d os => cell_regrown q1 d os
  have y2 := fun d os => cell_regrown q2 d os
  have y3 := fun d os => cell_regrown q3 d os
  have y4 := fun d os => cell_regrown q4 d os
  have y5 := fun d os => cell_regrown q5 d os
  have hCx := Lib.hid (Kd.C_below HC.out hx0.out)
  have hC5x := Lib.hid (Kd.C_below HC5.out hx0.out)
  refine wp_region_quiet_below (by kernel_rfl) (by kernel_rfl) ?_
  repeat (go_big_quiet_step ((first | (go_at_call 10; exact q10 A c l _ hCx.out hc hl HLL.out.1 _ _) | (go_at_call 20; exact q20 h A5 c5 _ hC5x.out hc5 hsz HLL.out.2 _ _) | (go_at_call 19; exact q19 A c _ l _ hCx.out hc hn hl hm _ _))))
  refine wpQuiet_nil ?_
  intro _ hw'
  obtain ⟨⟨dq, osq⟩, hw''⟩ := hw'
  subst hw''
  have hX := Lib.hid (Ext.tr hx0.out (below_regrown _ dq osq))
  clear q0 q1 q2 q3 q4 q5
  go_wp2_with fail
  refine (awake_any _).mono ?_
  rintro e w5 ⟨rfl, hb5⟩
  go_wp2
  go_ret
  exact ⟨rfl, Ext.tr hX.out hb5⟩
end
section
open Go.RowKit Go.Proofs.YthfolhgaecfogaaW.PrintWords Go.Proofs.YthfolhgaecfogaaW.PrintLast Go.Proofs.YthfolhgaecfogaaW.PrintMore
theorem addCode_cases {l : List S34} (h : S34) (hm : tableMay l = true) : addCode l h = 1 ∨ (addCode l h = 3 ∧ 0 ≤ idxF (fun x => x.f0 == h.f0) l) ∨ (addCode l h = 6 ∧ l.length = 64) ∨ addCode l h = 0 := by
  unfold addCode
  rw [hm]
  simp only [Bool.not_true, Bool.false_eq_true, if_false]
  cases h2 : hostMay h
  · exact .inl rfl
  · simp only [Bool.not_true, Bool.false_eq_true, if_false]
    have hl := (tableMay_iff.1 hm).2.1
    by_cases h3 : hereK (l.map keyOf) (keyOf h) = true
    · rw [if_pos h3]
      refine .inr (.inl ⟨rfl, ?_⟩)
      obtain ⟨x, hx, he⟩ := (hereK_iff hl h).1 h3
      rcases Int.lt_or_le (findI l h.f0) 0 with hf | hf
      · exact absurd he (findI_none hf x hx)
      · exact hf
    · rw [if_neg h3]
      by_cases h4 : l.length = 64
      · rw [if_pos h4]; exact .inr (.inr (.inl ⟨rfl, h4⟩))
      · rw [if_neg h4]; exact .inr (.inr (.inr rfl))
theorem addList_none {l : List S34} {h : S34} (h0 : addCode l h ≠ 0) : addList l h = [] := by unfold addList; rw [if_neg h0]
set_option maxRecDepth 100000 in
set_option maxHeartbeats 2000000 in
theorem tableBack_code (A : Option Addr) (c : Nat) (l : List S34) (h : S34) (A5 : Option Addr) (c5 : Nat) (w : World) (hC : Kd.C k34 w A l.length l) (hc : l.length ≤ c) (hl : ∀ h ∈ l, hostSz h ≤ 4194304) (hn : l.length ≤ 4194304)
    (hC5 : Kd.C k77 w A5 h.f5.length h.f5) (hc5 : h.f5.length ≤ c5) (hsz : hostSz h ≤ 4194304) (hLL : light8 l = 0 ∧ light7 h = 0) (hm : tableMay l = true) (h0 : addCode l h ≠ 0) :
    Calls Try.prog 8 #[.slice A l.length c, vHost h A5 c5] w fun e w' => e = .returned (.bool true) ∧ Ext w w' := by
  have hu34 := Try.underlying34
  have HC := Lib.hid hC
  have HC5 := Lib.hid hC5
  have HLL := Lib.hid hLL
  have hcases := addCode_cases h hm
  have hnil := Lib.hid (addList_none h0)
  have H0 := Lib.hid h0
  have hx0 := Lib.hid (ext_alloc w (.cells #[.int .i64 h.f0, .string h.f1, .int .i64 h.f2, .string h.f3, .int .i64 h.f4, .slice A5 h.f5.length c5] 34))
  have hbx := Lib.hid (show Box34 (w.alloc (.cells #[.int .i64 h.f0, .string h.f1, .int .i64 h.f2, .string h.f3, .int .i64 h.f4, .slice A5 h.f5.length c5] 34)) w.heap.size h A5 c5 from heap_alloc_new w _)
  clear hLL hC hC5 h0
  unfold vHost
  rcases hcases with h1 | ⟨h1, hf⟩ | ⟨h1, h64⟩ | h1
  · have H1 := Lib.hid h1
    clear h1
    go_enter Try.func8, Try.ntmps8
    go_wp2
    obtain ⟨q0, q1, q2, q3, q4, q5⟩ := Box34.cells hbx.out
    have y0 := fun d os => cell_regrown q0 d os
    have y1 := fun d os => cell_regrown q1 d os
    have y2 := fun d os => cell_regrown q2 d os
    have y3 := fun d os => cell_regrown q3 d os
    have y4 := fun d os => cell_regrown q4 d os
    have y5 := fun d os => cell_regrown q5 d os
    have hCx := Lib.hid (Kd.C_below HC.out hx0.out)
    have hC5x := Lib.hid (Kd.C_below HC5.out hx0.out)
    refine wp_region_quiet_below (by kernel_rfl) (by kernel_rfl) ?_
    repeat (go_big_quiet_step ((first | (go_at_call 10; exact q10 A c l _ hCx.out hc hl HLL.out.1 _ _) | (go_at_call 20; exact q20 h A5 c5 _ hC5x.out hc5 hsz HLL.out.2 _ _) | (go_at_call 19; exact q19 A c _ l _ hCx.out hc hn hl hm _ _) | (go_at_call 11; exact q11 A c l _ hCx.out hc hm _ _))))
    refine wpQuiet_nil ?_
    intro _ hw'
    obtain ⟨⟨dq, osq⟩, hw''⟩ := hw'
    subst hw''
    have hX := Lib.hid (Ext.tr hx0.out (below_regrown _ dq osq))
    clear q0 q1 q2 q3 q4 q5
    go_wp2_with fail
    refine (add_reads A c l h A5 c5 _ (Kd.C_below HC.out hX.out) hc hn hl (Kd.C_below HC5.out hX.out) hc5 hsz).mono ?_
    rintro e w4 ⟨Aa, na, ca, he, hna, hca, hCa, hb4⟩
    have hna0 := hna.out
    rw [hnil.out] at hna0
    subst hna0
    rw [H1.out] at he
    subst he
    go_wp2_with fail
    refine (awake_any w4).mono ?_
    rintro e w5 ⟨rfl, hb5⟩
    go_wp2
    go_ret
    exact ⟨rfl, Ext.tr (Ext.tr hX.out hb4) hb5⟩
  · have H1 := Lib.hid h1
    obtain ⟨F, hF⟩ : ∃ F : Int, F = idxF (fun x => x.f0 == h.f0) l := ⟨_, rfl⟩
    rw [← hF] at hf
    have HF := Lib.hid hF
    clear h1 hF
    go_enter Try.func8, Try.ntmps8
    go_wp2
    obtain ⟨q0, q1, q2, q3, q4, q5⟩ := Box34.cells hbx.out
    have y0 := fun d os => cell_regrown q0 d os
    have y1 := fun d os => cell_regrown q1 d os
    have y2 := fun d os => cell_regrown q2 d os
    have y3 := fun d os => cell_regrown q3 d os
    have y4 := fun d os => cell_regrown q4 d os
    have y5 := fun d os => cell_regrown q5 d os
    have hCx := Lib.hid (Kd.C_below HC.out hx0.out)
    have hC5x := Lib.hid (Kd.C_below HC5.out hx0.out)
    refine wp_region_quiet_below (by kernel_rfl) (by kernel_rfl) ?_
    repeat (go_big_quiet_step ((first | (go_at_call 10; exact q10 A c l _ hCx.out hc hl HLL.out.1 _ _) | (go_at_call 20; exact q20 h A5 c5 _ hC5x.out hc5 hsz HLL.out.2 _ _) | (go_at_call 19; exact q19 A c _ l _ hCx.out hc hn hl hm _ _) | (go_at_call 11; exact q11 A c l _ hCx.out hc hm _ _))))
    refine wpQuiet_nil ?_
    intro _ hw'
    obtain ⟨⟨dq, osq⟩, hw''⟩ := hw'
    subst hw''
    have hX := Lib.hid (Ext.tr hx0.out (below_regrown _ dq osq))
    clear q0 q1 q2 q3 q4 q5
    go_wp2_with fail
    refine (add_reads A c l h A5 c5 _ (Kd.C_below HC.out hX.out) hc hn hl (Kd.C_below HC5.out hX.out) hc5 hsz).mono ?_
    rintro e w4 ⟨Aa, na, ca, he, hna, hca, hCa, hb4⟩
    have hna0 := hna.out
    rw [hnil.out] at hna0
    subst hna0
    rw [H1.out] at he
    subst he
    have hX4 := Lib.hid (Ext.tr hX.out hb4)
    obtain ⟨q0, q1, q2, q3, q4, q5⟩ := Box34.cells (Box34.ext hbx.out (Ext.tr (below_regrown _ dq osq) hb4))
    clear q1 q2 q3 q4 q5
    go_wp2_with fail
    refine (find_any A c l h.f0 w4 (Kd.C_below HC.out hX4.out) hc).mono ?_
    rintro e w5 ⟨he, hb5⟩
    rw [← HF.out] at he
    subst he
    go_wp2_with fail
    refine (awake_any w5).mono ?_
    rintro e w6 ⟨rfl, hb6⟩
    go_wp2
    go_ret
    exact ⟨rfl, Ext.tr hX4.out (Ext.tr hb5 hb6)⟩
  · have H1 := Lib.hid h1
    have H64 := Lib.hid h64
    clear h1 h64
    go_enter Try.func8, Try.ntmps8
    go_wp2
    obtain ⟨q0, q1, q2, q3, q4, q5⟩ := Box34.cells hbx.out
    have y0 := fun d os => cell_regrown q0 d os
    have y1 := fun d os => cell_regrown q1 d os
    have y2 := fun d os => cell_regrown q2 d os
    have y3 := fun d os => cell_regrown q3 d os
    have y4 := fun d os => cell_regrown q4 d os
    have y5 := fun d os => cell_regrown q5 d os
    have hCx := Lib.hid (Kd.C_below HC.out hx0.out)
    have hC5x := Lib.hid (Kd.C_below HC5.out hx0.out)
    refine wp_region_quiet_below (by kernel_rfl) (by kernel_rfl) ?_
    repeat (go_big_quiet_step ((first | (go_at_call 10; exact q10 A c l _ hCx.out hc hl HLL.out.1 _ _) | (go_at_call 20; exact q20 h A5 c5 _ hC5x.out hc5 hsz HLL.out.2 _ _) | (go_at_call 19; exact q19 A c _ l _ hCx.out hc hn hl hm _ _) | (go_at_call 11; exact q11 A c l _ hCx.out hc hm _ _))))
    refine wpQuiet_nil ?_
    intro _ hw'
    obtain ⟨⟨dq, osq⟩, hw''⟩ := hw'
    subst hw''
    have hX := Lib.hid (Ext.tr hx0.out (below_regrown _ dq osq))
    clear q0 q1 q2 q3 q4 q5
    go_wp2_with fail
    refine (add_reads A c l h A5 c5 _ (Kd.C_below HC.out hX.out) hc hn hl (Kd.C_below HC5.out hX.out) hc5 hsz).mono ?_
    rintro e w4 ⟨Aa, na, ca, he, hna, hca, hCa, hb4⟩
    have hna0 := hna.out
    rw [hnil.out] at hna0
    subst hna0
    rw [H1.out] at he
    subst he
    have hX4 := Lib.hid (Ext.tr hX.out hb4)
    have h64' : (l.length : Int) = 64 := by have := H64.out; omega
    go_wp2_with fail
    refine (awake_any w4).mono ?_
    rintro e w6 ⟨rfl, hb6⟩
    go_wp2
    go_ret
    exact ⟨rfl, Ext.tr hX4.out hb6⟩
  · exact absurd h1 H0.out
end
section
open Go.RowKit Go.Proofs.YthfolhgaecfogaaW.PrintWords Go.Proofs.YthfolhgaecfogaaW.PrintLast Go.Proofs.YthfolhgaecfogaaW.PrintMore
theorem q12 (W : World) (d : Nat) (os : Array Obj) : Calls Try.prog 12 #[] (Go.Sort.grow (redrawn W d) os) fun e w'' => e = .returned (.bool true) ∧ ∃ p : Regrown, w'' = Go.Sort.grow (redrawn W p.d) p.os := Calls.regrown_of (awake_any _)
theorem q18 (A A' : Option Addr) (n n' c c' : Nat) (l l' : List S34) (W : World) (hll : l = l') (hC : Kd.C k34 W A n l) (hC' : Kd.C k34 W A' n' l') (hc : n ≤ c) (hc' : n' ≤ c') (d : Nat) (os : Array Obj) :
    Calls Try.prog 18 #[.slice A n c, .slice A' n' c'] (Go.Sort.grow (redrawn W d) os) fun e w'' => e = .returned (.bool true) ∧ ∃ p : Regrown, w'' = Go.Sort.grow (redrawn W p.d) p.os :=
  Calls.regrown_of (sameHosts_any A A' n n' c c' l l' _ hll (Kd.C_below hC (below_regrown W d os)) (Kd.C_below hC' (below_regrown W d os)) hc hc')
set_option maxRecDepth 100000 in
set_option maxHeartbeats 2000000 in
theorem tableBack_yes (A : Option Addr) (c : Nat) (l : List S34) (h : S34) (A5 : Option Addr) (c5 : Nat) (w : World) (hC : Kd.C k34 w A l.length l) (hc : l.length ≤ c) (hl : ∀ h ∈ l, hostSz h ≤ 4194304) (hn : l.length ≤ 4194304)
    (hC5 : Kd.C k77 w A5 h.f5.length h.f5) (hc5 : h.f5.length ≤ c5) (hsz : hostSz h ≤ 4194304) (hLL : light8 l = 0 ∧ light7 h = 0) (h0 : addCode l h = 0) :
    Calls Try.prog 8 #[.slice A l.length c, vHost h A5 c5] w fun e w' => e = .returned (.bool true) ∧ Ext w w' := by
  have hu34 := Try.underlying34
  have HC := Lib.hid hC
  have HC5 := Lib.hid hC5
  have HLL := Lib.hid hLL
  have hm := (addCode_zero h0).1
  have hl64 := (addCode_zero h0).2.2.2
  obtain ⟨N, hN⟩ : ∃ N, N = addList l h := ⟨_, rfl⟩
  obtain ⟨p, hp⟩ : ∃ p, p = addAt l h := ⟨_, rfl⟩
  have hNl : N.length = l.length + 1 := by rw [hN]; exact len_addList h0
  have hNs : ∀ x ∈ N, hostSz x ≤ 4194304 := fun x hx => by
    rw [hN] at hx
    rcases (mem_addList h0).1 hx with rfl | hx
    · exact hsz
    · exact hl x hx
  have hNm : tableMay N = true := by rw [hN]; exact may_addList h0
  have hNp : N[p]? = some h := by rw [hN, hp]; exact at_addList h0
  obtain ⟨hpl, hNh⟩ := List.getElem?_eq_some_iff.1 hNp
  have HNh := Lib.hid hNh
  have hNf := Lib.hid (show idxF (fun x => x.f0 == h.f0) N = (p : Int) by rw [hN, hp]; exact find_addList h0)
  have hNa := Lib.hid (show addCode N h = 3 by rw [hN]; exact again_addList h0)
  have hNc := Lib.hid (show cutCode N h.f0 = 0 by rw [hN]; exact cutCode_addList h0)
  have hNcl := Lib.hid (show cutList N h.f0 = l by rw [hN]; exact cut_addList h0)
  have H0 := Lib.hid h0
  have HN := Lib.hid hN
  have HNl := Lib.hid hNl
  have hNn : N.length ≤ 4194304 := by omega
  have hx0 := Lib.hid (ext_alloc w (.cells #[.int .i64 h.f0, .string h.f1, .int .i64 h.f2, .string h.f3, .int .i64 h.f4, .slice A5 h.f5.length c5] 34))
  have hbx := Lib.hid (show Box34 (w.alloc (.cells #[.int .i64 h.f0, .string h.f1, .int .i64 h.f2, .string h.f3, .int .i64 h.f4, .slice A5 h.f5.length c5] 34)) w.heap.size h A5 c5 from heap_alloc_new w _)
  clear hLL hC hC5 h0 hN hp hNp hNh hNl hl64
  unfold vHost
  go_enter Try.func8, Try.ntmps8
  go_wp2
  obtain ⟨q0, q1, q2, q3, q4, q5⟩ := Box34.cells hbx.out
  have y0 := fun d os => cell_regrown q0 d os
  have y1 := fun d os => cell_regrown q1 d os
  have y2 := fun d os => cell_regrown q2 d os
  have y3 := fun d os => cell_regrown q3 d os
  have y4 := fun d os => cell_regrown q4 d os
  have y5 := fun d os => cell_regrown q5 d os
  have hCx := Lib.hid (Kd.C_below HC.out hx0.out)
  have hC5x := Lib.hid (Kd.C_below HC5.out hx0.out)
  refine wp_region_quiet_below (by kernel_rfl) (by kernel_rfl) ?_
  repeat (go_big_quiet_step ((first | (go_at_call 10; exact q10 A c l _ hCx.out hc hl HLL.out.1 _ _) | (go_at_call 20; exact q20 h A5 c5 _ hC5x.out hc5 hsz HLL.out.2 _ _) | (go_at_call 19; exact q19 A c _ l _ hCx.out hc hn hl hm _ _) | (go_at_call 11; exact q11 A c l _ hCx.out hc hm _ _))))
  refine wpQuiet_nil ?_
  intro _ hw'
  obtain ⟨⟨dq, osq⟩, hw''⟩ := hw'
  subst hw''
  have hX := Lib.hid (Ext.tr hx0.out (below_regrown _ dq osq))
  clear q0 q1 q2 q3 q4 q5
  have hbX := Lib.hid (Box34.ext hbx.out (below_regrown _ dq osq))
  go_wp2_with fail
  refine (add_reads A c l h A5 c5 _ (Kd.C_below HC.out hX.out) hc hn hl (Kd.C_below HC5.out hX.out) hc5 hsz).mono ?_
  rintro e w4 ⟨Aa, na, ca, he, hna, hca, hCa, hb4⟩
  rw [H0.out] at he
  rw [← HN.out] at hna hCa
  have hna0 := hna.out
  subst hna0
  subst he
  have hX4 := Lib.hid (Ext.tr hX.out hb4)
  have hB4 := Lib.hid (Box34.ext hbX.out hb4)
  obtain ⟨q0, q1, q2, q3, q4, q5⟩ := hB4.out.cells
  go_wp2_with fail
  refine (add_reads Aa ca N h A5 c5 w4 hCa.out hca hNn hNs (Kd.C_below HC5.out hX4.out) hc5 hsz).mono ?_
  rintro e w5 ⟨Ab, nb, cb, he, hnb, hcb, hCb, hb5⟩
  rw [hNa.out] at he
  subst he
  have hX5 := Lib.hid (Ext.tr hX4.out hb5)
  have hB5 := Lib.hid (Box34.ext hB4.out hb5)
  clear q0 q1 q2 q3 q4 q5
  obtain ⟨q0, q1, q2, q3, q4, q5⟩ := hB5.out.cells
  go_wp2_with fail
  refine (cut_reads Aa ca N h.f0 w5 (Kd.C_below hCa.out hb5) hca hNn hNs).mono ?_
  rintro e w6 ⟨Ac, nc, cc, he, hnc, hcc, hCc, hb6⟩
  rw [hNc.out] at he
  subst he
  have hX6 := Lib.hid (Ext.tr hX5.out hb6)
  have hB6 := Lib.hid (Box34.ext hB5.out hb6)
  clear q0 q1 q2 q3 q4 q5
  obtain ⟨q0, q1, q2, q3, q4, q5⟩ := hB6.out.cells
  go_wp2_with fail
  refine (find_any Aa ca N h.f0 w6 (Kd.C_below hCa.out (Ext.tr hb5 hb6)) hca).mono ?_
  rintro e w7 ⟨he, hb7⟩
  rw [hNf.out] at he
  subst he
  have hX7 := Lib.hid (Ext.tr hX6.out hb7)
  have hB7 := Lib.hid (Box34.ext hB6.out hb7)
  clear q0 q1 q2 q3 q4 q5
  have hCa7 := Lib.hid (Kd.C_below hCa.out (Ext.tr (Ext.tr hb5 hb6) hb7))
  have hCc7 := Lib.hid (Kd.C_below hCc.out hb7)
  have hC7 := Lib.hid (Kd.C_below HC.out hX7.out)
  have hC57 := Lib.hid (Kd.C_below HC5.out hX7.out)
  have hd : decide ((p : Int) < (N.length : Int)) = true := decide_eq_true (by omega)
  go_wp2
  obtain ⟨q0, q1, q2, q3, q4, q5⟩ := hB7.out.cells
  obtain ⟨ad, A6, c6, rfl, x0, x1, x2, x3, x4, x5, hl6, HC6⟩ := C34 hCa7.out hpl
  rw [HNh.out] at x0 x1 x2 x3 x4 x5 hl6 HC6
  have y0 := fun d os => cell_regrown q0 d os
  have y1 := fun d os => cell_regrown q1 d os
  have y2 := fun d os => cell_regrown q2 d os
  have y3 := fun d os => cell_regrown q3 d os
  have y4 := fun d os => cell_regrown q4 d os
  have y5 := fun d os => cell_regrown q5 d os
  have z0 := fun d os => cell_regrown x0 d os
  have z1 := fun d os => cell_regrown x1 d os
  have z2 := fun d os => cell_regrown x2 d os
  have z3 := fun d os => cell_regrown x3 d os
  have z4 := fun d os => cell_regrown x4 d os
  have z5 := fun d os => cell_regrown x5 d os
  clear q0 q1 q2 q3 q4 q5 x0 x1 x2 x3 x4 x5
  refine wp_region_quiet_below (by kernel_rfl) (by kernel_rfl) ?_
  repeat (go_big_quiet_step ((first | (go_at_call 18; exact q18 Ac A nc _ cc c _ l _ hNcl.out hCc7.out hC7.out hcc hc _ _) | (go_at_call 19; exact q19 (some ad) ca _ N _ hCa7.out hca hNn hNs hNm _ _) | (go_at_call 42; exact q42 h A6 A5 c6 c5 _ HC6.out hl6 hC57.out hc5 _ _) | (go_at_call 12; exact q12 _ _ _))))
  refine wpQuiet_nil ?_
  intro _ hw'
  obtain ⟨⟨dq2, osq2⟩, hw''⟩ := hw'
  subst hw''
  have hX8 := Lib.hid (Ext.tr hX7.out (below_regrown _ dq2 osq2))
  go_wp2
  go_ret
  exact ⟨rfl, hX8.out⟩
theorem tableBack_any (A : Option Addr) (c : Nat) (l : List S34) (h : S34) (A5 : Option Addr) (c5 : Nat) (w : World) (hC : Kd.C k34 w A l.length l) (hc : l.length ≤ c) (hl : ∀ h ∈ l, hostSz h ≤ 4194304) (hn : l.length ≤ 4194304)
    (hC5 : Kd.C k77 w A5 h.f5.length h.f5) (hc5 : h.f5.length ≤ c5) (hsz : hostSz h ≤ 4194304) :
    Calls Try.prog 8 #[.slice A l.length c, vHost h A5 c5] w fun e w' => e = .returned (.bool true) ∧ Ext w w' := by
  by_cases hLL : light8 l = 0 ∧ light7 h = 0
  · cases hm : tableMay l
    · exact tableBack_nomay A c l h A5 c5 w hC hc hl hn hC5 hc5 hsz hLL hm
    · by_cases h0 : addCode l h = 0
      · exact tableBack_yes A c l h A5 c5 w hC hc hl hn hC5 hc5 hsz hLL h0
      · exact tableBack_code A c l h A5 c5 w hC hc hl hn hC5 hc5 hsz hLL hm h0
  · exact tableBack_no A c l h A5 c5 w hC hc hl hn hC5 hc5 hsz hLL
end
end Go.Proofs.Ythfolhgaecfogaa
