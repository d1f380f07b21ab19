import Derived.Test.YthfolhgaecfogaaT13
set_option linter.unusedVariables false
set_option linter.unusedSimpArgs false
namespace Go.Proofs.Ythfolhgaecfogaa
open Go.RowKit Go.Proofs.YthfolhgaecfogaaW.PrintWords Go.Proofs.YthfolhgaecfogaaW.PrintLast Go.Proofs.YthfolhgaecfogaaW.PrintMore
def Ins34 (w : World) (B : Nat) (v : Value) (n i : Nat) (xs x : List Value) : Ending → World → Prop := fun e w' => ∃ v', e = .returned v' ∧ w'.ownsRow B 34 6 v' (n + 1) (xs.take (i * 6) ++ x ++ xs.drop (i * 6)) ∧ w.grownBy w' v.ownBlock ∧ (v'.ownBlock = v.ownBlock ∨ ∃ b, v'.ownBlock = some b ∧ w.heap.size ≤ b)
theorem ovl34 (w : World) (b2 g off n c lb cb : Nat) (x cur : List Value) (hb2 : w.heap[b2]? = some (.cells x.toArray 34 (0, 0))) (hg : w.heap[g]? = some (.cells cur.toArray 34 (0, 0))) (hne : b2 ≠ g) (hc : cur.length ≠ 0) :
    (callFunc 71 #[.slice (some ⟨b2, 0, none⟩) n c, .slice (some ⟨g, off, none⟩) lb cb]).run Try.prog w = .ok (.value (.bool false)) w := by
  rw [run_callFunc_extern (P := Try.prog) (f := 71) Try.func71 (by kernel_rfl) (by kernel_rfl) (by kernel_rfl) (e := Extern.SlicesOverlaps.overlaps #[22, 22] #[4]) (by kernel_rfl),
    Lib.run_overlaps_apart w 22 4 34 Try.underlying22 6 (fun w => by
      obtain ⟨i0, hi, hzz⟩ := Option.map_eq_some_iff.1 info34
      simp only [Prod.mk.injEq] at hzz
      simp [sizeOf, typeInfo, hi, hzz.2.1]) ⟨b2, 0, none⟩ ⟨g, off, none⟩ n c lb cb hne 34 34 x.toArray.size cur.toArray.size (by simp [World.shape?, hb2]) (by simp [World.shape?, hg]) (by simpa using hc) (blk_frozen hb2 _) (blk_frozen hb2 _)]
  rfl
set_option maxRecDepth 100000 in
set_option maxHeartbeats 1000000 in
theorem ins_end34 (v : Value) (n : Nat) (xs x : List Value) (b2 : Nat) (w : World) (B : Nat) (hB : B ≤ w.heap.size) (hown : w.ownsRow B 34 6 v n xs) (hn : n ≤ 8388608)
    (hb2 : w.heap[b2]? = some (.cells x.toArray 34 (0, 0))) (hx : x.length = 6) (h1x : ∀ u ∈ x, u.oneCell' = true) :
    Calls Try.prog 49 #[v, .int .i64 n, .slice (some ⟨b2, 0, none⟩) 1 1] w (Ins34 w B v n n xs x) := by
  obtain ⟨i0, hi, hzz⟩ := Option.map_eq_some_iff.1 info34
  simp only [Prod.mk.injEq] at hzz
  obtain ⟨v1, w1, hr, hown1, hg1, _, hat⟩ := Go.run_append_own_at (P := Try.prog) w B 22 22 34 i0 _ 6 80 Try.underlying22 hi hzz.1 hzz.2.1 hzz.2.2 (by rfl) (by decide) v n xs hown ⟨b2, 0, none⟩ 1 1 x (by rw [hx]) (World.news_of_block (cs := x.toArray) (t := 34) (fr := (0, 0)) (by simpa using hb2)) h1x (by simp only [maxLen]; omega) (by omega) hB
  have hl : xs.length = n * 6 := hown.1
  have hfin : xs.take (n * 6) ++ x ++ xs.drop (n * 6) = xs ++ x := by rw [← hl]; simp
  have hR := Lib.hid hr
  have hn0 : (decide ((n : Int) = (n : Int))) = true := by simp
  rcases hown.2 with ⟨rfl, rfl⟩ | ⟨g, cap, cur, rfl, hbg, hg, hnc, hcm, hcs, htake⟩
  · clear hown hr
    go_enter Try.func49, Try.ntmps49
    go_wp2_with (at_builtin; refine Lib.wpList_append_run _ rfl _ _ _ _ rfl _ _ rfl rfl _ _ hR.out ?_)
    go_ret
    exact ⟨_, rfl, by rw [hfin]; exact hown1, hg1, by rcases hat with h | h; exact .inl h; exact .inr ⟨_, h, Nat.le_refl _⟩⟩
  · clear hown hr
    go_enter Try.func49, Try.ntmps49
    go_wp2_with (at_builtin; refine Lib.wpList_append_run _ rfl _ _ _ _ rfl _ _ rfl rfl _ _ hR.out ?_)
    all_goals (go_ret; exact ⟨_, rfl, by rw [hfin]; exact hown1, hg1, by rcases hat with h | h; exact .inl h; exact .inr ⟨_, h, Nat.le_refl _⟩⟩)
set_option maxRecDepth 100000 in
set_option maxHeartbeats 1000000 in
theorem ins_shift34 (g n c i : Nat) (xs cur x : List Value) (b2 : Nat) (w : World) (B : Nat) (hbg : B ≤ g) (hg : w.heap[g]? = some (.cells cur.toArray 34 (0, 0))) (hi : i < n) (hnc : n + 1 ≤ c) (hcm : c ≤ 9223372036854775807) (hcs : cur.length = c * 6) (htake : cur.take (n * 6) = xs) (hn : n ≤ 8388608) (h1 : ∀ u ∈ xs, u.oneCell' = true)
    (hb2 : w.heap[b2]? = some (.cells x.toArray 34 (0, 0))) (hx : x.length = 6) (h1x : ∀ u ∈ x, u.oneCell' = true) (hne : b2 ≠ g) :
    Calls Try.prog 49 #[.slice (some ⟨g, 0, none⟩) n c, .int .i64 i, .slice (some ⟨b2, 0, none⟩) 1 1] w (Ins34 w B (.slice (some ⟨g, 0, none⟩) n c) n i xs x) := by
  have hsz : (Try.prog.info? 34).map (·.size) = some 6 := by
    obtain ⟨i0, hi, hzz⟩ := Option.map_eq_some_iff.1 info34
    simp only [Prod.mk.injEq] at hzz
    rw [hi]; simp [hzz.2.1]
  have hcn : c * 6 = cur.length := hcs.symm
  have hcn1 : (n + 1) * 6 ≤ cur.length := by rw [hcs]; exact Nat.mul_le_mul_right _ hnc
  obtain ⟨T, hT⟩ : ∃ T, T = (cur.drop (i * 6)).take ((n - i) * 6) := ⟨_, rfl⟩
  have hTl : T.length = (n - i) * 6 := by
    rw [hT, List.length_take, List.length_drop]
    omega
  have hT1 : ∀ u ∈ T, u.oneCell' = true := by
    intro u hu
    refine h1 u ?_
    rw [← htake]
    rw [hT] at hu
    have : cur.take (n * 6) = cur.take (i * 6) ++ (cur.drop (i * 6)).take ((n - i) * 6) := by
      have : n * 6 = i * 6 + (n - i) * 6 := by omega
      rw [this, List.take_add]
    rw [this]
    exact List.mem_append_right _ hu
  have hov : ∀ off lb cb, (callFunc 71 #[.slice (some ⟨b2, 0, none⟩) 1 1, .slice (some ⟨g, off, none⟩) lb cb]).run Try.prog w = .ok (.value (.bool false)) w := fun off lb cb => ovl34 w b2 g off 1 1 lb cb x cur hb2 hg hne (by omega)
  have hcA : ∀ (W : World), W.heap = w.heap → ∀ ty dc sc, (Builtin.copy_ #[22, 22] ty #[.slice (some ⟨g, (i + 1) * 6, none⟩) (n - i) dc, .slice (some ⟨g, i * 6, none⟩) (n + 1 - i) sc]).run Try.prog W = .ok (goInt ((n - i : Nat) : Int)) (W.setRow g (over cur ((i + 1) * 6) T).toArray) := fun W hW ty dc sc =>
    run_copy_at W 22 22 ty 34 6 g ((i + 1) * 6) (n - i) dc ⟨g, i * 6, none⟩ (n + 1 - i) sc cur 34 T (n - i) Try.underlying22 hsz (by rw [hW]; exact hg) (by simp only [Nat.min_def]; split <;> omega) hTl
      (fun j u hj => by
        have hjl : j < T.length := (List.getElem?_eq_some_iff.1 hj).1
        rw [Addr.add_lit, cell_of_row W g _ cur.toArray 34 (0, 0) (by rw [hW]; exact hg), ← hj, hT, List.getElem?_take, if_pos (by omega), List.getElem?_drop]
        simp) (by omega) hT1
  have hcB : ∀ (W : World), W.heap = (w.setRow g (over cur ((i + 1) * 6) T).toArray).heap → ∀ ty dc, (Builtin.copy_ #[22, 22] ty #[.slice (some ⟨g, i * 6, none⟩) (n + 1 - i) dc, .slice (some ⟨b2, 0, none⟩) 1 1]).run Try.prog W = .ok (goInt ((1 : Nat) : Int)) (W.setRow g (over (over cur ((i + 1) * 6) T) (i * 6) x).toArray) := fun W hW ty dc =>
    run_copy_at W 22 22 ty 34 6 g (i * 6) (n + 1 - i) dc ⟨b2, 0, none⟩ 1 1 (over cur ((i + 1) * 6) T) 34 x 1 Try.underlying22 hsz (by rw [hW]; exact setRow_heap w g _ _ 34 _ hg) (by simp only [Nat.min_def]; split <;> omega) (by rw [hx])
      (fun j u hj => by
        rw [Addr.add_lit, Nat.zero_add, cell_of_row W b2 j x.toArray 34 (0, 0) (by rw [hW, setRow_other w g b2 _ hne]; exact hb2), ← hj]
        simp) (by rw [over_length _ _ _ (by omega)]; omega) h1x
  have hfin := over_insert cur n i 6 x hx (by omega) hcn1
  rw [← hT, htake] at hfin
  have hlen2 : (over (over cur ((i + 1) * 6) T) (i * 6) x).length = c * 6 := by
    rw [over_length _ _ _ (by rw [over_length _ _ _ (by omega)]; omega), over_length _ _ _ (by omega), hcs]
  obtain ⟨R1, hR1⟩ : ∃ R1, R1 = over cur ((i + 1) * 6) T := ⟨_, rfl⟩
  rw [← hR1] at hcA hcB hfin hlen2
  obtain ⟨R2, hR2⟩ : ∃ R2, R2 = over R1 (i * 6) x := ⟨_, rfl⟩
  rw [← hR2] at hcB hfin hlen2
  have hxl : (xs.take (i * 6) ++ x ++ xs.drop (i * 6)).length = (n + 1) * 6 := by rw [← hfin, List.length_take, hlen2]; omega
  have hw1 : IntKind.i64.wrap ((i : Int) + 1) = (i : Int) + 1 := by rw [IntKind.wrap_i64]; omega
  have hw2 : IntKind.i64.wrap ((n : Int) + 1) = (n : Int) + 1 := by rw [IntKind.wrap_i64]; omega
  have hb1 : (0 : Int) ≤ (i : Int) + 1 := by omega
  have hz2 : ¬ ((i : Int) = (n : Int)) := by omega
  have hz2' : decide ((i : Int) = (n : Int)) = false := by simpa using hz2
  have hin : i ≤ n := by omega
  have hb3 : (i : Int) ≤ (n : Int) + 1 := by omega
  have mixed : Try.prog.follows Departure.mixedOrders = true := by kernel_rfl
  have htn : ((i : Int) + 1).toNat = i + 1 := by omega
  have htn2 : ((n : Int) + 1).toNat = n + 1 := by omega
  have hb2c : ¬ (c = i + 1) := by omega
  have hb4 : ¬ (c = i) := by omega
  have hAov := Lib.hid hov
  have HT := Lib.hid hT
  have HG := Lib.hid hg
  clear hT hov hR1 hR2 htake hcn hcs
  go_enter Try.func49, Try.ntmps49
  go_wp2_with (simp only [hAov.out])
  go_region_law_o (refine step_copy_runI rfl _ _ 22 22 rfl (.slice (some ⟨g, (i + 1) * 6, none⟩) (n - i) (c - (i + 1))) (.slice (some ⟨g, i * 6, none⟩) (n + 1 - i) (c - i)) (by simp [Act.eval, Act.put]) (by simp [Act.eval, Act.put]) (hcA w.drew rfl 3 (c - (i + 1)) (c - i)) ?_)
  have hcB0 := hcB (w.drew.setRow g R1.toArray) rfl 3 (c - i)
  go_wp2_with (at_builtin; refine wpList_copy_runI _ rfl _ _ 22 22 rfl _ _ rfl rfl hcB0 ?_)
  go_ret
  refine ⟨_, rfl, ⟨hxl, .inr ⟨g, c, R2.toArray, rfl, hbg, ?_, hnc, by simp only [maxLen]; omega, by simpa using hlen2, by simpa using hfin⟩⟩, ?_, .inl rfl⟩
  · exact setRow_heap _ g _ _ 34 _ (setRow_heap _ g _ _ 34 _ HG.out)
  · exact grown_setRow (grown_setRow (grown_drew (grown_refl _ _)) _) _
set_option maxRecDepth 100000 in
set_option maxHeartbeats 1000000 in
theorem ins_grow34 (g n c i : Nat) (xs cur x : List Value) (b2 : Nat) (w : World) (B : Nat) (hB : B ≤ w.heap.size) (hbg : B ≤ g) (hg : w.heap[g]? = some (.cells cur.toArray 34 (0, 0))) (hi : i < n) (hnc : n ≤ c) (hroom : c < n + 1) (hcs : cur.length = c * 6) (htake : cur.take (n * 6) = xs) (hn : n ≤ 8388608) (h1 : ∀ u ∈ xs, u.oneCell' = true)
    (hb2 : w.heap[b2]? = some (.cells x.toArray 34 (0, 0))) (hx : x.length = 6) (h1x : ∀ u ∈ x, u.oneCell' = true) (hne : b2 ≠ g) :
    Calls Try.prog 49 #[.slice (some ⟨g, 0, none⟩) n c, .int .i64 i, .slice (some ⟨b2, 0, none⟩) 1 1] w (Ins34 w B (.slice (some ⟨g, 0, none⟩) n c) n i xs x) := by
  obtain ⟨i0, hi0, hzz⟩ := Option.map_eq_some_iff.1 info34
  simp only [Prod.mk.injEq] at hzz
  obtain ⟨hz0, hzs, hzb⟩ := hzz
  have hsz : (Try.prog.info? 34).map (·.size) = some 6 := by rw [hi0]; simp [hzs]
  have hcl : cur.length = n * 6 := by rw [hcs, show c = n by omega]
  have hxc : cur = xs := by rw [← htake, ← hcl, List.take_length]
  subst hxc
  have hgw : g < w.heap.size := (Array.getElem?_eq_some_iff.1 hg).1
  have hbw : b2 < w.heap.size := (Array.getElem?_eq_some_iff.1 hb2).1
  have hAl : (cur.take (i * 6)).length = i * 6 := by rw [List.length_take]; omega
  have hTl : (cur.drop (i * 6)).length = (n - i) * 6 := by rw [List.length_drop]; omega
  have hold : (Builtin.firstCells i0.size i (.slice (some ⟨g, 0, none⟩) i c)).run Try.prog w.drew = .ok (cur.take (i * 6)).toArray w.drew := by
    rw [hzs]
    exact run_firstCells_some w.drew 6 i ⟨g, 0, none⟩ i c (cur.take (i * 6)) hAl (fun j v hj => by
      have hjl : j < (cur.take (i * 6)).length := (List.getElem?_eq_some_iff.1 hj).1
      rw [Addr.add_lit, Nat.zero_add]
      show w.cell? ⟨g, j, none⟩ = _
      rw [cell_of_row w g _ cur.toArray 34 (0, 0) hg, ← hj, List.getElem?_take, if_pos (by omega)]
      simp)
  have hrz := Lib.run_append_grow_zeros (P := Try.prog) w 22 3 22 34 i0 _ .i64 .i64 Try.underlying22 Try.underlying3 hi0 hz0 (some ⟨g, 0, none⟩) i c (cur.take (i * 6)) hold (n + 1 - i) (by omega) (by omega) (by omega) (by omega) (by rw [hzb]; omega) (by rw [hzb, show i + (n + 1 - i) = n + 1 by omega]; exact growslice_fits (by omega) (by omega))
  rw [show i + (n + 1 - i) = n + 1 by omega] at hrz
  obtain ⟨G, hG⟩ : ∃ G, G = grownCap w (n + 1) c 34 := ⟨_, rfl⟩
  have hGn : n + 1 ≤ G := by rw [hG]; exact grownCap_ge w _ _ _
  have hG63 : G ≤ maxLen := by rw [hG]; exact grownCap_le_maxLen w (n + 1) c 34 (by unfold maxLen; omega)
  have hG63' : G ≤ 9223372036854775807 := by unfold maxLen at hG63; omega
  rw [← hG] at hrz
  obtain ⟨Z, hZ⟩ : ∃ Z : Array Value, Z = Builtin.zeroCells (Value.cells (.agg #[.int .i64 0, .string ⟨#[]⟩, .int .i64 0, .string ⟨#[]⟩, .int .i64 0, .slice none 0 0])) (n + 1 - i) := ⟨_, rfl⟩
  obtain ⟨D, hD⟩ : ∃ D : Array Value, D = Builtin.zeroCells (Value.cells (.agg #[.int .i64 0, .string ⟨#[]⟩, .int .i64 0, .string ⟨#[]⟩, .int .i64 0, .slice none 0 0])) (G - (n + 1)) := ⟨_, rfl⟩
  have hZl : Z.toList.length = (n + 1 - i) * 6 := by rw [hZ, Array.length_toList, size_zeroCells]; rfl
  have hDl : D.toList.length = (G - (n + 1)) * 6 := by rw [hD, Array.length_toList, size_zeroCells]; rfl
  rw [← hZ, ← hD] at hrz
  obtain ⟨R0, hR0⟩ : ∃ R0, R0 = cur.take (i * 6) ++ Z.toList ++ D.toList := ⟨_, rfl⟩
  have hR0a : (cur.take (i * 6)).toArray ++ Z ++ D = R0.toArray := by rw [hR0]; apply Array.ext'; simp
  rw [hR0a] at hrz
  have hR0l : R0.length = G * 6 := by rw [hR0, List.length_append, List.length_append, hAl, hZl, hDl]; omega
  obtain ⟨W1, hW1⟩ : ∃ W1, W1 = w.drew.alloc (.cells R0.toArray 34) := ⟨_, rfl⟩
  have hW1n : W1.heap[w.heap.size]? = some (.cells R0.toArray 34 (0, 0)) := by rw [hW1]; exact heap_alloc_new w.drew _
  have hW1o : ∀ k, k < w.heap.size → W1.heap[k]? = w.heap[k]? := fun k hk => by rw [hW1]; exact heap_alloc_old w.drew _ hk
  have hcA : ∀ (W : World), W.heap = W1.heap → ∀ ty dc, (Builtin.copy_ #[22, 22] ty #[.slice (some ⟨w.heap.size, i * 6, none⟩) (n + 1 - i) dc, .slice (some ⟨b2, 0, none⟩) 1 1]).run Try.prog W = .ok (goInt ((1 : Nat) : Int)) (W.setRow w.heap.size (over R0 (i * 6) x).toArray) := fun W hW ty dc =>
    run_copy_at W 22 22 ty 34 6 w.heap.size (i * 6) (n + 1 - i) dc ⟨b2, 0, none⟩ 1 1 R0 34 x 1 Try.underlying22 hsz (by rw [hW]; exact hW1n) (by simp only [Nat.min_def]; split <;> omega) (by rw [hx])
      (fun j u hj => by
        rw [Addr.add_lit, Nat.zero_add, cell_of_row W b2 j x.toArray 34 (0, 0) (by rw [hW, hW1o b2 hbw]; exact hb2), ← hj]
        simp) (by rw [hR0l]; omega) h1x
  have hcB : ∀ (W : World), W.heap = (W1.setRow w.heap.size (over R0 (i * 6) x).toArray).heap → ∀ ty dc sc, (Builtin.copy_ #[22, 22] ty #[.slice (some ⟨w.heap.size, (i + 1) * 6, none⟩) (n - i) dc, .slice (some ⟨g, i * 6, none⟩) (n - i) sc]).run Try.prog W = .ok (goInt ((n - i : Nat) : Int)) (W.setRow w.heap.size (over (over R0 (i * 6) x) ((i + 1) * 6) (cur.drop (i * 6))).toArray) := fun W hW ty dc sc =>
    run_copy_at W 22 22 ty 34 6 w.heap.size ((i + 1) * 6) (n - i) dc ⟨g, i * 6, none⟩ (n - i) sc (over R0 (i * 6) x) 34 (cur.drop (i * 6)) (n - i) Try.underlying22 hsz (by rw [hW]; exact setRow_heap W1 _ _ _ 34 _ hW1n) (by simp) hTl
      (fun j u hj => by
        rw [Addr.add_lit, cell_of_row W g _ cur.toArray 34 (0, 0) (by rw [hW, setRow_other W1 _ g _ (by omega), hW1o g hgw]; exact hg), ← hj, List.getElem?_drop]
        simp) (by rw [over_length _ _ _ (by rw [hR0l]; omega)]; omega) (fun u hu => h1 u (List.mem_of_mem_drop hu))
  have hfin : over (over R0 (i * 6) x) ((i + 1) * 6) (cur.drop (i * 6)) = cur.take (i * 6) ++ x ++ cur.drop (i * 6) ++ D.toList := by
    rw [hR0, show (i + 1) * 6 = i * 6 + 6 by omega]
    exact over_filled _ _ _ _ _ _ _ hAl hx (by rw [hZl, hTl]; omega)
  obtain ⟨R1, hR1⟩ : ∃ R1, R1 = over R0 (i * 6) x := ⟨_, rfl⟩
  rw [← hR1] at hcA hcB hfin
  obtain ⟨R2, hR2⟩ : ∃ R2, R2 = over R1 ((i + 1) * 6) (cur.drop (i * 6)) := ⟨_, rfl⟩
  rw [← hR2] at hcB hfin
  have hxl : (cur.take (i * 6) ++ x ++ cur.drop (i * 6)).length = (n + 1) * 6 := by rw [List.length_append, List.length_append, hAl, hTl, hx]; omega
  have hR2l : R2.length = G * 6 := by rw [hfin, List.length_append, hxl, hDl]; omega
  have hR2t : R2.take ((n + 1) * 6) = cur.take (i * 6) ++ x ++ cur.drop (i * 6) := by rw [hfin, ← hxl, List.take_left]
  have hw1 : IntKind.i64.wrap ((i : Int) + 1) = (i : Int) + 1 := by rw [IntKind.wrap_i64]; omega
  have hw2 : IntKind.i64.wrap ((n : Int) + 1) = (n : Int) + 1 := by rw [IntKind.wrap_i64]; omega
  have hw3 : IntKind.i64.wrap ((n : Int) + 1 - (i : Int)) = ((n + 1 - i : Nat) : Int) := by rw [IntKind.wrap_i64]; omega
  have hb1 : (0 : Int) ≤ (i : Int) + 1 := by omega
  have hb3 : (i : Int) ≤ (n : Int) + 1 := by omega
  have hin : i ≤ n := by omega
  have hz2 : ¬ ((i : Int) = (n : Int)) := by omega
  have hz3 : (c : Int) < (n : Int) + 1 := by omega
  have htn : ((i : Int) + 1).toNat = i + 1 := by omega
  have hGi : ¬ (G = i) := by omega
  have hGi1 : ¬ (G = i + 1) := by omega
  have hci : ¬ (c = i) := by omega
  have mixed : Try.prog.follows Departure.mixedOrders = true := by kernel_rfl
  rw [← hW1] at hrz
  have hcA0 := hcA W1 rfl 3 (G - i)
  have hcB0 := hcB (W1.setRow w.heap.size R1.toArray).drew rfl 3 (G - (i + 1)) (c - i)
  have hRZ := Lib.hid hrz
  have HW1 := Lib.hid hW1
  have HW1n := Lib.hid hW1n
  have HW1o := Lib.hid hW1o
  clear hR1 hR2 hR0 hR0a hG hZ hD htake hrz hW1 hW1n hW1o hfin hcA hcB hg hb2
  go_enter Try.func49, Try.ntmps49
  go_wp2_with (first
    | (at_builtin; refine Lib.wpList_append_run _ rfl _ _ _ _ rfl _ _ rfl rfl _ _ hRZ.out ?_)
    | (at_builtin; refine wpList_copy_runI _ rfl _ _ 22 22 rfl _ _ rfl rfl hcA0 ?_))
  go_region_law_o (refine step_copy_runI rfl _ _ 22 22 rfl (.slice (some ⟨w.heap.size, (i + 1) * 6, none⟩) (n - i) (G - (i + 1))) (.slice (some ⟨g, i * 6, none⟩) (n - i) (c - i)) (by simp [Act.eval, Act.put]) (by simp [Act.eval, Act.put]) hcB0 ?_)
  go_wp2
  go_ret
  have hsz1 : W1.heap.size = w.heap.size + 1 := by rw [HW1.out]; simp
  have hgr : w.grownBy W1 (some g) := by rw [HW1.out]; exact ⟨rfl, rfl, rfl, by simp, fun k hk _ => heap_alloc_old w.drew _ hk⟩
  refine ⟨_, rfl, ⟨hxl, .inr ⟨w.heap.size, G, R2.toArray, rfl, hB, ?_, hGn, hG63, by simpa using hR2l, by simpa using hR2t⟩⟩, ?_, .inr ⟨_, rfl, Nat.le_refl _⟩⟩
  · exact setRow_heap _ _ _ _ 34 _ (setRow_heap W1 _ _ _ 34 _ HW1n.out)
  · exact grown_new (grown_drew (grown_new hgr (Nat.le_refl _) _)) (Nat.le_refl _) _
theorem insert34 (v : Value) (n i : Nat) (xs x : List Value) (b2 : Nat) (w : World) (B : Nat) (hB : B ≤ w.heap.size) (hown : w.ownsRow B 34 6 v n xs) (hi : i ≤ n) (hn : n ≤ 8388608) (h1 : ∀ u ∈ xs, u.oneCell' = true)
    (hb2 : w.heap[b2]? = some (.cells x.toArray 34 (0, 0))) (hx : x.length = 6) (h1x : ∀ u ∈ x, u.oneCell' = true) (hne : some b2 ≠ v.ownBlock) :
    Calls Try.prog 49 #[v, .int .i64 i, .slice (some ⟨b2, 0, none⟩) 1 1] w (Ins34 w B v n i xs x) := by
  by_cases he : i = n
  · subst he
    exact ins_end34 v i xs x b2 w B hB hown hn hb2 hx h1x
  · rcases hown.2 with ⟨rfl, rfl⟩ | ⟨g, cap, cur, rfl, hbg, hg, hnc, hcm, hcs, htake⟩
    · omega
    · have hne' : b2 ≠ g := fun e => hne (by rw [e]; rfl)
      have hg' : w.heap[g]? = some (.cells cur.toList.toArray 34 (0, 0)) := by simpa using hg
      by_cases hroom : n + 1 ≤ cap
      · exact ins_shift34 g n cap i xs cur.toList x b2 w B hbg hg' (by omega) hroom (by simpa only [maxLen] using hcm) (by simpa using hcs) htake hn h1 hb2 hx h1x hne'
      · exact ins_grow34 g n cap i xs cur.toList x b2 w B hB hbg hg' (by omega) hnc (by omega) (by simpa using hcs) htake hn h1 hb2 hx h1x hne'
end Go.Proofs.Ythfolhgaecfogaa
