import Derived.Test.YthfolhgaecfogaaT14
set_option linter.unusedVariables false
set_option linter.unusedSimpArgs false
namespace Go.Proofs.Ythfolhgaecfogaa
open Go.RowKit Go.Proofs.YthfolhgaecfogaaW.PrintWords Go.Proofs.YthfolhgaecfogaaW.PrintLast Go.Proofs.YthfolhgaecfogaaW.PrintMore
theorem run_clear_at34 (w : World) (ty : TypeId) (g off c : Nat) (cur : List Value) (hg : w.heap[g]? = some (.cells cur.toArray 34 (0, 0))) (hfit : off + 6 ≤ cur.length) :
    (Builtin.clear_ #[22] ty #[.slice (some ⟨g, off, none⟩) 1 c]).run Try.prog w = .ok (.tuple #[]) (w.setRow g (over cur off (Value.cells (.agg #[.int .i64 0, .string ⟨#[]⟩, .int .i64 0, .string ⟨#[]⟩, .int .i64 0, .slice none 0 0])).toList).toArray) := by
  obtain ⟨i0, hi0, hzz⟩ := Option.map_eq_some_iff.1 info34
  simp only [Prod.mk.injEq] at hzz
  obtain ⟨hz0, hzs, hzb⟩ := hzz
  have hv : (zeroValue 34).run Try.prog w = .ok (.agg #[.int .i64 0, .string ⟨#[]⟩, .int .i64 0, .string ⟨#[]⟩, .int .i64 0, .slice none 0 0]) w := by simp [zeroValue, typeInfo, hi0, hz0]
  have hzc : (Builtin.zeroCells (Value.cells (.agg #[.int .i64 0, .string ⟨#[]⟩, .int .i64 0, .string ⟨#[]⟩, .int .i64 0, .slice none 0 0])) 1).toList = (Value.cells (.agg #[.int .i64 0, .string ⟨#[]⟩, .int .i64 0, .string ⟨#[]⟩, .int .i64 0, .slice none 0 0])).toList := by kernel_rfl
  have hst := run_storeCells_at Try.prog g off 34 (Value.cells (.agg #[.int .i64 0, .string ⟨#[]⟩, .int .i64 0, .string ⟨#[]⟩, .int .i64 0, .slice none 0 0])).toList 0 cur.toArray w hg (by simp only [Nat.add_zero]; exact hfit) (by decide)
  simp only [Nat.add_zero] at hst
  obtain ⟨Zc, hZc⟩ : ∃ Zc, Zc = (Value.cells (.agg #[.int .i64 0, .string ⟨#[]⟩, .int .i64 0, .string ⟨#[]⟩, .int .i64 0, .slice none 0 0])).toList := ⟨_, rfl⟩
  rw [← hZc] at hst hzc ⊢
  simp [Builtin.clear_, run_underlying Try.underlying22, hv, hzc, hst, over]
set_option maxRecDepth 100000 in
set_option maxHeartbeats 1000000 in
theorem delete34 (v : Value) (n i : Nat) (xs : List Value) (w : World) (B : Nat) (hown : w.ownsRow B 34 6 v n xs) (hi : i < n) (hn : n ≤ 8388608) (h1 : ∀ u ∈ xs, u.oneCell' = true) :
    Calls Try.prog 63 #[v, .int .i64 i, .int .i64 ((i : Int) + 1)] w fun e w' => ∃ v', e = .returned v' ∧ w'.ownsRow B 34 6 v' (n - 1) (xs.take (i * 6) ++ xs.drop ((i + 1) * 6)) ∧ w.grownBy w' v.ownBlock ∧ v'.ownBlock = v.ownBlock := by
  rcases hown.2 with ⟨rfl, rfl⟩ | ⟨g, c, cura, rfl, hbg, hg0, hnc, hcm0, hcs0, htake⟩
  · omega
  obtain ⟨cur, hcur⟩ : ∃ cur, cur = cura.toList := ⟨_, rfl⟩
  have hg : w.heap[g]? = some (.cells cur.toArray 34 (0, 0)) := by rw [hcur]; simpa using hg0
  have hcs : cur.length = c * 6 := by rw [hcur]; simpa using hcs0
  rw [← hcur] at htake
  have hcm : c ≤ 9223372036854775807 := by simpa only [maxLen] using hcm0
  obtain ⟨i0, hi0, hzz⟩ := Option.map_eq_some_iff.1 info34
  simp only [Prod.mk.injEq] at hzz
  obtain ⟨hz0, hzs, hzb⟩ := hzz
  have hxl : xs.length = n * 6 := hown.1
  obtain ⟨T, hT⟩ : ∃ T, T = xs.drop ((i + 1) * 6) := ⟨_, rfl⟩
  have hTl : T.length = (n - (i + 1)) * 6 := by rw [hT, List.length_drop]; omega
  have hT1 : ∀ u ∈ T, u.oneCell' = true := fun u hu => h1 u (by rw [hT] at hu; exact List.mem_of_mem_drop hu)
  have hcn1 : n * 6 ≤ cur.length := by rw [hcs]; exact Nat.mul_le_mul_right _ hnc
  have hsrc : ∀ (ad : Addr), (ad = ⟨g, (i + 1) * 6, none⟩ ∨ T = []) → ∀ j u, T[j]? = some u → w.drew.cell? (ad.add j) = some u := by
    intro ad had j u hj
    have hjl : j < T.length := (List.getElem?_eq_some_iff.1 hj).1
    rcases had with rfl | h0
    · rw [Addr.add_lit]
      show w.cell? ⟨g, _, none⟩ = _
      rw [cell_of_row w g _ cur.toArray 34 (0, 0) hg, ← hj, hT, ← htake, List.getElem?_drop, List.getElem?_take, if_pos (by omega)]
      simp
    · rw [h0] at hjl; simp at hjl
  obtain ⟨R1, hR1⟩ : ∃ R1, R1 = over cur (i * 6) T := ⟨_, rfl⟩
  have hA : ∀ (ad : Addr), (ad = ⟨g, (i + 1) * 6, none⟩ ∨ T = []) → ∀ ty c2, (Builtin.append_ #[22, 22] ty #[.slice (some ⟨g, 0, none⟩) i c, .slice (some ad) (n - (i + 1)) c2]).run Try.prog w.drew = .ok (.slice (some ⟨g, 0, none⟩) (n - 1) c) (w.drew.setRow g R1.toArray) := by
    intro ad had ty c2
    have h := run_append_room (P := Try.prog) w.drew 22 ty 34 i0 Try.underlying22 hi0 g i c cur.toArray hg ad (n - (i + 1)) c2 T (by rw [hzs]; exact hTl) (hsrc ad had) hT1 (by omega) (by rw [hzs]; simp; omega)
    rw [hzs, show i + (n - (i + 1)) = n - 1 by omega] at h
    rw [h, hR1]
    rfl
  have hR1l : R1.length = c * 6 := by rw [hR1, over_length _ _ _ (by omega), hcs]
  have hR1t : R1.take ((n - 1) * 6) = xs.take (i * 6) ++ T := by
    have e : cur.take (i * 6) = xs.take (i * 6) := by rw [← htake, List.take_take, Nat.min_eq_left (by omega)]
    rw [hR1]
    unfold over
    rw [e, List.take_append_of_le_length (by simp; omega)]
    exact List.take_of_length_le (by simp; omega)
  have hC : ∀ (W : World), W.heap = (w.drew.setRow g R1.toArray).heap → ∀ ty c2, (Builtin.clear_ #[22] ty #[.slice (some ⟨g, (n - 1) * 6, none⟩) 1 c2]).run Try.prog W = .ok (.tuple #[]) (W.setRow g (over R1 ((n - 1) * 6) (Value.cells (.agg #[.int .i64 0, .string ⟨#[]⟩, .int .i64 0, .string ⟨#[]⟩, .int .i64 0, .slice none 0 0])).toList).toArray) := fun W hW ty c2 =>
    run_clear_at34 W ty g ((n - 1) * 6) c2 R1 (by rw [hW]; exact setRow_heap _ g _ _ 34 _ hg) (by omega)
  obtain ⟨R2, hR2⟩ : ∃ R2, R2 = over R1 ((n - 1) * 6) (Value.cells (.agg #[.int .i64 0, .string ⟨#[]⟩, .int .i64 0, .string ⟨#[]⟩, .int .i64 0, .slice none 0 0])).toList := ⟨_, rfl⟩
  have hzl : (Value.cells (.agg #[.int .i64 0, .string ⟨#[]⟩, .int .i64 0, .string ⟨#[]⟩, .int .i64 0, .slice none 0 0])).toList.length = 6 := by rfl
  have hR2l : R2.length = c * 6 := by rw [hR2, over_length _ _ _ (by rw [hzl]; omega), hR1l]
  have hR2t : R2.take ((n - 1) * 6) = xs.take (i * 6) ++ T := by rw [hR2, take_over _ _ _ _ (by rw [hzl]; omega) (Nat.le_refl _), hR1t]
  rw [← hR2] at hC
  have hfl : (xs.take (i * 6) ++ T).length = (n - 1) * 6 := by rw [List.length_append, List.length_take, hTl, hxl]; omega
  rw [← hT]
  have hw1 : (i : Int) ≤ (i : Int) + 1 := by omega
  have hb1 : (0 : Int) ≤ (i : Int) + 1 := by omega
  have hin : i ≤ n := by omega
  have hin1 : i + 1 ≤ n := by omega
  have hin2 : (i : Int) + 1 ≤ (n : Int) := by omega
  have hnc' : (n : Int) ≤ (c : Int) := by omega
  have htn : ((i : Int) + 1).toNat = i + 1 := by omega
  have hz2 : ¬ ((i : Int) = (i : Int) + 1) := by omega
  have hz2' : ((i : Int) == (i : Int) + 1) = false := by simp; omega
  have hci : ¬ (c = i) := by omega
  have hic : i ≤ c := by omega
  have hic' : (i : Int) ≤ (c : Int) := by omega
  have hcn : ¬ (c = n - 1) := by omega
  have hnn : n - 1 ≤ n := by omega
  have hn11 : n - (n - 1) = 1 := by omega
  have mixed : Try.prog.follows Departure.mixedOrders = true := by kernel_rfl
  have HG := Lib.hid hg
  by_cases hce : c = i + 1
  · have hT0 : T = [] := List.eq_nil_of_length_eq_zero (by rw [hTl]; omega)
    obtain rfl : n = i + 1 := by omega
    subst hce
    have hA0 := hA ⟨g, 0, none⟩ (.inr hT0) 22 0
    have hC0 := hC (w.drew.setRow g R1.toArray) rfl
    simp only [Nat.add_sub_cancel, Nat.sub_self] at *
    clear hg hg0 hA hC hT hR1 hR2 hcur htake hcs hcs0 hsrc hz0 hzs hzb
    go_enter Try.func63, Try.ntmps63
    go_wp2
    go_region_law_o (refine step_append_runI rfl _ _ 22 22 rfl (.slice (some ⟨g, 0, none⟩) i (i + 1)) (.slice (some ⟨g, 0, none⟩) 0 0) (by simp [Act.eval, Act.put]) (by simp [Act.eval, Act.put]) hA0 ?_)
    go_wp2
    go_ret
    exact ⟨_, rfl, ⟨hfl, .inr ⟨g, i + 1, R2.toArray, rfl, hbg, setRow_heap _ g _ _ 34 _ (setRow_heap _ g _ _ 34 _ HG.out), by omega, hcm0, by simpa using hR2l, by simpa using hR2t⟩⟩, grown_setRow (grown_setRow (grown_drew (grown_refl _ _)) _) _, rfl⟩
  · have hA0 := hA ⟨g, (i + 1) * 6, none⟩ (.inl rfl) 22 (c - (i + 1))
    have hC0 := hC (w.drew.setRow g R1.toArray) rfl
    clear hg hg0 hA hC hT hR1 hR2 hcur htake hcs hcs0 hsrc hz0 hzs hzb
    go_enter Try.func63, Try.ntmps63
    go_wp2
    go_region_law_o (refine step_append_runI rfl _ _ 22 22 rfl (.slice (some ⟨g, 0, none⟩) i c) (.slice (some ⟨g, (i + 1) * 6, none⟩) (n - (i + 1)) (c - (i + 1))) (by simp [Act.eval, Act.put]) (by simp [Act.eval, Act.put]) hA0 ?_)
    go_wp2
    go_ret
    exact ⟨_, rfl, ⟨hfl, .inr ⟨g, c, R2.toArray, rfl, hbg, setRow_heap _ g _ _ 34 _ (setRow_heap _ g _ _ 34 _ HG.out), by omega, hcm0, by simpa using hR2l, by simpa using hR2t⟩⟩, grown_setRow (grown_setRow (grown_drew (grown_refl _ _)) _) _, rfl⟩
end Go.Proofs.Ythfolhgaecfogaa
