import Derived.Test.YthfolhgaecfogaaM2
import Derived.Shelf.Spec.SlicesInsert
import Derived.Lib.AppendZerosOnto
set_option linter.unusedVariables false
set_option linter.unusedSimpArgs false
namespace Go.Proofs.Ythfolhgaecfogaa
section
open Go.RowKit Go.Proofs.YthfolhgaecfogaaW.PrintWords Go.Proofs.YthfolhgaecfogaaW.PrintLast Go.Proofs.YthfolhgaecfogaaW.PrintMore
/-- a row's cells with cs laid over them from off on -/
def over (cur : List Value) (off : Nat) (cs : List Value) : List Value := cur.take off ++ cs ++ cur.drop (off + cs.length)
theorem over_length (cur : List Value) (off : Nat) (cs : List Value) (h : off + cs.length ≤ cur.length) : (over cur off cs).length = cur.length := by simp [over]; omega
/-- copy between rows of elements of any size, the target known whole -/
theorem run_copy_at {P : Program} (w : World) (dT sT ty elem : TypeId) (sz : Nat) (g off dLen dCap : Nat) (ad : Addr) (sLen sCap : Nat) (cur : List Value) (t : TypeId) (cs : List Value) (m : Nat)
    (hu : P.underlying dT = some (.slice elem)) (hs : (P.info? elem).map (·.size) = some sz) (hg : w.heap[g]? = some (.cells cur.toArray t (0, 0)))
    (hm : Nat.min sLen dLen = m) (hl : cs.length = m * sz) (hsrc : ∀ j v, cs[j]? = some v → w.cell? (ad.add j) = some v) (hfit : off + cs.length ≤ cur.length) (h1 : ∀ v ∈ cs, v.oneCell' = true) :
    (Builtin.copy_ #[dT, sT] ty #[.slice (some ⟨g, off, none⟩) dLen dCap, .slice (some ad) sLen sCap]).run P w = .ok (goInt m) (w.setRow g (over cur off cs).toArray) := by
  have hf := run_firstCells_some (P := P) w sz m ad sLen sCap cs hl hsrc
  have hst := run_storeCells_at P g off t cs 0 cur.toArray w hg (by simpa using hfit) h1
  cases hq : P.info? elem with
  | none => simp [hq] at hs
  | some i =>
    have hi : i.size = sz := by simpa [hq] using hs
    simp only [Nat.add_zero] at hst
    simp [Builtin.copy_, run_underlying hu, Builtin.lenOf, sizeOf, typeInfo, hq, hi, hm, hf, hst, over]
theorem heap_setRow_any (w : World) (g : Nat) (a b : List Value) (t : TypeId) (h : w.heap[g]? = some (.cells a.toArray t (0, 0))) : (w.setRow g b.toArray).heap[g]? = some (.cells b.toArray t (0, 0)) := setRow_heap w g _ _ t _ h
theorem grown_setRow {w w' : World} {g : Nat} (h : w.grownBy w' (some g)) (cs : Array Value) : w.grownBy (w'.setRow g cs) (some g) :=
  ⟨h.os, h.tape, h.output, by rw [setRow_size]; exact h.size, fun k hk hne => (setRow_other w' g k cs (fun e => hne (by rw [e]))).trans (h.block k hk hne)⟩
theorem grown_drew {w w' : World} {r : Option Nat} (h : w.grownBy w' r) : w.grownBy w'.drew r := ⟨h.os, h.tape, h.output, h.size, h.block⟩
theorem grown_refl (w : World) (r : Option Nat) : w.grownBy w r := ⟨rfl, rfl, rfl, Nat.le_refl _, fun _ _ _ => rfl⟩
/-- a block that is new may be written -/
theorem grown_new {w w' : World} {g : Nat} {r : Option Nat} (h : w.grownBy w' r) (hg : w.heap.size ≤ g) (cs : Array Value) : w.grownBy (w'.setRow g cs) r :=
  ⟨h.os, h.tape, h.output, by rw [setRow_size]; exact h.size, fun k hk hne => (setRow_other w' g k cs (by omega)).trans (h.block k hk hne)⟩
theorem take_over (cur : List Value) (off : Nat) (cs : List Value) (k : Nat) (h : off + cs.length ≤ cur.length) (hk : k ≤ off) : (over cur off cs).take k = cur.take k := by
  unfold over
  rw [List.append_assoc, List.take_append_of_le_length (by simp; omega), List.take_take, Nat.min_eq_left hk]
/-- in place: the tail moved up by one element, then the element -/
theorem over_insert (cur : List Value) (n i sz : Nat) (x : List Value) (hx : x.length = sz) (hi : i ≤ n) (hcur : (n + 1) * sz ≤ cur.length) :
    (over (over cur ((i + 1) * sz) ((cur.drop (i * sz)).take ((n - i) * sz))) (i * sz) x).take ((n + 1) * sz) = (cur.take (n * sz)).take (i * sz) ++ x ++ (cur.take (n * sz)).drop (i * sz) := by
  have h1 : i * sz ≤ n * sz := Nat.mul_le_mul_right _ hi
  have h2 : (n + 1) * sz = n * sz + sz := by rw [Nat.add_mul, Nat.one_mul]
  have h3 : (i + 1) * sz = i * sz + sz := by rw [Nat.add_mul, Nat.one_mul]
  have h4 : (n - i) * sz = n * sz - i * sz := Nat.sub_mul _ _ _
  rw [h2] at hcur
  rw [h2, h3, h4]
  generalize i * sz = I at *
  generalize n * sz = N at *
  subst hx
  obtain ⟨T, hT⟩ : ∃ T, T = (cur.drop I).take (N - I) := ⟨_, rfl⟩
  have hTl : T.length = N - I := by rw [hT]; simp; omega
  rw [← hT]
  have e1 : (over cur (I + x.length) T).take I = cur.take I := take_over _ _ _ _ (by omega) (by omega)
  have e2 : (over cur (I + x.length) T).drop (I + x.length) = T ++ cur.drop (I + x.length + T.length) := by
    have hl : (cur.take (I + x.length)).length = I + x.length := by simp; omega
    unfold over
    rw [List.append_assoc, List.drop_append, hl, Nat.sub_self, List.drop_of_length_le (by rw [hl]; exact Nat.le_refl _)]
    rfl
  have e3 : cur.take N = cur.take I ++ T := by
    rw [hT]
    have : N = I + (N - I) := by omega
    conv => lhs; rw [this, List.take_add]
  have hI : (cur.take I).length = I := by simp; omega
  have e4 : (cur.take N).take I = cur.take I := by rw [List.take_take, Nat.min_eq_left h1]
  have e5 : (cur.take N).drop I = T := by rw [e3, List.drop_append, hI, Nat.sub_self, List.drop_of_length_le (by rw [hI]; exact Nat.le_refl _)]; rfl
  rw [e4, e5]
  unfold over at e1 e2 ⊢
  rw [e1, e2, ← List.append_assoc, List.take_append_of_le_length (by simp; omega)]
  apply List.take_of_length_le
  simp; omega
/-- in a new row: zeros filled -/
theorem over_filled (A X T D : List Value) (I s : Nat) (Z : List Value) (hA : A.length = I) (hX : X.length = s) (hZ : Z.length = s + T.length) :
    over (over (A ++ Z ++ D) I X) (I + s) T = A ++ X ++ T ++ D := by
  subst hA; subst hX
  have e : over (A ++ Z ++ D) A.length X = A ++ X ++ (Z.drop X.length ++ D) := by
    unfold over
    rw [List.append_assoc A, List.take_left, List.drop_append, List.drop_of_length_le (by omega), Nat.add_sub_cancel_left, List.drop_append, show X.length - Z.length = 0 by omega]
    simp
  rw [e]
  unfold over
  rw [show A.length + X.length = (A ++ X).length by simp, List.take_left, List.append_assoc (A ++ X), List.append_assoc (A ++ X)]
  congr 1
  congr 1
  rw [List.drop_append, List.drop_of_length_le (by omega), Nat.add_sub_cancel_left, List.drop_append, List.drop_of_length_le (by simp; omega)]
  have h0 : T.length - (Z.length - X.length) = 0 := by omega
  simp [h0]
/-- an append whose run is known, in a region that draws -/
theorem step_append_runI {P : Program} {ops : Array Oper} {o : Oper} {a : Act} {w : World} {K : Act → World → Prop} {Q : Exit → Act → World → Prop} {E : Prop}
    (hg : o.guard = none) (d x : Operand) (dT sT : TypeId) (hop : o.op = Op.call { callee := Callee.builtin Builtin.append, args := #[d, x], argTypes := #[dT, sT] })
    (v u : Value) (hd : a.eval d = v) (hx : a.eval x = u) {v' : Value} {w' : World} (hr : (Builtin.append_ #[dT, sT] o.type #[v, u]).run P w = .ok v' w') (hK : K (a.put o.dst v') w') :
    if Region.wanted o (yielded ops a.tmps) = true then Oper.wp P o a w K Q else E := by
  have hw : Region.wanted o (yielded ops a.tmps) = true := by simp [Region.wanted, hg]
  rw [if_pos hw]
  unfold Oper.wp
  simp [execOp, hop, resolve, invoke, builtin, hd, hx, hr, Result.andThen]
  exact hK
end
section
open Go.RowKit Go.Proofs.YthfolhgaecfogaaW.PrintWords Go.Proofs.YthfolhgaecfogaaW.PrintLast Go.Proofs.YthfolhgaecfogaaW.PrintMore
def Ins34 (w : World) (B : Nat) (v : Value) (n i : Nat) (xs x : List Value) : Ending → World → Prop := fun e w' => ∃ v', e = .returned v' ∧ w'.ownsRow B 34 6 v' (n + 1) (xs.take (i * 6) ++ x ++ xs.drop (i * 6)) ∧ w.grownBy w' v.ownBlock ∧ (v'.ownBlock = v.ownBlock ∨ ∃ b, v'.ownBlock = some b ∧ w.heap.size ≤ b)
theorem ovl34 (w : World) (b2 g off n c lb cb : Nat) (x cur : List Value) (hb2 : w.heap[b2]? = some (.cells x.toArray 34 (0, 0))) (hg : w.heap[g]? = some (.cells cur.toArray 34 (0, 0))) (hne : b2 ≠ g) (hc : cur.length ≠ 0) :
    (callFunc 71 #[.slice (some ⟨b2, 0, none⟩) n c, .slice (some ⟨g, off, none⟩) lb cb]).run Try.prog w = .ok (.value (.bool false)) w := by
  rw [run_callFunc_extern (P := Try.prog) (f := 71) Try.func71 (by kernel_rfl) (by kernel_rfl) (by kernel_rfl) (e := Extern.SlicesOverlaps.overlaps #[22, 22] #[4]) (by kernel_rfl),
    Lib.run_overlaps_apart w 22 4 34 Try.underlying22 6 (fun w => by
      obtain ⟨i0, hi, hzz⟩ := Option.map_eq_some_iff.1 info34
      simp only [Prod.mk.injEq] at hzz
      simp [sizeOf, typeInfo, hi, hzz.2.1]) ⟨b2, 0, none⟩ ⟨g, off, none⟩ n c lb cb hne 34 34 x.toArray.size cur.toArray.size (by simp [World.shape?, hb2]) (by simp [World.shape?, hg]) (by simpa using hc) (blk_frozen hb2 _) (blk_frozen hb2 _)]
  rfl
set_option maxRecDepth 100000 in
set_option maxHeartbeats 1000000 in
theorem ins_end34 (v : Value) (n : Nat) (xs x : List Value) (b2 : Nat) (w : World) (B : Nat) (hB : B ≤ w.heap.size) (hown : w.ownsRow B 34 6 v n xs) (hn : n ≤ 8388608)
    (hb2 : w.heap[b2]? = some (.cells x.toArray 34 (0, 0))) (hx : x.length = 6) (h1x : ∀ u ∈ x, u.oneCell' = true) :
    Calls Try.prog 49 #[v, .int .i64 n, .slice (some ⟨b2, 0, none⟩) 1 1] w (Ins34 w B v n n xs x) := by
  obtain ⟨i0, hi, hzz⟩ := Option.map_eq_some_iff.1 info34
  simp only [Prod.mk.injEq] at hzz
  obtain ⟨v1, w1, hr, hown1, hg1, _, hat⟩ := Go.run_append_own_at (P := Try.prog) w B 22 22 34 i0 _ 6 80 Try.underlying22 hi hzz.1 hzz.2.1 hzz.2.2 (by rfl) (by decide) v n xs hown ⟨b2, 0, none⟩ 1 1 x (by rw [hx]) (World.news_of_block (cs := x.toArray) (t := 34) (fr := (0, 0)) (by simpa using hb2)) h1x (by simp only [maxLen]; omega) (by omega) hB
  have hl : xs.length = n * 6 := hown.1
  have hfin : xs.take (n * 6) ++ x ++ xs.drop (n * 6) = xs ++ x := by rw [← hl]; simp
  have hR := Lib.hid hr
  have hn0 : (decide ((n : Int) = (n : Int))) = true := by simp
  rcases hown.2 with ⟨rfl, rfl⟩ | ⟨g, cap, cur, rfl, hbg, hg, hnc, hcm, hcs, htake⟩
  · clear hown hr
    go_enter Try.func49, Try.ntmps49
    go_wp2_with (at_builtin; refine Lib.wpList_append_run _ rfl _ _ _ _ rfl _ _ rfl rfl _ _ hR.out ?_)
    go_ret
    exact ⟨_, rfl, by rw [hfin]; exact hown1, hg1, by rcases hat with h | h; exact .inl h; exact .inr ⟨_, h, Nat.le_refl _⟩⟩
  · clear hown hr
    go_enter Try.func49, Try.ntmps49
    go_wp2_with (at_builtin; refine Lib.wpList_append_run _ rfl _ _ _ _ rfl _ _ rfl rfl _ _ hR.out ?_)
    all_goals (go_ret; exact ⟨_, rfl, by rw [hfin]; exact hown1, hg1, by rcases hat with h | h; exact .inl h; exact .inr ⟨_, h, Nat.le_refl _⟩⟩)
set_option maxRecDepth 100000 in
set_option maxHeartbeats 1000000 in
theorem ins_shift34 (g n c i : Nat) (xs cur x : List Value) (b2 : Nat) (w : World) (B : Nat) (hbg : B ≤ g) (hg : w.heap[g]? = some (.cells cur.toArray 34 (0, 0))) (hi : i < n) (hnc : n + 1 ≤ c) (hcm : c ≤ 9223372036854775807) (hcs : cur.length = c * 6) (htake : cur.take (n * 6) = xs) (hn : n ≤ 8388608) (h1 : ∀ u ∈ xs, u.oneCell' = true)
    (hb2 : w.heap[b2]? = some (.cells x.toArray 34 (0, 0))) (hx : x.length = 6) (h1x : ∀ u ∈ x, u.oneCell' = true) (hne : b2 ≠ g) :
    Calls Try.prog 49 #[.slice (some ⟨g, 0, none⟩) n c, .int .i64 i, .slice (some ⟨b2, 0, none⟩) 1 1] w (Ins34 w B (.slice (some ⟨g, 0, none⟩) n c) n i xs x) := by
  have hsz : (Try.prog.info? 34).map (·.size) = some 6 := by
    obtain ⟨i0, hi, hzz⟩ := Option.map_eq_some_iff.1 info34
    simp only [Prod.mk.injEq] at hzz
    rw [hi]; simp [hzz.2.1]
  have hcn : c * 6 = cur.length := hcs.symm
  have hcn1 : (n + 1) * 6 ≤ cur.length := by rw [hcs]; exact Nat.mul_le_mul_right _ hnc
  obtain ⟨T, hT⟩ : ∃ T, T = (cur.drop (i * 6)).take ((n - i) * 6) := ⟨_, rfl⟩
  have hTl : T.length = (n - i) * 6 := by
    rw [hT, List.length_take, List.length_drop]
    omega
  have hT1 : ∀ u ∈ T, u.oneCell' = true := by
    intro u hu
    refine h1 u ?_
    rw [← htake]
    rw [hT] at hu
    have : cur.take (n * 6) = cur.take (i * 6) ++ (cur.drop (i * 6)).take ((n - i) * 6) := by
      have : n * 6 = i * 6 + (n - i) * 6 := by omega
      rw [this, List.take_add]
    rw [this]
    exact List.mem_append_right _ hu
  have hov : ∀ off lb cb, (callFunc 71 #[.slice (some ⟨b2, 0, none⟩) 1 1, .slice (some ⟨g, off, none⟩) lb cb]).run Try.prog w = .ok (.value (.bool false)) w := fun off lb cb => ovl34 w b2 g off 1 1 lb cb x cur hb2 hg hne (by omega)
  have hcA : ∀ (W : World), W.heap = w.heap → ∀ ty dc sc, (Builtin.copy_ #[22, 22] ty #[.slice (some ⟨g, (i + 1) * 6, none⟩) (n - i) dc, .slice (some ⟨g, i * 6, none⟩) (n + 1 - i) sc]).run Try.prog W = .ok (goInt ((n - i : Nat) : Int)) (W.setRow g (over cur ((i + 1) * 6) T).toArray) := fun W hW ty dc sc =>
    run_copy_at W 22 22 ty 34 6 g ((i + 1) * 6) (n - i) dc ⟨g, i * 6, none⟩ (n + 1 - i) sc cur 34 T (n - i) Try.underlying22 hsz (by rw [hW]; exact hg) (by simp only [Nat.min_def]; split <;> omega) hTl
      (fun j u hj => by
        have hjl : j < T.length := (List.getElem?_eq_some_iff.1 hj).1
        rw [Addr.add_lit, cell_of_row W g _ cur.toArray 34 (0, 0) (by rw [hW]; exact hg), ← hj, hT, List.getElem?_take, if_pos (by omega), List.getElem?_drop]
        simp) (by omega) hT1
  have hcB : ∀ (W : World), W.heap = (w.setRow g (over cur ((i + 1) * 6) T).toArray).heap → ∀ ty dc, (Builtin.copy_ #[22, 22] ty #[.slice (some ⟨g, i * 6, none⟩) (n + 1 - i) dc, .slice (some ⟨b2, 0, none⟩) 1 1]).run Try.prog W = .ok (goInt ((1 : Nat) : Int)) (W.setRow g (over (over cur ((i + 1) * 6) T) (i * 6) x).toArray) := fun W hW ty dc =>
    run_copy_at W 22 22 ty 34 6 g (i * 6) (n + 1 - i) dc ⟨b2, 0, none⟩ 1 1 (over cur ((i + 1) * 6) T) 34 x 1 Try.underlying22 hsz (by rw [hW]; exact setRow_heap w g _ _ 34 _ hg) (by simp only [Nat.min_def]; split <;> omega) (by rw [hx])
      (fun j u hj => by
        rw [Addr.add_lit, Nat.zero_add, cell_of_row W b2 j x.toArray 34 (0, 0) (by rw [hW, setRow_other w g b2 _ hne]; exact hb2), ← hj]
        simp) (by rw [over_length _ _ _ (by omega)]; omega) h1x
  have hfin := over_insert cur n i 6 x hx (by omega) hcn1
  rw [← hT, htake] at hfin
  have hlen2 : (over (over cur ((i + 1) * 6) T) (i * 6) x).length = c * 6 := by
    rw [over_length _ _ _ (by rw [over_length _ _ _ (by omega)]; omega), over_length _ _ _ (by omega), hcs]
  obtain ⟨R1, hR1⟩ : ∃ R1, R1 = over cur ((i + 1) * 6) T := ⟨_, rfl⟩
  rw [← hR1] at hcA hcB hfin hlen2
  obtain ⟨R2, hR2⟩ : ∃ R2, R2 = over R1 (i * 6) x := ⟨_, rfl⟩
  rw [← hR2] at hcB hfin hlen2
  have hxl : (xs.take (i * 6) ++ x ++ xs.drop (i * 6)).length = (n + 1) * 6 := by rw [← hfin, List.length_take, hlen2]; omega
  have hw1 : IntKind.i64.wrap ((i : Int) + 1) = (i : Int) + 1 := by rw [IntKind.wrap_i64]; omega
  have hw2 : IntKind.i64.wrap ((n : Int) + 1) = (n : Int) + 1 := by rw [IntKind.wrap_i64]; omega
  have hb1 : (0 : Int) ≤ (i : Int) + 1 := by omega
  have hz2 : ¬ ((i : Int) = (n : Int)) := by omega
  have hz2' : decide ((i : Int) = (n : Int)) = false := by simpa using hz2
  have hin : i ≤ n := by omega
  have hb3 : (i : Int) ≤ (n : Int) + 1 := by omega
  have mixed : Try.prog.follows Departure.mixedOrders = true := by kernel_rfl
  have htn : ((i : Int) + 1).toNat = i + 1 := by omega
  have htn2 : ((n : Int) + 1).toNat = n + 1 := by omega
  have hb2c : ¬ (c = i + 1) := by omega
  have hb4 : ¬ (c = i) := by omega
  have hAov := Lib.hid hov
  have HT := Lib.hid hT
  have HG := Lib.hid hg
  clear hT hov hR1 hR2 htake hcn hcs
  go_enter Try.func49, Try.ntmps49
  go_wp2_with (simp only [hAov.out])
  go_region_law_o (refine step_copy_runI rfl _ _ 22 22 rfl (.slice (some ⟨g, (i + 1) * 6, none⟩) (n - i) (c - (i + 1))) (.slice (some ⟨g, i * 6, none⟩) (n + 1 - i) (c - i)) (by simp [Act.eval, Act.put]) (by simp [Act.eval, Act.put]) (hcA w.drew rfl 3 (c - (i + 1)) (c - i)) ?_)
  have hcB0 := hcB (w.drew.setRow g R1.toArray) rfl 3 (c - i)
  go_wp2_with (at_builtin; refine wpList_copy_runI _ rfl _ _ 22 22 rfl _ _ rfl rfl hcB0 ?_)
  go_ret
  refine ⟨_, rfl, ⟨hxl, .inr ⟨g, c, R2.toArray, rfl, hbg, ?_, hnc, by simp only [maxLen]; omega, by simpa using hlen2, by simpa using hfin⟩⟩, ?_, .inl rfl⟩
  · exact setRow_heap _ g _ _ 34 _ (setRow_heap _ g _ _ 34 _ HG.out)
  · exact grown_setRow (grown_setRow (grown_drew (grown_refl _ _)) _) _
set_option maxRecDepth 100000 in
set_option maxHeartbeats 1000000 in
theorem ins_grow34 (g n c i : Nat) (xs cur x : List Value) (b2 : Nat) (w : World) (B : Nat) (hB : B ≤ w.heap.size) (hbg : B ≤ g) (hg : w.heap[g]? = some (.cells cur.toArray 34 (0, 0))) (hi : i < n) (hnc : n ≤ c) (hroom : c < n + 1) (hcs : cur.length = c * 6) (htake : cur.take (n * 6) = xs) (hn : n ≤ 8388608) (h1 : ∀ u ∈ xs, u.oneCell' = true)
    (hb2 : w.heap[b2]? = some (.cells x.toArray 34 (0, 0))) (hx : x.length = 6) (h1x : ∀ u ∈ x, u.oneCell' = true) (hne : b2 ≠ g) :
    Calls Try.prog 49 #[.slice (some ⟨g, 0, none⟩) n c, .int .i64 i, .slice (some ⟨b2, 0, none⟩) 1 1] w (Ins34 w B (.slice (some ⟨g, 0, none⟩) n c) n i xs x) := by
  obtain ⟨i0, hi0, hzz⟩ := Option.map_eq_some_iff.1 info34
  simp only [Prod.mk.injEq] at hzz
  obtain ⟨hz0, hzs, hzb⟩ := hzz
  have hsz : (Try.prog.info? 34).map (·.size) = some 6 := by rw [hi0]; simp [hzs]
  have hcl : cur.length = n * 6 := by rw [hcs, show c = n by omega]
  have hxc : cur = xs := by rw [← htake, ← hcl, List.take_length]
  subst hxc
  have hgw : g < w.heap.size := (Array.getElem?_eq_some_iff.1 hg).1
  have hbw : b2 < w.heap.size := (Array.getElem?_eq_some_iff.1 hb2).1
  have hAl : (cur.take (i * 6)).length = i * 6 := by rw [List.length_take]; omega
  have hTl : (cur.drop (i * 6)).length = (n - i) * 6 := by rw [List.length_drop]; omega
  have hold : (Builtin.firstCells i0.size i (.slice (some ⟨g, 0, none⟩) i c)).run Try.prog w.drew = .ok (cur.take (i * 6)).toArray w.drew := by
    rw [hzs]
    exact run_firstCells_some w.drew 6 i ⟨g, 0, none⟩ i c (cur.take (i * 6)) hAl (fun j v hj => by
      have hjl : j < (cur.take (i * 6)).length := (List.getElem?_eq_some_iff.1 hj).1
      rw [Addr.add_lit, Nat.zero_add]
      show w.cell? ⟨g, j, none⟩ = _
      rw [cell_of_row w g _ cur.toArray 34 (0, 0) hg, ← hj, List.getElem?_take, if_pos (by omega)]
      simp)
  have hrz := Lib.run_append_grow_zeros (P := Try.prog) w 22 3 22 34 i0 _ .i64 .i64 Try.underlying22 Try.underlying3 hi0 hz0 (some ⟨g, 0, none⟩) i c (cur.take (i * 6)) hold (n + 1 - i) (by omega) (by omega) (by omega) (by omega) (by rw [hzb]; omega) (by rw [hzb, show i + (n + 1 - i) = n + 1 by omega]; exact growslice_fits (by omega) (by omega))
  rw [show i + (n + 1 - i) = n + 1 by omega] at hrz
  obtain ⟨G, hG⟩ : ∃ G, G = grownCap w (n + 1) c 34 := ⟨_, rfl⟩
  have hGn : n + 1 ≤ G := by rw [hG]; exact grownCap_ge w _ _ _
  have hG63 : G ≤ maxLen := by rw [hG]; exact grownCap_le_maxLen w (n + 1) c 34 (by unfold maxLen; omega)
  have hG63' : G ≤ 9223372036854775807 := by unfold maxLen at hG63; omega
  rw [← hG] at hrz
  obtain ⟨Z, hZ⟩ : ∃ Z : Array Value, Z = Builtin.zeroCells (Value.cells (.agg #[.int .i64 0, .string ⟨#[]⟩, .int .i64 0, .string ⟨#[]⟩, .int .i64 0, .slice none 0 0])) (n + 1 - i) := ⟨_, rfl⟩
  obtain ⟨D, hD⟩ : ∃ D : Array Value, D = Builtin.zeroCells (Value.cells (.agg #[.int .i64 0, .string ⟨#[]⟩, .int .i64 0, .string ⟨#[]⟩, .int .i64 0, .slice none 0 0])) (G - (n + 1)) := ⟨_, rfl⟩
  have hZl : Z.toList.length = (n + 1 - i) * 6 := by rw [hZ, Array.length_toList, size_zeroCells]; rfl
  have hDl : D.toList.length = (G - (n + 1)) * 6 := by rw [hD, Array.length_toList, size_zeroCells]; rfl
  rw [← hZ, ← hD] at hrz
  obtain ⟨R0, hR0⟩ : ∃ R0, R0 = cur.take (i * 6) ++ Z.toList ++ D.toList := ⟨_, rfl⟩
  have hR0a : (cur.take (i * 6)).toArray ++ Z ++ D = R0.toArray := by rw [hR0]; apply Array.ext'; simp
  rw [hR0a] at hrz
  have hR0l : R0.length = G * 6 := by rw [hR0, List.length_append, List.length_append, hAl, hZl, hDl]; omega
  obtain ⟨W1, hW1⟩ : ∃ W1, W1 = w.drew.alloc (.cells R0.toArray 34) := ⟨_, rfl⟩
  have hW1n : W1.heap[w.heap.size]? = some (.cells R0.toArray 34 (0, 0)) := by rw [hW1]; exact heap_alloc_new w.drew _
  have hW1o : ∀ k, k < w.heap.size → W1.heap[k]? = w.heap[k]? := fun k hk => by rw [hW1]; exact heap_alloc_old w.drew _ hk
  have hcA : ∀ (W : World), W.heap = W1.heap → ∀ ty dc, (Builtin.copy_ #[22, 22] ty #[.slice (some ⟨w.heap.size, i * 6, none⟩) (n + 1 - i) dc, .slice (some ⟨b2, 0, none⟩) 1 1]).run Try.prog W = .ok (goInt ((1 : Nat) : Int)) (W.setRow w.heap.size (over R0 (i * 6) x).toArray) := fun W hW ty dc =>
    run_copy_at W 22 22 ty 34 6 w.heap.size (i * 6) (n + 1 - i) dc ⟨b2, 0, none⟩ 1 1 R0 34 x 1 Try.underlying22 hsz (by rw [hW]; exact hW1n) (by simp only [Nat.min_def]; split <;> omega) (by rw [hx])
      (fun j u hj => by
        rw [Addr.add_lit, Nat.zero_add, cell_of_row W b2 j x.toArray 34 (0, 0) (by rw [hW, hW1o b2 hbw]; exact hb2), ← hj]
        simp) (by rw [hR0l]; omega) h1x
  have hcB : ∀ (W : World), W.heap = (W1.setRow w.heap.size (over R0 (i * 6) x).toArray).heap → ∀ ty dc sc, (Builtin.copy_ #[22, 22] ty #[.slice (some ⟨w.heap.size, (i + 1) * 6, none⟩) (n - i) dc, .slice (some ⟨g, i * 6, none⟩) (n - i) sc]).run Try.prog W = .ok (goInt ((n - i : Nat) : Int)) (W.setRow w.heap.size (over (over R0 (i * 6) x) ((i + 1) * 6) (cur.drop (i * 6))).toArray) := fun W hW ty dc sc =>
    run_copy_at W 22 22 ty 34 6 w.heap.size ((i + 1) * 6) (n - i) dc ⟨g, i * 6, none⟩ (n - i) sc (over R0 (i * 6) x) 34 (cur.drop (i * 6)) (n - i) Try.underlying22 hsz (by rw [hW]; exact setRow_heap W1 _ _ _ 34 _ hW1n) (by simp) hTl
      (fun j u hj => by
        rw [Addr.add_lit, cell_of_row W g _ cur.toArray 34 (0, 0) (by rw [hW, setRow_other W1 _ g _ (by omega), hW1o g hgw]; exact hg), ← hj, List.getElem?_drop]
        simp) (by rw [over_length _ _ _ (by rw [hR0l]; omega)]; omega) (fun u hu => h1 u (List.mem_of_mem_drop hu))
  have hfin : over (over R0 (i * 6) x) ((i + 1) * 6) (cur.drop (i * 6)) = cur.take (i * 6) ++ x ++ cur.drop (i * 6) ++ D.toList := by
    rw [hR0, show (i + 1) * 6 = i * 6 + 6 by omega]
    exact over_filled _ _ _ _ _ _ _ hAl hx (by rw [hZl, hTl]; omega)
  obtain ⟨R1, hR1⟩ : ∃ R1, R1 = over R0 (i * 6) x := ⟨_, rfl⟩
  rw [← hR1] at hcA hcB hfin
  obtain ⟨R2, hR2⟩ : ∃ R2, R2 = over R1 ((i + 1) * 6) (cur.drop (i * 6)) := ⟨_, rfl⟩
  rw [← hR2] at hcB hfin
  have hxl : (cur.take (i * 6) ++ x ++ cur.drop (i * 6)).length = (n + 1) * 6 := by rw [List.length_append, List.length_append, hAl, hTl, hx]; omega
  have hR2l : R2.length = G * 6 := by rw [hfin, List.length_append, hxl, hDl]; omega
  have hR2t : R2.take ((n + 1) * 6) = cur.take (i * 6) ++ x ++ cur.drop (i * 6) := by rw [hfin, ← hxl, List.take_left]
  have hw1 : IntKind.i64.wrap ((i : Int) + 1) = (i : Int) + 1 := by rw [IntKind.wrap_i64]; omega
  have hw2 : IntKind.i64.wrap ((n : Int) + 1) = (n : Int) + 1 := by rw [IntKind.wrap_i64]; omega
  have hw3 : IntKind.i64.wrap ((n : Int) + 1 - (i : Int)) = ((n + 1 - i : Nat) : Int) := by rw [IntKind.wrap_i64]; omega
  have hb1 : (0 : Int) ≤ (i : Int) + 1 := by omega
  have hb3 : (i : Int) ≤ (n : Int) + 1 := by omega
  have hin : i ≤ n := by omega
  have hz2 : ¬ ((i : Int) = (n : Int)) := by omega
  have hz3 : (c : Int) < (n : Int) + 1 := by omega
  have htn : ((i : Int) + 1).toNat = i + 1 := by omega
  have hGi : ¬ (G = i) := by omega
  have hGi1 : ¬ (G = i + 1) := by omega
  have hci : ¬ (c = i) := by omega
  have mixed : Try.prog.follows Departure.mixedOrders = true := by kernel_rfl
  rw [← hW1] at hrz
  have hcA0 := hcA W1 rfl 3 (G - i)
  have hcB0 := hcB (W1.setRow w.heap.size R1.toArray).drew rfl 3 (G - (i + 1)) (c - i)
  have hRZ := Lib.hid hrz
  have HW1 := Lib.hid hW1
  have HW1n := Lib.hid hW1n
  have HW1o := Lib.hid hW1o
  clear hR1 hR2 hR0 hR0a hG hZ hD htake hrz hW1 hW1n hW1o hfin hcA hcB hg hb2
  go_enter Try.func49, Try.ntmps49
  go_wp2_with (first
    | (at_builtin; refine Lib.wpList_append_run _ rfl _ _ _ _ rfl _ _ rfl rfl _ _ hRZ.out ?_)
    | (at_builtin; refine wpList_copy_runI _ rfl _ _ 22 22 rfl _ _ rfl rfl hcA0 ?_))
  go_region_law_o (refine step_copy_runI rfl _ _ 22 22 rfl (.slice (some ⟨w.heap.size, (i + 1) * 6, none⟩) (n - i) (G - (i + 1))) (.slice (some ⟨g, i * 6, none⟩) (n - i) (c - i)) (by simp [Act.eval, Act.put]) (by simp [Act.eval, Act.put]) hcB0 ?_)
  go_wp2
  go_ret
  have hsz1 : W1.heap.size = w.heap.size + 1 := by rw [HW1.out]; simp
  have hgr : w.grownBy W1 (some g) := by rw [HW1.out]; exact ⟨rfl, rfl, rfl, by simp, fun k hk _ => heap_alloc_old w.drew _ hk⟩
  refine ⟨_, rfl, ⟨hxl, .inr ⟨w.heap.size, G, R2.toArray, rfl, hB, ?_, hGn, hG63, by simpa using hR2l, by simpa using hR2t⟩⟩, ?_, .inr ⟨_, rfl, Nat.le_refl _⟩⟩
  · exact setRow_heap _ _ _ _ 34 _ (setRow_heap W1 _ _ _ 34 _ HW1n.out)
  · exact grown_new (grown_drew (grown_new hgr (Nat.le_refl _) _)) (Nat.le_refl _) _
theorem insert34 (v : Value) (n i : Nat) (xs x : List Value) (b2 : Nat) (w : World) (B : Nat) (hB : B ≤ w.heap.size) (hown : w.ownsRow B 34 6 v n xs) (hi : i ≤ n) (hn : n ≤ 8388608) (h1 : ∀ u ∈ xs, u.oneCell' = true)
    (hb2 : w.heap[b2]? = some (.cells x.toArray 34 (0, 0))) (hx : x.length = 6) (h1x : ∀ u ∈ x, u.oneCell' = true) (hne : some b2 ≠ v.ownBlock) :
    Calls Try.prog 49 #[v, .int .i64 i, .slice (some ⟨b2, 0, none⟩) 1 1] w (Ins34 w B v n i xs x) := by
  by_cases he : i = n
  · subst he
    exact ins_end34 v i xs x b2 w B hB hown hn hb2 hx h1x
  · rcases hown.2 with ⟨rfl, rfl⟩ | ⟨g, cap, cur, rfl, hbg, hg, hnc, hcm, hcs, htake⟩
    · omega
    · have hne' : b2 ≠ g := fun e => hne (by rw [e]; rfl)
      have hg' : w.heap[g]? = some (.cells cur.toList.toArray 34 (0, 0)) := by simpa using hg
      by_cases hroom : n + 1 ≤ cap
      · exact ins_shift34 g n cap i xs cur.toList x b2 w B hbg hg' (by omega) hroom (by simpa only [maxLen] using hcm) (by simpa using hcs) htake hn h1 hb2 hx h1x hne'
      · exact ins_grow34 g n cap i xs cur.toList x b2 w B hB hbg hg' (by omega) hnc (by omega) (by simpa using hcs) htake hn h1 hb2 hx h1x hne'
end
section
open Go.RowKit Go.Proofs.YthfolhgaecfogaaW.PrintWords Go.Proofs.YthfolhgaecfogaaW.PrintLast Go.Proofs.YthfolhgaecfogaaW.PrintMore
theorem run_clear_at34 (w : World) (ty : TypeId) (g off c : Nat) (cur : List Value) (hg : w.heap[g]? = some (.cells cur.toArray 34 (0, 0))) (hfit : off + 6 ≤ cur.length) :
    (Builtin.clear_ #[22] ty #[.slice (some ⟨g, off, none⟩) 1 c]).run Try.prog w = .ok (.tuple #[]) (w.setRow g (over cur off (Value.cells (.agg #[.int .i64 0, .string ⟨#[]⟩, .int .i64 0, .string ⟨#[]⟩, .int .i64 0, .slice none 0 0])).toList).toArray) := by
  obtain ⟨i0, hi0, hzz⟩ := Option.map_eq_some_iff.1 info34
  simp only [Prod.mk.injEq] at hzz
  obtain ⟨hz0, hzs, hzb⟩ := hzz
  have hv : (zeroValue 34).run Try.prog w = .ok (.agg #[.int .i64 0, .string ⟨#[]⟩, .int .i64 0, .string ⟨#[]⟩, .int .i64 0, .slice none 0 0]) w := by simp [zeroValue, typeInfo, hi0, hz0]
  have hzc : (Builtin.zeroCells (Value.cells (.agg #[.int .i64 0, .string ⟨#[]⟩, .int .i64 0, .string ⟨#[]⟩, .int .i64 0, .slice none 0 0])) 1).toList = (Value.cells (.agg #[.int .i64 0, .string ⟨#[]⟩, .int .i64 0, .string ⟨#[]⟩, .int .i64 0, .slice none 0 0])).toList := by kernel_rfl
  have hst := run_storeCells_at Try.prog g off 34 (Value.cells (.agg #[.int .i64 0, .string ⟨#[]⟩, .int .i64 0, .string ⟨#[]⟩, .int .i64 0, .slice none 0 0])).toList 0 cur.toArray w hg (by simp only [Nat.add_zero]; exact hfit) (by decide)
  simp only [Nat.add_zero] at hst
  obtain ⟨Zc, hZc⟩ : ∃ Zc, Zc = (Value.cells (.agg #[.int .i64 0, .string ⟨#[]⟩, .int .i64 0, .string ⟨#[]⟩, .int .i64 0, .slice none 0 0])).toList := ⟨_, rfl⟩
  rw [← hZc] at hst hzc ⊢
  simp [Builtin.clear_, run_underlying Try.underlying22, hv, hzc, hst, over]
set_option maxRecDepth 100000 in
set_option maxHeartbeats 1000000 in
theorem delete34 (v : Value) (n i : Nat) (xs : List Value) (w : World) (B : Nat) (hown : w.ownsRow B 34 6 v n xs) (hi : i < n) (hn : n ≤ 8388608) (h1 : ∀ u ∈ xs, u.oneCell' = true) :
    Calls Try.prog 63 #[v, .int .i64 i, .int .i64 ((i : Int) + 1)] w fun e w' => ∃ v', e = .returned v' ∧ w'.ownsRow B 34 6 v' (n - 1) (xs.take (i * 6) ++ xs.drop ((i + 1) * 6)) ∧ w.grownBy w' v.ownBlock ∧ v'.ownBlock = v.ownBlock := by
  rcases hown.2 with ⟨rfl, rfl⟩ | ⟨g, c, cura, rfl, hbg, hg0, hnc, hcm0, hcs0, htake⟩
  · omega
  obtain ⟨cur, hcur⟩ : ∃ cur, cur = cura.toList := ⟨_, rfl⟩
  have hg : w.heap[g]? = some (.cells cur.toArray 34 (0, 0)) := by rw [hcur]; simpa using hg0
  have hcs : cur.length = c * 6 := by rw [hcur]; simpa using hcs0
  rw [← hcur] at htake
  have hcm : c ≤ 9223372036854775807 := by simpa only [maxLen] using hcm0
  obtain ⟨i0, hi0, hzz⟩ := Option.map_eq_some_iff.1 info34
  simp only [Prod.mk.injEq] at hzz
  obtain ⟨hz0, hzs, hzb⟩ := hzz
  have hxl : xs.length = n * 6 := hown.1
  obtain ⟨T, hT⟩ : ∃ T, T = xs.drop ((i + 1) * 6) := ⟨_, rfl⟩
  have hTl : T.length = (n - (i + 1)) * 6 := by rw [hT, List.length_drop]; omega
  have hT1 : ∀ u ∈ T, u.oneCell' = true := fun u hu => h1 u (by rw [hT] at hu; exact List.mem_of_mem_drop hu)
  have hcn1 : n * 6 ≤ cur.length := by rw [hcs]; exact Nat.mul_le_mul_right _ hnc
  have hsrc : ∀ (ad : Addr), (ad = ⟨g, (i + 1) * 6, none⟩ ∨ T = []) → ∀ j u, T[j]? = some u → w.drew.cell? (ad.add j) = some u := by
    intro ad had j u hj
    have hjl : j < T.length := (List.getElem?_eq_some_iff.1 hj).1
    rcases had with rfl | h0
    · rw [Addr.add_lit]
      show w.cell? ⟨g, _, none⟩ = _
      rw [cell_of_row w g _ cur.toArray 34 (0, 0) hg, ← hj, hT, ← htake, List.getElem?_drop, List.getElem?_take, if_pos (by omega)]
      simp
    · rw [h0] at hjl; simp at hjl
  obtain ⟨R1, hR1⟩ : ∃ R1, R1 = over cur (i * 6) T := ⟨_, rfl⟩
  have hA : ∀ (ad : Addr), (ad = ⟨g, (i + 1) * 6, none⟩ ∨ T = []) → ∀ ty c2, (Builtin.append_ #[22, 22] ty #[.slice (some ⟨g, 0, none⟩) i c, .slice (some ad) (n - (i + 1)) c2]).run Try.prog w.drew = .ok (.slice (some ⟨g, 0, none⟩) (n - 1) c) (w.drew.setRow g R1.toArray) := by
    intro ad had ty c2
    have h := run_append_room (P := Try.prog) w.drew 22 ty 34 i0 Try.underlying22 hi0 g i c cur.toArray hg ad (n - (i + 1)) c2 T (by rw [hzs]; exact hTl) (hsrc ad had) hT1 (by omega) (by rw [hzs]; simp; omega)
    rw [hzs, show i + (n - (i + 1)) = n - 1 by omega] at h
    rw [h, hR1]
    rfl
  have hR1l : R1.length = c * 6 := by rw [hR1, over_length _ _ _ (by omega), hcs]
  have hR1t : R1.take ((n - 1) * 6) = xs.take (i * 6) ++ T := by
    have e : cur.take (i * 6) = xs.take (i * 6) := by rw [← htake, List.take_take, Nat.min_eq_left (by omega)]
    rw [hR1]
    unfold over
    rw [e, List.take_append_of_le_length (by simp; omega)]
    exact List.take_of_length_le (by simp; omega)
  have hC : ∀ (W : World), W.heap = (w.drew.setRow g R1.toArray).heap → ∀ ty c2, (Builtin.clear_ #[22] ty #[.slice (some ⟨g, (n - 1) * 6, none⟩) 1 c2]).run Try.prog W = .ok (.tuple #[]) (W.setRow g (over R1 ((n - 1) * 6) (Value.cells (.agg #[.int .i64 0, .string ⟨#[]⟩, .int .i64 0, .string ⟨#[]⟩, .int .i64 0, .slice none 0 0])).toList).toArray) := fun W hW ty c2 =>
    run_clear_at34 W ty g ((n - 1) * 6) c2 R1 (by rw [hW]; exact setRow_heap _ g _ _ 34 _ hg) (by omega)
  obtain ⟨R2, hR2⟩ : ∃ R2, R2 = over R1 ((n - 1) * 6) (Value.cells (.agg #[.int .i64 0, .string ⟨#[]⟩, .int .i64 0, .string ⟨#[]⟩, .int .i64 0, .slice none 0 0])).toList := ⟨_, rfl⟩
  have hzl : (Value.cells (.agg #[.int .i64 0, .string ⟨#[]⟩, .int .i64 0, .string ⟨#[]⟩, .int .i64 0, .slice none 0 0])).toList.length = 6 := by rfl
  have hR2l : R2.length = c * 6 := by rw [hR2, over_length _ _ _ (by rw [hzl]; omega), hR1l]
  have hR2t : R2.take ((n - 1) * 6) = xs.take (i * 6) ++ T := by rw [hR2, take_over _ _ _ _ (by rw [hzl]; omega) (Nat.le_refl _), hR1t]
  rw [← hR2] at hC
  have hfl : (xs.take (i * 6) ++ T).length = (n - 1) * 6 := by rw [List.length_append, List.length_take, hTl, hxl]; omega
  rw [← hT]
  have hw1 : (i : Int) ≤ (i : Int) + 1 := by omega
  have hb1 : (0 : Int) ≤ (i : Int) + 1 := by omega
  have hin : i ≤ n := by omega
  have hin1 : i + 1 ≤ n := by omega
  have hin2 : (i : Int) + 1 ≤ (n : Int) := by omega
  have hnc' : (n : Int) ≤ (c : Int) := by omega
  have htn : ((i : Int) + 1).toNat = i + 1 := by omega
  have hz2 : ¬ ((i : Int) = (i : Int) + 1) := by omega
  have hz2' : ((i : Int) == (i : Int) + 1) = false := by simp; omega
  have hci : ¬ (c = i) := by omega
  have hic : i ≤ c := by omega
  have hic' : (i : Int) ≤ (c : Int) := by omega
  have hcn : ¬ (c = n - 1) := by omega
  have hnn : n - 1 ≤ n := by omega
  have hn11 : n - (n - 1) = 1 := by omega
  have mixed : Try.prog.follows Departure.mixedOrders = true := by kernel_rfl
  have HG := Lib.hid hg
  by_cases hce : c = i + 1
  · have hT0 : T = [] := List.eq_nil_of_length_eq_zero (by rw [hTl]; omega)
    obtain rfl : n = i + 1 := by omega
    subst hce
    have hA0 := hA ⟨g, 0, none⟩ (.inr hT0) 22 0
    have hC0 := hC (w.drew.setRow g R1.toArray) rfl
    simp only [Nat.add_sub_cancel, Nat.sub_self] at *
    clear hg hg0 hA hC hT hR1 hR2 hcur htake hcs hcs0 hsrc hz0 hzs hzb
    go_enter Try.func63, Try.ntmps63
    go_wp2
    go_region_law_o (refine step_append_runI rfl _ _ 22 22 rfl (.slice (some ⟨g, 0, none⟩) i (i + 1)) (.slice (some ⟨g, 0, none⟩) 0 0) (by simp [Act.eval, Act.put]) (by simp [Act.eval, Act.put]) hA0 ?_)
    go_wp2
    go_ret
    exact ⟨_, rfl, ⟨hfl, .inr ⟨g, i + 1, R2.toArray, rfl, hbg, setRow_heap _ g _ _ 34 _ (setRow_heap _ g _ _ 34 _ HG.out), by omega, hcm0, by simpa using hR2l, by simpa using hR2t⟩⟩, grown_setRow (grown_setRow (grown_drew (grown_refl _ _)) _) _, rfl⟩
  · have hA0 := hA ⟨g, (i + 1) * 6, none⟩ (.inl rfl) 22 (c - (i + 1))
    have hC0 := hC (w.drew.setRow g R1.toArray) rfl
    clear hg hg0 hA hC hT hR1 hR2 hcur htake hcs hcs0 hsrc hz0 hzs hzb
    go_enter Try.func63, Try.ntmps63
    go_wp2
    go_region_law_o (refine step_append_runI rfl _ _ 22 22 rfl (.slice (some ⟨g, 0, none⟩) i c) (.slice (some ⟨g, (i + 1) * 6, none⟩) (n - (i + 1)) (c - (i + 1))) (by simp [Act.eval, Act.put]) (by simp [Act.eval, Act.put]) hA0 ?_)
    go_wp2
    go_ret
    exact ⟨_, rfl, ⟨hfl, .inr ⟨g, c, R2.toArray, rfl, hbg, setRow_heap _ g _ _ 34 _ (setRow_heap _ g _ _ 34 _ HG.out), by omega, hcm0, by simpa using hR2l, by simpa using hR2t⟩⟩, grown_setRow (grown_setRow (grown_drew (grown_refl _ _)) _) _, rfl⟩
end
section
open Go.RowKit Go.Proofs.YthfolhgaecfogaaW.PrintWords Go.Proofs.YthfolhgaecfogaaW.PrintLast Go.Proofs.YthfolhgaecfogaaW.PrintMore
theorem M_moved {α : Type} {d : Kd α} {w w' : World} {B : Nat} {r r' : Option Nat} {x : α} {c : List Value} (h : d.M w B (fun k => True ∧ some k ≠ r) x c) (hg : w.grownBy w' r) (hat : r' = r ∨ ∃ b, r' = some b ∧ w.heap.size ≤ b) :
    d.M w' B (fun k => True ∧ some k ≠ r') x c := by
  refine d.M_mono (fun k hk => ⟨trivial, ?_⟩) (d.M_move (w1 := w') (fun k hk => hg.block k hk.2.2.1 hk.1.2) (d.M_bound h))
  rcases hat with rfl | ⟨b, rfl, hb⟩
  · exact hk.1.2
  · intro he
    injection he with he
    have := hk.2.2.1
    omega
theorem R_rebuilt {α : Type} {d : Kd α} {e : Nat} {w w' : World} {B : Nat} {v v' : Value} {ys : List α} {cs : List Value} (hr : Reps (d.M w B (fun k => True ∧ some k ≠ v.ownBlock)) d.sz ys cs) (ho : w'.ownsRow B e d.sz v' ys.length cs) (hg : w.grownBy w' v.ownBlock) (hat : v'.ownBlock = v.ownBlock ∨ ∃ b, v'.ownBlock = some b ∧ w.heap.size ≤ b) :
    d.R e w' B (fun _ => True) v' ys :=
  ⟨fun _ _ => trivial, cs, ho, hr.imp_ (fun _ _ hp => M_moved hp hg hat)⟩
theorem reps_one_ {α : Type} {R : α → List Value → Prop} {sz : Nat} {x : α} {c : List Value} (h : R x c) (hl : c.length = sz) : Reps R sz [x] c := by
  have := Reps.snoc (Reps.none R sz) h hl
  simpa using this
theorem insert_any34 (v : Value) (xs : List S34) (i : Nat) (x : S34) (cs : List Value) (okx : Nat → Prop) (b2 : Nat) (w : World) (B : Nat) (hB : B ≤ w.heap.size) (hR : Kd.R k34 34 w B (fun _ => True) v xs) (hi : i ≤ xs.length) (hn : xs.length ≤ 8388608)
    (hM : k34.M w B okx x cs) (hx : ∀ k, okx k → True ∧ some k ≠ v.ownBlock) (hb2 : w.heap[b2]? = some (.cells cs.toArray 34 (0, 0))) (hne : some b2 ≠ v.ownBlock) :
    Calls Try.prog 49 #[v, .int .i64 i, .slice (some ⟨b2, 0, none⟩) 1 1] w fun e w' => ∃ v', e = .returned v' ∧ Kd.R k34 34 w' B (fun _ => True) v' (xs.take i ++ [x] ++ xs.drop i) ∧ w.grownBy w' v.ownBlock := by
  obtain ⟨h0, inner, hown, hr⟩ := hR
  have hone := Kd.reps_one hr (by decide) (fun _ _ hp => k34.K_one (k34.K_of_M hp))
  have hcl : cs.length = 6 := k34.K_len (k34.K_of_M hM)
  refine (insert34 v xs.length i inner cs b2 w B hB hown hi hn hone hb2 hcl (k34.K_one (k34.K_of_M hM)) hne).mono ?_
  rintro e w' ⟨v', rfl, ho, hg, hat⟩
  refine ⟨v', rfl, R_rebuilt (cs := inner.take (i * 6) ++ cs ++ inner.drop (i * 6)) ?_ ?_ hg hat, hg⟩
  · exact Kd.reps_append (Kd.reps_append (Kd.reps_take (m := i) hr hi) (reps_one_ (k34.M_mono hx hM) hcl)) (Kd.reps_drop (m := i) hr)
  · have : (xs.take i ++ [x] ++ xs.drop i).length = xs.length + 1 := by simp; omega
    rw [this]; exact ho
theorem delete_any34 (v : Value) (xs : List S34) (i : Nat) (w : World) (B : Nat) (hR : Kd.R k34 34 w B (fun _ => True) v xs) (hi : i < xs.length) (hn : xs.length ≤ 8388608) :
    Calls Try.prog 63 #[v, .int .i64 i, .int .i64 ((i : Int) + 1)] w fun e w' => ∃ v', e = .returned v' ∧ Kd.R k34 34 w' B (fun _ => True) v' (xs.take i ++ xs.drop (i + 1)) ∧ w.grownBy w' v.ownBlock := by
  obtain ⟨h0, inner, hown, hr⟩ := hR
  have hone := Kd.reps_one hr (by decide) (fun _ _ hp => k34.K_one (k34.K_of_M hp))
  refine (delete34 v xs.length i inner w B hown hi hn hone).mono ?_
  rintro e w' ⟨v', rfl, ho, hg, hat⟩
  refine ⟨v', rfl, R_rebuilt (cs := inner.take (i * 6) ++ inner.drop ((i + 1) * 6)) ?_ ?_ hg (.inl hat), hg⟩
  · exact Kd.reps_append (Kd.reps_take (m := i) hr (by omega)) (Kd.reps_drop (m := i + 1) hr)
  · have : (xs.take i ++ xs.drop (i + 1)).length = xs.length - 1 := by simp; omega
    rw [this]; exact ho
end
section
open Go.RowKit Go.Proofs.YthfolhgaecfogaaW.PrintWords Go.Proofs.YthfolhgaecfogaaW.PrintLast Go.Proofs.YthfolhgaecfogaaW.PrintMore
def addCode (l : List S34) (h : S34) : Int := if !tableMay l then 1 else if !hostMay h then 1 else if hereK (l.map keyOf) (keyOf h) then 3 else if l.length = 64 then 6 else 0
def addAt (l : List S34) (h : S34) : Nat := posK (l.map keyOf) (keyOf h)
def addList (l : List S34) (h : S34) : List S34 := if addCode l h = 0 then l.take (addAt l h) ++ [h] ++ l.drop (addAt l h) else []
theorem posK_le (l : List S82) (k : S82) : posK l k ≤ l.length := by unfold posK; exact (List.takeWhile_sublist _).length_le
theorem addAt_le (l : List S34) (h : S34) : addAt l h ≤ l.length := by have := posK_le (l.map keyOf) (keyOf h); rwa [List.length_map] at this
theorem sorted_keys {l : List S34} (h : tableMay l = true) : Sorted82 (l.map keyOf) := by
  have hr : risesB l = true := by simp only [tableMay, Bool.and_eq_true] at h; exact h.1.2
  have hs : ∀ i, i + 1 < l.length → (l.getD i z34).f0 < (l.getD (i + 1) z34).f0 := fun i hi => by
    have := List.all_eq_true.1 hr i (List.mem_range.2 (by omega))
    simpa [riseAt] using this
  have hlt : ∀ d i, i + d + 1 < l.length → (l.getD i z34).f0 < (l.getD (i + d + 1) z34).f0 := by
    intro d
    induction d with
    | zero => exact fun i hi => hs i hi
    | succ d ih => exact fun i hi => Int.lt_trans (ih i (by omega)) (hs (i + d + 1) hi)
  intro i j hi hj hij
  rw [List.length_map] at hi hj
  have h1 := hlt (j - i - 1) i (by omega)
  rw [show i + (j - i - 1) + 1 = j by omega] at h1
  rw [lessK_iff]
  left
  rw [List.getElem_map, List.getElem_map]
  show l[i].f0 < l[j].f0
  rwa [List.getD_eq_getElem?_getD, List.getD_eq_getElem?_getD, List.getElem?_eq_getElem hi, List.getElem?_eq_getElem hj] at h1
theorem Ext_grown {w0 w w' : World} {v : Value} {B : Nat} {α : Type} {d : Kd α} {e : Nat} {ok : Nat → Prop} {l : List α} (h : Below B w0 w) (hB : B ≤ w.heap.size) (hR : Kd.R d e w B ok v l) (hg : w.grownBy w' v.ownBlock) : Below B w0 w' :=
  h.grown hg hB (Kd.R_base hR)
theorem add_step (w w4 w5 w6 : World) (l : List S34) (h : S34) (v5 : Value) (A6 : Option Addr) (c6 p : Nat) (hX : Ext w w4) (hN5 : New k34 34 w4.drew w5 v5 l) (hb5 : Ext w4.drew w5) (hN6 : New k77 77 w5 w6 (.slice A6 h.f5.length c6) h.f5) (hb6 : Ext w5 w6) (hp : p ≤ l.length) (hl : l.length ≤ 8388608) :
    Calls Try.prog 49 #[v5, .int .i64 p, .slice (some ⟨w6.heap.size, 0, none⟩) 1 1] (w6.alloc (.cells #[.int .i64 h.f0, .string h.f1, .int .i64 h.f2, .string h.f3, .int .i64 h.f4, .slice A6 h.f5.length c6] 34))
      fun e w' => ∃ v, e = .returned v ∧ New k34 34 w w' v (l.take p ++ [h] ++ l.drop p) ∧ Ext w w' ∧ Ext w4 w' := by
  obtain ⟨al, hal⟩ : ∃ al : Obj, al = .cells #[.int .i64 h.f0, .string h.f1, .int .i64 h.f2, .string h.f3, .int .i64 h.f4, .slice A6 h.f5.length c6] 34 := ⟨_, rfl⟩
  have h45 : w4.heap.size ≤ w5.heap.size := hb5.size
  have h56 : w5.heap.size ≤ w6.heap.size := hb6.size
  have hs : (w6.alloc al).heap.size = w6.heap.size + 1 := by simp
  have hxs := hX.size
  have hR5 : Kd.R k34 34 (w6.alloc al) w4.heap.size (fun _ => True) v5 l := Kd.R_alloc (Kd.R_below hN5 hb6) _
  have hR6 : Kd.R k77 77 (w6.alloc al) w5.heap.size (fun _ => True) (.slice A6 h.f5.length c6) h.f5 := Kd.R_alloc hN6 _
  have hM := hostMem (base := w4.heap.size) hR6 h45
  have hap := apart_of hN5 (Nat.le_refl w5.heap.size)
  have hB : Ext w4 (w6.alloc al) := Ext.tr (Ext.tr (show Ext w4 w5 from (Below.drew (Below.refl _ _)).trans hb5) hb6) (ext_alloc _ _)
  rw [← hal]
  refine (insert_any34 v5 l p h _ _ w6.heap.size (w6.alloc al) w4.heap.size (by omega) hR5 hp hl hM hap (by rw [hal]; exact heap_alloc_new w6 _) (fun e => by have := Kd.R_lt hN5 w6.heap.size e.symm; omega)).mono ?_
  rintro e w' ⟨v, rfl, hR, hg⟩
  have hE : Ext w4 w' := Ext_grown hB (by omega) hR5 hg
  exact ⟨v, rfl, Kd.R_lower hR hxs, Ext.tr hX hE, hE⟩
set_option maxRecDepth 100000 in
set_option maxHeartbeats 2000000 in
theorem add_any (A : Option Addr) (c : Nat) (l : List S34) (h : S34) (A5 : Option Addr) (c5 : Nat) (w : World) (hC : Kd.C k34 w A l.length l) (hc : l.length ≤ c) (hn : l.length ≤ 4194304) (hl : ∀ h ∈ l, hostOk h) (hl5 : ∀ h ∈ l, h.f5.length ≤ 4194304)
    (hC5 : Kd.C k77 w A5 h.f5.length h.f5) (hc5 : h.f5.length ≤ c5) (hok : hostOk h) (hm5 : h.f5.length ≤ 4194304) :
    Calls Try.prog 17 #[.slice A l.length c, vHost h A5 c5] w fun e w' => ∃ v, e = .returned (.tuple #[v, .int .i64 (addCode l h)]) ∧ New k34 34 w w' v (addList l h) ∧ Ext w w' := by
  have hu34 := Try.underlying34
  have hu82 := Try.underlying82
  have HC := Lib.hid hC
  have HC5 := Lib.hid hC5
  clear hC hC5
  have hx0 := Lib.hid (ext_alloc w (.cells #[.int .i64 h.f0, .string h.f1, .int .i64 h.f2, .string h.f3, .int .i64 h.f4, .slice A5 h.f5.length c5] 34))
  have hbx := Lib.hid (show Box34 (w.alloc (.cells #[.int .i64 h.f0, .string h.f1, .int .i64 h.f2, .string h.f3, .int .i64 h.f4, .slice A5 h.f5.length c5] 34)) w.heap.size h A5 c5 from heap_alloc_new w _)
  unfold vHost
  cases h1 : tableMay l
  · have hr : Hid (addCode l h = 1) := by show _ = _; simp [addCode, h1]
    have hr2 : Hid (addList l h = []) := by show _ = _; unfold addList; rw [hr.out]; rfl
    go_enter Try.func17, Try.ntmps17
    go_wp2_with fail
    refine (may_any A c l _ (Kd.C_below HC.out hx0.out) hc hn hl).mono ?_
    rintro e w1 ⟨rfl, hb1⟩
    rw [h1]
    go_wp2
    go_ret2
    refine ⟨_, by rw [hr.out]; rfl, by rw [hr2.out]; exact Kd.R_nil _ _ _ _ _, Ext.tr hx0.out hb1⟩
  · have hs := Lib.hid (sorted_keys h1)
    cases h2 : hostMay h
    · have hr : Hid (addCode l h = 1) := by show _ = _; simp [addCode, h1, h2]
      have hr2 : Hid (addList l h = []) := by show _ = _; unfold addList; rw [hr.out]; rfl
      go_enter Try.func17, Try.ntmps17
      go_wp2_with fail
      refine (may_any A c l _ (Kd.C_below HC.out hx0.out) hc hn hl).mono ?_
      rintro e w1 ⟨rfl, hb1⟩
      rw [h1]
      have q := Box34.cells (Box34.ext hbx.out hb1)
      obtain ⟨q0, q1, q2, q3, q4, q5⟩ := q
      go_wp2_with fail
      refine (hostMay_any h A5 c5 w1 (Kd.C_below HC5.out (Ext.tr hx0.out hb1)) hc5 hok).mono ?_
      rintro e w2 ⟨rfl, hb2⟩
      rw [h2]
      go_wp2
      go_ret2
      refine ⟨_, by rw [hr.out]; rfl, by rw [hr2.out]; exact Kd.R_nil _ _ _ _ _, Ext.tr hx0.out (Ext.tr hb1 hb2)⟩
    · have hl64 : l.length ≤ 64 := by
        simp only [tableMay, Bool.and_eq_true, decide_eq_true_eq] at h1
        exact h1.1.1
      cases h3 : hereK (l.map keyOf) (keyOf h)
      · by_cases h4 : l.length = 64
        · have hr : Hid (addCode l h = 6) := by show _ = _; simp [addCode, h1, h2, h3, h4]
          have hr2 : Hid (addList l h = []) := by show _ = _; unfold addList; rw [hr.out]; rfl
          have H4 := Lib.hid h4
          clear h4
          go_enter Try.func17, Try.ntmps17
          go_wp2_with fail
          refine (may_any A c l _ (Kd.C_below HC.out hx0.out) hc hn hl).mono ?_
          rintro e w1 ⟨rfl, hb1⟩
          rw [h1]
          have q := Box34.cells (Box34.ext hbx.out hb1)
          obtain ⟨q0, q1, q2, q3, q4, q5⟩ := q
          go_wp2_with fail
          refine (hostMay_any h A5 c5 w1 (Kd.C_below HC5.out (Ext.tr hx0.out hb1)) hc5 hok).mono ?_
          rintro e w2 ⟨rfl, hb2⟩
          rw [h2]
          have hB2 : Hid (Box34 w2 w.heap.size h A5 c5) := Box34.ext (Box34.ext hbx.out hb1) hb2
          have hX2 : Hid (Ext w w2) := Ext.tr hx0.out (Ext.tr hb1 hb2)
          clear q0 q1 q2 q3 q4 q5
          obtain ⟨q0, q1, q2, q3, q4, q5⟩ := Box34.cells hB2.out
          have z0 : w2.drew.cell? ⟨w.heap.size, 0, none⟩ = some (.int .i64 h.f0) := q0
          go_wp2
          go_region_held3 (fun W => W.cell? ⟨w.heap.size, 0, none⟩ = some (.int .i64 h.f0)) (go_keep) (first
            | (go_at_call 48; refine (keys_any A c l _ (Kd.C_below HC.out (Ext.tr hX2.out (Below.drew (Below.refl _ _)))) hc hn).mono ?_; rintro e w3 ⟨v3, rfl, hN3, hb3⟩; obtain ⟨A3, c3, rfl, hl3, hC3⟩ := Kd.R_reads hN3; have HC3 := Lib.hid (C_map hC3); rw [List.length_map] at hl3; have z3 := (Box34.cells (Box34.ext (Box34.ext hB2.out (Below.drew (Below.refl _ _))) hb3)).1; clear hN3 hC3)
            | (go_at_call 47; refine (ofind_any A3 c3 _ _ (keyOf h) w3 HC3.out hl3 hs.out).mono ?_; rintro e w4 ⟨he, hb4⟩; rw [h3] at he; subst he; have z4 := (Box34.cells (Box34.ext (Box34.ext (Box34.ext hB2.out (Below.drew (Below.refl _ _))) hb3) hb4)).1))
          all_goals have h4' : (l.length : Int) = 64 := by have := H4.out; omega
          all_goals go_wp2
          all_goals go_ret2
          all_goals exact ⟨_, by rw [hr.out]; rfl, by rw [hr2.out]; exact Kd.R_nil _ _ _ _ _, Ext.tr (Ext.tr hX2.out (Below.drew (Below.refl _ _))) (Ext.tr hb3 hb4)⟩
        · have hr : Hid (addCode l h = 0) := by show _ = _; simp [addCode, h1, h2, h3, h4]
          have hr2 : Hid (addList l h = l.take (addAt l h) ++ [h] ++ l.drop (addAt l h)) := by show _ = _; unfold addList; rw [hr.out]; rfl
          have H4' : Hid (¬ (l.length : Int) = 64) := by show ¬ _; omega
          go_enter Try.func17, Try.ntmps17
          go_wp2_with fail
          refine (may_any A c l _ (Kd.C_below HC.out hx0.out) hc hn hl).mono ?_
          rintro e w1 ⟨rfl, hb1⟩
          rw [h1]
          have q := Box34.cells (Box34.ext hbx.out hb1)
          obtain ⟨q0, q1, q2, q3, q4, q5⟩ := q
          go_wp2_with fail
          refine (hostMay_any h A5 c5 w1 (Kd.C_below HC5.out (Ext.tr hx0.out hb1)) hc5 hok).mono ?_
          rintro e w2 ⟨rfl, hb2⟩
          rw [h2]
          have hB2 : Hid (Box34 w2 w.heap.size h A5 c5) := Box34.ext (Box34.ext hbx.out hb1) hb2
          have hX2 : Hid (Ext w w2) := Ext.tr hx0.out (Ext.tr hb1 hb2)
          clear q0 q1 q2 q3 q4 q5
          obtain ⟨q0, q1, q2, q3, q4, q5⟩ := Box34.cells hB2.out
          have z0 : w2.drew.cell? ⟨w.heap.size, 0, none⟩ = some (.int .i64 h.f0) := q0
          go_wp2
          go_region_held3 (fun W => W.cell? ⟨w.heap.size, 0, none⟩ = some (.int .i64 h.f0)) (go_keep) (first
            | (go_at_call 48; refine (keys_any A c l _ (Kd.C_below HC.out (Ext.tr hX2.out (Below.drew (Below.refl _ _)))) hc hn).mono ?_; rintro e w3 ⟨v3, rfl, hN3, hb3⟩; obtain ⟨A3, c3, rfl, hl3, hC3⟩ := Kd.R_reads hN3; have HC3 := Lib.hid (C_map hC3); rw [List.length_map] at hl3; have z3 := (Box34.cells (Box34.ext (Box34.ext hB2.out (Below.drew (Below.refl _ _))) hb3)).1; clear hN3 hC3)
            | (go_at_call 47; refine (ofind_any A3 c3 _ _ (keyOf h) w3 HC3.out hl3 hs.out).mono ?_; rintro e w4 ⟨he, hb4⟩; rw [h3] at he; subst he; have z4 := (Box34.cells (Box34.ext (Box34.ext (Box34.ext hB2.out (Below.drew (Below.refl _ _))) hb3) hb4)).1))
          all_goals have h4' := H4'.out
          all_goals go_wp2
          have hX4 : Hid (Ext w w4) := Ext.tr (Ext.tr hX2.out (Below.drew (Below.refl _ _))) (Ext.tr hb3 hb4)
          have hB4 : Hid (Box34 w4 w.heap.size h A5 c5) := Box34.ext (Box34.ext (Box34.ext hB2.out (Below.drew (Below.refl _ _))) hb3) hb4
          have hd4 := Lib.hid (show Ext w4 w4.drew from Below.drew (Below.refl _ _))
          have hp := Lib.hid (addAt_le l h)
          clear q0 q1 q2 q3 q4 q5 z0 z3 z4 HC3
          obtain ⟨q0, q1, q2, q3, q4, q5⟩ := Box34.cells (Box34.ext hB4.out hd4.out)
          go_region_held3 (fun W => W.cell? ⟨w.heap.size, 0, none⟩ = some (.int .i64 h.f0) ∧ W.cell? ⟨w.heap.size, 1, none⟩ = some (.string h.f1) ∧ W.cell? ⟨w.heap.size, 2, none⟩ = some (.int .i64 h.f2) ∧ W.cell? ⟨w.heap.size, 3, none⟩ = some (.string h.f3) ∧ W.cell? ⟨w.heap.size, 4, none⟩ = some (.int .i64 h.f4) ∧ W.cell? ⟨w.heap.size, 5, none⟩ = some (.slice A5 h.f5.length c5)) (first | assumption | go_keep) (first
            | (go_at_call 50; refine (copied_any A c l _ (Kd.C_below HC.out (Ext.tr hX4.out hd4.out)) hc hn hl5).mono ?_; rintro e w5 ⟨v5, rfl, hN5, hb5⟩; have HN5 := Lib.hid hN5; have Z5 := Box34.cells (Box34.ext (Box34.ext hB4.out hd4.out) hb5); clear hN5)
            | (go_at_call 51; refine (copy_any h A5 c5 w5 (Kd.C_below HC5.out (Ext.tr (Ext.tr hX4.out hd4.out) hb5)) hc5 hm5).mono ?_; rintro e w6 ⟨v6, rfl, hN6, hb6⟩; have HN6 := Lib.hid hN6; obtain ⟨A6, c6, rfl, hl6, _⟩ := Kd.R_reads hN6; have Z6 := Box34.cells (Box34.ext (Box34.ext (Box34.ext hB4.out hd4.out) hb5) hb6); clear hN6; unfold nHost)
            | (go_at_call 49; refine (add_step w w4 w5 w6 l h v5 A6 c6 (addAt l h) hX4.out HN5.out hb5 HN6.out hb6 hp.out (by omega)).mono ?_; rintro e w7 ⟨v7, rfl, hN7, hb7, hb47⟩; have HN7 := Lib.hid hN7; have Z7 := Box34.cells (Box34.ext hB4.out hb47); clear hN7))
          go_wp2
          go_ret2
          exact ⟨_, by rw [hr.out]; rfl, by rw [hr2.out]; exact HN7.out, hb7⟩
      · have hr : Hid (addCode l h = 3) := by show _ = _; simp [addCode, h1, h2, h3]
        have hr2 : Hid (addList l h = []) := by show _ = _; unfold addList; rw [hr.out]; rfl
        go_enter Try.func17, Try.ntmps17
        go_wp2_with fail
        refine (may_any A c l _ (Kd.C_below HC.out hx0.out) hc hn hl).mono ?_
        rintro e w1 ⟨rfl, hb1⟩
        rw [h1]
        have q := Box34.cells (Box34.ext hbx.out hb1)
        obtain ⟨q0, q1, q2, q3, q4, q5⟩ := q
        go_wp2_with fail
        refine (hostMay_any h A5 c5 w1 (Kd.C_below HC5.out (Ext.tr hx0.out hb1)) hc5 hok).mono ?_
        rintro e w2 ⟨rfl, hb2⟩
        rw [h2]
        have hB2 : Hid (Box34 w2 w.heap.size h A5 c5) := Box34.ext (Box34.ext hbx.out hb1) hb2
        have hX2 : Hid (Ext w w2) := Ext.tr hx0.out (Ext.tr hb1 hb2)
        clear q0 q1 q2 q3 q4 q5
        obtain ⟨q0, q1, q2, q3, q4, q5⟩ := Box34.cells hB2.out
        have z0 : w2.drew.cell? ⟨w.heap.size, 0, none⟩ = some (.int .i64 h.f0) := q0
        go_wp2
        go_region_held3 (fun W => W.cell? ⟨w.heap.size, 0, none⟩ = some (.int .i64 h.f0)) (go_keep) (first
          | (go_at_call 48; refine (keys_any A c l _ (Kd.C_below HC.out (Ext.tr hX2.out (Below.drew (Below.refl _ _)))) hc hn).mono ?_; rintro e w3 ⟨v3, rfl, hN3, hb3⟩; obtain ⟨A3, c3, rfl, hl3, hC3⟩ := Kd.R_reads hN3; have HC3 := Lib.hid (C_map hC3); rw [List.length_map] at hl3; have z3 := (Box34.cells (Box34.ext (Box34.ext hB2.out (Below.drew (Below.refl _ _))) hb3)).1; clear hN3 hC3)
          | (go_at_call 47; refine (ofind_any A3 c3 _ _ (keyOf h) w3 HC3.out hl3 hs.out).mono ?_; rintro e w4 ⟨he, hb4⟩; rw [h3] at he; subst he; have z4 := (Box34.cells (Box34.ext (Box34.ext (Box34.ext hB2.out (Below.drew (Below.refl _ _))) hb3) hb4)).1))
        all_goals go_wp2
        all_goals go_ret2
        all_goals exact ⟨_, by rw [hr.out]; rfl, by rw [hr2.out]; exact Kd.R_nil _ _ _ _ _, Ext.tr (Ext.tr hX2.out (Below.drew (Below.refl _ _))) (Ext.tr hb3 hb4)⟩
end
section
open Go.RowKit Go.Proofs.YthfolhgaecfogaaW.PrintWords Go.Proofs.YthfolhgaecfogaaW.PrintLast Go.Proofs.YthfolhgaecfogaaW.PrintMore
def findI (l : List S34) (id : Int) : Int := idxF (fun h => h.f0 == id) l
def cutCode (l : List S34) (id : Int) : Int := if !tableMay l then 1 else if findI l id < 0 then 4 else 0
def cutList (l : List S34) (id : Int) : List S34 := if cutCode l id = 0 then l.take (findI l id).toNat ++ l.drop ((findI l id).toNat + 1) else []
theorem findI_lt (l : List S34) (id : Int) : findI l id < l.length := by
  unfold findI idxF
  cases h : l.findIdx? (fun h => h.f0 == id) with
  | none => simp only; omega
  | some i =>
    have := (List.findIdx?_eq_some_iff_getElem.1 h).1
    simp only; omega
set_option maxRecDepth 100000 in
set_option maxHeartbeats 1000000 in
theorem cut_any (A : Option Addr) (c : Nat) (l : List S34) (id : Int) (w : World) (hC : Kd.C k34 w A l.length l) (hc : l.length ≤ c) (hn : l.length ≤ 4194304) (hl : ∀ h ∈ l, hostOk h) (hl5 : ∀ h ∈ l, h.f5.length ≤ 4194304) :
    Calls Try.prog 38 #[.slice A l.length c, .int .i64 id] w fun e w' => ∃ v, e = .returned (.tuple #[v, .int .i64 (cutCode l id)]) ∧ New k34 34 w w' v (cutList l id) ∧ Ext w w' := by
  have HC := Lib.hid hC
  have hm := len_max hC
  clear hC
  cases h1 : tableMay l
  · have hr : Hid (cutCode l id = 1) := by show _ = _; simp [cutCode, h1]
    have hr2 : Hid (cutList l id = []) := by show _ = _; unfold cutList; rw [hr.out]; rfl
    go_enter Try.func38, Try.ntmps38
    go_wp2_with fail
    refine (may_any A c l w HC.out hc hn hl).mono ?_
    rintro e w1 ⟨rfl, hb1⟩
    rw [h1]
    go_wp2
    go_ret2
    exact ⟨_, by rw [hr.out]; rfl, by rw [hr2.out]; exact Kd.R_nil _ _ _ _ _, hb1⟩
  · have hlt := findI_lt l id
    by_cases h2 : findI l id < 0
    · have hr : Hid (cutCode l id = 4) := by show _ = _; simp [cutCode, h1, h2]
      have hr2 : Hid (cutList l id = []) := by show _ = _; unfold cutList; rw [hr.out]; rfl
      obtain ⟨F, hF⟩ : ∃ F, F = findI l id := ⟨_, rfl⟩
      have h2' : F < 0 := by rw [hF]; exact h2
      have HF := Lib.hid hF
      clear h2 hlt hF
      go_enter Try.func38, Try.ntmps38
      go_wp2_with fail
      refine (may_any A c l w HC.out hc hn hl).mono ?_
      rintro e w1 ⟨rfl, hb1⟩
      rw [h1]
      go_wp2_with fail
      refine (find_any A c l id w1 (Kd.C_below HC.out hb1) hc).mono ?_
      rintro e w2 ⟨he, hb2⟩
      have he2 := he.trans (show _ = Ending.returned (.int .i64 F) by rw [HF.out]; rfl)
      clear he
      subst he2
      go_wp2
      go_ret2
      exact ⟨_, by rw [hr.out]; rfl, by rw [hr2.out]; exact Kd.R_nil _ _ _ _ _, Ext.tr hb1 hb2⟩
    · have hr : Hid (cutCode l id = 0) := by show _ = _; simp [cutCode, h1, h2]
      have hr2 : Hid (cutList l id = l.take (findI l id).toNat ++ l.drop ((findI l id).toNat + 1)) := by show _ = _; unfold cutList; rw [hr.out]; rfl
      obtain ⟨F, hF⟩ : ∃ F : Nat, F = (findI l id).toNat := ⟨_, rfl⟩
      have hF' : (F : Int) = findI l id := by omega
      have hFl : F < l.length := by omega
      rw [← hF] at hr2
      have HF := Lib.hid hF'
      have hw : IntKind.i64.wrap ((F : Int) + 1) = (F : Int) + 1 := by rw [IntKind.wrap_i64]; omega
      clear h2 hlt hF hF'
      go_enter Try.func38, Try.ntmps38
      go_wp2_with fail
      refine (may_any A c l w HC.out hc hn hl).mono ?_
      rintro e w1 ⟨rfl, hb1⟩
      rw [h1]
      go_wp2_with fail
      refine (find_any A c l id w1 (Kd.C_below HC.out hb1) hc).mono ?_
      rintro e w2 ⟨he, hb2⟩
      have he2 := he.trans (show _ = Ending.returned (.int .i64 (F : Int)) by rw [HF.out]; rfl)
      clear he
      subst he2
      go_wp2_with fail
      refine (copied_any A c l w2 (Kd.C_below HC.out (Ext.tr hb1 hb2)) hc hn hl5).mono ?_
      rintro e w3 ⟨v3, rfl, hN3, hb3⟩
      have HN3 := Lib.hid hN3
      clear hN3
      have hX := Lib.hid (Ext.tr hb1 hb2)
      go_wp2_with fail
      refine (delete_any34 v3 l F w3 w2.heap.size HN3.out hFl (by omega)).mono ?_
      rintro e w4 ⟨v4, rfl, hR4, hg4⟩
      have hE := Lib.hid (Ext_grown hb3 hb3.size HN3.out hg4)
      have HR4 := Lib.hid (Kd.R_lower hR4 hX.out.size)
      clear hR4 hg4
      go_wp2
      go_ret2
      exact ⟨_, by rw [hr.out]; rfl, by rw [hr2.out]; exact HR4.out, Ext.tr hX.out hE.out⟩
end
end Go.Proofs.Ythfolhgaecfogaa
