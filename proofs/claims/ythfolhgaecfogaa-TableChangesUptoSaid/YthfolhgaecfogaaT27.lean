import Derived.Test.YthfolhgaecfogaaT26
set_option linter.unusedVariables false
set_option linter.unusedSimpArgs false
namespace Go.Proofs.Ythfolhgaecfogaa
open Go.RowKit Go.Proofs.YthfolhgaecfogaaW.PrintWords Go.Proofs.YthfolhgaecfogaaW.PrintLast Go.Proofs.YthfolhgaecfogaaW.PrintMore
theorem C_lit {α : Type} {d : Kd α} {w : World} {g e : Nat} {xs : List α} {cs : List Value} (hb : w.heap[g]? = some (.cells cs.toArray e (0, 0))) (hr : Reps (d.K w) d.sz xs cs) (hn : xs.length ≤ 9223372036854775807) : Kd.C d w (some ⟨g, 0, none⟩) xs.length xs := by
  refine ⟨rfl, hn, fun _ => ⟨_, rfl, fun j p hj => ⟨(cs.drop (j * d.sz)).take d.sz, d.K_len (hr.2 j p hj), hr.2 j p hj, fun i u hu => ?_⟩⟩⟩
  rw [Addr.add_lit, Nat.zero_add, cell_of_row w g _ cs.toArray e (0, 0) hb]
  have hi : i < ((cs.drop (j * d.sz)).take d.sz).length := (List.getElem?_eq_some_iff.1 hu).1
  rw [List.length_take] at hi
  rw [List.getElem?_take, if_pos (by omega), List.getElem?_drop] at hu
  simpa using hu
def hA : S34 := ⟨1, ⟨#[97]⟩, 0, ⟨#[]⟩, 1, []⟩
def hB : S34 := ⟨2, ⟨#[98]⟩, 0, ⟨#[]⟩, 1, []⟩
def hCc : S34 := ⟨3, ⟨#[99]⟩, 0, ⟨#[]⟩, 1, []⟩
theorem aw0 : addCode [hB] hA = 0 := by kernel_rfl
theorem aw1 : addList [hB] hA = [hA, hB] := by kernel_rfl
theorem aw2 : chCode [hA, hB] [hB, hCc] = 0 := by kernel_rfl
theorem aw3 : addsOf [hA, hB] [hB, hCc] = [3] := by kernel_rfl
theorem aw4 : cutsOf [hA, hB] [hB, hCc] = [1] := by kernel_rfl
theorem aw5 : samesOf [hA, hB] [hB, hCc] = [2] := by kernel_rfl
theorem aw6 : tableMay [hA, hB] = true := by kernel_rfl
theorem aw7 : idxF (fun h => h.f0 == 2) [hA, hB] = 1 := by kernel_rfl
theorem smallHost {h : S34} (h1 : h = hA ∨ h = hB ∨ h = hCc) : hostOk h ∧ h.f5.length ≤ 4194304 := by
  rcases h1 with rfl | rfl | rfl <;> exact ⟨⟨by decide, by decide, fun p hp => by cases hp⟩, by decide⟩
def cellsOf (h : S34) : List Value := [.int .i64 h.f0, .string h.f1, .int .i64 h.f2, .string h.f3, .int .i64 h.f4, .slice none 0 0]
theorem kLit (w : World) {h : S34} (h5 : h.f5 = []) : k34.K w h (cellsOf h) := by
  have := k34_mk w h (A5 := none) (c5 := 0) (by rw [h5]; exact Nat.le_refl _) (by rw [h5]; exact Kd.C_nil k77 w)
  rw [h5] at this
  exact this
set_option maxRecDepth 100000 in
set_option maxHeartbeats 4000000 in
theorem awake_any (w : World) : Calls Try.prog 12 #[] w fun e w' => e = .returned (.bool true) ∧ Ext w w' := by
  have hu34 := Try.underlying34
  go_enter Try.func12, Try.ntmps12
  go_wp2_with fail
  obtain ⟨W0, hW0⟩ : ∃ W0, W0 = (w.alloc (.cells #[.int .i64 1, .string ⟨#[97]⟩, .int .i64 0, .string ⟨#[]⟩, .int .i64 1, .slice none 0 0] 34)).alloc (.cells #[.int .i64 2, .string ⟨#[98]⟩, .int .i64 0, .string ⟨#[]⟩, .int .i64 1, .slice none 0 0] 34) := ⟨_, rfl⟩
  rw [← hW0]
  have hsz : W0.heap.size = w.heap.size + 1 + 1 := by rw [hW0]; simp
  have hX0 : Ext w W0 := by rw [hW0]; exact Ext.tr (ext_alloc _ _) (ext_alloc _ _)
  have hB0 : Blk34 W0 (w.heap.size + 1) #[.int .i64 2, .string ⟨#[98]⟩, .int .i64 0, .string ⟨#[]⟩, .int .i64 1, .slice none 0 0] := by rw [hW0]; have := heap_alloc_new (w.alloc (.cells #[.int .i64 1, .string ⟨#[97]⟩, .int .i64 0, .string ⟨#[]⟩, .int .i64 1, .slice none 0 0] 34)) (.cells #[.int .i64 2, .string ⟨#[98]⟩, .int .i64 0, .string ⟨#[]⟩, .int .i64 1, .slice none 0 0] 34); rwa [World.size_alloc] at this
  rw [← hsz]
  have hX1 := ext_alloc W0 (.cells #[.int .i64 2, .string ⟨#[98]⟩, .int .i64 0, .string ⟨#[]⟩, .int .i64 1, .slice none 0 0] 34)
  have hC1 : Kd.C k34 (W0.alloc (.cells #[.int .i64 2, .string ⟨#[98]⟩, .int .i64 0, .string ⟨#[]⟩, .int .i64 1, .slice none 0 0] 34)) (some ⟨W0.heap.size, 0, none⟩) [hB].length [hB] :=
    C_lit (e := 34) (cs := cellsOf hB) (heap_alloc_new W0 _) (reps_one_ (kLit _ rfl) rfl) (by decide)
  refine (add_any (some ⟨W0.heap.size, 0, none⟩) 1 [hB] hA none 0 _ hC1 (by decide) (by decide) (by simp; exact (smallHost (.inr (.inl rfl))).1) (by simp; exact (smallHost (.inr (.inl rfl))).2) (Kd.C_nil _ _) (by decide) (smallHost (.inl rfl)).1 (by decide)).mono ?_
  rintro e w1 ⟨v1, he, hN1, hb1⟩
  rw [aw0] at he
  subst he
  rw [aw1] at hN1
  obtain ⟨A1, c1, rfl, hl1, hR1⟩ := Kd.R_reads hN1
  have HR1 := Lib.hid hR1
  have hl1' : 2 ≤ c1 := hl1
  obtain ⟨q0, q1, q2, q3, q4, q5⟩ := Blk34.cells ((Ext.tr hX1 hb1).block (w.heap.size + 1) (by omega) |>.trans hB0)
  have hXw := Lib.hid (Ext.tr hX0 (Ext.tr hX1 hb1))
  obtain ⟨ad1, _, _, rfl, y0, y1, y2, y3, y4, y5, _, _⟩ := C34 hR1 (k := 0) (by decide)
  clear hC1 hN1 hR1 hb1 hX1 hX0 hB0 hsz hW0 hl1 y1 y2 y3 y4 y5
  go_wp2_with fail
  have hX2 := ext_alloc w1 (.cells #[.int .i64 2, .string ⟨#[98]⟩, .int .i64 0, .string ⟨#[]⟩, .int .i64 1, .slice none 0 0, .int .i64 3, .string ⟨#[99]⟩, .int .i64 0, .string ⟨#[]⟩, .int .i64 1, .slice none 0 0] 34)
  have hC2 : Kd.C k34 (w1.alloc (.cells #[.int .i64 2, .string ⟨#[98]⟩, .int .i64 0, .string ⟨#[]⟩, .int .i64 1, .slice none 0 0, .int .i64 3, .string ⟨#[99]⟩, .int .i64 0, .string ⟨#[]⟩, .int .i64 1, .slice none 0 0] 34)) (some ⟨w1.heap.size, 0, none⟩) [hB, hCc].length [hB, hCc] :=
    C_lit (e := 34) (cs := cellsOf hB ++ cellsOf hCc) (heap_alloc_new w1 _) (Kd.reps_append (reps_one_ (kLit _ rfl) rfl) (reps_one_ (kLit _ rfl) rfl)) (by decide)
  refine (change_any (some ad1) (some ⟨w1.heap.size, 0, none⟩) c1 2 [hA, hB] [hB, hCc] _ (Kd.C_below HR1.out hX2) hl1' (by decide) (fun h hh => (smallHost (by simp at hh; rcases hh with rfl | rfl <;> simp)).1) hC2 (by decide) (by decide) (fun h hh => (smallHost (by simp at hh; rcases hh with rfl | rfl <;> simp)).1)).mono ?_
  rintro e w2 ⟨v1, v2, v3, he, hN1, hN2, hN3, hb2⟩
  rw [aw2] at he
  subst he
  rw [aw3] at hN1
  rw [aw4] at hN2
  rw [aw5] at hN3
  obtain ⟨A4, c4, rfl, hl4, hR4⟩ := Kd.R_reads hN1
  obtain ⟨A5, c5, rfl, hl5, hR5⟩ := Kd.R_reads hN2
  obtain ⟨A6, c6, rfl, hl6, hR6⟩ := Kd.R_reads hN3
  obtain ⟨ad4, rfl, z4⟩ := CI hR4 (k := 0) (by decide)
  obtain ⟨ad5, rfl, z5⟩ := CI hR5 (k := 0) (by decide)
  have hX3 := Lib.hid (Ext.tr hX2 hb2)
  have x0 := (hX3.out.cell (World.block_lt_of_cell? w1 _ y0)).trans y0
  have x0' : w2.cell? ad1 = some (.int .i64 1) := by simpa [hA, go_sem] using x0
  have z4' : w2.cell? ad4 = some (.int .i64 3) := by simpa [go_sem] using z4
  have z5' : w2.cell? ad5 = some (.int .i64 1) := by simpa [go_sem] using z5
  clear hN1 hN2 hN3 hR4 hR5 hR6 hX2 hC2 hb2 hl4 hl5 hl6 y0 q0 q1 q2 q3 q4 q5 x0 z4 z5
  go_wp2_with fail
  refine (may_any (some ad1) c1 [hA, hB] w2 (Kd.C_below HR1.out hX3.out) hl1' (by decide) (fun h hh => (smallHost (by simp at hh; rcases hh with rfl | rfl <;> simp)).1)).mono ?_
  rintro e w3 ⟨he, hb3⟩
  rw [aw6] at he
  subst he
  go_wp2_with fail
  refine (find_any (some ad1) c1 [hA, hB] 2 w3 (Kd.C_below HR1.out (Ext.tr hX3.out hb3)) hl1').mono ?_
  rintro e w4 ⟨he, hb4⟩
  rw [aw7] at he
  subst he
  go_wp2
  go_ret
  exact ⟨rfl, Ext.tr hXw.out (Ext.tr hX3.out (Ext.tr hb3 hb4))⟩
end Go.Proofs.Ythfolhgaecfogaa
