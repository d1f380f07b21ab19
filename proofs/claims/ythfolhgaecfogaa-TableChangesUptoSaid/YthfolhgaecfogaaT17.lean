import Derived.Test.YthfolhgaecfogaaT16
set_option linter.unusedVariables false
set_option linter.unusedSimpArgs false
namespace Go.Proofs.Ythfolhgaecfogaa
open Go.RowKit Go.Proofs.YthfolhgaecfogaaW.PrintWords Go.Proofs.YthfolhgaecfogaaW.PrintLast Go.Proofs.YthfolhgaecfogaaW.PrintMore
def addCode (l : List S34) (h : S34) : Int := if !tableMay l then 1 else if !hostMay h then 1 else if hereK (l.map keyOf) (keyOf h) then 3 else if l.length = 64 then 6 else 0
def addAt (l : List S34) (h : S34) : Nat := posK (l.map keyOf) (keyOf h)
def addList (l : List S34) (h : S34) : List S34 := if addCode l h = 0 then l.take (addAt l h) ++ [h] ++ l.drop (addAt l h) else []
theorem posK_le (l : List S82) (k : S82) : posK l k ≤ l.length := by unfold posK; exact (List.takeWhile_sublist _).length_le
theorem addAt_le (l : List S34) (h : S34) : addAt l h ≤ l.length := by have := posK_le (l.map keyOf) (keyOf h); rwa [List.length_map] at this
theorem sorted_keys {l : List S34} (h : tableMay l = true) : Sorted82 (l.map keyOf) := by
  have hr : risesB l = true := by simp only [tableMay, Bool.and_eq_true] at h; exact h.1.2
  have hs : ∀ i, i + 1 < l.length → (l.getD i z34).f0 < (l.getD (i + 1) z34).f0 := fun i hi => by
    have := List.all_eq_true.1 hr i (List.mem_range.2 (by omega))
    simpa [riseAt] using this
  have hlt : ∀ d i, i + d + 1 < l.length → (l.getD i z34).f0 < (l.getD (i + d + 1) z34).f0 := by
    intro d
    induction d with
    | zero => exact fun i hi => hs i hi
    | succ d ih => exact fun i hi => Int.lt_trans (ih i (by omega)) (hs (i + d + 1) hi)
  intro i j hi hj hij
  rw [List.length_map] at hi hj
  have h1 := hlt (j - i - 1) i (by omega)
  rw [show i + (j - i - 1) + 1 = j by omega] at h1
  rw [lessK_iff]
  left
  rw [List.getElem_map, List.getElem_map]
  show l[i].f0 < l[j].f0
  rwa [List.getD_eq_getElem?_getD, List.getD_eq_getElem?_getD, List.getElem?_eq_getElem hi, List.getElem?_eq_getElem hj] at h1
theorem Ext_grown {w0 w w' : World} {v : Value} {B : Nat} {α : Type} {d : Kd α} {e : Nat} {ok : Nat → Prop} {l : List α} (h : Below B w0 w) (hB : B ≤ w.heap.size) (hR : Kd.R d e w B ok v l) (hg : w.grownBy w' v.ownBlock) : Below B w0 w' :=
  h.grown hg hB (Kd.R_base hR)
theorem add_step (w w4 w5 w6 : World) (l : List S34) (h : S34) (v5 : Value) (A6 : Option Addr) (c6 p : Nat) (hX : Ext w w4) (hN5 : New k34 34 w4.drew w5 v5 l) (hb5 : Ext w4.drew w5) (hN6 : New k77 77 w5 w6 (.slice A6 h.f5.length c6) h.f5) (hb6 : Ext w5 w6) (hp : p ≤ l.length) (hl : l.length ≤ 8388608) :
    Calls Try.prog 49 #[v5, .int .i64 p, .slice (some ⟨w6.heap.size, 0, none⟩) 1 1] (w6.alloc (.cells #[.int .i64 h.f0, .string h.f1, .int .i64 h.f2, .string h.f3, .int .i64 h.f4, .slice A6 h.f5.length c6] 34))
      fun e w' => ∃ v, e = .returned v ∧ New k34 34 w w' v (l.take p ++ [h] ++ l.drop p) ∧ Ext w w' ∧ Ext w4 w' := by
  obtain ⟨al, hal⟩ : ∃ al : Obj, al = .cells #[.int .i64 h.f0, .string h.f1, .int .i64 h.f2, .string h.f3, .int .i64 h.f4, .slice A6 h.f5.length c6] 34 := ⟨_, rfl⟩
  have h45 : w4.heap.size ≤ w5.heap.size := hb5.size
  have h56 : w5.heap.size ≤ w6.heap.size := hb6.size
  have hs : (w6.alloc al).heap.size = w6.heap.size + 1 := by simp
  have hxs := hX.size
  have hR5 : Kd.R k34 34 (w6.alloc al) w4.heap.size (fun _ => True) v5 l := Kd.R_alloc (Kd.R_below hN5 hb6) _
  have hR6 : Kd.R k77 77 (w6.alloc al) w5.heap.size (fun _ => True) (.slice A6 h.f5.length c6) h.f5 := Kd.R_alloc hN6 _
  have hM := hostMem (base := w4.heap.size) hR6 h45
  have hap := apart_of hN5 (Nat.le_refl w5.heap.size)
  have hB : Ext w4 (w6.alloc al) := Ext.tr (Ext.tr (show Ext w4 w5 from (Below.drew (Below.refl _ _)).trans hb5) hb6) (ext_alloc _ _)
  rw [← hal]
  refine (insert_any34 v5 l p h _ _ w6.heap.size (w6.alloc al) w4.heap.size (by omega) hR5 hp hl hM hap (by rw [hal]; exact heap_alloc_new w6 _) (fun e => by have := Kd.R_lt hN5 w6.heap.size e.symm; omega)).mono ?_
  rintro e w' ⟨v, rfl, hR, hg⟩
  have hE : Ext w4 w' := Ext_grown hB (by omega) hR5 hg
  exact ⟨v, rfl, Kd.R_lower hR hxs, Ext.tr hX hE, hE⟩
set_option maxRecDepth 100000 in
set_option maxHeartbeats 2000000 in
theorem add_any (A : Option Addr) (c : Nat) (l : List S34) (h : S34) (A5 : Option Addr) (c5 : Nat) (w : World) (hC : Kd.C k34 w A l.length l) (hc : l.length ≤ c) (hn : l.length ≤ 4194304) (hl : ∀ h ∈ l, hostOk h) (hl5 : ∀ h ∈ l, h.f5.length ≤ 4194304)
    (hC5 : Kd.C k77 w A5 h.f5.length h.f5) (hc5 : h.f5.length ≤ c5) (hok : hostOk h) (hm5 : h.f5.length ≤ 4194304) :
    Calls Try.prog 17 #[.slice A l.length c, vHost h A5 c5] w fun e w' => ∃ v, e = .returned (.tuple #[v, .int .i64 (addCode l h)]) ∧ New k34 34 w w' v (addList l h) ∧ Ext w w' := by
  have hu34 := Try.underlying34
  have hu82 := Try.underlying82
  have HC := Lib.hid hC
  have HC5 := Lib.hid hC5
  clear hC hC5
  have hx0 := Lib.hid (ext_alloc w (.cells #[.int .i64 h.f0, .string h.f1, .int .i64 h.f2, .string h.f3, .int .i64 h.f4, .slice A5 h.f5.length c5] 34))
  have hbx := Lib.hid (show Box34 (w.alloc (.cells #[.int .i64 h.f0, .string h.f1, .int .i64 h.f2, .string h.f3, .int .i64 h.f4, .slice A5 h.f5.length c5] 34)) w.heap.size h A5 c5 from heap_alloc_new w _)
  unfold vHost
  cases h1 : tableMay l
  · have hr : Hid (addCode l h = 1) := by show _ = _; simp [addCode, h1]
    have hr2 : Hid (addList l h = []) := by show _ = _; unfold addList; rw [hr.out]; rfl
    go_enter Try.func17, Try.ntmps17
    go_wp2_with fail
    refine (may_any A c l _ (Kd.C_below HC.out hx0.out) hc hn hl).mono ?_
    rintro e w1 ⟨rfl, hb1⟩
    rw [h1]
    go_wp2
    go_ret2
    refine ⟨_, by rw [hr.out]; rfl, by rw [hr2.out]; exact Kd.R_nil _ _ _ _ _, Ext.tr hx0.out hb1⟩
  · have hs := Lib.hid (sorted_keys h1)
    cases h2 : hostMay h
    · have hr : Hid (addCode l h = 1) := by show _ = _; simp [addCode, h1, h2]
      have hr2 : Hid (addList l h = []) := by show _ = _; unfold addList; rw [hr.out]; rfl
      go_enter Try.func17, Try.ntmps17
      go_wp2_with fail
      refine (may_any A c l _ (Kd.C_below HC.out hx0.out) hc hn hl).mono ?_
      rintro e w1 ⟨rfl, hb1⟩
      rw [h1]
      have q := Box34.cells (Box34.ext hbx.out hb1)
      obtain ⟨q0, q1, q2, q3, q4, q5⟩ := q
      go_wp2_with fail
      refine (hostMay_any h A5 c5 w1 (Kd.C_below HC5.out (Ext.tr hx0.out hb1)) hc5 hok).mono ?_
      rintro e w2 ⟨rfl, hb2⟩
      rw [h2]
      go_wp2
      go_ret2
      refine ⟨_, by rw [hr.out]; rfl, by rw [hr2.out]; exact Kd.R_nil _ _ _ _ _, Ext.tr hx0.out (Ext.tr hb1 hb2)⟩
    · have hl64 : l.length ≤ 64 := by
        simp only [tableMay, Bool.and_eq_true, decide_eq_true_eq] at h1
        exact h1.1.1
      cases h3 : hereK (l.map keyOf) (keyOf h)
      · by_cases h4 : l.length = 64
        · have hr : Hid (addCode l h = 6) := by show _ = _; simp [addCode, h1, h2, h3, h4]
          have hr2 : Hid (addList l h = []) := by show _ = _; unfold addList; rw [hr.out]; rfl
          have H4 := Lib.hid h4
          clear h4
          go_enter Try.func17, Try.ntmps17
          go_wp2_with fail
          refine (may_any A c l _ (Kd.C_below HC.out hx0.out) hc hn hl).mono ?_
          rintro e w1 ⟨rfl, hb1⟩
          rw [h1]
          have q := Box34.cells (Box34.ext hbx.out hb1)
          obtain ⟨q0, q1, q2, q3, q4, q5⟩ := q
          go_wp2_with fail
          refine (hostMay_any h A5 c5 w1 (Kd.C_below HC5.out (Ext.tr hx0.out hb1)) hc5 hok).mono ?_
          rintro e w2 ⟨rfl, hb2⟩
          rw [h2]
          have hB2 : Hid (Box34 w2 w.heap.size h A5 c5) := Box34.ext (Box34.ext hbx.out hb1) hb2
          have hX2 : Hid (Ext w w2) := Ext.tr hx0.out (Ext.tr hb1 hb2)
          clear q0 q1 q2 q3 q4 q5
          obtain ⟨q0, q1, q2, q3, q4, q5⟩ := Box34.cells hB2.out
          have z0 : w2.drew.cell? ⟨w.heap.size, 0, none⟩ = some (.int .i64 h.f0) := q0
          go_wp2
          go_region_held3 (fun W => W.cell? ⟨w.heap.size, 0, none⟩ = some (.int .i64 h.f0)) (go_keep) (first
            | (go_at_call 48; refine (keys_any A c l _ (Kd.C_below HC.out (Ext.tr hX2.out (Below.drew (Below.refl _ _)))) hc hn).mono ?_; rintro e w3 ⟨v3, rfl, hN3, hb3⟩; obtain ⟨A3, c3, rfl, hl3, hC3⟩ := Kd.R_reads hN3; have HC3 := Lib.hid (C_map hC3); rw [List.length_map] at hl3; have z3 := (Box34.cells (Box34.ext (Box34.ext hB2.out (Below.drew (Below.refl _ _))) hb3)).1; clear hN3 hC3)
            | (go_at_call 47; refine (ofind_any A3 c3 _ _ (keyOf h) w3 HC3.out hl3 hs.out).mono ?_; rintro e w4 ⟨he, hb4⟩; rw [h3] at he; subst he; have z4 := (Box34.cells (Box34.ext (Box34.ext (Box34.ext hB2.out (Below.drew (Below.refl _ _))) hb3) hb4)).1))
          all_goals have h4' : (l.length : Int) = 64 := by have := H4.out; omega
          all_goals go_wp2
          all_goals go_ret2
          all_goals exact ⟨_, by rw [hr.out]; rfl, by rw [hr2.out]; exact Kd.R_nil _ _ _ _ _, Ext.tr (Ext.tr hX2.out (Below.drew (Below.refl _ _))) (Ext.tr hb3 hb4)⟩
        · have hr : Hid (addCode l h = 0) := by show _ = _; simp [addCode, h1, h2, h3, h4]
          have hr2 : Hid (addList l h = l.take (addAt l h) ++ [h] ++ l.drop (addAt l h)) := by show _ = _; unfold addList; rw [hr.out]; rfl
          have H4' : Hid (¬ (l.length : Int) = 64) := by show ¬ _; omega
          go_enter Try.func17, Try.ntmps17
          go_wp2_with fail
          refine (may_any A c l _ (Kd.C_below HC.out hx0.out) hc hn hl).mono ?_
          rintro e w1 ⟨rfl, hb1⟩
          rw [h1]
          have q := Box34.cells (Box34.ext hbx.out hb1)
          obtain ⟨q0, q1, q2, q3, q4, q5⟩ := q
          go_wp2_with fail
          refine (hostMay_any h A5 c5 w1 (Kd.C_below HC5.out (Ext.tr hx0.out hb1)) hc5 hok).mono ?_
          rintro e w2 ⟨rfl, hb2⟩
          rw [h2]
          have hB2 : Hid (Box34 w2 w.heap.size h A5 c5) := Box34.ext (Box34.ext hbx.out hb1) hb2
          have hX2 : Hid (Ext w w2) := Ext.tr hx0.out (Ext.tr hb1 hb2)
          clear q0 q1 q2 q3 q4 q5
          obtain ⟨q0, q1, q2, q3, q4, q5⟩ := Box34.cells hB2.out
          have z0 : w2.drew.cell? ⟨w.heap.size, 0, none⟩ = some (.int .i64 h.f0) := q0
          go_wp2
          go_region_held3 (fun W => W.cell? ⟨w.heap.size, 0, none⟩ = some (.int .i64 h.f0)) (go_keep) (first
            | (go_at_call 48; refine (keys_any A c l _ (Kd.C_below HC.out (Ext.tr hX2.out (Below.drew (Below.refl _ _)))) hc hn).mono ?_; rintro e w3 ⟨v3, rfl, hN3, hb3⟩; obtain ⟨A3, c3, rfl, hl3, hC3⟩ := Kd.R_reads hN3; have HC3 := Lib.hid (C_map hC3); rw [List.length_map] at hl3; have z3 := (Box34.cells (Box34.ext (Box34.ext hB2.out (Below.drew (Below.refl _ _))) hb3)).1; clear hN3 hC3)
            | (go_at_call 47; refine (ofind_any A3 c3 _ _ (keyOf h) w3 HC3.out hl3 hs.out).mono ?_; rintro e w4 ⟨he, hb4⟩; rw [h3] at he; subst he; have z4 := (Box34.cells (Box34.ext (Box34.ext (Box34.ext hB2.out (Below.drew (Below.refl _ _))) hb3) hb4)).1))
          all_goals have h4' := H4'.out
          all_goals go_wp2
          have hX4 : Hid (Ext w w4) := Ext.tr (Ext.tr hX2.out (Below.drew (Below.refl _ _))) (Ext.tr hb3 hb4)
          have hB4 : Hid (Box34 w4 w.heap.size h A5 c5) := Box34.ext (Box34.ext (Box34.ext hB2.out (Below.drew (Below.refl _ _))) hb3) hb4
          have hd4 := Lib.hid (show Ext w4 w4.drew from Below.drew (Below.refl _ _))
          have hp := Lib.hid (addAt_le l h)
          clear q0 q1 q2 q3 q4 q5 z0 z3 z4 HC3
          obtain ⟨q0, q1, q2, q3, q4, q5⟩ := Box34.cells (Box34.ext hB4.out hd4.out)
          go_region_held3 (fun W => W.cell? ⟨w.heap.size, 0, none⟩ = some (.int .i64 h.f0) ∧ W.cell? ⟨w.heap.size, 1, none⟩ = some (.string h.f1) ∧ W.cell? ⟨w.heap.size, 2, none⟩ = some (.int .i64 h.f2) ∧ W.cell? ⟨w.heap.size, 3, none⟩ = some (.string h.f3) ∧ W.cell? ⟨w.heap.size, 4, none⟩ = some (.int .i64 h.f4) ∧ W.cell? ⟨w.heap.size, 5, none⟩ = some (.slice A5 h.f5.length c5)) (first | assumption | go_keep) (first
            | (go_at_call 50; refine (copied_any A c l _ (Kd.C_below HC.out (Ext.tr hX4.out hd4.out)) hc hn hl5).mono ?_; rintro e w5 ⟨v5, rfl, hN5, hb5⟩; have HN5 := Lib.hid hN5; have Z5 := Box34.cells (Box34.ext (Box34.ext hB4.out hd4.out) hb5); clear hN5)
            | (go_at_call 51; refine (copy_any h A5 c5 w5 (Kd.C_below HC5.out (Ext.tr (Ext.tr hX4.out hd4.out) hb5)) hc5 hm5).mono ?_; rintro e w6 ⟨v6, rfl, hN6, hb6⟩; have HN6 := Lib.hid hN6; obtain ⟨A6, c6, rfl, hl6, _⟩ := Kd.R_reads hN6; have Z6 := Box34.cells (Box34.ext (Box34.ext (Box34.ext hB4.out hd4.out) hb5) hb6); clear hN6; unfold nHost)
            | (go_at_call 49; refine (add_step w w4 w5 w6 l h v5 A6 c6 (addAt l h) hX4.out HN5.out hb5 HN6.out hb6 hp.out (by omega)).mono ?_; rintro e w7 ⟨v7, rfl, hN7, hb7, hb47⟩; have HN7 := Lib.hid hN7; have Z7 := Box34.cells (Box34.ext hB4.out hb47); clear hN7))
          go_wp2
          go_ret2
          exact ⟨_, by rw [hr.out]; rfl, by rw [hr2.out]; exact HN7.out, hb7⟩
      · have hr : Hid (addCode l h = 3) := by show _ = _; simp [addCode, h1, h2, h3]
        have hr2 : Hid (addList l h = []) := by show _ = _; unfold addList; rw [hr.out]; rfl
        go_enter Try.func17, Try.ntmps17
        go_wp2_with fail
        refine (may_any A c l _ (Kd.C_below HC.out hx0.out) hc hn hl).mono ?_
        rintro e w1 ⟨rfl, hb1⟩
        rw [h1]
        have q := Box34.cells (Box34.ext hbx.out hb1)
        obtain ⟨q0, q1, q2, q3, q4, q5⟩ := q
        go_wp2_with fail
        refine (hostMay_any h A5 c5 w1 (Kd.C_below HC5.out (Ext.tr hx0.out hb1)) hc5 hok).mono ?_
        rintro e w2 ⟨rfl, hb2⟩
        rw [h2]
        have hB2 : Hid (Box34 w2 w.heap.size h A5 c5) := Box34.ext (Box34.ext hbx.out hb1) hb2
        have hX2 : Hid (Ext w w2) := Ext.tr hx0.out (Ext.tr hb1 hb2)
        clear q0 q1 q2 q3 q4 q5
        obtain ⟨q0, q1, q2, q3, q4, q5⟩ := Box34.cells hB2.out
        have z0 : w2.drew.cell? ⟨w.heap.size, 0, none⟩ = some (.int .i64 h.f0) := q0
        go_wp2
        go_region_held3 (fun W => W.cell? ⟨w.heap.size, 0, none⟩ = some (.int .i64 h.f0)) (go_keep) (first
          | (go_at_call 48; refine (keys_any A c l _ (Kd.C_below HC.out (Ext.tr hX2.out (Below.drew (Below.refl _ _)))) hc hn).mono ?_; rintro e w3 ⟨v3, rfl, hN3, hb3⟩; obtain ⟨A3, c3, rfl, hl3, hC3⟩ := Kd.R_reads hN3; have HC3 := Lib.hid (C_map hC3); rw [List.length_map] at hl3; have z3 := (Box34.cells (Box34.ext (Box34.ext hB2.out (Below.drew (Below.refl _ _))) hb3)).1; clear hN3 hC3)
          | (go_at_call 47; refine (ofind_any A3 c3 _ _ (keyOf h) w3 HC3.out hl3 hs.out).mono ?_; rintro e w4 ⟨he, hb4⟩; rw [h3] at he; subst he; have z4 := (Box34.cells (Box34.ext (Box34.ext (Box34.ext hB2.out (Below.drew (Below.refl _ _))) hb3) hb4)).1))
        all_goals go_wp2
        all_goals go_ret2
        all_goals exact ⟨_, by rw [hr.out]; rfl, by rw [hr2.out]; exact Kd.R_nil _ _ _ _ _, Ext.tr (Ext.tr hX2.out (Below.drew (Below.refl _ _))) (Ext.tr hb3 hb4)⟩
end Go.Proofs.Ythfolhgaecfogaa
