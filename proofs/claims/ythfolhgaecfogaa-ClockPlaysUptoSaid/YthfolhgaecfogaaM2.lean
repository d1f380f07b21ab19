import Derived.Test.YthfolhgaecfogaaM1
import Derived.Shelf.Abstract
set_option linter.unusedVariables false
set_option linter.unusedSimpArgs false
namespace Go.Proofs.Ythfolhgaecfogaa
section
open Go.RowKit Go.Proofs.YthfolhgaecfogaaW.PrintWords Go.Proofs.YthfolhgaecfogaaW.PrintLast Go.Proofs.YthfolhgaecfogaaW.PrintMore
def riseAt (l : List S34) (i : Nat) : Bool := decide ((l.getD i z34).f0 < (l.getD (i + 1) z34).f0)
def risesB (l : List S34) : Bool := (List.range (l.length - 1)).all (riseAt l)
theorem riseAt_of (l : List S34) (j : Nat) (h : j + 1 < l.length) : riseAt l j = decide (l[j].f0 < l[j + 1].f0) := by
  unfold riseAt
  rw [List.getD_eq_getElem?_getD, List.getD_eq_getElem?_getD, List.getElem?_eq_getElem h, List.getElem?_eq_getElem (show j < l.length by omega)]; rfl
theorem range_step {f : Nat → Bool} {j : Nat} (h0 : (List.range j).all f = true) (h1 : f j = true) : (List.range (j + 1)).all f = true := by
  rw [List.range_succ, List.all_append, h0]; simp [h1]
theorem range_stop {f : Nat → Bool} {j n : Nat} (h : j < n) (h1 : f j = false) : (List.range n).all f = false := by
  rw [List.all_eq_false]; exact ⟨j, by simpa using h, by simp [h1]⟩
theorem range_done {f : Nat → Bool} {j n : Nat} (h : n ≤ j) (h0 : (List.range j).all f = true) : (List.range n).all f = true := by
  rw [List.all_eq_true] at h0 ⊢; exact fun x hx => h0 x (by simp at hx ⊢; omega)
theorem all_snoc {α : Type} {p : α → Bool} {l : List α} {k : Nat} (h : k < l.length) (h0 : (l.take k).all p = true) (h1 : p l[k] = true) : (l.take (k + 1)).all p = true := by
  rw [List.take_succ_eq_append_getElem h, List.all_append, h0]; simp [h1]
def tableMay (l : List S34) : Bool := decide (l.length ≤ 64) && risesB l && l.all hostMay
theorem tableMay_no1 {l : List S34} {k : Nat} (h : k < l.length) (hp : hostMay l[k] = false) : tableMay l = false := by
  have : l.all hostMay = false := List.all_eq_false.2 ⟨l[k], List.getElem_mem h, by simp [hp]⟩
  simp [tableMay, this]
theorem tableMay_no2 {l : List S34} {j : Nat} (h : j + 1 < l.length) (hp : l[j + 1].f0 ≤ l[j].f0) : tableMay l = false := by
  have : risesB l = false := range_stop (j := j) (by omega) (by rw [riseAt_of l j h]; simpa using hp)
  simp [tableMay, this]
theorem q15 (h : S34) (A : Option Addr) (c : Nat) (W : World) (hC : Kd.C k77 W A h.f5.length h.f5) (hc : h.f5.length ≤ c) (d : Nat) (os : Array Obj) :
    Calls Try.prog 15 #[.agg #[.int .i64 h.f0, .string h.f1, .int .i64 h.f2, .string h.f3, .int .i64 h.f4, .slice A h.f5.length c]] (Go.Sort.grow (redrawn W d) os) fun e w'' => e = .returned (.bool (hostMay h)) ∧ ∃ p : Regrown, w'' = Go.Sort.grow (redrawn W p.d) p.os :=
  Calls.regrown_of (rhostMay_any h A c _ (Kd.C_below hC (below_regrown _ _ _)) hc)
set_option maxRecDepth 100000 in
set_option maxHeartbeats 1000000 in
theorem rmayTable_any (A : Option Addr) (c : Nat) (l : List S34) (w : World) (hC : Kd.C k34 w A l.length l) (hc : l.length ≤ c) :
    Calls Try.prog 11 #[.slice A l.length c] w fun e w' => e = .returned (.bool (tableMay l)) ∧ Ext w w' := by
  have hu34 := Try.underlying34
  have hm := len_max hC
  have HC := Lib.hid hC
  clear hC
  go_enter Try.func11, Try.ntmps11
  go_wp2
  go_loopw [7] (fun i wr => ∃ k : Nat, k ≤ l.length ∧ i = .int .i64 k ∧ Hid ((l.take k).all hostMay = true ∧ (List.range (k - 1)).all (riseAt l) = true) ∧ Ext w wr) (fun i _ => l.length - (intOf i).toNat)
  case atStart => exact ⟨0, Nat.zero_le _, rfl, ⟨rfl, rfl⟩, Below.refl _ _⟩
  case round =>
    obtain ⟨k, hk, rfl, hg, hb⟩ := hrel
    by_cases hlt : k < l.length
    · obtain ⟨ad, A5, c5, rfl, h0, h1, h2, h3, h4, h5, hl5, HC5⟩ := C34 (Kd.C_below HC.out hb) hlt
      have hB0 : Box34 (wr.alloc (.cells #[.int .i64 l[k].f0, .string l[k].f1, .int .i64 l[k].f2, .string l[k].f3, .int .i64 l[k].f4, .slice A5 l[k].f5.length c5] 34)) wr.heap.size l[k] A5 c5 := heap_alloc_new wr _
      have hX : Hid (Ext w (wr.alloc (.cells #[.int .i64 l[k].f0, .string l[k].f1, .int .i64 l[k].f2, .string l[k].f3, .int .i64 l[k].f4, .slice A5 l[k].f5.length c5] 34))) := Ext.tr hb (ext_alloc _ _)
      have hC5 : Hid (k77.C (wr.alloc (.cells #[.int .i64 l[k].f0, .string l[k].f1, .int .i64 l[k].f2, .string l[k].f3, .int .i64 l[k].f4, .slice A5 l[k].f5.length c5] 34)) A5 l[k].f5.length l[k].f5) := Kd.C_below HC5.out (ext_alloc _ _)
      have hC34 : Hid (k34.C (wr.alloc (.cells #[.int .i64 l[k].f0, .string l[k].f1, .int .i64 l[k].f2, .string l[k].f3, .int .i64 l[k].f4, .slice A5 l[k].f5.length c5] 34)) (some ad) l.length l) := Kd.C_below HC.out hX.out
      obtain ⟨x0, x1, x2, x3, x4, x5⟩ := hB0.cells
      have y0 := fun d os => cell_regrown x0 d os
      have y1 := fun d os => cell_regrown x1 d os
      have y2 := fun d os => cell_regrown x2 d os
      have y3 := fun d os => cell_regrown x3 d os
      have y4 := fun d os => cell_regrown x4 d os
      have y5 := fun d os => cell_regrown x5 d os
      clear x0 x1 x2 x3 x4 x5 hB0
      cases hp : hostMay l[k]
      · have hl := Lib.hid (tableMay_no1 hlt hp)
        go_wp2
        refine wp_region_quiet_below (by kernel_rfl) (by kernel_rfl) ?_
        repeat (go_big_quiet_step ((go_at_call 15; exact q15 l[k] A5 c5 _ hC5.out hl5 _ _)))
        refine wpQuiet_nil ?_
        intro _ hw'
        obtain ⟨⟨dq, osq⟩, hw''⟩ := hw'
        subst hw''
        have hz := Lib.hid (Ext.tr hX.out (below_regrown _ dq osq))
        go_wp2
        go_ret
        exact ⟨by rw [hl.out]; rfl, hz.out⟩
      · by_cases hk0 : k = 0
        · have hr : Hid ((l.take (k + 1)).all hostMay = true ∧ (List.range (k + 1 - 1)).all (riseAt l) = true) := ⟨all_snoc hlt hg.out.1 hp, by subst hk0; rfl⟩
          have hz0 : decide (0 < k) = false := decide_eq_false (by omega)
          clear hk0
          go_wp2
          refine wp_region_quiet_below (by kernel_rfl) (by kernel_rfl) ?_
          repeat (go_big_quiet_step ((go_at_call 15; exact q15 l[k] A5 c5 _ hC5.out hl5 _ _)))
          refine wpQuiet_nil ?_
          intro _ hw'
          obtain ⟨⟨dq, osq⟩, hw''⟩ := hw'
          subst hw''
          have hz := Lib.hid (Ext.tr hX.out (below_regrown _ dq osq))
          go_wp2
          go_roundw
          case rel => exact ⟨k + 1, by omega, by go_num, hr, hz.out⟩
          case measure => simp [intOf]; omega
        obtain ⟨j, rfl⟩ : ∃ j, k = j + 1 := ⟨k - 1, by omega⟩
        clear hk0
        obtain ⟨ad', A6, c6, e6, z0, -, -, -, -, -, -, -⟩ := C34 hC34.out (k := j) (by omega)
        cases e6
        have y6 := fun d os => cell_regrown z0 d os
        clear z0
        have hgt : (0 : Int) < (j : Int) + 1 := by omega
        by_cases hle : l[j + 1].f0 ≤ l[j].f0
        · have hl := Lib.hid (tableMay_no2 hlt hle)
          go_wp2
          refine wp_region_quiet_below (by kernel_rfl) (by kernel_rfl) ?_
          repeat (go_big_quiet_step ((go_at_call 15; exact q15 l[j + 1] A5 c5 _ hC5.out hl5 _ _)))
          refine wpQuiet_nil ?_
          intro _ hw'
          obtain ⟨⟨dq, osq⟩, hw''⟩ := hw'
          subst hw''
          have hz := Lib.hid (Ext.tr hX.out (below_regrown _ dq osq))
          go_wp2
          go_ret
          exact ⟨by rw [hl.out]; rfl, hz.out⟩
        · have hr : Hid ((l.take (j + 1 + 1)).all hostMay = true ∧ (List.range (j + 1 + 1 - 1)).all (riseAt l) = true) := ⟨all_snoc hlt hg.out.1 hp, range_step hg.out.2 (by rw [riseAt_of l j hlt]; simpa using hle)⟩
          go_wp2
          refine wp_region_quiet_below (by kernel_rfl) (by kernel_rfl) ?_
          repeat (go_big_quiet_step ((go_at_call 15; exact q15 l[j + 1] A5 c5 _ hC5.out hl5 _ _)))
          refine wpQuiet_nil ?_
          intro _ hw'
          obtain ⟨⟨dq, osq⟩, hw''⟩ := hw'
          subst hw''
          have hz := Lib.hid (Ext.tr hX.out (below_regrown _ dq osq))
          go_wp2
          go_roundw
          case rel => exact ⟨j + 1 + 1, by omega, by go_num, hr, hz.out⟩
          case measure => simp [intOf]; omega
    · have hr : Hid (tableMay l = decide (l.length ≤ 64)) := by
        show _ = _
        have e : l.take k = l := List.take_of_length_le (by omega)
        obtain ⟨e2, e3⟩ := hg.out
        rw [e] at e2
        have e4 : risesB l = true := range_done (by omega) e3
        simp [tableMay, e2, e4]
      go_wp2
      go_ret
      exact ⟨by rw [hr.out]; simp; omega, hb⟩
end
section
open Go.RowKit Go.Proofs.YthfolhgaecfogaaW.PrintWords Go.Proofs.YthfolhgaecfogaaW.PrintLast Go.Proofs.YthfolhgaecfogaaW.PrintMore
theorem info77 : (Try.prog.info? 77).map (fun i => (i.zero, i.size, i.bytes)) = some (some (.agg #[.string ⟨#[]⟩, .string ⟨#[]⟩]), 2, 32) := by kernel_rfl
theorem info34 : (Try.prog.info? 34).map (fun i => (i.zero, i.size, i.bytes)) = some (some (.agg #[.int .i64 0, .string ⟨#[]⟩, .int .i64 0, .string ⟨#[]⟩, .int .i64 0, .slice none 0 0]), 6, 80) := by kernel_rfl
/-- new memory that reads as l -/
abbrev New {α : Type} (d : Kd α) (e : Nat) (w w' : World) (v : Value) (l : List α) : Prop := Kd.R d e w' w.heap.size (fun _ => True) v l
theorem C_A {α : Type} {d : Kd α} {w : World} {l : List α} (h : Kd.C d w none l.length l) : l = [] := by
  rcases l with _ | ⟨a, r⟩
  · rfl
  · obtain ⟨ad, e, _⟩ := h.2.2 (by simp); cases e
theorem km77 (W : World) (base : Nat) (ok : Nat → Prop) (x : S77) (cs : List Value) (h : k77.K W x cs) : k77.M W base ok x cs := by
  obtain rfl := k77_open h
  exact k77_mkM _ _ _ _
/-- an empty row that has just been made -/
theorem R_empty {α : Type} (d : Kd α) (e : Nat) (W : World) (base : Nat) (hb : base ≤ W.heap.size) : Kd.R d e (W.alloc (.cells #[] e)) base (fun _ => True) (.slice (some ⟨W.heap.size, 0, none⟩) 0 0) [] :=
  ⟨fun _ _ => trivial, [], by simpa using World.ownsRow_lit (base := base) (e := e) (size := d.sz) W #[] 0 hb (by simp [maxLen]) (by simp), Reps.none _ _⟩
set_option maxRecDepth 100000 in
set_option maxHeartbeats 1000000 in
theorem clone77_any (A : Option Addr) (c : Nat) (l : List S77) (w : World) (hC : Kd.C k77 w A l.length l) (hc : l.length ≤ c) (hl : l.length ≤ 4194304) :
    Calls Try.prog 73 #[.slice A l.length c] w fun e w' => ∃ v, e = .returned v ∧ New k77 77 w w' v l ∧ Ext w w' := by
  rcases A with _ | ad
  · obtain rfl := C_A hC
    have heq : (binOp .eql 32 (.slice none 0 c) (.slice none 0 0)).run Try.prog w = .ok (.bool true) w := Lib.run_eql_slice_nil (P := Try.prog) w 32 77 none 0 c 0 0 Try.underlying32
    go_enter Try.func73, Try.ntmps73
    go_wp2
    go_ret
    exact ⟨_, rfl, Kd.R_nil _ _ _ _ _, Below.refl _ _⟩
  · have heq : (binOp .eql 32 (.slice (some ad) l.length c) (.slice none 0 0)).run Try.prog w = .ok (.bool false) w := Lib.run_eql_slice_nil (P := Try.prog) w 32 77 (some ad) l.length c 0 0 Try.underlying32
    have HC := Lib.hid hC
    clear hC
    go_enter Try.func73, Try.ntmps73
    go_wp2_with (at_builtin; refine Kd.R_append_rows (w0 := w) k77 w.heap.size rfl _ _ _ 77 _ 32 rfl Try.underlying32 info77 rfl (by decide) (by decide) _ [] l _ _ _ (fun _ => True) (fun _ => False) rfl rfl (R_empty k77 77 w w.heap.size (Nat.le_refl _)) (Kd.C_below HC.out (ext_alloc _ _)) (fun x cs h => km77 _ _ _ x cs h) (fun k hk => hk.elim) (fun _ _ => trivial) (ext_alloc w _) (by simp) (by simp; omega) ?_; intro v1 w1 hR hb hg hat)
    go_ret
    exact ⟨_, rfl, hR, hb⟩
def Blk34 (w : World) (g : Nat) (cs : Array Value) : Prop := w.heap[g]? = some (.cells cs 34 (0, 0))
theorem Blk34.cells {w : World} {g : Nat} {a0 a1 a2 a3 a4 a5 : Value} (h : Blk34 w g #[a0, a1, a2, a3, a4, a5]) : w.cell? ⟨g, 0, none⟩ = some a0 ∧ w.cell? ⟨g, 1, none⟩ = some a1 ∧ w.cell? ⟨g, 2, none⟩ = some a2 ∧ w.cell? ⟨g, 3, none⟩ = some a3 ∧ w.cell? ⟨g, 4, none⟩ = some a4 ∧ w.cell? ⟨g, 5, none⟩ = some a5 :=
  ⟨blk_cell h 0, blk_cell h 1, blk_cell h 2, blk_cell h 3, blk_cell h 4, blk_cell h 5⟩
theorem Blk34.free {w : World} {g : Nat} {cs : Array Value} (h : Blk34 w g cs) : ∀ j, w.frozen? ⟨g, j, none⟩ = false := fun j => blk_frozen h j
/-- new memory stays where only what lies below it is written -/
theorem New_away {α : Type} {d : Kd α} {e B : Nat} {w1 w2 : World} {v : Value} {l : List α} (h : Kd.R d e w1 B (fun _ => True) v l) (hk : ∀ b, B ≤ b → b < w1.heap.size → w2.heap[b]? = w1.heap[b]?) : Kd.R d e w2 B (fun _ => True) v l :=
  Kd.R_mono (Kd.R_step (Kd.R_bound h) (fun k hk' hlt => hk k hk'.2.1 hlt)) (fun _ _ => trivial)
def nHost (h : S34) (v : Value) : Value := .agg #[.int .i64 h.f0, .string h.f1, .int .i64 h.f2, .string h.f3, .int .i64 h.f4, v]
set_option maxRecDepth 100000 in
set_option maxHeartbeats 1000000 in
theorem copy_any (h : S34) (A : Option Addr) (c : Nat) (w : World) (hC : Kd.C k77 w A h.f5.length h.f5) (hc : h.f5.length ≤ c) (hl : h.f5.length ≤ 4194304) :
    Calls Try.prog 51 #[vHost h A c] w fun e w' => ∃ v, e = .returned (nHost h v) ∧ New k77 77 w w' v h.f5 ∧ Ext w w' := by
  have hu34 := Try.underlying34
  have HC := Lib.hid hC
  clear hC
  unfold vHost
  go_enter Try.func51, Try.ntmps51
  go_wp2_with fail
  refine (clone77_any A c h.f5 _ (Kd.C_below HC.out (Ext.tr (ext_alloc _ _) (ext_alloc _ _))) hc hl).mono ?_
  rintro e w1 ⟨v, rfl, hR, hb⟩
  have hw0 : Blk34 w1 w.heap.size _ := (hb.block w.heap.size (by simp; omega)).trans ((Below.heap_alloc _ _ _ (by simp)).trans (heap_alloc_new w _))
  have hw1 : Blk34 w1 (w.heap.size + 1) _ := (hb.block (w.heap.size + 1) (by simp)).trans (by have := heap_alloc_new (w.alloc (.cells #[.int .i64 h.f0, .string h.f1, .int .i64 h.f2, .string h.f3, .int .i64 h.f4, .slice A h.f5.length c] 34)) (.cells #[.int .i64 0, .string ⟨#[]⟩, .int .i64 0, .string ⟨#[]⟩, .int .i64 0, .slice none 0 0] 34); rwa [World.size_alloc] at this)
  have q0 := hw0.cells
  have q1 := hw1.cells
  have f0 := hw0.free
  have f1 := hw1.free
  have hz : w.heap.size + 1 < w1.heap.size := blk_lt hw1
  have HR := Lib.hid hR
  have HB := Lib.hid (Ext.tr (Ext.tr (ext_alloc w _) (ext_alloc _ _)) hb)
  obtain ⟨A', c', rfl, hlc, _⟩ := Kd.R_reads hR
  simp only [Blk34] at hw0 hw1
  clear hw0 hw1 hR hb
  obtain ⟨x0, x1, x2, x3, x4, x5⟩ := q0
  obtain ⟨y0, y1, y2, y3, y4, y5⟩ := q1
  go_wp2
  refine bodyPost_ret (v := nHost h (.slice A' h.f5.length c')) (by simp [results, Try.results51, go_sem, nHost, x0, x1, x2, x3, x4, x5, y0, y1, y2, y3, y4, y5, f1, hz]) rfl ⟨_, rfl, ?_, ?_⟩
  · refine Kd.R_lower (New_away HR.out (fun b hb _ => ?_)) (by simp; omega)
    simp at hb
    repeat (rw [Below.heap_setCell _ _ _ _ (by simp; omega)])
  · repeat (refine Below.setCell ?_ (by simp) _)
    exact HB.out
set_option maxRecDepth 100000 in
set_option maxHeartbeats 1000000 in
theorem rcopy_any (h : S34) (A : Option Addr) (c : Nat) (w : World) (hC : Kd.C k77 w A h.f5.length h.f5) (hc : h.f5.length ≤ c) (hl : h.f5.length ≤ 4194304) :
    Calls Try.prog 62 #[vHost h A c] w fun e w' => ∃ v, e = .returned (nHost h v) ∧ New k77 77 w w' v h.f5 ∧ Ext w w' := by
  have hu34 := Try.underlying34
  have HC := Lib.hid hC
  clear hC
  unfold vHost
  go_enter Try.func62, Try.ntmps62
  go_wp2_with
    (at_builtin
     refine Kd.R_append_rows (w0 := (w.alloc (.cells #[.int .i64 h.f0, .string h.f1, .int .i64 h.f2, .string h.f3, .int .i64 h.f4, .slice A h.f5.length c] 34)).alloc (.cells #[.int .i64 0, .string ⟨#[]⟩, .int .i64 0, .string ⟨#[]⟩, .int .i64 0, .slice none 0 0] 34)) k77 (w.heap.size + 2) rfl _ _ _ 77 _ 32 rfl Try.underlying32 info77 rfl (by decide) (by decide) _ [] h.f5 _ _ _ (fun _ => True) (fun _ => False) rfl rfl (Kd.R_nil _ _ _ _ _) (Kd.C_below HC.out (Ext.tr (ext_alloc _ _) (ext_alloc _ _))) (fun x cs h => km77 _ _ _ x cs h) (fun k hk => hk.elim) (fun _ _ => trivial) (Below.refl _ _) (by simp) (by simp; omega) ?_
     intro v1 w1 hR hb hg hat
     have hw0 : Blk34 w1 w.heap.size _ := (hb.block w.heap.size (by omega)).trans ((Below.heap_alloc _ _ _ (by simp)).trans (heap_alloc_new w _))
     have hw1 : Blk34 w1 (w.heap.size + 1) _ := (hb.block (w.heap.size + 1) (by omega)).trans (by have := heap_alloc_new (w.alloc (.cells #[.int .i64 h.f0, .string h.f1, .int .i64 h.f2, .string h.f3, .int .i64 h.f4, .slice A h.f5.length c] 34)) (.cells #[.int .i64 0, .string ⟨#[]⟩, .int .i64 0, .string ⟨#[]⟩, .int .i64 0, .slice none 0 0] 34); rwa [World.size_alloc] at this)
     have HR := Lib.hid hR
     have HB := Lib.hid (Ext.tr (Ext.tr (ext_alloc w _) (ext_alloc _ _)) (hb.mono (by simp)))
     obtain ⟨A', c', rfl, hlc, _⟩ := Kd.R_reads hR
     obtain ⟨x0, x1, x2, x3, x4, x5⟩ := hw0.cells
     obtain ⟨y0, y1, y2, y3, y4, y5⟩ := hw1.cells
     have f0 := hw0.free
     have f1 := hw1.free
     have hz : w.heap.size + 1 < w1.heap.size := blk_lt hw1
     clear hw0 hw1 hR hb hg hat)
  refine bodyPost_ret (v := nHost h (.slice A' h.f5.length c')) (by simp [results, Try.results62, go_sem, nHost, x0, x1, x2, x3, x4, x5, y0, y1, y2, y3, y4, y5, f1, hz]) rfl ⟨_, rfl, ?_, ?_⟩
  · refine Kd.R_lower (New_away HR.out (fun b hb _ => ?_)) (by omega)
    repeat (rw [Below.heap_setCell _ _ _ _ (by simp; omega)])
  · repeat (refine Below.setCell ?_ (by simp) _)
    exact HB.out
end
section
open Go.RowKit Go.Proofs.YthfolhgaecfogaaW.PrintWords Go.Proofs.YthfolhgaecfogaaW.PrintLast Go.Proofs.YthfolhgaecfogaaW.PrintMore
theorem C82 {w : World} {A : Option Addr} {l : List S82} (h : Kd.C k82 w A l.length l) {k : Nat} (hk : k < l.length) :
    ∃ ad, A = some ad ∧ w.cell? (ad.add (k * 2)) = some (.int .i64 l[k].f0) ∧ w.cell? ⟨(ad.add (k * 2)).block, (ad.add (k * 2)).off + 1, none⟩ = some (.int .i64 l[k].f1) := by
  have e : rd_T82 l (k : Int) = l[k] := by
    unfold rd_T82; rw [Int.toNat_natCast, List.getD_eq_getElem?_getD, List.getElem?_eq_getElem hk]; rfl
  obtain ⟨ad, e1, h0, h1⟩ := at_T82 h (k : Int) (by omega) (by omega)
  rw [e, Int.toNat_natCast] at h0 h1
  exact ⟨ad, e1, h0, h1⟩
def lessK (a b : S82) : Bool := decide (a.f0 < b.f0) || (a.f0 == b.f0 && decide (a.f1 < b.f1))
set_option maxHeartbeats 400000 in
theorem less_any (a b : S82) (w : World) :
    Calls Try.prog 70 #[.agg #[.int .i64 a.f0, .int .i64 a.f1], .agg #[.int .i64 b.f0, .int .i64 b.f1]] w fun e w' => e = .returned (.bool (lessK a b)) ∧ Ext w w' := by
  have hu := Try.underlying82
  by_cases h1 : a.f0 < b.f0
  · have hr : Hid (lessK a b = true) := by show _ = _; simp [lessK, h1]
    go_enter Try.func70, Try.ntmps70
    go_wp2
    go_ret
    exact ⟨by rw [hr.out]; rfl, Ext.tr (ext_alloc w _) (ext_alloc _ _)⟩
  have hd : decide (a.f0 < b.f0) = false := decide_eq_false h1
  cases h2 : a.f0 == b.f0
  · have hr : Hid (lessK a b = false) := by show _ = _; simp [lessK, h1, h2]
    clear h1
    go_enter Try.func70, Try.ntmps70
    go_wp2
    go_ret
    exact ⟨by rw [hr.out]; rfl, Ext.tr (ext_alloc w _) (ext_alloc _ _)⟩
  · have hr : Hid (lessK a b = decide (a.f1 < b.f1)) := by show _ = _; simp [lessK, h1, h2]
    clear h1
    go_enter Try.func70, Try.ntmps70
    go_wp2
    go_ret
    exact ⟨by rw [hr.out]; rfl, Ext.tr (ext_alloc w _) (ext_alloc _ _)⟩
theorem q70 (a b : S82) (W : World) (d : Nat) (os : Array Obj) :
    Calls Try.prog 70 #[.agg #[.int .i64 a.f0, .int .i64 a.f1], .agg #[.int .i64 b.f0, .int .i64 b.f1]] (Go.Sort.grow (redrawn W d) os) fun e w'' => e = .returned (.bool (lessK a b)) ∧ ∃ p : Regrown, w'' = Go.Sort.grow (redrawn W p.d) p.os :=
  Calls.regrown_of (less_any a b _)
def kUpAt (l : List S82) (i : Nat) : Bool := lessK (l.getD i z82) (l.getD (i + 1) z82)
def kRises (l : List S82) : Bool := (List.range (l.length - 1)).all (kUpAt l)
theorem kUpAt_of (l : List S82) (j : Nat) (h : j + 1 < l.length) : kUpAt l j = lessK l[j] l[j + 1] := by
  unfold kUpAt
  rw [List.getD_eq_getElem?_getD, List.getD_eq_getElem?_getD, List.getElem?_eq_getElem h, List.getElem?_eq_getElem (show j < l.length by omega)]; rfl
set_option maxRecDepth 100000 in
set_option maxHeartbeats 1000000 in
theorem rising_any (A : Option Addr) (c : Nat) (l : List S82) (w : World) (hC : Kd.C k82 w A l.length l) (hc : l.length ≤ c) :
    Calls Try.prog 52 #[.slice A l.length c] w fun e w' => e = .returned (.bool (kRises l)) ∧ Ext w w' := by
  have hu := Try.underlying82
  have hm := len_max hC
  have HC := Lib.hid hC
  clear hC
  go_enter Try.func52, Try.ntmps52
  go_wp2
  go_loopw [3] (fun i wr => ∃ j : Nat, (j = 0 ∨ j + 1 ≤ l.length) ∧ i = .int .i64 ((j : Int) + 1) ∧ Hid ((List.range j).all (kUpAt l) = true) ∧ Ext w wr) (fun i _ => l.length + 1 - (intOf i).toNat)
  case atStart => exact ⟨0, .inl rfl, rfl, rfl, Below.refl _ _⟩
  case round =>
    obtain ⟨j, hj, rfl, hg, hb⟩ := hrel
    by_cases hlt : j + 1 < l.length
    · obtain ⟨ad, rfl, x0, x1⟩ := C82 (Kd.C_below HC.out hb) (k := j) (by omega)
      obtain ⟨ad', e, x2, x3⟩ := C82 (Kd.C_below HC.out hb) (k := j + 1) hlt
      cases e
      have y0 := fun d os => cell_regrown x0 d os
      have y1 := fun d os => cell_regrown x1 d os
      have y2 := fun d os => cell_regrown x2 d os
      have y3 := fun d os => cell_regrown x3 d os
      have u := kUpAt_of l j hlt
      clear x0 x1 x2 x3
      cases hp : lessK l[j] l[j + 1]
      · have hr := Lib.hid (show kRises l = false from range_stop (j := j) (by omega) (u.trans hp))
        clear u
        go_wp2
        refine wp_region_quiet_below (by kernel_rfl) (by kernel_rfl) ?_
        repeat (go_big_quiet_step ((go_at_call 70; exact q70 l[j] l[j + 1] _ _ _)))
        refine wpQuiet_nil ?_
        intro _ hw'
        obtain ⟨⟨dq, osq⟩, hw''⟩ := hw'
        subst hw''
        have hz := Lib.hid (Ext.tr hb (below_regrown _ dq osq))
        go_wp2
        go_ret
        exact ⟨by rw [hr.out]; rfl, hz.out⟩
      · have hr := Lib.hid (range_step hg.out (u.trans hp))
        clear u
        go_wp2
        refine wp_region_quiet_below (by kernel_rfl) (by kernel_rfl) ?_
        repeat (go_big_quiet_step ((go_at_call 70; exact q70 l[j] l[j + 1] _ _ _)))
        refine wpQuiet_nil ?_
        intro _ hw'
        obtain ⟨⟨dq, osq⟩, hw''⟩ := hw'
        subst hw''
        have hz := Lib.hid (Ext.tr hb (below_regrown _ dq osq))
        go_wp2
        go_roundw
        case rel => exact ⟨j + 1, .inr (by omega), by go_num, hr, hz.out⟩
        case measure => simp [intOf]; omega
    · have hr := Lib.hid (show kRises l = true from range_done (by omega) hg.out)
      have hge : l.length ≤ j + 1 := by omega
      clear hlt
      go_wp2
      go_ret
      exact ⟨by rw [hr.out]; rfl, hb⟩
def keyOf (h : S34) : S82 := ⟨h.f0, 0⟩
theorem km82 (W : World) (base : Nat) (ok : Nat → Prop) (x : S82) : k82.M W base ok x [.int .i64 x.f0, .int .i64 x.f1] := k82_mkM _ _ _ _
set_option maxRecDepth 100000 in
set_option maxHeartbeats 1000000 in
theorem keys_any (A : Option Addr) (c : Nat) (l : List S34) (w : World) (hC : Kd.C k34 w A l.length l) (hc : l.length ≤ c) (hn : l.length ≤ 4194304) :
    Calls Try.prog 48 #[.slice A l.length c] w fun e w' => ∃ v, e = .returned v ∧ New k82 82 w w' v (l.map keyOf) ∧ Ext w w' := by
  have hu := Try.underlying82
  have hu34 := Try.underlying34
  have hm := len_max hC
  have HC := Lib.hid hC
  clear hC
  go_enter Try.func48, Try.ntmps48
  go_wp2
  go_loopw [3, 8] (fun v i wr => ∃ k : Nat, k ≤ l.length ∧ i = .int .i64 k ∧ Hid (New k82 82 w wr v ((l.take k).map keyOf)) ∧ Ext w wr) (fun _ i _ => l.length - (intOf i).toNat)
  case atStart => exact ⟨0, Nat.zero_le _, rfl, Kd.R_nil _ _ _ _ _, Below.refl _ _⟩
  case round =>
    obtain ⟨k, hk, rfl, hR, hb⟩ := hrel
    by_cases hlt : k < l.length
    · obtain ⟨ad, A5, c5, rfl, h0, h1, h2, h3, h4, h5, hl5, HC5⟩ := C34 (Kd.C_below HC.out hb) hlt
      have hts : Hid ((l.take (k + 1)).map keyOf = (l.take k).map keyOf ++ [keyOf l[k]]) := by show _ = _; rw [List.take_succ_eq_append_getElem hlt, List.map_append]; rfl
      have hlen : Hid (((l.take k).map keyOf).length = k) := by show _ = _; simp; omega
      have hR1 : Hid (New k82 82 w (wr.alloc (.cells #[.int .i64 l[k].f0, .string l[k].f1, .int .i64 l[k].f2, .string l[k].f3, .int .i64 l[k].f4, .slice A5 l[k].f5.length c5] 34)) u3 ((l.take k).map keyOf)) := Kd.R_alloc hR.out _
      have hb1 : Hid (Below w.heap.size w (wr.alloc (.cells #[.int .i64 l[k].f0, .string l[k].f1, .int .i64 l[k].f2, .string l[k].f3, .int .i64 l[k].f4, .slice A5 l[k].f5.length c5] 34))) := Ext.tr hb (ext_alloc _ _)
      have hsz := hb.size
      go_wp2_with (at_builtin; refine Kd.R_append (w0 := w) k82 w.heap.size rfl _ _ _ 82 _ 16 rfl Try.underlying79 info82 rfl (by decide) (by decide) u3 ((l.take k).map keyOf) (keyOf l[k]) [.int .i64 l[k].f0, .int .i64 0] (fun _ => True) (fun _ => False) rfl (by simp [Act.eval]) (km82 _ _ _ _) (fun k hk => hk.elim) (fun _ _ => trivial) hR1.out hb1.out (by simp; omega) (by rw [hlen.out]; omega) ?_; intro v1 w1 hR2 hb2 hg hat; have HR2 := Lib.hid hR2; have HB2 := Lib.hid hb2; clear hR2 hb2 hg hat)
      go_roundw
      case rel => exact ⟨k + 1, by omega, by go_num, by show New _ _ _ _ _ _; rw [hts.out]; exact HR2.out, HB2.out⟩
      case measure => simp [intOf]; omega
    · have e : l.take k = l := List.take_of_length_le (by omega)
      have hR2 := hR.out
      rw [e] at hR2
      have HR2 := Lib.hid hR2
      clear e hR2 hR
      go_wp2
      go_ret
      exact ⟨_, rfl, HR2.out, hb⟩
end
section
open Go.RowKit Go.Proofs.YthfolhgaecfogaaW.PrintWords Go.Proofs.YthfolhgaecfogaaW.PrintLast Go.Proofs.YthfolhgaecfogaaW.PrintMore
/-- what a test of hosts, handed over as a function, answers -/
def HostFn (g : Nat) (cap : Array Value) (w : World) (p : S34 → Bool) (l : List S34) : Prop :=
  ∀ h ∈ l, ∀ A c W, Ext w W → Kd.C k77 W A h.f5.length h.f5 → h.f5.length ≤ c → Calls Try.prog g (#[vHost h A c] ++ cap) W fun e w' => e = .returned (.bool (p h)) ∧ Ext W w'
set_option maxRecDepth 100000 in
set_option maxHeartbeats 400000 in
theorem idx34_any (g : Nat) (cap : Array Value) (p : S34 → Bool) (A : Option Addr) (c : Nat) (l : List S34) (w : World) (hC : Kd.C k34 w A l.length l) (hc : l.length ≤ c) (eg : ∀ (args : Array Value) (W : World), (callFunc g args).run Try.prog W = .ok (.enter g args) W) (hf : HostFn g cap w p l) :
    Calls Try.prog 64 #[.slice A l.length c, .func (.func g) #[] cap] w fun e w' => e = .returned (.int .i64 (idxF p l)) ∧ Ext w w' := by
  have hu := Try.underlying34
  have hm := len_max hC
  have HC := Lib.hid hC
  clear hC
  go_enter Try.func64, Try.ntmps64
  go_wp2
  go_loopw [8] (fun i wr => ∃ k : Nat, k ≤ l.length ∧ i = .int .i64 k ∧ Hid ((l.take k).any p = false) ∧ Ext w wr) (fun i _ => l.length - (intOf i).toNat)
  case atStart => exact ⟨0, Nat.zero_le _, rfl, rfl, Below.refl _ _⟩
  case round =>
    obtain ⟨k, hk, rfl, hg, hb⟩ := hrel
    by_cases hlt : k < l.length
    · obtain ⟨ad, A5, c5, rfl, h0, h1, h2, h3, h4, h5, hl5, HC5⟩ := C34 (Kd.C_below HC.out hb) hlt
      go_wp2_with fail
      refine (hf l[k] (List.getElem_mem hlt) A5 c5 _ hb HC5.out hl5).mono ?_
      rintro e w1 ⟨rfl, hb1⟩
      have hb2 := Ext.tr hb hb1
      cases hp : p l[k]
      · have hr := Lib.hid (any_step hlt hg.out hp)
        go_wp2
        go_roundw
        case rel => exact ⟨k + 1, by omega, by go_num, hr, hb2⟩
        case measure => simp [intOf]; omega
      · have hr := Lib.hid (idxF_hit hlt hg.out hp)
        go_wp2
        go_ret
        exact ⟨by rw [hr.out]; rfl, hb2⟩
    · have e : l.take k = l := List.take_of_length_le (by omega)
      have e2 := hg.out
      rw [e] at e2
      have hr := Lib.hid (idxF_none e2)
      clear e e2
      go_wp2
      go_ret
      exact ⟨by rw [hr.out]; rfl, hb⟩
theorem cont34_any (g : Nat) (p : S34 → Bool) (A : Option Addr) (c : Nat) (l : List S34) (w : World) (hC : Kd.C k34 w A l.length l) (hc : l.length ≤ c) (eg : ∀ (args : Array Value) (W : World), (callFunc g args).run Try.prog W = .ok (.enter g args) W) (hf : HostFn g #[] w p l) :
    Calls Try.prog 53 #[.slice A l.length c, .func (.func g) #[] #[]] w fun e w' => e = .returned (.bool (l.any p)) ∧ Ext w w' := by
  have hr := Lib.hid (idxF_any p l)
  go_enter Try.func53, Try.ntmps53
  go_wp2_with fail
  refine (idx34_any g #[] p A c l w hC hc eg hf).mono ?_
  rintro e w1 ⟨rfl, hb1⟩
  go_wp2
  go_ret
  exact ⟨by rw [← hr.out]; rfl, hb1⟩
theorem mayFn (l : List S34) (w : World) (hl : ∀ h ∈ l, hostOk h) : HostFn 54 #[] w (fun h => !hostMay h) l := by
  intro h hh A c W hW hC hc
  have hu34 := Try.underlying34
  have HC := Lib.hid hC
  clear hC
  unfold vHost
  go_enter Try.func54, Try.ntmps54
  go_wp2_with fail
  refine (hostMay_any h A c _ (Kd.C_below HC.out (ext_alloc _ _)) hc (hl h hh)).mono ?_
  rintro e w1 ⟨rfl, hb1⟩
  go_wp2
  go_ret
  exact ⟨rfl, Ext.tr (ext_alloc _ _) hb1⟩
theorem kRises_keys (l : List S34) : kRises (l.map keyOf) = risesB l := by
  unfold kRises risesB
  rw [List.length_map]
  have key : ∀ i, i ∈ List.range (l.length - 1) → kUpAt (l.map keyOf) i = riseAt l i := by
    intro i hi
    have hlt : i + 1 < l.length := by have := List.mem_range.1 hi; omega
    rw [kUpAt_of _ i (by simpa using hlt), riseAt_of l i hlt]
    simp [lessK, keyOf]
  rw [Bool.eq_iff_iff, List.all_eq_true, List.all_eq_true]
  exact ⟨fun h i hi => (key i hi).symm.trans (h i hi), fun h i hi => (key i hi).trans (h i hi)⟩
theorem rising_n (A : Option Addr) (c n : Nat) (l : List S82) (w : World) (hC : Kd.C k82 w A n l) (hc : n ≤ c) :
    Calls Try.prog 52 #[.slice A n c] w fun e w' => e = .returned (.bool (kRises l)) ∧ Ext w w' := by
  obtain rfl : l.length = n := Kd.C_len hC
  exact rising_any A c l w hC hc
theorem C_map {α β : Type} {d : Kd β} {f : α → β} {w : World} {A : Option Addr} {l : List α} (h : Kd.C d w A (l.map f).length (l.map f)) : Kd.C d w A l.length (l.map f) := by rwa [List.length_map] at h
theorem ent54 (args : Array Value) (W : World) : (callFunc 54 args).run Try.prog W = .ok (.enter 54 args) W := Go.Proofs.enters_of Try.func54 (by kernel_rfl) rfl args W
theorem ent65 (args : Array Value) (W : World) : (callFunc 65 args).run Try.prog W = .ok (.enter 65 args) W := Go.Proofs.enters_of Try.func65 (by kernel_rfl) rfl args W
theorem tableMay_eq (l : List S34) : tableMay l = (decide (l.length ≤ 64) && kRises (l.map keyOf) && !l.any fun h => !hostMay h) := by
  rw [kRises_keys, tableMay]
  congr 1
  induction l with
  | nil => rfl
  | cons x r ih => simp only [List.all_cons, List.any_cons, ih]; cases hostMay x <;> simp
set_option maxRecDepth 100000 in
set_option maxHeartbeats 400000 in
theorem may_any (A : Option Addr) (c : Nat) (l : List S34) (w : World) (hC : Kd.C k34 w A l.length l) (hc : l.length ≤ c) (hn : l.length ≤ 4194304) (hl : ∀ h ∈ l, hostOk h) :
    Calls Try.prog 19 #[.slice A l.length c] w fun e w' => e = .returned (.bool (tableMay l)) ∧ Ext w w' := by
  have ht := Lib.hid (tableMay_eq l)
  have HC := Lib.hid hC
  clear hC
  by_cases h1 : l.length ≤ 64
  · have d1 : decide (l.length ≤ 64) = true := decide_eq_true h1
    cases h2 : kRises (l.map keyOf)
    · have hr : Hid (tableMay l = false) := by show _ = _; rw [ht.out, h2]; simp
      go_enter Try.func19, Try.ntmps19
      go_wp2_with fail
      refine (keys_any A c l w HC.out hc hn).mono ?_
      rintro e w1 ⟨v, rfl, hR, hb⟩
      obtain ⟨A1, c1, rfl, hl1, hC1⟩ := Kd.R_reads hR
      have HC1 := Lib.hid (C_map hC1)
      rw [List.length_map] at hl1
      clear hR hC1
      go_wp2_with fail
      refine (rising_n A1 c1 _ _ w1 HC1.out hl1).mono ?_
      rintro e w2 ⟨rfl, hb2⟩
      rw [h2]
      go_wp2
      go_ret
      exact ⟨by rw [hr.out]; rfl, Ext.tr hb hb2⟩
    · have hr : Hid (tableMay l = !l.any fun h => !hostMay h) := by show _ = _; rw [ht.out, h2]; simp [h1]
      go_enter Try.func19, Try.ntmps19
      go_wp2_with fail
      refine (keys_any A c l w HC.out hc hn).mono ?_
      rintro e w1 ⟨v, rfl, hR, hb⟩
      obtain ⟨A1, c1, rfl, hl1, hC1⟩ := Kd.R_reads hR
      have HC1 := Lib.hid (C_map hC1)
      rw [List.length_map] at hl1
      clear hR hC1
      go_wp2_with fail
      refine (rising_n A1 c1 _ _ w1 HC1.out hl1).mono ?_
      rintro e w2 ⟨rfl, hb2⟩
      rw [h2]
      have hb3 := Ext.tr hb hb2
      go_wp2_with fail
      refine (cont34_any 54 _ A c l w2 (Kd.C_below HC.out hb3) hc ent54 (mayFn l w2 hl)).mono ?_
      rintro e w3 ⟨rfl, hb4⟩
      go_wp2
      go_ret
      exact ⟨by rw [hr.out]; rfl, Ext.tr hb3 hb4⟩
  · have hr : Hid (tableMay l = false) := by show _ = _; simp [tableMay, h1]
    have d1 : 64 < l.length := by omega
    clear h1
    go_enter Try.func19, Try.ntmps19
    go_wp2
    go_ret
    exact ⟨by rw [hr.out]; rfl, Below.refl _ _⟩
theorem findFn (l : List S34) (w : World) (b : Nat) (id : Int) (hb : w.cell? ⟨b, 0, none⟩ = some (.int .i64 id)) : HostFn 65 #[.pointer (some ⟨b, 0, none⟩)] w (fun h => h.f0 == id) l := by
  intro h hh A c W hW hC hc
  have hu34 := Try.underlying34
  have hb1 : W.cell? ⟨b, 0, none⟩ = some (.int .i64 id) := (hW.cell (World.block_lt_of_cell? w _ hb)).trans hb
  have hlt := World.block_lt_of_cell? W _ hb1
  simp only at hlt
  clear hb hC
  unfold vHost
  go_enter Try.func65, Try.ntmps65
  go_wp2
  go_ret
  exact ⟨rfl, ext_alloc _ _⟩
set_option maxRecDepth 100000 in
theorem find_any (A : Option Addr) (c : Nat) (l : List S34) (id : Int) (w : World) (hC : Kd.C k34 w A l.length l) (hc : l.length ≤ c) :
    Calls Try.prog 41 #[.slice A l.length c, .int .i64 id] w fun e w' => e = .returned (.int .i64 (idxF (fun h => h.f0 == id) l)) ∧ Ext w w' := by
  have HC := Lib.hid hC
  clear hC
  go_enter Try.func41, Try.ntmps41
  go_wp2_with fail
  refine (idx34_any 65 _ _ A c l _ (Kd.C_below HC.out (ext_alloc _ _)) hc ent65 (findFn l _ w.heap.size id (by simp [go_sem]))).mono ?_
  rintro e w1 ⟨rfl, hb1⟩
  go_wp2
  go_ret
  exact ⟨rfl, Ext.tr (ext_alloc _ _) hb1⟩
end
section
open Go.RowKit Go.Proofs.YthfolhgaecfogaaW.PrintWords Go.Proofs.YthfolhgaecfogaaW.PrintLast Go.Proofs.YthfolhgaecfogaaW.PrintMore
theorem eqA82 (d : Nat) (w : World) (x0 y0 : Int) (x1 y1 : Int) :
    (Op.equalIn (d + 2) 82 (.agg #[.int .i64 x0, .int .i64 x1]) (.agg #[.int .i64 y0, .int .i64 y1])).run Try.prog w = .ok (x0 == y0 && (x1 == y1)) w := by
  refine eqA_of Try.underlying82 (by kernel_rfl) ?_
  refine eqf_cons (by rfl) (by go_simp; rfl) (by go_simp; rfl) (by go_simp) ?_
  exact eqf_last (by rfl) (by go_simp; rfl) (by go_simp; rfl) (by go_simp)
theorem eqA77 (d : Nat) (w : World) (x0 y0 : ByteArray) (x1 y1 : ByteArray) :
    (Op.equalIn (d + 2) 77 (.agg #[.string x0, .string x1]) (.agg #[.string y0, .string y1])).run Try.prog w = .ok (x0.toList == y0.toList && (x1.toList == y1.toList)) w := by
  refine eqA_of Try.underlying77 (by kernel_rfl) ?_
  refine eqf_cons (by rfl) (by go_simp; rfl) (by go_simp; rfl) (by go_simp) ?_
  exact eqf_last (by rfl) (by go_simp; rfl) (by go_simp; rfl) (by go_simp)
theorem q70v (a b : S82) (W : World) {r : Bool} (hr : lessK a b = r) (d : Nat) (os : Array Obj) :
    Calls Try.prog 70 #[.agg #[.int .i64 a.f0, .int .i64 a.f1], .agg #[.int .i64 b.f0, .int .i64 b.f1]] (Go.Sort.grow (redrawn W d) os) fun e w'' => e = .returned (.bool r) ∧ ∃ p : Regrown, w'' = Go.Sort.grow (redrawn W p.d) p.os :=
  hr ▸ q70 a b W d os
theorem lessK_iff (a b : S82) : lessK a b = true ↔ (a.f0 < b.f0 ∨ (a.f0 = b.f0 ∧ a.f1 < b.f1)) := by simp [lessK]
theorem lessK_no (a b : S82) : lessK a b = false ↔ ¬ (a.f0 < b.f0 ∨ (a.f0 = b.f0 ∧ a.f1 < b.f1)) := by
  rw [← lessK_iff]; simp
/-- how many are ahead -/
def posK (l : List S82) (k : S82) : Nat := (l.takeWhile (fun x => lessK x k)).length
theorem posK_eq {l : List S82} {k : S82} {p : Nat} (hp : p ≤ l.length) (h0 : ∀ i (h : i < l.length), i < p → lessK l[i] k = true) (h1 : ∀ (h : p < l.length), lessK l[p] k = false) : posK l k = p := by
  unfold posK
  induction l generalizing p with
  | nil => simp at hp; simp [hp]
  | cons x r ih =>
    rcases p with _ | p
    · have := h1 (by simp)
      simp only [List.getElem_cons_zero] at this
      simp [this]
    · have hx := h0 0 (by simp) (by omega)
      simp only [List.getElem_cons_zero] at hx
      rw [List.takeWhile_cons, hx]
      simp only [if_true, List.length_cons]
      rw [ih (by simpa using hp) (fun i h hi => by have := h0 (i + 1) (by simpa using h) (by omega); simpa using this) (fun h => by have := h1 (by simpa using h); simpa using this)]
def Sorted82 (l : List S82) : Prop := ∀ i j (hi : i < l.length) (hj : j < l.length), i < j → lessK l[i] l[j] = true
def hereK (l : List S82) (k : S82) : Bool := match l[posK l k]? with | some x => x.f0 == k.f0 && x.f1 == k.f1 | none => false
attribute [local go_sem high] eqA82
set_option maxRecDepth 100000 in
set_option maxHeartbeats 1000000 in
theorem ofind_any (A : Option Addr) (c n : Nat) (l : List S82) (k : S82) (w : World) (hC0 : Kd.C k82 w A n l) (hc0 : n ≤ c) (hs : Sorted82 l) :
    Calls Try.prog 47 #[.slice A n c, .agg #[.int .i64 k.f0, .int .i64 k.f1]] w fun e w' => e = .returned (.tuple #[.int .i64 (posK l k), .bool (hereK l k)]) ∧ Ext w w' := by
  obtain rfl : l.length = n := Kd.C_len hC0
  have hC := hC0
  have hc := hc0
  clear hC0 hc0
  have hu := Try.underlying82
  have hm := len_max hC
  have HC := Lib.hid hC
  have HS := Lib.hid hs
  clear hC hs
  go_enter Try.func47, Try.ntmps47
  go_wp2
  have hbx : (w.alloc (.cells #[.int .i64 k.f0, .int .i64 k.f1] 82)).heap[w.heap.size]? = some (.cells #[.int .i64 k.f0, .int .i64 k.f1] 82 (0, 0)) := heap_alloc_new w _
  have HBX := Lib.hid hbx
  clear hbx
  go_loopw [6, 7] (fun lo hi wr => ∃ a b : Nat, a ≤ b ∧ b ≤ l.length ∧ lo = .int .i64 a ∧ hi = .int .i64 b ∧ Hid ((∀ i (h : i < l.length), i < a → lessK l[i] k = true) ∧ (∀ i (h : i < l.length), b ≤ i → lessK l[i] k = false)) ∧ Hid (wr.heap[w.heap.size]? = some (.cells #[.int .i64 k.f0, .int .i64 k.f1] 82 (0, 0))) ∧ Ext w wr) (fun lo hi _ => (intOf hi - intOf lo).toNat)
  case atStart => exact ⟨0, l.length, Nat.zero_le _, Nat.le_refl _, rfl, rfl, ⟨fun i h hi => absurd hi (by omega), fun i h hi => absurd h (by omega)⟩, HBX.out, ext_alloc _ _⟩
  case round =>
    clear HBX
    obtain ⟨a, b, hab, hbl, rfl, rfl, hg, hB, hb⟩ := hrel
    have x4 := blk_cell hB.out 0
    have x5 := blk_cell hB.out 1
    simp only [List.getElem?_toArray, List.getElem?_cons_zero, List.getElem?_cons_succ] at x4 x5
    have y4 := fun d os => cell_regrown x4 d os
    have y5 := fun d os => cell_regrown x5 d os
    clear x4 x5
    by_cases hlt : a < b
    · obtain ⟨m, hm1, hm2, hm3⟩ : ∃ m : Nat, a ≤ m ∧ m < b ∧ (a : Int) + ((b : Int) - (a : Int)) / 2 = (m : Int) := ⟨a + (b - a) / 2, by omega, by omega, by omega⟩
      have hml : m < l.length := by omega
      obtain ⟨ad, rfl, x0, x1⟩ := C82 (Kd.C_below HC.out hb) (k := m) hml
      have y0 := fun d os => cell_regrown x0 d os
      have y1 := fun d os => cell_regrown x1 d os
      clear x0 x1
      cases hp : lessK l[m] k
      · have hr : Hid ((∀ i (h : i < l.length), i < a → lessK l[i] k = true) ∧ (∀ i (h : i < l.length), m ≤ i → lessK l[i] k = false)) := by
          refine ⟨hg.out.1, fun i h hi => ?_⟩
          rcases Nat.eq_or_lt_of_le hi with rfl | hi
          · exact hp
          · have h1 := (lessK_iff _ _).1 (HS.out m i hml h hi)
            have h2 := (lessK_no _ _).1 hp
            rw [lessK_no]; omega
        go_wp2
        refine wp_region_quiet_below (by kernel_rfl) (by kernel_rfl) ?_
        repeat (go_big_quiet_step ((go_at_call 70; exact q70v l[m] k _ hp _ _)))
        refine wpQuiet_nil ?_
        intro _ hw'
        obtain ⟨⟨dq, osq⟩, hw''⟩ := hw'
        subst hw''
        have hz := Lib.hid (Ext.tr hb (below_regrown _ dq osq))
        have hz2 : Hid ((Go.Sort.grow (redrawn wr dq) osq).heap[w.heap.size]? = some (.cells #[.int .i64 k.f0, .int .i64 k.f1] 82 (0, 0))) := ((below_regrown wr dq osq).block _ (blk_lt hB.out)).trans hB.out
        go_wp2
        go_roundw
        case rel => exact ⟨a, m, by omega, by omega, rfl, rfl, hr, hz2, hz.out⟩
        case measure => simp [intOf]; omega
      · have hr : Hid ((∀ i (h : i < l.length), i < m + 1 → lessK l[i] k = true) ∧ (∀ i (h : i < l.length), b ≤ i → lessK l[i] k = false)) := by
          refine ⟨fun i h hi => ?_, hg.out.2⟩
          rcases Nat.eq_or_lt_of_le (show i ≤ m by omega) with rfl | hi
          · exact hp
          · have h1 := (lessK_iff _ _).1 (HS.out i m h hml hi)
            have h2 := (lessK_iff _ _).1 hp
            rw [lessK_iff]; omega
        go_wp2
        refine wp_region_quiet_below (by kernel_rfl) (by kernel_rfl) ?_
        repeat (go_big_quiet_step ((go_at_call 70; exact q70v l[m] k _ hp _ _)))
        refine wpQuiet_nil ?_
        intro _ hw'
        obtain ⟨⟨dq, osq⟩, hw''⟩ := hw'
        subst hw''
        have hz := Lib.hid (Ext.tr hb (below_regrown _ dq osq))
        have hz2 : Hid ((Go.Sort.grow (redrawn wr dq) osq).heap[w.heap.size]? = some (.cells #[.int .i64 k.f0, .int .i64 k.f1] 82 (0, 0))) := ((below_regrown wr dq osq).block _ (blk_lt hB.out)).trans hB.out
        go_wp2
        go_roundw
        case rel => exact ⟨m + 1, b, by omega, by omega, by go_num, rfl, hr, hz2, hz.out⟩
        case measure => simp [intOf]; omega
    · obtain rfl : a = b := by omega
      have hpos : Hid (posK l k = a) := posK_eq hbl hg.out.1 (fun h => hg.out.2 a h (Nat.le_refl _))
      clear hg hlt hab
      by_cases hal : a < l.length
      · obtain ⟨ad, rfl, x0, x1⟩ := C82 (Kd.C_below HC.out hb) (k := a) hal
        have y0 := fun d os => cell_regrown x0 d os
        have y1 := fun d os => cell_regrown x1 d os
        have hr : Hid (hereK l k = (l[a].f0 == k.f0 && l[a].f1 == k.f1)) := by show _ = _; unfold hereK; rw [hpos.out, List.getElem?_eq_getElem hal]
        clear x0 x1
        go_wp2
        refine wp_region_quiet_below (by kernel_rfl) (by kernel_rfl) ?_
        repeat (go_big_quiet_step (fail))
        refine wpQuiet_nil ?_
        intro _ hw'
        obtain ⟨⟨dq, osq⟩, hw''⟩ := hw'
        subst hw''
        have hz := Lib.hid (Ext.tr hb (below_regrown _ dq osq))
        go_wp2
        go_ret2
        exact ⟨by rw [hpos.out, hr.out]; rfl, hz.out⟩
      · have hr : Hid (hereK l k = false) := by show _ = _; unfold hereK; rw [hpos.out, List.getElem?_eq_none (by omega)]
        have hge : l.length ≤ a := by omega
        have hd : decide (a < l.length) = false := decide_eq_false hal
        clear hal
        go_wp2
        refine wp_region_quiet_below (by kernel_rfl) (by kernel_rfl) ?_
        repeat (go_big_quiet_step (fail))
        refine wpQuiet_nil ?_
        intro _ hw'
        obtain ⟨⟨dq, osq⟩, hw''⟩ := hw'
        subst hw''
        have hz := Lib.hid (Ext.tr hb (below_regrown _ dq osq))
        go_wp2
        go_ret2
        exact ⟨by rw [hpos.out, hr.out]; rfl, hz.out⟩
end
section
open Go.RowKit Go.Proofs.YthfolhgaecfogaaW.PrintWords Go.Proofs.YthfolhgaecfogaaW.PrintLast Go.Proofs.YthfolhgaecfogaaW.PrintMore
/-- new memory: its blocks lie from B on -/
theorem New_from {α : Type} {d : Kd α} {e B : Nat} {w1 : World} {v : Value} {l : List α} (h : Kd.R d e w1 B (fun _ => True) v l) : Kd.R d e w1 B (fun k => B ≤ k) v l :=
  Kd.R_mono (Kd.R_bound h) (fun k hk => hk.2.1)
theorem hostMem {w1 : World} {B base : Nat} {h : S34} {v : Value} (hR : Kd.R k77 77 w1 B (fun _ => True) v h.f5) (hb : base ≤ B) : k34.M w1 base (fun k => B ≤ k) h [.int .i64 h.f0, .string h.f1, .int .i64 h.f2, .string h.f3, .int .i64 h.f4, v] :=
  k34_mkM w1 base _ h (Kd.R_lower (New_from hR) hb)
theorem apart_of {α : Type} {d : Kd α} {e base : Nat} {ok : Nat → Prop} {w : World} {v : Value} {l : List α} {B : Nat} (h : Kd.R d e w base ok v l) (hB : w.heap.size ≤ B) : ∀ k, B ≤ k → True ∧ some k ≠ v.ownBlock :=
  fun k hk => ⟨trivial, fun e => by have := Kd.R_lt h k e.symm; omega⟩
set_option maxRecDepth 100000 in
set_option maxHeartbeats 1000000 in
theorem copied_any (A : Option Addr) (c : Nat) (l : List S34) (w : World) (hC : Kd.C k34 w A l.length l) (hc : l.length ≤ c) (hn : l.length ≤ 4194304) (hl : ∀ h ∈ l, h.f5.length ≤ 4194304) :
    Calls Try.prog 50 #[.slice A l.length c] w fun e w' => ∃ v, e = .returned v ∧ New k34 34 w w' v l ∧ Ext w w' := by
  have hu34 := Try.underlying34
  have hm := len_max hC
  have HC := Lib.hid hC
  clear hC
  go_enter Try.func50, Try.ntmps50
  go_wp2
  go_loopw [3, 8] (fun v i wr => ∃ k : Nat, k ≤ l.length ∧ i = .int .i64 k ∧ Hid (New k34 34 w wr v (l.take k)) ∧ Ext w wr) (fun _ i _ => l.length - (intOf i).toNat)
  case atStart => exact ⟨0, Nat.zero_le _, rfl, Kd.R_nil _ _ _ _ _, Below.refl _ _⟩
  case round =>
    obtain ⟨k, hk, rfl, hR, hb⟩ := hrel
    by_cases hlt : k < l.length
    · obtain ⟨ad, A5, c5, rfl, h0, h1, h2, h3, h4, h5, hl5, HC5⟩ := C34 (Kd.C_below HC.out hb) hlt
      have hts : Hid (l.take (k + 1) = l.take k ++ [l[k]]) := List.take_succ_eq_append_getElem hlt
      have hlen : Hid ((l.take k).length = k) := by show _ = _; simp; omega
      have hR1 : Hid (New k34 34 w (wr.alloc (.cells #[.int .i64 l[k].f0, .string l[k].f1, .int .i64 l[k].f2, .string l[k].f3, .int .i64 l[k].f4, .slice A5 l[k].f5.length c5] 34)) u3 (l.take k)) := Kd.R_alloc hR.out _
      have hb1 : Hid (Ext w (wr.alloc (.cells #[.int .i64 l[k].f0, .string l[k].f1, .int .i64 l[k].f2, .string l[k].f3, .int .i64 l[k].f4, .slice A5 l[k].f5.length c5] 34))) := Ext.tr hb (ext_alloc _ _)
      have hm5 := hl l[k] (List.getElem_mem hlt)
      go_wp2_with fail
      refine (copy_any l[k] A5 c5 _ (Kd.C_below HC5.out (ext_alloc _ _)) hl5 hm5).mono ?_
      rintro e w1 ⟨v, rfl, hN, hb2⟩
      have hR2 := Kd.R_below hR1.out hb2
      have hM := Lib.hid (hostMem (base := w.heap.size) hN hb1.out.size)
      have hap := Lib.hid (apart_of hR1.out (Nat.le_refl _))
      have hb3 := Ext.tr hb1.out hb2
      have HR2 := Lib.hid hR2
      have HB3 := Lib.hid hb3
      obtain ⟨A', c', rfl, hlc, _⟩ := Kd.R_reads hN
      clear hN hR2 hb2 hb3 h0 h1 h2 h3 h4 h5
      unfold nHost
      go_wp2_with (at_builtin; refine Kd.R_append (w0 := w) k34 w.heap.size rfl _ _ _ 34 _ 80 rfl Try.underlying22 info34 rfl (by decide) (by decide) u3 (l.take k) l[k] [.int .i64 l[k].f0, .string l[k].f1, .int .i64 l[k].f2, .string l[k].f3, .int .i64 l[k].f4, .slice A' l[k].f5.length c'] (fun _ => True) _ rfl (by simp [Act.eval]) hM.out hap.out (fun _ _ => trivial) HR2.out HB3.out HB3.out.size (by rw [hlen.out]; omega) ?_; intro v1 w2 hR3 hb4 hg hat; have HR3 := Lib.hid hR3; have HB4 := Lib.hid hb4; clear hR3 hb4 hg hat)
      go_roundw
      case rel => exact ⟨k + 1, by omega, by go_num, by show New _ _ _ _ _ _; rw [hts.out]; exact HR3.out, HB4.out⟩
      case measure => simp [intOf]; omega
    · have e : l.take k = l := List.take_of_length_le (by omega)
      have hR2 := hR.out
      rw [e] at hR2
      have HR2 := Lib.hid hR2
      clear e hR2 hR
      go_wp2
      go_ret
      exact ⟨_, rfl, HR2.out, hb⟩
end
end Go.Proofs.Ythfolhgaecfogaa
