import Derived.Test.YthfolhgaecfogaaT7
set_option linter.unusedVariables false
set_option linter.unusedSimpArgs false
namespace Go.Proofs.Ythfolhgaecfogaa
open Go.RowKit Go.Proofs.YthfolhgaecfogaaW.PrintWords Go.Proofs.YthfolhgaecfogaaW.PrintLast Go.Proofs.YthfolhgaecfogaaW.PrintMore
theorem info77 : (Try.prog.info? 77).map (fun i => (i.zero, i.size, i.bytes)) = some (some (.agg #[.string ⟨#[]⟩, .string ⟨#[]⟩]), 2, 32) := by kernel_rfl
theorem info34 : (Try.prog.info? 34).map (fun i => (i.zero, i.size, i.bytes)) = some (some (.agg #[.int .i64 0, .string ⟨#[]⟩, .int .i64 0, .string ⟨#[]⟩, .int .i64 0, .slice none 0 0]), 6, 80) := by kernel_rfl
/-- new memory that reads as l -/
abbrev New {α : Type} (d : Kd α) (e : Nat) (w w' : World) (v : Value) (l : List α) : Prop := Kd.R d e w' w.heap.size (fun _ => True) v l
theorem C_A {α : Type} {d : Kd α} {w : World} {l : List α} (h : Kd.C d w none l.length l) : l = [] := by
  rcases l with _ | ⟨a, r⟩
  · rfl
  · obtain ⟨ad, e, _⟩ := h.2.2 (by simp); cases e
theorem km77 (W : World) (base : Nat) (ok : Nat → Prop) (x : S77) (cs : List Value) (h : k77.K W x cs) : k77.M W base ok x cs := by
  obtain rfl := k77_open h
  exact k77_mkM _ _ _ _
/-- an empty row that has just been made -/
theorem R_empty {α : Type} (d : Kd α) (e : Nat) (W : World) (base : Nat) (hb : base ≤ W.heap.size) : Kd.R d e (W.alloc (.cells #[] e)) base (fun _ => True) (.slice (some ⟨W.heap.size, 0, none⟩) 0 0) [] :=
  ⟨fun _ _ => trivial, [], by simpa using World.ownsRow_lit (base := base) (e := e) (size := d.sz) W #[] 0 hb (by simp [maxLen]) (by simp), Reps.none _ _⟩
set_option maxRecDepth 100000 in
set_option maxHeartbeats 1000000 in
theorem clone77_any (A : Option Addr) (c : Nat) (l : List S77) (w : World) (hC : Kd.C k77 w A l.length l) (hc : l.length ≤ c) (hl : l.length ≤ 4194304) :
    Calls Try.prog 73 #[.slice A l.length c] w fun e w' => ∃ v, e = .returned v ∧ New k77 77 w w' v l ∧ Ext w w' := by
  rcases A with _ | ad
  · obtain rfl := C_A hC
    have heq : (binOp .eql 32 (.slice none 0 c) (.slice none 0 0)).run Try.prog w = .ok (.bool true) w := Lib.run_eql_slice_nil (P := Try.prog) w 32 77 none 0 c 0 0 Try.underlying32
    go_enter Try.func73, Try.ntmps73
    go_wp2
    go_ret
    exact ⟨_, rfl, Kd.R_nil _ _ _ _ _, Below.refl _ _⟩
  · have heq : (binOp .eql 32 (.slice (some ad) l.length c) (.slice none 0 0)).run Try.prog w = .ok (.bool false) w := Lib.run_eql_slice_nil (P := Try.prog) w 32 77 (some ad) l.length c 0 0 Try.underlying32
    have HC := Lib.hid hC
    clear hC
    go_enter Try.func73, Try.ntmps73
    go_wp2_with (at_builtin; refine Kd.R_append_rows (w0 := w) k77 w.heap.size rfl _ _ _ 77 _ 32 rfl Try.underlying32 info77 rfl (by decide) (by decide) _ [] l _ _ _ (fun _ => True) (fun _ => False) rfl rfl (R_empty k77 77 w w.heap.size (Nat.le_refl _)) (Kd.C_below HC.out (ext_alloc _ _)) (fun x cs h => km77 _ _ _ x cs h) (fun k hk => hk.elim) (fun _ _ => trivial) (ext_alloc w _) (by simp) (by simp; omega) ?_; intro v1 w1 hR hb hg hat)
    go_ret
    exact ⟨_, rfl, hR, hb⟩
def Blk34 (w : World) (g : Nat) (cs : Array Value) : Prop := w.heap[g]? = some (.cells cs 34 (0, 0))
theorem Blk34.cells {w : World} {g : Nat} {a0 a1 a2 a3 a4 a5 : Value} (h : Blk34 w g #[a0, a1, a2, a3, a4, a5]) : w.cell? ⟨g, 0, none⟩ = some a0 ∧ w.cell? ⟨g, 1, none⟩ = some a1 ∧ w.cell? ⟨g, 2, none⟩ = some a2 ∧ w.cell? ⟨g, 3, none⟩ = some a3 ∧ w.cell? ⟨g, 4, none⟩ = some a4 ∧ w.cell? ⟨g, 5, none⟩ = some a5 :=
  ⟨blk_cell h 0, blk_cell h 1, blk_cell h 2, blk_cell h 3, blk_cell h 4, blk_cell h 5⟩
theorem Blk34.free {w : World} {g : Nat} {cs : Array Value} (h : Blk34 w g cs) : ∀ j, w.frozen? ⟨g, j, none⟩ = false := fun j => blk_frozen h j
/-- new memory stays where only what lies below it is written -/
theorem New_away {α : Type} {d : Kd α} {e B : Nat} {w1 w2 : World} {v : Value} {l : List α} (h : Kd.R d e w1 B (fun _ => True) v l) (hk : ∀ b, B ≤ b → b < w1.heap.size → w2.heap[b]? = w1.heap[b]?) : Kd.R d e w2 B (fun _ => True) v l :=
  Kd.R_mono (Kd.R_step (Kd.R_bound h) (fun k hk' hlt => hk k hk'.2.1 hlt)) (fun _ _ => trivial)
def nHost (h : S34) (v : Value) : Value := .agg #[.int .i64 h.f0, .string h.f1, .int .i64 h.f2, .string h.f3, .int .i64 h.f4, v]
set_option maxRecDepth 100000 in
set_option maxHeartbeats 1000000 in
theorem copy_any (h : S34) (A : Option Addr) (c : Nat) (w : World) (hC : Kd.C k77 w A h.f5.length h.f5) (hc : h.f5.length ≤ c) (hl : h.f5.length ≤ 4194304) :
    Calls Try.prog 51 #[vHost h A c] w fun e w' => ∃ v, e = .returned (nHost h v) ∧ New k77 77 w w' v h.f5 ∧ Ext w w' := by
  have hu34 := Try.underlying34
  have HC := Lib.hid hC
  clear hC
  unfold vHost
  go_enter Try.func51, Try.ntmps51
  go_wp2_with fail
  refine (clone77_any A c h.f5 _ (Kd.C_below HC.out (Ext.tr (ext_alloc _ _) (ext_alloc _ _))) hc hl).mono ?_
  rintro e w1 ⟨v, rfl, hR, hb⟩
  have hw0 : Blk34 w1 w.heap.size _ := (hb.block w.heap.size (by simp; omega)).trans ((Below.heap_alloc _ _ _ (by simp)).trans (heap_alloc_new w _))
  have hw1 : Blk34 w1 (w.heap.size + 1) _ := (hb.block (w.heap.size + 1) (by simp)).trans (by have := heap_alloc_new (w.alloc (.cells #[.int .i64 h.f0, .string h.f1, .int .i64 h.f2, .string h.f3, .int .i64 h.f4, .slice A h.f5.length c] 34)) (.cells #[.int .i64 0, .string ⟨#[]⟩, .int .i64 0, .string ⟨#[]⟩, .int .i64 0, .slice none 0 0] 34); rwa [World.size_alloc] at this)
  have q0 := hw0.cells
  have q1 := hw1.cells
  have f0 := hw0.free
  have f1 := hw1.free
  have hz : w.heap.size + 1 < w1.heap.size := blk_lt hw1
  have HR := Lib.hid hR
  have HB := Lib.hid (Ext.tr (Ext.tr (ext_alloc w _) (ext_alloc _ _)) hb)
  obtain ⟨A', c', rfl, hlc, _⟩ := Kd.R_reads hR
  simp only [Blk34] at hw0 hw1
  clear hw0 hw1 hR hb
  obtain ⟨x0, x1, x2, x3, x4, x5⟩ := q0
  obtain ⟨y0, y1, y2, y3, y4, y5⟩ := q1
  go_wp2
  refine bodyPost_ret (v := nHost h (.slice A' h.f5.length c')) (by simp [results, Try.results51, go_sem, nHost, x0, x1, x2, x3, x4, x5, y0, y1, y2, y3, y4, y5, f1, hz]) rfl ⟨_, rfl, ?_, ?_⟩
  · refine Kd.R_lower (New_away HR.out (fun b hb _ => ?_)) (by simp; omega)
    simp at hb
    repeat (rw [Below.heap_setCell _ _ _ _ (by simp; omega)])
  · repeat (refine Below.setCell ?_ (by simp) _)
    exact HB.out
set_option maxRecDepth 100000 in
set_option maxHeartbeats 1000000 in
theorem rcopy_any (h : S34) (A : Option Addr) (c : Nat) (w : World) (hC : Kd.C k77 w A h.f5.length h.f5) (hc : h.f5.length ≤ c) (hl : h.f5.length ≤ 4194304) :
    Calls Try.prog 62 #[vHost h A c] w fun e w' => ∃ v, e = .returned (nHost h v) ∧ New k77 77 w w' v h.f5 ∧ Ext w w' := by
  have hu34 := Try.underlying34
  have HC := Lib.hid hC
  clear hC
  unfold vHost
  go_enter Try.func62, Try.ntmps62
  go_wp2_with
    (at_builtin
     refine Kd.R_append_rows (w0 := (w.alloc (.cells #[.int .i64 h.f0, .string h.f1, .int .i64 h.f2, .string h.f3, .int .i64 h.f4, .slice A h.f5.length c] 34)).alloc (.cells #[.int .i64 0, .string ⟨#[]⟩, .int .i64 0, .string ⟨#[]⟩, .int .i64 0, .slice none 0 0] 34)) k77 (w.heap.size + 2) rfl _ _ _ 77 _ 32 rfl Try.underlying32 info77 rfl (by decide) (by decide) _ [] h.f5 _ _ _ (fun _ => True) (fun _ => False) rfl rfl (Kd.R_nil _ _ _ _ _) (Kd.C_below HC.out (Ext.tr (ext_alloc _ _) (ext_alloc _ _))) (fun x cs h => km77 _ _ _ x cs h) (fun k hk => hk.elim) (fun _ _ => trivial) (Below.refl _ _) (by simp) (by simp; omega) ?_
     intro v1 w1 hR hb hg hat
     have hw0 : Blk34 w1 w.heap.size _ := (hb.block w.heap.size (by omega)).trans ((Below.heap_alloc _ _ _ (by simp)).trans (heap_alloc_new w _))
     have hw1 : Blk34 w1 (w.heap.size + 1) _ := (hb.block (w.heap.size + 1) (by omega)).trans (by have := heap_alloc_new (w.alloc (.cells #[.int .i64 h.f0, .string h.f1, .int .i64 h.f2, .string h.f3, .int .i64 h.f4, .slice A h.f5.length c] 34)) (.cells #[.int .i64 0, .string ⟨#[]⟩, .int .i64 0, .string ⟨#[]⟩, .int .i64 0, .slice none 0 0] 34); rwa [World.size_alloc] at this)
     have HR := Lib.hid hR
     have HB := Lib.hid (Ext.tr (Ext.tr (ext_alloc w _) (ext_alloc _ _)) (hb.mono (by simp)))
     obtain ⟨A', c', rfl, hlc, _⟩ := Kd.R_reads hR
     obtain ⟨x0, x1, x2, x3, x4, x5⟩ := hw0.cells
     obtain ⟨y0, y1, y2, y3, y4, y5⟩ := hw1.cells
     have f0 := hw0.free
     have f1 := hw1.free
     have hz : w.heap.size + 1 < w1.heap.size := blk_lt hw1
     clear hw0 hw1 hR hb hg hat)
  refine bodyPost_ret (v := nHost h (.slice A' h.f5.length c')) (by simp [results, Try.results62, go_sem, nHost, x0, x1, x2, x3, x4, x5, y0, y1, y2, y3, y4, y5, f1, hz]) rfl ⟨_, rfl, ?_, ?_⟩
  · refine Kd.R_lower (New_away HR.out (fun b hb _ => ?_)) (by omega)
    repeat (rw [Below.heap_setCell _ _ _ _ (by simp; omega)])
  · repeat (refine Below.setCell ?_ (by simp) _)
    exact HB.out
end Go.Proofs.Ythfolhgaecfogaa
