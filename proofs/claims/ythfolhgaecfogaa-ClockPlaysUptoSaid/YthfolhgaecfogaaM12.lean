import Derived.Test.YthfolhgaecfogaaM10
set_option linter.unusedVariables false
set_option linter.unusedSimpArgs false
namespace Go.Proofs.Ythfolhgaecfogaa
section
open Go.RowKit Go.Proofs.YthfolhgaecfogaaW.PrintWords Go.Proofs.YthfolhgaecfogaaW.PrintLast Go.Proofs.YthfolhgaecfogaaW.PrintMore
set_option maxRecDepth 100000 in
set_option maxHeartbeats 1000000 in
theorem rat_any (kind id : Int) (w : World) (B p : Nat) (v : Value) (now : Int) (L : List S48) (h : Clk 61 w B p v now L) :
    Calls Try.prog 33 #[.pointer (some ⟨p, 0, none⟩), .int .i64 kind, .int .i64 id] w fun e w' => e = .returned (.tuple #[.int .i64 (atV L kind id), .bool (decide (0 ≤ idxT L kind id))]) ∧ Ext w w' := by
  have hu := Try.underlying61
  have hu48 := Try.underlying48
  have H := Lib.hid h
  obtain ⟨q0, q1⟩ := h.cells
  have hlt := h.lt
  obtain ⟨A, n, c, rfl⟩ := Row_slice h.2.2
  obtain ⟨hn1, hnc1, hCC⟩ := Kd.R_reads' h.2.2
  have hm := Kd.C_max hCC
  have HC : Hid (Kd.C k48 w A n L) := by show Kd.C _ _ _ _ _; rw [hn1]; exact hCC
  have HN := Lib.hid hn1
  have hnm : n ≤ 9223372036854775807 := by omega
  clear h hCC hn1
  go_enter Try.func33, Try.ntmps33
  go_wp2
  go_loopw [15] (fun i wr => ∃ k : Nat, k ≤ n ∧ i = .int .i64 k ∧ Hid ((L.take k).any (hitT kind id) = false) ∧ Ext w wr) (fun i _ => n - (intOf i).toNat)
  case atStart => exact ⟨0, Nat.zero_le _, rfl, rfl, Below.refl _ _⟩
  case round =>
    obtain ⟨k, hk, rfl, hg, hb⟩ := hrel
    by_cases hlt2 : k < n
    · have hkL : k < L.length := by have := HN.out; omega
      obtain ⟨ad, rfl, x0, x1, x2⟩ := C48 (Kd.C_below HC.out hb) hkL
      have hb1 : Hid (Ext w (wr.alloc (.cells #[.int .i64 L[k].f0, .int .i64 L[k].f1, .int .i64 L[k].f2] 48))) := Ext.tr hb (ext_alloc _ _)
      cases hp : hitT kind id L[k]
      · have hr := Lib.hid (any_step hkL hg.out hp)
        cases e1 : (L[k].f1 == kind)
        case false =>
          clear hp
          go_wp2
          go_roundw
          case rel => exact ⟨k + 1, by omega, by go_num, hr, hb1.out⟩
          case measure => simp [intOf]; omega
        case true =>
          have e2 : (L[k].f2 == id) = false := by
            have h3 := hitT_no.1 hp
            have h4 : L[k].f1 = kind := by simpa using e1
            rw [beq_eq_false_iff_ne]
            exact fun h5 => h3 ⟨h4, h5⟩
          clear hp
          go_wp2
          go_roundw
          case rel => exact ⟨k + 1, by omega, by go_num, hr, hb1.out⟩
          case measure => simp [intOf]; omega
      · have hi : idxT L kind id = k := idxF_hit hkL hg.out hp
        have hp' := hitT_iff.1 hp
        have e1 : (L[k].f1 == kind) = true := beq_iff_eq.2 hp'.1
        have e2 : (L[k].f2 == id) = true := beq_iff_eq.2 hp'.2
        have hr : Hid (atV L kind id = L[k].f0) := by
          show _ = _
          unfold atV
          rw [if_pos (by omega), hi, Int.toNat_natCast, List.getD_eq_getElem?_getD, List.getElem?_eq_getElem hkL]
          rfl
        have hd : Hid (decide (0 ≤ idxT L kind id) = true) := by show _ = _; rw [hi]; simp
        clear hp hp' hi
        go_wp2
        go_ret2
        exact ⟨by rw [hd.out, hr.out]; rfl, hb1.out⟩
    · have e : L.take k = L := List.take_of_length_le (by have := HN.out; omega)
      have e2 := hg.out
      rw [e] at e2
      have hi : idxT L kind id = -1 := idxF_none e2
      have hr : Hid (atV L kind id = 0) := by show _ = _; unfold atV; rw [if_neg (by omega)]
      have hd : Hid (decide (0 ≤ idxT L kind id) = false) := by show _ = _; rw [hi]; rfl
      clear e e2 hi
      go_wp2
      go_ret2
      exact ⟨by rw [hd.out, hr.out]; rfl, hb⟩
set_option maxHeartbeats 1000000 in
theorem sameTimers_any (A A' : Option Addr) (n n' c c' : Nat) (l : List S48) (w : World) (hC : Kd.C k48 w A n l) (hC' : Kd.C k48 w A' n' l) (hc : n ≤ c) (hc' : n' ≤ c') :
    Calls Try.prog 35 #[.slice A n c, .slice A' n' c'] w fun e w' => e = .returned (.bool true) ∧ Ext w w' := by
  have hu48 := Try.underlying48
  obtain rfl : l.length = n := Kd.C_len hC
  obtain rfl : l.length = n' := Kd.C_len hC'
  have hm := len_max hC
  have HC := Lib.hid hC
  have HC' := Lib.hid hC'
  clear hC hC'
  go_enter Try.func35, Try.ntmps35
  go_wp2
  go_loopw [13] (fun i wr => ∃ k : Nat, k ≤ l.length ∧ i = .int .i64 k ∧ Ext w wr) (fun i _ => l.length - (intOf i).toNat)
  case atStart => exact ⟨0, Nat.zero_le _, rfl, Below.refl _ _⟩
  case round =>
    obtain ⟨k, hk, rfl, hb⟩ := hrel
    by_cases hlt : k < l.length
    · obtain ⟨ad, rfl, x0, x1, x2⟩ := C48 (Kd.C_below HC.out hb) hlt
      obtain ⟨ad', rfl, z0, z1, z2⟩ := C48 (Kd.C_below HC'.out hb) hlt
      go_wp2
      go_quiet (fail)
      go_wp2
      go_roundw
      case rel => exact ⟨k + 1, by omega, by go_num, Ext.tr hb (ext_drewN _ _)⟩
      case measure => simp [intOf]; omega
    · obtain rfl : k = l.length := by omega
      go_wp2
      go_ret
      exact ⟨rfl, hb⟩
end
section
open Go.RowKit Go.Proofs.YthfolhgaecfogaaW.PrintWords Go.Proofs.YthfolhgaecfogaaW.PrintLast Go.Proofs.YthfolhgaecfogaaW.PrintMore
theorem grown_nil {w w' : World} (h : w.grownBy w' (Value.slice none 0 0).ownBlock) : Ext w w' :=
  ⟨h.os, h.tape, h.output, h.size, fun k hk => h.block k hk (fun e => by cases e)⟩
set_option maxRecDepth 100000 in
set_option maxHeartbeats 1000000 in
theorem rnext_any (u : Int) (w : World) (B p : Nat) (v : Value) (now : Int) (L : List S48) (hB : B ≤ w.heap.size) (h : Clk 61 w B p v now L) (hn : L.length ≤ 4194304) :
    Calls Try.prog 29 #[.pointer (some ⟨p, 0, none⟩), .int .i64 u] w (NextPost 61 u w B p v now L) := by
  have hu := Try.underlying61
  have hu48 := Try.underlying48
  have H := Lib.hid h
  obtain ⟨q0, q1⟩ := h.cells
  have hlt := h.lt
  have fz0 := h.free 0
  have fz1 := h.free 1
  have hx0 := Lib.hid (ext_alloc w (.cells #[.int .i64 0, .int .i64 0, .int .i64 0] 48))
  obtain ⟨A, n, c, rfl⟩ := Row_slice h.2.2
  obtain ⟨hn1, hnc1, hCC⟩ := Kd.R_reads' h.2.2
  have hm := Kd.C_max hCC
  cases L with
  | nil =>
    obtain ⟨a1, a2, a3⟩ := next_facts_no (now := now) (next_nil u)
    have A1 := Lib.hid a1
    have A2 := Lib.hid a2
    have A3 := Lib.hid a3
    have A4 := Lib.hid (next_nil u)
    obtain rfl : n = 0 := hn1
    clear h hCC hm a1 a2 a3
    go_enter Try.func29, Try.ntmps29
    go_wp2
    exact bodyPost_ret (v := .tuple #[vT z48, .bool false]) (by simp [results, Try.results29, go_sem, vT, z48]) rfl ⟨.slice A 0 c, by rw [A1.out, A4.out], by rw [A2.out, A3.out]; exact H.out.ext (ext_alloc _ _), (Only.refl _ _ _).ext (ext_alloc _ _), From.refl _ _⟩
  | cons x r =>
    have hn0 : 0 < n := by rw [hn1]; simp
    obtain ⟨ad, rfl, x0, x1, x2⟩ := C48 hCC (k := 0) (by simp)
    rw [show ad.add (0 * 3) = ad by simp [Addr.add]] at x0 x1 x2
    simp only [List.getElem_cons_zero] at x0 x1 x2
    have l0 := World.block_lt_of_cell? w _ x0
    have hnz : ((n : Int) == 0) = false := beq_eq_false_iff_ne.2 (by omega)
    by_cases h3 : x.f0 ≤ u
    · obtain ⟨a0, a1, a2, a3⟩ := next_facts_yes (now := now) (r := r) h3
      have A1 := Lib.hid a1
      have A2 := Lib.hid a2
      have A3 := Lib.hid a3
      have A4 := Lib.hid a0
      have hdr := Kd.C_drop (m := 1) (c := c) hCC (by simp) (by omega)
      have hrl : Hid (n - 1 = r.length) := by show _ = _; rw [hn1]; simp
      have hnn : n ≤ 4194304 := by omega
      have hrn : Hid (r.length ≤ 4194304) := by show _ ≤ _; simp at hn; omega
      clear h hn1 a0 a1 a2 a3
      have hx1 := Lib.hid (Ext.tr hx0.out (ext_alloc (w.alloc (.cells #[.int .i64 0, .int .i64 0, .int .i64 0] 48)) (.cells #[.int .i64 x.f0, .int .i64 x.f1, .int .i64 x.f2] 48)))
      have hb4 : Hid (Box48 ((w.alloc (.cells #[.int .i64 0, .int .i64 0, .int .i64 0] 48)).alloc (.cells #[.int .i64 x.f0, .int .i64 x.f1, .int .i64 x.f2] 48)) w.heap.size z48) := Box48.ext (heap_alloc_new w _) (ext_alloc _ _)
      have hb6 : Hid (Box48 ((w.alloc (.cells #[.int .i64 0, .int .i64 0, .int .i64 0] 48)).alloc (.cells #[.int .i64 x.f0, .int .i64 x.f1, .int .i64 x.f2] 48)) (w.heap.size + 1) x) := by
        have := heap_alloc_new (w.alloc (.cells #[.int .i64 0, .int .i64 0, .int .i64 0] 48)) (.cells #[.int .i64 x.f0, .int .i64 x.f1, .int .i64 x.f2] 48)
        show Box48 _ _ _
        unfold Box48
        simpa using this
      by_cases hc1 : c = 1
      · have hr0 : r = [] := List.eq_nil_of_length_eq_zero (by have := hrl.out; omega)
        subst hr0
        subst hc1
        obtain rfl : n = 1 := by omega
        clear hdr
        go_enter Try.func29, Try.ntmps29
        have hC1 := Lib.hid (((H.out.anew (Kd.R_nil k48 48 w w.heap.size (fun _ => True)) hB (by decide)).time (by decide) x.f0))
        go_wp2
        refine bodyPost_ret (v := .tuple #[vT x, .bool true]) (by simp [results, Try.results29, go_sem, vT]) rfl ?_
        refine ⟨.slice none 0 0, by rw [A1.out, A4.out], by rw [A2.out, A3.out]; exact (hC1.out.ext (ext_alloc _ _)).ext (ext_alloc _ _), ?_, fun k hk => by cases hk⟩
        exact ((((Only.refl _ _ _).put 1 _).put 0 _).ext (ext_alloc _ _)).ext (ext_alloc _ _)
      · have hHD : Hid (Kd.C k48 w (some ⟨ad.block, ad.off + 3, none⟩) (n - 1) r) := by
          show Kd.C _ _ _ _ _
          rw [hrl.out]
          rw [if_neg hc1] at hdr
          have e : ad.add 3 = ⟨ad.block, ad.off + 3, none⟩ := by simp [Addr.add]
          rw [← e]
          exact hdr
        have hpx : Hid (p < w.heap.size) := hlt
        clear hdr
        go_enter Try.func29, Try.ntmps29
        go_wp2_with (at_builtin; refine Kd.R_append_rows (w0 := w) k48 w.heap.size rfl _ _ _ 48 _ 24 rfl Try.underlying59 info48 rfl (by decide) (by decide) (.slice none 0 0) [] r _ _ _ (fun _ => True) (fun _ => False) rfl rfl (Kd.R_nil _ _ _ _ _) (Kd.C_below hHD.out hx1.out) (fun x cs h => km48 _ _ _ x cs h) (fun k hk => hk.elim) (fun _ _ => trivial) hx1.out hx1.out.size (by simp; omega) ?_; intro v1 w2 hR2 hb2 hg2 hat2; have HR2 := Lib.hid hR2; have HB2 := Lib.hid hb2; have HC2 := Lib.hid (H.out.ext hb2); obtain ⟨z0, z1⟩ := HC2.out.cells; have f0 := HC2.out.free 0; have f1 := HC2.out.free 1; have hp2 := HC2.out.lt; have hB4' := Lib.hid (hb4.out.ext (grown_nil hg2)); have hB6' := Lib.hid (hb6.out.ext (grown_nil hg2)); obtain ⟨y0, y1, y2⟩ := hB6'.out.cells; obtain ⟨v0, v1', v2⟩ := hB4'.out.cells; have g0 := blk_frozen hB4'.out 0; have g1 := blk_frozen hB4'.out 1; have g2 := blk_frozen hB4'.out 2; have hs2 := (grown_nil hg2).size; simp at hs2; have HF2 := Lib.hid (from_at hat2); obtain ⟨A9, n9, c9, rfl⟩ := Row_slice hR2; clear hR2 hb2 hg2 hat2)
        refine bodyPost_ret (v := .tuple #[vT x, .bool true]) (by simp [results, Try.results29, go_sem, vT, v0, v1', v2]) rfl ?_
        have hC3 := (HC2.out.anew HR2.out hB (by decide)).time (by decide) x.f0
        have hgp : w.heap.size ≠ p := by omega
        have hv' : (Value.slice A9 n9 c9).ownBlock ≠ some w.heap.size := fun e => by
          rcases HF2.out _ e with h | h
          · cases h
          · simp at h; omega
        refine ⟨_, by rw [A1.out, A4.out], by rw [A2.out, A3.out]; exact ((hC3.far hgp hv' 0 _).far hgp hv' 1 _).far hgp hv' 2 _, ?_, new_from HR2.out⟩
        exact (((((((Only.refl _ _ _).ext HB2.out).put 1 _).put 0 _).new (Nat.le_refl _) 0 _).new (Nat.le_refl _) 1 _).new (Nat.le_refl _) 2 _)
    · have h4 : nextOk (x :: r) u = false := by simp [nextOk, h3]
      obtain ⟨a1, a2, a3⟩ := next_facts_no (now := now) h4
      have A1 := Lib.hid a1
      have A2 := Lib.hid a2
      have A3 := Lib.hid a3
      have A4 := Lib.hid h4
      clear h hn1 hCC a1 a2 a3 h4
      go_enter Try.func29, Try.ntmps29
      go_wp2
      refine bodyPost_ret (v := .tuple #[vT z48, .bool false]) (by simp [results, Try.results29, go_sem, vT, z48]) rfl ?_
      refine ⟨.slice (some ad) n c, by rw [A1.out, A4.out], by rw [A2.out, A3.out]; exact H.out.ext (ext_alloc _ _), (Only.refl _ _ _).ext (ext_alloc _ _), From.refl _ _⟩
end
end Go.Proofs.Ythfolhgaecfogaa
