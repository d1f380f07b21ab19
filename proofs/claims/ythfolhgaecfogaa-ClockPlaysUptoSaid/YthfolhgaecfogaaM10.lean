import Derived.Test.YthfolhgaecfogaaM9
import Derived.Maps.Own
import Derived.Maps.OwnOps
import Derived.Maps.OwnSet
import Derived.DeepKeys4
set_option linter.unusedVariables false
set_option linter.unusedSimpArgs false
namespace Go.Proofs.Ythfolhgaecfogaa
section
open Go.RowKit Go.Proofs.YthfolhgaecfogaaW.PrintWords Go.Proofs.YthfolhgaecfogaaW.PrintLast Go.Proofs.YthfolhgaecfogaaW.PrintMore
def goN (now : Int) (L : List S48) (u : Int) : Int := if goOk now L u then u else now
set_option maxRecDepth 100000 in
set_option maxHeartbeats 1000000 in
theorem cgo_any (u : Int) (w : World) (B p : Nat) (v : Value) (now : Int) (L : List S48) (h : Clk 89 w B p v now L) :
    Calls Try.prog 30 #[.pointer (some ⟨p, 0, none⟩), .int .i64 u] w fun e w' => e = .returned (.bool (goOk now L u)) ∧ Clk 89 w' B p v (goN now L u) L ∧ Only w w' p v := by
  have hu := Try.underlying89
  have hu48 := Try.underlying48
  have H := Lib.hid h
  obtain ⟨q0, q1⟩ := h.cells
  have fz := h.free 0
  have hlt := h.lt
  obtain ⟨A, n, c, rfl⟩ := Row_slice h.2.2
  obtain ⟨hn1, hnc1, hCC⟩ := Kd.R_reads' h.2.2
  have hm := Kd.C_max hCC
  by_cases h1 : u < now
  · have hr : Hid (goOk now L u = false) := by show _ = _; unfold goOk; rw [decide_eq_false (show ¬ now ≤ u by omega)]; rfl
    have hr2 : Hid (goN now L u = now) := by show _ = _; unfold goN; rw [hr.out]; rfl
    clear h hn1 hCC hm
    go_enter Try.func30, Try.ntmps30
    go_wp2
    go_ret
    exact ⟨by rw [hr.out]; rfl, by rw [hr2.out]; exact H.out, Only.refl _ _ _⟩
  by_cases h2 : 4611686018427387904 < u
  · have hr : Hid (goOk now L u = false) := by show _ = _; unfold goOk; rw [decide_eq_false (show ¬ u ≤ 4611686018427387904 by omega)]; simp
    have hr2 : Hid (goN now L u = now) := by show _ = _; unfold goN; rw [hr.out]; rfl
    clear h hn1 hCC hm
    go_enter Try.func30, Try.ntmps30
    go_wp2
    go_ret
    exact ⟨by rw [hr.out]; rfl, by rw [hr2.out]; exact H.out, Only.refl _ _ _⟩
  have hr0 : goOk now L u = !nextOk L u := by unfold goOk; rw [decide_eq_true (show now ≤ u by omega), decide_eq_true (show u ≤ 4611686018427387904 by omega)]; rfl
  cases L with
  | nil =>
    have hr : Hid (goOk now [] u = true) := hr0
    have hr2 : Hid (goN now [] u = u) := by show _ = _; unfold goN; rw [hr.out]; rfl
    obtain rfl : n = 0 := hn1
    have ht := Lib.hid (H.out.time (by decide) u)
    clear h hCC hm hr0
    go_enter Try.func30, Try.ntmps30
    go_wp2
    go_ret
    exact ⟨by rw [hr.out]; rfl, by rw [hr2.out]; exact ht.out, (Only.refl _ _ _).put 0 _⟩
  | cons x r =>
    have hn0 : 0 < n := by rw [hn1]; simp
    obtain ⟨ad, rfl, x0, x1, x2⟩ := C48 hCC (k := 0) (by simp)
    rw [show ad.add (0 * 3) = ad by simp [Addr.add]] at x0 x1 x2
    simp only [List.getElem_cons_zero] at x0 x1 x2
    by_cases h3 : x.f0 ≤ u
    · have hr : Hid (goOk now (x :: r) u = false) := by show _ = _; rw [hr0]; simp [nextOk, h3]
      have hr2 : Hid (goN now (x :: r) u = now) := by show _ = _; unfold goN; rw [hr.out]; rfl
      clear h hn1 hCC hr0
      go_enter Try.func30, Try.ntmps30
      go_wp2
      go_ret
      exact ⟨by rw [hr.out]; rfl, by rw [hr2.out]; exact H.out, Only.refl _ _ _⟩
    · have hr : Hid (goOk now (x :: r) u = true) := by show _ = _; rw [hr0]; simp [nextOk, h3]
      have hr2 : Hid (goN now (x :: r) u = u) := by show _ = _; unfold goN; rw [hr.out]; rfl
      have ht := Lib.hid (H.out.time (by decide) u)
      clear h hn1 hCC hr0
      go_enter Try.func30, Try.ntmps30
      go_wp2
      go_ret
      exact ⟨by rw [hr.out]; rfl, by rw [hr2.out]; exact ht.out, (Only.refl _ _ _).put 0 _⟩
set_option maxRecDepth 100000 in
set_option maxHeartbeats 1000000 in
theorem rgo_any (u : Int) (w : World) (B p : Nat) (v : Value) (now : Int) (L : List S48) (h : Clk 61 w B p v now L) :
    Calls Try.prog 31 #[.pointer (some ⟨p, 0, none⟩), .int .i64 u] w fun e w' => e = .returned (.bool (goOk now L u)) ∧ Clk 61 w' B p v (goN now L u) L ∧ Only w w' p v := by
  have hu := Try.underlying61
  have hu48 := Try.underlying48
  have H := Lib.hid h
  obtain ⟨q0, q1⟩ := h.cells
  have fz := h.free 0
  have hlt := h.lt
  obtain ⟨A, n, c, rfl⟩ := Row_slice h.2.2
  obtain ⟨hn1, hnc1, hCC⟩ := Kd.R_reads' h.2.2
  have hm := Kd.C_max hCC
  by_cases h1 : u < now
  · have hr : Hid (goOk now L u = false) := by show _ = _; unfold goOk; rw [decide_eq_false (show ¬ now ≤ u by omega)]; rfl
    have hr2 : Hid (goN now L u = now) := by show _ = _; unfold goN; rw [hr.out]; rfl
    clear h hn1 hCC hm
    go_enter Try.func31, Try.ntmps31
    go_wp2
    go_ret
    exact ⟨by rw [hr.out]; rfl, by rw [hr2.out]; exact H.out, Only.refl _ _ _⟩
  by_cases h2 : 4611686018427387904 < u
  · have hr : Hid (goOk now L u = false) := by show _ = _; unfold goOk; rw [decide_eq_false (show ¬ u ≤ 4611686018427387904 by omega)]; simp
    have hr2 : Hid (goN now L u = now) := by show _ = _; unfold goN; rw [hr.out]; rfl
    clear h hn1 hCC hm
    go_enter Try.func31, Try.ntmps31
    go_wp2
    go_ret
    exact ⟨by rw [hr.out]; rfl, by rw [hr2.out]; exact H.out, Only.refl _ _ _⟩
  have hr0 : goOk now L u = !nextOk L u := by unfold goOk; rw [decide_eq_true (show now ≤ u by omega), decide_eq_true (show u ≤ 4611686018427387904 by omega)]; rfl
  cases L with
  | nil =>
    have hr : Hid (goOk now [] u = true) := hr0
    have hr2 : Hid (goN now [] u = u) := by show _ = _; unfold goN; rw [hr.out]; rfl
    obtain rfl : n = 0 := hn1
    have ht := Lib.hid (H.out.time (by decide) u)
    clear h hCC hm hr0
    go_enter Try.func31, Try.ntmps31
    go_wp2
    go_ret
    exact ⟨by rw [hr.out]; rfl, by rw [hr2.out]; exact ht.out, (Only.refl _ _ _).put 0 _⟩
  | cons x r =>
    have hn0 : 0 < n := by rw [hn1]; simp
    obtain ⟨ad, rfl, x0, x1, x2⟩ := C48 hCC (k := 0) (by simp)
    rw [show ad.add (0 * 3) = ad by simp [Addr.add]] at x0 x1 x2
    simp only [List.getElem_cons_zero] at x0 x1 x2
    by_cases h3 : x.f0 ≤ u
    · have hr : Hid (goOk now (x :: r) u = false) := by show _ = _; rw [hr0]; simp [nextOk, h3]
      have hr2 : Hid (goN now (x :: r) u = now) := by show _ = _; unfold goN; rw [hr.out]; rfl
      clear h hn1 hCC hr0
      go_enter Try.func31, Try.ntmps31
      go_wp2
      go_ret
      exact ⟨by rw [hr.out]; rfl, by rw [hr2.out]; exact H.out, Only.refl _ _ _⟩
    · have hr : Hid (goOk now (x :: r) u = true) := by show _ = _; rw [hr0]; simp [nextOk, h3]
      have hr2 : Hid (goN now (x :: r) u = u) := by show _ = _; unfold goN; rw [hr.out]; rfl
      have ht := Lib.hid (H.out.time (by decide) u)
      clear h hn1 hCC hr0
      go_enter Try.func31, Try.ntmps31
      go_wp2
      go_ret
      exact ⟨by rw [hr.out]; rfl, by rw [hr2.out]; exact ht.out, (Only.refl _ _ _).put 0 _⟩
end
section
open Go.RowKit Go.Proofs.YthfolhgaecfogaaW.PrintWords Go.Proofs.YthfolhgaecfogaaW.PrintLast Go.Proofs.YthfolhgaecfogaaW.PrintMore
set_option maxRecDepth 100000 in
set_option maxHeartbeats 400000 in
theorem cat_any (kind id : Int) (w : World) (B p : Nat) (v : Value) (now : Int) (L : List S48) (h : Clk 89 w B p v now L) :
    Calls Try.prog 32 #[.pointer (some ⟨p, 0, none⟩), .int .i64 kind, .int .i64 id] w fun e w' => e = .returned (.tuple #[.int .i64 (atV L kind id), .bool (decide (0 ≤ idxT L kind id))]) ∧ Ext w w' := by
  have hu := Try.underlying89
  have hu48 := Try.underlying48
  by_cases hF : idxT L kind id < 0
  · have hr : Hid (atV L kind id = 0) := by show _ = _; unfold atV; rw [if_neg (by omega)]
    have hd : Hid (decide (0 ≤ idxT L kind id) = false) := by show _ = _; simp; omega
    obtain ⟨F, hFe⟩ : ∃ F, F = idxT L kind id := ⟨_, rfl⟩
    have HF := Lib.hid hFe
    rw [← hFe] at hF
    clear hFe
    go_enter Try.func32, Try.ntmps32
    go_wp2_with fail
    refine (cfind_any kind id w B p v now L h).mono ?_
    rintro e w1 ⟨he, hb1⟩
    rw [← HF.out] at he
    subst he
    go_wp2
    go_ret2
    exact ⟨by rw [hd.out, hr.out]; rfl, hb1⟩
  · obtain ⟨i, hi⟩ : ∃ i : Nat, idxT L kind id = (i : Int) := ⟨(idxT L kind id).toNat, by omega⟩
    obtain ⟨hil, _⟩ := idxF_nat hi
    have hr : Hid (atV L kind id = L[i].f0) := by
      show _ = _
      unfold atV
      rw [if_pos (by omega), hi, Int.toNat_natCast, List.getD_eq_getElem?_getD, List.getElem?_eq_getElem hil]
      rfl
    have hd : Hid (decide (0 ≤ idxT L kind id) = true) := by show _ = _; simp; omega
    have HI := Lib.hid hi
    have H := Lib.hid h
    clear hi hF h
    go_enter Try.func32, Try.ntmps32
    go_wp2_with fail
    refine (cfind_any kind id w B p v now L H.out).mono ?_
    rintro e w1 ⟨he, hb1⟩
    rw [HI.out] at he
    subst he
    have H1 := Lib.hid (H.out.ext hb1)
    obtain ⟨q0, q1⟩ := H1.out.cells
    obtain ⟨A, n, c, rfl⟩ := Row_slice H1.out.2.2
    obtain ⟨hn1, hnc1, hCC⟩ := Kd.R_reads' H1.out.2.2
    obtain ⟨ad, rfl, x0, x1, x2⟩ := C48 hCC hil
    have hin : i < n := by omega
    have hm := Kd.C_max hCC
    have HB := Lib.hid hb1
    clear hn1 hCC hb1
    go_wp2
    go_ret2
    exact ⟨by rw [hd.out, hr.out]; rfl, HB.out⟩
theorem cnow_any (w : World) (B p : Nat) (v : Value) (now : Int) (L : List S48) (h : Clk 89 w B p v now L) :
    Calls Try.prog 34 #[.pointer (some ⟨p, 0, none⟩)] w fun e w' => e = .returned (.int .i64 now) ∧ w = w' := by
  have hu := Try.underlying89
  obtain ⟨q0, q1⟩ := h.cells
  have hlt := h.lt
  clear h
  go_enter Try.func34, Try.ntmps34
  go_wp2
  go_ret
  exact ⟨rfl, rfl⟩
set_option maxRecDepth 100000 in
set_option maxHeartbeats 1000000 in
theorem clone48_any (A : Option Addr) (c : Nat) (l : List S48) (w : World) (hC : Kd.C k48 w A l.length l) (hc : l.length ≤ c) (hl : l.length ≤ 4194304) :
    Calls Try.prog 61 #[.slice A l.length c] w fun e w' => ∃ v, e = .returned v ∧ New k48 48 w w' v l ∧ Ext w w' := by
  rcases A with _ | ad
  · obtain rfl := C_A hC
    have heq : (binOp .eql 59 (.slice none 0 c) (.slice none 0 0)).run Try.prog w = .ok (.bool true) w := Lib.run_eql_slice_nil (P := Try.prog) w 59 48 none 0 c 0 0 Try.underlying59
    go_enter Try.func61, Try.ntmps61
    go_wp2
    go_ret
    exact ⟨_, rfl, Kd.R_nil _ _ _ _ _, Below.refl _ _⟩
  · have heq : (binOp .eql 59 (.slice (some ad) l.length c) (.slice none 0 0)).run Try.prog w = .ok (.bool false) w := Lib.run_eql_slice_nil (P := Try.prog) w 59 48 (some ad) l.length c 0 0 Try.underlying59
    have HC := Lib.hid hC
    clear hC
    go_enter Try.func61, Try.ntmps61
    go_wp2_with (at_builtin; refine Kd.R_append_rows (w0 := w) k48 w.heap.size rfl _ _ _ 48 _ 24 rfl Try.underlying59 info48 rfl (by decide) (by decide) _ [] l _ _ _ (fun _ => True) (fun _ => False) rfl rfl (R_empty k48 48 w w.heap.size (Nat.le_refl _)) (Kd.C_below HC.out (ext_alloc _ _)) (fun x cs h => km48 _ _ _ x cs h) (fun k hk => hk.elim) (fun _ _ => trivial) (ext_alloc w _) (by simp) (by simp; omega) ?_; intro v1 w1 hR hb hg hat)
    go_ret
    exact ⟨_, rfl, hR, hb⟩
set_option maxRecDepth 100000 in
theorem call_any (w : World) (B p : Nat) (v : Value) (now : Int) (L : List S48) (h : Clk 89 w B p v now L) (hn : L.length ≤ 4194304) :
    Calls Try.prog 36 #[.pointer (some ⟨p, 0, none⟩)] w fun e w' => ∃ A n c, e = .returned (.slice A n c) ∧ Hid (n = L.length) ∧ n ≤ c ∧ Hid (Kd.C k48 w' A n L) ∧ Ext w w' := by
  have hu := Try.underlying89
  obtain ⟨q0, q1⟩ := h.cells
  have hlt := h.lt
  obtain ⟨A, n, c, rfl⟩ := Row_slice h.2.2
  obtain ⟨hn1, hnc1, hCC⟩ := Kd.R_reads' h.2.2
  have HC := Lib.hid hCC
  clear h hCC
  have HN := Lib.hid hn1
  subst hn1
  go_enter Try.func36, Try.ntmps36
  go_wp2_with fail
  refine (clone48_any A c L w HC.out hnc1 hn).mono ?_
  rintro e w1 ⟨v1, rfl, hN, hb1⟩
  obtain ⟨A', c', rfl, hl', hC'⟩ := Kd.R_reads hN
  have HC' := Lib.hid hC'
  have HB := Lib.hid hb1
  obtain ⟨m, hm⟩ : ∃ m, m = L.length := ⟨_, rfl⟩
  rw [← hm] at hl' HC' ⊢
  have HM := Lib.hid hm
  clear hN hC' hb1 hm
  go_wp2
  go_ret
  exact ⟨A', m, c', rfl, HM.out, hl', HC'.out, HB.out⟩
end
section
open Go.RowKit Go.Proofs.YthfolhgaecfogaaW.PrintWords Go.Proofs.YthfolhgaecfogaaW.PrintLast Go.Proofs.YthfolhgaecfogaaW.PrintMore
theorem next_facts_no {now u : Int} {L : List S48} (h : nextOk L u = false) : nextT L u = z48 ∧ nextL L u = L ∧ nextN now L u = now := by
  unfold nextT nextL nextN
  rw [h]
  exact ⟨rfl, rfl, rfl⟩
theorem next_facts_yes {now u : Int} {x : S48} {r : List S48} (h : x.f0 ≤ u) : nextOk (x :: r) u = true ∧ nextT (x :: r) u = x ∧ nextL (x :: r) u = r ∧ nextN now (x :: r) u = x.f0 := by
  have h1 : nextOk (x :: r) u = true := by simp [nextOk, h]
  unfold nextT nextL nextN
  rw [h1]
  exact ⟨rfl, rfl, rfl, rfl⟩
theorem del_first (v : Value) (x : S48) (r : List S48) (w : World) (B : Nat) (hR : Row w B v (x :: r)) (hn : (x :: r).length ≤ 8388608) :
    Calls Try.prog 60 #[v, .int .i64 0, .int .i64 1] w fun e w' => ∃ v', e = .returned v' ∧ Row w' B v' r ∧ w.grownBy w' v.ownBlock ∧ From w v v' := delete_any48 v (x :: r) 0 w B hR (by simp) hn
theorem Clk.far {T : Nat} {w : World} {B p g : Nat} {v : Value} {now : Int} {L : List S48} (h : Clk T w B p v now L) (hp : g ≠ p) (hv : v.ownBlock ≠ some g) (j : Nat) (u : Value) : Clk T (w.setCell ⟨g, j, none⟩ u) B p v now L :=
  ⟨h.1, (Below.heap_setCell w ⟨g, j, none⟩ u p (fun e => hp e.symm)).trans h.2.1, Row_move h.2.2 (fun k hk => Below.heap_setCell w ⟨g, j, none⟩ u k (fun e => hv (by rw [hk]; exact congrArg some e)))⟩
theorem Only.new {w w' : World} {p g : Nat} {v : Value} (h : Only w w' p v) (hg : w.heap.size ≤ g) (j : Nat) (u : Value) : Only w (w'.setCell ⟨g, j, none⟩ u) p v := by
  obtain ⟨h1, h2, h3, h4, h5⟩ := h
  exact ⟨h1, h2, h3, by simpa [World.setCell] using h4, fun k hk hp hv => (Below.heap_setCell w' ⟨g, j, none⟩ u k (by show k ≠ g; omega)).trans (h5 k hk hp hv)⟩
def NextPost (T : Nat) (u : Int) (w : World) (B p : Nat) (v : Value) (now : Int) (L : List S48) : Ending → World → Prop := fun e w' => ∃ v', e = .returned (.tuple #[vT (nextT L u), .bool (nextOk L u)]) ∧ Clk T w' B p v' (nextN now L u) (nextL L u) ∧ Only w w' p v ∧ From w v v'
set_option maxRecDepth 100000 in
set_option maxHeartbeats 1000000 in
theorem cnext_any (u : Int) (w : World) (B p : Nat) (v : Value) (now : Int) (L : List S48) (h : Clk 89 w B p v now L) (hn : L.length ≤ 8388608) :
    Calls Try.prog 28 #[.pointer (some ⟨p, 0, none⟩), .int .i64 u] w (NextPost 89 u w B p v now L) := by
  have hu := Try.underlying89
  have hu48 := Try.underlying48
  have H := Lib.hid h
  obtain ⟨q0, q1⟩ := h.cells
  have hlt := h.lt
  have hx0 := Lib.hid (ext_alloc w (.cells #[.int .i64 0, .int .i64 0, .int .i64 0] 48))
  obtain ⟨A, n, c, rfl⟩ := Row_slice h.2.2
  obtain ⟨hn1, hnc1, hCC⟩ := Kd.R_reads' h.2.2
  have hm := Kd.C_max hCC
  cases L with
  | nil =>
    obtain ⟨a1, a2, a3⟩ := next_facts_no (now := now) (next_nil u)
    have A1 := Lib.hid a1
    have A2 := Lib.hid a2
    have A3 := Lib.hid a3
    have A4 := Lib.hid (next_nil u)
    obtain rfl : n = 0 := hn1
    clear h hCC hm a1 a2 a3
    go_enter Try.func28, Try.ntmps28
    go_wp2
    exact bodyPost_ret (v := .tuple #[vT z48, .bool false]) (by simp [results, Try.results28, go_sem, vT, z48]) rfl ⟨.slice A 0 c, by rw [A1.out, A4.out], by rw [A2.out, A3.out]; exact H.out.ext (ext_alloc _ _), (Only.refl _ _ _).ext (ext_alloc _ _), From.refl _ _⟩
  | cons x r =>
    have hn0 : 0 < n := by rw [hn1]; simp
    obtain ⟨ad, rfl, x0, x1, x2⟩ := C48 hCC (k := 0) (by simp)
    rw [show ad.add (0 * 3) = ad by simp [Addr.add]] at x0 x1 x2
    simp only [List.getElem_cons_zero] at x0 x1 x2
    have l0 := World.block_lt_of_cell? w _ x0
    have hnz : ((n : Int) == 0) = false := beq_eq_false_iff_ne.2 (by omega)
    by_cases h3 : x.f0 ≤ u
    · obtain ⟨a0, a1, a2, a3⟩ := next_facts_yes (now := now) (r := r) h3
      have A1 := Lib.hid a1
      have A2 := Lib.hid a2
      have A3 := Lib.hid a3
      have A4 := Lib.hid a0
      clear h hn1 hCC a0 a1 a2 a3
      have hx1 := Lib.hid (Ext.tr hx0.out (ext_alloc (w.alloc (.cells #[.int .i64 0, .int .i64 0, .int .i64 0] 48)) (.cells #[.int .i64 x.f0, .int .i64 x.f1, .int .i64 x.f2] 48)))
      have hb4 : Hid (Box48 ((w.alloc (.cells #[.int .i64 0, .int .i64 0, .int .i64 0] 48)).alloc (.cells #[.int .i64 x.f0, .int .i64 x.f1, .int .i64 x.f2] 48)) w.heap.size z48) := Box48.ext (heap_alloc_new w _) (ext_alloc _ _)
      have hb6 : Hid (Box48 ((w.alloc (.cells #[.int .i64 0, .int .i64 0, .int .i64 0] 48)).alloc (.cells #[.int .i64 x.f0, .int .i64 x.f1, .int .i64 x.f2] 48)) (w.heap.size + 1) x) := by
        have := heap_alloc_new (w.alloc (.cells #[.int .i64 0, .int .i64 0, .int .i64 0] 48)) (.cells #[.int .i64 x.f0, .int .i64 x.f1, .int .i64 x.f2] 48)
        show Box48 _ _ _
        unfold Box48
        simpa using this
      have H1 := Lib.hid (H.out.ext hx1.out)
      have hv4 : Hid ((Value.slice (some ad) n c).ownBlock ≠ some w.heap.size) := fun e => by have := Kd.R_lt H.out.2.2 w.heap.size e; omega
      have hv6 : Hid ((Value.slice (some ad) n c).ownBlock ≠ some (w.heap.size + 1)) := fun e => by have := Kd.R_lt H.out.2.2 (w.heap.size + 1) e; omega
      go_enter Try.func28, Try.ntmps28
      go_wp2_with fail
      refine (del_first (.slice (some ad) n c) x r _ B H1.out.2.2 hn).mono ?_
      rintro e w2 ⟨v', rfl, hR, hg, hf⟩
      obtain ⟨z0, z1, z2, z3⟩ := H1.out.held (by decide) hg
      have hb4' : Hid (Box48 w2 w.heap.size z48) := (hg.block _ (blk_lt hb4.out) (fun e => hv4.out e.symm)).trans hb4.out
      have hb6' : Hid (Box48 w2 (w.heap.size + 1) x) := (hg.block _ (blk_lt hb6.out) (fun e => hv6.out e.symm)).trans hb6.out
      have hC2 := Lib.hid (H1.out.row (by decide) hg hR)
      have hO2 := Lib.hid ((Only.of_grown p hg).put 1 v')
      have hF2 := Lib.hid hf
      obtain ⟨A', n', c', rfl⟩ := Row_slice hR
      obtain ⟨y0, y1, y2⟩ := hb6'.out.cells
      obtain ⟨v0, v1, v2⟩ := hb4'.out.cells
      have f0 := blk_frozen hb4'.out 0
      have f1 := blk_frozen hb4'.out 1
      have f2 := blk_frozen hb4'.out 2
      have hp0 : w2.frozen? ⟨p, 0, none⟩ = false := blk_frozen ((hg.block p H1.out.lt (fun e => H1.out.away (by decide) e.symm)).trans H1.out.2.1) 0
      have hsz := hg.size
      simp at hsz
      clear hR hg hf x0 x1 x2 q0 q1
      go_wp2
      refine bodyPost_ret (v := .tuple #[vT x, .bool true]) (by simp [results, Try.results28, go_sem, vT, v0, v1, v2]) rfl ?_
      have hgp : w.heap.size ≠ p := by omega
      have hv' : (Value.slice A' n' c').ownBlock ≠ some w.heap.size := fun e => by
        rcases hF2.out w.heap.size e with h | h
        · exact hv4.out h
        · simp at h; omega
      have hC3 := hC2.out.time (by decide) x.f0
      refine ⟨_, by rw [A1.out, A4.out], by rw [A2.out, A3.out]; exact ((hC3.far hgp hv' 0 _).far hgp hv' 1 _).far hgp hv' 2 _, ?_, hF2.out.after hx1.out.size⟩
      exact ((((hO2.out.after hx1.out).put 0 _).new (Nat.le_refl _) 0 _).new (Nat.le_refl _) 1 _).new (Nat.le_refl _) 2 _
    · have h4 : nextOk (x :: r) u = false := by simp [nextOk, h3]
      obtain ⟨a1, a2, a3⟩ := next_facts_no (now := now) h4
      have A1 := Lib.hid a1
      have A2 := Lib.hid a2
      have A3 := Lib.hid a3
      have A4 := Lib.hid h4
      clear h hn1 hCC a1 a2 a3 h4
      go_enter Try.func28, Try.ntmps28
      go_wp2
      refine bodyPost_ret (v := .tuple #[vT z48, .bool false]) (by simp [results, Try.results28, go_sem, vT, z48]) rfl ?_
      refine ⟨.slice (some ad) n c, by rw [A1.out, A4.out], by rw [A2.out, A3.out]; exact H.out.ext (ext_alloc _ _), (Only.refl _ _ _).ext (ext_alloc _ _), From.refl _ _⟩
end
section
open Go.RowKit Go.Proofs.YthfolhgaecfogaaW.PrintWords Go.Proofs.YthfolhgaecfogaaW.PrintLast Go.Proofs.YthfolhgaecfogaaW.PrintMore
theorem ahead_true {a b : S48} (h : a.f0 < b.f0 ∨ a.f0 = b.f0 ∧ (a.f1 < b.f1 ∨ a.f1 = b.f1 ∧ a.f2 < b.f2)) : ahead a b = true := ahead_iff.2 h
theorem ahead_false {a b : S48} (h : ¬ (a.f0 < b.f0 ∨ a.f0 = b.f0 ∧ (a.f1 < b.f1 ∨ a.f1 = b.f1 ∧ a.f2 < b.f2))) : ahead a b = false := ahead_no.2 h
set_option maxRecDepth 100000 in
set_option maxHeartbeats 1000000 in
theorem ahead_any (a b : S48) (w : World) : Calls Try.prog 58 #[vT a, vT b] w fun e w' => e = .returned (.bool (ahead a b)) ∧ Ext w w' := by
  have hu := Try.underlying48
  unfold vT
  by_cases h1 : a.f0 < b.f0
  · have hr := Lib.hid (ahead_true (a := a) (b := b) (.inl h1))
    go_enter Try.func58, Try.ntmps58
    go_wp2
    go_ret
    exact ⟨by rw [hr.out]; rfl, Ext.tr (ext_alloc w _) (ext_alloc _ _)⟩
  have d1 : decide (a.f0 < b.f0) = false := decide_eq_false h1
  cases h2 : a.f0 == b.f0
  · have h2' := beq_eq_false_iff_ne.1 h2
    have hr := Lib.hid (ahead_false (a := a) (b := b) (by omega))
    clear h2' h1
    go_enter Try.func58, Try.ntmps58
    go_wp2
    go_ret
    exact ⟨by rw [hr.out]; rfl, Ext.tr (ext_alloc w _) (ext_alloc _ _)⟩
  have h2' := Lib.hid (beq_iff_eq.1 h2)
  by_cases h3 : a.f1 < b.f1
  · have hr := Lib.hid (ahead_true (a := a) (b := b) (.inr ⟨h2'.out, .inl h3⟩))
    clear h1
    go_enter Try.func58, Try.ntmps58
    go_wp2
    go_ret
    exact ⟨by rw [hr.out]; rfl, Ext.tr (ext_alloc w _) (ext_alloc _ _)⟩
  have d3 : decide (a.f1 < b.f1) = false := decide_eq_false h3
  cases h4 : a.f1 == b.f1
  · have h4' := beq_eq_false_iff_ne.1 h4
    have hr := Lib.hid (ahead_false (a := a) (b := b) (by omega))
    clear h4' h1 h3
    go_enter Try.func58, Try.ntmps58
    go_wp2
    go_ret
    exact ⟨by rw [hr.out]; rfl, Ext.tr (ext_alloc w _) (ext_alloc _ _)⟩
  have h4' := Lib.hid (beq_iff_eq.1 h4)
  have hr : Hid (ahead a b = decide (a.f2 < b.f2)) := by
    show _ = _
    unfold ahead
    have e2 := h2'.out
    have e4 := h4'.out
    rw [d1, d3, decide_eq_true e2, decide_eq_true e4]
    rfl
  clear h1 h3
  go_enter Try.func58, Try.ntmps58
  go_wp2
  go_ret
  exact ⟨by rw [hr.out]; rfl, Ext.tr (ext_alloc w _) (ext_alloc _ _)⟩
theorem q58 (a b : S48) (W : World) {r : Bool} (hr : ahead a b = r) (d : Nat) (os : Array Obj) :
    Calls Try.prog 58 #[vT a, vT b] (Go.Sort.grow (redrawn W d) os) fun e w'' => e = .returned (.bool r) ∧ ∃ p : Regrown, w'' = Go.Sort.grow (redrawn W p.d) p.os :=
  hr ▸ Calls.regrown_of (ahead_any a b _)
/-- what a cut has kept of the first k -/
theorem cutT_hit {L : List S48} {kind id : Int} {k : Nat} (hk : k < L.length) (h : hitT kind id L[k] = true) : cutT (L.take (k + 1)) kind id = cutT (L.take k) kind id := by
  unfold cutT
  rw [List.take_succ_eq_append_getElem hk, List.filter_append, List.filter_cons, h]
  simp
theorem cutT_miss {L : List S48} {kind id : Int} {k : Nat} (hk : k < L.length) (h : hitT kind id L[k] = false) : cutT (L.take (k + 1)) kind id = cutT (L.take k) kind id ++ [L[k]] := by
  unfold cutT
  rw [List.take_succ_eq_append_getElem hk, List.filter_append, List.filter_cons, h]
  simp
theorem len_ne_cut (L : List S48) (kind id : Int) : ((L.length : Int) != ((cutT L kind id).length : Int)) = decide (0 ≤ idxT L kind id) := by
  have h := idxF_any (hitT kind id) L
  unfold idxT
  rw [h]
  have hl := cutT_len L kind id
  cases ha : L.any (hitT kind id)
  · have : cutT L kind id = L := by
      unfold cutT
      rw [List.filter_eq_self]
      intro x hx
      rw [List.any_eq_false] at ha
      have := ha x hx
      simpa using this
    rw [this]; simp
  · rw [List.any_eq_true] at ha
    obtain ⟨x, hx, hp⟩ := ha
    have : (cutT L kind id).length < L.length := by
      unfold cutT
      rw [List.length_filter_lt_length_iff_exists]
      exact ⟨x, hx, by simp [hp]⟩
    rw [bne_iff_ne]
    omega
theorem Clk.anew {T : Nat} {w w' : World} {B p : Nat} {v v' : Value} {now : Int} {L L' : List S48} (h : Clk T w' B p v now L) (hR : New k48 48 w w' v' L') (hB : B ≤ w.heap.size) (hT : T ≠ 48) : Clk T (w'.setCell ⟨p, 1, none⟩ v') B p v' now L' := by
  have hp2 := heap_setCell_same w' p 1 _ T v' h.2.1
  refine ⟨h.1, by simpa using hp2, Row_move (Kd.R_lower hR hB) (fun k hk => Below.heap_setCell w' ⟨p, 1, none⟩ v' k (fun e => ?_))⟩
  subst e
  exact Kd.R_ne hR h.2.1 (fun e => hT e.symm) hk.symm
theorem new_from {w w' : World} {v v' : Value} {L : List S48} (h : New k48 48 w w' v' L) : From w v v' := fun k hk => .inr (Kd.R_base h k hk)
set_option maxRecDepth 100000 in
set_option maxHeartbeats 2000000 in
theorem rcut_any (kind id : Int) (w : World) (B p : Nat) (v : Value) (now : Int) (L : List S48) (hB : B ≤ w.heap.size) (h : Clk 61 w B p v now L) (hn : L.length ≤ 4194304) :
    Calls Try.prog 27 #[.pointer (some ⟨p, 0, none⟩), .int .i64 kind, .int .i64 id] w fun e w' => ∃ v', e = .returned (.bool (decide (0 ≤ idxT L kind id))) ∧ Clk 61 w' B p v' now (cutT L kind id) ∧ Only w w' p v ∧ From w v v' := by
  have hu := Try.underlying61
  have hu48 := Try.underlying48
  have H := Lib.hid h
  obtain ⟨q0, q1⟩ := h.cells
  have hlt := h.lt
  have hne := Lib.hid (len_ne_cut L kind id)
  obtain ⟨A, n, c, rfl⟩ := Row_slice h.2.2
  obtain ⟨hn1, hnc1, hCC⟩ := Kd.R_reads' h.2.2
  have hm := Kd.C_max hCC
  have HC : Hid (Kd.C k48 w A n L) := by show Kd.C _ _ _ _ _; rw [hn1]; exact hCC
  have hnn : n ≤ 4194304 := by omega
  have HN := Lib.hid hn1
  clear h hCC hn1
  go_enter Try.func27, Try.ntmps27
  go_wp2
  go_loopw [7, 16] (fun v i wr => ∃ k : Nat, k ≤ n ∧ i = .int .i64 k ∧ Hid (New k48 48 w wr v (cutT (L.take k) kind id)) ∧ Ext w wr) (fun _ i _ => n - (intOf i).toNat)
  case atStart => exact ⟨0, Nat.zero_le _, rfl, Kd.R_nil _ _ _ _ _, Below.refl _ _⟩
  case round =>
    obtain ⟨k, hk, rfl, hR, hb⟩ := hrel
    by_cases hlt2 : k < n
    · have hkL : k < L.length := by have := HN.out; omega
      obtain ⟨ad, rfl, x0, x1, x2⟩ := C48 (Kd.C_below HC.out hb) hkL
      cases hp : hitT kind id L[k]
      · have hs := Lib.hid (cutT_miss (kind := kind) (id := id) hkL hp)
        have hR1 : Hid (New k48 48 w (wr.alloc (.cells #[.int .i64 L[k].f0, .int .i64 L[k].f1, .int .i64 L[k].f2] 48)) u7 (cutT (L.take k) kind id)) := Kd.R_alloc hR.out _
        have hb1 : Hid (Ext w (wr.alloc (.cells #[.int .i64 L[k].f0, .int .i64 L[k].f1, .int .i64 L[k].f2] 48))) := Ext.tr hb (ext_alloc _ _)
        have hlc : Hid ((cutT (L.take k) kind id).length ≤ 4194304) := by
          show _ ≤ _
          have := cutT_len (L.take k) kind id
          have := List.length_take_le k L
          omega
        cases e1 : (L[k].f1 != kind)
        case true =>
          clear hp
          go_wp2_with (at_builtin; refine Kd.R_append (w0 := w) k48 w.heap.size rfl _ _ _ 48 _ 24 rfl Try.underlying59 info48 rfl (by decide) (by decide) u7 (cutT (L.take k) kind id) L[k] [.int .i64 L[k].f0, .int .i64 L[k].f1, .int .i64 L[k].f2] (fun _ => True) (fun _ => False) rfl (by simp [Act.eval]) (k48_mkM _ _ _ _) (fun _ h => h.elim) (fun _ _ => trivial) hR1.out hb1.out hb1.out.size (by have := hlc.out; omega) ?_; intro v1 w2 hR3 hb4 hg hat; have HR3 := Lib.hid hR3; have HB4 := Lib.hid hb4; clear hR3 hb4 hg hat)
          go_roundw
          case rel => exact ⟨k + 1, by omega, by go_num, by show New _ _ _ _ _ _; rw [hs.out]; exact HR3.out, HB4.out⟩
          case measure => simp [intOf]; omega
        case false =>
          have e2 : (L[k].f2 != id) = true := by
            have h3 := hitT_no.1 hp
            have h4 : L[k].f1 = kind := by simpa using e1
            rw [bne_iff_ne]
            exact fun h5 => h3 ⟨h4, h5⟩
          clear hp
          go_wp2_with (at_builtin; refine Kd.R_append (w0 := w) k48 w.heap.size rfl _ _ _ 48 _ 24 rfl Try.underlying59 info48 rfl (by decide) (by decide) u7 (cutT (L.take k) kind id) L[k] [.int .i64 L[k].f0, .int .i64 L[k].f1, .int .i64 L[k].f2] (fun _ => True) (fun _ => False) rfl (by simp [Act.eval]) (k48_mkM _ _ _ _) (fun _ h => h.elim) (fun _ _ => trivial) hR1.out hb1.out hb1.out.size (by have := hlc.out; omega) ?_; intro v1 w2 hR3 hb4 hg hat; have HR3 := Lib.hid hR3; have HB4 := Lib.hid hb4; clear hR3 hb4 hg hat)
          go_roundw
          case rel => exact ⟨k + 1, by omega, by go_num, by show New _ _ _ _ _ _; rw [hs.out]; exact HR3.out, HB4.out⟩
          case measure => simp [intOf]; omega
      · have hs := Lib.hid (cutT_hit (kind := kind) (id := id) hkL hp)
        have hR1 : Hid (New k48 48 w (wr.alloc (.cells #[.int .i64 L[k].f0, .int .i64 L[k].f1, .int .i64 L[k].f2] 48)) u7 (cutT (L.take k) kind id)) := Kd.R_alloc hR.out _
        have hb1 : Hid (Ext w (wr.alloc (.cells #[.int .i64 L[k].f0, .int .i64 L[k].f1, .int .i64 L[k].f2] 48))) := Ext.tr hb (ext_alloc _ _)
        have hp' := hitT_iff.1 hp
        have e1 : (L[k].f1 != kind) = false := bne_eq_false_iff_eq.2 hp'.1
        have e2 : (L[k].f2 != id) = false := bne_eq_false_iff_eq.2 hp'.2
        clear hp hp'
        go_wp2
        go_roundw
        case rel => exact ⟨k + 1, by omega, by go_num, by show New _ _ _ _ _ _; rw [hs.out]; exact hR1.out, hb1.out⟩
        case measure => simp [intOf]; omega
    · have hkn : k = n := by omega
      have e : L.take k = L := List.take_of_length_le (by have := HN.out; omega)
      have hR2 := hR.out
      rw [e] at hR2
      have HR2 := Lib.hid hR2
      have H1 := Lib.hid (H.out.ext hb)
      obtain ⟨q0, q1⟩ := H1.out.cells
      have fz := H1.out.free 1
      have hlt1 := H1.out.lt
      obtain ⟨A2, n2, c2, rfl⟩ := Row_slice hR2
      obtain ⟨hn2, hnc2, _⟩ := Kd.R_reads' hR2
      have hne2 : Hid (((n : Int) != (n2 : Int)) = decide (0 ≤ idxT L kind id)) := by
        show _ = _
        rw [HN.out, hn2]
        exact hne.out
      clear hn2 e hR2 hR
      go_wp2
      go_ret
      exact ⟨.slice A2 n2 c2, by rw [← hne2.out]; rfl, H1.out.anew HR2.out hB (by decide), ((Only.refl _ _ _).ext hb).put 1 _, new_from HR2.out⟩
end
section
open Go.RowKit Go.Proofs.YthfolhgaecfogaaW.PrintWords Go.Proofs.YthfolhgaecfogaaW.PrintLast Go.Proofs.YthfolhgaecfogaaW.PrintMore
open Go.ChangeShapes Go.WideShapes Go.ChangeAt
attribute [local go_sem] max2_int min2_int max_two min_two max_three min_three max_four min_four
/-! maps from timers to ints -/
def in64 (x : Int) : Prop := -9223372036854775808 ≤ x ∧ x ≤ 9223372036854775807
def wfT (t : S48) : Prop := in64 t.f0 ∧ in64 t.f1 ∧ in64 t.f2
theorem wf_in64 {x : Int} (h : in64 x) : (Lit.int .i64 x).wf = true := by
  have e1 : IntKind.i64.min = -9223372036854775808 := by rfl
  have e2 : IntKind.i64.max = 9223372036854775807 := by rfl
  show (decide (IntKind.i64.min ≤ x) && decide (x ≤ IntKind.i64.max)) = true
  rw [e1, e2, decide_eq_true h.1, decide_eq_true h.2]
  rfl
theorem wide48 : (match Try.prog.underlying 48 with | some (.array _ _) | some (.struct _) => true | _ => false) = true := by rw [Try.underlying48]
theorem laidOut : laidOutB Try.prog = true := by kernel_rfl
set_option maxRecDepth 100000 in
theorem row48 : (48 : TypeId) < Try.prog.types.size := of_decide_eq_true (by kernel_rfl)
theorem kt48 : Try.prog.keyTypeAt 2 48 = true := by kernel_rfl
theorem kt48' : Try.prog.keyType 48 = true := by kernel_rfl
set_option maxRecDepth 100000 in
theorem law48 : Maps.Keyed Try.prog 48 := Maps.Keyed.of_law (deep_law_laid laidOut (m := 2) (by omega) row48 kt48 wide48)
theorem cells48 : Try.prog.cellsOf 48 = 3 := by kernel_rfl
theorem formed48 {a b c : Value} : (Value.agg #[a, b, c]).formed Try.prog 48 = true := by simp [Value.formed, Try.underlying48, cells48]
def klT (t : S48) : Lit := .string (keyBytes [.int .i64 t.f0, .int .i64 t.f1, .int .i64 t.f2])
theorem lits3 (d : Nat) {x : Int} (h : in64 x) : Try.prog.keyLits (d + 1) 3 [.int .i64 x] = some [.int .i64 x] := by
  simp [Program.keyLits, Try.underlying3, wf_in64 h]
theorem cellsI : Try.prog.cellsOf 3 = 1 := by kernel_rfl
theorem lits48 (d : Nat) {t : S48} (h : wfT t) : Try.prog.keyLits (d + 2) 48 [.int .i64 t.f0, .int .i64 t.f1, .int .i64 t.f2] = some [.int .i64 t.f0, .int .i64 t.f1, .int .i64 t.f2] := by
  unfold Program.keyLits
  rw [Try.underlying48]
  simp [cells48, cellsI, lits3 d h.1, lits3 d h.2.1, lits3 d h.2.2]
theorem keyT48 {t : S48} (h : wfT t) : Go.keyOf Try.prog 48 (vT t) = some (klT t) := by
  obtain ⟨d, hd⟩ : ∃ d, Try.prog.types.size + 1 = d + 2 := ⟨Try.prog.types.size - 1, by have h : (48 : Nat) < Try.prog.types.size := row48; omega⟩
  unfold Go.keyOf
  rw [Try.underlying48]
  have hf : (vT t).formed Try.prog 48 = true := formed48
  simp only [kt48', hf, Bool.and_self, if_true, hd]
  have hc : (vT t).cells.toList = [.int .i64 t.f0, .int .i64 t.f1, .int .i64 t.f2] := rfl
  rw [hc, lits48 d h]
  rfl
set_option maxRecDepth 100000 in
theorem tiled48 : Try.prog.tiled 2 48 = true := tiled_of_laidOut laidOut 2 48 (by
  simp only [isVar, Bool.and_eq_true, decide_eq_true_eq]
  exact ⟨row48, by kernel_rfl⟩) kt48
set_option maxRecDepth 100000 in
theorem klT_inj {t u : S48} (h : wfT t) (h' : wfT u) (e : klT t = klT u) : t = u := by
  have := keyOf_inj_deep tiled48 wide48 (keyT48 h) (by rw [e]; exact keyT48 h')
  obtain ⟨a, b, c⟩ := t
  obtain ⟨a', b', c'⟩ := u
  simpa [vT] using this
theorem klT_key (t : S48) : WideAt.IsKeyLit (klT t) := by
  unfold klT
  trivial
/-- block b is a map that holds f -/
def MapIs (w : World) (b n : Nat) (f : S48 → Int) : Prop := ∃ D : DataW Unit, w.ownsMap Try.prog 48 (plainElem Try.prog 3) b n D ∧ ∀ t, wfT t → D.atKey (klT t) (.lit (.int .i64 0)) = .lit (.int .i64 (f t))
def putF (f : S48 → Int) (t : S48) (v : Int) : S48 → Int := fun u => if u = t then v else f u
theorem zero3 (w : World) : (zeroValue 3).run Try.prog w = .ok (.int .i64 0) w := by kernel_rfl
theorem MapIs.made (w : World) : MapIs (w.alloc (.map #[] 0)) w.heap.size 0 (fun _ => 0) := ⟨.map [], World.ownsMap_made _ _ _ _, fun t _ => rfl⟩
theorem MapIs.kept {w w' : World} {b n : Nat} {f : S48 → Int} {row : Option Nat} (h : MapIs w b n f) (hg : w.grownBy w' row) (hne : some b ≠ row) : MapIs w' b n f := by
  obtain ⟨D, h1, h2⟩ := h
  exact ⟨D, h1.kept hg hne, h2⟩
theorem MapIs.lt {w : World} {b n : Nat} {f : S48 → Int} (h : MapIs w b n f) : b < w.heap.size := by
  obtain ⟨D, h1, _⟩ := h
  exact h1.lt
theorem MapIs.look {w : World} {b n : Nat} {f : S48 → Int} (h : MapIs w b n f) {t : S48} (ht : wfT t) : (Instr.lookup 65 (.map (some b)) (vT t) false).run Try.prog w = .ok (.int .i64 (f t)) w := by
  obtain ⟨D, h1, h2⟩ := h
  obtain ⟨c, hr, hat, _⟩ := h1.lookup_int law48 Try.underlying65 Try.underlying3 (zero3 w) (keyT48 ht)
  rw [h2 t ht] at hat
  simp only [DataW.lit.injEq, Lit.int.injEq, true_and] at hat
  rw [hat]
  exact hr
theorem MapIs.update {w : World} {b n : Nat} {f : S48 → Int} (h : MapIs w b n f) {t : S48} (ht : wfT t) {v : Int} (hv : in64 v) (hn : n < 4194304) : ∃ w', (Instr.mapUpdate 65 (.map (some b)) (vT t) (.int .i64 v)).run Try.prog w = .ok () w' ∧ MapIs w' b (n + 1) (putF f t v) ∧ w.grownBy w' (some b) := by
  obtain ⟨D, h1, h2⟩ := h
  obtain ⟨w', hr, h3, h4⟩ := h1.update law48 Try.underlying65 (by unfold maxLen; omega) (keyT48 ht) (plainElem_int Try.underlying3 (wf_in64 hv))
  refine ⟨w', hr, ⟨_, h3, fun u hu => ?_⟩, h4⟩
  unfold putF
  by_cases e : u = t
  · subst e
    rw [if_pos rfl]
    exact Maps.atKey_put_same h1.isMap (klT_key _) _ _
  · rw [if_neg e, ← h2 u hu]
    exact Maps.atKey_put_other (fun e' => e (klT_inj hu ht e')) _ _
end
section
open Go.RowKit Go.Proofs.YthfolhgaecfogaaW.PrintWords Go.Proofs.YthfolhgaecfogaaW.PrintLast Go.Proofs.YthfolhgaecfogaaW.PrintMore
attribute [local go_sem] max2_int min2_int max_two min_two max_three min_three max_four min_four
def clampT (n : Int) : Int := if n < 0 then 0 else if 4611686018427387904 < n then 4611686018427387904 else n
theorem Clk.made (w : World) (B : Nat) (hB : B ≤ w.heap.size) (T : Nat) (now : Int) : Clk T (w.alloc (.cells #[.int .i64 now, .slice none 0 0] T)) B w.heap.size (.slice none 0 0) now [] :=
  ⟨hB, heap_alloc_new w _, Kd.R_nil _ _ _ _ _⟩
def NewPost (T : Nat) (B : Nat) (w : World) (now : Int) : Ending → World → Prop := fun e w' => e = .returned (.pointer (some ⟨w.heap.size, 0, none⟩)) ∧ Clk T w' B w.heap.size (.slice none 0 0) now [] ∧ Ext w w'
theorem cnew_any (n : Int) (B : Nat) (w : World) (hB : B ≤ w.heap.size) : Calls Try.prog 22 #[.int .i64 n] w (NewPost 89 B w (clampT n)) := by
  by_cases h1 : n < 0
  · have hr : Hid (clampT n = 0) := by show _ = _; simp [clampT, h1]
    go_enter Try.func22, Try.ntmps22
    go_wp2
    go_ret
    rw [hr.out]
    exact ⟨rfl, Clk.made w B hB 89 0, ext_alloc _ _⟩
  by_cases h2 : 4611686018427387904 < n
  · have hr : Hid (clampT n = 4611686018427387904) := by show _ = _; simp [clampT, h1, h2]
    go_enter Try.func22, Try.ntmps22
    go_wp2
    go_ret
    rw [hr.out]
    exact ⟨rfl, Clk.made w B hB 89 _, ext_alloc _ _⟩
  · have hr : Hid (clampT n = n) := by show _ = _; simp [clampT, h1, h2]
    go_enter Try.func22, Try.ntmps22
    go_wp2
    go_ret
    rw [hr.out]
    exact ⟨rfl, Clk.made w B hB 89 _, ext_alloc _ _⟩
theorem rnew_any (n : Int) (B : Nat) (w : World) (hB : B ≤ w.heap.size) : Calls Try.prog 23 #[.int .i64 n] w (NewPost 61 B w (clampT n)) := by
  by_cases h1 : n ≤ 0
  · have hr : Hid (clampT n = 0) := by show _ = _; unfold clampT; split <;> omega
    have h2 : n ≤ 4611686018427387904 := by omega
    go_enter Try.func23, Try.ntmps23
    go_wp2
    go_ret
    rw [hr.out]
    exact ⟨rfl, Clk.made w B hB 61 0, ext_alloc _ _⟩
  by_cases h2 : 4611686018427387904 < n
  · have hr : Hid (clampT n = 4611686018427387904) := by show _ = _; unfold clampT; rw [if_neg (by omega)]; split <;> omega
    go_enter Try.func23, Try.ntmps23
    go_wp2
    go_ret
    rw [hr.out]
    exact ⟨rfl, Clk.made w B hB 61 _, ext_alloc _ _⟩
  · have hr : Hid (clampT n = n) := by show _ = _; unfold clampT; rw [if_neg (by omega)]; split <;> omega
    go_enter Try.func23, Try.ntmps23
    go_wp2
    go_ret
    rw [hr.out]
    exact ⟨rfl, Clk.made w B hB 61 _, ext_alloc _ _⟩
def tA : S48 := ⟨5, 2, 1⟩
def tB : S48 := ⟨5, 1, 9⟩
theorem aw90 : setOk 0 tA = true := by kernel_rfl
theorem aw91 : setT 0 [] tA = [tA] := by kernel_rfl
theorem aw92 : setOk 0 tB = true := by kernel_rfl
theorem aw93 : setT 0 [tA] tB = [tB, tA] := by kernel_rfl
theorem aw94 : nextOk [tB, tA] 9 = true := by kernel_rfl
theorem aw95 : nextT [tB, tA] 9 = tB := by kernel_rfl
theorem aw96 : nextL [tB, tA] 9 = [tA] := by kernel_rfl
theorem aw97 : nextN 0 [tB, tA] 9 = 5 := by kernel_rfl
theorem aw98 : goOk 5 [tA] 9 = false := by kernel_rfl
theorem aw99 : clampT 0 = 0 := by kernel_rfl
theorem goodA : Good [tA] := by rw [← aw91]; exact setT_good good_nil tA
theorem goodAB : Good [tB, tA] := by rw [← aw93]; exact setT_good goodA tB
set_option maxRecDepth 100000 in
set_option maxHeartbeats 1000000 in
theorem awake9_any (w : World) : Calls Try.prog 21 #[] w fun e w' => e = .returned (.bool true) ∧ Ext w w' := by
  go_enter Try.func21, Try.ntmps21
  go_wp2_with fail
  refine (cnew_any 0 w.heap.size w (Nat.le_refl _)).mono ?_
  rintro e w1 ⟨rfl, hC1, hb1⟩
  rw [aw99] at hC1
  have HC1 := Lib.hid hC1
  clear hC1
  go_wp2_with fail
  refine (cset_any tA w1 w.heap.size w.heap.size _ 0 [] hb1.size HC1.out good_nil (by decide)).mono ?_
  rintro e w2 ⟨v2, he, hC2, hO2, hF2⟩
  rw [aw90] at he
  rw [aw91] at hC2
  subst he
  have HC2 := Lib.hid hC2
  have hB2 := Lib.hid (hO2.below hb1 hb1.size (Nat.le_refl _) (fun k h => by cases h))
  clear hC2 hO2 hF2 hb1
  go_wp2_with fail
  refine (cset_any tB w2 w.heap.size w.heap.size _ 0 [tA] hB2.out.size HC2.out goodA (by decide)).mono ?_
  rintro e w3 ⟨v3, he, hC3, hO3, hF3⟩
  rw [aw92] at he
  rw [aw93] at hC3
  subst he
  have HC3 := Lib.hid hC3
  have hB3 := Lib.hid (hO3.below hB2.out hB2.out.size (Nat.le_refl _) (Kd.R_base HC2.out.2.2))
  clear hC3 hO3 hF3
  go_wp2_with fail
  refine (cnext_any 9 w3 w.heap.size w.heap.size _ 0 [tB, tA] HC3.out (by decide)).mono ?_
  rintro e w4 ⟨v4, he, hC4, hO4, hF4⟩
  rw [aw94, aw95] at he
  rw [aw96, aw97] at hC4
  subst he
  have HC4 := Lib.hid hC4
  have hB4 := Lib.hid (hO4.below hB3.out hB3.out.size (Nat.le_refl _) (Kd.R_base HC3.out.2.2))
  clear hC4 hO4 hF4
  unfold vT tB
  have hx := Lib.hid (ext_alloc w4 (.cells #[.int .i64 5, .int .i64 1, .int .i64 9] 48))
  go_wp2_with fail
  refine (cnow_any _ w.heap.size w.heap.size v4 5 [tA] (HC4.out.ext hx.out)).mono ?_
  rintro e w5 ⟨rfl, rfl⟩
  go_wp2_with fail
  refine (call_any _ w.heap.size w.heap.size v4 5 [tA] (HC4.out.ext hx.out) (by decide)).mono ?_
  rintro e w6 ⟨A, n, c, rfl, hn, hnc, hC, hb6⟩
  obtain rfl : n = 1 := hn.out
  have HX := Lib.hid (Ext.tr hx.out hb6)
  clear hn hb6
  go_wp2_with fail
  refine (cgo_any 9 w6 w.heap.size w.heap.size v4 5 [tA] (HC4.out.ext HX.out)).mono ?_
  rintro e w7 ⟨he, hC7, hO7⟩
  rw [aw98] at he
  subst he
  go_wp2
  go_ret
  exact ⟨rfl, hO7.below (hB4.out.trans (HX.out.mono hB4.out.size)) (Nat.le_trans hB4.out.size HX.out.size) (Nat.le_refl _) (Kd.R_base HC4.out.2.2)⟩
end
section
open Go.RowKit Go.Proofs.YthfolhgaecfogaaW.PrintWords Go.Proofs.YthfolhgaecfogaaW.PrintLast Go.Proofs.YthfolhgaecfogaaW.PrintMore
/-! plain laws of ClockOrder -/
def memF (L : List S48) (f : S48 → Int) : Prop := ∀ u, f u = if u ∈ L then 1 else 0
def InT (L : List S48) : Prop := ∀ t ∈ L, wfT t ∧ 0 ≤ t.f0 ∧ t.f0 < 1000
theorem inT_nil : InT [] := fun t h => by cases h
theorem memF_nil : memF [] (fun _ => 0) := fun u => by simp
theorem at_hit {L : List S48} {kind id : Int} (h : 0 ≤ idxT L kind id) : (⟨atV L kind id, kind, id⟩ : S48) ∈ L := by
  obtain ⟨i, hi⟩ : ∃ i : Nat, idxT L kind id = (i : Int) := ⟨(idxT L kind id).toNat, by omega⟩
  obtain ⟨hil, hp, _⟩ := idxF_nat hi
  have hp' := hitT_iff.1 hp
  have : (⟨atV L kind id, kind, id⟩ : S48) = L[i] := by
    have e : atV L kind id = L[i].f0 := by
      unfold atV
      rw [if_pos h, hi, Int.toNat_natCast, List.getD_eq_getElem?_getD, List.getElem?_eq_getElem hil]
      rfl
    rw [e, ← hp'.1, ← hp'.2]
  rw [this]
  exact List.getElem_mem hil
theorem uniq_same {L : List S48} (hu : Uniq L) {x y : S48} (hx : x ∈ L) (hy : y ∈ L) (h : x.f1 = y.f1 ∧ x.f2 = y.f2) : x = y := by
  obtain ⟨i, hi, rfl⟩ := List.getElem_of_mem hx
  obtain ⟨j, hj, rfl⟩ := List.getElem_of_mem hy
  rcases Nat.lt_trichotomy i j with e | e | e
  · exact absurd h ((List.pairwise_iff_getElem.1 hu) i j hi hj e)
  · subst e; rfl
  · exact absurd ⟨h.1.symm, h.2.symm⟩ ((List.pairwise_iff_getElem.1 hu) j i hj hi e)
theorem set_ok {t : S48} (h : 0 ≤ t.f0 ∧ t.f0 < 1000) : setOk 0 t = true := setOk_iff.2 ⟨h.1, by omega⟩
theorem setT_eq {t : S48} (L : List S48) (h : 0 ≤ t.f0 ∧ t.f0 < 1000) : setT 0 L t = insT (cutT L t.f1 t.f2) t := by unfold setT; rw [set_ok h]; rfl
theorem setT_inT {L : List S48} {t : S48} (hL : InT L) (ht : wfT t) (h : 0 ≤ t.f0 ∧ t.f0 < 1000) : InT (setT 0 L t) := by
  rw [setT_eq L h]
  intro x hx
  rcases mem_insT.1 hx with rfl | hx
  · exact ⟨ht, h⟩
  · exact hL x (mem_cutT.1 hx).1
theorem set_yes {L : List S48} {f : S48 → Int} {t : S48} (hu : Uniq L) (hf : memF L f) (h : 0 ≤ t.f0 ∧ t.f0 < 1000) (hh : 0 ≤ idxT L t.f1 t.f2) :
    memF (setT 0 L t) (putF (putF f ⟨atV L t.f1 t.f2, t.f1, t.f2⟩ 0) t 1) := by
  rw [setT_eq L h]
  intro u
  unfold putF
  by_cases e : u = t
  · rw [if_pos e, if_pos (mem_insT.2 (.inl e))]
  rw [if_neg e]
  have hm := at_hit hh
  by_cases e2 : u = ⟨atV L t.f1 t.f2, t.f1, t.f2⟩
  · rw [if_pos e2, if_neg]
    intro hx
    rcases mem_insT.1 hx with rfl | hx
    · exact e rfl
    · exact (mem_cutT.1 hx).2 (by rw [e2]; exact ⟨rfl, rfl⟩)
  · rw [if_neg e2, hf u]
    have : u ∈ insT (cutT L t.f1 t.f2) t ↔ u ∈ L := by
      rw [mem_insT, mem_cutT]
      constructor
      · rintro (h | h)
        · exact absurd h e
        · exact h.1
      · intro hx
        exact .inr ⟨hx, fun hs => e2 (uniq_same hu hx hm hs)⟩
    simp only [this]
theorem set_no {L : List S48} {f : S48 → Int} {t : S48} (hf : memF L f) (h : 0 ≤ t.f0 ∧ t.f0 < 1000) (hh : idxT L t.f1 t.f2 < 0) :
    memF (setT 0 L t) (putF f t 1) := by
  rw [setT_eq L h, cutT_none hh]
  intro u
  unfold putF
  by_cases e : u = t
  · rw [if_pos e, if_pos (mem_insT.2 (.inl e))]
  · rw [if_neg e, hf u]
    have : u ∈ insT L t ↔ u ∈ L := by rw [mem_insT]; exact ⟨fun h => h.resolve_left e, .inr⟩
    simp only [this]
/-- what holds while timers come: f, and the last one -/
def Tells (L : List S48) (f : S48 → Int) (last : S48) : Prop :=
  (∀ t ∈ L, f t = 1) ∧ (∀ t, f t = 1 → t ∈ L) ∧ ((f last = 2 ∧ ∀ t ∈ L, ahead last t = true) ∨ (f last ≠ 2 ∧ ∀ t ∈ L, last.f0 ≤ t.f0))
theorem tells_start {L : List S48} {f : S48 → Int} (hf : memF L f) (hL : InT L) : Tells L f z48 := by
  refine ⟨fun t ht => by rw [hf t, if_pos ht], fun t ht => ?_, .inr ⟨?_, fun t ht => (hL t ht).2.1⟩⟩
  · rw [hf t] at ht
    by_cases e : t ∈ L
    · exact e
    · rw [if_neg e] at ht; omega
  · rw [hf z48]; split <;> omega
theorem tells_next {x : S48} {r : List S48} {f : S48 → Int} {last : S48} (h : Tells (x :: r) f last) (hg : Good (x :: r)) : Tells r (putF f x 2) x := by
  obtain ⟨h1, h2, h3⟩ := h
  have ho := List.pairwise_cons.1 hg.1
  have hne : ∀ t ∈ r, t ≠ x := fun t ht e => by
    subst e
    have := ho.1 t ht
    rw [ahead_irrefl] at this
    cases this
  refine ⟨fun t ht => ?_, fun t ht => ?_, .inl ⟨by simp [putF], ho.1⟩⟩
  · unfold putF
    rw [if_neg (hne t ht)]
    exact h1 t (List.mem_cons_of_mem _ ht)
  · unfold putF at ht
    by_cases e : t = x
    · rw [if_pos e] at ht; omega
    · rw [if_neg e] at ht
      rcases List.mem_cons.1 (h2 t ht) with e' | e'
      · exact absurd e' e
      · exact e'
theorem tells_check {x : S48} {r : List S48} {f : S48 → Int} {last : S48} (h : Tells (x :: r) f last) : f x = 1 ∧ last.f0 ≤ x.f0 ∧
    (x.f0 ≠ last.f0 ∨ (x.f0 = last.f0 ∧ (last.f1 < x.f1 ∨ (last.f1 = x.f1 ∧ last.f2 < x.f2))) ∨ f last ≠ 2) := by
  obtain ⟨h1, h2, h3⟩ := h
  refine ⟨h1 x List.mem_cons_self, ?_, ?_⟩
  · rcases h3 with ⟨_, h⟩ | ⟨_, h⟩
    · have := ahead_iff.1 (h x List.mem_cons_self); omega
    · exact h x List.mem_cons_self
  · rcases h3 with ⟨_, h⟩ | ⟨h, _⟩
    · have := ahead_iff.1 (h x List.mem_cons_self); omega
    · exact .inr (.inr h)
theorem good_tail {x : S48} {r : List S48} (h : Good (x :: r)) : Good r := ⟨(List.pairwise_cons.1 h.1).2, (List.pairwise_cons.1 h.2).2⟩
theorem inT_tail {x : S48} {r : List S48} (h : InT (x :: r)) : InT r := fun t ht => h t (List.mem_cons_of_mem _ ht)
theorem above {L : List S48} {u : Int} (hg : Good L) (h : nextOk L u = false) : ∀ t ∈ L, u < t.f0 := by
  cases L with
  | nil => exact fun t h => by cases h
  | cons x r =>
    have hx := next_no h (by simp)
    simp only [List.getElem_cons_zero] at hx
    intro t ht
    rcases List.mem_cons.1 ht with rfl | ht
    · exact hx
    · have := ahead_iff.1 ((List.pairwise_cons.1 hg.1).1 t ht)
      omega
theorem all_gone {L : List S48} (hL : InT L) (hg : Good L) (h : nextOk L 2000 = false) : L = [] := by
  cases L with
  | nil => rfl
  | cons x r =>
    have h1 := above hg h x List.mem_cons_self
    have h2 := hL x List.mem_cons_self
    omega
theorem go_ok {L : List S48} {now u : Int} (h1 : now ≤ u) (h2 : u ≤ 2000) (h : nextOk L u = false) : goOk now L u = true := by
  unfold goOk
  rw [decide_eq_true h1, decide_eq_true (by omega), h]
  rfl
/-! the world of ClockOrder -/
theorem MapIs.move {w w' : World} {b n : Nat} {f : S48 → Int} (h : MapIs w b n f) (e : w'.heap[b]? = w.heap[b]?) : MapIs w' b n f := by
  obtain ⟨D, ⟨es, clock, hb, F, hs, hD⟩, h2⟩ := h
  exact ⟨D, ⟨es, clock, e.trans hb, F, hs, hD⟩, h2⟩
theorem MapIs.blk {w : World} {b n : Nat} {f : S48 → Int} (h : MapIs w b n f) : ∃ es clock, w.heap[b]? = some (.map es clock) := by
  obtain ⟨D, ⟨es, clock, hb, F, hs, hD⟩, h2⟩ := h
  exact ⟨es, clock, hb⟩
theorem MapIs.ne {w : World} {b n g : Nat} {f : S48 → Int} {cs : Array Value} {t : TypeId} {fr : Nat × Nat} (h : MapIs w b n f) (hg : w.heap[g]? = some (.cells cs t fr)) : g ≠ b := by
  obtain ⟨es, clock, hb⟩ := h.blk
  rintro rfl
  rw [hb] at hg
  cases hg
theorem Row.blk {w : World} {B : Nat} {v : Value} {L : List S48} (h : Row w B v L) {k : Nat} (hk : v.ownBlock = some k) : ∃ cs, w.heap[k]? = some (.cells cs 48 (0, 0)) := by
  obtain ⟨_, inner, ho, _⟩ := h
  exact own_typed ho k hk
structure StO (w0 w : World) (p bm : Nat) (v : Value) (now : Int) (L : List S48) (m : Nat) (f : S48 → Int) : Prop where
  clk : Clk 89 w w0.heap.size p v now L
  map : MapIs w bm m f
  ext : Ext w0 w
  new : w0.heap.size ≤ bm
theorem StO.after {w0 w w' : World} {p bm m : Nat} {v : Value} {now : Int} {L : List S48} {f : S48 → Int} (h : StO w0 w p bm v now L m f) (hb : Ext w w') : StO w0 w' p bm v now L m f :=
  ⟨h.clk.ext hb, h.map.move (hb.block bm h.map.lt), Ext.tr h.ext hb, h.new⟩
theorem StO.op {w0 w w' : World} {p bm m : Nat} {v v' : Value} {now now' : Int} {L L' : List S48} {f : S48 → Int} (h : StO w0 w p bm v now L m f) (hC : Clk 89 w' w0.heap.size p v' now' L') (ho : Only w w' p v) : StO w0 w' p bm v' now' L' m f := by
  refine ⟨hC, h.map.move (ho.2.2.2.2 bm h.map.lt (fun e => h.map.ne h.clk.2.1 e.symm) (fun e => ?_)), ho.below h.ext h.ext.size h.clk.1 (Kd.R_base h.clk.2.2), h.new⟩
  obtain ⟨cs, hc⟩ := h.clk.2.2.blk e
  exact h.map.ne hc rfl
theorem StO.upd {w0 w w' : World} {p bm m m' : Nat} {v : Value} {now : Int} {L : List S48} {f f' : S48 → Int} (h : StO w0 w p bm v now L m f) (hM : MapIs w' bm m' f') (hg : w.grownBy w' (some bm)) : StO w0 w' p bm v now L m' f' := by
  have hp : p ≠ bm := h.map.ne h.clk.2.1
  refine ⟨⟨h.clk.1, (hg.block p h.clk.lt (fun e => hp (by injection e))).trans h.clk.2.1, Row_move h.clk.2.2 (fun k hk => ?_)⟩, hM, h.ext.grown hg h.ext.size (fun k hk => by injection hk with hk; rw [← hk]; exact h.new), h.new⟩
  obtain ⟨cs, hc⟩ := h.clk.2.2.blk hk
  exact hg.block k (blk_lt hc) (fun e => h.map.ne hc (by injection e))
theorem Box48.upd {w w' : World} {g b m : Nat} {t : S48} {f : S48 → Int} (h : Box48 w g t) (hM : MapIs w b m f) (hg : w.grownBy w' (some b)) : Box48 w' g t :=
  (hg.block g (blk_lt h) (fun e => hM.ne h (by injection e))).trans h
theorem sep_from {w : World} {v v' : Value} {g : Nat} (hs : v.ownBlock ≠ some g) (hf : From w v v') (hg : g < w.heap.size) : v'.ownBlock ≠ some g := fun e => by
  rcases hf g e with h | h
  · exact hs h
  · omega
theorem sep_new {w : World} {B : Nat} {v : Value} {L : List S48} (h : Row w B v L) {g : Nat} (hg : w.heap.size ≤ g) : v.ownBlock ≠ some g := fun e => by
  have := Kd.R_lt h g e
  omega
theorem Box48.put3 {w : World} {g : Nat} {t : S48} (h : Box48 w g t) (x : S48) : Box48 (((w.setCell ⟨g, 0, none⟩ (.int .i64 x.f0)).setCell ⟨g, 1, none⟩ (.int .i64 x.f1)).setCell ⟨g, 2, none⟩ (.int .i64 x.f2)) g x := by
  have h1 := heap_setCell_same _ g 0 _ 48 (.int .i64 x.f0) h
  have h2 := heap_setCell_same _ g 1 _ 48 (.int .i64 x.f1) h1
  have h3 := heap_setCell_same _ g 2 _ 48 (.int .i64 x.f2) h2
  show (World.setCell _ _ _).heap[g]? = _
  rw [h3]
  simp
theorem StO.put {w0 w : World} {p bm m g : Nat} {v : Value} {now : Int} {L : List S48} {f : S48 → Int} {t : S48} (h : StO w0 w p bm v now L m f) (hb : Box48 w g t) (hs : v.ownBlock ≠ some g) (hn : w0.heap.size ≤ g) (x : S48) :
    StO w0 (((w.setCell ⟨g, 0, none⟩ (.int .i64 x.f0)).setCell ⟨g, 1, none⟩ (.int .i64 x.f1)).setCell ⟨g, 2, none⟩ (.int .i64 x.f2)) p bm v now L m f := by
  have hgp : g ≠ p := fun e => by
    subst e
    have e2 := hb.symm.trans h.clk.2.1
    simp at e2
  have hgb : g ≠ bm := h.map.ne hb
  have hm : ∀ (W : World) (j : Nat) (u : Value), (W.setCell ⟨g, j, none⟩ u).heap[bm]? = W.heap[bm]? := fun W j u => Below.heap_setCell W ⟨g, j, none⟩ u bm (fun e => hgb e.symm)
  exact ⟨((h.clk.far hgp hs 0 _).far hgp hs 1 _).far hgp hs 2 _, h.map.move ((hm _ _ _).trans ((hm _ _ _).trans (hm _ _ _))), ((h.ext.setCell (p := ⟨g, 0, none⟩) hn _).setCell (p := ⟨g, 1, none⟩) hn _).setCell (p := ⟨g, 2, none⟩) hn _, h.new⟩
theorem chk_split {x last : S48} {c : Int} (h0 : last.f0 ≤ x.f0) (h : x.f0 ≠ last.f0 ∨ (x.f0 = last.f0 ∧ (last.f1 < x.f1 ∨ (last.f1 = x.f1 ∧ last.f2 < x.f2))) ∨ c ≠ 2) {P : Prop}
    (a1 : (x.f0 == last.f0) = false → P)
    (a2 : (x.f0 == last.f0) = true → decide (x.f1 < last.f1) = false → (x.f1 == last.f1) = false → P)
    (a3 : (x.f0 == last.f0) = true → (x.f1 == last.f1) = true → decide (x.f1 < last.f1) = false → decide (x.f2 ≤ last.f2) = false → P)
    (a4 : (x.f0 == last.f0) = true → decide (x.f1 < last.f1) = true → (c == 2) = false → P)
    (a5 : (x.f0 == last.f0) = true → (x.f1 == last.f1) = true → decide (x.f1 < last.f1) = false → decide (x.f2 ≤ last.f2) = true → (c == 2) = false → P) : P := by
  by_cases e0 : x.f0 = last.f0
  case neg => exact a1 (beq_eq_false_iff_ne.2 e0)
  have b0 : (x.f0 == last.f0) = true := beq_iff_eq.2 e0
  rcases Int.lt_trichotomy x.f1 last.f1 with h1 | h1 | h1
  · exact a4 b0 (decide_eq_true h1) (beq_eq_false_iff_ne.2 (by omega))
  · rcases Int.lt_or_le last.f2 x.f2 with h2 | h2
    · exact a3 b0 (beq_iff_eq.2 h1) (decide_eq_false (by omega)) (decide_eq_false (by omega))
    · exact a5 b0 (beq_iff_eq.2 h1) (decide_eq_false (by omega)) (decide_eq_true h2) (beq_eq_false_iff_ne.2 (by omega))
  · exact a2 b0 (decide_eq_false (by omega)) (beq_eq_false_iff_ne.2 (by omega))
theorem look_regrown {w : World} {b n : Nat} {f : S48 → Int} {t : S48} {c : Int} (h : MapIs w b n f) (ht : wfT t) (hc : f t = c) (d : Nat) (os : Array Obj) :
    (Instr.lookup 65 (.map (some b)) (.agg #[.int .i64 t.f0, .int .i64 t.f1, .int .i64 t.f2]) false).run Try.prog (Go.Sort.grow (redrawn w d) os) = .ok (.int .i64 c) (Go.Sort.grow (redrawn w d) os) := by
  have := (h.move ((below_regrown w d os).block b h.lt)).look ht
  rw [hc] at this
  exact this
theorem q34 (w : World) (B p : Nat) (v : Value) (now : Int) (L : List S48) (h : Clk 89 w B p v now L) (d : Nat) (os : Array Obj) :
    Calls Try.prog 34 #[.pointer (some ⟨p, 0, none⟩)] (Go.Sort.grow (redrawn w d) os) fun e w'' => e = .returned (.int .i64 now) ∧ ∃ p : Regrown, w'' = Go.Sort.grow (redrawn w p.d) p.os :=
  Calls.regrown_of ((cnow_any _ B p v now L (h.ext (below_regrown w d os))).mono fun e w' ⟨h1, h2⟩ => ⟨h1, by rw [← h2]; exact Below.refl _ _⟩)
def outI (k : Nat) (M now : Int) (L : List S48) : Prop := (k = 0 ∧ now = 0) ∨ (k = 1 ∧ now = M ∧ ∀ t ∈ L, M < t.f0) ∨ (k = 2 ∧ now = 2000 ∧ L = [])
def toT (M : Int) (k : Nat) : Int := if k = 0 then M else 2000
def Comes (L : List S48) (f : S48 → Int) (last : S48) (m : Nat) : Prop := Good L ∧ InT L ∧ Tells L f last ∧ wfT last ∧ L.length ≤ 100 ∧ m + L.length ≤ 400
/-- 'm[t] = c' at the operation -/
theorem wpList_upd {ops : Array Oper} {rest : List Oper} {o : Oper} {a : Act} {Q : Exit → Act → World → Prop} {w : World} (hg : o.guard = none) (m x v : Operand) (hop : o.op = Op.mapUpdate 65 m x v) (b n : Nat) (f : S48 → Int)
    (hm : a.eval m = .map (some b)) (hM : MapIs w b n f) (hn : n < 4194304) (t : S48) (c : Int) (hx : a.eval x = vT t) (hv : a.eval v = .int .i64 c) (ht : wfT t) (hc : in64 c)
    (hK : ∀ w', MapIs w' b (n + 1) (putF f t c) → w.grownBy w' (some b) → wpList Try.prog ops Q rest (a.put o.dst undef) w') :
    wpList Try.prog ops Q (o :: rest) a w := by
  refine wpList_plain hg fun K' hK' => ?_
  obtain ⟨w', hrun, r1, r2⟩ := hM.update ht hc hn
  unfold Oper.wp
  simp [execOp, hop, hm, hx, hv, hrun, Result.andThen]
  exact hK' _ _ (hK w' r1 r2)
end
end Go.Proofs.Ythfolhgaecfogaa
