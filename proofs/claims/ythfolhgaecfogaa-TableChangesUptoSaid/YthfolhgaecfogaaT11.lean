import Derived.Test.YthfolhgaecfogaaT10
set_option linter.unusedVariables false
set_option linter.unusedSimpArgs false
namespace Go.Proofs.Ythfolhgaecfogaa
open Go.RowKit Go.Proofs.YthfolhgaecfogaaW.PrintWords Go.Proofs.YthfolhgaecfogaaW.PrintLast Go.Proofs.YthfolhgaecfogaaW.PrintMore
theorem eqA82 (d : Nat) (w : World) (x0 y0 : Int) (x1 y1 : Int) :
    (Op.equalIn (d + 2) 82 (.agg #[.int .i64 x0, .int .i64 x1]) (.agg #[.int .i64 y0, .int .i64 y1])).run Try.prog w = .ok (x0 == y0 && (x1 == y1)) w := by
  refine eqA_of Try.underlying82 (by kernel_rfl) ?_
  refine eqf_cons (by rfl) (by go_simp; rfl) (by go_simp; rfl) (by go_simp) ?_
  exact eqf_last (by rfl) (by go_simp; rfl) (by go_simp; rfl) (by go_simp)
theorem eqA77 (d : Nat) (w : World) (x0 y0 : ByteArray) (x1 y1 : ByteArray) :
    (Op.equalIn (d + 2) 77 (.agg #[.string x0, .string x1]) (.agg #[.string y0, .string y1])).run Try.prog w = .ok (x0.toList == y0.toList && (x1.toList == y1.toList)) w := by
  refine eqA_of Try.underlying77 (by kernel_rfl) ?_
  refine eqf_cons (by rfl) (by go_simp; rfl) (by go_simp; rfl) (by go_simp) ?_
  exact eqf_last (by rfl) (by go_simp; rfl) (by go_simp; rfl) (by go_simp)
theorem q70v (a b : S82) (W : World) {r : Bool} (hr : lessK a b = r) (d : Nat) (os : Array Obj) :
    Calls Try.prog 70 #[.agg #[.int .i64 a.f0, .int .i64 a.f1], .agg #[.int .i64 b.f0, .int .i64 b.f1]] (Go.Sort.grow (redrawn W d) os) fun e w'' => e = .returned (.bool r) ∧ ∃ p : Regrown, w'' = Go.Sort.grow (redrawn W p.d) p.os :=
  hr ▸ q70 a b W d os
theorem lessK_iff (a b : S82) : lessK a b = true ↔ (a.f0 < b.f0 ∨ (a.f0 = b.f0 ∧ a.f1 < b.f1)) := by simp [lessK]
theorem lessK_no (a b : S82) : lessK a b = false ↔ ¬ (a.f0 < b.f0 ∨ (a.f0 = b.f0 ∧ a.f1 < b.f1)) := by
  rw [← lessK_iff]; simp
/-- how many are ahead -/
def posK (l : List S82) (k : S82) : Nat := (l.takeWhile (fun x => lessK x k)).length
theorem posK_eq {l : List S82} {k : S82} {p : Nat} (hp : p ≤ l.length) (h0 : ∀ i (h : i < l.length), i < p → lessK l[i] k = true) (h1 : ∀ (h : p < l.length), lessK l[p] k = false) : posK l k = p := by
  unfold posK
  induction l generalizing p with
  | nil => simp at hp; simp [hp]
  | cons x r ih =>
    rcases p with _ | p
    · have := h1 (by simp)
      simp only [List.getElem_cons_zero] at this
      simp [this]
    · have hx := h0 0 (by simp) (by omega)
      simp only [List.getElem_cons_zero] at hx
      rw [List.takeWhile_cons, hx]
      simp only [if_true, List.length_cons]
      rw [ih (by simpa using hp) (fun i h hi => by have := h0 (i + 1) (by simpa using h) (by omega); simpa using this) (fun h => by have := h1 (by simpa using h); simpa using this)]
def Sorted82 (l : List S82) : Prop := ∀ i j (hi : i < l.length) (hj : j < l.length), i < j → lessK l[i] l[j] = true
def hereK (l : List S82) (k : S82) : Bool := match l[posK l k]? with | some x => x.f0 == k.f0 && x.f1 == k.f1 | none => false
attribute [local go_sem high] eqA82
set_option maxRecDepth 100000 in
set_option maxHeartbeats 1000000 in
theorem ofind_any (A : Option Addr) (c n : Nat) (l : List S82) (k : S82) (w : World) (hC0 : Kd.C k82 w A n l) (hc0 : n ≤ c) (hs : Sorted82 l) :
    Calls Try.prog 47 #[.slice A n c, .agg #[.int .i64 k.f0, .int .i64 k.f1]] w fun e w' => e = .returned (.tuple #[.int .i64 (posK l k), .bool (hereK l k)]) ∧ Ext w w' := by
  obtain rfl : l.length = n := Kd.C_len hC0
  have hC := hC0
  have hc := hc0
  clear hC0 hc0
  have hu := Try.underlying82
  have hm := len_max hC
  have HC := Lib.hid hC
  have HS := Lib.hid hs
  clear hC hs
  go_enter Try.func47, Try.ntmps47
  go_wp2
  have hbx : (w.alloc (.cells #[.int .i64 k.f0, .int .i64 k.f1] 82)).heap[w.heap.size]? = some (.cells #[.int .i64 k.f0, .int .i64 k.f1] 82 (0, 0)) := heap_alloc_new w _
  have HBX := Lib.hid hbx
  clear hbx
  go_loopw [6, 7] (fun lo hi wr => ∃ a b : Nat, a ≤ b ∧ b ≤ l.length ∧ lo = .int .i64 a ∧ hi = .int .i64 b ∧ Hid ((∀ i (h : i < l.length), i < a → lessK l[i] k = true) ∧ (∀ i (h : i < l.length), b ≤ i → lessK l[i] k = false)) ∧ Hid (wr.heap[w.heap.size]? = some (.cells #[.int .i64 k.f0, .int .i64 k.f1] 82 (0, 0))) ∧ Ext w wr) (fun lo hi _ => (intOf hi - intOf lo).toNat)
  case atStart => exact ⟨0, l.length, Nat.zero_le _, Nat.le_refl _, rfl, rfl, ⟨fun i h hi => absurd hi (by omega), fun i h hi => absurd h (by omega)⟩, HBX.out, ext_alloc _ _⟩
  case round =>
    clear HBX
    obtain ⟨a, b, hab, hbl, rfl, rfl, hg, hB, hb⟩ := hrel
    have x4 := blk_cell hB.out 0
    have x5 := blk_cell hB.out 1
    simp only [List.getElem?_toArray, List.getElem?_cons_zero, List.getElem?_cons_succ] at x4 x5
    have y4 := fun d os => cell_regrown x4 d os
    have y5 := fun d os => cell_regrown x5 d os
    clear x4 x5
    by_cases hlt : a < b
    · obtain ⟨m, hm1, hm2, hm3⟩ : ∃ m : Nat, a ≤ m ∧ m < b ∧ (a : Int) + ((b : Int) - (a : Int)) / 2 = (m : Int) := ⟨a + (b - a) / 2, by omega, by omega, by omega⟩
      have hml : m < l.length := by omega
      obtain ⟨ad, rfl, x0, x1⟩ := C82 (Kd.C_below HC.out hb) (k := m) hml
      have y0 := fun d os => cell_regrown x0 d os
      have y1 := fun d os => cell_regrown x1 d os
      clear x0 x1
      cases hp : lessK l[m] k
      · have hr : Hid ((∀ i (h : i < l.length), i < a → lessK l[i] k = true) ∧ (∀ i (h : i < l.length), m ≤ i → lessK l[i] k = false)) := by
          refine ⟨hg.out.1, fun i h hi => ?_⟩
          rcases Nat.eq_or_lt_of_le hi with rfl | hi
          · exact hp
          · have h1 := (lessK_iff _ _).1 (HS.out m i hml h hi)
            have h2 := (lessK_no _ _).1 hp
            rw [lessK_no]; omega
        go_wp2
        refine wp_region_quiet_below (by kernel_rfl) (by kernel_rfl) ?_
        repeat (go_big_quiet_step ((go_at_call 70; exact q70v l[m] k _ hp _ _)))
        refine wpQuiet_nil ?_
        intro _ hw'
        obtain ⟨⟨dq, osq⟩, hw''⟩ := hw'
        subst hw''
        have hz := Lib.hid (Ext.tr hb (below_regrown _ dq osq))
        have hz2 : Hid ((Go.Sort.grow (redrawn wr dq) osq).heap[w.heap.size]? = some (.cells #[.int .i64 k.f0, .int .i64 k.f1] 82 (0, 0))) := ((below_regrown wr dq osq).block _ (blk_lt hB.out)).trans hB.out
        go_wp2
        go_roundw
        case rel => exact ⟨a, m, by omega, by omega, rfl, rfl, hr, hz2, hz.out⟩
        case measure => simp [intOf]; omega
      · have hr : Hid ((∀ i (h : i < l.length), i < m + 1 → lessK l[i] k = true) ∧ (∀ i (h : i < l.length), b ≤ i → lessK l[i] k = false)) := by
          refine ⟨fun i h hi => ?_, hg.out.2⟩
          rcases Nat.eq_or_lt_of_le (show i ≤ m by omega) with rfl | hi
          · exact hp
          · have h1 := (lessK_iff _ _).1 (HS.out i m h hml hi)
            have h2 := (lessK_iff _ _).1 hp
            rw [lessK_iff]; omega
        go_wp2
        refine wp_region_quiet_below (by kernel_rfl) (by kernel_rfl) ?_
        repeat (go_big_quiet_step ((go_at_call 70; exact q70v l[m] k _ hp _ _)))
        refine wpQuiet_nil ?_
        intro _ hw'
        obtain ⟨⟨dq, osq⟩, hw''⟩ := hw'
        subst hw''
        have hz := Lib.hid (Ext.tr hb (below_regrown _ dq osq))
        have hz2 : Hid ((Go.Sort.grow (redrawn wr dq) osq).heap[w.heap.size]? = some (.cells #[.int .i64 k.f0, .int .i64 k.f1] 82 (0, 0))) := ((below_regrown wr dq osq).block _ (blk_lt hB.out)).trans hB.out
        go_wp2
        go_roundw
        case rel => exact ⟨m + 1, b, by omega, by omega, by go_num, rfl, hr, hz2, hz.out⟩
        case measure => simp [intOf]; omega
    · obtain rfl : a = b := by omega
      have hpos : Hid (posK l k = a) := posK_eq hbl hg.out.1 (fun h => hg.out.2 a h (Nat.le_refl _))
      clear hg hlt hab
      by_cases hal : a < l.length
      · obtain ⟨ad, rfl, x0, x1⟩ := C82 (Kd.C_below HC.out hb) (k := a) hal
        have y0 := fun d os => cell_regrown x0 d os
        have y1 := fun d os => cell_regrown x1 d os
        have hr : Hid (hereK l k = (l[a].f0 == k.f0 && l[a].f1 == k.f1)) := by show _ = _; unfold hereK; rw [hpos.out, List.getElem?_eq_getElem hal]
        clear x0 x1
        go_wp2
        refine wp_region_quiet_below (by kernel_rfl) (by kernel_rfl) ?_
        repeat (go_big_quiet_step (fail))
        refine wpQuiet_nil ?_
        intro _ hw'
        obtain ⟨⟨dq, osq⟩, hw''⟩ := hw'
        subst hw''
        have hz := Lib.hid (Ext.tr hb (below_regrown _ dq osq))
        go_wp2
        go_ret2
        exact ⟨by rw [hpos.out, hr.out]; rfl, hz.out⟩
      · have hr : Hid (hereK l k = false) := by show _ = _; unfold hereK; rw [hpos.out, List.getElem?_eq_none (by omega)]
        have hge : l.length ≤ a := by omega
        have hd : decide (a < l.length) = false := decide_eq_false hal
        clear hal
        go_wp2
        refine wp_region_quiet_below (by kernel_rfl) (by kernel_rfl) ?_
        repeat (go_big_quiet_step (fail))
        refine wpQuiet_nil ?_
        intro _ hw'
        obtain ⟨⟨dq, osq⟩, hw''⟩ := hw'
        subst hw''
        have hz := Lib.hid (Ext.tr hb (below_regrown _ dq osq))
        go_wp2
        go_ret2
        exact ⟨by rw [hpos.out, hr.out]; rfl, hz.out⟩
end Go.Proofs.Ythfolhgaecfogaa
