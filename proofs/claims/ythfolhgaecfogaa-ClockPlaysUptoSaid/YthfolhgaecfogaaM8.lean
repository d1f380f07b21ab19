import Derived.Test.YthfolhgaecfogaaM7
set_option linter.unusedVariables false
set_option linter.unusedSimpArgs false
namespace Go.Proofs.Ythfolhgaecfogaa
section
open Go.RowKit Go.Proofs.YthfolhgaecfogaaW.PrintWords Go.Proofs.YthfolhgaecfogaaW.PrintLast Go.Proofs.YthfolhgaecfogaaW.PrintMore
def hId (h : S34) (x : Int) : S34 := ⟨x, h.f1, h.f2, h.f3, h.f4, h.f5⟩
def fullL (h : S34) (k : Nat) : List S34 := (List.range k).map (fun i : Nat => hId h (1 + (i : Int)))
theorem fullL_len (h : S34) (k : Nat) : (fullL h k).length = k := by simp [fullL]
theorem fullL_mem {h x : S34} {k : Nat} (hx : x ∈ fullL h k) : ∃ i : Nat, i < k ∧ x = hId h (1 + (i : Int)) := by
  obtain ⟨i, hi, rfl⟩ := List.mem_map.1 hx
  exact ⟨i, List.mem_range.1 hi, rfl⟩
theorem fullL_get (h : S34) (k i : Nat) (hi : i < (fullL h k).length) : (fullL h k)[i] = hId h (1 + (i : Int)) := by simp [fullL]
theorem fullL_rising (h : S34) (k : Nat) : Rising (fullL h k) := by
  refine List.pairwise_iff_getElem.2 ?_
  intro i j hi hj hij
  rw [fullL_get, fullL_get]
  show 1 + (i : Int) < 1 + (j : Int)
  omega
theorem hostMay_id {h : S34} (hm : hostMay h = true) {x : Int} (h1 : 1 ≤ x) (h2 : x ≤ 1000000) : hostMay (hId h x) = true := by
  unfold hostMay condMay at hm ⊢
  simp only [Bool.and_eq_true, decide_eq_true_eq] at hm ⊢
  obtain ⟨a, ⟨⟨⟨⟨⟨⟨⟨⟨b, c⟩, d⟩, e⟩, f⟩, g⟩, i⟩, j⟩, k⟩⟩ := hm
  exact ⟨a, ⟨⟨⟨⟨⟨⟨⟨⟨h1, h2⟩, d⟩, e⟩, f⟩, g⟩, i⟩, j⟩, k⟩⟩
theorem fullL_may {h : S34} (hm : hostMay h = true) {k : Nat} (hk : k ≤ 64) : tableMay (fullL h k) = true := by
  refine tableMay_iff.2 ⟨by rw [fullL_len]; exact hk, fullL_rising h k, fun x hx => ?_⟩
  obtain ⟨i, hi, rfl⟩ := fullL_mem hx
  exact hostMay_id hm (by omega) (by omega)
theorem fullL_here {h : S34} {k j : Nat} (hkj : k ≤ j) : hereK ((fullL h k).map keyOf) (keyOf (hId h (1 + (j : Int)))) = false := by
  rw [← Bool.not_eq_true]
  intro h1
  obtain ⟨x, hx, he⟩ := (hereK_iff (fullL_rising h k) _).1 h1
  obtain ⟨i, hi, rfl⟩ := fullL_mem hx
  have : (1 : Int) + i = 1 + j := he
  omega
theorem full_code {h : S34} (hm : hostMay h = true) {k j : Nat} (hk : k ≤ 64) (hkj : k ≤ j) (hj : j ≤ 1000) : addCode (fullL h k) (hId h (1 + (j : Int))) = if k = 64 then 6 else 0 := by
  unfold addCode
  rw [fullL_may hm hk, hostMay_id hm (by omega) (by omega), fullL_here hkj, fullL_len]
  rfl
theorem full_add {h : S34} (hm : hostMay h = true) {k : Nat} (hk : k < 64) : addList (fullL h k) (hId h (1 + (k : Int))) = fullL h (k + 1) := by
  have h0 : addCode (fullL h k) (hId h (1 + (k : Int))) = 0 := by rw [full_code hm (by omega) (Nat.le_refl _) (by omega), if_neg (by omega)]
  have ha : addAt (fullL h k) (hId h (1 + (k : Int))) = k := by
    have hle := addAt_le (fullL h k) (hId h (1 + (k : Int)))
    rw [fullL_len] at hle
    rcases Nat.lt_or_ge (addAt (fullL h k) (hId h (1 + (k : Int)))) k with hlt | hge
    · have := addAt_at (fullL h k) (hId h (1 + (k : Int))) (by rw [fullL_len]; exact hlt)
      rw [fullL_get] at this
      have : (1 : Int) + k ≤ 1 + (addAt (fullL h k) (hId h (1 + (k : Int))) : Nat) := this
      omega
    · omega
  rw [addList_zero h0, ha, List.take_of_length_le (by rw [fullL_len]; exact Nat.le_refl _), List.drop_of_length_le (by rw [fullL_len]; exact Nat.le_refl _), List.append_nil]
  unfold fullL
  rw [List.range_succ, List.map_append]
  rfl
theorem full_find {h : S34} {k j : Nat} (hkj : k ≤ j) : findI (fullL h k) ((j : Int) + 1) < 0 := by
  refine findI_neg (fun x hx he => ?_)
  obtain ⟨i, hi, rfl⟩ := fullL_mem hx
  have : (1 : Int) + i = j + 1 := he
  omega
theorem full_cut {h : S34} (hm : hostMay h = true) {k j : Nat} (hk : k ≤ 64) (hkj : k ≤ j) : cutCode (fullL h k) ((j : Int) + 1) = 4 := by
  unfold cutCode
  rw [fullL_may hm hk, if_pos (full_find hkj)]
  rfl
theorem full_sz {h : S34} {B : Nat} (hs : hostSz h ≤ B) (k : Nat) : ∀ x ∈ fullL h k, hostSz x ≤ B := fun x hx => by
  obtain ⟨i, hi, rfl⟩ := fullL_mem hx
  exact hs
/-- the box's number set anew -/
theorem Box34.put {wr : World} {g : Nat} {h : S34} {A : Option Addr} {c : Nat} (b : Box34 wr g h A c) (x : Int) : Box34 (wr.setCell ⟨g, 0, none⟩ (.int .i64 x)) g (hId h x) A c := by
  have := heap_setCell_same wr g 0 _ 34 (.int .i64 x) b
  simpa [Box34, hId] using this
theorem ext_put {w wr : World} (hb : Ext w wr) {g : Nat} (hg : w.heap.size ≤ g) (v : Value) : Ext w (wr.setCell ⟨g, 0, none⟩ v) := hb.setCell hg v
theorem R_put {α : Type} {d : Kd α} {e B g : Nat} {wr : World} {v : Value} {l : List α} (h : Kd.R d e wr B (fun _ => True) v l) (hg : g < B) (u : Value) : Kd.R d e (wr.setCell ⟨g, 0, none⟩ u) B (fun _ => True) v l :=
  Kd.R_mono (Kd.R_far (Kd.R_bound h) (fun k hk => by show k ≠ g; have := hk.2.1; omega) u) (fun _ _ => trivial)
end
section
open Go.RowKit Go.Proofs.YthfolhgaecfogaaW.PrintWords Go.Proofs.YthfolhgaecfogaaW.PrintLast Go.Proofs.YthfolhgaecfogaaW.PrintMore
attribute [local go_sem] max2_int min2_int max_two min_two max_three min_three max_four min_four
theorem Box34.free {w : World} {g : Nat} {h : S34} {A : Option Addr} {c : Nat} (b : Box34 w g h A c) : ∀ j, w.frozen? ⟨g, j, none⟩ = false := fun j => blk_frozen b j
set_option maxRecDepth 100000 in
set_option maxHeartbeats 2000000 in
theorem tableFull_any (h : S34) (A5 : Option Addr) (c5 : Nat) (n : Int) (w : World) (hC5 : Kd.C k77 w A5 h.f5.length h.f5) (hc5 : h.f5.length ≤ c5) (hsz : hostSz h ≤ 4194304) (hn1 : -9223372036854775808 ≤ n) (hn2 : n ≤ 9223372036854775807) :
    Calls Try.prog 9 #[vHost h A5 c5, .int .i64 n] w fun e w' => e = .returned (.bool true) ∧ Ext w w' := by
  have hu34 := Try.underlying34
  have HC5 := Lib.hid hC5
  have hx0 := Lib.hid (ext_alloc w (.cells #[.int .i64 h.f0, .string h.f1, .int .i64 h.f2, .string h.f3, .int .i64 h.f4, .slice A5 h.f5.length c5] 34))
  have hbx := Lib.hid (show Box34 (w.alloc (.cells #[.int .i64 h.f0, .string h.f1, .int .i64 h.f2, .string h.f3, .int .i64 h.f4, .slice A5 h.f5.length c5] 34)) w.heap.size h A5 c5 from heap_alloc_new w _)
  clear hC5
  unfold vHost
  rcases light7_two h with h7 | h7
  · cases hm : hostMay h
    · go_enter Try.func9, Try.ntmps9
      go_wp2_with fail
      refine (light7_any h A5 c5 _ (Kd.C_below HC5.out hx0.out) hc5 hsz).mono ?_
      rintro e w1 ⟨he, hb1⟩
      rw [h7] at he
      subst he
      obtain ⟨q0, q1, q2, q3, q4, q5⟩ := (hbx.out.ext hb1).cells
      go_wp2_with fail
      refine (rhostMay_any h A5 c5 w1 (Kd.C_below HC5.out (Ext.tr hx0.out hb1)) hc5).mono ?_
      rintro e w2 ⟨he, hb2⟩
      rw [hm] at he
      subst he
      go_wp2_with fail
      refine (awake_any w2).mono ?_
      rintro e w3 ⟨rfl, hb3⟩
      go_wp2
      go_ret
      exact ⟨rfl, Ext.tr (Ext.tr hx0.out hb1) (Ext.tr hb2 hb3)⟩
    · have hs6 := light7_sz h7
      have hu0 : 0 ≤ IntKind.u64.wrap n := by simp [IntKind.wrap, IntKind.bits, IntKind.signed]; omega
      have htm : (IntKind.u64.wrap n).tmod 67 = IntKind.u64.wrap n % 67 := Int.tmod_eq_emod_of_nonneg hu0
      obtain ⟨T, hT⟩ : ∃ T : Nat, (IntKind.u64.wrap n).tmod 67 = (T : Int) := ⟨((IntKind.u64.wrap n).tmod 67).toNat, by omega⟩
      have hT67 : T < 67 := by omega
      clear htm hu0
      have HT := Lib.hid hT
      clear hT
      go_enter Try.func9, Try.ntmps9
      go_wp2_with fail
      refine (light7_any h A5 c5 _ (Kd.C_below HC5.out hx0.out) hc5 hsz).mono ?_
      rintro e w1 ⟨he, hb1⟩
      rw [h7] at he
      subst he
      obtain ⟨q0, q1, q2, q3, q4, q5⟩ := (hbx.out.ext hb1).cells
      go_wp2_with fail
      refine (rhostMay_any h A5 c5 w1 (Kd.C_below HC5.out (Ext.tr hx0.out hb1)) hc5).mono ?_
      rintro e w2 ⟨he, hb2⟩
      rw [hm] at he
      subst he
      have hX2 := Lib.hid (Ext.tr (Ext.tr hx0.out hb1) hb2)
      have hB2 := Lib.hid ((hbx.out.ext hb1).ext hb2)
      have hT' := HT.out
      have hg := Lib.hid (blk_lt hB2.out)
      clear q0 q1 q2 q3 q4 q5 hb1 hb2
      go_wp2
      go_loopw [5, 25] (fun v i wr => ∃ k : Nat, k ≤ T ∧ i = .int .i64 k ∧ Hid (Kd.R k34 34 wr (w.heap.size + 1) (fun _ => True) v (fullL h (min k 64))) ∧ Hid (∃ x, Box34 wr w.heap.size (hId h x) A5 c5) ∧ Ext w wr ∧ w.heap.size + 1 ≤ wr.heap.size) (fun _ i _ => T - (intOf i).toNat)
      case atStart => exact ⟨0, Nat.zero_le _, rfl, Kd.R_nil _ _ _ _ _, ⟨h.f0, hB2.out⟩, hX2.out, hg.out⟩
      case round =>
        obtain ⟨k, hk, rfl, hR, hbx2, hb, hgs⟩ := hrel
        obtain ⟨x, hbx2⟩ := hbx2.out
        by_cases hlt : k < T
        · have hputX : Hid (Ext w (wr.setCell ⟨w.heap.size, 0, none⟩ (.int .i64 (1 + (k : Int))))) := ext_put hb (Nat.le_refl _) _
          have hputB : Hid (Box34 (wr.setCell ⟨w.heap.size, 0, none⟩ (.int .i64 (1 + (k : Int)))) w.heap.size (hId h (1 + (k : Int))) A5 c5) := hbx2.put (1 + (k : Int))
          have hputR := Lib.hid (R_put hR.out (Nat.lt_succ_self _) (.int .i64 (1 + (k : Int))))
          have hps : Hid (w.heap.size + 1 ≤ (wr.setCell ⟨w.heap.size, 0, none⟩ (.int .i64 (1 + (k : Int)))).heap.size) := by show _ ≤ _; simpa [World.setCell] using hgs
          have q0 := hbx2.cells.1
          have q1 : wr.cell? ⟨w.heap.size, 1, none⟩ = some (.string h.f1) := hbx2.cells.2.1
          have q2 : wr.cell? ⟨w.heap.size, 2, none⟩ = some (.int .i64 h.f2) := hbx2.cells.2.2.1
          have q3 : wr.cell? ⟨w.heap.size, 3, none⟩ = some (.string h.f3) := hbx2.cells.2.2.2.1
          have q4 : wr.cell? ⟨w.heap.size, 4, none⟩ = some (.int .i64 h.f4) := hbx2.cells.2.2.2.2.1
          have q5 : wr.cell? ⟨w.heap.size, 5, none⟩ = some (.slice A5 h.f5.length c5) := hbx2.cells.2.2.2.2.2
          have hfz := hbx2.free 0
          clear hbx2
          by_cases h64 : k < 64
          · have hmin : min k 64 = k := by omega
            have hmin2 : min (k + 1) 64 = k + 1 := by omega
            rw [hmin] at hputR
            obtain ⟨Av, cv, rfl, hlv, hCv⟩ := Kd.R_reads hputR.out
            have hcode := Lib.hid (show addCode (fullL h k) (hId h (1 + (k : Int))) = 0 by rw [full_code hm (by omega) (Nat.le_refl _) (by omega), if_neg (by omega)])
            have hlist := Lib.hid (full_add hm h64)
            have h64' : (k : Int) < 64 := by omega
            have HCv := Lib.hid hCv
            have hkl : Hid ((fullL h k).length ≤ 4194304) := by show _ ≤ _; rw [fullL_len]; omega
            have hmin2' := Lib.hid hmin2
            clear hmin hmin2 hCv hR h64
            go_wp2_with fail
            refine (add_any Av cv (fullL h k) (hId h (1 + (k : Int))) A5 c5 _ HCv.out hlv hkl.out (szs (full_sz hsz k)) (fun x hx => host_len (full_sz hsz k x hx)) (Kd.C_below HC5.out hputX.out) hc5 (hostOk_of (h := hId h (1 + (k : Int))) hsz) (host_len (h := hId h (1 + (k : Int))) hsz)).mono ?_
            rintro e w5 ⟨v5, he, hN5, hb5⟩
            rw [hcode.out] at he
            rw [hlist.out] at hN5
            subst he
            have HN5 := Lib.hid (Kd.R_lower hN5 hps.out)
            have hB5 := Lib.hid (hputB.out.ext hb5)
            have hX5 := Lib.hid (Ext.tr hputX.out hb5)
            have hs5 := Lib.hid (Nat.le_trans hps.out hb5.size)
            clear hN5 hb5 q0 q1 q2 q3 q4 q5
            go_wp2
            go_roundw
            case rel => exact ⟨k + 1, by omega, by go_num, by show Kd.R _ _ _ _ _ _ _; rw [hmin2'.out]; exact HN5.out, ⟨_, hB5.out⟩, hX5.out, hs5.out⟩
            case measure => simp [intOf]; omega
          · have hmin : min k 64 = 64 := by omega
            have hmin2 : min (k + 1) 64 = 64 := by omega
            rw [hmin] at hputR
            obtain ⟨Av, cv, rfl, hlv, hCv⟩ := Kd.R_reads hputR.out
            have hcode := Lib.hid (show addCode (fullL h 64) (hId h (1 + (k : Int))) = 6 by rw [full_code hm (by omega) (by omega) (by omega), if_pos rfl])
            have h64' : ¬ (k : Int) < 64 := by omega
            have HCv := Lib.hid hCv
            have hkl : Hid ((fullL h 64).length ≤ 4194304) := by show _ ≤ _; rw [fullL_len]; omega
            have hmin2' := Lib.hid hmin2
            clear hmin hmin2 hCv hR h64
            go_wp2_with fail
            refine (add_any Av cv (fullL h 64) (hId h (1 + (k : Int))) A5 c5 _ HCv.out hlv hkl.out (szs (full_sz hsz 64)) (fun x hx => host_len (full_sz hsz 64 x hx)) (Kd.C_below HC5.out hputX.out) hc5 (hostOk_of (h := hId h (1 + (k : Int))) hsz) (host_len (h := hId h (1 + (k : Int))) hsz)).mono ?_
            rintro e w5 ⟨v5, he, hN5, hb5⟩
            rw [hcode.out] at he
            subst he
            have HN5 := Lib.hid (Kd.R_below hputR.out hb5)
            have hB5 := Lib.hid (hputB.out.ext hb5)
            have hX5 := Lib.hid (Ext.tr hputX.out hb5)
            have hs5 := Lib.hid (Nat.le_trans hps.out hb5.size)
            clear hN5 hb5 q0 q1 q2 q3 q4 q5
            go_wp2
            go_roundw
            case rel => exact ⟨k + 1, by omega, by go_num, by show Kd.R _ _ _ _ _ _ _; rw [hmin2'.out]; exact HN5.out, ⟨_, hB5.out⟩, hX5.out, hs5.out⟩
            case measure => simp [intOf]; omega
        · have hkT : T ≤ k := by omega
          obtain ⟨M, hM⟩ : ∃ M : Nat, M = min k 64 := ⟨_, rfl⟩
          rw [← hM] at hR
          have hM64 : M ≤ 64 := by omega
          have hMk : M ≤ k := by omega
          obtain ⟨Av, cv, rfl, hlv, hCv⟩ := Kd.R_reads hR.out
          have HCv := Lib.hid hCv
          have hcut := Lib.hid (show cutCode (fullL h M) ((k : Int) + 1) = 4 from full_cut hm hM64 hMk)
          have hkl : Hid ((fullL h M).length ≤ 4194304) := by show _ ≤ _; rw [fullL_len]; omega
          have hlen := Lib.hid (fullL_len h M)
          obtain rfl : k = T := by omega
          clear hCv hR hbx2 hlt
          have hsel : (k = M ∧ (k : Int) ≤ 64) ∨ (64 = M ∧ (64 : Int) < k) := by omega
          clear hM
          rcases hsel with ⟨hs1, hs2⟩ | ⟨hs1, hs2⟩
          all_goals
            subst hs1
            go_wp2_with fail
            refine (cut_reads Av cv (fullL h _) ((k : Int) + 1) _ HCv.out hlv hkl.out (full_sz hsz _)).mono ?_
            rintro e w6 ⟨Ac, nc, cc, he, hnc, hcc, hCc, hb6⟩
            rw [hcut.out] at he
            subst he
            have hX6 := Lib.hid (Ext.tr hb hb6)
            have hlen2 := hlen.out
            go_wp2_with fail
            refine (awake_any w6).mono ?_
            rintro e w7 ⟨rfl, hb7⟩
            go_wp2
            go_ret
            exact ⟨rfl, Ext.tr hX6.out hb7⟩
  · go_enter Try.func9, Try.ntmps9
    go_wp2_with fail
    refine (light7_any h A5 c5 _ (Kd.C_below HC5.out hx0.out) hc5 hsz).mono ?_
    rintro e w1 ⟨he, hb1⟩
    rw [h7] at he
    subst he
    go_wp2_with fail
    refine (awake_any w1).mono ?_
    rintro e w3 ⟨rfl, hb3⟩
    go_wp2
    go_ret
    exact ⟨rfl, Ext.tr (Ext.tr hx0.out hb1) hb3⟩
end
section
open Go.RowKit Go.Proofs.YthfolhgaecfogaaW.PrintWords Go.Proofs.YthfolhgaecfogaaW.PrintLast Go.Proofs.YthfolhgaecfogaaW.PrintMore
theorem eq_of_rising : ∀ {a b : List S34}, Rising a → Rising b → (∀ x, x ∈ a ↔ x ∈ b) → a = b
  | [], [], _, _, _ => rfl
  | [], y :: b, _, _, h => by have := (h y).2 List.mem_cons_self; cases this
  | x :: a, [], _, _, h => by have := (h x).1 List.mem_cons_self; cases this
  | x :: a, y :: b, ha, hb, h => by
    have ha1 := List.pairwise_cons.1 ha
    have hb1 := List.pairwise_cons.1 hb
    have hxy : x = y := by
      rcases List.mem_cons.1 ((h x).1 List.mem_cons_self) with e | e
      · exact e
      rcases List.mem_cons.1 ((h y).2 List.mem_cons_self) with e' | e'
      · exact e'.symm
      have h1 := hb1.1 x e
      have h2 := ha1.1 y e'
      omega
    subst hxy
    rw [eq_of_rising (a := a) (b := b) ha1.2 hb1.2 (fun z => ?_)]
    constructor
    · intro hz
      rcases List.mem_cons.1 ((h z).1 (List.mem_cons_of_mem _ hz)) with e | e
      · subst e; have := ha1.1 _ hz; omega
      · exact e
    · intro hz
      rcases List.mem_cons.1 ((h z).2 (List.mem_cons_of_mem _ hz)) with e | e
      · subst e; have := hb1.1 _ hz; omega
      · exact e
/-- a table of just those hosts -/
def TabOf (m La : List S34) : Prop := Rising La ∧ (∀ x, x ∈ La ↔ x ∈ m) ∧ La.length = m.length
def Apart (m : List S34) : Prop := m.Pairwise (fun a b => a.f0 ≠ b.f0)
theorem tab_nil : TabOf [] [] := ⟨List.Pairwise.nil, fun _ => Iff.rfl, rfl⟩
theorem tab_may {m La : List S34} (h : TabOf m La) (hm : ∀ x ∈ m, hostMay x = true) (hl : m.length ≤ 64) : tableMay La = true :=
  tableMay_iff.2 ⟨by rw [h.2.2]; exact hl, h.1, fun x hx => hm x ((h.2.1 x).1 hx)⟩
theorem tab_code {m La : List S34} {x : S34} (h : TabOf m La) (hm : ∀ x ∈ m, hostMay x = true) (hx : hostMay x = true) (hn : ∀ y ∈ m, y.f0 ≠ x.f0) (hl : m.length < 64) : addCode La x = 0 := by
  have h1 := tab_may h hm (by omega)
  have h3 : hereK (La.map keyOf) (keyOf x) = false := by
    rw [← Bool.not_eq_true]
    intro hh
    obtain ⟨y, hy, he⟩ := (hereK_iff h.1 x).1 hh
    exact hn y ((h.2.1 y).1 hy) he
  unfold addCode
  have h64 : ¬ m.length = 64 := by omega
  rw [h1, hx, h3, h.2.2]
  simp [h64]
theorem tab_step {m La : List S34} {x : S34} (h : TabOf m La) (h0 : addCode La x = 0) : TabOf (m ++ [x]) (addList La x) :=
  ⟨rising_addList h0, fun y => by rw [mem_addList h0, h.2.1, List.mem_append, List.mem_singleton]; exact or_comm, by rw [len_addList h0, h.2.2]; simp⟩
theorem tab_same {m m' La Lb : List S34} (h : TabOf m La) (h' : TabOf m' Lb) (hp : ∀ x, x ∈ m ↔ x ∈ m') : La = Lb :=
  eq_of_rising h.1 h'.1 (fun x => by rw [h.2.1, h'.2.1]; exact hp x)
def rotL (l : List S34) (k : Nat) : List S34 := l.drop k ++ l.take k
theorem rot_len (l : List S34) (k : Nat) : (rotL l k).length = l.length := by simp [rotL]; omega
theorem rot_mem (l : List S34) (k : Nat) (x : S34) : x ∈ rotL l k ↔ x ∈ l := by
  unfold rotL
  rw [List.mem_append, or_comm, ← List.mem_append, List.take_append_drop]
theorem rot_get {l : List S34} {k i : Nat} (hk : k ≤ l.length) (hi : i < l.length) : (rotL l k)[i]? = l[(i + k) % l.length]? := by
  unfold rotL
  by_cases h : i < l.length - k
  · rw [List.getElem?_append_left (by simp; omega), List.getElem?_drop, Nat.mod_eq_of_lt (by omega), Nat.add_comm]
  · rw [List.getElem?_append_right (by simp; omega), List.getElem?_take_of_lt (by simp; omega), Nat.mod_eq_sub_mod (by omega), Nat.mod_eq_of_lt (by omega), List.length_drop]
    congr 1
    omega
theorem rot_apart {l : List S34} (h : Apart l) (k : Nat) : Apart (rotL l k) := by
  have hp : (rotL l k).Perm l := by
    have := List.perm_append_comm (l₁ := l.drop k) (l₂ := l.take k)
    rwa [List.take_append_drop] at this
  exact (List.Perm.pairwise_iff (fun {a b} h => Ne.symm h) hp).2 h
theorem apart_at {m : List S34} (h : Apart m) {i : Nat} (hi : i < m.length) : ∀ y ∈ m.take i, y.f0 ≠ m[i].f0 := by
  intro y hy
  obtain ⟨j, hj, rfl⟩ := List.mem_take_iff_getElem.1 hy
  exact (List.pairwise_iff_getElem.1 h) j i (by omega) hi (by omega)
/-- what the guard's loop has seen -/
def okUp (l : List S34) (k : Nat) : Prop := ∀ i (hi : i < l.length), i < k → hostMay l[i] = true ∧ findI (l.take i) l[i].f0 < 0
theorem okUp_step {l : List S34} {k : Nat} (h : okUp l k) (hk : k < l.length) (h1 : hostMay l[k] = true) (h2 : findI (l.take k) l[k].f0 < 0) : okUp l (k + 1) := by
  intro i hi hik
  by_cases e : i = k
  · subst e; exact ⟨h1, h2⟩
  · exact h i hi (by omega)
theorem okUp_may {l : List S34} (h : okUp l l.length) : ∀ x ∈ l, hostMay x = true := by
  intro x hx
  obtain ⟨i, hi, rfl⟩ := List.getElem_of_mem hx
  exact (h i hi hi).1
theorem okUp_apart {l : List S34} (h : okUp l l.length) : Apart l := by
  refine List.pairwise_iff_getElem.2 ?_
  intro i j hi hj hij
  exact findI_none (h j hj hj).2 l[i] (List.mem_take_iff_getElem.2 ⟨i, by omega, rfl⟩)
/-- one round of the two tables -/
theorem round_code {m La : List S34} (hm : ∀ x ∈ m, hostMay x = true) (ha : Apart m) (hl : m.length ≤ 20) {i : Nat} (hi : i < m.length) (h : TabOf (m.take i) La) :
    addCode La m[i] = 0 ∧ TabOf (m.take (i + 1)) (addList La m[i]) := by
  have h0 := tab_code h (fun x hx => hm x (List.mem_of_mem_take hx)) (hm _ (List.getElem_mem hi)) (apart_at ha hi) (by rw [List.length_take]; omega)
  refine ⟨h0, ?_⟩
  rw [List.take_succ_eq_append_getElem hi]
  exact tab_step h h0
end
section
open Go.RowKit Go.Proofs.YthfolhgaecfogaaW.PrintWords Go.Proofs.YthfolhgaecfogaaW.PrintLast Go.Proofs.YthfolhgaecfogaaW.PrintMore
theorem q16 (A : Option Addr) (c k : Nat) (l : List S34) (id : Int) (W : World) (hC : Kd.C k34 W A l.length l) (hc : l.length ≤ c) (hk : k ≤ l.length) {F : Int} (hF : findI (l.take k) id = F) (d : Nat) (os : Array Obj) :
    Calls Try.prog 16 #[.slice A k c, .int .i64 id] (Go.Sort.grow (redrawn W d) os) fun e w'' => e = .returned (.int .i64 F) ∧ ∃ p : Regrown, w'' = Go.Sort.grow (redrawn W p.d) p.os := by
  have hl : (l.take k).length = k := by rw [List.length_take]; omega
  have h := rfind_any A c (l.take k) id (Go.Sort.grow (redrawn W d) os) (Kd.C_below (Kd.C_take hC hk) (below_regrown W d os)) (by omega)
  rw [hl] at h
  exact hF ▸ Calls.regrown_of h
set_option maxRecDepth 100000 in
set_option maxHeartbeats 2000000 in
theorem tableOrder_any (A : Option Addr) (c : Nat) (l : List S34) (t : Int) (w : World) (hC : Kd.C k34 w A l.length l) (hc : l.length ≤ c) (hl : ∀ h ∈ l, hostSz h ≤ 4194304) (hn : l.length ≤ 4194304) (ht1 : -9223372036854775808 ≤ t) (ht2 : t ≤ 9223372036854775807) :
    Calls Try.prog 4 #[.slice A l.length c, .int .i64 t] w fun e w' => e = .returned (.bool true) ∧ Ext w w' := by
  have hu34 := Try.underlying34
  have HC := Lib.hid hC
  clear hC
  by_cases h8 : light8 l = 0
  case neg =>
    have h81 : light8 l = 1 := by rcases light8_two l with h | h; exact absurd h h8; exact h
    have H8 := Lib.hid h81
    clear h8 h81
    go_enter Try.func4, Try.ntmps4
    go_wp2_with fail
    refine (light8_any A c l w HC.out hc hl).mono ?_
    rintro e w1 ⟨he, hb1⟩
    rw [H8.out] at he
    subst he
    go_wp2_with fail
    refine (awake_any w1).mono ?_
    rintro e w2 ⟨rfl, hb2⟩
    go_wp2
    go_ret
    exact ⟨rfl, Ext.tr hb1 hb2⟩
  have H8 := Lib.hid h8
  clear h8
  by_cases h20 : 20 < l.length
  · go_enter Try.func4, Try.ntmps4
    go_wp2_with fail
    refine (light8_any A c l w HC.out hc hl).mono ?_
    rintro e w1 ⟨he, hb1⟩
    rw [H8.out] at he
    subst he
    go_wp2_with fail
    refine (awake_any w1).mono ?_
    rintro e w2 ⟨rfl, hb2⟩
    go_wp2
    go_ret
    exact ⟨rfl, Ext.tr hb1 hb2⟩
  have h20' : l.length ≤ 20 := by omega
  clear h20
  go_enter Try.func4, Try.ntmps4
  go_wp2_with fail
  refine (light8_any A c l w HC.out hc hl).mono ?_
  rintro e w1 ⟨he, hb1⟩
  rw [H8.out] at he
  subst he
  go_wp2_with fail
  go_loopw [5, 6, 24] (fun _ _ i wr => ∃ k : Nat, k ≤ l.length ∧ i = .int .i64 k ∧ Hid (okUp l k) ∧ Ext w wr) (fun _ _ i _ => l.length - (intOf i).toNat)
  case atStart => exact ⟨0, Nat.zero_le _, rfl, (fun i hi h0 => absurd h0 (Nat.not_lt_zero _)), hb1⟩
  case round =>
    obtain ⟨k, hk, rfl, hg, hb⟩ := hrel
    by_cases hlt : k < l.length
    · obtain ⟨ad, A5, c5, rfl, h0, h1, h2, h3, h4, h5, hl5, HC5⟩ := C34 (Kd.C_below HC.out hb) hlt
      have hB0 : Box34 (wr.alloc (.cells #[.int .i64 l[k].f0, .string l[k].f1, .int .i64 l[k].f2, .string l[k].f3, .int .i64 l[k].f4, .slice A5 l[k].f5.length c5] 34)) wr.heap.size l[k] A5 c5 := heap_alloc_new wr _
      have hX : Hid (Ext w (wr.alloc (.cells #[.int .i64 l[k].f0, .string l[k].f1, .int .i64 l[k].f2, .string l[k].f3, .int .i64 l[k].f4, .slice A5 l[k].f5.length c5] 34))) := Ext.tr hb (ext_alloc _ _)
      have hC5 : Hid (k77.C (wr.alloc (.cells #[.int .i64 l[k].f0, .string l[k].f1, .int .i64 l[k].f2, .string l[k].f3, .int .i64 l[k].f4, .slice A5 l[k].f5.length c5] 34)) A5 l[k].f5.length l[k].f5) := Kd.C_below HC5.out (ext_alloc _ _)
      have hC34 : Hid (k34.C (wr.alloc (.cells #[.int .i64 l[k].f0, .string l[k].f1, .int .i64 l[k].f2, .string l[k].f3, .int .i64 l[k].f4, .slice A5 l[k].f5.length c5] 34)) (some ad) l.length l) := Kd.C_below HC.out hX.out
      obtain ⟨x0, x1, x2, x3, x4, x5⟩ := hB0.cells
      have y0 := fun d os => cell_regrown x0 d os
      have y1 := fun d os => cell_regrown x1 d os
      have y2 := fun d os => cell_regrown x2 d os
      have y3 := fun d os => cell_regrown x3 d os
      have y4 := fun d os => cell_regrown x4 d os
      have y5 := fun d os => cell_regrown x5 d os
      clear x0 x1 x2 x3 x4 x5 hB0
      obtain ⟨F, hF⟩ : ∃ F, findI (l.take k) l[k].f0 = F := ⟨_, rfl⟩
      cases hp : hostMay l[k]
      · clear hF
        go_wp2
        refine wp_region_quiet_below (by kernel_rfl) (by kernel_rfl) ?_
        repeat (go_big_quiet_step ((go_at_call 15; exact q15 l[k] A5 c5 _ hC5.out hl5 _ _)))
        refine wpQuiet_nil ?_
        intro _ hw'
        obtain ⟨⟨dq, osq⟩, hw''⟩ := hw'
        subst hw''
        have hz := Lib.hid (Ext.tr hX.out (below_regrown _ dq osq))
        go_wp2_with fail
        refine (awake_any _).mono ?_
        rintro e w2 ⟨rfl, hb2⟩
        go_wp2
        go_ret
        exact ⟨rfl, Ext.tr hz.out hb2⟩
      · have hkc : (k : Int) ≤ c := by omega
        have hk0 : (0 : Int) ≤ k := by omega
        by_cases h0F : 0 ≤ F
        · have HF := Lib.hid hF
          clear hF
          go_wp2
          refine wp_region_quiet_below (by kernel_rfl) (by kernel_rfl) ?_
          repeat (go_big_quiet_step ((first | (go_at_call 15; exact q15 l[k] A5 c5 _ hC5.out hl5 _ _) | (go_at_call 16; exact q16 (some ad) c k l _ _ hC34.out hc hk HF.out _ _))))
          refine wpQuiet_nil ?_
          intro _ hw'
          obtain ⟨⟨dq, osq⟩, hw''⟩ := hw'
          subst hw''
          have hz := Lib.hid (Ext.tr hX.out (below_regrown _ dq osq))
          go_wp2_with fail
          refine (awake_any _).mono ?_
          rintro e w2 ⟨rfl, hb2⟩
          go_wp2
          go_ret
          exact ⟨rfl, Ext.tr hz.out hb2⟩
        · have hr := Lib.hid (okUp_step hg.out hlt hp (by omega))
          have HF := Lib.hid hF
          have h0F' : F < 0 := by omega
          clear hF h0F
          go_wp2
          refine wp_region_quiet_below (by kernel_rfl) (by kernel_rfl) ?_
          repeat (go_big_quiet_step ((first | (go_at_call 15; exact q15 l[k] A5 c5 _ hC5.out hl5 _ _) | (go_at_call 16; exact q16 (some ad) c k l _ _ hC34.out hc hk HF.out _ _))))
          refine wpQuiet_nil ?_
          intro _ hw'
          obtain ⟨⟨dq, osq⟩, hw''⟩ := hw'
          subst hw''
          have hz := Lib.hid (Ext.tr hX.out (below_regrown _ dq osq))
          go_wp2
          go_roundw
          case rel => exact ⟨k + 1, by omega, by go_num, hr, hz.out⟩
          case measure => simp [intOf]; omega
    · have hkl : k = l.length := by omega
      have hg2 := hg.out
      rw [hkl] at hg2
      have hmay := Lib.hid (okUp_may hg2)
      have hap := Lib.hid (okUp_apart hg2)
      clear hkl hg2 hg
      have hu0 : 0 ≤ IntKind.u64.wrap t := by simp [IntKind.wrap, IntKind.bits, IntKind.signed]; omega
      have htm : (IntKind.u64.wrap t).tmod ((l.length : Int) + 1) = IntKind.u64.wrap t % ((l.length : Int) + 1) := Int.tmod_eq_emod_of_nonneg hu0
      have hm0 := Int.emod_nonneg (IntKind.u64.wrap t) (show ((l.length : Int) + 1) ≠ 0 by omega)
      have hm1 := Int.emod_lt_of_pos (IntKind.u64.wrap t) (show (0 : Int) < (l.length : Int) + 1 by omega)
      obtain ⟨K, hK⟩ : ∃ K : Nat, (IntKind.u64.wrap t).tmod ((l.length : Int) + 1) = (K : Int) := ⟨((IntKind.u64.wrap t).tmod ((l.length : Int) + 1)).toNat, by omega⟩
      have hKn : K ≤ l.length := by omega
      clear htm hu0 hm0 hm1
      go_wp2_with fail
      clear hK
      have hrl := Lib.hid (rot_len l K)
      have hra := Lib.hid (rot_apart hap.out K)
      have hrm : Hid (∀ x ∈ rotL l K, hostMay x = true) := fun x hx => hmay.out x ((rot_mem l K x).1 hx)
      go_loopw [8, 9, 53] (fun va vb i wr => ∃ (k : Nat) (Aa Ab : Option Addr) (na nb ca cb : Nat) (La Lb : List S34), k ≤ l.length ∧ i = .int .i64 k ∧ va = .slice Aa na ca ∧ vb = .slice Ab nb cb ∧ na ≤ ca ∧ nb ≤ cb ∧ Hid (na = La.length ∧ nb = Lb.length ∧ TabOf (l.take k) La ∧ TabOf ((rotL l K).take k) Lb) ∧ Hid (Kd.C k34 wr Aa na La) ∧ Hid (Kd.C k34 wr Ab nb Lb) ∧ Ext w wr) (fun _ _ i _ => l.length - (intOf i).toNat)
      case atStart => exact ⟨0, none, none, 0, 0, 0, 0, [], [], Nat.zero_le _, rfl, rfl, rfl, Nat.le_refl _, Nat.le_refl _, ⟨rfl, rfl, tab_nil, tab_nil⟩, Kd.C_nil _ _, Kd.C_nil _ _, hb⟩
      case round =>
        obtain ⟨k', Aa, Ab, na, nb, ca, cb, La, Lb, hk', rfl, rfl, rfl, hca, hcb, hT, hCa, hCb, hb'⟩ := hrel
        clear hb hk
        by_cases hlt' : k' < l.length
        · obtain ⟨hna, hnb, hTa, hTb⟩ := hT.out
          have hLa : ∀ x ∈ La, hostSz x ≤ 4194304 := fun x hx => hl x (List.mem_of_mem_take ((hTa.2.1 x).1 hx))
          have hLb : ∀ x ∈ Lb, hostSz x ≤ 4194304 := fun x hx => hl x ((rot_mem l K x).1 (List.mem_of_mem_take ((hTb.2.1 x).1 hx)))
          have hnla : La.length ≤ 4194304 := by rw [hTa.2.2, List.length_take]; omega
          have hnlb : Lb.length ≤ 4194304 := by rw [hTb.2.2, List.length_take]; omega
          obtain ⟨j, hj⟩ : ∃ j, j = (k' + K) % l.length := ⟨_, rfl⟩
          have hjl : j < l.length := by rw [hj]; exact Nat.mod_lt _ (by omega)
          have hrk : k' < (rotL l K).length := by rw [hrl.out]; exact hlt'
          have hrj : (rotL l K)[k'] = l[j] := by
            have h1 := rot_get (l := l) (k := K) (i := k') hKn hlt'
            rw [← hj, List.getElem?_eq_getElem hrk, List.getElem?_eq_getElem hjl] at h1
            exact Option.some.inj h1
          obtain ⟨ca0, hTa'⟩ := round_code hmay.out hap.out h20' hlt' hTa
          obtain ⟨cb0, hTb'⟩ := round_code hrm.out hra.out (by rw [hrl.out]; exact h20') hrk hTb
          rw [hrj] at cb0 hTb'
          have hjI : ((k' : Int) + (K : Int)) % (l.length : Int) = (j : Int) := by
            rw [hj]
            simp
          have CA := Lib.hid ca0
          have CB := Lib.hid cb0
          have TA := Lib.hid hTa'
          have TB := Lib.hid hTb'
          have HJ := Lib.hid hjI
          subst hna
          subst hnb
          clear ca0 cb0 hTa' hTb' hjI hj hrj hTa hTb hT
          obtain ⟨ad, A5, c5, rfl, h0, h1, h2, h3, h4, h5, hl5, HC5⟩ := C34 (Kd.C_below HC.out hb') hlt'
          go_wp2_with fail
          refine (add_reads Aa ca La l[k'] A5 c5 wr hCa.out hca hnla hLa HC5.out hl5 (hl _ (List.getElem_mem hlt'))).mono ?_
          rintro e w4 ⟨Aa', na', ca', he, hna', hca', hCa', hb4⟩
          rw [CA.out] at he
          subst he
          have hX4 := Lib.hid (Ext.tr hb' hb4)
          clear h0 h1 h2 h3 h4 h5 HC5
          obtain ⟨ad', B5, d5, e5, h0, h1, h2, h3, h4, h5, hd5, HD5⟩ := C34 (Kd.C_below HC.out hX4.out) hjl
          cases e5
          have hjI := HJ.out
          go_wp2_with fail
          clear hjI
          refine (add_reads Ab cb Lb l[j] B5 d5 w4 (Kd.C_below hCb.out hb4) hcb hnlb hLb HD5.out hd5 (hl _ (List.getElem_mem hjl))).mono ?_
          rintro e w5 ⟨Ab', nb', cb', he, hnb', hcb', hCb', hb5⟩
          rw [CB.out] at he
          subst he
          have hX5 := Lib.hid (Ext.tr hX4.out hb5)
          clear h0 h1 h2 h3 h4 h5 HD5
          go_wp2
          go_roundw
          case rel => exact ⟨k' + 1, Aa', Ab', na', nb', ca', cb', _, _, by omega, by go_num, rfl, rfl, hca', hcb', ⟨hna'.out, hnb'.out, TA.out, TB.out⟩, Kd.C_below hCa'.out hb5, hCb'.out, hX5.out⟩
          case measure => simp [intOf]; omega
        · obtain ⟨hna, hnb, hTa, hTb⟩ := hT.out
          have hkn : k' = l.length := by omega
          rw [hkn, List.take_length] at hTa
          rw [hkn, show l.length = (rotL l K).length by rw [hrl.out], List.take_length] at hTb
          have hsame : La = Lb := tab_same hTa hTb (fun x => (rot_mem l K x).symm)
          have hLa : ∀ x ∈ La, hostSz x ≤ 4194304 := fun x hx => hl x ((hTa.2.1 x).1 hx)
          have hlen := Lib.hid hTa.2.2
          have hnla : La.length ≤ 4194304 := by rw [hTa.2.2]; omega
          have hMay := Lib.hid (tab_may hTa hmay.out (by omega))
          have HS := Lib.hid hsame
          have HN := Lib.hid (show na = La.length ∧ nb = Lb.length from ⟨hna, hnb⟩)
          have hnan : (na : Int) = (l.length : Int) := by rw [hna, hlen.out]
          subst hna
          clear hnb hTa hTb hkn hsame hT
          go_wp2_with fail
          refine (sameHosts_any Aa Ab _ nb ca cb La Lb wr HS.out hCa.out hCb.out hca hcb).mono ?_
          rintro e w4 ⟨rfl, hb4⟩
          go_wp2_with fail
          refine (may_any Aa ca La w4 (Kd.C_below hCa.out hb4) hca hnla (szs hLa)).mono ?_
          rintro e w5 ⟨he, hb5⟩
          rw [hMay.out] at he
          subst he
          go_wp2_with fail
          refine (light7_any z34 none 0 _ (Kd.C_nil _ _) (Nat.le_refl _) (by decide)).mono ?_
          rintro e w6 ⟨rfl, hb6⟩
          go_wp2_with fail
          refine (awake_any w6).mono ?_
          rintro e w7 ⟨rfl, hb7⟩
          go_wp2
          go_ret
          exact ⟨rfl, Ext.tr hb' (Ext.tr hb4 (Ext.tr hb5 (Ext.tr hb6 hb7)))⟩
end
end Go.Proofs.Ythfolhgaecfogaa
