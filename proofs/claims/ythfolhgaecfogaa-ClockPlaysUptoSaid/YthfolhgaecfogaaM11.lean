import Derived.Test.YthfolhgaecfogaaM10
set_option linter.unusedVariables false
set_option linter.unusedSimpArgs false
namespace Go.Proofs.Ythfolhgaecfogaa
section
open Go.RowKit Go.Proofs.YthfolhgaecfogaaW.PrintWords Go.Proofs.YthfolhgaecfogaaW.PrintLast Go.Proofs.YthfolhgaecfogaaW.PrintMore
def tkT (t : S48) (T : Int) : S48 := ⟨T, t.f1, t.f2⟩
theorem mod1000 (x : Int) : ∃ T : Int, (IntKind.u64.wrap x).tmod 1000 = T ∧ 0 ≤ T ∧ T < 1000 := by
  have hu0 : 0 ≤ IntKind.u64.wrap x := by simp [IntKind.wrap, IntKind.bits, IntKind.signed]; omega
  refine ⟨(IntKind.u64.wrap x).tmod 1000, rfl, ?_, ?_⟩
  · rw [Int.tmod_eq_emod_of_nonneg hu0]; omega
  · rw [Int.tmod_eq_emod_of_nonneg hu0]; omega
def Met (l : List S48) (L : List S48) (k : Nat) (f : S48 → Int) : Prop := Good L ∧ InT L ∧ memF L f ∧ L.length ≤ k
set_option maxRecDepth 100000 in
set_option maxHeartbeats 4000000 in
theorem clockOrder_any (A : Option Addr) (c : Nat) (l : List S48) (mid : Int) (w : World) (hC : Kd.C k48 w A l.length l) (hc : l.length ≤ c) (hl : ∀ t ∈ l, wfT t) (hm1 : in64 mid) :
    Calls Try.prog 6 #[.slice A l.length c, .int .i64 mid] w fun e w' => e = .returned (.bool true) ∧ Ext w w' := by
  have hu48 := Try.underlying48
  have hm := len_max hC
  have HC := Lib.hid hC
  clear hC
  by_cases h100 : 100 < l.length
  · go_enter Try.func6, Try.ntmps6
    go_wp2_with fail
    refine (awake9_any w).mono ?_
    rintro e w1 ⟨rfl, hb1⟩
    go_wp2
    go_ret
    exact ⟨rfl, hb1⟩
  have h100' : l.length ≤ 100 := by omega
  clear h100
  have hmm := @run_makeMap Try.prog
  go_enter Try.func6, Try.ntmps6
  go_wp2_with fail
  refine (cnew_any 0 w.heap.size w (Nat.le_refl _)).mono ?_
  rintro e w1 ⟨rfl, hC1, hb1⟩
  rw [aw99] at hC1
  have hS : Hid (StO w (w1.alloc (.map #[] 0)) w.heap.size w1.heap.size (.slice none 0 0) 0 [] 0 (fun _ => 0)) :=
    ⟨hC1.ext (ext_alloc _ _), MapIs.made w1, Ext.tr hb1 (ext_alloc _ _), hb1.size⟩
  clear hC1 hb1
  go_wp2
  go_loopw [27] (fun i wr => ∃ (k m : Nat) (v : Value) (L : List S48) (f : S48 → Int), k ≤ l.length ∧ m ≤ 2 * k ∧ i = .int .i64 k ∧ Hid (StO w wr w.heap.size w1.heap.size v 0 L m f) ∧ Hid (Met l L k f)) (fun i _ => l.length - (intOf i).toNat)
  case atStart => exact ⟨0, 0, _, [], _, Nat.zero_le _, Nat.le_refl _, rfl, hS, good_nil, inT_nil, memF_nil, Nat.le_refl _⟩
  case round =>
    obtain ⟨k, m, v, L, f, hk, hmk, rfl, hSt, hMet⟩ := hrel
    by_cases hlt : k < l.length
    · obtain ⟨hG, hI, hF, hLk⟩ := hMet.out
      obtain ⟨ad, rfl, x0, x1, x2⟩ := C48 (Kd.C_below HC.out hSt.out.ext) hlt
      obtain ⟨T, hT, hT0, hT1⟩ := mod1000 l[k].f0
      obtain ⟨hw0, hw1, hw2⟩ := hl _ (List.getElem_mem hlt)
      have hwT : wfT (tkT l[k] T) := ⟨⟨by show _ ≤ T; omega, by show T ≤ _; omega⟩, hw1, hw2⟩
      have hx : Hid (Ext wr (wr.alloc (.cells #[.int .i64 T, .int .i64 l[k].f1, .int .i64 l[k].f2] 48))) := ext_alloc _ _
      have hBx : Hid (Box48 (wr.alloc (.cells #[.int .i64 T, .int .i64 l[k].f1, .int .i64 l[k].f2] 48)) wr.heap.size (tkT l[k] T)) := heap_alloc_new wr _
      have hS1 := Lib.hid (hSt.out.after hx.out)
      go_wp2_with fail
      clear hT x0 x1 x2
      refine (cat_any l[k].f1 l[k].f2 _ w.heap.size w.heap.size v 0 L hS1.out.clk).mono ?_
      rintro e w2 ⟨he, hb2⟩
      have hS2 := Lib.hid (hS1.out.after hb2)
      have hB2 := Lib.hid (hBx.out.ext hb2)
      clear hb2
      by_cases hh : 0 ≤ idxT L l[k].f1 l[k].f2
      · rw [decide_eq_true hh] at he
        subst he
        obtain ⟨b0, b1, b2⟩ := hB2.out.cells
        have hwA : wfT ⟨atV L l[k].f1 l[k].f2, l[k].f1, l[k].f2⟩ := (hI _ (at_hit hh)).1
        have hfin := Lib.hid (set_yes (t := tkT l[k] T) hG.2 hF ⟨hT0, hT1⟩ hh)
        have hI' := Lib.hid (setT_inT hI hwT ⟨hT0, hT1⟩)
        have hset := Lib.hid (set_ok (t := tkT l[k] T) ⟨hT0, hT1⟩)
        have hsep := Lib.hid (sep_new hSt.out.clk.2.2 (Nat.le_refl _))
        have hBlt := Lib.hid (blk_lt hB2.out)
        go_wp2_with (at_mapUpdate; refine wpList_upd rfl _ _ _ rfl w1.heap.size m f rfl hS2.out.map (by omega) ⟨atV L l[k].f1 l[k].f2, l[k].f1, l[k].f2⟩ 0 rfl rfl hwA (by unfold in64; omega) ?_; intro w3 hM3 hg3; have hS3 := Lib.hid (hS2.out.upd hM3 hg3); have hB3 := Lib.hid (hB2.out.upd hS2.out.map hg3); obtain ⟨z0, z1, z2⟩ := hB3.out.cells; clear hM3 hg3)
        clear b0 b1 b2 z0 z1 z2
        refine (cset_any (tkT l[k] T) w3 w.heap.size w.heap.size v 0 L hS3.out.ext.size hS3.out.clk hG (by omega)).mono ?_
        rintro e w4 ⟨v4, he, hC4, hO4, hF4⟩
        rw [hset.out] at he
        subst he
        have hS4 := Lib.hid (hS3.out.op hC4 hO4)
        have hB4 := Lib.hid (hB3.out.only hO4 (by have := hS1.out.clk.lt; have := hSt.out.clk.lt; omega) hsep.out)
        obtain ⟨b0, b1, b2⟩ := hB4.out.cells
        clear hC4 hO4 hF4
        go_wp2_with (at_mapUpdate; refine wpList_upd rfl _ _ _ rfl w1.heap.size (m + 1) _ rfl hS4.out.map (by omega) (tkT l[k] T) 1 rfl rfl hwT (by unfold in64; omega) ?_; intro w5 hM5 hg5; have hS5 := Lib.hid (hS4.out.upd hM5 hg5); clear hM5 hg5)
        go_roundw
        case rel => exact ⟨k + 1, m + 1 + 1, v4, _, _, by omega, by omega, by go_num, hS5.out, setT_good hG _, hI'.out, hfin.out, by have := setT_len 0 L (tkT l[k] T); omega⟩
        case measure => simp [intOf]; omega
      · have hidx : idxT L l[k].f1 l[k].f2 < 0 := by omega
        rw [decide_eq_false hh] at he
        subst he
        obtain ⟨b0, b1, b2⟩ := hB2.out.cells
        have hfin := Lib.hid (set_no (t := tkT l[k] T) hF ⟨hT0, hT1⟩ hidx)
        have hI' := Lib.hid (setT_inT hI hwT ⟨hT0, hT1⟩)
        have hset := Lib.hid (set_ok (t := tkT l[k] T) ⟨hT0, hT1⟩)
        have hsep := Lib.hid (sep_new hSt.out.clk.2.2 (Nat.le_refl _))
        clear hh hidx
        go_wp2_with fail
        clear b0 b1 b2
        refine (cset_any (tkT l[k] T) w2 w.heap.size w.heap.size v 0 L hS2.out.ext.size hS2.out.clk hG (by omega)).mono ?_
        rintro e w4 ⟨v4, he, hC4, hO4, hF4⟩
        rw [hset.out] at he
        subst he
        have hS4 := Lib.hid (hS2.out.op hC4 hO4)
        have hB4 := Lib.hid (hB2.out.only hO4 (by have := hSt.out.clk.lt; omega) hsep.out)
        obtain ⟨b0, b1, b2⟩ := hB4.out.cells
        clear hC4 hO4 hF4
        go_wp2_with (at_mapUpdate; refine wpList_upd rfl _ _ _ rfl w1.heap.size m _ rfl hS4.out.map (by omega) (tkT l[k] T) 1 rfl rfl hwT (by unfold in64; omega) ?_; intro w5 hM5 hg5; have hS5 := Lib.hid (hS4.out.upd hM5 hg5); clear hM5 hg5)
        go_roundw
        case rel => exact ⟨k + 1, m + 1, v4, _, _, by omega, by omega, by go_num, hS5.out, setT_good hG _, hI'.out, hfin.out, by have := setT_len 0 L (tkT l[k] T); omega⟩
        case measure => simp [intOf]; omega
    · obtain ⟨hG, hI, hF, hLk⟩ := hMet.out
      obtain ⟨M, hM, hM0, hM1⟩ := mod1000 mid
      have hix : ∀ (k : Nat) (W : World), k < 2 → (Instr.index 66 (.agg #[.int .i64 M, .int .i64 2000]) (.int .i64 (k : Int))).run Try.prog W = .ok (.int .i64 (toT M k)) W := fun k W hk => by
        rcases (by omega : k = 0 ∨ k = 1) with rfl | rfl <;> rfl
      have hg := Lib.hid (Nat.le_refl wr.heap.size)
      obtain ⟨g, hgd⟩ : ∃ g, g = wr.heap.size := ⟨_, rfl⟩
      have hx : Hid (Ext wr (wr.alloc (.cells #[.int .i64 0, .int .i64 0, .int .i64 0] 48))) := ext_alloc _ _
      have hBx : Hid (Box48 (wr.alloc (.cells #[.int .i64 0, .int .i64 0, .int .i64 0] 48)) g z48) := by rw [hgd]; exact heap_alloc_new wr _
      have hS1 := Lib.hid (hSt.out.after hx.out)
      have hsep : Hid (v.ownBlock ≠ some g) := by rw [hgd]; exact sep_new hSt.out.clk.2.2 (Nat.le_refl _)
      have hgn : Hid (w.heap.size ≤ g) := by rw [hgd]; exact hSt.out.ext.size
      have hcome : Hid (Comes L f z48 m) := ⟨hG, hI, tells_start hF hI, ⟨by unfold in64; decide, by unfold in64; decide, by unfold in64; decide⟩, by omega, by omega⟩
      go_wp2
      rw [← hgd]
      clear hgd hg hM
      go_loopw [67] (fun i wo => ∃ (k m : Nat) (v : Value) (now : Int) (L : List S48) (f : S48 → Int) (last : S48), k ≤ 2 ∧ i = .int .i64 k ∧ Hid (StO w wo w.heap.size w1.heap.size v now L m f) ∧ Hid (Box48 wo g last ∧ v.ownBlock ≠ some g) ∧ Hid (Comes L f last m ∧ outI k M now L)) (fun i _ => 2 - (intOf i).toNat)
      case atStart => exact ⟨0, m, v, 0, L, f, z48, by omega, rfl, hS1.out, ⟨hBx.out, hsep.out⟩, hcome.out, .inl ⟨rfl, rfl⟩⟩
      case round =>
        obtain ⟨k2, m2, v2, now2, L2, f2, last2, hk2, rfl, hSo, hBo, hCo⟩ := hrel
        by_cases hlt2 : k2 < 2
        · have hixk := fun W => hix k2 W hlt2
          have hdk : decide ((k2 : Int) < 2) = true := decide_eq_true (by omega)
          have hdk : decide ((k2 : Int) < 2) = true := decide_eq_true (by omega)
          have hkk : k2 = 0 ∨ k2 = 1 := by omega
          obtain ⟨u, hu⟩ : ∃ u, u = toT M k2 := ⟨_, rfl⟩
          have hu0 : 0 ≤ u ∧ u ≤ 2000 := by rw [hu]; unfold toT; split <;> omega
          have hlow : Hid (now2 ≤ u ∧ (k2 = 1 → ∀ t ∈ L2, M < t.f0)) := by
            rw [hu]
            unfold toT
            rcases hCo.out.2 with ⟨rfl, rfl⟩ | ⟨rfl, rfl, h⟩ | ⟨rfl, _⟩
            · exact ⟨by simp; omega, fun e => by omega⟩
            · exact ⟨by simp; omega, fun _ => h⟩
            · omega
          have HU := Lib.hid hu
          go_wp2
          rw [← hu]
          clear hu hixk hix
          go_loopw [14] (fun i wi => ∃ (n m : Nat) (v : Value) (now : Int) (L : List S48) (f : S48 → Int) (last : S48), i = .int .i64 n ∧ n + L.length ≤ 100 ∧ Hid (StO w wi w.heap.size w1.heap.size v now L m f) ∧ Hid (Box48 wi g last ∧ v.ownBlock ≠ some g) ∧ Hid (Comes L f last m ∧ now ≤ u ∧ (k2 = 1 → ∀ t ∈ L, M < t.f0))) (fun i _ => 101 - (intOf i).toNat)
          case atStart => exact ⟨0, m2, v2, now2, L2, f2, last2, rfl, by have := hCo.out.1.2.2.2.2.1; omega, hSo.out, hBo.out, hCo.out.1, hlow.out⟩
          case round =>
            obtain ⟨n3, m3, v3, now3, L3, f3, last3, rfl, hn3, hS3, hB3, hC3⟩ := hrel
            clear hSo hBo hCo hlow hk
            go_wp2_with fail
            refine (cnext_any u wr w.heap.size w.heap.size v3 now3 L3 hS3.out.clk (by omega)).mono ?_
            rintro e w4 ⟨v4, he, hC4, hO4, hF4⟩
            have hS4 := Lib.hid (hS3.out.op hC4 hO4)
            have hsep4 := Lib.hid (sep_from hB3.out.2 hF4 (blk_lt hB3.out.1))
            have hB4 := Lib.hid (hB3.out.1.only hO4 (by
              intro e
              have h1 := hB3.out.1
              have h2 := hS3.out.clk.2.1
              rw [← e] at h2
              have := h1.symm.trans h2
              simp at this) hB3.out.2)
            clear hC4 hO4 hF4
            cases hok : nextOk L3 u
            · obtain ⟨a1, a2, a3⟩ := next_facts_no (now := now3) hok
              rw [hok, a1] at he
              replace he : e = .returned (.tuple #[.agg #[.int .i64 0, .int .i64 0, .int .i64 0], .bool false]) := he
              subst he
              have HOK := Lib.hid hok
              have hS5 : Hid (StO w w4 w.heap.size w1.heap.size v4 now3 L3 m3 f3) := by
                have := hS4.out
                rw [a2, a3] at this
                exact this
              clear hok a1 a2 a3
              have hx5 := Lib.hid (ext_alloc w4 (.cells #[.int .i64 0, .int .i64 0, .int .i64 0] 48))
              have hS6 := Lib.hid (hS5.out.after hx5.out)
              go_wp2_with fail
              refine (cgo_any u _ w.heap.size w.heap.size v4 now3 L3 hS6.out.clk).mono ?_
              rintro e w7 ⟨he, hC7, hO7⟩
              have hgk := go_ok hC3.out.2.1 hu0.2 HOK.out
              rw [hgk] at he
              have hgN : goN now3 L3 u = u := by unfold goN; rw [hgk]; rfl
              rw [hgN] at hC7
              subst he
              have hS7 := Lib.hid (hS6.out.op hC7 hO7)
              have hB7 := Lib.hid ((hB4.out.ext hx5.out).only hO7 (by
                intro e
                have h1 := hB4.out.ext hx5.out
                have h2 := hS6.out.clk.2.1
                rw [← e] at h2
                have := h1.symm.trans h2
                simp at this) hsep4.out)
              have hout : Hid (outI (k2 + 1) M u L3) := by
                obtain ⟨⟨c1, c2, c3, c4, c5, c6⟩, c7, c8⟩ := hC3.out
                rcases hkk with rfl | rfl
                · exact .inr (.inl ⟨rfl, HU.out, by rw [← show u = M from HU.out]; exact above c1 HOK.out⟩)
                · have e : u = 2000 := HU.out
                  exact .inr (.inr ⟨rfl, e, all_gone c2 c1 (by rw [← e]; exact HOK.out)⟩)
              clear hC7 hO7 hgk hgN
              go_wp2
              go_roundw
              case rel => exact ⟨k2 + 1, m3, v4, u, L3, f3, last3, by omega, by go_num, hS7.out, ⟨hB7.out, hsep4.out⟩, hC3.out.1, hout.out⟩
              case measure => simp [intOf]; omega
            · cases L3 with
              | nil => cases hok
              | cons x r =>
                have hxu : x.f0 ≤ u := by simpa [nextOk] using hok
                obtain ⟨a0, a1, a2, a3⟩ := next_facts_yes (now := now3) (r := r) hxu
                rw [hok, a1] at he
                replace he : e = .returned (.tuple #[.agg #[.int .i64 x.f0, .int .i64 x.f1, .int .i64 x.f2], .bool true]) := he
                subst he
                have hS5 : Hid (StO w w4 w.heap.size w1.heap.size v4 x.f0 r m3 f3) := by
                  have := hS4.out
                  rw [a2, a3] at this
                  exact this
                obtain ⟨c1, c2, c3, c4, c5, c6⟩ := hC3.out.1
                have hlowx := hC3.out.2.2
                obtain ⟨t1, t2, t3⟩ := tells_check c3
                have hn3' : n3 + r.length + 1 ≤ 100 := by simp at hn3; omega
                have hxw := (c2 x List.mem_cons_self).1
                have hcome2 : Hid (Comes r (putF f3 x 2) x (m3 + 1)) := ⟨good_tail c1, inT_tail c2, tells_next c3 c1, hxw, by omega, by simp at c6; omega⟩
                have hm3 : m3 < 4194304 := by omega
                have hx5 := Lib.hid (ext_alloc w4 (.cells #[.int .i64 x.f0, .int .i64 x.f1, .int .i64 x.f2] 48))
                have hS6 := Lib.hid (hS5.out.after hx5.out)
                have hB6 := Lib.hid (hB4.out.ext hx5.out)
                have hBx : Hid (Box48 (w4.alloc (.cells #[.int .i64 x.f0, .int .i64 x.f1, .int .i64 x.f2] 48)) w4.heap.size x) := heap_alloc_new w4 _
                obtain ⟨C, hCd⟩ : ∃ C, f3 last3 = C := ⟨_, rfl⟩
                rw [hCd] at t3
                have hk1 : ((k2 : Int) == 1) = false ∨ (((k2 : Int) == 1) = true ∧ decide (x.f0 ≤ M) = false) := by
                  rcases hkk with rfl | rfl
                  · exact .inl rfl
                  · exact .inr ⟨rfl, decide_eq_false (by have := hlowx rfl x List.mem_cons_self; omega)⟩
                have hd1 : decide ((200 : Int) < (n3 : Int)) = false := decide_eq_false (by omega)
                have hd2 : decide (u < x.f0) = false := decide_eq_false (by omega)
                have hd3 : decide (x.f0 < last3.f0) = false := decide_eq_false (by omega)
                obtain ⟨y0, y1, y2⟩ := hBx.out.cells
                obtain ⟨y3, y4, y5⟩ := hB6.out.cells
                have p0 := fun d os => cell_regrown y0 d os
                have p1 := fun d os => cell_regrown y1 d os
                have p2 := fun d os => cell_regrown y2 d os
                have p3 := fun d os => cell_regrown y3 d os
                have p4 := fun d os => cell_regrown y4 d os
                have p5 := fun d os => cell_regrown y5 d os
                have p6 := fun d os => look_regrown hS6.out.map hxw t1 d os
                have p7 := fun d os => look_regrown hS6.out.map c4 hCd d os
                have hq := Lib.hid (fun d os => q34 _ w.heap.size w.heap.size v4 x.f0 r hS6.out.clk d os)
                clear y0 y1 y2 y3 y4 y5 hok a0 a1 a2 a3 c1 c2 c3 c5 c6 hlowx hn3 t1 hCd
                go_wp2
                go_cut [152] (fun s wx => s = .bool false ∧ Ext (w4.alloc (.cells #[.int .i64 x.f0, .int .i64 x.f1, .int .i64 x.f2] 48)) wx)
                case first =>
                  try clear hcome2
                  try clear hS3
                  try clear hB3
                  try clear hC3
                  try clear hS4
                  try clear hB4
                  try clear hsep4
                  try clear hS5
                  try clear hS6
                  try clear hB6
                  try clear hBx
                  try clear hgn
                  try clear HC
                  try clear hl
                  try clear hMet
                  try clear hF
                  try clear hI
                  try clear hG
                  try clear hcome
                  try clear hSt
                  try clear hS1
                  try clear hsep
                  try clear hmm
                  try clear hx
                  try clear HU
                  try clear hx5
                  rcases hk1 with hk1 | ⟨hk1, hMx⟩ <;> (refine chk_split t2 t3 ?_ ?_ ?_ ?_ ?_ <;> intros)
                  all_goals
                    clear t2 t3
                    refine wp_region_quiet_below (by kernel_rfl) (by kernel_rfl) ?_
                    simp only [List.append_eq, List.cons_append, List.nil_append]
                    repeat (go_big_quiet_step ((go_at_call 34; exact hq.out _ _)))
                    refine wpQuiet_nil ?_
                    intro _ hw'
                    obtain ⟨⟨dq, osq⟩, hw''⟩ := hw'
                    subst hw''
                    go_wp2_with fail
                    go_meet
                    exact ⟨rfl, below_regrown _ dq osq⟩
                case rest =>
                  obtain ⟨rfl, hz⟩ := hcut
                  have hS7 := Lib.hid (hS6.out.after hz)
                  have hB7 := Lib.hid (hB6.out.ext hz)
                  have hBx7 := Lib.hid (hBx.out.ext hz)
                  clear p0 p1 p2 p3 p4 p5 p6 p7 hz
                  obtain ⟨y0, y1, y2⟩ := hBx7.out.cells
                  go_wp2_with (at_mapUpdate; refine wpList_upd rfl _ _ _ rfl w1.heap.size m3 f3 rfl hS7.out.map hm3 x 2 rfl rfl hxw (by unfold in64; omega) ?_; intro w8 hM8 hg8; have hS8 := Lib.hid (hS7.out.upd hM8 hg8); have hB8 := Lib.hid (hB7.out.upd hS7.out.map hg8); have hBx8 := Lib.hid (hBx7.out.upd hS7.out.map hg8); obtain ⟨z0, z1, z2⟩ := hBx8.out.cells; obtain ⟨z3, z4, z5⟩ := hB8.out.cells; have fz0 := blk_frozen hB8.out 0; have fz1 := blk_frozen hB8.out 1; have fz2 := blk_frozen hB8.out 2; clear hM8 hg8)
                  go_roundw
                  case rel => exact ⟨n3 + 1, m3 + 1, v4, x.f0, r, _, x, by go_num, by omega, hS8.out.put hB8.out hsep4.out hgn.out x, ⟨hB8.out.put3 x, hsep4.out⟩, hcome2.out, hxu, fun e t ht => hC3.out.2.2 e t (List.mem_cons_of_mem _ ht)⟩
                  case measure => simp [intOf]; omega
        · obtain ⟨⟨c1, c2, c3, c4, c5, c6⟩, ho⟩ := hCo.out
          have hk22 : k2 = 2 := by omega
          have hLe : now2 = 2000 ∧ L2 = [] := by
            rcases ho with ⟨e, _⟩ | ⟨e, _⟩ | ⟨_, h⟩
            · omega
            · omega
            · exact h
          obtain ⟨rfl, rfl⟩ := hLe
          have hT2 := Lib.hid c3.2.1
          clear ho c1 c2 c3 c6 hk22
          go_wp2
          go_loopw [163] (fun i wi => ∃ (k : Nat), k ≤ l.length ∧ i = .int .i64 k ∧ Hid (StO w wi w.heap.size w1.heap.size v2 2000 [] m2 f2)) (fun i _ => l.length - (intOf i).toNat)
          case atStart => exact ⟨0, Nat.zero_le _, rfl, hSo.out⟩
          case round =>
            obtain ⟨k5, hk5, rfl, hS5⟩ := hrel
            by_cases hlt5 : k5 < l.length
            · obtain ⟨ad, rfl, x0, x1, x2⟩ := C48 (Kd.C_below HC.out hS5.out.ext) hlt5
              obtain ⟨T, hT, hT0, hT1⟩ := mod1000 l[k5].f0
              obtain ⟨hw0, hw1, hw2⟩ := hl _ (List.getElem_mem hlt5)
              have hwT : wfT (tkT l[k5] T) := ⟨⟨by show _ ≤ T; omega, by show T ≤ _; omega⟩, hw1, hw2⟩
              have hx5 : Hid (Ext wr (wr.alloc (.cells #[.int .i64 T, .int .i64 l[k5].f1, .int .i64 l[k5].f2] 48))) := ext_alloc _ _
              have hS6 := Lib.hid (hS5.out.after hx5.out)
              obtain ⟨C, hCd⟩ : ∃ C, f2 (tkT l[k5] T) = C := ⟨_, rfl⟩
              have hC1 : (C == 1) = false := by
                rw [beq_eq_false_iff_ne, ← hCd]
                intro e
                have := hT2.out _ e
                cases this
              have hlk := hS6.out.map.look hwT
              rw [hCd] at hlk
              unfold vT tkT at hlk
              clear hCd
              go_wp2
              go_roundw
              case rel => exact ⟨k5 + 1, by omega, by go_num, hS6.out⟩
              case measure => simp [intOf]; omega
            · go_wp2_with fail
              refine (call_any _ w.heap.size w.heap.size v2 2000 [] hS5.out.clk (by decide)).mono ?_
              rintro e w6 ⟨A', n', c', rfl, hn', hnc', hCC', hb6⟩
              obtain rfl : n' = 0 := hn'.out
              have hS6 := Lib.hid (hS5.out.after hb6)
              clear hn' hb6
              go_wp2_with fail
              refine (cnow_any w6 w.heap.size w.heap.size v2 2000 [] hS6.out.clk).mono ?_
              rintro e w7 ⟨rfl, rfl⟩
              go_wp2_with fail
              refine (awake9_any w6).mono ?_
              rintro e w8 ⟨rfl, hb8⟩
              go_wp2
              go_ret
              exact ⟨rfl, Ext.tr hS6.out.ext hb8⟩
end
section
open Go.RowKit Go.Proofs.YthfolhgaecfogaaW.PrintWords Go.Proofs.YthfolhgaecfogaaW.PrintLast Go.Proofs.YthfolhgaecfogaaW.PrintMore
open Go.ChangeShapes Go.WideShapes Go.ChangeAt
instance : Inhabited S48 := ⟨z48⟩
def inB (x : Int) : Bool := decide (-9223372036854775808 ≤ x) && decide (x ≤ 9223372036854775807)
theorem inB_iff {x : Int} : inB x = true ↔ in64 x := by simp [inB, in64]
def wfB (t : S48) : Bool := inB t.f0 && inB t.f1 && inB t.f2
theorem wfB_iff {t : S48} : wfB t = true ↔ wfT t := by simp only [wfB, Bool.and_eq_true, inB_iff, wfT, and_assoc]
/-- no size: what is no timer would be too great -/
def tmSz (t : S48) : Nat := if wfB t then 0 else 2000000
theorem tmSz_le {xs : List S48} (h : (xs.map tmSz).sum ≤ 1048576) : ∀ t ∈ xs, wfT t := by
  induction xs with
  | nil => exact fun t h => by cases h
  | cons x r ih =>
    simp only [List.map_cons, List.sum_cons] at h
    intro t ht
    rcases List.mem_cons.1 ht with rfl | ht
    · rw [← wfB_iff]
      unfold tmSz at h
      cases hb : wfB t
      · rw [hb] at h; simp at h; omega
      · rfl
    · exact ih (by omega) t ht
theorem three_at {cs : List Value} {a b c : Value} (hl : cs.length = 3) (q0 : cs[0]? = some a) (q1 : cs[1]? = some b) (q2 : cs[2]? = some c) : cs = [a, b, c] := by
  match cs, hl with
  | [x, y, z], _ =>
    simp only [List.getElem?_cons_zero, List.getElem?_cons_succ, Option.some.injEq] at q0 q1 q2
    rw [q0, q1, q2]
theorem in64_of {a : Int} (h : (Lit.int .i64 a).wf = true) : in64 a := by
  have := bounds_i64 h
  exact ⟨this.1, this.2⟩
theorem opn48 : Opn k48 48 tmSz := by
  intro H enc w base spare held fuel cs x h
  obtain ⟨xs, n, _, rfl, hl, hlen, hf⟩ := DataW.trod_struct Try.underlying48 h
  match xs, hlen with
  | [y0, y1, y2], _ =>
    have g0 : DataW.trod enc Try.prog w base spare held n 3 ((cs.drop 0).take (Try.prog.cellsOf 3)) = some y0 := hf 0 _ rfl
    have g1 : DataW.trod enc Try.prog w base spare held n 3 ((cs.drop 1).take (Try.prog.cellsOf 3)) = some y1 := hf 1 _ rfl
    have g2 : DataW.trod enc Try.prog w base spare held n 3 ((cs.drop 2).take (Try.prog.cellsOf 3)) = some y2 := hf 2 _ rfl
    rw [cells3] at g0 g1 g2
    obtain ⟨a0, e0, rfl, w0⟩ := DataW.trod_int Try.underlying3 g0
    obtain ⟨a1, e1, rfl, w1⟩ := DataW.trod_int Try.underlying3 g1
    obtain ⟨a2, e2, rfl, w2⟩ := DataW.trod_int Try.underlying3 g2
    rw [cells48] at hl
    have q0 := one_at hl (by omega) e0
    have q1 := one_at hl (by omega) e1
    have q2 := one_at hl (by omega) e2
    have hcs := three_at hl q0 q1 q2
    subst hcs
    refine ⟨⟨a0, a1, a2⟩, k48_mk w ⟨a0, a1, a2⟩, ?_⟩
    have hb : wfB ⟨a0, a1, a2⟩ = true := wfB_iff.2 ⟨in64_of w0, in64_of w1, in64_of w2⟩
    unfold tmSz
    rw [hb]
    simp
end
end Go.Proofs.Ythfolhgaecfogaa
