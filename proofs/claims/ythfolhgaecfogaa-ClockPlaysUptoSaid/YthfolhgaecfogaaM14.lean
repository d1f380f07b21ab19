import Derived.Test.YthfolhgaecfogaaM13
import Derived.Test.YthfolhgaecfogaaM11
set_option linter.unusedVariables false
set_option linter.unusedSimpArgs false
namespace Go.Proofs.Ythfolhgaecfogaa
section
open Go.RowKit Go.Proofs.YthfolhgaecfogaaW.PrintWords Go.Proofs.YthfolhgaecfogaaW.PrintLast Go.Proofs.YthfolhgaecfogaaW.PrintMore
/-- a call -/
structure S50 where
  f0 : Int
  f1 : S48
def z50 : S50 := ⟨0, z48⟩
def k50 : Kd S50 := Kd.iso (Kd.pair (Kd.int .i64) k48) (fun x : S50 => (x.f0, x.f1))
theorem k50_open {w : World} {x : S50} {cs : List Value} (h : k50.K w x cs) : cs = [.int .i64 x.f0, .int .i64 x.f1.f0, .int .i64 x.f1.f1, .int .i64 x.f1.f2] := by
  obtain ⟨_, _, rfl, rfl, h⟩ := h
  obtain rfl := k48_open h
  exact rfl
theorem k50_mk (w : World) (x : S50) : k50.K w x [.int .i64 x.f0, .int .i64 x.f1.f0, .int .i64 x.f1.f1, .int .i64 x.f1.f2] := ⟨[.int .i64 x.f0], _, rfl, rfl, k48_mk w x.f1⟩
theorem C50 {w : World} {A : Option Addr} {n : Nat} {l : List S50} (h : Kd.C k50 w A n l) {k : Nat} (hk : k < l.length) :
    ∃ ad, A = some ad ∧ w.cell? (ad.add (k * 4)) = some (.int .i64 l[k].f0) ∧ w.cell? ⟨(ad.add (k * 4)).block, (ad.add (k * 4)).off + 1, none⟩ = some (.int .i64 l[k].f1.f0) ∧ w.cell? ⟨(ad.add (k * 4)).block, (ad.add (k * 4)).off + 2, none⟩ = some (.int .i64 l[k].f1.f1) ∧ w.cell? ⟨(ad.add (k * 4)).block, (ad.add (k * 4)).off + 3, none⟩ = some (.int .i64 l[k].f1.f2) := by
  obtain ⟨ad, c, e, _, hK, hc0⟩ := Kd.C_get h z50 (k : Int) (by omega) (by have := h.1; omega)
  rw [Int.toNat_natCast, List.getD_eq_getElem?_getD, List.getElem?_eq_getElem hk] at hK
  have hK' : k50.K w l[k] c := hK
  obtain rfl := k50_open hK'
  have hc : ∀ j u, ([.int .i64 l[k].f0, .int .i64 l[k].f1.f0, .int .i64 l[k].f1.f1, .int .i64 l[k].f1.f2] : List Value)[j]? = some u → w.cell? (ad.add (k * 4 + j)) = some u := by
    intro j u hj
    have := hc0 j u hj
    rwa [Int.toNat_natCast] at this
  exact ⟨ad, e, hc 0 _ rfl, by rw [← add_field _ _ 1 (by omega)]; exact hc 1 _ rfl, by rw [← add_field _ _ 2 (by omega)]; exact hc 2 _ rfl, by rw [← add_field _ _ 3 (by omega)]; exact hc 3 _ rfl⟩
def Box50 (w : World) (g : Nat) (x : S50) : Prop := w.heap[g]? = some (.cells #[.int .i64 x.f0, .int .i64 x.f1.f0, .int .i64 x.f1.f1, .int .i64 x.f1.f2] 50 (0, 0))
theorem Box50.cells {w : World} {g : Nat} {x : S50} (h : Box50 w g x) : w.cell? ⟨g, 0, none⟩ = some (.int .i64 x.f0) ∧ w.cell? ⟨g, 1, none⟩ = some (.int .i64 x.f1.f0) ∧ w.cell? ⟨g, 2, none⟩ = some (.int .i64 x.f1.f1) ∧ w.cell? ⟨g, 3, none⟩ = some (.int .i64 x.f1.f2) := ⟨blk_cell h 0, blk_cell h 1, blk_cell h 2, blk_cell h 3⟩
theorem Box50.ext {w w' : World} {g : Nat} {x : S50} (h : Box50 w g x) (hb : Ext w w') : Box50 w' g x := (hb.block g (blk_lt h)).trans h
theorem Box50.only {T : Nat} (hT : T ≠ 50) {w w' : World} {B p g : Nat} {v : Value} {now : Int} {L : List S48} {x : S50} (h : Box50 w g x) (hC : Clk T w B p v now L) (ho : Only w w' p v) : Box50 w' g x := by
  refine (ho.2.2.2.2 g (blk_lt h) (fun e => ?_) (fun e => ?_)).trans h
  · subst e
    have e2 := h.symm.trans hC.2.1
    simp only [Option.some.injEq, Obj.cells.injEq] at e2
    exact hT e2.2.1.symm
  · obtain ⟨cs, hc⟩ := hC.2.2.blk e
    have e2 := h.symm.trans hc
    simp at e2
/-- the two clocks -/
structure Duo (w0 w : World) (p1 p2 : Nat) (v1 v2 : Value) (n1 : Int) (L1 : List S48) (n2 : Int) (L2 : List S48) : Prop where
  c : Clk 89 w w0.heap.size p1 v1 n1 L1
  r : Clk 61 w w0.heap.size p2 v2 n2 L2
  sep : ∀ k, v1.ownBlock = some k → v2.ownBlock ≠ some k
  ext : Ext w0 w
theorem Duo.after {w0 w w' : World} {p1 p2 : Nat} {v1 v2 : Value} {n1 n2 : Int} {L1 L2 : List S48} (h : Duo w0 w p1 p2 v1 v2 n1 L1 n2 L2) (hb : Ext w w') : Duo w0 w' p1 p2 v1 v2 n1 L1 n2 L2 :=
  ⟨h.c.ext hb, h.r.ext hb, h.sep, Ext.tr h.ext hb⟩
theorem Duo.opC {w0 w w' : World} {p1 p2 : Nat} {v1 v2 v1' : Value} {n1 n2 n1' : Int} {L1 L2 L1' : List S48} (h : Duo w0 w p1 p2 v1 v2 n1 L1 n2 L2) (hC : Clk 89 w' w0.heap.size p1 v1' n1' L1') (ho : Only w w' p1 v1) (hf : From w v1 v1') : Duo w0 w' p1 p2 v1' v2 n1' L1' n2 L2 :=
  ⟨hC, Clk.other h.c (by decide) h.r (by decide) (by decide) h.sep ho, fun k hk e => by
    rcases hf k hk with h1 | h1
    · exact h.sep k h1 e
    · have := Kd.R_lt h.r.2.2 k e; omega, ho.below h.ext h.ext.size h.c.1 (Kd.R_base h.c.2.2)⟩
theorem Duo.opR {w0 w w' : World} {p1 p2 : Nat} {v1 v2 v2' : Value} {n1 n2 n2' : Int} {L1 L2 L2' : List S48} (h : Duo w0 w p1 p2 v1 v2 n1 L1 n2 L2) (hC : Clk 61 w' w0.heap.size p2 v2' n2' L2') (ho : Only w w' p2 v2) (hf : From w v2 v2') : Duo w0 w' p1 p2 v1 v2' n1 L1 n2' L2' :=
  ⟨Clk.other h.r (by decide) h.c (by decide) (by decide) (fun k hk e => h.sep k e hk) ho, hC, fun k hk e => by
    rcases hf k e with h1 | h1
    · exact h.sep k hk h1
    · have := Kd.R_lt h.c.2.2 k hk; omega, ho.below h.ext h.ext.size h.r.1 (Kd.R_base h.r.2.2)⟩
end
section
open Go.RowKit Go.Proofs.YthfolhgaecfogaaW.PrintWords Go.Proofs.YthfolhgaecfogaaW.PrintLast Go.Proofs.YthfolhgaecfogaaW.PrintMore
def Met9 (L : List S48) (k : Nat) : Prop := Good L ∧ L.length ≤ k
/-- the two clocks tell the same -/
def Alike9 (w0 w : World) (p1 p2 k : Nat) : Prop := ∃ v1 v2 now L, Duo w0 w p1 p2 v1 v2 now L now L ∧ Met9 L k
set_option maxRecDepth 100000 in
set_option maxHeartbeats 4000000 in
theorem clockPlays_any (now0 : Int) (A : Option Addr) (c : Nat) (l : List S50) (w : World) (hw0 : in64 now0) (hC : Kd.C k50 w A l.length l) (hc : l.length ≤ c) :
    Calls Try.prog 5 #[.int .i64 now0, .slice A l.length c] w fun e w' => e = .returned (.bool true) ∧ Ext w w' := by
  have hu48 := Try.underlying48
  have hu50 := Try.underlying50
  have hu61 := Try.underlying61
  have hm := len_max hC
  have HC := Lib.hid hC
  clear hC
  by_cases h150 : 150 < l.length
  · go_enter Try.func5, Try.ntmps5
    go_wp2_with fail
    refine (awake9_any w).mono ?_
    rintro e w1 ⟨rfl, hb1⟩
    go_wp2
    go_ret
    exact ⟨rfl, hb1⟩
  have h150' : l.length ≤ 150 := by omega
  clear h150
  go_enter Try.func5, Try.ntmps5
  go_wp2_with fail
  refine (cnew_any now0 w.heap.size w (Nat.le_refl _)).mono ?_
  rintro e w1 ⟨rfl, hC1, hb1⟩
  have HC1 := Lib.hid hC1
  have HB1 := Lib.hid hb1
  clear hC1 hb1
  go_wp2_with fail
  refine (rnew_any now0 w.heap.size w1 HB1.out.size).mono ?_
  rintro e w2 ⟨rfl, hC2, hb2⟩
  have hD : Hid (Alike9 w w2 w.heap.size w1.heap.size 0) := ⟨.slice none 0 0, .slice none 0 0, clampT now0, [], ⟨HC1.out.ext hb2, hC2, (fun k hk => by cases hk), Ext.tr HB1.out hb2⟩, good_nil, Nat.le_refl _⟩
  clear hC2 hb2
  go_wp2
  go_loopw [28] (fun i wr => ∃ k : Nat, k ≤ l.length ∧ i = .int .i64 k ∧ Hid (Alike9 w wr w.heap.size w1.heap.size k)) (fun i _ => l.length - (intOf i).toNat)
  case atStart => exact ⟨0, Nat.zero_le _, rfl, hD.out⟩
  case round =>
    obtain ⟨k, hk, rfl, hAl⟩ := hrel
    by_cases hlt : k < l.length
    · obtain ⟨v1, v2, now, L, hDu, hG, hLk⟩ := hAl.out
      have HDu := Lib.hid hDu
      obtain ⟨ad, rfl, x0, x1, x2, x3⟩ := C50 (Kd.C_below HC.out hDu.ext) hlt
      obtain ⟨x, hx⟩ : ∃ x, x = l[k] := ⟨_, rfl⟩
      rw [← hx] at x0 x1 x2 x3
      have hbx : Hid (Box50 (wr.alloc (.cells #[.int .i64 x.f0, .int .i64 x.f1.f0, .int .i64 x.f1.f1, .int .i64 x.f1.f2] 50)) wr.heap.size x) := heap_alloc_new wr _
      have hDx : Hid (Duo w (wr.alloc (.cells #[.int .i64 x.f0, .int .i64 x.f1.f0, .int .i64 x.f1.f1, .int .i64 x.f1.f2] 50)) w.heap.size w1.heap.size v1 v2 now L now L) := hDu.after (ext_alloc _ _)
      have HX := Lib.hid hx
      have hB50 : Hid (Ext w wr) := hDu.ext
      have hlx := blk_lt hbx.out
      have hlg : w1.heap.size < wr.heap.size := hDu.r.lt
      have hlh : w.heap.size < wr.heap.size := hDu.c.lt
      clear hDu hx
      go_upto_block 2 with (fail)
      clear x0 x1 x2 x3
      go_cut [9] (fun s9 wx => s9 = .bool true ∧ Alike9 w wx w.heap.size w1.heap.size (k + 1))
      case first =>
        have HD0 := Lib.hid (hDx.out.after (show Ext _ (World.drew _) from Below.drew (Below.refl _ _)))
        have hbD0 := Lib.hid (hbx.out.ext (show Ext _ (World.drew _) from Below.drew (Below.refl _ _)))
        obtain ⟨q0, q1, q2, q3⟩ := hbx.out.cells
        cases e0 : (x.f0 == 0)
        case true =>
          go_wp2
          go_region_held3 (fun W => W.cell? ⟨wr.heap.size, 0, none⟩ = some (.int .i64 x.f0) ∧ W.cell? ⟨wr.heap.size, 1, none⟩ = some (.int .i64 x.f1.f0) ∧ W.cell? ⟨wr.heap.size, 2, none⟩ = some (.int .i64 x.f1.f1) ∧ W.cell? ⟨wr.heap.size, 3, none⟩ = some (.int .i64 x.f1.f2)) (first | assumption | go_keep) (first
            | (go_at_call 24; first | (refine (cset_any x.f1 _ w.heap.size w.heap.size _ now L HQ.out.ext.size HQ.out.c hG (by omega)).mono ?_; rintro e wF ⟨v1', rfl, hC, hO, hF⟩; have HF := Lib.hid (HQ.out.opC hC hO hF); have hbF := Lib.hid (hbQ.out.only (T := 89) (by decide) HQ.out.c hO); obtain ⟨sF0, sF1, sF2, sF3⟩ := hbF.out.cells; clear hC hO) | (refine (cset_any x.f1 _ w.heap.size w.heap.size _ now L HD0.out.ext.size HD0.out.c hG (by omega)).mono ?_; rintro e wP ⟨v1', rfl, hC, hO, hF⟩; have HP := Lib.hid (HD0.out.opC hC hO hF); have hbP := Lib.hid (hbD0.out.only (T := 89) (by decide) HD0.out.c hO); obtain ⟨sP0, sP1, sP2, sP3⟩ := hbP.out.cells; clear hC hO))
            | (go_at_call 25; first | (refine (rset_any x.f1 _ w.heap.size w1.heap.size _ now L HP.out.ext.size HP.out.r hG (by omega)).mono ?_; rintro e wF ⟨v2', rfl, hC, hO, hF⟩; have HF := Lib.hid (HP.out.opR hC hO hF); have hbF := Lib.hid (hbP.out.only (T := 61) (by decide) HP.out.r hO); obtain ⟨sF0, sF1, sF2, sF3⟩ := hbF.out.cells; clear hC hO) | (refine (rset_any x.f1 _ w.heap.size w1.heap.size _ now L HD0.out.ext.size HD0.out.r hG (by omega)).mono ?_; rintro e wQ ⟨v2', rfl, hC, hO, hF⟩; have HQ := Lib.hid (HD0.out.opR hC hO hF); have hbQ := Lib.hid (hbD0.out.only (T := 61) (by decide) HD0.out.r hO); obtain ⟨sQ0, sQ1, sQ2, sQ3⟩ := hbQ.out.cells; clear hC hO)))
          all_goals
            go_wp2_with fail
            go_meet
            exact ⟨rfl, _, _, _, _, HF.out, setT_good hG _, by have := setT_len now L x.f1; omega⟩
        cases e1 : (x.f0 == 1)
        case true =>
          go_wp2
          go_region_held3 (fun W => W.cell? ⟨wr.heap.size, 0, none⟩ = some (.int .i64 x.f0) ∧ W.cell? ⟨wr.heap.size, 1, none⟩ = some (.int .i64 x.f1.f0) ∧ W.cell? ⟨wr.heap.size, 2, none⟩ = some (.int .i64 x.f1.f1) ∧ W.cell? ⟨wr.heap.size, 3, none⟩ = some (.int .i64 x.f1.f2)) (first | assumption | go_keep) (first
            | (go_at_call 26; first | (refine (ccut_any x.f1.f1 x.f1.f2 _ w.heap.size w.heap.size _ now L HQ.out.c hG (by omega)).mono ?_; rintro e wF ⟨v1', rfl, hC, hO, hF⟩; have HF := Lib.hid (HQ.out.opC hC hO hF); have hbF := Lib.hid (hbQ.out.only (T := 89) (by decide) HQ.out.c hO); obtain ⟨sF0, sF1, sF2, sF3⟩ := hbF.out.cells; clear hC hO) | (refine (ccut_any x.f1.f1 x.f1.f2 _ w.heap.size w.heap.size _ now L HD0.out.c hG (by omega)).mono ?_; rintro e wP ⟨v1', rfl, hC, hO, hF⟩; have HP := Lib.hid (HD0.out.opC hC hO hF); have hbP := Lib.hid (hbD0.out.only (T := 89) (by decide) HD0.out.c hO); obtain ⟨sP0, sP1, sP2, sP3⟩ := hbP.out.cells; clear hC hO))
            | (go_at_call 27; first | (refine (rcut_any x.f1.f1 x.f1.f2 _ w.heap.size w1.heap.size _ now L HP.out.ext.size HP.out.r (by omega)).mono ?_; rintro e wF ⟨v2', rfl, hC, hO, hF⟩; have HF := Lib.hid (HP.out.opR hC hO hF); have hbF := Lib.hid (hbP.out.only (T := 61) (by decide) HP.out.r hO); obtain ⟨sF0, sF1, sF2, sF3⟩ := hbF.out.cells; clear hC hO) | (refine (rcut_any x.f1.f1 x.f1.f2 _ w.heap.size w1.heap.size _ now L HD0.out.ext.size HD0.out.r (by omega)).mono ?_; rintro e wQ ⟨v2', rfl, hC, hO, hF⟩; have HQ := Lib.hid (HD0.out.opR hC hO hF); have hbQ := Lib.hid (hbD0.out.only (T := 61) (by decide) HD0.out.r hO); obtain ⟨sQ0, sQ1, sQ2, sQ3⟩ := hbQ.out.cells; clear hC hO)))
          all_goals
            go_wp2_with fail
            go_meet
            exact ⟨rfl, _, _, _, _, HF.out, cutT_good hG _ _, by have := cutT_len L x.f1.f1 x.f1.f2; omega⟩
        cases e2 : (x.f0 == 2)
        case true =>
          obtain ⟨a, ha⟩ : ∃ a, a = nextT L x.f1.f0 := ⟨_, rfl⟩
          obtain ⟨b, hb⟩ : ∃ b, b = nextOk L x.f1.f0 := ⟨_, rfl⟩
          have HAE := Lib.hid ha.symm
          have HBE := Lib.hid hb.symm
          clear ha hb
          go_wp2_with fail
          refine (cnext_any x.f1.f0 _ w.heap.size w.heap.size v1 now L hDx.out.c (by omega)).mono ?_
          rintro e w4 ⟨v1', he, hC, hO, hF⟩
          rw [HAE.out, HBE.out] at he
          replace he : e = .returned (.tuple #[.agg #[.int .i64 a.f0, .int .i64 a.f1, .int .i64 a.f2], .bool b]) := he
          subst he
          have HD4 := Lib.hid (hDx.out.opC hC hO hF)
          have hb4 := Lib.hid (hbx.out.only (T := 89) (by decide) hDx.out.c hO)
          have HX4 := Lib.hid (ext_alloc w4 (.cells #[.int .i64 a.f0, .int .i64 a.f1, .int .i64 a.f2] 48))
          have HD5 := Lib.hid (HD4.out.after HX4.out)
          have hb5 := Lib.hid (hb4.out.ext HX4.out)
          have hA5 : Hid (Box48 (w4.alloc (.cells #[.int .i64 a.f0, .int .i64 a.f1, .int .i64 a.f2] 48)) w4.heap.size a) := heap_alloc_new w4 _
          have hsep5 := Lib.hid (sep_new HD4.out.r.2.2 (Nat.le_refl _))
          have hlt4 := HD4.out.r.lt
          clear hC hO hF q0 q1 q2 q3
          obtain ⟨s0, s1, s2, s3⟩ := hb4.out.cells
          have hlw := blk_lt hb4.out
          go_wp2_with fail
          refine (rnext_any x.f1.f0 _ w.heap.size w1.heap.size v2 now L HD5.out.ext.size HD5.out.r (by omega)).mono ?_
          rintro e w6 ⟨v2', he, hC, hO, hF⟩
          rw [HAE.out, HBE.out] at he
          replace he : e = .returned (.tuple #[.agg #[.int .i64 a.f0, .int .i64 a.f1, .int .i64 a.f2], .bool b]) := he
          subst he
          have HD6 := Lib.hid (HD5.out.opR hC hO hF)
          have hA6 := Lib.hid (hA5.out.only hO (by omega) hsep5.out)
          have HX6 := Lib.hid (ext_alloc w6 (.cells #[.int .i64 a.f0, .int .i64 a.f1, .int .i64 a.f2] 48))
          have HD7 := Lib.hid (HD6.out.after HX6.out)
          obtain ⟨y0, y1, y2⟩ := hA6.out.cells
          have hlA := blk_lt hA6.out
          clear hC hO hF s0 s1 s2 s3
          go_wp2_with fail
          go_meet
          exact ⟨rfl, _, _, _, _, HD7.out, nextL_good hG _, by have := nextL_len L x.f1.f0; omega⟩
        cases e3 : (x.f0 == 3)
        case true =>
          go_wp2
          go_region_held3 (fun W => W.cell? ⟨wr.heap.size, 0, none⟩ = some (.int .i64 x.f0) ∧ W.cell? ⟨wr.heap.size, 1, none⟩ = some (.int .i64 x.f1.f0) ∧ W.cell? ⟨wr.heap.size, 2, none⟩ = some (.int .i64 x.f1.f1) ∧ W.cell? ⟨wr.heap.size, 3, none⟩ = some (.int .i64 x.f1.f2)) (first | assumption | go_keep) (first
            | (go_at_call 30; first | (refine (cgo_any x.f1.f0 _ w.heap.size w.heap.size _ now L HQ.out.c).mono ?_; rintro e wF ⟨rfl, hC, hO⟩; have HF := Lib.hid (HQ.out.opC hC hO (From.refl _ _)); have hbF := Lib.hid (hbQ.out.only (T := 89) (by decide) HQ.out.c hO); obtain ⟨sF0, sF1, sF2, sF3⟩ := hbF.out.cells; clear hC hO) | (refine (cgo_any x.f1.f0 _ w.heap.size w.heap.size _ now L HD0.out.c).mono ?_; rintro e wP ⟨rfl, hC, hO⟩; have HP := Lib.hid (HD0.out.opC hC hO (From.refl _ _)); have hbP := Lib.hid (hbD0.out.only (T := 89) (by decide) HD0.out.c hO); obtain ⟨sP0, sP1, sP2, sP3⟩ := hbP.out.cells; clear hC hO))
            | (go_at_call 31; first | (refine (rgo_any x.f1.f0 _ w.heap.size w1.heap.size _ now L HP.out.r).mono ?_; rintro e wF ⟨rfl, hC, hO⟩; have HF := Lib.hid (HP.out.opR hC hO (From.refl _ _)); have hbF := Lib.hid (hbP.out.only (T := 61) (by decide) HP.out.r hO); obtain ⟨sF0, sF1, sF2, sF3⟩ := hbF.out.cells; clear hC hO) | (refine (rgo_any x.f1.f0 _ w.heap.size w1.heap.size _ now L HD0.out.r).mono ?_; rintro e wQ ⟨rfl, hC, hO⟩; have HQ := Lib.hid (HD0.out.opR hC hO (From.refl _ _)); have hbQ := Lib.hid (hbD0.out.only (T := 61) (by decide) HD0.out.r hO); obtain ⟨sQ0, sQ1, sQ2, sQ3⟩ := hbQ.out.cells; clear hC hO)))
          all_goals
            go_wp2_with fail
            go_meet
            exact ⟨rfl, _, _, _, _, HF.out, hG, by omega⟩
        case false =>
          go_wp2_with fail
          refine (cat_any x.f1.f1 x.f1.f2 _ w.heap.size w.heap.size v1 now L hDx.out.c).mono ?_
          rintro e w4 ⟨rfl, hb4⟩
          have HD4 := Lib.hid (hDx.out.after hb4)
          have hbx4 := Lib.hid (hbx.out.ext hb4)
          clear hb4
          obtain ⟨s0, s1, s2, s3⟩ := hbx4.out.cells
          go_wp2_with fail
          refine (rat_any x.f1.f1 x.f1.f2 w4 w.heap.size w1.heap.size v2 now L HD4.out.r).mono ?_
          rintro e w5 ⟨rfl, hb5⟩
          have HD5 := Lib.hid (HD4.out.after hb5)
          clear hb5
          go_wp2_with fail
          go_meet
          exact ⟨rfl, _, _, _, _, HD5.out, hG, by omega⟩
      case rest =>
        obtain ⟨rfl, hA2⟩ := hcut
        obtain ⟨v3, v4, now2, L2, hD2, hM2⟩ := hA2
        have HD := Lib.hid (hD2.after (show Ext wc wc.drew from Below.drew (Below.refl _ _)))
        have HM2 := Lib.hid hM2
        obtain ⟨q0, q1⟩ := hD2.r.cells
        obtain ⟨A4, n4, c4, rfl⟩ := Row_slice hD2.r.2.2
        obtain ⟨hn4, hnc4, hC4⟩ := Kd.R_reads' HD.out.r.2.2
        have HC4 : Hid (Kd.C k48 wc.drew A4 n4 L2) := by show Kd.C _ _ _ _ _; rw [hn4]; exact hC4
        have hL2 : L2.length ≤ 4194304 := by have := hM2.2; omega
        clear hn4 hC4 hD2 hM2
        go_wp2
        go_region_held3 (fun W => W.cell? ⟨w1.heap.size, 0, none⟩ = some (.int .i64 now2) ∧ W.cell? ⟨w1.heap.size, 1, none⟩ = some (.slice A4 n4 c4)) (first | assumption | go_keep) (first
          | (go_at_call 34; refine (cnow_any _ w.heap.size w.heap.size v3 now2 L2 HD.out.c).mono ?_; rintro e w' ⟨rfl, rfl⟩)
          | (go_at_call 36; refine (call_any _ w.heap.size w.heap.size v3 now2 L2 HD.out.c hL2).mono ?_; rintro e w6 ⟨A6, n6, c6, rfl, hn6, hnc6, hC6, hb6⟩; have HB6 := Lib.hid hb6; obtain ⟨z0, z1⟩ := (HD.out.after hb6).r.cells; clear hn6 hb6)
          | (go_at_call 35; refine (sameTimers_any A6 A4 n6 n4 c6 c4 L2 _ hC6.out (Kd.C_below HC4.out HB6.out) hnc6 hnc4).mono ?_; rintro e w7 ⟨rfl, hb7⟩; have HB7 := Lib.hid hb7; obtain ⟨z2, z3⟩ := (HD.out.after (Ext.tr HB6.out hb7)).r.cells; clear hb7))
        go_wp2
        go_roundw
        case rel => exact ⟨k + 1, by omega, by go_num, v3, .slice A4 n4 c4, now2, L2, HD.out.after (Ext.tr HB6.out HB7.out), HM2.out⟩
        case measure => simp [intOf]; omega
    · go_wp2_with fail
      have hE : Ext w wr := by
        obtain ⟨_, _, _, _, h, _⟩ := hAl.out
        exact h.ext
      refine (awake9_any wr).mono ?_
      rintro e w9 ⟨rfl, hb9⟩
      go_wp2
      go_ret
      exact ⟨rfl, Ext.tr hE hb9⟩
end
section
open Go.RowKit Go.Proofs.YthfolhgaecfogaaW.PrintWords Go.Proofs.YthfolhgaecfogaaW.PrintLast Go.Proofs.YthfolhgaecfogaaW.PrintMore
open Go.ChangeShapes Go.WideShapes Go.ChangeAt
instance : Inhabited S50 := ⟨z50⟩
def clSz (x : S50) : Nat := 0
theorem clSz_le {xs : List S50} (h : (xs.map clSz).sum ≤ 1048576) : True := trivial
theorem cells50 : Try.prog.cellsOf 50 = 4 := by kernel_rfl
set_option maxRecDepth 100000 in
theorem opn50 : Opn k50 50 clSz := by
  intro H enc w base spare held fuel cs x h
  obtain ⟨xs, n, _, rfl, hl, hlen, hf⟩ := DataW.trod_struct Try.underlying50 h
  match xs, hlen with
  | [y0, y1], _ =>
    have g0 : DataW.trod enc Try.prog w base spare held n 3 ((cs.drop 0).take (Try.prog.cellsOf 3)) = some y0 := hf 0 _ rfl
    have g1 : DataW.trod enc Try.prog w base spare held n 48 ((cs.drop 1).take (Try.prog.cellsOf 48)) = some y1 := hf 1 _ rfl
    rw [cells3] at g0
    rw [cells48] at g1
    obtain ⟨a0, e0, rfl, w0⟩ := DataW.trod_int Try.underlying3 g0
    obtain ⟨t, hK, _⟩ := opn48 g1
    have e1 := k48_open hK
    rw [cells50] at hl
    match cs, hl with
    | [c0, c1, c2, c3], _ =>
      simp at e0 e1
      obtain ⟨rfl, rfl, rfl⟩ := e1
      subst e0
      exact ⟨⟨a0, t⟩, k50_mk w ⟨a0, t⟩, Nat.zero_le _⟩
end
end Go.Proofs.Ythfolhgaecfogaa
