import Derived.Test.YthfolhgaecfogaaT11
set_option linter.unusedVariables false
set_option linter.unusedSimpArgs false
namespace Go.Proofs.Ythfolhgaecfogaa
open Go.RowKit Go.Proofs.YthfolhgaecfogaaW.PrintWords Go.Proofs.YthfolhgaecfogaaW.PrintLast Go.Proofs.YthfolhgaecfogaaW.PrintMore
/-- new memory: its blocks lie from B on -/
theorem New_from {α : Type} {d : Kd α} {e B : Nat} {w1 : World} {v : Value} {l : List α} (h : Kd.R d e w1 B (fun _ => True) v l) : Kd.R d e w1 B (fun k => B ≤ k) v l :=
  Kd.R_mono (Kd.R_bound h) (fun k hk => hk.2.1)
theorem hostMem {w1 : World} {B base : Nat} {h : S34} {v : Value} (hR : Kd.R k77 77 w1 B (fun _ => True) v h.f5) (hb : base ≤ B) : k34.M w1 base (fun k => B ≤ k) h [.int .i64 h.f0, .string h.f1, .int .i64 h.f2, .string h.f3, .int .i64 h.f4, v] :=
  k34_mkM w1 base _ h (Kd.R_lower (New_from hR) hb)
theorem apart_of {α : Type} {d : Kd α} {e base : Nat} {ok : Nat → Prop} {w : World} {v : Value} {l : List α} {B : Nat} (h : Kd.R d e w base ok v l) (hB : w.heap.size ≤ B) : ∀ k, B ≤ k → True ∧ some k ≠ v.ownBlock :=
  fun k hk => ⟨trivial, fun e => by have := Kd.R_lt h k e.symm; omega⟩
set_option maxRecDepth 100000 in
set_option maxHeartbeats 1000000 in
theorem copied_any (A : Option Addr) (c : Nat) (l : List S34) (w : World) (hC : Kd.C k34 w A l.length l) (hc : l.length ≤ c) (hn : l.length ≤ 4194304) (hl : ∀ h ∈ l, h.f5.length ≤ 4194304) :
    Calls Try.prog 50 #[.slice A l.length c] w fun e w' => ∃ v, e = .returned v ∧ New k34 34 w w' v l ∧ Ext w w' := by
  have hu34 := Try.underlying34
  have hm := len_max hC
  have HC := Lib.hid hC
  clear hC
  go_enter Try.func50, Try.ntmps50
  go_wp2
  go_loopw [3, 8] (fun v i wr => ∃ k : Nat, k ≤ l.length ∧ i = .int .i64 k ∧ Hid (New k34 34 w wr v (l.take k)) ∧ Ext w wr) (fun _ i _ => l.length - (intOf i).toNat)
  case atStart => exact ⟨0, Nat.zero_le _, rfl, Kd.R_nil _ _ _ _ _, Below.refl _ _⟩
  case round =>
    obtain ⟨k, hk, rfl, hR, hb⟩ := hrel
    by_cases hlt : k < l.length
    · obtain ⟨ad, A5, c5, rfl, h0, h1, h2, h3, h4, h5, hl5, HC5⟩ := C34 (Kd.C_below HC.out hb) hlt
      have hts : Hid (l.take (k + 1) = l.take k ++ [l[k]]) := List.take_succ_eq_append_getElem hlt
      have hlen : Hid ((l.take k).length = k) := by show _ = _; simp; omega
      have hR1 : Hid (New k34 34 w (wr.alloc (.cells #[.int .i64 l[k].f0, .string l[k].f1, .int .i64 l[k].f2, .string l[k].f3, .int .i64 l[k].f4, .slice A5 l[k].f5.length c5] 34)) u3 (l.take k)) := Kd.R_alloc hR.out _
      have hb1 : Hid (Ext w (wr.alloc (.cells #[.int .i64 l[k].f0, .string l[k].f1, .int .i64 l[k].f2, .string l[k].f3, .int .i64 l[k].f4, .slice A5 l[k].f5.length c5] 34))) := Ext.tr hb (ext_alloc _ _)
      have hm5 := hl l[k] (List.getElem_mem hlt)
      go_wp2_with fail
      refine (copy_any l[k] A5 c5 _ (Kd.C_below HC5.out (ext_alloc _ _)) hl5 hm5).mono ?_
      rintro e w1 ⟨v, rfl, hN, hb2⟩
      have hR2 := Kd.R_below hR1.out hb2
      have hM := Lib.hid (hostMem (base := w.heap.size) hN hb1.out.size)
      have hap := Lib.hid (apart_of hR1.out (Nat.le_refl _))
      have hb3 := Ext.tr hb1.out hb2
      have HR2 := Lib.hid hR2
      have HB3 := Lib.hid hb3
      obtain ⟨A', c', rfl, hlc, _⟩ := Kd.R_reads hN
      clear hN hR2 hb2 hb3 h0 h1 h2 h3 h4 h5
      unfold nHost
      go_wp2_with (at_builtin; refine Kd.R_append (w0 := w) k34 w.heap.size rfl _ _ _ 34 _ 80 rfl Try.underlying22 info34 rfl (by decide) (by decide) u3 (l.take k) l[k] [.int .i64 l[k].f0, .string l[k].f1, .int .i64 l[k].f2, .string l[k].f3, .int .i64 l[k].f4, .slice A' l[k].f5.length c'] (fun _ => True) _ rfl (by simp [Act.eval]) hM.out hap.out (fun _ _ => trivial) HR2.out HB3.out HB3.out.size (by rw [hlen.out]; omega) ?_; intro v1 w2 hR3 hb4 hg hat; have HR3 := Lib.hid hR3; have HB4 := Lib.hid hb4; clear hR3 hb4 hg hat)
      go_roundw
      case rel => exact ⟨k + 1, by omega, by go_num, by show New _ _ _ _ _ _; rw [hts.out]; exact HR3.out, HB4.out⟩
      case measure => simp [intOf]; omega
    · have e : l.take k = l := List.take_of_length_le (by omega)
      have hR2 := hR.out
      rw [e] at hR2
      have HR2 := Lib.hid hR2
      clear e hR2 hR
      go_wp2
      go_ret
      exact ⟨_, rfl, HR2.out, hb⟩
end Go.Proofs.Ythfolhgaecfogaa
