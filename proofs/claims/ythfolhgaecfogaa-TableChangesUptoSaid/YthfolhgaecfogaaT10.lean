import Derived.Test.YthfolhgaecfogaaT9
import Derived.Shelf.Abstract
set_option linter.unusedVariables false
set_option linter.unusedSimpArgs false
namespace Go.Proofs.Ythfolhgaecfogaa
open Go.RowKit Go.Proofs.YthfolhgaecfogaaW.PrintWords Go.Proofs.YthfolhgaecfogaaW.PrintLast Go.Proofs.YthfolhgaecfogaaW.PrintMore
/-- what a test of hosts, handed over as a function, answers -/
def HostFn (g : Nat) (cap : Array Value) (w : World) (p : S34 → Bool) (l : List S34) : Prop :=
  ∀ h ∈ l, ∀ A c W, Ext w W → Kd.C k77 W A h.f5.length h.f5 → h.f5.length ≤ c → Calls Try.prog g (#[vHost h A c] ++ cap) W fun e w' => e = .returned (.bool (p h)) ∧ Ext W w'
set_option maxRecDepth 100000 in
set_option maxHeartbeats 400000 in
theorem idx34_any (g : Nat) (cap : Array Value) (p : S34 → Bool) (A : Option Addr) (c : Nat) (l : List S34) (w : World) (hC : Kd.C k34 w A l.length l) (hc : l.length ≤ c) (eg : ∀ (args : Array Value) (W : World), (callFunc g args).run Try.prog W = .ok (.enter g args) W) (hf : HostFn g cap w p l) :
    Calls Try.prog 64 #[.slice A l.length c, .func (.func g) #[] cap] w fun e w' => e = .returned (.int .i64 (idxF p l)) ∧ Ext w w' := by
  have hu := Try.underlying34
  have hm := len_max hC
  have HC := Lib.hid hC
  clear hC
  go_enter Try.func64, Try.ntmps64
  go_wp2
  go_loopw [8] (fun i wr => ∃ k : Nat, k ≤ l.length ∧ i = .int .i64 k ∧ Hid ((l.take k).any p = false) ∧ Ext w wr) (fun i _ => l.length - (intOf i).toNat)
  case atStart => exact ⟨0, Nat.zero_le _, rfl, rfl, Below.refl _ _⟩
  case round =>
    obtain ⟨k, hk, rfl, hg, hb⟩ := hrel
    by_cases hlt : k < l.length
    · obtain ⟨ad, A5, c5, rfl, h0, h1, h2, h3, h4, h5, hl5, HC5⟩ := C34 (Kd.C_below HC.out hb) hlt
      go_wp2_with fail
      refine (hf l[k] (List.getElem_mem hlt) A5 c5 _ hb HC5.out hl5).mono ?_
      rintro e w1 ⟨rfl, hb1⟩
      have hb2 := Ext.tr hb hb1
      cases hp : p l[k]
      · have hr := Lib.hid (any_step hlt hg.out hp)
        go_wp2
        go_roundw
        case rel => exact ⟨k + 1, by omega, by go_num, hr, hb2⟩
        case measure => simp [intOf]; omega
      · have hr := Lib.hid (idxF_hit hlt hg.out hp)
        go_wp2
        go_ret
        exact ⟨by rw [hr.out]; rfl, hb2⟩
    · have e : l.take k = l := List.take_of_length_le (by omega)
      have e2 := hg.out
      rw [e] at e2
      have hr := Lib.hid (idxF_none e2)
      clear e e2
      go_wp2
      go_ret
      exact ⟨by rw [hr.out]; rfl, hb⟩
theorem cont34_any (g : Nat) (p : S34 → Bool) (A : Option Addr) (c : Nat) (l : List S34) (w : World) (hC : Kd.C k34 w A l.length l) (hc : l.length ≤ c) (eg : ∀ (args : Array Value) (W : World), (callFunc g args).run Try.prog W = .ok (.enter g args) W) (hf : HostFn g #[] w p l) :
    Calls Try.prog 53 #[.slice A l.length c, .func (.func g) #[] #[]] w fun e w' => e = .returned (.bool (l.any p)) ∧ Ext w w' := by
  have hr := Lib.hid (idxF_any p l)
  go_enter Try.func53, Try.ntmps53
  go_wp2_with fail
  refine (idx34_any g #[] p A c l w hC hc eg hf).mono ?_
  rintro e w1 ⟨rfl, hb1⟩
  go_wp2
  go_ret
  exact ⟨by rw [← hr.out]; rfl, hb1⟩
theorem mayFn (l : List S34) (w : World) (hl : ∀ h ∈ l, hostOk h) : HostFn 54 #[] w (fun h => !hostMay h) l := by
  intro h hh A c W hW hC hc
  have hu34 := Try.underlying34
  have HC := Lib.hid hC
  clear hC
  unfold vHost
  go_enter Try.func54, Try.ntmps54
  go_wp2_with fail
  refine (hostMay_any h A c _ (Kd.C_below HC.out (ext_alloc _ _)) hc (hl h hh)).mono ?_
  rintro e w1 ⟨rfl, hb1⟩
  go_wp2
  go_ret
  exact ⟨rfl, Ext.tr (ext_alloc _ _) hb1⟩
theorem kRises_keys (l : List S34) : kRises (l.map keyOf) = risesB l := by
  unfold kRises risesB
  rw [List.length_map]
  have key : ∀ i, i ∈ List.range (l.length - 1) → kUpAt (l.map keyOf) i = riseAt l i := by
    intro i hi
    have hlt : i + 1 < l.length := by have := List.mem_range.1 hi; omega
    rw [kUpAt_of _ i (by simpa using hlt), riseAt_of l i hlt]
    simp [lessK, keyOf]
  rw [Bool.eq_iff_iff, List.all_eq_true, List.all_eq_true]
  exact ⟨fun h i hi => (key i hi).symm.trans (h i hi), fun h i hi => (key i hi).trans (h i hi)⟩
theorem rising_n (A : Option Addr) (c n : Nat) (l : List S82) (w : World) (hC : Kd.C k82 w A n l) (hc : n ≤ c) :
    Calls Try.prog 52 #[.slice A n c] w fun e w' => e = .returned (.bool (kRises l)) ∧ Ext w w' := by
  obtain rfl : l.length = n := Kd.C_len hC
  exact rising_any A c l w hC hc
theorem C_map {α β : Type} {d : Kd β} {f : α → β} {w : World} {A : Option Addr} {l : List α} (h : Kd.C d w A (l.map f).length (l.map f)) : Kd.C d w A l.length (l.map f) := by rwa [List.length_map] at h
theorem ent54 (args : Array Value) (W : World) : (callFunc 54 args).run Try.prog W = .ok (.enter 54 args) W := Go.Proofs.enters_of Try.func54 (by kernel_rfl) rfl args W
theorem ent65 (args : Array Value) (W : World) : (callFunc 65 args).run Try.prog W = .ok (.enter 65 args) W := Go.Proofs.enters_of Try.func65 (by kernel_rfl) rfl args W
theorem tableMay_eq (l : List S34) : tableMay l = (decide (l.length ≤ 64) && kRises (l.map keyOf) && !l.any fun h => !hostMay h) := by
  rw [kRises_keys, tableMay]
  congr 1
  induction l with
  | nil => rfl
  | cons x r ih => simp only [List.all_cons, List.any_cons, ih]; cases hostMay x <;> simp
set_option maxRecDepth 100000 in
set_option maxHeartbeats 400000 in
theorem may_any (A : Option Addr) (c : Nat) (l : List S34) (w : World) (hC : Kd.C k34 w A l.length l) (hc : l.length ≤ c) (hn : l.length ≤ 4194304) (hl : ∀ h ∈ l, hostOk h) :
    Calls Try.prog 19 #[.slice A l.length c] w fun e w' => e = .returned (.bool (tableMay l)) ∧ Ext w w' := by
  have ht := Lib.hid (tableMay_eq l)
  have HC := Lib.hid hC
  clear hC
  by_cases h1 : l.length ≤ 64
  · have d1 : decide (l.length ≤ 64) = true := decide_eq_true h1
    cases h2 : kRises (l.map keyOf)
    · have hr : Hid (tableMay l = false) := by show _ = _; rw [ht.out, h2]; simp
      go_enter Try.func19, Try.ntmps19
      go_wp2_with fail
      refine (keys_any A c l w HC.out hc hn).mono ?_
      rintro e w1 ⟨v, rfl, hR, hb⟩
      obtain ⟨A1, c1, rfl, hl1, hC1⟩ := Kd.R_reads hR
      have HC1 := Lib.hid (C_map hC1)
      rw [List.length_map] at hl1
      clear hR hC1
      go_wp2_with fail
      refine (rising_n A1 c1 _ _ w1 HC1.out hl1).mono ?_
      rintro e w2 ⟨rfl, hb2⟩
      rw [h2]
      go_wp2
      go_ret
      exact ⟨by rw [hr.out]; rfl, Ext.tr hb hb2⟩
    · have hr : Hid (tableMay l = !l.any fun h => !hostMay h) := by show _ = _; rw [ht.out, h2]; simp [h1]
      go_enter Try.func19, Try.ntmps19
      go_wp2_with fail
      refine (keys_any A c l w HC.out hc hn).mono ?_
      rintro e w1 ⟨v, rfl, hR, hb⟩
      obtain ⟨A1, c1, rfl, hl1, hC1⟩ := Kd.R_reads hR
      have HC1 := Lib.hid (C_map hC1)
      rw [List.length_map] at hl1
      clear hR hC1
      go_wp2_with fail
      refine (rising_n A1 c1 _ _ w1 HC1.out hl1).mono ?_
      rintro e w2 ⟨rfl, hb2⟩
      rw [h2]
      have hb3 := Ext.tr hb hb2
      go_wp2_with fail
      refine (cont34_any 54 _ A c l w2 (Kd.C_below HC.out hb3) hc ent54 (mayFn l w2 hl)).mono ?_
      rintro e w3 ⟨rfl, hb4⟩
      go_wp2
      go_ret
      exact ⟨by rw [hr.out]; rfl, Ext.tr hb3 hb4⟩
  · have hr : Hid (tableMay l = false) := by show _ = _; simp [tableMay, h1]
    have d1 : 64 < l.length := by omega
    clear h1
    go_enter Try.func19, Try.ntmps19
    go_wp2
    go_ret
    exact ⟨by rw [hr.out]; rfl, Below.refl _ _⟩
theorem findFn (l : List S34) (w : World) (b : Nat) (id : Int) (hb : w.cell? ⟨b, 0, none⟩ = some (.int .i64 id)) : HostFn 65 #[.pointer (some ⟨b, 0, none⟩)] w (fun h => h.f0 == id) l := by
  intro h hh A c W hW hC hc
  have hu34 := Try.underlying34
  have hb1 : W.cell? ⟨b, 0, none⟩ = some (.int .i64 id) := (hW.cell (World.block_lt_of_cell? w _ hb)).trans hb
  have hlt := World.block_lt_of_cell? W _ hb1
  simp only at hlt
  clear hb hC
  unfold vHost
  go_enter Try.func65, Try.ntmps65
  go_wp2
  go_ret
  exact ⟨rfl, ext_alloc _ _⟩
set_option maxRecDepth 100000 in
theorem find_any (A : Option Addr) (c : Nat) (l : List S34) (id : Int) (w : World) (hC : Kd.C k34 w A l.length l) (hc : l.length ≤ c) :
    Calls Try.prog 41 #[.slice A l.length c, .int .i64 id] w fun e w' => e = .returned (.int .i64 (idxF (fun h => h.f0 == id) l)) ∧ Ext w w' := by
  have HC := Lib.hid hC
  clear hC
  go_enter Try.func41, Try.ntmps41
  go_wp2_with fail
  refine (idx34_any 65 _ _ A c l _ (Kd.C_below HC.out (ext_alloc _ _)) hc ent65 (findFn l _ w.heap.size id (by simp [go_sem]))).mono ?_
  rintro e w1 ⟨rfl, hb1⟩
  go_wp2
  go_ret
  exact ⟨rfl, Ext.tr (ext_alloc _ _) hb1⟩
end Go.Proofs.Ythfolhgaecfogaa
