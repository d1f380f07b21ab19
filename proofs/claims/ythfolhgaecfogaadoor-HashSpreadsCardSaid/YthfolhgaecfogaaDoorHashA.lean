import Derived.Test.YthfolhgaecfogaaDoorRows
import Derived.Test.YthfolhgaecfogaaDoorShelf
import Derived.WalkKit
import Derived.Lib.Hide
import Derived.Lib.ItoaLen
import Derived.Lib.SmallJoins
import Derived.Lib.AppendIntMem
namespace Go.Proofs.YthfolhgaecfogaaDoor
open Go.RowKit

def hstep (h : Int) (b : UInt8) : Int := IntKind.u64.wrap (Go.bits .xor .u64 h (IntKind.u64.wrap (b.toNat : Int)) * 1099511628211)
def hfold (l : List UInt8) : Int := l.foldl hstep 14695981039346656037
def hlast (h : Int) : Int := Go.bits .xor .u64 (IntKind.u64.wrap ((Go.bits .xor .u64 h (h / 8589934592)) * 18397679294719823053)) ((IntKind.u64.wrap ((Go.bits .xor .u64 h (h / 8589934592)) * 18397679294719823053)) / 8589934592)
def htext (l : List UInt8) : Int := hlast (hfold l)
theorem hfold_snoc (l : List UInt8) (c : UInt8) : hfold (l ++ [c]) = hstep (hfold l) c := by simp [hfold]
theorem take_snoc (s : ByteArray) (k : Nat) (h : k < s.size) : s.data.toList.take (k + 1) = s.data.toList.take k ++ [s[k]] := by
  rw [List.take_succ_eq_append_getElem (by simpa using h)]; rfl
set_option maxHeartbeats 400000 in
theorem text_any (s : ByteArray) (w : World) (hs : s.size ≤ 140737488355328) :
    Calls Tryd.prog 10 #[.string s] w fun e w' => e = .returned (.int .u64 (htext s.data.toList)) ∧ w = w' := by
  go_enter Tryd.func10, Tryd.ntmps10
  go_wp2
  go_loop [3, 7] (fun h i => ∃ (k : Nat) (g : Int), k ≤ s.size ∧ i = .int .i64 k ∧ h = .int .u64 g ∧ Hid (g = hfold (s.data.toList.take k))) (fun _ i => s.size - (intOf i).toNat)
  case atStart => exact ⟨0, _, Nat.zero_le _, rfl, rfl, rfl⟩
  case round =>
    obtain ⟨k, g, hk, rfl, rfl, hg⟩ := hrel
    by_cases hlt : k < s.size
    · go_wp2
      go_round
      case rel => exact ⟨k + 1, _, by omega, by go_num, rfl, by rw [take_snoc s k hlt, hfold_snoc, ← hg.out]; rfl⟩
      case measure => simp [intOf]; omega
    · go_wp2
      go_ret
      refine ⟨?_, rfl⟩
      have e : s.data.toList.take k = s.data.toList := List.take_of_length_le (by simp; omega)
      rw [hg.out, e]; rfl
set_option maxHeartbeats 400000 in
theorem rtext_any (s : ByteArray) (w : World) (hs : s.size ≤ 140737488355328) :
    Calls Tryd.prog 23 #[.string s] w fun e w' => e = .returned (.int .u64 (htext s.data.toList)) ∧ w = w' := by
  go_enter Tryd.func23, Tryd.ntmps23
  go_wp2
  go_loop [3, 8] (fun h i => ∃ (k : Nat) (g : Int), k ≤ s.size ∧ i = .int .i64 k ∧ h = .int .u64 g ∧ Hid (g = hfold (s.data.toList.take k))) (fun _ i => s.size - (intOf i).toNat)
  case atStart => exact ⟨0, _, Nat.zero_le _, rfl, rfl, rfl⟩
  case round =>
    obtain ⟨k, g, hk, rfl, rfl, hg⟩ := hrel
    by_cases hlt : k < s.size
    · go_wp2
      go_round
      case rel => exact ⟨k + 1, _, by omega, by go_num, rfl, by rw [take_snoc s k hlt, hfold_snoc, ← hg.out]; rfl⟩
      case measure => simp [intOf]; omega
    · go_wp2
      go_ret
      refine ⟨?_, rfl⟩
      have e : s.data.toList.take k = s.data.toList := List.take_of_length_le (by simp; omega)
      rw [hg.out, e]; rfl
abbrev TabAt (w : World) : Prop := Lib.TabIs Tryd.prog w "internal/strconv.uint64pow10" .u64 Lib.pow10Tab
theorem gTab : Tryd.prog.globalNamed "internal/strconv.uint64pow10" = some 0 := by kernel_rfl
theorem tab_keep {w w' : World} (h : TabAt w) (hb : Below w.heap.size w w') : TabAt w' := Joins.tab_stays gTab h hb (Nat.le_refl _)
theorem bel_grow (w : World) (k : Nat) (os : Array Obj) : Below w.heap.size w (Go.Sort.grow (w.drewN k) os) := Lib.below_grow _ w (Nat.le_refl _) k os
theorem bel_trans {a b c : World} (h : Below a.heap.size a b) (k : Below b.heap.size b c) : Below a.heap.size a c := h.trans (k.mono h.size)
def hcat (s : ByteArray) (n : Int) : ByteArray := s ++ ⟨#[35]⟩ ++ ⟨(Lib.itoa n).toArray⟩
def hnum (s : ByteArray) (n : Int) : Int := htext (hcat s n).data.toList
theorem hcat_size (s : ByteArray) (n : Int) (h0 : -9223372036854775808 ≤ n) (h1 : n ≤ 9223372036854775807) : (hcat s n).size ≤ s.size + 22 := by
  have hl := Lib.itoa_length_le n h0 h1
  unfold hcat
  rw [ByteArray.size_append, ByteArray.size_append]
  have e1 : (⟨#[35]⟩ : ByteArray).size = 1 := rfl
  have e2 : (⟨(Lib.itoa n).toArray⟩ : ByteArray).size = (Lib.itoa n).length := by show (Lib.itoa n).toArray.size = _; simp
  omega
theorem with_any (s : ByteArray) (n : Int) (w : World) (hs : s.size ≤ 100000) (h0 : -9223372036854775808 ≤ n) (h1 : n ≤ 9223372036854775807) (htab : TabAt w) :
    Calls Tryd.prog 9 #[.string s, .int .i64 n] w fun e w' => e = .returned (.int .u64 (hnum s n)) ∧ Below w.heap.size w w' := by
  have hl := hcat_size s n h0 h1
  have hl0 := Lib.itoa_length_le n h0 h1
  go_enter Tryd.func9, Tryd.ntmps9
  go_wp2_with fail
  refine (Tryd.strconv_Itoa n h0 h1 w htab).mono ?_
  rintro e w' ⟨rfl, k, os, rfl⟩
  go_wp2_with fail
  refine (text_any (hcat s n) _ (by omega)).mono ?_
  rintro e w' ⟨rfl, rfl⟩
  go_wp2
  go_ret
  exact ⟨rfl, bel_grow w k os⟩
theorem rwith_any (s : ByteArray) (n : Int) (w : World) (hs : s.size ≤ 100000) (h0 : -9223372036854775808 ≤ n) (h1 : n ≤ 9223372036854775807) (htab : TabAt w) :
    Calls Tryd.prog 12 #[.string s, .int .i64 n] w fun e w' => e = .returned (.int .u64 (hnum s n)) ∧ Below w.heap.size w w' := by
  have hl := hcat_size s n h0 h1
  have hl0 := Lib.itoa_length_le n h0 h1
  go_enter Tryd.func12, Tryd.ntmps12
  go_wp2_with fail
  refine (Tryd.strconv_Itoa n h0 h1 w htab).mono ?_
  rintro e w' ⟨rfl, k, os, rfl⟩
  go_wp2_with fail
  refine (rtext_any (hcat s n) _ (by omega)).mono ?_
  rintro e w' ⟨rfl, rfl⟩
  go_wp2
  go_ret
  exact ⟨rfl, bel_grow w k os⟩
theorem dec_step (q r : Nat) (hr : r < 10) (hq : 0 < q) : Lib.decDigits (10 * q + r) = Lib.decDigits q ++ [UInt8.ofNat (48 + r)] := by
  rw [Lib.decDigits, dif_neg (by omega)]
  have e1 : (10 * q + r) / 10 = q := by omega
  have e2 : (10 * q + r) % 10 = r := by omega
  rw [e1, e2]
theorem nat_split (M : Nat) : ∃ q r : Nat, M = 10 * q + r ∧ r < 10 := ⟨M / 10, M % 10, by omega, by omega⟩
theorem conv1 (W : World) (c : Int) (cap : Nat) : (convert 46 9 (.slice (some ⟨W.heap.size, 0, none⟩) 1 cap)).run Tryd.prog (W.alloc (.cells #[.int .u8 c] 5)) = .ok (.string (strOfNums [c])) (W.alloc (.cells #[.int .u8 c] 5)) :=
  run_convert_bytes_arg _ 46 5 Tryd.underlying46 Tryd.underlying5 W.heap.size 0 1 cap [c] rfl (fun i hi => by
    obtain rfl : i = 0 := by omega
    rw [World.cell?_alloc_at _ _ _ _ (by simp)]; rfl) 9 Tryd.underlying9
theorem str1 (r : Nat) (x : ByteArray) : (strOfNums [48 + (r : Int)] ++ x).data.toList = UInt8.ofNat (48 + r) :: x.data.toList := by
  rw [ByteArray.data_append, Array.toList_append, strOfNums_data]
  simp only [List.map_cons, List.map_nil, List.cons_append, List.nil_append]
  congr 2
theorem ba_eq {x : ByteArray} {l : List UInt8} (h : x.data.toList = l) : x = ⟨l.toArray⟩ := by subst h; cases x; simp
theorem tmod_neg (m : Nat) : (-(m : Int)).tmod 10 = -((m % 10 : Nat) : Int) := by
  rw [Int.neg_tmod]; exact congrArg _ (Int.ofNat_tmod m 10).symm
theorem tdiv_neg (m : Nat) : (-(m : Int)).tdiv 10 = -((m / 10 : Nat) : Int) := by
  rw [Int.neg_tdiv]; rfl
theorem tmod_pos (m : Nat) : (m : Int).tmod 10 = ((m % 10 : Nat) : Int) := (Int.ofNat_tmod m 10).symm
theorem tdiv_pos (m : Nat) : (m : Int).tdiv 10 = ((m / 10 : Nat) : Int) := rfl
theorem dec_len (u : Nat) (h : u < 18446744073709551616) : (Lib.decDigits u).length ≤ 20 := by rw [Lib.decDigits_length]; exact Lib.nDigits_le20 u h
set_option maxHeartbeats 400000 in
theorem minus_any (n : Int) (w : World) (h0 : -9223372036854775808 ≤ n) (h1 : n < 0) :
    Calls Tryd.prog 22 #[.int .i64 n] w fun e w' => e = .returned (.string ⟨(Lib.itoa n).toArray⟩) ∧ Below w.heap.size w w' := by
  go_enter Tryd.func22, Tryd.ntmps22
  go_wp2
  go_loopw [0, 3] (fun m t wr => ∃ (k : Int) (M : Nat) (x : ByteArray), m = .int .i64 k ∧ t = .string x ∧ Hid (k = -(M : Int)) ∧ k < 0 ∧ n ≤ k ∧ x.size ≤ 30 ∧ Hid (Lib.decDigits n.natAbs = Lib.decDigits M ++ x.data.toList) ∧ Hid ((Lib.decDigits M).length + x.size ≤ 21) ∧ Below w.heap.size w wr) (fun m _ _ => (- intOf m).toNat)
  case atStart =>
    refine ⟨n, n.natAbs, ⟨#[]⟩, rfl, rfl, show n = _ by omega, h1, by omega, by decide, show _ = _ by simp, ?_, Below.refl _ _⟩
    have := dec_len n.natAbs (by omega)
    show _ + 0 ≤ _
    omega
  case round =>
    obtain ⟨k, M, x, rfl, rfl, hkM, hk, hnk, hx, hd, hl, hb⟩ := hrel
    obtain ⟨q, r, hM, hr⟩ := nat_split M
    obtain rfl : M = 10 * q + r := hM
    have ht : k.tmod 10 = -(r : Int) := by rw [hkM.out, tmod_neg]; omega
    have htd : k.tdiv 10 = -(q : Int) := by rw [hkM.out, tdiv_neg]; omega
    have hcv := fun cap => conv1 wr (48 + (r : Int)) cap
    have hsz : (strOfNums [48 + (r : Int)]).size = 1 := strOfNums_size _
    have hqb : (q : Int) ≤ 922337203685477581 := by have := hkM.out; omega
    have hb' : Below w.heap.size w (wr.alloc (.cells #[.int .u8 (48 + (r : Int))] 5)) := hb.alloc hb.size _
    have hs : (strOfNums [48 + (r : Int)] ++ x).size = 1 + x.size := by rw [ByteArray.size_append]; exact congrArg (· + x.size) (strOfNums_size _)
    by_cases hq : q = 0
    · subst hq
      go_wp2
      go_ret
      refine ⟨?_, hb'⟩
      have e : Lib.itoa n = 45 :: (UInt8.ofNat (48 + r) :: x.data.toList) := by
        unfold Lib.itoa; rw [if_pos h1, hd.out, Nat.mul_zero, Nat.zero_add, Lib.decDigits_one hr]; rfl
      rw [e]
      exact congrArg (fun z => Ending.returned (.string z)) (ba_eq (by rw [ByteArray.data_append, Array.toList_append, str1]; rfl))
    · have hq2 : (-(q : Int) == 0) = false := beq_eq_false_iff_ne.2 (by omega)
      go_wp2
      go_roundw
      case rel =>
        have hl' := hl.out
        rw [dec_step q r hr (by omega), List.length_append] at hl'
        have hd' := hd.out
        rw [dec_step q r hr (by omega), List.append_assoc] at hd'
        have e1 : ([UInt8.ofNat (48 + r)] : List UInt8).length = 1 := rfl
        exact ⟨-(q : Int), q, _, rfl, rfl, rfl, by omega, by have := hkM.out; omega, by omega, show _ = _ by rw [str1]; exact hd', show _ ≤ _ by omega, hb'⟩
      case measure => have := hkM.out; simp [intOf]; omega
set_option maxHeartbeats 400000 in
theorem digits_any (n : Int) (w : World) (h0 : -9223372036854775808 ≤ n) (h1 : n ≤ 9223372036854775807) :
    Calls Tryd.prog 11 #[.int .i64 n] w fun e w' => e = .returned (.string ⟨(Lib.itoa n).toArray⟩) ∧ Below w.heap.size w w' := by
  by_cases hn : n < 0
  · go_enter Tryd.func11, Tryd.ntmps11
    go_wp2_with (go_at_call 22; refine (minus_any n _ h0 hn).mono ?_; rintro e w' ⟨rfl, hb⟩)
    go_ret
    exact ⟨rfl, hb⟩
  · have hn' : 0 ≤ n := by omega
    go_enter Tryd.func11, Tryd.ntmps11
    go_wp2
    go_loopw [0, 3] (fun m t wr => ∃ (k : Int) (M : Nat) (x : ByteArray), m = .int .i64 k ∧ t = .string x ∧ Hid (k = (M : Int)) ∧ 0 ≤ k ∧ k ≤ n ∧ x.size ≤ 30 ∧ Hid (M = 0 → x.size = 0) ∧ Hid (Lib.decDigits n.natAbs = Lib.decDigits M ++ x.data.toList) ∧ Hid ((Lib.decDigits M).length + x.size ≤ 21) ∧ Below w.heap.size w wr) (fun m _ _ => (intOf m).toNat)
    case atStart =>
      refine ⟨n, n.natAbs, ⟨#[]⟩, rfl, rfl, show n = _ by omega, hn', by omega, by decide, fun _ => rfl, show _ = _ by simp, ?_, Below.refl _ _⟩
      have := dec_len n.natAbs (by omega)
      show _ + 0 ≤ _
      omega
    case round =>
      obtain ⟨k, M, x, rfl, rfl, hkM, hk, hnk, hx, hx0, hd, hl, hb⟩ := hrel
      obtain ⟨q, r, hM, hr⟩ := nat_split M
      obtain rfl : M = 10 * q + r := hM
      have ht : k.tmod 10 = (r : Int) := by rw [hkM.out, tmod_pos]; omega
      have ht' : k % 10 = (r : Int) := by have := hkM.out; omega
      have htd : k.tdiv 10 = (q : Int) := by rw [hkM.out, tdiv_pos]; omega
      have htd' : k / 10 = (q : Int) := by have := hkM.out; omega
      have hcv := fun cap => conv1 wr (48 + (r : Int)) cap
      have hsz : (strOfNums [48 + (r : Int)]).size = 1 := strOfNums_size _
      have hqb : (q : Int) ≤ 922337203685477581 := by have := hkM.out; omega
      have hb' : Below w.heap.size w (wr.alloc (.cells #[.int .u8 (48 + (r : Int))] 5)) := hb.alloc hb.size _
      have hs : (strOfNums [48 + (r : Int)] ++ x).size = 1 + x.size := by rw [ByteArray.size_append]; exact congrArg (· + x.size) (strOfNums_size _)
      by_cases hq : q = 0
      · subst hq
        go_wp2
        go_ret
        refine ⟨?_, hb'⟩
        have e : Lib.itoa n = UInt8.ofNat (48 + r) :: x.data.toList := by
          unfold Lib.itoa; rw [if_neg (by omega), show n.toNat = n.natAbs by omega, hd.out, Nat.mul_zero, Nat.zero_add, Lib.decDigits_one hr]; rfl
        rw [e]
        exact congrArg (fun z => Ending.returned (.string z)) (ba_eq (by rw [str1]))
      · have hq2 : ((q : Int) == 0) = false := beq_eq_false_iff_ne.2 (by omega)
        go_wp2
        go_roundw
        case rel =>
          have hl' := hl.out
          rw [dec_step q r hr (by omega), List.length_append] at hl'
          have hd' := hd.out
          rw [dec_step q r hr (by omega), List.append_assoc] at hd'
          have e1 : ([UInt8.ofNat (48 + r)] : List UInt8).length = 1 := rfl
          exact ⟨(q : Int), q, _, rfl, rfl, rfl, by omega, by have := hkM.out; omega, by omega, fun h => absurd h hq, show _ = _ by rw [str1]; exact hd', show _ ≤ _ by omega, hb'⟩
        case measure => have := hkM.out; simp [intOf]; omega
theorem below_any (h n : Int) (w : World) (h0 : 0 ≤ h) (h1 : h ≤ 18446744073709551615) (hn : n ≤ 9223372036854775807) (hn1 : 1 ≤ n) :
    Calls Tryd.prog 20 #[.int .u64 h, .int .i64 n] w fun e w' => e = .returned (.int .i64 (h % n)) ∧ w = w' := by
  have hm := Int.emod_nonneg h (show n ≠ 0 by omega)
  have hm2 := Int.emod_lt_of_pos h (show 0 < n by omega)
  have hz : (n == 0) = false := beq_eq_false_iff_ne.2 (by omega)
  go_enter Tryd.func20, Tryd.ntmps20
  go_wp2
  go_ret
  exact ⟨rfl, rfl⟩
theorem below_zero (h n : Int) (w : World) (hn1 : n < 1) :
    Calls Tryd.prog 20 #[.int .u64 h, .int .i64 n] w fun e w' => e = .returned (.int .i64 0) ∧ w = w' := by
  go_enter Tryd.func20, Tryd.ntmps20
  go_wp2
  go_ret
  exact ⟨rfl, rfl⟩
theorem aw1 : (htext [97] != htext [98]) = true := by decide +kernel
theorem aw2 : hnum ⟨#[97]⟩ 1 = htext [97, 35, 49] := by
  have e : Lib.itoa 1 = [49] := by
    unfold Lib.itoa; rw [if_neg (by omega), show (1 : Int).toNat = 1 from rfl, Lib.decDigits_one (by omega)]; rfl
  unfold hnum hcat; rw [e]; rfl
theorem awake_any (w : World) (htab : TabAt w) :
    Calls Tryd.prog 8 #[] w fun e w' => e = .returned (.bool true) ∧ Below w.heap.size w w' := by
  have h1 := aw1
  have h2 : (hnum ⟨#[97]⟩ 1 == htext [97, 35, 49]) = true := beq_iff_eq.2 aw2
  go_enter Tryd.func8, Tryd.ntmps8
  go_wp2_with fail
  refine (text_any _ _ (by decide)).mono ?_
  rintro e w' ⟨rfl, rfl⟩
  go_wp2_with fail
  refine (text_any _ _ (by decide)).mono ?_
  rintro e w' ⟨rfl, rfl⟩
  go_wp2_with fail
  refine (with_any _ 1 _ (by decide) (by decide) (by decide) htab).mono ?_
  rintro e w1 ⟨rfl, hb⟩
  go_wp2_with fail
  refine (text_any _ _ (by decide)).mono ?_
  rintro e w' ⟨rfl, rfl⟩
  go_wp2_with fail
  refine (below_any 17 5 _ (by decide) (by decide) (by decide) (by decide)).mono ?_
  rintro e w' ⟨rfl, rfl⟩
  go_wp2_with fail
  refine (below_zero 17 0 _ (by decide)).mono ?_
  rintro e w' ⟨rfl, rfl⟩
  go_wp2
  go_ret
  exact ⟨rfl, hb⟩
theorem hash_spreads (s : ByteArray) (n m : Int) (w : World) (hs : s.size ≤ 140737488355328) (n0 : -9223372036854775808 ≤ n) (n1 : n ≤ 9223372036854775807) (m0 : -9223372036854775808 ≤ m) (m1 : m ≤ 9223372036854775807) (htab : TabAt w) :
    Calls Tryd.prog 3 #[.string s, .int .i64 n, .int .i64 m] w fun e w' => e = .returned (.bool true) ∧ Below w.heap.size w w' := by
  by_cases hl : 500 < s.size
  · go_enter Tryd.func3, Tryd.ntmps3
    go_wp2_with fail
    refine (awake_any _ htab).mono ?_
    rintro e w1 ⟨rfl, hb⟩
    go_wp2
    go_ret
    exact ⟨rfl, hb⟩
  · have hl' : s.size ≤ 500 := by omega
    have hl0 := Lib.itoa_length_le n n0 n1
    have hcs := hcat_size s n n0 n1
    have heq : ((n != m) || (hnum s n == hnum s m)) = true := by
      by_cases h : n = m
      · subst h; simp
      · simp [h]
    have key : ∀ (P : Prop), ((n != m) = true → P) → ((n != m) = false → (hnum s n == hnum s m) = true → P) → P := by
      intro P h1 h2
      cases hb : (n != m)
      · exact h2 hb (by rw [hb] at heq; simpa using heq)
      · exact h1 hb
    clear heq hl
    apply key
    all_goals
      intros
      go_enter Tryd.func3, Tryd.ntmps3
      go_wp2_with fail
      refine (with_any s n _ (by omega) n0 n1 htab).mono ?_
      rintro e w1 ⟨rfl, hb1⟩
      go_wp2_with fail
      refine (with_any s m _ (by omega) m0 m1 (tab_keep htab hb1)).mono ?_
      rintro e w2 ⟨rfl, hb2⟩
      go_wp2_with fail
      have hb12 := bel_trans hb1 hb2
      refine (digits_any n _ n0 n1).mono ?_
      rintro e w3 ⟨rfl, hb3⟩
      go_wp2_with fail
      have hb13 := bel_trans hb12 hb3
      refine (text_any (hcat s n) _ (by omega)).mono ?_
      rintro e w' ⟨rfl, rfl⟩
      have hnn : (hnum s n == htext (hcat s n).data.toList) = true := beq_iff_eq.2 rfl
      go_wp2_with fail
      refine (rwith_any s m _ (by omega) m0 m1 (tab_keep htab hb13)).mono ?_
      rintro e w4 ⟨rfl, hb4⟩
      have hb14 := bel_trans hb13 hb4
      go_wp2_with fail
      refine (awake_any _ (tab_keep htab hb14)).mono ?_
      rintro e w5 ⟨rfl, hb5⟩
      have hb15 := bel_trans hb14 hb5
      go_wp2
      go_ret
      exact ⟨rfl, hb15⟩
end Go.Proofs.YthfolhgaecfogaaDoor
