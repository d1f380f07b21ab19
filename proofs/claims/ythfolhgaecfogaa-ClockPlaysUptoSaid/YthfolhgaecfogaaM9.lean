import Derived.Test.YthfolhgaecfogaaM8
set_option linter.unusedVariables false
set_option linter.unusedSimpArgs false
namespace Go.Proofs.Ythfolhgaecfogaa
section
open Go.RowKit Go.Proofs.YthfolhgaecfogaaW.PrintWords Go.Proofs.YthfolhgaecfogaaW.PrintLast Go.Proofs.YthfolhgaecfogaaW.PrintMore
/-- a timer -/
structure S48 where
  f0 : Int
  f1 : Int
  f2 : Int
  deriving DecidableEq
def z48 : S48 := ⟨0, 0, 0⟩
def k48 : Kd S48 := Kd.iso (Kd.pair (Kd.int .i64) (Kd.pair (Kd.int .i64) (Kd.int .i64))) (fun x : S48 => (x.f0, x.f1, x.f2))
theorem k48_open {w : World} {x : S48} {cs : List Value} (h : k48.K w x cs) : cs = [.int .i64 x.f0, .int .i64 x.f1, .int .i64 x.f2] := by
  obtain ⟨_, _, rfl, rfl, ⟨_, _, rfl, rfl, rfl⟩⟩ := h
  exact rfl
theorem k48_mk (w : World) (x : S48) : k48.K w x [.int .i64 x.f0, .int .i64 x.f1, .int .i64 x.f2] := ⟨[.int .i64 x.f0], _, rfl, rfl, ⟨[.int .i64 x.f1], [.int .i64 x.f2], rfl, rfl, rfl⟩⟩
theorem k48_mkM (w : World) (base : Nat) (ok : Nat → Prop) (x : S48) : k48.M w base ok x [.int .i64 x.f0, .int .i64 x.f1, .int .i64 x.f2] := ⟨[.int .i64 x.f0], _, rfl, rfl, ⟨[.int .i64 x.f1], [.int .i64 x.f2], rfl, rfl, rfl⟩⟩
theorem k48_openM {w : World} {base : Nat} {ok : Nat → Prop} {x : S48} {cs : List Value} (h : k48.M w base ok x cs) : cs = [.int .i64 x.f0, .int .i64 x.f1, .int .i64 x.f2] := by
  obtain ⟨_, _, rfl, rfl, ⟨_, _, rfl, rfl, rfl⟩⟩ := h
  exact rfl
theorem info48 : (Try.prog.info? 48).map (fun i => (i.zero, i.size, i.bytes)) = some (some (.agg #[.int .i64 0, .int .i64 0, .int .i64 0]), 3, 24) := by kernel_rfl
theorem info89 : (Try.prog.info? 89).map (fun i => (i.zero, i.size, i.bytes)) = some (some (.agg #[.int .i64 0, .slice none 0 0]), 2, 32) := by kernel_rfl
theorem km48 (W : World) (base : Nat) (ok : Nat → Prop) (x : S48) (cs : List Value) (h : k48.K W x cs) : k48.M W base ok x cs := by
  obtain rfl := k48_open h
  exact k48_mkM W base ok x
/-- the cells of element k -/
theorem C48 {w : World} {A : Option Addr} {n : Nat} {l : List S48} (h : Kd.C k48 w A n l) {k : Nat} (hk : k < l.length) :
    ∃ ad, A = some ad ∧ w.cell? (ad.add (k * 3)) = some (.int .i64 l[k].f0) ∧ w.cell? ⟨(ad.add (k * 3)).block, (ad.add (k * 3)).off + 1, none⟩ = some (.int .i64 l[k].f1) ∧ w.cell? ⟨(ad.add (k * 3)).block, (ad.add (k * 3)).off + 2, none⟩ = some (.int .i64 l[k].f2) := by
  obtain ⟨ad, c, e, _, hK, hc0⟩ := Kd.C_get h z48 (k : Int) (by omega) (by have := h.1; omega)
  rw [Int.toNat_natCast, List.getD_eq_getElem?_getD, List.getElem?_eq_getElem hk] at hK
  have hK' : k48.K w l[k] c := hK
  obtain rfl := k48_open hK'
  have hc : ∀ j u, ([.int .i64 l[k].f0, .int .i64 l[k].f1, .int .i64 l[k].f2] : List Value)[j]? = some u → w.cell? (ad.add (k * 3 + j)) = some u := by
    intro j u hj
    have := hc0 j u hj
    rwa [Int.toNat_natCast] at this
  exact ⟨ad, e, hc 0 _ rfl, by rw [← add_field _ _ 1 (by omega)]; exact hc 1 _ rfl, by rw [← add_field _ _ 2 (by omega)]; exact hc 2 _ rfl⟩
/-- a row of timers of one's own -/
abbrev Row (w : World) (B : Nat) (v : Value) (L : List S48) : Prop := Kd.R k48 48 w B (fun _ => True) v L
theorem flat48 {w : World} {base : Nat} {ok1 ok2 : Nat → Prop} {x : S48} {cs : List Value} (h : k48.M w base ok1 x cs) : k48.M w base ok2 x cs := by
  obtain rfl := k48_openM h
  exact k48_mkM w base ok2 x
theorem Row_own {w : World} {B : Nat} {v : Value} {L : List S48} (h : Row w B v L) : Kd.R k48 48 w B (fun k => v.ownBlock = some k) v L :=
  ⟨fun k hk => hk, by
    obtain ⟨_, inner, ho, hr⟩ := h
    exact ⟨inner, ho, hr.imp_ (fun _ _ hp => flat48 hp)⟩⟩
theorem Row_move {w w' : World} {B : Nat} {v : Value} {L : List S48} (h : Row w B v L) (hm : ∀ k, v.ownBlock = some k → w'.heap[k]? = w.heap[k]?) : Row w' B v L :=
  Kd.R_mono (Kd.R_move (Row_own h) hm) (fun _ _ => trivial)
def vT (t : S48) : Value := .agg #[.int .i64 t.f0, .int .i64 t.f1, .int .i64 t.f2]
/-- a clock's block: the time, and its row -/
def Clk (T : Nat) (w : World) (B p : Nat) (v : Value) (now : Int) (L : List S48) : Prop :=
  B ≤ p ∧ w.heap[p]? = some (.cells #[.int .i64 now, v] T (0, 0)) ∧ Row w B v L
/-- nothing but block p and v's own block has turned -/
def Only (w w' : World) (p : Nat) (v : Value) : Prop :=
  w'.os = w.os ∧ w'.tape = w.tape ∧ w'.output = w.output ∧ w.heap.size ≤ w'.heap.size ∧ ∀ k, k < w.heap.size → k ≠ p → v.ownBlock ≠ some k → w'.heap[k]? = w.heap[k]?
/-- the new row lies where the elder one lay, or is new -/
def From (w : World) (v v' : Value) : Prop := ∀ k, v'.ownBlock = some k → v.ownBlock = some k ∨ w.heap.size ≤ k
theorem Only.refl (w : World) (p : Nat) (v : Value) : Only w w p v := ⟨rfl, rfl, rfl, Nat.le_refl _, fun _ _ _ _ => rfl⟩
theorem Only.ext {w w1 w2 : World} {p : Nat} {v : Value} (h : Only w w1 p v) (hb : Ext w1 w2) : Only w w2 p v :=
  ⟨hb.os.trans h.1, hb.tape.trans h.2.1, hb.output.trans h.2.2.1, Nat.le_trans h.2.2.2.1 hb.size, fun k hk hp hv => (hb.block k (Nat.lt_of_lt_of_le hk h.2.2.2.1)).trans (h.2.2.2.2 k hk hp hv)⟩
theorem Only.after {w w1 w2 : World} {p : Nat} {v : Value} (hb : Ext w w1) (h : Only w1 w2 p v) : Only w w2 p v :=
  ⟨h.1.trans hb.os, h.2.1.trans hb.tape, h.2.2.1.trans hb.output, Nat.le_trans hb.size h.2.2.2.1, fun k hk hp hv => (h.2.2.2.2 k (Nat.lt_of_lt_of_le hk hb.size) hp hv).trans (hb.block k hk)⟩
theorem Only.trans {w w1 w2 : World} {p : Nat} {v v' : Value} (h : Only w w1 p v) (hf : From w v v') (h' : Only w1 w2 p v') : Only w w2 p v :=
  ⟨h'.1.trans h.1, h'.2.1.trans h.2.1, h'.2.2.1.trans h.2.2.1, Nat.le_trans h.2.2.2.1 h'.2.2.2.1, fun k hk hp hv => (h'.2.2.2.2 k (Nat.lt_of_lt_of_le hk h.2.2.2.1) hp (fun e => by
    rcases hf k e with h1 | h1
    · exact hv h1
    · omega)).trans (h.2.2.2.2 k hk hp hv)⟩
theorem From.refl (w : World) (v : Value) : From w v v := fun _ h => .inl h
theorem From.trans {w w1 : World} {v v1 v2 : Value} (h : From w v v1) (hs : w.heap.size ≤ w1.heap.size) (h' : From w1 v1 v2) : From w v v2 := fun k hk => by
  rcases h' k hk with h1 | h1
  · exact h k h1
  · exact .inr (by omega)
theorem From.after {w w1 : World} {v v1 : Value} (hs : w.heap.size ≤ w1.heap.size) (h : From w1 v v1) : From w v v1 := fun k hk => by
  rcases h k hk with h1 | h1
  · exact .inl h1
  · exact .inr (by omega)
theorem Only.of_grown {w w' : World} {v : Value} (p : Nat) (h : w.grownBy w' v.ownBlock) : Only w w' p v :=
  ⟨h.os, h.tape, h.output, h.size, fun k hk _ hv => h.block k hk (fun e => hv e.symm)⟩
theorem Only.put {w w' : World} {p : Nat} {v : Value} (h : Only w w' p v) (j : Nat) (u : Value) : Only w (w'.setCell ⟨p, j, none⟩ u) p v := by
  obtain ⟨h1, h2, h3, h4, h5⟩ := h
  exact ⟨h1, h2, h3, by simpa [World.setCell] using h4, fun k hk hp hv => (Below.heap_setCell w' ⟨p, j, none⟩ u k hp).trans (h5 k hk hp hv)⟩
theorem Only.below {w0 w w' : World} {p B : Nat} {v : Value} (hb : Below B w0 w) (hB : B ≤ w.heap.size) (hp : B ≤ p) (hv : ∀ k, v.ownBlock = some k → B ≤ k) (h : Only w w' p v) : Below B w0 w' :=
  hb.trans ⟨h.1, h.2.1, h.2.2.1, by have := h.2.2.2.1; omega, fun k hk => h.2.2.2.2 k (by omega) (by omega) (fun e => by have := hv k e; omega)⟩
theorem Clk.cells {T : Nat} {w : World} {B p : Nat} {v : Value} {now : Int} {L : List S48} (h : Clk T w B p v now L) : w.cell? ⟨p, 0, none⟩ = some (.int .i64 now) ∧ w.cell? ⟨p, 1, none⟩ = some v := ⟨blk_cell h.2.1 0, blk_cell h.2.1 1⟩
theorem Clk.free {T : Nat} {w : World} {B p : Nat} {v : Value} {now : Int} {L : List S48} (h : Clk T w B p v now L) (j : Nat) : w.frozen? ⟨p, j, none⟩ = false := blk_frozen h.2.1 j
theorem Clk.lt {T : Nat} {w : World} {B p : Nat} {v : Value} {now : Int} {L : List S48} (h : Clk T w B p v now L) : p < w.heap.size := blk_lt h.2.1
theorem Clk.ext {T : Nat} {w w' : World} {B p : Nat} {v : Value} {now : Int} {L : List S48} (h : Clk T w B p v now L) (hb : Ext w w') : Clk T w' B p v now L :=
  ⟨h.1, (hb.block p h.lt).trans h.2.1, Kd.R_below h.2.2 hb⟩
theorem Clk.away {T : Nat} (hT : T ≠ 48) {w : World} {B p : Nat} {v : Value} {now : Int} {L : List S48} (h : Clk T w B p v now L) : v.ownBlock ≠ some p := fun e =>
  Kd.R_ne h.2.2 h.2.1 (fun e => hT e.symm) e.symm
/-- the row set anew -/
theorem Clk.row {T : Nat} {w w' : World} {B p : Nat} {v v' : Value} {now : Int} {L L' : List S48} (h : Clk T w B p v now L) (hT : T ≠ 48) (hg : w.grownBy w' v.ownBlock) (hR : Row w' B v' L') : Clk T (w'.setCell ⟨p, 1, none⟩ v') B p v' now L' := by
  have hne := h.away hT
  have hp : w'.heap[p]? = some (.cells #[.int .i64 now, v] T (0, 0)) := (hg.block p h.lt (fun e => hne e.symm)).trans h.2.1
  have hp2 := heap_setCell_same w' p 1 _ T v' hp
  refine ⟨h.1, by simpa using hp2, Row_move hR (fun k hk => Below.heap_setCell w' ⟨p, 1, none⟩ v' k (fun e => ?_))⟩
  subst e
  exact Kd.R_ne hR hp (fun e => hT e.symm) hk.symm
/-- the time set anew -/
theorem Clk.time {T : Nat} {w : World} {B p : Nat} {v : Value} {now : Int} {L : List S48} (h : Clk T w B p v now L) (hT : T ≠ 48) (t : Int) : Clk T (w.setCell ⟨p, 0, none⟩ (.int .i64 t)) B p v t L := by
  have hp2 := heap_setCell_same w p 0 _ T (.int .i64 t) h.2.1
  refine ⟨h.1, by simpa using hp2, Row_move h.2.2 (fun k hk => Below.heap_setCell w ⟨p, 0, none⟩ (.int .i64 t) k (fun e => ?_))⟩
  subst e
  exact h.away hT hk
/-- another clock, its row apart, stays -/
theorem Clk.other {T T' : Nat} {w w' : World} {B p p' : Nat} {v v' : Value} {now now' : Int} {L L' : List S48} (h : Clk T w B p v now L) (hT : T ≠ 48) (h' : Clk T' w B p' v' now' L') (hT' : T' ≠ 48) (hTT : T ≠ T')
    (hs : ∀ k, v.ownBlock = some k → v'.ownBlock ≠ some k) (ho : Only w w' p v) : Clk T' w' B p' v' now' L' := by
  have hpp : p' ≠ p := fun e => by
    subst e
    have e2 := h.2.1.symm.trans h'.2.1
    simp only [Option.some.injEq, Obj.cells.injEq] at e2
    exact hTT e2.2.1
  have h1 : v.ownBlock ≠ some p' := fun e => Kd.R_ne h.2.2 h'.2.1 (fun e => hT' e.symm) e.symm
  refine ⟨h'.1, (ho.2.2.2.2 p' h'.lt hpp h1).trans h'.2.1, Row_move h'.2.2 (fun k hk => ?_)⟩
  refine ho.2.2.2.2 k (Kd.R_lt h'.2.2 k hk) (fun e => ?_) (fun e => hs k e hk)
  subst e
  exact Kd.R_ne h'.2.2 h.2.1 (fun e => hT e.symm) hk.symm
end
section
open Go.RowKit Go.Proofs.YthfolhgaecfogaaW.PrintWords Go.Proofs.YthfolhgaecfogaaW.PrintLast Go.Proofs.YthfolhgaecfogaaW.PrintMore
/-! plain laws of rows of timers -/
def ahead (a b : S48) : Bool := decide (a.f0 < b.f0) || (decide (a.f0 = b.f0) && (decide (a.f1 < b.f1) || (decide (a.f1 = b.f1) && decide (a.f2 < b.f2))))
theorem ahead_iff {a b : S48} : ahead a b = true ↔ a.f0 < b.f0 ∨ a.f0 = b.f0 ∧ (a.f1 < b.f1 ∨ a.f1 = b.f1 ∧ a.f2 < b.f2) := by
  simp [ahead]
theorem ahead_no {a b : S48} : ahead a b = false ↔ ¬ (a.f0 < b.f0 ∨ a.f0 = b.f0 ∧ (a.f1 < b.f1 ∨ a.f1 = b.f1 ∧ a.f2 < b.f2)) := by
  rw [← ahead_iff, Bool.not_eq_true]
theorem ahead_trans {a b c : S48} (h : ahead a b = true) (k : ahead b c = true) : ahead a c = true := by
  rw [ahead_iff] at h k ⊢
  omega
theorem ahead_irrefl (a : S48) : ahead a a = false := by rw [ahead_no]; omega
theorem ahead_total {a b : S48} (h : ¬ (a.f1 = b.f1 ∧ a.f2 = b.f2)) (k : ahead a b = false) : ahead b a = true := by
  rw [ahead_no] at k
  rw [ahead_iff]
  omega
def cmpT (a b : S48) : Int := if ahead a b then -1 else if ahead b a then 1 else 0
def hitT (kind id : Int) (t : S48) : Bool := t.f1 == kind && t.f2 == id
theorem hitT_iff {kind id : Int} {t : S48} : hitT kind id t = true ↔ t.f1 = kind ∧ t.f2 = id := by simp [hitT]
theorem hitT_no {kind id : Int} {t : S48} : hitT kind id t = false ↔ ¬ (t.f1 = kind ∧ t.f2 = id) := by rw [← hitT_iff, Bool.not_eq_true]
def idxT (L : List S48) (kind id : Int) : Int := idxF (hitT kind id) L
def cutT (L : List S48) (kind id : Int) : List S48 := L.filter (fun t => !hitT kind id t)
def posT (L : List S48) (t : S48) : Nat := (L.takeWhile (fun x => ahead x t)).length
def insT (L : List S48) (t : S48) : List S48 := L.take (posT L t) ++ [t] ++ L.drop (posT L t)
def setOk (now : Int) (t : S48) : Bool := decide (now ≤ t.f0) && decide (t.f0 ≤ 4611686018427387904)
def setT (now : Int) (L : List S48) (t : S48) : List S48 := if setOk now t then insT (cutT L t.f1 t.f2) t else L
def Ordered (L : List S48) : Prop := L.Pairwise (fun a b => ahead a b = true)
def Uniq (L : List S48) : Prop := L.Pairwise (fun a b => ¬ (a.f1 = b.f1 ∧ a.f2 = b.f2))
def Good (L : List S48) : Prop := Ordered L ∧ Uniq L
theorem good_nil : Good [] := ⟨List.Pairwise.nil, List.Pairwise.nil⟩
theorem idxF_lt {α : Type} (p : α → Bool) (l : List α) : idxF p l < l.length := by
  unfold idxF
  cases h : l.findIdx? p with
  | none => simp only; omega
  | some i =>
    have := (List.findIdx?_eq_some_iff_getElem.1 h).1
    simp only; omega
theorem idxF_nat {α : Type} {p : α → Bool} {l : List α} {i : Nat} (h : idxF p l = i) : ∃ hi : i < l.length, p l[i] = true ∧ ∀ x ∈ l.take i, p x = false := by
  unfold idxF at h
  cases h1 : l.findIdx? p with
  | none => rw [h1] at h; simp only at h; omega
  | some j =>
    rw [h1] at h
    simp only at h
    obtain rfl : j = i := by omega
    obtain ⟨hi, hp, hb⟩ := List.findIdx?_eq_some_iff_getElem.1 h1
    refine ⟨hi, hp, fun x hx => ?_⟩
    obtain ⟨k, hk, rfl⟩ := List.mem_take_iff_getElem.1 hx
    have := hb k (by omega)
    simpa using this
theorem idxF_neg {α : Type} {p : α → Bool} {l : List α} (h : idxF p l < 0) : ∀ x ∈ l, p x = false := by
  unfold idxF at h
  cases h1 : l.findIdx? p with
  | none => exact fun x hx => by simpa using (List.findIdx?_eq_none_iff.1 h1) x hx
  | some j => rw [h1] at h; simp only at h; omega
theorem cutT_none {L : List S48} {kind id : Int} (h : idxT L kind id < 0) : cutT L kind id = L := by
  unfold cutT
  rw [List.filter_eq_self]
  intro x hx
  rw [idxF_neg h x hx]; rfl
theorem cutT_some {L : List S48} {kind id : Int} {i : Nat} (hu : Uniq L) (h : idxT L kind id = i) : i < L.length ∧ cutT L kind id = L.take i ++ L.drop (i + 1) := by
  obtain ⟨hi, hp, hb⟩ := idxF_nat h
  refine ⟨hi, ?_⟩
  have e : L = L.take i ++ L[i] :: L.drop (i + 1) := by
    rw [← List.drop_eq_getElem_cons hi, List.take_append_drop]
  have ha : ∀ x ∈ L.drop (i + 1), hitT kind id x = false := by
    intro x hx
    obtain ⟨j, hj, rfl⟩ := List.getElem_of_mem hx
    rw [List.getElem_drop]
    rw [List.length_drop] at hj
    have := (List.pairwise_iff_getElem.1 hu) i (i + 1 + j) hi (by omega) (by omega)
    have hp' := hitT_iff.1 hp
    rw [hitT_no]
    intro hh
    exact this ⟨hp'.1.trans hh.1.symm, hp'.2.trans hh.2.symm⟩
  have h1 : (L.take i).filter (fun t => !hitT kind id t) = L.take i := by
    rw [List.filter_eq_self]
    intro x hx
    rw [hb x hx]; rfl
  have h2 : (L.drop (i + 1)).filter (fun t => !hitT kind id t) = L.drop (i + 1) := by
    rw [List.filter_eq_self]
    intro x hx
    rw [ha x hx]; rfl
  have h3 : cutT L kind id = cutT (L.take i ++ L[i] :: L.drop (i + 1)) kind id := by rw [← e]
  rw [h3]
  unfold cutT
  rw [List.filter_append, List.filter_cons, h1, h2, hp]
  rfl
theorem cutT_good {L : List S48} (h : Good L) (kind id : Int) : Good (cutT L kind id) :=
  ⟨h.1.sublist List.filter_sublist, h.2.sublist List.filter_sublist⟩
theorem cutT_free (L : List S48) (kind id : Int) : ∀ x ∈ cutT L kind id, ¬ (x.f1 = kind ∧ x.f2 = id) := by
  intro x hx
  have := (List.mem_filter.1 hx).2
  rw [← hitT_no]
  simpa using this
theorem cutT_len (L : List S48) (kind id : Int) : (cutT L kind id).length ≤ L.length := List.length_filter_le _ _
theorem mem_cutT {L : List S48} {kind id : Int} {x : S48} : x ∈ cutT L kind id ↔ x ∈ L ∧ ¬ (x.f1 = kind ∧ x.f2 = id) := by
  unfold cutT
  rw [List.mem_filter, ← hitT_no]
  simp
theorem posT_le (L : List S48) (t : S48) : posT L t ≤ L.length := (List.takeWhile_sublist _).length_le
theorem tw_all {α : Type} {p : α → Bool} : ∀ {l : List α} {x : α}, x ∈ l.takeWhile p → p x = true
  | [], _, h => by cases h
  | y :: r, x, h => by
    cases hy : p y
    · simp [List.takeWhile_cons, hy] at h
    · simp only [List.takeWhile_cons, hy, if_true, List.mem_cons] at h
      rcases h with rfl | h
      · exact hy
      · exact tw_all h
theorem posT_below {L : List S48} {t : S48} {j : Nat} (hj : j < posT L t) : ∃ h : j < L.length, ahead L[j] t = true := by
  have hl := posT_le L t
  refine ⟨by omega, ?_⟩
  have hp : (L.takeWhile (fun x => ahead x t)) <+: L := List.takeWhile_prefix _
  have h1 : (L.takeWhile (fun x => ahead x t))[j]'hj = L[j] := hp.getElem hj
  rw [← h1]
  exact tw_all (p := fun x => ahead x t) (List.getElem_mem _)
theorem posT_at : ∀ {L : List S48} {t : S48} (h : posT L t < L.length), ahead (L[posT L t]'h) t = false
  | [], t, h => by simp [posT] at h
  | x :: r, t, h => by
    by_cases hx : ahead x t = true
    · have e : posT (x :: r) t = posT r t + 1 := by simp [posT, List.takeWhile_cons, hx]
      have h' : posT r t < r.length := by rw [e] at h; simpa using h
      have := posT_at (L := r) (t := t) h'
      simp only [e, List.getElem_cons_succ]
      exact this
    · have e : posT (x :: r) t = 0 := by simp [posT, List.takeWhile_cons, hx]
      simp only [e, List.getElem_cons_zero]
      simpa using hx
theorem posT_above {L : List S48} {t : S48} (ho : Ordered L) {j : Nat} (hj : posT L t ≤ j) (h : j < L.length) : ahead L[j] t = false := by
  rcases Nat.eq_or_lt_of_le hj with e | e
  · subst e; exact posT_at h
  · have h1 := posT_at (L := L) (t := t) (by omega)
    have h2 := (List.pairwise_iff_getElem.1 ho) (posT L t) j (by omega) h e
    rw [← Bool.not_eq_true]
    intro h3
    rw [ahead_trans h2 h3] at h1
    cases h1
theorem mem_insT {L : List S48} {t x : S48} : x ∈ insT L t ↔ x = t ∨ x ∈ L := by
  unfold insT
  rw [List.mem_append, List.mem_append, List.mem_singleton]
  have : x ∈ L ↔ x ∈ L.take (posT L t) ∨ x ∈ L.drop (posT L t) := by rw [← List.mem_append, List.take_append_drop]
  rw [this]
  constructor
  · rintro ((h | h) | h)
    · exact .inr (.inl h)
    · exact .inl h
    · exact .inr (.inr h)
  · rintro (h | h | h)
    · exact .inl (.inr h)
    · exact .inl (.inl h)
    · exact .inr h
theorem insT_len (L : List S48) (t : S48) : (insT L t).length = L.length + 1 := by
  have := posT_le L t
  simp [insT]; omega
theorem insT_good {L : List S48} {t : S48} (h : Good L) (hn : ∀ x ∈ L, ¬ (x.f1 = t.f1 ∧ x.f2 = t.f2)) : Good (insT L t) := by
  have hlo : ∀ x ∈ L.take (posT L t), ahead x t = true := by
    intro x hx
    obtain ⟨j, hj, rfl⟩ := List.mem_take_iff_getElem.1 hx
    exact (posT_below (by omega)).2
  have hhi : ∀ x ∈ L.drop (posT L t), ahead t x = true := by
    intro x hx
    have hm := List.mem_of_mem_drop hx
    obtain ⟨j, hj, rfl⟩ := List.getElem_of_mem hx
    rw [List.length_drop] at hj
    rw [List.getElem_drop] at hm ⊢
    exact ahead_total (hn _ hm) (posT_above h.1 (by omega) (by omega))
  have hmid : ∀ x ∈ L.take (posT L t), ∀ y ∈ L.drop (posT L t), ahead x y = true := fun x hx y hy => ahead_trans (hlo x hx) (hhi y hy)
  constructor
  · unfold Ordered insT
    rw [List.append_assoc, List.pairwise_append]
    refine ⟨h.1.sublist (List.take_sublist _ _), ?_, ?_⟩
    · rw [List.singleton_append, List.pairwise_cons]
      exact ⟨hhi, h.1.sublist (List.drop_sublist _ _)⟩
    · intro x hx y hy
      rcases List.mem_append.1 hy with e | e
      · rw [List.mem_singleton.1 e]; exact hlo x hx
      · exact hmid x hx y e
  · unfold Uniq insT
    rw [List.append_assoc, List.pairwise_append]
    refine ⟨h.2.sublist (List.take_sublist _ _), ?_, ?_⟩
    · rw [List.singleton_append, List.pairwise_cons]
      refine ⟨fun x hx hh => hn x (List.mem_of_mem_drop hx) ⟨hh.1.symm, hh.2.symm⟩, h.2.sublist (List.drop_sublist _ _)⟩
    · intro x hx y hy
      rcases List.mem_append.1 hy with e | e
      · rw [List.mem_singleton.1 e]; exact hn x (List.mem_of_mem_take hx)
      · have h2 := h.2
        unfold Uniq at h2
        rw [← List.take_append_drop (posT L t) L, List.pairwise_append] at h2
        exact h2.2.2 x hx y e
theorem setT_good {now : Int} {L : List S48} (h : Good L) (t : S48) : Good (setT now L t) := by
  unfold setT
  split
  · exact insT_good (cutT_good h _ _) (cutT_free L _ _)
  · exact h
theorem setT_len (now : Int) (L : List S48) (t : S48) : (setT now L t).length ≤ L.length + 1 := by
  unfold setT
  split
  · rw [insT_len]; have := cutT_len L t.f1 t.f2; omega
  · omega
/-! going on -/
def nextOk (L : List S48) (u : Int) : Bool := match L with | [] => false | x :: _ => decide (x.f0 ≤ u)
def nextL (L : List S48) (u : Int) : List S48 := if nextOk L u then L.drop 1 else L
def nextT (L : List S48) (u : Int) : S48 := if nextOk L u then L.getD 0 z48 else z48
def nextN (now : Int) (L : List S48) (u : Int) : Int := if nextOk L u then (L.getD 0 z48).f0 else now
def goOk (now : Int) (L : List S48) (u : Int) : Bool := decide (now ≤ u) && decide (u ≤ 4611686018427387904) && !nextOk L u
def atV (L : List S48) (kind id : Int) : Int := if 0 ≤ idxT L kind id then (L.getD (idxT L kind id).toNat z48).f0 else 0
theorem nextL_good {L : List S48} (h : Good L) (u : Int) : Good (nextL L u) := by
  unfold nextL
  split
  · exact ⟨h.1.sublist (List.drop_sublist _ _), h.2.sublist (List.drop_sublist _ _)⟩
  · exact h
theorem nextL_len (L : List S48) (u : Int) : (nextL L u).length ≤ L.length := by
  unfold nextL
  split
  · rw [List.length_drop]; omega
  · omega
theorem next_nil (u : Int) : nextOk [] u = false := rfl
theorem next_yes {L : List S48} {u : Int} (h : nextOk L u = true) : ∃ h0 : 0 < L.length, L[0].f0 ≤ u := by
  cases L with
  | nil => cases h
  | cons x r => exact ⟨by simp, by simpa [nextOk] using h⟩
theorem next_no {L : List S48} {u : Int} (h : nextOk L u = false) (h0 : 0 < L.length) : u < L[0].f0 := by
  cases L with
  | nil => simp at h0
  | cons x r => simpa [nextOk] using h
end
section
open Go.RowKit Go.Proofs.YthfolhgaecfogaaW.PrintWords Go.Proofs.YthfolhgaecfogaaW.PrintLast Go.Proofs.YthfolhgaecfogaaW.PrintMore
def Ins48 (w : World) (B : Nat) (v : Value) (n i : Nat) (xs x : List Value) : Ending → World → Prop := fun e w' => ∃ v', e = .returned v' ∧ w'.ownsRow B 48 3 v' (n + 1) (xs.take (i * 3) ++ x ++ xs.drop (i * 3)) ∧ w.grownBy w' v.ownBlock ∧ (v'.ownBlock = v.ownBlock ∨ ∃ b, v'.ownBlock = some b ∧ w.heap.size ≤ b)
theorem ovl48 (w : World) (b2 g off n c lb cb : Nat) (x cur : List Value) (hb2 : w.heap[b2]? = some (.cells x.toArray 48 (0, 0))) (hg : w.heap[g]? = some (.cells cur.toArray 48 (0, 0))) (hne : b2 ≠ g) (hc : cur.length ≠ 0) :
    (callFunc 75 #[.slice (some ⟨b2, 0, none⟩) n c, .slice (some ⟨g, off, none⟩) lb cb]).run Try.prog w = .ok (.value (.bool false)) w := by
  rw [run_callFunc_extern (P := Try.prog) (f := 75) Try.func75 (by kernel_rfl) (by kernel_rfl) (by kernel_rfl) (e := Extern.SlicesOverlaps.overlaps #[59, 59] #[4]) (by kernel_rfl),
    Lib.run_overlaps_apart w 59 4 48 Try.underlying59 3 (fun w => by
      obtain ⟨i0, hi, hzz⟩ := Option.map_eq_some_iff.1 info48
      simp only [Prod.mk.injEq] at hzz
      simp [sizeOf, typeInfo, hi, hzz.2.1]) ⟨b2, 0, none⟩ ⟨g, off, none⟩ n c lb cb hne 48 48 x.toArray.size cur.toArray.size (by simp [World.shape?, hb2]) (by simp [World.shape?, hg]) (by simpa using hc) (blk_frozen hb2 _) (blk_frozen hb2 _)]
  rfl
set_option maxRecDepth 100000 in
set_option maxHeartbeats 1000000 in
theorem ins_end48 (v : Value) (n : Nat) (xs x : List Value) (b2 : Nat) (w : World) (B : Nat) (hB : B ≤ w.heap.size) (hown : w.ownsRow B 48 3 v n xs) (hn : n ≤ 8388608)
    (hb2 : w.heap[b2]? = some (.cells x.toArray 48 (0, 0))) (hx : x.length = 3) (h1x : ∀ u ∈ x, u.oneCell' = true) :
    Calls Try.prog 57 #[v, .int .i64 n, .slice (some ⟨b2, 0, none⟩) 1 1] w (Ins48 w B v n n xs x) := by
  obtain ⟨i0, hi, hzz⟩ := Option.map_eq_some_iff.1 info48
  simp only [Prod.mk.injEq] at hzz
  obtain ⟨v1, w1, hr, hown1, hg1, _, hat⟩ := Go.run_append_own_at (P := Try.prog) w B 59 59 48 i0 _ 3 24 Try.underlying59 hi hzz.1 hzz.2.1 hzz.2.2 (by rfl) (by decide) v n xs hown ⟨b2, 0, none⟩ 1 1 x (by rw [hx]) (World.news_of_block (cs := x.toArray) (t := 48) (fr := (0, 0)) (by simpa using hb2)) h1x (by simp only [maxLen]; omega) (by omega) hB
  have hl : xs.length = n * 3 := hown.1
  have hfin : xs.take (n * 3) ++ x ++ xs.drop (n * 3) = xs ++ x := by rw [← hl]; simp
  have hR := Lib.hid hr
  have hn0 : (decide ((n : Int) = (n : Int))) = true := by simp
  rcases hown.2 with ⟨rfl, rfl⟩ | ⟨g, cap, cur, rfl, hbg, hg, hnc, hcm, hcs, htake⟩
  · clear hown hr
    go_enter Try.func57, Try.ntmps57
    go_wp2_with (at_builtin; refine Lib.wpList_append_run _ rfl _ _ _ _ rfl _ _ rfl rfl _ _ hR.out ?_)
    go_ret
    exact ⟨_, rfl, by rw [hfin]; exact hown1, hg1, by rcases hat with h | h; exact .inl h; exact .inr ⟨_, h, Nat.le_refl _⟩⟩
  · clear hown hr
    go_enter Try.func57, Try.ntmps57
    go_wp2_with (at_builtin; refine Lib.wpList_append_run _ rfl _ _ _ _ rfl _ _ rfl rfl _ _ hR.out ?_)
    all_goals (go_ret; exact ⟨_, rfl, by rw [hfin]; exact hown1, hg1, by rcases hat with h | h; exact .inl h; exact .inr ⟨_, h, Nat.le_refl _⟩⟩)
set_option maxRecDepth 100000 in
set_option maxHeartbeats 1000000 in
theorem ins_shift48 (g n c i : Nat) (xs cur x : List Value) (b2 : Nat) (w : World) (B : Nat) (hbg : B ≤ g) (hg : w.heap[g]? = some (.cells cur.toArray 48 (0, 0))) (hi : i < n) (hnc : n + 1 ≤ c) (hcm : c ≤ 9223372036854775807) (hcs : cur.length = c * 3) (htake : cur.take (n * 3) = xs) (hn : n ≤ 8388608) (h1 : ∀ u ∈ xs, u.oneCell' = true)
    (hb2 : w.heap[b2]? = some (.cells x.toArray 48 (0, 0))) (hx : x.length = 3) (h1x : ∀ u ∈ x, u.oneCell' = true) (hne : b2 ≠ g) :
    Calls Try.prog 57 #[.slice (some ⟨g, 0, none⟩) n c, .int .i64 i, .slice (some ⟨b2, 0, none⟩) 1 1] w (Ins48 w B (.slice (some ⟨g, 0, none⟩) n c) n i xs x) := by
  have hsz : (Try.prog.info? 48).map (·.size) = some 3 := by
    obtain ⟨i0, hi, hzz⟩ := Option.map_eq_some_iff.1 info48
    simp only [Prod.mk.injEq] at hzz
    rw [hi]; simp [hzz.2.1]
  have hcn : c * 3 = cur.length := hcs.symm
  have hcn1 : (n + 1) * 3 ≤ cur.length := by rw [hcs]; exact Nat.mul_le_mul_right _ hnc
  obtain ⟨T, hT⟩ : ∃ T, T = (cur.drop (i * 3)).take ((n - i) * 3) := ⟨_, rfl⟩
  have hTl : T.length = (n - i) * 3 := by
    rw [hT, List.length_take, List.length_drop]
    omega
  have hT1 : ∀ u ∈ T, u.oneCell' = true := by
    intro u hu
    refine h1 u ?_
    rw [← htake]
    rw [hT] at hu
    have : cur.take (n * 3) = cur.take (i * 3) ++ (cur.drop (i * 3)).take ((n - i) * 3) := by
      have : n * 3 = i * 3 + (n - i) * 3 := by omega
      rw [this, List.take_add]
    rw [this]
    exact List.mem_append_right _ hu
  have hov : ∀ off lb cb, (callFunc 75 #[.slice (some ⟨b2, 0, none⟩) 1 1, .slice (some ⟨g, off, none⟩) lb cb]).run Try.prog w = .ok (.value (.bool false)) w := fun off lb cb => ovl48 w b2 g off 1 1 lb cb x cur hb2 hg hne (by omega)
  have hcA : ∀ (W : World), W.heap = w.heap → ∀ ty dc sc, (Builtin.copy_ #[59, 59] ty #[.slice (some ⟨g, (i + 1) * 3, none⟩) (n - i) dc, .slice (some ⟨g, i * 3, none⟩) (n + 1 - i) sc]).run Try.prog W = .ok (goInt ((n - i : Nat) : Int)) (W.setRow g (over cur ((i + 1) * 3) T).toArray) := fun W hW ty dc sc =>
    run_copy_at W 59 59 ty 48 3 g ((i + 1) * 3) (n - i) dc ⟨g, i * 3, none⟩ (n + 1 - i) sc cur 48 T (n - i) Try.underlying59 hsz (by rw [hW]; exact hg) (by simp only [Nat.min_def]; split <;> omega) hTl
      (fun j u hj => by
        have hjl : j < T.length := (List.getElem?_eq_some_iff.1 hj).1
        rw [Addr.add_lit, cell_of_row W g _ cur.toArray 48 (0, 0) (by rw [hW]; exact hg), ← hj, hT, List.getElem?_take, if_pos (by omega), List.getElem?_drop]
        simp) (by omega) hT1
  have hcB : ∀ (W : World), W.heap = (w.setRow g (over cur ((i + 1) * 3) T).toArray).heap → ∀ ty dc, (Builtin.copy_ #[59, 59] ty #[.slice (some ⟨g, i * 3, none⟩) (n + 1 - i) dc, .slice (some ⟨b2, 0, none⟩) 1 1]).run Try.prog W = .ok (goInt ((1 : Nat) : Int)) (W.setRow g (over (over cur ((i + 1) * 3) T) (i * 3) x).toArray) := fun W hW ty dc =>
    run_copy_at W 59 59 ty 48 3 g (i * 3) (n + 1 - i) dc ⟨b2, 0, none⟩ 1 1 (over cur ((i + 1) * 3) T) 48 x 1 Try.underlying59 hsz (by rw [hW]; exact setRow_heap w g _ _ 48 _ hg) (by simp only [Nat.min_def]; split <;> omega) (by rw [hx])
      (fun j u hj => by
        rw [Addr.add_lit, Nat.zero_add, cell_of_row W b2 j x.toArray 48 (0, 0) (by rw [hW, setRow_other w g b2 _ hne]; exact hb2), ← hj]
        simp) (by rw [over_length _ _ _ (by omega)]; omega) h1x
  have hfin := over_insert cur n i 3 x hx (by omega) hcn1
  rw [← hT, htake] at hfin
  have hlen2 : (over (over cur ((i + 1) * 3) T) (i * 3) x).length = c * 3 := by
    rw [over_length _ _ _ (by rw [over_length _ _ _ (by omega)]; omega), over_length _ _ _ (by omega), hcs]
  obtain ⟨R1, hR1⟩ : ∃ R1, R1 = over cur ((i + 1) * 3) T := ⟨_, rfl⟩
  rw [← hR1] at hcA hcB hfin hlen2
  obtain ⟨R2, hR2⟩ : ∃ R2, R2 = over R1 (i * 3) x := ⟨_, rfl⟩
  rw [← hR2] at hcB hfin hlen2
  have hxl : (xs.take (i * 3) ++ x ++ xs.drop (i * 3)).length = (n + 1) * 3 := by rw [← hfin, List.length_take, hlen2]; omega
  have hw1 : IntKind.i64.wrap ((i : Int) + 1) = (i : Int) + 1 := by rw [IntKind.wrap_i64]; omega
  have hw2 : IntKind.i64.wrap ((n : Int) + 1) = (n : Int) + 1 := by rw [IntKind.wrap_i64]; omega
  have hb1 : (0 : Int) ≤ (i : Int) + 1 := by omega
  have hz2 : ¬ ((i : Int) = (n : Int)) := by omega
  have hz2' : decide ((i : Int) = (n : Int)) = false := by simpa using hz2
  have hin : i ≤ n := by omega
  have hb3 : (i : Int) ≤ (n : Int) + 1 := by omega
  have mixed : Try.prog.follows Departure.mixedOrders = true := by kernel_rfl
  have htn : ((i : Int) + 1).toNat = i + 1 := by omega
  have htn2 : ((n : Int) + 1).toNat = n + 1 := by omega
  have hb2c : ¬ (c = i + 1) := by omega
  have hb4 : ¬ (c = i) := by omega
  have hAov := Lib.hid hov
  have HT := Lib.hid hT
  have HG := Lib.hid hg
  clear hT hov hR1 hR2 htake hcn hcs
  go_enter Try.func57, Try.ntmps57
  go_wp2_with (simp only [hAov.out])
  go_region_law_o (refine step_copy_runI rfl _ _ 59 59 rfl (.slice (some ⟨g, (i + 1) * 3, none⟩) (n - i) (c - (i + 1))) (.slice (some ⟨g, i * 3, none⟩) (n + 1 - i) (c - i)) (by simp [Act.eval, Act.put]) (by simp [Act.eval, Act.put]) (hcA w.drew rfl 3 (c - (i + 1)) (c - i)) ?_)
  have hcB0 := hcB (w.drew.setRow g R1.toArray) rfl 3 (c - i)
  go_wp2_with (at_builtin; refine wpList_copy_runI _ rfl _ _ 59 59 rfl _ _ rfl rfl hcB0 ?_)
  go_ret
  refine ⟨_, rfl, ⟨hxl, .inr ⟨g, c, R2.toArray, rfl, hbg, ?_, hnc, by simp only [maxLen]; omega, by simpa using hlen2, by simpa using hfin⟩⟩, ?_, .inl rfl⟩
  · exact setRow_heap _ g _ _ 48 _ (setRow_heap _ g _ _ 48 _ HG.out)
  · exact grown_setRow (grown_setRow (grown_drew (grown_refl _ _)) _) _
set_option maxRecDepth 100000 in
set_option maxHeartbeats 1000000 in
theorem ins_grow48 (g n c i : Nat) (xs cur x : List Value) (b2 : Nat) (w : World) (B : Nat) (hB : B ≤ w.heap.size) (hbg : B ≤ g) (hg : w.heap[g]? = some (.cells cur.toArray 48 (0, 0))) (hi : i < n) (hnc : n ≤ c) (hroom : c < n + 1) (hcs : cur.length = c * 3) (htake : cur.take (n * 3) = xs) (hn : n ≤ 8388608) (h1 : ∀ u ∈ xs, u.oneCell' = true)
    (hb2 : w.heap[b2]? = some (.cells x.toArray 48 (0, 0))) (hx : x.length = 3) (h1x : ∀ u ∈ x, u.oneCell' = true) (hne : b2 ≠ g) :
    Calls Try.prog 57 #[.slice (some ⟨g, 0, none⟩) n c, .int .i64 i, .slice (some ⟨b2, 0, none⟩) 1 1] w (Ins48 w B (.slice (some ⟨g, 0, none⟩) n c) n i xs x) := by
  obtain ⟨i0, hi0, hzz⟩ := Option.map_eq_some_iff.1 info48
  simp only [Prod.mk.injEq] at hzz
  obtain ⟨hz0, hzs, hzb⟩ := hzz
  have hsz : (Try.prog.info? 48).map (·.size) = some 3 := by rw [hi0]; simp [hzs]
  have hcl : cur.length = n * 3 := by rw [hcs, show c = n by omega]
  have hxc : cur = xs := by rw [← htake, ← hcl, List.take_length]
  subst hxc
  have hgw : g < w.heap.size := (Array.getElem?_eq_some_iff.1 hg).1
  have hbw : b2 < w.heap.size := (Array.getElem?_eq_some_iff.1 hb2).1
  have hAl : (cur.take (i * 3)).length = i * 3 := by rw [List.length_take]; omega
  have hTl : (cur.drop (i * 3)).length = (n - i) * 3 := by rw [List.length_drop]; omega
  have hold : (Builtin.firstCells i0.size i (.slice (some ⟨g, 0, none⟩) i c)).run Try.prog w.drew = .ok (cur.take (i * 3)).toArray w.drew := by
    rw [hzs]
    exact run_firstCells_some w.drew 3 i ⟨g, 0, none⟩ i c (cur.take (i * 3)) hAl (fun j v hj => by
      have hjl : j < (cur.take (i * 3)).length := (List.getElem?_eq_some_iff.1 hj).1
      rw [Addr.add_lit, Nat.zero_add]
      show w.cell? ⟨g, j, none⟩ = _
      rw [cell_of_row w g _ cur.toArray 48 (0, 0) hg, ← hj, List.getElem?_take, if_pos (by omega)]
      simp)
  have hrz := Lib.run_append_grow_zeros (P := Try.prog) w 59 3 59 48 i0 _ .i64 .i64 Try.underlying59 Try.underlying3 hi0 hz0 (some ⟨g, 0, none⟩) i c (cur.take (i * 3)) hold (n + 1 - i) (by omega) (by omega) (by omega) (by omega) (by rw [hzb]; omega) (by rw [hzb, show i + (n + 1 - i) = n + 1 by omega]; exact growslice_fits (by omega) (by omega))
  rw [show i + (n + 1 - i) = n + 1 by omega] at hrz
  obtain ⟨G, hG⟩ : ∃ G, G = grownCap w (n + 1) c 48 := ⟨_, rfl⟩
  have hGn : n + 1 ≤ G := by rw [hG]; exact grownCap_ge w _ _ _
  have hG63 : G ≤ maxLen := by rw [hG]; exact grownCap_le_maxLen w (n + 1) c 48 (by unfold maxLen; omega)
  have hG63' : G ≤ 9223372036854775807 := by unfold maxLen at hG63; omega
  rw [← hG] at hrz
  obtain ⟨Z, hZ⟩ : ∃ Z : Array Value, Z = Builtin.zeroCells (Value.cells (.agg #[.int .i64 0, .int .i64 0, .int .i64 0])) (n + 1 - i) := ⟨_, rfl⟩
  obtain ⟨D, hD⟩ : ∃ D : Array Value, D = Builtin.zeroCells (Value.cells (.agg #[.int .i64 0, .int .i64 0, .int .i64 0])) (G - (n + 1)) := ⟨_, rfl⟩
  have hZl : Z.toList.length = (n + 1 - i) * 3 := by rw [hZ, Array.length_toList, size_zeroCells]; rfl
  have hDl : D.toList.length = (G - (n + 1)) * 3 := by rw [hD, Array.length_toList, size_zeroCells]; rfl
  rw [← hZ, ← hD] at hrz
  obtain ⟨R0, hR0⟩ : ∃ R0, R0 = cur.take (i * 3) ++ Z.toList ++ D.toList := ⟨_, rfl⟩
  have hR0a : (cur.take (i * 3)).toArray ++ Z ++ D = R0.toArray := by rw [hR0]; apply Array.ext'; simp
  rw [hR0a] at hrz
  have hR0l : R0.length = G * 3 := by rw [hR0, List.length_append, List.length_append, hAl, hZl, hDl]; omega
  obtain ⟨W1, hW1⟩ : ∃ W1, W1 = w.drew.alloc (.cells R0.toArray 48) := ⟨_, rfl⟩
  have hW1n : W1.heap[w.heap.size]? = some (.cells R0.toArray 48 (0, 0)) := by rw [hW1]; exact heap_alloc_new w.drew _
  have hW1o : ∀ k, k < w.heap.size → W1.heap[k]? = w.heap[k]? := fun k hk => by rw [hW1]; exact heap_alloc_old w.drew _ hk
  have hcA : ∀ (W : World), W.heap = W1.heap → ∀ ty dc, (Builtin.copy_ #[59, 59] ty #[.slice (some ⟨w.heap.size, i * 3, none⟩) (n + 1 - i) dc, .slice (some ⟨b2, 0, none⟩) 1 1]).run Try.prog W = .ok (goInt ((1 : Nat) : Int)) (W.setRow w.heap.size (over R0 (i * 3) x).toArray) := fun W hW ty dc =>
    run_copy_at W 59 59 ty 48 3 w.heap.size (i * 3) (n + 1 - i) dc ⟨b2, 0, none⟩ 1 1 R0 48 x 1 Try.underlying59 hsz (by rw [hW]; exact hW1n) (by simp only [Nat.min_def]; split <;> omega) (by rw [hx])
      (fun j u hj => by
        rw [Addr.add_lit, Nat.zero_add, cell_of_row W b2 j x.toArray 48 (0, 0) (by rw [hW, hW1o b2 hbw]; exact hb2), ← hj]
        simp) (by rw [hR0l]; omega) h1x
  have hcB : ∀ (W : World), W.heap = (W1.setRow w.heap.size (over R0 (i * 3) x).toArray).heap → ∀ ty dc sc, (Builtin.copy_ #[59, 59] ty #[.slice (some ⟨w.heap.size, (i + 1) * 3, none⟩) (n - i) dc, .slice (some ⟨g, i * 3, none⟩) (n - i) sc]).run Try.prog W = .ok (goInt ((n - i : Nat) : Int)) (W.setRow w.heap.size (over (over R0 (i * 3) x) ((i + 1) * 3) (cur.drop (i * 3))).toArray) := fun W hW ty dc sc =>
    run_copy_at W 59 59 ty 48 3 w.heap.size ((i + 1) * 3) (n - i) dc ⟨g, i * 3, none⟩ (n - i) sc (over R0 (i * 3) x) 48 (cur.drop (i * 3)) (n - i) Try.underlying59 hsz (by rw [hW]; exact setRow_heap W1 _ _ _ 48 _ hW1n) (by simp) hTl
      (fun j u hj => by
        rw [Addr.add_lit, cell_of_row W g _ cur.toArray 48 (0, 0) (by rw [hW, setRow_other W1 _ g _ (by omega), hW1o g hgw]; exact hg), ← hj, List.getElem?_drop]
        simp) (by rw [over_length _ _ _ (by rw [hR0l]; omega)]; omega) (fun u hu => h1 u (List.mem_of_mem_drop hu))
  have hfin : over (over R0 (i * 3) x) ((i + 1) * 3) (cur.drop (i * 3)) = cur.take (i * 3) ++ x ++ cur.drop (i * 3) ++ D.toList := by
    rw [hR0, show (i + 1) * 3 = i * 3 + 3 by omega]
    exact over_filled _ _ _ _ _ _ _ hAl hx (by rw [hZl, hTl]; omega)
  obtain ⟨R1, hR1⟩ : ∃ R1, R1 = over R0 (i * 3) x := ⟨_, rfl⟩
  rw [← hR1] at hcA hcB hfin
  obtain ⟨R2, hR2⟩ : ∃ R2, R2 = over R1 ((i + 1) * 3) (cur.drop (i * 3)) := ⟨_, rfl⟩
  rw [← hR2] at hcB hfin
  have hxl : (cur.take (i * 3) ++ x ++ cur.drop (i * 3)).length = (n + 1) * 3 := by rw [List.length_append, List.length_append, hAl, hTl, hx]; omega
  have hR2l : R2.length = G * 3 := by rw [hfin, List.length_append, hxl, hDl]; omega
  have hR2t : R2.take ((n + 1) * 3) = cur.take (i * 3) ++ x ++ cur.drop (i * 3) := by rw [hfin, ← hxl, List.take_left]
  have hw1 : IntKind.i64.wrap ((i : Int) + 1) = (i : Int) + 1 := by rw [IntKind.wrap_i64]; omega
  have hw2 : IntKind.i64.wrap ((n : Int) + 1) = (n : Int) + 1 := by rw [IntKind.wrap_i64]; omega
  have hw3 : IntKind.i64.wrap ((n : Int) + 1 - (i : Int)) = ((n + 1 - i : Nat) : Int) := by rw [IntKind.wrap_i64]; omega
  have hb1 : (0 : Int) ≤ (i : Int) + 1 := by omega
  have hb3 : (i : Int) ≤ (n : Int) + 1 := by omega
  have hin : i ≤ n := by omega
  have hz2 : ¬ ((i : Int) = (n : Int)) := by omega
  have hz3 : (c : Int) < (n : Int) + 1 := by omega
  have htn : ((i : Int) + 1).toNat = i + 1 := by omega
  have hGi : ¬ (G = i) := by omega
  have hGi1 : ¬ (G = i + 1) := by omega
  have hci : ¬ (c = i) := by omega
  have mixed : Try.prog.follows Departure.mixedOrders = true := by kernel_rfl
  rw [← hW1] at hrz
  have hcA0 := hcA W1 rfl 3 (G - i)
  have hcB0 := hcB (W1.setRow w.heap.size R1.toArray).drew rfl 3 (G - (i + 1)) (c - i)
  have hRZ := Lib.hid hrz
  have HW1 := Lib.hid hW1
  have HW1n := Lib.hid hW1n
  have HW1o := Lib.hid hW1o
  clear hR1 hR2 hR0 hR0a hG hZ hD htake hrz hW1 hW1n hW1o hfin hcA hcB hg hb2
  go_enter Try.func57, Try.ntmps57
  go_wp2_with (first
    | (at_builtin; refine Lib.wpList_append_run _ rfl _ _ _ _ rfl _ _ rfl rfl _ _ hRZ.out ?_)
    | (at_builtin; refine wpList_copy_runI _ rfl _ _ 59 59 rfl _ _ rfl rfl hcA0 ?_))
  go_region_law_o (refine step_copy_runI rfl _ _ 59 59 rfl (.slice (some ⟨w.heap.size, (i + 1) * 3, none⟩) (n - i) (G - (i + 1))) (.slice (some ⟨g, i * 3, none⟩) (n - i) (c - i)) (by simp [Act.eval, Act.put]) (by simp [Act.eval, Act.put]) hcB0 ?_)
  go_wp2
  go_ret
  have hsz1 : W1.heap.size = w.heap.size + 1 := by rw [HW1.out]; simp
  have hgr : w.grownBy W1 (some g) := by rw [HW1.out]; exact ⟨rfl, rfl, rfl, by simp, fun k hk _ => heap_alloc_old w.drew _ hk⟩
  refine ⟨_, rfl, ⟨hxl, .inr ⟨w.heap.size, G, R2.toArray, rfl, hB, ?_, hGn, hG63, by simpa using hR2l, by simpa using hR2t⟩⟩, ?_, .inr ⟨_, rfl, Nat.le_refl _⟩⟩
  · exact setRow_heap _ _ _ _ 48 _ (setRow_heap W1 _ _ _ 48 _ HW1n.out)
  · exact grown_new (grown_drew (grown_new hgr (Nat.le_refl _) _)) (Nat.le_refl _) _
theorem insert48 (v : Value) (n i : Nat) (xs x : List Value) (b2 : Nat) (w : World) (B : Nat) (hB : B ≤ w.heap.size) (hown : w.ownsRow B 48 3 v n xs) (hi : i ≤ n) (hn : n ≤ 8388608) (h1 : ∀ u ∈ xs, u.oneCell' = true)
    (hb2 : w.heap[b2]? = some (.cells x.toArray 48 (0, 0))) (hx : x.length = 3) (h1x : ∀ u ∈ x, u.oneCell' = true) (hne : some b2 ≠ v.ownBlock) :
    Calls Try.prog 57 #[v, .int .i64 i, .slice (some ⟨b2, 0, none⟩) 1 1] w (Ins48 w B v n i xs x) := by
  by_cases he : i = n
  · subst he
    exact ins_end48 v i xs x b2 w B hB hown hn hb2 hx h1x
  · rcases hown.2 with ⟨rfl, rfl⟩ | ⟨g, cap, cur, rfl, hbg, hg, hnc, hcm, hcs, htake⟩
    · omega
    · have hne' : b2 ≠ g := fun e => hne (by rw [e]; rfl)
      have hg' : w.heap[g]? = some (.cells cur.toList.toArray 48 (0, 0)) := by simpa using hg
      by_cases hroom : n + 1 ≤ cap
      · exact ins_shift48 g n cap i xs cur.toList x b2 w B hbg hg' (by omega) hroom (by simpa only [maxLen] using hcm) (by simpa using hcs) htake hn h1 hb2 hx h1x hne'
      · exact ins_grow48 g n cap i xs cur.toList x b2 w B hB hbg hg' (by omega) hnc (by omega) (by simpa using hcs) htake hn h1 hb2 hx h1x hne'
end
section
open Go.RowKit Go.Proofs.YthfolhgaecfogaaW.PrintWords Go.Proofs.YthfolhgaecfogaaW.PrintLast Go.Proofs.YthfolhgaecfogaaW.PrintMore
theorem run_clear_at48 (w : World) (ty : TypeId) (g off c : Nat) (cur : List Value) (hg : w.heap[g]? = some (.cells cur.toArray 48 (0, 0))) (hfit : off + 3 ≤ cur.length) :
    (Builtin.clear_ #[59] ty #[.slice (some ⟨g, off, none⟩) 1 c]).run Try.prog w = .ok (.tuple #[]) (w.setRow g (over cur off (Value.cells (.agg #[.int .i64 0, .int .i64 0, .int .i64 0])).toList).toArray) := by
  obtain ⟨i0, hi0, hzz⟩ := Option.map_eq_some_iff.1 info48
  simp only [Prod.mk.injEq] at hzz
  obtain ⟨hz0, hzs, hzb⟩ := hzz
  have hv : (zeroValue 48).run Try.prog w = .ok (.agg #[.int .i64 0, .int .i64 0, .int .i64 0]) w := by simp [zeroValue, typeInfo, hi0, hz0]
  have hzc : (Builtin.zeroCells (Value.cells (.agg #[.int .i64 0, .int .i64 0, .int .i64 0])) 1).toList = (Value.cells (.agg #[.int .i64 0, .int .i64 0, .int .i64 0])).toList := by kernel_rfl
  have hst := run_storeCells_at Try.prog g off 48 (Value.cells (.agg #[.int .i64 0, .int .i64 0, .int .i64 0])).toList 0 cur.toArray w hg (by simp only [Nat.add_zero]; exact hfit) (by decide)
  simp only [Nat.add_zero] at hst
  obtain ⟨Zc, hZc⟩ : ∃ Zc, Zc = (Value.cells (.agg #[.int .i64 0, .int .i64 0, .int .i64 0])).toList := ⟨_, rfl⟩
  rw [← hZc] at hst hzc ⊢
  simp [Builtin.clear_, run_underlying Try.underlying59, hv, hzc, hst, over]
set_option maxRecDepth 100000 in
set_option maxHeartbeats 1000000 in
theorem delete48 (v : Value) (n i : Nat) (xs : List Value) (w : World) (B : Nat) (hown : w.ownsRow B 48 3 v n xs) (hi : i < n) (hn : n ≤ 8388608) (h1 : ∀ u ∈ xs, u.oneCell' = true) :
    Calls Try.prog 60 #[v, .int .i64 i, .int .i64 ((i : Int) + 1)] w fun e w' => ∃ v', e = .returned v' ∧ w'.ownsRow B 48 3 v' (n - 1) (xs.take (i * 3) ++ xs.drop ((i + 1) * 3)) ∧ w.grownBy w' v.ownBlock ∧ v'.ownBlock = v.ownBlock := by
  rcases hown.2 with ⟨rfl, rfl⟩ | ⟨g, c, cura, rfl, hbg, hg0, hnc, hcm0, hcs0, htake⟩
  · omega
  obtain ⟨cur, hcur⟩ : ∃ cur, cur = cura.toList := ⟨_, rfl⟩
  have hg : w.heap[g]? = some (.cells cur.toArray 48 (0, 0)) := by rw [hcur]; simpa using hg0
  have hcs : cur.length = c * 3 := by rw [hcur]; simpa using hcs0
  rw [← hcur] at htake
  have hcm : c ≤ 9223372036854775807 := by simpa only [maxLen] using hcm0
  obtain ⟨i0, hi0, hzz⟩ := Option.map_eq_some_iff.1 info48
  simp only [Prod.mk.injEq] at hzz
  obtain ⟨hz0, hzs, hzb⟩ := hzz
  have hxl : xs.length = n * 3 := hown.1
  obtain ⟨T, hT⟩ : ∃ T, T = xs.drop ((i + 1) * 3) := ⟨_, rfl⟩
  have hTl : T.length = (n - (i + 1)) * 3 := by rw [hT, List.length_drop]; omega
  have hT1 : ∀ u ∈ T, u.oneCell' = true := fun u hu => h1 u (by rw [hT] at hu; exact List.mem_of_mem_drop hu)
  have hcn1 : n * 3 ≤ cur.length := by rw [hcs]; exact Nat.mul_le_mul_right _ hnc
  have hsrc : ∀ (ad : Addr), (ad = ⟨g, (i + 1) * 3, none⟩ ∨ T = []) → ∀ j u, T[j]? = some u → w.drew.cell? (ad.add j) = some u := by
    intro ad had j u hj
    have hjl : j < T.length := (List.getElem?_eq_some_iff.1 hj).1
    rcases had with rfl | h0
    · rw [Addr.add_lit]
      show w.cell? ⟨g, _, none⟩ = _
      rw [cell_of_row w g _ cur.toArray 48 (0, 0) hg, ← hj, hT, ← htake, List.getElem?_drop, List.getElem?_take, if_pos (by omega)]
      simp
    · rw [h0] at hjl; simp at hjl
  obtain ⟨R1, hR1⟩ : ∃ R1, R1 = over cur (i * 3) T := ⟨_, rfl⟩
  have hA : ∀ (ad : Addr), (ad = ⟨g, (i + 1) * 3, none⟩ ∨ T = []) → ∀ ty c2, (Builtin.append_ #[59, 59] ty #[.slice (some ⟨g, 0, none⟩) i c, .slice (some ad) (n - (i + 1)) c2]).run Try.prog w.drew = .ok (.slice (some ⟨g, 0, none⟩) (n - 1) c) (w.drew.setRow g R1.toArray) := by
    intro ad had ty c2
    have h := run_append_room (P := Try.prog) w.drew 59 ty 48 i0 Try.underlying59 hi0 g i c cur.toArray hg ad (n - (i + 1)) c2 T (by rw [hzs]; exact hTl) (hsrc ad had) hT1 (by omega) (by rw [hzs]; simp; omega)
    rw [hzs, show i + (n - (i + 1)) = n - 1 by omega] at h
    rw [h, hR1]
    rfl
  have hR1l : R1.length = c * 3 := by rw [hR1, over_length _ _ _ (by omega), hcs]
  have hR1t : R1.take ((n - 1) * 3) = xs.take (i * 3) ++ T := by
    have e : cur.take (i * 3) = xs.take (i * 3) := by rw [← htake, List.take_take, Nat.min_eq_left (by omega)]
    rw [hR1]
    unfold over
    rw [e, List.take_append_of_le_length (by simp; omega)]
    exact List.take_of_length_le (by simp; omega)
  have hC : ∀ (W : World), W.heap = (w.drew.setRow g R1.toArray).heap → ∀ ty c2, (Builtin.clear_ #[59] ty #[.slice (some ⟨g, (n - 1) * 3, none⟩) 1 c2]).run Try.prog W = .ok (.tuple #[]) (W.setRow g (over R1 ((n - 1) * 3) (Value.cells (.agg #[.int .i64 0, .int .i64 0, .int .i64 0])).toList).toArray) := fun W hW ty c2 =>
    run_clear_at48 W ty g ((n - 1) * 3) c2 R1 (by rw [hW]; exact setRow_heap _ g _ _ 48 _ hg) (by omega)
  obtain ⟨R2, hR2⟩ : ∃ R2, R2 = over R1 ((n - 1) * 3) (Value.cells (.agg #[.int .i64 0, .int .i64 0, .int .i64 0])).toList := ⟨_, rfl⟩
  have hzl : (Value.cells (.agg #[.int .i64 0, .int .i64 0, .int .i64 0])).toList.length = 3 := by rfl
  have hR2l : R2.length = c * 3 := by rw [hR2, over_length _ _ _ (by rw [hzl]; omega), hR1l]
  have hR2t : R2.take ((n - 1) * 3) = xs.take (i * 3) ++ T := by rw [hR2, take_over _ _ _ _ (by rw [hzl]; omega) (Nat.le_refl _), hR1t]
  rw [← hR2] at hC
  have hfl : (xs.take (i * 3) ++ T).length = (n - 1) * 3 := by rw [List.length_append, List.length_take, hTl, hxl]; omega
  rw [← hT]
  have hw1 : (i : Int) ≤ (i : Int) + 1 := by omega
  have hb1 : (0 : Int) ≤ (i : Int) + 1 := by omega
  have hin : i ≤ n := by omega
  have hin1 : i + 1 ≤ n := by omega
  have hin2 : (i : Int) + 1 ≤ (n : Int) := by omega
  have hnc' : (n : Int) ≤ (c : Int) := by omega
  have htn : ((i : Int) + 1).toNat = i + 1 := by omega
  have hz2 : ¬ ((i : Int) = (i : Int) + 1) := by omega
  have hz2' : ((i : Int) == (i : Int) + 1) = false := by simp; omega
  have hci : ¬ (c = i) := by omega
  have hic : i ≤ c := by omega
  have hic' : (i : Int) ≤ (c : Int) := by omega
  have hcn : ¬ (c = n - 1) := by omega
  have hnn : n - 1 ≤ n := by omega
  have hn11 : n - (n - 1) = 1 := by omega
  have mixed : Try.prog.follows Departure.mixedOrders = true := by kernel_rfl
  have HG := Lib.hid hg
  by_cases hce : c = i + 1
  · have hT0 : T = [] := List.eq_nil_of_length_eq_zero (by rw [hTl]; omega)
    obtain rfl : n = i + 1 := by omega
    subst hce
    have hA0 := hA ⟨g, 0, none⟩ (.inr hT0) 59 0
    have hC0 := hC (w.drew.setRow g R1.toArray) rfl
    simp only [Nat.add_sub_cancel, Nat.sub_self] at *
    clear hg hg0 hA hC hT hR1 hR2 hcur htake hcs hcs0 hsrc hz0 hzs hzb
    go_enter Try.func60, Try.ntmps60
    go_wp2
    go_region_law_o (refine step_append_runI rfl _ _ 59 59 rfl (.slice (some ⟨g, 0, none⟩) i (i + 1)) (.slice (some ⟨g, 0, none⟩) 0 0) (by simp [Act.eval, Act.put]) (by simp [Act.eval, Act.put]) hA0 ?_)
    go_wp2
    go_ret
    exact ⟨_, rfl, ⟨hfl, .inr ⟨g, i + 1, R2.toArray, rfl, hbg, setRow_heap _ g _ _ 48 _ (setRow_heap _ g _ _ 48 _ HG.out), by omega, hcm0, by simpa using hR2l, by simpa using hR2t⟩⟩, grown_setRow (grown_setRow (grown_drew (grown_refl _ _)) _) _, rfl⟩
  · have hA0 := hA ⟨g, (i + 1) * 3, none⟩ (.inl rfl) 59 (c - (i + 1))
    have hC0 := hC (w.drew.setRow g R1.toArray) rfl
    clear hg hg0 hA hC hT hR1 hR2 hcur htake hcs hcs0 hsrc hz0 hzs hzb
    go_enter Try.func60, Try.ntmps60
    go_wp2
    go_region_law_o (refine step_append_runI rfl _ _ 59 59 rfl (.slice (some ⟨g, 0, none⟩) i c) (.slice (some ⟨g, (i + 1) * 3, none⟩) (n - (i + 1)) (c - (i + 1))) (by simp [Act.eval, Act.put]) (by simp [Act.eval, Act.put]) hA0 ?_)
    go_wp2
    go_ret
    exact ⟨_, rfl, ⟨hfl, .inr ⟨g, c, R2.toArray, rfl, hbg, setRow_heap _ g _ _ 48 _ (setRow_heap _ g _ _ 48 _ HG.out), by omega, hcm0, by simpa using hR2l, by simpa using hR2t⟩⟩, grown_setRow (grown_setRow (grown_drew (grown_refl _ _)) _) _, rfl⟩
end
section
open Go.RowKit Go.Proofs.YthfolhgaecfogaaW.PrintWords Go.Proofs.YthfolhgaecfogaaW.PrintLast Go.Proofs.YthfolhgaecfogaaW.PrintMore
theorem from_at {w : World} {v v' : Value} (h : v'.ownBlock = v.ownBlock ∨ ∃ b, v'.ownBlock = some b ∧ w.heap.size ≤ b) : From w v v' := fun k hk => by
  rcases h with h | ⟨b, h, hb⟩
  · exact .inl (h ▸ hk)
  · rw [h] at hk
    injection hk with hk
    exact .inr (by omega)
theorem insert_any48 (v : Value) (L : List S48) (i : Nat) (x : S48) (b2 : Nat) (w : World) (B : Nat) (hB : B ≤ w.heap.size) (hR : Row w B v L) (hi : i ≤ L.length) (hn : L.length ≤ 8388608)
    (hb2 : w.heap[b2]? = some (.cells #[.int .i64 x.f0, .int .i64 x.f1, .int .i64 x.f2] 48 (0, 0))) (hne : some b2 ≠ v.ownBlock) :
    Calls Try.prog 57 #[v, .int .i64 i, .slice (some ⟨b2, 0, none⟩) 1 1] w fun e w' => ∃ v', e = .returned v' ∧ Row w' B v' (L.take i ++ [x] ++ L.drop i) ∧ w.grownBy w' v.ownBlock ∧ From w v v' := by
  obtain ⟨h0, inner, hown, hr⟩ := hR
  have hone := Kd.reps_one hr (by decide) (fun _ _ hp => k48.K_one (k48.K_of_M hp))
  refine (insert48 v L.length i inner [.int .i64 x.f0, .int .i64 x.f1, .int .i64 x.f2] b2 w B hB hown hi hn hone hb2 rfl (by intro u hu; simp at hu; rcases hu with rfl | rfl | rfl <;> rfl) hne).mono ?_
  rintro e w' ⟨v', rfl, ho, hg, hat⟩
  refine ⟨v', rfl, R_rebuilt (cs := inner.take (i * 3) ++ [.int .i64 x.f0, .int .i64 x.f1, .int .i64 x.f2] ++ inner.drop (i * 3)) ?_ ?_ hg hat, hg, from_at hat⟩
  · exact Kd.reps_append (Kd.reps_append (Kd.reps_take (m := i) hr hi) (reps_one_ (k48_mkM _ _ _ x) rfl)) (Kd.reps_drop (m := i) hr)
  · have : (L.take i ++ [x] ++ L.drop i).length = L.length + 1 := by simp; omega
    rw [this]; exact ho
theorem delete_any48 (v : Value) (L : List S48) (i : Nat) (w : World) (B : Nat) (hR : Row w B v L) (hi : i < L.length) (hn : L.length ≤ 8388608) :
    Calls Try.prog 60 #[v, .int .i64 i, .int .i64 ((i : Int) + 1)] w fun e w' => ∃ v', e = .returned v' ∧ Row w' B v' (L.take i ++ L.drop (i + 1)) ∧ w.grownBy w' v.ownBlock ∧ From w v v' := by
  obtain ⟨h0, inner, hown, hr⟩ := hR
  have hone := Kd.reps_one hr (by decide) (fun _ _ hp => k48.K_one (k48.K_of_M hp))
  refine (delete48 v L.length i inner w B hown hi hn hone).mono ?_
  rintro e w' ⟨v', rfl, ho, hg, hat⟩
  refine ⟨v', rfl, R_rebuilt (cs := inner.take (i * 3) ++ inner.drop ((i + 1) * 3)) ?_ ?_ hg (.inl hat), hg, from_at (.inl hat)⟩
  · exact Kd.reps_append (Kd.reps_take (m := i) hr (by omega)) (Kd.reps_drop (m := i + 1) hr)
  · have : (L.take i ++ L.drop (i + 1)).length = L.length - 1 := by simp; omega
    rw [this]; exact ho
/-! comparing -/
def cmpI (a b : Int) : Int := if a < b then -1 else if b < a then 1 else 0
theorem bcell_ {W w1 : World} (hb : Ext W w1) : (∀ b o, b < W.heap.size → w1.cell? ⟨b, o, none⟩ = W.cell? ⟨b, o, none⟩) ∧ (∀ b o, b < W.heap.size → w1.frozen? ⟨b, o, none⟩ = W.frozen? ⟨b, o, none⟩) :=
  ⟨fun b o h => hb.cell (p := ⟨b, o, none⟩) h, fun b o h => hb.frozen (p := ⟨b, o, none⟩) h⟩
theorem nan_any (a : Int) (w : World) : Calls Try.prog 82 #[.int .i64 a] w fun e w' => e = .returned (.bool false) ∧ w = w' := by
  have h : (a != a) = false := by simp
  go_enter Try.func82, Try.ntmps82
  go_wp2
  go_ret
  exact ⟨rfl, rfl⟩
theorem cmpI_any (a b : Int) (w : World) : Calls Try.prog 74 #[.int .i64 a, .int .i64 b] w fun e w' => e = .returned (.int .i64 (cmpI a b)) ∧ w = w' := by
  by_cases h1 : a < b
  · have hr : Hid (cmpI a b = -1) := by show _ = _; simp [cmpI, h1]
    go_enter Try.func74, Try.ntmps74
    go_wp2_with (go_at_call 82; refine (nan_any _ _).mono ?_; rintro e w' ⟨rfl, rfl⟩)
    go_ret
    exact ⟨by rw [hr.out]; rfl, rfl⟩
  by_cases h2 : b < a
  · have hr : Hid (cmpI a b = 1) := by show _ = _; simp [cmpI, h1, h2]
    go_enter Try.func74, Try.ntmps74
    go_wp2_with (go_at_call 82; refine (nan_any _ _).mono ?_; rintro e w' ⟨rfl, rfl⟩)
    go_ret
    exact ⟨by rw [hr.out]; rfl, rfl⟩
  · have hr : Hid (cmpI a b = 0) := by show _ = _; simp [cmpI, h1, h2]
    go_enter Try.func74, Try.ntmps74
    go_wp2_with (go_at_call 82; refine (nan_any _ _).mono ?_; rintro e w' ⟨rfl, rfl⟩)
    go_ret
    exact ⟨by rw [hr.out]; rfl, rfl⟩
theorem cmpT_time {a b : S48} (h : a.f0 ≠ b.f0) : cmpT a b = cmpI a.f0 b.f0 := by
  unfold cmpT cmpI ahead
  have h' : ¬ b.f0 = a.f0 := fun e => h e.symm
  simp only [h, h', decide_false, Bool.false_and, Bool.or_false, decide_eq_true_eq]
def keyT (a : S48) : S82 := ⟨a.f1, a.f2⟩
theorem cmpT_key {a b : S48} (h : a.f0 = b.f0) : cmpT a b = if lessK (keyT a) (keyT b) then -1 else if lessK (keyT b) (keyT a) then 1 else 0 := by
  unfold cmpT ahead lessK keyT
  have h1 : ¬ a.f0 < b.f0 := by omega
  have h2 : ¬ b.f0 < a.f0 := by omega
  simp [h, h1, h2]
set_option maxRecDepth 100000 in
set_option maxHeartbeats 1000000 in
theorem compare_any (a b : S48) (w : World) : Calls Try.prog 56 #[vT a, vT b] w fun e w' => e = .returned (.int .i64 (cmpT a b)) ∧ Ext w w' := by
  have hu := Try.underlying48
  have hu2 := Try.underlying82
  unfold vT
  cases h1 : (a.f0 != b.f0)
  case true =>
    have hr := Lib.hid (cmpT_time (bne_iff_ne.1 h1))
    go_enter Try.func56, Try.ntmps56
    go_wp2_with fail
    refine (cmpI_any _ _ _).mono ?_
    rintro e w' ⟨rfl, rfl⟩
    go_wp2
    go_ret
    exact ⟨by rw [hr.out]; rfl, Ext.tr (ext_alloc w _) (ext_alloc _ _)⟩
  case false =>
    have hr := Lib.hid (cmpT_key (by simpa using h1))
    obtain ⟨K1, hK1⟩ : ∃ K1, K1 = lessK (keyT a) (keyT b) := ⟨_, rfl⟩
    obtain ⟨K2, hK2⟩ : ∃ K2, K2 = lessK (keyT b) (keyT a) := ⟨_, rfl⟩
    rw [← hK1, ← hK2] at hr
    have HK1 := Lib.hid hK1
    have HK2 := Lib.hid hK2
    clear hK1 hK2
    go_enter Try.func56, Try.ntmps56
    go_wp2_with fail
    go_region
    all_goals
      go_wp2_with fail
      refine (less_any (keyT a) (keyT b) _).mono ?_
      rintro e w1 ⟨he, hb1⟩
      rw [← HK1.out] at he
      subst he
      cases K1
      case true =>
        go_wp2
        go_ret
        exact ⟨by rw [hr.out]; rfl, Ext.tr (by repeat (first | exact Below.refl _ _ | refine Below.alloc ?_ (by simp; try omega) _ | refine Below.drew ?_ | refine Below.setCell ?_ (by simp; try omega) _)) hb1⟩
      case false =>
        have hX1 : Ext w w1 := Ext.tr (by repeat (first | exact Below.refl _ _ | refine Below.alloc ?_ (by simp; try omega) _ | refine Below.drew ?_ | refine Below.setCell ?_ (by simp; try omega) _)) hb1
        have HX1 := Lib.hid hX1
        obtain ⟨qc, qf⟩ := bcell_ hb1
        have qz := hb1.size
        clear hX1 hb1
        go_wp2_with fail
        refine (less_any (keyT b) (keyT a) _).mono ?_
        rintro e w2 ⟨he, hb2⟩
        rw [← HK2.out] at he
        subst he
        cases K2
        all_goals
          go_wp2
          go_ret
          exact ⟨by rw [hr.out]; rfl, Ext.tr HX1.out hb2⟩
end
section
open Go.RowKit Go.Proofs.YthfolhgaecfogaaW.PrintWords Go.Proofs.YthfolhgaecfogaaW.PrintLast Go.Proofs.YthfolhgaecfogaaW.PrintMore
theorem hit_any (kind id : Int) (b1 b2 : Nat) (t : S48) (W : World) (h1 : W.cell? ⟨b1, 0, none⟩ = some (.int .i64 kind)) (h2 : W.cell? ⟨b2, 0, none⟩ = some (.int .i64 id)) :
    Calls Try.prog 78 #[vT t, .pointer (some ⟨b1, 0, none⟩), .pointer (some ⟨b2, 0, none⟩)] W fun e w' => e = .returned (.bool (hitT kind id t)) ∧ Ext W w' := by
  have hu := Try.underlying48
  have l1 := World.block_lt_of_cell? W _ h1
  have l2 := World.block_lt_of_cell? W _ h2
  simp only at l1 l2
  unfold vT
  cases e1 : (t.f1 == kind)
  · have hr : Hid (hitT kind id t = false) := by show _ = _; simp [hitT, e1]
    go_enter Try.func78, Try.ntmps78
    go_wp2
    go_ret
    exact ⟨by rw [hr.out]; rfl, ext_alloc _ _⟩
  · have hr : Hid (hitT kind id t = (t.f2 == id)) := by show _ = _; simp [hitT, e1]
    go_enter Try.func78, Try.ntmps78
    go_wp2
    go_ret
    exact ⟨by rw [hr.out]; rfl, ext_alloc _ _⟩
set_option maxRecDepth 100000 in
set_option maxHeartbeats 400000 in
theorem idx48_any (kind id : Int) (b1 b2 : Nat) (A : Option Addr) (c n : Nat) (l : List S48) (w : World) (hC : Kd.C k48 w A n l) (hc : n ≤ c) (h1 : w.cell? ⟨b1, 0, none⟩ = some (.int .i64 kind)) (h2 : w.cell? ⟨b2, 0, none⟩ = some (.int .i64 id)) :
    Calls Try.prog 77 #[.slice A n c, .func (.func 78) #[] #[.pointer (some ⟨b1, 0, none⟩), .pointer (some ⟨b2, 0, none⟩)]] w fun e w' => e = .returned (.int .i64 (idxT l kind id)) ∧ Ext w w' := by
  obtain rfl : l.length = n := Kd.C_len hC
  have hu := Try.underlying48
  have hm := len_max hC
  have HC := Lib.hid hC
  have H1 := Lib.hid h1
  have H2 := Lib.hid h2
  have l1 := Lib.hid (World.block_lt_of_cell? w _ h1)
  have l2 := Lib.hid (World.block_lt_of_cell? w _ h2)
  clear hC h1 h2
  go_enter Try.func77, Try.ntmps77
  go_wp2
  go_loopw [8] (fun i wr => ∃ k : Nat, k ≤ l.length ∧ i = .int .i64 k ∧ Hid ((l.take k).any (hitT kind id) = false) ∧ Ext w wr) (fun i _ => l.length - (intOf i).toNat)
  case atStart => exact ⟨0, Nat.zero_le _, rfl, rfl, Below.refl _ _⟩
  case round =>
    obtain ⟨k, hk, rfl, hg, hb⟩ := hrel
    by_cases hlt : k < l.length
    · obtain ⟨ad, rfl, h0, h1, h2⟩ := C48 (Kd.C_below HC.out hb) hlt
      go_wp2_with fail
      refine (hit_any kind id b1 b2 l[k] wr ((hb.cell l1.out).trans H1.out) ((hb.cell l2.out).trans H2.out)).mono ?_
      rintro e w1 ⟨rfl, hb1⟩
      have hb2 := Ext.tr hb hb1
      cases hp : hitT kind id l[k]
      · have hr := Lib.hid (any_step hlt hg.out hp)
        go_wp2
        go_roundw
        case rel => exact ⟨k + 1, by omega, by go_num, hr, hb2⟩
        case measure => simp [intOf]; omega
      · have hr := Lib.hid (show idxT l kind id = k from idxF_hit hlt hg.out hp)
        go_wp2
        go_ret
        exact ⟨by rw [hr.out]; rfl, hb2⟩
    · have e : l.take k = l := List.take_of_length_le (by omega)
      have e2 := hg.out
      rw [e] at e2
      have hr := Lib.hid (show idxT l kind id = -1 from idxF_none e2)
      clear e e2
      go_wp2
      go_ret
      exact ⟨by rw [hr.out]; rfl, hb⟩
set_option maxRecDepth 100000 in
theorem cfind_any (kind id : Int) (w : World) (B p : Nat) (v : Value) (now : Int) (L : List S48) (h : Clk 89 w B p v now L) :
    Calls Try.prog 59 #[.pointer (some ⟨p, 0, none⟩), .int .i64 kind, .int .i64 id] w fun e w' => e = .returned (.int .i64 (idxT L kind id)) ∧ Ext w w' := by
  have hu := Try.underlying89
  obtain ⟨q0, q1⟩ := h.cells
  obtain ⟨A, c, rfl, hlc, hC⟩ := Kd.R_reads h.2.2
  have hlt := h.lt
  have HC := Lib.hid hC
  have H := Lib.hid h
  clear hC h
  go_enter Try.func59, Try.ntmps59
  go_wp2_with fail
  refine (idx48_any kind id w.heap.size (w.heap.size + 1) A c _ L _ (Kd.C_below HC.out (Ext.tr (ext_alloc w _) (ext_alloc _ _))) hlc (by simp [go_sem]) (by simp [go_sem])).mono ?_
  rintro e w1 ⟨rfl, hb1⟩
  go_wp2
  go_ret
  exact ⟨rfl, Ext.tr (Ext.tr (ext_alloc w _) (ext_alloc _ _)) hb1⟩
theorem Row_slice {w : World} {B : Nat} {v : Value} {L : List S48} (h : Row w B v L) : ∃ A n c, v = .slice A n c := by
  obtain ⟨A, c, e⟩ := Kd.R_slice h
  exact ⟨A, _, c, e⟩
theorem Clk.held {T : Nat} {w w' : World} {B p : Nat} {v : Value} {now : Int} {L : List S48} (h : Clk T w B p v now L) (hT : T ≠ 48) (hg : w.grownBy w' v.ownBlock) : w'.cell? ⟨p, 0, none⟩ = some (.int .i64 now) ∧ w'.cell? ⟨p, 1, none⟩ = some v ∧ w'.frozen? ⟨p, 1, none⟩ = false ∧ p < w'.heap.size := by
  have hne := h.away hT
  have hp : w'.heap[p]? = some (.cells #[.int .i64 now, v] T (0, 0)) := (hg.block p h.lt (fun e => hne e.symm)).trans h.2.1
  exact ⟨blk_cell hp 0, blk_cell hp 1, blk_frozen hp 1, blk_lt hp⟩
set_option maxRecDepth 100000 in
set_option maxHeartbeats 400000 in
theorem ccut_any (kind id : Int) (w : World) (B p : Nat) (v : Value) (now : Int) (L : List S48) (h : Clk 89 w B p v now L) (hG : Good L) (hn : L.length ≤ 8388608) :
    Calls Try.prog 26 #[.pointer (some ⟨p, 0, none⟩), .int .i64 kind, .int .i64 id] w fun e w' => ∃ v', e = .returned (.bool (decide (0 ≤ idxT L kind id))) ∧ Clk 89 w' B p v' now (cutT L kind id) ∧ Only w w' p v ∧ From w v v' := by
  have hu := Try.underlying89
  by_cases hF : idxT L kind id < 0
  · have hr := Lib.hid (cutT_none hF)
    have hd : Hid (decide (0 ≤ idxT L kind id) = false) := by show _ = _; simp; omega
    obtain ⟨F, hFe⟩ : ∃ F, F = idxT L kind id := ⟨_, rfl⟩
    have HF := Lib.hid hFe
    rw [← hFe] at hF
    clear hFe
    go_enter Try.func26, Try.ntmps26
    go_wp2_with fail
    refine (cfind_any kind id w B p v now L h).mono ?_
    rintro e w1 ⟨he, hb1⟩
    rw [← HF.out] at he
    subst he
    go_wp2
    go_ret
    exact ⟨v, by rw [hd.out]; rfl, by rw [hr.out]; exact h.ext hb1, (Only.refl _ _ _).ext hb1, From.refl _ _⟩
  · obtain ⟨i, hi⟩ : ∃ i : Nat, idxT L kind id = (i : Int) := ⟨(idxT L kind id).toNat, by omega⟩
    obtain ⟨hil, hr⟩ := cutT_some hG.2 hi
    have hd : Hid (decide (0 ≤ idxT L kind id) = true) := by show _ = _; simp; omega
    have HR := Lib.hid hr
    have HI := Lib.hid hi
    have H := Lib.hid h
    have hw : IntKind.i64.wrap ((i : Int) + 1) = (i : Int) + 1 := by rw [IntKind.wrap_i64]; omega
    clear hr hi hF h
    go_enter Try.func26, Try.ntmps26
    go_wp2_with fail
    refine (cfind_any kind id w B p v now L H.out).mono ?_
    rintro e w1 ⟨he, hb1⟩
    rw [HI.out] at he
    subst he
    have H1 := Lib.hid (H.out.ext hb1)
    obtain ⟨q0, q1⟩ := H1.out.cells
    go_wp2_with fail
    refine (delete_any48 v L i w1 B H1.out.2.2 hil hn).mono ?_
    rintro e w2 ⟨v', rfl, hR, hg, hf⟩
    obtain ⟨z0, z1, z2, z3⟩ := H1.out.held (by decide) hg
    have HR2 := Lib.hid hR
    have HG := Lib.hid hg
    have HFr := Lib.hid hf
    have HB := Lib.hid hb1
    clear hR hg hf hb1 q0 q1
    obtain ⟨A', n', c', rfl⟩ := Row_slice HR2.out
    go_wp2
    go_ret
    refine ⟨_, by rw [hd.out]; rfl, by rw [HR.out]; exact H1.out.row (by decide) HG.out HR2.out, ((Only.of_grown p HG.out).put 1 _).after HB.out, HFr.out.after HB.out.size⟩
end
section
open Go.RowKit Go.Proofs.YthfolhgaecfogaaW.PrintWords Go.Proofs.YthfolhgaecfogaaW.PrintLast Go.Proofs.YthfolhgaecfogaaW.PrintMore
theorem q56 (a b : S48) (W : World) (d : Nat) (os : Array Obj) :
    Calls Try.prog 56 #[vT a, vT b] (Go.Sort.grow (redrawn W d) os) fun e w'' => e = .returned (.int .i64 (cmpT a b)) ∧ ∃ p : Regrown, w'' = Go.Sort.grow (redrawn W p.d) p.os :=
  Calls.regrown_of (compare_any a b _)
theorem cmpT_neg {a b : S48} : cmpT a b < 0 ↔ ahead a b = true := by
  unfold cmpT
  split
  · simp [*]
  · split <;> simp [*]
def fndT (L : List S48) (t : S48) : Bool := decide (posT L t < L.length) && (cmpT (L.getD (posT L t) z48) t == 0)
set_option maxRecDepth 100000 in
set_option maxHeartbeats 1000000 in
theorem bsearch_any (A : Option Addr) (c n : Nat) (L : List S48) (t : S48) (w : World) (hC : Kd.C k48 w A n L) (hc : n ≤ c) (hn : L.length ≤ 8388608) (hG : Ordered L) :
    Calls Try.prog 55 #[.slice A n c, vT t, .func (.func 56) #[] #[]] w fun e w' => e = .returned (.tuple #[.int .i64 (posT L t), .bool (fndT L t)]) ∧ Ext w w' := by
  obtain rfl : L.length = n := Kd.C_len hC
  have hu := Try.underlying48
  have hm := len_max hC
  have HC := Lib.hid hC
  have hx0 := Lib.hid (ext_alloc w (.cells #[.int .i64 t.f0, .int .i64 t.f1, .int .i64 t.f2] 48))
  have hbx : Hid ((w.alloc (.cells #[.int .i64 t.f0, .int .i64 t.f1, .int .i64 t.f2] 48)).heap[w.heap.size]? = some (.cells #[.int .i64 t.f0, .int .i64 t.f1, .int .i64 t.f2] 48 (0, 0))) := heap_alloc_new w _
  have HP := Lib.hid (posT_le L t)
  clear hC
  unfold vT
  go_enter Try.func55, Try.ntmps55
  go_wp2
  go_loopw [9, 10] (fun lo hi wr => ∃ a b : Nat, a ≤ posT L t ∧ posT L t ≤ b ∧ b ≤ L.length ∧ lo = .int .i64 a ∧ hi = .int .i64 b ∧ Ext (w.alloc (.cells #[.int .i64 t.f0, .int .i64 t.f1, .int .i64 t.f2] 48)) wr) (fun lo hi _ => (intOf hi).toNat - (intOf lo).toNat)
  case atStart => exact ⟨0, _, Nat.zero_le _, HP.out, Nat.le_refl _, rfl, rfl, Below.refl _ _⟩
  case round =>
    obtain ⟨a, b, ha, hb, hbl, rfl, rfl, hb0⟩ := hrel
    have hbw := Lib.hid ((hb0.block w.heap.size (by simp)).trans hbx.out)
    have hE := Lib.hid (Ext.tr hx0.out hb0)
    have x0 := blk_cell hbw.out 0
    have x1 := blk_cell hbw.out 1
    have x2 := blk_cell hbw.out 2
    have y0 := fun d os => cell_regrown x0 d os
    have y1 := fun d os => cell_regrown x1 d os
    have y2 := fun d os => cell_regrown x2 d os
    clear x0 x1 x2
    by_cases hlt : a < b
    · obtain ⟨m, hma, hmb, hmd⟩ : ∃ m : Nat, a ≤ m ∧ m < b ∧ ((a : Int) + (b : Int)) / 2 = (m : Int) := ⟨(a + b) / 2, by omega, by omega, by omega⟩
      obtain ⟨ad, rfl, h0, h1, h2⟩ := C48 (Kd.C_below HC.out hE.out) (k := m) (by omega)
      have y3 := fun d os => cell_regrown h0 d os
      have y4 := fun d os => cell_regrown h1 d os
      have y5 := fun d os => cell_regrown h2 d os
      clear h0 h1 h2
      obtain ⟨F, hF⟩ : ∃ F, F = cmpT L[m] t := ⟨_, rfl⟩
      have hq : ∀ (d : Nat) (os : Array Obj), Calls Try.prog 56 #[vT L[m], vT t] (Go.Sort.grow (redrawn wr d) os) fun e w'' => e = .returned (.int .i64 F) ∧ ∃ p : Regrown, w'' = Go.Sort.grow (redrawn wr p.d) p.os := fun d os => hF ▸ q56 L[m] t wr d os
      have HQ := Lib.hid hq
      clear hq
      cases hah : ahead L[m] t
      · have h0F : ¬ F < 0 := by rw [hF, cmpT_neg, hah]; simp
        have hpm : posT L t ≤ m := by
          rcases Nat.lt_or_ge m (posT L t) with h | h
          · have := (posT_below h).2
            rw [hah] at this; cases this
          · exact h
        have HF := Lib.hid hF
        clear hF hah
        go_wp2
        refine wp_region_quiet_below (by kernel_rfl) (by kernel_rfl) ?_
        repeat (go_big_quiet_step ((go_at_call 56; exact HQ.out _ _)))
        refine wpQuiet_nil ?_
        intro _ hw'
        obtain ⟨⟨dq, osq⟩, hw''⟩ := hw'
        subst hw''
        have hz := Lib.hid (Ext.tr hb0 (below_regrown _ dq osq))
        go_wp2
        go_roundw
        case rel => exact ⟨a, m, ha, hpm, by omega, rfl, rfl, hz.out⟩
        case measure => simp [intOf]; omega
      · have h0F : F < 0 := by rw [hF, cmpT_neg, hah]
        have hpm : m + 1 ≤ posT L t := by
          rcases Nat.lt_or_ge m (posT L t) with h | h
          · omega
          · have := posT_above hG h (by omega)
            rw [hah] at this; cases this
        have HF := Lib.hid hF
        clear hF hah
        go_wp2
        refine wp_region_quiet_below (by kernel_rfl) (by kernel_rfl) ?_
        repeat (go_big_quiet_step ((go_at_call 56; exact HQ.out _ _)))
        refine wpQuiet_nil ?_
        intro _ hw'
        obtain ⟨⟨dq, osq⟩, hw''⟩ := hw'
        subst hw''
        have hz := Lib.hid (Ext.tr hb0 (below_regrown _ dq osq))
        go_wp2
        go_roundw
        case rel => exact ⟨m + 1, b, hpm, hb, by omega, by go_num, rfl, hz.out⟩
        case measure => simp [intOf]; omega
    · have hab : a = posT L t := by omega
      have HAB := Lib.hid hab
      clear hab ha hb
      by_cases hal : a < L.length
      · obtain ⟨ad, rfl, h0, h1, h2⟩ := C48 (Kd.C_below HC.out hE.out) (k := a) hal
        have y3 := fun d os => cell_regrown h0 d os
        have y4 := fun d os => cell_regrown h1 d os
        have y5 := fun d os => cell_regrown h2 d os
        clear h0 h1 h2
        obtain ⟨F, hF⟩ : ∃ F, F = cmpT L[a] t := ⟨_, rfl⟩
        have hq : ∀ (d : Nat) (os : Array Obj), Calls Try.prog 56 #[vT L[a], vT t] (Go.Sort.grow (redrawn wr d) os) fun e w'' => e = .returned (.int .i64 F) ∧ ∃ p : Regrown, w'' = Go.Sort.grow (redrawn wr p.d) p.os := fun d os => hF ▸ q56 L[a] t wr d os
        have HQ := Lib.hid hq
        clear hq
        have hfn : Hid (fndT L t = (F == 0)) := by
          show _ = _
          rw [hF]
          unfold fndT
          rw [← HAB.out, decide_eq_true hal, List.getD_eq_getElem?_getD, List.getElem?_eq_getElem hal]
          rfl
        have HF := Lib.hid hF
        clear hF
        have hnl : ¬ a < b := hlt
        go_wp2
        refine wp_region_quiet_below (by kernel_rfl) (by kernel_rfl) ?_
        repeat (go_big_quiet_step ((go_at_call 56; exact HQ.out _ _)))
        refine wpQuiet_nil ?_
        intro _ hw'
        obtain ⟨⟨dq, osq⟩, hw''⟩ := hw'
        subst hw''
        have hz := Lib.hid (Ext.tr hE.out (below_regrown _ dq osq))
        go_wp2
        go_ret2
        exact ⟨by rw [hfn.out, ← HAB.out]; rfl, hz.out⟩
      · have hfn : Hid (fndT L t = false) := by
          show _ = _
          unfold fndT
          rw [← HAB.out, decide_eq_false hal]
          rfl
        go_wp2
        refine wp_region_quiet_below (by kernel_rfl) (by kernel_rfl) ?_
        repeat (go_big_quiet_step (fail))
        refine wpQuiet_nil ?_
        intro _ hw'
        obtain ⟨⟨dq, osq⟩, hw''⟩ := hw'
        subst hw''
        have hz := Lib.hid (Ext.tr hE.out (below_regrown _ dq osq))
        go_wp2
        go_ret2
        exact ⟨by rw [hfn.out, ← HAB.out]; rfl, hz.out⟩
end
section
open Go.RowKit Go.Proofs.YthfolhgaecfogaaW.PrintWords Go.Proofs.YthfolhgaecfogaaW.PrintLast Go.Proofs.YthfolhgaecfogaaW.PrintMore
theorem setOk_iff {now : Int} {t : S48} : setOk now t = true ↔ now ≤ t.f0 ∧ t.f0 ≤ 4611686018427387904 := by simp [setOk]
theorem setOk_no {now : Int} {t : S48} : setOk now t = false ↔ ¬ (now ≤ t.f0 ∧ t.f0 ≤ 4611686018427387904) := by rw [← setOk_iff, Bool.not_eq_true]
def Box48 (w : World) (g : Nat) (t : S48) : Prop := w.heap[g]? = some (.cells #[.int .i64 t.f0, .int .i64 t.f1, .int .i64 t.f2] 48 (0, 0))
theorem Box48.cells {w : World} {g : Nat} {t : S48} (h : Box48 w g t) : w.cell? ⟨g, 0, none⟩ = some (.int .i64 t.f0) ∧ w.cell? ⟨g, 1, none⟩ = some (.int .i64 t.f1) ∧ w.cell? ⟨g, 2, none⟩ = some (.int .i64 t.f2) := ⟨blk_cell h 0, blk_cell h 1, blk_cell h 2⟩
theorem Box48.ext {w w' : World} {g : Nat} {t : S48} (h : Box48 w g t) (hb : Ext w w') : Box48 w' g t := (hb.block g (blk_lt h)).trans h
theorem Box48.only {w w' : World} {g p : Nat} {v : Value} {t : S48} (h : Box48 w g t) (ho : Only w w' p v) (hp : g ≠ p) (hv : v.ownBlock ≠ some g) : Box48 w' g t := (ho.2.2.2.2 g (blk_lt h) hp hv).trans h
theorem q55 (A : Option Addr) (c n : Nat) (L : List S48) (t : S48) (W : World) (hC : Kd.C k48 W A n L) (hc : n ≤ c) (hn : L.length ≤ 8388608) (hG : Ordered L) {P : Int} {F : Bool} (hP : (posT L t : Int) = P) (hF : fndT L t = F) (d : Nat) (os : Array Obj) :
    Calls Try.prog 55 #[.slice A n c, vT t, .func (.func 56) #[] #[]] (Go.Sort.grow (redrawn W d) os) fun e w'' => e = .returned (.tuple #[.int .i64 P, .bool F]) ∧ ∃ p : Regrown, w'' = Go.Sort.grow (redrawn W p.d) p.os :=
  hP ▸ hF ▸ Calls.regrown_of (bsearch_any A c n L t _ (Kd.C_below hC (below_regrown W d os)) hc hn hG)
theorem set_step (t : S48) (W : World) (B p g : Nat) (v : Value) (now P : Int) (M : List S48) (hB : B ≤ W.heap.size) (h : Clk 89 W B p v now M) (hn : M.length ≤ 8388607) (hP : (posT M t : Int) = P) (hb : Box48 W g t) (hv : v.ownBlock ≠ some g) :
    Calls Try.prog 57 #[v, .int .i64 P, .slice (some ⟨W.heap.size, 0, none⟩) 1 1] ((W.alloc (.cells #[.int .i64 t.f0, .int .i64 t.f1, .int .i64 t.f2] 48)).drew) fun e w' => ∃ (A : Option Addr) (n c : Nat), e = .returned (.slice A n c) ∧
      (w'.cell? ⟨p, 0, none⟩ = some (.int .i64 now) ∧ w'.cell? ⟨p, 1, none⟩ = some v ∧ w'.frozen? ⟨p, 1, none⟩ = false ∧ p < w'.heap.size) ∧
      (w'.cell? ⟨g, 0, none⟩ = some (.int .i64 t.f0) ∧ w'.cell? ⟨g, 1, none⟩ = some (.int .i64 t.f1) ∧ w'.cell? ⟨g, 2, none⟩ = some (.int .i64 t.f2)) ∧
      Clk 89 (w'.setCell ⟨p, 1, none⟩ (.slice A n c)) B p (.slice A n c) now (insT M t) ∧ Only W (w'.setCell ⟨p, 1, none⟩ (.slice A n c)) p v ∧ From W v (.slice A n c) := by
  obtain ⟨al, hal⟩ : ∃ al : Obj, al = .cells #[.int .i64 t.f0, .int .i64 t.f1, .int .i64 t.f2] 48 := ⟨_, rfl⟩
  have hx : Ext W ((W.alloc al).drew) := Ext.tr (ext_alloc _ _) (Below.drew (Below.refl _ _))
  have h1 := h.ext hx
  have hs : ((W.alloc al).drew).heap.size = W.heap.size + 1 := by simp
  subst hP
  rw [← hal]
  refine (insert_any48 v M (posT M t) t W.heap.size ((W.alloc al).drew) B (by omega) h1.2.2 (posT_le _ _) (by omega) (by rw [hal]; exact heap_alloc_new W _) (fun e => by have := Kd.R_lt h.2.2 W.heap.size e.symm; omega)).mono ?_
  rintro e w' ⟨v', rfl, hR, hg, hf⟩
  obtain ⟨A, n, c, rfl⟩ := Row_slice hR
  have hbg : Box48 w' g t := (hg.block g (blk_lt (hb.ext hx)) (fun e => hv e.symm)).trans (hb.ext hx)
  exact ⟨A, n, c, rfl, h1.held (by decide) hg, hbg.cells, h1.row (by decide) hg hR, ((Only.of_grown p hg).put 1 _).after hx, hf.after hx.size⟩
set_option maxRecDepth 100000 in
set_option maxHeartbeats 1000000 in
theorem cset_any (t : S48) (w : World) (B p : Nat) (v : Value) (now : Int) (L : List S48) (hB : B ≤ w.heap.size) (h : Clk 89 w B p v now L) (hG : Good L) (hn : L.length ≤ 8388607) :
    Calls Try.prog 24 #[.pointer (some ⟨p, 0, none⟩), vT t] w fun e w' => ∃ v', e = .returned (.bool (setOk now t)) ∧ Clk 89 w' B p v' now (setT now L t) ∧ Only w w' p v ∧ From w v v' := by
  have hu := Try.underlying89
  have hu48 := Try.underlying48
  have H := Lib.hid h
  have hx0 := Lib.hid (ext_alloc w (.cells #[.int .i64 t.f0, .int .i64 t.f1, .int .i64 t.f2] 48))
  have hbx : Hid (Box48 (w.alloc (.cells #[.int .i64 t.f0, .int .i64 t.f1, .int .i64 t.f2] 48)) w.heap.size t) := heap_alloc_new w _
  have H0 := Lib.hid (h.ext hx0.out)
  have hlt := h.lt
  have hne := h.away (by decide)
  clear h
  unfold vT
  cases hs : setOk now t
  · have hr : Hid (setT now L t = L) := by show _ = _; simp [setT, hs]
    have hs' := setOk_no.1 hs
    clear hs
    obtain ⟨q0, q1⟩ := H0.out.cells
    obtain ⟨x0, x1, x2⟩ := hbx.out.cells
    by_cases h1 : t.f0 < now
    · go_enter Try.func24, Try.ntmps24
      go_wp2
      go_quiet (fail)
      go_wp2
      go_ret
      exact ⟨v, rfl, by rw [hr.out]; exact H0.out.ext (ext_drewN _ _), ((Only.refl _ _ _).ext hx0.out).ext (ext_drewN _ _), From.refl _ _⟩
    · have h2 : 4611686018427387904 < t.f0 := by omega
      go_enter Try.func24, Try.ntmps24
      go_wp2
      go_quiet (fail)
      go_wp2
      go_ret
      exact ⟨v, rfl, by rw [hr.out]; exact H0.out.ext (ext_drewN _ _), ((Only.refl _ _ _).ext hx0.out).ext (ext_drewN _ _), From.refl _ _⟩
  · have hr : Hid (setT now L t = insT (cutT L t.f1 t.f2) t) := by show _ = _; simp [setT, hs]
    obtain ⟨h1, h2⟩ := setOk_iff.1 hs
    clear hs
    obtain ⟨q0, q1⟩ := H0.out.cells
    obtain ⟨x0, x1, x2⟩ := hbx.out.cells
    go_enter Try.func24, Try.ntmps24
    go_wp2
    go_quiet (fail)
    go_wp2_with fail
    clear q0 q1 x0 x1 x2
    have hd := Lib.hid (ext_drewN (w.alloc (.cells #[.int .i64 t.f0, .int .i64 t.f1, .int .i64 t.f2] 48)))
    refine (ccut_any t.f1 t.f2 _ B p v now L (H0.out.ext (hd.out _)) hG (by omega)).mono ?_
    rintro e w1 ⟨v1, rfl, hC1, hO1, hF1⟩
    obtain ⟨M, hM⟩ : ∃ M, M = cutT L t.f1 t.f2 := ⟨_, rfl⟩
    have hMn : M.length ≤ 8388607 := by rw [hM]; have := cutT_len L t.f1 t.f2; omega
    have hMG := Lib.hid (cutT_good hG t.f1 t.f2)
    rw [← hM] at hC1 hMG hr
    have HM := Lib.hid hM
    clear hM
    have hOw : Hid (Only w w1 p v) := (hO1.after (hd.out _)).after hx0.out
    have hFw : Hid (From w v v1) := (hF1.after (hd.out _).size).after hx0.out.size
    have hb1 : Hid (Box48 w1 w.heap.size t) := Box48.only (hbx.out.ext (hd.out _)) hO1 (by omega) (fun e => by
      have := Kd.R_lt (H.out.2.2) w.heap.size e
      omega)
    have hC1' := Lib.hid hC1
    have hvg : Hid (v1.ownBlock ≠ some w.heap.size) := fun e => by
      rcases hF1 w.heap.size e with h | h
      · have := Kd.R_lt H.out.2.2 w.heap.size h
        omega
      · simp at h; omega
    obtain ⟨A1, n1, c1, rfl⟩ := Row_slice hC1.2.2
    obtain ⟨hn1, hnc1, hCC⟩ := Kd.R_reads' hC1.2.2
    have hCC' : Hid (Kd.C k48 w1 A1 n1 M) := by show Kd.C _ _ _ _ _; rw [hn1]; exact hCC
    obtain ⟨P, hP⟩ : ∃ P, (posT M t : Int) = P := ⟨_, rfl⟩
    obtain ⟨F, hF⟩ : ∃ F, fndT M t = F := ⟨_, rfl⟩
    have HP := Lib.hid hP
    have HF := Lib.hid hF
    obtain ⟨q0, q1⟩ := hC1.cells
    obtain ⟨x0, x1, x2⟩ := hb1.out.cells
    have y0 := fun d os => cell_regrown q0 d os
    have y1 := fun d os => cell_regrown q1 d os
    have y2 := fun d os => cell_regrown x0 d os
    have y3 := fun d os => cell_regrown x1 d os
    have y4 := fun d os => cell_regrown x2 d os
    clear hn1 hP hF hC1 hCC hO1 hF1 q0 q1 x0 x1 x2
    go_wp2
    refine wp_region_quiet_below (by kernel_rfl) (by kernel_rfl) ?_
    repeat (go_big_quiet_step ((go_at_call 55; exact q55 A1 c1 n1 M t _ hCC'.out hnc1 (by omega) hMG.out.1 HP.out HF.out _ _)))
    refine wpQuiet_nil ?_
    intro _ hw'
    obtain ⟨⟨dq, osq⟩, hw''⟩ := hw'
    subst hw''
    obtain ⟨W2, hW2⟩ : ∃ W2, W2 = Go.Sort.grow (redrawn w1 dq) osq := ⟨_, rfl⟩
    have hz := below_regrown w1 dq osq
    rw [← hW2] at hz ⊢
    have HZ := Lib.hid hz
    clear hW2 hz y0 y1 y2 y3 y4
    go_wp2
    have hC2 := Lib.hid (hC1'.out.ext HZ.out)
    have hb2 := Lib.hid (hb1.out.ext HZ.out)
    obtain ⟨q0, q1⟩ := hC2.out.cells
    obtain ⟨x0, x1, x2⟩ := hb2.out.cells
    have HB2 : Hid (B ≤ W2.heap.size) := by
      show _ ≤ _
      have := hOw.out.2.2.2.1
      have := HZ.out.size
      omega
    have hlp2 := hC2.out.lt
    have hlg2 : w.heap.size < W2.heap.size := blk_lt hb2.out
    go_region_with ((go_at_call 57; refine (set_step t W2 B p w.heap.size (.slice A1 n1 c1) now P M HB2.out hC2.out hMn HP.out hb2.out hvg.out).mono ?_; rintro e w3 ⟨A3, n3, c3, rfl, z, zz, hC3, hO3, hF3⟩; have HC3 := Lib.hid hC3; have HO3 := Lib.hid hO3; have HF3 := Lib.hid hF3; clear hC3 hO3 hF3; obtain ⟨z0, z1, z2, z3⟩ := z; obtain ⟨zz0, zz1, zz2⟩ := zz))
    all_goals
      go_wp2
      go_ret
      exact ⟨_, rfl, by rw [hr.out]; exact HC3.out, (hOw.out.trans hFw.out (HO3.out.after HZ.out)), hFw.out.trans hOw.out.2.2.2.1 (HF3.out.after HZ.out.size)⟩
end
end Go.Proofs.Ythfolhgaecfogaa
