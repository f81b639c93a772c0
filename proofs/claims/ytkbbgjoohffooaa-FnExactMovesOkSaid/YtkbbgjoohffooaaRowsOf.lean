/- Slices of slices that the statements make: the outer block with its cells, each a row of its own, no two rows in one block. No condition. -/
import Derived.Test.YtkbbgjoohffooaaWWords
import Derived.Test.YtkbbgjoohffooaaWLast
import Derived.Test.YtkbbgjoohffooaaWMore
import Derived.Test.YtkbbgjoohffooaaWApart
import Derived.Test.YtkbbgjoohffooaaWKept
import Derived.Laws.MakeOwn
namespace Go.Proofs.Ytkbbgjoohffooaa.RowsOf
open Go.RowKit Go.Proofs.YtkbbgjoohffooaaW.PrintWords Go.Proofs.YtkbbgjoohffooaaW.PrintLast Go.Proofs.YtkbbgjoohffooaaW.PrintMore
set_option linter.unusedVariables false
set_option linter.unusedSimpArgs false
theorem made_one (v : Value) (m : Nat) : madeCells #[v] m = ⟨List.replicate m v⟩ := by
  apply Array.ext
  · simp [madeCells]
  · intro i h1 h2
    simp [madeCells, Nat.mod_one]
def Grid {α : Type} (d : Kd α) (e t : Nat) (W : World) (g base : Nat) (vs : List Value) (ls : List (List α)) : Prop :=
  W.heap[g]? = some (.cells ⟨vs⟩ t (0, 0)) ∧ vs.length = ls.length ∧ (∀ j x, ls[j]? = some x → d.R e W base (fun k => k ≠ g) (vs.getD j undef) x) ∧
    (∀ i j b, (vs.getD i undef).ownBlock = some b → (vs.getD j undef).ownBlock = some b → i = j)
section
variable {α : Type} {d : Kd α} {e t : Nat} {W W' : World} {g base : Nat} {vs : List Value} {ls : List (List α)}
theorem Grid.new (n : Nat) (base : Nat) : Grid d e t (W.alloc (.cells ⟨List.replicate n (.slice none 0 0)⟩ t)) W.heap.size base (List.replicate n (.slice none 0 0)) (List.replicate n []) := by
  refine ⟨blk_new W _, by simp, fun j x hx => ?_, fun i j b hi hj => ?_⟩
  · obtain ⟨hj, rfl⟩ := List.getElem?_eq_some_iff.1 hx
    rw [List.length_replicate] at hj
    rw [List.getElem_replicate, List.getD_eq_getElem?_getD, List.getElem?_replicate, if_pos hj]
    exact Kd.R_nil _ _ _ _ _
  · rw [List.getD_eq_getElem?_getD, List.getElem?_replicate] at hi
    split at hi <;> simp [Value.ownBlock, undef] at hi
theorem Grid.lt (h : Grid d e t W g base vs ls) : g < W.heap.size := blk_lt h.1
theorem Grid.below (h : Grid d e t W g base vs ls) (hb : Below W.heap.size W W') : Grid d e t W' g base vs ls :=
  ⟨blk_below h.1 hb, h.2.1, fun j x hx => Kd.R_below (h.2.2.1 j x hx) hb, h.2.2.2⟩
theorem Grid.row (h : Grid d e t W g base vs ls) {j : Nat} {x : List α} (hx : ls[j]? = some x) : d.R e W base (fun k => k ≠ g) (vs.getD j undef) x := h.2.2.1 j x hx
theorem Grid.cell (h : Grid d e t W g base vs ls) {j : Nat} (hj : j < ls.length) : W.cell? ⟨g, j, none⟩ = some (vs.getD j undef) := by
  rw [blk_cell h.1 j]
  have := h.2.1
  simp [List.getD_eq_getElem?_getD, List.getElem?_eq_getElem (show j < vs.length by omega)]
theorem Grid.frozen (h : Grid d e t W g base vs ls) (j : Nat) : W.frozen? ⟨g, j, none⟩ = false := blk_frozen h.1 j
theorem getD_set_eq' (vs : List Value) (i : Nat) (v : Value) (h : i < vs.length) : (vs.set i v).getD i undef = v := by
  simp [List.getD_eq_getElem?_getD, h]
theorem getD_set_ne' (vs : List Value) (i j : Nat) (v : Value) (h : i ≠ j) : (vs.set i v).getD j undef = vs.getD j undef := by
  rw [List.getD_eq_getElem?_getD, List.getElem?_set_ne h, ← List.getD_eq_getElem?_getD]
/-- A new row is stored. -/
theorem Grid.put (h : Grid d e t W g base vs ls) {i : Nat} (hi : i < ls.length) {v : Value} {x : List α} (hv : d.R e W base (fun k => k ≠ g) v x) (hnew : ∀ j b, v.ownBlock = some b → (vs.getD j undef).ownBlock ≠ some b) :
    Grid d e t (W.setCell ⟨g, i, none⟩ v) g base (vs.set i v) (ls.set i x) := by
  have hl := h.2.1
  refine ⟨blk_put h.1 i v (by simp), by simp [hl], fun j y hy => ?_, fun a b c ha hb => ?_⟩
  · by_cases c : i = j
    · subst c
      rw [getD_set_eq' _ _ _ (by omega)]
      rw [List.getElem?_set_self (by omega)] at hy
      cases hy
      exact Kd.R_far hv (fun k hk => hk) _
    · rw [getD_set_ne' _ _ _ _ c]
      rw [List.getElem?_set_ne c] at hy
      exact Kd.R_far (h.2.2.1 j y hy) (fun k hk => hk) _
  · by_cases c1 : i = a
    · subst c1
      rw [getD_set_eq' _ _ _ (by omega)] at ha
      by_cases c2 : i = b
      · exact c2
      · rw [getD_set_ne' _ _ _ _ c2] at hb
        exact absurd hb (hnew b c ha)
    · rw [getD_set_ne' _ _ _ _ c1] at ha
      by_cases c2 : i = b
      · subst c2
        rw [getD_set_eq' _ _ _ (by omega)] at hb
        exact absurd ha (hnew a c hb)
      · rw [getD_set_ne' _ _ _ _ c2] at hb
        exact h.2.2.2 a b c ha hb
/-- A store into an elder block. -/
theorem Grid.far (h : Grid d e t W g base vs ls) (hg : base ≤ g) {b o : Nat} (hb : b < base) (u : Value) : Grid d e t (W.setCell ⟨b, o, none⟩ u) g base vs ls :=
  ⟨blk_far h.1 (p := ⟨b, o, none⟩) (by show g ≠ b; omega) u, h.2.1,
    fun j x hx => Kd.R_mono (Kd.R_far (p := ⟨b, o, none⟩) (Kd.R_mono (Kd.R_bound (h.2.2.1 j x hx)) (ok' := fun k => k ≠ g ∧ base ≤ k) (fun k hk => ⟨hk.1, hk.2.1⟩)) (fun k hk => by have := hk.2; show k ≠ b; omega) u) (fun k hk => hk.1), h.2.2.2⟩
/-- What owns a block of W's is none of a row that is newer. -/
theorem Grid.fresh (h : Grid d e t W g base vs ls) {v : Value} {x : List α} {d' : Kd α} {e' : Nat} {ok : Nat → Prop} (hv : d'.R e' W' W.heap.size ok v x) : ∀ j b, v.ownBlock = some b → (vs.getD j undef).ownBlock ≠ some b := by
  intro j b hb hj
  have h1 := Kd.R_base hv b hb
  by_cases c : j < ls.length
  · have h2 := Kd.R_lt (h.2.2.1 j _ (List.getElem?_eq_getElem c)) b hj
    omega
  · rw [List.getD_eq_getElem?_getD, List.getElem?_eq_none (by have := h.2.1; omega)] at hj
    simp [Value.ownBlock, undef] at hj
/-- Another row than the j-th is written. -/
theorem Grid.reads (h : Grid d e t W g base vs ls) (hm : ls.length ≤ 9223372036854775807) : Kd.C (Kd.slice e d) W (some ⟨g, 0, none⟩) ls.length ls := by
  refine ⟨rfl, hm, fun _ => ⟨_, rfl, fun j x hj => ?_⟩⟩
  have hl : j < ls.length := (List.getElem?_eq_some_iff.1 hj).1
  have hr := h.row hj
  obtain ⟨A, c, ev⟩ := Kd.R_slice hr
  rw [ev] at hr
  have hrd := Kd.R_reads' hr
  refine ⟨[vs.getD j undef], rfl, ⟨A, c, by rw [ev], hrd.2.1, hrd.2.2⟩, fun i u hu => ?_⟩
  cases i with
  | succ i => simp at hu
  | zero =>
    obtain rfl : vs.getD j undef = u := by simpa using hu
    have ea : (Addr.add ⟨g, 0, none⟩ (j * (Kd.slice e d).sz + 0)) = (⟨g, j, none⟩ : Addr) := by
      show Addr.add ⟨g, 0, none⟩ (j * 1 + 0) = _
      unfold Addr.add
      by_cases c : j = 0
      · subst c; rfl
      · rw [if_neg (by omega)]; simp
    rw [ea]
    exact h.cell hl
/-- The j-th row is written by a call that leaves all other blocks alone. -/
theorem Grid.turn (h : Grid d e t W g base vs ls) (hE : d.E = []) {i : Nat} (hi : i < ls.length) {x : List α} {ok : Nat → Prop} (hR : d.R e W' base ok (vs.getD i undef) x) (hK : Kept W W' (fun k => some k = (vs.getD i undef).ownBlock)) :
    Grid d e t W' g base vs (ls.set i x) := by
  have hrow := h.row (List.getElem?_eq_getElem hi)
  have hne : some g ≠ (vs.getD i undef).ownBlock := fun e_ => hrow.1 g e_.symm rfl
  refine ⟨(hK.2 g h.lt hne).trans h.1, by rw [List.length_set]; exact h.2.1, fun j y hy => ?_, h.2.2.2⟩
  by_cases c : i = j
  · subst c
    rw [List.getElem?_set_self hi] at hy
    cases hy
    exact Kd.R_reok hE hR (fun k hk e_ => hne (by rw [← e_]; exact hk.symm))
  · rw [List.getElem?_set_ne c] at hy
    have hj := h.row hy
    exact Kd.R_reok hE (Kd.R_step (Kd.R_tight hE hj) (fun k hk hlt => hK.2 k hlt (fun e_ => c (h.2.2.2 i j k e_.symm hk.symm)))) (fun k hk => hj.1 k hk)
end
/-- What a slice of slices that came in holds at i. -/
theorem at_rows {α : Type} {d : Kd α} {e : Nat} {w : World} {A : Option Addr} {n : Nat} {xs : List (List α)} (h : Kd.C (Kd.slice e d) w A n xs) (i : Nat) (h1 : i < n) :
    ∃ ad A0 c0 x, A = some ad ∧ xs[i]? = some x ∧ w.cell? (ad.add i) = some (.slice A0 x.length c0) ∧ x.length ≤ c0 ∧ d.C w A0 x.length x := by
  obtain ⟨rfl, _, hc⟩ := h
  obtain ⟨ad, ed, hc⟩ := hc (by omega)
  obtain ⟨c, hl, ⟨A0, c0, rfl, l0, g0⟩, hcell⟩ := hc i _ (List.getElem?_eq_getElem h1)
  refine ⟨ad, A0, c0, _, ed, List.getElem?_eq_getElem h1, ?_, l0, g0⟩
  have := hcell 0 _ rfl
  show w.cell? (ad.add i) = _
  have e1 : i * (Kd.slice e d).sz + 0 = i := by show i * 1 + 0 = i; omega
  rwa [e1] at this
end Go.Proofs.Ytkbbgjoohffooaa.RowsOf
