/- A struct by value, nested or not, all of whose cells are ints: opened to its cells. No condition. -/
import Derived.Lib.SmallJoins
import Derived.ChangeArms
import Derived.Carry
namespace Go.Proofs.Ytkbbgjoohffooaa.Agg
open Go.ChangeShapes Go.WideShapes Go.RowKit Go.Joins

/-- A value that is an int of Go. -/
def IsInt (c : Value) : Prop := ∃ a : Int, c = .int .i64 a ∧ (Lit.int .i64 a).wf = true

/-- Every leaf of the type is an int, and the fields lie side by side without a gap. -/
def intTree (P : Program) : Nat → TypeId → Bool
  | 0, _ => false
  | n + 1, t => match P.underlying t with
    | some (.int .i64) => true
    | some (.struct fs) => fs.all (fun f => intTree P n f.type) && (List.range (P.cellsOf t)).all fun i => fs.any fun f => decide (f.offset ≤ i ∧ i < f.offset + P.cellsOf f.type)
    | _ => false

section
variable {H : Type} {enc : TypeId × Value → H} {P : Program} {w : World} {base : Nat} {spare : Nat → Bool} {held : Bool}

theorem ints_of : ∀ (n : Nat) (t : TypeId) (m : Nat) (cs : List Value) (x : DataW H × List MemPlace), intTree P n t = true → DataW.trod enc P w base spare held m t cs = some x → ∀ c ∈ cs, IsInt c := by
  intro n
  induction n with
  | zero => intro t m cs x h; simp [intTree] at h
  | succ n ih =>
    intro t m cs x h hx c hc
    unfold intTree at h
    split at h
    · rename_i hu
      obtain ⟨a, rfl, -, wf⟩ := DataW.trod_int hu hx
      simp at hc
      exact ⟨a, hc, wf⟩
    · rename_i fs hu
      obtain ⟨xs, n', _, _, hl, hlen, hf⟩ := DataW.trod_struct hu hx
      rw [Bool.and_eq_true] at h
      obtain ⟨h1, h2⟩ := h
      obtain ⟨i, hi, rfl⟩ := List.mem_iff_getElem.1 hc
      have h3 := List.all_eq_true.1 h2 i (List.mem_range.2 (by omega))
      obtain ⟨j, hj, h4⟩ := Array.any_eq_true.1 h3
      have h5 := Array.all_eq_true.1 h1 j hj
      have h6 : fs[j].offset ≤ i ∧ i < fs[j].offset + P.cellsOf fs[j].type := by simpa using h4
      have h7 := hf j fs[j] (Array.getElem?_eq_getElem hj)
      have h8 : xs[j]? = some (xs[j]'(by omega)) := List.getElem?_eq_getElem (by omega)
      rw [h8] at h7
      refine ih fs[j].type n' _ _ h5 h7 _ ?_
      rw [List.mem_iff_getElem]
      refine ⟨i - fs[j].offset, ?_, ?_⟩
      · simp; omega
      · simp only [List.getElem_take, List.getElem_drop]
        congr 1; omega
    · cases h

theorem open_ints {r : Reach} {b0 : Nat} {t : TypeId} {fs : Array Field} {v : Value} {d : DataW H} {p : List MemPlace} (hs : P.underlying t = some (.struct fs)) (hi : intTree P 9 t = true)
    (hv : Value.okWide P w r b0 t v) (h : DataW.Trod enc P w base spare held t v d p) : ∃ cs : Array Value, v = .agg cs ∧ cs.size = P.cellsOf t ∧ ∀ c ∈ cs.toList, IsInt c := by
  obtain ⟨cs, rfl, hsz⟩ := okWide_struct hs hv
  obtain ⟨m, hm⟩ := h
  exact ⟨cs, rfl, hsz, ints_of 9 t m _ _ hi hm⟩
theorem open_ints1 {r : Reach} {b0 : Nat} {t : TypeId} {fs : Array Field} {v : Value} {d : DataW H} {p : List MemPlace} (hs : P.underlying t = some (.struct fs)) (hi : intTree P 9 t = true) (hC : P.cellsOf t = 1)
    (hv : Value.okWide P w r b0 t v) (h : DataW.Trod enc P w base spare held t v d p) : ∃ a0 : Int, v = .agg #[.int .i64 a0] ∧ (Lit.int .i64 a0).wf = true := by
  obtain ⟨cs, rfl, hsz, hc⟩ := open_ints hs hi hv h
  obtain ⟨l⟩ := cs
  match l, hsz.trans hC with
  | [c0], _ =>
    obtain ⟨a0, rfl, w0⟩ := hc c0 (by simp)
    exact ⟨a0, rfl, w0⟩
theorem open_ints2 {r : Reach} {b0 : Nat} {t : TypeId} {fs : Array Field} {v : Value} {d : DataW H} {p : List MemPlace} (hs : P.underlying t = some (.struct fs)) (hi : intTree P 9 t = true) (hC : P.cellsOf t = 2)
    (hv : Value.okWide P w r b0 t v) (h : DataW.Trod enc P w base spare held t v d p) : ∃ a0 a1 : Int, v = .agg #[.int .i64 a0, .int .i64 a1] ∧ (Lit.int .i64 a0).wf = true ∧ (Lit.int .i64 a1).wf = true := by
  obtain ⟨cs, rfl, hsz, hc⟩ := open_ints hs hi hv h
  obtain ⟨l⟩ := cs
  match l, hsz.trans hC with
  | [c0, c1], _ =>
    obtain ⟨a0, rfl, w0⟩ := hc c0 (by simp)
    obtain ⟨a1, rfl, w1⟩ := hc c1 (by simp)
    exact ⟨a0, a1, rfl, w0, w1⟩
theorem open_ints3 {r : Reach} {b0 : Nat} {t : TypeId} {fs : Array Field} {v : Value} {d : DataW H} {p : List MemPlace} (hs : P.underlying t = some (.struct fs)) (hi : intTree P 9 t = true) (hC : P.cellsOf t = 3)
    (hv : Value.okWide P w r b0 t v) (h : DataW.Trod enc P w base spare held t v d p) : ∃ a0 a1 a2 : Int, v = .agg #[.int .i64 a0, .int .i64 a1, .int .i64 a2] ∧ (Lit.int .i64 a0).wf = true ∧ (Lit.int .i64 a1).wf = true ∧ (Lit.int .i64 a2).wf = true := by
  obtain ⟨cs, rfl, hsz, hc⟩ := open_ints hs hi hv h
  obtain ⟨l⟩ := cs
  match l, hsz.trans hC with
  | [c0, c1, c2], _ =>
    obtain ⟨a0, rfl, w0⟩ := hc c0 (by simp)
    obtain ⟨a1, rfl, w1⟩ := hc c1 (by simp)
    obtain ⟨a2, rfl, w2⟩ := hc c2 (by simp)
    exact ⟨a0, a1, a2, rfl, w0, w1, w2⟩
theorem open_ints4 {r : Reach} {b0 : Nat} {t : TypeId} {fs : Array Field} {v : Value} {d : DataW H} {p : List MemPlace} (hs : P.underlying t = some (.struct fs)) (hi : intTree P 9 t = true) (hC : P.cellsOf t = 4)
    (hv : Value.okWide P w r b0 t v) (h : DataW.Trod enc P w base spare held t v d p) : ∃ a0 a1 a2 a3 : Int, v = .agg #[.int .i64 a0, .int .i64 a1, .int .i64 a2, .int .i64 a3] ∧ (Lit.int .i64 a0).wf = true ∧ (Lit.int .i64 a1).wf = true ∧ (Lit.int .i64 a2).wf = true ∧ (Lit.int .i64 a3).wf = true := by
  obtain ⟨cs, rfl, hsz, hc⟩ := open_ints hs hi hv h
  obtain ⟨l⟩ := cs
  match l, hsz.trans hC with
  | [c0, c1, c2, c3], _ =>
    obtain ⟨a0, rfl, w0⟩ := hc c0 (by simp)
    obtain ⟨a1, rfl, w1⟩ := hc c1 (by simp)
    obtain ⟨a2, rfl, w2⟩ := hc c2 (by simp)
    obtain ⟨a3, rfl, w3⟩ := hc c3 (by simp)
    exact ⟨a0, a1, a2, a3, rfl, w0, w1, w2, w3⟩
theorem open_ints5 {r : Reach} {b0 : Nat} {t : TypeId} {fs : Array Field} {v : Value} {d : DataW H} {p : List MemPlace} (hs : P.underlying t = some (.struct fs)) (hi : intTree P 9 t = true) (hC : P.cellsOf t = 5)
    (hv : Value.okWide P w r b0 t v) (h : DataW.Trod enc P w base spare held t v d p) : ∃ a0 a1 a2 a3 a4 : Int, v = .agg #[.int .i64 a0, .int .i64 a1, .int .i64 a2, .int .i64 a3, .int .i64 a4] ∧ (Lit.int .i64 a0).wf = true ∧ (Lit.int .i64 a1).wf = true ∧ (Lit.int .i64 a2).wf = true ∧ (Lit.int .i64 a3).wf = true ∧ (Lit.int .i64 a4).wf = true := by
  obtain ⟨cs, rfl, hsz, hc⟩ := open_ints hs hi hv h
  obtain ⟨l⟩ := cs
  match l, hsz.trans hC with
  | [c0, c1, c2, c3, c4], _ =>
    obtain ⟨a0, rfl, w0⟩ := hc c0 (by simp)
    obtain ⟨a1, rfl, w1⟩ := hc c1 (by simp)
    obtain ⟨a2, rfl, w2⟩ := hc c2 (by simp)
    obtain ⟨a3, rfl, w3⟩ := hc c3 (by simp)
    obtain ⟨a4, rfl, w4⟩ := hc c4 (by simp)
    exact ⟨a0, a1, a2, a3, a4, rfl, w0, w1, w2, w3, w4⟩
theorem open_ints6 {r : Reach} {b0 : Nat} {t : TypeId} {fs : Array Field} {v : Value} {d : DataW H} {p : List MemPlace} (hs : P.underlying t = some (.struct fs)) (hi : intTree P 9 t = true) (hC : P.cellsOf t = 6)
    (hv : Value.okWide P w r b0 t v) (h : DataW.Trod enc P w base spare held t v d p) : ∃ a0 a1 a2 a3 a4 a5 : Int, v = .agg #[.int .i64 a0, .int .i64 a1, .int .i64 a2, .int .i64 a3, .int .i64 a4, .int .i64 a5] ∧ (Lit.int .i64 a0).wf = true ∧ (Lit.int .i64 a1).wf = true ∧ (Lit.int .i64 a2).wf = true ∧ (Lit.int .i64 a3).wf = true ∧ (Lit.int .i64 a4).wf = true ∧ (Lit.int .i64 a5).wf = true := by
  obtain ⟨cs, rfl, hsz, hc⟩ := open_ints hs hi hv h
  obtain ⟨l⟩ := cs
  match l, hsz.trans hC with
  | [c0, c1, c2, c3, c4, c5], _ =>
    obtain ⟨a0, rfl, w0⟩ := hc c0 (by simp)
    obtain ⟨a1, rfl, w1⟩ := hc c1 (by simp)
    obtain ⟨a2, rfl, w2⟩ := hc c2 (by simp)
    obtain ⟨a3, rfl, w3⟩ := hc c3 (by simp)
    obtain ⟨a4, rfl, w4⟩ := hc c4 (by simp)
    obtain ⟨a5, rfl, w5⟩ := hc c5 (by simp)
    exact ⟨a0, a1, a2, a3, a4, a5, rfl, w0, w1, w2, w3, w4, w5⟩
theorem open_ints8 {r : Reach} {b0 : Nat} {t : TypeId} {fs : Array Field} {v : Value} {d : DataW H} {p : List MemPlace} (hs : P.underlying t = some (.struct fs)) (hi : intTree P 9 t = true) (hC : P.cellsOf t = 8)
    (hv : Value.okWide P w r b0 t v) (h : DataW.Trod enc P w base spare held t v d p) : ∃ a0 a1 a2 a3 a4 a5 a6 a7 : Int, v = .agg #[.int .i64 a0, .int .i64 a1, .int .i64 a2, .int .i64 a3, .int .i64 a4, .int .i64 a5, .int .i64 a6, .int .i64 a7] ∧ (Lit.int .i64 a0).wf = true ∧ (Lit.int .i64 a1).wf = true ∧ (Lit.int .i64 a2).wf = true ∧ (Lit.int .i64 a3).wf = true ∧ (Lit.int .i64 a4).wf = true ∧ (Lit.int .i64 a5).wf = true ∧ (Lit.int .i64 a6).wf = true ∧ (Lit.int .i64 a7).wf = true := by
  obtain ⟨cs, rfl, hsz, hc⟩ := open_ints hs hi hv h
  obtain ⟨l⟩ := cs
  match l, hsz.trans hC with
  | [c0, c1, c2, c3, c4, c5, c6, c7], _ =>
    obtain ⟨a0, rfl, w0⟩ := hc c0 (by simp)
    obtain ⟨a1, rfl, w1⟩ := hc c1 (by simp)
    obtain ⟨a2, rfl, w2⟩ := hc c2 (by simp)
    obtain ⟨a3, rfl, w3⟩ := hc c3 (by simp)
    obtain ⟨a4, rfl, w4⟩ := hc c4 (by simp)
    obtain ⟨a5, rfl, w5⟩ := hc c5 (by simp)
    obtain ⟨a6, rfl, w6⟩ := hc c6 (by simp)
    obtain ⟨a7, rfl, w7⟩ := hc c7 (by simp)
    exact ⟨a0, a1, a2, a3, a4, a5, a6, a7, rfl, w0, w1, w2, w3, w4, w5, w6, w7⟩
theorem open_ints11 {r : Reach} {b0 : Nat} {t : TypeId} {fs : Array Field} {v : Value} {d : DataW H} {p : List MemPlace} (hs : P.underlying t = some (.struct fs)) (hi : intTree P 9 t = true) (hC : P.cellsOf t = 11)
    (hv : Value.okWide P w r b0 t v) (h : DataW.Trod enc P w base spare held t v d p) : ∃ a0 a1 a2 a3 a4 a5 a6 a7 a8 a9 a10 : Int, v = .agg #[.int .i64 a0, .int .i64 a1, .int .i64 a2, .int .i64 a3, .int .i64 a4, .int .i64 a5, .int .i64 a6, .int .i64 a7, .int .i64 a8, .int .i64 a9, .int .i64 a10] ∧ (Lit.int .i64 a0).wf = true ∧ (Lit.int .i64 a1).wf = true ∧ (Lit.int .i64 a2).wf = true ∧ (Lit.int .i64 a3).wf = true ∧ (Lit.int .i64 a4).wf = true ∧ (Lit.int .i64 a5).wf = true ∧ (Lit.int .i64 a6).wf = true ∧ (Lit.int .i64 a7).wf = true ∧ (Lit.int .i64 a8).wf = true ∧ (Lit.int .i64 a9).wf = true ∧ (Lit.int .i64 a10).wf = true := by
  obtain ⟨cs, rfl, hsz, hc⟩ := open_ints hs hi hv h
  obtain ⟨l⟩ := cs
  match l, hsz.trans hC with
  | [c0, c1, c2, c3, c4, c5, c6, c7, c8, c9, c10], _ =>
    obtain ⟨a0, rfl, w0⟩ := hc c0 (by simp)
    obtain ⟨a1, rfl, w1⟩ := hc c1 (by simp)
    obtain ⟨a2, rfl, w2⟩ := hc c2 (by simp)
    obtain ⟨a3, rfl, w3⟩ := hc c3 (by simp)
    obtain ⟨a4, rfl, w4⟩ := hc c4 (by simp)
    obtain ⟨a5, rfl, w5⟩ := hc c5 (by simp)
    obtain ⟨a6, rfl, w6⟩ := hc c6 (by simp)
    obtain ⟨a7, rfl, w7⟩ := hc c7 (by simp)
    obtain ⟨a8, rfl, w8⟩ := hc c8 (by simp)
    obtain ⟨a9, rfl, w9⟩ := hc c9 (by simp)
    obtain ⟨a10, rfl, w10⟩ := hc c10 (by simp)
    exact ⟨a0, a1, a2, a3, a4, a5, a6, a7, a8, a9, a10, rfl, w0, w1, w2, w3, w4, w5, w6, w7, w8, w9, w10⟩
end
end Go.Proofs.Ytkbbgjoohffooaa.Agg
