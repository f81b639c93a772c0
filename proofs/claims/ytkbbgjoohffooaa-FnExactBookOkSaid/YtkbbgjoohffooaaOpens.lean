/- An argument opened to what a printed contract asks for: a slice of whatever kind the element's reading gives; a struct by value of one-cell fields. No condition. -/
import Derived.Deep.Slices
import Derived.ChangeSame
import Derived.Test.YtkbbgjoohffooaaAgg
import Derived.Test.YtkbbgjoohffooaaWWords
namespace Go.Proofs.Ytkbbgjoohffooaa.Opens
open Go.ChangeShapes Go.WideShapes Go.RowKit Go.Joins Go.Deep Go.Proofs.YtkbbgjoohffooaaW.PrintWords

section
variable {H : Type} {enc : TypeId × Value → H} {P : Program} {w : World} {base : Nat} {spare : Nat → Bool} {held : Bool}

/-- What the element's reading gives, a slice's reading gives of each element. -/
theorem open_slice_kd {α : Type} (d : Kd α) (Good : α → Prop) {t e : TypeId} {fuel : Nat} {cs : List Value} {x : DataW H × List MemPlace} (ht : P.underlying t = some (.slice e)) (hsz : d.sz = P.cellsOf e)
    (El : ∀ m cs x, DataW.trod enc P w base spare held m e cs = some x → ∃ p, d.K w p cs ∧ Good p) (h : DataW.trod enc P w base spare held fuel t cs = some x) :
    ∃ A c, ∃ l : List α, cs = [.slice A l.length c] ∧ d.C w A l.length l ∧ l.length ≤ c ∧ l.length ≤ maxLen ∧ ∀ p ∈ l, Good p := by
  rcases open_slice ht h with ⟨rfl, _⟩ | ⟨a, len, cap, m, n, D, Pl, rfl, _, hl, hm, hmm, _, hi⟩
  · exact ⟨none, 0, [], rfl, ⟨rfl, by simp, fun h => by simp at h⟩, by simp, by simp, fun p hp => by cases hp⟩
  · have hlm : len ≤ m := by rw [hmm]; split <;> omega
    have key : ∀ i, i < len → ∃ p, Good p ∧ ∃ cs', cs'.length = d.sz ∧ d.K w p cs' ∧ ∀ j u, cs'[j]? = some u → w.cell? (a.add (i * d.sz + j)) = some u := by
      intro i hil
      obtain ⟨cs', hc, ht'⟩ := hi i (by omega)
      obtain ⟨p, hp, hg⟩ := El _ _ _ ht'
      obtain ⟨_, hcl, hat⟩ := World.cells?_some hc
      refine ⟨p, hg, cs', by omega, hp, fun j u hu => ?_⟩
      have hj : j < cs'.length := (List.getElem?_eq_some_iff.1 hu).1
      have := hat j (by omega)
      rw [hu, Go.Deep.add_add] at this
      rw [hsz]; exact this
    by_cases h0 : len = 0
    · subst h0
      exact ⟨some a, cap, [], rfl, ⟨rfl, by simp, fun h => by simp at h⟩, by simp, by simp, fun p hp => by cases hp⟩
    · obtain ⟨p0, _⟩ := key 0 (by omega)
      have : ∃ F : Nat → α, ∀ i, i < len → Good (F i) ∧ ∃ cs', cs'.length = d.sz ∧ d.K w (F i) cs' ∧ ∀ j u, cs'[j]? = some u → w.cell? (a.add (i * d.sz + j)) = some u := by
        refine ⟨fun i => if hil : i < len then Classical.choose (key i hil) else p0, fun i hil => ?_⟩
        simp only [hil, dif_pos]
        exact Classical.choose_spec (key i hil)
      obtain ⟨F, hF⟩ := this
      have hlen : ((List.range len).map F).length = len := by simp
      refine ⟨some a, cap, (List.range len).map F, by rw [hlen], ⟨rfl, ?_, fun _ => ⟨a, rfl, fun j p hj => ?_⟩⟩, by rw [hlen]; exact hl, by rw [hlen]; omega, fun p hp => ?_⟩
      · rw [hlen]; unfold maxLen at hm; omega
      · obtain ⟨hjl, rfl⟩ := List.getElem?_eq_some_iff.1 hj
        have hjn : j < len := by simpa using hjl
        simp only [List.getElem_map, List.getElem_range]
        exact (hF j hjn).2
      · obtain ⟨i, hil, rfl⟩ := List.mem_map.1 hp
        exact (hF i (List.mem_range.1 hil)).1

theorem el_int {e : TypeId} {k : IntKind} (he : P.underlying e = some (.int k)) : ∀ m cs (x : DataW H × List MemPlace), DataW.trod enc P w base spare held m e cs = some x → ∃ p, (Kd.int k).K w p cs ∧ (Lit.int k p).wf = true := by
  intro m cs x h
  obtain ⟨a, rfl, -, wf⟩ := DataW.trod_int he h
  exact ⟨a, rfl, wf⟩
theorem el_slice {α : Type} (d : Kd α) (Good : α → Prop) {t e : TypeId} (q : Nat) (ht : P.underlying t = some (.slice e)) (hsz : d.sz = P.cellsOf e)
    (El : ∀ m cs (x : DataW H × List MemPlace), DataW.trod enc P w base spare held m e cs = some x → ∃ p, d.K w p cs ∧ Good p) :
    ∀ m cs (x : DataW H × List MemPlace), DataW.trod enc P w base spare held m t cs = some x → ∃ p, (Kd.slice q d).K w p cs ∧ (p.length ≤ maxLen ∧ ∀ y ∈ p, Good y) := by
  intro m cs x h
  obtain ⟨A, c, l, e1, h1, h2, h3, h4⟩ := open_slice_kd d Good ht hsz El h
  exact ⟨l, ⟨A, c, e1, h2, h1⟩, h3, h4⟩
/-- A struct of n ints by its cells. -/
theorem el_ints {e : TypeId} {fs : Array Go.Field} (n : Nat) (he : P.underlying e = some (.struct fs)) (hi : Agg.intTree P 9 e = true) (hC : P.cellsOf e = n) : ∀ m cs (x : DataW H × List MemPlace), DataW.trod enc P w base spare held m e cs = some x → cs.length = n ∧ ∀ c ∈ cs, Agg.IsInt c := by
  intro m cs x h
  obtain ⟨xs, n', _, _, hl, _⟩ := DataW.trod_struct he h
  exact ⟨by omega, Agg.ints_of 9 e m cs x hi h⟩

theorem open_fields {r : Reach} {b0 : Nat} {t : TypeId} {fs : Array Go.Field} {v : Value} {d : DataW H} {p : List MemPlace} (hs : P.underlying t = some (.struct fs)) (hone : oneCellFields P fs = true) (hC : P.cellsOf t = fs.size)
    (hv : Value.okWide P w r b0 t v) (h : DataW.Trod enc P w base spare held t v d p) :
    ∃ l : List Value, v = .agg ⟨l⟩ ∧ l.length = fs.size ∧ ∀ (j : Nat) (f : Go.Field) (c : Value), fs[j]? = some f → l[j]? = some c → ∃ m y, DataW.trod enc P w base spare held m f.type [c] = some y := by
  obtain ⟨cs, rfl, hsz⟩ := okWide_struct hs hv
  obtain ⟨l⟩ := cs
  obtain ⟨fuel, hf⟩ := h
  obtain ⟨ys, n', _, _, hlen, hyl, hg⟩ := DataW.trod_struct hs hf
  refine ⟨l, rfl, by rw [← hC, ← hsz]; rfl, fun j f c hj hc => ?_⟩
  obtain ⟨ho, hk⟩ := hone_of hone j f hj
  have h1 := hg j f hj
  have hjl : j < fs.size := (Array.getElem?_eq_some_iff.1 hj).1
  have hys : ys[j]? = some (ys[j]'(by omega)) := List.getElem?_eq_getElem (by omega)
  obtain ⟨hcl, rfl⟩ := List.getElem?_eq_some_iff.1 hc
  rw [ho, hk] at h1
  have e1 : ((Value.agg ⟨l⟩).cells.toList.drop j).take 1 = [l[j]] := by
    show (l.drop j).take 1 = _
    rw [List.drop_eq_getElem_cons hcl]; rfl
  rw [e1, hys] at h1
  exact ⟨n', _, h1⟩
theorem open_fields2 {r : Reach} {b0 : Nat} {t : TypeId} {f0 f1 : Go.Field} {v : Value} {d : DataW H} {p : List MemPlace} (hs : P.underlying t = some (.struct #[f0, f1])) (hone : oneCellFields P #[f0, f1] = true) (hC : P.cellsOf t = 2)
    (hv : Value.okWide P w r b0 t v) (h : DataW.Trod enc P w base spare held t v d p) : ∃ c0 c1 : Value, v = .agg #[c0, c1] ∧ (∃ m y, DataW.trod enc P w base spare held m f0.type [c0] = some y) ∧ (∃ m y, DataW.trod enc P w base spare held m f1.type [c1] = some y) := by
  obtain ⟨l, rfl, hl, hf⟩ := open_fields hs hone hC hv h
  match l, hl with
  | [c0, c1], _ =>
    exact ⟨c0, c1, rfl, hf 0 f0 c0 rfl rfl, hf 1 f1 c1 rfl rfl⟩
theorem open_fields4 {r : Reach} {b0 : Nat} {t : TypeId} {f0 f1 f2 f3 : Go.Field} {v : Value} {d : DataW H} {p : List MemPlace} (hs : P.underlying t = some (.struct #[f0, f1, f2, f3])) (hone : oneCellFields P #[f0, f1, f2, f3] = true) (hC : P.cellsOf t = 4)
    (hv : Value.okWide P w r b0 t v) (h : DataW.Trod enc P w base spare held t v d p) : ∃ c0 c1 c2 c3 : Value, v = .agg #[c0, c1, c2, c3] ∧ (∃ m y, DataW.trod enc P w base spare held m f0.type [c0] = some y) ∧ (∃ m y, DataW.trod enc P w base spare held m f1.type [c1] = some y) ∧ (∃ m y, DataW.trod enc P w base spare held m f2.type [c2] = some y) ∧ (∃ m y, DataW.trod enc P w base spare held m f3.type [c3] = some y) := by
  obtain ⟨l, rfl, hl, hf⟩ := open_fields hs hone hC hv h
  match l, hl with
  | [c0, c1, c2, c3], _ =>
    exact ⟨c0, c1, c2, c3, rfl, hf 0 f0 c0 rfl rfl, hf 1 f1 c1 rfl rfl, hf 2 f2 c2 rfl rfl, hf 3 f3 c3 rfl rfl⟩
theorem open_fields6 {r : Reach} {b0 : Nat} {t : TypeId} {f0 f1 f2 f3 f4 f5 : Go.Field} {v : Value} {d : DataW H} {p : List MemPlace} (hs : P.underlying t = some (.struct #[f0, f1, f2, f3, f4, f5])) (hone : oneCellFields P #[f0, f1, f2, f3, f4, f5] = true) (hC : P.cellsOf t = 6)
    (hv : Value.okWide P w r b0 t v) (h : DataW.Trod enc P w base spare held t v d p) : ∃ c0 c1 c2 c3 c4 c5 : Value, v = .agg #[c0, c1, c2, c3, c4, c5] ∧ (∃ m y, DataW.trod enc P w base spare held m f0.type [c0] = some y) ∧ (∃ m y, DataW.trod enc P w base spare held m f1.type [c1] = some y) ∧ (∃ m y, DataW.trod enc P w base spare held m f2.type [c2] = some y) ∧ (∃ m y, DataW.trod enc P w base spare held m f3.type [c3] = some y) ∧ (∃ m y, DataW.trod enc P w base spare held m f4.type [c4] = some y) ∧ (∃ m y, DataW.trod enc P w base spare held m f5.type [c5] = some y) := by
  obtain ⟨l, rfl, hl, hf⟩ := open_fields hs hone hC hv h
  match l, hl with
  | [c0, c1, c2, c3, c4, c5], _ =>
    exact ⟨c0, c1, c2, c3, c4, c5, rfl, hf 0 f0 c0 rfl rfl, hf 1 f1 c1 rfl rfl, hf 2 f2 c2 rfl rfl, hf 3 f3 c3 rfl rfl, hf 4 f4 c4 rfl rfl, hf 5 f5 c5 rfl rfl⟩
end
end Go.Proofs.Ytkbbgjoohffooaa.Opens
