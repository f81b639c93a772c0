/- A map of the call's own that is keyed by a pair of ints, as a set: each key once, each element 1. Its operations at the world's cells. -/
import Derived.Test.YtkbbgjoohffooaaProg
import Derived.Below
import Derived.DeepKeys4
import Derived.WideKeyEntry
import Derived.Carry
namespace Go.Proofs.Ytkbbgjoohffooaa.MapP
open Go Go.RowKit Go.ChangeMaps Go.WideMaps Go.WideElems Go.MapKept
set_option linter.unusedVariables false
set_option linter.unusedSimpArgs false
/-- The key of a pair. -/
def keyV (p : Int × Int) : Value := .agg #[.int .i64 p.1, .int .i64 p.2]
theorem keyV_inj {p q : Int × Int} (h : keyV p = keyV q) : p = q := by
  obtain ⟨a, b⟩ := p
  obtain ⟨c, d⟩ := q
  simp [keyV] at h
  rw [h.1, h.2]
def wfP (p : Int × Int) : Prop := (Lit.int .i64 p.1).wf = true ∧ (Lit.int .i64 p.2).wf = true
/-- What is asked of the map's type. -/
structure MK (t k : TypeId) : Prop where
  law : KeyLaw Try.prog k
  ht : Try.prog.underlying t = some (.map k 3)
  key : ∀ p, wfP p → ∃ kl, keyOf Try.prog k (keyV p) = some kl
/-- The entries of a set of pairs. -/
def entL : Nat → List (Int × Int) → List MapEntry
  | _, [] => []
  | i, p :: r => ⟨keyV p, .int .i64 1, i⟩ :: entL (i + 1) r
theorem entL_append (p : Int × Int) : ∀ (l : List (Int × Int)) (i : Nat), entL i (l ++ [p]) = entL i l ++ [⟨keyV p, .int .i64 1, i + l.length⟩]
  | [], i => by simp [entL]
  | q :: r, i => by simp [entL, entL_append p r (i + 1)]; omega
theorem entL_mem : ∀ (l : List (Int × Int)) (i : Nat) (e : MapEntry), e ∈ entL i l → ∃ p ∈ l, e.key = keyV p ∧ e.val = .int .i64 1 ∧ e.born < i + l.length
  | [], i, e, h => by simp [entL] at h
  | q :: r, i, e, h => by
    simp only [entL, List.mem_cons] at h
    rcases h with rfl | h
    · exact ⟨q, by simp, rfl, rfl, by simp⟩
    · obtain ⟨p, hp, a, b, c⟩ := entL_mem r (i + 1) e h
      exact ⟨p, by simp [hp], a, b, by simp; omega⟩
theorem entL_has : ∀ (l : List (Int × Int)) (i : Nat) (p : Int × Int), p ∈ l → ∃ e ∈ entL i l, e.key = keyV p
  | [], i, p, h => by simp at h
  | q :: r, i, p, h => by
    simp only [List.mem_cons] at h
    rcases h with rfl | h
    · exact ⟨_, by simp only [entL, List.mem_cons]; exact .inl rfl, rfl⟩
    · obtain ⟨e, he, hk⟩ := entL_has r (i + 1) p h
      exact ⟨e, by simp [entL, he], hk⟩
def ents (l : List (Int × Int)) : Array MapEntry := (entL 0 l).toArray
theorem ents_push (l : List (Int × Int)) (p : Int × Int) : ents (l ++ [p]) = (ents l).push ⟨keyV p, .int .i64 1, l.length⟩ := by
  unfold ents
  rw [entL_append]
  simp
theorem ents_size : ∀ (l : List (Int × Int)) (i : Nat), (entL i l).length = l.length
  | [], i => rfl
  | q :: r, i => by simp [entL, ents_size r (i + 1)]
/-- The set is at the block. -/
def IsSet (w : World) (b : Nat) (l : List (Int × Int)) : Prop := w.heap[b]? = some (.map (ents l) l.length)
section
variable {w : World} {t k : TypeId} {b : Nat} {l : List (Int × Int)} {p : Int × Int}
theorem zero3 (w : World) : (zeroValue 3).run Try.prog w = .ok (.int .i64 0) w := by kernel_rfl
theorem keys_ok (M : MK t k) (hl : ∀ q ∈ l, wfP q) : ∀ e ∈ (ents l).toList, ∃ kl, keyOf Try.prog k e.key = some kl := by
  intro e he
  obtain ⟨q, hq, hk, _⟩ := entL_mem l 0 e (by simpa [ents] using he)
  rw [hk]
  exact M.key q (hl q hq)
theorem look_out (M : MK t k) (h : IsSet w b l) (hl : ∀ q ∈ l, wfP q) (hp : wfP p) (hn : p ∉ l) : (Instr.lookup t (.map (some b)) (keyV p) false).run Try.prog w = .ok (.int .i64 0) w := by
  obtain ⟨kl, hk⟩ := M.key p hp
  rcases M.law.find w hk (ents l).toList (keys_ok M hl) with ⟨h1, h2⟩ | ⟨j, e0, h1, h2, h3⟩
  · simp [Instr.lookup, run_underlying M.ht, Go.MapKept.run_getObj_map (show w.heap[b]? = some (.map (ents l) l.length) from h), M.law.check w _ hk, h1, zero3, Result.andThen]
  · exfalso
    obtain ⟨q, hq, hkq, _⟩ := entL_mem l 0 e0 (by have := List.mem_of_getElem? h2; simpa [ents] using this)
    rw [hkq] at h3
    exact hn (keyV_inj h3 ▸ hq)
theorem look_in (M : MK t k) (h : IsSet w b l) (hl : ∀ q ∈ l, wfP q) (hp : p ∈ l) : (Instr.lookup t (.map (some b)) (keyV p) false).run Try.prog w = .ok (.int .i64 1) w := by
  obtain ⟨kl, hk⟩ := M.key p (hl p hp)
  rcases M.law.find w hk (ents l).toList (keys_ok M hl) with ⟨h1, h2⟩ | ⟨j, e0, h1, h2, h3⟩
  · exfalso
    obtain ⟨e, he, hke⟩ := entL_has l 0 p hp
    exact h2 e (by simpa [ents] using he) hke
  · obtain ⟨q, hq, _, hv, _⟩ := entL_mem l 0 e0 (by have := List.mem_of_getElem? h2; simpa [ents] using this)
    rw [hv] at h1
    simp [Instr.lookup, run_underlying M.ht, Go.MapKept.run_getObj_map (show w.heap[b]? = some (.map (ents l) l.length) from h), M.law.check w _ hk, h1, Result.andThen]
/-- The world between a new entry and its store. -/
def half (w : World) (b : Nat) (l : List (Int × Int)) (p : Int × Int) : World := setBlock w b (.map ((ents l).push ⟨keyV p, .int .i64 0, l.length⟩) (l.length + 1))
theorem entry_out (M : MK t k) (h : IsSet w b l) (hl : ∀ q ∈ l, wfP q) (hp : wfP p) (hn : p ∉ l) : (Instr.mapEntry t (.map (some b)) (keyV p)).run Try.prog w = .ok (.tuple #[.int .i64 0, .int .i64 l.length]) (half w b l p) := by
  obtain ⟨kl, hk⟩ := M.key p hp
  rcases M.law.find w hk (ents l).toList (keys_ok M hl) with ⟨h1, h2⟩ | ⟨j, e0, h1, h2, h3⟩
  · simp [Instr.mapEntry, run_underlying M.ht, Go.MapKept.run_getObj_map (show w.heap[b]? = some (.map (ents l) l.length) from h), M.law.check w _ hk, h1, zero3, Go.MapKept.run_setObj_map _ (show w.heap[b]? = some (.map (ents l) l.length) from h), Result.andThen, setBlock, half, goInt]
  · exfalso
    obtain ⟨q, hq, hkq, _⟩ := entL_mem l 0 e0 (by have := List.mem_of_getElem? h2; simpa [ents] using this)
    rw [hkq] at h3
    exact hn (keyV_inj h3 ▸ hq)
theorem half_block (h : IsSet w b l) : (half w b l p).heap[b]? = some (.map ((ents l).push ⟨keyV p, .int .i64 0, l.length⟩) (l.length + 1)) := heap_setBlock_same h _
theorem look_half (M : MK t k) (h : IsSet w b l) (hl : ∀ q ∈ l, wfP q) (hp : wfP p) (hn : p ∉ l) : (Instr.lookup t (.map (some b)) (keyV p) false).run Try.prog (half w b l p) = .ok (.int .i64 0) (half w b l p) := by
  obtain ⟨kl, hk⟩ := M.key p hp
  have hb := half_block (p := p) h
  rcases M.law.find (half w b l p) hk ((ents l).push ⟨keyV p, .int .i64 0, l.length⟩).toList (by
    intro e he
    rw [Array.toList_push, List.mem_append] at he
    rcases he with he | he
    · exact keys_ok M hl e he
    · simp only [List.mem_singleton] at he
      subst he
      exact ⟨kl, hk⟩) with ⟨h1, h2⟩ | ⟨j, e0, h1, h2, h3⟩
  · exfalso
    exact h2 ⟨keyV p, .int .i64 0, l.length⟩ (by simp) rfl
  · have hv : e0.val = .int .i64 0 := by
      have := List.mem_of_getElem? h2
      rw [Array.toList_push, List.mem_append] at this
      rcases this with he | he
      · exfalso
        obtain ⟨q, hq, hkq, _⟩ := entL_mem l 0 e0 (by simpa [ents] using he)
        rw [hkq] at h3
        exact hn (keyV_inj h3 ▸ hq)
      · simp only [List.mem_singleton] at he
        subst he
        rfl
    rw [hv] at h1
    simp only [Array.toList_push] at h1
    simp [Instr.lookup, run_underlying M.ht, Go.MapKept.run_getObj_map hb, M.law.check (half w b l p) _ hk, h1, Result.andThen]
theorem find_last (l : List (Int × Int)) (p : Int × Int) (v : Value) : ((ents l).push ⟨keyV p, v, l.length⟩).findIdx? (fun e => ((e.born : Nat) : Int) == ((l.length : Nat) : Int)) = some l.length := by
  rw [findIdx_arr, Array.toList_push]
  have e : (ents l).toList = entL 0 l := by simp [ents]
  rw [e, List.findIdx?_append]
  have n : (entL 0 l).findIdx? (fun e => ((e.born : Nat) : Int) == ((l.length : Nat) : Int)) = none := by
    rw [List.findIdx?_eq_none_iff]
    intro x hx
    obtain ⟨_, _, _, _, hb⟩ := entL_mem l 0 x hx
    simp; omega
  rw [n]
  simp [ents_size]
theorem store_half {w2 : World} (t : TypeId) (hb : w2.heap[b]? = some (.map ((ents l).push ⟨keyV p, .int .i64 0, l.length⟩) (l.length + 1))) :
    (Instr.entryStore t (.map (some b)) (.int .i64 l.length) (.int .i64 1)).run Try.prog w2 = .ok () (setBlock w2 b (.map (ents (l ++ [p])) (l.length + 1))) := by
  have hidx := find_last l p (.int .i64 0)
  have hmod : ((ents l).push ⟨keyV p, .int .i64 0, l.length⟩).modify l.length (fun e => { e with val := .int .i64 1 }) = ents (l ++ [p]) := by
    rw [ents_push]
    apply Array.ext'
    have e : l.length = (ents l).toList.length := by simp [ents, ents_size]
    rw [Array.toList_modify, Array.toList_push, Array.toList_push]
    conv => lhs; arg 2; rw [e]
    rw [modify_last]
  simp [Instr.entryStore, Go.MapKept.run_getObj_map hb, asInt, asIntOf, hidx, hmod, Go.MapKept.run_setObj_map _ hb, Result.andThen, setBlock]
/-- The world behind the whole count. -/
def full (w : World) (b : Nat) (l : List (Int × Int)) (p : Int × Int) : World := setBlock (half w b l p) b (.map (ents (l ++ [p])) (l.length + 1))
theorem full_set (h : IsSet w b l) : IsSet (full w b l p) b (l ++ [p]) := by
  unfold IsSet full
  rw [List.length_append]
  exact heap_setBlock_same (half_block (p := p) h) _
theorem full_other (h : IsSet w b l) {i : Nat} (hi : i ≠ b) : (full w b l p).heap[i]? = w.heap[i]? :=
  (heap_setBlock_other (half_block (p := p) h) _ hi).trans (heap_setBlock_other h _ hi)
theorem half_other (h : IsSet w b l) {i : Nat} (hi : i ≠ b) : (half w b l p).heap[i]? = w.heap[i]? := heap_setBlock_other h _ hi
theorem full_size : (full w b l p).heap.size = w.heap.size := by simp [full, half, setBlock]
theorem full_below (h : IsSet w b l) {B : Nat} (hb : B ≤ b) : Below B w (full w b l p) :=
  ⟨rfl, rfl, rfl, by rw [full_size]; exact Nat.le_refl _, fun i hi => full_other h (by omega)⟩
theorem set_other {w' : World} (h : IsSet w b l) (e : w'.heap[b]? = w.heap[b]?) : IsSet w' b l := e.trans h
theorem set_new (w : World) : IsSet (w.alloc (.map #[] 0)) w.heap.size [] := heap_alloc_new w (.map #[] 0)
end
set_option maxRecDepth 100000 in
theorem laidOut : laidOutB Try.prog = true := by kernel_rfl
theorem size2 : ∃ m, Try.prog.types.size + 1 = m + 2 := by
  have h : 77 < Try.prog.types.size := of_decide_eq_true (by kernel_rfl)
  exact ⟨Try.prog.types.size - 1, by omega⟩
set_option maxRecDepth 100000 in
theorem mk_of {t k : TypeId} (hrow : k < Try.prog.types.size) (hk : Try.prog.keyTypeAt 2 k = true) (hwide : (match Try.prog.underlying k with | some (.array _ _) | some (.struct _) => true | _ => false) = true)
    (ht : Try.prog.underlying t = some (.map k 3)) (key : ∀ p, wfP p → ∃ kl, keyOf Try.prog k (keyV p) = some kl) : MK t k := ⟨deep_law_laid laidOut (m := 2) (by omega) hrow hk hwide, ht, key⟩
theorem key_gen {P : Program} {k : TypeId} {f g : Field} (hu : P.underlying k = some (.struct #[f, g])) (kt : P.keyType k = true) (c2 : P.cellsOf k = 2) (c1 : P.cellsOf 3 = 1) (u3 : P.underlying 3 = some (.int .i64))
    (ft : f.type = 3) (gt : g.type = 3) (fo : f.offset = 0) (go : g.offset = 1) (fn : (f.name != "_") = true) (gn : (g.name != "_") = true) (hs : ∃ m, P.types.size + 1 = m + 2) (p : Int × Int) (h : wfP p) : ∃ kl, keyOf P k (keyV p) = some kl := by
  obtain ⟨m, hm⟩ := hs
  have w1 := h.1
  have w2 := h.2
  have e0 : P.keyLits (m + 1) 3 [.int .i64 p.1] = some [.int .i64 p.1] := by
    unfold Program.keyLits
    simp only [u3]
    simp [w1]
  have e1 : P.keyLits (m + 1) 3 [.int .i64 p.2] = some [.int .i64 p.2] := by
    unfold Program.keyLits
    simp only [u3]
    simp [w2]
  have e2 : P.keyLits (m + 1 + 1) k [.int .i64 p.1, .int .i64 p.2] = some [.int .i64 p.1, .int .i64 p.2] := by
    unfold Program.keyLits
    simp only [hu, c2]
    rw [if_pos (by simp [fn, gn] at *)]
    simp [ft, gt, fo, go, c1, e0, e1]
  unfold keyOf
  rw [hu]
  simp only [kt, hm, Value.cells, keyV, Bool.true_and]
  have hf : Value.formed P k (.agg #[.int .i64 p.1, .int .i64 p.2]) = true := by simp [Value.formed, hu, c2]
  rw [if_pos hf, show m + 2 = m + 1 + 1 from rfl, e2]
  exact ⟨_, rfl⟩
theorem key86 (p : Int × Int) (h : wfP p) : ∃ kl, keyOf Try.prog 86 (keyV p) = some kl :=
  key_gen Try.underlying86 (by kernel_rfl) (by kernel_rfl) (by kernel_rfl) Try.underlying3 rfl rfl rfl rfl (by decide) (by decide) size2 p h
theorem key77 (p : Int × Int) (h : wfP p) : ∃ kl, keyOf Try.prog 77 (keyV p) = some kl :=
  key_gen Try.underlying77 (by kernel_rfl) (by kernel_rfl) (by kernel_rfl) Try.underlying3 rfl rfl rfl rfl (by decide) (by decide) size2 p h
theorem mk84 : MK 84 86 := mk_of (of_decide_eq_true (by kernel_rfl)) (by kernel_rfl) (by rw [Try.underlying86]) Try.underlying84 key86
theorem mk97 : MK 97 77 := mk_of (of_decide_eq_true (by kernel_rfl)) (by kernel_rfl) (by rw [Try.underlying77]) Try.underlying97 key77
end Go.Proofs.Ytkbbgjoohffooaa.MapP
