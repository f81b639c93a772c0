/- The plain law of the book's texts: what the reference computes, as one function. No condition. -/
import Derived.Test.YtkbbgjoohffooaaL20T
import Derived.Test.YtkbbgjoohffooaaAid
namespace Go.Proofs.Ytkbbgjoohffooaa.TextP
open Go.RowKit Go.Proofs.Ytkbbgjoohffooaa.Aid Go.Proofs.Ytkbbgjoohffooaa.PFnExactTokenText Go.Proofs.YtkbbgjoohffooaaW.PrintWords Go.Proofs.YtkbbgjoohffooaaW.PrintLast Go.Proofs.YtkbbgjoohffooaaW.PrintMore
set_option linter.unusedVariables false
set_option linter.unusedSimpArgs false
set_option linter.unusedSectionVars false
def inB (a b c : Int) : Bool := decide (b ≤ a) && decide (a ≤ c)
theorem inB_iff (a b c : Int) : inB a b c = true ↔ b ≤ a ∧ a ≤ c := by unfold inB; simp
theorem inB_not (a b c : Int) : inB a b c = false ↔ ¬ (b ≤ a ∧ a ≤ c) := by rw [← inB_iff]; simp
theorem in_body (a b c : Int) : (if a ≥ b then (some (decide (a ≤ c))) else (some false)) = some (inB a b c) := by
  unfold inB
  by_cases h : b ≤ a
  · rw [if_pos h]; simp [h]
  · rw [if_neg h]; simp [h]
theorem ite_and (b c : Bool) : (if b = true then some c else some false) = some (b && c) := by cases b <;> rfl
theorem ite_same {α : Type} (b : Bool) (x : α) : (if b = true then x else x) = x := by cases b <;> rfl
theorem sIn (a b c : Int) : spec_l5In.f a b c = some (inB a b c) := by unfold spec_l5In.f; exact in_body a b c
/-- From some fuel on the answer is v. -/
def Evn {α : Type} (f : Nat → Option α) (v : α) : Prop := ∃ K, ∀ k, K ≤ k → f k = some v
theorem Evn.step {α : Type} {f g : Nat → Option α} {v : α} (h : Evn g v) (e : ∀ k, f (k + 1) = g k) : Evn f v := by
  obtain ⟨K, hK⟩ := h
  refine ⟨K + 1, fun k hk => ?_⟩
  obtain ⟨k, rfl⟩ : ∃ m, k = m + 1 := ⟨k - 1, by omega⟩
  rw [e, hK k (by omega)]
theorem Evn.now {α : Type} {f : Nat → Option α} {v : α} (e : ∀ k, f (k + 1) = some v) : Evn f v := by
  refine ⟨1, fun k hk => ?_⟩
  obtain ⟨k, rfl⟩ : ∃ m, k = m + 1 := ⟨k - 1, by omega⟩
  exact e k
def oneB (a : Int) : ByteArray := strOfNums ([a % 256] : List Int)
def getB (T : List ByteArray) (a : Int) : ByteArray := if a < 256 then oneB a else rdOf ByteArray.empty T (a - 256)
def keyP (p : S77) : Int × Int := (p.f0, p.f1)
def pairB (i : Nat) (p : S77) : Bool := inB p.f0 0 (255 + i) && inB p.f1 0 (255 + i)
def joinB (T : List ByteArray) (p : S77) : ByteArray := getB T p.f0 ++ getB T p.f1
def runB : List (Int × Int) → List ByteArray → List S77 → List ByteArray × Bool
  | _, T, [] => (T, true)
  | seen, T, p :: r => if (pairB T.length p && !(decide (keyP p ∈ seen)) && decide ((joinB T p).size ≤ 200)) = true then runB (seen ++ [keyP p]) (T ++ [joinB T p]) r else (T, false)
def textsB (l : List S77) : List ByteArray × Bool := if l.length > 300 then ([], false) else runB [] [] l
def seenP (l : List S77) (i : Nat) : List (Int × Int) := (l.take i).map keyP
def Short (T : List ByteArray) : Prop := ∀ t ∈ T, t.size ≤ 200
theorem one_size (a : Int) : (oneB a).size = 1 := by
  unfold oneB strOfNums
  simp [ByteArray.size]
theorem get_size (T : List ByteArray) (hT : Short T) (a : Int) : (getB T a).size ≤ 200 := by
  unfold getB
  split
  · rw [one_size]; decide
  · unfold rdOf
    rw [List.getD_eq_getElem?_getD]
    cases h : T[(a - 256).toNat]? with
    | none => simp
    | some t => exact hT t (List.mem_of_getElem? h)
theorem join_size (T : List ByteArray) (p : S77) : (joinB T p).size = (getB T p.f0).size + (getB T p.f1).size := ByteArray.size_append
theorem text_ok (T : List ByteArray) (hT : T.length ≤ 300) (a : Int) (h0 : 0 ≤ a) (h1 : a ≤ 255 + T.length) : spec_l20Text.f T a = some (getB T a) := by
  unfold spec_l20Text.f getB oneB
  by_cases c : a < 256
  · rw [if_pos c, if_pos c]
  · rw [if_neg c, if_neg c, wid (by omega) (by omega), if_pos (by omega), if_pos (by omega)]
theorem rdT (l : List S77) (i : Nat) (h : i < l.length) : rd_T77 l (i : Int) = l[i] := by
  unfold rd_T77
  rw [Int.toNat_natCast, List.getD_eq_getElem?_getD, List.getElem?_eq_getElem h]; rfl
theorem seen_succ (l : List S77) (i : Nat) (h : i < l.length) : seenP l (i + 1) = seenP l i ++ [keyP l[i]] := by
  unfold seenP
  rw [List.take_add_one, List.map_append, List.getElem?_eq_getElem h]; rfl
theorem seen_mem (l : List S77) (i : Nat) (p : Int × Int) : p ∈ seenP l i ↔ ∃ t, t < i ∧ ∃ h : t < l.length, keyP l[t] = p := by
  unfold seenP
  rw [List.mem_map]
  constructor
  · rintro ⟨m, hm, rfl⟩
    obtain ⟨t, ht, e⟩ := List.mem_iff_getElem.1 hm
    rw [List.length_take] at ht
    exact ⟨t, by omega, by omega, by rw [← e, List.getElem_take]⟩
  · rintro ⟨t, ht, hl, rfl⟩
    exact ⟨l[t], List.mem_iff_getElem.2 ⟨t, by rw [List.length_take]; omega, by rw [List.getElem_take]⟩, rfl⟩
theorem run_step (l : List S77) (T : List ByteArray) (i : Nat) (h : i < l.length) :
    runB (seenP l i) T (l.drop i) = if (pairB T.length l[i] && !(decide (keyP l[i] ∈ seenP l i)) && decide ((joinB T l[i]).size ≤ 200)) = true then runB (seenP l (i + 1)) (T ++ [joinB T l[i]]) (l.drop (i + 1)) else (T, false) := by
  rw [List.drop_eq_getElem_cons h, seen_succ l i h]; rfl
section
variable (l : List S77) (T : List ByteArray) (hl : l.length ≤ 300) (hS : Short T) (i : Nat) (hT : T.length = i) (hi : i < l.length)
include hl hS hT hi
theorem l1_false (z0 z1 : Int) : ∀ (d j : Nat), j + d = i → (∃ t, j ≤ t ∧ t < i ∧ ∃ h : t < l.length, keyP l[t] = (z0, z1)) → Evn (fun k => spec_l20Texts.l1 k l T i j z0 z1) (T, false) := by
  intro d
  induction d with
  | zero => intro j e ⟨t, h1, h2, _⟩; omega
  | succ d ih =>
    intro j e ⟨t, h1, h2, h3, h4⟩
    by_cases cc : keyP l[j] = (z0, z1)
    · refine Evn.now fun k => ?_
      simp only [spec_l20Texts.l1]
      rw [rdT l j (by omega)]
      simp only [keyP, Prod.mk.injEq] at cc
      rw [if_pos (by omega), if_pos (by omega), if_pos (by omega), if_pos (by simp [cc.1, cc.2])]
    · have hne : t ≠ j := fun e => by subst e; exact cc h4
      refine Evn.step (ih (j + 1) (by omega) ⟨t, by omega, h2, h3, h4⟩) fun k => ?_
      simp only [spec_l20Texts.l1]
      rw [rdT l j (by omega), wid (x := (j : Int) + 1) (by omega) (by omega)]
      simp only [keyP, Prod.mk.injEq] at cc
      rw [if_pos (by omega), if_pos (by omega), if_pos (by omega), if_neg (by simpa using cc)]; rfl
theorem l1_true (z0 z1 : Int) (h0 : 0 ≤ z0 ∧ z0 ≤ 255 + i) (h1 : 0 ≤ z1 ∧ z1 ≤ 255 + i) (v : List ByteArray × Bool)
    (hv : (getB T z0 ++ getB T z1).size ≤ 200 → Evn (fun k => spec_l20Texts.l0 k l (T ++ [getB T z0 ++ getB T z1]) ((i + 1 : Nat) : Int)) v) (hv2 : ¬ (getB T z0 ++ getB T z1).size ≤ 200 → v = (T, false)) : ∀ (d j : Nat), j + d = i → (∀ t, j ≤ t → t < i → ∀ h : t < l.length, keyP l[t] ≠ (z0, z1)) → Evn (fun k => spec_l20Texts.l1 k l T i j z0 z1) v := by
  have s0 := get_size T hS z0
  have s1 := get_size T hS z1
  have e0 := text_ok T (by omega) z0 h0.1 (by omega)
  have e1 := text_ok T (by omega) z1 h1.1 (by omega)
  intro d
  induction d with
  | zero =>
    intro j e _
    by_cases cs : (getB T z0 ++ getB T z1).size ≤ 200
    · refine Evn.step (hv cs) fun k => ?_
      simp only [spec_l20Texts.l1]
      rw [if_neg (by omega), e0, e1]
      simp only [Option.bind_some]
      rw [if_pos (by omega), if_neg (by omega), if_pos (by omega), wid (x := (i : Int) + 1) (by omega) (by omega)]; rfl
    · rw [hv2 cs]
      refine Evn.now fun k => ?_
      simp only [spec_l20Texts.l1]
      rw [if_neg (by omega), e0, e1]
      simp only [Option.bind_some]
      rw [if_pos (by omega), if_pos (by omega)]
  | succ d ih =>
    intro j e no
    refine Evn.step (ih (j + 1) (by omega) (fun t a b => no t (by omega) b)) fun k => ?_
    have cc := no j (Nat.le_refl _) (by omega) (by omega)
    simp only [spec_l20Texts.l1]
    rw [rdT l j (by omega), wid (x := (j : Int) + 1) (by omega) (by omega)]
    simp only [keyP, ne_eq, Prod.mk.injEq] at cc
    rw [if_pos (by omega), if_pos (by omega), if_pos (by omega), if_neg (by simpa using cc)]; rfl
end
theorem l0_ev (l : List S77) (hl : l.length ≤ 300) : ∀ (d i : Nat) (T : List ByteArray), i + d = l.length → T.length = i → Short T → Evn (fun k => spec_l20Texts.l0 k l T i) (runB (seenP l i) T (l.drop i)) := by
  intro d
  induction d with
  | zero =>
    intro i T e hT hS
    rw [List.drop_eq_nil_of_le (by omega)]
    refine Evn.now fun k => ?_
    simp only [spec_l20Texts.l0]
    rw [if_neg (by omega)]; rfl
  | succ d ih =>
    intro i T e hT hS
    have hi : i < l.length := by omega
    rw [run_step l T i hi, hT]
    have j1 : ∀ (b : Bool), (b = false → pairB i l[i] = true) → Evn (fun k => spec_l20Texts.j1 k l T i b l[i].f0 l[i].f1) (if (!b && !(decide (keyP l[i] ∈ seenP l i)) && decide ((joinB T l[i]).size ≤ 200)) = true then runB (seenP l (i + 1)) (T ++ [joinB T l[i]]) (l.drop (i + 1)) else (T, false)) := by
      intro b hb
      cases b with
      | true => exact Evn.now fun k => by simp only [spec_l20Texts.j1]; rfl
      | false =>
        have hp := hb rfl
        unfold pairB at hp
        rw [Bool.and_eq_true, inB_iff, inB_iff] at hp
        have cast : Evn (fun k => spec_l20Texts.l1 k l T i ((0 : Nat) : Int) l[i].f0 l[i].f1) (if (!false && !(decide (keyP l[i] ∈ seenP l i)) && decide ((joinB T l[i]).size ≤ 200)) = true then runB (seenP l (i + 1)) (T ++ [joinB T l[i]]) (l.drop (i + 1)) else (T, false)) := by
          by_cases cm : keyP l[i] ∈ seenP l i
          · have := l1_false l T hl hS i hT hi l[i].f0 l[i].f1 i 0 (by omega) (by
              obtain ⟨t, h1, h2, h3⟩ := (seen_mem _ _ _).1 cm
              exact ⟨t, by omega, h1, h2, h3⟩)
            simpa [cm] using this
          · refine l1_true l T hl hS i hT hi l[i].f0 l[i].f1 hp.1 hp.2 _ ?_ ?_ i 0 (by omega) ?_
            · intro cs
              have cs' : (joinB T l[i]).size ≤ 200 := cs
              rw [if_pos (by simp [cm, cs'])]
              exact ih (i + 1) _ (by omega) (by simp [hT]) (fun t ht => by
                rcases List.mem_append.1 ht with ht | ht
                · exact hS t ht
                · rw [List.mem_singleton] at ht; rw [ht]; exact cs)
            · intro cs
              have cs' : ¬ (joinB T l[i]).size ≤ 200 := cs
              rw [if_neg (by simp [cm, cs'])]
            · intro t _ h2 h3 h4
              exact cm ((seen_mem _ _ _).2 ⟨t, h2, h3, h4⟩)
        refine Evn.step cast fun k => ?_
        simp only [spec_l20Texts.j1]
        rw [if_neg (by decide)]; rfl
    have hb : ∀ k, spec_l20Texts.l0 (k + 1) l T i = spec_l20Texts.j1 k l T i (!(pairB i l[i])) l[i].f0 l[i].f1 := by
      intro k
      simp only [spec_l20Texts.l0]
      rw [rdT l i hi, if_pos (by omega), if_pos (by omega), wid (x := 255 + (i : Int)) (by omega) (by omega)]
      simp only [sIn, Option.bind_some, pairB]
      cases b0 : inB l[i].f0 0 (255 + i) with
      | false => simp
      | true => simp
    have := j1 (!(pairB i l[i])) (by simp)
    rw [Bool.not_not] at this
    exact Evn.step this hb
theorem texts_ev (l : List S77) : Evn (fun k => spec_l20Texts.f k l) (textsB l) := by
  unfold textsB
  by_cases c : l.length > 300
  · rw [if_pos c]
    refine ⟨0, fun k _ => ?_⟩
    simp only [spec_l20Texts.f, Option.bind_some]
    rw [if_pos (by omega)]
  · rw [if_neg c]
    obtain ⟨K, hK⟩ := l0_ev l (by omega) l.length 0 [] (by omega) rfl (fun t ht => by simp at ht)
    refine ⟨K, fun k hk => ?_⟩
    simp only [spec_l20Texts.f, Option.bind_some]
    rw [if_neg (by omega)]
    exact hK k hk
end Go.Proofs.Ytkbbgjoohffooaa.TextP
