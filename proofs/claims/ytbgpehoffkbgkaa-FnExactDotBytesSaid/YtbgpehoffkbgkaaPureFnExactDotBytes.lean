/- laws.FnExactDotBytes: the program's DotBytes returns what the reference's returns, for every two scales and lists of ints. No condition. -/
import Derived.Test.YtbgpehoffkbgkaaPFnExactDotBytesx3
import Derived.Test.YtbgpehoffkbgkaaAid
import Derived.Test.YtbgpehoffkbgkaaLoop
namespace Go.Proofs.Ytbgpehoffkbgkaa.Pure
open Go.RowKit Go.Proofs.Ytbgpehoffkbgkaa.PFnExactDotBytes Go.Proofs.YtbgpehoffkbgkaaW.PrintWords Go.Proofs.YtbgpehoffkbgkaaW.PrintLast Go.Proofs.YtbgpehoffkbgkaaW.PrintMore Go.Proofs.Ytbgpehoffkbgkaa.Aid
set_option linter.unusedVariables false
set_option linter.unusedSimpArgs false
def inB (a b c : Int) : Bool := decide (b ≤ a) && decide (a ≤ c)
theorem inB_iff (a b c : Int) : inB a b c = true ↔ b ≤ a ∧ a ≤ c := by unfold inB; simp
theorem inB_not (a b c : Int) : inB a b c = false ↔ ¬ (b ≤ a ∧ a ≤ c) := by rw [← inB_iff]; simp
theorem in_body (a b c : Int) : (if a ≥ b then (some (decide (a ≤ c))) else (some false)) = some (inB a b c) := by
  unfold inB
  by_cases h : b ≤ a
  · rw [if_pos h]; simp [h]
  · rw [if_neg h]; simp [h]
theorem ite_and (b c : Bool) : (if b = true then some c else some false) = some (b && c) := by cases b <;> rfl
theorem ite_same {α : Type} (b : Bool) (x : α) : (if b = true then x else x) = x := by cases b <;> rfl
theorem sIn (a b c : Int) : spec_l5In.f a b c = some (inB a b c) := in_body a b c
theorem iIn (a b c : Int) : impl_within.f a b c = some (inB a b c) := in_body a b c
def scaleB (a b : Int) : Bool := inB a 1 1099511627776 && inB b 0 255
theorem scale_bd {a b : Int} (h : scaleB a b = true) : 1 ≤ a ∧ a ≤ 1099511627776 ∧ 0 ≤ b ∧ b ≤ 255 := by
  unfold scaleB at h
  rw [Bool.and_eq_true, inB_iff, inB_iff] at h
  omega
theorem sScale (a b : Int) : spec_ScaleOk.f a b = some (scaleB a b) := by
  unfold spec_ScaleOk.f scaleB
  rw [sIn, sIn]; simp only [Option.bind_some]; exact ite_and _ _
theorem iByte (a : Int) : impl_isByte.f a = some (inB a 0 255) := by
  unfold impl_isByte.f; rw [iIn]; rfl
theorem iScale (a b : Int) : impl_ScaleOk.f a b = some (scaleB a b) := by
  unfold impl_ScaleOk.f scaleB
  rw [iIn, iByte]; simp only [Option.bind_some]; exact ite_and _ _
theorem rd_nat (l : List Int) (i : Nat) : rd l (i : Int) = l.getD i 0 := by unfold rd; rw [Int.toNat_natCast]
theorem toIntS_loop (l : List Int) (hl : l.length ≤ 1048576) : ∀ (d i k : Nat) (y : List Int), i + d = l.length → d < k → y.length = l.length → (∀ j, j < i → y.getD j 0 = l.getD j 0) → laws_toIntS.l0 k l y i = some l := by
  intro d
  induction d with
  | zero =>
    intro i k y h hk hy hj
    obtain ⟨k, rfl⟩ : ∃ m, k = m + 1 := ⟨k - 1, by omega⟩
    simp only [laws_toIntS.l0]
    rw [if_neg (by omega)]
    congr 1
    refine List.ext_getElem hy fun j h1 h2 => ?_
    have := hj j (by omega)
    rwa [Loop.getD_lt _ _ _ h1, Loop.getD_lt _ _ _ h2] at this
  | succ d ih =>
    intro i k y h hk hy hj
    obtain ⟨k, rfl⟩ : ∃ m, k = m + 1 := ⟨k - 1, by omega⟩
    simp only [laws_toIntS.l0]
    rw [if_pos (by omega), if_pos (by omega), if_pos (by omega), Loop.wsucc i (by omega), Int.toNat_natCast, rd_nat]
    refine ih (i + 1) k _ (by omega) (by omega) (by simpa using hy) fun j h1 => ?_
    by_cases e : j = i
    · rw [e, Loop.getD_set_eq _ _ _ _ (by omega)]
    · rw [Loop.getD_set_ne _ _ _ _ _ e]; exact hj j (by omega)
theorem toIntS_ok (l : List Int) (hl : l.length ≤ 1048576) (k : Nat) (hk : l.length < k) : laws_toIntS.f k l = some l := by
  unfold laws_toIntS.f
  rw [if_pos (by omega), Int.toNat_natCast, if_pos (by omega)]
  exact toIntS_loop l hl l.length 0 k _ (by omega) hk (by simp) (by intro j h; omega)
theorem eqIntS_loop (l : List Int) (hl : l.length ≤ 1048576) : ∀ (d i k : Nat), i + d = l.length → d < k → laws_eqIntS.l0 k l l i = some true := by
  intro d
  induction d with
  | zero =>
    intro i k h hk
    obtain ⟨k, rfl⟩ : ∃ m, k = m + 1 := ⟨k - 1, by omega⟩
    simp only [laws_eqIntS.l0]
    rw [if_neg (by omega)]
  | succ d ih =>
    intro i k h hk
    obtain ⟨k, rfl⟩ : ∃ m, k = m + 1 := ⟨k - 1, by omega⟩
    simp only [laws_eqIntS.l0]
    rw [if_pos (by omega), if_pos (by omega), if_pos (by omega), if_pos trivial, Loop.wsucc i (by omega)]
    exact ih (i + 1) k (by omega) (by omega)
theorem eqIntS_ok (l : List Int) (hl : l.length ≤ 1048576) (k : Nat) (hk : l.length < k) : laws_eqIntS.f k l l = some true := by
  unfold laws_eqIntS.f
  rw [if_pos rfl]
  exact eqIntS_loop l hl l.length 0 k (by omega) hk
def byteP (l : List Int) (i : Nat) : Bool := inB (l.getD i 0) (0) 255
def byteB (l : List Int) : Bool := Loop.allB (byteP l) l.length 0 && decide ((l.length : Int) ≤ 4096)
theorem byte_end (l : List Int) : (some (decide ((l.length : Int) ≤ 4096))) = some (decide ((l.length : Int) ≤ 4096)) := by
  by_cases h : (l.length : Int) > 0 <;> by_cases h' : (l.length : Int) ≤ 4096 <;> simp [h, h'] <;> omega
theorem sbyte (l : List Int) (hl : l.length ≤ 1048576) (k : Nat) (hk : l.length < k) : spec_l14Bytes.f k l = some (byteB l) := by
  have h := Loop.all_ix (fun k i => spec_l14Bytes.l0 k l i) l.length 1 0 (byteP l) (some false) (some (decide ((l.length : Int) ≤ 4096)))
    (by intro k i _ hi
        simp only [spec_l14Bytes.l0, sIn, Option.bind_some]
        rw [if_pos (show (i : Int) < (l.length : Int) by omega), if_pos (show 0 ≤ (i : Int) by omega), rd_nat, Loop.wsucc i (by omega)]
        rfl)
    (by intro k _; simp only [spec_l14Bytes.l0]; rw [if_neg (by omega)])
    l.length 0 k (by omega) (by omega)
  unfold spec_l14Bytes.f
  rw [show spec_l14Bytes.l0 k l 0 = _ from h]
  unfold byteB
  have e := byte_end l
  rw [e]
  cases Loop.allB (byteP l) l.length 0 <;> rfl
theorem ibyte (l : List Int) (hl : l.length ≤ 1048576) (k : Nat) (hk : l.length < k) : impl_bytesOk.f k l = some (byteB l) := by
  have h := Loop.all_ix (fun k i => impl_bytesOk.l0 k l l l.length i) l.length 1 0 (byteP l) (some false) (some (decide ((l.length : Int) ≤ 4096)))
    (by intro k i _ hi
        simp only [impl_bytesOk.l0, impl_isByte.f, iIn, Option.bind_some]
        rw [if_pos (show (i : Int) < (l.length : Int) by omega), if_pos (show 0 ≤ (i : Int) by omega), if_pos (show (i : Int) < (l.length : Int) by omega), rd_nat, Loop.wsucc i (by omega)]
        rfl)
    (by intro k _; simp only [impl_bytesOk.l0]; rw [if_neg (by omega)])
    l.length 0 k (by omega) (by omega)
  unfold impl_bytesOk.f
  rw [show impl_bytesOk.l0 k l l l.length 0 = _ from h]
  unfold byteB
  have e := byte_end l
  rw [e]
  cases Loop.allB (byteP l) l.length 0 <;> rfl
def dotS (p q : List Int) (za zb : Int) (i : Nat) (s : Int) : Option Int ⊕ Int := .inr (wrap64 (s + wrap64 (wrap64 (p.getD i 0 - za) * wrap64 (q.getD i 0 - zb))))
theorem sDotLoop (p q : List Int) (a za b zb : Int) (hl : p.length ≤ 1048576) (hq : p.length = q.length) (k : Nat) (hk : p.length < k) : spec_DotBytes.l0 k p q 0 0 a za b zb = Loop.runIx (dotS p q za zb) some p.length 0 0 := by
  have h := Loop.run_ix (fun k i s => spec_DotBytes.l0 k p q s i a za b zb) p.length 1 0 (dotS p q za zb) some
    (by intro k i s _ hi
        simp only [spec_DotBytes.l0]
        rw [if_pos (show (i : Int) < (p.length : Int) by omega), if_pos (show 0 ≤ (i : Int) by omega), if_pos (show (i : Int) < (q.length : Int) by omega), rd_nat, rd_nat, Loop.wsucc i (by omega)]
        rfl)
    (by intro k s _; simp only [spec_DotBytes.l0]; rw [if_neg (by omega)])
    p.length 0 k 0 (by omega) (by omega)
  exact h
theorem iDotLoop (p q : List Int) (a za b zb : Int) (hl : p.length ≤ 1048576) (hq : p.length = q.length) (k : Nat) (hk : p.length < k) : impl_DotBytes.l0 k q 0 p p.length 0 a za b zb = Loop.runIx (dotS p q za zb) some p.length 0 0 := by
  have h := Loop.run_ix (fun k i s => impl_DotBytes.l0 k q s p p.length i a za b zb) p.length 1 0 (dotS p q za zb) some
    (by intro k i s _ hi
        simp only [impl_DotBytes.l0]
        rw [if_pos (show (i : Int) < (p.length : Int) by omega), if_pos (show 0 ≤ (i : Int) by omega), if_pos (show (i : Int) < (p.length : Int) by omega), if_pos (show (i : Int) < (q.length : Int) by omega), rd_nat, rd_nat, Loop.wsucc i (by omega)]
        rfl)
    (by intro k s _; simp only [impl_DotBytes.l0]; rw [if_neg (by omega)])
    p.length 0 k 0 (by omega) (by omega)
  exact h
theorem dot_same (a za b zb : Int) (p q : List Int) (hp : p.length ≤ 1048576) (hq : q.length ≤ 1048576) (k : Nat) (hk : p.length + q.length + 3 ≤ k) : ∃ r, spec_DotBytes.f k a za b zb p q = some r ∧ impl_DotBytes.f k a za b zb p q = some r := by
  obtain ⟨k, rfl⟩ : ∃ m, k = m + 1 := ⟨k - 1, by omega⟩
  unfold spec_DotBytes.f impl_DotBytes.f
  rw [sScale, sScale, iScale, iScale, sbyte p hp _ (by omega), sbyte q hq _ (by omega), ibyte p hp _ (by omega), ibyte q hq _ (by omega)]
  simp only [Option.bind_some, spec_DotBytes.j0, impl_DotBytes.j0, if_true]
  by_cases c : (p.length : Int) = (q.length : Int)
  · rw [if_pos c, if_pos c, sDotLoop p q a za b zb hp (by omega) k (by omega), iDotLoop p q a za b zb hp (by omega) k (by omega)]
    obtain ⟨x, hx⟩ := Loop.run_some (dotS p q za zb) some (by intro i s r h; cases h) (fun s => ⟨_, rfl⟩) p.length 0 0
    rw [hx]
    cases scaleB a za <;> cases scaleB b zb <;> cases byteB p <;> cases byteB q <;> exact ⟨_, rfl, rfl⟩
  · rw [if_neg c, if_neg c]
    cases scaleB a za <;> cases scaleB b zb <;> exact ⟨_, rfl, rfl⟩
theorem FnExactDotBytes (a0 a1 b0 b1 : Int) (p q : List Int) (_ : (Lit.int .i64 a0).wf = true) (_ : (Lit.int .i64 a1).wf = true) (_ : (Lit.int .i64 b0).wf = true) (_ : (Lit.int .i64 b1).wf = true) (_ : p.length ≤ maxLen) (_ : ∀ x ∈ p, (Lit.int .i64 x).wf = true) (_ : q.length ≤ maxLen) (_ : ∀ x ∈ q, (Lit.int .i64 x).wf = true) : ∃ k, laws_FnExactDotBytes.f k a0 a1 b0 b1 p q = some true := by
  refine ⟨p.length + q.length + 3, ?_⟩
  unfold laws_FnExactDotBytes.f laws_toScale.f
  by_cases c0 : (p.length : Int) > 1048576
  · rw [if_pos c0]
  · rw [if_neg c0]
    by_cases c1 : (q.length : Int) > 1048576
    · rw [if_pos c1]
    · rw [if_neg c1, toIntS_ok p (by omega) _ (by omega), toIntS_ok q (by omega) _ (by omega)]
      obtain ⟨r, e1, e2⟩ := dot_same a0 a1 b0 b1 p q (by omega) (by omega) _ (Nat.le_refl _)
      simp only [Option.bind_some]
      rw [e1, e2]; simp only [Option.bind_some]
      rw [eqIntS_ok p (by omega) _ (by omega), eqIntS_ok q (by omega) _ (by omega)]
      simp

end Go.Proofs.Ytbgpehoffkbgkaa.Pure
