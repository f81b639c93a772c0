/- What Ring and the marks of moves come to in plain Lean. No condition. -/
import Derived.Test.YtkbbgjoohffooaaPFnExactRingx1
import Derived.Test.YtkbbgjoohffooaaPFnExactRingx2
import Derived.Test.YtkbbgjoohffooaaPFnExactRingx3
import Derived.Test.YtkbbgjoohffooaaPFnExactRingx4
import Derived.Test.YtkbbgjoohffooaaLoop
namespace Go.Proofs.Ytkbbgjoohffooaa.RingP
open Go.RowKit Go.Proofs.Ytkbbgjoohffooaa.Aid Go.Proofs.Ytkbbgjoohffooaa.PFnExactRing Go.Proofs.YtkbbgjoohffooaaW.PrintWords Go.Proofs.YtkbbgjoohffooaaW.PrintLast Go.Proofs.YtkbbgjoohffooaaW.PrintMore
set_option linter.unusedVariables false
set_option linter.unusedSimpArgs false
def inB (a b c : Int) : Bool := decide (b ≤ a) && decide (a ≤ c)
theorem inB_iff (a b c : Int) : inB a b c = true ↔ b ≤ a ∧ a ≤ c := by unfold inB; simp
theorem inB_not (a b c : Int) : inB a b c = false ↔ ¬ (b ≤ a ∧ a ≤ c) := by rw [← inB_iff]; simp
theorem in_body (a b c : Int) : (if a ≥ b then (some (decide (a ≤ c))) else (some false)) = some (inB a b c) := by
  unfold inB
  by_cases h : b ≤ a
  · rw [if_pos h]; simp [h]
  · rw [if_neg h]; simp [h]
theorem ite_and (b c : Bool) : (if b = true then some c else some false) = some (b && c) := by cases b <;> rfl
theorem ite_same {α : Type} (b : Bool) (x : α) : (if b = true then x else x) = x := by cases b <;> rfl
theorem sIn (a b c : Int) : spec_l5In.f a b c = some (inB a b c) := in_body a b c
theorem iIn (a b c : Int) : impl_within.f a b c = some (inB a b c) := in_body a b c
def mv (n h r i : Nat) : S69 := ⟨i, ((i : Int) + 1) % n, ((i : Int) + h - r) % n, ((h : Int) == 0)⟩
def mvs (n h r k : Nat) : List S69 := (List.range k).map (mv n h r)
theorem mvs_succ (n h r k : Nat) : mvs n h r (k + 1) = mvs n h r k ++ [mv n h r k] := by unfold mvs; rw [List.range_succ, List.map_append]; rfl
theorem mvs_len (n h r k : Nat) : (mvs n h r k).length = k := by unfold mvs; simp
def rows (n h k : Nat) : List (List S69) := (List.range k).map (fun r => mvs n h r n)
theorem rows_succ (n h k : Nat) : rows n h (k + 1) = rows n h k ++ [mvs n h k n] := by unfold rows; rw [List.range_succ, List.map_append]; rfl
theorem rows_len (n h k : Nat) : (rows n h k).length = k := by unfold rows; simp
def ringL (n : Nat) : List (List S69) := rows n 0 (n - 1) ++ rows n 1 (n - 1)
def ringI (a : Int) : List (List S69) := if inB a 1 64 = true then ringL a.toNat else []
theorem mod_small (x n : Int) (hx : -200 ≤ x) (hx2 : x ≤ 200) (h : 0 < n) (hn : n ≤ 64) : Int.tmod (wrap64 (Int.tmod x n + n)) n = x % n := by
  have b := tmod_bd x n h
  rw [wid (by omega) (by omega), tmod_nn (by omega), Int.add_emod_right]
  have e := Int.mul_tdiv_add_tmod x n
  generalize Int.tmod x n = u at *
  rw [← e, Int.add_comm, Int.add_mul_emod_self_left]
theorem sMod (x n : Int) (hx : -200 ≤ x) (hx2 : x ≤ 200) (h : 0 < n) (hn : n ≤ 64) : spec_l18Mod.f x n = some (x % n) := by
  unfold spec_l18Mod.f
  rw [if_neg (by omega), mod_small x n hx hx2 h hn]
theorem sL2 (n h r : Nat) (h1 : 1 ≤ n) (hn : n ≤ 64) (hh : h ≤ 1) (hr : r < n) (x3 : List (List S69)) (hx : x3.length ≤ 1000) (R : List (List S69)) (M : Nat) (hc : ∀ m, M ≤ m → spec_Ring.l1 m n (x3 ++ [mvs n h r n]) h ((r + 1 : Nat) : Int) = some R) :
    ∀ (d i k : Nat), i + d = n → M + d + 1 ≤ k → spec_Ring.l2 k n x3 h r (mvs n h r i) i = some R := by
  intro d
  induction d with
  | zero =>
    intro i k hi hk
    obtain ⟨k, rfl⟩ : ∃ m, k = m + 1 := ⟨k - 1, by omega⟩
    obtain rfl : i = n := by omega
    simp only [spec_Ring.l2]
    rw [if_neg (by omega), if_pos (by omega), Loop.wsucc r (by omega)]
    exact hc k (by omega)
  | succ d ih =>
    intro i k hi hk
    obtain ⟨k, rfl⟩ : ∃ m, k = m + 1 := ⟨k - 1, by omega⟩
    simp only [spec_Ring.l2]
    rw [if_pos (by omega), if_neg (by omega), wid (x := (i : Int) + h) (by omega) (by omega), wid (x := (i : Int) + h - r) (by omega) (by omega), sMod _ _ (by omega) (by omega) (by omega) (by omega)]
    simp only [Option.bind_some]
    rw [mvs_len, if_pos (by omega), wid (x := (i : Int) + 1) (by omega) (by omega), tmod_nn (by omega)]
    have := ih (i + 1) k (by omega) (by omega)
    rw [mvs_succ] at this
    exact this
theorem sL1 (n h : Nat) (h1 : 1 ≤ n) (hn : n ≤ 64) (hh : h ≤ 1) (B : List (List S69)) (hB : B.length ≤ 64) (R : List (List S69)) (M : Nat) (hc : ∀ m, M ≤ m → spec_Ring.l0 m n (B ++ rows n h (n - 1)) ((h + 1 : Nat) : Int) = some R) :
    ∀ (d r k : Nat), r + d = n - 1 → M + d * 100 + 1 ≤ k → spec_Ring.l1 k n (B ++ rows n h r) h r = some R := by
  intro d
  induction d with
  | zero =>
    intro r k hr hk
    obtain ⟨k, rfl⟩ : ∃ m, k = m + 1 := ⟨k - 1, by omega⟩
    obtain rfl : r = n - 1 := by omega
    simp only [spec_Ring.l1]
    rw [wid (x := (n : Int) - 1) (by omega) (by omega), if_neg (by omega), Loop.wsucc h (by omega)]
    exact hc k (by omega)
  | succ d ih =>
    intro r k hr hk
    obtain ⟨k, rfl⟩ : ∃ m, k = m + 1 := ⟨k - 1, by omega⟩
    simp only [spec_Ring.l1]
    rw [wid (x := (n : Int) - 1) (by omega) (by omega), if_pos (by omega)]
    refine sL2 n h r h1 hn hh (by omega) _ (by rw [List.length_append, rows_len]; omega) R (M + d * 100 + 1) (fun m hm => ?_) n 0 k (by omega) (by omega)
    rw [List.append_assoc, ← rows_succ]
    exact ih (r + 1) m (by omega) hm
theorem sRing (a : Int) : spec_Ring.f 20000 a = some (ringI a) := by
  unfold spec_Ring.f ringI
  rw [sIn]; simp only [Option.bind_some]
  by_cases c : inB a 1 64 = true
  · rw [if_pos c, if_pos c]
    have := (inB_iff _ _ _).1 c
    obtain ⟨n, rfl⟩ := Int.eq_ofNat_of_zero_le (show 0 ≤ a by omega)
    rw [Int.toNat_natCast]
    simp only [spec_Ring.l0]
    rw [if_pos (by decide)]
    refine sL1 n 0 (by omega) (by omega) (by omega) [] (by simp) _ 9000 (fun m hm => ?_) (n - 1) 0 19999 (by omega) (by omega)
    obtain ⟨m, rfl⟩ : ∃ q, m = q + 1 := ⟨m - 1, by omega⟩
    simp only [spec_Ring.l0]
    rw [if_pos (by decide)]
    have h2 := sL1 n 1 (by omega) (by omega) (by omega) ([] ++ rows n 0 (n - 1)) (by rw [List.length_append, rows_len]; simp; omega) (ringL n) 1 (fun m hm => by
      obtain ⟨m, rfl⟩ : ∃ q, m = q + 1 := ⟨m - 1, by omega⟩
      simp only [spec_Ring.l0]
      rw [if_neg (by decide)]; rfl) (n - 1) 0 m (by omega) (by omega)
    rw [show ([] ++ rows n 0 (n - 1)) ++ rows n 1 0 = [] ++ rows n 0 (n - 1) from List.append_nil _] at h2
    exact h2
  · rw [if_neg c, if_neg c]
theorem iL2 (n h r : Nat) (h1 : 1 ≤ n) (hn : n ≤ 64) (hh : h ≤ 1) (hr : r < n) (x3 : List (List S69)) (hx : x3.length ≤ 1000) (R : List (List S69)) (M : Nat) (hc : ∀ m, M ≤ m → impl_Ring.l1 m n (x3 ++ [mvs n h r n]) h h ((n : Int) - 1) ((r + 1 : Nat) : Int) = some R) :
    ∀ (d i k : Nat), i + d = n → M + d + 1 ≤ k → impl_Ring.l2 k n x3 h r (mvs n h r i) h ((n : Int) - 1) r n i = some R := by
  intro d
  induction d with
  | zero =>
    intro i k hi hk
    obtain ⟨k, rfl⟩ : ∃ m, k = m + 1 := ⟨k - 1, by omega⟩
    obtain rfl : i = n := by omega
    simp only [impl_Ring.l2]
    rw [if_neg (by omega), if_pos (by omega), Loop.wsucc r (by omega)]
    exact hc k (by omega)
  | succ d ih =>
    intro i k hi hk
    obtain ⟨k, rfl⟩ : ∃ m, k = m + 1 := ⟨k - 1, by omega⟩
    simp only [impl_Ring.l2]
    rw [if_pos (by omega), if_neg (by omega), mvs_len, if_pos (by omega), wid (x := (i : Int) + 1) (by omega) (by omega), tmod_nn (a := (i : Int) + 1) (by omega), wid (x := (i : Int) - r) (by omega) (by omega), wid (x := (i : Int) - r + h) (by omega) (by omega), wid (x := 2 * (n : Int)) (by omega) (by omega), wid (x := (i : Int) - r + h + 2 * n) (by omega) (by omega), tmod_nn (a := (i : Int) - r + h + 2 * n) (by omega)]
    have := ih (i + 1) k (by omega) (by omega)
    rw [mvs_succ] at this
    have e : ((i : Int) - r + h + 2 * n) % n = ((i : Int) + h - r) % n := by
      rw [Int.add_mul_emod_self_right]; congr 1; omega
    rw [e]
    exact this
theorem iL1 (n h : Nat) (h1 : 1 ≤ n) (hn : n ≤ 64) (hh : h ≤ 1) (B : List (List S69)) (hB : B.length ≤ 64) (R : List (List S69)) (M : Nat) (hc : ∀ m, M ≤ m → impl_Ring.l0 m n (B ++ rows n h (n - 1)) ((h + 1 : Nat) : Int) = some R) :
    ∀ (d r k : Nat), r + d = n - 1 → M + d * 100 + 1 ≤ k → impl_Ring.l1 k n (B ++ rows n h r) h h ((n : Int) - 1) r = some R := by
  intro d
  induction d with
  | zero =>
    intro r k hr hk
    obtain ⟨k, rfl⟩ : ∃ m, k = m + 1 := ⟨k - 1, by omega⟩
    obtain rfl : r = n - 1 := by omega
    simp only [impl_Ring.l1]
    rw [if_neg (by omega), Loop.wsucc h (by omega)]
    exact hc k (by omega)
  | succ d ih =>
    intro r k hr hk
    obtain ⟨k, rfl⟩ : ∃ m, k = m + 1 := ⟨k - 1, by omega⟩
    simp only [impl_Ring.l1]
    rw [if_pos (by omega)]
    refine iL2 n h r h1 hn hh (by omega) _ (by rw [List.length_append, rows_len]; omega) R (M + d * 100 + 1) (fun m hm => ?_) n 0 k (by omega) (by omega)
    rw [List.append_assoc, ← rows_succ]
    exact ih (r + 1) m (by omega) hm
theorem iRing (a : Int) : impl_Ring.f 20000 a = some (ringI a) := by
  unfold impl_Ring.f ringI
  rw [iIn]; simp only [Option.bind_some]
  by_cases c : inB a 1 64 = true
  · rw [if_pos c, if_pos c]
    have := (inB_iff _ _ _).1 c
    obtain ⟨n, rfl⟩ := Int.eq_ofNat_of_zero_le (show 0 ≤ a by omega)
    rw [Int.toNat_natCast]
    simp only [impl_Ring.l0]
    rw [if_pos (by decide), wid (x := (n : Int) - 1) (by omega) (by omega)]
    refine iL1 n 0 (by omega) (by omega) (by omega) [] (by simp) _ 9000 (fun m hm => ?_) (n - 1) 0 19999 (by omega) (by omega)
    obtain ⟨m, rfl⟩ : ∃ q, m = q + 1 := ⟨m - 1, by omega⟩
    simp only [impl_Ring.l0]
    rw [if_pos (by decide), wid (x := (n : Int) - 1) (by omega) (by omega)]
    have h2 := iL1 n 1 (by omega) (by omega) (by omega) ([] ++ rows n 0 (n - 1)) (by rw [List.length_append, rows_len]; simp; omega) (ringL n) 1 (fun m hm => by
      obtain ⟨m, rfl⟩ : ∃ q, m = q + 1 := ⟨m - 1, by omega⟩
      simp only [impl_Ring.l0]
      rw [if_neg (by decide)]; rfl) (n - 1) 0 m (by omega) (by omega)
    rw [show ([] ++ rows n 0 (n - 1)) ++ rows n 1 0 = [] ++ rows n 0 (n - 1) from List.append_nil _] at h2
    exact h2
  · rw [if_neg c, if_neg c]
theorem ringI_len (a : Int) : (ringI a).length ≤ 200 := by
  unfold ringI
  split
  · rename_i c
    have := (inB_iff _ _ _).1 c
    unfold ringL; rw [List.length_append, rows_len, rows_len]; omega
  · simp
theorem ringI_row (a : Int) : ∀ x ∈ ringI a, x.length ≤ 64 := by
  intro x hx
  unfold ringI at hx
  split at hx
  · rename_i c
    have := (inB_iff _ _ _).1 c
    unfold ringL rows at hx
    rw [List.mem_append, List.mem_map, List.mem_map] at hx
    rcases hx with ⟨r, _, rfl⟩ | ⟨r, _, rfl⟩ <;> rw [mvs_len] <;> omega
  · cases hx
/-- The mark of the j-th move, from a on. -/
def mk (a : Int) (j : Nat) : S69 := ⟨a + 4 * j, a + 4 * j + 1, a + 4 * j + 1 + 1, (Int.tmod (a + 4 * j + 1 + 1 + 1) 3 == 0)⟩
def mkL (a : Int) (n : Nat) : List S69 := (List.range n).map (mk a)
theorem mkL_len (a : Int) (n : Nat) : (mkL a n).length = n := by unfold mkL; simp
theorem mkL_get (a : Int) (n j : Nat) (h : j < n) : (mkL a n).getD j z69 = mk a j := by unfold mkL; rw [Loop.getD_lt _ _ _ (by simpa using h)]; simp
theorem rdT_nat (l : List S69) (i : Nat) : rd_T69 l (i : Int) = l.getD i z69 := by unfold rd_T69; rw [Int.toNat_natCast]
theorem rdT_set (l : List S69) (i : Nat) (v : S69) (h : i < l.length) : rd_T69 (l.set i v) (i : Int) = v := by rw [rdT_nat, Loop.getD_set_eq _ _ _ _ h]
theorem markM_loop (n : Nat) (hn : n ≤ 4096) (a : Int) (a0 : 0 ≤ a) (a1 : a ≤ 4503599627370496) : ∀ (d i k : Nat) (y : List S69), i + d = n → d < k → y.length = n → (∀ j, j < i → y.getD j z69 = mk a j) → laws_markMoveS.l0 k y (a + 4 * i) i = some (a + 4 * n, mkL a n) := by
  intro d
  induction d with
  | zero =>
    intro i k y h hk hy hj
    obtain ⟨k, rfl⟩ : ∃ m, k = m + 1 := ⟨k - 1, by omega⟩
    obtain rfl : i = n := by omega
    simp only [laws_markMoveS.l0]
    rw [if_neg (by omega)]
    congr 2
    refine List.ext_getElem (by rw [mkL_len]; exact hy) fun j h1 h2 => ?_
    have h3 := hj j (by omega)
    rw [← mkL_get a i j (by omega)] at h3
    rwa [Loop.getD_lt _ _ _ h1, Loop.getD_lt _ _ _ h2] at h3
  | succ d ih =>
    intro i k y h hk hy hj
    obtain ⟨k, rfl⟩ : ∃ m, k = m + 1 := ⟨k - 1, by omega⟩
    have hl : i < y.length := by omega
    simp only [laws_markMoveS.l0]
    rw [if_pos (by omega), if_pos (by omega)]
    have rs : ∀ v, rd_T69 (y.set i v) (i : Int) = v := fun v => rdT_set y i v hl
    simp only [Option.bind_some, Int.toNat_natCast, List.set_set, rs]
    rw [Loop.wsucc i (by omega),
      wid (x := a + 4 * (i : Int) + 1) (by omega) (by omega), wid (x := a + 4 * (i : Int) + 1 + 1) (by omega) (by omega), wid (x := a + 4 * (i : Int) + 1 + 1 + 1) (by omega) (by omega), wid (x := a + 4 * (i : Int) + 1 + 1 + 1 + 1) (by omega) (by omega),
      show a + 4 * (i : Int) + 1 + 1 + 1 + 1 = a + 4 * ((i + 1 : Nat) : Int) by omega]
    refine ih (i + 1) k _ (by omega) (by omega) (by rw [List.length_set]; exact hy) fun j h1 => ?_
    by_cases e : j = i
    · rw [e, Loop.getD_set_eq _ _ _ _ hl]; rfl
    · rw [Loop.getD_set_ne _ _ _ _ _ e]; exact hj j (by omega)
theorem markM (l : List S69) (hl : l.length ≤ 4096) (a : Int) (a0 : 0 ≤ a) (a1 : a ≤ 4503599627370496) : laws_markMoveS.f 5000 l a = some (a + 4 * (l.length : Int), mkL a l.length) := by
  unfold laws_markMoveS.f
  have := markM_loop l.length hl a a0 a1 l.length 0 5000 l (by omega) (by omega) rfl (by intro j h; omega)
  rw [Int.natCast_zero, Int.mul_zero, Int.add_zero] at this
  exact this
theorem heldM_loop (n : Nat) (hn : n ≤ 4096) (a : Int) (a0 : 0 ≤ a) (a1 : a ≤ 4503599627370496) : ∀ (d i k : Nat), i + d = n → d < k → laws_heldMoveS.l0 k (mkL a n) (a + 4 * i) i = some (a + 4 * n) := by
  intro d
  induction d with
  | zero =>
    intro i k h hk
    obtain ⟨k, rfl⟩ : ∃ m, k = m + 1 := ⟨k - 1, by omega⟩
    obtain rfl : i = n := by omega
    simp only [laws_heldMoveS.l0]
    rw [mkL_len, if_neg (by omega)]
  | succ d ih =>
    intro i k h hk
    obtain ⟨k, rfl⟩ : ∃ m, k = m + 1 := ⟨k - 1, by omega⟩
    simp only [laws_heldMoveS.l0]
    rw [mkL_len, if_pos (by omega), if_pos (by omega), rdT_nat, mkL_get a n i (by omega), wid (x := a + 4 * (i : Int) + 1) (by omega) (by omega), wid (x := a + 4 * (i : Int) + 1 + 1) (by omega) (by omega), wid (x := a + 4 * (i : Int) + 1 + 1 + 1) (by omega) (by omega), wid (x := a + 4 * (i : Int) + 1 + 1 + 1 + 1) (by omega) (by omega)]
    rw [if_pos (show (mk a i).f0 = a + 4 * (i : Int) from rfl), if_pos (show (mk a i).f1 = a + 4 * (i : Int) + 1 from rfl), if_pos (show (mk a i).f2 = a + 4 * (i : Int) + 1 + 1 from rfl), if_neg (by unfold mk; simp), Loop.wsucc i (by omega), show a + 4 * (i : Int) + 1 + 1 + 1 + 1 = a + 4 * ((i + 1 : Nat) : Int) by omega]
    exact ih (i + 1) k (by omega) (by omega)
theorem heldM (n : Nat) (hn : n ≤ 4096) (a : Int) (a0 : 0 ≤ a) (a1 : a ≤ 4503599627370496) (k : Nat) (hk : 5000 ≤ k) : laws_heldMoveS.f k (mkL a n) a = some (a + 4 * n) := by
  unfold laws_heldMoveS.f
  have := heldM_loop n hn a a0 a1 n 0 k (by omega) (by omega)
  rw [Int.natCast_zero, Int.mul_zero, Int.add_zero] at this
  exact this
/-- How many moves lie ahead of the i-th row. -/
def pre (l : List (List S69)) (i : Nat) : Nat := ((l.take i).map List.length).sum
theorem pre_succ (l : List (List S69)) (i : Nat) (h : i < l.length) : pre l (i + 1) = pre l i + (l.getD i []).length := by
  unfold pre
  rw [List.take_succ_eq_append_getElem h, List.map_append, List.sum_append, Loop.getD_lt _ _ _ h]; simp
theorem pre_bd (l : List (List S69)) (h : ∀ j, j < l.length → (l.getD j []).length ≤ 4096) : ∀ i, i ≤ l.length → pre l i ≤ i * 4096 := by
  intro i
  induction i with
  | zero => intro _; simp [pre]
  | succ i ih =>
    intro hi
    rw [pre_succ l i (by omega)]
    have := ih (by omega); have := h i (by omega); omega
/-- All rows marked, from 1 on. -/
def mkLL (l : List (List S69)) : List (List S69) := (List.range l.length).map (fun j => mkL (1 + 4 * (pre l j : Int)) (l.getD j []).length)
theorem mkLL_len (l : List (List S69)) : (mkLL l).length = l.length := by unfold mkLL; simp
theorem mkLL_get (l : List (List S69)) (j : Nat) (h : j < l.length) : (mkLL l).getD j [] = mkL (1 + 4 * (pre l j : Int)) (l.getD j []).length := by unfold mkLL; rw [Loop.getD_lt _ _ _ (by simpa using h)]; simp
theorem rdL_nat (l : List (List S69)) (i : Nat) : rd_L3 l (i : Int) = l.getD i [] := by unfold rd_L3; rw [Int.toNat_natCast]
theorem heldMM (l : List (List S69)) (hl : l.length ≤ 1000) (h : ∀ j, j < l.length → (l.getD j []).length ≤ 4096) : laws_heldMoveSS.f 20000 (mkLL l) 1 = some (1 + 4 * (pre l l.length : Int)) := by
  have key : ∀ (d i k : Nat), i + d = l.length → d + 6000 ≤ k → laws_heldMoveSS.l0 k (mkLL l) (1 + 4 * (pre l i : Int)) i = some (1 + 4 * (pre l l.length : Int)) := by
    intro d
    induction d with
    | zero =>
      intro i k hi hk
      obtain ⟨k, rfl⟩ : ∃ m, k = m + 1 := ⟨k - 1, by omega⟩
      obtain rfl : i = l.length := by omega
      simp only [laws_heldMoveSS.l0]
      rw [mkLL_len, if_neg (by omega)]
    | succ d ih =>
      intro i k hi hk
      obtain ⟨k, rfl⟩ : ∃ m, k = m + 1 := ⟨k - 1, by omega⟩
      have b := pre_bd l h i (by omega)
      have e := pre_succ l i (by omega)
      have b3 := h i (by omega)
      simp only [laws_heldMoveSS.l0]
      rw [mkLL_len, if_pos (by omega), if_pos (by omega), rdL_nat, mkLL_get l i (by omega), heldM _ b3 _ (by omega) (by omega) k (by omega)]
      simp only [Option.bind_some]
      rw [if_neg (by omega), Loop.wsucc i (by omega), show 1 + 4 * (pre l i : Int) + 4 * ((l.getD i []).length : Int) = 1 + 4 * (pre l (i + 1) : Int) by omega]
      exact ih (i + 1) k (by omega) (by omega)
  unfold laws_heldMoveSS.f
  have := key l.length 0 20000 (by omega) (by omega)
  have p0 : pre l 0 = 0 := by simp [pre]
  rw [p0] at this
  exact this
theorem eqM (l : List S69) (hl : l.length ≤ 4096) (k : Nat) (hk : 5000 ≤ k) : laws_eqMoveS.f k l l = some true := by
  have key : ∀ (d i k : Nat), i + d = l.length → d < k → laws_eqMoveS.l0 k l l i = some true := by
    intro d
    induction d with
    | zero =>
      intro i k hi hk
      obtain ⟨k, rfl⟩ : ∃ m, k = m + 1 := ⟨k - 1, by omega⟩
      simp only [laws_eqMoveS.l0]
      rw [if_neg (by omega)]
    | succ d ih =>
      intro i k hi hk
      obtain ⟨k, rfl⟩ : ∃ m, k = m + 1 := ⟨k - 1, by omega⟩
      simp only [laws_eqMoveS.l0, laws_eqMove.f]
      rw [if_pos (by omega), if_pos (by omega), if_pos (by omega)]
      simp only [if_true, bne_self_eq_false, Bool.false_eq_true, if_false, Option.bind_some]
      rw [Loop.wsucc i (by omega)]
      exact ih (i + 1) k (by omega) (by omega)
  unfold laws_eqMoveS.f
  rw [if_pos rfl]
  exact key l.length 0 k (by omega) (by omega)
theorem eqMM (l : List (List S69)) (hl : l.length ≤ 1000) (h : ∀ j, j < l.length → (l.getD j []).length ≤ 4096) : laws_eqMoveSS.f 20000 l l = some true := by
  have key : ∀ (d i k : Nat), i + d = l.length → d + 6000 ≤ k → laws_eqMoveSS.l0 k l l i = some true := by
    intro d
    induction d with
    | zero =>
      intro i k hi hk
      obtain ⟨k, rfl⟩ : ∃ m, k = m + 1 := ⟨k - 1, by omega⟩
      simp only [laws_eqMoveSS.l0]
      rw [if_neg (by omega)]
    | succ d ih =>
      intro i k hi hk
      obtain ⟨k, rfl⟩ : ∃ m, k = m + 1 := ⟨k - 1, by omega⟩
      simp only [laws_eqMoveSS.l0]
      rw [if_pos (by omega), if_pos (by omega), if_pos (by omega), rdL_nat, eqM _ (h i (by omega)) k (by omega)]
      simp only [Option.bind_some, if_true]
      rw [Loop.wsucc i (by omega)]
      exact ih (i + 1) k (by omega) (by omega)
  unfold laws_eqMoveSS.f
  rw [if_pos rfl]
  exact key l.length 0 20000 (by omega) (by omega)
end Go.Proofs.Ytkbbgjoohffooaa.RingP
