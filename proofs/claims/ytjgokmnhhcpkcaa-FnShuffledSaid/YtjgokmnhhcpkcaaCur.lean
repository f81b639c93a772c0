/- The statements' cursor as one word, and the draws over it: whatever the bytes, each returns some value and leaves the cursor a cursor. No condition. -/
import Derived.Test.YtjgokmnhhcpkcaaDrawsPower
namespace Go.Proofs.Ytjgokmnhhcpkcaa.Draws
open Go.RowKit Go.Proofs.Ytjgokmnhhcpkcaa.Aid Go.Proofs.Ytjgokmnhhcpkcaa.L1New Go.Proofs.Ytjgokmnhhcpkcaa.Pl1Any Go.Proofs.YtjgokmnhhcpkcaaW.PrintWords Go.Proofs.YtjgokmnhhcpkcaaW.PrintLast Go.Proofs.YtjgokmnhhcpkcaaW.PrintMore
set_option linter.unusedVariables false
set_option linter.unusedSimpArgs false
def Cur (w0 w : World) (g : Nat) (l : List Int) : Prop := ∃ j k, IsS62 w0 w g l j k ∧ Below w0.heap.size w0 w ∧ 0 ≤ j ∧ j ≤ l.length ∧ l.length ≤ 140737488351232
theorem Cur.below {w0 w : World} {g : Nat} {l : List Int} (h : Cur w0 w g l) : Below w0.heap.size w0 w := by obtain ⟨_, _, _, h, _⟩ := h; exact h
theorem Cur.alloc {w0 w : World} {g : Nat} {l : List Int} (h : Cur w0 w g l) (o : Obj) : Cur w0 (w.alloc o) g l := by
  obtain ⟨j, k, h1, h2, h3⟩ := h
  exact ⟨j, k, h1.alloc o, by (with_reducible apply below_alloc); exact h2, h3⟩
theorem Cur.drewN {w0 w : World} {g : Nat} {l : List Int} (h : Cur w0 w g l) (n : Nat) : Cur w0 (w.drewN n) g l := by
  obtain ⟨j, k, h1, h2, h3⟩ := h
  exact ⟨j, k, h1.drewN n, pw_below_drewN h2 n, h3⟩
theorem Cur.far {w0 w : World} {g : Nat} {l : List Int} (h : Cur w0 w g l) {b o : Nat} (hne : g ≠ b) (hge : w0.heap.size ≤ b) (u : Value) : Cur w0 (w.setCell ⟨b, o, none⟩ u) g l := by
  obtain ⟨j, k, h1, h2, h3⟩ := h
  exact ⟨j, k, h1.far (p := ⟨b, o, none⟩) hne u, below_set h2 hge, h3⟩
theorem Cur.lt {w0 w : World} {g : Nat} {l : List Int} (h : Cur w0 w g l) : g < w.heap.size := by
  obtain ⟨j, k, h1, _⟩ := h
  exact h1.lt
theorem new_cur (A0 : Option Addr) (c0 : Nat) (l0 : List Int) (w : World) (hr0 : Kd.C (Kd.int .u8) w A0 l0.length l0) (hc0 : l0.length ≤ c0) (hm : l0.length ≤ 140737488351232) :
    Calls Try.prog 48 #[.slice A0 l0.length c0] w fun e w' => ∃ g, e = .returned (.pointer (some ⟨g, 0, none⟩)) ∧ Cur w w' g l0 :=
  (l1New_calls A0 c0 l0 w hr0 hc0 hm).mono fun e w' ⟨g, h, he, hI, hB⟩ => ⟨g, he, 0, h, hI, hB, Int.le_refl _, by omega, hm⟩
theorem any_cur {w0 w : World} {g : Nat} {l : List Int} (hC : Cur w0 w g l) :
    Calls Try.prog 49 #[.pointer (some ⟨g, 0, none⟩)] w fun e w' => ∃ x, e = .returned (.int .i64 x) ∧ Cur w0 w' g l := by
  obtain ⟨j, k, h1, h2, h3, h4, h5⟩ := hC
  exact (any_calls w0 w g l j k h1 h2 h5 h3 h4).mono fun e w' ⟨x, j, k, he, hI, hB, a, b⟩ => ⟨x, he, j, k, hI, hB, a, b, h5⟩
theorem below_cur {w0 w : World} {g : Nat} {l : List Int} (hC : Cur w0 w g l) (n : Int) :
    Calls Try.prog 51 #[.pointer (some ⟨g, 0, none⟩), .int .i64 n] w fun e w' => ∃ x, e = .returned (.int .i64 x) ∧ Cur w0 w' g l ∧ 0 ≤ x ∧ (0 < n → x < n) := by
  obtain ⟨j, k, h1, h2, h3, h4, h5⟩ := hC
  exact (below_calls w0 w g l j k n h1 h2 h5 h3 h4).mono fun e w' ⟨x, j, k, he, hI, hB, a, b, c, d⟩ => ⟨x, he, ⟨j, k, hI, hB, a, b, h5⟩, c, d⟩
/-- A pick out of a row that a literal has just laid. -/
theorem pick_cur {w0 w : World} {g : Nat} {l : List Int} (hC : Cur w0 w g l) (x : Int) (xs : List Int) (hx : (x :: xs).length ≤ 1000) (t : TypeId) :
    Calls Try.prog 50 #[.pointer (some ⟨g, 0, none⟩), .slice (some ⟨w.heap.size, 0, none⟩) (x :: xs).length (x :: xs).length] (w.alloc (.cells ⟨(x :: xs).map (fun x => Value.int .i64 x)⟩ t)) fun e w' => ∃ y, e = .returned (.int .i64 y) ∧ Cur w0 w' g l := by
  have hA := hC.alloc (.cells ⟨(x :: xs).map (fun x => Value.int .i64 x)⟩ t)
  obtain ⟨j, k, h1, _⟩ := hC
  obtain ⟨j2, k2, g1, g2, g3, g4, g5⟩ := hA
  exact (pick_calls w0 _ g l j2 k2 _ _ (x :: xs) g1 g2 g5 g3 g4 (lit_C w (x :: xs) t hx) (Nat.le_refl _) (fun ad h _ => by cases h; exact IsS62.fresh h1 _ (Nat.le_refl _)) (Nat.zero_lt_succ _)).mono
    fun e w' ⟨y, j, k, he, hI, hB, a, b⟩ => ⟨y, he, j, k, hI, hB, a, b, g5⟩
set_option maxRecDepth 100000 in
set_option maxHeartbeats 1000000 in
theorem once_cur {w0 w : World} {g : Nat} {l : List Int} (hC : Cur w0 w g l) (n : Int) :
    Calls Try.prog 58 #[.pointer (some ⟨g, 0, none⟩), .int .i64 n] w fun e w' => ∃ b, e = .returned (.bool b) ∧ Cur w0 w' g l := by
  have hb := below_cur hC n
  go_enter Try.func58, Try.ntmps58
  go_wp2_with fail
  refine hb.mono ?_
  rintro e w' ⟨x, rfl, hC, _, _⟩
  go_wp2_with fail
  go_ret
  exact ⟨_, rfl, hC⟩
set_option maxRecDepth 100000 in
set_option maxHeartbeats 1000000 in
theorem whole_cur {w0 w : World} {g : Nat} {l : List Int} (hC : Cur w0 w g l) :
    Calls Try.prog 57 #[.pointer (some ⟨g, 0, none⟩)] w fun e w' => ∃ x, e = .returned (.int .i64 x) ∧ Cur w0 w' g l := by
  have hb := below_cur hC 1073741824
  go_enter Try.func57, Try.ntmps57
  go_wp2_with fail
  refine hb.mono ?_
  rintro e w' ⟨x, rfl, hC, x0, x1⟩
  have x1 := x1 (by decide)
  go_wp2_with fail
  refine (below_cur hC 6).mono ?_
  rintro e w' ⟨y, rfl, hC, _, _⟩
  by_cases h0 : y = 0
  · subst h0
    go_wp2_with fail
    refine (pick_cur hC 16777216 [16777217, 16777219, 33554434, 33554438, 9223372036854775807, -9223372036854775808, 4611686018427387904, 4611686293305294848, 4611686843061108736, -4611686018427387904] (by simp) 3).mono ?_
    rintro e w' ⟨y, rfl, hC⟩
    go_wp2_with fail
    go_ret
    exact ⟨_, rfl, hC⟩
  · have b0 : (y == 0) = false := beq_eq_false_iff_ne.mpr h0
    clear h0
    by_cases h1 : y = 1
    · subst h1
      go_wp2_with fail
      go_ret
      exact ⟨_, rfl, hC⟩
    · have b1 : (y == 1) = false := beq_eq_false_iff_ne.mpr h1
      clear h1
      by_cases h2 : y = 2
      · subst h2
        go_wp2_with fail
        go_ret
        exact ⟨_, rfl, hC⟩
      · have b2 : (y == 2) = false := beq_eq_false_iff_ne.mpr h2
        clear h2
        go_wp2_with fail
        go_ret
        exact ⟨_, rfl, hC⟩
end Go.Proofs.Ytjgokmnhhcpkcaa.Draws
