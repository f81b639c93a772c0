/- The draw of a schedule over the statements' cursor: it returns some schedule and leaves the cursor a cursor. No condition. -/
import Derived.Test.YtjgokmnhhcpkcaaCur
import Derived.Test.YtjgokmnhhcpkcaaPl15DrawSchedx1
namespace Go.Proofs.Ytjgokmnhhcpkcaa.Draws
open Go.RowKit Go.Proofs.Ytjgokmnhhcpkcaa.Aid Go.Proofs.YtjgokmnhhcpkcaaW.PrintWords Go.Proofs.YtjgokmnhhcpkcaaW.PrintLast Go.Proofs.YtjgokmnhhcpkcaaW.PrintMore
set_option linter.unusedVariables false
set_option linter.unusedSimpArgs false
namespace Sched
open Go.Proofs.Ytjgokmnhhcpkcaa.Pl15DrawSched
theorem byte_bd (x : Int) : 0 ≤ Go.bits .and .i64 x 255 ∧ Go.bits .and .i64 x 255 < 256 := by
  have : Go.bits .and .i64 x 255 = x % 256 := and_low 8 (by decide) x
  rw [this]; omega
theorem byteOk (l : List Int) (i h : Int) (hl : l.length ≤ 140737488351232) (h0 : 0 ≤ i) (h1 : i ≤ l.length) :
    ∃ x j g, spec_l1Byte.f l i h = some (x, j, g) ∧ 0 ≤ x ∧ x < 256 ∧ 0 ≤ j ∧ j ≤ l.length := by
  unfold spec_l1Byte.f
  by_cases c : i < (l.length : Int)
  · rw [if_pos c, if_pos h0]
    refine ⟨_, _, _, rfl, (byte_bd _).1, (byte_bd _).2, ?_⟩
    rw [wid (by omega) (by omega)]; omega
  · rw [if_neg c]
    exact ⟨_, _, _, rfl, (byte_bd _).1, (byte_bd _).2, h0, h1⟩
theorem belowOk (l : List Int) (i h n : Int) (hl : l.length ≤ 140737488351232) (h0 : 0 ≤ i) (h1 : i ≤ l.length) :
    ∃ x j g, spec_l1Below.f l i h n = some (x, j, g) ∧ 0 ≤ x ∧ (0 < n → x < n) ∧ 0 ≤ j ∧ j ≤ l.length := by
  unfold spec_l1Below.f
  by_cases c : n ≤ 0
  · rw [if_pos c]; exact ⟨_, _, _, rfl, by omega, by omega, h0, h1⟩
  · rw [if_neg c]
    by_cases c2 : n ≤ 256
    · obtain ⟨x, j, g, e, x0, x1, j0, j1⟩ := byteOk l i h hl h0 h1
      rw [if_pos c2, e]; simp only [Option.bind_some]
      rw [if_neg (by omega), tmod_nn x0]
      exact ⟨_, _, _, rfl, Int.emod_nonneg _ (by omega), fun _ => Int.emod_lt_of_pos _ (by omega), j0, j1⟩
    · obtain ⟨x, j, g, e, x0, x1, j0, j1⟩ := byteOk l i h hl h0 h1
      obtain ⟨x2, j2, g2, e2, x20, x21, j20, j21⟩ := byteOk l j g hl j0 j1
      obtain ⟨x3, j3, g3, e3, x30, x31, j30, j31⟩ := byteOk l j2 g2 hl j20 j21
      obtain ⟨x4, j4, g4, e4, x40, x41, j40, j41⟩ := byteOk l j3 g3 hl j30 j31
      rw [if_neg c2, e]; simp only [Option.bind_some]
      rw [e2]; simp only [Option.bind_some]
      rw [e3]; simp only [Option.bind_some]
      rw [e4]; simp only [Option.bind_some]
      rw [if_neg (by omega), wid (x := x * 16777216) (by omega) (by omega), wid (x := x2 * 65536) (by omega) (by omega), wid (x := x3 * 256) (by omega) (by omega),
        wid (x := x * 16777216 + x2 * 65536) (by omega) (by omega), wid (x := x * 16777216 + x2 * 65536 + x3 * 256) (by omega) (by omega), wid (x := x * 16777216 + x2 * 65536 + x3 * 256 + x4) (by omega) (by omega), tmod_nn (by omega)]
      exact ⟨_, _, _, rfl, Int.emod_nonneg _ (by omega), fun _ => Int.emod_lt_of_pos _ (by omega), j40, j41⟩
theorem pickOk (l : List Int) (i h : Int) (xs : List Int) (hx : 0 < xs.length) (hl : l.length ≤ 140737488351232) (h0 : 0 ≤ i) (h1 : i ≤ l.length) :
    ∃ x j g, spec_l1PickInt.f l i h xs = some (x, j, g) ∧ 0 ≤ j ∧ j ≤ l.length := by
  unfold spec_l1PickInt.f
  obtain ⟨x, j, g, e, x0, x1, j0, j1⟩ := belowOk l i h (xs.length : Int) hl h0 h1
  rw [e]; simp only [Option.bind_some]
  rw [if_pos x0, if_pos (x1 (by omega))]
  exact ⟨_, _, _, rfl, j0, j1⟩
theorem onceOk (l : List Int) (i h n : Int) (hl : l.length ≤ 140737488351232) (h0 : 0 ≤ i) (h1 : i ≤ l.length) :
    ∃ b j g, spec_l1Once.f l i h n = some (b, j, g) ∧ 0 ≤ j ∧ j ≤ l.length := by
  unfold spec_l1Once.f
  obtain ⟨x, j, g, e, _, _, j0, j1⟩ := belowOk l i h n hl h0 h1
  rw [e]; exact ⟨_, _, _, rfl, j0, j1⟩
theorem j0Ok (k : Nat) (l : List Int) (i h a b c d : Int) (hl : l.length ≤ 140737488351232) (h0 : 0 ≤ i) (h1 : i ≤ l.length) :
    ∃ p q r s j g, spec_l15DrawSched.j0 (k + 1) l i h a b c d = some (p, q, r, s, j, g) ∧ 0 ≤ j ∧ j ≤ l.length := by
  simp only [spec_l15DrawSched.j0]
  obtain ⟨x, j, g, e, j0, j1⟩ := onceOk l i h 30 hl h0 h1
  rw [e]; simp only [Option.bind_some]
  split
  · obtain ⟨x2, j2, g2, e2, j20, j21⟩ := pickOk l j g [1000000, 1000001, wrap64 (c - 1)] (Nat.zero_lt_succ _) hl j0 j1
    rw [e2]; exact ⟨_, _, _, _, _, _, rfl, j20, j21⟩
  · exact ⟨_, _, _, _, _, _, rfl, j0, j1⟩
theorem schedOk (l : List Int) (i h : Int) (hl : l.length ≤ 140737488351232) (h0 : 0 ≤ i) (h1 : i ≤ l.length) :
    ∃ a b c d j g, spec_l15DrawSched.f 1 l i h = some (a, b, c, d, j, g) ∧ 0 ≤ j ∧ j ≤ l.length := by
  unfold spec_l15DrawSched.f
  obtain ⟨x, j, g, e, _, _, j0, j1⟩ := belowOk l i h 200000 hl h0 h1
  obtain ⟨x2, j2, g2, e2, _, _, j20, j21⟩ := belowOk l j g 6 hl j0 j1
  obtain ⟨x3, j3, g3, e3, _, _, j30, j31⟩ := belowOk l j2 g2 (wrap64 (x + 1)) hl j20 j21
  obtain ⟨x4, j4, g4, e4, _, _, j40, j41⟩ := belowOk l j3 g3 12 hl j30 j31
  obtain ⟨x5, j5, g5, e5, j50, j51⟩ := onceOk l j4 g4 30 hl j40 j41
  rw [e]; simp only [Option.bind_some]
  rw [e2]; simp only [Option.bind_some]
  rw [e3]; simp only [Option.bind_some]
  rw [e4]; simp only [Option.bind_some]
  rw [e5]; simp only [Option.bind_some]
  split
  · obtain ⟨x6, j6, g6, e6, j60, j61⟩ := pickOk l j5 g5 [16777216, 16777217, (-1)] (Nat.zero_lt_succ _) hl j50 j51
    rw [e6]; exact j0Ok 0 l j6 g6 _ _ _ _ hl j60 j61
  · exact j0Ok 0 l j5 g5 _ _ _ _ hl j50 j51
theorem sched_cur {w0 w : World} {g : Nat} {l : List Int} (hC : Cur w0 w g l) :
    Calls Try.prog 60 #[.pointer (some ⟨g, 0, none⟩)] w fun e w' => ∃ a b c d : Int, e = .returned (.agg #[.int .i64 a, .int .i64 b, .int .i64 c, .int .i64 d]) ∧ Cur w0 w' g l := by
  obtain ⟨i, h, hI, hB, h0, h1, hl⟩ := hC
  obtain ⟨a, b, c, d, j, k, e, j0, j1⟩ := schedOk l i h hl h0 h1
  exact (spec_l15DrawSched.calls 1 g l i h a b c d j k w0 w hI hB e).mono fun e w' ⟨he, hI, hB, _⟩ => ⟨a, b, c, d, he, j, k, hI, hB, j0, j1, hl⟩
end Sched
end Go.Proofs.Ytjgokmnhhcpkcaa.Draws
