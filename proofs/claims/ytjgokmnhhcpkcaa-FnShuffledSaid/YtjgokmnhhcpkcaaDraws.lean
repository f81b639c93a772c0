/- The draws: whatever the bytes, each returns some value. No condition. -/
import Derived.Test.YtjgokmnhhcpkcaaL1New
namespace Go.Proofs.Ytjgokmnhhcpkcaa.Draws
open Go.RowKit Go.Proofs.Ytjgokmnhhcpkcaa.Aid Go.Proofs.Ytjgokmnhhcpkcaa.L1New Go.Proofs.Ytjgokmnhhcpkcaa.Pl1Any Go.Proofs.YtjgokmnhhcpkcaaW.PrintWords Go.Proofs.YtjgokmnhhcpkcaaW.PrintLast Go.Proofs.YtjgokmnhhcpkcaaW.PrintMore
set_option linter.unusedVariables false
set_option linter.unusedSimpArgs false
theorem mod_eq (a : Int) : (if (Int.tmod a 2147483647) < 0 then (some (wrap64 ((Int.tmod a 2147483647) + 2147483647))) else (some (Int.tmod a 2147483647))) = some (a % 2147483647) := by
  have h := tmod_fix a 2147483647 (by decide)
  have hb := tmod_bd a 2147483647 (by decide)
  by_cases c : Int.tmod a 2147483647 < 0
  · rw [if_pos c] at h ⊢; rw [wid (by omega) (by omega), h]
  · rw [if_neg c] at h ⊢; rw [h]
theorem sMod (a : Int) : spec_Mod.f a = some (a % 2147483647) := mod_eq a
theorem m_lo (a : Int) : 0 ≤ a % 2147483647 := Int.emod_nonneg a (by decide)
theorem m_hi (a : Int) : a % 2147483647 < 2147483647 := Int.emod_lt_of_pos a (by decide)
theorem prod_bd {a b : Int} (ha : 0 ≤ a) (ha' : a < 2147483647) (hb : 0 ≤ b) (hb' : b < 2147483647) : 0 ≤ a * b ∧ a * b ≤ 4611686009837453316 := by
  refine ⟨Int.mul_nonneg ha hb, ?_⟩
  have := Int.mul_le_mul (show a ≤ 2147483646 by omega) (show b ≤ 2147483646 by omega) hb (by decide)
  omega
theorem sTimes (a b : Int) : spec_Times.f a b = some (a % 2147483647 * (b % 2147483647) % 2147483647) := by
  have h := prod_bd (m_lo a) (m_hi a) (m_lo b) (m_hi b)
  unfold spec_Times.f
  rw [sMod, sMod]; simp only [Option.bind_some]
  rw [wid (by omega) (by omega), sMod]; rfl
theorem sMinus (a b : Int) : spec_Minus.f a b = some ((a - b) % 2147483647) := by
  have h1 := m_lo a; have h2 := m_hi a; have h3 := m_lo b; have h4 := m_hi b
  unfold spec_Minus.f
  rw [sMod, sMod]; simp only [Option.bind_some]
  rw [wid (by omega) (by omega), sMod]; simp
/-- The exponent of an inverse. -/
def PE : Nat := 2147483645
theorem PE_cast : ((PE : Nat) : Int) = 2147483645 := rfl
attribute [irreducible] PE
theorem mm (a b : Int) : a % 2147483647 * (b % 2147483647) % 2147483647 = a * b % 2147483647 := (Int.mul_emod a b _).symm
theorem mml (a b : Int) : a % 2147483647 * b % 2147483647 = a * b % 2147483647 := by rw [Int.mul_emod, Int.emod_emod_of_dvd _ (Int.dvd_refl _), ← Int.mul_emod]
theorem mmr (a b : Int) : a * (b % 2147483647) % 2147483647 = a * b % 2147483647 := by rw [Int.mul_emod, Int.emod_emod_of_dvd _ (Int.dvd_refl _), ← Int.mul_emod]
theorem mmod (a : Int) : a % 2147483647 % 2147483647 = a % 2147483647 := Int.emod_emod_of_dvd _ (Int.dvd_refl _)
theorem pow_half (a : Int) (n : Nat) : a ^ n = a ^ (n / 2) * a ^ (n / 2) * a ^ (n % 2) := by
  rw [← Int.pow_add, ← Int.pow_add]; congr 1; omega
theorem pow_mod (a : Int) : ∀ n : Nat, (a % 2147483647) ^ n % 2147483647 = a ^ n % 2147483647 := by
  intro n
  induction n with
  | zero => rw [Int.pow_zero, Int.pow_zero]
  | succ n ih => rw [Int.pow_succ, Int.pow_succ, Int.mul_emod, ih, mmod, mm]
def invI (a : Int) : Int := (a % 2147483647) ^ PE % 2147483647
theorem sRaise (a : Int) (d : Nat) : ∀ (k : Nat) (n : Nat), n < 2 ^ d → n < 9223372036854775807 → d < k → spec_l1Raise.f k a n = some (if n = 0 then 1 else a ^ n % 2147483647) := by
  induction d with
  | zero =>
    intro k n h _ hk
    obtain ⟨k, rfl⟩ : ∃ m, k = m + 1 := ⟨k - 1, by omega⟩
    have e : n = 0 := by have : (2 : Nat) ^ 0 = 1 := rfl
                         omega
    subst e; rfl
  | succ d ih =>
    intro k n h h' hk
    obtain ⟨k, rfl⟩ : ∃ m, k = m + 1 := ⟨k - 1, by omega⟩
    simp only [spec_l1Raise.f]
    by_cases h0 : n = 0
    · subst h0; rfl
    · rw [if_neg (show ¬ (n : Int) = 0 by omega), if_neg h0]
      have hp : 2 ^ (d + 1) = 2 * 2 ^ d := by rw [Nat.pow_succ]; omega
      have e1 : Int.tdiv (n : Int) 2 = ((n / 2 : Nat) : Int) := by rw [tdiv_nn (by omega)]; omega
      have e2 : Int.tmod (n : Int) 2 = ((n % 2 : Nat) : Int) := by rw [tmod_nn (by omega)]; omega
      rw [e1, e2, wid (by omega) (by omega), ih k (n / 2) (by omega) (by omega) (by omega)]
      simp only [Option.bind_some, sTimes, mm]
      have hh := pow_half a n
      have t : (if n / 2 = 0 then (1 : Int) else a ^ (n / 2) % 2147483647) * (if n / 2 = 0 then (1 : Int) else a ^ (n / 2) % 2147483647) % 2147483647 = a ^ (n / 2) * a ^ (n / 2) % 2147483647 := by
        by_cases c : n / 2 = 0
        · rw [if_pos c, c, Int.pow_zero]
        · rw [if_neg c, mm]
      rw [t, mml]
      rcases Nat.mod_two_eq_zero_or_one n with m | m
      · rw [m, if_neg (by decide), hh, m, Int.pow_zero, Int.mul_one]
      · rw [m, if_pos (by decide), hh, m, Int.pow_one]
theorem sRaise' (a : Int) (k : Nat) (n : Nat) (h : n ≤ 2147483645) (hk : 31 < k) : spec_l1Raise.f k a n = some (a ^ n % 2147483647) := by
  rw [sRaise a 31 k n (by have : (2 : Nat) ^ 31 = 2147483648 := by decide
                          omega) (by omega) hk]
  by_cases c : n = 0
  · subst c; rw [if_pos rfl, Int.pow_zero]; rfl
  · rw [if_neg c]
theorem sInv (k : Nat) (hk : 31 < k) (a : Int) : spec_Inverse.f k a = some (invI a) := by
  unfold spec_Inverse.f invI
  rw [sMod]; simp only [Option.bind_some]
  rw [← PE_cast, sRaise' _ k PE (by have := PE_cast; omega) hk]; rfl
def overI (a b : Int) : Int := a * invI b % 2147483647
theorem sOver (k : Nat) (hk : 31 < k) (a b : Int) : spec_Over.f k a b = some (overI a b) := by
  unfold spec_Over.f overI
  rw [sInv k hk]; simp only [Option.bind_some, sTimes, mm]
/-- A byte of a draw. -/
theorem byte_bd (x : Int) : 0 ≤ Go.bits .and .i64 x 255 ∧ Go.bits .and .i64 x 255 < 256 := by
  have : Go.bits .and .i64 x 255 = x % 256 := and_low 8 (by decide) x
  rw [this]; omega
theorem byteOk (l : List Int) (i h : Int) (hl : l.length ≤ 140737488351232) (h0 : 0 ≤ i) (h1 : i ≤ l.length) :
    ∃ x j g, spec_l1Byte.f l i h = some (x, j, g) ∧ 0 ≤ x ∧ x < 256 ∧ 0 ≤ j ∧ j ≤ l.length := by
  unfold spec_l1Byte.f
  by_cases c : i < (l.length : Int)
  · rw [if_pos c, if_pos h0]
    refine ⟨_, _, _, rfl, (byte_bd _).1, (byte_bd _).2, ?_⟩
    rw [wid (by omega) (by omega)]; omega
  · rw [if_neg c]
    exact ⟨_, _, _, rfl, (byte_bd _).1, (byte_bd _).2, h0, h1⟩
theorem belowOk (l : List Int) (i h n : Int) (hl : l.length ≤ 140737488351232) (h0 : 0 ≤ i) (h1 : i ≤ l.length) :
    ∃ x j g, spec_l1Below.f l i h n = some (x, j, g) ∧ 0 ≤ x ∧ (0 < n → x < n) ∧ 0 ≤ j ∧ j ≤ l.length := by
  unfold spec_l1Below.f
  by_cases c : n ≤ 0
  · rw [if_pos c]; exact ⟨_, _, _, rfl, by omega, by omega, h0, h1⟩
  · rw [if_neg c]
    by_cases c2 : n ≤ 256
    · obtain ⟨x, j, g, e, x0, x1, j0, j1⟩ := byteOk l i h hl h0 h1
      rw [if_pos c2, e]; simp only [Option.bind_some]
      rw [if_neg (by omega), tmod_nn x0]
      exact ⟨_, _, _, rfl, Int.emod_nonneg _ (by omega), fun _ => Int.emod_lt_of_pos _ (by omega), j0, j1⟩
    · obtain ⟨x, j, g, e, x0, x1, j0, j1⟩ := byteOk l i h hl h0 h1
      obtain ⟨x2, j2, g2, e2, x20, x21, j20, j21⟩ := byteOk l j g hl j0 j1
      obtain ⟨x3, j3, g3, e3, x30, x31, j30, j31⟩ := byteOk l j2 g2 hl j20 j21
      obtain ⟨x4, j4, g4, e4, x40, x41, j40, j41⟩ := byteOk l j3 g3 hl j30 j31
      rw [if_neg c2, e]; simp only [Option.bind_some]
      rw [e2]; simp only [Option.bind_some]
      rw [e3]; simp only [Option.bind_some]
      rw [e4]; simp only [Option.bind_some]
      rw [if_neg (by omega), wid (x := x * 16777216) (by omega) (by omega), wid (x := x2 * 65536) (by omega) (by omega), wid (x := x3 * 256) (by omega) (by omega),
        wid (x := x * 16777216 + x2 * 65536) (by omega) (by omega), wid (x := x * 16777216 + x2 * 65536 + x3 * 256) (by omega) (by omega), wid (x := x * 16777216 + x2 * 65536 + x3 * 256 + x4) (by omega) (by omega), tmod_nn (by omega)]
      exact ⟨_, _, _, rfl, Int.emod_nonneg _ (by omega), fun _ => Int.emod_lt_of_pos _ (by omega), j40, j41⟩
theorem pickOk (l : List Int) (i h : Int) (xs : List Int) (hx : 0 < xs.length) (hl : l.length ≤ 140737488351232) (h0 : 0 ≤ i) (h1 : i ≤ l.length) :
    ∃ x j g, spec_l1PickInt.f l i h xs = some (x, j, g) ∧ 0 ≤ j ∧ j ≤ l.length := by
  unfold spec_l1PickInt.f
  obtain ⟨x, j, g, e, x0, x1, j0, j1⟩ := belowOk l i h (xs.length : Int) hl h0 h1
  rw [e]; simp only [Option.bind_some]
  rw [if_pos x0, if_pos (x1 (by omega))]
  exact ⟨_, _, _, rfl, j0, j1⟩
theorem numOk (k : Nat) (hk : 31 < k) (l : List Int) (i h : Int) (hl : l.length ≤ 140737488351232) (h0 : 0 ≤ i) (h1 : i ≤ l.length) :
    ∃ x j g, spec_l1Num.f k l i h = some (x, j, g) ∧ 0 ≤ j ∧ j ≤ l.length := by
  unfold spec_l1Num.f
  obtain ⟨x, j, g, e, x0, x1, j0, j1⟩ := belowOk l i h 8 hl h0 h1
  rw [e]; simp only [Option.bind_some]
  split
  · obtain ⟨x2, j2, g2, e2, x20, x21, j20, j21⟩ := belowOk l j g 20 hl j0 j1
    obtain ⟨x3, j3, g3, e3, x30, x31, j30, j31⟩ := belowOk l j2 g2 9 hl j20 j21
    rw [e2]; simp only [Option.bind_some]
    rw [e3]; simp only [Option.bind_some]
    rw [sOver k hk]; exact ⟨_, _, _, rfl, j30, j31⟩
  · split
    · obtain ⟨x2, j2, g2, e2, x20, x21, j20, j21⟩ := belowOk l j g 9 hl j0 j1
      rw [e2]; simp only [Option.bind_some]
      rw [sMinus]; exact ⟨_, _, _, rfl, j20, j21⟩
    · split
      · obtain ⟨x2, j2, g2, e2, x20, x21, j20, j21⟩ := belowOk l j g 2147483647 hl j0 j1
        rw [e2]; exact ⟨_, _, _, rfl, j20, j21⟩
      · split
        · obtain ⟨x2, j2, g2, e2, j20, j21⟩ := pickOk l j g [0, 1, 2147483646, 1073741823, 1073741824, 32767, 32768] (by decide) hl j0 j1
          rw [e2]; exact ⟨_, _, _, rfl, j20, j21⟩
        · obtain ⟨x2, j2, g2, e2, x20, x21, j20, j21⟩ := belowOk l j g 7 hl j0 j1
          rw [e2]; exact ⟨_, _, _, rfl, j20, j21⟩
theorem anyOk (k : Nat) (hk : 31 < k) (l : List Int) (i h : Int) (hl : l.length ≤ 140737488351232) (h0 : 0 ≤ i) (h1 : i ≤ l.length) :
    ∃ x j g, spec_l1Any.f k l i h = some (x, j, g) ∧ 0 ≤ j ∧ j ≤ l.length := by
  unfold spec_l1Any.f
  obtain ⟨x, j, g, e, x0, x1, j0, j1⟩ := belowOk l i h 8 hl h0 h1
  rw [e]; simp only [Option.bind_some]
  split
  · obtain ⟨x2, j2, g2, e2, j20, j21⟩ := pickOk l j g [(-1), 2147483647, 2147483648, (-2147483647), 9223372036854775807, (-9223372036854775808), 2147483648, 4294967295, 4294967296] (by decide) hl j0 j1
    rw [e2]; exact ⟨_, _, _, rfl, j20, j21⟩
  · split
    · obtain ⟨x2, j2, g2, e2, x20, x21, j20, j21⟩ := belowOk l j g 2147483648 hl j0 j1
      rw [e2]; exact ⟨_, _, _, rfl, j20, j21⟩
    · obtain ⟨x2, j2, g2, e2, j20, j21⟩ := numOk k hk l j g hl j0 j1
      rw [e2]; exact ⟨_, _, _, rfl, j20, j21⟩
/-- l1Any on a cursor. -/
theorem any_calls (w0 w : World) (g : Nat) (l : List Int) (i h : Int) (hI : IsS62 w0 w g l i h) (hB : Below w0.heap.size w0 w) (hl : l.length ≤ 140737488351232) (h0 : 0 ≤ i) (h1 : i ≤ l.length) :
    Calls Try.prog 49 #[.pointer (some ⟨g, 0, none⟩)] w fun e w' => ∃ x j k, e = .returned (.int .i64 x) ∧ IsS62 w0 w' g l j k ∧ Below w0.heap.size w0 w' ∧ 0 ≤ j ∧ j ≤ l.length := by
  obtain ⟨x, j, k, e, j0, j1⟩ := anyOk 32 (by decide) l i h hl h0 h1
  exact (spec_l1Any.calls 32 g l i h x j k w0 w hI hB e).mono fun e w' h => ⟨x, j, k, h.1, h.2.1, h.2.2.1, j0, j1⟩
theorem below_calls (w0 w : World) (g : Nat) (l : List Int) (i h n : Int) (hI : IsS62 w0 w g l i h) (hB : Below w0.heap.size w0 w) (hl : l.length ≤ 140737488351232) (h0 : 0 ≤ i) (h1 : i ≤ l.length) :
    Calls Try.prog 51 #[.pointer (some ⟨g, 0, none⟩), .int .i64 n] w fun e w' => ∃ x j k, e = .returned (.int .i64 x) ∧ IsS62 w0 w' g l j k ∧ Below w0.heap.size w0 w' ∧ 0 ≤ j ∧ j ≤ l.length ∧ 0 ≤ x ∧ (0 < n → x < n) := by
  obtain ⟨x, j, k, e, x0, x1, j0, j1⟩ := belowOk l i h n hl h0 h1
  exact (spec_l1Below.calls g l i h n x j k w0 w hI hB e).mono fun e w' h => ⟨x, j, k, h.1, h.2.1, h.2.2.1, j0, j1, x0, x1⟩
set_option maxRecDepth 100000 in
set_option maxHeartbeats 4000000 in
theorem two_calls (A0 : Option Addr) (c0 : Nat) (l0 : List Int) (w : World) (hr0 : Kd.C (Kd.int .u8) w A0 l0.length l0) (hc0 : l0.length ≤ c0) (hm : l0.length ≤ 140737488351232) :
    Calls Try.prog 47 #[.slice A0 l0.length c0] w fun e w' => ∃ x y, e = .returned (.tuple #[.int .i64 x, .int .i64 y]) ∧ Below w.heap.size w w' := by
  have hN := l1New_calls A0 c0 l0 w hr0 hc0 hm
  go_enter Try.func47, Try.ntmps47
  go_wp2_with fail
  refine hN.mono ?_
  rintro e w1 ⟨g, h, rfl, hI1, hB1⟩
  go_wp2_with fail
  refine (any_calls w _ g l0 0 h hI1 hB1 hm (by decide) (by omega)).mono ?_
  rintro e w2 ⟨x, j, k, rfl, hI2, hB2, j0, j1⟩
  go_wp2_with fail
  refine (any_calls w _ g l0 j k hI2 hB2 hm j0 j1).mono ?_
  rintro e w3 ⟨y, j2, k2, rfl, hI3, hB3, _, _⟩
  go_wp2_with fail
  go_ret2
  exact ⟨x, y, rfl, hB3⟩
set_option maxRecDepth 100000 in
set_option maxHeartbeats 4000000 in
theorem drawPlus_calls (A0 : Option Addr) (c0 : Nat) (l0 : List Int) (w : World) (hr0 : Kd.C (Kd.int .u8) w A0 l0.length l0) (hc0 : l0.length ≤ c0) (hm : l0.length ≤ 140737488351232) :
    Calls Try.prog 16 #[.slice A0 l0.length c0] w fun e w' => ∃ x y, e = .returned (.tuple #[.int .i64 x, .int .i64 y]) ∧ Below w.heap.size w w' := by
  have hN := two_calls A0 c0 l0 w hr0 hc0 hm
  go_enter Try.func16, Try.ntmps16
  go_wp2_with fail
  refine hN.mono ?_
  rintro e w1 ⟨x, y, rfl, hB1⟩
  go_wp2_with fail
  go_ret2
  exact ⟨x, y, rfl, hB1⟩
theorem pick_calls (w0 w : World) (g : Nat) (l : List Int) (i h : Int) (A1 : Option Addr) (c1 : Nat) (xs : List Int) (hI : IsS62 w0 w g l i h) (hB : Below w0.heap.size w0 w) (hl : l.length ≤ 140737488351232) (h0 : 0 ≤ i) (h1 : i ≤ l.length)
    (hr1 : Kd.C (Kd.int .i64) w A1 xs.length xs) (hc1 : xs.length ≤ c1) (hf1 : ∀ ad, A1 = some ad → 0 < xs.length → ad.block ≠ g) (hx : 0 < xs.length) :
    Calls Try.prog 50 #[.pointer (some ⟨g, 0, none⟩), .slice A1 xs.length c1] w fun e w' => ∃ x j k, e = .returned (.int .i64 x) ∧ IsS62 w0 w' g l j k ∧ Below w0.heap.size w0 w' ∧ 0 ≤ j ∧ j ≤ l.length := by
  obtain ⟨x, j, k, e, j0, j1⟩ := pickOk l i h xs hx hl h0 h1
  exact (spec_l1PickInt.calls g l i h A1 c1 xs x j k w0 w hI hB hr1 hc1 hf1 e).mono fun e w' h => ⟨x, j, k, h.1, h.2.1, h.2.2.1, j0, j1⟩
/-- A row that a literal lays, read. -/
theorem lit_C (w : World) (xs : List Int) (t : TypeId) (hx : xs.length ≤ 1000) : Kd.C (Kd.int .i64) (w.alloc (.cells ⟨xs.map (fun x => Value.int .i64 x)⟩ t)) (some ⟨w.heap.size, 0, none⟩) xs.length xs := by
  refine ⟨rfl, by omega, fun _ => ⟨_, rfl, fun j p hj => ⟨[.int .i64 p], rfl, rfl, fun i u hu => ?_⟩⟩⟩
  cases i with
  | succ i => simp at hu
  | zero =>
    obtain rfl : Value.int .i64 p = u := by simpa using hu
    obtain ⟨hl, he⟩ := List.getElem?_eq_some_iff.1 hj
    have ea : (Addr.add ⟨w.heap.size, 0, none⟩ (j * (Kd.int .i64).sz + 0)) = (⟨w.heap.size, j, none⟩ : Addr) := by
      show Addr.add ⟨w.heap.size, 0, none⟩ (j * 1 + 0) = _
      unfold Addr.add
      by_cases c : j = 0
      · subst c; rfl
      · rw [if_neg (by omega)]; simp
    show (w.alloc _).cell? (Addr.add ⟨w.heap.size, 0, none⟩ (j * (Kd.int .i64).sz + 0)) = _
    rw [ea]
    unfold World.cell?
    rw [show (w.alloc (.cells ⟨xs.map (fun x => Value.int .i64 x)⟩ t)).heap[w.heap.size]? = _ from heap_alloc_new w _]
    simp [hl, he]
end Go.Proofs.Ytjgokmnhhcpkcaa.Draws
