/- The program's functions on single floats, walked: single, bitsOf, FAdd, FMul, FDiv, FNeg, FLess. No condition. -/
import Derived.Test.YtconefdllomgbaaProg
import Derived.Test.YtconefdllomgbaaAid
import Derived.WalkKit
import Derived.WalkLawsBesides
import Derived.Laws.Externs
import Derived.Laws.Cover2
import Derived.Laws.FloatArith
import Derived.Lib.Hide
namespace Go.Proofs.Ytconefdllomgbaa.FWalk
open Go.RowKit Go.Proofs.Ytconefdllomgbaa.Aid
set_option linter.unusedVariables false
set_option linter.unusedSimpArgs false

theorem run_bits (b : Nat) (W : World) : (callFunc 37 #[.float .f32 b]).run Try.prog W = .ok (.value (.int .u32 b)) W := by
  rw [run_callFunc_extern Try.func37 (by kernel_rfl) (by kernel_rfl) (by kernel_rfl) (e := Extern.MathFloatBits.float32bits) (by kernel_rfl)]
  rfl
theorem run_from (n : Int) (W : World) : (callFunc 38 #[.int .u32 n]).run Try.prog W = .ok (.value (.float .f32 n.toNat)) W := by
  rw [run_callFunc_extern Try.func38 (by kernel_rfl) (by kernel_rfl) (by kernel_rfl) (e := Extern.MathFloatBits.float32frombits) (by kernel_rfl)]
  rfl
/-- The bits that stand for an int. -/
def sgl (a : Int) : Nat := if a < 0 ∨ a > 4294967295 then 2143289344 else a.toNat
def isNaN (b : Nat) : Bool := (FloatKind.f32.decode b).isNaN
def bitsV (b : Nat) : Int := if isNaN b then 2143289344 else b
theorem ret_int {a b : Int} (h : a = b) : Ending.returned (.int .i64 a) = .returned (.int .i64 b) := by rw [h]
theorem ret_float {a b : Nat} (h : a = b) : Ending.returned (.float .f32 a) = .returned (.float .f32 b) := by rw [h]
set_option maxHeartbeats 400000 in
theorem single_calls (a : Int) (w : World) : Calls Try.prog 31 #[.int .i64 a] w fun e w' => e = .returned (.float .f32 (sgl a)) ∧ w' = w := by
  have hf := run_from
  by_cases h : a < 0
  · have e : sgl a = 2143289344 := by unfold sgl; rw [if_pos (.inl h)]
    have E := Lib.hid e
    clear e
    have hb : decide (a < 0) = true := decide_eq_true h
    go_enter Try.func31, Try.ntmps31
    go_wp2
    go_ret
    exact ⟨ret_float E.out.symm, rfl⟩
  · by_cases h2 : a > 4294967295
    · have e : sgl a = 2143289344 := by unfold sgl; rw [if_pos (.inr h2)]
      have E := Lib.hid e
      clear e
      have hb : decide (a < 0) = false := decide_eq_false h
      have hb2 : decide (4294967295 < a) = true := decide_eq_true h2
      go_enter Try.func31, Try.ntmps31
      go_wp2
      go_ret
      exact ⟨ret_float E.out.symm, rfl⟩
    · have e : sgl a = a.toNat := by unfold sgl; rw [if_neg (by omega)]
      have E := Lib.hid e
      clear e
      have hb : decide (a < 0) = false := decide_eq_false h
      have hb2 : decide (4294967295 < a) = false := decide_eq_false h2
      have h0 : 0 ≤ a := by omega
      have h1 : a ≤ 4294967295 := by omega
      go_enter Try.func31, Try.ntmps31
      go_wp2
      go_ret
      refine ⟨ret_float ?_, rfl⟩
      rw [E.out]
theorem order_self (b : Nat) : FloatKind.f32.format.order b b = if isNaN b then none else some .eq := by
  unfold Ieee.Format.order isNaN
  show (FloatKind.f32.decode b).order (FloatKind.f32.decode b) = _
  cases FloatKind.f32.decode b with
  | nan s t => rfl
  | infinity s => simp [Ieee.Datum.order, Ieee.Datum.isNaN]
  | number s m e => simp [Ieee.Datum.order, Ieee.Datum.isNaN]
set_option maxHeartbeats 400000 in
theorem bitsOf_calls (b : Nat) (hb : b < 4294967296) (w : World) : Calls Try.prog 30 #[.float .f32 b] w fun e w' => e = .returned (.int .i64 (bitsV b)) ∧ w' = w := by
  have hf := run_bits
  cases hn : isNaN b
  · have e : bitsV b = b := by unfold bitsV; rw [hn]; rfl
    have E := Lib.hid e
    have hc : (FloatKind.f32.format.order b b != some .eq) = false := by rw [order_self, hn]; rfl
    clear e hn
    go_enter Try.func30, Try.ntmps30
    go_wp2
    go_ret
    exact ⟨ret_int E.out.symm, rfl⟩
  · have e : bitsV b = 2143289344 := by unfold bitsV; rw [hn]; rfl
    have E := Lib.hid e
    have hc : (FloatKind.f32.format.order b b != some .eq) = true := by rw [order_self, hn]; rfl
    clear e hn
    go_enter Try.func30, Try.ntmps30
    go_wp2
    go_ret
    exact ⟨ret_int E.out.symm, rfl⟩
theorem sgl_lt (a : Int) : sgl a < 4294967296 := by unfold sgl; split <;> omega
/-- The NaN that comes of an operation that IEEE 754 does not define. -/
def nanOf (x y : Nat) (W : World) : Nat := (Question.nanBits .f32 x y).cut (W.tape W.drawn (Question.nanBits .f32 x y))
theorem cut_nan (x y t : Nat) : (Question.nanBits .f32 x y).cut t = (t % 2) * 2 ^ 31 + 0x7f800000 + 1 + (t / 2) % (2 ^ 23 - 1) := rfl
theorem nanOf_eq (x y : Nat) (W : World) : ∃ s q, s < 2 ∧ q < 8388607 ∧ nanOf x y W = s * 2147483648 + 2139095041 + q := by
  unfold nanOf
  rw [cut_nan]
  generalize W.tape W.drawn (Question.nanBits .f32 x y) = t
  exact ⟨t % 2, (t / 2) % 8388607, by omega, by omega, by omega⟩
theorem nanOf_lt (x y : Nat) (W : World) : nanOf x y W < 4294967296 := by
  obtain ⟨s, q, h1, h2, e⟩ := nanOf_eq x y W
  omega
theorem nanOf_nan (x y : Nat) (W : World) : isNaN (nanOf x y W) = true := by
  obtain ⟨s, q, h1, h2, e⟩ := nanOf_eq x y W
  rw [e]
  unfold isNaN FloatKind.decode
  show (Ieee.single.read _).isNaN = true
  have hw : Ieee.single.signWeight = 2147483648 := rfl
  have hb : Ieee.single.binade = 8388608 := rfl
  have hi : Ieee.single.infRung = 2139095040 := rfl
  unfold Ieee.Format.read
  simp only [hw, hb, hi]
  have e1 : (s * 2147483648 + 2139095041 + q) % 2147483648 = 2139095041 + q := by omega
  rw [e1, if_neg (by omega), if_neg (by omega), if_neg (by omega)]
  rfl
theorem run_nan (op : BinOp) (t : TypeId) (x y : Nat) (hop : op = .add ∨ op = .sub ∨ op = .mul ∨ op = .quo) (h : floatBits op .f32 x y = none) (W : World) :
    (binOp op t (.float .f32 x) (.float .f32 y)).run Try.prog W = .ok (.float .f32 (nanOf x y W)) W.drew := by
  rcases hop with rfl | rfl | rfl | rfl <;>
  · simp only [floatBits] at h
    simp [binOp, Op.floatArith, h, Question.forced, nanOf]
/-- What the program's float comes to, as an int. -/
def opV (op : BinOp) (a b : Int) : Int := match floatBits op .f32 (sgl a) (sgl b) with | some r => bitsV r | none => 2143289344
theorem below_drew (w : World) : Below w.heap.size w w.drew := (Below.refl _ _).drew
set_option maxHeartbeats 400000 in
theorem add_calls (a b : Int) (w : World) : Calls Try.prog 12 #[.int .i64 a, .int .i64 b] w fun e w' => e = .returned (.int .i64 (opV .add a b)) ∧ Below w.heap.size w w' := by
  cases h : floatBits .add .f32 (sgl a) (sgl b) with
  | some r =>
    have hr : r < 4294967296 := by
      have := floatBits_wf h
      simpa [Lit.wf] using this
    have e : opV .add a b = bitsV r := by unfold opV; rw [h]
    have E := Lib.hid e
    have hrun := fun W => run_float_arith (P := Try.prog) W .add 36 .f32 _ _ _ h
    clear e h
    go_enter Try.func12, Try.ntmps12
    go_wp2_with fail
    refine (single_calls a _).mono ?_
    rintro e w' ⟨rfl, rfl⟩
    go_wp2_with fail
    refine (single_calls b _).mono ?_
    rintro e w' ⟨rfl, rfl⟩
    go_wp2_with fail
    refine (bitsOf_calls r hr _).mono ?_
    rintro e w' ⟨rfl, rfl⟩
    go_wp2_with fail
    go_ret
    exact ⟨ret_int E.out.symm, Below.refl _ _⟩
  | none =>
    have e : opV .add a b = 2143289344 := by unfold opV; rw [h]
    have E := Lib.hid e
    have hrun := run_nan .add 36 _ _ (.inl rfl) h
    clear e h
    go_enter Try.func12, Try.ntmps12
    go_wp2_with fail
    refine (single_calls a _).mono ?_
    rintro e w' ⟨rfl, rfl⟩
    go_wp2_with fail
    refine (single_calls b _).mono ?_
    rintro e w' ⟨rfl, rfl⟩
    go_wp2_with fail
    refine (bitsOf_calls _ (nanOf_lt _ _ _) _).mono ?_
    rintro e w' ⟨rfl, rfl⟩
    go_wp2_with fail
    go_ret
    exact ⟨ret_int (by rw [E.out]; unfold bitsV; rw [nanOf_nan]; rfl), below_drew _⟩
set_option maxHeartbeats 400000 in
theorem mul_calls (a b : Int) (w : World) : Calls Try.prog 14 #[.int .i64 a, .int .i64 b] w fun e w' => e = .returned (.int .i64 (opV .mul a b)) ∧ Below w.heap.size w w' := by
  cases h : floatBits .mul .f32 (sgl a) (sgl b) with
  | some r =>
    have hr : r < 4294967296 := by
      have := floatBits_wf h
      simpa [Lit.wf] using this
    have e : opV .mul a b = bitsV r := by unfold opV; rw [h]
    have E := Lib.hid e
    have hrun := fun W => run_float_arith (P := Try.prog) W .mul 36 .f32 _ _ _ h
    clear e h
    go_enter Try.func14, Try.ntmps14
    go_wp2_with fail
    refine (single_calls a _).mono ?_
    rintro e w' ⟨rfl, rfl⟩
    go_wp2_with fail
    refine (single_calls b _).mono ?_
    rintro e w' ⟨rfl, rfl⟩
    go_wp2_with fail
    refine (bitsOf_calls r hr _).mono ?_
    rintro e w' ⟨rfl, rfl⟩
    go_wp2_with fail
    go_ret
    exact ⟨ret_int E.out.symm, Below.refl _ _⟩
  | none =>
    have e : opV .mul a b = 2143289344 := by unfold opV; rw [h]
    have E := Lib.hid e
    have hrun := run_nan .mul 36 _ _ (.inr (.inr (.inl rfl))) h
    clear e h
    go_enter Try.func14, Try.ntmps14
    go_wp2_with fail
    refine (single_calls a _).mono ?_
    rintro e w' ⟨rfl, rfl⟩
    go_wp2_with fail
    refine (single_calls b _).mono ?_
    rintro e w' ⟨rfl, rfl⟩
    go_wp2_with fail
    refine (bitsOf_calls _ (nanOf_lt _ _ _) _).mono ?_
    rintro e w' ⟨rfl, rfl⟩
    go_wp2_with fail
    go_ret
    exact ⟨ret_int (by rw [E.out]; unfold bitsV; rw [nanOf_nan]; rfl), below_drew _⟩
set_option maxHeartbeats 400000 in
theorem div_calls (a b : Int) (w : World) : Calls Try.prog 16 #[.int .i64 a, .int .i64 b] w fun e w' => e = .returned (.int .i64 (opV .quo a b)) ∧ Below w.heap.size w w' := by
  cases h : floatBits .quo .f32 (sgl a) (sgl b) with
  | some r =>
    have hr : r < 4294967296 := by
      have := floatBits_wf h
      simpa [Lit.wf] using this
    have e : opV .quo a b = bitsV r := by unfold opV; rw [h]
    have E := Lib.hid e
    have hrun := fun W => run_float_arith (P := Try.prog) W .quo 36 .f32 _ _ _ h
    clear e h
    go_enter Try.func16, Try.ntmps16
    go_wp2_with fail
    refine (single_calls a _).mono ?_
    rintro e w' ⟨rfl, rfl⟩
    go_wp2_with fail
    refine (single_calls b _).mono ?_
    rintro e w' ⟨rfl, rfl⟩
    go_wp2_with fail
    refine (bitsOf_calls r hr _).mono ?_
    rintro e w' ⟨rfl, rfl⟩
    go_wp2_with fail
    go_ret
    exact ⟨ret_int E.out.symm, Below.refl _ _⟩
  | none =>
    have e : opV .quo a b = 2143289344 := by unfold opV; rw [h]
    have E := Lib.hid e
    have hrun := run_nan .quo 36 _ _ (.inr (.inr (.inr rfl))) h
    clear e h
    go_enter Try.func16, Try.ntmps16
    go_wp2_with fail
    refine (single_calls a _).mono ?_
    rintro e w' ⟨rfl, rfl⟩
    go_wp2_with fail
    refine (single_calls b _).mono ?_
    rintro e w' ⟨rfl, rfl⟩
    go_wp2_with fail
    refine (bitsOf_calls _ (nanOf_lt _ _ _) _).mono ?_
    rintro e w' ⟨rfl, rfl⟩
    go_wp2_with fail
    go_ret
    exact ⟨ret_int (by rw [E.out]; unfold bitsV; rw [nanOf_nan]; rfl), below_drew _⟩
theorem ret_bool {a b : Bool} (h : a = b) : Ending.returned (.bool a) = .returned (.bool b) := by rw [h]
def lessV (a b : Int) : Bool := FloatKind.f32.format.order (sgl a) (sgl b) == some .lt
set_option maxHeartbeats 400000 in
theorem less_calls (a b : Int) (w : World) : Calls Try.prog 18 #[.int .i64 a, .int .i64 b] w fun e w' => e = .returned (.bool (lessV a b)) ∧ Below w.heap.size w w' := by
  have e : lessV a b = (FloatKind.f32.format.order (sgl a) (sgl b) == some .lt) := rfl
  have E := Lib.hid e
  clear e
  go_enter Try.func18, Try.ntmps18
  go_wp2_with fail
  refine (single_calls a _).mono ?_
  rintro e w' ⟨rfl, rfl⟩
  go_wp2_with fail
  refine (single_calls b _).mono ?_
  rintro e w' ⟨rfl, rfl⟩
  go_wp2_with fail
  go_ret
  exact ⟨ret_bool E.out.symm, Below.refl _ _⟩
def negV (a : Int) : Int := if isNaN (sgl a) then 2143289344 else Go.bits .xor .i64 a 2147483648
set_option maxHeartbeats 400000 in
theorem neg_calls (a : Int) (w : World) : Calls Try.prog 20 #[.int .i64 a] w fun e w' => e = .returned (.int .i64 (negV a)) ∧ Below w.heap.size w w' := by
  cases hn : isNaN (sgl a)
  · have e : negV a = Go.bits .xor .i64 a 2147483648 := by unfold negV; rw [hn]; rfl
    have E := Lib.hid e
    have hc : (FloatKind.f32.format.order (sgl a) (sgl a) != some .eq) = false := by rw [order_self, hn]; rfl
    clear e hn
    go_enter Try.func20, Try.ntmps20
    go_wp2_with fail
    refine (single_calls a _).mono ?_
    rintro e w' ⟨rfl, rfl⟩
    go_wp2_with fail
    go_ret
    exact ⟨ret_int E.out.symm, Below.refl _ _⟩
  · have e : negV a = 2143289344 := by unfold negV; rw [hn]; rfl
    have E := Lib.hid e
    have hc : (FloatKind.f32.format.order (sgl a) (sgl a) != some .eq) = true := by rw [order_self, hn]; rfl
    clear e hn
    go_enter Try.func20, Try.ntmps20
    go_wp2_with fail
    refine (single_calls a _).mono ?_
    rintro e w' ⟨rfl, rfl⟩
    go_wp2_with fail
    go_ret
    exact ⟨ret_int E.out.symm, Below.refl _ _⟩
def ofIntV (n : Int) : Int := bitsV (floatOfInt .f32 n)
theorem floatOfInt_lt (n : Int) : floatOfInt .f32 n < 4294967296 := by
  have := floatOfInt_wf .f32 n
  simpa [Lit.wf] using this
set_option maxHeartbeats 400000 in
theorem ofInt_calls (n : Int) (w : World) : Calls Try.prog 22 #[.int .i64 n] w fun e w' => e = .returned (.int .i64 (ofIntV n)) ∧ Below w.heap.size w w' := by
  have e : ofIntV n = bitsV (floatOfInt .f32 n) := rfl
  have E := Lib.hid e
  clear e
  have hb := Lib.hid (floatOfInt_lt n)
  have hrun := fun W => run_convert_int_float (P := Try.prog) W 3 36 .i64 .f32 n (by kernel_rfl) (by kernel_rfl)
  go_enter Try.func22, Try.ntmps22
  go_wp2_with fail
  refine (bitsOf_calls _ hb.out _).mono ?_
  rintro e w' ⟨rfl, rfl⟩
  go_wp2_with fail
  go_ret
  exact ⟨ret_int E.out.symm, Below.refl _ _⟩
end Go.Proofs.Ytconefdllomgbaa.FWalk
