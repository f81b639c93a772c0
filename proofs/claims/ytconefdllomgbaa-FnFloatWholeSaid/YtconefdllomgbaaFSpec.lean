/- The statements' floats: the contracts of l2Put, l2Infinity, l2Sign, l2Open, and what a datum's word comes to. No condition. -/
import Derived.Test.YtconefdllomgbaaFClose
import Derived.Test.YtconefdllomgbaaFOpen
namespace Go.Proofs.Ytconefdllomgbaa.FSpec
open Go.RowKit Go.Proofs.Ytconefdllomgbaa.PFnExactFMul Go.Proofs.Ytconefdllomgbaa.Aid Go.Proofs.Ytconefdllomgbaa.FPlain Go.Proofs.Ytconefdllomgbaa.FWalk Go.Proofs.Ytconefdllomgbaa.FOpen Go.Proofs.Ytconefdllomgbaa.FClose Go.Proofs.YtconefdllomgbaaW.PrintWords Go.Proofs.YtconefdllomgbaaW.PrintLast Go.Proofs.YtconefdllomgbaaW.PrintMore
set_option linter.unusedVariables false
set_option linter.unusedSimpArgs false
theorem open_calls {a k : Int} {n : Bool} {m e : Int} (h : spec_l2Open.f 2 a = some (k, n, m, e)) (w : World) :
    Calls Try.prog 27 #[.int .i64 a] w fun r w' => r = .returned (.agg #[.int .i64 k, .bool n, .int .i64 m, .int .i64 e]) ∧ Below w.heap.size w w' := spec_l2Open.calls 2 a k n m e w h
theorem sign_calls (n : Bool) (w : World) : Calls Try.prog 32 #[.bool n] w fun r w' => r = .returned (.int .i64 (if n then 1 else 0)) ∧ Drawn0 w w' := by
  refine spec_l2Sign.calls n _ w ?_
  unfold spec_l2Sign.f; cases n <;> rfl
theorem inf_calls (n : Bool) (w : World) : Calls Try.prog 28 #[.bool n] w fun r w' => r = .returned (.int .i64 ((sgn n + 2139095040 : Nat) : Int)) ∧ Drawn0 w w' := by
  refine spec_l2Infinity.calls n _ w ?_
  unfold spec_l2Infinity.f spec_l2Sign.f
  cases n
  · rw [if_neg (by decide)]; simp only [Option.bind_some]
    rw [wid (x := (0 : Int) * 2147483648) (by decide) (by decide), wid (by decide) (by decide)]; rfl
  · rw [if_pos rfl]; simp only [Option.bind_some]
    rw [wid (x := (1 : Int) * 2147483648) (by decide) (by decide), wid (by decide) (by decide)]; rfl
set_option maxRecDepth 100000 in
set_option maxHeartbeats 4000000 in
theorem put_calls (n : Bool) (m : Nat) (e : Int) (more : Bool) (hm : m < 4611686018427387904) (he : -800 ≤ e ∧ e ≤ 800) (w : World) :
    Calls Try.prog 29 #[.bool n, .int .i64 (m : Int), .int .i64 e, .bool more] w fun r w' => r = .returned (.int .i64 ((sgn n + putR m e more : Nat) : Int)) ∧ Drawn0 w w' := by
  have hC := close_calls n m e more hm he.1 he.2
  have hS := sign_calls n
  have hp := putR_le m e more
  have ev : ((sgn n + putR m e more : Nat) : Int) = wrap64 (((putR m e more : Nat) : Int) + wrap64 ((if n then 1 else 0) * 2147483648)) := by
    unfold sgn
    cases n
    · rw [if_neg (by decide), if_neg (by decide), wid (x := (0 : Int) * 2147483648) (by decide) (by decide), wid (by omega) (by omega)]; omega
    · rw [if_pos rfl, if_pos rfl, wid (x := (1 : Int) * 2147483648) (by decide) (by decide), wid (by omega) (by omega)]; omega
  have E := Aside0.mk ev
  obtain ⟨q, hq⟩ : ∃ q : Int, ((putR m e more : Nat) : Int) = q := ⟨_, rfl⟩
  obtain ⟨s, hs⟩ : ∃ s : Int, (if n then (1 : Int) else 0) = s := ⟨_, rfl⟩
  obtain ⟨v, hv⟩ : ∃ v : Int, ((sgn n + putR m e more : Nat) : Int) = v := ⟨_, rfl⟩
  have hS' : ∀ w, Calls Try.prog 32 #[.bool n] w fun r w' => r = .returned (.int .i64 s) ∧ Drawn0 w w' := by rw [← hs]; exact hS
  have hC' : ∀ w, Calls Try.prog 36 #[.bool n, .int .i64 (m : Int), .int .i64 e, .bool more, .int .i64 23, .int .i64 127, .int .i64 255] w fun r w' => r = .returned (.int .i64 q) ∧ Drawn0 w w' := by rw [← hq]; exact hC
  have E' := Aside0.mk (show v = wrap64 (q + wrap64 (s * 2147483648)) by rw [← hv, ← hq, ← hs]; exact E.out)
  rw [hv]
  clear hS hC E ev hp hq hs hv hm he
  go_enter Try.func29, Try.ntmps29
  go_wp2_with fail
  refine (hC' _).mono ?_
  rintro r w' ⟨rfl, ⟨m1, rfl⟩⟩
  go_wp2_with fail
  refine (hS' _).mono ?_
  rintro r w' ⟨rfl, ⟨m2, rfl⟩⟩
  go_wp2_with fail
  go_ret
  exact ⟨FClose.ret_int E'.out.symm, by repeat (first | exact Drawn0.refl _ | apply Drawn0.step)⟩
theorem bitsV_word (n : Bool) (r : Nat) (h : r ≤ 2139095040) : bitsV (sgn n + r) = ((sgn n + r : Nat) : Int) := by
  have hs : sgn n = 0 ∨ sgn n = 2147483648 := by unfold sgn; cases n <;> simp
  have hn : isNaN (sgn n + r) = false := by
    show (Ieee.single.read (sgn n + r)).isNaN = false
    rw [read_eq, show (sgn n + r) % 2147483648 = r by omega]
    by_cases c1 : r < 8388608
    · rw [if_pos c1]; rfl
    · rw [if_neg c1]
      by_cases c2 : r < 2139095040
      · rw [if_pos c2]; rfl
      · rw [if_neg c2, if_pos (by omega)]; rfl
  unfold bitsV
  rw [hn]; rfl
/-- The int that the program makes of a result of IEEE 754. -/
def datV : Option Ieee.Datum → Int
  | some d => bitsV (Ieee.single.write d)
  | none => 2143289344
theorem datV_num (n : Bool) (m : Nat) (e : Int) : datV (some (.number n m e)) = ((sgn n + putR m e false : Nat) : Int) := by
  show bitsV (Ieee.single.nearest n m e) = _
  rw [nearest_eq]; exact bitsV_word n _ (putR_le m e false)
theorem datV_inf (n : Bool) : datV (some (.infinity n)) = ((sgn n + 2139095040 : Nat) : Int) := by
  have : Ieee.single.write (.infinity n) = sgn n + 2139095040 := by
    show Ieee.single.word n Ieee.single.infRung = _
    unfold Ieee.Format.word sgn
    cases n <;> rfl
  show bitsV (Ieee.single.write (.infinity n)) = _
  rw [this]; exact bitsV_word n _ (Nat.le_refl _)
theorem opV_of {op : BinOp} {a b : Int} {o : Option Ieee.Datum} (h : floatBits op .f32 (sgl a) (sgl b) = o.map Ieee.single.write) : opV op a b = datV o := by
  unfold opV
  rw [h]
  cases o <;> rfl
end Go.Proofs.Ytconefdllomgbaa.FSpec
