/- The statements' cursor once more: the calls over it leave every other block as it was. No condition. -/
import Derived.Test.YtjgokmnhhcpkcaaCurSched
namespace Go.Proofs.Ytjgokmnhhcpkcaa.Draws
open Go.RowKit Go.Proofs.Ytjgokmnhhcpkcaa.Aid Go.Proofs.Ytjgokmnhhcpkcaa.Pl1Any Go.Proofs.YtjgokmnhhcpkcaaW.PrintWords Go.Proofs.YtjgokmnhhcpkcaaW.PrintLast Go.Proofs.YtjgokmnhhcpkcaaW.PrintMore
set_option linter.unusedVariables false
set_option linter.unusedSimpArgs false
theorem below_kc {w0 w : World} {g : Nat} {l : List Int} (hC : Cur w0 w g l) (n : Int) :
    Calls Try.prog 51 #[.pointer (some ⟨g, 0, none⟩), .int .i64 n] w fun e w' => ∃ x, e = .returned (.int .i64 x) ∧ Cur w0 w' g l ∧ 0 ≤ x ∧ (0 < n → x < n) ∧ KeepBut w w' g none := by
  obtain ⟨i, h, hI, hB, h0, h1, hl⟩ := hC
  obtain ⟨x, j, k, e, x0, x1, j0, j1⟩ := belowOk l i h n hl h0 h1
  exact (spec_l1Below.calls g l i h n x j k w0 w hI hB e).mono fun e w' h => ⟨x, h.1, ⟨j, k, h.2.1, h.2.2.1, j0, j1, hl⟩, x0, x1, h.2.2.2⟩
theorem pick_kc {w0 w : World} {g : Nat} {l : List Int} (hC : Cur w0 w g l) (x : Int) (xs : List Int) (hx : (x :: xs).length ≤ 1000) (t : TypeId) :
    Calls Try.prog 50 #[.pointer (some ⟨g, 0, none⟩), .slice (some ⟨w.heap.size, 0, none⟩) (x :: xs).length (x :: xs).length] (w.alloc (.cells ⟨(x :: xs).map (fun x => Value.int .i64 x)⟩ t)) fun e w' => ∃ y, e = .returned (.int .i64 y) ∧ Cur w0 w' g l ∧
      KeepBut (w.alloc (.cells ⟨(x :: xs).map (fun x => Value.int .i64 x)⟩ t)) w' g none := by
  have hA := hC.alloc (.cells ⟨(x :: xs).map (fun x => Value.int .i64 x)⟩ t)
  obtain ⟨j, k, h1, _⟩ := hC
  obtain ⟨i, h, hI, hB, h0, h1', hl⟩ := hA
  obtain ⟨y, j, k, e, j0, j1⟩ := pickOk l i h (x :: xs) (Nat.zero_lt_succ _) hl h0 h1'
  exact (spec_l1PickInt.calls g l i h _ _ (x :: xs) y j k w0 _ hI hB (lit_C w (x :: xs) t hx) (Nat.le_refl _) (fun ad h _ => by cases h; exact IsS62.fresh h1 _ (Nat.le_refl _)) e).mono fun e w' h => ⟨y, h.1, ⟨j, k, h.2.1, h.2.2.1, j0, j1, hl⟩, h.2.2.2⟩
set_option maxRecDepth 100000 in
set_option maxHeartbeats 1000000 in
theorem once_kc {w0 w : World} {g : Nat} {l : List Int} (hC : Cur w0 w g l) (n : Int) :
    Calls Try.prog 58 #[.pointer (some ⟨g, 0, none⟩), .int .i64 n] w fun e w' => ∃ b, e = .returned (.bool b) ∧ Cur w0 w' g l ∧ KeepBut w w' g none := by
  have hb := below_kc hC n
  go_enter Try.func58, Try.ntmps58
  go_wp2_with fail
  refine hb.mono ?_
  rintro e w' ⟨x, rfl, hC, _, _, hK⟩
  go_wp2_with fail
  go_ret
  exact ⟨_, rfl, hC, hK⟩
theorem keep_cell {w w' : World} {g : Nat} (h : KeepBut w w' g none) (b o : Nat) (hlt : b < w.heap.size) (hne : b ≠ g) : w'.cell? ⟨b, o, none⟩ = w.cell? ⟨b, o, none⟩ := by
  have := h.2 b hlt hne (by simp)
  unfold World.cell?
  rw [this]
/-- Where a call leaves the old blocks alone, their cells read as before. -/
theorem bcell {W w1 : World} (hb : Below W.heap.size W w1) : ∀ b o, b < W.heap.size → w1.cell? ⟨b, o, none⟩ = W.cell? ⟨b, o, none⟩ :=
  fun b o h => hb.cell (p := ⟨b, o, none⟩) h
end Go.Proofs.Ytjgokmnhhcpkcaa.Draws
