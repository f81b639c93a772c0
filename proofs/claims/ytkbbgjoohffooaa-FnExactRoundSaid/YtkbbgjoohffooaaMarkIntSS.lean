/- laws.markIntSS, walked: over a slice of rows of its own it writes the rows alone, and returns how many it wrote. No condition. -/
import Derived.Test.YtkbbgjoohffooaaRowsOf
import Derived.Test.YtkbbgjoohffooaaPFnExactRoundx4
import Derived.Test.YtkbbgjoohffooaaRoundP
namespace Go.Proofs.Ytkbbgjoohffooaa.MarkIntSS
open Go.RowKit Go.Proofs.Ytkbbgjoohffooaa.Aid Go.Proofs.Ytkbbgjoohffooaa.RowsOf Go.Proofs.Ytkbbgjoohffooaa.RoundP Go.Proofs.Ytkbbgjoohffooaa.PFnExactRound Go.Proofs.YtkbbgjoohffooaaW.PrintWords Go.Proofs.YtkbbgjoohffooaaW.PrintLast Go.Proofs.YtkbbgjoohffooaaW.PrintMore
set_option linter.unusedVariables false
set_option linter.unusedSimpArgs false
theorem mark_any_loop (n : Nat) (hn : n ≤ 1048576) (a : Int) (a0 : 0 ≤ a) (a1 : a ≤ 4503599627370496) : ∀ (d i k : Nat) (y : List Int), i + d = n → d < k → y.length = n → ∃ z : List Int, laws_markIntS.l0 k y (a + i) i = some (a + (n : Int), z) ∧ z.length = n := by
  intro d
  induction d with
  | zero =>
    intro i k y h hk hy
    obtain ⟨k, rfl⟩ : ∃ m, k = m + 1 := ⟨k - 1, by omega⟩
    obtain rfl : i = n := by omega
    simp only [laws_markIntS.l0]
    rw [if_neg (by omega)]
    exact ⟨y, rfl, hy⟩
  | succ d ih =>
    intro i k y h hk hy
    obtain ⟨k, rfl⟩ : ∃ m, k = m + 1 := ⟨k - 1, by omega⟩
    simp only [laws_markIntS.l0]
    rw [if_pos (by omega), if_pos (by omega), Loop.wsucc i (by omega), Int.toNat_natCast, wid (x := a + (i : Int) + 1) (by omega) (by omega), show a + (i : Int) + 1 = a + ((i + 1 : Nat) : Int) by omega]
    exact ih (i + 1) k _ (by omega) (by omega) (by simpa using hy)
/-- The marks of a list of ints, from whatever number on. -/
theorem mark_any (l : List Int) (hl : l.length ≤ 1048576) (a : Int) (a0 : 0 ≤ a) (a1 : a ≤ 4503599627370496) : ∃ z : List Int, laws_markIntS.f 1048577 l a = some (a + (l.length : Int), z) ∧ z.length = l.length := by
  unfold laws_markIntS.f
  have := mark_any_loop l.length hl a a0 a1 l.length 0 1048577 l (by omega) (by omega) rfl
  rw [Int.natCast_zero, Int.add_zero] at this
  exact this
set_option maxRecDepth 100000 in
set_option maxHeartbeats 1000000 in
theorem markIntSS_calls (g : Nat) (vs : List Value) (ls : List (List Int)) (w0 w : World) (hs : Small ls) (hG : Grid (Kd.int .i64) 3 29 w g w0.heap.size vs ls) (hB : Below w0.heap.size w0 w) (hg : w0.heap.size ≤ g) :
    Calls Try.prog 22 #[.slice (some ⟨g, 0, none⟩) ls.length ls.length, .int .i64 1] w fun e w' => e = .returned (.int .i64 (1 + (pre ls ls.length : Int))) ∧ Kept w w' (fun k => ∃ j, (vs.getD j undef).ownBlock = some k) ∧ Below w0.heap.size w0 w' := by
  have HS := Aside0.mk hs
  have HG := Aside0.mk hG
  have HB := Aside0.mk hB
  have HGE := Aside0.mk hg
  have HK := Aside0.mk (Kept.refl w (fun k => ∃ j, (vs.getD j undef).ownBlock = some k))
  clear hs hG hB hg
  obtain ⟨n, hn⟩ : ∃ n, n = ls.length := ⟨_, rfl⟩
  have HN := Aside0.mk hn
  have hnb : n ≤ 1048576 := by rw [hn]; exact HS.out.1
  rw [← hn]
  clear hn
  go_enter Try.func22, Try.ntmps22
  go_wp2_with fail
  go_loopg [1, 5] n (fun kq v1 v3 wr => ∃ (k : Nat) (zs : List (List Int)), v3 = .int .i64 k ∧ v1 = .int .i64 (1 + (pre ls k : Int)) ∧ Aside0 (k + kq = n ∧ zs.length = n ∧ ∀ j, j < n → (zs.getD j []).length = (ls.getD j []).length) ∧ Aside0 (Grid (Kd.int .i64) 3 29 wr g w0.heap.size vs zs) ∧ Aside0 (Below w0.heap.size w0 wr) ∧ Aside0 (Kept w wr (fun k => ∃ j, (vs.getD j undef).ownBlock = some k)))
  case atStart => exact ⟨0, ls, rfl, rfl, ⟨by omega, HN.out.symm, fun j _ => rfl⟩, HG, HB, HK⟩
  case round =>
    clear HG HB HK
    obtain ⟨k, zs, rfl, rfl, HA, HG, HB, HK⟩ := hrel
    by_cases hk : k < n
    · have d1 : decide ((k : Int) < (n : Int)) = true := decide_eq_true (by omega)
      have hkl : k < zs.length := by rw [HA.out.2.1]; exact hk
      have hkl' : k < ls.length := by rw [← HN.out]; exact hk
      have hcell := HG.out.cell hkl
      have hx := List.getElem?_eq_getElem hkl
      have hR := HG.out.row hx
      have ex : (zs.getD k []).length = zs[k].length := by rw [Loop.getD_lt _ _ _ hkl]
      have hlen : zs[k].length ≤ 1048576 := by rw [← ex, HA.out.2.2 k hk]; exact HS.out.2 k hkl'
      have hpb := pre_bd ls HS.out k (by omega)
      have ep := pre_succ ls k hkl'
      obtain ⟨z, hz, hzl⟩ := mark_any zs[k] hlen (1 + (pre ls k : Int)) (by omega) (by omega)
      have HM := laws_markIntS.calls 1048577 (fun b => some b = (vs.getD k undef).ownBlock) _ zs[k] (1 + (pre ls k : Int)) _ z w0 wr HB.out (Kd.R_tight rfl hR) hz
      obtain ⟨A1, c1, ev⟩ := Kd.R_slice hR
      have HEV := Aside0.mk ev
      rw [show 1 + (pre ls k : Int) + (zs[k].length : Int) = 1 + (pre ls (k + 1) : Int) by rw [← ex, HA.out.2.2 k hk]; omega] at HM
      have HZL := Aside0.mk (show ∀ j, j < n → ((zs.set k z).getD j []).length = (ls.getD j []).length from fun j hj => by
        by_cases e : j = k
        · rw [e, Loop.getD_set_eq _ _ _ _ hkl, hzl, ← ex]; exact HA.out.2.2 k hk
        · rw [Loop.getD_set_ne _ _ _ _ _ e]; exact HA.out.2.2 j hj)
      rw [ev] at HM hcell
      clear hx hR ex hlen hpb ep hz hzl ev
      go_wp2_with fail
      refine HM.mono ?_
      rintro e w2 ⟨rfl, hR2, hB2, hK2⟩
      rw [← HEV.out] at hR2 hK2
      have HG2 := Aside0.mk (HG.out.turn rfl hkl hR2 hK2)
      have HB2 := Aside0.mk hB2
      have HK2 := Aside0.mk (HK.out.then_ hK2 (fun b hb => .inl ⟨k, hb.symm⟩))
      clear HM hcell hR2 hB2 hK2
      go_wp2_with fail
      go_roundg (gk - 1)
      case measure => have := HA.out; omega
      case rel => exact ⟨k + 1, zs.set k z, by go_num, rfl, ⟨by have := HA.out; omega, by rw [List.length_set]; exact HA.out.2.1, HZL.out⟩, HG2, HB2, HK2⟩
    · have d1 : decide ((k : Int) < (n : Int)) = false := decide_eq_false (by omega)
      obtain rfl : k = n := by have := HA.out; omega
      go_wp2_with fail
      go_ret
      exact ⟨rfl, HK.out, HB.out⟩
end Go.Proofs.Ytkbbgjoohffooaa.MarkIntSS
