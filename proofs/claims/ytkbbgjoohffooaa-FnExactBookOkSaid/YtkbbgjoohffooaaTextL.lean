/- The laws' copies and comparisons of pairs, and the callers of the book's texts, walked. No condition. -/
import Derived.Test.YtkbbgjoohffooaaTextW
import Derived.Test.YtkbbgjoohffooaaLoop
namespace Go.Proofs.Ytkbbgjoohffooaa.TextL
open Go.RowKit Go.Proofs.Ytkbbgjoohffooaa.Aid Go.Proofs.Ytkbbgjoohffooaa.MapP Go.Proofs.Ytkbbgjoohffooaa.TextP Go.Proofs.Ytkbbgjoohffooaa.TextW Go.Proofs.Ytkbbgjoohffooaa.PFnExactTokenText Go.Proofs.YtkbbgjoohffooaaW.PrintWords Go.Proofs.YtkbbgjoohffooaaW.PrintLast Go.Proofs.YtkbbgjoohffooaaW.PrintMore
set_option linter.unusedVariables false
set_option linter.unusedSimpArgs false
def cv (m : S79) : S77 := ⟨m.f0, m.f1⟩
theorem toPairS_loop (l : List S79) (hl : l.length ≤ 1048576) : ∀ (d i k : Nat) (y : List S77), i + d = l.length → d < k → y.length = l.length → (∀ j, j < i → y[j]? = (l[j]?).map cv) → laws_toPairS.l0 k l y i = some (l.map cv) := by
  intro d
  induction d with
  | zero =>
    intro i k y h hk hy hj
    obtain ⟨k, rfl⟩ : ∃ m, k = m + 1 := ⟨k - 1, by omega⟩
    simp only [laws_toPairS.l0]
    rw [if_neg (by omega)]
    congr 1
    refine List.ext_getElem? fun j => ?_
    rw [List.getElem?_map]
    by_cases c : j < i
    · exact hj j c
    · rw [List.getElem?_eq_none (by omega), List.getElem?_eq_none (by omega)]; rfl
  | succ d ih =>
    intro i k y h hk hy hj
    obtain ⟨k, rfl⟩ : ∃ m, k = m + 1 := ⟨k - 1, by omega⟩
    have hi : i < l.length := by omega
    have e : rd_T79 l (i : Int) = l[i] := by
      unfold rd_T79
      rw [Int.toNat_natCast, List.getD_eq_getElem?_getD, List.getElem?_eq_getElem hi]; rfl
    simp only [laws_toPairS.l0, laws_toPair.f, Option.bind_some]
    rw [if_pos (by omega), if_pos (by omega), if_pos (by omega), Loop.wsucc i (by omega), Int.toNat_natCast, e]
    refine ih (i + 1) k _ (by omega) (by omega) (by simpa using hy) fun j h1 => ?_
    by_cases e : i = j
    · subst e
      rw [List.getElem?_set_self (by omega), List.getElem?_eq_getElem hi]; rfl
    · rw [List.getElem?_set_ne e]; exact hj j (by omega)
theorem toPairS_ok (l : List S79) (hl : l.length ≤ 1048576) (k : Nat) (hk : l.length < k) : laws_toPairS.f k l = some (l.map cv) := by
  unfold laws_toPairS.f
  rw [if_pos (by omega), Int.toNat_natCast, if_pos (by omega)]
  exact toPairS_loop l hl l.length 0 k _ (by omega) hk (by simp) (by intro j h; omega)
theorem eqS_loop (l : List S77) (hl : l.length ≤ 1048576) : ∀ (d i : Nat), i + d = l.length → Evn (fun k => laws_eqPairS.l0 k l l i) true := by
  intro d
  induction d with
  | zero =>
    intro i e
    refine Evn.now fun k => ?_
    simp only [laws_eqPairS.l0]
    rw [if_neg (by omega)]
  | succ d ih =>
    intro i e
    refine Evn.step (ih (i + 1) (by omega)) fun k => ?_
    simp only [laws_eqPairS.l0, laws_eqPair.f]
    rw [if_pos (by omega), if_pos (by omega), if_pos (by omega), wid (x := (i : Int) + 1) (by omega) (by omega)]
    simp
theorem eqS_ev (l : List S77) (hl : l.length ≤ 1048576) : Evn (fun k => laws_eqPairS.f k l l) true := by
  obtain ⟨K, hK⟩ := eqS_loop l hl l.length 0 (by omega)
  refine ⟨K, fun k hk => ?_⟩
  simp only [laws_eqPairS.f]
  rw [if_pos trivial]
  exact hK k hk
/-! ### the text of one token -/
def tokB (l : List S77) (a : Int) : ByteArray := if (textsB l).2 = true then (if inB a 0 (255 + l.length) = true then getB (textsB l).1 a else ⟨#[]⟩) else ⟨#[]⟩
theorem run_len : ∀ (l : List S77) (seen : List (Int × Int)) (T : List ByteArray), (runB seen T l).2 = true → (runB seen T l).1.length = T.length + l.length
  | [], _, _ => fun _ => by simp [runB]
  | p :: r, seen, T => by
    intro h
    unfold runB at h ⊢
    split at h
    · rename_i c
      rw [if_pos c, run_len r _ _ h]
      simp only [List.length_append, List.length_cons, List.length_nil]
      omega
    · cases h
theorem texts_len (l : List S77) (h : (textsB l).2 = true) : l.length ≤ 300 ∧ (textsB l).1.length = l.length := by
  unfold textsB at h ⊢
  split at h
  · cases h
  · rename_i c
    rw [if_neg c, run_len l [] [] h]
    simp; omega
theorem tok_ev (l : List S77) (hl : l.length ≤ 1048576) (a : Int) : Evn (fun k => spec_TokenText.f k l a) (tokB l a) := by
  obtain ⟨K, hK⟩ := texts_ev l
  refine ⟨K, fun k hk => ?_⟩
  have hKk : spec_l20Texts.f k l = some (textsB l) := hK k hk
  simp only [spec_TokenText.f]
  rw [hKk, wid (x := 255 + (l.length : Int)) (by omega) (by omega)]
  simp only [Option.bind_some, sIn]
  unfold tokB
  by_cases c : (textsB l).2 = true
  · rw [if_pos c, if_pos c]
    by_cases d : inB a 0 (255 + l.length) = true
    · have := texts_len l c
      have b := (inB_iff _ _ _).1 d
      rw [if_pos d, if_pos d, text_ok _ (by omega) a b.1 (by omega)]; rfl
    · rw [if_neg d, if_neg d]
  · rw [if_neg c, if_neg c]
/-! ### the callers -/
section
set_option maxRecDepth 100000
set_option maxHeartbeats 1000000
theorem implBook (A0 : Option Addr) (c0 : Nat) (l : List S77) (w : World) (hr0 : Kd.C k77 w A0 l.length l) (hc0 : l.length ≤ c0) (hL : l.length ≤ 1048576) (hwf : ∀ p ∈ l, wfP (keyP p)) :
    Calls Try.prog 31 #[.slice A0 l.length c0] w fun e w' => e = .returned (.bool (textsB l).2) ∧ Below w.heap.size w w' := by
  have HI := impl_calls A0 c0 l w hr0 hc0 hL hwf
  generalize textsB l = RES at HI ⊢
  clear hr0 hwf
  go_enter Try.func31, Try.ntmps31
  go_wp2_with fail
  refine HI.mono ?_
  rintro e w' ⟨v, rfl, _, hb⟩
  clear HI
  go_wp2_with fail
  go_ret
  exact ⟨rfl, hb⟩
theorem specBook (A0 : Option Addr) (c0 : Nat) (l : List S77) (w : World) (hr0 : Kd.C k77 w A0 l.length l) (hc0 : l.length ≤ c0) :
    Calls Try.prog 30 #[.slice A0 l.length c0] w fun e w' => e = .returned (.bool (textsB l).2) ∧ Below w.heap.size w w' := by
  obtain ⟨K, hK⟩ := texts_ev l
  have HI := spec_l20Texts.calls K A0 c0 l (textsB l).1 (textsB l).2 w hr0 hc0 (hK K (Nat.le_refl _))
  generalize textsB l = RES at HI ⊢
  clear hr0 hK
  go_enter Try.func30, Try.ntmps30
  go_wp2_with fail
  refine HI.mono ?_
  rintro e w' ⟨v, rfl, _, hb⟩
  clear HI
  go_wp2_with fail
  go_ret
  exact ⟨rfl, hb⟩
theorem implTok (A0 : Option Addr) (c0 : Nat) (l : List S77) (a : Int) (w : World) (hr0 : Kd.C k77 w A0 l.length l) (hc0 : l.length ≤ c0) (hL : l.length ≤ 1048576) (hwf : ∀ p ∈ l, wfP (keyP p)) :
    Calls Try.prog 28 #[.slice A0 l.length c0, .int .i64 a] w fun e w' => e = .returned (.string (tokB l a)) ∧ Below w.heap.size w w' := by
  have HI := impl_calls A0 c0 l w hr0 hc0 hL hwf
  have HL := texts_len l
  have HT : tokB l a = if (textsB l).2 = true then (if inB a 0 (255 + l.length) = true then getB (textsB l).1 a else ⟨#[]⟩) else ⟨#[]⟩ := rfl
  generalize tokB l a = RS at HT ⊢
  generalize textsB l = RES at HI HL HT
  obtain ⟨T, b⟩ := RES
  clear hr0 hwf
  cases b with
  | false =>
    rw [if_neg (by simp)] at HT
    subst HT
    go_enter Try.func28, Try.ntmps28
    go_wp2_with fail
    refine HI.mono ?_
    rintro e w' ⟨v, rfl, _, hb⟩
    clear HI
    go_wp2_with fail
    go_ret
    exact ⟨rfl, hb⟩
  | true =>
    rw [if_pos rfl] at HT
    obtain ⟨l3, lT⟩ := HL rfl
    replace lT : T.length = l.length := lT
    obtain ⟨TS, hTS⟩ : ∃ TS, TS = baseN 256 ++ T := ⟨_, rfl⟩
    have lS : TS.length = 256 + l.length := by rw [hTS, List.length_append, baseN_length, lT]
    have hat := get_base T a
    replace HI : Calls Try.prog 57 #[.slice A0 l.length c0] w fun e w' => ∃ v, e = .returned (.tuple #[v, .bool true]) ∧ Kd.R Kd.string 9 w' w.heap.size (fun _ => True) v TS ∧ Below w.heap.size w w' :=
      HI.mono (fun e w' ⟨v, e1, h1, h2⟩ => ⟨v, e1, by rw [hTS]; exact h1 rfl, h2⟩)
    rw [← hTS] at hat
    clear hTS HL
    by_cases d : inB a 0 (255 + l.length) = true
    · rw [if_pos d] at HT
      replace HT : RS = getB T a := HT
      have b := (inB_iff _ _ _).1 d
      have g1 : decide (a < 0) = false := decide_eq_false (by omega)
      have g2 : decide ((TS.length : Int) ≤ a) = false := decide_eq_false (by omega)
      have g3 : a < (TS.length : Int) := by omega
      have HG := Aside0.mk (show rdOf ByteArray.empty TS a = RS by rw [hat b.1, HT])
      clear hat
      go_enter Try.func28, Try.ntmps28
      go_wp2_with fail
      refine HI.mono ?_
      rintro e w' ⟨v, rfl, hR, hb⟩
      clear HI
      obtain ⟨A, cc, rfl, hcc, hC⟩ := Kd.R_reads hR
      obtain ⟨ad, rfl, s0⟩ := Kd.at_string hC a b.1 g3
      rw [HG.out] at s0
      go_wp2_with fail
      go_ret
      exact ⟨by rw [HT]; rfl, hb⟩
    · rw [if_neg d] at HT
      subst HT
      have d' := (inB_not _ _ _).1 (Bool.eq_false_iff.mpr d)
      by_cases c1 : a < 0
      · have g1 : decide (a < 0) = true := decide_eq_true c1
        go_enter Try.func28, Try.ntmps28
        go_wp2_with fail
        refine HI.mono ?_
        rintro e w' ⟨v, rfl, _, hb⟩
        clear HI
        go_wp2_with fail
        go_ret
        exact ⟨rfl, hb⟩
      · have g1 : decide (a < 0) = false := decide_eq_false c1
        have g2 : decide ((TS.length : Int) ≤ a) = true := decide_eq_true (by omega)
        go_enter Try.func28, Try.ntmps28
        go_wp2_with fail
        refine HI.mono ?_
        rintro e w' ⟨v, rfl, hR, hb⟩
        clear HI
        obtain ⟨A, cc, rfl, hcc, hC⟩ := Kd.R_reads hR
        go_wp2_with fail
        go_ret
        exact ⟨rfl, hb⟩
end
end Go.Proofs.Ytkbbgjoohffooaa.TextL
