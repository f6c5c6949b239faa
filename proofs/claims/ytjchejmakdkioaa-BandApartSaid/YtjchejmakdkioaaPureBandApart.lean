/- This text proves the pure statement of podestalaw21_BandApart: no priority is in two bands. No condition but the arguments' own ranges. -/
import Derived.Test.YtjchejmakdkioaaPBandApartx1
namespace Go.Proofs.Ytjchejmakdkioaa.Pure
open Go.RowKit Go.Proofs.Ytjchejmakdkioaa.PBandApart Go.Proofs.YtjchejmakdkioaaW.PrintWords Go.Proofs.YtjchejmakdkioaaW.PrintLast

theorem w64 (n : Int) (h1 : -9223372036854775808 ≤ n) (h2 : n ≤ 9223372036854775807) : wrap64 n = n := by
  unfold wrap64; omega

theorem wf64 {a : Int} (h : (Lit.int .i64 a).wf = true) : -9223372036854775808 ≤ a ∧ a ≤ 9223372036854775807 := by
  rw [Go.Lit.wf, Bool.and_eq_true, decide_eq_true_eq, decide_eq_true_eq] at h
  exact h

theorem of_some (a : Int) (h1 : 1 ≤ a) (h8 : a ≤ 8) : band_Of.f a = some (1000 * a, 1000 * a + 999, true) := by
  unfold band_Of.f
  rw [if_neg (by omega), if_neg (by omega), w64 (a * 1000) (by omega) (by omega), w64 (a + 1) (by omega) (by omega),
    w64 ((a + 1) * 1000) (by omega) (by omega), w64 _ (by omega) (by omega)]
  rw [show a * 1000 = 1000 * a by omega, show (a + 1) * 1000 - 1 = 1000 * a + 999 by omega]

theorem of_none (a : Int) (h : a < 1 ∨ 8 < a) : band_Of.f a = some (0, 0, false) := by
  unfold band_Of.f
  by_cases h1 : a < 1
  · rw [if_pos h1]
  · rw [if_neg h1, if_pos (by omega)]

theorem in_eq (l h p : Int) : band_In.f l h p = some (decide (l ≤ p ∧ p ≤ h)) := by
  unfold band_In.f
  by_cases c : p ≥ l
  · rw [if_pos c]; congr 1; by_cases d : p ≤ h
    · rw [decide_eq_true d, decide_eq_true ⟨c, d⟩]
    · rw [decide_eq_false d, decide_eq_false (fun e => d e.2)]
  · rw [if_neg c, decide_eq_false (fun e => c e.1)]

theorem owner_l (p : Int) : ∀ (n : Nat) (i : Int), i = 8 - n → 0 ≤ i →
    band_Owner.l0 (n + 1) p i = some (if 1000 * (i + 1) ≤ p ∧ p < 9000 then p / 1000 else 0)
  | 0, i, e, h0 => by
      unfold band_Owner.l0
      rw [if_neg (by omega), if_neg (by omega)]
  | n + 1, i, e, h0 => by
      unfold band_Owner.l0
      rw [if_pos (by omega), w64 (i + 1) (by omega) (by omega), of_some (i + 1) (by omega) (by omega)]
      simp only [Option.bind_some, if_true, in_eq]
      by_cases c : 1000 * (i + 1) ≤ p ∧ p ≤ 1000 * (i + 1) + 999
      · rw [if_pos (decide_eq_true c), if_pos (by omega)]; congr 1; omega
      · rw [if_neg (by simp only [decide_eq_true_eq]; exact c), owner_l p n (i + 1) (by omega) (by omega)]
        congr 1
        by_cases d : 1000 * (i + 1 + 1) ≤ p ∧ p < 9000
        · rw [if_pos d, if_pos (by omega)]
        · rw [if_neg d, if_neg (by omega)]

theorem owner_lk (p : Int) : ∀ n, band_Owner.f (9 + n) p = some (if 1000 ≤ p ∧ p < 9000 then p / 1000 else 0)
  | 0 => owner_l p 8 0 rfl (by omega)
  | n + 1 => band_Owner.mono p (9 + n) _ (owner_lk p n)

theorem answers_eq (n : Nat) : podestalaw21_answers.f (9 + n) = some true := by
  unfold podestalaw21_answers.f
  rw [of_some 2 (by decide) (by decide)]
  simp only [Option.bind_some]
  rw [if_pos trivial, if_pos (by decide), if_pos (by decide), owner_lk 2500 n]
  rfl

theorem wf8 {a : Int} (h : (Lit.int .u8 a).wf = true) : 0 ≤ a ∧ a ≤ 255 := by
  rw [Go.Lit.wf, Bool.and_eq_true, decide_eq_true_eq, decide_eq_true_eq] at h
  exact h

theorem BandApart : podestalaw21_BandApart.Pure := by
  intro a b p h1 h2 h3
  have w1 := wf8 h1
  have w2 := wf8 h2
  have w3 := wf64 h3
  refine ⟨9, ?_⟩
  have e1 : Int.tmod a 10 = a % 10 := Int.tmod_eq_emod_of_nonneg w1.1
  have e2 : Int.tmod b 10 = b % 10 := Int.tmod_eq_emod_of_nonneg w2.1
  have A := answers_eq 0
  unfold podestalaw21_BandApart.f
  rw [e1, e2]
  generalize hx : a % 10 = x
  generalize hy : b % 10 = y
  have x1 : 0 ≤ x ∧ x ≤ 9 := by omega
  have y1 : 0 ≤ y ∧ y ≤ 9 := by omega
  rw [w64 x (by omega) (by omega), w64 (x + 1) (by omega) (by omega), w64 y (by omega) (by omega), w64 (y + 1) (by omega) (by omega)]
  by_cases c : x + 1 < 1 ∨ 8 < x + 1
  · rw [of_none (x + 1) c]
    by_cases d : y + 1 < 1 ∨ 8 < y + 1
    · rw [of_none (y + 1) d]; simp [A]
    · rw [of_some (y + 1) (by omega) (by omega)]; simp [A]
  · rw [of_some (x + 1) (by omega) (by omega)]
    by_cases d : y + 1 < 1 ∨ 8 < y + 1
    · rw [of_none (y + 1) d]; simp [A]
    · rw [of_some (y + 1) (by omega) (by omega)]
      simp only [Option.bind_some, in_eq, A, if_true]
      by_cases i : 1000 * (x + 1) ≤ p ∧ p ≤ 1000 * (x + 1) + 999
      · rw [if_pos (decide_eq_true i)]
        by_cases j : 1000 * (y + 1) ≤ p ∧ p ≤ 1000 * (y + 1) + 999
        · rw [if_pos (decide_eq_true j)]
          have : x = y := by omega
          subst this
          simp
        · rw [if_neg (by simp only [decide_eq_true_eq]; exact j)]
      · rw [if_neg (by simp only [decide_eq_true_eq]; exact i)]

end Go.Proofs.Ytjchejmakdkioaa.Pure
