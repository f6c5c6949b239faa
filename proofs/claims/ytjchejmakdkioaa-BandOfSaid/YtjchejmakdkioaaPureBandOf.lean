/- This text proves the pure statement of podestalaw21_BandOf: what the program answers for any app and any priority is what the law asks. No condition but the arguments' own ranges. -/
import Derived.Test.YtjchejmakdkioaaPBandOfx2
namespace Go.Proofs.Ytjchejmakdkioaa.Pure
open Go.RowKit Go.Proofs.Ytjchejmakdkioaa.PBandOf Go.Proofs.YtjchejmakdkioaaW.PrintWords Go.Proofs.YtjchejmakdkioaaW.PrintLast

theorem w64 (n : Int) (h1 : -9223372036854775808 ≤ n) (h2 : n ≤ 9223372036854775807) : wrap64 n = n := by
  unfold wrap64; omega

theorem wf64 {a : Int} (h : (Lit.int .i64 a).wf = true) : -9223372036854775808 ≤ a ∧ a ≤ 9223372036854775807 := by
  rw [Go.Lit.wf, Bool.and_eq_true, decide_eq_true_eq, decide_eq_true_eq] at h
  exact h

theorem of_some (a : Int) (h1 : 1 ≤ a) (h8 : a ≤ 8) : band_Of.f a = some (1000 * a, 1000 * a + 999, true) := by
  unfold band_Of.f
  rw [if_neg (by omega), if_neg (by omega), w64 (a * 1000) (by omega) (by omega), w64 (a + 1) (by omega) (by omega),
    w64 ((a + 1) * 1000) (by omega) (by omega), w64 _ (by omega) (by omega)]
  rw [show a * 1000 = 1000 * a by omega, show (a + 1) * 1000 - 1 = 1000 * a + 999 by omega]

theorem of_none (a : Int) (h : a < 1 ∨ 8 < a) : band_Of.f a = some (0, 0, false) := by
  unfold band_Of.f
  by_cases h1 : a < 1
  · rw [if_pos h1]
  · rw [if_neg h1, if_pos (by omega)]

theorem in_eq (l h p : Int) : band_In.f l h p = some (decide (l ≤ p ∧ p ≤ h)) := by
  unfold band_In.f
  by_cases c : p ≥ l
  · rw [if_pos c]; congr 1; by_cases d : p ≤ h
    · rw [decide_eq_true d, decide_eq_true ⟨c, d⟩]
    · rw [decide_eq_false d, decide_eq_false (fun e => d e.2)]
  · rw [if_neg c, decide_eq_false (fun e => c e.1)]

theorem owner_l (p : Int) : ∀ (n : Nat) (i : Int), i = 8 - n → 0 ≤ i →
    band_Owner.l0 (n + 1) p i = some (if 1000 * (i + 1) ≤ p ∧ p < 9000 then p / 1000 else 0)
  | 0, i, e, h0 => by
      unfold band_Owner.l0
      rw [if_neg (by omega), if_neg (by omega)]
  | n + 1, i, e, h0 => by
      unfold band_Owner.l0
      rw [if_pos (by omega), w64 (i + 1) (by omega) (by omega), of_some (i + 1) (by omega) (by omega)]
      simp only [Option.bind_some, if_true, in_eq]
      by_cases c : 1000 * (i + 1) ≤ p ∧ p ≤ 1000 * (i + 1) + 999
      · rw [if_pos (decide_eq_true c), if_pos (by omega)]; congr 1; omega
      · rw [if_neg (by simp only [decide_eq_true_eq]; exact c), owner_l p n (i + 1) (by omega) (by omega)]
        congr 1
        by_cases d : 1000 * (i + 1 + 1) ≤ p ∧ p < 9000
        · rw [if_pos d, if_pos (by omega)]
        · rw [if_neg d, if_neg (by omega)]

theorem owner_lk (p : Int) : ∀ n, band_Owner.f (9 + n) p = some (if 1000 ≤ p ∧ p < 9000 then p / 1000 else 0)
  | 0 => owner_l p 8 0 rfl (by omega)
  | n + 1 => band_Owner.mono p (9 + n) _ (owner_lk p n)

theorem answers_eq (n : Nat) : podestalaw21_answers.f (9 + n) = some true := by
  unfold podestalaw21_answers.f
  rw [of_some 2 (by decide) (by decide)]
  simp only [Option.bind_some]
  rw [if_pos trivial, if_pos (by decide), if_pos (by decide), owner_lk 2500 n]
  rfl

theorem j1_eq (k : Nat) (x0 x1 : Int) (x6 x7 : Bool) (x8 : Int) (x25 : Bool) (b0 b1 : Int) :
    podestalaw21_BandOf.j1 (k + 1) x0 x1 x6 x7 x8 x25 b0 b1 =
      podestalaw21_BandOf.j2 k x0 x1 x6 x7 (if x25 = true then wrap64 (Int.tdiv x1 1000) else x8) b0 b1 := by
  rw [podestalaw21_BandOf.j1]; split <;> rfl

theorem BandOf : podestalaw21_BandOf.Pure := by
  intro a p h1 h2
  have w1 : -9223372036854775808 ≤ a ∧ a ≤ 9223372036854775807 := wf64 h1
  have w2 : -9223372036854775808 ≤ p ∧ p ≤ 9223372036854775807 := wf64 h2
  refine ⟨13, ?_⟩
  have J0 : ∀ (x6 x7 : Bool) (b0 b1 : Int), podestalaw21_BandOf.j0 13 a p x6 x7 b0 b1 =
      podestalaw21_BandOf.j2 11 a p x6 x7 (if 1000 ≤ p ∧ p < 9000 then p / 1000 else 0) b0 b1 := by
    intro x6 x7 b0 b1
    rw [podestalaw21_BandOf.j0]
    by_cases c : p ≥ 1000
    · rw [if_pos c, j1_eq]
      congr 1
      by_cases d : p < 9000
      · rw [if_pos (decide_eq_true d), if_pos ⟨c, d⟩, Int.tdiv_eq_ediv_of_nonneg (by omega), w64 _ (by omega) (by omega)]
      · rw [if_neg (by simp only [decide_eq_true_eq]; exact d), if_neg (fun e => d e.2)]
    · rw [if_neg c, j1_eq]
      congr 1
      rw [if_neg (by decide), if_neg (fun e => c e.1)]
  have J2 : ∀ (x6 : Bool) (o b0 b1 : Int), o = (if 1000 ≤ p ∧ p < 9000 then p / 1000 else 0) →
      podestalaw21_BandOf.j2 11 a p x6 x6 o b0 b1 = podestalaw21_BandOf.j3 10 a p x6 o false b0 b1 := by
    intro x6 o b0 b1 e
    rw [podestalaw21_BandOf.j2, answers_eq 1]
    simp only [Option.bind_some, if_true]
    rw [if_neg (by simp), owner_lk p 1, ← e]
    simp
  unfold podestalaw21_BandOf.f
  by_cases r : a < 1 ∨ 8 < a
  · rw [of_none a r]
    simp only [Option.bind_some]
    have q : (if a ≥ 1 then podestalaw21_BandOf.j0 13 a p false (decide (a ≤ 8)) 0 0 else podestalaw21_BandOf.j0 13 a p false false 0 0) = podestalaw21_BandOf.j0 13 a p false false 0 0 := by
      split
      · rw [decide_eq_false (by omega)]
      · rfl
    rw [q, J0, J2 _ _ _ _ rfl, podestalaw21_BandOf.j3]
    rfl
  · rw [of_some a (by omega) (by omega)]
    simp only [Option.bind_some]
    rw [if_pos (by omega), decide_eq_true (by omega : a ≤ 8), J0, J2 _ _ _ _ rfl, podestalaw21_BandOf.j3]
    rw [if_neg (by decide), if_pos rfl, w64 (1000 * a) (by omega) (by omega), w64 _ (by omega) (by omega), if_pos rfl, if_pos rfl, in_eq]
    simp only [Option.bind_some]
    congr 1
    by_cases c : 1000 * a ≤ p ∧ p ≤ 1000 * a + 999
    · rw [decide_eq_true c, if_pos (by omega), show p / 1000 = a by omega]; simp
    · rw [decide_eq_false c]
      have : ((if 1000 ≤ p ∧ p < 9000 then p / 1000 else 0) == a) = false := by
        rw [beq_eq_false_iff_ne]
        split <;> omega
      rw [this]; rfl

end Go.Proofs.Ytjchejmakdkioaa.Pure
