import Derived.Test.YteioljlgcagnnaaM6EvalSound
set_option linter.unusedVariables false
set_option linter.unusedSimpArgs false
set_option maxRecDepth 100000
set_option maxHeartbeats 4000000
namespace Go.Proofs.Yteioljlgcagnnaa
open Go.Sh
def PInv (x : Eye) : Prop := 0 ≤ x.I ∧ x.I ≤ ((x.L.length : Nat) : Int) ∧ x.L.length ≤ 16384 ∧ 0 ≤ x.Deep ∧ x.Deep ≤ 40 ∧ ∀ t ∈ x.L, t.Text.size ≤ 16384
structure PStep (x x' : Eye) : Prop where
 L : x'.L = x.L
 E : x'.End = x.End
 I : x.I ≤ x'.I
 inv : PInv x'
 D : x'.Deep = x.Deep
 F : x.F.E ≠ 0 → x'.F = x.F
theorem PStep.refl {x : Eye} (h : PInv x) : PStep x x := ⟨rfl, rfl, Int.le_refl _, h, rfl, fun _ => rfl⟩
theorem PStep.trans {x y z : Eye} (h : PStep x y) (k : PStep y z) : PStep x z :=
 ⟨k.L.trans h.L, k.E.trans h.E, Int.le_trans h.I k.I, k.inv, k.D.trans h.D, fun e => by
  have e1 := h.F e
  rw [k.F (by rw [e1]; exact e), e1]⟩
theorem PStep.ok {x x' : Eye} (h : PStep x x') (e : x'.F.E = 0) : x.F.E = 0 := by
 refine Decidable.byContradiction fun hne => ?_
 rw [h.F hne] at e
 exact hne e
theorem ixO_some {α : Type} {l : List α} {i : Int} (h0 : 0 ≤ i) (h1 : i < ((l.length : Nat) : Int)) : ∃ x, ixO l i = some x := by
 unfold ixO
 rw [if_pos h0, List.getElem?_eq_getElem (show i.toNat < l.length by omega)]
 exact ⟨_, rfl⟩
theorem ixO_mem {α : Type} {l : List α} {i : Int} {x : α} (h : ixO l i = some x) : x ∈ l := by
 unfold ixO at h
 split at h
 ·exact List.mem_of_getElem? h
 ·cases h
theorem At_tot {x : Eye} (h : PInv x) : ∃ v, z30_raw x = some (v, x) := by
 unfold z30_raw
 rw [List.length_map]
 by_cases hl : x.I < ((x.L.length : Nat) : Int)
 ·obtain ⟨t, ht⟩ := ixO_some h.1 hl
  rw [decide_eq_true hl, cond_true, ht]
  exact ⟨_, rfl⟩
 ·rw [decide_eq_false hl]
  exact ⟨_, rfl⟩
theorem Bad_tot {x : Eye} (h : PInv x) (e : Int) (he : e ≠ 0) : ∃ x', z54_raw x e = some x' ∧ PStep x x' ∧ x'.F.E ≠ 0 ∧ x'.I = x.I := by
 unfold z54_raw
 cases hq : x.F.E == 0 with
 | true =>
  obtain ⟨v, hv⟩ := At_tot h
  have hz : x.F.E = 0 := by simpa using hq
  rw [cond_true, hv]
  exact ⟨_, rfl, ⟨rfl, rfl, Int.le_refl _, h, rfl, fun hn => absurd hz hn⟩, he, rfl⟩
 | false => exact ⟨x, rfl, PStep.refl h, beq_eq_false_iff_ne.1 hq, rfl⟩
theorem See_tot {x : Eye} (h : PInv x) : ∃ s, z52_raw x = some (s, x) ∧ s.size ≤ 16384 ∧ (s ≠ (ByteArray.mk #[]) → x.F.E = 0 ∧ x.I < ((x.L.length : Nat) : Int)) := by
 unfold z52_raw
 rw [List.length_map]
 cases hq : (x.F.E == 0) && (decide (x.I < ((x.L.length : Nat) : Int))) with
 | true =>
  rw [Bool.and_eq_true, decide_eq_true_eq] at hq
  obtain ⟨t, ht⟩ := ixO_some h.1 hq.2
  rw [cond_true, ht]
  exact ⟨_, rfl, h.2.2.2.2.2 t (ixO_mem ht), fun _ => ⟨by simpa using hq.1, hq.2⟩⟩
 | false => exact ⟨_, rfl, by decide, fun hn => absurd rfl hn⟩
theorem next_step {x : Eye} (h : PInv x) (hl : x.I < ((x.L.length : Nat) : Int)) : PStep x { x with I := IntKind.i64.wrap (x.I + 1) } ∧ IntKind.i64.wrap (x.I + 1) = x.I + 1 := by
 obtain ⟨h1, h2, h3, h4, h5, h6⟩ := h
 have hw : IntKind.i64.wrap (x.I + 1) = x.I + 1 := wrap_eq (by omega) (by omega)
 refine ⟨⟨rfl, rfl, ?_, ⟨?_, ?_, h3, h4, h5, h6⟩, rfl, fun _ => rfl⟩, hw⟩ <;> dsimp only <;> rw [hw] <;> omega
theorem Eat_tot {x : Eye} (h : PInv x) (s : ByteArray) : ∃ b x', z31_raw x s = some (b, x') ∧ PStep x x' ∧ (b = true → x.F.E = 0 ∧ x'.F.E = 0 ∧ x'.I = x.I + 1) ∧ (b = false → x' = x) := by
 obtain ⟨t, ht, _, hn⟩ := See_tot h
 unfold z31_raw
 rw [ht, Option.bind_some]
 dsimp only
 cases hq : (t == s) && (s != (ByteArray.mk #[])) with
 | true =>
  rw [Bool.and_eq_true, ba_beq, decide_eq_true_eq] at hq
  obtain ⟨rfl, h2⟩ := hq
  have hne : t ≠ (ByteArray.mk #[]) := by
   intro e
   subst e
   exact absurd h2 (by decide)
  obtain ⟨e0, hl⟩ := hn hne
  obtain ⟨st, hw⟩ := next_step h hl
  exact ⟨true, _, rfl, st, fun _ => ⟨e0, e0, hw⟩, fun hh => by cases hh⟩
 | false => exact ⟨false, x, rfl, PStep.refl h, (fun hh => by cases hh), fun _ => rfl⟩
theorem Must_tot {x : Eye} (h : PInv x) (s : ByteArray) : ∃ x', z33_raw x s = some x' ∧ PStep x x' ∧ (x'.F.E = 0 → x'.I = x.I + 1) := by
 obtain ⟨b, x1, e1, s1, t1, f1⟩ := Eat_tot h s
 unfold z33_raw
 rw [e1, Option.bind_some]
 dsimp only
 cases b with
 | true => exact ⟨x1, rfl, s1, fun _ => (t1 rfl).2.2⟩
 | false =>
  obtain ⟨x2, e2, s2, n2, _⟩ := Bad_tot s1.inv 15 (by decide)
  rw [Bool.not_false, cond_true, e2]
  exact ⟨x2, rfl, s1.trans s2, fun hz => absurd hz n2⟩
theorem Word_l0_tot (s : ByteArray) (hs : s.size ≤ 16384) : ∀ (m i : Nat), i ≤ s.size → s.size < m + i → ∃ r, z49_l0 s m ((i : Nat) : Int) = some r
 | 0, i, h1, h2 => by omega
 | m + 1, i, h1, h2 => by
  rw [z49_l0]
  by_cases hl : ((i : Nat) : Int) < ((s.size : Nat) : Int)
  ·rw [decide_eq_true hl, cond_true, decide_eq_true (show (0 : Int) ≤ ((i : Nat) : Int) by omega), wrap_succ (by omega)]
   have ih := Word_l0_tot s hs m (i + 1) (by omega) (by omega)
   show ∃ r, reqO true _ = some r
   unfold reqO
   simp only [Bool.and_self, cond_true]
   cases !(z47 (byteAt s ((i : Nat) : Int))) with
   | false => exact ih
   | true =>
    rw [cond_true]
    cases ((i : Nat) : Int) == 0 with
    | true => exact ⟨_, rfl⟩
    | false =>
     rw [cond_false]
     cases !(z48 (byteAt s ((i : Nat) : Int))) with
     | true => exact ⟨_, rfl⟩
     | false => exact ih
  ·rw [decide_eq_false hl]
   exact ⟨_, rfl⟩
theorem Word_tot (s : ByteArray) (hs : s.size ≤ 16384) : ∃ b, z49_raw 20000 s = some b ∧ (b = true → s ≠ (ByteArray.mk #[])) := by
 obtain ⟨r, hr⟩ := Word_l0_tot s hs 20000 0 (by omega) (by omega)
 have hr : z49_l0 s 20000 0 = some r := hr
 unfold z49_raw
 rw [hr]
 cases r with
 | inl u =>
  refine ⟨_, rfl, fun h => ?_⟩
  rw [Bool.and_eq_true, decide_eq_true_eq] at h
  intro e
  subst e
  exact absurd h.1 (by decide)
 | inr b =>
  refine ⟨b, rfl, fun h => ?_⟩
  intro e
  subst e
  subst h
  exact absurd hr (by decide)
theorem Digits_l0_tot (s : ByteArray) (hs : s.size ≤ 16384) : ∀ (m i : Nat) (n : Int), i ≤ s.size → s.size < m + i → ∃ r, z50_l0 s m n ((i : Nat) : Int) = some r
 | 0, i, n, h1, h2 => by omega
 | m + 1, i, n, h1, h2 => by
  rw [z50_l0]
  by_cases hl : ((i : Nat) : Int) < ((s.size : Nat) : Int)
  ·rw [decide_eq_true hl, cond_true, decide_eq_true (show (0 : Int) ≤ ((i : Nat) : Int) by omega), wrap_succ (by omega)]
   unfold reqO
   simp only [Bool.and_self, cond_true]
   cases (!(z48 (byteAt s ((i : Nat) : Int)))) || (decide (((i : Nat) : Int) ≥ 19)) with
   | true => exact ⟨_, rfl⟩
   | false => exact Digits_l0_tot s hs m (i + 1) _ (by omega) (by omega)
  ·rw [decide_eq_false hl]
   exact ⟨_, rfl⟩
theorem Digits_tot (s : ByteArray) (hs : s.size ≤ 16384) : ∃ b, z50_raw 20000 s = some b ∧ (b = true → s ≠ (ByteArray.mk #[])) := by
 obtain ⟨r, hr⟩ := Digits_l0_tot s hs 20000 0 0 (by omega) (by omega)
 have hr : z50_l0 s 20000 0 0 = some r := hr
 unfold z50_raw
 rw [hr]
 cases r with
 | inl u =>
  refine ⟨_, rfl, fun h => ?_⟩
  rw [Bool.and_eq_true, decide_eq_true_eq] at h
  intro e
  subst e
  exact absurd h.1 (by decide)
 | inr b =>
  refine ⟨b, rfl, fun h => ?_⟩
  intro e
  subst e
  subst h
  exact absurd hr (by decide)
theorem Num_l0_tot (s : ByteArray) (hs : s.size ≤ 16384) : ∀ (m i : Nat) (n : Int), i ≤ s.size → s.size < m + i → ∃ r, z55_l0 s m n ((i : Nat) : Int) = some r
 | 0, i, n, h1, h2 => by omega
 | m + 1, i, n, h1, h2 => by
  rw [z55_l0]
  by_cases hl : ((i : Nat) : Int) < ((s.size : Nat) : Int)
  ·rw [decide_eq_true hl, cond_true, decide_eq_true (show (0 : Int) ≤ ((i : Nat) : Int) by omega), wrap_succ (by omega)]
   unfold reqO
   simp only [Bool.and_self, cond_true]
   exact Num_l0_tot s hs m (i + 1) _ (by omega) (by omega)
  ·rw [decide_eq_false hl]
   exact ⟨_, rfl⟩
theorem Num_tot (s : ByteArray) (hs : s.size ≤ 16384) : ∃ n, z55_raw 20000 s = some n := by
 obtain ⟨r, hr⟩ := Num_l0_tot s hs 20000 0 0 (by omega) (by omega)
 have hr : z55_l0 s 20000 0 0 = some r := hr
 unfold z55_raw
 rw [hr]
 exact ⟨_, rfl⟩
theorem Name_tot {x : Eye} (h : PInv x) : ∃ s x', z32_raw x = some (s, x') ∧ PStep x x' ∧ (x'.F.E = 0 → x'.I = x.I + 1) := by
 obtain ⟨s, hs, hsz, hn⟩ := See_tot h
 obtain ⟨b, hb, hb2⟩ := Word_tot s hsz
 unfold z32_raw
 rw [hs, Option.bind_some]
 dsimp only
 rw [hb, Option.bind_some]
 cases hq : (!b) || (z53 s) with
 | true =>
  obtain ⟨x2, e2, s2, n2, _⟩ := Bad_tot h 15 (by decide)
  rw [cond_true, e2]
  exact ⟨_, x2, rfl, s2, fun hz => absurd hz n2⟩
 | false =>
  rw [Bool.or_eq_false_iff] at hq
  have hbt : b = true := by simpa using hq.1
  obtain ⟨e0, hl⟩ := hn (hb2 hbt)
  obtain ⟨st, hw⟩ := next_step h hl
  exact ⟨s, _, rfl, st, fun _ => hw⟩
theorem digits_inr (s : ByteArray) : ∀ (m : Nat) (n i : Int) (b : Bool), z50_l0 s m n i = some (.inr b) → b = true → False
 | 0, n, i, b, h, hb => by cases h
 | m + 1, n, i, b, h, hb => by
  subst hb
  rw [z50_l0] at h
  unfold reqO at h
  cases h1 : decide (i < ((s.size : Nat) : Int)) with
  | false => rw [h1] at h; cases h
  | true =>
   rw [h1, cond_true] at h
   cases h2 : decide (0 ≤ i) with
   | false => rw [h2] at h; cases h
   | true =>
    rw [h2] at h
    simp only [Bool.and_self, cond_true] at h
    cases h3 : (!(z48 (byteAt s i))) || (decide (i ≥ 19)) with
    | true => rw [h3] at h; cases h
    | false =>
     rw [h3, cond_false] at h
     exact digits_inr s m _ _ true h rfl
theorem dig_num (s : ByteArray) (hs : s.size ≤ 16384) : ∀ (m i : Nat) (n r : Int), 0 ≤ n → n < ((10 ^ i : Nat) : Int) → i ≤ 19 → z50_l0 s m n ((i : Nat) : Int) = some (.inl r) → ∀ (m' : Nat) (r' : Int), z55_l0 s m' (IntKind.i64.wrap n) ((i : Nat) : Int) = some r' → 0 ≤ r ∧ r' = IntKind.i64.wrap r
 | 0, i, n, r, h0, h1, hi, hd, m', r', hn => by cases hd
 | m + 1, i, n, r, h0, h1, hi, hd, 0, r', hn => by cases hn
 | m + 1, i, n, r, h0, h1, hi, hd, m' + 1, r', hn => by
  rw [z50_l0] at hd
  rw [z55_l0] at hn
  by_cases hl : ((i : Nat) : Int) < ((s.size : Nat) : Int)
  ·rw [decide_eq_true hl, cond_true, decide_eq_true (show (0 : Int) ≤ ((i : Nat) : Int) by omega), wrap_succ (by omega)] at hd hn
   unfold reqO at hd hn
   simp only [Bool.and_self, cond_true] at hd hn
   cases hb : (!(z48 (byteAt s ((i : Nat) : Int)))) || (decide (((i : Nat) : Int) ≥ 19)) with
   | true => rw [hb] at hd; cases hd
   | false =>
    rw [hb, cond_false] at hd
    rw [Bool.or_eq_false_iff, Bool.not_eq_false', decide_eq_false_iff_not] at hb
    obtain ⟨b1, b2⟩ := hb
    rw [z48, Bool.and_eq_true, decide_eq_true_eq, decide_eq_true_eq] at b1
    generalize byteAt s ((i : Nat) : Int) = c at *
    have hw : ∀ z : Int, IntKind.u64.wrap z = z % 18446744073709551616 := fun z => by simp [IntKind.wrap, IntKind.bits, IntKind.signed]
    have hw8 : ∀ z : Int, IntKind.u8.wrap z = z % 256 := fun z => by simp [IntKind.wrap, IntKind.bits, IntKind.signed]
    have hp : (10 ^ (i + 1) : Nat) = 10 ^ i * 10 := Nat.pow_succ ..
    have hq : (10 ^ (i + 1) : Nat) ≤ 10 ^ 19 := Nat.pow_le_pow_right (by decide) (by omega)
    have e8 : IntKind.u8.wrap (c - 48) = c - 48 := by rw [hw8]; omega
    rw [e8] at hd hn
    have hd' : IntKind.u64.wrap (IntKind.u64.wrap (n * 10) + IntKind.u64.wrap (c - 48)) = n * 10 + (c - 48) := by
     rw [hw, hw, hw]; omega
    have hn' : IntKind.i64.wrap (IntKind.i64.wrap (IntKind.i64.wrap n * 10) + IntKind.i64.wrap (c - 48)) = IntKind.i64.wrap (n * 10 + (c - 48)) := by
     simp only [IntKind.wrap_i64]; omega
    rw [hd'] at hd
    rw [hn'] at hn
    exact dig_num s hs m (i + 1) _ r (by omega) (by omega) (by omega) hd m' r' hn
  ·rw [decide_eq_false hl] at hd hn
   cases hd
   cases hn
   exact ⟨h0, rfl⟩
theorem dig_num_pos {s : ByteArray} (hs : s.size ≤ 16384) {n : Int} (hd : z50_raw 20000 s = some true) (hn : z55_raw 20000 s = some n) : 0 ≤ n := by
 unfold z50_raw at hd
 unfold z55_raw at hn
 cases hq : z50_l0 s 20000 0 0 with
 | none => rw [hq] at hd; cases hd
 | some v =>
  cases hp : z55_l0 s 20000 0 0 with
  | none => rw [hp] at hn; cases hn
  | some r' =>
   rw [hq] at hd
   rw [hp] at hn
   injection hn with hn
   subst hn
   cases v with
   | inr b =>
    exfalso
    have hb : b = true := by injection hd
    exact digits_inr s 20000 0 0 b hq hb
   | inl r =>
    have hlt : r < 9223372036854775808 := by
     injection hd with hd
     rw [Bool.and_eq_true, decide_eq_true_eq, decide_eq_true_eq] at hd
     exact hd.2
    have := dig_num s hs 20000 0 0 r (by omega) (by simp) (by omega) hq 20000 r' hp
    rw [this.2, wrapI_eq (by omega) (by omega)]
    exact this.1
theorem Int_tot {x : Eye} (h : PInv x) : ∃ n x', z34_raw x = some (n, x') ∧ PStep x x' ∧ (x'.F.E = 0 → x'.I = x.I + 1) ∧ 0 ≤ n := by
 obtain ⟨s, hs, hsz, hn⟩ := See_tot h
 obtain ⟨b, hb, hb2⟩ := Digits_tot s hsz
 unfold z34_raw
 rw [hs, Option.bind_some]
 dsimp only
 rw [hb, Option.bind_some]
 cases hq : b with
 | false =>
  obtain ⟨x2, e2, s2, n2, _⟩ := Bad_tot h 15 (by decide)
  rw [Bool.not_false, cond_true, e2]
  exact ⟨_, x2, rfl, s2, fun hz => absurd hz n2, Int.le_refl _⟩
 | true =>
  obtain ⟨n, hnn⟩ := Num_tot s hsz
  obtain ⟨e0, hl⟩ := hn (hb2 hq)
  obtain ⟨st, hw⟩ := next_step h hl
  rw [Bool.not_true, cond_false, hnn]
  exact ⟨n, _, rfl, st, fun _ => hw, dig_num_pos hsz (by rw [← hq]; exact hb) hnn⟩
theorem down_tot {x : Eye} (h : PInv x) : ∃ b x', z71_raw x = some (b, x') ∧ (b = false → PStep x x' ∧ x'.F.E ≠ 0) ∧ (b = true → x' = { x with Deep := x.Deep + 1 } ∧ x.Deep < 40) := by
 unfold z71_raw
 by_cases hd : x.Deep ≥ 40
 ·obtain ⟨x2, e2, s2, n2, _⟩ := Bad_tot h 13 (by decide)
  rw [decide_eq_true hd, cond_true, e2]
  exact ⟨false, x2, rfl, fun _ => ⟨s2, n2⟩, fun hh => by cases hh⟩
 ·have h4 := h.2.2.2.1
  rw [decide_eq_false hd, cond_false, wrap_eq (by omega) (by omega)]
  exact ⟨true, _, rfl, (fun hh => by cases hh), fun _ => ⟨rfl, by omega⟩⟩
theorem deeper {x : Eye} (h : PInv x) (hd : x.Deep < 40) : PInv { x with Deep := x.Deep + 1 } := by
 obtain ⟨h1, h2, h3, h4, h5, h6⟩ := h
 refine ⟨h1, h2, h3, ?_, ?_, h6⟩ <;> dsimp only <;> omega
theorem back_step {x y : Eye} (h : PInv x) (hd : x.Deep < 40) (k : PStep { x with Deep := x.Deep + 1 } y) : PStep x { y with Deep := IntKind.i64.wrap (y.Deep - 1) } := by
 have hD : y.Deep = x.Deep + 1 := k.D
 have h4 := h.2.2.2.1
 have hw : IntKind.i64.wrap (y.Deep - 1) = x.Deep := by
  rw [wrap_eq (by omega) (by omega)]
  omega
 obtain ⟨k1, k2, k3, k4, k5, k6⟩ := k.inv
 refine ⟨k.L, k.E, k.I, ⟨k1, k2, k3, ?_, ?_, k6⟩, hw, k.F⟩ <;> dsimp only <;> rw [hw] <;> omega
theorem wfE_mono : ∀ (a b : Nat) (n : Node), a ≤ b → wfE a n → wfE b n
 | 0, _, _, _, h => h.elim
 | a + 1, 0, _, hb, _ => by omega
 | a + 1, b + 1, n, hb, h => by
  have ih := fun m => wfE_mono a b m (by omega)
  rcases h with h | h | ⟨h, x, y, hk, hx, hy⟩ | ⟨h, x, hk, hx, ht⟩
  ·exact .inl h
  ·exact .inr (.inl h)
  ·exact .inr (.inr (.inl ⟨h, x, y, hk, ih x hx, ih y hy⟩))
  ·exact .inr (.inr (.inr ⟨h, x, hk, ih x hx, ht⟩))
theorem wfE_cong {a : Nat} {n n' : Node} (hk : n'.Kind = n.Kind) (hl : n'.Kids = n.Kids) (ht : n'.Text = n.Text) (h : wfE a n) : wfE a n' := by
 cases a with
 | zero => exact h.elim
 | succ a =>
  unfold wfE at h ⊢
  rw [hk, hl, ht]
  exact h
def Exp (x : Eye) (o : Option (Node × Eye)) : Prop := ∃ n x', o = some (n, x') ∧ PStep x x' ∧ (x'.F.E = 0 → x.I < x'.I ∧ wfE (x'.I - x.I).toNat n)
theorem in_ne {l : List ByteArray} {s : ByteArray} (h : z36 l s = true) (hl : (ByteArray.mk #[]) ∉ l) : s ≠ (ByteArray.mk #[]) := by
 intro e
 subst e
 apply hl
 unfold z36 at h
 obtain ⟨v, hv, h'⟩ | ⟨r, hv, h'⟩ := sumG_eq h
 ·cases h'
 ·subst h'
  clear hl h
  revert hv
  induction l with
  | nil => intro hv; cases hv
  | cons x l ih =>
   intro hv
   rw [z36_l0s] at hv
   cases hq : x == (ByteArray.mk #[]) with
   | true =>
    rw [ba_beq, decide_eq_true_eq] at hq
    exact hq ▸ List.mem_cons_self
   | false =>
    rw [hq, cond_false] at hv
    exact List.mem_cons_of_mem _ (ih hv)
theorem level_ne (k : Int) (st : Bool) : (ByteArray.mk #[]) ∉ z98 k st := by
 unfold z98
 cases k == 0 <;> cases k == 1 <;> cases k == 2 <;> cases k == 3 <;> cases st <;> simp [ByteArray.mk.injEq]
theorem See_next {x : Eye} {s : ByteArray} (h : PInv x) (hn : s ≠ (ByteArray.mk #[]) → x.F.E = 0 ∧ x.I < ((x.L.length : Nat) : Int)) (hs : s ≠ (ByteArray.mk #[])) : PStep x { x with I := IntKind.i64.wrap (x.I + 1) } ∧ IntKind.i64.wrap (x.I + 1) = x.I + 1 ∧ x.F.E = 0 :=
 ⟨(next_step h (hn hs).2).1, (next_step h (hn hs).2).2, (hn hs).1⟩
theorem part_l0_tot (g : Eye → Int → Bool → Option (Node × Eye)) (k1 : Int) (st : Bool) (D : Int) (hg : ∀ x, PInv x → x.Deep = D → Exp x (g x (IntKind.i64.wrap (k1 + 1)) st)) (x0 : Eye) (v1 : Node × Eye) : ∀ (m : Nat) (again : Bool) (x : Eye) (n : Node), PStep x0 x → x.Deep = D → x.L.length + 2 ≤ m + x.I.toNat + (if again then 0 else 1) → n.At = v1.1.At → (x.F.E = 0 → x0.I < x.I ∧ wfE (x.I - x0.I).toNat n) →
  ∃ n' x', z88_l0 g k1 st v1 m again x.L x.I x.End x.Deep x.F.E x.F.At n.Kind n.Text n.Num n.Kids = some (x'.L, x'.I, x'.End, x'.Deep, x'.F.E, x'.F.At, n'.Kind, n'.Text, n'.Num, n'.Kids) ∧ PStep x0 x' ∧ (x'.F.E = 0 → x0.I < x'.I ∧ wfE (x'.I - x0.I).toNat n')
 | 0, again, x, n, hs, hD, hm, hat, hw => by
  have := hs.inv.1
  have := hs.inv.2.1
  cases again <;> simp at hm <;> omega
 | m + 1, false, x, n, hs, hD, hm, hat, hw => ⟨n, x, rfl, hs, hw⟩
 | m + 1, true, x, n, hs, hD, hm, hat, hw => by
  have hi := hs.inv
  obtain ⟨s, es, hsz, hn⟩ := See_tot hi
  rw [z88_l0, cond_true, es, Option.bind_some]
  dsimp only
  cases hq : z36 (z98 k1 st) s with
  | false =>
   have := hi.1
   have := hi.2.1
   rw [cond_false]
   exact part_l0_tot g k1 st D hg x0 v1 m false x n hs hD (by simp at hm ⊢; omega) hat hw
  | true =>
   rw [cond_true]
   obtain ⟨st1, w1, e0⟩ := See_next hi hn (in_ne hq (level_ne k1 st))
   obtain ⟨y, x2, e2, s2, f2⟩ := hg _ st1.inv (by exact hD)
   rw [e2, Option.bind_some]
   dsimp only
   have hI2 : x.I + 1 ≤ x2.I := by
    have := s2.I
    dsimp only at this
    rw [w1] at this
    exact this
   have ht := hs.trans (st1.trans s2)
   have h0 := hi.1
   have h1 := ht.inv.2.1
   have hl := (st1.trans s2).L
   refine part_l0_tot g k1 st D hg x0 v1 m (k1 != 2) x2 { Kind := 20, Text := s, Num := 0, Kids := [{ Kind := n.Kind, Text := n.Text, Num := n.Num, Kids := n.Kids, At := v1.1.At }, y], At := v1.1.At } ht (by rw [(st1.trans s2).D]; exact hD) (by rw [hl]; split <;> simp at hm <;> omega) rfl ?_
   intro hz
   obtain ⟨h3, h4⟩ := hw e0
   obtain ⟨h5, h6⟩ := f2 hz
   dsimp only at h5 h6
   rw [w1] at h5 h6
   refine ⟨by omega, ?_⟩
   obtain ⟨d, hd⟩ : ∃ d, (x2.I - x0.I).toNat = d + 1 := ⟨(x2.I - x0.I).toNat - 1, by omega⟩
   rw [hd]
   have h7 : wfE d n := wfE_mono _ d _ (by omega) h4
   exact .inr (.inr (.inl ⟨rfl, _, _, rfl, wfE_cong (n := n) rfl rfl rfl h7, wfE_mono _ d _ (by omega) h6⟩))
theorem eyeG_one (q : Nat) (x : Eye) : (eyeG (q + 1)).1 x = z97_raw (eyeG q).1 (eyeG q).2.1 (eyeG q).2.2.1 (eyeG q).2.2.2.1 (eyeG q).2.2.2.2.1 (eyeG q).2.2.2.2.2.1 (eyeG q).2.2.2.2.2.2.1 (eyeG q).2.2.2.2.2.2.2.1 (eyeG q).2.2.2.2.2.2.2.2 x := rfl
theorem eyeG_part (q : Nat) (x : Eye) (k : Int) (st : Bool) : (eyeG (q + 1)).2.1 x k st = z88_raw 20000 (eyeG q).1 (eyeG q).2.1 (eyeG q).2.2.1 (eyeG q).2.2.2.1 (eyeG q).2.2.2.2.1 (eyeG q).2.2.2.2.2.1 (eyeG q).2.2.2.2.2.2.1 (eyeG q).2.2.2.2.2.2.2.1 (eyeG q).2.2.2.2.2.2.2.2 x k st := rfl
theorem eyeG_Expr (q : Nat) (x : Eye) (st : Bool) : (eyeG (q + 1)).2.2.1 x st = z72_raw (eyeG q).1 (eyeG q).2.1 (eyeG q).2.2.1 (eyeG q).2.2.2.1 (eyeG q).2.2.2.2.1 (eyeG q).2.2.2.2.2.1 (eyeG q).2.2.2.2.2.2.1 (eyeG q).2.2.2.2.2.2.2.1 (eyeG q).2.2.2.2.2.2.2.2 x st := rfl
theorem exp_back {x y : Eye} {n : Node} (h : PInv x) (hd : x.Deep < 40) (k : PStep { x with Deep := x.Deep + 1 } y) (f : y.F.E = 0 → x.I < y.I ∧ wfE (y.I - x.I).toNat n) : Exp x (some (n, { y with Deep := IntKind.i64.wrap (y.Deep - 1) })) :=
 ⟨n, _, rfl, back_step h hd k, f⟩
theorem part_tot (h : Nat) (one : ∀ q, 4 * h + 2 ≤ q → ∀ x, PInv x → x.Deep = 40 - ((h : Nat) : Int) → Exp x ((eyeG q).1 x)) : ∀ (j k : Nat), j + k = 5 → ∀ q, 4 * h + 3 + j ≤ q → ∀ st x, PInv x → x.Deep = 40 - ((h : Nat) : Int) → Exp x ((eyeG q).2.1 x ((k : Nat) : Int) st)
 | 0, k, hk, 0, hq, st, x, hi, hD => by omega
 | 0, k, hk, q + 1, hq, st, x, hi, hD => by
  obtain rfl : k = 5 := by omega
  obtain ⟨n, x', e, s, f⟩ := one q (by omega) x hi hD
  rw [eyeG_part]
  unfold z88_raw
  rw [show ((((5 : Nat) : Int)) == 5) = true from rfl, cond_true, e]
  exact ⟨n, x', rfl, s, f⟩
 | j + 1, k, hk, 0, hq, st, x, hi, hD => by omega
 | j + 1, k, hk, q + 1, hq, st, x, hi, hD => by
  have hw : IntKind.i64.wrap (((k : Nat) : Int) + 1) = ((k + 1 : Nat) : Int) := wrap_succ (by omega)
  have hg : ∀ x, PInv x → x.Deep = 40 - ((h : Nat) : Int) → Exp x ((eyeG q).2.1 x (IntKind.i64.wrap (((k : Nat) : Int) + 1)) st) := by
   intro x hi hD
   rw [hw]
   exact part_tot h one j (k + 1) (by omega) q (by omega) st x hi hD
  obtain ⟨n, x', e, s, f⟩ := hg x hi hD
  rw [eyeG_part]
  unfold z88_raw
  rw [show (((k : Nat) : Int) == 5) = false from beq_eq_false_iff_ne.2 (by omega), cond_false, e, Option.bind_some]
  dsimp only
  have h3 := s.inv.2.2.1
  have h4 := s.inv.1
  obtain ⟨n', x2, e2, s2, f2⟩ := part_l0_tot (eyeG q).2.1 ((k : Nat) : Int) st (40 - ((h : Nat) : Int)) hg x (n, x') 20000 true x' n s (by rw [s.D]; exact hD) (by simp; omega) rfl f
  rw [e2]
  exact ⟨_, x2, rfl, s2, fun hz => ⟨(f2 hz).1, wfE_cong (n := n') rfl rfl rfl (f2 hz).2⟩⟩
theorem exp_group : ∀ (h : Nat), (∀ q, 4 * h + 2 ≤ q → ∀ x, PInv x → x.Deep = 40 - ((h : Nat) : Int) → Exp x ((eyeG q).1 x)) ∧ (∀ q, 4 * h + 5 ≤ q → ∀ st x, PInv x → x.Deep = 40 - ((h : Nat) : Int) → Exp x ((eyeG q).2.2.1 x st)) := by
 intro h
 induction h with
 | zero =>
  constructor
  ·intro q hq x hi hD
   obtain ⟨q, rfl⟩ : ∃ p, q = p + 1 := ⟨q - 1, by omega⟩
   obtain ⟨b, x', e, hf, ht⟩ := down_tot hi
   rw [eyeG_one]
   unfold z97_raw
   cases b with
   | true => have := (ht rfl).2; omega
   | false =>
    rw [e]
    exact ⟨_, x', rfl, (hf rfl).1, fun hz => absurd hz (hf rfl).2⟩
  ·intro q hq st x hi hD
   obtain ⟨q, rfl⟩ : ∃ p, q = p + 1 := ⟨q - 1, by omega⟩
   obtain ⟨b, x', e, hf, ht⟩ := down_tot hi
   rw [eyeG_Expr]
   unfold z72_raw
   cases b with
   | true => have := (ht rfl).2; omega
   | false =>
    rw [e]
    exact ⟨_, x', rfl, (hf rfl).1, fun hz => absurd hz (hf rfl).2⟩
 | succ h ih =>
  obtain ⟨io, ie⟩ := ih
  constructor
  ·intro q hq x hi hD
   obtain ⟨q, rfl⟩ : ∃ p, q = p + 1 := ⟨q - 1, by omega⟩
   obtain ⟨b, x', e, hf, ht⟩ := down_tot hi
   rw [eyeG_one]
   unfold z97_raw
   rw [e, Option.bind_some]
   cases b with
   | false => exact ⟨_, x', rfl, (hf rfl).1, fun hz => absurd hz (hf rfl).2⟩
   | true =>
    obtain ⟨rfl, hd⟩ := ht rfl
    have hi1 := deeper hi hd
    obtain ⟨a, ea⟩ := At_tot hi1
    obtain ⟨s, es, hsz, hn⟩ := See_tot hi1
    have hD1 : x.Deep + 1 = 40 - ((h : Nat) : Int) := by omega
    dsimp only
    rw [Bool.not_true, cond_false, ea, Option.bind_some]
    dsimp only
    rw [es, Option.bind_some]
    dsimp only
    cases c1 : (s == (ByteArray.mk #[45])) || (s == (ByteArray.mk #[33])) with
    | true =>
     have hs : s ≠ (ByteArray.mk #[]) := by rintro rfl; simp [ba_beq] at c1
     obtain ⟨s1, w1, e0⟩ := See_next hi1 hn hs
     obtain ⟨n, y, e2, s2, f2⟩ := io q (by omega) _ s1.inv hD1
     rw [cond_true, e2]
     refine exp_back hi hd (s1.trans s2) fun hz => ?_
     obtain ⟨h1, h2⟩ := f2 hz
     dsimp only at h1 h2 w1
     rw [w1] at h1 h2
     obtain ⟨d, hd⟩ : ∃ d, (y.I - x.I).toNat = d + 1 := ⟨(y.I - x.I).toNat - 1, by omega⟩
     rw [hd]
     have h3 : wfE d n := wfE_mono _ d _ (by omega) h2
     exact ⟨(by omega : x.I < y.I), .inr (.inr (.inr ⟨rfl, n, rfl, h3, by rw [Bool.or_eq_true, ba_beq, ba_beq, decide_eq_true_eq, decide_eq_true_eq] at c1; exact c1⟩))⟩
    | false =>
     rw [cond_false]
     cases c2 : s == (ByteArray.mk #[40]) with
     | true =>
      have hs : s ≠ (ByteArray.mk #[]) := by rintro rfl; simp [ba_beq] at c2
      obtain ⟨s1, w1, e0⟩ := See_next hi1 hn hs
      obtain ⟨n, y, e2, s2, f2⟩ := ie q (by omega) true _ s1.inv hD1
      obtain ⟨z, e3, s3, f3⟩ := Must_tot s2.inv (ByteArray.mk #[41])
      rw [cond_true, e2, Option.bind_some]
      dsimp only
      rw [e3]
      refine exp_back hi hd (s1.trans (s2.trans s3)) fun hz => ?_
      obtain ⟨h1, h2⟩ := f2 (s3.ok hz)
      dsimp only at h1 h2 w1
      rw [w1] at h1 h2
      have h3 := f3 hz
      exact ⟨by omega, wfE_mono _ _ _ (by omega) h2⟩
     | false =>
      rw [cond_false]
      obtain ⟨b, eb, _⟩ := Digits_tot s hsz
      rw [eb, Option.bind_some]
      have leaf : ∀ {y : Eye} {n : Node}, (n.Kind = 18 ∨ n.Kind = 19) → n.Kids = [] → (y.I = x.I + 1) → x.I < y.I ∧ wfE (y.I - x.I).toNat n := by
       intro y n hk hl hy
       refine ⟨by omega, ?_⟩
       rw [show (y.I - x.I).toNat = 1 by omega]
       rcases hk with h | h
       ·exact .inl ⟨h, hl⟩
       ·exact .inr (.inl ⟨h, hl⟩)
      cases b with
      | true =>
       obtain ⟨i, y, e2, s2, f2, _⟩ := Int_tot hi1
       rw [cond_true, e2]
       exact exp_back hi hd s2 fun hz => leaf (.inl rfl) rfl (f2 hz)
      | false =>
       obtain ⟨i, y, e2, s2, f2⟩ := Name_tot hi1
       rw [cond_false, e2]
       exact exp_back hi hd s2 fun hz => leaf (.inr rfl) rfl (f2 hz)
  ·intro q hq st x hi hD
   obtain ⟨q, rfl⟩ : ∃ p, q = p + 1 := ⟨q - 1, by omega⟩
   obtain ⟨b, x', e, hf, ht⟩ := down_tot hi
   rw [eyeG_Expr]
   unfold z72_raw
   rw [e, Option.bind_some]
   cases b with
   | false => exact ⟨_, x', rfl, (hf rfl).1, fun hz => absurd hz (hf rfl).2⟩
   | true =>
    obtain ⟨rfl, hd⟩ := ht rfl
    obtain ⟨n, y, e2, s2, f2⟩ := part_tot h io 5 0 rfl q (by omega) st _ (deeper hi hd) (by dsimp only; omega)
    dsimp only
    rw [Bool.not_true, cond_false, show (0 : Int) = ((0 : Nat) : Int) from rfl, e2]
    exact exp_back hi hd s2 f2
end Go.Proofs.Yteioljlgcagnnaa
namespace Go.Proofs.Yteioljlgcagnnaa
open Go.Sh
theorem Exp.wf {x : Eye} {o : Option (Node × Eye)} (h : Exp x o) (hi : PInv x) : ∃ n x', o = some (n, x') ∧ PStep x x' ∧ (x'.F.E = 0 → x.I < x'.I ∧ wfE 16384 n) := by
 obtain ⟨n, x', e, s, f⟩ := h
 refine ⟨n, x', e, s, fun hz => ?_⟩
 obtain ⟨h1, h2⟩ := f hz
 have := hi.1
 have := s.inv.2.1
 have := s.inv.2.2.1
 exact ⟨h1, wfE_mono _ _ _ (by omega) h2⟩
theorem fitO_ok {α : Type} {n : Nat} (r : Option α) (h : n ≤ 100000) : fitO n 64 r = r := by
 unfold fitO
 rw [if_pos]
 unfold reach
 omega
def Lst (P : Node → Prop) (x0 x : Eye) (l : List Node) : Prop := PStep x0 x ∧ l.length ≤ x.I.toNat + 1 ∧ (x.F.E = 0 → ∀ k ∈ l, P k)
theorem Lst.add {P : Node → Prop} {x0 x y : Eye} {l : List Node} {n : Node} (h : Lst P x0 x l) (hl : l.length ≤ x.I.toNat) (s : PStep x y) (f : y.F.E = 0 → P n) : Lst P x0 y (l ++ [n]) := by
 refine ⟨h.1.trans s, ?_, fun hz k hk => ?_⟩
 ·have h1 := s.I
  have h2 := h.1.inv.1
  rw [List.length_append, List.length_singleton]
  omega
 ·rcases List.mem_append.1 hk with hk | hk
  ·exact h.2.2 (s.ok hz) k hk
  ·rw [List.mem_singleton.1 hk]
   exact f hz
theorem match_l0_tot (g : Eye → Bool → Option (Node × Eye)) (D : Int) (hg : ∀ x, PInv x → x.Deep = D → ∀ st, Exp x (g x st)) (x0 : Eye) : ∀ (m : Nat) (again : Bool) (x : Eye) (l : List Node), Lst (fun k => ∃ a, k.Kids = [a] ∧ wfE 16384 a ∧ k.Kind = 13 ∧ -1 ≤ k.Num) x0 x l → x.Deep = D → x.L.length + 2 ≤ m + x.I.toNat + (if again then 0 else 1) → (again = true → l.length ≤ x.I.toNat) →
  ∃ l' x', z73_l0 g m again x.L x.I x.End x.Deep x.F.E x.F.At l = some (x'.L, x'.I, x'.End, x'.Deep, x'.F.E, x'.F.At, l') ∧ Lst (fun k => ∃ a, k.Kids = [a] ∧ wfE 16384 a ∧ k.Kind = 13 ∧ -1 ≤ k.Num) x0 x' l' ∧ PStep x x' ∧ (again = true → x'.F.E = 0 → x.I < x'.I)
 | 0, again, x, l, hs, hD, hm, hl => by
  have := hs.1.inv.1
  have := hs.1.inv.2.1
  cases again <;> simp at hm <;> omega
 | m + 1, false, x, l, hs, hD, hm, hl => ⟨l, x, rfl, hs, PStep.refl hs.1.inv, fun h => by cases h⟩
 | m + 1, true, x, l, hs, hD, hm, hl => by
  have hi := hs.1.inv
  have hl := hl rfl
  obtain ⟨a, ea⟩ := At_tot hi
  obtain ⟨nm, x1, e1, s1, f1⟩ := Name_tot hi
  obtain ⟨x2, e2, s2, f2⟩ := Must_tot s1.inv (ByteArray.mk #[61])
  have s02 := s1.trans s2
  obtain ⟨n, x3, e3, s3, f3⟩ := (hg x2 s2.inv (by rw [s02.D]; exact hD) false).wf s2.inv
  have s03 := s02.trans s3
  obtain ⟨b, x4, e4, s4, t4, u4⟩ := Eat_tot s3.inv (ByteArray.mk #[47])
  have s04 := s03.trans s4
  rw [z73_l0, cond_true, ea, Option.bind_some]
  dsimp only
  rw [e1, Option.bind_some]
  dsimp only
  rw [e2, Option.bind_some, e3, Option.bind_some]
  dsimp only
  rw [e4, Option.bind_some]
  dsimp only
  have h0 := hi.1
  have h1 := hi.2.1
  have h2 := hi.2.2.1
  have fin : ∀ (x5 : Eye) (num at_ : Int), -1 ≤ num → PStep x x5 → (x5.F.E = 0 → wfE 16384 n) → x3.I ≤ x5.I → (x5.F.E = 0 → x2.I < x5.I) →
   ∃ l' x', (fitO (l.length + [({ Kind := 13, Text := nm, Num := num, Kids := [n], At := at_ } : Node)].length) 64 (
   (z31_raw x5 (ByteArray.mk #[44])).bind fun v9 =>
   z73_l0 g m v9.1 v9.2.L v9.2.I v9.2.End v9.2.Deep v9.2.F.E v9.2.F.At (l ++ [({ Kind := 13, Text := nm, Num := num, Kids := [n], At := at_ } : Node)]))) = some (x'.L, x'.I, x'.End, x'.Deep, x'.F.E, x'.F.At, l') ∧ Lst (fun k => ∃ a, k.Kids = [a] ∧ wfE 16384 a ∧ k.Kind = 13 ∧ -1 ≤ k.Num) x0 x' l' ∧ PStep x x' ∧ (true = true → x'.F.E = 0 → x.I < x'.I) := by
   intro x5 num at_ hnum s5 f5 i5 j5
   obtain ⟨b6, x6, e6, s6, t6, u6⟩ := Eat_tot s5.inv (ByteArray.mk #[44])
   have s06 := s5.trans s6
   rw [fitO_ok _ (by simp; omega), e6, Option.bind_some]
   dsimp only
   have hL := s06.L
   have h3 := s06.inv.1
   have h4 := s06.I
   have h5 := s02.I
   have h6 := s6.I
   obtain ⟨l', x', e', q', p', o'⟩ := match_l0_tot g D hg x0 m b6 x6 (l ++ [({ Kind := 13, Text := nm, Num := num, Kids := [n], At := at_ } : Node)]) (hs.add hl s06 fun hz => ⟨n, rfl, f5 (s6.ok hz), rfl, hnum⟩) (by rw [s06.D]; exact hD) (by
    rw [hL]
    cases b6 with
    | false => simp at hm ⊢; omega
    | true =>
     have := (t6 rfl).2.2
     have := s5.I
     simp at hm ⊢
     omega) (fun hb => by
    have := (t6 hb).2.2
    have := s5.I
    simp
    omega)
   refine ⟨l', x', e', q', s06.trans p', fun _ hz => ?_⟩
   have := j5 (s6.ok (p'.ok hz))
   have := p'.I
   omega
  cases b with
  | true =>
   obtain ⟨num, x5, e5, s5, f5, p5⟩ := Int_tot s4.inv
   rw [cond_true, e5, Option.bind_some]
   have i4 := s4.I
   have i5 := s5.I
   exact fin x5 num a (by omega) (s04.trans s5) (fun hz => (f3 (s4.ok (s5.ok hz))).2) (by omega) (fun hz => by have := (f3 (s4.ok (s5.ok hz))).1; omega)
  | false =>
   rw [cond_false]
   have i4 := s4.I
   exact fin x4 (-1) a (by omega) s04 (fun hz => (f3 (s4.ok hz)).2) (by omega) (fun hz => by have := (f3 (s4.ok hz)).1; omega)
def actP (x : Node) : Prop := (x.Kind = 15 ∨ x.Kind = 16 ∨ x.Kind = 17) ∧ ((x.Kind = 15 ∨ x.Kind = 16) → ∃ a, x.Kids = [a] ∧ wfE 16384 a) ∧ (x.Kind = 17 → x.Kids = [])
theorem acts_l0_tot (g : Eye → Bool → Option (Node × Eye)) (D : Int) (hg : ∀ x, PInv x → x.Deep = D → ∀ st, Exp x (g x st)) (x0 : Eye) : ∀ (m : Nat) (again : Bool) (x : Eye) (l : List Node), Lst actP x0 x l → x.Deep = D → x.L.length + 2 ≤ m + x.I.toNat + (if again then 0 else 1) → (again = true → l.length ≤ x.I.toNat) →
  ∃ l' x', z75_l0 g m again x.L x.I x.End x.Deep x.F.E x.F.At l = some (x'.L, x'.I, x'.End, x'.Deep, x'.F.E, x'.F.At, l') ∧ Lst actP x0 x' l' ∧ PStep x x' ∧ (again = true → x'.F.E = 0 → x.I < x'.I)
 | 0, again, x, l, hs, hD, hm, hl => by
  have := hs.1.inv.1
  have := hs.1.inv.2.1
  cases again <;> simp at hm <;> omega
 | m + 1, false, x, l, hs, hD, hm, hl => ⟨l, x, rfl, hs, PStep.refl hs.1.inv, fun h => by cases h⟩
 | m + 1, true, x, l, hs, hD, hm, hl => by
  have hi := hs.1.inv
  have hl := hl rfl
  have h0 := hi.1
  have h1 := hi.2.1
  have h2 := hi.2.2.1
  have fin : ∀ (x5 : Eye) (n : Node), PStep x x5 → (x5.F.E = 0 → x.I < x5.I ∧ actP n) →
   ∃ l' x', (fitO (l.length + [n].length) 64 (
   (z31_raw x5 (ByteArray.mk #[44])).bind fun v9 =>
   z75_l0 g m v9.1 v9.2.L v9.2.I v9.2.End v9.2.Deep v9.2.F.E v9.2.F.At (l ++ [n]))) = some (x'.L, x'.I, x'.End, x'.Deep, x'.F.E, x'.F.At, l') ∧ Lst actP x0 x' l' ∧ PStep x x' ∧ (true = true → x'.F.E = 0 → x.I < x'.I) := by
   intro x5 n s5 f5
   obtain ⟨b6, x6, e6, s6, t6, u6⟩ := Eat_tot s5.inv (ByteArray.mk #[44])
   have s06 := s5.trans s6
   rw [fitO_ok _ (by simp; omega), e6, Option.bind_some]
   dsimp only
   have hL := s06.L
   have h3 := s06.inv.1
   have h4 := s06.I
   have h6 := s6.I
   obtain ⟨l', x', e', q', p', o'⟩ := acts_l0_tot g D hg x0 m b6 x6 (l ++ [n]) (hs.add hl s06 fun hz => (f5 (s6.ok hz)).2) (by rw [s06.D]; exact hD) (by
    rw [hL]
    cases b6 with
    | false => simp at hm ⊢; omega
    | true =>
     have := (t6 rfl).2.2
     have := s5.I
     simp at hm ⊢
     omega) (fun hb => by
    have := (t6 hb).2.2
    have := s5.I
    simp
    omega)
   refine ⟨l', x', e', q', s06.trans p', fun _ hz => ?_⟩
   have := (f5 (s6.ok (p'.ok hz))).1
   have := p'.I
   omega
  obtain ⟨a, ea⟩ := At_tot hi
  obtain ⟨b1, x1, e1, s1, t1, u1⟩ := Eat_tot hi (ByteArray.mk #[111, 117, 116])
  rw [z75_l0, cond_true, ea, Option.bind_some]
  dsimp only
  rw [e1, Option.bind_some]
  dsimp only
  cases b1 with
  | true =>
   obtain ⟨n, x3, e3, s3, f3⟩ := (hg x1 s1.inv (by rw [s1.D]; exact hD) true).wf s1.inv
   rw [cond_true, e3, Option.bind_some]
   have i1 := s1.I
   exact fin x3 _ (s1.trans s3) fun hz => ⟨by have := (f3 hz).1; omega, .inl rfl, fun _ => ⟨n, rfl, (f3 hz).2⟩, fun h => by cases h⟩
  | false =>
   obtain ⟨b2, x2, e2, s2, t2, u2⟩ := Eat_tot s1.inv (ByteArray.mk #[115, 101, 116])
   have s02 := s1.trans s2
   rw [cond_false, e2, Option.bind_some]
   dsimp only
   cases b2 with
   | true =>
    obtain ⟨nm, x3, e3, s3, f3⟩ := Name_tot s2.inv
    have s03 := s02.trans s3
    obtain ⟨n, x4, e4, s4, f4⟩ := (hg x3 s3.inv (by rw [s03.D]; exact hD) true).wf s3.inv
    rw [cond_true, e3, Option.bind_some]
    dsimp only
    rw [e4, Option.bind_some]
    have i3 := s03.I
    exact fin x4 _ (s03.trans s4) fun hz => ⟨by have := (f4 hz).1; omega, .inr (.inl rfl), fun _ => ⟨n, rfl, (f4 hz).2⟩, fun h => by cases h⟩
   | false =>
    obtain ⟨b3, x3, e3, s3, t3, u3⟩ := Eat_tot s2.inv (ByteArray.mk #[116, 101, 108, 108])
    have s03 := s02.trans s3
    rw [cond_false, e3, Option.bind_some]
    dsimp only
    cases b3 with
    | true =>
     rw [cond_true]
     have i2 := s02.I
     exact fin x3 _ s03 fun hz => ⟨by have := (t3 rfl).2.2; omega, .inr (.inr rfl), (fun h => by rcases h with h | h <;> cases h), fun _ => rfl⟩
    | false =>
     obtain ⟨x4, e4, s4, f4, _⟩ := Bad_tot s3.inv 15 (by decide)
     rw [cond_false, e4, Option.bind_some]
     exact fin x4 _ (s03.trans s4) fun hz => absurd hz f4
def Mat (P : Node → Prop) (x : Eye) (o : Option (Node × Eye)) : Prop := ∃ n x', o = some (n, x') ∧ PStep x x' ∧ (x'.F.E = 0 → x.I < x'.I ∧ P n)
theorem eyeG_match (q : Nat) (x : Eye) : (eyeG (q + 1)).2.2.2.1 x = z73_raw 20000 (eyeG q).1 (eyeG q).2.1 (eyeG q).2.2.1 (eyeG q).2.2.2.1 (eyeG q).2.2.2.2.1 (eyeG q).2.2.2.2.2.1 (eyeG q).2.2.2.2.2.2.1 (eyeG q).2.2.2.2.2.2.2.1 (eyeG q).2.2.2.2.2.2.2.2 x := rfl
theorem eyeG_given (q : Nat) (x : Eye) (s : ByteArray) (a : Int) : (eyeG (q + 1)).2.2.2.2.1 x s a = z74_raw (eyeG q).1 (eyeG q).2.1 (eyeG q).2.2.1 (eyeG q).2.2.2.1 (eyeG q).2.2.2.2.1 (eyeG q).2.2.2.2.2.1 (eyeG q).2.2.2.2.2.2.1 (eyeG q).2.2.2.2.2.2.2.1 (eyeG q).2.2.2.2.2.2.2.2 x s a := rfl
theorem eyeG_acts (q : Nat) (x : Eye) : (eyeG (q + 1)).2.2.2.2.2.1 x = z75_raw 20000 (eyeG q).1 (eyeG q).2.1 (eyeG q).2.2.1 (eyeG q).2.2.2.1 (eyeG q).2.2.2.2.1 (eyeG q).2.2.2.2.2.1 (eyeG q).2.2.2.2.2.2.1 (eyeG q).2.2.2.2.2.2.2.1 (eyeG q).2.2.2.2.2.2.2.2 x := rfl
theorem eyeG_rest (q : Nat) (x : Eye) (n : Node) (b : Bool) : (eyeG (q + 1)).2.2.2.2.2.2.1 x n b = z76_raw (eyeG q).1 (eyeG q).2.1 (eyeG q).2.2.1 (eyeG q).2.2.2.1 (eyeG q).2.2.2.2.1 (eyeG q).2.2.2.2.2.1 (eyeG q).2.2.2.2.2.2.1 (eyeG q).2.2.2.2.2.2.2.1 (eyeG q).2.2.2.2.2.2.2.2 x n b := rfl
theorem eyeG_stmt (q : Nat) (x : Eye) : (eyeG (q + 1)).2.2.2.2.2.2.2.1 x = z56_raw (eyeG q).1 (eyeG q).2.1 (eyeG q).2.2.1 (eyeG q).2.2.2.1 (eyeG q).2.2.2.2.1 (eyeG q).2.2.2.2.2.1 (eyeG q).2.2.2.2.2.2.1 (eyeG q).2.2.2.2.2.2.2.1 (eyeG q).2.2.2.2.2.2.2.2 x := rfl
theorem eyeG_block (q : Nat) (x : Eye) : (eyeG (q + 1)).2.2.2.2.2.2.2.2 x = z35_raw 20000 (eyeG q).1 (eyeG q).2.1 (eyeG q).2.2.1 (eyeG q).2.2.2.1 (eyeG q).2.2.2.2.1 (eyeG q).2.2.2.2.2.1 (eyeG q).2.2.2.2.2.2.1 (eyeG q).2.2.2.2.2.2.2.1 (eyeG q).2.2.2.2.2.2.2.2 x := rfl
theorem expr_tot (q : Nat) (hq : 165 ≤ q) (st : Bool) (x : Eye) (hi : PInv x) : Exp x ((eyeG q).2.2.1 x st) := by
 have h1 := hi.2.2.2.1
 have h2 := hi.2.2.2.2.1
 exact (exp_group (40 - x.Deep).toNat).2 q (by omega) st x hi (by omega)
theorem eyematch_tot (q : Nat) (hq : 166 ≤ q) (x : Eye) (hi : PInv x) : Mat (wfM 16384) x ((eyeG q).2.2.2.1 x) := by
 obtain ⟨q, rfl⟩ : ∃ p, q = p + 1 := ⟨q - 1, by omega⟩
 obtain ⟨a, ea⟩ := At_tot hi
 obtain ⟨x1, e1, s1, f1⟩ := Must_tot hi (ByteArray.mk #[91])
 obtain ⟨b, x2, e2, s2, t2, u2⟩ := Eat_tot s1.inv (ByteArray.mk #[93])
 have s02 := s1.trans s2
 rw [eyeG_match]
 unfold z73_raw
 rw [ea, Option.bind_some]
 dsimp only
 rw [e1, Option.bind_some, e2, Option.bind_some]
 dsimp only
 have i1 := s1.I
 have i2 := s2.I
 cases b with
 | true => exact ⟨_, x2, rfl, s02, fun hz => ⟨by have := (t2 rfl).2.2; omega, rfl, by simp, fun k hk => by cases hk⟩⟩
 | false =>
  have h0 := s02.inv.1
  have h1 := s02.inv.2.2.1
  obtain ⟨l, x3, e3, q3, s3, o3⟩ := match_l0_tot (eyeG q).2.2.1 x2.Deep (fun x hx _ st => expr_tot q (by omega) st x hx) x2 20000 true x2 [] ⟨PStep.refl s2.inv, by simp, fun _ k hk => by cases hk⟩ rfl (by simp; omega) (fun _ => by simp)
  obtain ⟨x4, e4, s4, f4⟩ := Must_tot s3.inv (ByteArray.mk #[93])
  rw [cond_false, e3, Option.bind_some]
  dsimp only
  rw [e4]
  refine ⟨_, x4, rfl, s02.trans (s3.trans s4), fun hz => ⟨?_, rfl, ?_, q3.2.2 (s4.ok hz)⟩⟩
  ·have := f4 hz
   have := s3.I
   omega
  ·have h2 := q3.2.1
   have h3 := s3.inv.2.1
   have h4 := s3.inv.2.2.1
   show l.length ≤ 16385
   omega
theorem given_tot (q : Nat) (hq : 166 ≤ q) (s : ByteArray) (a : Int) (x : Eye) (hi : PInv x) : ∃ n x', (eyeG q).2.2.2.2.1 x s a = some (n, x') ∧ PStep x x' ∧ (x'.F.E = 0 → wfE 16384 n) := by
 obtain ⟨q, rfl⟩ : ∃ p, q = p + 1 := ⟨q - 1, by omega⟩
 obtain ⟨b, x1, e1, s1, t1, u1⟩ := Eat_tot hi s
 rw [eyeG_given]
 unfold z74_raw
 rw [e1, Option.bind_some]
 dsimp only
 cases b with
 | true =>
  obtain ⟨n, x2, e2, s2, f2⟩ := (expr_tot q (by omega) true x1 s1.inv).wf s1.inv
  rw [cond_true, e2]
  exact ⟨n, x2, rfl, s1.trans s2, fun hz => (f2 hz).2⟩
 | false => exact ⟨_, x1, rfl, s1, fun _ => .inl ⟨rfl, rfl⟩⟩
theorem eyeacts_tot (q : Nat) (hq : 166 ≤ q) (x : Eye) (hi : PInv x) : Mat (wfA 16384) x ((eyeG q).2.2.2.2.2.1 x) := by
 obtain ⟨q, rfl⟩ : ∃ p, q = p + 1 := ⟨q - 1, by omega⟩
 obtain ⟨x1, e1, s1, f1⟩ := Must_tot hi (ByteArray.mk #[100, 111])
 obtain ⟨a, ea⟩ := At_tot s1.inv
 obtain ⟨b, x2, e2, s2, t2, u2⟩ := Eat_tot s1.inv (ByteArray.mk #[100, 114, 111, 112])
 have s02 := s1.trans s2
 rw [eyeG_acts]
 unfold z75_raw
 rw [e1, Option.bind_some, ea, Option.bind_some]
 dsimp only
 rw [e2, Option.bind_some]
 dsimp only
 have i1 := s1.I
 have i2 := s2.I
 cases b with
 | true => exact ⟨_, x2, rfl, s02, fun hz => ⟨by have := (t2 rfl).2.2; omega, rfl, by simp, fun k hk => by cases hk⟩⟩
 | false =>
  have h0 := s02.inv.1
  have h1 := s02.inv.2.2.1
  obtain ⟨l, x3, e3, q3, s3, o3⟩ := acts_l0_tot (eyeG q).2.2.1 x2.Deep (fun x hx _ st => expr_tot q (by omega) st x hx) x2 20000 true x2 [] ⟨PStep.refl s2.inv, by simp, fun _ k hk => by cases hk⟩ rfl (by simp; omega) (fun _ => by simp)
  rw [cond_false, e3]
  refine ⟨_, x3, rfl, s02.trans s3, fun hz => ⟨?_, rfl, ?_, q3.2.2 hz⟩⟩
  ·have := o3 rfl hz
   omega
  ·have h2 := q3.2.1
   have h3 := s3.inv.2.1
   have h4 := s3.inv.2.2.1
   show l.length ≤ 1000000
   omega
theorem rest_tot (q : Nat) (hq : 168 ≤ q) (x : Eye) (hi : PInv x) (n : Node) (b : Bool) (hk : n.Kids = []) (hnum : n.Num = 0) (hb : n.Kind = (if b then 10 else 9)) : ∃ n' x', (eyeG q).2.2.2.2.2.2.1 x n b = some (x', n') ∧ PStep x x' ∧ (x'.F.E = 0 → x.I < x'.I ∧ ∀ r, wfS 16384 (r + 1) n') := by
 obtain ⟨q, rfl⟩ : ∃ p, q = p + 1 := ⟨q - 1, by omega⟩
 obtain ⟨u, x1, e1, s1, f1⟩ := (expr_tot q (by omega) true x hi).wf hi
 obtain ⟨m, x2, e2, s2, f2⟩ := eyematch_tot q (by omega) x1 s1.inv
 have s02 := s1.trans s2
 obtain ⟨c, x3, e3, s3, t3, u3⟩ := Eat_tot s2.inv (ByteArray.mk #[112, 114, 105, 111])
 have s03 := s02.trans s3
 rw [eyeG_rest]
 unfold z76_raw
 rw [e1, Option.bind_some, hk, fitO_ok _ (by simp)]
 dsimp only
 rw [e2, Option.bind_some, fitO_ok _ (by simp)]
 dsimp only
 rw [e3, Option.bind_some]
 dsimp only
 have grow : ∀ {y : Eye}, PStep x1 y → y.F.E = 0 → x.I < y.I := by
  intro y s hz
  have := (f1 (s.ok hz)).1
  have := s.I
  omega
 have wu : ∀ {y : Eye}, PStep x1 y → y.F.E = 0 → wfE 16384 u := fun s hz => (f1 (s.ok hz)).2
 have wm : ∀ {y : Eye}, PStep x2 y → y.F.E = 0 → wfM 16384 m := fun s hz => (f2 (s.ok hz)).2
 cases c with
 | true =>
  obtain ⟨p, x4, e4, s4, f4⟩ := (expr_tot q (by omega) true x3 s3.inv).wf s3.inv
  rw [cond_true, e4, Option.bind_some, fitO_ok _ (by simp)]
  dsimp only
  cases b with
  | true =>
   obtain ⟨a, x5, e5, s5, f5⟩ := eyeacts_tot q (by omega) x4 s4.inv
   obtain ⟨x6, e6, s6, f6⟩ := Must_tot s5.inv (ByteArray.mk #[59])
   rw [cond_true, e5, Option.bind_some, fitO_ok _ (by simp)]
   dsimp only
   rw [e6]
   have s46 := s5.trans s6
   have s36 := s4.trans s46
   have s26 := s3.trans s36
   refine ⟨_, x6, rfl, s02.trans s26, fun hz => ⟨grow (s2.trans s26) hz, fun r => ?_⟩⟩
   exact .inr (.inr (.inr (.inr (.inr (.inr (.inl ⟨hb, u, m, [p], a, rfl, wu (s2.trans s26) hz, wm s26 hz, (f5 (s6.ok hz)).2, .inr ⟨rfl, p, rfl, (f4 (s46.ok hz)).2⟩⟩))))))
  | false =>
   obtain ⟨x6, e6, s6, f6⟩ := Must_tot s4.inv (ByteArray.mk #[59])
   rw [cond_false, e6]
   have s36 := s4.trans s6
   have s26 := s3.trans s36
   refine ⟨_, x6, rfl, s02.trans s26, fun hz => ⟨grow (s2.trans s26) hz, fun r => ?_⟩⟩
   exact .inr (.inr (.inr (.inr (.inr (.inl ⟨hb, u, m, [p], rfl, wu (s2.trans s26) hz, wm s26 hz, .inr ⟨rfl, p, rfl, (f4 (s6.ok hz)).2⟩⟩)))))
 | false =>
  rw [cond_false]
  have hn1 : n.Num ≠ 1 := by rw [hnum]; decide
  cases b with
  | true =>
   obtain ⟨a, x5, e5, s5, f5⟩ := eyeacts_tot q (by omega) x3 s3.inv
   obtain ⟨x6, e6, s6, f6⟩ := Must_tot s5.inv (ByteArray.mk #[59])
   rw [cond_true, e5, Option.bind_some, fitO_ok _ (by simp)]
   dsimp only
   rw [e6]
   have s36 := s5.trans s6
   have s26 := s3.trans s36
   refine ⟨_, x6, rfl, s02.trans s26, fun hz => ⟨grow (s2.trans s26) hz, fun r => ?_⟩⟩
   exact .inr (.inr (.inr (.inr (.inr (.inr (.inl ⟨hb, u, m, [], a, rfl, wu (s2.trans s26) hz, wm s26 hz, (f5 (s6.ok hz)).2, .inl ⟨hn1, rfl⟩⟩))))))
  | false =>
   obtain ⟨x6, e6, s6, f6⟩ := Must_tot s3.inv (ByteArray.mk #[59])
   rw [cond_false, e6]
   have s26 := s3.trans s6
   refine ⟨_, x6, rfl, s02.trans s26, fun hz => ⟨grow (s2.trans s26) hz, fun r => ?_⟩⟩
   exact .inr (.inr (.inr (.inr (.inr (.inl ⟨hb, u, m, [], rfl, wu (s2.trans s26) hz, wm s26 hz, .inl ⟨hn1, rfl⟩⟩)))))
theorem block_l0_tot (g : Eye → Option (Node × Eye)) (P : Node → Prop) (D : Int) (hg : ∀ x, PInv x → x.Deep = D → Mat P x (g x)) (x0 : Eye) : ∀ (m : Nat) (x : Eye) (l : List Node), Lst P x0 x l → x.Deep = D → 1 ≤ m → (x.F.E = 0 → x.L.length + 2 ≤ m + x.I.toNat ∧ l.length ≤ x.I.toNat) →
  ∃ l' x', z35_l0 g m x.L x.I x.End x.Deep x.F.E x.F.At l = some (x'.L, x'.I, x'.End, x'.Deep, x'.F.E, x'.F.At, l') ∧ Lst P x0 x' l' ∧ PStep x x'
 | 0, x, l, hs, hD, hm, hl => by omega
 | m + 1, x, l, hs, hD, hm, hl => by
  have hi := hs.1.inv
  rw [z35_l0]
  cases hE : (x.F.E == 0) with
  | false => exact ⟨l, x, rfl, hs, PStep.refl hi⟩
  | true =>
   have hE0 : x.F.E = 0 := by simpa using hE
   obtain ⟨h1, h2⟩ := hl hE0
   obtain ⟨s, es, _, _⟩ := See_tot hi
   rw [cond_true, es, Option.bind_some]
   dsimp only
   cases hb : (s != (ByteArray.mk #[125])) with
   | false => exact ⟨l, x, rfl, hs, PStep.refl hi⟩
   | true =>
    obtain ⟨n, x1, e1, s1, f1⟩ := hg x hi hD
    rw [cond_true, e1, Option.bind_some]
    dsimp only
    have hI := hi.1
    have hI1 := hi.2.1
    have hI2 := hi.2.2.1
    have hL := s1.L
    rw [fitO_ok _ (by simp; omega)]
    obtain ⟨l', x', e', q', p'⟩ := block_l0_tot g P D hg x0 m x1 (l ++ [n]) (hs.add h2 s1 fun hz => (f1 hz).2) (by rw [s1.D]; exact hD) (by omega) (fun hz => by
     have := (f1 hz).1
     rw [hL, List.length_append, List.length_singleton]
     omega)
    exact ⟨l', x', e', q', s1.trans p'⟩
theorem block_tot (q : Nat) (P : Node → Prop) (x : Eye) (hi : PInv x) (hg : ∀ y, PInv y → y.Deep = x.Deep → Mat P y ((eyeG q).2.2.2.2.2.2.2.1 y)) : Mat (fun n => n.Kind = 7 ∧ ∀ k ∈ n.Kids, P k) x ((eyeG (q + 1)).2.2.2.2.2.2.2.2 x) := by
 obtain ⟨a, ea⟩ := At_tot hi
 obtain ⟨x1, e1, s1, f1⟩ := Must_tot hi (ByteArray.mk #[123])
 rw [eyeG_block]
 unfold z35_raw
 rw [ea, Option.bind_some]
 dsimp only
 rw [e1, Option.bind_some]
 have h0 := s1.inv.1
 have h1 := s1.inv.2.2.1
 obtain ⟨l, x2, e2, q2, s2⟩ := block_l0_tot (eyeG q).2.2.2.2.2.2.2.1 P x.Deep hg x1 20000 x1 [] ⟨PStep.refl s1.inv, by simp, fun _ k hk => by cases hk⟩ s1.D (by omega) (fun _ => ⟨by omega, by simp⟩)
 obtain ⟨x3, e3, s3, f3⟩ := Must_tot s2.inv (ByteArray.mk #[125])
 rw [e2, Option.bind_some]
 dsimp only
 rw [e3]
 refine ⟨_, x3, rfl, s1.trans (s2.trans s3), fun hz => ⟨?_, rfl, q2.2.2 (s3.ok hz)⟩⟩
 have := f3 hz
 have := s2.I
 have := s1.I
 omega
theorem stmt_grp : ∀ (h q : Nat), 2 * h + 171 ≤ q → ∀ x, PInv x → (40 - x.Deep).toNat ≤ h → Mat (wfS 16384 h) x ((eyeG q).2.2.2.2.2.2.2.1 x)
 | h, 0, hq, x, hi, hh => by omega
 | 0, q + 1, hq, x, hi, hh => by
  obtain ⟨b, x1, e1, f1, t1⟩ := down_tot hi
  rw [eyeG_stmt]
  unfold z56_raw
  rw [e1, Option.bind_some]
  dsimp only
  cases b with
  | true =>
   have := (t1 rfl).2
   omega
  | false => exact ⟨_, x1, rfl, (f1 rfl).1, fun hz => absurd hz (f1 rfl).2⟩
 | h + 1, q + 1, hq, x, hi, hh => by
  obtain ⟨b, x1, e1, f1, t1⟩ := down_tot hi
  rw [eyeG_stmt]
  unfold z56_raw
  rw [e1, Option.bind_some]
  dsimp only
  cases b with
  | false => exact ⟨_, x1, rfl, (f1 rfl).1, fun hz => absurd hz (f1 rfl).2⟩
  | true =>
   obtain ⟨hx1, hd⟩ := t1 rfl
   have i1 : PInv x1 := by rw [hx1]; exact deeper hi hd
   have hI1 : x1.I = x.I := by rw [hx1]
   have hD1 : x1.Deep = x.Deep + 1 := by rw [hx1]
   have fin : ∀ (n : Node) (y : Eye), PStep x1 y → (y.F.E = 0 → x1.I < y.I ∧ wfS 16384 (h + 1) n) → Mat (wfS 16384 (h + 1)) x (some (n, ({ y with Deep := IntKind.i64.wrap (y.Deep - 1) } : Eye))) := by
    intro n y s f
    refine ⟨n, _, rfl, back_step hi hd (by rw [← hx1]; exact s), fun hz => ?_⟩
    have := f hz
    rw [hI1] at this
    exact this
   have blk : ∀ y, PStep x1 y → Mat (fun n => n.Kind = 7 ∧ ∀ k ∈ n.Kids, wfS 16384 h k) y ((eyeG q).2.2.2.2.2.2.2.2 y) := by
    intro y s
    obtain ⟨p, rfl⟩ : ∃ p, q = p + 1 := ⟨q - 1, by omega⟩
    refine block_tot p (wfS 16384 h) y s.inv fun z hz hzD => ?_
    refine stmt_grp h p (by omega) z hz ?_
    rw [hzD, s.D, hD1]
    have := hi.2.2.2.1
    omega
   have ex : ∀ y, PInv y → ∃ n y', (eyeG q).2.2.1 y true = some (n, y') ∧ PStep y y' ∧ (y'.F.E = 0 → y.I < y'.I ∧ wfE 16384 n) := fun y hy => (expr_tot q (by omega) true y hy).wf hy
   obtain ⟨a, ea⟩ := At_tot i1
   obtain ⟨sv, es, _, _⟩ := See_tot i1
   rw [Bool.not_true, cond_false, ea, Option.bind_some]
   dsimp only
   rw [es, Option.bind_some]
   dsimp only
   cases hb : (sv == (ByteArray.mk #[123])) with
   | true =>
    obtain ⟨n, x2, e2, s2, f2⟩ := blk x1 (PStep.refl i1)
    rw [cond_true, e2, Option.bind_some]
    dsimp only
    exact fin _ _ s2 fun hz => ⟨(f2 hz).1, .inl (f2 hz).2⟩
   | false =>
   obtain ⟨b2, x2, e2, s2, t2, u2⟩ := Eat_tot i1 (ByteArray.mk #[105, 102])
   have j2 := s2.I
   rw [cond_false, e2, Option.bind_some]
   dsimp only
   cases b2 with
   | true =>
    obtain ⟨n, x3, e3, s3, f3⟩ := ex x2 s2.inv
    have s13 := s2.trans s3
    obtain ⟨bl, x4, e4, s4, f4⟩ := blk x3 s13
    obtain ⟨b5, x5, e5, s5, t5, u5⟩ := Eat_tot s4.inv (ByteArray.mk #[101, 108, 115, 101])
    have s14 := s13.trans s4
    have s15 := s14.trans s5
    rw [cond_true, e3, Option.bind_some, fitO_ok _ (by simp)]
    dsimp only
    rw [e4, Option.bind_some, fitO_ok _ (by simp)]
    dsimp only
    rw [e5, Option.bind_some]
    dsimp only
    cases b5 with
    | true =>
     obtain ⟨b6, x6, e6, s6, f6⟩ := blk x5 s15
     rw [cond_true, e6, Option.bind_some, fitO_ok _ (by simp)]
     dsimp only
     refine fin _ _ (s15.trans s6) fun hz => ⟨?_, ?_⟩
     ·have := (f3 ((s4.trans (s5.trans s6)).ok hz)).1
      have := (s4.trans (s5.trans s6)).I
      omega
     ·exact .inr (.inr (.inl ⟨rfl, n, bl, [b6], rfl, (f3 ((s4.trans (s5.trans s6)).ok hz)).2, (f4 ((s5.trans s6).ok hz)).2, .inr ⟨b6, rfl, (f6 hz).2⟩⟩))
    | false =>
     rw [cond_false]
     refine fin _ _ s15 fun hz => ⟨?_, ?_⟩
     ·have := (f3 ((s4.trans s5).ok hz)).1
      have := (s4.trans s5).I
      omega
     ·exact .inr (.inr (.inl ⟨rfl, n, bl, [], rfl, (f3 ((s4.trans s5).ok hz)).2, (f4 (s5.ok hz)).2, .inl rfl⟩))
   | false =>
   obtain ⟨b3, x3, e3, s3, t3, u3⟩ := Eat_tot s2.inv (ByteArray.mk #[119, 104, 105, 108, 101])
   have s13 := s2.trans s3
   have j3 := s13.I
   rw [cond_false, e3, Option.bind_some]
   dsimp only
   cases b3 with
   | true =>
    obtain ⟨n, x4, e4, s4, f4⟩ := ex x3 s3.inv
    have s14 := s13.trans s4
    obtain ⟨bl, x5, e5, s5, f5⟩ := blk x4 s14
    rw [cond_true, e4, Option.bind_some, fitO_ok _ (by simp)]
    dsimp only
    rw [e5, Option.bind_some, fitO_ok _ (by simp)]
    dsimp only
    refine fin _ _ (s14.trans s5) fun hz => ⟨?_, ?_⟩
    ·have := (f4 (s5.ok hz)).1
     have := s5.I
     omega
    ·exact .inr (.inr (.inr (.inl ⟨rfl, n, bl, rfl, (f4 (s5.ok hz)).2, (f5 hz).2⟩)))
   | false =>
   obtain ⟨b4, x4, e4, s4, t4, u4⟩ := Eat_tot s3.inv (ByteArray.mk #[97, 98, 111, 114, 116])
   have s14 := s13.trans s4
   have j4 := s14.I
   rw [cond_false, e4, Option.bind_some]
   dsimp only
   cases b4 with
   | true =>
    obtain ⟨x5, e5, s5, f5⟩ := Must_tot s4.inv (ByteArray.mk #[59])
    rw [cond_true, e5, Option.bind_some]
    refine fin _ _ (s14.trans s5) fun hz => ⟨?_, ?_⟩
    ·have := f5 hz
     omega
    ·exact .inr (.inr (.inr (.inr (.inr (.inr (.inr ⟨rfl, rfl⟩))))))
   | false =>
   obtain ⟨b5, x5, e5, s5, t5, u5⟩ := Eat_tot s4.inv (ByteArray.mk #[97, 100, 100])
   have s15 := s14.trans s5
   have j5 := s15.I
   rw [cond_false, e5, Option.bind_some]
   dsimp only
   cases b5 with
   | true =>
    obtain ⟨u, x6, e6, s6, f6⟩ := ex x5 s5.inv
    obtain ⟨mm, x7, e7, s7, f7⟩ := eyematch_tot q (by omega) x6 s6.inv
    obtain ⟨x8, e8, s8, f8⟩ := Must_tot s7.inv (ByteArray.mk #[112, 114, 105, 111])
    obtain ⟨p, x9, e9, s9, f9⟩ := ex x8 s8.inv
    obtain ⟨gi, xa, e10, s10, f10⟩ := given_tot q (by omega) (ByteArray.mk #[105, 100, 108, 101]) a x9 s9.inv
    obtain ⟨gh, xb, e11, s11, f11⟩ := given_tot q (by omega) (ByteArray.mk #[104, 97, 114, 100]) a xa s10.inv
    obtain ⟨b12, xc, e12, s12, t12, u12⟩ := Eat_tot s11.inv (ByteArray.mk #[99, 104, 101, 99, 107])
    obtain ⟨ac, xd, e13, s13, f13⟩ := eyeacts_tot q (by omega) xc s12.inv
    obtain ⟨xe, e14, s14, f14⟩ := Must_tot s13.inv (ByteArray.mk #[59])
    have r13 := s13.trans s14
    have r12 := s12.trans r13
    have r11 := s11.trans r12
    have r10 := s10.trans r11
    have r9 := s9.trans r10
    have r8 := s8.trans r9
    have r7 := s7.trans r8
    have r6 := s6.trans r7
    have key : xe.F.E = 0 → x1.I < xe.I ∧ ∀ b : Int, wfS 16384 (h + 1) ({ Kind := 8, Text := ⟨#[]⟩, Num := b, Kids := [u, mm, p, gi, gh, ac], At := a } : Node) := fun hz => by
     refine ⟨?_, fun b => .inr (.inr (.inr (.inr (.inl ⟨rfl, u, mm, p, gi, gh, ac, rfl, (f6 (r7.ok hz)).2, (f7 (r8.ok hz)).2, (f9 (r10.ok hz)).2, f10 (r11.ok hz), f11 (r12.ok hz), (f13 (s14.ok hz)).2⟩))))⟩
     have := (f6 (r7.ok hz)).1
     have := r7.I
     omega
    rw [cond_true, e6, Option.bind_some, fitO_ok _ (by simp)]
    dsimp only
    rw [e7, Option.bind_some, fitO_ok _ (by simp)]
    dsimp only
    rw [e8, Option.bind_some, e9, Option.bind_some, fitO_ok _ (by simp)]
    dsimp only
    rw [e10, Option.bind_some, fitO_ok _ (by simp)]
    dsimp only
    rw [e11, Option.bind_some, fitO_ok _ (by simp)]
    dsimp only
    rw [e12, Option.bind_some]
    dsimp only
    cases b12 with
    | true =>
     rw [cond_true, e13, Option.bind_some, fitO_ok _ (by simp)]
     dsimp only
     rw [e14, Option.bind_some]
     exact fin _ _ (s15.trans r6) fun hz => ⟨(key hz).1, (key hz).2 1⟩
    | false =>
     rw [cond_false, e13, Option.bind_some, fitO_ok _ (by simp)]
     dsimp only
     rw [e14, Option.bind_some]
     exact fin _ _ (s15.trans r6) fun hz => ⟨(key hz).1, (key hz).2 0⟩
   | false =>
   obtain ⟨b6, x6, e6, s6, t6, u6⟩ := Eat_tot s5.inv (ByteArray.mk #[100, 101, 108])
   have s16 := s15.trans s6
   have j6 := s16.I
   rw [cond_false, e6, Option.bind_some]
   dsimp only
   cases b6 with
   | true =>
    obtain ⟨n, x7, e7, s7, f7⟩ := rest_tot q (by omega) x6 s6.inv ({ Kind := 9, Text := ⟨#[]⟩, Num := 0, Kids := ([] : List Node), At := a } : Node) false rfl rfl rfl
    rw [cond_true, e7, Option.bind_some]
    dsimp only
    refine fin _ _ (s16.trans s7) fun hz => ⟨?_, (f7 hz).2 h⟩
    have := (f7 hz).1
    omega
   | false =>
   obtain ⟨b7, x7, e7, s7, t7, u7⟩ := Eat_tot s6.inv (ByteArray.mk #[109, 111, 100])
   have s17 := s16.trans s7
   have j7 := s17.I
   rw [cond_false, e7, Option.bind_some]
   dsimp only
   cases b7 with
   | true =>
    obtain ⟨n, x8, e8, s8, f8⟩ := rest_tot q (by omega) x7 s7.inv ({ Kind := 10, Text := ⟨#[]⟩, Num := 0, Kids := ([] : List Node), At := a } : Node) true rfl rfl rfl
    rw [cond_true, e8, Option.bind_some]
    dsimp only
    refine fin _ _ (s17.trans s8) fun hz => ⟨?_, (f8 hz).2 h⟩
    have := (f8 hz).1
    omega
   | false =>
    obtain ⟨nm, x8, e8, s8, f8⟩ := Name_tot s7.inv
    obtain ⟨x9, e9, s9, f9⟩ := Must_tot s8.inv (ByteArray.mk #[61])
    obtain ⟨n, xa, e10, s10, f10⟩ := ex x9 s9.inv
    obtain ⟨xb, e11, s11, f11⟩ := Must_tot s10.inv (ByteArray.mk #[59])
    rw [cond_false, e8, Option.bind_some]
    dsimp only
    rw [e9, Option.bind_some, e10, Option.bind_some, fitO_ok _ (by simp)]
    dsimp only
    rw [e11, Option.bind_some]
    refine fin _ _ (s17.trans (s8.trans (s9.trans (s10.trans s11)))) fun hz => ⟨?_, ?_⟩
    ·have := f11 hz
     have := (s17.trans (s8.trans (s9.trans s10))).I
     omega
    ·exact .inr (.inl ⟨rfl, n, rfl, (f10 (s11.ok hz)).2⟩)
end Go.Proofs.Yteioljlgcagnnaa
namespace Go.Proofs.Yteioljlgcagnnaa
open Go.Sh
def LexOk : Sum (List Token) (List Token × Fault) → Prop
 | .inl o => o.length ≤ 16384 ∧ ∀ t ∈ o, t.Text.size ≤ 16384
 | .inr r => r.2.E ≠ 0
theorem tw_len {α : Type} (p : α → Bool) (l : List α) : (l.takeWhile p).length + (l.dropWhile p).length = l.length := by
 rw [← List.length_append, List.takeWhile_append_dropWhile]
theorem lexT_tot : ∀ (m : Nat) (l : List UInt8) (i : Nat) (out : List Token), l.length < m → l.length ≤ 16384 → out.length + l.length ≤ 16384 → (∀ t ∈ out, t.Text.size ≤ 16384) → ∃ v, lexT m l i out = some v ∧ LexOk v
 | 0, l, i, out, h, _, _, _ => by omega
 | m + 1, [], i, out, h, h1, h2, h3 => ⟨_, rfl, by simpa using h2, h3⟩
 | m + 1, c :: l', i, out, h, h1, h2, h3 => by
  rw [List.length_cons] at h h1 h2
  rw [lexT]
  cases hw : lWs c with
  | true => exact lexT_tot m l' (i + 1) out (by omega) (by omega) (by omega) h3
  | false =>
   rw [cond_false]
   cases hc : ((c.toNat : Nat) : Int) == 35 with
   | true =>
    rw [cond_true]
    have hd : (c :: l').dropWhile (fun d => ((d.toNat : Nat) : Int) != 10) = l'.dropWhile (fun d => ((d.toNat : Nat) : Int) != 10) := by
     rw [List.dropWhile_cons]
     have : ((c.toNat : Nat) : Int) = 35 := by simpa using hc
     rw [this]
     rfl
    rw [hd]
    have := tw_len (fun d : UInt8 => ((d.toNat : Nat) : Int) != 10) l'
    exact lexT_tot m _ _ out (by omega) (by omega) (by omega) h3
   | false =>
    rw [cond_false]
    cases hl : lLet c || lDig c with
    | true =>
     rw [cond_true]
     have hin : lIn c c = true := by
      rw [lIn, Bool.and_self, Bool.or_comm]
      exact hl
     have hlen := tw_len (lIn c) (c :: l')
     have hpos : 1 ≤ ((c :: l').takeWhile (lIn c)).length := by
      rw [List.takeWhile_cons, hin]
      simp
     rw [List.length_cons] at hlen
     have hsz : (⟨((c :: l').takeWhile (lIn c)).toArray⟩ : ByteArray).size ≤ 16384 := by
      rw [ba_sz]; omega
     obtain ⟨b1, e1, _⟩ := Word_tot _ hsz
     obtain ⟨b2, e2, _⟩ := Digits_tot _ hsz
     have go := lexT_tot m ((c :: l').dropWhile (lIn c)) (i + ((c :: l').takeWhile (lIn c)).length) (out ++ [({ Text := ⟨((c :: l').takeWhile (lIn c)).toArray⟩, At := i } : Token)]) (by omega) (by omega) (by rw [List.length_append, List.length_singleton]; omega) (fun t ht => by
      rcases List.mem_append.1 ht with ht | ht
      ·exact h3 t ht
      ·rw [List.mem_singleton.1 ht]; exact hsz)
     rw [e1, Option.bind_some, e2, Option.bind_some]
     cases b1 with
     | true => exact go
     | false =>
      cases b2 with
      | true => exact go
      | false => exact ⟨_, rfl, show (15 : Int) ≠ 0 by decide⟩
    | false =>
     rw [cond_false]
     cases hs : lSign (c :: l') with
     | none => exact ⟨_, rfl, show (15 : Int) ≠ 0 by decide⟩
     | some g =>
      obtain ⟨g1, g2, g3⟩ := lSign_len hs
      have g4 := g3.length_le
      rw [List.length_cons] at g4
      exact lexT_tot m _ _ _ (by rw [List.length_drop, List.length_cons]; omega) (by rw [List.length_drop, List.length_cons]; omega) (by rw [List.length_append, List.length_singleton, List.length_drop, List.length_cons]; omega) (fun t ht => by
       rcases List.mem_append.1 ht with ht | ht
       ·exact h3 t ht
       ·rw [List.mem_singleton.1 ht]
        show (⟨g.toArray⟩ : ByteArray).size ≤ 16384
        rw [ba_sz]; omega)
def partP (k : Node) : Prop := (k.Kind = 2 ∧ k.Kids = []) ∨ (k.Kind = 3 ∧ ∀ s ∈ k.Kids, wfS 16384 40 s)
theorem Parse_l0_tot (tk : (List Token) × Fault) (x0 : Eye) : ∀ (m : Nat) (x : Eye) (l : List Node), Lst partP x0 x l → x.L = tk.1 → x.Deep = 0 → 1 ≤ m → (x.F.E = 0 → x.L.length + 2 ≤ m + x.I.toNat ∧ l.length ≤ x.I.toNat) →
  ∃ l' x', z20_l0 tk m x.L x.I x.End x.Deep x.F.E x.F.At l = some (x'.L, x'.I, x'.End, x'.Deep, x'.F.E, x'.F.At, l') ∧ Lst partP x0 x' l' ∧ PStep x x'
 | 0, x, l, hs, hL, hD, hm, hl => by omega
 | m + 1, x, l, hs, hL, hD, hm, hl => by
  have hi := hs.1.inv
  rw [z20_l0]
  cases hE : ((x.F.E == 0) && (decide (x.I < (((List.map Token.av tk.1).length : Nat) : Int)))) with
  | false => exact ⟨l, x, rfl, hs, PStep.refl hi⟩
  | true =>
   rw [Bool.and_eq_true, beq_iff_eq, decide_eq_true_eq, List.length_map, ← hL] at hE
   obtain ⟨hE0, hIl⟩ := hE
   obtain ⟨h1, h2⟩ := hl hE0
   have hI := hi.1
   have hI1 := hi.2.1
   have hI2 := hi.2.2.1
   have fin : ∀ (x1 : Eye) (n : Node), PStep x x1 → (x1.F.E = 0 → x.I < x1.I ∧ partP n) →
     ∃ l' x', (fitO (l.length + [n].length) 64 (z20_l0 tk m x1.L x1.I x1.End x1.Deep x1.F.E x1.F.At (l ++ [n]))) = some (x'.L, x'.I, x'.End, x'.Deep, x'.F.E, x'.F.At, l') ∧ Lst partP x0 x' l' ∧ PStep x x' := by
    intro x1 n s1 f1
    have hL1 := s1.L
    rw [fitO_ok _ (by simp; omega)]
    obtain ⟨l', x', e', q', p'⟩ := Parse_l0_tot tk x0 m x1 (l ++ [n]) (hs.add h2 s1 fun hz => (f1 hz).2) (by rw [hL1]; exact hL) (by rw [s1.D]; exact hD) (by omega) (fun hz => by
     have := (f1 hz).1
     rw [hL1, List.length_append, List.length_singleton]
     omega)
    exact ⟨l', x', e', q', s1.trans p'⟩
   obtain ⟨a, ea⟩ := At_tot hi
   obtain ⟨b1, x1, e1, s1, t1, u1⟩ := Eat_tot hi (ByteArray.mk #[118, 97, 114])
   rw [cond_true, ea, Option.bind_some]
   dsimp only
   rw [e1, Option.bind_some]
   dsimp only
   cases b1 with
   | true =>
    obtain ⟨nm, x2, e2, s2, f2⟩ := Name_tot s1.inv
    obtain ⟨x3, e3, s3, f3⟩ := Must_tot s2.inv (ByteArray.mk #[61])
    obtain ⟨b4, x4, e4, s4, t4, u4⟩ := Eat_tot s3.inv (ByteArray.mk #[45])
    obtain ⟨v5, x5, e5, s5, f5, _⟩ := Int_tot s4.inv
    obtain ⟨x6, e6, s6, f6⟩ := Must_tot s5.inv (ByteArray.mk #[59])
    have s26 := s2.trans (s3.trans (s4.trans (s5.trans s6)))
    have hI6 := s26.I
    have hx1 := (t1 rfl).2.2
    rw [cond_true, e2, Option.bind_some]
    dsimp only
    rw [e3, Option.bind_some, e4, Option.bind_some]
    dsimp only
    rw [e5, Option.bind_some]
    dsimp only
    rw [e6, Option.bind_some, Option.bind_some]
    cases b4 with
    | true => exact fin x6 _ (s1.trans s26) fun hz => ⟨by omega, .inl ⟨rfl, rfl⟩⟩
    | false => exact fin x6 _ (s1.trans s26) fun hz => ⟨by omega, .inl ⟨rfl, rfl⟩⟩
   | false =>
    obtain ⟨x2, e2, s2, f2⟩ := Must_tot s1.inv (ByteArray.mk #[111, 110])
    obtain ⟨nm, x3, e3, s3, f3⟩ := Name_tot s2.inv
    obtain ⟨n, x4, e4, s4, f4⟩ := block_tot 399 (wfS 16384 40) x3 s3.inv fun y hy hyD => stmt_grp 40 399 (by decide) y hy (by have := hy.2.2.2.1; omega)
    have s14 := s1.trans (s2.trans (s3.trans s4))
    rw [cond_false, e2, Option.bind_some, e3, Option.bind_some]
    dsimp only
    rw [e4, Option.bind_some]
    dsimp only
    refine fin x4 _ s14 fun hz => ⟨?_, .inr ⟨rfl, (f4 hz).2.2⟩⟩
    have := (f4 hz).1
    have := (s1.trans (s2.trans s3)).I
    omega
theorem Parse_tot (s : ByteArray) : ∃ n f, z20_raw 20000 s = some (n, f) ∧ (f.E = 0 → n.Kind = 1 ∧ n.Kids.length ≤ 16385 ∧ (∀ k ∈ n.Kids, partP k) ∧ s.size ≤ 16384) := by
 unfold z20_raw
 by_cases hs : s.size ≤ 16384
 ·rw [Scan_eq s hs]
  obtain ⟨v, ev, ov⟩ := lexT_tot 20000 (bl s) 0 [] (by rw [← bl_size]; omega) (by rw [← bl_size]; omega) (by rw [← bl_size]; simpa using hs) (fun t ht => by cases ht)
  rw [ev]
  cases v with
  | inr r =>
   have hr : (r.2.E != 0) = true := bne_iff_ne.2 ov
   refine ⟨{ Kind := 0, Text := ⟨#[]⟩, Num := 0, Kids := [], At := 0 }, r.2, ?_, fun h => absurd h ov⟩
   show (bif (r.2.E != 0) then _ else _) = _
   rw [hr]
   rfl
  | inl o =>
   have hi : PInv ({ L := o, I := 0, End := ((s.size : Nat) : Int), Deep := 0, F := { E := 0, At := 0 } } : Eye) := ⟨Int.le_refl _, by show (0 : Int) ≤ ((o.length : Nat) : Int); omega, ov.1, Int.le_refl _, by show (0 : Int) ≤ 40; decide, ov.2⟩
   have h1 := ov.1
   obtain ⟨l, x, e, q, st⟩ := Parse_l0_tot (o, ({ E := 0, At := 0 } : Fault)) _ 20000 _ [] ⟨PStep.refl hi, by simp, fun _ k hk => by cases hk⟩ rfl rfl (by decide) (fun _ => ⟨by show o.length + 2 ≤ 20000 + (0 : Int).toNat; omega, by simp⟩)
   show ∃ n f, ((z20_l0 (o, ({ E := 0, At := 0 } : Fault)) 20000 o 0 ((s.size : Nat) : Int) 0 0 0 ([] : List Node)).bind fun v => _) = some (n, f) ∧ _
   rw [e, Option.bind_some]
   dsimp only
   cases hz : x.F.E != 0 with
   | true => exact ⟨_, _, rfl, fun h => by rw [show x.F.E = 0 from h] at hz; cases hz⟩
   | false =>
    have hz : x.F.E = 0 := by simpa using hz
    refine ⟨_, _, rfl, fun _ => ⟨rfl, ?_, q.2.2 hz, hs⟩⟩
    have := q.2.1
    have := x.I.toNat_of_nonneg q.1.inv.1
    have := q.1.inv.2.1
    have := q.1.inv.2.2.1
    show l.length ≤ 16385
    omega
 ·refine ⟨{ Kind := 0, Text := ⟨#[]⟩, Num := 0, Kids := [], At := 0 }, { E := 13, At := 16384 }, ?_, fun h => absurd h (show (13 : Int) ≠ 0 by decide)⟩
  rw [z29_raw, decide_eq_true (show ((s.size : Nat) : Int) > 16384 by omega)]
  rfl
end Go.Proofs.Yteioljlgcagnnaa
namespace Go.Proofs.Yteioljlgcagnnaa
open Go.Sh
structure Run where
 Vars : List Var
 Ev : Event
 Owner : Int
 Fuel : Int
 Out : List Change
 E : Int
 deriving DecidableEq, Inhabited
def z65 (m1 : Run) (e1 : Int) : Run :=
 (bif (m1.E == 0) then
  ({ m1 with E := e1 } : Run)
 else
  m1)
def z41 (m1 : Run) : Bool × Run :=
 (bif (m1.E != 0) then
  (false, m1)
 else
  (bif (m1.Fuel == 0) then
   (false, ({ m1 with E := 11 } : Run))
  else
   (true, ({ m1 with Fuel := (IntKind.i64.wrap (m1.Fuel - 1)) } : Run))))
def z86 (b : Bool) : Int :=
 (bif b then
  1
 else
  0)
noncomputable def z46_F : Go.Sh.Fn := ⟨46, bodyOf Try.f46, 13⟩
def z46_raw (field : Int) : Option (Int) :=
 (bif ((decide (field < 0)) || (decide (field > 11))) then
  some 0
 else
  (ixO [16, 48, 48, 16, 12, 4, 32, 32, 8, 8, 12, 12] field).bind fun x =>
  some x)
theorem z46_walk (field : Int) (r : Int) (H : z46_raw field = some r) : ACalls Try.prog tab.S 46 [.sc (.int .i64 field)] [] (.sc (.int .i64 r)) [] := by
 refine .of_AX z46_F Try.func46 fun c0 hc0 => ?_
 rw [z46_raw] at H
 refine .sg 4 [0] (.rg (.sg 3 [0,5] (.mx 1 [0,8] (.dn (.cd ((decide (field < 0)) || (decide (field > 11))) H (fun hb H => ?_) (fun hb H => ?_))))))
 ·
  refine .sg 2 [2] ?_
  obtain rfl := Option.some.inj H
  exact .ret Try.func46 hc0
 ·
  refine .sg 2 [0] (.rg (.sg 2 [9,10] (bndO H fun x hv H => (.xi [11] (intA .i64) hv (.sg 2 [2] (.dn ?_))))))
  obtain rfl := Option.some.inj H
  exact .ret Try.func46 hc0
theorem z46_ok (n : Int) : ACalls Try.prog tab.S 46 [.sc (.int .i64 n)] [] (.sc (.int .i64 (sizeT n))) [] := by
 refine z46_walk n (sizeT n) ?_
 rw [z46_raw]
 rcases sizeT_cases n with ⟨h, e⟩ | ⟨h1, h2, k, rfl, hk, e⟩
 ·rw [e]
  have : ((decide (n < 0)) || (decide (n > 11))) = true := by
   rw [Bool.or_eq_true, decide_eq_true_eq, decide_eq_true_eq]; omega
  rw [this]
  rfl
 ·rw [e, decide_eq_false (by omega), decide_eq_false (by omega)]
  match k, hk with
  | 0, _ | 1, _ | 2, _ | 3, _ | 4, _ | 5, _ | 6, _ | 7, _ | 8, _ | 9, _ | 10, _ | 11, _ => rfl
noncomputable def z45_F : Go.Sh.Fn := ⟨45, bodyOf Try.f45, 10⟩
def z45 (v : Int) (size : Int) : Bool :=
 (decide (v < (IntKind.u64.wrap (1 * 2 ^ (min ((IntKind.u64.wrap size) : Int).toNat (IntKind.u64).bits)))))
theorem z45_calls (v : Int) (size : Int) : ACalls Try.prog tab.S 45 [.sc (.int .u64 v), .sc (.int .i64 size)] [] (.sc (.bool (z45 v size))) [] := by
 generalize H : z45 v size = r
 refine .of_AX z45_F Try.func45 fun c0 hc0 => ?_
 rw [z45] at H
 refine .sg 3 [0,1] (.rg (.sg 3 [5,7] (.sl_ [5,8] (b := (IntKind.u64.wrap size)) (wrapU_nonneg _) (.sg 2 [4] (.dn ?_)))))
 subst H
 exact .ret Try.func45 hc0
theorem refFits_eq (n v : Int) : z45 v (sizeT n) = fitsT n v := by
 have hs := sizeT_in n
 unfold z45 fitsT
 have h1 : IntKind.u64.wrap (sizeT n) = sizeT n := wrapU_eq hs.1 (by omega)
 have hm : min (sizeT n).toNat (IntKind.u64).bits = (sizeT n).toNat := Nat.min_eq_left (by show _ ≤ 64; omega)
 have hp := pow_le48 (k := (sizeT n).toNat) (by omega)
 have hq := pow_pos2 (sizeT n).toNat
 rw [h1, hm, Int.one_mul, wrapU_eq (by omega) (by omega)]
def z87_l0 (field : Int) (bits : Int) : Nat → Int → Int → Option (Int)
 | 0, _, _ => none
 | m + 1, n, k1 =>
  (bif (decide (k1 < (sizeT field))) then
  z87_l0 field bits m (bif (decide (k1 < bits)) then (IntKind.u64.wrap ((IntKind.u64.wrap (n * 2)) + 1)) else (IntKind.u64.wrap (n * 2))) (IntKind.i64.wrap (k1 + 1))
 else
  some n)
def z87_raw (q0 : Nat) (field : Int) (bits : Int) : Option (Int × Bool) :=
 (bif ((((decide (field < 0)) || (decide (field > 11))) || (decide (bits < 0))) || (decide (bits > (sizeT field)))) then
  some (0, false)
 else
  (z87_l0 field bits q0 0 0).bind fun v =>
  some (v, true))
def z64_l0s (n : Node) (v : Bool × Run) : List Var → Sum (Unit) (Int × Run)
 | [] =>
  (.inl ())
 | x :: rest =>
  (bif (x.Name == n.Text) then
   (.inr (x.N, v.2))
  else
   z64_l0s n v rest )
def z64_raw (g_z64 : Run → Node → Option (Int × Run)) (m1 : Run) (n : Node) : Option (Int × Run) :=
 letT (z41 m1) fun v =>
 (bif (!v.1) then
  some (0, v.2)
 else
  (bif (n.Kind == 18) then
   some (n.Num, v.2)
  else
   (bif (n.Kind == 19) then
    sumG (fun q => some q) (z64_l0s n v v.2.Vars) fun v1 =>
    (z57_raw n.Text).bind fun x1 =>
    (bif x1.2 then
     reqO (decide (0 ≤ x1.1) && decide (x1.1 < ((12 : Nat) : Int))) (
     some ((IntKind.i64.wrap (v.2.Ev.Head.getD (x1.1.toNat) 0)), v.2))
    else
     (bif (n.Text == (ByteArray.mk #[117, 110, 105, 116])) then
      some (v.2.Ev.Unit, v.2)
     else
      some (v.2.Ev.Port, v.2)))
   else
    (bif (n.Kind == 21) then
     (ixO n.Kids 0).bind fun x2 =>
     (g_z64 v.2 x2).bind fun v2 =>
     (bif (n.Text == (ByteArray.mk #[45])) then
      some ((IntKind.i64.wrap (0 - v2.1)), v2.2)
     else
      some ((z86 (v2.1 == 0)), v2.2))
    else
     (ixO n.Kids 0).bind fun x3 =>
     (g_z64 v.2 x3).bind fun v3 =>
     (bif (((n.Text == (ByteArray.mk #[38, 38])) && (v3.1 == 0)) || ((n.Text == (ByteArray.mk #[124, 124])) && (v3.1 != 0))) then
      some ((z86 (v3.1 != 0)), v3.2)
     else
      (ixO n.Kids 1).bind fun x4 =>
      (g_z64 v3.2 x4).bind fun v4 =>
      (bif (bif (n.Text == (ByteArray.mk #[38, 38])) then (n.Text == (ByteArray.mk #[38, 38])) else (n.Text == (ByteArray.mk #[124, 124]))) then
       some ((z86 (v4.1 != 0)), v4.2)
      else
       (bif (n.Text == (ByteArray.mk #[61, 61])) then
        some ((z86 (v3.1 == v4.1)), v4.2)
       else
        (bif (n.Text == (ByteArray.mk #[33, 61])) then
         some ((z86 (v3.1 != v4.1)), v4.2)
        else
         (bif (n.Text == (ByteArray.mk #[60])) then
          some ((z86 (decide (v3.1 < v4.1))), v4.2)
         else
          (bif (n.Text == (ByteArray.mk #[60, 61])) then
           some ((z86 (decide (v3.1 ≤ v4.1))), v4.2)
          else
           (bif (n.Text == (ByteArray.mk #[62])) then
            some ((z86 (decide (v3.1 > v4.1))), v4.2)
           else
            (bif (n.Text == (ByteArray.mk #[62, 61])) then
             some ((z86 (decide (v3.1 ≥ v4.1))), v4.2)
            else
             (bif (n.Text == (ByteArray.mk #[43])) then
              some ((IntKind.i64.wrap (v3.1 + v4.1)), v4.2)
             else
              (bif (n.Text == (ByteArray.mk #[45])) then
               some ((IntKind.i64.wrap (v3.1 - v4.1)), v4.2)
              else
               (bif (n.Text == (ByteArray.mk #[42])) then
                some ((IntKind.i64.wrap (v3.1 * v4.1)), v4.2)
               else
                (bif (v4.2.E != 0) then
                 some (0, v4.2)
                else
                 (bif (v4.1 == 0) then
                  letT (z65 v4.2 12) fun v5 =>
                  some (0, v5)
                 else
                  (bif (n.Text == (ByteArray.mk #[47])) then
                   reqO (v4.1 != 0) (
                   some ((IntKind.i64.wrap (Int.tdiv v3.1 v4.1)), v4.2))
                  else
                   reqO (v4.1 != 0) (
                   some ((Int.tmod v3.1 v4.1), v4.2))))))))))))))))))))
def rxG : Nat → (Run → Node → Option (Int × Run))
 | 0 => (fun _ _ => none)
 | q + 1 => (z64_raw (rxG q))
end Go.Proofs.Yteioljlgcagnnaa
namespace Go.Proofs.Yteioljlgcagnnaa
open Go.Sh
def z66_raw (m1 : Run) (n : Node) (low : Int) (high : Int) : Option (Int × Run) :=
 ((rxG 40000) m1 n).bind fun v =>
 (bif ((decide (v.1 < low)) || (decide (v.1 > high))) then
  letT (z65 v.2 13) fun v1 =>
  some (v.1, v1)
 else
  some (v.1, v.2))
def z67_l0 (n : Node) : Nat → Int → ByteArray → Int → Int → List Int → Int → Int → Int → List Var → List Change → List Int → List Int → Option (ByteArray × Int × Int × (List Int) × Int × Int × Int × (List Var) × (List Change) × (List Int) × (List Int))
 | 0, _, _, _, _, _, _, _, _, _, _, _, _ => none
 | m + 1, i, m_1_0, m_1_1, m_1_2, m_1_3, m_2, m_3, m_5, o1, o2, c_0, c_1 =>
  (bif ((decide (i < (((List.map Node.av n.Kids).length : Nat) : Int))) && (m_5 == 0)) then
  (ixO n.Kids i).bind fun x =>
  (ixO x.Kids 0).bind fun x1 =>
  ((rxG 40000) ({ Vars := o1, Ev := ({ On := m_1_0, Unit := m_1_1, Port := m_1_2, Head := m_1_3 } : Event), Owner := m_2, Fuel := m_3, Out := o2, E := m_5 } : Run) x1).bind fun v =>
  (z57_raw x.Text).bind fun x2 =>
  (z87_raw 100 x2.1 (bif (x.Num == (-1)) then (sizeT x2.1) else x.Num)).bind fun x3 =>
  (bif ((decide (v.1 < 0)) || (!(z45 (IntKind.u64.wrap v.1) (sizeT x2.1)))) then
   letT (z65 v.2 13) fun v1 =>
   reqO (decide (0 ≤ x2.1) && decide (x2.1 < ((12 : Nat) : Int))) (
   reqO (decide (0 ≤ x2.1) && decide (x2.1 < ((12 : Nat) : Int))) (
   z67_l0 n m (IntKind.i64.wrap (i + 1)) v1.Ev.On v1.Ev.Unit v1.Ev.Port v1.Ev.Head v1.Owner v1.Fuel v1.E v1.Vars v1.Out (c_0.set (x2.1.toNat) (IntKind.u64.wrap ((BitVec.ofInt 64 (IntKind.u64.wrap 0) &&& BitVec.ofInt 64 x3.1).toNat))) (c_1.set (x2.1.toNat) x3.1)))
  else
   reqO (decide (0 ≤ x2.1) && decide (x2.1 < ((12 : Nat) : Int))) (
   reqO (decide (0 ≤ x2.1) && decide (x2.1 < ((12 : Nat) : Int))) (
   z67_l0 n m (IntKind.i64.wrap (i + 1)) v.2.Ev.On v.2.Ev.Unit v.2.Ev.Port v.2.Ev.Head v.2.Owner v.2.Fuel v.2.E v.2.Vars v.2.Out (c_0.set (x2.1.toNat) (IntKind.u64.wrap ((BitVec.ofInt 64 (IntKind.u64.wrap v.1) &&& BitVec.ofInt 64 x3.1).toNat))) (c_1.set (x2.1.toNat) x3.1))))
 else
  some (m_1_0, m_1_1, m_1_2, m_1_3, m_2, m_3, m_5, o1, o2, c_0, c_1))
def z67_raw (q0 : Nat) (m1 : Run) (n : Node) : Option (Cube × Run) :=
 (z67_l0 n q0 0 m1.Ev.On m1.Ev.Unit m1.Ev.Port m1.Ev.Head m1.Owner m1.Fuel m1.E m1.Vars m1.Out [0, 0, 0, 0, 0, 0, 0, 0, 0, 0, 0, 0] [0, 0, 0, 0, 0, 0, 0, 0, 0, 0, 0, 0]).bind fun v =>
 some (({ Value := v.2.2.2.2.2.2.2.2.2.1, Care := v.2.2.2.2.2.2.2.2.2.2 } : Cube), ({ Vars := v.2.2.2.2.2.2.2.1, Ev := ({ On := v.1, Unit := v.2.1, Port := v.2.2.1, Head := v.2.2.2.1 } : Event), Owner := v.2.2.2.2.1, Fuel := v.2.2.2.2.2.1, Out := v.2.2.2.2.2.2.2.2.1, E := v.2.2.2.2.2.2.1 } : Run))
def z68_l0s : List Node → ByteArray → Int → Int → List Int → Int → Int → Int → List Var → List Change → List Act → Option (ByteArray × Int × Int × (List Int) × Int × Int × Int × (List Var) × (List Change) × (List Act))
 | [], m_1_0, m_1_1, m_1_2, m_1_3, m_2, m_3, m_5, o1, o2, out =>
  some (m_1_0, m_1_1, m_1_2, m_1_3, m_2, m_3, m_5, o1, o2, out)
 | x :: rest, m_1_0, m_1_1, m_1_2, m_1_3, m_2, m_3, m_5, o1, o2, out =>
  (bif (x.Kind == 15) then
   (ixO x.Kids 0).bind fun x1 =>
   (z66_raw ({ Vars := o1, Ev := ({ On := m_1_0, Unit := m_1_1, Port := m_1_2, Head := m_1_3 } : Event), Owner := m_2, Fuel := m_3, Out := o2, E := m_5 } : Run) x1 1 16).bind fun v =>
   fitO (out.length + [({ Kind := 1, Port := v.1, Field := 0, Value := 0 } : Act)].length) 32 (
   z68_l0s rest v.2.Ev.On v.2.Ev.Unit v.2.Ev.Port v.2.Ev.Head v.2.Owner v.2.Fuel v.2.E v.2.Vars v.2.Out (out ++ [({ Kind := 1, Port := v.1, Field := 0, Value := 0 } : Act)]))
  else
   (bif (x.Kind == 16) then
    (z57_raw x.Text).bind fun x2 =>
    (ixO x.Kids 0).bind fun x3 =>
    ((rxG 40000) ({ Vars := o1, Ev := ({ On := m_1_0, Unit := m_1_1, Port := m_1_2, Head := m_1_3 } : Event), Owner := m_2, Fuel := m_3, Out := o2, E := m_5 } : Run) x3).bind fun v1 =>
    (bif ((decide (v1.1 < 0)) || (!(z45 (IntKind.u64.wrap v1.1) (sizeT x2.1)))) then
     letT (z65 v1.2 13) fun v2 =>
     fitO (out.length + [({ Kind := 2, Port := 0, Field := x2.1, Value := (IntKind.u64.wrap v1.1) } : Act)].length) 32 (
     z68_l0s rest v2.Ev.On v2.Ev.Unit v2.Ev.Port v2.Ev.Head v2.Owner v2.Fuel v2.E v2.Vars v2.Out (out ++ [({ Kind := 2, Port := 0, Field := x2.1, Value := (IntKind.u64.wrap v1.1) } : Act)]))
    else
     fitO (out.length + [({ Kind := 2, Port := 0, Field := x2.1, Value := (IntKind.u64.wrap v1.1) } : Act)].length) 32 (
     z68_l0s rest v1.2.Ev.On v1.2.Ev.Unit v1.2.Ev.Port v1.2.Ev.Head v1.2.Owner v1.2.Fuel v1.2.E v1.2.Vars v1.2.Out (out ++ [({ Kind := 2, Port := 0, Field := x2.1, Value := (IntKind.u64.wrap v1.1) } : Act)])))
   else
    fitO (out.length + [({ Kind := 3, Port := 0, Field := 0, Value := 0 } : Act)].length) 32 (
    z68_l0s rest m_1_0 m_1_1 m_1_2 m_1_3 m_2 m_3 m_5 o1 o2 (out ++ [({ Kind := 3, Port := 0, Field := 0, Value := 0 } : Act)]))))
def z68_raw (m1 : Run) (n : Node) : Option ((List Act) × Run) :=
 (z68_l0s n.Kids m1.Ev.On m1.Ev.Unit m1.Ev.Port m1.Ev.Head m1.Owner m1.Fuel m1.E m1.Vars m1.Out ([] : List Act)).bind fun v =>
 some (v.2.2.2.2.2.2.2.2.2, ({ Vars := v.2.2.2.2.2.2.2.1, Ev := ({ On := v.1, Unit := v.2.1, Port := v.2.2.1, Head := v.2.2.2.1 } : Event), Owner := v.2.2.2.2.1, Fuel := v.2.2.2.2.2.1, Out := v.2.2.2.2.2.2.2.2.1, E := v.2.2.2.2.2.2.1 } : Run))
end Go.Proofs.Yteioljlgcagnnaa
namespace Go.Proofs.Yteioljlgcagnnaa
open Go.Sh
def z24_l0s (g_z42 : Run → Node → Option (Run)) : List Node → ByteArray → Int → Int → List Int → Int → Int → Int → List Var → List Change → Option (Sum (ByteArray × Int × Int × (List Int) × Int × Int × Int × (List Var) × (List Change)) (Run))
 | [], m_1_0, m_1_1, m_1_2, m_1_3, m_2, m_3, m_5, o1, o2 =>
  some (.inl (m_1_0, m_1_1, m_1_2, m_1_3, m_2, m_3, m_5, o1, o2))
 | x :: rest, m_1_0, m_1_1, m_1_2, m_1_3, m_2, m_3, m_5, o1, o2 =>
  letT (z41 ({ Vars := o1, Ev := ({ On := m_1_0, Unit := m_1_1, Port := m_1_2, Head := m_1_3 } : Event), Owner := m_2, Fuel := m_3, Out := o2, E := m_5 } : Run)) fun v =>
  (bif (!v.1) then
   some (.inr v.2)
  else
   (g_z42 v.2 x).bind fun v1 =>
   z24_l0s g_z42 rest v1.Ev.On v1.Ev.Unit v1.Ev.Port v1.Ev.Head v1.Owner v1.Fuel v1.E v1.Vars v1.Out)
def z24_raw (g_z24 : Run → (List Node) → Option (Run)) (g_z42 : Run → Node → Option (Run)) (m1 : Run) (l : List Node) : Option (Run) :=
 loopO (z24_l0s g_z42 l m1.Ev.On m1.Ev.Unit m1.Ev.Port m1.Ev.Head m1.Owner m1.Fuel m1.E m1.Vars m1.Out) fun v =>
 some ({ Vars := v.2.2.2.2.2.2.2.1, Ev := ({ On := v.1, Unit := v.2.1, Port := v.2.2.1, Head := v.2.2.2.1 } : Event), Owner := v.2.2.2.2.1, Fuel := v.2.2.2.2.2.1, Out := v.2.2.2.2.2.2.2.2, E := v.2.2.2.2.2.2.1 } : Run)
def z42_l0 (n : Node) (v1 : Int × Run) : Nat → Int → List Var → Option ((List Var))
 | 0, _, _ => none
 | m + 1, i, o1 =>
  (bif ((decide (i < (((List.map Var.av o1).length : Nat) : Int))) && (v1.2.E == 0)) then
  (ixO o1 i).bind fun x1 =>
  (bif (x1.Name == n.Text) then
   z42_l0 n v1 m (IntKind.i64.wrap (i + 1)) (o1.set i.toNat ({ Name := x1.Name, N := v1.1 } : Var))
  else
   z42_l0 n v1 m (IntKind.i64.wrap (i + 1)) o1)
 else
  some o1)
def z42_l1 (g_z24 : Run → (List Node) → Option (Run)) (n : Node) : Nat → ByteArray → Int → Int → List Int → Int → Int → Int → List Var → List Change → Option (Sum (ByteArray × Int × Int × (List Int) × Int × Int × Int × (List Var) × (List Change)) (Run))
 | 0, _, _, _, _, _, _, _, _, _ => none
 | m + 1, m_1_0, m_1_1, m_1_2, m_1_3, m_2, m_3, m_5, o11, o2 =>
  (bif (m_5 == 0) then
  (ixO n.Kids 0).bind fun x4 =>
  ((rxG 40000) ({ Vars := o11, Ev := ({ On := m_1_0, Unit := m_1_1, Port := m_1_2, Head := m_1_3 } : Event), Owner := m_2, Fuel := m_3, Out := o2, E := m_5 } : Run) x4).bind fun v6 =>
  (bif ((v6.2.E != 0) || (v6.1 == 0)) then
   some (.inr v6.2)
  else
   (ixO n.Kids 1).bind fun x5 =>
   (g_z24 v6.2 x5.Kids).bind fun v7 =>
   z42_l1 g_z24 n m v7.Ev.On v7.Ev.Unit v7.Ev.Port v7.Ev.Head v7.Owner v7.Fuel v7.E v7.Vars v7.Out)
 else
  some (.inl (m_1_0, m_1_1, m_1_2, m_1_3, m_2, m_3, m_5, o11, o2)))
def z42_raw (q0 : Nat) (q1 : Nat) (g_z24 : Run → (List Node) → Option (Run)) (g_z42 : Run → Node → Option (Run)) (m1 : Run) (n : Node) : Option (Run) :=
 (bif (n.Kind == 7) then
  (g_z24 m1 n.Kids).bind fun v =>
  some v
 else
  (bif (n.Kind == 4) then
   (ixO n.Kids 0).bind fun x =>
   ((rxG 40000) m1 x).bind fun v1 =>
   (z42_l0 n v1 q0 0 v1.2.Vars).bind fun v2 =>
   some ({ v1.2 with Vars := v2 } : Run)
  else
   (bif (n.Kind == 5) then
    (ixO n.Kids 0).bind fun x1 =>
    ((rxG 40000) m1 x1).bind fun v3 =>
    (bif ((v3.2.E == 0) && (v3.1 != 0)) then
     (ixO n.Kids 1).bind fun x2 =>
     (g_z24 v3.2 x2.Kids).bind fun v4 =>
     some v4
    else
     (bif ((v3.2.E == 0) && ((((List.map Node.av n.Kids).length : Nat) : Int) == 3)) then
      (ixO n.Kids 2).bind fun x3 =>
      (g_z24 v3.2 x3.Kids).bind fun v5 =>
      some v5
     else
      some v3.2))
   else
    (bif (n.Kind == 6) then
     loopO (z42_l1 g_z24 n q1 m1.Ev.On m1.Ev.Unit m1.Ev.Port m1.Ev.Head m1.Owner m1.Fuel m1.E m1.Vars m1.Out) fun v6 =>
     some ({ Vars := v6.2.2.2.2.2.2.2.1, Ev := ({ On := v6.1, Unit := v6.2.1, Port := v6.2.2.1, Head := v6.2.2.2.1 } : Event), Owner := v6.2.2.2.2.1, Fuel := v6.2.2.2.2.2.1, Out := v6.2.2.2.2.2.2.2.2, E := v6.2.2.2.2.2.2.1 } : Run)
    else
     (bif (n.Kind == 11) then
      letT (z65 m1 16) fun v7 =>
      some v7
     else
      (ixO n.Kids 0).bind fun x4 =>
      (z66_raw m1 x4 0 7).bind fun v8 =>
      (ixO n.Kids 1).bind fun x5 =>
      (z67_raw 20000 v8.2 x5).bind fun v9 =>
      (bif (n.Kind == 8) then
       (ixO n.Kids 2).bind fun x6 =>
       (z66_raw v9.2 x6 0 65535).bind fun v10 =>
       (ixO n.Kids 3).bind fun x7 =>
       (z66_raw v10.2 x7 0 1048576).bind fun v11 =>
       (ixO n.Kids 4).bind fun x8 =>
       (z66_raw v11.2 x8 0 1048576).bind fun v12 =>
       (ixO n.Kids 5).bind fun x9 =>
       (z68_raw v12.2 x9).bind fun v13 =>
       (bif ((((List.map Change.av v13.2.Out).length : Nat) : Int) == 16) then
        letT (z65 v13.2 3) fun v14 =>
        (bif (v14.E == 0) then
         fitO (v14.Out.length + [({ Unit := v8.1, Mod := ({ Kind := 1, Match := v9.1, Prio := v10.1, Acts := v13.1, Idle := v11.1, Hard := v12.1, Owner := v9.2.Owner, Check := (n.Num == 1) } : Mod) } : Change)].length) 272 (
         some ({ v14 with Out := (v14.Out ++ [({ Unit := v8.1, Mod := ({ Kind := 1, Match := v9.1, Prio := v10.1, Acts := v13.1, Idle := v11.1, Hard := v12.1, Owner := v9.2.Owner, Check := (n.Num == 1) } : Mod) } : Change)]) } : Run))
        else
         some v14)
       else
        (bif (v13.2.E == 0) then
         fitO (v13.2.Out.length + [({ Unit := v8.1, Mod := ({ Kind := 1, Match := v9.1, Prio := v10.1, Acts := v13.1, Idle := v11.1, Hard := v12.1, Owner := v9.2.Owner, Check := (n.Num == 1) } : Mod) } : Change)].length) 272 (
         some ({ v13.2 with Out := (v13.2.Out ++ [({ Unit := v8.1, Mod := ({ Kind := 1, Match := v9.1, Prio := v10.1, Acts := v13.1, Idle := v11.1, Hard := v12.1, Owner := v9.2.Owner, Check := (n.Num == 1) } : Mod) } : Change)]) } : Run))
        else
         some v13.2))
      else
       (bif (n.Kind == 10) then
        (bif (n.Num == 1) then
         (bif (n.Kind == 10) then
          (ixO n.Kids 2).bind fun x10 =>
          (z66_raw v9.2 x10 0 65535).bind fun v15 =>
          (bif (n.Kind == 10) then
           (ixO n.Kids (IntKind.i64.wrap ((((List.map Node.av n.Kids).length : Nat) : Int) - 1))).bind fun x11 =>
           (z68_raw v15.2 x11).bind fun v16 =>
           (bif ((((List.map Change.av v16.2.Out).length : Nat) : Int) == 16) then
            letT (z65 v16.2 3) fun v17 =>
            (bif (v17.E == 0) then
             fitO (v17.Out.length + [({ Unit := v8.1, Mod := ({ Kind := 4, Match := v9.1, Prio := v15.1, Acts := v16.1, Idle := 0, Hard := 0, Owner := v9.2.Owner, Check := false } : Mod) } : Change)].length) 272 (
             some ({ v17 with Out := (v17.Out ++ [({ Unit := v8.1, Mod := ({ Kind := 4, Match := v9.1, Prio := v15.1, Acts := v16.1, Idle := 0, Hard := 0, Owner := v9.2.Owner, Check := false } : Mod) } : Change)]) } : Run))
            else
             some v17)
           else
            (bif (v16.2.E == 0) then
             fitO (v16.2.Out.length + [({ Unit := v8.1, Mod := ({ Kind := 4, Match := v9.1, Prio := v15.1, Acts := v16.1, Idle := 0, Hard := 0, Owner := v9.2.Owner, Check := false } : Mod) } : Change)].length) 272 (
             some ({ v16.2 with Out := (v16.2.Out ++ [({ Unit := v8.1, Mod := ({ Kind := 4, Match := v9.1, Prio := v15.1, Acts := v16.1, Idle := 0, Hard := 0, Owner := v9.2.Owner, Check := false } : Mod) } : Change)]) } : Run))
            else
             some v16.2))
          else
           (bif ((((List.map Change.av v15.2.Out).length : Nat) : Int) == 16) then
            letT (z65 v15.2 3) fun v18 =>
            (bif (v18.E == 0) then
             fitO (v18.Out.length + [({ Unit := v8.1, Mod := ({ Kind := 4, Match := v9.1, Prio := v15.1, Acts := [], Idle := 0, Hard := 0, Owner := v9.2.Owner, Check := false } : Mod) } : Change)].length) 272 (
             some ({ v18 with Out := (v18.Out ++ [({ Unit := v8.1, Mod := ({ Kind := 4, Match := v9.1, Prio := v15.1, Acts := [], Idle := 0, Hard := 0, Owner := v9.2.Owner, Check := false } : Mod) } : Change)]) } : Run))
            else
             some v18)
           else
            (bif (v15.2.E == 0) then
             fitO (v15.2.Out.length + [({ Unit := v8.1, Mod := ({ Kind := 4, Match := v9.1, Prio := v15.1, Acts := [], Idle := 0, Hard := 0, Owner := v9.2.Owner, Check := false } : Mod) } : Change)].length) 272 (
             some ({ v15.2 with Out := (v15.2.Out ++ [({ Unit := v8.1, Mod := ({ Kind := 4, Match := v9.1, Prio := v15.1, Acts := [], Idle := 0, Hard := 0, Owner := v9.2.Owner, Check := false } : Mod) } : Change)]) } : Run))
            else
             some v15.2)))
         else
          (ixO n.Kids 2).bind fun x12 =>
          (z66_raw v9.2 x12 0 65535).bind fun v19 =>
          (bif (n.Kind == 10) then
           (ixO n.Kids (IntKind.i64.wrap ((((List.map Node.av n.Kids).length : Nat) : Int) - 1))).bind fun x13 =>
           (z68_raw v19.2 x13).bind fun v20 =>
           (bif ((((List.map Change.av v20.2.Out).length : Nat) : Int) == 16) then
            letT (z65 v20.2 3) fun v21 =>
            (bif (v21.E == 0) then
             fitO (v21.Out.length + [({ Unit := v8.1, Mod := ({ Kind := 5, Match := v9.1, Prio := v19.1, Acts := v20.1, Idle := 0, Hard := 0, Owner := v9.2.Owner, Check := false } : Mod) } : Change)].length) 272 (
             some ({ v21 with Out := (v21.Out ++ [({ Unit := v8.1, Mod := ({ Kind := 5, Match := v9.1, Prio := v19.1, Acts := v20.1, Idle := 0, Hard := 0, Owner := v9.2.Owner, Check := false } : Mod) } : Change)]) } : Run))
            else
             some v21)
           else
            (bif (v20.2.E == 0) then
             fitO (v20.2.Out.length + [({ Unit := v8.1, Mod := ({ Kind := 5, Match := v9.1, Prio := v19.1, Acts := v20.1, Idle := 0, Hard := 0, Owner := v9.2.Owner, Check := false } : Mod) } : Change)].length) 272 (
             some ({ v20.2 with Out := (v20.2.Out ++ [({ Unit := v8.1, Mod := ({ Kind := 5, Match := v9.1, Prio := v19.1, Acts := v20.1, Idle := 0, Hard := 0, Owner := v9.2.Owner, Check := false } : Mod) } : Change)]) } : Run))
            else
             some v20.2))
          else
           (bif ((((List.map Change.av v19.2.Out).length : Nat) : Int) == 16) then
            letT (z65 v19.2 3) fun v22 =>
            (bif (v22.E == 0) then
             fitO (v22.Out.length + [({ Unit := v8.1, Mod := ({ Kind := 5, Match := v9.1, Prio := v19.1, Acts := [], Idle := 0, Hard := 0, Owner := v9.2.Owner, Check := false } : Mod) } : Change)].length) 272 (
             some ({ v22 with Out := (v22.Out ++ [({ Unit := v8.1, Mod := ({ Kind := 5, Match := v9.1, Prio := v19.1, Acts := [], Idle := 0, Hard := 0, Owner := v9.2.Owner, Check := false } : Mod) } : Change)]) } : Run))
            else
             some v22)
           else
            (bif (v19.2.E == 0) then
             fitO (v19.2.Out.length + [({ Unit := v8.1, Mod := ({ Kind := 5, Match := v9.1, Prio := v19.1, Acts := [], Idle := 0, Hard := 0, Owner := v9.2.Owner, Check := false } : Mod) } : Change)].length) 272 (
             some ({ v19.2 with Out := (v19.2.Out ++ [({ Unit := v8.1, Mod := ({ Kind := 5, Match := v9.1, Prio := v19.1, Acts := [], Idle := 0, Hard := 0, Owner := v9.2.Owner, Check := false } : Mod) } : Change)]) } : Run))
            else
             some v19.2))))
        else
         (bif (n.Kind == 10) then
          (ixO n.Kids (IntKind.i64.wrap ((((List.map Node.av n.Kids).length : Nat) : Int) - 1))).bind fun x14 =>
          (z68_raw v9.2 x14).bind fun v23 =>
          (bif ((((List.map Change.av v23.2.Out).length : Nat) : Int) == 16) then
           letT (z65 v23.2 3) fun v24 =>
           (bif (v24.E == 0) then
            fitO (v24.Out.length + [({ Unit := v8.1, Mod := ({ Kind := 2, Match := v9.1, Prio := 0, Acts := v23.1, Idle := 0, Hard := 0, Owner := v9.2.Owner, Check := false } : Mod) } : Change)].length) 272 (
            some ({ v24 with Out := (v24.Out ++ [({ Unit := v8.1, Mod := ({ Kind := 2, Match := v9.1, Prio := 0, Acts := v23.1, Idle := 0, Hard := 0, Owner := v9.2.Owner, Check := false } : Mod) } : Change)]) } : Run))
           else
            some v24)
          else
           (bif (v23.2.E == 0) then
            fitO (v23.2.Out.length + [({ Unit := v8.1, Mod := ({ Kind := 2, Match := v9.1, Prio := 0, Acts := v23.1, Idle := 0, Hard := 0, Owner := v9.2.Owner, Check := false } : Mod) } : Change)].length) 272 (
            some ({ v23.2 with Out := (v23.2.Out ++ [({ Unit := v8.1, Mod := ({ Kind := 2, Match := v9.1, Prio := 0, Acts := v23.1, Idle := 0, Hard := 0, Owner := v9.2.Owner, Check := false } : Mod) } : Change)]) } : Run))
           else
            some v23.2))
         else
          (bif ((((List.map Change.av v9.2.Out).length : Nat) : Int) == 16) then
           letT (z65 v9.2 3) fun v25 =>
           (bif (v25.E == 0) then
            fitO (v25.Out.length + [({ Unit := v8.1, Mod := ({ Kind := 2, Match := v9.1, Prio := 0, Acts := [], Idle := 0, Hard := 0, Owner := v9.2.Owner, Check := false } : Mod) } : Change)].length) 272 (
            some ({ v25 with Out := (v25.Out ++ [({ Unit := v8.1, Mod := ({ Kind := 2, Match := v9.1, Prio := 0, Acts := [], Idle := 0, Hard := 0, Owner := v9.2.Owner, Check := false } : Mod) } : Change)]) } : Run))
           else
            some v25)
          else
           (bif (v9.2.E == 0) then
            fitO (v9.2.Out.length + [({ Unit := v8.1, Mod := ({ Kind := 2, Match := v9.1, Prio := 0, Acts := [], Idle := 0, Hard := 0, Owner := v9.2.Owner, Check := false } : Mod) } : Change)].length) 272 (
            some ({ v9.2 with Out := (v9.2.Out ++ [({ Unit := v8.1, Mod := ({ Kind := 2, Match := v9.1, Prio := 0, Acts := [], Idle := 0, Hard := 0, Owner := v9.2.Owner, Check := false } : Mod) } : Change)]) } : Run))
           else
            some v9.2))))
       else
        (bif (n.Num == 1) then
         (bif (n.Kind == 10) then
          (ixO n.Kids 2).bind fun x15 =>
          (z66_raw v9.2 x15 0 65535).bind fun v26 =>
          (bif (n.Kind == 10) then
           (ixO n.Kids (IntKind.i64.wrap ((((List.map Node.av n.Kids).length : Nat) : Int) - 1))).bind fun x16 =>
           (z68_raw v26.2 x16).bind fun v27 =>
           (bif ((((List.map Change.av v27.2.Out).length : Nat) : Int) == 16) then
            letT (z65 v27.2 3) fun v28 =>
            (bif (v28.E == 0) then
             fitO (v28.Out.length + [({ Unit := v8.1, Mod := ({ Kind := 4, Match := v9.1, Prio := v26.1, Acts := v27.1, Idle := 0, Hard := 0, Owner := v9.2.Owner, Check := false } : Mod) } : Change)].length) 272 (
             some ({ v28 with Out := (v28.Out ++ [({ Unit := v8.1, Mod := ({ Kind := 4, Match := v9.1, Prio := v26.1, Acts := v27.1, Idle := 0, Hard := 0, Owner := v9.2.Owner, Check := false } : Mod) } : Change)]) } : Run))
            else
             some v28)
           else
            (bif (v27.2.E == 0) then
             fitO (v27.2.Out.length + [({ Unit := v8.1, Mod := ({ Kind := 4, Match := v9.1, Prio := v26.1, Acts := v27.1, Idle := 0, Hard := 0, Owner := v9.2.Owner, Check := false } : Mod) } : Change)].length) 272 (
             some ({ v27.2 with Out := (v27.2.Out ++ [({ Unit := v8.1, Mod := ({ Kind := 4, Match := v9.1, Prio := v26.1, Acts := v27.1, Idle := 0, Hard := 0, Owner := v9.2.Owner, Check := false } : Mod) } : Change)]) } : Run))
            else
             some v27.2))
          else
           (bif ((((List.map Change.av v26.2.Out).length : Nat) : Int) == 16) then
            letT (z65 v26.2 3) fun v29 =>
            (bif (v29.E == 0) then
             fitO (v29.Out.length + [({ Unit := v8.1, Mod := ({ Kind := 4, Match := v9.1, Prio := v26.1, Acts := [], Idle := 0, Hard := 0, Owner := v9.2.Owner, Check := false } : Mod) } : Change)].length) 272 (
             some ({ v29 with Out := (v29.Out ++ [({ Unit := v8.1, Mod := ({ Kind := 4, Match := v9.1, Prio := v26.1, Acts := [], Idle := 0, Hard := 0, Owner := v9.2.Owner, Check := false } : Mod) } : Change)]) } : Run))
            else
             some v29)
           else
            (bif (v26.2.E == 0) then
             fitO (v26.2.Out.length + [({ Unit := v8.1, Mod := ({ Kind := 4, Match := v9.1, Prio := v26.1, Acts := [], Idle := 0, Hard := 0, Owner := v9.2.Owner, Check := false } : Mod) } : Change)].length) 272 (
             some ({ v26.2 with Out := (v26.2.Out ++ [({ Unit := v8.1, Mod := ({ Kind := 4, Match := v9.1, Prio := v26.1, Acts := [], Idle := 0, Hard := 0, Owner := v9.2.Owner, Check := false } : Mod) } : Change)]) } : Run))
            else
             some v26.2)))
         else
          (ixO n.Kids 2).bind fun x17 =>
          (z66_raw v9.2 x17 0 65535).bind fun v30 =>
          (bif (n.Kind == 10) then
           (ixO n.Kids (IntKind.i64.wrap ((((List.map Node.av n.Kids).length : Nat) : Int) - 1))).bind fun x18 =>
           (z68_raw v30.2 x18).bind fun v31 =>
           (bif ((((List.map Change.av v31.2.Out).length : Nat) : Int) == 16) then
            letT (z65 v31.2 3) fun v32 =>
            (bif (v32.E == 0) then
             fitO (v32.Out.length + [({ Unit := v8.1, Mod := ({ Kind := 5, Match := v9.1, Prio := v30.1, Acts := v31.1, Idle := 0, Hard := 0, Owner := v9.2.Owner, Check := false } : Mod) } : Change)].length) 272 (
             some ({ v32 with Out := (v32.Out ++ [({ Unit := v8.1, Mod := ({ Kind := 5, Match := v9.1, Prio := v30.1, Acts := v31.1, Idle := 0, Hard := 0, Owner := v9.2.Owner, Check := false } : Mod) } : Change)]) } : Run))
            else
             some v32)
           else
            (bif (v31.2.E == 0) then
             fitO (v31.2.Out.length + [({ Unit := v8.1, Mod := ({ Kind := 5, Match := v9.1, Prio := v30.1, Acts := v31.1, Idle := 0, Hard := 0, Owner := v9.2.Owner, Check := false } : Mod) } : Change)].length) 272 (
             some ({ v31.2 with Out := (v31.2.Out ++ [({ Unit := v8.1, Mod := ({ Kind := 5, Match := v9.1, Prio := v30.1, Acts := v31.1, Idle := 0, Hard := 0, Owner := v9.2.Owner, Check := false } : Mod) } : Change)]) } : Run))
            else
             some v31.2))
          else
           (bif ((((List.map Change.av v30.2.Out).length : Nat) : Int) == 16) then
            letT (z65 v30.2 3) fun v33 =>
            (bif (v33.E == 0) then
             fitO (v33.Out.length + [({ Unit := v8.1, Mod := ({ Kind := 5, Match := v9.1, Prio := v30.1, Acts := [], Idle := 0, Hard := 0, Owner := v9.2.Owner, Check := false } : Mod) } : Change)].length) 272 (
             some ({ v33 with Out := (v33.Out ++ [({ Unit := v8.1, Mod := ({ Kind := 5, Match := v9.1, Prio := v30.1, Acts := [], Idle := 0, Hard := 0, Owner := v9.2.Owner, Check := false } : Mod) } : Change)]) } : Run))
            else
             some v33)
           else
            (bif (v30.2.E == 0) then
             fitO (v30.2.Out.length + [({ Unit := v8.1, Mod := ({ Kind := 5, Match := v9.1, Prio := v30.1, Acts := [], Idle := 0, Hard := 0, Owner := v9.2.Owner, Check := false } : Mod) } : Change)].length) 272 (
             some ({ v30.2 with Out := (v30.2.Out ++ [({ Unit := v8.1, Mod := ({ Kind := 5, Match := v9.1, Prio := v30.1, Acts := [], Idle := 0, Hard := 0, Owner := v9.2.Owner, Check := false } : Mod) } : Change)]) } : Run))
            else
             some v30.2))))
        else
         (bif (n.Kind == 10) then
          (ixO n.Kids (IntKind.i64.wrap ((((List.map Node.av n.Kids).length : Nat) : Int) - 1))).bind fun x19 =>
          (z68_raw v9.2 x19).bind fun v34 =>
          (bif ((((List.map Change.av v34.2.Out).length : Nat) : Int) == 16) then
           letT (z65 v34.2 3) fun v35 =>
           (bif (v35.E == 0) then
            fitO (v35.Out.length + [({ Unit := v8.1, Mod := ({ Kind := 3, Match := v9.1, Prio := 0, Acts := v34.1, Idle := 0, Hard := 0, Owner := v9.2.Owner, Check := false } : Mod) } : Change)].length) 272 (
            some ({ v35 with Out := (v35.Out ++ [({ Unit := v8.1, Mod := ({ Kind := 3, Match := v9.1, Prio := 0, Acts := v34.1, Idle := 0, Hard := 0, Owner := v9.2.Owner, Check := false } : Mod) } : Change)]) } : Run))
           else
            some v35)
          else
           (bif (v34.2.E == 0) then
            fitO (v34.2.Out.length + [({ Unit := v8.1, Mod := ({ Kind := 3, Match := v9.1, Prio := 0, Acts := v34.1, Idle := 0, Hard := 0, Owner := v9.2.Owner, Check := false } : Mod) } : Change)].length) 272 (
            some ({ v34.2 with Out := (v34.2.Out ++ [({ Unit := v8.1, Mod := ({ Kind := 3, Match := v9.1, Prio := 0, Acts := v34.1, Idle := 0, Hard := 0, Owner := v9.2.Owner, Check := false } : Mod) } : Change)]) } : Run))
           else
            some v34.2))
         else
          (bif ((((List.map Change.av v9.2.Out).length : Nat) : Int) == 16) then
           letT (z65 v9.2 3) fun v36 =>
           (bif (v36.E == 0) then
            fitO (v36.Out.length + [({ Unit := v8.1, Mod := ({ Kind := 3, Match := v9.1, Prio := 0, Acts := [], Idle := 0, Hard := 0, Owner := v9.2.Owner, Check := false } : Mod) } : Change)].length) 272 (
            some ({ v36 with Out := (v36.Out ++ [({ Unit := v8.1, Mod := ({ Kind := 3, Match := v9.1, Prio := 0, Acts := [], Idle := 0, Hard := 0, Owner := v9.2.Owner, Check := false } : Mod) } : Change)]) } : Run))
           else
            some v36)
          else
           (bif (v9.2.E == 0) then
            fitO (v9.2.Out.length + [({ Unit := v8.1, Mod := ({ Kind := 3, Match := v9.1, Prio := 0, Acts := [], Idle := 0, Hard := 0, Owner := v9.2.Owner, Check := false } : Mod) } : Change)].length) 272 (
            some ({ v9.2 with Out := (v9.2.Out ++ [({ Unit := v8.1, Mod := ({ Kind := 3, Match := v9.1, Prio := 0, Acts := [], Idle := 0, Hard := 0, Owner := v9.2.Owner, Check := false } : Mod) } : Change)]) } : Run))
           else
            some v9.2)))))))))))
def rsG : Nat → (Run → (List Node) → Option (Run)) × (Run → Node → Option (Run))
 | 0 => (fun _ _ => none, fun _ _ => none)
 | q + 1 => (z24_raw (rsG q).1 (rsG q).2, z42_raw 200000 200000 (rsG q).1 (rsG q).2)
end Go.Proofs.Yteioljlgcagnnaa
namespace Go.Proofs.Yteioljlgcagnnaa
open Go.Sh
noncomputable def z18_F : Go.Sh.Fn := ⟨18, bodyOf Try.f18, 36⟩
def z18_l0s : List Node → List Var → Option ((List Var))
 | [], out =>
  some out
 | x :: rest, out =>
  (bif (x.Kind == 2) then
   fitO (out.length + [({ Name := x.Text, N := x.Num } : Var)].length) 24 (
   z18_l0s rest (out ++ [({ Name := x.Text, N := x.Num } : Var)]))
  else
   z18_l0s rest out)
theorem z18_l0_walk (n : Node) (r : (List Var)) (c0 : Ctx) (hc0 : c0.m.length = 0) (res : (List Var)) (J : AX Try.prog tab z18_F c0 (Rp tab.S c0 (.own 0 1000000) [.row 60 (List.map Var.av r) 1000000 true]) (some ⟨[.code [1, 1, 1]], [(3, .own 1 1000000)], [.box 30 (Node.ch n), .row 60 (List.map Var.av res) 1000000 true]⟩)) :
  ∀ (rest : List Node) (i : Nat) (z : Int) (hI : z = ((i : Nat) : Int)) (hd : n.Kids.drop i = rest) (out : List Var) (H : z18_l0s rest out = some res), AX Try.prog tab z18_F c0 (Rp tab.S c0 (.own 0 1000000) [.row 60 (List.map Var.av r) 1000000 true]) (some ⟨[.code [1, 1, 0, 1, 0, 0], .loop [1, 1, 0, 1, 0], .blk 0, .code [1, 1, 1]], [(1, .ptr 0 0 none), (3, .own 1 1000000), (4, .sc (.int .i64 z))], [.box 30 (Node.ch n), .row 60 (List.map Var.av out) 1000000 true]⟩) := by
 intro rest
 induction rest with
 | nil =>
  intro i z hI hd out H
  subst hI
  rw [z18_l0s] at H
  refine .factsH 0 rfl fun hf => ?_
  have hlen : n.Kids.length ≤ 9223372036854775807 := by have hq := len_ok hf.2.2.2.1.2.1; rw [List.length_map] at hq; exact hq
  have hge : n.Kids.length ≤ i := List.drop_eq_nil_iff.1 hd
  have hc : (decide (((i : Nat) : Int) < (((List.map Node.av n.Kids).length : Nat) : Int))) = false := by rw [List.length_map]; exact decide_eq_false (by omega)
  refine .sg 3 [1,3,4,9] (.cdF hc (.sg 1 [3] (.kp [3] ?_)))
  obtain rfl := Option.some.inj H
  exact .to J
 | cons x rest ih =>
  intro i z hI hd out H
  subst hI
  rw [z18_l0s] at H
  refine .factsH 0 rfl fun hf => ?_
  have hlen : n.Kids.length ≤ 9223372036854775807 := by have hq := len_ok hf.2.2.2.1.2.1; rw [List.length_map] at hq; exact hq
  obtain ⟨hlt, hv_i, hd2⟩ := drop_cons hd
  have hc : (decide (((i : Nat) : Int) < (((List.map Node.av n.Kids).length : Nat) : Int))) = true := by rw [List.length_map]; exact decide_eq_true (by omega)
  have hw : IntKind.i64.wrap (((i : Nat) : Int) + 1) = ((i + 1 : Nat) : Int) := wrapI_succ (by omega)
  refine .sg 3 [1,3,4,9] (.cdT hc (.sg 4 [1,3,4] (.rg (.sg 3 [1,3,4,13,14] (.xg [1,3,4,15] Node.av Node.ag Node.av_eq hv_i (.sg 3 [1,3,4,18] (.dn (.cd (x.Kind == 2) H (fun hb H => ?_) (fun hb H => ?_)))))))))
  ·
   exact .rg (.sg 4 [1,4,19,21,22] (.xg [1,4,19,23] Node.av Node.ag Node.av_eq hv_i (.sg 5 [1,4,19,25,27,28] (.xg [1,4,19,25,29] Node.av Node.ag Node.av_eq hv_i (.sg 4 [1,4,19,33] (fitH H fun hfit H => (.ap [1,4,34] Var.av hfit (.sg 1 [1,3,4] (.dn (.sg 2 [1,3,4] (.tl hc0 [0,1] [1,3,4] (.into (.cl (ih (i + 1) _ hw hd2 (out ++ [({ Name := x.Text, N := x.Num } : Var)]) H))))))))))))))
  ·
   exact .sg 3 [1,3,4] (.kp [1,3,4] (.into (.cl (ih (i + 1) _ hw hd2 out H))))
def z18_raw (n : Node) : Option ((List Var)) :=
 (z18_l0s n.Kids ([] : List Var)).bind fun v =>
 some v
theorem z18_walk (n : Node) (r : (List Var)) (H : z18_raw n = some r) : ACalls Try.prog tab.S 18 [Node.ag n] [] (.own 0 1000000) [.row 60 (List.map Var.av r) 1000000 true] := by
 refine .of_AX z18_F Try.func18 fun c0 hc0 => ?_
 rw [z18_raw] at H
 refine .sg 8 [1,3,4] (.ad 3 60 true (.kp [1,3,4] ?_))
 refine bndO H fun v hv H => (.into (.to (z18_l0_walk n r c0 hc0 v ?_ n.Kids 0 _ rfl rfl ([] : List Var) hv)))
 refine .sg 2 [2] ?_
 obtain rfl := Option.some.inj H
 exact .ret Try.func18 hc0 [1]
def z14_l0 (n : Node) (ev : Event) : Nat → Int → List Var → ByteArray → Int → Int → List Int → Int → Int → Int → List Change → Option ((List Var) × ByteArray × Int × Int × (List Int) × Int × Int × Int × (List Change))
 | 0, _, _, _, _, _, _, _, _, _, _ => none
 | m + 1, i, o0, m_1_0, m_1_1, m_1_2, m_1_3, m_2, m_3, m_5, o2 =>
  (bif (decide (i < (((List.map Node.av n.Kids).length : Nat) : Int))) then
  (ixO n.Kids i).bind fun x =>
  (bif (x.Kind == 3) then
   (ixO n.Kids i).bind fun x1 =>
   (bif (x1.Text == ev.On) then
    (ixO n.Kids i).bind fun x2 =>
    ((rsG 400).1 ({ Vars := o0, Ev := ({ On := m_1_0, Unit := m_1_1, Port := m_1_2, Head := m_1_3 } : Event), Owner := m_2, Fuel := m_3, Out := o2, E := m_5 } : Run) x2.Kids).bind fun v =>
    z14_l0 n ev m (IntKind.i64.wrap (i + 1)) v.Vars v.Ev.On v.Ev.Unit v.Ev.Port v.Ev.Head v.Owner v.Fuel v.E v.Out
   else
    z14_l0 n ev m (IntKind.i64.wrap (i + 1)) o0 m_1_0 m_1_1 m_1_2 m_1_3 m_2 m_3 m_5 o2)
  else
   z14_l0 n ev m (IntKind.i64.wrap (i + 1)) o0 m_1_0 m_1_1 m_1_2 m_1_3 m_2 m_3 m_5 o2)
 else
  some (o0, m_1_0, m_1_1, m_1_2, m_1_3, m_2, m_3, m_5, o2))
def z14_raw (q0 : Nat) (n : Node) (vars : List Var) (ev : Event) (owner : Int) (fuel : Int) : Option ((List Var) × (List Change) × Int) :=
 fitO (([] : List Var).length + vars.length) 24 (
 (z14_l0 n ev q0 0 (([] : List Var) ++ vars) ev.On ev.Unit ev.Port ev.Head owner (bif (decide ((bif (decide (fuel < 0)) then (0 : Int) else fuel) > 100000)) then (100000 : Int) else (bif (decide (fuel < 0)) then (0 : Int) else fuel)) 0 ([] : List Change)).bind fun v =>
 (bif (v.2.2.2.2.2.2.2.1 != 0) then
  some ([], [], v.2.2.2.2.2.2.2.1)
 else
  some (v.1, v.2.2.2.2.2.2.2.2, 0)))
end Go.Proofs.Yteioljlgcagnnaa
namespace Go.Proofs.Yteioljlgcagnnaa
open Go.Sh
theorem LQ.cs {P : Program} {G : Tab} {n : Nat} {ops : Array Oper} {i : Nat} {t : Tmps} {h : List AO} [ok : Ok P G] {f : FuncId} {avs : List AV} {r : AV} (hc : ACalls P G.S f avs [] r []) (ds : List (TypeId × Bool) := []) (e : callWE (lendO G.S h) ds n ops i t f = some avs := by kernel_rfl) (hr : scalA r = true := by kernel_rfl) : LSpec P G.S n ops i .read t h r h := LSpec.cs hc ds e hr
abbrev K_z38 (g : (List Node) → (List ByteArray) → ByteArray → Option (Fault)) : Prop := ∀ (l : List Node) (vars : List ByteArray) (on : ByteArray) (f_l : Bool) (f_vars : Bool) (r : Fault) (H : g l vars on = some r), ACalls Try.prog tab.S 38 [.sl 30 (List.map Node.av l) f_l, .sl 9 (List.map strA vars) f_vars, .sc (.string on)] [] (Fault.av r) []
abbrev K_z58 (g : Node → (List ByteArray) → ByteArray → Option (Fault)) : Prop := ∀ (n : Node) (vars : List ByteArray) (on : ByteArray) (f_vars : Bool) (r : Fault) (H : g n vars on = some r), ACalls Try.prog tab.S 58 [Node.ag n, .sl 9 (List.map strA vars) f_vars, .sc (.string on)] [] (Fault.av r) []
noncomputable def z38_F : Go.Sh.Fn := ⟨38, bodyOf Try.f38, 27⟩
def z38_l0s (g_z58 : Node → (List ByteArray) → ByteArray → Option (Fault)) (vars : List ByteArray) (on : ByteArray) : List Node → Option (Sum (Unit) (Fault))
 | [] =>
  some (.inl ())
 | x :: rest =>
  (g_z58 x vars on).bind fun x1 =>
  (bif (x1.E != 0) then
   some (.inr x1)
  else
   z38_l0s g_z58 vars on rest )
theorem z38_l0_walk (g_z38 : (List Node) → (List ByteArray) → ByteArray → Option (Fault)) (H_g_z38 : K_z38 g_z38) (g_z58 : Node → (List ByteArray) → ByteArray → Option (Fault)) (H_g_z58 : K_z58 g_z58) (l : List Node) (vars : List ByteArray) (on : ByteArray) (f_l : Bool) (f_vars : Bool) (r : Fault) (c0 : Ctx) (hc0 : c0.m.length = 0) (res : Sum (Unit) (Fault)) (J : ∀ w : Unit, res = .inl w → AX Try.prog tab z38_F c0 (Rp tab.S c0 (Fault.av r) []) (some ⟨[.code [1, 1]], [(6, .ptr 0 0 none)], [.box 56 [.sc (.int .i64 0), .sc (.int .i64 0)]]⟩)) (Jr : ∀ w, res = .inr w → w = r) :
  ∀ (rest : List Node) (i : Nat) (z : Int) (hI : z = ((i : Nat) : Int)) (hd : l.drop i = rest) (H : z38_l0s g_z58 vars on rest = some res), AX Try.prog tab z38_F c0 (Rp tab.S c0 (Fault.av r) []) (some ⟨[.code [1, 0, 1, 0, 0], .loop [1, 0, 1, 0], .blk 0, .code [1, 1]], [(0, .sl 30 (List.map Node.av l) f_l), (1, .sl 9 (List.map strA vars) f_vars), (2, .sc (.string on)), (6, .ptr 0 0 none), (7, .sc (.int .i64 z))], [.box 56 [.sc (.int .i64 0), .sc (.int .i64 0)]]⟩) := by
 intro rest
 induction rest with
 | nil =>
  intro i z hI hd  H
  subst hI
  rw [z38_l0s] at H
  refine .facts 0 fun hf => ?_
  have hlen : l.length ≤ 9223372036854775807 := by have hq := len_ok hf.2.1; rw [List.length_map] at hq; exact hq
  have hge : l.length ≤ i := List.drop_eq_nil_iff.1 hd
  have hc : (decide (((i : Nat) : Int) < (((List.map Node.av l).length : Nat) : Int))) = false := by rw [List.length_map]; exact decide_eq_false (by omega)
  exact .sg 3 [0,1,2,6,7,12] (.cdF hc (.sg 1 [6] (.kp [6] (.to (J () (Option.some.inj H).symm)))))
 | cons x rest ih =>
  intro i z hI hd  H
  subst hI
  rw [z38_l0s] at H
  refine .facts 0 fun hf => ?_
  have hlen : l.length ≤ 9223372036854775807 := by have hq := len_ok hf.2.1; rw [List.length_map] at hq; exact hq
  obtain ⟨hlt, hv_i, hd2⟩ := drop_cons hd
  have hc : (decide (((i : Nat) : Int) < (((List.map Node.av l).length : Nat) : Int))) = true := by rw [List.length_map]; exact decide_eq_true (by omega)
  have hw : IntKind.i64.wrap (((i : Nat) : Int) + 1) = ((i + 1 : Nat) : Int) := wrapI_succ (by omega)
  refine .sg 3 [0,1,2,6,7,12] (.cdT hc (.sg 4 [0,1,2,6,7] (.rg (.sg 2 [0,1,2,6,7,15,16] (.xg [0,1,2,6,7,17] Node.av Node.ag Node.av_eq hv_i (.sg 3 [0,1,2,6,7,18,19,20] (bndO H fun x1 hv H => (.cp [0,1,2,6,7,21] (H_g_z58 _ _ _ f_vars x1 hv) (.sg 2 [0,1,2,6,7,8] (.dn (.sg 2 [0,1,2,6,7,8,24] (.cd (x1.E != 0) H (fun hb H => ?_) (fun hb H => ?_)))))))))))))
  ·
   refine .sg 2 [6] ?_
   obtain rfl := Option.some.inj H
   obtain rfl := Jr _ rfl
   exact .ret Try.func38 hc0
  ·
   exact .sg 3 [0,1,2,6,7] (.tl hc0 [0] [0,1,2,6,7] (.into (.cl (ih (i + 1) _ hw hd2 H))))
def z38_raw (g_z38 : (List Node) → (List ByteArray) → ByteArray → Option (Fault)) (g_z58 : Node → (List ByteArray) → ByteArray → Option (Fault)) (l : List Node) (vars : List ByteArray) (on : ByteArray) : Option (Fault) :=
 loopO (z38_l0s g_z58 vars on l) fun v =>
 some ({ E := 0, At := 0 } : Fault)
theorem z38_walk (g_z38 : (List Node) → (List ByteArray) → ByteArray → Option (Fault)) (H_g_z38 : K_z38 g_z38) (g_z58 : Node → (List ByteArray) → ByteArray → Option (Fault)) (H_g_z58 : K_z58 g_z58) (l : List Node) (vars : List ByteArray) (on : ByteArray) (f_l : Bool) (f_vars : Bool) (r : Fault) (H : z38_raw g_z38 g_z58 l vars on = some r) : ACalls Try.prog tab.S 38 [.sl 30 (List.map Node.av l) f_l, .sl 9 (List.map strA vars) f_vars, .sc (.string on)] [] (Fault.av r) [] := by
 refine .of_AX z38_F Try.func38 fun c0 hc0 => ?_
 rw [z38_raw] at H
 refine .sg 6 [0,1,2,6,7] ?_
 rcases loopO_some H with ⟨v, hv, H⟩ | hv
 case inr =>
  exact .into (.to (z38_l0_walk g_z38 H_g_z38 g_z58 H_g_z58 l vars on f_l f_vars _ c0 hc0 (.inr _) (fun _ e => by cases e) (fun _ e => (Sum.inr.inj e).symm) l 0 _ rfl rfl hv))
 refine .into (.to (z38_l0_walk g_z38 H_g_z38 g_z58 H_g_z58 l vars on f_l f_vars r c0 hc0 (.inl v) (fun w e => ?_) (fun _ e => by cases e) l 0 _ rfl rfl hv))
 have e := Sum.inl.inj e
 subst e
 refine .sg 2 [6] ?_
 obtain rfl := Option.some.inj H
 exact .ret Try.func38 hc0
noncomputable def z58_F : Go.Sh.Fn := ⟨58, bodyOf Try.f58, 160⟩
def z58_l1 (n : Node) (i : Int) : Nat → Int → Int → Int → Option (Int × Int)
 | 0, _, _, _ => none
 | m + 1, j, f_0, f_1 =>
  (bif ((decide (j < i)) && (f_0 == 0)) then
  (ixO n.Kids j).bind fun x11 =>
  (ixO n.Kids i).bind fun x12 =>
  (bif (x11.Text == x12.Text) then
   (ixO n.Kids i).bind fun x13 =>
   z58_l1 n i m (IntKind.i64.wrap (j + 1)) 5 x13.At
  else
   z58_l1 n i m (IntKind.i64.wrap (j + 1)) f_0 f_1)
 else
  some (f_0, f_1))
theorem z58_l1_walk (q0 : Nat) (q1 : Nat) (g_z38 : (List Node) → (List ByteArray) → ByteArray → Option (Fault)) (H_g_z38 : K_z38 g_z38) (g_z58 : Node → (List ByteArray) → ByteArray → Option (Fault)) (H_g_z58 : K_z58 g_z58) (n : Node) (vars : List ByteArray) (on : ByteArray) (x : Int × Bool) (i : Int) (x7 : Node) (x8 : Node) (x9 : Node) (x10 : Fault) (f_vars : Bool) (r : Fault) (c0 : Ctx) (hc0 : c0.m.length = 0) (res : Int × Int) (J : AX Try.prog tab z58_F c0 (Rp tab.S c0 (Fault.av r) []) (some ⟨[.code [1, 1, 0, 1, 0, 1, 1, 1, 1, 1, 1, 1, 1, 1, 0, 0, 1, 0, 0, 1, 0, 0, 1, 1], .blk 2, .code [1, 1, 0, 1, 0, 1, 1, 1, 1, 1, 1, 1, 1, 1, 0, 0, 1, 0, 0, 1, 1], .loop [1, 1, 0, 1, 0, 1, 1, 1, 1, 1, 1, 1, 1, 1, 0, 0, 1, 0], .blk 1, .code [1, 1, 0, 1, 0, 1, 1, 1, 1, 1, 1, 1, 1, 1, 0, 1], .blk 0, .code [1, 1, 1]], [(1, .sl 9 (List.map strA vars) f_vars), (2, .sc (.string on)), (3, .ep [.sc (.int .i64 n.Kind), .sc (.string n.Text), .sc (.int .i64 n.Num), .sl 30 (List.map Node.av n.Kids) false, .sc (.int .i64 n.At)] 0 none), (6, .ptr 0 0 none), (9, .sc (.int .i64 i)), (10, .ptr 1 0 none)], [.box 56 [.sc (.int .i64 0), .sc (.int .i64 0)], .box 56 [.sc (.int .i64 res.1), .sc (.int .i64 res.2)]]⟩)) :
  ∀ (m : Nat) (j : Int) (f_0 : Int) (f_1 : Int) (H : z58_l1 n i m j f_0 f_1 = some res), AX Try.prog tab z58_F c0 (Rp tab.S c0 (Fault.av r) []) (some ⟨[.code [1, 1, 0, 1, 0, 1, 1, 1, 1, 1, 1, 1, 1, 1, 0, 0, 1, 0, 0, 1, 0, 0, 1, 0, 1, 0, 0], .loop [1, 1, 0, 1, 0, 1, 1, 1, 1, 1, 1, 1, 1, 1, 0, 0, 1, 0, 0, 1, 0, 0, 1, 0, 1, 0], .blk 3, .code [1, 1, 0, 1, 0, 1, 1, 1, 1, 1, 1, 1, 1, 1, 0, 0, 1, 0, 0, 1, 0, 0, 1, 1], .blk 2, .code [1, 1, 0, 1, 0, 1, 1, 1, 1, 1, 1, 1, 1, 1, 0, 0, 1, 0, 0, 1, 1], .loop [1, 1, 0, 1, 0, 1, 1, 1, 1, 1, 1, 1, 1, 1, 0, 0, 1, 0], .blk 1, .code [1, 1, 0, 1, 0, 1, 1, 1, 1, 1, 1, 1, 1, 1, 0, 1], .blk 0, .code [1, 1, 1]], [(1, .sl 9 (List.map strA vars) f_vars), (2, .sc (.string on)), (3, .ep [.sc (.int .i64 n.Kind), .sc (.string n.Text), .sc (.int .i64 n.Num), .sl 30 (List.map Node.av n.Kids) false, .sc (.int .i64 n.At)] 0 none), (6, .ptr 0 0 none), (9, .sc (.int .i64 i)), (10, .ptr 1 0 none), (11, .sc (.int .i64 j))], [.box 56 [.sc (.int .i64 0), .sc (.int .i64 0)], .box 56 [.sc (.int .i64 f_0), .sc (.int .i64 f_1)]]⟩) := by
 intro m
 induction m with
 | zero => intro j f_0 f_1 H; cases H
 | succ m ih =>
  intro j f_0 f_1 H
  rw [z58_l1] at H
  refine .sg 2 [1,2,3,6,9,10,11] (.rg (.sg 4 [1,2,3,6,9,10,11,111] (.mx 0 [1,2,3,6,9,10,11,115] (.dn (.cd ((decide (j < i)) && (f_0 == 0)) H (fun hb H => ?_) (fun hb H => ?_))))))
  ·
   refine .sg 4 [1,2,3,6,9,10,11] (.rg (.sg 3 [1,2,3,6,9,10,11,119,120] (bndO H fun x11 hv H => (.xg [1,2,3,6,9,10,11,121] Node.av Node.ag Node.av_eq hv (.sg 5 [1,2,3,6,9,10,11,123,125,126] (bndO H fun x12 hv H => (.xg [1,2,3,6,9,10,11,123,127] Node.av Node.ag Node.av_eq hv (.sg 3 [1,2,3,6,9,10,11,130] (.dn (.cd (x11.Text == x12.Text) H (fun hb H => ?_) (fun hb H => ?_)))))))))))
   ·
    exact .rg (.sg 3 [1,2,3,6,9,10,11,132,133] (bndO H fun x13 hv H => (.xg [1,2,3,6,9,10,11,134] Node.av Node.ag Node.av_eq hv (.sg 4 [1,2,3,6,9,10,11] (.dn (.sg 2 [1,2,3,6,9,10,11] (.kp [1,2,3,6,9,10,11] (.into (.to (ih (IntKind.i64.wrap (j + 1)) 5 x13.At H))))))))))
   ·
    exact .sg 3 [1,2,3,6,9,10,11] (.kp [1,2,3,6,9,10,11] (.into (.to (ih (IntKind.i64.wrap (j + 1)) f_0 f_1 H))))
  ·
   refine .sg 1 [1,2,3,6,9,10] (.kp [1,2,3,6,9,10] ?_)
   obtain rfl := Option.some.inj H
   exact .to J
def z58_l0 (q1 : Nat) (g_z38 : (List Node) → (List ByteArray) → ByteArray → Option (Fault)) (g_z58 : Node → (List ByteArray) → ByteArray → Option (Fault)) (n : Node) (vars : List ByteArray) (on : ByteArray) : Nat → Int → Option (Sum (Unit) (Fault))
 | 0, _ => none
 | m + 1, i =>
  (bif (decide (i < (((List.map Node.av n.Kids).length : Nat) : Int))) then
  (ixO n.Kids i).bind fun x7 =>
  (ixO n.Kids i).bind fun x8 =>
  (ixO n.Kids i).bind fun x9 =>
  (g_z58 ({ Kind := 13, Text := x7.Text, Num := x8.Num, Kids := [], At := x9.At } : Node) vars on).bind fun x10 =>
  (z58_l1 n i q1 0 x10.E x10.At).bind fun v =>
  (bif (v.1 == 0) then
   (ixO n.Kids i).bind fun x11 =>
   (g_z38 x11.Kids vars on).bind fun x12 =>
   (bif (x12.E != 0) then
    some (.inr x12)
   else
    z58_l0 q1 g_z38 g_z58 n vars on m (IntKind.i64.wrap (i + 1)))
  else
   (bif (v.1 != 0) then
    some (.inr ({ E := v.1, At := v.2 } : Fault))
   else
    z58_l0 q1 g_z38 g_z58 n vars on m (IntKind.i64.wrap (i + 1))))
 else
  some (.inl ()))
theorem z58_l0_walk (q0 : Nat) (q1 : Nat) (g_z38 : (List Node) → (List ByteArray) → ByteArray → Option (Fault)) (H_g_z38 : K_z38 g_z38) (g_z58 : Node → (List ByteArray) → ByteArray → Option (Fault)) (H_g_z58 : K_z58 g_z58) (n : Node) (vars : List ByteArray) (on : ByteArray) (x : Int × Bool) (f_vars : Bool) (r : Fault) (c0 : Ctx) (hc0 : c0.m.length = 0) (res : Sum (Unit) (Fault)) (J : ∀ w : Unit, res = .inl w → AX Try.prog tab z58_F c0 (Rp tab.S c0 (Fault.av r) []) (some ⟨[.code [1, 1, 0, 1, 0, 1, 1, 1, 1, 1, 1, 1, 1, 1, 0, 1], .blk 0, .code [1, 1, 1]], [(6, .ptr 0 0 none)], [.box 56 [.sc (.int .i64 0), .sc (.int .i64 0)]]⟩)) (Jr : ∀ w, res = .inr w → w = r) :
  ∀ (m : Nat) (i : Int) (H : z58_l0 q1 g_z38 g_z58 n vars on m i = some res), AX Try.prog tab z58_F c0 (Rp tab.S c0 (Fault.av r) []) (some ⟨[.code [1, 1, 0, 1, 0, 1, 1, 1, 1, 1, 1, 1, 1, 1, 0, 0, 1, 0, 0], .loop [1, 1, 0, 1, 0, 1, 1, 1, 1, 1, 1, 1, 1, 1, 0, 0, 1, 0], .blk 1, .code [1, 1, 0, 1, 0, 1, 1, 1, 1, 1, 1, 1, 1, 1, 0, 1], .blk 0, .code [1, 1, 1]], [(1, .sl 9 (List.map strA vars) f_vars), (2, .sc (.string on)), (3, .ep [.sc (.int .i64 n.Kind), .sc (.string n.Text), .sc (.int .i64 n.Num), .sl 30 (List.map Node.av n.Kids) false, .sc (.int .i64 n.At)] 0 none), (6, .ptr 0 0 none), (9, .sc (.int .i64 i))], [.box 56 [.sc (.int .i64 0), .sc (.int .i64 0)]]⟩) := by
 intro m
 induction m with
 | zero => intro i H; cases H
 | succ m ih =>
  intro i H
  rw [z58_l0] at H
  refine .sg 3 [1,2,3,6,9,83] (.cd (decide (i < (((List.map Node.av n.Kids).length : Nat) : Int))) H (fun hb H => ?_) (fun hb H => ?_))
  ·
   refine .sg 4 [1,2,3,6,9] (.rg (.sg 3 [1,2,3,6,9,87,88] (bndO H fun x7 hv H => (.xg [1,2,3,6,9,89] Node.av Node.ag Node.av_eq hv (.sg 5 [1,2,3,6,9,91,93,94] (bndO H fun x8 hv H => (.xg [1,2,3,6,9,91,95] Node.av Node.ag Node.av_eq hv (.sg 5 [1,2,3,6,9,91,97,99,100] (bndO H fun x9 hv H => (.xg [1,2,3,6,9,91,97,101] Node.av Node.ag Node.av_eq hv (.sg 5 [1,2,3,6,9,104,105,106] (bndO H fun x10 hv H => (.cp [1,2,3,6,9,107] (ds := [(30, false)]) (H_g_z58 _ _ _ f_vars x10 hv) (.sg 2 [1,2,3,6,9,10] (.dn (.sg 4 [1,2,3,6,9,10,11] ?_))))))))))))))))
   refine bndO H fun v hv H => (.into (.to (z58_l1_walk q0 q1 g_z38 H_g_z38 g_z58 H_g_z58 n vars on x i x7 x8 x9 x10 f_vars r c0 hc0 v ?_ q1 0 x10.E x10.At hv)))
   refine .sg 3 [1,2,3,6,9,10,140] (.cd (v.1 == 0) H (fun hb H => ?_) (fun hb H => ?_))
   ·
    refine .rg (.sg 3 [1,2,3,6,9,10,142,143] (bndO H fun x11 hv H => (.xg [1,2,3,6,9,10,144] Node.av Node.ag Node.av_eq hv (.sg 4 [1,2,3,6,9,10,146,147,148] (bndO H fun x12 hv H => (.cp [1,2,3,6,9,10,149] (H_g_z38 _ _ _ false f_vars x12 hv) (.sg 1 [1,2,3,6,9,10] (.dn (.sg 2 [1,2,3,6,9,10,152] (.cd (x12.E != 0) H (fun hb H => ?_) (fun hb H => ?_)))))))))))
    ·
     refine .sg 2 [6] ?_
     obtain rfl := Option.some.inj H
     obtain rfl := Jr _ rfl
     exact .ret Try.func58 hc0
    ·
     exact .sg 3 [1,2,3,6,9] (.tl hc0 [0] [1,2,3,6,9] (.into (.to (ih (IntKind.i64.wrap (i + 1)) H))))
   ·
    refine .sg 3 [1,2,3,6,9,10,152] (.cd (v.1 != 0) H (fun hb H => ?_) (fun hb H => ?_))
    ·
     refine .sg 2 [6] ?_
     obtain rfl := Option.some.inj H
     obtain rfl := Jr _ rfl
     exact .ret Try.func58 hc0
    ·
     exact .sg 3 [1,2,3,6,9] (.tl hc0 [0] [1,2,3,6,9] (.into (.to (ih (IntKind.i64.wrap (i + 1)) H))))
  ·
   exact .sg 1 [6] (.kp [6] (.to (J () (Option.some.inj H).symm)))
def z58_raw (q0 : Nat) (q1 : Nat) (g_z38 : (List Node) → (List ByteArray) → ByteArray → Option (Fault)) (g_z58 : Node → (List ByteArray) → ByteArray → Option (Fault)) (n : Node) (vars : List ByteArray) (on : ByteArray) : Option (Fault) :=
 (z57_raw n.Text).bind fun x =>
 (bif (n.Kind == 4) then
  (bif (!(z36 vars n.Text)) then
   some ({ E := 14, At := n.At } : Fault)
  else
   (g_z38 n.Kids vars on).bind fun x1 =>
   some x1)
 else
  (bif (n.Kind == 19) then
   (bif (!(z36 vars n.Text)) then
    (z37_raw on n.Text).bind fun x2 =>
    (bif (!x2) then
     some ({ E := 14, At := n.At } : Fault)
    else
     (g_z38 n.Kids vars on).bind fun x3 =>
     some x3)
   else
    (g_z38 n.Kids vars on).bind fun x4 =>
    some x4)
  else
   (bif (bif (n.Kind == 13) then (n.Kind == 13) else (n.Kind == 16)) then
    (bif (!x.2) then
     some ({ E := 14, At := n.At } : Fault)
    else
     (bif ((n.Kind == 13) && (decide (n.Num > (sizeT x.1)))) then
      some ({ E := 13, At := n.At } : Fault)
     else
      (g_z38 n.Kids vars on).bind fun x5 =>
      some x5))
   else
    (bif (n.Kind == 14) then
     (bif (decide ((((List.map Node.av n.Kids).length : Nat) : Int) > 8)) then
      some ({ E := 3, At := n.At } : Fault)
     else
      (g_z38 n.Kids vars on).bind fun x6 =>
      some x6)
    else
     (bif (n.Kind == 12) then
      loopO (z58_l0 q1 g_z38 g_z58 n vars on q0 0) fun v =>
      some ({ E := 0, At := 0 } : Fault)
     else
      (g_z38 n.Kids vars on).bind fun x7 =>
      some x7)))))
theorem z58_walk (q0 : Nat) (q1 : Nat) (g_z38 : (List Node) → (List ByteArray) → ByteArray → Option (Fault)) (H_g_z38 : K_z38 g_z38) (g_z58 : Node → (List ByteArray) → ByteArray → Option (Fault)) (H_g_z58 : K_z58 g_z58) (n : Node) (vars : List ByteArray) (on : ByteArray) (f_vars : Bool) (r : Fault) (H : z58_raw q0 q1 g_z38 g_z58 n vars on = some r) : ACalls Try.prog tab.S 58 [Node.ag n, .sl 9 (List.map strA vars) f_vars, .sc (.string on)] [] (Fault.av r) [] := by
 refine .of_AX z58_F Try.func58 fun c0 hc0 => ?_
 rw [z58_raw] at H
 refine .sg 1 [0,1,2] (.rg (.bx [1,2,3] (.sg 1 [1,2,3,6] (.dn (.sg 1 [1,2,3,6] (.rg (.sg 2 [1,2,3,6,14] (bndO H fun x hv H => (.cp [1,2,3,6,15] (z57_walk _ x hv) (.sg 5 [1,2,3,6,7,8] (.dn (.sg 6 [1,2,3,6,7,8,19,20] (.cd (n.Kind == 4) H (fun hb H => ?_) (fun hb H => ?_))))))))))))))
 ·
  refine .sg 1 [1,2,3,6] (.rg (.sg 3 [1,2,3,6,22,24] (.cp [1,2,3,6,25] (z36_calls vars n.Text f_vars) (.sg 1 [1,2,3,6,26] (.dn (.cd (!(z36 vars n.Text)) H (fun hb H => ?_) (fun hb H => ?_)))))))
  ·
   refine .sg 2 [6] ?_
   obtain rfl := Option.some.inj H
   exact .ret Try.func58 hc0
  ·
   refine .sg 3 [1,2,3,6] (.rg (.sg 4 [6,156,157,158] (bndO H fun x1 hv H => (.cp [6,159] (H_g_z38 _ _ _ false f_vars x1 hv) (.sg 1 [6] (.dn ?_))))))
   obtain rfl := Option.some.inj H
   exact .ret Try.func58 hc0
 ·
  refine .sg 2 [1,2,3,6,7,8,19,30] (.cd (n.Kind == 19) H (fun hb H => ?_) (fun hb H => ?_))
  ·
   refine .sg 1 [1,2,3,6] (.rg (.sg 3 [1,2,3,6,32,34] (.cp [1,2,3,6,35] (z36_calls vars n.Text f_vars) (.sg 2 [1,2,3,6,37] (.sp 37 (!(z36 vars n.Text)) H (fun hb H => ?_) (fun hb H => ?_))))))
   ·
    refine .sg 3 [1,2,3,6,37,38,40] (bndO H fun x2 hv H => (.cp [1,2,3,6,37,41] (z37_walk _ _ x2 hv) (.sg 2 [1,2,3,6,43] (.dn (.cd (!x2) H (fun hb H => ?_) (fun hb H => ?_))))))
    ·
     refine .sg 2 [6] ?_
     obtain rfl := Option.some.inj H
     exact .ret Try.func58 hc0
    ·
     refine .sg 3 [1,2,3,6] (.rg (.sg 4 [6,156,157,158] (bndO H fun x3 hv H => (.cp [6,159] (H_g_z38 _ _ _ false f_vars x3 hv) (.sg 1 [6] (.dn ?_))))))
     obtain rfl := Option.some.inj H
     exact .ret Try.func58 hc0
   ·
    refine .sg 6 [1,2,3,6,43] (.dn (.sg 4 [1,2,3,6] (.rg (.sg 4 [6,156,157,158] (bndO H fun x4 hv H => (.cp [6,159] (H_g_z38 _ _ _ false f_vars x4 hv) (.sg 1 [6] (.dn ?_))))))))
    obtain rfl := Option.some.inj H
    exact .ret Try.func58 hc0
  ·
   refine .sg 3 [1,2,3,6,7,8,19,47] (.jn (n.Kind == 13) [1, 2, 3, 6, 7, 8, 19, 47] (fun z => [(47, .sc (.bool (bif z then (n.Kind == 13) else (n.Kind == 16))))]) ?J1 (fun hb J => ?ht1) (fun hb J => ?hf1))
   case ht1 =>
    exact .sg 1 [1,2,3,6,7,8,19,47] (.cl J)
   case hf1 =>
    exact .sg 1 [1,2,3,6,7,8,19,47] (.cl J)
   refine .cd (bif (n.Kind == 13) then (n.Kind == 13) else (n.Kind == 16)) H (fun hb H => ?_) (fun hb H => ?_)
   ·
    refine .sg 3 [1,2,3,6,7,51] (.cd (!x.2) H (fun hb H => ?_) (fun hb H => ?_))
    ·
     refine .sg 2 [6] ?_
     obtain rfl := Option.some.inj H
     exact .ret Try.func58 hc0
    ·
     refine .sg 2 [1,2,3,6,7] (.rg (.sg 4 [1,2,3,6,7,58] (.mm 58 (n.Kind == 13) 6 [.pure, .pure, .pure, .pure, .pure, .pure] [1, 2, 3, 6, 64] 64 (fun z => .sc (.bool (z && (decide (n.Num > (sizeT x.1)))))) ?J2 (fun hb J => ?ht2) (fun hb J => ?hf2))))
     case ht2 =>
      exact .sg 3 [1,2,3,6,58,60,61] (.cp [1,2,3,6,58,60,62] (z46_ok x.1) (.sg 2 [1,2,3,6,64] (.cl J)))
     case hf2 =>
      exact .sg 6 [1,2,3,6,64] (.cl J)
     refine .dn (.cd ((n.Kind == 13) && (decide (n.Num > (sizeT x.1)))) H (fun hb H => ?_) (fun hb H => ?_))
     ·
      refine .sg 2 [6] ?_
      obtain rfl := Option.some.inj H
      exact .ret Try.func58 hc0
     ·
      refine .sg 3 [1,2,3,6] (.rg (.sg 4 [6,156,157,158] (bndO H fun x5 hv H => (.cp [6,159] (H_g_z38 _ _ _ false f_vars x5 hv) (.sg 1 [6] (.dn ?_))))))
      obtain rfl := Option.some.inj H
      exact .ret Try.func58 hc0
   ·
    refine .sg 2 [1,2,3,6,19,68] (.cd (n.Kind == 14) H (fun hb H => ?_) (fun hb H => ?_))
    ·
     refine .sg 2 [1,2,3,6,73] (.cd (decide ((((List.map Node.av n.Kids).length : Nat) : Int) > 8)) H (fun hb H => ?_) (fun hb H => ?_))
     ·
      refine .sg 2 [6] ?_
      obtain rfl := Option.some.inj H
      exact .ret Try.func58 hc0
     ·
      refine .sg 3 [1,2,3,6] (.rg (.sg 4 [6,156,157,158] (bndO H fun x6 hv H => (.cp [6,159] (H_g_z38 _ _ _ false f_vars x6 hv) (.sg 1 [6] (.dn ?_))))))
      obtain rfl := Option.some.inj H
      exact .ret Try.func58 hc0
    ·
     refine .sg 2 [1,2,3,6,77] (.cd (n.Kind == 12) H (fun hb H => ?_) (fun hb H => ?_))
     ·
      refine .sg 4 [1,2,3,6,9] ?_
      rcases loopO_some H with ⟨v, hv, H⟩ | hv
      case inr =>
       exact .into (.to (z58_l0_walk q0 q1 g_z38 H_g_z38 g_z58 H_g_z58 n vars on x f_vars r c0 hc0 (.inr r) (fun _ e => by cases e) (fun _ e => (Sum.inr.inj e).symm) q0 0 hv))
      refine .into (.to (z58_l0_walk q0 q1 g_z38 H_g_z38 g_z58 H_g_z58 n vars on x f_vars r c0 hc0 (.inl v) (fun w e => ?_) (fun _ e => by cases e) q0 0 hv))
      have e := Sum.inl.inj e
      subst e
      refine .sg 2 [6] ?_
      obtain rfl := Option.some.inj H
      exact .ret Try.func58 hc0
     ·
      refine .sg 3 [1,2,3,6] (.rg (.sg 4 [6,156,157,158] (bndO H fun x7 hv H => (.cp [6,159] (H_g_z38 _ _ _ false f_vars x7 hv) (.sg 1 [6] (.dn ?_))))))
      obtain rfl := Option.some.inj H
      exact .ret Try.func58 hc0
def ckG : Nat → ((List Node) → (List ByteArray) → ByteArray → Option (Fault)) × (Node → (List ByteArray) → ByteArray → Option (Fault))
 | 0 => (fun _ _ _ => none, fun _ _ _ => none)
 | q + 1 => (z38_raw (ckG q).1 (ckG q).2, z58_raw 20000 20000 (ckG q).1 (ckG q).2)
theorem ckG_walk : ∀ q : Nat, K_z38 ((ckG q).1) ∧ K_z58 ((ckG q).2)
 | 0 => ⟨(fun _ _ _ _ _ _ H => nomatch H), (fun _ _ _ _ _ H => nomatch H)⟩
 | q + 1 => ⟨z38_walk (ckG q).1 (ckG_walk q).1 (ckG q).2 (ckG_walk q).2, z58_walk 20000 20000 (ckG q).1 (ckG_walk q).1 (ckG q).2 (ckG_walk q).2⟩
noncomputable def z21_F : Go.Sh.Fn := ⟨21, bodyOf Try.f21, 99⟩
def z21_l0 (n : Node) : Nat → Int → List ByteArray → List ByteArray → Option (Sum ((List ByteArray) × (List ByteArray)) (Fault))
 | 0, _, _, _ => none
 | m + 1, i, vars, on =>
  (bif (decide (i < (((List.map Node.av n.Kids).length : Nat) : Int))) then
  (ixO n.Kids i).bind fun x =>
  (bif (x.Kind == 2) then
   (bif (z36 vars x.Text) then
    some (.inr ({ E := 14, At := x.At } : Fault))
   else
    (z37_raw (ByteArray.mk #[112, 97, 99, 107, 101, 116]) x.Text).bind fun x1 =>
    (bif x1 then
     some (.inr ({ E := 14, At := x.At } : Fault))
    else
     fitO (vars.length + [x.Text].length) 16 (
     (bif (decide ((((List.map strA (vars ++ [x.Text])).length : Nat) : Int) > 64)) then
      some (.inr ({ E := 13, At := x.At } : Fault))
     else
      z21_l0 n m (IntKind.i64.wrap (i + 1)) (vars ++ [x.Text]) on))))
  else
   (bif ((!(z36 [(ByteArray.mk #[112, 97, 99, 107, 101, 116]), (ByteArray.mk #[114, 101, 109, 111, 118, 101, 100]), (ByteArray.mk #[116, 105, 99, 107])] x.Text)) || (z36 on x.Text)) then
    some (.inr ({ E := 14, At := x.At } : Fault))
   else
    fitO (on.length + [x.Text].length) 16 (
    z21_l0 n m (IntKind.i64.wrap (i + 1)) vars (on ++ [x.Text]))))
 else
  some (.inl (vars, on)))
theorem z21_l0_walk (q0 : Nat) (q1 : Nat) (n : Node)  (r : Fault) (c0 : Ctx) (hc0 : c0.m.length = 0) (res : Sum ((List ByteArray) × (List ByteArray)) (Fault)) (J : ∀ w : (List ByteArray) × (List ByteArray), res = .inl w → AX Try.prog tab z21_F c0 (Rp tab.S c0 (Fault.av r) []) (some ⟨[.code [1, 1, 1]], [(1, .ep [.sc (.int .i64 n.Kind), .sc (.string n.Text), .sc (.int .i64 n.Num), .sl 30 (List.map Node.av n.Kids) false, .sc (.int .i64 n.At)] 0 none), (2, .ptr 0 0 none), (3, .own 1 1000000)], [.box 56 [.sc (.int .i64 0), .sc (.int .i64 0)], .row 9 (List.map strA w.1) 1000000 true, .row 9 (List.map strA w.2) 1000000 true]⟩)) (Jr : ∀ w, res = .inr w → w = r) :
  ∀ (m : Nat) (i : Int) (vars : List ByteArray) (on : List ByteArray) (H : z21_l0 n m i vars on = some res), AX Try.prog tab z21_F c0 (Rp tab.S c0 (Fault.av r) []) (some ⟨[.code [1, 1, 0, 1, 0, 0], .loop [1, 1, 0, 1, 0], .blk 0, .code [1, 1, 1]], [(1, .ep [.sc (.int .i64 n.Kind), .sc (.string n.Text), .sc (.int .i64 n.Num), .sl 30 (List.map Node.av n.Kids) false, .sc (.int .i64 n.At)] 0 none), (2, .ptr 0 0 none), (3, .own 1 1000000), (4, .own 2 1000000), (5, .sc (.int .i64 i))], [.box 56 [.sc (.int .i64 0), .sc (.int .i64 0)], .row 9 (List.map strA vars) 1000000 true, .row 9 (List.map strA on) 1000000 true]⟩) := by
 intro m
 induction m with
 | zero => intro i vars on H; cases H
 | succ m ih =>
  intro i vars on H
  rw [z21_l0] at H
  refine .sg 3 [1,2,3,4,5,13] (.cd (decide (i < (((List.map Node.av n.Kids).length : Nat) : Int))) H (fun hb H => ?_) (fun hb H => ?_))
  ·
   refine .sg 4 [1,2,3,4,5] (.rg (.sg 3 [1,2,3,4,5,17,18] (bndO H fun x hv H => (.xg [1,2,3,4,5,19] Node.av Node.ag Node.av_eq hv (.sg 3 [1,2,3,4,5,6] (.dn (.sg 2 [1,2,3,4,5,6,23] (.cd (x.Kind == 2) H (fun hb H => ?_) (fun hb H => ?_)))))))))
   ·
    refine .sg 2 [1,2,3,4,5,6] (.rg (.sg 3 [1,2,3,4,5,6,24,26] (.cs [1,2,3,4,5,6,27] (z36_calls vars x.Text false) (.sg 1 [1,2,3,4,5,6,28] (.sp 28 (z36 vars x.Text) H (fun hb H => ?_) (fun hb H => ?_))))))
    ·
     refine .sg 4 [1,2,3,4,5,6,32] (.dn (.sg 3 [2] ?_))
     obtain rfl := Option.some.inj H
     obtain rfl := Jr _ rfl
     exact .ret Try.func21 hc0
    ·
     refine .sg 2 [1,2,3,4,5,6,28,30] (bndO H fun x1 hv H => (.cp [1,2,3,4,5,6,28,31] (z37_walk _ _ x1 hv) (.sg 1 [1,2,3,4,5,6,32] (.dn (.cd x1 H (fun hb H => ?_) (fun hb H => ?_))))))
     ·
      refine .sg 2 [2] ?_
      obtain rfl := Option.some.inj H
      obtain rfl := Jr _ rfl
      exact .ret Try.func21 hc0
     ·
      refine .sg 2 [1,2,3,4,5,6] (.rg (.sg 4 [1,2,4,5,6,36,39] (fitH H fun hfit H => (.ap [1,2,4,5,6,40] strA hfit (.sg 1 [1,2,3,4,5,6] (.dn (.sg 2 [1,2,3,4,5,6,43] (.cd (decide ((((List.map strA (vars ++ [x.Text])).length : Nat) : Int) > 64)) H (fun hb H => ?_) (fun hb H => ?_)))))))))
      ·
       refine .sg 2 [2] ?_
       obtain rfl := Option.some.inj H
       obtain rfl := Jr _ rfl
       exact .ret Try.func21 hc0
      ·
       exact .sg 3 [1,2,3,4,5] (.tl hc0 [0,1,2] [1,2,3,4,5] (.into (.to (ih (IntKind.i64.wrap (i + 1)) (vars ++ [x.Text]) on H))))
   ·
    refine .sg 2 [1,2,3,4,5,6] (.rg (.sg 3 [1,2,3,4,5,6,47,49] (.cp [1,2,3,4,5,6,50] (z36_calls [(ByteArray.mk #[112, 97, 99, 107, 101, 116]), (ByteArray.mk #[114, 101, 109, 111, 118, 101, 100]), (ByteArray.mk #[116, 105, 99, 107])] x.Text true) (.sg 2 [1,2,3,4,5,6,52] (.mm 52 (!(z36 [(ByteArray.mk #[112, 97, 99, 107, 101, 116]), (ByteArray.mk #[114, 101, 109, 111, 118, 101, 100]), (ByteArray.mk #[116, 105, 99, 107])] x.Text)) 5 [.pure, .read, .read, .pure, .pure] [1, 2, 3, 4, 5, 6, 57] 57 (fun z => .sc (.bool (z || (z36 on x.Text)))) ?J4 (fun hb J => ?ht4) (fun hb J => ?hf4))))))
    case ht4 =>
     exact .sg 5 [1,2,3,4,5,6,57] (.cl J)
    case hf4 =>
     exact .sg 3 [1,2,3,4,5,6,52,53,55] (.cs [1,2,3,4,5,6,52,56] (z36_calls on x.Text false) (.sg 1 [1,2,3,4,5,6,57] (.cl J)))
    refine .dn (.cd ((!(z36 [(ByteArray.mk #[112, 97, 99, 107, 101, 116]), (ByteArray.mk #[114, 101, 109, 111, 118, 101, 100]), (ByteArray.mk #[116, 105, 99, 107])] x.Text)) || (z36 on x.Text)) H (fun hb H => ?_) (fun hb H => ?_))
    ·
     refine .sg 2 [2] ?_
     obtain rfl := Option.some.inj H
     obtain rfl := Jr _ rfl
     exact .ret Try.func21 hc0
    ·
     exact .sg 1 [1,2,3,4,5,6] (.rg (.sg 4 [1,2,3,5,61,64] (fitH H fun hfit H => (.ap [1,2,3,5,65] strA hfit (.sg 1 [1,2,3,4,5] (.dn (.sg 2 [1,2,3,4,5] (.tl hc0 [0,1,2] [1,2,3,4,5] (.into (.to (ih (IntKind.i64.wrap (i + 1)) vars (on ++ [x.Text]) H)))))))))))
  ·
   exact .sg 1 [1,2,3] (.kp [1,2,3] (.to (J (vars, on) (Option.some.inj H).symm)))
def z21_l1 (n : Node) (v : (List ByteArray) × (List ByteArray)) : Nat → Int → Option (Sum (Unit) (Fault))
 | 0, _ => none
 | m + 1, i1 =>
  (bif (decide (i1 < (((List.map Node.av n.Kids).length : Nat) : Int))) then
  (ixO n.Kids i1).bind fun x =>
  (bif (x.Kind == 3) then
   (ixO n.Kids i1).bind fun x1 =>
   (ixO n.Kids i1).bind fun x2 =>
   ((ckG 40000).1 x1.Kids v.1 x2.Text).bind fun x3 =>
   (bif (x3.E != 0) then
    some (.inr x3)
   else
    z21_l1 n v m (IntKind.i64.wrap (i1 + 1)))
  else
   z21_l1 n v m (IntKind.i64.wrap (i1 + 1)))
 else
  some (.inl ()))
theorem z21_l1_walk (q0 : Nat) (q1 : Nat) (n : Node) (v : (List ByteArray) × (List ByteArray))  (r : Fault) (c0 : Ctx) (hc0 : c0.m.length = 0) (res : Sum (Unit) (Fault)) (J : ∀ w : Unit, res = .inl w → AX Try.prog tab z21_F c0 (Rp tab.S c0 (Fault.av r) []) (some ⟨[.code [1, 1, 1, 1]], [(2, .ptr 0 0 none)], [.box 56 [.sc (.int .i64 0), .sc (.int .i64 0)], .row 9 (List.map strA v.1) 1000000 true, .row 9 (List.map strA v.2) 1000000 true]⟩)) (Jr : ∀ w, res = .inr w → w = r) :
  ∀ (m : Nat) (i1 : Int) (H : z21_l1 n v m i1 = some res), AX Try.prog tab z21_F c0 (Rp tab.S c0 (Fault.av r) []) (some ⟨[.code [1, 1, 1, 0, 1, 0, 0], .loop [1, 1, 1, 0, 1, 0], .blk 2, .code [1, 1, 1, 1]], [(1, .ep [.sc (.int .i64 n.Kind), .sc (.string n.Text), .sc (.int .i64 n.Num), .sl 30 (List.map Node.av n.Kids) false, .sc (.int .i64 n.At)] 0 none), (2, .ptr 0 0 none), (3, .own 1 1000000), (7, .sc (.int .i64 i1))], [.box 56 [.sc (.int .i64 0), .sc (.int .i64 0)], .row 9 (List.map strA v.1) 1000000 true, .row 9 (List.map strA v.2) 1000000 true]⟩) := by
 intro m
 induction m with
 | zero => intro i1 H; cases H
 | succ m ih =>
  intro i1 H
  rw [z21_l1] at H
  refine .sg 3 [1,2,3,7,70] (.cd (decide (i1 < (((List.map Node.av n.Kids).length : Nat) : Int))) H (fun hb H => ?_) (fun hb H => ?_))
  ·
   refine .sg 4 [1,2,3,7] (.rg (.sg 3 [1,2,3,7,74,75] (bndO H fun x hv H => (.xg [1,2,3,7,76] Node.av Node.ag Node.av_eq hv (.sg 3 [1,2,3,7,79] (.dn (.cd (x.Kind == 3) H (fun hb H => ?_) (fun hb H => ?_))))))))
   ·
    refine .sg 1 [1,2,3,7] (bndO H fun x1 hv_x1 H => (bndO H fun x2 hv_x2 H => (bndO H fun x3 hv_x3 H => (.rp hc0 [1, 2, 3, 7, 8] [⟨3, [], [], .pure, [(81, .sl 30 (List.map Node.av n.Kids) false), (82, .sc (.int .i64 i1))], [.box 56 [.sc (.int .i64 0), .sc (.int .i64 0)], .row 9 (List.map strA v.1) 1000000 true, .row 9 (List.map strA v.2) 1000000 true], .ep [.sc (.int .i64 x1.Kind), .sc (.string x1.Text), .sc (.int .i64 x1.Num), .sl 30 (List.map Node.av x1.Kids) false, .sc (.int .i64 x1.At)] 0 none, [.box 56 [.sc (.int .i64 0), .sc (.int .i64 0)], .row 9 (List.map strA v.1) 1000000 true, .row 9 (List.map strA v.2) 1000000 true]⟩, ⟨10, [], [], .pure, [(88, .sl 30 (List.map Node.av n.Kids) false), (89, .sc (.int .i64 i1))], [.box 56 [.sc (.int .i64 0), .sc (.int .i64 0)], .row 9 (List.map strA v.1) 1000000 true, .row 9 (List.map strA v.2) 1000000 true], .ep [.sc (.int .i64 x2.Kind), .sc (.string x2.Text), .sc (.int .i64 x2.Num), .sl 30 (List.map Node.av x2.Kids) false, .sc (.int .i64 x2.At)] 0 none, [.box 56 [.sc (.int .i64 0), .sc (.int .i64 0)], .row 9 (List.map strA v.1) 1000000 true, .row 9 (List.map strA v.2) 1000000 true]⟩, ⟨13, [], [14], .read, [(85, .sl 30 (List.map Node.av x1.Kids) false), (86, .own 1 1000000), (92, .sc (.string x2.Text))], [.box 56 [.sc (.int .i64 0), .sc (.int .i64 0)], .row 9 (List.map strA v.1) 1000000 true, .row 9 (List.map strA v.2) 1000000 true], Fault.av x3, [.box 56 [.sc (.int .i64 0), .sc (.int .i64 0)], .row 9 (List.map strA v.1) 1000000 true, .row 9 (List.map strA v.2) 1000000 true]⟩, ⟨13, [14], [], .read, [(85, .sl 30 (List.map Node.av x1.Kids) false), (86, .own 1 1000000), (92, .sc (.string x2.Text))], [.box 56 [.sc (.int .i64 0), .sc (.int .i64 0)], .row 9 (List.map strA v.1) 1000000 true, .row 9 (List.map strA v.2) 1000000 true, .box 56 [.sc (.int .i64 0), .sc (.int .i64 0)]], Fault.av x3, [.box 56 [.sc (.int .i64 0), .sc (.int .i64 0)], .row 9 (List.map strA v.1) 1000000 true, .row 9 (List.map strA v.2) 1000000 true, .box 56 [.sc (.int .i64 0), .sc (.int .i64 0)]]⟩] [[0, 1, 2, 3], [0, 1, 2, 3]] (.cons (LQ.xg Node.av Node.ag Node.av_eq hv_x1) (.cons (LQ.xg Node.av Node.ag Node.av_eq hv_x2) (.cons (LQ.cs ((ckG_walk 40000).1 _ _ _ false false x3 hv_x3)) (.cons (LQ.cs ((ckG_walk 40000).1 _ _ _ false false x3 hv_x3)) .nil)))) (by kernel_rfl) (.sg 2 [1,2,3,7,8,96] (.cd (x3.E != 0) H (fun hb H => ?_) (fun hb H => ?_)))))))
    ·
     refine .sg 2 [2] ?_
     obtain rfl := Option.some.inj H
     obtain rfl := Jr _ rfl
     exact .ret Try.func21 hc0
    ·
     exact .sg 3 [1,2,3,7] (.tl hc0 [0,1,2] [1,2,3,7] (.into (.to (ih (IntKind.i64.wrap (i1 + 1)) H))))
   ·
    exact .sg 3 [1,2,3,7] (.kp [1,2,3,7] (.into (.to (ih (IntKind.i64.wrap (i1 + 1)) H))))
  ·
   exact .sg 1 [2] (.kp [2] (.to (J () (Option.some.inj H).symm)))
def z21_raw (q0 : Nat) (q1 : Nat) (n : Node) : Option (Fault) :=
 loopO (z21_l0 n q0 0 ([] : List ByteArray) ([] : List ByteArray)) fun v =>
 loopO (z21_l1 n v q1 0) fun v1 =>
 some ({ E := 0, At := 0 } : Fault)
theorem z21_walk (q0 : Nat) (q1 : Nat) (n : Node) (r : Fault) (H : z21_raw q0 q1 n = some r) : ACalls Try.prog tab.S 21 [Node.ag n] [] (Fault.av r) [] := by
 refine .of_AX z21_F Try.func21 fun c0 hc0 => ?_
 rw [z21_raw] at H
 refine .sg 1 [0] (.rg (.bx [1] (.sg 1 [1,2] (.dn (.sg 6 [1,2,3,4,5] (.ad 3 9 true (.kp [1,2,3,4,5] (.ad 4 9 true (.kp [1,2,3,4,5] ?_)))))))))
 rcases loopO_some H with ⟨v, hv, H⟩ | hv
 case inr =>
  exact .into (.to (z21_l0_walk q0 q1 n r c0 hc0 (.inr r) (fun _ e => by cases e) (fun _ e => (Sum.inr.inj e).symm) q0 0 ([] : List ByteArray) ([] : List ByteArray) hv))
 refine .into (.to (z21_l0_walk q0 q1 n r c0 hc0 (.inl v) (fun w e => ?_) (fun _ e => by cases e) q0 0 ([] : List ByteArray) ([] : List ByteArray) hv))
 have e := Sum.inl.inj e
 subst e
 refine .sg 4 [1,2,3,7] ?_
 rcases loopO_some H with ⟨v1, hv, H⟩ | hv
 case inr =>
  exact .into (.to (z21_l1_walk q0 q1 n v r c0 hc0 (.inr r) (fun _ e => by cases e) (fun _ e => (Sum.inr.inj e).symm) q1 0 hv))
 refine .into (.to (z21_l1_walk q0 q1 n v r c0 hc0 (.inl v1) (fun w e => ?_) (fun _ e => by cases e) q1 0 hv))
 have e := Sum.inl.inj e
 subst e
 refine .sg 2 [2] ?_
 obtain rfl := Option.some.inj H
 exact .ret Try.func21 hc0
end Go.Proofs.Yteioljlgcagnnaa