import Derived.Test.YtjchejmakdkioaaR4
set_option linter.unusedVariables false
set_option maxRecDepth 100000
namespace Go.Proofs.Ytjchejmakdkioaa
open Go.Sh
def trit (a b : Bool) : Int := bif !b then 120 else bif a then 49 else 48
theorem Text_l1_eq (x x1 : List Bool) (ok : Bool) (e : Nat) (hx : x1.length = x.length) (hl : x.length ≤ 64) : ∀ (n k : Nat) (out : List Int), k + n = x.length → out.length + n ≤ 10000 →
    podestaref01_Text_l1 x x1 ok (e + n + 1) k out = some (ok, out ++ List.zipWith trit (x.drop k) (x1.drop k))
  | 0, k, out, h1, h2 => by
      rw [podestaref01_Text_l1, List.length_map, decide_eq_false (by omega), List.drop_eq_nil_of_le (by omega)]
      simp
  | n + 1, k, out, h1, h2 => by
      rw [podestaref01_Text_l1, List.length_map, decide_eq_true (by omega), ixO_lt (by omega), ixO_lt (by omega)]
      simp only [cond_true, Option.bind_some]
      rw [List.drop_eq_getElem_cons (show k < x.length by omega), List.drop_eq_getElem_cons (show k < x1.length by omega), List.zipWith_cons_cons]
      have go : ∀ c : Int, trit x[k] x1[k] = c → fitO (out.length + [c].length) 1 (podestaref01_Text_l1 x x1 ok (e + n + 1) (IntKind.i64.wrap ((k : Int) + 1)) (out ++ [c])) = some (ok, out ++ trit x[k] x1[k] :: List.zipWith trit (x.drop (k + 1)) (x1.drop (k + 1))) := by
        intro c hc
        rw [fitO_eq (by simp only [List.length_singleton]; omega), wrap_succ (by omega), Text_l1_eq x x1 ok e hx hl n (k + 1) _ (by omega) (by simp; omega), List.append_assoc, List.singleton_append, hc]
      show (bif !x1[k] then _ else _) = _
      cases hb : x1[k]
      · simp only [Bool.not_false, cond_true]
        have := go 120 (by rw [hb]; rfl)
        rw [hb] at this
        exact this
      · simp only [Bool.not_true, cond_false]
        cases ha : x[k]
        · simp only [cond_false]
          have := go 48 (by rw [ha, hb]; rfl)
          rw [ha, hb] at this
          exact this
        · simp only [cond_true]
          have := go 49 (by rw [ha, hb]; rfl)
          rw [ha, hb] at this
          exact this

def sz (i : Nat) : Nat := (Size i).toNat
def chunkT (c : Cube) (i : Nat) : List Int := List.zipWith trit (Bits (c.Value.getD i 0) (sz i)) (Bits (c.Care.getD i 0) (sz i))
def badAt (c : Cube) (i : Nat) : Bool := (IntKind.u64.wrap ((BitVec.ofInt 64 (c.Value.getD i 0) &&& ~~~ (BitVec.ofInt 64 (c.Care.getD i 0))).toNat)) != 0
theorem Bits_length (v : Int) (n : Nat) : (Bits v n).length = n := by simp [Bits]
theorem sz_le (i : Nat) : sz i ≤ 48 := by have := Size_le i; unfold sz; omega
theorem BitsO_eq (v : Int) (i : Nat) : BitsO v (Size i) = some (Bits v (sz i)) := by
  have := Size_le i
  unfold BitsO
  rw [if_pos (by omega)]
  rfl
theorem chunkT_length (c : Cube) (i : Nat) : (chunkT c i).length ≤ 48 := by
  have := sz_le i
  simp only [chunkT, List.length_zipWith, Bits_length]
  omega
theorem Text_l0_eq (c : Cube) : ∀ (n i : Nat) (ok : Bool) (out : List Int), i + n = 12 → out.length ≤ 48 * i →
    podestaref01_Text_l0 49 c (n + 1) ok i out = some (ok && (List.range' i n).all (fun j => !badAt c j), out ++ (List.range' i n).flatMap (chunkT c))
  | 0, i, ok, out, h1, h2 => by
      rw [podestaref01_Text_l0, decide_eq_false (by omega)]
      simp
  | n + 1, i, ok, out, h1, h2 => by
      rw [podestaref01_Text_l0, decide_eq_true (by omega)]
      simp only [cond_true]
      have hr : (decide (0 ≤ (i : Int)) && decide ((i : Int) < ((12 : Nat) : Int))) = true := by
        rw [Bool.and_eq_true, decide_eq_true_eq, decide_eq_true_eq]; omega
      have hz := sz_le i
      rw [hr, BitsO_eq, BitsO_eq, Int.toNat_natCast]
      show ((podestaref01_Text_l1 (Bits (c.Value.getD i 0) (sz i)) (Bits (c.Care.getD i 0) (sz i)) (bif badAt c i then false else ok) 49 ((0 : Nat) : Int) out).bind _) = _
      rw [show 49 = (48 - sz i) + sz i + 1 by omega, Text_l1_eq _ _ _ (48 - sz i) (by rw [Bits_length, Bits_length]) (by rw [Bits_length]; omega) (sz i) 0 out (by rw [Bits_length]; omega) (by omega)]
      simp only [Option.bind_some, List.drop_zero]
      rw [show (48 - sz i) + sz i + 1 = 49 by omega, wrap_succ (by omega)]
      have hl := chunkT_length c i
      rw [Text_l0_eq c n (i + 1) _ _ (by omega) (by rw [List.length_append]; unfold chunkT at hl; omega), List.range'_succ, List.all_cons, List.flatMap_cons, List.append_assoc]
      congr 2
      cases badAt c i <;> simp
def TextOk (c : Cube) : Bool := HeadOk c.Care && (List.range 12).all (fun j => !badAt c j)
def TextOf (c : Cube) : ByteArray × Bool := (strOfNums ((List.range 12).flatMap (chunkT c)), TextOk c)
theorem Text_calls (c : Cube) : ACalls Try.prog tab.S 67 [Cube.av c] [] (.tup [.sc (.string (TextOf c).1), .sc (.bool (TextOf c).2)]) [] := by
  refine podestaref01_Text_walk 13 49 c (TextOf c) ?_
  rw [podestaref01_Text_raw, show (0 : Int) = ((0 : Nat) : Int) from rfl, Text_l0_eq c 12 0 _ [] rfl (by simp)]
  unfold TextOf TextOk
  rw [List.range_eq_range']
  rfl
end Go.Proofs.Ytjchejmakdkioaa
