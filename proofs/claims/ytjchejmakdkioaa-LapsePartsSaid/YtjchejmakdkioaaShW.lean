import Derived.Test.YtjchejmakdkioaaShT
set_option linter.unusedVariables false
set_option linter.unusedSimpArgs false
namespace Go.Sh
variable {P : Program} {G : Tab} {S : Sizes} {n : Nat} {ops : Array Oper}
/-! ### What has to hold lest it panic -/
def reqO {α : Type} (c : Bool) (r : Option α) : Option α := bif c then r else none
theorem reqO_some {α : Type} {c : Bool} {r : Option α} {x : α} (h : reqO c r = some x) : c = true ∧ r = some x := by
  cases c
  · cases h
  · exact ⟨rfl, h⟩

def binE (n : Nat) (ops : Array Oper) (i : Nat) (t : Tmps) (op : BinOp) : Option (IntKind × Int × IntKind × Int) :=
  match opAt n ops i t with
  | some (.binOp op' _ x y _) =>
    match ev t x, ev t y with
    | .sc (.int k a), .sc (.int k' b) => if op' = op then some (k, a, k', b) else none
    | _, _ => none
  | _ => none

theorem LSpec.bin {i : Nat} {t : Tmps} {h : List AO} {op : BinOp} {k k' : IntKind} {a b : Int} {v : Value} (q : binE n ops i t op = some (k, a, k', b)) (hv : ∀ (w : World) (xt : TypeId), (binOp op xt (.int k a) (.int k' b)).run P w = .ok v w) (h1 : v.oneCell' = true) : LSpec P S n ops i .pure t h (.sc v) h := by
  unfold binE at q
  split at q
  · rename_i op' xt x y yt hop
    split at q
    · rename_i k1 a1 k2 b1 hx hy
      split at q
      · rename_i hop'
        injection q with q
        injection q with q1 q; injection q with q2 q; injection q with q3 q4
        subst q1; subst q2; subst q3; subst q4; subst hop'
        refine (opAt_spec hop).spec (fun _ => rfl) fun o ρv C h2 ho H _ hρ => ?_
        have hxv := hρ x (by simp [Op.operands])
        have hyv := hρ y (by simp [Op.operands])
        rw [hx] at hxv
        rw [hy] at hyv
        have hxv := sc_inv hxv
        have hyv := sc_inv hyv
        obtain ⟨dst, op, oty, pos, after, guard⟩ := o
        simp only at ho
        subst ho
        refine OpOK.same (v := v) (by simpa using H) ?_ ⟨rfl, h1⟩
        have hgd : (eqGuard op' xt x y (.int k1 a1) (.int k2 b1)).run P C.w = .ok () C.w := by cases op' <;> simp [eqGuard]
        simp only [execOp, hxv, hyv, Sem.run_bind, hgd, Result.andThen_ok, hv C.w xt, Sem.run_pure]
      · cases q
    · cases q
  · cases q

theorem LSpec.shl {i : Nat} {t : Tmps} {h : List AO} {k k' : IntKind} {a b : Int} (hb : decide (0 ≤ b) = true) (q : binE n ops i t .shl = some (k, a, k', b)) : LSpec P S n ops i .pure t h (.sc (.int k (k.wrap (a * 2 ^ (min b.toNat k.bits))))) h := by
  refine LSpec.bin q (fun w xt => ?_) rfl
  have := of_decide_eq_true hb
  simp only [binOp, Op.shift]
  rw [if_neg (by omega)]
  simp
theorem LSpec.shr {i : Nat} {t : Tmps} {h : List AO} {k k' : IntKind} {a b : Int} (hb : decide (0 ≤ b) = true) (q : binE n ops i t .shr = some (k, a, k', b)) : LSpec P S n ops i .pure t h (.sc (.int k (a.fdiv (2 ^ (min b.toNat k.bits))))) h := by
  refine LSpec.bin q (fun w xt => ?_) rfl
  have := of_decide_eq_true hb
  simp only [binOp, Op.shift]
  rw [if_neg (by omega)]
  simp
theorem LSpec.quo {i : Nat} {t : Tmps} {h : List AO} {k : IntKind} {a b : Int} (hb : (b != 0) = true) (q : binE n ops i t .quo = some (k, a, k, b)) : LSpec P S n ops i .pure t h (.sc (.int k (k.wrap (a.tdiv b)))) h := by
  refine LSpec.bin q (fun w xt => ?_) rfl
  have : b ≠ 0 := by simpa using hb
  simp [binOp, Op.intDiv, this]
theorem LSpec.rem {i : Nat} {t : Tmps} {h : List AO} {k : IntKind} {a b : Int} (hb : (b != 0) = true) (q : binE n ops i t .rem = some (k, a, k, b)) : LSpec P S n ops i .pure t h (.sc (.int k (a.tmod b))) h := by
  refine LSpec.bin q (fun w xt => ?_) rfl
  have : b ≠ 0 := by simpa using hb
  simp [binOp, Op.intDiv, this]

/-! ### a[j], j told by the run -/
def idxE (G : Tab) (n : Nat) (ops : Array Oper) (i : Nat) (t : Tmps) : Option (AV × Nat × Int) :=
  match opAt n ops i t with
  | some (.indexAddr ty x y) =>
    match G.kind ty, ev t y with
    | .arr m e, .sc (.int _ j) => match G.get e with | some ei => if ei.size = 1 then some (ev t x, m, j) else none | none => none
    | _, _ => none
  | _ => none
theorem LSpec.idxPtr (hG : G.ok P) {i : Nat} {t : Tmps} {h : List AO} {o off m : Nat} {j : Int} (hj : (decide (0 ≤ j) && decide (j < m)) = true) (q : idxE G n ops i t = some (.ptr o off none, m, j)) : LSpec P G.S n ops i .pure t h (.ptr o off (some (j.toNat, m))) h := by
  unfold idxE at q
  split at q
  · rename_i ty x y hop
    split at q
    · rename_i m' e k j' hk hy
      split at q
      · rename_i ei he
        split at q
        · rename_i hs
          injection q with q
          injection q with q1 q; injection q with q2 q3
          subst q2; subst q3
          simp only [Bool.and_eq_true, decide_eq_true_eq] at hj
          exact LSpec.indexArr hG hop hk he hs q1 hy hj.1 hj.2
        · cases q
      · cases q
    · cases q
  · cases q
theorem LSpec.idxEp (hG : G.ok P) {i : Nat} {t : Tmps} {h : List AO} {fs : List AV} {off m : Nat} {j : Int} (hj : (decide (0 ≤ j) && decide (j < m)) = true) (q : idxE G n ops i t = some (.ep fs off none, m, j)) : LSpec P G.S n ops i .pure t h (.ep fs off (some (j.toNat, m))) h := by
  unfold idxE at q
  split at q
  · rename_i ty x y hop
    split at q
    · rename_i m' e k j' hk hy
      split at q
      · rename_i ei he
        split at q
        · rename_i hs
          injection q with q
          injection q with q1 q; injection q with q2 q3
          subst q2; subst q3
          simp only [Bool.and_eq_true, decide_eq_true_eq] at hj
          refine (opAt_spec hop).spec (fun _ => rfl) fun op ρv C h2 ho H _ hρ => ?_
          have hxv := hρ x (by simp [Op.operands])
          have hyv := hρ y (by simp [Op.operands])
          rw [q1] at hxv
          rw [hy] at hyv
          have hyv := sc_inv hyv
          obtain ⟨b, o0, cells, r1, r2, r3, r4, r5, r6⟩ := (hxv : RelV G.S C (.ep fs off none) [ρv x])
          have r1 : ρv x = .pointer (some ⟨b, o0 + (off + ixo none), none⟩) := by simpa using r1
          obtain ⟨d, hd, hf⟩ := kind_desc hG hk (by simp)
          simp only [TK.fits] at hf
          subst hf
          obtain ⟨dst, op, oty, pos, after, guard⟩ := op
          simp only at ho
          subst ho
          refine OpOK.same (v := .pointer (some ⟨b, o0 + (off + j'.toNat), none⟩)) (by simpa using H) ?_ ⟨b, o0, cells, rfl, by simp only [ixok]; omega, r3, r4, r5, r6⟩
          simp only [ixo, Nat.add_zero] at r1
          simp only [execOp, Instr.indexAt, hyv, asIntOf, Sem.run_bind, Sem.run_pure, Result.andThen_ok, run_underlying hd, r1, Instr.sureAddr]
          rw [if_pos ⟨hj.1, hj.2⟩]
          simp only [Sem.run_bind, run_size (hG e ei he), Result.andThen_ok, Sem.run_pure, addr_add, hs, Nat.mul_one, Nat.add_assoc]
        · cases q
      · cases q
    · cases q
  · cases q

/-- an array's own element -/
def idxVE (G : Tab) (n : Nat) (ops : Array Oper) (i : Nat) (t : Tmps) : Option (IntKind × Nat × List Int × Int) :=
  match opAt n ops i t with
  | some (.index ty x y) =>
    match G.kind ty, ev t x, ev t y with
    | .arr m e, .arr k m' xs, .sc (.int _ j) => match G.get e with | some ei => if ei.size = 1 ∧ ei.kind.isAgg = false ∧ m = m' then some (k, m, xs, j) else none | none => none
    | _, _, _ => none
  | _ => none
theorem LSpec.idxVal (hG : G.ok P) {i : Nat} {t : Tmps} {h : List AO} {k : IntKind} {m : Nat} {xs : List Int} {j : Int} (hj : (decide (0 ≤ j) && decide (j < m)) = true) (q : idxVE G n ops i t = some (k, m, xs, j)) : LSpec P G.S n ops i .pure t h (.sc (.int k (xs.getD j.toNat 0))) h := by
  unfold idxVE at q
  split at q
  · rename_i ty x y hop
    split at q
    · rename_i m1 e k1 m2 xs1 k2 j1 hk hx hy
      split at q
      · rename_i ei he
        split at q
        · rename_i hs
          obtain ⟨hs, hna, hmm⟩ := hs
          injection q with q
          injection q with q1 q; injection q with q2 q; injection q with q3 q4
          subst q1; subst q2; subst q3; subst q4; subst hmm
          simp only [Bool.and_eq_true, decide_eq_true_eq] at hj
          refine (opAt_spec hop).spec (fun _ => rfl) fun op ρv C h2 ho H _ hρ => ?_
          have hxv := hρ x (by simp [Op.operands])
          have hyv := hρ y (by simp [Op.operands])
          rw [hx] at hxv
          rw [hy] at hyv
          have hyv := sc_inv hyv
          obtain ⟨r1, r2⟩ := hxv
          obtain ⟨d, hd, hf⟩ := kind_desc hG hk (by simp)
          simp only [TK.fits] at hf
          subst hf
          obtain ⟨dst, op, oty, pos, after, guard⟩ := op
          simp only at ho
          subst ho
          have hlt : j1.toNat < xs1.length := by omega
          refine OpOK.same (v := .int k1 (xs1.getD j1.toNat 0)) (by simpa using H) ?_ ⟨rfl, rfl⟩
          have hpart : (part e (xs1.map (Value.int k1)).toArray (j1.toNat * 1)).run P C.w = .ok (.int k1 (xs1.getD j1.toNat 0)) C.w := by
            unfold part
            simp only [Sem.run_bind, run_isAgg (hG e ei he), Result.andThen_ok, hna, Bool.false_eq_true, if_false, Nat.mul_one]
            have : ((xs1.map (Value.int k1)).toArray)[j1.toNat]? = some (.int k1 (xs1.getD j1.toNat 0)) := by
              rw [List.getElem?_toArray, List.getElem?_map, List.getD_eq_getElem?_getD, List.getElem?_eq_getElem hlt]
              rfl
            rw [this]
            rfl
          simp only [execOp, Instr.index, hyv, asIntOf, Sem.run_bind, Sem.run_pure, Result.andThen_ok, run_underlying hd, r2]
          rw [if_pos ⟨hj.1, hj.2⟩]
          simp only [Sem.run_bind, run_size (hG e ei he), Result.andThen_ok, hs, hpart, Sem.run_pure]
        · cases q
      · cases q
    · cases q
  · cases q

theorem wrapU_nonneg (x : Int) : decide (0 ≤ IntKind.u64.wrap x) = true := by
  refine decide_eq_true ?_
  unfold IntKind.wrap
  simp only [IntKind.signed, Bool.false_and, Bool.false_eq_true, if_false]
  exact Int.emod_nonneg _ (by decide)
end Go.Sh
