import Derived.Test.YtjchejmakdkioaaShG
set_option linter.unusedVariables false
set_option linter.unusedSimpArgs false
namespace Go.Sh
variable {P : Program} {G : Tab}

def kindA (ρ : Operand → AV) : Op → Kd
  | .alloc _ | .box .. | .store .. => .loud
  | .load .. => .read
  | .fieldAddr _ x _ => match ρ x with | .el .. => .read | _ => .pure
  | .call { callee := .builtin .len, args := xs, argTypes := _ } =>
    match xs.toList with
    | [x] => match ρ x with | .own .. => .read | _ => .pure
    | _ => .pure
  | _ => .pure

theorem aop_congr {ρ ρ' : Operand → AV} {h : List AO} (op : Op) (he : ∀ x ∈ op.operands, ρ x = ρ' x) : aop G ρ h op = aop G ρ' h op := by
  have pairs : ∀ ps : Array (Nat × Operand), (∀ x ∈ (ps.toList.map (·.2)).toArray, ρ x = ρ' x) → (ps.toList.map fun p => (p.1, ρ p.2)) = (ps.toList.map fun p => (p.1, ρ' p.2)) := fun ps hp =>
    List.map_congr_left fun p hm => by rw [hp p.2 (by simpa using ⟨p.1, by simpa using hm⟩)]
  cases op <;> simp only [Op.operands] at he <;> simp only [aop]
  case move x => rw [he x (by simp)]
  case assign x => rw [he x (by simp)]
  case pick c a b => rw [he c (by simp), he a (by simp), he b (by simp)]
  case box e x => rw [he x (by simp)]
  case build t ps => rw [pairs ps (by simpa using he)]
  case buildSlice t n ps =>
    have hall : (ps.toList.all fun p => plainA (ρ p.2)) = (ps.toList.all fun p => plainA (ρ' p.2)) := by
      have e1 : ∀ p ∈ ps.toList, ρ p.2 = ρ' p.2 := fun p hp => he p.2 (by simpa using ⟨p.1, by simpa using hp⟩)
      generalize ps.toList = l at e1
      clear he pairs
      induction l with
      | nil => rfl
      | cons p l ih => simp only [List.all_cons]; rw [e1 p (by simp), ih (fun q hq => e1 q (by simp [hq]))]
    rw [pairs ps (by simpa using he), hall]
  case load t x => rw [he x (by simp)]
  case store t x y => rw [he x (by simp), he y (by simp)]
  case nilCheck x => rw [he x (by simp)]
  case binOp op xt x y yt => rw [he x (by simp), he y (by simp)]
  case unOp op t x => rw [he x (by simp)]
  case convert s d x => rw [he x (by simp)]
  case fieldAddr s x f => rw [he x (by simp)]
  case indexAddr t x i => rw [he x (by simp), he i (by simp)]
  case extract x i => rw [he x (by simp)]
  case makeFunc fn first caps =>
    cases fn <;> simp only [aop]
    have : caps.toList.map ρ = caps.toList.map ρ' := List.map_congr_left fun x hx => he x (by simp only [Array.mem_append]; exact .inr (by simpa using hx))
    rw [this]
  case call c =>
    obtain ⟨callee, args, argTypes⟩ := c
    have hargs : ∀ x ∈ args.toList, ρ x = ρ' x := fun x hx => he x (by simp only [Call.operands, Array.mem_append]; exact .inr (by simpa using hx))
    cases callee with
    | value f => simp [aop]
    | invoke r m => simp [aop]
    | builtin b =>
      cases b <;> simp only [aop]
      case len =>
        split
        · rename_i x t hx _
          rw [hx] at hargs
          rw [hargs x (by simp)]
        · rfl
      all_goals
        split
        · rename_i x y hx
          rw [hx] at hargs
          rw [hargs x (by simp), hargs y (by simp)]
        · rfl

theorem aop_quiet {ρ : Operand → AV} {h : List AO} {op : Op} {r : AV} {h' : List AO} (hk : kindA ρ op ≠ .loud) (ho : aop G ρ h op = some (r, h')) : h' = h := by
  have fin : ∀ {α : Type} {o : Option α} {f : α → AV}, (o.map fun x => (f x, h)) = some (r, h') → h' = h := by
    intro α o f hh
    obtain ⟨x, _, hx⟩ := Option.map_eq_some_iff.1 hh
    injection hx with _ hx
    exact hx.symm
  have fin2 : ∀ {x : AV}, some (x, h) = some (r, h') → h' = h := by
    intro x hh
    injection hh with hh
    injection hh with _ hh
    exact hh.symm
  cases op <;> simp only [aop, kindA, ne_eq, not_true_eq_false, reduceCtorEq] at ho hk
  case makeFunc fn first caps => cases fn <;> simp only [aop, reduceCtorEq] at ho; split at ho <;> first | exact fin2 ho | cases ho
  case call c =>
    obtain ⟨callee, args, argTypes⟩ := c
    cases callee with
    | value f => simp [aop] at ho
    | invoke r m => simp [aop] at ho
    | builtin b =>
      cases b <;> simp only [aop, reduceCtorEq] at ho <;> (repeat' split at ho) <;> first | exact fin2 ho | cases ho
  all_goals ((repeat' split at ho) <;> first | exact fin2 ho | exact fin ho | cases ho)

theorem aop_pure {ρ : Operand → AV} {h : List AO} {op : Op} {r : AV} {h' : List AO} (hk : kindA ρ op = .pure) (ho : aop G ρ h op = some (r, h')) : ∀ h2, aop G ρ h2 op = some (r, h2) := by
  have hq : h' = h := aop_quiet (by rw [hk]; simp) ho
  subst hq
  intro h2
  have fin : ∀ {α : Type} {o : Option α} {f : α → AV}, (o.map fun x => (f x, h')) = some (r, h') → (o.map fun x => (f x, h2)) = some (r, h2) := by
    intro α o f hh
    obtain ⟨x, h1, hx⟩ := Option.map_eq_some_iff.1 hh
    injection hx with hx _
    rw [h1, Option.map_some, hx]
  have fin2 : ∀ {x : AV}, some (x, h') = some (r, h') → (some (x, h2) : Option (AV × List AO)) = some (r, h2) := by
    intro x hh
    injection hh with hh
    injection hh with hh _
    rw [hh]
  cases op <;> simp only [aop, kindA, reduceCtorEq] at ho hk ⊢
  case build t parts =>
    split at ho
    · cases ho
    · split at ho
      · split at ho
        · rename_i hc
          rw [if_pos hc]
          exact fin ho
        · cases ho
      · split at ho
        · exact fin ho
        · cases ho
      · cases ho
  case buildSlice t n ps =>
    split at ho
    · split at ho
      · split at ho
        · split at ho
          · rename_i hc
            rw [if_pos hc]
            exact fin ho
          · cases ho
        · cases ho
      · cases ho
    · cases ho
  case indexAddr t x i =>
    split at ho
    · split at ho
      · split at ho
        · rename_i hc
          rw [if_pos hc]
          exact fin2 ho
        · cases ho
      · cases ho
    · split at ho
      · rename_i hc
        rw [if_pos hc]
        split at ho
        · exact fin ho
        · cases ho
      · cases ho
    · cases ho
  case makeFunc fn first caps =>
    cases fn <;> simp only [aop, reduceCtorEq] at ho ⊢
    split at ho <;> first | (simp_all; done) | (exfalso; cases ho; done)
  case call c =>
    obtain ⟨callee, args, argTypes⟩ := c
    cases callee with
    | value f => simp [aop] at ho
    | invoke r m => simp [aop] at ho
    | builtin b =>
      cases b <;> simp only [aop, kindA, reduceCtorEq] at ho hk ⊢
      case max =>
        split at ho
        · split at ho
          · exact fin2 ho
          · cases ho
        · cases ho
      case min =>
        split at ho
        · split at ho
          · exact fin2 ho
          · cases ho
        · cases ho
      all_goals ((repeat' split at ho) <;> first | (simp_all; done) | (exfalso; cases ho; done))
  all_goals ((repeat' split at ho) <;> first | (simp_all; done) | (exfalso; cases ho; done))

def guardA (ops : Array Oper) (t : Tmps) (o : Oper) : Option Bool :=
  match o.guard with
  | none => some true
  | some (j, want) =>
    match (ops[j]?).bind (·.dst) with
    | none => none
    | some d =>
      match lk t d with
      | .sc (.bool b) => some (b == want)
      | .tup [] => some false
      | _ => none

def dstOk (n : Nat) : Option Nat → Bool
  | none => true
  | some d => decide (d < n)

def stepA (G : Tab) (n : Nat) (ops : Array Oper) (i : Nat) (t : Tmps) (h : List AO) : Option (Kd × AV × List AO) :=
  match ops[i]? with
  | none => none
  | some o =>
    if dstOk n o.dst then
      match guardA ops t o with
      | none => none
      | some false => some (.pure, .tup [], h)
      | some true => (aop G (ev t) h o.op).map fun p => (kindA (ev t) o.op, p.1, p.2)
    else none

theorem looks_op {ops : Array Oper} {o : Oper} {x : Operand} (hx : x ∈ o.op.operands) {t t2 : Nat → AV} (h : ∀ x ∈ o.looksAt ops, t2 x = t x) : ∀ i, x = .tmp i → t2 i = t i := by
  intro i hi
  refine h i ?_
  unfold Oper.looksAt
  refine List.mem_append.2 (.inl ?_)
  rw [List.mem_filterMap]
  exact ⟨x, by simpa using hx, by rw [hi]⟩

def evF (t : Nat → AV) : Operand → AV
  | .tmp i => t i
  | .const v => cv v
  | .func f => .fn f []
  | .global _ => .u
theorem ev_eq (t : Tmps) : ev t = evF (lk t) := by funext x; cases x <;> rfl

theorem ARelF.ev {S : Sizes} {C : Ctx} {t : Nat → AV} {h : List AO} {n : Nat} {a : Act} (A : ARelF S C t h n a) (x : Operand) : VRel S C (evF t x) (a.eval x) := by
  cases x with
  | tmp i => exact A.tmps i
  | const v => exact cv_rel S C v
  | func f => exact ⟨#[], rfl, rfl⟩
  | global g => trivial

/-- the guard, as the machine sees it -/
theorem guard_wanted {S : Sizes} {C : Ctx} {ops : Array Oper} {o : Oper} {t : Tmps} {t2 : Nat → AV} {h : List AO} {n : Nat} {a : Act} {b : Bool} (hg : guardA ops t o = some b) (hl : ∀ x ∈ o.looksAt ops, t2 x = lk t x) (A : ARelF S C t2 h n a) : Region.wanted o (yielded ops a.tmps) = b := by
  unfold guardA at hg
  unfold Region.wanted
  cases hgd : o.guard with
  | none => rw [hgd] at hg; injection hg
  | some p =>
    obtain ⟨j, want⟩ := p
    rw [hgd] at hg
    simp only at hg ⊢
    cases hd : (ops[j]?).bind (·.dst) with
    | none => rw [hd] at hg; cases hg
    | some d =>
      rw [hd] at hg
      simp only at hg
      split at hg
      · rename_i b' hb'
        injection hg with hg
        have hmem : d ∈ o.looksAt ops := by
          unfold Oper.looksAt
          refine List.mem_append.2 (.inr ?_)
          simp [hgd, hd]
        have hv := A.tmps d
        rw [hl d hmem, hb'] at hv
        have hv := sc_inv hv
        have hlt : a.tmps[d]? = some (.bool b') := by
          rw [Array.getD_eq_getD_getElem?] at hv
          cases hq : a.tmps[d]? with
          | none => rw [hq] at hv; cases hv
          | some q => rw [hq] at hv; rw [show q = .bool b' from hv]
        unfold yielded
        rw [hd]
        simp only [Option.bind_some, hlt]
        rw [← hg]
        rfl
      · rename_i hu
        injection hg with hg
        have hmem : d ∈ o.looksAt ops := by
          unfold Oper.looksAt
          refine List.mem_append.2 (.inr ?_)
          simp [hgd, hd]
        have hv := A.tmps d
        rw [hl d hmem, hu] at hv
        obtain ⟨l, hv, hl'⟩ := hv
        rw [← hg]
        unfold yielded
        rw [hd]
        rw [Array.getD_eq_getD_getElem?] at hv
        simp only [Option.bind_some]
        cases hq : a.tmps[d]? with
        | none => rfl
        | some q =>
          rw [hq] at hv
          simp only [Option.getD_some] at hv
          subst hv
          rfl
      · cases hg

theorem stepA_sound (hG : G.ok P) {n : Nat} {ops : Array Oper} {i : Nat} {t : Tmps} {h : List AO} {kd : Kd} {r : AV} {h' : List AO} (hs : stepA G n ops i t h = some (kd, r, h')) : LSpec P G.S n ops i kd t h r h' := by
  unfold stepA at hs
  cases ho : ops[i]? with
  | none => rw [ho] at hs; cases hs
  | some o =>
    rw [ho] at hs
    simp only at hs
    have hlt : i < ops.size := (Array.getElem?_eq_some_iff.1 ho).1
    split at hs
    · rename_i hdst
      have hdst' : ∀ d, (ops[i]?).bind (·.dst) = some d → d < n := by
        intro d hd
        rw [ho] at hd
        simp only [Option.bind_some] at hd
        rw [hd] at hdst
        simpa [dstOk] using hdst
      split at hs
      · cases hs
      · rename_i hg
        injection hs with hs; injection hs with h1 h2; injection h2 with h2 h3
        subst h1; subst h2; subst h3
        refine ⟨hlt, hdst', fun _ => rfl, fun t2 h2 C a hl _ A Q K hK => ?_⟩
        unfold wpOp
        rw [ho]
        simp only [guard_wanted hg (hl o ho) A, Bool.false_eq_true, if_false]
        have := hK C undef (Step.refl C) ⟨#[], rfl, .nil⟩ (by simpa using A.heap)
        rw [ho] at this
        exact this
      · rename_i hg
        obtain ⟨⟨r', h0⟩, k1, k2⟩ := Option.map_eq_some_iff.1 hs
        injection k2 with k2 k3; injection k3 with k3 k4
        simp only at k3 k4
        subst k2; subst k3; subst k4
        refine ⟨hlt, hdst', fun hk => aop_quiet hk k1, fun t2 h2 C a hl hheap A Q K hK => ?_⟩
        unfold wpOp
        rw [ho]
        simp only [guard_wanted hg (hl o ho) A, if_true]
        refine .inl ?_
        have hev : aop G (evF t2) h2 o.op = some (r', if kindA (ev t) o.op = .loud then h0 else h2) := by
          have e1 : aop G (evF t2) h2 o.op = aop G (ev t) h2 o.op := aop_congr o.op fun x hx => by
            rw [ev_eq]
            have := looks_op hx (hl o ho)
            cases x with
            | tmp i => exact this i rfl
            | _ => rfl
          rw [e1]
          by_cases hp : kindA (ev t) o.op = .pure
          · rw [aop_pure hp k1 h2, hp]; simp
          · rw [hheap hp, k1]
            by_cases hld : kindA (ev t) o.op = .loud
            · rw [if_pos hld]
            · rw [if_neg hld, aop_quiet hld k1]
        obtain ⟨C', st, H', hrun⟩ := aop_sound (P := P) hG (o := o) A.heap A.ev hev
        unfold Oper.wp
        rcases hrun with ⟨v, h1, h2⟩ | ⟨h1, h2⟩
        · rw [h1]
          have := hK C' v st h2 H'
          rw [ho] at this
          exact this
        · rw [h1]
          have := hK C' undef st (by rw [h2]; trivial) H'
          rw [ho] at this
          exact this
    · cases hs
end Go.Sh
