import Derived.Test.YtjchejmakdkioaaShI
set_option linter.unusedVariables false
set_option linter.unusedSimpArgs false
namespace Go.Sh
variable {P : Program} {G : Tab}

def Ent (P : Program) (f : FuncId) : Prop := ∀ (vals : Array Value) (w : World), (callFunc f vals).run P w = .ok (.enter f vals) w

theorem ent_of {f : FuncId} {fn : Func} (hf : P.funcs[f]? = some fn) (hn : (fn.name == "runtime.NumGoroutine") = false) (hb : fn.body.isNone = false) : Ent P f := by
  intro vals w
  unfold callFunc
  simp only [Sem.run_bind, run_program, Result.andThen_ok, hf, hn, Bool.false_eq_true, if_false, hb, Sem.run_pure]

/-- what a call comes to: the result r, the objects h' -/
def Rp (S : Sizes) (c0 : Ctx) (r : AV) (h' : List AO) : Ending → World → Prop := fun e w' => ∃ v C', e = .returned v ∧ C'.w = w' ∧ Step c0 C' ∧ HRel S C' h' ∧ VRel S C' r v

def ACalls (P : Program) (S : Sizes) (f : FuncId) (args : List AV) (h : List AO) (r : AV) (h' : List AO) : Prop :=
  Ent P f ∧ ∀ (C : Ctx) (vals : Array Value), HRel S C h → VRels S C args vals.toList → Calls P f vals C.w (Rp S C r h')

/-! ### Arguments -/
def conv (h : List AO) : AV → Option AV
  | .own o k =>
    match h[o]? with
    | some (.row e rows k' _) => if k = k' then some (.sl e rows false) else none
    | _ => none
  | .bsl e o off n =>
    match h[o]? with
    | some (.box _ fs) =>
      match dropC fs off with
      | some (.arr k n' xs :: _) => if n = n' ∧ 0 < n then some (.sl e (xs.map fun x => .sc (.int k x)) true) else none
      | _ => none
    | _ => none
  | a => if plainA a then some a else none

def isBor : AV → Option Nat
  | .own o _ => some o
  | _ => none

def convL (h : List AO) : List AV → Option (List AV)
  | [] => some []
  | a :: as => (conv h a).bind fun b => (convL h as).map (b :: ·)

theorem under_noSlots (C : Ctx) (X : Nat → Prop) (hX : ∀ b, X b → C.X b ∨ ∃ s ∈ C.m, s.block = some b) : Under C ⟨C.w, [], X⟩ := by
  refine ⟨rfl, fun b hb => ⟨fun hx => ?_, by simp⟩⟩
  rcases hX b hx with h | ⟨s, hs, e⟩
  · exact hb.1 h
  · exact hb.2 s hs e

/-- an argument, lent to a call that knows no slot -/
theorem conv_rel {S : Sizes} {C : Ctx} {h : List AO} (H : HRel S C h) {X : Nat → Prop} (hX : ∀ b, X b → C.X b ∨ ∃ s ∈ C.m, s.block = some b) {a a' : AV} {v : Value} (hc : conv h a = some a') (hS : ∀ e o off n, a = .bsl e o off n → (S e).1 = 1 ∧ n * (S e).2 ≤ reach ∧ n ≤ maxLen)
    (hfree : ∀ o k, a = .own o k → ∀ s b, C.m[o]? = some s → s.block = some b → ¬ X b) (hfree2 : ∀ e o off n, a = .bsl e o off n → ∀ s b, C.m[o]? = some s → s.block = some b → ¬ X b) (r : VRel S C a v) : VRel1 S ⟨C.w, [], X⟩ a' v := by
  have U := under_noSlots C X hX
  unfold conv at hc
  split at hc
  · rename_i o k
    split at hc
    · rename_i e rows k' app ho
      split at hc
      · rename_i hkk
        subst hkk
        injection hc with hc
        subst hc
        obtain ⟨v0, kk, mn, q1, q2, q3, q4⟩ := own_inv r
        obtain ⟨o1, o2, o3, o4⟩ := H.rel o _ _ ho q2
        have hv := q4 o1
        subst hv
        cases mn with
        | false =>
          have := RelV.plain U _ _ rfl (o3 rfl)
          obtain ⟨a, c, s1, s2, s3, s4, s5, s6⟩ := this
          exact ⟨a, c, s1, s2, by simp, s4, s5, s6⟩
        | true =>
          obtain ⟨_, hsz, cells, hown, hrf⟩ := o4 rfl
          rcases hown.2 with ⟨rfl, hn⟩ | ⟨g, cap, cur, rfl, _, hh, hnc, hcm, hcs, htk⟩
          · obtain rfl : rows = [] := List.eq_nil_of_length_eq_zero hn
            exact ⟨none, 0, rfl, Nat.le_refl _, by simp, by simp [maxLen], by simp [reach], .inl rfl⟩
          · refine ⟨some ⟨g, 0, none⟩, cap, rfl, hnc, by simp, hcm, o2, .inr ⟨g, 0, rfl, ⟨hfree o k rfl _ g q2 rfl, by simp⟩, ?_⟩⟩
            refine RelR.of_RelF hsz rows cells 0 (hrf.mono U.flat) (fun j u hj => ?_)
            rw [Nat.zero_add]
            show C.w.cell? _ = _
            rw [cell_of_heap hh]
            rw [← htk] at hj
            have hl : j < rows.length * (S e).1 := by
              have := (List.getElem?_eq_some_iff.1 hj).1
              rw [List.length_take] at this
              omega
            rw [List.getElem?_take, if_pos hl] at hj
            simpa using hj
      · cases hc
    · cases hc
  · rename_i e o off n
    split at hc
    · rename_i e' fs ho
      split at hc
      · rename_i k n' xs gs hd
        split at hc
        · rename_i hnn
          obtain ⟨rfl, hpos⟩ := hnn
          injection hc with hc
          subst hc
          obtain ⟨b, q1, q2⟩ := (r : RelV S C (.bsl e o off n) [v])
          have q2 : v = .slice (some ⟨b, off, none⟩) n n := by simpa using q2
          subst q2
          obtain ⟨cs, h1, h2⟩ := box_rel H ho q1
          obtain ⟨c1, c2, h3, h4, h5⟩ := dropC_cons_get hd h2
          obtain ⟨h6, h7⟩ := h4
          obtain ⟨s1, s2, s3⟩ := hS e o off n rfl
          have hlen : (xs.map fun x => AV.sc (.int k x)).length = n := by rw [List.length_map, h6]
          refine ⟨some ⟨b, off, none⟩, n, by rw [hlen], by rw [hlen]; exact Nat.le_refl _, fun _ => hlen.symm, s3, by rw [hlen]; exact s2, .inr ⟨b, off, rfl, ⟨hfree2 e o off n rfl _ b q1 rfl, by simp⟩, ?_⟩⟩
          rw [s1]
          have key : ∀ (ys : List Int) (o2 : Nat) (ds : List Value), ds = ys.map (Value.int k) → (∀ j u, ds[j]? = some u → C.w.cell? ⟨b, o2 + j, none⟩ = some u) → RelR S (Ctx.flat ⟨C.w, [], X⟩) b 1 (ys.map fun x => AV.sc (.int k x)) o2 := by
            intro ys
            induction ys with
            | nil => intro _ _ _ _; trivial
            | cons y ys ih =>
              intro o2 ds hds hc
              subst hds
              refine ⟨⟨[.int k y], ⟨rfl, rfl⟩, rfl, by simp, fun j u hj => ?_⟩, ih (o2 + 1) _ rfl fun j u hj => ?_⟩
              · cases j with
                | zero => exact hc 0 u (by simpa using hj)
                | succ j => simp at hj
              · have := hc (j + 1) u (by simpa using hj)
                rw [show o2 + 1 + j = o2 + (j + 1) by omega]
                exact this
          refine key xs off c1 h7 fun j u hj => ?_
          rw [cell_of_heap h1]
          have : (cs.toList.drop off)[j]? = some u := by rw [h3, List.getElem?_append_left (List.getElem?_eq_some_iff.1 hj).1]; exact hj
          rw [List.getElem?_drop] at this
          simpa using this
        · cases hc
      · cases hc
    · cases hc
  · rename_i hno hnb
    split at hc
    · rename_i hp
      injection hc with hc
      subst hc
      have := VRel.plain U hp r
      cases a with
      | tup vs => simp [plainA] at hp
      | _ => exact this
    · cases hc

/-! ### A call by its contract -/
theorem run_call {ρv : Operand → Value} {dst : Option Tmp} {x : Operand} {xs : Array Operand} {ts : Array TypeId} {oty : TypeId} {pos : String} {after : Array Edge} {guard : Option (Nat × Bool)} {f : FuncId} {vs : Array Value} (hE : Ent P f) (hx : ρv x = .func (.func f) #[] vs) (w : World) :
    (execOp ρv ⟨dst, .call { callee := .value x, args := xs, argTypes := ts }, oty, pos, after, guard⟩).run P w = .ok (.enter f (xs.map ρv ++ vs)) w := by
  simp only [execOp, resolve, hx, Deferred.ofValue, Sem.run_bind, Sem.run_pure, Result.andThen_ok, invoke, Array.empty_append]
  exact hE _ w

theorem fn_inv {S : Sizes} {C : Ctx} {f : FuncId} {v : Value} (h : VRel S C (.fn f []) v) : v = .func (.func f) #[] #[] := by
  obtain ⟨vs, h1, h2⟩ := (h : RelV S C (.fn f []) [v])
  have e : vs.toList = [] := h2
  have : vs = #[] := by simpa using e
  subst this
  simpa using h1

/-- what a call's operation is -/
structure CallAt (n : Nat) (ops : Array Oper) (i : Nat) (t : Tmps) (f : FuncId) (xs : List Operand) : Prop where
  at_ : ∃ o x ts, ops[i]? = some o ∧ o.op = .call { callee := .value x, args := xs.toArray, argTypes := ts } ∧ guardA ops t o = some true ∧ dstOk n o.dst = true ∧ ev t x = .fn f []

def callAt (n : Nat) (ops : Array Oper) (i : Nat) (t : Tmps) : Option (FuncId × List Operand) :=
  match ops[i]? with
  | none => none
  | some o =>
    match o.op with
    | .call { callee := .value x, args := xs, argTypes := _ } =>
      match guardA ops t o, ev t x with
      | some true, .fn f [] => if dstOk n o.dst then some (f, xs.toList) else none
      | _, _ => none
    | _ => none

theorem callAt_spec {n : Nat} {ops : Array Oper} {i : Nat} {t : Tmps} {f : FuncId} {xs : List Operand} (h : callAt n ops i t = some (f, xs)) : CallAt n ops i t f xs := by
  unfold callAt at h
  split at h
  · cases h
  · rename_i o ho
    split at h
    · rename_i x ys ts hop
      split at h
      · rename_i f' hg hx
        split at h
        · rename_i hd
          injection h with h; injection h with h1 h2
          subst h1; subst h2
          exact ⟨o, x, ts, ho, by simpa using hop, hg, hd, hx⟩
        · cases h
      · cases h
    · cases h

/-- the run of such an operation, given what the callee comes to -/
theorem CallAt.wp {n : Nat} {ops : Array Oper} {i : Nat} {t : Tmps} {f : FuncId} {xs : List Operand} (K : CallAt n ops i t f xs) (hE : Ent P f) {S : Sizes} {t2 : Nat → AV} {h2 : List AO} {C : Ctx} {a : Act} (hl : ∀ o, ops[i]? = some o → ∀ x ∈ o.looksAt ops, t2 x = lk t x) (A : ARelF S C t2 h2 n a) {Q : Exit → Act → World → Prop} {N : Act → World → Prop}
    (hc : (∀ x ∈ xs, VRel S C (ev t x) (a.eval x)) → Calls P f (xs.toArray.map a.eval) C.w fun e w' => ∃ v, e = .returned v ∧ N (a.put ((ops[i]?).bind (·.dst)) v) w') : wpOp P ops Q i N a C.w := by
  obtain ⟨o, x, ts, ho, hop, hg, hd, hx⟩ := K.at_
  have hl' := hl o ho
  unfold wpOp
  rw [ho]
  simp only [guard_wanted hg hl' A, if_true]
  refine .inl ?_
  have hev : ∀ y ∈ o.op.operands, VRel S C (ev t y) (a.eval y) := by
    intro y hy
    have h1 := A.ev y
    have h2 := looks_op hy hl'
    cases y with
    | tmp j =>
      have := h2 j rfl
      simp only [evF] at h1
      rw [this] at h1
      exact h1
    | const v => exact h1
    | func g => exact h1
    | global g => exact h1
  have hxm : x ∈ o.op.operands := by rw [hop]; simp [Op.operands, Call.operands]
  have hfv := hev x hxm
  rw [hx] at hfv
  have hfv := fn_inv hfv
  obtain ⟨dst, op, oty, pos, after, guard⟩ := o
  simp only at hop
  subst hop
  unfold Oper.wp
  rw [run_call hE hfv]
  simp only [Array.append_empty]
  rw [Oper.upon_enter]
  rw [ho] at hc
  refine (hc fun y hy => hev y ?_).mono ?_
  · simp only [Op.operands, Call.operands]
    exact Array.mem_append.2 (.inr (by simpa using hy))
  · rintro e w' ⟨v, rfl, h⟩
    exact h

theorem CallAt.lt {n : Nat} {ops : Array Oper} {i : Nat} {t : Tmps} {f : FuncId} {xs : List Operand} (K : CallAt n ops i t f xs) : i < ops.size := by
  obtain ⟨o, x, ts, ho, _⟩ := K.at_
  exact (Array.getElem?_eq_some_iff.1 ho).1
theorem CallAt.dst {n : Nat} {ops : Array Oper} {i : Nat} {t : Tmps} {f : FuncId} {xs : List Operand} (K : CallAt n ops i t f xs) : ∀ d, (ops[i]?).bind (·.dst) = some d → d < n := by
  obtain ⟨o, x, ts, ho, _, _, hd, _⟩ := K.at_
  intro d h
  rw [ho] at h
  simp only [Option.bind_some] at h
  rw [h] at hd
  simpa [dstOk] using hd

theorem VRels.of_map {S : Sizes} {C D : Ctx} {ρv : Operand → Value} {g : AV → Option AV} (t : Tmps) (hg : ∀ a b v, g a = some b → VRel S C a v → VRel1 S D b v) : ∀ (xs : List Operand) (avs : List AV), (xs.map (ev t)).mapM g = some avs → (∀ x ∈ xs, VRel S C (ev t x) (ρv x)) → VRels S D avs (xs.map ρv)
  | [], avs, h, _ => by
    have : avs = [] := by simpa using h.symm
    subst this
    exact .nil
  | x :: xs, avs, h, hr => by
    simp only [List.map_cons, List.mapM_cons] at h
    obtain ⟨b, h1, h2⟩ := Option.bind_eq_some_iff.1 h
    obtain ⟨bs, h3, h4⟩ := Option.bind_eq_some_iff.1 h2
    injection h4 with h4
    subst h4
    exact .cons (hg _ _ _ h1 (hr x (by simp))) (VRels.of_map t hg xs bs h3 fun y hy => hr y (by simp [hy]))

def plainO (a : AV) : Option AV := if plainA a then some a else none

theorem HRel.nil {S : Sizes} {w : World} {X : Nat → Prop} (h : ∀ b, X b → b < w.heap.size) : HRel S ⟨w, [], X⟩ [] := ⟨rfl, by intro o ob s ho; simp at ho, by intro o o' s s' b ho; simp at ho, by simp, h⟩

theorem flat_lt {S : Sizes} {C : Ctx} {h : List AO} (H : HRel S C h) : ∀ b, C.flat.X b → b < C.w.heap.size := by
  rintro b (hb | ⟨s, hs, e⟩)
  · exact H.Xlt b hb
  · exact H.lt hs e

/-- a call of a function that knows no slot: its arguments plain -/
theorem LSpec.call {n : Nat} {ops : Array Oper} {i : Nat} {t : Tmps} {h : List AO} {f : FuncId} {xs : List Operand} {avs : List AV} {r : AV} (hk : callAt n ops i t = some (f, xs)) (ha : (xs.map (ev t)).mapM plainO = some avs) (hc : ACalls P G.S f avs [] r []) : LSpec P G.S n ops i .pure t h r h := by
  have K := callAt_spec hk
  refine ⟨K.lt, K.dst, fun _ => rfl, fun t2 h2 C a hl _ A Q N hN => K.wp hc.1 hl A fun hev => ?_⟩
  have hargs : VRels G.S C.flat avs (xs.map a.eval) := VRels.of_map t (fun a b v hg hr => by
    unfold plainO at hg
    split at hg
    · rename_i hp
      injection hg with hg
      subst hg
      have := hr.plain (Under.toFlat C) hp
      cases a with
      | tup vs => simp [plainA] at hp
      | _ => exact this
    · cases hg) xs avs ha hev
  refine (hc.2 C.flat _ (HRel.nil (flat_lt A.heap)) (by simpa using hargs)).mono ?_
  rintro e w' ⟨v, C', rfl, rfl, st, H', hv⟩
  refine ⟨v, rfl, ?_⟩
  have hm' : C'.m = [] := List.eq_nil_of_length_eq_zero (by rw [H'.len]; rfl)
  have hkept : Kept C ⟨C'.w, C.m, C.X⟩ := ⟨st.os, st.tape, st.output, st.size, fun b hb => st.block b hb (by simp [Ctx.flat]), rfl, rfl⟩
  have hmono : Mono C' ⟨C'.w, C.m, C.X⟩ := by
    refine ⟨Nat.le_refl _, fun _ _ _ => rfl, fun b _ ho => ?_, fun o s hs => by rw [hm'] at hs; simp at hs⟩
    have hX : C'.X = C.flat.X := st.X
    unfold Ctx.ok at *
    rw [hX] at ho
    exact ⟨fun hx => ho.1 (.inl hx), fun s hs e => ho.1 (.inr ⟨s, hs, e⟩)⟩
  exact hN ⟨C'.w, C.m, C.X⟩ v hkept.toStep (hv.mono hmono) (by simpa using A.heap.kept hkept)
end Go.Sh
