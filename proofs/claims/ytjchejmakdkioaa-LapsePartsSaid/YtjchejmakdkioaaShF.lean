import Derived.Test.YtjchejmakdkioaaShE
import Derived.Orders
import Derived.Still
set_option linter.unusedVariables false
set_option linter.unusedSimpArgs false
namespace Go.Sh
variable {P : Program} {S : Sizes}

/-! ### Temporaries as functions -/
structure ARelF (S : Sizes) (C : Ctx) (t : Nat → AV) (h : List AO) (n : Nat) (a : Act) : Prop where
  defers : a.defers = []
  size : a.tmps.size = n
  tmps : ∀ i, VRel S C (t i) (a.tmps.getD i undef)
  heap : HRel S C h

theorem ARel.toF {C : Ctx} {t : Tmps} {h : List AO} {n : Nat} {a : Act} (A : ARel S C t h n a) : ARelF S C (lk t) h n a := ⟨A.defers, A.size, A.tmps, A.heap⟩
theorem ARelF.ofF {C : Ctx} {t : Tmps} {h : List AO} {n : Nat} {a : Act} (A : ARelF S C (lk t) h n a) : ARel S C t h n a := ⟨A.defers, A.size, A.tmps, A.heap⟩

def tset (t : Nat → AV) (d : Option Nat) (r : AV) : Nat → AV := fun x => if d = some x then r else t x

theorem lk_setT' (t : Tmps) (d : Option Nat) (r : AV) (x : Nat) : lk (setT t d r) x = tset (lk t) d r x := by
  cases d with
  | none => simp [setT, tset]
  | some d =>
    rw [lk_setT]
    unfold tset
    by_cases h : x = d
    · subst h; simp
    · rw [if_neg h, if_neg (by simpa using fun e => h e.symm)]

theorem ARelF.put {C C' : Ctx} {t : Nat → AV} {h h' : List AO} {n : Nat} {a : Act} (A : ARelF S C t h n a) (st : Step C C') (H : HRel S C' h') {d : Option Nat} {r : AV} {v : Value} (hd : ∀ x, d = some x → x < n) (hv : VRel S C' r v) : ARelF S C' (tset t d r) h' n (a.put d v) := by
  refine ⟨?_, ?_, fun i => ?_, H⟩
  · cases d <;> exact A.defers
  · cases d with
    | none => exact A.size
    | some d => simp [Act.put, A.size]
  · cases d with
    | none => simpa [tset, Act.put] using (A.tmps i).step st
    | some d =>
      have hlt := hd d rfl
      unfold tset
      by_cases e : d = i
      · subst e
        simp only [if_true, Act.put]
        rw [Array.getD_eq_getD_getElem?, Array.getElem?_setIfInBounds_self_of_lt (by rw [A.size]; exact hlt)]
        exact hv
      · rw [if_neg (by simpa using e)]
        simp only [Act.put]
        rw [Array.getD_eq_getD_getElem?, Array.getElem?_setIfInBounds_ne e, ← Array.getD_eq_getD_getElem?]
        exact (A.tmps i).step st

/-! ### One operation of a region, by itself -/
inductive Kd where
  | pure | read | loud
  deriving DecidableEq

structure LSpec (P : Program) (S : Sizes) (n : Nat) (ops : Array Oper) (i : Nat) (kd : Kd) (t : Tmps) (h : List AO) (r : AV) (h' : List AO) : Prop where
  lt : i < ops.size
  dst : ∀ d, (ops[i]?).bind (·.dst) = some d → d < n
  keep : kd ≠ .loud → h' = h
  run : ∀ (t2 : Nat → AV) (h2 : List AO) (C : Ctx) (a : Act), (∀ o, ops[i]? = some o → ∀ x ∈ o.looksAt ops, t2 x = lk t x) → (kd ≠ .pure → h2 = h) → ARelF S C t2 h2 n a →
    ∀ (Q : Exit → Act → World → Prop) (K : Act → World → Prop), (∀ C' v, Step C C' → VRel S C' r v → HRel S C' (if kd = .loud then h' else h2) → K (a.put ((ops[i]?).bind (·.dst)) v) C'.w) → wpOp P ops Q i K a C.w

inductive DW (P : Program) (S : Sizes) (n : Nat) (ops : Array Oper) (fin : List Kd → Tmps → List AO → Prop) : Nat → List Kd → Tmps → List AO → Prop
  | fin {i : Nat} {ks : List Kd} {t : Tmps} {h : List AO} : ops.size = i → fin ks.reverse t h → DW P S n ops fin i ks t h
  | step {i : Nat} {ks : List Kd} {t : Tmps} {h : List AO} {kd : Kd} {r : AV} {h' : List AO} : LSpec P S n ops i kd t h r h' → DW P S n ops fin (i + 1) (kd :: ks) (setT t ((ops[i]?).bind (·.dst)) r) h' → DW P S n ops fin i ks t h

/-- in the order of the text -/
theorem DW.lex {n : Nat} {ops : Array Oper} {fin : List Kd → Tmps → List AO → Prop} {i : Nat} {ks : List Kd} {t : Tmps} {h : List AO} (D : DW P S n ops fin i ks t h) (Q : Exit → Act → World → Prop)  :
    ∀ (C : Ctx) (a : Act), ARel S C t h n a → (∀ ks t h C' a', Step C C' → fin ks t h → ARel S C' t h n a' → Q .normal a' C'.w) → wpOps P ops Q ((List.range ops.size).drop i) a C.w := by
  induction D with
  | fin hi hf =>
    intro C a A hQ
    rw [List.drop_eq_nil_of_le (by simp; omega)]
    exact hQ _ _ _ C a (Step.refl C) hf A
  | @step i ks t h kd r h' L D ih =>
    intro C a A hQ
    have hlt := L.lt
    rw [List.drop_eq_getElem_cons (by simpa using hlt), List.getElem_range, wpOps_cons]
    refine L.run (lk t) h C a (fun _ _ _ _ => rfl) (fun _ => rfl) A.toF Q _ fun C' v st hv hH => ?_
    have hH' : HRel S C' h' := by
      by_cases hk : kd = .loud
      · rw [if_pos hk] at hH; exact hH
      · rw [if_neg hk] at hH; rw [L.keep hk]; exact hH
    have A' := A.toF.put st hH' L.dst hv
    refine ih C' _ ⟨A'.defers, A'.size, fun i => ?_, A'.heap⟩ (fun ks t h C2 a2 st2 => hQ ks t h C2 a2 (st.trans st2))
    rw [lk_setT']
    exact A'.tmps i

/-! ### In whatever order -/
def ancStep (acc : List Nat) (o : Oper) : Nat := o.after.toList.foldl (fun s e => if Region.binds .any e then s ||| 2 ^ e.on ||| acc.getD e.on 0 else s) 0
def ancs : List Oper → List Nat → List Nat
  | [], acc => acc
  | o :: r, acc => ancs r (acc ++ [ancStep acc o])

def optMem (d : Option Nat) (l : List Nat) : Bool :=
  match d with
  | none => false
  | some d => l.contains d

def conflict (ops : Array Oper) (ki kj : Kd) (oi oj : Oper) : Bool :=
  (ki == .loud && kj != .pure) || (kj == .loud && ki != .pure) || optMem oi.dst (oj.looksAt ops) || optMem oj.dst (oi.looksAt ops) || (oi.dst.isSome && oi.dst == oj.dst)

def confRow (ops : Array Oper) (kj : Kd) (oj : Oper) (m : Nat) : Nat → List Oper → List Kd → Bool
  | _, [], _ => true
  | _, _, [] => false
  | i, oi :: os, ki :: ks => (!conflict ops ki kj oi oj || m.testBit i) && confRow ops kj oj m (i + 1) os ks

def edgesOk (j : Nat) (o : Oper) : Bool := o.after.toList.all fun e => !Region.binds .any e || decide (e.on < j)

def confGo (ops : Array Oper) : Nat → List Oper → List Kd → List Nat → List Oper → List Kd → Bool
  | _, [], [], _, _, _ => true
  | j, o :: os, k :: ks, m :: ms, ao, ak => edgesOk j o && confRow ops k o m 0 (ao.take j) (ak.take j) && confGo ops (j + 1) os ks ms ao ak
  | _, _, _, _, _, _ => false

def confOk (ops : Array Oper) (ks : List Kd) : Bool := confGo ops 0 ops.toList ks (ancs ops.toList []) ops.toList ks

theorem ancs_spec : ∀ (os : List Oper) (acc : List Nat), ∃ ys, ancs os acc = acc ++ ys ∧ ys.length = os.length ∧ ∀ (i : Nat) (o : Oper), os[i]? = some o → ys[i]? = some (ancStep (acc ++ ys.take i) o)
  | [], acc => ⟨[], by simp [ancs], rfl, by simp⟩
  | o :: r, acc => by
    obtain ⟨ys, h1, h2, h3⟩ := ancs_spec r (acc ++ [ancStep acc o])
    refine ⟨ancStep acc o :: ys, by simp [ancs, h1], by simp [h2], fun i o' hi => ?_⟩
    cases i with
    | zero =>
      have : o = o' := by simpa using hi
      subst this
      simp
    | succ i =>
      have := h3 i o' (by simpa using hi)
      simpa using this

theorem ancStep_bit (acc : List Nat) (o : Oper) (i : Nat) (h : (ancStep acc o).testBit i = true) : ∃ e ∈ o.after, Region.binds .any e = true ∧ (i = e.on ∨ (acc.getD e.on 0).testBit i = true) := by
  unfold ancStep at h
  have key : ∀ (l : List Edge) (s : Nat), (l.foldl (fun s e => if Region.binds .any e then s ||| 2 ^ e.on ||| acc.getD e.on 0 else s) s).testBit i = true → s.testBit i = true ∨ ∃ e ∈ l, Region.binds .any e = true ∧ (i = e.on ∨ (acc.getD e.on 0).testBit i = true) := by
    intro l
    induction l with
    | nil => intro s h; exact .inl h
    | cons e l ih =>
      intro s h
      rw [List.foldl_cons] at h
      rcases ih _ h with h1 | ⟨e', h1, h2⟩
      · by_cases hb : Region.binds .any e = true
        · rw [if_pos hb, Nat.testBit_or, Nat.testBit_or, Bool.or_eq_true, Bool.or_eq_true] at h1
          rcases h1 with (h1 | h1) | h1
          · exact .inl h1
          · refine .inr ⟨e, by simp, hb, .inl ?_⟩
            rw [Nat.testBit_two_pow] at h1
            simpa using (of_decide_eq_true h1).symm
          · exact .inr ⟨e, by simp, hb, .inr h1⟩
        · rw [if_neg hb] at h1
          exact .inl h1
      · exact .inr ⟨e', by simp [h1], h2⟩
  rcases key _ _ h with h1 | ⟨e, h1, h2⟩
  · simp at h1
  · exact ⟨e, by simpa using h1, h2⟩

theorem confRow_spec {ops : Array Oper} {kj : Kd} {oj : Oper} {m : Nat} : ∀ (os : List Oper) (ks : List Kd) (i0 : Nat), confRow ops kj oj m i0 os ks = true → ∀ (i : Nat) (oi : Oper) (ki : Kd), os[i]? = some oi → ks[i]? = some ki → conflict ops ki kj oi oj = true → m.testBit (i0 + i) = true
  | [], _, _, _, i, oi, ki, h1, _, _ => by simp at h1
  | _ :: _, [], _, _, i, oi, ki, _, h2, _ => by simp at h2
  | o :: os, k :: ks, i0, h, i, oi, ki, h1, h2, h3 => by
    simp only [confRow, Bool.and_eq_true, Bool.or_eq_true] at h
    cases i with
    | zero =>
      have e1 : o = oi := by simpa using h1
      have e2 : k = ki := by simpa using h2
      subst e1; subst e2
      rcases h.1 with h4 | h4
      · rw [h3] at h4; cases h4
      · exact h4
    | succ i =>
      have := confRow_spec os ks (i0 + 1) h.2 i oi ki (by simpa using h1) (by simpa using h2) h3
      rw [show i0 + (i + 1) = i0 + 1 + i by omega]
      exact this

theorem confGo_spec {ops : Array Oper} {ao : List Oper} {ak : List Kd} : ∀ (os : List Oper) (ks : List Kd) (ms : List Nat) (j : Nat), confGo ops j os ks ms ao ak = true → ∀ (i : Nat) (o : Oper), os[i]? = some o → ∃ k m, ks[i]? = some k ∧ ms[i]? = some m ∧ edgesOk (j + i) o = true ∧ confRow ops k o m 0 (ao.take (j + i)) (ak.take (j + i)) = true
  | [], _, _, _, _, i, o, h => by simp at h
  | _ :: _, [], _, _, hh, i, o, _ => by simp [confGo] at hh
  | _ :: _, _ :: _, [], _, hh, i, o, _ => by simp [confGo] at hh
  | o :: os, k :: ks, m :: ms, j, hh, i, o', h => by
    simp only [confGo, Bool.and_eq_true] at hh
    cases i with
    | zero =>
      have e1 : o = o' := by simpa using h
      subst e1
      exact ⟨k, m, rfl, rfl, hh.1.1, hh.1.2⟩
    | succ i =>
      obtain ⟨k', m', h1, h2, h3, h4⟩ := confGo_spec os ks ms (j + 1) hh.2 i o' (by simpa using h)
      refine ⟨k', m', by simpa using h1, by simpa using h2, ?_, ?_⟩
      · rw [show j + (i + 1) = j + 1 + i by omega]; exact h3
      · rw [show j + (i + 1) = j + 1 + i by omega]; exact h4

/-- What the check says. -/
structure Free (ops : Array Oper) (Kf : Nat → Kd) (anc : Nat → Nat → Prop) : Prop where
  edge : ∀ (j : Nat) (o : Oper), ops[j]? = some o → ∀ e ∈ o.after, Region.binds .any e = true → e.on < j
  cl : ∀ (j : Nat) (o : Oper) (i : Nat), ops[j]? = some o → anc j i → ∃ e ∈ o.after, Region.binds .any e = true ∧ (i = e.on ∨ anc e.on i)
  conf : ∀ (i j : Nat) (oi oj : Oper), i < j → ops[i]? = some oi → ops[j]? = some oj → conflict ops (Kf i) (Kf j) oi oj = true → anc j i

theorem free_of_conf {ops : Array Oper} {ks : List Kd} (h : confOk ops ks = true) : Free ops (fun i => ks.getD i .pure) (fun j i => ((ancs ops.toList []).getD j 0).testBit i = true) := by
  obtain ⟨ys, h1, h2, h3⟩ := ancs_spec ops.toList []
  rw [List.nil_append] at h1
  unfold confOk at h
  refine ⟨fun j o ho e he hb => ?_, fun j o i ho ha => ?_, fun i j oi oj hij hi hj hc => ?_⟩
  · obtain ⟨k, m, _, _, h4, _⟩ := confGo_spec _ _ _ _ h j o (by simpa using ho)
    rw [Nat.zero_add] at h4
    unfold edgesOk at h4
    have := List.all_eq_true.1 h4 e (by simpa using he)
    rw [hb] at this
    simpa using this
  · have h4 := h3 j o (by simpa using ho)
    rw [List.nil_append] at h4
    rw [h1, List.getD_eq_getElem?_getD, h4] at ha
    obtain ⟨e, h5, h6, h7⟩ := ancStep_bit _ _ _ ha
    refine ⟨e, h5, h6, h7.imp id fun h8 => ?_⟩
    rw [h1]
    have hlt : e.on < j := by
      rcases Nat.lt_or_ge e.on j with hl | hl
      · exact hl
      · rw [List.getD_eq_getElem?_getD, List.getElem?_eq_none (by rw [List.length_take]; omega)] at h8
        simp at h8
    rw [List.getD_eq_getElem?_getD, List.getElem?_take, if_pos hlt, ← List.getD_eq_getElem?_getD] at h8
    exact h8
  · obtain ⟨k, m, h4, h5, _, h6⟩ := confGo_spec _ _ _ _ h j oj (by simpa using hj)
    rw [Nat.zero_add] at h6
    have hki : ∃ ki, ks[i]? = some ki := by
      have hil : i < ks.length := by
        have := (List.getElem?_eq_some_iff.1 h4).1
        omega
      exact ⟨_, List.getElem?_eq_getElem hil⟩
    obtain ⟨ki, hki⟩ := hki
    have h7 := confRow_spec _ _ 0 h6 i oi ki (by rw [List.getElem?_take, if_pos hij]; simpa using hi) (by rw [List.getElem?_take, if_pos hij]; exact hki) (by
      simp only [List.getD_eq_getElem?_getD, hki, h4, Option.getD_some] at hc
      exact hc)
    rw [Nat.zero_add] at h7
    rw [List.getD_eq_getElem?_getD, h5]
    exact h7

/-- What a lexical walk tells of each operation. -/
structure Walk (P : Program) (S : Sizes) (n : Nat) (ops : Array Oper) (Kf : Nat → Kd) (T : Nat → Tmps) (Hh : Nat → List AO) (R : Nat → AV) : Prop where
  spec : ∀ j, j < ops.size → LSpec P S n ops j (Kf j) (T j) (Hh j) (R j) (Hh (j + 1))
  next : ∀ j, j < ops.size → T (j + 1) = setT (T j) ((ops[j]?).bind (·.dst)) (R j)

theorem DW.walk {n : Nat} {ops : Array Oper} {fin : List Kd → Tmps → List AO → Prop} {i : Nat} {ks : List Kd} {t : Tmps} {h : List AO} (D : DW P S n ops fin i ks t h) :
    i ≤ ops.size → ∃ (ls : List Kd) (T : Nat → Tmps) (Hh : Nat → List AO) (R : Nat → AV), ls.length = ops.size - i ∧ T i = t ∧ Hh i = h ∧ fin (ks.reverse ++ ls) (T ops.size) (Hh ops.size) ∧
      (∀ j, i ≤ j → j < ops.size → LSpec P S n ops j (ls.getD (j - i) .pure) (T j) (Hh j) (R j) (Hh (j + 1)) ∧ T (j + 1) = setT (T j) ((ops[j]?).bind (·.dst)) (R j)) := by
  induction D with
  | @fin i ks t h hi hf =>
    intro _
    refine ⟨[], fun _ => t, fun _ => h, fun _ => .u, by simp; omega, rfl, rfl, by simpa using hf, fun j h1 h2 => ?_⟩
    omega
  | @step i ks t h kd r h' L D ih =>
    intro hi
    have hlt := L.lt
    obtain ⟨ls, T, Hh, R, h1, h2, h3, h4, h5⟩ := ih (by omega)
    refine ⟨kd :: ls, fun j => if j = i then t else T j, fun j => if j = i then h else Hh j, fun j => if j = i then r else R j, by simp; omega, by simp, by simp, ?_, fun j hj1 hj2 => ?_⟩
    · dsimp only
      rw [if_neg (show ¬ ops.size = i by omega), if_neg (show ¬ ops.size = i by omega)]
      simpa using h4
    · by_cases e : j = i
      · subst e
        simp only [if_true, Nat.sub_self]
        rw [if_neg (by omega), if_neg (by omega), h2, h3]
        exact ⟨by simpa using L, rfl⟩
      · obtain ⟨k1, k2⟩ := h5 j (by omega) hj2
        simp only [if_neg e, if_neg (show ¬ j + 1 = i by omega)]
        refine ⟨?_, k2⟩
        rw [show j - i = (j - (i + 1)) + 1 by omega]
        exact k1

/-! ### Whatever order the tape picks -/
def tD (ops : Array Oper) (R : Nat → AV) (L : Nat → Bool) (t : Nat → AV) : Nat → Nat → AV
  | 0 => t
  | m + 1 => if L m then tset (tD ops R L t m) ((ops[m]?).bind (·.dst)) (R m) else tD ops R L t m

def hD (Kf : Nat → Kd) (Hh : Nat → List AO) (L : Nat → Bool) (h : List AO) : Nat → List AO
  | 0 => h
  | m + 1 => if L m && Kf m == .loud then Hh (m + 1) else hD Kf Hh L h m

theorem conflict_dst {ops : Array Oper} {ki kj : Kd} {oi oj : Oper} {x : Nat} (h1 : oi.dst = some x) (h2 : x ∈ oj.looksAt ops) : conflict ops ki kj oi oj = true := by
  simp [conflict, optMem, h1, h2]
theorem conflict_dst' {ops : Array Oper} {ki kj : Kd} {oi oj : Oper} {x : Nat} (h1 : oj.dst = some x) (h2 : x ∈ oi.looksAt ops) : conflict ops ki kj oi oj = true := by
  simp [conflict, optMem, h1, h2]
theorem conflict_same {ops : Array Oper} {ki kj : Kd} {oi oj : Oper} {x : Nat} (h1 : oi.dst = some x) (h2 : oj.dst = some x) : conflict ops ki kj oi oj = true := by
  simp [conflict, h1, h2]
theorem conflict_loud {ops : Array Oper} {kj : Kd} {oi oj : Oper} (h : kj ≠ .pure) : conflict ops .loud kj oi oj = true := by
  simp [conflict, h]
theorem conflict_loud' {ops : Array Oper} {ki : Kd} {oi oj : Oper} (h : ki ≠ .pure) : conflict ops ki .loud oi oj = true := by
  simp [conflict, h]

theorem bind_dst {ops : Array Oper} {m x : Nat} (h : (ops[m]?).bind (·.dst) = some x) : ∃ o, ops[m]? = some o ∧ o.dst = some x := Option.bind_eq_some_iff.1 h

/-- a temporary at m operations in: as the text's order has it, if all that write it have come up -/
theorem tD_eq {ops : Array Oper} {n : Nat} {Kf : Nat → Kd} {T : Nat → Tmps} {Hh : Nat → List AO} {R : Nat → AV} (W : Walk P S n ops Kf T Hh R) {L : Nat → Bool} {x : Nat} : ∀ m, m ≤ ops.size → (∀ i, i < m → (ops[i]?).bind (·.dst) = some x → L i = true) → tD ops R L (lk (T 0)) m x = lk (T m) x
  | 0, _, _ => rfl
  | m + 1, hm, h => by
    have ih := tD_eq W (L := L) (x := x) m (by omega) (fun i hi => h i (by omega))
    rw [W.next m (by omega), lk_setT']
    simp only [tD]
    by_cases hd : (ops[m]?).bind (·.dst) = some x
    · rw [h m (by omega) hd, if_pos rfl]
      simp only [tset, hd, if_true]
    · have e : tset (lk (T m)) ((ops[m]?).bind (·.dst)) (R m) x = lk (T m) x := by simp [tset, hd]
      rw [e]
      split
      · simp only [tset, hd, if_false]; exact ih
      · exact ih

theorem tD_skip {ops : Array Oper} {R : Nat → AV} {L : Nat → Bool} {t : Nat → AV} {x j : Nat} : ∀ d, (∀ i, j ≤ i → i < j + d → L i = true → (ops[i]?).bind (·.dst) ≠ some x) → tD ops R L t (j + d) x = tD ops R L t j x
  | 0, _ => rfl
  | d + 1, h => by
    have ih := tD_skip (ops := ops) (R := R) (L := L) (t := t) (x := x) (j := j) d (fun i h1 h2 => h i h1 (by omega))
    rw [← Nat.add_assoc]
    simp only [tD]
    split
    · rename_i hl
      simp only [tset, if_neg (h (j + d) (by omega) (by omega) hl)]
      exact ih
    · exact ih

theorem hD_eq {ops : Array Oper} {n : Nat} {Kf : Nat → Kd} {T : Nat → Tmps} {Hh : Nat → List AO} {R : Nat → AV} (W : Walk P S n ops Kf T Hh R) {L : Nat → Bool} : ∀ m, m ≤ ops.size → (∀ i, i < m → Kf i = .loud → L i = true) → hD Kf Hh L (Hh 0) m = Hh m
  | 0, _, _ => rfl
  | m + 1, hm, h => by
    have ih := hD_eq W (L := L) m (by omega) (fun i hi => h i (by omega))
    simp only [hD]
    by_cases hk : Kf m = .loud
    · rw [h m (by omega) hk, hk]; simp
    · have : (L m && Kf m == .loud) = false := by simp [hk]
      rw [this, (W.spec m (by omega)).keep hk]
      simpa using ih

theorem hD_skip {Kf : Nat → Kd} {Hh : Nat → List AO} {L : Nat → Bool} {h : List AO} {j : Nat} : ∀ d, (∀ i, j ≤ i → i < j + d → L i = true → Kf i ≠ .loud) → hD Kf Hh L h (j + d) = hD Kf Hh L h j
  | 0, _ => rfl
  | d + 1, hh => by
    have ih := hD_skip (Kf := Kf) (Hh := Hh) (L := L) (h := h) (j := j) d (fun i h1 h2 => hh i h1 (by omega))
    rw [← Nat.add_assoc]
    simp only [hD]
    have : (L (j + d) && Kf (j + d) == .loud) = false := by
      cases hl : L (j + d) with
      | false => rfl
      | true => simp [hh (j + d) (by omega) (by omega) hl]
    rw [this]
    simpa using ih

theorem tD_congr {ops : Array Oper} {R : Nat → AV} {L L' : Nat → Bool} {t : Nat → AV} : ∀ m, (∀ i, i < m → L i = L' i) → tD ops R L t m = tD ops R L' t m
  | 0, _ => rfl
  | m + 1, h => by simp only [tD]; rw [h m (by omega), tD_congr m (fun i hi => h i (by omega))]
theorem hD_congr {Kf : Nat → Kd} {Hh : Nat → List AO} {L L' : Nat → Bool} {h : List AO} : ∀ m, (∀ i, i < m → L i = L' i) → hD Kf Hh L h m = hD Kf Hh L' h m
  | 0, _ => rfl
  | m + 1, hh => by simp only [hD]; rw [hh m (by omega), hD_congr m (fun i hi => hh i (by omega))]

/-- how many have not come up -/
def unl (L : Nat → Bool) : Nat → Nat
  | 0 => 0
  | m + 1 => (if L m then 0 else 1) + unl L m

theorem unl_zero {L : Nat → Bool} : ∀ m, unl L m = 0 → ∀ i, i < m → L i = true
  | 0, _, i, hi => by omega
  | m + 1, h, i, hi => by
    simp only [unl] at h
    by_cases e : i = m
    · subst e
      cases hl : L i with
      | true => rfl
      | false => rw [hl] at h; simp at h
    · exact unl_zero m (by omega) i (by omega)
theorem unl_congr {L L' : Nat → Bool} : ∀ m, (∀ i, i < m → L i = L' i) → unl L m = unl L' m
  | 0, _ => rfl
  | m + 1, h => by simp only [unl]; rw [h m (by omega), unl_congr m (fun i hi => h i (by omega))]
theorem unl_set {L L' : Nat → Bool} {j : Nat} (h0 : L j = false) (h1 : L' j = true) (he : ∀ i, i ≠ j → L' i = L i) : ∀ m, j < m → unl L m = unl L' m + 1
  | 0, hj => by omega
  | m + 1, hj => by
    simp only [unl]
    by_cases e : j = m
    · subst e
      rw [h0, h1, unl_congr (L := L') (L' := L) j (fun i hi => he i (by omega))]
      simp
      omega
    · rw [he m (by omega), unl_set h0 h1 he m (by omega)]
      omega

/-- the least that has not come up -/
theorem least {L : Nat → Bool} {N : Nat} (h : unl L N ≠ 0) : ∃ j, j < N ∧ L j = false ∧ ∀ i, i < j → L i = true := by
  have ex : ∃ j, j < N ∧ L j = false := by
    rcases Classical.em (∃ j, j < N ∧ L j = false) with h1 | h1
    · exact h1
    · exfalso
      apply h
      have hall : ∀ i, i < N → L i = true := fun i hi => by
        cases hl : L i with
        | true => rfl
        | false => exact absurd ⟨i, hi, hl⟩ h1
      have : ∀ m, m ≤ N → unl L m = 0 := by
        intro m
        induction m with
        | zero => intro _; rfl
        | succ m ih => intro hm; simp only [unl, hall m (by omega), if_true, ih (by omega)]
      exact this N (Nat.le_refl _)
  obtain ⟨j, hj, hl⟩ := ex
  induction j using Nat.strongRecOn with
  | _ j ih =>
    rcases Classical.em (∃ i, i < j ∧ L i = false) with ⟨i, h1, h2⟩ | h1
    · exact ih i h1 (by omega) h2
    · refine ⟨j, hj, hl, fun i hi => ?_⟩
      cases hli : L i with
      | true => rfl
      | false => exact absurd ⟨i, hi, hli⟩ h1

theorem getD_set_self {l : Array Bool} {i : Nat} (h : i < l.size) : (l.setIfInBounds i true).getD i false = true := by
  rw [Array.getD_eq_getD_getElem?, Array.getElem?_setIfInBounds_self_of_lt h]
  rfl
theorem getD_set_other {l : Array Bool} {i j : Nat} (h : j ≠ i) : (l.setIfInBounds i true).getD j false = l.getD j false := by
  rw [Array.getD_eq_getD_getElem?, Array.getElem?_setIfInBounds_ne (Ne.symm h), ← Array.getD_eq_getD_getElem?]
theorem getD_tf {l : Array Bool} {i : Nat} (h : i < l.size) : l.getD i true = l.getD i false := by
  rw [Array.getD_eq_getD_getElem?, Array.getD_eq_getD_getElem?, Array.getElem?_eq_getElem h]
  rfl

theorem any_order {n : Nat} {ops : Array Oper} {Kf : Nat → Kd} {T : Nat → Tmps} {Hh : Nat → List AO} {R : Nat → AV} {anc : Nat → Nat → Prop} (W : Walk P S n ops Kf T Hh R) (F : Free ops Kf anc) {Q : Exit → Act → World → Prop} {C0 : Ctx}
    (hQ : ∀ C' a', Step C0 C' → ARel S C' (T ops.size) (Hh ops.size) n a' → Q .normal a' C'.w) :
    ∀ (fuel : Nat) (listed : Array Bool) (C : Ctx) (a : Act), Step C0 C → listed.size = ops.size → (∀ j i, listed.getD j false = true → anc j i → listed.getD i false = true) → unl (fun j => listed.getD j false) ops.size ≤ fuel →
      ARelF S C (tD ops R (fun j => listed.getD j false) (lk (T 0)) ops.size) (hD Kf Hh (fun j => listed.getD j false) (Hh 0) ops.size) n a → wpAny P .any ops Q fuel listed a C.w := by
  intro fuel
  induction fuel with
  | zero =>
    intro listed C a st hsz hcl hun A
    have hall := unl_zero ops.size (Nat.le_zero.1 hun)
    constructor
    · apply List.eq_nil_iff_forall_not_mem.2
      intro i hi
      obtain ⟨h1, o, h2, _⟩ := mem_ready.1 hi
      have hlt : i < ops.size := (Array.getElem?_eq_some_iff.1 h2).1
      have := hall i hlt
      rw [getD_tf (by omega)] at h1
      rw [this] at h1
      cases h1
    · refine hQ C a st ⟨A.defers, A.size, fun i => ?_, ?_⟩
      · have := A.tmps i
        rw [tD_eq W ops.size (Nat.le_refl _) (fun i hi _ => hall i hi)] at this
        exact this
      · have := A.heap
        rw [hD_eq W ops.size (Nat.le_refl _) (fun i hi _ => hall i hi)] at this
        exact this
  | succ fuel ih =>
    intro listed C a st hsz hcl hun A
    refine ⟨fun hr => ?_, fun i hi => ?_⟩
    · have hz : unl (fun j => listed.getD j false) ops.size = 0 := by
        rcases Classical.em (unl (fun j => listed.getD j false) ops.size = 0) with h | h
        · exact h
        · exfalso
          obtain ⟨j, hj, hlj, hall⟩ := least h
          have hjr : j ∈ Region.ready .any ops listed := by
            refine mem_ready.2 ⟨?_, ops[j], Array.getElem?_eq_getElem hj, fun e he hb => ?_⟩
            · rw [getD_tf (by omega)]; exact hlj
            · exact hall _ (F.edge j _ (Array.getElem?_eq_getElem hj) e he hb)
          rw [hr] at hjr
          cases hjr
      have hall := unl_zero ops.size hz
      refine hQ C a st ⟨A.defers, A.size, fun i => ?_, ?_⟩
      · have := A.tmps i
        rw [tD_eq W ops.size (Nat.le_refl _) (fun i hi _ => hall i hi)] at this
        exact this
      · have := A.heap
        rw [hD_eq W ops.size (Nat.le_refl _) (fun i hi _ => hall i hi)] at this
        exact this
    · obtain ⟨h1, o, h2, h3⟩ := mem_ready.1 hi
      have hlt : i < ops.size := (Array.getElem?_eq_some_iff.1 h2).1
      rw [getD_tf (by omega)] at h1
      have L := W.spec i hlt
      -- what hangs together with i is in its place
      have before : ∀ k ok, k < i → ops[k]? = some ok → conflict ops (Kf k) (Kf i) ok o = true → listed.getD k false = true := by
        intro k ok hk hok hc
        have ha := F.conf k i ok o hk hok h2 hc
        obtain ⟨e, he, hb, h4⟩ := F.cl i o k h2 ha
        have hle := h3 e he hb
        rcases h4 with rfl | h4
        · exact hle
        · exact hcl _ _ hle h4
      have behind : ∀ k ok, i < k → ops[k]? = some ok → conflict ops (Kf i) (Kf k) o ok = true → listed.getD k false = false := by
        intro k ok hk hok hc
        have ha := F.conf i k o ok hk h2 hok hc
        cases hl : listed.getD k false with
        | false => rfl
        | true => rw [hcl k i hl ha] at h1; cases h1
      have htmp : ∀ x, (∀ k ok, k < i → ops[k]? = some ok → ok.dst = some x → conflict ops (Kf k) (Kf i) ok o = true) → (∀ k ok, i < k → ops[k]? = some ok → ok.dst = some x → conflict ops (Kf i) (Kf k) o ok = true) → tD ops R (fun j => listed.getD j false) (lk (T 0)) ops.size x = lk (T i) x := by
        intro x c1 c2
        have e1 := tD_skip (ops := ops) (R := R) (L := fun j => listed.getD j false) (t := lk (T 0)) (x := x) (j := i) (ops.size - i) (fun k hk1 hk2 hl => by
          intro hd
          obtain ⟨ok, hok, hdk⟩ := bind_dst hd
          by_cases e : k = i
          · subst e; rw [h1] at hl; cases hl
          · have := behind k ok (by omega) hok (c2 k ok (by omega) hok hdk)
            rw [this] at hl
            cases hl)
        rw [show i + (ops.size - i) = ops.size by omega] at e1
        rw [e1]
        exact tD_eq W i (by omega) (fun k hk hd => by
          obtain ⟨ok, hok, hdk⟩ := bind_dst hd
          exact before k ok hk hok (c1 k ok hk hok hdk))
      refine L.run _ _ C a ?_ ?_ A Q _ ?_
      · intro o' ho' x hx
        rw [h2] at ho'
        injection ho' with ho'
        subst ho'
        exact htmp x (fun k ok _ _ hd => conflict_dst hd hx) (fun k ok _ _ hd => conflict_dst' hd hx)
      · intro hne
        have e1 := hD_skip (Kf := Kf) (Hh := Hh) (L := fun j => listed.getD j false) (h := Hh 0) (j := i) (ops.size - i) (fun k hk1 hk2 hl hloud => by
          by_cases e : k = i
          · subst e; rw [h1] at hl; cases hl
          · have hkl : k < ops.size := by omega
            have := behind k ops[k] (by omega) (Array.getElem?_eq_getElem hkl) (by rw [hloud]; exact conflict_loud' hne)
            rw [this] at hl
            cases hl)
        rw [show i + (ops.size - i) = ops.size by omega] at e1
        rw [e1]
        exact hD_eq W i (by omega) (fun k hk hloud => before k ops[k] hk (Array.getElem?_eq_getElem (by omega)) (by rw [hloud]; exact conflict_loud hne))
      · intro C' v st' hv hH
        have hset1 : (listed.setIfInBounds i true).getD i false = true := getD_set_self (by omega)
        have hset2 : ∀ k, k ≠ i → (listed.setIfInBounds i true).getD k false = listed.getD k false := fun k hk => getD_set_other hk
        have hdst : (ops[i]?).bind (·.dst) = o.dst := by rw [h2]; rfl
        -- the objects then
        have hheap : hD Kf Hh (fun j => (listed.setIfInBounds i true).getD j false) (Hh 0) ops.size = if Kf i = .loud then Hh (i + 1) else hD Kf Hh (fun j => listed.getD j false) (Hh 0) ops.size := by
          have pre : hD Kf Hh (fun j => (listed.setIfInBounds i true).getD j false) (Hh 0) i = hD Kf Hh (fun j => listed.getD j false) (Hh 0) i := hD_congr i (fun k hk => hset2 k (by omega))
          by_cases hk : Kf i = .loud
          · rw [if_pos hk]
            have e1 := hD_skip (Kf := Kf) (Hh := Hh) (L := fun j => (listed.setIfInBounds i true).getD j false) (h := Hh 0) (j := i + 1) (ops.size - (i + 1)) (fun k hk1 hk2 hl hloud => by
              rw [hset2 k (by omega)] at hl
              have hkl : k < ops.size := by omega
              have := behind k ops[k] (by omega) (Array.getElem?_eq_getElem hkl) (by rw [hloud, hk]; exact conflict_loud (by simp))
              rw [this] at hl
              cases hl)
            rw [show i + 1 + (ops.size - (i + 1)) = ops.size by omega] at e1
            rw [e1]
            simp only [hD, hset1, hk]
            simp
          · rw [if_neg hk]
            have main : ∀ d, hD Kf Hh (fun j => (listed.setIfInBounds i true).getD j false) (Hh 0) (i + 1 + d) = hD Kf Hh (fun j => listed.getD j false) (Hh 0) (i + 1 + d) := by
              intro d
              induction d with
              | zero => simp only [Nat.add_zero, hD, hset1, h1, hk, pre]; simp [hk]
              | succ d ihd =>
                have e := hset2 (i + 1 + d) (by omega)
                rw [← Nat.add_assoc]
                simp only [hD, e, ihd]
            have := main (ops.size - (i + 1))
            rw [show i + 1 + (ops.size - (i + 1)) = ops.size by omega] at this
            exact this
        have htm : ∀ x, tD ops R (fun j => (listed.setIfInBounds i true).getD j false) (lk (T 0)) ops.size x = tset (tD ops R (fun j => listed.getD j false) (lk (T 0)) ops.size) o.dst (R i) x := by
          intro x
          have pre : tD ops R (fun j => (listed.setIfInBounds i true).getD j false) (lk (T 0)) i = tD ops R (fun j => listed.getD j false) (lk (T 0)) i := tD_congr i (fun k hk => hset2 k (by omega))
          by_cases hx : o.dst = some x
          · have e1 := tD_skip (ops := ops) (R := R) (L := fun j => (listed.setIfInBounds i true).getD j false) (t := lk (T 0)) (x := x) (j := i + 1) (ops.size - (i + 1)) (fun k hk1 hk2 hl hd => by
              rw [hset2 k (by omega)] at hl
              obtain ⟨ok, hok, hdk⟩ := bind_dst hd
              have := behind k ok (by omega) hok (conflict_same hx hdk)
              rw [this] at hl
              cases hl)
            rw [show i + 1 + (ops.size - (i + 1)) = ops.size by omega] at e1
            rw [e1]
            simp only [tD, hset1, if_true, tset, hdst, hx]
          · have main : ∀ d, tD ops R (fun j => (listed.setIfInBounds i true).getD j false) (lk (T 0)) (i + 1 + d) x = tD ops R (fun j => listed.getD j false) (lk (T 0)) (i + 1 + d) x := by
              intro d
              induction d with
              | zero =>
                simp only [Nat.add_zero, tD, hset1, if_true, h1, pre, tset, hdst, if_neg hx]
                simp
              | succ d ihd =>
                have e := hset2 (i + 1 + d) (by omega)
                rw [← Nat.add_assoc]
                simp only [tD, e]
                split
                · simp only [tset, ihd]
                · exact ihd
            have := main (ops.size - (i + 1))
            rw [show i + 1 + (ops.size - (i + 1)) = ops.size by omega] at this
            rw [this]
            simp only [tset, if_neg hx]
        rw [hdst]
        have A' := A.put st' hH (d := o.dst) (r := R i) (fun x hx => L.dst x (by rw [hdst]; exact hx)) hv
        refine ih (listed.setIfInBounds i true) C' _ (st.trans st') (by simpa using hsz) ?_ ?_ ⟨A'.defers, A'.size, fun x => ?_, ?_⟩
        · intro j k hj hjk
          by_cases e : j = i
          · subst e
            obtain ⟨e', he, hb, h4⟩ := F.cl j o k h2 hjk
            have hle := h3 e' he hb
            have hk : listed.getD k false = true := by
              rcases h4 with rfl | h4
              · exact hle
              · exact hcl _ _ hle h4
            by_cases e2 : k = j
            · subst e2; exact hset1
            · rw [hset2 k e2]; exact hk
          · rw [hset2 j e] at hj
            have hk := hcl j k hj hjk
            by_cases e2 : k = i
            · subst e2; exact hset1
            · rw [hset2 k e2]; exact hk
        · have := unl_set (L := fun j => listed.getD j false) (L' := fun j => (listed.setIfInBounds i true).getD j false) (j := i) h1 hset1 (fun k hk => hset2 k hk) ops.size hlt
          omega
        · rw [htm x]; exact A'.tmps x
        · rw [hheap]; exact A'.heap
end Go.Sh
