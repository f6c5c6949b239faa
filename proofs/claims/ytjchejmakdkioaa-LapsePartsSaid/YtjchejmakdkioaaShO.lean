import Derived.Test.YtjchejmakdkioaaShN
set_option linter.unusedVariables false
set_option linter.unusedSimpArgs false
namespace Go.Sh
variable {P : Program} {G : Tab} {S : Sizes}

/-! ### Less known -/
def Weak (S : Sizes) (t' t : Tmps) : Prop := ∀ x C v, VRel S C (lk t x) v → VRel S C (lk t' x) v
def keepT (live : List Nat) (t : Tmps) : Tmps := live.map fun i => (i, lk t i)

theorem keepT_lk (live : List Nat) (t : Tmps) (i : Nat) : lk (keepT live t) i = lk t i ∨ lk (keepT live t) i = .u := by
  unfold keepT
  induction live with
  | nil => exact .inr rfl
  | cons j l ih =>
    simp only [List.map_cons, lk]
    by_cases h : j = i
    · subst h; simp
    · rw [if_neg (by simpa using h)]; exact ih

theorem keepT_weak (live : List Nat) (t : Tmps) : Weak S (keepT live t) t := by
  intro i C v hv
  rcases keepT_lk live t i with h | h
  · rw [h]; exact hv
  · rw [h]; trivial

theorem Weak.rel {t' t : Tmps} (w : Weak S t' t) {C : Ctx} {h : List AO} {n : Nat} {a : Act} (A : ARel S C t h n a) : ARel S C t' h n a :=
  ⟨A.defers, A.size, fun i => w i C _ (A.tmps i), A.heap⟩

theorem Weak.set {t' t : Tmps} (w : Weak S t' t) (d : Option Nat) (r : AV) : Weak S (setT t' d r) (setT t d r) := by
  intro x C v
  rw [lk_setT', lk_setT']
  unfold tset
  by_cases e : d = some x
  · rw [if_pos e, if_pos e]; exact id
  · rw [if_neg e, if_neg e]; exact w x C v

theorem AR.weak {F : Fn} {c0 : Ctx} {R : Ending → World → Prop} {k : List PI} {t t' : Tmps} {h : List AO} (w : Weak G.S t' t) (A : AR P G F c0 R k t' h) : AR P G F c0 R k t h :=
  fun C a st AA => A C a st (w.rel AA)

theorem LSpec.weak {n : Nat} {ops : Array Oper} {i : Nat} {kd : Kd} {t t' : Tmps} {h h' : List AO} {r : AV} (w : Weak S t' t) (L : LSpec P S n ops i kd t' h r h') : LSpec P S n ops i kd t h r h' := by
  classical
  refine ⟨L.lt, L.dst, L.keep, fun t2 h2 C a hl hh A Q K hK => ?_⟩
  refine L.run (fun x => if t2 x = lk t x then lk t' x else t2 x) h2 C a (fun o ho x hx => ?_) hh ⟨A.defers, A.size, fun i => ?_, A.heap⟩ Q K hK
  · simp only [hl o ho x hx, if_true]
  · have := A.tmps i
    by_cases e : t2 i = lk t i
    · simp only [e, if_true]; exact w i C _ (e ▸ this)
    · simp only [e, if_false]; exact this

theorem DW.weak {n : Nat} {ops : Array Oper} {fin : List Kd → Tmps → List AO → Prop} (hf : ∀ ks t' t h, Weak S t' t → fin ks t' h → fin ks t h) {i : Nat} {ks : List Kd} {t t' : Tmps} {h : List AO} (w : Weak S t' t) (D : DW P S n ops fin i ks t' h) : DW P S n ops fin i ks t h := by
  induction D generalizing t with
  | fin hi hfin => exact .fin hi (hf _ _ _ _ w hfin)
  | step L D ih => exact .step (L.weak w) (ih (w.set _ _))

def Kd.leB : Kd → Kd → Bool
  | .pure, _ => true
  | .read, .read => true
  | .read, .loud => true
  | .loud, .loud => true
  | _, _ => false

theorem LSpec.up {n : Nat} {ops : Array Oper} {i : Nat} {kd kd' : Kd} {t : Tmps} {h h' : List AO} {r : AV} (hle : kd.leB kd' = true) (L : LSpec P S n ops i kd t h r h') : LSpec P S n ops i kd' t h r h' := by
  by_cases e : kd = kd'
  · subst e; exact L
  · have hk : kd ≠ .loud := by
      intro e'
      subst e'
      cases kd' <;> simp [Kd.leB] at hle e
    have hp : kd' ≠ .pure := by
      intro e'
      subst e'
      cases kd <;> simp [Kd.leB] at hle e
    have hh := L.keep hk
    refine ⟨L.lt, L.dst, fun _ => hh, fun t2 h2 C a hl hheap A Q K hK => ?_⟩
    refine L.run t2 h2 C a hl (fun _ => hheap hp) A Q K fun C' v st hv H => ?_
    rw [if_neg hk] at H
    refine hK C' v st hv ?_
    split
    · rw [hh, ← hheap hp]; exact H
    · exact H

/-! ### A region, its kinds given ahead -/
def DK (P : Program) (S : Sizes) (n : Nat) (ops : Array Oper) (kds : List Kd) (fin : Tmps → List AO → Prop) (i : Nat) (t : Tmps) (h : List AO) : Prop :=
  (∀ t' t h, Weak S t' t → fin t' h → fin t h) → DW P S n ops (fun ks t h => ks = kds ∧ fin t h) i (kds.take i).reverse t h

variable {n : Nat} {ops : Array Oper} {kds : List Kd} {fin : Tmps → List AO → Prop}

theorem DK.weak {i : Nat} {t t' : Tmps} {h : List AO} (w : Weak S t' t) (D : DK P S n ops kds fin i t' h) : DK P S n ops kds fin i t h :=
  fun hf => DW.weak (fun _ _ _ _ w h => ⟨h.1, hf _ _ _ w h.2⟩) w (D hf)

theorem DK.step {i : Nat} {t : Tmps} {h : List AO} {kd kd' : Kd} {r : AV} {h' : List AO} (L : LSpec P S n ops i kd t h r h') (hk : kds[i]? = some kd') (hle : kd.leB kd' = true)
    (D : DK P S n ops kds fin (i + 1) (setT t ((ops[i]?).bind (·.dst)) r) h') : DK P S n ops kds fin i t h := by
  intro hf
  refine .step (L.up hle) ?_
  have := D hf
  rw [List.take_add_one, hk] at this
  simpa using this

def drun (G : Tab) (n : Nat) (ops : Array Oper) (kds : List Kd) : Nat → Nat → Tmps → List AO → Option (Tmps × List AO)
  | 0, _, t, h => some (t, h)
  | m + 1, i, t, h =>
    match stepA G n ops i t h, kds[i]? with
    | some (kd, r, h'), some kd' => if kd.leB kd' then drun G n ops kds m (i + 1) (setT t ((ops[i]?).bind (·.dst)) r) h' else none
    | _, _ => none

theorem drun_sound (hG : G.ok P) : ∀ (m i : Nat) (t : Tmps) (h : List AO) (t' : Tmps) (h' : List AO), drun G n ops kds m i t h = some (t', h') → DK P G.S n ops kds fin (i + m) t' h' → DK P G.S n ops kds fin i t h
  | 0, i, t, h, t', h', e, D => by
    injection e with e
    injection e with e1 e2
    subst e1; subst e2
    exact D
  | m + 1, i, t, h, t', h', e, D => by
    simp only [drun] at e
    split at e
    · rename_i kd r h1 kd' hs hk
      split at e
      · rename_i hle
        exact DK.step (stepA_sound hG hs) hk hle (drun_sound hG m (i + 1) _ _ _ _ e (by rw [show i + 1 + m = i + (m + 1) by omega]; exact D))
      · cases e
    · cases e

/-- m operations by the kernel; what lives on is kept -/
theorem DK.seg (hG : G.ok P) (m : Nat) (live : List Nat) {i j : Nat} {t t' : Tmps} {h h' : List AO} (e : (drun G n ops kds m i t h).map (fun p => (keepT live p.1, p.2)) = some (t', h')) (hj : i + m = j) (D : DK P G.S n ops kds fin j t' h') : DK P G.S n ops kds fin i t h := by
  subst hj
  obtain ⟨⟨t1, h1⟩, e1, e2⟩ := Option.map_eq_some_iff.1 e
  injection e2 with e2 e3
  subst e2; subst e3
  exact drun_sound hG m i t h t1 h1 e1 (D.weak (keepT_weak live t1))

/-- one operation by its own law -/
theorem DK.op (live : List Nat) {i j : Nat} {t t' : Tmps} {h h' : List AO} {kd kd' : Kd} {r : AV} (L : LSpec P S n ops i kd t h r h') (hk : kds[i]? = some kd') (hle : kd.leB kd' = true) (e : keepT live (setT t ((ops[i]?).bind (·.dst)) r) = t') (hj : i + 1 = j)
    (D : DK P S n ops kds fin j t' h') : DK P S n ops kds fin i t h := by
  subst hj; subst e
  exact DK.step L hk hle (D.weak (keepT_weak live _))

def subB (d : Nat) (b : Bool) (t : Tmps) : Tmps := t.map fun p => if p.1 == d then (p.1, .sc (.bool b)) else p

/-- a Bool that isn't known: both ways come to one state -/
theorem DK.mux (d : Nat) (b : Bool) {i j : Nat} {t : Tmps} {h h' : List AO} (hl : subB d b t = t) (t' : Bool → Tmps) (J : DK P S n ops kds fin j (t' b) h')
    (ht : b = true → DK P S n ops kds fin j (t' true) h' → DK P S n ops kds fin i (subB d true t) h) (hf : b = false → DK P S n ops kds fin j (t' false) h' → DK P S n ops kds fin i (subB d false t) h) : DK P S n ops kds fin i t h := by
  rw [← hl]
  cases b
  · exact hf rfl J
  · exact ht rfl J

/-- two ways -/
theorem DK.split (d : Nat) (b : Bool) {i : Nat} {t : Tmps} {h : List AO} (hl : subB d b t = t) 
    (ht : b = true → DK P S n ops kds fin i (subB d true t) h) (hf : b = false → DK P S n ops kds fin i (subB d false t) h) : DK P S n ops kds fin i t h := by
  rw [← hl]
  cases b
  · exact hf rfl
  · exact ht rfl

theorem DK.done {i : Nat} {t : Tmps} {h : List AO} (hi : (ops.size == i) = true) (hk : (kds.length == i) = true) (A : fin t h) : DK P S n ops kds fin i t h := by
  intro _
  rw [beq_iff_eq] at hi hk
  refine .fin hi ⟨?_, A⟩
  rw [List.reverse_reverse, ← hk, List.take_length]

variable {F : Fn} {c0 : Ctx} {R : Ending → World → Prop}

def opsOf : Code → Array Oper
  | .region _ ops _ => ops
  | _ => #[]
def regOk (kds : List Kd) : Code → Bool
  | .region _ ops draw => !draw || confOk ops kds
  | _ => false

theorem AR.reg (hm : P.follows .mixedOrders = true) (kds : List Kd) {k : List PI} {p : List Nat} {t : Tmps} {h : List AO} (hc : regOk kds (codeAt F.B p) = true) (D : DK P G.S F.n (opsOf (codeAt F.B p)) kds (AR P G F c0 R k) 0 t h) : AR P G F c0 R (.code p :: k) t h := by
  cases hcd : codeAt F.B p with
  | region id ops draw =>
    rw [hcd] at hc D
    refine AR.region hm hcd ?_
    have D' := D (fun _ _ _ w A => AR.weak w A)
    simp only [opsOf] at D'
    have key : ∀ {i ks t h}, DW P G.S F.n ops (fun ks t h => ks = kds ∧ AR P G F c0 R k t h) i ks t h → DW P G.S F.n ops (Fin P G F c0 R ops draw k) i ks t h := by
      intro i ks t h D
      induction D with
      | fin hi hf =>
        refine .fin hi ⟨fun hd => ?_, hf.2⟩
        rw [hf.1]
        simpa [regOk, hd] using hc
      | step L _ ih => exact .step L ih
    exact key (by simpa using D')
  | _ => rw [hcd] at hc; cases hc

/-- m steps through the text; what lives on is kept -/
theorem AR.seg (hG : G.ok P) (hm : P.follows .mixedOrders = true) (m : Nat) (live : List Nat) {k k' : List PI} {t t' : Tmps} {h h' : List AO} (e : (arun G F m ⟨k, t, h⟩).map (fun c => (c.k, keepT live c.t, c.h)) = some (k', t', h')) (A : AR P G F c0 R k' t' h') : AR P G F c0 R k t h := by
  obtain ⟨c, e1, e2⟩ := Option.map_eq_some_iff.1 e
  injection e2 with e2 e3
  injection e3 with e3 e4
  subst e2; subst e3; subst e4
  exact arun_sound hG hm m _ _ e1 (A.weak (keepT_weak live _))

def condOf : Code → Option Operand
  | .cond x _ _ => some x
  | _ => none

/-- an if -/
theorem AR.cond {k : List PI} {p : List Nat} {t : Tmps} {h : List AO} (x : Operand) (b : Bool) (hc : condOf (codeAt F.B p) = some x) (hl : ev t x = .sc (.bool b))
    (ht : b = true → AR P G F c0 R (.code (p ++ [0]) :: k) t h) (hf : b = false → AR P G F c0 R (.code (p ++ [1]) :: k) t h) : AR P G F c0 R (.code p :: k) t h := by
  cases hcd : codeAt F.B p with
  | cond y c d =>
    rw [hcd] at hc
    injection hc with hc
    subst hc
    intro C a st AA
    have hv := AA.ev y
    rw [hl] at hv
    have hv := sc_inv hv
    have key : AR P G F c0 R (.code (p ++ [if b then 0 else 1]) :: k) t h := by
      cases b
      · exact hf rfl
      · exact ht rfl
    refine (key C a st AA).one fun cs => ?_
    have := step_cond (P := P) (b := baseFr F.f) (k := k.map (PI.dec F.B)) (cs := cs) (w := C.w) (x := c) (y := d) hv
    simp only [List.map_cons, PI.dec, codeAt_append, hcd]
    rw [this]
    cases b <;> simp [codeAt]
  | _ => rw [hcd] at hc; cases hc
end Go.Sh
