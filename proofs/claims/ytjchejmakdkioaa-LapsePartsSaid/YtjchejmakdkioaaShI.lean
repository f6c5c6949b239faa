import Derived.Test.YtjchejmakdkioaaShH
set_option linter.unusedVariables false
set_option linter.unusedSimpArgs false
namespace Go.Sh
variable {P : Program} {G : Tab}

structure RS where
  i : Nat
  ks : List Kd
  t : Tmps
  h : List AO

def rrun (G : Tab) (n : Nat) (ops : Array Oper) : Nat → RS → Option RS
  | 0, s => some s
  | m + 1, s =>
    match stepA G n ops s.i s.t s.h with
    | some (kd, r, h') => rrun G n ops m ⟨s.i + 1, kd :: s.ks, setT s.t ((ops[s.i]?).bind (·.dst)) r, h'⟩
    | none => none

theorem rrun_sound (hG : G.ok P) {n : Nat} {ops : Array Oper} {fin : List Kd → Tmps → List AO → Prop} : ∀ (m : Nat) (s s' : RS), rrun G n ops m s = some s' → DW P G.S n ops fin s'.i s'.ks s'.t s'.h → DW P G.S n ops fin s.i s.ks s.t s.h
  | 0, s, s', h, D => by
    injection h with h
    subst h
    exact D
  | m + 1, s, s', h, D => by
    simp only [rrun] at h
    split at h
    · rename_i kd r h' hs
      exact .step (stepA_sound hG hs) (rrun_sound hG m _ s' h D)
    · cases h

/-- m operations of a region, by the kernel -/
theorem DW.auto (hG : G.ok P) {n : Nat} {ops : Array Oper} {fin : List Kd → Tmps → List AO → Prop} (m : Nat) {i i' : Nat} {ks ks' : List Kd} {t t' : Tmps} {h h' : List AO} (e : rrun G n ops m ⟨i, ks, t, h⟩ = some ⟨i', ks', t', h'⟩) (D : DW P G.S n ops fin i' ks' t' h') : DW P G.S n ops fin i ks t h :=
  rrun_sound hG m _ _ e D

/-- a Bool that isn't known: two ways -/
theorem DW.split {S : Sizes} {n : Nat} {ops : Array Oper} {fin : List Kd → Tmps → List AO → Prop} {i : Nat} {ks : List Kd} {h : List AO} (b : Bool) (f : Bool → Tmps) (ht : b = true → DW P S n ops fin i ks (f true) h) (hf : b = false → DW P S n ops fin i ks (f false) h) : DW P S n ops fin i ks (f b) h := by
  cases b
  · exact hf rfl
  · exact ht rfl

theorem DW.done {F : Fn} {c0 : Ctx} {R : Ending → World → Prop} {ops : Array Oper} {draw : Bool} {k : List PI} {i : Nat} {ks : List Kd} {t : Tmps} {h : List AO} (hi : ops.size = i) (hc : (!draw || confOk ops ks.reverse) = true) (A : AR P G F c0 R k t h) : DW P G.S F.n ops (Fin P G F c0 R ops draw k) i ks t h :=
  .fin hi ⟨fun hd => by rw [hd] at hc; simpa using hc, A⟩

/-! ### Steps through the text -/
structure Cfg where
  k : List PI
  t : Tmps
  h : List AO

def pstep (G : Tab) (F : Fn) (c : Cfg) : Option Cfg :=
  match c.k with
  | [] => none
  | .blk _ :: k => some ⟨k, c.t, c.h⟩
  | .loop _ :: _ => none
  | .code p :: k =>
    match codeAt F.B p with
    | .skip => some ⟨k, c.t, c.h⟩
    | .seq _ _ => some ⟨.code (p ++ [0]) :: .code (p ++ [1]) :: k, c.t, c.h⟩
    | .cond x _ _ =>
      match ev c.t x with
      | .sc (.bool b) => some ⟨.code (p ++ [if b then 0 else 1]) :: k, c.t, c.h⟩
      | _ => none
    | .block id _ => some ⟨.code (p ++ [0]) :: .blk id :: k, c.t, c.h⟩
    | .region _ ops draw =>
      match rrun G F.n ops ops.size ⟨0, [], c.t, c.h⟩ with
      | some s => if !draw || confOk ops s.ks.reverse then some ⟨k, s.t, s.h⟩ else none
      | none => none
    | .exit id => (exitP id k).map fun k' => ⟨k', c.t, c.h⟩
    | _ => none

def arun (G : Tab) (F : Fn) : Nat → Cfg → Option Cfg
  | 0, c => some c
  | m + 1, c => (pstep G F c).bind (arun G F m)

variable {F : Fn} {c0 : Ctx} {R : Ending → World → Prop}

theorem rrun_i {n : Nat} {ops : Array Oper} : ∀ (m : Nat) (s s' : RS), rrun G n ops m s = some s' → s'.i = s.i + m
  | 0, s, s', h => by injection h with h; subst h; rfl
  | m + 1, s, s', h => by
    simp only [rrun] at h
    split at h
    · have := rrun_i m _ s' h
      simp only at this
      omega
    · cases h

theorem AR.pstep (hG : G.ok P) (hm : P.follows .mixedOrders = true) {c c' : Cfg} (h : pstep G F c = some c') (A : AR P G F c0 R c'.k c'.t c'.h) : AR P G F c0 R c.k c.t c.h := by
  obtain ⟨k, t, hp⟩ := c
  unfold Sh.pstep at h
  simp only at h
  split at h
  · cases h
  · rename_i id k
    injection h with h
    subst h
    intro C a st AA
    refine (A C a st AA).one fun cs => ?_
    simp only [List.map_cons, PI.dec]
    exact step_inBlock
  · cases h
  · rename_i p k
    split at h
    · rename_i hc
      injection h with h
      subst h
      intro C a st AA
      refine (A C a st AA).one fun cs => ?_
      simp only [List.map_cons, PI.dec, hc]
      exact step_skip
    · rename_i x y hc
      injection h with h
      subst h
      intro C a st AA
      refine (A C a st AA).one fun cs => ?_
      simp only [List.map_cons, PI.dec, codeAt_append, hc]
      simp only [codeAt, if_true]
      exact step_seq
    · rename_i x y z hc
      split at h
      · rename_i b hb
        injection h with h
        subst h
        intro C a st AA
        refine (A C a st AA).one fun cs => ?_
        have hv := AA.ev x
        rw [hb] at hv
        have hv := sc_inv hv
        simp only [List.map_cons, PI.dec, codeAt_append, hc]
        have := step_cond (P := P) (b := baseFr F.f) (k := k.map (PI.dec F.B)) (cs := cs) (w := C.w) (x := y) (y := z) hv
        rw [this]
        cases b <;> simp [codeAt]
      · cases h
    · rename_i id x hc
      injection h with h
      subst h
      intro C a st AA
      refine (A C a st AA).one fun cs => ?_
      simp only [List.map_cons, PI.dec, codeAt_append, hc]
      simp only [codeAt]
      exact step_block
    · rename_i id ops draw hc
      split at h
      · rename_i s hs
        split at h
        · rename_i hok
          injection h with h
          subst h
          refine AR.region hm hc (rrun_sound hG ops.size _ s hs (DW.done ?_ hok A))
          have := rrun_i _ _ _ hs
          simpa using this.symm
        · cases h
      · cases h
    · rename_i id hc
      obtain ⟨k', h1, h2⟩ := Option.map_eq_some_iff.1 h
      subst h2
      intro C a st AA
      refine (A C a st AA).one fun cs => ?_
      simp only [List.map_cons, PI.dec, hc]
      exact step_exit (exitP_dec F.B id k k' h1)
    · cases h

theorem arun_sound (hG : G.ok P) (hm : P.follows .mixedOrders = true) : ∀ (m : Nat) (c c' : Cfg), arun G F m c = some c' → AR P G F c0 R c'.k c'.t c'.h → AR P G F c0 R c.k c.t c.h
  | 0, c, c', h, A => by injection h with h; subst h; exact A
  | m + 1, c, c', h, A => by
    obtain ⟨c1, h1, h2⟩ := Option.bind_eq_some_iff.1 h
    exact AR.pstep hG hm h1 (arun_sound hG hm m c1 c' h2 A)

/-- m steps through the text, by the kernel -/
theorem AR.auto (hG : G.ok P) (hm : P.follows .mixedOrders = true) (m : Nat) {k k' : List PI} {t t' : Tmps} {h h' : List AO} (e : arun G F m ⟨k, t, h⟩ = some ⟨k', t', h'⟩) (A : AR P G F c0 R k' t' h') : AR P G F c0 R k t h :=
  arun_sound hG hm m _ _ e A

theorem AR.split {k : List PI} {h : List AO} (b : Bool) (f : Bool → Tmps) (ht : b = true → AR P G F c0 R k (f true) h) (hf : b = false → AR P G F c0 R k (f false) h) : AR P G F c0 R k (f b) h := by
  cases b
  · exact hf rfl
  · exact ht rfl

/-- less is known -/
theorem AR.forget {k : List PI} {t t' : Tmps} {h : List AO} (live : List Nat) (e : (live.map fun i => (i, lk t i)) = t') (A : AR P G F c0 R k t' h) : AR P G F c0 R k t h := by
  intro C a st AA
  refine A C a st ⟨AA.defers, AA.size, fun i => ?_, AA.heap⟩
  subst e
  have : ∀ (l : List Nat), lk (l.map fun i => (i, lk t i)) i = lk t i ∨ lk (l.map fun i => (i, lk t i)) i = .u := by
    intro l
    induction l with
    | nil => exact .inr rfl
    | cons j l ih =>
      simp only [List.map_cons, lk]
      by_cases h : j = i
      · subst h; simp
      · rw [if_neg (by simpa using h)]; exact ih
  rcases this live with h | h
  · rw [h]; exact AA.tmps i
  · rw [h]; trivial

/-- the head of a loop, on the way in and on the way round -/
theorem AR.loop_in {k : List PI} {p : List Nat} {c : Code} (hc : codeAt F.B p = .loop c) {t : Tmps} {h : List AO} (A : AR P G F c0 R (.code (p ++ [0]) :: .loop p :: k) t h) : AR P G F c0 R (.code p :: k) t h := by
  intro C a st AA
  refine (A C a st AA).one fun cs => ?_
  simp only [List.map_cons, PI.dec, codeAt_append, hc]
  simp only [codeAt]
  exact step_loop
theorem AR.loop_round {k : List PI} {p : List Nat} {t : Tmps} {h : List AO} (A : AR P G F c0 R (.code (p ++ [0]) :: .loop p :: k) t h) : AR P G F c0 R (.loop p :: k) t h := by
  intro C a st AA
  refine (A C a st AA).one fun cs => ?_
  simp only [List.map_cons, PI.dec]
  exact step_inLoop
end Go.Sh
