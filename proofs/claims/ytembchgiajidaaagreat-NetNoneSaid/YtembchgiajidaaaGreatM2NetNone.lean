import Derived.Conc.LoneSelect
import Derived.Conc.LoneSelectN
import Derived.Conc.SmallLaws
import Derived.Lib.ConvBytes
import Derived.Laws.OwnMore
import Derived.Test.YtembchgiajidaaaGreatM1NetNone
set_option linter.unusedVariables false
set_option linter.unusedSimpArgs false
namespace Go.Sh
variable {P : Program} {G : Tab} {S : Sizes} {n : Nat} {ops : Array Oper}
def readyL (ops : Array Oper) (done : List Nat) : List Nat := (List.range ops.size).filter fun i => !done.contains i && (match ops[i]? with | some o => o.after.toList.all (fun e => !Region.binds .any e || done.contains e.on) | none => false)
theorem mapM_mem {α β : Type} {f : α → Option β} : ∀ {l : List α} {r : List β}, l.mapM f = some r → ∀ x ∈ l, ∃ y ∈ r, f x = some y
 | [], r, _, x, hx => by simp at hx
 | a :: l, r, h, x, hx => by
  rw [List.mapM_cons] at h
  obtain ⟨b, h1, h2⟩ := Option.bind_eq_some_iff.1 h
  obtain ⟨bs, h3, h4⟩ := Option.bind_eq_some_iff.1 h2
  injection h4 with h4
  subst h4
  rcases List.mem_cons.1 hx with rfl | hx
  ·exact ⟨b, by simp, h1⟩
  ·obtain ⟨y, h5, h6⟩ := mapM_mem h3 x hx
   exact ⟨y, by simp [h5], h6⟩
def regAny : Code → Bool
 | .region _ _ draw => draw
 | _ => false
mutual
theorem plainA_below (N : Nat) : ∀ (a : AV), plainA a = true → belowA N a = true
 | .u, h => by simp [plainA] at h
 | .sc _, _ => rfl
 | .arr .., _ => rfl
 | .sl .., _ => rfl
 | .ep .., _ => rfl
 | .is _, _ => rfl
 | .fm .., h => by simp [plainA] at h
 | .agg fs, h => by
  simp only [plainA] at h
  simp only [belowA]
  exact plainL_below N fs h
 | .fn _ caps, h => by
  simp only [plainA] at h
  simp only [belowA]
  exact plainL_below N caps h
 | .own .., h => by simp [plainA] at h
 | .ptr .., h => by simp [plainA] at h
 | .el .., h => by simp [plainA] at h
 | .bsl .., h => by simp [plainA] at h
 | .ref .., h => by simp [plainA] at h
 | .tup _, h => by simp [plainA] at h
theorem plainL_below (N : Nat) : ∀ (fs : List AV), plainL fs = true → belowL N fs = true
 | [], _ => rfl
 | f :: fs, h => by
  simp only [plainL, Bool.and_eq_true] at h
  simp only [belowL, Bool.and_eq_true]
  exact ⟨plainA_below N f h.1, plainL_below N fs h.2⟩
end
inductive BelowT (N : Nat) : Tmps → Prop
 | nil : BelowT N []
 | cons {i : Nat} {a : AV} {t : Tmps} : belowA N a = true → BelowT N t → BelowT N ((i, a) :: t)
theorem BelowT.map {N : Nat} {t : Tmps} (h : BelowT N t) : (t.map fun p => (p.1, cutA N p.2)) = t := by
 induction h with
 | nil => rfl
 | cons h1 _ ih =>
  simp only [List.map_cons, ih]
  unfold cutA
  simp only [h1, if_true]
end Go.Sh
namespace Go.Sh
variable {P : Program} {G : Tab} {S : Sizes}
mutual
def rnA (φ : Nat → Nat → Option AV) (f : Nat → Option Nat) : AV → Option AV
 | .own o k => φ o k
 | .el .. => none
 | .ptr o off ix => match f o with | some o' => some (.ptr o' off ix) | none => none
 | .bsl e o off n => match f o with | some o' => some (.bsl e o' off n) | none => none
 | .ref K o => match f o with | some o' => some (.ref K o') | none => none
 | .agg fs => match rnL φ f fs with | some gs => some (.agg gs) | none => none
 | .fn x caps => match rnL φ f caps with | some gs => some (.fn x gs) | none => none
 | .tup _ => none
 | .u => some .u
 | .sc v => some (.sc v)
 | .arr k n xs => some (.arr k n xs)
 | .sl e rows full => some (.sl e rows full)
 | .ep fs off ix => some (.ep fs off ix)
 | .fm o k ψ => match φ o k with | some (.own o' k') => some (.fm o' k' ψ) | _ => none
 | .is ψ => some (.is ψ)
def rnL (φ : Nat → Nat → Option AV) (f : Nat → Option Nat) : List AV → Option (List AV)
 | [] => some []
 | a :: r =>
  match rnA φ f a, rnL φ f r with
  | some b, some s => some (b :: s)
  | _, _ => none
end
structure Rn (S : Sizes) (φ : Nat → Nat → Option AV) (f : Nat → Option Nat) (C D : Ctx) : Prop where
 u : Under C D
 own : ∀ (o k : Nat) (cs : List Value) (a : AV), φ o k = some a → RelV S C (.own o k) cs → a.single = true ∧ RelV S D a cs
 blk : ∀ (o o' b : Nat), f o = some o' → C.m[o]? = some (.blk b) → D.m[o']? = some (.blk b)
 fm : ∀ (o k : Nat) (ψ : Value → List Nat → Value → Prop) (cs : List Value) (o' k' : Nat), φ o k = some (.own o' k') → RelV S C (.fm o k ψ) cs → RelV S D (.fm o' k' ψ) cs
mutual
theorem RelV.rn {φ : Nat → Nat → Option AV} {f : Nat → Option Nat} {C D : Ctx} (h : Rn S φ f C D) : ∀ (a a' : AV) (cs : List Value), rnA φ f a = some a' → RelV S C a cs → RelV S D a' cs
 | .own o k, a', cs, e, r => (h.own o k cs a' e r).2
 | .el .., a', cs, e, r => by simp [rnA] at e
 | .ptr o off ix, a', cs, e, r => by
  simp only [rnA] at e
  split at e
  ·rename_i o' ho
   injection e with e
   subst e
   obtain ⟨b, h1, h2⟩ := r
   exact ⟨b, h.blk o o' b ho h1, h2⟩
  ·cases e
 | .bsl e0 o off n, a', cs, e, r => by
  simp only [rnA] at e
  split at e
  ·rename_i o' ho
   injection e with e
   subst e
   obtain ⟨b, h1, h2⟩ := r
   exact ⟨b, h.blk o o' b ho h1, h2⟩
  ·cases e
 | .ref K o, a', cs, e, r => by
  simp only [rnA] at e
  split at e
  ·rename_i o' ho
   injection e with e
   subst e
   obtain ⟨b, h1, h2⟩ := r
   exact ⟨b, h.blk o o' b ho h1, h2⟩
  ·cases e
 | .agg fs, a', cs, e, r => by
  simp only [rnA] at e
  split at e
  ·rename_i gs hg
   injection e with e
   subst e
   exact RelL.rn h fs gs cs hg r
  ·cases e
 | .fn x caps, a', cs, e, r => by
  simp only [rnA] at e
  split at e
  ·rename_i gs hg
   injection e with e
   subst e
   obtain ⟨vs, h1, h2⟩ := r
   exact ⟨vs, h1, RelL.rn h caps gs _ hg h2⟩
  ·cases e
 | .tup _, a', cs, e, r => by simp [rnA] at e
 | .u, a', cs, e, r => r.elim
 | .sc v, a', cs, e, r => by simp only [rnA] at e; injection e with e; subst e; exact r
 | .arr k n xs, a', cs, e, r => by simp only [rnA] at e; injection e with e; subst e; exact r
 | .sl e0 rows full, a', cs, e, r => by simp only [rnA] at e; injection e with e; subst e; exact RelV.plain h.u _ _ rfl r
 | .ep fs off ix, a', cs, e, r => by simp only [rnA] at e; injection e with e; subst e; exact RelV.plain h.u _ _ rfl r
 | .fm o k ψ, a', cs, e, r => by
  simp only [rnA] at e
  split at e
  ·rename_i o' k' ho
   injection e with e
   subst e
   exact h.fm o k ψ cs o' k' ho r
  ·cases e
 | .is ψ, a', cs, e, r => by simp only [rnA] at e; injection e with e; subst e; exact r
theorem RelL.rn {φ : Nat → Nat → Option AV} {f : Nat → Option Nat} {C D : Ctx} (h : Rn S φ f C D) : ∀ (fs gs : List AV) (cs : List Value), rnL φ f fs = some gs → RelL S C fs cs → RelL S D gs cs
 | [], gs, cs, e, r => by simp only [rnL] at e; injection e with e; subst e; exact r
 | a :: fs, gs, cs, e, r => by
  simp only [rnL] at e
  split at e
  ·rename_i b s h1 h2
   injection e with e
   subst e
   obtain ⟨c1, c2, k1, k2, k3⟩ := r
   exact ⟨c1, c2, k1, RelV.rn h a b c1 h1 k2, RelL.rn h fs s c2 h2 k3⟩
  ·cases e
end
theorem VRel1.rn {φ : Nat → Nat → Option AV} {f : Nat → Option Nat} {C D : Ctx} (h : Rn S φ f C D) {a a' : AV} {v : Value} (e : rnA φ f a = some a') (r : VRel1 S C a v) : VRel1 S D a' v := by
 cases a with
 | u => simp only [rnA] at e; injection e with e; subst e; trivial
 | tup vs => exact r.elim
 | agg fs =>
  simp only [rnA] at e
  split at e
  ·rename_i gs hg
   injection e with e
   subst e
   obtain ⟨cs, h1, h2⟩ := r
   exact ⟨cs, h1, RelL.rn h fs gs _ hg h2⟩
  ·cases e
 | arr k n xs => simp only [rnA] at e; injection e with e; subst e; exact r
 | own o k =>
  have := h.own o k [v] a' e r
  rw [VRel1_single this.1]
  exact this.2
 | sc w => simp only [rnA] at e; injection e with e; subst e; exact r
 | sl e0 rows full => simp only [rnA] at e; injection e with e; subst e; exact RelV.plain h.u _ _ rfl r
 | ep fs off ix => simp only [rnA] at e; injection e with e; subst e; exact RelV.plain h.u _ _ rfl r
 | el e0 o k i off => simp [rnA] at e
 | ptr o off ix =>
  have := RelV.rn h (.ptr o off ix) a' [v] e r
  simp only [rnA] at e
  split at e
  ·injection e with e; subst e; exact this
  ·cases e
 | bsl e0 o off n =>
  have := RelV.rn h (.bsl e0 o off n) a' [v] e r
  simp only [rnA] at e
  split at e
  ·injection e with e; subst e; exact this
  ·cases e
 | ref K o =>
  have := RelV.rn h (.ref K o) a' [v] e r
  simp only [rnA] at e
  split at e
  ·injection e with e; subst e; exact this
  ·cases e
 | fn x caps =>
  have := RelV.rn h (.fn x caps) a' [v] e r
  simp only [rnA] at e
  split at e
  ·injection e with e; subst e; exact this
  ·cases e
 | fm o k ψ =>
  have := RelV.rn h (.fm o k ψ) a' [v] e r
  simp only [rnA] at e
  split at e
  ·injection e with e; subst e; exact this
  ·cases e
 | is ψ => simp only [rnA] at e; injection e with e; subst e; exact r
def rnV (φ : Nat → Nat → Option AV) (f : Nat → Option Nat) : AV → Option AV
 | .tup vs => match rnL φ f vs with | some ws => some (.tup ws) | none => none
 | a => rnA φ f a
theorem VRels.rn {φ : Nat → Nat → Option AV} {f : Nat → Option Nat} {C D : Ctx} (h : Rn S φ f C D) : ∀ (as bs : List AV) (vs : List Value), rnL φ f as = some bs → VRels S C as vs → VRels S D bs vs
 | [], bs, vs, e, r => by simp only [rnL] at e; injection e with e; subst e; cases r; exact .nil
 | a :: as, bs, vs, e, r => by
  simp only [rnL] at e
  split at e
  ·rename_i b s h1 h2
   injection e with e
   subst e
   cases r with
   | cons r1 r2 => exact .cons (r1.rn h h1) (VRels.rn h as s _ h2 r2)
  ·cases e
theorem VRel.of1 {C : Ctx} {a : AV} {v : Value} (h : VRel1 S C a v) : VRel S C a v := by
 cases a with
 | tup vs => exact h.elim
 | _ => exact h
theorem VRel.to1 {C : Ctx} {a : AV} {v : Value} (hn : ∀ vs, a ≠ .tup vs) (h : VRel S C a v) : VRel1 S C a v := by
 cases a with
 | tup vs => exact absurd rfl (hn vs)
 | _ => exact h
theorem VRel.rn {φ : Nat → Nat → Option AV} {f : Nat → Option Nat} {C D : Ctx} (h : Rn S φ f C D) {a a' : AV} {v : Value} (e : rnV φ f a = some a') (r : VRel S C a v) : VRel S D a' v := by
 cases a with
 | tup vs =>
  simp only [rnV] at e
  split at e
  ·rename_i ws hw
   injection e with e
   subst e
   obtain ⟨l, h1, h2⟩ := r
   exact ⟨l, h1, h2.rn h _ _ _ hw⟩
  ·cases e
 | _ => exact VRel.of1 (VRel1.rn h e r)
def kbase (k : Nat) : Nat := if 2000000 ≤ k then 2000000 else if 1000000 ≤ k then 1000000 else 0
theorem kbase_big (k : Nat) : 1000000 ≤ kbase k → 1000000 ≤ k := by unfold kbase; split <;> (try split) <;> omega
theorem kbase_exact (k : Nat) : kbase k < 2000000 → k < 2000000 := by unfold kbase; split <;> (try split) <;> omega
def posL : List Nat → Nat → Option Nat
 | [], _ => none
 | a :: r, o => if a == o then some 0 else match posL r o with | some i => some (i + 1) | none => none
theorem posL_some : ∀ {ks : List Nat} {o i : Nat}, posL ks o = some i → ks[i]? = some o
 | [], o, i, h => by simp [posL] at h
 | a :: r, o, i, h => by
  simp only [posL] at h
  split at h
  ·rename_i e
   injection h with h
   subst h
   simpa using e
  ·split at h
   ·rename_i j hj
    injection h with h
    subst h
    simpa using posL_some hj
   ·cases h
theorem posL_none : ∀ {ks : List Nat} {o : Nat}, posL ks o = none → o ∉ ks
 | [], o, h => by simp
 | a :: r, o, h => by
  simp only [posL] at h
  split at h
  ·cases h
  ·rename_i e
   split at h
   ·cases h
   ·rename_i hj
    simp only [List.mem_cons, not_or]
    exact ⟨fun q => e (by simp [q]), posL_none hj⟩
def Slot.base (give : Bool) : Slot → Slot
 | .row v k mn => .row v (kbase k) mn
 | .fam v k gs B => .fam v (if give then k else 0) gs B
 | s => s
theorem Slot.base_block (give : Bool) (s : Slot) : (s.base give).has = s.has := by cases s <;> rfl
def ownX (give : Bool) (ks : List Nat) (h : List AO) (o k : Nat) : Option AV :=
 match h[o]? with
 | some (.row e rows k' _) =>
  if k = k' then
   match posL ks o with
   | some i => some (.own i (kbase k))
   | none => if give then some (.sl e rows false) else none
  else none
 | some (.fam _ k') =>
  if k = k' then
   match posL ks o with
   | some i => some (.own i (if give then k else 0))
   | none => none
  else none
 | some (.famT _ k' _) =>
  if k = k' then
   match posL ks o with
   | some i => some (.own i (if give then k else 0))
   | none => none
  else none
 | _ => none
def rnPd (f : Nat → Option Nat) : List (Nat × Nat) → Option (List (Nat × Nat))
 | [] => some []
 | q :: r => match f q.2, rnPd f r with | some b, some s => some ((q.1, b) :: s) | _, _ => none
theorem rnPd_mem {f : Nat → Option Nat} : ∀ {pd pd' : List (Nat × Nat)}, rnPd f pd = some pd' → ∀ q' ∈ pd', ∃ q ∈ pd, f q.2 = some q'.2 ∧ q.1 = q'.1
 | [], pd', e, q', hq => by
  simp only [rnPd] at e
  injection e with e
  subst e
  simp at hq
 | q :: r, pd', e, q', hq => by
  simp only [rnPd] at e
  split at e
  ·rename_i b s h1 h2
   injection e with e
   subst e
   rcases List.mem_cons.1 hq with rfl | hq
   ·exact ⟨q, by simp, h1, rfl⟩
   ·obtain ⟨q2, h3, h4⟩ := rnPd_mem h2 q' hq
    exact ⟨q2, by simp [h3], h4⟩
  ·cases e
def rnO (give : Bool) (φ : Nat → Nat → Option AV) (f : Nat → Option Nat) : AO → Option AO
 | .gone => none
 | .box e fs => match rnL φ f fs with | some gs => some (.box e gs) | none => none
 | .row e rows k app => some (.row e rows (kbase k) app)
 | .any p => some (.any p)
 | .vals p as => some (.vals p as)
 | .fam p k => some (.fam p (if give then k else 0))
 | .famT p k pd => match rnPd f pd with | some pd' => some (.famT p (if give then k else 0) pd') | none => none
def mapO {α β : Type} (f : α → Option β) : List α → Option (List β)
 | [] => some []
 | a :: r => match f a, mapO f r with | some b, some s => some (b :: s) | _, _ => none
theorem mapO_spec {α β : Type} {f : α → Option β} : ∀ {l : List α} {r : List β}, mapO f l = some r → r.length = l.length ∧ ∀ (i : Nat) (b : β), r[i]? = some b → ∃ a, l[i]? = some a ∧ f a = some b
 | [], r, h => by simp only [mapO] at h; injection h with h; subst h; simp
 | a :: l, r, h => by
  simp only [mapO] at h
  split at h
  ·rename_i b s h1 h2
   injection h with h
   subst h
   obtain ⟨k1, k2⟩ := mapO_spec h2
   refine ⟨by simp [k1], fun i c hc => ?_⟩
   cases i with
   | zero =>
    simp only [List.getElem?_cons_zero, Option.some.injEq] at hc
    subst hc
    exact ⟨a, rfl, h1⟩
   | succ i =>
    simp only [List.getElem?_cons_succ] at hc
    exact k2 i c hc
  ·cases h
def selH (give : Bool) (ks : List Nat) (h : List AO) : Option (List AO) := mapO (fun o => match h[o]? with | some ob => rnO give (ownX give ks h) (posL ks) ob | none => none) ks
def nodupB : List Nat → Bool
 | [] => true
 | a :: r => !r.contains a && nodupB r
theorem nodupB_inj : ∀ {ks : List Nat}, nodupB ks = true → ∀ (i j o : Nat), ks[i]? = some o → ks[j]? = some o → i = j
 | [], _, i, j, o, h1, _ => by simp at h1
 | a :: r, h, i, j, o, h1, h2 => by
  simp only [nodupB, Bool.and_eq_true, Bool.not_eq_true', List.contains_eq_mem, decide_eq_false_iff_not] at h
  cases i with
  | zero =>
   cases j with
   | zero => rfl
   | succ j =>
    simp only [List.getElem?_cons_zero, Option.some.injEq] at h1
    simp only [List.getElem?_cons_succ] at h2
    subst h1
    exact absurd (List.mem_iff_getElem?.2 ⟨j, h2⟩) h.1
  | succ i =>
   cases j with
   | zero =>
    simp only [List.getElem?_cons_zero, Option.some.injEq] at h2
    simp only [List.getElem?_cons_succ] at h1
    subst h2
    exact absurd (List.mem_iff_getElem?.2 ⟨i, h1⟩) h.1
   | succ j =>
    simp only [List.getElem?_cons_succ] at h1 h2
    rw [nodupB_inj h.2 i j o h1 h2]
def Ctx.rest (ks : List Nat) (C : Ctx) (b : Nat) : Prop := ∃ (o : Nat) (s : Slot), o ∉ ks ∧ C.m[o]? = some s ∧ s.has b
def Ctx.sel (give : Bool) (ks : List Nat) (C : Ctx) : Ctx := ⟨C.w, ks.map fun o => (C.m.getD o .gone).base give, ⟨fun b => C.X b ∨ (give = false ∧ C.rest ks b), C.X.P, C.X.N, fun b h => .inl (C.X.sub b h)⟩⟩
theorem sel_get {give : Bool} {ks : List Nat} {C : Ctx} {o i : Nat} {s : Slot} (hi : ks[i]? = some o) (hs : C.m[o]? = some s) : (C.sel give ks).m[i]? = some (s.base give) := by
 simp only [Ctx.sel, List.getElem?_map, hi, Option.map_some, List.getD_eq_getElem?_getD, hs, Option.getD_some]
theorem sel_mem {give : Bool} {ks : List Nat} {C : Ctx} {s : Slot} {b : Nat} (hs : s ∈ (C.sel give ks).m) (hb : s.has b) : ∃ (o : Nat) (s0 : Slot), o ∈ ks ∧ C.m[o]? = some s0 ∧ s = s0.base give ∧ s0.has b := by
 simp only [Ctx.sel, List.mem_map] at hs
 obtain ⟨o, ho, rfl⟩ := hs
 rw [Slot.base_block] at hb
 rw [List.getD_eq_getElem?_getD] at hb ⊢
 cases hq : C.m[o]? with
 | none => rw [hq] at hb; simp [Slot.has] at hb
 | some s0 => rw [hq] at hb; exact ⟨o, s0, ho, hq, rfl, hb⟩
theorem sel_under {S : Sizes} {give : Bool} {ks : List Nat} {C : Ctx} : Under C (C.sel give ks) := by
 refine ⟨rfl, fun b hb => ⟨?_, fun s hs e => ?_⟩, ⟨fun _ h => h, Nat.le_refl _⟩⟩
 ·rintro (h | ⟨_, o, s, _, h1, h2⟩)
  ·exact hb.1 h
  ·exact hb.2 s (List.mem_of_getElem? h1) h2
 ·obtain ⟨o, s0, _, h1, _, h2⟩ := sel_mem hs e
  exact hb.2 s0 (List.mem_of_getElem? h1) h2
theorem settled_rel {C D : Ctx} {h : List AO} (H : HRel S C h) (u : Under C D) {o k : Nat} {e : TypeId} {rows : List AV} {app : Bool} (ho : h[o]? = some (.row e rows k app)) (free : ∀ s b, C.m[o]? = some s → s.has b → D.ok b) {cs : List Value} (r : RelV S C (.own o k) cs) : RelV S D (.sl e rows false) cs := by
 obtain ⟨v, v0, kk, mn, rfl, q1, q2, q3, q4⟩ := r
 obtain ⟨o1, o2, o3, o4, _⟩ := H.rel o _ _ ho q2
 have hv := q4 o1
 subst hv
 cases mn with
 | false =>
  obtain ⟨a, c, s1, s2, s3, s4, s5, s6⟩ := RelV.plain u _ _ rfl (o3 rfl)
  exact ⟨a, c, s1, s2, by simp, s4, s5, s6⟩
 | true =>
  obtain ⟨⟨_, hlt⟩, hsz, cells, hown, hrf, _⟩ := o4 rfl
  exact ownsG_settled hlt u.w (Under.flat u) hsz hown hrf o2 (fun g hg => free _ g q2 (by simpa [Slot.has] using hg))
end Go.Sh
namespace Go.Sh
variable {P : Program} {G : Tab} {S : Sizes}
theorem row_of {C : Ctx} {h : List AO} (H : HRel S C h) {o : Nat} {e : TypeId} {rows : List AV} {k : Nat} {app : Bool} (ho : h[o]? = some (.row e rows k app)) : ∃ v mn, C.m[o]? = some (.row v k mn) := by
 have hl : o < C.m.length := by rw [H.len]; exact (List.getElem?_eq_some_iff.1 ho).1
 have hs := List.getElem?_eq_getElem hl
 have hr := H.rel o _ _ ho hs
 cases hq : C.m[o] with
 | row v k' mn => rw [hq] at hr hs; obtain ⟨h1, _⟩ := hr; subst h1; exact ⟨v, mn, hs⟩
 | gone => rw [hq] at hr; exact hr.elim
 | blk b => rw [hq] at hr; exact hr.elim
 | fam v k gs B => rw [hq] at hr; exact hr.elim
theorem fam_of {C : Ctx} {h : List AO} (H : HRel S C h) {o : Nat} {p : Fam} {k : Nat} (ho : h[o]? = some (.fam p k)) : ∃ v gs B, C.m[o]? = some (.fam v k gs B) ∧ p.rel S C.flat v gs B := by
 have hl : o < C.m.length := by rw [H.len]; exact (List.getElem?_eq_some_iff.1 ho).1
 have hs := List.getElem?_eq_getElem hl
 have hr := H.rel o _ _ ho hs
 cases hq : C.m[o] with
 | fam v k' gs B => rw [hq] at hr hs; obtain ⟨h1, h2⟩ := hr; subst h1; exact ⟨v, gs, B, hs, h2⟩
 | gone => rw [hq] at hr; exact hr.elim
 | blk b => rw [hq] at hr; exact hr.elim
 | row v k mn => rw [hq] at hr; exact hr.elim
theorem famT_of {C : Ctx} {h : List AO} (H : HRel S C h) {o : Nat} {p : Fam} {k : Nat} {pd : List (Nat × Nat)} (ho : h[o]? = some (.famT p k pd)) : ∃ v gs B, C.m[o]? = some (.fam v k gs B) := by
 have hl : o < C.m.length := by rw [H.len]; exact (List.getElem?_eq_some_iff.1 ho).1
 have hs := List.getElem?_eq_getElem hl
 have hr := H.rel o _ _ ho hs
 cases hq : C.m[o] with
 | fam v k' gs B => rw [hq] at hr hs; obtain ⟨h1, h2⟩ := hr; subst h1; exact ⟨v, gs, B, hs⟩
 | gone => rw [hq] at hr; exact hr.elim
 | blk b => rw [hq] at hr; exact hr.elim
 | row v k mn => rw [hq] at hr; exact hr.elim
theorem sel_rn {C : Ctx} {h : List AO} (H : HRel S C h) (give : Bool) (ks : List Nat) : Rn S (ownX give ks h) (posL ks) C (C.sel give ks) := by
 refine ⟨sel_under (S := S), fun o k cs a e r => ?_, fun o o' b ho hb => ?_, fun o k ψ cs o' k' e r => ?_⟩
 ·unfold ownX at e
  split at e
  ·rename_i et rows k' app ho
   split at e
   ·rename_i hkk
    subst hkk
    obtain ⟨v, mn, hm⟩ := row_of H ho
    split at e
    ·rename_i i hi
     injection e with e
     subst e
     obtain ⟨v', v0, kk, mn', h1, h2, h3, h4, h5⟩ := r
     rw [hm] at h3
     injection h3 with h3
     injection h3 with e1 e2 e3
     subst e1; subst e2; subst e3
     refine ⟨rfl, v', v, kbase k, mn, h1, h2, sel_get (posL_some hi) hm, Nat.le_refl _, fun _ => h5 rfl⟩
    ·rename_i hi
     cases give with
     | false => simp at e
     | true =>
     simp only [if_true, Option.some.injEq] at e
     subst e
     refine ⟨rfl, settled_rel H (sel_under (S := S)) ho (fun s b hs hb => ⟨?_, fun s' hs' e' => ?_⟩) r⟩
     ·rintro (hx | ⟨hx, _⟩)
      ·exact H.nX s (List.mem_of_getElem? hs) b hb hx
      ·cases hx
     ·obtain ⟨o2, s2, m1, m2, _, m3⟩ := sel_mem hs' e'
      have := H.inj o o2 s s2 b hs m2 hb m3
      subst this
      exact posL_none hi m1
   ·cases e
  ·rename_i p k' ho
   split at e
   ·obtain ⟨v', v0, kk, mn', h1, h2, h3, _⟩ := r
    obtain ⟨v, gs, B, hm, _⟩ := fam_of H ho
    rw [hm] at h3
    cases h3
   ·cases e
  ·rename_i p k' pd ho
   split at e
   ·obtain ⟨v', v0, kk, mn', h1, h2, h3, _⟩ := r
    obtain ⟨v, gs, B, hm⟩ := famT_of H ho
    rw [hm] at h3
    cases h3
   ·cases e
  ·cases e
 ·have := sel_get (give := give) (posL_some ho) hb
  exact this
 ·obtain ⟨x, v, kk, gs, B, h1, h2, h3, h4, h5⟩ := r
  unfold ownX at e
  split at e
  ·rename_i et rows k0 app ho
   obtain ⟨v0, mn, hm⟩ := row_of H ho
   rw [hm] at h3
   cases h3
  ·rename_i p k0 ho
   split at e
   ·rename_i hkk
    subst hkk
    obtain ⟨v0, gs0, B0, hm, _⟩ := fam_of H ho
    rw [hm] at h3
    injection h3 with h3
    injection h3 with e1 e2 e3 e4
    subst e1; subst e2; subst e3; subst e4
    split at e
    ·rename_i i hi
     injection e with e
     injection e with e1 e2
     subst e1; subst e2
     exact ⟨x, v0, (if give then k else 0), gs0, B0, h1, h2, sel_get (posL_some hi) hm, Nat.le_refl _, fun _ => h5 rfl⟩
    ·cases e
   ·cases e
  ·rename_i p k0 pd ho
   split at e
   ·rename_i hkk
    subst hkk
    obtain ⟨v0, gs0, B0, hm⟩ := famT_of H ho
    rw [hm] at h3
    injection h3 with h3
    injection h3 with e1 e2 e3 e4
    subst e1; subst e2; subst e3; subst e4
    split at e
    ·rename_i i hi
     injection e with e
     injection e with e1 e2
     subst e1; subst e2
     exact ⟨x, v0, (if give then k else 0), gs0, B0, h1, h2, sel_get (posL_some hi) hm, Nat.le_refl _, fun _ => h5 rfl⟩
    ·cases e
   ·cases e
  ·cases e
theorem ORel.rn {give : Bool} {C D : Ctx} {φ : Nat → Nat → Option AV} {f : Nat → Option Nat} (h : Rn S φ f C D) {ob ob' : AO} {s : Slot} (e : rnO give φ f ob = some ob') (r : ORel S C ob s) : ORel S D ob' (s.base give) := by
 have hmono : Mono C.flat D.flat := Under.flat h.u
 cases ob with
 | gone => simp [rnO] at e
 | any p =>
  simp only [rnO] at e; injection e with e; subst e
  cases s <;> simp only [ORel, Slot.base] at r ⊢
  obtain ⟨x, h1, h2⟩ := r
  exact ⟨x, by rw [h.u.w]; exact h1, h2⟩
 | vals p as =>
  simp only [rnO] at e; injection e with e; subst e
  cases s <;> simp only [ORel, Slot.base] at r ⊢
  obtain ⟨x, vs, h1, h2, h3⟩ := r
  exact ⟨x, vs, by rw [h.u.w]; exact h1, h2.mono hmono, h3⟩
 | famT p k pd =>
  simp only [rnO] at e
  split at e
  ·rename_i pd' hpd
   injection e with e; subst e
   cases s <;> simp only [ORel, Slot.base] at r ⊢
   obtain ⟨r1, r2, r3⟩ := r
   subst r1
   refine ⟨rfl, p.mono hmono (fun b _ => by show D.w.heap[b]? = C.w.heap[b]?; rw [h.u.w]) r2, fun q' hq' => ?_⟩
   obtain ⟨q, h1, h2, h3⟩ := rnPd_mem hpd q' hq'
   obtain ⟨b, h4, h5⟩ := r3 q h1
   exact ⟨b, by rw [← h3]; exact h4, h.blk _ _ b h2 h5⟩
  ·cases e
 | fam p k =>
  simp only [rnO] at e; injection e with e; subst e
  cases s <;> simp only [ORel, Slot.base] at r ⊢
  obtain ⟨r1, r2⟩ := r
  subst r1
  exact ⟨rfl, p.mono hmono (fun b _ => by show D.w.heap[b]? = C.w.heap[b]?; rw [h.u.w]) r2⟩
 | box e0 fs =>
  simp only [rnO] at e
  split at e
  ·rename_i gs hg
   injection e with e; subst e
   cases s <;> simp only [ORel, Slot.base] at r ⊢
   obtain ⟨cs, h1, h2⟩ := r
   exact ⟨cs, by rw [h.u.w]; exact h1, RelL.rn h fs gs _ hg h2⟩
  ·cases e
 | row e0 rows k app =>
  simp only [rnO] at e; injection e with e; subst e
  cases s <;> simp only [ORel, Slot.base] at r ⊢
  obtain ⟨h1, h2, h3, h4, h5⟩ := r
  subst h1
  refine ⟨rfl, h2, fun hm => RelV.plain h.u _ _ rfl (h3 hm), fun hm => ?_, fun hk => h5 (kbase_big _ hk)⟩
  obtain ⟨t0, t1, cells, t2, t3, t4⟩ := h4 hm
  exact ⟨t0, t1, cells, by rw [h.u.w]; exact t2, t3.mono hmono, fun hx => by rw [h.u.w]; exact t4 (kbase_exact _ hx)⟩
theorem sel_heap {C : Ctx} {h h' : List AO} (H : HRel S C h) {give : Bool} {ks : List Nat} (hnd : nodupB ks = true) (e : selH give ks h = some h') : HRel S (C.sel give ks) h' := by
 obtain ⟨hlen, hget⟩ := mapO_spec e
 refine ⟨by simp [Ctx.sel, hlen], fun i ob s hi hs => ?_, fun i j s s' b hs hs' hb hb' => ?_, fun s hs b hb => ?_, fun b hb => ?_⟩
 ·obtain ⟨o, h1, h2⟩ := hget i ob hi
  split at h2
  ·rename_i ob0 ho
   have hl : o < C.m.length := by rw [H.len]; exact (List.getElem?_eq_some_iff.1 ho).1
   have hm := List.getElem?_eq_getElem hl
   rw [sel_get h1 hm] at hs
   injection hs with hs
   subst hs
   exact ORel.rn (sel_rn H give ks) h2 (H.rel o ob0 _ ho hm)
  ·cases h2
 ·have g : ∀ (i : Nat) (s : Slot), (C.sel give ks).m[i]? = some s → s.has b → ∃ o s0, ks[i]? = some o ∧ C.m[o]? = some s0 ∧ s0.has b := by
   intro i s hs hb
   simp only [Ctx.sel, List.getElem?_map, Option.map_eq_some_iff] at hs
   obtain ⟨o, ho, rfl⟩ := hs
   rw [Slot.base_block, List.getD_eq_getElem?_getD] at hb
   cases hq : C.m[o]? with
   | none => rw [hq] at hb; simp [Slot.has] at hb
   | some s0 => rw [hq] at hb; exact ⟨o, s0, ho, hq, hb⟩
  obtain ⟨o, s0, a1, a2, a3⟩ := g i s hs hb
  obtain ⟨o', s0', b1, b2, b3⟩ := g j s' hs' hb'
  have := H.inj o o' s0 s0' b a2 b2 a3 b3
  subst this
  exact nodupB_inj hnd i j o a1 b1
 ·obtain ⟨o, s0, m1, m2, _, m3⟩ := sel_mem hs hb
  rintro (hx | ⟨_, o', s', n1, n2, n3⟩)
  ·exact H.nX s0 (List.mem_of_getElem? m2) b m3 hx
  ·have := H.inj o o' s0 s' b m2 n2 m3 n3
   subst this
   exact n1 m1
 ·rcases hb with hb | ⟨_, o, s, _, h1, h2⟩
  ·exact H.Xlt b hb
  ·exact H.lt (List.mem_of_getElem? h1) h2
def preB : Nat → List Nat → Nat → Bool
 | 0, _, _ => true
 | n + 1, k :: ks, i => k == i && preB n ks (i + 1)
 | _ + 1, [], _ => false
theorem preB_spec : ∀ {n : Nat} {ks : List Nat} {i : Nat}, preB n ks i = true → ∀ j, j < n → ks[j]? = some (i + j)
 | 0, _, _, _, j, hj => by omega
 | n + 1, [], _, h, _, _ => by simp [preB] at h
 | n + 1, k :: ks, i, h, j, hj => by
  simp only [preB, Bool.and_eq_true, beq_iff_eq] at h
  cases j with
  | zero => simp [h.1]
  | succ j =>
   have := preB_spec h.2 j (by omega)
   simp only [List.getElem?_cons_succ, this]
   congr 1
   omega
theorem sel_step {c0 C : Ctx} (st : StepW c0 C) {give : Bool} (hgive : give = true) {ks : List Nat} (hp : preB c0.m.length ks 0 = true) : StepW c0 (C.sel give ks) := by
 subst hgive
 have hu := sel_under (S := fun _ => (0, 0)) (give := true) (ks := ks) (C := C)
 have hX : (C.sel true ks).X = C.X := by
  refine Keep.eq ?_ rfl
  funext b
  simp [Ctx.sel]
 refine ⟨st.os, st.tape, st.output, st.size, st.block, fun b hb ho => hu.ok b (st.ok b hb ho), fun b hb hn s hs e => ?_, fun o b ho => ?_, fun o v k mn ho => ?_, fun o v k gs B ho => ?_, by rw [hX]; exact st.X, st.keep⟩
 ·obtain ⟨o, s0, _, m2, _, m3⟩ := sel_mem hs e
  exact st.fresh b hb hn s0 (List.mem_of_getElem? m2) m3
 ·have hl := (List.getElem?_eq_some_iff.1 ho).1
  have := preB_spec hp o hl
  rw [Nat.zero_add] at this
  have := sel_get (give := true) this (st.blk o b ho)
  exact this
 ·have hl := (List.getElem?_eq_some_iff.1 ho).1
  have := preB_spec hp o hl
  rw [Nat.zero_add] at this
  obtain ⟨v', k', mn', h1⟩ := st.row o v k mn ho
  exact ⟨v', kbase k', mn', sel_get (give := true) this h1⟩
 ·have hl := (List.getElem?_eq_some_iff.1 ho).1
  have := preB_spec hp o hl
  rw [Nat.zero_add] at this
  obtain ⟨s', h1, h2⟩ := st.fam o v k gs B ho
  refine ⟨s', ?_, h2⟩
  have h3 := sel_get (give := true) this h1
  obtain ⟨v', k', gs', B', rfl, _⟩ := h2
  exact h3
def selT (ks : List Nat) (h : List AO) (t : Tmps) : Tmps := t.map fun p => (p.1, match rnV (ownX true ks h) (posL ks) p.2 with | some a => a | none => .u)
theorem AR.sel {F : Fn} {c0 : Ctx} {R : Ending → World → Prop} {n0 : Nat} (hc0 : c0.m.length = n0) (ks : List Nat) (hks : (nodupB ks && preB n0 ks 0) = true) {k : List PI} {t : Tmps} {h h' : List AO} (e : selH true ks h = some h') (A : AR P G F c0 R k (selT ks h t) h') : AR P G F c0 R k t h := by
 intro C a st AA
 simp only [Bool.and_eq_true] at hks
 have st' : StepW c0 (C.sel true ks) := sel_step st rfl (by rw [hc0]; exact hks.2)
 refine A (C.sel true ks) a st' ⟨AA.defers, AA.size, fun i => ?_, sel_heap AA.heap hks.1 e⟩
 have hv := AA.tmps i
 unfold selT
 rw [lk_map (fun x => match rnV (ownX true ks h) (posL ks) x with | some a => a | none => .u) (by simp [rnV, rnA])]
 cases hq : rnV (ownX true ks h) (posL ks) (lk t i) with
 | none => trivial
 | some b => exact hv.rn (sel_rn AA.heap true ks) hq
end Go.Sh
namespace Go.Sh
variable {P : Program} {G : Tab} {S : Sizes}
mutual
def wkA : AV → List (TypeId × Bool) → AV × List (TypeId × Bool)
 | .sl e0 rows fl, d :: ds =>
  (if e0 == 0 then (match rows with | [] => (match fl with | true => .sl d.1 [] d.2 | false => .sl e0 [] false) | r :: rs => .sl e0 (r :: rs) fl)
  else (match d.2 with | true => .sl e0 rows fl | false => .sl e0 rows false), ds)
 | .agg fs, ds => (.agg (wkL fs ds).1, (wkL fs ds).2)
 | a, ds => (a, ds)
def wkL : List AV → List (TypeId × Bool) → List AV × List (TypeId × Bool)
 | [], ds => ([], ds)
 | a :: r, ds => ((wkA a ds).1 :: (wkL r (wkA a ds).2).1, (wkL r (wkA a ds).2).2)
end
theorem sl_any {C : Ctx} {e : TypeId} {rows : List AV} {f : Bool} {cs : List Value} (r : RelV S C (.sl e rows f) cs) : RelV S C (.sl e rows false) cs := Wk1.anyFull f C cs r
theorem wk_sl {C : Ctx} {e0 : TypeId} {rows : List AV} {fl : Bool} {d : TypeId × Bool} {ds : List (TypeId × Bool)} {cs : List Value} (r : RelV S C (.sl e0 rows fl) cs) : RelV S C (wkA (.sl e0 rows fl) (d :: ds)).1 cs := by
 unfold wkA
 dsimp only
 split
 ·split
  ·split
   ·exact Wk1.nil d.1 d.2 C cs r
   ·exact sl_any r
  ·exact r
 ·split
  ·exact r
  ·exact sl_any r
mutual
theorem RelV.wk {C : Ctx} : ∀ (a : AV) (ds : List (TypeId × Bool)) (cs : List Value), RelV S C a cs → RelV S C (wkA a ds).1 cs
 | .sl e0 rows fl, [], cs, r => r
 | .sl e0 rows fl, d :: ds, cs, r => wk_sl r
 | .agg fs, ds, cs, r => RelL.wk fs ds cs r
 | .u, ds, cs, r => r
 | .sc v, ds, cs, r => r
 | .arr k n xs, ds, cs, r => r
 | .own o k, ds, cs, r => r
 | .el .., ds, cs, r => r
 | .ptr .., ds, cs, r => r
 | .bsl .., ds, cs, r => r
 | .ref .., ds, cs, r => r
 | .ep .., ds, cs, r => r
 | .fn .., ds, cs, r => r
 | .fm .., ds, cs, r => r
 | .is _, ds, cs, r => r
 | .tup _, ds, cs, r => r
theorem RelL.wk {C : Ctx} : ∀ (fs : List AV) (ds : List (TypeId × Bool)) (cs : List Value), RelL S C fs cs → RelL S C (wkL fs ds).1 cs
 | [], ds, cs, r => r
 | a :: fs, ds, cs, r => by
  obtain ⟨c1, c2, h1, h2, h3⟩ := r
  exact ⟨c1, c2, h1, RelV.wk a ds c1 h2, RelL.wk fs _ c2 h3⟩
end
theorem VRel1.wk {C : Ctx} {a : AV} {ds : List (TypeId × Bool)} {v : Value} (r : VRel1 S C a v) : VRel1 S C (wkA a ds).1 v := by
 cases a with
 | agg fs => obtain ⟨cs, h1, h2⟩ := r; exact ⟨cs, h1, RelL.wk fs ds _ h2⟩
 | sl e0 rows fl =>
  cases ds with
  | nil => exact r
  | cons d ds =>
   have h : RelV S C (wkA (.sl e0 rows fl) (d :: ds)).1 [v] := RelV.wk (.sl e0 rows fl) (d :: ds) [v] r
   have hs : (wkA (.sl e0 rows fl) (d :: ds)).1.single = true := by
    unfold wkA
    dsimp only
    split
    ·split
     ·split <;> rfl
     ·rfl
    ·split <;> rfl
   rw [VRel1_single hs]
   exact h
 | _ => exact r
theorem VRels.wk {C : Ctx} {as : List AV} {vs : List Value} (r : VRels S C as vs) : ∀ (ds : List (TypeId × Bool)), VRels S C (wkL as ds).1 vs := by
 induction r with
 | nil => intro ds; exact .nil
 | cons h1 h2 ih => intro ds; exact .cons h1.wk (ih _)
def wkV (a : AV) (ds : List (TypeId × Bool)) : AV :=
 match a with
 | .tup vs => .tup (wkL vs ds).1
 | a => (wkA a ds).1
theorem VRel.wk {C : Ctx} {a : AV} {ds : List (TypeId × Bool)} {v : Value} (r : VRel S C a v) : VRel S C (wkV a ds) v := by
 cases a with
 | tup vs => obtain ⟨l, h1, h2⟩ := r; exact ⟨l, h1, h2.wk ds⟩
 | _ => exact VRel.of1 (VRel1.wk r)
def wkH : List AO → List (TypeId × Bool) → List AO
 | [], _ => []
 | .box e fs :: r, ds => .box e (wkL fs ds).1 :: wkH r (wkL fs ds).2
 | .gone :: r, ds => .gone :: wkH r ds
 | .row e rows k app :: r, ds => .row e rows k app :: wkH r ds
 | .any p :: r, ds => .any p :: wkH r ds
 | .vals p as :: r, ds => .vals p as :: wkH r ds
 | .fam p k :: r, ds => .fam p k :: wkH r ds
 | .famT p k pd :: r, ds => .famT p k pd :: wkH r ds
theorem wkH_len : ∀ (h : List AO) (ds : List (TypeId × Bool)), (wkH h ds).length = h.length
 | [], _ => rfl
 | .box e fs :: r, ds => by simp [wkH, wkH_len r]
 | .gone :: r, ds => by simp [wkH, wkH_len r]
 | .row e rows k app :: r, ds => by simp [wkH, wkH_len r]
 | .any p :: r, ds => by simp [wkH, wkH_len r]
 | .vals p as :: r, ds => by simp [wkH, wkH_len r]
 | .fam p k :: r, ds => by simp [wkH, wkH_len r]
 | .famT p k pd :: r, ds => by simp [wkH, wkH_len r]
theorem ORel.wkH {C : Ctx} : ∀ (h : List AO) (ds : List (TypeId × Bool)) (o : Nat) (ob : AO) (s : Slot), (Go.Sh.wkH h ds)[o]? = some ob → (∀ ob', h[o]? = some ob' → ORel S C ob' s) → ORel S C ob s
 | [], _, o, ob, s, e, _ => by simp [Go.Sh.wkH] at e
 | a :: r, ds, 0, ob, s, e, H => by
  have h0 := H a rfl
  cases a with
  | box t fs =>
   simp only [Go.Sh.wkH, List.getElem?_cons_zero, Option.some.injEq] at e
   subst e
   cases s <;> simp only [ORel] at h0 ⊢
   obtain ⟨cs, h1, h2⟩ := h0
   exact ⟨cs, h1, RelL.wk fs ds _ h2⟩
  | _ =>
   simp only [Go.Sh.wkH, List.getElem?_cons_zero, Option.some.injEq] at e
   subst e
   exact h0
 | a :: r, ds, o + 1, ob, s, e, H => by
  cases a with
  | _ =>
   simp only [Go.Sh.wkH, List.getElem?_cons_succ] at e
   exact ORel.wkH r _ o ob s e (fun ob' h' => H ob' (by simpa using h'))
theorem HRel.wk {C : Ctx} {h : List AO} (H : HRel S C h) (ds : List (TypeId × Bool)) : HRel S C (wkH h ds) where
 len := by rw [wkH_len]; exact H.len
 rel := fun o ob s ho hs => ORel.wkH h ds o ob s ho (fun ob' h' => H.rel o ob' s h' hs)
 inj := H.inj
 nX := H.nX
 Xlt := H.Xlt
def retKE (G : Tab) (fn : Func) (ks : List Nat) (ds es : List (TypeId × Bool)) (t : Tmps) (h : List AO) : Option (AV × List AO) :=
 match mapO (resA G t h) fn.results.toList with
 | some as =>
  match rnL (ownX true ks h) (posL ks) as, selH true ks h with
  | some bs, some h' => some (wkV (retA bs) ds, wkH h' es)
  | _, _ => none
 | none => none
theorem mapO_mapM {α β : Type} (f : α → Option β) : ∀ (l : List α), l.mapM f = mapO f l
 | [] => rfl
 | a :: l => by
  simp only [List.mapM_cons, mapO, mapO_mapM f l]
  cases f a with
  | none => rfl
  | some b => cases mapO f l <;> rfl
def endK (B : Code) : List PI → Bool
 | [] => true
 | .code p :: _ => isRet (codeAt B p)
 | _ => false
theorem AR.retK (hG : G.ok P) {F : Fn} {fn : Func} (hf : P.funcs[F.f]? = some fn) {c0 : Ctx} {n0 : Nat} (hc0 : c0.m.length = n0) (ks : List Nat) (hks : (nodupB ks && preB n0 ks 0) = true) (ds es : List (TypeId × Bool)) {k : List PI} (hc : endK F.B k = true) {t : Tmps} {h h' : List AO} {r : AV} (e : retKE G fn ks ds es t h = some (r, h')) : AR P G F c0 (Rp G.S c0 r h') k t h := by
 intro C a st AA
 simp only [Bool.and_eq_true] at hks
 unfold retKE at e
 split at e
 ·rename_i as has
  split at e
  ·rename_i bs h1 hbs hsel
   injection e with e
   injection e with e1 e2
   subst e1; subst e2
   rw [← mapO_mapM] at has
   obtain ⟨vs, k1, k2, k3⟩ := resA_rel hG AA _ _ has
   have hrn := sel_rn AA.heap true ks
   have hrels : VRels G.S (C.sel true ks) bs vs := by
    have key : ∀ (as bs : List AV) (vs : List Value), rnL (ownX true ks h) (posL ks) as = some bs → vs.length = as.length → (∀ (i : Nat) (x : AV) (v : Value), as[i]? = some x → vs[i]? = some v → VRel G.S C x v) → VRels G.S (C.sel true ks) bs vs := by
     intro as
     induction as with
     | nil =>
      intro bs vs hm hl _
      simp only [rnL] at hm
      injection hm with hm
      subst hm
      obtain rfl := List.eq_nil_of_length_eq_zero hl
      exact .nil
     | cons x xs ih =>
      intro bs vs hm hl hr
      simp only [rnL] at hm
      split at hm
      ·rename_i b s m1 m2
       injection hm with hm
       subst hm
       cases vs with
       | nil => simp at hl
       | cons v vs =>
        have hx := hr 0 x v rfl rfl
        have hx1 : VRel1 G.S C x v := VRel.to1 (fun ws hw => by subst hw; simp [rnA] at m1) hx
        exact .cons (hx1.rn hrn m1) (ih s vs m2 (by simpa using hl) fun i y u hy hu => hr (i + 1) y u (by simpa using hy) (by simpa using hu))
      ·cases hm
    exact key as bs vs hbs k2 k3
   have hres : (results fn a.tmps).run P C.w = .ok (if h : vs.toArray.size = 1 then vs.toArray[0] else .tuple vs.toArray) C.w := by
    unfold results
    rw [Array.mapM_eq_mapM_toList]
    simp only [Sem.run_bind, Sem.run_map]
    erw [k1]
    rfl
   match k, hc with
   | [], _ => exact Reach.end hf AA.defers hres ⟨_, C.sel true ks, rfl, rfl, sel_step st rfl (by rw [hc0]; exact hks.2), (sel_heap AA.heap hks.1 hsel).wk es, (retA_rel hrels).wk⟩
   | .code p :: k, hc =>
    have hcd : codeAt F.B p = .ret := by
     replace hc : isRet (codeAt F.B p) = true := hc
     cases hq : codeAt F.B p <;> rw [hq] at hc <;> first | rfl | cases hc
    simp only [List.map_cons, PI.dec, hcd]
    exact Reach.ret hf AA.defers hres ⟨_, C.sel true ks, rfl, rfl, sel_step st rfl (by rw [hc0]; exact hks.2), (sel_heap AA.heap hks.1 hsel).wk es, (retA_rel hrels).wk⟩
  ·cases e
 ·cases e
end Go.Sh
namespace Go.Sh
variable {P : Program} {G : Tab} {S : Sizes}
def putL {α : Type} : List Nat → List α → List α → List α
 | k :: ks, b :: bs, h => putL ks bs (h.set k b)
 | [], bs, h => h ++ bs
 | _ :: _, [], h => h
theorem putL_len {α : Type} : ∀ (ks : List Nat) (bs h : List α), ks.length ≤ bs.length → (putL ks bs h).length = h.length + (bs.length - ks.length)
 | [], bs, h, _ => by simp [putL]
 | k :: ks, [], h, hl => by simp at hl
 | k :: ks, b :: bs, h, hl => by
  simp only [putL]
  rw [putL_len ks bs _ (by simpa using hl)]
  simp
theorem putL_other {α : Type} : ∀ (ks : List Nat) (bs h : List α) (o : Nat), ks.length ≤ bs.length → o ∉ ks → o < h.length → (putL ks bs h)[o]? = h[o]?
 | [], bs, h, o, _, _, ho => by simp only [putL]; rw [List.getElem?_append_left ho]
 | k :: ks, [], h, o, hl, _, _ => by simp at hl
 | k :: ks, b :: bs, h, o, hl, hn, ho => by
  simp only [List.mem_cons, not_or] at hn
  simp only [putL]
  rw [putL_other ks bs _ o (by simpa using hl) hn.2 (by simpa using ho), List.getElem?_set_ne (Ne.symm hn.1)]
theorem putL_at {α : Type} : ∀ (ks : List Nat) (bs h : List α) (i o : Nat), ks.length ≤ bs.length → nodupB ks = true → ks[i]? = some o → o < h.length → (putL ks bs h)[o]? = bs[i]?
 | [], bs, h, i, o, _, _, hi, _ => by simp at hi
 | k :: ks, [], h, i, o, hl, _, _, _ => by simp at hl
 | k :: ks, b :: bs, h, i, o, hl, hnd, hi, ho => by
  simp only [nodupB, Bool.and_eq_true, Bool.not_eq_true', List.contains_eq_mem, decide_eq_false_iff_not] at hnd
  simp only [putL]
  cases i with
  | zero =>
   simp only [List.getElem?_cons_zero, Option.some.injEq] at hi
   subst hi
   rw [putL_other ks bs _ k (by simpa using hl) hnd.1 (by simpa using ho), List.getElem?_set_self ho]
   rfl
  | succ i =>
   simp only [List.getElem?_cons_succ] at hi ⊢
   exact putL_at ks bs _ i o (by simpa using hl) hnd.2 hi (by simpa using ho)
theorem putL_new {α : Type} : ∀ (ks : List Nat) (bs h : List α) (j : Nat), ks.length ≤ bs.length → (putL ks bs h)[h.length + j]? = bs[ks.length + j]?
 | [], bs, h, j, _ => by simp only [putL, List.length_nil, Nat.zero_add]; rw [List.getElem?_append_right (by omega)]; congr 1; omega
 | k :: ks, [], h, j, hl => by simp at hl
 | k :: ks, b :: bs, h, j, hl => by
  simp only [putL]
  have := putL_new ks bs (h.set k b) j (by simpa using hl)
  rw [List.length_set] at this
  rw [this]
  simp only [List.length_cons]
  rw [show ks.length + 1 + j = (ks.length + j) + 1 by omega, List.getElem?_cons_succ]
def verO (h : List AO) (o : Nat) : Nat :=
 match h[o]? with
 | some (.row _ _ k _) => k
 | some (.fam _ k) => k
 | some (.famT _ k _) => k
 | _ => 0
def kvF (ks : List Nat) (h : List AO) (i k : Nat) : Nat := match ks[i]? with | some o => if k = 0 then verO h o else verO h o + 1 | none => k
def kvB (ks : List Nat) (h : List AO) (i k : Nat) : Nat := match ks[i]? with | some o => verO h o + 1 | none => k
def kvOk (ks : List Nat) (h : List AO) (i k : Nat) : Bool := match ks[i]? with | some o => (Nat.blt (verO h o + 1) 1000000 || Nat.ble 1000000 k) && (Nat.ble 2000000 (verO h o + 1) || Nat.blt k 2000000) | none => true
def posB (ks : List Nat) (N i : Nat) : Option Nat := match ks[i]? with | some o => some o | none => some (N + (i - ks.length))
def ownB (ks : List Nat) (h hout : List AO) (i k : Nat) : Option AV :=
 match hout[i]? with
 | some (.row _ _ k' _) => if k = k' then (match posB ks h.length i with | some o => some (.own o (kvB ks h i k)) | none => none) else none
 | some (.fam _ k') => if k = k' then (match posB ks h.length i with | some o => some (.own o (kvF ks h i k)) | none => none) else none
 | _ => none
def rnOB (φ : Nat → Nat → Option AV) (f : Nat → Option Nat) (ks : List Nat) (h : List AO) (i : Nat) : AO → Option AO
 | .gone => none
 | .box e fs => match rnL φ f fs with | some gs => some (.box e gs) | none => none
 | .row e rows k app => if kvOk ks h i k = true then some (.row e rows (kvB ks h i k) app) else none
 | .any p => some (.any p)
 | .vals p as => some (.vals p as)
 | .fam p k => some (.fam p (kvF ks h i k))
 | .famT .. => none
def bkL (φ : Nat → Nat → Option AV) (f : Nat → Option Nat) (ks : List Nat) (h : List AO) : Nat → List AO → Option (List AO)
 | _, [] => some []
 | i, ob :: r =>
  match rnOB φ f ks h i ob, bkL φ f ks h (i + 1) r with
  | some b, some s => some (b :: s)
  | _, _ => none
theorem bkL_spec {φ : Nat → Nat → Option AV} {f : Nat → Option Nat} {ks : List Nat} {h : List AO} : ∀ {l r : List AO} {i : Nat}, bkL φ f ks h i l = some r → r.length = l.length ∧ ∀ (j : Nat) (b : AO), r[j]? = some b → ∃ a, l[j]? = some a ∧ rnOB φ f ks h (i + j) a = some b
 | [], r, i, e => by simp only [bkL] at e; injection e with e; subst e; simp
 | a :: l, r, i, e => by
  simp only [bkL] at e
  split at e
  ·rename_i b s h1 h2
   injection e with e
   subst e
   obtain ⟨k1, k2⟩ := bkL_spec h2
   refine ⟨by simp [k1], fun j c hc => ?_⟩
   cases j with
   | zero =>
    simp only [List.getElem?_cons_zero, Option.some.injEq] at hc
    subst hc
    exact ⟨a, rfl, h1⟩
   | succ j =>
    simp only [List.getElem?_cons_succ] at hc
    obtain ⟨a', h3, h4⟩ := k2 j c hc
    exact ⟨a', h3, by rw [← h4]; congr 1; omega⟩
  ·cases e
def backE (ks : List Nat) (h hout : List AO) (r : AV) : Option (AV × List AO) :=
 match rnV (ownB ks h hout) (posB ks h.length) r, bkL (ownB ks h hout) (posB ks h.length) ks h 0 hout with
 | some r', some bs => if Nat.ble ks.length bs.length = true then some (r', putL ks bs h) else none
 | _, _ => none
def verS (m : List Slot) (o : Nat) : Nat :=
 match m[o]? with
 | some (.row _ k _) => k
 | some (.fam _ k _ _) => k
 | _ => 0
def slotB (ks : List Nat) (m : List Slot) (i : Nat) : Slot → Slot
 | .row v k mn => .row v (match ks[i]? with | some o => verS m o + 1 | none => k) mn
 | .fam v k gs B => .fam v (match ks[i]? with | some o => if k = 0 then verS m o else verS m o + 1 | none => k) gs B
 | s => s
theorem slotB_block {ks : List Nat} {m : List Slot} {i : Nat} (s : Slot) : (slotB ks m i s).has = s.has := by cases s <;> rfl
theorem ver_eq {C : Ctx} {h : List AO} (H : HRel S C h) (o : Nat) : verO h o = verS C.m o := by
 unfold verO verS
 cases ho : h[o]? with
 | none =>
  have : C.m[o]? = none := by
   rw [List.getElem?_eq_none_iff] at ho ⊢
   rw [H.len]; exact ho
  rw [this]
 | some ob =>
  have hl : o < C.m.length := by rw [H.len]; exact (List.getElem?_eq_some_iff.1 ho).1
  have hs := List.getElem?_eq_getElem hl
  have hr := H.rel o ob _ ho hs
  rw [hs]
  cases ob <;> cases hq : C.m[o] <;> rw [hq] at hr <;> first | exact hr.elim | rfl | exact hr.1
def backCtx (ks : List Nat) (C C' : Ctx) : Ctx := ⟨C'.w, putL ks (C'.m.mapIdx (slotB ks C.m)) C.m, C.X⟩
section
variable {C C' : Ctx} {h hin hout : List AO} {ks : List Nat}
theorem back_slot (H : HRel S C h) (hl : ks.length ≤ C'.m.length) (hnd : nodupB ks = true) (hks : ∀ o ∈ ks, o < h.length) {i o : Nat} (hi : ks[i]? = some o) : (backCtx ks C C').m[o]? = (C'.m[i]?).map (slotB ks C.m i) := by
 have ho : o < C.m.length := by rw [H.len]; exact hks o (List.mem_of_getElem? hi)
 show (putL ks _ C.m)[o]? = _
 rw [putL_at ks _ C.m i o (by simpa using hl) hnd hi ho, List.getElem?_mapIdx]
theorem back_new (hl : ks.length ≤ C'.m.length) (j : Nat) : (backCtx ks C C').m[C.m.length + j]? = (C'.m[ks.length + j]?).map (slotB ks C.m (ks.length + j)) := by
 show (putL ks _ C.m)[C.m.length + j]? = _
 rw [putL_new ks _ C.m j (by simpa using hl), List.getElem?_mapIdx]
theorem back_other (hl : ks.length ≤ C'.m.length) {o : Nat} (ho : o ∉ ks) (hlt : o < C.m.length) : (backCtx ks C C').m[o]? = C.m[o]? := putL_other ks _ C.m o (by simpa using hl) ho hlt
theorem back_cases (H : HRel S C h) (hl : ks.length ≤ C'.m.length) (hnd : nodupB ks = true) (hks : ∀ o ∈ ks, o < h.length) {o : Nat} {s : Slot} (hs : (backCtx ks C C').m[o]? = some s) :
  (o ∉ ks ∧ o < C.m.length ∧ C.m[o]? = some s) ∨ ∃ i s', C'.m[i]? = some s' ∧ s = slotB ks C.m i s' ∧ posB ks h.length i = some o := by
 by_cases ho : o ∈ ks
 ·obtain ⟨i, hi⟩ := List.mem_iff_getElem?.1 ho
  rw [back_slot H hl hnd hks hi] at hs
  obtain ⟨s', h1, h2⟩ := Option.map_eq_some_iff.1 hs
  exact .inr ⟨i, s', h1, h2.symm, by simp [posB, hi]⟩
 ·by_cases hlt : o < C.m.length
  ·exact .inl ⟨ho, hlt, by rwa [back_other hl ho hlt] at hs⟩
  ·obtain ⟨j, rfl⟩ : ∃ j, o = C.m.length + j := ⟨o - C.m.length, by omega⟩
   rw [back_new hl] at hs
   obtain ⟨s', h1, h2⟩ := Option.map_eq_some_iff.1 hs
   refine .inr ⟨ks.length + j, s', h1, h2.symm, ?_⟩
   have : ks[ks.length + j]? = none := by rw [List.getElem?_eq_none_iff]; omega
   simp only [posB, this, H.len]
   congr 1
   omega
theorem lend_block {s : Slot} {b : Nat} (hs : s ∈ (C.sel false ks).m) (hb : s.has b) : ∃ s0 ∈ C.m, s0.has b := by
 obtain ⟨o, s0, _, h1, _, h2⟩ := sel_mem hs hb
 exact ⟨s0, List.mem_of_getElem? h1, h2⟩
theorem back_step (H : HRel S C h) (st : StepW (C.sel false ks) C') (hl : ks.length ≤ C'.m.length) (hnd : nodupB ks = true) (hks : ∀ o ∈ ks, o < h.length) (hng : ∀ o ∈ ks, h[o]? ≠ some .gone) : Step C (backCtx ks C C') := by
 have hnone : ∀ b, (∀ s ∈ C.m, ¬ s.has b) → ∀ s ∈ (C.sel false ks).m, ¬ s.has b := by
  intro b hn s hs e
  obtain ⟨s0, h1, h2⟩ := lend_block hs e
  exact hn s0 h1 h2
 have hfresh : ∀ b, b < C.w.heap.size → (∀ s ∈ C.m, ¬ s.has b) → ∀ s ∈ (backCtx ks C C').m, ¬ s.has b := by
  intro b hb hn s hs e
  obtain ⟨o, ho⟩ := List.mem_iff_getElem?.1 hs
  rcases back_cases H hl hnd hks ho with ⟨_, _, h1⟩ | ⟨i, s', h1, rfl, _⟩
  ·exact hn s (List.mem_of_getElem? h1) e
  ·rw [slotB_block] at e
   exact st.fresh b hb (hnone b hn) s' (List.mem_of_getElem? h1) e
 refine ⟨st.os, st.tape, st.output, st.size, fun b hb hn => st.block b hb (hnone b hn), fun b hb ho => ⟨ho.1, hfresh b hb ho.2⟩, hfresh, fun o s hs => ?_, rfl, st.keep⟩
 by_cases ho : o ∈ ks
 ·obtain ⟨i, hi⟩ := List.mem_iff_getElem?.1 ho
  rw [back_slot H hl hnd hks hi]
  have hsel := sel_get (give := false) hi hs
  cases s with
  | gone =>
   exfalso
   have hlt : o < h.length := hks o ho
   have hr := H.rel o _ _ (List.getElem?_eq_getElem hlt) hs
   refine hng o ho ?_
   rw [List.getElem?_eq_getElem hlt]
   cases hq : h[o] <;> rw [hq] at hr <;> first | rfl | exact hr.elim
  | blk b =>
   rw [st.blk i b hsel]
   exact ⟨.blk b, rfl, rfl⟩
  | row v k mn =>
   obtain ⟨v', k', mn', h1⟩ := st.row i v (kbase k) mn hsel
   rw [h1]
   refine ⟨_, rfl, v', k + 1, mn', ?_, .inl (by omega)⟩
   simp only [slotB, hi, verS, hs]
  | fam v k gs B =>
   obtain ⟨s', h1, h2⟩ := st.fam i v 0 gs B hsel
   obtain ⟨v', k', gs', B', rfl, hk⟩ := h2
   rw [h1]
   refine ⟨_, rfl, v', if k' = 0 then k else k + 1, gs', B', ?_, ?_⟩
   ·simp only [slotB, hi, verS, hs]
   ·rcases hk with hk | ⟨rfl, rfl, rfl⟩
    ·rw [if_neg (by omega)]
     exact .inl (by omega)
    ·rw [if_pos rfl]
     exact .inr ⟨rfl, rfl, rfl⟩
 ·have hlt : o < C.m.length := (List.getElem?_eq_some_iff.1 hs).1
  rw [back_other hl ho hlt]
  exact ⟨s, hs, s.le_refl⟩
theorem back_ok (H : HRel S C h) (hX : C'.X = (C.sel false ks).X) (hl : ks.length ≤ C'.m.length) (hnd : nodupB ks = true) (hks : ∀ o ∈ ks, o < h.length) : Under C' (backCtx ks C C') := by
 refine ⟨rfl, fun b hb => ⟨fun hx => hb.1 (by rw [hX]; exact .inl hx), fun s hs e => ?_⟩, by rw [hX]; exact ⟨fun _ h => h, Nat.le_refl _⟩⟩
 obtain ⟨o, ho⟩ := List.mem_iff_getElem?.1 hs
 rcases back_cases H hl hnd hks ho with ⟨h0, _, h1⟩ | ⟨i, s', h1, rfl, _⟩
 ·exact hb.1 (by rw [hX]; exact .inr ⟨rfl, o, s, h0, h1, e⟩)
 ·rw [slotB_block] at e
  exact hb.2 s' (List.mem_of_getElem? h1) e
theorem back_at (H : HRel S C h) (hl : ks.length ≤ C'.m.length) (hnd : nodupB ks = true) (hks : ∀ o ∈ ks, o < h.length) {i o : Nat} {s : Slot} (hp : posB ks h.length i = some o) (hs : C'.m[i]? = some s) : (backCtx ks C C').m[o]? = some (slotB ks C.m i s) := by
 unfold posB at hp
 split at hp
 ·rename_i o' hi
  injection hp with hp
  subst hp
  rw [back_slot H hl hnd hks hi, hs]
  rfl
 ·rename_i hi
  injection hp with hp
  subst hp
  rw [List.getElem?_eq_none_iff] at hi
  have := back_new (C := C) (ks := ks) (C' := C') hl (i - ks.length)
  rw [H.len] at this
  rw [this, show ks.length + (i - ks.length) = i by omega, hs]
  rfl
theorem back_rn (H : HRel S C h) (H' : HRel S C' hout) (hX : C'.X = (C.sel false ks).X) (hl : ks.length ≤ C'.m.length) (hnd : nodupB ks = true) (hks : ∀ o ∈ ks, o < h.length) : Rn S (ownB ks h hout) (posB ks h.length) C' (backCtx ks C C') := by
 refine ⟨back_ok H hX hl hnd hks, fun i k cs a e r => ?_, fun i o b hp hb => ?_, fun i k ψ cs o' k' e r => ?_⟩
 ·unfold ownB at e
  split at e
  ·rename_i et rows k' app ho
   split at e
   ·rename_i hkk
    subst hkk
    obtain ⟨v, mn, hm⟩ := row_of H' ho
    split at e
    ·rename_i o hp
     injection e with e
     subst e
     obtain ⟨v', v0, kk, mn', h1, h2, h3, h4, h5⟩ := r
     rw [hm] at h3
     injection h3 with h3
     injection h3 with e1 e2 e3
     subst e1; subst e2; subst e3
     have hb := back_at H hl hnd hks hp hm
     refine ⟨rfl, v', v, kvB ks h i k, mn, h1, h2, ?_, Nat.le_refl _, fun _ => h5 rfl⟩
     rw [hb]
     simp only [slotB, kvB, ver_eq H]
    ·cases e
   ·cases e
  ·rename_i p k' ho
   obtain ⟨v', v0, kk, mn', h1, h2, h3, _⟩ := r
   obtain ⟨v, gs, B, hm, _⟩ := fam_of H' ho
   rw [hm] at h3
   cases h3
  ·cases e
 ·have := back_at H hl hnd hks hp hb
  exact this
 ·obtain ⟨x, v, kk, gs, B, h1, h2, h3, h4, h5⟩ := r
  unfold ownB at e
  split at e
  ·rename_i et rows k0 app ho
   obtain ⟨v0, mn, hm⟩ := row_of H' ho
   rw [hm] at h3
   cases h3
  ·rename_i p k0 ho
   split at e
   ·rename_i hkk
    subst hkk
    obtain ⟨v0, gs0, B0, hm, _⟩ := fam_of H' ho
    rw [hm] at h3
    injection h3 with h3
    injection h3 with e1 e2 e3 e4
    subst e1; subst e2; subst e3; subst e4
    split at e
    ·rename_i o hp
     injection e with e
     injection e with e1 e2
     subst e1; subst e2
     have hb := back_at H hl hnd hks hp hm
     refine ⟨x, v0, kvF ks h i k, gs0, B0, h1, h2, ?_, Nat.le_refl _, fun _ => h5 rfl⟩
     rw [hb]
     simp only [slotB, kvF, ver_eq H]
    ·cases e
   ·cases e
  ·cases e
theorem back_heap (H : HRel S C h) (H' : HRel S C' hout) (st : StepW (C.sel false ks) C') (hl : ks.length ≤ C'.m.length) (hnd : nodupB ks = true) (hks : ∀ o ∈ ks, o < h.length) (hng : ∀ o ∈ ks, h[o]? ≠ some .gone) {bs : List AO} (e : bkL (ownB ks h hout) (posB ks h.length) ks h 0 hout = some bs) :
  HRel S (backCtx ks C C') (putL ks bs h) := by
 have hX := st.X
 obtain ⟨hbl, hbg⟩ := bkL_spec e
 have hlb : ks.length ≤ bs.length := by rw [hbl, ← H'.len]; exact hl
 have hrn := back_rn H H' hX hl hnd hks
 have step := back_step H st hl hnd hks hng
 have key : ∀ (i o : Nat) (ob : AO) (s : Slot), bs[i]? = some ob → C'.m[i]? = some s → ORel S (backCtx ks C C') ob (slotB ks C.m i s) := by
  intro i o ob s hi hs
  obtain ⟨a, h1, h2⟩ := hbg i ob hi
  rw [Nat.zero_add] at h2
  have r := H'.rel i a s h1 hs
  have hmono : Mono C'.flat (backCtx ks C C').flat := Under.flat hrn.u
  cases a with
  | gone => simp [rnOB] at h2
  | any p =>
   simp only [rnOB] at h2; injection h2 with h2; subst h2
   cases s <;> simp only [ORel, slotB] at r ⊢
   exact r
  | vals p as =>
   simp only [rnOB] at h2; injection h2 with h2; subst h2
   cases s <;> simp only [ORel, slotB] at r ⊢
   obtain ⟨x, vs, g1, g2, g3⟩ := r
   exact ⟨x, vs, g1, g2.mono hmono, g3⟩
  | famT p k pd => simp [rnOB] at h2
  | fam p k =>
   simp only [rnOB] at h2; injection h2 with h2; subst h2
   cases s <;> simp only [ORel, slotB] at r ⊢
   obtain ⟨g1, g2⟩ := r
   subst g1
   refine ⟨?_, p.mono hmono (fun _ _ => rfl) g2⟩
   simp only [kvF, ver_eq H]
  | box e0 fs =>
   simp only [rnOB] at h2
   split at h2
   ·rename_i gs hg
    injection h2 with h2; subst h2
    cases s <;> simp only [ORel, slotB] at r ⊢
    obtain ⟨cs, g1, g2⟩ := r
    exact ⟨cs, g1, RelL.rn hrn fs gs _ hg g2⟩
   ·cases h2
  | row e0 rows k app =>
   simp only [rnOB] at h2
   split at h2
   ·rename_i hkv
    injection h2 with h2; subst h2
    cases s <;> simp only [ORel, slotB] at r ⊢
    obtain ⟨g1, g2, g3, g4, g5⟩ := r
    subst g1
    refine ⟨?_, g2, fun hm => RelV.plain hrn.u _ _ rfl (g3 hm), fun hm => ?_, fun hk hap hmn => ?_⟩
    ·simp only [kvB, ver_eq H]
    ·obtain ⟨t0, t1, cells, t2, t3, t4⟩ := g4 hm
     refine ⟨t0, t1, cells, t2, t3.mono hmono, fun hx => t4 ?_⟩
     unfold kvB at hx
     unfold kvOk at hkv
     split at hx
     ·rename_i o2 hq
      rw [hq] at hkv
      simp only [Bool.and_eq_true, Bool.or_eq_true, Nat.blt_eq, Nat.ble_eq] at hkv
      omega
     ·exact hx
    ·refine g5 ?_ hap hmn
     unfold kvB at hk
     unfold kvOk at hkv
     split at hk
     ·rename_i o2 hq
      rw [hq] at hkv
      simp only [Bool.and_eq_true, Bool.or_eq_true, Nat.blt_eq, Nat.ble_eq] at hkv
      omega
     ·exact hk
   ·cases h2
 refine ⟨?_, fun o ob s ho hs => ?_, fun o o' s s' b hs hs' hb hb' => ?_, fun s hs b hb => ?_, fun b hb => Nat.lt_of_lt_of_le (H.Xlt b hb) st.size⟩
 ·show (putL ks _ C.m).length = _
  rw [putL_len _ _ _ (by simpa using hl), putL_len _ _ _ hlb, hbl, List.length_mapIdx, H'.len, H.len]
 ·rcases back_cases H hl hnd hks hs with ⟨h0, hlt, h1⟩ | ⟨i, s', h1, rfl, hp⟩
  ·rw [putL_other ks bs h o hlb h0 (by rw [← H.len]; exact hlt)] at ho
   refine (H.rel o ob s ho h1).step step (fun b hb => ?_)
   refine st.block b ((H.rel o ob s ho h1).lt hb) (fun s2 hs2 e2 => ?_)
   obtain ⟨o2, s0, m1, m2, _, m3⟩ := sel_mem hs2 e2
   have := H.inj o o2 s s0 b h1 m2 hb m3
   subst this
   exact h0 m1
  ·refine key i o ob s' ?_ h1
   unfold posB at hp
   split at hp
   ·rename_i o' hi
    injection hp with hp
    subst hp
    rwa [putL_at ks bs h i o' hlb hnd hi (hks o' (List.mem_of_getElem? hi))] at ho
   ·rename_i hi
    injection hp with hp
    subst hp
    rw [List.getElem?_eq_none_iff] at hi
    rw [putL_new ks bs h _ hlb] at ho
    rwa [show ks.length + (i - ks.length) = i by omega] at ho
 ·have hXC : ∀ (i : Nat) (s2 : Slot), C'.m[i]? = some s2 → s2.has b → ¬ (C.X b ∨ C.rest ks b) := by
   intro i s2 h2 hb2 hx
   refine H'.nX s2 (List.mem_of_getElem? h2) b hb2 ?_
   rw [hX]
   rcases hx with hx | hx
   ·exact .inl hx
   ·exact .inr ⟨rfl, hx⟩
  rcases back_cases H hl hnd hks hs with ⟨h0, hlt, h1⟩ | ⟨i, s1, h1, rfl, hp⟩
  ·rcases back_cases H hl hnd hks hs' with ⟨h0', _, h1'⟩ | ⟨j, s2, h2, rfl, _⟩
   ·exact H.inj o o' s s' b h1 h1' hb hb'
   ·rw [slotB_block] at hb'
    exact absurd (.inr ⟨o, s, h0, h1, hb⟩) (hXC j s2 h2 hb')
  ·rw [slotB_block] at hb
   rcases back_cases H hl hnd hks hs' with ⟨h0', _, h1'⟩ | ⟨j, s2, h2, rfl, hp'⟩
   ·exact absurd (.inr ⟨o', s', h0', h1', hb'⟩) (hXC i s1 h1 hb)
   ·rw [slotB_block] at hb'
    have := H'.inj i j s1 s2 b h1 h2 hb hb'
    subst this
    rw [hp] at hp'
    injection hp'
 ·obtain ⟨o, ho⟩ := List.mem_iff_getElem?.1 hs
  rcases back_cases H hl hnd hks ho with ⟨h0, hlt, h1⟩ | ⟨i, s', h1, rfl, hp⟩
  ·exact H.nX s (List.mem_of_getElem? h1) b hb
  ·rw [slotB_block] at hb
   intro hx
   refine H'.nX s' (List.mem_of_getElem? h1) b hb ?_
   rw [hX]
   exact .inl hx
end
def callHE (ks : List Nat) (ds es : List (TypeId × Bool)) (n : Nat) (ops : Array Oper) (i : Nat) (t : Tmps) (h : List AO) (f : FuncId) : Option (List AV × List AO) :=
 match callAt n ops i t with
 | some (f', xs) =>
  if f' = f ∧ nodupB ks = true then
   match rnL (ownX false ks h) (posL ks) (xs.map (ev t)), selH false ks h with
   | some as, some hs => some ((wkL as ds).1, wkH hs es)
   | _, _ => none
  else none
 | none => none
theorem selH_in {give : Bool} {ks : List Nat} {h hin : List AO} (e : selH give ks h = some hin) : hin.length = ks.length ∧ (∀ o ∈ ks, o < h.length) ∧ ∀ o ∈ ks, h[o]? ≠ some .gone := by
 obtain ⟨h1, h2⟩ := mapO_spec e
 have g : ∀ o ∈ ks, ∃ ob x, h[o]? = some ob ∧ rnO give (ownX give ks h) (posL ks) ob = some x := by
  intro o ho
  obtain ⟨i, hi⟩ := List.mem_iff_getElem?.1 ho
  have hl : i < hin.length := by rw [h1]; exact (List.getElem?_eq_some_iff.1 hi).1
  obtain ⟨o', k1, k2⟩ := h2 i _ (List.getElem?_eq_getElem hl)
  rw [hi] at k1
  injection k1 with k1
  subst k1
  split at k2
  ·rename_i ob hob
   exact ⟨ob, _, hob, k2⟩
  ·cases k2
 refine ⟨h1, fun o ho => ?_, fun o ho hg => ?_⟩
 ·obtain ⟨ob, x, k1, _⟩ := g o ho
  exact (List.getElem?_eq_some_iff.1 k1).1
 ·obtain ⟨ob, x, k1, k2⟩ := g o ho
  rw [hg] at k1
  injection k1 with k1
  subst k1
  simp [rnO] at k2
theorem LSpec.callH (ks : List Nat) (ds es : List (TypeId × Bool)) {n : Nat} {ops : Array Oper} {i : Nat} {t : Tmps} {h hin hout h' : List AO} {f : FuncId} {avs : List AV} {r r' : AV} (hc : ACalls P G.S f avs hin r hout) (e : callHE ks ds es n ops i t h f = some (avs, hin)) (eb : backE ks h hout r = some (r', h')) : LSpec P G.S n ops i .loud t h r' h' := by
 unfold callHE at e
 split at e
 ·rename_i f' xs hk
  split at e
  ·rename_i hcnd
   obtain ⟨rfl, hnd⟩ := hcnd
   split at e
   ·rename_i as hs hrl hsel
    injection e with e
    injection e with e1 e2
    subst e1; subst e2
    have K := callAt_spec hk
    refine ⟨K.lt, K.dst, fun hh => absurd rfl hh, fun t2 h2 C a hl hh A Q N hN => K.wp hc.1 hl A fun hev => ?_⟩
    have hh := hh (by simp)
    subst hh
    have H := A.heap
    obtain ⟨hlen, hks, hng⟩ := selH_in hsel
    have hrn := sel_rn H false ks
    have hvals : VRels G.S (C.sel false ks) as (xs.map a.eval) := by
     have key : ∀ (xs : List Operand) (as : List AV), rnL (ownX false ks h2) (posL ks) (xs.map (ev t)) = some as → (∀ x ∈ xs, VRel G.S C (ev t x) (a.eval x)) → VRels G.S (C.sel false ks) as (xs.map a.eval) := by
      intro xs
      induction xs with
      | nil => intro as hm _; simp only [List.map_nil, rnL] at hm; injection hm with hm; subst hm; exact .nil
      | cons x xs ih =>
       intro as hm hr
       simp only [List.map_cons, rnL] at hm
       split at hm
       ·rename_i b s m1 m2
        injection hm with hm
        subst hm
        have hx := hr x (by simp)
        have hx1 : VRel1 G.S C (ev t x) (a.eval x) := VRel.to1 (fun ws hw => by rw [hw] at m1; simp [rnA] at m1) hx
        exact .cons (hx1.rn hrn m1) (ih s m2 fun y hy => hr y (by simp [hy]))
       ·cases hm
     exact key xs as hrl hev
    refine (hc.2 (C.sel false ks) _ ((sel_heap H hnd hsel).wk es) (by simpa using hvals.wk ds)).mono ?_
    rintro e w' ⟨v, C', rfl, rfl, st, H', hv⟩
    refine ⟨v, rfl, ?_⟩
    unfold backE at eb
    split at eb
    ·rename_i r2 bs hr2 hbs
     split at eb
     ·rename_i hle
      injection eb with eb
      injection eb with e1 e2
      subst e1; subst e2
      have hll : ks.length ≤ C'.m.length := by
       rw [H'.len, ← (bkL_spec hbs).1]
       exact Nat.le_of_ble_eq_true hle
      have hD := back_heap H H' st hll hnd hks hng hbs
      exact hN (backCtx ks C C') v (back_step H st hll hnd hks hng) (hv.rn (back_rn H H' st.X hll hnd hks) hr2) (by simpa using hD)
     ·cases eb
    ·cases eb
   ·cases e
  ·cases e
 ·cases e
end Go.Sh
namespace Go.Sh
variable {P : Program} {G : Tab} {F : Fn} {c0 : Ctx} {R : Ending → World → Prop}
class Ok (P : Program) (G : Tab) : Prop where
 g : G.ok P
 m : P.follows .mixedOrders = true
deriving instance Inhabited for RS
deriving instance Inhabited for Cfg
def forceA {β : Type} (a : AV) (k : AV → β) : β :=
 match a with
 | .u => k .u
 | .sc v => k (.sc v)
 | .arr x n xs => k (.arr x n xs)
 | .agg fs => k (.agg fs)
 | .sl e rows f => k (.sl e rows f)
 | .own o n => k (.own o n)
 | .ptr o f ix => k (.ptr o f ix)
 | .ep fs f ix => k (.ep fs f ix)
 | .el e o n i f => k (.el e o n i f)
 | .bsl e o f n => k (.bsl e o f n)
 | .ref K o => k (.ref K o)
 | .fn f cs => k (.fn f cs)
 | .fm o n ψ => k (.fm o n ψ)
 | .is ψ => k (.is ψ)
 | .tup vs => k (.tup vs)
theorem forceA_eq {β : Type} (a : AV) (k : AV → β) : forceA a k = k a := by cases a <;> rfl
def forceT {β : Type} : Tmps → (Tmps → β) → β
 | [], k => k []
 | (i, a) :: r, k => forceA a fun a' => forceT r fun r' => k ((i, a') :: r')
theorem forceT_eq {β : Type} : ∀ (t : Tmps) (k : Tmps → β), forceT t k = k t
 | [], k => rfl
 | (i, a) :: r, k => by simp only [forceT, forceA_eq, forceT_eq r]
def forceO {β : Type} (a : AO) (k : AO → β) : β :=
 match a with
 | .gone => k .gone
 | .box e fs => k (.box e fs)
 | .row e rows v app => k (.row e rows v app)
 | .any p => k (.any p)
 | .vals p as => k (.vals p as)
 | .fam p n => k (.fam p n)
 | .famT p n pd => k (.famT p n pd)
theorem forceO_eq {β : Type} (a : AO) (k : AO → β) : forceO a k = k a := by cases a <;> rfl
def forceH {β : Type} : List AO → (List AO → β) → β
 | [], k => k []
 | a :: r, k => forceO a fun a' => forceH r fun r' => k (a' :: r')
theorem forceH_eq {β : Type} : ∀ (t : List AO) (k : List AO → β), forceH t k = k t
 | [], k => rfl
 | a :: r, k => by simp only [forceH, forceO_eq, forceH_eq r]
def mkC (k : List PI) (t : Tmps) (h : List AO) : Option Cfg := forceT t fun t' => forceH h fun h' => some ⟨k, t', h'⟩
theorem mkC_eq (k : List PI) (t : Tmps) (h : List AO) : mkC k t h = some ⟨k, t, h⟩ := by simp only [mkC, forceT_eq, forceH_eq]
def AX (P : Program) (G : Tab) (F : Fn) (c0 : Ctx) (R : Ending → World → Prop) (s : Option Cfg) : Prop := ∃ c, s = some c ∧ AR P G F c0 R c.k c.t c.h
theorem AX.of {c : Cfg} (A : AR P G F c0 R c.k c.t c.h) : AX P G F c0 R (some c) := ⟨c, rfl, A⟩
theorem AX.ar {c : Cfg} (A : AX P G F c0 R (some c)) : AR P G F c0 R c.k c.t c.h := by
 obtain ⟨c', h1, h2⟩ := A
 injection h1 with h1
 subst h1
 exact h2
theorem AX.to {s : Option Cfg} {c : Cfg} (A : AX P G F c0 R (some c)) (e : s = some c := by kernel_rfl) : AX P G F c0 R s := by rw [e]; exact A
theorem AX.cl {s s' : Option Cfg} (A : AX P G F c0 R s') (e : s = s' := by kernel_rfl) : AX P G F c0 R s := by rw [e]; exact A
def sgE (G : Tab) (F : Fn) (m : Nat) (L : List Nat) (s : Option Cfg) : Option Cfg :=
 match s with
 | some c => match arun G F m c with | some c' => mkC c'.k (keepT L c'.t) c'.h | none => none
 | none => none
theorem AX.sg [ok : Ok P G] (m : Nat) (L : List Nat) {s : Option Cfg} (A : AX P G F c0 R (sgE G F m L s)) : AX P G F c0 R s := by
 obtain ⟨c', h1, h2⟩ := A
 cases s with
 | none => cases h1
 | some c =>
  simp only [sgE, mkC_eq] at h1
  split at h1
  ·rename_i c2 hr
   injection h1 with h1
   subst h1
   exact ⟨c, rfl, arun_sound ok.g ok.m m c c2 hr (AR.weak (keepT_weak L c2.t) h2)⟩
  ·cases h1
def kpE (L : List Nat) (s : Option Cfg) : Option Cfg := match s with | some c => mkC c.k (keepT L c.t) c.h | none => none
theorem AX.kp (L : List Nat) {s : Option Cfg} (A : AX P G F c0 R (kpE L s)) : AX P G F c0 R s := by
 obtain ⟨c', h1, h2⟩ := A
 cases s with
 | none => cases h1
 | some c =>
  simp only [kpE, mkC_eq] at h1
  injection h1 with h1
  subst h1
  exact ⟨c, rfl, AR.weak (keepT_weak L c.t) h2⟩
def cdE (F : Fn) (s : Option Cfg) : Option Bool :=
 match s with
 | some c =>
  match c.k with
  | .code p :: _ =>
   match condOf (codeAt F.B p) with
   | some x => match ev c.t x with | .sc (.bool b) => some b | _ => none
   | none => none
  | _ => none
 | none => none
def brE (w : Nat) (s : Option Cfg) : Option Cfg :=
 match s with
 | some c => match c.k with | .code p :: k => some ⟨.code (p ++ [w]) :: k, c.t, c.h⟩ | _ => none
 | none => none
theorem cdE_inv {s : Option Cfg} {b : Bool} (e : cdE F s = some b) : ∃ p k t h x, s = some ⟨.code p :: k, t, h⟩ ∧ condOf (codeAt F.B p) = some x ∧ ev t x = .sc (.bool b) := by
 unfold cdE at e
 split at e
 ·rename_i c
  split at e
  ·rename_i p k hk
   split at e
   ·rename_i x hx
    split at e
    ·rename_i b' hb
     injection e with e
     subst e
     exact ⟨p, k, c.t, c.h, x, by rw [← hk], hx, hb⟩
    ·cases e
   ·cases e
  ·cases e
 ·cases e
theorem AX.cond (b : Bool) {s : Option Cfg} (e : cdE F s = some b) (ht : b = true → AX P G F c0 R (brE 0 s)) (hf : b = false → AX P G F c0 R (brE 1 s)) : AX P G F c0 R s := by
 obtain ⟨p, k, t, h, x, rfl, hx, hb⟩ := cdE_inv e
 exact .of (AR.cond x b hx hb (fun q => (ht q).ar) (fun q => (hf q).ar))
theorem AX.cd (b : Bool) {s : Option Cfg} {α : Type} {X Y r : α} (H : (bif b then X else Y) = r) (ht : b = true → X = r → AX P G F c0 R (brE 0 s)) (hf : b = false → Y = r → AX P G F c0 R (brE 1 s)) (e : cdE F s = some b := by kernel_rfl) : AX P G F c0 R s :=
 AX.cond b e (fun q => ht q (cond_t q H)) (fun q => hf q (cond_f q H))
theorem AX.cdT {b : Bool} {s : Option Cfg} (hb : b = true) (A : AX P G F c0 R (brE 0 s)) (e : cdE F s = some b := by kernel_rfl) : AX P G F c0 R s := AX.cond b e (fun _ => A) (fun q => by rw [hb] at q; cases q)
theorem AX.cdF {b : Bool} {s : Option Cfg} (hb : b = false) (A : AX P G F c0 R (brE 1 s)) (e : cdE F s = some b := by kernel_rfl) : AX P G F c0 R s := AX.cond b e (fun q => by rw [hb] at q; cases q) (fun _ => A)
def lk2 : Tmps → Nat → AV
 | [], _ => .u
 | (j, a) :: r, i => match j == i with | true => a | false => lk2 r i
def keepT2 : List Nat → Tmps → Tmps
 | [], _ => []
 | i :: L, t => (i, lk2 t i) :: keepT2 L t
def jnE (L : List Nat) (chg : Tmps) (s : Option Cfg) : Option Cfg :=
 match s with
 | some c => match c.k with | _ :: k => mkC k (keepT2 L (chg ++ c.t)) c.h | _ => none
 | none => none
theorem AX.jn (b : Bool) (L : List Nat) (chg : Bool → Tmps) {s : Option Cfg} (J : AX P G F c0 R (jnE L (chg b) s)) (ht : b = true → AX P G F c0 R (jnE L (chg true) s) → AX P G F c0 R (brE 0 s)) (hf : b = false → AX P G F c0 R (jnE L (chg false) s) → AX P G F c0 R (brE 1 s)) (e : cdE F s = some b := by kernel_rfl) : AX P G F c0 R s :=
 AX.cond b e (fun q => ht q (by rw [q] at J; exact J)) (fun q => hf q (by rw [q] at J; exact J))
def inE (F : Fn) (s : Option Cfg) : Option Cfg :=
 match s with
 | some c =>
  match c.k with
  | .code p :: k => if isLoop (codeAt F.B p) = true then some ⟨.code (p ++ [0]) :: .loop p :: k, c.t, c.h⟩ else none
  | .loop p :: k => some ⟨.code (p ++ [0]) :: .loop p :: k, c.t, c.h⟩
  | _ => none
 | none => none
theorem AX.into {s : Option Cfg} (A : AX P G F c0 R (inE F s)) : AX P G F c0 R s := by
 obtain ⟨c', h1, h2⟩ := A
 cases s with
 | none => cases h1
 | some c =>
  obtain ⟨k, t, h⟩ := c
  simp only [inE] at h1
  split at h1
  ·split at h1
   ·rename_i hl
    injection h1 with h1
    subst h1
    exact ⟨_, rfl, AR.into hl h2⟩
   ·cases h1
  ·injection h1 with h1
   subst h1
   exact ⟨_, rfl, AR.loop_round h2⟩
  ·cases h1
def wkE (i : Nat) (ds : List (TypeId × Bool)) (s : Option Cfg) : Option Cfg := match s with | some c => mkC c.k (setT c.t (some i) (wkV (lk c.t i) ds)) c.h | none => none
theorem AX.wk (i : Nat) (ds : List (TypeId × Bool)) {s : Option Cfg} (A : AX P G F c0 R (wkE i ds s)) : AX P G F c0 R s := by
 obtain ⟨c', h1, h2⟩ := A
 cases s with
 | none => cases h1
 | some c =>
  simp only [wkE, mkC_eq] at h1
  injection h1 with h1
  subst h1
  exact ⟨c, rfl, AR.weak (weak_set (fun C v r => VRel.wk r)) h2⟩
def tlE (n0 : Nat) (ks L : List Nat) (s : Option Cfg) : Option Cfg :=
 match s with
 | some c =>
  match selH true ks c.h with
  | some h' => if (nodupB ks && preB n0 ks 0) = true then mkC c.k (selT ks c.h (keepT L c.t)) h' else none
  | none => none
 | none => none
theorem AX.tl {n0 : Nat} (hc0 : c0.m.length = n0) (ks L : List Nat) {s : Option Cfg} (A : AX P G F c0 R (tlE n0 ks L s)) : AX P G F c0 R s := by
 obtain ⟨c', h1, h2⟩ := A
 cases s with
 | none => cases h1
 | some c =>
  simp only [tlE, mkC_eq] at h1
  split at h1
  ·rename_i h' hs
   split at h1
   ·rename_i hk
    injection h1 with h1
    subst h1
    exact ⟨c, rfl, AR.weak (keepT_weak L c.t) (AR.sel hc0 ks hk hs h2)⟩
   ·cases h1
  ·cases h1
def adE (i : Nat) (e : TypeId) (big : Bool) (s : Option Cfg) : Option Cfg :=
 match s with
 | some c => match (match big with | true => adoptBE i e c.t c.h | false => adoptE i e c.t c.h) with | some (t, h) => mkC c.k t h | none => none
 | none => none
theorem AX.ad (i : Nat) (e : TypeId) (big : Bool) {s : Option Cfg} (A : AX P G F c0 R (adE i e big s)) : AX P G F c0 R s := by
 obtain ⟨c', h1, h2⟩ := A
 cases s with
 | none => cases h1
 | some c =>
  simp only [adE, mkC_eq] at h1
  split at h1
  ·rename_i t h hq
   injection h1 with h1
   subst h1
   cases big with
   | true => exact ⟨c, rfl, AR.adoptB' i e hq h2⟩
   | false => exact ⟨c, rfl, AR.adopt' i e hq h2⟩
  ·cases h1
theorem ACalls.of_AX (F : Fn) {fn : Func} {args : List AV} {h h' : List AO} {r : AV} (hf : P.funcs[F.f]? = some fn)
  (A : ∀ c0 : Ctx, c0.m.length = h.length → AX P G F c0 (Rp G.S c0 r h') (some ⟨[.code []], argT 0 args, h⟩)) (hname : (fn.name == "runtime.NumGoroutine") = false := by kernel_rfl) (hB : fn.body = some F.B := by kernel_rfl) (hn : fn.ntmps = F.n := by kernel_rfl) (hlen : Nat.ble args.length F.n = true := by kernel_rfl) : ACalls P G.S F.f args h r h' :=
 ACalls.of_AR F hf hname hB hn (Nat.le_of_ble_eq_true hlen) fun c0 hc => (A c0 hc).ar
def rtE (G : Tab) (F : Fn) (fn : Func) (n0 : Nat) (ks : List Nat) (ds es : List (TypeId × Bool)) (s : Option Cfg) : Option (AV × List AO) :=
 match s with
 | some c =>
  if endK F.B c.k = true ∧ (nodupB ks && preB n0 ks 0) = true then retKE G fn ks ds es c.t c.h else none
 | none => none
theorem AX.ret [ok : Ok P G] {fn : Func} (hf : P.funcs[F.f]? = some fn) {n0 : Nat} (hc0 : c0.m.length = n0) (ks : List Nat := []) (ds es : List (TypeId × Bool) := []) {s : Option Cfg} {r : AV} {h' : List AO} (e : rtE G F fn n0 ks ds es s = some (r, h') := by kernel_rfl) : AX P G F c0 (Rp G.S c0 r h') s := by
 unfold rtE at e
 split at e
 ·rename_i c
  obtain ⟨k, t, h⟩ := c
  dsimp only at e
  split at e
  ·rename_i hc
   exact ⟨_, rfl, AR.retK ok.g hf hc0 ks hc.2 ds es hc.1 e⟩
  ·cases e
 ·cases e
end Go.Sh
namespace Go.Sh
variable {P : Program} {G : Tab} {F : Fn} {c0 : Ctx} {R : Ending → World → Prop}
def leKs : List Kd → List Kd → Bool
 | [], [] => true
 | a :: r, b :: s => a.leB b && leKs r s
 | _, _ => false
def maxK : Kd → Kd → Kd
 | .loud, _ => .loud
 | _, .loud => .loud
 | .read, _ => .read
 | _, .read => .read
 | _, _ => .pure
def maxKs : List Kd → List Kd → List Kd
 | a :: r, b :: s => maxK a b :: maxKs r s
 | _, _ => []
theorem leK_refl (a : Kd) : a.leB a = true := by cases a <;> rfl
theorem leK_max (a b : Kd) : a.leB (maxK a b) = true ∧ b.leB (maxK a b) = true := by cases a <;> cases b <;> exact ⟨rfl, rfl⟩
theorem leKs_max : ∀ (a b : List Kd), a.length = b.length → leKs a (maxKs a b) = true ∧ leKs b (maxKs a b) = true
 | [], [], _ => ⟨rfl, rfl⟩
 | [], b :: s, h => by simp at h
 | a :: r, [], h => by simp at h
 | a :: r, b :: s, h => by
  have := leKs_max r s (by simpa using h)
  simp [leKs, maxKs, leK_max, this]
theorem leKs_append : ∀ {a b c d : List Kd}, leKs a b = true → leKs c d = true → leKs (a ++ c) (b ++ d) = true
 | [], [], c, d, _, h => h
 | [], b :: s, _, _, h, _ => by simp [leKs] at h
 | a :: r, [], _, _, h, _ => by simp [leKs] at h
 | a :: r, b :: s, c, d, h, k => by
  simp only [leKs, Bool.and_eq_true] at h
  simp only [List.cons_append, leKs, Bool.and_eq_true]
  exact ⟨h.1, leKs_append h.2 k⟩
theorem leKs_reverse : ∀ {a b : List Kd}, leKs a b = true → leKs a.reverse b.reverse = true
 | [], [], _ => rfl
 | [], b :: s, h => by simp [leKs] at h
 | a :: r, [], h => by simp [leKs] at h
 | a :: r, b :: s, h => by
  simp only [leKs, Bool.and_eq_true] at h
  simp only [List.reverse_cons]
  exact leKs_append (leKs_reverse h.2) (by simp [leKs, h.1])
theorem leKs_take : ∀ {a b : List Kd} (n : Nat), leKs a b = true → leKs (a.take n) (b.take n) = true
 | [], [], n, _ => by simp [leKs]
 | [], b :: s, _, h => by simp [leKs] at h
 | a :: r, [], _, h => by simp [leKs] at h
 | a :: r, b :: s, 0, h => by simp [leKs]
 | a :: r, b :: s, n + 1, h => by
  simp only [leKs, Bool.and_eq_true] at h
  simp only [List.take_succ_cons, leKs, Bool.and_eq_true]
  exact ⟨h.1, leKs_take n h.2⟩
theorem conflict_mono {ops : Array Oper} {ki kj ki' kj' : Kd} {oi oj : Oper} (h1 : ki.leB ki' = true) (h2 : kj.leB kj' = true) (h : conflict ops ki kj oi oj = true) : conflict ops ki' kj' oi oj = true := by
 unfold conflict at h ⊢
 simp only [Bool.or_eq_true] at h ⊢
 rcases h with (((h | h) | h) | h) | h
 ·refine .inl (.inl (.inl ?_))
  cases ki <;> cases kj <;> cases ki' <;> cases kj' <;> simp_all [Kd.leB]
 ·refine .inl (.inl (.inl ?_))
  cases ki <;> cases kj <;> cases ki' <;> cases kj' <;> simp_all [Kd.leB]
 ·exact .inl (.inl (.inr h))
 ·exact .inl (.inr h)
 ·exact .inr h
theorem confRow_mono {ops : Array Oper} {kj kj' : Kd} {oj : Oper} {m : Nat} (hj : kj.leB kj' = true) : ∀ (os : List Oper) (ks ks' : List Kd) (i : Nat), leKs ks ks' = true → confRow ops kj' oj m i os ks' = true → confRow ops kj oj m i os ks = true
 | [], _, _, _, _, _ => rfl
 | o :: os, [], [], i, _, h => by simp [confRow] at h
 | o :: os, [], b :: s, _, hl, _ => by simp [leKs] at hl
 | o :: os, a :: r, [], _, hl, _ => by simp [leKs] at hl
 | o :: os, a :: r, b :: s, i, hl, h => by
  simp only [leKs, Bool.and_eq_true] at hl
  simp only [confRow, Bool.and_eq_true, Bool.or_eq_true, Bool.not_eq_true'] at h ⊢
  refine ⟨?_, confRow_mono hj os r s (i + 1) hl.2 h.2⟩
  rcases h.1 with h1 | h1
  ·left
   cases hc : conflict ops a kj o oj with
   | false => rfl
   | true => rw [conflict_mono hl.1 hj hc] at h1; cases h1
  ·exact .inr h1
theorem confGo_mono {ops : Array Oper} : ∀ (os : List Oper) (ks ks' : List Kd) (ms : List Nat) (j : Nat) (ao : List Oper) (ak ak' : List Kd), leKs ks ks' = true → leKs ak ak' = true → confGo ops j os ks' ms ao ak' = true → confGo ops j os ks ms ao ak = true
 | [], [], [], ms, j, ao, ak, ak', _, _, h => by simp [confGo]
 | [], [], b :: s, _, _, _, _, _, hl, _, _ => by simp [leKs] at hl
 | [], a :: r, [], _, _, _, _, _, hl, _, _ => by simp [leKs] at hl
 | [], a :: r, b :: s, _, _, _, _, _, _, _, h => by simp [confGo] at h
 | o :: os, [], [], _, _, _, _, _, _, _, h => by simp [confGo] at h
 | o :: os, [], b :: s, _, _, _, _, _, hl, _, _ => by simp [leKs] at hl
 | o :: os, a :: r, [], _, _, _, _, _, hl, _, _ => by simp [leKs] at hl
 | o :: os, a :: r, b :: s, [], j, ao, ak, ak', hl, hk, h => by simp [confGo] at h
 | o :: os, a :: r, b :: s, m :: ms, j, ao, ak, ak', hl, hk, h => by
  simp only [leKs, Bool.and_eq_true] at hl
  simp only [confGo, Bool.and_eq_true] at h ⊢
  exact ⟨⟨h.1.1, confRow_mono hl.1 _ _ _ _ (leKs_take j hk) h.1.2⟩, confGo_mono os r s ms (j + 1) ao ak ak' hl.2 hk h.2⟩
theorem confOk_mono {ops : Array Oper} {ks ks' : List Kd} (hl : leKs ks ks' = true) (h : confOk ops ks' = true) : confOk ops ks = true := confGo_mono _ _ _ _ _ _ _ _ hl hl h
structure DS where
 p : List Nat
 k : List PI
 r : RS
 deriving Inhabited
def mkD (p : List Nat) (k : List PI) (i : Nat) (ks : List Kd) (t : Tmps) (h : List AO) : Option DS := forceT t fun t' => forceH h fun h' => some ⟨p, k, ⟨i, ks, t', h'⟩⟩
theorem mkD_eq (p : List Nat) (k : List PI) (i : Nat) (ks : List Kd) (t : Tmps) (h : List AO) : mkD p k i ks t h = some ⟨p, k, ⟨i, ks, t, h⟩⟩ := by simp only [mkD, forceT_eq, forceH_eq]
def drawOf : Code → Bool
 | .region _ _ draw => draw
 | _ => false
abbrev DS.ops (F : Fn) (d : DS) : Array Oper := opsOf (codeAt F.B d.p)
abbrev FinD (P : Program) (G : Tab) (F : Fn) (c0 : Ctx) (R : Ending → World → Prop) (d : DS) : List Kd → Tmps → List AO → Prop := Fin P G F c0 R (d.ops F) (drawOf (codeAt F.B d.p)) d.k
def DX (P : Program) (G : Tab) (F : Fn) (c0 : Ctx) (R : Ending → World → Prop) (s : Option DS) : Prop := ∃ d, s = some d ∧ DW P G.S F.n (d.ops F) (FinD P G F c0 R d) d.r.i d.r.ks d.r.t d.r.h
theorem fin_weak {d : DS} : ∀ (ks : List Kd) (t' t : Tmps) (h : List AO), Weak G.S t' t → FinD P G F c0 R d ks t' h → FinD P G F c0 R d ks t h := fun ks t' t h w f => ⟨f.1, AR.weak w f.2⟩
theorem DW.louder {d : DS} {i : Nat} {ks' : List Kd} {t : Tmps} {h : List AO} (D : DW P G.S F.n (d.ops F) (FinD P G F c0 R d) i ks' t h) : ∀ (ks : List Kd), leKs ks ks' = true → DW P G.S F.n (d.ops F) (FinD P G F c0 R d) i ks t h := by
 induction D with
 | fin hs hf => exact fun ks hl => .fin hs ⟨fun hd => confOk_mono (leKs_reverse hl) (hf.1 hd), hf.2⟩
 | @step i ks0 t h kd r h' L _ ih => exact fun ks hl => .step L (ih (kd :: ks) (by simp [leKs, leK_refl, hl]))
def rgE (F : Fn) (s : Option Cfg) : Option DS :=
 match s with
 | some c =>
  match c.k with
  | .code p :: k => match codeAt F.B p with | .region _ _ _ => some ⟨p, k, ⟨0, [], c.t, c.h⟩⟩ | _ => none
  | _ => none
 | none => none
theorem AX.rg [ok : Ok P G] {s : Option Cfg} (D : DX P G F c0 R (rgE F s)) : AX P G F c0 R s := by
 obtain ⟨d, h1, h2⟩ := D
 cases s with
 | none => cases h1
 | some c =>
  obtain ⟨k, t, h⟩ := c
  simp only [rgE] at h1
  split at h1
  ·rename_i p k
   split at h1
   ·rename_i id ops draw hc
    injection h1 with h1
    subst h1
    refine ⟨_, rfl, AR.region ok.m hc ?_⟩
    simpa [DS.ops, FinD, opsOf, drawOf, hc] using h2
   ·cases h1
  ·cases h1
def dsE (G : Tab) (F : Fn) (m : Nat) (L : List Nat) (s : Option DS) : Option DS :=
 match s with
 | some d => match rrun G F.n (d.ops F) m d.r with | some r => mkD d.p d.k r.i r.ks (keepT L r.t) r.h | none => none
 | none => none
theorem DX.sg [ok : Ok P G] (m : Nat) (L : List Nat) {s : Option DS} (D : DX P G F c0 R (dsE G F m L s)) : DX P G F c0 R s := by
 obtain ⟨d', h1, h2⟩ := D
 cases s with
 | none => cases h1
 | some d =>
  simp only [dsE, mkD_eq] at h1
  split at h1
  ·rename_i r hr
   injection h1 with h1
   subst h1
   exact ⟨d, rfl, rrun_sound ok.g m d.r r hr (DW.weak fin_weak (keepT_weak L r.t) h2)⟩
  ·cases h1
def dd (s : Option DS) : DS := match s with | some d => d | none => default
def opE (F : Fn) (kd : Kd) (r : AV) (h' : List AO) (L : List Nat) (s : Option DS) : Option DS :=
 match s with
 | some d => mkD d.p d.k (d.r.i + 1) (kd :: d.r.ks) (keepT L (setT d.r.t (((d.ops F)[d.r.i]?).bind (·.dst)) r)) h'
 | none => none
theorem DX.op (L : List Nat) {s : Option DS} {kd : Kd} {r : AV} {h' : List AO} (q : LSpec P G.S F.n ((dd s).ops F) (dd s).r.i kd (dd s).r.t (dd s).r.h r h') (D : DX P G F c0 R (opE F kd r h' L s)) : DX P G F c0 R s := by
 obtain ⟨d', h1, h2⟩ := D
 cases s with
 | none => cases h1
 | some d =>
  simp only [opE, mkD_eq] at h1
  injection h1 with h1
  subst h1
  exact ⟨d, rfl, .step q (DW.weak fin_weak (keepT_weak L _) h2)⟩
def dnE (F : Fn) (s : Option DS) : Option Cfg :=
 match s with
 | some d => if ((d.ops F).size == d.r.i && (!drawOf (codeAt F.B d.p) || confOk (d.ops F) d.r.ks.reverse)) = true then some ⟨d.k, d.r.t, d.r.h⟩ else none
 | none => none
theorem DX.dn {s : Option DS} (A : AX P G F c0 R (dnE F s)) : DX P G F c0 R s := by
 obtain ⟨c, h1, h2⟩ := A
 cases s with
 | none => cases h1
 | some d =>
  simp only [dnE] at h1
  split at h1
  ·rename_i hc
   injection h1 with h1
   subst h1
   simp only [Bool.and_eq_true, beq_iff_eq, Bool.or_eq_true, Bool.not_eq_true'] at hc
   refine ⟨d, rfl, .fin hc.1 ⟨fun hd => ?_, h2⟩⟩
   rcases hc.2 with h3 | h3
   ·rw [h3] at hd; cases hd
   ·exact h3
  ·cases h1
def dwE (i : Nat) (ds : List (TypeId × Bool)) (s : Option DS) : Option DS := match s with | some d => mkD d.p d.k d.r.i d.r.ks (setT d.r.t (some i) (wkV (lk d.r.t i) ds)) d.r.h | none => none
theorem DX.wk (i : Nat) (ds : List (TypeId × Bool)) {s : Option DS} (D : DX P G F c0 R (dwE i ds s)) : DX P G F c0 R s := by
 obtain ⟨c', h1, h2⟩ := D
 cases s with
 | none => cases h1
 | some d =>
  simp only [dwE, mkD_eq] at h1
  injection h1 with h1
  subst h1
  exact ⟨d, rfl, DW.weak fin_weak (weak_set (fun C v r => VRel.wk r)) h2⟩
def unK (s : Option DS) : Option (List Nat × List PI × Nat × Tmps × List AO) := match s with | some d => some (d.p, d.k, d.r.i, d.r.t, d.r.h) | none => none
def ksE (s s' : Option DS) : Bool := match s, s' with | some d, some d' => leKs d.r.ks d'.r.ks | _, _ => false
theorem DX.cl {s s' : Option DS} (D : DX P G F c0 R s') (e : unK s = unK s' := by kernel_rfl) (k : ksE s s' = true := by kernel_rfl) : DX P G F c0 R s := by
 obtain ⟨d', rfl, h2⟩ := D
 cases s with
 | none => cases k
 | some d =>
  obtain ⟨p, kk, i, ks, t, h⟩ := d
  obtain ⟨p', kk', i', ks', t', h'⟩ := d'
  simp only [unK, Option.some.injEq, Prod.mk.injEq] at e
  obtain ⟨rfl, rfl, rfl, rfl, rfl⟩ := e
  exact ⟨_, rfl, DW.louder h2 ks k⟩
theorem lk_subB {d : Nat} {b : Bool} : ∀ {t : Tmps}, lk t d = .sc (.bool b) → ∀ x, lk (subB d b t) x = lk t x
 | [], _, x => rfl
 | (j, a) :: r, h, x => by
  unfold subB at *
  simp only [List.map_cons, lk] at h ⊢
  by_cases hj : j = d
  ·subst hj
   simp only [beq_self_eq_true, if_true] at h ⊢
   subst h
   by_cases hx : j = x
   ·simp [hx]
   ·have e : (j == x) = false := by simpa using hx
    simp only [e, if_false]
    have g : ∀ (r : Tmps), x ≠ j → lk (r.map fun p => if p.1 == j then (p.1, .sc (.bool b)) else p) x = lk r x := by
     intro r hne
     induction r with
     | nil => rfl
     | cons p r ih =>
      obtain ⟨q, c⟩ := p
      simp only [List.map_cons]
      by_cases hq : q = j
      ·subst hq
       simp only [beq_self_eq_true, if_true, lk]
       have : (q == x) = false := by simpa using hx
       simp only [this, if_false]
       exact ih
      ·have : (q == j) = false := by simpa using hq
       simp only [this, if_false, lk, ih, Bool.false_eq_true]
    exact g r (Ne.symm hx)
  ·have e : (j == d) = false := by simpa using hj
   simp only [e, Bool.false_eq_true, if_false] at h ⊢
   rw [show lk (r.map fun p => if p.1 == d then (p.1, AV.sc (Value.bool b)) else p) x = lk r x from lk_subB (t := r) h x]
theorem weak_lk {S : Sizes} {t' t : Tmps} (h : ∀ x, lk t' x = lk t x) : Weak S t' t := fun x C v r => by rw [h x]; exact r
def bAt (d : Nat) (s : Option DS) : Option Bool := match s with | some q => (match lk q.r.t d with | .sc (.bool b) => some b | _ => none) | none => none
def stB (d : Nat) (b : Bool) (s : Option DS) : Option DS := match s with | some q => mkD q.p q.k q.r.i q.r.ks (subB d b q.r.t) q.r.h | none => none
theorem bAt_inv {d : Nat} {s : Option DS} {b : Bool} (e : bAt d s = some b) : ∃ q, s = some q ∧ lk q.r.t d = .sc (.bool b) := by
 unfold bAt at e
 split at e
 ·rename_i q
  split at e
  ·rename_i b' hb
   injection e with e
   subst e
   exact ⟨q, rfl, hb⟩
  ·cases e
 ·cases e
theorem DX.back {d : Nat} {s : Option DS} {b : Bool} (e : bAt d s = some b) (D : DX P G F c0 R (stB d b s)) : DX P G F c0 R s := by
 obtain ⟨q, rfl, hb⟩ := bAt_inv e
 obtain ⟨q', h1, h2⟩ := D
 simp only [stB, mkD_eq] at h1
 injection h1 with h1
 subst h1
 exact ⟨q, rfl, DW.weak fin_weak (weak_lk (lk_subB hb)) h2⟩
theorem DX.sp (d : Nat) (b : Bool) {s : Option DS} {α : Type} {X Y r : α} (H : (bif b then X else Y) = r) (ht : b = true → X = r → DX P G F c0 R (stB d true s)) (hf : b = false → Y = r → DX P G F c0 R (stB d false s)) (e : bAt d s = some b := by kernel_rfl) : DX P G F c0 R s := by
 cases b with
 | true => exact DX.back e (ht rfl H)
 | false => exact DX.back e (hf rfl H)
def mjE (m : Nat) (kts : List Kd) (L : List Nat) (dst : Nat) (v : AV) (s : Option DS) : Option DS := match s with | some d => mkD d.p d.k (d.r.i + m) (kts ++ d.r.ks) (keepT2 L ((dst, v) :: d.r.t)) d.r.h | none => none
theorem DX.mm (d : Nat) (b : Bool) (m : Nat) (kts : List Kd) (L : List Nat) (dst : Nat) (v : Bool → AV) {s : Option DS} (J : DX P G F c0 R (mjE m kts L dst (v b) s)) (ht : b = true → DX P G F c0 R (mjE m kts L dst (v true) s) → DX P G F c0 R (stB d true s)) (hf : b = false → DX P G F c0 R (mjE m kts L dst (v false) s) → DX P G F c0 R (stB d false s)) (e : bAt d s = some b := by kernel_rfl) : DX P G F c0 R s := by
 cases b with
 | true => exact DX.back e (ht rfl J)
 | false => exact DX.back e (hf rfl J)
def findPick (d : Nat) : List Oper → Nat → Option Nat
 | [], _ => none
 | o :: r, q => match o.op with | .pick (.tmp d') _ _ => if d' == d then some q else findPick d r (q + 1) | _ => findPick d r (q + 1)
def mrgB (mode : Nat) (b : Bool) : AV → AV → Option AV
 | .sc (.bool x), .sc (.bool y) =>
  match mode with
  | 0 => match y with | false => some (.sc (.bool (b && x))) | true => none
  | 1 => match x with | true => some (.sc (.bool (b || y))) | false => none
  | _ => some (.sc (.bool (bif b then x else y)))
 | .sc (.int k x), .sc (.int k' y) => if k = k' then some (.sc (.int k (bif b then x else y))) else none
 | _, _ => none
theorem mrgB_spec {mode : Nat} {b : Bool} {x y v : AV} (h : mrgB mode b x y = some v) : v = if b then x else y := by
 unfold mrgB at h
 split at h
 ·split at h
  ·split at h
   ·injection h with h; subst h; cases b <;> simp
   ·cases h
  ·split at h
   ·injection h with h; subst h; cases b <;> simp
   ·cases h
  ·injection h with h; subst h; cases b <;> simp
 ·split at h
  ·rename_i hk; subst hk; injection h with h; subst h; cases b <;> simp
  ·cases h
 ·cases h
def dstOut (L : List Nat) (o : Oper) : Bool := match o.dst with | some x => !L.contains x | none => true
theorem rrun_ks {n : Nat} {ops : Array Oper} : ∀ (m : Nat) (s s' : RS), rrun G n ops m s = some s' → ∃ new, s'.ks = new ++ s.ks ∧ new.length = m ∧ s'.i = s.i + m ∧ ((new.all fun k => k != .loud) = true → s'.h = s.h) ∧ ∀ x, (∀ q, s.i ≤ q → q < s.i + m → (ops[q]?).bind (·.dst) ≠ some x) → lk s'.t x = lk s.t x
 | 0, s, s', h => by simp only [rrun] at h; injection h with h; subst h; exact ⟨[], rfl, rfl, rfl, fun _ => rfl, fun _ _ => rfl⟩
 | m + 1, s, s', h => by
  simp only [rrun] at h
  split at h
  ·rename_i kd r h' hs
   obtain ⟨new, e1, e2, e3, e4, e5⟩ := rrun_ks m _ s' h
   refine ⟨new ++ [kd], by rw [e1]; simp, by simp [e2], by rw [e3]; simp only; omega, fun hq => ?_, fun x hx => ?_⟩
   ·simp only [List.all_append, Bool.and_eq_true, List.all_cons, List.all_nil, Bool.and_true] at hq
    rw [e4 hq.1]
    dsimp only
    unfold stepA at hs
    split at hs
    ·cases hs
    ·split at hs
     ·split at hs
      ·cases hs
      ·injection hs with hs; injection hs with _ hs; injection hs with _ hs; exact hs.symm
      ·obtain ⟨p, hp, hq2⟩ := Option.map_eq_some_iff.1 hs
       injection hq2 with q1 q2
       injection q2 with q2 q3
       subst q1
       refine q3.symm.trans ?_
       obtain ⟨p1, p2⟩ := p
       exact aop_quiet (by simpa using hq.2) hp
     ·cases hs
   ·rw [e5 x (fun q h1 h2 => hx q (by simp only at h1; omega) (by simp only at h2; omega))]
    rw [lk_setT' s.t _ r x]
    unfold tset
    rw [if_neg (hx s.i (Nat.le_refl _) (by omega))]
  ·cases h
def mxE (G : Tab) (F : Fn) (mode : Nat) (L : List Nat) (s : Option DS) : Option DS :=
 match s with
 | some d =>
  match ((d.ops F)[d.r.i]?).bind (·.guard) with
  | some (j, _) =>
   match ((d.ops F)[j]?).bind (·.dst) with
   | some db =>
    match bAt db (some d), findPick db ((d.ops F).toList.drop d.r.i) d.r.i with
    | some b, some q =>
     match rrun G F.n (d.ops F) (q + 1 - d.r.i) ⟨d.r.i, d.r.ks, subB db true d.r.t, d.r.h⟩, rrun G F.n (d.ops F) (q + 1 - d.r.i) ⟨d.r.i, d.r.ks, subB db false d.r.t, d.r.h⟩, ((d.ops F)[q]?).bind (·.dst) with
     | some sT, some sF, some dp =>
      match mrgB mode b (lk sT.t dp) (lk sF.t dp) with
      | some v =>
       if (Nat.ble d.r.i q && (sT.ks.take (q + 1 - d.r.i)).all (fun k => k != .loud) && (sF.ks.take (q + 1 - d.r.i)).all (fun k => k != .loud) && (((d.ops F).toList.drop d.r.i).take (q - d.r.i)).all (dstOut L)) = true then
        mkD d.p d.k (q + 1) (maxKs sT.ks sF.ks) (keepT L (setT d.r.t (some dp) v)) d.r.h
       else none
      | none => none
     | _, _, _ => none
    | _, _ => none
   | none => none
  | none => none
 | none => none
theorem keepT_in {L : List Nat} {t : Tmps} {x : Nat} (h : lk (keepT L t) x ≠ .u) : x ∈ L := by
 unfold keepT at h
 induction L with
 | nil => exact absurd rfl h
 | cons i L ih =>
  simp only [List.map_cons, lk] at h
  by_cases e : i = x
  ·simp [e]
  ·have e' : (i == x) = false := by simpa using e
   simp only [e', Bool.false_eq_true, if_false] at h
   exact List.mem_cons_of_mem _ (ih h)
theorem mx_side {d : DS} {db q : Nat} {b : Bool} {L : List Nat} {sB : RS} {dp : Nat} {v : AV} {kts : List Kd} (hG : G.ok P) (hb : lk d.r.t db = .sc (.bool b)) (hr : rrun G F.n (d.ops F) (q + 1 - d.r.i) ⟨d.r.i, d.r.ks, subB db b d.r.t, d.r.h⟩ = some sB) (hdp : ((d.ops F)[q]?).bind (·.dst) = some dp) (hv : v = lk sB.t dp) (hiq : d.r.i ≤ q)
  (hq : ((sB.ks.take (q + 1 - d.r.i)).all fun k => k != .loud) = true) (hL : (((d.ops F).toList.drop d.r.i).take (q - d.r.i)).all (dstOut L) = true) (hk : leKs sB.ks kts = true)
  (D : DW P G.S F.n (d.ops F) (FinD P G F c0 R d) (q + 1) kts (keepT L (setT d.r.t (some dp) v)) d.r.h) : DW P G.S F.n (d.ops F) (FinD P G F c0 R d) d.r.i d.r.ks d.r.t d.r.h := by
 obtain ⟨new, e1, e2, e3, e4, e5⟩ := rrun_ks _ _ _ hr
 dsimp only at e1 e3 e4 e5
 have hh : sB.h = d.r.h := e4 (by rw [e1, ← e2, List.take_left] at hq; exact hq)
 refine DW.weak fin_weak (weak_lk (lk_subB hb)) (rrun_sound hG _ ⟨d.r.i, d.r.ks, subB db b d.r.t, d.r.h⟩ sB hr ?_)
 have hi : sB.i = q + 1 := by rw [e3]; omega
 rw [hi, hh]
 refine DW.louder (DW.weak fin_weak ?_ D) sB.ks hk
 intro x C w r
 have hkeep := keepT_lk L (setT d.r.t (some dp) v) x
 by_cases hx : lk (keepT L (setT d.r.t (some dp) v)) x = .u
 ·rw [hx]; trivial
 ·have hxL := keepT_in hx
  rcases hkeep with hkeep | hkeep
  ·rw [hkeep, lk_setT]
   split
   ·rename_i e
    subst e
    rw [hv]; exact r
   ·rename_i hne
    have : lk sB.t x = lk (subB db b d.r.t) x := e5 x (fun q' h1 h2 hd => ?_)
    ·rw [this, lk_subB hb] at r
     exact r
    ·by_cases hqq : q' = q
     ·subst hqq
      rw [hdp] at hd
      injection hd with hd
      exact hne hd.symm
     ·have hlt : q' < q := by omega
      obtain ⟨o, ho, hod⟩ := bind_dst hd
      have hmem : o ∈ (((d.ops F).toList.drop d.r.i).take (q - d.r.i)) := by
       refine List.mem_iff_getElem?.2 ⟨q' - d.r.i, ?_⟩
       rw [List.getElem?_take, if_pos (by omega), List.getElem?_drop, show d.r.i + (q' - d.r.i) = q' by omega]
       simpa using ho
      have := List.all_eq_true.1 hL o hmem
      simp only [dstOut, hod, Bool.not_eq_true', List.contains_eq_mem, decide_eq_false_iff_not] at this
      exact this hxL
  ·exact absurd hkeep hx
theorem DX.mx [ok : Ok P G] (mode : Nat) (L : List Nat) {s : Option DS} (D : DX P G F c0 R (mxE G F mode L s)) : DX P G F c0 R s := by
 obtain ⟨d', h1, h2⟩ := D
 cases s with
 | none => cases h1
 | some d =>
  simp only [mxE, mkD_eq] at h1
  split at h1
  ·rename_i j w hg
   split at h1
   ·rename_i db hdb
    split at h1
    ·rename_i b q hb hp
     obtain ⟨d2, hd2, hb⟩ := bAt_inv hb
     injection hd2 with hd2
     subst hd2
     split at h1
     ·rename_i sT sF dp hT hF hdp
      split at h1
      ·rename_i v hv
       split at h1
       ·rename_i hc
        injection h1 with h1
        subst h1
        simp only [Bool.and_eq_true, Nat.ble_eq] at hc
        obtain ⟨⟨⟨hiq, hqT⟩, hqF⟩, hL⟩ := hc
        have hv := mrgB_spec hv
        obtain ⟨nT, aT, bT, _⟩ := rrun_ks _ _ _ hT
        obtain ⟨nF, aF, bF, _⟩ := rrun_ks _ _ _ hF
        have hmax := leKs_max sT.ks sF.ks (by rw [aT, aF]; simp [bT, bF])
        refine ⟨d, rfl, ?_⟩
        cases b with
        | true => exact mx_side ok.g hb hT hdp (by simpa using hv) hiq hqT hL hmax.1 h2
        | false => exact mx_side ok.g hb hF hdp (by simpa using hv) hiq hqF hL hmax.2 h2
       ·cases h1
      ·cases h1
     ·cases h1
    ·cases h1
   ·cases h1
  ·cases h1
end Go.Sh
namespace Go.Sh
variable {P : Program} {G : Tab} {F : Fn} {c0 : Ctx} {R : Ending → World → Prop}
theorem ACalls.wl {S : Sizes} {f : FuncId} {as : List AV} {h h' : List AO} {r : AV} (ds : List (TypeId × Bool)) (hc : ACalls P S f (wkL as ds).1 h r h') : ACalls P S f as h r h' :=
 ⟨hc.1, fun C vals H hv => hc.2 C vals H (hv.wk ds)⟩
section
variable {n : Nat} {ops : Array Oper} {i : Nat} {t : Tmps} {h : List AO} {f : FuncId} {avs : List AV} {r : AV}
def callWE (g : AV → Option AV) (ds : List (TypeId × Bool)) (n : Nat) (ops : Array Oper) (i : Nat) (t : Tmps) (f : FuncId) : Option (List AV) :=
 match callE g n ops i t f with
 | some as => some (wkL as ds).1
 | none => none
theorem callWE_spec {g : AV → Option AV} {ds : List (TypeId × Bool)} (e : callWE g ds n ops i t f = some avs) : ∃ as, callE g n ops i t f = some as ∧ (wkL as ds).1 = avs := by
 unfold callWE at e
 split at e
 ·rename_i as h1
  injection e with e
  exact ⟨as, h1, e⟩
 ·cases e
theorem LSpec.cp (hc : ACalls P G.S f avs [] r []) (ds : List (TypeId × Bool) := []) (e : callWE plainO ds n ops i t f = some avs := by kernel_rfl) : LSpec P G.S n ops i .pure t h r h := by
 obtain ⟨as, h1, h2⟩ := callWE_spec e
 subst h2
 exact LSpec.callP' (hc.wl ds) h1
def bkR (ks : List Nat) (h hout : List AO) (r : AV) : AV := match backE ks h hout r with | some p => p.1 | none => .u
def bkH (ks : List Nat) (h hout : List AO) (r : AV) : List AO := match backE ks h hout r with | some p => p.2 | none => h
def callHE2 (ks : List Nat) (ds es : List (TypeId × Bool)) (n : Nat) (ops : Array Oper) (i : Nat) (t : Tmps) (h : List AO) (f : FuncId) (hout : List AO) (r : AV) : Option (List AV × List AO) :=
 match backE ks h hout r with
 | some _ => callHE ks ds es n ops i t h f
 | none => none
theorem LSpec.ch (ks : List Nat) {hin hout : List AO} (hc : ACalls P G.S f avs hin r hout) (ds es : List (TypeId × Bool) := []) (e : callHE2 ks ds es n ops i t h f hout r = some (avs, hin) := by kernel_rfl) : LSpec P G.S n ops i .loud t h (bkR ks h hout r) (bkH ks h hout r) := by
 unfold callHE2 at e
 split at e
 ·rename_i p hb
  refine LSpec.callH ks ds es hc e ?_
  unfold bkR bkH
  rw [hb]
 ·cases e
end
theorem AX.facts (i : Nat) {k : List PI} {t : Tmps} {h : List AO} (A : factsA G.S (lk t i) → AX P G F c0 R (some ⟨k, t, h⟩)) : AX P G F c0 R (some ⟨k, t, h⟩) :=
 .of (AR.facts i rfl fun q => (A q).ar)
end Go.Sh
namespace Go.Sh
variable {P : Program} {G : Tab} {S : Sizes}
def chD (a : AV) : List AV := match chunks a with | some fs => fs | none => []
def chOk (a : AV) : Bool := match chunks a with | some _ => true | none => false
theorem chD_spec {a : AV} (h : chOk a = true) : chunks a = some (chD a) := by
 unfold chOk chD at *
 split at h
 ·rename_i fs hf; rw [hf]
 ·cases h
section
variable [ok : Ok P G] {n : Nat} {ops : Array Oper} {i : Nat} {t : Tmps} {h : List AO}
theorem LSpec.xi {α : Type} (f : α → AV) {xs : List α} {j : Int} {x : α} (hv : ixO xs j = some x) (e : indexE G n ops i t = some (xs.map f, j) := by kernel_rfl) (hf : chOk (f x) = true := by kernel_rfl) : LSpec P G.S n ops i .pure t h (.ep (chD (f x)) 0 none) h :=
 LSpec.index' ok.g e (ixO_map hv f) (chD_spec hf)
def idxR (q : Option (AV × Nat × Int)) : AV :=
 match q with
 | some (.ptr o off none, m, j) => .ptr o off (some (j.toNat, m))
 | some (.ep fs off none, m, j) => .ep fs off (some (j.toNat, m))
 | _ => .u
def idxMJ (q : Option (AV × Nat × Int)) : Option (Nat × Int) :=
 match q with
 | some (.ptr _ _ none, m, j) => some (m, j)
 | some (.ep _ _ none, m, j) => some (m, j)
 | _ => none
theorem LSpec.xa {m : Nat} {j : Int} (hj : (decide (0 ≤ j) && decide (j < ((m : Nat) : Int))) = true) (e : idxMJ (idxE G n ops i t) = some (m, j) := by kernel_rfl) : LSpec P G.S n ops i .pure t h (idxR (idxE G n ops i t)) h := by
 generalize hq : idxE G n ops i t = q at *
 unfold idxMJ at e
 split at e
 ·injection e with e; injection e with e1 e2; subst e1; subst e2
  exact LSpec.idxPtr ok.g hj hq
 ·injection e with e; injection e with e1 e2; subst e1; subst e2
  exact LSpec.idxEp ok.g hj hq
 ·cases e
def idxVR (q : Option (IntKind × Nat × List Int × Int)) : AV := match q with | some (k, _, xs, j) => .sc (.int k (xs.getD j.toNat 0)) | none => .u
def idxVM (q : Option (IntKind × Nat × List Int × Int)) : Option (Nat × Int) := match q with | some (_, m, _, j) => some (m, j) | none => none
theorem LSpec.xv {m : Nat} {j : Int} (hj : (decide (0 ≤ j) && decide (j < ((m : Nat) : Int))) = true) (e : idxVM (idxVE G n ops i t) = some (m, j) := by kernel_rfl) : LSpec P G.S n ops i .pure t h (idxVR (idxVE G n ops i t)) h := by
 generalize hq : idxVE G n ops i t = q at *
 unfold idxVM at e
 split at e
 ·injection e with e; injection e with e1 e2; subst e1; subst e2
  exact LSpec.idxVal ok.g hj hq
 ·cases e
def fdR (q : Option AV) : AV := match q with | some r => r | none => .u
def someB {α : Type} (q : Option α) : Bool := match q with | some _ => true | none => false
theorem someB_fd {q : Option AV} (h : someB q = true) : q = some (fdR q) := by
 cases q with
 | none => cases h
 | some r => rfl
theorem LSpec.fd (e : someB (fieldE G n ops i t) = true := by kernel_rfl) : LSpec P G.S n ops i .pure t h (fdR (fieldE G n ops i t)) h := LSpec.field ok.g (someB_fd e)
theorem LSpec.xr {α : Type} (F : List α) (g : α → List AV) (sz : Nat) {j : Int} {r : α} (hr : ixO F j = some r) (q : idxAE2 G n ops i t = some (F.flatMap g, F.length, j, sz) := by kernel_rfl)
  (hs : (F.all fun x => decide (AV.sz.go (g x) = sz) && (g x).all fun a => decide (0 < a.sz)) = true := by kernel_rfl) (hv : someB (toV true (g r)) = true := by kernel_rfl) : LSpec P G.S n ops i .pure t h (fdR (toV true (g r))) h :=
 LSpec.idxRows' ok.g F g sz hr q rfl hs (someB_fd hv)
def binB (q : Option (IntKind × Int × IntKind × Int)) : Option Int := match q with | some (_, _, _, b) => some b | none => none
def shlR (q : Option (IntKind × Int × IntKind × Int)) : AV := match q with | some (k, a, _, b) => .sc (.int k (k.wrap (a * 2 ^ (min b.toNat k.bits)))) | none => .u
def shrR (q : Option (IntKind × Int × IntKind × Int)) : AV := match q with | some (k, a, _, b) => .sc (.int k (a.fdiv (2 ^ (min b.toNat k.bits)))) | none => .u
theorem LSpec.sl_ {b : Int} (hb : decide (0 ≤ b) = true) (e : binB (binE n ops i t .shl) = some b := by kernel_rfl) : LSpec P S n ops i .pure t h (shlR (binE n ops i t .shl)) h := by
 generalize hq : binE n ops i t .shl = q at *
 unfold binB at e
 split at e
 ·injection e with e; subst e; exact LSpec.shl hb hq
 ·cases e
theorem LSpec.sr_ {b : Int} (hb : decide (0 ≤ b) = true) (e : binB (binE n ops i t .shr) = some b := by kernel_rfl) : LSpec P S n ops i .pure t h (shrR (binE n ops i t .shr)) h := by
 generalize hq : binE n ops i t .shr = q at *
 unfold binB at e
 split at e
 ·injection e with e; subst e; exact LSpec.shr hb hq
 ·cases e
def m3R (q : Option (IntKind × Int × Int × Int)) : AV := match q with | some (k, a, b, c) => .sc (.int k (if c < (if b < a then b else a) then c else (if b < a then b else a))) | none => .u
theorem LSpec.m3 (e : someB (min3E n ops i t) = true := by kernel_rfl) : LSpec P S n ops i .pure t h (m3R (min3E n ops i t)) h := by
 generalize hq : min3E n ops i t = q at *
 cases q with
 | none => cases e
 | some q => exact LSpec.min3 hq
def eqR (q : Option Bool) : AV := match q with | some r => .sc (.bool r) | none => .u
theorem LSpec.eq_ (m : Nat) (e : someB (eqE P n ops i t m) = true := by kernel_rfl) : LSpec P S n ops i .pure t h (eqR (eqE P n ops i t m)) h := by
 generalize hq : eqE P n ops i t m = q at *
 cases q with
 | none => cases e
 | some q => exact LSpec.eq' m hq
def bxR (q : Option (List AV)) : AV := match q with | some fs => .ep fs 0 none | none => .u
theorem LSpec.bx (e : someB (boxPE n ops i t) = true := by kernel_rfl) : LSpec P S n ops i .pure t h (bxR (boxPE n ops i t)) h := by
 generalize hq : boxPE n ops i t = q at *
 cases q with
 | none => cases e
 | some q => exact LSpec.boxP hq
def flS (fl : Bool) (u m : Option Int) : Bool := match m with | some _ => true | none => match u with | none => fl | some _ => false
theorem flS_ok (fl : Bool) (u m : Option Int) : (!flS fl u m || m.isSome || (fl && u.isNone)) = true := by
 cases m <;> cases u <;> cases fl <;> rfl
def soT (q : Option (TypeId × List AV × Bool × Option Int × Option Int × Option Int)) : TypeId := match q with | some (e, _) => e | none => 0
def soF (q : Option (TypeId × List AV × Bool × Option Int × Option Int × Option Int)) : Bool := match q with | some (_, _, fl, _, u, m) => flS fl u m | none => false
def soA (q : Option (TypeId × List AV × Bool × Option Int × Option Int × Option Int)) : Option (List AV × Option Int × Option Int × Option Int) := match q with | some (_, rows, _, l, u, m) => some (rows, l, u, m) | none => none
theorem LSpec.so {α : Type} (f : α → AV) {A A' : List α} {l u m : Option Int} (hv : Go.Sh.sliceO A l u m = some A') (e : soA (sliceE G n ops i t) = some (A.map f, l, u, m) := by kernel_rfl) : LSpec P G.S n ops i .pure t h (.sl (soT (sliceE G n ops i t)) (A'.map f) (soF (sliceE G n ops i t))) h := by
 generalize hq : sliceE G n ops i t = q at *
 unfold soA at e
 split at e
 ·injection e with e
  injection e with e1 e2
  injection e2 with e2 e3
  injection e3 with e3 e4
  subst e1; subst e2; subst e3; subst e4
  exact LSpec.sliceO ok.g f A _ _ _ _ _ _ hv (flS_ok _ _ _) hq
 ·cases e
def seR (q : Option (TypeId × IntKind × List Int)) : AV := match q with | some (e, k, xs) => .sl e (xs.map (intA k)) true | none => .u
theorem LSpec.se (e : someB (sliceEpE G n ops i t) = true := by kernel_rfl) : LSpec P G.S n ops i .pure t h (seR (sliceEpE G n ops i t)) h := by
 generalize hq : sliceEpE G n ops i t = q at *
 cases q with
 | none => cases e
 | some q => exact LSpec.sliceEp ok.g hq
def apA (q : Option (Nat × Nat × TypeId × List AV × List AV × Nat)) : Option (List AV × List AV × Nat) := match q with | some (_, _, _, a, b, y) => some (a, b, y) | none => none
def apR (q : Option (Nat × Nat × TypeId × List AV × List AV × Nat)) : AV := match q with | some (o, k, _) => .own o (k + 1) | none => .u
def apH {α : Type} (f : α → AV) (A B : List α) (q : Option (Nat × Nat × TypeId × List AV × List AV × Nat)) (h : List AO) : List AO := match q with | some (o, k, e, _) => h.set o (.row e ((A ++ B).map f) (k + 1) true) | none => h
theorem LSpec.ap {α : Type} (f : α → AV) {A B : List α} {by_ : Nat} (hfit : (A.length + B.length) * by_ ≤ reach) (e : apA (appE G n ops i t h) = some (A.map f, B.map f, by_) := by kernel_rfl) : LSpec P G.S n ops i .loud t h (apR (appE G n ops i t h)) (apH f A B (appE G n ops i t h) h) := by
 generalize hq : appE G n ops i t h = q at *
 unfold apA at e
 split at e
 ·injection e with e
  injection e with e1 e2
  injection e2 with e2 e3
  subst e1; subst e2; subst e3
  exact LSpec.append' ok.g f A B _ _ _ _ hfit hq
 ·cases e
def stA (q : Option (TypeId × TypeId × Nat × Nat × List AV × Nat × Nat × AV)) : Option (List AV × Nat) := match q with | some (_, _, _, _, rows, j, _, _) => some (rows, j) | none => none
def stOk (G : Tab) (q : Option (TypeId × TypeId × Nat × Nat × List AV × Nat × Nat × AV)) (r : AV) : Option (List AV) :=
 match q with
 | some (ty, _, _, _, _, _, off, a) => match (match chunks a with | some new => plainL new | none => false) with | true => storeA G ty (chD r) off none a | false => none
 | none => none
def stH {α : Type} (f : α → AV) (A : List α) (y : α) (q : Option (TypeId × TypeId × Nat × Nat × List AV × Nat × Nat × AV)) (h : List AO) : List AO := match q with | some (_, e, o, k, _, j, _, _) => h.set o (.row e ((A.set j y).map f) k true) | none => h
theorem LSpec.st {α : Type} (f : α → AV) (y : α) {A : List α} {j : Nat} {r : AV} (hr : (A.map f)[j]? = some r) (e : stA (storeEE G n ops i t h) = some (A.map f, j) := by kernel_rfl) (hf : chOk r = true := by kernel_rfl) (hy : chOk (f y) = true := by kernel_rfl) (hs : stOk G (storeEE G n ops i t h) r = some (chD (f y)) := by kernel_rfl) : LSpec P G.S n ops i .loud t h .u (stH f A y (storeEE G n ops i t h) h) := by
 generalize hq : storeEE G n ops i t h = q at *
 unfold stA at e
 split at e
 ·rename_i ty e0 o k rows' j' off a
  injection e with e
  injection e with e1 e2
  subst e1; subst e2
  simp only [stOk] at hs
  split at hs
  ·rename_i hp
   exact LSpec.storeEl' ok.g f A y hq hr (chD_spec hf) hp hs (chD_spec hy)
  ·cases hs
 ·cases e
theorem LSpec.gv (os : List Nat) {kd : Kd} {h' : List AO} {r : AV} (L : LSpec P S n ops i kd (giveT os (settle os h) t) (settle os h) r h') (hos : rowsAt h os = true := by kernel_rfl) : LSpec P S n ops i .loud t h r h' := LSpec.give os hos L
end
section
variable {n : Nat} {ops : Array Oper} {i : Nat} {t : Tmps} {h : List AO}
theorem LSpec.cf {f : FuncId} {avs caps : List AV} {r : AV} (hc : ACalls P G.S f (avs ++ caps) [] r []) (hp : plainL caps = true) (h1 : caps.all oneA = true) (e : callEC plainO n ops i t = some (f, avs, caps) := by kernel_rfl) : LSpec P G.S n ops i .pure t h r h := LSpec.callFP' hc e hp h1
theorem LSpec.cl {f : FuncId} {avs bvs caps caps' : List AV} {r : AV} (hc : ACalls P G.S f (bvs ++ caps') [] r []) (L : LendL h avs bvs) (hcs : caps.mapM (lendC h) = some caps') (h1 : caps'.all oneA = true) (hr : scalA r = true) (e : callEC (lendG G.S h) n ops i t = some (f, avs, caps) := by kernel_rfl) : LSpec P G.S n ops i .read t h r h := LSpec.callF' hc e L hcs h1 hr
end
end Go.Sh
namespace Go.Sh
variable {P : Program} {G : Tab} {F : Fn} {c0 : Ctx} {R : Ending → World → Prop}
def updE (F : Fn) (L : List Nat) (kd : Kd) (ρ : DS → AV) (η : DS → List AO) (s : Option DS) : Option DS :=
 match s with
 | some d => mkD d.p d.k (d.r.i + 1) (kd :: d.r.ks) (keepT L (setT d.r.t (((d.ops F)[d.r.i]?).bind (·.dst)) (ρ d))) (η d)
 | none => none
def hOf (d : DS) : List AO := d.r.h
theorem DX.opF (L : List Nat) {kd : Kd} {ρ : DS → AV} {η : DS → List AO} {s : Option DS} (q : LSpec P G.S F.n ((dd s).ops F) (dd s).r.i kd (dd s).r.t (dd s).r.h (ρ (dd s)) (η (dd s))) (D : DX P G F c0 R (updE F L kd ρ η s)) : DX P G F c0 R s := by
 refine DX.op L q ?_
 cases s with
 | none => exact D
 | some d => exact D
section
variable {s : Option DS}
abbrev dO (F : Fn) (s : Option DS) : Array Oper := (dd s).ops F
abbrev dI (s : Option DS) : Nat := (dd s).r.i
abbrev dT (s : Option DS) : Tmps := (dd s).r.t
abbrev dH (s : Option DS) : List AO := (dd s).r.h
theorem DX.cp (L : List Nat) {f : FuncId} {avs : List AV} {r : AV} (hc : ACalls P G.S f avs [] r []) (D : DX P G F c0 R (updE F L .pure (fun _ => r) hOf s)) (ds : List (TypeId × Bool) := []) (e : callWE plainO ds F.n (dO F s) (dI s) (dT s) f = some avs := by kernel_rfl) : DX P G F c0 R s := DX.opF L (LSpec.cp hc ds e) D
theorem DX.ch (L : List Nat) (ks : List Nat) {f : FuncId} {avs : List AV} {hin hout : List AO} {r : AV} (hc : ACalls P G.S f avs hin r hout) (D : DX P G F c0 R (updE F L .loud (fun d => bkR ks d.r.h hout r) (fun d => bkH ks d.r.h hout r) s)) (ds es : List (TypeId × Bool) := []) (e : callHE2 ks ds es F.n (dO F s) (dI s) (dT s) (dH s) f hout r = some (avs, hin) := by kernel_rfl) : DX P G F c0 R s := DX.opF L (LSpec.ch ks hc ds es e) D
theorem DX.xi [ok : Ok P G] (L : List Nat) {α : Type} (f : α → AV) {xs : List α} {j : Int} {x : α} (hv : ixO xs j = some x) (D : DX P G F c0 R (updE F L .pure (fun _ => .ep (chD (f x)) 0 none) hOf s)) (e : indexE G F.n (dO F s) (dI s) (dT s) = some (xs.map f, j) := by kernel_rfl) (hf : chOk (f x) = true := by kernel_rfl) : DX P G F c0 R s := DX.opF L (LSpec.xi f hv e hf) D
theorem DX.xa [ok : Ok P G] (L : List Nat) {m : Nat} {j : Int} (hj : (decide (0 ≤ j) && decide (j < ((m : Nat) : Int))) = true) (D : DX P G F c0 R (updE F L .pure (fun d => idxR (idxE G F.n (d.ops F) d.r.i d.r.t)) hOf s)) (e : idxMJ (idxE G F.n (dO F s) (dI s) (dT s)) = some (m, j) := by kernel_rfl) : DX P G F c0 R s := DX.opF L (LSpec.xa hj e) D
theorem DX.xv [ok : Ok P G] (L : List Nat) {m : Nat} {j : Int} (hj : (decide (0 ≤ j) && decide (j < ((m : Nat) : Int))) = true) (D : DX P G F c0 R (updE F L .pure (fun d => idxVR (idxVE G F.n (d.ops F) d.r.i d.r.t)) hOf s)) (e : idxVM (idxVE G F.n (dO F s) (dI s) (dT s)) = some (m, j) := by kernel_rfl) : DX P G F c0 R s := DX.opF L (LSpec.xv hj e) D
theorem DX.fd [ok : Ok P G] (L : List Nat) (D : DX P G F c0 R (updE F L .pure (fun d => fdR (fieldE G F.n (d.ops F) d.r.i d.r.t)) hOf s)) (e : someB (fieldE G F.n (dO F s) (dI s) (dT s)) = true := by kernel_rfl) : DX P G F c0 R s := DX.opF L (LSpec.fd e) D
theorem DX.xr [ok : Ok P G] (L : List Nat) {α : Type} (A : List α) (g : α → List AV) (sz : Nat) {j : Int} {r : α} (hr : ixO A j = some r) (D : DX P G F c0 R (updE F L .pure (fun _ => fdR (toV true (g r))) hOf s)) (q : idxAE2 G F.n (dO F s) (dI s) (dT s) = some (A.flatMap g, A.length, j, sz) := by kernel_rfl)
  (hs : (A.all fun x => decide (AV.sz.go (g x) = sz) && (g x).all fun a => decide (0 < a.sz)) = true := by kernel_rfl) (hv : someB (toV true (g r)) = true := by kernel_rfl) : DX P G F c0 R s := DX.opF L (LSpec.xr A g sz hr q hs hv) D
theorem DX.sl_ (L : List Nat) {b : Int} (hb : decide (0 ≤ b) = true) (D : DX P G F c0 R (updE F L .pure (fun d => shlR (binE F.n (d.ops F) d.r.i d.r.t .shl)) hOf s)) (e : binB (binE F.n (dO F s) (dI s) (dT s) .shl) = some b := by kernel_rfl) : DX P G F c0 R s := DX.opF L (LSpec.sl_ hb e) D
theorem DX.sr_ (L : List Nat) {b : Int} (hb : decide (0 ≤ b) = true) (D : DX P G F c0 R (updE F L .pure (fun d => shrR (binE F.n (d.ops F) d.r.i d.r.t .shr)) hOf s)) (e : binB (binE F.n (dO F s) (dI s) (dT s) .shr) = some b := by kernel_rfl) : DX P G F c0 R s := DX.opF L (LSpec.sr_ hb e) D
theorem DX.m3 (L : List Nat) (D : DX P G F c0 R (updE F L .pure (fun d => m3R (min3E F.n (d.ops F) d.r.i d.r.t)) hOf s)) (e : someB (min3E F.n (dO F s) (dI s) (dT s)) = true := by kernel_rfl) : DX P G F c0 R s := DX.opF L (LSpec.m3 e) D
theorem DX.eq_ (L : List Nat) (m : Nat) (D : DX P G F c0 R (updE F L .pure (fun d => eqR (eqE P F.n (d.ops F) d.r.i d.r.t m)) hOf s)) (e : someB (eqE P F.n (dO F s) (dI s) (dT s) m) = true := by kernel_rfl) : DX P G F c0 R s := DX.opF L (LSpec.eq_ m e) D
theorem DX.bx (L : List Nat) (D : DX P G F c0 R (updE F L .pure (fun d => bxR (boxPE F.n (d.ops F) d.r.i d.r.t)) hOf s)) (e : someB (boxPE F.n (dO F s) (dI s) (dT s)) = true := by kernel_rfl) : DX P G F c0 R s := DX.opF L (LSpec.bx e) D
theorem DX.so [ok : Ok P G] (L : List Nat) {α : Type} (f : α → AV) {A A' : List α} {l u m : Option Int} (hv : Go.Sh.sliceO A l u m = some A') (D : DX P G F c0 R (updE F L .pure (fun d => .sl (soT (sliceE G F.n (d.ops F) d.r.i d.r.t)) (A'.map f) (soF (sliceE G F.n (d.ops F) d.r.i d.r.t))) hOf s)) (e : soA (sliceE G F.n (dO F s) (dI s) (dT s)) = some (A.map f, l, u, m) := by kernel_rfl) : DX P G F c0 R s := DX.opF L (LSpec.so f hv e) D
theorem DX.se [ok : Ok P G] (L : List Nat) (D : DX P G F c0 R (updE F L .pure (fun d => seR (sliceEpE G F.n (d.ops F) d.r.i d.r.t)) hOf s)) (e : someB (sliceEpE G F.n (dO F s) (dI s) (dT s)) = true := by kernel_rfl) : DX P G F c0 R s := DX.opF L (LSpec.se e) D
theorem DX.ap [ok : Ok P G] (L : List Nat) {α : Type} (f : α → AV) {A B : List α} {by_ : Nat} (hfit : (A.length + B.length) * by_ ≤ reach) (D : DX P G F c0 R (updE F L .loud (fun d => apR (appE G F.n (d.ops F) d.r.i d.r.t d.r.h)) (fun d => apH f A B (appE G F.n (d.ops F) d.r.i d.r.t d.r.h) d.r.h) s)) (e : apA (appE G F.n (dO F s) (dI s) (dT s) (dH s)) = some (A.map f, B.map f, by_) := by kernel_rfl) : DX P G F c0 R s := DX.opF L (LSpec.ap f hfit e) D
theorem DX.st [ok : Ok P G] (L : List Nat) {α : Type} (f : α → AV) (y : α) {A : List α} {j : Nat} {r : AV} (hr : (A.map f)[j]? = some r) (D : DX P G F c0 R (updE F L .loud (fun _ => .u) (fun d => stH f A y (storeEE G F.n (d.ops F) d.r.i d.r.t d.r.h) d.r.h) s)) (e : stA (storeEE G F.n (dO F s) (dI s) (dT s) (dH s)) = some (A.map f, j) := by kernel_rfl) (hf : chOk r = true := by kernel_rfl) (hy : chOk (f y) = true := by kernel_rfl) (hs : stOk G (storeEE G F.n (dO F s) (dI s) (dT s) (dH s)) r = some (chD (f y)) := by kernel_rfl) : DX P G F c0 R s := DX.opF L (LSpec.st f y hr e hf hy hs) D
theorem DX.cf (L : List Nat) {f : FuncId} {avs caps : List AV} {r : AV} (hc : ACalls P G.S f (avs ++ caps) [] r []) (hp : plainL caps = true) (h1 : caps.all oneA = true) (D : DX P G F c0 R (updE F L .pure (fun _ => r) hOf s)) (e : callEC plainO F.n (dO F s) (dI s) (dT s) = some (f, avs, caps) := by kernel_rfl) : DX P G F c0 R s := DX.opF L (LSpec.cf hc hp h1 e) D
theorem DX.cl_ (L : List Nat) {f : FuncId} {avs bvs caps caps' : List AV} {r : AV} (hc : ACalls P G.S f (bvs ++ caps') [] r []) (LL : LendL (dH s) avs bvs) (hcs : caps.mapM (lendC (dH s)) = some caps') (h1 : caps'.all oneA = true) (hr : scalA r = true) (D : DX P G F c0 R (updE F L .read (fun _ => r) hOf s)) (e : callEC (lendG G.S (dH s)) F.n (dO F s) (dI s) (dT s) = some (f, avs, caps) := by kernel_rfl) : DX P G F c0 R s := DX.opF L (LSpec.cl hc LL hcs h1 hr e) D
end
theorem bndO {α β : Type} {x : Option α} {f : α → Option β} {r : β} {Q : Prop} (h : x.bind f = some r) (k : ∀ v, x = some v → f v = some r → Q) : Q :=
 let ⟨v, h1, h2⟩ := Option.bind_eq_some_iff.1 h
 k v h1 h2
theorem fitH {α : Type} {n by_ : Nat} {r : Option α} {x : α} {Q : Prop} (h : fitO n by_ r = some x) (k : n * by_ ≤ reach → r = some x → Q) : Q := k (fitO_some h).1 (fitO_some h).2
theorem reqH {α : Type} {c : Bool} {r : Option α} {x : α} {Q : Prop} (h : reqO c r = some x) (k : c = true → r = some x → Q) : Q := k (reqO_some h).1 (reqO_some h).2
theorem letH {α β : Type} {x : α} {f : α → β} {res : β} {Q : Prop} (h : letT x f = res) (k : ∀ v, x = v → f v = res → Q) : Q := k x rfl h
end Go.Sh
namespace Go.Sh
open Go.Conc
variable {P : Program} {G : Tab} {F : Fn} {c0 : Ctx} {R : Ending → World → Prop} {S : Sizes}
structure Ch (α : Type) where
 cap : Nat
 buf : List α
 deriving DecidableEq, Inhabited
def chanK (b : Nat) : Value := .chan (some b)
theorem new_obj {C : Ctx} {h : List AO} (H : HRel S C h) (ob : Obj) (ao : AO) (hr : ∀ C' : Ctx, Mono C.flat C'.flat → C'.w.heap[C.w.heap.size]? = some ob → ORel S C' ao (.blk C.w.heap.size)) :
  Step C ⟨C.w.alloc ob, C.m ++ [.blk C.w.heap.size], C.X⟩ ∧ HRel S ⟨C.w.alloc ob, C.m ++ [.blk C.w.heap.size], C.X⟩ (h ++ [ao]) := by
 obtain ⟨st, hh⟩ := H.push (C' := ⟨C.w.alloc ob, C.m ++ [.blk C.w.heap.size], C.X⟩) (s := .blk C.w.heap.size) (ob := ao) (alloc_size _ _) rfl rfl rfl (fun b hb => alloc_old _ _ b hb) rfl rfl (fun b hb => by injection hb with hb; omega)
 exact ⟨st, hh (hr _ st.mono.flat (alloc_heap _ _))⟩
theorem new_ref {C : Ctx} {h : List AO} (H : HRel S C h) (ob : Obj) (K : Nat → Value) (hK : (K C.w.heap.size).oneCell' = true) : VRel S ⟨C.w.alloc ob, C.m ++ [.blk C.w.heap.size], C.X⟩ (.ref K h.length) (K C.w.heap.size) :=
 ⟨C.w.heap.size, by rw [← H.len]; simp, rfl, hK⟩
section
variable {n : Nat} {ops : Array Oper} {i : Nat} {t : Tmps} {h : List AO}
def mkcE (P : Program) (n : Nat) (ops : Array Oper) (i : Nat) (t : Tmps) : Option (Int × Nat) :=
 match opAt n ops i t with
 | some (.makeChan ty x) =>
  match ev t x, P.underlying ty with
  | .sc (.int _ j), some (.chan _ e) => match P.info? e with | some inf => some (j, inf.bytes) | none => none
  | _, _ => none
 | _ => none
theorem LSpec.mc {j : Int} {by_ : Nat} (hj : (decide (0 ≤ j) && decide (j ≤ 9223372036854775807) && decide (j * by_ ≤ 281474976710544)) = true) (e : mkcE P n ops i t = some (j, by_)) : LSpec P S n ops i .loud t h (.ref chanK h.length) (h ++ [.vals (.chan j.toNat) []]) := by
 unfold mkcE at e
 split at e
 ·rename_i ty x hop
  split at e
  ·rename_i k j' d el hx hu
   split at e
   ·rename_i inf hi
    injection e with e
    injection e with e1 e2
    subst e1; subst e2
    simp only [Bool.and_eq_true, decide_eq_true_eq] at hj
    obtain ⟨m, rfl⟩ := Int.eq_ofNat_of_zero_le hj.1.1
    refine (opAt_spec hop).spec (fun hh => absurd rfl hh) fun o ρv C h2 hop' H hh hρ => ?_
    have hh := hh (by simp)
    subst hh
    have hv := hρ x (by simp [Op.operands])
    rw [hx] at hv
    have hv := sc_inv hv
    obtain ⟨st, HH⟩ := new_obj H (.chan m #[] false 0 0 false) (.vals (.chan m) []) (fun C' _ hb => ⟨_, [], hb, .nil, ⟨0, 0, rfl⟩⟩)
    refine ⟨_, st, by simpa using HH, .inl ⟨.chan (some C.w.heap.size), ?_, new_ref H _ chanK rfl⟩⟩
    have hrun := run_makeChan (P := P) (w := C.w) hu hi k m hj.1.2 (by rw [Int.mul_comm]; exact hj.2)
    obtain ⟨dst, op, oty, pos, after, guard⟩ := o
    dsimp only at hop'
    subst hop'
    simp only [execOp, hv]
    simp [hrun]
   ·cases e
  ·cases e
 ·cases e
def lncE (P : Program) (n : Nat) (ops : Array Oper) (i : Nat) (t : Tmps) (h : List AO) : Option ((Nat → Value) × List AV) :=
 match opAt n ops i t with
 | some (.call { callee := .builtin .len, args := xs, argTypes := ts }) =>
  match xs.toList, ts.toList with
  | [x], [ty] =>
   match P.underlying ty, ev t x with
   | some (.chan _ _), .ref K o => match h[o]? with | some (.vals (.chan _) as) => some (K, as) | _ => none
   | _, _ => none
  | _, _ => none
 | _ => none
theorem ref_obj {C : Ctx} {h : List AO} (H : HRel S C h) {K : Nat → Value} {o : Nat} {k : VK} {as : List AV} {v : Value} (hv : VRel S C (.ref K o) v) (ho : h[o]? = some (.vals k as)) : ∃ b ob vs, C.m[o]? = some (.blk b) ∧ v = K b ∧ C.w.heap[b]? = some ob ∧ VRels S C.flat as vs ∧ k.rel vs ob := by
 obtain ⟨b, h1, h2⟩ := ref_inv hv
 obtain ⟨ob, vs, h3, h4, h5⟩ := H.rel o _ _ ho h1
 exact ⟨b, ob, vs, h1, h2, h3, h4, h5⟩
theorem LSpec.lc {as : List AV} (e : lncE P n ops i t h = some (chanK, as)) : LSpec P S n ops i .read t h (.sc (.int .i64 as.length)) h := by
 unfold lncE at e
 split at e
 ·rename_i xs ts hop
  split at e
  ·rename_i x ty hxs hts
   split at e
   ·rename_i d el K o hu hx
    split at e
    ·rename_i cap as' ho
     injection e with e
     injection e with e1 e2
     subst e1; subst e2
     refine (opAt_spec hop).spec (fun _ => rfl) fun q ρv C h2 hop' H hh hρ => ?_
     have hh := hh (by simp)
     subst hh
     have hxs' : xs = #[x] := by rw [← Array.toArray_toList (xs := xs), hxs]
     have hts' : ts = #[ty] := by rw [← Array.toArray_toList (xs := ts), hts]
     subst hxs'; subst hts'
     have hv := hρ x (by simp [Op.operands, Call.operands])
     rw [hx] at hv
     obtain ⟨b, ob, vs, g1, g2, g3, g4, s, r, g5⟩ := ref_obj H hv ho
     subst g5
     have hl := g4.length
     refine OpOK.same (v := .int .i64 as'.length) (by simpa using H) ?_ (sc_mk rfl)
     have hrun := run_len_chan (P := P) (w := C.w) (c := b) ty q.type hu g3
     obtain ⟨dst, op, oty, pos, after, guard⟩ := q
     dsimp only at hop' hrun
     subst hop'
     have g2' : ρv x = .chan (some b) := g2
     simp [execOp, resolve, invoke, builtin, g2', hrun, goInt, hl]
    ·cases e
   ·cases e
  ·cases e
 ·cases e
end
structure SelAt (P : Program) (G : Tab) (F : Fn) (c : Cfg) (p : List Nat) (k : List PI) (id : Nat) (ops : Array Oper) (o : Oper) (sc : SelectCase) : Prop where
 k : c.k = .code p :: k
 code : codeAt F.B p = .region id ops false
 op0 : ops[0]? = some o
 op : o.op = .select #[sc] false
 guard : o.guard = none
 dst : ∀ d, o.dst = some d → d < F.n
theorem reach_mid {p : List Nat} {k : List PI} {id : Nat} {ops : Array Oper} (hc : codeAt F.B p = .region id ops false) {t : Tmps} {h : List AO} {i : Nat} {ks : List Kd} (D : DW P G.S F.n ops (Fin P G F c0 R ops false k) i ks t h) {C : Ctx} {a : Act} (st : StepW c0 C) (A : ARel G.S C t h F.n a) :
  Reach P F.f (.inRegion ops ((List.range ops.size).drop i) :: k.map (PI.dec F.B)) a C.w R := by
 have hw := D.lex (fun e a' w' => e = .normal ∧ Reach P F.f (k.map (PI.dec F.B)) a' w' R) C a A (fun ks t h C' a' st' hf A' => ⟨rfl, hf.2 C' a' (st.trans st') A'⟩)
 intro cs
 obtain ⟨e, a', w', ⟨rfl, hr⟩, harr⟩ := wp_ops _ a C.w hw (baseFr F.f) (k.map (PI.dec F.B)) cs
 obtain ⟨e, w'', fr, h1, h2, h3⟩ := hr cs
 exact ⟨e, w'', fr, h1, Comes.of_steps harr h2, h3⟩
theorem reach_first {p : List Nat} {k : List PI} {id : Nat} {ops : Array Oper} (hc : codeAt F.B p = .region id ops false) (h0 : 0 < ops.size) {a a' : Act} {w w' : World}
  (hs : ∀ cs, step P (lone ((baseFr F.f).at a (.inRegion ops (0 :: (List.range ops.size).drop 1) :: k.map (PI.dec F.B))) cs w) = .next (lone ((baseFr F.f).at a' (.inRegion ops ((List.range ops.size).drop 1) :: k.map (PI.dec F.B))) cs w'))
  (r : Reach P F.f (.inRegion ops ((List.range ops.size).drop 1) :: k.map (PI.dec F.B)) a' w' R) : Reach P F.f (((.code p :: k) : List PI).map (PI.dec F.B)) a w R := by
 simp only [List.map_cons, PI.dec, hc]
 refine Reach.one (Reach.one r (fun cs => ?_)) (fun cs => step_region)
 have : List.range ops.size = 0 :: (List.range ops.size).drop 1 := by
  obtain ⟨m, hm⟩ : ∃ m, ops.size = m + 1 := ⟨ops.size - 1, by omega⟩
  rw [hm, List.range_succ_eq_map]
  rfl
 rw [this]
 exact hs cs
structure SelQ where
 p : List Nat
 k : List PI
 id : Nat
 ops : Array Oper
 o : Oper
 sc : SelectCase
 K : Nat → Value
 ob : Nat
 cap : Nat
 as : List AV
def selQ (F : Fn) (s : Option Cfg) : Option SelQ :=
 match s with
 | some c =>
  match c.k with
  | .code p :: k =>
   match codeAt F.B p with
   | .region id ops false =>
    match ops[0]? with
    | some o =>
     match o.op, o.guard with
     | .select cs false, none =>
      match cs.toList with
      | [sc] =>
       match ev c.t sc.chan with
       | .ref K ob => match c.h[ob]? with | some (.vals (.chan cap) as) => if dstOk F.n o.dst then some ⟨p, k, id, ops, o, sc, K, ob, cap, as⟩ else none | _ => none
       | _ => none
      | _ => none
     | _, _ => none
    | none => none
   | _ => none
  | _ => none
 | none => none
theorem selQ_inv {s : Option Cfg} {q : SelQ} (e : selQ F s = some q) : ∃ t h, s = some ⟨.code q.p :: q.k, t, h⟩ ∧ codeAt F.B q.p = .region q.id q.ops false ∧ q.ops[0]? = some q.o ∧ q.o.op = .select #[q.sc] false ∧ q.o.guard = none ∧ ev t q.sc.chan = .ref q.K q.ob ∧ h[q.ob]? = some (.vals (.chan q.cap) q.as) ∧ dstOk F.n q.o.dst = true := by
 unfold selQ at e
 split at e
 ·rename_i c
  split at e
  ·rename_i p k hk
   split at e
   ·rename_i id ops hc
    split at e
    ·rename_i o ho
     split at e
     ·rename_i cs hop hg
      split at e
      ·rename_i sc hcs
       split at e
       ·rename_i K ob hch
        split at e
        ·rename_i cap as hob
         split at e
         ·rename_i hd
          injection e with e
          subst e
          have : cs = #[sc] := by rw [← Array.toArray_toList (xs := cs), hcs]
          subst this
          exact ⟨c.t, c.h, by rw [← hk], hc, ho, hop, hg, hch, hob, hd⟩
         ·cases e
        ·cases e
       ·cases e
      ·cases e
     ·cases e
    ·cases e
   ·cases e
  ·cases e
 ·cases e
theorem cv_ntup (v : Value) (ws : List AV) (h : cv v = .tup ws) : False := by
 unfold cv at h
 split at h <;> first | cases h | skip
 split at h <;> cases h
def zeroA (P : Program) (ds : List (TypeId × Bool)) (e : TypeId) : AV := match (P.info? e).bind (·.zero) with | some v => (wkA (cv v) ds).1 | none => .u
theorem zeroA_run {e : TypeId} {ds : List (TypeId × Bool)} {C : Ctx} (hu : zeroA P ds e ≠ .u) : ∃ v, (∀ w, (zeroValue e).run P w = .ok v w) ∧ VRel S C (zeroA P ds e) v := by
 unfold zeroA at *
 split at hu
 ·rename_i v hv
  obtain ⟨i, h1, h2⟩ := Option.bind_eq_some_iff.1 hv
  refine ⟨v, fun w => by simp [zeroValue, typeInfo, h1, h2], ?_⟩
  exact VRel.of1 (VRel1.wk (VRel.to1 (fun ws h => by rw [h] at hu; simp [wkA] at hu; exact cv_ntup v ws h) (cv_rel S C v)))
 ·exact absurd rfl hu
theorem chan_upd {C : Ctx} {h : List AO} (H : HRel S C h) {o b : Nat} {cap : Nat} {as as' : List AV} {ob : Obj} (hm : C.m[o]? = some (.blk b)) (hb : b < C.w.heap.size) {vs : List Value} {s r : Nat} (hv : VRels S C.flat as' vs) :
  Step C ⟨C.w.setChan b cap vs.toArray false s r false, C.m, C.X⟩ ∧ HRel S ⟨C.w.setChan b cap vs.toArray false s r false, C.m, C.X⟩ (h.set o (.vals (.chan cap) as')) := by
 have hset : C.m.set o (.blk b) = C.m := by
  obtain ⟨hl, he⟩ := List.getElem?_eq_some_iff.1 hm
  rw [← he]; exact List.set_getElem_self hl
 obtain ⟨st, hh⟩ := H.upd (C' := ⟨C.w.setChan b cap vs.toArray false s r false, C.m, C.X⟩) (o := o) (s := .blk b) (s' := .blk b) (ob := .vals (.chan cap) as') hm (Slot.le_refl _) (by simp [World.setChan]) rfl rfl rfl
  (fun b' _ hne => by simp only [World.setChan]; rw [Array.getElem?_setIfInBounds_ne (fun e => hne (by rw [e]; rfl))]) hset.symm rfl (fun b' h' => .inl h')
 exact ⟨st, hh ⟨_, vs, heap_setChan _ _ _ _ _ _ _ _ hb, hv.mono st.mono.flat, ⟨s, r, rfl⟩⟩⟩
def rcvE {α : Type} (F : Fn) (f : α → AV) (buf : List α) (z : α) (s : Option Cfg) : Option DS :=
 match s with
 | some c =>
  match selQ F (some c) with
  | some q => mkD q.p q.k 1 [.loud] (setT c.t q.o.dst (.tup [.sc (.int .i64 (bif buf.isEmpty then (-1) else 0)), .sc (.bool (!buf.isEmpty)), f (buf.headD z)])) (c.h.set q.ob (.vals (.chan q.cap) (buf.tail.map f)))
  | none => none
 | none => none
def rcvQ (P : Program) (F : Fn) (ds : List (TypeId × Bool)) (s : Option Cfg) : Option ((Nat → Value) × List AV × AV) :=
 match selQ F s with
 | some q => match q.sc.send with | none => some (q.K, q.as, zeroA P ds q.sc.elem) | some _ => none
 | none => none
theorem VRels.head {C : Ctx} {a : AV} {as : List AV} {vs : List Value} (h : VRels S C (a :: as) vs) : ∃ v r, vs = v :: r ∧ VRel1 S C a v ∧ VRels S C as r := by
 cases h with
 | cons h1 h2 => exact ⟨_, _, rfl, h1, h2⟩
theorem AX.rcv {α : Type} (f : α → AV) (buf : List α) (z : α) (hp : ∀ x, plainA (f x) = true) {s : Option Cfg} (D : DX P G F c0 R (rcvE F f buf z s)) (ds : List (TypeId × Bool) := []) (e : rcvQ P F ds s = some (chanK, buf.map f, f z) := by kernel_rfl) : AX P G F c0 R s := by
 unfold rcvQ at e
 split at e
 ·rename_i q hq
  split at e
  ·rename_i hsend
   obtain ⟨t, h, rfl, hc, ho, hop, hg, hch, hob, hdst⟩ := selQ_inv hq
   simp only [Option.some.injEq, Prod.mk.injEq] at e
   obtain ⟨eK, eas, ez⟩ := e
   simp only [rcvE, hq, mkD_eq] at D
   obtain ⟨d, hd, D⟩ := D
   injection hd with hd
   subst hd
   refine .of ?_
   intro C a st A
   have hdraw : drawOf (codeAt F.B q.p) = false := by rw [hc]; rfl
   have hops : (DS.ops F ⟨q.p, q.k, ⟨1, [.loud], setT t q.o.dst (.tup [.sc (.int .i64 (bif buf.isEmpty then (-1) else 0)), .sc (.bool (!buf.isEmpty)), f (buf.headD z)]), h.set q.ob (.vals (.chan q.cap) (buf.tail.map f))⟩⟩) = q.ops := by simp [DS.ops, opsOf, hc]
   rw [FinD, hdraw, hops] at D
   have hz0 : zeroA P ds q.sc.elem ≠ .u := by rw [ez]; intro e; have := hp z; rw [e] at this; cases this
   obtain ⟨zv, hzr, hzv⟩ := zeroA_run (S := G.S) (C := C) hz0
   rw [ez] at hzv
   have hchv := A.ev q.sc.chan
   rw [hch] at hchv
   obtain ⟨b, ob, vs, g1, g2, g3, g4, sn, rn, g5⟩ := ref_obj A.heap hchv hob
   rw [eK] at g2
   rw [eas] at g4
   subst g5
   have hb : b < C.w.heap.size := (Array.getElem?_eq_some_iff.1 g3).1
   have hexec : (execOp a.eval q.o).run P C.w = .ok (.comm #[rcase b zv] false .select) C.w := by
    have hcv : a.eval q.sc.chan = .chan (some b) := g2
    generalize hqo : q.o = qo at *
    obtain ⟨dst, op, oty, pos, after, guard⟩ := qo
    dsimp only at hop
    subst hop
    simp [execOp, hcv, hsend, hzr, rcase]
   have hsz : 0 < q.ops.size := by
    have := (Array.getElem?_eq_some_iff.1 ho).1
    omega
   have hcomm : ∀ cs, stepG P true (Go.Conc.G ((baseFr F.f).at a (.inRegion q.ops (0 :: (List.range q.ops.size).drop 1) :: q.k.map (PI.dec F.B))) cs) C.w = .comm (Go.Conc.G ((baseFr F.f).at a (.inRegion q.ops (0 :: (List.range q.ops.size).drop 1) :: q.k.map (PI.dec F.B))) cs) #[rcase b zv] false .select C.w (listed P (baseFr F.f).fn a q.o C.w) :=
    fun cs => stepG_comm ho (by simp [Region.wanted, hg]) (by simp [baseFr]) hexec
   cases buf with
   | nil =>
    cases g4
    refine reach_first hc hsz (a' := a.put ((q.ops[0]?).bind (·.dst)) (.tuple #[goInt (-1), .bool false, zv])) (w' := C.w) (fun cs => ?_) ?_
    ·have := step_lone_select_default (hcomm cs) g3
     rw [Frame.finish_at] at this
     exact this
    ·refine reach_mid hc D st ?_
     have A2 : ARelF G.S C (tset (lk t) q.o.dst (.tup [.sc (.int .i64 (-1)), .sc (.bool false), f z])) h F.n (a.put q.o.dst (.tuple #[goInt (-1), .bool false, zv])) :=
      A.toF.put (Step.refl C) A.heap (fun d hd => by rw [hd] at hdst; simpa [dstOk] using hdst) ⟨_, rfl, .cons ⟨rfl, rfl⟩ (.cons ⟨rfl, rfl⟩ (.cons (VRel.to1 (fun ws e => by have := hp z; rw [e] at this; cases this) hzv) .nil))⟩
     rw [ho]
     refine ⟨A2.defers, A2.size, fun i => ?_, ?_⟩
     ·have := A2.tmps i
      rw [lk_setT']
      exact this
     ·have : h.set q.ob (.vals (.chan q.cap) (([] : List α).tail.map f)) = h := by
       obtain ⟨hl, he⟩ := List.getElem?_eq_some_iff.1 hob
       rw [eas] at he
       exact he ▸ List.set_getElem_self hl
      rw [this]
      exact A2.heap
   | cons x r =>
    obtain ⟨v, vr, rfl, hv1, hvr⟩ := VRels.head g4
    obtain ⟨stp, HH⟩ := chan_upd (cap := q.cap) (s := sn) (r := rn + 1) (ob := default) A.heap (as := q.as) g1 hb hvr
    refine reach_first hc hsz (a' := a.put ((q.ops[0]?).bind (·.dst)) (.tuple #[goInt 0, .bool true, v])) (w' := C.w.setChan b q.cap vr.toArray false sn (rn + 1) false) (fun cs => ?_) ?_
    ·have := step_lone_select_recv_buf (hcomm cs) g3 (by simp)
     rw [Frame.finish_at, show ((v :: vr).toArray.extract 1 (v :: vr).toArray.size) = vr.toArray by simp, show ((v :: vr).toArray.getD 0 undef) = v by simp] at this
     exact this
    ·refine reach_mid (C := ⟨C.w.setChan b q.cap vr.toArray false sn (rn + 1) false, C.m, C.X⟩) hc D (st.trans stp) ?_
     have hv2 : VRel1 G.S ⟨C.w.setChan b q.cap vr.toArray false sn (rn + 1) false, C.m, C.X⟩ (f x) v := (VRel1.plain (C := C.flat) (D := C) ⟨rfl, fun b hb => (C.flat_ok b).1 hb, ⟨fun _ h => h, Nat.le_refl _⟩⟩ (hp x) hv1).mono stp.mono
     have A2 : ARelF G.S ⟨C.w.setChan b q.cap vr.toArray false sn (rn + 1) false, C.m, C.X⟩ (tset (lk t) q.o.dst (.tup [.sc (.int .i64 0), .sc (.bool true), f x])) (h.set q.ob (.vals (.chan q.cap) (r.map f))) F.n (a.put q.o.dst (.tuple #[goInt 0, .bool true, v])) :=
      A.toF.put stp HH (fun d hd => by rw [hd] at hdst; simpa [dstOk] using hdst) ⟨_, rfl, .cons ⟨rfl, rfl⟩ (.cons ⟨rfl, rfl⟩ (.cons hv2 .nil))⟩
     rw [ho]
     refine ⟨A2.defers, A2.size, fun i => ?_, A2.heap⟩
     have := A2.tmps i
     rw [lk_setT']
     exact this
  ·cases e
 ·cases e
def sndE {α : Type} (F : Fn) (f : α → AV) (buf : List α) (cap : Nat) (x : α) (s : Option Cfg) : Option DS :=
 match s with
 | some c =>
  match selQ F (some c) with
  | some q => mkD q.p q.k 1 [.loud] (setT c.t q.o.dst (.tup [.sc (.int .i64 (bif decide (buf.length < cap) then 0 else (-1))), .sc (.bool false)])) (c.h.set q.ob (.vals (.chan q.cap) ((bif decide (buf.length < cap) then buf ++ [x] else buf).map f)))
  | none => none
 | none => none
def sndQ (P : Program) (F : Fn) (s : Option Cfg) : Option ((Nat → Value) × Nat × List AV × AV) :=
 match s with
 | some c => match selQ F (some c) with | some q => (match q.sc.send, (P.info? q.sc.elem).bind (·.zero) with | some y, some _ => some (q.K, q.cap, q.as, ev c.t y) | _, _ => none) | none => none
 | none => none
theorem VRels.snoc {C : Ctx} {as : List AV} {vs : List Value} {a : AV} {v : Value} (h : VRels S C as vs) (h1 : VRel1 S C a v) : VRels S C (as ++ [a]) (vs ++ [v]) := VRels.append h (.cons h1 .nil)
theorem AX.snd {α : Type} (f : α → AV) (buf : List α) (cap : Nat) (x : α) {s : Option Cfg} (D : DX P G F c0 R (sndE F f buf cap x s)) (hp : plainA (f x) = true := by kernel_rfl) (e : sndQ P F s = some (chanK, cap, buf.map f, f x) := by kernel_rfl) : AX P G F c0 R s := by
 unfold sndQ at e
 split at e
 ·rename_i c
  split at e
  ·rename_i q hq
   split at e
   ·rename_i y z0 hsend hi
    obtain ⟨t, h, hce, hc, ho, hop, hg, hch, hob, hdst⟩ := selQ_inv hq
    injection hce with hce
    subst hce
    simp only [Option.some.injEq, Prod.mk.injEq] at e
    obtain ⟨eK, ecap, eas, ev_⟩ := e
    subst ecap
    simp only [sndE, hq, mkD_eq] at D
    obtain ⟨d, hd, D⟩ := D
    injection hd with hd
    subst hd
    refine .of ?_
    intro C a st A
    have hdraw : drawOf (codeAt F.B q.p) = false := by rw [hc]; rfl
    have hops : ∀ r, (DS.ops F ⟨q.p, q.k, r⟩) = q.ops := by intro r; simp [DS.ops, opsOf, hc]
    rw [FinD, hdraw, hops] at D
    obtain ⟨zv, hzr⟩ : ∃ v, ∀ w, (zeroValue q.sc.elem).run P w = .ok v w := by
     obtain ⟨i, h1, h2⟩ := Option.bind_eq_some_iff.1 hi
     exact ⟨z0, fun w => by simp [zeroValue, typeInfo, h1, h2]⟩
    have hchv := A.ev q.sc.chan
    rw [hch] at hchv
    have hxv := A.ev y
    rw [show ev t y = f x from ev_] at hxv
    obtain ⟨b, ob, vs, g1, g2, g3, g4, sn, rn, g5⟩ := ref_obj A.heap hchv hob
    rw [eK] at g2
    rw [eas] at g4
    subst g5
    have hb : b < C.w.heap.size := (Array.getElem?_eq_some_iff.1 g3).1
    have hlen : vs.length = buf.length := by rw [← g4.length, List.length_map]
    have hexec : (execOp a.eval q.o).run P C.w = .ok (.comm #[scase b (a.eval y) zv] false .select) C.w := by
     have hcv : a.eval q.sc.chan = .chan (some b) := g2
     generalize hqo : q.o = qo at *
     obtain ⟨dst, op, oty, pos, after, guard⟩ := qo
     dsimp only at hop
     subst hop
     simp [execOp, hcv, hsend, hzr, scase]
    have hsz : 0 < q.ops.size := by
     have := (Array.getElem?_eq_some_iff.1 ho).1
     omega
    have hcomm : ∀ cs, stepG P true (Go.Conc.G ((baseFr F.f).at a (.inRegion q.ops (0 :: (List.range q.ops.size).drop 1) :: q.k.map (PI.dec F.B))) cs) C.w = .comm (Go.Conc.G ((baseFr F.f).at a (.inRegion q.ops (0 :: (List.range q.ops.size).drop 1) :: q.k.map (PI.dec F.B))) cs) #[scase b (a.eval y) zv] false .select C.w (listed P (baseFr F.f).fn a q.o C.w) :=
     fun cs => stepG_comm ho (by simp [Region.wanted, hg]) (by simp [baseFr]) hexec
    by_cases hlt : buf.length < q.cap
    ·have hdec : decide (buf.length < q.cap) = true := decide_eq_true hlt
     rw [hdec] at D
     have hxf : VRel1 G.S C.flat (f x) (a.eval y) := VRel1.plain (C := C) (D := C.flat) ⟨rfl, fun b hb => (C.flat_ok b).2 hb, ⟨fun _ h => h, Nat.le_refl _⟩⟩ hp (VRel.to1 (fun ws e => by rw [e] at hp; cases hp) hxv)
     obtain ⟨stp, HH⟩ := chan_upd (cap := q.cap) (s := sn + 1) (r := rn) (ob := default) A.heap (as := q.as) g1 hb (VRels.snoc g4 hxf)
     refine reach_first hc hsz (a' := a.put ((q.ops[0]?).bind (·.dst)) (.tuple #[goInt 0, .bool false])) (w' := C.w.setChan b q.cap (vs ++ [a.eval y]).toArray false (sn + 1) rn false) (fun cs => ?_) ?_
     ·have := step_lone_select_send_room (hcomm cs) g3 (by simpa [hlen] using hlt)
      rw [Frame.finish_at, show (vs.toArray.push (a.eval y)) = (vs ++ [a.eval y]).toArray by simp] at this
      exact this
     ·refine reach_mid (C := ⟨C.w.setChan b q.cap (vs ++ [a.eval y]).toArray false (sn + 1) rn false, C.m, C.X⟩) hc D (st.trans stp) ?_
      have A2 : ARelF G.S ⟨C.w.setChan b q.cap (vs ++ [a.eval y]).toArray false (sn + 1) rn false, C.m, C.X⟩ (tset (lk t) q.o.dst (.tup [.sc (.int .i64 0), .sc (.bool false)])) (h.set q.ob (.vals (.chan q.cap) (buf.map f ++ [f x]))) F.n (a.put q.o.dst (.tuple #[goInt 0, .bool false])) :=
       A.toF.put stp HH (fun d hd => by rw [hd] at hdst; simpa [dstOk] using hdst) ⟨_, rfl, .cons ⟨rfl, rfl⟩ (.cons ⟨rfl, rfl⟩ .nil)⟩
      rw [ho]
      refine ⟨A2.defers, A2.size, fun i => ?_, by simpa using A2.heap⟩
      have := A2.tmps i
      rw [lk_setT']
      exact this
    ·have hdec : decide (buf.length < q.cap) = false := decide_eq_false hlt
     rw [hdec] at D
     refine reach_first hc hsz (a' := a.put ((q.ops[0]?).bind (·.dst)) (.tuple #[goInt (-1), .bool false])) (w' := C.w) (fun cs => ?_) ?_
     ·have := step_lone_select_send_full (hcomm cs) g3 (by simpa [hlen] using hlt)
      rw [Frame.finish_at] at this
      exact this
     ·refine reach_mid hc D st ?_
      have A2 : ARelF G.S C (tset (lk t) q.o.dst (.tup [.sc (.int .i64 (-1)), .sc (.bool false)])) h F.n (a.put q.o.dst (.tuple #[goInt (-1), .bool false])) :=
       A.toF.put (Step.refl C) A.heap (fun d hd => by rw [hd] at hdst; simpa [dstOk] using hdst) ⟨_, rfl, .cons ⟨rfl, rfl⟩ (.cons ⟨rfl, rfl⟩ .nil)⟩
      rw [ho]
      refine ⟨A2.defers, A2.size, fun i => ?_, ?_⟩
      ·have := A2.tmps i
       rw [lk_setT']
       exact this
      ·have : h.set q.ob (.vals (.chan q.cap) ((bif false then buf ++ [x] else buf).map f)) = h := by
        obtain ⟨hl, he⟩ := List.getElem?_eq_some_iff.1 hob
        rw [eas] at he
        exact he ▸ List.set_getElem_self hl
       rw [this]
       exact A2.heap
   ·cases e
  ·cases e
 ·cases e
section
variable {s : Option DS}
theorem DX.mc (L : List Nat) {j : Int} {by_ : Nat} (hj : (decide (0 ≤ j) && decide (j ≤ 9223372036854775807) && decide (j * by_ ≤ 281474976710544)) = true) (D : DX P G F c0 R (updE F L .loud (fun d => .ref chanK d.r.h.length) (fun d => d.r.h ++ [.vals (.chan j.toNat) []]) s)) (e : mkcE P F.n (dO F s) (dI s) (dT s) = some (j, by_) := by kernel_rfl) : DX P G F c0 R s := DX.opF L (LSpec.mc hj e) D
def lcA (q : Option ((Nat → Value) × List AV)) : List AV := match q with | some q => q.2 | none => []
theorem DX.lc (L : List Nat) (D : DX P G F c0 R (updE F L .read (fun d => .sc (.int .i64 (lcA (lncE P F.n (d.ops F) d.r.i d.r.t d.r.h)).length)) hOf s)) (e : (lncE P F.n (dO F s) (dI s) (dT s) (dH s)).map (·.1) = some chanK := by kernel_rfl) : DX P G F c0 R s := by
 refine DX.opF L (ρ := fun d => .sc (.int .i64 (lcA (lncE P F.n (d.ops F) d.r.i d.r.t d.r.h)).length)) (η := hOf) (LSpec.lc ?_) D
 obtain ⟨q, h1, h2⟩ := Option.map_eq_some_iff.1 e
 obtain ⟨K, as⟩ := q
 dsimp only at h2
 subst h2
 rw [show lncE P F.n ((dd s).ops F) (dd s).r.i (dd s).r.t (dd s).r.h = some (chanK, as) from h1]
 rfl
end
end Go.Sh
namespace Go.Sh
variable {P : Program} {G : Tab} {F : Fn} {c0 : Ctx} {R : Ending → World → Prop} {S : Sizes}
section
variable {n : Nat} {ops : Array Oper} {i : Nat} {t : Tmps} {h : List AO}
structure RO where
 o : Nat
 k : Nat
 e : TypeId
 rows : List AV
 l : Option Int
 u : Option Int
 m : Option Int
end
end Go.Sh
namespace Go.Sh
variable {P : Program} {G : Tab} {F : Fn} {c0 : Ctx} {R : Ending → World → Prop} {S : Sizes}
section
variable {n : Nat} {ops : Array Oper} {i : Nat} {t : Tmps} {h : List AO}
end
end Go.Sh
namespace Go.Sh
variable {P : Program} {G : Tab} {F : Fn} {c0 : Ctx} {R : Ending → World → Prop} {S : Sizes}
theorem ints_relL {S : Sizes} {C : Ctx} {k : IntKind} : ∀ (xs : List Int) (cs : List Value), RelL S C (xs.map (intA k)) cs ↔ cs = xs.map (Value.int k)
 | [], cs => Iff.rfl
 | x :: xs, cs => by
  constructor
  ·rintro ⟨c1, c2, rfl, ⟨rfl, _⟩, h⟩
   rw [(ints_relL xs c2).1 h]
   rfl
  ·rintro rfl
   exact ⟨[.int k x], xs.map (Value.int k), rfl, ⟨rfl, rfl⟩, (ints_relL xs _).2 rfl⟩
section
variable {n : Nat} {ops : Array Oper} {i : Nat} {t : Tmps} {h : List AO}
def baE (G : Tab) (n : Nat) (ops : Array Oper) (i : Nat) (t : Tmps) : Option (IntKind × Nat × List AV) :=
 match opAt n ops i t with
 | some (.build ty parts) =>
  match G.get ty with
  | some inf =>
   match inf.kind, inf.zero with
   | .arr _ e, [.arr k m zs] =>
    match G.get e with
    | some ei => (fillA (fun j => some (j * ei.size, ei.size)) (zs.map (intA k)) (parts.toList.map fun p => (p.1, ev t p.2))).map fun fs => (k, m, fs)
    | none => none
   | _, _ => none
  | none => none
 | _ => none
theorem LSpec.ba [ok : Ok P G] (k : IntKind) (m : Nat) (xs : List Int) (e : baE G n ops i t = some (k, m, xs.map (intA k)) := by kernel_rfl) (hm : xs.length = m := by rfl) : LSpec P G.S n ops i .pure t h (.arr k m xs) h := by
 unfold baE at e
 split at e
 ·rename_i ty parts hop
  split at e
  ·rename_i inf hi
   split at e
   ·rename_i n0 e0 k0 m0 zs hkind hzero
    split at e
    ·rename_i ei hei
     obtain ⟨fs, h1, h2⟩ := Option.map_eq_some_iff.1 e
     injection h2 with h2 h3
     injection h3 with h3 h4
     subst h2; subst h3; subst h4
     refine (opAt_spec hop).spec (fun _ => rfl) fun op ρv C h2 hoq H hh hρ => ?_
     have hf := ok.g ty inf hi
     obtain ⟨inf', z, k1, k2, k3, k4, k4', k5⟩ := hf.info
     obtain ⟨d, hd, hk⟩ := hf.desc
     rw [hkind] at hk
     simp only [TK.fits] at hk
     subst hk
     obtain ⟨dst, op, oty, pos, after, guard⟩ := op
     simp only at hoq
     subst hoq
     have hz := k5 G.S C
     rw [hzero] at hz
     have hz' : RelL G.S C (zs.map (intA k0)) z.cells.toList := by
      obtain ⟨c1, c2, q1, ⟨_, rfl⟩, q3⟩ := hz
      have q3 : c2 = [] := q3
      subst q3
      rw [List.append_nil] at q1
      exact (ints_relL zs _).2 q1
     obtain ⟨cells', q1, q2⟩ := fill_sound (place := fun j => some (j * ei.size, ei.size)) (fun j q hq => hq) _ (parts.map fun (i, x) => (i, ρv x)).toList _ _ z.cells (by simp) (fun j p q hp hq => by
      rw [List.getElem?_map] at hp
      rw [Array.getElem?_toList, Array.getElem?_map, ← Array.getElem?_toList] at hq
      obtain ⟨a, ha, rfl⟩ := Option.map_eq_some_iff.1 hp
      rw [ha] at hq
      simp only [Option.map_some, Option.some.injEq] at hq
      subst hq
      exact ⟨rfl, hρ a.2 (by simp only [Op.operands]; exact List.mem_toArray.2 (List.mem_map.2 ⟨a, List.mem_of_getElem? ha, rfl⟩))⟩) hz' h1
     refine OpOK.same H ?_ (r := .arr k0 m0 xs) (v := .agg cells') ⟨hm, by have q3 := (ints_relL xs _).1 q2; rw [← q3]⟩
     simp only [execOp, Instr.build, zeroValue, typeInfo, Sem.run_bind, run_program, Result.andThen_ok, k1, k4, Sem.run_pure, run_underlying hd, run_size (ok.g e0 ei hei), q1]
    ·cases e
   ·cases e
  ·cases e
 ·cases e
end
theorem DX.ba [ok : Ok P G] {s : Option DS} (L : List Nat) (k : IntKind) (m : Nat) (xs : List Int) (D : DX P G F c0 R (updE F L .pure (fun _ => .arr k m xs) hOf s)) (e : baE G F.n (dO F s) (dI s) (dT s) = some (k, m, xs.map (intA k)) := by kernel_rfl) (hm : xs.length = m := by rfl) : DX P G F c0 R s := DX.opF L (LSpec.ba k m xs e hm) D
end Go.Sh
namespace Go.Sh
variable {P : Program} {G : Tab} {F : Fn} {c0 : Ctx} {R : Ending → World → Prop} {S : Sizes}
theorem relL_set {S : Sizes} {C : Ctx} : ∀ (fs : List AV) (cs : List Value) (j : Nat) (a : AV), RelL S C fs cs → fs[j]? = some a → ∃ c, RelV S C a c ∧ ∀ C', Step C C' → ∀ a', RelV S C' a' c → RelL S C' (fs.set j a') cs
 | [], cs, j, a, h, hj => by simp at hj
 | f :: fs, cs, 0, a, h, hj => by
  obtain ⟨c1, c2, h1, h2, h3⟩ := h
  have : f = a := by simpa using hj
  subst this
  exact ⟨c1, h2, fun C' st a' ha => ⟨c1, c2, h1, ha, RelL.step st _ _ h3⟩⟩
 | f :: fs, cs, j + 1, a, h, hj => by
  obtain ⟨c1, c2, h1, h2, h3⟩ := h
  obtain ⟨c, q1, q2⟩ := relL_set fs c2 j a h3 (by simpa using hj)
  exact ⟨c, q1, fun C' st a' ha => ⟨c1, c2, h1, RelV.step st _ _ h2, q2 C' st a' ha⟩⟩
theorem AR.adoptBox {k : List PI} {t : Tmps} {h : List AO} {eb e0 : TypeId} {fs : List AV} (o j : Nat) (e : TypeId) (ho : h[o]? = some (.box eb fs)) (hj : fs[j]? = some (.sl e0 [] true)) (A : AR P G F c0 R k t (h.set o (.box eb (fs.set j (.own h.length 1000000))) ++ [.row e [] 1000000 true])) : AR P G F c0 R k t h := by
 intro C a st AA
 have H := AA.heap
 have hol : o < C.m.length := by rw [H.len]; exact (List.getElem?_eq_some_iff.1 ho).1
 obtain ⟨s, hs⟩ : ∃ s, C.m[o]? = some s := ⟨_, List.getElem?_eq_getElem hol⟩
 have hor := H.rel o _ _ ho hs
 cases s with
 | blk b =>
  obtain ⟨cs, p1, p2⟩ := hor
  obtain ⟨c, q1, q2⟩ := relL_set fs cs.toList j _ p2 hj
  obtain ⟨ad, cp, s1, s2, s3, s4, s5, s6⟩ := (q1 : RelV G.S C (.sl e0 [] true) c)
  subst s1
  have hrel : RelV G.S C (.sl e [] true) [.slice ad ([] : List AV).length cp] := ⟨ad, cp, rfl, s2, s3, s4, by simp [reach], .inl rfl⟩
  obtain ⟨st', hh⟩ := HRel.push (S := G.S) (C' := ⟨C.w, C.m ++ [.row (.slice ad ([] : List AV).length cp) 1000000 false], C.X⟩) (s := .row (.slice ad ([] : List AV).length cp) 1000000 false) (ob := .row e [] 1000000 true) H (Nat.le_refl _) rfl rfl rfl (fun _ _ => rfl) rfl rfl (fun b hb => by simp [Slot.has] at hb)
  have H' := hh ⟨rfl, by simp [reach], fun _ => RelV.step st' _ _ hrel, by simp, fun _ _ _ => rfl⟩
  have hnew : (C.m ++ [Slot.row (.slice ad ([] : List AV).length cp) 1000000 false])[h.length]? = some (.row (.slice ad ([] : List AV).length cp) 1000000 false) := by
   rw [← H.len]; simp
  refine A ⟨C.w, C.m ++ [.row (.slice ad ([] : List AV).length cp) 1000000 false], C.X⟩ a (st.trans st') ⟨AA.defers, AA.size, fun i => (AA.tmps i).step st', ?_⟩
  refine { H' with len := by simpa using H'.len, rel := fun o' ob s ho' hs' => ?_ }
  by_cases he : o' = o
  ·subst he
   have hlt : o' < h.length := (List.getElem?_eq_some_iff.1 ho).1
   rw [List.getElem?_append_left (by simpa using hlt), List.getElem?_set_self hlt] at ho'
   injection ho' with ho'
   subst ho'
   have hs2 : (C.m ++ [Slot.row (.slice ad ([] : List AV).length cp) 1000000 false])[o']? = some s := hs'
   rw [List.getElem?_append_left hol, hs] at hs2
   injection hs2 with hs2
   subst hs2
   exact ⟨cs, p1, q2 _ st' _ ⟨.slice ad ([] : List AV).length cp, .slice ad ([] : List AV).length cp, 1000000, false, rfl, rfl, hnew, Nat.le_refl _, fun _ => rfl⟩⟩
  ·refine H'.rel o' ob s ?_ hs'
   by_cases hlt : o' < h.length
   ·rw [List.getElem?_append_left (by simpa using hlt), List.getElem?_set_ne (Ne.symm he)] at ho'
    rw [List.getElem?_append_left hlt]
    exact ho'
   ·rw [List.getElem?_append_right (by simpa using Nat.le_of_not_lt hlt)] at ho'
    rw [List.getElem?_append_right (Nat.le_of_not_lt hlt)]
    simpa using ho'
 | _ => exact absurd hor (by simp [ORel])
def adbE (o j e : Nat) (s : Option Cfg) : Option Cfg :=
 match s with
 | some c =>
  match c.h[o]? with
  | some (.box eb fs) =>
   match fs[j]? with
   | some (.sl _ [] true) => mkC c.k c.t (c.h.set o (.box eb (fs.set j (.own c.h.length 1000000))) ++ [.row e [] 1000000 true])
   | _ => none
  | _ => none
 | none => none
theorem AX.adb (o j e : Nat) {s : Option Cfg} (A : AX P G F c0 R (adbE o j e s)) : AX P G F c0 R s := by
 obtain ⟨c', h1, h2⟩ := A
 cases s with
 | none => cases h1
 | some c =>
  simp only [adbE, mkC_eq] at h1
  split at h1
  ·rename_i eb fs ho
   split at h1
   ·rename_i e0 hj
    injection h1 with h1
    subst h1
    exact ⟨c, rfl, AR.adoptBox o j e ho hj h2⟩
   ·cases h1
  ·cases h1
end Go.Sh
namespace Go.Sh
variable {P : Program} {G : Tab} {F : Fn} {c0 : Ctx} {R : Ending → World → Prop} {S : Sizes}
section
variable {n : Nat} {ops : Array Oper} {i : Nat} {t : Tmps} {h : List AO}
structure MS where
 e : TypeId
 k : IntKind
 bytes : Nat
 l : Int
 c : Int
end
end Go.Sh
namespace Go.Sh
variable {P : Program} {G : Tab} {S : Sizes} {n : Nat} {ops : Array Oper} {anc : Nat → Nat → Prop}
abbrev opDst (ops : Array Oper) (i : Nat) : Option Nat := (ops[i]?).bind (·.dst)
inductive Pend (P : Program) (S : Sizes) (n : Nat) (ops : Array Oper) (anc : Nat → Nat → Prop) : (Nat → Prop) → (Nat → AV) → List (Nat × AV) → (Nat → AV) → Prop
 | nil {D : Nat → Prop} {tb : Nat → AV} : Pend P S n ops anc D tb [] tb
 | cons {D : Nat → Prop} {tb t : Nat → AV} {i : Nat} {r : AV} {ps : List (Nat × AV)} (T : Tmps) (h : List AO) : i < ops.size → ¬ D i → (∀ j, anc i j → D j) → LSpec P S n ops i .pure T h r h →
   (∀ o, ops[i]? = some o → ∀ x ∈ o.looksAt ops, tb x = lk T x) → Pend P S n ops anc (fun j => D j ∨ j = i) (tset tb (opDst ops i) r) ps t → Pend P S n ops anc D tb ((i, r) :: ps) t
structure Apart (ops : Array Oper) (i k : Nat) : Prop where
 ik : ∀ x ok, ops[k]? = some ok → opDst ops i = some x → x ∉ ok.looksAt ops
 ki : ∀ x oi, ops[i]? = some oi → opDst ops k = some x → x ∉ oi.looksAt ops
 dd : ∀ x, opDst ops i = some x → opDst ops k ≠ some x
theorem conflict_symm (oi ok : Oper) : conflict ops .pure .pure oi ok = conflict ops .pure .pure ok oi := by
 have h : (oi.dst.isSome && oi.dst == ok.dst) = (ok.dst.isSome && ok.dst == oi.dst) := by
  cases oi.dst <;> cases ok.dst <;> simp [BEq.comm, eq_comm]
 unfold conflict
 rw [h]
 simp only [Bool.or_assoc]
 generalize optMem oi.dst (ok.looksAt ops) = A
 generalize optMem ok.dst (oi.looksAt ops) = B
 cases A <;> cases B <;> rfl
theorem apart_of (F : Free ops (fun _ => .pure) anc) {i k : Nat} (hi : i < ops.size) (hk : k < ops.size) (h1 : ¬ anc i k) (h2 : ¬ anc k i) (hne : i ≠ k) : Apart ops i k := by
 have e1 : ops[i]? = some ops[i] := Array.getElem?_eq_getElem hi
 have e2 : ops[k]? = some ops[k] := Array.getElem?_eq_getElem hk
 have key : conflict ops .pure .pure ops[i] ops[k] = true ∨ conflict ops .pure .pure ops[k] ops[i] = true → False := by
  rcases Nat.lt_or_ge i k with hl | hl
  ·rw [conflict_symm ops[k] ops[i], or_self]
   exact fun hc => h2 (F.conf i k _ _ hl e1 e2 hc)
  ·rw [conflict_symm ops[k] ops[i], or_self, conflict_symm]
   exact fun hc => h1 (F.conf k i _ _ (by omega) e2 e1 hc)
 refine ⟨fun x ok hok hd hx => ?_, fun x oi hoi hd hx => ?_, fun x hd hd' => ?_⟩
 ·rw [e2] at hok
  injection hok with hok
  subst hok
  simp only [opDst, e1, Option.bind_some] at hd
  exact key (.inl (conflict_dst hd hx))
 ·rw [e1] at hoi
  injection hoi with hoi
  subst hoi
  simp only [opDst, e2, Option.bind_some] at hd
  exact key (.inr (conflict_dst hd hx))
 ·simp only [opDst, e1, Option.bind_some] at hd
  simp only [opDst, e2, Option.bind_some] at hd'
  exact key (.inl (conflict_same hd hd'))
theorem tset_comm {t : Nat → AV} {d e : Option Nat} {a b : AV} (h : ∀ x, d = some x → e ≠ some x) : tset (tset t d a) e b = tset (tset t e b) d a := by
 funext x
 unfold tset
 by_cases h1 : d = some x <;> by_cases h2 : e = some x
 ·exact absurd h2 (h x h1)
 ·simp [h1, h2]
 ·simp [h1, h2]
 ·simp [h1, h2]
theorem tset_at {t : Nat → AV} {d : Option Nat} {a : AV} {x : Nat} (h : d ≠ some x) : tset t d a x = t x := by unfold tset; rw [if_neg h]
theorem Pend.congr {D D' : Nat → Prop} {tb t : Nat → AV} {ps : List (Nat × AV)} (H : Pend P S n ops anc D tb ps t) (he : ∀ j, D j ↔ D' j) : Pend P S n ops anc D' tb ps t := by
 have : D = D' := funext fun j => propext (he j)
 rw [← this]
 exact H
theorem Pend.notin {D : Nat → Prop} {tb t : Nat → AV} {ps : List (Nat × AV)} (H : Pend P S n ops anc D tb ps t) : ∀ q ∈ ps, ¬ D q.1 ∧ q.1 < ops.size := by
 induction H with
 | nil => simp
 | cons T h hlt hD hanc L look _ ih =>
  intro q hq
  rcases List.mem_cons.1 hq with rfl | hq
  ·exact ⟨hD, hlt⟩
  ·exact ⟨fun hd => (ih q hq).1 (.inl hd), (ih q hq).2⟩
theorem Pend.anc_in {D : Nat → Prop} {tb t : Nat → AV} {ps : List (Nat × AV)} (H : Pend P S n ops anc D tb ps t) : ∀ q ∈ ps, ∀ j, anc q.1 j → D j ∨ ∃ q' ∈ ps, q'.1 = j := by
 induction H with
 | nil => simp
 | cons T h hlt hD hanc L look _ ih =>
  intro q hq j hj
  rcases List.mem_cons.1 hq with rfl | hq
  ·exact .inl (hanc j hj)
  ·rcases ih q hq j hj with (h1 | h1) | ⟨q', h1, h2⟩
   ·exact .inl h1
   ·exact .inr ⟨_, List.mem_cons_self, h1.symm⟩
   ·exact .inr ⟨q', List.mem_cons_of_mem _ h1, h2⟩
theorem Pend.before {ps2 : List (Nat × AV)} {i : Nat} {r : AV} {t : Nat → AV} : ∀ (ps1 : List (Nat × AV)) (D : Nat → Prop) (tb : Nat → AV), Pend P S n ops anc D tb (ps1 ++ (i, r) :: ps2) t → ∀ q ∈ ps1, q.1 ≠ i ∧ ¬ anc q.1 i
 | [], _, _, _, q, hq => by simp at hq
 | (k, rk) :: ps1, D, tb, H, q, hq => by
  cases H with
  | cons T h hlt hD hanc L look H' =>
   rcases List.mem_cons.1 hq with rfl | hq
   ·have := (H'.notin (i, r) (by simp)).1
    exact ⟨fun e => this (.inr e.symm), fun ha => this (.inl (hanc i ha))⟩
   ·exact Pend.before ps1 _ _ H' q hq
theorem Pend.front {i : Nat} {D : Nat → Prop} {tb t : Nat → AV} {ps : List (Nat × AV)} (H : Pend P S n ops anc D tb ps t) (r : AV) (hap : ∀ q ∈ ps, Apart ops i q.1 ∧ q.1 ≠ i) :
  (∀ oi, ops[i]? = some oi → ∀ x ∈ oi.looksAt ops, tb x = t x) ∧ Pend P S n ops anc (fun j => D j ∨ j = i) (tset tb (opDst ops i) r) ps (tset t (opDst ops i) r) := by
 induction H with
 | nil => exact ⟨fun _ _ _ _ => rfl, .nil⟩
 | @cons D tb t k rk ps T h hlt hD hanc L look _ ih =>
  obtain ⟨hA, hne⟩ := hap (k, rk) List.mem_cons_self
  obtain ⟨h1, h2⟩ := ih (fun q hq => hap q (List.mem_cons_of_mem _ hq))
  refine ⟨fun oi hoi x hx => ?_, ?_⟩
  ·rw [← h1 oi hoi x hx, tset_at fun e => hA.ki x oi hoi e hx]
  ·refine .cons T h hlt ?_ (fun j hj => .inl (hanc j hj)) L (fun o ho x hx => ?_) ?_
   ·rintro (h3 | h3)
    ·exact hD h3
    ·exact hne h3
   ·rw [tset_at fun e => hA.ik x o ho e hx]
    exact look o ho x hx
   ·rw [tset_comm hA.dd]
    exact h2.congr fun j => ⟨fun h => by rcases h with (h | h) | h <;> simp [h], fun h => by rcases h with (h | h) | h <;> simp [h]⟩
theorem Pend.pull {i : Nat} {r : AV} {ps2 : List (Nat × AV)} {t : Nat → AV} : ∀ (ps1 : List (Nat × AV)) (D : Nat → Prop) (tb : Nat → AV), Pend P S n ops anc D tb (ps1 ++ (i, r) :: ps2) t → (∀ q ∈ ps1, Apart ops i q.1 ∧ q.1 ≠ i) →
  ∃ T h, LSpec P S n ops i .pure T h r h ∧ (∀ o, ops[i]? = some o → ∀ x ∈ o.looksAt ops, tb x = lk T x) ∧ Pend P S n ops anc (fun j => D j ∨ j = i) (tset tb (opDst ops i) r) (ps1 ++ ps2) t
 | [], D, tb, H, _ => by
  cases H with
  | cons T h hlt hD hanc L look H' => exact ⟨T, h, L, look, H'⟩
 | (k, rk) :: ps1, D, tb, H, hap => by
  cases H with
  | cons T h hlt hD hanc L look H' =>
   obtain ⟨hA, hne⟩ := hap (k, rk) List.mem_cons_self
   obtain ⟨T', h', L', look', h2⟩ := Pend.pull ps1 _ _ H' (fun q hq => hap q (List.mem_cons_of_mem _ hq))
   refine ⟨T', h', L', fun o ho x hx => ?_, ?_⟩
   ·rw [← look' o ho x hx, tset_at fun e => hA.ki x o ho e hx]
   ·refine .cons T h hlt ?_ (fun j hj => .inl (hanc j hj)) L (fun o ho x hx => ?_) ?_
    ·rintro (h3 | h3)
     ·exact hD h3
     ·exact hne h3
    ·rw [tset_at fun e => hA.ik x o ho e hx]
     exact look o ho x hx
    ·rw [tset_comm hA.dd]
     exact h2.congr fun j => ⟨fun h => by rcases h with (h | h) | h <;> simp [h], fun h => by rcases h with (h | h) | h <;> simp [h]⟩
theorem Pend.snoc {i : Nat} {r : AV} {T : Tmps} {h : List AO} {D : Nat → Prop} {tb t : Nat → AV} {ps : List (Nat × AV)} (H : Pend P S n ops anc D tb ps t) (hlt : i < ops.size) (hD : ¬ D i) (hps : ∀ q ∈ ps, q.1 ≠ i)
  (hanc : ∀ j, anc i j → D j ∨ ∃ q ∈ ps, q.1 = j) (L : LSpec P S n ops i .pure T h r h) (look : ∀ o, ops[i]? = some o → ∀ x ∈ o.looksAt ops, t x = lk T x) : Pend P S n ops anc D tb (ps ++ [(i, r)]) (tset t (opDst ops i) r) := by
 induction H with
 | nil => exact .cons T h hlt hD (fun j hj => by rcases hanc j hj with h1 | ⟨q, h1, _⟩; exact h1; simp at h1) L look .nil
 | @cons D tb t k rk ps T' h' hlt' hD' hanc' L' look' _ ih =>
  refine .cons T' h' hlt' hD' hanc' L' look' (ih ?_ (fun q hq => hps q (List.mem_cons_of_mem _ hq)) (fun j hj => ?_) look)
  ·rintro (h1 | h1)
   ·exact hD h1
   ·exact hps (k, rk) List.mem_cons_self h1.symm
  ·rcases hanc j hj with h1 | ⟨q, h1, h2⟩
   ·exact .inl (.inl h1)
   ·rcases List.mem_cons.1 h1 with rfl | h1
    ·exact .inl (.inr h2.symm)
    ·exact .inr ⟨q, h1, h2⟩
structure Hn where
 i : Nat
 yes : List Nat
 no : List Nat
 kd : Kd
 T : Tmps
 h : List AO
 r : AV
 h' : List AO
abbrev Hints := List Hn
def hintAt : Hints → Nat → List Nat → Option Hn
 | [], _, _ => none
 | x :: hs, i, d => match x.i == i && (x.yes.all (fun j => d.contains j) && x.no.all (fun j => !d.contains j)) with | true => some x | false => hintAt hs i d
def HintsOk (P : Program) (S : Sizes) (n : Nat) (ops : Array Oper) (hs : Hints) : Prop := ∀ x ∈ hs, LSpec P S n ops x.i x.kd x.T x.h x.r x.h'
theorem HintsOk.nil : HintsOk P S n ops [] := fun x h => by cases h
theorem HintsOk.cons {j : Nat} {yes no : List Nat} {kd : Kd} {T : Tmps} {h h0 h' : List AO} {r r0 : AV} {hs : Hints} (h1 : LSpec P S n ops j kd T h r0 h0) (h2 : HintsOk P S n ops hs) (er : r0 = r := by kernel_rfl) (eh : h0 = h' := by kernel_rfl) : HintsOk P S n ops (⟨j, yes, no, kd, T, h, r, h'⟩ :: hs) := by
 subst er; subst eh
 intro x hx
 rcases List.mem_cons.1 hx with rfl | hx
 ·exact h1
 ·exact h2 x hx
theorem hintAt_mem : ∀ {hs : Hints} {i : Nat} {d : List Nat} {x : Hn}, hintAt hs i d = some x → x ∈ hs ∧ x.i = i
 | [], _, _, _, h => by cases h
 | y :: hs, i, d, x, h => by
  rw [hintAt] at h
  split at h
  ·rename_i e
   injection h with h
   subst h
   rw [Bool.and_eq_true] at e
   exact ⟨List.mem_cons_self, by simpa using e.1⟩
  ·obtain ⟨h1, h2⟩ := hintAt_mem h
   exact ⟨List.mem_cons_of_mem _ h1, h2⟩
abbrev Eqn := (List AV × List AO) × (List AV × List AO)
def looksL (ops : Array Oper) (i : Nat) (t : Tmps) : List AV := match ops[i]? with | some o => (o.looksAt ops).map fun x => lk t x | none => []
def eqnP (ops : Array Oper) (i : Nat) (t : Tmps) (x : Hn) : Eqn := ((looksL ops i t, []), (looksL ops i x.T, []))
def eqnH (ops : Array Oper) (i : Nat) (t : Tmps) (h : List AO) (x : Hn) : Eqn := ((looksL ops i t, h), (looksL ops i x.T, x.h))
def isPure : Kd → Bool
 | .pure => true
 | _ => false
def isLoud : Kd → Bool
 | .loud => true
 | _ => false
def eagerP (G : Tab) (n : Nat) (ops : Array Oper) (hs : Hints) : Nat → List Nat → Tmps → List AO → List Nat × Tmps × List Eqn
 | 0, d, t, _ => (d, t, [])
 | m + 1, d, t, h =>
  match (readyL ops d).findSome? (fun i => match hintAt hs i d with
   | some x => match isPure x.kd with | true => some (i, x.r, [eqnP ops i t x]) | false => none
   | none => match stepA G n ops i t h with | some (.pure, r, _) => some (i, r, []) | _ => none) with
  | some (i, r, qs) => match eagerP G n ops hs m (i :: d) (setT t (opDst ops i) r) h with | (d', t', qs') => (d', t', qs ++ qs')
  | none => (d, t, [])
def stepH (G : Tab) (n : Nat) (ops : Array Oper) (hs : Hints) (d : List Nat) (i : Nat) (t : Tmps) (h : List AO) : Option (AV × List AO × List Eqn) :=
 match hintAt hs i d with
 | some x => some (x.r, (match isLoud x.kd with | true => x.h' | false => h), [eqnH ops i t h x])
 | none => match stepA G n ops i t h with | some (_, r, h') => some (r, h', []) | none => none
def joinP {α β : Type} (l : List (List α × List β)) : List α × List β := ((l.map (·.1)).flatten, (l.map (·.2)).flatten)
def nodeP (G : Tab) (n : Nat) (ops : Array Oper) (hs : Hints) (live : List Nat) : Nat → List Nat → Tmps → List AO → Option (List (Tmps × List AO) × List Eqn)
 | 0, d, t, h => if (readyL ops d).isEmpty then some ([(keepT live t, h)], []) else none
 | m + 1, d, t, h =>
  if (readyL ops d).isEmpty then some ([(keepT live t, h)], []) else
  ((readyL ops d).mapM fun i => match stepH G n ops hs d i t h with
   | some (r, h', q0) => forceH h' fun h' => match eagerP G n ops hs ops.size (i :: d) (setT t (opDst ops i) r) h' with | (d', t', qs) => forceT t' fun t' => (nodeP G n ops hs live m d' t' h').map fun (p : List (Tmps × List AO) × List Eqn) => (p.1, q0 ++ (qs ++ p.2))
   | none => none).map joinP
theorem readyL_mem {d : List Nat} {i : Nat} : i ∈ readyL ops d ↔ i ∉ d ∧ ∃ o, ops[i]? = some o ∧ ∀ e ∈ o.after, Region.binds .any e = true → e.on ∈ d := by
 unfold readyL
 rw [List.mem_filter, List.mem_range, Bool.and_eq_true, Bool.not_eq_true']
 constructor
 ·rintro ⟨hlt, h1, h2⟩
  refine ⟨by simpa using h1, ops[i], Array.getElem?_eq_getElem hlt, fun e he hb => ?_⟩
  rw [Array.getElem?_eq_getElem hlt] at h2
  simp only [List.all_eq_true, Bool.or_eq_true, Bool.not_eq_true'] at h2
  rcases h2 e (by simpa using he) with h3 | h3
  ·rw [hb] at h3; cases h3
  ·simpa using h3
 ·rintro ⟨h1, o, h2, h3⟩
  refine ⟨(Array.getElem?_eq_some_iff.1 h2).1, by simpa using h1, ?_⟩
  rw [h2]
  simp only [List.all_eq_true, Bool.or_eq_true, Bool.not_eq_true']
  intro e he
  cases hb : Region.binds .any e with
  | false => exact .inl rfl
  | true => exact .inr (by simpa using h3 e (by simpa using he) hb)
structure Done (D : Nat → Prop) (ps : List (Nat × AV)) (d : List Nat) : Prop where
 iff : ∀ j, j ∈ d ↔ (D j ∨ ∃ q ∈ ps, q.1 = j)
theorem done_cl {D : Nat → Prop} {tb t : Nat → AV} {ps : List (Nat × AV)} {d : List Nat} (H : Pend P S n ops anc D tb ps t) (hd : Done D ps d) (hcl : ∀ j k, D j → anc j k → D k) : ∀ j ∈ d, ∀ k, anc j k → k ∈ d := by
 intro j hj k hk
 rw [hd.iff]
 rcases (hd.iff j).1 hj with h1 | ⟨q, h1, rfl⟩
 ·exact .inl (hcl j k h1 hk)
 ·exact H.anc_in q h1 k hk
theorem ready_anc (F : Free ops (fun _ => .pure) anc) {d : List Nat} (hcl : ∀ j ∈ d, ∀ k, anc j k → k ∈ d) {i : Nat} (hi : i ∈ readyL ops d) : ∀ j, anc i j → j ∈ d := by
 obtain ⟨_, o, h2, h3⟩ := readyL_mem.1 hi
 intro j hj
 obtain ⟨e, he, hb, h4⟩ := F.cl i o j h2 hj
 rcases h4 with rfl | h4
 ·exact h3 e he hb
 ·exact hcl _ (h3 e he hb) j h4
theorem looks_eq {t T : Tmps} {i : Nat} (h : looksL ops i t = looksL ops i T) : ∀ o, ops[i]? = some o → ∀ x ∈ o.looksAt ops, lk t x = lk T x := by
 intro o ho x hx
 unfold looksL at h
 rw [ho] at h
 exact List.map_inj_left.1 h x hx
theorem stepH_sound (hG : G.ok P) {hs : Hints} (hh : HintsOk P G.S n ops hs) {d : List Nat} {i : Nat} {t : Tmps} {h h' : List AO} {r : AV} {qs : List Eqn} (e : stepH G n ops hs d i t h = some (r, h', qs)) (hq : ∀ q ∈ qs, q.1 = q.2) :
  ∃ kd T h0 h1, LSpec P G.S n ops i kd T h0 r h1 ∧ (∀ o, ops[i]? = some o → ∀ x ∈ o.looksAt ops, lk t x = lk T x) ∧ (kd ≠ .pure → h = h0) ∧ (if kd = .loud then h1 else h) = h' := by
 unfold stepH at e
 split at e
 ·rename_i x hx
  obtain ⟨h1, h2⟩ := hintAt_mem hx
  injection e with e
  injection e with e1 e
  injection e with e2 e3
  subst e1; subst e2; subst e3; subst h2
  have := hq _ (List.mem_singleton_self _)
  injection this with q1 q2
  refine ⟨x.kd, x.T, x.h, x.h', hh x h1, looks_eq q1, fun _ => q2, ?_⟩
  by_cases hk : x.kd = .loud
  ·rw [if_pos hk, hk]; rfl
  ·rw [if_neg hk]
   have : isLoud x.kd = false := by cases hx : x.kd <;> simp_all [isLoud]
   rw [this]
 ·split at e
  ·rename_i kd r0 h0 hs'
   injection e with e
   injection e with e1 e
   injection e with e2 e3
   subst e1; subst e2
   have L := stepA_sound (P := P) hG hs'
   refine ⟨kd, t, h, h0, L, fun _ _ _ _ => rfl, fun _ => rfl, ?_⟩
   by_cases hk : kd = .loud
   ·rw [if_pos hk]
   ·rw [if_neg hk, L.keep hk]
  ·cases e
theorem eager_spec (hG : G.ok P) (F : Free ops (fun _ => .pure) anc) {hs : Hints} (hh : HintsOk P G.S n ops hs) {D : Nat → Prop} {tb : Nat → AV} {h : List AO} (hcl : ∀ j k, D j → anc j k → D k) : ∀ (m : Nat) (d : List Nat) (t : Tmps) (ps : List (Nat × AV)), Pend P G.S n ops anc D tb ps (lk t) → Done D ps d → (∀ q ∈ (eagerP G n ops hs m d t h).2.2, q.1 = q.2) →
  ∃ ps', Pend P G.S n ops anc D tb ps' (lk (eagerP G n ops hs m d t h).2.1) ∧ Done D ps' (eagerP G n ops hs m d t h).1
 | 0, d, t, ps, H, hd, _ => ⟨ps, H, hd⟩
 | m + 1, d, t, ps, H, hd, hq => by
  rw [eagerP] at hq ⊢
  split
  ·rename_i i r qs hf
   rw [hf] at hq
   obtain ⟨j, hj, h1⟩ := List.exists_of_findSome?_eq_some hf
   have key : ∀ (T : Tmps) (h0 : List AO), j = i → LSpec P G.S n ops i .pure T h0 r h0 → (∀ o, ops[i]? = some o → ∀ x ∈ o.looksAt ops, lk t x = lk T x) → (∀ q ∈ (eagerP G n ops hs m (i :: d) (setT t (opDst ops i) r) h).2.2, q.1 = q.2) →
     ∃ ps', Pend P G.S n ops anc D tb ps' (lk (eagerP G n ops hs m (i :: d) (setT t (opDst ops i) r) h).2.1) ∧ Done D ps' (eagerP G n ops hs m (i :: d) (setT t (opDst ops i) r) h).1 := by
    intro T h0 hji L look hq2
    subst hji
    have hnd : j ∉ d := (readyL_mem.1 hj).1
    have hnD : ¬ D j := fun h => hnd ((hd.iff j).2 (.inl h))
    have hnp : ∀ q ∈ ps, q.1 ≠ j := fun q hq e => hnd ((hd.iff j).2 (.inr ⟨q, hq, e⟩))
    have ha := ready_anc F (done_cl H hd hcl) hj
    have H2 := H.snoc L.lt hnD hnp (fun k hk => (hd.iff k).1 (ha k hk)) L look
    have e3 : tset (lk t) (opDst ops j) r = lk (setT t (opDst ops j) r) := funext fun x => (lk_setT' _ _ _ _).symm
    rw [e3] at H2
    refine eager_spec hG F hh hcl m _ _ _ H2 ⟨fun k => ?_⟩ hq2
    rw [List.mem_cons, hd.iff]
    constructor
    ·rintro (rfl | h1 | ⟨q, h1, h2⟩)
     ·exact .inr ⟨(_, r), List.mem_append_right _ (List.mem_singleton_self _), rfl⟩
     ·exact .inl h1
     ·exact .inr ⟨q, by simp [h1], h2⟩
    ·rintro (h1 | ⟨q, h1, h2⟩)
     ·exact .inr (.inl h1)
     ·rcases List.mem_append.1 h1 with h1 | h1
      ·exact .inr (.inr ⟨q, h1, h2⟩)
      ·have : q = (j, r) := by simpa using h1
       subst this
       exact .inl h2.symm
   have hq2 : ∀ q ∈ (eagerP G n ops hs m (i :: d) (setT t (opDst ops i) r) h).2.2, q.1 = q.2 := fun q hx => hq q (List.mem_append_right _ hx)
   have hq1 : ∀ q ∈ qs, q.1 = q.2 := fun q hx => hq q (List.mem_append_left _ hx)
   split at h1
   ·rename_i x hT
    obtain ⟨hx1, hx2⟩ := hintAt_mem hT
    split at h1
    ·rename_i hp
     injection h1 with h1
     injection h1 with e1 e2
     injection e2 with e2 e3
     subst e1; subst e2; subst e3
     have hq0 := hq1 _ (List.mem_singleton_self _)
     injection hq0 with q1 q2
     have hpk : x.kd = .pure := by cases hx : x.kd <;> simp_all [isPure]
     have L := hh x hx1
     have hk := L.keep (by rw [hpk]; simp)
     rw [hpk, hk, hx2] at L
     exact key x.T x.h rfl L (looks_eq q1) hq2
    ·cases h1
   ·split at h1
    ·rename_i r' h' hs
     injection h1 with h1
     injection h1 with e1 e2
     injection e2 with e2 e3
     subst e1; subst e2
     have L := stepA_sound (P := P) hG hs
     have hk := L.keep (by simp)
     subst hk
     exact key t h' rfl L (fun _ _ _ _ => rfl) hq2
    ·cases h1
  ·exact ⟨ps, H, hd⟩
theorem node_sound (hG : G.ok P) (F : Free ops (fun _ => .pure) anc) {hs : Hints} (hh : HintsOk P G.S n ops hs) {live : List Nat} {Q : Exit → Act → World → Prop} {C0 : Ctx} {fin : Tmps × List AO → Prop}
  (hQ : ∀ s C' a', Step C0 C' → fin s → ARel G.S C' s.1 s.2 n a' → Q .normal a' C'.w) :
  ∀ (fuel m : Nat) (listed : Array Bool) (d : List Nat) (t : Tmps) (h : List AO) (tb : Nat → AV) (ps : List (Nat × AV)) (fs : List (Tmps × List AO)) (qs : List Eqn) (C : Ctx) (a : Act), nodeP G n ops hs live m d t h = some (fs, qs) → (∀ s ∈ fs, fin s) → (∀ q ∈ qs, q.1 = q.2) → Step C0 C → listed.size = ops.size →
   (∀ j i, listed.getD j false = true → anc j i → listed.getD i false = true) → unl (fun j => listed.getD j false) ops.size ≤ fuel → Pend P G.S n ops anc (fun j => listed.getD j false = true) tb ps (lk t) → Done (fun j => listed.getD j false = true) ps d → ARelF G.S C tb h n a →
   wpAny P .any ops Q fuel listed a C.w := by
 have leaf : ∀ (m : Nat) (listed : Array Bool) (d : List Nat) (t : Tmps) (h : List AO) (tb : Nat → AV) (ps : List (Nat × AV)) (fs : List (Tmps × List AO)) (qs : List Eqn) (C : Ctx) (a : Act), nodeP G n ops hs live m d t h = some (fs, qs) → (∀ s ∈ fs, fin s) → (∀ q ∈ qs, q.1 = q.2) → Step C0 C →
   (∀ i, i < ops.size → listed.getD i false = true) → Pend P G.S n ops anc (fun j => listed.getD j false = true) tb ps (lk t) → Done (fun j => listed.getD j false = true) ps d → ARelF G.S C tb h n a → Q .normal a C.w := by
  intro m listed d t h tb ps fs qs C a he hfin hqs st hall H hd A
  have hps : ps = [] := by
   cases ps with
   | nil => rfl
   | cons q ps =>
    have := H.notin q List.mem_cons_self
    exact absurd (hall q.1 this.2) this.1
  subst hps
  have hemp : (readyL ops d).isEmpty = true := by
   rw [List.isEmpty_iff]
   apply List.eq_nil_iff_forall_not_mem.2
   intro i hi
   obtain ⟨h1, o, h2, _⟩ := readyL_mem.1 hi
   exact h1 ((hd.iff i).2 (.inl (hall i (Array.getElem?_eq_some_iff.1 h2).1)))
  have hfs : fs = [(keepT live t, h)] := by
   cases m with
   | zero => rw [nodeP, if_pos hemp] at he; injection he with he; injection he with he _; exact he.symm
   | succ m => rw [nodeP, if_pos hemp] at he; injection he with he; injection he with he _; exact he.symm
  subst hfs
  generalize ht : lk t = t' at H
  cases H
  subst ht
  exact hQ _ C a st (hfin _ (List.mem_singleton_self _)) ((keepT_weak live t).rel A.ofF)
 intro fuel
 induction fuel with
 | zero =>
  intro m listed d t h tb ps fs qs C a he hfin hqs st hsz hcl hun H hd A
  have hall := unl_zero ops.size (Nat.le_zero.1 hun)
  refine ⟨List.eq_nil_iff_forall_not_mem.2 fun i hi => ?_, leaf m listed d t h tb ps fs qs C a he hfin hqs st hall H hd A⟩
  obtain ⟨h1, o, h2, _⟩ := mem_ready.1 hi
  have hlt : i < ops.size := (Array.getElem?_eq_some_iff.1 h2).1
  have := hall i hlt
  rw [getD_tf (by omega), this] at h1
  cases h1
 | succ fuel ih =>
  intro m listed d t h tb ps fs qs C a he hfin hqs st hsz hcl hun H hd A
  refine ⟨fun hr => ?_, fun i hi => ?_⟩
  ·refine leaf m listed d t h tb ps fs qs C a he hfin hqs st ?_ H hd A
   rcases Classical.em (unl (fun j => listed.getD j false) ops.size = 0) with hz | hz
   ·exact unl_zero ops.size hz
   ·exfalso
    obtain ⟨j, hj, hlj, hall⟩ := least hz
    have hjr : j ∈ Region.ready .any ops listed := by
     refine mem_ready.2 ⟨?_, ops[j], Array.getElem?_eq_getElem hj, fun e he hb => ?_⟩
     ·rw [getD_tf (by omega)]; exact hlj
     ·exact hall _ (F.edge j _ (Array.getElem?_eq_getElem hj) e he hb)
    rw [hr] at hjr
    cases hjr
  ·obtain ⟨h1, o, h2, h3⟩ := mem_ready.1 hi
   have hlt : i < ops.size := (Array.getElem?_eq_some_iff.1 h2).1
   rw [getD_tf (by omega)] at h1
   have ianc : ∀ j, anc i j → listed.getD j false = true := by
    intro j hj
    obtain ⟨e, he, hb, h4⟩ := F.cl i o j h2 hj
    rcases h4 with rfl | h4
    ·exact h3 e he hb
    ·exact hcl _ _ (h3 e he hb) h4
   have hset1 : (listed.setIfInBounds i true).getD i false = true := getD_set_self (by omega)
   have hset2 : ∀ k, k ≠ i → (listed.setIfInBounds i true).getD k false = listed.getD k false := fun k hk => getD_set_other hk
   have hset : ∀ j, (listed.getD j false = true ∨ j = i) ↔ (listed.setIfInBounds i true).getD j false = true := by
    intro j
    by_cases e : j = i
    ·subst e; simp [hset1]
    ·rw [hset2 j e]; simp [e]
   have hcl' : ∀ j k, (listed.setIfInBounds i true).getD j false = true → anc j k → (listed.setIfInBounds i true).getD k false = true := by
    intro j k hj hk
    rw [← hset]
    rcases (hset j).2 hj with h4 | rfl
    ·exact .inl (hcl j k h4 hk)
    ·exact .inl (ianc k hk)
   have hun' : unl (fun j => (listed.setIfInBounds i true).getD j false) ops.size ≤ fuel := by
    have := unl_set (L := fun j => listed.getD j false) (L' := fun j => (listed.setIfInBounds i true).getD j false) (j := i) h1 hset1 (fun k hk => hset2 k hk) ops.size hlt
    omega
   have hnL : ¬ listed.getD i false = true := by rw [h1]; simp
   rcases Classical.em (∃ q ∈ ps, q.1 = i) with ⟨q, hq, rfl⟩ | hnp
   ·-- done ahead
    obtain ⟨ps1, ps2, rfl⟩ := List.append_of_mem hq
    obtain ⟨i, r⟩ := q
    dsimp only at *
    have hb := H.before
    have hap : ∀ q ∈ ps1, Apart ops i q.1 ∧ q.1 ≠ i := by
     intro q hq1
     have hn := H.notin q (List.mem_append_left _ hq1)
     exact ⟨apart_of F hlt hn.2 (fun ha => hn.1 (ianc _ ha)) (hb q hq1).2 (fun e => (hb q hq1).1 e.symm), (hb q hq1).1⟩
    obtain ⟨T, h0, L, look, H'⟩ := H.pull ps1 _ _ hap
    refine L.run tb h C a look (fun hne => absurd rfl hne) A Q _ fun C' v st' hv hH => ?_
    rw [if_neg (by simp)] at hH
    have A' := A.put st' hH L.dst hv
    refine ih m (listed.setIfInBounds i true) d t h _ (ps1 ++ ps2) fs qs C' _ he hfin hqs (st.trans st') (by simpa using hsz) hcl' hun' (H'.congr hset) ⟨fun j => ?_⟩ A'
    rw [hd.iff, ← hset]
    constructor
    ·rintro (h4 | ⟨q, h4, h5⟩)
     ·exact .inl (.inl h4)
     ·rcases List.mem_append.1 h4 with h4 | h4
      ·exact .inr ⟨q, List.mem_append_left _ h4, h5⟩
      ·rcases List.mem_cons.1 h4 with rfl | h4
       ·exact .inl (.inr h5.symm)
       ·exact .inr ⟨q, List.mem_append_right _ h4, h5⟩
    ·rintro ((h4 | rfl) | ⟨q, h4, h5⟩)
     ·exact .inl h4
     ·exact .inr ⟨(j, r), by simp, rfl⟩
     ·rcases List.mem_append.1 h4 with h4 | h4
      ·exact .inr ⟨q, List.mem_append_left _ h4, h5⟩
      ·exact .inr ⟨q, List.mem_append_right _ (List.mem_cons_of_mem _ h4), h5⟩
   ·-- a branch
    have hnd : i ∉ d := fun hid => by
     rcases (hd.iff i).1 hid with h4 | h4
     ·exact hnL h4
     ·exact hnp h4
    have hir : i ∈ readyL ops d := readyL_mem.2 ⟨hnd, o, h2, fun e he hb => (hd.iff _).2 (.inl (h3 e he hb))⟩
    have hne : ¬ (readyL ops d).isEmpty = true := by
     intro hx
     rw [List.isEmpty_iff.1 hx] at hir
     cases hir
    cases m with
    | zero => rw [nodeP, if_neg hne] at he; cases he
    | succ m =>
     rw [nodeP, if_neg hne] at he
     obtain ⟨fss, he1, he2⟩ := Option.map_eq_some_iff.1 he
     unfold joinP at he2
     injection he2 with he2 he2q
     subst he2; subst he2q
     obtain ⟨fs', hfs', he3⟩ := mapM_mem he1 i hir
     split at he3
     ·rename_i r h' q0 hs'
      simp only [forceH_eq, forceT_eq] at he3
      obtain ⟨fs1, he4, hfs1⟩ := Option.map_eq_some_iff.1 he3
      obtain ⟨fs1, qs1⟩ := fs1
      subst hfs1
      have hqa : ∀ q, q ∈ q0 ++ ((eagerP G n ops hs ops.size (i :: d) (setT t (opDst ops i) r) h').2.2 ++ qs1) → q.1 = q.2 := fun q hx => hqs q (List.mem_flatten.2 ⟨_, List.mem_map.2 ⟨_, hfs', rfl⟩, hx⟩)
      obtain ⟨kd, T, h0, h1', L, hlook, hheap, hres⟩ := stepH_sound (P := P) hG hh hs' (fun q hx => hqa q (List.mem_append_left _ hx))
      have hap : ∀ q ∈ ps, Apart ops i q.1 ∧ q.1 ≠ i := by
       intro q hq
       have hn := H.notin q hq
       have hqi : q.1 ≠ i := fun e => hnp ⟨q, hq, e⟩
       refine ⟨apart_of F hlt hn.2 (fun ha => hn.1 (ianc _ ha)) (fun ha => ?_) (fun e => hqi e.symm), hqi⟩
       rcases H.anc_in q hq i ha with h4 | h4
       ·exact hnL h4
       ·exact hnp h4
      obtain ⟨look, H'⟩ := H.front (i := i) r hap
      refine L.run tb h C a (fun o' ho' x hx => (look o' ho' x hx).trans (hlook o' ho' x hx)) hheap A Q _ fun C' v st' hv hH => ?_
      rw [hres] at hH
      have A' := A.put st' hH L.dst hv
      have e3 : tset (lk t) (opDst ops i) r = lk (setT t (opDst ops i) r) := funext fun x => (lk_setT' _ _ _ _).symm
      rw [e3] at H'
      have hd' : Done (fun j => (listed.setIfInBounds i true).getD j false = true) ps (i :: d) := ⟨fun j => by
       rw [List.mem_cons, hd.iff, ← hset]
       constructor
       ·rintro (h4 | h4 | h4)
        ·exact .inl (.inr h4)
        ·exact .inl (.inl h4)
        ·exact .inr h4
       ·rintro ((h4 | h4) | h4)
        ·exact .inr (.inl h4)
        ·exact .inl h4
        ·exact .inr (.inr h4)⟩
      obtain ⟨ps', H2, hd2⟩ := eager_spec (P := P) (G := G) (n := n) (h := h') hG F hh hcl' ops.size (i :: d) _ ps (H'.congr hset) hd' (fun q hx => hqa q (List.mem_append_right _ (List.mem_append_left _ hx)))
      exact ih m (listed.setIfInBounds i true) _ _ h' _ ps' fs1 qs1 C' _ he4 (fun s hs => hfin s (List.mem_flatten.2 ⟨fs1, List.mem_map.2 ⟨_, hfs', rfl⟩, hs⟩)) (fun q hx => hqa q (List.mem_append_right _ (List.mem_append_right _ hx))) (st.trans st') (by simpa using hsz) hcl' hun' H2 hd2 A'
     ·cases he3
theorem AR.nodeP (hG : G.ok P) (hm : P.follows .mixedOrders = true) {F : Fn} {c0 : Ctx} {R : Ending → World → Prop} {k : List PI} {p : List Nat} {t : Tmps} {h : List AO} (live : List Nat) (hs : Hints) (hh : HintsOk P G.S F.n (opsOf (codeAt F.B p)) hs) (fs : List (Tmps × List AO)) (qs : List Eqn) (hc : regAny (codeAt F.B p) = true) (hconf : confOk (opsOf (codeAt F.B p)) (List.replicate (opsOf (codeAt F.B p)).size .pure) = true)
  (e : Go.Sh.nodeP G F.n (opsOf (codeAt F.B p)) hs live (opsOf (codeAt F.B p)).size (eagerP G F.n (opsOf (codeAt F.B p)) hs (opsOf (codeAt F.B p)).size [] t h).1 (eagerP G F.n (opsOf (codeAt F.B p)) hs (opsOf (codeAt F.B p)).size [] t h).2.1 h = some (fs, qs)) (hq0 : ∀ q ∈ (eagerP G F.n (opsOf (codeAt F.B p)) hs (opsOf (codeAt F.B p)).size [] t h).2.2, q.1 = q.2) (hqs : ∀ q ∈ qs, q.1 = q.2) (A : ∀ s ∈ fs, AR P G F c0 R k s.1 s.2) : AR P G F c0 R (.code p :: k) t h := by
 have Fr := free_of_conf hconf
 have hkf : (fun i => (List.replicate (opsOf (codeAt F.B p)).size Kd.pure).getD i .pure) = fun _ => Kd.pure := by
  funext i
  rw [List.getD_eq_getElem?_getD, List.getElem?_replicate]
  split <;> rfl
 rw [hkf] at Fr
 generalize hanc : (fun (j i : Nat) => ((ancs (opsOf (codeAt F.B p)).toList []).getD j 0).testBit i = true) = anc at Fr
 clear hanc hkf hconf
 cases hcd : codeAt F.B p with
 | region id ops draw =>
  rw [hcd] at hc e Fr hh hq0
  cases draw with
  | false => cases hc
  | true =>
   intro C a st AA
   simp only [List.map_cons, PI.dec, hcd]
   refine Reach.of_wp (wp_region_any hm ?_)
   have hk := drew_kept C
   have A' : ARel G.S ⟨{ C.w with drawn := C.w.drawn + 1 }, C.m, C.X⟩ t h F.n a := ⟨AA.defers, AA.size, fun i => (AA.tmps i).step hk.toStep, AA.heap.kept hk⟩
   have hnl : ∀ j, ¬ ((Array.replicate ops.size false).getD j false = true) := by
    intro j
    rw [Array.getD_eq_getD_getElem?, Array.getElem?_replicate]
    split <;> simp
   have hops : opsOf (Code.region id ops true) = ops := rfl
   rw [hops] at e Fr hh hq0
   obtain ⟨ps, H, hd⟩ := eager_spec (P := P) (G := G) (n := F.n) (ops := ops) (anc := anc) (D := fun j => (Array.replicate ops.size false).getD j false = true) (tb := lk t) (h := h) hG Fr hh (fun j k hj => absurd hj (hnl j)) ops.size [] t [] .nil ⟨fun j => by constructor; (intro hj; cases hj); (rintro (hj | ⟨q, hj, _⟩); exact absurd hj (hnl j); cases hj)⟩ hq0
   refine node_sound hG Fr hh (live := live) (C0 := C) (fin := fun s => s ∈ fs) (fun s C' a' st' hs AA' => ?_) ops.size ops.size (Array.replicate ops.size false) _ _ h (lk t) ps fs qs _ _ e (fun s hs => hs) hqs hk.toStep (by simp) (fun j i hj => absurd hj (hnl j)) ?_ H hd A'.toF
   ·exact ⟨rfl, A s hs C' a' (st.trans st') AA'⟩
   ·have : ∀ (L : Nat → Bool) m, unl L m ≤ m := by
     intro L m
     induction m with
     | zero => exact Nat.le_refl _
     | succ m ih => simp only [unl]; split <;> omega
    exact this _ _
 | _ => rw [hcd] at hc; cases hc
def selS (n0 : Nat) (ks : List Nat) (s : Tmps × List AO) : Option (Tmps × List AO) :=
 match selH true ks s.2 with
 | some h' => if (nodupB ks && preB n0 ks 0) = true then forceT (selT ks s.2 s.1) fun t' => forceH h' fun h' => some (t', h') else none
 | none => none
def rpL (G : Tab) (F : Fn) (live : List Nat) (hs : Hints) (s : Option Cfg) : Option (List (Tmps × List AO) × List Eqn) :=
 match s with
 | some c =>
  match c.k with
  | .code p :: _ => if (regAny (codeAt F.B p) && confOk (opsOf (codeAt F.B p)) (List.replicate (opsOf (codeAt F.B p)).size .pure)) = true then (match eagerP G F.n (opsOf (codeAt F.B p)) hs (opsOf (codeAt F.B p)).size [] c.t c.h with | (d', t', qs) => (nodeP G F.n (opsOf (codeAt F.B p)) hs live (opsOf (codeAt F.B p)).size d' t' c.h).map fun p => (p.1, qs ++ p.2)) else none
  | _ => none
 | none => none
def rpO (F : Fn) (s : Option Cfg) : Array Oper := match s with | some c => (match c.k with | .code p :: _ => opsOf (codeAt F.B p) | _ => #[]) | none => #[]
def zipO {α β γ : Type} (f : α → β → Option γ) : List α → List β → Option (List γ)
 | [], [] => some []
 | a :: as, b :: bs => match f a b, zipO f as bs with | some c, some cs => some (c :: cs) | _, _ => none
 | _, _ => none
theorem zipO_mem {α β γ : Type} {f : α → β → Option γ} : ∀ {as : List α} {bs : List β} {cs : List γ}, zipO f as bs = some cs → ∀ b ∈ bs, ∃ a, ∃ c ∈ cs, f a b = some c
 | [], [], _, _, b, hb => by cases hb
 | a :: as, b0 :: bs, cs, h, b, hb => by
  rw [zipO] at h
  split at h
  ·rename_i c cs' h1 h2
   injection h with h
   subst h
   rcases List.mem_cons.1 hb with rfl | hb
   ·exact ⟨a, c, List.mem_cons_self, h1⟩
   ·obtain ⟨a', c', h3, h4⟩ := zipO_mem h2 b hb
    exact ⟨a', c', List.mem_cons_of_mem _ h3, h4⟩
  ·cases h
 | [], _ :: _, _, h, _, _ => by cases h
 | _ :: _, [], _, h, _, _ => by cases h
def rpC (G : Tab) (F : Fn) (n0 : Nat) (live : List Nat) (hs : Hints) (perms : List (List Nat)) (s : Option Cfg) : Option (List (Tmps × List AO) × List (List AV × List AO) × List (List AV × List AO)) :=
 match rpL G F live hs s with
 | some (fs, qs) => match zipO (selS n0) perms fs with | some cs => some (cs, qs.map (·.1), qs.map (·.2)) | none => none
 | none => none
def rpS (G : Tab) (F : Fn) (n0 : Nat) (live : List Nat) (hs : Hints) (perms : List (List Nat)) (s : Option Cfg) : Tmps × List AO := match rpC G F n0 live hs perms s with | some (x :: _, _) => x | _ => ([], [])
def rpQ (G : Tab) (F : Fn) (n0 : Nat) (live : List Nat) (hs : Hints) (perms : List (List Nat)) (s : Option Cfg) : List (List AV × List AO) := match rpC G F n0 live hs perms s with | some (_, _, q) => q | _ => []
def rpE (G : Tab) (F : Fn) (n0 : Nat) (live : List Nat) (hs : Hints) (perms : List (List Nat)) (s : Option Cfg) : Option Cfg :=
 match s with
 | some c => match c.k with | _ :: k => (match rpS G F n0 live hs perms (some c) with | (t, h) => mkC k t h) | _ => none
 | none => none
variable {F : Fn} {c0 : Ctx} {R : Ending → World → Prop}
theorem map_fst_snd {α : Type} : ∀ {l : List (α × α)} {a : List α}, l.map (·.1) = a → l.map (·.2) = a → ∀ q ∈ l, q.1 = q.2
 | [], _, _, _, q, hq => by cases hq
 | p :: l, a, h1, h2, q, hq => by
  subst h1
  simp only [List.map_cons, List.cons.injEq] at h2
  rcases List.mem_cons.1 hq with rfl | hq
  ·exact h2.1.symm
  ·exact map_fst_snd (a := l.map (·.1)) rfl h2.2 q hq
theorem AX.rp [ok : Ok P G] {n0 : Nat} (hc0 : c0.m.length = n0) (live : List Nat) (hs : Hints) (perms : List (List Nat)) {s : Option Cfg} (hh : HintsOk P G.S F.n (rpO F s) hs) (e : rpC G F n0 live hs perms s = some (List.replicate perms.length (rpS G F n0 live hs perms s), rpQ G F n0 live hs perms s, rpQ G F n0 live hs perms s)) (A : AX P G F c0 R (rpE G F n0 live hs perms s)) : AX P G F c0 R s := by
 generalize hS : rpS G F n0 live hs perms s = sA at *
 generalize hQ : rpQ G F n0 live hs perms s = qA at *
 unfold rpC at e
 split at e
 ·rename_i fs qs hfs
  split at e
  ·rename_i cs hcs
   injection e with e
   injection e with e1 e2
   injection e2 with e2 e3
   have hqq := map_fst_snd e2 e3
   unfold rpL at hfs
   split at hfs
   ·rename_i c
    obtain ⟨k, t, h⟩ := c
    dsimp only at hfs
    split at hfs
    ·rename_i p k'
     split at hfs
     ·rename_i hr
      rw [Bool.and_eq_true] at hr
      obtain ⟨⟨fs1, qs1⟩, hf1, hf2⟩ := Option.map_eq_some_iff.1 hfs
      injection hf2 with hf2 hf3
      dsimp only at hf2 hf3
      subst hf2; subst hf3
      refine ⟨_, rfl, AR.nodeP ok.g ok.m live hs hh fs1 qs1 hr.1 hr.2 hf1 (fun q hx => hqq q (List.mem_append_left _ hx)) (fun q hx => hqq q (List.mem_append_right _ hx)) fun q hq => ?_⟩
      obtain ⟨ks, c, hc, h1⟩ := zipO_mem hcs q hq
      rw [e1] at hc
      have hcA : c = sA := (List.mem_replicate.1 hc).2
      subst hcA
      unfold selS at h1
      split at h1
      ·rename_i h' hsel
       split at h1
       ·rename_i hks
        simp only [forceT_eq, forceH_eq] at h1
        injection h1 with h1
        refine AR.sel hc0 ks hks hsel ?_
        have hA := A
        simp only [rpE, hS, mkC_eq] at hA
        rw [← h1] at hA
        exact hA.ar
       ·cases h1
      ·cases h1
     ·cases hfs
    ·cases hfs
   ·cases hfs
  ·cases e
 ·cases e
end Go.Sh
namespace Go.Sh
variable {P : Program} {G : Tab} {F : Fn} {c0 : Ctx} {R : Ending → World → Prop} {S : Sizes}
section
variable {n : Nat} {ops : Array Oper} {i : Nat} {t : Tmps} {h : List AO}
structure BS where
 ty : TypeId
 e : TypeId
 size : Nat
 bytes : Nat
 len : Nat
 parts : Array (Nat × Operand)
 rows : List AV
def bsE (G : Tab) (n : Nat) (ops : Array Oper) (i : Nat) (t : Tmps) : Option BS :=
 match opAt n ops i t with
 | some (.buildSlice ty len parts) =>
  match G.kind ty with
  | .slice e =>
   match G.get e with
   | some ei =>
    if (Nat.beq parts.size len && Nat.ble (len * ei.size) 16777216 && Nat.ble (len * ei.bytes) reach && Nat.blt 0 ei.size && (parts.toList.all fun p => plainA (ev t p.2))) = true then
     (seqA ei.size 0 (parts.toList.map fun p => (p.1, ev t p.2))).map fun rows => ⟨ty, e, ei.size, ei.bytes, len, parts, rows⟩
    else none
   | none => none
  | _ => none
 | _ => none
def bsA (q : Option BS) : Option (List AV) := match q with | some q => some q.rows | none => none
def bsT (q : Option BS) : TypeId := match q with | some q => q.e | none => 0
theorem rels_mapM {S : Sizes} {C : Ctx} {ρ : Operand → AV} {ρv : Operand → Value} (parts : Array (Nat × Operand)) (hρ : ∀ p ∈ parts.toList, VRel S C (ρ p.2) (ρv p.2)) :
  (parts.toList.map fun p => (p.1, ρ p.2)).length = (parts.map fun (i, x) => (i, ρv x)).toList.length ∧
  ∀ (j : Nat) (p : Nat × AV) (q : Nat × Value), (parts.toList.map fun p => (p.1, ρ p.2))[j]? = some p → (parts.map fun (i, x) => (i, ρv x)).toList[j]? = some q → p.1 = q.1 ∧ VRel S C p.2 q.2 := by
 refine ⟨by simp, fun j p q hp hq => ?_⟩
 rw [Array.toList_map, List.getElem?_map] at hq
 rw [List.getElem?_map] at hp
 cases hj : parts.toList[j]? with
 | none => rw [hj] at hp; cases hp
 | some z =>
  rw [hj] at hp hq
  injection hp with hp
  injection hq with hq
  subst hp; subst hq
  exact ⟨rfl, hρ z (List.mem_iff_getElem?.2 ⟨j, hj⟩)⟩
theorem LSpec.bs [ok : Ok P G] (rows : List AV) (e : bsA (bsE G n ops i t) = some rows := by kernel_rfl) :
  LSpec P G.S n ops i .loud t h (.own h.length 1000000) (h ++ [.row (bsT (bsE G n ops i t)) rows 1000000 true]) := by
 generalize hq : bsE G n ops i t = q at *
 cases q with
 | none => cases e
 | some q =>
  injection e with e
  unfold bsE at hq
  split at hq
  ·rename_i ty len parts hop
   split at hq
   ·rename_i e0 hkind
    split at hq
    ·rename_i ei hei
     split at hq
     ·rename_i hc
      obtain ⟨rows', h1, h2⟩ := Option.map_eq_some_iff.1 hq
      subst h2
      dsimp only at e
      subst e
      simp only [Bool.and_eq_true] at hc
      obtain ⟨⟨⟨⟨c1, c2⟩, c3⟩, c4⟩, c5⟩ := hc
      have c1 : parts.size = len := Nat.eq_of_beq_eq_true c1
      have c2 : len * ei.size ≤ 16777216 := Nat.le_of_ble_eq_true c2
      have c3 : len * ei.bytes ≤ reach := Nat.le_of_ble_eq_true c3
      have c4 : 0 < ei.size := Nat.le_of_ble_eq_true c4
      refine (opAt_spec hop).spec (fun hh => absurd rfl hh) fun op ρv C h2 hoq H hh hρ => ?_
      have hh := hh (by simp)
      subst hh
      obtain ⟨d, hd, hk⟩ := kind_desc ok.g hkind (by simp)
      simp only [TK.fits] at hk
      subst hk
      have he := ok.g e0 ei hei
      obtain ⟨inf, z, k1, k2, k3, k4, k4', k5⟩ := he.info
      obtain ⟨m1, m2'⟩ := rels_mapM (S := G.S) (C := C) (ρ := ev t) (ρv := ρv) parts (fun p hp => hρ p.2 (by simp only [Op.operands]; simp; exact ⟨p.1, by simpa using hp⟩))
      have m2 : ∀ (j : Nat) (p : Nat × AV) (q : Nat × Value), (parts.toList.map fun p => (p.1, ev t p.2))[j]? = some p → (parts.map fun (i, x) => (i, ρv x)).toList[j]? = some q → p.1 = q.1 ∧ VRel G.S C.flat p.2 q.2 := by
       intro j p q hp hq
       obtain ⟨g1, g2⟩ := m2' j p q hp hq
       refine ⟨g1, g2.plain (Under.toFlat C) ?_⟩
       rw [List.getElem?_map] at hp
       obtain ⟨z, hz, rfl⟩ := Option.map_eq_some_iff.1 hp
       exact List.all_eq_true.1 c5 z (List.mem_iff_getElem?.2 ⟨j, hz⟩)
      obtain ⟨zc, hz1, hz2⟩ : ∃ zc : Array Value, (len * ei.size = 0 → zc = #[]) ∧ (len * ei.size ≠ 0 → zc = z.cells) :=
       ⟨if len * ei.size = 0 then #[] else z.cells, fun h => by rw [if_pos h], fun h => by rw [if_neg h]⟩
      have hps : (parts.toList.map fun p => (p.1, ev t p.2)).length = len := by simpa using c1
      obtain ⟨cells', q1, new, q2, q3⟩ := fill_seq (sz := ei.size) _ _ 0 rows' ((Array.range (len * ei.size)).map (zc[· % zc.size]!)) m1 m2 h1 (by rw [hps]; simp)
      have hnew : cells'.toList = new := by
       rw [q2, hps, Nat.zero_mul, List.take_zero, List.nil_append, Nat.zero_add, List.drop_eq_nil_of_le (by simp), List.append_nil]
      have e1 := RelF.len _ _ q3
      have hrl : rows'.length = len := by
       have e2 : new.length = len * ei.size := by
        have hfl : ∀ (n : Nat) (ps : List (Nat × AV)) (rs : List AV), seqA ei.size n ps = some rs → rs.length = ps.length := by
         intro n ps
         induction ps generalizing n with
         | nil => intro rs hrs; injection hrs with hrs; subst hrs; rfl
         | cons p ps ih =>
          intro rs hrs
          obtain ⟨pi, pa⟩ := p
          simp only [seqA] at hrs
          split at hrs
          ·split at hrs
           ·split at hrs
            ·obtain ⟨rs', g1, rfl⟩ := Option.map_eq_some_iff.1 hrs
             simp [ih _ _ g1]
            ·cases hrs
           ·cases hrs
          ·cases hrs
        rw [e1, hfl _ _ _ h1, hps]
       rw [e1] at e2
       exact Nat.eq_of_mul_eq_mul_right c4 e2
      have hsz : cells'.size = len * ei.size := by
       rw [← Array.length_toList, hnew, e1, hrl]
      obtain ⟨dst', op, oty, pos, after, guard⟩ := op
      simp only at hoq
      subst hoq
      have hm : len ≤ maxLen := by
       have : len ≤ len * ei.size := Nat.le_mul_of_pos_right _ c4
       simp only [maxLen]
       omega
      have hS : G.S e0 = (ei.size, ei.bytes) := S_get hei
      have hrow : (C.w.alloc (.cells cells' e0)).ownsRow 0 e0 ei.size (.slice (some ⟨C.w.heap.size, 0, none⟩) len len) len new := by
       refine ⟨by rw [e1, hrl], .inr ⟨_, len, cells', rfl, Nat.zero_le _, ?_, Nat.le_refl _, hm, hsz, ?_⟩⟩
       ·rw [alloc_heap C.w _]
       ·rw [hnew, List.take_of_length_le (by rw [e1, hrl]; exact Nat.le_refl _)]
      obtain ⟨st, hup⟩ := H.push (C' := ⟨C.w.alloc (.cells cells' e0), C.m ++ [.row (.slice (some ⟨C.w.heap.size, 0, none⟩) len len) 1000000 true], C.X⟩) (s := .row (.slice (some ⟨C.w.heap.size, 0, none⟩) len len) 1000000 true) (ob := .row e0 rows' 1000000 true)
       (alloc_size _ _) rfl rfl rfl (fun b hb => alloc_old C.w _ b hb) rfl rfl (fun b hb => by
        simp [Slot.has, Value.ownBlock] at hb
        omega)
      have hH := hup ⟨rfl, by rw [hS, hrl]; exact c3, (fun hm => by cases hm), fun _ => ⟨⟨rfl, (ok.g e0 ei hei).lt⟩, by rw [hS]; exact c4, new, by rw [hS, hrl]; exact ownsG_of hrow, by
        rw [hS]
        exact q3.mono st.mono.flat, fun _ => by rw [hS, hrl]; exact hrow⟩, (fun _ _ hm => by cases hm)⟩
      refine ⟨_, st, hH, .inl ⟨.slice (some ⟨C.w.heap.size, 0, none⟩) len len, ?_, ⟨_, _, 1000000, true, rfl, rfl, ?_, Nat.le_refl _, fun _ => rfl⟩⟩⟩
      ·simp only [execOp, Instr.buildSlice, Sem.run_bind, run_underlying hd, Result.andThen_ok, run_size he]
       rw [if_neg (by omega)]
       by_cases hl : len * ei.size = 0
       ·rw [hz1 hl] at q1
        rw [if_pos hl]
        simp only [Sem.run_bind, Result.andThen_ok, q1, Sem.run_pure, newRow, newObj, Sem.run]
        rfl
       ·rw [hz2 hl] at q1
        rw [if_neg hl]
        simp only [Sem.run_bind, Result.andThen_ok, zeroValue, typeInfo, run_program, k1, k4, q1, Sem.run_pure, newRow, newObj, Sem.run]
        rfl
      ·rw [← H.len]
       simp
     ·cases hq
    ·cases hq
   ·cases hq
  ·cases hq
end
theorem DX.bs [ok : Ok P G] {s : Option DS} (L : List Nat) (rows : List AV) (D : DX P G F c0 R (updE F L .loud (fun d => .own d.r.h.length 1000000) (fun d => d.r.h ++ [.row (bsT (bsE G F.n (d.ops F) d.r.i d.r.t)) rows 1000000 true]) s)) (e : bsA (bsE G F.n (dO F s) (dI s) (dT s)) = some rows := by kernel_rfl) : DX P G F c0 R s := DX.opF L (LSpec.bs rows e) D
end Go.Sh