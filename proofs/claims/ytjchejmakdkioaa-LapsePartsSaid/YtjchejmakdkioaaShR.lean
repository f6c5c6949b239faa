import Derived.Test.YtjchejmakdkioaaShQ
set_option linter.unusedVariables false
set_option linter.unusedSimpArgs false
namespace Go.Sh
variable {P : Program} {G : Tab} {S : Sizes}
/-! ### Words for printed texts -/
abbrev intA (k : IntKind) (n : Int) : AV := .sc (.int k n)
abbrev boolA (b : Bool) : AV := .sc (.bool b)
abbrev strA (s : ByteArray) : AV := .sc (.string s)
abbrev slA {α : Type} (e : TypeId) (f : α → AV) (xs : List α) : AV := .sl e (xs.map f) false

def ixO {α : Type} (xs : List α) (i : Int) : Option α := if 0 ≤ i then xs[i.toNat]? else none
theorem ixO_map {α : Type} {xs : List α} {i : Int} {x : α} (h : ixO xs i = some x) (f : α → AV) : 0 ≤ i ∧ (xs.map f)[i.toNat]? = some (f x) := by
  unfold ixO at h
  split at h
  · rename_i hi
    refine ⟨hi, ?_⟩
    rw [List.getElem?_map, h]
    rfl
  · cases h

/-- what fits an address space -/
def fitO {α : Type} (n by_ : Nat) (r : Option α) : Option α := if n * by_ ≤ reach then r else none
theorem fitO_some {α : Type} {n by_ : Nat} {r : Option α} {x : α} (h : fitO n by_ r = some x) : n * by_ ≤ reach ∧ r = some x := by
  unfold fitO at h
  split at h
  · exact ⟨by assumption, h⟩
  · cases h

theorem cond_t {α : Type} {b : Bool} {x y r : α} (hb : b = true) (h : (bif b then x else y) = r) : x = r := by subst hb; exact h
theorem cond_f {α : Type} {b : Bool} {x y r : α} (hb : b = false) (h : (bif b then x else y) = r) : y = r := by subst hb; exact h

def bodyOf (f : Func) : Code := match f.body with | some b => b | none => .skip

theorem ACalls.of_AR (F : Fn) {fn : Func} {args : List AV} {h h' : List AO} {r : AV} (hf : P.funcs[F.f]? = some fn) (hname : (fn.name == "runtime.NumGoroutine") = false) (hB : fn.body = some F.B) (hn : fn.ntmps = F.n) (hlen : args.length ≤ F.n)
    (A : ∀ c0 : Ctx, c0.m.length = h.length → AR P G F c0 (Rp G.S c0 r h') [.code []] (argT 0 args) h) : ACalls P G.S F.f args h r h' :=
  ACalls.intro (G := G) hf hname hB hn hlen A

theorem VRels.facts {C : Ctx} {as : List AV} {vs : List Value} (h : VRels S C as vs) : factsL S as := by
  induction h with
  | nil => trivial
  | cons h1 _ ih =>
    rename_i a v _ _ _
    have : VRel S C a v := by
      cases a with
      | tup _ => exact h1.elim
      | _ => exact h1
    exact ⟨VRel.facts this, ih⟩
theorem ACalls.facts {f : FuncId} {args : List AV} {h h' : List AO} {r : AV} (hE : Ent P f) (A : factsL S args → ACalls P S f args h r h') : ACalls P S f args h r h' :=
  ⟨hE, fun C vals H hv => (A hv.facts).2 C vals H hv⟩

/-! ### The way out, nothing of ours left -/
def retOf (G : Tab) (fn : Func) (t : Tmps) (h : List AO) : Option AV :=
  (fn.results.toList.mapM (resA G t h)).bind fun as => (as.mapM (finA h 0)).map retA

inductive Wks (S : Sizes) : List AV → List AV → Prop
  | nil : Wks S [] []
  | cons {a b : AV} {as bs : List AV} : WkV S a b → (match a with | .tup _ => False | _ => True) → (match b with | .tup _ => False | _ => True) → Wks S as bs → Wks S (a :: as) (b :: bs)
theorem Wks.rel {as bs : List AV} (h : Wks S as bs) {C : Ctx} : ∀ {vs : List Value}, VRels S C as vs → VRels S C bs vs := by
  induction h with
  | nil => intro vs h; exact h
  | @cons a b as bs h1 h2 h3 _ ih =>
    intro vs h
    cases h with
    | cons k1 k2 =>
      refine .cons ?_ (ih k2)
      have := h1 C _ (by cases a <;> first | exact k1 | exact h2.elim)
      cases b <;> first | exact this | exact h3.elim
theorem WkV.tup {as bs : List AV} (h : Wks S as bs) : WkV S (.tup as) (.tup bs) := by
  rintro C v ⟨l, rfl, r⟩
  exact ⟨l, rfl, h.rel r⟩
theorem Wk1.anyFull {e : TypeId} {rows : List AV} (f : Bool) : Wk1 S (.sl e rows f) (.sl e rows false) := by
  cases f
  · exact Wk1.refl _
  · exact Wk1.full

variable {F : Fn} {c0 : Ctx} {R : Ending → World → Prop}
def isRet : Code → Bool
  | .ret => true
  | _ => false
theorem AR.ret0 (hG : G.ok P) {fn : Func} (hf : P.funcs[F.f]? = some fn) {k : List PI} {p : List Nat} (hc : isRet (codeAt F.B p) = true) {t : Tmps} {h : List AO} (hlen : c0.m.length = 0) {r0 r : AV} (e : retOf G fn t h = some r0) (hw : WkV G.S r0 r) : AR P G F c0 (Rp G.S c0 r []) (.code p :: k) t h := by
  have hcd : codeAt F.B p = .ret := by cases hq : codeAt F.B p <;> rw [hq] at hc <;> first | rfl | cases hc
  obtain ⟨as, h1, h2⟩ := Option.bind_eq_some_iff.1 e
  obtain ⟨bs, h3, h4⟩ := Option.map_eq_some_iff.1 h2
  have A := AR.ret (c0 := c0) (h' := []) hG hf (k := k) hcd 0 (by omega) h1 h3 (by simp) (by simp) h4
  intro C a st AA cs
  obtain ⟨e, w', fr, ⟨v, C', k1, k2, k3, k4, k5⟩, q⟩ := A C a st AA cs
  exact ⟨e, w', fr, ⟨v, C', k1, k2, k3, by simpa using k4, hw C' v k5⟩, q⟩

def isLoop : Code → Bool
  | .loop _ => true
  | _ => false
theorem AR.into {k : List PI} {p : List Nat} (hc : isLoop (codeAt F.B p) = true) {t : Tmps} {h : List AO} (A : AR P G F c0 R (.code (p ++ [0]) :: .loop p :: k) t h) : AR P G F c0 R (.code p :: k) t h := by
  cases hcd : codeAt F.B p with
  | loop c => exact AR.loop_in hcd A
  | _ => rw [hcd] at hc; cases hc

theorem AR.keep (live : List Nat) {k : List PI} {t t' : Tmps} {h : List AO} (e : keepT live t = t') (A : AR P G F c0 R k t' h) : AR P G F c0 R k t h := by
  subst e
  exact A.weak (keepT_weak live t)

/-! ### Steps inside a region, each with one thing to compute -/
variable {n : Nat} {ops : Array Oper} {kds : List Kd} {fin : Tmps → List AO → Prop}
def kdOk (kds : List Kd) (i : Nat) (kd : Kd) : Bool := match kds[i]? with | some kd' => kd.leB kd' | none => false
theorem DK.op' (live : List Nat) {i j : Nat} {t t' : Tmps} {h h1 h' : List AO} {kd : Kd} {r : AV} (L : LSpec P S n ops i kd t h r h1) (hk : kdOk kds i kd = true) (eh : h1 = h') (e : keepT live (setT t ((ops[i]?).bind (·.dst)) r) = t') (hj : i + 1 = j)
    (D : DK P S n ops kds fin j t' h') : DK P S n ops kds fin i t h := by
  subst hj; subst e; subst eh
  unfold kdOk at hk
  split at hk
  · rename_i kd' hkd
    exact DK.step L hkd hk (D.weak (keepT_weak live _))
  · cases hk

def callE (g : AV → Option AV) (n : Nat) (ops : Array Oper) (i : Nat) (t : Tmps) (f : FuncId) : Option (List AV) :=
  (callAt n ops i t).bind fun p => if p.1 = f then (p.2.map (ev t)).mapM g else none

theorem callE_spec {g : AV → Option AV} {i : Nat} {t : Tmps} {f : FuncId} {avs : List AV} (h : callE g n ops i t f = some avs) : ∃ xs, callAt n ops i t = some (f, xs) ∧ (xs.map (ev t)).mapM g = some avs := by
  obtain ⟨⟨f', xs⟩, h1, h2⟩ := Option.bind_eq_some_iff.1 h
  simp only at h2
  split at h2
  · rename_i e
    subst e
    exact ⟨xs, h1, h2⟩
  · cases h2

theorem LSpec.callP' {i : Nat} {t : Tmps} {h : List AO} {f : FuncId} {avs : List AV} {r : AV} (hc : ACalls P G.S f avs [] r []) (e : callE plainO n ops i t f = some avs) : LSpec P G.S n ops i .pure t h r h := by
  obtain ⟨xs, h1, h2⟩ := callE_spec e
  exact LSpec.call h1 h2 hc
def lendO (S : Sizes) (h : List AO) (a : AV) : Option AV := if bslOk S a then conv h a else none
theorem LSpec.callS' {i : Nat} {t : Tmps} {h : List AO} {f : FuncId} {avs : List AV} {r : AV} (hc : ACalls P G.S f avs [] r []) (e : callE (lendO G.S h) n ops i t f = some avs) (hr : scalA r = true) : LSpec P G.S n ops i .read t h r h := by
  obtain ⟨xs, h1, h2⟩ := callE_spec e
  exact LSpec.callS h1 h2 hr hc
def giveO (os : List Nat) (h : List AO) (a : AV) : Option AV := if ownIn os a then conv (settle os h) a else none
theorem LSpec.callC' (os : List Nat) {i : Nat} {t : Tmps} {h : List AO} {f : FuncId} {avs : List AV} {r : AV} (hc : ACalls P G.S f avs [] r []) (hos : rowsAt h os = true) (e : callE (giveO os h) n ops i t f = some avs) : LSpec P G.S n ops i .loud t h r (settle os h) := by
  obtain ⟨xs, h1, h2⟩ := callE_spec e
  exact LSpec.callC os hos h1 h2 hc

/-- xs[i] -/
def indexE (G : Tab) (n : Nat) (ops : Array Oper) (i : Nat) (t : Tmps) : Option (List AV × Int) :=
  match opAt n ops i t with
  | some (.indexAddr ty x y) =>
    match G.kind ty, ev t x, ev t y with
    | .slice e, .sl e' rows _, .sc (.int _ j) => if e = e' ∧ (G.get e).isSome = true then some (rows, j) else none
    | _, _, _ => none
  | _ => none
theorem LSpec.index' (hG : G.ok P) {i : Nat} {t : Tmps} {h : List AO} {rows : List AV} {j : Int} {r : AV} {fs : List AV} (e : indexE G n ops i t = some (rows, j)) (hr : 0 ≤ j ∧ rows[j.toNat]? = some r) (hfs : chunks r = some fs) : LSpec P G.S n ops i .pure t h (.ep fs 0 none) h := by
  unfold indexE at e
  split at e
  · rename_i ty x y hop
    split at e
    · rename_i e0 e1 rows' f k j' hk hx hy
      split at e
      · rename_i he
        injection e with e
        injection e with e2 e3
        obtain ⟨he1, he⟩ := he
        subst e2; subst e3; subst he1
        exact LSpec.index hG hop hk he hx hy hr.1 hr.2 hfs
      · cases e
    · cases e
  · cases e
end Go.Sh
