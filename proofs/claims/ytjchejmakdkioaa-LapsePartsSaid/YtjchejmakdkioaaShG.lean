import Derived.Test.YtjchejmakdkioaaShF
set_option linter.unusedVariables false
set_option linter.unusedSimpArgs false
namespace Go.Sh
variable {P : Program}

/-! ### The machine's road to the end of a call -/
def baseFr (f : FuncId) : Frame := { (default : Frame) with fn := f, kind := .normal }

def Reach (P : Program) (f : FuncId) (k : List Item) (a : Act) (w : World) (R : Ending → World → Prop) : Prop :=
  ∀ cs, ∃ e w' fr, R e w' ∧ Comes P (lone ((baseFr f).at a k) cs w) (lone fr cs w') e ∧ fr.fn = f ∧ fr.leaving P w' e

theorem Comes.head {P : Program} {m m₁ m' : Machine} {e : Ending} (h : Steps P m m₁) (h' : Comes P m₁ m' e) : Comes P m m' e := Comes.of_steps h h'

theorem Reach.steps {f : FuncId} {k k' : List Item} {a a' : Act} {w w' : World} {R : Ending → World → Prop} (h : Reach P f k' a' w' R) (hs : ∀ cs, Steps P (lone ((baseFr f).at a k) cs w) (lone ((baseFr f).at a' k') cs w')) : Reach P f k a w R := by
  intro cs
  obtain ⟨e, w'', fr, h1, h2, h3⟩ := h cs
  exact ⟨e, w'', fr, h1, Comes.of_steps (hs cs) h2, h3⟩

theorem Reach.one {f : FuncId} {k k' : List Item} {a a' : Act} {w w' : World} {R : Ending → World → Prop} (h : Reach P f k' a' w' R) (hs : ∀ cs, step P (lone ((baseFr f).at a k) cs w) = .next (lone ((baseFr f).at a' k') cs w')) : Reach P f k a w R :=
  h.steps fun cs => .one (hs cs)

theorem Reach.of_wp {f : FuncId} {c : Code} {k : List Item} {a : Act} {w : World} {R : Ending → World → Prop} (h : c.wp P (fun e a' w' => e = .normal ∧ Reach P f k a' w' R) a w) : Reach P f (.code c :: k) a w R := by
  intro cs
  obtain ⟨e, a', w', ⟨rfl, hr⟩, harr⟩ := h (baseFr f) k cs
  obtain ⟨e, w'', fr, h1, h2, h3⟩ := hr cs
  exact ⟨e, w'', fr, h1, Comes.of_steps harr h2, h3⟩

theorem Reach.ret {f : FuncId} {fn : Func} (hf : P.funcs[f]? = some fn) {k : List Item} {a : Act} {w : World} {R : Ending → World → Prop} (hd : a.defers = []) {v : Value} (hv : (results fn a.tmps).run P w = .ok v w) (h : R (.returned v) w) : Reach P f (.code .ret :: k) a w R :=
  fun cs => ⟨.returned v, w, _, h, Steps.one step_ret, rfl, rfl, hd, rfl, fn, hf, hv⟩

theorem Reach.end {f : FuncId} {fn : Func} (hf : P.funcs[f]? = some fn) {a : Act} {w : World} {R : Ending → World → Prop} (hd : a.defers = []) {v : Value} (hv : (results fn a.tmps).run P w = .ok v w) (h : R (.returned v) w) : Reach P f [] a w R :=
  fun cs => ⟨.returned v, w, _, h, Steps.one step_end, rfl, rfl, hd, rfl, fn, hf, hv⟩

theorem calls_of_reach {f : FuncId} {fn : Func} {c : Code} {args : Array Value} {w : World} {R : Ending → World → Prop} (hf : P.funcs[f]? = some fn) (hb : fn.body = some c)
    (h : Reach P f [.code c] { tmps := args ++ Array.replicate (fn.ntmps - args.size) undef, defers := [] } w R) : Calls P f args w R := by
  intro cs
  obtain ⟨e, w', fr, h1, h2, h3⟩ := h cs
  have henter : Frame.enter P f args .normal = (baseFr f).at { tmps := args ++ Array.replicate (fn.ntmps - args.size) undef, defers := [] } [.code c] := by
    simp [Frame.enter, Frame.at, hf, hb, baseFr]
  exact ⟨e, w', fr, h1, by rw [henter]; exact h2, h3⟩

/-! ### Places in a function's text -/
def codeAt : Code → List Nat → Code
  | c, [] => c
  | .seq a b, i :: p => if i = 0 then codeAt a p else codeAt b p
  | .cond _ a b, i :: p => if i = 0 then codeAt a p else codeAt b p
  | .block _ a, _ :: p => codeAt a p
  | .loop a, _ :: p => codeAt a p
  | _, _ :: _ => .skip

theorem codeAt_append : ∀ (c : Code) (p q : List Nat), codeAt c (p ++ q) = codeAt (codeAt c p) q
  | c, [], q => by cases c <;> rfl
  | .seq a b, i :: p, q => by
    simp only [List.cons_append, codeAt]
    split
    · exact codeAt_append a p q
    · exact codeAt_append b p q
  | .cond _ a b, i :: p, q => by
    simp only [List.cons_append, codeAt]
    split
    · exact codeAt_append a p q
    · exact codeAt_append b p q
  | .block _ a, i :: p, q => by simp only [List.cons_append, codeAt]; exact codeAt_append a p q
  | .loop a, i :: p, q => by simp only [List.cons_append, codeAt]; exact codeAt_append a p q
  | .skip, i :: p, q => by cases q <;> rfl
  | .region .., i :: p, q => by cases q <;> rfl
  | .rangeFunc .., i :: p, q => by cases q <;> rfl
  | .exit .., i :: p, q => by cases q <;> rfl
  | .scope .., i :: p, q => by cases q <;> rfl
  | .label .., i :: p, q => by cases q <;> rfl
  | .goto .., i :: p, q => by cases q <;> rfl
  | .ret, i :: p, q => by cases q <;> rfl
  | .refuse .., i :: p, q => by cases q <;> rfl

inductive PI where
  | code (p : List Nat)
  | blk (id : Nat)
  | loop (p : List Nat)
  deriving Inhabited

def PI.dec (B : Code) : PI → Item
  | .code p => .code (codeAt B p)
  | .blk id => .inBlock id
  | .loop p => .inLoop (codeAt B (p ++ [0]))

def exitP (id : Nat) : List PI → Option (List PI)
  | .blk id' :: k => if id' == id then some k else exitP id k
  | _ :: k => exitP id k
  | [] => none

theorem exitP_dec (B : Code) (id : Nat) : ∀ (k k' : List PI), exitP id k = some k' → exitTo id (k.map (PI.dec B)) = some (k'.map (PI.dec B))
  | [], _, h => by cases h
  | .blk id' :: k, k', h => by
    simp only [exitP] at h
    simp only [List.map_cons, PI.dec, exitTo]
    split
    · rename_i e
      rw [if_pos e] at h
      injection h with h
      rw [h]
    · rename_i e
      rw [if_neg e] at h
      exact exitP_dec B id k k' h
  | .code p :: k, k', h => by
    simp only [List.map_cons, PI.dec, exitTo]
    exact exitP_dec B id k k' h
  | .loop p :: k, k', h => by
    simp only [List.map_cons, PI.dec, exitTo]
    exact exitP_dec B id k k' h

structure Fn where
  f : FuncId
  B : Code
  n : Nat

/-- From here on, whatever fits the abstract state comes to R. -/
def AR (P : Program) (G : Tab) (F : Fn) (c0 : Ctx) (R : Ending → World → Prop) (k : List PI) (t : Tmps) (h : List AO) : Prop :=
  ∀ (C : Ctx) (a : Act), Step c0 C → ARel G.S C t h F.n a → Reach P F.f (k.map (PI.dec F.B)) a C.w R

variable {G : Tab} {F : Fn} {c0 : Ctx} {R : Ending → World → Prop}

/-- what becomes of a region, given its walk -/
def Fin (P : Program) (G : Tab) (F : Fn) (c0 : Ctx) (R : Ending → World → Prop) (ops : Array Oper) (draw : Bool) (k : List PI) : List Kd → Tmps → List AO → Prop := fun ks t h => (draw = true → confOk ops ks = true) ∧ AR P G F c0 R k t h

theorem drew_kept (C : Ctx) : Kept C ⟨{ C.w with drawn := C.w.drawn + 1 }, C.m, C.X⟩ := ⟨rfl, rfl, rfl, Nat.le_refl _, fun _ _ => rfl, rfl, rfl⟩

theorem AR.region (hm : P.follows .mixedOrders = true) {k : List PI} {p : List Nat} {id : Nat} {ops : Array Oper} {draw : Bool} (hc : codeAt F.B p = .region id ops draw) {t : Tmps} {h : List AO} (D : DW P G.S F.n ops (Fin P G F c0 R ops draw k) 0 [] t h) : AR P G F c0 R (.code p :: k) t h := by
  intro C a st A
  simp only [List.map_cons, PI.dec, hc]
  refine Reach.of_wp ?_
  cases draw with
  | false =>
    refine wp_region ?_
    have := D.lex (fun e a' w' => e = .normal ∧ Reach P F.f (k.map (PI.dec F.B)) a' w' R) C a A (fun ks t h C' a' st' hf A' => ⟨rfl, hf.2 C' a' (st.trans st') A'⟩)
    simpa using this
  | true =>
    obtain ⟨ls, T, Hh, Rv, h1, h2, h3, h4, h5⟩ := D.walk (Nat.zero_le _)
    rw [List.reverse_nil, List.nil_append] at h4
    have hfree := free_of_conf (h4.1 rfl)
    have W : Walk P G.S F.n ops (fun i => ls.getD i .pure) T Hh Rv := ⟨fun j hj => by simpa using (h5 j (Nat.zero_le _) hj).1, fun j hj => (h5 j (Nat.zero_le _) hj).2⟩
    refine wp_region_any hm ?_
    have hk := drew_kept C
    have A' : ARel G.S ⟨{ C.w with drawn := C.w.drawn + 1 }, C.m, C.X⟩ t h F.n a := ⟨A.defers, A.size, fun i => (A.tmps i).step hk.toStep, A.heap.kept hk⟩
    refine any_order W hfree (C0 := C) (fun C' a' st' AA => ⟨rfl, h4.2 C' a' (st.trans st') AA⟩) ops.size (Array.replicate ops.size false) ⟨{ C.w with drawn := C.w.drawn + 1 }, C.m, C.X⟩ a hk.toStep (by simp) ?_ ?_ ?_
    · intro j i hj
      exfalso
      rw [Array.getD_eq_getD_getElem?, Array.getElem?_replicate] at hj
      split at hj <;> simp at hj
    · have : ∀ (L : Nat → Bool) m, unl L m ≤ m := by
        intro L m
        induction m with
        | zero => exact Nat.le_refl _
        | succ m ih => simp only [unl]; split <;> omega
      exact this _ _
    · have e0 : (fun j => (Array.replicate ops.size false).getD j false) = fun _ => false := by
        funext j
        rw [Array.getD_eq_getD_getElem?, Array.getElem?_replicate]
        split <;> rfl
      rw [e0]
      have e1 : ∀ m, tD ops Rv (fun _ => false) (lk (T 0)) m = lk (T 0) := by
        intro m
        induction m with
        | zero => rfl
        | succ m ih => simp only [tD, Bool.false_eq_true, if_false, ih]
      have e2 : ∀ m, hD (fun i => ls.getD i .pure) Hh (fun _ => false) (Hh 0) m = Hh 0 := by
        intro m
        induction m with
        | zero => rfl
        | succ m ih => simp only [hD, Bool.false_and, Bool.false_eq_true, if_false]; simpa [hD] using ih
      rw [e1, e2, h2, h3]
      exact A'.toF
end Go.Sh
