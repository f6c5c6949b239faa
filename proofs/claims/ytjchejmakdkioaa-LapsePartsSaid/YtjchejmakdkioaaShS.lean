import Derived.Test.YtjchejmakdkioaaShR
set_option linter.unusedVariables false
set_option linter.unusedSimpArgs false
namespace Go.Sh
variable {P : Program} {G : Tab} {S : Sizes}
variable {F : Fn} {c0 : Ctx} {R : Ending → World → Prop}
variable {n : Nat} {ops : Array Oper}

def normE (o : Nat) (t : Tmps) (h : List AO) : Option (Tmps × List AO) :=
  match h[o]? with
  | some (.row e rows kv app) => if h.all (noRowO o) then some (t.map fun p => (p.1, renA o kv p.2), h.set o (.row e rows 0 app)) else none
  | _ => none
theorem AR.norm' (o : Nat) (hc0 : c0.m.length = 0) {k : List PI} {t t' : Tmps} {h h' : List AO} (e : normE o t h = some (t', h')) (A : AR P G F c0 R k t' h') : AR P G F c0 R k t h := by
  unfold normE at e
  split at e
  · rename_i ho
    split at e
    · rename_i hcl
      injection e with e
      injection e with e1 e2
      exact AR.norm o (by omega) ho hcl e1 e2 A
    · cases e
  · cases e
def dropE (N : Nat) (t : Tmps) (h : List AO) : Option (Tmps × List AO) :=
  if (h.take N).all (belowO N) then some (t.map fun p => (p.1, cutA N p.2), h.take N) else none
theorem AR.drop' (N : Nat) (hc0 : c0.m.length = 0) {k : List PI} {t t' : Tmps} {h h' : List AO} (e : dropE N t h = some (t', h')) (A : AR P G F c0 R k t' h') : AR P G F c0 R k t h := by
  unfold dropE at e
  split at e
  · rename_i hb
    injection e with e
    injection e with e1 e2
    exact AR.drop N (by omega) hb e1 e2 A
  · cases e

def nilOr (rows : List AV) (b : Bool) : Bool :=
  match b with
  | true => true
  | false => match rows with
    | [] => true
    | _ => false
theorem nilOr_spec {rows : List AV} {b : Bool} (h : nilOr rows b = true) : rows = [] ∨ b = true := by
  cases b with
  | true => exact .inr rfl
  | false =>
    cases rows with
    | nil => exact .inl rfl
    | cons _ _ => cases h

def adoptE (i : Nat) (e : TypeId) (t : Tmps) (h : List AO) : Option (Tmps × List AO) :=
  match lk t i with
  | .sl e0 rows true => if nilOr rows (decide (e = e0)) = true then some (setT t (some i) (.own h.length 0), h ++ [.row e rows 0 true]) else none
  | _ => none
theorem AR.adopt' (i : Nat) (e : TypeId) {k : List PI} {t t' : Tmps} {h h' : List AO} (q : adoptE i e t h = some (t', h')) (A : AR P G F c0 R k t' h') : AR P G F c0 R k t h := by
  unfold adoptE at q
  split at q
  · rename_i e0 rows hi
    split at q
    · rename_i he
      injection q with q
      injection q with q1 q2
      subst q1; subst q2
      refine AR.adopt i e hi ?_ A
      rcases nilOr_spec he with he | he
      · exact .inl he
      · exact .inr (of_decide_eq_true he)
    · cases q
  · cases q

/-! ### append -/
def appE (G : Tab) (n : Nat) (ops : Array Oper) (i : Nat) (t : Tmps) (h : List AO) : Option (Nat × Nat × TypeId × List AV × List AV × Nat) :=
  match opAt n ops i t with
  | some (.call { callee := .builtin .append, args := xs, argTypes := ts }) =>
    match xs.toList, ts.toList with
    | [x, y], [ty, ty'] =>
      match G.kind ty, ev t x, conv h (ev t y) with
      | .slice e, .own o k, some (.sl e' rows2 _) =>
        match G.get e, h[o]? with
        | some ei, some (.row e'' rows k' true) => if ty = ty' ∧ e = e' ∧ e = e'' ∧ k = k' ∧ 0 < ei.size ∧ 0 < ei.bytes ∧ bslOk (fun _ => (0, 0)) (ev t y) = true then some (o, k, e, rows, rows2, ei.bytes) else none
        | _, _ => none
      | _, _, _ => none
    | _, _ => none
  | _ => none

theorem LSpec.append' (hG : G.ok P) {α : Type} (f : α → AV) (A B : List α) (o k e by_ : Nat) {i : Nat} {t : Tmps} {h : List AO} (hfit : (A.length + B.length) * by_ ≤ reach) (q : appE G n ops i t h = some (o, k, e, A.map f, B.map f, by_)) :
    LSpec P G.S n ops i .loud t h (.own o (k + 1)) (h.set o (.row e ((A ++ B).map f) (k + 1) true)) := by
  unfold appE at q
  split at q
  · rename_i xs ts hop
    split at q
    · rename_i x y ty ty' hxs hts
      split at q
      · rename_i e0 o0 k0 e1 rows2 fl hk hx hy
        split at q
        · rename_i ei e2 rows k1 he ho
          split at q
          · rename_i hh
            obtain ⟨q1, q2, q3, q4, q5, q6, q7⟩ := hh
            injection q with q
            injection q with p1 q; injection q with p2 q; injection q with p3 q; injection q with p4 q; injection q with p5 p6
            subst q1; subst q2; subst q3; subst q4; subst p1; subst p2; subst p3; subst p4; subst p5; subst p6
            have hxs' : xs = #[x, y] := by apply Array.ext'; simpa using hxs
            have hts' : ts = #[ty, ty] := by apply Array.ext'; simpa using hts
            subst hxs'; subst hts'
            rw [List.map_append]
            exact LSpec.append hG hop hk he q5 q6 hx ho hy q7 (by simpa using hfit)
          · cases q
        · cases q
      · cases q
    · cases q
  · cases q

theorem conv_push {h : List AO} {x : AO} {a r : AV} (q : conv h a = some r) : conv (h ++ [x]) a = some r := by
  have key : ∀ (o : Nat) (ob : AO), h[o]? = some ob → (h ++ [x])[o]? = some ob := by
    intro o ob ho
    have : o < h.length := (List.getElem?_eq_some_iff.1 ho).1
    rw [List.getElem?_append_left this, ho]
  cases a with
  | own o k =>
    simp only [conv] at q ⊢
    split at q
    · rename_i ho; rw [key _ _ ho]; exact q
    · cases q
  | bsl e o off n =>
    simp only [conv] at q ⊢
    split at q
    · rename_i ho; rw [key _ _ ho]; exact q
    · cases q
  | _ => exact q

def appNE (G : Tab) (n : Nat) (ops : Array Oper) (i : Nat) (t : Tmps) (h : List AO) : Option (TypeId × List AV × List AV × Nat) :=
  match opAt n ops i t with
  | some (.call { callee := .builtin .append, args := xs, argTypes := ts }) =>
    match xs.toList, ts.toList with
    | [x, y], [ty, ty'] =>
      match G.kind ty, ev t x, conv h (ev t y) with
      | .slice e, .sl e0 rows true, some (.sl e' rows2 _) =>
        match G.get e with
        | some ei => if ty = ty' ∧ e = e' ∧ nilOr rows (decide (e = e0)) = true ∧ 0 < ei.size ∧ 0 < ei.bytes ∧ bslOk (fun _ => (0, 0)) (ev t y) = true then some (e, rows, rows2, ei.bytes) else none
        | _ => none
      | _, _, _ => none
    | _, _ => none
  | _ => none

/-- append to a slice without spare room: a new row of ours -/
theorem LSpec.appendN (hG : G.ok P) {α : Type} (f : α → AV) (A B : List α) (e by_ : Nat) {i : Nat} {t : Tmps} {h : List AO} (hfit : (A.length + B.length) * by_ ≤ reach) (q : appNE G n ops i t h = some (e, A.map f, B.map f, by_)) :
    LSpec P G.S n ops i .loud t h (.own h.length 1) (h ++ [.row e ((A ++ B).map f) 1 true]) := by
  unfold appNE at q
  split at q
  · rename_i xs ts hop
    split at q
    · rename_i x y ty ty' hxs hts
      split at q
      · rename_i e1 e0 rows e2 rows2 fl hk hx hy
        split at q
        · rename_i ei he
          split at q
          · rename_i hh
            obtain ⟨q1, q2, q3, q5, q6, q7⟩ := hh
            injection q with q
            injection q with p3 q; injection q with p4 q; injection q with p5 p6
            subst q1; subst q2; subst p3; subst p4; subst p5; subst p6
            have hxs' : xs = #[x, y] := by apply Array.ext'; simpa using hxs
            have hts' : ts = #[ty, ty] := by apply Array.ext'; simpa using hts
            subst hxs'; subst hts'
            refine (opAt_spec hop).spec (fun hh => absurd rfl hh) fun op ρv C h2 hoq H hh hρ => ?_
            have hh := hh (by simp)
            subst hh
            have hxv := hρ x (by simp [Op.operands, Call.operands])
            have hyv := hρ y (by simp [Op.operands, Call.operands])
            rw [hx] at hxv
            obtain ⟨d, hd, hf⟩ := kind_desc hG hk (by simp)
            simp only [TK.fits] at hf
            subst hf
            obtain ⟨dst, op, oty, pos, after, guard⟩ := op
            simp only at hoq
            subst hoq
            have hrel : RelV G.S C (.sl e1 (A.map f) true) [ρv x] := by
              obtain ⟨b, c, s1, s2, s3, s4, s5, s6⟩ := (hxv : RelV G.S C (.sl e0 (A.map f) true) [ρv x])
              rcases nilOr_spec q3 with hnil | q3
              · rw [hnil] at s1 s2 s3 ⊢; exact ⟨b, c, s1, s2, s3, s4, by simp [reach], .inl rfl⟩
              · have := of_decide_eq_true q3; subst this; exact ⟨b, c, s1, s2, s3, s4, s5, s6⟩
            have h1v : (ρv x).oneCell' = true := RelV.one _ _ hrel _ (by simp)
            have hb : (A.map f).length * (G.S e1).2 ≤ reach := by
              obtain ⟨_, _, _, _, _, _, s5, _⟩ := hrel
              exact s5
            obtain ⟨st', hpush⟩ := HRel.push (S := G.S) (C' := ⟨C.w, C.m ++ [.row (ρv x) 0 false], C.X⟩) (s := .row (ρv x) 0 false) (ob := .row e1 (A.map f) 0 true) H (Nat.le_refl _) rfl rfl rfl (fun _ _ => rfl) rfl rfl (fun b hb => by simp [Slot.block] at hb)
            have H1 := hpush ⟨rfl, hb, fun _ => RelV.step st' _ _ hrel, by simp⟩
            have hown : VRel G.S ⟨C.w, C.m ++ [.row (ρv x) 0 false], C.X⟩ (.own h2.length 0) (ρv x) := by
              refine ⟨ρv x, ρv x, 0, false, rfl, h1v, ?_, Nat.le_refl _, fun _ => rfl⟩
              show (C.m ++ [Slot.row (ρv x) 0 false])[h2.length]? = _
              rw [← H.len]
              simp
            obtain ⟨v', C', g1, g2, g3, g4⟩ := append_run hG (ty := oty) hd he q5 q6 H1 (o := h2.length) (k := 0) (rows := A.map f) (by simp) hown (fun e o off n hc => by rw [hc] at q7; simp [bslOk] at q7) (conv_push hy) (hyv.step st') (by simpa using hfit)
            refine ⟨C', st'.trans g2, ?_, .inl ⟨v', ?_, by simpa using g4⟩⟩
            · rw [List.map_append]
              simpa using g3
            · simp only [execOp, resolve, Sem.run_bind, Sem.run_pure, Result.andThen_ok, invoke, builtin, List.map_toArray, List.map_cons, List.map_nil, g1]
          · cases q
        · cases q
      · cases q
    · cases q
  · cases q

/-! ### s[l:u], s[l:u:m] -/
def bndE (t : Tmps) (o : Option Operand) : Option (Option Int) :=
  match o with
  | none => some none
  | some x => match ev t x with | .sc (.int _ n) => some (some n) | _ => none
def sliceE (G : Tab) (n : Nat) (ops : Array Oper) (i : Nat) (t : Tmps) : Option (TypeId × List AV × Bool × Option Int × Option Int × Option Int) :=
  match opAt n ops i t with
  | some (.slice ty x lo hi mx) =>
    match G.kind ty, ev t x, bndE t lo, bndE t hi, bndE t mx with
    | .slice e, .sl e0 rows f, some l, some u, some m => if (G.get e).isSome = true ∧ nilOr rows (decide (e0 = e)) = true then some (e, rows, f, l, u, m) else none
    | _, _, _, _, _ => none
  | _ => none
theorem bndE_bnd {t : Tmps} {o : Option Operand} {d k : Nat} {b : Option Int} (h : bndE t o = some b) (hb : b.getD d = k) : bnd t o d k := by
  unfold bndE at h
  unfold bnd
  split at h
  · injection h with h; subst h
    simp only [Option.getD_none] at hb
    exact (Int.ofNat.inj hb).symm
  · rename_i x
    split at h
    · rename_i kd m hx
      injection h with h; subst h
      simp only [Option.getD_some] at hb
      subst hb
      exact ⟨kd, hx⟩
    · cases h

theorem LSpec.slice' (hG : G.ok P) {α : Type} (f : α → AV) (A A' : List α) (e : Nat) (fl fl' : Bool) (l u m : Option Int) (l0 u0 : Nat) {i : Nat} {t : Tmps} {h : List AO} (q : sliceE G n ops i t = some (e, A.map f, fl, l, u, m))
    (hl : l.getD 0 = l0) (hu : u.getD A.length = u0) (hm : ∀ y, m = some y → y = u0 ∧ u ≠ none) (h1 : l0 ≤ u0) (h2 : u0 ≤ A.length) (hA : (A.drop l0).take (u0 - l0) = A') (hf : fl' = true → m ≠ none ∨ (fl = true ∧ u0 = A.length)) :
    LSpec P G.S n ops i .pure t h (.sl e (A'.map f) fl') h := by
  unfold sliceE at q
  split at q
  · rename_i ty x lo hi mx hop
    split at q
    · rename_i e1 e0 rows fl1 l1 u1 m1 hk hx hlo hhi hmx
      split at q
      · rename_i hh
        obtain ⟨q1, q2⟩ := hh
        injection q with q
        injection q with p1 q; injection q with p2 q; injection q with p3 q; injection q with p4 q; injection q with p5 p6
        subst p1; subst p2; subst p3; subst p4; subst p5; subst p6
        refine LSpec.slice hG l0 u0 hop hk q1 hx ?_ (bndE_bnd hlo hl) (bndE_bnd hhi (by simpa using hu)) ?_ h1 (by simpa using h2) ?_ ?_
        · rcases nilOr_spec q2 with hnil | q2
          · exact .inr hnil
          · exact .inl (of_decide_eq_true q2)
        · intro y hy
          subst hy
          simp only [bndE] at hmx
          split at hmx
          · rename_i kd mm hxm
            injection hmx with hmx; subst hmx
            obtain ⟨r1, r2⟩ := hm mm rfl
            subst r1
            refine ⟨⟨kd, hxm⟩, fun hn => r2 ?_⟩
            subst hn
            simp only [bndE] at hhi
            injection hhi with hhi
            exact hhi.symm
          · cases hmx
        · rw [← hA, List.map_take, List.map_drop]
        · intro hq
          rcases hf hq with r | ⟨r1, r2⟩
          · left
            intro hn
            subst hn
            simp only [bndE] at hmx
            injection hmx with hmx
            exact r hmx.symm
          · exact .inr ⟨r1, by simpa using r2⟩
      · cases q
    · cases q
  · cases q

/-! ### == of structs and arrays -/
def eqE (P : Program) (n : Nat) (ops : Array Oper) (i : Nat) (t : Tmps) (m : Nat) : Option Bool :=
  match opAt n ops i t with
  | some (.binOp op xt x y _) =>
    match chunks (ev t x), chunks (ev t y), P.underlying xt, leafK P m xt with
    | some fs, some gs, some d, some ls =>
      if (ev t x).single = false ∧ (ev t y).single = false ∧ isAggD d = true ∧ clsL fs = ls ∧ P.eqGuardType P.depth xt = false ∧ m ≤ 10000 then
        match op, cmpAL fs gs with
        | .eql, some r => some r
        | .neq, some r => some (!r)
        | _, _ => none
      else none
    | _, _, _, _ => none
  | _ => none
theorem LSpec.eq' (m : Nat) {i : Nat} {t : Tmps} {h : List AO} {r : Bool} (q : eqE P n ops i t m = some r) : LSpec P S n ops i .pure t h (.sc (.bool r)) h := by
  unfold eqE at q
  split at q
  · rename_i op xt x y yt hop
    split at q
    · rename_i fs gs d ls hfs hgs hd hls
      split at q
      · rename_i hh
        obtain ⟨q1, q2, q3, q4, q5, q6⟩ := hh
        split at q
        · rename_i r' hc
          injection q with q; subst q
          have := LSpec.eqAgg (P := P) (S := S) (h := h) m q6 false hop rfl rfl rfl hfs hgs q1 q2 hd q3 hls q4 q5 hc
          simpa using this
        · rename_i r' hc
          injection q with q; subst q
          have := LSpec.eqAgg (P := P) (S := S) (h := h) m q6 true hop rfl rfl rfl hfs hgs q1 q2 hd q3 hls q4 q5 hc
          simpa using this
        · cases q
      · cases q
    · cases q
  · cases q

/-! ### loops -/
def loopO {E α : Type} (x : Option (Sum E α)) (f : E → Option α) : Option α :=
  match x with
  | none => none
  | some (.inl v) => f v
  | some (.inr r) => some r
theorem loopO_some {E α : Type} {x : Option (Sum E α)} {f : E → Option α} {r : α} (h : loopO x f = some r) : (∃ v, x = some (.inl v) ∧ f v = some r) ∨ x = some (.inr r) := by
  match x, h with
  | none, h => cases h
  | some (.inl v), h => exact .inl ⟨v, rfl, h⟩
  | some (.inr r'), h => injection h with h; subst h; exact .inr rfl

theorem ACalls.wk {f : FuncId} {as bs : List AV} {h h' : List AO} {r : AV} (hw : Wks S as bs) (hc : ACalls P S f bs h r h') : ACalls P S f as h r h' :=
  ⟨hc.1, fun C vals H hv => hc.2 C vals H (hw.rel hv)⟩
end Go.Sh
namespace Go.Sh
variable {P : Program} {G : Tab} {n : Nat} {ops : Array Oper}
/-- s[l:u:m], within the length; m, where it is told, the end -/
def sliceO {α : Type} (A : List α) (l u m : Option Int) : Option (List α) :=
  if 0 ≤ l.getD 0 ∧ l.getD 0 ≤ u.getD A.length ∧ u.getD A.length ≤ A.length ∧ (m = none ∨ (m = u ∧ u ≠ none)) then some ((A.drop (l.getD 0).toNat).take ((u.getD A.length).toNat - (l.getD 0).toNat)) else none
theorem LSpec.sliceO (hG : G.ok P) {α : Type} (f : α → AV) (A : List α) (e : Nat) (fl fl' : Bool) (l u m : Option Int) {i : Nat} {t : Tmps} {h : List AO} {A' : List α} (q0 : sliceO A l u m = some A') (hf : (!fl' || m.isSome || (fl && u.isNone)) = true) (q : sliceE G n ops i t = some (e, A.map f, fl, l, u, m)) :
    LSpec P G.S n ops i .pure t h (.sl e (A'.map f) fl') h := by
  unfold Go.Sh.sliceO at q0
  split at q0
  · rename_i hh
    obtain ⟨h1, h2, h3, h4⟩ := hh
    injection q0 with q0
    refine LSpec.slice' hG f A A' e fl fl' l u m (l.getD 0).toNat (u.getD A.length).toNat q (by omega) (by omega) ?_ (by omega) (by omega) q0 ?_
    · intro y hy
      rcases h4 with h4 | ⟨h4, h5⟩
      · rw [h4] at hy; cases hy
      · rw [hy] at h4
        refine ⟨?_, h5⟩
        rw [← h4] at h2 h3 ⊢
        simp only [Option.getD_some] at h2 h3 ⊢
        omega
    · intro hfl
      subst hfl
      cases m with
      | some _ => exact .inl (by simp)
      | none =>
        cases u with
        | some _ => simp at hf
        | none => right; simp at hf; exact ⟨hf, by simp⟩
  · cases q0
end Go.Sh
namespace Go.Sh
def loopP {E E' α : Type} (x : Option (Sum E α)) (f : E → Option (Sum E' α)) : Option (Sum E' α) :=
  match x with
  | none => none
  | some (.inl v) => f v
  | some (.inr r) => some (.inr r)
theorem loopP_some {E E' α : Type} {x : Option (Sum E α)} {f : E → Option (Sum E' α)} {res : Sum E' α} (h : loopP x f = some res) : (∃ v, x = some (.inl v) ∧ f v = some res) ∨ ∃ r, x = some (.inr r) ∧ res = .inr r := by
  match x, h with
  | none, h => cases h
  | some (.inl v), h => exact .inl ⟨v, rfl, h⟩
  | some (.inr r'), h => injection h with h; subst h; exact .inr ⟨r', rfl, rfl⟩
end Go.Sh
