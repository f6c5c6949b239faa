import Derived.Test.YtjchejmakdkioaaShS
import Derived.Laws.Cover3
set_option linter.unusedVariables false
set_option linter.unusedSimpArgs false
namespace Go.Sh
variable {P : Program} {G : Tab} {n : Nat} {ops : Array Oper}
/-- one operation, by a law of its own that looks at constants too -/
theorem OpAt.specC {n : Nat} {ops : Array Oper} {i : Nat} {t : Tmps} {op : Op} (K : OpAt n ops i t op) {S : Sizes} {h : List AO} {r : AV}
    (hrun : ∀ (o : Oper) (ρv : Operand → Value) (C : Ctx) (h2 : List AO), o.op = op → HRel S C h2 → (∀ v, ρv (.const v) = v) → (∀ x ∈ op.operands, VRel S C (ev t x) (ρv x)) → OpOK P S o ρv C r h2) : LSpec P S n ops i .pure t h r h := by
  refine ⟨K.lt, K.dst, fun _ => rfl, fun t2 h2 C a hl hh A Q N hN => ?_⟩
  obtain ⟨o, ho, hop, hg, hd⟩ := K.at_
  have hl' := hl o ho
  unfold wpOp
  rw [ho]
  simp only [guard_wanted hg hl' A, if_true]
  refine .inl ?_
  have hev : ∀ y ∈ op.operands, VRel S C (ev t y) (a.eval y) := by
    intro y hy
    have h1 := A.ev y
    have h2 := looks_op (hop ▸ hy) hl'
    cases y with
    | tmp j =>
      have := h2 j rfl
      simp only [evF] at h1
      rw [this] at h1
      exact h1
    | const v => exact h1
    | func g => exact h1
    | global g => exact h1
  obtain ⟨C', st, H', hr⟩ := hrun o a.eval C h2 hop A.heap (fun _ => rfl) hev
  unfold Oper.wp
  rcases hr with ⟨v, h1, h2⟩ | ⟨h1, h2⟩
  · rw [h1]
    have := hN C' v st h2 (by simpa using H')
    rw [ho] at this
    exact this
  · rw [h1]
    have := hN C' undef st (by rw [h2]; trivial) (by simpa using H')
    rw [ho] at this
    exact this

/-! ### s == nil -/
theorem run_eqNil (t e : TypeId) (a : Option Addr) (l c : Nat) (w : World) (h : P.underlying t = some (.slice e)) : (binOp .eql t (.slice a l c) (.slice none 0 0)).run P w = .ok (.bool a.isNone) w := by
  simp only [binOp]
  simp [run_equal_slice_nil w t e a l c h]

def nilEqE (G : Tab) (n : Nat) (ops : Array Oper) (i : Nat) (t : Tmps) : Option (Option Addr × Nat × Nat) :=
  match opAt n ops i t with
  | some (.binOp .eql xt x (.const (.slice none 0 0)) _) =>
    match G.kind xt, ev t x with
    | .slice _, .sc (.slice p n c) => some (p, n, c)
    | _, _ => none
  | _ => none
/-- of a slice whose header is known -/
theorem LSpec.nilEq (hG : G.ok P) {i : Nat} {t : Tmps} {h : List AO} {p : Option Addr} {l c : Nat} (q : nilEqE G n ops i t = some (p, l, c)) : LSpec P G.S n ops i .pure t h (.sc (.bool p.isNone)) h := by
  unfold nilEqE at q
  split at q
  · rename_i xt x yt hop
    split at q
    · rename_i e p' n' c' hk hx
      injection q with q
      injection q with q1 q
      injection q with q2 q3
      subst q1; subst q2; subst q3
      refine (opAt_spec hop).specC fun o ρv C h2 ho H hcst hρ => ?_
      have hxv := hρ x (by simp [Op.operands])
      rw [hx] at hxv
      have hxv := sc_inv hxv
      obtain ⟨d, hd, hf⟩ := kind_desc hG hk (by simp)
      simp only [TK.fits] at hf
      subst hf
      obtain ⟨dst, op, oty, pos, after, guard⟩ := o
      simp only at ho
      subst ho
      refine OpOK.same (v := .bool p'.isNone) H ?_ ⟨rfl, rfl⟩
      simp only [execOp, hxv, hcst, Sem.run_bind]
      have hgd : (eqGuard .eql xt x (.const (.slice none 0 0)) (.slice p' n' c') (.slice none 0 0)).run P C.w = .ok () C.w := by simp [eqGuard]
      simp only [hgd, Result.andThen_ok, run_eqNil xt _ p' n' c' C.w hd, Sem.run_pure]
    · cases q
  · cases q

def neNilE (G : Tab) (n : Nat) (ops : Array Oper) (i : Nat) (t : Tmps) : Bool :=
  match opAt n ops i t with
  | some (.binOp .eql xt x (.const (.slice none 0 0)) _) =>
    match G.kind xt, ev t x with
    | .slice _, .sl _ (_ :: _) _ => true
    | _, _ => false
  | _ => false
/-- of a slice that isn't empty -/
theorem LSpec.neNil (hG : G.ok P) {i : Nat} {t : Tmps} {h : List AO} (q : neNilE G n ops i t = true) : LSpec P G.S n ops i .pure t h (.sc (.bool false)) h := by
  unfold neNilE at q
  split at q
  · rename_i xt x yt hop
    split at q
    · rename_i e e' a r f hk hx
      refine (opAt_spec hop).specC fun o ρv C h2 ho H hcst hρ => ?_
      have hxv := hρ x (by simp [Op.operands])
      rw [hx] at hxv
      obtain ⟨p, c, s1, s2, s3, s4, s5, s6⟩ := sl_inv hxv
      obtain ⟨d, hd, hf⟩ := kind_desc hG hk (by simp)
      simp only [TK.fits] at hf
      subst hf
      obtain ⟨dst, op, oty, pos, after, guard⟩ := o
      simp only at ho
      subst ho
      rcases s6 with s6 | ⟨b, off, s6, _, _⟩
      · cases s6
      · subst s6
        refine OpOK.same (v := .bool false) H ?_ ⟨rfl, rfl⟩
        simp only [execOp, s1, hcst, Sem.run_bind]
        have hgd : (eqGuard .eql xt x (.const (.slice none 0 0)) (.slice (some ⟨b, off, none⟩) (a :: r).length c) (.slice none 0 0)).run P C.w = .ok () C.w := by simp [eqGuard]
        simp only [hgd, Result.andThen_ok, run_eqNil xt _ _ _ _ C.w hd, Sem.run_pure]
        rfl
    · cases q
  · cases q

def app0E (G : Tab) (n : Nat) (ops : Array Oper) (i : Nat) (t : Tmps) : Option (TypeId × List AV × Bool) :=
  match opAt n ops i t with
  | some (.call { callee := .builtin .append, args := xs, argTypes := ts }) =>
    match xs.toList, ts.toList with
    | [x, y], [ty, ty'] =>
      match G.kind ty, ev t x, ev t y with
      | .slice e, .sl e0 rows f, .sc (.slice _ 0 _) => if ty = ty' ∧ (G.get e).isSome = true then some (e0, rows, f) else none
      | _, _, _ => none
    | _, _ => none
  | _ => none
/-- append of nothing -/
theorem LSpec.app0 (hG : G.ok P) {i : Nat} {t : Tmps} {h : List AO} {e0 : TypeId} {rows : List AV} {f : Bool} (q : app0E G n ops i t = some (e0, rows, f)) : LSpec P G.S n ops i .pure t h (.sl e0 rows f) h := by
  unfold app0E at q
  split at q
  · rename_i xs ts hop
    split at q
    · rename_i x y ty ty' hxs hts
      split at q
      · rename_i e e1 rows' f' p c hk hx hy
        split at q
        · rename_i hh
          obtain ⟨hty, he⟩ := hh
          injection q with q
          injection q with q1 q
          injection q with q2 q3
          subst q1; subst q2; subst q3; subst hty
          have hxs' : xs = #[x, y] := by apply Array.ext'; simpa using hxs
          have hts' : ts = #[ty, ty] := by apply Array.ext'; simpa using hts
          subst hxs'; subst hts'
          refine (opAt_spec hop).specC fun o ρv C h2 ho H hcst hρ => ?_
          have hxv := hρ x (by simp [Op.operands, Call.operands])
          have hyv := hρ y (by simp [Op.operands, Call.operands])
          rw [hx] at hxv
          rw [hy] at hyv
          have hyv := sc_inv hyv
          obtain ⟨a, c', s1, s2, s3, s4, s5, s6⟩ := sl_inv hxv
          obtain ⟨d, hd, hf⟩ := kind_desc hG hk (by simp)
          simp only [TK.fits] at hf
          subst hf
          obtain ⟨ei, hei⟩ := Option.isSome_iff_exists.1 he
          obtain ⟨inf, z, k1, _⟩ := (hG e ei hei).info
          obtain ⟨dst, op, oty, pos, after, guard⟩ := o
          simp only at ho
          subst ho
          refine OpOK.same (v := ρv x) H ?_ hxv
          have := append_zero (P := P) (w := C.w) (ty := oty) hd k1 (base := a) (A := p) (n := rows'.length) (c := c') (c2 := c) s2
          simp only [execOp, resolve, Sem.run_bind, Sem.run_pure, Result.andThen_ok, invoke, builtin, List.map_toArray, List.map_cons, List.map_nil, s1, hyv, this]
        · cases q
      · cases q
    · cases q
  · cases q

/-- an empty slice's header, told apart -/
theorem ACalls.empty {S : Sizes} {f : FuncId} {e : TypeId} {fl : Bool} {h h' : List AO} {r : AV} (hE : Ent P f) (A : ∀ p c, ACalls P S f [.sc (.slice p 0 c)] h r h') : ACalls P S f [.sl e [] fl] h r h' := by
  refine ⟨hE, fun C vals H hv => ?_⟩
  have hv0 := hv
  generalize hl : vals.toList = l at hv
  cases hv with
  | cons h1 h2 =>
    rename_i v vs
    cases h2
    obtain ⟨p, c, s1, s2, s3, s4, s5, s6⟩ := sl_inv (C := C) (S := S) h1
    refine (A p c).2 C vals H ?_
    rw [hl, s1]
    exact .cons ⟨rfl, rfl⟩ .nil
end Go.Sh
namespace Go.Sh
variable {P : Program} {G : Tab} {F : Fn} {c0 : Ctx} {R : Ending → World → Prop}
/-- an if whose two ways come together -/
theorem AR.join {k k' : List PI} {p : List Nat} {t : Tmps} {h h' : List AO} (x : Operand) (b : Bool) (hc : condOf (codeAt F.B p) = some x) (hl : ev t x = .sc (.bool b)) (t' : Bool → Tmps) (J : AR P G F c0 R k' (t' b) h')
    (ht : b = true → AR P G F c0 R k' (t' true) h' → AR P G F c0 R (.code (p ++ [0]) :: k) t h) (hf : b = false → AR P G F c0 R k' (t' false) h' → AR P G F c0 R (.code (p ++ [1]) :: k) t h) : AR P G F c0 R (.code p :: k) t h := by
  refine AR.cond x b hc hl (fun hb => ?_) (fun hb => ?_)
  · subst hb; exact ht rfl J
  · subst hb; exact hf rfl J
end Go.Sh
