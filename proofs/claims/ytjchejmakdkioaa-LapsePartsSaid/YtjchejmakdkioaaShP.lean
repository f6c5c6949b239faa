import Derived.Test.YtjchejmakdkioaaShO
import Derived.Laws.Slices
set_option linter.unusedVariables false
set_option linter.unusedSimpArgs false
namespace Go.Sh
variable {P : Program} {G : Tab} {S : Sizes}

/-! ### The same value, told with less -/
def Wk1 (S : Sizes) (a b : AV) : Prop := ∀ C cs, RelV S C a cs → RelV S C b cs
def WkV (S : Sizes) (a b : AV) : Prop := ∀ C v, VRel S C a v → VRel S C b v
inductive WkL (S : Sizes) : List AV → List AV → Prop
  | nil : WkL S [] []
  | cons {a b : AV} {as bs : List AV} : Wk1 S a b → WkL S as bs → WkL S (a :: as) (b :: bs)

theorem WkL.rel {fs gs : List AV} (h : WkL S fs gs) {C : Ctx} : ∀ {cs : List Value}, RelL S C fs cs → RelL S C gs cs := by
  induction h with
  | nil => intro cs h; exact h
  | cons h1 _ ih =>
    intro cs h
    obtain ⟨c1, c2, rfl, k1, k2⟩ := h
    exact ⟨c1, c2, rfl, h1 C _ k1, ih k2⟩

theorem Wk1.refl (a : AV) : Wk1 S a a := fun _ _ h => h
theorem Wk1.nil {e0 : TypeId} (e : TypeId) (f : Bool) : Wk1 S (.sl e0 [] true) (.sl e [] f) := by
  rintro C cs ⟨a, c, rfl, h1, h2, h3, h4, h5⟩
  exact ⟨a, c, rfl, h1, fun _ => h2 rfl, h3, by simp [reach], .inl rfl⟩
theorem Wk1.full {e : TypeId} {rows : List AV} : Wk1 S (.sl e rows true) (.sl e rows false) := by
  rintro C cs ⟨a, c, rfl, h1, h2, h3, h4, h5⟩
  exact ⟨a, c, rfl, h1, fun h => by simp at h, h3, h4, h5⟩
theorem Wk1.agg {fs gs : List AV} (h : WkL S fs gs) : Wk1 S (.agg fs) (.agg gs) := fun C cs r => h.rel r
theorem WkV.agg {fs gs : List AV} (h : WkL S fs gs) : WkV S (.agg fs) (.agg gs) := by
  rintro C v ⟨cs, rfl, r⟩
  exact ⟨cs, rfl, h.rel r⟩
theorem WkV.sl {e0 e : TypeId} {rows rows' : List AV} {f f' : Bool} (h : Wk1 S (.sl e0 rows f) (.sl e rows' f')) : WkV S (.sl e0 rows f) (.sl e rows' f') := fun C v r => h C [v] r
theorem WkV.refl (a : AV) : WkV S a a := fun _ _ h => h

theorem weak_set {t : Tmps} {i : Nat} {b : AV} (h : WkV S (lk t i) b) : Weak S (setT t (some i) b) t := by
  intro x C v hv
  rw [lk_setT]
  split
  · rename_i e; subst e; exact h C v hv
  · exact hv

theorem AR.wk {F : Fn} {c0 : Ctx} {R : Ending → World → Prop} {k : List PI} {t t' : Tmps} {h : List AO} (i : Nat) (b : AV) {a : AV} (hi : lk t i = a) (hw : WkV G.S a b) (e : setT t (some i) b = t') (A : AR P G F c0 R k t' h) : AR P G F c0 R k t h := by
  subst e; subst hi
  exact A.weak (weak_set hw)
theorem DK.wk {n : Nat} {ops : Array Oper} {kds : List Kd} {fin : Tmps → List AO → Prop} {j : Nat} {t t' : Tmps} {h : List AO} (i : Nat) (b : AV) {a : AV} (hi : lk t i = a) (hw : WkV S a b) (e : setT t (some i) b = t') (A : DK P S n ops kds fin j t' h) : DK P S n ops kds fin j t h := by
  subst e; subst hi
  exact A.weak (weak_set hw)

/-! ### What a value tells of its lengths -/
mutual
def factsA (S : Sizes) : AV → Prop
  | .arr _ n xs => xs.length = n
  | .sl e rows _ => rows.length * (S e).2 ≤ reach ∧ rows.length ≤ maxLen ∧ factsL S rows
  | .agg fs => factsL S fs
  | _ => True
def factsL (S : Sizes) : List AV → Prop
  | [] => True
  | a :: r => factsA S a ∧ factsL S r
end

mutual
theorem RelV.facts {C : Ctx} : ∀ (a : AV) (cs : List Value), RelV S C a cs → factsA S a
  | .arr k n xs, cs, h => h.1
  | .sl e rows f, cs, h => by
      obtain ⟨a, c, _, h1, _, h3, h4, h5⟩ := h
      refine ⟨h4, Nat.le_trans h1 h3, ?_⟩
      rcases h5 with h5 | ⟨b, off, _, _, h5⟩
      · subst h5; trivial
      · exact RelR.facts _ b _ rows off h5
  | .agg fs, cs, h => RelL.facts fs cs h
  | .u, _, _ => trivial
  | .sc _, _, _ => trivial
  | .own .., _, _ => trivial
  | .ptr .., _, _ => trivial
  | .ep .., _, _ => trivial
  | .el .., _, _ => trivial
  | .bsl .., _, _ => trivial
  | .fn .., _, _ => trivial
  | .tup _, _, _ => trivial
theorem RelL.facts {C : Ctx} : ∀ (fs : List AV) (cs : List Value), RelL S C fs cs → factsL S fs
  | [], _, _ => trivial
  | a :: r, _, h => by
      obtain ⟨c1, c2, _, h1, h2⟩ := h
      exact ⟨RelV.facts a c1 h1, RelL.facts r c2 h2⟩
theorem RelR.facts (C : Ctx) (b sz : Nat) : ∀ (rs : List AV) (off : Nat), RelR S C b sz rs off → factsL S rs
  | [], _, _ => trivial
  | a :: r, _, h => by
      obtain ⟨⟨cs, h1, _⟩, h2⟩ := h
      exact ⟨RelV.facts a cs h1, RelR.facts C b sz r _ h2⟩
end

theorem VRel.facts {C : Ctx} {a : AV} {v : Value} (h : VRel S C a v) : factsA S a := by
  cases a with
  | agg fs => obtain ⟨cs, _, r⟩ := h; exact RelL.facts fs _ r
  | arr k n xs => exact h.1
  | tup vs => trivial
  | u => trivial
  | sl e rows f => exact RelV.facts (C := C) _ [v] h
  | _ => trivial

theorem AR.facts {F : Fn} {c0 : Ctx} {R : Ending → World → Prop} {k : List PI} {t : Tmps} {h : List AO} (i : Nat) {a : AV} (hi : lk t i = a) (A : factsA G.S a → AR P G F c0 R k t h) : AR P G F c0 R k t h := by
  subst hi
  exact fun C x st AA => A (VRel.facts (AA.tmps i)) C x st AA

theorem factsL_mem : ∀ {l : List AV} {a : AV}, factsL S l → a ∈ l → factsA S a
  | b :: r, a, h, hm => by
      rcases List.mem_cons.1 hm with e | e
      · subst e; exact h.1
      · exact factsL_mem h.2 e

/-! ### Slices of slices -/
theorem RelR.drop {C : Ctx} {b sz : Nat} : ∀ (n : Nat) (rs : List AV) (off : Nat), RelR S C b sz rs off → RelR S C b sz (rs.drop n) (off + n * sz)
  | 0, rs, off, h => by simpa using h
  | n + 1, [], off, h => trivial
  | n + 1, a :: r, off, h => by
      have := RelR.drop n r (off + sz) h.2
      rw [List.drop_succ_cons, Nat.succ_mul, show off + (n * sz + sz) = off + sz + n * sz by omega]
      exact this
theorem RelR.take {C : Ctx} {b sz : Nat} : ∀ (n : Nat) (rs : List AV) (off : Nat), RelR S C b sz rs off → RelR S C b sz (rs.take n) off
  | 0, rs, off, h => trivial
  | n + 1, [], off, h => trivial
  | n + 1, a :: r, off, h => ⟨h.1, RelR.take n r _ h.2⟩

theorem sl_part {C : Ctx} {e0 e : TypeId} {rows rows' : List AV} {f f' : Bool} {a : Option Addr} {c : Nat} (r : VRel S C (.sl e0 rows f) (.slice a rows.length c)) {l h m : Nat} (h1 : l ≤ h) (h2 : h ≤ rows.length) (h3 : h ≤ m) (h4 : m ≤ c) (he : e0 = e ∨ rows = [])
    (hr : (rows.drop l).take (h - l) = rows') (hf : f' = true → m = h) : VRel S C (.sl e rows' f') (sliced a l h m (S e).1) := by
  obtain ⟨a', c', s1, s2, s3, s4, s5, s6⟩ := sl_inv r
  injection s1 with s1 s1' s1''
  subst s1; subst s1''
  have hl : rows'.length = h - l := by rw [← hr, List.length_take, List.length_drop]; omega
  have hb : rows'.length * (S e).2 ≤ reach := by
    rcases he with he | he
    · subst he
      exact Nat.le_trans (Nat.mul_le_mul_right _ (by omega)) s5
    · have : rows.length = 0 := by rw [he]; rfl
      rw [hl, show h - l = 0 by omega]
      simp [reach]
  refine ⟨if m = l then a else a.map (·.add (l * (S e).1)), m - l, by rw [hl]; rfl, by omega, fun q => ?_, by omega, hb, ?_⟩
  · have := hf q; omega
  · rcases s6 with s6 | ⟨b, off, q1, q2, q3⟩
    · left
      rw [← hr, s6]
      simp
    · subst q1
      rcases he with he | he
      · subst he
        by_cases e1 : rows' = []
        · exact .inl e1
        · right
          have : rows'.length ≠ 0 := fun q => e1 (List.eq_nil_of_length_eq_zero q)
          rw [if_neg (by omega)]
          refine ⟨b, off + l * (S e0).1, by simp [addr_add], q2, ?_⟩
          rw [← hr]
          exact RelR.take _ _ _ (RelR.drop _ _ _ q3)
      · left
        rw [← hr, he]
        simp

def bnd (t : Tmps) (o : Option Operand) (d n : Nat) : Prop :=
  match o with
  | none => n = d
  | some x => ∃ k, ev t x = .sc (.int k n)

theorem bnd_val {C : Ctx} {t : Tmps} {o : Option Operand} {d n : Nat} (h : bnd t o d n) {ρv : Operand → Value} (hv : ∀ x, o = some x → VRel S C (ev t x) (ρv x)) : (o = none ∧ n = d) ∨ ∃ x k, o = some x ∧ ρv x = .int k n := by
  cases o with
  | none => exact .inl ⟨rfl, h⟩
  | some x =>
    obtain ⟨k, hk⟩ := h
    have := hv x rfl
    rw [hk] at this
    exact .inr ⟨x, k, rfl, sc_inv this⟩

theorem run_bounds {lo hi mx : Option Value} {l u m c len : Nat} {w : World} (hl : (lo = none ∧ l = 0) ∨ ∃ k, lo = some (.int k l)) (hu : (hi = none ∧ u = len) ∨ ∃ k, hi = some (.int k u)) (hm : (mx = none ∧ m = c) ∨ ((∃ k, mx = some (.int k (m : Int))) ∧ m = u ∧ hi ≠ none)) (h1 : l ≤ u) (h2 : u ≤ len) (h3 : len ≤ c) :
    (Instr.sliceBounds true len c lo hi mx).run P w = .ok (l, u, m) w := by
  have b : ∀ (k : IntKind) (i y : Nat) (code : BoundsCode), i ≤ y → (Instr.sliceBound (.int k i) y code).run P w = .ok i w := by
    intro k i y code h
    have := run_sliceBound (P := P) w k (i : Int) y code (by omega) (by omega)
    simpa using this
  unfold Instr.sliceBounds
  rcases hm with ⟨rfl, rfl⟩ | ⟨⟨km, rfl⟩, rfl, hne⟩
  · rcases hu with ⟨rfl, rfl⟩ | ⟨ku, rfl⟩ <;> rcases hl with ⟨rfl, rfl⟩ | ⟨kl, rfl⟩
    · simp
    · simp only [Sem.run_bind, Sem.run_pure, Result.andThen_ok, b _ _ _ _ h1]
    · simp only [Sem.run_bind, Sem.run_pure, Result.andThen_ok, b _ _ _ _ (Nat.le_trans h2 h3)]
    · simp only [Sem.run_bind, Sem.run_pure, Result.andThen_ok, b _ _ _ _ (Nat.le_trans h2 h3), b _ _ _ _ h1]
  · rcases hu with ⟨rfl, rfl⟩ | ⟨ku, rfl⟩
    · exact absurd rfl hne
    · rcases hl with ⟨rfl, rfl⟩ | ⟨kl, rfl⟩
      · simp only [Int.toNat_natCast, Sem.run_bind, Sem.run_pure, Result.andThen_ok, b _ _ _ _ (Nat.le_trans h2 h3), b _ _ _ _ (Nat.le_refl _)]
      · simp only [Int.toNat_natCast, Sem.run_bind, Sem.run_pure, Result.andThen_ok, b _ _ _ _ (Nat.le_trans h2 h3), b _ _ _ _ (Nat.le_refl _), b _ _ _ _ h1]

/-- s[l:h], s[l:h:m], of a settled slice, within its length -/
theorem LSpec.slice (hG : G.ok P) {n : Nat} {ops : Array Oper} {i : Nat} {t : Tmps} {h : List AO} {ty e e0 : TypeId} {x : Operand} {lo hi mx : Option Operand} {rows rows' : List AV} {f f' : Bool} (l u : Nat)
    (hop : opAt n ops i t = some (.slice ty x lo hi mx)) (hty : G.kind ty = .slice e) (he : (G.get e).isSome = true) (hx : ev t x = .sl e0 rows f) (hee : e0 = e ∨ rows = [])
    (hl : bnd t lo 0 l) (hu : bnd t hi rows.length u) (hm : ∀ y, mx = some y → (∃ k, ev t y = .sc (.int k u)) ∧ hi ≠ none) (h1 : l ≤ u) (h2 : u ≤ rows.length) (hr : (rows.drop l).take (u - l) = rows') (hf : f' = true → mx ≠ none ∨ (f = true ∧ u = rows.length)) : LSpec P G.S n ops i .pure t h (.sl e rows' f') h :=
  (opAt_spec hop).spec (fun _ => rfl) fun o ρv C h2' ho H _ hρ => by
    have hxv := hρ x (by simp [Op.operands])
    rw [hx] at hxv
    obtain ⟨a, c, s1, s2, s3, s4, s5, s6⟩ := sl_inv hxv
    obtain ⟨d, hd, hk⟩ := kind_desc hG hty (by simp)
    simp only [TK.fits] at hk
    subst hk
    obtain ⟨ei, hei⟩ := Option.isSome_iff_exists.1 he
    obtain ⟨dst, op, oty, pos, after, guard⟩ := o
    simp only at ho
    subst ho
    have hesz : ∀ w, (sizeOf e).run P w = .ok (G.S e).1 w := fun w => by
      rw [S_get hei]
      exact run_size (hG e ei hei) w
    rw [s1] at hxv
    have L1 := bnd_val (S := G.S) (C := C) hl (ρv := ρv) (fun y hy => hρ y (by subst hy; simp [Op.operands]))
    have L2 := bnd_val (S := G.S) (C := C) hu (ρv := ρv) (fun y hy => hρ y (by subst hy; simp [Op.operands]))
    have L3 : (mx = none) ∨ ∃ y k, mx = some y ∧ ρv y = .int k u := by
      cases mx with
      | none => exact .inl rfl
      | some y =>
        obtain ⟨⟨k, hk⟩, _⟩ := hm y rfl
        have := hρ y (by simp [Op.operands])
        rw [hk] at this
        exact .inr ⟨y, k, rfl, sc_inv this⟩
    have hbs : ∀ (m : Nat), (mx = none → m = c) → (mx ≠ none → m = u) → (Instr.sliceBounds true rows.length c (lo.map ρv) (hi.map ρv) (mx.map ρv)).run P C.w = .ok (l, u, m) C.w := by
      intro m hm1 hm2
      refine run_bounds ?_ ?_ ?_ h1 h2 (by omega)
      · rcases L1 with ⟨q, e1⟩ | ⟨x1, k1, q, e1⟩
        · exact .inl ⟨by rw [q]; rfl, e1⟩
        · exact .inr ⟨k1, by rw [q, Option.map_some, e1]⟩
      · rcases L2 with ⟨q, e1⟩ | ⟨x1, k1, q, e1⟩
        · exact .inl ⟨by rw [q]; rfl, e1⟩
        · exact .inr ⟨k1, by rw [q, Option.map_some, e1]⟩
      · rcases L3 with q | ⟨x1, k1, q, e1⟩
        · exact .inl ⟨by rw [q]; rfl, hm1 q⟩
        · refine .inr ⟨⟨k1, by rw [q, Option.map_some, e1, hm2 (by rw [q]; simp)]⟩, hm2 (by rw [q]; simp), ?_⟩
          rcases L2 with ⟨q', _⟩ | ⟨x2, k2, q', e2⟩
          · exact absurd q' (hm _ q).2
          · rw [q']; simp
    have fin : ∀ (m : Nat), (mx = none → m = c) → (mx ≠ none → m = u) → OpOK P G.S ⟨dst, .slice ty x lo hi mx, oty, pos, after, guard⟩ ρv C (.sl e rows' f') h2' := by
      intro m hm1 hm2
      have hm3 : u ≤ m := by
        by_cases q : mx = none
        · rw [hm1 q]; omega
        · rw [hm2 q]; exact Nat.le_refl _
      have hm4 : m ≤ c := by
        by_cases q : mx = none
        · rw [hm1 q]; exact Nat.le_refl _
        · rw [hm2 q]; omega
      refine OpOK.same (v := sliced a l u m (G.S e).1) (by simpa using H) ?_ (sl_part hxv h1 h2 hm3 hm4 hee hr fun q => ?_)
      · simp only [execOp, s1, Instr.sliceAt, Sem.run_bind, run_underlying hd, Result.andThen_ok, Instr.slice, hbs m hm1 hm2, hesz, Sem.run_pure]
        rfl
      · rcases hf q with q1 | ⟨q1, q2⟩
        · exact hm2 q1
        · by_cases q3 : mx = none
          · rw [hm1 q3, s3 q1, q2]
          · exact hm2 q3
    by_cases q : mx = none
    · exact fin c (fun _ => rfl) (fun q' => absurd q q')
    · exact fin u (fun q' => absurd q' q) (fun _ => rfl)
end Go.Sh
