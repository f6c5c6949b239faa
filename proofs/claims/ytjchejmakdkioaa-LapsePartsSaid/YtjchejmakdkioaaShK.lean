import Derived.Test.YtjchejmakdkioaaShJ
set_option linter.unusedVariables false
set_option linter.unusedSimpArgs false
namespace Go.Sh
variable {P : Program} {G : Tab}

/-! ### Scalars -/
mutual
def scalA : AV → Bool
  | .sc _ | .arr .. => true
  | .agg fs => scalL fs
  | .tup fs => scalL fs
  | _ => false
def scalL : List AV → Bool
  | [] => true
  | f :: fs => scalA f && scalL fs
end
mutual
theorem RelV.scal {S : Sizes} {C D : Ctx} : ∀ (a : AV) (cs : List Value), scalA a = true → RelV S C a cs → RelV S D a cs
  | .u, _, hp, _ => by simp [scalA] at hp
  | .sc v, cs, _, r => r
  | .arr k n xs, cs, _, r => r
  | .agg fs, cs, hp, r => RelL.scal fs cs (by simpa [scalA] using hp) r
  | .sl e rows full, cs, hp, _ => by simp [scalA] at hp
  | .own o k, _, hp, _ => by simp [scalA] at hp
  | .ptr o off ix, _, hp, _ => by simp [scalA] at hp
  | .el e o k i off, _, hp, _ => by simp [scalA] at hp
  | .bsl e o off n, _, hp, _ => by simp [scalA] at hp
  | .ep fs off ix, cs, hp, _ => by simp [scalA] at hp
  | .fn f caps, cs, hp, _ => by simp [scalA] at hp
  | .tup vs, _, _, r => r.elim
theorem RelL.scal {S : Sizes} {C D : Ctx} : ∀ (fs : List AV) (cs : List Value), scalL fs = true → RelL S C fs cs → RelL S D fs cs
  | [], _, _, r => r
  | f :: fs, cs, hp, r => by
    obtain ⟨c1, c2, h1, h2, h3⟩ := r
    simp only [scalL, Bool.and_eq_true] at hp
    exact ⟨c1, c2, h1, RelV.scal f c1 hp.1 h2, RelL.scal fs c2 hp.2 h3⟩
end
theorem VRel1.scal {S : Sizes} {C D : Ctx} {a : AV} {v : Value} (hp : scalA a = true) (r : VRel1 S C a v) : VRel1 S D a v := by
  cases a with
  | agg fs => obtain ⟨cs, h1, h2⟩ := r; exact ⟨cs, h1, RelL.scal _ _ (by simpa [scalA] using hp) h2⟩
  | arr k n xs => exact r
  | sc w => exact r
  | tup vs => exact r.elim
  | _ => simp [scalA] at hp
theorem VRels.scal {S : Sizes} {C D : Ctx} {as : List AV} {vs : List Value} (r : VRels S C as vs) (hp : scalL as = true) : VRels S D as vs := by
  induction r with
  | nil => exact .nil
  | cons h1 h2 ih =>
    simp only [scalL, Bool.and_eq_true] at hp
    exact .cons (h1.scal hp.1) (ih hp.2)
theorem VRel.scal {S : Sizes} {C D : Ctx} {a : AV} {v : Value} (hp : scalA a = true) (r : VRel S C a v) : VRel S D a v := by
  cases a with
  | tup vs => obtain ⟨l, h1, h2⟩ := r; exact ⟨l, h1, h2.scal (by simpa [scalA] using hp)⟩
  | agg fs => exact VRel1.scal (a := .agg fs) hp r
  | arr k n xs => exact r
  | sc w => exact r
  | _ => simp [scalA] at hp

def bslOk (S : Sizes) : AV → Bool
  | .bsl e _ _ n => (S e).1 == 1 && decide (n * (S e).2 ≤ reach) && decide (n ≤ maxLen)
  | _ => true

/-- a call that is lent our rows, and hands back numbers -/
theorem LSpec.callS {n : Nat} {ops : Array Oper} {i : Nat} {t : Tmps} {h : List AO} {f : FuncId} {xs : List Operand} {avs : List AV} {r : AV} (hk : callAt n ops i t = some (f, xs)) (ha : (xs.map (ev t)).mapM (fun a => if bslOk G.S a then conv h a else none) = some avs) (hr : scalA r = true) (hc : ACalls P G.S f avs [] r []) : LSpec P G.S n ops i .read t h r h := by
  have K := callAt_spec hk
  refine ⟨K.lt, K.dst, fun _ => rfl, fun t2 h2 C a hl hh A Q N hN => K.wp hc.1 hl A fun hev => ?_⟩
  have hh := hh (by simp)
  subst hh
  have hargs : VRels G.S ⟨C.w, [], C.X⟩ avs (xs.map a.eval) := VRels.of_map t (fun a b v hg hr => by
    split at hg
    · rename_i hb
      refine conv_rel A.heap (fun b hb => .inl hb) hg (fun e o off n he => ?_) (fun o k _ s b hs hsb => A.heap.nX s (List.mem_iff_getElem?.2 ⟨o, hs⟩) b hsb) (fun e o off n _ s b hs hsb => A.heap.nX s (List.mem_iff_getElem?.2 ⟨o, hs⟩) b hsb) hr
      subst he
      simp only [bslOk, Bool.and_eq_true, beq_iff_eq, decide_eq_true_eq] at hb
      exact ⟨hb.1.1, hb.1.2, hb.2⟩
    · cases hg) xs avs ha hev
  refine (hc.2 ⟨C.w, [], C.X⟩ _ (HRel.nil A.heap.Xlt) (by simpa using hargs)).mono ?_
  rintro e w' ⟨v, C', rfl, rfl, st, H', hv⟩
  refine ⟨v, rfl, ?_⟩
  have hkept : Kept C ⟨C'.w, C.m, C.X⟩ := ⟨st.os, st.tape, st.output, st.size, fun b hb => st.block b hb (by simp), rfl, rfl⟩
  exact hN ⟨C'.w, C.m, C.X⟩ v hkept.toStep (hv.scal hr) (by simpa using A.heap.kept hkept)

/-! ### Giving rows up -/
def settleO : AO → AO
  | .row e rows k _ => .row e rows k false
  | o => o
def settle (os : List Nat) (h : List AO) : List AO := os.foldl (fun h o => h.modify o settleO) h
def Slot.settle : Slot → Slot
  | .row v k _ => .row v k false
  | s => s

/-- one row is given up: it may be read by all, and written by none -/
theorem settle_one {S : Sizes} {C : Ctx} {h : List AO} (H : HRel S C h) (o : Nat) (hrow : ∀ s, C.m[o]? = some s → ∃ v k mn, s = .row v k mn) :
    Step C ⟨C.w, C.m.modify o Slot.settle, C.X⟩ ∧ HRel S ⟨C.w, C.m.modify o Slot.settle, C.X⟩ (h.modify o settleO) := by
  cases hs : C.m[o]? with
  | none =>
    have e1 : C.m.modify o Slot.settle = C.m := by
      apply List.ext_getElem?
      intro j
      rw [List.getElem?_modify]
      by_cases e : o = j
      · subst e; rw [hs]; rfl
      · simp [e]
    have hl : h.length ≤ o := by rw [← H.len]; exact List.getElem?_eq_none_iff.1 hs
    have e2 : h.modify o settleO = h := by
      apply List.ext_getElem?
      intro j
      rw [List.getElem?_modify]
      by_cases e : o = j
      · subst e; rw [List.getElem?_eq_none hl]; rfl
      · simp [e]
    rw [e1, e2]
    exact ⟨Step.refl C, H⟩
  | some s =>
    obtain ⟨v, k, mn, rfl⟩ := hrow s hs
    have hol : o < h.length := by rw [← H.len]; exact (List.getElem?_eq_some_iff.1 hs).1
    have hrel := H.rel o h[o] _ (List.getElem?_eq_getElem hol) hs
    have e1 : C.m.modify o Slot.settle = C.m.set o (.row v k false) := by
      apply List.ext_getElem?
      intro j
      rw [List.getElem?_modify, List.getElem?_set]
      by_cases e : o = j
      · subst e; rw [hs]; simp [Slot.settle, (List.getElem?_eq_some_iff.1 hs).1]
      · simp [e]
    have e2 : h.modify o settleO = h.set o (settleO h[o]) := by
      apply List.ext_getElem?
      intro j
      rw [List.getElem?_modify, List.getElem?_set]
      by_cases e : o = j
      · subst e; rw [List.getElem?_eq_getElem hol]; simp [hol]
      · simp [e]
    rw [e1, e2]
    obtain ⟨st, hh⟩ := HRel.upd (S := S) (C' := ⟨C.w, C.m.set o (.row v k false), C.X⟩) (s' := .row v k false) (ob := settleO h[o]) H hs ⟨v, k, false, rfl, .inr ⟨rfl, rfl⟩⟩ (Nat.le_refl _) rfl rfl rfl (fun _ _ _ => rfl) rfl rfl (fun b hb => by simp [Slot.block] at hb)
    refine ⟨st, hh ?_⟩
    revert hrel
    generalize h[o] = ob
    intro hrel
    cases ob with
    | gone => exact hrel.elim
    | box e fs => exact hrel.elim
    | row e rows k' app =>
      obtain ⟨h1, h2, h3, h4⟩ := hrel
      refine ⟨h1, h2, fun _ => ?_, by simp⟩
      cases mn with
      | false =>
        obtain ⟨a, c, s1, s2, s3, s4, s5, s6⟩ := RelV.step st _ _ (h3 rfl)
        exact ⟨a, c, s1, s2, by simp, s4, s5, s6⟩
      | true =>
        obtain ⟨_, hsz, cells, hown, hrf⟩ := h4 rfl
        rcases hown.2 with ⟨rfl, hn⟩ | ⟨g, cap, cur, rfl, _, hhp, hnc, hcm, hcs, htk⟩
        · obtain rfl : rows = [] := List.eq_nil_of_length_eq_zero hn
          exact ⟨none, 0, rfl, Nat.le_refl _, by simp, by simp [maxLen], by simp [reach], .inl rfl⟩
        · refine ⟨some ⟨g, 0, none⟩, cap, rfl, hnc, by simp, hcm, h2, .inr ⟨g, 0, rfl, ⟨?_, ?_⟩, ?_⟩⟩
          · exact H.nX _ (List.mem_iff_getElem?.2 ⟨o, hs⟩) g rfl
          · intro s' hs' hb
            obtain ⟨j, hj⟩ := List.mem_iff_getElem?.1 hs'
            rw [List.getElem?_set] at hj
            by_cases e : o = j
            · subst e
              rw [if_pos rfl, if_pos (by rw [H.len]; exact hol)] at hj
              injection hj with hj
              subst hj
              simp [Slot.block] at hb
            · rw [if_neg e] at hj
              exact e (H.inj o j _ _ g hs hj rfl hb)
          · refine RelR.of_RelF hsz rows cells 0 (hrf.mono st.mono.flat) (fun j u hj => ?_)
            rw [Nat.zero_add]
            show C.w.cell? _ = _
            rw [cell_of_heap hhp]
            rw [← htk] at hj
            have hl : j < rows.length * (S e).1 := by
              have := (List.getElem?_eq_some_iff.1 hj).1
              rw [List.length_take] at this
              omega
            rw [List.getElem?_take, if_pos hl] at hj
            simpa using hj

def isRow : AO → Bool
  | .row .. => true
  | _ => false
def rowsAt (h : List AO) (os : List Nat) : Bool := os.all fun o => match h[o]? with | some ob => isRow ob | none => false

theorem rows_slot {S : Sizes} {C : Ctx} {h : List AO} (H : HRel S C h) {o : Nat} {ob : AO} (ho : h[o]? = some ob) (hr : isRow ob = true) : ∀ s, C.m[o]? = some s → ∃ v k mn, s = .row v k mn := by
  intro s hs
  have := H.rel o ob s ho hs
  cases ob <;> simp [isRow] at hr
  cases s <;> simp only [ORel] at this
  exact ⟨_, _, _, rfl⟩

theorem settle_all {S : Sizes} : ∀ (os : List Nat) {C : Ctx} {h : List AO}, HRel S C h → rowsAt h os = true →
    ∃ m, Step C ⟨C.w, m, C.X⟩ ∧ HRel S ⟨C.w, m, C.X⟩ (settle os h) ∧ (∀ (o : Nat) (s : Slot) (b : Nat), m[o]? = some s → s.block = some b → C.m[o]? = some s ∧ o ∉ os)
  | [], C, h, H, _ => ⟨C.m, Step.refl C, H, fun o s b hs hb => ⟨hs, by simp⟩⟩
  | o :: os, C, h, H, hr => by
    simp only [rowsAt, List.all_cons, Bool.and_eq_true] at hr
    obtain ⟨hr1, hr2⟩ := hr
    have hslot : ∀ s, C.m[o]? = some s → ∃ v k mn, s = .row v k mn := by
      cases ho : h[o]? with
      | none => rw [ho] at hr1; simp at hr1
      | some ob => rw [ho] at hr1; exact rows_slot H ho hr1
    obtain ⟨st, H1⟩ := settle_one H o hslot
    have hr3 : rowsAt (h.modify o settleO) os = true := by
      unfold rowsAt
      rw [List.all_eq_true] at hr2 ⊢
      intro j hj
      have := hr2 j hj
      rw [List.getElem?_modify]
      by_cases e : o = j
      · subst e
        cases ho : h[o]? with
        | none => rw [ho] at this; simp at this
        | some ob => rw [ho] at this; cases ob <;> simp_all [isRow, settleO]
      · simp only [e, if_false, id_eq, Option.map_id_fun', id]
        simpa using this
    obtain ⟨m, st2, H2, h3⟩ := settle_all os H1 hr3
    refine ⟨m, st.trans st2, H2, fun j s b hs hb => ?_⟩
    obtain ⟨k1, k3⟩ := h3 j s b hs hb
    simp only at k1
    rw [List.getElem?_modify] at k1
    by_cases e : o = j
    · subst e
      exfalso
      cases hs0 : C.m[o]? with
      | none => rw [hs0] at k1; simp at k1
      | some s1 =>
        rw [hs0] at k1
        obtain ⟨v, k, mn, rfl⟩ := hslot s1 hs0
        simp [Slot.settle] at k1
        subst k1
        simp [Slot.block] at hb
    · simp only [e, if_false] at k1
      refine ⟨by simpa using k1, ?_⟩
      simp only [List.mem_cons, not_or]
      exact ⟨fun x => e x.symm, k3⟩

def ownIn (os : List Nat) : AV → Bool
  | .own o _ => os.contains o
  | .bsl .. => false
  | _ => true

/-- a call to which rows of ours are given up -/
theorem LSpec.callC {n : Nat} {ops : Array Oper} {i : Nat} {t : Tmps} {h : List AO} {f : FuncId} {xs : List Operand} {avs : List AV} {r : AV} (os : List Nat) (hos : rowsAt h os = true) (hk : callAt n ops i t = some (f, xs)) (ha : (xs.map (ev t)).mapM (fun a => if ownIn os a then conv (settle os h) a else none) = some avs) (hc : ACalls P G.S f avs [] r []) : LSpec P G.S n ops i .loud t h r (settle os h) := by
  have K := callAt_spec hk
  refine ⟨K.lt, K.dst, fun hh => absurd rfl hh, fun t2 h2 C a hl hh A Q N hN => K.wp hc.1 hl A fun hev => ?_⟩
  have hh := hh (by simp)
  subst hh
  obtain ⟨m, st0, H2, hm3⟩ := settle_all os A.heap hos
  have hargs : VRels G.S (Ctx.flat ⟨C.w, m, C.X⟩) avs (xs.map a.eval) := VRels.of_map (C := ⟨C.w, m, C.X⟩) t (fun a b v hg hr => by
    split at hg
    · rename_i hb
      refine conv_rel H2 (X := (Ctx.flat ⟨C.w, m, C.X⟩).X) (fun b hb => hb) hg (fun e o off n he => ?_) (fun o k he s b hs hsb => ?_) (fun e o off n he => ?_) hr
      · subst he; simp [ownIn] at hb
      · subst he
        obtain ⟨_, k2⟩ := hm3 o s b hs hsb
        simp only [ownIn, List.contains_iff_mem] at hb
        exact absurd hb k2
      · subst he; simp [ownIn] at hb
    · cases hg) xs avs ha (fun x hx => (hev x hx).step st0)
  refine (hc.2 (Ctx.flat ⟨C.w, m, C.X⟩) _ (HRel.nil (flat_lt H2)) (by simpa using hargs)).mono ?_
  rintro e w' ⟨v, C', rfl, rfl, st, H', hv⟩
  refine ⟨v, rfl, ?_⟩
  have hm' : C'.m = [] := List.eq_nil_of_length_eq_zero (by rw [H'.len]; rfl)
  have hkept : Kept ⟨C.w, m, C.X⟩ ⟨C'.w, m, C.X⟩ := ⟨st.os, st.tape, st.output, st.size, fun b hb => st.block b hb (by simp [Ctx.flat]), rfl, rfl⟩
  have hmono : Mono C' ⟨C'.w, m, C.X⟩ := by
    refine ⟨Nat.le_refl _, fun _ _ _ => rfl, fun b _ ho => ?_, fun o s hs => by rw [hm'] at hs; simp at hs⟩
    have hX : C'.X = (Ctx.flat ⟨C.w, m, C.X⟩).X := st.X
    unfold Ctx.ok at *
    rw [hX] at ho
    exact ⟨fun hx => ho.1 (.inl hx), fun s hs e => ho.1 (.inr ⟨s, hs, e⟩)⟩
  exact hN ⟨C'.w, m, C.X⟩ v (st0.trans hkept.toStep) (hv.mono hmono) (by simpa using H2.kept hkept)

/-! ### An index that isn't a literal -/
structure OpAt (n : Nat) (ops : Array Oper) (i : Nat) (t : Tmps) (op : Op) : Prop where
  at_ : ∃ o, ops[i]? = some o ∧ o.op = op ∧ guardA ops t o = some true ∧ dstOk n o.dst = true

def opAt (n : Nat) (ops : Array Oper) (i : Nat) (t : Tmps) : Option Op :=
  match ops[i]? with
  | none => none
  | some o =>
    match guardA ops t o with
    | some true => if dstOk n o.dst then some o.op else none
    | _ => none

theorem opAt_spec {n : Nat} {ops : Array Oper} {i : Nat} {t : Tmps} {op : Op} (h : opAt n ops i t = some op) : OpAt n ops i t op := by
  unfold opAt at h
  split at h
  · cases h
  · rename_i o ho
    split at h
    · rename_i hg
      split at h
      · rename_i hd
        injection h with h
        exact ⟨o, ho, h, hg, hd⟩
      · cases h
    · cases h

theorem OpAt.lt {n : Nat} {ops : Array Oper} {i : Nat} {t : Tmps} {op : Op} (K : OpAt n ops i t op) : i < ops.size := by
  obtain ⟨o, ho, _⟩ := K.at_
  exact (Array.getElem?_eq_some_iff.1 ho).1
theorem OpAt.dst {n : Nat} {ops : Array Oper} {i : Nat} {t : Tmps} {op : Op} (K : OpAt n ops i t op) : ∀ d, (ops[i]?).bind (·.dst) = some d → d < n := by
  obtain ⟨o, ho, _, _, hd⟩ := K.at_
  intro d h
  rw [ho] at h
  simp only [Option.bind_some] at h
  rw [h] at hd
  simpa [dstOk] using hd

/-- one operation, by a law of its own -/
theorem OpAt.spec {n : Nat} {ops : Array Oper} {i : Nat} {t : Tmps} {op : Op} (K : OpAt n ops i t op) {S : Sizes} {kd : Kd} {h h' : List AO} {r : AV} (hkeep : kd ≠ .loud → h' = h)
    (hrun : ∀ (o : Oper) (ρv : Operand → Value) (C : Ctx) (h2 : List AO), o.op = op → HRel S C h2 → (kd ≠ .pure → h2 = h) → (∀ x ∈ op.operands, VRel S C (ev t x) (ρv x)) → OpOK P S o ρv C r (if kd = .loud then h' else h2)) : LSpec P S n ops i kd t h r h' := by
  refine ⟨K.lt, K.dst, hkeep, fun t2 h2 C a hl hh A Q N hN => ?_⟩
  obtain ⟨o, ho, hop, hg, hd⟩ := K.at_
  have hl' := hl o ho
  unfold wpOp
  rw [ho]
  simp only [guard_wanted hg hl' A, if_true]
  refine .inl ?_
  have hev : ∀ y ∈ op.operands, VRel S C (ev t y) (a.eval y) := by
    intro y hy
    have h1 := A.ev y
    have h2 := looks_op (hop ▸ hy) hl'
    cases y with
    | tmp j =>
      have := h2 j rfl
      simp only [evF] at h1
      rw [this] at h1
      exact h1
    | const v => exact h1
    | func g => exact h1
    | global g => exact h1
  obtain ⟨C', st, H', hr⟩ := hrun o a.eval C h2 hop A.heap hh hev
  unfold Oper.wp
  rcases hr with ⟨v, h1, h2⟩ | ⟨h1, h2⟩
  · rw [h1]
    have := hN C' v st h2 H'
    rw [ho] at this
    exact this
  · rw [h1]
    have := hN C' undef st (by rw [h2]; trivial) H'
    rw [ho] at this
    exact this

/-- xs[i] of a slice, the element known -/
theorem LSpec.index (hG : G.ok P) {n : Nat} {ops : Array Oper} {i : Nat} {t : Tmps} {h : List AO} {ty e : TypeId} {x y : Operand} {rows : List AV} {full : Bool} {k : IntKind} {j : Int} {r : AV} {fs : List AV} (hop : opAt n ops i t = some (.indexAddr ty x y)) (hty : G.kind ty = .slice e) (he : (G.get e).isSome = true) (hx : ev t x = .sl e rows full) (hy : ev t y = .sc (.int k j)) (h0 : 0 ≤ j) (hr : rows[j.toNat]? = some r) (hfs : chunks r = some fs) : LSpec P G.S n ops i .pure t h (.ep fs 0 none) h :=
  (opAt_spec hop).spec (fun _ => rfl) fun o ρv C h2 ho H _ hρ => by
    have hxv := hρ x (by simp [Op.operands])
    have hyv := hρ y (by simp [Op.operands])
    rw [hx] at hxv
    rw [hy] at hyv
    have hyv := sc_inv hyv
    obtain ⟨a, c, s1, s2, s3, s4, s5, s6⟩ := sl_inv hxv
    obtain ⟨d, hd, hf⟩ := kind_desc hG hty (by simp)
    simp only [TK.fits] at hf
    subst hf
    obtain ⟨ei, hei⟩ := Option.isSome_iff_exists.1 he
    obtain ⟨dst, op, oty, pos, after, guard⟩ := o
    simp only at ho
    subst ho
    have hlt : j.toNat < rows.length := (List.getElem?_eq_some_iff.1 hr).1
    rcases s6 with s6 | ⟨b, off, s6, s7, s8⟩
    · rw [s6] at hlt; simp at hlt
    · obtain ⟨cs, m1, m2, m3, m4⟩ := RelR.get rows off j.toNat r s8 hr
      refine OpOK.same (v := .pointer (some ⟨b, off + j.toNat * (G.S e).1, none⟩)) (by simpa using H) ?_ ⟨b, off + j.toNat * (G.S e).1, cs, by simp [ixo], trivial, s7, chunks_relV hfs m1, m3, m4⟩
      subst s6
      have hesz : (sizeOf e).run P C.w = .ok (G.S e).1 C.w := by
        rw [S_get hei]
        exact run_size (hG e ei hei) C.w
      simp only [execOp, Instr.indexAt, hyv, asIntOf, Sem.run_bind, Sem.run_pure, Result.andThen_ok, run_underlying hd, s1]
      rw [if_pos ⟨h0, by omega⟩]
      simp only [Sem.run_bind, hesz, Result.andThen_ok, Sem.run_pure, addr_add]

/-- a[i] of an array in a box -/
theorem LSpec.indexArr (hG : G.ok P) {n : Nat} {ops : Array Oper} {i : Nat} {t : Tmps} {h : List AO} {ty e : TypeId} {x y : Operand} {o off m : Nat} {k : IntKind} {j : Int} {ei : TInfo} (hop : opAt n ops i t = some (.indexAddr ty x y)) (hty : G.kind ty = .arr m e) (he : G.get e = some ei) (hsz : ei.size = 1) (hx : ev t x = .ptr o off none) (hy : ev t y = .sc (.int k j)) (h0 : 0 ≤ j) (h1 : j < m) : LSpec P G.S n ops i .pure t h (.ptr o off (some (j.toNat, m))) h :=
  (opAt_spec hop).spec (fun _ => rfl) fun op ρv C h2 ho H _ hρ => by
    have hxv := hρ x (by simp [Op.operands])
    have hyv := hρ y (by simp [Op.operands])
    rw [hx] at hxv
    rw [hy] at hyv
    have hyv := sc_inv hyv
    obtain ⟨b, k1, k2, k3⟩ := ptr_inv hxv
    obtain ⟨d, hd, hf⟩ := kind_desc hG hty (by simp)
    simp only [TK.fits] at hf
    subst hf
    obtain ⟨dst, op, oty, pos, after, guard⟩ := op
    simp only at ho
    subst ho
    refine OpOK.same (v := .pointer (some ⟨b, off + j.toNat, none⟩)) (by simpa using H) ?_ ⟨b, k1, by simp only [ixok]; omega, rfl⟩
    simp only [ixo, Nat.add_zero] at k3
    simp only [execOp, Instr.indexAt, hyv, asIntOf, Sem.run_bind, Sem.run_pure, Result.andThen_ok, run_underlying hd, k3, Instr.sureAddr]
    rw [if_pos ⟨h0, h1⟩]
    simp only [Sem.run_bind, run_size (hG e ei he), Result.andThen_ok, Sem.run_pure, addr_add, hsz, Nat.mul_one]
end Go.Sh
