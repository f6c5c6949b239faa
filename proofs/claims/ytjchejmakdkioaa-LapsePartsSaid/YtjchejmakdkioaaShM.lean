import Derived.Test.YtjchejmakdkioaaShL
set_option linter.unusedVariables false
set_option linter.unusedSimpArgs false
namespace Go.Sh
variable {P : Program} {G : Tab} {F : Fn} {c0 : Ctx} {R : Ending → World → Prop}

/-! ### A nil slice, or one without room, as a row of our own -/
def setL (t : Tmps) (i : Nat) (a : AV) : Tmps := setT t (some i) a

theorem AR.adopt {k : List PI} {t : Tmps} {h : List AO} {e0 : TypeId} {rows : List AV} (i : Nat) (e : TypeId) (hi : lk t i = .sl e0 rows true) (he : rows = [] ∨ e = e0) (A : AR P G F c0 R k (setT t (some i) (.own h.length 0)) (h ++ [.row e rows 0 true])) : AR P G F c0 R k t h := by
  intro C a st AA
  have hv := AA.tmps i
  rw [hi] at hv
  obtain ⟨v, hvv⟩ : ∃ v, a.tmps.getD i undef = v := ⟨_, rfl⟩
  rw [hvv] at hv
  have hrel : RelV G.S C (.sl e rows true) [v] := by
    obtain ⟨b, c, s1, s2, s3, s4, s5, s6⟩ := (hv : RelV G.S C (.sl e0 rows true) [v])
    rcases he with rfl | rfl
    · exact ⟨b, c, s1, s2, s3, s4, by simp [reach], .inl rfl⟩
    · exact ⟨b, c, s1, s2, s3, s4, s5, s6⟩
  obtain ⟨st', hh⟩ := HRel.push (S := G.S) (C' := ⟨C.w, C.m ++ [.row v 0 false], C.X⟩) (s := .row v 0 false) (ob := .row e rows 0 true) AA.heap (Nat.le_refl _) rfl rfl rfl (fun _ _ => rfl) rfl rfl (fun b hb => by simp [Slot.block] at hb)
  have h1v : v.oneCell' = true := RelV.one _ _ hrel v (by simp)
  have hb : rows.length * (G.S e).2 ≤ reach := by
    obtain ⟨_, _, _, _, _, _, s5, _⟩ := hrel
    exact s5
  refine A ⟨C.w, C.m ++ [.row v 0 false], C.X⟩ a (st.trans st') ⟨AA.defers, AA.size, fun j => ?_, hh ⟨rfl, hb, fun _ => RelV.step st' _ _ hrel, by simp⟩⟩
  rw [lk_setT]
  by_cases hj : j = i
  · subst hj
    rw [if_pos rfl, hvv]
    refine ⟨v, v, 0, false, rfl, h1v, ?_, Nat.le_refl _, fun _ => rfl⟩
    show (C.m ++ [Slot.row v 0 false])[h.length]? = _
    rw [← AA.heap.len]
    simp
  · rw [if_neg hj]
    exact (AA.tmps j).step st'

/-! ### Counting a row's versions from nought again -/
mutual
def noRow (o : Nat) : AV → Bool
  | .own o' _ => o' != o
  | .el _ o' _ _ _ => o' != o
  | .agg fs => noRowL o fs
  | .fn _ caps => noRowL o caps
  | .tup _ => false
  | _ => true
def noRowL (o : Nat) : List AV → Bool
  | [] => true
  | f :: fs => noRow o f && noRowL o fs
end
def noRowO (o : Nat) : AO → Bool
  | .box _ fs => noRowL o fs
  | _ => true

def renA (o k : Nat) (a : AV) : AV :=
  match a with
  | .own o' k' => if o' = o then (if k' = k then .own o 0 else .u) else a
  | a => if noRow o a then a else .u

structure But (o : Nat) (C D : Ctx) : Prop where
  w : D.w = C.w
  ok : ∀ b, C.ok b → D.ok b
  slot : ∀ o', o' ≠ o → D.m[o']? = C.m[o']?
  nblk : ∀ b, C.m[o]? ≠ some (.blk b)

theorem But.under {o : Nat} {C D : Ctx} (h : But o C D) : Under C D := ⟨h.w, h.ok⟩

mutual
theorem RelV.but {S : Sizes} {o : Nat} {C D : Ctx} (h : But o C D) : ∀ (a : AV) (cs : List Value), noRow o a = true → RelV S C a cs → RelV S D a cs
  | .u, _, _, r => r.elim
  | .sc v, cs, _, r => r
  | .arr k n xs, cs, _, r => r
  | .agg fs, cs, hp, r => RelL.but h fs cs (by simpa [noRow] using hp) r
  | .sl e rows full, cs, _, r => RelV.plain h.under _ _ rfl r
  | .own o' k, cs, hp, r => by
    obtain ⟨v', v, kk, mn, h1, h2, h3, h4⟩ := r
    have hne : o' ≠ o := by simpa [noRow] using hp
    exact ⟨v', v, kk, mn, h1, h2, by rw [h.slot o' hne]; exact h3, h4⟩
  | .ptr o' off ix, cs, _, r => by
    obtain ⟨b, h1, h2⟩ := r
    have hne : o' ≠ o := fun e => h.nblk b (e ▸ h1)
    exact ⟨b, by rw [h.slot o' hne]; exact h1, h2⟩
  | .el e o' k i off, cs, hp, r => by
    obtain ⟨p, v, kk, mn, h1, h2, h3, h4⟩ := r
    have hne : o' ≠ o := by simpa [noRow] using hp
    exact ⟨p, v, kk, mn, h1, h2, by rw [h.slot o' hne]; exact h3, h4⟩
  | .bsl e o' off n, cs, _, r => by
    obtain ⟨b, h1, h2⟩ := r
    have hne : o' ≠ o := fun e => h.nblk b (e ▸ h1)
    exact ⟨b, by rw [h.slot o' hne]; exact h1, h2⟩
  | .ep fs off ix, cs, _, r => RelV.plain h.under _ _ rfl r
  | .fn f caps, cs, hp, r => by
    obtain ⟨vs, h1, h2⟩ := r
    exact ⟨vs, h1, RelL.but h caps _ (by simpa [noRow] using hp) h2⟩
  | .tup vs, _, _, r => r.elim
theorem RelL.but {S : Sizes} {o : Nat} {C D : Ctx} (h : But o C D) : ∀ (fs : List AV) (cs : List Value), noRowL o fs = true → RelL S C fs cs → RelL S D fs cs
  | [], _, _, r => r
  | f :: fs, cs, hp, r => by
    obtain ⟨c1, c2, h1, h2, h3⟩ := r
    simp only [noRowL, Bool.and_eq_true] at hp
    exact ⟨c1, c2, h1, RelV.but h f c1 hp.1 h2, RelL.but h fs c2 hp.2 h3⟩
end

theorem VRel.but {S : Sizes} {o : Nat} {C D : Ctx} (h : But o C D) {a : AV} {v : Value} (hp : noRow o a = true) (r : VRel S C a v) : VRel S D a v := by
  cases a with
  | u => trivial
  | tup vs => simp [noRow] at hp
  | agg fs => obtain ⟨cs, h1, h2⟩ := r; exact ⟨cs, h1, RelL.but h _ _ (by simpa [noRow] using hp) h2⟩
  | arr k n xs => exact r
  | sc w => exact r
  | sl e rows full => exact RelV.but h _ _ hp r
  | own o' k => exact RelV.but h _ _ hp r
  | ptr o' off ix => exact RelV.but h _ _ hp r
  | ep fs off ix => exact RelV.but h _ _ hp r
  | el e o' k i off => exact RelV.but h _ _ hp r
  | bsl e o' off n => exact RelV.but h _ _ hp r
  | fn f caps => exact RelV.but h _ _ hp r

theorem lk_map (g : AV → AV) (hg : g .u = .u) : ∀ (t : Tmps) (i : Nat), lk (t.map fun p => (p.1, g p.2)) i = g (lk t i)
  | [], i => hg.symm
  | (j, a) :: t, i => by
    simp only [List.map_cons, lk]
    split
    · rfl
    · exact lk_map g hg t i

theorem renA_u (o k : Nat) : renA o k .u = .u := rfl

/-- what a row looks like to those that count from nought -/
theorem AR.norm {k : List PI} {t t' : Tmps} {h h' : List AO} {e : TypeId} {rows : List AV} {kv : Nat} {app : Bool} (o : Nat) (hlo : c0.m.length ≤ o) (ho : h[o]? = some (.row e rows kv app)) (hclean : h.all (noRowO o) = true) (ht : (t.map fun p => (p.1, renA o kv p.2)) = t') (hh' : h.set o (.row e rows 0 app) = h') (A : AR P G F c0 R k t' h') : AR P G F c0 R k t h := by
  intro C a st AA
  have H := AA.heap
  have hol : o < C.m.length := by rw [H.len]; exact (List.getElem?_eq_some_iff.1 ho).1
  obtain ⟨s, hs⟩ : ∃ s, C.m[o]? = some s := ⟨_, List.getElem?_eq_getElem hol⟩
  have hrel := H.rel o _ _ ho hs
  cases s with
  | gone => exact hrel.elim
  | blk b => exact hrel.elim
  | row v kk mn =>
    obtain ⟨o1, o2, o3, o4⟩ := hrel
    subst o1
    let D : Ctx := ⟨C.w, C.m.set o (.row v 0 mn), C.X⟩
    have hD : D = ⟨C.w, C.m.set o (.row v 0 mn), C.X⟩ := rfl
    have hblk : ∀ s ∈ D.m, ∀ b, s.block = some b → ∃ s0 ∈ C.m, s0.block = some b := by
      intro s hs' b hb
      rcases List.mem_or_eq_of_mem_set hs' with h1 | rfl
      · exact ⟨s, h1, hb⟩
      · exact ⟨.row v kv mn, List.mem_iff_getElem?.2 ⟨o, hs⟩, hb⟩
    have hblk' : ∀ s ∈ C.m, ∀ b, s.block = some b → ∃ s0 ∈ D.m, s0.block = some b := by
      intro s hs' b hb
      obtain ⟨j, hj⟩ := List.mem_iff_getElem?.1 hs'
      by_cases e : o = j
      · subst e
        rw [hs] at hj
        injection hj with hj
        subst hj
        exact ⟨.row v 0 mn, List.mem_iff_getElem?.2 ⟨o, by rw [hD]; exact List.getElem?_set_self hol⟩, hb⟩
      · exact ⟨s, List.mem_iff_getElem?.2 ⟨j, by rw [hD]; show (C.m.set o _)[j]? = _; rw [List.getElem?_set_ne e]; exact hj⟩, hb⟩
    have hbut : But o C D := ⟨rfl, fun b hb => ⟨hb.1, fun s hs' e => by
      obtain ⟨s0, h1, h2⟩ := hblk s hs' b e
      exact hb.2 s0 h1 h2⟩, fun o' hne => by
      show (C.m.set o _)[o']? = _
      rw [List.getElem?_set_ne (Ne.symm hne)], fun b => by rw [hs]; simp⟩
    have hflat : D.flat = C.flat := by
      unfold Ctx.flat
      congr 1
      funext b
      apply propext
      constructor
      · rintro (h1 | ⟨s, h1, h2⟩)
        · exact .inl h1
        · exact .inr (hblk s h1 b h2)
      · rintro (h1 | ⟨s, h1, h2⟩)
        · exact .inl h1
        · exact .inr (hblk' s h1 b h2)
    have stD : Step c0 D := by
      refine ⟨st.os, st.tape, st.output, st.size, st.block, fun b hb ho => hbut.ok b (st.ok b hb ho), fun b hb hn s hs' e => ?_, fun o' s' hs' => ?_, st.X⟩
      · obtain ⟨s0, h1, h2⟩ := hblk s hs' b e
        exact st.fresh b hb hn s0 h1 h2
      · obtain ⟨s2, h1, h2⟩ := st.slot o' s' hs'
        have hne : o ≠ o' := by
          have := (List.getElem?_eq_some_iff.1 hs').1
          omega
        exact ⟨s2, by show (C.m.set o _)[o']? = _; rw [List.getElem?_set_ne hne]; exact h1, h2⟩
    subst ht
    subst hh'
    refine A D a stD ⟨AA.defers, AA.size, fun i => ?_, ?_⟩
    · rw [lk_map _ (renA_u o kv)]
      have hv := AA.tmps i
      cases hl : lk t i with
      | own o' k' =>
        rw [hl] at hv
        simp only [renA]
        by_cases e1 : o' = o
        · subst e1
          rw [if_pos rfl]
          by_cases e2 : k' = kv
          · subst e2
            rw [if_pos rfl]
            obtain ⟨v0, kk, mn', q1, q2, q3, q4⟩ := own_inv hv
            rw [hs] at q2
            injection q2 with q2; injection q2 with q2 q2' q2''
            subst q2; subst q2'; subst q2''
            exact ⟨_, v, 0, mn, rfl, q1, by show (C.m.set o' _)[o']? = _; exact List.getElem?_set_self hol, Nat.le_refl _, fun _ => q4 rfl⟩
          · rw [if_neg e2]; trivial
        · rw [if_neg e1]
          exact hv.but hbut (by simpa [noRow] using e1)
      | _ =>
        rw [hl] at hv
        simp only [renA]
        split
        · rename_i hn
          exact hv.but hbut hn
        · trivial
    · refine ⟨by show (C.m.set o _).length = _; rw [List.length_set, List.length_set]; exact H.len, fun j ob s' hj hs' => ?_, fun j1 j2 s1 s2 b h1 h2 e1 e2 => ?_, fun s' hs' b hb => ?_, H.Xlt⟩
      · by_cases e1 : o = j
        · subst e1
          rw [List.getElem?_set_self (by rw [← H.len]; exact hol)] at hj
          rw [hD] at hs'
          simp only at hs'
          rw [List.getElem?_set_self hol] at hs'
          injection hj with hj
          injection hs' with hs'
          subst hj; subst hs'
          refine ⟨rfl, o2, fun hm => RelV.plain hbut.under _ _ rfl (o3 hm), fun hm => ?_⟩
          obtain ⟨t0, t1, cells, t2, t3⟩ := o4 hm
          exact ⟨t0, t1, cells, t2, by rw [hflat]; exact t3⟩
        · rw [List.getElem?_set_ne e1] at hj
          rw [hD] at hs'
          simp only at hs'
          rw [List.getElem?_set_ne e1] at hs'
          have hor := H.rel j ob s' hj hs'
          have hcl := List.all_eq_true.1 hclean ob (List.mem_iff_getElem?.2 ⟨j, hj⟩)
          cases ob with
          | gone => cases s' <;> exact hor
          | box e' fs =>
            cases s' <;> simp only [ORel] at hor ⊢
            obtain ⟨cs, u1, u2⟩ := hor
            exact ⟨cs, u1, RelL.but hbut fs _ (by simpa [noRowO] using hcl) u2⟩
          | row e' rows' k' app' =>
            cases s' <;> simp only [ORel] at hor ⊢
            refine ⟨hor.1, hor.2.1, fun hm => RelV.plain hbut.under _ _ rfl (hor.2.2.1 hm), fun hm => ?_⟩
            obtain ⟨t0, t1, cells, t2, t3⟩ := hor.2.2.2 hm
            exact ⟨t0, t1, cells, t2, by rw [hflat]; exact t3⟩
      · have key : ∀ (j : Nat) (s1 : Slot), D.m[j]? = some s1 → ∀ b, s1.block = some b → ∃ s0, C.m[j]? = some s0 ∧ s0.block = some b := by
          intro j s1 hj b hb
          by_cases e : o = j
          · subst e
            rw [hD] at hj
            simp only at hj
            rw [List.getElem?_set_self hol] at hj
            injection hj with hj
            subst hj
            exact ⟨_, hs, hb⟩
          · rw [hD] at hj
            simp only at hj
            rw [List.getElem?_set_ne e] at hj
            exact ⟨s1, hj, hb⟩
        obtain ⟨a1, u1, u2⟩ := key j1 s1 h1 b e1
        obtain ⟨a2, u3, u4⟩ := key j2 s2 h2 b e2
        exact H.inj j1 j2 a1 a2 b u1 u3 u2 u4
      · obtain ⟨s0, h1, h2⟩ := hblk s' hs' b hb
        exact H.nX s0 h1 b h2

/-! ### Objects that are needed no more -/
mutual
def belowA (N : Nat) : AV → Bool
  | .own o _ => decide (o < N)
  | .el _ o _ _ _ => decide (o < N)
  | .ptr o _ _ => decide (o < N)
  | .bsl _ o _ _ => decide (o < N)
  | .agg fs => belowL N fs
  | .fn _ caps => belowL N caps
  | .tup _ => false
  | _ => true
def belowL (N : Nat) : List AV → Bool
  | [] => true
  | f :: fs => belowA N f && belowL N fs
end
def belowO (N : Nat) : AO → Bool
  | .box _ fs => belowL N fs
  | _ => true

structure Fewer (N : Nat) (C D : Ctx) : Prop where
  w : D.w = C.w
  ok : ∀ b, C.ok b → D.ok b
  slot : ∀ o, o < N → D.m[o]? = C.m[o]?

mutual
theorem RelV.fewer {S : Sizes} {N : Nat} {C D : Ctx} (h : Fewer N C D) : ∀ (a : AV) (cs : List Value), belowA N a = true → RelV S C a cs → RelV S D a cs
  | .u, _, _, r => r.elim
  | .sc v, cs, _, r => r
  | .arr k n xs, cs, _, r => r
  | .agg fs, cs, hp, r => RelL.fewer h fs cs (by simpa [belowA] using hp) r
  | .sl e rows full, cs, _, r => RelV.plain ⟨h.w, h.ok⟩ _ _ rfl r
  | .own o' k, cs, hp, r => by
    obtain ⟨v', v, kk, mn, h1, h2, h3, h4⟩ := r
    exact ⟨v', v, kk, mn, h1, h2, by rw [h.slot o' (by simpa [belowA] using hp)]; exact h3, h4⟩
  | .ptr o' off ix, cs, hp, r => by
    obtain ⟨b, h1, h2⟩ := r
    exact ⟨b, by rw [h.slot o' (by simpa [belowA] using hp)]; exact h1, h2⟩
  | .el e o' k i off, cs, hp, r => by
    obtain ⟨p, v, kk, mn, h1, h2, h3, h4⟩ := r
    exact ⟨p, v, kk, mn, h1, h2, by rw [h.slot o' (by simpa [belowA] using hp)]; exact h3, h4⟩
  | .bsl e o' off n, cs, hp, r => by
    obtain ⟨b, h1, h2⟩ := r
    exact ⟨b, by rw [h.slot o' (by simpa [belowA] using hp)]; exact h1, h2⟩
  | .ep fs off ix, cs, _, r => RelV.plain ⟨h.w, h.ok⟩ _ _ rfl r
  | .fn f caps, cs, hp, r => by
    obtain ⟨vs, h1, h2⟩ := r
    exact ⟨vs, h1, RelL.fewer h caps _ (by simpa [belowA] using hp) h2⟩
  | .tup vs, _, _, r => r.elim
theorem RelL.fewer {S : Sizes} {N : Nat} {C D : Ctx} (h : Fewer N C D) : ∀ (fs : List AV) (cs : List Value), belowL N fs = true → RelL S C fs cs → RelL S D fs cs
  | [], _, _, r => r
  | f :: fs, cs, hp, r => by
    obtain ⟨c1, c2, h1, h2, h3⟩ := r
    simp only [belowL, Bool.and_eq_true] at hp
    exact ⟨c1, c2, h1, RelV.fewer h f c1 hp.1 h2, RelL.fewer h fs c2 hp.2 h3⟩
end

theorem VRel1.fewer {S : Sizes} {N : Nat} {C D : Ctx} (h : Fewer N C D) {a : AV} {v : Value} (hp : belowA N a = true) (r : VRel1 S C a v) : VRel1 S D a v := by
  cases a with
  | u => trivial
  | tup vs => simp [belowA] at hp
  | agg fs => obtain ⟨cs, h1, h2⟩ := r; exact ⟨cs, h1, RelL.fewer h _ _ (by simpa [belowA] using hp) h2⟩
  | arr k n xs => exact r
  | sc w => exact r
  | sl e rows full => exact RelV.fewer h _ _ hp r
  | own o' k => exact RelV.fewer h _ _ hp r
  | ptr o' off ix => exact RelV.fewer h _ _ hp r
  | ep fs off ix => exact RelV.fewer h _ _ hp r
  | el e o' k i off => exact RelV.fewer h _ _ hp r
  | bsl e o' off n => exact RelV.fewer h _ _ hp r
  | fn f caps => exact RelV.fewer h _ _ hp r
theorem VRel.fewer {S : Sizes} {N : Nat} {C D : Ctx} (h : Fewer N C D) {a : AV} {v : Value} (hp : belowA N a = true) (r : VRel S C a v) : VRel S D a v := by
  cases a with
  | tup vs => simp [belowA] at hp
  | u => trivial
  | agg fs => exact VRel1.fewer (a := .agg fs) h hp r
  | arr k n xs => exact r
  | sc w => exact r
  | sl e rows full => exact RelV.fewer h _ _ hp r
  | own o' k => exact RelV.fewer h _ _ hp r
  | ptr o' off ix => exact RelV.fewer h _ _ hp r
  | ep fs off ix => exact RelV.fewer h _ _ hp r
  | el e o' k i off => exact RelV.fewer h _ _ hp r
  | bsl e o' off n => exact RelV.fewer h _ _ hp r
  | fn f caps => exact RelV.fewer h _ _ hp r

/-- the first N slots alone -/
def Ctx.cut (N : Nat) (C : Ctx) : Ctx := ⟨C.w, C.m.take N, C.X⟩

theorem cut_fewer (N : Nat) (C : Ctx) : Fewer N C (C.cut N) := by
  refine ⟨rfl, fun b hb => ⟨hb.1, fun s hs => hb.2 s (List.mem_of_mem_take hs)⟩, fun o ho => ?_⟩
  show (C.m.take N)[o]? = _
  rw [List.getElem?_take, if_pos ho]

theorem cut_step {N : Nat} {C : Ctx} (st : Step c0 C) (hN : c0.m.length ≤ N) : Step c0 (C.cut N) := by
  refine ⟨st.os, st.tape, st.output, st.size, st.block, fun b hb ho => (cut_fewer N C).ok b (st.ok b hb ho), fun b hb hn s hs => st.fresh b hb hn s (List.mem_of_mem_take hs), fun o s hs => ?_, st.X⟩
  obtain ⟨s', h1, h2⟩ := st.slot o s hs
  exact ⟨s', by rw [(cut_fewer N C).slot o (by have := (List.getElem?_eq_some_iff.1 hs).1; omega)]; exact h1, h2⟩

theorem cut_heap {S : Sizes} {N : Nat} {C : Ctx} {h : List AO} (H : HRel S C h) (hb : (h.take N).all (belowO N) = true) : HRel S (C.cut N) (h.take N) := by
  have fw := cut_fewer N C
  refine ⟨by show (C.m.take N).length = _; simp [H.len], fun o ob s ho hs => ?_, fun o o' s s' b h1 h2 => ?_, fun s hs => H.nX s (List.mem_of_mem_take hs), H.Xlt⟩
  · have ho' : o < N := by
      have := (List.getElem?_eq_some_iff.1 ho).1
      rw [List.length_take] at this
      omega
    have hcl := List.all_eq_true.1 hb ob (List.mem_iff_getElem?.2 ⟨o, ho⟩)
    rw [List.getElem?_take, if_pos ho'] at ho
    rw [fw.slot o ho'] at hs
    have hor := H.rel o ob s ho hs
    have hmono : Mono C.flat (C.cut N).flat := Under.flat ⟨fw.w, fw.ok⟩
    cases ob with
    | gone => cases s <;> exact hor
    | box e fs =>
      cases s <;> simp only [ORel] at hor ⊢
      obtain ⟨cs, u1, u2⟩ := hor
      exact ⟨cs, u1, RelL.fewer fw fs _ (by simpa [belowO] using hcl) u2⟩
    | row e rows k app =>
      cases s <;> simp only [ORel] at hor ⊢
      refine ⟨hor.1, hor.2.1, fun hm => RelV.plain ⟨fw.w, fw.ok⟩ _ _ rfl (hor.2.2.1 hm), fun hm => ?_⟩
      obtain ⟨t0, t1, cells, t2, t3⟩ := hor.2.2.2 hm
      exact ⟨t0, t1, cells, t2, t3.mono hmono⟩
  · have g : ∀ (o : Nat) (s : Slot), (C.m.take N)[o]? = some s → C.m[o]? = some s := by
      intro o s h
      have hlt : o < N := by
        have := (List.getElem?_eq_some_iff.1 h).1
        rw [List.length_take] at this
        omega
      rwa [List.getElem?_take, if_pos hlt] at h
    exact H.inj o o' s s' b (g o s h1) (g o' s' h2)

def cutA (N : Nat) (a : AV) : AV := if belowA N a then a else .u

theorem AR.drop {k : List PI} {t t' : Tmps} {h h' : List AO} (N : Nat) (hN : c0.m.length ≤ N) (hb : (h.take N).all (belowO N) = true) (ht : (t.map fun p => (p.1, cutA N p.2)) = t') (hh : h.take N = h') (A : AR P G F c0 R k t' h') : AR P G F c0 R k t h := by
  intro C a st AA
  subst ht
  subst hh
  refine A (C.cut N) a (cut_step st hN) ⟨AA.defers, AA.size, fun i => ?_, cut_heap AA.heap hb⟩
  rw [lk_map _ (by simp [cutA])]
  unfold cutA
  split
  · rename_i hbl
    exact (AA.tmps i).fewer (cut_fewer N C) hbl
  · trivial

/-! ### The way in and the way out -/
def argT : Nat → List AV → Tmps
  | _, [] => []
  | i, a :: as => (i, a) :: argT (i + 1) as

theorem argT_rel {S : Sizes} {C : Ctx} : ∀ (as : List AV) (vs : List Value) (i0 : Nat) (n : Nat), VRels S C as vs → ∀ i, VRel S C (lk (argT i0 as) i) (if i0 ≤ i then (vs ++ List.replicate n undef).getD (i - i0) undef else undef)
  | [], vs, i0, n, h, i => by cases h; trivial
  | a :: as, v :: vs, i0, n, h, i => by
    cases h with
    | cons h1 h2 =>
      simp only [argT, lk]
      by_cases e : i0 = i
      · subst e
        simp only [beq_self_eq_true, if_true, Nat.le_refl, Nat.sub_self, List.cons_append]
        show VRel S C a v
        cases a with
        | tup _ => exact h1.elim
        | _ => exact h1
      · rw [if_neg (by simpa using e)]
        have := argT_rel as vs (i0 + 1) n h2 i
        by_cases hle : i0 ≤ i
        · rw [if_pos (by omega)] at this
          rw [if_pos hle, show i - i0 = (i - (i0 + 1)) + 1 by omega]
          simpa using this
        · rw [if_neg (by omega)] at this
          rw [if_neg hle]
          exact this
  | a :: as, [], i0, n, h, i => by cases h

theorem VRels.length {S : Sizes} {C : Ctx} {as : List AV} {vs : List Value} (h : VRels S C as vs) : as.length = vs.length := by
  induction h with
  | nil => rfl
  | cons _ _ ih => simp [ih]

theorem ACalls.intro {fn : Func} {B : Code} {f : FuncId} {n : Nat} {args : List AV} {h h' : List AO} {r : AV} (hf : P.funcs[f]? = some fn) (hname : (fn.name == "runtime.NumGoroutine") = false) (hB : fn.body = some B) (hn : fn.ntmps = n) (hlen : args.length ≤ n)
    (A : ∀ c0 : Ctx, c0.m.length = h.length → AR P G ⟨f, B, n⟩ c0 (Rp G.S c0 r h') [.code []] (argT 0 args) h) : ACalls P G.S f args h r h' := by
  refine ⟨ent_of hf hname (by rw [hB]; rfl), fun C vals H hv => ?_⟩
  refine calls_of_reach hf hB ?_
  have hl := hv.length
  have hl2 : vals.toList.length = vals.size := Array.length_toList
  have hsz : vals.size ≤ n := by omega
  have := A C H.len C { tmps := vals ++ Array.replicate (fn.ntmps - vals.size) undef, defers := [] } (Step.refl C) ⟨rfl, by simp [hn]; omega, fun i => ?_, H⟩
  · simpa [PI.dec, codeAt] using this
  · have h1 := argT_rel args vals.toList 0 (fn.ntmps - vals.size) hv i
    simp only [Nat.zero_le, if_true, Nat.sub_zero] at h1
    have e1 : (vals ++ Array.replicate (fn.ntmps - vals.size) undef).getD i undef = (vals.toList ++ List.replicate (fn.ntmps - vals.size) undef).getD i undef := by
      rw [Array.getD_eq_getD_getElem?, List.getD_eq_getElem?_getD, ← Array.getElem?_toList]
      simp
    rw [e1]
    exact h1

/-- what a function's results are -/
def resA (G : Tab) (t : Tmps) (h : List AO) : ResultVar → Option AV
  | .tmp i => some (lk t i)
  | .cell i ty =>
    match lk t i with
    | .ptr o off ix =>
      match h[o]? with
      | some (.box _ fs) => loadA G ty fs off ix
      | _ => none
    | _ => none

def finA (h : List AO) (N : Nat) (a : AV) : Option AV :=
  match a with
  | .own o k =>
    if o < N then some a else
    match h[o]? with
    | some (.row e rows k' app) => if k = k' then some (.sl e rows false) else none
    | _ => none
  | .tup _ => none
  | .u => none
  | a => if belowA N a then some a else none

def retA : List AV → AV
  | [a] => a
  | as => .tup as

theorem finA_rel {S : Sizes} {C : Ctx} {h : List AO} (H : HRel S C h) {N : Nat} {a b : AV} {v : Value} (hf : finA h N a = some b) (r : VRel S C a v) : VRel1 S (C.cut N) b v := by
  have fw := cut_fewer N C
  have other : ∀ {a : AV}, (if belowA N a then some a else none) = some b → VRel S C a v → VRel1 S (C.cut N) b v := by
    intro a hf r
    split at hf
    · rename_i hb
      injection hf with hf
      subst hf
      have := r.fewer fw hb
      cases a with
      | tup vs => simp [belowA] at hb
      | _ => exact this
    · cases hf
  unfold finA at hf
  split at hf
  · rename_i o k
    split at hf
    · rename_i hlt
      injection hf with hf
      subst hf
      exact RelV.fewer fw _ _ (by simpa [belowA] using hlt) r
    · rename_i hge
      split at hf
      · rename_i e rows k' app ho
        split at hf
        · rename_i hkk
          subst hkk
          injection hf with hf
          subst hf
          obtain ⟨v0, kk, mn, q1, q2, q3, q4⟩ := own_inv r
          obtain ⟨o1, o2, o3, o4⟩ := H.rel o _ _ ho q2
          have hv := q4 o1
          subst hv
          cases mn with
          | false =>
            obtain ⟨a, c, s1, s2, s3, s4, s5, s6⟩ := RelV.plain ⟨fw.w, fw.ok⟩ _ _ rfl (o3 rfl)
            exact ⟨a, c, s1, s2, by simp, s4, s5, s6⟩
          | true =>
            obtain ⟨_, hsz, cells, hown, hrf⟩ := o4 rfl
            rcases hown.2 with ⟨rfl, hn⟩ | ⟨g, cap, cur, rfl, _, hhp, hnc, hcm, hcs, htk⟩
            · obtain rfl : rows = [] := List.eq_nil_of_length_eq_zero hn
              exact ⟨none, 0, rfl, Nat.le_refl _, by simp, by simp [maxLen], by simp [reach], .inl rfl⟩
            · refine ⟨some ⟨g, 0, none⟩, cap, rfl, hnc, by simp, hcm, o2, .inr ⟨g, 0, rfl, ⟨?_, ?_⟩, ?_⟩⟩
              · exact H.nX _ (List.mem_iff_getElem?.2 ⟨o, q2⟩) g rfl
              · intro s' hs' hb
                obtain ⟨j, hj⟩ := List.mem_iff_getElem?.1 hs'
                have hjl : j < N := by
                  have := (List.getElem?_eq_some_iff.1 hj).1
                  simp only [Ctx.cut, List.length_take] at this
                  omega
                rw [fw.slot j hjl] at hj
                have := H.inj o j _ _ g q2 hj rfl hb
                omega
              · have hmono : Mono C.flat (C.cut N).flat := Under.flat ⟨fw.w, fw.ok⟩
                refine RelR.of_RelF hsz rows cells 0 (hrf.mono hmono) (fun j u hj => ?_)
                rw [Nat.zero_add]
                show C.w.cell? _ = _
                rw [cell_of_heap hhp]
                rw [← htk] at hj
                have hl : j < rows.length * (S e).1 := by
                  have := (List.getElem?_eq_some_iff.1 hj).1
                  rw [List.length_take] at this
                  omega
                rw [List.getElem?_take, if_pos hl] at hj
                simpa using hj
        · cases hf
      · cases hf
  · cases hf
  · cases hf
  · exact other hf r

theorem resA_rel (hG : G.ok P) {C : Ctx} {t : Tmps} {h : List AO} {n : Nat} {a : Act} (A : ARel G.S C t h n a) : ∀ (rs : List ResultVar) (as : List AV), rs.mapM (resA G t h) = some as →
    ∃ vs : List Value, (rs.mapM (m := Sem) fun | .tmp t => pure (a.tmps.getD t undef) | .cell x t => do loadVar t (← asAddr (a.tmps.getD x undef))).run P C.w = .ok vs C.w ∧ vs.length = as.length ∧ ∀ (i : Nat) (x : AV) (v : Value), as[i]? = some x → vs[i]? = some v → VRel G.S C x v
  | [], as, h => by
    have : as = [] := by simpa using h.symm
    subst this
    exact ⟨[], rfl, rfl, by simp⟩
  | r :: rs, as, h0 => by
    simp only [List.mapM_cons] at h0
    obtain ⟨x, h1, h2⟩ := Option.bind_eq_some_iff.1 h0
    obtain ⟨xs, h3, h4⟩ := Option.bind_eq_some_iff.1 h2
    injection h4 with h4
    subst h4
    obtain ⟨vs, k1, k2, k3⟩ := resA_rel hG A rs xs h3
    have one : ∃ v, (match r with | .tmp t => (pure (a.tmps.getD t undef) : Sem Value) | .cell x t => do loadVar t (← asAddr (a.tmps.getD x undef))).run P C.w = .ok v C.w ∧ VRel G.S C x v := by
      cases r with
      | tmp i =>
        simp only [resA] at h1
        injection h1 with h1
        subst h1
        exact ⟨_, rfl, A.tmps i⟩
      | cell i ty =>
        simp only [resA] at h1
        split at h1
        · rename_i o off ix hx
          have hp := A.tmps i
          rw [hx] at hp
          obtain ⟨b, q1, q2, q3⟩ := ptr_inv hp
          split at h1
          · rename_i e fs ho
            obtain ⟨cs, k4, k5⟩ := box_rel A.heap ho q1
            obtain ⟨v, k6, k7⟩ := load_sound hG k5 (RelL.toList_cells (S := G.S) k4) q2 h1
            rw [Nat.zero_add] at k6
            refine ⟨v, ?_, k7⟩
            simp only [q3, asAddr, Sem.run_bind, Sem.run_pure, Result.andThen_ok, k6]
          · cases h1
        · cases h1
    obtain ⟨v, g1, g2⟩ := one
    refine ⟨v :: vs, ?_, by simp [k2], fun i y u hy hu => ?_⟩
    · simp only [List.mapM_cons, Sem.run_bind, g1, Result.andThen_ok, k1, Sem.run_pure]
    · cases i with
      | zero =>
        have e1 : x = y := by simpa using hy
        have e2 : v = u := by simpa using hu
        subst e1; subst e2
        exact g2
      | succ i => exact k3 i y u (by simpa using hy) (by simpa using hu)

theorem retA_rel {S : Sizes} {C : Ctx} {bs : List AV} {l : List Value} (h : VRels S C bs l) : VRel S C (retA bs) (if h : l.toArray.size = 1 then l.toArray[0] else .tuple l.toArray) := by
  have hl := h.length
  cases h with
  | nil => exact ⟨#[], rfl, .nil⟩
  | cons h1 h2 =>
    cases h2 with
    | nil =>
      simp only [retA]
      rw [dif_pos (by simp)]
      rename_i a v
      show VRel S C a v
      cases a with
      | tup vs => exact h1.elim
      | _ => exact h1
    | cons h3 h4 =>
      rw [dif_neg (by simp)]
      exact ⟨_, rfl, .cons h1 (.cons h3 h4)⟩

/-- the return: what is handed back, and which objects outlive the call -/
theorem AR.ret (hG : G.ok P) {fn : Func} (hf : P.funcs[F.f]? = some fn) {k : List PI} {p : List Nat} (hc : codeAt F.B p = .ret) {t : Tmps} {h h' : List AO} {as bs : List AV} (N : Nat) (hN : c0.m.length ≤ N) (hrs : fn.results.toList.mapM (resA G t h) = some as) (hbs : as.mapM (finA h N) = some bs) (hb : (h.take N).all (belowO N) = true) (hh : h.take N = h') {r : AV} (hr : retA bs = r) : AR P G F c0 (Rp G.S c0 r h') (.code p :: k) t h := by
  intro C a st AA
  simp only [List.map_cons, PI.dec, hc]
  obtain ⟨vs, h1, h2, h3⟩ := resA_rel hG AA _ _ hrs
  have hrels : VRels G.S (C.cut N) bs vs := by
    have key : ∀ (as bs : List AV) (vs : List Value), as.mapM (finA h N) = some bs → vs.length = as.length → (∀ (i : Nat) (x : AV) (v : Value), as[i]? = some x → vs[i]? = some v → VRel G.S C x v) → VRels G.S (C.cut N) bs vs := by
      intro as
      induction as with
      | nil =>
        intro bs vs hm hl _
        have : bs = [] := by simpa using hm.symm
        subst this
        have : vs = [] := List.eq_nil_of_length_eq_zero hl
        subst this
        exact .nil
      | cons x xs ih =>
        intro bs vs hm hl hr
        simp only [List.mapM_cons] at hm
        obtain ⟨b, m1, m2⟩ := Option.bind_eq_some_iff.1 hm
        obtain ⟨bs', m3, m4⟩ := Option.bind_eq_some_iff.1 m2
        injection m4 with m4
        subst m4
        cases vs with
        | nil => simp at hl
        | cons v vs =>
          exact .cons (finA_rel AA.heap m1 (hr 0 x v rfl rfl)) (ih bs' vs m3 (by simpa using hl) fun i y u hy hu => hr (i + 1) y u (by simpa using hy) (by simpa using hu))
    exact key as bs vs hbs h2 h3
  have hres : (results fn a.tmps).run P C.w = .ok (if h : vs.toArray.size = 1 then vs.toArray[0] else .tuple vs.toArray) C.w := by
    unfold results
    rw [Array.mapM_eq_mapM_toList]
    simp only [Sem.run_bind, Sem.run_map]
    erw [h1]
    rfl
  subst hh
  subst hr
  exact Reach.ret hf AA.defers hres ⟨_, C.cut N, rfl, rfl, cut_step st hN, cut_heap AA.heap hb, retA_rel hrels⟩
end Go.Sh
