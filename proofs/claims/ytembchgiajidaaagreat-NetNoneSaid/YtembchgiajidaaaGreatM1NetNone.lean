import Derived.Laws.Slices
import Derived.Laws.StructEq
import Derived.ChangeKeysEq
import Derived.Laws.Cover3
import Derived.Laws.BytesArg
import Derived.Lib.Overlaps
import Derived.Lib.AppendZerosOnto
import Derived.Test.YtembchgiajidaaaGreatM0NetNone
set_option linter.unusedVariables false
set_option linter.unusedSimpArgs false
namespace Go.Sh
variable {P : Program} {G : Tab} {F : Fn} {c0 : Ctx} {R : Ending → World → Prop}
theorem AR.adopt {k : List PI} {t : Tmps} {h : List AO} {e0 : TypeId} {rows : List AV} (i : Nat) (e : TypeId) (hi : lk t i = .sl e0 rows true) (he : rows = [] ∨ e = e0) (A : AR P G F c0 R k (setT t (some i) (.own h.length 0)) (h ++ [.row e rows 0 true])) : AR P G F c0 R k t h := by
 intro C a st AA
 have hv := AA.tmps i
 rw [hi] at hv
 obtain ⟨v, hvv⟩ : ∃ v, a.tmps.getD i undef = v := ⟨_, rfl⟩
 rw [hvv] at hv
 have hrel : RelV G.S C (.sl e rows true) [v] := by
  obtain ⟨b, c, s1, s2, s3, s4, s5, s6⟩ := (hv : RelV G.S C (.sl e0 rows true) [v])
  rcases he with rfl | rfl
  ·exact ⟨b, c, s1, s2, s3, s4, by simp [reach], .inl rfl⟩
  ·exact ⟨b, c, s1, s2, s3, s4, s5, s6⟩
 obtain ⟨st', hh⟩ := HRel.push (S := G.S) (C' := ⟨C.w, C.m ++ [.row v 0 false], C.X⟩) (s := .row v 0 false) (ob := .row e rows 0 true) AA.heap (Nat.le_refl _) rfl rfl rfl (fun _ _ => rfl) rfl rfl (fun b hb => by simp [Slot.has] at hb)
 have h1v : v.oneCell' = true := RelV.one _ _ hrel v (by simp)
 have hb : rows.length * (G.S e).2 ≤ reach := by
  obtain ⟨_, _, _, _, _, _, s5, _⟩ := hrel
  exact s5
 refine A ⟨C.w, C.m ++ [.row v 0 false], C.X⟩ a (st.trans st') ⟨AA.defers, AA.size, fun j => ?_, hh ⟨rfl, hb, fun _ => RelV.step st' _ _ hrel, by simp, fun hk => by omega⟩⟩
 rw [lk_setT]
 by_cases hj : j = i
 ·subst hj
  rw [if_pos rfl, hvv]
  refine ⟨v, v, 0, false, rfl, h1v, ?_, Nat.le_refl _, fun _ => rfl⟩
  show (C.m ++ [Slot.row v 0 false])[h.length]? = _
  rw [← AA.heap.len]
  simp
 ·rw [if_neg hj]
  exact (AA.tmps j).step st'
theorem AR.adoptB {k : List PI} {t : Tmps} {h : List AO} {e0 : TypeId} {rows : List AV} (i : Nat) (e : TypeId) (hi : lk t i = .sl e0 rows true) (he : rows = []) (A : AR P G F c0 R k (setT t (some i) (.own h.length 1000000)) (h ++ [.row e rows 1000000 true])) : AR P G F c0 R k t h := by
 intro C a st AA
 have hv := AA.tmps i
 rw [hi] at hv
 obtain ⟨v, hvv⟩ : ∃ v, a.tmps.getD i undef = v := ⟨_, rfl⟩
 rw [hvv] at hv
 have hrel : RelV G.S C (.sl e rows true) [v] := by
  obtain ⟨b, c, s1, s2, s3, s4, s5, s6⟩ := (hv : RelV G.S C (.sl e0 rows true) [v])
  subst he
  exact ⟨b, c, s1, s2, s3, s4, by simp [reach], .inl rfl⟩
 obtain ⟨st', hh⟩ := HRel.push (S := G.S) (C' := ⟨C.w, C.m ++ [.row v 1000000 false], C.X⟩) (s := .row v 1000000 false) (ob := .row e rows 1000000 true) AA.heap (Nat.le_refl _) rfl rfl rfl (fun _ _ => rfl) rfl rfl (fun b hb => by simp [Slot.has] at hb)
 have h1v : v.oneCell' = true := RelV.one _ _ hrel v (by simp)
 have hb : rows.length * (G.S e).2 ≤ reach := by
  obtain ⟨_, _, _, _, _, _, s5, _⟩ := hrel
  exact s5
 refine A ⟨C.w, C.m ++ [.row v 1000000 false], C.X⟩ a (st.trans st') ⟨AA.defers, AA.size, fun j => ?_, hh ⟨rfl, hb, fun _ => RelV.step st' _ _ hrel, by simp, fun _ _ _ => he⟩⟩
 rw [lk_setT]
 by_cases hj : j = i
 ·subst hj
  rw [if_pos rfl, hvv]
  refine ⟨v, v, 1000000, false, rfl, h1v, ?_, Nat.le_refl _, fun _ => rfl⟩
  show (C.m ++ [Slot.row v 1000000 false])[h.length]? = _
  rw [← AA.heap.len]
  simp
 ·rw [if_neg hj]
  exact (AA.tmps j).step st'
mutual
def noRow (o : Nat) : AV → Bool
 | .own o' _ => o' != o
 | .el _ o' _ _ _ => o' != o
 | .agg fs => noRowL o fs
 | .fn _ caps => noRowL o caps
 | .tup _ => false
 | _ => true
def noRowL (o : Nat) : List AV → Bool
 | [] => true
 | f :: fs => noRow o f && noRowL o fs
end
structure But (o : Nat) (C D : Ctx) : Prop where
 w : D.w = C.w
 ok : ∀ b, C.ok b → D.ok b
 slot : ∀ o', o' ≠ o → D.m[o']? = C.m[o']?
 nblk : ∀ b, C.m[o]? ≠ some (.blk b)
 nfam : ∀ v k gs B, C.m[o]? ≠ some (.fam v k gs B)
 P : C.X.le D.X
theorem But.under {o : Nat} {C D : Ctx} (h : But o C D) : Under C D := ⟨h.w, h.ok, h.P⟩
mutual
theorem RelV.but {S : Sizes} {o : Nat} {C D : Ctx} (h : But o C D) : ∀ (a : AV) (cs : List Value), noRow o a = true → RelV S C a cs → RelV S D a cs
 | .u, _, _, r => r.elim
 | .sc v, cs, _, r => r
 | .arr k n xs, cs, _, r => r
 | .agg fs, cs, hp, r => RelL.but h fs cs (by simpa [noRow] using hp) r
 | .sl e rows full, cs, _, r => RelV.plain h.under _ _ rfl r
 | .own o' k, cs, hp, r => by
  obtain ⟨v', v, kk, mn, h1, h2, h3, h4⟩ := r
  have hne : o' ≠ o := by simpa [noRow] using hp
  exact ⟨v', v, kk, mn, h1, h2, by rw [h.slot o' hne]; exact h3, h4⟩
 | .ptr o' off ix, cs, _, r => by
  obtain ⟨b, h1, h2⟩ := r
  have hne : o' ≠ o := fun e => h.nblk b (e ▸ h1)
  exact ⟨b, by rw [h.slot o' hne]; exact h1, h2⟩
 | .el e o' k i off, cs, hp, r => by
  obtain ⟨p, v, kk, mn, h1, h2, h3, h4⟩ := r
  have hne : o' ≠ o := by simpa [noRow] using hp
  exact ⟨p, v, kk, mn, h1, h2, by rw [h.slot o' hne]; exact h3, h4⟩
 | .bsl e o' off n, cs, _, r => by
  obtain ⟨b, h1, h2⟩ := r
  have hne : o' ≠ o := fun e => h.nblk b (e ▸ h1)
  exact ⟨b, by rw [h.slot o' hne]; exact h1, h2⟩
 | .ref K o', cs, _, r => by
  obtain ⟨b, h1, h2⟩ := r
  have hne : o' ≠ o := fun e => h.nblk b (e ▸ h1)
  exact ⟨b, by rw [h.slot o' hne]; exact h1, h2⟩
 | .ep fs off ix, cs, _, r => RelV.plain h.under _ _ rfl r
 | .fn f caps, cs, hp, r => by
  obtain ⟨vs, h1, h2⟩ := r
  exact ⟨vs, h1, RelL.but h caps _ (by simpa [noRow] using hp) h2⟩
 | .fm o' k ψ, cs, _, r => by
  obtain ⟨x, v, kk, gs, B, h1, h2, h3, h4⟩ := r
  have hne : o' ≠ o := fun e => h.nfam v kk gs B (e ▸ h3)
  exact ⟨x, v, kk, gs, B, h1, h2, by rw [h.slot o' hne]; exact h3, h4⟩
 | .is ψ, cs, _, r => r
 | .tup vs, _, _, r => r.elim
theorem RelL.but {S : Sizes} {o : Nat} {C D : Ctx} (h : But o C D) : ∀ (fs : List AV) (cs : List Value), noRowL o fs = true → RelL S C fs cs → RelL S D fs cs
 | [], _, _, r => r
 | f :: fs, cs, hp, r => by
  obtain ⟨c1, c2, h1, h2, h3⟩ := r
  simp only [noRowL, Bool.and_eq_true] at hp
  exact ⟨c1, c2, h1, RelV.but h f c1 hp.1 h2, RelL.but h fs c2 hp.2 h3⟩
end
theorem VRel.but {S : Sizes} {o : Nat} {C D : Ctx} (h : But o C D) {a : AV} {v : Value} (hp : noRow o a = true) (r : VRel S C a v) : VRel S D a v := by
 cases a with
 | u => trivial
 | tup vs => simp [noRow] at hp
 | agg fs => obtain ⟨cs, h1, h2⟩ := r; exact ⟨cs, h1, RelL.but h _ _ (by simpa [noRow] using hp) h2⟩
 | arr k n xs => exact r
 | sc w => exact r
 | sl e rows full => exact RelV.but h _ _ hp r
 | own o' k => exact RelV.but h _ _ hp r
 | ptr o' off ix => exact RelV.but h _ _ hp r
 | ep fs off ix => exact RelV.but h _ _ hp r
 | el e o' k i off => exact RelV.but h _ _ hp r
 | bsl e o' off n => exact RelV.but h _ _ hp r
 | ref K o' => exact RelV.but h _ _ hp r
 | fn f caps => exact RelV.but h _ _ hp r
 | fm o' k ψ => exact RelV.but h _ _ hp r
 | is ψ => exact r
theorem lk_map (g : AV → AV) (hg : g .u = .u) : ∀ (t : Tmps) (i : Nat), lk (t.map fun p => (p.1, g p.2)) i = g (lk t i)
 | [], i => hg.symm
 | (j, a) :: t, i => by
  simp only [List.map_cons, lk]
  split
  ·rfl
  ·exact lk_map g hg t i
mutual
def belowA (N : Nat) : AV → Bool
 | .own o _ => decide (o < N)
 | .el _ o _ _ _ => decide (o < N)
 | .ptr o _ _ => decide (o < N)
 | .bsl _ o _ _ => decide (o < N)
 | .ref _ o => decide (o < N)
 | .fm o _ _ => decide (o < N)
 | .agg fs => belowL N fs
 | .fn _ caps => belowL N caps
 | .tup _ => false
 | _ => true
def belowL (N : Nat) : List AV → Bool
 | [] => true
 | f :: fs => belowA N f && belowL N fs
end
def belowO (N : Nat) : AO → Bool
 | .box _ fs => belowL N fs
 | .famT _ _ pd => pd.all fun q => decide (q.2 < N)
 | _ => true
structure Fewer (N : Nat) (C D : Ctx) : Prop where
 w : D.w = C.w
 ok : ∀ b, C.ok b → D.ok b
 slot : ∀ o, o < N → D.m[o]? = C.m[o]?
 P : C.X.le D.X
mutual
theorem RelV.fewer {S : Sizes} {N : Nat} {C D : Ctx} (h : Fewer N C D) : ∀ (a : AV) (cs : List Value), belowA N a = true → RelV S C a cs → RelV S D a cs
 | .u, _, _, r => r.elim
 | .sc v, cs, _, r => r
 | .arr k n xs, cs, _, r => r
 | .agg fs, cs, hp, r => RelL.fewer h fs cs (by simpa [belowA] using hp) r
 | .sl e rows full, cs, _, r => RelV.plain ⟨h.w, h.ok, h.P⟩ _ _ rfl r
 | .own o' k, cs, hp, r => by
  obtain ⟨v', v, kk, mn, h1, h2, h3, h4⟩ := r
  exact ⟨v', v, kk, mn, h1, h2, by rw [h.slot o' (by simpa [belowA] using hp)]; exact h3, h4⟩
 | .ptr o' off ix, cs, hp, r => by
  obtain ⟨b, h1, h2⟩ := r
  exact ⟨b, by rw [h.slot o' (by simpa [belowA] using hp)]; exact h1, h2⟩
 | .el e o' k i off, cs, hp, r => by
  obtain ⟨p, v, kk, mn, h1, h2, h3, h4⟩ := r
  exact ⟨p, v, kk, mn, h1, h2, by rw [h.slot o' (by simpa [belowA] using hp)]; exact h3, h4⟩
 | .bsl e o' off n, cs, hp, r => by
  obtain ⟨b, h1, h2⟩ := r
  exact ⟨b, by rw [h.slot o' (by simpa [belowA] using hp)]; exact h1, h2⟩
 | .ref K o', cs, hp, r => by
  obtain ⟨b, h1, h2⟩ := r
  exact ⟨b, by rw [h.slot o' (by simpa [belowA] using hp)]; exact h1, h2⟩
 | .ep fs off ix, cs, _, r => RelV.plain ⟨h.w, h.ok, h.P⟩ _ _ rfl r
 | .fn f caps, cs, hp, r => by
  obtain ⟨vs, h1, h2⟩ := r
  exact ⟨vs, h1, RelL.fewer h caps _ (by simpa [belowA] using hp) h2⟩
 | .fm o' k ψ, cs, hp, r => by
  obtain ⟨x, v, kk, gs, B, h1, h2, h3, h4⟩ := r
  exact ⟨x, v, kk, gs, B, h1, h2, by rw [h.slot o' (by simpa [belowA] using hp)]; exact h3, h4⟩
 | .is ψ, cs, _, r => r
 | .tup vs, _, _, r => r.elim
theorem RelL.fewer {S : Sizes} {N : Nat} {C D : Ctx} (h : Fewer N C D) : ∀ (fs : List AV) (cs : List Value), belowL N fs = true → RelL S C fs cs → RelL S D fs cs
 | [], _, _, r => r
 | f :: fs, cs, hp, r => by
  obtain ⟨c1, c2, h1, h2, h3⟩ := r
  simp only [belowL, Bool.and_eq_true] at hp
  exact ⟨c1, c2, h1, RelV.fewer h f c1 hp.1 h2, RelL.fewer h fs c2 hp.2 h3⟩
end
theorem VRel1.fewer {S : Sizes} {N : Nat} {C D : Ctx} (h : Fewer N C D) {a : AV} {v : Value} (hp : belowA N a = true) (r : VRel1 S C a v) : VRel1 S D a v := by
 cases a with
 | u => trivial
 | tup vs => simp [belowA] at hp
 | agg fs => obtain ⟨cs, h1, h2⟩ := r; exact ⟨cs, h1, RelL.fewer h _ _ (by simpa [belowA] using hp) h2⟩
 | arr k n xs => exact r
 | sc w => exact r
 | sl e rows full => exact RelV.fewer h _ _ hp r
 | own o' k => exact RelV.fewer h _ _ hp r
 | ptr o' off ix => exact RelV.fewer h _ _ hp r
 | ep fs off ix => exact RelV.fewer h _ _ hp r
 | el e o' k i off => exact RelV.fewer h _ _ hp r
 | bsl e o' off n => exact RelV.fewer h _ _ hp r
 | ref K o' => exact RelV.fewer h _ _ hp r
 | fn f caps => exact RelV.fewer h _ _ hp r
 | fm o' k ψ => exact RelV.fewer h _ _ hp r
 | is ψ => exact r
theorem VRel.fewer {S : Sizes} {N : Nat} {C D : Ctx} (h : Fewer N C D) {a : AV} {v : Value} (hp : belowA N a = true) (r : VRel S C a v) : VRel S D a v := by
 cases a with
 | tup vs => simp [belowA] at hp
 | u => trivial
 | agg fs => exact VRel1.fewer (a := .agg fs) h hp r
 | arr k n xs => exact r
 | sc w => exact r
 | sl e rows full => exact RelV.fewer h _ _ hp r
 | own o' k => exact RelV.fewer h _ _ hp r
 | ptr o' off ix => exact RelV.fewer h _ _ hp r
 | ep fs off ix => exact RelV.fewer h _ _ hp r
 | el e o' k i off => exact RelV.fewer h _ _ hp r
 | bsl e o' off n => exact RelV.fewer h _ _ hp r
 | ref K o' => exact RelV.fewer h _ _ hp r
 | fn f caps => exact RelV.fewer h _ _ hp r
 | fm o' k ψ => exact RelV.fewer h _ _ hp r
 | is ψ => exact r
def Ctx.cut (N : Nat) (C : Ctx) : Ctx := ⟨C.w, C.m.take N, C.X⟩
theorem cut_fewer (N : Nat) (C : Ctx) : Fewer N C (C.cut N) := by
 refine ⟨rfl, fun b hb => ⟨hb.1, fun s hs => hb.2 s (List.mem_of_mem_take hs)⟩, fun o ho => ?_, Keep.le_refl _⟩
 show (C.m.take N)[o]? = _
 rw [List.getElem?_take, if_pos ho]
theorem cut_step {N : Nat} {C : Ctx} (st : StepW c0 C) (hN : c0.m.length ≤ N) : StepW c0 (C.cut N) := by
 refine ⟨st.os, st.tape, st.output, st.size, st.block, fun b hb ho => (cut_fewer N C).ok b (st.ok b hb ho), fun b hb hn s hs => st.fresh b hb hn s (List.mem_of_mem_take hs), fun o b hb => ?_, fun o v k mn hs => ?_, fun o v k gs B hs => ?_, st.X, st.keep⟩
 ·rw [(cut_fewer N C).slot o (by have := (List.getElem?_eq_some_iff.1 hb).1; omega)]; exact st.blk o b hb
 ·rw [(cut_fewer N C).slot o (by have := (List.getElem?_eq_some_iff.1 hs).1; omega)]; exact st.row o v k mn hs
 ·rw [(cut_fewer N C).slot o (by have := (List.getElem?_eq_some_iff.1 hs).1; omega)]; exact st.fam o v k gs B hs
theorem cut_heap {S : Sizes} {N : Nat} {C : Ctx} {h : List AO} (H : HRel S C h) (hb : (h.take N).all (belowO N) = true) : HRel S (C.cut N) (h.take N) := by
 have fw := cut_fewer N C
 refine ⟨by show (C.m.take N).length = _; simp [H.len], fun o ob s ho hs => ?_, fun o o' s s' b h1 h2 => ?_, fun s hs => H.nX s (List.mem_of_mem_take hs), H.Xlt⟩
 ·have ho' : o < N := by
   have := (List.getElem?_eq_some_iff.1 ho).1
   rw [List.length_take] at this
   omega
  have hcl := List.all_eq_true.1 hb ob (List.mem_iff_getElem?.2 ⟨o, ho⟩)
  rw [List.getElem?_take, if_pos ho'] at ho
  rw [fw.slot o ho'] at hs
  have hor := H.rel o ob s ho hs
  have hmono : Mono C.flat (C.cut N).flat := Under.flat ⟨fw.w, fw.ok, fw.P⟩
  cases ob with
  | gone => cases s <;> exact hor
  | any φ =>
   cases s <;> simp only [ORel] at hor ⊢
   exact hor
  | vals φ aas =>
   cases s <;> simp only [ORel] at hor ⊢
   obtain ⟨ob, vs, u1, u2, u3⟩ := hor
   exact ⟨ob, vs, u1, u2.mono hmono, u3⟩
  | fam φ k =>
   cases s <;> simp only [ORel] at hor ⊢
   exact ⟨hor.1, φ.mono hmono (fun _ _ => rfl) hor.2⟩
  | famT φ k pd =>
   cases s <;> simp only [ORel] at hor ⊢
   refine ⟨hor.1, φ.mono hmono (fun _ _ => rfl) hor.2.1, fun q hq => ?_⟩
   obtain ⟨b, z1, z2⟩ := hor.2.2 q hq
   have hlt : q.2 < N := by
    have h1 := List.all_eq_true.1 hcl q hq
    simpa using h1
   exact ⟨b, z1, by rw [fw.slot _ hlt]; exact z2⟩
  | box e fs =>
   cases s <;> simp only [ORel] at hor ⊢
   obtain ⟨cs, u1, u2⟩ := hor
   exact ⟨cs, u1, RelL.fewer fw fs _ (by simpa [belowO] using hcl) u2⟩
  | row e rows k app =>
   cases s <;> simp only [ORel] at hor ⊢
   refine ⟨hor.1, hor.2.1, fun hm => RelV.plain ⟨fw.w, fw.ok, fw.P⟩ _ _ rfl (hor.2.2.1 hm), fun hm => ?_, hor.2.2.2.2⟩
   obtain ⟨t0, t1, cells, t2, t3, t4⟩ := hor.2.2.2.1 hm
   exact ⟨t0, t1, cells, t2, t3.mono hmono, t4⟩
 ·have g : ∀ (o : Nat) (s : Slot), (C.m.take N)[o]? = some s → C.m[o]? = some s := by
   intro o s h
   have hlt : o < N := by
    have := (List.getElem?_eq_some_iff.1 h).1
    rw [List.length_take] at this
    omega
   rwa [List.getElem?_take, if_pos hlt] at h
  exact H.inj o o' s s' b (g o s h1) (g o' s' h2)
def cutA (N : Nat) (a : AV) : AV := if belowA N a then a else .u
theorem AR.drop {k : List PI} {t t' : Tmps} {h h' : List AO} (N : Nat) (hN : c0.m.length ≤ N) (hb : (h.take N).all (belowO N) = true) (ht : (t.map fun p => (p.1, cutA N p.2)) = t') (hh : h.take N = h') (A : AR P G F c0 R k t' h') : AR P G F c0 R k t h := by
 intro C a st AA
 subst ht
 subst hh
 refine A (C.cut N) a (cut_step st hN) ⟨AA.defers, AA.size, fun i => ?_, cut_heap AA.heap hb⟩
 rw [lk_map _ (by simp [cutA])]
 unfold cutA
 split
 ·rename_i hbl
  exact (AA.tmps i).fewer (cut_fewer N C) hbl
 ·trivial
def argT : Nat → List AV → Tmps
 | _, [] => []
 | i, a :: aas => (i, a) :: argT (i + 1) aas
theorem argT_rel {S : Sizes} {C : Ctx} : ∀ (aas : List AV) (vs : List Value) (i0 : Nat) (n : Nat), VRels S C aas vs → ∀ i, VRel S C (lk (argT i0 aas) i) (if i0 ≤ i then (vs ++ List.replicate n undef).getD (i - i0) undef else undef)
 | [], vs, i0, n, h, i => by cases h; trivial
 | a :: aas, v :: vs, i0, n, h, i => by
  cases h with
  | cons h1 h2 =>
   simp only [argT, lk]
   by_cases e : i0 = i
   ·subst e
    simp only [beq_self_eq_true, if_true, Nat.le_refl, Nat.sub_self, List.cons_append]
    show VRel S C a v
    cases a with
    | tup _ => exact h1.elim
    | _ => exact h1
   ·rw [if_neg (by simpa using e)]
    have := argT_rel aas vs (i0 + 1) n h2 i
    by_cases hle : i0 ≤ i
    ·rw [if_pos (by omega)] at this
     rw [if_pos hle, show i - i0 = (i - (i0 + 1)) + 1 by omega]
     simpa using this
    ·rw [if_neg (by omega)] at this
     rw [if_neg hle]
     exact this
 | a :: aas, [], i0, n, h, i => by cases h
theorem VRels.length {S : Sizes} {C : Ctx} {aas : List AV} {vs : List Value} (h : VRels S C aas vs) : aas.length = vs.length := by
 induction h with
 | nil => rfl
 | cons _ _ ih => simp [ih]
theorem ACalls.intro {fn : Func} {B : Code} {f : FuncId} {n : Nat} {args : List AV} {h h' : List AO} {r : AV} (hf : P.funcs[f]? = some fn) (hname : (fn.name == "runtime.NumGoroutine") = false) (hB : fn.body = some B) (hn : fn.ntmps = n) (hlen : args.length ≤ n)
  (A : ∀ c0 : Ctx, c0.m.length = h.length → AR P G ⟨f, B, n⟩ c0 (Rp G.S c0 r h') [.code []] (argT 0 args) h) : ACalls P G.S f args h r h' := by
 refine ⟨ent_of hf hname (by rw [hB]; rfl), fun C vals H hv => ?_⟩
 refine calls_of_reach hf hB ?_
 have hl := hv.length
 have hl2 : vals.toList.length = vals.size := Array.length_toList
 have hsz : vals.size ≤ n := by omega
 have := A C H.len C { tmps := vals ++ Array.replicate (fn.ntmps - vals.size) undef, defers := [] } (StepW.refl C) ⟨rfl, by simp [hn]; omega, fun i => ?_, H⟩
 ·simpa [PI.dec, codeAt] using this
 ·have h1 := argT_rel args vals.toList 0 (fn.ntmps - vals.size) hv i
  simp only [Nat.zero_le, if_true, Nat.sub_zero] at h1
  have e1 : (vals ++ Array.replicate (fn.ntmps - vals.size) undef).getD i undef = (vals.toList ++ List.replicate (fn.ntmps - vals.size) undef).getD i undef := by
   rw [Array.getD_eq_getD_getElem?, List.getD_eq_getElem?_getD, ← Array.getElem?_toList]
   simp
  rw [e1]
  exact h1
def resA (G : Tab) (t : Tmps) (h : List AO) : ResultVar → Option AV
 | .tmp i => some (lk t i)
 | .cell i ty =>
  match lk t i with
  | .ptr o off ix =>
   match h[o]? with
   | some (.box _ fs) => loadA G ty fs off ix
   | _ => none
  | _ => none
def finA (h : List AO) (N : Nat) (a : AV) : Option AV :=
 match a with
 | .own o k =>
  if o < N then some a else
  match h[o]? with
  | some (.row e rows k' app) => if k = k' then some (.sl e rows false) else none
  | _ => none
 | .tup _ => none
 | .u => none
 | a => if belowA N a then some a else none
def retA : List AV → AV
 | [a] => a
 | aas => .tup aas
theorem finA_rel {S : Sizes} {C : Ctx} {h : List AO} (H : HRel S C h) {N : Nat} {a b : AV} {v : Value} (hf : finA h N a = some b) (r : VRel S C a v) : VRel1 S (C.cut N) b v := by
 have fw := cut_fewer N C
 have other : ∀ {a : AV}, (if belowA N a then some a else none) = some b → VRel S C a v → VRel1 S (C.cut N) b v := by
  intro a hf r
  split at hf
  ·rename_i hb
   injection hf with hf
   subst hf
   have := r.fewer fw hb
   cases a with
   | tup vs => simp [belowA] at hb
   | _ => exact this
  ·cases hf
 unfold finA at hf
 split at hf
 ·rename_i o k
  split at hf
  ·rename_i hlt
   injection hf with hf
   subst hf
   exact RelV.fewer fw _ _ (by simpa [belowA] using hlt) r
  ·rename_i hge
   split at hf
   ·rename_i e rows k' app ho
    split at hf
    ·rename_i hkk
     subst hkk
     injection hf with hf
     subst hf
     obtain ⟨v0, kk, mn, q1, q2, q3, q4⟩ := own_inv r
     obtain ⟨o1, o2, o3, o4, _⟩ := H.rel o _ _ ho q2
     have hv := q4 o1
     subst hv
     cases mn with
     | false =>
      obtain ⟨a, c, s1, s2, s3, s4, s5, s6⟩ := RelV.plain ⟨fw.w, fw.ok, fw.P⟩ _ _ rfl (o3 rfl)
      exact ⟨a, c, s1, s2, by simp, s4, s5, s6⟩
     | true =>
      obtain ⟨⟨_, hlt⟩, hsz, cells, hown, hrf, _⟩ := o4 rfl
      refine ownsG_settled hlt fw.w (Under.flat ⟨fw.w, fw.ok, fw.P⟩) hsz hown hrf o2 (fun g hg => ⟨?_, ?_⟩)
      ·exact H.nX _ (List.mem_iff_getElem?.2 ⟨o, q2⟩) g (by simpa [Slot.has] using hg)
      ·intro s' hs' hb
       obtain ⟨j, hj⟩ := List.mem_iff_getElem?.1 hs'
       have hjl : j < N := by
        have := (List.getElem?_eq_some_iff.1 hj).1
        simp only [Ctx.cut, List.length_take] at this
        omega
       rw [fw.slot j hjl] at hj
       have := H.inj o j _ _ g q2 hj (by simpa [Slot.has] using hg) hb
       omega
    ·cases hf
   ·cases hf
 ·cases hf
 ·cases hf
 ·exact other hf r
theorem resA_rel (hG : G.ok P) {C : Ctx} {t : Tmps} {h : List AO} {n : Nat} {a : Act} (A : ARel G.S C t h n a) : ∀ (rs : List ResultVar) (aas : List AV), rs.mapM (resA G t h) = some aas →
  ∃ vs : List Value, (rs.mapM (m := Sem) fun | .tmp t => pure (a.tmps.getD t undef) | .cell x t => do loadVar t (← asAddr (a.tmps.getD x undef))).run P C.w = .ok vs C.w ∧ vs.length = aas.length ∧ ∀ (i : Nat) (x : AV) (v : Value), aas[i]? = some x → vs[i]? = some v → VRel G.S C x v
 | [], aas, h => by
  have : aas = [] := by simpa using h.symm
  subst this
  exact ⟨[], rfl, rfl, by simp⟩
 | r :: rs, aas, h0 => by
  simp only [List.mapM_cons] at h0
  obtain ⟨x, h1, h2⟩ := Option.bind_eq_some_iff.1 h0
  obtain ⟨xs, h3, h4⟩ := Option.bind_eq_some_iff.1 h2
  injection h4 with h4
  subst h4
  obtain ⟨vs, k1, k2, k3⟩ := resA_rel hG A rs xs h3
  have one : ∃ v, (match r with | .tmp t => (pure (a.tmps.getD t undef) : Sem Value) | .cell x t => do loadVar t (← asAddr (a.tmps.getD x undef))).run P C.w = .ok v C.w ∧ VRel G.S C x v := by
   cases r with
   | tmp i =>
    simp only [resA] at h1
    injection h1 with h1
    subst h1
    exact ⟨_, rfl, A.tmps i⟩
   | cell i ty =>
    simp only [resA] at h1
    split at h1
    ·rename_i o off ix hx
     have hp := A.tmps i
     rw [hx] at hp
     obtain ⟨b, q1, q2, q3⟩ := ptr_inv hp
     split at h1
     ·rename_i e fs ho
      obtain ⟨cs, k4, k5⟩ := box_rel A.heap ho q1
      obtain ⟨v, k6, k7⟩ := load_sound hG k5 (RelL.toList_cells (S := G.S) k4) q2 h1
      rw [Nat.zero_add] at k6
      refine ⟨v, ?_, k7⟩
      simp only [q3, asAddr, Sem.run_bind, Sem.run_pure, Result.andThen_ok, k6]
     ·cases h1
    ·cases h1
  obtain ⟨v, g1, g2⟩ := one
  refine ⟨v :: vs, ?_, by simp [k2], fun i y u hy hu => ?_⟩
  ·simp only [List.mapM_cons, Sem.run_bind, g1, Result.andThen_ok, k1, Sem.run_pure]
  ·cases i with
   | zero =>
    have e1 : x = y := by simpa using hy
    have e2 : v = u := by simpa using hu
    subst e1; subst e2
    exact g2
   | succ i => exact k3 i y u (by simpa using hy) (by simpa using hu)
theorem retA_rel {S : Sizes} {C : Ctx} {bs : List AV} {l : List Value} (h : VRels S C bs l) : VRel S C (retA bs) (if h : l.toArray.size = 1 then l.toArray[0] else .tuple l.toArray) := by
 have hl := h.length
 cases h with
 | nil => exact ⟨#[], rfl, .nil⟩
 | cons h1 h2 =>
  cases h2 with
  | nil =>
   simp only [retA]
   rw [dif_pos (by simp)]
   rename_i a v
   show VRel S C a v
   cases a with
   | tup vs => exact h1.elim
   | _ => exact h1
  | cons h3 h4 =>
   rw [dif_neg (by simp)]
   exact ⟨_, rfl, .cons h1 (.cons h3 h4)⟩
theorem AR.ret (hG : G.ok P) {fn : Func} (hf : P.funcs[F.f]? = some fn) {k : List PI} {p : List Nat} (hc : codeAt F.B p = .ret) {t : Tmps} {h h' : List AO} {aas bs : List AV} (N : Nat) (hN : c0.m.length ≤ N) (hrs : fn.results.toList.mapM (resA G t h) = some aas) (hbs : aas.mapM (finA h N) = some bs) (hb : (h.take N).all (belowO N) = true) (hh : h.take N = h') {r : AV} (hr : retA bs = r) : AR P G F c0 (Rp G.S c0 r h') (.code p :: k) t h := by
 intro C a st AA
 simp only [List.map_cons, PI.dec, hc]
 obtain ⟨vs, h1, h2, h3⟩ := resA_rel hG AA _ _ hrs
 have hrels : VRels G.S (C.cut N) bs vs := by
  have key : ∀ (aas bs : List AV) (vs : List Value), aas.mapM (finA h N) = some bs → vs.length = aas.length → (∀ (i : Nat) (x : AV) (v : Value), aas[i]? = some x → vs[i]? = some v → VRel G.S C x v) → VRels G.S (C.cut N) bs vs := by
   intro aas
   induction aas with
   | nil =>
    intro bs vs hm hl _
    have : bs = [] := by simpa using hm.symm
    subst this
    have : vs = [] := List.eq_nil_of_length_eq_zero hl
    subst this
    exact .nil
   | cons x xs ih =>
    intro bs vs hm hl hr
    simp only [List.mapM_cons] at hm
    obtain ⟨b, m1, m2⟩ := Option.bind_eq_some_iff.1 hm
    obtain ⟨bs', m3, m4⟩ := Option.bind_eq_some_iff.1 m2
    injection m4 with m4
    subst m4
    cases vs with
    | nil => simp at hl
    | cons v vs =>
     exact .cons (finA_rel AA.heap m1 (hr 0 x v rfl rfl)) (ih bs' vs m3 (by simpa using hl) fun i y u hy hu => hr (i + 1) y u (by simpa using hy) (by simpa using hu))
  exact key aas bs vs hbs h2 h3
 have hres : (results fn a.tmps).run P C.w = .ok (if h : vs.toArray.size = 1 then vs.toArray[0] else .tuple vs.toArray) C.w := by
  unfold results
  rw [Array.mapM_eq_mapM_toList]
  simp only [Sem.run_bind, Sem.run_map]
  erw [h1]
  rfl
 subst hh
 subst hr
 exact Reach.ret hf AA.defers hres ⟨_, C.cut N, rfl, rfl, cut_step st hN, cut_heap AA.heap hb, retA_rel hrels⟩
end Go.Sh
namespace Go.Sh
def zOne : AV → List Value → Option (List Value)
 | .arr k n xs, cs => if xs.length = n ∧ xs.length ≤ cs.length ∧ ((xs.zip cs).all fun p => match p.2 with | .int k' x => decide (k' = k) && decide (x = p.1) | _ => false) = true then some (cs.drop xs.length) else none
 | .sc (.int k x), .int k' y :: r => if k = k' ∧ x = y then some r else none
 | .sc (.bool x), .bool y :: r => if x = y then some r else none
 | .sc (.string x), .string y :: r => if x = y then some r else none
 | .sc (.pointer none), .pointer none :: r => some r
 | .sc (.map none), .map none :: r => some r
 | .sc (.chan none), .chan none :: r => some r
 | .sc .nilFunc, .nilFunc :: r => some r
 | .sc .nilIface, .nilIface :: r => some r
 | .sl _ [] true, .slice none 0 0 :: r => some r
 | _, _ => none
def zAll : List AV → List Value → Bool
 | [], [] => true
 | a :: r, cs => match zOne a cs with | some cs' => zAll r cs' | none => false
 | _, _ => false
theorem zOne_rel {S : Sizes} {C : Ctx} {a : AV} {cs r : List Value} (h : zOne a cs = some r) : ∃ c1, cs = c1 ++ r ∧ RelV S C a c1 := by
 unfold zOne at h
 split at h
 case h_1 =>
  rename_i k n xs
  split at h <;> cases h
  rename_i hh
  obtain ⟨h1, h2, h3⟩ := hh
  refine ⟨cs.take xs.length, (List.take_append_drop _ _).symm, h1, ?_⟩
  clear h1
  induction xs generalizing cs with
  | nil => simp
  | cons x xs ih =>
   cases cs with
   | nil => simp at h2
   | cons c cs =>
    simp only [List.zip_cons_cons, List.all_cons, Bool.and_eq_true] at h3
    obtain ⟨h4, h5⟩ := h3
    have := ih (cs := cs) (by simpa using h2) h5
    simp only [List.length_cons, List.take_succ_cons, List.map_cons, this]
    congr 1
    split at h4
    ·simp only [Bool.and_eq_true, decide_eq_true_eq] at h4
     obtain ⟨h4, h4'⟩ := h4
     subst h4 h4'
     first | rfl | (rename_i he; first | exact he | exact he.symm | (rw [← he]) | (rw [he]))
    ·cases h4
 all_goals first
  | (cases h; done)
  | (cases h; exact ⟨[_], rfl, rfl, rfl⟩)
  | (split at h <;> cases h; rename_i hh; first | (obtain ⟨rfl, rfl⟩ := hh; exact ⟨[_], rfl, rfl, rfl⟩) | (subst hh; exact ⟨[_], rfl, rfl, rfl⟩))
  | (cases h; exact ⟨[_], rfl, none, 0, rfl, Nat.le_refl _, fun _ => rfl, by decide, by simp [reach], .inl rfl⟩)
theorem zAll_rel {S : Sizes} {C : Ctx} : ∀ (fs : List AV) (cs : List Value), zAll fs cs = true → RelL S C fs cs
 | [], [], _ => rfl
 | [], _ :: _, h => by simp [zAll] at h
 | a :: r, cs, h => by
   have h' : (match zOne a cs with | some cs' => zAll r cs' | none => false) = true := by
    cases cs <;> simpa [zAll] using h
   split at h'
   ·rename_i cs' he
    obtain ⟨c1, rfl, h1⟩ := zOne_rel (S := S) (C := C) he
    exact ⟨c1, cs', rfl, h1, zAll_rel r cs' h'⟩
   ·cases h'
def kindB (d : TypeDesc) : TK → Bool
 | .int k => match d with | .int k' => decide (k' = k) | _ => false
 | .bool => match d with | .bool => true | _ => false
 | .str => match d with | .string => true | _ => false
 | .struct fl => match d with | .struct fs => decide (fs.toList.map (fun f => (f.offset, f.type)) = fl) | _ => false
 | .arr n e => match d with | .array n' e' => decide (n' = n ∧ e' = e) | _ => false
 | .slice e => match d with | .slice e' => decide (e' = e) | _ => false
 | .ptr e => match d with | .pointer e' => decide (e' = e) | _ => false
 | .other => match d with | .struct _ => false | .array _ _ => false | _ => true
theorem kindB_fits {d : TypeDesc} {K : TK} (h : kindB d K = true) : K.fits d := by
 cases K <;> cases d <;> simp_all [kindB, TK.fits]
def fitB (P : Program) (t : TypeId) (i : TInfo) : Bool :=
 decide (t < markE) && (match P.info? t with
 | some inf => inf.size == i.size && inf.bytes == i.bytes && (match inf.zero with | some z => z.cells.size == i.size && zAll i.zero z.cells.toList | none => false)
 | none => false) && (match P.underlying t with | some d => kindB d i.kind | none => false)
theorem fitB_fits {P : Program} {t : TypeId} {i : TInfo} (h : fitB P t i = true) : TFits P t i := by
 unfold fitB at h
 rw [Bool.and_eq_true, Bool.and_eq_true, decide_eq_true_eq] at h
 obtain ⟨⟨h0, h1⟩, h2⟩ := h
 constructor
 ·exact h0
 ·split at h1
  ·rename_i inf hi
   simp only [Bool.and_eq_true, beq_iff_eq] at h1
   obtain ⟨⟨h3, h4⟩, h5⟩ := h1
   split at h5
   ·rename_i z hz
    simp only [Bool.and_eq_true, beq_iff_eq] at h5
    exact ⟨inf, z, hi, h3, h4, hz, h5.1, fun S C => zAll_rel _ _ h5.2⟩
   ·cases h5
  ·cases h1
 ·split at h2
  ·rename_i d hd
   exact ⟨d, hd, kindB_fits h2⟩
  ·cases h2
theorem Tab.ok_of {P : Program} {G : Tab} (h : G.all (fun p => fitB P p.1 p.2) = true) : G.ok P := by
 intro t i hg
 induction G with
 | nil => cases hg
 | cons p G ih =>
  obtain ⟨t', i'⟩ := p
  simp only [List.all_cons, Bool.and_eq_true] at h
  unfold Tab.get at hg
  split at hg
  ·rename_i e
   cases hg
   rw [beq_iff_eq] at e
   subst e
   exact fitB_fits h.1
  ·exact ih h.2 hg
end Go.Sh
namespace Go.Sh
variable {P : Program} {G : Tab} {S : Sizes}
def Weak (S : Sizes) (t' t : Tmps) : Prop := ∀ x C v, VRel S C (lk t x) v → VRel S C (lk t' x) v
def keepT (live : List Nat) (t : Tmps) : Tmps := live.map fun i => (i, lk t i)
theorem keepT_lk (live : List Nat) (t : Tmps) (i : Nat) : lk (keepT live t) i = lk t i ∨ lk (keepT live t) i = .u := by
 unfold keepT
 induction live with
 | nil => exact .inr rfl
 | cons j l ih =>
  simp only [List.map_cons, lk]
  by_cases h : j = i
  ·subst h; simp
  ·rw [if_neg (by simpa using h)]; exact ih
theorem keepT_weak (live : List Nat) (t : Tmps) : Weak S (keepT live t) t := by
 intro i C v hv
 rcases keepT_lk live t i with h | h
 ·rw [h]; exact hv
 ·rw [h]; trivial
theorem Weak.rel {t' t : Tmps} (w : Weak S t' t) {C : Ctx} {h : List AO} {n : Nat} {a : Act} (A : ARel S C t h n a) : ARel S C t' h n a :=
 ⟨A.defers, A.size, fun i => w i C _ (A.tmps i), A.heap⟩
theorem Weak.set {t' t : Tmps} (w : Weak S t' t) (d : Option Nat) (r : AV) : Weak S (setT t' d r) (setT t d r) := by
 intro x C v
 rw [lk_setT', lk_setT']
 unfold tset
 by_cases e : d = some x
 ·rw [if_pos e, if_pos e]; exact id
 ·rw [if_neg e, if_neg e]; exact w x C v
theorem AR.weak {F : Fn} {c0 : Ctx} {R : Ending → World → Prop} {k : List PI} {t t' : Tmps} {h : List AO} (w : Weak G.S t' t) (A : AR P G F c0 R k t' h) : AR P G F c0 R k t h :=
 fun C a st AA => A C a st (w.rel AA)
theorem LSpec.weak {n : Nat} {ops : Array Oper} {i : Nat} {kd : Kd} {t t' : Tmps} {h h' : List AO} {r : AV} (w : Weak S t' t) (L : LSpec P S n ops i kd t' h r h') : LSpec P S n ops i kd t h r h' := by
 classical
 refine ⟨L.lt, L.dst, L.keep, fun t2 h2 C a hl hh A Q K hK => ?_⟩
 refine L.run (fun x => if t2 x = lk t x then lk t' x else t2 x) h2 C a (fun o ho x hx => ?_) hh ⟨A.defers, A.size, fun i => ?_, A.heap⟩ Q K hK
 ·simp only [hl o ho x hx, if_true]
 ·have := A.tmps i
  by_cases e : t2 i = lk t i
  ·simp only [e, if_true]; exact w i C _ (e ▸ this)
  ·simp only [e, if_false]; exact this
theorem DW.weak {n : Nat} {ops : Array Oper} {fin : List Kd → Tmps → List AO → Prop} (hf : ∀ ks t' t h, Weak S t' t → fin ks t' h → fin ks t h) {i : Nat} {ks : List Kd} {t t' : Tmps} {h : List AO} (w : Weak S t' t) (D : DW P S n ops fin i ks t' h) : DW P S n ops fin i ks t h := by
 induction D generalizing t with
 | fin hi hfin => exact .fin hi (hf _ _ _ _ w hfin)
 | step L D ih => exact .step (L.weak w) (ih (w.set _ _))
def Kd.leB : Kd → Kd → Bool
 | .pure, _ => true
 | .read, .read => true
 | .read, .loud => true
 | .loud, .loud => true
 | _, _ => false
theorem LSpec.up {n : Nat} {ops : Array Oper} {i : Nat} {kd kd' : Kd} {t : Tmps} {h h' : List AO} {r : AV} (hle : kd.leB kd' = true) (L : LSpec P S n ops i kd t h r h') : LSpec P S n ops i kd' t h r h' := by
 by_cases e : kd = kd'
 ·subst e; exact L
 ·have hk : kd ≠ .loud := by
   intro e'
   subst e'
   cases kd' <;> simp [Kd.leB] at hle e
  have hp : kd' ≠ .pure := by
   intro e'
   subst e'
   cases kd <;> simp [Kd.leB] at hle e
  have hh := L.keep hk
  refine ⟨L.lt, L.dst, fun _ => hh, fun t2 h2 C a hl hheap A Q K hK => ?_⟩
  refine L.run t2 h2 C a hl (fun _ => hheap hp) A Q K fun C' v st hv H => ?_
  rw [if_neg hk] at H
  refine hK C' v st hv ?_
  split
  ·rw [hh, ← hheap hp]; exact H
  ·exact H
def DK (P : Program) (S : Sizes) (n : Nat) (ops : Array Oper) (kds : List Kd) (fin : Tmps → List AO → Prop) (i : Nat) (t : Tmps) (h : List AO) : Prop :=
 (∀ t' t h, Weak S t' t → fin t' h → fin t h) → DW P S n ops (fun ks t h => ks = kds ∧ fin t h) i (kds.take i).reverse t h
variable {n : Nat} {ops : Array Oper} {kds : List Kd} {fin : Tmps → List AO → Prop}
theorem DK.weak {i : Nat} {t t' : Tmps} {h : List AO} (w : Weak S t' t) (D : DK P S n ops kds fin i t' h) : DK P S n ops kds fin i t h :=
 fun hf => DW.weak (fun _ _ _ _ w h => ⟨h.1, hf _ _ _ w h.2⟩) w (D hf)
theorem DK.step {i : Nat} {t : Tmps} {h : List AO} {kd kd' : Kd} {r : AV} {h' : List AO} (L : LSpec P S n ops i kd t h r h') (hk : kds[i]? = some kd') (hle : kd.leB kd' = true)
  (D : DK P S n ops kds fin (i + 1) (setT t ((ops[i]?).bind (·.dst)) r) h') : DK P S n ops kds fin i t h := by
 intro hf
 refine .step (L.up hle) ?_
 have := D hf
 rw [List.take_add_one, hk] at this
 simpa using this
def drun (G : Tab) (n : Nat) (ops : Array Oper) (kds : List Kd) : Nat → Nat → Tmps → List AO → Option (Tmps × List AO)
 | 0, _, t, h => some (t, h)
 | m + 1, i, t, h =>
  match stepA G n ops i t h, kds[i]? with
  | some (kd, r, h'), some kd' => if kd.leB kd' then drun G n ops kds m (i + 1) (setT t ((ops[i]?).bind (·.dst)) r) h' else none
  | _, _ => none
theorem drun_sound (hG : G.ok P) : ∀ (m i : Nat) (t : Tmps) (h : List AO) (t' : Tmps) (h' : List AO), drun G n ops kds m i t h = some (t', h') → DK P G.S n ops kds fin (i + m) t' h' → DK P G.S n ops kds fin i t h
 | 0, i, t, h, t', h', e, D => by
  injection e with e
  injection e with e1 e2
  subst e1; subst e2
  exact D
 | m + 1, i, t, h, t', h', e, D => by
  simp only [drun] at e
  split at e
  ·rename_i kd r h1 kd' hs hk
   split at e
   ·rename_i hle
    exact DK.step (stepA_sound hG hs) hk hle (drun_sound hG m (i + 1) _ _ _ _ e (by rw [show i + 1 + m = i + (m + 1) by omega]; exact D))
   ·cases e
  ·cases e
theorem DK.seg (hG : G.ok P) (m : Nat) (live : List Nat) {i j : Nat} {t t' : Tmps} {h h' : List AO} (e : (drun G n ops kds m i t h).map (fun p => (keepT live p.1, p.2)) = some (t', h')) (hj : i + m = j) (D : DK P G.S n ops kds fin j t' h') : DK P G.S n ops kds fin i t h := by
 subst hj
 obtain ⟨⟨t1, h1⟩, e1, e2⟩ := Option.map_eq_some_iff.1 e
 injection e2 with e2 e3
 subst e2; subst e3
 exact drun_sound hG m i t h t1 h1 e1 (D.weak (keepT_weak live t1))
theorem DK.op (live : List Nat) {i j : Nat} {t t' : Tmps} {h h' : List AO} {kd kd' : Kd} {r : AV} (L : LSpec P S n ops i kd t h r h') (hk : kds[i]? = some kd') (hle : kd.leB kd' = true) (e : keepT live (setT t ((ops[i]?).bind (·.dst)) r) = t') (hj : i + 1 = j)
  (D : DK P S n ops kds fin j t' h') : DK P S n ops kds fin i t h := by
 subst hj; subst e
 exact DK.step L hk hle (D.weak (keepT_weak live _))
def subB (d : Nat) (b : Bool) (t : Tmps) : Tmps := t.map fun p => if p.1 == d then (p.1, .sc (.bool b)) else p
theorem DK.done {i : Nat} {t : Tmps} {h : List AO} (hi : (ops.size == i) = true) (hk : (kds.length == i) = true) (A : fin t h) : DK P S n ops kds fin i t h := by
 intro _
 rw [beq_iff_eq] at hi hk
 refine .fin hi ⟨?_, A⟩
 rw [List.reverse_reverse, ← hk, List.take_length]
variable {F : Fn} {c0 : Ctx} {R : Ending → World → Prop}
def opsOf : Code → Array Oper
 | .region _ ops _ => ops
 | _ => #[]
def regOk (kds : List Kd) : Code → Bool
 | .region _ ops draw => !draw || confOk ops kds
 | _ => false
theorem AR.reg (hm : P.follows .mixedOrders = true) (kds : List Kd) {k : List PI} {p : List Nat} {t : Tmps} {h : List AO} (hc : regOk kds (codeAt F.B p) = true) (D : DK P G.S F.n (opsOf (codeAt F.B p)) kds (AR P G F c0 R k) 0 t h) : AR P G F c0 R (.code p :: k) t h := by
 cases hcd : codeAt F.B p with
 | region id ops draw =>
  rw [hcd] at hc D
  refine AR.region hm hcd ?_
  have D' := D (fun _ _ _ w A => AR.weak w A)
  simp only [opsOf] at D'
  have key : ∀ {i ks t h}, DW P G.S F.n ops (fun ks t h => ks = kds ∧ AR P G F c0 R k t h) i ks t h → DW P G.S F.n ops (Fin P G F c0 R ops draw k) i ks t h := by
   intro i ks t h D
   induction D with
   | fin hi hf =>
    refine .fin hi ⟨fun hd => ?_, hf.2⟩
    rw [hf.1]
    simpa [regOk, hd] using hc
   | step L _ ih => exact .step L ih
  exact key (by simpa using D')
 | _ => rw [hcd] at hc; cases hc
theorem AR.seg (hG : G.ok P) (hm : P.follows .mixedOrders = true) (m : Nat) (live : List Nat) {k k' : List PI} {t t' : Tmps} {h h' : List AO} (e : (arun G F m ⟨k, t, h⟩).map (fun c => (c.k, keepT live c.t, c.h)) = some (k', t', h')) (A : AR P G F c0 R k' t' h') : AR P G F c0 R k t h := by
 obtain ⟨c, e1, e2⟩ := Option.map_eq_some_iff.1 e
 injection e2 with e2 e3
 injection e3 with e3 e4
 subst e2; subst e3; subst e4
 exact arun_sound hG hm m _ _ e1 (A.weak (keepT_weak live _))
def condOf : Code → Option Operand
 | .cond x _ _ => some x
 | _ => none
theorem AR.cond {k : List PI} {p : List Nat} {t : Tmps} {h : List AO} (x : Operand) (b : Bool) (hc : condOf (codeAt F.B p) = some x) (hl : ev t x = .sc (.bool b))
  (ht : b = true → AR P G F c0 R (.code (p ++ [0]) :: k) t h) (hf : b = false → AR P G F c0 R (.code (p ++ [1]) :: k) t h) : AR P G F c0 R (.code p :: k) t h := by
 cases hcd : codeAt F.B p with
 | cond y c d =>
  rw [hcd] at hc
  injection hc with hc
  subst hc
  intro C a st AA
  have hv := AA.ev y
  rw [hl] at hv
  have hv := sc_inv hv
  have key : AR P G F c0 R (.code (p ++ [if b then 0 else 1]) :: k) t h := by
   cases b
   ·exact hf rfl
   ·exact ht rfl
  refine (key C a st AA).one fun cs => ?_
  have := step_cond (P := P) (b := baseFr F.f) (k := k.map (PI.dec F.B)) (cs := cs) (w := C.w) (x := c) (y := d) hv
  simp only [List.map_cons, PI.dec, codeAt_append, hcd]
  rw [this]
  cases b <;> simp [codeAt]
 | _ => rw [hcd] at hc; cases hc
end Go.Sh
namespace Go.Sh
variable {P : Program} {G : Tab} {S : Sizes}
def Wk1 (S : Sizes) (a b : AV) : Prop := ∀ C cs, RelV S C a cs → RelV S C b cs
def WkV (S : Sizes) (a b : AV) : Prop := ∀ C v, VRel S C a v → VRel S C b v
inductive WkL (S : Sizes) : List AV → List AV → Prop
 | nil : WkL S [] []
 | cons {a b : AV} {aas bs : List AV} : Wk1 S a b → WkL S aas bs → WkL S (a :: aas) (b :: bs)
theorem WkL.rel {fs gs : List AV} (h : WkL S fs gs) {C : Ctx} : ∀ {cs : List Value}, RelL S C fs cs → RelL S C gs cs := by
 induction h with
 | nil => intro cs h; exact h
 | cons h1 _ ih =>
  intro cs h
  obtain ⟨c1, c2, rfl, k1, k2⟩ := h
  exact ⟨c1, c2, rfl, h1 C _ k1, ih k2⟩
theorem Wk1.refl (a : AV) : Wk1 S a a := fun _ _ h => h
theorem Wk1.nil {e0 : TypeId} (e : TypeId) (f : Bool) : Wk1 S (.sl e0 [] true) (.sl e [] f) := by
 rintro C cs ⟨a, c, rfl, h1, h2, h3, h4, h5⟩
 exact ⟨a, c, rfl, h1, fun _ => h2 rfl, h3, by simp [reach], .inl rfl⟩
theorem Wk1.full {e : TypeId} {rows : List AV} : Wk1 S (.sl e rows true) (.sl e rows false) := by
 rintro C cs ⟨a, c, rfl, h1, h2, h3, h4, h5⟩
 exact ⟨a, c, rfl, h1, fun h => by simp at h, h3, h4, h5⟩
theorem WkV.sl {e0 e : TypeId} {rows rows' : List AV} {f f' : Bool} (h : Wk1 S (.sl e0 rows f) (.sl e rows' f')) : WkV S (.sl e0 rows f) (.sl e rows' f') := fun C v r => h C [v] r
theorem WkV.refl (a : AV) : WkV S a a := fun _ _ h => h
theorem weak_set {t : Tmps} {i : Nat} {b : AV} (h : WkV S (lk t i) b) : Weak S (setT t (some i) b) t := by
 intro x C v hv
 rw [lk_setT]
 split
 ·rename_i e; subst e; exact h C v hv
 ·exact hv
theorem AR.wk {F : Fn} {c0 : Ctx} {R : Ending → World → Prop} {k : List PI} {t t' : Tmps} {h : List AO} (i : Nat) (b : AV) {a : AV} (hi : lk t i = a) (hw : WkV G.S a b) (e : setT t (some i) b = t') (A : AR P G F c0 R k t' h) : AR P G F c0 R k t h := by
 subst e; subst hi
 exact A.weak (weak_set hw)
theorem DK.wk {n : Nat} {ops : Array Oper} {kds : List Kd} {fin : Tmps → List AO → Prop} {j : Nat} {t t' : Tmps} {h : List AO} (i : Nat) (b : AV) {a : AV} (hi : lk t i = a) (hw : WkV S a b) (e : setT t (some i) b = t') (A : DK P S n ops kds fin j t' h) : DK P S n ops kds fin j t h := by
 subst e; subst hi
 exact A.weak (weak_set hw)
mutual
def factsA (S : Sizes) : AV → Prop
 | .arr _ n xs => xs.length = n
 | .sl e rows _ => rows.length * (S e).2 ≤ reach ∧ rows.length ≤ maxLen ∧ factsL S rows
 | .agg fs => factsL S fs
 | _ => True
def factsL (S : Sizes) : List AV → Prop
 | [] => True
 | a :: r => factsA S a ∧ factsL S r
end
mutual
theorem RelV.facts {C : Ctx} : ∀ (a : AV) (cs : List Value), RelV S C a cs → factsA S a
 | .arr k n xs, cs, h => h.1
 | .sl e rows f, cs, h => by
   obtain ⟨a, c, _, h1, _, h3, h4, h5⟩ := h
   refine ⟨h4, Nat.le_trans h1 h3, ?_⟩
   rcases h5 with h5 | ⟨b, off, _, _, h5⟩
   ·subst h5; trivial
   ·exact RelR.facts _ b _ rows off h5
 | .agg fs, cs, h => RelL.facts fs cs h
 | .u, _, _ => trivial
 | .sc _, _, _ => trivial
 | .own .., _, _ => trivial
 | .ptr .., _, _ => trivial
 | .ep .., _, _ => trivial
 | .el .., _, _ => trivial
 | .bsl .., _, _ => trivial
 | .ref .., _, _ => trivial
 | .fn .., _, _ => trivial
 | .fm .., _, _ => trivial
 | .is .., _, _ => trivial
 | .tup _, _, _ => trivial
theorem RelL.facts {C : Ctx} : ∀ (fs : List AV) (cs : List Value), RelL S C fs cs → factsL S fs
 | [], _, _ => trivial
 | a :: r, _, h => by
   obtain ⟨c1, c2, _, h1, h2⟩ := h
   exact ⟨RelV.facts a c1 h1, RelL.facts r c2 h2⟩
theorem RelR.facts (C : Ctx) (b sz : Nat) : ∀ (rs : List AV) (off : Nat), RelR S C b sz rs off → factsL S rs
 | [], _, _ => trivial
 | a :: r, _, h => by
   obtain ⟨⟨cs, h1, _⟩, h2⟩ := h
   exact ⟨RelV.facts a cs h1, RelR.facts C b sz r _ h2⟩
end
theorem VRel.facts {C : Ctx} {a : AV} {v : Value} (h : VRel S C a v) : factsA S a := by
 cases a with
 | agg fs => obtain ⟨cs, _, r⟩ := h; exact RelL.facts fs _ r
 | arr k n xs => exact h.1
 | tup vs => trivial
 | u => trivial
 | sl e rows f => exact RelV.facts (C := C) _ [v] h
 | _ => trivial
theorem AR.facts {F : Fn} {c0 : Ctx} {R : Ending → World → Prop} {k : List PI} {t : Tmps} {h : List AO} (i : Nat) {a : AV} (hi : lk t i = a) (A : factsA G.S a → AR P G F c0 R k t h) : AR P G F c0 R k t h := by
 subst hi
 exact fun C x st AA => A (VRel.facts (AA.tmps i)) C x st AA
theorem RelR.drop {C : Ctx} {b sz : Nat} : ∀ (n : Nat) (rs : List AV) (off : Nat), RelR S C b sz rs off → RelR S C b sz (rs.drop n) (off + n * sz)
 | 0, rs, off, h => by simpa using h
 | n + 1, [], off, h => trivial
 | n + 1, a :: r, off, h => by
   have := RelR.drop n r (off + sz) h.2
   rw [List.drop_succ_cons, Nat.succ_mul, show off + (n * sz + sz) = off + sz + n * sz by omega]
   exact this
theorem RelR.take {C : Ctx} {b sz : Nat} : ∀ (n : Nat) (rs : List AV) (off : Nat), RelR S C b sz rs off → RelR S C b sz (rs.take n) off
 | 0, rs, off, h => trivial
 | n + 1, [], off, h => trivial
 | n + 1, a :: r, off, h => ⟨h.1, RelR.take n r _ h.2⟩
theorem sl_part {C : Ctx} {e0 e : TypeId} {rows rows' : List AV} {f f' : Bool} {a : Option Addr} {c : Nat} (r : VRel S C (.sl e0 rows f) (.slice a rows.length c)) {l h m : Nat} (h1 : l ≤ h) (h2 : h ≤ rows.length) (h3 : h ≤ m) (h4 : m ≤ c) (he : e0 = e ∨ rows = [])
  (hr : (rows.drop l).take (h - l) = rows') (hf : f' = true → m = h) : VRel S C (.sl e rows' f') (sliced a l h m (S e).1) := by
 obtain ⟨a', c', s1, s2, s3, s4, s5, s6⟩ := sl_inv r
 injection s1 with s1 s1' s1''
 subst s1; subst s1''
 have hl : rows'.length = h - l := by rw [← hr, List.length_take, List.length_drop]; omega
 have hb : rows'.length * (S e).2 ≤ reach := by
  rcases he with he | he
  ·subst he
   exact Nat.le_trans (Nat.mul_le_mul_right _ (by omega)) s5
  ·have : rows.length = 0 := by rw [he]; rfl
   rw [hl, show h - l = 0 by omega]
   simp [reach]
 refine ⟨if m = l then a else a.map (·.add (l * (S e).1)), m - l, by rw [hl]; rfl, by omega, fun q => ?_, by omega, hb, ?_⟩
 ·have := hf q; omega
 ·rcases s6 with s6 | ⟨b, off, q1, q2, q3⟩
  ·left
   rw [← hr, s6]
   simp
  ·subst q1
   rcases he with he | he
   ·subst he
    by_cases e1 : rows' = []
    ·exact .inl e1
    ·right
     have : rows'.length ≠ 0 := fun q => e1 (List.eq_nil_of_length_eq_zero q)
     rw [if_neg (by omega)]
     refine ⟨b, off + l * (S e0).1, by simp [addr_add], q2, ?_⟩
     rw [← hr]
     exact RelR.take _ _ _ (RelR.drop _ _ _ q3)
   ·left
    rw [← hr, he]
    simp
def bnd (t : Tmps) (o : Option Operand) (d n : Nat) : Prop :=
 match o with
 | none => n = d
 | some x => ∃ k, ev t x = .sc (.int k n)
theorem bnd_val {C : Ctx} {t : Tmps} {o : Option Operand} {d n : Nat} (h : bnd t o d n) {ρv : Operand → Value} (hv : ∀ x, o = some x → VRel S C (ev t x) (ρv x)) : (o = none ∧ n = d) ∨ ∃ x k, o = some x ∧ ρv x = .int k n := by
 cases o with
 | none => exact .inl ⟨rfl, h⟩
 | some x =>
  obtain ⟨k, hk⟩ := h
  have := hv x rfl
  rw [hk] at this
  exact .inr ⟨x, k, rfl, sc_inv this⟩
theorem run_bounds {lo hi mx : Option Value} {l u m c len : Nat} {w : World} (hl : (lo = none ∧ l = 0) ∨ ∃ k, lo = some (.int k l)) (hu : (hi = none ∧ u = len) ∨ ∃ k, hi = some (.int k u)) (hm : (mx = none ∧ m = c) ∨ ((∃ k, mx = some (.int k (m : Int))) ∧ m = u ∧ hi ≠ none)) (h1 : l ≤ u) (h2 : u ≤ len) (h3 : len ≤ c) :
  (Instr.sliceBounds true len c lo hi mx).run P w = .ok (l, u, m) w := by
 have b : ∀ (k : IntKind) (i y : Nat) (code : BoundsCode), i ≤ y → (Instr.sliceBound (.int k i) y code).run P w = .ok i w := by
  intro k i y code h
  have := run_sliceBound (P := P) w k (i : Int) y code (by omega) (by omega)
  simpa using this
 unfold Instr.sliceBounds
 rcases hm with ⟨rfl, rfl⟩ | ⟨⟨km, rfl⟩, rfl, hne⟩
 ·rcases hu with ⟨rfl, rfl⟩ | ⟨ku, rfl⟩ <;> rcases hl with ⟨rfl, rfl⟩ | ⟨kl, rfl⟩
  ·simp
  ·simp only [Sem.run_bind, Sem.run_pure, Result.andThen_ok, b _ _ _ _ h1]
  ·simp only [Sem.run_bind, Sem.run_pure, Result.andThen_ok, b _ _ _ _ (Nat.le_trans h2 h3)]
  ·simp only [Sem.run_bind, Sem.run_pure, Result.andThen_ok, b _ _ _ _ (Nat.le_trans h2 h3), b _ _ _ _ h1]
 ·rcases hu with ⟨rfl, rfl⟩ | ⟨ku, rfl⟩
  ·exact absurd rfl hne
  ·rcases hl with ⟨rfl, rfl⟩ | ⟨kl, rfl⟩
   ·simp only [Int.toNat_natCast, Sem.run_bind, Sem.run_pure, Result.andThen_ok, b _ _ _ _ (Nat.le_trans h2 h3), b _ _ _ _ (Nat.le_refl _)]
   ·simp only [Int.toNat_natCast, Sem.run_bind, Sem.run_pure, Result.andThen_ok, b _ _ _ _ (Nat.le_trans h2 h3), b _ _ _ _ (Nat.le_refl _), b _ _ _ _ h1]
theorem LSpec.slice (hG : G.ok P) {n : Nat} {ops : Array Oper} {i : Nat} {t : Tmps} {h : List AO} {ty e e0 : TypeId} {x : Operand} {lo hi mx : Option Operand} {rows rows' : List AV} {f f' : Bool} (l u : Nat)
  (hop : opAt n ops i t = some (.slice ty x lo hi mx)) (hty : G.kind ty = .slice e) (he : (G.get e).isSome = true) (hx : ev t x = .sl e0 rows f) (hee : e0 = e ∨ rows = [])
  (hl : bnd t lo 0 l) (hu : bnd t hi rows.length u) (hm : ∀ y, mx = some y → (∃ k, ev t y = .sc (.int k u)) ∧ hi ≠ none) (h1 : l ≤ u) (h2 : u ≤ rows.length) (hr : (rows.drop l).take (u - l) = rows') (hf : f' = true → mx ≠ none ∨ (f = true ∧ u = rows.length)) : LSpec P G.S n ops i .pure t h (.sl e rows' f') h :=
 (opAt_spec hop).spec (fun _ => rfl) fun o ρv C h2' ho H _ hρ => by
  have hxv := hρ x (by simp [Op.operands])
  rw [hx] at hxv
  obtain ⟨a, c, s1, s2, s3, s4, s5, s6⟩ := sl_inv hxv
  obtain ⟨d, hd, hk⟩ := kind_desc hG hty (by simp)
  simp only [TK.fits] at hk
  subst hk
  obtain ⟨ei, hei⟩ := Option.isSome_iff_exists.1 he
  obtain ⟨dst, op, oty, pos, after, guard⟩ := o
  simp only at ho
  subst ho
  have hesz : ∀ w, (sizeOf e).run P w = .ok (G.S e).1 w := fun w => by
   rw [S_get hei]
   exact run_size (hG e ei hei) w
  rw [s1] at hxv
  have L1 := bnd_val (S := G.S) (C := C) hl (ρv := ρv) (fun y hy => hρ y (by subst hy; simp [Op.operands]))
  have L2 := bnd_val (S := G.S) (C := C) hu (ρv := ρv) (fun y hy => hρ y (by subst hy; simp [Op.operands]))
  have L3 : (mx = none) ∨ ∃ y k, mx = some y ∧ ρv y = .int k u := by
   cases mx with
   | none => exact .inl rfl
   | some y =>
    obtain ⟨⟨k, hk⟩, _⟩ := hm y rfl
    have := hρ y (by simp [Op.operands])
    rw [hk] at this
    exact .inr ⟨y, k, rfl, sc_inv this⟩
  have hbs : ∀ (m : Nat), (mx = none → m = c) → (mx ≠ none → m = u) → (Instr.sliceBounds true rows.length c (lo.map ρv) (hi.map ρv) (mx.map ρv)).run P C.w = .ok (l, u, m) C.w := by
   intro m hm1 hm2
   refine run_bounds ?_ ?_ ?_ h1 h2 (by omega)
   ·rcases L1 with ⟨q, e1⟩ | ⟨x1, k1, q, e1⟩
    ·exact .inl ⟨by rw [q]; rfl, e1⟩
    ·exact .inr ⟨k1, by rw [q, Option.map_some, e1]⟩
   ·rcases L2 with ⟨q, e1⟩ | ⟨x1, k1, q, e1⟩
    ·exact .inl ⟨by rw [q]; rfl, e1⟩
    ·exact .inr ⟨k1, by rw [q, Option.map_some, e1]⟩
   ·rcases L3 with q | ⟨x1, k1, q, e1⟩
    ·exact .inl ⟨by rw [q]; rfl, hm1 q⟩
    ·refine .inr ⟨⟨k1, by rw [q, Option.map_some, e1, hm2 (by rw [q]; simp)]⟩, hm2 (by rw [q]; simp), ?_⟩
     rcases L2 with ⟨q', _⟩ | ⟨x2, k2, q', e2⟩
     ·exact absurd q' (hm _ q).2
     ·rw [q']; simp
  have fin : ∀ (m : Nat), (mx = none → m = c) → (mx ≠ none → m = u) → OpOK P G.S ⟨dst, .slice ty x lo hi mx, oty, pos, after, guard⟩ ρv C (.sl e rows' f') h2' := by
   intro m hm1 hm2
   have hm3 : u ≤ m := by
    by_cases q : mx = none
    ·rw [hm1 q]; omega
    ·rw [hm2 q]; exact Nat.le_refl _
   have hm4 : m ≤ c := by
    by_cases q : mx = none
    ·rw [hm1 q]; exact Nat.le_refl _
    ·rw [hm2 q]; omega
   refine OpOK.same (v := sliced a l u m (G.S e).1) (by simpa using H) ?_ (sl_part hxv h1 h2 hm3 hm4 hee hr fun q => ?_)
   ·simp only [execOp, s1, Instr.sliceAt, Sem.run_bind, run_underlying hd, Result.andThen_ok, Instr.slice, hbs m hm1 hm2, hesz, Sem.run_pure]
    rfl
   ·rcases hf q with q1 | ⟨q1, q2⟩
    ·exact hm2 q1
    ·by_cases q3 : mx = none
     ·rw [hm1 q3, s3 q1, q2]
     ·exact hm2 q3
  by_cases q : mx = none
  ·exact fin c (fun _ => rfl) (fun q' => absurd q q')
  ·exact fin u (fun q' => absurd q' q) (fun _ => rfl)
end Go.Sh
namespace Go.Sh
variable {P : Program} {G : Tab} {S : Sizes}
def cmpK : Nat → Value → Value → Option Bool
 | 0, .int k a, .int k' b => if k = k' then some (a == b) else none
 | 1, .bool a, .bool b => some (a == b)
 | 2, .string a, .string b => some (a == b)
 | _, _, _ => none
def cmpKL : List Nat → List Value → List Value → Option Bool
 | [], [], [] => some true
 | c :: cs, x :: xs, y :: ys =>
  match cmpK c x y, cmpKL cs xs ys with
  | some b, some r => some (b && r)
  | _, _ => none
 | _, _, _ => none
theorem cmpKL_len : ∀ {ls : List Nat} {xs ys : List Value} {b : Bool}, cmpKL ls xs ys = some b → xs.length = ls.length ∧ ys.length = ls.length
 | [], [], [], _, _ => ⟨rfl, rfl⟩
 | c :: cs, x :: xs, y :: ys, b, h => by
   simp only [cmpKL] at h
   split at h
   ·rename_i h2
    have := cmpKL_len h2
    simp [this.1, this.2]
   ·cases h
 | [], _ :: _, _, _, h => by simp [cmpKL] at h
 | [], [], _ :: _, _, h => by simp [cmpKL] at h
 | _ :: _, [], _, _, h => by simp [cmpKL] at h
 | _ :: _, _ :: _, [], _, h => by simp [cmpKL] at h
theorem cmpKL_append : ∀ {l1 l2 : List Nat} {xs ys : List Value} {b : Bool}, cmpKL (l1 ++ l2) xs ys = some b → ∃ b1 b2, cmpKL l1 (xs.take l1.length) (ys.take l1.length) = some b1 ∧ cmpKL l2 (xs.drop l1.length) (ys.drop l1.length) = some b2 ∧ b = (b1 && b2)
 | [], l2, xs, ys, b, h => ⟨true, b, by simp [cmpKL], by simpa using h, by simp⟩
 | c :: cs, l2, [], _, _, h => by simp [cmpKL] at h
 | c :: cs, l2, _ :: _, [], _, h => by simp [cmpKL] at h
 | c :: cs, l2, x :: xs, y :: ys, b, h => by
   simp only [List.cons_append, cmpKL] at h
   split at h
   ·rename_i b0 r h1 h2
    injection h with h
    obtain ⟨b1, b2, k1, k2, k3⟩ := cmpKL_append h2
    exact ⟨b0 && b1, b2, by simp [cmpKL, h1, k1], by simpa using k2, by rw [← h, k3, Bool.and_assoc]⟩
   ·cases h
def leafF (P : Program) (L : TypeId → Option (List Nat)) : List Field → Nat → Option (List Nat)
 | [], _ => some []
 | f :: fs, off =>
  if f.name ≠ "_" ∧ f.offset = off then
   match L f.type with
   | some l => (leafF P L fs (off + l.length)).map (l ++ ·)
   | none => none
  else none
def repL : Nat → List Nat → List Nat
 | 0, _ => []
 | n + 1, l => l ++ repL n l
def leafK (P : Program) : Nat → TypeId → Option (List Nat)
 | 0, _ => none
 | m + 1, t =>
  match P.info? t with
  | none => none
  | some i =>
   match P.underlying t with
   | some (.int _) => if i.size = 1 then some [0] else none
   | some .bool => if i.size = 1 then some [1] else none
   | some .string => if i.size = 1 then some [2] else none
   | some (.struct fs) => if P.stoodInHeld t = false then (leafF P (leafK P m) fs.toList 0).bind fun ls => if i.size = ls.length then some ls else none else none
   | some (.array n e) => (leafK P m e).bind fun l => if i.size = (repL n l).length then some (repL n l) else none
   | _ => none
def isAggD : TypeDesc → Bool
 | .struct _ | .array _ _ => true
 | _ => false
def valD (d : TypeDesc) (xs : List Value) : Value :=
 if isAggD d then .agg xs.toArray else xs.headD undef
theorem run_isAggD {t : TypeId} {d : TypeDesc} (h : P.underlying t = some d) (w : World) : (isAgg t).run P w = .ok (isAggD d) w := by
 unfold isAgg
 simp only [Sem.run_bind, run_underlying h, Result.andThen_ok]
 cases d <;> rfl
theorem leafK_info {m : Nat} {t : TypeId} {ls : List Nat} (h : leafK P m t = some ls) : ∃ i d, P.info? t = some i ∧ P.underlying t = some d ∧ i.size = ls.length ∧ (isAggD d = false → ls.length = 1) := by
 cases m with
 | zero => simp [leafK] at h
 | succ m =>
  simp only [leafK] at h
  split at h
  ·cases h
  ·rename_i i hi
   split at h
   ·rename_i hd; split at h <;> cases h; exact ⟨i, _, hi, hd, by assumption, fun _ => rfl⟩
   ·rename_i hd; split at h <;> cases h; exact ⟨i, _, hi, hd, by assumption, fun _ => rfl⟩
   ·rename_i hd; split at h <;> cases h; exact ⟨i, _, hi, hd, by assumption, fun _ => rfl⟩
   ·rename_i hd
    split at h
    ·obtain ⟨l, _, h⟩ := Option.bind_eq_some_iff.1 h
     split at h <;> cases h
     exact ⟨i, _, hi, hd, by assumption, fun q => by simp [isAggD] at q⟩
    ·cases h
   ·rename_i hd
    obtain ⟨l, _, h⟩ := Option.bind_eq_some_iff.1 h
    split at h <;> cases h
    exact ⟨i, _, hi, hd, by assumption, fun q => by simp [isAggD] at q⟩
   ·cases h
theorem run_partD {t : TypeId} {i : TypeInfo} {d : TypeDesc} {n : Nat} (hi : P.info? t = some i) (hd : P.underlying t = some d) (hs : i.size = n) (hn : isAggD d = false → n = 1) {xs : List Value} {off : Nat} (hl : off + n ≤ xs.length) (w : World) :
  (part t xs.toArray off).run P w = .ok (valD d ((xs.drop off).take n)) w := by
 unfold part valD
 simp only [Sem.run_bind, run_isAggD hd, Result.andThen_ok]
 cases hq : isAggD d
 ·have h1 := hn hq
  subst h1
  have : xs[off]? = some (xs[off]'(by omega)) := List.getElem?_eq_getElem (by omega)
  simp only [Bool.false_eq_true, if_false, List.getElem?_toArray, this, Sem.run_pure]
  rw [List.drop_eq_getElem_cons (by omega)]
  rfl
 ·have hsz : (sizeOf t).run P w = .ok n w := by simp [sizeOf, typeInfo, hi, hs]
  simp only [if_true, Sem.run_bind, hsz, Result.andThen_ok, Sem.run_pure]
  congr 2
  apply Array.ext'
  simp [List.extract_eq_take_drop, Nat.add_sub_cancel_left]
theorem equalIn_leaf : ∀ (m : Nat) (t : TypeId) (ls : List Nat), leafK P m t = some ls → ∀ (d : TypeDesc), P.underlying t = some d → ∀ (xs ys : List Value) (b : Bool), cmpKL ls xs ys = some b → ∀ (k : Nat) (w : World), (Op.equalIn (m + k) t (valD d xs) (valD d ys)).run P w = .ok b w
 | 0, t, ls, h => by simp [leafK] at h
 | m + 1, t, ls, h => by
  intro d hd xs ys b hc k w
  simp only [leafK] at h
  rw [show m + 1 + k = (m + k) + 1 by omega]
  split at h
  ·cases h
  ·rename_i i hi
   rw [hd] at h
   split at h
   ·rename_i hd'
    injection hd' with hd'; subst hd'
    split at h <;> cases h
    have hlen := cmpKL_len hc
    match xs, ys, hlen with
    | [x], [y], _ =>
     simp only [cmpKL] at hc
     split at hc
     ·rename_i b0 r h1 h2
      injection hc with hc; injection h2 with h2; subst h2
      unfold cmpK at h1
      split at h1
      ·split at h1
       ·rename_i hk
        subst hk
        injection h1 with h1
        simp only [valD, isAggD, Bool.false_eq_true, if_false, List.headD_cons, Op.equalIn, Sem.run_bind, run_underlying hd, Result.andThen_ok, if_true, Sem.run_pure]
        rw [← hc, h1]; simp
       ·cases h1
      all_goals simp_all
     ·cases hc
   ·rename_i hd'
    injection hd' with hd'; subst hd'
    split at h <;> cases h
    have hlen := cmpKL_len hc
    match xs, ys, hlen with
    | [x], [y], _ =>
     simp only [cmpKL] at hc
     split at hc
     ·rename_i b0 r h1 h2
      injection hc with hc; injection h2 with h2; subst h2
      unfold cmpK at h1
      split at h1
      ·simp_all
      ·injection h1 with h1
       simp only [valD, isAggD, Bool.false_eq_true, if_false, List.headD_cons, Op.equalIn, Sem.run_bind, run_underlying hd, Result.andThen_ok, if_true, Sem.run_pure]
       rw [← hc, h1]; simp
      all_goals simp_all
     ·cases hc
   ·rename_i hd'
    injection hd' with hd'; subst hd'
    split at h <;> cases h
    have hlen := cmpKL_len hc
    match xs, ys, hlen with
    | [x], [y], _ =>
     simp only [cmpKL] at hc
     split at hc
     ·rename_i b0 r h1 h2
      injection hc with hc; injection h2 with h2; subst h2
      unfold cmpK at h1
      split at h1
      ·simp_all
      ·simp_all
      ·injection h1 with h1
       simp only [valD, isAggD, Bool.false_eq_true, if_false, List.headD_cons, Op.equalIn, Sem.run_bind, run_underlying hd, Result.andThen_ok, if_true, Sem.run_pure]
       rw [← hc, h1]; simp
      all_goals simp_all
     ·cases hc
   ·rename_i fs hd'
    injection hd' with hd'; subst hd'
    split at h
    ·rename_i hst
     obtain ⟨l, hl, h⟩ := Option.bind_eq_some_iff.1 h
     split at h <;> cases h
     have hf : P.fieldsOf t = fs := by simp [Program.fieldsOf, hd]
     simp only [valD, isAggD, if_true]
     rw [run_equalIn_struct w _ t _ _ (by rw [hf]; exact hd) hst, hf]
     have key : ∀ (gs : List Field) (off : Nat) (l : List Nat) (b : Bool), leafF P (leafK P m) gs off = some l → cmpKL l (xs.drop off) (ys.drop off) = some b → (Op.eqFields (m + k) xs.toArray ys.toArray gs).run P w = .ok b w := by
      intro gs
      induction gs with
      | nil =>
       intro off l b h1 h2
       injection h1 with h1; subst h1
       have hh := cmpKL_len h2
       have e1 : xs.drop off = [] := List.eq_nil_of_length_eq_zero hh.1
       have e2 : ys.drop off = [] := List.eq_nil_of_length_eq_zero hh.2
       rw [e1, e2] at h2
       injection h2 with h2
       subst h2
       simp [Op.eqFields]
      | cons f gs ih =>
       intro off l b h1 h2
       simp only [leafF] at h1
       split at h1
       ·rename_i hn
        obtain ⟨hn, ho⟩ := hn
        split at h1
        ·rename_i lf hlf
         obtain ⟨lr, hlr, rfl⟩ := Option.map_eq_some_iff.1 h1
         have hh := cmpKL_len h2
         rw [List.length_append, List.length_drop, List.length_drop] at hh
         obtain ⟨b1, b2, q1, q2, q3⟩ := cmpKL_append h2
         obtain ⟨fi, fd, i1, i2, i3, i4⟩ := leafK_info hlf
         rw [List.drop_drop, List.drop_drop] at q2
         subst ho
         have hpos : isAggD fd = false → lf.length = 1 := i4
         have hlx : lf.length ≤ xs.length - f.offset := by omega
         have hly : lf.length ≤ ys.length - f.offset := by omega
         by_cases hz : lf.length = 0
         ·have hagg : isAggD fd = true := by
           cases hq : isAggD fd
           ·have := i4 hq; omega
           ·rfl
          have px : (part f.type xs.toArray f.offset).run P w = .ok (valD fd ((xs.drop f.offset).take lf.length)) w := by
           unfold part valD
           have hsz : (sizeOf f.type).run P w = .ok lf.length w := by simp [sizeOf, typeInfo, i1, i3]
           simp only [Sem.run_bind, run_isAggD i2, Result.andThen_ok, hagg, if_true, hsz, Sem.run_pure]
           congr 2
           apply Array.ext'
           simp [hz]
          have py : (part f.type ys.toArray f.offset).run P w = .ok (valD fd ((ys.drop f.offset).take lf.length)) w := by
           unfold part valD
           have hsz : (sizeOf f.type).run P w = .ok lf.length w := by simp [sizeOf, typeInfo, i1, i3]
           simp only [Sem.run_bind, run_isAggD i2, Result.andThen_ok, hagg, if_true, hsz, Sem.run_pure]
           congr 2
           apply Array.ext'
           simp [hz]
          simp only [Op.eqFields, hn, ne_eq, not_false_eq_true, if_true, Sem.run_bind, px, py, equalIn_leaf m f.type lf hlf fd i2 _ _ b1 q1 k w, Result.andThen_ok]
          have := ih (f.offset + lf.length) lr b2 hlr q2
          cases b1
          ·simp [q3]
          ·simpa [q3] using this
         ·have px := run_partD i1 i2 i3 i4 (xs := xs) (off := f.offset) (by omega) w
          have py := run_partD i1 i2 i3 i4 (xs := ys) (off := f.offset) (by omega) w
          simp only [Op.eqFields, hn, ne_eq, not_false_eq_true, if_true, Sem.run_bind, px, py, equalIn_leaf m f.type lf hlf fd i2 _ _ b1 q1 k w, Result.andThen_ok]
          have := ih (f.offset + lf.length) lr b2 hlr q2
          cases b1
          ·simp [q3]
          ·simpa [q3] using this
        ·cases h1
       ·cases h1
     exact key fs.toList 0 _ b hl (by simpa using hc)
    ·cases h
   ·rename_i n e hd'
    injection hd' with hd'; subst hd'
    obtain ⟨l, hl, h⟩ := Option.bind_eq_some_iff.1 h
    split at h <;> cases h
    obtain ⟨ei, ed, i1, i2, i3, i4⟩ := leafK_info hl
    simp only [valD, isAggD, if_true]
    rw [run_equalIn_array w _ _ _ hd i1]
    have hco : P.cellsOf e = l.length := by simp [Program.cellsOf, i1, i3]
    rw [hco]
    have key : ∀ (r j : Nat) (b : Bool), cmpKL (repL r l) (xs.drop (j * l.length)) (ys.drop (j * l.length)) = some b → (Op.eqItems (m + k) e l.length xs.toArray ys.toArray (List.range' j r)).run P w = .ok b w := by
     intro r
     induction r with
     | zero =>
      intro j b h2
      have hh := cmpKL_len h2
      have e1 : xs.drop (j * l.length) = [] := List.eq_nil_of_length_eq_zero hh.1
      have e2 : ys.drop (j * l.length) = [] := List.eq_nil_of_length_eq_zero hh.2
      rw [e1, e2] at h2
      injection h2 with h2
      subst h2
      simp [Op.eqItems]
     | succ r ih =>
      intro j b h2
      have hh := cmpKL_len h2
      rw [List.length_drop, List.length_drop, repL, List.length_append] at hh
      obtain ⟨b1, b2, q1, q2, q3⟩ := cmpKL_append h2
      rw [List.drop_drop, List.drop_drop, show j * l.length + l.length = (j + 1) * l.length by rw [Nat.succ_mul]] at q2
      have := ih (j + 1) b2 q2
      rw [List.range'_succ]
      by_cases hz : l.length = 0
      ·have hagg : isAggD ed = true := by
        cases hq : isAggD ed
        ·have := i4 hq; omega
        ·rfl
       have pz : ∀ zs : List Value, (part e zs.toArray (j * l.length)).run P w = .ok (valD ed ((zs.drop (j * l.length)).take l.length)) w := by
        intro zs
        unfold part valD
        have hsz : (sizeOf e).run P w = .ok l.length w := by simp [sizeOf, typeInfo, i1, i3]
        simp only [Sem.run_bind, run_isAggD i2, Result.andThen_ok, hagg, if_true, hsz, Sem.run_pure]
        congr 2
        apply Array.ext'
        simp [hz]
       simp only [Op.eqItems, Sem.run_bind, pz, equalIn_leaf m e l hl ed i2 _ _ b1 q1 k w, Result.andThen_ok]
       cases b1
       ·simp [q3]
       ·simpa [q3] using this
      ·have px := run_partD i1 i2 i3 i4 (xs := xs) (off := j * l.length) (by omega) w
       have py := run_partD i1 i2 i3 i4 (xs := ys) (off := j * l.length) (by omega) w
       simp only [Op.eqItems, Sem.run_bind, px, py, equalIn_leaf m e l hl ed i2 _ _ b1 q1 k w, Result.andThen_ok]
       cases b1
       ·simp [q3]
       ·simpa [q3] using this
    have := key n 0 b (by simpa using hc)
    rw [List.range_eq_range']
    exact this
   ·cases h
def clsA : AV → List Nat
 | .sc (.int _ _) => [0]
 | .sc (.bool _) => [1]
 | .sc (.string _) => [2]
 | .arr _ n _ => repL n [0]
 | _ => [3]
def clsL : List AV → List Nat
 | [] => []
 | a :: r => clsA a ++ clsL r
def cmpA : AV → AV → Option Bool
 | .sc (.int k x), .sc (.int k' y) => if k = k' then some (x == y) else none
 | .sc (.bool x), .sc (.bool y) => some (x == y)
 | .sc (.string x), .sc (.string y) => some (x == y)
 | .arr k n xs, .arr k' n' ys => if k = k' ∧ n = n' then some (xs == ys) else none
 | _, _ => none
def cmpAL : List AV → List AV → Option Bool
 | [], [] => some true
 | [a], [b] => cmpA a b
 | a :: aas, b :: bs =>
  match cmpA a b, cmpAL aas bs with
  | some x, some y => some (x && y)
  | _, _ => none
 | _, _ => none
theorem cmpKL_app {l1 l2 : List Nat} {b1 b2 : Bool} : ∀ {x1 x2 y1 y2 : List Value}, cmpKL l1 x1 y1 = some b1 → cmpKL l2 x2 y2 = some b2 → cmpKL (l1 ++ l2) (x1 ++ x2) (y1 ++ y2) = some (b1 && b2) := by
 induction l1 generalizing b1 with
 | nil =>
  intro x1 x2 y1 y2 h1 h2
  obtain ⟨q1, q2⟩ := cmpKL_len h1
  obtain rfl := List.eq_nil_of_length_eq_zero q1
  obtain rfl := List.eq_nil_of_length_eq_zero q2
  injection h1 with h1; subst h1
  simpa using h2
 | cons c cs ih =>
  intro x1 x2 y1 y2 h1 h2
  match x1, y1, h1 with
  | x :: xs, y :: ys, h1 =>
   simp only [cmpKL] at h1
   split at h1
   ·rename_i b0 r h3 h4
    injection h1 with h1; subst h1
    simp only [List.cons_append, cmpKL, h3, ih h4 h2, Bool.and_assoc]
   ·cases h1
  | [], _, h1 => simp [cmpKL] at h1
  | _ :: _, [], h1 => simp [cmpKL] at h1
theorem cmpK_arr (k : IntKind) : ∀ (n : Nat) (xs ys : List Int), xs.length = n → ys.length = n → cmpKL (repL n [0]) (xs.map (Value.int k)) (ys.map (Value.int k)) = some (xs == ys)
 | 0, xs, ys, h1, h2 => by
   obtain rfl := List.eq_nil_of_length_eq_zero h1
   obtain rfl := List.eq_nil_of_length_eq_zero h2
   rfl
 | n + 1, x :: xs, y :: ys, h1, h2 => by
   have := cmpK_arr k n xs ys (by simpa using h1) (by simpa using h2)
   simp [repL, cmpKL, cmpK, this]
 | n + 1, [], _, h1, _ => by simp at h1
 | n + 1, _ :: _, [], _, h2 => by simp at h2
theorem cmpA_rel {C : Ctx} {a b : AV} {r : Bool} (h : cmpA a b = some r) {xs ys : List Value} (h1 : RelV S C a xs) (h2 : RelV S C b ys) : cmpKL (clsA a) xs ys = some r := by
 unfold cmpA at h
 split at h
 ·split at h <;> cases h
  rename_i hk; subst hk
  obtain ⟨rfl, _⟩ := h1
  obtain ⟨rfl, _⟩ := h2
  simp [clsA, cmpKL, cmpK]
 ·cases h
  obtain ⟨rfl, _⟩ := h1
  obtain ⟨rfl, _⟩ := h2
  simp [clsA, cmpKL, cmpK]
 ·cases h
  obtain ⟨rfl, _⟩ := h1
  obtain ⟨rfl, _⟩ := h2
  simp [clsA, cmpKL, cmpK]
 ·split at h <;> cases h
  rename_i hk
  obtain ⟨hk, hn⟩ := hk
  subst hk; subst hn
  obtain ⟨q1, rfl⟩ := h1
  obtain ⟨q2, rfl⟩ := h2
  exact cmpK_arr _ _ _ _ q1 q2
 ·cases h
theorem cmpAL_rel {C : Ctx} : ∀ {fs gs : List AV} {r : Bool}, cmpAL fs gs = some r → ∀ {xs ys : List Value}, RelL S C fs xs → RelL S C gs ys → cmpKL (clsL fs) xs ys = some r
 | [], [], r, h, xs, ys, h1, h2 => by
   obtain rfl : xs = [] := h1
   obtain rfl : ys = [] := h2
   simpa [cmpAL, clsL, cmpKL] using h
 | [a], [b], r, h, xs, ys, h1, h2 => by
   obtain ⟨c1, c2, rfl, k1, k2⟩ := h1
   obtain ⟨d1, d2, rfl, m1, m2⟩ := h2
   obtain rfl : c2 = [] := k2
   obtain rfl : d2 = [] := m2
   simpa [clsL] using cmpA_rel h k1 m1
 | a :: a2 :: aas, b :: b2 :: bs, r, h, xs, ys, h1, h2 => by
   simp only [cmpAL] at h
   split at h
   ·rename_i x y q1 q2
    injection h with h; subst h
    obtain ⟨c1, c2, rfl, k1, k2⟩ := h1
    obtain ⟨d1, d2, rfl, m1, m2⟩ := h2
    exact cmpKL_app (cmpA_rel q1 k1 m1) (cmpAL_rel q2 k2 m2)
   ·cases h
 | [], _ :: _, _, h, _, _, _, _ => by simp [cmpAL] at h
 | _ :: _, [], _, h, _, _, _, _ => by simp [cmpAL] at h
 | [_], _ :: _ :: _, _, h, _, _, _, _ => by simp [cmpAL] at h
 | _ :: _ :: _, [_], _, h, _, _, _, _ => by simp [cmpAL] at h
theorem agg_cells {C : Ctx} {a : AV} {fs : List AV} {v : Value} (hc : chunks a = some fs) (hagg : a.single = false) (h : VRel S C a v) : ∃ cs, v = .agg cs ∧ RelL S C fs cs.toList := by
 cases a with
 | agg gs => injection hc with hc; subst hc; exact h
 | arr k n xs =>
  injection hc with hc; subst hc
  obtain ⟨h1, rfl⟩ := h
  exact ⟨_, rfl, RelL_one.2 ⟨h1, by simp⟩⟩
 | u => cases hc
 | tup _ => cases hc
 | _ => simp [AV.single] at hagg
theorem LSpec.eqAgg {n : Nat} {ops : Array Oper} {i : Nat} {t : Tmps} {h : List AO} {op : BinOp} {xt yt : TypeId} {x y : Operand} {a b : AV} {fs gs : List AV} {ls : List Nat} {d : TypeDesc} {r : Bool} (m : Nat) (hm : m ≤ 10000) (neg : Bool)
  (hop : opAt n ops i t = some (.binOp op xt x y yt)) (hopn : (match op with | .eql => !neg | .neq => neg | _ => false) = true) (hx : ev t x = a) (hy : ev t y = b) (ha : chunks a = some fs) (hb : chunks b = some gs) (ha1 : a.single = false) (hb1 : b.single = false)
  (hd : P.underlying xt = some d) (hagg : isAggD d = true) (hl : leafK P m xt = some ls) (hcl : clsL fs = ls) (hg : P.eqGuardType P.depth xt = false) (hc : cmpAL fs gs = some r) : LSpec P S n ops i .pure t h (.sc (.bool (if neg then !r else r))) h :=
 (opAt_spec hop).spec (fun _ => rfl) fun o ρv C h2 ho H _ hρ => by
  have hxv := hρ x (by simp [Op.operands])
  have hyv := hρ y (by simp [Op.operands])
  rw [hx] at hxv
  rw [hy] at hyv
  obtain ⟨cs, e1, r1⟩ := agg_cells ha ha1 hxv
  obtain ⟨ds, e2, r2⟩ := agg_cells hb hb1 hyv
  have hk := cmpAL_rel hc r1 r2
  rw [hcl] at hk
  have heq := equalIn_leaf m xt ls hl d hd _ _ r hk (10000 - m) C.w
  rw [show m + (10000 - m) = 10000 by omega] at heq
  simp only [valD, hagg, if_true] at heq
  obtain ⟨dst, op', oty, pos, after, guard⟩ := o
  simp only at ho
  subst ho
  have hgd : ∀ op : BinOp, (eqGuard op xt x y (.agg cs) (.agg ds)).run P C.w = .ok () C.w := fun op => run_eqGuard_agg C.w op xt x y cs ds hg
  refine OpOK.same (v := .bool (if neg then !r else r)) (by simpa using H) ?_ ⟨rfl, rfl⟩
  cases op <;> simp only [Bool.false_eq_true] at hopn
  ·have hn : neg = false := by simpa using hopn
   subst hn
   simp only [execOp, e1, e2, Sem.run_bind, hgd, Result.andThen_ok, run_eql_struct, heq, Sem.run_pure]
   rfl
  ·subst hopn
   simp only [execOp, e1, e2, Sem.run_bind, hgd, Result.andThen_ok, run_neq_struct, heq, Sem.run_pure]
   rfl
end Go.Sh
namespace Go.Sh
variable {P : Program} {G : Tab} {S : Sizes}
abbrev intA (k : IntKind) (n : Int) : AV := .sc (.int k n)
abbrev slA {α : Type} (e : TypeId) (f : α → AV) (xs : List α) : AV := .sl e (xs.map f) false
def ixO {α : Type} (xs : List α) (i : Int) : Option α := if 0 ≤ i then xs[i.toNat]? else none
theorem ixO_map {α : Type} {xs : List α} {i : Int} {x : α} (h : ixO xs i = some x) (f : α → AV) : 0 ≤ i ∧ (xs.map f)[i.toNat]? = some (f x) := by
 unfold ixO at h
 split at h
 ·rename_i hi
  refine ⟨hi, ?_⟩
  rw [List.getElem?_map, h]
  rfl
 ·cases h
def fitO {α : Type} (n by_ : Nat) (r : Option α) : Option α := if n * by_ ≤ reach then r else none
theorem fitO_some {α : Type} {n by_ : Nat} {r : Option α} {x : α} (h : fitO n by_ r = some x) : n * by_ ≤ reach ∧ r = some x := by
 unfold fitO at h
 split at h
 ·exact ⟨by assumption, h⟩
 ·cases h
theorem cond_t {α : Type} {b : Bool} {x y r : α} (hb : b = true) (h : (bif b then x else y) = r) : x = r := by subst hb; exact h
theorem cond_f {α : Type} {b : Bool} {x y r : α} (hb : b = false) (h : (bif b then x else y) = r) : y = r := by subst hb; exact h
def bodyOf (f : Func) : Code := match f.body with | some b => b | none => .skip
theorem ACalls.of_AR (F : Fn) {fn : Func} {args : List AV} {h h' : List AO} {r : AV} (hf : P.funcs[F.f]? = some fn) (hname : (fn.name == "runtime.NumGoroutine") = false) (hB : fn.body = some F.B) (hn : fn.ntmps = F.n) (hlen : args.length ≤ F.n)
  (A : ∀ c0 : Ctx, c0.m.length = h.length → AR P G F c0 (Rp G.S c0 r h') [.code []] (argT 0 args) h) : ACalls P G.S F.f args h r h' :=
 ACalls.intro (G := G) hf hname hB hn hlen A
theorem VRels.facts {C : Ctx} {aas : List AV} {vs : List Value} (h : VRels S C aas vs) : factsL S aas := by
 induction h with
 | nil => trivial
 | cons h1 _ ih =>
  rename_i a v _ _ _
  have : VRel S C a v := by
   cases a with
   | tup _ => exact h1.elim
   | _ => exact h1
  exact ⟨VRel.facts this, ih⟩
theorem ACalls.facts {f : FuncId} {args : List AV} {h h' : List AO} {r : AV} (hE : Ent P f) (A : factsL S args → ACalls P S f args h r h') : ACalls P S f args h r h' :=
 ⟨hE, fun C vals H hv => (A hv.facts).2 C vals H hv⟩
def retOf (G : Tab) (fn : Func) (t : Tmps) (h : List AO) : Option AV :=
 (fn.results.toList.mapM (resA G t h)).bind fun aas => (aas.mapM (finA h 0)).map retA
inductive Wks (S : Sizes) : List AV → List AV → Prop
 | nil : Wks S [] []
 | cons {a b : AV} {aas bs : List AV} : WkV S a b → (match a with | .tup _ => False | _ => True) → (match b with | .tup _ => False | _ => True) → Wks S aas bs → Wks S (a :: aas) (b :: bs)
theorem Wks.rel {aas bs : List AV} (h : Wks S aas bs) {C : Ctx} : ∀ {vs : List Value}, VRels S C aas vs → VRels S C bs vs := by
 induction h with
 | nil => intro vs h; exact h
 | @cons a b aas bs h1 h2 h3 _ ih =>
  intro vs h
  cases h with
  | cons k1 k2 =>
   refine .cons ?_ (ih k2)
   have := h1 C _ (by cases a <;> first | exact k1 | exact h2.elim)
   cases b <;> first | exact this | exact h3.elim
theorem WkV.tup {aas bs : List AV} (h : Wks S aas bs) : WkV S (.tup aas) (.tup bs) := by
 rintro C v ⟨l, rfl, r⟩
 exact ⟨l, rfl, h.rel r⟩
theorem Wk1.anyFull {e : TypeId} {rows : List AV} (f : Bool) : Wk1 S (.sl e rows f) (.sl e rows false) := by
 cases f
 ·exact Wk1.refl _
 ·exact Wk1.full
variable {F : Fn} {c0 : Ctx} {R : Ending → World → Prop}
def isRet : Code → Bool
 | .ret => true
 | _ => false
theorem AR.ret0 (hG : G.ok P) {fn : Func} (hf : P.funcs[F.f]? = some fn) {k : List PI} {p : List Nat} (hc : isRet (codeAt F.B p) = true) {t : Tmps} {h : List AO} (hlen : c0.m.length = 0) {r0 r : AV} (e : retOf G fn t h = some r0) (hw : WkV G.S r0 r) : AR P G F c0 (Rp G.S c0 r []) (.code p :: k) t h := by
 have hcd : codeAt F.B p = .ret := by cases hq : codeAt F.B p <;> rw [hq] at hc <;> first | rfl | cases hc
 obtain ⟨aas, h1, h2⟩ := Option.bind_eq_some_iff.1 e
 obtain ⟨bs, h3, h4⟩ := Option.map_eq_some_iff.1 h2
 have A := AR.ret (c0 := c0) (h' := []) hG hf (k := k) hcd 0 (by omega) h1 h3 (by simp) (by simp) h4
 intro C a st AA cs
 obtain ⟨e, w', fr, ⟨v, C', k1, k2, k3, k4, k5⟩, q⟩ := A C a st AA cs
 exact ⟨e, w', fr, ⟨v, C', k1, k2, k3, by simpa using k4, hw C' v k5⟩, q⟩
def isLoop : Code → Bool
 | .loop _ => true
 | _ => false
theorem AR.into {k : List PI} {p : List Nat} (hc : isLoop (codeAt F.B p) = true) {t : Tmps} {h : List AO} (A : AR P G F c0 R (.code (p ++ [0]) :: .loop p :: k) t h) : AR P G F c0 R (.code p :: k) t h := by
 cases hcd : codeAt F.B p with
 | loop c => exact AR.loop_in hcd A
 | _ => rw [hcd] at hc; cases hc
theorem AR.keep (live : List Nat) {k : List PI} {t t' : Tmps} {h : List AO} (e : keepT live t = t') (A : AR P G F c0 R k t' h) : AR P G F c0 R k t h := by
 subst e
 exact A.weak (keepT_weak live t)
variable {n : Nat} {ops : Array Oper} {kds : List Kd} {fin : Tmps → List AO → Prop}
def kdOk (kds : List Kd) (i : Nat) (kd : Kd) : Bool := match kds[i]? with | some kd' => kd.leB kd' | none => false
theorem DK.op' (live : List Nat) {i j : Nat} {t t' : Tmps} {h h1 h' : List AO} {kd : Kd} {r : AV} (L : LSpec P S n ops i kd t h r h1) (hk : kdOk kds i kd = true) (eh : h1 = h') (e : keepT live (setT t ((ops[i]?).bind (·.dst)) r) = t') (hj : i + 1 = j)
  (D : DK P S n ops kds fin j t' h') : DK P S n ops kds fin i t h := by
 subst hj; subst e; subst eh
 unfold kdOk at hk
 split at hk
 ·rename_i kd' hkd
  exact DK.step L hkd hk (D.weak (keepT_weak live _))
 ·cases hk
def callE (g : AV → Option AV) (n : Nat) (ops : Array Oper) (i : Nat) (t : Tmps) (f : FuncId) : Option (List AV) :=
 (callAt n ops i t).bind fun p => if p.1 = f then (p.2.map (ev t)).mapM g else none
theorem callE_spec {g : AV → Option AV} {i : Nat} {t : Tmps} {f : FuncId} {avs : List AV} (h : callE g n ops i t f = some avs) : ∃ xs, callAt n ops i t = some (f, xs) ∧ (xs.map (ev t)).mapM g = some avs := by
 obtain ⟨⟨f', xs⟩, h1, h2⟩ := Option.bind_eq_some_iff.1 h
 simp only at h2
 split at h2
 ·rename_i e
  subst e
  exact ⟨xs, h1, h2⟩
 ·cases h2
theorem LSpec.callP' {i : Nat} {t : Tmps} {h : List AO} {f : FuncId} {avs : List AV} {r : AV} (hc : ACalls P G.S f avs [] r []) (e : callE plainO n ops i t f = some avs) : LSpec P G.S n ops i .pure t h r h := by
 obtain ⟨xs, h1, h2⟩ := callE_spec e
 exact LSpec.call h1 h2 hc
def indexE (G : Tab) (n : Nat) (ops : Array Oper) (i : Nat) (t : Tmps) : Option (List AV × Int) :=
 match opAt n ops i t with
 | some (.indexAddr ty x y) =>
  match G.kind ty, ev t x, ev t y with
  | .slice e, .sl e' rows _, .sc (.int _ j) => if (e = e' ∧ e < markE) ∧ (G.get e).isSome = true then some (rows, j) else none
  | _, _, _ => none
 | _ => none
theorem LSpec.index' (hG : G.ok P) {i : Nat} {t : Tmps} {h : List AO} {rows : List AV} {j : Int} {r : AV} {fs : List AV} (e : indexE G n ops i t = some (rows, j)) (hr : 0 ≤ j ∧ rows[j.toNat]? = some r) (hfs : chunks r = some fs) : LSpec P G.S n ops i .pure t h (.ep fs 0 none) h := by
 unfold indexE at e
 split at e
 ·rename_i ty x y hop
  split at e
  ·rename_i e0 e1 rows' f k j' hk hx hy
   split at e
   ·rename_i he
    injection e with e
    injection e with e2 e3
    obtain ⟨⟨he1, he2⟩, he⟩ := he
    subst e2; subst e3; subst he1
    exact LSpec.index hG hop hk he (by simp [okMark]) (by simp [epOk, he2]) hx hy hr.1 hr.2 hfs
   ·cases e
  ·cases e
 ·cases e
end Go.Sh
namespace Go.Sh
variable {P : Program} {G : Tab} {S : Sizes}
variable {F : Fn} {c0 : Ctx} {R : Ending → World → Prop}
variable {n : Nat} {ops : Array Oper}
def nilOr (rows : List AV) (b : Bool) : Bool :=
 match b with
 | true => true
 | false => match rows with
  | [] => true
  | _ => false
theorem nilOr_spec {rows : List AV} {b : Bool} (h : nilOr rows b = true) : rows = [] ∨ b = true := by
 cases b with
 | true => exact .inr rfl
 | false =>
  cases rows with
  | nil => exact .inl rfl
  | cons _ _ => cases h
def adoptE (i : Nat) (e : TypeId) (t : Tmps) (h : List AO) : Option (Tmps × List AO) :=
 match lk t i with
 | .sl e0 rows true => if nilOr rows (decide (e = e0)) = true then some (setT t (some i) (.own h.length 0), h ++ [.row e rows 0 true]) else none
 | _ => none
theorem AR.adopt' (i : Nat) (e : TypeId) {k : List PI} {t t' : Tmps} {h h' : List AO} (q : adoptE i e t h = some (t', h')) (A : AR P G F c0 R k t' h') : AR P G F c0 R k t h := by
 unfold adoptE at q
 split at q
 ·rename_i e0 rows hi
  split at q
  ·rename_i he
   injection q with q
   injection q with q1 q2
   subst q1; subst q2
   refine AR.adopt i e hi ?_ A
   rcases nilOr_spec he with he | he
   ·exact .inl he
   ·exact .inr (of_decide_eq_true he)
  ·cases q
 ·cases q
def isNil : List AV → Bool
 | [] => true
 | _ => false
def adoptBE (i : Nat) (e : TypeId) (t : Tmps) (h : List AO) : Option (Tmps × List AO) :=
 match lk t i with
 | .sl e0 rows true => if isNil rows = true then some (setT t (some i) (.own h.length 1000000), h ++ [.row e rows 1000000 true]) else none
 | _ => none
theorem AR.adoptB' (i : Nat) (e : TypeId) {k : List PI} {t t' : Tmps} {h h' : List AO} (q : adoptBE i e t h = some (t', h')) (A : AR P G F c0 R k t' h') : AR P G F c0 R k t h := by
 unfold adoptBE at q
 split at q
 ·rename_i e0 rows hi
  split at q
  ·rename_i he
   injection q with q
   injection q with q1 q2
   subst q1; subst q2
   refine AR.adoptB i e hi ?_ A
   cases rows with
   | nil => rfl
   | cons _ _ => cases he
  ·cases q
 ·cases q
def appE (G : Tab) (n : Nat) (ops : Array Oper) (i : Nat) (t : Tmps) (h : List AO) : Option (Nat × Nat × TypeId × List AV × List AV × Nat) :=
 match opAt n ops i t with
 | some (.call { callee := .builtin .append, args := xs, argTypes := ts }) =>
  match xs.toList, ts.toList with
  | [x, y], [ty, ty'] =>
   match G.kind ty, ev t x, conv h (ev t y) with
   | .slice e, .own o k, some (.sl e' rows2 _) =>
    match G.get e, h[o]? with
    | some ei, some (.row e'' rows k' true) => if ty = ty' ∧ okMark G e e' = true ∧ e = e'' ∧ k = k' ∧ 0 < ei.size ∧ 0 < ei.bytes ∧ bslOk (fun _ => (0, 0)) (ev t y) = true ∧ k + 1 ≠ 1000000 then some (o, k, e, rows, rows2, ei.bytes) else none
    | _, _ => none
   | _, _, _ => none
  | _, _ => none
 | _ => none
theorem LSpec.append' (hG : G.ok P) {α : Type} (f : α → AV) (A B : List α) (o k e by_ : Nat) {i : Nat} {t : Tmps} {h : List AO} (hfit : (A.length + B.length) * by_ ≤ reach) (q : appE G n ops i t h = some (o, k, e, A.map f, B.map f, by_)) :
  LSpec P G.S n ops i .loud t h (.own o (k + 1)) (h.set o (.row e ((A ++ B).map f) (k + 1) true)) := by
 unfold appE at q
 split at q
 ·rename_i xs ts hop
  split at q
  ·rename_i x y ty ty' hxs hts
   split at q
   ·rename_i e0 o0 k0 e1 rows2 fl hk hx hy
    split at q
    ·rename_i ei e2 rows k1 he ho
     split at q
     ·rename_i hh
      obtain ⟨q1, q2, q3, q4, q5, q6, q7, q8⟩ := hh
      injection q with q
      injection q with p1 q; injection q with p2 q; injection q with p3 q; injection q with p4 q; injection q with p5 p6
      subst q1; subst q3; subst q4; subst p1; subst p2; subst p3; subst p4; subst p5; subst p6
      have hxs' : xs = #[x, y] := by apply Array.ext'; simpa using hxs
      have hts' : ts = #[ty, ty] := by apply Array.ext'; simpa using hts
      subst hxs'; subst hts'
      rw [List.map_append]
      exact LSpec.append hG hop hk he q5 q6 hx ho q2 hy q7 (by simpa using hfit) (by omega) (fun hq => .inl (by omega))
     ·cases q
    ·cases q
   ·cases q
  ·cases q
 ·cases q
theorem conv_push {h : List AO} {x : AO} {a r : AV} (q : conv h a = some r) : conv (h ++ [x]) a = some r := by
 have key : ∀ (o : Nat) (ob : AO), h[o]? = some ob → (h ++ [x])[o]? = some ob := by
  intro o ob ho
  have : o < h.length := (List.getElem?_eq_some_iff.1 ho).1
  rw [List.getElem?_append_left this, ho]
 cases a with
 | own o k =>
  simp only [conv] at q ⊢
  split at q
  ·rename_i ho; rw [key _ _ ho]; exact q
  ·cases q
 | bsl e o off n =>
  simp only [conv] at q ⊢
  split at q
  ·rename_i ho; rw [key _ _ ho]; exact q
  ·cases q
 | _ => exact q
def appNE (G : Tab) (n : Nat) (ops : Array Oper) (i : Nat) (t : Tmps) (h : List AO) : Option (TypeId × List AV × List AV × Nat) :=
 match opAt n ops i t with
 | some (.call { callee := .builtin .append, args := xs, argTypes := ts }) =>
  match xs.toList, ts.toList with
  | [x, y], [ty, ty'] =>
   match G.kind ty, ev t x, conv h (ev t y) with
   | .slice e, .sl e0 rows true, some (.sl e' rows2 _) =>
    match G.get e with
    | some ei => if ty = ty' ∧ okMark G e e' = true ∧ nilOr rows (decide (e = e0)) = true ∧ 0 < ei.size ∧ 0 < ei.bytes ∧ bslOk (fun _ => (0, 0)) (ev t y) = true then some (e, rows, rows2, ei.bytes) else none
    | _ => none
   | _, _, _ => none
  | _, _ => none
 | _ => none
theorem LSpec.appendK (hG : G.ok P) {α : Type} (f : α → AV) (A B : List α) (e by_ : Nat) (kn : Nat) (h0 : 0 < kn) (hB : 1000000 ≤ kn → A = []) {i : Nat} {t : Tmps} {h : List AO} (hfit : (A.length + B.length) * by_ ≤ reach) (q : appNE G n ops i t h = some (e, A.map f, B.map f, by_)) :
  LSpec P G.S n ops i .loud t h (.own h.length kn) (h ++ [.row e ((A ++ B).map f) kn true]) := by
 unfold appNE at q
 split at q
 ·rename_i xs ts hop
  split at q
  ·rename_i x y ty ty' hxs hts
   split at q
   ·rename_i e1 e0 rows e2 rows2 fl hk hx hy
    split at q
    ·rename_i ei he
     split at q
     ·rename_i hh
      obtain ⟨q1, q2, q3, q5, q6, q7⟩ := hh
      injection q with q
      injection q with p3 q; injection q with p4 q; injection q with p5 p6
      subst q1; subst p3; subst p4; subst p5; subst p6
      have hxs' : xs = #[x, y] := by apply Array.ext'; simpa using hxs
      have hts' : ts = #[ty, ty] := by apply Array.ext'; simpa using hts
      subst hxs'; subst hts'
      refine (opAt_spec hop).spec (fun hh => absurd rfl hh) fun op ρv C h2 hoq H hh hρ => ?_
      have hh := hh (by simp)
      subst hh
      have hxv := hρ x (by simp [Op.operands, Call.operands])
      have hyv := hρ y (by simp [Op.operands, Call.operands])
      rw [hx] at hxv
      obtain ⟨d, hd, hf⟩ := kind_desc hG hk (by simp)
      simp only [TK.fits] at hf
      subst hf
      obtain ⟨dst, op, oty, pos, after, guard⟩ := op
      simp only at hoq
      subst hoq
      have hrel : RelV G.S C (.sl e1 (A.map f) true) [ρv x] := by
       obtain ⟨b, c, s1, s2, s3, s4, s5, s6⟩ := (hxv : RelV G.S C (.sl e0 (A.map f) true) [ρv x])
       rcases nilOr_spec q3 with hnil | q3
       ·rw [hnil] at s1 s2 s3 ⊢; exact ⟨b, c, s1, s2, s3, s4, by simp [reach], .inl rfl⟩
       ·have := of_decide_eq_true q3; subst this; exact ⟨b, c, s1, s2, s3, s4, s5, s6⟩
      have h1v : (ρv x).oneCell' = true := RelV.one _ _ hrel _ (by simp)
      have hb : (A.map f).length * (G.S e1).2 ≤ reach := by
       obtain ⟨_, _, _, _, _, _, s5, _⟩ := hrel
       exact s5
      obtain ⟨st', hpush⟩ := HRel.push (S := G.S) (C' := ⟨C.w, C.m ++ [.row (ρv x) 0 false], C.X⟩) (s := .row (ρv x) 0 false) (ob := .row e1 (A.map f) 0 true) H (Nat.le_refl _) rfl rfl rfl (fun _ _ => rfl) rfl rfl (fun b hb => by simp [Slot.has] at hb)
      have H1 := hpush ⟨rfl, hb, fun _ => RelV.step st' _ _ hrel, by simp, fun hk => by omega⟩
      have hown : VRel G.S ⟨C.w, C.m ++ [.row (ρv x) 0 false], C.X⟩ (.own h2.length 0) (ρv x) := by
       refine ⟨ρv x, ρv x, 0, false, rfl, h1v, ?_, Nat.le_refl _, fun _ => rfl⟩
       show (C.m ++ [Slot.row (ρv x) 0 false])[h2.length]? = _
       rw [← H.len]
       simp
      obtain ⟨v', C', g1, g2, g3, g4⟩ := append_run hG (ty := oty) hd he q5 q6 H1 (o := h2.length) (k := 0) (rows := A.map f) (by simp) hown (fun e o off n hc => by rw [hc] at q7; simp [bslOk] at q7) q2 (conv_push hy) (hyv.step st') (by simpa using hfit) (k' := kn) h0 (fun hq => .inr (by rw [hB hq]; rfl))
      refine ⟨C', st'.trans g2, ?_, .inl ⟨v', ?_, by simpa using g4⟩⟩
      ·rw [List.map_append]
       simpa using g3
      ·simp only [execOp, resolve, Sem.run_bind, Sem.run_pure, Result.andThen_ok, invoke, builtin, List.map_toArray, List.map_cons, List.map_nil, g1]
     ·cases q
    ·cases q
   ·cases q
  ·cases q
 ·cases q
theorem LSpec.appendN (hG : G.ok P) {α : Type} (f : α → AV) (A B : List α) (e by_ : Nat) {i : Nat} {t : Tmps} {h : List AO} (hfit : (A.length + B.length) * by_ ≤ reach) (q : appNE G n ops i t h = some (e, A.map f, B.map f, by_)) :
  LSpec P G.S n ops i .loud t h (.own h.length 1) (h ++ [.row e ((A ++ B).map f) 1 true]) := LSpec.appendK hG f A B e by_ 1 (by omega) (by omega) hfit q
def bndE (t : Tmps) (o : Option Operand) : Option (Option Int) :=
 match o with
 | none => some none
 | some x => match ev t x with | .sc (.int _ n) => some (some n) | _ => none
def sliceE (G : Tab) (n : Nat) (ops : Array Oper) (i : Nat) (t : Tmps) : Option (TypeId × List AV × Bool × Option Int × Option Int × Option Int) :=
 match opAt n ops i t with
 | some (.slice ty x lo hi mx) =>
  match G.kind ty, ev t x, bndE t lo, bndE t hi, bndE t mx with
  | .slice e, .sl e0 rows f, some l, some u, some m => if (G.get e).isSome = true ∧ nilOr rows (decide (e0 = e)) = true then some (e, rows, f, l, u, m) else none
  | _, _, _, _, _ => none
 | _ => none
theorem bndE_bnd {t : Tmps} {o : Option Operand} {d k : Nat} {b : Option Int} (h : bndE t o = some b) (hb : b.getD d = k) : bnd t o d k := by
 unfold bndE at h
 unfold bnd
 split at h
 ·injection h with h; subst h
  simp only [Option.getD_none] at hb
  exact (Int.ofNat.inj hb).symm
 ·rename_i x
  split at h
  ·rename_i kd m hx
   injection h with h; subst h
   simp only [Option.getD_some] at hb
   subst hb
   exact ⟨kd, hx⟩
  ·cases h
theorem LSpec.slice' (hG : G.ok P) {α : Type} (f : α → AV) (A A' : List α) (e : Nat) (fl fl' : Bool) (l u m : Option Int) (l0 u0 : Nat) {i : Nat} {t : Tmps} {h : List AO} (q : sliceE G n ops i t = some (e, A.map f, fl, l, u, m))
  (hl : l.getD 0 = l0) (hu : u.getD A.length = u0) (hm : ∀ y, m = some y → y = u0 ∧ u ≠ none) (h1 : l0 ≤ u0) (h2 : u0 ≤ A.length) (hA : (A.drop l0).take (u0 - l0) = A') (hf : fl' = true → m ≠ none ∨ (fl = true ∧ u0 = A.length)) :
  LSpec P G.S n ops i .pure t h (.sl e (A'.map f) fl') h := by
 unfold sliceE at q
 split at q
 ·rename_i ty x lo hi mx hop
  split at q
  ·rename_i e1 e0 rows fl1 l1 u1 m1 hk hx hlo hhi hmx
   split at q
   ·rename_i hh
    obtain ⟨q1, q2⟩ := hh
    injection q with q
    injection q with p1 q; injection q with p2 q; injection q with p3 q; injection q with p4 q; injection q with p5 p6
    subst p1; subst p2; subst p3; subst p4; subst p5; subst p6
    refine LSpec.slice hG l0 u0 hop hk q1 hx ?_ (bndE_bnd hlo hl) (bndE_bnd hhi (by simpa using hu)) ?_ h1 (by simpa using h2) ?_ ?_
    ·rcases nilOr_spec q2 with hnil | q2
     ·exact .inr hnil
     ·exact .inl (of_decide_eq_true q2)
    ·intro y hy
     subst hy
     simp only [bndE] at hmx
     split at hmx
     ·rename_i kd mm hxm
      injection hmx with hmx; subst hmx
      obtain ⟨r1, r2⟩ := hm mm rfl
      subst r1
      refine ⟨⟨kd, hxm⟩, fun hn => r2 ?_⟩
      subst hn
      simp only [bndE] at hhi
      injection hhi with hhi
      exact hhi.symm
     ·cases hmx
    ·rw [← hA, List.map_take, List.map_drop]
    ·intro hq
     rcases hf hq with r | ⟨r1, r2⟩
     ·left
      intro hn
      subst hn
      simp only [bndE] at hmx
      injection hmx with hmx
      exact r hmx.symm
     ·exact .inr ⟨r1, by simpa using r2⟩
   ·cases q
  ·cases q
 ·cases q
def eqE (P : Program) (n : Nat) (ops : Array Oper) (i : Nat) (t : Tmps) (m : Nat) : Option Bool :=
 match opAt n ops i t with
 | some (.binOp op xt x y _) =>
  match chunks (ev t x), chunks (ev t y), P.underlying xt, leafK P m xt with
  | some fs, some gs, some d, some ls =>
   if (ev t x).single = false ∧ (ev t y).single = false ∧ isAggD d = true ∧ clsL fs = ls ∧ P.eqGuardType P.depth xt = false ∧ m ≤ 10000 then
    match op, cmpAL fs gs with
    | .eql, some r => some r
    | .neq, some r => some (!r)
    | _, _ => none
   else none
  | _, _, _, _ => none
 | _ => none
theorem LSpec.eq' (m : Nat) {i : Nat} {t : Tmps} {h : List AO} {r : Bool} (q : eqE P n ops i t m = some r) : LSpec P S n ops i .pure t h (.sc (.bool r)) h := by
 unfold eqE at q
 split at q
 ·rename_i op xt x y yt hop
  split at q
  ·rename_i fs gs d ls hfs hgs hd hls
   split at q
   ·rename_i hh
    obtain ⟨q1, q2, q3, q4, q5, q6⟩ := hh
    split at q
    ·rename_i r' hc
     injection q with q; subst q
     have := LSpec.eqAgg (P := P) (S := S) (h := h) m q6 false hop rfl rfl rfl hfs hgs q1 q2 hd q3 hls q4 q5 hc
     simpa using this
    ·rename_i r' hc
     injection q with q; subst q
     have := LSpec.eqAgg (P := P) (S := S) (h := h) m q6 true hop rfl rfl rfl hfs hgs q1 q2 hd q3 hls q4 q5 hc
     simpa using this
    ·cases q
   ·cases q
  ·cases q
 ·cases q
def loopO {E α : Type} (x : Option (Sum E α)) (f : E → Option α) : Option α :=
 match x with
 | none => none
 | some (.inl v) => f v
 | some (.inr r) => some r
theorem loopO_some {E α : Type} {x : Option (Sum E α)} {f : E → Option α} {r : α} (h : loopO x f = some r) : (∃ v, x = some (.inl v) ∧ f v = some r) ∨ x = some (.inr r) := by
 match x, h with
 | none, h => cases h
 | some (.inl v), h => exact .inl ⟨v, rfl, h⟩
 | some (.inr r'), h => injection h with h; subst h; exact .inr rfl
theorem ACalls.wk {f : FuncId} {aas bs : List AV} {h h' : List AO} {r : AV} (hw : Wks S aas bs) (hc : ACalls P S f bs h r h') : ACalls P S f aas h r h' :=
 ⟨hc.1, fun C vals H hv => hc.2 C vals H (hw.rel hv)⟩
end Go.Sh
namespace Go.Sh
variable {P : Program} {G : Tab} {n : Nat} {ops : Array Oper}
def sliceO {α : Type} (A : List α) (l u m : Option Int) : Option (List α) :=
 if 0 ≤ l.getD 0 ∧ l.getD 0 ≤ u.getD A.length ∧ u.getD A.length ≤ A.length ∧ (m = none ∨ (m = u ∧ u ≠ none)) then some ((A.drop (l.getD 0).toNat).take ((u.getD A.length).toNat - (l.getD 0).toNat)) else none
theorem LSpec.sliceO (hG : G.ok P) {α : Type} (f : α → AV) (A : List α) (e : Nat) (fl fl' : Bool) (l u m : Option Int) {i : Nat} {t : Tmps} {h : List AO} {A' : List α} (q0 : sliceO A l u m = some A') (hf : (!fl' || m.isSome || (fl && u.isNone)) = true) (q : sliceE G n ops i t = some (e, A.map f, fl, l, u, m)) :
  LSpec P G.S n ops i .pure t h (.sl e (A'.map f) fl') h := by
 unfold Go.Sh.sliceO at q0
 split at q0
 ·rename_i hh
  obtain ⟨h1, h2, h3, h4⟩ := hh
  injection q0 with q0
  refine LSpec.slice' hG f A A' e fl fl' l u m (l.getD 0).toNat (u.getD A.length).toNat q (by omega) (by omega) ?_ (by omega) (by omega) q0 ?_
  ·intro y hy
   rcases h4 with h4 | ⟨h4, h5⟩
   ·rw [h4] at hy; cases hy
   ·rw [hy] at h4
    refine ⟨?_, h5⟩
    rw [← h4] at h2 h3 ⊢
    simp only [Option.getD_some] at h2 h3 ⊢
    omega
  ·intro hfl
   subst hfl
   cases m with
   | some _ => exact .inl (by simp)
   | none =>
    cases u with
    | some _ => simp at hf
    | none => right; simp at hf; exact ⟨hf, by simp⟩
 ·cases q0
end Go.Sh
namespace Go.Sh
end Go.Sh
namespace Go.Sh
variable {P : Program} {G : Tab} {n : Nat} {ops : Array Oper}
theorem OpAt.specC {n : Nat} {ops : Array Oper} {i : Nat} {t : Tmps} {op : Op} (K : OpAt n ops i t op) {S : Sizes} {h : List AO} {r : AV}
  (hrun : ∀ (o : Oper) (ρv : Operand → Value) (C : Ctx) (h2 : List AO), o.op = op → HRel S C h2 → (∀ v, ρv (.const v) = v) → (∀ x ∈ op.operands, VRel S C (ev t x) (ρv x)) → OpOK P S o ρv C r h2) : LSpec P S n ops i .pure t h r h := by
 refine ⟨K.lt, K.dst, fun _ => rfl, fun t2 h2 C a hl hh A Q N hN => ?_⟩
 obtain ⟨o, ho, hop, hg, hd⟩ := K.at_
 have hl' := hl o ho
 unfold wpOp
 rw [ho]
 simp only [guard_wanted hg hl' A, if_true]
 refine .inl ?_
 have hev : ∀ y ∈ op.operands, VRel S C (ev t y) (a.eval y) := by
  intro y hy
  have h1 := A.ev y
  have h2 := looks_op (hop ▸ hy) hl'
  cases y with
  | tmp j =>
   have := h2 j rfl
   simp only [evF] at h1
   rw [this] at h1
   exact h1
  | const v => exact h1
  | func g => exact h1
  | global g => exact h1
 obtain ⟨C', st, H', hr⟩ := hrun o a.eval C h2 hop A.heap (fun _ => rfl) hev
 unfold Oper.wp
 rcases hr with ⟨v, h1, h2⟩ | ⟨h1, h2⟩
 ·rw [h1]
  have := hN C' v st h2 (by simpa using H')
  rw [ho] at this
  exact this
 ·rw [h1]
  have := hN C' undef st (by rw [h2]; trivial) (by simpa using H')
  rw [ho] at this
  exact this
theorem run_eqNil (t e : TypeId) (a : Option Addr) (l c : Nat) (w : World) (h : P.underlying t = some (.slice e)) : (binOp .eql t (.slice a l c) (.slice none 0 0)).run P w = .ok (.bool a.isNone) w := by
 simp only [binOp]
 simp [run_equal_slice_nil w t e a l c h]
def nilEqE (G : Tab) (n : Nat) (ops : Array Oper) (i : Nat) (t : Tmps) : Option (Option Addr × Nat × Nat) :=
 match opAt n ops i t with
 | some (.binOp .eql xt x (.const (.slice none 0 0)) _) =>
  match G.kind xt, ev t x with
  | .slice _, .sc (.slice p n c) => some (p, n, c)
  | _, _ => none
 | _ => none
theorem LSpec.nilEq (hG : G.ok P) {i : Nat} {t : Tmps} {h : List AO} {p : Option Addr} {l c : Nat} (q : nilEqE G n ops i t = some (p, l, c)) : LSpec P G.S n ops i .pure t h (.sc (.bool p.isNone)) h := by
 unfold nilEqE at q
 split at q
 ·rename_i xt x yt hop
  split at q
  ·rename_i e p' n' c' hk hx
   injection q with q
   injection q with q1 q
   injection q with q2 q3
   subst q1; subst q2; subst q3
   refine (opAt_spec hop).specC fun o ρv C h2 ho H hcst hρ => ?_
   have hxv := hρ x (by simp [Op.operands])
   rw [hx] at hxv
   have hxv := sc_inv hxv
   obtain ⟨d, hd, hf⟩ := kind_desc hG hk (by simp)
   simp only [TK.fits] at hf
   subst hf
   obtain ⟨dst, op, oty, pos, after, guard⟩ := o
   simp only at ho
   subst ho
   refine OpOK.same (v := .bool p'.isNone) H ?_ ⟨rfl, rfl⟩
   simp only [execOp, hxv, hcst, Sem.run_bind]
   have hgd : (eqGuard .eql xt x (.const (.slice none 0 0)) (.slice p' n' c') (.slice none 0 0)).run P C.w = .ok () C.w := by simp [eqGuard]
   simp only [hgd, Result.andThen_ok, run_eqNil xt _ p' n' c' C.w hd, Sem.run_pure]
  ·cases q
 ·cases q
def neNilE (G : Tab) (n : Nat) (ops : Array Oper) (i : Nat) (t : Tmps) : Bool :=
 match opAt n ops i t with
 | some (.binOp .eql xt x (.const (.slice none 0 0)) _) =>
  match G.kind xt, ev t x with
  | .slice _, .sl _ (_ :: _) _ => true
  | _, _ => false
 | _ => false
theorem LSpec.neNil (hG : G.ok P) {i : Nat} {t : Tmps} {h : List AO} (q : neNilE G n ops i t = true) : LSpec P G.S n ops i .pure t h (.sc (.bool false)) h := by
 unfold neNilE at q
 split at q
 ·rename_i xt x yt hop
  split at q
  ·rename_i e e' a r f hk hx
   refine (opAt_spec hop).specC fun o ρv C h2 ho H hcst hρ => ?_
   have hxv := hρ x (by simp [Op.operands])
   rw [hx] at hxv
   obtain ⟨p, c, s1, s2, s3, s4, s5, s6⟩ := sl_inv hxv
   obtain ⟨d, hd, hf⟩ := kind_desc hG hk (by simp)
   simp only [TK.fits] at hf
   subst hf
   obtain ⟨dst, op, oty, pos, after, guard⟩ := o
   simp only at ho
   subst ho
   rcases s6 with s6 | ⟨b, off, s6, _, _⟩
   ·cases s6
   ·subst s6
    refine OpOK.same (v := .bool false) H ?_ ⟨rfl, rfl⟩
    simp only [execOp, s1, hcst, Sem.run_bind]
    have hgd : (eqGuard .eql xt x (.const (.slice none 0 0)) (.slice (some ⟨b, off, none⟩) (a :: r).length c) (.slice none 0 0)).run P C.w = .ok () C.w := by simp [eqGuard]
    simp only [hgd, Result.andThen_ok, run_eqNil xt _ _ _ _ C.w hd, Sem.run_pure]
    rfl
  ·cases q
 ·cases q
def app0E (G : Tab) (n : Nat) (ops : Array Oper) (i : Nat) (t : Tmps) : Option (TypeId × List AV × Bool) :=
 match opAt n ops i t with
 | some (.call { callee := .builtin .append, args := xs, argTypes := ts }) =>
  match xs.toList, ts.toList with
  | [x, y], [ty, ty'] =>
   match G.kind ty, ev t x, ev t y with
   | .slice e, .sl e0 rows f, .sc (.slice _ 0 _) => if ty = ty' ∧ (G.get e).isSome = true then some (e0, rows, f) else none
   | _, _, _ => none
  | _, _ => none
 | _ => none
theorem LSpec.app0 (hG : G.ok P) {i : Nat} {t : Tmps} {h : List AO} {e0 : TypeId} {rows : List AV} {f : Bool} (q : app0E G n ops i t = some (e0, rows, f)) : LSpec P G.S n ops i .pure t h (.sl e0 rows f) h := by
 unfold app0E at q
 split at q
 ·rename_i xs ts hop
  split at q
  ·rename_i x y ty ty' hxs hts
   split at q
   ·rename_i e e1 rows' f' p c hk hx hy
    split at q
    ·rename_i hh
     obtain ⟨hty, he⟩ := hh
     injection q with q
     injection q with q1 q
     injection q with q2 q3
     subst q1; subst q2; subst q3; subst hty
     have hxs' : xs = #[x, y] := by apply Array.ext'; simpa using hxs
     have hts' : ts = #[ty, ty] := by apply Array.ext'; simpa using hts
     subst hxs'; subst hts'
     refine (opAt_spec hop).specC fun o ρv C h2 ho H hcst hρ => ?_
     have hxv := hρ x (by simp [Op.operands, Call.operands])
     have hyv := hρ y (by simp [Op.operands, Call.operands])
     rw [hx] at hxv
     rw [hy] at hyv
     have hyv := sc_inv hyv
     obtain ⟨a, c', s1, s2, s3, s4, s5, s6⟩ := sl_inv hxv
     obtain ⟨d, hd, hf⟩ := kind_desc hG hk (by simp)
     simp only [TK.fits] at hf
     subst hf
     obtain ⟨ei, hei⟩ := Option.isSome_iff_exists.1 he
     obtain ⟨inf, z, k1, _⟩ := (hG e ei hei).info
     obtain ⟨dst, op, oty, pos, after, guard⟩ := o
     simp only at ho
     subst ho
     refine OpOK.same (v := ρv x) H ?_ hxv
     have := append_zero (P := P) (w := C.w) (ty := oty) hd k1 (base := a) (A := p) (n := rows'.length) (c := c') (c2 := c) s2
     simp only [execOp, resolve, Sem.run_bind, Sem.run_pure, Result.andThen_ok, invoke, builtin, List.map_toArray, List.map_cons, List.map_nil, s1, hyv, this]
    ·cases q
   ·cases q
  ·cases q
 ·cases q
theorem ACalls.empty {S : Sizes} {f : FuncId} {e : TypeId} {fl : Bool} {h h' : List AO} {r : AV} (hE : Ent P f) (A : ∀ p c, ACalls P S f [.sc (.slice p 0 c)] h r h') : ACalls P S f [.sl e [] fl] h r h' := by
 refine ⟨hE, fun C vals H hv => ?_⟩
 have hv0 := hv
 generalize hl : vals.toList = l at hv
 cases hv with
 | cons h1 h2 =>
  rename_i v vs
  cases h2
  obtain ⟨p, c, s1, s2, s3, s4, s5, s6⟩ := sl_inv (C := C) (S := S) h1
  refine (A p c).2 C vals H ?_
  rw [hl, s1]
  exact .cons ⟨rfl, rfl⟩ .nil
end Go.Sh
namespace Go.Sh
variable {P : Program} {G : Tab} {F : Fn} {c0 : Ctx} {R : Ending → World → Prop}
end Go.Sh
namespace Go.Sh
variable {P : Program} {G : Tab} {S : Sizes} {n : Nat} {ops : Array Oper}
def reqO {α : Type} (c : Bool) (r : Option α) : Option α := bif c then r else none
theorem reqO_some {α : Type} {c : Bool} {r : Option α} {x : α} (h : reqO c r = some x) : c = true ∧ r = some x := by
 cases c
 ·cases h
 ·exact ⟨rfl, h⟩
def binE (n : Nat) (ops : Array Oper) (i : Nat) (t : Tmps) (op : BinOp) : Option (IntKind × Int × IntKind × Int) :=
 match opAt n ops i t with
 | some (.binOp op' _ x y _) =>
  match ev t x, ev t y with
  | .sc (.int k a), .sc (.int k' b) => if op' = op then some (k, a, k', b) else none
  | _, _ => none
 | _ => none
theorem LSpec.bin {i : Nat} {t : Tmps} {h : List AO} {op : BinOp} {k k' : IntKind} {a b : Int} {v : Value} (q : binE n ops i t op = some (k, a, k', b)) (hv : ∀ (w : World) (xt : TypeId), (binOp op xt (.int k a) (.int k' b)).run P w = .ok v w) (h1 : v.oneCell' = true) : LSpec P S n ops i .pure t h (.sc v) h := by
 unfold binE at q
 split at q
 ·rename_i op' xt x y yt hop
  split at q
  ·rename_i k1 a1 k2 b1 hx hy
   split at q
   ·rename_i hop'
    injection q with q
    injection q with q1 q; injection q with q2 q; injection q with q3 q4
    subst q1; subst q2; subst q3; subst q4; subst hop'
    refine (opAt_spec hop).spec (fun _ => rfl) fun o ρv C h2 ho H _ hρ => ?_
    have hxv := hρ x (by simp [Op.operands])
    have hyv := hρ y (by simp [Op.operands])
    rw [hx] at hxv
    rw [hy] at hyv
    have hxv := sc_inv hxv
    have hyv := sc_inv hyv
    obtain ⟨dst, op, oty, pos, after, guard⟩ := o
    simp only at ho
    subst ho
    refine OpOK.same (v := v) (by simpa using H) ?_ ⟨rfl, h1⟩
    have hgd : (eqGuard op' xt x y (.int k1 a1) (.int k2 b1)).run P C.w = .ok () C.w := by cases op' <;> simp [eqGuard]
    simp only [execOp, hxv, hyv, Sem.run_bind, hgd, Result.andThen_ok, hv C.w xt, Sem.run_pure]
   ·cases q
  ·cases q
 ·cases q
theorem LSpec.shl {i : Nat} {t : Tmps} {h : List AO} {k k' : IntKind} {a b : Int} (hb : decide (0 ≤ b) = true) (q : binE n ops i t .shl = some (k, a, k', b)) : LSpec P S n ops i .pure t h (.sc (.int k (k.wrap (a * 2 ^ (min b.toNat k.bits))))) h := by
 refine LSpec.bin q (fun w xt => ?_) rfl
 have := of_decide_eq_true hb
 simp only [binOp, Op.shift]
 rw [if_neg (by omega)]
 simp
theorem LSpec.shr {i : Nat} {t : Tmps} {h : List AO} {k k' : IntKind} {a b : Int} (hb : decide (0 ≤ b) = true) (q : binE n ops i t .shr = some (k, a, k', b)) : LSpec P S n ops i .pure t h (.sc (.int k (a.fdiv (2 ^ (min b.toNat k.bits))))) h := by
 refine LSpec.bin q (fun w xt => ?_) rfl
 have := of_decide_eq_true hb
 simp only [binOp, Op.shift]
 rw [if_neg (by omega)]
 simp
def idxE (G : Tab) (n : Nat) (ops : Array Oper) (i : Nat) (t : Tmps) : Option (AV × Nat × Int) :=
 match opAt n ops i t with
 | some (.indexAddr ty x y) =>
  match G.kind ty, ev t y with
  | .arr m e, .sc (.int _ j) => match G.get e with | some ei => if ei.size = 1 then some (ev t x, m, j) else none | none => none
  | _, _ => none
 | _ => none
theorem LSpec.idxPtr (hG : G.ok P) {i : Nat} {t : Tmps} {h : List AO} {o off m : Nat} {j : Int} (hj : (decide (0 ≤ j) && decide (j < m)) = true) (q : idxE G n ops i t = some (.ptr o off none, m, j)) : LSpec P G.S n ops i .pure t h (.ptr o off (some (j.toNat, m))) h := by
 unfold idxE at q
 split at q
 ·rename_i ty x y hop
  split at q
  ·rename_i m' e k j' hk hy
   split at q
   ·rename_i ei he
    split at q
    ·rename_i hs
     injection q with q
     injection q with q1 q; injection q with q2 q3
     subst q2; subst q3
     simp only [Bool.and_eq_true, decide_eq_true_eq] at hj
     exact LSpec.indexArr hG hop hk he hs q1 hy hj.1 hj.2
    ·cases q
   ·cases q
  ·cases q
 ·cases q
theorem LSpec.idxEp (hG : G.ok P) {i : Nat} {t : Tmps} {h : List AO} {fs : List AV} {off m : Nat} {j : Int} (hj : (decide (0 ≤ j) && decide (j < m)) = true) (q : idxE G n ops i t = some (.ep fs off none, m, j)) : LSpec P G.S n ops i .pure t h (.ep fs off (some (j.toNat, m))) h := by
 unfold idxE at q
 split at q
 ·rename_i ty x y hop
  split at q
  ·rename_i m' e k j' hk hy
   split at q
   ·rename_i ei he
    split at q
    ·rename_i hs
     injection q with q
     injection q with q1 q; injection q with q2 q3
     subst q2; subst q3
     simp only [Bool.and_eq_true, decide_eq_true_eq] at hj
     refine (opAt_spec hop).spec (fun _ => rfl) fun op ρv C h2 ho H _ hρ => ?_
     have hxv := hρ x (by simp [Op.operands])
     have hyv := hρ y (by simp [Op.operands])
     rw [q1] at hxv
     rw [hy] at hyv
     have hyv := sc_inv hyv
     obtain ⟨b, o0, cells, r1, r2, r3, r4, r5, r6⟩ := (hxv : RelV G.S C (.ep fs off none) [ρv x])
     have r1 : ρv x = .pointer (some ⟨b, o0 + (off + ixo none), none⟩) := by simpa using r1
     obtain ⟨d, hd, hf⟩ := kind_desc hG hk (by simp)
     simp only [TK.fits] at hf
     subst hf
     obtain ⟨dst, op, oty, pos, after, guard⟩ := op
     simp only at ho
     subst ho
     refine OpOK.same (v := .pointer (some ⟨b, o0 + (off + j'.toNat), none⟩)) (by simpa using H) ?_ ⟨b, o0, cells, rfl, by simp only [ixok]; omega, r3, r4, r5, r6⟩
     simp only [ixo, Nat.add_zero] at r1
     simp only [execOp, Instr.indexAt, hyv, asIntOf, Sem.run_bind, Sem.run_pure, Result.andThen_ok, run_underlying hd, r1, Instr.sureAddr]
     rw [if_pos ⟨hj.1, hj.2⟩]
     simp only [Sem.run_bind, run_size (hG e ei he), Result.andThen_ok, Sem.run_pure, addr_add, hs, Nat.mul_one, Nat.add_assoc]
    ·cases q
   ·cases q
  ·cases q
 ·cases q
def idxVE (G : Tab) (n : Nat) (ops : Array Oper) (i : Nat) (t : Tmps) : Option (IntKind × Nat × List Int × Int) :=
 match opAt n ops i t with
 | some (.index ty x y) =>
  match G.kind ty, ev t x, ev t y with
  | .arr m e, .arr k m' xs, .sc (.int _ j) => match G.get e with | some ei => if ei.size = 1 ∧ ei.kind.isAgg = false ∧ m = m' then some (k, m, xs, j) else none | none => none
  | _, _, _ => none
 | _ => none
theorem LSpec.idxVal (hG : G.ok P) {i : Nat} {t : Tmps} {h : List AO} {k : IntKind} {m : Nat} {xs : List Int} {j : Int} (hj : (decide (0 ≤ j) && decide (j < m)) = true) (q : idxVE G n ops i t = some (k, m, xs, j)) : LSpec P G.S n ops i .pure t h (.sc (.int k (xs.getD j.toNat 0))) h := by
 unfold idxVE at q
 split at q
 ·rename_i ty x y hop
  split at q
  ·rename_i m1 e k1 m2 xs1 k2 j1 hk hx hy
   split at q
   ·rename_i ei he
    split at q
    ·rename_i hs
     obtain ⟨hs, hna, hmm⟩ := hs
     injection q with q
     injection q with q1 q; injection q with q2 q; injection q with q3 q4
     subst q1; subst q2; subst q3; subst q4; subst hmm
     simp only [Bool.and_eq_true, decide_eq_true_eq] at hj
     refine (opAt_spec hop).spec (fun _ => rfl) fun op ρv C h2 ho H _ hρ => ?_
     have hxv := hρ x (by simp [Op.operands])
     have hyv := hρ y (by simp [Op.operands])
     rw [hx] at hxv
     rw [hy] at hyv
     have hyv := sc_inv hyv
     obtain ⟨r1, r2⟩ := hxv
     obtain ⟨d, hd, hf⟩ := kind_desc hG hk (by simp)
     simp only [TK.fits] at hf
     subst hf
     obtain ⟨dst, op, oty, pos, after, guard⟩ := op
     simp only at ho
     subst ho
     have hlt : j1.toNat < xs1.length := by omega
     refine OpOK.same (v := .int k1 (xs1.getD j1.toNat 0)) (by simpa using H) ?_ ⟨rfl, rfl⟩
     have hpart : (part e (xs1.map (Value.int k1)).toArray (j1.toNat * 1)).run P C.w = .ok (.int k1 (xs1.getD j1.toNat 0)) C.w := by
      unfold part
      simp only [Sem.run_bind, run_isAgg (hG e ei he), Result.andThen_ok, hna, Bool.false_eq_true, if_false, Nat.mul_one]
      have : ((xs1.map (Value.int k1)).toArray)[j1.toNat]? = some (.int k1 (xs1.getD j1.toNat 0)) := by
       rw [List.getElem?_toArray, List.getElem?_map, List.getD_eq_getElem?_getD, List.getElem?_eq_getElem hlt]
       rfl
      rw [this]
      rfl
     simp only [execOp, Instr.index, hyv, asIntOf, Sem.run_bind, Sem.run_pure, Result.andThen_ok, run_underlying hd, r2]
     rw [if_pos ⟨hj.1, hj.2⟩]
     simp only [Sem.run_bind, run_size (hG e ei he), Result.andThen_ok, hs, hpart, Sem.run_pure]
    ·cases q
   ·cases q
  ·cases q
 ·cases q
end Go.Sh
namespace Go.Sh
variable {P : Program} {G : Tab} {n : Nat} {ops : Array Oper}
def isU8 : TK → Bool
 | .int .u8 => true
 | _ => false
theorem isU8_spec {K : TK} (h : isU8 K = true) : K = .int .u8 := by
 unfold isU8 at h
 split at h
 ·rfl
 ·cases h
end Go.Sh
namespace Go.Sh
variable {P : Program} {G : Tab} {n : Nat} {ops : Array Oper}
def lendC (h : List AO) : AV → Option AV
 | .ptr o off ix =>
  match h[o]? with
  | some (.box _ fs) => if plainL fs && decide (0 < AV.sz.go fs) then some (.ep fs off ix) else none
  | _ => none
 | a => if plainA a then some a else none
def isFn : AV → Bool
 | .fn .. => true
 | _ => false
def lendG (S : Sizes) (h : List AO) : AV → Option AV
 | .fn f caps => some (.fn f caps)
 | a => if bslOk S a then conv h a else none
inductive LendL (h : List AO) : List AV → List AV → Prop
 | nil : LendL h [] []
 | same {a : AV} {aas bs : List AV} : isFn a = false → LendL h aas bs → LendL h (a :: aas) (a :: bs)
 | fn {f : FuncId} {caps caps' aas bs : List AV} : caps.mapM (lendC h) = some caps' → LendL h aas bs → LendL h (.fn f caps :: aas) (.fn f caps' :: bs)
theorem lendC_rel {S : Sizes} {C : Ctx} {h : List AO} (H : HRel S C h) {a a' : AV} {cs : List Value} (hc : lendC h a = some a') (r : RelV S C a cs) : RelV S ⟨C.w, [], C.X⟩ a' cs := by
 have U := under_noSlots C C.X (fun b hb => .inl hb) (Keep.le_refl _)
 unfold lendC at hc
 split at hc
 ·rename_i o off ix
  split at hc
  ·rename_i e fs ho
   split at hc
   ·rename_i hp
    injection hc with hc
    subst hc
    simp only [Bool.and_eq_true, decide_eq_true_eq] at hp
    obtain ⟨b, k1, k2, k3⟩ := r
    obtain ⟨cells, h1, h2⟩ := box_rel H ho k1
    have hl := RelL.len fs _ h2
    refine ⟨b, 0, cells.toList, by rw [k3, Nat.zero_add], k2, .inl ⟨⟨H.nX _ (List.mem_iff_getElem?.2 ⟨o, k1⟩) b rfl, by simp⟩, fun _ => unfz_cells h1 (.inl rfl)⟩, ?_, ?_, ?_⟩
    ·have UF : Under C (Ctx.flat ⟨C.w, [], C.X⟩) := ⟨rfl, fun b hb => (Ctx.flat_ok ⟨C.w, [], C.X⟩ b).2 (U.ok b hb), ⟨fun _ h => h, Nat.le_refl _⟩⟩
     exact RelL.plain UF fs _ hp.1 h2
    ·intro e0
     rw [e0] at hl
     simp at hl
     omega
    ·intro j v hj
     rw [Nat.zero_add]
     show C.w.cell? _ = _
     rw [cell_of_heap h1]
     simpa using hj
   ·cases hc
  ·cases hc
 ·split at hc
  ·rename_i hp
   injection hc with hc
   subst hc
   exact RelV.plain U _ _ hp r
  ·cases hc
theorem lendC_relL {S : Sizes} {C : Ctx} {h : List AO} (H : HRel S C h) : ∀ (caps caps' : List AV) (cs : List Value), caps.mapM (lendC h) = some caps' → RelL S C caps cs → RelL S ⟨C.w, [], C.X⟩ caps' cs
 | [], caps', cs, hc, r => by
  have : caps' = [] := by simpa using hc.symm
  subst this
  exact r
 | a :: aas, caps', cs, hc, r => by
  simp only [List.mapM_cons] at hc
  obtain ⟨b, h1, h2⟩ := Option.bind_eq_some_iff.1 hc
  obtain ⟨bs, h3, h4⟩ := Option.bind_eq_some_iff.1 h2
  injection h4 with h4
  subst h4
  obtain ⟨c1, c2, rfl, r1, r2⟩ := r
  exact ⟨c1, c2, rfl, lendC_rel H h1 r1, lendC_relL H aas bs c2 h3 r2⟩
theorem lendC_plain {h : List AO} : ∀ (caps : List AV), plainL caps = true → caps.mapM (lendC h) = some caps
 | [], _ => rfl
 | a :: aas, hp => by
  simp only [plainL, Bool.and_eq_true] at hp
  rw [List.mapM_cons, lendC_plain aas hp.2]
  have : lendC h a = some a := by
   unfold lendC
   cases a <;> first | (exfalso; simp [plainA] at hp; done) | exact if_pos hp.1
  rw [this]
  rfl
theorem lendL_rel {S : Sizes} {C : Ctx} {h : List AO} (H : HRel S C h) {t : Tmps} {ρv : Operand → Value} {avs bvs : List AV} (L : LendL h avs bvs) : ∀ (xs : List Operand), (xs.map (ev t)).mapM (lendG S h) = some avs → (∀ x ∈ xs, VRel S C (ev t x) (ρv x)) → VRels S ⟨C.w, [], C.X⟩ bvs (xs.map ρv) := by
 induction L with
 | nil =>
  intro xs e _
  cases xs with
  | nil => exact .nil
  | cons x xs =>
   simp only [List.map_cons, List.mapM_cons] at e
   obtain ⟨b, h1, h2⟩ := Option.bind_eq_some_iff.1 e
   obtain ⟨bs, h3, h4⟩ := Option.bind_eq_some_iff.1 h2
   cases h4
 | @same a aas bs hf _ ih =>
  intro xs e hr
  cases xs with
  | nil => cases e
  | cons x xs =>
   simp only [List.map_cons, List.mapM_cons] at e
   obtain ⟨b, h1, h2⟩ := Option.bind_eq_some_iff.1 e
   obtain ⟨cs, h3, h4⟩ := Option.bind_eq_some_iff.1 h2
   injection h4 with h4; injection h4 with e1 e2
   subst e1; subst e2
   refine .cons ?_ (ih xs h3 fun y hy => hr y (by simp [hy]))
   have hx := hr x (by simp)
   unfold lendG at h1
   split at h1
   ·rename_i f caps _
    injection h1 with h1
    subst h1
    simp [isFn] at hf
   ·split at h1
    ·rename_i hb
     refine conv_rel H (fun b hb => .inl hb) ⟨fun _ h => h, Nat.le_refl _⟩ h1 (fun e o off n he => ?_) (fun o k _ s b hs hsb => H.nX s (List.mem_iff_getElem?.2 ⟨o, hs⟩) b hsb) (fun e o off n _ s b hs hsb => H.nX s (List.mem_iff_getElem?.2 ⟨o, hs⟩) b hsb) hx
     rw [he] at hb
     simp only [bslOk, Bool.and_eq_true, beq_iff_eq, decide_eq_true_eq] at hb
     exact ⟨hb.1.1.1, hb.1.1.2, hb.1.2, hb.2⟩
    ·cases h1
 | @fn f caps caps' aas bs hc _ ih =>
  intro xs e hr
  cases xs with
  | nil => cases e
  | cons x xs =>
   simp only [List.map_cons, List.mapM_cons] at e
   obtain ⟨b, h1, h2⟩ := Option.bind_eq_some_iff.1 e
   obtain ⟨cs, h3, h4⟩ := Option.bind_eq_some_iff.1 h2
   injection h4 with h4; injection h4 with e1 e2
   subst e1; subst e2
   refine .cons ?_ (ih xs h3 fun y hy => hr y (by simp [hy]))
   have hx := hr x (by simp)
   have hq : ev t x = .fn f caps := by
    unfold lendG at h1
    split at h1
    ·rename_i f' caps' hq
     injection h1 with h1; injection h1 with e1 e2
     subst e1; subst e2
     exact hq
    ·rename_i hq
     split at h1
     ·exfalso
      unfold conv at h1
      split at h1
      ·split at h1
       ·split at h1 <;> cases h1
       ·cases h1
      ·split at h1
       ·split at h1
        ·split at h1 <;> cases h1
        ·cases h1
       ·cases h1
      ·split at h1
       ·injection h1 with h1
        exact hq _ _ h1
       ·cases h1
     ·cases h1
   rw [hq] at hx
   obtain ⟨vs, h5, h6⟩ := (hx : RelV S C (.fn f caps) [ρv x])
   exact ⟨vs, h5, lendC_relL H caps caps' _ hc h6⟩
def oneA : AV → Bool
 | .agg _ | .arr .. | .u | .tup _ => false
 | _ => true
theorem VRels.of_caps {S : Sizes} {C : Ctx} : ∀ (caps : List AV) (cs : List Value), caps.all oneA = true → RelL S C caps cs → VRels S C caps cs
 | [], cs, _, r => by rw [show cs = [] from r]; exact .nil
 | a :: aas, cs, h1, r => by
  obtain ⟨c1, c2, rfl, r1, r2⟩ := r
  simp only [List.all_cons, Bool.and_eq_true] at h1
  have hl := RelV.len a c1 r1
  have hz : a.sz = 1 := by cases a <;> first | rfl | (simp [oneA] at h1; done)
  rw [hz] at hl
  match c1, hl, r1 with
  | [v], _, r1 =>
   refine .cons ?_ (VRels.of_caps aas c2 h1.2 r2)
   cases a <;> first | exact r1 | (simp [oneA] at h1; done)
theorem VRels.append {S : Sizes} {C : Ctx} {aas bs : List AV} {vs ws : List Value} (h1 : VRels S C aas vs) (h2 : VRels S C bs ws) : VRels S C (aas ++ bs) (vs ++ ws) := by
 induction h1 with
 | nil => exact h2
 | cons h _ ih => exact .cons h ih
structure CallAtC (n : Nat) (ops : Array Oper) (i : Nat) (t : Tmps) (f : FuncId) (xs : List Operand) (caps : List AV) : Prop where
 at_ : ∃ o x ts, ops[i]? = some o ∧ o.op = .call { callee := .value x, args := xs.toArray, argTypes := ts } ∧ guardA ops t o = some true ∧ dstOk n o.dst = true ∧ ev t x = .fn f caps
def callAtC (n : Nat) (ops : Array Oper) (i : Nat) (t : Tmps) : Option (FuncId × List Operand × List AV) :=
 match ops[i]? with
 | none => none
 | some o =>
  match o.op with
  | .call { callee := .value x, args := xs, argTypes := _ } =>
   match guardA ops t o, ev t x with
   | some true, .fn f caps => if dstOk n o.dst then some (f, xs.toList, caps) else none
   | _, _ => none
  | _ => none
theorem callAtC_spec {i : Nat} {t : Tmps} {f : FuncId} {xs : List Operand} {caps : List AV} (h : callAtC n ops i t = some (f, xs, caps)) : CallAtC n ops i t f xs caps := by
 unfold callAtC at h
 split at h
 ·cases h
 ·rename_i o ho
  split at h
  ·rename_i x ys ts hop
   split at h
   ·rename_i f' caps' hg hx
    split at h
    ·rename_i hd
     injection h with h; injection h with h1 h2; injection h2 with h2 h3
     subst h1; subst h2; subst h3
     exact ⟨o, x, ts, ho, by simpa using hop, hg, hd, hx⟩
    ·cases h
   ·cases h
  ·cases h
theorem CallAtC.wp {i : Nat} {t : Tmps} {f : FuncId} {xs : List Operand} {caps : List AV} (K : CallAtC n ops i t f xs caps) (hE : Ent P f) {S : Sizes} {t2 : Nat → AV} {h2 : List AO} {C : Ctx} {a : Act} (hl : ∀ o, ops[i]? = some o → ∀ x ∈ o.looksAt ops, t2 x = lk t x) (A : ARelF S C t2 h2 n a) {Q : Exit → Act → World → Prop} {N : Act → World → Prop}
  (hc : ∀ vs : Array Value, RelL S C caps vs.toList → (∀ x ∈ xs, VRel S C (ev t x) (a.eval x)) → Calls P f (xs.toArray.map a.eval ++ vs) C.w fun e w' => ∃ v, e = .returned v ∧ N (a.put ((ops[i]?).bind (·.dst)) v) w') : wpOp P ops Q i N a C.w := by
 obtain ⟨o, x, ts, ho, hop, hg, hd, hx⟩ := K.at_
 have hl' := hl o ho
 unfold wpOp
 rw [ho]
 simp only [guard_wanted hg hl' A, if_true]
 refine .inl ?_
 have hev : ∀ y ∈ o.op.operands, VRel S C (ev t y) (a.eval y) := by
  intro y hy
  have h1 := A.ev y
  have h2 := looks_op hy hl'
  cases y with
  | tmp j =>
   have := h2 j rfl
   simp only [evF] at h1
   rw [this] at h1
   exact h1
  | const v => exact h1
  | func g => exact h1
  | global g => exact h1
 have hxm : x ∈ o.op.operands := by rw [hop]; simp [Op.operands, Call.operands]
 have hfv := hev x hxm
 rw [hx] at hfv
 obtain ⟨vs, hfv, hcaps⟩ := (hfv : RelV S C (.fn f caps) [a.eval x])
 have hfv : a.eval x = .func (.func f) #[] vs := by simpa using hfv
 obtain ⟨dst, op, oty, pos, after, guard⟩ := o
 simp only at hop
 subst hop
 unfold Oper.wp
 rw [run_call hE hfv]
 rw [Oper.upon_enter]
 rw [ho] at hc
 refine (hc vs hcaps fun y hy => hev y ?_).mono ?_
 ·simp only [Op.operands, Call.operands]
  exact Array.mem_append.2 (.inr (by simpa using hy))
 ·rintro e w' ⟨v, rfl, h⟩
  exact h
theorem CallAtC.lt {i : Nat} {t : Tmps} {f : FuncId} {xs : List Operand} {caps : List AV} (K : CallAtC n ops i t f xs caps) : i < ops.size := by
 obtain ⟨o, x, ts, ho, _⟩ := K.at_
 exact (Array.getElem?_eq_some_iff.1 ho).1
theorem CallAtC.dst {i : Nat} {t : Tmps} {f : FuncId} {xs : List Operand} {caps : List AV} (K : CallAtC n ops i t f xs caps) : ∀ d, (ops[i]?).bind (·.dst) = some d → d < n := by
 obtain ⟨o, x, ts, ho, _, _, hd, _⟩ := K.at_
 intro d h
 rw [ho] at h
 simp only [Option.bind_some] at h
 rw [h] at hd
 simpa [dstOk] using hd
def callEC (g : AV → Option AV) (n : Nat) (ops : Array Oper) (i : Nat) (t : Tmps) : Option (FuncId × List AV × List AV) :=
 match callAtC n ops i t with
 | some (f, xs, caps) =>
  match (xs.map (ev t)).mapM g with
  | some avs => some (f, avs, caps)
  | none => none
 | none => none
theorem callEC_spec {g : AV → Option AV} {i : Nat} {t : Tmps} {f : FuncId} {avs caps : List AV} (h : callEC g n ops i t = some (f, avs, caps)) : ∃ xs, callAtC n ops i t = some (f, xs, caps) ∧ (xs.map (ev t)).mapM g = some avs := by
 unfold callEC at h
 split at h
 ·rename_i f' xs caps' h1
  split at h
  ·rename_i avs' h2
   injection h with h; injection h with e1 h; injection h with e2 e3
   subst e1; subst e2; subst e3
   exact ⟨xs, h1, h2⟩
  ·cases h
 ·cases h
theorem LSpec.callF' {i : Nat} {t : Tmps} {h : List AO} {f : FuncId} {avs bvs caps caps' : List AV} {r : AV} (hc : ACalls P G.S f (bvs ++ caps') [] r []) (e : callEC (lendG G.S h) n ops i t = some (f, avs, caps)) (L : LendL h avs bvs) (hcs : caps.mapM (lendC h) = some caps') (h1 : caps'.all oneA = true) (hr : scalA r = true) : LSpec P G.S n ops i .read t h r h := by
 obtain ⟨xs, hk, ha⟩ := callEC_spec e
 have K := callAtC_spec hk
 refine ⟨K.lt, K.dst, fun _ => rfl, fun t2 h2 C a hl hh A Q N hN => K.wp hc.1 hl A fun vs hvs hev => ?_⟩
 have hh := hh (by simp)
 subst hh
 have hargs : VRels G.S ⟨C.w, [], C.X⟩ bvs (xs.map a.eval) := lendL_rel A.heap L xs ha hev
 have hcaps : VRels G.S ⟨C.w, [], C.X⟩ caps' vs.toList := VRels.of_caps _ _ h1 (lendC_relL A.heap caps caps' _ hcs hvs)
 refine (hc.2 ⟨C.w, [], C.X⟩ _ (HRel.nil A.heap.Xlt) (by simpa using hargs.append hcaps)).mono ?_
 rintro e w' ⟨v, C', rfl, rfl, st, H', hv⟩
 refine ⟨v, rfl, ?_⟩
 have hkept : Kept C ⟨C'.w, C.m, C.X⟩ := ⟨st.os, st.tape, st.output, st.size, fun b hb => st.block b hb (by simp), rfl, rfl⟩
 exact hN ⟨C'.w, C.m, C.X⟩ v hkept.toStep (hv.scal hr) (by simpa using A.heap.kept hkept)
theorem LSpec.callFP' {i : Nat} {t : Tmps} {h : List AO} {f : FuncId} {avs caps : List AV} {r : AV} (hc : ACalls P G.S f (avs ++ caps) [] r []) (e : callEC plainO n ops i t = some (f, avs, caps)) (hp : plainL caps = true) (h1 : caps.all oneA = true) : LSpec P G.S n ops i .pure t h r h := by
 obtain ⟨xs, hk, ha⟩ := callEC_spec e
 have K := callAtC_spec hk
 refine ⟨K.lt, K.dst, fun _ => rfl, fun t2 h2 C a hl _ A Q N hN => K.wp hc.1 hl A fun vs hvs hev => ?_⟩
 have hargs : VRels G.S C.flat avs (xs.map a.eval) := VRels.of_map t (fun a b v hg hr => by
  unfold plainO at hg
  split at hg
  ·rename_i hp
   injection hg with hg
   subst hg
   have := hr.plain (Under.toFlat C) hp
   cases a with
   | tup vs => simp [plainA] at hp
   | _ => exact this
  ·cases hg) xs avs ha hev
 have hcaps : VRels G.S C.flat caps vs.toList := VRels.of_caps _ _ h1 (RelL.plain (Under.toFlat C) _ _ hp hvs)
 refine (hc.2 C.flat _ (HRel.nil (flat_lt A.heap)) (by simpa using hargs.append hcaps)).mono ?_
 rintro e w' ⟨v, C', rfl, rfl, st, H', hv⟩
 refine ⟨v, rfl, ?_⟩
 have hm' : C'.m = [] := List.eq_nil_of_length_eq_zero (by rw [H'.len]; rfl)
 have hkept : Kept C ⟨C'.w, C.m, C.X⟩ := ⟨st.os, st.tape, st.output, st.size, fun b hb => st.block b hb (by simp [Ctx.flat]), rfl, rfl⟩
 have hmono : Mono C' ⟨C'.w, C.m, C.X⟩ := by
  refine ⟨Nat.le_refl _, fun _ _ _ => rfl, fun b _ ho => ?_, fun o s hs => by rw [hm'] at hs; simp at hs, fun _ _ _ => rfl, by rw [st.X]; exact ⟨fun _ h => h, Nat.le_refl _⟩⟩
  have hX : C'.X = C.flat.X := st.X
  unfold Ctx.ok at *
  rw [hX] at ho
  exact ⟨fun hx => ho.1 (.inl hx), fun s hs e => ho.1 (.inr ⟨s, hs, e⟩)⟩
 exact hN ⟨C'.w, C.m, C.X⟩ v hkept.toStep (hv.mono hmono) (by simpa using A.heap.kept hkept)
end Go.Sh
namespace Go.Sh
variable {P : Program} {G : Tab} {S : Sizes}
def sumG {E α β : Type} (w : α → β) (x : Sum E α) (f : E → β) : β := match x with | .inl v => f v | .inr r => w r
theorem sumG_eq {E α β : Type} {w : α → β} {x : Sum E α} {f : E → β} {res : β} (h : sumG w x f = res) : (∃ v, x = .inl v ∧ f v = res) ∨ ∃ r, x = .inr r ∧ w r = res := by
 cases x with
 | inl v => exact .inl ⟨v, rfl, h⟩
 | inr r => exact .inr ⟨r, rfl, h⟩
def letT {α β : Type} (x : α) (f : α → β) : β := f x
theorem idx_in {i n : Nat} (m : Nat) (h : i < n) (hm : n ≤ m) : (decide (0 ≤ ((i : Nat) : Int)) && decide (((i : Nat) : Int) < ((m : Nat) : Int))) = true := by
 rw [Bool.and_eq_true, decide_eq_true_eq, decide_eq_true_eq]
 omega
theorem drop_cons {α : Type} {l r : List α} {x : α} {i : Nat} (h : l.drop i = x :: r) : i < l.length ∧ ixO l ((i : Nat) : Int) = some x ∧ l.drop (i + 1) = r := by
 have hlt : i < l.length := by
  rcases Nat.lt_or_ge i l.length with h1 | h1
  ·exact h1
  ·rw [List.drop_eq_nil_of_le h1] at h; cases h
 rw [List.drop_eq_getElem_cons hlt] at h
 injection h with h1 h2
 refine ⟨hlt, ?_, h2⟩
 unfold ixO
 rw [if_pos (Int.natCast_nonneg i), Int.toNat_natCast, List.getElem?_eq_getElem hlt, h1]
theorem wrapI_eq {n : Int} (h1 : -9223372036854775808 ≤ n) (h2 : n ≤ 9223372036854775807) : IntKind.i64.wrap n = n := by
 rw [IntKind.wrap_i64]; omega
theorem wrapI_succ {i : Nat} (h : i < 9223372036854775807) : IntKind.i64.wrap (((i : Nat) : Int) + 1) = ((i + 1 : Nat) : Int) := by
 rw [wrapI_eq (n := ((i : Nat) : Int) + 1) (by omega) (by omega)]; rfl
theorem len_ok {n : Nat} (h : n ≤ maxLen) : n ≤ 9223372036854775807 := h
end Go.Sh
namespace Go.Sh
variable {P : Program} {G : Tab} {n : Nat} {ops : Array Oper}
theorem part_sound (hG : G.ok P) {C : Ctx} {fs : List AV} {cs : Array Value} (hr : RelL G.S C fs cs.toList) {ty : TypeId} {off : Nat} {r : AV} (h : loadA G ty fs off none = some r) (w : World) :
  ∃ v, (part ty cs off).run P w = .ok v w ∧ VRel G.S C r v := by
 unfold loadA at h
 cases hg : G.get ty with
 | none => rw [hg] at h; cases h
 | some i =>
  rw [hg] at h
  have hf := hG ty i hg
  obtain ⟨gs, h1, h2⟩ := Option.bind_eq_some_iff.1 h
  unfold subC at h1
  obtain ⟨ds, h3, h4⟩ := Option.bind_eq_some_iff.1 h1
  obtain ⟨k1, k2⟩ := hr.drop _ _ _ _ h3
  obtain ⟨k3, k4⟩ := k2.take _ _ _ _ h4
  by_cases ha : i.kind.isAgg = true
  ·have hrun : (part ty cs off).run P w = .ok (.agg (cs.extract off (off + i.size))) w := by
    unfold part
    simp only [Sem.run_bind, run_isAgg hf, ha, if_true, Result.andThen_ok, run_size hf, Sem.run_pure]
   have he : (cs.extract off (off + i.size)).toList = (cs.toList.drop off).take i.size := by
    rw [Array.toList_extract, List.extract_eq_take_drop, Nat.add_sub_cancel_left]
   refine ⟨_, hrun, ?_⟩
   unfold toV at h2
   rw [if_pos ha] at h2
   split at h2
   ·injection h2 with h2
    subst h2
    exact mkAgg_rel (fs := [.arr _ _ _]) (by rw [he]; exact k4)
   ·injection h2 with h2
    subst h2
    exact ⟨_, rfl, by rw [he]; exact k4⟩
  ·have ha' : i.kind.isAgg = false := by simpa using ha
   unfold toV at h2
   rw [if_neg ha] at h2
   split at h2
   ·cases h2
   ·cases h2
   ·rename_i a hna hnb
    injection h2 with h2
    subst h2
    have hra := RelL_one.1 k4
    have hs : a.single = true := by
     cases a <;> first | rfl | (exact absurd rfl (hna _ _ _)) | (exact absurd rfl (hnb _)) | exact hra.elim
    obtain ⟨v, hv⟩ := hra.single hs
    have h0 : cs[off]? = some v := by
     have : ((cs.toList.drop off).take i.size)[0]? = some v := by rw [hv]; rfl
     rw [List.getElem?_take] at this
     split at this
     ·rw [List.getElem?_drop, Nat.add_zero] at this
      simpa using this
     ·cases this
    refine ⟨v, ?_, ?_⟩
    ·unfold part
     simp only [Sem.run_bind, run_isAgg hf, ha', Bool.false_eq_true, if_false, Result.andThen_ok, h0, Sem.run_pure]
    ·rw [VRel_single hs]
     rw [hv] at hra
     exact hra
   ·cases h2
def aggOf : AV → Option (List AV)
 | .agg fs => some fs
 | .arr k n xs => some [.arr k n xs]
 | _ => none
theorem aggOf_inv {S : Sizes} {C : Ctx} {a : AV} {fs : List AV} {v : Value} (h : aggOf a = some fs) (r : VRel S C a v) : ∃ cs, v = .agg cs ∧ RelL S C fs cs.toList := by
 unfold aggOf at h
 split at h
 ·injection h with h; subst h
  exact r
 ·injection h with h; subst h
  obtain ⟨h1, rfl⟩ := r
  exact ⟨_, rfl, RelL_one.2 ⟨h1, by simp⟩⟩
 ·cases h
def fieldE (G : Tab) (n : Nat) (ops : Array Oper) (i : Nat) (t : Tmps) : Option AV :=
 match opAt n ops i t with
 | some (.field s x f) =>
  match G.kind s, aggOf (ev t x) with
  | .struct fl, some fs => (fl[f]?).bind fun p => loadA G p.2 fs p.1 none
  | _, _ => none
 | _ => none
theorem LSpec.field (hG : G.ok P) {i : Nat} {t : Tmps} {h : List AO} {r : AV} (q : fieldE G n ops i t = some r) : LSpec P G.S n ops i .pure t h r h := by
 unfold fieldE at q
 split at q
 ·rename_i s x f hop
  split at q
  ·rename_i fl fs hk hx
   obtain ⟨p, hp, hl⟩ := Option.bind_eq_some_iff.1 q
   refine (opAt_spec hop).spec (fun _ => rfl) fun op ρv C h2 ho H _ hρ => ?_
   obtain ⟨cs, hv, hr⟩ := aggOf_inv hx (hρ x (by simp [Op.operands]))
   obtain ⟨d, hd, hf⟩ := kind_desc hG hk (by simp)
   obtain ⟨fs', rfl, hfl⟩ := hf
   obtain ⟨dst, op, oty, pos, after, guard⟩ := op
   simp only at ho
   subst ho
   have hff : ∃ fd, fs'[f]? = some fd ∧ fd.offset = p.1 ∧ fd.type = p.2 := by
    rw [← hfl, List.getElem?_map, Array.getElem?_toList] at hp
    obtain ⟨fd, h1, h2⟩ := Option.map_eq_some_iff.1 hp
    exact ⟨fd, h1, by rw [← h2], by rw [← h2]⟩
   obtain ⟨fd, e1, e2, e3⟩ := hff
   obtain ⟨v, hrun, hrel⟩ := part_sound hG hr hl C.w
   refine OpOK.same (v := v) (by simpa using H) ?_ hrel
   simp only [execOp, Instr.field, Sem.run_bind, run_underlying hd, Result.andThen_ok, e1, hv, asAgg, Sem.run_pure, e2, e3, hrun]
  ·cases q
 ·cases q
theorem dropC_append : ∀ (a b : List AV) (k : Nat), (a.all fun x => decide (0 < x.sz)) = true → dropC (a ++ b) (AV.sz.go a + k) = dropC b k
 | [], b, k, _ => by simp [AV.sz.go]
 | f :: fs, b, k, h => by
  simp only [List.all_cons, Bool.and_eq_true, decide_eq_true_eq] at h
  obtain ⟨m, hm⟩ : ∃ m, AV.sz.go (f :: fs) + k = m + 1 := ⟨AV.sz.go (f :: fs) + k - 1, by simp only [AV.sz.go]; omega⟩
  rw [hm, List.cons_append, dropC, if_pos (by simp only [AV.sz.go] at hm; omega), ← dropC_append fs b k h.2]
  congr 1
  simp only [AV.sz.go] at hm
  omega
theorem takeC_append : ∀ (a b : List AV), (a.all fun x => decide (0 < x.sz)) = true → takeC (a ++ b) (AV.sz.go a) = some a
 | [], b, _ => by cases b <;> rfl
 | f :: fs, b, h => by
  simp only [List.all_cons, Bool.and_eq_true, decide_eq_true_eq] at h
  obtain ⟨m, hm⟩ : ∃ m, AV.sz.go (f :: fs) = m + 1 := ⟨AV.sz.go (f :: fs) - 1, by simp only [AV.sz.go]; omega⟩
  rw [hm, List.cons_append, takeC, if_pos (by simp only [AV.sz.go] at hm; omega), show m + 1 - f.sz = AV.sz.go fs by simp only [AV.sz.go] at hm; omega, takeC_append fs b h.2]
  rfl
theorem subC_rows {α : Type} (g : α → List AV) (sz : Nat) : ∀ (F : List α) (j : Nat) (r : α), (F.all fun x => decide (AV.sz.go (g x) = sz) && (g x).all fun a => decide (0 < a.sz)) = true → F[j]? = some r → subC (F.flatMap g) (j * sz) sz = some (g r)
 | x :: F, 0, r, h, hr => by
  simp only [List.all_cons, Bool.and_eq_true, decide_eq_true_eq] at h
  have : x = r := by simpa using hr
  subst this
  have h0 : dropC ((x :: F).flatMap g) 0 = some ((x :: F).flatMap g) := by cases (x :: F).flatMap g <;> rfl
  rw [Nat.zero_mul, subC, h0, Option.bind_some, List.flatMap_cons]
  have := takeC_append (g x) (F.flatMap g) (by simpa using h.1.2)
  rw [h.1.1] at this
  exact this
 | x :: F, j + 1, r, h, hr => by
  simp only [List.all_cons, Bool.and_eq_true, decide_eq_true_eq] at h
  have ih := subC_rows g sz F j r (by simpa using h.2) (by simpa using hr)
  unfold subC at ih ⊢
  have := dropC_append (g x) (F.flatMap g) (j * sz) (by simpa using h.1.2)
  rw [h.1.1] at this
  rw [List.flatMap_cons, Nat.succ_mul, Nat.add_comm, this]
  exact ih
 | [], _, _, _, hr => by simp at hr
def idxAE (G : Tab) (n : Nat) (ops : Array Oper) (i : Nat) (t : Tmps) : Option (List AV × Nat × Int × TypeId) :=
 match opAt n ops i t with
 | some (.index ty x y) =>
  match G.kind ty, ev t x, ev t y with
  | .arr m e, .agg fs, .sc (.int _ j) => some (fs, m, j, e)
  | _, _, _ => none
 | _ => none
theorem LSpec.idxRows (hG : G.ok P) {α : Type} (F : List α) (g : α → List AV) {i : Nat} {t : Tmps} {h : List AO} {m e : Nat} {j : Int} {r : α} {ei : TInfo} {rv : AV} (hr : ixO F j = some r) (q : idxAE G n ops i t = some (F.flatMap g, m, j, e)) (hm : F.length = m) (he : G.get e = some ei)
  (hs : (F.all fun x => decide (AV.sz.go (g x) = ei.size) && (g x).all fun a => decide (0 < a.sz)) = true) (hv : toV ei.kind.isAgg (g r) = some rv) : LSpec P G.S n ops i .pure t h rv h := by
 unfold idxAE at q
 split at q
 ·rename_i ty x y hop
  split at q
  ·rename_i m' e' fs k j' hk hx hy
   injection q with q
   injection q with q1 q; injection q with q2 q; injection q with q3 q4
   subst q1; subst q2; subst q3; subst q4
   unfold ixO at hr
   split at hr
   ·rename_i hj
    refine (opAt_spec hop).spec (fun _ => rfl) fun op ρv C h2 ho H _ hρ => ?_
    have hxv := hρ x (by simp [Op.operands])
    have hyv := hρ y (by simp [Op.operands])
    rw [hx] at hxv
    rw [hy] at hyv
    have hyv := sc_inv hyv
    obtain ⟨cs, hv1, hr1⟩ := hxv
    obtain ⟨d, hd, hf⟩ := kind_desc hG hk (by simp)
    simp only [TK.fits] at hf
    subst hf
    obtain ⟨dst, op, oty, pos, after, guard⟩ := op
    simp only at ho
    subst ho
    have hlt : j'.toNat < F.length := (List.getElem?_eq_some_iff.1 hr).1
    have hl : loadA G e' (F.flatMap g) (j'.toNat * ei.size) none = some rv := by
     unfold loadA
     rw [he]
     show (subC (F.flatMap g) (j'.toNat * ei.size) ei.size).bind (toV ei.kind.isAgg) = some rv
     rw [subC_rows g ei.size F j'.toNat r hs hr]
     exact hv
    obtain ⟨v, hrun, hrel⟩ := part_sound hG hr1 hl C.w
    refine OpOK.same (v := v) (by simpa using H) ?_ hrel
    simp only [execOp, Instr.index, hyv, asIntOf, Sem.run_bind, Sem.run_pure, Result.andThen_ok, run_underlying hd, hv1]
    rw [if_pos ⟨hj, by omega⟩]
    simp only [Sem.run_bind, run_size (hG e' ei he), Result.andThen_ok, hrun, Sem.run_pure]
   ·cases hr
  ·cases q
 ·cases q
def idxAE2 (G : Tab) (n : Nat) (ops : Array Oper) (i : Nat) (t : Tmps) : Option (List AV × Nat × Int × Nat) :=
 match idxAE G n ops i t with
 | some (fs, m, j, e) =>
  match G.get e with
  | some ei => if ei.kind.isAgg = true then some (fs, m, j, ei.size) else none
  | none => none
 | none => none
theorem LSpec.idxRows' (hG : G.ok P) {α : Type} (F : List α) (g : α → List AV) (sz : Nat) {i : Nat} {t : Tmps} {h : List AO} {m : Nat} {j : Int} {r : α} {rv : AV} (hr : ixO F j = some r) (q : idxAE2 G n ops i t = some (F.flatMap g, m, j, sz)) (hm : F.length = m)
  (hs : (F.all fun x => decide (AV.sz.go (g x) = sz) && (g x).all fun a => decide (0 < a.sz)) = true) (hv : toV true (g r) = some rv) : LSpec P G.S n ops i .pure t h rv h := by
 unfold idxAE2 at q
 split at q
 ·rename_i fs m' j' e hq
  split at q
  ·rename_i ei he
   split at q
   ·rename_i ha
    injection q with q
    injection q with q1 q; injection q with q2 q; injection q with q3 q4
    subst q1; subst q2; subst q3; subst q4
    exact LSpec.idxRows hG F g hr hq hm he hs (by rw [ha]; exact hv)
   ·cases q
  ·cases q
 ·cases q
end Go.Sh
namespace Go.Sh
variable {P : Program} {G : Tab} {n : Nat} {ops : Array Oper}
theorem take_add_append {α : Type} (a b : List α) (k : Nat) : (a ++ b).take (a.length + k) = a ++ b.take k := by
 rw [List.take_append, List.take_of_length_le (by omega), Nat.add_sub_cancel_left]
theorem drop_add_append {α : Type} (a b : List α) (k : Nat) : (a ++ b).drop (a.length + k) = b.drop k := by
 rw [List.drop_append, List.drop_eq_nil_of_le (by omega), Nat.add_sub_cancel_left, List.nil_append]
theorem RelF.put {S : Sizes} {C : Ctx} {sz : Nat} {r r' : AV} {fs fs' new : List AV} {off : Nat} {ncells : List Value} (hfs : chunks r = some fs) (hfs' : chunks r' = some fs') (hp : putC fs off new = some fs') (hn : RelL S C new ncells) : ∀ (rows : List AV) (cells : List Value) (i : Nat), RelF S C sz rows cells → rows[i]? = some r →
  i * sz + off + ncells.length ≤ cells.length ∧ RelF S C sz (rows.set i r') (cells.take (i * sz + off) ++ ncells ++ cells.drop (i * sz + off + ncells.length))
 | x :: rows, cells, 0, hr, hi => by
  obtain ⟨c1, c2, rfl, h2, h3, h4⟩ := hr
  have : x = r := by simpa using hi
  subst this
  obtain ⟨k1, k2⟩ := putC_rel (chunks_relV hfs h2) hn hp
  have e1 : (c1 ++ c2).take (0 * sz + off) = c1.take off := by rw [Nat.zero_mul, Nat.zero_add, List.take_append, show off - c1.length = 0 by omega, List.take_zero, List.append_nil]
  have e2 : (c1 ++ c2).drop (0 * sz + off + ncells.length) = c1.drop (off + ncells.length) ++ c2 := by rw [Nat.zero_mul, Nat.zero_add, List.drop_append, show off + ncells.length - c1.length = 0 by omega, List.drop_zero]
  refine ⟨by rw [List.length_append]; omega, ?_⟩
  rw [e1, e2, ← List.append_assoc]
  refine ⟨_, c2, rfl, chunks_back hfs' k2, ?_, h4⟩
  simp only [List.length_append, List.length_take, List.length_drop]
  omega
 | x :: rows, cells, i + 1, hr, hi => by
  obtain ⟨c1, c2, rfl, h2, h3, h4⟩ := hr
  obtain ⟨k1, k2⟩ := RelF.put hfs hfs' hp hn rows c2 i h4 (by simpa using hi)
  have e0 : (i + 1) * sz + off = c1.length + (i * sz + off) := by rw [h3, Nat.succ_mul]; omega
  rw [e0, take_add_append, Nat.add_assoc, drop_add_append]
  refine ⟨by rw [List.length_append]; omega, c1, _, by rw [List.append_assoc, List.append_assoc, ← List.append_assoc (c2.take _)], h2, h3, k2⟩
 | [], _, _, _, hi => by simp at hi
theorem splice_take {α : Type} (L vs : List α) (p N : Nat) (h : p + vs.length ≤ N) (hN : N ≤ L.length) : (L.take p ++ vs ++ L.drop (p + vs.length)).take N = (L.take N).take p ++ vs ++ (L.take N).drop (p + vs.length) := by
 have hl : (L.take p).length = p := by rw [List.length_take]; omega
 obtain ⟨m, rfl⟩ : ∃ m, N = p + (vs.length + m) := ⟨N - p - vs.length, by omega⟩
 rw [List.append_assoc]
 conv => lhs; rw [show p + (vs.length + m) = (L.take p).length + (vs.length + m) by rw [hl]]
 rw [take_add_append, take_add_append, List.take_take, Nat.min_eq_left (by omega), List.drop_take, List.append_assoc]
 congr 3
 omega
def storeEE (G : Tab) (n : Nat) (ops : Array Oper) (i : Nat) (t : Tmps) (h : List AO) : Option (TypeId × TypeId × Nat × Nat × List AV × Nat × Nat × AV) :=
 match opAt n ops i t with
 | some (.store ty x y) =>
  match ev t x with
  | .el e o k j off =>
   match h[o]? with
   | some (.row e' rows k' true) => if e = e' ∧ k = k' ∧ 1000000 ≤ k then some (ty, e, o, k, rows, j, off, ev t y) else none
   | _ => none
  | _ => none
 | _ => none
theorem LSpec.storeEl (hG : G.ok P) {i : Nat} {t : Tmps} {h : List AO} {ty e o k : Nat} {rows : List AV} {j off : Nat} {r r' a : AV} {fs fs' : List AV} (q : storeEE G n ops i t h = some (ty, e, o, k, rows, j, off, a)) (hr : rows[j]? = some r) (hfs : chunks r = some fs) (ha : (match chunks a with | some new => plainL new | none => false) = true)
  (hs : storeA G ty fs off none a = some fs') (hfs' : chunks r' = some fs') : LSpec P G.S n ops i .loud t h .u (h.set o (.row e (rows.set j r') k true)) := by
 unfold storeEE at q
 split at q
 ·rename_i ty1 x y hop
  split at q
  ·rename_i e1 o1 k1 j1 off1 hx
   split at q
   ·rename_i e2 rows1 k2 ho
    split at q
    ·rename_i hh
     obtain ⟨q1, q2, q3⟩ := hh
     injection q with q
     injection q with p1 q; injection q with p2 q; injection q with p3 q; injection q with p4 q; injection q with p5 q; injection q with p6 q; injection q with p7 p8
     subst q1; subst q2; subst p1; subst p2; subst p3; subst p4; subst p5; subst p6; subst p7; subst p8
     refine (opAt_spec hop).spec (fun hh => absurd rfl hh) fun op ρv C h2 hoq H hh hρ => ?_
     have hh := hh (by simp)
     subst hh
     have hxv := hρ x (by simp [Op.operands])
     have hyv := hρ y (by simp [Op.operands])
     rw [hx] at hxv
     obtain ⟨v0, kk, mn, r1, r2, r3, r4⟩ := el_inv hxv
     obtain ⟨o1', o2, o3, o4, o5⟩ := H.rel o1 _ _ ho r2
     obtain ⟨g, a0, n', c, s1, s2, s3⟩ := r4 o1'
     subst o1'
     have hlt : j1 < rows1.length := (List.getElem?_eq_some_iff.1 hr).1
     cases mn with
     | false =>
      have := o5 q3 rfl rfl
      rw [this] at hlt
      simp at hlt
     | true =>
      obtain ⟨⟨_, hlt⟩, h0, cells, hown, hrf, hex⟩ := o4 rfl
      rcases hown.2 with ⟨_, hn⟩ | ⟨g2, off2, cap, cur, fz, t1, hh, hfz, hnc, hcm, hcs, htk⟩
      ·omega
      ·rw [s1] at t1
       injection t1 with t1 t2 t3
       injection t1 with t1
       injection t1 with t4 t5
       subst t4; subst t5
       unfold storeA at hs
       cases hg : G.get ty1 with
       | none => rw [hg] at hs; cases hs
       | some ti =>
        rw [hg] at hs
        have hf := hG ty1 ti hg
        simp only at hs
        cases hc : chunks (ev t y) with
        | none => rw [hc] at hs; cases hs
        | some new =>
         rw [hc] at hs ha
         simp only at hs ha
         split at hs
         ·rename_i hsz
          have hn := chunks_rel hc hyv
          have hlen := hn.len
          obtain ⟨vs, hvs⟩ : ∃ vs, ρv y = vs := ⟨_, rfl⟩
          rw [hvs] at hn hlen
          have hnf : ∀ C', Step C C' → RelL G.S C'.flat new vs.cells.toList := fun C' st => RelL.plain (Under.toFlat C') _ _ ha (hn.step st)
          have hput := fun C' (st : Step C C') => RelF.put (sz := (G.S e1).1) hfs hfs' hs (hnf C' st) rows1 cells j1 (hrf.mono st.mono.flat) hr
          have hfit0 := (hput C (Step.refl C)).1
          have hcl : cells.length = rows1.length * (G.S e1).1 := hown.1
          have hcc : rows1.length * (G.S e1).1 ≤ cap * (G.S e1).1 := Nat.mul_le_mul_right _ hnc
          have hvl : vs.cells.toList.length = vs.cells.size := Array.length_toList
          have hfit : a0 + (j1 * (G.S e1).1 + off1) + vs.cells.size ≤ cur.size := by omega
          have hrun := run_storeVar hf hh (v := vs) (off := a0 + (j1 * (G.S e1).1 + off1)) (by rw [← hsz, ← hlen, hvl]) hfit (hn.one _ _) hfz
          obtain ⟨w1, w2, w3⟩ := setCells_same g vs.cells.toList (a0 + (j1 * (G.S e1).1 + off1)) C.w
          have hol : o1 < C.m.length := (List.getElem?_eq_some_iff.1 r2).1
          have hmset : C.m.set o1 (.row v0 k1 true) = C.m := by
           apply List.ext_getElem?
           intro j
           by_cases e : o1 = j
           ·subst e; rw [List.getElem?_set_self hol, r2]
           ·rw [List.getElem?_set_ne e]
          have hblk : (Slot.row v0 k1 true).has g := by rw [s1]; rfl
          obtain ⟨st, hup⟩ := HRel.upd (S := G.S) (C' := ⟨C.w.setCells g (a0 + (j1 * (G.S e1).1 + off1)) vs.cells.toList, C.m, C.X⟩) (s' := .row v0 k1 true) (ob := .row e1 (rows1.set j1 r') k1 true) H r2 (Slot.le_refl _) (by rw [setCells_size]; exact Nat.le_refl _) w1 w2 w3
           (fun b hb hne => setCells_other g _ _ C.w b (fun e => hne (by rw [e]; exact hblk))) (by rw [hmset]) rfl (fun b hb => .inl hb)
          obtain ⟨dst, op, oty, pos, after, guard⟩ := op
          simp only at hoq
          subst hoq
          refine ⟨⟨C.w.setCells g (a0 + (j1 * (G.S e1).1 + off1)) vs.cells.toList, C.m, C.X⟩, st, ?_, .inr ⟨?_, rfl⟩⟩
          ·simp only [if_true]
           obtain ⟨cs', u1, u2⟩ := setCells_heap g e1 fz vs.cells.toList (a0 + (j1 * (G.S e1).1 + off1)) C.w cur hh (by rw [hvl]; exact hfit)
           have hcur : cur.toList.length = cur.size := Array.length_toList
           have hcs' : cs'.size = cur.size := by
            have : cs'.size = cs'.toList.length := Array.length_toList.symm
            rw [this, u2]
            simp only [List.length_append, List.length_take, List.length_drop, Array.length_toList]
            omega
           have hdrop : cs'.toList.drop a0 = (cur.toList.drop a0).take (j1 * (G.S e1).1 + off1) ++ vs.cells.toList ++ (cur.toList.drop a0).drop (j1 * (G.S e1).1 + off1 + vs.cells.toList.length) := by
            rw [u2, List.append_assoc, List.drop_append, show a0 - (cur.toList.take (a0 + (j1 * (G.S e1).1 + off1))).length = 0 by rw [List.length_take]; omega, List.drop_zero, List.drop_take, show a0 + (j1 * (G.S e1).1 + off1) - a0 = j1 * (G.S e1).1 + off1 by omega, List.drop_drop, List.append_assoc]
            congr 3
            omega
           have hcells : (cs'.toList.drop a0).take (rows1.length * (G.S e1).1) = cells.take (j1 * (G.S e1).1 + off1) ++ vs.cells.toList ++ cells.drop (j1 * (G.S e1).1 + off1 + vs.cells.toList.length) := by
            rw [hdrop, ← htk]
            exact splice_take _ _ _ _ (by omega) (by rw [List.length_drop]; omega)
           have hlen2 : (cells.take (j1 * (G.S e1).1 + off1) ++ vs.cells.toList ++ cells.drop (j1 * (G.S e1).1 + off1 + vs.cells.toList.length)).length = rows1.length * (G.S e1).1 := by
            simp only [List.length_append, List.length_take, List.length_drop]
            omega
           refine hup ⟨rfl, by rw [List.length_set]; exact o2, (fun hm => by cases hm), fun _ => ⟨⟨rfl, hlt⟩, h0, _, ?_, (hput _ st).2, ?_⟩, (fun _ _ hm => by cases hm)⟩
           ·refine ⟨by rw [List.length_set]; exact hlen2, .inr ⟨g, a0, cap, cs', fz, ?_, u1, by rw [hcs']; exact hfz, by rw [List.length_set]; exact hnc, hcm, by rw [hcs']; exact hcs, by rw [List.length_set]; exact hcells⟩⟩
            rw [s1, List.length_set, t2, t3]
           ·intro hx
            rcases (hex hx).2 with ⟨_, hn⟩ | ⟨g3, cap3, cur3, x1, _, x2, x3, x4, x5, x6⟩
            ·omega
            ·rw [s1] at x1
             injection x1 with x1 y2 y3
             injection x1 with x1
             injection x1 with y4 y5
             subst y4; subst y5
             rw [hh] at x2
             injection x2 with x2
             injection x2 with x2 _ y6
             subst x2; subst y6
             refine ⟨by rw [List.length_set]; exact hlen2, .inr ⟨g, cap3, cs', ?_, Nat.zero_le _, u1, by rw [List.length_set]; exact x3, x4, by rw [hcs']; exact x5, by rw [List.length_set]; simpa using hcells⟩⟩
             rw [s1, List.length_set, y2, y3]
          ·simp only [execOp, Instr.storeAt, s3, Instr.sureAddr, Sem.run_bind, Sem.run_pure, Result.andThen_ok, hvs, hrun]
         ·cases hs
    ·cases q
   ·cases q
  ·cases q
 ·cases q
end Go.Sh
namespace Go.Sh
variable {P : Program} {G : Tab} {S : Sizes} {n : Nat} {ops : Array Oper}
theorem LSpec.storeEl' (hG : G.ok P) {α : Type} (f : α → AV) (A : List α) (y : α) {i : Nat} {t : Tmps} {h : List AO} {ty e o k : Nat} {j off : Nat} {r a : AV} {fs fs' : List AV} (q : storeEE G n ops i t h = some (ty, e, o, k, A.map f, j, off, a)) (hr : (A.map f)[j]? = some r) (hfs : chunks r = some fs) (ha : (match chunks a with | some new => plainL new | none => false) = true)
  (hs : storeA G ty fs off none a = some fs') (hfs' : chunks (f y) = some fs') : LSpec P G.S n ops i .loud t h .u (h.set o (.row e ((A.set j y).map f) k true)) := by
 rw [List.map_set]
 exact LSpec.storeEl hG q hr hfs ha hs hfs'
mutual
def giveA (os : List Nat) (h : List AO) : AV → AV
 | .own o k =>
  if os.contains o then
   match h[o]? with
   | some (.row e rows k' _) => if k = k' then .sl e rows false else .u
   | _ => .u
  else .own o k
 | .agg fs => .agg (giveL os h fs)
 | a => a
def giveL (os : List Nat) (h : List AO) : List AV → List AV
 | [] => []
 | f :: fs => giveA os h f :: giveL os h fs
end
def noU : AV → Bool
 | .u => false
 | _ => true
mutual
def giveOk (os : List Nat) (h : List AO) : AV → Bool
 | .own o k => noU (giveA os h (.own o k))
 | .agg fs => giveOkL os h fs
 | _ => true
def giveOkL (os : List Nat) (h : List AO) : List AV → Bool
 | [] => true
 | f :: fs => giveOk os h f && giveOkL os h fs
end
theorem give_own {C : Ctx} {m : List Slot} {os : List Nat} {h : List AO} (st : Step C ⟨C.w, m, C.X⟩) (H : HRel S ⟨C.w, m, C.X⟩ h) (hm : ∀ (o : Nat) (s : Slot) (b : Nat), m[o]? = some s → s.has b → C.m[o]? = some s ∧ o ∉ os) {o k : Nat} {cs : List Value} (hn : noU (giveA os h (.own o k)) = true) (r : RelV S C (.own o k) cs) : RelV S ⟨C.w, m, C.X⟩ (giveA os h (.own o k)) cs := by
 have r2 := RelV.step st _ _ r
 unfold giveA at hn ⊢
 split at hn
 ·rename_i hc
  rw [if_pos hc]
  split at hn
  ·rename_i e rows k' app ho
   split at hn
   ·rename_i hk
    subst hk
    simp only [if_true]
    obtain ⟨v', v, kk, mn, h1, h2, h3, h4, h5⟩ := r2
    obtain ⟨o1, o2, o3, o4, _⟩ := H.rel o _ _ ho h3
    have hv := h5 o1
    subst hv
    subst h1
    cases mn with
    | false =>
     obtain ⟨a, c, s1, s2, s3, s4, s5, s6⟩ := o3 rfl
     exact ⟨a, c, s1, s2, by simp, s4, s5, s6⟩
    | true =>
     obtain ⟨⟨_, hlt⟩, h0, cells, hown, hrf, _⟩ := o4 rfl
     rcases hown.2 with ⟨rfl, hnn⟩ | ⟨g, off, cap, cur, fz, rfl, _⟩
     ·obtain rfl : rows = [] := List.eq_nil_of_length_eq_zero hnn
      exact ⟨none, 0, rfl, Nat.le_refl _, by simp, by simp [maxLen], by simp [reach], .inl rfl⟩
     ·obtain ⟨_, k2⟩ := hm o _ g h3 rfl
      exact absurd (by simpa using hc) k2
   ·cases hn
  ·cases hn
 ·rename_i hc
  rw [if_neg hc]
  exact r2
mutual
theorem give_rel {C : Ctx} {m : List Slot} {os : List Nat} {h : List AO} (st : Step C ⟨C.w, m, C.X⟩) (H : HRel S ⟨C.w, m, C.X⟩ h) (hm : ∀ (o : Nat) (s : Slot) (b : Nat), m[o]? = some s → s.has b → C.m[o]? = some s ∧ o ∉ os) : ∀ (a : AV) (cs : List Value), giveOk os h a = true → RelV S C a cs → RelV S ⟨C.w, m, C.X⟩ (giveA os h a) cs
 | .own o k, cs, hn, r => give_own st H hm hn r
 | .agg fs, cs, hn, r => give_relL st H hm fs cs hn r
 | .u, _, _, r => r.elim
 | .sc v, cs, _, r => RelV.step st _ _ r
 | .arr k n xs, cs, _, r => RelV.step st _ _ r
 | .sl e rows full, cs, _, r => RelV.step st _ _ r
 | .ptr o off ix, cs, _, r => RelV.step st _ _ r
 | .ep fs off ix, cs, _, r => RelV.step st _ _ r
 | .el e o k i off, cs, _, r => RelV.step st _ _ r
 | .bsl e o off n, cs, _, r => RelV.step st _ _ r
 | .ref K o, cs, _, r => RelV.step st _ _ r
 | .fn f caps, cs, _, r => RelV.step st _ _ r
 | .fm o k ψ, cs, _, r => RelV.step st _ _ r
 | .is ψ, cs, _, r => RelV.step st _ _ r
 | .tup vs, _, _, r => r.elim
theorem give_relL {C : Ctx} {m : List Slot} {os : List Nat} {h : List AO} (st : Step C ⟨C.w, m, C.X⟩) (H : HRel S ⟨C.w, m, C.X⟩ h) (hm : ∀ (o : Nat) (s : Slot) (b : Nat), m[o]? = some s → s.has b → C.m[o]? = some s ∧ o ∉ os) : ∀ (fs : List AV) (cs : List Value), giveOkL os h fs = true → RelL S C fs cs → RelL S ⟨C.w, m, C.X⟩ (giveL os h fs) cs
 | [], _, _, r => r
 | f :: fs, cs, hn, r => by
  simp only [giveOkL, Bool.and_eq_true] at hn
  obtain ⟨c1, c2, h1, h2, h3⟩ := r
  exact ⟨c1, c2, h1, give_rel st H hm f c1 hn.1 h2, give_relL st H hm fs c2 hn.2 h3⟩
end
def giveV (os : List Nat) (h : List AO) (a : AV) : AV :=
 match a with
 | .own .. | .agg .. => if giveOk os h a then giveA os h a else .u
 | a => a
theorem giveV_rel {C : Ctx} {m : List Slot} {os : List Nat} {h : List AO} (st : Step C ⟨C.w, m, C.X⟩) (H : HRel S ⟨C.w, m, C.X⟩ h) (hm : ∀ (o : Nat) (s : Slot) (b : Nat), m[o]? = some s → s.has b → C.m[o]? = some s ∧ o ∉ os) {a : AV} {v : Value} (r : VRel S C a v) : VRel S ⟨C.w, m, C.X⟩ (giveV os h a) v := by
 cases a with
 | own o k =>
  unfold giveV
  simp only
  split
  ·rename_i hn
   have := give_own st H hm hn (r : RelV S C (.own o k) [v])
   unfold giveA at this ⊢
   split at this <;> rename_i hc
   ·rw [if_pos hc]
    split at this
    ·split at this <;> rename_i hk
     ·rw [if_pos hk]; exact this
     ·exact this.elim
    ·exact this.elim
   ·rw [if_neg hc]; exact this
  ·trivial
 | agg fs =>
  unfold giveV
  simp only
  split
  ·rename_i hn
   obtain ⟨cs, h1, h2⟩ := r
   exact ⟨cs, h1, give_relL st H hm fs _ hn h2⟩
  ·trivial
 | _ => exact r.step st
def giveT (os : List Nat) (h : List AO) (t : Tmps) : Tmps := t.map fun p => (p.1, giveV os h p.2)
theorem LSpec.give (os : List Nat) {i : Nat} {kd : Kd} {t : Tmps} {h h' : List AO} {r : AV} (hos : rowsAt h os = true) (L : LSpec P S n ops i kd (giveT os (settle os h) t) (settle os h) r h') : LSpec P S n ops i .loud t h r h' := by
 refine ⟨L.lt, L.dst, fun hh => absurd rfl hh, fun t2 h2 C a hl hh A Q K hK => ?_⟩
 have hh := hh (by simp)
 subst hh
 obtain ⟨m, st0, H2, hm3⟩ := settle_all os A.heap hos
 refine L.run (fun x => giveV os (settle os h2) (t2 x)) (settle os h2) ⟨C.w, m, C.X⟩ a (fun o ho x hx => ?_) (fun _ => rfl) ⟨A.defers, A.size, fun x => giveV_rel st0 H2 hm3 (A.tmps x), H2⟩ Q K fun C' v st hv H => ?_
 ·rw [hl o ho x hx]
  unfold giveT
  rw [lk_map (giveV os (settle os h2)) rfl]
 ·refine hK C' v (st0.trans st) hv ?_
  rw [if_pos rfl]
  split at H
  ·exact H
  ·rename_i hk
   rw [L.keep hk]
   exact H
end Go.Sh
namespace Go.Sh
variable {P : Program} {G : Tab} {S : Sizes} {n : Nat} {ops : Array Oper}
def boxPE (n : Nat) (ops : Array Oper) (i : Nat) (t : Tmps) : Option (List AV) :=
 match opAt n ops i t with
 | some (.box e x) =>
  match chunks (ev t x) with
  | some fs => if plainL fs && decide (0 < AV.sz.go fs) then some fs else none
  | none => none
 | _ => none
theorem LSpec.boxP {i : Nat} {t : Tmps} {h : List AO} {fs : List AV} (q : boxPE n ops i t = some fs) : LSpec P S n ops i .pure t h (.ep fs 0 none) h := by
 unfold boxPE at q
 split at q
 ·rename_i e x hop
  split at q
  ·rename_i gs hc
   split at q
   ·rename_i hp
    injection q with q
    subst q
    simp only [Bool.and_eq_true, decide_eq_true_eq] at hp
    refine (opAt_spec hop).spec (fun _ => rfl) fun op ρv C h2 ho H _ hρ => ?_
    have hx := hρ x (by simp [Op.operands])
    have hr := chunks_rel hc hx
    have kp := new_kept C (.cells (ρv x).cells e)
    obtain ⟨dst, op, oty, pos, after, guard⟩ := op
    simp only at ho
    subst ho
    refine ⟨_, kp.toStep, by simpa using H.kept kp, .inl ⟨.pointer (some ⟨C.w.heap.size, 0, none⟩), ?_, ⟨C.w.heap.size, 0, (ρv x).cells.toList, rfl, trivial, .inl ⟨new_ok H _, fun _ => unfz_cells (alloc_heap _ _) (.inl rfl)⟩, ?_, ?_, fun j v hj => ?_⟩⟩⟩
    ·simp [execOp, Instr.box, newVar, newRow]
    ·exact RelL.plain (Under.toFlat _) _ _ hp.1 (hr.step kp.toStep)
    ·intro e0
     have hl := hr.len
     rw [e0] at hl
     simp at hl
     omega
    ·rw [Nat.zero_add]
     have : (⟨C.w.alloc (.cells (ρv x).cells e), C.m, C.X⟩ : Ctx).w.cell? ⟨C.w.heap.size, j, none⟩ = (ρv x).cells[j]? := cell_of_heap (alloc_heap C.w _) j
     rw [this]
     simpa using hj
   ·cases q
  ·cases q
 ·cases q
end Go.Sh
namespace Go.Sh
variable {P : Program} {G : Tab} {S : Sizes} {n : Nat} {ops : Array Oper}
def sliceK (off n c : Nat) : Nat → Value := fun b => .slice (some ⟨b, off, none⟩) n c
abbrev rs (o off n c : Nat) : AV := .ref (sliceK off n c) o
theorem ref_inv {C : Ctx} {K : Nat → Value} {o : Nat} {v : Value} (h : VRel S C (.ref K o) v) : ∃ b, C.m[o]? = some (.blk b) ∧ v = K b := by
 obtain ⟨b, h1, h2, _⟩ := (h : RelV S C (.ref K o) [v])
 exact ⟨b, h1, by simpa using h2⟩
inductive LE (P : Program) (S : Sizes) (n : Nat) (ops : Array Oper) (fin : Tmps → List AO → Prop) : Nat → Tmps → List AO → Prop
 | fin {i : Nat} {t : Tmps} {h : List AO} : ops.size = i → fin t h → LE P S n ops fin i t h
 | step {i : Nat} {t : Tmps} {h : List AO} {kd : Kd} {r : AV} {h' : List AO} : LSpec P S n ops i kd t h r h' → LE P S n ops fin (i + 1) (setT t ((ops[i]?).bind (·.dst)) r) h' → LE P S n ops fin i t h
 | ex {ι : Type} {i : Nat} {t : Tmps} {h : List AO} (r : ι → AV) (h' : ι → List AO) : i < ops.size → (∀ d, (ops[i]?).bind (·.dst) = some d → d < n) →
   (∀ (C : Ctx) (a : Act), ARel S C t h n a → ∀ (Q : Exit → Act → World → Prop) (K : Act → World → Prop), (∀ C' v x, Step C C' → VRel S C' (r x) v → HRel S C' (h' x) → K (a.put ((ops[i]?).bind (·.dst)) v) C'.w) → wpOp P ops Q i K a C.w) →
   (∀ x, LE P S n ops fin (i + 1) (setT t ((ops[i]?).bind (·.dst)) (r x)) (h' x)) → LE P S n ops fin i t h
theorem LE.lex {fin : Tmps → List AO → Prop} {i : Nat} {t : Tmps} {h : List AO} (D : LE P S n ops fin i t h) (Q : Exit → Act → World → Prop) :
  ∀ (C : Ctx) (a : Act), ARel S C t h n a → (∀ t h C' a', Step C C' → fin t h → ARel S C' t h n a' → Q .normal a' C'.w) → wpOps P ops Q ((List.range ops.size).drop i) a C.w := by
 induction D with
 | fin hi hf =>
  intro C a A hQ
  rw [List.drop_eq_nil_of_le (by simp; omega)]
  exact hQ _ _ C a (Step.refl C) hf A
 | @step i t h kd r h' L D ih =>
  intro C a A hQ
  have hlt := L.lt
  rw [List.drop_eq_getElem_cons (by simpa using hlt), List.getElem_range, wpOps_cons]
  refine L.run (lk t) h C a (fun _ _ _ _ => rfl) (fun _ => rfl) A.toF Q _ fun C' v st hv hH => ?_
  have hH' : HRel S C' h' := by
   by_cases hk : kd = .loud
   ·rw [if_pos hk] at hH; exact hH
   ·rw [if_neg hk] at hH; rw [L.keep hk]; exact hH
  have A' := A.toF.put st hH' L.dst hv
  refine ih C' _ ⟨A'.defers, A'.size, fun i => ?_, A'.heap⟩ (fun t h C2 a2 st2 => hQ t h C2 a2 (st.trans st2))
  rw [lk_setT']
  exact A'.tmps i
 | @ex ι i t h r h' hlt hd L D ih =>
  intro C a A hQ
  rw [List.drop_eq_getElem_cons (by simpa using hlt), List.getElem_range, wpOps_cons]
  refine L C a A Q _ fun C' v x st hv hH' => ?_
  have A' := A.toF.put st hH' hd hv
  refine ih x C' _ ⟨A'.defers, A'.size, fun i => ?_, A'.heap⟩ (fun t h C2 a2 st2 => hQ t h C2 a2 (st.trans st2))
  rw [lk_setT']
  exact A'.tmps i
theorem LE.weak {fin : Tmps → List AO → Prop} (hf : ∀ t' t h, Weak S t' t → fin t' h → fin t h) {i : Nat} {t t' : Tmps} {h : List AO} (w : Weak S t' t) (D : LE P S n ops fin i t' h) : LE P S n ops fin i t h := by
 induction D generalizing t with
 | fin hi hfin => exact .fin hi (hf _ _ _ w hfin)
 | step L D ih => exact .step (L.weak w) (ih (w.set _ _))
 | ex r h' hlt hd L D ih => exact .ex r h' hlt hd (fun C a A => L C a ⟨A.defers, A.size, fun i => w i C _ (A.tmps i), A.heap⟩) (fun x => ih x (w.set _ _))
def LK (P : Program) (S : Sizes) (n : Nat) (ops : Array Oper) (fin : Tmps → List AO → Prop) (i : Nat) (t : Tmps) (h : List AO) : Prop :=
 (∀ t' t h, Weak S t' t → fin t' h → fin t h) → LE P S n ops fin i t h
variable {fin : Tmps → List AO → Prop}
theorem LK.done {i : Nat} {t : Tmps} {h : List AO} (hi : (ops.size == i) = true) (A : fin t h) : LK P S n ops fin i t h := fun _ => .fin (by simpa using hi) A
def lrun (G : Tab) (n : Nat) (ops : Array Oper) : Nat → Nat → Tmps → List AO → Option (Tmps × List AO)
 | 0, _, t, h => some (t, h)
 | m + 1, i, t, h =>
  match stepA G n ops i t h with
  | some (_, r, h') => lrun G n ops m (i + 1) (setT t ((ops[i]?).bind (·.dst)) r) h'
  | none => none
theorem lrun_sound (hG : G.ok P) : ∀ (m i : Nat) (t : Tmps) (h : List AO) (t' : Tmps) (h' : List AO), lrun G n ops m i t h = some (t', h') → LK P G.S n ops fin (i + m) t' h' → LK P G.S n ops fin i t h
 | 0, i, t, h, t', h', e, D => by
  injection e with e
  injection e with e1 e2
  subst e1; subst e2
  exact D
 | m + 1, i, t, h, t', h', e, D => by
  simp only [lrun] at e
  split at e
  ·rename_i kd r h1 hs
   exact fun hf => .step (stepA_sound hG hs) (lrun_sound hG m (i + 1) _ _ _ _ e (by rw [show i + 1 + m = i + (m + 1) by omega]; exact D) hf)
  ·cases e
theorem LK.seg (hG : G.ok P) (m : Nat) (live : List Nat) {i j : Nat} {t t' : Tmps} {h h' : List AO} (e : (lrun G n ops m i t h).map (fun p => (keepT live p.1, p.2)) = some (t', h')) (hj : i + m = j) (D : LK P G.S n ops fin j t' h') : LK P G.S n ops fin i t h := by
 subst hj
 obtain ⟨⟨t1, h1⟩, e1, e2⟩ := Option.map_eq_some_iff.1 e
 injection e2 with e2 e3
 subst e2; subst e3
 exact lrun_sound hG m i t h t1 h1 e1 fun hf => (D hf).weak hf (keepT_weak live t1)
theorem LK.op (live : List Nat) {i j : Nat} {t t' : Tmps} {h h' : List AO} {kd : Kd} {r : AV} (L : LSpec P S n ops i kd t h r h') (e : keepT live (setT t ((ops[i]?).bind (·.dst)) r) = t') (hj : i + 1 = j) (D : LK P S n ops fin j t' h') : LK P S n ops fin i t h := by
 subst hj; subst e
 exact fun hf => .step L ((D hf).weak hf (keepT_weak live _))
end Go.Sh
namespace Go.Sh
variable {P : Program} {G : Tab} {S : Sizes} {n : Nat} {ops : Array Oper}
variable {F : Fn} {c0 : Ctx} {R : Ending → World → Prop}
end Go.Sh
namespace Go.Sh
variable {P : Program} {G : Tab} {S : Sizes}
end Go.Sh
namespace Go.Sh
variable {P : Program} {G : Tab} {S : Sizes} {n : Nat} {ops : Array Oper}
theorem relF_ints_mk {C : Ctx} {k : IntKind} : ∀ (xs : List Int), RelF S C 1 (xs.map (intA k)) (xs.map (Value.int k))
 | [] => rfl
 | x :: xs => ⟨[.int k x], xs.map (Value.int k), rfl, ⟨rfl, rfl⟩, rfl, relF_ints_mk xs⟩
def sliceEpE (G : Tab) (n : Nat) (ops : Array Oper) (i : Nat) (t : Tmps) : Option (TypeId × IntKind × List Int) :=
 match opAt n ops i t with
 | some (.slice ty x none none none) =>
  match G.kind ty, ev t x with
  | .arr m e, .ep [.arr k m' xs] 0 none => if m = m' ∧ (G.get e).isSome = true ∧ (G.S e).1 = 1 ∧ m * (G.S e).2 ≤ reach ∧ m ≤ maxLen then some (e, k, xs) else none
  | _, _ => none
 | _ => none
theorem LSpec.sliceEp (hG : G.ok P) {i : Nat} {t : Tmps} {h : List AO} {e : TypeId} {k : IntKind} {xs : List Int} (q : sliceEpE G n ops i t = some (e, k, xs)) : LSpec P G.S n ops i .pure t h (.sl e (xs.map (intA k)) true) h := by
 unfold sliceEpE at q
 split at q
 ·rename_i ty x hop
  split at q
  ·rename_i m e0 k0 m' ys hty hx
   split at q
   ·rename_i hc
    injection q with q
    injection q with q1 q2
    injection q2 with q2 q3
    subst q1; subst q2; subst q3
    obtain ⟨rfl, c0, c1, c2, c3⟩ := hc
    refine (opAt_spec hop).spec (fun _ => rfl) fun op ρv C h2 ho H _ hρ => ?_
    have hxv := hρ x (by simp [Op.operands])
    rw [hx] at hxv
    obtain ⟨b, o0, cells, r1, _, r3, r4, r5, r6⟩ := ep_inv hxv
    obtain ⟨d, hd, hf⟩ := kind_desc hG hty (by simp)
    simp only [TK.fits] at hf
    subst hf
    obtain ⟨ca, cb, rfl, ⟨r7, r8⟩, r9⟩ := r4
    have r9 : cb = [] := r9
    subst r9; subst r8
    rw [List.append_nil] at r5 r6
    have hsz : ∃ ei, G.get e0 = some ei := by
     cases hg : G.get e0 with
     | some ei => exact ⟨ei, rfl⟩
     | none => simp [hg] at c0
    obtain ⟨ei, hei⟩ := hsz
    have hesz : ∀ w, (sizeOf e0).run P w = .ok ei.size w := fun w => run_size (hG e0 ei hei) w
    obtain ⟨dst, op, oty, pos, after, guard⟩ := op
    simp only at ho
    subst ho
    have hpos : m ≠ 0 := by
     intro e
     subst e
     rw [List.eq_nil_of_length_eq_zero r7] at r5
     exact r5 rfl
    refine OpOK.same (v := .slice (some ⟨b, o0, none⟩) m m) (by simpa using H) ?_ ?_
    ·simp [execOp, Instr.sliceAt, Instr.sliceBounds, Instr.sureAddr, r1, ixo, run_underlying hd, hesz, addr_add]
    ·refine ⟨some ⟨b, o0, none⟩, m, ?_, ?_, ?_, c3, ?_, .inr ⟨b, o0, rfl, .inl ⟨(hG e0 ei hei).lt, r3.okU (Nat.lt_of_sub_ne_zero (by decide : markE - 0 ≠ 0))⟩, ?_⟩⟩
     ·rw [List.length_map, r7]
     ·rw [List.length_map, r7]; exact Nat.le_refl _
     ·intro _; rw [List.length_map, r7]
     ·rw [List.length_map, r7]; exact c2
     ·rw [c1]
      exact RelR.of_RelF (Nat.le_refl 1) _ _ _ (relF_ints_mk ys) (fun j v hj => r6 j v hj)
   ·cases q
  ·cases q
 ·cases q
def min3E (n : Nat) (ops : Array Oper) (i : Nat) (t : Tmps) : Option (IntKind × Int × Int × Int) :=
 match opAt n ops i t with
 | some (.call { callee := .builtin .min, args := xs, argTypes := _ }) =>
  match xs.toList with
  | [x, y, z] =>
   match ev t x, ev t y, ev t z with
   | .sc (.int k a), .sc (.int _ b), .sc (.int _ c) => some (k, a, b, c)
   | _, _, _ => none
  | _ => none
 | _ => none
theorem LSpec.min3 {i : Nat} {t : Tmps} {h : List AO} {k : IntKind} {a b c : Int} (q : min3E n ops i t = some (k, a, b, c)) : LSpec P S n ops i .pure t h (.sc (.int k (if c < (if b < a then b else a) then c else (if b < a then b else a)))) h := by
 unfold min3E at q
 split at q
 ·rename_i xs ts hop
  split at q
  ·rename_i x y z hxs
   split at q
   ·rename_i k0 a0 k1 b0 k2 c0 hx hy hz
    injection q with q
    injection q with q1 q2
    injection q2 with q2 q3
    injection q3 with q3 q4
    subst q1; subst q2; subst q3; subst q4
    obtain rfl : xs = #[x, y, z] := by rw [← Array.toArray_toList (xs := xs), hxs]
    refine (opAt_spec hop).spec (fun _ => rfl) fun op ρv C h2 ho H _ hρ => ?_
    have h1 := hρ x (by simp [Op.operands, Call.operands])
    have h2' := hρ y (by simp [Op.operands, Call.operands])
    have h3 := hρ z (by simp [Op.operands, Call.operands])
    rw [hx] at h1
    rw [hy] at h2'
    rw [hz] at h3
    have h1 := sc_inv h1
    have h2' := sc_inv h2'
    have h3 := sc_inv h3
    obtain ⟨dst, op, oty, pos, after, guard⟩ := op
    simp only at ho
    subst ho
    refine OpOK.same (by simpa using H) ?_ (sc_mk rfl)
    simp [execOp, resolve, invoke, builtin, Builtin.min_, Builtin.min2, h1, h2', h3]
   ·cases q
  ·cases q
 ·cases q
end Go.Sh