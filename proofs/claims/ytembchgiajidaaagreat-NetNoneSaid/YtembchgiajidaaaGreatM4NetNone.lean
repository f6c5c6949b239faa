import Derived.Carry
import Derived.Deep.Slices
import Derived.OpenShut
import Derived.SizedLaws
import Derived.WalkKit
import Derived.ProofKit
import Derived.ShutString
import Derived.ChangeOld
import Derived.Test.YtembchgiajidaaaGreatM3NetNone
set_option linter.unusedVariables false
set_option linter.unusedSimpArgs false
namespace Go.Sh
variable {P : Program} {G : Tab} {F : Fn} {c0 : Ctx} {R : Ending → World → Prop} {S : Sizes}
def cuφ (p : Nat) (o k : Nat) : Option AV := if o < p then some (.own o k) else none
def cuf (p : Nat) (o : Nat) : Option Nat := if o < p then some o else none
def cuO (p : Nat) : AO → Option AO
 | .box e fs => match rnL (cuφ p) (cuf p) fs with | some gs => some (.box e gs) | none => none
 | .famT .. => none
 | ob => some ob
def isPtr0 (p : Nat) : AV → Bool
 | .ptr o 0 none => o == p
 | _ => false
def puT (p o k i : Nat) (a : AV) : AV := if isPtr0 p a then .fm o k (eF i) else match rnV (cuφ p) (cuf p) a with | some b => b | none => .u
def puE (o i p len k : Nat) (e : TypeId) (els : List (Option (List AO))) (t : Tmps) (h : List AO) : Option (Tmps × List AO) :=
 if o < p then
  match selH false (List.range' p len) h, mapO (cuO p) ((h.take p).set o .gone) with
  | some el, some h' => some (t.map fun x => (x.1, puT p o k i x.2), h'.set o (.fam (rowF e (els.set i (some el))) k))
  | _, _ => none
 else none
theorem range'_nodup (p n : Nat) : nodupB (List.range' p n) = true := by
 have g : ∀ l : List Nat, l.Nodup → nodupB l = true := by
  intro l
  induction l with
  | nil => intro _; rfl
  | cons a r ih =>
   intro h
   rw [List.nodup_cons] at h
   simp [nodupB, h.1, ih h.2]
 exact g _ List.nodup_range'
theorem AR.putE {k : List PI} {t t' : Tmps} {h h' : List AO} {n0 : Nat} (hc0 : c0.m.length = n0) (o i p len kv : Nat) (hp : n0 ≤ p) (hlen0 : 0 < len) {e : TypeId} {els : List (Option (List AO))} (ho : h[o]? = some (.famT (rowF e els) kv [(i, p)])) (hno : els[i]? = some none) (q : puE o i p len kv e els t h = some (t', h')) (A : AR P G F c0 R k t' h') : AR P G F c0 R k t h := by
 intro C a st AA
 have H := AA.heap
 unfold puE at q
 split at q
 ·rename_i hop
  split at q
  ·rename_i el h2 hsel hh2
   injection q with q
   injection q with q1 q2
   subst q1; subst q2
   have E := sel_heap H (range'_nodup _ _) hsel
   obtain ⟨hsl, hsk, hsg⟩ := selH_in hsel
   obtain ⟨hlen, hget⟩ := mapO_spec hh2
   have hol : o < C.m.length := by rw [H.len]; exact (List.getElem?_eq_some_iff.1 ho).1
   obtain ⟨s, hs⟩ : ∃ s, C.m[o]? = some s := ⟨_, List.getElem?_eq_getElem hol⟩
   have hor := H.rel o _ _ ho hs
   obtain ⟨v, gs, B, rfl⟩ : ∃ v gs B, s = .fam v kv gs B := by
    cases s <;> simp only [ORel] at hor
    obtain ⟨g1, _⟩ := hor
    subst g1
    exact ⟨_, _, _, rfl⟩
   obtain ⟨_, ⟨ms, ob, r⟩, hpd⟩ := hor
   obtain ⟨b0, hg0, hb0⟩ := hpd (i, p) (by simp)
   have hil : i < ms.length := by rw [r.lm]; exact (List.getElem?_eq_some_iff.1 hno).1
   have hmi : ms[i]? = some [] := by
    have := List.getElem?_eq_getElem hil
    rw [this, r.no i _ this hno]
   let ks := List.range' p len
   let m' : List Slot := (C.sel false ks).m
   have hm' : ∀ s ∈ m', ∀ b, s.has b → ∃ o2 s2, p ≤ o2 ∧ o2 ∈ ks ∧ C.m[o2]? = some s2 ∧ s2.has b := by
    intro s hs b hb
    obtain ⟨o2, s2, k1, k2, _, k4⟩ := sel_mem hs hb
    have k1' := k1
    rw [List.mem_range'_1] at k1'
    exact ⟨o2, s2, k1'.1, k1, k2, k4⟩
   let Bn : Nat → Prop := elB (ms.set i m') ob
   have hBn : ∀ b, Bn b → B b ∨ ∃ s ∈ m', s.has b := by
    rintro b (hb | ⟨m2, hm, s, hs, hsb⟩)
    ·exact .inl ((r.B b).2 (.inl hb))
    ·rcases List.mem_or_eq_of_mem_set hm with hm | rfl
     ·exact .inl ((r.B b).2 (.inr ⟨m2, hm, s, hs, hsb⟩))
     ·exact .inr ⟨s, hs, hsb⟩
   let D : Ctx := ⟨C.w, (C.m.take p).set o (.fam v kv gs Bn), C.X⟩
   have hself : D.m[o]? = some (.fam v kv gs Bn) := List.getElem?_set_self (by rw [List.length_take]; omega)
   have hlow : ∀ o', o' ≠ o → D.m[o']? = (C.m.take p)[o']? := fun o' hn => List.getElem?_set_ne (Ne.symm hn)
   have htake : ∀ o' s', (C.m.take p)[o']? = some s' → o' < p ∧ C.m[o']? = some s' := by
    intro o' s' h1
    rw [List.getElem?_take] at h1
    split at h1
    ·rename_i hlt
     exact ⟨hlt, h1⟩
    ·cases h1
   have hget2 : ∀ o' s', o' < p → C.m[o']? = some s' → (C.m.take p)[o']? = some s' := by
    intro o' s' hlt h1
    rw [List.getElem?_take, if_pos hlt]
    exact h1
   have hcase : ∀ o' s', D.m[o']? = some s' → (o' = o ∧ s' = .fam v kv gs Bn) ∨ (o' ≠ o ∧ o' < p ∧ C.m[o']? = some s') := by
    intro o' s' h1
    by_cases hq : o' = o
    ·subst hq
     rw [hself] at h1
     injection h1 with h1
     exact .inl ⟨rfl, h1.symm⟩
    ·rw [hlow o' hq] at h1
     exact .inr ⟨hq, htake o' s' h1⟩
   have hmem : ∀ s ∈ D.m, ∀ b, s.has b → ∃ s0 ∈ C.m, s0.has b := by
    intro s hs' b hb
    obtain ⟨o', ho'⟩ := List.mem_iff_getElem?.1 hs'
    rcases hcase o' s ho' with ⟨_, rfl⟩ | ⟨_, _, h1⟩
    ·rcases hBn b hb with h1 | ⟨s2, h1, h2⟩
     ·exact ⟨_, List.mem_of_getElem? hs, h1⟩
     ·obtain ⟨o2, s3, _, _, k3, k4⟩ := hm' s2 h1 b h2
      exact ⟨s3, List.mem_of_getElem? k3, k4⟩
    ·exact ⟨s, List.mem_of_getElem? h1, hb⟩
   have hu : Under C D := ⟨rfl, fun b hb => ⟨hb.1, fun s hs' e => by
    obtain ⟨s0, h1, h2⟩ := hmem s hs' b e
    exact hb.2 s0 h1 h2⟩, Keep.le_refl _⟩
   have hrn : Rn G.S (cuφ p) (cuf p) C D := by
    refine ⟨hu, fun o' k' cs a' e r => ?_, fun o' o2 b e hb => ?_, fun o' k' ψ cs o2 k2 e r => ?_⟩
    ·unfold cuφ at e
     obtain ⟨v', v0, kk, mn, h1, h2, h3, h4⟩ := r
     split at e
     ·rename_i hlt
      injection e with e
      subst e
      refine ⟨rfl, v', v0, kk, mn, h1, h2, ?_, h4⟩
      rw [hlow o' (fun hq => by rw [hq, hs] at h3; cases h3)]
      exact hget2 _ _ hlt h3
     ·cases e
    ·unfold cuf at e
     split at e
     ·rename_i hlt
      injection e with e
      subst e
      rw [hlow o' (fun hq => by rw [hq, hs] at hb; cases hb)]
      exact hget2 _ _ hlt hb
     ·cases e
    ·unfold cuφ at e
     obtain ⟨x, v0, kk, gs0, B0, h1, h2, h3, h4, h5⟩ := r
     split at e
     ·rename_i hlt
      injection e with e
      injection e with e1 e2
      subst e1; subst e2
      by_cases hq : o' = o
      ·subst hq
       rw [hs] at h3
       injection h3 with h3
       injection h3 with e1 e2 e3 e4
       subst e1; subst e2; subst e3
       exact ⟨x, v, kv, gs, Bn, h1, h2, hself, h4, h5⟩
      ·exact ⟨x, v0, kk, gs0, B0, h1, h2, by rw [hlow o' hq]; exact hget2 _ _ hlt h3, h4, h5⟩
     ·cases e
   have hmono : Mono C.flat D.flat := hu.flat
   have stD : StepW c0 D := by
    refine ⟨st.os, st.tape, st.output, st.size, st.block, fun b hb ho => hu.ok b (st.ok b hb ho), fun b hb hn s hs' e => ?_, fun o' b hb => ?_, fun o' v' k' mn' hs' => ?_, fun o' v' k' gs' B' hs' => ?_, st.X, st.keep⟩
    ·obtain ⟨s0, h1, h2⟩ := hmem s hs' b e
     exact st.fresh b hb hn s0 h1 h2
    ·have h1 := st.blk o' b hb
     have hlt : o' < p := Nat.lt_of_lt_of_le (List.getElem?_eq_some_iff.1 hb).1 (by omega)
     rw [hlow o' (fun hq => by rw [hq, hs] at h1; cases h1)]
     exact hget2 _ _ hlt h1
    ·obtain ⟨v2, k2, mn2, h1⟩ := st.row o' v' k' mn' hs'
     have hlt : o' < p := Nat.lt_of_lt_of_le (List.getElem?_eq_some_iff.1 hs').1 (by omega)
     exact ⟨v2, k2, mn2, by rw [hlow o' (fun hq => by rw [hq, hs] at h1; cases h1)]; exact hget2 _ _ hlt h1⟩
    ·obtain ⟨s2, h1, h2⟩ := st.fam o' v' k' gs' B' hs'
     have hlt : o' < p := Nat.lt_of_lt_of_le (List.getElem?_eq_some_iff.1 hs').1 (by omega)
     by_cases hq : o' = o
     ·subst hq
      rw [hs] at h1
      injection h1 with h1
      subst h1
      refine ⟨_, hself, ?_⟩
      obtain ⟨v3, k3, gs3, B3, h3, h4⟩ := h2
      injection h3 with e1 e2 e3 e4
      subst e1; subst e2; subst e3
      exact ⟨v, kv, gs, Bn, rfl, h4⟩
     ·exact ⟨s2, by rw [hlow o' hq]; exact hget2 _ _ hlt h1, h2⟩
   have hnB : ∀ b, B b → ∀ s ∈ m', ¬ s.has b := by
    intro b hB s hs2 hsb
    obtain ⟨o2, s3, k1, _, k3, k4⟩ := hm' s hs2 b hsb
    have := H.inj o o2 _ s3 b hs k3 hB k4
    omega
   have emono : Mono (C.sel false ks) (elC D.flat m') := by
    refine ⟨Nat.le_refl _, fun _ _ _ => rfl, fun b _ hok => ?_, fun o2 s2 hs2 => ⟨s2, hs2, s2.le_refl⟩, fun _ _ _ => rfl, ⟨fun b hb => ?_, Nat.le_refl _⟩⟩
    ·refine elC_ok.2 ⟨(D.flat_ok b).2 ⟨fun hx => hok.1 (.inl hx), fun s hs' hsb => ?_⟩, hok.2⟩
     obtain ⟨o', ho'⟩ := List.mem_iff_getElem?.1 hs'
     rcases hcase o' s ho' with ⟨rfl, rfl⟩ | ⟨_, hlt, h1⟩
     ·rcases hBn b hsb with h1 | ⟨s2, h1, h2⟩
      ·refine hok.1 (.inr ⟨rfl, o', _, ?_, hs, h1⟩)
       rw [List.mem_range'_1]; omega
      ·exact hok.2 s2 h1 h2
     ·refine hok.1 (.inr ⟨rfl, o', _, ?_, h1, hsb⟩)
      rw [List.mem_range'_1]; omega
    ·exact ⟨hb, fun s hs2 hsb => E.nX s hs2 b hsb (.inl (C.X.sub b hb))⟩
   have hER : ERel G.S D.flat el m' := ⟨E.len, fun o1 ob1 s1 ho1 hs1 => (E.rel o1 ob1 s1 ho1 hs1).mono emono fun _ _ => rfl, E.inj⟩
   have hkey : ∀ j m2, (ms.set i m')[j]? = some m2 → (j = i ∧ m2 = m') ∨ (j ≠ i ∧ ms[j]? = some m2) := by
    intro j m2 hj
    by_cases hij : i = j
    ·subst hij
     rw [List.getElem?_set_self hil] at hj
     injection hj with hj
     exact .inl ⟨rfl, hj.symm⟩
    ·rw [List.getElem?_set_ne hij] at hj
     exact .inr ⟨Ne.symm hij, hj⟩
   have hinB : ∀ (j : Nat) (m2 : List Slot), ms[j]? = some m2 → ∀ (s : Slot), s ∈ m2 → ∀ b, s.has b → B b := fun j m2 hm s hs b hb => (r.B b).2 (.inr ⟨m2, List.mem_of_getElem? hm, s, hs, hb⟩)
   have hrow : RowR G.S D.flat e (els.set i (some el)) v gs Bn (ms.set i m') ob := by
    refine ⟨r.he, r.sz, ?_, r.bnd, by rw [List.length_set]; exact r.lg, by rw [List.length_set, List.length_set]; exact r.lm, fun j m2 h2 hm he => ?_, fun j m2 hm he => ?_, fun b => Iff.rfl, fun b hb m2 hm s hs2 hsb => ?_, fun j j' m2 m3 s s' b hm hm' hs2 hs2' hb hb' => ?_⟩
    ·rcases r.own with ⟨h1, h2⟩ | h1
     ·exact .inl ⟨ownsG_kept h1 fun _ _ => rfl, h2⟩
     ·exact .inr h1
    ·rcases hkey j m2 hm with ⟨rfl, rfl⟩ | ⟨hj, hm⟩
     ·rw [List.getElem?_set_self (by rw [← r.lm]; exact hil)] at he
      injection he with he
      injection he with he
      subst he
      refine ⟨⟨b0, hg0, ?_⟩, hER⟩
      have := sel_get (give := false) (ks := ks) (i := 0) (o := p) (by show (List.range' p len)[0]? = some p; rw [List.getElem?_range' hlen0]; simp) hb0
      exact this
     ·rw [List.getElem?_set_ne (Ne.symm hj)] at he
      obtain ⟨g1, g2⟩ := r.el j m2 h2 hm he
      exact ⟨g1, g2.mono hmono fun _ _ _ _ => rfl⟩
    ·rcases hkey j m2 hm with ⟨rfl, rfl⟩ | ⟨hj, hm⟩
     ·rw [List.getElem?_set_self (by rw [← r.lm]; exact hil)] at he
      cases he
     ·rw [List.getElem?_set_ne (Ne.symm hj)] at he
      exact r.no j m2 hm he
    ·rcases List.mem_or_eq_of_mem_set hm with hm | rfl
     ·exact r.sep b hb m2 hm s hs2 hsb
     ·exact hnB b ((r.B b).2 (.inl hb)) s hs2 hsb
    ·rcases hkey j m2 hm with ⟨h1, h2⟩ | ⟨hj, hmj⟩ <;> rcases hkey j' m3 hm' with ⟨h1', h2'⟩ | ⟨hj', hmj'⟩
     ·rw [h1, h1']
     ·rw [h2] at hs2
      exact (hnB b (hinB j' m3 hmj' s' hs2' b hb') s hs2 hb).elim
     ·rw [h2'] at hs2'
      exact (hnB b (hinB j m2 hmj s hs2 b hb) s' hs2' hb').elim
     ·exact r.inj j j' m2 m3 s s' b hmj hmj' hs2 hs2' hb hb'
   have hrel : ∀ (o' : Nat) (ob1 ob2 : AO) (s1 : Slot), cuO p ob1 = some ob2 → ORel G.S C ob1 s1 → ORel G.S D ob2 s1 := by
    intro o' ob1 ob2 s1 e r
    cases ob1 with
    | gone => simp only [cuO] at e; injection e with e; subst e; cases s1 <;> simp only [ORel] at r ⊢
    | any p => simp only [cuO] at e; injection e with e; subst e; cases s1 <;> simp only [ORel] at r ⊢; exact r
    | vals p as =>
     simp only [cuO] at e; injection e with e; subst e
     cases s1 <;> simp only [ORel] at r ⊢
     obtain ⟨x, vs, h1, h2, h3⟩ := r
     exact ⟨x, vs, h1, h2.mono hmono, h3⟩
    | fam p k' =>
     simp only [cuO] at e; injection e with e; subst e
     cases s1 <;> simp only [ORel] at r ⊢
     exact ⟨r.1, p.mono hmono (fun _ _ => rfl) r.2⟩
    | famT p k' pd => simp [cuO] at e
    | box e0 fs =>
     simp only [cuO] at e
     split at e
     ·rename_i gs2 hg
      injection e with e; subst e
      cases s1 <;> simp only [ORel] at r ⊢
      obtain ⟨cs, h1, h2⟩ := r
      exact ⟨cs, h1, RelL.rn hrn fs gs2 _ hg h2⟩
     ·cases e
    | row e0 rows k' app =>
     simp only [cuO] at e; injection e with e; subst e
     cases s1 <;> simp only [ORel] at r ⊢
     obtain ⟨h1, h2, h3, h4, h5⟩ := r
     refine ⟨h1, h2, fun hm => RelV.plain hu _ _ rfl (h3 hm), fun hm => ?_, h5⟩
     obtain ⟨t0, t1, cells, t2, t3, t4⟩ := h4 hm
     exact ⟨t0, t1, cells, t2, t3.mono hmono, t4⟩
   have hplen : p ≤ h.length := by
    have := (List.getElem?_eq_some_iff.1 hb0).1
    rw [H.len] at this
    omega
   refine A D a stD ⟨AA.defers, AA.size, fun x => ?_, ?_⟩
   ·have hv := AA.tmps x
    rw [lk_map (puT p o kv i) (by simp [puT, isPtr0, rnV, rnA])]
    unfold puT
    split
    ·rename_i hpt
     revert hpt hv
     cases lk t x with
     | ptr o1 off ix =>
      intro hv hpt
      cases off with
      | succ _ => simp [isPtr0] at hpt
      | zero =>
       cases ix with
       | some _ => simp [isPtr0] at hpt
       | none =>
        simp only [isPtr0, beq_iff_eq] at hpt
        subst hpt
        obtain ⟨b, w1, _, w2⟩ := (hv : RelV G.S C (.ptr o1 0 none) [_])
        rw [hb0] at w1
        injection w1 with w1
        injection w1 with w1
        subst w1
        exact ⟨_, v, kv, gs, Bn, rfl, by have := w2; simp only [List.cons.injEq, and_true] at this; rw [this]; rfl, hself, Nat.le_refl _, fun _ => ⟨b0, hg0, by have := w2; simp only [List.cons.injEq, and_true] at this; rw [this]; rfl⟩⟩
     | _ => intro hv hpt; simp [isPtr0] at hpt
    ·cases hq : rnV (cuφ p) (cuf p) (lk t x) with
     | none => trivial
     | some b => exact hv.rn hrn hq
   ·refine ⟨?_, fun o1 ob1 s1 ho1 hs1 => ?_, fun o1 o2 s1 s2 b h1 h2 hb1 hb2 => ?_, fun s1 hs1 b hb => ?_, H.Xlt⟩
    ·show ((C.m.take p).set o _).length = _
     rw [List.length_set, List.length_set, hlen, List.length_set, List.length_take, List.length_take, H.len]
    ·rcases hcase o1 s1 hs1 with ⟨rfl, rfl⟩ | ⟨hq, hlt, h1⟩
     ·rw [List.getElem?_set_self (by rw [hlen, List.length_set, List.length_take]; omega)] at ho1
      injection ho1 with ho1
      subst ho1
      exact ⟨rfl, _, ob, hrow⟩
     ·rw [List.getElem?_set_ne (Ne.symm hq)] at ho1
      obtain ⟨ob0, k1, k2⟩ := hget o1 ob1 ho1
      rw [List.getElem?_set_ne (Ne.symm hq), List.getElem?_take, if_pos hlt] at k1
      exact hrel o1 ob0 ob1 s1 k2 (H.rel o1 ob0 s1 k1 h1)
    ·rcases hcase o1 s1 h1 with ⟨rfl, rfl⟩ | ⟨n1, l1, k1⟩ <;> rcases hcase o2 s2 h2 with ⟨rfl, rfl⟩ | ⟨n2, l2, k2⟩
     ·rfl
     ·rcases hBn b hb1 with g | ⟨s3, g1, g2⟩
      ·exact H.inj _ o2 _ s2 b hs k2 g hb2
      ·obtain ⟨o3, s4, q1, _, q3, q4⟩ := hm' s3 g1 b g2
       have := H.inj o2 o3 s2 s4 b k2 q3 hb2 q4
       omega
     ·rcases hBn b hb2 with g | ⟨s3, g1, g2⟩
      ·exact H.inj o1 _ s1 _ b k1 hs hb1 g
      ·obtain ⟨o3, s4, q1, _, q3, q4⟩ := hm' s3 g1 b g2
       have := H.inj o1 o3 s1 s4 b k1 q3 hb1 q4
       omega
     ·exact H.inj o1 o2 s1 s2 b k1 k2 hb1 hb2
    ·obtain ⟨s0, h1, h2⟩ := hmem s1 hs1 b hb
     exact H.nX s0 h1 b h2
  ·cases q
 ·cases q
def puS (n0 o p len kv : Nat) (e : TypeId) (els' : List (Option (List AO))) (s : Option Cfg) : Option Cfg :=
 match s with
 | some c => if Nat.ble n0 p && Nat.ble 1 len && Nat.blt o p then (match mapO (cuO p) ((c.h.take p).set o .gone) with | some h' => mkC c.k (c.t.map fun x => (x.1, puT p o kv (els'.length - 1) x.2)) (h'.set o (.fam (rowF e els') kv)) | none => none) else none
 | none => none
abbrev cH (s : Option Cfg) : List AO := match s with | some c => c.h | none => []
theorem AX.pu {n0 : Nat} (hc0 : c0.m.length = n0) (o p len kv : Nat) (e : TypeId) (els : List (Option (List AO))) (el : List AO) {s : Option Cfg} (A : AX P G F c0 R (puS n0 o p len kv e (els ++ [some el]) s)) (ho : (cH s)[o]? = some (.famT (rowF e (els ++ [none])) kv [(els.length, p)]) := by kernel_rfl) (hsel : selH false (List.range' p len) (cH s) = some el := by kernel_rfl) : AX P G F c0 R s := by
 obtain ⟨c', h1, h2⟩ := A
 cases s with
 | none => cases h1
 | some c =>
  simp only [puS, mkC_eq] at h1
  split at h1
  ·rename_i hc
   rw [Bool.and_eq_true, Bool.and_eq_true, Nat.ble_eq, Nat.ble_eq, Nat.blt_eq] at hc
   split at h1
   ·rename_i h e
    injection h1 with h1
    subst h1
    refine ⟨c, rfl, AR.putE hc0 o els.length p len kv hc.1.1 hc.1.2 ho (by simp) ?_ h2⟩
    unfold puE
    rw [if_pos hc.2]
    have hsel : selH false (List.range' p len) c.h = some el := hsel
    rw [hsel, e]
    simp
   ·cases h1
  ·cases h1
end Go.Sh
namespace Go.Sh
variable {P : Program} {G : Tab}
def rowA (G : Tab) (e : TypeId) (gs : List AV) : AV := if (G.kind e).isAgg then mkAgg gs else gs.headD .u
inductive Shaped (G : Tab) : TypeId → List AV → Prop
 | int {t : TypeId} {k : IntKind} {n : Int} : G.kind t = .int k → (Lit.int k n).wf = true → Shaped G t [.sc (.int k n)]
 | bool {t : TypeId} {b : Bool} : G.kind t = .bool → Shaped G t [.sc (.bool b)]
 | str {t : TypeId} {s : ByteArray} : G.kind t = .str → s.size ≤ maxLen → Shaped G t [.sc (.string s)]
 | struct {t : TypeId} {fl : List (Nat × TypeId)} {gss : List (List AV)} : G.kind t = .struct fl → gss.length = fl.length → (∀ (i : Nat) (f : Nat × TypeId) (gs : List AV), fl[i]? = some f → gss[i]? = some gs → Shaped G f.2 gs) → Shaped G t gss.flatten
 | arr {t e : TypeId} {k : IntKind} {n : Nat} {xs : List Int} : G.kind t = .arr n e → G.kind e = .int k → xs.length = n → (∀ x ∈ xs, (Lit.int k x).wf = true) → Shaped G t [.arr k n xs]
 | slice {t e : TypeId} {gss : List (List AV)} : G.kind t = .slice e → (∀ gs ∈ gss, Shaped G e gs) → Shaped G t [.sl e (gss.map (rowA G e)) false]
def contigF (G : Tab) (R : TypeId → Bool) : List (Nat × TypeId) → Nat → Option Nat
 | [], off => some off
 | f :: fs, off => if f.1 = off ∧ R f.2 = true then contigF G R fs (off + (G.S f.2).1) else none
def tabR (G : Tab) : Nat → TypeId → Bool
 | 0, _ => false
 | m + 1, t =>
  match G.get t with
  | none => false
  | some i =>
   match i.kind with
   | .int _ => true
   | .bool => true
   | .str => true
   | .struct fl => decide (contigF G (tabR G m) fl 0 = some i.size)
   | .arr n e => (match G.kind e with | .int _ => true | _ => false) && decide ((G.S e).1 = 1) && decide (i.size = n)
   | .slice e => tabR G m e && decide (0 < (G.S e).1)
   | _ => false
def noC (W : World) : Ctx := ⟨W, [], ⟨fun _ => False, fun _ => False, W.heap.size, fun _ h => h⟩⟩
theorem noC_ok (W : World) (b : Nat) : (noC W).ok b := ⟨id, by simp [noC]⟩
theorem cells_spec {w : World} {base : Nat} {a : Addr} {n : Nat} {cs : List Value} (h : w.cells? base a n = some cs) : cs.length = n ∧ ∀ j v, cs[j]? = some v → w.cell? (a.add j) = some v := by
 unfold World.cells? at h
 split at h
 ·have hl := mapM_some_length h
  rw [List.length_range] at hl
  refine ⟨hl, fun j v hj => ?_⟩
  have hjl : j < n := by rw [← hl]; exact (List.getElem?_eq_some_iff.1 hj).1
  have := mapM_some_get h j j (by simp [hjl])
  rw [this, hj]
 ·cases h
theorem get_size (hG : G.ok P) {t : TypeId} {i : TInfo} (h : G.get t = some i) : P.cellsOf t = (G.S t).1 ∧ P.bytesOf t = (G.S t).2 := by
 obtain ⟨inf, z, k1, k2, k3, _⟩ := (hG t i h).info
 rw [S_get h]
 simp [Program.cellsOf, Program.bytesOf, k1, k2, k3]
theorem rowA_rel {C : Ctx} {S : Sizes} {e : TypeId} {gs : List AV} {cs : List Value} (hs : Shaped G e gs) (r : RelL S C gs cs) : RelV S C (rowA G e gs) cs := by
 unfold rowA
 cases hs with
 | int hk _ => rw [hk]; exact RelL_one.1 r
 | bool hk => rw [hk]; exact RelL_one.1 r
 | str hk _ => rw [hk]; exact RelL_one.1 r
 | slice hk _ => rw [hk]; exact RelL_one.1 r
 | arr hk _ _ _ => rw [hk]; exact RelL_one.1 r
 | struct hk _ _ =>
  rw [hk]
  simp only [TK.isAgg, if_true]
  unfold mkAgg
  split
  ·rename_i h; rw [h] at r; exact RelL_one.1 r
  ·exact r
theorem weightsAll_mem {H : Type} {e : TypeId} : ∀ {l : List (DataW H)} {d : DataW H} {n : Nat}, d ∈ l → n ∈ DataW.weights P e d → n ∈ DataW.weightsAll P e l
 | d0 :: r, d, n, hm, hn => by
   simp only [DataW.weightsAll, List.mem_append]
   rcases List.mem_cons.1 hm with h | h
   ·subst h; exact .inl hn
   ·exact .inr (weightsAll_mem h hn)
theorem trod_shaped (hG : G.ok P) {H : Type} {enc : TypeId × Value → H} {W : World} {sp : Nat → Bool} : ∀ (m : Nat) (t : TypeId), tabR G m t = true → ∀ (fuel : Nat) (cs : List Value) (d : DataW H) (p : List MemPlace),
  DataW.trod enc P W 0 sp true fuel t cs = some (d, p) → (∀ n ∈ DataW.weights P t d, n ≤ reachBytes) → ∃ gs, Shaped G t gs ∧ RelL G.S (noC W) gs cs
 | 0, t, h => by simp [tabR] at h
 | m + 1, t, h => by
  intro fuel cs d p ht hw
  simp only [tabR] at h
  split at h
  ·cases h
  ·rename_i i hi
   have hk : G.kind t = i.kind := by unfold Tab.kind; rw [hi]
   obtain ⟨dsc, hd, hfit⟩ := (hG t i hi).desc
   split at h
   ·rename_i k hik
    rw [hik] at hfit hk
    simp only [TK.fits] at hfit
    subst hfit
    obtain ⟨n, rfl, _, hwf⟩ := DataW.trod_int hd ht
    exact ⟨_, .int hk hwf, RelL_one.2 ⟨rfl, rfl⟩⟩
   ·rename_i hik
    rw [hik] at hfit hk
    simp only [TK.fits] at hfit
    subst hfit
    obtain ⟨b, rfl, _⟩ := DataW.trod_bool hd ht
    exact ⟨_, .bool hk, RelL_one.2 ⟨rfl, rfl⟩⟩
   ·rename_i hik
    rw [hik] at hfit hk
    simp only [TK.fits] at hfit
    subst hfit
    obtain ⟨s, rfl, _, hs⟩ := DataW.trod_string hd ht
    exact ⟨_, .str hk hs, RelL_one.2 ⟨rfl, rfl⟩⟩
   ·rename_i fl hik
    rw [hik] at hfit hk
    obtain ⟨fs, rfl, hfl⟩ := hfit
    have hcon := of_decide_eq_true h
    obtain ⟨xs, n, _, hx, hlen, hxl, hf⟩ := DataW.trod_struct hd ht
    injection hx with hx1 hx2
    have hcl : cs.length = i.size := by rw [hlen, (get_size hG hi).1, S_get hi]
    have hwe : ∀ q ∈ DataW.weightsEach P (fs.toList.map (·.type)) (xs.map (·.1)), q ≤ reachBytes := by
     intro q hq
     refine hw q ?_
     rw [hx1]
     simp only [DataW.weights, hd]
     exact hq
    have key : ∀ (gl : List Field) (ys : List (DataW H × List MemPlace)) (off : Nat), ys.length = gl.length → (∀ (j : Nat) (f : Field), gl[j]? = some f → DataW.trod enc P W 0 sp true n f.type ((cs.drop f.offset).take (P.cellsOf f.type)) = ys[j]?) →
      (∀ q ∈ DataW.weightsEach P (gl.map (·.type)) (ys.map (·.1)), q ≤ reachBytes) → contigF G (tabR G m) (gl.map fun f => (f.offset, f.type)) off = some cs.length →
      ∃ gss : List (List AV), gss.length = gl.length ∧ (∀ (j : Nat) (f : Field) (gs : List AV), gl[j]? = some f → gss[j]? = some gs → Shaped G f.type gs) ∧ RelL G.S (noC W) gss.flatten (cs.drop off) := by
     intro gl
     induction gl with
     | nil =>
      intro ys off h1 h2 h3 h4
      injection h4 with h4
      refine ⟨[], rfl, fun j f gs hj => by simp at hj, ?_⟩
      rw [h4, List.drop_length]
      rfl
     | cons f gl ih =>
      intro ys off h1 h2 h3 h4
      cases ys with
      | nil => simp at h1
      | cons y ys =>
       simp only [List.map_cons, contigF] at h4
       split at h4
       ·rename_i hh
        obtain ⟨ho, hR⟩ := hh
        have hy := h2 0 f rfl
        simp only [List.getElem?_cons_zero] at hy
        have hgf : ∃ fi, G.get f.type = some fi := by
         cases m with
         | zero => simp [tabR] at hR
         | succ m =>
          simp only [tabR] at hR
          split at hR
          ·cases hR
          ·exact ⟨_, by assumption⟩
        obtain ⟨fi, hfi⟩ := hgf
        have hsz := (get_size hG hfi).1
        obtain ⟨y1, y2⟩ := y
        obtain ⟨gs, g1, g2⟩ := trod_shaped hG m f.type hR n _ y1 y2 hy (fun q hq => h3 q (by simp only [List.map_cons, DataW.weightsEach, List.mem_append]; exact .inl hq))
        obtain ⟨gss, k1, k2, k3⟩ := ih ys (off + (G.S f.type).1) (by simpa using h1) (fun j f' hj => by simpa using h2 (j + 1) f' (by simpa using hj)) (fun q hq => h3 q (by simp only [List.map_cons, DataW.weightsEach, List.mem_append]; exact .inr hq)) h4
        refine ⟨gs :: gss, by simp [k1], ?_, ?_⟩
        ·intro j f' gs' hj hgj
         cases j with
         | zero =>
          simp only [List.getElem?_cons_zero, Option.some.injEq] at hj hgj
          subst hj; subst hgj
          exact g1
         | succ j => exact k2 j f' gs' (by simpa using hj) (by simpa using hgj)
        ·rw [List.flatten_cons]
         subst ho
         rw [hsz] at g2
         have := RelL.append gs gss.flatten _ _ g2 k3
         rw [← List.drop_drop, List.take_append_drop] at this
         exact this
       ·cases h4
    obtain ⟨gss, k1, k2, k3⟩ := key fs.toList xs 0 (by simpa using hxl) (fun j f hj => hf j f (by simpa using hj)) hwe (by rw [hfl, hcl]; exact hcon)
    refine ⟨gss.flatten, .struct hk (by rw [k1, ← hfl]; simp) (fun j f gs hj hg => ?_), by simpa using k3⟩
    rw [← hfl] at hj
    rw [List.getElem?_map] at hj
    obtain ⟨f', hf', rfl⟩ := Option.map_eq_some_iff.1 hj
    exact k2 j f' gs hf' hg
   ·rename_i n e hik
    rw [hik] at hfit hk
    simp only [TK.fits] at hfit
    subst hfit
    simp only [Bool.and_eq_true, decide_eq_true_eq] at h
    obtain ⟨⟨h1, h2⟩, h3⟩ := h
    split at h1
    ·rename_i k hek
     obtain ⟨ei, hei, hek'⟩ := kind_get hek (by simp)
     obtain ⟨ed, hed, hef⟩ := (hG e ei hei).desc
     rw [hek'] at hef
     simp only [TK.fits] at hef
     subst hef
     have hce : P.cellsOf e = 1 := by rw [(get_size hG hei).1, h2]
     obtain ⟨xs, m', _, _, hlen, hxl, hf⟩ := DataW.trod_array hd ht
     have hcl : cs.length = n := by rw [hlen, (get_size hG hi).1, S_get hi, h3]
     have each : ∀ j, j < n → ∃ x, cs[j]? = some (.int k x) ∧ (Lit.int k x).wf = true := by
      intro j hj
      have := hf j hj
      rw [hce, Nat.mul_one] at this
      obtain ⟨y, hy⟩ : ∃ y, xs[j]? = some y := ⟨_, List.getElem?_eq_getElem (by omega)⟩
      rw [hy] at this
      obtain ⟨x, e1, _, e2⟩ := DataW.trod_int hed this
      refine ⟨x, ?_, e2⟩
      rw [List.drop_eq_getElem_cons (by omega)] at e1
      simp only [List.take_succ_cons, List.take_zero, List.cons.injEq, and_true] at e1
      rw [List.getElem?_eq_getElem (by omega), e1]
     have all : ∀ (cs : List Value), (∀ j, j < cs.length → ∃ x, cs[j]? = some (.int k x) ∧ (Lit.int k x).wf = true) → ∃ xs : List Int, cs = xs.map (Value.int k) ∧ ∀ x ∈ xs, (Lit.int k x).wf = true := by
      intro cs
      induction cs with
      | nil => intro _; exact ⟨[], rfl, by simp⟩
      | cons c cs ih =>
       intro hh
       obtain ⟨x, e1, e2⟩ := hh 0 (by simp)
       obtain ⟨xs, e3, e4⟩ := ih fun j hj => by simpa using hh (j + 1) (by simpa using hj)
       simp only [List.getElem?_cons_zero, Option.some.injEq] at e1
       exact ⟨x :: xs, by simp [e1, e3], by simpa using ⟨e2, e4⟩⟩
     obtain ⟨zs, e1, e2⟩ := all cs (fun j hj => each j (by omega))
     have hzl : zs.length = n := by rw [← hcl, e1, List.length_map]
     exact ⟨_, .arr hk hek hzl e2, RelL_one.2 ⟨hzl, e1⟩⟩
    ·cases h1
   ·rename_i e hik
    rw [hik] at hfit hk
    simp only [TK.fits] at hfit
    subst hfit
    simp only [Bool.and_eq_true, decide_eq_true_eq] at h
    obtain ⟨h1, h2⟩ := h
    rcases Deep.open_slice hd ht with ⟨rfl, _⟩ | ⟨a, len, cap, mm, n, D, Pl, rfl, hb, hlc, hcm, hmm, hx, hel⟩
    ·exact ⟨_, .slice (gss := []) hk (by simp), RelL_one.2 ⟨none, 0, rfl, Nat.le_refl _, fun h => by simp at h, by decide, by simp [reach], .inl rfl⟩⟩
    ·injection hx with hx1 hx2
     have hge : ∃ ei, G.get e = some ei := by
      cases hq : G.get e with
      | none =>
       cases m with
       | zero => cases h1
       | succ m => simp only [tabR, hq] at h1; cases h1
      | some ei => exact ⟨ei, rfl⟩
     obtain ⟨ei, hei⟩ := hge
     have hsz := get_size hG hei
     have hlm : len ≤ mm := by rw [hmm]; split <;> omega
     have hwt : len * P.bytesOf e ≤ reachBytes := by
      have := hw _ (by rw [hx1]; simp only [DataW.weights, hd]; exact List.mem_cons_self)
      simp only [List.length_map, List.length_range] at this
      exact Nat.le_trans (Nat.mul_le_mul_right _ (by omega)) this
     have hwi : ∀ j, j < len → ∀ q ∈ DataW.weights P e (D j), q ≤ reachBytes := by
      intro j hj q hq
      refine hw q ?_
      rw [hx1]
      simp only [DataW.weights, hd]
      refine List.mem_cons_of_mem _ (List.mem_append.2 (.inl (weightsAll_mem (List.mem_map.2 ⟨j, by simpa using hj, rfl⟩) hq)))
     have each : ∀ j, j < len → ∃ gs cs', Shaped G e gs ∧ W.cells? 0 (a.add (j * P.cellsOf e)) (P.cellsOf e) = some cs' ∧ RelL G.S (noC W) gs cs' := by
      intro j hj
      obtain ⟨cs', c1, c2⟩ := hel j (by omega)
      obtain ⟨gs, g1, g2⟩ := trod_shaped hG m e h1 n cs' (D j) (Pl j) c2 (hwi j hj)
      exact ⟨gs, cs', g1, c1, g2⟩
     have all : ∀ (r j0 : Nat), j0 + r = len → ∃ gss : List (List AV), gss.length = r ∧ (∀ gs ∈ gss, Shaped G e gs) ∧ ∀ j gs, gss[j]? = some gs → ∃ cs', W.cells? 0 (a.add ((j0 + j) * P.cellsOf e)) (P.cellsOf e) = some cs' ∧ RelL G.S (noC W) gs cs' := by
      intro r
      induction r with
      | zero => intro j0 _; exact ⟨[], rfl, by simp, by simp⟩
      | succ r ih =>
       intro j0 hj0
       obtain ⟨gs, cs', g1, g2, g3⟩ := each j0 (by omega)
       obtain ⟨gss, k1, k2, k3⟩ := ih (j0 + 1) (by omega)
       refine ⟨gs :: gss, by simp [k1], by simpa using ⟨g1, k2⟩, fun j gs' hj => ?_⟩
       cases j with
       | zero =>
        simp only [List.getElem?_cons_zero, Option.some.injEq] at hj
        subst hj
        exact ⟨cs', g2, g3⟩
       | succ j =>
        have := k3 j gs' (by simpa using hj)
        rwa [show j0 + 1 + j = j0 + (j + 1) by omega] at this
     obtain ⟨gss, k1, k2, k3⟩ := all len 0 (by omega)
     refine ⟨_, .slice hk k2, RelL_one.2 ⟨some a, cap, by rw [List.length_map, k1], by rw [List.length_map, k1]; exact hlc, fun h => by simp at h, hcm, ?_, ?_⟩⟩
     ·rw [List.length_map, k1, ← hsz.2]
      exact Nat.le_trans hwt (Nat.le_of_lt reachBytes_lt)
     ·by_cases hz : gss = []
      ·left; rw [hz]; rfl
      ·right
       have hpos : 0 < len := by rw [← k1]; exact List.length_pos_iff.2 hz
       obtain ⟨gs0, hg0⟩ : ∃ gs, gss[0]? = some gs := ⟨_, List.getElem?_eq_getElem (by omega)⟩
       obtain ⟨cs0, c1, c2⟩ := k3 0 gs0 hg0
       have hc0 := cells_spec c1
       have hne : 0 < cs0.length := by rw [hc0.1, hsz.1]; exact h2
       obtain ⟨v0, hv0⟩ : ∃ v, cs0[0]? = some v := ⟨_, List.getElem?_eq_getElem hne⟩
       have hcell := hc0.2 0 v0 hv0
       have hspot : a.spot = none := by
        simp only [Nat.zero_add, Nat.zero_mul] at hcell
        unfold World.cell? at hcell
        unfold Addr.add at hcell
        simp only [if_true] at hcell
        split at hcell
        ·split at hcell
         ·cases hcell
         ·rename_i hs
          cases hq : a.spot with
          | none => rfl
          | some _ => rw [hq] at hs; simp at hs
        ·cases hcell
       have hab : a.block < W.heap.size := by
        have h := World.block_lt_of_cell? W _ hcell
        simp only [Nat.zero_add, Nat.zero_mul] at h
        unfold Addr.add at h
        simpa using h
       refine ⟨a.block, a.off, ?_, .inl ⟨(hG e ei hei).lt, noC_ok W _, fun hn => absurd hab (Nat.not_lt_of_le hn)⟩, ?_⟩
       ·obtain ⟨b, o, s⟩ := a
        simp only at hspot
        subst hspot
        rfl
       ·have haa : a = ⟨a.block, a.off, none⟩ := by
         obtain ⟨b, o, s⟩ := a
         simp only at hspot
         subst hspot
         rfl
        have fin : ∀ (gl : List (List AV)) (off : Nat), (∀ gs ∈ gl, Shaped G e gs) → (∀ j gs, gl[j]? = some gs → ∃ cs', W.cells? 0 ⟨a.block, off + j * (G.S e).1, none⟩ (G.S e).1 = some cs' ∧ RelL G.S (noC W) gs cs') → RelR G.S (noC W).flat a.block (G.S e).1 (gl.map (rowA G e)) off := by
         intro gl
         induction gl with
         | nil => intro off _ _; trivial
         | cons gs gl ih =>
          intro off q1 q2
          obtain ⟨cs', r1, r2⟩ := q2 0 gs rfl
          have r3 := cells_spec r1
          refine ⟨⟨cs', ?_, r3.1, ?_, ?_⟩, ih (off + (G.S e).1) (fun g hg => q1 g (by simp [hg])) ?_⟩
          ·exact RelV.mono (Mono.flat (Step.refl (noC W)).mono) _ _ (by
            have := rowA_rel (q1 gs (by simp)) r2
            have hfl : (noC W).flat = noC W := by
             unfold Ctx.flat noC
             congr 1
             refine Keep.eq ?_ rfl
             funext b
             simp
            rw [hfl]; exact this)
          ·intro hnil
           rw [hnil] at r3
           simp at r3
           omega
          ·intro j v hj
           have := r3.2 j v hj
           rw [addr_add] at this
           have h' : W.cell? ⟨a.block, off + j, none⟩ = some v := by simpa using this
           exact h'
          ·intro j g hj
           have := q2 (j + 1) g (by simpa using hj)
           rw [Nat.succ_mul, show off + (j * (G.S e).1 + (G.S e).1) = off + (G.S e).1 + j * (G.S e).1 by omega] at this
           exact this
        refine fin gss a.off k2 fun j gs hj => ?_
        obtain ⟨cs', r1, r2⟩ := k3 j gs hj
        rw [haa, addr_add, hsz.1, Nat.zero_add] at r1
        exact ⟨cs', r1, r2⟩
   ·cases h
end Go.Sh
namespace Go.Sh
open Go.ChangeShapes Go.WideShapes Go.RowKit
variable {P : Program} {G : Tab}
theorem open_arg (hG : G.ok P) {H : Type} {enc : TypeId × Value → H} {W : World} {m : Nat} {t : TypeId} {v : Value} {d : DataW H} {p : List MemPlace} {r : Go.Reach} {b0 : Nat} (hR : tabR G m t = true) (hval : Value.okWide P W r b0 t v)
  (h : DataW.Trod enc P W 0 (fun _ => true) true t v d p) (hw : ∀ n ∈ DataW.weights P t d, n ≤ reachBytes) : ∃ gs, Shaped G t gs ∧ VRel1 G.S (noC W) (rowA G t gs) v := by
 obtain ⟨fuel, hf⟩ := h
 obtain ⟨gs, g1, g2⟩ := trod_shaped hG m t hR fuel v.cells.toList d p hf hw
 refine ⟨gs, g1, ?_⟩
 have desc : ∀ {K : TK}, G.kind t = K → K ≠ .other → ∃ dd, P.underlying t = some dd ∧ K.fits dd := fun h1 h2 => kind_desc hG h1 h2
 cases g1 with
 | int hk hwf =>
  obtain ⟨dd, h1, h2⟩ := desc hk (by simp)
  simp only [TK.fits] at h2
  subst h2
  obtain ⟨n, rfl⟩ := okWide_int h1 hval
  have := RelL_one.1 g2
  unfold rowA
  rw [hk]
  exact this
 | bool hk =>
  obtain ⟨dd, h1, h2⟩ := desc hk (by simp)
  simp only [TK.fits] at h2
  subst h2
  obtain ⟨n, rfl⟩ := okWide_bool h1 hval
  have := RelL_one.1 g2
  unfold rowA
  rw [hk]
  exact this
 | str hk _ =>
  obtain ⟨dd, h1, h2⟩ := desc hk (by simp)
  simp only [TK.fits] at h2
  subst h2
  obtain ⟨n, rfl⟩ := okWide_string h1 hval
  have := RelL_one.1 g2
  unfold rowA
  rw [hk]
  exact this
 | slice hk _ =>
  obtain ⟨dd, h1, h2⟩ := desc hk (by simp)
  simp only [TK.fits] at h2
  subst h2
  obtain ⟨a, l, c, rfl⟩ := okWide_slice h1 hval
  have := RelL_one.1 g2
  unfold rowA
  rw [hk]
  exact this
 | arr hk hek hn hwf =>
  obtain ⟨dd, h1, h2⟩ := desc hk (by simp)
  simp only [TK.fits] at h2
  subst h2
  have : ∃ cs, v = .agg cs := by
   unfold Value.okWide at hval
   rw [h1] at hval
   obtain ⟨cs, e, _⟩ := hval
   exact ⟨cs, e⟩
  obtain ⟨cs, rfl⟩ := this
  obtain ⟨q1, q2⟩ := RelL_one.1 g2
  unfold rowA
  rw [hk]
  refine ⟨q1, ?_⟩
  simp only [Value.cells] at q2
  rw [← q2]
 | struct hk h3 h4 =>
  rename_i fl gss
  obtain ⟨dd, h1, h2⟩ := desc hk (by simp)
  obtain ⟨fs, rfl, h2⟩ := h2
  obtain ⟨cs, rfl, _⟩ := okWide_struct h1 hval
  unfold rowA
  rw [hk]
  simp only [TK.isAgg, if_true]
  have := mkAgg_rel (S := G.S) (C := noC W) (cs := cs) g2
  have hne : ∀ l, mkAgg gss.flatten ≠ AV.tup l := by
   intro l
   unfold mkAgg
   split <;> simp
  cases hq : mkAgg gss.flatten with
  | tup l => exact absurd hq (hne l)
  | _ => rw [hq] at this; exact this
theorem below_of {W : World} {C' : Ctx} (st : StepW (noC W) C') : Below W.heap.size W C'.w :=
 ⟨st.os, st.tape, st.output, st.size, fun b hb => st.block b hb (noC_ok W b).2⟩
theorem law_call {f : FuncId} {avs : List AV} {vals : Array Value} {W : World} {b : Bool} (hc : ACalls P G.S f avs [] (.sc (.bool b)) []) (hv : VRels G.S (noC W) avs vals.toList) :
  Calls P f vals W fun e w' => e = .returned (.bool b) ∧ Below W.heap.size W w' := by
 refine (hc.2 (noC W) vals (HRel.nil (fun _ h => h.elim)) hv).mono ?_
 rintro e w' ⟨v, C', rfl, rfl, st, _, hv⟩
 exact ⟨by rw [sc_inv hv], below_of st⟩
theorem shut_arg {H : Type} {enc : TypeId × Value → H} {t : TypeId} (hl : laidOutB P = true) (hr : P.readableRec t = true) (hrow : t < P.types.size) {W W' : World} {v : Value} {d : DataW H} {ps : List MemPlace}
  (h : DataW.Trod enc P W 0 (fun _ => true) true t v d ps) (hb : Below W.heap.size W W') : DataW.Trod enc P W' 0 (fun b => decide (b < W.heap.size)) true t v d ps :=
 Below.trod hl hr hrow h hb (fun x hx => by obtain ⟨n, hn⟩ := h; exact DataW.trod_lt n t _ _ hn x hx)
theorem weights_of {H : Type} {ts : List TypeId} {ds : List (DataW H)} (h : (DataW.weightsEach P ts ds).all (· ≤ reachBytes) = true) {j : Nat} {t : TypeId} {d : DataW H} (ht : ts[j]? = some t) (hd : ds[j]? = some d) : ∀ n ∈ DataW.weights P t d, n ≤ reachBytes := by
 intro n hn
 have := List.all_eq_true.1 h n (DataW.weights_mem_each ht hd n hn)
 simpa using this
theorem Shaped.int_inv {t : TypeId} {k : IntKind} {gs : List AV} (hk : G.kind t = .int k) (h : Shaped G t gs) : ∃ n, gs = [.sc (.int k n)] ∧ (Lit.int k n).wf = true := by
 cases h <;> rename_i hk' <;> first
  | (rename_i h2; rw [hk] at hk'; injection hk' with e; subst e; exact ⟨_, rfl, h2⟩)
  | skip
 all_goals simp_all
theorem Shaped.arr_inv {t e : TypeId} {n : Nat} {k : IntKind} {gs : List AV} (hk : G.kind t = .arr n e) (hek : G.kind e = .int k) (h : Shaped G t gs) : ∃ xs : List Int, gs = [.arr k n xs] ∧ xs.length = n ∧ ∀ x ∈ xs, (Lit.int k x).wf = true := by
 cases h with
 | arr h1 h2 h3 h4 =>
  rw [hk] at h1
  injection h1 with e1 e2
  subst e1; subst e2
  rw [hek] at h2
  injection h2 with e3
  subst e3
  exact ⟨_, rfl, h3, h4⟩
 | int h1 => rw [hk] at h1; cases h1
 | bool h1 => rw [hk] at h1; cases h1
 | str h1 => rw [hk] at h1; cases h1
 | struct h1 => rw [hk] at h1; cases h1
 | slice h1 => rw [hk] at h1; cases h1
theorem Shaped.slice_inv {t e : TypeId} {gs : List AV} (hk : G.kind t = .slice e) (h : Shaped G t gs) : ∃ gss : List (List AV), gs = [.sl e (gss.map (rowA G e)) false] ∧ ∀ g ∈ gss, Shaped G e g := by
 cases h with
 | slice h1 h2 =>
  rw [hk] at h1
  injection h1 with e1
  subst e1
  exact ⟨_, rfl, h2⟩
 | int h1 => rw [hk] at h1; cases h1
 | bool h1 => rw [hk] at h1; cases h1
 | str h1 => rw [hk] at h1; cases h1
 | struct h1 => rw [hk] at h1; cases h1
 | arr h1 => rw [hk] at h1; cases h1
theorem rows_typedW {α : Type} {e : TypeId} {av : α → AV} {wf : α → Prop} : ∀ (gss : List (List AV)), (∀ g ∈ gss, ∃ x : α, rowA G e g = av x ∧ wf x) → ∃ xs : List α, gss.map (rowA G e) = xs.map av ∧ ∀ x ∈ xs, wf x
 | [], _ => ⟨[], rfl, by simp⟩
 | g :: r, h => by
   obtain ⟨x, hx, hw⟩ := h g (by simp)
   obtain ⟨xs, hxs, hws⟩ := rows_typedW r fun g' hg => h g' (by simp [hg])
   exact ⟨x :: xs, by simp [hx, hxs], by simpa using ⟨hw, hws⟩⟩
abbrev intW (k : IntKind) (n : Int) : Prop := (Lit.int k n).wf = true
abbrev arrW (k : IntKind) (n : Nat) (xs : List Int) : Prop := xs.length = n ∧ ∀ x ∈ xs, (Lit.int k x).wf = true
end Go.Sh
namespace Go.Sh
variable {P : Program} {G : Tab} {F : Fn} {c0 : Ctx} {R : Ending → World → Prop} {S : Sizes}
theorem LSpec.quiet {n : Nat} {ops : Array Oper} {i : Nat} {t : Tmps} {h h' : List AO} {r : AV} (q : LSpec P S n ops i .loud t h r h') (e : h' = h) : LSpec P S n ops i .read t h r h := by
 subst e
 refine ⟨q.lt, q.dst, fun _ => rfl, fun t2 h2 C a hl hh A Q K hN => ?_⟩
 have h1 := hh (by simp)
 exact q.run t2 h2 C a hl (fun _ => h1) A Q K fun C' v st rv H => hN C' v st rv (by rw [h1]; simpa using H)
theorem set_same {α : Type} {l : List α} {i : Nat} {x : α} (h : l[i]? = some x) : l.set i x = l := by
 apply List.ext_getElem?
 intro j
 by_cases hj : i = j
 ·subst hj
  rw [List.getElem?_set_self (List.getElem?_eq_some_iff.1 h).1, h]
 ·rw [List.getElem?_set_ne hj]
theorem DX.fcr (L : List Nat) (o kv j : Nat) (e : TypeId) (els : List (Option (List AO))) {el hout : List AO} {f : FuncId} {as : List AV} {r : AV} {s : Option DS} (hc : ACalls P G.S f (.ptr 0 0 none :: as) el r hout) (he : els[j]? = some (some el)) (D : DX P G F c0 R (updE F L .read (fun _ => r) hOf s)) (ds : List (TypeId × Bool) := []) (hq : callFE ds F.n (dO F s) (dI s) (dT s) f = some (.fm o kv (eF j), as) := by kernel_rfl) (ho : (dH s)[o]? = some (.fam (rowF e els) kv) := by kernel_rfl) (hr : plV r = true := by kernel_rfl) (hout' : elOut el.length hout = some el := by kernel_rfl) : DX P G F c0 R s := by
 refine DX.opF L ((LSpec.callF hc he ho hr hout' ds hq).quiet ?_) D
 rw [set_same he, set_same ho]
def arunM (G : Tab) (F : Fn) : Nat → Cfg → Cfg
 | 0, c => c
 | m + 1, c => match pstep G F c with | some c' => arunM G F m c' | none => c
theorem arunM_eq (G : Tab) (F : Fn) : ∀ (m : Nat) (c : Cfg), ∃ k, arun G F k c = some (arunM G F m c)
 | 0, c => ⟨0, rfl⟩
 | m + 1, c => by
  simp only [arunM]
  cases h : pstep G F c with
  | none => exact ⟨0, rfl⟩
  | some c' =>
   obtain ⟨k, hk⟩ := arunM_eq G F m c'
   exact ⟨k + 1, by simp only [arun, h, Option.bind_some]; exact hk⟩
def goE (G : Tab) (F : Fn) (s : Option Cfg) (m : Nat := 80) : Option Cfg := match s with | some c => (match arunM G F m c with | ⟨k, t, h⟩ => mkC k t h) | none => none
theorem AX.gn [ok : Ok P G] (m : Nat) {s : Option Cfg} (A : AX P G F c0 R (goE G F s m)) : AX P G F c0 R s := by
 obtain ⟨c', h1, h2⟩ := A
 cases s with
 | none => cases h1
 | some c =>
  simp only [goE, mkC_eq] at h1
  injection h1 with h1
  subst h1
  obtain ⟨k, hk⟩ := arunM_eq G F m c
  exact ⟨c, rfl, arun_sound ok.g ok.m k c _ hk h2⟩
theorem AX.go [ok : Ok P G] {s : Option Cfg} (A : AX P G F c0 R (goE G F s)) : AX P G F c0 R s := AX.gn 80 A
def rrunM (G : Tab) (n : Nat) (ops : Array Oper) : Nat → RS → RS
 | 0, c => c
 | m + 1, c => match rrun G n ops 1 c with | some c' => rrunM G n ops m c' | none => c
theorem rrun_add {n : Nat} {ops : Array Oper} : ∀ (k : Nat) (c c1 c2 : RS), rrun G n ops 1 c = some c1 → rrun G n ops k c1 = some c2 → rrun G n ops (k + 1) c = some c2 := by
 intro k c c1 c2 h1 h2
 simp only [rrun] at h1 ⊢
 split at h1
 ·injection h1 with h1
  subst h1
  exact h2
 ·cases h1
theorem rrunM_eq (n : Nat) (ops : Array Oper) : ∀ (m : Nat) (c : RS), ∃ k, rrun G n ops k c = some (rrunM G n ops m c)
 | 0, c => ⟨0, rfl⟩
 | m + 1, c => by
  simp only [rrunM]
  cases h : rrun G n ops 1 c with
  | none => exact ⟨0, rfl⟩
  | some c' =>
   obtain ⟨k, hk⟩ := rrunM_eq n ops m c'
   exact ⟨k + 1, rrun_add k c c' _ h hk⟩
def gdE (G : Tab) (F : Fn) (s : Option DS) (m : Nat := 80) : Option DS := match s with | some d => (match rrunM G F.n (d.ops F) m d.r with | ⟨i, ks, t, h⟩ => mkD d.p d.k i ks t h) | none => none
theorem DX.gn [ok : Ok P G] (m : Nat) {s : Option DS} (D : DX P G F c0 R (gdE G F s m)) : DX P G F c0 R s := by
 obtain ⟨d', h1, h2⟩ := D
 cases s with
 | none => cases h1
 | some d =>
  simp only [gdE, mkD_eq] at h1
  injection h1 with h1
  subst h1
  obtain ⟨k, hk⟩ := rrunM_eq (G := G) F.n (d.ops F) m d.r
  exact ⟨d, rfl, rrun_sound ok.g k d.r _ hk h2⟩
theorem DX.go [ok : Ok P G] {s : Option DS} (D : DX P G F c0 R (gdE G F s)) : DX P G F c0 R s := DX.gn 80 D
def atReg (F : Fn) (c : Cfg) : Bool := match c.k with | .code p :: _ => (match codeAt F.B p with | .region .. => true | _ => false) | _ => false
def toReg (G : Tab) (F : Fn) : Nat → Cfg → Cfg
 | 0, c => c
 | m + 1, c => if atReg F c then c else match pstep G F c with | some c' => toReg G F m c' | none => c
theorem toReg_eq (G : Tab) (F : Fn) : ∀ (m : Nat) (c : Cfg), ∃ k, arun G F k c = some (toReg G F m c)
 | 0, c => ⟨0, rfl⟩
 | m + 1, c => by
  simp only [toReg]
  split
  ·exact ⟨0, rfl⟩
  ·cases h : pstep G F c with
   | none => exact ⟨0, rfl⟩
   | some c' =>
    obtain ⟨k, hk⟩ := toReg_eq G F m c'
    exact ⟨k + 1, by simp only [arun, h, Option.bind_some]; exact hk⟩
def trE (G : Tab) (F : Fn) (s : Option Cfg) : Option Cfg := match s with | some c => (match toReg G F 40 c with | ⟨k, t, h⟩ => mkC k t h) | none => none
theorem AX.tr [ok : Ok P G] {s : Option Cfg} (A : AX P G F c0 R (trE G F s)) : AX P G F c0 R s := by
 obtain ⟨c', h1, h2⟩ := A
 cases s with
 | none => cases h1
 | some c =>
  simp only [trE, mkC_eq] at h1
  injection h1 with h1
  subst h1
  obtain ⟨k, hk⟩ := toReg_eq G F 40 c
  exact ⟨c, rfl, arun_sound ok.g ok.m k c _ hk h2⟩
theorem AX.nr [ok : Ok P G] {s : Option Cfg} (D : DX P G F c0 R (rgE F (trE G F s))) : AX P G F c0 R s := .tr (.rg D)
end Go.Sh
namespace Go.Sh
variable {P : Program} {G : Tab} {F : Fn} {c0 : Ctx} {R : Ending → World → Prop} {S : Sizes}
section
variable {n : Nat} {ops : Array Oper} {i : Nat} {t : Tmps} {h : List AO}
def cvQ (G : Tab) (n : Nat) (ops : Array Oper) (i : Nat) (t : Tmps) : Option AV :=
 match opAt n ops i t with
 | some (.convert src dst x) =>
  match G.kind src with
  | .slice e => if src = dst ∧ isU8 (G.kind e) = true then some (ev t x) else none
  | _ => none
 | _ => none
theorem heap_modify_other {a : Array Obj} {g b : Nat} {f : Obj → Obj} (h : b ≠ g) : (a.modify g f)[b]? = a[b]? := by
 rw [Array.getElem?_modify]
 rw [if_neg (Ne.symm h)]
theorem LSpec.cvS [ok : Ok P G] {o k : Nat} {e : TypeId} {rows : List AV} (hne : rows ≠ []) (hk : 1000000 ≤ k) (hk2 : k < 2000000) (ho : h[o]? = some (.row e rows k true)) (hq : cvQ G n ops i t = some (.own o k)) : LSpec P G.S n ops i .loud t h (.own o 2000000) (h.set o (.row e rows 2000000 true)) := by
 unfold cvQ at hq
 split at hq
 ·rename_i src dst x hop
  split at hq
  ·rename_i e1 hk1
   split at hq
   ·rename_i hc
    obtain ⟨rfl, hu8⟩ := hc
    injection hq with hq
    have hku := isU8_spec hu8
    refine (opAt_spec hop).spec (fun hh => absurd rfl hh) fun op ρv C h2 hoq H hh hρ => ?_
    have hh := hh (by simp)
    subst hh
    have hxv := hρ x (by simp [Op.operands])
    rw [hq] at hxv
    obtain ⟨v0, kk, mn, p1, p2, p3, p4⟩ := own_inv hxv
    obtain ⟨o1, o2, o3, o4, o5⟩ := H.rel o _ _ ho p2
    subst o1
    have hv := p4 rfl
    cases mn with
    | false => exact absurd (o5 hk rfl rfl) hne
    | true =>
     obtain ⟨t0, t1, cells, t2, t3, t4⟩ := o4 rfl
     have hrow := t4 hk2
     rcases hrow.2 with ⟨_, hz⟩ | ⟨g, cap, cur, w1, _, w3, w4, w5, w6, w7⟩
     ·exact absurd (List.eq_nil_of_length_eq_zero hz) hne
     ·obtain ⟨d1, hd1, hf1⟩ := kind_desc ok.g hk1 (by simp)
      simp only [TK.fits] at hf1
      subst hf1
      obtain ⟨d3, hd3, hf3⟩ := kind_desc ok.g hku (by simp)
      simp only [TK.fits] at hf3
      subst hf3
      obtain ⟨dst', op, oty, pos, after, guard⟩ := op
      simp only at hoq
      subst hoq
      let w' : World := C.w.freeze ⟨g, cur.size, none⟩ 1
      have hw : w'.heap = C.w.heap.modify g fun
       | .cells c elem (lo, hi) => .cells c elem (if lo == hi then (cur.size, cur.size + 1) else (min lo cur.size, max hi (cur.size + 1)))
       | o => o := by
       show (C.w.freeze ⟨g, cur.size, none⟩ 1).heap = _
       unfold World.freeze
       rw [if_neg (by decide)]
       rfl
      have hg' : w'.heap[g]? = some (.cells cur e (cur.size, cur.size + 1)) := by
       rw [hw, Array.getElem?_modify, if_pos rfl, w3]
       rfl
      have hoth : ∀ b, b ≠ g → w'.heap[b]? = C.w.heap[b]? := fun b hb => by
       rw [hw]
       exact heap_modify_other hb
      have hsz : w'.heap.size = C.w.heap.size := by rw [hw]; simp
      have hol : o < C.m.length := (List.getElem?_eq_some_iff.1 p2).1
      have hmeta : w'.os = C.w.os ∧ w'.tape = C.w.tape ∧ w'.output = C.w.output := by
       show (C.w.freeze ⟨g, cur.size, none⟩ 1).os = _ ∧ (C.w.freeze ⟨g, cur.size, none⟩ 1).tape = _ ∧ (C.w.freeze ⟨g, cur.size, none⟩ 1).output = _
       unfold World.freeze
       rw [if_neg (by decide)]
       exact ⟨rfl, rfl, rfl⟩
      obtain ⟨st, hup⟩ := HRel.upd (S := G.S) (C' := ⟨w', C.m.set o (.row v0 2000000 true), C.X⟩) (o := o) (s := .row v0 k true) (s' := .row v0 2000000 true) (ob := .row e rows 2000000 true) H p2 ⟨v0, 2000000, true, rfl, .inl hk2⟩ (Nat.le_of_eq hsz.symm) hmeta.1 hmeta.2.1 hmeta.2.2
       (fun b hb hn => hoth b fun hbg => hn (by rw [hbg, w1]; simp [Slot.has, Value.ownBlock])) rfl rfl (fun b hb => .inl hb)
      have hH := hup ⟨rfl, o2, (fun hm => by cases hm), fun _ => ⟨t0, t1, cells, by
        refine ⟨hrow.1, .inr ⟨g, 0, cap, cur, (cur.size, cur.size + 1), w1, hg', .inr (Nat.le_refl _), w4, w5, by omega, ?_⟩⟩
        rw [List.drop_zero]
        exact w7, t3.mono st.mono.flat, fun hx => absurd hx (by decide)⟩, fun _ _ hm => by cases hm⟩
      refine ⟨_, st, by simpa using hH, .inl ⟨v0, ?_, ⟨v0, v0, 2000000, true, rfl, by rw [hv] at p1; exact p1, ?_, Nat.le_refl _, fun _ => rfl⟩⟩⟩
      ·have hshape : C.w.shape? g = some (e, cur.size) := by
        unfold World.shape?
        rw [w3]
       rw [w1] at hv ⊢
       simp only [execOp, hv, convert, Sem.run_bind, run_underlying hd1, Result.andThen_ok, run_underlying hd3, markStringish, shape, Sem.run, hshape, beq_self_eq_true, freeze]
       rfl
      ·show (C.m.set o _)[o]? = _
       rw [List.getElem?_set_self hol]
   ·cases hq
  ·cases hq
 ·cases hq
end
theorem DX.cvs [ok : Ok P G] {s : Option DS} (L : List Nat) (o k : Nat) (e : TypeId) (rows : List AV) (hne : rows ≠ []) (D : DX P G F c0 R (updE F L .loud (fun _ => .own o 2000000) (fun d => d.r.h.set o (.row e rows 2000000 true)) s)) (hq : cvQ G F.n (dO F s) (dI s) (dT s) = some (.own o k) := by kernel_rfl) (ho : (dH s)[o]? = some (.row e rows k true) := by kernel_rfl) (hk : 1000000 ≤ k := by decide) (hk2 : k < 2000000 := by decide) : DX P G F c0 R s := DX.opF L (LSpec.cvS hne hk hk2 ho hq) D
end Go.Sh