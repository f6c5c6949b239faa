import Derived.Calls
import Derived.Below
import Derived.Maps.AppendAt
import Derived.Laws.IdiomCopy
import Derived.Laws.Cells
import Derived.KernelRfl
import Derived.ChangeKeysEq
import Derived.Laws.StructEq
import Derived.Laws.Pointers
import Derived.Orders
import Derived.Still
import Derived.ArgAppend
set_option linter.unusedVariables false
namespace Go.Sh
inductive AV where
 | u
 | sc (v : Value)
 | arr (k : IntKind) (n : Nat) (xs : List Int)
 | agg (fs : List AV)
 | sl (e : TypeId) (rows : List AV) (full : Bool)
 | own (o k : Nat)
 | ptr (o off : Nat) (ix : Option (Nat × Nat))
 | ep (fs : List AV) (off : Nat) (ix : Option (Nat × Nat))
 | el (e : TypeId) (o k i off : Nat)
 | bsl (e : TypeId) (o off n : Nat)
 | ref (K : Nat → Value) (o : Nat)
 | fn (f : FuncId) (caps : List AV)
 | fm (o k : Nat) (ψ : Value → List Nat → Value → Prop)
 | is (ψ : Value → Prop)
 | tup (vs : List AV)
 deriving Inhabited
abbrev markE : Nat := 1000000
def epMark : List AV → TypeId
 | [] => 0
 | .sl e _ _ :: r => if markE ≤ e then markE else epMark r
 | _ :: r => epMark r
inductive Slot where
 | gone
 | blk (b : Nat)
 | row (v : Value) (k : Nat) (mine : Bool)
 | fam (v : Value) (k : Nat) (gs : List Nat) (B : Nat → Prop)
def Slot.has : Slot → Nat → Prop
 | .gone, x => none = some x
 | .blk b, x => some b = some x
 | .row v _ mine, x => (if mine then v.ownBlock else none) = some x
 | .fam _ _ _ B, x => B x
structure Keep where
 X : Nat → Prop
 P : Nat → Prop
 N : Nat
 sub : ∀ b, P b → X b
instance : CoeFun Keep (fun _ => Nat → Prop) := ⟨Keep.X⟩
theorem Keep.eq {A B : Keep} (h : A.X = B.X) (k : A.P = B.P) (n : A.N = B.N := by rfl) : A = B := by
 cases A
 cases B
 cases h
 cases k
 cases n
 rfl
def unfz (w : World) (b : Nat) : Prop := ∀ cs e fz, w.heap[b]? = some (.cells cs e fz) → fz = (0, 0) ∨ cs.size ≤ fz.1
theorem unfz_of {w w' : World} {b : Nat} (h : unfz w b) (e : w'.heap[b]? = w.heap[b]?) : unfz w' b := fun cs t fz hc => h cs t fz (e ▸ hc)
theorem unfz_cells {w : World} {b : Nat} {cs : Array Value} {e : TypeId} {fz : Nat × Nat} (h : w.heap[b]? = some (.cells cs e fz)) (hf : fz = (0, 0) ∨ cs.size ≤ fz.1) : unfz w b := by
 intro cs' e' fz' h'
 rw [h] at h'
 injection h' with h'
 injection h' with e1 e2 e3
 subst e1; subst e3
 exact hf
structure Keep.le (A B : Keep) : Prop where
 P : ∀ b, A.P b → B.P b
 N : A.N ≤ B.N
theorem Keep.le_refl (A : Keep) : A.le A := ⟨fun _ h => h, Nat.le_refl _⟩
theorem Keep.le_of_eq {A B : Keep} (h : A = B) : A.le B := by rw [h]; exact B.le_refl
theorem Keep.le_trans {A B C : Keep} (h : A.le B) (k : B.le C) : A.le C := ⟨fun b x => k.P b (h.P b x), Nat.le_trans h.N k.N⟩
structure Ctx where
 w : World
 m : List Slot
 X : Keep
def Ctx.ok (C : Ctx) (b : Nat) : Prop := ¬ C.X b ∧ ∀ s ∈ C.m, ¬ s.has b
def Ctx.okE (C : Ctx) (e : TypeId) (b : Nat) : Prop := (e < markE ∧ C.ok b ∧ (C.X.N ≤ b → unfz C.w b)) ∨ (markE ≤ e ∧ C.X.P b)
def Ctx.okM (C : Ctx) (e : TypeId) (b : Nat) : Prop := (C.ok b ∧ (C.X.N ≤ b → unfz C.w b)) ∨ (markE ≤ e ∧ C.X.P b)
def Ctx.flat (C : Ctx) : Ctx := ⟨C.w, [], ⟨fun b => C.X b ∨ ∃ s ∈ C.m, s.has b, C.X.P, C.X.N, fun b h => .inl (C.X.sub b h)⟩⟩
theorem Ctx.flat_ok (C : Ctx) (b : Nat) : C.flat.ok b ↔ C.ok b := by
 unfold Ctx.ok Ctx.flat
 constructor
 ·rintro ⟨h, _⟩
  exact ⟨fun hx => h (.inl hx), fun s hs e => h (.inr ⟨s, hs, e⟩)⟩
 ·rintro ⟨h1, h2⟩
  refine ⟨fun h => ?_, by simp⟩
  rcases h with h | ⟨s, hs, e⟩
  ·exact h1 h
  ·exact h2 s hs e
abbrev reach : Nat := 140737488355328
abbrev Sizes := TypeId → Nat × Nat
def ixo : Option (Nat × Nat) → Nat
 | some (i, _) => i
 | none => 0
def ixok : Option (Nat × Nat) → Prop
 | some (i, n) => i < n
 | none => True
mutual
def RelV (S : Sizes) : Ctx → AV → List Value → Prop
 | _, .u, _ => False
 | _, .sc v, cs => cs = [v] ∧ v.oneCell' = true
 | _, .arr k n xs, cs => xs.length = n ∧ cs = xs.map (Value.int k)
 | C, .agg fs, cs => RelL S C fs cs
 | C, .sl e rows full, cs => ∃ a c, cs = [.slice a rows.length c] ∧ rows.length ≤ c ∧ (full = true → c = rows.length) ∧ c ≤ maxLen ∧ rows.length * (S e).2 ≤ reach ∧
   (rows = [] ∨ ∃ b off, a = some ⟨b, off, none⟩ ∧ C.okE e b ∧ RelR S C.flat b (S e).1 rows off)
 | C, .own o k, cs => ∃ v' v kk mn, cs = [v'] ∧ v'.oneCell' = true ∧ C.m[o]? = some (.row v kk mn) ∧ k ≤ kk ∧ (k = kk → v' = v)
 | C, .ptr o off ix, cs => ∃ b, C.m[o]? = some (.blk b) ∧ ixok ix ∧ cs = [.pointer (some ⟨b, off + ixo ix, none⟩)]
 | C, .ep fs off ix, cs => ∃ b o0 cells, cs = [.pointer (some ⟨b, o0 + (off + ixo ix), none⟩)] ∧ ixok ix ∧ C.okM (epMark fs) b ∧ RelL S C.flat fs cells ∧ cells ≠ [] ∧
   ∀ j v, cells[j]? = some v → C.w.cell? ⟨b, o0 + j, none⟩ = some v
 | C, .el e o k i off, cs => ∃ p v kk mn, cs = [p] ∧ p.oneCell' = true ∧ C.m[o]? = some (.row v kk mn) ∧ k ≤ kk ∧
   (k = kk → ∃ g a0 n c, v = .slice (some ⟨g, a0, none⟩) n c ∧ i < n ∧ p = .pointer (some ⟨g, a0 + (i * (S e).1 + off), none⟩))
 | C, .bsl _ o off n, cs => ∃ b, C.m[o]? = some (.blk b) ∧ cs = [.slice (some ⟨b, off, none⟩) n n]
 | C, .ref K o, cs => ∃ b, C.m[o]? = some (.blk b) ∧ cs = [K b] ∧ (K b).oneCell' = true
 | C, .fn f caps, cs => ∃ vs, cs = [.func (.func f) #[] vs] ∧ RelL S C caps vs.toList
 | C, .fm o k ψ, cs => ∃ x v kk gs B, cs = [x] ∧ x.oneCell' = true ∧ C.m[o]? = some (.fam v kk gs B) ∧ k ≤ kk ∧ (k = kk → ψ v gs x)
 | _, .is ψ, cs => ∃ x, cs = [x] ∧ x.oneCell' = true ∧ ψ x
 | _, .tup vs, _ => False
def RelL (S : Sizes) : Ctx → List AV → List Value → Prop
 | _, [], cs => cs = []
 | C, f :: fs, cs => ∃ c1 c2, cs = c1 ++ c2 ∧ RelV S C f c1 ∧ RelL S C fs c2
def RelR (S : Sizes) : Ctx → (b sz : Nat) → List AV → Nat → Prop
 | _, _, _, [], _ => True
 | C, b, sz, r :: rs, off => (∃ cs, RelV S C r cs ∧ cs.length = sz ∧ cs ≠ [] ∧ ∀ j v, cs[j]? = some v → C.w.cell? ⟨b, off + j, none⟩ = some v) ∧ RelR S C b sz rs (off + sz)
end
def VRel1 (S : Sizes) (C : Ctx) : AV → Value → Prop
 | .u, _ => True
 | .agg fs, v => ∃ cs, v = .agg cs ∧ RelL S C fs cs.toList
 | .arr k n xs, v => xs.length = n ∧ v = .agg (xs.map (Value.int k)).toArray
 | .tup _, _ => False
 | a, v => RelV S C a [v]
inductive VRels (S : Sizes) (C : Ctx) : List AV → List Value → Prop
 | nil : VRels S C [] []
 | cons {a : AV} {v : Value} {aas : List AV} {vs : List Value} : VRel1 S C a v → VRels S C aas vs → VRels S C (a :: aas) (v :: vs)
def VRel (S : Sizes) (C : Ctx) : AV → Value → Prop
 | .tup vs, v => ∃ l, v = .tuple l ∧ VRels S C vs l.toList
 | a, v => VRel1 S C a v
def Slot.le : Slot → Slot → Prop
 | .gone, s => s = .gone
 | .blk b, s => s = .blk b
 | .row v k mn, s => ∃ v' k' mn', s = .row v' k' mn' ∧ (k < k' ∨ (k = k' ∧ v = v'))
 | .fam v k gs B, s => ∃ v' k' gs' B', s = .fam v' k' gs' B' ∧ (k < k' ∨ (k = k' ∧ v = v' ∧ gs = gs'))
theorem Slot.le_refl (s : Slot) : s.le s := by
 cases s with
 | gone => rfl
 | blk b => rfl
 | row v k mn => exact ⟨v, k, mn, rfl, .inr ⟨rfl, rfl⟩⟩
 | fam v k gs B => exact ⟨v, k, gs, B, rfl, .inr ⟨rfl, rfl, rfl⟩⟩
theorem Slot.le_trans {a b c : Slot} (h : a.le b) (k : b.le c) : a.le c := by
 cases a with
 | gone => cases h; exact k
 | blk x => cases h; exact k
 | row v n mn =>
  obtain ⟨v', n', mn', rfl, h⟩ := h
  obtain ⟨v'', n'', mn'', rfl, k⟩ := k
  refine ⟨v'', n'', mn'', rfl, ?_⟩
  rcases h with h | ⟨rfl, rfl⟩
  ·rcases k with k | ⟨rfl, rfl⟩
   ·exact .inl (by omega)
   ·exact .inl h
  ·exact k
 | fam v n gs B =>
  obtain ⟨v', n', gs', B', rfl, h⟩ := h
  obtain ⟨v'', n'', gs'', B'', rfl, k⟩ := k
  refine ⟨v'', n'', gs'', B'', rfl, ?_⟩
  rcases h with h | ⟨rfl, rfl, rfl⟩
  ·rcases k with k | ⟨rfl, rfl, rfl⟩
   ·exact .inl (by omega)
   ·exact .inl h
  ·exact k
structure Step (C C' : Ctx) : Prop where
 os : C'.w.os = C.w.os
 tape : C'.w.tape = C.w.tape
 output : C'.w.output = C.w.output
 size : C.w.heap.size ≤ C'.w.heap.size
 block : ∀ b, b < C.w.heap.size → (∀ s ∈ C.m, ¬ s.has b) → C'.w.heap[b]? = C.w.heap[b]?
 ok : ∀ b, b < C.w.heap.size → C.ok b → C'.ok b
 fresh : ∀ b, b < C.w.heap.size → (∀ s ∈ C.m, ¬ s.has b) → ∀ s ∈ C'.m, ¬ s.has b
 slot : ∀ (o : Nat) (s : Slot), C.m[o]? = some s → ∃ s', C'.m[o]? = some s' ∧ s.le s'
 X : C'.X = C.X
 keep : ∀ b, b < C.w.heap.size → C.X.P b → C'.w.heap[b]? = C.w.heap[b]?
theorem Step.refl (C : Ctx) : Step C C := ⟨rfl, rfl, rfl, Nat.le_refl _, fun _ _ _ => rfl, fun _ _ h => h, fun _ _ h => h, fun _ s h => ⟨s, h, s.le_refl⟩, rfl, fun _ _ _ => rfl⟩
theorem Step.trans {A B C : Ctx} (h : Step A B) (k : Step B C) : Step A C where
 os := k.os.trans h.os
 tape := k.tape.trans h.tape
 output := k.output.trans h.output
 size := Nat.le_trans h.size k.size
 block := fun b hb hn => (k.block b (Nat.lt_of_lt_of_le hb h.size) (h.fresh b hb hn)).trans (h.block b hb hn)
 ok := fun b hb ho => k.ok b (Nat.lt_of_lt_of_le hb h.size) (h.ok b hb ho)
 fresh := fun b hb hn => k.fresh b (Nat.lt_of_lt_of_le hb h.size) (h.fresh b hb hn)
 slot := fun o s hs => by
  obtain ⟨s', hs', hl⟩ := h.slot o s hs
  obtain ⟨s'', hs'', hl'⟩ := k.slot o s' hs'
  exact ⟨s'', hs'', Slot.le_trans hl hl'⟩
 X := k.X.trans h.X
 keep := fun b hb hp => (k.keep b (Nat.lt_of_lt_of_le hb h.size) (by rw [h.X]; exact hp)).trans (h.keep b hb hp)
structure StepW (C C' : Ctx) : Prop where
 os : C'.w.os = C.w.os
 tape : C'.w.tape = C.w.tape
 output : C'.w.output = C.w.output
 size : C.w.heap.size ≤ C'.w.heap.size
 block : ∀ b, b < C.w.heap.size → (∀ s ∈ C.m, ¬ s.has b) → C'.w.heap[b]? = C.w.heap[b]?
 ok : ∀ b, b < C.w.heap.size → C.ok b → C'.ok b
 fresh : ∀ b, b < C.w.heap.size → (∀ s ∈ C.m, ¬ s.has b) → ∀ s ∈ C'.m, ¬ s.has b
 blk : ∀ (o b : Nat), C.m[o]? = some (.blk b) → C'.m[o]? = some (.blk b)
 row : ∀ (o : Nat) (v : Value) (k : Nat) (mn : Bool), C.m[o]? = some (.row v k mn) → ∃ v' k' mn', C'.m[o]? = some (.row v' k' mn')
 fam : ∀ (o : Nat) (v : Value) (k : Nat) (gs : List Nat) (B : Nat → Prop), C.m[o]? = some (.fam v k gs B) → ∃ s', C'.m[o]? = some s' ∧ (Slot.fam v k gs B).le s'
 X : C'.X = C.X
 keep : ∀ b, b < C.w.heap.size → C.X.P b → C'.w.heap[b]? = C.w.heap[b]?
theorem Step.w {C C' : Ctx} (h : Step C C') : StepW C C' where
 os := h.os
 tape := h.tape
 output := h.output
 size := h.size
 block := h.block
 ok := h.ok
 fresh := h.fresh
 blk := fun o b ho => by
  obtain ⟨s', h1, h2⟩ := h.slot o _ ho
  rw [h1, h2]
 row := fun o v k mn ho => by
  obtain ⟨s', h1, v', k', mn', h2, _⟩ := h.slot o _ ho
  exact ⟨v', k', mn', by rw [h1, h2]⟩
 fam := fun o v k gs B ho => by
  exact h.slot o _ ho
 X := h.X
 keep := h.keep
theorem StepW.refl (C : Ctx) : StepW C C := (Step.refl C).w
theorem StepW.transW {A B C : Ctx} (h : StepW A B) (k : StepW B C) : StepW A C where
 os := k.os.trans h.os
 tape := k.tape.trans h.tape
 output := k.output.trans h.output
 size := Nat.le_trans h.size k.size
 block := fun b hb hn => (k.block b (Nat.lt_of_lt_of_le hb h.size) (h.fresh b hb hn)).trans (h.block b hb hn)
 ok := fun b hb ho => k.ok b (Nat.lt_of_lt_of_le hb h.size) (h.ok b hb ho)
 fresh := fun b hb hn => k.fresh b (Nat.lt_of_lt_of_le hb h.size) (h.fresh b hb hn)
 blk := fun o b ho => k.blk o b (h.blk o b ho)
 row := fun o v kk mn ho => by
  obtain ⟨v', k', mn', h1⟩ := h.row o v kk mn ho
  exact k.row o v' k' mn' h1
 fam := fun o v kk gs B ho => by
  obtain ⟨s', h1, h2⟩ := h.fam o v kk gs B ho
  have h3 := h2
  obtain ⟨v', k', gs', B', rfl, _⟩ := h2
  obtain ⟨s'', h4, h5⟩ := k.fam o v' k' gs' B' h1
  exact ⟨s'', h4, Slot.le_trans h3 h5⟩
 X := k.X.trans h.X
 keep := fun b hb hp => (k.keep b (Nat.lt_of_lt_of_le hb h.size) (by rw [h.X]; exact hp)).trans (h.keep b hb hp)
theorem StepW.trans {A B C : Ctx} (h : StepW A B) (k : Step B C) : StepW A C := h.transW k.w
structure Mono (C C' : Ctx) : Prop where
 size : C.w.heap.size ≤ C'.w.heap.size
 block : ∀ b, b < C.w.heap.size → C.ok b → C'.w.heap[b]? = C.w.heap[b]?
 ok : ∀ b, b < C.w.heap.size → C.ok b → C'.ok b
 slot : ∀ (o : Nat) (s : Slot), C.m[o]? = some s → ∃ s', C'.m[o]? = some s' ∧ s.le s'
 keep : ∀ b, b < C.w.heap.size → C.X.P b → C'.w.heap[b]? = C.w.heap[b]?
 P : C.X.le C'.X
theorem Step.mono {C C' : Ctx} (h : Step C C') : Mono C C' := ⟨h.size, fun b hb ho => h.block b hb ho.2, h.ok, h.slot, h.keep, Keep.le_of_eq h.X.symm⟩
theorem Mono.flat {C C' : Ctx} (h : Mono C C') : Mono C.flat C'.flat :=
 ⟨h.size, fun b hb ho => h.block b hb ((C.flat_ok b).1 ho), fun b hb ho => (C'.flat_ok b).2 (h.ok b hb ((C.flat_ok b).1 ho)), fun o s hs => by simp [Ctx.flat] at hs, h.keep, ⟨h.P.P, h.P.N⟩⟩
theorem Mono.unflat (C : Ctx) : Mono C.flat C :=
 ⟨Nat.le_refl _, fun _ _ _ => rfl, fun b _ ho => (C.flat_ok b).1 ho, fun o s hs => by simp [Ctx.flat] at hs, fun _ _ _ => rfl, ⟨fun _ h => h, Nat.le_refl _⟩⟩
def Ctx.rd (C : Ctx) (b : Nat) : Prop := C.ok b ∨ C.X.P b
theorem Ctx.okE.rd {C : Ctx} {e : TypeId} {b : Nat} (h : C.okE e b) : C.rd b := h.imp (fun x => x.2.1) And.right
theorem Ctx.okM.rd {C : Ctx} {e : TypeId} {b : Nat} (h : C.okM e b) : C.rd b := h.imp And.left And.right
theorem Ctx.flat_okE (C : Ctx) (e : TypeId) (b : Nat) : C.flat.okE e b ↔ C.okE e b := by
 unfold Ctx.okE
 rw [Ctx.flat_ok]
 exact Iff.rfl
theorem Ctx.okE.ok {C : Ctx} {e : TypeId} {b : Nat} (h : C.okE e b) (he : e < markE) : C.ok b := (h.resolve_right fun x => absurd x.1 (Nat.not_le_of_lt he)).2.1
theorem Ctx.okM.ok {C : Ctx} {e : TypeId} {b : Nat} (h : C.okM e b) (he : e < markE) : C.ok b := (h.resolve_right fun x => absurd x.1 (Nat.not_le_of_lt he)).1
theorem Ctx.okM.okU {C : Ctx} {e : TypeId} {b : Nat} (h : C.okM e b) (he : e < markE) : C.ok b ∧ (C.X.N ≤ b → unfz C.w b) := h.resolve_right fun x => absurd x.1 (Nat.not_le_of_lt he)
def epOk (e e' : TypeId) (fs : List AV) : Bool := (e == e' && decide (e < markE)) || decide (markE ≤ epMark fs)
theorem Ctx.okE.ep {C : Ctx} {e e' : TypeId} {fs : List AV} {b : Nat} (h : C.okE e' b) (he : epOk e e' fs = true) : C.okM (epMark fs) b := by
 unfold epOk at he
 rw [Bool.or_eq_true, Bool.and_eq_true, beq_iff_eq, decide_eq_true_eq, decide_eq_true_eq] at he
 rcases he with ⟨rfl, he⟩ | he
 ·exact .inl (h.resolve_right fun x => absurd x.1 (Nat.not_le_of_lt he)).2
 ·exact h.imp And.right fun x => ⟨he, x.2⟩
theorem Mono.okE {C C' : Ctx} (h : Mono C C') {e : TypeId} {b : Nat} (hb : b < C.w.heap.size) (ho : C.okE e b) : C'.okE e b := ho.imp (fun x => ⟨x.1, h.ok b hb x.2.1, fun hn => unfz_of (x.2.2 (Nat.le_trans h.P.N hn)) (h.block b hb x.2.1)⟩) fun x => ⟨x.1, h.P.P b x.2⟩
theorem Mono.okM {C C' : Ctx} (h : Mono C C') {e : TypeId} {b : Nat} (hb : b < C.w.heap.size) (ho : C.okM e b) : C'.okM e b := ho.imp (fun x => ⟨h.ok b hb x.1, fun hn => unfz_of (x.2 (Nat.le_trans h.P.N hn)) (h.block b hb x.1)⟩) fun x => ⟨x.1, h.P.P b x.2⟩
theorem Mono.blockE {C C' : Ctx} (h : Mono C C') {b : Nat} (hb : b < C.w.heap.size) (ho : C.rd b) : C'.w.heap[b]? = C.w.heap[b]? := ho.elim (h.block b hb) (h.keep b hb)
theorem Mono.cell {C C' : Ctx} (h : Mono C C') {a : Addr} {v : Value} (hok : C.rd a.block) (hc : C.w.cell? a = some v) : C'.w.cell? a = some v := by
 have hb := World.block_lt_of_cell? C.w a hc
 rw [World.cell?_of_block (h.blockE hb hok)]
 exact hc
mutual
theorem RelV.mono {S : Sizes} {C C' : Ctx} (h : Mono C C') : ∀ (a : AV) (cs : List Value), RelV S C a cs → RelV S C' a cs
 | .u, _, r => r.elim
 | .sc v, cs, r => r
 | .arr k n xs, cs, r => r
 | .agg fs, cs, r => RelL.mono h fs cs r
 | .sl e rows full, cs, r => by
  obtain ⟨a, c, h1, h2, h3, h4, h5, h6⟩ := r
  refine ⟨a, c, h1, h2, h3, h4, h5, ?_⟩
  rcases h6 with h6 | ⟨b, off, h6, h7, h8⟩
  ·exact .inl h6
  ·cases rows with
   | nil => exact .inl rfl
   | cons r0 rs =>
    refine .inr ⟨b, off, h6, ?_, RelR.mono h.flat b _ (r0 :: rs) off ((C.flat_okE e b).2 h7).rd h8⟩
    obtain ⟨⟨cs', hr, hl, hne, hc⟩, _⟩ := h8
    have : 0 < cs'.length := List.length_pos_iff.2 hne
    have hcell := hc 0 cs'[0] (by simp)
    exact h.okE (World.block_lt_of_cell? C.w _ hcell) h7
 | .own o k, cs, r => by
  obtain ⟨v', v, kk, mn, h1, h2, h3, h4, h5⟩ := r
  obtain ⟨s', hs', hle⟩ := h.slot o _ h3
  obtain ⟨v2, k2, mn2, rfl, hk⟩ := hle
  refine ⟨v', v2, k2, mn2, h1, h2, hs', ?_, ?_⟩
  ·rcases hk with hk | ⟨rfl, rfl⟩ <;> omega
  ·intro e
   rcases hk with hk | ⟨rfl, rfl⟩
   ·omega
   ·exact h5 e
 | .ptr o off ix, cs, r => by
  obtain ⟨b, h1, h2⟩ := r
  obtain ⟨s', hs', hle⟩ := h.slot o _ h1
  cases hle
  exact ⟨b, hs', h2⟩
 | .el e o k i off, cs, r => by
  obtain ⟨p, v, kk, mn, h1, h2, h3, h4, h5⟩ := r
  obtain ⟨s', hs', hle⟩ := h.slot o _ h3
  obtain ⟨v2, k2, mn2, rfl, hk⟩ := hle
  refine ⟨p, v2, k2, mn2, h1, h2, hs', ?_, ?_⟩
  ·rcases hk with hk | ⟨rfl, rfl⟩ <;> omega
  ·intro e
   rcases hk with hk | ⟨rfl, rfl⟩
   ·omega
   ·exact h5 e
 | .bsl e o off n, cs, r => by
  obtain ⟨b, h1, h2⟩ := r
  obtain ⟨s', hs', hle⟩ := h.slot o _ h1
  cases hle
  exact ⟨b, hs', h2⟩
 | .ref K o, cs, r => by
  obtain ⟨b, h1, h2⟩ := r
  obtain ⟨s', hs', hle⟩ := h.slot o _ h1
  cases hle
  exact ⟨b, hs', h2⟩
 | .ep fs off ix, cs, r => by
  obtain ⟨b, o0, cells, h1, hi, h2, h3, h4, h5⟩ := r
  refine ⟨b, o0, cells, h1, hi, ?_, RelL.mono h.flat fs cells h3, h4, fun j v hj => h.cell (a := ⟨b, o0 + j, none⟩) h2.rd (h5 j v hj)⟩
  have : 0 < cells.length := List.length_pos_iff.2 h4
  have hcell := h5 0 cells[0] (by simp)
  exact h.okM (World.block_lt_of_cell? C.w _ hcell) h2
 | .fn f caps, cs, r => by
  obtain ⟨vs, h1, h2⟩ := r
  exact ⟨vs, h1, RelL.mono h caps _ h2⟩
 | .fm o k ψ, cs, r => by
  obtain ⟨x, v, kk, gs, B, h1, h2, h3, h4, h5⟩ := r
  obtain ⟨s', hs', hle⟩ := h.slot o _ h3
  obtain ⟨v2, k2, gs2, B2, rfl, hk⟩ := hle
  refine ⟨x, v2, k2, gs2, B2, h1, h2, hs', ?_, ?_⟩
  ·rcases hk with hk | ⟨rfl, rfl, rfl⟩ <;> omega
  ·intro e
   rcases hk with hk | ⟨rfl, rfl, rfl⟩
   ·omega
   ·exact h5 e
 | .is ψ, cs, r => r
 | .tup vs, _, r => r.elim
theorem RelL.mono {S : Sizes} {C C' : Ctx} (h : Mono C C') : ∀ (fs : List AV) (cs : List Value), RelL S C fs cs → RelL S C' fs cs
 | [], _, r => r
 | f :: fs, cs, r => by
  obtain ⟨c1, c2, h1, h2, h3⟩ := r
  exact ⟨c1, c2, h1, RelV.mono h f c1 h2, RelL.mono h fs c2 h3⟩
theorem RelR.mono {S : Sizes} {C C' : Ctx} (h : Mono C C') (b sz : Nat) : ∀ (rs : List AV) (off : Nat), C.rd b → RelR S C b sz rs off → RelR S C' b sz rs off
 | [], _, _, _ => trivial
 | r :: rs, off, hok, hr => by
  obtain ⟨⟨cs, h1, h2, h3, h4⟩, h5⟩ := hr
  exact ⟨⟨cs, RelV.mono h r cs h1, h2, h3, fun j v hj => h.cell (a := ⟨b, off + j, none⟩) hok (h4 j v hj)⟩, RelR.mono h b sz rs _ hok h5⟩
end
theorem RelV.step {S : Sizes} {C C' : Ctx} (h : Step C C') (a : AV) (cs : List Value) (r : RelV S C a cs) : RelV S C' a cs := RelV.mono h.mono a cs r
theorem RelL.step {S : Sizes} {C C' : Ctx} (h : Step C C') (fs : List AV) (cs : List Value) (r : RelL S C fs cs) : RelL S C' fs cs := RelL.mono h.mono fs cs r
theorem VRel1.mono {S : Sizes} {C C' : Ctx} (h : Mono C C') {a : AV} {v : Value} (r : VRel1 S C a v) : VRel1 S C' a v := by
 cases a with
 | u => trivial
 | agg fs => obtain ⟨cs, h1, h2⟩ := r; exact ⟨cs, h1, RelL.mono h _ _ h2⟩
 | arr k n xs => exact r
 | tup vs => exact r.elim
 | sc w => exact RelV.mono h _ _ r
 | sl e rows full => exact RelV.mono h _ _ r
 | own o k => exact RelV.mono h _ _ r
 | ptr o off ix => exact RelV.mono h _ _ r
 | ep fs off ix => exact RelV.mono h _ _ r
 | el e o k i off => exact RelV.mono h _ _ r
 | bsl e o off n => exact RelV.mono h _ _ r
 | ref K o => exact RelV.mono h _ _ r
 | fn f caps => exact RelV.mono h _ _ r
 | fm o k ψ => exact RelV.mono h _ _ r
 | is ψ => exact RelV.mono h _ _ r
theorem VRels.mono {S : Sizes} {C C' : Ctx} (h : Mono C C') {aas : List AV} {vs : List Value} (r : VRels S C aas vs) : VRels S C' aas vs := by
 induction r with
 | nil => exact .nil
 | cons h1 _ ih => exact .cons (h1.mono h) ih
theorem VRel.mono {S : Sizes} {C C' : Ctx} (h : Mono C C') {a : AV} {v : Value} (r : VRel S C a v) : VRel S C' a v := by
 cases a with
 | tup vs => obtain ⟨l, h1, h2⟩ := r; exact ⟨l, h1, h2.mono h⟩
 | u => trivial
 | agg fs => exact VRel1.mono (S := S) (a := .agg fs) h r
 | arr k n xs => exact r
 | sc w => exact VRel1.mono (S := S) (a := .sc w) h r
 | sl e rows full => exact VRel1.mono (S := S) (a := .sl e rows full) h r
 | own o k => exact VRel1.mono (S := S) (a := .own o k) h r
 | ptr o off ix => exact VRel1.mono (S := S) (a := .ptr o off ix) h r
 | ep fs off ix => exact VRel1.mono (S := S) (a := .ep fs off ix) h r
 | el e o k i off => exact VRel1.mono (S := S) (a := .el e o k i off) h r
 | bsl e o off n => exact VRel1.mono (S := S) (a := .bsl e o off n) h r
 | ref K o => exact VRel1.mono (S := S) (a := .ref K o) h r
 | fn f caps => exact VRel1.mono (S := S) (a := .fn f caps) h r
 | fm o k ψ => exact VRel1.mono (S := S) (a := .fm o k ψ) h r
 | is ψ => exact VRel1.mono (S := S) (a := .is ψ) h r
theorem VRel.step {S : Sizes} {C C' : Ctx} (h : Step C C') {a : AV} {v : Value} (r : VRel S C a v) : VRel S C' a v := r.mono h.mono
mutual
def plainA : AV → Bool
 | .sc _ | .arr .. | .sl .. | .ep .. | .is .. => true
 | .agg fs => plainL fs
 | .fn _ caps => plainL caps
 | _ => false
def plainL : List AV → Bool
 | [] => true
 | f :: fs => plainA f && plainL fs
end
structure Under (C D : Ctx) : Prop where
 w : D.w = C.w
 ok : ∀ b, C.ok b → D.ok b
 P : C.X.le D.X
theorem Under.okE {C D : Ctx} (h : Under C D) {e : TypeId} {b : Nat} (ho : C.okE e b) : D.okE e b := ho.imp (fun x => ⟨x.1, h.ok b x.2.1, fun hn => unfz_of (x.2.2 (Nat.le_trans h.P.N hn)) (by rw [h.w])⟩) fun x => ⟨x.1, h.P.P b x.2⟩
theorem Under.okM {C D : Ctx} (h : Under C D) {e : TypeId} {b : Nat} (ho : C.okM e b) : D.okM e b := ho.imp (fun x => ⟨h.ok b x.1, fun hn => unfz_of (x.2 (Nat.le_trans h.P.N hn)) (by rw [h.w])⟩) fun x => ⟨x.1, h.P.P b x.2⟩
theorem Under.flat {C D : Ctx} (h : Under C D) : Mono C.flat D.flat := by
 refine ⟨?_, ?_, ?_, ?_, ?_, ⟨h.P.P, h.P.N⟩⟩
 ·show C.w.heap.size ≤ D.w.heap.size
  rw [h.w]; exact Nat.le_refl _
 ·intro b _ _
  show D.w.heap[b]? = C.w.heap[b]?
  rw [h.w]
 ·intro b _ ho
  exact (D.flat_ok b).2 (h.ok b ((C.flat_ok b).1 ho))
 ·intro o s hs
  simp [Ctx.flat] at hs
 ·intro b _ _
  show D.w.heap[b]? = C.w.heap[b]?
  rw [h.w]
theorem Under.toFlat (C : Ctx) : Under C C.flat := ⟨rfl, fun b h => (C.flat_ok b).2 h, ⟨fun _ h => h, Nat.le_refl _⟩⟩
mutual
theorem RelV.plain {S : Sizes} {C D : Ctx} (h : Under C D) : ∀ (a : AV) (cs : List Value), plainA a = true → RelV S C a cs → RelV S D a cs
 | .u, _, hp, _ => by simp [plainA] at hp
 | .sc v, cs, _, r => r
 | .arr k n xs, cs, _, r => r
 | .agg fs, cs, hp, r => RelL.plain h fs cs (by simpa [plainA] using hp) r
 | .sl e rows full, cs, _, r => by
  obtain ⟨a, c, h1, h2, h3, h4, h5, h6⟩ := r
  refine ⟨a, c, h1, h2, h3, h4, h5, h6.imp id ?_⟩
  rintro ⟨b, off, k1, k2, k3⟩
  exact ⟨b, off, k1, h.okE k2, RelR.mono h.flat b _ rows off ((C.flat_okE e b).2 k2).rd k3⟩
 | .own o k, _, hp, _ => by simp [plainA] at hp
 | .ptr o off ix, _, hp, _ => by simp [plainA] at hp
 | .el e o k i off, _, hp, _ => by simp [plainA] at hp
 | .bsl e o off n, _, hp, _ => by simp [plainA] at hp
 | .ref K o, _, hp, _ => by simp [plainA] at hp
 | .ep fs off ix, cs, _, r => by
  obtain ⟨b, o0, cells, h1, hi, h2, h3, h4, h5⟩ := r
  exact ⟨b, o0, cells, h1, hi, h.okM h2, RelL.mono h.flat fs cells h3, h4, fun j v hj => by rw [h.w]; exact h5 j v hj⟩
 | .fn f caps, cs, hp, r => by
  obtain ⟨vs, h1, h2⟩ := r
  exact ⟨vs, h1, RelL.plain h caps _ (by simpa [plainA] using hp) h2⟩
 | .fm o k ψ, _, hp, _ => by simp [plainA] at hp
 | .is ψ, _, _, r => r
 | .tup vs, _, hp, _ => by simp [plainA] at hp
theorem RelL.plain {S : Sizes} {C D : Ctx} (h : Under C D) : ∀ (fs : List AV) (cs : List Value), plainL fs = true → RelL S C fs cs → RelL S D fs cs
 | [], _, _, r => r
 | f :: fs, cs, hp, r => by
  obtain ⟨c1, c2, h1, h2, h3⟩ := r
  simp only [plainL, Bool.and_eq_true] at hp
  exact ⟨c1, c2, h1, RelV.plain h f c1 hp.1 h2, RelL.plain h fs c2 hp.2 h3⟩
end
theorem VRel1.plain {S : Sizes} {C D : Ctx} (h : Under C D) {a : AV} {v : Value} (hp : plainA a = true) (r : VRel1 S C a v) : VRel1 S D a v := by
 cases a with
 | agg fs => obtain ⟨cs, h1, h2⟩ := r; exact ⟨cs, h1, RelL.plain h _ _ (by simpa [plainA] using hp) h2⟩
 | arr k n xs => exact r
 | sc w => exact r
 | sl e rows full => exact RelV.plain h _ _ hp r
 | ep fs off ix => exact RelV.plain h _ _ hp r
 | fn f caps => exact RelV.plain h _ _ hp r
 | is ψ => exact r
 | _ => simp [plainA] at hp
theorem VRel.plain {S : Sizes} {C D : Ctx} (h : Under C D) {a : AV} {v : Value} (hp : plainA a = true) (r : VRel S C a v) : VRel S D a v := by
 cases a with
 | tup vs => simp [plainA] at hp
 | agg fs => exact VRel1.plain (a := .agg fs) h hp r
 | arr k n xs => exact r
 | sc w => exact r
 | sl e rows full => exact RelV.plain h _ _ hp r
 | ep fs off ix => exact RelV.plain h _ _ hp r
 | fn f caps => exact RelV.plain h _ _ hp r
 | is ψ => exact r
 | _ => simp [plainA] at hp
def AV.sz : AV → Nat
 | .arr _ n _ => n
 | .agg fs => go fs
 | _ => 1
where go : List AV → Nat
 | [] => 0
 | f :: fs => f.sz + go fs
def dropC : List AV → Nat → Option (List AV)
 | fs, 0 => some fs
 | [], _ + 1 => none
 | f :: fs, n + 1 => if f.sz ≤ n + 1 then dropC fs (n + 1 - f.sz) else none
def takeC : List AV → Nat → Option (List AV)
 | _, 0 => some []
 | [], _ + 1 => none
 | f :: fs, n + 1 => if f.sz ≤ n + 1 then (takeC fs (n + 1 - f.sz)).map (f :: ·) else none
mutual
theorem RelV.len {S : Sizes} {C : Ctx} : ∀ (a : AV) (cs : List Value), RelV S C a cs → cs.length = a.sz
 | .u, _, r => r.elim
 | .sc v, cs, r => by rw [r.1]; rfl
 | .arr k n xs, cs, r => by rw [r.2, List.length_map, r.1]; rfl
 | .agg fs, cs, r => RelL.len fs cs r
 | .sl e rows full, cs, r => by obtain ⟨a, c, h1, _⟩ := r; rw [h1]; rfl
 | .own o k, cs, r => by obtain ⟨v', v, kk, mn, h1, _⟩ := r; rw [h1]; rfl
 | .ptr o off ix, cs, r => by obtain ⟨b, _, _, h1⟩ := r; rw [h1]; rfl
 | .el e o k i off, cs, r => by obtain ⟨p, v, kk, mn, h1, _⟩ := r; rw [h1]; rfl
 | .bsl e o off n, cs, r => by obtain ⟨b, _, h1⟩ := r; rw [h1]; rfl
 | .ref K o, cs, r => by obtain ⟨b, _, h1, _⟩ := r; rw [h1]; rfl
 | .ep fs off ix, cs, r => by obtain ⟨b, o0, cells, h1, _⟩ := r; rw [h1]; rfl
 | .fn f caps, cs, r => by obtain ⟨vs, h1, _⟩ := r; rw [h1]; rfl
 | .fm o k ψ, cs, r => by obtain ⟨x, v, kk, gs, B, h1, _⟩ := r; rw [h1]; rfl
 | .is ψ, cs, r => by obtain ⟨x, h1, _⟩ := r; rw [h1]; rfl
 | .tup vs, _, r => r.elim
theorem RelL.len {S : Sizes} {C : Ctx} : ∀ (fs : List AV) (cs : List Value), RelL S C fs cs → cs.length = AV.sz.go fs
 | [], cs, r => by rw [show cs = [] from r]; rfl
 | f :: fs, cs, r => by
  obtain ⟨c1, c2, h1, h2, h3⟩ := r
  rw [h1, List.length_append, RelV.len f c1 h2, RelL.len fs c2 h3]
  rfl
end
mutual
theorem RelV.one {S : Sizes} {C : Ctx} : ∀ (a : AV) (cs : List Value), RelV S C a cs → ∀ v ∈ cs, v.oneCell' = true
 | .u, _, r => r.elim
 | .sc v, cs, r => by rw [r.1]; simpa using r.2
 | .arr k n xs, cs, r => by rw [r.2]; intro v hv; obtain ⟨x, _, rfl⟩ := List.mem_map.1 hv; rfl
 | .agg fs, cs, r => RelL.one fs cs r
 | .sl e rows full, cs, r => by obtain ⟨a, c, h1, _⟩ := r; rw [h1]; simp [Value.oneCell']
 | .own o k, cs, r => by obtain ⟨v', v, kk, mn, h1, h2, _⟩ := r; rw [h1]; simpa using h2
 | .ptr o off ix, cs, r => by obtain ⟨b, _, _, h1⟩ := r; rw [h1]; simp [Value.oneCell']
 | .el e o k i off, cs, r => by obtain ⟨p, v, kk, mn, h1, h2, _⟩ := r; rw [h1]; simpa using h2
 | .bsl e o off n, cs, r => by obtain ⟨b, _, h1⟩ := r; rw [h1]; simp [Value.oneCell']
 | .ref K o, cs, r => by obtain ⟨b, _, h1, h2⟩ := r; rw [h1]; simpa using h2
 | .ep fs off ix, cs, r => by obtain ⟨b, o0, cells, h1, _⟩ := r; rw [h1]; simp [Value.oneCell']
 | .fn f caps, cs, r => by obtain ⟨vs, h1, _⟩ := r; rw [h1]; simp [Value.oneCell']
 | .fm o k ψ, cs, r => by obtain ⟨x, v, kk, gs, B, h1, h2, _⟩ := r; rw [h1]; simpa using h2
 | .is ψ, cs, r => by obtain ⟨x, h1, h2, _⟩ := r; rw [h1]; simpa using h2
 | .tup vs, _, r => r.elim
theorem RelL.one {S : Sizes} {C : Ctx} : ∀ (fs : List AV) (cs : List Value), RelL S C fs cs → ∀ v ∈ cs, v.oneCell' = true
 | [], cs, r => by rw [show cs = [] from r]; simp
 | f :: fs, cs, r => by
  obtain ⟨c1, c2, h1, h2, h3⟩ := r
  intro v hv
  rw [h1] at hv
  rcases List.mem_append.1 hv with hv | hv
  ·exact RelV.one f c1 h2 v hv
  ·exact RelL.one fs c2 h3 v hv
end
theorem RelL.drop {S : Sizes} {C : Ctx} : ∀ (fs : List AV) (n : Nat) (gs : List AV) (cs : List Value), dropC fs n = some gs → RelL S C fs cs → n ≤ cs.length ∧ RelL S C gs (cs.drop n)
 | fs, 0, gs, cs, h, r => by
  have : fs = gs := by cases fs <;> simpa [dropC] using h
  subst this
  exact ⟨Nat.zero_le _, r⟩
 | [], n + 1, gs, cs, h, r => by simp [dropC] at h
 | f :: fs, n + 1, gs, cs, h, r => by
  obtain ⟨c1, c2, rfl, h2, h3⟩ := r
  have hl := RelV.len f c1 h2
  simp only [dropC] at h
  split at h
  ·rename_i hle
   obtain ⟨h4, h5⟩ := RelL.drop fs _ gs c2 h h3
   refine ⟨by rw [List.length_append]; omega, ?_⟩
   rw [List.drop_append, List.drop_eq_nil_of_le (by omega), List.nil_append, hl]
   exact h5
  ·cases h
theorem RelL.take {S : Sizes} {C : Ctx} : ∀ (fs : List AV) (n : Nat) (gs : List AV) (cs : List Value), takeC fs n = some gs → RelL S C fs cs → n ≤ cs.length ∧ RelL S C gs (cs.take n)
 | fs, 0, gs, cs, h, r => by
  have : [] = gs := by cases fs <;> simpa [takeC] using h
  subst this
  exact ⟨Nat.zero_le _, by rw [List.take_zero]; rfl⟩
 | [], n + 1, gs, cs, h, r => by simp [takeC] at h
 | f :: fs, n + 1, gs, cs, h, r => by
  obtain ⟨c1, c2, rfl, h2, h3⟩ := r
  have hl := RelV.len f c1 h2
  simp only [takeC] at h
  split at h
  ·rename_i hle
   obtain ⟨g, hg, rfl⟩ := Option.map_eq_some_iff.1 h
   obtain ⟨h4, h5⟩ := RelL.take fs _ g c2 hg h3
   refine ⟨by rw [List.length_append]; omega, c1, c2.take (n + 1 - f.sz), ?_, h2, h5⟩
   rw [List.take_append, List.take_of_length_le (by omega), hl]
  ·cases h
theorem RelL.append {S : Sizes} {C : Ctx} : ∀ (fs gs : List AV) (cs ds : List Value), RelL S C fs cs → RelL S C gs ds → RelL S C (fs ++ gs) (cs ++ ds)
 | [], gs, cs, ds, r, q => by rw [show cs = [] from r]; exact q
 | f :: fs, gs, cs, ds, r, q => by
  obtain ⟨c1, c2, rfl, h2, h3⟩ := r
  exact ⟨c1, c2 ++ ds, by rw [List.append_assoc], h2, RelL.append fs gs c2 ds h3 q⟩
inductive VK where
 | chan (cap : Nat)
 | map
 | mapD
def VK.rel : VK → List Value → Obj → Prop
 | .chan cap, vs, ob => ∃ s r, ob = .chan cap vs.toArray false s r false
 | .map, vs, ob => ∃ es clock, ob = .map es clock ∧ vs = (es.toList.flatMap fun e => [e.key, e.val]) ∧ (∀ e ∈ es.toList, e.born < clock) ∧ (es.toList.map (·.born)).Nodup
 | .mapD, vs, ob => ∃ es, ob = .map es es.size ∧ vs = (es.toList.flatMap fun e => [e.key, e.val]) ∧ ∀ (j : Nat) (e : MapEntry), es[j]? = some e → e.born = j
structure Fam where
 rel : Sizes → Ctx → Value → List Nat → (Nat → Prop) → Prop
 mono : ∀ {S C C' v gs B}, Mono C C' → (∀ b, B b → C'.w.heap[b]? = C.w.heap[b]?) → rel S C v gs B → rel S C' v gs B
 lt : ∀ {S C v gs B}, rel S C v gs B → ∀ b, B b → b < C.w.heap.size
inductive AO where
 | gone
 | box (e : TypeId) (fs : List AV)
 | row (e : TypeId) (rows : List AV) (k : Nat) (app : Bool)
 | any (φ : Nat → Obj → Prop)
 | vals (k : VK) (aas : List AV)
 | fam (φ : Fam) (k : Nat)
 | famT (φ : Fam) (k : Nat) (pd : List (Nat × Nat))
 deriving Inhabited
def RelF (S : Sizes) (C : Ctx) (sz : Nat) : List AV → List Value → Prop
 | [], cs => cs = []
 | r :: rs, cs => ∃ c1 c2, cs = c1 ++ c2 ∧ RelV S C r c1 ∧ c1.length = sz ∧ RelF S C sz rs c2
theorem RelF.mono {S : Sizes} {C C' : Ctx} (h : Mono C C') {sz : Nat} : ∀ (rs : List AV) (cs : List Value), RelF S C sz rs cs → RelF S C' sz rs cs
 | [], _, r => r
 | r :: rs, cs, q => by
  obtain ⟨c1, c2, h1, h2, h3, h4⟩ := q
  exact ⟨c1, c2, h1, h2.mono h, h3, RelF.mono h rs c2 h4⟩
def ownsG (w : World) (e : TypeId) (size : Nat) (v : Value) (n : Nat) (xs : List Value) : Prop :=
 xs.length = n * size ∧ ((v = .slice none 0 0 ∧ n = 0) ∨ ∃ g off cap cur fz, v = .slice (some ⟨g, off, none⟩) n cap ∧ w.heap[g]? = some (.cells cur e fz) ∧ (fz = (0, 0) ∨ cur.size ≤ fz.1) ∧ n ≤ cap ∧ cap ≤ maxLen ∧ off + cap * size ≤ cur.size ∧ (cur.toList.drop off).take (n * size) = xs)
theorem ownsG_of {w : World} {base : Nat} {e : TypeId} {size : Nat} {v : Value} {n : Nat} {xs : List Value} (h : w.ownsRow base e size v n xs) : ownsG w e size v n xs := by
 refine ⟨h.1, h.2.imp id ?_⟩
 rintro ⟨g, cap, cur, h1, _, h3, h4, h5, h6, h7⟩
 exact ⟨g, 0, cap, cur, (0, 0), h1, h3, .inl rfl, h4, h5, by omega, by simpa using h7⟩
theorem ownsG_one {w : World} {e : TypeId} {size : Nat} {v : Value} {n : Nat} {xs : List Value} (h : ownsG w e size v n xs) : v.oneCell' = true := by
 rcases h.2 with ⟨rfl, _⟩ | ⟨g, off, cap, cur, fz, rfl, _⟩ <;> rfl
theorem ownsG_kept {w w' : World} {e : TypeId} {size : Nat} {v : Value} {n : Nat} {xs : List Value} (h : ownsG w e size v n xs) (hk : ∀ b, v.ownBlock = some b → w'.heap[b]? = w.heap[b]?) : ownsG w' e size v n xs := by
 refine ⟨h.1, h.2.imp id ?_⟩
 rintro ⟨g, off, cap, cur, fz, h1, h3, h4⟩
 refine ⟨g, off, cap, cur, fz, h1, ?_, h4⟩
 rw [hk g (by subst h1; simp [Value.ownBlock])]
 exact h3
theorem ownsRow_kept {w w' : World} {base : Nat} {e : TypeId} {size : Nat} {v : Value} {n : Nat} {xs : List Value} (h : w.ownsRow base e size v n xs) (hk : ∀ b, v.ownBlock = some b → w'.heap[b]? = w.heap[b]?) : w'.ownsRow base e size v n xs := by
 refine ⟨h.1, h.2.imp id ?_⟩
 rintro ⟨g, cap, cur, h1, h2, h3, h4⟩
 refine ⟨g, cap, cur, h1, h2, ?_, h4⟩
 rw [hk g (by subst h1; simp [Value.ownBlock])]
 exact h3
theorem ownsG_cell {w : World} {e : TypeId} {size : Nat} {n : Nat} {xs : List Value} {g off c : Nat} {l : Nat} (h : ownsG w e size (.slice (some ⟨g, off, none⟩) l c) n xs) : ∀ j u, xs[j]? = some u → w.cell? ⟨g, off + j, none⟩ = some u := by
 intro j u hu
 rcases h.2 with ⟨h1, _⟩ | ⟨g', off', cap, cur, fz, h1, h2, _, _, _, _, h3⟩
 ·cases h1
 ·injection h1 with h1
  injection h1 with h1
  injection h1 with e1 e2 e3
  subst e1; subst e2
  unfold World.cell?
  simp only [h2, Option.isSome_none, Bool.false_eq_true, if_false]
  rw [← h3, List.getElem?_take] at hu
  split at hu
  ·rw [List.getElem?_drop] at hu
   simpa using hu
  ·cases hu
def ORel (S : Sizes) (C : Ctx) : AO → Slot → Prop
 | .gone, .gone => True
 | .box e fs, .blk b => ∃ cs, C.w.heap[b]? = some (.cells cs e (0, 0)) ∧ RelL S C fs cs.toList
 | .row e rows k app, .row v kk mine => k = kk ∧ rows.length * (S e).2 ≤ reach ∧ (mine = false → RelV S C (.sl e rows app) [v]) ∧
   (mine = true → (app = true ∧ e < markE) ∧ 0 < (S e).1 ∧ ∃ cells, ownsG C.w e (S e).1 v rows.length cells ∧ RelF S C.flat (S e).1 rows cells ∧ (k < 2000000 → C.w.ownsRow 0 e (S e).1 v rows.length cells)) ∧ (1000000 ≤ k → app = true → mine = false → rows = [])
 | .any φ, .blk b => ∃ ob, C.w.heap[b]? = some ob ∧ φ b ob
 | .vals φ aas, .blk b => ∃ ob vs, C.w.heap[b]? = some ob ∧ VRels S C.flat aas vs ∧ φ.rel vs ob
 | .fam φ k, .fam v kk gs B => k = kk ∧ φ.rel S C.flat v gs B
 | .famT φ k pd, .fam v kk gs B => k = kk ∧ φ.rel S C.flat v gs B ∧ ∀ q ∈ pd, ∃ b, gs[q.1]? = some b ∧ C.m[q.2]? = some (.blk b)
 | _, _ => False
structure HRel (S : Sizes) (C : Ctx) (h : List AO) : Prop where
 len : C.m.length = h.length
 rel : ∀ (o : Nat) (ob : AO) (s : Slot), h[o]? = some ob → C.m[o]? = some s → ORel S C ob s
 inj : ∀ (o o' : Nat) (s s' : Slot) (b : Nat), C.m[o]? = some s → C.m[o']? = some s' → s.has b → s'.has b → o = o'
 nX : ∀ s ∈ C.m, ∀ b, s.has b → ¬ C.X b
 Xlt : ∀ b, C.X b → b < C.w.heap.size
theorem ORel.lt {S : Sizes} {C : Ctx} {ob : AO} {s : Slot} (h : ORel S C ob s) {b : Nat} (hb : s.has b) : b < C.w.heap.size := by
 cases ob <;> cases s <;> simp only [ORel] at h
 rotate_right 4
 ·obtain ⟨cs, h1, _⟩ := h
  injection hb with hb
  subst hb
  exact (Array.getElem?_eq_some_iff.1 h1).1
 ·obtain ⟨ob, vs, h1, _⟩ := h
  injection hb with hb
  subst hb
  exact (Array.getElem?_eq_some_iff.1 h1).1
 ·exact Fam.lt _ h.2 b hb
 ·exact Fam.lt _ h.2.1 b hb
 ·simp [Slot.has] at hb
 ·obtain ⟨cs, h1, _⟩ := h
  injection hb with hb
  subst hb
  exact (Array.getElem?_eq_some_iff.1 h1).1
 ·rename_i e rows k app v kk mine
  cases mine with
  | false => simp [Slot.has] at hb
  | true =>
   obtain ⟨_, _, cells, h1, _⟩ := h.2.2.2.1 rfl
   simp only [Slot.has, if_true] at hb
   rcases h1.2 with ⟨rfl, _⟩ | ⟨g, off, cap, cur, fz, rfl, hh, _⟩
   ·simp [Value.ownBlock] at hb
   ·have : g = b := by simpa [Value.ownBlock] using hb
    subst this
    exact (Array.getElem?_eq_some_iff.1 hh).1
theorem HRel.lt {S : Sizes} {C : Ctx} {h : List AO} (H : HRel S C h) {s : Slot} (hs : s ∈ C.m) {b : Nat} (hb : s.has b) : b < C.w.heap.size := by
 obtain ⟨o, ho⟩ := List.mem_iff_getElem?.1 hs
 have hl : o < h.length := by rw [← H.len]; exact (List.getElem?_eq_some_iff.1 ho).1
 exact (H.rel o h[o] s (List.getElem?_eq_getElem hl) ho).lt hb
theorem ORel.mono {S : Sizes} {C C' : Ctx} (st : Mono C C') {ob : AO} {s : Slot} (h : ORel S C ob s) (hk : ∀ b, s.has b → C'.w.heap[b]? = C.w.heap[b]?) : ORel S C' ob s := by
 cases ob <;> cases s <;> simp only [ORel] at h ⊢
 rotate_right 4
 ·obtain ⟨ob, h1, h2⟩ := h
  exact ⟨ob, by rw [hk _ rfl]; exact h1, h2⟩
 ·obtain ⟨ob, vs, h1, h2, h3⟩ := h
  exact ⟨ob, vs, by rw [hk _ rfl]; exact h1, h2.mono st.flat, h3⟩
 ·exact ⟨h.1, Fam.mono _ st.flat (fun b hb => hk b hb) h.2⟩
 ·refine ⟨h.1, Fam.mono _ st.flat (fun b hb => hk b hb) h.2.1, fun q hq => ?_⟩
  obtain ⟨b, h1, h2⟩ := h.2.2 q hq
  obtain ⟨s', hs', hle⟩ := st.slot _ _ h2
  cases hle
  exact ⟨b, h1, hs'⟩
 ·obtain ⟨cs, h1, h2⟩ := h
  exact ⟨cs, by rw [hk _ rfl]; exact h1, RelL.mono st _ _ h2⟩
 ·rename_i e rows k app v kk mine
  refine ⟨h.1, h.2.1, fun hm => RelV.mono st _ _ (h.2.2.1 hm), fun hm => ?_, h.2.2.2.2⟩
  obtain ⟨hap, h0, cells, h1, h2, h3⟩ := h.2.2.2.1 hm
  have hkk : ∀ b, v.ownBlock = some b → C'.w.heap[b]? = C.w.heap[b]? := fun b hb => hk b (by subst hm; simp [Slot.has, hb])
  exact ⟨hap, h0, cells, ownsG_kept h1 hkk, h2.mono st.flat, fun hx => ownsRow_kept (h3 hx) hkk⟩
theorem ORel.step {S : Sizes} {C C' : Ctx} (st : Step C C') {ob : AO} {s : Slot} (h : ORel S C ob s) (hk : ∀ b, s.has b → C'.w.heap[b]? = C.w.heap[b]?) : ORel S C' ob s := h.mono st.mono hk
structure Kept (C C' : Ctx) : Prop where
 os : C'.w.os = C.w.os
 tape : C'.w.tape = C.w.tape
 output : C'.w.output = C.w.output
 size : C.w.heap.size ≤ C'.w.heap.size
 block : ∀ b, b < C.w.heap.size → C'.w.heap[b]? = C.w.heap[b]?
 m : C'.m = C.m
 X : C'.X = C.X
theorem Kept.refl (C : Ctx) : Kept C C := ⟨rfl, rfl, rfl, Nat.le_refl _, fun _ _ => rfl, rfl, rfl⟩
theorem Kept.toStep {C C' : Ctx} (h : Kept C C') : Step C C' where
 os := h.os
 tape := h.tape
 output := h.output
 size := h.size
 block := fun b hb _ => h.block b hb
 ok := fun b _ ho => by unfold Ctx.ok at *; rw [h.m, h.X]; exact ho
 fresh := fun b _ hn => by rw [h.m]; exact hn
 slot := fun o s hs => ⟨s, by rw [h.m]; exact hs, s.le_refl⟩
 X := h.X
 keep := fun b hb _ => h.block b hb
theorem HRel.kept {S : Sizes} {C C' : Ctx} {h : List AO} (H : HRel S C h) (k : Kept C C') : HRel S C' h where
 len := by rw [k.m]; exact H.len
 rel := fun o ob s ho hs => by
  rw [k.m] at hs
  exact (H.rel o ob s ho hs).step k.toStep (fun b hb => k.block b ((H.rel o ob s ho hs).lt hb))
 inj := by rw [k.m]; exact H.inj
 nX := by rw [k.m, k.X]; exact H.nX
 Xlt := fun b hb => by rw [k.X] at hb; exact Nat.lt_of_lt_of_le (H.Xlt b hb) k.size
theorem HRel.push {S : Sizes} {C C' : Ctx} {h : List AO} (H : HRel S C h) {s : Slot} {ob : AO} (hsz : C.w.heap.size ≤ C'.w.heap.size) (hos : C'.w.os = C.w.os) (htape : C'.w.tape = C.w.tape) (hout : C'.w.output = C.w.output)
  (hbl : ∀ b, b < C.w.heap.size → C'.w.heap[b]? = C.w.heap[b]?) (hm : C'.m = C.m ++ [s]) (hX : C'.X = C.X) (hfr : ∀ b, s.has b → C.w.heap.size ≤ b) :
  Step C C' ∧ (ORel S C' ob s → HRel S C' (h ++ [ob])) := by
 have st : Step C C' := by
  refine ⟨hos, htape, hout, hsz, fun b hb _ => hbl b hb, fun b hb ho => ?_, fun b hb hn s' hs' => ?_, fun o s' hs' => ⟨s', ?_, s'.le_refl⟩, hX, fun b hb _ => hbl b hb⟩
  ·unfold Ctx.ok at *
   rw [hX, hm]
   refine ⟨ho.1, fun s' hs' => ?_⟩
   rcases List.mem_append.1 hs' with hs' | hs'
   ·exact ho.2 s' hs'
   ·intro e
    have : s' = s := by simpa using hs'
    subst this
    have := hfr b e
    omega
  ·rw [hm] at hs'
   rcases List.mem_append.1 hs' with hs' | hs'
   ·exact hn s' hs'
   ·intro e
    have : s' = s := by simpa using hs'
    subst this
    have := hfr b e
    omega
  ·rw [hm, List.getElem?_append_left (List.getElem?_eq_some_iff.1 hs').1]
   exact hs'
 refine ⟨st, fun hob => ⟨by rw [hm]; simp [H.len], fun o ob' s' ho hs' => ?_, fun o o' s1 s2 b h1 h2 e1 e2 => ?_, fun s' hs' b e hx => ?_, fun b hb => ?_⟩⟩
 ·rcases Nat.lt_or_ge o h.length with hl | hl
  ·rw [List.getElem?_append_left hl] at ho
   rw [hm, List.getElem?_append_left (by rw [H.len]; exact hl)] at hs'
   exact (H.rel o ob' s' ho hs').step st (fun b hb => hbl b ((H.rel o ob' s' ho hs').lt hb))
  ·have hlt : o < (h ++ [ob]).length := (List.getElem?_eq_some_iff.1 ho).1
   have ho' : o = h.length := by simp at hlt; omega
   subst ho'
   have e1 : ob = ob' := by simpa using ho
   have e2 : s = s' := by rw [hm, ← H.len] at hs'; simpa using hs'
   subst e1; subst e2
   exact hob
 ·rw [hm] at h1 h2
  have key : ∀ (o : Nat) (s1 : Slot), (C.m ++ [s])[o]? = some s1 → (C.m[o]? = some s1) ∨ (o = C.m.length ∧ s1 = s) := by
   intro o s1 h
   rcases Nat.lt_or_ge o C.m.length with hl | hl
   ·rw [List.getElem?_append_left hl] at h; exact .inl h
   ·have hlt := (List.getElem?_eq_some_iff.1 h).1
    have ho' : o = C.m.length := by simp at hlt; omega
    subst ho'
    exact .inr ⟨rfl, by simpa using h.symm⟩
  rcases key o s1 h1 with k1 | ⟨k1, rfl⟩ <;> rcases key o' s2 h2 with k2 | ⟨k2, rfl⟩
  ·exact H.inj o o' s1 s2 b k1 k2 e1 e2
  ·have h3 := H.lt (List.mem_iff_getElem?.2 ⟨o, k1⟩) e1
   have h4 := hfr b e2
   omega
  ·have h3 := H.lt (List.mem_iff_getElem?.2 ⟨o', k2⟩) e2
   have h4 := hfr b e1
   omega
  ·omega
 ·rw [hX] at hx
  rw [hm] at hs'
  rcases List.mem_append.1 hs' with hs' | hs'
  ·exact H.nX s' hs' b e hx
  ·have : s' = s := by simpa using hs'
   subst this
   have h3 := H.Xlt b hx
   have h4 := hfr b e
   omega
 ·rw [hX] at hb
  exact Nat.lt_of_lt_of_le (H.Xlt b hb) hsz
theorem HRel.upd {S : Sizes} {C C' : Ctx} {h : List AO} (H : HRel S C h) {o : Nat} {s s' : Slot} {ob : AO} (hs : C.m[o]? = some s) (hle : s.le s') (hsz : C.w.heap.size ≤ C'.w.heap.size) (hos : C'.w.os = C.w.os) (htape : C'.w.tape = C.w.tape) (hout : C'.w.output = C.w.output)
  (hbl : ∀ b, b < C.w.heap.size → ¬ s.has b → C'.w.heap[b]? = C.w.heap[b]?) (hm : C'.m = C.m.set o s') (hX : C'.X = C.X) (hfr : ∀ b, s'.has b → s.has b ∨ C.w.heap.size ≤ b) :
  Step C C' ∧ (ORel S C' ob s' → HRel S C' (h.set o ob)) := by
 have hol : o < C.m.length := (List.getElem?_eq_some_iff.1 hs).1
 have hmem : s ∈ C.m := List.mem_iff_getElem?.2 ⟨o, hs⟩
 have memset : ∀ x ∈ C.m.set o s', x ∈ C.m ∨ x = s' := fun x hx => List.mem_or_eq_of_mem_set hx
 have st : Step C C' := by
  refine ⟨hos, htape, hout, hsz, fun b hb hn => hbl b hb (hn s hmem), fun b hb ho => ?_, fun b hb hn x hx => ?_, fun o' x hx => ?_, hX, fun b hb hp => hbl b hb fun e => H.nX s hmem b e (C.X.sub b hp)⟩
  ·unfold Ctx.ok at *
   rw [hX, hm]
   refine ⟨ho.1, fun x hx => ?_⟩
   rcases memset x hx with hx | rfl
   ·exact ho.2 x hx
   ·intro e
    rcases hfr b e with e' | e'
    ·exact ho.2 s hmem e'
    ·omega
  ·rw [hm] at hx
   rcases memset x hx with hx | rfl
   ·exact hn x hx
   ·intro e
    rcases hfr b e with e' | e'
    ·exact hn s hmem e'
    ·omega
  ·by_cases e : o = o'
   ·subst e
    rw [hs] at hx
    injection hx with hx
    subst hx
    exact ⟨s', by rw [hm, List.getElem?_set_self hol], hle⟩
   ·exact ⟨x, by rw [hm, List.getElem?_set_ne e]; exact hx, x.le_refl⟩
 refine ⟨st, fun hob => ⟨by rw [hm]; simp [H.len], fun o' ob' x ho' hx => ?_, fun o1 o2 s1 s2 b h1 h2 e1 e2 => ?_, fun x hx b e hxx => ?_, fun b hb => ?_⟩⟩
 ·by_cases e : o = o'
  ·subst e
   rw [List.getElem?_set_self (by rw [← H.len]; exact hol)] at ho'
   rw [hm, List.getElem?_set_self hol] at hx
   injection ho' with ho'
   injection hx with hx
   subst ho'; subst hx
   exact hob
  ·rw [List.getElem?_set_ne e] at ho'
   rw [hm, List.getElem?_set_ne e] at hx
   have hr := H.rel o' ob' x ho' hx
   refine hr.step st (fun b hb => hbl b (hr.lt hb) fun hsb => e (H.inj o o' s x b hs hx hsb hb))
 ·rw [hm] at h1 h2
  have key : ∀ (o1 : Nat) (s1 : Slot), (C.m.set o s')[o1]? = some s1 → (o1 = o ∧ s1 = s') ∨ (o1 ≠ o ∧ C.m[o1]? = some s1) := by
   intro o1 s1 h
   by_cases e : o = o1
   ·subst e
    rw [List.getElem?_set_self hol] at h
    injection h with h
    exact .inl ⟨rfl, h.symm⟩
   ·rw [List.getElem?_set_ne e] at h
    exact .inr ⟨fun x => e x.symm, h⟩
  rcases key o1 s1 h1 with ⟨k1, rfl⟩ | ⟨k1, k1'⟩ <;> rcases key o2 s2 h2 with ⟨k2, rfl⟩ | ⟨k2, k2'⟩
  ·omega
  ·rcases hfr b e1 with e' | e'
   ·exact absurd (H.inj o o2 s s2 b hs k2' e' e2) (fun x => k2 x.symm)
   ·have := H.lt (List.mem_iff_getElem?.2 ⟨o2, k2'⟩) e2
    omega
  ·rcases hfr b e2 with e' | e'
   ·exact absurd (H.inj o o1 s s1 b hs k1' e' e1) (fun x => k1 x.symm)
   ·have := H.lt (List.mem_iff_getElem?.2 ⟨o1, k1'⟩) e1
    omega
  ·exact H.inj o1 o2 s1 s2 b k1' k2' e1 e2
 ·rw [hX] at hxx
  rw [hm] at hx
  rcases memset x hx with hx | rfl
  ·exact H.nX x hx b e hxx
  ·rcases hfr b e with e' | e'
   ·exact H.nX s hmem b e' hxx
   ·have := H.Xlt b hxx
    omega
 ·rw [hX] at hb
  exact Nat.lt_of_lt_of_le (H.Xlt b hb) hsz
end Go.Sh
namespace Go.Sh
inductive TK where
 | int (k : IntKind)
 | bool
 | str
 | struct (fl : List (Nat × TypeId))
 | arr (n : Nat) (e : TypeId)
 | slice (e : TypeId)
 | ptr (e : TypeId)
 | other
structure TInfo where
 kind : TK
 size : Nat
 bytes : Nat
 zero : List AV
abbrev Tab := List (TypeId × TInfo)
def Tab.get : Tab → TypeId → Option TInfo
 | [], _ => none
 | (t, i) :: r, u => if t == u then some i else Tab.get r u
def Tab.S (G : Tab) : Sizes := fun t => match G.get t with | some i => (i.size, i.bytes) | none => if markE ≤ t then (match G.get (t - markE) with | some i => (i.size, i.bytes) | none => (0, 0)) else (0, 0)
def okMark (G : Tab) (e e' : TypeId) : Bool := e == e' || (e' == e + markE && (G.get e').isNone)
theorem S_okMark {G : Tab} {e e' : TypeId} (h : okMark G e e' = true) (he : (G.get e).isSome = true) : G.S e' = G.S e := by
 unfold okMark at h
 rw [Bool.or_eq_true, Bool.and_eq_true, beq_iff_eq, beq_iff_eq] at h
 rcases h with rfl | ⟨rfl, h⟩
 ·rfl
 ·obtain ⟨i, hi⟩ := Option.isSome_iff_exists.1 he
  have h' : G.get (e + markE) = none := by simpa using h
  have hs : e + markE - markE = e := Nat.add_sub_cancel _ _
  unfold Tab.S
  rw [h', hi]
  simp only [hs, hi, Nat.le_add_left, if_true]
def Tab.kind (G : Tab) (t : TypeId) : TK := match G.get t with | some i => i.kind | none => .other
def TK.fits (d : TypeDesc) : TK → Prop
 | .int k => d = .int k
 | .bool => d = .bool
 | .str => d = .string
 | .struct fl => ∃ fs, d = .struct fs ∧ fs.toList.map (fun f => (f.offset, f.type)) = fl
 | .arr n e => d = .array n e
 | .slice e => d = .slice e
 | .ptr e => d = .pointer e
 | .other => ¬ ((∃ fs, d = .struct fs) ∨ ∃ n e, d = .array n e)
structure TFits (P : Program) (t : TypeId) (i : TInfo) : Prop where
 lt : t < markE
 info : ∃ inf z, P.info? t = some inf ∧ inf.size = i.size ∧ inf.bytes = i.bytes ∧ inf.zero = some z ∧ z.cells.size = i.size ∧ (∀ S C, RelL S C i.zero z.cells.toList)
 desc : ∃ d, P.underlying t = some d ∧ i.kind.fits d
def Tab.ok (P : Program) (G : Tab) : Prop := ∀ t i, G.get t = some i → TFits P t i
def TK.isAgg : TK → Bool
 | .struct _ | .arr _ _ => true
 | _ => false
theorem run_isAgg {P : Program} {t : TypeId} {i : TInfo} (h : TFits P t i) (w : World) : (isAgg t).run P w = .ok i.kind.isAgg w := by
 obtain ⟨d, hd, hk⟩ := h.desc
 unfold isAgg
 simp only [Sem.run_bind, run_underlying hd, Result.andThen_ok]
 cases hi : i.kind <;> rw [hi] at hk <;> simp only [TK.fits] at hk
 case struct fl => obtain ⟨fs, rfl, _⟩ := hk; rfl
 case other =>
  simp only [not_or, not_exists] at hk
  cases d <;> first | rfl | (exact absurd rfl (hk.1 _)) | (exact absurd rfl (hk.2 _ _))
 all_goals (subst hk; rfl)
theorem run_size {P : Program} {t : TypeId} {i : TInfo} (h : TFits P t i) (w : World) : (sizeOf t).run P w = .ok i.size w := by
 obtain ⟨inf, z, h1, h2, _⟩ := h.info
 simp [sizeOf, typeInfo, h1, h2]
abbrev Tmps := List (Nat × AV)
def lk : Tmps → Nat → AV
 | [], _ => .u
 | (j, a) :: r, i => if j == i then a else lk r i
def setT (t : Tmps) (d : Option Nat) (a : AV) : Tmps :=
 match d with
 | none => t
 | some d => (d, a) :: t.filter (fun p => p.1 != d)
theorem lk_filter (t : Tmps) (d i : Nat) (h : i ≠ d) : lk (t.filter (fun p => p.1 != d)) i = lk t i := by
 induction t with
 | nil => rfl
 | cons p r ih =>
  obtain ⟨j, a⟩ := p
  by_cases hj : j = d
  ·subst hj
   simp only [List.filter_cons, bne_self_eq_false, Bool.false_eq_true, if_false, lk]
   rw [if_neg (by simpa using fun e => h e.symm)]
   exact ih
  ·have : (j != d) = true := by simpa using hj
   simp only [List.filter_cons, this, if_true, lk, ih]
theorem lk_setT (t : Tmps) (d : Nat) (a : AV) (i : Nat) : lk (setT t (some d) a) i = if i = d then a else lk t i := by
 unfold setT
 simp only [lk]
 by_cases h : i = d
 ·subst h; simp
 ·rw [if_neg (by simpa using fun e => h e.symm), if_neg h, lk_filter t d i h]
def cv1 : Value → Option AV
 | .bool b => some (.sc (.bool b))
 | .int k n => some (.sc (.int k n))
 | .string s => some (.sc (.string s))
 | .pointer none => some (.sc (.pointer none))
 | .slice none 0 0 => some (.sl 0 [] true)
 | _ => none
def cvL : List Value → Option (List AV)
 | [] => some []
 | v :: r =>
  match cv1 v with
  | some a => (match cvL r with | some l => some (a :: l) | none => none)
  | none => none
def cv : Value → AV
 | .bool b => .sc (.bool b)
 | .int k n => .sc (.int k n)
 | .string s => .sc (.string s)
 | .pointer none => .sc (.pointer none)
 | .map none => .sc (.map none)
 | .chan none => .sc (.chan none)
 | .nilFunc => .sc .nilFunc
 | .nilIface => .sc .nilIface
 | .slice none 0 0 => .sl 0 [] true
 | .agg cs => (match cvL cs.toList with | some fs => .agg fs | none => .u)
 | _ => .u
def ev (t : Tmps) : Operand → AV
 | .tmp i => lk t i
 | .const v => cv v
 | .func f => .fn f []
 | .global _ => .u
structure ARel (S : Sizes) (C : Ctx) (t : Tmps) (h : List AO) (n : Nat) (a : Act) : Prop where
 defers : a.defers = []
 size : a.tmps.size = n
 tmps : ∀ i, VRel S C (lk t i) (a.tmps.getD i undef)
 heap : HRel S C h
theorem cv1_rel (S : Sizes) (C : Ctx) (v : Value) (a : AV) (h : cv1 v = some a) : RelV S C a [v] := by
 unfold cv1 at h
 split at h <;> first | (cases h; exact ⟨rfl, rfl⟩) | cases h
 exact ⟨none, 0, rfl, Nat.le_refl _, fun _ => rfl, by decide, by simp [reach], .inl rfl⟩
theorem cvL_rel (S : Sizes) (C : Ctx) : ∀ (vs : List Value) (fs : List AV), cvL vs = some fs → RelL S C fs vs
 | [], fs, h => by cases h; rfl
 | v :: r, fs, h => by
  unfold cvL at h
  split at h
  ·rename_i a ha
   split at h
   ·rename_i l hl
    cases h
    exact ⟨[v], r, rfl, cv1_rel S C v a ha, cvL_rel S C r l hl⟩
   ·cases h
  ·cases h
theorem cv_rel (S : Sizes) (C : Ctx) (v : Value) : VRel S C (cv v) v := by
 unfold cv
 split <;> first | trivial | exact ⟨rfl, rfl⟩ | skip
 ·exact ⟨none, 0, rfl, Nat.le_refl _, fun _ => rfl, by decide, by simp [reach], .inl rfl⟩
 ·split
  ·rename_i cs _ fs hfs
   exact ⟨cs, rfl, cvL_rel S C _ _ hfs⟩
  ·trivial
theorem ARel.ev {S : Sizes} {C : Ctx} {t : Tmps} {h : List AO} {n : Nat} {a : Act} (A : ARel S C t h n a) (x : Operand) : VRel S C (ev t x) (a.eval x) := by
 cases x with
 | tmp i => exact A.tmps i
 | const v => exact cv_rel S C v
 | func f => exact ⟨#[], rfl, rfl⟩
 | global g => trivial
def chunks : AV → Option (List AV)
 | .u => none
 | .tup _ => none
 | .agg fs => some fs
 | a => some [a]
def toV (isAgg : Bool) (fs : List AV) : Option AV :=
 if isAgg then
  match fs with
  | [.arr k n xs] => some (.arr k n xs)
  | fs => some (.agg fs)
 else
  match fs with
  | [.arr ..] => none
  | [.agg _] => none
  | [a] => some a
  | _ => none
def subC (fs : List AV) (off size : Nat) : Option (List AV) := (dropC fs off).bind fun gs => takeC gs size
def loadA (G : Tab) (ty : TypeId) (fs : List AV) (off : Nat) (ix : Option (Nat × Nat)) : Option AV :=
 match G.get ty with
 | none => none
 | some i =>
  match ix with
  | none => (subC fs off i.size).bind (toV i.kind.isAgg)
  | some (j, n) =>
   match dropC fs off with
   | some (.arr k n' xs :: _) => if n = n' then (if i.kind.isAgg then none else if i.size = 1 then some (.sc (.int k (xs.getD j 0))) else none) else none
   | _ => none
def intRes (op : BinOp) (k : IntKind) (x y : Int) : Option Value :=
 match op with
 | .add => some (.int k (k.wrap (x + y)))
 | .sub => some (.int k (k.wrap (x - y)))
 | .mul => some (.int k (k.wrap (x * y)))
 | .and => some (.int k (k.wrap (BitVec.ofInt k.bits x &&& BitVec.ofInt k.bits y).toNat))
 | .or => some (.int k (k.wrap (BitVec.ofInt k.bits x ||| BitVec.ofInt k.bits y).toNat))
 | .xor => some (.int k (k.wrap (BitVec.ofInt k.bits x ^^^ BitVec.ofInt k.bits y).toNat))
 | .andNot => some (.int k (k.wrap (BitVec.ofInt k.bits x &&& ~~~ BitVec.ofInt k.bits y).toNat))
 | .eql => some (.bool (x == y))
 | .neq => some (.bool (x != y))
 | .lss => some (.bool (x < y))
 | .leq => some (.bool (x ≤ y))
 | .gtr => some (.bool (x > y))
 | .geq => some (.bool (x ≥ y))
 | _ => none
def binA (K : TK) (op : BinOp) : AV → AV → Option AV
 | .sc (.int k x), .sc (.int k' y) => if k = k' then (intRes op k x y).map .sc else none
 | .sc (.bool a), .sc (.bool b) =>
  match K, op with
  | .bool, .eql => some (.sc (.bool (a == b)))
  | .bool, .neq => some (.sc (.bool (a != b)))
  | _, _ => none
 | .sc (.string a), .sc (.string b) =>
  match op with
  | .eql => some (.sc (.bool (a == b)))
  | .neq => some (.sc (.bool (a != b)))
  | _ => none
 | .ptr .., .sc (.pointer none) =>
  match K, op with
  | .ptr _, .eql => some (.sc (.bool false))
  | .ptr _, .neq => some (.sc (.bool true))
  | _, _ => none
 | .sc (.pointer none), .sc (.pointer none) =>
  match K, op with
  | .ptr _, .eql => some (.sc (.bool true))
  | .ptr _, .neq => some (.sc (.bool false))
  | _, _ => none
 | _, _ => none
def unA (op : UnOp) : AV → Option AV
 | .sc (.bool b) => match op with | .not => some (.sc (.bool (!b))) | _ => none
 | .sc (.int k n) => match op with | .neg => some (.sc (.int k (k.wrap (0 - n)))) | _ => none
 | _ => none
def putC (fs : List AV) (off : Nat) (new : List AV) : Option (List AV) :=
 match takeC fs off, dropC fs (off + AV.sz.go new) with
 | some a, some b => some (a ++ new ++ b)
 | _, _ => none
def storeA (G : Tab) (ty : TypeId) (fs : List AV) (off : Nat) (ix : Option (Nat × Nat)) (v : AV) : Option (List AV) :=
 match G.get ty with
 | none => none
 | some i =>
  match ix with
  | none =>
   match chunks v with
   | none => none
   | some new => if AV.sz.go new = i.size then putC fs off new else none
  | some (j, n) =>
   match takeC fs off, dropC fs off, v with
   | some a, some (.arr k n' xs :: b), .sc (.int k' x) => if n = n' ∧ k = k' ∧ i.size = 1 then some (a ++ .arr k n' (xs.set j x) :: b) else none
   | _, _, _ => none
def mkAgg : List AV → AV
 | [.arr k n xs] => .arr k n xs
 | fs => .agg fs
def fillA (place : Nat → Option (Nat × Nat)) : List AV → List (Nat × AV) → Option (List AV)
 | fs, [] => some fs
 | fs, (i, v) :: rest =>
  match place i, chunks v with
  | some (off, size), some new => if AV.sz.go new = size then (putC fs off new).bind fun fs' => fillA place fs' rest else none
  | _, _ => none
def seqA (sz : Nat) : Nat → List (Nat × AV) → Option (List AV)
 | _, [] => some []
 | n, (i, v) :: rest =>
  if i = n then
   match chunks v with
   | some c => if AV.sz.go c = sz then (seqA sz (n + 1) rest).map (v :: ·) else none
   | none => none
  else none
def isCap : AV → Bool
 | .ptr .. | .sc _ | .fn .. | .ep .. => true
 | _ => false
def aop (G : Tab) (ρ : Operand → AV) (h : List AO) : Op → Option (AV × List AO)
 | .move x => some (ρ x, h)
 | .assign x => some (ρ x, h)
 | .pick c a b =>
  match ρ c with
  | .sc (.bool b') => some (if b' then ρ a else ρ b, h)
  | _ => none
 | .alloc e =>
  match G.get e with
  | some i => some (.ptr h.length 0 none, h ++ [.box e i.zero])
  | none => none
 | .box e x =>
  match chunks (ρ x) with
  | some fs => some (.ptr h.length 0 none, h ++ [.box e fs])
  | none => none
 | .build t parts =>
  match G.get t with
  | none => none
  | some i =>
   let ps := parts.toList.map fun p => (p.1, ρ p.2)
   match i.kind with
   | .struct fl =>
    if fl.all (fun f => (G.get f.2).isSome) then
     (fillA (fun j => (fl[j]?).bind fun f => (G.get f.2).map fun fi => (f.1, fi.size)) i.zero ps).map fun fs => (mkAgg fs, h)
    else none
   | .arr _ e =>
    match G.get e with
    | some ei => (fillA (fun j => some (j * ei.size, ei.size)) i.zero ps).map fun fs => (mkAgg fs, h)
    | none => none
   | _ => none
 | .buildSlice t len parts =>
  match G.get t with
  | some i =>
   match i.kind with
   | .slice e =>
    match G.get e with
    | some ei =>
     if parts.size = len ∧ len * ei.size ≤ 16777216 ∧ len * ei.bytes ≤ reach ∧ 0 < ei.size ∧ (parts.toList.all fun p => plainA (ρ p.2)) = true then
      (seqA ei.size 0 (parts.toList.map fun p => (p.1, ρ p.2))).map fun rows => (.sl e rows true, h)
     else none
    | none => none
   | _ => none
  | none => none
 | .load ty x =>
  match ρ x with
  | .ptr o off ix =>
   match h[o]? with
   | some (.box _ fs) => (loadA G ty fs off ix).map fun r => (r, h)
   | _ => none
  | .ep fs off ix => (loadA G ty fs off ix).map fun r => (r, h)
  | _ => none
 | .store ty x v =>
  match ρ x with
  | .ptr o off ix =>
   match h[o]? with
   | some (.box e fs) => (storeA G ty fs off ix (ρ v)).map fun fs' => (.u, h.set o (.box e fs'))
   | _ => none
  | _ => none
 | .nilCheck x =>
  match ρ x with
  | .ptr o off ix => some (.ptr o off ix, h)
  | .ep fs off ix => some (.ep fs off ix, h)
  | .el e o k i off =>
   match h[o]? with
   | some (.row _ _ k' _) => if k = k' then some (.el e o k i off, h) else none
   | _ => none
  | _ => none
 | .binOp op xt x y _ => (binA (G.kind xt) op (ρ x) (ρ y)).map fun r => (r, h)
 | .unOp op _ x => (unA op (ρ x)).map fun r => (r, h)
 | .convert src dst x =>
  match G.kind src, G.kind dst, ρ x with
  | .int _, .int k, .sc (.int _ n) => some (.sc (.int k (k.wrap n)), h)
  | _, _, _ => none
 | .fieldAddr s x f =>
  match G.get s with
  | some i =>
   match i.kind with
   | .struct fl =>
    match fl[f]? with
    | some (o', ft) =>
     match G.get ft with
     | some fi =>
      if fi.size = 0 then none else
      match ρ x with
      | .ptr o off none => some (.ptr o (off + o') none, h)
      | .ep fs off none => some (.ep fs (off + o') none, h)
      | .el e o k i off =>
       match h[o]? with
       | some (.row _ _ k' _) => if k = k' then some (.el e o k i (off + o'), h) else none
       | _ => none
      | _ => none
     | none => none
    | none => none
   | _ => none
  | none => none
 | .indexAddr t x i =>
  match G.kind t, ρ x, ρ i with
  | .arr n e, .ptr o off none, .sc (.int _ j) =>
   match G.get e with
   | some ei => if ei.kind.isAgg = false ∧ ei.size = 1 ∧ 0 ≤ j ∧ j < n then some (.ptr o off (some (j.toNat, n)), h) else none
   | none => none
  | .slice e, .sl e' rows _, .sc (.int _ j) =>
   if (e = e' ∧ e < markE) ∧ 0 ≤ j ∧ (G.get e).isSome = true then
    match rows[j.toNat]? with
    | some r => (chunks r).map fun fs => (.ep fs 0 none, h)
    | none => none
   else none
  | _, _, _ => none
 | .extract x i =>
  match ρ x with
  | .tup vs => (vs[i]?).map fun r => (r, h)
  | _ => none
 | .makeFunc (.func f) first caps =>
  let cs := caps.toList.map ρ
  if first.size = 0 ∧ cs.all isCap then some (.fn f cs, h) else none
 | .call { callee := .builtin .len, args := xs, argTypes := ts } =>
  match xs.toList, ts.toList with
  | [x], [t] =>
   match G.kind t, ρ x with
   | .slice _, .sl _ rows _ => some (.sc (.int .i64 rows.length), h)
   | .slice _, .bsl _ _ _ n => some (.sc (.int .i64 n), h)
   | .slice _, .own o k =>
    match h[o]? with
    | some (.row _ rows k' _) => if k = k' then some (.sc (.int .i64 rows.length), h) else none
    | _ => none
   | .str, .sc (.string s) => some (.sc (.int .i64 s.size), h)
   | _, _ => none
  | _, _ => none
 | .call { callee := .builtin .max, args := xs, argTypes := _ } =>
  match xs.toList with
  | [x, y] =>
   match ρ x, ρ y with
   | .sc (.int k a), .sc (.int _ b) => some (.sc (.int k (if b > a then b else a)), h)
   | _, _ => none
  | _ => none
 | .call { callee := .builtin .min, args := xs, argTypes := _ } =>
  match xs.toList with
  | [x, y] =>
   match ρ x, ρ y with
   | .sc (.int k a), .sc (.int _ b) => some (.sc (.int k (if b < a then b else a)), h)
   | _, _ => none
  | _ => none
 | _ => none
end Go.Sh
namespace Go.Sh
variable {P : Program} {G : Tab}
theorem addr_add (b o n : Nat) : (⟨b, o, none⟩ : Addr).add n = ⟨b, o + n, none⟩ := by
 unfold Addr.add
 split <;> simp_all
theorem kind_get {t : TypeId} {K : TK} (h : G.kind t = K) (hne : K ≠ .other) : ∃ i, G.get t = some i ∧ i.kind = K := by
 unfold Tab.kind at h
 cases hg : G.get t with
 | none => rw [hg] at h; exact absurd h.symm hne
 | some i => rw [hg] at h; exact ⟨i, rfl, h⟩
theorem S_get {t : TypeId} {i : TInfo} (h : G.get t = some i) : G.S t = (i.size, i.bytes) := by
 unfold Tab.S
 rw [h]
def AV.single : AV → Bool
 | .u | .arr .. | .agg _ | .tup _ => false
 | _ => true
theorem RelV.single {S : Sizes} {C : Ctx} {a : AV} (h1 : a.single = true) {cs : List Value} (r : RelV S C a cs) : ∃ v, cs = [v] := by
 have hl := r.len
 cases a <;> simp only [AV.single, Bool.false_eq_true] at h1 <;> (exact List.length_eq_one_iff.1 hl)
theorem VRel1_single {S : Sizes} {C : Ctx} {a : AV} (h1 : a.single = true) {v : Value} : VRel1 S C a v = RelV S C a [v] := by
 cases a <;> simp only [AV.single, Bool.false_eq_true] at h1 <;> rfl
theorem VRel_single {S : Sizes} {C : Ctx} {a : AV} (h1 : a.single = true) {v : Value} : VRel S C a v = RelV S C a [v] := by
 cases a <;> simp only [AV.single, Bool.false_eq_true] at h1 <;> rfl
theorem RelL_one {S : Sizes} {C : Ctx} {a : AV} {cs : List Value} : RelL S C [a] cs ↔ RelV S C a cs := by
 constructor
 ·rintro ⟨c1, c2, rfl, h1, h2⟩
  rw [show c2 = [] from h2, List.append_nil]
  exact h1
 ·intro h
  exact ⟨cs, [], by simp, h, rfl⟩
theorem chunks_rel {S : Sizes} {C : Ctx} {a : AV} {v : Value} {fs : List AV} (hc : chunks a = some fs) (r : VRel S C a v) : RelL S C fs v.cells.toList := by
 cases a <;> simp only [chunks, Option.some.injEq, reduceCtorEq] at hc <;> subst hc
 case agg gs => obtain ⟨cs, rfl, h⟩ := r; exact h
 case arr k n xs => obtain ⟨h1, rfl⟩ := r; exact RelL_one.2 ⟨h1, by simp [Value.cells]⟩
 all_goals
  have r' := r
  rw [VRel_single rfl] at r'
  have h1 := r'.one _ _ v (by simp)
  refine RelL_one.2 ?_
  have : v.cells.toList = [v] := by cases v <;> simp_all [Value.cells, Value.oneCell']
  rw [this]
  exact r'
theorem chunks_relV {S : Sizes} {C : Ctx} {a : AV} {cs : List Value} {fs : List AV} (hc : chunks a = some fs) (r : RelV S C a cs) : RelL S C fs cs := by
 cases a <;> simp only [chunks, Option.some.injEq, reduceCtorEq] at hc <;> subst hc
 case agg gs => exact r
 all_goals exact RelL_one.2 r
theorem chunks_back {S : Sizes} {C : Ctx} {a : AV} {cs : List Value} {fs : List AV} (hc : chunks a = some fs) (r : RelL S C fs cs) : RelV S C a cs := by
 cases a <;> simp only [chunks, Option.some.injEq, reduceCtorEq] at hc <;> subst hc
 case agg gs => exact r
 all_goals exact RelL_one.1 r
theorem mkAgg_rel {S : Sizes} {C : Ctx} {fs : List AV} {cs : Array Value} (r : RelL S C fs cs.toList) : VRel S C (mkAgg fs) (.agg cs) := by
 unfold mkAgg
 split
 ·rename_i k n xs
  obtain ⟨h1, h2⟩ := RelL_one.1 r
  refine ⟨h1, ?_⟩
  congr 1
  apply Array.toList_inj.1
  rw [h2]
 ·exact ⟨cs, rfl, r⟩
theorem dropC_cons_get {S : Sizes} {C : Ctx} {fs : List AV} {off : Nat} {a : AV} {gs : List AV} {cells : List Value} (h : dropC fs off = some (a :: gs)) (r : RelL S C fs cells) : ∃ c1 c2, cells.drop off = c1 ++ c2 ∧ RelV S C a c1 ∧ RelL S C gs c2 := (r.drop _ _ _ _ h).2
theorem load_sound (hG : G.ok P) {C : Ctx} {fs : List AV} {cells : List Value} {b o0 : Nat} (hr : RelL G.S C fs cells) (hc : ∀ j v, cells[j]? = some v → C.w.cell? ⟨b, o0 + j, none⟩ = some v) {ty : TypeId} {off : Nat} {ix : Option (Nat × Nat)} (hix : ixok ix) {r : AV} (h : loadA G ty fs off ix = some r) :
  ∃ v, (loadVar ty ⟨b, o0 + (off + ixo ix), none⟩).run P C.w = .ok v C.w ∧ VRel G.S C r v := by
 unfold loadA at h
 cases hg : G.get ty with
 | none => rw [hg] at h; cases h
 | some i =>
  rw [hg] at h
  have hf := hG ty i hg
  cases ix with
  | none =>
   simp only [ixo, Nat.add_zero] at *
   obtain ⟨gs, h1, h2⟩ := Option.bind_eq_some_iff.1 h
   unfold subC at h1
   obtain ⟨ds, h3, h4⟩ := Option.bind_eq_some_iff.1 h1
   obtain ⟨k1, k2⟩ := hr.drop _ _ _ _ h3
   obtain ⟨k3, k4⟩ := k2.take _ _ _ _ h4
   have hlen : ((cells.drop off).take i.size).length = i.size := by rw [List.length_take]; omega
   have hcell : ∀ j v, ((cells.drop off).take i.size)[j]? = some v → C.w.cell? ((⟨b, o0 + off, none⟩ : Addr).add j) = some v := by
    intro j v hj
    rw [addr_add]
    have hlt : j < i.size := by rw [← hlen]; exact (List.getElem?_eq_some_iff.1 hj).1
    rw [List.getElem?_take, if_pos hlt, List.getElem?_drop] at hj
    rw [Nat.add_assoc]
    exact hc _ _ hj
   by_cases ha : i.kind.isAgg = true
   ·have hrun : (loadVar ty ⟨b, o0 + off, none⟩).run P C.w = .ok (.agg ((cells.drop off).take i.size).toArray) C.w := by
     unfold loadVar
     have hl := run_loadCells_list (P := P) C.w ⟨b, o0 + off, none⟩ _ hcell
     rw [hlen] at hl
     simp only [Sem.run_bind, run_isAgg hf, ha, if_true, Result.andThen_ok, run_size hf, hl, Sem.run_pure]
    refine ⟨_, hrun, ?_⟩
    unfold toV at h2
    rw [if_pos ha] at h2
    split at h2
    ·injection h2 with h2
     subst h2
     exact mkAgg_rel (fs := [.arr _ _ _]) (by simpa using k4)
    ·injection h2 with h2
     subst h2
     exact ⟨_, rfl, by simpa using k4⟩
   ·have ha' : i.kind.isAgg = false := by simpa using ha
    unfold toV at h2
    rw [if_neg ha] at h2
    split at h2
    ·cases h2
    ·cases h2
    ·rename_i a hna hnb
     injection h2 with h2
     subst h2
     have hra := RelL_one.1 k4
     have hs : a.single = true := by
      cases a <;> first | rfl | (exact absurd rfl (hna _ _ _)) | (exact absurd rfl (hnb _)) | exact hra.elim
     obtain ⟨v, hv⟩ := hra.single hs
     have h0 := hcell 0 v (by rw [hv]; rfl)
     rw [addr_add, Nat.add_zero] at h0
     refine ⟨v, ?_, by rw [VRel_single hs, ← hv]; exact hra⟩
     unfold loadVar
     simp only [Sem.run_bind, run_isAgg hf, ha', Bool.false_eq_true, if_false, Result.andThen_ok, run_load, h0]
    ·cases h2
  | some p =>
   obtain ⟨j, n⟩ := p
   simp only [ixo, ixok] at *
   split at h
   ·rename_i k n' xs gs hd
    split at h
    ·rename_i hnn
     subst hnn
     split at h
     ·cases h
     ·rename_i ha
      split at h
      ·injection h with h
       subst h
       obtain ⟨c1, c2, h1, h2, h3⟩ := dropC_cons_get hd hr
       obtain ⟨h4, h5⟩ := h2
       have hj : c1[j]? = some (Value.int k (xs.getD j 0)) := by
        rw [h5, List.getElem?_map, List.getElem?_eq_getElem (by omega)]
        simp [List.getD_eq_getElem?_getD, List.getElem?_eq_getElem (show j < xs.length by omega)]
       have hcell : C.w.cell? ⟨b, o0 + (off + j), none⟩ = some (Value.int k (xs.getD j 0)) := by
        refine hc _ _ ?_
        rw [← List.getElem?_drop, h1, List.getElem?_append_left (List.getElem?_eq_some_iff.1 hj).1]
        exact hj
       refine ⟨_, ?_, ⟨rfl, rfl⟩⟩
       unfold loadVar
       have ha' : i.kind.isAgg = false := by simpa using ha
       simp only [Sem.run_bind, run_isAgg hf, ha', Bool.false_eq_true, if_false, Result.andThen_ok, run_load, hcell]
      ·cases h
    ·cases h
   ·cases h
theorem setCells_size (b : Nat) : ∀ (vs : List Value) (o : Nat) (w : World), (w.setCells b o vs).heap.size = w.heap.size
 | [], _, _ => rfl
 | v :: r, o, w => by rw [World.setCells, setCells_size b r]; simp [World.setCell]
theorem setCells_same (b : Nat) : ∀ (vs : List Value) (o : Nat) (w : World), (w.setCells b o vs).os = w.os ∧ (w.setCells b o vs).tape = w.tape ∧ (w.setCells b o vs).output = w.output
 | [], _, _ => ⟨rfl, rfl, rfl⟩
 | v :: r, o, w => by
  rw [World.setCells]
  obtain ⟨h1, h2, h3⟩ := setCells_same b r (o + 1) (w.setCell ⟨b, o, none⟩ v)
  exact ⟨h1, h2, h3⟩
theorem setCells_other (b : Nat) : ∀ (vs : List Value) (o : Nat) (w : World) (i : Nat), i ≠ b → (w.setCells b o vs).heap[i]? = w.heap[i]?
 | [], _, _, _, _ => rfl
 | v :: r, o, w, i, h => by
  rw [World.setCells, setCells_other b r _ _ _ h]
  exact RowKit.Below.heap_setCell w ⟨b, o, none⟩ v i h
theorem setCells_heap (b : Nat) (e : TypeId) (fr : Nat × Nat) : ∀ (vs : List Value) (o : Nat) (w : World) (cs : Array Value), w.heap[b]? = some (.cells cs e fr) → o + vs.length ≤ cs.size →
  ∃ cs', (w.setCells b o vs).heap[b]? = some (.cells cs' e fr) ∧ cs'.toList = cs.toList.take o ++ vs ++ cs.toList.drop (o + vs.length)
 | [], o, w, cs, h, hl => ⟨cs, h, by simp⟩
 | v :: r, o, w, cs, h, hl => by
  simp only [List.length_cons] at hl
  have h1 : (w.setCell ⟨b, o, none⟩ v).heap[b]? = some (.cells (cs.setIfInBounds o v) e fr) := by
   have hb : b < w.heap.size := (Array.getElem?_eq_some_iff.1 h).1
   simp [World.setCell, Array.getElem?_modify, h]
  obtain ⟨cs', h2, h3⟩ := setCells_heap b e fr r (o + 1) _ _ h1 (by simp; omega)
  refine ⟨cs', by rw [World.setCells]; exact h2, ?_⟩
  rw [h3]
  have hsz : o < cs.toList.length := by rw [Array.length_toList]; omega
  rw [Array.toList_setIfInBounds]
  rw [List.set_eq_take_append_cons_drop, if_pos hsz]
  have e1 : (cs.toList.take o ++ v :: cs.toList.drop (o + 1)).take (o + 1) = cs.toList.take o ++ [v] := by
   rw [List.take_append, List.take_of_length_le (by rw [List.length_take]; omega), List.length_take, Nat.min_eq_left (by omega)]
   simp
  have e2 : (cs.toList.take o ++ v :: cs.toList.drop (o + 1)).drop (o + 1 + r.length) = cs.toList.drop (o + (v :: r).length) := by
   rw [List.drop_append, List.drop_eq_nil_of_le (by rw [List.length_take]; omega), List.length_take, Nat.min_eq_left (by omega)]
   rw [show o + 1 + r.length - o = r.length + 1 by omega, List.drop_succ_cons, List.drop_drop]
   simp only [List.nil_append, List.length_cons]
   congr 1
   omega
  rw [e1, e2]
  simp
theorem cell_of_heap {w : World} {b : Nat} {cs : Array Value} {e : TypeId} {fr : Nat × Nat} (h : w.heap[b]? = some (.cells cs e fr)) (j : Nat) : w.cell? ⟨b, j, none⟩ = cs[j]? := by
 simp [World.cell?, h]
theorem RelL.toList_cells {S : Sizes} {C : Ctx} {b : Nat} {cs : Array Value} {e : TypeId} {fr : Nat × Nat} (h : C.w.heap[b]? = some (.cells cs e fr)) : ∀ j v, cs.toList[j]? = some v → C.w.cell? ⟨b, 0 + j, none⟩ = some v := by
 intro j v hj
 rw [cell_of_heap h, Nat.zero_add]
 simpa using hj
theorem putC_rel {S : Sizes} {C : Ctx} {fs fs' new : List AV} {off : Nat} {cells ncells : List Value} (hr : RelL S C fs cells) (hn : RelL S C new ncells) (h : putC fs off new = some fs') :
  off + ncells.length ≤ cells.length ∧ RelL S C fs' (cells.take off ++ ncells ++ cells.drop (off + ncells.length)) := by
 unfold putC at h
 split at h
 ·rename_i a b ha hb
  injection h with h
  subst h
  have hl := hn.len
  rw [← hl] at hb
  obtain ⟨h1, h2⟩ := hr.take _ _ _ _ ha
  obtain ⟨h3, h4⟩ := hr.drop _ _ _ _ hb
  exact ⟨h3, (h2.append _ _ _ _ hn).append _ _ _ _ h4⟩
 ·cases h
theorem store_world {C : Ctx} {h : List AO} (H : HRel G.S C h) {o b : Nat} {e : TypeId} {fs : List AV} (ho : h[o]? = some (.box e fs)) (hm : C.m[o]? = some (.blk b)) {cs : Array Value} (hb : C.w.heap[b]? = some (.cells cs e (0, 0)))
  {off : Nat} {vs : List Value} (hfit : off + vs.length ≤ cs.size) {fs' : List AV} (hr : ∀ C', Step C C' → RelL G.S C' fs' (cs.toList.take off ++ vs ++ cs.toList.drop (off + vs.length))) :
  Step C ⟨C.w.setCells b off vs, C.m, C.X⟩ ∧ HRel G.S ⟨C.w.setCells b off vs, C.m, C.X⟩ (h.set o (.box e fs')) := by
 obtain ⟨s1, s2, s3⟩ := setCells_same b vs off C.w
 have hol : o < C.m.length := (List.getElem?_eq_some_iff.1 hm).1
 have hmset : C.m.set o (.blk b) = C.m := by
  apply List.ext_getElem?
  intro j
  by_cases e : o = j
  ·subst e; rw [List.getElem?_set_self hol, hm]
  ·rw [List.getElem?_set_ne e]
 obtain ⟨st, hh⟩ := HRel.upd (S := G.S) (C' := ⟨C.w.setCells b off vs, C.m, C.X⟩) (s' := .blk b) (ob := .box e fs') H hm rfl (by rw [setCells_size]; exact Nat.le_refl _) s1 s2 s3
  (fun j hj hne => setCells_other b vs off C.w j (fun e => hne (by rw [e]; rfl))) (by rw [hmset]) rfl (fun j hj => .inl hj)
 refine ⟨st, hh ?_⟩
 obtain ⟨cs', h1, h2⟩ := setCells_heap b e (0, 0) vs off C.w cs hb hfit
 exact ⟨cs', h1, by rw [h2]; exact hr _ st⟩
theorem run_storeVar {t : TypeId} {i : TInfo} (hf : TFits P t i) {C : Ctx} {b off : Nat} {cs : Array Value} {e : TypeId} {fz : Nat × Nat} (hb : C.w.heap[b]? = some (.cells cs e fz)) {v : Value} (hsz : v.cells.size = i.size) (hfit : off + v.cells.size ≤ cs.size) (h1 : ∀ u ∈ v.cells.toList, u.oneCell' = true) (hfz : fz = (0, 0) ∨ cs.size ≤ fz.1 := by exact .inl rfl) :
  (storeVar t ⟨b, off, none⟩ v).run P C.w = .ok () (C.w.setCells b off v.cells.toList) := by
 have hst := run_storeCells_cells (P := P) b off v.cells.toList 0 C.w
  (fun j hj => by rw [cell_of_heap hb, Nat.add_zero, Array.getElem?_eq_getElem (by rw [Array.length_toList] at hj; omega)]; rfl)
  (fun j hj => by
   rcases hfz with rfl | hfz
   ·simp [World.frozen?, hb]
   ·obtain ⟨f1, f2⟩ := fz
    simp only at hfz
    rw [Array.length_toList] at hj
    simp only [World.frozen?, hb, Bool.and_eq_false_iff, decide_eq_false_iff_not]
    exact .inl (by omega)) h1
 rw [Nat.add_zero] at hst
 unfold storeVar
 simp only [Sem.run_bind, run_size hf, Result.andThen_ok]
 rw [if_neg (by simpa using hsz)]
 exact hst
theorem store_sound (hG : G.ok P) {C : Ctx} {h : List AO} (H : HRel G.S C h) {o b : Nat} {e : TypeId} {fs : List AV} (ho : h[o]? = some (.box e fs)) (hm : C.m[o]? = some (.blk b)) {ty : TypeId} {off : Nat} {ix : Option (Nat × Nat)} (hix : ixok ix) {a : AV} {v : Value} (hv : VRel G.S C a v)
  {fs' : List AV} (hs : storeA G ty fs off ix a = some fs') :
  ∃ w', (storeVar ty ⟨b, off + ixo ix, none⟩ v).run P C.w = .ok () w' ∧ Step C ⟨w', C.m, C.X⟩ ∧ HRel G.S ⟨w', C.m, C.X⟩ (h.set o (.box e fs')) := by
 have hrel := H.rel o _ _ ho hm
 obtain ⟨cs, hb, hr⟩ := hrel
 unfold storeA at hs
 cases hg : G.get ty with
 | none => rw [hg] at hs; cases hs
 | some i =>
  rw [hg] at hs
  have hf := hG ty i hg
  cases ix with
  | none =>
   simp only [ixo, Nat.add_zero] at *
   cases hc : chunks a with
   | none => rw [hc] at hs; cases hs
   | some new =>
    rw [hc] at hs
    simp only at hs
    split at hs
    ·rename_i hsz
     have hn := chunks_rel hc hv
     have hlen := hn.len
     obtain ⟨h1, h2⟩ := putC_rel hr hn hs
     have hsz' : v.cells.size = i.size := by rw [← hsz, ← hlen, Array.length_toList]
     have hfit : off + v.cells.size ≤ cs.size := by rw [← Array.length_toList (xs := v.cells), ← Array.length_toList (xs := cs)]; exact h1
     refine ⟨_, run_storeVar hf hb hsz' hfit (hn.one _ _), store_world H ho hm hb (by rw [Array.length_toList]; exact hfit) (fun C' st => (putC_rel (hr.step st) (hn.step st) hs).2)⟩
    ·cases hs
  | some p =>
   obtain ⟨j, n⟩ := p
   simp only [ixo, ixok] at *
   split at hs
   ·rename_i pa k n' xs gs k' x hta hdr
    split at hs
    ·rename_i hcond
     obtain ⟨rfl, rfl, hsize⟩ := hcond
     injection hs with hs
     subst hs
     obtain ⟨rfl, _⟩ : v = .int k x ∧ True := by
      have : RelV G.S C (.sc (.int k x)) [v] := hv
      have h1 := this.1
      simp at h1
      exact ⟨h1, trivial⟩
     obtain ⟨c1, c2, h1, h2, h3⟩ := dropC_cons_get hdr hr
     obtain ⟨h4, h5⟩ := h2
     obtain ⟨t1, t2⟩ := hr.take _ _ _ _ hta
     have hj1 : j < c1.length := by rw [h5, List.length_map]; omega
     have hdl : (cs.toList.drop off).length = c1.length + c2.length := by rw [h1, List.length_append]
     have hfit : off + j + 1 ≤ cs.size := by
      rw [List.length_drop, Array.length_toList] at hdl
      omega
     have hcell : (Value.int k x).cells.toList = [Value.int k x] := rfl
     refine ⟨_, run_storeVar hf hb (by rw [hsize]; rfl) (by show off + j + 1 ≤ cs.size; exact hfit) (by simp [Value.cells, Value.oneCell']), store_world H ho hm hb (by show off + j + 1 ≤ cs.size; exact hfit) (fun C' st => ?_)⟩
     rw [hcell]
     have hre : cs.toList.take (off + j) ++ [Value.int k x] ++ cs.toList.drop (off + j + [Value.int k x].length) = cs.toList.take off ++ (c1.set j (.int k x) ++ c2) := by
      have e0 : cs.toList = cs.toList.take off ++ (c1 ++ c2) := by rw [← h1, List.take_append_drop]
      have hto : (cs.toList.take off).length = off := by rw [List.length_take, Array.length_toList]; omega
      have e1 : cs.toList.take (off + j) = cs.toList.take off ++ c1.take j := by
       conv => lhs; rw [e0]
       rw [List.take_append, List.take_of_length_le (by omega), hto, show off + j - off = j by omega, List.take_append, show j - c1.length = 0 by omega, List.take_zero, List.append_nil]
      have e2 : cs.toList.drop (off + j + 1) = c1.drop (j + 1) ++ c2 := by
       conv => lhs; rw [e0]
       rw [List.drop_append, List.drop_eq_nil_of_le (by omega), hto, show off + j + 1 - off = j + 1 by omega, List.drop_append, show j + 1 - c1.length = 0 by omega, List.drop_zero, List.nil_append]
      simp only [List.length_singleton]
      rw [e1, e2, List.set_eq_take_append_cons_drop, if_pos hj1]
      simp
     rw [hre]
     refine (t2.step st).append _ _ _ _ ⟨c1.set j (.int k x), c2, rfl, ⟨by rw [List.length_set]; exact h4, ?_⟩, h3.step st⟩
     rw [h5, List.map_set]
    ·cases hs
   ·cases hs
end Go.Sh
set_option linter.unusedSimpArgs false
namespace Go.Sh
variable {P : Program} {G : Tab}
theorem alloc_heap (w : World) (o : Obj) : (w.alloc o).heap[w.heap.size]? = some o := by
 show (w.heap.push o)[w.heap.size]? = some o
 simp
theorem alloc_size (w : World) (o : Obj) : w.heap.size ≤ (w.alloc o).heap.size := by
 show w.heap.size ≤ (w.heap.push o).size
 simp
theorem alloc_old (w : World) (o : Obj) (b : Nat) (h : b < w.heap.size) : (w.alloc o).heap[b]? = w.heap[b]? := by
 show (w.heap.push o)[b]? = _
 rw [Array.getElem?_push, if_neg (by omega)]
theorem new_box {C : Ctx} {h : List AO} (H : HRel G.S C h) (e : TypeId) {fs : List AV} {cs : Array Value} (hr : RelL G.S C fs cs.toList) :
  Step C ⟨C.w.alloc (.cells cs e), C.m ++ [.blk C.w.heap.size], C.X⟩ ∧ HRel G.S ⟨C.w.alloc (.cells cs e), C.m ++ [.blk C.w.heap.size], C.X⟩ (h ++ [.box e fs]) ∧
   VRel G.S ⟨C.w.alloc (.cells cs e), C.m ++ [.blk C.w.heap.size], C.X⟩ (.ptr h.length 0 none) (.pointer (some ⟨C.w.heap.size, 0, none⟩)) := by
 obtain ⟨st, hh⟩ := HRel.push (S := G.S) (C' := ⟨C.w.alloc (.cells cs e), C.m ++ [.blk C.w.heap.size], C.X⟩) (s := .blk C.w.heap.size) (ob := .box e fs) H
  (alloc_size _ _) rfl rfl rfl (fun b hb => alloc_old C.w _ b hb) rfl rfl (fun b hb => by injection hb with hb; omega)
 refine ⟨st, hh ⟨cs, alloc_heap _ _, hr.step st⟩, ⟨C.w.heap.size, ?_, trivial, rfl⟩⟩
 show (C.m ++ [Slot.blk C.w.heap.size])[h.length]? = _
 rw [← H.len]
 simp
theorem new_kept (C : Ctx) (o : Obj) : Kept C ⟨C.w.alloc o, C.m, C.X⟩ :=
 ⟨rfl, rfl, rfl, alloc_size _ _, fun b hb => alloc_old C.w o b hb, rfl, rfl⟩
theorem new_ok {S : Sizes} {C : Ctx} {h : List AO} (H : HRel S C h) (o : Obj) : (⟨C.w.alloc o, C.m, C.X⟩ : Ctx).ok C.w.heap.size := by
 refine ⟨fun hx => by have := H.Xlt _ hx; omega, fun s hs e => by have := H.lt hs e; omega⟩
theorem RelR.get {S : Sizes} {C : Ctx} {b sz : Nat} : ∀ (rows : List AV) (off i : Nat) (r : AV), RelR S C b sz rows off → rows[i]? = some r →
  ∃ cs, RelV S C r cs ∧ cs.length = sz ∧ cs ≠ [] ∧ ∀ j v, cs[j]? = some v → C.w.cell? ⟨b, off + i * sz + j, none⟩ = some v
 | [], _, _, _, _, h => by simp at h
 | x :: rs, off, 0, r, hr, h => by
  have : x = r := by simpa using h
  subst this
  obtain ⟨⟨cs, h1, h2, h3, h4⟩, _⟩ := hr
  exact ⟨cs, h1, h2, h3, fun j v hj => by rw [Nat.zero_mul, Nat.add_zero]; exact h4 j v hj⟩
 | x :: rs, off, i + 1, r, hr, h => by
  obtain ⟨cs, h1, h2, h3, h4⟩ := RelR.get rs (off + sz) i r hr.2 (by simpa using h)
  refine ⟨cs, h1, h2, h3, fun j v hj => ?_⟩
  have := h4 j v hj
  rw [show off + sz + i * sz + j = off + (i + 1) * sz + j by rw [Nat.succ_mul]; omega] at this
  exact this
theorem RelR.of_RelF {S : Sizes} {C : Ctx} {b sz : Nat} (h0 : 0 < sz) : ∀ (rows : List AV) (cells : List Value) (off : Nat), RelF S C sz rows cells → (∀ j v, cells[j]? = some v → C.w.cell? ⟨b, off + j, none⟩ = some v) → RelR S C b sz rows off
 | [], _, _, _, _ => trivial
 | r :: rs, cells, off, hr, hc => by
  obtain ⟨c1, c2, rfl, h2, h3, h4⟩ := hr
  refine ⟨⟨c1, h2, h3, by intro e; subst e; simp at h3; omega, fun j v hj => hc j v ?_⟩, RelR.of_RelF h0 rs c2 _ h4 fun j v hj => ?_⟩
  ·rw [List.getElem?_append_left (List.getElem?_eq_some_iff.1 hj).1]; exact hj
  ·have := hc (sz + j) v (by rw [List.getElem?_append_right (by omega), h3, Nat.add_sub_cancel_left]; exact hj)
   rw [show off + sz + j = off + (sz + j) by omega]
   exact this
theorem ownsG_settled {S : Sizes} {C D : Ctx} {e : TypeId} {v : Value} {rows : List AV} {cells : List Value} (he : e < markE) (hw : D.w = C.w) (hm : Mono C.flat D.flat) (h0 : 0 < (S e).1) (ho : ownsG C.w e (S e).1 v rows.length cells) (hr : RelF S C.flat (S e).1 rows cells) (hb : rows.length * (S e).2 ≤ reach) (free : ∀ b, v.ownBlock = some b → D.ok b) : RelV S D (.sl e rows false) [v] := by
 rcases ho.2 with ⟨rfl, hn⟩ | ⟨g, off, cap, cur, fz, rfl, h1, h2, h3, h4, h5, h6⟩
 ·obtain rfl : rows = [] := List.eq_nil_of_length_eq_zero hn
  exact ⟨none, 0, rfl, Nat.le_refl _, by simp, by simp [maxLen], by simp [reach], .inl rfl⟩
 ·refine ⟨some ⟨g, off, none⟩, cap, rfl, h3, by simp, h4, hb, .inr ⟨g, off, rfl, .inl ⟨he, free g rfl, fun _ => unfz_of (unfz_cells h1 h2) (by rw [hw])⟩, ?_⟩⟩
  refine RelR.of_RelF h0 rows cells off (hr.mono hm) (fun j u hj => ?_)
  show D.w.cell? _ = _
  rw [hw]
  exact ownsG_cell ho j u hj
theorem RelF.len {S : Sizes} {C : Ctx} {sz : Nat} : ∀ (rows : List AV) (cells : List Value), RelF S C sz rows cells → cells.length = rows.length * sz
 | [], cells, h => by rw [show cells = [] from h]; simp
 | r :: rs, cells, h => by
  obtain ⟨c1, c2, rfl, h2, h3, h4⟩ := h
  rw [List.length_append, h3, RelF.len rs c2 h4, List.length_cons, Nat.succ_mul]
  omega
theorem RelF.append {S : Sizes} {C : Ctx} {sz : Nat} : ∀ (rows qs : List AV) (cells ds : List Value), RelF S C sz rows cells → RelF S C sz qs ds → RelF S C sz (rows ++ qs) (cells ++ ds)
 | [], qs, cells, ds, h, k => by rw [show cells = [] from h]; exact k
 | r :: rs, qs, cells, ds, h, k => by
  obtain ⟨c1, c2, rfl, h2, h3, h4⟩ := h
  exact ⟨c1, c2 ++ ds, by rw [List.append_assoc], h2, h3, RelF.append rs qs c2 ds h4 k⟩
theorem RelR.to_RelF {S : Sizes} {C : Ctx} {b sz : Nat} : ∀ (rows : List AV) (off : Nat), RelR S C b sz rows off → ∃ cells, RelF S C sz rows cells ∧ ∀ j v, cells[j]? = some v → C.w.cell? ⟨b, off + j, none⟩ = some v
 | [], _, _ => ⟨[], rfl, by simp⟩
 | r :: rs, off, h => by
  obtain ⟨⟨cs, h1, h2, h3, h4⟩, h5⟩ := h
  obtain ⟨cells, k1, k2⟩ := RelR.to_RelF rs _ h5
  refine ⟨cs ++ cells, ⟨cs, cells, rfl, h1, h2, k1⟩, fun j v hj => ?_⟩
  rcases Nat.lt_or_ge j cs.length with hl | hl
  ·rw [List.getElem?_append_left hl] at hj
   exact h4 j v hj
  ·rw [List.getElem?_append_right hl] at hj
   have := k2 _ v hj
   rw [show off + sz + (j - cs.length) = off + j by omega] at this
   exact this
theorem foldl_put (off : Nat) : ∀ (l : List Value) (k : Nat) (cs : Array Value), off + k + l.length ≤ cs.size →
  ((l.zipIdx k).foldl (fun cs (p : Value × Nat) => cs.setIfInBounds (off + p.2) p.1) cs).toList = cs.toList.take (off + k) ++ l ++ cs.toList.drop (off + k + l.length)
 | [], k, cs, h => by simp
 | v :: r, k, cs, h => by
  simp only [List.length_cons] at h
  simp only [List.zipIdx_cons, List.foldl_cons]
  rw [foldl_put off r (k + 1) _ (by simp; omega), Array.toList_setIfInBounds]
  have hsz : off + k < cs.toList.length := by rw [Array.length_toList]; omega
  rw [List.set_eq_take_append_cons_drop, if_pos hsz]
  have hto : (cs.toList.take (off + k)).length = off + k := by rw [List.length_take, Array.length_toList]; omega
  have e1 : (cs.toList.take (off + k) ++ v :: cs.toList.drop (off + k + 1)).take (off + (k + 1)) = cs.toList.take (off + k) ++ [v] := by
   rw [List.take_append, List.take_of_length_le (by omega), hto, show off + (k + 1) - (off + k) = 1 by omega]
   simp
  have e2 : (cs.toList.take (off + k) ++ v :: cs.toList.drop (off + k + 1)).drop (off + (k + 1) + r.length) = cs.toList.drop (off + k + (v :: r).length) := by
   rw [List.drop_append, List.drop_eq_nil_of_le (by omega), hto, show off + (k + 1) + r.length - (off + k) = r.length + 1 by omega, List.drop_succ_cons, List.drop_drop]
   simp only [List.nil_append, List.length_cons]
   congr 1
   omega
  rw [e1, e2]
  simp
theorem put_array (off : Nat) (v cs : Array Value) (h : off + v.size ≤ cs.size) :
  (v.zipIdx.foldl (fun cs (p : Value × Nat) => cs.setIfInBounds (off + p.2) p.1) cs).toList = cs.toList.take off ++ v.toList ++ cs.toList.drop (off + v.size) := by
 have := foldl_put off v.toList 0 cs (by simpa using h)
 rw [← Array.foldl_toList, Array.toList_zipIdx]
 simpa using this
theorem fill_sound {S : Sizes} {C : Ctx} {place pl : Nat → Option (Nat × Nat)} (hpl : ∀ i q, pl i = some q → place i = some q) : ∀ (ps : List (Nat × AV)) (vs : List (Nat × Value)) (fs fs' : List AV) (cells : Array Value),
  ps.length = vs.length → (∀ (j : Nat) (p : Nat × AV) (q : Nat × Value), ps[j]? = some p → vs[j]? = some q → p.1 = q.1 ∧ VRel S C p.2 q.2) → RelL S C fs cells.toList → fillA pl fs ps = some fs' →
  ∃ cells', Instr.fill place cells vs = some cells' ∧ RelL S C fs' cells'.toList
 | [], vs, fs, fs', cells, hl, hv, hr, h => by
  have : vs = [] := List.eq_nil_of_length_eq_zero (by simpa using hl.symm)
  subst this
  injection h with h
  subst h
  exact ⟨cells, rfl, hr⟩
 | (i, a) :: ps, [], fs, fs', cells, hl, hv, hr, h => by simp at hl
 | (i, a) :: ps, (i', v) :: vs, fs, fs', cells, hl, hv, hr, h => by
  obtain ⟨rfl, hav⟩ := hv 0 _ _ rfl rfl
  simp only [fillA] at h
  split at h
  ·rename_i off size new hp hc
   split at h
   ·rename_i hsz
    obtain ⟨f1, h1, h2⟩ := Option.bind_eq_some_iff.1 h
    have hn := chunks_rel hc hav
    obtain ⟨k1, k2⟩ := putC_rel hr hn h1
    have hvl : v.cells.toList.length = v.cells.size := by simp
    rw [hvl, Array.length_toList] at k1
    have hput := put_array off v.cells cells k1
    have hlen := hn.len
    rw [hvl] at hlen
    have hr' : RelL S C f1 (v.cells.zipIdx.foldl (fun cs (p : Value × Nat) => cs.setIfInBounds (off + p.2) p.1) cells).toList := by
     rw [hput]
     rw [hvl] at k2
     exact k2
    obtain ⟨cells', k3, k4⟩ := fill_sound hpl ps vs f1 fs' _ (by simpa using hl) (fun j p q hp hq => hv (j + 1) p q (by simpa using hp) (by simpa using hq)) hr' h2
    refine ⟨cells', ?_, k4⟩
    simp only [Instr.fill, hpl _ _ hp]
    rw [if_neg (by simp only [Bool.or_eq_true, bne_iff_ne, ne_eq, decide_eq_true_eq, not_or]; omega)]
    exact k3
   ·cases h
  ·cases h
theorem fill_seq {S : Sizes} {C : Ctx} {sz : Nat} : ∀ (ps : List (Nat × AV)) (vs : List (Nat × Value)) (n : Nat) (rows : List AV) (cells : Array Value),
  ps.length = vs.length → (∀ (j : Nat) (p : Nat × AV) (q : Nat × Value), ps[j]? = some p → vs[j]? = some q → p.1 = q.1 ∧ VRel S C p.2 q.2) → seqA sz n ps = some rows → (n + ps.length) * sz ≤ cells.size →
  ∃ cells', Instr.fill (fun i => some (i * sz, sz)) cells vs = some cells' ∧ ∃ new, cells'.toList = cells.toList.take (n * sz) ++ new ++ cells.toList.drop ((n + ps.length) * sz) ∧ RelF S C sz rows new
 | [], vs, n, rows, cells, hl, hv, h, hf => by
  have : vs = [] := List.eq_nil_of_length_eq_zero (by simpa using hl.symm)
  subst this
  injection h with h
  subst h
  exact ⟨cells, rfl, [], by simp, rfl⟩
 | (i, a) :: ps, [], n, rows, cells, hl, hv, h, hf => by simp at hl
 | (i, a) :: ps, (i', v) :: vs, n, rows, cells, hl, hv, h, hf => by
  obtain ⟨rfl, hav⟩ := hv 0 _ _ rfl rfl
  simp only [seqA] at h
  split at h
  ·rename_i hin
   have hin' : i = n := hin
   subst hin'
   split at h
   ·rename_i c hc
    split at h
    ·rename_i hsz
     obtain ⟨rs, h1, h2⟩ := Option.map_eq_some_iff.1 h
     subst h2
     have hn := chunks_rel hc hav
     have hlen := hn.len
     have hvl : v.cells.toList.length = v.cells.size := by simp
     rw [hvl, hsz] at hlen
     have hexp : (i + ((i, a) :: ps).length) * sz = i * sz + sz + ps.length * sz := by
      rw [List.length_cons, Nat.add_mul, Nat.succ_mul]; omega
     have hput := put_array (i * sz) v.cells cells (by rw [hlen]; omega)
     have hsize : (v.cells.zipIdx.foldl (fun cs (p : Value × Nat) => cs.setIfInBounds (i * sz + p.2) p.1) cells).size = cells.size := by
      rw [← Array.length_toList, hput]
      simp only [List.length_append, List.length_take, List.length_drop, Array.length_toList, hlen]
      omega
     obtain ⟨cells', k1, new, k2, k3⟩ := fill_seq ps vs (i + 1) rs _ (by simpa using hl) (fun j p q hp hq => hv (j + 1) p q (by simpa using hp) (by simpa using hq)) h1 (by rw [hsize, Nat.add_mul, Nat.succ_mul]; omega)
     refine ⟨cells', ?_, v.cells.toList ++ new, ?_, ⟨v.cells.toList, new, rfl, chunks_back hc hn, by rw [hvl, hlen], k3⟩⟩
     ·simp only [Instr.fill]
      rw [if_neg (by simp only [Bool.or_eq_true, bne_iff_ne, ne_eq, decide_eq_true_eq, not_or]; omega)]
      exact k1
     ·rw [k2, hput, hlen]
      have hto : (cells.toList.take (i * sz)).length = i * sz := by rw [List.length_take, Array.length_toList]; omega
      have e1 : (cells.toList.take (i * sz) ++ v.cells.toList ++ cells.toList.drop (i * sz + sz)).take ((i + 1) * sz) = cells.toList.take (i * sz) ++ v.cells.toList := by
       rw [List.take_left']
       rw [List.length_append, hto, hvl, hlen, Nat.succ_mul]
      have e2 : (cells.toList.take (i * sz) ++ v.cells.toList ++ cells.toList.drop (i * sz + sz)).drop ((i + 1 + ps.length) * sz) = cells.toList.drop ((i + ((i, a) :: ps).length) * sz) := by
       rw [List.drop_append, List.drop_eq_nil_of_le (by rw [List.length_append, hto, hvl, hlen, Nat.add_mul, Nat.succ_mul]; omega), List.length_append, hto, hvl, hlen, List.drop_drop, List.nil_append]
       congr 1
       rw [hexp, Nat.add_mul, Nat.succ_mul]
       omega
      rw [e1, e2]
      simp
    ·cases h
   ·cases h
  ·cases h
def OpOK (P : Program) (S : Sizes) (o : Oper) (ρv : Operand → Value) (C : Ctx) (r : AV) (h' : List AO) : Prop :=
 ∃ C', Step C C' ∧ HRel S C' h' ∧ ((∃ v, (execOp ρv o).run P C.w = .ok (.value v) C'.w ∧ VRel S C' r v) ∨ ((execOp ρv o).run P C.w = .ok .skip C'.w ∧ r = .u))
theorem OpOK.same {S : Sizes} {o : Oper} {ρv : Operand → Value} {C : Ctx} {r : AV} {h : List AO} (H : HRel S C h) {v : Value} (hr : (execOp ρv o).run P C.w = .ok (.value v) C.w) (hv : VRel S C r v) : OpOK P S o ρv C r h :=
 ⟨C, Step.refl C, H, .inl ⟨v, hr, hv⟩⟩
theorem sc_inv {S : Sizes} {C : Ctx} {u v : Value} (h : VRel S C (.sc u) v) : v = u := by
 have h1 : [v] = [u] := (h : RelV S C (.sc u) [v]).1
 simpa using h1
theorem sc_mk {S : Sizes} {C : Ctx} {u : Value} (h : u.oneCell' = true) : VRel S C (.sc u) u := ⟨rfl, h⟩
theorem intRes_run {op : BinOp} {k : IntKind} {x y : Int} {v : Value} (h : intRes op k x y = some v) (t : TypeId) (w : World) : (binOp op t (.int k x) (.int k y)).run P w = .ok v w ∧ v.oneCell' = true := by
 cases op <;> simp only [intRes, Option.some.injEq, reduceCtorEq] at h <;> subst h <;>
  (refine ⟨?_, rfl⟩; simp [binOp, Op.intArith, Op.intBits, Op.intCmp])
theorem kind_desc (hG : G.ok P) {t : TypeId} {K : TK} (h : G.kind t = K) (hne : K ≠ .other) : ∃ d, P.underlying t = some d ∧ K.fits d := by
 obtain ⟨i, h1, h2⟩ := kind_get h hne
 obtain ⟨d, h3, h4⟩ := (hG t i h1).desc
 exact ⟨d, h3, by rw [← h2]; exact h4⟩
theorem beq_bytes (a b : ByteArray) : (a.toList == b.toList) = (a == b) := (beq_toListBytes a b).symm
theorem eqGuard_sc {op : BinOp} {t : TypeId} {x y : Operand} {u v : Value} (w : World) (h : u ≠ .nilIface) (hu : u.oneCell' = true) : (eqGuard op t x y u v).run P w = .ok () w := by
 cases u <;> first
  | exact absurd rfl h
  | (simp [Value.oneCell'] at hu; done)
  | (cases op <;> rfl)
theorem binA_run (hG : G.ok P) {op : BinOp} {t : TypeId} {C : Ctx} {a b r : AV} (h : binA (G.kind t) op a b = some r) {u v : Value} (ha : VRel G.S C a u) (hb : VRel G.S C b v) (x y : Operand) :
  ∃ z, (do eqGuard op t x y u v; binOp op t u v).run P C.w = .ok z C.w ∧ VRel G.S C r z := by
 unfold binA at h
 split at h
 ·rename_i k m k' n
  have hu := sc_inv ha
  have hv := sc_inv hb
  subst hu; subst hv
  split at h
  ·rename_i hk
   subst hk
   obtain ⟨z, hz, rfl⟩ := Option.map_eq_some_iff.1 h
   obtain ⟨h1, h2⟩ := intRes_run (P := P) hz t C.w
   refine ⟨z, ?_, sc_mk h2⟩
   have hg : (eqGuard op t x y (.int k m) (.int k n)).run P C.w = .ok () C.w := eqGuard_sc _ (by simp) rfl
   simp only [Sem.run_bind, hg, Result.andThen_ok, h1]
  ·cases h
 ·have hu := sc_inv ha
  have hv := sc_inv hb
  subst hu; subst hv
  rename_i p q
  have hg : (eqGuard op t x y (.bool p) (.bool q)).run P C.w = .ok () C.w := eqGuard_sc _ (by simp) rfl
  split at h
  ·rename_i hk
   obtain ⟨d, hd, hf⟩ := kind_desc hG hk (by simp)
   simp only [TK.fits] at hf
   subst hf
   injection h with h
   subst h
   refine ⟨_, ?_, sc_mk rfl⟩
   simp only [Sem.run_bind, hg, Result.andThen_ok, binOp, run_equal_bool C.w t p q hd, Sem.run_pure]
  ·rename_i hk
   obtain ⟨d, hd, hf⟩ := kind_desc hG hk (by simp)
   simp only [TK.fits] at hf
   subst hf
   injection h with h
   subst h
   refine ⟨_, ?_, sc_mk rfl⟩
   simp only [Sem.run_bind, hg, Result.andThen_ok, binOp, run_equal_bool C.w t p q hd, Sem.run_pure]
   rfl
  ·cases h
 ·have hu := sc_inv ha
  have hv := sc_inv hb
  subst hu; subst hv
  rename_i p q
  have hg : (eqGuard op t x y (.string p) (.string q)).run P C.w = .ok () C.w := eqGuard_sc _ (by simp) rfl
  split at h
  ·injection h with h
   subst h
   refine ⟨_, ?_, sc_mk rfl⟩
   simp only [Sem.run_bind, hg, Result.andThen_ok, binOp, Op.stringOp, Sem.run_pure, beq_bytes]
  ·injection h with h
   subst h
   refine ⟨_, ?_, sc_mk rfl⟩
   simp only [Sem.run_bind, hg, Result.andThen_ok, binOp, Op.stringOp, Sem.run_pure, beq_bytes]
   rfl
  ·cases h
 ·have hv := sc_inv hb
  subst hv
  obtain ⟨b0, _, _, h4⟩ := (ha : RelV G.S C (.ptr _ _ _) [u])
  obtain ⟨A, rfl⟩ : ∃ A, u = .pointer (some A) := ⟨_, by simpa using h4⟩
  have hg : ∀ op : BinOp, (eqGuard op t x y (.pointer (some A)) (.pointer none)).run P C.w = .ok () C.w := fun op => eqGuard_sc _ (by simp) rfl
  split at h
  ·rename_i hk
   obtain ⟨d, hd, hf⟩ := kind_desc hG hk (by simp)
   simp only [TK.fits] at hf
   subst hf
   injection h with h
   subst h
   refine ⟨_, ?_, sc_mk rfl⟩
   have he := run_equalIn_pointer_nil (P := P) C.w 9999 t (some A) (by rw [hd]; simp [Program.pointee, hd])
   simp only [Sem.run_bind, hg, Result.andThen_ok, binOp, Op.equal, Op.maxDepth, he, Sem.run_pure]
   rfl
  ·rename_i hk
   obtain ⟨d, hd, hf⟩ := kind_desc hG hk (by simp)
   simp only [TK.fits] at hf
   subst hf
   injection h with h
   subst h
   refine ⟨_, ?_, sc_mk rfl⟩
   have he := run_equalIn_pointer_nil (P := P) C.w 9999 t (some A) (by rw [hd]; simp [Program.pointee, hd])
   simp only [Sem.run_bind, hg, Result.andThen_ok, binOp, Op.equal, Op.maxDepth, he, Sem.run_pure]
   rfl
  ·cases h
 ·have hu := sc_inv ha
  have hv := sc_inv hb
  subst hu; subst hv
  have hg : ∀ op : BinOp, (eqGuard op t x y (.pointer none) (.pointer none)).run P C.w = .ok () C.w := fun op => eqGuard_sc _ (by simp) rfl
  split at h
  ·rename_i hk
   obtain ⟨d, hd, hf⟩ := kind_desc hG hk (by simp)
   simp only [TK.fits] at hf
   subst hf
   injection h with h
   subst h
   refine ⟨_, ?_, sc_mk rfl⟩
   have he := run_equalIn_pointer_nil (P := P) C.w 9999 t none (by rw [hd]; simp [Program.pointee, hd])
   simp only [Sem.run_bind, hg, Result.andThen_ok, binOp, Op.equal, Op.maxDepth, he, Sem.run_pure]
   rfl
  ·rename_i hk
   obtain ⟨d, hd, hf⟩ := kind_desc hG hk (by simp)
   simp only [TK.fits] at hf
   subst hf
   injection h with h
   subst h
   refine ⟨_, ?_, sc_mk rfl⟩
   have he := run_equalIn_pointer_nil (P := P) C.w 9999 t none (by rw [hd]; simp [Program.pointee, hd])
   simp only [Sem.run_bind, hg, Result.andThen_ok, binOp, Op.equal, Op.maxDepth, he, Sem.run_pure]
   rfl
  ·cases h
 ·cases h
theorem unA_run {op : UnOp} {S : Sizes} {C : Ctx} {a r : AV} (h : unA op a = some r) {u : Value} (ha : VRel S C a u) : ∃ z, (Op.unary op u).run P C.w = .ok z C.w ∧ VRel S C r z := by
 unfold unA at h
 split at h
 ·have hu := sc_inv ha
  subst hu
  split at h
  ·injection h with h
   subst h
   exact ⟨_, rfl, sc_mk rfl⟩
  ·cases h
 ·have hu := sc_inv ha
  subst hu
  split at h
  ·injection h with h
   subst h
   exact ⟨_, rfl, sc_mk rfl⟩
  ·cases h
 ·cases h
theorem ptr_inv {S : Sizes} {C : Ctx} {o off : Nat} {ix : Option (Nat × Nat)} {v : Value} (h : VRel S C (.ptr o off ix) v) : ∃ b, C.m[o]? = some (.blk b) ∧ ixok ix ∧ v = .pointer (some ⟨b, off + ixo ix, none⟩) := by
 obtain ⟨b, h1, h2, h3⟩ := (h : RelV S C (.ptr o off ix) [v])
 exact ⟨b, h1, h2, by simpa using h3⟩
theorem ep_inv {S : Sizes} {C : Ctx} {fs : List AV} {off : Nat} {ix : Option (Nat × Nat)} {v : Value} (h : VRel S C (.ep fs off ix) v) : ∃ b o0 cells, v = .pointer (some ⟨b, o0 + (off + ixo ix), none⟩) ∧ ixok ix ∧ C.okM (epMark fs) b ∧ RelL S C.flat fs cells ∧ cells ≠ [] ∧
   ∀ j v, cells[j]? = some v → C.w.cell? ⟨b, o0 + j, none⟩ = some v := by
 obtain ⟨b, o0, cells, h1, h2⟩ := (h : RelV S C (.ep fs off ix) [v])
 exact ⟨b, o0, cells, by simpa using h1, h2⟩
theorem sl_inv {S : Sizes} {C : Ctx} {e : TypeId} {rows : List AV} {full : Bool} {v : Value} (h : VRel S C (.sl e rows full) v) : ∃ a c, v = .slice a rows.length c ∧ rows.length ≤ c ∧ (full = true → c = rows.length) ∧ c ≤ maxLen ∧ rows.length * (S e).2 ≤ reach ∧
   (rows = [] ∨ ∃ b off, a = some ⟨b, off, none⟩ ∧ C.okE e b ∧ RelR S C.flat b (S e).1 rows off) := by
 obtain ⟨a, c, h1, h2⟩ := (h : RelV S C (.sl e rows full) [v])
 exact ⟨a, c, by simpa using h1, h2⟩
theorem box_rel {S : Sizes} {C : Ctx} {h : List AO} (H : HRel S C h) {o b : Nat} {e : TypeId} {fs : List AV} (ho : h[o]? = some (.box e fs)) (hm : C.m[o]? = some (.blk b)) : ∃ cs, C.w.heap[b]? = some (.cells cs e (0, 0)) ∧ RelL S C fs cs.toList := H.rel o _ _ ho hm
theorem rels_map {S : Sizes} {C : Ctx} {ρ : Operand → AV} {ρv : Operand → Value} (hρ : ∀ x, VRel S C (ρ x) (ρv x)) (parts : Array (Nat × Operand)) :
  (parts.toList.map fun p => (p.1, ρ p.2)).length = (parts.map fun (i, x) => (i, ρv x)).toList.length ∧
  ∀ (j : Nat) (p : Nat × AV) (q : Nat × Value), (parts.toList.map fun p => (p.1, ρ p.2))[j]? = some p → (parts.map fun (i, x) => (i, ρv x)).toList[j]? = some q → p.1 = q.1 ∧ VRel S C p.2 q.2 := by
 refine ⟨by simp, fun j p q hp hq => ?_⟩
 rw [Array.toList_map, List.getElem?_map] at hq
 rw [List.getElem?_map] at hp
 cases hj : parts.toList[j]? with
 | none => rw [hj] at hp; cases hp
 | some z =>
  rw [hj] at hp hq
  have h1 : p = (z.1, ρ z.2) := by simpa using hp.symm
  have h2 : q = (z.1, ρv z.2) := by simpa using hq.symm
  rw [h1, h2]
  exact ⟨rfl, hρ _⟩
theorem caps_rel {S : Sizes} {C : Ctx} {ρ : Operand → AV} {ρv : Operand → Value} (hρ : ∀ x, VRel S C (ρ x) (ρv x)) : ∀ (l : List Operand), (l.map ρ).all isCap = true → RelL S C (l.map ρ) (l.map ρv)
 | [], _ => rfl
 | x :: l, h => by
  simp only [List.map_cons, List.all_cons, Bool.and_eq_true] at h
  refine ⟨[ρv x], l.map ρv, rfl, ?_, caps_rel hρ l h.2⟩
  have h1 := hρ x
  have h2 := h.1
  cases hx : ρ x <;> rw [hx] at h1 h2 <;> first
   | exact h1
   | (simp only [isCap, Bool.false_eq_true] at h2)
theorem run_places (hG : G.ok P) : ∀ (l : List Field), (l.all fun f => (G.get f.type).isSome) = true → ∀ w : World,
  (l.mapM fun f => (do pure (f.offset, ← sizeOf f.type) : Sem (Nat × Nat))).run P w = .ok (l.map fun f => (f.offset, ((G.get f.type).map (·.size)).getD 0)) w
 | [], _, w => rfl
 | f :: l, h, w => by
  simp only [List.all_cons, Bool.and_eq_true] at h
  obtain ⟨i, hi⟩ := Option.isSome_iff_exists.1 h.1
  simp only [List.mapM_cons, Sem.run_bind, run_size (hG _ i hi), Result.andThen_ok, Sem.run_pure, run_places hG l h.2, List.map_cons, hi]
  rfl
theorem op_build (hG : G.ok P) {t : TypeId} {parts : Array (Nat × Operand)} {dst : Option Tmp} {oty : TypeId} {pos : String} {after : Array Edge} {guard : Option (Nat × Bool)} {ρ : Operand → AV} {ρv : Operand → Value} {C : Ctx} {h : List AO} (H : HRel G.S C h) (hρ : ∀ x, VRel G.S C (ρ x) (ρv x)) {r : AV} {h' : List AO} (hop : aop G ρ h (.build t parts) = some (r, h')) :
  OpOK P G.S ⟨dst, .build t parts, oty, pos, after, guard⟩ ρv C r h' := by
 simp only [aop] at hop
 split at hop
 ·cases hop
 ·rename_i i hi
  have hf := hG t i hi
  obtain ⟨inf, z, k1, k2, k3, k4, k4', k5⟩ := hf.info
  obtain ⟨d, hd, hk⟩ := hf.desc
  obtain ⟨m1, m2⟩ := rels_map hρ parts
  split at hop
  ·rename_i fl hkind
   split at hop
   ·rename_i hall
    obtain ⟨fs, h1, h2⟩ := Option.map_eq_some_iff.1 hop
    injection h2 with h2 h3; subst h2; subst h3
    rw [hkind] at hk
    obtain ⟨fields, rfl, hfl⟩ := hk
    subst hfl
    have hall' : (fields.toList.all fun f => (G.get f.type).isSome) = true := by
     rw [List.all_map] at hall
     exact hall
    have hmap : (fields.mapM fun f => (do pure (f.offset, ← sizeOf f.type) : Sem (Nat × Nat))).run P C.w = .ok (fields.toList.map fun f => (f.offset, ((G.get f.type).map (·.size)).getD 0)).toArray C.w := by
     rw [Array.mapM_eq_mapM_toList, Sem.run_map, run_places hG _ hall']
     rfl
    obtain ⟨cells', q1, q2⟩ := fill_sound (place := ((fields.toList.map fun f => (f.offset, ((G.get f.type).map (·.size)).getD 0)).toArray[·]?)) (fun j q hq => by
     obtain ⟨f, hf1, hf2⟩ := Option.bind_eq_some_iff.1 hq
     rw [List.getElem?_map] at hf1
     obtain ⟨g, hg1, rfl⟩ := Option.map_eq_some_iff.1 hf1
     obtain ⟨fi, hfi, rfl⟩ := Option.map_eq_some_iff.1 hf2
     simp [hfi]
     exact ⟨g, by simpa using hg1, rfl, by rw [hfi]; rfl⟩) _ _ _ _ z.cells m1 m2 (k5 G.S C) h1
    refine OpOK.same H ?_ (mkAgg_rel q2)
    simp only [execOp, Instr.build, zeroValue, typeInfo, Sem.run_bind, run_program, Result.andThen_ok, k1, k4, Sem.run_pure, run_underlying hd, hmap, q1]
   ·cases hop
  ·rename_i n e hkind
   split at hop
   ·rename_i ei hei
    obtain ⟨fs, h1, h2⟩ := Option.map_eq_some_iff.1 hop
    injection h2 with h2 h3; subst h2; subst h3
    rw [hkind] at hk
    simp only [TK.fits] at hk
    subst hk
    obtain ⟨cells', q1, q2⟩ := fill_sound (place := fun j => some (j * ei.size, ei.size)) (fun j q hq => hq) _ _ _ _ z.cells m1 m2 (k5 G.S C) h1
    refine OpOK.same H ?_ (mkAgg_rel q2)
    simp only [execOp, Instr.build, zeroValue, typeInfo, Sem.run_bind, run_program, Result.andThen_ok, k1, k4, Sem.run_pure, run_underlying hd, run_size (hG e ei hei), q1]
   ·cases hop
  ·cases hop
theorem op_buildSlice (hG : G.ok P) {t : TypeId} {len : Nat} {parts : Array (Nat × Operand)} {dst : Option Tmp} {oty : TypeId} {pos : String} {after : Array Edge} {guard : Option (Nat × Bool)} {ρ : Operand → AV} {ρv : Operand → Value} {C : Ctx} {h : List AO} (H : HRel G.S C h) (hρ : ∀ x, VRel G.S C (ρ x) (ρv x)) {r : AV} {h' : List AO} (hop : aop G ρ h (.buildSlice t len parts) = some (r, h')) :
  OpOK P G.S ⟨dst, .buildSlice t len parts, oty, pos, after, guard⟩ ρv C r h' := by
 simp only [aop] at hop
 split at hop
 ·rename_i i hi
  split at hop
  ·rename_i e hkind
   split at hop
   ·rename_i ei hei
    split at hop
    ·rename_i hc
     obtain ⟨c1, c2, c3, c4, c5⟩ := hc
     obtain ⟨rows, h1, h2⟩ := Option.map_eq_some_iff.1 hop
     injection h2 with h2 h3; subst h2; subst h3
     have hf := hG t i hi
     obtain ⟨d, hd, hk⟩ := hf.desc
     rw [hkind] at hk
     simp only [TK.fits] at hk
     subst hk
     have he := hG e ei hei
     obtain ⟨inf, z, k1, k2, k3, k4, k4', k5⟩ := he.info
     obtain ⟨m1, m2'⟩ := rels_map hρ parts
     have m2 : ∀ (j : Nat) (p : Nat × AV) (q : Nat × Value), (parts.toList.map fun p => (p.1, ρ p.2))[j]? = some p → (parts.map fun (i, x) => (i, ρv x)).toList[j]? = some q → p.1 = q.1 ∧ VRel G.S C.flat p.2 q.2 := by
      intro j p q hp hq
      obtain ⟨g1, g2⟩ := m2' j p q hp hq
      refine ⟨g1, g2.plain (Under.toFlat C) ?_⟩
      rw [List.getElem?_map] at hp
      obtain ⟨z, hz, rfl⟩ := Option.map_eq_some_iff.1 hp
      exact List.all_eq_true.1 c5 z (List.mem_iff_getElem?.2 ⟨j, hz⟩)
     obtain ⟨zc, hz1, hz2⟩ : ∃ zc : Array Value, (len * ei.size = 0 → zc = #[]) ∧ (len * ei.size ≠ 0 → zc = z.cells) :=
      ⟨if len * ei.size = 0 then #[] else z.cells, fun h => by rw [if_pos h], fun h => by rw [if_neg h]⟩
     have hps : (parts.toList.map fun p => (p.1, ρ p.2)).length = len := by simpa using c1
     obtain ⟨cells', q1, new, q2, q3⟩ := fill_seq (sz := ei.size) _ _ 0 rows ((Array.range (len * ei.size)).map (zc[· % zc.size]!)) m1 m2 h1 (by rw [hps]; simp)
     have hnew : cells'.toList = new := by
      rw [q2, hps, Nat.zero_mul, List.take_zero, List.nil_append, Nat.zero_add, List.drop_eq_nil_of_le (by simp), List.append_nil]
     have hrl : rows.length = len := by
      have e1 := RelF.len _ _ q3
      have e2 : new.length = len * ei.size := by
       have hfl : ∀ (n : Nat) (ps : List (Nat × AV)) (rs : List AV), seqA ei.size n ps = some rs → rs.length = ps.length := by
        intro n ps
        induction ps generalizing n with
        | nil => intro rs hrs; injection hrs with hrs; subst hrs; rfl
        | cons p ps ih =>
         intro rs hrs
         obtain ⟨pi, pa⟩ := p
         simp only [seqA] at hrs
         split at hrs
         ·split at hrs
          ·split at hrs
           ·obtain ⟨rs', g1, rfl⟩ := Option.map_eq_some_iff.1 hrs
            simp [ih _ _ g1]
           ·cases hrs
          ·cases hrs
         ·cases hrs
       rw [e1, hfl _ _ _ h1, hps]
      rw [e1] at e2
      exact Nat.eq_of_mul_eq_mul_right c4 e2
     have hkept := new_kept C (.cells cells' e)
     have hok := new_ok H (.cells cells' e)
     refine ⟨_, hkept.toStep, H.kept hkept, .inl ⟨.slice (some ⟨C.w.heap.size, 0, none⟩) len len, ?_, ?_⟩⟩
     ·simp only [execOp, Instr.buildSlice, Sem.run_bind, run_underlying hd, Result.andThen_ok, run_size he]
      rw [if_neg (by omega)]
      by_cases hl : len * ei.size = 0
      ·rw [hz1 hl] at q1
       rw [if_pos hl]
       simp only [Sem.run_bind, Result.andThen_ok, q1, Sem.run_pure, newRow, newObj, Sem.run]
       rfl
      ·rw [hz2 hl] at q1
       rw [if_neg hl]
       simp only [Sem.run_bind, Result.andThen_ok, zeroValue, typeInfo, run_program, k1, k4, q1, Sem.run_pure, newRow, newObj, Sem.run]
       rfl
     ·refine ⟨some ⟨C.w.heap.size, 0, none⟩, len, ?_, ?_, fun _ => hrl.symm, ?_, ?_, ?_⟩
      ·rw [hrl]
      ·omega
      ·have : len ≤ len * ei.size := Nat.le_mul_of_pos_right _ c4
       simp only [maxLen]
       omega
      ·rw [S_get hei, hrl]
       exact c3
      ·refine .inr ⟨C.w.heap.size, 0, rfl, .inl ⟨(hG _ _ hei).lt, hok, fun _ => unfz_cells (alloc_heap _ _) (.inl rfl)⟩, ?_⟩
       rw [S_get hei]
       refine RelR.of_RelF c4 rows new 0 (q3.mono hkept.toStep.mono.flat) (fun j v hj => ?_)
       rw [Nat.zero_add]
       show (C.w.alloc _).cell? _ = _
       rw [cell_of_heap (alloc_heap C.w _)]
       rw [← hnew] at hj
       simpa using hj
    ·cases hop
   ·cases hop
  ·cases hop
 ·cases hop
end Go.Sh
namespace Go.Sh
variable {P : Program} {G : Tab}
section
variable {dst : Option Tmp} {oty : TypeId} {pos : String} {after : Array Edge} {guard : Option (Nat × Bool)} {ρ : Operand → AV} {ρv : Operand → Value} {C : Ctx} {h h' : List AO} {r : AV}
theorem op_load (hG : G.ok P) {ty : TypeId} {x : Operand} (H : HRel G.S C h) (hρ : ∀ x, VRel G.S C (ρ x) (ρv x)) (hop : aop G ρ h (.load ty x) = some (r, h')) :
  OpOK P G.S ⟨dst, .load ty x, oty, pos, after, guard⟩ ρv C r h' := by
 simp only [aop] at hop
 split at hop
 ·rename_i o off ix hx
  have hp := hρ x
  rw [hx] at hp
  obtain ⟨b, h1, h2, h3⟩ := ptr_inv hp
  split at hop
  ·rename_i e fs ho
   obtain ⟨r', k1, k2⟩ := Option.map_eq_some_iff.1 hop
   injection k2 with k2 k3; subst k2; subst k3
   obtain ⟨cs, k4, k5⟩ := box_rel H ho h1
   obtain ⟨v, k6, k7⟩ := load_sound hG k5 (RelL.toList_cells (S := G.S) k4) h2 k1
   rw [Nat.zero_add] at k6
   refine OpOK.same H ?_ k7
   simp only [execOp, Instr.loadAt, h3, Instr.sureAddr, Sem.run_bind, Sem.run_pure, Result.andThen_ok, k6]
  ·cases hop
 ·rename_i fs off ix hx
  have hp := hρ x
  rw [hx] at hp
  obtain ⟨b, o0, cells, h3, h2, h4, h5, h6, h7⟩ := ep_inv hp
  obtain ⟨r', k1, k2⟩ := Option.map_eq_some_iff.1 hop
  injection k2 with k2 k3; subst k2; subst k3
  obtain ⟨v, k6, k7⟩ := load_sound hG (h5.mono (Mono.unflat C)) h7 h2 k1
  refine OpOK.same H ?_ k7
  simp only [execOp, Instr.loadAt, h3, Instr.sureAddr, Sem.run_bind, Sem.run_pure, Result.andThen_ok, k6]
 ·cases hop
theorem op_store (hG : G.ok P) {ty : TypeId} {x y : Operand} (H : HRel G.S C h) (hρ : ∀ x, VRel G.S C (ρ x) (ρv x)) (hop : aop G ρ h (.store ty x y) = some (r, h')) :
  OpOK P G.S ⟨dst, .store ty x y, oty, pos, after, guard⟩ ρv C r h' := by
 simp only [aop] at hop
 split at hop
 ·rename_i o off ix hx
  have hp := hρ x
  rw [hx] at hp
  obtain ⟨b, h1, h2, h3⟩ := ptr_inv hp
  split at hop
  ·rename_i e fs ho
   obtain ⟨fs', k1, k2⟩ := Option.map_eq_some_iff.1 hop
   injection k2 with k2 k3; subst k2; subst k3
   obtain ⟨w', k4, k5, k6⟩ := store_sound hG H ho h1 h2 (hρ y) k1
   refine ⟨_, k5, k6, .inr ⟨?_, rfl⟩⟩
   simp only [execOp, Instr.storeAt, h3, Instr.sureAddr, Sem.run_bind, Sem.run_pure, Result.andThen_ok, k4]
  ·cases hop
 ·cases hop
theorem op_binOp (hG : G.ok P) {op : BinOp} {xt yt : TypeId} {x y : Operand} (H : HRel G.S C h) (hρ : ∀ x, VRel G.S C (ρ x) (ρv x)) (hop : aop G ρ h (.binOp op xt x y yt) = some (r, h')) :
  OpOK P G.S ⟨dst, .binOp op xt x y yt, oty, pos, after, guard⟩ ρv C r h' := by
 simp only [aop] at hop
 obtain ⟨r', k1, k2⟩ := Option.map_eq_some_iff.1 hop
 injection k2 with k2 k3; subst k2; subst k3
 obtain ⟨z, k4, k5⟩ := binA_run hG k1 (hρ x) (hρ y) x y
 refine OpOK.same H ?_ k5
 simp only [execOp, Sem.run_bind, k4, Result.andThen_ok, Sem.run_pure] at k4 ⊢
theorem op_unOp {op : UnOp} {t : TypeId} {x : Operand} (H : HRel G.S C h) (hρ : ∀ x, VRel G.S C (ρ x) (ρv x)) (hop : aop G ρ h (.unOp op t x) = some (r, h')) :
  OpOK P G.S ⟨dst, .unOp op t x, oty, pos, after, guard⟩ ρv C r h' := by
 simp only [aop] at hop
 obtain ⟨r', k1, k2⟩ := Option.map_eq_some_iff.1 hop
 injection k2 with k2 k3; subst k2; subst k3
 obtain ⟨z, k4, k5⟩ := unA_run (P := P) k1 (hρ x)
 refine OpOK.same H ?_ k5
 simp only [execOp, Sem.run_bind, k4, Result.andThen_ok, Sem.run_pure]
theorem op_convert (hG : G.ok P) {src d : TypeId} {x : Operand} (H : HRel G.S C h) (hρ : ∀ x, VRel G.S C (ρ x) (ρv x)) (hop : aop G ρ h (.convert src d x) = some (r, h')) :
  OpOK P G.S ⟨dst, .convert src d x, oty, pos, after, guard⟩ ρv C r h' := by
 simp only [aop] at hop
 split at hop
 ·rename_i k1 k2 k3 n hs hd hx
  injection hop with hop; injection hop with h1 h2; subst h1; subst h2
  have hp := hρ x
  rw [hx] at hp
  have hv := sc_inv hp
  obtain ⟨d1, e1, f1⟩ := kind_desc hG hs (by simp)
  obtain ⟨d2, e2, f2⟩ := kind_desc hG hd (by simp)
  simp only [TK.fits] at f1 f2
  subst f1; subst f2
  refine OpOK.same H ?_ (sc_mk rfl)
  simp only [execOp, convert, hv, Sem.run_bind, run_underlying e1, run_underlying e2, Result.andThen_ok, Conv.intToInt, Sem.run_pure]
 ·cases hop
theorem fl_get {fs : Array Field} {fl : List (Nat × TypeId)} (h : fs.toList.map (fun f => (f.offset, f.type)) = fl) {f o : Nat} {t : TypeId} (hf : fl[f]? = some (o, t)) : ∃ fd, fs[f]? = some fd ∧ fd.offset = o ∧ fd.type = t := by
 subst h
 rw [List.getElem?_map] at hf
 obtain ⟨fd, h1, h2⟩ := Option.map_eq_some_iff.1 hf
 injection h2 with h2 h3
 exact ⟨fd, by simpa using h1, h2, h3⟩
theorem el_inv {S : Sizes} {C : Ctx} {e : TypeId} {o k i off : Nat} {v : Value} (h : VRel S C (.el e o k i off) v) : ∃ v0 kk mn, v.oneCell' = true ∧ C.m[o]? = some (.row v0 kk mn) ∧ k ≤ kk ∧
   (k = kk → ∃ g a0 n c, v0 = .slice (some ⟨g, a0, none⟩) n c ∧ i < n ∧ v = .pointer (some ⟨g, a0 + (i * (S e).1 + off), none⟩)) := by
 obtain ⟨p, v0, kk, mn, h1, h2⟩ := (h : RelV S C (.el e o k i off) [v])
 have : p = v := by simpa using h1.symm
 subst this
 exact ⟨v0, kk, mn, h2⟩
theorem op_nilCheck {x : Operand} (H : HRel G.S C h) (hρ : ∀ x, VRel G.S C (ρ x) (ρv x)) (hop : aop G ρ h (.nilCheck x) = some (r, h')) :
  OpOK P G.S ⟨dst, .nilCheck x, oty, pos, after, guard⟩ ρv C r h' := by
 simp only [aop] at hop
 split at hop
 ·rename_i o off ix hx
  injection hop with hop; injection hop with h1 h2; subst h1; subst h2
  have hp := hρ x
  rw [hx] at hp
  obtain ⟨b, _, _, h3⟩ := ptr_inv hp
  refine OpOK.same H (v := ρv x) ?_ hp
  simp only [execOp, h3, Sem.run_pure]
 ·rename_i fs off ix hx
  injection hop with hop; injection hop with h1 h2; subst h1; subst h2
  have hp := hρ x
  rw [hx] at hp
  obtain ⟨b, o0, cells, h3, _⟩ := ep_inv hp
  refine OpOK.same H (v := ρv x) ?_ hp
  simp only [execOp, h3, Sem.run_pure]
 ·rename_i e o k j off hx
  split at hop
  ·rename_i e' rows k' app ho
   split at hop
   ·rename_i hkk
    subst hkk
    injection hop with hop; injection hop with h1 h2; subst h1; subst h2
    have hp := hρ x
    rw [hx] at hp
    obtain ⟨v0, kk, mn, k1, k2, k3, k4⟩ := el_inv hp
    obtain ⟨g, a0, n, c, k5, k6, k7⟩ := k4 (H.rel o _ _ ho k2).1
    refine OpOK.same H (v := ρv x) ?_ hp
    simp only [execOp, k7, Sem.run_pure]
   ·cases hop
  ·cases hop
 ·cases hop
theorem op_fieldAddr (hG : G.ok P) {s : TypeId} {x : Operand} {f : Nat} (H : HRel G.S C h) (hρ : ∀ x, VRel G.S C (ρ x) (ρv x)) (hop : aop G ρ h (.fieldAddr s x f) = some (r, h')) :
  OpOK P G.S ⟨dst, .fieldAddr s x f, oty, pos, after, guard⟩ ρv C r h' := by
 simp only [aop] at hop
 split at hop
 ·rename_i i hi
  split at hop
  ·rename_i fl hk
   split at hop
   ·rename_i o' ft hfl
    split at hop
    ·rename_i fi hfi
     split at hop
     ·cases hop
     ·rename_i hsz
      obtain ⟨d, hd, hk'⟩ := (hG s i hi).desc
      rw [hk] at hk'
      obtain ⟨fs, rfl, hfs⟩ := hk'
      obtain ⟨fd, g1, g2, g3⟩ := fl_get hfs hfl
      have hfd := hG ft fi hfi
      have hplace : ∀ a : Addr, (fieldPlace a fd).run P C.w = .ok (a.add fd.offset) C.w := by
       intro a
       unfold fieldPlace
       rw [g3]
       simp only [Sem.run_bind, run_size hfd, Result.andThen_ok, if_neg hsz, Sem.run_pure]
      split at hop
      ·rename_i o off hx
       injection hop with hop; injection hop with h1 h2; subst h1; subst h2
       have hp := hρ x
       rw [hx] at hp
       obtain ⟨b, k1, k2, k3⟩ := ptr_inv hp
       refine OpOK.same (v := .pointer (some ⟨b, off + o', none⟩)) H ?_ ⟨b, k1, trivial, by simp [ixo]⟩
       simp only [ixo, Nat.add_zero] at k3
       simp only [execOp, Instr.fieldAt, Sem.run_bind, run_underlying hd, Result.andThen_ok, g1, k3, Instr.sureAddr, Sem.run_pure, hplace, addr_add, g2]
      ·rename_i gs off hx
       injection hop with hop; injection hop with h1 h2; subst h1; subst h2
       have hp := hρ x
       rw [hx] at hp
       obtain ⟨b, o0, cells, k3, k1⟩ := ep_inv hp
       refine OpOK.same (v := .pointer (some ⟨b, o0 + off + o', none⟩)) H ?_ ⟨b, o0, cells, by simp [ixo, Nat.add_assoc], k1⟩
       simp only [ixo, Nat.add_zero] at k3
       simp only [execOp, Instr.fieldAt, Sem.run_bind, run_underlying hd, Result.andThen_ok, g1, k3, Instr.sureAddr, Sem.run_pure, hplace, addr_add, g2]
      ·rename_i e o k j off hx
       split at hop
       ·rename_i e' rows k' app ho
        split at hop
        ·rename_i hkk
         subst hkk
         injection hop with hop; injection hop with h1 h2; subst h1; subst h2
         have hp := hρ x
         rw [hx] at hp
         obtain ⟨v0, kk, mn, k1, k2, k3, k4⟩ := el_inv hp
         have hkk := (H.rel o _ _ ho k2).1
         obtain ⟨g, a0, n, c, k5, k6, k7⟩ := k4 hkk
         refine OpOK.same (v := .pointer (some ⟨g, a0 + (j * (G.S e).1 + off) + o', none⟩)) H ?_ ⟨_, v0, kk, mn, rfl, rfl, k2, k3, fun _ => ⟨g, a0, n, c, k5, k6, by rw [Nat.add_assoc, Nat.add_assoc]⟩⟩
         simp only [execOp, Instr.fieldAt, Sem.run_bind, run_underlying hd, Result.andThen_ok, g1, k7, Instr.sureAddr, Sem.run_pure, hplace, addr_add, g2]
        ·cases hop
       ·cases hop
      ·cases hop
    ·cases hop
   ·cases hop
  ·cases hop
 ·cases hop
theorem op_indexAddr (hG : G.ok P) {t : TypeId} {x i : Operand} (H : HRel G.S C h) (hρ : ∀ x, VRel G.S C (ρ x) (ρv x)) (hop : aop G ρ h (.indexAddr t x i) = some (r, h')) :
  OpOK P G.S ⟨dst, .indexAddr t x i, oty, pos, after, guard⟩ ρv C r h' := by
 simp only [aop] at hop
 split at hop
 ·rename_i _ _ _ n e o off k j hk hx hi
  have hp := hρ x
  rw [hx] at hp
  have hq := hρ i
  rw [hi] at hq
  have hq := sc_inv hq
  obtain ⟨b, k1, k2, k3⟩ := ptr_inv hp
  obtain ⟨d, hd, hf⟩ := kind_desc hG hk (by simp)
  simp only [TK.fits] at hf
  subst hf
  split at hop
  ·rename_i ei hei
   split at hop
   ·rename_i hc
    obtain ⟨c1, c2, c3, c4⟩ := hc
    injection hop with hop; injection hop with h1 h2; subst h1; subst h2
    refine OpOK.same (v := .pointer (some ⟨b, off + j.toNat, none⟩)) H ?_ ⟨b, k1, by simp only [ixok]; omega, rfl⟩
    simp only [ixo, Nat.add_zero] at k3
    simp only [execOp, Instr.indexAt, hq, asIntOf, Sem.run_bind, Sem.run_pure, Result.andThen_ok, run_underlying hd, k3, Instr.sureAddr]
    rw [if_pos ⟨c3, c4⟩]
    simp only [Sem.run_bind, run_size (hG e ei hei), Result.andThen_ok, Sem.run_pure, addr_add, c2, Nat.mul_one]
   ·cases hop
  ·cases hop
 ·rename_i _ _ _ e e' rows full k j hk hx hi
  have hp := hρ x
  rw [hx] at hp
  have hq := hρ i
  rw [hi] at hq
  have hq := sc_inv hq
  obtain ⟨a, c, s1, s2, s3, s4, s5, s6⟩ := sl_inv hp
  obtain ⟨d, hd, hf⟩ := kind_desc hG hk (by simp)
  simp only [TK.fits] at hf
  subst hf
  split at hop
  ·rename_i hj
   obtain ⟨⟨rfl, hmk⟩, hj, hsome⟩ := hj
   obtain ⟨ei, hei⟩ := Option.isSome_iff_exists.1 hsome
   split at hop
   ·rename_i r0 hr0
    obtain ⟨fs, k1, k2⟩ := Option.map_eq_some_iff.1 hop
    injection k2 with k2 k3; subst k2; subst k3
    have hlt : j.toNat < rows.length := (List.getElem?_eq_some_iff.1 hr0).1
    rcases s6 with s6 | ⟨b, off, s6, s7, s8⟩
    ·rw [s6] at hlt; simp at hlt
    ·obtain ⟨cs, m1, m2, m3, m4⟩ := RelR.get rows off j.toNat r0 s8 hr0
     refine OpOK.same (v := .pointer (some ⟨b, off + j.toNat * (G.S e).1, none⟩)) H ?_ ⟨b, off + j.toNat * (G.S e).1, cs, by simp [ixo], trivial, s7.ep (e := e) (by simp [epOk, hmk]), chunks_relV k1 m1, m3, m4⟩
     have hesz : (sizeOf e).run P C.w = .ok (G.S e).1 C.w := by
      rw [S_get hei]
      exact run_size (hG e ei hei) C.w
     subst s6
     simp only [execOp, Instr.indexAt, hq, asIntOf, Sem.run_bind, Sem.run_pure, Result.andThen_ok, run_underlying hd, s1]
     rw [if_pos ⟨hj, by omega⟩]
     simp only [Sem.run_bind, hesz, Result.andThen_ok, Sem.run_pure, addr_add]
   ·cases hop
  ·cases hop
 ·cases hop
theorem op_extract {x : Operand} {i : Nat} (H : HRel G.S C h) (hρ : ∀ x, VRel G.S C (ρ x) (ρv x)) (hop : aop G ρ h (.extract x i) = some (r, h')) :
  OpOK P G.S ⟨dst, .extract x i, oty, pos, after, guard⟩ ρv C r h' := by
 simp only [aop] at hop
 split at hop
 ·rename_i vs hx
  obtain ⟨r', k1, k2⟩ := Option.map_eq_some_iff.1 hop
  injection k2 with k2 k3; subst k2; subst k3
  have hp := hρ x
  rw [hx] at hp
  obtain ⟨l, hl, hr⟩ := hp
  have key : ∀ (aas : List AV) (ws : List Value) (i : Nat) (a : AV), VRels G.S C aas ws → aas[i]? = some a → ∃ v, ws[i]? = some v ∧ VRel1 G.S C a v := by
   intro aas ws i a hrel
   induction hrel generalizing i with
   | nil => intro hh; simp at hh
   | cons h1 h2 ih =>
    intro hh
    cases i with
    | zero =>
     have hh : some _ = some a := hh
     injection hh with hh
     subst hh
     exact ⟨_, rfl, h1⟩
    | succ i => simpa using ih i (by simpa using hh)
  obtain ⟨v, hv, hrv⟩ := key vs l.toList i r' hr k1
  have hvr : VRel G.S C r' v := by
   cases r' with
   | tup _ => exact hrv.elim
   | _ => exact hrv
  refine OpOK.same H ?_ hvr
  have hv' : l[i]? = some v := by simpa using hv
  simp only [execOp, Instr.extract, hl, hv', Sem.run_bind, Sem.run_pure, Result.andThen_ok]
 ·cases hop
theorem op_makeFunc {fn : Fn} {first caps : Array Operand} (H : HRel G.S C h) (hρ : ∀ x, VRel G.S C (ρ x) (ρv x)) (hop : aop G ρ h (.makeFunc fn first caps) = some (r, h')) :
  OpOK P G.S ⟨dst, .makeFunc fn first caps, oty, pos, after, guard⟩ ρv C r h' := by
 cases fn <;> simp only [aop, reduceCtorEq] at hop
 split at hop
 ·rename_i f hc
  injection hop with hop; injection hop with h1 h2; subst h1; subst h2
  have hfirst : first = #[] := Array.eq_empty_of_size_eq_zero hc.1
  subst hfirst
  refine OpOK.same H (v := .func (.func f) #[] (caps.map ρv)) ?_ ⟨caps.map ρv, rfl, ?_⟩
  ·simp [execOp, Instr.makeFunc]
  ·rw [Array.toList_map]
   exact caps_rel hρ _ hc.2
 ·cases hop
theorem op_min {xs : Array Operand} {ts : Array TypeId} (H : HRel G.S C h) (hρ : ∀ x, VRel G.S C (ρ x) (ρv x)) (hop : aop G ρ h (.call { callee := .builtin .min, args := xs, argTypes := ts }) = some (r, h')) :
  OpOK P G.S ⟨dst, .call { callee := .builtin .min, args := xs, argTypes := ts }, oty, pos, after, guard⟩ ρv C r h' := by
 simp only [aop] at hop
 split at hop
 ·rename_i x y hxs
  split at hop
  ·rename_i k a k' b hx hy
   injection hop with hop; injection hop with h1 h2; subst h1; subst h2
   have h1 := hρ x
   have h2 := hρ y
   rw [hx] at h1
   rw [hy] at h2
   have h1 := sc_inv h1
   have h2 := sc_inv h2
   obtain rfl : xs = #[x, y] := by rw [← Array.toArray_toList (xs := xs), hxs]
   refine OpOK.same H ?_ (sc_mk rfl)
   simp [execOp, resolve, invoke, builtin, Builtin.min_, Builtin.min2, h1, h2]
  ·cases hop
 ·cases hop
theorem op_max {xs : Array Operand} {ts : Array TypeId} (H : HRel G.S C h) (hρ : ∀ x, VRel G.S C (ρ x) (ρv x)) (hop : aop G ρ h (.call { callee := .builtin .max, args := xs, argTypes := ts }) = some (r, h')) :
  OpOK P G.S ⟨dst, .call { callee := .builtin .max, args := xs, argTypes := ts }, oty, pos, after, guard⟩ ρv C r h' := by
 simp only [aop] at hop
 split at hop
 ·rename_i x y hxs
  split at hop
  ·rename_i k a k' b hx hy
   injection hop with hop; injection hop with h1 h2; subst h1; subst h2
   have h1 := hρ x
   have h2 := hρ y
   rw [hx] at h1
   rw [hy] at h2
   have h1 := sc_inv h1
   have h2 := sc_inv h2
   obtain rfl : xs = #[x, y] := by rw [← Array.toArray_toList (xs := xs), hxs]
   refine OpOK.same H ?_ (sc_mk rfl)
   simp [execOp, resolve, invoke, builtin, Builtin.max_, Builtin.max2, h1, h2]
  ·cases hop
 ·cases hop
theorem own_inv {S : Sizes} {C : Ctx} {o k : Nat} {v : Value} (h : VRel S C (.own o k) v) : ∃ v0 kk mn, v.oneCell' = true ∧ C.m[o]? = some (.row v0 kk mn) ∧ k ≤ kk ∧ (k = kk → v = v0) := by
 obtain ⟨p, v0, kk, mn, h1, h2⟩ := (h : RelV S C (.own o k) [v])
 have : p = v := by simpa using h1.symm
 subst this
 exact ⟨v0, kk, mn, h2⟩
theorem row_slice {S : Sizes} {C : Ctx} {h : List AO} (H : HRel S C h) {o : Nat} {e : TypeId} {rows : List AV} {k : Nat} {app : Bool} (ho : h[o]? = some (.row e rows k app)) {v0 : Value} {kk : Nat} {mn : Bool} (hm : C.m[o]? = some (.row v0 kk mn)) : k = kk ∧ ∃ a c, v0 = .slice a rows.length c := by
 obtain ⟨h1, h2, h3, h4, _⟩ := H.rel o _ _ ho hm
 refine ⟨h1, ?_⟩
 cases mn with
 | false =>
  obtain ⟨a, c, h5, _⟩ := h3 rfl
  exact ⟨a, c, by simpa using h5⟩
 | true =>
  obtain ⟨_, _, cells, h5, _⟩ := h4 rfl
  rcases h5.2 with ⟨rfl, h6⟩ | ⟨g, off, cap, cur, fz, rfl, _⟩
  ·rw [h6]; exact ⟨none, 0, rfl⟩
  ·exact ⟨_, _, rfl⟩
theorem op_len (hG : G.ok P) {xs : Array Operand} {ts : Array TypeId} (H : HRel G.S C h) (hρ : ∀ x, VRel G.S C (ρ x) (ρv x)) (hop : aop G ρ h (.call { callee := .builtin .len, args := xs, argTypes := ts }) = some (r, h')) :
  OpOK P G.S ⟨dst, .call { callee := .builtin .len, args := xs, argTypes := ts }, oty, pos, after, guard⟩ ρv C r h' := by
 simp only [aop] at hop
 split at hop
 ·rename_i x t hxs hts
  obtain rfl : xs = #[x] := by rw [← Array.toArray_toList (xs := xs), hxs]
  obtain rfl : ts = #[t] := by rw [← Array.toArray_toList (xs := ts), hts]
  have hp := hρ x
  split at hop
  ·rename_i e e' rows full hk hx
   injection hop with hop; injection hop with h1 h2; subst h1; subst h2
   rw [hx] at hp
   obtain ⟨a, c, s1, _⟩ := sl_inv hp
   obtain ⟨d, hd, hf⟩ := kind_desc hG hk (by simp)
   simp only [TK.fits] at hf
   subst hf
   refine OpOK.same H ?_ (sc_mk rfl)
   simp [execOp, resolve, invoke, builtin, Builtin.len_, s1, run_underlying hd, goInt]
  ·rename_i e e2 o off n hk hx
   injection hop with hop; injection hop with h1 h2; subst h1; subst h2
   rw [hx] at hp
   obtain ⟨b, _, s1⟩ := (hp : RelV G.S C (.bsl e2 o off n) [ρv x])
   have s1 : ρv x = .slice (some ⟨b, off, none⟩) n n := by simpa using s1
   obtain ⟨d, hd, hf⟩ := kind_desc hG hk (by simp)
   simp only [TK.fits] at hf
   subst hf
   refine OpOK.same H ?_ (sc_mk rfl)
   simp [execOp, resolve, invoke, builtin, Builtin.len_, s1, run_underlying hd, goInt]
  ·rename_i e o k hk hx
   rw [hx] at hp
   split at hop
   ·rename_i e' rows k' app ho
    split at hop
    ·rename_i hkk
     subst hkk
     injection hop with hop; injection hop with h1 h2; subst h1; subst h2
     obtain ⟨v0, kk, mn, q1, q2, q3, q4⟩ := own_inv hp
     obtain ⟨q5, a, c, q6⟩ := row_slice H ho q2
     have s1 := (q4 q5).trans q6
     obtain ⟨d, hd, hf⟩ := kind_desc hG hk (by simp)
     simp only [TK.fits] at hf
     subst hf
     refine OpOK.same H ?_ (sc_mk rfl)
     simp [execOp, resolve, invoke, builtin, Builtin.len_, s1, run_underlying hd, goInt]
    ·cases hop
   ·cases hop
  ·rename_i s hk hx
   injection hop with hop; injection hop with h1 h2; subst h1; subst h2
   rw [hx] at hp
   have hv := sc_inv hp
   obtain ⟨d, hd, hf⟩ := kind_desc hG hk (by simp)
   simp only [TK.fits] at hf
   subst hf
   refine OpOK.same H ?_ (sc_mk rfl)
   simp [execOp, resolve, invoke, builtin, Builtin.len_, hv, run_underlying hd, goInt]
  ·cases hop
 ·cases hop
theorem aop_sound (hG : G.ok P) {o : Oper} (H : HRel G.S C h) (hρ : ∀ x, VRel G.S C (ρ x) (ρv x)) (hop : aop G ρ h o.op = some (r, h')) : OpOK P G.S o ρv C r h' := by
 obtain ⟨dst, op, oty, pos, after, guard⟩ := o
 cases op
 case move x =>
  simp only [aop] at hop
  injection hop with hop; injection hop with h1 h2; subst h1; subst h2
  exact OpOK.same H (by simp [execOp]) (hρ x)
 case assign x =>
  simp only [aop] at hop
  injection hop with hop; injection hop with h1 h2; subst h1; subst h2
  exact OpOK.same H (by simp [execOp]) (hρ x)
 case pick c a b =>
  simp only [aop] at hop
  split at hop
  ·rename_i b' hc
   injection hop with hop; injection hop with h1 h2; subst h1; subst h2
   have hcv := hρ c
   rw [hc] at hcv
   have hcv := sc_inv hcv
   refine OpOK.same (v := if b' then ρv a else ρv b) H (by simp [execOp, hcv, asBool]) ?_
   cases b'
   ·exact hρ b
   ·exact hρ a
  ·cases hop
 case alloc e =>
  simp only [aop] at hop
  split at hop
  ·rename_i i hi
   injection hop with hop; injection hop with h1 h2; subst h1; subst h2
   obtain ⟨inf, z, k1, k2, k3, k4, k4', k5⟩ := (hG e i hi).info
   obtain ⟨st, hh, hv⟩ := new_box H e (k5 G.S C)
   refine ⟨_, st, hh, .inl ⟨_, ?_, hv⟩⟩
   simp [execOp, Instr.alloc, zeroValue, typeInfo, k1, k4, newVar, newRow]
  ·cases hop
 case box e x =>
  simp only [aop] at hop
  split at hop
  ·rename_i fs hc
   injection hop with hop; injection hop with h1 h2; subst h1; subst h2
   obtain ⟨st, hh, hv⟩ := new_box H e (chunks_rel hc (hρ x))
   refine ⟨_, st, hh, .inl ⟨_, ?_, hv⟩⟩
   simp [execOp, Instr.box, newVar, newRow]
  ·cases hop
 case build t parts => exact op_build hG H hρ hop
 case buildSlice t len parts => exact op_buildSlice hG H hρ hop
 case load t x => exact op_load hG H hρ hop
 case store t x y => exact op_store hG H hρ hop
 case nilCheck x => exact op_nilCheck H hρ hop
 case binOp op xt x y yt => exact op_binOp hG H hρ hop
 case unOp op t x => exact op_unOp H hρ hop
 case convert s d x => exact op_convert hG H hρ hop
 case fieldAddr s x f => exact op_fieldAddr hG H hρ hop
 case indexAddr t x i => exact op_indexAddr hG H hρ hop
 case extract x i => exact op_extract H hρ hop
 case makeFunc fn first caps => exact op_makeFunc H hρ hop
 case call c =>
  obtain ⟨callee, args, argTypes⟩ := c
  cases callee with
  | value f => simp [aop] at hop
  | invoke r m => simp [aop] at hop
  | builtin b =>
   cases b <;> first
    | exact op_len hG H hρ hop
    | exact op_min H hρ hop
    | exact op_max H hρ hop
    | (simp [aop] at hop; done)
 all_goals (simp [aop] at hop; done)
end
end Go.Sh
namespace Go.Sh
variable {P : Program} {S : Sizes}
structure ARelF (S : Sizes) (C : Ctx) (t : Nat → AV) (h : List AO) (n : Nat) (a : Act) : Prop where
 defers : a.defers = []
 size : a.tmps.size = n
 tmps : ∀ i, VRel S C (t i) (a.tmps.getD i undef)
 heap : HRel S C h
theorem ARel.toF {C : Ctx} {t : Tmps} {h : List AO} {n : Nat} {a : Act} (A : ARel S C t h n a) : ARelF S C (lk t) h n a := ⟨A.defers, A.size, A.tmps, A.heap⟩
theorem ARelF.ofF {C : Ctx} {t : Tmps} {h : List AO} {n : Nat} {a : Act} (A : ARelF S C (lk t) h n a) : ARel S C t h n a := ⟨A.defers, A.size, A.tmps, A.heap⟩
def tset (t : Nat → AV) (d : Option Nat) (r : AV) : Nat → AV := fun x => if d = some x then r else t x
theorem lk_setT' (t : Tmps) (d : Option Nat) (r : AV) (x : Nat) : lk (setT t d r) x = tset (lk t) d r x := by
 cases d with
 | none => simp [setT, tset]
 | some d =>
  rw [lk_setT]
  unfold tset
  by_cases h : x = d
  ·subst h; simp
  ·rw [if_neg h, if_neg (by simpa using fun e => h e.symm)]
theorem ARelF.put {C C' : Ctx} {t : Nat → AV} {h h' : List AO} {n : Nat} {a : Act} (A : ARelF S C t h n a) (st : Step C C') (H : HRel S C' h') {d : Option Nat} {r : AV} {v : Value} (hd : ∀ x, d = some x → x < n) (hv : VRel S C' r v) : ARelF S C' (tset t d r) h' n (a.put d v) := by
 refine ⟨?_, ?_, fun i => ?_, H⟩
 ·cases d <;> exact A.defers
 ·cases d with
  | none => exact A.size
  | some d => simp [Act.put, A.size]
 ·cases d with
  | none => simpa [tset, Act.put] using (A.tmps i).step st
  | some d =>
   have hlt := hd d rfl
   unfold tset
   by_cases e : d = i
   ·subst e
    simp only [if_true, Act.put]
    rw [Array.getD_eq_getD_getElem?, Array.getElem?_setIfInBounds_self_of_lt (by rw [A.size]; exact hlt)]
    exact hv
   ·rw [if_neg (by simpa using e)]
    simp only [Act.put]
    rw [Array.getD_eq_getD_getElem?, Array.getElem?_setIfInBounds_ne e, ← Array.getD_eq_getD_getElem?]
    exact (A.tmps i).step st
inductive Kd where
 | pure | read | loud
 deriving DecidableEq
structure LSpec (P : Program) (S : Sizes) (n : Nat) (ops : Array Oper) (i : Nat) (kd : Kd) (t : Tmps) (h : List AO) (r : AV) (h' : List AO) : Prop where
 lt : i < ops.size
 dst : ∀ d, (ops[i]?).bind (·.dst) = some d → d < n
 keep : kd ≠ .loud → h' = h
 run : ∀ (t2 : Nat → AV) (h2 : List AO) (C : Ctx) (a : Act), (∀ o, ops[i]? = some o → ∀ x ∈ o.looksAt ops, t2 x = lk t x) → (kd ≠ .pure → h2 = h) → ARelF S C t2 h2 n a →
  ∀ (Q : Exit → Act → World → Prop) (K : Act → World → Prop), (∀ C' v, Step C C' → VRel S C' r v → HRel S C' (if kd = .loud then h' else h2) → K (a.put ((ops[i]?).bind (·.dst)) v) C'.w) → wpOp P ops Q i K a C.w
inductive DW (P : Program) (S : Sizes) (n : Nat) (ops : Array Oper) (fin : List Kd → Tmps → List AO → Prop) : Nat → List Kd → Tmps → List AO → Prop
 | fin {i : Nat} {ks : List Kd} {t : Tmps} {h : List AO} : ops.size = i → fin ks.reverse t h → DW P S n ops fin i ks t h
 | step {i : Nat} {ks : List Kd} {t : Tmps} {h : List AO} {kd : Kd} {r : AV} {h' : List AO} : LSpec P S n ops i kd t h r h' → DW P S n ops fin (i + 1) (kd :: ks) (setT t ((ops[i]?).bind (·.dst)) r) h' → DW P S n ops fin i ks t h
theorem DW.lex {n : Nat} {ops : Array Oper} {fin : List Kd → Tmps → List AO → Prop} {i : Nat} {ks : List Kd} {t : Tmps} {h : List AO} (D : DW P S n ops fin i ks t h) (Q : Exit → Act → World → Prop)  :
  ∀ (C : Ctx) (a : Act), ARel S C t h n a → (∀ ks t h C' a', Step C C' → fin ks t h → ARel S C' t h n a' → Q .normal a' C'.w) → wpOps P ops Q ((List.range ops.size).drop i) a C.w := by
 induction D with
 | fin hi hf =>
  intro C a A hQ
  rw [List.drop_eq_nil_of_le (by simp; omega)]
  exact hQ _ _ _ C a (Step.refl C) hf A
 | @step i ks t h kd r h' L D ih =>
  intro C a A hQ
  have hlt := L.lt
  rw [List.drop_eq_getElem_cons (by simpa using hlt), List.getElem_range, wpOps_cons]
  refine L.run (lk t) h C a (fun _ _ _ _ => rfl) (fun _ => rfl) A.toF Q _ fun C' v st hv hH => ?_
  have hH' : HRel S C' h' := by
   by_cases hk : kd = .loud
   ·rw [if_pos hk] at hH; exact hH
   ·rw [if_neg hk] at hH; rw [L.keep hk]; exact hH
  have A' := A.toF.put st hH' L.dst hv
  refine ih C' _ ⟨A'.defers, A'.size, fun i => ?_, A'.heap⟩ (fun ks t h C2 a2 st2 => hQ ks t h C2 a2 (st.trans st2))
  rw [lk_setT']
  exact A'.tmps i
def ancStep (acc : List Nat) (o : Oper) : Nat := o.after.toList.foldl (fun s e => if Region.binds .any e then s ||| 2 ^ e.on ||| acc.getD e.on 0 else s) 0
def ancs : List Oper → List Nat → List Nat
 | [], acc => acc
 | o :: r, acc => ancs r (acc ++ [ancStep acc o])
def optMem (d : Option Nat) (l : List Nat) : Bool :=
 match d with
 | none => false
 | some d => l.contains d
def conflict (ops : Array Oper) (ki kj : Kd) (oi oj : Oper) : Bool :=
 (ki == .loud && kj != .pure) || (kj == .loud && ki != .pure) || optMem oi.dst (oj.looksAt ops) || optMem oj.dst (oi.looksAt ops) || (oi.dst.isSome && oi.dst == oj.dst)
def confRow (ops : Array Oper) (kj : Kd) (oj : Oper) (m : Nat) : Nat → List Oper → List Kd → Bool
 | _, [], _ => true
 | _, _, [] => false
 | i, oi :: os, ki :: ks => (!conflict ops ki kj oi oj || m.testBit i) && confRow ops kj oj m (i + 1) os ks
def edgesOk (j : Nat) (o : Oper) : Bool := o.after.toList.all fun e => !Region.binds .any e || decide (e.on < j)
def confGo (ops : Array Oper) : Nat → List Oper → List Kd → List Nat → List Oper → List Kd → Bool
 | _, [], [], _, _, _ => true
 | j, o :: os, k :: ks, m :: ms, ao, ak => edgesOk j o && confRow ops k o m 0 (ao.take j) (ak.take j) && confGo ops (j + 1) os ks ms ao ak
 | _, _, _, _, _, _ => false
def confOk (ops : Array Oper) (ks : List Kd) : Bool := confGo ops 0 ops.toList ks (ancs ops.toList []) ops.toList ks
theorem ancs_spec : ∀ (os : List Oper) (acc : List Nat), ∃ ys, ancs os acc = acc ++ ys ∧ ys.length = os.length ∧ ∀ (i : Nat) (o : Oper), os[i]? = some o → ys[i]? = some (ancStep (acc ++ ys.take i) o)
 | [], acc => ⟨[], by simp [ancs], rfl, by simp⟩
 | o :: r, acc => by
  obtain ⟨ys, h1, h2, h3⟩ := ancs_spec r (acc ++ [ancStep acc o])
  refine ⟨ancStep acc o :: ys, by simp [ancs, h1], by simp [h2], fun i o' hi => ?_⟩
  cases i with
  | zero =>
   have : o = o' := by simpa using hi
   subst this
   simp
  | succ i =>
   have := h3 i o' (by simpa using hi)
   simpa using this
theorem ancStep_bit (acc : List Nat) (o : Oper) (i : Nat) (h : (ancStep acc o).testBit i = true) : ∃ e ∈ o.after, Region.binds .any e = true ∧ (i = e.on ∨ (acc.getD e.on 0).testBit i = true) := by
 unfold ancStep at h
 have key : ∀ (l : List Edge) (s : Nat), (l.foldl (fun s e => if Region.binds .any e then s ||| 2 ^ e.on ||| acc.getD e.on 0 else s) s).testBit i = true → s.testBit i = true ∨ ∃ e ∈ l, Region.binds .any e = true ∧ (i = e.on ∨ (acc.getD e.on 0).testBit i = true) := by
  intro l
  induction l with
  | nil => intro s h; exact .inl h
  | cons e l ih =>
   intro s h
   rw [List.foldl_cons] at h
   rcases ih _ h with h1 | ⟨e', h1, h2⟩
   ·by_cases hb : Region.binds .any e = true
    ·rw [if_pos hb, Nat.testBit_or, Nat.testBit_or, Bool.or_eq_true, Bool.or_eq_true] at h1
     rcases h1 with (h1 | h1) | h1
     ·exact .inl h1
     ·refine .inr ⟨e, by simp, hb, .inl ?_⟩
      rw [Nat.testBit_two_pow] at h1
      simpa using (of_decide_eq_true h1).symm
     ·exact .inr ⟨e, by simp, hb, .inr h1⟩
    ·rw [if_neg hb] at h1
     exact .inl h1
   ·exact .inr ⟨e', by simp [h1], h2⟩
 rcases key _ _ h with h1 | ⟨e, h1, h2⟩
 ·simp at h1
 ·exact ⟨e, by simpa using h1, h2⟩
theorem confRow_spec {ops : Array Oper} {kj : Kd} {oj : Oper} {m : Nat} : ∀ (os : List Oper) (ks : List Kd) (i0 : Nat), confRow ops kj oj m i0 os ks = true → ∀ (i : Nat) (oi : Oper) (ki : Kd), os[i]? = some oi → ks[i]? = some ki → conflict ops ki kj oi oj = true → m.testBit (i0 + i) = true
 | [], _, _, _, i, oi, ki, h1, _, _ => by simp at h1
 | _ :: _, [], _, _, i, oi, ki, _, h2, _ => by simp at h2
 | o :: os, k :: ks, i0, h, i, oi, ki, h1, h2, h3 => by
  simp only [confRow, Bool.and_eq_true, Bool.or_eq_true] at h
  cases i with
  | zero =>
   have e1 : o = oi := by simpa using h1
   have e2 : k = ki := by simpa using h2
   subst e1; subst e2
   rcases h.1 with h4 | h4
   ·rw [h3] at h4; cases h4
   ·exact h4
  | succ i =>
   have := confRow_spec os ks (i0 + 1) h.2 i oi ki (by simpa using h1) (by simpa using h2) h3
   rw [show i0 + (i + 1) = i0 + 1 + i by omega]
   exact this
theorem confGo_spec {ops : Array Oper} {ao : List Oper} {ak : List Kd} : ∀ (os : List Oper) (ks : List Kd) (ms : List Nat) (j : Nat), confGo ops j os ks ms ao ak = true → ∀ (i : Nat) (o : Oper), os[i]? = some o → ∃ k m, ks[i]? = some k ∧ ms[i]? = some m ∧ edgesOk (j + i) o = true ∧ confRow ops k o m 0 (ao.take (j + i)) (ak.take (j + i)) = true
 | [], _, _, _, _, i, o, h => by simp at h
 | _ :: _, [], _, _, hh, i, o, _ => by simp [confGo] at hh
 | _ :: _, _ :: _, [], _, hh, i, o, _ => by simp [confGo] at hh
 | o :: os, k :: ks, m :: ms, j, hh, i, o', h => by
  simp only [confGo, Bool.and_eq_true] at hh
  cases i with
  | zero =>
   have e1 : o = o' := by simpa using h
   subst e1
   exact ⟨k, m, rfl, rfl, hh.1.1, hh.1.2⟩
  | succ i =>
   obtain ⟨k', m', h1, h2, h3, h4⟩ := confGo_spec os ks ms (j + 1) hh.2 i o' (by simpa using h)
   refine ⟨k', m', by simpa using h1, by simpa using h2, ?_, ?_⟩
   ·rw [show j + (i + 1) = j + 1 + i by omega]; exact h3
   ·rw [show j + (i + 1) = j + 1 + i by omega]; exact h4
structure Free (ops : Array Oper) (Kf : Nat → Kd) (anc : Nat → Nat → Prop) : Prop where
 edge : ∀ (j : Nat) (o : Oper), ops[j]? = some o → ∀ e ∈ o.after, Region.binds .any e = true → e.on < j
 cl : ∀ (j : Nat) (o : Oper) (i : Nat), ops[j]? = some o → anc j i → ∃ e ∈ o.after, Region.binds .any e = true ∧ (i = e.on ∨ anc e.on i)
 conf : ∀ (i j : Nat) (oi oj : Oper), i < j → ops[i]? = some oi → ops[j]? = some oj → conflict ops (Kf i) (Kf j) oi oj = true → anc j i
theorem free_of_conf {ops : Array Oper} {ks : List Kd} (h : confOk ops ks = true) : Free ops (fun i => ks.getD i .pure) (fun j i => ((ancs ops.toList []).getD j 0).testBit i = true) := by
 obtain ⟨ys, h1, h2, h3⟩ := ancs_spec ops.toList []
 rw [List.nil_append] at h1
 unfold confOk at h
 refine ⟨fun j o ho e he hb => ?_, fun j o i ho ha => ?_, fun i j oi oj hij hi hj hc => ?_⟩
 ·obtain ⟨k, m, _, _, h4, _⟩ := confGo_spec _ _ _ _ h j o (by simpa using ho)
  rw [Nat.zero_add] at h4
  unfold edgesOk at h4
  have := List.all_eq_true.1 h4 e (by simpa using he)
  rw [hb] at this
  simpa using this
 ·have h4 := h3 j o (by simpa using ho)
  rw [List.nil_append] at h4
  rw [h1, List.getD_eq_getElem?_getD, h4] at ha
  obtain ⟨e, h5, h6, h7⟩ := ancStep_bit _ _ _ ha
  refine ⟨e, h5, h6, h7.imp id fun h8 => ?_⟩
  rw [h1]
  have hlt : e.on < j := by
   rcases Nat.lt_or_ge e.on j with hl | hl
   ·exact hl
   ·rw [List.getD_eq_getElem?_getD, List.getElem?_eq_none (by rw [List.length_take]; omega)] at h8
    simp at h8
  rw [List.getD_eq_getElem?_getD, List.getElem?_take, if_pos hlt, ← List.getD_eq_getElem?_getD] at h8
  exact h8
 ·obtain ⟨k, m, h4, h5, _, h6⟩ := confGo_spec _ _ _ _ h j oj (by simpa using hj)
  rw [Nat.zero_add] at h6
  have hki : ∃ ki, ks[i]? = some ki := by
   have hil : i < ks.length := by
    have := (List.getElem?_eq_some_iff.1 h4).1
    omega
   exact ⟨_, List.getElem?_eq_getElem hil⟩
  obtain ⟨ki, hki⟩ := hki
  have h7 := confRow_spec _ _ 0 h6 i oi ki (by rw [List.getElem?_take, if_pos hij]; simpa using hi) (by rw [List.getElem?_take, if_pos hij]; exact hki) (by
   simp only [List.getD_eq_getElem?_getD, hki, h4, Option.getD_some] at hc
   exact hc)
  rw [Nat.zero_add] at h7
  rw [List.getD_eq_getElem?_getD, h5]
  exact h7
structure Walk (P : Program) (S : Sizes) (n : Nat) (ops : Array Oper) (Kf : Nat → Kd) (T : Nat → Tmps) (Hh : Nat → List AO) (R : Nat → AV) : Prop where
 spec : ∀ j, j < ops.size → LSpec P S n ops j (Kf j) (T j) (Hh j) (R j) (Hh (j + 1))
 next : ∀ j, j < ops.size → T (j + 1) = setT (T j) ((ops[j]?).bind (·.dst)) (R j)
theorem DW.walk {n : Nat} {ops : Array Oper} {fin : List Kd → Tmps → List AO → Prop} {i : Nat} {ks : List Kd} {t : Tmps} {h : List AO} (D : DW P S n ops fin i ks t h) :
  i ≤ ops.size → ∃ (ls : List Kd) (T : Nat → Tmps) (Hh : Nat → List AO) (R : Nat → AV), ls.length = ops.size - i ∧ T i = t ∧ Hh i = h ∧ fin (ks.reverse ++ ls) (T ops.size) (Hh ops.size) ∧
   (∀ j, i ≤ j → j < ops.size → LSpec P S n ops j (ls.getD (j - i) .pure) (T j) (Hh j) (R j) (Hh (j + 1)) ∧ T (j + 1) = setT (T j) ((ops[j]?).bind (·.dst)) (R j)) := by
 induction D with
 | @fin i ks t h hi hf =>
  intro _
  refine ⟨[], fun _ => t, fun _ => h, fun _ => .u, by simp; omega, rfl, rfl, by simpa using hf, fun j h1 h2 => ?_⟩
  omega
 | @step i ks t h kd r h' L D ih =>
  intro hi
  have hlt := L.lt
  obtain ⟨ls, T, Hh, R, h1, h2, h3, h4, h5⟩ := ih (by omega)
  refine ⟨kd :: ls, fun j => if j = i then t else T j, fun j => if j = i then h else Hh j, fun j => if j = i then r else R j, by simp; omega, by simp, by simp, ?_, fun j hj1 hj2 => ?_⟩
  ·dsimp only
   rw [if_neg (show ¬ ops.size = i by omega), if_neg (show ¬ ops.size = i by omega)]
   simpa using h4
  ·by_cases e : j = i
   ·subst e
    simp only [if_true, Nat.sub_self]
    rw [if_neg (by omega), if_neg (by omega), h2, h3]
    exact ⟨by simpa using L, rfl⟩
   ·obtain ⟨k1, k2⟩ := h5 j (by omega) hj2
    simp only [if_neg e, if_neg (show ¬ j + 1 = i by omega)]
    refine ⟨?_, k2⟩
    rw [show j - i = (j - (i + 1)) + 1 by omega]
    exact k1
def tD (ops : Array Oper) (R : Nat → AV) (L : Nat → Bool) (t : Nat → AV) : Nat → Nat → AV
 | 0 => t
 | m + 1 => if L m then tset (tD ops R L t m) ((ops[m]?).bind (·.dst)) (R m) else tD ops R L t m
def hD (Kf : Nat → Kd) (Hh : Nat → List AO) (L : Nat → Bool) (h : List AO) : Nat → List AO
 | 0 => h
 | m + 1 => if L m && Kf m == .loud then Hh (m + 1) else hD Kf Hh L h m
theorem conflict_dst {ops : Array Oper} {ki kj : Kd} {oi oj : Oper} {x : Nat} (h1 : oi.dst = some x) (h2 : x ∈ oj.looksAt ops) : conflict ops ki kj oi oj = true := by
 simp [conflict, optMem, h1, h2]
theorem conflict_dst' {ops : Array Oper} {ki kj : Kd} {oi oj : Oper} {x : Nat} (h1 : oj.dst = some x) (h2 : x ∈ oi.looksAt ops) : conflict ops ki kj oi oj = true := by
 simp [conflict, optMem, h1, h2]
theorem conflict_same {ops : Array Oper} {ki kj : Kd} {oi oj : Oper} {x : Nat} (h1 : oi.dst = some x) (h2 : oj.dst = some x) : conflict ops ki kj oi oj = true := by
 simp [conflict, h1, h2]
theorem conflict_loud {ops : Array Oper} {kj : Kd} {oi oj : Oper} (h : kj ≠ .pure) : conflict ops .loud kj oi oj = true := by
 simp [conflict, h]
theorem conflict_loud' {ops : Array Oper} {ki : Kd} {oi oj : Oper} (h : ki ≠ .pure) : conflict ops ki .loud oi oj = true := by
 simp [conflict, h]
theorem bind_dst {ops : Array Oper} {m x : Nat} (h : (ops[m]?).bind (·.dst) = some x) : ∃ o, ops[m]? = some o ∧ o.dst = some x := Option.bind_eq_some_iff.1 h
theorem tD_eq {ops : Array Oper} {n : Nat} {Kf : Nat → Kd} {T : Nat → Tmps} {Hh : Nat → List AO} {R : Nat → AV} (W : Walk P S n ops Kf T Hh R) {L : Nat → Bool} {x : Nat} : ∀ m, m ≤ ops.size → (∀ i, i < m → (ops[i]?).bind (·.dst) = some x → L i = true) → tD ops R L (lk (T 0)) m x = lk (T m) x
 | 0, _, _ => rfl
 | m + 1, hm, h => by
  have ih := tD_eq W (L := L) (x := x) m (by omega) (fun i hi => h i (by omega))
  rw [W.next m (by omega), lk_setT']
  simp only [tD]
  by_cases hd : (ops[m]?).bind (·.dst) = some x
  ·rw [h m (by omega) hd, if_pos rfl]
   simp only [tset, hd, if_true]
  ·have e : tset (lk (T m)) ((ops[m]?).bind (·.dst)) (R m) x = lk (T m) x := by simp [tset, hd]
   rw [e]
   split
   ·simp only [tset, hd, if_false]; exact ih
   ·exact ih
theorem tD_skip {ops : Array Oper} {R : Nat → AV} {L : Nat → Bool} {t : Nat → AV} {x j : Nat} : ∀ d, (∀ i, j ≤ i → i < j + d → L i = true → (ops[i]?).bind (·.dst) ≠ some x) → tD ops R L t (j + d) x = tD ops R L t j x
 | 0, _ => rfl
 | d + 1, h => by
  have ih := tD_skip (ops := ops) (R := R) (L := L) (t := t) (x := x) (j := j) d (fun i h1 h2 => h i h1 (by omega))
  rw [← Nat.add_assoc]
  simp only [tD]
  split
  ·rename_i hl
   simp only [tset, if_neg (h (j + d) (by omega) (by omega) hl)]
   exact ih
  ·exact ih
theorem hD_eq {ops : Array Oper} {n : Nat} {Kf : Nat → Kd} {T : Nat → Tmps} {Hh : Nat → List AO} {R : Nat → AV} (W : Walk P S n ops Kf T Hh R) {L : Nat → Bool} : ∀ m, m ≤ ops.size → (∀ i, i < m → Kf i = .loud → L i = true) → hD Kf Hh L (Hh 0) m = Hh m
 | 0, _, _ => rfl
 | m + 1, hm, h => by
  have ih := hD_eq W (L := L) m (by omega) (fun i hi => h i (by omega))
  simp only [hD]
  by_cases hk : Kf m = .loud
  ·rw [h m (by omega) hk, hk]; simp
  ·have : (L m && Kf m == .loud) = false := by simp [hk]
   rw [this, (W.spec m (by omega)).keep hk]
   simpa using ih
theorem hD_skip {Kf : Nat → Kd} {Hh : Nat → List AO} {L : Nat → Bool} {h : List AO} {j : Nat} : ∀ d, (∀ i, j ≤ i → i < j + d → L i = true → Kf i ≠ .loud) → hD Kf Hh L h (j + d) = hD Kf Hh L h j
 | 0, _ => rfl
 | d + 1, hh => by
  have ih := hD_skip (Kf := Kf) (Hh := Hh) (L := L) (h := h) (j := j) d (fun i h1 h2 => hh i h1 (by omega))
  rw [← Nat.add_assoc]
  simp only [hD]
  have : (L (j + d) && Kf (j + d) == .loud) = false := by
   cases hl : L (j + d) with
   | false => rfl
   | true => simp [hh (j + d) (by omega) (by omega) hl]
  rw [this]
  simpa using ih
theorem tD_congr {ops : Array Oper} {R : Nat → AV} {L L' : Nat → Bool} {t : Nat → AV} : ∀ m, (∀ i, i < m → L i = L' i) → tD ops R L t m = tD ops R L' t m
 | 0, _ => rfl
 | m + 1, h => by simp only [tD]; rw [h m (by omega), tD_congr m (fun i hi => h i (by omega))]
theorem hD_congr {Kf : Nat → Kd} {Hh : Nat → List AO} {L L' : Nat → Bool} {h : List AO} : ∀ m, (∀ i, i < m → L i = L' i) → hD Kf Hh L h m = hD Kf Hh L' h m
 | 0, _ => rfl
 | m + 1, hh => by simp only [hD]; rw [hh m (by omega), hD_congr m (fun i hi => hh i (by omega))]
def unl (L : Nat → Bool) : Nat → Nat
 | 0 => 0
 | m + 1 => (if L m then 0 else 1) + unl L m
theorem unl_zero {L : Nat → Bool} : ∀ m, unl L m = 0 → ∀ i, i < m → L i = true
 | 0, _, i, hi => by omega
 | m + 1, h, i, hi => by
  simp only [unl] at h
  by_cases e : i = m
  ·subst e
   cases hl : L i with
   | true => rfl
   | false => rw [hl] at h; simp at h
  ·exact unl_zero m (by omega) i (by omega)
theorem unl_congr {L L' : Nat → Bool} : ∀ m, (∀ i, i < m → L i = L' i) → unl L m = unl L' m
 | 0, _ => rfl
 | m + 1, h => by simp only [unl]; rw [h m (by omega), unl_congr m (fun i hi => h i (by omega))]
theorem unl_set {L L' : Nat → Bool} {j : Nat} (h0 : L j = false) (h1 : L' j = true) (he : ∀ i, i ≠ j → L' i = L i) : ∀ m, j < m → unl L m = unl L' m + 1
 | 0, hj => by omega
 | m + 1, hj => by
  simp only [unl]
  by_cases e : j = m
  ·subst e
   rw [h0, h1, unl_congr (L := L') (L' := L) j (fun i hi => he i (by omega))]
   simp
   omega
  ·rw [he m (by omega), unl_set h0 h1 he m (by omega)]
   omega
theorem least {L : Nat → Bool} {N : Nat} (h : unl L N ≠ 0) : ∃ j, j < N ∧ L j = false ∧ ∀ i, i < j → L i = true := by
 have ex : ∃ j, j < N ∧ L j = false := by
  rcases Classical.em (∃ j, j < N ∧ L j = false) with h1 | h1
  ·exact h1
  ·exfalso
   apply h
   have hall : ∀ i, i < N → L i = true := fun i hi => by
    cases hl : L i with
    | true => rfl
    | false => exact absurd ⟨i, hi, hl⟩ h1
   have : ∀ m, m ≤ N → unl L m = 0 := by
    intro m
    induction m with
    | zero => intro _; rfl
    | succ m ih => intro hm; simp only [unl, hall m (by omega), if_true, ih (by omega)]
   exact this N (Nat.le_refl _)
 obtain ⟨j, hj, hl⟩ := ex
 induction j using Nat.strongRecOn with
 | _ j ih =>
  rcases Classical.em (∃ i, i < j ∧ L i = false) with ⟨i, h1, h2⟩ | h1
  ·exact ih i h1 (by omega) h2
  ·refine ⟨j, hj, hl, fun i hi => ?_⟩
   cases hli : L i with
   | true => rfl
   | false => exact absurd ⟨i, hi, hli⟩ h1
theorem getD_set_self {l : Array Bool} {i : Nat} (h : i < l.size) : (l.setIfInBounds i true).getD i false = true := by
 rw [Array.getD_eq_getD_getElem?, Array.getElem?_setIfInBounds_self_of_lt h]
 rfl
theorem getD_set_other {l : Array Bool} {i j : Nat} (h : j ≠ i) : (l.setIfInBounds i true).getD j false = l.getD j false := by
 rw [Array.getD_eq_getD_getElem?, Array.getElem?_setIfInBounds_ne (Ne.symm h), ← Array.getD_eq_getD_getElem?]
theorem getD_tf {l : Array Bool} {i : Nat} (h : i < l.size) : l.getD i true = l.getD i false := by
 rw [Array.getD_eq_getD_getElem?, Array.getD_eq_getD_getElem?, Array.getElem?_eq_getElem h]
 rfl
theorem any_order {n : Nat} {ops : Array Oper} {Kf : Nat → Kd} {T : Nat → Tmps} {Hh : Nat → List AO} {R : Nat → AV} {anc : Nat → Nat → Prop} (W : Walk P S n ops Kf T Hh R) (F : Free ops Kf anc) {Q : Exit → Act → World → Prop} {C0 : Ctx}
  (hQ : ∀ C' a', Step C0 C' → ARel S C' (T ops.size) (Hh ops.size) n a' → Q .normal a' C'.w) :
  ∀ (fuel : Nat) (listed : Array Bool) (C : Ctx) (a : Act), Step C0 C → listed.size = ops.size → (∀ j i, listed.getD j false = true → anc j i → listed.getD i false = true) → unl (fun j => listed.getD j false) ops.size ≤ fuel →
   ARelF S C (tD ops R (fun j => listed.getD j false) (lk (T 0)) ops.size) (hD Kf Hh (fun j => listed.getD j false) (Hh 0) ops.size) n a → wpAny P .any ops Q fuel listed a C.w := by
 intro fuel
 induction fuel with
 | zero =>
  intro listed C a st hsz hcl hun A
  have hall := unl_zero ops.size (Nat.le_zero.1 hun)
  constructor
  ·apply List.eq_nil_iff_forall_not_mem.2
   intro i hi
   obtain ⟨h1, o, h2, _⟩ := mem_ready.1 hi
   have hlt : i < ops.size := (Array.getElem?_eq_some_iff.1 h2).1
   have := hall i hlt
   rw [getD_tf (by omega)] at h1
   rw [this] at h1
   cases h1
  ·refine hQ C a st ⟨A.defers, A.size, fun i => ?_, ?_⟩
   ·have := A.tmps i
    rw [tD_eq W ops.size (Nat.le_refl _) (fun i hi _ => hall i hi)] at this
    exact this
   ·have := A.heap
    rw [hD_eq W ops.size (Nat.le_refl _) (fun i hi _ => hall i hi)] at this
    exact this
 | succ fuel ih =>
  intro listed C a st hsz hcl hun A
  refine ⟨fun hr => ?_, fun i hi => ?_⟩
  ·have hz : unl (fun j => listed.getD j false) ops.size = 0 := by
    rcases Classical.em (unl (fun j => listed.getD j false) ops.size = 0) with h | h
    ·exact h
    ·exfalso
     obtain ⟨j, hj, hlj, hall⟩ := least h
     have hjr : j ∈ Region.ready .any ops listed := by
      refine mem_ready.2 ⟨?_, ops[j], Array.getElem?_eq_getElem hj, fun e he hb => ?_⟩
      ·rw [getD_tf (by omega)]; exact hlj
      ·exact hall _ (F.edge j _ (Array.getElem?_eq_getElem hj) e he hb)
     rw [hr] at hjr
     cases hjr
   have hall := unl_zero ops.size hz
   refine hQ C a st ⟨A.defers, A.size, fun i => ?_, ?_⟩
   ·have := A.tmps i
    rw [tD_eq W ops.size (Nat.le_refl _) (fun i hi _ => hall i hi)] at this
    exact this
   ·have := A.heap
    rw [hD_eq W ops.size (Nat.le_refl _) (fun i hi _ => hall i hi)] at this
    exact this
  ·obtain ⟨h1, o, h2, h3⟩ := mem_ready.1 hi
   have hlt : i < ops.size := (Array.getElem?_eq_some_iff.1 h2).1
   rw [getD_tf (by omega)] at h1
   have L := W.spec i hlt
   have before : ∀ k ok, k < i → ops[k]? = some ok → conflict ops (Kf k) (Kf i) ok o = true → listed.getD k false = true := by
    intro k ok hk hok hc
    have ha := F.conf k i ok o hk hok h2 hc
    obtain ⟨e, he, hb, h4⟩ := F.cl i o k h2 ha
    have hle := h3 e he hb
    rcases h4 with rfl | h4
    ·exact hle
    ·exact hcl _ _ hle h4
   have behind : ∀ k ok, i < k → ops[k]? = some ok → conflict ops (Kf i) (Kf k) o ok = true → listed.getD k false = false := by
    intro k ok hk hok hc
    have ha := F.conf i k o ok hk h2 hok hc
    cases hl : listed.getD k false with
    | false => rfl
    | true => rw [hcl k i hl ha] at h1; cases h1
   have htmp : ∀ x, (∀ k ok, k < i → ops[k]? = some ok → ok.dst = some x → conflict ops (Kf k) (Kf i) ok o = true) → (∀ k ok, i < k → ops[k]? = some ok → ok.dst = some x → conflict ops (Kf i) (Kf k) o ok = true) → tD ops R (fun j => listed.getD j false) (lk (T 0)) ops.size x = lk (T i) x := by
    intro x c1 c2
    have e1 := tD_skip (ops := ops) (R := R) (L := fun j => listed.getD j false) (t := lk (T 0)) (x := x) (j := i) (ops.size - i) (fun k hk1 hk2 hl => by
     intro hd
     obtain ⟨ok, hok, hdk⟩ := bind_dst hd
     by_cases e : k = i
     ·subst e; rw [h1] at hl; cases hl
     ·have := behind k ok (by omega) hok (c2 k ok (by omega) hok hdk)
      rw [this] at hl
      cases hl)
    rw [show i + (ops.size - i) = ops.size by omega] at e1
    rw [e1]
    exact tD_eq W i (by omega) (fun k hk hd => by
     obtain ⟨ok, hok, hdk⟩ := bind_dst hd
     exact before k ok hk hok (c1 k ok hk hok hdk))
   refine L.run _ _ C a ?_ ?_ A Q _ ?_
   ·intro o' ho' x hx
    rw [h2] at ho'
    injection ho' with ho'
    subst ho'
    exact htmp x (fun k ok _ _ hd => conflict_dst hd hx) (fun k ok _ _ hd => conflict_dst' hd hx)
   ·intro hne
    have e1 := hD_skip (Kf := Kf) (Hh := Hh) (L := fun j => listed.getD j false) (h := Hh 0) (j := i) (ops.size - i) (fun k hk1 hk2 hl hloud => by
     by_cases e : k = i
     ·subst e; rw [h1] at hl; cases hl
     ·have hkl : k < ops.size := by omega
      have := behind k ops[k] (by omega) (Array.getElem?_eq_getElem hkl) (by rw [hloud]; exact conflict_loud' hne)
      rw [this] at hl
      cases hl)
    rw [show i + (ops.size - i) = ops.size by omega] at e1
    rw [e1]
    exact hD_eq W i (by omega) (fun k hk hloud => before k ops[k] hk (Array.getElem?_eq_getElem (by omega)) (by rw [hloud]; exact conflict_loud hne))
   ·intro C' v st' hv hH
    have hset1 : (listed.setIfInBounds i true).getD i false = true := getD_set_self (by omega)
    have hset2 : ∀ k, k ≠ i → (listed.setIfInBounds i true).getD k false = listed.getD k false := fun k hk => getD_set_other hk
    have hdst : (ops[i]?).bind (·.dst) = o.dst := by rw [h2]; rfl
    have hheap : hD Kf Hh (fun j => (listed.setIfInBounds i true).getD j false) (Hh 0) ops.size = if Kf i = .loud then Hh (i + 1) else hD Kf Hh (fun j => listed.getD j false) (Hh 0) ops.size := by
     have pre : hD Kf Hh (fun j => (listed.setIfInBounds i true).getD j false) (Hh 0) i = hD Kf Hh (fun j => listed.getD j false) (Hh 0) i := hD_congr i (fun k hk => hset2 k (by omega))
     by_cases hk : Kf i = .loud
     ·rw [if_pos hk]
      have e1 := hD_skip (Kf := Kf) (Hh := Hh) (L := fun j => (listed.setIfInBounds i true).getD j false) (h := Hh 0) (j := i + 1) (ops.size - (i + 1)) (fun k hk1 hk2 hl hloud => by
       rw [hset2 k (by omega)] at hl
       have hkl : k < ops.size := by omega
       have := behind k ops[k] (by omega) (Array.getElem?_eq_getElem hkl) (by rw [hloud, hk]; exact conflict_loud (by simp))
       rw [this] at hl
       cases hl)
      rw [show i + 1 + (ops.size - (i + 1)) = ops.size by omega] at e1
      rw [e1]
      simp only [hD, hset1, hk]
      simp
     ·rw [if_neg hk]
      have main : ∀ d, hD Kf Hh (fun j => (listed.setIfInBounds i true).getD j false) (Hh 0) (i + 1 + d) = hD Kf Hh (fun j => listed.getD j false) (Hh 0) (i + 1 + d) := by
       intro d
       induction d with
       | zero => simp only [Nat.add_zero, hD, hset1, h1, hk, pre]; simp [hk]
       | succ d ihd =>
        have e := hset2 (i + 1 + d) (by omega)
        rw [← Nat.add_assoc]
        simp only [hD, e, ihd]
      have := main (ops.size - (i + 1))
      rw [show i + 1 + (ops.size - (i + 1)) = ops.size by omega] at this
      exact this
    have htm : ∀ x, tD ops R (fun j => (listed.setIfInBounds i true).getD j false) (lk (T 0)) ops.size x = tset (tD ops R (fun j => listed.getD j false) (lk (T 0)) ops.size) o.dst (R i) x := by
     intro x
     have pre : tD ops R (fun j => (listed.setIfInBounds i true).getD j false) (lk (T 0)) i = tD ops R (fun j => listed.getD j false) (lk (T 0)) i := tD_congr i (fun k hk => hset2 k (by omega))
     by_cases hx : o.dst = some x
     ·have e1 := tD_skip (ops := ops) (R := R) (L := fun j => (listed.setIfInBounds i true).getD j false) (t := lk (T 0)) (x := x) (j := i + 1) (ops.size - (i + 1)) (fun k hk1 hk2 hl hd => by
       rw [hset2 k (by omega)] at hl
       obtain ⟨ok, hok, hdk⟩ := bind_dst hd
       have := behind k ok (by omega) hok (conflict_same hx hdk)
       rw [this] at hl
       cases hl)
      rw [show i + 1 + (ops.size - (i + 1)) = ops.size by omega] at e1
      rw [e1]
      simp only [tD, hset1, if_true, tset, hdst, hx]
     ·have main : ∀ d, tD ops R (fun j => (listed.setIfInBounds i true).getD j false) (lk (T 0)) (i + 1 + d) x = tD ops R (fun j => listed.getD j false) (lk (T 0)) (i + 1 + d) x := by
       intro d
       induction d with
       | zero =>
        simp only [Nat.add_zero, tD, hset1, if_true, h1, pre, tset, hdst, if_neg hx]
        simp
       | succ d ihd =>
        have e := hset2 (i + 1 + d) (by omega)
        rw [← Nat.add_assoc]
        simp only [tD, e]
        split
        ·simp only [tset, ihd]
        ·exact ihd
      have := main (ops.size - (i + 1))
      rw [show i + 1 + (ops.size - (i + 1)) = ops.size by omega] at this
      rw [this]
      simp only [tset, if_neg hx]
    rw [hdst]
    have A' := A.put st' hH (d := o.dst) (r := R i) (fun x hx => L.dst x (by rw [hdst]; exact hx)) hv
    refine ih (listed.setIfInBounds i true) C' _ (st.trans st') (by simpa using hsz) ?_ ?_ ⟨A'.defers, A'.size, fun x => ?_, ?_⟩
    ·intro j k hj hjk
     by_cases e : j = i
     ·subst e
      obtain ⟨e', he, hb, h4⟩ := F.cl j o k h2 hjk
      have hle := h3 e' he hb
      have hk : listed.getD k false = true := by
       rcases h4 with rfl | h4
       ·exact hle
       ·exact hcl _ _ hle h4
      by_cases e2 : k = j
      ·subst e2; exact hset1
      ·rw [hset2 k e2]; exact hk
     ·rw [hset2 j e] at hj
      have hk := hcl j k hj hjk
      by_cases e2 : k = i
      ·subst e2; exact hset1
      ·rw [hset2 k e2]; exact hk
    ·have := unl_set (L := fun j => listed.getD j false) (L' := fun j => (listed.setIfInBounds i true).getD j false) (j := i) h1 hset1 (fun k hk => hset2 k hk) ops.size hlt
     omega
    ·rw [htm x]; exact A'.tmps x
    ·rw [hheap]; exact A'.heap
end Go.Sh
namespace Go.Sh
variable {P : Program}
def baseFr (f : FuncId) : Frame := { (default : Frame) with fn := f, kind := .normal }
def Reach (P : Program) (f : FuncId) (k : List Item) (a : Act) (w : World) (R : Ending → World → Prop) : Prop :=
 ∀ cs, ∃ e w' fr, R e w' ∧ Comes P (lone ((baseFr f).at a k) cs w) (lone fr cs w') e ∧ fr.fn = f ∧ fr.leaving P w' e
theorem Comes.head {P : Program} {m m₁ m' : Machine} {e : Ending} (h : Steps P m m₁) (h' : Comes P m₁ m' e) : Comes P m m' e := Comes.of_steps h h'
theorem Reach.steps {f : FuncId} {k k' : List Item} {a a' : Act} {w w' : World} {R : Ending → World → Prop} (h : Reach P f k' a' w' R) (hs : ∀ cs, Steps P (lone ((baseFr f).at a k) cs w) (lone ((baseFr f).at a' k') cs w')) : Reach P f k a w R := by
 intro cs
 obtain ⟨e, w'', fr, h1, h2, h3⟩ := h cs
 exact ⟨e, w'', fr, h1, Comes.of_steps (hs cs) h2, h3⟩
theorem Reach.one {f : FuncId} {k k' : List Item} {a a' : Act} {w w' : World} {R : Ending → World → Prop} (h : Reach P f k' a' w' R) (hs : ∀ cs, step P (lone ((baseFr f).at a k) cs w) = .next (lone ((baseFr f).at a' k') cs w')) : Reach P f k a w R :=
 h.steps fun cs => .one (hs cs)
theorem Reach.of_wp {f : FuncId} {c : Code} {k : List Item} {a : Act} {w : World} {R : Ending → World → Prop} (h : c.wp P (fun e a' w' => e = .normal ∧ Reach P f k a' w' R) a w) : Reach P f (.code c :: k) a w R := by
 intro cs
 obtain ⟨e, a', w', ⟨rfl, hr⟩, harr⟩ := h (baseFr f) k cs
 obtain ⟨e, w'', fr, h1, h2, h3⟩ := hr cs
 exact ⟨e, w'', fr, h1, Comes.of_steps harr h2, h3⟩
theorem Reach.ret {f : FuncId} {fn : Func} (hf : P.funcs[f]? = some fn) {k : List Item} {a : Act} {w : World} {R : Ending → World → Prop} (hd : a.defers = []) {v : Value} (hv : (results fn a.tmps).run P w = .ok v w) (h : R (.returned v) w) : Reach P f (.code .ret :: k) a w R :=
 fun cs => ⟨.returned v, w, _, h, Steps.one step_ret, rfl, rfl, hd, rfl, fn, hf, hv⟩
theorem Reach.end {f : FuncId} {fn : Func} (hf : P.funcs[f]? = some fn) {a : Act} {w : World} {R : Ending → World → Prop} (hd : a.defers = []) {v : Value} (hv : (results fn a.tmps).run P w = .ok v w) (h : R (.returned v) w) : Reach P f [] a w R :=
 fun cs => ⟨.returned v, w, _, h, Steps.one step_end, rfl, rfl, hd, rfl, fn, hf, hv⟩
theorem calls_of_reach {f : FuncId} {fn : Func} {c : Code} {args : Array Value} {w : World} {R : Ending → World → Prop} (hf : P.funcs[f]? = some fn) (hb : fn.body = some c)
  (h : Reach P f [.code c] { tmps := args ++ Array.replicate (fn.ntmps - args.size) undef, defers := [] } w R) : Calls P f args w R := by
 intro cs
 obtain ⟨e, w', fr, h1, h2, h3⟩ := h cs
 have henter : Frame.enter P f args .normal = (baseFr f).at { tmps := args ++ Array.replicate (fn.ntmps - args.size) undef, defers := [] } [.code c] := by
  simp [Frame.enter, Frame.at, hf, hb, baseFr]
 exact ⟨e, w', fr, h1, by rw [henter]; exact h2, h3⟩
def codeAt : Code → List Nat → Code
 | c, [] => c
 | .seq a b, i :: p => if i = 0 then codeAt a p else codeAt b p
 | .cond _ a b, i :: p => if i = 0 then codeAt a p else codeAt b p
 | .block _ a, _ :: p => codeAt a p
 | .loop a, _ :: p => codeAt a p
 | _, _ :: _ => .skip
theorem codeAt_append : ∀ (c : Code) (p q : List Nat), codeAt c (p ++ q) = codeAt (codeAt c p) q
 | c, [], q => by cases c <;> rfl
 | .seq a b, i :: p, q => by
  simp only [List.cons_append, codeAt]
  split
  ·exact codeAt_append a p q
  ·exact codeAt_append b p q
 | .cond _ a b, i :: p, q => by
  simp only [List.cons_append, codeAt]
  split
  ·exact codeAt_append a p q
  ·exact codeAt_append b p q
 | .block _ a, i :: p, q => by simp only [List.cons_append, codeAt]; exact codeAt_append a p q
 | .loop a, i :: p, q => by simp only [List.cons_append, codeAt]; exact codeAt_append a p q
 | .skip, i :: p, q => by cases q <;> rfl
 | .region .., i :: p, q => by cases q <;> rfl
 | .rangeFunc .., i :: p, q => by cases q <;> rfl
 | .exit .., i :: p, q => by cases q <;> rfl
 | .scope .., i :: p, q => by cases q <;> rfl
 | .label .., i :: p, q => by cases q <;> rfl
 | .goto .., i :: p, q => by cases q <;> rfl
 | .ret, i :: p, q => by cases q <;> rfl
 | .refuse .., i :: p, q => by cases q <;> rfl
inductive PI where
 | code (p : List Nat)
 | blk (id : Nat)
 | loop (p : List Nat)
 deriving Inhabited
def PI.dec (B : Code) : PI → Item
 | .code p => .code (codeAt B p)
 | .blk id => .inBlock id
 | .loop p => .inLoop (codeAt B (p ++ [0]))
def exitP (id : Nat) : List PI → Option (List PI)
 | .blk id' :: k => if id' == id then some k else exitP id k
 | _ :: k => exitP id k
 | [] => none
theorem exitP_dec (B : Code) (id : Nat) : ∀ (k k' : List PI), exitP id k = some k' → exitTo id (k.map (PI.dec B)) = some (k'.map (PI.dec B))
 | [], _, h => by cases h
 | .blk id' :: k, k', h => by
  simp only [exitP] at h
  simp only [List.map_cons, PI.dec, exitTo]
  split
  ·rename_i e
   rw [if_pos e] at h
   injection h with h
   rw [h]
  ·rename_i e
   rw [if_neg e] at h
   exact exitP_dec B id k k' h
 | .code p :: k, k', h => by
  simp only [List.map_cons, PI.dec, exitTo]
  exact exitP_dec B id k k' h
 | .loop p :: k, k', h => by
  simp only [List.map_cons, PI.dec, exitTo]
  exact exitP_dec B id k k' h
structure Fn where
 f : FuncId
 B : Code
 n : Nat
def AR (P : Program) (G : Tab) (F : Fn) (c0 : Ctx) (R : Ending → World → Prop) (k : List PI) (t : Tmps) (h : List AO) : Prop :=
 ∀ (C : Ctx) (a : Act), StepW c0 C → ARel G.S C t h F.n a → Reach P F.f (k.map (PI.dec F.B)) a C.w R
variable {G : Tab} {F : Fn} {c0 : Ctx} {R : Ending → World → Prop}
def Fin (P : Program) (G : Tab) (F : Fn) (c0 : Ctx) (R : Ending → World → Prop) (ops : Array Oper) (draw : Bool) (k : List PI) : List Kd → Tmps → List AO → Prop := fun ks t h => (draw = true → confOk ops ks = true) ∧ AR P G F c0 R k t h
theorem drew_kept (C : Ctx) : Kept C ⟨{ C.w with drawn := C.w.drawn + 1 }, C.m, C.X⟩ := ⟨rfl, rfl, rfl, Nat.le_refl _, fun _ _ => rfl, rfl, rfl⟩
theorem AR.region (hm : P.follows .mixedOrders = true) {k : List PI} {p : List Nat} {id : Nat} {ops : Array Oper} {draw : Bool} (hc : codeAt F.B p = .region id ops draw) {t : Tmps} {h : List AO} (D : DW P G.S F.n ops (Fin P G F c0 R ops draw k) 0 [] t h) : AR P G F c0 R (.code p :: k) t h := by
 intro C a st A
 simp only [List.map_cons, PI.dec, hc]
 refine Reach.of_wp ?_
 cases draw with
 | false =>
  refine wp_region ?_
  have := D.lex (fun e a' w' => e = .normal ∧ Reach P F.f (k.map (PI.dec F.B)) a' w' R) C a A (fun ks t h C' a' st' hf A' => ⟨rfl, hf.2 C' a' (st.trans st') A'⟩)
  simpa using this
 | true =>
  obtain ⟨ls, T, Hh, Rv, h1, h2, h3, h4, h5⟩ := D.walk (Nat.zero_le _)
  rw [List.reverse_nil, List.nil_append] at h4
  have hfree := free_of_conf (h4.1 rfl)
  have W : Walk P G.S F.n ops (fun i => ls.getD i .pure) T Hh Rv := ⟨fun j hj => by simpa using (h5 j (Nat.zero_le _) hj).1, fun j hj => (h5 j (Nat.zero_le _) hj).2⟩
  refine wp_region_any hm ?_
  have hk := drew_kept C
  have A' : ARel G.S ⟨{ C.w with drawn := C.w.drawn + 1 }, C.m, C.X⟩ t h F.n a := ⟨A.defers, A.size, fun i => (A.tmps i).step hk.toStep, A.heap.kept hk⟩
  refine any_order W hfree (C0 := C) (fun C' a' st' AA => ⟨rfl, h4.2 C' a' (st.trans st') AA⟩) ops.size (Array.replicate ops.size false) ⟨{ C.w with drawn := C.w.drawn + 1 }, C.m, C.X⟩ a hk.toStep (by simp) ?_ ?_ ?_
  ·intro j i hj
   exfalso
   rw [Array.getD_eq_getD_getElem?, Array.getElem?_replicate] at hj
   split at hj <;> simp at hj
  ·have : ∀ (L : Nat → Bool) m, unl L m ≤ m := by
    intro L m
    induction m with
    | zero => exact Nat.le_refl _
    | succ m ih => simp only [unl]; split <;> omega
   exact this _ _
  ·have e0 : (fun j => (Array.replicate ops.size false).getD j false) = fun _ => false := by
    funext j
    rw [Array.getD_eq_getD_getElem?, Array.getElem?_replicate]
    split <;> rfl
   rw [e0]
   have e1 : ∀ m, tD ops Rv (fun _ => false) (lk (T 0)) m = lk (T 0) := by
    intro m
    induction m with
    | zero => rfl
    | succ m ih => simp only [tD, Bool.false_eq_true, if_false, ih]
   have e2 : ∀ m, hD (fun i => ls.getD i .pure) Hh (fun _ => false) (Hh 0) m = Hh 0 := by
    intro m
    induction m with
    | zero => rfl
    | succ m ih => simp only [hD, Bool.false_and, Bool.false_eq_true, if_false]; simpa [hD] using ih
   rw [e1, e2, h2, h3]
   exact A'.toF
end Go.Sh
namespace Go.Sh
variable {P : Program} {G : Tab}
def kindA (ρ : Operand → AV) : Op → Kd
 | .alloc _ | .box .. | .store .. => .loud
 | .load _ x => match ρ x with | .ep .. => .pure | _ => .read
 | .fieldAddr _ x _ => match ρ x with | .el .. => .read | _ => .pure
 | .nilCheck x => match ρ x with | .el .. => .read | _ => .pure
 | .call { callee := .builtin .len, args := xs, argTypes := _ } =>
  match xs.toList with
  | [x] => match ρ x with | .own .. => .read | _ => .pure
  | _ => .pure
 | _ => .pure
theorem aop_congr {ρ ρ' : Operand → AV} {h : List AO} (op : Op) (he : ∀ x ∈ op.operands, ρ x = ρ' x) : aop G ρ h op = aop G ρ' h op := by
 have pairs : ∀ ps : Array (Nat × Operand), (∀ x ∈ (ps.toList.map (·.2)).toArray, ρ x = ρ' x) → (ps.toList.map fun p => (p.1, ρ p.2)) = (ps.toList.map fun p => (p.1, ρ' p.2)) := fun ps hp =>
  List.map_congr_left fun p hm => by rw [hp p.2 (by simpa using ⟨p.1, by simpa using hm⟩)]
 cases op <;> simp only [Op.operands] at he <;> simp only [aop]
 case move x => rw [he x (by simp)]
 case assign x => rw [he x (by simp)]
 case pick c a b => rw [he c (by simp), he a (by simp), he b (by simp)]
 case box e x => rw [he x (by simp)]
 case build t ps => rw [pairs ps (by simpa using he)]
 case buildSlice t n ps =>
  have hall : (ps.toList.all fun p => plainA (ρ p.2)) = (ps.toList.all fun p => plainA (ρ' p.2)) := by
   have e1 : ∀ p ∈ ps.toList, ρ p.2 = ρ' p.2 := fun p hp => he p.2 (by simpa using ⟨p.1, by simpa using hp⟩)
   generalize ps.toList = l at e1
   clear he pairs
   induction l with
   | nil => rfl
   | cons p l ih => simp only [List.all_cons]; rw [e1 p (by simp), ih (fun q hq => e1 q (by simp [hq]))]
  rw [pairs ps (by simpa using he), hall]
 case load t x => rw [he x (by simp)]
 case store t x y => rw [he x (by simp), he y (by simp)]
 case nilCheck x => rw [he x (by simp)]
 case binOp op xt x y yt => rw [he x (by simp), he y (by simp)]
 case unOp op t x => rw [he x (by simp)]
 case convert s d x => rw [he x (by simp)]
 case fieldAddr s x f => rw [he x (by simp)]
 case indexAddr t x i => rw [he x (by simp), he i (by simp)]
 case extract x i => rw [he x (by simp)]
 case makeFunc fn first caps =>
  cases fn <;> simp only [aop]
  have : caps.toList.map ρ = caps.toList.map ρ' := List.map_congr_left fun x hx => he x (by simp only [Array.mem_append]; exact .inr (by simpa using hx))
  rw [this]
 case call c =>
  obtain ⟨callee, args, argTypes⟩ := c
  have hargs : ∀ x ∈ args.toList, ρ x = ρ' x := fun x hx => he x (by simp only [Call.operands, Array.mem_append]; exact .inr (by simpa using hx))
  cases callee with
  | value f => simp [aop]
  | invoke r m => simp [aop]
  | builtin b =>
   cases b <;> simp only [aop]
   case len =>
    split
    ·rename_i x t hx _
     rw [hx] at hargs
     rw [hargs x (by simp)]
    ·rfl
   all_goals
    split
    ·rename_i x y hx
     rw [hx] at hargs
     rw [hargs x (by simp), hargs y (by simp)]
    ·rfl
theorem aop_quiet {ρ : Operand → AV} {h : List AO} {op : Op} {r : AV} {h' : List AO} (hk : kindA ρ op ≠ .loud) (ho : aop G ρ h op = some (r, h')) : h' = h := by
 have fin : ∀ {α : Type} {o : Option α} {f : α → AV}, (o.map fun x => (f x, h)) = some (r, h') → h' = h := by
  intro α o f hh
  obtain ⟨x, _, hx⟩ := Option.map_eq_some_iff.1 hh
  injection hx with _ hx
  exact hx.symm
 have fin2 : ∀ {x : AV}, some (x, h) = some (r, h') → h' = h := by
  intro x hh
  injection hh with hh
  injection hh with _ hh
  exact hh.symm
 cases op <;> simp only [aop, kindA, ne_eq, not_true_eq_false, reduceCtorEq] at ho hk
 case makeFunc fn first caps => cases fn <;> simp only [aop, reduceCtorEq] at ho; split at ho <;> first | exact fin2 ho | cases ho
 case call c =>
  obtain ⟨callee, args, argTypes⟩ := c
  cases callee with
  | value f => simp [aop] at ho
  | invoke r m => simp [aop] at ho
  | builtin b =>
   cases b <;> simp only [aop, reduceCtorEq] at ho <;> (repeat' split at ho) <;> first | exact fin2 ho | cases ho
 all_goals ((repeat' split at ho) <;> first | exact fin2 ho | exact fin ho | cases ho)
theorem aop_pure {ρ : Operand → AV} {h : List AO} {op : Op} {r : AV} {h' : List AO} (hk : kindA ρ op = .pure) (ho : aop G ρ h op = some (r, h')) : ∀ h2, aop G ρ h2 op = some (r, h2) := by
 have hq : h' = h := aop_quiet (by rw [hk]; simp) ho
 subst hq
 intro h2
 have fin : ∀ {α : Type} {o : Option α} {f : α → AV}, (o.map fun x => (f x, h')) = some (r, h') → (o.map fun x => (f x, h2)) = some (r, h2) := by
  intro α o f hh
  obtain ⟨x, h1, hx⟩ := Option.map_eq_some_iff.1 hh
  injection hx with hx _
  rw [h1, Option.map_some, hx]
 have fin2 : ∀ {x : AV}, some (x, h') = some (r, h') → (some (x, h2) : Option (AV × List AO)) = some (r, h2) := by
  intro x hh
  injection hh with hh
  injection hh with hh _
  rw [hh]
 cases op <;> simp only [aop, kindA, reduceCtorEq] at ho hk ⊢
 case load ty x =>
  split at ho
  ·rename_i hx
   rw [hx] at hk
   cases hk
  ·exact fin ho
  ·cases ho
 case build t parts =>
  split at ho
  ·cases ho
  ·split at ho
   ·split at ho
    ·rename_i hc
     rw [if_pos hc]
     exact fin ho
    ·cases ho
   ·split at ho
    ·exact fin ho
    ·cases ho
   ·cases ho
 case buildSlice t n ps =>
  split at ho
  ·split at ho
   ·split at ho
    ·split at ho
     ·rename_i hc
      rw [if_pos hc]
      exact fin ho
     ·cases ho
    ·cases ho
   ·cases ho
  ·cases ho
 case indexAddr t x i =>
  split at ho
  ·split at ho
   ·split at ho
    ·rename_i hc
     rw [if_pos hc]
     exact fin2 ho
    ·cases ho
   ·cases ho
  ·split at ho
   ·rename_i hc
    rw [if_pos hc]
    split at ho
    ·exact fin ho
    ·cases ho
   ·cases ho
  ·cases ho
 case makeFunc fn first caps =>
  cases fn <;> simp only [aop, reduceCtorEq] at ho ⊢
  split at ho <;> first | (simp_all; done) | (exfalso; cases ho; done)
 case call c =>
  obtain ⟨callee, args, argTypes⟩ := c
  cases callee with
  | value f => simp [aop] at ho
  | invoke r m => simp [aop] at ho
  | builtin b =>
   cases b <;> simp only [aop, kindA, reduceCtorEq] at ho hk ⊢
   case max =>
    split at ho
    ·split at ho
     ·exact fin2 ho
     ·cases ho
    ·cases ho
   case min =>
    split at ho
    ·split at ho
     ·exact fin2 ho
     ·cases ho
    ·cases ho
   all_goals ((repeat' split at ho) <;> first | (simp_all; done) | (exfalso; cases ho; done))
 all_goals ((repeat' split at ho) <;> first | (simp_all; done) | (exfalso; cases ho; done))
def guardA (ops : Array Oper) (t : Tmps) (o : Oper) : Option Bool :=
 match o.guard with
 | none => some true
 | some (j, want) =>
  match (ops[j]?).bind (·.dst) with
  | none => none
  | some d =>
   match lk t d with
   | .sc (.bool b) => some (b == want)
   | .tup [] => some false
   | _ => none
def dstOk (n : Nat) : Option Nat → Bool
 | none => true
 | some d => decide (d < n)
def stepA (G : Tab) (n : Nat) (ops : Array Oper) (i : Nat) (t : Tmps) (h : List AO) : Option (Kd × AV × List AO) :=
 match ops[i]? with
 | none => none
 | some o =>
  if dstOk n o.dst then
   match guardA ops t o with
   | none => none
   | some false => some (.pure, .tup [], h)
   | some true => (aop G (ev t) h o.op).map fun p => (kindA (ev t) o.op, p.1, p.2)
  else none
theorem looks_op {ops : Array Oper} {o : Oper} {x : Operand} (hx : x ∈ o.op.operands) {t t2 : Nat → AV} (h : ∀ x ∈ o.looksAt ops, t2 x = t x) : ∀ i, x = .tmp i → t2 i = t i := by
 intro i hi
 refine h i ?_
 unfold Oper.looksAt
 refine List.mem_append.2 (.inl ?_)
 rw [List.mem_filterMap]
 exact ⟨x, by simpa using hx, by rw [hi]⟩
def evF (t : Nat → AV) : Operand → AV
 | .tmp i => t i
 | .const v => cv v
 | .func f => .fn f []
 | .global _ => .u
theorem ev_eq (t : Tmps) : ev t = evF (lk t) := by funext x; cases x <;> rfl
theorem ARelF.ev {S : Sizes} {C : Ctx} {t : Nat → AV} {h : List AO} {n : Nat} {a : Act} (A : ARelF S C t h n a) (x : Operand) : VRel S C (evF t x) (a.eval x) := by
 cases x with
 | tmp i => exact A.tmps i
 | const v => exact cv_rel S C v
 | func f => exact ⟨#[], rfl, rfl⟩
 | global g => trivial
theorem guard_wanted {S : Sizes} {C : Ctx} {ops : Array Oper} {o : Oper} {t : Tmps} {t2 : Nat → AV} {h : List AO} {n : Nat} {a : Act} {b : Bool} (hg : guardA ops t o = some b) (hl : ∀ x ∈ o.looksAt ops, t2 x = lk t x) (A : ARelF S C t2 h n a) : Region.wanted o (yielded ops a.tmps) = b := by
 unfold guardA at hg
 unfold Region.wanted
 cases hgd : o.guard with
 | none => rw [hgd] at hg; injection hg
 | some p =>
  obtain ⟨j, want⟩ := p
  rw [hgd] at hg
  simp only at hg ⊢
  cases hd : (ops[j]?).bind (·.dst) with
  | none => rw [hd] at hg; cases hg
  | some d =>
   rw [hd] at hg
   simp only at hg
   split at hg
   ·rename_i b' hb'
    injection hg with hg
    have hmem : d ∈ o.looksAt ops := by
     unfold Oper.looksAt
     refine List.mem_append.2 (.inr ?_)
     simp [hgd, hd]
    have hv := A.tmps d
    rw [hl d hmem, hb'] at hv
    have hv := sc_inv hv
    have hlt : a.tmps[d]? = some (.bool b') := by
     rw [Array.getD_eq_getD_getElem?] at hv
     cases hq : a.tmps[d]? with
     | none => rw [hq] at hv; cases hv
     | some q => rw [hq] at hv; rw [show q = .bool b' from hv]
    unfold yielded
    rw [hd]
    simp only [Option.bind_some, hlt]
    rw [← hg]
    rfl
   ·rename_i hu
    injection hg with hg
    have hmem : d ∈ o.looksAt ops := by
     unfold Oper.looksAt
     refine List.mem_append.2 (.inr ?_)
     simp [hgd, hd]
    have hv := A.tmps d
    rw [hl d hmem, hu] at hv
    obtain ⟨l, hv, hl'⟩ := hv
    rw [← hg]
    unfold yielded
    rw [hd]
    rw [Array.getD_eq_getD_getElem?] at hv
    simp only [Option.bind_some]
    cases hq : a.tmps[d]? with
    | none => rfl
    | some q =>
     rw [hq] at hv
     simp only [Option.getD_some] at hv
     subst hv
     rfl
   ·cases hg
theorem stepA_sound (hG : G.ok P) {n : Nat} {ops : Array Oper} {i : Nat} {t : Tmps} {h : List AO} {kd : Kd} {r : AV} {h' : List AO} (hs : stepA G n ops i t h = some (kd, r, h')) : LSpec P G.S n ops i kd t h r h' := by
 unfold stepA at hs
 cases ho : ops[i]? with
 | none => rw [ho] at hs; cases hs
 | some o =>
  rw [ho] at hs
  simp only at hs
  have hlt : i < ops.size := (Array.getElem?_eq_some_iff.1 ho).1
  split at hs
  ·rename_i hdst
   have hdst' : ∀ d, (ops[i]?).bind (·.dst) = some d → d < n := by
    intro d hd
    rw [ho] at hd
    simp only [Option.bind_some] at hd
    rw [hd] at hdst
    simpa [dstOk] using hdst
   split at hs
   ·cases hs
   ·rename_i hg
    injection hs with hs; injection hs with h1 h2; injection h2 with h2 h3
    subst h1; subst h2; subst h3
    refine ⟨hlt, hdst', fun _ => rfl, fun t2 h2 C a hl _ A Q K hK => ?_⟩
    unfold wpOp
    rw [ho]
    simp only [guard_wanted hg (hl o ho) A, Bool.false_eq_true, if_false]
    have := hK C undef (Step.refl C) ⟨#[], rfl, .nil⟩ (by simpa using A.heap)
    rw [ho] at this
    exact this
   ·rename_i hg
    obtain ⟨⟨r', h0⟩, k1, k2⟩ := Option.map_eq_some_iff.1 hs
    injection k2 with k2 k3; injection k3 with k3 k4
    simp only at k3 k4
    subst k2; subst k3; subst k4
    refine ⟨hlt, hdst', fun hk => aop_quiet hk k1, fun t2 h2 C a hl hheap A Q K hK => ?_⟩
    unfold wpOp
    rw [ho]
    simp only [guard_wanted hg (hl o ho) A, if_true]
    refine .inl ?_
    have hev : aop G (evF t2) h2 o.op = some (r', if kindA (ev t) o.op = .loud then h0 else h2) := by
     have e1 : aop G (evF t2) h2 o.op = aop G (ev t) h2 o.op := aop_congr o.op fun x hx => by
      rw [ev_eq]
      have := looks_op hx (hl o ho)
      cases x with
      | tmp i => exact this i rfl
      | _ => rfl
     rw [e1]
     by_cases hp : kindA (ev t) o.op = .pure
     ·rw [aop_pure hp k1 h2, hp]; simp
     ·rw [hheap hp, k1]
      by_cases hld : kindA (ev t) o.op = .loud
      ·rw [if_pos hld]
      ·rw [if_neg hld, aop_quiet hld k1]
    obtain ⟨C', st, H', hrun⟩ := aop_sound (P := P) hG (o := o) A.heap A.ev hev
    unfold Oper.wp
    rcases hrun with ⟨v, h1, h2⟩ | ⟨h1, h2⟩
    ·rw [h1]
     have := hK C' v st h2 H'
     rw [ho] at this
     exact this
    ·rw [h1]
     have := hK C' undef st (by rw [h2]; trivial) H'
     rw [ho] at this
     exact this
  ·cases hs
end Go.Sh
namespace Go.Sh
variable {P : Program} {G : Tab}
structure RS where
 i : Nat
 ks : List Kd
 t : Tmps
 h : List AO
def rrun (G : Tab) (n : Nat) (ops : Array Oper) : Nat → RS → Option RS
 | 0, s => some s
 | m + 1, s =>
  match stepA G n ops s.i s.t s.h with
  | some (kd, r, h') => rrun G n ops m ⟨s.i + 1, kd :: s.ks, setT s.t ((ops[s.i]?).bind (·.dst)) r, h'⟩
  | none => none
theorem rrun_sound (hG : G.ok P) {n : Nat} {ops : Array Oper} {fin : List Kd → Tmps → List AO → Prop} : ∀ (m : Nat) (s s' : RS), rrun G n ops m s = some s' → DW P G.S n ops fin s'.i s'.ks s'.t s'.h → DW P G.S n ops fin s.i s.ks s.t s.h
 | 0, s, s', h, D => by
  injection h with h
  subst h
  exact D
 | m + 1, s, s', h, D => by
  simp only [rrun] at h
  split at h
  ·rename_i kd r h' hs
   exact .step (stepA_sound hG hs) (rrun_sound hG m _ s' h D)
  ·cases h
theorem DW.done {F : Fn} {c0 : Ctx} {R : Ending → World → Prop} {ops : Array Oper} {draw : Bool} {k : List PI} {i : Nat} {ks : List Kd} {t : Tmps} {h : List AO} (hi : ops.size = i) (hc : (!draw || confOk ops ks.reverse) = true) (A : AR P G F c0 R k t h) : DW P G.S F.n ops (Fin P G F c0 R ops draw k) i ks t h :=
 .fin hi ⟨fun hd => by rw [hd] at hc; simpa using hc, A⟩
structure Cfg where
 k : List PI
 t : Tmps
 h : List AO
def pstep (G : Tab) (F : Fn) (c : Cfg) : Option Cfg :=
 match c.k with
 | [] => none
 | .blk _ :: k => some ⟨k, c.t, c.h⟩
 | .loop _ :: _ => none
 | .code p :: k =>
  match codeAt F.B p with
  | .skip => some ⟨k, c.t, c.h⟩
  | .seq _ _ => some ⟨.code (p ++ [0]) :: .code (p ++ [1]) :: k, c.t, c.h⟩
  | .cond x _ _ =>
   match ev c.t x with
   | .sc (.bool b) => some ⟨.code (p ++ [if b then 0 else 1]) :: k, c.t, c.h⟩
   | _ => none
  | .block id _ => some ⟨.code (p ++ [0]) :: .blk id :: k, c.t, c.h⟩
  | .region _ ops draw =>
   match rrun G F.n ops ops.size ⟨0, [], c.t, c.h⟩ with
   | some s => if !draw || confOk ops s.ks.reverse then some ⟨k, s.t, s.h⟩ else none
   | none => none
  | .exit id => (exitP id k).map fun k' => ⟨k', c.t, c.h⟩
  | _ => none
def arun (G : Tab) (F : Fn) : Nat → Cfg → Option Cfg
 | 0, c => some c
 | m + 1, c => (pstep G F c).bind (arun G F m)
variable {F : Fn} {c0 : Ctx} {R : Ending → World → Prop}
theorem rrun_i {n : Nat} {ops : Array Oper} : ∀ (m : Nat) (s s' : RS), rrun G n ops m s = some s' → s'.i = s.i + m
 | 0, s, s', h => by injection h with h; subst h; rfl
 | m + 1, s, s', h => by
  simp only [rrun] at h
  split at h
  ·have := rrun_i m _ s' h
   simp only at this
   omega
  ·cases h
theorem AR.pstep (hG : G.ok P) (hm : P.follows .mixedOrders = true) {c c' : Cfg} (h : pstep G F c = some c') (A : AR P G F c0 R c'.k c'.t c'.h) : AR P G F c0 R c.k c.t c.h := by
 obtain ⟨k, t, hp⟩ := c
 unfold Sh.pstep at h
 simp only at h
 split at h
 ·cases h
 ·rename_i id k
  injection h with h
  subst h
  intro C a st AA
  refine (A C a st AA).one fun cs => ?_
  simp only [List.map_cons, PI.dec]
  exact step_inBlock
 ·cases h
 ·rename_i p k
  split at h
  ·rename_i hc
   injection h with h
   subst h
   intro C a st AA
   refine (A C a st AA).one fun cs => ?_
   simp only [List.map_cons, PI.dec, hc]
   exact step_skip
  ·rename_i x y hc
   injection h with h
   subst h
   intro C a st AA
   refine (A C a st AA).one fun cs => ?_
   simp only [List.map_cons, PI.dec, codeAt_append, hc]
   simp only [codeAt, if_true]
   exact step_seq
  ·rename_i x y z hc
   split at h
   ·rename_i b hb
    injection h with h
    subst h
    intro C a st AA
    refine (A C a st AA).one fun cs => ?_
    have hv := AA.ev x
    rw [hb] at hv
    have hv := sc_inv hv
    simp only [List.map_cons, PI.dec, codeAt_append, hc]
    have := step_cond (P := P) (b := baseFr F.f) (k := k.map (PI.dec F.B)) (cs := cs) (w := C.w) (x := y) (y := z) hv
    rw [this]
    cases b <;> simp [codeAt]
   ·cases h
  ·rename_i id x hc
   injection h with h
   subst h
   intro C a st AA
   refine (A C a st AA).one fun cs => ?_
   simp only [List.map_cons, PI.dec, codeAt_append, hc]
   simp only [codeAt]
   exact step_block
  ·rename_i id ops draw hc
   split at h
   ·rename_i s hs
    split at h
    ·rename_i hok
     injection h with h
     subst h
     refine AR.region hm hc (rrun_sound hG ops.size _ s hs (DW.done ?_ hok A))
     have := rrun_i _ _ _ hs
     simpa using this.symm
    ·cases h
   ·cases h
  ·rename_i id hc
   obtain ⟨k', h1, h2⟩ := Option.map_eq_some_iff.1 h
   subst h2
   intro C a st AA
   refine (A C a st AA).one fun cs => ?_
   simp only [List.map_cons, PI.dec, hc]
   exact step_exit (exitP_dec F.B id k k' h1)
  ·cases h
theorem arun_sound (hG : G.ok P) (hm : P.follows .mixedOrders = true) : ∀ (m : Nat) (c c' : Cfg), arun G F m c = some c' → AR P G F c0 R c'.k c'.t c'.h → AR P G F c0 R c.k c.t c.h
 | 0, c, c', h, A => by injection h with h; subst h; exact A
 | m + 1, c, c', h, A => by
  obtain ⟨c1, h1, h2⟩ := Option.bind_eq_some_iff.1 h
  exact AR.pstep hG hm h1 (arun_sound hG hm m c1 c' h2 A)
theorem AR.loop_in {k : List PI} {p : List Nat} {c : Code} (hc : codeAt F.B p = .loop c) {t : Tmps} {h : List AO} (A : AR P G F c0 R (.code (p ++ [0]) :: .loop p :: k) t h) : AR P G F c0 R (.code p :: k) t h := by
 intro C a st AA
 refine (A C a st AA).one fun cs => ?_
 simp only [List.map_cons, PI.dec, codeAt_append, hc]
 simp only [codeAt]
 exact step_loop
theorem AR.loop_round {k : List PI} {p : List Nat} {t : Tmps} {h : List AO} (A : AR P G F c0 R (.code (p ++ [0]) :: .loop p :: k) t h) : AR P G F c0 R (.loop p :: k) t h := by
 intro C a st AA
 refine (A C a st AA).one fun cs => ?_
 simp only [List.map_cons, PI.dec]
 exact step_inLoop
end Go.Sh
namespace Go.Sh
variable {P : Program} {G : Tab}
def Ent (P : Program) (f : FuncId) : Prop := ∀ (vals : Array Value) (w : World), (callFunc f vals).run P w = .ok (.enter f vals) w
theorem ent_of {f : FuncId} {fn : Func} (hf : P.funcs[f]? = some fn) (hn : (fn.name == "runtime.NumGoroutine") = false) (hb : fn.body.isNone = false) : Ent P f := by
 intro vals w
 unfold callFunc
 simp only [Sem.run_bind, run_program, Result.andThen_ok, hf, hn, Bool.false_eq_true, if_false, hb, Sem.run_pure]
def Rp (S : Sizes) (c0 : Ctx) (r : AV) (h' : List AO) : Ending → World → Prop := fun e w' => ∃ v C', e = .returned v ∧ C'.w = w' ∧ StepW c0 C' ∧ HRel S C' h' ∧ VRel S C' r v
def ACalls (P : Program) (S : Sizes) (f : FuncId) (args : List AV) (h : List AO) (r : AV) (h' : List AO) : Prop :=
 Ent P f ∧ ∀ (C : Ctx) (vals : Array Value), HRel S C h → VRels S C args vals.toList → Calls P f vals C.w (Rp S C r h')
def conv (h : List AO) : AV → Option AV
 | .own o k =>
  match h[o]? with
  | some (.row e rows k' _) => if k = k' then some (.sl e rows false) else none
  | _ => none
 | .bsl e o off n =>
  match h[o]? with
  | some (.box _ fs) =>
   match dropC fs off with
   | some (.arr k n' xs :: _) => if n = n' ∧ 0 < n then some (.sl e (xs.map fun x => .sc (.int k x)) true) else none
   | _ => none
  | _ => none
 | a => if plainA a then some a else none
theorem under_noSlots (C : Ctx) (X : Keep) (hX : ∀ b, X b → C.X b ∨ ∃ s ∈ C.m, s.has b) (hP : C.X.le X) : Under C ⟨C.w, [], X⟩ := by
 refine ⟨rfl, fun b hb => ⟨fun hx => ?_, by simp⟩, hP⟩
 rcases hX b hx with h | ⟨s, hs, e⟩
 ·exact hb.1 h
 ·exact hb.2 s hs e
theorem conv_rel {S : Sizes} {C : Ctx} {h : List AO} (H : HRel S C h) {X : Keep} (hX : ∀ b, X b → C.X b ∨ ∃ s ∈ C.m, s.has b) (hP : C.X.le X) {a a' : AV} {v : Value} (hc : conv h a = some a') (hS : ∀ e o off n, a = .bsl e o off n → (S e).1 = 1 ∧ n * (S e).2 ≤ reach ∧ n ≤ maxLen ∧ e < markE)
  (hfree : ∀ o k, a = .own o k → ∀ s b, C.m[o]? = some s → s.has b → ¬ X b) (hfree2 : ∀ e o off n, a = .bsl e o off n → ∀ s b, C.m[o]? = some s → s.has b → ¬ X b) (r : VRel S C a v) : VRel1 S ⟨C.w, [], X⟩ a' v := by
 have U := under_noSlots C X hX hP
 unfold conv at hc
 split at hc
 ·rename_i o k
  split at hc
  ·rename_i e rows k' app ho
   split at hc
   ·rename_i hkk
    subst hkk
    injection hc with hc
    subst hc
    obtain ⟨v0, kk, mn, q1, q2, q3, q4⟩ := own_inv r
    obtain ⟨o1, o2, o3, o4, _⟩ := H.rel o _ _ ho q2
    have hv := q4 o1
    subst hv
    cases mn with
    | false =>
     have := RelV.plain U _ _ rfl (o3 rfl)
     obtain ⟨a, c, s1, s2, s3, s4, s5, s6⟩ := this
     exact ⟨a, c, s1, s2, by simp, s4, s5, s6⟩
    | true =>
     obtain ⟨⟨_, hlt⟩, hsz, cells, hown, hrf, _⟩ := o4 rfl
     exact ownsG_settled hlt U.w U.flat hsz hown hrf o2 (fun b hb => ⟨hfree o k rfl _ b q2 (by simpa [Slot.has] using hb), by simp⟩)
   ·cases hc
  ·cases hc
 ·rename_i e o off n
  split at hc
  ·rename_i e' fs ho
   split at hc
   ·rename_i k n' xs gs hd
    split at hc
    ·rename_i hnn
     obtain ⟨rfl, hpos⟩ := hnn
     injection hc with hc
     subst hc
     obtain ⟨b, q1, q2⟩ := (r : RelV S C (.bsl e o off n) [v])
     have q2 : v = .slice (some ⟨b, off, none⟩) n n := by simpa using q2
     subst q2
     obtain ⟨cs, h1, h2⟩ := box_rel H ho q1
     obtain ⟨c1, c2, h3, h4, h5⟩ := dropC_cons_get hd h2
     obtain ⟨h6, h7⟩ := h4
     obtain ⟨s1, s2, s3, s4⟩ := hS e o off n rfl
     have hlen : (xs.map fun x => AV.sc (.int k x)).length = n := by rw [List.length_map, h6]
     refine ⟨some ⟨b, off, none⟩, n, by rw [hlen], by rw [hlen]; exact Nat.le_refl _, fun _ => hlen.symm, s3, by rw [hlen]; exact s2, .inr ⟨b, off, rfl, .inl ⟨s4, ⟨hfree2 e o off n rfl _ b q1 rfl, by simp⟩, fun _ => unfz_cells h1 (.inl rfl)⟩, ?_⟩⟩
     rw [s1]
     have key : ∀ (ys : List Int) (o2 : Nat) (ds : List Value), ds = ys.map (Value.int k) → (∀ j u, ds[j]? = some u → C.w.cell? ⟨b, o2 + j, none⟩ = some u) → RelR S (Ctx.flat ⟨C.w, [], X⟩) b 1 (ys.map fun x => AV.sc (.int k x)) o2 := by
      intro ys
      induction ys with
      | nil => intro _ _ _ _; trivial
      | cons y ys ih =>
       intro o2 ds hds hc
       subst hds
       refine ⟨⟨[.int k y], ⟨rfl, rfl⟩, rfl, by simp, fun j u hj => ?_⟩, ih (o2 + 1) _ rfl fun j u hj => ?_⟩
       ·cases j with
        | zero => exact hc 0 u (by simpa using hj)
        | succ j => simp at hj
       ·have := hc (j + 1) u (by simpa using hj)
        rw [show o2 + 1 + j = o2 + (j + 1) by omega]
        exact this
     refine key xs off c1 h7 fun j u hj => ?_
     rw [cell_of_heap h1]
     have : (cs.toList.drop off)[j]? = some u := by rw [h3, List.getElem?_append_left (List.getElem?_eq_some_iff.1 hj).1]; exact hj
     rw [List.getElem?_drop] at this
     simpa using this
    ·cases hc
   ·cases hc
  ·cases hc
 ·rename_i hno hnb
  split at hc
  ·rename_i hp
   injection hc with hc
   subst hc
   have := VRel.plain U hp r
   cases a with
   | tup vs => simp [plainA] at hp
   | _ => exact this
  ·cases hc
theorem run_call {ρv : Operand → Value} {dst : Option Tmp} {x : Operand} {xs : Array Operand} {ts : Array TypeId} {oty : TypeId} {pos : String} {after : Array Edge} {guard : Option (Nat × Bool)} {f : FuncId} {vs : Array Value} (hE : Ent P f) (hx : ρv x = .func (.func f) #[] vs) (w : World) :
  (execOp ρv ⟨dst, .call { callee := .value x, args := xs, argTypes := ts }, oty, pos, after, guard⟩).run P w = .ok (.enter f (xs.map ρv ++ vs)) w := by
 simp only [execOp, resolve, hx, Deferred.ofValue, Sem.run_bind, Sem.run_pure, Result.andThen_ok, invoke, Array.empty_append]
 exact hE _ w
theorem fn_inv {S : Sizes} {C : Ctx} {f : FuncId} {v : Value} (h : VRel S C (.fn f []) v) : v = .func (.func f) #[] #[] := by
 obtain ⟨vs, h1, h2⟩ := (h : RelV S C (.fn f []) [v])
 have e : vs.toList = [] := h2
 have : vs = #[] := by simpa using e
 subst this
 simpa using h1
structure CallAt (n : Nat) (ops : Array Oper) (i : Nat) (t : Tmps) (f : FuncId) (xs : List Operand) : Prop where
 at_ : ∃ o x ts, ops[i]? = some o ∧ o.op = .call { callee := .value x, args := xs.toArray, argTypes := ts } ∧ guardA ops t o = some true ∧ dstOk n o.dst = true ∧ ev t x = .fn f []
def callAt (n : Nat) (ops : Array Oper) (i : Nat) (t : Tmps) : Option (FuncId × List Operand) :=
 match ops[i]? with
 | none => none
 | some o =>
  match o.op with
  | .call { callee := .value x, args := xs, argTypes := _ } =>
   match guardA ops t o, ev t x with
   | some true, .fn f [] => if dstOk n o.dst then some (f, xs.toList) else none
   | _, _ => none
  | _ => none
theorem callAt_spec {n : Nat} {ops : Array Oper} {i : Nat} {t : Tmps} {f : FuncId} {xs : List Operand} (h : callAt n ops i t = some (f, xs)) : CallAt n ops i t f xs := by
 unfold callAt at h
 split at h
 ·cases h
 ·rename_i o ho
  split at h
  ·rename_i x ys ts hop
   split at h
   ·rename_i f' hg hx
    split at h
    ·rename_i hd
     injection h with h; injection h with h1 h2
     subst h1; subst h2
     exact ⟨o, x, ts, ho, by simpa using hop, hg, hd, hx⟩
    ·cases h
   ·cases h
  ·cases h
theorem CallAt.wp {n : Nat} {ops : Array Oper} {i : Nat} {t : Tmps} {f : FuncId} {xs : List Operand} (K : CallAt n ops i t f xs) (hE : Ent P f) {S : Sizes} {t2 : Nat → AV} {h2 : List AO} {C : Ctx} {a : Act} (hl : ∀ o, ops[i]? = some o → ∀ x ∈ o.looksAt ops, t2 x = lk t x) (A : ARelF S C t2 h2 n a) {Q : Exit → Act → World → Prop} {N : Act → World → Prop}
  (hc : (∀ x ∈ xs, VRel S C (ev t x) (a.eval x)) → Calls P f (xs.toArray.map a.eval) C.w fun e w' => ∃ v, e = .returned v ∧ N (a.put ((ops[i]?).bind (·.dst)) v) w') : wpOp P ops Q i N a C.w := by
 obtain ⟨o, x, ts, ho, hop, hg, hd, hx⟩ := K.at_
 have hl' := hl o ho
 unfold wpOp
 rw [ho]
 simp only [guard_wanted hg hl' A, if_true]
 refine .inl ?_
 have hev : ∀ y ∈ o.op.operands, VRel S C (ev t y) (a.eval y) := by
  intro y hy
  have h1 := A.ev y
  have h2 := looks_op hy hl'
  cases y with
  | tmp j =>
   have := h2 j rfl
   simp only [evF] at h1
   rw [this] at h1
   exact h1
  | const v => exact h1
  | func g => exact h1
  | global g => exact h1
 have hxm : x ∈ o.op.operands := by rw [hop]; simp [Op.operands, Call.operands]
 have hfv := hev x hxm
 rw [hx] at hfv
 have hfv := fn_inv hfv
 obtain ⟨dst, op, oty, pos, after, guard⟩ := o
 simp only at hop
 subst hop
 unfold Oper.wp
 rw [run_call hE hfv]
 simp only [Array.append_empty]
 rw [Oper.upon_enter]
 rw [ho] at hc
 refine (hc fun y hy => hev y ?_).mono ?_
 ·simp only [Op.operands, Call.operands]
  exact Array.mem_append.2 (.inr (by simpa using hy))
 ·rintro e w' ⟨v, rfl, h⟩
  exact h
theorem CallAt.lt {n : Nat} {ops : Array Oper} {i : Nat} {t : Tmps} {f : FuncId} {xs : List Operand} (K : CallAt n ops i t f xs) : i < ops.size := by
 obtain ⟨o, x, ts, ho, _⟩ := K.at_
 exact (Array.getElem?_eq_some_iff.1 ho).1
theorem CallAt.dst {n : Nat} {ops : Array Oper} {i : Nat} {t : Tmps} {f : FuncId} {xs : List Operand} (K : CallAt n ops i t f xs) : ∀ d, (ops[i]?).bind (·.dst) = some d → d < n := by
 obtain ⟨o, x, ts, ho, _, _, hd, _⟩ := K.at_
 intro d h
 rw [ho] at h
 simp only [Option.bind_some] at h
 rw [h] at hd
 simpa [dstOk] using hd
theorem VRels.of_map {S : Sizes} {C D : Ctx} {ρv : Operand → Value} {g : AV → Option AV} (t : Tmps) (hg : ∀ a b v, g a = some b → VRel S C a v → VRel1 S D b v) : ∀ (xs : List Operand) (avs : List AV), (xs.map (ev t)).mapM g = some avs → (∀ x ∈ xs, VRel S C (ev t x) (ρv x)) → VRels S D avs (xs.map ρv)
 | [], avs, h, _ => by
  have : avs = [] := by simpa using h.symm
  subst this
  exact .nil
 | x :: xs, avs, h, hr => by
  simp only [List.map_cons, List.mapM_cons] at h
  obtain ⟨b, h1, h2⟩ := Option.bind_eq_some_iff.1 h
  obtain ⟨bs, h3, h4⟩ := Option.bind_eq_some_iff.1 h2
  injection h4 with h4
  subst h4
  exact .cons (hg _ _ _ h1 (hr x (by simp))) (VRels.of_map t hg xs bs h3 fun y hy => hr y (by simp [hy]))
def plainO (a : AV) : Option AV := if plainA a then some a else none
theorem HRel.nil {S : Sizes} {w : World} {X : Keep} (h : ∀ b, X b → b < w.heap.size) : HRel S ⟨w, [], X⟩ [] := ⟨rfl, by intro o ob s ho; simp at ho, by intro o o' s s' b ho; simp at ho, by simp, h⟩
theorem flat_lt {S : Sizes} {C : Ctx} {h : List AO} (H : HRel S C h) : ∀ b, C.flat.X b → b < C.w.heap.size := by
 rintro b (hb | ⟨s, hs, e⟩)
 ·exact H.Xlt b hb
 ·exact H.lt hs e
theorem LSpec.call {n : Nat} {ops : Array Oper} {i : Nat} {t : Tmps} {h : List AO} {f : FuncId} {xs : List Operand} {avs : List AV} {r : AV} (hk : callAt n ops i t = some (f, xs)) (ha : (xs.map (ev t)).mapM plainO = some avs) (hc : ACalls P G.S f avs [] r []) : LSpec P G.S n ops i .pure t h r h := by
 have K := callAt_spec hk
 refine ⟨K.lt, K.dst, fun _ => rfl, fun t2 h2 C a hl _ A Q N hN => K.wp hc.1 hl A fun hev => ?_⟩
 have hargs : VRels G.S C.flat avs (xs.map a.eval) := VRels.of_map t (fun a b v hg hr => by
  unfold plainO at hg
  split at hg
  ·rename_i hp
   injection hg with hg
   subst hg
   have := hr.plain (Under.toFlat C) hp
   cases a with
   | tup vs => simp [plainA] at hp
   | _ => exact this
  ·cases hg) xs avs ha hev
 refine (hc.2 C.flat _ (HRel.nil (flat_lt A.heap)) (by simpa using hargs)).mono ?_
 rintro e w' ⟨v, C', rfl, rfl, st, H', hv⟩
 refine ⟨v, rfl, ?_⟩
 have hm' : C'.m = [] := List.eq_nil_of_length_eq_zero (by rw [H'.len]; rfl)
 have hkept : Kept C ⟨C'.w, C.m, C.X⟩ := ⟨st.os, st.tape, st.output, st.size, fun b hb => st.block b hb (by simp [Ctx.flat]), rfl, rfl⟩
 have hmono : Mono C' ⟨C'.w, C.m, C.X⟩ := by
  refine ⟨Nat.le_refl _, fun _ _ _ => rfl, fun b _ ho => ?_, fun o s hs => by rw [hm'] at hs; simp at hs, fun _ _ _ => rfl, by rw [st.X]; exact ⟨fun _ h => h, Nat.le_refl _⟩⟩
  have hX : C'.X = C.flat.X := st.X
  unfold Ctx.ok at *
  rw [hX] at ho
  exact ⟨fun hx => ho.1 (.inl hx), fun s hs e => ho.1 (.inr ⟨s, hs, e⟩)⟩
 exact hN ⟨C'.w, C.m, C.X⟩ v hkept.toStep (hv.mono hmono) (by simpa using A.heap.kept hkept)
end Go.Sh
namespace Go.Sh
variable {P : Program} {G : Tab}
mutual
def scalA : AV → Bool
 | .sc _ | .arr .. | .is .. => true
 | .agg fs => scalL fs
 | .tup fs => scalL fs
 | _ => false
def scalL : List AV → Bool
 | [] => true
 | f :: fs => scalA f && scalL fs
end
mutual
theorem RelV.scal {S : Sizes} {C D : Ctx} : ∀ (a : AV) (cs : List Value), scalA a = true → RelV S C a cs → RelV S D a cs
 | .u, _, hp, _ => by simp [scalA] at hp
 | .sc v, cs, _, r => r
 | .arr k n xs, cs, _, r => r
 | .agg fs, cs, hp, r => RelL.scal fs cs (by simpa [scalA] using hp) r
 | .sl e rows full, cs, hp, _ => by simp [scalA] at hp
 | .own o k, _, hp, _ => by simp [scalA] at hp
 | .ptr o off ix, _, hp, _ => by simp [scalA] at hp
 | .el e o k i off, _, hp, _ => by simp [scalA] at hp
 | .bsl e o off n, _, hp, _ => by simp [scalA] at hp
 | .ref K o, _, hp, _ => by simp [scalA] at hp
 | .ep fs off ix, cs, hp, _ => by simp [scalA] at hp
 | .fn f caps, cs, hp, _ => by simp [scalA] at hp
 | .fm o k ψ, cs, hp, _ => by simp [scalA] at hp
 | .is ψ, cs, _, r => r
 | .tup vs, _, _, r => r.elim
theorem RelL.scal {S : Sizes} {C D : Ctx} : ∀ (fs : List AV) (cs : List Value), scalL fs = true → RelL S C fs cs → RelL S D fs cs
 | [], _, _, r => r
 | f :: fs, cs, hp, r => by
  obtain ⟨c1, c2, h1, h2, h3⟩ := r
  simp only [scalL, Bool.and_eq_true] at hp
  exact ⟨c1, c2, h1, RelV.scal f c1 hp.1 h2, RelL.scal fs c2 hp.2 h3⟩
end
theorem VRel1.scal {S : Sizes} {C D : Ctx} {a : AV} {v : Value} (hp : scalA a = true) (r : VRel1 S C a v) : VRel1 S D a v := by
 cases a with
 | agg fs => obtain ⟨cs, h1, h2⟩ := r; exact ⟨cs, h1, RelL.scal _ _ (by simpa [scalA] using hp) h2⟩
 | arr k n xs => exact r
 | sc w => exact r
 | is ψ => exact r
 | tup vs => exact r.elim
 | _ => simp [scalA] at hp
theorem VRels.scal {S : Sizes} {C D : Ctx} {aas : List AV} {vs : List Value} (r : VRels S C aas vs) (hp : scalL aas = true) : VRels S D aas vs := by
 induction r with
 | nil => exact .nil
 | cons h1 h2 ih =>
  simp only [scalL, Bool.and_eq_true] at hp
  exact .cons (h1.scal hp.1) (ih hp.2)
theorem VRel.scal {S : Sizes} {C D : Ctx} {a : AV} {v : Value} (hp : scalA a = true) (r : VRel S C a v) : VRel S D a v := by
 cases a with
 | tup vs => obtain ⟨l, h1, h2⟩ := r; exact ⟨l, h1, h2.scal (by simpa [scalA] using hp)⟩
 | agg fs => exact VRel1.scal (a := .agg fs) hp r
 | arr k n xs => exact r
 | sc w => exact r
 | is ψ => exact r
 | _ => simp [scalA] at hp
def bslOk (S : Sizes) : AV → Bool
 | .bsl e _ _ n => (S e).1 == 1 && decide (n * (S e).2 ≤ reach) && decide (n ≤ maxLen) && decide (e < markE)
 | _ => true
def settleO : AO → AO
 | .row e rows k _ => .row e rows k false
 | o => o
def settle (os : List Nat) (h : List AO) : List AO := os.foldl (fun h o => h.modify o settleO) h
def Slot.settle : Slot → Slot
 | .row v k _ => .row v k false
 | s => s
theorem settle_one {S : Sizes} {C : Ctx} {h : List AO} (H : HRel S C h) (o : Nat) (hrow : ∀ s, C.m[o]? = some s → ∃ v k mn, s = .row v k mn) :
  Step C ⟨C.w, C.m.modify o Slot.settle, C.X⟩ ∧ HRel S ⟨C.w, C.m.modify o Slot.settle, C.X⟩ (h.modify o settleO) := by
 cases hs : C.m[o]? with
 | none =>
  have e1 : C.m.modify o Slot.settle = C.m := by
   apply List.ext_getElem?
   intro j
   rw [List.getElem?_modify]
   by_cases e : o = j
   ·subst e; rw [hs]; rfl
   ·simp [e]
  have hl : h.length ≤ o := by rw [← H.len]; exact List.getElem?_eq_none_iff.1 hs
  have e2 : h.modify o settleO = h := by
   apply List.ext_getElem?
   intro j
   rw [List.getElem?_modify]
   by_cases e : o = j
   ·subst e; rw [List.getElem?_eq_none hl]; rfl
   ·simp [e]
  rw [e1, e2]
  exact ⟨Step.refl C, H⟩
 | some s =>
  obtain ⟨v, k, mn, rfl⟩ := hrow s hs
  have hol : o < h.length := by rw [← H.len]; exact (List.getElem?_eq_some_iff.1 hs).1
  have hrel := H.rel o h[o] _ (List.getElem?_eq_getElem hol) hs
  have e1 : C.m.modify o Slot.settle = C.m.set o (.row v k false) := by
   apply List.ext_getElem?
   intro j
   rw [List.getElem?_modify, List.getElem?_set]
   by_cases e : o = j
   ·subst e; rw [hs]; simp [Slot.settle, (List.getElem?_eq_some_iff.1 hs).1]
   ·simp [e]
  have e2 : h.modify o settleO = h.set o (settleO h[o]) := by
   apply List.ext_getElem?
   intro j
   rw [List.getElem?_modify, List.getElem?_set]
   by_cases e : o = j
   ·subst e; rw [List.getElem?_eq_getElem hol]; simp [hol]
   ·simp [e]
  rw [e1, e2]
  obtain ⟨st, hh⟩ := HRel.upd (S := S) (C' := ⟨C.w, C.m.set o (.row v k false), C.X⟩) (s' := .row v k false) (ob := settleO h[o]) H hs ⟨v, k, false, rfl, .inr ⟨rfl, rfl⟩⟩ (Nat.le_refl _) rfl rfl rfl (fun _ _ _ => rfl) rfl rfl (fun b hb => by simp [Slot.has] at hb)
  refine ⟨st, hh ?_⟩
  revert hrel
  generalize h[o] = ob
  intro hrel
  cases ob with
  | gone => exact hrel.elim
  | box e fs => exact hrel.elim
  | any φ => exact hrel.elim
  | vals φ aas => exact hrel.elim
  | fam φ k => exact hrel.elim
  | famT φ k pd => exact hrel.elim
  | row e rows k' app =>
   obtain ⟨h1, h2, h3, h4, _⟩ := hrel
   refine ⟨h1, h2, fun _ => ?_, by simp, fun _ hap => by cases hap⟩
   cases mn with
   | false =>
    obtain ⟨a, c, s1, s2, s3, s4, s5, s6⟩ := RelV.step st _ _ (h3 rfl)
    exact ⟨a, c, s1, s2, by simp, s4, s5, s6⟩
   | true =>
    obtain ⟨⟨_, hlt⟩, hsz, cells, hown, hrf, _⟩ := h4 rfl
    refine ownsG_settled (C := C) hlt rfl st.mono.flat hsz hown hrf h2 (fun g hg => ⟨?_, ?_⟩)
    ·exact H.nX _ (List.mem_iff_getElem?.2 ⟨o, hs⟩) g (by simpa [Slot.has] using hg)
    ·intro s' hs' hb
     obtain ⟨j, hj⟩ := List.mem_iff_getElem?.1 hs'
     rw [List.getElem?_set] at hj
     by_cases e : o = j
     ·subst e
      rw [if_pos rfl, if_pos (by rw [H.len]; exact hol)] at hj
      injection hj with hj
      subst hj
      simp [Slot.has] at hb
     ·rw [if_neg e] at hj
      exact e (H.inj o j _ _ g hs hj (by simpa [Slot.has] using hg) hb)
def isRow : AO → Bool
 | .row .. => true
 | _ => false
def rowsAt (h : List AO) (os : List Nat) : Bool := os.all fun o => match h[o]? with | some ob => isRow ob | none => false
theorem rows_slot {S : Sizes} {C : Ctx} {h : List AO} (H : HRel S C h) {o : Nat} {ob : AO} (ho : h[o]? = some ob) (hr : isRow ob = true) : ∀ s, C.m[o]? = some s → ∃ v k mn, s = .row v k mn := by
 intro s hs
 have := H.rel o ob s ho hs
 cases ob <;> simp [isRow] at hr
 cases s <;> simp only [ORel] at this
 exact ⟨_, _, _, rfl⟩
theorem settle_all {S : Sizes} : ∀ (os : List Nat) {C : Ctx} {h : List AO}, HRel S C h → rowsAt h os = true →
  ∃ m, Step C ⟨C.w, m, C.X⟩ ∧ HRel S ⟨C.w, m, C.X⟩ (settle os h) ∧ (∀ (o : Nat) (s : Slot) (b : Nat), m[o]? = some s → s.has b → C.m[o]? = some s ∧ o ∉ os)
 | [], C, h, H, _ => ⟨C.m, Step.refl C, H, fun o s b hs hb => ⟨hs, by simp⟩⟩
 | o :: os, C, h, H, hr => by
  simp only [rowsAt, List.all_cons, Bool.and_eq_true] at hr
  obtain ⟨hr1, hr2⟩ := hr
  have hslot : ∀ s, C.m[o]? = some s → ∃ v k mn, s = .row v k mn := by
   cases ho : h[o]? with
   | none => rw [ho] at hr1; simp at hr1
   | some ob => rw [ho] at hr1; exact rows_slot H ho hr1
  obtain ⟨st, H1⟩ := settle_one H o hslot
  have hr3 : rowsAt (h.modify o settleO) os = true := by
   unfold rowsAt
   rw [List.all_eq_true] at hr2 ⊢
   intro j hj
   have := hr2 j hj
   rw [List.getElem?_modify]
   by_cases e : o = j
   ·subst e
    cases ho : h[o]? with
    | none => rw [ho] at this; simp at this
    | some ob => rw [ho] at this; cases ob <;> simp_all [isRow, settleO]
   ·simp only [e, if_false, id_eq, Option.map_id_fun', id]
    simpa using this
  obtain ⟨m, st2, H2, h3⟩ := settle_all os H1 hr3
  refine ⟨m, st.trans st2, H2, fun j s b hs hb => ?_⟩
  obtain ⟨k1, k3⟩ := h3 j s b hs hb
  simp only at k1
  rw [List.getElem?_modify] at k1
  by_cases e : o = j
  ·subst e
   exfalso
   cases hs0 : C.m[o]? with
   | none => rw [hs0] at k1; simp at k1
   | some s1 =>
    rw [hs0] at k1
    obtain ⟨v, k, mn, rfl⟩ := hslot s1 hs0
    simp [Slot.settle] at k1
    subst k1
    simp [Slot.has] at hb
  ·simp only [e, if_false] at k1
   refine ⟨by simpa using k1, ?_⟩
   simp only [List.mem_cons, not_or]
   exact ⟨fun x => e x.symm, k3⟩
structure OpAt (n : Nat) (ops : Array Oper) (i : Nat) (t : Tmps) (op : Op) : Prop where
 at_ : ∃ o, ops[i]? = some o ∧ o.op = op ∧ guardA ops t o = some true ∧ dstOk n o.dst = true
def opAt (n : Nat) (ops : Array Oper) (i : Nat) (t : Tmps) : Option Op :=
 match ops[i]? with
 | none => none
 | some o =>
  match guardA ops t o with
  | some true => if dstOk n o.dst then some o.op else none
  | _ => none
theorem opAt_spec {n : Nat} {ops : Array Oper} {i : Nat} {t : Tmps} {op : Op} (h : opAt n ops i t = some op) : OpAt n ops i t op := by
 unfold opAt at h
 split at h
 ·cases h
 ·rename_i o ho
  split at h
  ·rename_i hg
   split at h
   ·rename_i hd
    injection h with h
    exact ⟨o, ho, h, hg, hd⟩
   ·cases h
  ·cases h
theorem OpAt.lt {n : Nat} {ops : Array Oper} {i : Nat} {t : Tmps} {op : Op} (K : OpAt n ops i t op) : i < ops.size := by
 obtain ⟨o, ho, _⟩ := K.at_
 exact (Array.getElem?_eq_some_iff.1 ho).1
theorem OpAt.dst {n : Nat} {ops : Array Oper} {i : Nat} {t : Tmps} {op : Op} (K : OpAt n ops i t op) : ∀ d, (ops[i]?).bind (·.dst) = some d → d < n := by
 obtain ⟨o, ho, _, _, hd⟩ := K.at_
 intro d h
 rw [ho] at h
 simp only [Option.bind_some] at h
 rw [h] at hd
 simpa [dstOk] using hd
theorem OpAt.spec {n : Nat} {ops : Array Oper} {i : Nat} {t : Tmps} {op : Op} (K : OpAt n ops i t op) {S : Sizes} {kd : Kd} {h h' : List AO} {r : AV} (hkeep : kd ≠ .loud → h' = h)
  (hrun : ∀ (o : Oper) (ρv : Operand → Value) (C : Ctx) (h2 : List AO), o.op = op → HRel S C h2 → (kd ≠ .pure → h2 = h) → (∀ x ∈ op.operands, VRel S C (ev t x) (ρv x)) → OpOK P S o ρv C r (if kd = .loud then h' else h2)) : LSpec P S n ops i kd t h r h' := by
 refine ⟨K.lt, K.dst, hkeep, fun t2 h2 C a hl hh A Q N hN => ?_⟩
 obtain ⟨o, ho, hop, hg, hd⟩ := K.at_
 have hl' := hl o ho
 unfold wpOp
 rw [ho]
 simp only [guard_wanted hg hl' A, if_true]
 refine .inl ?_
 have hev : ∀ y ∈ op.operands, VRel S C (ev t y) (a.eval y) := by
  intro y hy
  have h1 := A.ev y
  have h2 := looks_op (hop ▸ hy) hl'
  cases y with
  | tmp j =>
   have := h2 j rfl
   simp only [evF] at h1
   rw [this] at h1
   exact h1
  | const v => exact h1
  | func g => exact h1
  | global g => exact h1
 obtain ⟨C', st, H', hr⟩ := hrun o a.eval C h2 hop A.heap hh hev
 unfold Oper.wp
 rcases hr with ⟨v, h1, h2⟩ | ⟨h1, h2⟩
 ·rw [h1]
  have := hN C' v st h2 H'
  rw [ho] at this
  exact this
 ·rw [h1]
  have := hN C' undef st (by rw [h2]; trivial) H'
  rw [ho] at this
  exact this
theorem LSpec.index (hG : G.ok P) {n : Nat} {ops : Array Oper} {i : Nat} {t : Tmps} {h : List AO} {ty e : TypeId} {x y : Operand} {rows : List AV} {full : Bool} {k : IntKind} {j : Int} {r : AV} {fs : List AV} (hop : opAt n ops i t = some (.indexAddr ty x y)) (hty : G.kind ty = .slice e) (he : (G.get e).isSome = true) {e' : TypeId} (hmk : okMark G e e' = true) (hep : epOk e e' fs = true) (hx : ev t x = .sl e' rows full) (hy : ev t y = .sc (.int k j)) (h0 : 0 ≤ j) (hr : rows[j.toNat]? = some r) (hfs : chunks r = some fs) : LSpec P G.S n ops i .pure t h (.ep fs 0 none) h :=
 (opAt_spec hop).spec (fun _ => rfl) fun o ρv C h2 ho H _ hρ => by
  have hxv := hρ x (by simp [Op.operands])
  have hyv := hρ y (by simp [Op.operands])
  rw [hx] at hxv
  rw [hy] at hyv
  have hyv := sc_inv hyv
  obtain ⟨a, c, s1, s2, s3, s4, s5, s6⟩ := sl_inv hxv
  obtain ⟨d, hd, hf⟩ := kind_desc hG hty (by simp)
  simp only [TK.fits] at hf
  subst hf
  obtain ⟨ei, hei⟩ := Option.isSome_iff_exists.1 he
  obtain ⟨dst, op, oty, pos, after, guard⟩ := o
  simp only at ho
  subst ho
  have hlt : j.toNat < rows.length := (List.getElem?_eq_some_iff.1 hr).1
  rcases s6 with s6 | ⟨b, off, s6, s7, s8⟩
  ·rw [s6] at hlt; simp at hlt
  ·rw [S_okMark hmk he] at s8
   obtain ⟨cs, m1, m2, m3, m4⟩ := RelR.get rows off j.toNat r s8 hr
   refine OpOK.same (v := .pointer (some ⟨b, off + j.toNat * (G.S e).1, none⟩)) (by simpa using H) ?_ ⟨b, off + j.toNat * (G.S e).1, cs, by simp [ixo], trivial, s7.ep hep, chunks_relV hfs m1, m3, m4⟩
   subst s6
   have hesz : (sizeOf e).run P C.w = .ok (G.S e).1 C.w := by
    rw [S_get hei]
    exact run_size (hG e ei hei) C.w
   simp only [execOp, Instr.indexAt, hyv, asIntOf, Sem.run_bind, Sem.run_pure, Result.andThen_ok, run_underlying hd, s1]
   rw [if_pos ⟨h0, by omega⟩]
   simp only [Sem.run_bind, hesz, Result.andThen_ok, Sem.run_pure, addr_add]
theorem LSpec.indexArr (hG : G.ok P) {n : Nat} {ops : Array Oper} {i : Nat} {t : Tmps} {h : List AO} {ty e : TypeId} {x y : Operand} {o off m : Nat} {k : IntKind} {j : Int} {ei : TInfo} (hop : opAt n ops i t = some (.indexAddr ty x y)) (hty : G.kind ty = .arr m e) (he : G.get e = some ei) (hsz : ei.size = 1) (hx : ev t x = .ptr o off none) (hy : ev t y = .sc (.int k j)) (h0 : 0 ≤ j) (h1 : j < m) : LSpec P G.S n ops i .pure t h (.ptr o off (some (j.toNat, m))) h :=
 (opAt_spec hop).spec (fun _ => rfl) fun op ρv C h2 ho H _ hρ => by
  have hxv := hρ x (by simp [Op.operands])
  have hyv := hρ y (by simp [Op.operands])
  rw [hx] at hxv
  rw [hy] at hyv
  have hyv := sc_inv hyv
  obtain ⟨b, k1, k2, k3⟩ := ptr_inv hxv
  obtain ⟨d, hd, hf⟩ := kind_desc hG hty (by simp)
  simp only [TK.fits] at hf
  subst hf
  obtain ⟨dst, op, oty, pos, after, guard⟩ := op
  simp only at ho
  subst ho
  refine OpOK.same (v := .pointer (some ⟨b, off + j.toNat, none⟩)) (by simpa using H) ?_ ⟨b, k1, by simp only [ixok]; omega, rfl⟩
  simp only [ixo, Nat.add_zero] at k3
  simp only [execOp, Instr.indexAt, hyv, asIntOf, Sem.run_bind, Sem.run_pure, Result.andThen_ok, run_underlying hd, k3, Instr.sureAddr]
  rw [if_pos ⟨h0, h1⟩]
  simp only [Sem.run_bind, run_size (hG e ei he), Result.andThen_ok, Sem.run_pure, addr_add, hsz, Nat.mul_one]
end Go.Sh
namespace Go.Sh
variable {P : Program} {G : Tab}
theorem src_cells {S : Sizes} {C : Ctx} {h : List AO} (H : HRel S C h) {a : AV} {v : Value} (hb : ∀ e o off n, a ≠ .bsl e o off n) {e : TypeId} {rows : List AV} {f : Bool} (hc : conv h a = some (.sl e rows f)) (r : VRel S C a v) :
  ∃ A c, v = .slice A rows.length c ∧ (rows = [] ∨ ∃ ad cells, A = some ad ∧ RelF S C.flat (S e).1 rows cells ∧ ∀ j u, cells[j]? = some u → C.w.cell? (ad.add j) = some u) := by
 have settled : ∀ {f : Bool} {v : Value}, RelV S C (.sl e rows f) [v] → ∃ A c, v = .slice A rows.length c ∧ (rows = [] ∨ ∃ ad cells, A = some ad ∧ RelF S C.flat (S e).1 rows cells ∧ ∀ j u, cells[j]? = some u → C.w.cell? (ad.add j) = some u) := by
  intro f v hr
  obtain ⟨a, c, s1, s2, s3, s4, s5, s6⟩ := hr
  refine ⟨a, c, by simpa using s1, s6.imp id ?_⟩
  rintro ⟨b, off, rfl, k2, k3⟩
  obtain ⟨cells, m1, m2⟩ := RelR.to_RelF rows off k3
  exact ⟨⟨b, off, none⟩, cells, rfl, m1, fun j u hj => by rw [addr_add]; exact m2 j u hj⟩
 unfold conv at hc
 split at hc
 ·rename_i o k
  split at hc
  ·rename_i e' rows' k' app ho
   split at hc
   ·rename_i hkk
    subst hkk
    injection hc with hc
    injection hc with h1 h2 h3
    subst h1; subst h2; subst h3
    obtain ⟨v0, kk, mn, q1, q2, q3, q4⟩ := own_inv r
    obtain ⟨o1, o2, o3, o4, o5⟩ := H.rel o _ _ ho q2
    have hv := q4 o1
    subst hv
    cases mn with
    | false => exact settled (o3 rfl)
    | true =>
     obtain ⟨_, hsz, cells, hown, hrf, _⟩ := o4 rfl
     rcases hown.2 with ⟨rfl, hn⟩ | ⟨g, off, cap, cur, fz, rfl, _⟩
     ·obtain rfl : rows' = [] := List.eq_nil_of_length_eq_zero hn
      exact ⟨none, 0, rfl, .inl rfl⟩
     ·refine ⟨_, cap, rfl, .inr ⟨⟨g, off, none⟩, cells, rfl, hrf, fun j u hj => ?_⟩⟩
      rw [addr_add]
      exact ownsG_cell hown j u hj
   ·cases hc
  ·cases hc
 ·rename_i e' o off n
  exact absurd rfl (hb e' o off n)
 ·split at hc
  ·injection hc with hc
   subst hc
   exact settled r
  ·cases hc
theorem append_zero {w : World} {ty t e : TypeId} {inf : TypeInfo} (ht : P.underlying t = some (.slice e)) (hi : P.info? e = some inf) {base A : Option Addr} {n c c2 : Nat} (hnc : n ≤ c) :
  (Builtin.append_ #[t, t] ty #[.slice base n c, .slice A 0 c2]).run P w = .ok (.slice base n c) w := by
 cases base <;> cases A <;> simp [Builtin.append_, run_underlying ht, sizeOf, typeInfo, hi, Builtin.lenOf, Builtin.firstCells, loadCells, loadCellsFrom, hnc, storeCells]
theorem RelF.one {S : Sizes} {C : Ctx} {sz : Nat} : ∀ (rows : List AV) (cells : List Value), RelF S C sz rows cells → ∀ v ∈ cells, v.oneCell' = true
 | [], cells, h => by rw [show cells = [] from h]; simp
 | r :: rs, cells, h => by
  obtain ⟨c1, c2, rfl, h2, h3, h4⟩ := h
  intro v hv
  rcases List.mem_append.1 hv with hv | hv
  ·exact RelV.one r c1 h2 v hv
  ·exact RelF.one rs c2 h4 v hv
theorem run_append_ownG {w : World} {t ty e : TypeId} {i : TypeInfo} {z : Value} {size bytes : Nat} (ht : P.underlying t = some (.slice e)) (hi : P.info? e = some i) (hz : i.zero = some z) (hsize : i.size = size) (hby : i.bytes = bytes) (hzs : z.cells.size = size) (hsz : 0 < size)
  {v : Value} {n : Nat} {xs : List Value} (hown : ownsG w e size v n xs) {ad : Addr} {m c : Nat} {news : List Value} (hl : news.length = m * size) (hnews : ∀ j u, news[j]? = some u → w.cell? (ad.add j) = some u) (h1 : ∀ u ∈ news, u.oneCell' = true) (h63 : n + m ≤ maxLen) (hbytes : (n + m) * bytes ≤ 140737488355328) :
  ∃ v' w', (Builtin.append_ #[t, t] ty #[v, .slice (some ad) m c]).run P w = .ok v' w' ∧ ownsG w' e size v' (n + m) (xs ++ news) ∧ w.grownBy w' v.ownBlock ∧ (∀ b, v'.ownBlock = some b → v.ownBlock = some b ∨ w.heap.size ≤ b) := by
 rcases hown.2 with ⟨rfl, rfl⟩ | ⟨g, off, cap, cur, fz, rfl, hg, hfz, hnc, hcm, hcs, htake⟩
 ·have hx : xs = [] := List.eq_nil_of_length_eq_zero (by simpa using hown.1)
  subst hx
  obtain ⟨v', w', g1, g2, g3, g4, g5⟩ := run_append_own_at (P := P) w 0 t ty e i z size bytes ht hi hz hsize hby hzs hsz (.slice none 0 0) 0 [] (World.ownsRow_nil w _ e size) ad m c news hl hnews h1 h63 hbytes (Nat.zero_le _)
  exact ⟨v', w', g1, ownsG_of g2, g3, fun b hb => by rcases g5 with g5 | g5 <;> rw [g5] at hb; exact .inl hb; injection hb with hb; exact .inr (by omega)⟩
 ·by_cases hroom : n + m ≤ cap
  ·subst hsize
   have hfit : off + n * i.size + news.length ≤ cur.size := by
    rw [hl]
    have : (n + m) * i.size ≤ cap * i.size := Nat.mul_le_mul_right _ hroom
    rw [Nat.add_mul] at this
    omega
   have hr := run_append_room_cells (P := P) w t ty e i ht hi g off n cap ad m c news hl hnews h1 hroom
    (fun j hj => by simp only [World.cell?, hg, Option.isSome_none, Bool.false_eq_true, if_false]; rw [Array.getElem?_eq_getElem (by omega)]; rfl)
    (fun j hj => by
     rcases hfz with rfl | hfz
     ·simp [World.frozen?, hg]
     ·obtain ⟨f1, f2⟩ := fz
      simp only at hfz
      simp only [World.frozen?, hg, Bool.and_eq_false_iff, decide_eq_false_iff_not]
      exact .inl (by omega))
   obtain ⟨cs', u1, u2⟩ := setCells_heap g e fz news (off + n * i.size) w cur hg hfit
   obtain ⟨w1, w2, w3⟩ := setCells_same g news (off + n * i.size) w
   have hcur : cs'.size = cur.size := by
    have : cs'.size = cs'.toList.length := Array.length_toList.symm
    rw [this, u2]
    simp only [List.length_append, List.length_take, List.length_drop, Array.length_toList]
    omega
   refine ⟨_, _, hr, ⟨?_, .inr ⟨g, off, cap, cs', fz, rfl, u1, by rw [hcur]; exact hfz, hroom, hcm, by rw [hcur]; exact hcs, ?_⟩⟩, ⟨w1, w2, w3, by rw [setCells_size]; exact Nat.le_refl _, fun k _ hk => setCells_other g _ _ w k (fun e => hk (by simp [Value.ownBlock, e]))⟩, fun b hb => .inl hb⟩
   ·rw [List.length_append, hown.1, hl, Nat.add_mul]
   ·rw [u2, List.append_assoc, List.drop_append]
    have hlc : cur.toList.length = cur.size := Array.length_toList
    have hx : xs.length = n * i.size := hown.1
    rw [show off - (cur.toList.take (off + n * i.size)).length = 0 by rw [List.length_take]; omega, List.drop_zero, List.drop_take, show off + n * i.size - off = n * i.size by omega, htake, ← List.append_assoc]
    rw [List.take_append_of_le_length (by rw [List.length_append, hx, hl, Nat.add_mul]; exact Nat.le_refl _)]
    exact List.take_of_length_le (by rw [List.length_append, hx, hl, Nat.add_mul]; exact Nat.le_refl _)
  ·have holds : ∀ j u, xs[j]? = some u → w.cell? ((⟨g, off, none⟩ : Addr).add j) = some u := fun j u hj => by rw [addr_add]; exact ownsG_cell hown j u hj
   obtain ⟨v', w', g1, g2, g3⟩ := run_append_arg_grows (P := P) w t ty e i z size bytes ht hi hz hsize hby hzs hsz ⟨g, off, none⟩ n cap xs hown.1 holds ad m c news hl hnews (by omega) h63 hbytes
   refine ⟨v', w', g1, ownsG_of g2, ⟨g3.os, g3.tape, g3.output, g3.size, fun k hk _ => g3.block k hk (by simp)⟩, fun b hb => .inr ?_⟩
   rcases g2.2 with ⟨rfl, h0⟩ | ⟨g', cap', cur', rfl, hb', hh', _⟩
   ·simp [Value.ownBlock] at hb
   ·have : g' = b := by simpa [Value.ownBlock] using hb
    omega
theorem append_run (hG : G.ok P) {e t ty : TypeId} {ei : TInfo} (ht : P.underlying t = some (.slice e)) (he : G.get e = some ei) (hsz : 0 < ei.size) (hby : 0 < ei.bytes) {C : Ctx} {h : List AO} (H : HRel G.S C h) {o k : Nat} {rows rows2 : List AV} (ho : h[o]? = some (.row e rows k true)) {v : Value} (hv : VRel G.S C (.own o k) v)
  {a : AV} {xv : Value} (hnb : ∀ e o off n, a ≠ .bsl e o off n) {f : Bool} {e' : TypeId} (hmk : okMark G e e' = true) (hconv : conv h a = some (.sl e' rows2 f)) (hx : VRel G.S C a xv) (hbound : (rows.length + rows2.length) * ei.bytes ≤ reach) {k' : Nat} (hk' : k < k') (hB : 1000000 ≤ k' → 1000000 ≤ k ∨ rows = []) :
  ∃ v' C', (Builtin.append_ #[t, t] ty #[v, xv]).run P C.w = .ok v' C'.w ∧ Step C C' ∧ HRel G.S C' (h.set o (.row e (rows ++ rows2) k' true)) ∧ VRel G.S C' (.own o k') v' := by
 obtain ⟨inf, z, k1, k2, k3, k4, k4', k5⟩ := (hG e ei he).info
 obtain ⟨v0, kk, mn, q1, q2, q3, q4⟩ := own_inv hv
 obtain ⟨o1, o2, o3, o4, o5⟩ := H.rel o _ _ ho q2
 subst o1
 have hvv := q4 rfl
 subst hvv
 have hS : G.S e = (ei.size, ei.bytes) := S_get he
 have hol : o < C.m.length := (List.getElem?_eq_some_iff.1 q2).1
 have hbound2 : (rows ++ rows2).length * (G.S e).2 ≤ reach := by rw [hS, List.length_append]; exact hbound
 have hlen63 : rows.length + rows2.length ≤ maxLen := by
  have h1 : rows.length + rows2.length ≤ (rows.length + rows2.length) * ei.bytes := Nat.le_mul_of_pos_right _ hby
  simp only [maxLen]
  have : (rows.length + rows2.length) * ei.bytes ≤ 140737488355328 := hbound
  omega
 obtain ⟨A, c, s1, s2⟩ := src_cells H hnb hconv hx
 rw [S_okMark hmk (by rw [he]; rfl)] at s2
 have close : ∀ (v' : Value) (w' : World) (mn' : Bool) (row : Option Nat), C.w.grownBy w' row → (∀ b, ¬ (Slot.row v k mn).has b → some b ≠ row ∨ w'.heap[b]? = C.w.heap[b]?) → (mn' = true → ∀ b, v'.ownBlock = some b → (Slot.row v k mn).has b ∨ C.w.heap.size ≤ b) → v'.oneCell' = true →
   (∀ C' : Ctx, C'.w = w' → Step C C' → ORel G.S C' (.row e (rows ++ rows2) k' true) (.row v' k' mn')) →
   Step C ⟨w', C.m.set o (.row v' k' mn'), C.X⟩ ∧ HRel G.S ⟨w', C.m.set o (.row v' k' mn'), C.X⟩ (h.set o (.row e (rows ++ rows2) k' true)) ∧ VRel G.S ⟨w', C.m.set o (.row v' k' mn'), C.X⟩ (.own o k') v' := by
  intro v' w' mn' row hgb hrow hfr h1c hor
  obtain ⟨st, hh⟩ := HRel.upd (S := G.S) (C' := ⟨w', C.m.set o (.row v' k' mn'), C.X⟩) (s' := .row v' k' mn') (ob := .row e (rows ++ rows2) k' true) H q2 ⟨v', k', mn', rfl, .inl hk'⟩ hgb.size hgb.os hgb.tape hgb.output
   (fun b hb hne => by
    rcases hrow b hne with h1 | h1
    ·exact hgb.block b hb h1
    ·exact h1) rfl rfl (fun b hb => by
    cases mn' with
    | false => simp [Slot.has] at hb
    | true => exact hfr rfl b (by simpa [Slot.has] using hb))
  refine ⟨st, hh (hor _ rfl st), ⟨v', v', k', mn', rfl, h1c, ?_, Nat.le_refl _, fun _ => rfl⟩⟩
  show (C.m.set o _)[o]? = _
  rw [List.getElem?_set_self hol]
 by_cases hz : rows2 = []
 ·subst hz
  obtain ⟨_, a0, c0, q6⟩ := row_slice H ho q2
  have hcap : rows.length ≤ c0 := by
   cases mn with
   | false =>
    obtain ⟨a1, c1, t1, t2, _⟩ := o3 rfl
    rw [q6] at t1
    simp at t1
    omega
   | true =>
    obtain ⟨_, _, cells, hown, _⟩ := o4 rfl
    rcases hown.2 with ⟨t1, t2⟩ | ⟨g, off, cap, cur, fz, t1, _, _, t2, _⟩
    ·omega
    ·rw [q6] at t1
     injection t1 with _ _ t1
     omega
  have hrun := append_zero (P := P) (w := C.w) (ty := ty) ht k1 (base := a0) (A := A) (n := rows.length) (c := c0) (c2 := c) hcap
  refine ⟨v, ⟨C.w, C.m.set o (.row v k' mn), C.X⟩, ?_, ?_⟩
  ·rw [s1, q6]
   exact hrun
  ·refine close v C.w mn none ⟨rfl, rfl, rfl, Nat.le_refl _, fun _ _ _ => rfl⟩ (fun b _ => .inl (by simp)) (fun hm b hb => .inl (by simp [Slot.has, hm, hb])) (by rw [q6]; rfl) fun C' hw st => ?_
   rw [List.append_nil]
   have hor := H.rel o _ _ ho q2
   refine ⟨rfl, o2, fun hm => RelV.step st _ _ (o3 hm), fun hm => ?_, fun hk hap hm => by
    rcases hB hk with h1 | h1
    ·exact o5 h1 rfl hm
    ·exact h1⟩
   obtain ⟨t0, t1, cells, t2, t3, t4⟩ := o4 hm
   exact ⟨t0, t1, cells, by rw [hw]; exact t2, t3.mono st.mono.flat, fun hx => by rw [hw]; exact t4 (by omega)⟩
 ·rcases s2 with s2 | ⟨ad, news, rfl, hrf2, hnews⟩
  ·exact absurd s2 hz
  ·have hnl : news.length = rows2.length * ei.size := by rw [hrf2.len, hS]
   have hpos : 0 < rows2.length := List.length_pos_iff.2 hz
   cases mn with
   | true =>
    obtain ⟨_, hsz', cells, hown, hrf, hex⟩ := o4 rfl
    rw [hS] at hown hrf hrf2 hex
    obtain ⟨v', w', g1, g2, g3, g5, g6⟩ : ∃ v' w', (Builtin.append_ #[t, t] ty #[v, .slice (some ad) rows2.length c]).run P C.w = .ok v' w' ∧ ownsG w' e ei.size v' (rows.length + rows2.length) (cells ++ news) ∧ C.w.grownBy w' v.ownBlock ∧ (∀ b, v'.ownBlock = some b → v.ownBlock = some b ∨ C.w.heap.size ≤ b) ∧ (k' < 2000000 → w'.ownsRow 0 e ei.size v' (rows.length + rows2.length) (cells ++ news)) := by
     by_cases hk2 : k' < 2000000
     ·obtain ⟨v', w', g1, g2, g3, g4, g5⟩ := run_append_own_at (P := P) C.w 0 t ty e inf z ei.size ei.bytes ht k1 k4 k2 k3 k4' hsz v rows.length cells (hex (by omega)) ad rows2.length c news hnl hnews (RelF.one _ _ hrf2) hlen63 hbound (Nat.zero_le _)
      exact ⟨v', w', g1, ownsG_of g2, g3, fun b hb => by rcases g5 with g5 | g5 <;> rw [g5] at hb; exact .inl hb; injection hb with hb; exact .inr (by omega), fun _ => g2⟩
     ·obtain ⟨v', w', g1, g2, g3, g5⟩ := run_append_ownG (P := P) (w := C.w) ht k1 k4 k2 k3 k4' hsz hown (ty := ty) (ad := ad) (c := c) hnl hnews (RelF.one _ _ hrf2) hlen63 hbound
      exact ⟨v', w', g1, g2, g3, g5, fun h => absurd h hk2⟩
    refine ⟨v', ⟨w', C.m.set o (.row v' k' true), C.X⟩, by rw [s1]; exact g1, ?_⟩
    refine close v' w' true v.ownBlock g3 (fun b hb => .inl fun e => hb (by simp [Slot.has, ← e])) (fun _ b hb => ?_) (ownsG_one g2) fun C' hw st => ?_
    ·rcases g5 b hb with g5 | g5
     ·exact .inl (by simp only [Slot.has, if_true]; exact g5)
     ·exact .inr g5
    ·refine ⟨rfl, hbound2, by simp, fun _ => ⟨⟨rfl, (hG e ei he).lt⟩, by rw [hS]; exact hsz, cells ++ news, ?_, ?_, ?_⟩, fun _ _ hm => by cases hm⟩
     ·rw [hS, hw, List.length_append]; exact g2
     ·rw [hS]
      exact (hrf.mono st.mono.flat).append _ _ _ _ (hrf2.mono st.mono.flat)
     ·rw [hS, hw, List.length_append]; exact g6
   | false =>
    obtain ⟨a1, c1, t1, t2, t3, t4, t5, t6⟩ := o3 rfl
    have t1 : v = .slice a1 rows.length c1 := by simpa using t1
    have t3 := t3 rfl
    subst t3
    rw [hS] at hrf2
    have fresh : ∀ (v' : Value) (w' : World) (cells : List Value), (Builtin.append_ #[t, t] ty #[v, xv]).run P C.w = .ok v' w' → w'.ownsRow C.w.heap.size e ei.size v' (rows.length + rows2.length) (cells ++ news) → C.w.grownBy w' none → RelF G.S C.flat ei.size rows cells →
      ∃ v' C', (Builtin.append_ #[t, t] ty #[v, xv]).run P C.w = .ok v' C'.w ∧ Step C C' ∧ HRel G.S C' (h.set o (.row e (rows ++ rows2) k' true)) ∧ VRel G.S C' (.own o k') v' := by
     intro v' w' cells g1 g2 g3 hrf
     refine ⟨v', ⟨w', C.m.set o (.row v' k' true), C.X⟩, g1, ?_⟩
     refine close v' w' true none g3 (fun b hb => .inl (by simp)) (fun _ b hb => .inr ?_) ?_ fun C' hw st => ?_
     ·rcases g2.2 with ⟨rfl, _⟩ | ⟨g, cap, cur, rfl, hg, _⟩
      ·simp [Value.ownBlock] at hb
      ·have : g = b := by simpa [Value.ownBlock] using hb
       omega
     ·rcases g2.2 with ⟨rfl, _⟩ | ⟨g, cap, cur, rfl, _⟩ <;> rfl
     ·have g2' : w'.ownsRow 0 e ei.size v' (rows.length + rows2.length) (cells ++ news) := by
       obtain ⟨u1, u2⟩ := g2
       refine ⟨u1, u2.imp id ?_⟩
       rintro ⟨g, cap, cur, w1, w2, w3⟩
       exact ⟨g, cap, cur, w1, Nat.zero_le _, w3⟩
      refine ⟨rfl, hbound2, by simp, fun _ => ⟨⟨rfl, (hG e ei he).lt⟩, by rw [hS]; exact hsz, cells ++ news, ?_, ?_, ?_⟩, fun _ _ hm => by cases hm⟩
      ·rw [hS, hw, List.length_append]
       exact ownsG_of g2'
      ·rw [hS]
       exact (hrf.mono st.mono.flat).append _ _ _ _ (hrf2.mono st.mono.flat)
      ·rw [hS, hw, List.length_append]
       exact fun _ => g2'
    rcases t6 with t6 | ⟨b, off, rfl, t7, t8⟩
    ·subst t6
     cases a1 with
     | none =>
      obtain ⟨v', w', g1, g2, g3, g4, g5⟩ := run_append_own_at (P := P) C.w C.w.heap.size t ty e inf z ei.size ei.bytes ht k1 k4 k2 k3 k4' hsz (.slice none 0 0) 0 [] ⟨by simp, .inl ⟨rfl, rfl⟩⟩ ad rows2.length c news hnl hnews (RelF.one _ _ hrf2) (by simpa using hlen63) (by simpa using hbound) (Nat.le_refl _)
      refine fresh v' w' [] (by rw [s1, t1]; exact g1) (by simpa using g2) (by simpa [Value.ownBlock] using g3) rfl
     | some a2 =>
      obtain ⟨v', w', g1, g2, g3⟩ := run_append_arg_grows (P := P) C.w t ty e inf z ei.size ei.bytes ht k1 k4 k2 k3 k4' hsz a2 0 0 [] (by simp) (by simp) ad rows2.length c news hnl hnews (by omega) (by simpa using hlen63) (by simpa using hbound)
      exact fresh v' w' [] (by rw [s1, t1]; exact g1) (by simpa using g2) g3 rfl
    ·obtain ⟨cells, m1, m2⟩ := RelR.to_RelF rows off t8
     rw [hS] at m1
     obtain ⟨v', w', g1, g2, g3⟩ := run_append_arg_grows (P := P) C.w t ty e inf z ei.size ei.bytes ht k1 k4 k2 k3 k4' hsz ⟨b, off, none⟩ rows.length rows.length cells m1.len (fun j u hj => by rw [addr_add]; exact m2 j u hj) ad rows2.length c news hnl hnews (by omega) hlen63 hbound
     exact fresh v' w' cells (by rw [s1, t1]; exact g1) g2 g3 m1
theorem LSpec.append (hG : G.ok P) {n : Nat} {ops : Array Oper} {i : Nat} {t : Tmps} {h : List AO} {ty e : TypeId} {x y : Operand} {o k : Nat} {rows rows2 : List AV} {f : Bool} {ei : TInfo} (hop : opAt n ops i t = some (.call { callee := .builtin .append, args := #[x, y], argTypes := #[ty, ty] })) (hty : G.kind ty = .slice e) (he : G.get e = some ei) (hsz : 0 < ei.size) (hby : 0 < ei.bytes)
  (hx : ev t x = .own o k) (ho : h[o]? = some (.row e rows k true)) {e' : TypeId} (hmk : okMark G e e' = true) (hy : conv h (ev t y) = some (.sl e' rows2 f)) (hnb : bslOk (fun _ => (0, 0)) (ev t y) = true) (hbound : (rows.length + rows2.length) * ei.bytes ≤ reach) {k' : Nat} (hk' : k < k') (hB : 1000000 ≤ k' → 1000000 ≤ k ∨ rows = []) : LSpec P G.S n ops i .loud t h (.own o k') (h.set o (.row e (rows ++ rows2) k' true)) :=
 (opAt_spec hop).spec (fun hh => absurd rfl hh) fun op ρv C h2 hoq H hh hρ => by
  have hh := hh (by simp)
  subst hh
  have hxv := hρ x (by simp [Op.operands, Call.operands])
  have hyv := hρ y (by simp [Op.operands, Call.operands])
  rw [hx] at hxv
  obtain ⟨d, hd, hf⟩ := kind_desc hG hty (by simp)
  simp only [TK.fits] at hf
  subst hf
  obtain ⟨dst, op, oty, pos, after, guard⟩ := op
  simp only at hoq
  subst hoq
  obtain ⟨v', C', g1, g2, g3, g4⟩ := append_run hG (ty := oty) hd he hsz hby H ho hxv (fun e o off n hc => by rw [hc] at hnb; simp [bslOk] at hnb) hmk hy hyv hbound hk' hB
  refine ⟨C', g2, by simpa using g3, .inl ⟨v', ?_, g4⟩⟩
  simp only [execOp, resolve, Sem.run_bind, Sem.run_pure, Result.andThen_ok, invoke, builtin, List.map_toArray, List.map_cons, List.map_nil, g1]
end Go.Sh