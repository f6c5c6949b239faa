import Derived.Calls
import Derived.Below
import Derived.Maps.AppendAt
import Derived.Laws.IdiomCopy
import Derived.Laws.Cells
import Derived.KernelRfl
set_option linter.unusedVariables false
namespace Go.Sh
/-! ### Abstract values -/
inductive AV where
  | u
  | sc (v : Value)
  | arr (k : IntKind) (n : Nat) (xs : List Int)
  | agg (fs : List AV)
  | sl (e : TypeId) (rows : List AV) (full : Bool)
  | own (o k : Nat)
  | ptr (o off : Nat) (ix : Option (Nat × Nat))
  | ep (fs : List AV) (off : Nat) (ix : Option (Nat × Nat))
  | el (e : TypeId) (o k i off : Nat)
  | bsl (e : TypeId) (o off n : Nat)
  | fn (f : FuncId) (caps : List AV)
  | tup (vs : List AV)
  deriving Inhabited

inductive Slot where
  | gone
  | blk (b : Nat)
  | row (v : Value) (k : Nat) (mine : Bool)

def Slot.block : Slot → Option Nat
  | .gone => none
  | .blk b => some b
  | .row v _ mine => if mine then v.ownBlock else none

structure Ctx where
  w : World
  m : List Slot
  X : Nat → Prop

/-- a block that no slot holds and that is not kept from us -/
def Ctx.ok (C : Ctx) (b : Nat) : Prop := ¬ C.X b ∧ ∀ s ∈ C.m, s.block ≠ some b

/-- the same memory, without the slots: their blocks are kept from us -/
def Ctx.flat (C : Ctx) : Ctx := ⟨C.w, [], fun b => C.X b ∨ ∃ s ∈ C.m, s.block = some b⟩

theorem Ctx.flat_ok (C : Ctx) (b : Nat) : C.flat.ok b ↔ C.ok b := by
  unfold Ctx.ok Ctx.flat
  constructor
  · rintro ⟨h, _⟩
    exact ⟨fun hx => h (.inl hx), fun s hs e => h (.inr ⟨s, hs, e⟩)⟩
  · rintro ⟨h1, h2⟩
    refine ⟨fun h => ?_, by simp⟩
    rcases h with h | ⟨s, hs, e⟩
    · exact h1 h
    · exact h2 s hs e

theorem Ctx.flat_flat (C : Ctx) : C.flat.flat = C.flat := by
  unfold Ctx.flat
  congr 1
  funext b
  simp

abbrev reach : Nat := 140737488355328

abbrev Sizes := TypeId → Nat × Nat
def ixo : Option (Nat × Nat) → Nat
  | some (i, _) => i
  | none => 0
def ixok : Option (Nat × Nat) → Prop
  | some (i, n) => i < n
  | none => True

mutual
def RelV (S : Sizes) : Ctx → AV → List Value → Prop
  | _, .u, _ => False
  | _, .sc v, cs => cs = [v] ∧ v.oneCell' = true
  | _, .arr k n xs, cs => xs.length = n ∧ cs = xs.map (Value.int k)
  | C, .agg fs, cs => RelL S C fs cs
  | C, .sl e rows full, cs => ∃ a c, cs = [.slice a rows.length c] ∧ rows.length ≤ c ∧ (full = true → c = rows.length) ∧ c ≤ maxLen ∧ rows.length * (S e).2 ≤ reach ∧
      (rows = [] ∨ ∃ b off, a = some ⟨b, off, none⟩ ∧ C.ok b ∧ RelR S C.flat b (S e).1 rows off)
  | C, .own o k, cs => ∃ v' v kk mn, cs = [v'] ∧ v'.oneCell' = true ∧ C.m[o]? = some (.row v kk mn) ∧ k ≤ kk ∧ (k = kk → v' = v)
  | C, .ptr o off ix, cs => ∃ b, C.m[o]? = some (.blk b) ∧ ixok ix ∧ cs = [.pointer (some ⟨b, off + ixo ix, none⟩)]
  | C, .ep fs off ix, cs => ∃ b o0 cells, cs = [.pointer (some ⟨b, o0 + (off + ixo ix), none⟩)] ∧ ixok ix ∧ C.ok b ∧ RelL S C.flat fs cells ∧ cells ≠ [] ∧
      ∀ j v, cells[j]? = some v → C.w.cell? ⟨b, o0 + j, none⟩ = some v
  | C, .el e o k i off, cs => ∃ p v kk mn, cs = [p] ∧ p.oneCell' = true ∧ C.m[o]? = some (.row v kk mn) ∧ k ≤ kk ∧
      (k = kk → ∃ g n c, v = .slice (some ⟨g, 0, none⟩) n c ∧ i < n ∧ p = .pointer (some ⟨g, i * (S e).1 + off, none⟩))
  | C, .bsl _ o off n, cs => ∃ b, C.m[o]? = some (.blk b) ∧ cs = [.slice (some ⟨b, off, none⟩) n n]
  | C, .fn f caps, cs => ∃ vs, cs = [.func (.func f) #[] vs] ∧ RelL S C caps vs.toList
  | _, .tup vs, _ => False
def RelL (S : Sizes) : Ctx → List AV → List Value → Prop
  | _, [], cs => cs = []
  | C, f :: fs, cs => ∃ c1 c2, cs = c1 ++ c2 ∧ RelV S C f c1 ∧ RelL S C fs c2
def RelR (S : Sizes) : Ctx → (b sz : Nat) → List AV → Nat → Prop
  | _, _, _, [], _ => True
  | C, b, sz, r :: rs, off => (∃ cs, RelV S C r cs ∧ cs.length = sz ∧ cs ≠ [] ∧ ∀ j v, cs[j]? = some v → C.w.cell? ⟨b, off + j, none⟩ = some v) ∧ RelR S C b sz rs (off + sz)
end

/-- values, aggregates apart -/
def VRel1 (S : Sizes) (C : Ctx) : AV → Value → Prop
  | .u, _ => True
  | .agg fs, v => ∃ cs, v = .agg cs ∧ RelL S C fs cs.toList
  | .arr k n xs, v => xs.length = n ∧ v = .agg (xs.map (Value.int k)).toArray
  | .tup _, _ => False
  | a, v => RelV S C a [v]

inductive VRels (S : Sizes) (C : Ctx) : List AV → List Value → Prop
  | nil : VRels S C [] []
  | cons {a : AV} {v : Value} {as : List AV} {vs : List Value} : VRel1 S C a v → VRels S C as vs → VRels S C (a :: as) (v :: vs)

def VRel (S : Sizes) (C : Ctx) : AV → Value → Prop
  | .tup vs, v => ∃ l, v = .tuple l ∧ VRels S C vs l.toList
  | a, v => VRel1 S C a v

/-! ### Steps of the world -/
def Slot.le : Slot → Slot → Prop
  | .gone, s => s = .gone
  | .blk b, s => s = .blk b
  | .row v k mn, s => ∃ v' k' mn', s = .row v' k' mn' ∧ (k < k' ∨ (k = k' ∧ v = v'))

theorem Slot.le_refl (s : Slot) : s.le s := by
  cases s with
  | gone => rfl
  | blk b => rfl
  | row v k mn => exact ⟨v, k, mn, rfl, .inr ⟨rfl, rfl⟩⟩

theorem Slot.le_trans {a b c : Slot} (h : a.le b) (k : b.le c) : a.le c := by
  cases a with
  | gone => cases h; exact k
  | blk x => cases h; exact k
  | row v n mn =>
    obtain ⟨v', n', mn', rfl, h⟩ := h
    obtain ⟨v'', n'', mn'', rfl, k⟩ := k
    refine ⟨v'', n'', mn'', rfl, ?_⟩
    rcases h with h | ⟨rfl, rfl⟩
    · rcases k with k | ⟨rfl, rfl⟩
      · exact .inl (by omega)
      · exact .inl h
    · exact k

structure Step (C C' : Ctx) : Prop where
  os : C'.w.os = C.w.os
  tape : C'.w.tape = C.w.tape
  output : C'.w.output = C.w.output
  size : C.w.heap.size ≤ C'.w.heap.size
  block : ∀ b, b < C.w.heap.size → (∀ s ∈ C.m, s.block ≠ some b) → C'.w.heap[b]? = C.w.heap[b]?
  ok : ∀ b, b < C.w.heap.size → C.ok b → C'.ok b
  fresh : ∀ b, b < C.w.heap.size → (∀ s ∈ C.m, s.block ≠ some b) → ∀ s ∈ C'.m, s.block ≠ some b
  slot : ∀ (o : Nat) (s : Slot), C.m[o]? = some s → ∃ s', C'.m[o]? = some s' ∧ s.le s'
  X : C'.X = C.X

theorem Step.refl (C : Ctx) : Step C C := ⟨rfl, rfl, rfl, Nat.le_refl _, fun _ _ _ => rfl, fun _ _ h => h, fun _ _ h => h, fun _ s h => ⟨s, h, s.le_refl⟩, rfl⟩

theorem Step.trans {A B C : Ctx} (h : Step A B) (k : Step B C) : Step A C where
  os := k.os.trans h.os
  tape := k.tape.trans h.tape
  output := k.output.trans h.output
  size := Nat.le_trans h.size k.size
  block := fun b hb hn => (k.block b (Nat.lt_of_lt_of_le hb h.size) (h.fresh b hb hn)).trans (h.block b hb hn)
  ok := fun b hb ho => k.ok b (Nat.lt_of_lt_of_le hb h.size) (h.ok b hb ho)
  fresh := fun b hb hn => k.fresh b (Nat.lt_of_lt_of_le hb h.size) (h.fresh b hb hn)
  slot := fun o s hs => by
    obtain ⟨s', hs', hl⟩ := h.slot o s hs
    obtain ⟨s'', hs'', hl'⟩ := k.slot o s' hs'
    exact ⟨s'', hs'', Slot.le_trans hl hl'⟩
  X := k.X.trans h.X

/-- what may be read stays as it was -/
structure Mono (C C' : Ctx) : Prop where
  size : C.w.heap.size ≤ C'.w.heap.size
  block : ∀ b, b < C.w.heap.size → C.ok b → C'.w.heap[b]? = C.w.heap[b]?
  ok : ∀ b, b < C.w.heap.size → C.ok b → C'.ok b
  slot : ∀ (o : Nat) (s : Slot), C.m[o]? = some s → ∃ s', C'.m[o]? = some s' ∧ s.le s'

theorem Step.mono {C C' : Ctx} (h : Step C C') : Mono C C' := ⟨h.size, fun b hb ho => h.block b hb ho.2, h.ok, h.slot⟩
theorem Mono.flat {C C' : Ctx} (h : Mono C C') : Mono C.flat C'.flat :=
  ⟨h.size, fun b hb ho => h.block b hb ((C.flat_ok b).1 ho), fun b hb ho => (C'.flat_ok b).2 (h.ok b hb ((C.flat_ok b).1 ho)), fun o s hs => by simp [Ctx.flat] at hs⟩
theorem Mono.unflat (C : Ctx) : Mono C.flat C :=
  ⟨Nat.le_refl _, fun _ _ _ => rfl, fun b _ ho => (C.flat_ok b).1 ho, fun o s hs => by simp [Ctx.flat] at hs⟩

theorem Mono.cell {C C' : Ctx} (h : Mono C C') {a : Addr} {v : Value} (hok : C.ok a.block) (hc : C.w.cell? a = some v) : C'.w.cell? a = some v := by
  have hb := World.block_lt_of_cell? C.w a hc
  rw [World.cell?_of_block (h.block a.block hb hok)]
  exact hc

mutual
theorem RelV.mono {S : Sizes} {C C' : Ctx} (h : Mono C C') : ∀ (a : AV) (cs : List Value), RelV S C a cs → RelV S C' a cs
  | .u, _, r => r.elim
  | .sc v, cs, r => r
  | .arr k n xs, cs, r => r
  | .agg fs, cs, r => RelL.mono h fs cs r
  | .sl e rows full, cs, r => by
    obtain ⟨a, c, h1, h2, h3, h4, h5, h6⟩ := r
    refine ⟨a, c, h1, h2, h3, h4, h5, ?_⟩
    rcases h6 with h6 | ⟨b, off, h6, h7, h8⟩
    · exact .inl h6
    · cases rows with
      | nil => exact .inl rfl
      | cons r0 rs =>
        refine .inr ⟨b, off, h6, ?_, RelR.mono h.flat b _ (r0 :: rs) off ((C.flat_ok b).2 h7) h8⟩
        obtain ⟨⟨cs', hr, hl, hne, hc⟩, _⟩ := h8
        have : 0 < cs'.length := List.length_pos_iff.2 hne
        have hcell := hc 0 cs'[0] (by simp)
        exact h.ok b (World.block_lt_of_cell? C.w _ hcell) h7
  | .own o k, cs, r => by
    obtain ⟨v', v, kk, mn, h1, h2, h3, h4, h5⟩ := r
    obtain ⟨s', hs', hle⟩ := h.slot o _ h3
    obtain ⟨v2, k2, mn2, rfl, hk⟩ := hle
    refine ⟨v', v2, k2, mn2, h1, h2, hs', ?_, ?_⟩
    · rcases hk with hk | ⟨rfl, rfl⟩ <;> omega
    · intro e
      rcases hk with hk | ⟨rfl, rfl⟩
      · omega
      · exact h5 e
  | .ptr o off ix, cs, r => by
    obtain ⟨b, h1, h2⟩ := r
    obtain ⟨s', hs', hle⟩ := h.slot o _ h1
    cases hle
    exact ⟨b, hs', h2⟩
  | .el e o k i off, cs, r => by
    obtain ⟨p, v, kk, mn, h1, h2, h3, h4, h5⟩ := r
    obtain ⟨s', hs', hle⟩ := h.slot o _ h3
    obtain ⟨v2, k2, mn2, rfl, hk⟩ := hle
    refine ⟨p, v2, k2, mn2, h1, h2, hs', ?_, ?_⟩
    · rcases hk with hk | ⟨rfl, rfl⟩ <;> omega
    · intro e
      rcases hk with hk | ⟨rfl, rfl⟩
      · omega
      · exact h5 e
  | .bsl e o off n, cs, r => by
    obtain ⟨b, h1, h2⟩ := r
    obtain ⟨s', hs', hle⟩ := h.slot o _ h1
    cases hle
    exact ⟨b, hs', h2⟩
  | .ep fs off ix, cs, r => by
    obtain ⟨b, o0, cells, h1, hi, h2, h3, h4, h5⟩ := r
    refine ⟨b, o0, cells, h1, hi, ?_, RelL.mono h.flat fs cells h3, h4, fun j v hj => h.cell (a := ⟨b, o0 + j, none⟩) h2 (h5 j v hj)⟩
    have : 0 < cells.length := List.length_pos_iff.2 h4
    have hcell := h5 0 cells[0] (by simp)
    exact h.ok b (World.block_lt_of_cell? C.w _ hcell) h2
  | .fn f caps, cs, r => by
    obtain ⟨vs, h1, h2⟩ := r
    exact ⟨vs, h1, RelL.mono h caps _ h2⟩
  | .tup vs, _, r => r.elim
theorem RelL.mono {S : Sizes} {C C' : Ctx} (h : Mono C C') : ∀ (fs : List AV) (cs : List Value), RelL S C fs cs → RelL S C' fs cs
  | [], _, r => r
  | f :: fs, cs, r => by
    obtain ⟨c1, c2, h1, h2, h3⟩ := r
    exact ⟨c1, c2, h1, RelV.mono h f c1 h2, RelL.mono h fs c2 h3⟩
theorem RelR.mono {S : Sizes} {C C' : Ctx} (h : Mono C C') (b sz : Nat) : ∀ (rs : List AV) (off : Nat), C.ok b → RelR S C b sz rs off → RelR S C' b sz rs off
  | [], _, _, _ => trivial
  | r :: rs, off, hok, hr => by
    obtain ⟨⟨cs, h1, h2, h3, h4⟩, h5⟩ := hr
    exact ⟨⟨cs, RelV.mono h r cs h1, h2, h3, fun j v hj => h.cell (a := ⟨b, off + j, none⟩) hok (h4 j v hj)⟩, RelR.mono h b sz rs _ hok h5⟩
end

theorem RelV.step {S : Sizes} {C C' : Ctx} (h : Step C C') (a : AV) (cs : List Value) (r : RelV S C a cs) : RelV S C' a cs := RelV.mono h.mono a cs r
theorem RelL.step {S : Sizes} {C C' : Ctx} (h : Step C C') (fs : List AV) (cs : List Value) (r : RelL S C fs cs) : RelL S C' fs cs := RelL.mono h.mono fs cs r

theorem VRel1.mono {S : Sizes} {C C' : Ctx} (h : Mono C C') {a : AV} {v : Value} (r : VRel1 S C a v) : VRel1 S C' a v := by
  cases a with
  | u => trivial
  | agg fs => obtain ⟨cs, h1, h2⟩ := r; exact ⟨cs, h1, RelL.mono h _ _ h2⟩
  | arr k n xs => exact r
  | tup vs => exact r.elim
  | sc w => exact RelV.mono h _ _ r
  | sl e rows full => exact RelV.mono h _ _ r
  | own o k => exact RelV.mono h _ _ r
  | ptr o off ix => exact RelV.mono h _ _ r
  | ep fs off ix => exact RelV.mono h _ _ r
  | el e o k i off => exact RelV.mono h _ _ r
  | bsl e o off n => exact RelV.mono h _ _ r
  | fn f caps => exact RelV.mono h _ _ r

theorem VRels.mono {S : Sizes} {C C' : Ctx} (h : Mono C C') {as : List AV} {vs : List Value} (r : VRels S C as vs) : VRels S C' as vs := by
  induction r with
  | nil => exact .nil
  | cons h1 _ ih => exact .cons (h1.mono h) ih

theorem VRel.mono {S : Sizes} {C C' : Ctx} (h : Mono C C') {a : AV} {v : Value} (r : VRel S C a v) : VRel S C' a v := by
  cases a with
  | tup vs => obtain ⟨l, h1, h2⟩ := r; exact ⟨l, h1, h2.mono h⟩
  | u => trivial
  | agg fs => exact VRel1.mono (S := S) (a := .agg fs) h r
  | arr k n xs => exact r
  | sc w => exact VRel1.mono (S := S) (a := .sc w) h r
  | sl e rows full => exact VRel1.mono (S := S) (a := .sl e rows full) h r
  | own o k => exact VRel1.mono (S := S) (a := .own o k) h r
  | ptr o off ix => exact VRel1.mono (S := S) (a := .ptr o off ix) h r
  | ep fs off ix => exact VRel1.mono (S := S) (a := .ep fs off ix) h r
  | el e o k i off => exact VRel1.mono (S := S) (a := .el e o k i off) h r
  | bsl e o off n => exact VRel1.mono (S := S) (a := .bsl e o off n) h r
  | fn f caps => exact VRel1.mono (S := S) (a := .fn f caps) h r


theorem VRel.step {S : Sizes} {C C' : Ctx} (h : Step C C') {a : AV} {v : Value} (r : VRel S C a v) : VRel S C' a v := r.mono h.mono

/-! ### Values that name no slot -/
mutual
def plainA : AV → Bool
  | .sc _ | .arr .. | .sl .. | .ep .. => true
  | .agg fs => plainL fs
  | .fn _ caps => plainL caps
  | _ => false
def plainL : List AV → Bool
  | [] => true
  | f :: fs => plainA f && plainL fs
end

structure Under (C D : Ctx) : Prop where
  w : D.w = C.w
  ok : ∀ b, C.ok b → D.ok b

theorem Under.flat {C D : Ctx} (h : Under C D) : Mono C.flat D.flat := by
  refine ⟨?_, ?_, ?_, ?_⟩
  · show C.w.heap.size ≤ D.w.heap.size
    rw [h.w]; exact Nat.le_refl _
  · intro b _ _
    show D.w.heap[b]? = C.w.heap[b]?
    rw [h.w]
  · intro b _ ho
    exact (D.flat_ok b).2 (h.ok b ((C.flat_ok b).1 ho))
  · intro o s hs
    simp [Ctx.flat] at hs

theorem Under.toFlat (C : Ctx) : Under C C.flat := ⟨rfl, fun b h => (C.flat_ok b).2 h⟩

mutual
theorem RelV.plain {S : Sizes} {C D : Ctx} (h : Under C D) : ∀ (a : AV) (cs : List Value), plainA a = true → RelV S C a cs → RelV S D a cs
  | .u, _, hp, _ => by simp [plainA] at hp
  | .sc v, cs, _, r => r
  | .arr k n xs, cs, _, r => r
  | .agg fs, cs, hp, r => RelL.plain h fs cs (by simpa [plainA] using hp) r
  | .sl e rows full, cs, _, r => by
    obtain ⟨a, c, h1, h2, h3, h4, h5, h6⟩ := r
    refine ⟨a, c, h1, h2, h3, h4, h5, h6.imp id ?_⟩
    rintro ⟨b, off, k1, k2, k3⟩
    exact ⟨b, off, k1, h.ok b k2, RelR.mono h.flat b _ rows off ((C.flat_ok b).2 k2) k3⟩
  | .own o k, _, hp, _ => by simp [plainA] at hp
  | .ptr o off ix, _, hp, _ => by simp [plainA] at hp
  | .el e o k i off, _, hp, _ => by simp [plainA] at hp
  | .bsl e o off n, _, hp, _ => by simp [plainA] at hp
  | .ep fs off ix, cs, _, r => by
    obtain ⟨b, o0, cells, h1, hi, h2, h3, h4, h5⟩ := r
    exact ⟨b, o0, cells, h1, hi, h.ok b h2, RelL.mono h.flat fs cells h3, h4, fun j v hj => by rw [h.w]; exact h5 j v hj⟩
  | .fn f caps, cs, hp, r => by
    obtain ⟨vs, h1, h2⟩ := r
    exact ⟨vs, h1, RelL.plain h caps _ (by simpa [plainA] using hp) h2⟩
  | .tup vs, _, hp, _ => by simp [plainA] at hp
theorem RelL.plain {S : Sizes} {C D : Ctx} (h : Under C D) : ∀ (fs : List AV) (cs : List Value), plainL fs = true → RelL S C fs cs → RelL S D fs cs
  | [], _, _, r => r
  | f :: fs, cs, hp, r => by
    obtain ⟨c1, c2, h1, h2, h3⟩ := r
    simp only [plainL, Bool.and_eq_true] at hp
    exact ⟨c1, c2, h1, RelV.plain h f c1 hp.1 h2, RelL.plain h fs c2 hp.2 h3⟩
end

theorem VRel1.plain {S : Sizes} {C D : Ctx} (h : Under C D) {a : AV} {v : Value} (hp : plainA a = true) (r : VRel1 S C a v) : VRel1 S D a v := by
  cases a with
  | agg fs => obtain ⟨cs, h1, h2⟩ := r; exact ⟨cs, h1, RelL.plain h _ _ (by simpa [plainA] using hp) h2⟩
  | arr k n xs => exact r
  | sc w => exact r
  | sl e rows full => exact RelV.plain h _ _ hp r
  | ep fs off ix => exact RelV.plain h _ _ hp r
  | fn f caps => exact RelV.plain h _ _ hp r
  | _ => simp [plainA] at hp

theorem VRel.plain {S : Sizes} {C D : Ctx} (h : Under C D) {a : AV} {v : Value} (hp : plainA a = true) (r : VRel S C a v) : VRel S D a v := by
  cases a with
  | tup vs => simp [plainA] at hp
  | agg fs => exact VRel1.plain (a := .agg fs) h hp r
  | arr k n xs => exact r
  | sc w => exact r
  | sl e rows full => exact RelV.plain h _ _ hp r
  | ep fs off ix => exact RelV.plain h _ _ hp r
  | fn f caps => exact RelV.plain h _ _ hp r
  | _ => simp [plainA] at hp

/-! ### Sizes, parts -/
def AV.sz : AV → Nat
  | .arr _ n _ => n
  | .agg fs => go fs
  | _ => 1
where go : List AV → Nat
  | [] => 0
  | f :: fs => f.sz + go fs

def dropC : List AV → Nat → Option (List AV)
  | fs, 0 => some fs
  | [], _ + 1 => none
  | f :: fs, n + 1 => if f.sz ≤ n + 1 then dropC fs (n + 1 - f.sz) else none

def takeC : List AV → Nat → Option (List AV)
  | _, 0 => some []
  | [], _ + 1 => none
  | f :: fs, n + 1 => if f.sz ≤ n + 1 then (takeC fs (n + 1 - f.sz)).map (f :: ·) else none

mutual
theorem RelV.len {S : Sizes} {C : Ctx} : ∀ (a : AV) (cs : List Value), RelV S C a cs → cs.length = a.sz
  | .u, _, r => r.elim
  | .sc v, cs, r => by rw [r.1]; rfl
  | .arr k n xs, cs, r => by rw [r.2, List.length_map, r.1]; rfl
  | .agg fs, cs, r => RelL.len fs cs r
  | .sl e rows full, cs, r => by obtain ⟨a, c, h1, _⟩ := r; rw [h1]; rfl
  | .own o k, cs, r => by obtain ⟨v', v, kk, mn, h1, _⟩ := r; rw [h1]; rfl
  | .ptr o off ix, cs, r => by obtain ⟨b, _, _, h1⟩ := r; rw [h1]; rfl
  | .el e o k i off, cs, r => by obtain ⟨p, v, kk, mn, h1, _⟩ := r; rw [h1]; rfl
  | .bsl e o off n, cs, r => by obtain ⟨b, _, h1⟩ := r; rw [h1]; rfl
  | .ep fs off ix, cs, r => by obtain ⟨b, o0, cells, h1, _⟩ := r; rw [h1]; rfl
  | .fn f caps, cs, r => by obtain ⟨vs, h1, _⟩ := r; rw [h1]; rfl
  | .tup vs, _, r => r.elim
theorem RelL.len {S : Sizes} {C : Ctx} : ∀ (fs : List AV) (cs : List Value), RelL S C fs cs → cs.length = AV.sz.go fs
  | [], cs, r => by rw [show cs = [] from r]; rfl
  | f :: fs, cs, r => by
    obtain ⟨c1, c2, h1, h2, h3⟩ := r
    rw [h1, List.length_append, RelV.len f c1 h2, RelL.len fs c2 h3]
    rfl
end

mutual
theorem RelV.one {S : Sizes} {C : Ctx} : ∀ (a : AV) (cs : List Value), RelV S C a cs → ∀ v ∈ cs, v.oneCell' = true
  | .u, _, r => r.elim
  | .sc v, cs, r => by rw [r.1]; simpa using r.2
  | .arr k n xs, cs, r => by rw [r.2]; intro v hv; obtain ⟨x, _, rfl⟩ := List.mem_map.1 hv; rfl
  | .agg fs, cs, r => RelL.one fs cs r
  | .sl e rows full, cs, r => by obtain ⟨a, c, h1, _⟩ := r; rw [h1]; simp [Value.oneCell']
  | .own o k, cs, r => by obtain ⟨v', v, kk, mn, h1, h2, _⟩ := r; rw [h1]; simpa using h2
  | .ptr o off ix, cs, r => by obtain ⟨b, _, _, h1⟩ := r; rw [h1]; simp [Value.oneCell']
  | .el e o k i off, cs, r => by obtain ⟨p, v, kk, mn, h1, h2, _⟩ := r; rw [h1]; simpa using h2
  | .bsl e o off n, cs, r => by obtain ⟨b, _, h1⟩ := r; rw [h1]; simp [Value.oneCell']
  | .ep fs off ix, cs, r => by obtain ⟨b, o0, cells, h1, _⟩ := r; rw [h1]; simp [Value.oneCell']
  | .fn f caps, cs, r => by obtain ⟨vs, h1, _⟩ := r; rw [h1]; simp [Value.oneCell']
  | .tup vs, _, r => r.elim
theorem RelL.one {S : Sizes} {C : Ctx} : ∀ (fs : List AV) (cs : List Value), RelL S C fs cs → ∀ v ∈ cs, v.oneCell' = true
  | [], cs, r => by rw [show cs = [] from r]; simp
  | f :: fs, cs, r => by
    obtain ⟨c1, c2, h1, h2, h3⟩ := r
    intro v hv
    rw [h1] at hv
    rcases List.mem_append.1 hv with hv | hv
    · exact RelV.one f c1 h2 v hv
    · exact RelL.one fs c2 h3 v hv
end

theorem RelL.drop {S : Sizes} {C : Ctx} : ∀ (fs : List AV) (n : Nat) (gs : List AV) (cs : List Value), dropC fs n = some gs → RelL S C fs cs → n ≤ cs.length ∧ RelL S C gs (cs.drop n)
  | fs, 0, gs, cs, h, r => by
    have : fs = gs := by cases fs <;> simpa [dropC] using h
    subst this
    exact ⟨Nat.zero_le _, r⟩
  | [], n + 1, gs, cs, h, r => by simp [dropC] at h
  | f :: fs, n + 1, gs, cs, h, r => by
    obtain ⟨c1, c2, rfl, h2, h3⟩ := r
    have hl := RelV.len f c1 h2
    simp only [dropC] at h
    split at h
    · rename_i hle
      obtain ⟨h4, h5⟩ := RelL.drop fs _ gs c2 h h3
      refine ⟨by rw [List.length_append]; omega, ?_⟩
      rw [List.drop_append, List.drop_eq_nil_of_le (by omega), List.nil_append, hl]
      exact h5
    · cases h

theorem RelL.take {S : Sizes} {C : Ctx} : ∀ (fs : List AV) (n : Nat) (gs : List AV) (cs : List Value), takeC fs n = some gs → RelL S C fs cs → n ≤ cs.length ∧ RelL S C gs (cs.take n)
  | fs, 0, gs, cs, h, r => by
    have : [] = gs := by cases fs <;> simpa [takeC] using h
    subst this
    exact ⟨Nat.zero_le _, by rw [List.take_zero]; rfl⟩
  | [], n + 1, gs, cs, h, r => by simp [takeC] at h
  | f :: fs, n + 1, gs, cs, h, r => by
    obtain ⟨c1, c2, rfl, h2, h3⟩ := r
    have hl := RelV.len f c1 h2
    simp only [takeC] at h
    split at h
    · rename_i hle
      obtain ⟨g, hg, rfl⟩ := Option.map_eq_some_iff.1 h
      obtain ⟨h4, h5⟩ := RelL.take fs _ g c2 hg h3
      refine ⟨by rw [List.length_append]; omega, c1, c2.take (n + 1 - f.sz), ?_, h2, h5⟩
      rw [List.take_append, List.take_of_length_le (by omega), hl]
    · cases h

theorem RelL.append {S : Sizes} {C : Ctx} : ∀ (fs gs : List AV) (cs ds : List Value), RelL S C fs cs → RelL S C gs ds → RelL S C (fs ++ gs) (cs ++ ds)
  | [], gs, cs, ds, r, q => by rw [show cs = [] from r]; exact q
  | f :: fs, gs, cs, ds, r, q => by
    obtain ⟨c1, c2, rfl, h2, h3⟩ := r
    exact ⟨c1, c2 ++ ds, by rw [List.append_assoc], h2, RelL.append fs gs c2 ds h3 q⟩

/-! ### The heap -/
inductive AO where
  | gone
  | box (e : TypeId) (fs : List AV)
  | row (e : TypeId) (rows : List AV) (k : Nat) (app : Bool)
  deriving Inhabited

def RelF (S : Sizes) (C : Ctx) (sz : Nat) : List AV → List Value → Prop
  | [], cs => cs = []
  | r :: rs, cs => ∃ c1 c2, cs = c1 ++ c2 ∧ RelV S C r c1 ∧ c1.length = sz ∧ RelF S C sz rs c2

theorem RelF.mono {S : Sizes} {C C' : Ctx} (h : Mono C C') {sz : Nat} : ∀ (rs : List AV) (cs : List Value), RelF S C sz rs cs → RelF S C' sz rs cs
  | [], _, r => r
  | r :: rs, cs, q => by
    obtain ⟨c1, c2, h1, h2, h3, h4⟩ := q
    exact ⟨c1, c2, h1, h2.mono h, h3, RelF.mono h rs c2 h4⟩

def ORel (S : Sizes) (C : Ctx) : AO → Slot → Prop
  | .gone, .gone => True
  | .box e fs, .blk b => ∃ cs, C.w.heap[b]? = some (.cells cs e (0, 0)) ∧ RelL S C fs cs.toList
  | .row e rows k app, .row v kk mine => k = kk ∧ rows.length * (S e).2 ≤ reach ∧ (mine = false → RelV S C (.sl e rows app) [v]) ∧
      (mine = true → app = true ∧ 0 < (S e).1 ∧ ∃ cells, C.w.ownsRow 0 e (S e).1 v rows.length cells ∧ RelF S C.flat (S e).1 rows cells)
  | _, _ => False

structure HRel (S : Sizes) (C : Ctx) (h : List AO) : Prop where
  len : C.m.length = h.length
  rel : ∀ (o : Nat) (ob : AO) (s : Slot), h[o]? = some ob → C.m[o]? = some s → ORel S C ob s
  inj : ∀ (o o' : Nat) (s s' : Slot) (b : Nat), C.m[o]? = some s → C.m[o']? = some s' → s.block = some b → s'.block = some b → o = o'
  nX : ∀ s ∈ C.m, ∀ b, s.block = some b → ¬ C.X b
  Xlt : ∀ b, C.X b → b < C.w.heap.size

theorem ORel.lt {S : Sizes} {C : Ctx} {ob : AO} {s : Slot} (h : ORel S C ob s) {b : Nat} (hb : s.block = some b) : b < C.w.heap.size := by
  cases ob <;> cases s <;> simp only [ORel] at h
  · simp [Slot.block] at hb
  · obtain ⟨cs, h1, _⟩ := h
    injection hb with hb
    subst hb
    exact (Array.getElem?_eq_some_iff.1 h1).1
  · rename_i e rows k app v kk mine
    cases mine with
    | false => simp [Slot.block] at hb
    | true =>
      obtain ⟨_, _, cells, h1, _⟩ := h.2.2.2 rfl
      simp only [Slot.block, if_true] at hb
      rcases h1.2 with ⟨rfl, _⟩ | ⟨g, cap, cur, rfl, _, hh, _⟩
      · simp [Value.ownBlock] at hb
      · have : g = b := by simpa [Value.ownBlock] using hb
        subst this
        exact (Array.getElem?_eq_some_iff.1 hh).1

theorem HRel.lt {S : Sizes} {C : Ctx} {h : List AO} (H : HRel S C h) {s : Slot} (hs : s ∈ C.m) {b : Nat} (hb : s.block = some b) : b < C.w.heap.size := by
  obtain ⟨o, ho⟩ := List.mem_iff_getElem?.1 hs
  have hl : o < h.length := by rw [← H.len]; exact (List.getElem?_eq_some_iff.1 ho).1
  exact (H.rel o h[o] s (List.getElem?_eq_getElem hl) ho).lt hb

/-- what an object says goes over to a later world in which its own block is as it was -/
theorem ORel.step {S : Sizes} {C C' : Ctx} (st : Step C C') {ob : AO} {s : Slot} (h : ORel S C ob s) (hk : ∀ b, s.block = some b → C'.w.heap[b]? = C.w.heap[b]?) : ORel S C' ob s := by
  cases ob <;> cases s <;> simp only [ORel] at h ⊢
  · obtain ⟨cs, h1, h2⟩ := h
    exact ⟨cs, by rw [hk _ rfl]; exact h1, h2.step st⟩
  · rename_i e rows k app v kk mine
    refine ⟨h.1, h.2.1, fun hm => (h.2.2.1 hm).step st, fun hm => ?_⟩
    obtain ⟨hap, h0, cells, h1, h2⟩ := h.2.2.2 hm
    refine ⟨hap, h0, cells, ⟨h1.1, ?_⟩, h2.mono st.mono.flat⟩
    rcases h1.2 with h3 | ⟨g, cap, cur, h3, h4, h5, h6⟩
    · exact .inl h3
    · refine .inr ⟨g, cap, cur, h3, h4, ?_, h6⟩
      rw [hk g (by subst hm; subst h3; simp [Slot.block, Value.ownBlock])]
      exact h5

/-- all that was there is as it was, and the slots are the same -/
structure Kept (C C' : Ctx) : Prop where
  os : C'.w.os = C.w.os
  tape : C'.w.tape = C.w.tape
  output : C'.w.output = C.w.output
  size : C.w.heap.size ≤ C'.w.heap.size
  block : ∀ b, b < C.w.heap.size → C'.w.heap[b]? = C.w.heap[b]?
  m : C'.m = C.m
  X : C'.X = C.X

theorem Kept.refl (C : Ctx) : Kept C C := ⟨rfl, rfl, rfl, Nat.le_refl _, fun _ _ => rfl, rfl, rfl⟩
theorem Kept.toStep {C C' : Ctx} (h : Kept C C') : Step C C' where
  os := h.os
  tape := h.tape
  output := h.output
  size := h.size
  block := fun b hb _ => h.block b hb
  ok := fun b _ ho => by unfold Ctx.ok at *; rw [h.m, h.X]; exact ho
  fresh := fun b _ hn => by rw [h.m]; exact hn
  slot := fun o s hs => ⟨s, by rw [h.m]; exact hs, s.le_refl⟩
  X := h.X

theorem HRel.kept {S : Sizes} {C C' : Ctx} {h : List AO} (H : HRel S C h) (k : Kept C C') : HRel S C' h where
  len := by rw [k.m]; exact H.len
  rel := fun o ob s ho hs => by
    rw [k.m] at hs
    exact (H.rel o ob s ho hs).step k.toStep (fun b hb => k.block b ((H.rel o ob s ho hs).lt hb))
  inj := by rw [k.m]; exact H.inj
  nX := by rw [k.m, k.X]; exact H.nX
  Xlt := fun b hb => by rw [k.X] at hb; exact Nat.lt_of_lt_of_le (H.Xlt b hb) k.size

/-- one object more -/
theorem HRel.push {S : Sizes} {C C' : Ctx} {h : List AO} (H : HRel S C h) {s : Slot} {ob : AO} (hsz : C.w.heap.size ≤ C'.w.heap.size) (hos : C'.w.os = C.w.os) (htape : C'.w.tape = C.w.tape) (hout : C'.w.output = C.w.output)
    (hbl : ∀ b, b < C.w.heap.size → C'.w.heap[b]? = C.w.heap[b]?) (hm : C'.m = C.m ++ [s]) (hX : C'.X = C.X) (hfr : ∀ b, s.block = some b → C.w.heap.size ≤ b) :
    Step C C' ∧ (ORel S C' ob s → HRel S C' (h ++ [ob])) := by
  have st : Step C C' := by
    refine ⟨hos, htape, hout, hsz, fun b hb _ => hbl b hb, fun b hb ho => ?_, fun b hb hn s' hs' => ?_, fun o s' hs' => ⟨s', ?_, s'.le_refl⟩, hX⟩
    · unfold Ctx.ok at *
      rw [hX, hm]
      refine ⟨ho.1, fun s' hs' => ?_⟩
      rcases List.mem_append.1 hs' with hs' | hs'
      · exact ho.2 s' hs'
      · intro e
        have : s' = s := by simpa using hs'
        subst this
        have := hfr b e
        omega
    · rw [hm] at hs'
      rcases List.mem_append.1 hs' with hs' | hs'
      · exact hn s' hs'
      · intro e
        have : s' = s := by simpa using hs'
        subst this
        have := hfr b e
        omega
    · rw [hm, List.getElem?_append_left (List.getElem?_eq_some_iff.1 hs').1]
      exact hs'
  refine ⟨st, fun hob => ⟨by rw [hm]; simp [H.len], fun o ob' s' ho hs' => ?_, fun o o' s1 s2 b h1 h2 e1 e2 => ?_, fun s' hs' b e hx => ?_, fun b hb => ?_⟩⟩
  · rcases Nat.lt_or_ge o h.length with hl | hl
    · rw [List.getElem?_append_left hl] at ho
      rw [hm, List.getElem?_append_left (by rw [H.len]; exact hl)] at hs'
      exact (H.rel o ob' s' ho hs').step st (fun b hb => hbl b ((H.rel o ob' s' ho hs').lt hb))
    · have hlt : o < (h ++ [ob]).length := (List.getElem?_eq_some_iff.1 ho).1
      have ho' : o = h.length := by simp at hlt; omega
      subst ho'
      have e1 : ob = ob' := by simpa using ho
      have e2 : s = s' := by rw [hm, ← H.len] at hs'; simpa using hs'
      subst e1; subst e2
      exact hob
  · rw [hm] at h1 h2
    have key : ∀ (o : Nat) (s1 : Slot), (C.m ++ [s])[o]? = some s1 → (C.m[o]? = some s1) ∨ (o = C.m.length ∧ s1 = s) := by
      intro o s1 h
      rcases Nat.lt_or_ge o C.m.length with hl | hl
      · rw [List.getElem?_append_left hl] at h; exact .inl h
      · have hlt := (List.getElem?_eq_some_iff.1 h).1
        have ho' : o = C.m.length := by simp at hlt; omega
        subst ho'
        exact .inr ⟨rfl, by simpa using h.symm⟩
    rcases key o s1 h1 with k1 | ⟨k1, rfl⟩ <;> rcases key o' s2 h2 with k2 | ⟨k2, rfl⟩
    · exact H.inj o o' s1 s2 b k1 k2 e1 e2
    · have h3 := H.lt (List.mem_iff_getElem?.2 ⟨o, k1⟩) e1
      have h4 := hfr b e2
      omega
    · have h3 := H.lt (List.mem_iff_getElem?.2 ⟨o', k2⟩) e2
      have h4 := hfr b e1
      omega
    · omega
  · rw [hX] at hx
    rw [hm] at hs'
    rcases List.mem_append.1 hs' with hs' | hs'
    · exact H.nX s' hs' b e hx
    · have : s' = s := by simpa using hs'
      subst this
      have h3 := H.Xlt b hx
      have h4 := hfr b e
      omega
  · rw [hX] at hb
    exact Nat.lt_of_lt_of_le (H.Xlt b hb) hsz

/-- one object is another one -/
theorem HRel.upd {S : Sizes} {C C' : Ctx} {h : List AO} (H : HRel S C h) {o : Nat} {s s' : Slot} {ob : AO} (hs : C.m[o]? = some s) (hle : s.le s') (hsz : C.w.heap.size ≤ C'.w.heap.size) (hos : C'.w.os = C.w.os) (htape : C'.w.tape = C.w.tape) (hout : C'.w.output = C.w.output)
    (hbl : ∀ b, b < C.w.heap.size → s.block ≠ some b → C'.w.heap[b]? = C.w.heap[b]?) (hm : C'.m = C.m.set o s') (hX : C'.X = C.X) (hfr : ∀ b, s'.block = some b → s.block = some b ∨ C.w.heap.size ≤ b) :
    Step C C' ∧ (ORel S C' ob s' → HRel S C' (h.set o ob)) := by
  have hol : o < C.m.length := (List.getElem?_eq_some_iff.1 hs).1
  have hmem : s ∈ C.m := List.mem_iff_getElem?.2 ⟨o, hs⟩
  have memset : ∀ x ∈ C.m.set o s', x ∈ C.m ∨ x = s' := fun x hx => List.mem_or_eq_of_mem_set hx
  have st : Step C C' := by
    refine ⟨hos, htape, hout, hsz, fun b hb hn => hbl b hb (hn s hmem), fun b hb ho => ?_, fun b hb hn x hx => ?_, fun o' x hx => ?_, hX⟩
    · unfold Ctx.ok at *
      rw [hX, hm]
      refine ⟨ho.1, fun x hx => ?_⟩
      rcases memset x hx with hx | rfl
      · exact ho.2 x hx
      · intro e
        rcases hfr b e with e' | e'
        · exact ho.2 s hmem e'
        · omega
    · rw [hm] at hx
      rcases memset x hx with hx | rfl
      · exact hn x hx
      · intro e
        rcases hfr b e with e' | e'
        · exact hn s hmem e'
        · omega
    · by_cases e : o = o'
      · subst e
        rw [hs] at hx
        injection hx with hx
        subst hx
        exact ⟨s', by rw [hm, List.getElem?_set_self hol], hle⟩
      · exact ⟨x, by rw [hm, List.getElem?_set_ne e]; exact hx, x.le_refl⟩
  refine ⟨st, fun hob => ⟨by rw [hm]; simp [H.len], fun o' ob' x ho' hx => ?_, fun o1 o2 s1 s2 b h1 h2 e1 e2 => ?_, fun x hx b e hxx => ?_, fun b hb => ?_⟩⟩
  · by_cases e : o = o'
    · subst e
      rw [List.getElem?_set_self (by rw [← H.len]; exact hol)] at ho'
      rw [hm, List.getElem?_set_self hol] at hx
      injection ho' with ho'
      injection hx with hx
      subst ho'; subst hx
      exact hob
    · rw [List.getElem?_set_ne e] at ho'
      rw [hm, List.getElem?_set_ne e] at hx
      have hr := H.rel o' ob' x ho' hx
      refine hr.step st (fun b hb => hbl b (hr.lt hb) fun hsb => e (H.inj o o' s x b hs hx hsb hb))
  · rw [hm] at h1 h2
    have key : ∀ (o1 : Nat) (s1 : Slot), (C.m.set o s')[o1]? = some s1 → (o1 = o ∧ s1 = s') ∨ (o1 ≠ o ∧ C.m[o1]? = some s1) := by
      intro o1 s1 h
      by_cases e : o = o1
      · subst e
        rw [List.getElem?_set_self hol] at h
        injection h with h
        exact .inl ⟨rfl, h.symm⟩
      · rw [List.getElem?_set_ne e] at h
        exact .inr ⟨fun x => e x.symm, h⟩
    rcases key o1 s1 h1 with ⟨k1, rfl⟩ | ⟨k1, k1'⟩ <;> rcases key o2 s2 h2 with ⟨k2, rfl⟩ | ⟨k2, k2'⟩
    · omega
    · rcases hfr b e1 with e' | e'
      · exact absurd (H.inj o o2 s s2 b hs k2' e' e2) (fun x => k2 x.symm)
      · have := H.lt (List.mem_iff_getElem?.2 ⟨o2, k2'⟩) e2
        omega
    · rcases hfr b e2 with e' | e'
      · exact absurd (H.inj o o1 s s1 b hs k1' e' e1) (fun x => k1 x.symm)
      · have := H.lt (List.mem_iff_getElem?.2 ⟨o1, k1'⟩) e1
        omega
    · exact H.inj o1 o2 s1 s2 b k1' k2' e1 e2
  · rw [hX] at hxx
    rw [hm] at hx
    rcases memset x hx with hx | rfl
    · exact H.nX x hx b e hxx
    · rcases hfr b e with e' | e'
      · exact H.nX s hmem b e' hxx
      · have := H.Xlt b hxx
        omega
  · rw [hX] at hb
    exact Nat.lt_of_lt_of_le (H.Xlt b hb) hsz
end Go.Sh
