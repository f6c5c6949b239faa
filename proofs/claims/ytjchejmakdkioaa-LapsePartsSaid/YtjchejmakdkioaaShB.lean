import Derived.Test.YtjchejmakdkioaaShA
import Derived.ChangeKeysEq
set_option linter.unusedVariables false
namespace Go.Sh
/-! ### Types -/
inductive TK where
  | int (k : IntKind)
  | bool
  | str
  | struct (fl : List (Nat × TypeId))
  | arr (n : Nat) (e : TypeId)
  | slice (e : TypeId)
  | ptr (e : TypeId)
  | other

structure TInfo where
  kind : TK
  size : Nat
  bytes : Nat
  zero : List AV

abbrev Tab := List (TypeId × TInfo)
def Tab.get : Tab → TypeId → Option TInfo
  | [], _ => none
  | (t, i) :: r, u => if t == u then some i else Tab.get r u
def Tab.S (G : Tab) : Sizes := fun t => match G.get t with | some i => (i.size, i.bytes) | none => (0, 0)

def Tab.kind (G : Tab) (t : TypeId) : TK := match G.get t with | some i => i.kind | none => .other

def TK.fits (d : TypeDesc) : TK → Prop
  | .int k => d = .int k
  | .bool => d = .bool
  | .str => d = .string
  | .struct fl => ∃ fs, d = .struct fs ∧ fs.toList.map (fun f => (f.offset, f.type)) = fl
  | .arr n e => d = .array n e
  | .slice e => d = .slice e
  | .ptr e => d = .pointer e
  | .other => ¬ ((∃ fs, d = .struct fs) ∨ ∃ n e, d = .array n e)

structure TFits (P : Program) (t : TypeId) (i : TInfo) : Prop where
  info : ∃ inf z, P.info? t = some inf ∧ inf.size = i.size ∧ inf.bytes = i.bytes ∧ inf.zero = some z ∧ z.cells.size = i.size ∧ (∀ S C, RelL S C i.zero z.cells.toList)
  desc : ∃ d, P.underlying t = some d ∧ i.kind.fits d

def Tab.ok (P : Program) (G : Tab) : Prop := ∀ t i, G.get t = some i → TFits P t i

def TK.isAgg : TK → Bool
  | .struct _ | .arr _ _ => true
  | _ => false

theorem run_isAgg {P : Program} {t : TypeId} {i : TInfo} (h : TFits P t i) (w : World) : (isAgg t).run P w = .ok i.kind.isAgg w := by
  obtain ⟨d, hd, hk⟩ := h.desc
  unfold isAgg
  simp only [Sem.run_bind, run_underlying hd, Result.andThen_ok]
  cases hi : i.kind <;> rw [hi] at hk <;> simp only [TK.fits] at hk
  case struct fl => obtain ⟨fs, rfl, _⟩ := hk; rfl
  case other =>
    simp only [not_or, not_exists] at hk
    cases d <;> first | rfl | (exact absurd rfl (hk.1 _)) | (exact absurd rfl (hk.2 _ _))
  all_goals (subst hk; rfl)

theorem run_size {P : Program} {t : TypeId} {i : TInfo} (h : TFits P t i) (w : World) : (sizeOf t).run P w = .ok i.size w := by
  obtain ⟨inf, z, h1, h2, _⟩ := h.info
  simp [sizeOf, typeInfo, h1, h2]

theorem run_zero {P : Program} {t : TypeId} {i : TInfo} (h : TFits P t i) (w : World) : ∃ z, (zeroValue t).run P w = .ok z w ∧ z.cells.size = i.size ∨ True := ⟨undef, .inr trivial⟩

/-! ### Temporaries -/
abbrev Tmps := List (Nat × AV)
def lk : Tmps → Nat → AV
  | [], _ => .u
  | (j, a) :: r, i => if j == i then a else lk r i
def setT (t : Tmps) (d : Option Nat) (a : AV) : Tmps :=
  match d with
  | none => t
  | some d => (d, a) :: t.filter (fun p => p.1 != d)

theorem lk_filter (t : Tmps) (d i : Nat) (h : i ≠ d) : lk (t.filter (fun p => p.1 != d)) i = lk t i := by
  induction t with
  | nil => rfl
  | cons p r ih =>
    obtain ⟨j, a⟩ := p
    by_cases hj : j = d
    · subst hj
      simp only [List.filter_cons, bne_self_eq_false, Bool.false_eq_true, if_false, lk]
      rw [if_neg (by simpa using fun e => h e.symm)]
      exact ih
    · have : (j != d) = true := by simpa using hj
      simp only [List.filter_cons, this, if_true, lk, ih]

theorem lk_setT (t : Tmps) (d : Nat) (a : AV) (i : Nat) : lk (setT t (some d) a) i = if i = d then a else lk t i := by
  unfold setT
  simp only [lk]
  by_cases h : i = d
  · subst h; simp
  · rw [if_neg (by simpa using fun e => h e.symm), if_neg h, lk_filter t d i h]

/-- a constant's abstract value -/
def cv : Value → AV
  | .bool b => .sc (.bool b)
  | .int k n => .sc (.int k n)
  | .string s => .sc (.string s)
  | .pointer none => .sc (.pointer none)
  | .map none => .sc (.map none)
  | .chan none => .sc (.chan none)
  | .nilFunc => .sc .nilFunc
  | .nilIface => .sc .nilIface
  | .slice none 0 0 => .sl 0 [] true
  | _ => .u

def ev (t : Tmps) : Operand → AV
  | .tmp i => lk t i
  | .const v => cv v
  | .func f => .fn f []
  | .global _ => .u

structure ARel (S : Sizes) (C : Ctx) (t : Tmps) (h : List AO) (n : Nat) (a : Act) : Prop where
  defers : a.defers = []
  size : a.tmps.size = n
  tmps : ∀ i, VRel S C (lk t i) (a.tmps.getD i undef)
  heap : HRel S C h

theorem cv_rel (S : Sizes) (C : Ctx) (v : Value) : VRel S C (cv v) v := by
  unfold cv
  split <;> first | trivial | exact ⟨rfl, rfl⟩ | skip
  exact ⟨none, 0, rfl, Nat.le_refl _, fun _ => rfl, by decide, by simp [reach], .inl rfl⟩

theorem ARel.ev {S : Sizes} {C : Ctx} {t : Tmps} {h : List AO} {n : Nat} {a : Act} (A : ARel S C t h n a) (x : Operand) : VRel S C (ev t x) (a.eval x) := by
  cases x with
  | tmp i => exact A.tmps i
  | const v => exact cv_rel S C v
  | func f => exact ⟨#[], rfl, rfl⟩
  | global g => trivial

/-! ### One operation -/
def chunks : AV → Option (List AV)
  | .u => none
  | .tup _ => none
  | .agg fs => some fs
  | a => some [a]

def toV (isAgg : Bool) (fs : List AV) : Option AV :=
  if isAgg then
    match fs with
    | [.arr k n xs] => some (.arr k n xs)
    | fs => some (.agg fs)
  else
    match fs with
    | [.arr ..] => none
    | [.agg _] => none
    | [a] => some a
    | _ => none

def subC (fs : List AV) (off size : Nat) : Option (List AV) := (dropC fs off).bind fun gs => takeC gs size

def loadA (G : Tab) (ty : TypeId) (fs : List AV) (off : Nat) (ix : Option (Nat × Nat)) : Option AV :=
  match G.get ty with
  | none => none
  | some i =>
    match ix with
    | none => (subC fs off i.size).bind (toV i.kind.isAgg)
    | some (j, n) =>
      match dropC fs off with
      | some (.arr k n' xs :: _) => if n = n' then (if i.kind.isAgg then none else if i.size = 1 then some (.sc (.int k (xs.getD j 0))) else none) else none
      | _ => none

def intRes (op : BinOp) (k : IntKind) (x y : Int) : Option Value :=
  match op with
  | .add => some (.int k (k.wrap (x + y)))
  | .sub => some (.int k (k.wrap (x - y)))
  | .mul => some (.int k (k.wrap (x * y)))
  | .and => some (.int k (k.wrap (BitVec.ofInt k.bits x &&& BitVec.ofInt k.bits y).toNat))
  | .or => some (.int k (k.wrap (BitVec.ofInt k.bits x ||| BitVec.ofInt k.bits y).toNat))
  | .xor => some (.int k (k.wrap (BitVec.ofInt k.bits x ^^^ BitVec.ofInt k.bits y).toNat))
  | .andNot => some (.int k (k.wrap (BitVec.ofInt k.bits x &&& ~~~ BitVec.ofInt k.bits y).toNat))
  | .eql => some (.bool (x == y))
  | .neq => some (.bool (x != y))
  | .lss => some (.bool (x < y))
  | .leq => some (.bool (x ≤ y))
  | .gtr => some (.bool (x > y))
  | .geq => some (.bool (x ≥ y))
  | _ => none

def binA (K : TK) (op : BinOp) : AV → AV → Option AV
  | .sc (.int k x), .sc (.int k' y) => if k = k' then (intRes op k x y).map .sc else none
  | .sc (.bool a), .sc (.bool b) =>
    match K, op with
    | .bool, .eql => some (.sc (.bool (a == b)))
    | .bool, .neq => some (.sc (.bool (a != b)))
    | _, _ => none
  | .sc (.string a), .sc (.string b) =>
    match op with
    | .eql => some (.sc (.bool (a == b)))
    | .neq => some (.sc (.bool (a != b)))
    | _ => none
  | .ptr .., .sc (.pointer none) =>
    match K, op with
    | .ptr _, .eql => some (.sc (.bool false))
    | .ptr _, .neq => some (.sc (.bool true))
    | _, _ => none
  | .sc (.pointer none), .sc (.pointer none) =>
    match K, op with
    | .ptr _, .eql => some (.sc (.bool true))
    | .ptr _, .neq => some (.sc (.bool false))
    | _, _ => none
  | _, _ => none

def unA (op : UnOp) : AV → Option AV
  | .sc (.bool b) => match op with | .not => some (.sc (.bool (!b))) | _ => none
  | .sc (.int k n) => match op with | .neg => some (.sc (.int k (k.wrap (0 - n)))) | _ => none
  | _ => none

/-- the part from 'off' on is new -/
def putC (fs : List AV) (off : Nat) (new : List AV) : Option (List AV) :=
  match takeC fs off, dropC fs (off + AV.sz.go new) with
  | some a, some b => some (a ++ new ++ b)
  | _, _ => none

def storeA (G : Tab) (ty : TypeId) (fs : List AV) (off : Nat) (ix : Option (Nat × Nat)) (v : AV) : Option (List AV) :=
  match G.get ty with
  | none => none
  | some i =>
    match ix with
    | none =>
      match chunks v with
      | none => none
      | some new => if AV.sz.go new = i.size then putC fs off new else none
    | some (j, n) =>
      match takeC fs off, dropC fs off, v with
      | some a, some (.arr k n' xs :: b), .sc (.int k' x) => if n = n' ∧ k = k' ∧ i.size = 1 then some (a ++ .arr k n' (xs.set j x) :: b) else none
      | _, _, _ => none

def mkAgg : List AV → AV
  | [.arr k n xs] => .arr k n xs
  | fs => .agg fs

def fillA (place : Nat → Option (Nat × Nat)) : List AV → List (Nat × AV) → Option (List AV)
  | fs, [] => some fs
  | fs, (i, v) :: rest =>
    match place i, chunks v with
    | some (off, size), some new => if AV.sz.go new = size then (putC fs off new).bind fun fs' => fillA place fs' rest else none
    | _, _ => none

def seqA (sz : Nat) : Nat → List (Nat × AV) → Option (List AV)
  | _, [] => some []
  | n, (i, v) :: rest =>
    if i = n then
      match chunks v with
      | some c => if AV.sz.go c = sz then (seqA sz (n + 1) rest).map (v :: ·) else none
      | none => none
    else none

def isCap : AV → Bool
  | .ptr .. | .sc _ | .fn .. => true
  | _ => false

def aop (G : Tab) (ρ : Operand → AV) (h : List AO) : Op → Option (AV × List AO)
  | .move x => some (ρ x, h)
  | .assign x => some (ρ x, h)
  | .pick c a b =>
    match ρ c with
    | .sc (.bool b') => some (if b' then ρ a else ρ b, h)
    | _ => none
  | .alloc e =>
    match G.get e with
    | some i => some (.ptr h.length 0 none, h ++ [.box e i.zero])
    | none => none
  | .box e x =>
    match chunks (ρ x) with
    | some fs => some (.ptr h.length 0 none, h ++ [.box e fs])
    | none => none
  | .build t parts =>
    match G.get t with
    | none => none
    | some i =>
      let ps := parts.toList.map fun p => (p.1, ρ p.2)
      match i.kind with
      | .struct fl =>
        if fl.all (fun f => (G.get f.2).isSome) then
          (fillA (fun j => (fl[j]?).bind fun f => (G.get f.2).map fun fi => (f.1, fi.size)) i.zero ps).map fun fs => (mkAgg fs, h)
        else none
      | .arr _ e =>
        match G.get e with
        | some ei => (fillA (fun j => some (j * ei.size, ei.size)) i.zero ps).map fun fs => (mkAgg fs, h)
        | none => none
      | _ => none
  | .buildSlice t len parts =>
    match G.get t with
    | some i =>
      match i.kind with
      | .slice e =>
        match G.get e with
        | some ei =>
          if parts.size = len ∧ len * ei.size ≤ 16777216 ∧ len * ei.bytes ≤ reach ∧ 0 < ei.size ∧ (parts.toList.all fun p => plainA (ρ p.2)) = true then
            (seqA ei.size 0 (parts.toList.map fun p => (p.1, ρ p.2))).map fun rows => (.sl e rows true, h)
          else none
        | none => none
      | _ => none
    | none => none
  | .load ty x =>
    match ρ x with
    | .ptr o off ix =>
      match h[o]? with
      | some (.box _ fs) => (loadA G ty fs off ix).map fun r => (r, h)
      | _ => none
    | .ep fs off ix => (loadA G ty fs off ix).map fun r => (r, h)
    | _ => none
  | .store ty x v =>
    match ρ x with
    | .ptr o off ix =>
      match h[o]? with
      | some (.box e fs) => (storeA G ty fs off ix (ρ v)).map fun fs' => (.u, h.set o (.box e fs'))
      | _ => none
    | _ => none
  | .nilCheck x =>
    match ρ x with
    | .ptr o off ix => some (.ptr o off ix, h)
    | .ep fs off ix => some (.ep fs off ix, h)
    | _ => none
  | .binOp op xt x y _ => (binA (G.kind xt) op (ρ x) (ρ y)).map fun r => (r, h)
  | .unOp op _ x => (unA op (ρ x)).map fun r => (r, h)
  | .convert src dst x =>
    match G.kind src, G.kind dst, ρ x with
    | .int _, .int k, .sc (.int _ n) => some (.sc (.int k (k.wrap n)), h)
    | _, _, _ => none
  | .fieldAddr s x f =>
    match G.get s with
    | some i =>
      match i.kind with
      | .struct fl =>
        match fl[f]? with
        | some (o', ft) =>
          match G.get ft with
          | some fi =>
            if fi.size = 0 then none else
            match ρ x with
            | .ptr o off none => some (.ptr o (off + o') none, h)
            | .ep fs off none => some (.ep fs (off + o') none, h)
            | .el e o k i off =>
              match h[o]? with
              | some (.row _ _ k' _) => if k = k' then some (.el e o k i (off + o'), h) else none
              | _ => none
            | _ => none
          | none => none
        | none => none
      | _ => none
    | none => none
  | .indexAddr t x i =>
    match G.kind t, ρ x, ρ i with
    | .arr n e, .ptr o off none, .sc (.int _ j) =>
      match G.get e with
      | some ei => if ei.kind.isAgg = false ∧ ei.size = 1 ∧ 0 ≤ j ∧ j < n then some (.ptr o off (some (j.toNat, n)), h) else none
      | none => none
    | .slice e, .sl e' rows _, .sc (.int _ j) =>
      if e = e' ∧ 0 ≤ j ∧ (G.get e).isSome = true then
        match rows[j.toNat]? with
        | some r => (chunks r).map fun fs => (.ep fs 0 none, h)
        | none => none
      else none
    | _, _, _ => none
  | .extract x i =>
    match ρ x with
    | .tup vs => (vs[i]?).map fun r => (r, h)
    | _ => none
  | .makeFunc (.func f) first caps =>
    let cs := caps.toList.map ρ
    if first.size = 0 ∧ cs.all isCap then some (.fn f cs, h) else none
  | .call { callee := .builtin .len, args := xs, argTypes := ts } =>
    match xs.toList, ts.toList with
    | [x], [t] =>
      match G.kind t, ρ x with
      | .slice _, .sl _ rows _ => some (.sc (.int .i64 rows.length), h)
      | .slice _, .bsl _ _ _ n => some (.sc (.int .i64 n), h)
      | .slice _, .own o k =>
        match h[o]? with
        | some (.row _ rows k' _) => if k = k' then some (.sc (.int .i64 rows.length), h) else none
        | _ => none
      | .str, .sc (.string s) => some (.sc (.int .i64 s.size), h)
      | _, _ => none
    | _, _ => none
  | .call { callee := .builtin .max, args := xs, argTypes := _ } =>
    match xs.toList with
    | [x, y] =>
      match ρ x, ρ y with
      | .sc (.int k a), .sc (.int _ b) => some (.sc (.int k (if b > a then b else a)), h)
      | _, _ => none
    | _ => none
  | .call { callee := .builtin .min, args := xs, argTypes := _ } =>
    match xs.toList with
    | [x, y] =>
      match ρ x, ρ y with
      | .sc (.int k a), .sc (.int _ b) => some (.sc (.int k (if b < a then b else a)), h)
      | _, _ => none
    | _ => none
  | _ => none
end Go.Sh
