import Derived.Test.YtjchejmakdkioaaShP
import Derived.Laws.StructEq
import Derived.ChangeKeysEq
set_option linter.unusedVariables false
set_option linter.unusedSimpArgs false
namespace Go.Sh
variable {P : Program} {G : Tab} {S : Sizes}
/-! ### == of structs and arrays -/
def cmpK : Nat → Value → Value → Option Bool
  | 0, .int k a, .int k' b => if k = k' then some (a == b) else none
  | 1, .bool a, .bool b => some (a == b)
  | 2, .string a, .string b => some (a == b)
  | _, _, _ => none
def cmpKL : List Nat → List Value → List Value → Option Bool
  | [], [], [] => some true
  | c :: cs, x :: xs, y :: ys =>
    match cmpK c x y, cmpKL cs xs ys with
    | some b, some r => some (b && r)
    | _, _ => none
  | _, _, _ => none

theorem cmpKL_len : ∀ {ls : List Nat} {xs ys : List Value} {b : Bool}, cmpKL ls xs ys = some b → xs.length = ls.length ∧ ys.length = ls.length
  | [], [], [], _, _ => ⟨rfl, rfl⟩
  | c :: cs, x :: xs, y :: ys, b, h => by
      simp only [cmpKL] at h
      split at h
      · rename_i h2
        have := cmpKL_len h2
        simp [this.1, this.2]
      · cases h
  | [], _ :: _, _, _, h => by simp [cmpKL] at h
  | [], [], _ :: _, _, h => by simp [cmpKL] at h
  | _ :: _, [], _, _, h => by simp [cmpKL] at h
  | _ :: _, _ :: _, [], _, h => by simp [cmpKL] at h

theorem cmpKL_append : ∀ {l1 l2 : List Nat} {xs ys : List Value} {b : Bool}, cmpKL (l1 ++ l2) xs ys = some b → ∃ b1 b2, cmpKL l1 (xs.take l1.length) (ys.take l1.length) = some b1 ∧ cmpKL l2 (xs.drop l1.length) (ys.drop l1.length) = some b2 ∧ b = (b1 && b2)
  | [], l2, xs, ys, b, h => ⟨true, b, by simp [cmpKL], by simpa using h, by simp⟩
  | c :: cs, l2, [], _, _, h => by simp [cmpKL] at h
  | c :: cs, l2, _ :: _, [], _, h => by simp [cmpKL] at h
  | c :: cs, l2, x :: xs, y :: ys, b, h => by
      simp only [List.cons_append, cmpKL] at h
      split at h
      · rename_i b0 r h1 h2
        injection h with h
        obtain ⟨b1, b2, k1, k2, k3⟩ := cmpKL_append h2
        exact ⟨b0 && b1, b2, by simp [cmpKL, h1, k1], by simpa using k2, by rw [← h, k3, Bool.and_assoc]⟩
      · cases h

def leafF (P : Program) (L : TypeId → Option (List Nat)) : List Field → Nat → Option (List Nat)
  | [], _ => some []
  | f :: fs, off =>
    if f.name ≠ "_" ∧ f.offset = off then
      match L f.type with
      | some l => (leafF P L fs (off + l.length)).map (l ++ ·)
      | none => none
    else none
def repL : Nat → List Nat → List Nat
  | 0, _ => []
  | n + 1, l => l ++ repL n l
def leafK (P : Program) : Nat → TypeId → Option (List Nat)
  | 0, _ => none
  | m + 1, t =>
    match P.info? t with
    | none => none
    | some i =>
      match P.underlying t with
      | some (.int _) => if i.size = 1 then some [0] else none
      | some .bool => if i.size = 1 then some [1] else none
      | some .string => if i.size = 1 then some [2] else none
      | some (.struct fs) => if P.stoodInHeld t = false then (leafF P (leafK P m) fs.toList 0).bind fun ls => if i.size = ls.length then some ls else none else none
      | some (.array n e) => (leafK P m e).bind fun l => if i.size = (repL n l).length then some (repL n l) else none
      | _ => none

def isAggD : TypeDesc → Bool
  | .struct _ | .array _ _ => true
  | _ => false
/-- a value out of its cells -/
def valD (d : TypeDesc) (xs : List Value) : Value :=
  if isAggD d then .agg xs.toArray else xs.headD undef

theorem run_isAggD {t : TypeId} {d : TypeDesc} (h : P.underlying t = some d) (w : World) : (isAgg t).run P w = .ok (isAggD d) w := by
  unfold isAgg
  simp only [Sem.run_bind, run_underlying h, Result.andThen_ok]
  cases d <;> rfl

theorem leafK_info {m : Nat} {t : TypeId} {ls : List Nat} (h : leafK P m t = some ls) : ∃ i d, P.info? t = some i ∧ P.underlying t = some d ∧ i.size = ls.length ∧ (isAggD d = false → ls.length = 1) := by
  cases m with
  | zero => simp [leafK] at h
  | succ m =>
    simp only [leafK] at h
    split at h
    · cases h
    · rename_i i hi
      split at h
      · rename_i hd; split at h <;> cases h; exact ⟨i, _, hi, hd, by assumption, fun _ => rfl⟩
      · rename_i hd; split at h <;> cases h; exact ⟨i, _, hi, hd, by assumption, fun _ => rfl⟩
      · rename_i hd; split at h <;> cases h; exact ⟨i, _, hi, hd, by assumption, fun _ => rfl⟩
      · rename_i hd
        split at h
        · obtain ⟨l, _, h⟩ := Option.bind_eq_some_iff.1 h
          split at h <;> cases h
          exact ⟨i, _, hi, hd, by assumption, fun q => by simp [isAggD] at q⟩
        · cases h
      · rename_i hd
        obtain ⟨l, _, h⟩ := Option.bind_eq_some_iff.1 h
        split at h <;> cases h
        exact ⟨i, _, hi, hd, by assumption, fun q => by simp [isAggD] at q⟩
      · cases h

theorem run_partD {t : TypeId} {i : TypeInfo} {d : TypeDesc} {n : Nat} (hi : P.info? t = some i) (hd : P.underlying t = some d) (hs : i.size = n) (hn : isAggD d = false → n = 1) {xs : List Value} {off : Nat} (hl : off + n ≤ xs.length) (w : World) :
    (part t xs.toArray off).run P w = .ok (valD d ((xs.drop off).take n)) w := by
  unfold part valD
  simp only [Sem.run_bind, run_isAggD hd, Result.andThen_ok]
  cases hq : isAggD d
  · have h1 := hn hq
    subst h1
    have : xs[off]? = some (xs[off]'(by omega)) := List.getElem?_eq_getElem (by omega)
    simp only [Bool.false_eq_true, if_false, List.getElem?_toArray, this, Sem.run_pure]
    rw [List.drop_eq_getElem_cons (by omega)]
    rfl
  · have hsz : (sizeOf t).run P w = .ok n w := by simp [sizeOf, typeInfo, hi, hs]
    simp only [if_true, Sem.run_bind, hsz, Result.andThen_ok, Sem.run_pure]
    congr 2
    apply Array.ext'
    simp [List.extract_eq_take_drop, Nat.add_sub_cancel_left]

theorem equalIn_leaf : ∀ (m : Nat) (t : TypeId) (ls : List Nat), leafK P m t = some ls → ∀ (d : TypeDesc), P.underlying t = some d → ∀ (xs ys : List Value) (b : Bool), cmpKL ls xs ys = some b → ∀ (k : Nat) (w : World), (Op.equalIn (m + k) t (valD d xs) (valD d ys)).run P w = .ok b w
  | 0, t, ls, h => by simp [leafK] at h
  | m + 1, t, ls, h => by
    intro d hd xs ys b hc k w
    simp only [leafK] at h
    rw [show m + 1 + k = (m + k) + 1 by omega]
    split at h
    · cases h
    · rename_i i hi
      rw [hd] at h
      split at h
      · rename_i hd'
        injection hd' with hd'; subst hd'
        split at h <;> cases h
        have hlen := cmpKL_len hc
        match xs, ys, hlen with
        | [x], [y], _ =>
          simp only [cmpKL] at hc
          split at hc
          · rename_i b0 r h1 h2
            injection hc with hc; injection h2 with h2; subst h2
            unfold cmpK at h1
            split at h1
            · split at h1
              · rename_i hk
                subst hk
                injection h1 with h1
                simp only [valD, isAggD, Bool.false_eq_true, if_false, List.headD_cons, Op.equalIn, Sem.run_bind, run_underlying hd, Result.andThen_ok, if_true, Sem.run_pure]
                rw [← hc, h1]; simp
              · cases h1
            all_goals simp_all
          · cases hc
      · rename_i hd'
        injection hd' with hd'; subst hd'
        split at h <;> cases h
        have hlen := cmpKL_len hc
        match xs, ys, hlen with
        | [x], [y], _ =>
          simp only [cmpKL] at hc
          split at hc
          · rename_i b0 r h1 h2
            injection hc with hc; injection h2 with h2; subst h2
            unfold cmpK at h1
            split at h1
            · simp_all
            · injection h1 with h1
              simp only [valD, isAggD, Bool.false_eq_true, if_false, List.headD_cons, Op.equalIn, Sem.run_bind, run_underlying hd, Result.andThen_ok, if_true, Sem.run_pure]
              rw [← hc, h1]; simp
            all_goals simp_all
          · cases hc
      · rename_i hd'
        injection hd' with hd'; subst hd'
        split at h <;> cases h
        have hlen := cmpKL_len hc
        match xs, ys, hlen with
        | [x], [y], _ =>
          simp only [cmpKL] at hc
          split at hc
          · rename_i b0 r h1 h2
            injection hc with hc; injection h2 with h2; subst h2
            unfold cmpK at h1
            split at h1
            · simp_all
            · simp_all
            · injection h1 with h1
              simp only [valD, isAggD, Bool.false_eq_true, if_false, List.headD_cons, Op.equalIn, Sem.run_bind, run_underlying hd, Result.andThen_ok, if_true, Sem.run_pure]
              rw [← hc, h1]; simp
            all_goals simp_all
          · cases hc
      · rename_i fs hd'
        injection hd' with hd'; subst hd'
        split at h
        · rename_i hst
          obtain ⟨l, hl, h⟩ := Option.bind_eq_some_iff.1 h
          split at h <;> cases h
          have hf : P.fieldsOf t = fs := by simp [Program.fieldsOf, hd]
          simp only [valD, isAggD, if_true]
          rw [run_equalIn_struct w _ t _ _ (by rw [hf]; exact hd) hst, hf]
          have key : ∀ (gs : List Field) (off : Nat) (l : List Nat) (b : Bool), leafF P (leafK P m) gs off = some l → cmpKL l (xs.drop off) (ys.drop off) = some b → (Op.eqFields (m + k) xs.toArray ys.toArray gs).run P w = .ok b w := by
            intro gs
            induction gs with
            | nil =>
              intro off l b h1 h2
              injection h1 with h1; subst h1
              have hh := cmpKL_len h2
              have e1 : xs.drop off = [] := List.eq_nil_of_length_eq_zero hh.1
              have e2 : ys.drop off = [] := List.eq_nil_of_length_eq_zero hh.2
              rw [e1, e2] at h2
              injection h2 with h2
              subst h2
              simp [Op.eqFields]
            | cons f gs ih =>
              intro off l b h1 h2
              simp only [leafF] at h1
              split at h1
              · rename_i hn
                obtain ⟨hn, ho⟩ := hn
                split at h1
                · rename_i lf hlf
                  obtain ⟨lr, hlr, rfl⟩ := Option.map_eq_some_iff.1 h1
                  have hh := cmpKL_len h2
                  rw [List.length_append, List.length_drop, List.length_drop] at hh
                  obtain ⟨b1, b2, q1, q2, q3⟩ := cmpKL_append h2
                  obtain ⟨fi, fd, i1, i2, i3, i4⟩ := leafK_info hlf
                  rw [List.drop_drop, List.drop_drop] at q2
                  subst ho
                  have hpos : isAggD fd = false → lf.length = 1 := i4
                  have hlx : lf.length ≤ xs.length - f.offset := by omega
                  have hly : lf.length ≤ ys.length - f.offset := by omega
                  by_cases hz : lf.length = 0
                  · have hagg : isAggD fd = true := by
                      cases hq : isAggD fd
                      · have := i4 hq; omega
                      · rfl
                    have px : (part f.type xs.toArray f.offset).run P w = .ok (valD fd ((xs.drop f.offset).take lf.length)) w := by
                      unfold part valD
                      have hsz : (sizeOf f.type).run P w = .ok lf.length w := by simp [sizeOf, typeInfo, i1, i3]
                      simp only [Sem.run_bind, run_isAggD i2, Result.andThen_ok, hagg, if_true, hsz, Sem.run_pure]
                      congr 2
                      apply Array.ext'
                      simp [hz]
                    have py : (part f.type ys.toArray f.offset).run P w = .ok (valD fd ((ys.drop f.offset).take lf.length)) w := by
                      unfold part valD
                      have hsz : (sizeOf f.type).run P w = .ok lf.length w := by simp [sizeOf, typeInfo, i1, i3]
                      simp only [Sem.run_bind, run_isAggD i2, Result.andThen_ok, hagg, if_true, hsz, Sem.run_pure]
                      congr 2
                      apply Array.ext'
                      simp [hz]
                    simp only [Op.eqFields, hn, ne_eq, not_false_eq_true, if_true, Sem.run_bind, px, py, equalIn_leaf m f.type lf hlf fd i2 _ _ b1 q1 k w, Result.andThen_ok]
                    have := ih (f.offset + lf.length) lr b2 hlr q2
                    cases b1
                    · simp [q3]
                    · simpa [q3] using this
                  · have px := run_partD i1 i2 i3 i4 (xs := xs) (off := f.offset) (by omega) w
                    have py := run_partD i1 i2 i3 i4 (xs := ys) (off := f.offset) (by omega) w
                    simp only [Op.eqFields, hn, ne_eq, not_false_eq_true, if_true, Sem.run_bind, px, py, equalIn_leaf m f.type lf hlf fd i2 _ _ b1 q1 k w, Result.andThen_ok]
                    have := ih (f.offset + lf.length) lr b2 hlr q2
                    cases b1
                    · simp [q3]
                    · simpa [q3] using this
                · cases h1
              · cases h1
          exact key fs.toList 0 _ b hl (by simpa using hc)
        · cases h
      · rename_i n e hd'
        injection hd' with hd'; subst hd'
        obtain ⟨l, hl, h⟩ := Option.bind_eq_some_iff.1 h
        split at h <;> cases h
        obtain ⟨ei, ed, i1, i2, i3, i4⟩ := leafK_info hl
        simp only [valD, isAggD, if_true]
        rw [run_equalIn_array w _ _ _ hd i1]
        have hco : P.cellsOf e = l.length := by simp [Program.cellsOf, i1, i3]
        rw [hco]
        have key : ∀ (r j : Nat) (b : Bool), cmpKL (repL r l) (xs.drop (j * l.length)) (ys.drop (j * l.length)) = some b → (Op.eqItems (m + k) e l.length xs.toArray ys.toArray (List.range' j r)).run P w = .ok b w := by
          intro r
          induction r with
          | zero =>
            intro j b h2
            have hh := cmpKL_len h2
            have e1 : xs.drop (j * l.length) = [] := List.eq_nil_of_length_eq_zero hh.1
            have e2 : ys.drop (j * l.length) = [] := List.eq_nil_of_length_eq_zero hh.2
            rw [e1, e2] at h2
            injection h2 with h2
            subst h2
            simp [Op.eqItems]
          | succ r ih =>
            intro j b h2
            have hh := cmpKL_len h2
            rw [List.length_drop, List.length_drop, repL, List.length_append] at hh
            obtain ⟨b1, b2, q1, q2, q3⟩ := cmpKL_append h2
            rw [List.drop_drop, List.drop_drop, show j * l.length + l.length = (j + 1) * l.length by rw [Nat.succ_mul]] at q2
            have := ih (j + 1) b2 q2
            rw [List.range'_succ]
            by_cases hz : l.length = 0
            · have hagg : isAggD ed = true := by
                cases hq : isAggD ed
                · have := i4 hq; omega
                · rfl
              have pz : ∀ zs : List Value, (part e zs.toArray (j * l.length)).run P w = .ok (valD ed ((zs.drop (j * l.length)).take l.length)) w := by
                intro zs
                unfold part valD
                have hsz : (sizeOf e).run P w = .ok l.length w := by simp [sizeOf, typeInfo, i1, i3]
                simp only [Sem.run_bind, run_isAggD i2, Result.andThen_ok, hagg, if_true, hsz, Sem.run_pure]
                congr 2
                apply Array.ext'
                simp [hz]
              simp only [Op.eqItems, Sem.run_bind, pz, equalIn_leaf m e l hl ed i2 _ _ b1 q1 k w, Result.andThen_ok]
              cases b1
              · simp [q3]
              · simpa [q3] using this
            · have px := run_partD i1 i2 i3 i4 (xs := xs) (off := j * l.length) (by omega) w
              have py := run_partD i1 i2 i3 i4 (xs := ys) (off := j * l.length) (by omega) w
              simp only [Op.eqItems, Sem.run_bind, px, py, equalIn_leaf m e l hl ed i2 _ _ b1 q1 k w, Result.andThen_ok]
              cases b1
              · simp [q3]
              · simpa [q3] using this
        have := key n 0 b (by simpa using hc)
        rw [List.range_eq_range']
        exact this
      · cases h

def clsA : AV → List Nat
  | .sc (.int _ _) => [0]
  | .sc (.bool _) => [1]
  | .sc (.string _) => [2]
  | .arr _ n _ => repL n [0]
  | _ => [3]
def clsL : List AV → List Nat
  | [] => []
  | a :: r => clsA a ++ clsL r
def cmpA : AV → AV → Option Bool
  | .sc (.int k x), .sc (.int k' y) => if k = k' then some (x == y) else none
  | .sc (.bool x), .sc (.bool y) => some (x == y)
  | .sc (.string x), .sc (.string y) => some (x == y)
  | .arr k n xs, .arr k' n' ys => if k = k' ∧ n = n' then some (xs == ys) else none
  | _, _ => none
def cmpAL : List AV → List AV → Option Bool
  | [], [] => some true
  | [a], [b] => cmpA a b
  | a :: as, b :: bs =>
    match cmpA a b, cmpAL as bs with
    | some x, some y => some (x && y)
    | _, _ => none
  | _, _ => none

theorem cmpKL_app {l1 l2 : List Nat} {b1 b2 : Bool} : ∀ {x1 x2 y1 y2 : List Value}, cmpKL l1 x1 y1 = some b1 → cmpKL l2 x2 y2 = some b2 → cmpKL (l1 ++ l2) (x1 ++ x2) (y1 ++ y2) = some (b1 && b2) := by
  induction l1 generalizing b1 with
  | nil =>
    intro x1 x2 y1 y2 h1 h2
    obtain ⟨q1, q2⟩ := cmpKL_len h1
    obtain rfl := List.eq_nil_of_length_eq_zero q1
    obtain rfl := List.eq_nil_of_length_eq_zero q2
    injection h1 with h1; subst h1
    simpa using h2
  | cons c cs ih =>
    intro x1 x2 y1 y2 h1 h2
    match x1, y1, h1 with
    | x :: xs, y :: ys, h1 =>
      simp only [cmpKL] at h1
      split at h1
      · rename_i b0 r h3 h4
        injection h1 with h1; subst h1
        simp only [List.cons_append, cmpKL, h3, ih h4 h2, Bool.and_assoc]
      · cases h1
    | [], _, h1 => simp [cmpKL] at h1
    | _ :: _, [], h1 => simp [cmpKL] at h1

theorem cmpK_arr (k : IntKind) : ∀ (n : Nat) (xs ys : List Int), xs.length = n → ys.length = n → cmpKL (repL n [0]) (xs.map (Value.int k)) (ys.map (Value.int k)) = some (xs == ys)
  | 0, xs, ys, h1, h2 => by
      obtain rfl := List.eq_nil_of_length_eq_zero h1
      obtain rfl := List.eq_nil_of_length_eq_zero h2
      rfl
  | n + 1, x :: xs, y :: ys, h1, h2 => by
      have := cmpK_arr k n xs ys (by simpa using h1) (by simpa using h2)
      simp [repL, cmpKL, cmpK, this]
  | n + 1, [], _, h1, _ => by simp at h1
  | n + 1, _ :: _, [], _, h2 => by simp at h2

theorem cmpA_rel {C : Ctx} {a b : AV} {r : Bool} (h : cmpA a b = some r) {xs ys : List Value} (h1 : RelV S C a xs) (h2 : RelV S C b ys) : cmpKL (clsA a) xs ys = some r := by
  unfold cmpA at h
  split at h
  · split at h <;> cases h
    rename_i hk; subst hk
    obtain ⟨rfl, _⟩ := h1
    obtain ⟨rfl, _⟩ := h2
    simp [clsA, cmpKL, cmpK]
  · cases h
    obtain ⟨rfl, _⟩ := h1
    obtain ⟨rfl, _⟩ := h2
    simp [clsA, cmpKL, cmpK]
  · cases h
    obtain ⟨rfl, _⟩ := h1
    obtain ⟨rfl, _⟩ := h2
    simp [clsA, cmpKL, cmpK]
  · split at h <;> cases h
    rename_i hk
    obtain ⟨hk, hn⟩ := hk
    subst hk; subst hn
    obtain ⟨q1, rfl⟩ := h1
    obtain ⟨q2, rfl⟩ := h2
    exact cmpK_arr _ _ _ _ q1 q2
  · cases h

theorem cmpAL_rel {C : Ctx} : ∀ {fs gs : List AV} {r : Bool}, cmpAL fs gs = some r → ∀ {xs ys : List Value}, RelL S C fs xs → RelL S C gs ys → cmpKL (clsL fs) xs ys = some r
  | [], [], r, h, xs, ys, h1, h2 => by
      obtain rfl : xs = [] := h1
      obtain rfl : ys = [] := h2
      simpa [cmpAL, clsL, cmpKL] using h
  | [a], [b], r, h, xs, ys, h1, h2 => by
      obtain ⟨c1, c2, rfl, k1, k2⟩ := h1
      obtain ⟨d1, d2, rfl, m1, m2⟩ := h2
      obtain rfl : c2 = [] := k2
      obtain rfl : d2 = [] := m2
      simpa [clsL] using cmpA_rel h k1 m1
  | a :: a2 :: as, b :: b2 :: bs, r, h, xs, ys, h1, h2 => by
      simp only [cmpAL] at h
      split at h
      · rename_i x y q1 q2
        injection h with h; subst h
        obtain ⟨c1, c2, rfl, k1, k2⟩ := h1
        obtain ⟨d1, d2, rfl, m1, m2⟩ := h2
        exact cmpKL_app (cmpA_rel q1 k1 m1) (cmpAL_rel q2 k2 m2)
      · cases h
  | [], _ :: _, _, h, _, _, _, _ => by simp [cmpAL] at h
  | _ :: _, [], _, h, _, _, _, _ => by simp [cmpAL] at h
  | [_], _ :: _ :: _, _, h, _, _, _, _ => by simp [cmpAL] at h
  | _ :: _ :: _, [_], _, h, _, _, _, _ => by simp [cmpAL] at h

theorem agg_cells {C : Ctx} {a : AV} {fs : List AV} {v : Value} (hc : chunks a = some fs) (hagg : a.single = false) (h : VRel S C a v) : ∃ cs, v = .agg cs ∧ RelL S C fs cs.toList := by
  cases a with
  | agg gs => injection hc with hc; subst hc; exact h
  | arr k n xs =>
    injection hc with hc; subst hc
    obtain ⟨h1, rfl⟩ := h
    exact ⟨_, rfl, RelL_one.2 ⟨h1, by simp⟩⟩
  | u => cases hc
  | tup _ => cases hc
  | _ => simp [AV.single] at hagg

/-- == and != of structs and arrays -/
theorem LSpec.eqAgg {n : Nat} {ops : Array Oper} {i : Nat} {t : Tmps} {h : List AO} {op : BinOp} {xt yt : TypeId} {x y : Operand} {a b : AV} {fs gs : List AV} {ls : List Nat} {d : TypeDesc} {r : Bool} (m : Nat) (hm : m ≤ 10000) (neg : Bool)
    (hop : opAt n ops i t = some (.binOp op xt x y yt)) (hopn : (match op with | .eql => !neg | .neq => neg | _ => false) = true) (hx : ev t x = a) (hy : ev t y = b) (ha : chunks a = some fs) (hb : chunks b = some gs) (ha1 : a.single = false) (hb1 : b.single = false)
    (hd : P.underlying xt = some d) (hagg : isAggD d = true) (hl : leafK P m xt = some ls) (hcl : clsL fs = ls) (hg : P.eqGuardType P.depth xt = false) (hc : cmpAL fs gs = some r) : LSpec P S n ops i .pure t h (.sc (.bool (if neg then !r else r))) h :=
  (opAt_spec hop).spec (fun _ => rfl) fun o ρv C h2 ho H _ hρ => by
    have hxv := hρ x (by simp [Op.operands])
    have hyv := hρ y (by simp [Op.operands])
    rw [hx] at hxv
    rw [hy] at hyv
    obtain ⟨cs, e1, r1⟩ := agg_cells ha ha1 hxv
    obtain ⟨ds, e2, r2⟩ := agg_cells hb hb1 hyv
    have hk := cmpAL_rel hc r1 r2
    rw [hcl] at hk
    have heq := equalIn_leaf m xt ls hl d hd _ _ r hk (10000 - m) C.w
    rw [show m + (10000 - m) = 10000 by omega] at heq
    simp only [valD, hagg, if_true] at heq
    obtain ⟨dst, op', oty, pos, after, guard⟩ := o
    simp only at ho
    subst ho
    have hgd : ∀ op : BinOp, (eqGuard op xt x y (.agg cs) (.agg ds)).run P C.w = .ok () C.w := fun op => run_eqGuard_agg C.w op xt x y cs ds hg
    refine OpOK.same (v := .bool (if neg then !r else r)) (by simpa using H) ?_ ⟨rfl, rfl⟩
    cases op <;> simp only [Bool.false_eq_true] at hopn
    · have hn : neg = false := by simpa using hopn
      subst hn
      simp only [execOp, e1, e2, Sem.run_bind, hgd, Result.andThen_ok, run_eql_struct, heq, Sem.run_pure]
      rfl
    · subst hopn
      simp only [execOp, e1, e2, Sem.run_bind, hgd, Result.andThen_ok, run_neq_struct, heq, Sem.run_pure]
      rfl
end Go.Sh
