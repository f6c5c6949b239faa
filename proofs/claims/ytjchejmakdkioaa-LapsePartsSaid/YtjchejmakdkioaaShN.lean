import Derived.Test.YtjchejmakdkioaaShM
set_option linter.unusedVariables false
namespace Go.Sh
/-! ### A type table, checked by the kernel -/
def zOne : AV → List Value → Option (List Value)
  | .arr k n xs, cs => if xs.length = n ∧ xs.length ≤ cs.length ∧ ((xs.zip cs).all fun p => match p.2 with | .int k' x => decide (k' = k) && decide (x = p.1) | _ => false) = true then some (cs.drop xs.length) else none
  | .sc (.int k x), .int k' y :: r => if k = k' ∧ x = y then some r else none
  | .sc (.bool x), .bool y :: r => if x = y then some r else none
  | .sc (.string x), .string y :: r => if x = y then some r else none
  | .sc (.pointer none), .pointer none :: r => some r
  | .sc (.map none), .map none :: r => some r
  | .sc (.chan none), .chan none :: r => some r
  | .sc .nilFunc, .nilFunc :: r => some r
  | .sc .nilIface, .nilIface :: r => some r
  | .sl _ [] true, .slice none 0 0 :: r => some r
  | _, _ => none
def zAll : List AV → List Value → Bool
  | [], [] => true
  | a :: r, cs => match zOne a cs with | some cs' => zAll r cs' | none => false
  | _, _ => false

theorem zOne_rel {S : Sizes} {C : Ctx} {a : AV} {cs r : List Value} (h : zOne a cs = some r) : ∃ c1, cs = c1 ++ r ∧ RelV S C a c1 := by
  unfold zOne at h
  split at h
  case h_1 =>
    rename_i k n xs
    split at h <;> cases h
    rename_i hh
    obtain ⟨h1, h2, h3⟩ := hh
    refine ⟨cs.take xs.length, (List.take_append_drop _ _).symm, h1, ?_⟩
    clear h1
    induction xs generalizing cs with
    | nil => simp
    | cons x xs ih =>
      cases cs with
      | nil => simp at h2
      | cons c cs =>
        simp only [List.zip_cons_cons, List.all_cons, Bool.and_eq_true] at h3
        obtain ⟨h4, h5⟩ := h3
        have := ih (cs := cs) (by simpa using h2) h5
        simp only [List.length_cons, List.take_succ_cons, List.map_cons, this]
        congr 1
        split at h4
        · simp only [Bool.and_eq_true, decide_eq_true_eq] at h4
          obtain ⟨h4, h4'⟩ := h4
          subst h4 h4'
          first | rfl | (rename_i he; first | exact he | exact he.symm | (rw [← he]) | (rw [he]))
        · cases h4
  all_goals first
    | (cases h; done)
    | (cases h; exact ⟨[_], rfl, rfl, rfl⟩)
    | (split at h <;> cases h; rename_i hh; first | (obtain ⟨rfl, rfl⟩ := hh; exact ⟨[_], rfl, rfl, rfl⟩) | (subst hh; exact ⟨[_], rfl, rfl, rfl⟩))
    | (cases h; exact ⟨[_], rfl, none, 0, rfl, Nat.le_refl _, fun _ => rfl, by decide, by simp [reach], .inl rfl⟩)

theorem zAll_rel {S : Sizes} {C : Ctx} : ∀ (fs : List AV) (cs : List Value), zAll fs cs = true → RelL S C fs cs
  | [], [], _ => rfl
  | [], _ :: _, h => by simp [zAll] at h
  | a :: r, cs, h => by
      have h' : (match zOne a cs with | some cs' => zAll r cs' | none => false) = true := by
        cases cs <;> simpa [zAll] using h
      split at h'
      · rename_i cs' he
        obtain ⟨c1, rfl, h1⟩ := zOne_rel (S := S) (C := C) he
        exact ⟨c1, cs', rfl, h1, zAll_rel r cs' h'⟩
      · cases h'

def kindB (d : TypeDesc) : TK → Bool
  | .int k => match d with | .int k' => decide (k' = k) | _ => false
  | .bool => match d with | .bool => true | _ => false
  | .str => match d with | .string => true | _ => false
  | .struct fl => match d with | .struct fs => decide (fs.toList.map (fun f => (f.offset, f.type)) = fl) | _ => false
  | .arr n e => match d with | .array n' e' => decide (n' = n ∧ e' = e) | _ => false
  | .slice e => match d with | .slice e' => decide (e' = e) | _ => false
  | .ptr e => match d with | .pointer e' => decide (e' = e) | _ => false
  | .other => match d with | .struct _ => false | .array _ _ => false | _ => true

theorem kindB_fits {d : TypeDesc} {K : TK} (h : kindB d K = true) : K.fits d := by
  cases K <;> cases d <;> simp_all [kindB, TK.fits]

def fitB (P : Program) (t : TypeId) (i : TInfo) : Bool :=
  (match P.info? t with
  | some inf => inf.size == i.size && inf.bytes == i.bytes && (match inf.zero with | some z => z.cells.size == i.size && zAll i.zero z.cells.toList | none => false)
  | none => false) && (match P.underlying t with | some d => kindB d i.kind | none => false)

theorem fitB_fits {P : Program} {t : TypeId} {i : TInfo} (h : fitB P t i = true) : TFits P t i := by
  unfold fitB at h
  rw [Bool.and_eq_true] at h
  obtain ⟨h1, h2⟩ := h
  constructor
  · split at h1
    · rename_i inf hi
      simp only [Bool.and_eq_true, beq_iff_eq] at h1
      obtain ⟨⟨h3, h4⟩, h5⟩ := h1
      split at h5
      · rename_i z hz
        simp only [Bool.and_eq_true, beq_iff_eq] at h5
        exact ⟨inf, z, hi, h3, h4, hz, h5.1, fun S C => zAll_rel _ _ h5.2⟩
      · cases h5
    · cases h1
  · split at h2
    · rename_i d hd
      exact ⟨d, hd, kindB_fits h2⟩
    · cases h2

theorem Tab.ok_of {P : Program} {G : Tab} (h : G.all (fun p => fitB P p.1 p.2) = true) : G.ok P := by
  intro t i hg
  induction G with
  | nil => cases hg
  | cons p G ih =>
    obtain ⟨t', i'⟩ := p
    simp only [List.all_cons, Bool.and_eq_true] at h
    unfold Tab.get at hg
    split at hg
    · rename_i e
      cases hg
      rw [beq_iff_eq] at e
      subst e
      exact fitB_fits h.1
    · exact ih h.2 hg
end Go.Sh
