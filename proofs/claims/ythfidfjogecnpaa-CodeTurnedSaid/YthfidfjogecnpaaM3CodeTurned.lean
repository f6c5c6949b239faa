import Derived.WalkKit
import Derived.ProofKit
import Derived.ShutString
import Derived.ChangeOld
import Derived.Test.YthfidfjogecnpaaM2CodeTurned
set_option linter.unusedVariables false
set_option linter.unusedSimpArgs false
namespace Go.Sh
open Go.ChangeShapes Go.WideShapes Go.RowKit
variable {P : Program} {G : Tab}
theorem open_arg (hG : G.ok P) {H : Type} {enc : TypeId × Value → H} {W : World} {m : Nat} {t : TypeId} {v : Value} {d : DataW H} {p : List MemPlace} {r : Go.Reach} {b0 : Nat} (hR : tabR G m t = true) (hval : Value.okWide P W r b0 t v)
    (h : DataW.Trod enc P W 0 (fun _ => true) true t v d p) (hw : ∀ n ∈ DataW.weights P t d, n ≤ reachBytes) : ∃ gs, Shaped G t gs ∧ VRel1 G.S (noC W) (rowA G t gs) v := by
  obtain ⟨fuel, hf⟩ := h
  obtain ⟨gs, g1, g2⟩ := trod_shaped hG m t hR fuel v.cells.toList d p hf hw
  refine ⟨gs, g1, ?_⟩
  have desc : ∀ {K : TK}, G.kind t = K → K ≠ .other → ∃ dd, P.underlying t = some dd ∧ K.fits dd := fun h1 h2 => kind_desc hG h1 h2
  cases g1 with
  | int hk hwf =>
    obtain ⟨dd, h1, h2⟩ := desc hk (by simp)
    simp only [TK.fits] at h2
    subst h2
    obtain ⟨n, rfl⟩ := okWide_int h1 hval
    have := RelL_one.1 g2
    unfold rowA
    rw [hk]
    exact this
  | bool hk =>
    obtain ⟨dd, h1, h2⟩ := desc hk (by simp)
    simp only [TK.fits] at h2
    subst h2
    obtain ⟨n, rfl⟩ := okWide_bool h1 hval
    have := RelL_one.1 g2
    unfold rowA
    rw [hk]
    exact this
  | str hk _ =>
    obtain ⟨dd, h1, h2⟩ := desc hk (by simp)
    simp only [TK.fits] at h2
    subst h2
    obtain ⟨n, rfl⟩ := okWide_string h1 hval
    have := RelL_one.1 g2
    unfold rowA
    rw [hk]
    exact this
  | slice hk _ =>
    obtain ⟨dd, h1, h2⟩ := desc hk (by simp)
    simp only [TK.fits] at h2
    subst h2
    obtain ⟨a, l, c, rfl⟩ := okWide_slice h1 hval
    have := RelL_one.1 g2
    unfold rowA
    rw [hk]
    exact this
  | arr hk hek hn hwf =>
    obtain ⟨dd, h1, h2⟩ := desc hk (by simp)
    simp only [TK.fits] at h2
    subst h2
    have : ∃ cs, v = .agg cs := by
      unfold Value.okWide at hval
      rw [h1] at hval
      obtain ⟨cs, e, _⟩ := hval
      exact ⟨cs, e⟩
    obtain ⟨cs, rfl⟩ := this
    obtain ⟨q1, q2⟩ := RelL_one.1 g2
    unfold rowA
    rw [hk]
    refine ⟨q1, ?_⟩
    simp only [Value.cells] at q2
    rw [← q2]
  | struct hk h3 h4 =>
    rename_i fl gss
    obtain ⟨dd, h1, h2⟩ := desc hk (by simp)
    obtain ⟨fs, rfl, h2⟩ := h2
    obtain ⟨cs, rfl, _⟩ := okWide_struct h1 hval
    unfold rowA
    rw [hk]
    simp only [TK.isAgg, if_true]
    have := mkAgg_rel (S := G.S) (C := noC W) (cs := cs) g2
    have hne : ∀ l, mkAgg gss.flatten ≠ AV.tup l := by
      intro l
      unfold mkAgg
      split <;> simp
    cases hq : mkAgg gss.flatten with
    | tup l => exact absurd hq (hne l)
    | _ => rw [hq] at this; exact this

theorem below_of {W : World} {C' : Ctx} (st : StepW (noC W) C') : Below W.heap.size W C'.w :=
  ⟨st.os, st.tape, st.output, st.size, fun b hb => st.block b hb (noC_ok W b).2⟩

theorem law_call {f : FuncId} {avs : List AV} {vals : Array Value} {W : World} {b : Bool} (hc : ACalls P G.S f avs [] (.sc (.bool b)) []) (hv : VRels G.S (noC W) avs vals.toList) :
    Calls P f vals W fun e w' => e = .returned (.bool b) ∧ Below W.heap.size W w' := by
  refine (hc.2 (noC W) vals (HRel.nil (fun _ h => h.elim)) hv).mono ?_
  rintro e w' ⟨v, C', rfl, rfl, st, _, hv⟩
  exact ⟨by rw [sc_inv hv], below_of st⟩

theorem shut_arg {H : Type} {enc : TypeId × Value → H} {t : TypeId} (hl : laidOutB P = true) (hr : P.readableRec t = true) (hrow : t < P.types.size) {W W' : World} {v : Value} {d : DataW H} {ps : List MemPlace}
    (h : DataW.Trod enc P W 0 (fun _ => true) true t v d ps) (hb : Below W.heap.size W W') : DataW.Trod enc P W' 0 (fun b => decide (b < W.heap.size)) true t v d ps :=
  Below.trod hl hr hrow h hb (fun x hx => by obtain ⟨n, hn⟩ := h; exact DataW.trod_lt n t _ _ hn x hx)

theorem weights_of {H : Type} {ts : List TypeId} {ds : List (DataW H)} (h : (DataW.weightsEach P ts ds).all (· ≤ reachBytes) = true) {j : Nat} {t : TypeId} {d : DataW H} (ht : ts[j]? = some t) (hd : ds[j]? = some d) : ∀ n ∈ DataW.weights P t d, n ≤ reachBytes := by
  intro n hn
  have := List.all_eq_true.1 h n (DataW.weights_mem_each ht hd n hn)
  simpa using this

theorem Shaped.int_inv {t : TypeId} {k : IntKind} {gs : List AV} (hk : G.kind t = .int k) (h : Shaped G t gs) : ∃ n, gs = [.sc (.int k n)] ∧ (Lit.int k n).wf = true := by
  cases h <;> rename_i hk' <;> first
    | (rename_i h2; rw [hk] at hk'; injection hk' with e; subst e; exact ⟨_, rfl, h2⟩)
    | skip
  all_goals simp_all
theorem Shaped.bool_inv {t : TypeId} {gs : List AV} (hk : G.kind t = .bool) (h : Shaped G t gs) : ∃ b, gs = [.sc (.bool b)] := by
  cases h with
  | bool _ => exact ⟨_, rfl⟩
  | int h1 => rw [hk] at h1; cases h1
  | str h1 => rw [hk] at h1; cases h1
  | struct h1 => rw [hk] at h1; cases h1
  | arr h1 => rw [hk] at h1; cases h1
  | slice h1 => rw [hk] at h1; cases h1
theorem Shaped.arr_inv {t e : TypeId} {n : Nat} {k : IntKind} {gs : List AV} (hk : G.kind t = .arr n e) (hek : G.kind e = .int k) (h : Shaped G t gs) : ∃ xs : List Int, gs = [.arr k n xs] ∧ xs.length = n ∧ ∀ x ∈ xs, (Lit.int k x).wf = true := by
  cases h with
  | arr h1 h2 h3 h4 =>
    rw [hk] at h1
    injection h1 with e1 e2
    subst e1; subst e2
    rw [hek] at h2
    injection h2 with e3
    subst e3
    exact ⟨_, rfl, h3, h4⟩
  | int h1 => rw [hk] at h1; cases h1
  | bool h1 => rw [hk] at h1; cases h1
  | str h1 => rw [hk] at h1; cases h1
  | struct h1 => rw [hk] at h1; cases h1
  | slice h1 => rw [hk] at h1; cases h1
theorem Shaped.slice_inv {t e : TypeId} {gs : List AV} (hk : G.kind t = .slice e) (h : Shaped G t gs) : ∃ gss : List (List AV), gs = [.sl e (gss.map (rowA G e)) false] ∧ ∀ g ∈ gss, Shaped G e g := by
  cases h with
  | slice h1 h2 =>
    rw [hk] at h1
    injection h1 with e1
    subst e1
    exact ⟨_, rfl, h2⟩
  | int h1 => rw [hk] at h1; cases h1
  | bool h1 => rw [hk] at h1; cases h1
  | str h1 => rw [hk] at h1; cases h1
  | struct h1 => rw [hk] at h1; cases h1
  | arr h1 => rw [hk] at h1; cases h1
theorem Shaped.struct_inv {t : TypeId} {fl : List (Nat × TypeId)} {gs : List AV} (hk : G.kind t = .struct fl) (h : Shaped G t gs) : ∃ gss : List (List AV), gs = gss.flatten ∧ gss.length = fl.length ∧ ∀ (i : Nat) (f : Nat × TypeId) (g : List AV), fl[i]? = some f → gss[i]? = some g → Shaped G f.2 g := by
  cases h with
  | struct h1 h2 h3 =>
    rw [hk] at h1
    injection h1 with e1
    subst e1
    exact ⟨_, rfl, h2, h3⟩
  | int h1 => rw [hk] at h1; cases h1
  | bool h1 => rw [hk] at h1; cases h1
  | str h1 => rw [hk] at h1; cases h1
  | slice h1 => rw [hk] at h1; cases h1
  | arr h1 => rw [hk] at h1; cases h1
theorem rows_typedW {α : Type} {e : TypeId} {av : α → AV} {wf : α → Prop} : ∀ (gss : List (List AV)), (∀ g ∈ gss, ∃ x : α, rowA G e g = av x ∧ wf x) → ∃ xs : List α, gss.map (rowA G e) = xs.map av ∧ ∀ x ∈ xs, wf x
  | [], _ => ⟨[], rfl, by simp⟩
  | g :: r, h => by
      obtain ⟨x, hx, hw⟩ := h g (by simp)
      obtain ⟨xs, hxs, hws⟩ := rows_typedW r fun g' hg => h g' (by simp [hg])
      exact ⟨x :: xs, by simp [hx, hxs], by simpa using ⟨hw, hws⟩⟩
abbrev intW (k : IntKind) (n : Int) : Prop := (Lit.int k n).wf = true
abbrev arrW (k : IntKind) (n : Nat) (xs : List Int) : Prop := xs.length = n ∧ ∀ x ∈ xs, (Lit.int k x).wf = true
end Go.Sh

