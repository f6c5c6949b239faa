import Derived.Test.YtjchejmakdkioaaShT
import Derived.Carry
import Derived.Deep.Slices
import Derived.OpenShut
import Derived.SizedLaws
set_option linter.unusedVariables false
set_option linter.unusedSimpArgs false
namespace Go.Sh
variable {P : Program} {G : Tab}
/-! ### What an argument is -/
def rowA (G : Tab) (e : TypeId) (gs : List AV) : AV := if (G.kind e).isAgg then mkAgg gs else gs.headD .u

inductive Shaped (G : Tab) : TypeId → List AV → Prop
  | int {t : TypeId} {k : IntKind} {n : Int} : G.kind t = .int k → (Lit.int k n).wf = true → Shaped G t [.sc (.int k n)]
  | bool {t : TypeId} {b : Bool} : G.kind t = .bool → Shaped G t [.sc (.bool b)]
  | str {t : TypeId} {s : ByteArray} : G.kind t = .str → s.size ≤ maxLen → Shaped G t [.sc (.string s)]
  | struct {t : TypeId} {fl : List (Nat × TypeId)} {gss : List (List AV)} : G.kind t = .struct fl → gss.length = fl.length → (∀ (i : Nat) (f : Nat × TypeId) (gs : List AV), fl[i]? = some f → gss[i]? = some gs → Shaped G f.2 gs) → Shaped G t gss.flatten
  | arr {t e : TypeId} {k : IntKind} {n : Nat} {xs : List Int} : G.kind t = .arr n e → G.kind e = .int k → xs.length = n → (∀ x ∈ xs, (Lit.int k x).wf = true) → Shaped G t [.arr k n xs]
  | slice {t e : TypeId} {gss : List (List AV)} : G.kind t = .slice e → (∀ gs ∈ gss, Shaped G e gs) → Shaped G t [.sl e (gss.map (rowA G e)) false]

def contigF (G : Tab) (R : TypeId → Bool) : List (Nat × TypeId) → Nat → Option Nat
  | [], off => some off
  | f :: fs, off => if f.1 = off ∧ R f.2 = true then contigF G R fs (off + (G.S f.2).1) else none
def tabR (G : Tab) : Nat → TypeId → Bool
  | 0, _ => false
  | m + 1, t =>
    match G.get t with
    | none => false
    | some i =>
      match i.kind with
      | .int _ => true
      | .bool => true
      | .str => true
      | .struct fl => decide (contigF G (tabR G m) fl 0 = some i.size)
      | .arr n e => (match G.kind e with | .int _ => true | _ => false) && decide ((G.S e).1 = 1) && decide (i.size = n)
      | .slice e => tabR G m e && decide (0 < (G.S e).1)
      | _ => false

def noC (W : World) : Ctx := ⟨W, [], fun _ => False⟩
theorem noC_ok (W : World) (b : Nat) : (noC W).ok b := ⟨id, by simp [noC]⟩

theorem cells_spec {w : World} {base : Nat} {a : Addr} {n : Nat} {cs : List Value} (h : w.cells? base a n = some cs) : cs.length = n ∧ ∀ j v, cs[j]? = some v → w.cell? (a.add j) = some v := by
  unfold World.cells? at h
  split at h
  · have hl := mapM_some_length h
    rw [List.length_range] at hl
    refine ⟨hl, fun j v hj => ?_⟩
    have hjl : j < n := by rw [← hl]; exact (List.getElem?_eq_some_iff.1 hj).1
    have := mapM_some_get h j j (by simp [hjl])
    rw [this, hj]
  · cases h

theorem get_size (hG : G.ok P) {t : TypeId} {i : TInfo} (h : G.get t = some i) : P.cellsOf t = (G.S t).1 ∧ P.bytesOf t = (G.S t).2 := by
  obtain ⟨inf, z, k1, k2, k3, _⟩ := (hG t i h).info
  rw [S_get h]
  simp [Program.cellsOf, Program.bytesOf, k1, k2, k3]

theorem rowA_rel {C : Ctx} {S : Sizes} {e : TypeId} {gs : List AV} {cs : List Value} (hs : Shaped G e gs) (r : RelL S C gs cs) : RelV S C (rowA G e gs) cs := by
  unfold rowA
  cases hs with
  | int hk _ => rw [hk]; exact RelL_one.1 r
  | bool hk => rw [hk]; exact RelL_one.1 r
  | str hk _ => rw [hk]; exact RelL_one.1 r
  | slice hk _ => rw [hk]; exact RelL_one.1 r
  | arr hk _ _ _ => rw [hk]; exact RelL_one.1 r
  | struct hk _ _ =>
    rw [hk]
    simp only [TK.isAgg, if_true]
    unfold mkAgg
    split
    · rename_i h; rw [h] at r; exact RelL_one.1 r
    · exact r

theorem weightsAll_mem {H : Type} {e : TypeId} : ∀ {l : List (DataW H)} {d : DataW H} {n : Nat}, d ∈ l → n ∈ DataW.weights P e d → n ∈ DataW.weightsAll P e l
  | d0 :: r, d, n, hm, hn => by
      simp only [DataW.weightsAll, List.mem_append]
      rcases List.mem_cons.1 hm with h | h
      · subst h; exact .inl hn
      · exact .inr (weightsAll_mem h hn)

theorem trod_shaped (hG : G.ok P) {H : Type} {enc : TypeId × Value → H} {W : World} {sp : Nat → Bool} : ∀ (m : Nat) (t : TypeId), tabR G m t = true → ∀ (fuel : Nat) (cs : List Value) (d : DataW H) (p : List MemPlace),
    DataW.trod enc P W 0 sp true fuel t cs = some (d, p) → (∀ n ∈ DataW.weights P t d, n ≤ reachBytes) → ∃ gs, Shaped G t gs ∧ RelL G.S (noC W) gs cs
  | 0, t, h => by simp [tabR] at h
  | m + 1, t, h => by
    intro fuel cs d p ht hw
    simp only [tabR] at h
    split at h
    · cases h
    · rename_i i hi
      have hk : G.kind t = i.kind := by unfold Tab.kind; rw [hi]
      obtain ⟨dsc, hd, hfit⟩ := (hG t i hi).desc
      split at h
      · rename_i k hik
        rw [hik] at hfit hk
        simp only [TK.fits] at hfit
        subst hfit
        obtain ⟨n, rfl, _, hwf⟩ := DataW.trod_int hd ht
        exact ⟨_, .int hk hwf, RelL_one.2 ⟨rfl, rfl⟩⟩
      · rename_i hik
        rw [hik] at hfit hk
        simp only [TK.fits] at hfit
        subst hfit
        obtain ⟨b, rfl, _⟩ := DataW.trod_bool hd ht
        exact ⟨_, .bool hk, RelL_one.2 ⟨rfl, rfl⟩⟩
      · rename_i hik
        rw [hik] at hfit hk
        simp only [TK.fits] at hfit
        subst hfit
        obtain ⟨s, rfl, _, hs⟩ := DataW.trod_string hd ht
        exact ⟨_, .str hk hs, RelL_one.2 ⟨rfl, rfl⟩⟩
      · rename_i fl hik
        rw [hik] at hfit hk
        obtain ⟨fs, rfl, hfl⟩ := hfit
        have hcon := of_decide_eq_true h
        obtain ⟨xs, n, _, hx, hlen, hxl, hf⟩ := DataW.trod_struct hd ht
        injection hx with hx1 hx2
        have hcl : cs.length = i.size := by rw [hlen, (get_size hG hi).1, S_get hi]
        have hwe : ∀ q ∈ DataW.weightsEach P (fs.toList.map (·.type)) (xs.map (·.1)), q ≤ reachBytes := by
          intro q hq
          refine hw q ?_
          rw [hx1]
          simp only [DataW.weights, hd]
          exact hq
        have key : ∀ (gl : List Field) (ys : List (DataW H × List MemPlace)) (off : Nat), ys.length = gl.length → (∀ (j : Nat) (f : Field), gl[j]? = some f → DataW.trod enc P W 0 sp true n f.type ((cs.drop f.offset).take (P.cellsOf f.type)) = ys[j]?) →
            (∀ q ∈ DataW.weightsEach P (gl.map (·.type)) (ys.map (·.1)), q ≤ reachBytes) → contigF G (tabR G m) (gl.map fun f => (f.offset, f.type)) off = some cs.length →
            ∃ gss : List (List AV), gss.length = gl.length ∧ (∀ (j : Nat) (f : Field) (gs : List AV), gl[j]? = some f → gss[j]? = some gs → Shaped G f.type gs) ∧ RelL G.S (noC W) gss.flatten (cs.drop off) := by
          intro gl
          induction gl with
          | nil =>
            intro ys off h1 h2 h3 h4
            injection h4 with h4
            refine ⟨[], rfl, fun j f gs hj => by simp at hj, ?_⟩
            rw [h4, List.drop_length]
            rfl
          | cons f gl ih =>
            intro ys off h1 h2 h3 h4
            cases ys with
            | nil => simp at h1
            | cons y ys =>
              simp only [List.map_cons, contigF] at h4
              split at h4
              · rename_i hh
                obtain ⟨ho, hR⟩ := hh
                have hy := h2 0 f rfl
                simp only [List.getElem?_cons_zero] at hy
                have hgf : ∃ fi, G.get f.type = some fi := by
                  cases m with
                  | zero => simp [tabR] at hR
                  | succ m =>
                    simp only [tabR] at hR
                    split at hR
                    · cases hR
                    · exact ⟨_, by assumption⟩
                obtain ⟨fi, hfi⟩ := hgf
                have hsz := (get_size hG hfi).1
                obtain ⟨y1, y2⟩ := y
                obtain ⟨gs, g1, g2⟩ := trod_shaped hG m f.type hR n _ y1 y2 hy (fun q hq => h3 q (by simp only [List.map_cons, DataW.weightsEach, List.mem_append]; exact .inl hq))
                obtain ⟨gss, k1, k2, k3⟩ := ih ys (off + (G.S f.type).1) (by simpa using h1) (fun j f' hj => by simpa using h2 (j + 1) f' (by simpa using hj)) (fun q hq => h3 q (by simp only [List.map_cons, DataW.weightsEach, List.mem_append]; exact .inr hq)) h4
                refine ⟨gs :: gss, by simp [k1], ?_, ?_⟩
                · intro j f' gs' hj hgj
                  cases j with
                  | zero =>
                    simp only [List.getElem?_cons_zero, Option.some.injEq] at hj hgj
                    subst hj; subst hgj
                    exact g1
                  | succ j => exact k2 j f' gs' (by simpa using hj) (by simpa using hgj)
                · rw [List.flatten_cons]
                  subst ho
                  rw [hsz] at g2
                  have := RelL.append gs gss.flatten _ _ g2 k3
                  rw [← List.drop_drop, List.take_append_drop] at this
                  exact this
              · cases h4
        obtain ⟨gss, k1, k2, k3⟩ := key fs.toList xs 0 (by simpa using hxl) (fun j f hj => hf j f (by simpa using hj)) hwe (by rw [hfl, hcl]; exact hcon)
        refine ⟨gss.flatten, .struct hk (by rw [k1, ← hfl]; simp) (fun j f gs hj hg => ?_), by simpa using k3⟩
        rw [← hfl] at hj
        rw [List.getElem?_map] at hj
        obtain ⟨f', hf', rfl⟩ := Option.map_eq_some_iff.1 hj
        exact k2 j f' gs hf' hg
      · rename_i n e hik
        rw [hik] at hfit hk
        simp only [TK.fits] at hfit
        subst hfit
        simp only [Bool.and_eq_true, decide_eq_true_eq] at h
        obtain ⟨⟨h1, h2⟩, h3⟩ := h
        split at h1
        · rename_i k hek
          obtain ⟨ei, hei, hek'⟩ := kind_get hek (by simp)
          obtain ⟨ed, hed, hef⟩ := (hG e ei hei).desc
          rw [hek'] at hef
          simp only [TK.fits] at hef
          subst hef
          have hce : P.cellsOf e = 1 := by rw [(get_size hG hei).1, h2]
          obtain ⟨xs, m', _, _, hlen, hxl, hf⟩ := DataW.trod_array hd ht
          have hcl : cs.length = n := by rw [hlen, (get_size hG hi).1, S_get hi, h3]
          have each : ∀ j, j < n → ∃ x, cs[j]? = some (.int k x) ∧ (Lit.int k x).wf = true := by
            intro j hj
            have := hf j hj
            rw [hce, Nat.mul_one] at this
            obtain ⟨y, hy⟩ : ∃ y, xs[j]? = some y := ⟨_, List.getElem?_eq_getElem (by omega)⟩
            rw [hy] at this
            obtain ⟨x, e1, _, e2⟩ := DataW.trod_int hed this
            refine ⟨x, ?_, e2⟩
            rw [List.drop_eq_getElem_cons (by omega)] at e1
            simp only [List.take_succ_cons, List.take_zero, List.cons.injEq, and_true] at e1
            rw [List.getElem?_eq_getElem (by omega), e1]
          have all : ∀ (cs : List Value), (∀ j, j < cs.length → ∃ x, cs[j]? = some (.int k x) ∧ (Lit.int k x).wf = true) → ∃ xs : List Int, cs = xs.map (Value.int k) ∧ ∀ x ∈ xs, (Lit.int k x).wf = true := by
            intro cs
            induction cs with
            | nil => intro _; exact ⟨[], rfl, by simp⟩
            | cons c cs ih =>
              intro hh
              obtain ⟨x, e1, e2⟩ := hh 0 (by simp)
              obtain ⟨xs, e3, e4⟩ := ih fun j hj => by simpa using hh (j + 1) (by simpa using hj)
              simp only [List.getElem?_cons_zero, Option.some.injEq] at e1
              exact ⟨x :: xs, by simp [e1, e3], by simpa using ⟨e2, e4⟩⟩
          obtain ⟨zs, e1, e2⟩ := all cs (fun j hj => each j (by omega))
          have hzl : zs.length = n := by rw [← hcl, e1, List.length_map]
          exact ⟨_, .arr hk hek hzl e2, RelL_one.2 ⟨hzl, e1⟩⟩
        · cases h1
      · rename_i e hik
        rw [hik] at hfit hk
        simp only [TK.fits] at hfit
        subst hfit
        simp only [Bool.and_eq_true, decide_eq_true_eq] at h
        obtain ⟨h1, h2⟩ := h
        rcases Deep.open_slice hd ht with ⟨rfl, _⟩ | ⟨a, len, cap, mm, n, D, Pl, rfl, hb, hlc, hcm, hmm, hx, hel⟩
        · exact ⟨_, .slice (gss := []) hk (by simp), RelL_one.2 ⟨none, 0, rfl, Nat.le_refl _, fun h => by simp at h, by decide, by simp [reach], .inl rfl⟩⟩
        · injection hx with hx1 hx2
          have hge : ∃ ei, G.get e = some ei := by
            cases hq : G.get e with
            | none => unfold Tab.S at h2; rw [hq] at h2; simp at h2
            | some ei => exact ⟨ei, rfl⟩
          obtain ⟨ei, hei⟩ := hge
          have hsz := get_size hG hei
          have hlm : len ≤ mm := by rw [hmm]; split <;> omega
          have hwt : len * P.bytesOf e ≤ reachBytes := by
            have := hw _ (by rw [hx1]; simp only [DataW.weights, hd]; exact List.mem_cons_self)
            simp only [List.length_map, List.length_range] at this
            exact Nat.le_trans (Nat.mul_le_mul_right _ (by omega)) this
          have hwi : ∀ j, j < len → ∀ q ∈ DataW.weights P e (D j), q ≤ reachBytes := by
            intro j hj q hq
            refine hw q ?_
            rw [hx1]
            simp only [DataW.weights, hd]
            refine List.mem_cons_of_mem _ (List.mem_append.2 (.inl (weightsAll_mem (List.mem_map.2 ⟨j, by simpa using hj, rfl⟩) hq)))
          have each : ∀ j, j < len → ∃ gs cs', Shaped G e gs ∧ W.cells? 0 (a.add (j * P.cellsOf e)) (P.cellsOf e) = some cs' ∧ RelL G.S (noC W) gs cs' := by
            intro j hj
            obtain ⟨cs', c1, c2⟩ := hel j (by omega)
            obtain ⟨gs, g1, g2⟩ := trod_shaped hG m e h1 n cs' (D j) (Pl j) c2 (hwi j hj)
            exact ⟨gs, cs', g1, c1, g2⟩
          have all : ∀ (r j0 : Nat), j0 + r = len → ∃ gss : List (List AV), gss.length = r ∧ (∀ gs ∈ gss, Shaped G e gs) ∧ ∀ j gs, gss[j]? = some gs → ∃ cs', W.cells? 0 (a.add ((j0 + j) * P.cellsOf e)) (P.cellsOf e) = some cs' ∧ RelL G.S (noC W) gs cs' := by
            intro r
            induction r with
            | zero => intro j0 _; exact ⟨[], rfl, by simp, by simp⟩
            | succ r ih =>
              intro j0 hj0
              obtain ⟨gs, cs', g1, g2, g3⟩ := each j0 (by omega)
              obtain ⟨gss, k1, k2, k3⟩ := ih (j0 + 1) (by omega)
              refine ⟨gs :: gss, by simp [k1], by simpa using ⟨g1, k2⟩, fun j gs' hj => ?_⟩
              cases j with
              | zero =>
                simp only [List.getElem?_cons_zero, Option.some.injEq] at hj
                subst hj
                exact ⟨cs', g2, g3⟩
              | succ j =>
                have := k3 j gs' (by simpa using hj)
                rwa [show j0 + 1 + j = j0 + (j + 1) by omega] at this
          obtain ⟨gss, k1, k2, k3⟩ := all len 0 (by omega)
          refine ⟨_, .slice hk k2, RelL_one.2 ⟨some a, cap, by rw [List.length_map, k1], by rw [List.length_map, k1]; exact hlc, fun h => by simp at h, hcm, ?_, ?_⟩⟩
          · rw [List.length_map, k1, ← hsz.2]
            exact Nat.le_trans hwt (Nat.le_of_lt reachBytes_lt)
          · by_cases hz : gss = []
            · left; rw [hz]; rfl
            · right
              have hpos : 0 < len := by rw [← k1]; exact List.length_pos_iff.2 hz
              obtain ⟨gs0, hg0⟩ : ∃ gs, gss[0]? = some gs := ⟨_, List.getElem?_eq_getElem (by omega)⟩
              obtain ⟨cs0, c1, c2⟩ := k3 0 gs0 hg0
              have hc0 := cells_spec c1
              have hne : 0 < cs0.length := by rw [hc0.1, hsz.1]; exact h2
              obtain ⟨v0, hv0⟩ : ∃ v, cs0[0]? = some v := ⟨_, List.getElem?_eq_getElem hne⟩
              have hcell := hc0.2 0 v0 hv0
              have hspot : a.spot = none := by
                simp only [Nat.zero_add, Nat.zero_mul] at hcell
                unfold World.cell? at hcell
                unfold Addr.add at hcell
                simp only [if_true] at hcell
                split at hcell
                · split at hcell
                  · cases hcell
                  · rename_i hs
                    cases hq : a.spot with
                    | none => rfl
                    | some _ => rw [hq] at hs; simp at hs
                · cases hcell
              refine ⟨a.block, a.off, ?_, noC_ok W _, ?_⟩
              · obtain ⟨b, o, s⟩ := a
                simp only at hspot
                subst hspot
                rfl
              · have haa : a = ⟨a.block, a.off, none⟩ := by
                  obtain ⟨b, o, s⟩ := a
                  simp only at hspot
                  subst hspot
                  rfl
                have fin : ∀ (gl : List (List AV)) (off : Nat), (∀ gs ∈ gl, Shaped G e gs) → (∀ j gs, gl[j]? = some gs → ∃ cs', W.cells? 0 ⟨a.block, off + j * (G.S e).1, none⟩ (G.S e).1 = some cs' ∧ RelL G.S (noC W) gs cs') → RelR G.S (noC W).flat a.block (G.S e).1 (gl.map (rowA G e)) off := by
                  intro gl
                  induction gl with
                  | nil => intro off _ _; trivial
                  | cons gs gl ih =>
                    intro off q1 q2
                    obtain ⟨cs', r1, r2⟩ := q2 0 gs rfl
                    have r3 := cells_spec r1
                    refine ⟨⟨cs', ?_, r3.1, ?_, ?_⟩, ih (off + (G.S e).1) (fun g hg => q1 g (by simp [hg])) ?_⟩
                    · exact RelV.mono (Mono.flat (Step.refl (noC W)).mono) _ _ (by
                        have := rowA_rel (q1 gs (by simp)) r2
                        have hfl : (noC W).flat = noC W := by
                          unfold Ctx.flat noC
                          congr 1
                          funext b
                          simp
                        rw [hfl]; exact this)
                    · intro hnil
                      rw [hnil] at r3
                      simp at r3
                      omega
                    · intro j v hj
                      have := r3.2 j v hj
                      rw [addr_add] at this
                      have h' : W.cell? ⟨a.block, off + j, none⟩ = some v := by simpa using this
                      exact h'
                    · intro j g hj
                      have := q2 (j + 1) g (by simpa using hj)
                      rw [Nat.succ_mul, show off + (j * (G.S e).1 + (G.S e).1) = off + (G.S e).1 + j * (G.S e).1 by omega] at this
                      exact this
                refine fin gss a.off k2 fun j gs hj => ?_
                obtain ⟨cs', r1, r2⟩ := k3 j gs hj
                rw [haa, addr_add, hsz.1, Nat.zero_add] at r1
                exact ⟨cs', r1, r2⟩
      · cases h
end Go.Sh
