import Derived.Test.YtjchejmakdkioaaShW
import Derived.Laws.BytesArg
set_option linter.unusedVariables false
set_option linter.unusedSimpArgs false
namespace Go.Sh
variable {P : Program} {G : Tab} {n : Nat} {ops : Array Oper}
/-! ### string(bytes) -/
def isU8 : TK → Bool
  | .int .u8 => true
  | _ => false
theorem isU8_spec {K : TK} (h : isU8 K = true) : K = .int .u8 := by
  unfold isU8 at h
  split at h
  · rfl
  · cases h
def bytesE (G : Tab) (n : Nat) (ops : Array Oper) (i : Nat) (t : Tmps) (h : List AO) : Option (List AV) :=
  match opAt n ops i t with
  | some (.convert src dst x) =>
    match G.kind src, G.kind dst, conv h (ev t x) with
    | .slice e, .str, some (.sl e' rows _) => if decide (e = e') && isU8 (G.kind e) && decide ((G.S e).1 = 1) && bslOk (fun _ => (0, 0)) (ev t x) then some rows else none
    | _, _, _ => none
  | _ => none

theorem relF_ints {S : Sizes} {C : Ctx} {k : IntKind} : ∀ (xs : List Int) (cells : List Value), RelF S C 1 (xs.map (intA k)) cells → cells = xs.map (Value.int k)
  | [], cells, h => h
  | x :: xs, cells, h => by
      obtain ⟨c1, c2, rfl, h2, h3, h4⟩ := h
      obtain ⟨rfl, _⟩ := h2
      rw [relF_ints xs c2 h4]
      rfl

theorem LSpec.bytesStr (hG : G.ok P) (xs : List Int) {i : Nat} {t : Tmps} {h : List AO} (q : bytesE G n ops i t h = some (xs.map (intA .u8))) : LSpec P G.S n ops i .read t h (.sc (.string (strOfNums xs))) h := by
  unfold bytesE at q
  split at q
  · rename_i src dst x hop
    split at q
    · rename_i e e' rows f hk1 hk2 hcv
      split at q
      · rename_i hh
        injection q with q
        subst q
        simp only [Bool.and_eq_true, decide_eq_true_eq] at hh
        obtain ⟨⟨⟨he, hu8⟩, hsz⟩, hb⟩ := hh
        subst he
        have hku := isU8_spec hu8
        refine (opAt_spec hop).spec (fun _ => rfl) fun o ρv C h2 ho H hh2 hρ => ?_
        have hh2 := hh2 (by simp)
        subst hh2
        have hxv := hρ x (by simp [Op.operands])
        obtain ⟨d1, hd1, hf1⟩ := kind_desc hG hk1 (by simp)
        simp only [TK.fits] at hf1
        subst hf1
        obtain ⟨d2, hd2, hf2⟩ := kind_desc hG hk2 (by simp)
        simp only [TK.fits] at hf2
        subst hf2
        obtain ⟨d3, hd3, hf3⟩ := kind_desc hG hku (by simp)
        simp only [TK.fits] at hf3
        subst hf3
        obtain ⟨dst', op, oty, pos, after, guard⟩ := o
        simp only at ho
        subst ho
        obtain ⟨A, c, s1, s2⟩ := src_cells H (fun e o off n hc => by rw [hc] at hb; simp [bslOk] at hb) hcv hxv
        rw [List.length_map] at s1
        refine OpOK.same (v := .string (strOfNums xs)) (by simpa using H) ?_ ⟨rfl, rfl⟩
        rcases s2 with s2 | ⟨ad, cells, s2, s3, s4⟩
        · have hx0 : xs = [] := by simpa using s2
          subst hx0
          have : (convert src dst (.slice A 0 c)).run P C.w = .ok (.string ByteArray.empty) C.w := by
            rw [run_convert_bytes_string C.w src dst e _ 0 c hd1 hd3 hd2]
            cases A <;> simp [Conv.bytesToString, loadCells]
            all_goals rfl
          simp only [execOp, s1, List.length_nil, Sem.run_bind, this, Result.andThen_ok, Sem.run_pure]
          rfl
        · rw [hsz] at s3
          have hcs := relF_ints xs cells s3
          subst hcs
          by_cases hx0 : xs = []
          · subst hx0
            have : (convert src dst (.slice A 0 c)).run P C.w = .ok (.string ByteArray.empty) C.w := by
              rw [run_convert_bytes_string C.w src dst e _ 0 c hd1 hd3 hd2]
              cases A <;> simp [Conv.bytesToString, loadCells]
              all_goals rfl
            simp only [execOp, s1, List.length_nil, Sem.run_bind, this, Result.andThen_ok, Sem.run_pure]
            rfl
          · have hpos : 0 < xs.length := List.length_pos_iff.2 hx0
            have hcell := s4 0 (.int .u8 xs[0]) (by simp [hpos])
            have hspot : ad.spot = none := by
              unfold World.cell? Addr.add at hcell
              simp only [if_true] at hcell
              split at hcell
              · split at hcell
                · cases hcell
                · rename_i hs
                  cases hq : ad.spot with
                  | none => rfl
                  | some _ => rw [hq] at hs; simp at hs
              · cases hcell
            obtain ⟨b, off, sp⟩ := ad
            simp only at hspot
            subst hspot
            subst s2
            have := run_convert_bytes_arg (P := P) C.w src e hd1 hd3 b off xs.length c xs rfl (fun j hj => by
              have := s4 j (.int .u8 (xs.getD j 0)) (by simp [List.getElem?_map, List.getElem?_eq_getElem hj, List.getD_eq_getElem?_getD])
              rwa [addr_add] at this) dst hd2
            simp only [execOp, s1, Sem.run_bind, this, Result.andThen_ok, Sem.run_pure]
      · cases q
    · cases q
  · cases q
end Go.Sh
