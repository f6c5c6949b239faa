import Derived.Test.YtjchejmakdkioaaShD
set_option linter.unusedVariables false
set_option linter.unusedSimpArgs false
namespace Go.Sh
variable {P : Program} {G : Tab}

section
variable {dst : Option Tmp} {oty : TypeId} {pos : String} {after : Array Edge} {guard : Option (Nat × Bool)} {ρ : Operand → AV} {ρv : Operand → Value} {C : Ctx} {h h' : List AO} {r : AV}

theorem op_load (hG : G.ok P) {ty : TypeId} {x : Operand} (H : HRel G.S C h) (hρ : ∀ x, VRel G.S C (ρ x) (ρv x)) (hop : aop G ρ h (.load ty x) = some (r, h')) :
    OpOK P G.S ⟨dst, .load ty x, oty, pos, after, guard⟩ ρv C r h' := by
  simp only [aop] at hop
  split at hop
  · rename_i o off ix hx
    have hp := hρ x
    rw [hx] at hp
    obtain ⟨b, h1, h2, h3⟩ := ptr_inv hp
    split at hop
    · rename_i e fs ho
      obtain ⟨r', k1, k2⟩ := Option.map_eq_some_iff.1 hop
      injection k2 with k2 k3; subst k2; subst k3
      obtain ⟨cs, k4, k5⟩ := box_rel H ho h1
      obtain ⟨v, k6, k7⟩ := load_sound hG k5 (RelL.toList_cells (S := G.S) k4) h2 k1
      rw [Nat.zero_add] at k6
      refine OpOK.same H ?_ k7
      simp only [execOp, Instr.loadAt, h3, Instr.sureAddr, Sem.run_bind, Sem.run_pure, Result.andThen_ok, k6]
    · cases hop
  · rename_i fs off ix hx
    have hp := hρ x
    rw [hx] at hp
    obtain ⟨b, o0, cells, h3, h2, h4, h5, h6, h7⟩ := ep_inv hp
    obtain ⟨r', k1, k2⟩ := Option.map_eq_some_iff.1 hop
    injection k2 with k2 k3; subst k2; subst k3
    obtain ⟨v, k6, k7⟩ := load_sound hG (h5.mono (Mono.unflat C)) h7 h2 k1
    refine OpOK.same H ?_ k7
    simp only [execOp, Instr.loadAt, h3, Instr.sureAddr, Sem.run_bind, Sem.run_pure, Result.andThen_ok, k6]
  · cases hop

theorem op_store (hG : G.ok P) {ty : TypeId} {x y : Operand} (H : HRel G.S C h) (hρ : ∀ x, VRel G.S C (ρ x) (ρv x)) (hop : aop G ρ h (.store ty x y) = some (r, h')) :
    OpOK P G.S ⟨dst, .store ty x y, oty, pos, after, guard⟩ ρv C r h' := by
  simp only [aop] at hop
  split at hop
  · rename_i o off ix hx
    have hp := hρ x
    rw [hx] at hp
    obtain ⟨b, h1, h2, h3⟩ := ptr_inv hp
    split at hop
    · rename_i e fs ho
      obtain ⟨fs', k1, k2⟩ := Option.map_eq_some_iff.1 hop
      injection k2 with k2 k3; subst k2; subst k3
      obtain ⟨w', k4, k5, k6⟩ := store_sound hG H ho h1 h2 (hρ y) k1
      refine ⟨_, k5, k6, .inr ⟨?_, rfl⟩⟩
      simp only [execOp, Instr.storeAt, h3, Instr.sureAddr, Sem.run_bind, Sem.run_pure, Result.andThen_ok, k4]
    · cases hop
  · cases hop

theorem op_nilCheck {x : Operand} (H : HRel G.S C h) (hρ : ∀ x, VRel G.S C (ρ x) (ρv x)) (hop : aop G ρ h (.nilCheck x) = some (r, h')) :
    OpOK P G.S ⟨dst, .nilCheck x, oty, pos, after, guard⟩ ρv C r h' := by
  simp only [aop] at hop
  split at hop
  · rename_i o off ix hx
    injection hop with hop; injection hop with h1 h2; subst h1; subst h2
    have hp := hρ x
    rw [hx] at hp
    obtain ⟨b, _, _, h3⟩ := ptr_inv hp
    refine OpOK.same H (v := ρv x) ?_ hp
    simp only [execOp, h3, Sem.run_pure]
  · rename_i fs off ix hx
    injection hop with hop; injection hop with h1 h2; subst h1; subst h2
    have hp := hρ x
    rw [hx] at hp
    obtain ⟨b, o0, cells, h3, _⟩ := ep_inv hp
    refine OpOK.same H (v := ρv x) ?_ hp
    simp only [execOp, h3, Sem.run_pure]
  · cases hop

theorem op_binOp (hG : G.ok P) {op : BinOp} {xt yt : TypeId} {x y : Operand} (H : HRel G.S C h) (hρ : ∀ x, VRel G.S C (ρ x) (ρv x)) (hop : aop G ρ h (.binOp op xt x y yt) = some (r, h')) :
    OpOK P G.S ⟨dst, .binOp op xt x y yt, oty, pos, after, guard⟩ ρv C r h' := by
  simp only [aop] at hop
  obtain ⟨r', k1, k2⟩ := Option.map_eq_some_iff.1 hop
  injection k2 with k2 k3; subst k2; subst k3
  obtain ⟨z, k4, k5⟩ := binA_run hG k1 (hρ x) (hρ y) x y
  refine OpOK.same H ?_ k5
  simp only [execOp, Sem.run_bind, k4, Result.andThen_ok, Sem.run_pure] at k4 ⊢

theorem op_unOp {op : UnOp} {t : TypeId} {x : Operand} (H : HRel G.S C h) (hρ : ∀ x, VRel G.S C (ρ x) (ρv x)) (hop : aop G ρ h (.unOp op t x) = some (r, h')) :
    OpOK P G.S ⟨dst, .unOp op t x, oty, pos, after, guard⟩ ρv C r h' := by
  simp only [aop] at hop
  obtain ⟨r', k1, k2⟩ := Option.map_eq_some_iff.1 hop
  injection k2 with k2 k3; subst k2; subst k3
  obtain ⟨z, k4, k5⟩ := unA_run (P := P) k1 (hρ x)
  refine OpOK.same H ?_ k5
  simp only [execOp, Sem.run_bind, k4, Result.andThen_ok, Sem.run_pure]

theorem op_convert (hG : G.ok P) {src d : TypeId} {x : Operand} (H : HRel G.S C h) (hρ : ∀ x, VRel G.S C (ρ x) (ρv x)) (hop : aop G ρ h (.convert src d x) = some (r, h')) :
    OpOK P G.S ⟨dst, .convert src d x, oty, pos, after, guard⟩ ρv C r h' := by
  simp only [aop] at hop
  split at hop
  · rename_i k1 k2 k3 n hs hd hx
    injection hop with hop; injection hop with h1 h2; subst h1; subst h2
    have hp := hρ x
    rw [hx] at hp
    have hv := sc_inv hp
    obtain ⟨d1, e1, f1⟩ := kind_desc hG hs (by simp)
    obtain ⟨d2, e2, f2⟩ := kind_desc hG hd (by simp)
    simp only [TK.fits] at f1 f2
    subst f1; subst f2
    refine OpOK.same H ?_ (sc_mk rfl)
    simp only [execOp, convert, hv, Sem.run_bind, run_underlying e1, run_underlying e2, Result.andThen_ok, Conv.intToInt, Sem.run_pure]
  · cases hop

theorem fl_get {fs : Array Field} {fl : List (Nat × TypeId)} (h : fs.toList.map (fun f => (f.offset, f.type)) = fl) {f o : Nat} {t : TypeId} (hf : fl[f]? = some (o, t)) : ∃ fd, fs[f]? = some fd ∧ fd.offset = o ∧ fd.type = t := by
  subst h
  rw [List.getElem?_map] at hf
  obtain ⟨fd, h1, h2⟩ := Option.map_eq_some_iff.1 hf
  injection h2 with h2 h3
  exact ⟨fd, by simpa using h1, h2, h3⟩

theorem el_inv {S : Sizes} {C : Ctx} {e : TypeId} {o k i off : Nat} {v : Value} (h : VRel S C (.el e o k i off) v) : ∃ v0 kk mn, v.oneCell' = true ∧ C.m[o]? = some (.row v0 kk mn) ∧ k ≤ kk ∧
      (k = kk → ∃ g n c, v0 = .slice (some ⟨g, 0, none⟩) n c ∧ i < n ∧ v = .pointer (some ⟨g, i * (S e).1 + off, none⟩)) := by
  obtain ⟨p, v0, kk, mn, h1, h2⟩ := (h : RelV S C (.el e o k i off) [v])
  have : p = v := by simpa using h1.symm
  subst this
  exact ⟨v0, kk, mn, h2⟩

theorem op_fieldAddr (hG : G.ok P) {s : TypeId} {x : Operand} {f : Nat} (H : HRel G.S C h) (hρ : ∀ x, VRel G.S C (ρ x) (ρv x)) (hop : aop G ρ h (.fieldAddr s x f) = some (r, h')) :
    OpOK P G.S ⟨dst, .fieldAddr s x f, oty, pos, after, guard⟩ ρv C r h' := by
  simp only [aop] at hop
  split at hop
  · rename_i i hi
    split at hop
    · rename_i fl hk
      split at hop
      · rename_i o' ft hfl
        split at hop
        · rename_i fi hfi
          split at hop
          · cases hop
          · rename_i hsz
            obtain ⟨d, hd, hk'⟩ := (hG s i hi).desc
            rw [hk] at hk'
            obtain ⟨fs, rfl, hfs⟩ := hk'
            obtain ⟨fd, g1, g2, g3⟩ := fl_get hfs hfl
            have hfd := hG ft fi hfi
            have hplace : ∀ a : Addr, (fieldPlace a fd).run P C.w = .ok (a.add fd.offset) C.w := by
              intro a
              unfold fieldPlace
              rw [g3]
              simp only [Sem.run_bind, run_size hfd, Result.andThen_ok, if_neg hsz, Sem.run_pure]
            split at hop
            · rename_i o off hx
              injection hop with hop; injection hop with h1 h2; subst h1; subst h2
              have hp := hρ x
              rw [hx] at hp
              obtain ⟨b, k1, k2, k3⟩ := ptr_inv hp
              refine OpOK.same (v := .pointer (some ⟨b, off + o', none⟩)) H ?_ ⟨b, k1, trivial, by simp [ixo]⟩
              simp only [ixo, Nat.add_zero] at k3
              simp only [execOp, Instr.fieldAt, Sem.run_bind, run_underlying hd, Result.andThen_ok, g1, k3, Instr.sureAddr, Sem.run_pure, hplace, addr_add, g2]
            · rename_i gs off hx
              injection hop with hop; injection hop with h1 h2; subst h1; subst h2
              have hp := hρ x
              rw [hx] at hp
              obtain ⟨b, o0, cells, k3, k1⟩ := ep_inv hp
              refine OpOK.same (v := .pointer (some ⟨b, o0 + off + o', none⟩)) H ?_ ⟨b, o0, cells, by simp [ixo, Nat.add_assoc], k1⟩
              simp only [ixo, Nat.add_zero] at k3
              simp only [execOp, Instr.fieldAt, Sem.run_bind, run_underlying hd, Result.andThen_ok, g1, k3, Instr.sureAddr, Sem.run_pure, hplace, addr_add, g2]
            · rename_i e o k j off hx
              split at hop
              · rename_i e' rows k' app ho
                split at hop
                · rename_i hkk
                  subst hkk
                  injection hop with hop; injection hop with h1 h2; subst h1; subst h2
                  have hp := hρ x
                  rw [hx] at hp
                  obtain ⟨v0, kk, mn, k1, k2, k3, k4⟩ := el_inv hp
                  have hkk := (H.rel o _ _ ho k2).1
                  obtain ⟨g, n, c, k5, k6, k7⟩ := k4 hkk
                  refine OpOK.same (v := .pointer (some ⟨g, j * (G.S e).1 + off + o', none⟩)) H ?_ ⟨_, v0, kk, mn, rfl, rfl, k2, k3, fun _ => ⟨g, n, c, k5, k6, by rw [Nat.add_assoc]⟩⟩
                  simp only [execOp, Instr.fieldAt, Sem.run_bind, run_underlying hd, Result.andThen_ok, g1, k7, Instr.sureAddr, Sem.run_pure, hplace, addr_add, g2]
                · cases hop
              · cases hop
            · cases hop
        · cases hop
      · cases hop
    · cases hop
  · cases hop

theorem op_indexAddr (hG : G.ok P) {t : TypeId} {x i : Operand} (H : HRel G.S C h) (hρ : ∀ x, VRel G.S C (ρ x) (ρv x)) (hop : aop G ρ h (.indexAddr t x i) = some (r, h')) :
    OpOK P G.S ⟨dst, .indexAddr t x i, oty, pos, after, guard⟩ ρv C r h' := by
  simp only [aop] at hop
  split at hop
  · rename_i _ _ _ n e o off k j hk hx hi
    have hp := hρ x
    rw [hx] at hp
    have hq := hρ i
    rw [hi] at hq
    have hq := sc_inv hq
    obtain ⟨b, k1, k2, k3⟩ := ptr_inv hp
    obtain ⟨d, hd, hf⟩ := kind_desc hG hk (by simp)
    simp only [TK.fits] at hf
    subst hf
    split at hop
    · rename_i ei hei
      split at hop
      · rename_i hc
        obtain ⟨c1, c2, c3, c4⟩ := hc
        injection hop with hop; injection hop with h1 h2; subst h1; subst h2
        refine OpOK.same (v := .pointer (some ⟨b, off + j.toNat, none⟩)) H ?_ ⟨b, k1, by simp only [ixok]; omega, rfl⟩
        simp only [ixo, Nat.add_zero] at k3
        simp only [execOp, Instr.indexAt, hq, asIntOf, Sem.run_bind, Sem.run_pure, Result.andThen_ok, run_underlying hd, k3, Instr.sureAddr]
        rw [if_pos ⟨c3, c4⟩]
        simp only [Sem.run_bind, run_size (hG e ei hei), Result.andThen_ok, Sem.run_pure, addr_add, c2, Nat.mul_one]
      · cases hop
    · cases hop
  · rename_i _ _ _ e e' rows full k j hk hx hi
    have hp := hρ x
    rw [hx] at hp
    have hq := hρ i
    rw [hi] at hq
    have hq := sc_inv hq
    obtain ⟨a, c, s1, s2, s3, s4, s5, s6⟩ := sl_inv hp
    obtain ⟨d, hd, hf⟩ := kind_desc hG hk (by simp)
    simp only [TK.fits] at hf
    subst hf
    split at hop
    · rename_i hj
      obtain ⟨rfl, hj, hsome⟩ := hj
      obtain ⟨ei, hei⟩ := Option.isSome_iff_exists.1 hsome
      split at hop
      · rename_i r0 hr0
        obtain ⟨fs, k1, k2⟩ := Option.map_eq_some_iff.1 hop
        injection k2 with k2 k3; subst k2; subst k3
        have hlt : j.toNat < rows.length := (List.getElem?_eq_some_iff.1 hr0).1
        rcases s6 with s6 | ⟨b, off, s6, s7, s8⟩
        · rw [s6] at hlt; simp at hlt
        · obtain ⟨cs, m1, m2, m3, m4⟩ := RelR.get rows off j.toNat r0 s8 hr0
          refine OpOK.same (v := .pointer (some ⟨b, off + j.toNat * (G.S e).1, none⟩)) H ?_ ⟨b, off + j.toNat * (G.S e).1, cs, by simp [ixo], trivial, s7, chunks_relV k1 m1, m3, m4⟩
          have hesz : (sizeOf e).run P C.w = .ok (G.S e).1 C.w := by
            rw [S_get hei]
            exact run_size (hG e ei hei) C.w
          subst s6
          simp only [execOp, Instr.indexAt, hq, asIntOf, Sem.run_bind, Sem.run_pure, Result.andThen_ok, run_underlying hd, s1]
          rw [if_pos ⟨hj, by omega⟩]
          simp only [Sem.run_bind, hesz, Result.andThen_ok, Sem.run_pure, addr_add]
      · cases hop
    · cases hop
  · cases hop

theorem op_extract {x : Operand} {i : Nat} (H : HRel G.S C h) (hρ : ∀ x, VRel G.S C (ρ x) (ρv x)) (hop : aop G ρ h (.extract x i) = some (r, h')) :
    OpOK P G.S ⟨dst, .extract x i, oty, pos, after, guard⟩ ρv C r h' := by
  simp only [aop] at hop
  split at hop
  · rename_i vs hx
    obtain ⟨r', k1, k2⟩ := Option.map_eq_some_iff.1 hop
    injection k2 with k2 k3; subst k2; subst k3
    have hp := hρ x
    rw [hx] at hp
    obtain ⟨l, hl, hr⟩ := hp
    have key : ∀ (as : List AV) (ws : List Value) (i : Nat) (a : AV), VRels G.S C as ws → as[i]? = some a → ∃ v, ws[i]? = some v ∧ VRel1 G.S C a v := by
      intro as ws i a hrel
      induction hrel generalizing i with
      | nil => intro hh; simp at hh
      | cons h1 h2 ih =>
        intro hh
        cases i with
        | zero =>
          have hh : some _ = some a := hh
          injection hh with hh
          subst hh
          exact ⟨_, rfl, h1⟩
        | succ i => simpa using ih i (by simpa using hh)
    obtain ⟨v, hv, hrv⟩ := key vs l.toList i r' hr k1
    have hvr : VRel G.S C r' v := by
      cases r' with
      | tup _ => exact hrv.elim
      | _ => exact hrv
    refine OpOK.same H ?_ hvr
    have hv' : l[i]? = some v := by simpa using hv
    simp only [execOp, Instr.extract, hl, hv', Sem.run_bind, Sem.run_pure, Result.andThen_ok]
  · cases hop

theorem op_makeFunc {fn : Fn} {first caps : Array Operand} (H : HRel G.S C h) (hρ : ∀ x, VRel G.S C (ρ x) (ρv x)) (hop : aop G ρ h (.makeFunc fn first caps) = some (r, h')) :
    OpOK P G.S ⟨dst, .makeFunc fn first caps, oty, pos, after, guard⟩ ρv C r h' := by
  cases fn <;> simp only [aop, reduceCtorEq] at hop
  split at hop
  · rename_i f hc
    injection hop with hop; injection hop with h1 h2; subst h1; subst h2
    have hfirst : first = #[] := Array.eq_empty_of_size_eq_zero hc.1
    subst hfirst
    refine OpOK.same H (v := .func (.func f) #[] (caps.map ρv)) ?_ ⟨caps.map ρv, rfl, ?_⟩
    · simp [execOp, Instr.makeFunc]
    · rw [Array.toList_map]
      exact caps_rel hρ _ hc.2
  · cases hop

theorem op_min {xs : Array Operand} {ts : Array TypeId} (H : HRel G.S C h) (hρ : ∀ x, VRel G.S C (ρ x) (ρv x)) (hop : aop G ρ h (.call { callee := .builtin .min, args := xs, argTypes := ts }) = some (r, h')) :
    OpOK P G.S ⟨dst, .call { callee := .builtin .min, args := xs, argTypes := ts }, oty, pos, after, guard⟩ ρv C r h' := by
  simp only [aop] at hop
  split at hop
  · rename_i x y hxs
    split at hop
    · rename_i k a k' b hx hy
      injection hop with hop; injection hop with h1 h2; subst h1; subst h2
      have h1 := hρ x
      have h2 := hρ y
      rw [hx] at h1
      rw [hy] at h2
      have h1 := sc_inv h1
      have h2 := sc_inv h2
      obtain rfl : xs = #[x, y] := by rw [← Array.toArray_toList (xs := xs), hxs]
      refine OpOK.same H ?_ (sc_mk rfl)
      simp [execOp, resolve, invoke, builtin, Builtin.min_, Builtin.min2, h1, h2]
    · cases hop
  · cases hop

theorem op_max {xs : Array Operand} {ts : Array TypeId} (H : HRel G.S C h) (hρ : ∀ x, VRel G.S C (ρ x) (ρv x)) (hop : aop G ρ h (.call { callee := .builtin .max, args := xs, argTypes := ts }) = some (r, h')) :
    OpOK P G.S ⟨dst, .call { callee := .builtin .max, args := xs, argTypes := ts }, oty, pos, after, guard⟩ ρv C r h' := by
  simp only [aop] at hop
  split at hop
  · rename_i x y hxs
    split at hop
    · rename_i k a k' b hx hy
      injection hop with hop; injection hop with h1 h2; subst h1; subst h2
      have h1 := hρ x
      have h2 := hρ y
      rw [hx] at h1
      rw [hy] at h2
      have h1 := sc_inv h1
      have h2 := sc_inv h2
      obtain rfl : xs = #[x, y] := by rw [← Array.toArray_toList (xs := xs), hxs]
      refine OpOK.same H ?_ (sc_mk rfl)
      simp [execOp, resolve, invoke, builtin, Builtin.max_, Builtin.max2, h1, h2]
    · cases hop
  · cases hop

theorem own_inv {S : Sizes} {C : Ctx} {o k : Nat} {v : Value} (h : VRel S C (.own o k) v) : ∃ v0 kk mn, v.oneCell' = true ∧ C.m[o]? = some (.row v0 kk mn) ∧ k ≤ kk ∧ (k = kk → v = v0) := by
  obtain ⟨p, v0, kk, mn, h1, h2⟩ := (h : RelV S C (.own o k) [v])
  have : p = v := by simpa using h1.symm
  subst this
  exact ⟨v0, kk, mn, h2⟩

/-- the slice that a row is now -/
theorem row_slice {S : Sizes} {C : Ctx} {h : List AO} (H : HRel S C h) {o : Nat} {e : TypeId} {rows : List AV} {k : Nat} {app : Bool} (ho : h[o]? = some (.row e rows k app)) {v0 : Value} {kk : Nat} {mn : Bool} (hm : C.m[o]? = some (.row v0 kk mn)) : k = kk ∧ ∃ a c, v0 = .slice a rows.length c := by
  obtain ⟨h1, h2, h3, h4⟩ := H.rel o _ _ ho hm
  refine ⟨h1, ?_⟩
  cases mn with
  | false =>
    obtain ⟨a, c, h5, _⟩ := h3 rfl
    exact ⟨a, c, by simpa using h5⟩
  | true =>
    obtain ⟨_, _, cells, h5, _⟩ := h4 rfl
    rcases h5.2 with ⟨rfl, h6⟩ | ⟨g, cap, cur, rfl, _⟩
    · rw [h6]; exact ⟨none, 0, rfl⟩
    · exact ⟨_, _, rfl⟩

theorem op_len (hG : G.ok P) {xs : Array Operand} {ts : Array TypeId} (H : HRel G.S C h) (hρ : ∀ x, VRel G.S C (ρ x) (ρv x)) (hop : aop G ρ h (.call { callee := .builtin .len, args := xs, argTypes := ts }) = some (r, h')) :
    OpOK P G.S ⟨dst, .call { callee := .builtin .len, args := xs, argTypes := ts }, oty, pos, after, guard⟩ ρv C r h' := by
  simp only [aop] at hop
  split at hop
  · rename_i x t hxs hts
    obtain rfl : xs = #[x] := by rw [← Array.toArray_toList (xs := xs), hxs]
    obtain rfl : ts = #[t] := by rw [← Array.toArray_toList (xs := ts), hts]
    have hp := hρ x
    split at hop
    · rename_i e e' rows full hk hx
      injection hop with hop; injection hop with h1 h2; subst h1; subst h2
      rw [hx] at hp
      obtain ⟨a, c, s1, _⟩ := sl_inv hp
      obtain ⟨d, hd, hf⟩ := kind_desc hG hk (by simp)
      simp only [TK.fits] at hf
      subst hf
      refine OpOK.same H ?_ (sc_mk rfl)
      simp [execOp, resolve, invoke, builtin, Builtin.len_, s1, run_underlying hd, goInt]
    · rename_i e e2 o off n hk hx
      injection hop with hop; injection hop with h1 h2; subst h1; subst h2
      rw [hx] at hp
      obtain ⟨b, _, s1⟩ := (hp : RelV G.S C (.bsl e2 o off n) [ρv x])
      have s1 : ρv x = .slice (some ⟨b, off, none⟩) n n := by simpa using s1
      obtain ⟨d, hd, hf⟩ := kind_desc hG hk (by simp)
      simp only [TK.fits] at hf
      subst hf
      refine OpOK.same H ?_ (sc_mk rfl)
      simp [execOp, resolve, invoke, builtin, Builtin.len_, s1, run_underlying hd, goInt]
    · rename_i e o k hk hx
      rw [hx] at hp
      split at hop
      · rename_i e' rows k' app ho
        split at hop
        · rename_i hkk
          subst hkk
          injection hop with hop; injection hop with h1 h2; subst h1; subst h2
          obtain ⟨v0, kk, mn, q1, q2, q3, q4⟩ := own_inv hp
          obtain ⟨q5, a, c, q6⟩ := row_slice H ho q2
          have s1 := (q4 q5).trans q6
          obtain ⟨d, hd, hf⟩ := kind_desc hG hk (by simp)
          simp only [TK.fits] at hf
          subst hf
          refine OpOK.same H ?_ (sc_mk rfl)
          simp [execOp, resolve, invoke, builtin, Builtin.len_, s1, run_underlying hd, goInt]
        · cases hop
      · cases hop
    · rename_i s hk hx
      injection hop with hop; injection hop with h1 h2; subst h1; subst h2
      rw [hx] at hp
      have hv := sc_inv hp
      obtain ⟨d, hd, hf⟩ := kind_desc hG hk (by simp)
      simp only [TK.fits] at hf
      subst hf
      refine OpOK.same H ?_ (sc_mk rfl)
      simp [execOp, resolve, invoke, builtin, Builtin.len_, hv, run_underlying hd, goInt]
    · cases hop
  · cases hop

theorem aop_sound (hG : G.ok P) {o : Oper} (H : HRel G.S C h) (hρ : ∀ x, VRel G.S C (ρ x) (ρv x)) (hop : aop G ρ h o.op = some (r, h')) : OpOK P G.S o ρv C r h' := by
  obtain ⟨dst, op, oty, pos, after, guard⟩ := o
  cases op
  case move x =>
    simp only [aop] at hop
    injection hop with hop; injection hop with h1 h2; subst h1; subst h2
    exact OpOK.same H (by simp [execOp]) (hρ x)
  case assign x =>
    simp only [aop] at hop
    injection hop with hop; injection hop with h1 h2; subst h1; subst h2
    exact OpOK.same H (by simp [execOp]) (hρ x)
  case pick c a b =>
    simp only [aop] at hop
    split at hop
    · rename_i b' hc
      injection hop with hop; injection hop with h1 h2; subst h1; subst h2
      have hcv := hρ c
      rw [hc] at hcv
      have hcv := sc_inv hcv
      refine OpOK.same (v := if b' then ρv a else ρv b) H (by simp [execOp, hcv, asBool]) ?_
      cases b'
      · exact hρ b
      · exact hρ a
    · cases hop
  case alloc e =>
    simp only [aop] at hop
    split at hop
    · rename_i i hi
      injection hop with hop; injection hop with h1 h2; subst h1; subst h2
      obtain ⟨inf, z, k1, k2, k3, k4, k4', k5⟩ := (hG e i hi).info
      obtain ⟨st, hh, hv⟩ := new_box H e (k5 G.S C)
      refine ⟨_, st, hh, .inl ⟨_, ?_, hv⟩⟩
      simp [execOp, Instr.alloc, zeroValue, typeInfo, k1, k4, newVar, newRow]
    · cases hop
  case box e x =>
    simp only [aop] at hop
    split at hop
    · rename_i fs hc
      injection hop with hop; injection hop with h1 h2; subst h1; subst h2
      obtain ⟨st, hh, hv⟩ := new_box H e (chunks_rel hc (hρ x))
      refine ⟨_, st, hh, .inl ⟨_, ?_, hv⟩⟩
      simp [execOp, Instr.box, newVar, newRow]
    · cases hop
  case build t parts => exact op_build hG H hρ hop
  case buildSlice t len parts => exact op_buildSlice hG H hρ hop
  case load t x => exact op_load hG H hρ hop
  case store t x y => exact op_store hG H hρ hop
  case nilCheck x => exact op_nilCheck H hρ hop
  case binOp op xt x y yt => exact op_binOp hG H hρ hop
  case unOp op t x => exact op_unOp H hρ hop
  case convert s d x => exact op_convert hG H hρ hop
  case fieldAddr s x f => exact op_fieldAddr hG H hρ hop
  case indexAddr t x i => exact op_indexAddr hG H hρ hop
  case extract x i => exact op_extract H hρ hop
  case makeFunc fn first caps => exact op_makeFunc H hρ hop
  case call c =>
    obtain ⟨callee, args, argTypes⟩ := c
    cases callee with
    | value f => simp [aop] at hop
    | invoke r m => simp [aop] at hop
    | builtin b =>
      cases b <;> first
        | exact op_len hG H hρ hop
        | exact op_min H hρ hop
        | exact op_max H hρ hop
        | (simp [aop] at hop; done)
  all_goals (simp [aop] at hop; done)
end
end Go.Sh
