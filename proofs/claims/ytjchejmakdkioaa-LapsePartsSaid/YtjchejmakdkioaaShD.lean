import Derived.Test.YtjchejmakdkioaaShC
import Derived.Laws.StructEq
import Derived.Laws.Pointers
set_option linter.unusedVariables false
set_option linter.unusedSimpArgs false
namespace Go.Sh
variable {P : Program} {G : Tab}

theorem alloc_heap (w : World) (o : Obj) : (w.alloc o).heap[w.heap.size]? = some o := by
  show (w.heap.push o)[w.heap.size]? = some o
  simp
theorem alloc_size (w : World) (o : Obj) : w.heap.size ≤ (w.alloc o).heap.size := by
  show w.heap.size ≤ (w.heap.push o).size
  simp
theorem alloc_old (w : World) (o : Obj) (b : Nat) (h : b < w.heap.size) : (w.alloc o).heap[b]? = w.heap[b]? := by
  show (w.heap.push o)[b]? = _
  rw [Array.getElem?_push, if_neg (by omega)]

/-- a new box -/
theorem new_box {C : Ctx} {h : List AO} (H : HRel G.S C h) (e : TypeId) {fs : List AV} {cs : Array Value} (hr : RelL G.S C fs cs.toList) :
    Step C ⟨C.w.alloc (.cells cs e), C.m ++ [.blk C.w.heap.size], C.X⟩ ∧ HRel G.S ⟨C.w.alloc (.cells cs e), C.m ++ [.blk C.w.heap.size], C.X⟩ (h ++ [.box e fs]) ∧
      VRel G.S ⟨C.w.alloc (.cells cs e), C.m ++ [.blk C.w.heap.size], C.X⟩ (.ptr h.length 0 none) (.pointer (some ⟨C.w.heap.size, 0, none⟩)) := by
  obtain ⟨st, hh⟩ := HRel.push (S := G.S) (C' := ⟨C.w.alloc (.cells cs e), C.m ++ [.blk C.w.heap.size], C.X⟩) (s := .blk C.w.heap.size) (ob := .box e fs) H
    (alloc_size _ _) rfl rfl rfl (fun b hb => alloc_old C.w _ b hb) rfl rfl (fun b hb => by injection hb with hb; omega)
  refine ⟨st, hh ⟨cs, alloc_heap _ _, hr.step st⟩, ⟨C.w.heap.size, ?_, trivial, rfl⟩⟩
  show (C.m ++ [Slot.blk C.w.heap.size])[h.length]? = _
  rw [← H.len]
  simp

/-- new settled memory -/
theorem new_kept (C : Ctx) (o : Obj) : Kept C ⟨C.w.alloc o, C.m, C.X⟩ :=
  ⟨rfl, rfl, rfl, alloc_size _ _, fun b hb => alloc_old C.w o b hb, rfl, rfl⟩

theorem new_ok {S : Sizes} {C : Ctx} {h : List AO} (H : HRel S C h) (o : Obj) : (⟨C.w.alloc o, C.m, C.X⟩ : Ctx).ok C.w.heap.size := by
  refine ⟨fun hx => by have := H.Xlt _ hx; omega, fun s hs e => by have := H.lt hs e; omega⟩

theorem RelR.get {S : Sizes} {C : Ctx} {b sz : Nat} : ∀ (rows : List AV) (off i : Nat) (r : AV), RelR S C b sz rows off → rows[i]? = some r →
    ∃ cs, RelV S C r cs ∧ cs.length = sz ∧ cs ≠ [] ∧ ∀ j v, cs[j]? = some v → C.w.cell? ⟨b, off + i * sz + j, none⟩ = some v
  | [], _, _, _, _, h => by simp at h
  | x :: rs, off, 0, r, hr, h => by
    have : x = r := by simpa using h
    subst this
    obtain ⟨⟨cs, h1, h2, h3, h4⟩, _⟩ := hr
    exact ⟨cs, h1, h2, h3, fun j v hj => by rw [Nat.zero_mul, Nat.add_zero]; exact h4 j v hj⟩
  | x :: rs, off, i + 1, r, hr, h => by
    obtain ⟨cs, h1, h2, h3, h4⟩ := RelR.get rs (off + sz) i r hr.2 (by simpa using h)
    refine ⟨cs, h1, h2, h3, fun j v hj => ?_⟩
    have := h4 j v hj
    rw [show off + sz + i * sz + j = off + (i + 1) * sz + j by rw [Nat.succ_mul]; omega] at this
    exact this

/-- rows out of the cells of one block -/
theorem RelR.of_RelF {S : Sizes} {C : Ctx} {b sz : Nat} (h0 : 0 < sz) : ∀ (rows : List AV) (cells : List Value) (off : Nat), RelF S C sz rows cells → (∀ j v, cells[j]? = some v → C.w.cell? ⟨b, off + j, none⟩ = some v) → RelR S C b sz rows off
  | [], _, _, _, _ => trivial
  | r :: rs, cells, off, hr, hc => by
    obtain ⟨c1, c2, rfl, h2, h3, h4⟩ := hr
    refine ⟨⟨c1, h2, h3, by intro e; subst e; simp at h3; omega, fun j v hj => hc j v ?_⟩, RelR.of_RelF h0 rs c2 _ h4 fun j v hj => ?_⟩
    · rw [List.getElem?_append_left (List.getElem?_eq_some_iff.1 hj).1]; exact hj
    · have := hc (sz + j) v (by rw [List.getElem?_append_right (by omega), h3, Nat.add_sub_cancel_left]; exact hj)
      rw [show off + sz + j = off + (sz + j) by omega]
      exact this

theorem RelF.len {S : Sizes} {C : Ctx} {sz : Nat} : ∀ (rows : List AV) (cells : List Value), RelF S C sz rows cells → cells.length = rows.length * sz
  | [], cells, h => by rw [show cells = [] from h]; simp
  | r :: rs, cells, h => by
    obtain ⟨c1, c2, rfl, h2, h3, h4⟩ := h
    rw [List.length_append, h3, RelF.len rs c2 h4, List.length_cons, Nat.succ_mul]
    omega

theorem RelF.append {S : Sizes} {C : Ctx} {sz : Nat} : ∀ (rows qs : List AV) (cells ds : List Value), RelF S C sz rows cells → RelF S C sz qs ds → RelF S C sz (rows ++ qs) (cells ++ ds)
  | [], qs, cells, ds, h, k => by rw [show cells = [] from h]; exact k
  | r :: rs, qs, cells, ds, h, k => by
    obtain ⟨c1, c2, rfl, h2, h3, h4⟩ := h
    exact ⟨c1, c2 ++ ds, by rw [List.append_assoc], h2, h3, RelF.append rs qs c2 ds h4 k⟩

/-- the cells of settled rows -/
theorem RelR.to_RelF {S : Sizes} {C : Ctx} {b sz : Nat} : ∀ (rows : List AV) (off : Nat), RelR S C b sz rows off → ∃ cells, RelF S C sz rows cells ∧ ∀ j v, cells[j]? = some v → C.w.cell? ⟨b, off + j, none⟩ = some v
  | [], _, _ => ⟨[], rfl, by simp⟩
  | r :: rs, off, h => by
    obtain ⟨⟨cs, h1, h2, h3, h4⟩, h5⟩ := h
    obtain ⟨cells, k1, k2⟩ := RelR.to_RelF rs _ h5
    refine ⟨cs ++ cells, ⟨cs, cells, rfl, h1, h2, k1⟩, fun j v hj => ?_⟩
    rcases Nat.lt_or_ge j cs.length with hl | hl
    · rw [List.getElem?_append_left hl] at hj
      exact h4 j v hj
    · rw [List.getElem?_append_right hl] at hj
      have := k2 _ v hj
      rw [show off + sz + (j - cs.length) = off + j by omega] at this
      exact this

/-! ### build -/
theorem foldl_put (off : Nat) : ∀ (l : List Value) (k : Nat) (cs : Array Value), off + k + l.length ≤ cs.size →
    ((l.zipIdx k).foldl (fun cs (p : Value × Nat) => cs.setIfInBounds (off + p.2) p.1) cs).toList = cs.toList.take (off + k) ++ l ++ cs.toList.drop (off + k + l.length)
  | [], k, cs, h => by simp
  | v :: r, k, cs, h => by
    simp only [List.length_cons] at h
    simp only [List.zipIdx_cons, List.foldl_cons]
    rw [foldl_put off r (k + 1) _ (by simp; omega), Array.toList_setIfInBounds]
    have hsz : off + k < cs.toList.length := by rw [Array.length_toList]; omega
    rw [List.set_eq_take_append_cons_drop, if_pos hsz]
    have hto : (cs.toList.take (off + k)).length = off + k := by rw [List.length_take, Array.length_toList]; omega
    have e1 : (cs.toList.take (off + k) ++ v :: cs.toList.drop (off + k + 1)).take (off + (k + 1)) = cs.toList.take (off + k) ++ [v] := by
      rw [List.take_append, List.take_of_length_le (by omega), hto, show off + (k + 1) - (off + k) = 1 by omega]
      simp
    have e2 : (cs.toList.take (off + k) ++ v :: cs.toList.drop (off + k + 1)).drop (off + (k + 1) + r.length) = cs.toList.drop (off + k + (v :: r).length) := by
      rw [List.drop_append, List.drop_eq_nil_of_le (by omega), hto, show off + (k + 1) + r.length - (off + k) = r.length + 1 by omega, List.drop_succ_cons, List.drop_drop]
      simp only [List.nil_append, List.length_cons]
      congr 1
      omega
    rw [e1, e2]
    simp

theorem put_array (off : Nat) (v cs : Array Value) (h : off + v.size ≤ cs.size) :
    (v.zipIdx.foldl (fun cs (p : Value × Nat) => cs.setIfInBounds (off + p.2) p.1) cs).toList = cs.toList.take off ++ v.toList ++ cs.toList.drop (off + v.size) := by
  have := foldl_put off v.toList 0 cs (by simpa using h)
  rw [← Array.foldl_toList, Array.toList_zipIdx]
  simpa using this

theorem fill_sound {S : Sizes} {C : Ctx} {place pl : Nat → Option (Nat × Nat)} (hpl : ∀ i q, pl i = some q → place i = some q) : ∀ (ps : List (Nat × AV)) (vs : List (Nat × Value)) (fs fs' : List AV) (cells : Array Value),
    ps.length = vs.length → (∀ (j : Nat) (p : Nat × AV) (q : Nat × Value), ps[j]? = some p → vs[j]? = some q → p.1 = q.1 ∧ VRel S C p.2 q.2) → RelL S C fs cells.toList → fillA pl fs ps = some fs' →
    ∃ cells', Instr.fill place cells vs = some cells' ∧ RelL S C fs' cells'.toList
  | [], vs, fs, fs', cells, hl, hv, hr, h => by
    have : vs = [] := List.eq_nil_of_length_eq_zero (by simpa using hl.symm)
    subst this
    injection h with h
    subst h
    exact ⟨cells, rfl, hr⟩
  | (i, a) :: ps, [], fs, fs', cells, hl, hv, hr, h => by simp at hl
  | (i, a) :: ps, (i', v) :: vs, fs, fs', cells, hl, hv, hr, h => by
    obtain ⟨rfl, hav⟩ := hv 0 _ _ rfl rfl
    simp only [fillA] at h
    split at h
    · rename_i off size new hp hc
      split at h
      · rename_i hsz
        obtain ⟨f1, h1, h2⟩ := Option.bind_eq_some_iff.1 h
        have hn := chunks_rel hc hav
        obtain ⟨k1, k2⟩ := putC_rel hr hn h1
        have hvl : v.cells.toList.length = v.cells.size := by simp
        rw [hvl, Array.length_toList] at k1
        have hput := put_array off v.cells cells k1
        have hlen := hn.len
        rw [hvl] at hlen
        have hr' : RelL S C f1 (v.cells.zipIdx.foldl (fun cs (p : Value × Nat) => cs.setIfInBounds (off + p.2) p.1) cells).toList := by
          rw [hput]
          rw [hvl] at k2
          exact k2
        obtain ⟨cells', k3, k4⟩ := fill_sound hpl ps vs f1 fs' _ (by simpa using hl) (fun j p q hp hq => hv (j + 1) p q (by simpa using hp) (by simpa using hq)) hr' h2
        refine ⟨cells', ?_, k4⟩
        simp only [Instr.fill, hpl _ _ hp]
        rw [if_neg (by simp only [Bool.or_eq_true, bne_iff_ne, ne_eq, decide_eq_true_eq, not_or]; omega)]
        exact k3
      · cases h
    · cases h

theorem fill_seq {S : Sizes} {C : Ctx} {sz : Nat} : ∀ (ps : List (Nat × AV)) (vs : List (Nat × Value)) (n : Nat) (rows : List AV) (cells : Array Value),
    ps.length = vs.length → (∀ (j : Nat) (p : Nat × AV) (q : Nat × Value), ps[j]? = some p → vs[j]? = some q → p.1 = q.1 ∧ VRel S C p.2 q.2) → seqA sz n ps = some rows → (n + ps.length) * sz ≤ cells.size →
    ∃ cells', Instr.fill (fun i => some (i * sz, sz)) cells vs = some cells' ∧ ∃ new, cells'.toList = cells.toList.take (n * sz) ++ new ++ cells.toList.drop ((n + ps.length) * sz) ∧ RelF S C sz rows new
  | [], vs, n, rows, cells, hl, hv, h, hf => by
    have : vs = [] := List.eq_nil_of_length_eq_zero (by simpa using hl.symm)
    subst this
    injection h with h
    subst h
    exact ⟨cells, rfl, [], by simp, rfl⟩
  | (i, a) :: ps, [], n, rows, cells, hl, hv, h, hf => by simp at hl
  | (i, a) :: ps, (i', v) :: vs, n, rows, cells, hl, hv, h, hf => by
    obtain ⟨rfl, hav⟩ := hv 0 _ _ rfl rfl
    simp only [seqA] at h
    split at h
    · rename_i hin
      have hin' : i = n := hin
      subst hin'
      split at h
      · rename_i c hc
        split at h
        · rename_i hsz
          obtain ⟨rs, h1, h2⟩ := Option.map_eq_some_iff.1 h
          subst h2
          have hn := chunks_rel hc hav
          have hlen := hn.len
          have hvl : v.cells.toList.length = v.cells.size := by simp
          rw [hvl, hsz] at hlen
          have hexp : (i + ((i, a) :: ps).length) * sz = i * sz + sz + ps.length * sz := by
            rw [List.length_cons, Nat.add_mul, Nat.succ_mul]; omega
          have hput := put_array (i * sz) v.cells cells (by rw [hlen]; omega)
          have hsize : (v.cells.zipIdx.foldl (fun cs (p : Value × Nat) => cs.setIfInBounds (i * sz + p.2) p.1) cells).size = cells.size := by
            rw [← Array.length_toList, hput]
            simp only [List.length_append, List.length_take, List.length_drop, Array.length_toList, hlen]
            omega
          obtain ⟨cells', k1, new, k2, k3⟩ := fill_seq ps vs (i + 1) rs _ (by simpa using hl) (fun j p q hp hq => hv (j + 1) p q (by simpa using hp) (by simpa using hq)) h1 (by rw [hsize, Nat.add_mul, Nat.succ_mul]; omega)
          refine ⟨cells', ?_, v.cells.toList ++ new, ?_, ⟨v.cells.toList, new, rfl, chunks_back hc hn, by rw [hvl, hlen], k3⟩⟩
          · simp only [Instr.fill]
            rw [if_neg (by simp only [Bool.or_eq_true, bne_iff_ne, ne_eq, decide_eq_true_eq, not_or]; omega)]
            exact k1
          · rw [k2, hput, hlen]
            have hto : (cells.toList.take (i * sz)).length = i * sz := by rw [List.length_take, Array.length_toList]; omega
            have e1 : (cells.toList.take (i * sz) ++ v.cells.toList ++ cells.toList.drop (i * sz + sz)).take ((i + 1) * sz) = cells.toList.take (i * sz) ++ v.cells.toList := by
              rw [List.take_left']
              rw [List.length_append, hto, hvl, hlen, Nat.succ_mul]
            have e2 : (cells.toList.take (i * sz) ++ v.cells.toList ++ cells.toList.drop (i * sz + sz)).drop ((i + 1 + ps.length) * sz) = cells.toList.drop ((i + ((i, a) :: ps).length) * sz) := by
              rw [List.drop_append, List.drop_eq_nil_of_le (by rw [List.length_append, hto, hvl, hlen, Nat.add_mul, Nat.succ_mul]; omega), List.length_append, hto, hvl, hlen, List.drop_drop, List.nil_append]
              congr 1
              rw [hexp, Nat.add_mul, Nat.succ_mul]
              omega
            rw [e1, e2]
            simp
        · cases h
      · cases h
    · cases h

/-! ### soundness of one operation -/
def OpOK (P : Program) (S : Sizes) (o : Oper) (ρv : Operand → Value) (C : Ctx) (r : AV) (h' : List AO) : Prop :=
  ∃ C', Step C C' ∧ HRel S C' h' ∧ ((∃ v, (execOp ρv o).run P C.w = .ok (.value v) C'.w ∧ VRel S C' r v) ∨ ((execOp ρv o).run P C.w = .ok .skip C'.w ∧ r = .u))

theorem OpOK.same {S : Sizes} {o : Oper} {ρv : Operand → Value} {C : Ctx} {r : AV} {h : List AO} (H : HRel S C h) {v : Value} (hr : (execOp ρv o).run P C.w = .ok (.value v) C.w) (hv : VRel S C r v) : OpOK P S o ρv C r h :=
  ⟨C, Step.refl C, H, .inl ⟨v, hr, hv⟩⟩

theorem sc_inv {S : Sizes} {C : Ctx} {u v : Value} (h : VRel S C (.sc u) v) : v = u := by
  have h1 : [v] = [u] := (h : RelV S C (.sc u) [v]).1
  simpa using h1
theorem sc_mk {S : Sizes} {C : Ctx} {u : Value} (h : u.oneCell' = true) : VRel S C (.sc u) u := ⟨rfl, h⟩

theorem intRes_run {op : BinOp} {k : IntKind} {x y : Int} {v : Value} (h : intRes op k x y = some v) (t : TypeId) (w : World) : (binOp op t (.int k x) (.int k y)).run P w = .ok v w ∧ v.oneCell' = true := by
  cases op <;> simp only [intRes, Option.some.injEq, reduceCtorEq] at h <;> subst h <;>
    (refine ⟨?_, rfl⟩; simp [binOp, Op.intArith, Op.intBits, Op.intCmp])

theorem kind_desc (hG : G.ok P) {t : TypeId} {K : TK} (h : G.kind t = K) (hne : K ≠ .other) : ∃ d, P.underlying t = some d ∧ K.fits d := by
  obtain ⟨i, h1, h2⟩ := kind_get h hne
  obtain ⟨d, h3, h4⟩ := (hG t i h1).desc
  exact ⟨d, h3, by rw [← h2]; exact h4⟩

theorem beq_bytes (a b : ByteArray) : (a.toList == b.toList) = (a == b) := (beq_toListBytes a b).symm

theorem eqGuard_sc {op : BinOp} {t : TypeId} {x y : Operand} {u v : Value} (w : World) (h : u ≠ .nilIface) (hu : u.oneCell' = true) : (eqGuard op t x y u v).run P w = .ok () w := by
  cases u <;> first
    | exact absurd rfl h
    | (simp [Value.oneCell'] at hu; done)
    | (cases op <;> rfl)

theorem binA_run (hG : G.ok P) {op : BinOp} {t : TypeId} {C : Ctx} {a b r : AV} (h : binA (G.kind t) op a b = some r) {u v : Value} (ha : VRel G.S C a u) (hb : VRel G.S C b v) (x y : Operand) :
    ∃ z, (do eqGuard op t x y u v; binOp op t u v).run P C.w = .ok z C.w ∧ VRel G.S C r z := by
  unfold binA at h
  split at h
  · rename_i k m k' n
    have hu := sc_inv ha
    have hv := sc_inv hb
    subst hu; subst hv
    split at h
    · rename_i hk
      subst hk
      obtain ⟨z, hz, rfl⟩ := Option.map_eq_some_iff.1 h
      obtain ⟨h1, h2⟩ := intRes_run (P := P) hz t C.w
      refine ⟨z, ?_, sc_mk h2⟩
      have hg : (eqGuard op t x y (.int k m) (.int k n)).run P C.w = .ok () C.w := eqGuard_sc _ (by simp) rfl
      simp only [Sem.run_bind, hg, Result.andThen_ok, h1]
    · cases h
  · have hu := sc_inv ha
    have hv := sc_inv hb
    subst hu; subst hv
    rename_i p q
    have hg : (eqGuard op t x y (.bool p) (.bool q)).run P C.w = .ok () C.w := eqGuard_sc _ (by simp) rfl
    split at h
    · rename_i hk
      obtain ⟨d, hd, hf⟩ := kind_desc hG hk (by simp)
      simp only [TK.fits] at hf
      subst hf
      injection h with h
      subst h
      refine ⟨_, ?_, sc_mk rfl⟩
      simp only [Sem.run_bind, hg, Result.andThen_ok, binOp, run_equal_bool C.w t p q hd, Sem.run_pure]
    · rename_i hk
      obtain ⟨d, hd, hf⟩ := kind_desc hG hk (by simp)
      simp only [TK.fits] at hf
      subst hf
      injection h with h
      subst h
      refine ⟨_, ?_, sc_mk rfl⟩
      simp only [Sem.run_bind, hg, Result.andThen_ok, binOp, run_equal_bool C.w t p q hd, Sem.run_pure]
      rfl
    · cases h
  · have hu := sc_inv ha
    have hv := sc_inv hb
    subst hu; subst hv
    rename_i p q
    have hg : (eqGuard op t x y (.string p) (.string q)).run P C.w = .ok () C.w := eqGuard_sc _ (by simp) rfl
    split at h
    · injection h with h
      subst h
      refine ⟨_, ?_, sc_mk rfl⟩
      simp only [Sem.run_bind, hg, Result.andThen_ok, binOp, Op.stringOp, Sem.run_pure, beq_bytes]
    · injection h with h
      subst h
      refine ⟨_, ?_, sc_mk rfl⟩
      simp only [Sem.run_bind, hg, Result.andThen_ok, binOp, Op.stringOp, Sem.run_pure, beq_bytes]
      rfl
    · cases h
  · have hv := sc_inv hb
    subst hv
    obtain ⟨b0, _, _, h4⟩ := (ha : RelV G.S C (.ptr _ _ _) [u])
    obtain ⟨A, rfl⟩ : ∃ A, u = .pointer (some A) := ⟨_, by simpa using h4⟩
    have hg : ∀ op : BinOp, (eqGuard op t x y (.pointer (some A)) (.pointer none)).run P C.w = .ok () C.w := fun op => eqGuard_sc _ (by simp) rfl
    split at h
    · rename_i hk
      obtain ⟨d, hd, hf⟩ := kind_desc hG hk (by simp)
      simp only [TK.fits] at hf
      subst hf
      injection h with h
      subst h
      refine ⟨_, ?_, sc_mk rfl⟩
      have he := run_equalIn_pointer_nil (P := P) C.w 9999 t (some A) (by rw [hd]; simp [Program.pointee, hd])
      simp only [Sem.run_bind, hg, Result.andThen_ok, binOp, Op.equal, Op.maxDepth, he, Sem.run_pure]
      rfl
    · rename_i hk
      obtain ⟨d, hd, hf⟩ := kind_desc hG hk (by simp)
      simp only [TK.fits] at hf
      subst hf
      injection h with h
      subst h
      refine ⟨_, ?_, sc_mk rfl⟩
      have he := run_equalIn_pointer_nil (P := P) C.w 9999 t (some A) (by rw [hd]; simp [Program.pointee, hd])
      simp only [Sem.run_bind, hg, Result.andThen_ok, binOp, Op.equal, Op.maxDepth, he, Sem.run_pure]
      rfl
    · cases h
  · have hu := sc_inv ha
    have hv := sc_inv hb
    subst hu; subst hv
    have hg : ∀ op : BinOp, (eqGuard op t x y (.pointer none) (.pointer none)).run P C.w = .ok () C.w := fun op => eqGuard_sc _ (by simp) rfl
    split at h
    · rename_i hk
      obtain ⟨d, hd, hf⟩ := kind_desc hG hk (by simp)
      simp only [TK.fits] at hf
      subst hf
      injection h with h
      subst h
      refine ⟨_, ?_, sc_mk rfl⟩
      have he := run_equalIn_pointer_nil (P := P) C.w 9999 t none (by rw [hd]; simp [Program.pointee, hd])
      simp only [Sem.run_bind, hg, Result.andThen_ok, binOp, Op.equal, Op.maxDepth, he, Sem.run_pure]
      rfl
    · rename_i hk
      obtain ⟨d, hd, hf⟩ := kind_desc hG hk (by simp)
      simp only [TK.fits] at hf
      subst hf
      injection h with h
      subst h
      refine ⟨_, ?_, sc_mk rfl⟩
      have he := run_equalIn_pointer_nil (P := P) C.w 9999 t none (by rw [hd]; simp [Program.pointee, hd])
      simp only [Sem.run_bind, hg, Result.andThen_ok, binOp, Op.equal, Op.maxDepth, he, Sem.run_pure]
      rfl
    · cases h
  · cases h

theorem unA_run {op : UnOp} {S : Sizes} {C : Ctx} {a r : AV} (h : unA op a = some r) {u : Value} (ha : VRel S C a u) : ∃ z, (Op.unary op u).run P C.w = .ok z C.w ∧ VRel S C r z := by
  unfold unA at h
  split at h
  · have hu := sc_inv ha
    subst hu
    split at h
    · injection h with h
      subst h
      exact ⟨_, rfl, sc_mk rfl⟩
    · cases h
  · have hu := sc_inv ha
    subst hu
    split at h
    · injection h with h
      subst h
      exact ⟨_, rfl, sc_mk rfl⟩
    · cases h
  · cases h

theorem ptr_inv {S : Sizes} {C : Ctx} {o off : Nat} {ix : Option (Nat × Nat)} {v : Value} (h : VRel S C (.ptr o off ix) v) : ∃ b, C.m[o]? = some (.blk b) ∧ ixok ix ∧ v = .pointer (some ⟨b, off + ixo ix, none⟩) := by
  obtain ⟨b, h1, h2, h3⟩ := (h : RelV S C (.ptr o off ix) [v])
  exact ⟨b, h1, h2, by simpa using h3⟩

theorem ep_inv {S : Sizes} {C : Ctx} {fs : List AV} {off : Nat} {ix : Option (Nat × Nat)} {v : Value} (h : VRel S C (.ep fs off ix) v) : ∃ b o0 cells, v = .pointer (some ⟨b, o0 + (off + ixo ix), none⟩) ∧ ixok ix ∧ C.ok b ∧ RelL S C.flat fs cells ∧ cells ≠ [] ∧
      ∀ j v, cells[j]? = some v → C.w.cell? ⟨b, o0 + j, none⟩ = some v := by
  obtain ⟨b, o0, cells, h1, h2⟩ := (h : RelV S C (.ep fs off ix) [v])
  exact ⟨b, o0, cells, by simpa using h1, h2⟩

theorem sl_inv {S : Sizes} {C : Ctx} {e : TypeId} {rows : List AV} {full : Bool} {v : Value} (h : VRel S C (.sl e rows full) v) : ∃ a c, v = .slice a rows.length c ∧ rows.length ≤ c ∧ (full = true → c = rows.length) ∧ c ≤ maxLen ∧ rows.length * (S e).2 ≤ reach ∧
      (rows = [] ∨ ∃ b off, a = some ⟨b, off, none⟩ ∧ C.ok b ∧ RelR S C.flat b (S e).1 rows off) := by
  obtain ⟨a, c, h1, h2⟩ := (h : RelV S C (.sl e rows full) [v])
  exact ⟨a, c, by simpa using h1, h2⟩

theorem box_rel {S : Sizes} {C : Ctx} {h : List AO} (H : HRel S C h) {o b : Nat} {e : TypeId} {fs : List AV} (ho : h[o]? = some (.box e fs)) (hm : C.m[o]? = some (.blk b)) : ∃ cs, C.w.heap[b]? = some (.cells cs e (0, 0)) ∧ RelL S C fs cs.toList := H.rel o _ _ ho hm

theorem rels_map {S : Sizes} {C : Ctx} {ρ : Operand → AV} {ρv : Operand → Value} (hρ : ∀ x, VRel S C (ρ x) (ρv x)) (parts : Array (Nat × Operand)) :
    (parts.toList.map fun p => (p.1, ρ p.2)).length = (parts.map fun (i, x) => (i, ρv x)).toList.length ∧
    ∀ (j : Nat) (p : Nat × AV) (q : Nat × Value), (parts.toList.map fun p => (p.1, ρ p.2))[j]? = some p → (parts.map fun (i, x) => (i, ρv x)).toList[j]? = some q → p.1 = q.1 ∧ VRel S C p.2 q.2 := by
  refine ⟨by simp, fun j p q hp hq => ?_⟩
  rw [Array.toList_map, List.getElem?_map] at hq
  rw [List.getElem?_map] at hp
  cases hj : parts.toList[j]? with
  | none => rw [hj] at hp; cases hp
  | some z =>
    rw [hj] at hp hq
    have h1 : p = (z.1, ρ z.2) := by simpa using hp.symm
    have h2 : q = (z.1, ρv z.2) := by simpa using hq.symm
    rw [h1, h2]
    exact ⟨rfl, hρ _⟩

theorem caps_rel {S : Sizes} {C : Ctx} {ρ : Operand → AV} {ρv : Operand → Value} (hρ : ∀ x, VRel S C (ρ x) (ρv x)) : ∀ (l : List Operand), (l.map ρ).all isCap = true → RelL S C (l.map ρ) (l.map ρv)
  | [], _ => rfl
  | x :: l, h => by
    simp only [List.map_cons, List.all_cons, Bool.and_eq_true] at h
    refine ⟨[ρv x], l.map ρv, rfl, ?_, caps_rel hρ l h.2⟩
    have h1 := hρ x
    have h2 := h.1
    cases hx : ρ x <;> rw [hx] at h1 h2 <;> first
      | exact h1
      | (simp only [isCap, Bool.false_eq_true] at h2)

theorem len_num {n : Nat} (w : World) : goInt (n : Int) = .int .i64 (n : Int) := rfl


theorem run_places (hG : G.ok P) : ∀ (l : List Field), (l.all fun f => (G.get f.type).isSome) = true → ∀ w : World,
    (l.mapM fun f => (do pure (f.offset, ← sizeOf f.type) : Sem (Nat × Nat))).run P w = .ok (l.map fun f => (f.offset, ((G.get f.type).map (·.size)).getD 0)) w
  | [], _, w => rfl
  | f :: l, h, w => by
    simp only [List.all_cons, Bool.and_eq_true] at h
    obtain ⟨i, hi⟩ := Option.isSome_iff_exists.1 h.1
    simp only [List.mapM_cons, Sem.run_bind, run_size (hG _ i hi), Result.andThen_ok, Sem.run_pure, run_places hG l h.2, List.map_cons, hi]
    rfl

theorem op_build (hG : G.ok P) {t : TypeId} {parts : Array (Nat × Operand)} {dst : Option Tmp} {oty : TypeId} {pos : String} {after : Array Edge} {guard : Option (Nat × Bool)} {ρ : Operand → AV} {ρv : Operand → Value} {C : Ctx} {h : List AO} (H : HRel G.S C h) (hρ : ∀ x, VRel G.S C (ρ x) (ρv x)) {r : AV} {h' : List AO} (hop : aop G ρ h (.build t parts) = some (r, h')) :
    OpOK P G.S ⟨dst, .build t parts, oty, pos, after, guard⟩ ρv C r h' := by
  simp only [aop] at hop
  split at hop
  · cases hop
  · rename_i i hi
    have hf := hG t i hi
    obtain ⟨inf, z, k1, k2, k3, k4, k4', k5⟩ := hf.info
    obtain ⟨d, hd, hk⟩ := hf.desc
    obtain ⟨m1, m2⟩ := rels_map hρ parts
    split at hop
    · rename_i fl hkind
      split at hop
      · rename_i hall
        obtain ⟨fs, h1, h2⟩ := Option.map_eq_some_iff.1 hop
        injection h2 with h2 h3; subst h2; subst h3
        rw [hkind] at hk
        obtain ⟨fields, rfl, hfl⟩ := hk
        subst hfl
        have hall' : (fields.toList.all fun f => (G.get f.type).isSome) = true := by
          rw [List.all_map] at hall
          exact hall
        have hmap : (fields.mapM fun f => (do pure (f.offset, ← sizeOf f.type) : Sem (Nat × Nat))).run P C.w = .ok (fields.toList.map fun f => (f.offset, ((G.get f.type).map (·.size)).getD 0)).toArray C.w := by
          rw [Array.mapM_eq_mapM_toList, Sem.run_map, run_places hG _ hall']
          rfl
        obtain ⟨cells', q1, q2⟩ := fill_sound (place := ((fields.toList.map fun f => (f.offset, ((G.get f.type).map (·.size)).getD 0)).toArray[·]?)) (fun j q hq => by
          obtain ⟨f, hf1, hf2⟩ := Option.bind_eq_some_iff.1 hq
          rw [List.getElem?_map] at hf1
          obtain ⟨g, hg1, rfl⟩ := Option.map_eq_some_iff.1 hf1
          obtain ⟨fi, hfi, rfl⟩ := Option.map_eq_some_iff.1 hf2
          simp [hfi]
          exact ⟨g, by simpa using hg1, rfl, by rw [hfi]; rfl⟩) _ _ _ _ z.cells m1 m2 (k5 G.S C) h1
        refine OpOK.same H ?_ (mkAgg_rel q2)
        simp only [execOp, Instr.build, zeroValue, typeInfo, Sem.run_bind, run_program, Result.andThen_ok, k1, k4, Sem.run_pure, run_underlying hd, hmap, q1]
      · cases hop
    · rename_i n e hkind
      split at hop
      · rename_i ei hei
        obtain ⟨fs, h1, h2⟩ := Option.map_eq_some_iff.1 hop
        injection h2 with h2 h3; subst h2; subst h3
        rw [hkind] at hk
        simp only [TK.fits] at hk
        subst hk
        obtain ⟨cells', q1, q2⟩ := fill_sound (place := fun j => some (j * ei.size, ei.size)) (fun j q hq => hq) _ _ _ _ z.cells m1 m2 (k5 G.S C) h1
        refine OpOK.same H ?_ (mkAgg_rel q2)
        simp only [execOp, Instr.build, zeroValue, typeInfo, Sem.run_bind, run_program, Result.andThen_ok, k1, k4, Sem.run_pure, run_underlying hd, run_size (hG e ei hei), q1]
      · cases hop
    · cases hop

theorem op_buildSlice (hG : G.ok P) {t : TypeId} {len : Nat} {parts : Array (Nat × Operand)} {dst : Option Tmp} {oty : TypeId} {pos : String} {after : Array Edge} {guard : Option (Nat × Bool)} {ρ : Operand → AV} {ρv : Operand → Value} {C : Ctx} {h : List AO} (H : HRel G.S C h) (hρ : ∀ x, VRel G.S C (ρ x) (ρv x)) {r : AV} {h' : List AO} (hop : aop G ρ h (.buildSlice t len parts) = some (r, h')) :
    OpOK P G.S ⟨dst, .buildSlice t len parts, oty, pos, after, guard⟩ ρv C r h' := by
  simp only [aop] at hop
  split at hop
  · rename_i i hi
    split at hop
    · rename_i e hkind
      split at hop
      · rename_i ei hei
        split at hop
        · rename_i hc
          obtain ⟨c1, c2, c3, c4, c5⟩ := hc
          obtain ⟨rows, h1, h2⟩ := Option.map_eq_some_iff.1 hop
          injection h2 with h2 h3; subst h2; subst h3
          have hf := hG t i hi
          obtain ⟨d, hd, hk⟩ := hf.desc
          rw [hkind] at hk
          simp only [TK.fits] at hk
          subst hk
          have he := hG e ei hei
          obtain ⟨inf, z, k1, k2, k3, k4, k4', k5⟩ := he.info
          obtain ⟨m1, m2'⟩ := rels_map hρ parts
          have m2 : ∀ (j : Nat) (p : Nat × AV) (q : Nat × Value), (parts.toList.map fun p => (p.1, ρ p.2))[j]? = some p → (parts.map fun (i, x) => (i, ρv x)).toList[j]? = some q → p.1 = q.1 ∧ VRel G.S C.flat p.2 q.2 := by
            intro j p q hp hq
            obtain ⟨g1, g2⟩ := m2' j p q hp hq
            refine ⟨g1, g2.plain (Under.toFlat C) ?_⟩
            rw [List.getElem?_map] at hp
            obtain ⟨z, hz, rfl⟩ := Option.map_eq_some_iff.1 hp
            exact List.all_eq_true.1 c5 z (List.mem_iff_getElem?.2 ⟨j, hz⟩)
          obtain ⟨zc, hz1, hz2⟩ : ∃ zc : Array Value, (len * ei.size = 0 → zc = #[]) ∧ (len * ei.size ≠ 0 → zc = z.cells) :=
            ⟨if len * ei.size = 0 then #[] else z.cells, fun h => by rw [if_pos h], fun h => by rw [if_neg h]⟩
          have hps : (parts.toList.map fun p => (p.1, ρ p.2)).length = len := by simpa using c1
          obtain ⟨cells', q1, new, q2, q3⟩ := fill_seq (sz := ei.size) _ _ 0 rows ((Array.range (len * ei.size)).map (zc[· % zc.size]!)) m1 m2 h1 (by rw [hps]; simp)
          have hnew : cells'.toList = new := by
            rw [q2, hps, Nat.zero_mul, List.take_zero, List.nil_append, Nat.zero_add, List.drop_eq_nil_of_le (by simp), List.append_nil]
          have hrl : rows.length = len := by
            have e1 := RelF.len _ _ q3
            have e2 : new.length = len * ei.size := by
              have hfl : ∀ (n : Nat) (ps : List (Nat × AV)) (rs : List AV), seqA ei.size n ps = some rs → rs.length = ps.length := by
                intro n ps
                induction ps generalizing n with
                | nil => intro rs hrs; injection hrs with hrs; subst hrs; rfl
                | cons p ps ih =>
                  intro rs hrs
                  obtain ⟨pi, pa⟩ := p
                  simp only [seqA] at hrs
                  split at hrs
                  · split at hrs
                    · split at hrs
                      · obtain ⟨rs', g1, rfl⟩ := Option.map_eq_some_iff.1 hrs
                        simp [ih _ _ g1]
                      · cases hrs
                    · cases hrs
                  · cases hrs
              rw [e1, hfl _ _ _ h1, hps]
            rw [e1] at e2
            exact Nat.eq_of_mul_eq_mul_right c4 e2
          have hkept := new_kept C (.cells cells' e)
          have hok := new_ok H (.cells cells' e)
          refine ⟨_, hkept.toStep, H.kept hkept, .inl ⟨.slice (some ⟨C.w.heap.size, 0, none⟩) len len, ?_, ?_⟩⟩
          · simp only [execOp, Instr.buildSlice, Sem.run_bind, run_underlying hd, Result.andThen_ok, run_size he]
            rw [if_neg (by omega)]
            by_cases hl : len * ei.size = 0
            · rw [hz1 hl] at q1
              rw [if_pos hl]
              simp only [Sem.run_bind, Result.andThen_ok, q1, Sem.run_pure, newRow, newObj, Sem.run]
              rfl
            · rw [hz2 hl] at q1
              rw [if_neg hl]
              simp only [Sem.run_bind, Result.andThen_ok, zeroValue, typeInfo, run_program, k1, k4, q1, Sem.run_pure, newRow, newObj, Sem.run]
              rfl
          · refine ⟨some ⟨C.w.heap.size, 0, none⟩, len, ?_, ?_, fun _ => hrl.symm, ?_, ?_, ?_⟩
            · rw [hrl]
            · omega
            · have : len ≤ len * ei.size := Nat.le_mul_of_pos_right _ c4
              simp only [maxLen]
              omega
            · rw [S_get hei, hrl]
              exact c3
            · refine .inr ⟨C.w.heap.size, 0, rfl, hok, ?_⟩
              rw [S_get hei]
              refine RelR.of_RelF c4 rows new 0 (q3.mono hkept.toStep.mono.flat) (fun j v hj => ?_)
              rw [Nat.zero_add]
              show (C.w.alloc _).cell? _ = _
              rw [cell_of_heap (alloc_heap C.w _)]
              rw [← hnew] at hj
              simpa using hj
        · cases hop
      · cases hop
    · cases hop
  · cases hop
end Go.Sh
