import Derived.Test.YtjchejmakdkioaaShB
set_option linter.unusedVariables false
namespace Go.Sh
variable {P : Program} {G : Tab}

theorem addr_add (b o n : Nat) : (⟨b, o, none⟩ : Addr).add n = ⟨b, o + n, none⟩ := by
  unfold Addr.add
  split <;> simp_all

theorem kind_get {t : TypeId} {K : TK} (h : G.kind t = K) (hne : K ≠ .other) : ∃ i, G.get t = some i ∧ i.kind = K := by
  unfold Tab.kind at h
  cases hg : G.get t with
  | none => rw [hg] at h; exact absurd h.symm hne
  | some i => rw [hg] at h; exact ⟨i, rfl, h⟩

theorem S_get {t : TypeId} {i : TInfo} (h : G.get t = some i) : G.S t = (i.size, i.bytes) := by
  unfold Tab.S
  rw [h]

/-! ### RelV of single cells -/
def AV.single : AV → Bool
  | .u | .arr .. | .agg _ | .tup _ => false
  | _ => true

theorem RelV.single {S : Sizes} {C : Ctx} {a : AV} (h1 : a.single = true) {cs : List Value} (r : RelV S C a cs) : ∃ v, cs = [v] := by
  have hl := r.len
  cases a <;> simp only [AV.single, Bool.false_eq_true] at h1 <;> (exact List.length_eq_one_iff.1 hl)

theorem VRel1_single {S : Sizes} {C : Ctx} {a : AV} (h1 : a.single = true) {v : Value} : VRel1 S C a v = RelV S C a [v] := by
  cases a <;> simp only [AV.single, Bool.false_eq_true] at h1 <;> rfl

theorem VRel_single {S : Sizes} {C : Ctx} {a : AV} (h1 : a.single = true) {v : Value} : VRel S C a v = RelV S C a [v] := by
  cases a <;> simp only [AV.single, Bool.false_eq_true] at h1 <;> rfl

theorem RelL_one {S : Sizes} {C : Ctx} {a : AV} {cs : List Value} : RelL S C [a] cs ↔ RelV S C a cs := by
  constructor
  · rintro ⟨c1, c2, rfl, h1, h2⟩
    rw [show c2 = [] from h2, List.append_nil]
    exact h1
  · intro h
    exact ⟨cs, [], by simp, h, rfl⟩

/-- a value's cells -/
theorem chunks_rel {S : Sizes} {C : Ctx} {a : AV} {v : Value} {fs : List AV} (hc : chunks a = some fs) (r : VRel S C a v) : RelL S C fs v.cells.toList := by
  cases a <;> simp only [chunks, Option.some.injEq, reduceCtorEq] at hc <;> subst hc
  case agg gs => obtain ⟨cs, rfl, h⟩ := r; exact h
  case arr k n xs => obtain ⟨h1, rfl⟩ := r; exact RelL_one.2 ⟨h1, by simp [Value.cells]⟩
  all_goals
    have r' := r
    rw [VRel_single rfl] at r'
    have h1 := r'.one _ _ v (by simp)
    refine RelL_one.2 ?_
    have : v.cells.toList = [v] := by cases v <;> simp_all [Value.cells, Value.oneCell']
    rw [this]
    exact r'

theorem chunks_relV {S : Sizes} {C : Ctx} {a : AV} {cs : List Value} {fs : List AV} (hc : chunks a = some fs) (r : RelV S C a cs) : RelL S C fs cs := by
  cases a <;> simp only [chunks, Option.some.injEq, reduceCtorEq] at hc <;> subst hc
  case agg gs => exact r
  all_goals exact RelL_one.2 r

theorem chunks_back {S : Sizes} {C : Ctx} {a : AV} {cs : List Value} {fs : List AV} (hc : chunks a = some fs) (r : RelL S C fs cs) : RelV S C a cs := by
  cases a <;> simp only [chunks, Option.some.injEq, reduceCtorEq] at hc <;> subst hc
  case agg gs => exact r
  all_goals exact RelL_one.1 r

theorem mkAgg_rel {S : Sizes} {C : Ctx} {fs : List AV} {cs : Array Value} (r : RelL S C fs cs.toList) : VRel S C (mkAgg fs) (.agg cs) := by
  unfold mkAgg
  split
  · rename_i k n xs
    obtain ⟨h1, h2⟩ := RelL_one.1 r
    refine ⟨h1, ?_⟩
    congr 1
    apply Array.toList_inj.1
    rw [h2]
  · exact ⟨cs, rfl, r⟩

/-! ### load -/
theorem dropC_cons_get {S : Sizes} {C : Ctx} {fs : List AV} {off : Nat} {a : AV} {gs : List AV} {cells : List Value} (h : dropC fs off = some (a :: gs)) (r : RelL S C fs cells) : ∃ c1 c2, cells.drop off = c1 ++ c2 ∧ RelV S C a c1 ∧ RelL S C gs c2 := (r.drop _ _ _ _ h).2

theorem load_sound (hG : G.ok P) {C : Ctx} {fs : List AV} {cells : List Value} {b o0 : Nat} (hr : RelL G.S C fs cells) (hc : ∀ j v, cells[j]? = some v → C.w.cell? ⟨b, o0 + j, none⟩ = some v) {ty : TypeId} {off : Nat} {ix : Option (Nat × Nat)} (hix : ixok ix) {r : AV} (h : loadA G ty fs off ix = some r) :
    ∃ v, (loadVar ty ⟨b, o0 + (off + ixo ix), none⟩).run P C.w = .ok v C.w ∧ VRel G.S C r v := by
  unfold loadA at h
  cases hg : G.get ty with
  | none => rw [hg] at h; cases h
  | some i =>
    rw [hg] at h
    have hf := hG ty i hg
    cases ix with
    | none =>
      simp only [ixo, Nat.add_zero] at *
      obtain ⟨gs, h1, h2⟩ := Option.bind_eq_some_iff.1 h
      unfold subC at h1
      obtain ⟨ds, h3, h4⟩ := Option.bind_eq_some_iff.1 h1
      obtain ⟨k1, k2⟩ := hr.drop _ _ _ _ h3
      obtain ⟨k3, k4⟩ := k2.take _ _ _ _ h4
      have hlen : ((cells.drop off).take i.size).length = i.size := by rw [List.length_take]; omega
      have hcell : ∀ j v, ((cells.drop off).take i.size)[j]? = some v → C.w.cell? ((⟨b, o0 + off, none⟩ : Addr).add j) = some v := by
        intro j v hj
        rw [addr_add]
        have hlt : j < i.size := by rw [← hlen]; exact (List.getElem?_eq_some_iff.1 hj).1
        rw [List.getElem?_take, if_pos hlt, List.getElem?_drop] at hj
        rw [Nat.add_assoc]
        exact hc _ _ hj
      by_cases ha : i.kind.isAgg = true
      · have hrun : (loadVar ty ⟨b, o0 + off, none⟩).run P C.w = .ok (.agg ((cells.drop off).take i.size).toArray) C.w := by
          unfold loadVar
          have hl := run_loadCells_list (P := P) C.w ⟨b, o0 + off, none⟩ _ hcell
          rw [hlen] at hl
          simp only [Sem.run_bind, run_isAgg hf, ha, if_true, Result.andThen_ok, run_size hf, hl, Sem.run_pure]
        refine ⟨_, hrun, ?_⟩
        unfold toV at h2
        rw [if_pos ha] at h2
        split at h2
        · injection h2 with h2
          subst h2
          exact mkAgg_rel (fs := [.arr _ _ _]) (by simpa using k4)
        · injection h2 with h2
          subst h2
          exact ⟨_, rfl, by simpa using k4⟩
      · have ha' : i.kind.isAgg = false := by simpa using ha
        unfold toV at h2
        rw [if_neg ha] at h2
        split at h2
        · cases h2
        · cases h2
        · rename_i a hna hnb
          injection h2 with h2
          subst h2
          have hra := RelL_one.1 k4
          have hs : a.single = true := by
            cases a <;> first | rfl | (exact absurd rfl (hna _ _ _)) | (exact absurd rfl (hnb _)) | exact hra.elim
          obtain ⟨v, hv⟩ := hra.single hs
          have h0 := hcell 0 v (by rw [hv]; rfl)
          rw [addr_add, Nat.add_zero] at h0
          refine ⟨v, ?_, by rw [VRel_single hs, ← hv]; exact hra⟩
          unfold loadVar
          simp only [Sem.run_bind, run_isAgg hf, ha', Bool.false_eq_true, if_false, Result.andThen_ok, run_load, h0]
        · cases h2
    | some p =>
      obtain ⟨j, n⟩ := p
      simp only [ixo, ixok] at *
      split at h
      · rename_i k n' xs gs hd
        split at h
        · rename_i hnn
          subst hnn
          split at h
          · cases h
          · rename_i ha
            split at h
            · injection h with h
              subst h
              obtain ⟨c1, c2, h1, h2, h3⟩ := dropC_cons_get hd hr
              obtain ⟨h4, h5⟩ := h2
              have hj : c1[j]? = some (Value.int k (xs.getD j 0)) := by
                rw [h5, List.getElem?_map, List.getElem?_eq_getElem (by omega)]
                simp [List.getD_eq_getElem?_getD, List.getElem?_eq_getElem (show j < xs.length by omega)]
              have hcell : C.w.cell? ⟨b, o0 + (off + j), none⟩ = some (Value.int k (xs.getD j 0)) := by
                refine hc _ _ ?_
                rw [← List.getElem?_drop, h1, List.getElem?_append_left (List.getElem?_eq_some_iff.1 hj).1]
                exact hj
              refine ⟨_, ?_, ⟨rfl, rfl⟩⟩
              unfold loadVar
              have ha' : i.kind.isAgg = false := by simpa using ha
              simp only [Sem.run_bind, run_isAgg hf, ha', Bool.false_eq_true, if_false, Result.andThen_ok, run_load, hcell]
            · cases h
        · cases h
      · cases h

/-! ### store -/
theorem setCells_size (b : Nat) : ∀ (vs : List Value) (o : Nat) (w : World), (w.setCells b o vs).heap.size = w.heap.size
  | [], _, _ => rfl
  | v :: r, o, w => by rw [World.setCells, setCells_size b r]; simp [World.setCell]

theorem setCells_same (b : Nat) : ∀ (vs : List Value) (o : Nat) (w : World), (w.setCells b o vs).os = w.os ∧ (w.setCells b o vs).tape = w.tape ∧ (w.setCells b o vs).output = w.output
  | [], _, _ => ⟨rfl, rfl, rfl⟩
  | v :: r, o, w => by
    rw [World.setCells]
    obtain ⟨h1, h2, h3⟩ := setCells_same b r (o + 1) (w.setCell ⟨b, o, none⟩ v)
    exact ⟨h1, h2, h3⟩

theorem setCells_other (b : Nat) : ∀ (vs : List Value) (o : Nat) (w : World) (i : Nat), i ≠ b → (w.setCells b o vs).heap[i]? = w.heap[i]?
  | [], _, _, _, _ => rfl
  | v :: r, o, w, i, h => by
    rw [World.setCells, setCells_other b r _ _ _ h]
    exact RowKit.Below.heap_setCell w ⟨b, o, none⟩ v i h

theorem setCells_heap (b : Nat) (e : TypeId) (fr : Nat × Nat) : ∀ (vs : List Value) (o : Nat) (w : World) (cs : Array Value), w.heap[b]? = some (.cells cs e fr) → o + vs.length ≤ cs.size →
    ∃ cs', (w.setCells b o vs).heap[b]? = some (.cells cs' e fr) ∧ cs'.toList = cs.toList.take o ++ vs ++ cs.toList.drop (o + vs.length)
  | [], o, w, cs, h, hl => ⟨cs, h, by simp⟩
  | v :: r, o, w, cs, h, hl => by
    simp only [List.length_cons] at hl
    have h1 : (w.setCell ⟨b, o, none⟩ v).heap[b]? = some (.cells (cs.setIfInBounds o v) e fr) := by
      have hb : b < w.heap.size := (Array.getElem?_eq_some_iff.1 h).1
      simp [World.setCell, Array.getElem?_modify, h]
    obtain ⟨cs', h2, h3⟩ := setCells_heap b e fr r (o + 1) _ _ h1 (by simp; omega)
    refine ⟨cs', by rw [World.setCells]; exact h2, ?_⟩
    rw [h3]
    have hsz : o < cs.toList.length := by rw [Array.length_toList]; omega
    rw [Array.toList_setIfInBounds]
    rw [List.set_eq_take_append_cons_drop, if_pos hsz]
    have e1 : (cs.toList.take o ++ v :: cs.toList.drop (o + 1)).take (o + 1) = cs.toList.take o ++ [v] := by
      rw [List.take_append, List.take_of_length_le (by rw [List.length_take]; omega), List.length_take, Nat.min_eq_left (by omega)]
      simp
    have e2 : (cs.toList.take o ++ v :: cs.toList.drop (o + 1)).drop (o + 1 + r.length) = cs.toList.drop (o + (v :: r).length) := by
      rw [List.drop_append, List.drop_eq_nil_of_le (by rw [List.length_take]; omega), List.length_take, Nat.min_eq_left (by omega)]
      rw [show o + 1 + r.length - o = r.length + 1 by omega, List.drop_succ_cons, List.drop_drop]
      simp only [List.nil_append, List.length_cons]
      congr 1
      omega
    rw [e1, e2]
    simp

theorem cell_of_heap {w : World} {b : Nat} {cs : Array Value} {e : TypeId} {fr : Nat × Nat} (h : w.heap[b]? = some (.cells cs e fr)) (j : Nat) : w.cell? ⟨b, j, none⟩ = cs[j]? := by
  simp [World.cell?, h]

theorem RelL.toList_cells {S : Sizes} {C : Ctx} {b : Nat} {cs : Array Value} {e : TypeId} {fr : Nat × Nat} (h : C.w.heap[b]? = some (.cells cs e fr)) : ∀ j v, cs.toList[j]? = some v → C.w.cell? ⟨b, 0 + j, none⟩ = some v := by
  intro j v hj
  rw [cell_of_heap h, Nat.zero_add]
  simpa using hj

theorem sz_go_append (a b : List AV) : AV.sz.go (a ++ b) = AV.sz.go a + AV.sz.go b := by
  induction a with
  | nil => simp [AV.sz.go]
  | cons x r ih => simp only [List.cons_append, AV.sz.go, ih]; omega

/-- a store's outcome on a box's cells -/
theorem putC_rel {S : Sizes} {C : Ctx} {fs fs' new : List AV} {off : Nat} {cells ncells : List Value} (hr : RelL S C fs cells) (hn : RelL S C new ncells) (h : putC fs off new = some fs') :
    off + ncells.length ≤ cells.length ∧ RelL S C fs' (cells.take off ++ ncells ++ cells.drop (off + ncells.length)) := by
  unfold putC at h
  split at h
  · rename_i a b ha hb
    injection h with h
    subst h
    have hl := hn.len
    rw [← hl] at hb
    obtain ⟨h1, h2⟩ := hr.take _ _ _ _ ha
    obtain ⟨h3, h4⟩ := hr.drop _ _ _ _ hb
    exact ⟨h3, (h2.append _ _ _ _ hn).append _ _ _ _ h4⟩
  · cases h

theorem store_world {C : Ctx} {h : List AO} (H : HRel G.S C h) {o b : Nat} {e : TypeId} {fs : List AV} (ho : h[o]? = some (.box e fs)) (hm : C.m[o]? = some (.blk b)) {cs : Array Value} (hb : C.w.heap[b]? = some (.cells cs e (0, 0)))
    {off : Nat} {vs : List Value} (hfit : off + vs.length ≤ cs.size) {fs' : List AV} (hr : ∀ C', Step C C' → RelL G.S C' fs' (cs.toList.take off ++ vs ++ cs.toList.drop (off + vs.length))) :
    Step C ⟨C.w.setCells b off vs, C.m, C.X⟩ ∧ HRel G.S ⟨C.w.setCells b off vs, C.m, C.X⟩ (h.set o (.box e fs')) := by
  obtain ⟨s1, s2, s3⟩ := setCells_same b vs off C.w
  have hol : o < C.m.length := (List.getElem?_eq_some_iff.1 hm).1
  have hmset : C.m.set o (.blk b) = C.m := by
    apply List.ext_getElem?
    intro j
    by_cases e : o = j
    · subst e; rw [List.getElem?_set_self hol, hm]
    · rw [List.getElem?_set_ne e]
  obtain ⟨st, hh⟩ := HRel.upd (S := G.S) (C' := ⟨C.w.setCells b off vs, C.m, C.X⟩) (s' := .blk b) (ob := .box e fs') H hm rfl (by rw [setCells_size]; exact Nat.le_refl _) s1 s2 s3
    (fun j hj hne => setCells_other b vs off C.w j (fun e => hne (by rw [e]; rfl))) (by rw [hmset]) rfl (fun j hj => .inl hj)
  refine ⟨st, hh ?_⟩
  obtain ⟨cs', h1, h2⟩ := setCells_heap b e (0, 0) vs off C.w cs hb hfit
  exact ⟨cs', h1, by rw [h2]; exact hr _ st⟩

theorem run_storeVar {t : TypeId} {i : TInfo} (hf : TFits P t i) {C : Ctx} {b off : Nat} {cs : Array Value} {e : TypeId} (hb : C.w.heap[b]? = some (.cells cs e (0, 0))) {v : Value} (hsz : v.cells.size = i.size) (hfit : off + v.cells.size ≤ cs.size) (h1 : ∀ u ∈ v.cells.toList, u.oneCell' = true) :
    (storeVar t ⟨b, off, none⟩ v).run P C.w = .ok () (C.w.setCells b off v.cells.toList) := by
  have hst := run_storeCells_cells (P := P) b off v.cells.toList 0 C.w
    (fun j hj => by rw [cell_of_heap hb, Nat.add_zero, Array.getElem?_eq_getElem (by rw [Array.length_toList] at hj; omega)]; rfl)
    (fun j hj => by simp [World.frozen?, hb]) h1
  rw [Nat.add_zero] at hst
  unfold storeVar
  simp only [Sem.run_bind, run_size hf, Result.andThen_ok]
  rw [if_neg (by simpa using hsz)]
  exact hst

theorem store_sound (hG : G.ok P) {C : Ctx} {h : List AO} (H : HRel G.S C h) {o b : Nat} {e : TypeId} {fs : List AV} (ho : h[o]? = some (.box e fs)) (hm : C.m[o]? = some (.blk b)) {ty : TypeId} {off : Nat} {ix : Option (Nat × Nat)} (hix : ixok ix) {a : AV} {v : Value} (hv : VRel G.S C a v)
    {fs' : List AV} (hs : storeA G ty fs off ix a = some fs') :
    ∃ w', (storeVar ty ⟨b, off + ixo ix, none⟩ v).run P C.w = .ok () w' ∧ Step C ⟨w', C.m, C.X⟩ ∧ HRel G.S ⟨w', C.m, C.X⟩ (h.set o (.box e fs')) := by
  have hrel := H.rel o _ _ ho hm
  obtain ⟨cs, hb, hr⟩ := hrel
  unfold storeA at hs
  cases hg : G.get ty with
  | none => rw [hg] at hs; cases hs
  | some i =>
    rw [hg] at hs
    have hf := hG ty i hg
    cases ix with
    | none =>
      simp only [ixo, Nat.add_zero] at *
      cases hc : chunks a with
      | none => rw [hc] at hs; cases hs
      | some new =>
        rw [hc] at hs
        simp only at hs
        split at hs
        · rename_i hsz
          have hn := chunks_rel hc hv
          have hlen := hn.len
          obtain ⟨h1, h2⟩ := putC_rel hr hn hs
          have hsz' : v.cells.size = i.size := by rw [← hsz, ← hlen, Array.length_toList]
          have hfit : off + v.cells.size ≤ cs.size := by rw [← Array.length_toList (xs := v.cells), ← Array.length_toList (xs := cs)]; exact h1
          refine ⟨_, run_storeVar hf hb hsz' hfit (hn.one _ _), store_world H ho hm hb (by rw [Array.length_toList]; exact hfit) (fun C' st => (putC_rel (hr.step st) (hn.step st) hs).2)⟩
        · cases hs
    | some p =>
      obtain ⟨j, n⟩ := p
      simp only [ixo, ixok] at *
      split at hs
      · rename_i pa k n' xs gs k' x hta hdr
        split at hs
        · rename_i hcond
          obtain ⟨rfl, rfl, hsize⟩ := hcond
          injection hs with hs
          subst hs
          obtain ⟨rfl, _⟩ : v = .int k x ∧ True := by
            have : RelV G.S C (.sc (.int k x)) [v] := hv
            have h1 := this.1
            simp at h1
            exact ⟨h1, trivial⟩
          obtain ⟨c1, c2, h1, h2, h3⟩ := dropC_cons_get hdr hr
          obtain ⟨h4, h5⟩ := h2
          obtain ⟨t1, t2⟩ := hr.take _ _ _ _ hta
          have hj1 : j < c1.length := by rw [h5, List.length_map]; omega
          have hdl : (cs.toList.drop off).length = c1.length + c2.length := by rw [h1, List.length_append]
          have hfit : off + j + 1 ≤ cs.size := by
            rw [List.length_drop, Array.length_toList] at hdl
            omega
          have hcell : (Value.int k x).cells.toList = [Value.int k x] := rfl
          refine ⟨_, run_storeVar hf hb (by rw [hsize]; rfl) (by show off + j + 1 ≤ cs.size; exact hfit) (by simp [Value.cells, Value.oneCell']), store_world H ho hm hb (by show off + j + 1 ≤ cs.size; exact hfit) (fun C' st => ?_)⟩
          rw [hcell]
          have hre : cs.toList.take (off + j) ++ [Value.int k x] ++ cs.toList.drop (off + j + [Value.int k x].length) = cs.toList.take off ++ (c1.set j (.int k x) ++ c2) := by
            have e0 : cs.toList = cs.toList.take off ++ (c1 ++ c2) := by rw [← h1, List.take_append_drop]
            have hto : (cs.toList.take off).length = off := by rw [List.length_take, Array.length_toList]; omega
            have e1 : cs.toList.take (off + j) = cs.toList.take off ++ c1.take j := by
              conv => lhs; rw [e0]
              rw [List.take_append, List.take_of_length_le (by omega), hto, show off + j - off = j by omega, List.take_append, show j - c1.length = 0 by omega, List.take_zero, List.append_nil]
            have e2 : cs.toList.drop (off + j + 1) = c1.drop (j + 1) ++ c2 := by
              conv => lhs; rw [e0]
              rw [List.drop_append, List.drop_eq_nil_of_le (by omega), hto, show off + j + 1 - off = j + 1 by omega, List.drop_append, show j + 1 - c1.length = 0 by omega, List.drop_zero, List.nil_append]
            simp only [List.length_singleton]
            rw [e1, e2, List.set_eq_take_append_cons_drop, if_pos hj1]
            simp
          rw [hre]
          refine (t2.step st).append _ _ _ _ ⟨c1.set j (.int k x), c2, rfl, ⟨by rw [List.length_set]; exact h4, ?_⟩, h3.step st⟩
          rw [h5, List.map_set]
        · cases hs
      · cases hs
end Go.Sh