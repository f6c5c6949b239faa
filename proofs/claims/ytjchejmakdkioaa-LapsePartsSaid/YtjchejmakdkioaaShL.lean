import Derived.Test.YtjchejmakdkioaaShK
import Derived.ArgAppend
set_option linter.unusedVariables false
set_option linter.unusedSimpArgs false
namespace Go.Sh
variable {P : Program} {G : Tab}

/-- what stands behind 'append(xs, ys...)' -/
theorem src_cells {S : Sizes} {C : Ctx} {h : List AO} (H : HRel S C h) {a : AV} {v : Value} (hb : ∀ e o off n, a ≠ .bsl e o off n) {e : TypeId} {rows : List AV} {f : Bool} (hc : conv h a = some (.sl e rows f)) (r : VRel S C a v) :
    ∃ A c, v = .slice A rows.length c ∧ (rows = [] ∨ ∃ ad cells, A = some ad ∧ RelF S C.flat (S e).1 rows cells ∧ ∀ j u, cells[j]? = some u → C.w.cell? (ad.add j) = some u) := by
  have settled : ∀ {f : Bool} {v : Value}, RelV S C (.sl e rows f) [v] → ∃ A c, v = .slice A rows.length c ∧ (rows = [] ∨ ∃ ad cells, A = some ad ∧ RelF S C.flat (S e).1 rows cells ∧ ∀ j u, cells[j]? = some u → C.w.cell? (ad.add j) = some u) := by
    intro f v hr
    obtain ⟨a, c, s1, s2, s3, s4, s5, s6⟩ := hr
    refine ⟨a, c, by simpa using s1, s6.imp id ?_⟩
    rintro ⟨b, off, rfl, k2, k3⟩
    obtain ⟨cells, m1, m2⟩ := RelR.to_RelF rows off k3
    exact ⟨⟨b, off, none⟩, cells, rfl, m1, fun j u hj => by rw [addr_add]; exact m2 j u hj⟩
  unfold conv at hc
  split at hc
  · rename_i o k
    split at hc
    · rename_i e' rows' k' app ho
      split at hc
      · rename_i hkk
        subst hkk
        injection hc with hc
        injection hc with h1 h2 h3
        subst h1; subst h2; subst h3
        obtain ⟨v0, kk, mn, q1, q2, q3, q4⟩ := own_inv r
        obtain ⟨o1, o2, o3, o4⟩ := H.rel o _ _ ho q2
        have hv := q4 o1
        subst hv
        cases mn with
        | false => exact settled (o3 rfl)
        | true =>
          obtain ⟨_, hsz, cells, hown, hrf⟩ := o4 rfl
          rcases hown.2 with ⟨rfl, hn⟩ | ⟨g, cap, cur, rfl, _, hh, hnc, hcm, hcs, htk⟩
          · obtain rfl : rows' = [] := List.eq_nil_of_length_eq_zero hn
            exact ⟨none, 0, rfl, .inl rfl⟩
          · refine ⟨_, cap, rfl, .inr ⟨⟨g, 0, none⟩, cells, rfl, hrf, fun j u hj => ?_⟩⟩
            rw [addr_add, Nat.zero_add, cell_of_heap hh]
            rw [← htk] at hj
            have hl : j < rows'.length * (S e').1 := by
              have := (List.getElem?_eq_some_iff.1 hj).1
              rw [List.length_take] at this
              omega
            rw [List.getElem?_take, if_pos hl] at hj
            simpa using hj
      · cases hc
    · cases hc
  · rename_i e' o off n
    exact absurd rfl (hb e' o off n)
  · split at hc
    · injection hc with hc
      subst hc
      exact settled r
    · cases hc

theorem append_zero {w : World} {ty t e : TypeId} {inf : TypeInfo} (ht : P.underlying t = some (.slice e)) (hi : P.info? e = some inf) {base A : Option Addr} {n c c2 : Nat} (hnc : n ≤ c) :
    (Builtin.append_ #[t, t] ty #[.slice base n c, .slice A 0 c2]).run P w = .ok (.slice base n c) w := by
  cases base <;> cases A <;> simp [Builtin.append_, run_underlying ht, sizeOf, typeInfo, hi, Builtin.lenOf, Builtin.firstCells, loadCells, loadCellsFrom, hnc, storeCells]

theorem RelF.one {S : Sizes} {C : Ctx} {sz : Nat} : ∀ (rows : List AV) (cells : List Value), RelF S C sz rows cells → ∀ v ∈ cells, v.oneCell' = true
  | [], cells, h => by rw [show cells = [] from h]; simp
  | r :: rs, cells, h => by
    obtain ⟨c1, c2, rfl, h2, h3, h4⟩ := h
    intro v hv
    rcases List.mem_append.1 hv with hv | hv
    · exact RelV.one r c1 h2 v hv
    · exact RelF.one rs c2 h4 v hv

theorem append_run (hG : G.ok P) {e t ty : TypeId} {ei : TInfo} (ht : P.underlying t = some (.slice e)) (he : G.get e = some ei) (hsz : 0 < ei.size) (hby : 0 < ei.bytes) {C : Ctx} {h : List AO} (H : HRel G.S C h) {o k : Nat} {rows rows2 : List AV} (ho : h[o]? = some (.row e rows k true)) {v : Value} (hv : VRel G.S C (.own o k) v)
    {a : AV} {xv : Value} (hnb : ∀ e o off n, a ≠ .bsl e o off n) {f : Bool} (hconv : conv h a = some (.sl e rows2 f)) (hx : VRel G.S C a xv) (hbound : (rows.length + rows2.length) * ei.bytes ≤ reach) :
    ∃ v' C', (Builtin.append_ #[t, t] ty #[v, xv]).run P C.w = .ok v' C'.w ∧ Step C C' ∧ HRel G.S C' (h.set o (.row e (rows ++ rows2) (k + 1) true)) ∧ VRel G.S C' (.own o (k + 1)) v' := by
  obtain ⟨inf, z, k1, k2, k3, k4, k4', k5⟩ := (hG e ei he).info
  obtain ⟨v0, kk, mn, q1, q2, q3, q4⟩ := own_inv hv
  obtain ⟨o1, o2, o3, o4⟩ := H.rel o _ _ ho q2
  subst o1
  have hvv := q4 rfl
  subst hvv
  have hS : G.S e = (ei.size, ei.bytes) := S_get he
  have hol : o < C.m.length := (List.getElem?_eq_some_iff.1 q2).1
  have hbound2 : (rows ++ rows2).length * (G.S e).2 ≤ reach := by rw [hS, List.length_append]; exact hbound
  have hlen63 : rows.length + rows2.length ≤ maxLen := by
    have h1 : rows.length + rows2.length ≤ (rows.length + rows2.length) * ei.bytes := Nat.le_mul_of_pos_right _ hby
    simp only [maxLen]
    have : (rows.length + rows2.length) * ei.bytes ≤ 140737488355328 := hbound
    omega
  obtain ⟨A, c, s1, s2⟩ := src_cells H hnb hconv hx
  -- the new world, whichever way
  have close : ∀ (v' : Value) (w' : World) (mn' : Bool) (row : Option Nat), C.w.grownBy w' row → (∀ b, (Slot.row v k mn).block ≠ some b → some b ≠ row ∨ w'.heap[b]? = C.w.heap[b]?) → (mn' = true → ∀ b, v'.ownBlock = some b → (Slot.row v k mn).block = some b ∨ C.w.heap.size ≤ b) → v'.oneCell' = true →
      (∀ C' : Ctx, C'.w = w' → Step C C' → ORel G.S C' (.row e (rows ++ rows2) (k + 1) true) (.row v' (k + 1) mn')) →
      Step C ⟨w', C.m.set o (.row v' (k + 1) mn'), C.X⟩ ∧ HRel G.S ⟨w', C.m.set o (.row v' (k + 1) mn'), C.X⟩ (h.set o (.row e (rows ++ rows2) (k + 1) true)) ∧ VRel G.S ⟨w', C.m.set o (.row v' (k + 1) mn'), C.X⟩ (.own o (k + 1)) v' := by
    intro v' w' mn' row hgb hrow hfr h1c hor
    obtain ⟨st, hh⟩ := HRel.upd (S := G.S) (C' := ⟨w', C.m.set o (.row v' (k + 1) mn'), C.X⟩) (s' := .row v' (k + 1) mn') (ob := .row e (rows ++ rows2) (k + 1) true) H q2 ⟨v', k + 1, mn', rfl, .inl (by omega)⟩ hgb.size hgb.os hgb.tape hgb.output
      (fun b hb hne => by
        rcases hrow b hne with h1 | h1
        · exact hgb.block b hb h1
        · exact h1) rfl rfl (fun b hb => by
        cases mn' with
        | false => simp [Slot.block] at hb
        | true => exact hfr rfl b (by simpa [Slot.block] using hb))
    refine ⟨st, hh (hor _ rfl st), ⟨v', v', k + 1, mn', rfl, h1c, ?_, Nat.le_refl _, fun _ => rfl⟩⟩
    show (C.m.set o _)[o]? = _
    rw [List.getElem?_set_self hol]
  by_cases hz : rows2 = []
  · subst hz
    obtain ⟨_, a0, c0, q6⟩ := row_slice H ho q2
    have hcap : rows.length ≤ c0 := by
      cases mn with
      | false =>
        obtain ⟨a1, c1, t1, t2, _⟩ := o3 rfl
        rw [q6] at t1
        simp at t1
        omega
      | true =>
        obtain ⟨_, _, cells, hown, _⟩ := o4 rfl
        rcases hown.2 with ⟨t1, t2⟩ | ⟨g, cap, cur, t1, _, _, t2, _⟩
        · omega
        · rw [q6] at t1
          injection t1 with _ _ t1
          omega
    have hrun := append_zero (P := P) (w := C.w) (ty := ty) ht k1 (base := a0) (A := A) (n := rows.length) (c := c0) (c2 := c) hcap
    refine ⟨v, ⟨C.w, C.m.set o (.row v (k + 1) mn), C.X⟩, ?_, ?_⟩
    · rw [s1, q6]
      exact hrun
    · refine close v C.w mn none ⟨rfl, rfl, rfl, Nat.le_refl _, fun _ _ _ => rfl⟩ (fun b _ => .inl (by simp)) (fun hm b hb => .inl (by simp [Slot.block, hm, hb])) (by rw [q6]; rfl) fun C' hw st => ?_
      rw [List.append_nil]
      have hor := H.rel o _ _ ho q2
      refine ⟨rfl, o2, fun hm => RelV.step st _ _ (o3 hm), fun hm => ?_⟩
      obtain ⟨t0, t1, cells, t2, t3⟩ := o4 hm
      refine ⟨t0, t1, cells, ?_, t3.mono st.mono.flat⟩
      obtain ⟨t4, t5⟩ := t2
      exact ⟨t4, by rw [hw]; exact t5⟩
  · rcases s2 with s2 | ⟨ad, news, rfl, hrf2, hnews⟩
    · exact absurd s2 hz
    · have hnl : news.length = rows2.length * ei.size := by rw [hrf2.len, hS]
      have hpos : 0 < rows2.length := List.length_pos_iff.2 hz
      cases mn with
      | true =>
        obtain ⟨_, hsz', cells, hown, hrf⟩ := o4 rfl
        rw [hS] at hown hrf hrf2
        obtain ⟨v', w', g1, g2, g3, g4, g5⟩ := run_append_own_at (P := P) C.w 0 t ty e inf z ei.size ei.bytes ht k1 k4 k2 k3 k4' hsz v rows.length cells hown ad rows2.length c news hnl hnews (RelF.one _ _ hrf2) hlen63 hbound (Nat.zero_le _)
        refine ⟨v', ⟨w', C.m.set o (.row v' (k + 1) true), C.X⟩, by rw [s1]; exact g1, ?_⟩
        refine close v' w' true v.ownBlock g3 (fun b hb => .inl fun e => hb (by simp [Slot.block, ← e])) (fun _ b hb => ?_) ?_ fun C' hw st => ?_
        · rcases g5 with g5 | g5
          · exact .inl (by simp only [Slot.block, if_true]; rw [← g5]; exact hb)
          · rw [g5] at hb; injection hb with hb; exact .inr (by omega)
        · rcases g2.2 with ⟨rfl, _⟩ | ⟨g, cap, cur, rfl, _⟩ <;> rfl
        · refine ⟨rfl, hbound2, by simp, fun _ => ⟨rfl, by rw [hS]; exact hsz, cells ++ news, ?_, ?_⟩⟩
          · rw [hS, hw, List.length_append]; exact g2
          · rw [hS]
            exact (hrf.mono st.mono.flat).append _ _ _ _ (hrf2.mono st.mono.flat)
      | false =>
        obtain ⟨a1, c1, t1, t2, t3, t4, t5, t6⟩ := o3 rfl
        have t1 : v = .slice a1 rows.length c1 := by simpa using t1
        have t3 := t3 rfl
        subst t3
        rw [hS] at hrf2
        have fresh : ∀ (v' : Value) (w' : World) (cells : List Value), (Builtin.append_ #[t, t] ty #[v, xv]).run P C.w = .ok v' w' → w'.ownsRow C.w.heap.size e ei.size v' (rows.length + rows2.length) (cells ++ news) → C.w.grownBy w' none → RelF G.S C.flat ei.size rows cells →
            ∃ v' C', (Builtin.append_ #[t, t] ty #[v, xv]).run P C.w = .ok v' C'.w ∧ Step C C' ∧ HRel G.S C' (h.set o (.row e (rows ++ rows2) (k + 1) true)) ∧ VRel G.S C' (.own o (k + 1)) v' := by
          intro v' w' cells g1 g2 g3 hrf
          refine ⟨v', ⟨w', C.m.set o (.row v' (k + 1) true), C.X⟩, g1, ?_⟩
          refine close v' w' true none g3 (fun b hb => .inl (by simp)) (fun _ b hb => .inr ?_) ?_ fun C' hw st => ?_
          · rcases g2.2 with ⟨rfl, _⟩ | ⟨g, cap, cur, rfl, hg, _⟩
            · simp [Value.ownBlock] at hb
            · have : g = b := by simpa [Value.ownBlock] using hb
              omega
          · rcases g2.2 with ⟨rfl, _⟩ | ⟨g, cap, cur, rfl, _⟩ <;> rfl
          · refine ⟨rfl, hbound2, by simp, fun _ => ⟨rfl, by rw [hS]; exact hsz, cells ++ news, ?_, ?_⟩⟩
            · rw [hS, hw, List.length_append]
              obtain ⟨u1, u2⟩ := g2
              refine ⟨u1, u2.imp id ?_⟩
              rintro ⟨g, cap, cur, w1, w2, w3⟩
              exact ⟨g, cap, cur, w1, Nat.zero_le _, w3⟩
            · rw [hS]
              exact (hrf.mono st.mono.flat).append _ _ _ _ (hrf2.mono st.mono.flat)
        rcases t6 with t6 | ⟨b, off, rfl, t7, t8⟩
        · subst t6
          cases a1 with
          | none =>
            obtain ⟨v', w', g1, g2, g3, g4, g5⟩ := run_append_own_at (P := P) C.w C.w.heap.size t ty e inf z ei.size ei.bytes ht k1 k4 k2 k3 k4' hsz (.slice none 0 0) 0 [] ⟨by simp, .inl ⟨rfl, rfl⟩⟩ ad rows2.length c news hnl hnews (RelF.one _ _ hrf2) (by simpa using hlen63) (by simpa using hbound) (Nat.le_refl _)
            refine fresh v' w' [] (by rw [s1, t1]; exact g1) (by simpa using g2) (by simpa [Value.ownBlock] using g3) rfl
          | some a2 =>
            obtain ⟨v', w', g1, g2, g3⟩ := run_append_arg_grows (P := P) C.w t ty e inf z ei.size ei.bytes ht k1 k4 k2 k3 k4' hsz a2 0 0 [] (by simp) (by simp) ad rows2.length c news hnl hnews (by omega) (by simpa using hlen63) (by simpa using hbound)
            exact fresh v' w' [] (by rw [s1, t1]; exact g1) (by simpa using g2) g3 rfl
        · obtain ⟨cells, m1, m2⟩ := RelR.to_RelF rows off t8
          rw [hS] at m1
          obtain ⟨v', w', g1, g2, g3⟩ := run_append_arg_grows (P := P) C.w t ty e inf z ei.size ei.bytes ht k1 k4 k2 k3 k4' hsz ⟨b, off, none⟩ rows.length rows.length cells m1.len (fun j u hj => by rw [addr_add]; exact m2 j u hj) ad rows2.length c news hnl hnews (by omega) hlen63 hbound
          exact fresh v' w' cells (by rw [s1, t1]; exact g1) g2 g3 m1

theorem LSpec.append (hG : G.ok P) {n : Nat} {ops : Array Oper} {i : Nat} {t : Tmps} {h : List AO} {ty e : TypeId} {x y : Operand} {o k : Nat} {rows rows2 : List AV} {f : Bool} {ei : TInfo} (hop : opAt n ops i t = some (.call { callee := .builtin .append, args := #[x, y], argTypes := #[ty, ty] })) (hty : G.kind ty = .slice e) (he : G.get e = some ei) (hsz : 0 < ei.size) (hby : 0 < ei.bytes)
    (hx : ev t x = .own o k) (ho : h[o]? = some (.row e rows k true)) (hy : conv h (ev t y) = some (.sl e rows2 f)) (hnb : bslOk (fun _ => (0, 0)) (ev t y) = true) (hbound : (rows.length + rows2.length) * ei.bytes ≤ reach) : LSpec P G.S n ops i .loud t h (.own o (k + 1)) (h.set o (.row e (rows ++ rows2) (k + 1) true)) :=
  (opAt_spec hop).spec (fun hh => absurd rfl hh) fun op ρv C h2 hoq H hh hρ => by
    have hh := hh (by simp)
    subst hh
    have hxv := hρ x (by simp [Op.operands, Call.operands])
    have hyv := hρ y (by simp [Op.operands, Call.operands])
    rw [hx] at hxv
    obtain ⟨d, hd, hf⟩ := kind_desc hG hty (by simp)
    simp only [TK.fits] at hf
    subst hf
    obtain ⟨dst, op, oty, pos, after, guard⟩ := op
    simp only at hoq
    subst hoq
    obtain ⟨v', C', g1, g2, g3, g4⟩ := append_run hG (ty := oty) hd he hsz hby H ho hxv (fun e o off n hc => by rw [hc] at hnb; simp [bslOk] at hnb) hy hyv hbound
    refine ⟨C', g2, by simpa using g3, .inl ⟨v', ?_, g4⟩⟩
    simp only [execOp, resolve, Sem.run_bind, Sem.run_pure, Result.andThen_ok, invoke, builtin, List.map_toArray, List.map_cons, List.map_nil, g1]
end Go.Sh
