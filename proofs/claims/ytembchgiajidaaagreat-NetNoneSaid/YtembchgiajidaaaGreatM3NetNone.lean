import Derived.MapKept
import Derived.Carry
import Derived.Laws.IdiomRangeMap
import Derived.Maps.RangeRun
import Derived.Test.YtembchgiajidaaaGreatM2NetNone
set_option linter.unusedVariables false
set_option linter.unusedSimpArgs false
namespace Go.Sh
variable {P : Program} {G : Tab} {F : Fn} {c0 : Ctx} {R : Ending → World → Prop} {S : Sizes}
section
variable {K V : Type}
def setM (i : Nat) (v : V) : List (K × V) → List (K × V)
 | [] => []
 | p :: m => match i with | 0 => (p.1, v) :: m | i + 1 => p :: setM i v m
def mapAV (ek : K → AV) (ev : V → AV) (m : List (K × V)) : List AV := m.flatMap fun p => [ek p.1, ev p.2]
def MRel (S : Sizes) (C : Ctx) (ek : K → AV) (ev : V → AV) : List (K × V) → List MapEntry → Prop
 | [], [] => True
 | p :: m, e :: es => VRel1 S C (ek p.1) e.key ∧ VRel1 S C (ev p.2) e.val ∧ MRel S C ek ev m es
 | _, _ => False
theorem mrel_of {C : Ctx} {ek : K → AV} {ev : V → AV} : ∀ {m : List (K × V)} {es : List MapEntry}, VRels S C (mapAV ek ev m) (es.flatMap fun e => [e.key, e.val]) → MRel S C ek ev m es
 | [], [], _ => trivial
 | [], e :: es, h => by cases h
 | p :: m, [], h => by cases h
 | p :: m, e :: es, h => by
  simp only [mapAV, List.flatMap_cons, List.cons_append, List.nil_append] at h
  cases h with
  | cons h1 h =>
   cases h with
   | cons h2 h => exact ⟨h1, h2, mrel_of h⟩
theorem mrel_to {C : Ctx} {ek : K → AV} {ev : V → AV} : ∀ {m : List (K × V)} {es : List MapEntry}, MRel S C ek ev m es → VRels S C (mapAV ek ev m) (es.flatMap fun e => [e.key, e.val])
 | [], [], _ => .nil
 | [], e :: es, h => h.elim
 | p :: m, [], h => h.elim
 | p :: m, e :: es, h => by
  simp only [mapAV, List.flatMap_cons, List.cons_append, List.nil_append]
  exact .cons h.1 (.cons h.2.1 (mrel_to h.2.2))
theorem MRel.len {C : Ctx} {ek : K → AV} {ev : V → AV} : ∀ {m : List (K × V)} {es : List MapEntry}, MRel S C ek ev m es → es.length = m.length
 | [], [], _ => rfl
 | [], e :: es, h => h.elim
 | p :: m, [], h => h.elim
 | p :: m, e :: es, h => by rw [List.length_cons, List.length_cons, MRel.len h.2.2]
theorem MRel.get {C : Ctx} {ek : K → AV} {ev : V → AV} : ∀ {m : List (K × V)} {es : List MapEntry}, MRel S C ek ev m es → ∀ (i : Nat) (e : MapEntry), es[i]? = some e → ∃ p, m[i]? = some p ∧ VRel1 S C (ek p.1) e.key ∧ VRel1 S C (ev p.2) e.val
 | [], [], _, i, e, he => by simp at he
 | [], e :: es, h, _, _, _ => h.elim
 | p :: m, [], h, _, _, _ => h.elim
 | p :: m, e :: es, h, 0, e', he => by
  have : e = e' := by simpa using he
  subst this
  exact ⟨p, rfl, h.1, h.2.1⟩
 | p :: m, e :: es, h, i + 1, e', he => by
  obtain ⟨q, h1, h2⟩ := MRel.get h.2.2 i e' (by simpa using he)
  exact ⟨q, by simpa using h1, h2⟩
theorem MRel.mono {C C' : Ctx} (hm : Mono C C') {ek : K → AV} {ev : V → AV} : ∀ {m : List (K × V)} {es : List MapEntry}, MRel S C ek ev m es → MRel S C' ek ev m es
 | [], [], _ => trivial
 | [], e :: es, h => h.elim
 | p :: m, [], h => h.elim
 | p :: m, e :: es, h => ⟨h.1.mono hm, h.2.1.mono hm, MRel.mono hm h.2.2⟩
theorem MRel.push {C : Ctx} {ek : K → AV} {ev : V → AV} {k : K} {v : V} {e0 : MapEntry} (h1 : VRel1 S C (ek k) e0.key) (h2 : VRel1 S C (ev v) e0.val) : ∀ {m : List (K × V)} {es : List MapEntry}, MRel S C ek ev m es → MRel S C ek ev (m ++ [(k, v)]) (es ++ [e0])
 | [], [], _ => ⟨h1, h2, trivial⟩
 | [], e :: es, h => h.elim
 | p :: m, [], h => h.elim
 | p :: m, e :: es, h => ⟨h.1, h.2.1, MRel.push h1 h2 h.2.2⟩
theorem MRel.setv {C : Ctx} {ek : K → AV} {ev : V → AV} {v : V} {f : MapEntry → MapEntry} (hk : ∀ e, (f e).key = e.key) (hv : ∀ e, VRel1 S C (ev v) (f e).val) : ∀ {m : List (K × V)} {es : List MapEntry} (i : Nat), MRel S C ek ev m es → MRel S C ek ev (setM i v m) (es.modify i f)
 | [], [], i, _ => by cases i <;> exact trivial
 | [], e :: es, _, h => h.elim
 | p :: m, [], _, h => h.elim
 | p :: m, e :: es, 0, h => ⟨by rw [hk]; exact h.1, hv e, h.2.2⟩
 | p :: m, e :: es, i + 1, h => ⟨h.1, h.2.1, MRel.setv hk hv i h.2.2⟩
end
section
variable {K V : Type} [DecidableEq K]
def posM (k : K) : List (K × V) → Nat
 | [] => 0
 | p :: m => if k = p.1 then 0 else posM k m + 1
def lookM (k : K) : List (K × V) → Option V
 | [] => none
 | p :: m => if k = p.1 then some p.2 else lookM k m
def getM (k : K) (z : V) (m : List (K × V)) : V := (lookM k m).getD z
def hasM (k : K) (m : List (K × V)) : Bool := (lookM k m).isSome
def entM (k : K) (z : V) (m : List (K × V)) : List (K × V) := if hasM k m = true then m else m ++ [(k, z)]
def putM (k : K) (v : V) (m : List (K × V)) : List (K × V) := if hasM k m = true then setM (posM k m) v m else m ++ [(k, v)]
theorem posM_look (k : K) : ∀ (m : List (K × V)), (m[posM k m]?).map (·.2) = lookM k m
 | [] => rfl
 | p :: m => by
  rw [posM, lookM]
  split
  ·rfl
  ·rw [List.getElem?_cons_succ]
   exact posM_look k m
theorem posM_lt (k : K) : ∀ (m : List (K × V)), hasM k m = true ↔ posM k m < m.length
 | [] => by simp [hasM, lookM, posM]
 | p :: m => by
  have ih := posM_lt k m
  unfold hasM at ih ⊢
  rw [lookM, posM]
  split
  ·simp
  ·rw [ih, List.length_cons]
   omega
theorem posM_key (k : K) : ∀ (m : List (K × V)) (p : K × V), m[posM k m]? = some p → p.1 = k
 | [], p, h => by simp at h
 | q :: m, p, h => by
  rw [posM] at h
  split at h
  ·rename_i e
   injection h with h
   rw [← h, e]
  ·rw [List.getElem?_cons_succ] at h
   exact posM_key k m p h
structure KL (P : Program) (S : Sizes) (kt : TypeId) (ek : K → AV) (kv : K → Value) : Prop where
 det : ∀ {C : Ctx} {k : K} {v : Value}, VRel1 S C (ek k) v → v = kv k
 rel : ∀ (C : Ctx) (k : K), VRel1 S C (ek k) (kv k)
 notup : ∀ k vs, ek k ≠ .tup vs
 und : ∃ d, P.underlying kt = some d ∧ ∀ (k k' : K) (b : Bool), Instr.sameNow d (kv k) (kv k') = some b → b = decide (k = k')
 check : ∀ (e : Bool) (k : K) (w : World), (Instr.checkKey e 10000 kt (kv k)).run P w = .ok () w
 eq : ∀ (k k' : K) (w : World), (Op.equal kt (kv k) (kv k')).run P w = .ok (decide (k = k')) w
 bits : ∀ k : K, Instr.sameBits 10000 (kv k) (kv k) = true
variable {kt : TypeId} {ek : K → AV} {kv : K → Value}
theorem find_asking (kl : KL P S kt ek kv) {C : Ctx} {ev : V → AV} (k : K) (w : World) : ∀ {m : List (K × V)} {es : List MapEntry} (i : Nat), MRel S C ek ev m es →
  (Instr.findAsking kt (kv k) es i).run P w = .ok ((es[posM k m]?).map fun e => (i + posM k m, e.val)) w
 | [], [], i, _ => by simp [Instr.findAsking]
 | [], e :: es, _, h => h.elim
 | p :: m, [], _, h => h.elim
 | p :: m, e :: es, i, h => by
  have e1 := kl.det h.1
  rw [Instr.findAsking, e1]
  simp only [Sem.run_bind, kl.eq, Result.andThen_ok]
  rw [posM]
  by_cases hk : k = p.1
  ·simp [hk]
  ·rw [if_neg hk, decide_eq_false hk]
   simp only [Bool.false_eq_true, if_false, List.getElem?_cons_succ]
   rw [find_asking kl k w (i + 1) h.2.2]
   congr 1
   cases es[posM k m]? with
   | none => rfl
   | some e => simp only [Option.map_some]; congr 2; omega
theorem find_now (kl : KL P S kt ek kv) {C : Ctx} {ev : V → AV} {d : TypeDesc} (hd : ∀ (k k' : K) (b : Bool), Instr.sameNow d (kv k) (kv k') = some b → b = decide (k = k')) (k : K) : ∀ {m : List (K × V)} {es : List MapEntry} (i : Nat) (r : Option (Nat × Value)), MRel S C ek ev m es →
  Instr.findNow d (kv k) es i = some r → r = (es[posM k m]?).map fun e => (i + posM k m, e.val)
 | [], [], i, r, _, h => by
  injection h with h
  rw [← h]
  simp
 | [], e :: es, _, _, h, _ => h.elim
 | p :: m, [], _, _, h, _ => h.elim
 | p :: m, e :: es, i, r, h, hr => by
  have e1 := kl.det h.1
  rw [Instr.findNow, e1] at hr
  rw [posM]
  split at hr
  ·rename_i hs
   have := hd k p.1 true hs
   have hk : k = p.1 := by simpa using this.symm
   injection hr with hr
   rw [← hr, if_pos hk]
   simp
  ·rename_i hs
   have := hd k p.1 false hs
   have hk : ¬ k = p.1 := by simpa using this.symm
   rw [if_neg hk, List.getElem?_cons_succ, find_now kl hd k (i + 1) r h.2.2 hr]
   cases es[posM k m]? with
   | none => rfl
   | some e => simp only [Option.map_some]; congr 2; omega
  ·cases hr
theorem find_run (kl : KL P S kt ek kv) {C : Ctx} {ev : V → AV} (k : K) (w : World) {m : List (K × V)} {es : List MapEntry} (h : MRel S C ek ev m es) :
  (Instr.findKey kt (kv k) es).run P w = .ok ((es[posM k m]?).map fun e => (posM k m, e.val)) w := by
 obtain ⟨d, hd, hn⟩ := kl.und
 unfold Instr.findKey
 simp only [Sem.run_bind, run_underlying hd, Result.andThen_ok]
 split
 ·rename_i r hr
  have := find_now kl hn k 0 r h hr
  rw [this]
  simp only [Nat.zero_add, Sem.run_pure]
 ·have := find_asking kl k w 0 h
  rw [this]
  simp only [Nat.zero_add]
theorem get_rel {C : Ctx} {ev : V → AV} {k : K} {m : List (K × V)} {es : List MapEntry} (h : MRel S C ek ev m es) : (∀ e, es[posM k m]? = some e → hasM k m = true ∧ ∀ z, VRel1 S C (ev (getM k z m)) e.val) ∧ (es[posM k m]? = none → hasM k m = false ∧ ∀ z, getM k z m = z) := by
 have hlook := posM_look k m
 refine ⟨fun e he => ?_, fun hn => ?_⟩
 ·obtain ⟨p, h1, h2, h3⟩ := h.get _ e he
  rw [h1] at hlook
  have hl : lookM k m = some p.2 := hlook.symm
  exact ⟨by rw [hasM, hl]; rfl, fun z => by rw [getM, hl]; exact h3⟩
 ·have hp : m[posM k m]? = none := by
   rw [List.getElem?_eq_none_iff] at hn ⊢
   rw [← h.len]
   exact hn
  rw [hp] at hlook
  have hl : lookM k m = none := hlook.symm
  exact ⟨by rw [hasM, hl]; rfl, fun z => by rw [getM, hl]; rfl⟩
end
end Go.Sh
namespace Go.Sh
variable {P : Program} {G : Tab} {F : Fn} {c0 : Ctx} {R : Ending → World → Prop} {S : Sizes}
theorem ba_beq (a b : ByteArray) : (a == b) = decide (a = b) := by
 by_cases h : a = b
 ·subst h
  rw [decide_eq_true rfl]
  obtain ⟨d⟩ := a
  show (d == d) = true
  exact beq_self_eq_true d
 ·rw [decide_eq_false h]
  obtain ⟨d⟩ := a
  obtain ⟨d'⟩ := b
  show (d == d') = false
  exact beq_false_of_ne (fun e => h (by rw [e]))
def scalV : Value → Bool
 | .int .. | .bool _ | .string _ => true
 | _ => false
theorem scalV_one {v : Value} (h : scalV v = true) : v.oneCell' = true := by cases v <;> simp_all [scalV, Value.oneCell']
theorem scalV_bits {v : Value} (h : scalV v = true) (n : Nat) : Instr.sameBits n v v = true := by cases v <;> simp_all [scalV, Instr.sameBits, ba_beq]
def scalT (P : Program) (t : TypeId) : Bool := match P.underlying t with | some (.int _) | some .bool | some .string => true | _ => false
theorem relL_scs {C : Ctx} : ∀ (vs cs : List Value), (∀ v ∈ vs, scalV v = true) → (RelL S C (vs.map AV.sc) cs ↔ cs = vs)
 | [], cs, _ => Iff.rfl
 | v :: vs, cs, h => by
  have ih := relL_scs (C := C) vs
  constructor
  ·rintro ⟨c1, c2, rfl, h1, h2⟩
   rw [h1.1, (ih c2 (fun v hv => h v (List.mem_cons_of_mem _ hv))).1 h2]
   rfl
  ·rintro rfl
   exact ⟨[v], vs, rfl, ⟨rfl, scalV_one (h v List.mem_cons_self)⟩, (ih vs (fun v hv => h v (List.mem_cons_of_mem _ hv))).2 rfl⟩
theorem kl_agg {K : Type} [DecidableEq K] {kt : TypeId} {m : Nat} {ls : List Nat} {fs : Array Field} {ek : K → AV} (cells : K → List Value) (hl : leafK P m kt = some ls) (hm : m ≤ 10000) (hu : P.underlying kt = some (.struct fs))
  (hf : fs.toList.all (fun f => scalT P f.type && decide (f.offset < ls.length)) = true) (hek : ∀ k, ek k = .agg ((cells k).map AV.sc)) (hs : ∀ k, ∀ v ∈ cells k, scalV v = true) (hc : ∀ k k', cmpKL ls (cells k) (cells k') = some (decide (k = k'))) :
  KL P S kt ek (fun k => .agg (cells k).toArray) where
 det := fun {C k v} h => by
  rw [hek] at h
  obtain ⟨cs, h1, h2⟩ := h
  rw [h1, ← (relL_scs (cells k) cs.toList (hs k)).1 h2]
 rel := fun C k => by
  rw [hek]
  exact ⟨_, rfl, (relL_scs (cells k) _ (hs k)).2 rfl⟩
 notup := fun k vs h => by rw [hek] at h; cases h
 und := ⟨_, hu, fun a b r h => by simp [Instr.sameNow] at h⟩
 check := fun e k w => by
  have hlen : (cells k).length = ls.length := (cmpKL_len (hc k k)).1
  rw [show (10000 : Nat) = 9999 + 1 from rfl, Instr.checkKey]
  simp only [Sem.run_bind, run_underlying hu, Result.andThen_ok]
  rw [← Array.forIn_toList]
  generalize fs.toList = L at hf
  induction L with
  | nil => simp
  | cons f L ih =>
   simp only [List.all_cons, Bool.and_eq_true, decide_eq_true_eq] at hf
   obtain ⟨⟨h1, h2⟩, h3⟩ := hf
   obtain ⟨d, hd, hagg, hck⟩ : ∃ d, P.underlying f.type = some d ∧ isAggD d = false ∧ ∀ v, (Instr.checkKey e 9999 f.type v).run P w = .ok () w := by
    unfold scalT at h1
    split at h1
    ·rename_i k hd
     exact ⟨_, hd, rfl, fun v => by rw [show (9999 : Nat) = 9998 + 1 from rfl, Instr.checkKey]; simp [run_underlying hd]⟩
    ·rename_i hd
     exact ⟨_, hd, rfl, fun v => by rw [show (9999 : Nat) = 9998 + 1 from rfl, Instr.checkKey]; simp [run_underlying hd]⟩
    ·rename_i hd
     exact ⟨_, hd, rfl, fun v => by rw [show (9999 : Nat) = 9998 + 1 from rfl, Instr.checkKey]; simp [run_underlying hd]⟩
    ·cases h1
   have hget : (cells k)[f.offset]? = some ((cells k)[f.offset]'(by omega)) := List.getElem?_eq_getElem (by omega)
   have hp : (part f.type (cells k).toArray f.offset).run P w = .ok ((cells k)[f.offset]'(by omega)) w := by
    unfold part
    simp only [Sem.run_bind, run_isAggD hd, hagg, Result.andThen_ok, Bool.false_eq_true, if_false, List.getElem?_toArray, hget, Sem.run_pure]
   by_cases hn : f.name = "_"
   ·simp only [List.forIn_cons, Sem.run_bind, hn, ne_eq, not_true_eq_false, if_false, Result.andThen_ok, Sem.run_pure]
    exact ih h3
   ·simp only [List.forIn_cons, Sem.run_bind, hn, ne_eq, not_false_eq_true, if_true, Result.andThen_ok, hp, hck, Sem.run_pure]
    exact ih h3
 eq := fun k k' w => by
  have h := equalIn_leaf m kt ls hl _ hu (cells k) (cells k') _ (hc k k') (10000 - m) w
  rw [show m + (10000 - m) = 10000 by omega] at h
  exact h
 bits := fun k => by
  rw [show (10000 : Nat) = 9999 + 1 from rfl, Instr.sameBits]
  simp only [beq_self_eq_true, Bool.true_and, List.all_eq_true]
  intro x hx
  have : ∀ (l : List Value), ∀ x ∈ l.zip l, x.1 = x.2 ∧ x.1 ∈ l := by
   intro l
   induction l with
   | nil => intro x hx; cases hx
   | cons a l ih =>
    intro x hx
    rcases List.mem_cons.1 hx with rfl | hx
    ·exact ⟨rfl, List.mem_cons_self⟩
    ·exact ⟨(ih x hx).1, List.mem_cons_of_mem _ (ih x hx).2⟩
  obtain ⟨h1, h2⟩ := this _ x hx
  obtain ⟨a, b⟩ := x
  dsimp only at h1 h2 ⊢
  subst h1
  exact scalV_bits (hs k a (by simpa using h2)) 9999
def mapK (b : Nat) : Value := .map (some b)
def VK.isMap : VK → Bool
 | .chan _ => false
 | _ => true
theorem map_obj {k : VK} {vs : List Value} {ob : Obj} (hk : k.isMap = true) (h : k.rel vs ob) : ∃ es clock, ob = .map es clock ∧ vs = es.toList.flatMap fun e => [e.key, e.val] := by
 cases k with
 | chan c => cases hk
 | map => obtain ⟨es, clock, h1, h2, _⟩ := h; exact ⟨es, clock, h1, h2⟩
 | mapD => obtain ⟨es, h1, h2, _⟩ := h; exact ⟨es, _, h1, h2⟩
structure MQ where
 o : Nat
 mt : TypeId
 kt : TypeId
 et : TypeId
 K : Nat → Value
 kd : VK
 as : List AV
def mqOf (P : Program) (mt : TypeId) (x : AV) (h : List AO) : Option MQ :=
 match P.underlying mt, x with
 | some (.map kt et), .ref K o => match h[o]? with | some (.vals kd as) => some ⟨o, mt, kt, et, K, kd, as⟩ | _ => none
 | _, _ => none
theorem mqOf_inv {mt : TypeId} {x : AV} {h : List AO} {q : MQ} (e : mqOf P mt x h = some q) : P.underlying mt = some (.map q.kt q.et) ∧ x = .ref q.K q.o ∧ h[q.o]? = some (.vals q.kd q.as) ∧ q.mt = mt := by
 unfold mqOf at e
 split at e
 ·rename_i kt et K o hu
  split at e
  ·rename_i kd as ho
   injection e with e
   subst e
   exact ⟨hu, rfl, ho, rfl⟩
  ·cases e
 ·cases e
theorem obj_upd {C : Ctx} {h : List AO} (H : HRel S C h) {o b : Nat} (hm : C.m[o]? = some (.blk b)) (hb : b < C.w.heap.size) (ob : Obj) (ao : AO) (hr : ∀ C' : Ctx, Mono C.flat C'.flat → C'.w.heap[b]? = some ob → ORel S C' ao (.blk b)) :
  Step C ⟨{ C.w with heap := C.w.heap.setIfInBounds b ob }, C.m, C.X⟩ ∧ HRel S ⟨{ C.w with heap := C.w.heap.setIfInBounds b ob }, C.m, C.X⟩ (h.set o ao) := by
 have hset : C.m.set o (.blk b) = C.m := by
  obtain ⟨hl, he⟩ := List.getElem?_eq_some_iff.1 hm
  rw [← he]; exact List.set_getElem_self hl
 obtain ⟨st, hh⟩ := H.upd (C' := ⟨{ C.w with heap := C.w.heap.setIfInBounds b ob }, C.m, C.X⟩) (o := o) (s := .blk b) (s' := .blk b) (ob := ao) hm (Slot.le_refl _) (by simp) rfl rfl rfl
  (fun b' _ hne => by simp only []; rw [Array.getElem?_setIfInBounds_ne (fun e => hne (by rw [e]; rfl))]) hset.symm rfl (fun b' h' => .inl h')
 exact ⟨st, hh (hr _ st.mono.flat (by simp only []; rw [Array.getElem?_setIfInBounds_self_of_lt hb]))⟩
theorem get_map {w : World} {r : Nat} {es : Array MapEntry} {clock : Nat} (hb : w.heap[r]? = some (.map es clock)) : (getObj r).run P w = .ok (.map es clock) w := by
 simp [getObj, Sem.run, hb]
theorem set_map {w : World} {r : Nat} {es : Array MapEntry} {clock : Nat} (o : Obj) (hb : w.heap[r]? = some (.map es clock)) : (setObj r o).run P w = .ok () { w with heap := w.heap.setIfInBounds r o } := by
 simp [setObj, Sem.run, hb]
theorem modify_same {α : Type} {f : α → α} : ∀ {es : List α} (i : Nat), (∀ e, es[i]? = some e → f e = e) → es.modify i f = es
 | [], i, _ => by cases i <;> rfl
 | e :: es, 0, h => by
  have := h e rfl
  show f e :: es = e :: es
  rw [this]
 | e :: es, i + 1, h => congrArg (e :: ·) (modify_same i (fun e' he => h e' (by simpa using he)))
theorem posM_le {K V : Type} [DecidableEq K] (k : K) : ∀ (m : List (K × V)), posM k m ≤ m.length
 | [] => Nat.le_refl _
 | p :: m => by
  have := posM_le k m
  rw [posM, List.length_cons]
  split <;> omega
section
variable {n : Nat} {ops : Array Oper} {i : Nat} {t : Tmps} {h : List AO}
theorem LSpec.mm (e : (match opAt n ops i t with | some (.makeMap _ none) => true | _ => false) = true := by kernel_rfl) : LSpec P S n ops i .loud t h (.ref mapK h.length) (h ++ [.vals .mapD []]) := by
 split at e
 ·rename_i ty hop
  refine (opAt_spec hop).spec (fun hh => absurd rfl hh) fun o ρv C h2 hop' H hh hρ => ?_
  have hh := hh (by simp)
  subst hh
  obtain ⟨st, HH⟩ := new_obj H (.map #[] 0) (.vals .mapD []) (fun C' _ hb => ⟨_, [], hb, .nil, ⟨#[], rfl, rfl, fun j e he => by simp at he⟩⟩)
  refine ⟨_, st, by simpa using HH, .inl ⟨.map (some C.w.heap.size), ?_, new_ref H _ mapK rfl⟩⟩
  have hrun : (Instr.makeMap ty none).run P C.w = .ok (.map (some C.w.heap.size)) (C.w.alloc (.map #[] 0)) := rfl
  obtain ⟨dst, op, oty, pos, after, guard⟩ := o
  dsimp only at hop'
  subst hop'
  simp [execOp, hrun]
 ·cases e
def mlE (P : Program) (ds : List (TypeId × Bool)) (n : Nat) (ops : Array Oper) (i : Nat) (t : Tmps) (h : List AO) : Option (MQ × AV × AV × Bool) :=
 match opAt n ops i t with
 | some (.lookup mt x k ok) => (mqOf P mt (ev t x) h).map fun q => (q, ev t k, zeroA P ds q.et, ok)
 | _ => none
def mlA (q : Option (MQ × AV × AV × Bool)) : Option (TypeId × (Nat → Value) × Bool × List AV × AV × AV × Bool) := q.map fun q => (q.1.kt, q.1.K, q.1.kd.isMap, q.1.as, q.2.1, q.2.2.1, q.2.2.2)
variable {K V : Type} [DecidableEq K] {kt : TypeId} {ek : K → AV} {kv : K → Value} {ev_ : V → AV}
def mlR {K V : Type} [DecidableEq K] (ev_ : V → AV) (k : K) (z : V) (m : List (K × V)) : Bool → AV
 | true => .tup [ev_ (getM k z m), .sc (.bool (hasM k m))]
 | false => ev_ (getM k z m)
theorem plain_notup {a : AV} (h : plainA a = true) : ∀ vs, a ≠ .tup vs := fun vs e => by rw [e] at h; cases h
theorem LSpec.ml (kl : KL P S kt ek kv) {m : List (K × V)} {k : K} {z : V} {ok : Bool} (hp : ∀ v, plainA (ev_ v) = true) (ds : List (TypeId × Bool) := []) (e : mlA (mlE P ds n ops i t h) = some (kt, mapK, true, mapAV ek ev_ m, ek k, ev_ z, ok) := by kernel_rfl) : LSpec P S n ops i .read t h (mlR ev_ k z m ok) h := by
 obtain ⟨q, hq, e⟩ := Option.map_eq_some_iff.1 e
 unfold mlE at hq
 split at hq
 ·rename_i mt x kx ok' hop
  obtain ⟨q0, hmq, hq⟩ := Option.map_eq_some_iff.1 hq
  subst hq
  obtain ⟨hu, hx, ho, hmt⟩ := mqOf_inv hmq
  injection e with e1 e
  injection e with e2 e
  injection e with e3 e
  injection e with e4 e
  injection e with e5 e
  injection e with e6 e7
  dsimp only at e1 e2 e3 e4 e5 e6 e7
  subst e1
  refine (opAt_spec hop).spec (fun _ => rfl) fun q ρv C h2 hop' H hh hρ => ?_
  have hh := hh (by simp)
  subst hh
  have hxv := hρ x (by simp [Op.operands])
  have hkv := hρ kx (by simp [Op.operands])
  rw [hx] at hxv
  rw [e5] at hkv
  have hkv := kl.det (VRel.to1 (kl.notup k) hkv)
  obtain ⟨b, ob, vs, g1, g2, g3, g4, g5⟩ := ref_obj H hxv ho
  rw [e2] at g2
  rw [e4] at g4
  obtain ⟨es, clock, rfl, rfl⟩ := map_obj e3 g5
  have hM := mrel_of g4
  have hf := find_run kl k C.w hM
  obtain ⟨r1, r2⟩ := get_rel hM
  have hne : zeroA P ds q0.et ≠ .u := by rw [e6]; intro hx; have := hp z; rw [hx] at this; cases this
  obtain ⟨zv, hz1, hz2⟩ := zeroA_run (S := S) (C := C) hne
  rw [e6] at hz2
  have hz3 := VRel.to1 (plain_notup (hp z)) hz2
  have g2' : ρv x = .map (some b) := g2
  obtain ⟨dst, op, oty, pos, after, guard⟩ := q
  dsimp only at hop'
  subst hop'
  have hgo := get_map (P := P) g3
  have hck := kl.check es.isEmpty k C.w
  have base : ∃ v, VRel1 S C (ev_ (getM k z m)) v ∧ (execOp ρv { dst := dst, op := .lookup mt x kx ok', type := oty, pos := pos, after := after, guard := guard }).run P C.w = .ok (.value (if ok' then .tuple #[v, .bool (hasM k m)] else v)) C.w := by
   cases he : es.toList[posM k m]? with
   | none =>
    obtain ⟨n1, n2⟩ := r2 he
    rw [he] at hf
    refine ⟨zv, by rw [n2]; exact hz3, ?_⟩
    simp only [execOp, Instr.lookup, Sem.run_bind, run_underlying hu, Result.andThen_ok, g2', hkv, hgo, Sem.run_pure, hck, hf, Option.map_none, hz1, n1]
   | some e0 =>
    obtain ⟨n1, n2⟩ := r1 e0 he
    rw [he] at hf
    refine ⟨e0.val, (n2 z).mono (Mono.unflat C), ?_⟩
    simp only [execOp, Instr.lookup, Sem.run_bind, run_underlying hu, Result.andThen_ok, g2', hkv, hgo, Sem.run_pure, hck, hf, Option.map_some, n1]
  obtain ⟨v, b1, b2⟩ := base
  subst e7
  refine OpOK.same (by simpa using H) b2 ?_
  cases ok' with
  | true => exact ⟨_, rfl, .cons b1 (.cons ⟨rfl, rfl⟩ .nil)⟩
  | false => exact VRel.of1 b1
 ·cases hq
def meE (P : Program) (ds : List (TypeId × Bool)) (n : Nat) (ops : Array Oper) (i : Nat) (t : Tmps) (h : List AO) : Option (MQ × AV × AV) :=
 match opAt n ops i t with
 | some (.mapEntry mt x k) => (mqOf P mt (ev t x) h).map fun q => (q, ev t k, zeroA P ds q.et)
 | _ => none
def meA (q : Option (MQ × AV × AV)) : Option (TypeId × (Nat → Value) × VK × List AV × AV × AV) := q.map fun q => (q.1.kt, q.1.K, q.1.kd, q.1.as, q.2.1, q.2.2)
def meO (q : Option (MQ × AV × AV)) : Nat := match q with | some q => q.1.o | none => 0
theorem LSpec.me (kl : KL P S kt ek kv) {m : List (K × V)} {k : K} {z : V} (hp : ∀ v, plainA (ev_ v) = true) (ds : List (TypeId × Bool) := []) (e : meA (meE P ds n ops i t h) = some (kt, mapK, .mapD, mapAV ek ev_ m, ek k, ev_ z) := by kernel_rfl) :
  LSpec P S n ops i .loud t h (.tup [ev_ (getM k z m), .sc (.int .i64 ((posM k m : Nat) : Int))]) (h.set (meO (meE P ds n ops i t h)) (.vals .mapD (mapAV ek ev_ (entM k z m)))) := by
 generalize hq : meE P ds n ops i t h = qq at *
 obtain ⟨q, hq', e0⟩ := Option.map_eq_some_iff.1 e
 subst hq'
 clear e
 unfold meE at hq
 split at hq
 ·rename_i mt x kx hop
  obtain ⟨q0, hmq, hq⟩ := Option.map_eq_some_iff.1 hq
  subst hq
  obtain ⟨hu, hx, ho, hmt⟩ := mqOf_inv hmq
  injection e0 with e1 e
  injection e with e2 e
  injection e with e3 e
  injection e with e4 e
  injection e with e5 e6
  dsimp only at e1 e2 e3 e4 e5 e6
  subst e1
  refine (opAt_spec hop).spec (fun hh => absurd rfl hh) fun q ρv C h2 hop' H hh hρ => ?_
  have hh := hh (by simp)
  subst hh
  have hxv := hρ x (by simp [Op.operands])
  have hkv := hρ kx (by simp [Op.operands])
  rw [hx] at hxv
  rw [e5] at hkv
  have hkv := kl.det (VRel.to1 (kl.notup k) hkv)
  obtain ⟨b, ob, vs, g1, g2, g3, g4, g5⟩ := ref_obj H hxv ho
  rw [e2] at g2
  rw [e4] at g4
  rw [e3] at g5
  obtain ⟨es, rfl, rfl, g6⟩ := g5
  have hb : b < C.w.heap.size := (Array.getElem?_eq_some_iff.1 g3).1
  have hM := mrel_of g4
  have hf := find_run kl k C.w hM
  obtain ⟨r1, r2⟩ := get_rel hM
  have hne : zeroA P ds q0.et ≠ .u := by rw [e6]; intro hx; have := hp z; rw [hx] at this; cases this
  obtain ⟨zv, hz1, hz2⟩ := zeroA_run (S := S) (C := C) hne
  rw [e6] at hz2
  have hz3 := VRel.to1 (plain_notup (hp z)) hz2
  have g2' : ρv x = .map (some b) := g2
  obtain ⟨dst, op, oty, pos, after, guard⟩ := q
  dsimp only at hop'
  subst hop'
  have hgo := get_map (P := P) g3
  have hck := kl.check false k C.w
  cases he : es.toList[posM k m]? with
  | none =>
   obtain ⟨n1, n2⟩ := r2 he
   rw [he] at hf
   have hpos : posM k m = es.size := by
    have h1 := List.getElem?_eq_none_iff.1 he
    have h2 : ¬ posM k m < m.length := fun hx => by rw [← posM_lt, n1] at hx; cases hx
    have h3 : posM k m ≤ m.length := posM_le k m
    have h4 := hM.len
    rw [Array.length_toList] at h4
    omega
   have hent : entM k z m = m ++ [(k, z)] := by rw [entM, n1]; rfl
   obtain ⟨st, HH⟩ := obj_upd H g1 hb (.map (es.push { key := kv k, val := zv, born := es.size }) (es.size + 1)) (.vals .mapD (mapAV ek ev_ (entM k z m))) (fun C' hm hb' => by
    refine ⟨_, _, hb', mrel_to (es := (es.push { key := kv k, val := zv, born := es.size }).toList) ?_, ⟨_, by rw [Array.size_push], rfl, fun j e he => ?_⟩⟩
    ·rw [hent, Array.toList_push]
     exact MRel.push (e0 := { key := kv k, val := zv, born := es.size }) (kl.rel _ k) ((VRel1.plain (Under.toFlat C) (hp z) hz3).mono hm) (hM.mono hm)
    ·rcases Nat.lt_or_ge j es.size with hj | hj
     ·rw [Array.getElem?_push_lt hj] at he
      exact g6 j e (by rw [← he]; exact (Array.getElem?_eq_getElem hj))
     ·have hj2 := (Array.getElem?_eq_some_iff.1 he).1
      rw [Array.size_push] at hj2
      have : j = es.size := by omega
      subst this
      rw [Array.getElem?_push_size] at he
      injection he with he
      rw [← he])
   refine ⟨_, st, by simpa [meO] using HH, .inl ⟨.tuple #[zv, goInt es.size], ?_, ⟨_, rfl, .cons (by rw [n2]; exact hz3.mono st.mono) (.cons ⟨by rw [hpos]; rfl, rfl⟩ .nil)⟩⟩⟩
   simp only [execOp, Instr.mapEntry, Sem.run_bind, run_underlying hu, Result.andThen_ok, g2', hkv, hgo, Sem.run_pure, hck, hf, Option.map_none, hz1, set_map _ g3]
  | some e0 =>
   obtain ⟨n1, n2⟩ := r1 e0 he
   rw [he] at hf
   have hent : entM k z m = m := by rw [entM, n1]; rfl
   obtain ⟨p, hp1, hp2, hp3⟩ := hM.get _ e0 he
   have hpk := posM_key k m p hp1
   have hek : e0.key = kv k := by rw [kl.det hp2, hpk]
   have hes : es[posM k m]? = some e0 := by rw [← Array.getElem?_toList]; exact he
   have hborn := g6 _ e0 hes
   have hmod : (es.modify (posM k m) fun e => { e with key := kv k }) = es := by
    apply Array.ext'
    rw [Array.toList_modify]
    exact modify_same _ (fun e he' => by rw [he] at he'; injection he' with he'; subst he'; rw [← hek])
   have hkeep : (Instr.keyThatStays (kv k) (kv k)).run P C.w = .ok (kv k) C.w := by
    unfold Instr.keyThatStays
    rw [kl.bits k]
    rfl
   obtain ⟨st, HH⟩ := obj_upd H g1 hb (.map es es.size) (.vals .mapD (mapAV ek ev_ (entM k z m))) (fun C' hm hb' => ⟨_, _, hb', mrel_to (es := es.toList) (by rw [hent]; exact hM.mono hm), ⟨es, rfl, rfl, g6⟩⟩)
   refine ⟨_, st, by simpa [meO] using HH, .inl ⟨.tuple #[e0.val, goInt (posM k m)], ?_, ⟨_, rfl, .cons (((n2 z).mono (Mono.unflat C)).mono st.mono) (.cons ⟨rfl, rfl⟩ .nil)⟩⟩⟩
   simp only [execOp, Instr.mapEntry, Sem.run_bind, run_underlying hu, Result.andThen_ok, g2', hkv, hgo, Sem.run_pure, hck, hf, Option.map_some, hes, Option.getD_some, hek, hkeep, hmod, set_map _ g3, hborn]
 ·cases hq
def esE (P : Program) (n : Nat) (ops : Array Oper) (i : Nat) (t : Tmps) (h : List AO) : Option (MQ × AV × AV) :=
 match opAt n ops i t with
 | some (.entryStore mt x s v) => (mqOf P mt (ev t x) h).map fun q => (q, ev t s, ev t v)
 | _ => none
def esA (q : Option (MQ × AV × AV)) : Option ((Nat → Value) × VK × List AV × AV × AV) := q.map fun q => (q.1.K, q.1.kd, q.1.as, q.2.1, q.2.2)
theorem LSpec.es {K V : Type} {ek : K → AV} {ev_ : V → AV} {m : List (K × V)} {p : Nat} {v : V} (hlt : p < m.length) (hp : plainA (ev_ v) = true) (e : esA (esE P n ops i t h) = some (mapK, .mapD, mapAV ek ev_ m, .sc (.int .i64 ((p : Nat) : Int)), ev_ v) := by kernel_rfl) :
  LSpec P S n ops i .loud t h .u (h.set (meO (esE P n ops i t h)) (.vals .mapD (mapAV ek ev_ (setM p v m)))) := by
 generalize hq : esE P n ops i t h = qq at *
 obtain ⟨q, hq', e0⟩ := Option.map_eq_some_iff.1 e
 subst hq'
 clear e
 unfold esE at hq
 split at hq
 ·rename_i mt x sx vx hop
  obtain ⟨q0, hmq, hq⟩ := Option.map_eq_some_iff.1 hq
  subst hq
  obtain ⟨hu, hx, ho, hmt⟩ := mqOf_inv hmq
  injection e0 with e2 e
  injection e with e3 e
  injection e with e4 e
  injection e with e5 e6
  dsimp only at e2 e3 e4 e5 e6
  refine (opAt_spec hop).spec (fun hh => absurd rfl hh) fun q ρv C h2 hop' H hh hρ => ?_
  have hh := hh (by simp)
  subst hh
  have hxv := hρ x (by simp [Op.operands])
  have hsv := hρ sx (by simp [Op.operands])
  have hvv := hρ vx (by simp [Op.operands])
  rw [hx] at hxv
  rw [e5] at hsv
  rw [e6] at hvv
  have hsv := sc_inv hsv
  have hvv := VRel.to1 (plain_notup hp) hvv
  obtain ⟨b, ob, vs, g1, g2, g3, g4, g5⟩ := ref_obj H hxv ho
  rw [e2] at g2
  rw [e4] at g4
  rw [e3] at g5
  obtain ⟨es, rfl, rfl, g6⟩ := g5
  have hb : b < C.w.heap.size := (Array.getElem?_eq_some_iff.1 g3).1
  have hM := mrel_of g4
  have hlen := hM.len
  rw [Array.length_toList] at hlen
  have hfi : es.findIdx? (fun e => (e.born : Int) == (p : Int)) = some p := by
   rw [Array.findIdx?_eq_some_iff_getElem]
   refine ⟨by omega, ?_, fun j hj => ?_⟩
   ·have := g6 p es[p] (Array.getElem?_eq_getElem (by omega))
    rw [this]
    simp
   ·have := g6 j es[j] (Array.getElem?_eq_getElem (by omega))
    rw [this]
    simp
    omega
  have g2' : ρv x = .map (some b) := g2
  obtain ⟨dst, op, oty, pos, after, guard⟩ := q
  dsimp only at hop'
  subst hop'
  have hgo := get_map (P := P) g3
  obtain ⟨st, HH⟩ := obj_upd H g1 hb (.map (es.modify p fun e => { e with val := ρv vx }) es.size) (.vals .mapD (mapAV ek ev_ (setM p v m))) (fun C' hm hb' => by
   refine ⟨_, _, hb', mrel_to (es := (es.modify p fun e => { e with val := ρv vx }).toList) ?_, ⟨_, by rw [Array.size_modify], rfl, fun j e he => ?_⟩⟩
   ·rw [Array.toList_modify]
    exact MRel.setv (f := fun e => { e with val := ρv vx }) (v := v) (fun _ => rfl) (fun _ => (VRel1.plain (Under.toFlat C) hp hvv).mono hm) p (hM.mono hm)
   ·rw [Array.getElem?_modify] at he
    split at he
    ·obtain ⟨e', h1, h2⟩ := Option.map_eq_some_iff.1 he
     rw [← h2]
     exact g6 j e' h1
    ·exact g6 j e he)
  refine ⟨_, st, by simpa [meO] using HH, .inr ⟨?_, rfl⟩⟩
  simp only [execOp, Instr.entryStore, Sem.run_bind, Result.andThen_ok, g2', hsv, hgo, Sem.run_pure, asInt, asIntOf, hfi, set_map _ g3]
 ·cases hq
end
section
variable {K V : Type}
theorem setM_app (v z : V) (k : K) : ∀ (m : List (K × V)), setM m.length v (m ++ [(k, z)]) = m ++ [(k, v)]
 | [] => rfl
 | p :: m => by
  rw [List.length_cons, List.cons_append, setM, setM_app v z k m, List.cons_append]
end
section
variable {K V : Type} [DecidableEq K]
theorem posM_ent (k : K) (z : V) (m : List (K × V)) : posM k m < (entM k z m).length := by
 unfold entM
 split
 ·rename_i h
  exact (posM_lt k m).1 h
 ·rw [List.length_append, List.length_singleton]
  have := posM_le k m
  omega
theorem setM_ent (k : K) (z v : V) (m : List (K × V)) : setM (posM k m) v (entM k z m) = putM k v m := by
 unfold entM putM
 split
 ·rfl
 ·rename_i h
  have h1 := posM_le k m
  have h2 : posM k m = m.length := by
   have : ¬ posM k m < m.length := fun hx => h ((posM_lt k m).2 hx)
   omega
  rw [h2, setM_app]
end
section
variable {n : Nat} {ops : Array Oper} {i : Nat} {t : Tmps} {h : List AO}
theorem LSpec.es' {K V : Type} [DecidableEq K] {ek : K → AV} {ev_ : V → AV} (k : K) (z : V) (m : List (K × V)) {v : V} (hp : plainA (ev_ v) = true) (e : esA (esE P n ops i t h) = some (mapK, .mapD, mapAV ek ev_ (entM k z m), .sc (.int .i64 ((posM k m : Nat) : Int)), ev_ v)) :
  LSpec P S n ops i .loud t h .u (h.set (meO (esE P n ops i t h)) (.vals .mapD (mapAV ek ev_ (putM k v m)))) := by
 have := LSpec.es (S := S) (posM_ent k z m) hp e
 rw [setM_ent] at this
 exact this
end
section
variable {n : Nat} {ops : Array Oper} {i : Nat} {t : Tmps} {h : List AO} {K V : Type} [DecidableEq K] {kt : TypeId} {ek : K → AV} {kv : K → Value} {ev_ : V → AV}
theorem lookM_app (k : K) (z : V) : ∀ (m : List (K × V)), lookM k (m ++ [(k, z)]) = some ((lookM k m).getD z)
 | [] => by simp [lookM]
 | p :: m => by
  rw [List.cons_append, lookM, lookM]
  split
  ·rfl
  ·exact lookM_app k z m
theorem getM_ent (k : K) (z : V) (m : List (K × V)) : getM k z (entM k z m) = getM k z m := by
 unfold entM
 split
 ·rfl
 ·rw [getM, lookM_app]
  rfl
theorem LSpec.mlB (kl : KL P S kt ek kv) {m : List (K × V)} {k : K} {z : V} (hp : ∀ v, plainA (ev_ v) = true) (ds : List (TypeId × Bool) := []) (e : mlA (mlE P ds n ops i t h) = some (kt, mapK, true, mapAV ek ev_ (entM k z m), ek k, ev_ z, false) := by kernel_rfl) : LSpec P S n ops i .read t h (ev_ (getM k z m)) h := by
 have := LSpec.ml (ok := false) kl hp ds e
 rw [mlR, getM_ent] at this
 exact this
end
section
variable {s : Option DS} {K V : Type} [DecidableEq K] {kt : TypeId} {ek : K → AV} {kv : K → Value}
theorem DX.mkm (L : List Nat) (D : DX P G F c0 R (updE F L .loud (fun d => .ref mapK d.r.h.length) (fun d => d.r.h ++ [.vals .mapD []]) s)) (e : (match opAt F.n (dO F s) (dI s) (dT s) with | some (.makeMap _ none) => true | _ => false) = true := by kernel_rfl) : DX P G F c0 R s := DX.opF L (LSpec.mm e) D
theorem DX.ml (L : List Nat) (ev_ : V → AV) (kl : KL P G.S kt ek kv) (hp : ∀ v, plainA (ev_ v) = true) (m : List (K × V)) (k : K) (z : V) (ok : Bool) (D : DX P G F c0 R (updE F L .read (fun _ => mlR ev_ k z m ok) hOf s)) (ds : List (TypeId × Bool) := []) (e : mlA (mlE P ds F.n (dO F s) (dI s) (dT s) (dH s)) = some (kt, mapK, true, mapAV ek ev_ m, ek k, ev_ z, ok) := by kernel_rfl) : DX P G F c0 R s := DX.opF L (LSpec.ml kl hp ds e) D
theorem DX.me (L : List Nat) (ev_ : V → AV) (kl : KL P G.S kt ek kv) (hp : ∀ v, plainA (ev_ v) = true) (m : List (K × V)) (k : K) (z : V) (ds : List (TypeId × Bool)) (D : DX P G F c0 R (updE F L .loud (fun _ => .tup [ev_ (getM k z m), .sc (.int .i64 ((posM k m : Nat) : Int))]) (fun d => d.r.h.set (meO (meE P ds F.n (d.ops F) d.r.i d.r.t d.r.h)) (.vals .mapD (mapAV ek ev_ (entM k z m)))) s)) (e : meA (meE P ds F.n (dO F s) (dI s) (dT s) (dH s)) = some (kt, mapK, .mapD, mapAV ek ev_ m, ek k, ev_ z) := by kernel_rfl) : DX P G F c0 R s := DX.opF L (LSpec.me kl hp ds e) D
theorem DX.es (L : List Nat) (ek : K → AV) (ev_ : V → AV) (m : List (K × V)) (k : K) (z v : V) (D : DX P G F c0 R (updE F L .loud (fun _ => .u) (fun d => d.r.h.set (meO (esE P F.n (d.ops F) d.r.i d.r.t d.r.h)) (.vals .mapD (mapAV ek ev_ (putM k v m)))) s)) (hp : plainA (ev_ v) = true := by kernel_rfl) (e : esA (esE P F.n (dO F s) (dI s) (dT s) (dH s)) = some (mapK, .mapD, mapAV ek ev_ (entM k z m), .sc (.int .i64 ((posM k m : Nat) : Int)), ev_ v) := by kernel_rfl) : DX P G F c0 R s := DX.opF L (LSpec.es' k z m hp e) D
theorem DX.mlB (L : List Nat) (ev_ : V → AV) (kl : KL P G.S kt ek kv) (hp : ∀ v, plainA (ev_ v) = true) (m : List (K × V)) (k : K) (z : V) (D : DX P G F c0 R (updE F L .read (fun _ => ev_ (getM k z m)) hOf s)) (ds : List (TypeId × Bool) := []) (e : mlA (mlE P ds F.n (dO F s) (dI s) (dT s) (dH s)) = some (kt, mapK, true, mapAV ek ev_ (entM k z m), ek k, ev_ z, false) := by kernel_rfl) : DX P G F c0 R s := DX.opF L (LSpec.mlB kl hp ds e) D
end
section
variable {n : Nat} {ops : Array Oper} {i : Nat} {t : Tmps} {h : List AO} {K V : Type} [DecidableEq K] {kt : TypeId} {ek : K → AV} {kv : K → Value}
theorem LQ.xi [ok : Ok P G] {α : Type} (f : α → AV) {xs : List α} {j : Int} {x : α} (hv : ixO xs j = some x) (e : indexE G n ops i t = some (xs.map f, j) := by kernel_rfl) (hf : chOk (f x) = true := by kernel_rfl) : LSpec P G.S n ops i .pure t h (.ep (chD (f x)) 0 none) h := LSpec.xi f hv e hf
theorem LQ.ml (ev_ : V → AV) (kl : KL P S kt ek kv) (hp : ∀ v, plainA (ev_ v) = true) (m : List (K × V)) (k : K) (z : V) (ok : Bool) (ds : List (TypeId × Bool) := []) (e : mlA (mlE P ds n ops i t h) = some (kt, mapK, true, mapAV ek ev_ m, ek k, ev_ z, ok) := by kernel_rfl) : LSpec P S n ops i .read t h (mlR ev_ k z m ok) h := LSpec.ml kl hp ds e
theorem LQ.mlB (ev_ : V → AV) (kl : KL P S kt ek kv) (hp : ∀ v, plainA (ev_ v) = true) (m : List (K × V)) (k : K) (z : V) (ds : List (TypeId × Bool) := []) (e : mlA (mlE P ds n ops i t h) = some (kt, mapK, true, mapAV ek ev_ (entM k z m), ek k, ev_ z, false) := by kernel_rfl) : LSpec P S n ops i .read t h (ev_ (getM k z m)) h := LSpec.mlB kl hp ds e
theorem LQ.me (ev_ : V → AV) (kl : KL P S kt ek kv) (hp : ∀ v, plainA (ev_ v) = true) (m : List (K × V)) (k : K) (z : V) (ds : List (TypeId × Bool)) (e : meA (meE P ds n ops i t h) = some (kt, mapK, .mapD, mapAV ek ev_ m, ek k, ev_ z) := by kernel_rfl) :
  LSpec P S n ops i .loud t h (.tup [ev_ (getM k z m), .sc (.int .i64 ((posM k m : Nat) : Int))]) (h.set (meO (meE P ds n ops i t h)) (.vals .mapD (mapAV ek ev_ (entM k z m)))) := LSpec.me kl hp ds e
theorem LQ.es (ek : K → AV) (ev_ : V → AV) (m : List (K × V)) (k : K) (z v : V) (hp : plainA (ev_ v) = true := by kernel_rfl) (e : esA (esE P n ops i t h) = some (mapK, .mapD, mapAV ek ev_ (entM k z m), .sc (.int .i64 ((posM k m : Nat) : Int)), ev_ v) := by kernel_rfl) :
  LSpec P S n ops i .loud t h .u (h.set (meO (esE P n ops i t h)) (.vals .mapD (mapAV ek ev_ (putM k v m)))) := LSpec.es' k z m hp e
end
end Go.Sh
namespace Go.Sh
variable {P : Program} {G : Tab} {F : Fn} {c0 : Ctx} {R : Ending → World → Prop} {S : Sizes}
section
variable {n : Nat} {ops : Array Oper} {i : Nat} {t : Tmps} {h : List AO}
end
section
variable {s : Option DS}
end
section
variable {n : Nat} {ops : Array Oper} {i : Nat} {t : Tmps} {h : List AO}
end
section
variable {s : Option DS}
end
section
variable {n : Nat} {ops : Array Oper} {i : Nat} {t : Tmps} {h : List AO}
end
section
variable {s : Option DS}
end
section
variable {s : Option DS}
theorem LQ.ch [ok : Ok P G] {n : Nat} {ops : Array Oper} {i : Nat} {t : Tmps} {h : List AO} (ks : List Nat) {f : FuncId} {avs : List AV} {hin hout : List AO} {r : AV} (hc : ACalls P G.S f avs hin r hout) (ds es : List (TypeId × Bool) := []) (e : callHE2 ks ds es n ops i t h f hout r = some (avs, hin) := by kernel_rfl) : LSpec P G.S n ops i .loud t h (bkR ks h hout r) (bkH ks h hout r) := LSpec.ch ks hc ds es e
end
end Go.Sh
namespace Go.Sh
variable {P : Program} {G : Tab} {F : Fn} {c0 : Ctx} {R : Ending → World → Prop} {S : Sizes}
section
variable [ok : Ok P G] {n : Nat} {ops : Array Oper} {i : Nat} {t : Tmps} {h : List AO}
end
section
variable {s : Option DS}
end
end Go.Sh
namespace Go.Sh
variable {P : Program} {G : Tab} {F : Fn} {c0 : Ctx} {R : Ending → World → Prop} {S : Sizes}
section
variable [ok : Ok P G] {n : Nat} {ops : Array Oper} {i : Nat} {t : Tmps} {h : List AO}
end
section
variable {s : Option DS}
end
end Go.Sh
namespace Go.Sh
variable {P : Program} {G : Tab} {F : Fn} {c0 : Ctx} {R : Ending → World → Prop} {S : Sizes}
section
variable {n : Nat} {ops : Array Oper} {i : Nat} {t : Tmps} {h : List AO} {K V : Type} [DecidableEq K] {kt : TypeId} {ek : K → AV} {kv : K → Value} {ev_ : V → AV}
end
section
variable {s : Option DS} {K V : Type} [DecidableEq K] {kt : TypeId} {ek : K → AV} {kv : K → Value}
end
end Go.Sh
namespace Go.Sh
variable {P : Program} {G : Tab} {F : Fn} {c0 : Ctx} {R : Ending → World → Prop} {S : Sizes}
section
variable {n : Nat} {ops : Array Oper} {i : Nat} {t : Tmps} {h : List AO}
end
section
variable {n : Nat} {ops : Array Oper} {i : Nat} {t : Tmps} {h : List AO}
theorem LQ.gch [ok : Ok P G] (ks os : List Nat) {f : FuncId} {avs : List AV} {hin hout : List AO} {r : AV} (hc : ACalls P G.S f avs hin r hout) (ds es : List (TypeId × Bool) := []) (hos : rowsAt h os = true := by kernel_rfl) (e : callHE2 ks ds es n ops i (giveT os (settle os h) t) (settle os h) f hout r = some (avs, hin) := by kernel_rfl) : LSpec P G.S n ops i .loud t h (bkR ks (settle os h) hout r) (bkH ks (settle os h) hout r) := LSpec.gv os (LSpec.ch ks hc ds es e) hos
end
section
variable {s : Option DS}
theorem DX.gch [ok : Ok P G] (L : List Nat) (ks os : List Nat) {f : FuncId} {avs : List AV} {hin hout : List AO} {r : AV} (hc : ACalls P G.S f avs hin r hout) (D : DX P G F c0 R (updE F L .loud (fun d => bkR ks (settle os d.r.h) hout r) (fun d => bkH ks (settle os d.r.h) hout r) s)) (ds es : List (TypeId × Bool) := []) (hos : rowsAt (dH s) os = true := by kernel_rfl) (e : callHE2 ks ds es F.n (dO F s) (dI s) (giveT os (settle os (dH s)) (dT s)) (settle os (dH s)) f hout r = some (avs, hin) := by kernel_rfl) : DX P G F c0 R s := DX.opF L (LSpec.gv os (LSpec.ch ks hc ds es e) hos) D
end
end Go.Sh
namespace Go.Sh
variable {P : Program} {G : Tab} {F : Fn} {c0 : Ctx} {R : Ending → World → Prop} {S : Sizes}
section
variable {n : Nat} {ops : Array Oper} {i : Nat} {t : Tmps} {h : List AO} {K V : Type} [DecidableEq K] {kt : TypeId} {ek : K → AV} {kv : K → Value} {ev_ : V → AV}
end
section
variable {s : Option DS} {K V : Type} [DecidableEq K] {kt : TypeId} {ek : K → AV} {kv : K → Value}
end
end Go.Sh
namespace Go.Sh
variable {P : Program} {G : Tab} {F : Fn} {c0 : Ctx} {R : Ending → World → Prop} {S : Sizes}
structure FQ where
 p : List Nat
 k : List PI
 id : Nat
 ops : Array Oper
 o : Oper
def mapFix (bm : Nat) (es : Array MapEntry) (clock : Nat) : Nat → Obj → Prop := fun b ob => b = bm ∧ ob = .map es clock
def iterFix (bm clock : Nat) (seen : Array Nat) : Nat → Obj → Prop := fun _ ob => ob = .mapIter (some bm) clock seen clock
def iterK (b : Nat) : Value := .pointer (some ⟨b, 0, none⟩)
structure MapAt (S : Sizes) (c1 : Ctx) {K V : Type} (ek : K → AV) (ev_ : V → AV) (m : List (K × V)) (o bm : Nat) (es : Array MapEntry) (clock : Nat) : Prop where
 rel : MRel S c1.flat ek ev_ m es.toList
 old : ∀ e ∈ es.toList, e.born < clock
 nd : (es.toList.map (·.born)).Nodup
theorem any_obj {C : Ctx} {h : List AO} (H : HRel S C h) {K : Nat → Value} {o : Nat} {φ : Nat → Obj → Prop} {v : Value} (hv : VRel S C (.ref K o) v) (ho : h[o]? = some (.any φ)) : ∃ b ob, C.m[o]? = some (.blk b) ∧ v = K b ∧ C.w.heap[b]? = some ob ∧ φ b ob := by
 obtain ⟨b, h1, h2⟩ := ref_inv hv
 obtain ⟨ob, h3, h4⟩ := H.rel o _ _ ho h1
 exact ⟨b, ob, h1, h2, h3, h4⟩
section
variable {n : Nat} {ops : Array Oper} {i : Nat} {t : Tmps} {h : List AO}
def rngE (P : Program) (n : Nat) (ops : Array Oper) (i : Nat) (t : Tmps) (h : List AO) : Option ((Nat → Value) × Option AO) :=
 match opAt n ops i t with
 | some (.range mt x) =>
  match P.underlying mt, ev t x with
  | some (.map _ _), .ref K o => some (K, h[o]?)
  | _, _ => none
 | _ => none
theorem LSpec.rg (bm : Nat) (es : Array MapEntry) (clock : Nat) (e : rngE P n ops i t h = some (mapK, some (.any (mapFix bm es clock)))) : LSpec P S n ops i .loud t h (.ref iterK h.length) (h ++ [.any (iterFix bm clock #[])]) := by
 unfold rngE at e
 split at e
 ·rename_i mt x hop
  split at e
  ·rename_i kt et K o hu hx
   injection e with e
   injection e with e1 e2
   refine (opAt_spec hop).spec (fun hh => absurd rfl hh) fun q ρv C h2 hop' H hh hρ => ?_
   have hh := hh (by simp)
   subst hh
   have hxv := hρ x (by simp [Op.operands])
   rw [hx] at hxv
   obtain ⟨b, ob, g1, g2, g3, rfl, rfl⟩ := any_obj H hxv e2
   rw [e1] at g2
   have g2' : ρv x = .map (some b) := g2
   obtain ⟨dst, op, oty, pos, after, guard⟩ := q
   dsimp only at hop'
   subst hop'
   obtain ⟨st, HH⟩ := new_obj H (.mapIter (some b) clock #[] clock) (.any (iterFix b clock #[])) (fun C' _ hb => ⟨_, hb, rfl⟩)
   refine ⟨_, st, by simpa using HH, .inl ⟨.pointer (some ⟨C.w.heap.size, 0, none⟩), ?_, new_ref H _ iterK rfl⟩⟩
   have hrun := run_range_map (P := P) C.w mt kt et b es clock hu g3
   simp only [execOp, g2']
   simp [hrun]
  ·cases e
 ·cases e
end
section
variable {s : Option DS}
theorem DX.rg (L : List Nat) (bm : Nat) (es : Array MapEntry) (clock : Nat) (D : DX P G F c0 R (updE F L .loud (fun d => .ref iterK d.r.h.length) (fun d => d.r.h ++ [.any (iterFix bm clock #[])]) s)) (e : rngE P F.n (dO F s) (dI s) (dT s) (dH s) = some (mapK, some (.any (mapFix bm es clock))) := by kernel_rfl) : DX P G F c0 R s := DX.opF L (LSpec.rg bm es clock e) D
end
section
variable {n : Nat} {ops : Array Oper} {i : Nat} {t : Tmps} {h : List AO}
end
end Go.Sh
namespace Go.Sh
variable {P : Program} {G : Tab} {F : Fn} {c0 : Ctx} {R : Ending → World → Prop} {S : Sizes}
structure Cvt (K : Ctx → Ctx → Prop) : Prop where
 w : ∀ C D, K C D → D.w = C.w
 flat : ∀ C D, K C D → K C.flat D.flat
def Cv (S : Sizes) (K : Ctx → Ctx → Prop) (a a' : AV) : Prop := ∀ C D, K C D → ∀ cs, RelV S C a cs → RelV S D a' cs
def CvL (S : Sizes) (K : Ctx → Ctx → Prop) (a a' : List AV) : Prop := ∀ C D, K C D → ∀ cs, RelL S C a cs → RelL S D a' cs
def Cv1 (S : Sizes) (K : Ctx → Ctx → Prop) (a a' : AV) : Prop := ∀ C D, K C D → ∀ v, VRel1 S C a v → VRel1 S D a' v
variable {K : Ctx → Ctx → Prop}
theorem Cv.scal {a : AV} (h : scalA a = true := by rfl) : Cv S K a a := fun C D _ cs r => RelV.scal a cs h r
theorem CvL.nil : CvL S K [] [] := fun _ _ _ _ r => r
theorem CvL.cons {a a' : AV} {l l' : List AV} (h : Cv S K a a') (t : CvL S K l l') : CvL S K (a :: l) (a' :: l') := by
 rintro C D k cs ⟨c1, c2, rfl, h1, h2⟩
 exact ⟨c1, c2, rfl, h C D k c1 h1, t C D k c2 h2⟩
theorem Cv.sl (hK : Cvt K) {α : Type} {f g : α → AV} {xs : List α} (h : ∀ x ∈ xs, Cv S K (f x) (g x)) {e e' : TypeId} (hS : S e' = S e) (hok : ∀ C D b, K C D → b < C.w.heap.size → C.okE e b → D.okE e' b) (fl : Bool) : Cv S K (.sl e (xs.map f) fl) (.sl e' (xs.map g) fl) := by
 rintro C D k cs ⟨a, c, h1, h2, h3, h4, h5, h6⟩
 rw [List.length_map] at h1 h2 h3 h5
 refine ⟨a, c, by rw [List.length_map]; exact h1, by rw [List.length_map]; exact h2, by rw [List.length_map]; exact h3, h4, by rw [List.length_map, hS]; exact h5, ?_⟩
 rcases h6 with h6 | ⟨b, off, q1, q2, q3⟩
 ·left
  have : xs = [] := by simpa using h6
  rw [this]
  rfl
 ·cases xs with
  | nil => exact .inl rfl
  | cons x xs =>
   refine .inr ⟨b, off, q1, ?_, ?_⟩
   ·obtain ⟨⟨cs', _, _, hne, hc⟩, _⟩ := q3
    have : 0 < cs'.length := List.length_pos_iff.2 hne
    exact hok C D b k (World.block_lt_of_cell? C.w _ (hc 0 cs'[0] (by simp))) q2
   ·rw [hS]
    have kf := hK.flat C D k
    have hw := hK.w _ _ kf
    have key : ∀ (ys : List α) (o : Nat), (∀ y ∈ ys, Cv S K (f y) (g y)) → RelR S C.flat b (S e).1 (ys.map f) o → RelR S D.flat b (S e).1 (ys.map g) o := by
     intro ys
     induction ys with
     | nil => intro _ _ _; trivial
     | cons y ys ih =>
      rintro o hy ⟨⟨cs', r1, r2, r3, r4⟩, r5⟩
      exact ⟨⟨cs', hy y (by simp) _ _ kf _ r1, r2, r3, fun j v hj => by rw [hw]; exact r4 j v hj⟩, ih _ (fun z hz => hy z (by simp [hz])) r5⟩
    exact key (x :: xs) off h q3
theorem Cv.fn {f : FuncId} {l l' : List AV} (h : CvL S K l l') : Cv S K (.fn f l) (.fn f l') := by
 rintro C D k cs ⟨vs, h1, h2⟩
 exact ⟨vs, h1, h C D k _ h2⟩
theorem Cv1.one {a a' : AV} (h : Cv S K a a') (h1 : a.single = true := by rfl) (h2 : a'.single = true := by rfl) : Cv1 S K a a' := by
 intro C D k v r
 rw [VRel1_single h1] at r
 rw [VRel1_single h2]
 exact h C D k _ r
theorem Cv1.scal {a : AV} (h : scalA a = true := by rfl) : Cv1 S K a a := fun C D _ v r => r.scal h
inductive Cvs (S : Sizes) (K : Ctx → Ctx → Prop) : List AV → List AV → Prop
 | nil : Cvs S K [] []
 | cons {a a' : AV} {l l' : List AV} : Cv1 S K a a' → Cvs S K l l' → Cvs S K (a :: l) (a' :: l')
theorem Cvs.rel {l l' : List AV} (h : Cvs S K l l') {C D : Ctx} (k : K C D) : ∀ {vs : List Value}, VRels S C l vs → VRels S D l' vs := by
 induction h with
 | nil => intro vs r; cases r; exact .nil
 | cons h _ ih => intro vs r; cases r with | cons r1 r2 => exact .cons (h C D k _ r1) (ih r2)
structure UnC (C D : Ctx) : Prop where
 w : D.w = C.w
 m : C.m = []
 ok : ∀ b, C.rd b → D.ok b
 N : C.w.heap.size ≤ D.X.N
theorem rd_flat (C : Ctx) (b : Nat) : C.flat.rd b ↔ C.rd b := by
 unfold Ctx.rd
 rw [Ctx.flat_ok]
 exact Iff.rfl
theorem UnC.cvt : Cvt UnC := ⟨fun _ _ h => h.w, fun C D h => ⟨h.w, rfl, fun b hb => (D.flat_ok b).2 (h.ok b ((rd_flat C b).1 hb)), h.N⟩⟩
abbrev Un (S : Sizes) := Cv S UnC
theorem Un.sl {α : Type} {f g : α → AV} {xs : List α} (h : ∀ x ∈ xs, Un S (f x) (g x)) {e e' : TypeId} (hS : S e' = S e := by kernel_rfl) (he : e' < markE := by decide) (fl : Bool) : Un S (.sl e (xs.map f) fl) (.sl e' (xs.map g) fl) :=
 Cv.sl UnC.cvt h hS (fun C D b k hb ho => .inl ⟨he, k.ok b ho.rd, fun hn => absurd (Nat.le_trans k.N hn) (Nat.not_le_of_lt hb)⟩) fl
theorem Un.ep {fs gs : List AV} (h : CvL S UnC fs gs) (off : Nat) (ix : Option (Nat × Nat)) : Un S (.ep fs off ix) (.ep gs off ix) := by
 rintro C D k cs ⟨b, o0, cells, h1, hi, h2, h3, h4, h5⟩
 have hb : b < C.w.heap.size := by
  have : 0 < cells.length := List.length_pos_iff.2 h4
  exact World.block_lt_of_cell? C.w _ (h5 0 cells[0] (by simp))
 exact ⟨b, o0, cells, h1, hi, .inl ⟨k.ok b h2.rd, fun hn => absurd (Nat.le_trans k.N hn) (Nat.not_le_of_lt hb)⟩, h _ _ (UnC.cvt.flat C D k) _ h3, h4, fun j v hj => by rw [k.w]; exact h5 j v hj⟩
structure MkC (C D : Ctx) : Prop where
 w : D.w = C.w
 P : ∀ b, b < C.w.heap.size → C.rd b → D.X.P b
theorem MkC.cvt : Cvt MkC := ⟨fun _ _ h => h.w, fun C D h => ⟨h.w, fun b hb hr => h.P b hb ((rd_flat C b).1 hr)⟩⟩
abbrev Mk (S : Sizes) := Cv S MkC
theorem Mk.sl {α : Type} {f g : α → AV} {xs : List α} (h : ∀ x ∈ xs, Mk S (f x) (g x)) {e e' : TypeId} (hS : S e' = S e := by kernel_rfl) (he : markE ≤ e' := by decide) (fl : Bool) : Mk S (.sl e (xs.map f) fl) (.sl e' (xs.map g) fl) :=
 Cv.sl MkC.cvt h hS (fun C D b k hb ho => .inr ⟨he, k.P b hb ho.rd⟩) fl
structure Shown (C : Ctx) (n : Nat) : Prop where
 m : C.m.length = n
 N : C.X.N ≤ C.w.heap.size
 X : ∀ b, b < C.w.heap.size → C.X b ∨ ∃ o : Nat, C.m[o]? = some (Slot.blk b)
def ShO (S : Sizes) (a b : AO) : Prop := ∃ e fs gs, a = .box e fs ∧ b = .box e gs ∧ CvL S MkC fs gs
inductive ShH (S : Sizes) : List AO → List AO → Prop
 | nil : ShH S [] []
 | cons {e : TypeId} {fs gs : List AV} {l l' : List AO} : CvL S MkC fs gs → ShH S l l' → ShH S (.box e fs :: l) (.box e gs :: l')
theorem ShH.get {h h' : List AO} (H : ShH S h h') : h'.length = h.length ∧ ∀ (o : Nat) (b : AO), h'[o]? = some b → ∃ a, h[o]? = some a ∧ ShO S a b := by
 induction H with
 | nil => exact ⟨rfl, fun o b h => by simp at h⟩
 | @cons e fs gs l l' h1 _ ih =>
  refine ⟨by simp [ih.1], fun o b h => ?_⟩
  cases o with
  | zero =>
   simp only [List.getElem?_cons_zero, Option.some.injEq] at h
   subst h
   exact ⟨_, rfl, e, fs, gs, rfl, rfl, h1⟩
  | succ o => simpa using ih.2 o b (by simpa using h)
end Go.Sh
namespace Go.Sh
variable {P : Program} {G : Tab} {F : Fn} {c0 : Ctx} {R : Ending → World → Prop} {S : Sizes}
def Jp (S : Sizes) (D : Ctx) (a : AV) : Value → Prop := fun x => RelV S D a [x]
theorem is_mk {C : Ctx} {ψ : Value → Prop} {v : Value} (h1 : v.oneCell' = true) (h : ψ v) : VRel S C (.is ψ) v := ⟨v, rfl, h1, h⟩
theorem jp_mk {C D : Ctx} {a : AV} {v : Value} (h : RelV S D a [v]) : VRel S C (.is (Jp S D a)) v := is_mk (RelV.one a _ h v (by simp)) h
def likeV (u v : Value) : Prop := u = v ∨ ∃ k x y, u = .int k x ∧ v = .int k y
def LikeB (w0 w : World) (b : Nat) : Prop := ∀ cs e fz, w0.heap[b]? = some (.cells cs e fz) → ∃ cs', w.heap[b]? = some (.cells cs' e fz) ∧ cs'.size = cs.size ∧ ∀ (j : Nat) (u : Value), cs[j]? = some u → ∃ v, cs'[j]? = some v ∧ likeV u v
theorem LikeB.refl (w : World) (b : Nat) : LikeB w w b := fun cs e fz h => ⟨cs, h, rfl, fun j u hu => ⟨u, hu, .inl rfl⟩⟩
structure PK (C D : Ctx) : Prop where
 w : D.w = C.w
 P : ∀ b, C.X.P b → D.X.P b
theorem PK.cvt : Cvt PK := ⟨fun _ _ h => h.w, fun C D h => ⟨h.w, h.P⟩⟩
theorem PK.sl {α : Type} {f : α → AV} {xs : List α} (h : ∀ x ∈ xs, Cv S PK (f x) (f x)) {e : TypeId} (he : markE ≤ e := by decide) (fl : Bool) : Cv S PK (.sl e (xs.map f) fl) (.sl e (xs.map f) fl) :=
 Cv.sl PK.cvt h rfl (fun C D b k _ ho => .inr ⟨he, k.P b (ho.resolve_left fun x => absurd x.1 (Nat.not_lt_of_le he)).2⟩) fl
structure Jk (C D E : Ctx) : Prop where
 d : D = C.flat
 w : E.w = C.w
 X : E.X = C.X
 m : ∃ s, E.m = C.m ++ [s]
theorem Jk.pk {C D E : Ctx} (h : Jk C D E) : PK C E := ⟨h.w, fun b hb => by rw [h.X]; exact hb⟩
abbrev JkV (S : Sizes) (C D E : Ctx) (a b : AV) : Prop := ∀ v, VRel S C a v → VRel S E b v
theorem JkV.u {C D E : Ctx} : JkV S C D E .u .u := fun _ h => h
theorem JkV.scal {C D E : Ctx} {a : AV} (h : scalA a = true := by rfl) : JkV S C D E a a := fun _ r => r.scal h
theorem JkV.pk {C D E : Ctx} (h : Jk C D E) {a : AV} (h1 : a.single = true) (c : Cv S PK a a) : JkV S C D E a a := by
 intro v r
 rw [VRel_single h1] at r ⊢
 exact c C E h.pk _ r
theorem JkV.own {C D E : Ctx} (h : Jk C D E) {o k : Nat} : JkV S C D E (.own o k) (.own o k) := by
 rintro v ⟨v', v0, kk, mn, h1, h2, h3, h4⟩
 obtain ⟨s, hs⟩ := h.m
 exact ⟨v', v0, kk, mn, h1, h2, by rw [hs, List.getElem?_append_left (List.getElem?_eq_some_iff.1 h3).1]; exact h3, h4⟩
theorem JkV.sl {C D E : Ctx} (h : Jk C D E) {e : TypeId} {rows : List AV} {f : Bool} : JkV S C D E (.sl e rows f) (.is (Jp S D (.sl e rows f))) := by
 intro v r
 rw [h.d]
 exact jp_mk (RelV.plain (Under.toFlat C) _ _ rfl (r : RelV S C (.sl e rows f) [v]))
def JkO (S : Sizes) (C D E : Ctx) (a b : AO) : Prop := ∀ s, ORel S C a s → ORel S E b s
theorem JkO.box {C D E : Ctx} (h : Jk C D E) {e : TypeId} {fs : List AV} (c : CvL S PK fs fs) : JkO S C D E (.box e fs) (.box e fs) := by
 intro s r
 cases s <;> simp only [ORel] at r ⊢
 obtain ⟨cs, r1, r2⟩ := r
 exact ⟨cs, by rw [h.w]; exact r1, c C E h.pk _ r2⟩
theorem JkO.row {C D E : Ctx} (h : Jk C D E) {α : Type} {f g : α → AV} {xs : List α} {e : TypeId} {k : Nat} (hk : 1000000 ≤ k) (hfg : ∀ x ∈ xs, ∀ cs, RelV S D (f x) cs → RelV S E.flat (g x) cs) : JkO S C D E (.row e (xs.map f) k true) (.row e (xs.map g) k true) := by
 intro s r
 cases s <;> simp only [ORel] at r ⊢
 obtain ⟨h1, h2, h3, h4, h5⟩ := r
 subst h1
 rw [List.length_map] at h2
 refine ⟨rfl, by rw [List.length_map]; exact h2, fun hm => ?_, fun hm => ?_, fun a b c => by rw [List.map_eq_nil_iff]; exact List.map_eq_nil_iff.1 (h5 a b c)⟩
 ·have hx : xs = [] := List.map_eq_nil_iff.1 (h5 hk trivial hm)
  subst hx
  obtain ⟨a, c, q1, q2, q3, q4, q5, _⟩ := h3 hm
  exact ⟨a, c, q1, q2, q3, q4, q5, .inl rfl⟩
 ·obtain ⟨t0, t1, cells, t2, t3, t4⟩ := h4 hm
  rw [List.length_map] at t2 t4
  refine ⟨t0, t1, cells, by rw [List.length_map, h.w]; exact t2, ?_, by rw [List.length_map, h.w]; exact t4⟩
  rw [← h.d] at t3
  have key : ∀ (ys : List α) (cs : List Value), (∀ y ∈ ys, y ∈ xs) → RelF S D (S e).1 (ys.map f) cs → RelF S E.flat (S e).1 (ys.map g) cs := by
   intro ys
   induction ys with
   | nil => intro cs _ r; exact r
   | cons y ys ih =>
    rintro cs hy ⟨c1, c2, q1, q2, q3, q4⟩
    exact ⟨c1, c2, q1, hfg y (hy y (by simp)) _ q2, q3, ih _ (fun z hz => hy z (by simp [hz])) q4⟩
  exact key xs cells (fun _ h => h) t3
inductive JkH (S : Sizes) (C D E : Ctx) : List AO → List AO → Prop
 | nil : JkH S C D E [] []
 | cons {a b : AO} {l l' : List AO} : JkO S C D E a b → JkH S C D E l l' → JkH S C D E (a :: l) (b :: l')
theorem JkH.len {C D E : Ctx} {h h' : List AO} (H : JkH S C D E h h') : h'.length = h.length := by
 induction H with
 | nil => rfl
 | cons _ _ ih => simp [ih]
theorem JkH.get {C D E : Ctx} {h h' : List AO} (H : JkH S C D E h h') : ∀ (o : Nat) (b : AO), h'[o]? = some b → ∃ a, h[o]? = some a ∧ JkO S C D E a b := by
 induction H with
 | nil => intro o b h; simp at h
 | cons h1 _ ih =>
  intro o b h
  cases o with
  | zero =>
   simp only [List.getElem?_cons_zero, Option.some.injEq] at h
   subst h
   exact ⟨_, rfl, h1⟩
  | succ o => simpa using ih o b (by simpa using h)
section
variable {n : Nat} {ops : Array Oper} {i : Nat} {t : Tmps} {h : List AO} {D : Ctx}
def lenJ (G : Tab) (n : Nat) (ops : Array Oper) (i : Nat) (t : Tmps) : Option AV :=
 match opAt n ops i t with
 | some (.call { callee := .builtin .len, args := xs, argTypes := ts }) =>
  match xs.toList, ts.toList with
  | [x], [ty] => match G.kind ty with | .slice _ => some (ev t x) | _ => none
  | _, _ => none
 | _ => none
def idxJ (G : Tab) (n : Nat) (ops : Array Oper) (i : Nat) (t : Tmps) : Option (TypeId × AV × AV) :=
 match opAt n ops i t with
 | some (.indexAddr ty x y) => match G.kind ty with | .slice e => if (G.get e).isSome = true then some (e, ev t x, ev t y) else none | _ => none
 | _ => none
end
section
variable {n : Nat} {ops : Array Oper} {i : Nat} {t : Tmps} {h : List AO} {D : Ctx}
def ldJ (G : Tab) (n : Nat) (ops : Array Oper) (i : Nat) (t : Tmps) : Option AV :=
 match opAt n ops i t with
 | some (.load ty x) => match G.get ty with | some inf => if inf.kind.isAgg = false then some (ev t x) else none | none => none
 | _ => none
theorem ldJ_run [ok : Ok P G] {a : AV} (hq : ldJ G n ops i t = some a) : ∃ ty x, OpAt n ops i t (.load ty x) ∧ ev t x = a ∧ ∀ (w : World) (b j : Nat) (v : Value), w.cell? ⟨b, j, none⟩ = some v → (loadVar ty ⟨b, j, none⟩).run P w = .ok v w := by
 unfold ldJ at hq
 split at hq
 ·rename_i ty x hop
  split at hq
  ·rename_i inf hi
   split at hq
   ·rename_i ha
    injection hq with hq
    refine ⟨ty, x, opAt_spec hop, hq, fun w b j v hc => ?_⟩
    unfold loadVar
    simp only [Sem.run_bind, run_isAgg (ok.g ty inf hi), ha, Bool.false_eq_true, if_false, Result.andThen_ok, run_load, hc]
   ·cases hq
  ·cases hq
 ·cases hq
end
end Go.Sh
namespace Go.Sh
variable {P : Program} {G : Tab} {F : Fn} {c0 : Ctx} {R : Ending → World → Prop}
theorem MkC.scal {C D : Ctx} {a : AV} (h : scalA a = true := by rfl) : ∀ v, VRel G.S C a v → VRel G.S D a v := fun _ r => r.scal h
theorem MkC.one {C D : Ctx} (k : MkC C D) {a b : AV} (h1 : a.single = true) (h2 : b.single = true) (c : Mk G.S a b) : ∀ v, VRel G.S C a v → VRel G.S D b v := by
 intro v r
 rw [VRel_single h1] at r
 rw [VRel_single h2]
 exact c C D k _ r
theorem DX.kb (d : Nat) {b v : Bool} {s : Option DS} (hb : b = v) (A : DX P G F c0 R (stB d v s)) (e : bAt d s = some b := by kernel_rfl) : DX P G F c0 R s := DX.back (by rw [e, hb]) A
section
variable {s : Option DS}
end
end Go.Sh
namespace Go.Sh
variable {P : Program} {G : Tab} {F : Fn} {c0 : Ctx} {R : Ending → World → Prop} {S : Sizes}
structure Uj (C D E : Ctx) : Prop where
 w : E.w = C.w
 X : E.X = C.X
 ok : ∀ b, b < D.w.heap.size → D.ok b → E.ok b ∧ LikeB D.w E.w b
theorem Uj.pk {C D E : Ctx} (h : Uj C D E) : PK C E := ⟨h.w, fun b hb => by rw [h.X]; exact hb⟩
theorem UjV.pk {C D E : Ctx} (h : Uj C D E) {a : AV} (h1 : a.single = true) (c : Cv S PK a a) : JkV S C D E a a := by
 intro v r
 rw [VRel_single h1] at r ⊢
 exact c C E h.pk _ r
end Go.Sh
namespace Go.Sh
variable {P : Program} {G : Tab} {F : Fn} {c0 : Ctx} {R : Ending → World → Prop} {S : Sizes}
def pV (b : Nat) : Value := .pointer (some ⟨b, 0, none⟩)
def elC (C : Ctx) (m : List Slot) : Ctx := ⟨C.w, m, ⟨fun b => ¬ C.ok b ∧ ∀ s ∈ m, ¬ s.has b, fun b => C.X.P b ∧ ∀ s ∈ m, ¬ s.has b, C.X.N, fun b h => ⟨fun hk => hk.1 (C.X.sub b h.1), h.2⟩⟩⟩
theorem elC_ok {C : Ctx} {m : List Slot} {b : Nat} : (elC C m).ok b ↔ C.ok b ∧ ∀ s ∈ m, ¬ s.has b := by
 constructor
 ·rintro ⟨h1, h2⟩
  exact ⟨Classical.byContradiction fun hc => h1 ⟨hc, h2⟩, h2⟩
 ·rintro ⟨h1, h2⟩
  exact ⟨fun h => h.1 h1, h2⟩
theorem elC_mono {C C' : Ctx} (h : Mono C C') (m : List Slot) : Mono (elC C m) (elC C' m) :=
 ⟨h.size, fun b hb ho => h.block b hb (elC_ok.1 ho).1, fun b hb ho => elC_ok.2 ⟨h.ok b hb (elC_ok.1 ho).1, (elC_ok.1 ho).2⟩, fun o s hs => ⟨s, hs, s.le_refl⟩, fun b hb hp => h.keep b hb hp.1, ⟨fun b hb => ⟨h.P.P b hb.1, hb.2⟩, h.P.N⟩⟩
structure ERel (S : Sizes) (C : Ctx) (h : List AO) (m : List Slot) : Prop where
 len : m.length = h.length
 rel : ∀ (o : Nat) (ob : AO) (s : Slot), h[o]? = some ob → m[o]? = some s → ORel S (elC C m) ob s
 inj : ∀ (o o' : Nat) (s s' : Slot) (b : Nat), m[o]? = some s → m[o']? = some s' → s.has b → s'.has b → o = o'
theorem ERel.mono {C C' : Ctx} (h : Mono C C') {el : List AO} {m : List Slot} (hb : ∀ s ∈ m, ∀ b, s.has b → C'.w.heap[b]? = C.w.heap[b]?) (E : ERel S C el m) : ERel S C' el m :=
 ⟨E.len, fun o ob s ho hs => (E.rel o ob s ho hs).mono (elC_mono h m) (hb s (List.mem_of_getElem? hs)), E.inj⟩
theorem ERel.lt {C : Ctx} {el : List AO} {m : List Slot} (E : ERel S C el m) {s : Slot} (hs : s ∈ m) {b : Nat} (hb : s.has b) : b < C.w.heap.size := by
 obtain ⟨o, ho⟩ := List.mem_iff_getElem?.1 hs
 have hl : o < el.length := by rw [← E.len]; exact (List.getElem?_eq_some_iff.1 ho).1
 exact (E.rel o el[o] s (List.getElem?_eq_getElem hl) ho).lt hb
structure RowR (S : Sizes) (C : Ctx) (e : TypeId) (els : List (Option (List AO))) (v : Value) (gs : List Nat) (B : Nat → Prop) (ms : List (List Slot)) (ob : Option Nat) : Prop where
 he : e < markE
 sz : (S e).1 = 1
 own : (ownsG C.w e 1 v gs.length (gs.map pV) ∧ ob = v.ownBlock) ∨ (gs = [] ∧ (∃ a, v = .slice a 0 0) ∧ ob = none)
 bnd : gs.length * (S e).2 ≤ reach
 lg : gs.length = els.length
 lm : ms.length = els.length
 el : ∀ (i : Nat) (m : List Slot) (h : List AO), ms[i]? = some m → els[i]? = some (some h) → (∃ b, gs[i]? = some b ∧ m[0]? = some (.blk b)) ∧ ERel S C h m
 no : ∀ (i : Nat) (m : List Slot), ms[i]? = some m → els[i]? = some none → m = []
 B : ∀ b, B b ↔ ob = some b ∨ ∃ m ∈ ms, ∃ s ∈ m, s.has b
 sep : ∀ b, ob = some b → ∀ m ∈ ms, ∀ s ∈ m, ¬ s.has b
 inj : ∀ (i j : Nat) (m m' : List Slot) (s s' : Slot) (b : Nat), ms[i]? = some m → ms[j]? = some m' → s ∈ m → s' ∈ m' → s.has b → s'.has b → i = j
theorem RowR.mono {C C' : Ctx} {e : TypeId} {els : List (Option (List AO))} {v : Value} {gs : List Nat} {B : Nat → Prop} {ms : List (List Slot)} {ob : Option Nat} (h : Mono C C') (hb : ∀ b, B b → C'.w.heap[b]? = C.w.heap[b]?) (r : RowR S C e els v gs B ms ob) : RowR S C' e els v gs B ms ob where
 he := r.he
 sz := r.sz
 own := by
  rcases r.own with ⟨h1, h2⟩ | h1
  ·exact .inl ⟨ownsG_kept h1 fun b hv => hb b ((r.B b).2 (.inl (h2.trans hv))), h2⟩
  ·exact .inr h1
 bnd := r.bnd
 lg := r.lg
 lm := r.lm
 el := fun i m h' hm he => ⟨(r.el i m h' hm he).1, (r.el i m h' hm he).2.mono h fun s hs b hsb => hb b ((r.B b).2 (.inr ⟨m, List.mem_of_getElem? hm, s, hs, hsb⟩))⟩
 no := r.no
 B := r.B
 sep := r.sep
 inj := r.inj
theorem RowR.lt {C : Ctx} {e : TypeId} {els : List (Option (List AO))} {v : Value} {gs : List Nat} {B : Nat → Prop} {ms : List (List Slot)} {ob : Option Nat} (r : RowR S C e els v gs B ms ob) {b : Nat} (hb : B b) : b < C.w.heap.size := by
 rcases (r.B b).1 hb with h | ⟨m, hm, s, hs, hsb⟩
 ·rcases r.own with ⟨ho, rfl⟩ | ⟨_, _, rfl⟩
  ·rcases ho.2 with ⟨rfl, _⟩ | ⟨g, off, cap, cur, fz, rfl, hh, _⟩
   ·simp [Value.ownBlock] at h
   ·have : g = b := by simpa [Value.ownBlock] using h
    subst this
    exact (Array.getElem?_eq_some_iff.1 hh).1
  ·cases h
 ·obtain ⟨i, hi⟩ := List.mem_iff_getElem?.1 hm
  have hl : i < els.length := by rw [← r.lm]; exact (List.getElem?_eq_some_iff.1 hi).1
  cases he : els[i] with
  | none =>
   have := r.no i m hi (by rw [List.getElem?_eq_getElem hl, he])
   subst this
   simp at hs
  | some h => exact (r.el i m h hi (by rw [List.getElem?_eq_getElem hl, he])).2.lt hs hsb
def rowF (e : TypeId) (els : List (Option (List AO))) : Fam where
 rel := fun S C v gs B => ∃ ms ob, RowR S C e els v gs B ms ob
 mono := fun h hb ⟨ms, ob, r⟩ => ⟨ms, ob, r.mono h hb⟩
 lt := fun ⟨ms, ob, r⟩ b hb => r.lt hb
def vF : Value → List Nat → Value → Prop := fun v _ x => x = v
def cF (i : Nat) : Value → List Nat → Value → Prop := fun v _ x => ∃ g a0 n c, v = .slice (some ⟨g, a0, none⟩) n c ∧ i < n ∧ x = .pointer (some ⟨g, a0 + i, none⟩)
def eF (i : Nat) : Value → List Nat → Value → Prop := fun _ gs x => ∃ b, gs[i]? = some b ∧ x = pV b
theorem fm_inv {C : Ctx} {o k : Nat} {ψ : Value → List Nat → Value → Prop} {x : Value} (h : VRel S C (.fm o k ψ) x) : ∃ v kk gs B, x.oneCell' = true ∧ C.m[o]? = some (.fam v kk gs B) ∧ k ≤ kk ∧ (k = kk → ψ v gs x) := by
 obtain ⟨x', v, kk, gs, B, h1, h2⟩ := (h : RelV S C (.fm o k ψ) [x])
 have : x' = x := by simpa using h1.symm
 subst this
 exact ⟨v, kk, gs, B, h2⟩
theorem fam_at {C : Ctx} {h : List AO} (H : HRel S C h) {o k : Nat} {e : TypeId} {els : List (Option (List AO))} (ho : h[o]? = some (.fam (rowF e els) k) ∨ ∃ pd, h[o]? = some (.famT (rowF e els) k pd)) {v : Value} {kk : Nat} {gs : List Nat} {B : Nat → Prop} (hm : C.m[o]? = some (.fam v kk gs B)) : k = kk ∧ ∃ ms ob, RowR S C.flat e els v gs B ms ob := by
 rcases ho with ho | ⟨pd, ho⟩
 ·have := H.rel o _ _ ho hm
  exact ⟨this.1, this.2⟩
 ·have := H.rel o _ _ ho hm
  exact ⟨this.1, this.2.1⟩
theorem RowR.slice {C : Ctx} {e : TypeId} {els : List (Option (List AO))} {v : Value} {gs : List Nat} {B : Nat → Prop} {ms : List (List Slot)} {ob : Option Nat} (r : RowR S C e els v gs B ms ob) : ∃ a c, v = .slice a els.length c := by
 rcases r.own with ⟨ho, _⟩ | ⟨h, ⟨a, rfl⟩, _⟩
 ·rcases ho.2 with ⟨rfl, h⟩ | ⟨g, off, cap, cur, fz, rfl, _⟩
  ·rw [← r.lg, h]; exact ⟨none, 0, rfl⟩
  ·rw [← r.lg]; exact ⟨_, _, rfl⟩
 ·rw [← r.lg, h]; exact ⟨a, 0, rfl⟩
theorem RowR.cell {C : Ctx} {e : TypeId} {els : List (Option (List AO))} {v : Value} {gs : List Nat} {B : Nat → Prop} {ms : List (List Slot)} {ob : Option Nat} (r : RowR S C e els v gs B ms ob) {i : Nat} (hi : i < els.length) : ∃ g a0 c b, v = .slice (some ⟨g, a0, none⟩) els.length c ∧ gs[i]? = some b ∧ C.w.cell? ⟨g, a0 + i, none⟩ = some (pV b) := by
 have hl : i < gs.length := by rw [r.lg]; exact hi
 rcases r.own with ⟨ho, _⟩ | ⟨h, _⟩
 ·rcases ho.2 with ⟨rfl, h⟩ | ⟨g, off, cap, cur, fz, rfl, h2⟩
  ·omega
  ·refine ⟨g, off, cap, gs[i], by rw [r.lg], List.getElem?_eq_getElem hl, ?_⟩
   exact ownsG_cell ho i (pV gs[i]) (by rw [List.getElem?_map, List.getElem?_eq_getElem hl]; rfl)
 ·rw [h] at hl; simp at hl
section
variable {n : Nat} {ops : Array Oper} {i : Nat} {t : Tmps} {h : List AO}
theorem LSpec.flen [ok : Ok P G] {o k : Nat} {e : TypeId} {els : List (Option (List AO))} (ho : h[o]? = some (.fam (rowF e els) k) ∨ ∃ pd, h[o]? = some (.famT (rowF e els) k pd)) (hq : lenJ G n ops i t = some (.fm o k vF)) : LSpec P G.S n ops i .read t h (.sc (.int .i64 (els.length : Int))) h := by
 unfold lenJ at hq
 split at hq
 ·rename_i xs ts hop
  split at hq
  ·rename_i x ty hxs hts
   obtain rfl : xs = #[x] := by rw [← Array.toArray_toList (xs := xs), hxs]
   obtain rfl : ts = #[ty] := by rw [← Array.toArray_toList (xs := ts), hts]
   split at hq
   ·rename_i e0 hk
    injection hq with hq
    refine (opAt_spec hop).spec (fun _ => rfl) fun op ρv C h2 hop' H hh hρ => ?_
    have hh := hh (by simp)
    subst hh
    have hx := hρ x (by simp [Op.operands, Call.operands])
    rw [hq] at hx
    obtain ⟨v, kk, gs, B, _, m1, _, m2⟩ := fm_inv hx
    obtain ⟨q1, ms, ob, r⟩ := fam_at H ho m1
    have s1 : ρv x = v := m2 q1
    obtain ⟨a, c, hv⟩ := r.slice
    rw [hv] at s1
    obtain ⟨d, hd, hf⟩ := kind_desc ok.g hk (by simp)
    simp only [TK.fits] at hf
    subst hf
    obtain ⟨dst, op, oty, pos, after, guard⟩ := op
    simp only at hop'
    subst hop'
    refine OpOK.same (by simpa using H) ?_ (sc_mk rfl)
    simp [execOp, resolve, invoke, builtin, Builtin.len_, s1, run_underlying hd, goInt]
   ·cases hq
  ·cases hq
 ·cases hq
theorem LSpec.fidx [ok : Ok P G] {o k : Nat} {e e0 : TypeId} {els : List (Option (List AO))} (ho : h[o]? = some (.fam (rowF e els) k) ∨ ∃ pd, h[o]? = some (.famT (rowF e els) k pd)) {ki : IntKind} {j : Int} (hj : (decide (0 ≤ j) && decide (j < (els.length : Int))) = true) (hq : idxJ G n ops i t = some (e0, .fm o k vF, .sc (.int ki j))) (hs : (G.S e0).1 = 1) : LSpec P G.S n ops i .read t h (.fm o k (cF j.toNat)) h := by
 rw [Bool.and_eq_true, decide_eq_true_eq, decide_eq_true_eq] at hj
 unfold idxJ at hq
 split at hq
 ·rename_i ty x0 y0 hop
  split at hq
  ·rename_i e1 hk
   split at hq
   ·rename_i hsome
    injection hq with hq
    injection hq with e1 hq
    injection hq with e2 e3
    subst e1
    refine (opAt_spec hop).spec (fun _ => rfl) fun op ρv C h2 hop' H hh hρ => ?_
    have hh := hh (by simp)
    subst hh
    have hx := hρ x0 (by simp [Op.operands])
    have hy := hρ y0 (by simp [Op.operands])
    rw [e2] at hx
    rw [e3] at hy
    have hy := sc_inv hy
    obtain ⟨v, kk, gs, B, _, m1, m3, m2⟩ := fm_inv hx
    obtain ⟨q1, ms, ob, r⟩ := fam_at H ho m1
    have s1 : ρv x0 = v := m2 q1
    obtain ⟨g, a0, c, b, hv, _, _⟩ := r.cell (i := j.toNat) (by omega)
    have s1 := s1.trans hv
    obtain ⟨d, hd, hf⟩ := kind_desc ok.g hk (by simp)
    simp only [TK.fits] at hf
    subst hf
    obtain ⟨ei, hei⟩ := Option.isSome_iff_exists.1 hsome
    have hesz : ∀ w, (sizeOf _).run P w = .ok 1 w := fun w => by
     rw [← hs, S_get hei]
     exact run_size (ok.g _ ei hei) w
    obtain ⟨dst, op, oty, pos, after, guard⟩ := op
    simp only at hop'
    subst hop'
    refine OpOK.same (v := .pointer (some ⟨g, a0 + j.toNat, none⟩)) (by simpa using H) ?_ ⟨_, v, kk, gs, B, rfl, rfl, m1, m3, fun _ => ⟨g, a0, _, c, hv, by omega, rfl⟩⟩
    simp only [execOp, Instr.indexAt, hy, asIntOf, Sem.run_bind, Sem.run_pure, Result.andThen_ok, run_underlying hd, s1]
    rw [if_pos hj]
    simp only [Sem.run_bind, hesz, Result.andThen_ok, Sem.run_pure, addr_add, Nat.mul_one]
   ·cases hq
  ·cases hq
 ·cases hq
theorem LSpec.fld [ok : Ok P G] {o k : Nat} {e : TypeId} {els : List (Option (List AO))} (ho : h[o]? = some (.fam (rowF e els) k) ∨ ∃ pd, h[o]? = some (.famT (rowF e els) k pd)) {j : Nat} (hj : j < els.length) (hq : ldJ G n ops i t = some (.fm o k (cF j))) : LSpec P G.S n ops i .read t h (.fm o k (eF j)) h := by
 obtain ⟨ty, x, K, hx, hrun⟩ := ldJ_run (P := P) hq
 refine K.spec (fun _ => rfl) fun op ρv C h2 hop H hh hρ => ?_
 have hh := hh (by simp)
 subst hh
 have hxv := hρ x (by simp [Op.operands])
 rw [hx] at hxv
 obtain ⟨v, kk, gs, B, _, m1, m3, m2⟩ := fm_inv hxv
 obtain ⟨q1, ms, ob, r⟩ := fam_at H ho m1
 obtain ⟨g, a0, n', c, hv, hn, s1⟩ := m2 q1
 obtain ⟨g', a0', c', b, hv', hb, hc⟩ := r.cell hj
 rw [hv] at hv'
 injection hv' with hv' _ _
 injection hv' with hv'
 injection hv' with z1 z2 _
 subst z1; subst z2
 obtain ⟨dst, op, oty, pos, after, guard⟩ := op
 simp only at hop
 subst hop
 refine OpOK.same (v := pV b) (by simpa using H) ?_ ⟨_, v, kk, gs, B, rfl, rfl, m1, m3, fun _ => ⟨b, hb, rfl⟩⟩
 simp only [execOp, Instr.loadAt, s1, Instr.sureAddr, Sem.run_bind, Sem.run_pure, Result.andThen_ok, hrun C.w g (a0 + j) (pV b) hc]
end
end Go.Sh
namespace Go.Sh
variable {P : Program} {G : Tab} {F : Fn} {c0 : Ctx} {R : Ending → World → Prop} {S : Sizes}
section
variable {n : Nat} {ops : Array Oper} {i : Nat} {t : Tmps} {h : List AO}
def bsQ (G : Tab) (n : Nat) (ops : Array Oper) (i : Nat) (t : Tmps) : Option (TypeId × AV) :=
 match opAt n ops i t with
 | some (.buildSlice ty 1 parts) =>
  match parts.toList, G.kind ty with
  | [(0, x)], .slice e => match G.get e with | some ei => if ei.size = 1 ∧ ei.bytes ≤ reach then some (e, ev t x) else none | none => none
  | _, _ => none
 | _ => none
theorem LSpec.bs1 [ok : Ok P G] {p : Nat} {e : TypeId} (hq : bsQ G n ops i t = some (e, .ptr p 0 none)) : LSpec P G.S n ops i .loud t h (.bsl e h.length 0 1) (h ++ [.box e [.ptr p 0 none]]) := by
 unfold bsQ at hq
 split at hq
 ·rename_i ty parts hop
  split at hq
  ·rename_i x e0 hps hk
   split at hq
   ·rename_i ei hei
    split at hq
    ·rename_i hc
     injection hq with hq
     injection hq with e1 e2
     subst e1
     refine (opAt_spec hop).spec (fun hh => absurd rfl hh) fun op ρv C h2 hop' H hh hρ => ?_
     have hh := hh (by simp)
     subst hh
     have hparts : parts = #[(0, x)] := by rw [← Array.toArray_toList (xs := parts), hps]
     subst hparts
     have hx := hρ x (by simp [Op.operands])
     rw [e2] at hx
     obtain ⟨d, hd, hf⟩ := kind_desc ok.g hk (by simp)
     simp only [TK.fits] at hf
     subst hf
     have he := ok.g e0 ei hei
     obtain ⟨inf, z, k1, k2, k3, k4, k4', k5⟩ := he.info
     obtain ⟨cells', q1, new, q2, q3⟩ := fill_seq (S := G.S) (C := C) (sz := ei.size) [(0, .ptr p 0 none)] [(0, ρv x)] 0 [.ptr p 0 none] ((Array.range (1 * ei.size)).map (z.cells[· % z.cells.size]!)) rfl (fun j a b ha hb => by
      cases j with
      | zero =>
       simp only [List.getElem?_cons_zero, Option.some.injEq] at ha hb
       subst ha; subst hb
       exact ⟨rfl, hx⟩
      | succ j => simp at ha) (by rw [hc.1]; rfl) (by simp)
     have hnew : cells'.toList = new := by
      rw [q2]
      simp
     have hr : RelL G.S C [.ptr p 0 none] cells'.toList := by
      rw [hnew]
      obtain ⟨c1, c2, w1, w2, _, w4⟩ := q3
      rw [w1]
      exact ⟨c1, c2, rfl, w2, w4⟩
     obtain ⟨b1, b2, b3⟩ := new_box H e0 hr
     obtain ⟨dst, op, oty, pos, after, guard⟩ := op
     simp only at hop'
     subst hop'
     refine ⟨_, b1, by simpa using b2, .inl ⟨.slice (some ⟨C.w.heap.size, 0, none⟩) 1 1, ?_, ?_⟩⟩
     ·simp only [execOp, Instr.buildSlice, Sem.run_bind, run_underlying hd, Result.andThen_ok, run_size he]
      rw [hc.1] at q1 ⊢
      rw [if_neg (by decide)]
      simp only [Nat.mul_one, Nat.one_ne_zero, if_false] at q1 ⊢
      simp only [Sem.run_bind, Result.andThen_ok, zeroValue, typeInfo, run_program, k1, k4, Sem.run_pure, newRow, newObj, Sem.run]
      have e3 : (Array.map (fun y : Nat × Operand => (y.1, ρv y.2)) #[(0, x)]).toList = [(0, ρv x)] := by simp
      have q4 : Instr.fill (fun i => some (i, 1)) (Array.map (fun x => z.cells[x % z.cells.size]!) (Array.range 1)) (Array.map (fun y : Nat × Operand => (y.1, ρv y.2)) #[(0, x)]).toList = some cells' := by
       rw [e3]
       exact q1
      simp only [q4]
      rfl
     ·obtain ⟨b, w1, _, w2⟩ := b3
      have w3 : C.w.heap.size = b := by
       have := w2
       simp at this
       exact this.1
      exact ⟨b, w1, by rw [w3]⟩
    ·cases hq
   ·cases hq
  ·cases hq
 ·cases hq
def apQ (G : Tab) (n : Nat) (ops : Array Oper) (i : Nat) (t : Tmps) : Option (TypeId × Nat × AV × AV) :=
 match opAt n ops i t with
 | some (.call { callee := .builtin .append, args := xs, argTypes := ts }) =>
  match xs.toList, ts.toList with
  | [x, y], [ty, ty'] => (match G.kind ty with | .slice e => (match G.get e with | some ei => if ty = ty' ∧ ei.size = 1 ∧ 0 < ei.bytes then some (e, ei.bytes, ev t x, ev t y) else none | none => none) | _ => none)
  | _, _ => none
 | _ => none
theorem LSpec.fapp [ok : Ok P G] {o k n0 p by_ : Nat} {e e' e'' : TypeId} {els : List (Option (List AO))} (ho : h[o]? = some (.fam (rowF e els) k)) (hb0 : h[n0]? = some (.box e' [.ptr p 0 none])) (hq : apQ G n ops i t = some (e, by_, .fm o k vF, .bsl e'' n0 0 1)) (hbound : (els.length + 1) * by_ ≤ reach) :
  LSpec P G.S n ops i .loud t h (.fm o (k + 1) vF) (h.set o (.famT (rowF e (els ++ [none])) (k + 1) [(els.length, p)])) := by
 unfold apQ at hq
 split at hq
 ·rename_i xs ts hop
  split at hq
  ·rename_i x y ty ty' hxs hts
   split at hq
   ·rename_i e0 hk
    split at hq
    ·rename_i ei hei
     split at hq
     ·rename_i hc
      obtain ⟨rfl, hsz, hby⟩ := hc
      injection hq with hq
      injection hq with e1 hq
      injection hq with e2 hq
      injection hq with e3 e4
      subst e1; subst e2
      obtain rfl : xs = #[x, y] := by rw [← Array.toArray_toList (xs := xs), hxs]
      obtain rfl : ts = #[ty, ty] := by rw [← Array.toArray_toList (xs := ts), hts]
      refine (opAt_spec hop).spec (fun hh => absurd rfl hh) fun op ρv C h2 hop' H hh hρ => ?_
      have hh := hh (by simp)
      subst hh
      have hx := hρ x (by simp [Op.operands, Call.operands])
      have hy := hρ y (by simp [Op.operands, Call.operands])
      rw [e3] at hx
      rw [e4] at hy
      obtain ⟨v, kk, gs, B, _, m1, _, m2⟩ := fm_inv hx
      obtain ⟨q1, ms, ob, r⟩ := fam_at H (.inl ho) m1
      subst q1
      have s1 : ρv x = v := m2 rfl
      obtain ⟨bb, w1, w2⟩ := (hy : RelV G.S C (.bsl e'' n0 0 1) [ρv y])
      have w2 : ρv y = .slice (some ⟨bb, 0, none⟩) 1 1 := by simpa using w2
      obtain ⟨cs, w3, w4⟩ := box_rel H hb0 w1
      obtain ⟨c1, c2, w5, ⟨b, w6, _, w7⟩, w8⟩ := w4
      have w8 : c2 = [] := w8
      subst w8
      subst w7
      have w5 : cs.toList = [pV b] := by rw [w5]; simp [pV, ixo]
      have hcell : ∀ j u, [pV b][j]? = some u → C.w.cell? ((⟨bb, 0, none⟩ : Addr).add j) = some u := by
       intro j u hu
       rw [addr_add, cell_of_heap w3, Nat.zero_add, ← Array.getElem?_toList, w5]
       exact hu
      obtain ⟨d, hd, hf⟩ := kind_desc ok.g hk (by simp)
      simp only [TK.fits] at hf
      subst hf
      obtain ⟨inf, z, k1, k2, k3, k4, k4', k5⟩ := (ok.g e0 ei hei).info
      have hS : G.S e0 = (ei.size, ei.bytes) := S_get hei
      have hlen63 : gs.length + 1 ≤ maxLen := by
       have h1 : gs.length + 1 ≤ (gs.length + 1) * ei.bytes := Nat.le_mul_of_pos_right _ hby
       rw [← r.lg] at hbound
       have : (gs.length + 1) * ei.bytes ≤ 140737488355328 := hbound
       simp only [maxLen]
       omega
      rw [← r.lg] at hbound
      have hone : ∀ u ∈ [pV b], u.oneCell' = true := by simp [pV, Value.oneCell']
      obtain ⟨dst, op, oty, pos, after, guard⟩ := op
      simp only at hop'
      subst hop'
      have hol : o < C.m.length := (List.getElem?_eq_some_iff.1 m1).1
      obtain ⟨v', w', g1, g2, g3, g5⟩ : ∃ v' w', (Builtin.append_ #[ty, ty] oty #[v, .slice (some ⟨bb, 0, none⟩) 1 1]).run P C.w = .ok v' w' ∧ ownsG w' e0 1 v' (gs.length + 1) (gs.map pV ++ [pV b]) ∧ C.w.grownBy w' ob ∧ (∀ b, v'.ownBlock = some b → ob = some b ∨ C.w.heap.size ≤ b) := by
       rcases r.own with ⟨h1, h2⟩ | ⟨h1, ⟨a, h2⟩, h3⟩
       ·obtain ⟨v', w', g1, g2, g3, g5⟩ := run_append_ownG (P := P) (w := C.w) (ty := oty) hd k1 k4 (k2.trans hsz) k3 (k4'.trans hsz) (by decide) h1 (ad := ⟨bb, 0, none⟩) (m := 1) (c := 1) (news := [pV b]) rfl hcell hone hlen63 hbound
        exact ⟨v', w', g1, g2, by rw [h2]; exact g3, by rw [h2]; exact g5⟩
       ·subst h1; subst h2; subst h3
        cases a with
        | none =>
         obtain ⟨v', w', g1, g2, g3, g5⟩ := run_append_ownG (P := P) (w := C.w) (ty := oty) (v := .slice none 0 0) (n := 0) (xs := []) hd k1 k4 (k2.trans hsz) k3 (k4'.trans hsz) (by decide) ⟨rfl, .inl ⟨rfl, rfl⟩⟩ (ad := ⟨bb, 0, none⟩) (m := 1) (c := 1) (news := [pV b]) rfl hcell hone (by simpa using hlen63) (by simpa using hbound)
         exact ⟨v', w', g1, by simpa using g2, by simpa [Value.ownBlock] using g3, fun b hb => by have := g5 b hb; simpa [Value.ownBlock] using this⟩
        | some a2 =>
         obtain ⟨v', w', g1, g2, g3⟩ := run_append_arg_grows (P := P) C.w ty oty e0 inf z ei.size ei.bytes hd k1 k4 k2 k3 k4' (by omega) a2 0 0 [] (by simp) (by simp) ⟨bb, 0, none⟩ 1 1 [pV b] (by rw [hsz]; rfl) hcell (by omega) (by simpa using hlen63) (by simpa using hbound)
         rw [hsz] at g2
         refine ⟨v', w', g1, by simpa using ownsG_of g2, g3, fun b hb => .inr ?_⟩
         rcases g2.2 with ⟨rfl, _⟩ | ⟨g, cap, cur, rfl, hg, _⟩
         ·simp [Value.ownBlock] at hb
         ·have : g = b := by simpa [Value.ownBlock] using hb
          omega
      have hob : ∀ b, ob = some b → b < C.w.heap.size := fun b hb => r.lt ((r.B b).2 (.inl hb))
      have hmlt : ∀ m ∈ ms, ∀ s ∈ m, ∀ b, s.has b → b < C.w.heap.size := fun m hm s hs b hb => r.lt ((r.B b).2 (.inr ⟨m, hm, s, hs, hb⟩))
      let B' : Nat → Prop := fun x => v'.ownBlock = some x ∨ ∃ m ∈ ms, ∃ s ∈ m, s.has x
      obtain ⟨st, hup⟩ := HRel.upd (S := G.S) (C' := ⟨w', C.m.set o (.fam v' (k + 1) (gs ++ [b]) B'), C.X⟩) (s' := .fam v' (k + 1) (gs ++ [b]) B') (ob := .famT (rowF e0 (els ++ [none])) (k + 1) [(els.length, p)]) H m1 ⟨_, _, _, _, rfl, .inl (by omega)⟩ g3.size g3.os g3.tape g3.output
       (fun x hx hne => g3.block x hx fun hq => hne ((r.B x).2 (.inl hq.symm))) rfl rfl (fun x hx => by
        rcases hx with hx | hx
        ·rcases g5 x hx with h | h
         ·exact .inl ((r.B x).2 (.inl h))
         ·exact .inr h
        ·exact .inl ((r.B x).2 (.inr hx)))
      have hpo : p ≠ o := fun hp => by rw [hp, m1] at w6; cases w6
      have Hn := hup ⟨rfl, ⟨ms ++ [[]], v'.ownBlock, {
       he := r.he, sz := r.sz
       own := .inl ⟨by rw [List.length_append, List.map_append]; exact g2, rfl⟩
       bnd := by rw [List.length_append, hS]; exact hbound
       lg := by rw [List.length_append, List.length_append, r.lg]; rfl
       lm := by rw [List.length_append, List.length_append, r.lm]; rfl
       el := fun i m h hm he => by
        rcases Nat.lt_or_ge i ms.length with hlt | hge
        ·rw [List.getElem?_append_left hlt] at hm
         rw [List.getElem?_append_left (by rw [← r.lm]; exact hlt)] at he
         obtain ⟨⟨b0, z1, z2⟩, z3⟩ := r.el i m h hm he
         refine ⟨⟨b0, by rw [List.getElem?_append_left (List.getElem?_eq_some_iff.1 z1).1]; exact z1, z2⟩, z3.mono st.mono.flat fun s hs x hx => ?_⟩
         refine g3.block x (hmlt m (List.mem_of_getElem? hm) s hs x hx) fun hq => ?_
         exact r.sep x hq.symm m (List.mem_of_getElem? hm) s hs hx
        ·rw [List.getElem?_append_right (by rw [← r.lm]; exact hge)] at he
         cases hx : i - els.length with
         | zero => rw [hx] at he; cases he
         | succ j => rw [hx] at he; simp at he
       no := fun i m hm he => by
        rcases Nat.lt_or_ge i ms.length with hlt | hge
        ·rw [List.getElem?_append_left hlt] at hm
         rw [List.getElem?_append_left (by rw [← r.lm]; exact hlt)] at he
         exact r.no i m hm he
        ·rw [List.getElem?_append_right hge] at hm
         cases hx : i - ms.length with
         | zero => rw [hx] at hm; injection hm with hm; exact hm.symm
         | succ j => rw [hx] at hm; simp at hm
       B := fun x => by
        constructor
        ·rintro (hx | ⟨m, hm, hs⟩)
         ·exact .inl hx
         ·exact .inr ⟨m, List.mem_append.2 (.inl hm), hs⟩
        ·rintro (hx | ⟨m, hm, s, hs, hx⟩)
         ·exact .inl hx
         ·rcases List.mem_append.1 hm with hm | hm
          ·exact .inr ⟨m, hm, s, hs, hx⟩
          ·rw [List.mem_singleton.1 hm] at hs; simp at hs
       sep := fun x hx m hm s hs hsx => by
        rcases List.mem_append.1 hm with hm | hm
        ·rcases g5 x hx with h | h
         ·exact r.sep x h m hm s hs hsx
         ·have := hmlt m hm s hs x hsx
          omega
        ·rw [List.mem_singleton.1 hm] at hs; simp at hs
       inj := fun i j m m' s s' x hm hm' hs hs' hx hx' => by
        have key : ∀ (i : Nat) (m : List Slot) (s : Slot), (ms ++ [[]])[i]? = some m → s ∈ m → ms[i]? = some m := fun i m s hm hs => by
         rcases Nat.lt_or_ge i ms.length with hlt | hge
         ·rwa [List.getElem?_append_left hlt] at hm
         ·rw [List.getElem?_append_right hge] at hm
          cases hx : i - ms.length with
          | zero => rw [hx] at hm; injection hm with hm; rw [← hm] at hs; simp at hs
          | succ j => rw [hx] at hm; simp at hm
        exact r.inj i j m m' s s' x (key i m s hm hs) (key j m' s' hm' hs') hs hs' hx hx' }⟩, fun q hq => by
       rw [List.mem_singleton.1 hq]
       refine ⟨b, ?_, ?_⟩
       ·rw [← r.lg]; simp
       ·show (C.m.set o _)[p]? = _
        rw [List.getElem?_set_ne (Ne.symm hpo)]
        exact w6⟩
      refine ⟨_, st, by simpa using Hn, .inl ⟨v', ?_, ⟨v', v', k + 1, gs ++ [b], B', rfl, ownsG_one g2, ?_, Nat.le_refl _, fun _ => rfl⟩⟩⟩
      ·simp only [execOp, resolve, Sem.run_bind, Sem.run_pure, Result.andThen_ok, invoke, builtin, List.map_toArray, List.map_cons, List.map_nil, s1, w2, g1]
      ·show (C.m.set o _)[o]? = _
       rw [List.getElem?_set_self hol]
     ·cases hq
    ·cases hq
   ·cases hq
  ·cases hq
 ·cases hq
end
end Go.Sh
namespace Go.Sh
variable {P : Program} {G : Tab} {F : Fn} {c0 : Ctx} {R : Ending → World → Prop} {S : Sizes}
theorem VRels.plainL {C D : Ctx} (h : Under C D) : ∀ {as : List AV} {vs : List Value}, Go.Sh.plainL as = true → VRels S C as vs → VRels S D as vs
 | [], _, _, .nil => .nil
 | a :: as, _, hp, .cons h1 h2 => by
  simp only [Go.Sh.plainL, Bool.and_eq_true] at hp
  exact .cons (h1.plain h hp.1) (VRels.plainL h hp.2 h2)
def plV : AV → Bool
 | .tup vs => plainL vs
 | .u => true
 | a => plainA a
theorem VRel.plV {C D : Ctx} (h : Under C D) {a : AV} {v : Value} (hp : Go.Sh.plV a = true) (r : VRel S C a v) : VRel S D a v := by
 cases a with
 | tup vs => obtain ⟨l, h1, h2⟩ := r; exact ⟨l, h1, h2.plainL h hp⟩
 | u => trivial
 | _ => exact VRel.plain h hp r
structure FamEl (S : Sizes) (C : Ctx) (h : List AO) (o kv : Nat) (e : TypeId) (els : List (Option (List AO))) (i : Nat) (el : List AO) (v : Value) (gs : List Nat) (B : Nat → Prop) (ms : List (List Slot)) (ob : Option Nat) (m : List Slot) : Prop where
 slot : C.m[o]? = some (.fam v kv gs B)
 r : RowR S C.flat e els v gs B ms ob
 hm : ms[i]? = some m
 he : els[i]? = some (some el)
 hd : ∃ b, gs[i]? = some b ∧ m[0]? = some (.blk b)
 E : ERel S C.flat el m
theorem famEl {C : Ctx} {h : List AO} (H : HRel S C h) {o kv : Nat} {e : TypeId} {els : List (Option (List AO))} {i : Nat} {el : List AO} (ho : h[o]? = some (.fam (rowF e els) kv)) (he : els[i]? = some (some el)) : ∃ v gs B ms ob m, FamEl S C h o kv e els i el v gs B ms ob m := by
 obtain ⟨v, gs, B, m1, ms, ob, r⟩ := fam_of H ho
 have hl : i < ms.length := by rw [r.lm]; exact (List.getElem?_eq_some_iff.1 he).1
 have hm := List.getElem?_eq_getElem hl
 obtain ⟨h1, h2⟩ := r.el i _ el hm he
 exact ⟨v, gs, B, ms, ob, ms[i], m1, r, hm, he, h1, h2⟩
section
variable {C : Ctx} {h : List AO} {o kv : Nat} {e : TypeId} {els : List (Option (List AO))} {i : Nat} {el : List AO} {v : Value} {gs : List Nat} {B : Nat → Prop} {ms : List (List Slot)} {ob : Option Nat} {m : List Slot}
theorem FamEl.inB (f : FamEl S C h o kv e els i el v gs B ms ob m) {s : Slot} (hs : s ∈ m) {b : Nat} (hb : s.has b) : B b := (f.r.B b).2 (.inr ⟨m, List.mem_of_getElem? f.hm, s, hs, hb⟩)
theorem FamEl.heap (H : HRel S C h) (f : FamEl S C h o kv e els i el v gs B ms ob m) : HRel S (elC C.flat m) el :=
 ⟨f.E.len, f.E.rel, f.E.inj, fun s hs b hb hx => hx.2 s hs hb, fun b hb => Classical.byContradiction fun hc => hb.1 ⟨fun hx => hc (flat_lt H b hx), by simp [Ctx.flat]⟩⟩
theorem FamEl.noX (H : HRel S C h) (f : FamEl S C h o kv e els i el v gs B ms ob m) {s : Slot} (hs : s ∈ m) {b : Nat} (hb : s.has b) : ¬ C.X b := H.nX _ (List.mem_of_getElem? f.slot) b (f.inB hs hb)
theorem FamEl.under (H : HRel S C h) (f : FamEl S C h o kv e els i el v gs B ms ob m) : Under C (elC C.flat m) := by
 refine ⟨rfl, fun b hb => elC_ok.2 ⟨(C.flat_ok b).2 hb, fun s hs hsb => hb.2 _ (List.mem_of_getElem? f.slot) (f.inB hs hsb)⟩, ⟨fun b hb => ⟨hb, fun s hs hsb => ?_⟩, Nat.le_refl _⟩⟩
 exact f.noX H hs hsb (C.X.sub b hb)
structure ElBack (S : Sizes) (C C' D : Ctx) (m : List Slot) (el' : List AO) : Prop where
 st : StepW (elC C.flat m) C'
 w : D.w = C'.w
 X : ∀ b, D.X b ↔ C'.X b
 P : ∀ b, D.X.P b ↔ C'.X.P b
 N : D.X.N = C'.X.N
 blk : ∀ s ∈ D.m, ∀ b, s.has b → ∃ s0 ∈ C'.m, s0.has b
 H : HRel S D el'
 hd : ∀ b, C'.m[0]? = some (.blk b) → D.m[0]? = some (.blk b)
variable {C' D : Ctx} {el' : List AO}
theorem ElBack.xq (q : ElBack S C C' D m el') (b : Nat) : C'.X b ↔ ¬ C.flat.ok b ∧ ∀ s ∈ m, ¬ s.has b := by
 rw [q.st.X]; exact Iff.rfl
theorem ElBack.old (q : ElBack S C C' D m el') {s : Slot} (hs : s ∈ D.m) {b : Nat} (hb : s.has b) (hl : b < C.w.heap.size) : ∃ s, s ∈ m ∧ s.has b := by
 obtain ⟨s0, h0, hb0⟩ := q.blk s hs b hb
 refine Classical.byContradiction fun hn => ?_
 exact q.st.fresh b hl (fun s hs hsb => hn ⟨s, hs, hsb⟩) s0 h0 hb0
def elB (ms : List (List Slot)) (ob : Option Nat) : Nat → Prop := fun b => ob = some b ∨ ∃ m ∈ ms, ∃ s ∈ m, s.has b
def elN (C C' D : Ctx) (o kv i : Nat) (v : Value) (gs : List Nat) (ms : List (List Slot)) (ob : Option Nat) : Ctx := ⟨C'.w, C.m.set o (.fam v kv gs (elB (ms.set i D.m) ob)), C.X⟩
theorem ElBack.bn (q : ElBack S C C' D m el') (f : FamEl S C h o kv e els i el v gs B ms ob m) {b : Nat} (hb : elB (ms.set i D.m) ob b) : B b ∨ ∃ s ∈ D.m, s.has b := by
 rcases hb with hb | ⟨m2, hm, s, hs, hsb⟩
 ·exact .inl ((f.r.B b).2 (.inl hb))
 ·rcases List.mem_or_eq_of_mem_set hm with hm | rfl
  ·exact .inl ((f.r.B b).2 (.inr ⟨m2, hm, s, hs, hsb⟩))
  ·exact .inr ⟨s, hs, hsb⟩
theorem elN_mem {s : Slot} (hs : s ∈ (elN C C' D o kv i v gs ms ob).m) : s ∈ C.m ∨ s = .fam v kv gs (elB (ms.set i D.m) ob) := List.mem_or_eq_of_mem_set hs
theorem ElBack.fresh (H : HRel S C h) (f : FamEl S C h o kv e els i el v gs B ms ob m) (q : ElBack S C C' D m el') (b : Nat) (hb : b < C.w.heap.size) (hn : ∀ s ∈ C.m, ¬ s.has b) : ∀ s ∈ (elN C C' D o kv i v gs ms ob).m, ¬ s.has b := by
 intro s hs hsb
 rcases elN_mem hs with hs | rfl
 ·exact hn s hs hsb
 ·rcases q.bn f hsb with h1 | ⟨s, h1, h2⟩
  ·exact hn _ (List.mem_of_getElem? f.slot) h1
  ·obtain ⟨s2, h3, h4⟩ := q.old h1 h2 hb
   exact hn _ (List.mem_of_getElem? f.slot) (f.inB h3 h4)
theorem ElBack.step (H : HRel S C h) (f : FamEl S C h o kv e els i el v gs B ms ob m) (q : ElBack S C C' D m el') : Step C (elN C C' D o kv i v gs ms ob) := by
 have nm : ∀ b, (∀ s ∈ C.m, ¬ s.has b) → ∀ s ∈ m, ¬ s.has b := fun b hn s hs hsb => hn _ (List.mem_of_getElem? f.slot) (f.inB hs hsb)
 refine ⟨q.st.os, q.st.tape, q.st.output, q.st.size, fun b hb hn => q.st.block b hb (nm b hn), fun b hb ho => ⟨ho.1, q.fresh H f b hb ho.2⟩, q.fresh H f, fun o' s hs => ?_, rfl, fun b hb hp => q.st.keep b hb ⟨hp, fun s hs hsb => f.noX H hs hsb (C.X.sub b hp)⟩⟩
 by_cases ho : o = o'
 ·subst ho
  rw [f.slot] at hs
  injection hs with hs
  subst hs
  exact ⟨_, List.getElem?_set_self (List.getElem?_eq_some_iff.1 f.slot).1, _, _, _, _, rfl, .inr ⟨rfl, rfl, rfl⟩⟩
 ·exact ⟨s, by show (C.m.set o _)[o']? = _; rw [List.getElem?_set_ne ho]; exact hs, s.le_refl⟩
theorem ElBack.okN (H : HRel S C h) (f : FamEl S C h o kv e els i el v gs B ms ob m) (q : ElBack S C C' D m el') {b : Nat} (hx : ¬ C'.X b) (hn : ∀ s ∈ D.m, ¬ s.has b) : (elN C C' D o kv i v gs ms ob).ok b := by
 rw [q.xq] at hx
 by_cases hm : ∃ s, s ∈ m ∧ Slot.has s b
 ·obtain ⟨s0, h0, hb0⟩ := hm
  have hB := f.inB h0 hb0
  refine ⟨f.noX H h0 hb0, fun s hs hsb => ?_⟩
  obtain ⟨o', ho'⟩ := List.mem_iff_getElem?.1 hs
  by_cases ho : o = o'
  ·subst ho
   rw [show (elN C C' D o kv i v gs ms ob).m = C.m.set o (.fam v kv gs (elB (ms.set i D.m) ob)) from rfl, List.getElem?_set_self (List.getElem?_eq_some_iff.1 f.slot).1] at ho'
   injection ho' with ho'
   subst ho'
   rcases hsb with hsb | ⟨m2, hm2, s2, hs2, hsb2⟩
   ·exact f.r.sep b hsb m (List.mem_of_getElem? f.hm) s0 h0 hb0
   ·obtain ⟨j, hj⟩ := List.mem_iff_getElem?.1 hm2
    by_cases hij : i = j
    ·subst hij
     rw [List.getElem?_set_self (List.getElem?_eq_some_iff.1 f.hm).1] at hj
     injection hj with hj
     subst hj
     exact hn s2 hs2 hsb2
    ·rw [List.getElem?_set_ne hij] at hj
     exact hij (f.r.inj i j m m2 s0 s2 b f.hm hj h0 hs2 hb0 hsb2)
  ·rw [show (elN C C' D o kv i v gs ms ob).m = C.m.set o (.fam v kv gs (elB (ms.set i D.m) ob)) from rfl, List.getElem?_set_ne ho] at ho'
   exact ho (H.inj o o' _ s b f.slot ho' hB hsb)
 ·have ho : C.flat.ok b := Classical.byContradiction fun hc => hx ⟨hc, fun s hs hsb => hm ⟨s, hs, hsb⟩⟩
  rw [C.flat_ok] at ho
  refine ⟨ho.1, fun s hs hsb => ?_⟩
  rcases elN_mem hs with hs | rfl
  ·exact ho.2 s hs hsb
  ·rcases q.bn f hsb with h1 | ⟨s, h1, h2⟩
   ·exact ho.2 _ (List.mem_of_getElem? f.slot) h1
   ·exact hn s h1 h2
theorem ElBack.under (H : HRel S C h) (f : FamEl S C h o kv e els i el v gs B ms ob m) (q : ElBack S C C' D m el') : Under C' (elN C C' D o kv i v gs ms ob) := by
 refine ⟨rfl, fun b hb => q.okN H f hb.1 fun s hs hsb => ?_, ⟨fun b hb => ?_, ?_⟩⟩
 ·obtain ⟨s0, h0, hb0⟩ := q.blk s hs b hsb
  exact hb.2 s0 h0 hb0
 ·rw [q.st.X] at hb
  exact hb.1
 ·rw [q.st.X]
  exact Nat.le_refl _
theorem ElBack.rowR (H : HRel S C h) (f : FamEl S C h o kv e els i el v gs B ms ob m) (q : ElBack S C C' D m el') : RowR S (elN C C' D o kv i v gs ms ob).flat e (els.set i (some el')) v gs (elB (ms.set i D.m) ob) (ms.set i D.m) ob := by
 have st := q.step H f
 have hil : i < ms.length := (List.getElem?_eq_some_iff.1 f.hm).1
 have hjl : ∀ (j : Nat) (m2 : List Slot), ms[j]? = some m2 → ∀ (s : Slot), s ∈ m2 → ∀ b, s.has b → b < C.w.heap.size := fun j m2 hm s hs b hb => f.r.lt ((f.r.B b).2 (.inr ⟨m2, List.mem_of_getElem? hm, s, hs, hb⟩))
 have key : ∀ j m2, (ms.set i D.m)[j]? = some m2 → (j = i ∧ m2 = D.m) ∨ (j ≠ i ∧ ms[j]? = some m2) := by
  intro j m2 hj
  by_cases hij : i = j
  ·subst hij
   rw [List.getElem?_set_self hil] at hj
   injection hj with hj
   exact .inl ⟨rfl, hj.symm⟩
  ·rw [List.getElem?_set_ne hij] at hj
   exact .inr ⟨Ne.symm hij, hj⟩
 have mono : Mono D (elC (elN C C' D o kv i v gs ms ob).flat D.m) := by
  refine ⟨?_, fun b _ _ => ?_, fun b _ hok => ?_, fun o2 s2 hs2 => ⟨s2, hs2, s2.le_refl⟩, fun b _ _ => ?_, ⟨fun b hb => ?_, ?_⟩⟩
  ·show D.w.heap.size ≤ C'.w.heap.size
   rw [q.w]; exact Nat.le_refl _
  ·show C'.w.heap[b]? = D.w.heap[b]?
   rw [q.w]
  ·refine elC_ok.2 ⟨((elN C C' D o kv i v gs ms ob).flat_ok b).2 (q.okN H f (fun hx => hok.1 ((q.X b).2 hx)) hok.2), hok.2⟩
  ·show C'.w.heap[b]? = D.w.heap[b]?
   rw [q.w]
  ·have hx := q.H.nX
   have hp : C'.X.P b := (q.P b).1 hb
   have hp2 := hp
   rw [q.st.X] at hp2
   exact ⟨hp2.1, fun s hs hsb => hx s hs b hsb (D.X.sub b hb)⟩
  ·rw [q.N, q.st.X]; exact Nat.le_refl _
 refine ⟨f.r.he, f.r.sz, ?_, f.r.bnd, by rw [List.length_set]; exact f.r.lg, by rw [List.length_set, List.length_set]; exact f.r.lm, fun j m2 h2 hm he => ?_, fun j m2 hm he => ?_, fun b => Iff.rfl, fun b hb m2 hm s hs hsb => ?_, fun j j' m2 m3 s s' b hm hm' hs hs' hb hb' => ?_⟩
 ·rcases f.r.own with ⟨h1, h2⟩ | h1
  ·refine .inl ⟨ownsG_kept h1 fun b hv => ?_, h2⟩
   have hob : ob = some b := h2.trans hv
   exact q.st.block b (f.r.lt ((f.r.B b).2 (.inl hob))) fun s hs hsb => f.r.sep b hob m (List.mem_of_getElem? f.hm) s hs hsb
  ·exact .inr h1
 ·rcases key j m2 hm with ⟨rfl, rfl⟩ | ⟨hj, hm⟩
  ·rw [List.getElem?_set_self (by rw [← f.r.lm]; exact hil)] at he
   injection he with he
   injection he with he
   subst he
   refine ⟨?_, q.H.len, fun o1 ob1 s1 ho1 hs1 => ?_, q.H.inj⟩
   ·obtain ⟨b, g1, g2⟩ := f.hd
    exact ⟨b, g1, q.hd b (q.st.blk 0 b g2)⟩
   ·refine (q.H.rel o1 ob1 s1 ho1 hs1).mono mono fun b _ => ?_
    show C'.w.heap[b]? = D.w.heap[b]?
    rw [q.w]
  ·rw [List.getElem?_set_ne (Ne.symm hj)] at he
   obtain ⟨g1, g2⟩ := f.r.el j m2 h2 hm he
   refine ⟨g1, g2.mono st.mono.flat fun s hs b hsb => ?_⟩
   exact q.st.block b (hjl j m2 hm s hs b hsb) fun s3 hs3 hsb3 => hj (f.r.inj j i m2 m s s3 b hm f.hm hs hs3 hsb hsb3)
 ·rcases key j m2 hm with ⟨rfl, rfl⟩ | ⟨hj, hm⟩
  ·rw [List.getElem?_set_self (by rw [← f.r.lm]; exact hil)] at he
   cases he
  ·rw [List.getElem?_set_ne (Ne.symm hj)] at he
   exact f.r.no j m2 hm he
 ·rcases List.mem_or_eq_of_mem_set hm with hm | rfl
  ·exact f.r.sep b hb m2 hm s hs hsb
  ·obtain ⟨s2, h3, h4⟩ := q.old hs hsb (f.r.lt ((f.r.B b).2 (.inl hb)))
   exact f.r.sep b hb m (List.mem_of_getElem? f.hm) s2 h3 h4
 ·rcases key j m2 hm with ⟨h1, h2⟩ | ⟨hj, hmj⟩ <;> rcases key j' m3 hm' with ⟨h1', h2'⟩ | ⟨hj', hmj'⟩
  ·rw [h1, h1']
  ·rw [h2] at hs
   obtain ⟨s2, h3, h4⟩ := q.old hs hb (hjl j' m3 hmj' s' hs' b hb')
   rw [h1]
   exact f.r.inj i j' m m3 s2 s' b f.hm hmj' h3 hs' h4 hb'
  ·rw [h2'] at hs'
   obtain ⟨s2, h3, h4⟩ := q.old hs' hb' (hjl j m2 hmj s hs b hb)
   rw [h1']
   exact f.r.inj j i m2 m s s2 b hmj f.hm hs h3 hb h4
  ·exact f.r.inj j j' m2 m3 s s' b hmj hmj' hs hs' hb hb'
theorem ElBack.heap (H : HRel S C h) (f : FamEl S C h o kv e els i el v gs B ms ob m) (q : ElBack S C C' D m el') : HRel S (elN C C' D o kv i v gs ms ob) (h.set o (.fam (rowF e (els.set i (some el'))) kv)) := by
 have st := q.step H f
 have hol : o < C.m.length := (List.getElem?_eq_some_iff.1 f.slot).1
 have key : ∀ (o1 : Nat) (s1 : Slot), (elN C C' D o kv i v gs ms ob).m[o1]? = some s1 → (o1 = o ∧ s1 = .fam v kv gs (elB (ms.set i D.m) ob)) ∨ (o1 ≠ o ∧ C.m[o1]? = some s1) := by
  intro o1 s1 h1
  by_cases ho : o = o1
  ·subst ho
   rw [show (elN C C' D o kv i v gs ms ob).m = C.m.set o (.fam v kv gs (elB (ms.set i D.m) ob)) from rfl, List.getElem?_set_self hol] at h1
   injection h1 with h1
   exact .inl ⟨rfl, h1.symm⟩
  ·rw [show (elN C C' D o kv i v gs ms ob).m = C.m.set o (.fam v kv gs (elB (ms.set i D.m) ob)) from rfl, List.getElem?_set_ne ho] at h1
   exact .inr ⟨Ne.symm ho, h1⟩
 have two : ∀ (o2 : Nat) (s2 : Slot) (b : Nat), o2 ≠ o → C.m[o2]? = some s2 → s2.has b → elB (ms.set i D.m) ob b → False := by
  intro o2 s2 b hne hs2 hb2 hb
  have hlt := H.lt (List.mem_of_getElem? hs2) hb2
  have hB : B b := by
   rcases q.bn f hb with h1 | ⟨s, h1, h2⟩
   ·exact h1
   ·obtain ⟨s3, h3, h4⟩ := q.old h1 h2 hlt
    exact f.inB h3 h4
  exact hne (H.inj o2 o s2 _ b hs2 f.slot hb2 hB)
 refine ⟨?_, fun o1 ob1 s1 ho1 hs1 => ?_, fun o1 o2 s1 s2 b h1 h2 hb1 hb2 => ?_, fun s hs b hsb hx => ?_, fun b hb => Nat.lt_of_lt_of_le (H.Xlt b hb) q.st.size⟩
 ·show (C.m.set o _).length = _
  rw [List.length_set, List.length_set, H.len]
 ·rcases key o1 s1 hs1 with ⟨rfl, rfl⟩ | ⟨hne, hs⟩
  ·rw [List.getElem?_set_self (by rw [← H.len]; exact hol)] at ho1
   injection ho1 with ho1
   subst ho1
   exact ⟨rfl, _, ob, q.rowR H f⟩
  ·rw [List.getElem?_set_ne (Ne.symm hne)] at ho1
   have hr := H.rel o1 ob1 s1 ho1 hs
   refine hr.step st fun b hb => q.st.block b (hr.lt hb) fun s hsm hsb => hne (H.inj o1 o s1 _ b hs f.slot hb (f.inB hsm hsb))
 ·rcases key o1 s1 h1 with ⟨rfl, rfl⟩ | ⟨n1, k1⟩ <;> rcases key o2 s2 h2 with ⟨rfl, rfl⟩ | ⟨n2, k2⟩
  ·rfl
  ·exact (two o2 s2 b n2 k2 hb2 hb1).elim
  ·exact (two o1 s1 b n1 k1 hb1 hb2).elim
  ·exact H.inj o1 o2 s1 s2 b k1 k2 hb1 hb2
 ·rcases elN_mem hs with hs | rfl
  ·exact H.nX s hs b hsb hx
  ·rcases q.bn f hsb with h1 | ⟨s, h1, h2⟩
   ·exact H.nX _ (List.mem_of_getElem? f.slot) b h1 hx
   ·have hlt := H.Xlt b hx
    obtain ⟨s3, h3, h4⟩ := q.old h1 h2 hlt
    exact f.noX H h3 h4 hx
end
def elOut (n : Nat) (hout : List AO) : Option (List AO) :=
 match selH false (List.range hout.length) hout with
 | some h2 => selH true (List.range n) h2
 | none => none
theorem range_nodup : ∀ (n : Nat), nodupB (List.range n) = true := by
 have g : ∀ l : List Nat, l.Nodup → nodupB l = true := by
  intro l
  induction l with
  | nil => intro _; rfl
  | cons a r ih =>
   intro h
   rw [List.nodup_cons] at h
   simp [nodupB, h.1, ih h.2]
 exact fun n => g _ List.nodup_range
theorem elBack {C C' : Ctx} {m : List Slot} {el el' hout : List AO} (hpos : 0 < el.length) (hml : m.length = el.length) (st : StepW (elC C.flat m) C') (H' : HRel S C' hout) (e : elOut el.length hout = some el') : ElBack S C C' ((C'.sel false (List.range hout.length)).sel true (List.range el.length)) m el' := by
 unfold elOut at e
 split at e
 ·rename_i h2 hs
  have H2 := sel_heap H' (range_nodup _) hs
  have H3 := sel_heap H2 (range_nodup _) e
  have hX : ∀ b, ((C'.sel false (List.range hout.length)).sel true (List.range el.length)).X b ↔ C'.X b := by
   intro b
   constructor
   ·rintro (h | ⟨h, _⟩)
    ·rcases h with h | ⟨_, o, s, h1, h2, _⟩
     ·exact h
     ·have := (List.getElem?_eq_some_iff.1 h2).1
      rw [H'.len] at this
      exact absurd (List.mem_range.2 this) h1
    ·cases h
   ·exact fun h => .inl (.inl h)
  refine ⟨st, rfl, hX, fun b => Iff.rfl, rfl, fun s hs b hb => ?_, H3, fun b hb => ?_⟩
  ·obtain ⟨_, s1, _, k2, _, k4⟩ := sel_mem hs hb
   obtain ⟨_, s2, _, k5, _, k6⟩ := sel_mem (List.mem_of_getElem? k2) k4
   exact ⟨s2, List.mem_of_getElem? k5, k6⟩
  ·have hl : 0 < hout.length := by rw [← H'.len]; exact (List.getElem?_eq_some_iff.1 hb).1
   have h1 := sel_get (give := false) (ks := List.range hout.length) (i := 0) (o := 0) (by rw [List.getElem?_range hl]) hb
   exact sel_get (give := true) (ks := List.range el.length) (i := 0) (o := 0) (by rw [List.getElem?_range hpos]) h1
 ·cases e
def callFE (ds : List (TypeId × Bool)) (n : Nat) (ops : Array Oper) (i : Nat) (t : Tmps) (f : FuncId) : Option (AV × List AV) :=
 match callAt n ops i t with
 | some (f', x :: xs) => if f' = f ∧ plainL (xs.map (ev t)) = true then some (ev t x, (wkL (xs.map (ev t)) ds).1) else none
 | _ => none
theorem LSpec.callF {n : Nat} {ops : Array Oper} {i : Nat} {t : Tmps} {h : List AO} {o kv j : Nat} {e : TypeId} {els : List (Option (List AO))} {el el' hout : List AO} {f : FuncId} {as : List AV} {r : AV} (hc : ACalls P G.S f (.ptr 0 0 none :: as) el r hout) (he : els[j]? = some (some el)) (ho : h[o]? = some (.fam (rowF e els) kv)) (hr : plV r = true) (hout' : elOut el.length hout = some el') (ds : List (TypeId × Bool) := []) (q : callFE ds n ops i t f = some (.fm o kv (eF j), as)) :
  LSpec P G.S n ops i .loud t h r (h.set o (.fam (rowF e (els.set j (some el'))) kv)) := by
 unfold callFE at q
 split at q
 ·rename_i f' x xs hk
  split at q
  ·rename_i hcnd
   obtain ⟨rfl, hpl⟩ := hcnd
   injection q with q
   injection q with q1 q2
   subst q2
   have K := callAt_spec hk
   refine ⟨K.lt, K.dst, fun hh => absurd rfl hh, fun t2 h2 C a hl hh A Q N hN => K.wp hc.1 hl A fun hev => ?_⟩
   have hh := hh (by simp)
   subst hh
   have H := A.heap
   obtain ⟨v, gs, B, ms, ob, m, fe⟩ := famEl H ho he
   have hx := hev x (by simp)
   rw [q1] at hx
   obtain ⟨v2, kk, gs2, B2, _, m1, _, m2⟩ := fm_inv hx
   rw [fe.slot] at m1
   injection m1 with m1
   injection m1 with e1 e2 e3 e4
   subst e1; subst e2; subst e3
   obtain ⟨b, g1, g2⟩ := m2 rfl
   obtain ⟨b', g3, g4⟩ := fe.hd
   rw [g1] at g3
   injection g3 with g3
   subst g3
   have hu := fe.under H
   have hml : m.length = el.length := fe.E.len
   have hpos : 0 < el.length := by rw [← hml]; exact (List.getElem?_eq_some_iff.1 g4).1
   have hargs : VRels G.S (elC C.flat m) (.ptr 0 0 none :: (wkL (xs.map (ev t)) ds).1) ((x :: xs).map a.eval) := by
    refine .cons ⟨b, g4, trivial, by rw [g2]; rfl⟩ ?_
    refine VRels.wk (VRels.plainL hu hpl ?_) ds
    have key : ∀ ys : List Operand, (∀ y ∈ ys, VRel G.S C (ev t y) (a.eval y)) → plainL (ys.map (ev t)) = true → VRels G.S C (ys.map (ev t)) (ys.map a.eval) := by
     intro ys
     induction ys with
     | nil => intro _ _; exact .nil
     | cons y ys ih =>
      intro hy hp
      simp only [List.map_cons, plainL, Bool.and_eq_true] at hp
      refine .cons (VRel.to1 (fun vs hv => ?_) (hy y (by simp))) (ih (fun z hz => hy z (by simp [hz])) hp.2)
      rw [hv] at hp
      simp [plainA] at hp
    exact key xs (fun y hy => hev y (by simp [hy])) hpl
   refine (hc.2 (elC C.flat m) _ (fe.heap H) (by simpa using hargs)).mono ?_
   rintro e2 w' ⟨v', C', rfl, rfl, st, H', hv⟩
   refine ⟨v', rfl, ?_⟩
   have hb := elBack hpos hml st H' hout'
   exact hN (elN C C' ((C'.sel false (List.range hout.length)).sel true (List.range el.length)) o kv j v gs ms ob) v' (hb.step H fe) (hv.plV (hb.under H fe) hr) (by simpa using hb.heap H fe)
  ·cases q
 ·cases q
end Go.Sh
namespace Go.Sh
variable {P : Program} {G : Tab} {F : Fn} {c0 : Ctx} {R : Ending → World → Prop} {S : Sizes}
theorem RowR.nil {C : Ctx} {e : TypeId} (he : e < markE) (hsz : (S e).1 = 1) (ad : Option Addr) : RowR S C e [] (.slice ad 0 0) [] (fun _ => False) [] none where
 he := he
 sz := hsz
 own := .inr ⟨rfl, ⟨ad, rfl⟩, rfl⟩
 bnd := by simp [reach]
 lg := rfl
 lm := rfl
 el := fun i m h hm => by simp at hm
 no := fun i m hm => by simp at hm
 B := fun b => by simp
 sep := fun b hb => by cases hb
 inj := fun i j m m' s s' b hm => by simp at hm
theorem AR.adoptF {k : List PI} {t : Tmps} {h : List AO} {eb e0 : TypeId} {fs : List AV} (o j : Nat) (e : TypeId) (he : e < markE) (hsz : (G.S e).1 = 1) (ho : h[o]? = some (.box eb fs)) (hj : fs[j]? = some (.sl e0 [] true)) (A : AR P G F c0 R k t (h.set o (.box eb (fs.set j (.fm h.length 0 vF))) ++ [.fam (rowF e []) 0])) : AR P G F c0 R k t h := by
 intro C a st AA
 have H := AA.heap
 have hol : o < C.m.length := by rw [H.len]; exact (List.getElem?_eq_some_iff.1 ho).1
 obtain ⟨s, hs⟩ : ∃ s, C.m[o]? = some s := ⟨_, List.getElem?_eq_getElem hol⟩
 have hor := H.rel o _ _ ho hs
 cases s with
 | blk b =>
  obtain ⟨cs, p1, p2⟩ := hor
  obtain ⟨c, q1, q2⟩ := relL_set fs cs.toList j _ p2 hj
  obtain ⟨ad, cp, s1, s2, s3, s4, s5, s6⟩ := (q1 : RelV G.S C (.sl e0 [] true) c)
  have s3 : cp = 0 := s3 rfl
  subst s3
  subst s1
  let ns : Slot := .fam (.slice ad 0 0) 0 [] (fun _ => False)
  obtain ⟨st', hh⟩ := HRel.push (S := G.S) (C' := ⟨C.w, C.m ++ [ns], C.X⟩) (s := ns) (ob := .fam (rowF e []) 0) H (Nat.le_refl _) rfl rfl rfl (fun _ _ => rfl) rfl rfl (fun b hb => by exact False.elim hb)
  have H' := hh ⟨rfl, _, _, RowR.nil he hsz ad⟩
  have hnew : (C.m ++ [ns])[h.length]? = some ns := by
   rw [← H.len]; simp
  refine A ⟨C.w, C.m ++ [ns], C.X⟩ a (st.trans st') ⟨AA.defers, AA.size, fun i => (AA.tmps i).step st', ?_⟩
  refine { H' with len := by simpa using H'.len, rel := fun o' ob s ho' hs' => ?_ }
  by_cases he : o' = o
  ·subst he
   have hlt : o' < h.length := (List.getElem?_eq_some_iff.1 ho).1
   rw [List.getElem?_append_left (by simpa using hlt), List.getElem?_set_self hlt] at ho'
   injection ho' with ho'
   subst ho'
   have hs2 : (C.m ++ [ns])[o']? = some s := hs'
   rw [List.getElem?_append_left hol, hs] at hs2
   injection hs2 with hs2
   subst hs2
   exact ⟨cs, p1, q2 _ st' _ ⟨.slice ad 0 0, .slice ad 0 0, 0, [], _, rfl, rfl, hnew, Nat.le_refl _, fun _ => rfl⟩⟩
  ·refine H'.rel o' ob s ?_ hs'
   by_cases hlt : o' < h.length
   ·rw [List.getElem?_append_left (by simpa using hlt), List.getElem?_set_ne (Ne.symm he)] at ho'
    rw [List.getElem?_append_left hlt]
    exact ho'
   ·rw [List.getElem?_append_right (by simpa using Nat.le_of_not_lt hlt)] at ho'
    rw [List.getElem?_append_right (Nat.le_of_not_lt hlt)]
    simpa using ho'
 | _ => exact absurd hor (by simp [ORel])
def adfE (G : Tab) (o j e : Nat) (s : Option Cfg) : Option Cfg :=
 match s with
 | some c =>
  match c.h[o]? with
  | some (.box eb fs) =>
   match fs[j]? with
   | some (.sl _ [] true) => if e < markE ∧ (G.S e).1 = 1 then mkC c.k c.t (c.h.set o (.box eb (fs.set j (.fm c.h.length 0 vF))) ++ [.fam (rowF e []) 0]) else none
   | _ => none
  | _ => none
 | none => none
theorem AX.adf (o j e : Nat) {s : Option Cfg} (A : AX P G F c0 R (adfE G o j e s)) : AX P G F c0 R s := by
 obtain ⟨c', h1, h2⟩ := A
 cases s with
 | none => cases h1
 | some c =>
  simp only [adfE, mkC_eq] at h1
  split at h1
  ·rename_i eb fs ho
   split at h1
   ·rename_i e0 hj
    split at h1
    ·rename_i hc
     injection h1 with h1
     subst h1
     exact ⟨c, rfl, AR.adoptF o j e hc.1 hc.2 ho hj h2⟩
    ·cases h1
   ·cases h1
  ·cases h1
def vrφ (o kv kt : Nat) (o' k : Nat) : Option AV := if o' = o then (if k = kv then some (.own o kt) else none) else some (.own o' k)
def vrO (φ : Nat → Nat → Option AV) : AO → Option AO
 | .box e fs => match rnL φ some fs with | some gs => some (.box e gs) | none => none
 | ob => some ob
def vrF (kt : Nat) : AO → Option AO
 | .fam p _ => some (.fam p kt)
 | .famT p _ pd => some (.famT p kt pd)
 | _ => none
def vrE (o kt : Nat) (t : Tmps) (h : List AO) : Option (Tmps × List AO) :=
 match h[o]? with
 | some ob =>
  match vrF kt ob, mapO (vrO (vrφ o (verO h o) kt)) h with
  | some ob', some h' => some (t.map fun p => (p.1, match rnV (vrφ o (verO h o) kt) some p.2 with | some a => a | none => .u), h'.set o ob')
  | _, _ => none
 | none => none
theorem AR.verF {k : List PI} {t t' : Tmps} {h h' : List AO} {n0 : Nat} (hc0 : c0.m.length = n0) (o kt : Nat) (hle : verO h o ≤ kt ∨ n0 ≤ o) (e : vrE o kt t h = some (t', h')) (A : AR P G F c0 R k t' h') : AR P G F c0 R k t h := by
 intro C a st AA
 have H := AA.heap
 unfold vrE at e
 split at e
 ·rename_i ob ho
  split at e
  ·rename_i ob' h2 hob hh2
   injection e with e
   injection e with e1 e2
   subst e1; subst e2
   obtain ⟨hlen, hget⟩ := mapO_spec hh2
   have hol : o < C.m.length := by rw [H.len]; exact (List.getElem?_eq_some_iff.1 ho).1
   obtain ⟨s, hs⟩ : ∃ s, C.m[o]? = some s := ⟨_, List.getElem?_eq_getElem hol⟩
   have hor := H.rel o _ _ ho hs
   have hfam : ∃ v gs B, s = .fam v (verO h o) gs B := by
    cases s with
    | fam v k' gs B => exact ⟨v, gs, B, by rw [ver_eq H]; simp only [verS, hs]⟩
    | _ => cases ob <;> first | (simp only [vrF] at hob; cases hob; done) | exact hor.elim
   obtain ⟨v, gs, B, rfl⟩ := hfam
   generalize hkv : verO h o = kv at *
   let D : Ctx := ⟨C.w, C.m.set o (.fam v kt gs B), C.X⟩
   have hmem : ∀ s ∈ D.m, ∀ b, s.has b → ∃ s0 ∈ C.m, s0.has b := by
    intro s hs' b hb
    rcases List.mem_or_eq_of_mem_set hs' with h1 | rfl
    ·exact ⟨s, h1, hb⟩
    ·exact ⟨_, List.mem_of_getElem? hs, hb⟩
   have hu : Under C D := ⟨rfl, fun b hb => ⟨hb.1, fun s hs' e => by
    obtain ⟨s0, h1, h2⟩ := hmem s hs' b e
    exact hb.2 s0 h1 h2⟩, Keep.le_refl _⟩
   have hself : D.m[o]? = some (.fam v kt gs B) := List.getElem?_set_self hol
   have hne : ∀ o', o' ≠ o → D.m[o']? = C.m[o']? := fun o' hn => List.getElem?_set_ne (Ne.symm hn)
   have hrn : Rn G.S (vrφ o kv kt) some C D := by
    refine ⟨hu, fun o' k' cs a' e r => ?_, fun o' o2 b e hb => ?_, fun o' k' ψ cs o2 k2 e r => ?_⟩
    ·unfold vrφ at e
     obtain ⟨v', v0, kk, mn, h1, h2, h3, h4⟩ := r
     split at e
     ·rename_i hq
      subst hq
      rw [hs] at h3
      cases h3
     ·rename_i hq
      injection e with e
      subst e
      exact ⟨rfl, v', v0, kk, mn, h1, h2, by rw [hne o' hq]; exact h3, h4⟩
    ·injection e with e
     subst e
     rw [hne o' (fun hq => by rw [hq, hs] at hb; cases hb)]
     exact hb
    ·unfold vrφ at e
     obtain ⟨x, v0, kk, gs0, B0, h1, h2, h3, h4, h5⟩ := r
     split at e
     ·rename_i hq
      subst hq
      split at e
      ·rename_i hq2
       subst hq2
       injection e with e
       injection e with e1 e2
       subst e1; subst e2
       rw [hs] at h3
       injection h3 with h3
       injection h3 with e1 e2 e3 e4
       subst e1; subst e3; subst e4
       exact ⟨x, v, kt, gs, B, h1, h2, hself, Nat.le_refl _, fun _ => h5 e2⟩
      ·cases e
     ·rename_i hq
      injection e with e
      injection e with e1 e2
      subst e1; subst e2
      exact ⟨x, v0, kk, gs0, B0, h1, h2, by rw [hne o' hq]; exact h3, h4, h5⟩
   have hmono : Mono C.flat D.flat := hu.flat
   have stD : StepW c0 D := by
    refine ⟨st.os, st.tape, st.output, st.size, st.block, fun b hb ho => hu.ok b (st.ok b hb ho), fun b hb hn s hs' e => ?_, fun o' b hb => ?_, fun o' v' k' mn' hs' => ?_, fun o' v' k' gs' B' hs' => ?_, st.X, st.keep⟩
    ·obtain ⟨s0, h1, h2⟩ := hmem s hs' b e
     exact st.fresh b hb hn s0 h1 h2
    ·have h1 := st.blk o' b hb
     rw [hne o' (fun hq => by rw [hq, hs] at h1; cases h1)]
     exact h1
    ·obtain ⟨v2, k2, mn2, h1⟩ := st.row o' v' k' mn' hs'
     exact ⟨v2, k2, mn2, by rw [hne o' (fun hq => by rw [hq, hs] at h1; cases h1)]; exact h1⟩
    ·obtain ⟨s2, h1, h2⟩ := st.fam o' v' k' gs' B' hs'
     by_cases hq : o' = o
     ·subst hq
      rw [hs] at h1
      injection h1 with h1
      subst h1
      refine ⟨_, hself, ?_⟩
      obtain ⟨v3, k3, gs3, B3, h3, h4⟩ := h2
      injection h3 with e1 e2 e3 e4
      subst e1; subst e2; subst e3; subst e4
      have hlt : o' < n0 := by rw [← hc0]; exact (List.getElem?_eq_some_iff.1 hs').1
      refine ⟨v, kt, gs, B, rfl, ?_⟩
      rcases hle with hle | hle
      ·rcases h4 with h4 | ⟨h4, h5⟩
       ·exact .inl (by omega)
       ·rcases Nat.lt_or_ge kv kt with hlt | hge
        ·exact .inl (by omega)
        ·exact .inr ⟨by omega, h5⟩
      ·omega
     ·exact ⟨s2, by rw [hne o' hq]; exact h1, h2⟩
   have hrel : ∀ (o' : Nat) (ob1 ob2 : AO) (s1 : Slot), o' ≠ o → vrO (vrφ o kv kt) ob1 = some ob2 → ORel G.S C ob1 s1 → ORel G.S D ob2 s1 := by
    intro o' ob1 ob2 s1 hn e r
    have hlow : ∀ b, s1.has b → D.w.heap[b]? = C.w.heap[b]? := fun _ _ => rfl
    cases ob1 with
    | gone => simp only [vrO] at e; injection e with e; subst e; cases s1 <;> simp only [ORel] at r ⊢
    | any p => simp only [vrO] at e; injection e with e; subst e; cases s1 <;> simp only [ORel] at r ⊢; exact r
    | vals p as =>
     simp only [vrO] at e; injection e with e; subst e
     cases s1 <;> simp only [ORel] at r ⊢
     obtain ⟨x, vs, h1, h2, h3⟩ := r
     exact ⟨x, vs, h1, h2.mono hmono, h3⟩
    | fam p k' =>
     simp only [vrO] at e; injection e with e; subst e
     cases s1 <;> simp only [ORel] at r ⊢
     exact ⟨r.1, p.mono hmono (fun _ _ => rfl) r.2⟩
    | famT p k' pd =>
     simp only [vrO] at e; injection e with e; subst e
     cases s1 <;> simp only [ORel] at r ⊢
     refine ⟨r.1, p.mono hmono (fun _ _ => rfl) r.2.1, fun q hq => ?_⟩
     obtain ⟨b, h1, h2⟩ := r.2.2 q hq
     exact ⟨b, h1, by rw [hne _ (fun hq => by rw [hq, hs] at h2; cases h2)]; exact h2⟩
    | box e0 fs =>
     simp only [vrO] at e
     split at e
     ·rename_i gs2 hg
      injection e with e; subst e
      cases s1 <;> simp only [ORel] at r ⊢
      obtain ⟨cs, h1, h2⟩ := r
      exact ⟨cs, h1, RelL.rn hrn fs gs2 _ hg h2⟩
     ·cases e
    | row e0 rows k' app =>
     simp only [vrO] at e; injection e with e; subst e
     cases s1 <;> simp only [ORel] at r ⊢
     obtain ⟨h1, h2, h3, h4, h5⟩ := r
     refine ⟨h1, h2, fun hm => RelV.plain hu _ _ rfl (h3 hm), fun hm => ?_, h5⟩
     obtain ⟨t0, t1, cells, t2, t3, t4⟩ := h4 hm
     exact ⟨t0, t1, cells, t2, t3.mono hmono, t4⟩
   refine A D a stD ⟨AA.defers, AA.size, fun i => ?_, ?_⟩
   ·have hv := AA.tmps i
    rw [lk_map (fun x => match rnV (vrφ o kv kt) some x with | some a => a | none => .u) (by simp [rnV, rnA])]
    cases hq : rnV (vrφ o kv kt) some (lk t i) with
    | none => trivial
    | some b => exact hv.rn hrn hq
   ·refine ⟨?_, fun o1 ob1 s1 ho1 hs1 => ?_, fun o1 o2 s1 s2 b h1 h2 hb1 hb2 => ?_, fun s1 hs1 b hb => ?_, H.Xlt⟩
    ·show (C.m.set o _).length = _
     rw [List.length_set, List.length_set, hlen, H.len]
    ·by_cases hq : o1 = o
     ·subst hq
      rw [hself] at hs1
      injection hs1 with hs1
      subst hs1
      rw [List.getElem?_set_self (by rw [hlen, ← H.len]; exact hol)] at ho1
      injection ho1 with ho1
      subst ho1
      cases ob <;> simp only [vrF] at hob <;> try cases hob
      ·obtain ⟨_, g2⟩ := hor
       exact ⟨rfl, Fam.mono _ hmono (fun _ _ => rfl) g2⟩
      ·obtain ⟨_, g2, g3⟩ := hor
       refine ⟨rfl, Fam.mono _ hmono (fun _ _ => rfl) g2, fun q hq => ?_⟩
       obtain ⟨b, h1, h2⟩ := g3 q hq
       exact ⟨b, h1, by rw [hne _ (fun hq => by rw [hq, hs] at h2; cases h2)]; exact h2⟩
     ·rw [List.getElem?_set_ne (Ne.symm hq)] at ho1
      rw [hne o1 hq] at hs1
      obtain ⟨ob0, k1, k2⟩ := hget o1 ob1 ho1
      exact hrel o1 ob0 ob1 s1 hq k2 (H.rel o1 ob0 s1 k1 hs1)
    ·have key : ∀ (o1 : Nat) (s1 : Slot), D.m[o1]? = some s1 → s1.has b → ∃ s0, C.m[o1]? = some s0 ∧ s0.has b := by
      intro o1 s1 h1 hb1
      by_cases hq : o1 = o
      ·subst hq
       rw [hself] at h1
       injection h1 with h1
       subst h1
       exact ⟨_, hs, hb1⟩
      ·rw [hne o1 hq] at h1
       exact ⟨s1, h1, hb1⟩
     obtain ⟨s3, k1, k2⟩ := key o1 s1 h1 hb1
     obtain ⟨s4, k3, k4⟩ := key o2 s2 h2 hb2
     exact H.inj o1 o2 s3 s4 b k1 k3 k2 k4
    ·obtain ⟨s0, h1, h2⟩ := hmem s1 hs1 b hb
     exact H.nX s0 h1 b h2
  ·cases e
 ·cases e
def vfE (n0 o kt : Nat) (s : Option Cfg) : Option Cfg :=
 match s with
 | some c => if Nat.ble (verO c.h o) kt || Nat.ble n0 o then (match vrE o kt c.t c.h with | some (t, h) => mkC c.k t h | none => none) else none
 | none => none
theorem AX.vf {n0 : Nat} (hc0 : c0.m.length = n0) (o kt : Nat) {s : Option Cfg} (A : AX P G F c0 R (vfE n0 o kt s)) : AX P G F c0 R s := by
 obtain ⟨c', h1, h2⟩ := A
 cases s with
 | none => cases h1
 | some c =>
  simp only [vfE, mkC_eq] at h1
  split at h1
  ·rename_i hc
   rw [Bool.or_eq_true, Nat.ble_eq, Nat.ble_eq] at hc
   split at h1
   ·rename_i t h e
    injection h1 with h1
    subst h1
    exact ⟨c, rfl, AR.verF hc0 o kt hc e h2⟩
   ·cases h1
  ·cases h1
section
variable {s : Option DS}
theorem DX.fle [ok : Ok P G] (L : List Nat) (o k : Nat) (e : TypeId) (els : List (Option (List AO))) (D : DX P G F c0 R (updE F L .read (fun _ => .sc (.int .i64 (els.length : Int))) hOf s)) (hq : lenJ G F.n (dO F s) (dI s) (dT s) = some (.fm o k vF) := by kernel_rfl) (ho : (dH s)[o]? = some (.fam (rowF e els) k) := by kernel_rfl) : DX P G F c0 R s := DX.opF L (LSpec.flen (.inl ho) hq) D
theorem DX.fix_ [ok : Ok P G] (L : List Nat) (o k : Nat) (e : TypeId) (els : List (Option (List AO))) (j : Int) (ki : IntKind) (hj : (decide (0 ≤ j) && decide (j < (els.length : Int))) = true) (D : DX P G F c0 R (updE F L .read (fun _ => .fm o k (cF j.toNat)) hOf s)) (hq : idxJ G F.n (dO F s) (dI s) (dT s) = some (e, .fm o k vF, .sc (.int ki j)) := by kernel_rfl) (ho : (dH s)[o]? = some (.fam (rowF e els) k) := by kernel_rfl) (hs : (G.S e).1 = 1 := by kernel_rfl) : DX P G F c0 R s := DX.opF L (LSpec.fidx (.inl ho) hj hq hs) D
theorem DX.fld [ok : Ok P G] (L : List Nat) (o k : Nat) (e : TypeId) (els : List (Option (List AO))) (j : Nat) (hj : j < els.length) (D : DX P G F c0 R (updE F L .read (fun _ => .fm o k (eF j)) hOf s)) (hq : ldJ G F.n (dO F s) (dI s) (dT s) = some (.fm o k (cF j)) := by kernel_rfl) (ho : (dH s)[o]? = some (.fam (rowF e els) k) := by kernel_rfl) : DX P G F c0 R s := DX.opF L (LSpec.fld (.inl ho) hj hq) D
theorem DX.fca (L : List Nat) (o kv j : Nat) (e : TypeId) (els : List (Option (List AO))) {el el' hout : List AO} {f : FuncId} {as : List AV} {r : AV} (hc : ACalls P G.S f (.ptr 0 0 none :: as) el r hout) (he : els[j]? = some (some el)) (els' : List (Option (List AO))) (hels : els.set j (some el') = els') (D : DX P G F c0 R (updE F L .loud (fun _ => r) (fun d => d.r.h.set o (.fam (rowF e els') kv)) s)) (ds : List (TypeId × Bool) := []) (hq : callFE ds F.n (dO F s) (dI s) (dT s) f = some (.fm o kv (eF j), as) := by kernel_rfl) (ho : (dH s)[o]? = some (.fam (rowF e els) kv) := by kernel_rfl) (hr : plV r = true := by kernel_rfl) (hout' : elOut el.length hout = some el' := by kernel_rfl) : DX P G F c0 R s := by
 subst hels
 exact DX.opF L (LSpec.callF hc he ho hr hout' ds hq) D
end
end Go.Sh