import Derived.Carry
import Derived.Laws.IdiomRangeMap
import Derived.Maps.RangeRun
import Derived.Deep.Slices
import Derived.OpenShut
import Derived.SizedLaws
import Derived.WalkKit
import Derived.ProofKit
import Derived.ShutString
import Derived.ChangeOld
import Derived.Test.YtamgbggpbehflaaM2LockPlays
set_option linter.unusedVariables false
set_option linter.unusedSimpArgs false
namespace Go.Sh
variable {P : Program} {G : Tab} {F : Fn} {c0 : Ctx} {R : Ending → World → Prop} {S : Sizes}
theorem sc_inv1 {C : Ctx} {u v : Value} (h : VRel1 S C (.sc u) v) : v = u := by
 have h1 : [v] = [u] := (h : RelV S C (.sc u) [v]).1
 simpa using h1
theorem kl_int {kt : TypeId} {k : IntKind} (hu : P.underlying kt = some (.int k)) : KL P S kt (intA k) (Value.int k) where
 det := fun h => sc_inv1 h
 rel := fun C x => ⟨rfl, rfl⟩
 notup := fun k vs h => by cases h
 und := ⟨_, hu, fun a b r h => by
  simp only [Instr.sameNow, if_true] at h
  injection h with h
  rw [← h]
  by_cases e : a = b <;> simp [e]⟩
 check := fun e x w => by rw [show (10000 : Nat) = 9999 + 1 from rfl, Instr.checkKey]; simp [run_underlying hu]
 eq := fun x y w => by
  have : (Op.equal kt (.int k x) (.int k y)).run P w = .ok (x == y) w := by
   show (Op.equalIn (9999 + 1) kt (.int k x) (.int k y)).run P w = _
   rw [Op.equalIn]
   simp [run_underlying hu]
  rw [this]
  by_cases e : x = y <;> simp [e]
 bits := fun x => by simp [Instr.sameBits]
def mapK (b : Nat) : Value := .map (some b)
def VK.isMap : VK → Bool
 | .chan _ => false
 | _ => true
theorem map_obj {k : VK} {vs : List Value} {ob : Obj} (hk : k.isMap = true) (h : k.rel vs ob) : ∃ es clock, ob = .map es clock ∧ vs = es.toList.flatMap fun e => [e.key, e.val] := by
 cases k with
 | chan c => cases hk
 | map => obtain ⟨es, clock, h1, h2, _⟩ := h; exact ⟨es, clock, h1, h2⟩
 | mapD => obtain ⟨es, h1, h2, _⟩ := h; exact ⟨es, _, h1, h2⟩
structure MQ where
 o : Nat
 mt : TypeId
 kt : TypeId
 et : TypeId
 K : Nat → Value
 kd : VK
 as : List AV
def mqOf (P : Program) (mt : TypeId) (x : AV) (h : List AO) : Option MQ :=
 match P.underlying mt, x with
 | some (.map kt et), .ref K o => match h[o]? with | some (.vals kd as) => some ⟨o, mt, kt, et, K, kd, as⟩ | _ => none
 | _, _ => none
theorem mqOf_inv {mt : TypeId} {x : AV} {h : List AO} {q : MQ} (e : mqOf P mt x h = some q) : P.underlying mt = some (.map q.kt q.et) ∧ x = .ref q.K q.o ∧ h[q.o]? = some (.vals q.kd q.as) ∧ q.mt = mt := by
 unfold mqOf at e
 split at e
 ·rename_i kt et K o hu
  split at e
  ·rename_i kd as ho
   injection e with e
   subst e
   exact ⟨hu, rfl, ho, rfl⟩
  ·cases e
 ·cases e
theorem obj_upd {C : Ctx} {h : List AO} (H : HRel S C h) {o b : Nat} (hm : C.m[o]? = some (.blk b)) (hb : b < C.w.heap.size) (ob : Obj) (ao : AO) (hr : ∀ C' : Ctx, Mono C.flat C'.flat → C'.w.heap[b]? = some ob → ORel S C' ao (.blk b)) :
  Step C ⟨{ C.w with heap := C.w.heap.setIfInBounds b ob }, C.m, C.X⟩ ∧ HRel S ⟨{ C.w with heap := C.w.heap.setIfInBounds b ob }, C.m, C.X⟩ (h.set o ao) := by
 have hset : C.m.set o (.blk b) = C.m := by
  obtain ⟨hl, he⟩ := List.getElem?_eq_some_iff.1 hm
  rw [← he]; exact List.set_getElem_self hl
 obtain ⟨st, hh⟩ := H.upd (C' := ⟨{ C.w with heap := C.w.heap.setIfInBounds b ob }, C.m, C.X⟩) (o := o) (s := .blk b) (s' := .blk b) (ob := ao) hm (Slot.le_refl _) (by simp) rfl rfl rfl
  (fun b' _ hne => by simp only []; rw [Array.getElem?_setIfInBounds_ne (fun e => hne (by rw [e]; rfl))]) hset.symm rfl (fun b' h' => .inl h')
 exact ⟨st, hh (hr _ st.mono.flat (by simp only []; rw [Array.getElem?_setIfInBounds_self_of_lt hb]))⟩
theorem get_map {w : World} {r : Nat} {es : Array MapEntry} {clock : Nat} (hb : w.heap[r]? = some (.map es clock)) : (getObj r).run P w = .ok (.map es clock) w := by
 simp [getObj, Sem.run, hb]
theorem set_map {w : World} {r : Nat} {es : Array MapEntry} {clock : Nat} (o : Obj) (hb : w.heap[r]? = some (.map es clock)) : (setObj r o).run P w = .ok () { w with heap := w.heap.setIfInBounds r o } := by
 simp [setObj, Sem.run, hb]
section
variable {n : Nat} {ops : Array Oper} {i : Nat} {t : Tmps} {h : List AO}
theorem LSpec.mm (e : (match opAt n ops i t with | some (.makeMap _ none) => true | _ => false) = true := by kernel_rfl) : LSpec P S n ops i .loud t h (.ref mapK h.length) (h ++ [.vals .mapD []]) := by
 split at e
 ·rename_i ty hop
  refine (opAt_spec hop).spec (fun hh => absurd rfl hh) fun o ρv C h2 hop' H hh hρ => ?_
  have hh := hh (by simp)
  subst hh
  obtain ⟨st, HH⟩ := new_obj H (.map #[] 0) (.vals .mapD []) (fun C' _ hb => ⟨_, [], hb, .nil, ⟨#[], rfl, rfl, fun j e he => by simp at he⟩⟩)
  refine ⟨_, st, by simpa using HH, .inl ⟨.map (some C.w.heap.size), ?_, new_ref H _ mapK rfl⟩⟩
  have hrun : (Instr.makeMap ty none).run P C.w = .ok (.map (some C.w.heap.size)) (C.w.alloc (.map #[] 0)) := rfl
  obtain ⟨dst, op, oty, pos, after, guard⟩ := o
  dsimp only at hop'
  subst hop'
  simp [execOp, hrun]
 ·cases e
def mlE (P : Program) (ds : List (TypeId × Bool)) (n : Nat) (ops : Array Oper) (i : Nat) (t : Tmps) (h : List AO) : Option (MQ × AV × AV × Bool) :=
 match opAt n ops i t with
 | some (.lookup mt x k ok) => (mqOf P mt (ev t x) h).map fun q => (q, ev t k, zeroA P ds q.et, ok)
 | _ => none
def mlA (q : Option (MQ × AV × AV × Bool)) : Option (TypeId × (Nat → Value) × Bool × List AV × AV × AV × Bool) := q.map fun q => (q.1.kt, q.1.K, q.1.kd.isMap, q.1.as, q.2.1, q.2.2.1, q.2.2.2)
variable {K V : Type} [DecidableEq K] {kt : TypeId} {ek : K → AV} {kv : K → Value} {ev_ : V → AV}
def mlR {K V : Type} [DecidableEq K] (ev_ : V → AV) (k : K) (z : V) (m : List (K × V)) : Bool → AV
 | true => .tup [ev_ (getM k z m), .sc (.bool (hasM k m))]
 | false => ev_ (getM k z m)
theorem plain_notup {a : AV} (h : plainA a = true) : ∀ vs, a ≠ .tup vs := fun vs e => by rw [e] at h; cases h
theorem LSpec.ml (kl : KL P S kt ek kv) {m : List (K × V)} {k : K} {z : V} {ok : Bool} (hp : ∀ v, plainA (ev_ v) = true) (ds : List (TypeId × Bool) := []) (e : mlA (mlE P ds n ops i t h) = some (kt, mapK, true, mapAV ek ev_ m, ek k, ev_ z, ok) := by kernel_rfl) : LSpec P S n ops i .read t h (mlR ev_ k z m ok) h := by
 obtain ⟨q, hq, e⟩ := Option.map_eq_some_iff.1 e
 unfold mlE at hq
 split at hq
 ·rename_i mt x kx ok' hop
  obtain ⟨q0, hmq, hq⟩ := Option.map_eq_some_iff.1 hq
  subst hq
  obtain ⟨hu, hx, ho, hmt⟩ := mqOf_inv hmq
  injection e with e1 e
  injection e with e2 e
  injection e with e3 e
  injection e with e4 e
  injection e with e5 e
  injection e with e6 e7
  dsimp only at e1 e2 e3 e4 e5 e6 e7
  subst e1
  refine (opAt_spec hop).spec (fun _ => rfl) fun q ρv C h2 hop' H hh hρ => ?_
  have hh := hh (by simp)
  subst hh
  have hxv := hρ x (by simp [Op.operands])
  have hkv := hρ kx (by simp [Op.operands])
  rw [hx] at hxv
  rw [e5] at hkv
  have hkv := kl.det (VRel.to1 (kl.notup k) hkv)
  obtain ⟨b, ob, vs, g1, g2, g3, g4, g5⟩ := ref_obj H hxv ho
  rw [e2] at g2
  rw [e4] at g4
  obtain ⟨es, clock, rfl, rfl⟩ := map_obj e3 g5
  have hM := mrel_of g4
  have hf := find_run kl k C.w hM
  obtain ⟨r1, r2⟩ := get_rel hM
  have hne : zeroA P ds q0.et ≠ .u := by rw [e6]; intro hx; have := hp z; rw [hx] at this; cases this
  obtain ⟨zv, hz1, hz2⟩ := zeroA_run (S := S) (C := C) hne
  rw [e6] at hz2
  have hz3 := VRel.to1 (plain_notup (hp z)) hz2
  have g2' : ρv x = .map (some b) := g2
  obtain ⟨dst, op, oty, pos, after, guard⟩ := q
  dsimp only at hop'
  subst hop'
  have hgo := get_map (P := P) g3
  have hck := kl.check es.isEmpty k C.w
  have base : ∃ v, VRel1 S C (ev_ (getM k z m)) v ∧ (execOp ρv { dst := dst, op := .lookup mt x kx ok', type := oty, pos := pos, after := after, guard := guard }).run P C.w = .ok (.value (if ok' then .tuple #[v, .bool (hasM k m)] else v)) C.w := by
   cases he : es.toList[posM k m]? with
   | none =>
    obtain ⟨n1, n2⟩ := r2 he
    rw [he] at hf
    refine ⟨zv, by rw [n2]; exact hz3, ?_⟩
    simp only [execOp, Instr.lookup, Sem.run_bind, run_underlying hu, Result.andThen_ok, g2', hkv, hgo, Sem.run_pure, hck, hf, Option.map_none, hz1, n1]
   | some e0 =>
    obtain ⟨n1, n2⟩ := r1 e0 he
    rw [he] at hf
    refine ⟨e0.val, (n2 z).mono (Mono.unflat C), ?_⟩
    simp only [execOp, Instr.lookup, Sem.run_bind, run_underlying hu, Result.andThen_ok, g2', hkv, hgo, Sem.run_pure, hck, hf, Option.map_some, n1]
  obtain ⟨v, b1, b2⟩ := base
  subst e7
  refine OpOK.same (by simpa using H) b2 ?_
  cases ok' with
  | true => exact ⟨_, rfl, .cons b1 (.cons ⟨rfl, rfl⟩ .nil)⟩
  | false => exact VRel.of1 b1
 ·cases hq
def meO (q : Option (MQ × AV × AV)) : Nat := match q with | some q => q.1.o | none => 0
end
section
variable {K V : Type}
end
section
variable {K V : Type} [DecidableEq K]
end
section
variable {n : Nat} {ops : Array Oper} {i : Nat} {t : Tmps} {h : List AO}
end
section
variable {n : Nat} {ops : Array Oper} {i : Nat} {t : Tmps} {h : List AO} {K V : Type} [DecidableEq K] {kt : TypeId} {ek : K → AV} {kv : K → Value} {ev_ : V → AV}
end
section
variable {s : Option DS} {K V : Type} [DecidableEq K] {kt : TypeId} {ek : K → AV} {kv : K → Value}
theorem DX.ml (L : List Nat) (ev_ : V → AV) (kl : KL P G.S kt ek kv) (hp : ∀ v, plainA (ev_ v) = true) (m : List (K × V)) (k : K) (z : V) (ok : Bool) (D : DX P G F c0 R (updE F L .read (fun _ => mlR ev_ k z m ok) hOf s)) (ds : List (TypeId × Bool) := []) (e : mlA (mlE P ds F.n (dO F s) (dI s) (dT s) (dH s)) = some (kt, mapK, true, mapAV ek ev_ m, ek k, ev_ z, ok) := by kernel_rfl) : DX P G F c0 R s := DX.opF L (LSpec.ml kl hp ds e) D
end
section
variable {n : Nat} {ops : Array Oper} {i : Nat} {t : Tmps} {h : List AO} {K V : Type} [DecidableEq K] {kt : TypeId} {ek : K → AV} {kv : K → Value}
theorem LQ.xi [ok : Ok P G] {α : Type} (f : α → AV) {xs : List α} {j : Int} {x : α} (hv : ixO xs j = some x) (e : indexE G n ops i t = some (xs.map f, j) := by kernel_rfl) (hf : chOk (f x) = true := by kernel_rfl) : LSpec P G.S n ops i .pure t h (.ep (chD (f x)) 0 none) h := LSpec.xi f hv e hf
theorem LQ.ml (ev_ : V → AV) (kl : KL P S kt ek kv) (hp : ∀ v, plainA (ev_ v) = true) (m : List (K × V)) (k : K) (z : V) (ok : Bool) (ds : List (TypeId × Bool) := []) (e : mlA (mlE P ds n ops i t h) = some (kt, mapK, true, mapAV ek ev_ m, ek k, ev_ z, ok) := by kernel_rfl) : LSpec P S n ops i .read t h (mlR ev_ k z m ok) h := LSpec.ml kl hp ds e
end
end Go.Sh
namespace Go.Sh
variable {P : Program} {G : Tab} {F : Fn} {c0 : Ctx} {R : Ending → World → Prop} {S : Sizes}
section
variable {n : Nat} {ops : Array Oper} {i : Nat} {t : Tmps} {h : List AO}
end
section
variable {s : Option DS}
end
section
variable {n : Nat} {ops : Array Oper} {i : Nat} {t : Tmps} {h : List AO}
end
section
variable {s : Option DS}
end
section
variable {n : Nat} {ops : Array Oper} {i : Nat} {t : Tmps} {h : List AO}
end
section
variable {s : Option DS}
end
section
variable {s : Option DS}
theorem LQ.ch [ok : Ok P G] {n : Nat} {ops : Array Oper} {i : Nat} {t : Tmps} {h : List AO} (ks : List Nat) {f : FuncId} {avs : List AV} {hin hout : List AO} {r : AV} (hc : ACalls P G.S f avs hin r hout) (ds es : List (TypeId × Bool) := []) (e : callHE2 ks ds es n ops i t h f hout r = some (avs, hin) := by kernel_rfl) : LSpec P G.S n ops i .loud t h (bkR ks h hout r) (bkH ks h hout r) := LSpec.ch ks hc ds es e
end
end Go.Sh
namespace Go.Sh
variable {P : Program} {G : Tab} {F : Fn} {c0 : Ctx} {R : Ending → World → Prop} {S : Sizes}
section
variable [ok : Ok P G] {n : Nat} {ops : Array Oper} {i : Nat} {t : Tmps} {h : List AO}
theorem LQ.xo {rows : List AV} {j : Int} (hj : (decide (0 ≤ j) && decide (j < ((rows.length : Nat) : Int))) = true) (e : xoA (indexOE G n ops i t h) = some (rows, j) := by kernel_rfl) : LSpec P G.S n ops i .read t h (xoR (indexOE G n ops i t h)) h := LSpec.xo hj e
end
section
variable {s : Option DS}
end
end Go.Sh
namespace Go.Sh
variable {P : Program} {G : Tab} {F : Fn} {c0 : Ctx} {R : Ending → World → Prop} {S : Sizes}
section
variable [ok : Ok P G] {n : Nat} {ops : Array Oper} {i : Nat} {t : Tmps} {h : List AO}
end
section
variable {s : Option DS}
end
end Go.Sh
namespace Go.Sh
variable {P : Program} {G : Tab} {F : Fn} {c0 : Ctx} {R : Ending → World → Prop} {S : Sizes}
theorem born_modify (es : Array MapEntry) (i : Nat) (f : MapEntry → MapEntry) (hf : ∀ e, (f e).born = e.born) : (es.modify i f).toList.map (·.born) = es.toList.map (·.born) := by
 apply List.ext_getElem?
 intro j
 simp only [List.getElem?_map, Array.getElem?_toList, Array.getElem?_modify]
 split
 ·cases es[j]? with
  | none => rfl
  | some e => simp [hf]
 ·rfl
theorem vk_mod {kd : VK} {vs : List Value} {es : Array MapEntry} {clock i : Nat} {f : MapEntry → MapEntry} (h : kd.rel vs (.map es clock)) (hf : ∀ e, (f e).born = e.born) : kd.rel ((es.modify i f).toList.flatMap fun e => [e.key, e.val]) (.map (es.modify i f) clock) := by
 cases kd with
 | chan c => obtain ⟨s, r, h⟩ := h; cases h
 | map =>
  obtain ⟨es', cl, h1, h2, h3, h4⟩ := h
  injection h1 with h1 h1'
  subst h1; subst h1'
  refine ⟨_, _, rfl, rfl, ?_, by rw [born_modify _ _ _ hf]; exact h4⟩
  intro e he
  have : e.born ∈ (es.modify i f).toList.map (·.born) := List.mem_map_of_mem he
  rw [born_modify _ _ _ hf] at this
  obtain ⟨e', he', hb⟩ := List.mem_map.1 this
  rw [← hb]
  exact h3 e' he'
 | mapD =>
  obtain ⟨es', h1, h2, h3⟩ := h
  injection h1 with h1 h1'
  subst h1; subst h1'
  refine ⟨_, by rw [Array.size_modify], rfl, fun j e he => ?_⟩
  rw [Array.getElem?_modify] at he
  split at he
  ·obtain ⟨e', g1, g2⟩ := Option.map_eq_some_iff.1 he
   rw [← g2, hf]
   exact h3 j e' g1
  ·exact h3 j e he
theorem vk_push {kd : VK} {vs : List Value} {es : Array MapEntry} {clock : Nat} {key val : Value} (h : kd.rel vs (.map es clock)) : kd.rel ((es.push { key, val, born := clock }).toList.flatMap fun e => [e.key, e.val]) (.map (es.push { key, val, born := clock }) (clock + 1)) := by
 cases kd with
 | chan c => obtain ⟨s, r, h⟩ := h; cases h
 | map =>
  obtain ⟨es', cl, h1, h2, h3, h4⟩ := h
  injection h1 with h1 h1'
  subst h1; subst h1'
  refine ⟨_, _, rfl, rfl, ?_, ?_⟩
  ·intro e he
   rw [Array.toList_push, List.mem_append, List.mem_singleton] at he
   rcases he with he | rfl
   ·exact Nat.lt_succ_of_lt (h3 e he)
   ·exact Nat.lt_succ_self _
  ·rw [Array.toList_push, List.map_append, List.nodup_append]
   refine ⟨h4, by simp, fun a ha b hb => ?_⟩
   obtain ⟨e, he, rfl⟩ := List.mem_map.1 ha
   simp only [List.map_cons, List.map_nil, List.mem_singleton] at hb
   subst hb
   have := h3 e he
   omega
 | mapD =>
  obtain ⟨es', h1, h2, h3⟩ := h
  injection h1 with h1 h1'
  subst h1; subst h1'
  refine ⟨_, by rw [Array.size_push], rfl, fun j e he => ?_⟩
  rcases Nat.lt_or_ge j es.size with hj | hj
  ·rw [Array.getElem?_push_lt hj] at he
   exact h3 j e (by rw [← he]; exact (Array.getElem?_eq_getElem hj))
  ·have hj2 := (Array.getElem?_eq_some_iff.1 he).1
   rw [Array.size_push] at hj2
   have : j = es.size := by omega
   subst this
   rw [Array.getElem?_push_size] at he
   injection he with he
   rw [← he]
theorem vk_erase {vs : List Value} {es : Array MapEntry} {clock i : Nat} (h : VK.rel .map vs (.map es clock)) : VK.rel .map ((es.eraseIdxIfInBounds i).toList.flatMap fun e => [e.key, e.val]) (.map (es.eraseIdxIfInBounds i) clock) := by
 obtain ⟨es', cl, h1, h2, h3, h4⟩ := h
 injection h1 with h1 h1'
 subst h1; subst h1'
 have hs : (es.eraseIdxIfInBounds i).toList.Sublist es.toList := by
  rw [Array.eraseIdxIfInBounds]
  split
  ·rw [Array.toList_eraseIdx]; exact List.eraseIdx_sublist _ _
  ·exact List.Sublist.refl _
 exact ⟨_, _, rfl, rfl, fun e he => h3 e (hs.subset he), h4.sublist (hs.map _)⟩
def muE (P : Program) (n : Nat) (ops : Array Oper) (i : Nat) (t : Tmps) (h : List AO) : Option (MQ × AV × AV) :=
 match opAt n ops i t with
 | some (.mapUpdate mt x k v) => (mqOf P mt (ev t x) h).map fun q => (q, ev t k, ev t v)
 | _ => none
def muA (q : Option (MQ × AV × AV)) : Option (TypeId × (Nat → Value) × Bool × List AV × AV × AV) := q.map fun q => (q.1.kt, q.1.K, q.1.kd.isMap, q.1.as, q.2.1, q.2.2)
def muK (q : Option (MQ × AV × AV)) : VK := match q with | some q => q.1.kd | none => .map
section
variable {n : Nat} {ops : Array Oper} {i : Nat} {t : Tmps} {h : List AO} {K V : Type} [DecidableEq K] {kt : TypeId} {ek : K → AV} {kv : K → Value} {ev_ : V → AV}
theorem LSpec.mu (kl : KL P S kt ek kv) {m : List (K × V)} {k : K} {v : V} (hp : plainA (ev_ v) = true) (e : muA (muE P n ops i t h) = some (kt, mapK, true, mapAV ek ev_ m, ek k, ev_ v) := by kernel_rfl) :
  LSpec P S n ops i .loud t h .u (h.set (meO (muE P n ops i t h)) (.vals (muK (muE P n ops i t h)) (mapAV ek ev_ (putM k v m)))) := by
 generalize hq : muE P n ops i t h = qq at *
 obtain ⟨q, hq', e0⟩ := Option.map_eq_some_iff.1 e
 subst hq'
 clear e
 unfold muE at hq
 split at hq
 ·rename_i mt x kx vx hop
  obtain ⟨q0, hmq, hq⟩ := Option.map_eq_some_iff.1 hq
  subst hq
  obtain ⟨hu, hx, ho, hmt⟩ := mqOf_inv hmq
  injection e0 with e1 e
  injection e with e2 e
  injection e with e3 e
  injection e with e4 e
  injection e with e5 e6
  dsimp only at e1 e2 e3 e4 e5 e6
  subst e1
  refine (opAt_spec hop).spec (fun hh => absurd rfl hh) fun q ρv C h2 hop' H hh hρ => ?_
  have hh := hh (by simp)
  subst hh
  have hxv := hρ x (by simp [Op.operands])
  have hkv := hρ kx (by simp [Op.operands])
  have hvv := hρ vx (by simp [Op.operands])
  rw [hx] at hxv
  rw [e5] at hkv
  rw [e6] at hvv
  have hkv := kl.det (VRel.to1 (kl.notup k) hkv)
  have hvv := VRel.to1 (plain_notup hp) hvv
  obtain ⟨b, ob, vs, g1, g2, g3, g4, g5⟩ := ref_obj H hxv ho
  rw [e2] at g2
  rw [e4] at g4
  obtain ⟨es, clock, rfl, rfl⟩ := map_obj e3 g5
  have hb : b < C.w.heap.size := (Array.getElem?_eq_some_iff.1 g3).1
  have hM := mrel_of g4
  have hf := find_run kl k C.w hM
  obtain ⟨r1, r2⟩ := get_rel hM
  have g2' : ρv x = .map (some b) := g2
  obtain ⟨dst, op, oty, pos, after, guard⟩ := q
  dsimp only at hop'
  subst hop'
  have hgo := get_map (P := P) g3
  have hck := kl.check false k C.w
  cases he : es.toList[posM k m]? with
  | none =>
   obtain ⟨n1, n2⟩ := r2 he
   rw [he] at hf
   have hput : putM k v m = m ++ [(k, v)] := by rw [putM, n1]; rfl
   obtain ⟨st, HH⟩ := obj_upd H g1 hb (.map (es.push { key := kv k, val := ρv vx, born := clock }) (clock + 1)) (.vals q0.kd (mapAV ek ev_ (putM k v m))) (fun C' hm hb' => by
    refine ⟨_, _, hb', mrel_to (es := (es.push { key := kv k, val := ρv vx, born := clock }).toList) ?_, vk_push g5⟩
    rw [hput, Array.toList_push]
    exact MRel.push (e0 := { key := kv k, val := ρv vx, born := clock }) (kl.rel _ k) ((VRel1.plain (Under.toFlat C) hp hvv).mono hm) (hM.mono hm))
   refine ⟨_, st, by simpa [meO, muK] using HH, .inr ⟨?_, rfl⟩⟩
   simp only [execOp, Instr.mapUpdate, Sem.run_bind, run_underlying hu, Result.andThen_ok, g2', hkv, hgo, Sem.run_pure, hck, hf, Option.map_none, set_map _ g3]
  | some e0 =>
   obtain ⟨n1, n2⟩ := r1 e0 he
   rw [he] at hf
   have hput : putM k v m = setM (posM k m) v m := by rw [putM, n1]; rfl
   obtain ⟨p, hp1, hp2, hp3⟩ := hM.get _ e0 he
   have hpk := posM_key k m p hp1
   have hek : e0.key = kv k := by rw [kl.det hp2, hpk]
   have hes : es[posM k m]? = some e0 := by rw [← Array.getElem?_toList]; exact he
   have hkeep : (Instr.keyThatStays (kv k) (kv k)).run P C.w = .ok (kv k) C.w := by
    unfold Instr.keyThatStays
    rw [kl.bits k]
    rfl
   have hsame : (es.modify (posM k m) fun e => { e with key := kv k, val := ρv vx }) = (es.modify (posM k m) fun e => { e with val := ρv vx }) := by
    apply Array.ext'
    rw [Array.toList_modify, Array.toList_modify]
    have : ∀ (l : List MapEntry) (i : Nat), (∀ e, l[i]? = some e → e.key = kv k) → (l.modify i fun e => { e with key := kv k, val := ρv vx }) = (l.modify i fun e => { e with val := ρv vx }) := by
     intro l
     induction l with
     | nil => intro i _; cases i <;> rfl
     | cons a l ih =>
      intro i h
      cases i with
      | zero =>
       have := h a rfl
       show ({ a with key := kv k, val := ρv vx } :: l : List MapEntry) = { a with val := ρv vx } :: l
       rw [← this]
      | succ i => exact congrArg (a :: ·) (ih i (fun e he => h e (by simpa using he)))
    exact this _ _ (fun e he' => by rw [he] at he'; injection he' with he'; rw [← he']; exact hek)
   obtain ⟨st, HH⟩ := obj_upd H g1 hb (.map (es.modify (posM k m) fun e => { e with val := ρv vx }) clock) (.vals q0.kd (mapAV ek ev_ (putM k v m))) (fun C' hm hb' => by
    refine ⟨_, _, hb', mrel_to (es := (es.modify (posM k m) fun e => { e with val := ρv vx }).toList) ?_, vk_mod g5 (fun _ => rfl)⟩
    rw [hput, Array.toList_modify]
    exact MRel.setv (f := fun e => { e with val := ρv vx }) (v := v) (fun _ => rfl) (fun _ => (VRel1.plain (Under.toFlat C) hp hvv).mono hm) _ (hM.mono hm))
   refine ⟨_, st, by simpa [meO, muK] using HH, .inr ⟨?_, rfl⟩⟩
   simp only [execOp, Instr.mapUpdate, Sem.run_bind, run_underlying hu, Result.andThen_ok, g2', hkv, hgo, Sem.run_pure, hck, hf, Option.map_some, hes, Option.getD_some, hek, hkeep, hsame, set_map _ g3]
 ·cases hq
theorem LQ.mu (ev_ : V → AV) (kl : KL P S kt ek kv) (m : List (K × V)) (k : K) (v : V) (hp : plainA (ev_ v) = true := by kernel_rfl) (e : muA (muE P n ops i t h) = some (kt, mapK, true, mapAV ek ev_ m, ek k, ev_ v) := by kernel_rfl) :
  LSpec P S n ops i .loud t h .u (h.set (meO (muE P n ops i t h)) (.vals (muK (muE P n ops i t h)) (mapAV ek ev_ (putM k v m)))) := LSpec.mu kl hp e
end
section
variable {s : Option DS} {K V : Type} [DecidableEq K] {kt : TypeId} {ek : K → AV} {kv : K → Value}
theorem DX.mu (L : List Nat) (ev_ : V → AV) (kl : KL P G.S kt ek kv) (m : List (K × V)) (k : K) (v : V) (D : DX P G F c0 R (updE F L .loud (fun _ => .u) (fun d => d.r.h.set (meO (muE P F.n (d.ops F) d.r.i d.r.t d.r.h)) (.vals (muK (muE P F.n (d.ops F) d.r.i d.r.t d.r.h)) (mapAV ek ev_ (putM k v m)))) s)) (hp : plainA (ev_ v) = true := by kernel_rfl) (e : muA (muE P F.n (dO F s) (dI s) (dT s) (dH s)) = some (kt, mapK, true, mapAV ek ev_ m, ek k, ev_ v) := by kernel_rfl) : DX P G F c0 R s := DX.opF L (LSpec.mu kl hp e) D
end
end Go.Sh
namespace Go.Sh
variable {P : Program} {G : Tab} {F : Fn} {c0 : Ctx} {R : Ending → World → Prop} {S : Sizes}
section
variable {n : Nat} {ops : Array Oper} {i : Nat} {t : Tmps} {h : List AO}
end
section
variable {n : Nat} {ops : Array Oper} {i : Nat} {t : Tmps} {h : List AO}
end
section
variable {s : Option DS}
end
end Go.Sh
namespace Go.Sh
variable {P : Program} {G : Tab} {F : Fn} {c0 : Ctx} {R : Ending → World → Prop} {S : Sizes}
section
variable {n : Nat} {ops : Array Oper} {i : Nat} {t : Tmps} {h : List AO} {K V : Type} [DecidableEq K] {kt : TypeId} {ek : K → AV} {kv : K → Value} {ev_ : V → AV}
def delE (P : Program) (n : Nat) (ops : Array Oper) (i : Nat) (t : Tmps) (h : List AO) : Option (MQ × AV) :=
 match opAt n ops i t with
 | some (.call { callee := .builtin .delete, args := xs, argTypes := ts }) =>
  match xs.toList, ts.toList with
  | [x, k], mt :: _ => (mqOf P mt (ev t x) h).map fun q => (q, ev t k)
  | _, _ => none
 | _ => none
def delO (q : Option (MQ × AV)) : Nat := match q with | some q => q.1.o | none => 0
theorem LSpec.del (kl : KL P S kt ek kv) (m : List (K × V)) (k : K) (e : (delE P n ops i t h).map (fun q => (q.1.kt, q.1.K, q.1.kd, q.1.as, q.2)) = some (kt, mapK, .map, mapAV ek ev_ m, ek k)) :
  LSpec P S n ops i .loud t h .u (h.set (delO (delE P n ops i t h)) (.vals .map (mapAV ek ev_ (delM k m)))) := by
 generalize hq : delE P n ops i t h = qq at *
 obtain ⟨q, hq', e0⟩ := Option.map_eq_some_iff.1 e
 subst hq'
 clear e
 unfold delE at hq
 split at hq
 ·rename_i xs ts hop
  split at hq
  ·rename_i x kx mt mts hxs hts
   obtain ⟨q0, hmq, hq⟩ := Option.map_eq_some_iff.1 hq
   subst hq
   obtain ⟨hu, hx, ho, hmt⟩ := mqOf_inv hmq
   simp only [Prod.mk.injEq] at e0
   obtain ⟨e1, e2, e3, e4, e5⟩ := e0
   refine (opAt_spec hop).spec (fun hh => absurd rfl hh) fun q ρv C h2 hop' H hh hρ => ?_
   have hh := hh (by simp)
   subst hh
   have hxs' : xs = #[x, kx] := by rw [← Array.toArray_toList (xs := xs), hxs]
   have hts' : ts = (mt :: mts).toArray := by rw [← Array.toArray_toList (xs := ts), hts]
   subst hxs'; subst hts'
   have hxv := hρ x (by simp [Op.operands, Call.operands])
   have hkv := hρ kx (by simp [Op.operands, Call.operands])
   rw [hx] at hxv
   rw [e5] at hkv
   have hkv := kl.det (VRel.to1 (kl.notup k) hkv)
   obtain ⟨b, ob, vs, g1, g2, g3, g4, g5⟩ := ref_obj H hxv ho
   rw [e2] at g2
   rw [e4] at g4
   rw [e3] at g5
   obtain ⟨es, clock, rfl, rfl, gb, gn⟩ := g5
   have hb : b < C.w.heap.size := (Array.getElem?_eq_some_iff.1 g3).1
   have hM := mrel_of g4
   have hf := find_run kl k C.w hM
   have g2' : ρv x = .map (some b) := g2
   obtain ⟨dst, op, oty, pos, after, guard⟩ := q
   dsimp only at hop'
   subst hop'
   have hgo := get_map (P := P) g3
   have hck := kl.check es.isEmpty k C.w
   obtain ⟨st, HH⟩ := obj_upd H g1 hb (.map (es.eraseIdxIfInBounds (posM k m)) clock) (.vals .map (mapAV ek ev_ (delM k m))) (fun C' hm hb' => by
    refine ⟨_, _, hb', mrel_to (es := (es.eraseIdxIfInBounds (posM k m)).toList) ?_, vk_erase ⟨es, clock, rfl, rfl, gb, gn⟩⟩
    have : (es.eraseIdxIfInBounds (posM k m)).toList = es.toList.eraseIdx (posM k m) := by
     rw [Array.eraseIdxIfInBounds]
     split
     ·rw [Array.toList_eraseIdx]
     ·rename_i hlt
      rw [List.eraseIdx_of_length_le (by rw [Array.length_toList]; omega)]
    rw [this]
    exact MRel.erase _ (hM.mono hm))
   refine ⟨_, st, by simpa [delO] using HH, .inl ⟨.tuple #[], ?_, trivial⟩⟩
   have hrun : (Builtin.delete_ (mt :: mts).toArray oty #[.map (some b), kv k]).run P C.w = .ok (.tuple #[]) { C.w with heap := C.w.heap.setIfInBounds b (.map (es.eraseIdxIfInBounds (posM k m)) clock) } := by
    unfold Builtin.delete_
    have h0 : (mt :: mts).toArray[0]? = some mt := rfl
    have h1 : (#[.map (some b), kv k] : Array Value)[0]? = some (.map (some b)) := rfl
    have h2 : (#[.map (some b), kv k] : Array Value)[1]? = some (kv k) := rfl
    rw [← hmt] at h0 ⊢
    rw [e1] at hu
    rw [h0, h1, h2]
    simp only [Sem.run_bind, run_underlying (hmt ▸ hu), Result.andThen_ok, hgo, hck, hf]
    cases he : es.toList[posM k m]? with
    | some e0 => simp only [Option.map_some, Sem.run_bind, set_map _ g3, Result.andThen_ok, Sem.run_pure]
    | none =>
     have hsz : ¬ posM k m < es.size := by
      rw [List.getElem?_eq_none_iff, Array.length_toList] at he
      omega
     have : es.eraseIdxIfInBounds (posM k m) = es := by rw [Array.eraseIdxIfInBounds, dif_neg hsz]
     rw [this]
     simp only [Option.map_none, Sem.run_bind, set_map _ g3, Result.andThen_ok, Sem.run_pure]
   simp [execOp, resolve, invoke, builtin]
   rw [g2', hkv, hrun]
   simp
  ·cases hq
 ·cases hq
end
section
variable {s : Option DS} {K V : Type} [DecidableEq K] {kt : TypeId} {ek : K → AV} {kv : K → Value}
theorem DX.del (L : List Nat) (ev_ : V → AV) (kl : KL P G.S kt ek kv) (m : List (K × V)) (k : K) (D : DX P G F c0 R (updE F L .loud (fun _ => .u) (fun d => d.r.h.set (delO (delE P F.n (d.ops F) d.r.i d.r.t d.r.h)) (.vals .map (mapAV ek ev_ (delM k m)))) s)) (e : (delE P F.n (dO F s) (dI s) (dT s) (dH s)).map (fun q => (q.1.kt, q.1.K, q.1.kd, q.1.as, q.2)) = some (kt, mapK, .map, mapAV ek ev_ m, ek k) := by kernel_rfl) : DX P G F c0 R s := DX.opF L (LSpec.del kl m k e) D
end
end Go.Sh
namespace Go.Sh
variable {P : Program} {G : Tab} {F : Fn} {c0 : Ctx} {R : Ending → World → Prop} {S : Sizes}
theorem StepW.monoF {C C' : Ctx} (h : StepW C C') : Mono C.flat C'.flat :=
 ⟨h.size, fun b hb ho => h.block b hb ((C.flat_ok b).1 ho).2, fun b hb ho => (C'.flat_ok b).2 (h.ok b hb ((C.flat_ok b).1 ho)), fun o s hs => by simp [Ctx.flat] at hs⟩
theorem AR.first {p : List Nat} {k : List PI} {id : Nat} {ops : Array Oper} {o : Oper} (hc : codeAt F.B p = .region id ops false) (ho : ops[0]? = some o) (hg : o.guard = none) (hdst : dstOk F.n o.dst = true) {t : Tmps} {h : List AO}
  (hop : ∀ (C : Ctx) (a : Act), StepW c0 C → ARel G.S C t h F.n a → ∃ (v : Value) (C' : Ctx) (r : AV) (h' : List AO), Step C C' ∧ VRel G.S C' r v ∧ HRel G.S C' h' ∧ (execOp a.eval o).run P C.w = .ok (.value v) C'.w ∧ DW P G.S F.n ops (Fin P G F c0 R ops false k) 1 [.loud] (setT t o.dst r) h') : AR P G F c0 R (.code p :: k) t h := by
 intro C a st A
 simp only [List.map_cons, PI.dec, hc]
 refine Reach.of_wp (wp_region ?_)
 obtain ⟨v, C', r, h', s1, hv, hH, hr, D⟩ := hop C a st A
 have hsz : 0 < ops.size := (Array.getElem?_eq_some_iff.1 ho).1
 have hl : List.range ops.size = 0 :: (List.range ops.size).drop 1 := by
  obtain ⟨m, hm⟩ : ∃ m, ops.size = m + 1 := ⟨ops.size - 1, by omega⟩
  rw [hm, List.range_succ_eq_map]
  rfl
 have A2 : ARelF G.S C' (tset (lk t) o.dst r) h' F.n (a.put o.dst v) := A.toF.put s1 hH (fun d hd => by rw [hd] at hdst; simpa [dstOk] using hdst) hv
 have A3 : ARel G.S C' (setT t o.dst r) h' F.n (a.put o.dst v) := ⟨A2.defers, A2.size, fun i => by have := A2.tmps i; rw [lk_setT']; exact this, A2.heap⟩
 have := D.lex (fun e a' w' => e = .normal ∧ Reach P F.f (k.map (PI.dec F.B)) a' w' R) C' _ A3 (fun ks t h C2 a2 st2 hf A' => ⟨rfl, hf.2 C2 a2 ((st.trans s1).trans st2) A'⟩)
 rw [hl, wpOps_cons, wpOp, ho]
 dsimp only
 rw [if_pos (by simp [Region.wanted, hg])]
 refine .inl ?_
 unfold Oper.wp
 rw [hr]
 exact this
structure FQ where
 p : List Nat
 k : List PI
 id : Nat
 ops : Array Oper
 o : Oper
def fQ (F : Fn) (s : Option Cfg) : Option FQ :=
 match s with
 | some c =>
  match c.k with
  | .code p :: k =>
   match codeAt F.B p with
   | .region id ops false =>
    match ops[0]? with
    | some o => match o.guard with | none => if dstOk F.n o.dst then some ⟨p, k, id, ops, o⟩ else none | some _ => none
    | none => none
   | _ => none
  | _ => none
 | none => none
theorem fQ_inv {s : Option Cfg} {q : FQ} (e : fQ F s = some q) : ∃ t h, s = some ⟨.code q.p :: q.k, t, h⟩ ∧ codeAt F.B q.p = .region q.id q.ops false ∧ q.ops[0]? = some q.o ∧ q.o.guard = none ∧ dstOk F.n q.o.dst = true := by
 unfold fQ at e
 split at e
 ·rename_i c
  split at e
  ·rename_i p k hk
   split at e
   ·rename_i id ops hc
    split at e
    ·rename_i o ho
     split at e
     ·rename_i hg
      split at e
      ·rename_i hd
       injection e with e
       subst e
       exact ⟨c.t, c.h, by rw [← hk], hc, ho, hg, hd⟩
      ·cases e
     ·cases e
    ·cases e
   ·cases e
  ·cases e
 ·cases e
def frE (F : Fn) (r : AV) (f : List AO → List AO) (s : Option Cfg) : Option DS :=
 match s with
 | some c => match fQ F (some c) with | some q => mkD q.p q.k 1 [.loud] (setT c.t q.o.dst r) (f c.h) | none => none
 | none => none
theorem AX.first {s : Option Cfg} {q : FQ} (e : fQ F s = some q)
  (hop : ∀ (t : Tmps) (h : List AO), s = some ⟨.code q.p :: q.k, t, h⟩ → ∀ (C : Ctx) (a : Act), StepW c0 C → ARel G.S C t h F.n a → ∃ (v : Value) (C' : Ctx) (r : AV) (f : List AO → List AO), Step C C' ∧ VRel G.S C' r v ∧ HRel G.S C' (f h) ∧ (execOp a.eval q.o).run P C.w = .ok (.value v) C'.w ∧ DX P G F c0 R (frE F r f s)) : AX P G F c0 R s := by
 obtain ⟨t, h, rfl, hc, ho, hg, hd⟩ := fQ_inv e
 refine .of (AR.first hc ho hg hd fun C a st A => ?_)
 obtain ⟨v, C', r, f, h1, h2, h3, h4, D⟩ := hop t h rfl C a st A
 refine ⟨v, C', r, f h, h1, h2, h3, h4, ?_⟩
 simp only [frE, e, mkD_eq] at D
 obtain ⟨d, hd', D⟩ := D
 injection hd' with hd'
 subst hd'
 have hdraw : drawOf (codeAt F.B q.p) = false := by rw [hc]; rfl
 have hops : ∀ r, (DS.ops F ⟨q.p, q.k, r⟩) = q.ops := by intro r; simp [DS.ops, opsOf, hc]
 rw [FinD, hdraw, hops] at D
 exact D
def mapFix (bm : Nat) (es : Array MapEntry) (clock : Nat) : Nat → Obj → Prop := fun b ob => b = bm ∧ ob = .map es clock
def iterFix (bm clock : Nat) (seen : Array Nat) : Nat → Obj → Prop := fun _ ob => ob = .mapIter (some bm) clock seen clock
def iterK (b : Nat) : Value := .pointer (some ⟨b, 0, none⟩)
structure MapAt (S : Sizes) (c1 : Ctx) {K V : Type} (ek : K → AV) (ev_ : V → AV) (m : List (K × V)) (o bm : Nat) (es : Array MapEntry) (clock : Nat) : Prop where
 rel : MRel S c1.flat ek ev_ m es.toList
 old : ∀ e ∈ es.toList, e.born < clock
 nd : (es.toList.map (·.born)).Nodup
theorem Rp_trans {c1 : Ctx} (h : StepW c0 c1) {r : AV} {h' : List AO} {e : Ending} {w : World} (k : Rp S c1 r h' e w) : Rp S c0 r h' e w := by
 obtain ⟨v, C', h1, h2, h3, h4⟩ := k
 exact ⟨v, C', h1, h2, h.transW h3, h4⟩
theorem Reach.weaken {f : FuncId} {k : List Item} {a : Act} {w : World} {R R' : Ending → World → Prop} (h : Reach P f k a w R) (hh : ∀ e w, R e w → R' e w) : Reach P f k a w R' := by
 intro cs
 obtain ⟨e, w', fr, h1, h2⟩ := h cs
 exact ⟨e, w', fr, hh e w' h1, h2⟩
theorem HRel.any {C : Ctx} {h : List AO} (H : HRel S C h) {o b : Nat} (hm : C.m[o]? = some (.blk b)) {ao : AO} (hr : ORel S C ao (.blk b)) : HRel S C (h.set o ao) := by
 refine ⟨by rw [List.length_set]; exact H.len, fun o' ob s h1 h2 => ?_, H.inj, H.nX, H.Xlt⟩
 rw [List.getElem?_set] at h1
 split at h1
 ·rename_i e
  subst e
  split at h1
  ·injection h1 with h1
   subst h1
   rw [hm] at h2
   injection h2 with h2
   subst h2
   exact hr
  ·cases h1
 ·exact H.rel o' ob s h1 h2
def fxE (o : Nat) (ao : AO) (s : Option Cfg) : Option Cfg := match s with | some c => mkC c.k c.t (c.h.set o ao) | none => none
def hpE (s : Option Cfg) : List AO := match s with | some c => c.h | none => []
theorem AX.fix {r : AV} {h' : List AO} {K V : Type} (ek : K → AV) (ev_ : V → AV) (m : List (K × V)) (o n0 : Nat) {s : Option Cfg} (hc0 : c0.m.length = n0)
  (k : ∀ (c1 : Ctx) (bm : Nat) (es : Array MapEntry) (clock : Nat), c1.m.length = n0 → MapAt G.S c1 ek ev_ m o bm es clock → AX P G F c1 (Rp G.S c1 r h') (fxE o (.any (mapFix bm es clock)) s))
  (e : (hpE s)[o]? = some (.vals .map (mapAV ek ev_ m)) := by kernel_rfl) (el : (hpE s).length = n0 := by kernel_rfl) : AX P G F c0 (Rp G.S c0 r h') s := by
 cases s with
 | none => cases e
 | some c =>
  refine .of ?_
  intro C a st A
  have hlen : C.m.length = n0 := by rw [A.heap.len]; exact el
  have ho : o < C.m.length := by
   have := (List.getElem?_eq_some_iff.1 e).1
   rw [A.heap.len]
   exact this
  have hrel := A.heap.rel o _ _ e (List.getElem?_eq_getElem ho)
  cases hs : C.m[o] with
  | gone => rw [hs] at hrel; exact hrel.elim
  | row v kk mn => rw [hs] at hrel; exact hrel.elim
  | blk bm =>
   rw [hs] at hrel
   obtain ⟨ob, vs, g1, g2, es, clock, rfl, rfl, g3, g4⟩ := hrel
   have hm : C.m[o]? = some (.blk bm) := by rw [List.getElem?_eq_getElem ho, hs]
   obtain ⟨c', hc', D⟩ := k C bm es clock hlen ⟨mrel_of g2, g3, g4⟩
   simp only [fxE, mkC_eq] at hc'
   injection hc' with hc'
   subst hc'
   have := D C a (StepW.refl C) ⟨A.defers, A.size, A.tmps, A.heap.any hm ⟨_, g1, rfl, rfl⟩⟩
   exact this.weaken fun e w h => Rp_trans st h
theorem AX.unfix {K V : Type} (ek : K → AV) (ev_ : V → AV) (m : List (K × V)) (o : Nat) {bm : Nat} {es : Array MapEntry} {clock : Nat} {s : Option Cfg} (M : MapAt G.S c0 ek ev_ m o bm es clock)
  (k : AX P G F c0 R (fxE o (.vals .map (mapAV ek ev_ m)) s)) (e : (hpE s)[o]? = some (.any (mapFix bm es clock)) := by kernel_rfl) : AX P G F c0 R s := by
 cases s with
 | none => cases e
 | some c =>
  refine .of ?_
  intro C a st A
  have ho : o < C.m.length := by
   have := (List.getElem?_eq_some_iff.1 e).1
   rw [A.heap.len]
   exact this
  have hrel := A.heap.rel o _ _ e (List.getElem?_eq_getElem ho)
  cases hs : C.m[o] with
  | gone => rw [hs] at hrel; exact hrel.elim
  | row v kk mn => rw [hs] at hrel; exact hrel.elim
  | blk b =>
   rw [hs] at hrel
   obtain ⟨ob, g1, rfl, rfl⟩ := hrel
   have hm : C.m[o]? = some (.blk b) := by rw [List.getElem?_eq_getElem ho, hs]
   obtain ⟨c', hc', D⟩ := k
   simp only [fxE, mkC_eq] at hc'
   injection hc' with hc'
   subst hc'
   exact D C a st ⟨A.defers, A.size, A.tmps, A.heap.any hm ⟨_, _, g1, mrel_to (M.rel.mono st.monoF), es, clock, rfl, rfl, M.old, M.nd⟩⟩
theorem any_obj {C : Ctx} {h : List AO} (H : HRel S C h) {K : Nat → Value} {o : Nat} {φ : Nat → Obj → Prop} {v : Value} (hv : VRel S C (.ref K o) v) (ho : h[o]? = some (.any φ)) : ∃ b ob, C.m[o]? = some (.blk b) ∧ v = K b ∧ C.w.heap[b]? = some ob ∧ φ b ob := by
 obtain ⟨b, h1, h2⟩ := ref_inv hv
 obtain ⟨ob, h3, h4⟩ := H.rel o _ _ ho h1
 exact ⟨b, ob, h1, h2, h3, h4⟩
theorem any_at {C : Ctx} {h : List AO} (H : HRel S C h) {o : Nat} {φ : Nat → Obj → Prop} (ho : h[o]? = some (.any φ)) : ∃ b ob, C.m[o]? = some (.blk b) ∧ C.w.heap[b]? = some ob ∧ φ b ob := by
 have hl : o < C.m.length := by rw [H.len]; exact (List.getElem?_eq_some_iff.1 ho).1
 have hrel := H.rel o _ _ ho (List.getElem?_eq_getElem hl)
 cases hs : C.m[o] with
 | gone => rw [hs] at hrel; exact hrel.elim
 | row v kk mn => rw [hs] at hrel; exact hrel.elim
 | blk b =>
  rw [hs] at hrel
  obtain ⟨ob, g1, g2⟩ := hrel
  exact ⟨b, ob, by rw [List.getElem?_eq_getElem hl, hs], g1, g2⟩
section
variable {n : Nat} {ops : Array Oper} {i : Nat} {t : Tmps} {h : List AO}
def rngE (P : Program) (n : Nat) (ops : Array Oper) (i : Nat) (t : Tmps) (h : List AO) : Option ((Nat → Value) × Option AO) :=
 match opAt n ops i t with
 | some (.range mt x) =>
  match P.underlying mt, ev t x with
  | some (.map _ _), .ref K o => some (K, h[o]?)
  | _, _ => none
 | _ => none
theorem LSpec.rg (bm : Nat) (es : Array MapEntry) (clock : Nat) (e : rngE P n ops i t h = some (mapK, some (.any (mapFix bm es clock)))) : LSpec P S n ops i .loud t h (.ref iterK h.length) (h ++ [.any (iterFix bm clock #[])]) := by
 unfold rngE at e
 split at e
 ·rename_i mt x hop
  split at e
  ·rename_i kt et K o hu hx
   injection e with e
   injection e with e1 e2
   refine (opAt_spec hop).spec (fun hh => absurd rfl hh) fun q ρv C h2 hop' H hh hρ => ?_
   have hh := hh (by simp)
   subst hh
   have hxv := hρ x (by simp [Op.operands])
   rw [hx] at hxv
   obtain ⟨b, ob, g1, g2, g3, rfl, rfl⟩ := any_obj H hxv e2
   rw [e1] at g2
   have g2' : ρv x = .map (some b) := g2
   obtain ⟨dst, op, oty, pos, after, guard⟩ := q
   dsimp only at hop'
   subst hop'
   obtain ⟨st, HH⟩ := new_obj H (.mapIter (some b) clock #[] clock) (.any (iterFix b clock #[])) (fun C' _ hb => ⟨_, hb, rfl⟩)
   refine ⟨_, st, by simpa using HH, .inl ⟨.pointer (some ⟨C.w.heap.size, 0, none⟩), ?_, new_ref H _ iterK rfl⟩⟩
   have hrun := run_range_map (P := P) C.w mt kt et b es clock hu g3
   simp only [execOp, g2']
   simp [hrun]
  ·cases e
 ·cases e
end
section
variable {s : Option DS}
theorem DX.rg (L : List Nat) (bm : Nat) (es : Array MapEntry) (clock : Nat) (D : DX P G F c0 R (updE F L .loud (fun d => .ref iterK d.r.h.length) (fun d => d.r.h ++ [.any (iterFix bm clock #[])]) s)) (e : rngE P F.n (dO F s) (dI s) (dT s) (dH s) = some (mapK, some (.any (mapFix bm es clock))) := by kernel_rfl) : DX P G F c0 R s := DX.opF L (LSpec.rg bm es clock e) D
end
def nxQ (F : Fn) (o : Nat) (s : Option Cfg) : Option ((Nat → Value) × Option AO × Option AO) :=
 match fQ F s, s with
 | some q, some c => match q.o.op with | .next x false => (match ev c.t x with | .ref K j => some (K, c.h[j]?, c.h[o]?) | _ => none) | _ => none
 | _, _ => none
def nxJ (F : Fn) (s : Option Cfg) : Nat :=
 match fQ F s, s with
 | some q, some c => match q.o.op with | .next x false => (match ev c.t x with | .ref K j => j | _ => 0) | .entry x => (match ev c.t x with | .ref K j => j | _ => 0) | _ => 0
 | _, _ => 0
theorem AX.nx (o : Nat) {bm : Nat} {es : Array MapEntry} {clock : Nat} {seen : Array Nat} {s : Option Cfg} (old : ∀ e ∈ es.toList, e.born < clock)
  (D0 : (∀ e ∈ es.toList, seen.contains e.born = true) → DX P G F c0 R (frE F (.tup [.sc (.bool false)]) (fun h => h) s))
  (D1 : ∀ e ∈ es.toList, seen.contains e.born = false → DX P G F c0 R (frE F (.tup [.sc (.bool true), .u, .u]) (fun h => h.set (nxJ F s) (.any (iterFix bm clock (seen.push e.born)))) s))
  (e : nxQ F o s = some (iterK, some (.any (iterFix bm clock seen)), some (.any (mapFix bm es clock))) := by kernel_rfl) : AX P G F c0 R s := by
 unfold nxQ at e
 split at e
 ·rename_i q c hq
  split at e
  ·rename_i x hop
   split at e
   ·rename_i K j hx
    injection e with e
    simp only [Prod.mk.injEq] at e
    obtain ⟨e1, e2, e3⟩ := e
    refine AX.first hq fun t h hs C a st A => ?_
    injection hs with hs
    subst hs
    dsimp only at hx e2 e3
    have hj : nxJ F (some ⟨.code q.p :: q.k, t, h⟩) = j := by
     unfold nxJ
     rw [hq]
     dsimp only
     rw [hop]
     dsimp only
     rw [hx]
    have hxv := A.ev x
    rw [hx] at hxv
    obtain ⟨r, ob, g1, g2, g3, rfl⟩ := any_obj A.heap hxv e2
    rw [e1] at g2
    obtain ⟨b, ob, k1, k2, rfl, rfl⟩ := any_at A.heap e3
    have g2' : a.eval x = .pointer (some ⟨r, 0, none⟩) := g2
    have hrb : r < C.w.heap.size := (Array.getElem?_eq_some_iff.1 g3).1
    have hex : ∀ w', ∀ v, (Instr.next (.pointer (some ⟨r, 0, none⟩)) false q.o.type).run P C.w = .ok v w' → (execOp a.eval q.o).run P C.w = .ok (.value v) w' := by
     intro w' v hr
     generalize q.o = qo at *
     obtain ⟨dst, op, oty, pos, after, guard⟩ := qo
     dsimp only at hop hr
     subst hop
     simp only [execOp, g2']
     simp [hr]
    rcases run_next_at (P := P) C.w q.o.type r b clock clock seen es clock g3 k2 old (Nat.le_refl _) with ⟨h0, hr⟩ | ⟨en, hen, w1, hw1, hr⟩
    ·exact ⟨_, C, .tup [.sc (.bool false)], _, Step.refl C, ⟨#[.bool false], rfl, .cons ⟨rfl, rfl⟩ .nil⟩, A.heap, hex _ _ hr, D0 (all_seen es seen h0)⟩
    ·have hml := mem_left hen
     have D := D1 en hml.1 hml.2
     rw [hj] at D
     have hk : Step C ⟨w1, C.m, C.X⟩ ∧ HRel G.S ⟨w1, C.m, C.X⟩ h ∧ w1.heap = C.w.heap := by
      rcases hw1 with rfl | rfl
      ·exact ⟨Step.refl C, A.heap, rfl⟩
      ·exact ⟨(drew_kept C).toStep, A.heap.kept (drew_kept C), rfl⟩
     obtain ⟨k3, k4, k5⟩ := hk
     obtain ⟨st2, HH⟩ := obj_upd (C := ⟨w1, C.m, C.X⟩) k4 g1 (by show r < w1.heap.size; rw [k5]; exact hrb) (.mapIter (some b) clock (seen.push en.born) clock) (.any (iterFix b clock (seen.push en.born))) (fun C' _ hb => ⟨_, hb, rfl⟩)
     refine ⟨_, _, .tup [.sc (.bool true), .u, .u], _, k3.trans st2, ⟨#[.bool true, en.key, en.val], rfl, .cons ⟨rfl, rfl⟩ (.cons trivial (.cons trivial .nil))⟩, HH, hex _ _ ?_, D⟩
     exact hr
   ·cases e
  ·cases e
 ·cases e
def enQ (F : Fn) (o : Nat) (s : Option Cfg) : Option ((Nat → Value) × Option AO × Option AO) :=
 match fQ F s, s with
 | some q, some c => match q.o.op with | .entry x => (match ev c.t x with | .ref K j => some (K, c.h[j]?, c.h[o]?) | _ => none) | _ => none
 | _, _ => none
theorem AX.en {K V : Type} (ek : K → AV) (ev_ : V → AV) (m : List (K × V)) (o : Nat) {bm : Nat} {es : Array MapEntry} {clock : Nat} {seen : Array Nat} {s : Option Cfg} (M : MapAt G.S c0 ek ev_ m o bm es clock) {en : MapEntry} (hen : en ∈ es.toList) (hk : ∀ k vs, ek k ≠ .tup vs) (hv : ∀ v vs, ev_ v ≠ .tup vs)
  (D : ∀ p ∈ m, (∃ i : Nat, es.toList[i]? = some en ∧ m[i]? = some p) → DX P G F c0 R (frE F (.tup [ek p.1, ev_ p.2]) (fun h => h) s))
  (e : enQ F o s = some (iterK, some (.any (iterFix bm clock (seen.push en.born))), some (.any (mapFix bm es clock))) := by kernel_rfl) : AX P G F c0 R s := by
 unfold enQ at e
 split at e
 ·rename_i q c hq
  split at e
  ·rename_i x hop
   split at e
   ·rename_i K j hx
    injection e with e
    simp only [Prod.mk.injEq] at e
    obtain ⟨e1, e2, e3⟩ := e
    refine AX.first hq fun t h hs C a st A => ?_
    injection hs with hs
    subst hs
    dsimp only at hx e2 e3
    have hxv := A.ev x
    rw [hx] at hxv
    obtain ⟨r, ob, g1, g2, g3, rfl⟩ := any_obj A.heap hxv e2
    rw [e1] at g2
    obtain ⟨b, ob, k1, k2, rfl, rfl⟩ := any_at A.heap e3
    have g2' : a.eval x = .pointer (some ⟨r, 0, none⟩) := g2
    obtain ⟨i, hi⟩ := List.mem_iff_getElem?.1 hen
    obtain ⟨p, hp, r1, r2⟩ := M.rel.get i en hi
    have hr := run_entry_at (P := P) C.w r b clock seen es clock en g3 k2 hen M.nd
    have mono : Mono c0.flat C := ⟨st.monoF.size, fun bb hb ho => st.monoF.block bb hb ho, fun bb hb ho => (C.flat_ok bb).1 (st.monoF.ok bb hb ho), fun o s hs => by simp [Ctx.flat] at hs⟩
    refine ⟨_, C, .tup [ek p.1, ev_ p.2], _, Step.refl C, ⟨#[en.key, en.val], rfl, .cons (r1.mono mono) (.cons (r2.mono mono) .nil)⟩, A.heap, ?_, D p (List.mem_iff_getElem?.2 ⟨i, hp⟩) ⟨i, hi, hp⟩⟩
    generalize q.o = qo at *
    obtain ⟨dst, op, oty, pos, after, guard⟩ := qo
    dsimp only at hop
    subst hop
    simp only [execOp, g2']
    simp [hr]
   ·cases e
  ·cases e
 ·cases e
section
variable {n : Nat} {ops : Array Oper} {i : Nat} {t : Tmps} {h : List AO}
theorem LSpec.mmM (e : (match opAt n ops i t with | some (.makeMap _ none) => true | _ => false) = true := by kernel_rfl) : LSpec P S n ops i .loud t h (.ref mapK h.length) (h ++ [.vals .map []]) := by
 split at e
 ·rename_i ty hop
  refine (opAt_spec hop).spec (fun hh => absurd rfl hh) fun o ρv C h2 hop' H hh hρ => ?_
  have hh := hh (by simp)
  subst hh
  obtain ⟨st, HH⟩ := new_obj H (.map #[] 0) (.vals .map []) (fun C' _ hb => ⟨_, [], hb, .nil, ⟨#[], 0, rfl, rfl, (fun e he => by simp at he), by simp⟩⟩)
  refine ⟨_, st, by simpa using HH, .inl ⟨.map (some C.w.heap.size), ?_, new_ref H _ mapK rfl⟩⟩
  have hrun : (Instr.makeMap ty none).run P C.w = .ok (.map (some C.w.heap.size)) (C.w.alloc (.map #[] 0)) := rfl
  obtain ⟨dst, op, oty, pos, after, guard⟩ := o
  dsimp only at hop'
  subst hop'
  simp [execOp, hrun]
 ·cases e
end
theorem DX.mkM {s : Option DS} (L : List Nat) (D : DX P G F c0 R (updE F L .loud (fun d => .ref mapK d.r.h.length) (fun d => d.r.h ++ [.vals .map []]) s)) (e : (match opAt F.n (dO F s) (dI s) (dT s) with | some (.makeMap _ none) => true | _ => false) = true := by kernel_rfl) : DX P G F c0 R s := DX.opF L (LSpec.mmM e) D
end Go.Sh
namespace Go.Sh
variable {P : Program} {G : Tab}
def rowA (G : Tab) (e : TypeId) (gs : List AV) : AV := if (G.kind e).isAgg then mkAgg gs else gs.headD .u
inductive Shaped (G : Tab) : TypeId → List AV → Prop
 | int {t : TypeId} {k : IntKind} {n : Int} : G.kind t = .int k → (Lit.int k n).wf = true → Shaped G t [.sc (.int k n)]
 | bool {t : TypeId} {b : Bool} : G.kind t = .bool → Shaped G t [.sc (.bool b)]
 | str {t : TypeId} {s : ByteArray} : G.kind t = .str → s.size ≤ maxLen → Shaped G t [.sc (.string s)]
 | struct {t : TypeId} {fl : List (Nat × TypeId)} {gss : List (List AV)} : G.kind t = .struct fl → gss.length = fl.length → (∀ (i : Nat) (f : Nat × TypeId) (gs : List AV), fl[i]? = some f → gss[i]? = some gs → Shaped G f.2 gs) → Shaped G t gss.flatten
 | arr {t e : TypeId} {k : IntKind} {n : Nat} {xs : List Int} : G.kind t = .arr n e → G.kind e = .int k → xs.length = n → (∀ x ∈ xs, (Lit.int k x).wf = true) → Shaped G t [.arr k n xs]
 | slice {t e : TypeId} {gss : List (List AV)} : G.kind t = .slice e → (∀ gs ∈ gss, Shaped G e gs) → Shaped G t [.sl e (gss.map (rowA G e)) false]
def contigF (G : Tab) (R : TypeId → Bool) : List (Nat × TypeId) → Nat → Option Nat
 | [], off => some off
 | f :: fs, off => if f.1 = off ∧ R f.2 = true then contigF G R fs (off + (G.S f.2).1) else none
def tabR (G : Tab) : Nat → TypeId → Bool
 | 0, _ => false
 | m + 1, t =>
  match G.get t with
  | none => false
  | some i =>
   match i.kind with
   | .int _ => true
   | .bool => true
   | .str => true
   | .struct fl => decide (contigF G (tabR G m) fl 0 = some i.size)
   | .arr n e => (match G.kind e with | .int _ => true | _ => false) && decide ((G.S e).1 = 1) && decide (i.size = n)
   | .slice e => tabR G m e && decide (0 < (G.S e).1)
   | _ => false
def noC (W : World) : Ctx := ⟨W, [], fun _ => False⟩
theorem noC_ok (W : World) (b : Nat) : (noC W).ok b := ⟨id, by simp [noC]⟩
theorem cells_spec {w : World} {base : Nat} {a : Addr} {n : Nat} {cs : List Value} (h : w.cells? base a n = some cs) : cs.length = n ∧ ∀ j v, cs[j]? = some v → w.cell? (a.add j) = some v := by
 unfold World.cells? at h
 split at h
 ·have hl := mapM_some_length h
  rw [List.length_range] at hl
  refine ⟨hl, fun j v hj => ?_⟩
  have hjl : j < n := by rw [← hl]; exact (List.getElem?_eq_some_iff.1 hj).1
  have := mapM_some_get h j j (by simp [hjl])
  rw [this, hj]
 ·cases h
theorem get_size (hG : G.ok P) {t : TypeId} {i : TInfo} (h : G.get t = some i) : P.cellsOf t = (G.S t).1 ∧ P.bytesOf t = (G.S t).2 := by
 obtain ⟨inf, z, k1, k2, k3, _⟩ := (hG t i h).info
 rw [S_get h]
 simp [Program.cellsOf, Program.bytesOf, k1, k2, k3]
theorem rowA_rel {C : Ctx} {S : Sizes} {e : TypeId} {gs : List AV} {cs : List Value} (hs : Shaped G e gs) (r : RelL S C gs cs) : RelV S C (rowA G e gs) cs := by
 unfold rowA
 cases hs with
 | int hk _ => rw [hk]; exact RelL_one.1 r
 | bool hk => rw [hk]; exact RelL_one.1 r
 | str hk _ => rw [hk]; exact RelL_one.1 r
 | slice hk _ => rw [hk]; exact RelL_one.1 r
 | arr hk _ _ _ => rw [hk]; exact RelL_one.1 r
 | struct hk _ _ =>
  rw [hk]
  simp only [TK.isAgg, if_true]
  unfold mkAgg
  split
  ·rename_i h; rw [h] at r; exact RelL_one.1 r
  ·exact r
theorem weightsAll_mem {H : Type} {e : TypeId} : ∀ {l : List (DataW H)} {d : DataW H} {n : Nat}, d ∈ l → n ∈ DataW.weights P e d → n ∈ DataW.weightsAll P e l
 | d0 :: r, d, n, hm, hn => by
   simp only [DataW.weightsAll, List.mem_append]
   rcases List.mem_cons.1 hm with h | h
   ·subst h; exact .inl hn
   ·exact .inr (weightsAll_mem h hn)
theorem trod_shaped (hG : G.ok P) {H : Type} {enc : TypeId × Value → H} {W : World} {sp : Nat → Bool} : ∀ (m : Nat) (t : TypeId), tabR G m t = true → ∀ (fuel : Nat) (cs : List Value) (d : DataW H) (p : List MemPlace),
  DataW.trod enc P W 0 sp true fuel t cs = some (d, p) → (∀ n ∈ DataW.weights P t d, n ≤ reachBytes) → ∃ gs, Shaped G t gs ∧ RelL G.S (noC W) gs cs
 | 0, t, h => by simp [tabR] at h
 | m + 1, t, h => by
  intro fuel cs d p ht hw
  simp only [tabR] at h
  split at h
  ·cases h
  ·rename_i i hi
   have hk : G.kind t = i.kind := by unfold Tab.kind; rw [hi]
   obtain ⟨dsc, hd, hfit⟩ := (hG t i hi).desc
   split at h
   ·rename_i k hik
    rw [hik] at hfit hk
    simp only [TK.fits] at hfit
    subst hfit
    obtain ⟨n, rfl, _, hwf⟩ := DataW.trod_int hd ht
    exact ⟨_, .int hk hwf, RelL_one.2 ⟨rfl, rfl⟩⟩
   ·rename_i hik
    rw [hik] at hfit hk
    simp only [TK.fits] at hfit
    subst hfit
    obtain ⟨b, rfl, _⟩ := DataW.trod_bool hd ht
    exact ⟨_, .bool hk, RelL_one.2 ⟨rfl, rfl⟩⟩
   ·rename_i hik
    rw [hik] at hfit hk
    simp only [TK.fits] at hfit
    subst hfit
    obtain ⟨s, rfl, _, hs⟩ := DataW.trod_string hd ht
    exact ⟨_, .str hk hs, RelL_one.2 ⟨rfl, rfl⟩⟩
   ·rename_i fl hik
    rw [hik] at hfit hk
    obtain ⟨fs, rfl, hfl⟩ := hfit
    have hcon := of_decide_eq_true h
    obtain ⟨xs, n, _, hx, hlen, hxl, hf⟩ := DataW.trod_struct hd ht
    injection hx with hx1 hx2
    have hcl : cs.length = i.size := by rw [hlen, (get_size hG hi).1, S_get hi]
    have hwe : ∀ q ∈ DataW.weightsEach P (fs.toList.map (·.type)) (xs.map (·.1)), q ≤ reachBytes := by
     intro q hq
     refine hw q ?_
     rw [hx1]
     simp only [DataW.weights, hd]
     exact hq
    have key : ∀ (gl : List Field) (ys : List (DataW H × List MemPlace)) (off : Nat), ys.length = gl.length → (∀ (j : Nat) (f : Field), gl[j]? = some f → DataW.trod enc P W 0 sp true n f.type ((cs.drop f.offset).take (P.cellsOf f.type)) = ys[j]?) →
      (∀ q ∈ DataW.weightsEach P (gl.map (·.type)) (ys.map (·.1)), q ≤ reachBytes) → contigF G (tabR G m) (gl.map fun f => (f.offset, f.type)) off = some cs.length →
      ∃ gss : List (List AV), gss.length = gl.length ∧ (∀ (j : Nat) (f : Field) (gs : List AV), gl[j]? = some f → gss[j]? = some gs → Shaped G f.type gs) ∧ RelL G.S (noC W) gss.flatten (cs.drop off) := by
     intro gl
     induction gl with
     | nil =>
      intro ys off h1 h2 h3 h4
      injection h4 with h4
      refine ⟨[], rfl, fun j f gs hj => by simp at hj, ?_⟩
      rw [h4, List.drop_length]
      rfl
     | cons f gl ih =>
      intro ys off h1 h2 h3 h4
      cases ys with
      | nil => simp at h1
      | cons y ys =>
       simp only [List.map_cons, contigF] at h4
       split at h4
       ·rename_i hh
        obtain ⟨ho, hR⟩ := hh
        have hy := h2 0 f rfl
        simp only [List.getElem?_cons_zero] at hy
        have hgf : ∃ fi, G.get f.type = some fi := by
         cases m with
         | zero => simp [tabR] at hR
         | succ m =>
          simp only [tabR] at hR
          split at hR
          ·cases hR
          ·exact ⟨_, by assumption⟩
        obtain ⟨fi, hfi⟩ := hgf
        have hsz := (get_size hG hfi).1
        obtain ⟨y1, y2⟩ := y
        obtain ⟨gs, g1, g2⟩ := trod_shaped hG m f.type hR n _ y1 y2 hy (fun q hq => h3 q (by simp only [List.map_cons, DataW.weightsEach, List.mem_append]; exact .inl hq))
        obtain ⟨gss, k1, k2, k3⟩ := ih ys (off + (G.S f.type).1) (by simpa using h1) (fun j f' hj => by simpa using h2 (j + 1) f' (by simpa using hj)) (fun q hq => h3 q (by simp only [List.map_cons, DataW.weightsEach, List.mem_append]; exact .inr hq)) h4
        refine ⟨gs :: gss, by simp [k1], ?_, ?_⟩
        ·intro j f' gs' hj hgj
         cases j with
         | zero =>
          simp only [List.getElem?_cons_zero, Option.some.injEq] at hj hgj
          subst hj; subst hgj
          exact g1
         | succ j => exact k2 j f' gs' (by simpa using hj) (by simpa using hgj)
        ·rw [List.flatten_cons]
         subst ho
         rw [hsz] at g2
         have := RelL.append gs gss.flatten _ _ g2 k3
         rw [← List.drop_drop, List.take_append_drop] at this
         exact this
       ·cases h4
    obtain ⟨gss, k1, k2, k3⟩ := key fs.toList xs 0 (by simpa using hxl) (fun j f hj => hf j f (by simpa using hj)) hwe (by rw [hfl, hcl]; exact hcon)
    refine ⟨gss.flatten, .struct hk (by rw [k1, ← hfl]; simp) (fun j f gs hj hg => ?_), by simpa using k3⟩
    rw [← hfl] at hj
    rw [List.getElem?_map] at hj
    obtain ⟨f', hf', rfl⟩ := Option.map_eq_some_iff.1 hj
    exact k2 j f' gs hf' hg
   ·rename_i n e hik
    rw [hik] at hfit hk
    simp only [TK.fits] at hfit
    subst hfit
    simp only [Bool.and_eq_true, decide_eq_true_eq] at h
    obtain ⟨⟨h1, h2⟩, h3⟩ := h
    split at h1
    ·rename_i k hek
     obtain ⟨ei, hei, hek'⟩ := kind_get hek (by simp)
     obtain ⟨ed, hed, hef⟩ := (hG e ei hei).desc
     rw [hek'] at hef
     simp only [TK.fits] at hef
     subst hef
     have hce : P.cellsOf e = 1 := by rw [(get_size hG hei).1, h2]
     obtain ⟨xs, m', _, _, hlen, hxl, hf⟩ := DataW.trod_array hd ht
     have hcl : cs.length = n := by rw [hlen, (get_size hG hi).1, S_get hi, h3]
     have each : ∀ j, j < n → ∃ x, cs[j]? = some (.int k x) ∧ (Lit.int k x).wf = true := by
      intro j hj
      have := hf j hj
      rw [hce, Nat.mul_one] at this
      obtain ⟨y, hy⟩ : ∃ y, xs[j]? = some y := ⟨_, List.getElem?_eq_getElem (by omega)⟩
      rw [hy] at this
      obtain ⟨x, e1, _, e2⟩ := DataW.trod_int hed this
      refine ⟨x, ?_, e2⟩
      rw [List.drop_eq_getElem_cons (by omega)] at e1
      simp only [List.take_succ_cons, List.take_zero, List.cons.injEq, and_true] at e1
      rw [List.getElem?_eq_getElem (by omega), e1]
     have all : ∀ (cs : List Value), (∀ j, j < cs.length → ∃ x, cs[j]? = some (.int k x) ∧ (Lit.int k x).wf = true) → ∃ xs : List Int, cs = xs.map (Value.int k) ∧ ∀ x ∈ xs, (Lit.int k x).wf = true := by
      intro cs
      induction cs with
      | nil => intro _; exact ⟨[], rfl, by simp⟩
      | cons c cs ih =>
       intro hh
       obtain ⟨x, e1, e2⟩ := hh 0 (by simp)
       obtain ⟨xs, e3, e4⟩ := ih fun j hj => by simpa using hh (j + 1) (by simpa using hj)
       simp only [List.getElem?_cons_zero, Option.some.injEq] at e1
       exact ⟨x :: xs, by simp [e1, e3], by simpa using ⟨e2, e4⟩⟩
     obtain ⟨zs, e1, e2⟩ := all cs (fun j hj => each j (by omega))
     have hzl : zs.length = n := by rw [← hcl, e1, List.length_map]
     exact ⟨_, .arr hk hek hzl e2, RelL_one.2 ⟨hzl, e1⟩⟩
    ·cases h1
   ·rename_i e hik
    rw [hik] at hfit hk
    simp only [TK.fits] at hfit
    subst hfit
    simp only [Bool.and_eq_true, decide_eq_true_eq] at h
    obtain ⟨h1, h2⟩ := h
    rcases Deep.open_slice hd ht with ⟨rfl, _⟩ | ⟨a, len, cap, mm, n, D, Pl, rfl, hb, hlc, hcm, hmm, hx, hel⟩
    ·exact ⟨_, .slice (gss := []) hk (by simp), RelL_one.2 ⟨none, 0, rfl, Nat.le_refl _, fun h => by simp at h, by decide, by simp [reach], .inl rfl⟩⟩
    ·injection hx with hx1 hx2
     have hge : ∃ ei, G.get e = some ei := by
      cases hq : G.get e with
      | none => unfold Tab.S at h2; rw [hq] at h2; simp at h2
      | some ei => exact ⟨ei, rfl⟩
     obtain ⟨ei, hei⟩ := hge
     have hsz := get_size hG hei
     have hlm : len ≤ mm := by rw [hmm]; split <;> omega
     have hwt : len * P.bytesOf e ≤ reachBytes := by
      have := hw _ (by rw [hx1]; simp only [DataW.weights, hd]; exact List.mem_cons_self)
      simp only [List.length_map, List.length_range] at this
      exact Nat.le_trans (Nat.mul_le_mul_right _ (by omega)) this
     have hwi : ∀ j, j < len → ∀ q ∈ DataW.weights P e (D j), q ≤ reachBytes := by
      intro j hj q hq
      refine hw q ?_
      rw [hx1]
      simp only [DataW.weights, hd]
      refine List.mem_cons_of_mem _ (List.mem_append.2 (.inl (weightsAll_mem (List.mem_map.2 ⟨j, by simpa using hj, rfl⟩) hq)))
     have each : ∀ j, j < len → ∃ gs cs', Shaped G e gs ∧ W.cells? 0 (a.add (j * P.cellsOf e)) (P.cellsOf e) = some cs' ∧ RelL G.S (noC W) gs cs' := by
      intro j hj
      obtain ⟨cs', c1, c2⟩ := hel j (by omega)
      obtain ⟨gs, g1, g2⟩ := trod_shaped hG m e h1 n cs' (D j) (Pl j) c2 (hwi j hj)
      exact ⟨gs, cs', g1, c1, g2⟩
     have all : ∀ (r j0 : Nat), j0 + r = len → ∃ gss : List (List AV), gss.length = r ∧ (∀ gs ∈ gss, Shaped G e gs) ∧ ∀ j gs, gss[j]? = some gs → ∃ cs', W.cells? 0 (a.add ((j0 + j) * P.cellsOf e)) (P.cellsOf e) = some cs' ∧ RelL G.S (noC W) gs cs' := by
      intro r
      induction r with
      | zero => intro j0 _; exact ⟨[], rfl, by simp, by simp⟩
      | succ r ih =>
       intro j0 hj0
       obtain ⟨gs, cs', g1, g2, g3⟩ := each j0 (by omega)
       obtain ⟨gss, k1, k2, k3⟩ := ih (j0 + 1) (by omega)
       refine ⟨gs :: gss, by simp [k1], by simpa using ⟨g1, k2⟩, fun j gs' hj => ?_⟩
       cases j with
       | zero =>
        simp only [List.getElem?_cons_zero, Option.some.injEq] at hj
        subst hj
        exact ⟨cs', g2, g3⟩
       | succ j =>
        have := k3 j gs' (by simpa using hj)
        rwa [show j0 + 1 + j = j0 + (j + 1) by omega] at this
     obtain ⟨gss, k1, k2, k3⟩ := all len 0 (by omega)
     refine ⟨_, .slice hk k2, RelL_one.2 ⟨some a, cap, by rw [List.length_map, k1], by rw [List.length_map, k1]; exact hlc, fun h => by simp at h, hcm, ?_, ?_⟩⟩
     ·rw [List.length_map, k1, ← hsz.2]
      exact Nat.le_trans hwt (Nat.le_of_lt reachBytes_lt)
     ·by_cases hz : gss = []
      ·left; rw [hz]; rfl
      ·right
       have hpos : 0 < len := by rw [← k1]; exact List.length_pos_iff.2 hz
       obtain ⟨gs0, hg0⟩ : ∃ gs, gss[0]? = some gs := ⟨_, List.getElem?_eq_getElem (by omega)⟩
       obtain ⟨cs0, c1, c2⟩ := k3 0 gs0 hg0
       have hc0 := cells_spec c1
       have hne : 0 < cs0.length := by rw [hc0.1, hsz.1]; exact h2
       obtain ⟨v0, hv0⟩ : ∃ v, cs0[0]? = some v := ⟨_, List.getElem?_eq_getElem hne⟩
       have hcell := hc0.2 0 v0 hv0
       have hspot : a.spot = none := by
        simp only [Nat.zero_add, Nat.zero_mul] at hcell
        unfold World.cell? at hcell
        unfold Addr.add at hcell
        simp only [if_true] at hcell
        split at hcell
        ·split at hcell
         ·cases hcell
         ·rename_i hs
          cases hq : a.spot with
          | none => rfl
          | some _ => rw [hq] at hs; simp at hs
        ·cases hcell
       refine ⟨a.block, a.off, ?_, noC_ok W _, ?_⟩
       ·obtain ⟨b, o, s⟩ := a
        simp only at hspot
        subst hspot
        rfl
       ·have haa : a = ⟨a.block, a.off, none⟩ := by
         obtain ⟨b, o, s⟩ := a
         simp only at hspot
         subst hspot
         rfl
        have fin : ∀ (gl : List (List AV)) (off : Nat), (∀ gs ∈ gl, Shaped G e gs) → (∀ j gs, gl[j]? = some gs → ∃ cs', W.cells? 0 ⟨a.block, off + j * (G.S e).1, none⟩ (G.S e).1 = some cs' ∧ RelL G.S (noC W) gs cs') → RelR G.S (noC W).flat a.block (G.S e).1 (gl.map (rowA G e)) off := by
         intro gl
         induction gl with
         | nil => intro off _ _; trivial
         | cons gs gl ih =>
          intro off q1 q2
          obtain ⟨cs', r1, r2⟩ := q2 0 gs rfl
          have r3 := cells_spec r1
          refine ⟨⟨cs', ?_, r3.1, ?_, ?_⟩, ih (off + (G.S e).1) (fun g hg => q1 g (by simp [hg])) ?_⟩
          ·exact RelV.mono (Mono.flat (Step.refl (noC W)).mono) _ _ (by
            have := rowA_rel (q1 gs (by simp)) r2
            have hfl : (noC W).flat = noC W := by
             unfold Ctx.flat noC
             congr 1
             funext b
             simp
            rw [hfl]; exact this)
          ·intro hnil
           rw [hnil] at r3
           simp at r3
           omega
          ·intro j v hj
           have := r3.2 j v hj
           rw [addr_add] at this
           have h' : W.cell? ⟨a.block, off + j, none⟩ = some v := by simpa using this
           exact h'
          ·intro j g hj
           have := q2 (j + 1) g (by simpa using hj)
           rw [Nat.succ_mul, show off + (j * (G.S e).1 + (G.S e).1) = off + (G.S e).1 + j * (G.S e).1 by omega] at this
           exact this
        refine fin gss a.off k2 fun j gs hj => ?_
        obtain ⟨cs', r1, r2⟩ := k3 j gs hj
        rw [haa, addr_add, hsz.1, Nat.zero_add] at r1
        exact ⟨cs', r1, r2⟩
   ·cases h
end Go.Sh
namespace Go.Sh
open Go.ChangeShapes Go.WideShapes Go.RowKit
variable {P : Program} {G : Tab}
theorem open_arg (hG : G.ok P) {H : Type} {enc : TypeId × Value → H} {W : World} {m : Nat} {t : TypeId} {v : Value} {d : DataW H} {p : List MemPlace} {r : Go.Reach} {b0 : Nat} (hR : tabR G m t = true) (hval : Value.okWide P W r b0 t v)
  (h : DataW.Trod enc P W 0 (fun _ => true) true t v d p) (hw : ∀ n ∈ DataW.weights P t d, n ≤ reachBytes) : ∃ gs, Shaped G t gs ∧ VRel1 G.S (noC W) (rowA G t gs) v := by
 obtain ⟨fuel, hf⟩ := h
 obtain ⟨gs, g1, g2⟩ := trod_shaped hG m t hR fuel v.cells.toList d p hf hw
 refine ⟨gs, g1, ?_⟩
 have desc : ∀ {K : TK}, G.kind t = K → K ≠ .other → ∃ dd, P.underlying t = some dd ∧ K.fits dd := fun h1 h2 => kind_desc hG h1 h2
 cases g1 with
 | int hk hwf =>
  obtain ⟨dd, h1, h2⟩ := desc hk (by simp)
  simp only [TK.fits] at h2
  subst h2
  obtain ⟨n, rfl⟩ := okWide_int h1 hval
  have := RelL_one.1 g2
  unfold rowA
  rw [hk]
  exact this
 | bool hk =>
  obtain ⟨dd, h1, h2⟩ := desc hk (by simp)
  simp only [TK.fits] at h2
  subst h2
  obtain ⟨n, rfl⟩ := okWide_bool h1 hval
  have := RelL_one.1 g2
  unfold rowA
  rw [hk]
  exact this
 | str hk _ =>
  obtain ⟨dd, h1, h2⟩ := desc hk (by simp)
  simp only [TK.fits] at h2
  subst h2
  obtain ⟨n, rfl⟩ := okWide_string h1 hval
  have := RelL_one.1 g2
  unfold rowA
  rw [hk]
  exact this
 | slice hk _ =>
  obtain ⟨dd, h1, h2⟩ := desc hk (by simp)
  simp only [TK.fits] at h2
  subst h2
  obtain ⟨a, l, c, rfl⟩ := okWide_slice h1 hval
  have := RelL_one.1 g2
  unfold rowA
  rw [hk]
  exact this
 | arr hk hek hn hwf =>
  obtain ⟨dd, h1, h2⟩ := desc hk (by simp)
  simp only [TK.fits] at h2
  subst h2
  have : ∃ cs, v = .agg cs := by
   unfold Value.okWide at hval
   rw [h1] at hval
   obtain ⟨cs, e, _⟩ := hval
   exact ⟨cs, e⟩
  obtain ⟨cs, rfl⟩ := this
  obtain ⟨q1, q2⟩ := RelL_one.1 g2
  unfold rowA
  rw [hk]
  refine ⟨q1, ?_⟩
  simp only [Value.cells] at q2
  rw [← q2]
 | struct hk h3 h4 =>
  rename_i fl gss
  obtain ⟨dd, h1, h2⟩ := desc hk (by simp)
  obtain ⟨fs, rfl, h2⟩ := h2
  obtain ⟨cs, rfl, _⟩ := okWide_struct h1 hval
  unfold rowA
  rw [hk]
  simp only [TK.isAgg, if_true]
  have := mkAgg_rel (S := G.S) (C := noC W) (cs := cs) g2
  have hne : ∀ l, mkAgg gss.flatten ≠ AV.tup l := by
   intro l
   unfold mkAgg
   split <;> simp
  cases hq : mkAgg gss.flatten with
  | tup l => exact absurd hq (hne l)
  | _ => rw [hq] at this; exact this
theorem below_of {W : World} {C' : Ctx} (st : StepW (noC W) C') : Below W.heap.size W C'.w :=
 ⟨st.os, st.tape, st.output, st.size, fun b hb => st.block b hb (noC_ok W b).2⟩
theorem law_call {f : FuncId} {avs : List AV} {vals : Array Value} {W : World} {b : Bool} (hc : ACalls P G.S f avs [] (.sc (.bool b)) []) (hv : VRels G.S (noC W) avs vals.toList) :
  Calls P f vals W fun e w' => e = .returned (.bool b) ∧ Below W.heap.size W w' := by
 refine (hc.2 (noC W) vals (HRel.nil (fun _ h => h.elim)) hv).mono ?_
 rintro e w' ⟨v, C', rfl, rfl, st, _, hv⟩
 exact ⟨by rw [sc_inv hv], below_of st⟩
theorem shut_arg {H : Type} {enc : TypeId × Value → H} {t : TypeId} (hl : laidOutB P = true) (hr : P.readableRec t = true) (hrow : t < P.types.size) {W W' : World} {v : Value} {d : DataW H} {ps : List MemPlace}
  (h : DataW.Trod enc P W 0 (fun _ => true) true t v d ps) (hb : Below W.heap.size W W') : DataW.Trod enc P W' 0 (fun b => decide (b < W.heap.size)) true t v d ps :=
 Below.trod hl hr hrow h hb (fun x hx => by obtain ⟨n, hn⟩ := h; exact DataW.trod_lt n t _ _ hn x hx)
theorem weights_of {H : Type} {ts : List TypeId} {ds : List (DataW H)} (h : (DataW.weightsEach P ts ds).all (· ≤ reachBytes) = true) {j : Nat} {t : TypeId} {d : DataW H} (ht : ts[j]? = some t) (hd : ds[j]? = some d) : ∀ n ∈ DataW.weights P t d, n ≤ reachBytes := by
 intro n hn
 have := List.all_eq_true.1 h n (DataW.weights_mem_each ht hd n hn)
 simpa using this
theorem Shaped.int_inv {t : TypeId} {k : IntKind} {gs : List AV} (hk : G.kind t = .int k) (h : Shaped G t gs) : ∃ n, gs = [.sc (.int k n)] ∧ (Lit.int k n).wf = true := by
 cases h <;> rename_i hk' <;> first
  | (rename_i h2; rw [hk] at hk'; injection hk' with e; subst e; exact ⟨_, rfl, h2⟩)
  | skip
 all_goals simp_all
theorem Shaped.bool_inv {t : TypeId} {gs : List AV} (hk : G.kind t = .bool) (h : Shaped G t gs) : ∃ b, gs = [.sc (.bool b)] := by
 cases h with
 | bool _ => exact ⟨_, rfl⟩
 | int h1 => rw [hk] at h1; cases h1
 | str h1 => rw [hk] at h1; cases h1
 | struct h1 => rw [hk] at h1; cases h1
 | arr h1 => rw [hk] at h1; cases h1
 | slice h1 => rw [hk] at h1; cases h1
theorem Shaped.arr_inv {t e : TypeId} {n : Nat} {k : IntKind} {gs : List AV} (hk : G.kind t = .arr n e) (hek : G.kind e = .int k) (h : Shaped G t gs) : ∃ xs : List Int, gs = [.arr k n xs] ∧ xs.length = n ∧ ∀ x ∈ xs, (Lit.int k x).wf = true := by
 cases h with
 | arr h1 h2 h3 h4 =>
  rw [hk] at h1
  injection h1 with e1 e2
  subst e1; subst e2
  rw [hek] at h2
  injection h2 with e3
  subst e3
  exact ⟨_, rfl, h3, h4⟩
 | int h1 => rw [hk] at h1; cases h1
 | bool h1 => rw [hk] at h1; cases h1
 | str h1 => rw [hk] at h1; cases h1
 | struct h1 => rw [hk] at h1; cases h1
 | slice h1 => rw [hk] at h1; cases h1
theorem Shaped.slice_inv {t e : TypeId} {gs : List AV} (hk : G.kind t = .slice e) (h : Shaped G t gs) : ∃ gss : List (List AV), gs = [.sl e (gss.map (rowA G e)) false] ∧ ∀ g ∈ gss, Shaped G e g := by
 cases h with
 | slice h1 h2 =>
  rw [hk] at h1
  injection h1 with e1
  subst e1
  exact ⟨_, rfl, h2⟩
 | int h1 => rw [hk] at h1; cases h1
 | bool h1 => rw [hk] at h1; cases h1
 | str h1 => rw [hk] at h1; cases h1
 | struct h1 => rw [hk] at h1; cases h1
 | arr h1 => rw [hk] at h1; cases h1
theorem Shaped.struct_inv {t : TypeId} {fl : List (Nat × TypeId)} {gs : List AV} (hk : G.kind t = .struct fl) (h : Shaped G t gs) : ∃ gss : List (List AV), gs = gss.flatten ∧ gss.length = fl.length ∧ ∀ (i : Nat) (f : Nat × TypeId) (g : List AV), fl[i]? = some f → gss[i]? = some g → Shaped G f.2 g := by
 cases h with
 | struct h1 h2 h3 =>
  rw [hk] at h1
  injection h1 with e1
  subst e1
  exact ⟨_, rfl, h2, h3⟩
 | int h1 => rw [hk] at h1; cases h1
 | bool h1 => rw [hk] at h1; cases h1
 | str h1 => rw [hk] at h1; cases h1
 | slice h1 => rw [hk] at h1; cases h1
 | arr h1 => rw [hk] at h1; cases h1
theorem rows_typedW {α : Type} {e : TypeId} {av : α → AV} {wf : α → Prop} : ∀ (gss : List (List AV)), (∀ g ∈ gss, ∃ x : α, rowA G e g = av x ∧ wf x) → ∃ xs : List α, gss.map (rowA G e) = xs.map av ∧ ∀ x ∈ xs, wf x
 | [], _ => ⟨[], rfl, by simp⟩
 | g :: r, h => by
   obtain ⟨x, hx, hw⟩ := h g (by simp)
   obtain ⟨xs, hxs, hws⟩ := rows_typedW r fun g' hg => h g' (by simp [hg])
   exact ⟨x :: xs, by simp [hx, hxs], by simpa using ⟨hw, hws⟩⟩
abbrev intW (k : IntKind) (n : Int) : Prop := (Lit.int k n).wf = true
abbrev arrW (k : IntKind) (n : Nat) (xs : List Int) : Prop := xs.length = n ∧ ∀ x ∈ xs, (Lit.int k x).wf = true
end Go.Sh