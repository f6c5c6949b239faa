import Derived.Carry
import Derived.Deep.Slices
import Derived.OpenShut
import Derived.SizedLaws
import Derived.WalkKit
import Derived.ProofKit
import Derived.ShutString
import Derived.ChangeOld
import Derived.Test.YteioljlgcagnnaaM2EvalSound
set_option linter.unusedVariables false
set_option linter.unusedSimpArgs false
namespace Go.Sh
variable {P : Program} {G : Tab} {F : Fn} {c0 : Ctx} {R : Ending → World → Prop} {S : Sizes}
theorem ba_beq (a b : ByteArray) : (a == b) = decide (a = b) := by
 by_cases h : a = b
 ·subst h
  rw [decide_eq_true rfl]
  obtain ⟨d⟩ := a
  show (d == d) = true
  exact beq_self_eq_true d
 ·rw [decide_eq_false h]
  obtain ⟨d⟩ := a
  obtain ⟨d'⟩ := b
  show (d == d') = false
  exact beq_false_of_ne (fun e => h (by rw [e]))
def mapK (b : Nat) : Value := .map (some b)
structure MQ where
 o : Nat
 mt : TypeId
 kt : TypeId
 et : TypeId
 K : Nat → Value
 kd : VK
 as : List AV
theorem set_map {w : World} {r : Nat} {es : Array MapEntry} {clock : Nat} (o : Obj) (hb : w.heap[r]? = some (.map es clock)) : (setObj r o).run P w = .ok () { w with heap := w.heap.setIfInBounds r o } := by
 simp [setObj, Sem.run, hb]
section
variable {n : Nat} {ops : Array Oper} {i : Nat} {t : Tmps} {h : List AO}
theorem LSpec.mm (e : (match opAt n ops i t with | some (.makeMap _ none) => true | _ => false) = true := by kernel_rfl) : LSpec P S n ops i .loud t h (.ref mapK h.length) (h ++ [.vals .mapD []]) := by
 split at e
 ·rename_i ty hop
  refine (opAt_spec hop).spec (fun hh => absurd rfl hh) fun o ρv C h2 hop' H hh hρ => ?_
  have hh := hh (by simp)
  subst hh
  obtain ⟨st, HH⟩ := new_obj H (.map #[] 0) (.vals .mapD []) (fun C' _ hb => ⟨_, [], hb, .nil, ⟨#[], rfl, rfl, fun j e he => by simp at he⟩⟩)
  refine ⟨_, st, by simpa using HH, .inl ⟨.map (some C.w.heap.size), ?_, new_ref H _ mapK rfl⟩⟩
  have hrun : (Instr.makeMap ty none).run P C.w = .ok (.map (some C.w.heap.size)) (C.w.alloc (.map #[] 0)) := rfl
  obtain ⟨dst, op, oty, pos, after, guard⟩ := o
  dsimp only at hop'
  subst hop'
  simp [execOp, hrun]
 ·cases e
variable {K V : Type} [DecidableEq K] {kt : TypeId} {ek : K → AV} {kv : K → Value} {ev_ : V → AV}
end
section
variable {K V : Type}
end
section
variable {K V : Type} [DecidableEq K]
end
section
variable {n : Nat} {ops : Array Oper} {i : Nat} {t : Tmps} {h : List AO}
end
section
variable {n : Nat} {ops : Array Oper} {i : Nat} {t : Tmps} {h : List AO} {K V : Type} [DecidableEq K] {kt : TypeId} {ek : K → AV} {kv : K → Value} {ev_ : V → AV}
end
section
variable {s : Option DS} {K V : Type} [DecidableEq K] {kt : TypeId} {ek : K → AV} {kv : K → Value}
end
section
variable {n : Nat} {ops : Array Oper} {i : Nat} {t : Tmps} {h : List AO} {K V : Type} [DecidableEq K] {kt : TypeId} {ek : K → AV} {kv : K → Value}
theorem LQ.xi [ok : Ok P G] {α : Type} (f : α → AV) {xs : List α} {j : Int} {x : α} (hv : ixO xs j = some x) (e : indexE G n ops i t = some (xs.map f, j) := by kernel_rfl) (hf : chOk (f x) = true := by kernel_rfl) : LSpec P G.S n ops i .pure t h (.ep (chD (f x)) 0 none) h := LSpec.xi f hv e hf
end
end Go.Sh
namespace Go.Sh
variable {P : Program} {G : Tab} {F : Fn} {c0 : Ctx} {R : Ending → World → Prop} {S : Sizes}
section
variable {n : Nat} {ops : Array Oper} {i : Nat} {t : Tmps} {h : List AO}
end
section
variable {s : Option DS}
end
def subS (s : ByteArray) (l u : Option Int) : Option ByteArray :=
 if 0 ≤ l.getD 0 ∧ l.getD 0 ≤ u.getD ((s.size : Nat) : Int) ∧ u.getD ((s.size : Nat) : Int) ≤ ((s.size : Nat) : Int) then some (s.extract (l.getD 0).toNat (u.getD ((s.size : Nat) : Int)).toNat) else none
def subSE (G : Tab) (n : Nat) (ops : Array Oper) (i : Nat) (t : Tmps) : Option (ByteArray × Option Int × Option Int) :=
 match opAt n ops i t with
 | some (.slice ty x lo hi none) =>
  match G.kind ty, ev t x, bndE t lo, bndE t hi with
  | .str, .sc (.string s), some l, some u => some (s, l, u)
  | _, _, _, _ => none
 | _ => none
section
variable {n : Nat} {ops : Array Oper} {i : Nat} {t : Tmps} {h : List AO}
theorem LSpec.ss [ok : Ok P G] {s s' : ByteArray} {l0 u0 : Option Int} (hv : subS s l0 u0 = some s') (e : subSE G n ops i t = some (s, l0, u0) := by kernel_rfl) : LSpec P G.S n ops i .pure t h (.sc (.string s')) h := by
 unfold subSE at e
 split at e
 ·rename_i ty x lo hi hop
  split at e
  ·rename_i q l1 u1 hk hx hlo hhi
   injection e with e
   injection e with e1 e2
   injection e2 with e2 e3
   subst e1; subst e2; subst e3
   unfold subS at hv
   split at hv
   ·rename_i hc
    obtain ⟨c1, c2, c3⟩ := hc
    injection hv with hv
    subst hv
    obtain ⟨l, hl⟩ : ∃ l : Nat, l1.getD 0 = (l : Int) := ⟨(l1.getD 0).toNat, by omega⟩
    obtain ⟨u, hu⟩ : ∃ u : Nat, u1.getD ((q.size : Nat) : Int) = (u : Int) := ⟨(u1.getD ((q.size : Nat) : Int)).toNat, by omega⟩
    rw [hl, hu] at c2
    rw [hu] at c3
    have h1 : l ≤ u := by omega
    have h2 : u ≤ q.size := by omega
    have bl : bnd t lo 0 l := bndE_bnd hlo hl
    have bu : bnd t hi q.size u := bndE_bnd hhi hu
    refine (opAt_spec hop).spec (fun _ => rfl) fun op ρv C h2' ho H _ hρ => ?_
    have hxv := hρ x (by simp [Op.operands])
    rw [hx] at hxv
    have hxv := sc_inv hxv
    obtain ⟨d, hd, hf⟩ := kind_desc ok.g hk (by simp)
    simp only [TK.fits] at hf
    subst hf
    obtain ⟨dst, op, oty, pos, after, guard⟩ := op
    simp only at ho
    subst ho
    have L1 := bnd_val (S := G.S) (C := C) bl (ρv := ρv) (fun y hy => hρ y (by subst hy; simp [Op.operands]))
    have L2 := bnd_val (S := G.S) (C := C) bu (ρv := ρv) (fun y hy => hρ y (by subst hy; simp [Op.operands]))
    have hbs : (Instr.sliceBounds false q.size q.size (lo.map ρv) (hi.map ρv) none).run P C.w = .ok (l, u, q.size) C.w := by
     unfold Instr.sliceBounds
     rcases L1 with ⟨q1, e1⟩ | ⟨x1, k1', q1, e1⟩
     ·subst q1; subst e1
      rcases L2 with ⟨q2, e2⟩ | ⟨x2, k2', q2, e2⟩
      ·subst q2; subst e2; simp
      ·subst q2
       simp only [Option.map_none, Option.map_some, e2, Sem.run_bind, Sem.run_pure, Result.andThen_ok, Bool.false_eq_true, if_false, sliceBound_nat _ _ _ _ _ h2]
     ·subst q1
      rcases L2 with ⟨q2, e2⟩ | ⟨x2, k2', q2, e2⟩
      ·subst q2; subst e2
       simp only [Option.map_none, Option.map_some, e1, Sem.run_bind, Sem.run_pure, Result.andThen_ok, Option.isSome_none, Bool.false_eq_true, if_false, sliceBound_nat _ _ _ _ _ h1]
      ·subst q2
       simp only [Option.map_none, Option.map_some, e1, e2, Sem.run_bind, Sem.run_pure, Result.andThen_ok, Option.isSome_none, Bool.false_eq_true, if_false, sliceBound_nat _ _ _ _ _ h1, sliceBound_nat _ _ _ _ _ h2]
    rw [hl, hu, Int.toNat_natCast, Int.toNat_natCast]
    refine OpOK.same (v := .string (q.extract l u)) (by simpa using H) ?_ ⟨rfl, rfl⟩
    simp only [execOp, Instr.sliceAt, Instr.slice, hxv, Option.map_none, Sem.run_bind, Sem.run_pure, Result.andThen_ok, run_underlying hd, Option.isSome_none, Bool.false_eq_true, if_false, hbs]
   ·cases hv
  ·cases e
 ·cases e
theorem LQ.ss [ok : Ok P G] {s s' : ByteArray} {l0 u0 : Option Int} (hv : subS s l0 u0 = some s') (e : subSE G n ops i t = some (s, l0, u0) := by kernel_rfl) : LSpec P G.S n ops i .pure t h (.sc (.string s')) h := LSpec.ss hv e
end
section
variable {s : Option DS}
theorem DX.ss [ok : Ok P G] (L : List Nat) {a a' : ByteArray} {l0 u0 : Option Int} (hv : subS a l0 u0 = some a') (D : DX P G F c0 R (updE F L .pure (fun _ => .sc (.string a')) hOf s)) (e : subSE G F.n (dO F s) (dI s) (dT s) = some (a, l0, u0) := by kernel_rfl) : DX P G F c0 R s := DX.opF L (LSpec.ss hv e) D
end
theorem map_fg {α : Type} {f g : α → AV} (hfg : ∀ x, f x = g x) (B : List α) : B.map g = B.map f := List.map_congr_left fun x _ => (hfg x).symm
section
variable {n : Nat} {ops : Array Oper} {i : Nat} {t : Tmps} {h : List AO}
theorem LSpec.xg [ok : Ok P G] {α : Type} (f g : α → AV) (hfg : ∀ x, f x = g x) {xs : List α} {j : Int} {x : α} (hv : ixO xs j = some x) (e : indexE G n ops i t = some (xs.map f, j) := by kernel_rfl) (hf : chOk (g x) = true := by kernel_rfl) : LSpec P G.S n ops i .pure t h (.ep (chD (g x)) 0 none) h :=
 LSpec.xi g hv (e.trans (by rw [map_fg hfg])) hf
end
section
variable {s : Option DS}
theorem DX.xg [ok : Ok P G] (L : List Nat) {α : Type} (f g : α → AV) (hfg : ∀ x, f x = g x) {xs : List α} {j : Int} {x : α} (hv : ixO xs j = some x) (D : DX P G F c0 R (updE F L .pure (fun _ => .ep (chD (g x)) 0 none) hOf s)) (e : indexE G F.n (dO F s) (dI s) (dT s) = some (xs.map f, j) := by kernel_rfl) (hf : chOk (g x) = true := by kernel_rfl) : DX P G F c0 R s := DX.opF L (LSpec.xg f g hfg hv e hf) D
end
section
variable {s : Option DS}
theorem LSpec.bg [ok : Ok P G] {n : Nat} {ops : Array Oper} {i : Nat} {t : Tmps} {h : List AO} {α : Type} (f g : α → AV) (hfg : ∀ x, f x = g x) (xs : List α) (ty : TypeId) (fl : Bool) (e : stepA G n ops i t h = some (.pure, .sl ty (xs.map g) fl, h) := by kernel_rfl) : LSpec P G.S n ops i .pure t h (.sl ty (xs.map f) fl) h := by
 rw [← map_fg hfg xs]
 exact stepA_sound ok.g e
theorem LQ.ch [ok : Ok P G] {n : Nat} {ops : Array Oper} {i : Nat} {t : Tmps} {h : List AO} (ks : List Nat) {f : FuncId} {avs : List AV} {hin hout : List AO} {r : AV} (hc : ACalls P G.S f avs hin r hout) (ds es : List (TypeId × Bool) := []) (e : callHE2 ks ds es n ops i t h f hout r = some (avs, hin) := by kernel_rfl) : LSpec P G.S n ops i .loud t h (bkR ks h hout r) (bkH ks h hout r) := LSpec.ch ks hc ds es e
theorem LQ.bg [ok : Ok P G] {n : Nat} {ops : Array Oper} {i : Nat} {t : Tmps} {h : List AO} {α : Type} (f g : α → AV) (hfg : ∀ x, f x = g x) (xs : List α) (ty : TypeId) (fl : Bool) (e : stepA G n ops i t h = some (.pure, .sl ty (xs.map g) fl, h) := by kernel_rfl) : LSpec P G.S n ops i .pure t h (.sl ty (xs.map f) fl) h := LSpec.bg f g hfg xs ty fl e
theorem DX.bg [ok : Ok P G] (L : List Nat) {α : Type} (f g : α → AV) (hfg : ∀ x, f x = g x) (xs : List α) (ty : TypeId) (fl : Bool) (D : DX P G F c0 R (updE F L .pure (fun _ => .sl ty (xs.map f) fl) hOf s)) (e : stepA G F.n (dO F s) (dI s) (dT s) (dH s) = some (.pure, .sl ty (xs.map g) fl, dH s) := by kernel_rfl) : DX P G F c0 R s := DX.opF L (LSpec.bg f g hfg xs ty fl e) D
end
end Go.Sh
namespace Go.Sh
variable {P : Program} {G : Tab} {F : Fn} {c0 : Ctx} {R : Ending → World → Prop} {S : Sizes}
theorem AR.weakH {k : List PI} {t : Tmps} {h : List AO} (ds : List (TypeId × Bool)) (A : AR P G F c0 R k t (wkH h ds)) : AR P G F c0 R k t h :=
 fun C a st AA => A C a st ⟨AA.defers, AA.size, AA.tmps, AA.heap.wk ds⟩
def whE (ds : List (TypeId × Bool)) (s : Option Cfg) : Option Cfg := match s with | some c => mkC c.k c.t (wkH c.h ds) | none => none
theorem AX.wh (ds : List (TypeId × Bool)) {s : Option Cfg} (A : AX P G F c0 R (whE ds s)) : AX P G F c0 R s := by
 obtain ⟨c', h1, h2⟩ := A
 cases s with
 | none => cases h1
 | some c =>
  simp only [whE, mkC_eq] at h1
  injection h1 with h1
  subst h1
  exact ⟨c, rfl, AR.weakH ds h2⟩
section
variable [ok : Ok P G] {n : Nat} {ops : Array Oper} {i : Nat} {t : Tmps} {h : List AO}
def apzH (rows : List AV) (q : Option (Nat × Nat × TypeId × List AV × List AV × Nat)) (h : List AO) : List AO := match q with | some (o, k, e, _) => h.set o (.row e rows (k + 1) true) | none => h
theorem LSpec.apz {α : Type} (f : α → AV) (A : List α) (b : AV) {by_ : Nat} (hfit : (A.length + 1) * by_ ≤ reach) (e : apA (appE G n ops i t h) = some (A.map f, [b], by_) := by kernel_rfl) : LSpec P G.S n ops i .loud t h (apR (appE G n ops i t h)) (apzH (A.map f ++ [b]) (appE G n ops i t h) h) := by
 generalize hq : appE G n ops i t h = q at *
 unfold apA at e
 split at e
 ·injection e with e
  injection e with e1 e2
  injection e2 with e2 e3
  subst e1; subst e2; subst e3
  have := LSpec.append' ok.g id (A.map f) [b] _ _ _ _ (by simpa using hfit) (by simpa using hq)
  simpa [apzH, apR] using this
 ·cases e
theorem app_idx (A : List AV) (b : AV) : (decide (0 ≤ ((A.length : Nat) : Int)) && decide (((A.length : Nat) : Int) < (((A ++ [b]).length : Nat) : Int))) = true := by
 simp only [List.length_append, List.length_cons, List.length_nil, Bool.and_eq_true, decide_eq_true_eq]
 omega
def stzH (rows : List AV) (q : Option (TypeId × TypeId × Nat × Nat × List AV × Nat × Nat × AV)) (h : List AO) : List AO := match q with | some (_, e, o, k, _, j, _, _) => h.set o (.row e rows k true) | none => h
theorem LSpec.stz {α : Type} (f g : α → AV) (hfg : ∀ x, f x = g x) (A : List α) (r : AV) (y : α) (e : stA (storeEE G n ops i t h) = some (A.map f ++ [r], (A.map f).length) := by kernel_rfl) (hf : chOk r = true := by kernel_rfl) (hy : chOk (g y) = true := by kernel_rfl) (hs : stOk G (storeEE G n ops i t h) r = some (chD (g y)) := by kernel_rfl) : LSpec P G.S n ops i .loud t h .u (stzH ((A ++ [y]).map f) (storeEE G n ops i t h) h) := by
 generalize hq : storeEE G n ops i t h = q at *
 unfold stA at e
 split at e
 ·rename_i ty e0 o k rows' j' off a
  injection e with e
  injection e with e1 e2
  subst e1; subst e2
  simp only [stOk] at hs
  split at hs
  ·rename_i hp
   have := LSpec.storeEl ok.g hq (r := r) (r' := f y) (by simp) (chD_spec hf) hp hs (by rw [hfg]; exact chD_spec hy)
   simpa [stzH] using this
  ·cases hs
 ·cases e
theorem LQ.apz {α : Type} (f : α → AV) (A : List α) (b : AV) {by_ : Nat} (hfit : (A.length + 1) * by_ ≤ reach) (e : apA (appE G n ops i t h) = some (A.map f, [b], by_) := by kernel_rfl) : LSpec P G.S n ops i .loud t h (apR (appE G n ops i t h)) (apzH (A.map f ++ [b]) (appE G n ops i t h) h) := LSpec.apz f A b hfit e
theorem LQ.stz {α : Type} (f g : α → AV) (hfg : ∀ x, f x = g x) (A : List α) (r : AV) (y : α) (e : stA (storeEE G n ops i t h) = some (A.map f ++ [r], (A.map f).length) := by kernel_rfl) (hf : chOk r = true := by kernel_rfl) (hy : chOk (g y) = true := by kernel_rfl) (hs : stOk G (storeEE G n ops i t h) r = some (chD (g y)) := by kernel_rfl) : LSpec P G.S n ops i .loud t h .u (stzH ((A ++ [y]).map f) (storeEE G n ops i t h) h) := LSpec.stz f g hfg A r y e hf hy hs
theorem LQ.xo {rows : List AV} {j : Int} (hj : (decide (0 ≤ j) && decide (j < ((rows.length : Nat) : Int))) = true) (e : xoA (indexOE G n ops i t h) = some (rows, j) := by kernel_rfl) : LSpec P G.S n ops i .read t h (xoR (indexOE G n ops i t h)) h := LSpec.xo hj e
end
section
variable {s : Option DS}
theorem DX.apz [ok : Ok P G] (L : List Nat) {α : Type} (f : α → AV) (A : List α) (b : AV) {by_ : Nat} (hfit : (A.length + 1) * by_ ≤ reach) (D : DX P G F c0 R (updE F L .loud (fun d => apR (appE G F.n (d.ops F) d.r.i d.r.t d.r.h)) (fun d => apzH (A.map f ++ [b]) (appE G F.n (d.ops F) d.r.i d.r.t d.r.h) d.r.h) s)) (e : apA (appE G F.n (dO F s) (dI s) (dT s) (dH s)) = some (A.map f, [b], by_) := by kernel_rfl) : DX P G F c0 R s := DX.opF L (LSpec.apz f A b hfit e) D
theorem DX.stz [ok : Ok P G] (L : List Nat) {α : Type} (f g : α → AV) (hfg : ∀ x, f x = g x) (A : List α) (r : AV) (y : α) (D : DX P G F c0 R (updE F L .loud (fun _ => .u) (fun d => stzH ((A ++ [y]).map f) (storeEE G F.n (d.ops F) d.r.i d.r.t d.r.h) d.r.h) s)) (e : stA (storeEE G F.n (dO F s) (dI s) (dT s) (dH s)) = some (A.map f ++ [r], (A.map f).length) := by kernel_rfl) (hf : chOk r = true := by kernel_rfl) (hy : chOk (g y) = true := by kernel_rfl) (hs : stOk G (storeEE G F.n (dO F s) (dI s) (dT s) (dH s)) r = some (chD (g y)) := by kernel_rfl) : DX P G F c0 R s := DX.opF L (LSpec.stz f g hfg A r y e hf hy hs) D
end
end Go.Sh
namespace Go.Sh
variable {P : Program} {G : Tab} {F : Fn} {c0 : Ctx} {R : Ending → World → Prop} {S : Sizes}
def gbA (ks : List Nat) (h : List AO) (n : Nat) (fs : List AV) (a : AV) : AV :=
 match a with
 | .ptr o off ix => if o == n then .ep fs off ix else (match rnV (ownX true ks h) (posL ks) (.ptr o off ix) with | some a => a | none => .u)
 | a => match rnV (ownX true ks h) (posL ks) a with | some a => a | none => .u
theorem AR.gb {n0 n : Nat} (hc0 : c0.m.length = n0) (ks : List Nat) (hks : (nodupB ks && preB n0 ks 0) = true) (hn : posL ks n = none) {k : List PI} {t : Tmps} {h h' : List AO} {e0 : TypeId} {fs : List AV} (ho : h[n]? = some (.box e0 fs)) (hp : (plainL fs && decide (0 < AV.sz.go fs)) = true) (e : selH true ks h = some h') (A : AR P G F c0 R k (t.map fun p => (p.1, gbA ks h n fs p.2)) h') : AR P G F c0 R k t h := by
 intro C a st AA
 simp only [Bool.and_eq_true, decide_eq_true_eq] at hks hp
 have st' : StepW c0 (C.sel true ks) := sel_step st rfl (by rw [hc0]; exact hks.2)
 have hu : Under C (C.sel true ks) := sel_under (S := G.S)
 refine A (C.sel true ks) a st' ⟨AA.defers, AA.size, fun i => ?_, sel_heap AA.heap hks.1 e⟩
 have hv := AA.tmps i
 rw [lk_map (gbA ks h n fs) (by simp [gbA, rnV, rnA])]
 have other : ∀ x : AV, VRel G.S C x (a.tmps.getD i undef) → VRel G.S (C.sel true ks) (match rnV (ownX true ks h) (posL ks) x with | some a => a | none => .u) (a.tmps.getD i undef) := by
  intro x hx
  cases hq : rnV (ownX true ks h) (posL ks) x with
  | none => trivial
  | some b => exact hx.rn (sel_rn AA.heap true ks) hq
 generalize hx : lk t i = x at hv
 cases x with
 | ptr o off ix =>
  simp only [gbA]
  split
  ·rename_i hon
   have hon : o = n := by simpa using hon
   subst hon
   obtain ⟨b, h1, h2, h3⟩ := (hv : RelV G.S C (.ptr o off ix) [a.tmps.getD i undef])
   obtain ⟨cs, q1, q2⟩ := AA.heap.rel o _ _ ho h1
   have hok : (C.sel true ks).ok b := by
    refine ⟨?_, fun s' hs' e' => ?_⟩
    ·rintro (hx | ⟨hx, _⟩)
     ·exact AA.heap.nX _ (List.mem_of_getElem? h1) b rfl hx
     ·cases hx
    ·obtain ⟨o2, s2, m1, m2, _, m3⟩ := sel_mem hs' e'
     have := AA.heap.inj o o2 _ s2 b h1 m2 rfl m3
     subst this
     exact posL_none hn m1
   have hpl : RelL G.S (C.sel true ks).flat fs cs.toList := RelL.plain (Under.toFlat _) _ _ hp.1 (RelL.plain hu _ _ hp.1 q2)
   refine (show RelV G.S (C.sel true ks) (.ep fs off ix) [a.tmps.getD i undef] from ⟨b, 0, cs.toList, by rw [h3, Nat.zero_add], h2, hok, hpl, ?_, ?_⟩)
   ·intro e0
    have hl := RelL.len _ _ q2
    rw [e0] at hl
    simp at hl
    omega
   ·exact RelL.toList_cells (S := G.S) (C := C.sel true ks) q1
  ·exact other (.ptr o off ix) hv
 | _ => exact other _ hv
def gbE (n0 n : Nat) (ks L : List Nat) (s : Option Cfg) : Option Cfg :=
 match s with
 | some c =>
  match c.h[n]? with
  | some (.box _ fs) =>
   match selH true ks c.h with
   | some h' => (match posL ks n with
    | none => (match (nodupB ks && preB n0 ks 0) && (plainL fs && decide (0 < AV.sz.go fs)) with | true => mkC c.k ((keepT L c.t).map fun p => (p.1, gbA ks c.h n fs p.2)) h' | false => none)
    | some _ => none)
   | none => none
  | _ => none
 | none => none
theorem AX.gb {n0 : Nat} (hc0 : c0.m.length = n0) (n : Nat) (ks L : List Nat) {s : Option Cfg} (A : AX P G F c0 R (gbE n0 n ks L s)) : AX P G F c0 R s := by
 obtain ⟨c', h1, h2⟩ := A
 cases s with
 | none => cases h1
 | some c =>
  simp only [gbE, mkC_eq] at h1
  split at h1
  ·rename_i e0 fs ho
   split at h1
   ·rename_i h' hs
    split at h1
    ·rename_i hn
     split at h1
     ·rename_i hk
      injection h1 with h1
      subst h1
      rw [Bool.and_eq_true] at hk
      exact ⟨c, rfl, AR.weak (keepT_weak L c.t) (AR.gb hc0 ks hk.1 hn ho hk.2 hs h2)⟩
     ·cases h1
    ·cases h1
   ·cases h1
  ·cases h1
def sliceRE (G : Tab) (n : Nat) (ops : Array Oper) (i : Nat) (t : Tmps) : Option (TypeId × Nat × List AV) :=
 match opAt n ops i t with
 | some (.slice ty x none none none) =>
  match G.kind ty, ev t x with
  | .arr m e, .ep fs 0 none => some (e, m, fs)
  | _, _ => none
 | _ => none
theorem relF_flat {C : Ctx} {α : Type} (f : α → AV) (g : α → List AV) (hfg : ∀ x, f x = .agg (g x)) (sz : Nat) : ∀ (xs : List α) (cells : List Value), (xs.all fun x => decide (AV.sz.go (g x) = sz)) = true → RelL S C (xs.flatMap g) cells → RelF S C sz (xs.map f) cells
 | [], cells, _, r => r
 | x :: xs, cells, h, r => by
  simp only [List.all_cons, Bool.and_eq_true, decide_eq_true_eq] at h
  have hs : ∀ (fs gs : List AV) (cs : List Value), RelL S C (fs ++ gs) cs → ∃ c1 c2, cs = c1 ++ c2 ∧ RelL S C fs c1 ∧ RelL S C gs c2 := by
   intro fs
   induction fs with
   | nil => intro gs cs q; exact ⟨[], cs, rfl, rfl, q⟩
   | cons a fs ih =>
    intro gs cs q
    obtain ⟨c1, c2, rfl, h2, h3⟩ := q
    obtain ⟨d1, d2, rfl, h4, h5⟩ := ih gs c2 h3
    exact ⟨c1 ++ d1, d2, by rw [List.append_assoc], ⟨c1, d1, rfl, h2, h4⟩, h5⟩
  obtain ⟨c1, c2, rfl, h2, h3⟩ := hs (g x) (xs.flatMap g) cells (by simpa [List.flatMap_cons] using r)
  refine ⟨c1, c2, rfl, ?_, (RelL.len _ _ h2).trans h.1, relF_flat f g hfg sz xs c2 h.2 h3⟩
  rw [hfg]
  exact h2
section
variable [ok : Ok P G] {n : Nat} {ops : Array Oper} {i : Nat} {t : Tmps} {h : List AO}
theorem LSpec.ser {α : Type} (f : α → AV) (g : α → List AV) (hfg : ∀ x, f x = .agg (g x)) (A : List α) (e m : Nat) (q : sliceRE G n ops i t = some (e, m, A.flatMap g) := by kernel_rfl)
  (hc : (decide (A.length = m) && decide (0 < m) && decide (0 < (G.S e).1) && decide (m * (G.S e).2 ≤ reach) && decide (m ≤ maxLen) && A.all fun x => decide (AV.sz.go (g x) = (G.S e).1)) = true := by kernel_rfl) : LSpec P G.S n ops i .pure t h (.sl e (A.map f) true) h := by
 simp only [Bool.and_eq_true, decide_eq_true_eq] at hc
 obtain ⟨⟨⟨⟨⟨c1, c2⟩, c3⟩, c4⟩, c5⟩, c6⟩ := hc
 unfold sliceRE at q
 split at q
 ·rename_i ty x hop
  split at q
  ·rename_i m' e' fs hty hx
   injection q with q
   injection q with q1 q2
   injection q2 with q2 q3
   subst q1; subst q2; subst q3
   refine (opAt_spec hop).spec (fun _ => rfl) fun op ρv C h2 ho H _ hρ => ?_
   have hxv := hρ x (by simp [Op.operands])
   rw [hx] at hxv
   obtain ⟨b, o0, cells, r1, _, r3, r4, r5, r6⟩ := ep_inv hxv
   obtain ⟨d, hd, hf⟩ := kind_desc ok.g hty (by simp)
   simp only [TK.fits] at hf
   subst hf
   have hsz : ∃ ei, G.get e' = some ei := by
    cases hg : G.get e' with
    | some ei => exact ⟨ei, rfl⟩
    | none => simp [Tab.S, hg] at c3
   obtain ⟨ei, hei⟩ := hsz
   have hesz : ∀ w, (sizeOf e').run P w = .ok ei.size w := fun w => run_size (ok.g e' ei hei) w
   obtain ⟨dst, op, oty, pos, after, guard⟩ := op
   simp only at ho
   subst ho
   refine OpOK.same (v := .slice (some ⟨b, o0, none⟩) m' m') (by simpa using H) ?_ ?_
   ·simp [execOp, Instr.sliceAt, Instr.sliceBounds, Instr.sureAddr, r1, ixo, run_underlying hd, hesz, addr_add]
   ·refine ⟨some ⟨b, o0, none⟩, m', ?_, ?_, ?_, c5, ?_, .inr ⟨b, o0, rfl, r3, ?_⟩⟩
    ·rw [List.length_map, c1]
    ·rw [List.length_map, c1]; exact Nat.le_refl _
    ·intro _; rw [List.length_map, c1]
    ·rw [List.length_map, c1]; exact c4
    ·exact RelR.of_RelF c3 _ _ _ (relF_flat f g hfg _ A cells c6 r4) (fun j v hj => r6 j v hj)
  ·cases q
 ·cases q
end
section
variable {s : Option DS}
theorem DX.ser [ok : Ok P G] (L : List Nat) {α : Type} (f : α → AV) (g : α → List AV) (hfg : ∀ x, f x = .agg (g x)) (A : List α) (e0 m : Nat) (D : DX P G F c0 R (updE F L .pure (fun _ => .sl e0 (A.map f) true) hOf s)) (q : sliceRE G F.n (dO F s) (dI s) (dT s) = some (e0, m, A.flatMap g) := by kernel_rfl)
  (hc : (decide (A.length = m) && decide (0 < m) && decide (0 < (G.S e0).1) && decide (m * (G.S e0).2 ≤ reach) && decide (m ≤ maxLen) && A.all fun x => decide (AV.sz.go (g x) = (G.S e0).1)) = true := by kernel_rfl) : DX P G F c0 R s := DX.opF L (LSpec.ser f g hfg A e0 m q hc) D
end
end Go.Sh
namespace Go.Sh
variable {P : Program} {G : Tab} {F : Fn} {c0 : Ctx} {R : Ending → World → Prop} {S : Sizes}
section
variable {n : Nat} {ops : Array Oper} {i : Nat} {t : Tmps} {h : List AO} {K V : Type} [DecidableEq K] {kt : TypeId} {ek : K → AV} {kv : K → Value} {ev_ : V → AV}
end
section
variable {s : Option DS} {K V : Type} [DecidableEq K] {kt : TypeId} {ek : K → AV} {kv : K → Value}
end
end Go.Sh
namespace Go.Sh
variable {P : Program} {G : Tab} {F : Fn} {c0 : Ctx} {R : Ending → World → Prop} {S : Sizes}
section
variable {n : Nat} {ops : Array Oper} {i : Nat} {t : Tmps} {h : List AO}
theorem LQ.xg [ok : Ok P G] {α : Type} (f g : α → AV) (hfg : ∀ x, f x = g x) {xs : List α} {j : Int} {x : α} (hv : ixO xs j = some x) (e : indexE G n ops i t = some (xs.map f, j) := by kernel_rfl) (hf : chOk (g x) = true := by kernel_rfl) : LSpec P G.S n ops i .pure t h (.ep (chD (g x)) 0 none) h := LSpec.xg f g hfg hv e hf
end
section
variable {n : Nat} {ops : Array Oper} {i : Nat} {t : Tmps} {h : List AO}
theorem LQ.gch [ok : Ok P G] (ks os : List Nat) {f : FuncId} {avs : List AV} {hin hout : List AO} {r : AV} (hc : ACalls P G.S f avs hin r hout) (ds es : List (TypeId × Bool) := []) (hos : rowsAt h os = true := by kernel_rfl) (e : callHE2 ks ds es n ops i (giveT os (settle os h) t) (settle os h) f hout r = some (avs, hin) := by kernel_rfl) : LSpec P G.S n ops i .loud t h (bkR ks (settle os h) hout r) (bkH ks (settle os h) hout r) := LSpec.gv os (LSpec.ch ks hc ds es e) hos
end
section
variable {s : Option DS}
theorem DX.gch [ok : Ok P G] (L : List Nat) (ks os : List Nat) {f : FuncId} {avs : List AV} {hin hout : List AO} {r : AV} (hc : ACalls P G.S f avs hin r hout) (D : DX P G F c0 R (updE F L .loud (fun d => bkR ks (settle os d.r.h) hout r) (fun d => bkH ks (settle os d.r.h) hout r) s)) (ds es : List (TypeId × Bool) := []) (hos : rowsAt (dH s) os = true := by kernel_rfl) (e : callHE2 ks ds es F.n (dO F s) (dI s) (giveT os (settle os (dH s)) (dT s)) (settle os (dH s)) f hout r = some (avs, hin) := by kernel_rfl) : DX P G F c0 R s := DX.opF L (LSpec.gv os (LSpec.ch ks hc ds es e) hos) D
end
end Go.Sh
namespace Go.Sh
variable {P : Program} {G : Tab}
def rowA (G : Tab) (e : TypeId) (gs : List AV) : AV := if (G.kind e).isAgg then mkAgg gs else gs.headD .u
inductive Shaped (G : Tab) : TypeId → List AV → Prop
 | int {t : TypeId} {k : IntKind} {n : Int} : G.kind t = .int k → (Lit.int k n).wf = true → Shaped G t [.sc (.int k n)]
 | bool {t : TypeId} {b : Bool} : G.kind t = .bool → Shaped G t [.sc (.bool b)]
 | str {t : TypeId} {s : ByteArray} : G.kind t = .str → s.size ≤ maxLen → Shaped G t [.sc (.string s)]
 | struct {t : TypeId} {fl : List (Nat × TypeId)} {gss : List (List AV)} : G.kind t = .struct fl → gss.length = fl.length → (∀ (i : Nat) (f : Nat × TypeId) (gs : List AV), fl[i]? = some f → gss[i]? = some gs → Shaped G f.2 gs) → Shaped G t gss.flatten
 | arr {t e : TypeId} {k : IntKind} {n : Nat} {xs : List Int} : G.kind t = .arr n e → G.kind e = .int k → xs.length = n → (∀ x ∈ xs, (Lit.int k x).wf = true) → Shaped G t [.arr k n xs]
 | slice {t e : TypeId} {gss : List (List AV)} : G.kind t = .slice e → (∀ gs ∈ gss, Shaped G e gs) → Shaped G t [.sl e (gss.map (rowA G e)) false]
def contigF (G : Tab) (R : TypeId → Bool) : List (Nat × TypeId) → Nat → Option Nat
 | [], off => some off
 | f :: fs, off => if f.1 = off ∧ R f.2 = true then contigF G R fs (off + (G.S f.2).1) else none
def tabR (G : Tab) : Nat → TypeId → Bool
 | 0, _ => false
 | m + 1, t =>
  match G.get t with
  | none => false
  | some i =>
   match i.kind with
   | .int _ => true
   | .bool => true
   | .str => true
   | .struct fl => decide (contigF G (tabR G m) fl 0 = some i.size)
   | .arr n e => (match G.kind e with | .int _ => true | _ => false) && decide ((G.S e).1 = 1) && decide (i.size = n)
   | .slice e => tabR G m e && decide (0 < (G.S e).1)
   | _ => false
def noC (W : World) : Ctx := ⟨W, [], fun _ => False⟩
theorem noC_ok (W : World) (b : Nat) : (noC W).ok b := ⟨id, by simp [noC]⟩
theorem cells_spec {w : World} {base : Nat} {a : Addr} {n : Nat} {cs : List Value} (h : w.cells? base a n = some cs) : cs.length = n ∧ ∀ j v, cs[j]? = some v → w.cell? (a.add j) = some v := by
 unfold World.cells? at h
 split at h
 ·have hl := mapM_some_length h
  rw [List.length_range] at hl
  refine ⟨hl, fun j v hj => ?_⟩
  have hjl : j < n := by rw [← hl]; exact (List.getElem?_eq_some_iff.1 hj).1
  have := mapM_some_get h j j (by simp [hjl])
  rw [this, hj]
 ·cases h
theorem get_size (hG : G.ok P) {t : TypeId} {i : TInfo} (h : G.get t = some i) : P.cellsOf t = (G.S t).1 ∧ P.bytesOf t = (G.S t).2 := by
 obtain ⟨inf, z, k1, k2, k3, _⟩ := (hG t i h).info
 rw [S_get h]
 simp [Program.cellsOf, Program.bytesOf, k1, k2, k3]
theorem rowA_rel {C : Ctx} {S : Sizes} {e : TypeId} {gs : List AV} {cs : List Value} (hs : Shaped G e gs) (r : RelL S C gs cs) : RelV S C (rowA G e gs) cs := by
 unfold rowA
 cases hs with
 | int hk _ => rw [hk]; exact RelL_one.1 r
 | bool hk => rw [hk]; exact RelL_one.1 r
 | str hk _ => rw [hk]; exact RelL_one.1 r
 | slice hk _ => rw [hk]; exact RelL_one.1 r
 | arr hk _ _ _ => rw [hk]; exact RelL_one.1 r
 | struct hk _ _ =>
  rw [hk]
  simp only [TK.isAgg, if_true]
  unfold mkAgg
  split
  ·rename_i h; rw [h] at r; exact RelL_one.1 r
  ·exact r
theorem weightsAll_mem {H : Type} {e : TypeId} : ∀ {l : List (DataW H)} {d : DataW H} {n : Nat}, d ∈ l → n ∈ DataW.weights P e d → n ∈ DataW.weightsAll P e l
 | d0 :: r, d, n, hm, hn => by
   simp only [DataW.weightsAll, List.mem_append]
   rcases List.mem_cons.1 hm with h | h
   ·subst h; exact .inl hn
   ·exact .inr (weightsAll_mem h hn)
theorem trod_shaped (hG : G.ok P) {H : Type} {enc : TypeId × Value → H} {W : World} {sp : Nat → Bool} : ∀ (m : Nat) (t : TypeId), tabR G m t = true → ∀ (fuel : Nat) (cs : List Value) (d : DataW H) (p : List MemPlace),
  DataW.trod enc P W 0 sp true fuel t cs = some (d, p) → (∀ n ∈ DataW.weights P t d, n ≤ reachBytes) → ∃ gs, Shaped G t gs ∧ RelL G.S (noC W) gs cs
 | 0, t, h => by simp [tabR] at h
 | m + 1, t, h => by
  intro fuel cs d p ht hw
  simp only [tabR] at h
  split at h
  ·cases h
  ·rename_i i hi
   have hk : G.kind t = i.kind := by unfold Tab.kind; rw [hi]
   obtain ⟨dsc, hd, hfit⟩ := (hG t i hi).desc
   split at h
   ·rename_i k hik
    rw [hik] at hfit hk
    simp only [TK.fits] at hfit
    subst hfit
    obtain ⟨n, rfl, _, hwf⟩ := DataW.trod_int hd ht
    exact ⟨_, .int hk hwf, RelL_one.2 ⟨rfl, rfl⟩⟩
   ·rename_i hik
    rw [hik] at hfit hk
    simp only [TK.fits] at hfit
    subst hfit
    obtain ⟨b, rfl, _⟩ := DataW.trod_bool hd ht
    exact ⟨_, .bool hk, RelL_one.2 ⟨rfl, rfl⟩⟩
   ·rename_i hik
    rw [hik] at hfit hk
    simp only [TK.fits] at hfit
    subst hfit
    obtain ⟨s, rfl, _, hs⟩ := DataW.trod_string hd ht
    exact ⟨_, .str hk hs, RelL_one.2 ⟨rfl, rfl⟩⟩
   ·rename_i fl hik
    rw [hik] at hfit hk
    obtain ⟨fs, rfl, hfl⟩ := hfit
    have hcon := of_decide_eq_true h
    obtain ⟨xs, n, _, hx, hlen, hxl, hf⟩ := DataW.trod_struct hd ht
    injection hx with hx1 hx2
    have hcl : cs.length = i.size := by rw [hlen, (get_size hG hi).1, S_get hi]
    have hwe : ∀ q ∈ DataW.weightsEach P (fs.toList.map (·.type)) (xs.map (·.1)), q ≤ reachBytes := by
     intro q hq
     refine hw q ?_
     rw [hx1]
     simp only [DataW.weights, hd]
     exact hq
    have key : ∀ (gl : List Field) (ys : List (DataW H × List MemPlace)) (off : Nat), ys.length = gl.length → (∀ (j : Nat) (f : Field), gl[j]? = some f → DataW.trod enc P W 0 sp true n f.type ((cs.drop f.offset).take (P.cellsOf f.type)) = ys[j]?) →
      (∀ q ∈ DataW.weightsEach P (gl.map (·.type)) (ys.map (·.1)), q ≤ reachBytes) → contigF G (tabR G m) (gl.map fun f => (f.offset, f.type)) off = some cs.length →
      ∃ gss : List (List AV), gss.length = gl.length ∧ (∀ (j : Nat) (f : Field) (gs : List AV), gl[j]? = some f → gss[j]? = some gs → Shaped G f.type gs) ∧ RelL G.S (noC W) gss.flatten (cs.drop off) := by
     intro gl
     induction gl with
     | nil =>
      intro ys off h1 h2 h3 h4
      injection h4 with h4
      refine ⟨[], rfl, fun j f gs hj => by simp at hj, ?_⟩
      rw [h4, List.drop_length]
      rfl
     | cons f gl ih =>
      intro ys off h1 h2 h3 h4
      cases ys with
      | nil => simp at h1
      | cons y ys =>
       simp only [List.map_cons, contigF] at h4
       split at h4
       ·rename_i hh
        obtain ⟨ho, hR⟩ := hh
        have hy := h2 0 f rfl
        simp only [List.getElem?_cons_zero] at hy
        have hgf : ∃ fi, G.get f.type = some fi := by
         cases m with
         | zero => simp [tabR] at hR
         | succ m =>
          simp only [tabR] at hR
          split at hR
          ·cases hR
          ·exact ⟨_, by assumption⟩
        obtain ⟨fi, hfi⟩ := hgf
        have hsz := (get_size hG hfi).1
        obtain ⟨y1, y2⟩ := y
        obtain ⟨gs, g1, g2⟩ := trod_shaped hG m f.type hR n _ y1 y2 hy (fun q hq => h3 q (by simp only [List.map_cons, DataW.weightsEach, List.mem_append]; exact .inl hq))
        obtain ⟨gss, k1, k2, k3⟩ := ih ys (off + (G.S f.type).1) (by simpa using h1) (fun j f' hj => by simpa using h2 (j + 1) f' (by simpa using hj)) (fun q hq => h3 q (by simp only [List.map_cons, DataW.weightsEach, List.mem_append]; exact .inr hq)) h4
        refine ⟨gs :: gss, by simp [k1], ?_, ?_⟩
        ·intro j f' gs' hj hgj
         cases j with
         | zero =>
          simp only [List.getElem?_cons_zero, Option.some.injEq] at hj hgj
          subst hj; subst hgj
          exact g1
         | succ j => exact k2 j f' gs' (by simpa using hj) (by simpa using hgj)
        ·rw [List.flatten_cons]
         subst ho
         rw [hsz] at g2
         have := RelL.append gs gss.flatten _ _ g2 k3
         rw [← List.drop_drop, List.take_append_drop] at this
         exact this
       ·cases h4
    obtain ⟨gss, k1, k2, k3⟩ := key fs.toList xs 0 (by simpa using hxl) (fun j f hj => hf j f (by simpa using hj)) hwe (by rw [hfl, hcl]; exact hcon)
    refine ⟨gss.flatten, .struct hk (by rw [k1, ← hfl]; simp) (fun j f gs hj hg => ?_), by simpa using k3⟩
    rw [← hfl] at hj
    rw [List.getElem?_map] at hj
    obtain ⟨f', hf', rfl⟩ := Option.map_eq_some_iff.1 hj
    exact k2 j f' gs hf' hg
   ·rename_i n e hik
    rw [hik] at hfit hk
    simp only [TK.fits] at hfit
    subst hfit
    simp only [Bool.and_eq_true, decide_eq_true_eq] at h
    obtain ⟨⟨h1, h2⟩, h3⟩ := h
    split at h1
    ·rename_i k hek
     obtain ⟨ei, hei, hek'⟩ := kind_get hek (by simp)
     obtain ⟨ed, hed, hef⟩ := (hG e ei hei).desc
     rw [hek'] at hef
     simp only [TK.fits] at hef
     subst hef
     have hce : P.cellsOf e = 1 := by rw [(get_size hG hei).1, h2]
     obtain ⟨xs, m', _, _, hlen, hxl, hf⟩ := DataW.trod_array hd ht
     have hcl : cs.length = n := by rw [hlen, (get_size hG hi).1, S_get hi, h3]
     have each : ∀ j, j < n → ∃ x, cs[j]? = some (.int k x) ∧ (Lit.int k x).wf = true := by
      intro j hj
      have := hf j hj
      rw [hce, Nat.mul_one] at this
      obtain ⟨y, hy⟩ : ∃ y, xs[j]? = some y := ⟨_, List.getElem?_eq_getElem (by omega)⟩
      rw [hy] at this
      obtain ⟨x, e1, _, e2⟩ := DataW.trod_int hed this
      refine ⟨x, ?_, e2⟩
      rw [List.drop_eq_getElem_cons (by omega)] at e1
      simp only [List.take_succ_cons, List.take_zero, List.cons.injEq, and_true] at e1
      rw [List.getElem?_eq_getElem (by omega), e1]
     have all : ∀ (cs : List Value), (∀ j, j < cs.length → ∃ x, cs[j]? = some (.int k x) ∧ (Lit.int k x).wf = true) → ∃ xs : List Int, cs = xs.map (Value.int k) ∧ ∀ x ∈ xs, (Lit.int k x).wf = true := by
      intro cs
      induction cs with
      | nil => intro _; exact ⟨[], rfl, by simp⟩
      | cons c cs ih =>
       intro hh
       obtain ⟨x, e1, e2⟩ := hh 0 (by simp)
       obtain ⟨xs, e3, e4⟩ := ih fun j hj => by simpa using hh (j + 1) (by simpa using hj)
       simp only [List.getElem?_cons_zero, Option.some.injEq] at e1
       exact ⟨x :: xs, by simp [e1, e3], by simpa using ⟨e2, e4⟩⟩
     obtain ⟨zs, e1, e2⟩ := all cs (fun j hj => each j (by omega))
     have hzl : zs.length = n := by rw [← hcl, e1, List.length_map]
     exact ⟨_, .arr hk hek hzl e2, RelL_one.2 ⟨hzl, e1⟩⟩
    ·cases h1
   ·rename_i e hik
    rw [hik] at hfit hk
    simp only [TK.fits] at hfit
    subst hfit
    simp only [Bool.and_eq_true, decide_eq_true_eq] at h
    obtain ⟨h1, h2⟩ := h
    rcases Deep.open_slice hd ht with ⟨rfl, _⟩ | ⟨a, len, cap, mm, n, D, Pl, rfl, hb, hlc, hcm, hmm, hx, hel⟩
    ·exact ⟨_, .slice (gss := []) hk (by simp), RelL_one.2 ⟨none, 0, rfl, Nat.le_refl _, fun h => by simp at h, by decide, by simp [reach], .inl rfl⟩⟩
    ·injection hx with hx1 hx2
     have hge : ∃ ei, G.get e = some ei := by
      cases hq : G.get e with
      | none => unfold Tab.S at h2; rw [hq] at h2; simp at h2
      | some ei => exact ⟨ei, rfl⟩
     obtain ⟨ei, hei⟩ := hge
     have hsz := get_size hG hei
     have hlm : len ≤ mm := by rw [hmm]; split <;> omega
     have hwt : len * P.bytesOf e ≤ reachBytes := by
      have := hw _ (by rw [hx1]; simp only [DataW.weights, hd]; exact List.mem_cons_self)
      simp only [List.length_map, List.length_range] at this
      exact Nat.le_trans (Nat.mul_le_mul_right _ (by omega)) this
     have hwi : ∀ j, j < len → ∀ q ∈ DataW.weights P e (D j), q ≤ reachBytes := by
      intro j hj q hq
      refine hw q ?_
      rw [hx1]
      simp only [DataW.weights, hd]
      refine List.mem_cons_of_mem _ (List.mem_append.2 (.inl (weightsAll_mem (List.mem_map.2 ⟨j, by simpa using hj, rfl⟩) hq)))
     have each : ∀ j, j < len → ∃ gs cs', Shaped G e gs ∧ W.cells? 0 (a.add (j * P.cellsOf e)) (P.cellsOf e) = some cs' ∧ RelL G.S (noC W) gs cs' := by
      intro j hj
      obtain ⟨cs', c1, c2⟩ := hel j (by omega)
      obtain ⟨gs, g1, g2⟩ := trod_shaped hG m e h1 n cs' (D j) (Pl j) c2 (hwi j hj)
      exact ⟨gs, cs', g1, c1, g2⟩
     have all : ∀ (r j0 : Nat), j0 + r = len → ∃ gss : List (List AV), gss.length = r ∧ (∀ gs ∈ gss, Shaped G e gs) ∧ ∀ j gs, gss[j]? = some gs → ∃ cs', W.cells? 0 (a.add ((j0 + j) * P.cellsOf e)) (P.cellsOf e) = some cs' ∧ RelL G.S (noC W) gs cs' := by
      intro r
      induction r with
      | zero => intro j0 _; exact ⟨[], rfl, by simp, by simp⟩
      | succ r ih =>
       intro j0 hj0
       obtain ⟨gs, cs', g1, g2, g3⟩ := each j0 (by omega)
       obtain ⟨gss, k1, k2, k3⟩ := ih (j0 + 1) (by omega)
       refine ⟨gs :: gss, by simp [k1], by simpa using ⟨g1, k2⟩, fun j gs' hj => ?_⟩
       cases j with
       | zero =>
        simp only [List.getElem?_cons_zero, Option.some.injEq] at hj
        subst hj
        exact ⟨cs', g2, g3⟩
       | succ j =>
        have := k3 j gs' (by simpa using hj)
        rwa [show j0 + 1 + j = j0 + (j + 1) by omega] at this
     obtain ⟨gss, k1, k2, k3⟩ := all len 0 (by omega)
     refine ⟨_, .slice hk k2, RelL_one.2 ⟨some a, cap, by rw [List.length_map, k1], by rw [List.length_map, k1]; exact hlc, fun h => by simp at h, hcm, ?_, ?_⟩⟩
     ·rw [List.length_map, k1, ← hsz.2]
      exact Nat.le_trans hwt (Nat.le_of_lt reachBytes_lt)
     ·by_cases hz : gss = []
      ·left; rw [hz]; rfl
      ·right
       have hpos : 0 < len := by rw [← k1]; exact List.length_pos_iff.2 hz
       obtain ⟨gs0, hg0⟩ : ∃ gs, gss[0]? = some gs := ⟨_, List.getElem?_eq_getElem (by omega)⟩
       obtain ⟨cs0, c1, c2⟩ := k3 0 gs0 hg0
       have hc0 := cells_spec c1
       have hne : 0 < cs0.length := by rw [hc0.1, hsz.1]; exact h2
       obtain ⟨v0, hv0⟩ : ∃ v, cs0[0]? = some v := ⟨_, List.getElem?_eq_getElem hne⟩
       have hcell := hc0.2 0 v0 hv0
       have hspot : a.spot = none := by
        simp only [Nat.zero_add, Nat.zero_mul] at hcell
        unfold World.cell? at hcell
        unfold Addr.add at hcell
        simp only [if_true] at hcell
        split at hcell
        ·split at hcell
         ·cases hcell
         ·rename_i hs
          cases hq : a.spot with
          | none => rfl
          | some _ => rw [hq] at hs; simp at hs
        ·cases hcell
       refine ⟨a.block, a.off, ?_, noC_ok W _, ?_⟩
       ·obtain ⟨b, o, s⟩ := a
        simp only at hspot
        subst hspot
        rfl
       ·have haa : a = ⟨a.block, a.off, none⟩ := by
         obtain ⟨b, o, s⟩ := a
         simp only at hspot
         subst hspot
         rfl
        have fin : ∀ (gl : List (List AV)) (off : Nat), (∀ gs ∈ gl, Shaped G e gs) → (∀ j gs, gl[j]? = some gs → ∃ cs', W.cells? 0 ⟨a.block, off + j * (G.S e).1, none⟩ (G.S e).1 = some cs' ∧ RelL G.S (noC W) gs cs') → RelR G.S (noC W).flat a.block (G.S e).1 (gl.map (rowA G e)) off := by
         intro gl
         induction gl with
         | nil => intro off _ _; trivial
         | cons gs gl ih =>
          intro off q1 q2
          obtain ⟨cs', r1, r2⟩ := q2 0 gs rfl
          have r3 := cells_spec r1
          refine ⟨⟨cs', ?_, r3.1, ?_, ?_⟩, ih (off + (G.S e).1) (fun g hg => q1 g (by simp [hg])) ?_⟩
          ·exact RelV.mono (Mono.flat (Step.refl (noC W)).mono) _ _ (by
            have := rowA_rel (q1 gs (by simp)) r2
            have hfl : (noC W).flat = noC W := by
             unfold Ctx.flat noC
             congr 1
             funext b
             simp
            rw [hfl]; exact this)
          ·intro hnil
           rw [hnil] at r3
           simp at r3
           omega
          ·intro j v hj
           have := r3.2 j v hj
           rw [addr_add] at this
           have h' : W.cell? ⟨a.block, off + j, none⟩ = some v := by simpa using this
           exact h'
          ·intro j g hj
           have := q2 (j + 1) g (by simpa using hj)
           rw [Nat.succ_mul, show off + (j * (G.S e).1 + (G.S e).1) = off + (G.S e).1 + j * (G.S e).1 by omega] at this
           exact this
        refine fin gss a.off k2 fun j gs hj => ?_
        obtain ⟨cs', r1, r2⟩ := k3 j gs hj
        rw [haa, addr_add, hsz.1, Nat.zero_add] at r1
        exact ⟨cs', r1, r2⟩
   ·cases h
end Go.Sh
namespace Go.Sh
open Go.ChangeShapes Go.WideShapes Go.RowKit
variable {P : Program} {G : Tab}
theorem open_arg (hG : G.ok P) {H : Type} {enc : TypeId × Value → H} {W : World} {m : Nat} {t : TypeId} {v : Value} {d : DataW H} {p : List MemPlace} {r : Go.Reach} {b0 : Nat} (hR : tabR G m t = true) (hval : Value.okWide P W r b0 t v)
  (h : DataW.Trod enc P W 0 (fun _ => true) true t v d p) (hw : ∀ n ∈ DataW.weights P t d, n ≤ reachBytes) : ∃ gs, Shaped G t gs ∧ VRel1 G.S (noC W) (rowA G t gs) v := by
 obtain ⟨fuel, hf⟩ := h
 obtain ⟨gs, g1, g2⟩ := trod_shaped hG m t hR fuel v.cells.toList d p hf hw
 refine ⟨gs, g1, ?_⟩
 have desc : ∀ {K : TK}, G.kind t = K → K ≠ .other → ∃ dd, P.underlying t = some dd ∧ K.fits dd := fun h1 h2 => kind_desc hG h1 h2
 cases g1 with
 | int hk hwf =>
  obtain ⟨dd, h1, h2⟩ := desc hk (by simp)
  simp only [TK.fits] at h2
  subst h2
  obtain ⟨n, rfl⟩ := okWide_int h1 hval
  have := RelL_one.1 g2
  unfold rowA
  rw [hk]
  exact this
 | bool hk =>
  obtain ⟨dd, h1, h2⟩ := desc hk (by simp)
  simp only [TK.fits] at h2
  subst h2
  obtain ⟨n, rfl⟩ := okWide_bool h1 hval
  have := RelL_one.1 g2
  unfold rowA
  rw [hk]
  exact this
 | str hk _ =>
  obtain ⟨dd, h1, h2⟩ := desc hk (by simp)
  simp only [TK.fits] at h2
  subst h2
  obtain ⟨n, rfl⟩ := okWide_string h1 hval
  have := RelL_one.1 g2
  unfold rowA
  rw [hk]
  exact this
 | slice hk _ =>
  obtain ⟨dd, h1, h2⟩ := desc hk (by simp)
  simp only [TK.fits] at h2
  subst h2
  obtain ⟨a, l, c, rfl⟩ := okWide_slice h1 hval
  have := RelL_one.1 g2
  unfold rowA
  rw [hk]
  exact this
 | arr hk hek hn hwf =>
  obtain ⟨dd, h1, h2⟩ := desc hk (by simp)
  simp only [TK.fits] at h2
  subst h2
  have : ∃ cs, v = .agg cs := by
   unfold Value.okWide at hval
   rw [h1] at hval
   obtain ⟨cs, e, _⟩ := hval
   exact ⟨cs, e⟩
  obtain ⟨cs, rfl⟩ := this
  obtain ⟨q1, q2⟩ := RelL_one.1 g2
  unfold rowA
  rw [hk]
  refine ⟨q1, ?_⟩
  simp only [Value.cells] at q2
  rw [← q2]
 | struct hk h3 h4 =>
  rename_i fl gss
  obtain ⟨dd, h1, h2⟩ := desc hk (by simp)
  obtain ⟨fs, rfl, h2⟩ := h2
  obtain ⟨cs, rfl, _⟩ := okWide_struct h1 hval
  unfold rowA
  rw [hk]
  simp only [TK.isAgg, if_true]
  have := mkAgg_rel (S := G.S) (C := noC W) (cs := cs) g2
  have hne : ∀ l, mkAgg gss.flatten ≠ AV.tup l := by
   intro l
   unfold mkAgg
   split <;> simp
  cases hq : mkAgg gss.flatten with
  | tup l => exact absurd hq (hne l)
  | _ => rw [hq] at this; exact this
theorem below_of {W : World} {C' : Ctx} (st : StepW (noC W) C') : Below W.heap.size W C'.w :=
 ⟨st.os, st.tape, st.output, st.size, fun b hb => st.block b hb (noC_ok W b).2⟩
theorem law_call {f : FuncId} {avs : List AV} {vals : Array Value} {W : World} {b : Bool} (hc : ACalls P G.S f avs [] (.sc (.bool b)) []) (hv : VRels G.S (noC W) avs vals.toList) :
  Calls P f vals W fun e w' => e = .returned (.bool b) ∧ Below W.heap.size W w' := by
 refine (hc.2 (noC W) vals (HRel.nil (fun _ h => h.elim)) hv).mono ?_
 rintro e w' ⟨v, C', rfl, rfl, st, _, hv⟩
 exact ⟨by rw [sc_inv hv], below_of st⟩
theorem shut_arg {H : Type} {enc : TypeId × Value → H} {t : TypeId} (hl : laidOutB P = true) (hr : P.readableRec t = true) (hrow : t < P.types.size) {W W' : World} {v : Value} {d : DataW H} {ps : List MemPlace}
  (h : DataW.Trod enc P W 0 (fun _ => true) true t v d ps) (hb : Below W.heap.size W W') : DataW.Trod enc P W' 0 (fun b => decide (b < W.heap.size)) true t v d ps :=
 Below.trod hl hr hrow h hb (fun x hx => by obtain ⟨n, hn⟩ := h; exact DataW.trod_lt n t _ _ hn x hx)
theorem weights_of {H : Type} {ts : List TypeId} {ds : List (DataW H)} (h : (DataW.weightsEach P ts ds).all (· ≤ reachBytes) = true) {j : Nat} {t : TypeId} {d : DataW H} (ht : ts[j]? = some t) (hd : ds[j]? = some d) : ∀ n ∈ DataW.weights P t d, n ≤ reachBytes := by
 intro n hn
 have := List.all_eq_true.1 h n (DataW.weights_mem_each ht hd n hn)
 simpa using this
theorem Shaped.int_inv {t : TypeId} {k : IntKind} {gs : List AV} (hk : G.kind t = .int k) (h : Shaped G t gs) : ∃ n, gs = [.sc (.int k n)] ∧ (Lit.int k n).wf = true := by
 cases h <;> rename_i hk' <;> first
  | (rename_i h2; rw [hk] at hk'; injection hk' with e; subst e; exact ⟨_, rfl, h2⟩)
  | skip
 all_goals simp_all
theorem Shaped.str_inv {t : TypeId} {gs : List AV} (hk : G.kind t = .str) (h : Shaped G t gs) : ∃ s, gs = [.sc (.string s)] ∧ s.size ≤ maxLen := by
 cases h with
 | str _ h2 => exact ⟨_, rfl, h2⟩
 | int h1 => rw [hk] at h1; cases h1
 | bool h1 => rw [hk] at h1; cases h1
 | struct h1 => rw [hk] at h1; cases h1
 | arr h1 => rw [hk] at h1; cases h1
 | slice h1 => rw [hk] at h1; cases h1
theorem Shaped.arr_inv {t e : TypeId} {n : Nat} {k : IntKind} {gs : List AV} (hk : G.kind t = .arr n e) (hek : G.kind e = .int k) (h : Shaped G t gs) : ∃ xs : List Int, gs = [.arr k n xs] ∧ xs.length = n ∧ ∀ x ∈ xs, (Lit.int k x).wf = true := by
 cases h with
 | arr h1 h2 h3 h4 =>
  rw [hk] at h1
  injection h1 with e1 e2
  subst e1; subst e2
  rw [hek] at h2
  injection h2 with e3
  subst e3
  exact ⟨_, rfl, h3, h4⟩
 | int h1 => rw [hk] at h1; cases h1
 | bool h1 => rw [hk] at h1; cases h1
 | str h1 => rw [hk] at h1; cases h1
 | struct h1 => rw [hk] at h1; cases h1
 | slice h1 => rw [hk] at h1; cases h1
theorem Shaped.slice_inv {t e : TypeId} {gs : List AV} (hk : G.kind t = .slice e) (h : Shaped G t gs) : ∃ gss : List (List AV), gs = [.sl e (gss.map (rowA G e)) false] ∧ ∀ g ∈ gss, Shaped G e g := by
 cases h with
 | slice h1 h2 =>
  rw [hk] at h1
  injection h1 with e1
  subst e1
  exact ⟨_, rfl, h2⟩
 | int h1 => rw [hk] at h1; cases h1
 | bool h1 => rw [hk] at h1; cases h1
 | str h1 => rw [hk] at h1; cases h1
 | struct h1 => rw [hk] at h1; cases h1
 | arr h1 => rw [hk] at h1; cases h1
theorem Shaped.struct_inv {t : TypeId} {fl : List (Nat × TypeId)} {gs : List AV} (hk : G.kind t = .struct fl) (h : Shaped G t gs) : ∃ gss : List (List AV), gs = gss.flatten ∧ gss.length = fl.length ∧ ∀ (i : Nat) (f : Nat × TypeId) (g : List AV), fl[i]? = some f → gss[i]? = some g → Shaped G f.2 g := by
 cases h with
 | struct h1 h2 h3 =>
  rw [hk] at h1
  injection h1 with e1
  subst e1
  exact ⟨_, rfl, h2, h3⟩
 | int h1 => rw [hk] at h1; cases h1
 | bool h1 => rw [hk] at h1; cases h1
 | str h1 => rw [hk] at h1; cases h1
 | slice h1 => rw [hk] at h1; cases h1
 | arr h1 => rw [hk] at h1; cases h1
theorem rows_typedW {α : Type} {e : TypeId} {av : α → AV} {wf : α → Prop} : ∀ (gss : List (List AV)), (∀ g ∈ gss, ∃ x : α, rowA G e g = av x ∧ wf x) → ∃ xs : List α, gss.map (rowA G e) = xs.map av ∧ ∀ x ∈ xs, wf x
 | [], _ => ⟨[], rfl, by simp⟩
 | g :: r, h => by
   obtain ⟨x, hx, hw⟩ := h g (by simp)
   obtain ⟨xs, hxs, hws⟩ := rows_typedW r fun g' hg => h g' (by simp [hg])
   exact ⟨x :: xs, by simp [hx, hxs], by simpa using ⟨hw, hws⟩⟩
abbrev intW (k : IntKind) (n : Int) : Prop := (Lit.int k n).wf = true
abbrev arrW (k : IntKind) (n : Nat) (xs : List Int) : Prop := xs.length = n ∧ ∀ x ∈ xs, (Lit.int k x).wf = true
end Go.Sh