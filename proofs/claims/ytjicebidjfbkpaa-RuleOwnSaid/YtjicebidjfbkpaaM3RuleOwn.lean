import Derived.Carry
import Derived.Laws.IdiomRangeMap
import Derived.Maps.RangeRun
import Derived.Deep.Slices
import Derived.OpenShut
import Derived.SizedLaws
import Derived.WalkKit
import Derived.ProofKit
import Derived.ShutString
import Derived.ChangeOld
import Derived.Test.YtjicebidjfbkpaaM2RuleOwn
set_option linter.unusedVariables false
set_option linter.unusedSimpArgs false
namespace Go.Sh
variable {P : Program} {G : Tab} {F : Fn} {c0 : Ctx} {R : Ending → World → Prop} {S : Sizes}
def mapK (b : Nat) : Value := .map (some b)
structure MQ where
 o : Nat
 mt : TypeId
 kt : TypeId
 et : TypeId
 K : Nat → Value
 kd : VK
 as : List AV
section
variable {n : Nat} {ops : Array Oper} {i : Nat} {t : Tmps} {h : List AO}
theorem LSpec.mm (e : (match opAt n ops i t with | some (.makeMap _ none) => true | _ => false) = true := by kernel_rfl) : LSpec P S n ops i .loud t h (.ref mapK h.length) (h ++ [.vals .mapD []]) := by
 split at e
 ·rename_i ty hop
  refine (opAt_spec hop).spec (fun hh => absurd rfl hh) fun o ρv C h2 hop' H hh hρ => ?_
  have hh := hh (by simp)
  subst hh
  obtain ⟨st, HH⟩ := new_obj H (.map #[] 0) (.vals .mapD []) (fun C' _ hb => ⟨_, [], hb, .nil, ⟨#[], rfl, rfl, fun j e he => by simp at he⟩⟩)
  refine ⟨_, st, by simpa using HH, .inl ⟨.map (some C.w.heap.size), ?_, new_ref H _ mapK rfl⟩⟩
  have hrun : (Instr.makeMap ty none).run P C.w = .ok (.map (some C.w.heap.size)) (C.w.alloc (.map #[] 0)) := rfl
  obtain ⟨dst, op, oty, pos, after, guard⟩ := o
  dsimp only at hop'
  subst hop'
  simp [execOp, hrun]
 ·cases e
variable {K V : Type} [DecidableEq K] {kt : TypeId} {ek : K → AV} {kv : K → Value} {ev_ : V → AV}
end
section
variable {K V : Type}
end
section
variable {K V : Type} [DecidableEq K]
end
section
variable {n : Nat} {ops : Array Oper} {i : Nat} {t : Tmps} {h : List AO}
end
section
variable {n : Nat} {ops : Array Oper} {i : Nat} {t : Tmps} {h : List AO} {K V : Type} [DecidableEq K] {kt : TypeId} {ek : K → AV} {kv : K → Value} {ev_ : V → AV}
end
section
variable {s : Option DS} {K V : Type} [DecidableEq K] {kt : TypeId} {ek : K → AV} {kv : K → Value}
end
section
variable {n : Nat} {ops : Array Oper} {i : Nat} {t : Tmps} {h : List AO} {K V : Type} [DecidableEq K] {kt : TypeId} {ek : K → AV} {kv : K → Value}
theorem LQ.xi [ok : Ok P G] {α : Type} (f : α → AV) {xs : List α} {j : Int} {x : α} (hv : ixO xs j = some x) (e : indexE G n ops i t = some (xs.map f, j) := by kernel_rfl) (hf : chOk (f x) = true := by kernel_rfl) : LSpec P G.S n ops i .pure t h (.ep (chD (f x)) 0 none) h := LSpec.xi f hv e hf
end
end Go.Sh
namespace Go.Sh
variable {P : Program} {G : Tab} {F : Fn} {c0 : Ctx} {R : Ending → World → Prop} {S : Sizes}
section
variable {n : Nat} {ops : Array Oper} {i : Nat} {t : Tmps} {h : List AO}
end
section
variable {s : Option DS}
end
section
variable {n : Nat} {ops : Array Oper} {i : Nat} {t : Tmps} {h : List AO}
end
section
variable {s : Option DS}
end
section
variable {n : Nat} {ops : Array Oper} {i : Nat} {t : Tmps} {h : List AO}
end
section
variable {s : Option DS}
end
section
variable {s : Option DS}
theorem LQ.ch [ok : Ok P G] {n : Nat} {ops : Array Oper} {i : Nat} {t : Tmps} {h : List AO} (ks : List Nat) {f : FuncId} {avs : List AV} {hin hout : List AO} {r : AV} (hc : ACalls P G.S f avs hin r hout) (ds es : List (TypeId × Bool) := []) (e : callHE2 ks ds es n ops i t h f hout r = some (avs, hin) := by kernel_rfl) : LSpec P G.S n ops i .loud t h (bkR ks h hout r) (bkH ks h hout r) := LSpec.ch ks hc ds es e
end
end Go.Sh
namespace Go.Sh
variable {P : Program} {G : Tab} {F : Fn} {c0 : Ctx} {R : Ending → World → Prop} {S : Sizes}
section
variable [ok : Ok P G] {n : Nat} {ops : Array Oper} {i : Nat} {t : Tmps} {h : List AO}
theorem LQ.xo {rows : List AV} {j : Int} (hj : (decide (0 ≤ j) && decide (j < ((rows.length : Nat) : Int))) = true) (e : xoA (indexOE G n ops i t h) = some (rows, j) := by kernel_rfl) : LSpec P G.S n ops i .read t h (xoR (indexOE G n ops i t h)) h := LSpec.xo hj e
end
section
variable {s : Option DS}
end
end Go.Sh
namespace Go.Sh
variable {P : Program} {G : Tab} {F : Fn} {c0 : Ctx} {R : Ending → World → Prop} {S : Sizes}
section
variable [ok : Ok P G] {n : Nat} {ops : Array Oper} {i : Nat} {t : Tmps} {h : List AO}
end
section
variable {s : Option DS}
end
end Go.Sh
namespace Go.Sh
variable {P : Program} {G : Tab} {F : Fn} {c0 : Ctx} {R : Ending → World → Prop} {S : Sizes}
section
variable {n : Nat} {ops : Array Oper} {i : Nat} {t : Tmps} {h : List AO} {K V : Type} [DecidableEq K] {kt : TypeId} {ek : K → AV} {kv : K → Value} {ev_ : V → AV}
end
section
variable {s : Option DS} {K V : Type} [DecidableEq K] {kt : TypeId} {ek : K → AV} {kv : K → Value}
end
end Go.Sh
namespace Go.Sh
variable {P : Program} {G : Tab} {F : Fn} {c0 : Ctx} {R : Ending → World → Prop} {S : Sizes}
section
variable {n : Nat} {ops : Array Oper} {i : Nat} {t : Tmps} {h : List AO}
end
section
variable {n : Nat} {ops : Array Oper} {i : Nat} {t : Tmps} {h : List AO}
end
section
variable {s : Option DS}
end
end Go.Sh
namespace Go.Sh
variable {P : Program} {G : Tab} {F : Fn} {c0 : Ctx} {R : Ending → World → Prop} {S : Sizes}
section
variable {n : Nat} {ops : Array Oper} {i : Nat} {t : Tmps} {h : List AO} {K V : Type} [DecidableEq K] {kt : TypeId} {ek : K → AV} {kv : K → Value} {ev_ : V → AV}
end
section
variable {s : Option DS} {K V : Type} [DecidableEq K] {kt : TypeId} {ek : K → AV} {kv : K → Value}
end
end Go.Sh
namespace Go.Sh
variable {P : Program} {G : Tab} {F : Fn} {c0 : Ctx} {R : Ending → World → Prop} {S : Sizes}
structure FQ where
 p : List Nat
 k : List PI
 id : Nat
 ops : Array Oper
 o : Oper
def mapFix (bm : Nat) (es : Array MapEntry) (clock : Nat) : Nat → Obj → Prop := fun b ob => b = bm ∧ ob = .map es clock
def iterFix (bm clock : Nat) (seen : Array Nat) : Nat → Obj → Prop := fun _ ob => ob = .mapIter (some bm) clock seen clock
def iterK (b : Nat) : Value := .pointer (some ⟨b, 0, none⟩)
structure MapAt (S : Sizes) (c1 : Ctx) {K V : Type} (ek : K → AV) (ev_ : V → AV) (m : List (K × V)) (o bm : Nat) (es : Array MapEntry) (clock : Nat) : Prop where
 rel : MRel S c1.flat ek ev_ m es.toList
 old : ∀ e ∈ es.toList, e.born < clock
 nd : (es.toList.map (·.born)).Nodup
theorem Reach.weaken {f : FuncId} {k : List Item} {a : Act} {w : World} {R R' : Ending → World → Prop} (h : Reach P f k a w R) (hh : ∀ e w, R e w → R' e w) : Reach P f k a w R' := by
 intro cs
 obtain ⟨e, w', fr, h1, h2⟩ := h cs
 exact ⟨e, w', fr, hh e w' h1, h2⟩
def hpE (s : Option Cfg) : List AO := match s with | some c => c.h | none => []
theorem any_obj {C : Ctx} {h : List AO} (H : HRel S C h) {K : Nat → Value} {o : Nat} {φ : Nat → Obj → Prop} {v : Value} (hv : VRel S C (.ref K o) v) (ho : h[o]? = some (.any φ)) : ∃ b ob, C.m[o]? = some (.blk b) ∧ v = K b ∧ C.w.heap[b]? = some ob ∧ φ b ob := by
 obtain ⟨b, h1, h2⟩ := ref_inv hv
 obtain ⟨ob, h3, h4⟩ := H.rel o _ _ ho h1
 exact ⟨b, ob, h1, h2, h3, h4⟩
section
variable {n : Nat} {ops : Array Oper} {i : Nat} {t : Tmps} {h : List AO}
def rngE (P : Program) (n : Nat) (ops : Array Oper) (i : Nat) (t : Tmps) (h : List AO) : Option ((Nat → Value) × Option AO) :=
 match opAt n ops i t with
 | some (.range mt x) =>
  match P.underlying mt, ev t x with
  | some (.map _ _), .ref K o => some (K, h[o]?)
  | _, _ => none
 | _ => none
theorem LSpec.rg (bm : Nat) (es : Array MapEntry) (clock : Nat) (e : rngE P n ops i t h = some (mapK, some (.any (mapFix bm es clock)))) : LSpec P S n ops i .loud t h (.ref iterK h.length) (h ++ [.any (iterFix bm clock #[])]) := by
 unfold rngE at e
 split at e
 ·rename_i mt x hop
  split at e
  ·rename_i kt et K o hu hx
   injection e with e
   injection e with e1 e2
   refine (opAt_spec hop).spec (fun hh => absurd rfl hh) fun q ρv C h2 hop' H hh hρ => ?_
   have hh := hh (by simp)
   subst hh
   have hxv := hρ x (by simp [Op.operands])
   rw [hx] at hxv
   obtain ⟨b, ob, g1, g2, g3, rfl, rfl⟩ := any_obj H hxv e2
   rw [e1] at g2
   have g2' : ρv x = .map (some b) := g2
   obtain ⟨dst, op, oty, pos, after, guard⟩ := q
   dsimp only at hop'
   subst hop'
   obtain ⟨st, HH⟩ := new_obj H (.mapIter (some b) clock #[] clock) (.any (iterFix b clock #[])) (fun C' _ hb => ⟨_, hb, rfl⟩)
   refine ⟨_, st, by simpa using HH, .inl ⟨.pointer (some ⟨C.w.heap.size, 0, none⟩), ?_, new_ref H _ iterK rfl⟩⟩
   have hrun := run_range_map (P := P) C.w mt kt et b es clock hu g3
   simp only [execOp, g2']
   simp [hrun]
  ·cases e
 ·cases e
end
section
variable {s : Option DS}
theorem DX.rg (L : List Nat) (bm : Nat) (es : Array MapEntry) (clock : Nat) (D : DX P G F c0 R (updE F L .loud (fun d => .ref iterK d.r.h.length) (fun d => d.r.h ++ [.any (iterFix bm clock #[])]) s)) (e : rngE P F.n (dO F s) (dI s) (dT s) (dH s) = some (mapK, some (.any (mapFix bm es clock))) := by kernel_rfl) : DX P G F c0 R s := DX.opF L (LSpec.rg bm es clock e) D
end
section
variable {n : Nat} {ops : Array Oper} {i : Nat} {t : Tmps} {h : List AO}
end
end Go.Sh
namespace Go.Sh
variable {P : Program} {G : Tab} {F : Fn} {c0 : Ctx} {R : Ending → World → Prop} {S : Sizes}
def indexM (G : Tab) (n : Nat) (ops : Array Oper) (i : Nat) (t : Tmps) : Option (List AV × Int) :=
 match opAt n ops i t with
 | some (.indexAddr ty x y) =>
  match G.kind ty, ev t x, ev t y with
  | .slice e, .sl e' rows _, .sc (.int _ j) => if okMark G e e' = true ∧ (G.get e).isSome = true then some (rows, j) else none
  | _, _, _ => none
 | _ => none
def chMk (a : AV) : Bool := match chunks a with | some fs => decide (markE ≤ epMark fs) | none => false
theorem chMk_spec {a : AV} (h : chMk a = true) : chunks a = some (chD a) ∧ markE ≤ epMark (chD a) := by
 unfold chMk at h
 unfold chD
 split at h
 ·rename_i fs hf
  rw [hf]
  exact ⟨rfl, of_decide_eq_true h⟩
 ·cases h
theorem LSpec.xm [ok : Ok P G] {n : Nat} {ops : Array Oper} {i : Nat} {t : Tmps} {h : List AO} {α : Type} (f : α → AV) {xs : List α} {j : Int} {x : α} (hv : ixO xs j = some x) (e : indexM G n ops i t = some (xs.map f, j) := by kernel_rfl) (hf : chMk (f x) = true := by kernel_rfl) : LSpec P G.S n ops i .pure t h (.ep (chD (f x)) 0 none) h := by
 obtain ⟨h1, h2⟩ := chMk_spec hf
 obtain ⟨q1, q2⟩ := ixO_map hv f
 unfold indexM at e
 split at e
 ·rename_i ty x y hop
  split at e
  ·rename_i e0 e1 rows' f' k j' hk hx hy
   split at e
   ·rename_i he
    injection e with e
    injection e with e2 e3
    subst e2; subst e3
    exact LSpec.index ok.g hop hk he.2 he.1 (by unfold epOk; rw [decide_eq_true h2, Bool.or_true]) hx hy q1 q2 h1
   ·cases e
  ·cases e
 ·cases e
theorem DX.xm [ok : Ok P G] {s : Option DS} (L : List Nat) {α : Type} (f : α → AV) {xs : List α} {j : Int} {x : α} (hv : ixO xs j = some x) (D : DX P G F c0 R (updE F L .pure (fun _ => .ep (chD (f x)) 0 none) hOf s)) (e : indexM G F.n (dO F s) (dI s) (dT s) = some (xs.map f, j) := by kernel_rfl) (hf : chMk (f x) = true := by kernel_rfl) : DX P G F c0 R s := DX.opF L (LSpec.xm f hv e hf) D
theorem LQ.xm [ok : Ok P G] {n : Nat} {ops : Array Oper} {i : Nat} {t : Tmps} {h : List AO} {α : Type} (f : α → AV) {xs : List α} {j : Int} {x : α} (hv : ixO xs j = some x) (e : indexM G n ops i t = some (xs.map f, j) := by kernel_rfl) (hf : chMk (f x) = true := by kernel_rfl) : LSpec P G.S n ops i .pure t h (.ep (chD (f x)) 0 none) h := LSpec.xm f hv e hf
structure Cvt (K : Ctx → Ctx → Prop) : Prop where
 w : ∀ C D, K C D → D.w = C.w
 flat : ∀ C D, K C D → K C.flat D.flat
def Cv (S : Sizes) (K : Ctx → Ctx → Prop) (a a' : AV) : Prop := ∀ C D, K C D → ∀ cs, RelV S C a cs → RelV S D a' cs
def CvL (S : Sizes) (K : Ctx → Ctx → Prop) (a a' : List AV) : Prop := ∀ C D, K C D → ∀ cs, RelL S C a cs → RelL S D a' cs
def Cv1 (S : Sizes) (K : Ctx → Ctx → Prop) (a a' : AV) : Prop := ∀ C D, K C D → ∀ v, VRel1 S C a v → VRel1 S D a' v
variable {K : Ctx → Ctx → Prop}
theorem Cv.scal {a : AV} (h : scalA a = true := by rfl) : Cv S K a a := fun C D _ cs r => RelV.scal a cs h r
theorem CvL.nil : CvL S K [] [] := fun _ _ _ _ r => r
theorem CvL.cons {a a' : AV} {l l' : List AV} (h : Cv S K a a') (t : CvL S K l l') : CvL S K (a :: l) (a' :: l') := by
 rintro C D k cs ⟨c1, c2, rfl, h1, h2⟩
 exact ⟨c1, c2, rfl, h C D k c1 h1, t C D k c2 h2⟩
theorem Cv.agg {l l' : List AV} (h : CvL S K l l') : Cv S K (.agg l) (.agg l') := fun C D k cs r => h C D k cs r
theorem Cv.sl (hK : Cvt K) {α : Type} {f g : α → AV} {xs : List α} (h : ∀ x ∈ xs, Cv S K (f x) (g x)) {e e' : TypeId} (hS : S e' = S e) (hok : ∀ C D b, K C D → b < C.w.heap.size → C.okE e b → D.okE e' b) (fl : Bool) : Cv S K (.sl e (xs.map f) fl) (.sl e' (xs.map g) fl) := by
 rintro C D k cs ⟨a, c, h1, h2, h3, h4, h5, h6⟩
 rw [List.length_map] at h1 h2 h3 h5
 refine ⟨a, c, by rw [List.length_map]; exact h1, by rw [List.length_map]; exact h2, by rw [List.length_map]; exact h3, h4, by rw [List.length_map, hS]; exact h5, ?_⟩
 rcases h6 with h6 | ⟨b, off, q1, q2, q3⟩
 ·left
  have : xs = [] := by simpa using h6
  rw [this]
  rfl
 ·cases xs with
  | nil => exact .inl rfl
  | cons x xs =>
   refine .inr ⟨b, off, q1, ?_, ?_⟩
   ·obtain ⟨⟨cs', _, _, hne, hc⟩, _⟩ := q3
    have : 0 < cs'.length := List.length_pos_iff.2 hne
    exact hok C D b k (World.block_lt_of_cell? C.w _ (hc 0 cs'[0] (by simp))) q2
   ·rw [hS]
    have kf := hK.flat C D k
    have hw := hK.w _ _ kf
    have key : ∀ (ys : List α) (o : Nat), (∀ y ∈ ys, Cv S K (f y) (g y)) → RelR S C.flat b (S e).1 (ys.map f) o → RelR S D.flat b (S e).1 (ys.map g) o := by
     intro ys
     induction ys with
     | nil => intro _ _ _; trivial
     | cons y ys ih =>
      rintro o hy ⟨⟨cs', r1, r2, r3, r4⟩, r5⟩
      exact ⟨⟨cs', hy y (by simp) _ _ kf _ r1, r2, r3, fun j v hj => by rw [hw]; exact r4 j v hj⟩, ih _ (fun z hz => hy z (by simp [hz])) r5⟩
    exact key (x :: xs) off h q3
theorem Cv.fn {f : FuncId} {l l' : List AV} (h : CvL S K l l') : Cv S K (.fn f l) (.fn f l') := by
 rintro C D k cs ⟨vs, h1, h2⟩
 exact ⟨vs, h1, h C D k _ h2⟩
theorem Cv1.agg {l l' : List AV} (h : CvL S K l l') : Cv1 S K (.agg l) (.agg l') := by
 rintro C D k v ⟨cs, h1, h2⟩
 exact ⟨cs, h1, h C D k _ h2⟩
theorem Cv1.one {a a' : AV} (h : Cv S K a a') (h1 : a.single = true := by rfl) (h2 : a'.single = true := by rfl) : Cv1 S K a a' := by
 intro C D k v r
 rw [VRel1_single h1] at r
 rw [VRel1_single h2]
 exact h C D k _ r
theorem Cv1.scal {a : AV} (h : scalA a = true := by rfl) : Cv1 S K a a := fun C D _ v r => r.scal h
inductive Cvs (S : Sizes) (K : Ctx → Ctx → Prop) : List AV → List AV → Prop
 | nil : Cvs S K [] []
 | cons {a a' : AV} {l l' : List AV} : Cv1 S K a a' → Cvs S K l l' → Cvs S K (a :: l) (a' :: l')
theorem Cvs.rel {l l' : List AV} (h : Cvs S K l l') {C D : Ctx} (k : K C D) : ∀ {vs : List Value}, VRels S C l vs → VRels S D l' vs := by
 induction h with
 | nil => intro vs r; cases r; exact .nil
 | cons h _ ih => intro vs r; cases r with | cons r1 r2 => exact .cons (h C D k _ r1) (ih r2)
structure UnC (C D : Ctx) : Prop where
 w : D.w = C.w
 m : C.m = []
 ok : ∀ b, C.rd b → D.ok b
 N : C.w.heap.size ≤ D.X.N
theorem rd_flat (C : Ctx) (b : Nat) : C.flat.rd b ↔ C.rd b := by
 unfold Ctx.rd
 rw [Ctx.flat_ok]
 exact Iff.rfl
theorem UnC.cvt : Cvt UnC := ⟨fun _ _ h => h.w, fun C D h => ⟨h.w, rfl, fun b hb => (D.flat_ok b).2 (h.ok b ((rd_flat C b).1 hb)), h.N⟩⟩
abbrev Un (S : Sizes) := Cv S UnC
theorem Un.sl {α : Type} {f g : α → AV} {xs : List α} (h : ∀ x ∈ xs, Un S (f x) (g x)) {e e' : TypeId} (hS : S e' = S e := by kernel_rfl) (he : e' < markE := by decide) (fl : Bool) : Un S (.sl e (xs.map f) fl) (.sl e' (xs.map g) fl) :=
 Cv.sl UnC.cvt h hS (fun C D b k hb ho => .inl ⟨he, k.ok b ho.rd, fun hn => absurd (Nat.le_trans k.N hn) (Nat.not_le_of_lt hb)⟩) fl
theorem Un.ep {fs gs : List AV} (h : CvL S UnC fs gs) (off : Nat) (ix : Option (Nat × Nat)) : Un S (.ep fs off ix) (.ep gs off ix) := by
 rintro C D k cs ⟨b, o0, cells, h1, hi, h2, h3, h4, h5⟩
 have hb : b < C.w.heap.size := by
  have : 0 < cells.length := List.length_pos_iff.2 h4
  exact World.block_lt_of_cell? C.w _ (h5 0 cells[0] (by simp))
 exact ⟨b, o0, cells, h1, hi, .inl ⟨k.ok b h2.rd, fun hn => absurd (Nat.le_trans k.N hn) (Nat.not_le_of_lt hb)⟩, h _ _ (UnC.cvt.flat C D k) _ h3, h4, fun j v hj => by rw [k.w]; exact h5 j v hj⟩
theorem ACalls.un {f : FuncId} {l l' : List AV} {r : AV} (h : Cvs S UnC l l') (hc : ACalls P S f l' [] r []) (hr : scalA r = true := by rfl) : ACalls P S f l [] r [] := by
 refine ⟨hc.1, fun C vals H hv => ?_⟩
 have hm : C.m = [] := List.eq_nil_of_length_eq_zero (by rw [H.len]; rfl)
 let D : Ctx := ⟨C.w, [], ⟨fun b => C.X b ∧ ¬ C.X.P b, fun _ => False, C.w.heap.size, fun _ h => h.elim⟩⟩
 have k : UnC C D := by
  refine ⟨rfl, hm, fun b hb => ⟨fun hx => ?_, by simp [D]⟩, Nat.le_refl _⟩
  rcases hb with hb | hb
  ·exact hb.1 hx.1
  ·exact hx.2 hb
 have HD : HRel S D [] := HRel.nil (fun b hb => H.Xlt b hb.1)
 refine (hc.2 D vals HD (h.rel k hv)).mono ?_
 rintro e w' ⟨v, D', rfl, rfl, st, _, hv'⟩
 refine ⟨v, ⟨D'.w, [], C.X⟩, rfl, rfl, ?_, HRel.nil (fun b hb => Nat.lt_of_lt_of_le (H.Xlt b hb) st.size), hv'.scal hr⟩
 refine ⟨st.os, st.tape, st.output, st.size, fun b hb _ => st.block b hb (by simp [D]), fun b _ ho => ⟨ho.1, by simp⟩, fun b _ _ s hs => by simp at hs, fun o b ho => by rw [hm] at ho; simp at ho, fun o v k mn ho => by rw [hm] at ho; simp at ho, fun o v k gs B ho => by rw [hm] at ho; simp at ho, rfl, fun b hb _ => st.block b hb (by simp [D])⟩
structure MkC (C D : Ctx) : Prop where
 w : D.w = C.w
 P : ∀ b, b < C.w.heap.size → C.rd b → D.X.P b
theorem MkC.cvt : Cvt MkC := ⟨fun _ _ h => h.w, fun C D h => ⟨h.w, fun b hb hr => h.P b hb ((rd_flat C b).1 hr)⟩⟩
abbrev Mk (S : Sizes) := Cv S MkC
theorem Mk.sl {α : Type} {f g : α → AV} {xs : List α} (h : ∀ x ∈ xs, Mk S (f x) (g x)) {e e' : TypeId} (hS : S e' = S e := by kernel_rfl) (he : markE ≤ e' := by decide) (fl : Bool) : Mk S (.sl e (xs.map f) fl) (.sl e' (xs.map g) fl) :=
 Cv.sl MkC.cvt h hS (fun C D b k hb ho => .inr ⟨he, k.P b hb ho.rd⟩) fl
structure Shown (C : Ctx) (n : Nat) : Prop where
 m : C.m.length = n
 N : C.X.N ≤ C.w.heap.size
 X : ∀ b, b < C.w.heap.size → C.X b ∨ ∃ o : Nat, C.m[o]? = some (Slot.blk b)
def showC (C : Ctx) : Ctx := ⟨C.w, C.m, ⟨fun b => b < C.w.heap.size ∧ ∀ s ∈ C.m, ¬ s.has b, fun b => b < C.w.heap.size ∧ ∀ s ∈ C.m, ¬ s.has b, C.w.heap.size, fun _ h => h⟩⟩
theorem showC_mk {C : Ctx} {h : List AO} (H : HRel S C h) : MkC C (showC C) := ⟨rfl, fun b hb hr => ⟨hb, fun s hs e => by
 rcases hr with hr | hr
 ·exact hr.2 s hs e
 ·exact H.nX s hs b e (C.X.sub b hr)⟩⟩
def ShO (S : Sizes) (a b : AO) : Prop := ∃ e fs gs, a = .box e fs ∧ b = .box e gs ∧ CvL S MkC fs gs
inductive ShH (S : Sizes) : List AO → List AO → Prop
 | nil : ShH S [] []
 | cons {e : TypeId} {fs gs : List AV} {l l' : List AO} : CvL S MkC fs gs → ShH S l l' → ShH S (.box e fs :: l) (.box e gs :: l')
theorem ShH.get {h h' : List AO} (H : ShH S h h') : h'.length = h.length ∧ ∀ (o : Nat) (b : AO), h'[o]? = some b → ∃ a, h[o]? = some a ∧ ShO S a b := by
 induction H with
 | nil => exact ⟨rfl, fun o b h => by simp at h⟩
 | @cons e fs gs l l' h1 _ ih =>
  refine ⟨by simp [ih.1], fun o b h => ?_⟩
  cases o with
  | zero =>
   simp only [List.getElem?_cons_zero, Option.some.injEq] at h
   subst h
   exact ⟨_, rfl, e, fs, gs, rfl, rfl, h1⟩
  | succ o => simpa using ih.2 o b (by simpa using h)
theorem showC_heap {C : Ctx} {h h' : List AO} (H : HRel S C h) (hh : ShH S h h') : HRel S (showC C) h' ∧ Shown (showC C) h'.length := by
 obtain ⟨hl, hg⟩ := hh.get
 have hk := showC_mk H
 have slot : ∀ (o : Nat) (s : Slot), C.m[o]? = some s → ∃ b, s = .blk b := by
  intro o s hs
  have hlt : o < h'.length := by rw [hl, ← H.len]; exact (List.getElem?_eq_some_iff.1 hs).1
  obtain ⟨a, h1, e, fs, gs, rfl, _, _⟩ := hg o _ (List.getElem?_eq_getElem hlt)
  have hr := H.rel o _ s h1 hs
  cases s with
  | blk b => exact ⟨b, rfl⟩
  | _ => exact hr.elim
 refine ⟨⟨by rw [hl]; exact H.len, fun o ob s ho hs => ?_, H.inj, fun s hs b hb hx => hx.2 s hs hb, fun b hb => hb.1⟩, by rw [hl]; exact H.len, Nat.le_refl _, fun b hb => ?_⟩
 ·obtain ⟨a, h1, e, fs, gs, rfl, rfl, hc⟩ := hg o ob ho
  have hr := H.rel o _ s h1 hs
  cases s <;> simp only [ORel] at hr ⊢
  obtain ⟨cs, r1, r2⟩ := hr
  exact ⟨cs, r1, hc C _ hk _ r2⟩
 ·by_cases hn : ∀ s ∈ C.m, ¬ s.has b
  ·exact .inl ⟨hb, hn⟩
  ·right
   have hn : ∃ s ∈ C.m, s.has b := Classical.byContradiction fun hc => hn fun s hs e => hc ⟨s, hs, e⟩
   obtain ⟨s, hs, he⟩ := hn
   obtain ⟨o, ho⟩ := List.mem_iff_getElem?.1 hs
   obtain ⟨b', rfl⟩ := slot o s ho
   have : b' = b := by injection he
   subst this
   exact ⟨o, ho⟩
theorem step_unshow {C0 C C' : Ctx} (hm : C0.m = []) (st : StepW C0 C) (st' : StepW (showC C) C') : StepW C0 ⟨C'.w, [], C0.X⟩ := by
 have hb : ∀ b, b < C0.w.heap.size → C'.w.heap[b]? = C0.w.heap[b]? := fun b hb => (st'.block b (Nat.lt_of_lt_of_le hb st.size) (st.fresh b hb (by rw [hm]; simp))).trans (st.block b hb (by rw [hm]; simp))
 exact ⟨st'.os.trans st.os, st'.tape.trans st.tape, st'.output.trans st.output, Nat.le_trans st.size st'.size, fun b h _ => hb b h, fun b _ ho => ⟨ho.1, by simp⟩, fun b _ _ s hs => by simp at hs, fun o b ho => by rw [hm] at ho; simp at ho, fun o v k mn ho => by rw [hm] at ho; simp at ho, fun o v k gs B ho => by rw [hm] at ho; simp at ho, rfl, fun b h _ => hb b h⟩
theorem rp_unshow {C0 C : Ctx} {Xlt : ∀ b, C0.X b → b < C.w.heap.size} (hm : C0.m = []) (st : StepW C0 C) {r : AV} {hE : List AO} (hr : scalA r = true) {e : Ending} {w : World} (h : Rp S (showC C) r hE e w) : Rp S C0 r [] e w := by
 obtain ⟨v, C', rfl, rfl, st', _, hv⟩ := h
 have st2 := step_unshow hm st st'
 exact ⟨v, ⟨C'.w, [], C0.X⟩, rfl, rfl, st2, HRel.nil (fun b hb => Nat.lt_of_lt_of_le (Xlt b hb) st'.size), hv.scal hr⟩
theorem AR.shown {k : List PI} {t t' : Tmps} {h h' hE : List AO} {r : AV} (hm : c0.m = []) (hr : scalA r = true) (ht : ∀ i, ∀ C D v, MkC C D → VRel G.S C (lk t i) v → D.m = C.m → VRel G.S D (lk t' i) v) (hh : ShH G.S h h')
  (A : ∀ c1 : Ctx, Shown c1 h'.length → AR P G F c1 (Rp G.S c1 r hE) k t' h') : AR P G F c0 (Rp G.S c0 r []) k t h := by
 intro C a st AA
 obtain ⟨H1, H2⟩ := showC_heap AA.heap hh
 have := A (showC C) H2 (showC C) a (StepW.refl _) ⟨AA.defers, AA.size, fun i => ht i C _ _ (showC_mk AA.heap) (AA.tmps i) rfl, H1⟩
 exact this.weaken fun e w q => rp_unshow (Xlt := fun b hb => AA.heap.Xlt b (by rw [st.X]; exact hb)) hm st hr q
end Go.Sh
namespace Go.Sh
variable {P : Program} {G : Tab} {F : Fn} {c0 : Ctx} {R : Ending → World → Prop} {S : Sizes}
def Jp (S : Sizes) (D : Ctx) (a : AV) : Value → Prop := fun x => RelV S D a [x]
def isI (k : IntKind) : Value → Prop := fun v => ∃ x, v = .int k x
theorem is_inv {C : Ctx} {ψ : Value → Prop} {v : Value} (h : VRel S C (.is ψ) v) : ψ v := by
 obtain ⟨x, h1, _, h2⟩ := (h : RelV S C (.is ψ) [v])
 have : x = v := by simpa using h1.symm
 subst this
 exact h2
theorem is_mk {C : Ctx} {ψ : Value → Prop} {v : Value} (h1 : v.oneCell' = true) (h : ψ v) : VRel S C (.is ψ) v := ⟨v, rfl, h1, h⟩
theorem jp_mk {C D : Ctx} {a : AV} {v : Value} (h : RelV S D a [v]) : VRel S C (.is (Jp S D a)) v := is_mk (RelV.one a _ h v (by simp)) h
def likeV (u v : Value) : Prop := u = v ∨ ∃ k x y, u = .int k x ∧ v = .int k y
def LikeB (w0 w : World) (b : Nat) : Prop := ∀ cs e fz, w0.heap[b]? = some (.cells cs e fz) → ∃ cs', w.heap[b]? = some (.cells cs' e fz) ∧ cs'.size = cs.size ∧ ∀ (j : Nat) (u : Value), cs[j]? = some u → ∃ v, cs'[j]? = some v ∧ likeV u v
theorem LikeB.refl (w : World) (b : Nat) : LikeB w w b := fun cs e fz h => ⟨cs, h, rfl, fun j u hu => ⟨u, hu, .inl rfl⟩⟩
theorem LikeB.of_eq {w0 w w' : World} {b : Nat} (h : LikeB w0 w b) (e : w'.heap[b]? = w.heap[b]?) : LikeB w0 w' b := by
 intro cs t fz hc
 rw [e]
 exact h cs t fz hc
def junkF (D : Ctx) : Fam where
 rel := fun S C v gs B => (∀ b, B b ↔ (b < D.w.heap.size ∧ D.ok b)) ∧ D.w.heap.size ≤ C.w.heap.size ∧ ∀ b, B b → LikeB D.w C.w b
 mono := fun hm hb h => ⟨h.1, Nat.le_trans h.2.1 hm.size, fun b hB => (h.2.2 b hB).of_eq (hb b hB)⟩
 lt := fun h b hB => Nat.lt_of_lt_of_le ((h.1 b).1 hB).1 h.2.1
structure PK (C D : Ctx) : Prop where
 w : D.w = C.w
 P : ∀ b, C.X.P b → D.X.P b
theorem PK.cvt : Cvt PK := ⟨fun _ _ h => h.w, fun C D h => ⟨h.w, h.P⟩⟩
theorem PK.sl {α : Type} {f : α → AV} {xs : List α} (h : ∀ x ∈ xs, Cv S PK (f x) (f x)) {e : TypeId} (he : markE ≤ e := by decide) (fl : Bool) : Cv S PK (.sl e (xs.map f) fl) (.sl e (xs.map f) fl) :=
 Cv.sl PK.cvt h rfl (fun C D b k _ ho => .inr ⟨he, k.P b (ho.resolve_left fun x => absurd x.1 (Nat.not_lt_of_le he)).2⟩) fl
def TR (Q : AV → AV → Prop) : Tmps → Tmps → Prop
 | [], [] => True
 | (i, a) :: t, (j, b) :: t' => i = j ∧ Q a b ∧ TR Q t t'
 | _, _ => False
theorem TR.lk {Q : AV → AV → Prop} (hu : Q .u .u) : ∀ (t t' : Tmps), TR Q t t' → ∀ i, Q (Go.Sh.lk t i) (Go.Sh.lk t' i)
 | [], [], _, i => hu
 | (i, a) :: t, (j, b) :: t', h, n => by
  obtain ⟨rfl, h1, h2⟩ := h
  simp only [Go.Sh.lk]
  split
  ·exact h1
  ·exact TR.lk hu t t' h2 n
 | [], _ :: _, h, _ => h.elim
 | _ :: _, [], h, _ => h.elim
structure Jk (C D E : Ctx) : Prop where
 d : D = C.flat
 w : E.w = C.w
 X : E.X = C.X
 m : ∃ s, E.m = C.m ++ [s]
theorem Jk.pk {C D E : Ctx} (h : Jk C D E) : PK C E := ⟨h.w, fun b hb => by rw [h.X]; exact hb⟩
abbrev JkV (S : Sizes) (C D E : Ctx) (a b : AV) : Prop := ∀ v, VRel S C a v → VRel S E b v
theorem JkV.u {C D E : Ctx} : JkV S C D E .u .u := fun _ h => h
theorem JkV.scal {C D E : Ctx} {a : AV} (h : scalA a = true := by rfl) : JkV S C D E a a := fun _ r => r.scal h
theorem JkV.pk {C D E : Ctx} (h : Jk C D E) {a : AV} (h1 : a.single = true) (c : Cv S PK a a) : JkV S C D E a a := by
 intro v r
 rw [VRel_single h1] at r ⊢
 exact c C E h.pk _ r
theorem JkV.own {C D E : Ctx} (h : Jk C D E) {o k : Nat} : JkV S C D E (.own o k) (.own o k) := by
 rintro v ⟨v', v0, kk, mn, h1, h2, h3, h4⟩
 obtain ⟨s, hs⟩ := h.m
 exact ⟨v', v0, kk, mn, h1, h2, by rw [hs, List.getElem?_append_left (List.getElem?_eq_some_iff.1 h3).1]; exact h3, h4⟩
theorem JkV.sl {C D E : Ctx} (h : Jk C D E) {e : TypeId} {rows : List AV} {f : Bool} : JkV S C D E (.sl e rows f) (.is (Jp S D (.sl e rows f))) := by
 intro v r
 rw [h.d]
 exact jp_mk (RelV.plain (Under.toFlat C) _ _ rfl (r : RelV S C (.sl e rows f) [v]))
def JkO (S : Sizes) (C D E : Ctx) (a b : AO) : Prop := ∀ s, ORel S C a s → ORel S E b s
theorem JkO.box {C D E : Ctx} (h : Jk C D E) {e : TypeId} {fs : List AV} (c : CvL S PK fs fs) : JkO S C D E (.box e fs) (.box e fs) := by
 intro s r
 cases s <;> simp only [ORel] at r ⊢
 obtain ⟨cs, r1, r2⟩ := r
 exact ⟨cs, by rw [h.w]; exact r1, c C E h.pk _ r2⟩
theorem JkO.row {C D E : Ctx} (h : Jk C D E) {α : Type} {f g : α → AV} {xs : List α} {e : TypeId} {k : Nat} (hk : 1000000 ≤ k) (hfg : ∀ x ∈ xs, ∀ cs, RelV S D (f x) cs → RelV S E.flat (g x) cs) : JkO S C D E (.row e (xs.map f) k true) (.row e (xs.map g) k true) := by
 intro s r
 cases s <;> simp only [ORel] at r ⊢
 obtain ⟨h1, h2, h3, h4, h5⟩ := r
 subst h1
 rw [List.length_map] at h2
 refine ⟨rfl, by rw [List.length_map]; exact h2, fun hm => ?_, fun hm => ?_, fun a b c => by rw [List.map_eq_nil_iff]; exact List.map_eq_nil_iff.1 (h5 a b c)⟩
 ·have hx : xs = [] := List.map_eq_nil_iff.1 (h5 hk trivial hm)
  subst hx
  obtain ⟨a, c, q1, q2, q3, q4, q5, _⟩ := h3 hm
  exact ⟨a, c, q1, q2, q3, q4, q5, .inl rfl⟩
 ·obtain ⟨t0, t1, cells, t2, t3, t4⟩ := h4 hm
  rw [List.length_map] at t2 t4
  refine ⟨t0, t1, cells, by rw [List.length_map, h.w]; exact t2, ?_, by rw [List.length_map, h.w]; exact t4⟩
  rw [← h.d] at t3
  have key : ∀ (ys : List α) (cs : List Value), (∀ y ∈ ys, y ∈ xs) → RelF S D (S e).1 (ys.map f) cs → RelF S E.flat (S e).1 (ys.map g) cs := by
   intro ys
   induction ys with
   | nil => intro cs _ r; exact r
   | cons y ys ih =>
    rintro cs hy ⟨c1, c2, q1, q2, q3, q4⟩
    exact ⟨c1, c2, q1, hfg y (hy y (by simp)) _ q2, q3, ih _ (fun z hz => hy z (by simp [hz])) q4⟩
  exact key xs cells (fun _ h => h) t3
inductive JkH (S : Sizes) (C D E : Ctx) : List AO → List AO → Prop
 | nil : JkH S C D E [] []
 | cons {a b : AO} {l l' : List AO} : JkO S C D E a b → JkH S C D E l l' → JkH S C D E (a :: l) (b :: l')
theorem JkH.len {C D E : Ctx} {h h' : List AO} (H : JkH S C D E h h') : h'.length = h.length := by
 induction H with
 | nil => rfl
 | cons _ _ ih => simp [ih]
theorem JkH.get {C D E : Ctx} {h h' : List AO} (H : JkH S C D E h h') : ∀ (o : Nat) (b : AO), h'[o]? = some b → ∃ a, h[o]? = some a ∧ JkO S C D E a b := by
 induction H with
 | nil => intro o b h; simp at h
 | cons h1 _ ih =>
  intro o b h
  cases o with
  | zero =>
   simp only [List.getElem?_cons_zero, Option.some.injEq] at h
   subst h
   exact ⟨_, rfl, h1⟩
  | succ o => simpa using ih o b (by simpa using h)
theorem AR.junk {k : List PI} {t : Tmps} {h : List AO} {n : Nat} (hsh : Shown c0 n)
  (A : ∀ C D E, Jk C D E → D.flat = D → (∀ b, b < D.X.N → D.X b) → ∃ t' h', TR (JkV G.S C D E) t t' ∧ JkH G.S C D E h h' ∧ AR P G F c0 R k t' (h' ++ [.fam (junkF D) 0])) : AR P G F c0 R k t h := by
 intro C a st AA
 have H := AA.heap
 let B : Nat → Prop := fun b => b < C.w.heap.size ∧ C.ok b
 let E : Ctx := ⟨C.w, C.m ++ [.fam .nilIface 0 [] B], C.X⟩
 have jk : Jk C C.flat E := ⟨rfl, rfl, rfl, _, rfl⟩
 have hXC : ∀ b, b < C.flat.X.N → C.flat.X b := by
  intro b hb
  have hb : b < c0.X.N := by rw [← st.X]; exact hb
  rcases hsh.X b (Nat.lt_of_lt_of_le hb hsh.N) with h | ⟨o, ho⟩
  ·exact .inl (by rw [st.X]; exact h)
  ·exact .inr ⟨_, List.mem_of_getElem? (st.blk o b ho), rfl⟩
 obtain ⟨t', h', ht, hh, A⟩ := A C C.flat E jk C.flat_flat hXC
 have hold : ∀ b, b < c0.w.heap.size → ¬ B b := fun b hb hB => by
  rcases hsh.X b hb with h | ⟨o, ho⟩
  ·exact hB.2.1 (by rw [st.X]; exact h)
  ·exact hB.2.2 _ (List.mem_of_getElem? (st.blk o b ho)) rfl
 have mem : ∀ s ∈ E.m, s ∈ C.m ∨ s = .fam .nilIface 0 [] B := fun s hs => by
  rcases List.mem_append.1 hs with hs | hs
  ·exact .inl hs
  ·exact .inr (by simpa using hs)
 have up : ∀ (o : Nat) (s : Slot), C.m[o]? = some s → E.m[o]? = some s := fun o s hs => by
  show (C.m ++ _)[o]? = _
  rw [List.getElem?_append_left (List.getElem?_eq_some_iff.1 hs).1]
  exact hs
 have st' : StepW c0 E := by
  refine ⟨st.os, st.tape, st.output, st.size, st.block, fun b hb ho => ⟨(st.ok b hb ho).1, fun s hs e => ?_⟩, fun b hb hn s hs e => ?_, fun o b ho => up o _ (st.blk o b ho), fun o v k mn ho => ?_, fun o v k gs B ho => ?_, st.X, st.keep⟩
  ·rcases mem s hs with hs | rfl
   ·exact (st.ok b hb ho).2 s hs e
   ·exact hold b hb e
  ·rcases mem s hs with hs | rfl
   ·exact st.fresh b hb hn s hs e
   ·exact hold b hb e
  ·obtain ⟨v', k', mn', h1⟩ := st.row o v k mn ho
   exact ⟨v', k', mn', up o _ h1⟩
  ·obtain ⟨s', h1, h2⟩ := st.fam o v k gs B ho
   exact ⟨s', up o _ h1, h2⟩
 refine A E a st' ⟨AA.defers, AA.size, fun i => ?_, ?_⟩
 ·exact TR.lk JkV.u t t' ht i _ (AA.tmps i)
 ·have hl := hh.len
  refine ⟨by show (C.m ++ _).length = _; rw [List.length_append, List.length_append, hl, H.len]; rfl, fun o ob s ho hs => ?_, fun o o' s s' b hs hs' hb hb' => ?_, fun s hs b hb => ?_, H.Xlt⟩
  ·rcases Nat.lt_or_ge o h.length with hlt | hge
   ·rw [List.getElem?_append_left (by rw [hl]; exact hlt)] at ho
    obtain ⟨a, h1, h2⟩ := hh.get o ob ho
    have hs' : C.m[o]? = some s := by
     have : (C.m ++ [Slot.fam .nilIface 0 [] B])[o]? = some s := hs
     rwa [List.getElem?_append_left (by rw [H.len]; exact hlt)] at this
    exact h2 s (H.rel o a s h1 hs')
   ·have hlt : o < (h' ++ [AO.fam (junkF C.flat) 0]).length := (List.getElem?_eq_some_iff.1 ho).1
    have ho' : o = h'.length := by rw [List.length_append, List.length_singleton, hl] at hlt; omega
    subst ho'
    have e1 : AO.fam (junkF C.flat) 0 = ob := by simpa using ho
    have e2 : Slot.fam .nilIface 0 [] B = s := by
     have : (C.m ++ [Slot.fam .nilIface 0 [] B])[h'.length]? = some s := hs
     rw [hl, ← H.len] at this
     simpa using this
    subst e1; subst e2
    exact ⟨rfl, fun b => ⟨fun hB => ⟨hB.1, (C.flat_ok b).2 hB.2⟩, fun hB => ⟨hB.1, (C.flat_ok b).1 hB.2⟩⟩, Nat.le_refl _, fun b _ => LikeB.refl _ b⟩
  ·have g : ∀ (o : Nat) (s : Slot), E.m[o]? = some s → C.m[o]? = some s ∨ (o = C.m.length ∧ s = .fam .nilIface 0 [] B) := by
    intro o s hs
    have hs : (C.m ++ [Slot.fam .nilIface 0 [] B])[o]? = some s := hs
    rcases Nat.lt_or_ge o C.m.length with hlt | hge
    ·rw [List.getElem?_append_left hlt] at hs; exact .inl hs
    ·have hlt := (List.getElem?_eq_some_iff.1 hs).1
     have ho' : o = C.m.length := by simp at hlt; omega
     subst ho'
     exact .inr ⟨rfl, by simpa using hs.symm⟩
   rcases g o s hs with h1 | ⟨h1, rfl⟩ <;> rcases g o' s' hs' with h2 | ⟨h2, rfl⟩
   ·exact H.inj o o' s s' b h1 h2 hb hb'
   ·exact absurd hb (hb'.2.2 s (List.mem_of_getElem? h1))
   ·exact absurd hb' (hb.2.2 s' (List.mem_of_getElem? h2))
   ·omega
  ·rcases mem s hs with hs | rfl
   ·exact H.nX s hs b hb
   ·exact hb.2.1
section
variable {n : Nat} {ops : Array Oper} {i : Nat} {t : Tmps} {h : List AO} {D : Ctx}
def lenJ (G : Tab) (n : Nat) (ops : Array Oper) (i : Nat) (t : Tmps) : Option AV :=
 match opAt n ops i t with
 | some (.call { callee := .builtin .len, args := xs, argTypes := ts }) =>
  match xs.toList, ts.toList with
  | [x], [ty] => match G.kind ty with | .slice _ => some (ev t x) | _ => none
  | _, _ => none
 | _ => none
theorem LSpec.jlen [ok : Ok P G] {e : TypeId} {rows : List AV} {fl : Bool} (hq : lenJ G n ops i t = some (.is (Jp G.S D (.sl e rows fl)))) : LSpec P G.S n ops i .pure t h (.sc (.int .i64 (rows.length : Int))) h := by
 unfold lenJ at hq
 split at hq
 ·rename_i xs ts hop
  split at hq
  ·rename_i x ty hxs hts
   obtain rfl : xs = #[x] := by rw [← Array.toArray_toList (xs := xs), hxs]
   obtain rfl : ts = #[ty] := by rw [← Array.toArray_toList (xs := ts), hts]
   split at hq
   ·rename_i e0 hk
    injection hq with hq
    refine (opAt_spec hop).spec (fun _ => rfl) fun o ρv C h2 ho H _ hρ => ?_
    have hx := hρ x (by simp [Op.operands, Call.operands])
    rw [hq] at hx
    obtain ⟨a, c, s1, _⟩ := is_inv hx
    have s1 : ρv x = .slice a rows.length c := by simpa using s1
    obtain ⟨d, hd, hf⟩ := kind_desc ok.g hk (by simp)
    simp only [TK.fits] at hf
    subst hf
    obtain ⟨dst, op, oty, pos, after, guard⟩ := o
    simp only at ho
    subst ho
    refine OpOK.same (by simpa using H) ?_ (sc_mk rfl)
    simp [execOp, resolve, invoke, builtin, Builtin.len_, s1, run_underlying hd, goInt]
   ·cases hq
  ·cases hq
 ·cases hq
def idxJ (G : Tab) (n : Nat) (ops : Array Oper) (i : Nat) (t : Tmps) : Option (TypeId × AV × AV) :=
 match opAt n ops i t with
 | some (.indexAddr ty x y) => match G.kind ty with | .slice e => if (G.get e).isSome = true then some (e, ev t x, ev t y) else none | _ => none
 | _ => none
theorem LSpec.jidx [ok : Ok P G] {e : TypeId} {α : Type} {f : α → AV} {xs : List α} {fl : Bool} {k : IntKind} {j : Int} {x : α} (hv : ixO xs j = some x) (hlt : e < markE) (hq : idxJ G n ops i t = some (e, .is (Jp G.S D (.sl e (xs.map f) fl)), .sc (.int k j))) (hc : (chunks (f x)).isSome = true) : LSpec P G.S n ops i .pure t h (.is (Jp G.S D (.ep (chD (f x)) 0 none))) h := by
 obtain ⟨q1, q2⟩ := ixO_map hv f
 unfold idxJ at hq
 split at hq
 ·rename_i ty x0 y0 hop
  split at hq
  ·rename_i e0 hk
   split at hq
   ·rename_i he
    injection hq with hq
    injection hq with e1 hq
    injection hq with e2 e3
    subst e1
    refine (opAt_spec hop).spec (fun _ => rfl) fun o ρv C h2 ho H _ hρ => ?_
    have hx := hρ x0 (by simp [Op.operands])
    have hy := hρ y0 (by simp [Op.operands])
    rw [e2] at hx
    rw [e3] at hy
    have hy := sc_inv hy
    obtain ⟨a, c, s1, s2, s3, s4, s5, s6⟩ := is_inv hx
    have s1 : ρv x0 = .slice a (xs.map f).length c := by simpa using s1
    obtain ⟨d, hd, hf⟩ := kind_desc ok.g hk (by simp)
    simp only [TK.fits] at hf
    subst hf
    obtain ⟨ei, hei⟩ := Option.isSome_iff_exists.1 he
    obtain ⟨fs, hfs⟩ := Option.isSome_iff_exists.1 hc
    obtain ⟨dst, op, oty, pos, after, guard⟩ := o
    simp only at ho
    subst ho
    have hl : j.toNat < (xs.map f).length := (List.getElem?_eq_some_iff.1 q2).1
    rcases s6 with s6 | ⟨b, off, s6, s7, s8⟩
    ·rw [s6] at hl; simp at hl
    ·obtain ⟨cs, m1, m2, m3, m4⟩ := RelR.get _ off j.toNat _ s8 q2
     have hfs' : chD (f x) = fs := by unfold chD; rw [hfs]
     have hr : RelV G.S D (.ep (chD (f x)) 0 none) [.pointer (some ⟨b, off + j.toNat * (G.S e0).1, none⟩)] := by
      rw [hfs']
      refine ⟨b, off + j.toNat * (G.S e0).1, cs, by simp [ixo], trivial, ?_, chunks_relV hfs m1, m3, m4⟩
      exact s7.imp And.right fun z => absurd z.1 (Nat.not_le_of_lt hlt)
     refine OpOK.same (v := .pointer (some ⟨b, off + j.toNat * (G.S e0).1, none⟩)) (by simpa using H) ?_ (jp_mk hr)
     subst s6
     have hesz : (sizeOf e0).run P C.w = .ok (G.S e0).1 C.w := by
      rw [S_get hei]
      exact run_size (ok.g e0 ei hei) C.w
     simp only [execOp, Instr.indexAt, hy, asIntOf, Sem.run_bind, Sem.run_pure, Result.andThen_ok, run_underlying hd, s1]
     rw [if_pos ⟨q1, by omega⟩]
     simp only [Sem.run_bind, hesz, Result.andThen_ok, Sem.run_pure, addr_add]
   ·cases hq
  ·cases hq
 ·cases hq
end
section
variable {n : Nat} {ops : Array Oper} {i : Nat} {t : Tmps} {h : List AO} {D : Ctx}
def fldJ (G : Tab) (n : Nat) (ops : Array Oper) (i : Nat) (t : Tmps) : Option (Nat × AV) :=
 match opAt n ops i t with
 | some (.fieldAddr s x f) =>
  match G.kind s with
  | .struct fl => match fl[f]? with | some (o', ft) => (match G.get ft with | some fi => if fi.size = 0 then none else some (o', ev t x) | none => none) | none => none
  | _ => none
 | _ => none
theorem LSpec.jfld [ok : Ok P G] {o' off : Nat} {fs : List AV} (hq : fldJ G n ops i t = some (o', .is (Jp G.S D (.ep fs off none)))) : LSpec P G.S n ops i .pure t h (.is (Jp G.S D (.ep fs (off + o') none))) h := by
 unfold fldJ at hq
 split at hq
 ·rename_i s x f hop
  split at hq
  ·rename_i fl hk
   split at hq
   ·rename_i o2 ft hfl
    split at hq
    ·rename_i fi hfi
     split at hq
     ·cases hq
     ·rename_i hsz
      injection hq with hq
      injection hq with e1 e2
      subst e1
      refine (opAt_spec hop).spec (fun _ => rfl) fun o ρv C h2 ho H _ hρ => ?_
      have hx := hρ x (by simp [Op.operands])
      rw [e2] at hx
      obtain ⟨b, o0, cells, k3, k1⟩ := is_inv hx
      have k3 : ρv x = .pointer (some ⟨b, o0 + (off + ixo none), none⟩) := by simpa using k3
      obtain ⟨d, hd, hf⟩ := kind_desc ok.g hk (by simp)
      obtain ⟨gs, rfl, hfs⟩ := hf
      obtain ⟨fd, g1, g2, g3⟩ := fl_get hfs hfl
      have hfd := ok.g ft fi hfi
      have hplace : ∀ a : Addr, (fieldPlace a fd).run P C.w = .ok (a.add fd.offset) C.w := by
       intro a
       unfold fieldPlace
       rw [g3]
       simp only [Sem.run_bind, run_size hfd, Result.andThen_ok, if_neg hsz, Sem.run_pure]
      obtain ⟨dst, op, oty, pos, after, guard⟩ := o
      simp only at ho
      subst ho
      refine OpOK.same (v := .pointer (some ⟨b, o0 + off + o2, none⟩)) (by simpa using H) ?_ (jp_mk ⟨b, o0, cells, by simp [ixo, Nat.add_assoc], k1⟩)
      simp only [ixo, Nat.add_zero] at k3
      simp only [execOp, Instr.fieldAt, Sem.run_bind, run_underlying hd, Result.andThen_ok, g1, k3, Instr.sureAddr, Sem.run_pure, hplace, addr_add, g2]
    ·cases hq
   ·cases hq
  ·cases hq
 ·cases hq
theorem heap_of_cell {w : World} {b j : Nat} {v : Value} (h : w.cell? ⟨b, j, none⟩ = some v) : ∃ cs e fz, w.heap[b]? = some (.cells cs e fz) ∧ cs[j]? = some v := by
 have hb := World.block_lt_of_cell? w _ h
 cases hh : w.heap[b]? with
 | none => rw [Array.getElem?_eq_none_iff] at hh; exact absurd hb (by simpa using hh)
 | some ob =>
  cases ob with
  | cells cs e fz => exact ⟨cs, e, fz, rfl, by rw [← cell_of_heap hh]; exact h⟩
  | _ => unfold World.cell? at h; simp [hh] at h
theorem junk_cell {C : Ctx} {h : List AO} (H : HRel S C h) {o kv : Nat} (ho : h[o]? = some (.fam (junkF D) kv)) {fs gs : List AV} {off : Nat} {a : AV} {x : Value} (hx : Jp S D (.ep fs off none) x) (hm : epMark fs < markE) (hd : dropC fs off = some (a :: gs)) (h1 : a.sz = 1) :
  ∃ b j v0 cs e fz v, x = .pointer (some ⟨b, j, none⟩) ∧ b < D.w.heap.size ∧ (D.ok b ∧ (D.X.N ≤ b → unfz D.w b)) ∧ RelV S D.flat a [v0] ∧ (∃ cs0, D.w.heap[b]? = some (.cells cs0 e fz) ∧ cs0.size = cs.size ∧ cs0[j]? = some v0) ∧ C.w.heap[b]? = some (.cells cs e fz) ∧ cs[j]? = some v ∧ likeV v0 v := by
 obtain ⟨b, o0, cells, q1, _, q2, q3, q4, q5⟩ := hx
 have q1 : x = .pointer (some ⟨b, o0 + (off + ixo none), none⟩) := by simpa using q1
 simp only [ixo, Nat.add_zero] at q1
 obtain ⟨c1, c2, r1, r2, r3⟩ := dropC_cons_get hd q3
 have hl := RelV.len a c1 r2
 rw [h1] at hl
 obtain ⟨v0, rfl⟩ := List.length_eq_one_iff.1 hl
 have hv0 : cells[off]? = some v0 := by
  have : (cells.drop off)[0]? = some v0 := by rw [r1]; rfl
  rw [List.getElem?_drop] at this
  simpa using this
 have hc := q5 off v0 hv0
 obtain ⟨cs0, e, fz, w1, w2⟩ := heap_of_cell hc
 have hb : b < D.w.heap.size := (Array.getElem?_eq_some_iff.1 w1).1
 have hok := q2.okU hm
 obtain ⟨v, gs', B, m1, m2⟩ := fam_of H ho
 obtain ⟨m3, m4, m5⟩ := m2
 obtain ⟨cs, w3, w4, w5⟩ := m5 b ((m3 b).2 ⟨hb, hok.1⟩) cs0 e fz w1
 obtain ⟨v', w6, w7⟩ := w5 _ v0 w2
 exact ⟨b, o0 + off, v0, cs, e, fz, v', q1, hb, hok, r2, ⟨cs0, w1, w4.symm, w2⟩, w3, w6, w7⟩
def ldJ (G : Tab) (n : Nat) (ops : Array Oper) (i : Nat) (t : Tmps) : Option AV :=
 match opAt n ops i t with
 | some (.load ty x) => match G.get ty with | some inf => if inf.kind.isAgg = false then some (ev t x) else none | none => none
 | _ => none
theorem ldJ_run [ok : Ok P G] {a : AV} (hq : ldJ G n ops i t = some a) : ∃ ty x, OpAt n ops i t (.load ty x) ∧ ev t x = a ∧ ∀ (w : World) (b j : Nat) (v : Value), w.cell? ⟨b, j, none⟩ = some v → (loadVar ty ⟨b, j, none⟩).run P w = .ok v w := by
 unfold ldJ at hq
 split at hq
 ·rename_i ty x hop
  split at hq
  ·rename_i inf hi
   split at hq
   ·rename_i ha
    injection hq with hq
    refine ⟨ty, x, opAt_spec hop, hq, fun w b j v hc => ?_⟩
    unfold loadVar
    simp only [Sem.run_bind, run_isAgg (ok.g ty inf hi), ha, Bool.false_eq_true, if_false, Result.andThen_ok, run_load, hc]
   ·cases hq
  ·cases hq
 ·cases hq
theorem LSpec.jldS [ok : Ok P G] (hD : D.flat = D) {o kv off : Nat} {fs gs : List AV} {e : TypeId} {rows : List AV} {fl : Bool} (ho : h[o]? = some (.fam (junkF D) kv)) (hq : ldJ G n ops i t = some (.is (Jp G.S D (.ep fs off none)))) (hm : epMark fs < markE) (hd : dropC fs off = some (.sl e rows fl :: gs)) : LSpec P G.S n ops i .read t h (.is (Jp G.S D (.sl e rows fl))) h := by
 obtain ⟨ty, x, K, hx, hrun⟩ := ldJ_run (P := P) hq
 refine K.spec (fun _ => rfl) fun op ρv C h2 hop H hh hρ => ?_
 have hh := hh (by simp)
 subst hh
 have hxv := hρ x (by simp [Op.operands])
 rw [hx] at hxv
 obtain ⟨b, j, v0, cs, e2, fz, v, q1, _, _, q4, _, q6, q7, q8⟩ := junk_cell H ho (is_inv hxv) hm hd rfl
 rw [hD] at q4
 have hv : v0 = v := by
  rcases q8 with q8 | ⟨k, a, b, q8, _⟩
  ·exact q8
  ·obtain ⟨a', c', s1, _⟩ := q4
   rw [q8] at s1
   simp at s1
 subst hv
 obtain ⟨dst, op, oty, pos, after, guard⟩ := op
 simp only at hop
 subst hop
 refine OpOK.same (v := v0) (by simpa using H) ?_ (jp_mk q4)
 simp only [execOp, Instr.loadAt, q1, Instr.sureAddr, Sem.run_bind, Sem.run_pure, Result.andThen_ok, hrun C.w b j v0 (by rw [cell_of_heap q6]; exact q7)]
theorem LSpec.jldI [ok : Ok P G] (hD : D.flat = D) {o kv off : Nat} {fs gs : List AV} {k : IntKind} {c : Int} (ho : h[o]? = some (.fam (junkF D) kv)) (hq : ldJ G n ops i t = some (.is (Jp G.S D (.ep fs off none)))) (hm : epMark fs < markE) (hd : dropC fs off = some (.sc (.int k c) :: gs)) : LSpec P G.S n ops i .read t h (.is (isI k)) h := by
 obtain ⟨ty, x, K, hx, hrun⟩ := ldJ_run (P := P) hq
 refine K.spec (fun _ => rfl) fun op ρv C h2 hop H hh hρ => ?_
 have hh := hh (by simp)
 subst hh
 have hxv := hρ x (by simp [Op.operands])
 rw [hx] at hxv
 obtain ⟨b, j, v0, cs, e2, fz, v, q1, _, _, q4, _, q6, q7, q8⟩ := junk_cell H ho (is_inv hxv) hm hd rfl
 have hv0 : v0 = .int k c := by have := q4.1; simpa using this
 have hv : ∃ y, v = .int k y := by
  rcases q8 with q8 | ⟨k', a, b, q8, q9⟩
  ·exact ⟨c, by rw [← q8]; exact hv0⟩
  ·rw [hv0] at q8
   injection q8 with q8 _
   subst q8
   exact ⟨b, q9⟩
 obtain ⟨y, rfl⟩ := hv
 obtain ⟨dst, op, oty, pos, after, guard⟩ := op
 simp only at hop
 subst hop
 refine OpOK.same (v := .int k y) (by simpa using H) ?_ (is_mk rfl ⟨y, rfl⟩)
 simp only [execOp, Instr.loadAt, q1, Instr.sureAddr, Sem.run_bind, Sem.run_pure, Result.andThen_ok, hrun C.w b j _ (by rw [cell_of_heap q6]; exact q7)]
def addJ (n : Nat) (ops : Array Oper) (i : Nat) (t : Tmps) : Option (AV × AV) :=
 match opAt n ops i t with
 | some (.binOp .add _ x y _) => some (ev t x, ev t y)
 | _ => none
theorem LSpec.jadd [ok : Ok P G] {k : IntKind} {c : Int} (hq : addJ n ops i t = some (.is (isI k), .sc (.int k c))) : LSpec P G.S n ops i .pure t h (.is (isI k)) h := by
 unfold addJ at hq
 split at hq
 ·rename_i ty x y ty2 hop
  injection hq with hq
  injection hq with e1 e2
  refine (opAt_spec hop).spec (fun _ => rfl) fun op ρv C h2 ho H _ hρ => ?_
  have hx := hρ x (by simp [Op.operands])
  have hy := hρ y (by simp [Op.operands])
  rw [e1] at hx
  rw [e2] at hy
  obtain ⟨x0, hx0⟩ := is_inv hx
  have hx1 : VRel G.S C (.sc (.int k x0)) (ρv x) := by rw [hx0]; exact sc_mk rfl
  obtain ⟨z, k4, k5⟩ := binA_run (P := P) ok.g (t := ty) (op := .add) (r := .sc (.int k (k.wrap (x0 + c)))) (by simp [binA, intRes]) hx1 hy x y
  have hz := sc_inv k5
  obtain ⟨dst, op, oty, pos, after, guard⟩ := op
  simp only at ho
  subst ho
  refine OpOK.same (v := z) (by simpa using H) ?_ (is_mk (by rw [hz]; rfl) ⟨_, hz⟩)
  simp only [execOp, Sem.run_bind, k4, Result.andThen_ok, Sem.run_pure] at k4 ⊢
 ·cases hq
def stJ (G : Tab) (n : Nat) (ops : Array Oper) (i : Nat) (t : Tmps) : Option (AV × AV) :=
 match opAt n ops i t with
 | some (.store ty x y) => match G.get ty with | some inf => if inf.size = 1 then some (ev t x, ev t y) else none | none => none
 | _ => none
theorem LSpec.jst [ok : Ok P G] (hN : ∀ b, b < D.X.N → D.X b) {o kv off : Nat} {fs gs : List AV} {k : IntKind} {c : Int} (ho : h[o]? = some (.fam (junkF D) kv)) (hq : stJ G n ops i t = some (.is (Jp G.S D (.ep fs off none)), .is (isI k))) (hm : epMark fs < markE) (hd : dropC fs off = some (.sc (.int k c) :: gs)) : LSpec P G.S n ops i .loud t h .u h := by
 unfold stJ at hq
 split at hq
 ·rename_i ty x y hop
  split at hq
  ·rename_i inf hi
   split at hq
   ·rename_i hsz
    injection hq with hq
    injection hq with e1 e2
    refine (opAt_spec hop).spec (fun _ => rfl) fun op ρv C h2 hop H hh hρ => ?_
    have hh := hh (by simp)
    subst hh
    have hx := hρ x (by simp [Op.operands])
    have hy := hρ y (by simp [Op.operands])
    rw [e1] at hx
    rw [e2] at hy
    obtain ⟨z, hz⟩ := is_inv hy
    obtain ⟨b, j, v0, cs, e, fz, v, q1, q2, q3, q4, ⟨cs0, q5, q6, q7⟩, q8, q9, _⟩ := junk_cell H ho (is_inv hx) hm hd rfl
    have hv0 : v0 = .int k c := by have := q4.1; simpa using this
    have hj : j < cs.size := (Array.getElem?_eq_some_iff.1 q9).1
    have hfz : fz = (0, 0) ∨ cs.size ≤ fz.1 := by
     have := q3.2 (Nat.le_of_not_lt fun hlt => q3.1.1 (hN b hlt)) cs0 e fz q5
     rw [q6] at this
     exact this
    have hcell : (Value.int k z).cells.toList = [Value.int k z] := rfl
    have hst := run_storeVar (ok.g ty inf hi) (C := C) (off := j) q8 (v := .int k z) (by rw [hsz]; rfl) (by show j + 1 ≤ cs.size; exact hj) (by simp [Value.cells, Value.oneCell']) hfz
    rw [hcell] at hst
    obtain ⟨v1, gs', B, m1, m2, m3, m4⟩ := fam_of H ho
    have hB : B b := (m2 b).2 ⟨q2, q3.1⟩
    obtain ⟨s1, s2, s3⟩ := setCells_same b [Value.int k z] j C.w
    have hol : o < C.m.length := (List.getElem?_eq_some_iff.1 m1).1
    obtain ⟨st, hh⟩ := HRel.upd (S := G.S) (C' := ⟨C.w.setCells b j [Value.int k z], C.m, C.X⟩) (s' := .fam v1 kv gs' B) (ob := .fam (junkF D) kv) H m1 (Slot.le_refl _) (by rw [setCells_size]; exact Nat.le_refl _) s1 s2 s3
     (fun b' hb' hne => setCells_other b _ j C.w b' (fun e => hne (by rw [e]; exact hB))) (by
      apply List.ext_getElem?
      intro x
      by_cases e : o = x
      ·subst e; rw [List.getElem?_set_self hol, m1]
      ·rw [List.getElem?_set_ne e]) rfl (fun b hb => .inl hb)
    have hset : h2.set o (.fam (junkF D) kv) = h2 := by
     obtain ⟨hl, he⟩ := List.getElem?_eq_some_iff.1 ho
     exact he ▸ List.set_getElem_self hl
    rw [hset] at hh
    have Hn := hh ⟨rfl, m2, by rw [show (Ctx.flat ⟨C.w.setCells b j [Value.int k z], C.m, C.X⟩).w = C.w.setCells b j [Value.int k z] from rfl, setCells_size]; exact m3, fun b' hb' => by
     by_cases e1 : b' = b
     ·subst e1
      obtain ⟨cs', w1, w2⟩ := setCells_heap b' e fz [Value.int k z] j C.w cs q8 (by show j + 1 ≤ cs.size; exact hj)
      intro cs2 e3 fz2 hc2
      obtain ⟨cs3, u1, u2, u3⟩ := m4 b' hb' cs2 e3 fz2 hc2
      rw [q5] at hc2
      injection hc2 with hc2
      injection hc2 with x1 x2 x3
      subst x1; subst x2; subst x3
      have u1 : C.w.heap[b']? = some (.cells cs3 e fz) := u1
      rw [q8] at u1
      injection u1 with u1
      injection u1 with u1 _ _
      subst u1
      have hcs' : ∀ i, cs'[i]? = if i = j then some (Value.int k z) else cs[i]? := by
       intro i
       have : cs'.toList[i]? = if i = j then some (Value.int k z) else cs.toList[i]? := by
        rw [w2]
        by_cases hi : i = j
        ·subst hi
         rw [if_pos rfl, List.append_assoc, List.getElem?_append_right (by simp; omega)]
         simp [Nat.min_eq_left (Nat.le_of_lt hj)]
        ·rw [if_neg hi]
         rcases Nat.lt_or_gt_of_ne hi with hlt | hgt
         ·rw [List.append_assoc, List.getElem?_append_left (by simp; omega), List.getElem?_take, if_pos hlt]
         ·rw [List.append_assoc, List.getElem?_append_right (by simp; omega), List.length_take, Nat.min_eq_left (by rw [Array.length_toList]; exact Nat.le_of_lt hj)]
          obtain ⟨d, rfl⟩ : ∃ d, i = j + 1 + d := ⟨i - j - 1, by omega⟩
          rw [show j + 1 + d - j = d + 1 by omega]
          simp
       simpa using this
      refine ⟨cs', w1, ?_, fun i u hu => ?_⟩
      ·have h1 : cs'.toList.length = cs.toList.length := by rw [w2]; simp; omega
       simp only [Array.length_toList] at h1
       rw [h1]
       exact u2
      ·obtain ⟨v2, u4, u5⟩ := u3 i u hu
       rw [hcs']
       by_cases hi : i = j
       ·subst hi
        rw [q7] at hu
        injection hu with hu
        subst hu
        exact ⟨_, if_pos rfl, .inr ⟨k, c, z, hv0, rfl⟩⟩
       ·exact ⟨v2, by rw [if_neg hi]; exact u4, u5⟩
     ·exact (m4 b' hb').of_eq (setCells_other b _ j C.w b' e1)⟩
    obtain ⟨dst, op, oty, pos, after, guard⟩ := op
    simp only at hop
    subst hop
    refine ⟨_, st, by simpa using Hn, .inr ⟨?_, rfl⟩⟩
    simp only [execOp, Instr.storeAt, q1, hz, Instr.sureAddr, Sem.run_bind, Sem.run_pure, Result.andThen_ok, hst]
   ·cases hq
  ·cases hq
 ·cases hq
end
end Go.Sh
namespace Go.Sh
variable {P : Program} {G : Tab} {F : Fn} {c0 : Ctx} {R : Ending → World → Prop}
def tmE (s : Option Cfg) : Tmps := match s with | some c => c.t | none => []
def ctE (t : Tmps) (h : List AO) (s : Option Cfg) : Option Cfg := match s with | some c => mkC c.k t h | none => none
theorem AX.shown {r : AV} {s : Option Cfg} (hm : c0.m.length = 0) (t' : Tmps) (h' hE : List AO) (hr : scalA r = true)
  (ht : ∀ C D, MkC C D → D.m = C.m → TR (fun a b => ∀ v, VRel G.S C a v → VRel G.S D b v) (tmE s) t') (hh : ShH G.S (hpE s) h')
  (A : ∀ c1 : Ctx, Shown c1 h'.length → AX P G F c1 (Rp G.S c1 r hE) (ctE t' h' s)) (hs : s.isSome = true := by kernel_rfl) : AX P G F c0 (Rp G.S c0 r []) s := by
 cases s with
 | none => cases hs
 | some c =>
  refine .of (AR.shown (t' := t') (h' := h') (hE := hE) (List.eq_nil_of_length_eq_zero hm) hr (fun i C D v k r hm => ?_) hh (fun c1 h1 => ?_))
  ·exact TR.lk (fun _ h => h) c.t t' (ht C D k hm) i v r
  ·obtain ⟨c', e, q⟩ := A c1 h1
   simp only [ctE, mkC_eq] at e
   injection e with e
   subst e
   exact q
theorem MkC.scal {C D : Ctx} {a : AV} (h : scalA a = true := by rfl) : ∀ v, VRel G.S C a v → VRel G.S D a v := fun _ r => r.scal h
theorem MkC.one {C D : Ctx} (k : MkC C D) {a b : AV} (h1 : a.single = true) (h2 : b.single = true) (c : Mk G.S a b) : ∀ v, VRel G.S C a v → VRel G.S D b v := by
 intro v r
 rw [VRel_single h1] at r
 rw [VRel_single h2]
 exact c C D k _ r
theorem MkC.agg {C D : Ctx} (k : MkC C D) {fs gs : List AV} (c : Mk G.S (.agg fs) (.agg gs)) : ∀ v, VRel G.S C (.agg fs) v → VRel G.S D (.agg gs) v := by
 rintro v ⟨cs, h1, h2⟩
 exact ⟨cs, h1, c C D k _ h2⟩
theorem AX.junk {s : Option Cfg} {n : Nat} (hsh : Shown c0 n) (tf : Ctx → Tmps) (hf : Ctx → List AO)
  (ht : ∀ C D E, Jk C D E → TR (JkV G.S C D E) (tmE s) (tf D)) (hh : ∀ C D E, Jk C D E → JkH G.S C D E (hpE s) (hf D))
  (A : ∀ D : Ctx, D.flat = D → (∀ b, b < D.X.N → D.X b) → AX P G F c0 R (ctE (tf D) (hf D ++ [.fam (junkF D) 0]) s)) (hs : s.isSome = true := by kernel_rfl) : AX P G F c0 R s := by
 cases s with
 | none => cases hs
 | some c =>
  refine .of (AR.junk hsh fun C D E jk hD hXN => ⟨tf D, hf D, ht C D E jk, hh C D E jk, ?_⟩)
  obtain ⟨c', e, q⟩ := A D hD hXN
  simp only [ctE, mkC_eq] at e
  injection e with e
  subst e
  exact q
theorem DX.kb (d : Nat) {b v : Bool} {s : Option DS} (hb : b = v) (A : DX P G F c0 R (stB d v s)) (e : bAt d s = some b := by kernel_rfl) : DX P G F c0 R s := DX.back (by rw [e, hb]) A
section
variable {s : Option DS}
theorem DX.jlen [ok : Ok P G] (L : List Nat) (D : Ctx) (e : TypeId) (rows : List AV) (fl : Bool) (K : DX P G F c0 R (updE F L .pure (fun _ => .sc (.int .i64 (rows.length : Int))) hOf s)) (hq : lenJ G F.n (dO F s) (dI s) (dT s) = some (.is (Jp G.S D (.sl e rows fl))) := by kernel_rfl) : DX P G F c0 R s := DX.opF L (LSpec.jlen hq) K
theorem DX.jidx [ok : Ok P G] (L : List Nat) (D : Ctx) (e : TypeId) {α : Type} (f : α → AV) (xs : List α) (fl : Bool) {j : Int} {x : α} (hv : ixO xs j = some x) (K : DX P G F c0 R (updE F L .pure (fun _ => .is (Jp G.S D (.ep (chD (f x)) 0 none))) hOf s)) (hq : idxJ G F.n (dO F s) (dI s) (dT s) = some (e, .is (Jp G.S D (.sl e (xs.map f) fl)), .sc (.int .i64 j)) := by kernel_rfl) (hlt : e < markE := by decide) (hc : (chunks (f x)).isSome = true := by kernel_rfl) : DX P G F c0 R s := DX.opF L (LSpec.jidx hv hlt hq hc) K
theorem DX.jfld [ok : Ok P G] (L : List Nat) (D : Ctx) (fs : List AV) (off o' : Nat) (K : DX P G F c0 R (updE F L .pure (fun _ => .is (Jp G.S D (.ep fs (off + o') none))) hOf s)) (hq : fldJ G F.n (dO F s) (dI s) (dT s) = some (o', .is (Jp G.S D (.ep fs off none))) := by kernel_rfl) : DX P G F c0 R s := DX.opF L (LSpec.jfld hq) K
theorem DX.jls [ok : Ok P G] (L : List Nat) (D : Ctx) (hD : D.flat = D) (o : Nat) (fs : List AV) (off : Nat) (e : TypeId) (rows : List AV) (fl : Bool) (gs : List AV) (K : DX P G F c0 R (updE F L .read (fun _ => .is (Jp G.S D (.sl e rows fl))) hOf s)) (ho : (dH s)[o]? = some (.fam (junkF D) 0) := by kernel_rfl) (hq : ldJ G F.n (dO F s) (dI s) (dT s) = some (.is (Jp G.S D (.ep fs off none))) := by kernel_rfl) (hm : decide (epMark fs < markE) = true := by kernel_rfl) (hd : dropC fs off = some (.sl e rows fl :: gs) := by kernel_rfl) : DX P G F c0 R s := DX.opF L (LSpec.jldS hD ho hq (of_decide_eq_true hm) hd) K
theorem DX.jli [ok : Ok P G] (L : List Nat) (D : Ctx) (hD : D.flat = D) (o : Nat) (fs : List AV) (off : Nat) (k : IntKind) (c : Int) (gs : List AV) (K : DX P G F c0 R (updE F L .read (fun _ => .is (isI k)) hOf s)) (ho : (dH s)[o]? = some (.fam (junkF D) 0) := by kernel_rfl) (hq : ldJ G F.n (dO F s) (dI s) (dT s) = some (.is (Jp G.S D (.ep fs off none))) := by kernel_rfl) (hm : decide (epMark fs < markE) = true := by kernel_rfl) (hd : dropC fs off = some (.sc (.int k c) :: gs) := by kernel_rfl) : DX P G F c0 R s := DX.opF L (LSpec.jldI hD ho hq (of_decide_eq_true hm) hd) K
theorem DX.jad [ok : Ok P G] (L : List Nat) (k : IntKind) (c : Int) (K : DX P G F c0 R (updE F L .pure (fun _ => .is (isI k)) hOf s)) (hq : addJ F.n (dO F s) (dI s) (dT s) = some (.is (isI k), .sc (.int k c)) := by kernel_rfl) : DX P G F c0 R s := DX.opF L (LSpec.jadd hq) K
theorem DX.jst [ok : Ok P G] (L : List Nat) (D : Ctx) (hN : ∀ b, b < D.X.N → D.X b) (o : Nat) (fs : List AV) (off : Nat) (k : IntKind) (c : Int) (gs : List AV) (K : DX P G F c0 R (updE F L .loud (fun _ => .u) hOf s)) (ho : (dH s)[o]? = some (.fam (junkF D) 0) := by kernel_rfl) (hq : stJ G F.n (dO F s) (dI s) (dT s) = some (.is (Jp G.S D (.ep fs off none)), .is (isI k)) := by kernel_rfl) (hm : decide (epMark fs < markE) = true := by kernel_rfl) (hd : dropC fs off = some (.sc (.int k c) :: gs) := by kernel_rfl) : DX P G F c0 R s := DX.opF L (LSpec.jst hN ho hq (of_decide_eq_true hm) hd) K
end
end Go.Sh
namespace Go.Sh
variable {P : Program} {G : Tab} {F : Fn} {c0 : Ctx} {R : Ending → World → Prop} {S : Sizes}
structure Uj (C D E : Ctx) : Prop where
 w : E.w = C.w
 X : E.X = C.X
 ok : ∀ b, b < D.w.heap.size → D.ok b → E.ok b ∧ LikeB D.w E.w b
theorem Uj.pk {C D E : Ctx} (h : Uj C D E) : PK C E := ⟨h.w, fun b hb => by rw [h.X]; exact hb⟩
theorem UjV.pk {C D E : Ctx} (h : Uj C D E) {a : AV} (h1 : a.single = true) (c : Cv S PK a a) : JkV S C D E a a := by
 intro v r
 rw [VRel_single h1] at r ⊢
 exact c C E h.pk _ r
theorem likeV_int {k : IntKind} {x : Int} {v : Value} (h : likeV (.int k x) v) : ∃ y, v = .int k y := by
 rcases h with h | ⟨k', a, b, h1, h2⟩
 ·exact ⟨x, h.symm⟩
 ·injection h1 with h1 _
  subst h1
  exact ⟨b, h2⟩
theorem like_cells {D E : Ctx} {b : Nat} (hl : LikeB D.w E.w b) : ∀ (fs : List (IntKind × Int)) (cs : List Value) (off : Nat), RelL S D (fs.map fun p => .sc (.int p.1 p.2)) cs → (∀ j v, cs[j]? = some v → D.w.cell? ⟨b, off + j, none⟩ = some v) →
  ∃ gs : List Int, gs.length = fs.length ∧ ∃ cs', cs'.length = cs.length ∧ RelL S E ((fs.zip gs).map fun p => .sc (.int p.1.1 p.2)) cs' ∧ ∀ j v, cs'[j]? = some v → E.w.cell? ⟨b, off + j, none⟩ = some v
 | [], cs, off, r, _ => by
  have : cs = [] := r
  subst this
  exact ⟨[], rfl, [], rfl, rfl, fun j v hj => by simp at hj⟩
 | (k, x) :: fs, cs, off, r, hc => by
  obtain ⟨c1, c2, rfl, r1, r2⟩ := r
  have h1 : c1 = [.int k x] := r1.1
  subst h1
  obtain ⟨gs, e1, cs', e2, e3, e4⟩ := like_cells hl fs c2 (off + 1) r2 (fun j v hj => by
   have := hc (j + 1) v (by simpa using hj)
   rwa [show off + (j + 1) = off + 1 + j by omega] at this)
  obtain ⟨ds, e, fz, w1, w2⟩ := heap_of_cell (hc 0 _ rfl)
  obtain ⟨ds', w3, _, w4⟩ := hl ds e fz w1
  obtain ⟨v, w5, w6⟩ := w4 _ _ w2
  obtain ⟨y, rfl⟩ := likeV_int w6
  refine ⟨y :: gs, by simp [e1], .int k y :: cs', by simp [e2], ⟨[.int k y], cs', rfl, ⟨rfl, rfl⟩, e3⟩, fun j v hj => ?_⟩
  cases j with
  | zero =>
   simp only [List.getElem?_cons_zero, Option.some.injEq] at hj
   subst hj
   rw [cell_of_heap w3]
   exact w5
  | succ j =>
   have := e4 j v (by simpa using hj)
   rwa [show off + 1 + j = off + (j + 1) by omega] at this
theorem uj_slice {C D E : Ctx} (h : Uj C D E) (hD : D.flat = D) (hN : ∀ b, b < D.X.N → D.X b) {α : Type} {f : α → AV} {ks : α → List (IntKind × Int)} (hf : ∀ x, f x = .agg ((ks x).map fun p => .sc (.int p.1 p.2)))
  (back : ∀ (x : α) (gs : List Int), gs.length = (ks x).length → ∃ y, ks y = (((ks x).zip gs).map fun p => (p.1.1, p.2))) {e : TypeId} (he : e < markE) {xs : List α} {fl : Bool} {v : Value} (r : Jp S D (.sl e (xs.map f) fl) v) :
  ∃ ys : List α, ys.length = xs.length ∧ RelV S E (.sl e (ys.map f) false) [v] := by
 obtain ⟨a, c, h1, h2, h3, h4, h5, h6⟩ := r
 rcases h6 with h6 | ⟨b, off, q1, q2, q3⟩
 ·have hx : xs = [] := by simpa using h6
  subst hx
  exact ⟨[], rfl, a, c, h1, h2, by simp, h4, h5, .inl rfl⟩
 ·cases xs with
  | nil => exact ⟨[], rfl, a, c, h1, h2, by simp, h4, h5, .inl rfl⟩
  | cons x0 xs0 =>
   rw [hD] at q3
   have hok := q2.resolve_right fun z => absurd z.1 (Nat.not_le_of_lt he)
   obtain ⟨⟨cs0, _, _, hne, hc0⟩, _⟩ := id q3
   have : 0 < cs0.length := List.length_pos_iff.2 hne
   have hb : b < D.w.heap.size := World.block_lt_of_cell? D.w _ (hc0 0 cs0[0] (by simp))
   obtain ⟨hE, hl⟩ := h.ok b hb hok.2.1
   have key : ∀ (xs : List α) (off : Nat), RelR S D b (S e).1 (xs.map f) off → ∃ ys : List α, ys.length = xs.length ∧ RelR S E.flat b (S e).1 (ys.map f) off := by
    intro xs
    induction xs with
    | nil => intro off _; exact ⟨[], rfl, trivial⟩
    | cons x xs ih =>
     rintro off ⟨⟨cs, r1, r2, r3, r4⟩, r5⟩
     obtain ⟨ys, e1, e2⟩ := ih _ r5
     rw [hf] at r1
     obtain ⟨gs, g1, cs', g2, g3, g4⟩ := like_cells hl (ks x) cs off (r1 : RelL S D _ cs) r4
     obtain ⟨y, hy⟩ := back x gs g1
     refine ⟨y :: ys, by simp [e1], ⟨cs', ?_, by rw [g2]; exact r2, fun hn => r3 (by rw [hn] at g2; exact List.eq_nil_of_length_eq_zero g2.symm), g4⟩, e2⟩
     rw [hf, hy, List.map_map]
     have g3' : RelL S E.flat ((ks x).zip gs |>.map fun p => AV.sc (.int p.1.1 p.2)) cs' := by
      have : ∀ (l : List ((IntKind × Int) × Int)) (cs : List Value), RelL S E (l.map fun p => AV.sc (.int p.1.1 p.2)) cs → RelL S E.flat (l.map fun p => AV.sc (.int p.1.1 p.2)) cs := by
       intro l
       induction l with
       | nil => intro cs r; exact r
       | cons p l ih => rintro cs ⟨c1, c2, z1, z2, z3⟩; exact ⟨c1, c2, z1, z2, ih _ z3⟩
      exact this _ _ g3
     exact g3'
   obtain ⟨ys, e1, e2⟩ := key (x0 :: xs0) off q3
   refine ⟨ys, e1, a, c, by rw [List.length_map] at h1 ⊢; rw [e1]; exact h1, by rw [List.length_map] at h2 ⊢; rw [e1]; exact h2, by simp, h4, by rw [List.length_map] at h5 ⊢; rw [e1]; exact h5, .inr ⟨b, off, q1, .inl ⟨he, hE, fun _ => ?_⟩, e2⟩⟩
   intro cs t fz hc
   obtain ⟨ds, t', fz', w1, _⟩ := heap_of_cell (hc0 0 cs0[0] (by simp))
   obtain ⟨ds', w3, w4, _⟩ := hl ds t' fz' w1
   rw [hc] at w3
   injection w3 with w3
   injection w3 with z1 z2 z3
   subst z1; subst z3
   have := hok.2.2 (Nat.le_of_not_lt fun hlt => hok.2.1.1 (hN b hlt)) ds t' fz w1
   rw [w4]
   exact this
theorem relF_change {α : Type} {f g : α → AV} {C E : Ctx} {sz : Nat} {Q : α → α → Prop} : ∀ (xs : List α) (cells : List Value), (∀ x ∈ xs, ∀ cs, RelV S C (g x) cs → ∃ y, Q x y ∧ RelV S E (f y) cs) → RelF S C sz (xs.map g) cells →
  ∃ ys : List α, ys.length = xs.length ∧ (∀ (j : Nat) (x y : α), xs[j]? = some x → ys[j]? = some y → Q x y) ∧ RelF S E sz (ys.map f) cells
 | [], cells, _, r => ⟨[], rfl, fun j x y h => by simp at h, r⟩
 | x :: xs, cells, h, r => by
  obtain ⟨c1, c2, h1, h2, h3, h4⟩ := r
  obtain ⟨y, q1, q2⟩ := h x (by simp) c1 h2
  obtain ⟨ys, e1, e2, e3⟩ := relF_change xs c2 (fun z hz => h z (by simp [hz])) h4
  refine ⟨y :: ys, by simp [e1], fun j a b ha hb => ?_, c1, c2, h1, q2, h3, e3⟩
  cases j with
  | zero =>
   simp only [List.getElem?_cons_zero, Option.some.injEq] at ha hb
   subst ha; subst hb
   exact q1
  | succ j => exact e2 j a b (by simpa using ha) (by simpa using hb)
theorem AR.unjunk {k : List PI} {t : Tmps} {e kv k2 : Nat} {α : Type} {g f : α → AV} {xs : List α} {D : Ctx} (hm : c0.m.length = 0) (hk : 1000000 ≤ kv) (Q : α → α → Prop)
  (hrow : ∀ C E, Uj C D E → ∀ x ∈ xs, ∀ cs, RelV G.S C.flat (g x) cs → ∃ y, Q x y ∧ RelV G.S E.flat (f y) cs) (tf : List α → Tmps)
  (ht : ∀ ys C E, Uj C D E → (∀ v, VRel G.S C (.own 0 kv) v → VRel G.S E (.sl e (ys.map f) false) v) → TR (JkV G.S C D E) t (tf ys))
  (A : ∀ ys : List α, ys.length = xs.length → (∀ (j : Nat) (x y : α), xs[j]? = some x → ys[j]? = some y → Q x y) → AR P G F c0 R k (tf ys) []) : AR P G F c0 R k t [.row e (xs.map g) kv true, .fam (junkF D) k2] := by
 intro C a st AA
 have H := AA.heap
 have hm := List.eq_nil_of_length_eq_zero hm
 let E : Ctx := ⟨C.w, [], C.X⟩
 obtain ⟨v1, gs, B, m1, m2, m3, m4⟩ := fam_of H (o := 1) rfl
 obtain ⟨v, mn, hrm⟩ := row_of H (o := 0) rfl
 have hr := H.rel 0 _ _ rfl hrm
 have uj : Uj C D E := ⟨rfl, rfl, fun b hb hok => ⟨⟨H.nX _ (List.mem_of_getElem? m1) b ((m2 b).2 ⟨hb, hok⟩), by simp [E]⟩, m4 b ((m2 b).2 ⟨hb, hok⟩)⟩⟩
 have st' : StepW c0 E := ⟨st.os, st.tape, st.output, st.size, st.block, fun b hb ho => ⟨(st.ok b hb ho).1, by simp [E]⟩, fun b _ _ s hs => by simp [E] at hs, fun o b ho => by rw [hm] at ho; simp at ho, fun o v k mn ho => by rw [hm] at ho; simp at ho, fun o v k gs B ho => by rw [hm] at ho; simp at ho, st.X, st.keep⟩
 have fin : ∀ ys : List α, ys.length = xs.length → (∀ (j : Nat) (x y : α), xs[j]? = some x → ys[j]? = some y → Q x y) → (∀ u, VRel G.S C (.own 0 kv) u → VRel G.S E (.sl e (ys.map f) false) u) → Reach P F.f (k.map (PI.dec F.B)) a C.w R := fun ys h1 h2 h3 =>
  A ys h1 h2 E a st' ⟨AA.defers, AA.size, fun i => TR.lk JkV.u t _ (ht ys C E uj h3) i _ (AA.tmps i), HRel.nil H.Xlt⟩
 have own : ∀ u, VRel G.S C (.own 0 kv) u → u = v := by
  intro u hu
  obtain ⟨v0, kk, mn', q1, q2, q3, q4⟩ := own_inv hu
  rw [hrm] at q2
  injection q2 with q2
  injection q2 with q2 q5 _
  rw [q2]
  exact q4 q5
 obtain ⟨h1, h2, h3, h4, h5⟩ := hr
 cases mn with
 | false =>
  have hx : xs = [] := List.map_eq_nil_iff.1 (h5 hk rfl rfl)
  subst hx
  refine fin [] rfl (fun j x y h => by simp at h) fun u hu => ?_
  rw [own u hu]
  obtain ⟨a, c, s1, s2, s3, s4, s5, _⟩ := h3 rfl
  exact ⟨a, c, s1, s2, by simp, s4, s5, .inl rfl⟩
 | true =>
  obtain ⟨⟨_, hlt⟩, hsz, cells, hown, hrf, _⟩ := h4 rfl
  obtain ⟨ys, e1, e2, e3⟩ := relF_change xs cells (hrow C E uj) hrf
  refine fin ys e1 e2 fun u hu => ?_
  rw [own u hu]
  have : RelV G.S E (.sl e (ys.map f) false) [v] := by
   rw [List.length_map] at h2 hown
   refine ownsG_settled (C := E) (D := E) hlt rfl (Mono.flat (Step.refl E).mono) hsz (rows := ys.map f) (by rw [List.length_map, e1]; exact hown) e3 (by rw [List.length_map, e1]; exact h2) fun b hb => ⟨H.nX _ (List.mem_of_getElem? hrm) b (by simpa [Slot.has] using hb), by simp [E]⟩
  exact this
theorem AX.unjunk {kc : List PI} {t : Tmps} {e kv k2 : Nat} {α : Type} {g f : α → AV} {xs : List α} {D : Ctx} (hm : c0.m.length = 0) (hk : 1000000 ≤ kv) (Q : α → α → Prop)
  (hrow : ∀ C E, Uj C D E → ∀ x ∈ xs, ∀ cs, RelV G.S C.flat (g x) cs → ∃ y, Q x y ∧ RelV G.S E.flat (f y) cs) (tf : List α → Tmps)
  (ht : ∀ ys C E, Uj C D E → (∀ v, VRel G.S C (.own 0 kv) v → VRel G.S E (.sl e (ys.map f) false) v) → TR (JkV G.S C D E) t (tf ys))
  (A : ∀ ys : List α, ys.length = xs.length → (∀ (j : Nat) (x y : α), xs[j]? = some x → ys[j]? = some y → Q x y) → AX P G F c0 R (some ⟨kc, tf ys, []⟩)) : AX P G F c0 R (some ⟨kc, t, [.row e (xs.map g) kv true, .fam (junkF D) k2]⟩) :=
 .of (AR.unjunk hm hk Q hrow tf ht fun ys h1 h2 => (A ys h1 h2).ar)
end Go.Sh
namespace Go.Sh
variable {P : Program} {G : Tab}
def rowA (G : Tab) (e : TypeId) (gs : List AV) : AV := if (G.kind e).isAgg then mkAgg gs else gs.headD .u
inductive Shaped (G : Tab) : TypeId → List AV → Prop
 | int {t : TypeId} {k : IntKind} {n : Int} : G.kind t = .int k → (Lit.int k n).wf = true → Shaped G t [.sc (.int k n)]
 | bool {t : TypeId} {b : Bool} : G.kind t = .bool → Shaped G t [.sc (.bool b)]
 | str {t : TypeId} {s : ByteArray} : G.kind t = .str → s.size ≤ maxLen → Shaped G t [.sc (.string s)]
 | struct {t : TypeId} {fl : List (Nat × TypeId)} {gss : List (List AV)} : G.kind t = .struct fl → gss.length = fl.length → (∀ (i : Nat) (f : Nat × TypeId) (gs : List AV), fl[i]? = some f → gss[i]? = some gs → Shaped G f.2 gs) → Shaped G t gss.flatten
 | arr {t e : TypeId} {k : IntKind} {n : Nat} {xs : List Int} : G.kind t = .arr n e → G.kind e = .int k → xs.length = n → (∀ x ∈ xs, (Lit.int k x).wf = true) → Shaped G t [.arr k n xs]
 | slice {t e : TypeId} {gss : List (List AV)} : G.kind t = .slice e → (∀ gs ∈ gss, Shaped G e gs) → Shaped G t [.sl e (gss.map (rowA G e)) false]
def contigF (G : Tab) (R : TypeId → Bool) : List (Nat × TypeId) → Nat → Option Nat
 | [], off => some off
 | f :: fs, off => if f.1 = off ∧ R f.2 = true then contigF G R fs (off + (G.S f.2).1) else none
def tabR (G : Tab) : Nat → TypeId → Bool
 | 0, _ => false
 | m + 1, t =>
  match G.get t with
  | none => false
  | some i =>
   match i.kind with
   | .int _ => true
   | .bool => true
   | .str => true
   | .struct fl => decide (contigF G (tabR G m) fl 0 = some i.size)
   | .arr n e => (match G.kind e with | .int _ => true | _ => false) && decide ((G.S e).1 = 1) && decide (i.size = n)
   | .slice e => tabR G m e && decide (0 < (G.S e).1)
   | _ => false
def noC (W : World) : Ctx := ⟨W, [], ⟨fun _ => False, fun _ => False, W.heap.size, fun _ h => h⟩⟩
theorem noC_ok (W : World) (b : Nat) : (noC W).ok b := ⟨id, by simp [noC]⟩
theorem cells_spec {w : World} {base : Nat} {a : Addr} {n : Nat} {cs : List Value} (h : w.cells? base a n = some cs) : cs.length = n ∧ ∀ j v, cs[j]? = some v → w.cell? (a.add j) = some v := by
 unfold World.cells? at h
 split at h
 ·have hl := mapM_some_length h
  rw [List.length_range] at hl
  refine ⟨hl, fun j v hj => ?_⟩
  have hjl : j < n := by rw [← hl]; exact (List.getElem?_eq_some_iff.1 hj).1
  have := mapM_some_get h j j (by simp [hjl])
  rw [this, hj]
 ·cases h
theorem get_size (hG : G.ok P) {t : TypeId} {i : TInfo} (h : G.get t = some i) : P.cellsOf t = (G.S t).1 ∧ P.bytesOf t = (G.S t).2 := by
 obtain ⟨inf, z, k1, k2, k3, _⟩ := (hG t i h).info
 rw [S_get h]
 simp [Program.cellsOf, Program.bytesOf, k1, k2, k3]
theorem rowA_rel {C : Ctx} {S : Sizes} {e : TypeId} {gs : List AV} {cs : List Value} (hs : Shaped G e gs) (r : RelL S C gs cs) : RelV S C (rowA G e gs) cs := by
 unfold rowA
 cases hs with
 | int hk _ => rw [hk]; exact RelL_one.1 r
 | bool hk => rw [hk]; exact RelL_one.1 r
 | str hk _ => rw [hk]; exact RelL_one.1 r
 | slice hk _ => rw [hk]; exact RelL_one.1 r
 | arr hk _ _ _ => rw [hk]; exact RelL_one.1 r
 | struct hk _ _ =>
  rw [hk]
  simp only [TK.isAgg, if_true]
  unfold mkAgg
  split
  ·rename_i h; rw [h] at r; exact RelL_one.1 r
  ·exact r
theorem weightsAll_mem {H : Type} {e : TypeId} : ∀ {l : List (DataW H)} {d : DataW H} {n : Nat}, d ∈ l → n ∈ DataW.weights P e d → n ∈ DataW.weightsAll P e l
 | d0 :: r, d, n, hm, hn => by
   simp only [DataW.weightsAll, List.mem_append]
   rcases List.mem_cons.1 hm with h | h
   ·subst h; exact .inl hn
   ·exact .inr (weightsAll_mem h hn)
theorem trod_shaped (hG : G.ok P) {H : Type} {enc : TypeId × Value → H} {W : World} {sp : Nat → Bool} : ∀ (m : Nat) (t : TypeId), tabR G m t = true → ∀ (fuel : Nat) (cs : List Value) (d : DataW H) (p : List MemPlace),
  DataW.trod enc P W 0 sp true fuel t cs = some (d, p) → (∀ n ∈ DataW.weights P t d, n ≤ reachBytes) → ∃ gs, Shaped G t gs ∧ RelL G.S (noC W) gs cs
 | 0, t, h => by simp [tabR] at h
 | m + 1, t, h => by
  intro fuel cs d p ht hw
  simp only [tabR] at h
  split at h
  ·cases h
  ·rename_i i hi
   have hk : G.kind t = i.kind := by unfold Tab.kind; rw [hi]
   obtain ⟨dsc, hd, hfit⟩ := (hG t i hi).desc
   split at h
   ·rename_i k hik
    rw [hik] at hfit hk
    simp only [TK.fits] at hfit
    subst hfit
    obtain ⟨n, rfl, _, hwf⟩ := DataW.trod_int hd ht
    exact ⟨_, .int hk hwf, RelL_one.2 ⟨rfl, rfl⟩⟩
   ·rename_i hik
    rw [hik] at hfit hk
    simp only [TK.fits] at hfit
    subst hfit
    obtain ⟨b, rfl, _⟩ := DataW.trod_bool hd ht
    exact ⟨_, .bool hk, RelL_one.2 ⟨rfl, rfl⟩⟩
   ·rename_i hik
    rw [hik] at hfit hk
    simp only [TK.fits] at hfit
    subst hfit
    obtain ⟨s, rfl, _, hs⟩ := DataW.trod_string hd ht
    exact ⟨_, .str hk hs, RelL_one.2 ⟨rfl, rfl⟩⟩
   ·rename_i fl hik
    rw [hik] at hfit hk
    obtain ⟨fs, rfl, hfl⟩ := hfit
    have hcon := of_decide_eq_true h
    obtain ⟨xs, n, _, hx, hlen, hxl, hf⟩ := DataW.trod_struct hd ht
    injection hx with hx1 hx2
    have hcl : cs.length = i.size := by rw [hlen, (get_size hG hi).1, S_get hi]
    have hwe : ∀ q ∈ DataW.weightsEach P (fs.toList.map (·.type)) (xs.map (·.1)), q ≤ reachBytes := by
     intro q hq
     refine hw q ?_
     rw [hx1]
     simp only [DataW.weights, hd]
     exact hq
    have key : ∀ (gl : List Field) (ys : List (DataW H × List MemPlace)) (off : Nat), ys.length = gl.length → (∀ (j : Nat) (f : Field), gl[j]? = some f → DataW.trod enc P W 0 sp true n f.type ((cs.drop f.offset).take (P.cellsOf f.type)) = ys[j]?) →
      (∀ q ∈ DataW.weightsEach P (gl.map (·.type)) (ys.map (·.1)), q ≤ reachBytes) → contigF G (tabR G m) (gl.map fun f => (f.offset, f.type)) off = some cs.length →
      ∃ gss : List (List AV), gss.length = gl.length ∧ (∀ (j : Nat) (f : Field) (gs : List AV), gl[j]? = some f → gss[j]? = some gs → Shaped G f.type gs) ∧ RelL G.S (noC W) gss.flatten (cs.drop off) := by
     intro gl
     induction gl with
     | nil =>
      intro ys off h1 h2 h3 h4
      injection h4 with h4
      refine ⟨[], rfl, fun j f gs hj => by simp at hj, ?_⟩
      rw [h4, List.drop_length]
      rfl
     | cons f gl ih =>
      intro ys off h1 h2 h3 h4
      cases ys with
      | nil => simp at h1
      | cons y ys =>
       simp only [List.map_cons, contigF] at h4
       split at h4
       ·rename_i hh
        obtain ⟨ho, hR⟩ := hh
        have hy := h2 0 f rfl
        simp only [List.getElem?_cons_zero] at hy
        have hgf : ∃ fi, G.get f.type = some fi := by
         cases m with
         | zero => simp [tabR] at hR
         | succ m =>
          simp only [tabR] at hR
          split at hR
          ·cases hR
          ·exact ⟨_, by assumption⟩
        obtain ⟨fi, hfi⟩ := hgf
        have hsz := (get_size hG hfi).1
        obtain ⟨y1, y2⟩ := y
        obtain ⟨gs, g1, g2⟩ := trod_shaped hG m f.type hR n _ y1 y2 hy (fun q hq => h3 q (by simp only [List.map_cons, DataW.weightsEach, List.mem_append]; exact .inl hq))
        obtain ⟨gss, k1, k2, k3⟩ := ih ys (off + (G.S f.type).1) (by simpa using h1) (fun j f' hj => by simpa using h2 (j + 1) f' (by simpa using hj)) (fun q hq => h3 q (by simp only [List.map_cons, DataW.weightsEach, List.mem_append]; exact .inr hq)) h4
        refine ⟨gs :: gss, by simp [k1], ?_, ?_⟩
        ·intro j f' gs' hj hgj
         cases j with
         | zero =>
          simp only [List.getElem?_cons_zero, Option.some.injEq] at hj hgj
          subst hj; subst hgj
          exact g1
         | succ j => exact k2 j f' gs' (by simpa using hj) (by simpa using hgj)
        ·rw [List.flatten_cons]
         subst ho
         rw [hsz] at g2
         have := RelL.append gs gss.flatten _ _ g2 k3
         rw [← List.drop_drop, List.take_append_drop] at this
         exact this
       ·cases h4
    obtain ⟨gss, k1, k2, k3⟩ := key fs.toList xs 0 (by simpa using hxl) (fun j f hj => hf j f (by simpa using hj)) hwe (by rw [hfl, hcl]; exact hcon)
    refine ⟨gss.flatten, .struct hk (by rw [k1, ← hfl]; simp) (fun j f gs hj hg => ?_), by simpa using k3⟩
    rw [← hfl] at hj
    rw [List.getElem?_map] at hj
    obtain ⟨f', hf', rfl⟩ := Option.map_eq_some_iff.1 hj
    exact k2 j f' gs hf' hg
   ·rename_i n e hik
    rw [hik] at hfit hk
    simp only [TK.fits] at hfit
    subst hfit
    simp only [Bool.and_eq_true, decide_eq_true_eq] at h
    obtain ⟨⟨h1, h2⟩, h3⟩ := h
    split at h1
    ·rename_i k hek
     obtain ⟨ei, hei, hek'⟩ := kind_get hek (by simp)
     obtain ⟨ed, hed, hef⟩ := (hG e ei hei).desc
     rw [hek'] at hef
     simp only [TK.fits] at hef
     subst hef
     have hce : P.cellsOf e = 1 := by rw [(get_size hG hei).1, h2]
     obtain ⟨xs, m', _, _, hlen, hxl, hf⟩ := DataW.trod_array hd ht
     have hcl : cs.length = n := by rw [hlen, (get_size hG hi).1, S_get hi, h3]
     have each : ∀ j, j < n → ∃ x, cs[j]? = some (.int k x) ∧ (Lit.int k x).wf = true := by
      intro j hj
      have := hf j hj
      rw [hce, Nat.mul_one] at this
      obtain ⟨y, hy⟩ : ∃ y, xs[j]? = some y := ⟨_, List.getElem?_eq_getElem (by omega)⟩
      rw [hy] at this
      obtain ⟨x, e1, _, e2⟩ := DataW.trod_int hed this
      refine ⟨x, ?_, e2⟩
      rw [List.drop_eq_getElem_cons (by omega)] at e1
      simp only [List.take_succ_cons, List.take_zero, List.cons.injEq, and_true] at e1
      rw [List.getElem?_eq_getElem (by omega), e1]
     have all : ∀ (cs : List Value), (∀ j, j < cs.length → ∃ x, cs[j]? = some (.int k x) ∧ (Lit.int k x).wf = true) → ∃ xs : List Int, cs = xs.map (Value.int k) ∧ ∀ x ∈ xs, (Lit.int k x).wf = true := by
      intro cs
      induction cs with
      | nil => intro _; exact ⟨[], rfl, by simp⟩
      | cons c cs ih =>
       intro hh
       obtain ⟨x, e1, e2⟩ := hh 0 (by simp)
       obtain ⟨xs, e3, e4⟩ := ih fun j hj => by simpa using hh (j + 1) (by simpa using hj)
       simp only [List.getElem?_cons_zero, Option.some.injEq] at e1
       exact ⟨x :: xs, by simp [e1, e3], by simpa using ⟨e2, e4⟩⟩
     obtain ⟨zs, e1, e2⟩ := all cs (fun j hj => each j (by omega))
     have hzl : zs.length = n := by rw [← hcl, e1, List.length_map]
     exact ⟨_, .arr hk hek hzl e2, RelL_one.2 ⟨hzl, e1⟩⟩
    ·cases h1
   ·rename_i e hik
    rw [hik] at hfit hk
    simp only [TK.fits] at hfit
    subst hfit
    simp only [Bool.and_eq_true, decide_eq_true_eq] at h
    obtain ⟨h1, h2⟩ := h
    rcases Deep.open_slice hd ht with ⟨rfl, _⟩ | ⟨a, len, cap, mm, n, D, Pl, rfl, hb, hlc, hcm, hmm, hx, hel⟩
    ·exact ⟨_, .slice (gss := []) hk (by simp), RelL_one.2 ⟨none, 0, rfl, Nat.le_refl _, fun h => by simp at h, by decide, by simp [reach], .inl rfl⟩⟩
    ·injection hx with hx1 hx2
     have hge : ∃ ei, G.get e = some ei := by
      cases hq : G.get e with
      | none =>
       cases m with
       | zero => cases h1
       | succ m => simp only [tabR, hq] at h1; cases h1
      | some ei => exact ⟨ei, rfl⟩
     obtain ⟨ei, hei⟩ := hge
     have hsz := get_size hG hei
     have hlm : len ≤ mm := by rw [hmm]; split <;> omega
     have hwt : len * P.bytesOf e ≤ reachBytes := by
      have := hw _ (by rw [hx1]; simp only [DataW.weights, hd]; exact List.mem_cons_self)
      simp only [List.length_map, List.length_range] at this
      exact Nat.le_trans (Nat.mul_le_mul_right _ (by omega)) this
     have hwi : ∀ j, j < len → ∀ q ∈ DataW.weights P e (D j), q ≤ reachBytes := by
      intro j hj q hq
      refine hw q ?_
      rw [hx1]
      simp only [DataW.weights, hd]
      refine List.mem_cons_of_mem _ (List.mem_append.2 (.inl (weightsAll_mem (List.mem_map.2 ⟨j, by simpa using hj, rfl⟩) hq)))
     have each : ∀ j, j < len → ∃ gs cs', Shaped G e gs ∧ W.cells? 0 (a.add (j * P.cellsOf e)) (P.cellsOf e) = some cs' ∧ RelL G.S (noC W) gs cs' := by
      intro j hj
      obtain ⟨cs', c1, c2⟩ := hel j (by omega)
      obtain ⟨gs, g1, g2⟩ := trod_shaped hG m e h1 n cs' (D j) (Pl j) c2 (hwi j hj)
      exact ⟨gs, cs', g1, c1, g2⟩
     have all : ∀ (r j0 : Nat), j0 + r = len → ∃ gss : List (List AV), gss.length = r ∧ (∀ gs ∈ gss, Shaped G e gs) ∧ ∀ j gs, gss[j]? = some gs → ∃ cs', W.cells? 0 (a.add ((j0 + j) * P.cellsOf e)) (P.cellsOf e) = some cs' ∧ RelL G.S (noC W) gs cs' := by
      intro r
      induction r with
      | zero => intro j0 _; exact ⟨[], rfl, by simp, by simp⟩
      | succ r ih =>
       intro j0 hj0
       obtain ⟨gs, cs', g1, g2, g3⟩ := each j0 (by omega)
       obtain ⟨gss, k1, k2, k3⟩ := ih (j0 + 1) (by omega)
       refine ⟨gs :: gss, by simp [k1], by simpa using ⟨g1, k2⟩, fun j gs' hj => ?_⟩
       cases j with
       | zero =>
        simp only [List.getElem?_cons_zero, Option.some.injEq] at hj
        subst hj
        exact ⟨cs', g2, g3⟩
       | succ j =>
        have := k3 j gs' (by simpa using hj)
        rwa [show j0 + 1 + j = j0 + (j + 1) by omega] at this
     obtain ⟨gss, k1, k2, k3⟩ := all len 0 (by omega)
     refine ⟨_, .slice hk k2, RelL_one.2 ⟨some a, cap, by rw [List.length_map, k1], by rw [List.length_map, k1]; exact hlc, fun h => by simp at h, hcm, ?_, ?_⟩⟩
     ·rw [List.length_map, k1, ← hsz.2]
      exact Nat.le_trans hwt (Nat.le_of_lt reachBytes_lt)
     ·by_cases hz : gss = []
      ·left; rw [hz]; rfl
      ·right
       have hpos : 0 < len := by rw [← k1]; exact List.length_pos_iff.2 hz
       obtain ⟨gs0, hg0⟩ : ∃ gs, gss[0]? = some gs := ⟨_, List.getElem?_eq_getElem (by omega)⟩
       obtain ⟨cs0, c1, c2⟩ := k3 0 gs0 hg0
       have hc0 := cells_spec c1
       have hne : 0 < cs0.length := by rw [hc0.1, hsz.1]; exact h2
       obtain ⟨v0, hv0⟩ : ∃ v, cs0[0]? = some v := ⟨_, List.getElem?_eq_getElem hne⟩
       have hcell := hc0.2 0 v0 hv0
       have hspot : a.spot = none := by
        simp only [Nat.zero_add, Nat.zero_mul] at hcell
        unfold World.cell? at hcell
        unfold Addr.add at hcell
        simp only [if_true] at hcell
        split at hcell
        ·split at hcell
         ·cases hcell
         ·rename_i hs
          cases hq : a.spot with
          | none => rfl
          | some _ => rw [hq] at hs; simp at hs
        ·cases hcell
       have hab : a.block < W.heap.size := by
        have h := World.block_lt_of_cell? W _ hcell
        simp only [Nat.zero_add, Nat.zero_mul] at h
        unfold Addr.add at h
        simpa using h
       refine ⟨a.block, a.off, ?_, .inl ⟨(hG e ei hei).lt, noC_ok W _, fun hn => absurd hab (Nat.not_lt_of_le hn)⟩, ?_⟩
       ·obtain ⟨b, o, s⟩ := a
        simp only at hspot
        subst hspot
        rfl
       ·have haa : a = ⟨a.block, a.off, none⟩ := by
         obtain ⟨b, o, s⟩ := a
         simp only at hspot
         subst hspot
         rfl
        have fin : ∀ (gl : List (List AV)) (off : Nat), (∀ gs ∈ gl, Shaped G e gs) → (∀ j gs, gl[j]? = some gs → ∃ cs', W.cells? 0 ⟨a.block, off + j * (G.S e).1, none⟩ (G.S e).1 = some cs' ∧ RelL G.S (noC W) gs cs') → RelR G.S (noC W).flat a.block (G.S e).1 (gl.map (rowA G e)) off := by
         intro gl
         induction gl with
         | nil => intro off _ _; trivial
         | cons gs gl ih =>
          intro off q1 q2
          obtain ⟨cs', r1, r2⟩ := q2 0 gs rfl
          have r3 := cells_spec r1
          refine ⟨⟨cs', ?_, r3.1, ?_, ?_⟩, ih (off + (G.S e).1) (fun g hg => q1 g (by simp [hg])) ?_⟩
          ·exact RelV.mono (Mono.flat (Step.refl (noC W)).mono) _ _ (by
            have := rowA_rel (q1 gs (by simp)) r2
            have hfl : (noC W).flat = noC W := by
             unfold Ctx.flat noC
             congr 1
             refine Keep.eq ?_ rfl
             funext b
             simp
            rw [hfl]; exact this)
          ·intro hnil
           rw [hnil] at r3
           simp at r3
           omega
          ·intro j v hj
           have := r3.2 j v hj
           rw [addr_add] at this
           have h' : W.cell? ⟨a.block, off + j, none⟩ = some v := by simpa using this
           exact h'
          ·intro j g hj
           have := q2 (j + 1) g (by simpa using hj)
           rw [Nat.succ_mul, show off + (j * (G.S e).1 + (G.S e).1) = off + (G.S e).1 + j * (G.S e).1 by omega] at this
           exact this
        refine fin gss a.off k2 fun j gs hj => ?_
        obtain ⟨cs', r1, r2⟩ := k3 j gs hj
        rw [haa, addr_add, hsz.1, Nat.zero_add] at r1
        exact ⟨cs', r1, r2⟩
   ·cases h
end Go.Sh
namespace Go.Sh
open Go.ChangeShapes Go.WideShapes Go.RowKit
variable {P : Program} {G : Tab}
theorem open_arg (hG : G.ok P) {H : Type} {enc : TypeId × Value → H} {W : World} {m : Nat} {t : TypeId} {v : Value} {d : DataW H} {p : List MemPlace} {r : Go.Reach} {b0 : Nat} (hR : tabR G m t = true) (hval : Value.okWide P W r b0 t v)
  (h : DataW.Trod enc P W 0 (fun _ => true) true t v d p) (hw : ∀ n ∈ DataW.weights P t d, n ≤ reachBytes) : ∃ gs, Shaped G t gs ∧ VRel1 G.S (noC W) (rowA G t gs) v := by
 obtain ⟨fuel, hf⟩ := h
 obtain ⟨gs, g1, g2⟩ := trod_shaped hG m t hR fuel v.cells.toList d p hf hw
 refine ⟨gs, g1, ?_⟩
 have desc : ∀ {K : TK}, G.kind t = K → K ≠ .other → ∃ dd, P.underlying t = some dd ∧ K.fits dd := fun h1 h2 => kind_desc hG h1 h2
 cases g1 with
 | int hk hwf =>
  obtain ⟨dd, h1, h2⟩ := desc hk (by simp)
  simp only [TK.fits] at h2
  subst h2
  obtain ⟨n, rfl⟩ := okWide_int h1 hval
  have := RelL_one.1 g2
  unfold rowA
  rw [hk]
  exact this
 | bool hk =>
  obtain ⟨dd, h1, h2⟩ := desc hk (by simp)
  simp only [TK.fits] at h2
  subst h2
  obtain ⟨n, rfl⟩ := okWide_bool h1 hval
  have := RelL_one.1 g2
  unfold rowA
  rw [hk]
  exact this
 | str hk _ =>
  obtain ⟨dd, h1, h2⟩ := desc hk (by simp)
  simp only [TK.fits] at h2
  subst h2
  obtain ⟨n, rfl⟩ := okWide_string h1 hval
  have := RelL_one.1 g2
  unfold rowA
  rw [hk]
  exact this
 | slice hk _ =>
  obtain ⟨dd, h1, h2⟩ := desc hk (by simp)
  simp only [TK.fits] at h2
  subst h2
  obtain ⟨a, l, c, rfl⟩ := okWide_slice h1 hval
  have := RelL_one.1 g2
  unfold rowA
  rw [hk]
  exact this
 | arr hk hek hn hwf =>
  obtain ⟨dd, h1, h2⟩ := desc hk (by simp)
  simp only [TK.fits] at h2
  subst h2
  have : ∃ cs, v = .agg cs := by
   unfold Value.okWide at hval
   rw [h1] at hval
   obtain ⟨cs, e, _⟩ := hval
   exact ⟨cs, e⟩
  obtain ⟨cs, rfl⟩ := this
  obtain ⟨q1, q2⟩ := RelL_one.1 g2
  unfold rowA
  rw [hk]
  refine ⟨q1, ?_⟩
  simp only [Value.cells] at q2
  rw [← q2]
 | struct hk h3 h4 =>
  rename_i fl gss
  obtain ⟨dd, h1, h2⟩ := desc hk (by simp)
  obtain ⟨fs, rfl, h2⟩ := h2
  obtain ⟨cs, rfl, _⟩ := okWide_struct h1 hval
  unfold rowA
  rw [hk]
  simp only [TK.isAgg, if_true]
  have := mkAgg_rel (S := G.S) (C := noC W) (cs := cs) g2
  have hne : ∀ l, mkAgg gss.flatten ≠ AV.tup l := by
   intro l
   unfold mkAgg
   split <;> simp
  cases hq : mkAgg gss.flatten with
  | tup l => exact absurd hq (hne l)
  | _ => rw [hq] at this; exact this
theorem below_of {W : World} {C' : Ctx} (st : StepW (noC W) C') : Below W.heap.size W C'.w :=
 ⟨st.os, st.tape, st.output, st.size, fun b hb => st.block b hb (noC_ok W b).2⟩
theorem law_call {f : FuncId} {avs : List AV} {vals : Array Value} {W : World} {b : Bool} (hc : ACalls P G.S f avs [] (.sc (.bool b)) []) (hv : VRels G.S (noC W) avs vals.toList) :
  Calls P f vals W fun e w' => e = .returned (.bool b) ∧ Below W.heap.size W w' := by
 refine (hc.2 (noC W) vals (HRel.nil (fun _ h => h.elim)) hv).mono ?_
 rintro e w' ⟨v, C', rfl, rfl, st, _, hv⟩
 exact ⟨by rw [sc_inv hv], below_of st⟩
theorem shut_arg {H : Type} {enc : TypeId × Value → H} {t : TypeId} (hl : laidOutB P = true) (hr : P.readableRec t = true) (hrow : t < P.types.size) {W W' : World} {v : Value} {d : DataW H} {ps : List MemPlace}
  (h : DataW.Trod enc P W 0 (fun _ => true) true t v d ps) (hb : Below W.heap.size W W') : DataW.Trod enc P W' 0 (fun b => decide (b < W.heap.size)) true t v d ps :=
 Below.trod hl hr hrow h hb (fun x hx => by obtain ⟨n, hn⟩ := h; exact DataW.trod_lt n t _ _ hn x hx)
theorem weights_of {H : Type} {ts : List TypeId} {ds : List (DataW H)} (h : (DataW.weightsEach P ts ds).all (· ≤ reachBytes) = true) {j : Nat} {t : TypeId} {d : DataW H} (ht : ts[j]? = some t) (hd : ds[j]? = some d) : ∀ n ∈ DataW.weights P t d, n ≤ reachBytes := by
 intro n hn
 have := List.all_eq_true.1 h n (DataW.weights_mem_each ht hd n hn)
 simpa using this
theorem Shaped.int_inv {t : TypeId} {k : IntKind} {gs : List AV} (hk : G.kind t = .int k) (h : Shaped G t gs) : ∃ n, gs = [.sc (.int k n)] ∧ (Lit.int k n).wf = true := by
 cases h <;> rename_i hk' <;> first
  | (rename_i h2; rw [hk] at hk'; injection hk' with e; subst e; exact ⟨_, rfl, h2⟩)
  | skip
 all_goals simp_all
theorem Shaped.bool_inv {t : TypeId} {gs : List AV} (hk : G.kind t = .bool) (h : Shaped G t gs) : ∃ b, gs = [.sc (.bool b)] := by
 cases h with
 | bool _ => exact ⟨_, rfl⟩
 | int h1 => rw [hk] at h1; cases h1
 | str h1 => rw [hk] at h1; cases h1
 | struct h1 => rw [hk] at h1; cases h1
 | arr h1 => rw [hk] at h1; cases h1
 | slice h1 => rw [hk] at h1; cases h1
theorem Shaped.arr_inv {t e : TypeId} {n : Nat} {k : IntKind} {gs : List AV} (hk : G.kind t = .arr n e) (hek : G.kind e = .int k) (h : Shaped G t gs) : ∃ xs : List Int, gs = [.arr k n xs] ∧ xs.length = n ∧ ∀ x ∈ xs, (Lit.int k x).wf = true := by
 cases h with
 | arr h1 h2 h3 h4 =>
  rw [hk] at h1
  injection h1 with e1 e2
  subst e1; subst e2
  rw [hek] at h2
  injection h2 with e3
  subst e3
  exact ⟨_, rfl, h3, h4⟩
 | int h1 => rw [hk] at h1; cases h1
 | bool h1 => rw [hk] at h1; cases h1
 | str h1 => rw [hk] at h1; cases h1
 | struct h1 => rw [hk] at h1; cases h1
 | slice h1 => rw [hk] at h1; cases h1
theorem Shaped.slice_inv {t e : TypeId} {gs : List AV} (hk : G.kind t = .slice e) (h : Shaped G t gs) : ∃ gss : List (List AV), gs = [.sl e (gss.map (rowA G e)) false] ∧ ∀ g ∈ gss, Shaped G e g := by
 cases h with
 | slice h1 h2 =>
  rw [hk] at h1
  injection h1 with e1
  subst e1
  exact ⟨_, rfl, h2⟩
 | int h1 => rw [hk] at h1; cases h1
 | bool h1 => rw [hk] at h1; cases h1
 | str h1 => rw [hk] at h1; cases h1
 | struct h1 => rw [hk] at h1; cases h1
 | arr h1 => rw [hk] at h1; cases h1
theorem Shaped.struct_inv {t : TypeId} {fl : List (Nat × TypeId)} {gs : List AV} (hk : G.kind t = .struct fl) (h : Shaped G t gs) : ∃ gss : List (List AV), gs = gss.flatten ∧ gss.length = fl.length ∧ ∀ (i : Nat) (f : Nat × TypeId) (g : List AV), fl[i]? = some f → gss[i]? = some g → Shaped G f.2 g := by
 cases h with
 | struct h1 h2 h3 =>
  rw [hk] at h1
  injection h1 with e1
  subst e1
  exact ⟨_, rfl, h2, h3⟩
 | int h1 => rw [hk] at h1; cases h1
 | bool h1 => rw [hk] at h1; cases h1
 | str h1 => rw [hk] at h1; cases h1
 | slice h1 => rw [hk] at h1; cases h1
 | arr h1 => rw [hk] at h1; cases h1
theorem rows_typedW {α : Type} {e : TypeId} {av : α → AV} {wf : α → Prop} : ∀ (gss : List (List AV)), (∀ g ∈ gss, ∃ x : α, rowA G e g = av x ∧ wf x) → ∃ xs : List α, gss.map (rowA G e) = xs.map av ∧ ∀ x ∈ xs, wf x
 | [], _ => ⟨[], rfl, by simp⟩
 | g :: r, h => by
   obtain ⟨x, hx, hw⟩ := h g (by simp)
   obtain ⟨xs, hxs, hws⟩ := rows_typedW r fun g' hg => h g' (by simp [hg])
   exact ⟨x :: xs, by simp [hx, hxs], by simpa using ⟨hw, hws⟩⟩
abbrev intW (k : IntKind) (n : Int) : Prop := (Lit.int k n).wf = true
abbrev arrW (k : IntKind) (n : Nat) (xs : List Int) : Prop := xs.length = n ∧ ∀ x ∈ xs, (Lit.int k x).wf = true
end Go.Sh