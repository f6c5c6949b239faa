import Derived.Test.YtlnpkofmaemgpaaProg
import Derived.Test.YtlnpkofmaemgpaaM3TopoTwice
set_option linter.unusedVariables false
set_option linter.unusedSimpArgs false
set_option maxRecDepth 100000
set_option maxHeartbeats 4000000
namespace Go.Proofs.Ytlnpkofmaemgpaa
open Go.Sh
def tab : Go.Sh.Tab := [
  (1, ⟨.other, 1, 8, [.sc .nilFunc]⟩),
  (2, ⟨.int .i64, 1, 8, [.sc (.int .i64 0)]⟩),
  (3, ⟨.int .i64, 1, 8, [.sc (.int .i64 0)]⟩),
  (4, ⟨.bool, 1, 1, [.sc (.bool false)]⟩),
  (5, ⟨.int .u8, 1, 1, [.sc (.int .u8 0)]⟩),
  (9, ⟨.str, 1, 16, [.sc (.string ⟨#[]⟩)]⟩),
  (12, ⟨.int .u64, 1, 8, [.sc (.int .u64 0)]⟩),
  (13, ⟨.struct [(0, 9), (1, 12)], 2, 24, [.sc (.string ⟨#[]⟩), .sc (.int .u64 0)]⟩),
  (21, ⟨.int .i32, 1, 4, [.sc (.int .i32 0)]⟩),
  (22, ⟨.slice 36, 1, 24, [.sl 0 [] true]⟩),
  (23, ⟨.struct [(0, 3), (1, 3), (2, 3), (3, 22)], 4, 48, [.sc (.int .i64 0), .sc (.int .i64 0), .sc (.int .i64 0), .sl 0 [] true]⟩),
  (24, ⟨.struct [(0, 3), (1, 3), (2, 3), (3, 22)], 4, 48, [.sc (.int .i64 0), .sc (.int .i64 0), .sc (.int .i64 0), .sl 0 [] true]⟩),
  (25, ⟨.struct [(0, 3), (1, 3)], 2, 16, [.sc (.int .i64 0), .sc (.int .i64 0)]⟩),
  (26, ⟨.struct [(0, 3), (1, 3)], 2, 16, [.sc (.int .i64 0), .sc (.int .i64 0)]⟩),
  (27, ⟨.other, 1, 8, [.sc .nilFunc]⟩),
  (29, ⟨.other, 1, 8, [.sc .nilFunc]⟩),
  (30, ⟨.int .i64, 1, 8, [.sc (.int .i64 0)]⟩),
  (31, ⟨.other, 1, 8, [.sc .nilFunc]⟩),
  (32, ⟨.slice 26, 1, 24, [.sl 0 [] true]⟩),
  (33, ⟨.other, 1, 8, [.sc .nilFunc]⟩),
  (34, ⟨.other, 1, 8, [.sc .nilFunc]⟩),
  (35, ⟨.struct [(0, 26), (2, 26)], 4, 32, [.sc (.int .i64 0), .sc (.int .i64 0), .sc (.int .i64 0), .sc (.int .i64 0)]⟩),
  (36, ⟨.struct [(0, 26), (2, 26)], 4, 32, [.sc (.int .i64 0), .sc (.int .i64 0), .sc (.int .i64 0), .sc (.int .i64 0)]⟩),
  (37, ⟨.other, 1, 8, [.sc .nilFunc]⟩),
  (38, ⟨.other, 1, 8, [.sc .nilFunc]⟩),
  (39, ⟨.other, 1, 8, [.sc (.map none)]⟩),
  (40, ⟨.other, 1, 8, [.sc .nilFunc]⟩),
  (46, ⟨.other, 1, 8, [.sc .nilFunc]⟩),
  (47, ⟨.int .u32, 1, 4, [.sc (.int .u32 0)]⟩),
  (50, ⟨.other, 1, 8, [.sc .nilFunc]⟩),
  (51, ⟨.ptr 5, 1, 8, [.sc (.pointer none)]⟩)]

theorem tab_ok : tab.ok Try.prog := Tab.ok_of (by kernel_rfl)
theorem mixed : Try.prog.follows .mixedOrders = true := by kernel_rfl
end Go.Proofs.Ytlnpkofmaemgpaa

set_option linter.unusedVariables false
set_option linter.unusedSimpArgs false
set_option maxRecDepth 100000
set_option maxHeartbeats 4000000
namespace Go.Proofs.Ytlnpkofmaemgpaa
open Go.Sh
instance : Ok Try.prog tab := ⟨tab_ok, mixed⟩
theorem wrap_eq {n : Int} (h1 : -9223372036854775808 ≤ n) (h2 : n ≤ 9223372036854775807) : IntKind.i64.wrap n = n := by
  rw [IntKind.wrap_i64]; omega
theorem wrap_succ {i : Nat} (h : i < 9223372036854775807) : IntKind.i64.wrap ((i : Int) + 1) = ((i + 1 : Nat) : Int) := by
  rw [wrap_eq (by omega) (by omega)]; rfl
theorem ixO_lt {α : Type} {xs : List α} {i : Nat} (h : i < xs.length) : ixO xs (i : Int) = some xs[i] := by
  unfold ixO
  rw [if_pos (by omega), Int.toNat_natCast, List.getElem?_eq_getElem h]
theorem fitO_eq {α : Type} {n b : Nat} {r : Option α} (h : n * b ≤ 140737488355328) : fitO n b r = r := by
  unfold fitO; rw [if_pos h]
theorem reqO_eq {α : Type} {b : Bool} {r : Option α} (h : b = true) : reqO b r = r := by
  subst h; rfl
theorem zero_nat : (0 : Int) = ((0 : Nat) : Int) := rfl
def idxF {α : Type} (f : α → Bool) (l : List α) : Int := match l.findIdx? f with | some i => (i : Int) | none => -1
theorem idxF_any {α : Type} (f : α → Bool) (l : List α) : decide (idxF f l ≥ 0) = l.any f := by
  unfold idxF
  cases h : l.findIdx? f with
  | none =>
    have : l.any f = false := by
      rw [Bool.eq_false_iff]
      intro ha
      obtain ⟨x, hx, hf⟩ := List.any_eq_true.1 ha
      have := List.findIdx?_eq_none_iff.1 h x hx
      rw [hf] at this
      cases this
    rw [this]
    rfl
  | some i =>
    have : l.any f = true := by
      obtain ⟨hlt, hp, _⟩ := List.findIdx?_eq_some_iff_getElem.1 h
      exact List.any_eq_true.2 ⟨l[i], List.getElem_mem hlt, hp⟩
    rw [this]
    simp
theorem findIdx_drop {α : Type} (f : α → Bool) {l : List α} {i : Nat} (h : i < l.length) : (l.drop i).findIdx? f = if f l[i] then some 0 else ((l.drop (i + 1)).findIdx? f).map (· + 1) := by
  rw [List.drop_eq_getElem_cons h, List.findIdx?_cons]
def zipAll {α β : Type} (f : α → β → Bool) : List α → List β → Bool
  | [], [] => true
  | x :: l, y :: r => f x y && zipAll f l r
  | _, _ => false
theorem zipAll_beq {α : Type} [DecidableEq α] : ∀ (l r : List α), zipAll (fun x y => x == y) l r = (l == r)
  | [], [] => rfl
  | x :: l, y :: r => by
      rw [zipAll, zipAll_beq l r]
      rfl
  | [], _ :: _ => rfl
  | _ :: _, [] => rfl
theorem zipAll_len {α β : Type} {f : α → β → Bool} : ∀ {l : List α} {r : List β}, zipAll f l r = true → l.length = r.length
  | [], [], _ => rfl
  | x :: l, y :: r, h => by
      rw [zipAll, Bool.and_eq_true] at h
      rw [List.length_cons, List.length_cons, zipAll_len h.2]
  | [], _ :: _, h => by cases h
  | _ :: _, [], h => by cases h
/-- two lists side by side -/
theorem cmp_loop {α β ε ρ : Type} {e : ε} {v : ρ} (L : List α → Nat → Option (Sum ε ρ)) (s2 : List β) (f : α → β → Bool) (h0 : ∀ i, L [] i = some (.inl e)) (h1 : ∀ x rest i, L (x :: rest) i = (ixO s2 ((i : Nat) : Int)).bind fun x1 => bif (!(f x x1)) then some (.inr v) else L rest (i + 1)) :
    ∀ (l : List α) (i : Nat), l.length + i = s2.length → L l i = some (if zipAll f l (s2.drop i) then .inl e else .inr v)
  | [], i, q => by
      rw [h0, List.drop_eq_nil_of_le (by simp at q; omega)]
      rfl
  | x :: l, i, q => by
      have hlt : i < s2.length := by simp at q; omega
      rw [h1, ixO_lt hlt, Option.bind_some, cmp_loop L s2 f h0 h1 l (i + 1) (by simp at q; omega), List.drop_eq_getElem_cons hlt, zipAll]
      cases f x s2[i]
      · rfl
      · simp only [Bool.not_true, cond_false, Bool.true_and]
theorem len_bne {α β : Type} (f : α → AV) (g : β → AV) (a : List α) (b : List β) : ((((List.map f a).length : Nat) : Int) != (((List.map g b).length : Nat) : Int)) = !decide (a.length = b.length) := by
  rw [List.length_map, List.length_map]
  by_cases h : a.length = b.length
  · rw [h]; simp
  · simp [h]; omega
theorem nil_app {α : Type} (l : List α) : ([] : List α) ++ l = l := rfl
theorem zipAll_refl {α : Type} {f : α → α → Bool} : ∀ {l : List α}, (∀ x ∈ l, f x x = true) → zipAll f l l = true
  | [], _ => rfl
  | x :: l, h => by
      rw [zipAll, h x (by simp), zipAll_refl fun y hy => h y (by simp [hy])]
      rfl

/-! ### The fields' sizes -/
def sizes : List Int := [16, 48, 48, 16, 12, 4, 32, 32, 8, 8, 12, 12]
def sizeT (n : Int) : Int := if 0 ≤ n ∧ n < 12 then sizes.getD n.toNat 0 else 0
theorem sizeT_cases (n : Int) : (¬ (0 ≤ n ∧ n < 12) ∧ sizeT n = 0) ∨ (0 ≤ n ∧ n < 12 ∧ ∃ k : Nat, n = k ∧ k < 12 ∧ sizeT n = sizes.getD k 0) := by
  by_cases h : 0 ≤ n ∧ n < 12
  · refine .inr ⟨h.1, h.2, n.toNat, by omega, by omega, ?_⟩
    unfold sizeT; rw [if_pos h]
  · refine .inl ⟨h, ?_⟩
    unfold sizeT; rw [if_neg h]
theorem sizes_in : ∀ k : Nat, 0 ≤ sizes.getD k 0 ∧ sizes.getD k 0 ≤ 48
  | 0 | 1 | 2 | 3 | 4 | 5 | 6 | 7 | 8 | 9 | 10 | 11 => by decide
  | n + 12 => by
    have : sizes.getD (n + 12) 0 = 0 := rfl
    rw [this]; decide
theorem sizeT_in (n : Int) : 0 ≤ sizeT n ∧ sizeT n ≤ 48 := by
  unfold sizeT
  split
  · exact sizes_in _
  · decide
/-- a number fits a field -/
def fitsT (n v : Int) : Bool := decide (v < 2 ^ (sizeT n).toNat)
theorem pow_le48 {k : Nat} (h : k ≤ 48) : (2 : Int) ^ k ≤ 281474976710656 := by
  have : (2 : Nat) ^ k ≤ 2 ^ 48 := Nat.pow_le_pow_right (by omega) h
  have e : ((2 ^ k : Nat) : Int) = (2 : Int) ^ k := by push_cast; rfl
  rw [← e]
  omega
theorem pow_pos2 (k : Nat) : (0 : Int) < (2 : Int) ^ k := Int.pow_pos (by decide)
theorem wrapU_eq {n : Int} (h1 : 0 ≤ n) (h2 : n < 18446744073709551616) : IntKind.u64.wrap n = n := by
  unfold IntKind.wrap
  simp only [IntKind.signed, IntKind.bits, Bool.false_and, Bool.false_eq_true, if_false]
  omega

structure End where
  Unit : Int
  Port : Int
  deriving DecidableEq, Inhabited
def End.ch (r : End) : List AV := [.sc (.int .i64 r.Unit), .sc (.int .i64 r.Port)]
def End.av (r : End) : AV := .agg [.sc (.int .i64 r.Unit), .sc (.int .i64 r.Port)]
structure Link where
  A : End
  B : End
  deriving DecidableEq, Inhabited
def Link.ch (r : Link) : List AV := [.sc (.int .i64 r.A.Unit), .sc (.int .i64 r.A.Port), .sc (.int .i64 r.B.Unit), .sc (.int .i64 r.B.Port)]
def Link.av (r : Link) : AV := .agg [.sc (.int .i64 r.A.Unit), .sc (.int .i64 r.A.Port), .sc (.int .i64 r.B.Unit), .sc (.int .i64 r.B.Port)]
structure Setup where
  Units : Int
  Ports : Int
  Room : Int
  Links : List Link
  deriving DecidableEq, Inhabited
def Setup.ch (r : Setup) : List AV := [.sc (.int .i64 r.Units), .sc (.int .i64 r.Ports), .sc (.int .i64 r.Room), .sl 36 (List.map Link.av r.Links) false]
def Setup.av (r : Setup) : AV := .agg [.sc (.int .i64 r.Units), .sc (.int .i64 r.Ports), .sc (.int .i64 r.Room), .sl 36 (List.map Link.av r.Links) false]

end Go.Proofs.Ytlnpkofmaemgpaa

set_option linter.unusedVariables false
set_option linter.unusedSimpArgs false
set_option maxRecDepth 100000
set_option maxHeartbeats 4000000
namespace Go.Proofs.Ytlnpkofmaemgpaa
open Go.Sh
theorem kl_End : KL Try.prog tab.S 26 End.av (fun e : End => .agg ([Value.int .i64 e.Unit, Value.int .i64 e.Port]).toArray) :=
  kl_agg (m := 2) (fun e : End => [Value.int .i64 e.Unit, Value.int .i64 e.Port]) (ls := [0, 0]) (fs := Try.prog.fieldsOf 26) (by kernel_rfl) (by decide) (by kernel_rfl) (by kernel_rfl) (fun k => rfl)
    (fun (k : End) v hv => by
      rcases List.mem_cons.1 hv with rfl | hv
      · rfl
      · rw [List.mem_singleton] at hv
        subst hv
        rfl)
    (fun (k k' : End) => by
      have e : cmpKL [0, 0] [Value.int .i64 k.Unit, Value.int .i64 k.Port] [Value.int .i64 k'.Unit, Value.int .i64 k'.Port] = some ((k.Unit == k'.Unit) && ((k.Port == k'.Port) && true)) := rfl
      rw [e]
      obtain ⟨u, p⟩ := k
      obtain ⟨u', p'⟩ := k'
      congr 1
      rw [Bool.eq_iff_iff]
      simp [End.mk.injEq])
end Go.Proofs.Ytlnpkofmaemgpaa

set_option linter.unusedVariables false
set_option linter.unusedSimpArgs false
set_option maxRecDepth 100000
set_option maxHeartbeats 4000000
namespace Go.Proofs.Ytlnpkofmaemgpaa
open Go.Sh
/-! ### topo.end: function 13 -/
noncomputable def topo_end_F : Go.Sh.Fn := ⟨13, bodyOf Try.f13, 27⟩
def topo_end (s : Setup) (e1 : End) : Bool :=
  ((((decide (e1.Unit ≥ 0)) && (decide (e1.Unit < s.Units))) && (decide (e1.Port ≥ 1))) && (decide (e1.Port ≤ s.Ports)))
theorem topo_end_calls (s : Setup) (e1 : End) : ACalls Try.prog tab.S 13 [Setup.av s, End.av e1] [] (.sc (.bool (topo_end s e1))) [] := by
  generalize H : topo_end s e1 = r
  refine .of_AX topo_end_F Try.func13 fun c0 hc0 => ?_
  rw [topo_end] at H
  refine .sg 3 [2,3] (.rg (.sg 4 [2,3,8] (.mx 0 [2,3,14] (.sg 1 [2,3,15] (.mx 0 [2,3,19] (.sg 1 [2,3,20] (.mx 0 [26] (.sg 1 [4] (.dn ?_)))))))))
  subst H
  exact .ret Try.func13 hc0

/-! ### topo.span: function 12 -/
noncomputable def topo_span_F : Go.Sh.Fn := ⟨12, bodyOf Try.f12, 15⟩
def topo_span (n : Int) (low : Int) (high : Int) : Bool :=
  ((decide (n ≥ low)) && (decide (n ≤ high)))
theorem topo_span_calls (n : Int) (low : Int) (high : Int) : ACalls Try.prog tab.S 12 [.sc (.int .i64 n), .sc (.int .i64 low), .sc (.int .i64 high)] [] (.sc (.bool (topo_span n low high))) [] := by
  generalize H : topo_span n low high = r
  refine .of_AX topo_span_F Try.func12 fun c0 hc0 => ?_
  rw [topo_span] at H
  refine .sg 3 [0,1,2] (.rg (.sg 4 [0,2,10] (.mx 0 [14] (.sg 1 [6] (.dn ?_)))))
  subst H
  exact .ret Try.func12 hc0

/-! ### topo.Sound: function 9 -/
noncomputable def topo_Sound_F : Go.Sh.Fn := ⟨9, bodyOf Try.f9, 69⟩
def topo_Sound_l0s (s : Setup) : List Link → List (End × Int) → Sum ((List (End × Int))) (Int)
  | [], o1 =>
    (.inl o1)
  | x :: rest, o1 =>
    (bif ((!(topo_end s x.A)) || (!(topo_end s x.B))) then
      (.inr 2)
    else
      (bif ((decide ((getM x.A 0 (putM x.B (IntKind.i64.wrap ((getM x.B 0 (putM x.A (IntKind.i64.wrap ((getM x.A 0 o1) + 1)) o1)) + 1)) (putM x.A (IntKind.i64.wrap ((getM x.A 0 o1) + 1)) o1))) > 1)) || (decide ((getM x.B 0 (putM x.B (IntKind.i64.wrap ((getM x.B 0 (putM x.A (IntKind.i64.wrap ((getM x.A 0 o1) + 1)) o1)) + 1)) (putM x.A (IntKind.i64.wrap ((getM x.A 0 o1) + 1)) o1))) > 1))) then
        (.inr 2)
      else
        topo_Sound_l0s s rest (putM x.B (IntKind.i64.wrap ((getM x.B 0 (putM x.A (IntKind.i64.wrap ((getM x.A 0 o1) + 1)) o1)) + 1)) (putM x.A (IntKind.i64.wrap ((getM x.A 0 o1) + 1)) o1))))
theorem topo_Sound_l0_walk (s : Setup) (r : Int) (c0 : Ctx) (hc0 : c0.m.length = 0) (res : Sum ((List (End × Int))) (Int)) (J : ∀ w : (List (End × Int)), res = .inl w → AX Try.prog tab topo_Sound_F c0 (Rp tab.S c0 (.sc (.int .i64 r)) []) (some ⟨[.code [1, 1, 1, 1]], [], [.box 24 (Setup.ch s), .vals .mapD (mapAV End.av (intA .i64) w)]⟩)) (Jr : ∀ w, res = .inr w → w = r) :
    ∀ (rest : List Link) (t26 : Nat) (z : Int) (hI : z = ((t26 : Nat) : Int)) (hd : s.Links.drop t26 = rest) (o1 : List (End × Int)) (H : topo_Sound_l0s s rest o1 = res), AX Try.prog tab topo_Sound_F c0 (Rp tab.S c0 (.sc (.int .i64 r)) []) (some ⟨[.code [1, 1, 1, 0, 1, 0, 0], .loop [1, 1, 1, 0, 1, 0], .blk 0, .code [1, 1, 1, 1]], [(1, .ptr 0 0 none), (3, .ref mapK 1), (24, .sl 36 (List.map Link.av s.Links) false), (25, .sc (.int .i64 (((List.map Link.av s.Links).length : Nat) : Int))), (26, .sc (.int .i64 z))], [.box 24 (Setup.ch s), .vals .mapD (mapAV End.av (intA .i64) o1)]⟩) := by
  intro rest
  induction rest with
  | nil =>
    intro t26 z hI hd o1 H
    subst hI
    rw [topo_Sound_l0s] at H
    refine .facts 24 fun hf => ?_
    have hlen : s.Links.length ≤ 9223372036854775807 := by have hq := len_ok hf.2.1; rw [List.length_map] at hq; exact hq
    have hge : s.Links.length ≤ t26 := List.drop_eq_nil_iff.1 hd
    have hc : (decide (((t26 : Nat) : Int) < (((List.map Link.av s.Links).length : Nat) : Int))) = false := by rw [List.length_map]; exact decide_eq_false (by omega)
    exact .sg 3 [1,3,24,25,26,27] (.cdF hc (.sg 1 [] (.kp [] (.to (J o1 H.symm)))))
  | cons x rest ih =>
    intro t26 z hI hd o1 H
    subst hI
    rw [topo_Sound_l0s] at H
    refine .facts 24 fun hf => ?_
    have hlen : s.Links.length ≤ 9223372036854775807 := by have hq := len_ok hf.2.1; rw [List.length_map] at hq; exact hq
    obtain ⟨hlt, hv_t26, hd2⟩ := drop_cons hd
    have hc : (decide (((t26 : Nat) : Int) < (((List.map Link.av s.Links).length : Nat) : Int))) = true := by rw [List.length_map]; exact decide_eq_true (by omega)
    have hw : IntKind.i64.wrap (((t26 : Nat) : Int) + 1) = ((t26 + 1 : Nat) : Int) := wrapI_succ (by omega)
    refine .sg 3 [1,3,24,25,26,27] (.cdT hc (.sg 4 [1,3,24,25,26] (.rg (.xi [1,3,24,25,26,28] Link.av hv_t26 (.sg 3 [1,3,5,24,25,26] (.dn (.sg 2 [1,3,5,24,25,26] (.rg (.sg 3 [1,3,5,24,25,26,30,32] (.cp [1,3,5,24,25,26,33] (topo_end_calls s x.A) (.sg 2 [1,3,5,24,25,26,35] (.mm 35 (!(topo_end s x.A)) 6 [.pure, .pure, .pure, .read, .pure, .read] [1, 3, 5, 24, 25, 26, 41] 41 (fun z => .sc (.bool (z || (!(topo_end s x.B))))) ?J9 (fun hb J => ?ht9) (fun hb J => ?hf9)))))))))))))
    case ht9 =>
      exact .sg 6 [1,3,5,24,25,26,41] (.cl J)
    case hf9 =>
      exact .sg 3 [1,3,5,24,25,26,35,36,38] (.cp [1,3,5,24,25,26,35,39] (topo_end_calls s x.B) (.sg 2 [1,3,5,24,25,26,41] (.cl J)))
    refine .dn (.cd ((!(topo_end s x.A)) || (!(topo_end s x.B))) H (fun hb H => ?_) (fun hb H => ?_))
    ·
      refine .sg 2 [2] ?_
      subst H
      obtain rfl := Jr _ rfl
      exact .ret Try.func9 hc0
    ·
      refine .sg 2 [1,3,5,24,25,26] (.rp hc0 [1, 3, 5, 24, 25, 26] [⟨3, [], [5], .read, [(42, .ref mapK 1), (44, End.av x.A)], [.box 24 (Setup.ch s), .vals .mapD (mapAV End.av (intA .i64) o1), .box 36 (Link.ch x)], .sc (.int .i64 (getM x.A 0 o1)), [.box 24 (Setup.ch s), .vals .mapD (mapAV End.av (intA .i64) o1), .box 36 (Link.ch x)]⟩, ⟨5, [], [], .loud, [(42, .ref mapK 1), (44, End.av x.A)], [.box 24 (Setup.ch s), .vals .mapD (mapAV End.av (intA .i64) o1), .box 36 (Link.ch x)], .tup [.sc (.int .i64 (getM x.A 0 o1)), .sc (.int .i64 ((posM x.A o1 : Nat) : Int))], [.box 24 (Setup.ch s), .vals .mapD (mapAV End.av (intA .i64) (entM x.A 0 o1)), .box 36 (Link.ch x)]⟩, ⟨7, [], [], .loud, [(42, .ref mapK 1), (46, .sc (.int .i64 (IntKind.i64.wrap ((getM x.A 0 o1) + 1)))), (48, .sc (.int .i64 ((posM x.A o1 : Nat) : Int)))], [.box 24 (Setup.ch s), .vals .mapD (mapAV End.av (intA .i64) (entM x.A 0 o1)), .box 36 (Link.ch x)], .u, [.box 24 (Setup.ch s), .vals .mapD (mapAV End.av (intA .i64) (putM x.A (IntKind.i64.wrap ((getM x.A 0 o1) + 1)) o1)), .box 36 (Link.ch x)]⟩, ⟨3, [5], [], .read, [(42, .ref mapK 1), (44, End.av x.A)], [.box 24 (Setup.ch s), .vals .mapD (mapAV End.av (intA .i64) (entM x.A 0 o1)), .box 36 (Link.ch x)], .sc (.int .i64 (getM x.A 0 o1)), [.box 24 (Setup.ch s), .vals .mapD (mapAV End.av (intA .i64) (entM x.A 0 o1)), .box 36 (Link.ch x)]⟩] [[0, 1, 2], [0, 1, 2]] (.cons (LQ.ml (intA .i64) kl_End (fun _ => rfl) o1 x.A 0 false) (.cons (LQ.me (intA .i64) kl_End (fun _ => rfl) o1 x.A 0 []) (.cons (LQ.es End.av (intA .i64) o1 x.A 0 (IntKind.i64.wrap ((getM x.A 0 o1) + 1))) (.cons (LQ.mlB (intA .i64) kl_End (fun _ => rfl) o1 x.A 0) .nil)))) (by kernel_rfl) (.sg 1 [1,3,5,24,25,26] (.rp hc0 [1, 3, 5, 24, 25, 26] [⟨3, [], [5], .read, [(49, .ref mapK 1), (51, End.av x.B)], [.box 24 (Setup.ch s), .vals .mapD (mapAV End.av (intA .i64) (putM x.A (IntKind.i64.wrap ((getM x.A 0 o1) + 1)) o1)), .box 36 (Link.ch x)], .sc (.int .i64 (getM x.B 0 (putM x.A (IntKind.i64.wrap ((getM x.A 0 o1) + 1)) o1))), [.box 24 (Setup.ch s), .vals .mapD (mapAV End.av (intA .i64) (putM x.A (IntKind.i64.wrap ((getM x.A 0 o1) + 1)) o1)), .box 36 (Link.ch x)]⟩, ⟨5, [], [], .loud, [(49, .ref mapK 1), (51, End.av x.B)], [.box 24 (Setup.ch s), .vals .mapD (mapAV End.av (intA .i64) (putM x.A (IntKind.i64.wrap ((getM x.A 0 o1) + 1)) o1)), .box 36 (Link.ch x)], .tup [.sc (.int .i64 (getM x.B 0 (putM x.A (IntKind.i64.wrap ((getM x.A 0 o1) + 1)) o1))), .sc (.int .i64 ((posM x.B (putM x.A (IntKind.i64.wrap ((getM x.A 0 o1) + 1)) o1) : Nat) : Int))], [.box 24 (Setup.ch s), .vals .mapD (mapAV End.av (intA .i64) (entM x.B 0 (putM x.A (IntKind.i64.wrap ((getM x.A 0 o1) + 1)) o1))), .box 36 (Link.ch x)]⟩, ⟨7, [], [], .loud, [(49, .ref mapK 1), (53, .sc (.int .i64 (IntKind.i64.wrap ((getM x.B 0 (putM x.A (IntKind.i64.wrap ((getM x.A 0 o1) + 1)) o1)) + 1)))), (55, .sc (.int .i64 ((posM x.B (putM x.A (IntKind.i64.wrap ((getM x.A 0 o1) + 1)) o1) : Nat) : Int)))], [.box 24 (Setup.ch s), .vals .mapD (mapAV End.av (intA .i64) (entM x.B 0 (putM x.A (IntKind.i64.wrap ((getM x.A 0 o1) + 1)) o1))), .box 36 (Link.ch x)], .u, [.box 24 (Setup.ch s), .vals .mapD (mapAV End.av (intA .i64) (putM x.B (IntKind.i64.wrap ((getM x.B 0 (putM x.A (IntKind.i64.wrap ((getM x.A 0 o1) + 1)) o1)) + 1)) (putM x.A (IntKind.i64.wrap ((getM x.A 0 o1) + 1)) o1))), .box 36 (Link.ch x)]⟩, ⟨3, [5], [], .read, [(49, .ref mapK 1), (51, End.av x.B)], [.box 24 (Setup.ch s), .vals .mapD (mapAV End.av (intA .i64) (entM x.B 0 (putM x.A (IntKind.i64.wrap ((getM x.A 0 o1) + 1)) o1))), .box 36 (Link.ch x)], .sc (.int .i64 (getM x.B 0 (putM x.A (IntKind.i64.wrap ((getM x.A 0 o1) + 1)) o1))), [.box 24 (Setup.ch s), .vals .mapD (mapAV End.av (intA .i64) (entM x.B 0 (putM x.A (IntKind.i64.wrap ((getM x.A 0 o1) + 1)) o1))), .box 36 (Link.ch x)]⟩] [[0, 1, 2], [0, 1, 2]] (.cons (LQ.ml (intA .i64) kl_End (fun _ => rfl) (putM x.A (IntKind.i64.wrap ((getM x.A 0 o1) + 1)) o1) x.B 0 false) (.cons (LQ.me (intA .i64) kl_End (fun _ => rfl) (putM x.A (IntKind.i64.wrap ((getM x.A 0 o1) + 1)) o1) x.B 0 []) (.cons (LQ.es End.av (intA .i64) (putM x.A (IntKind.i64.wrap ((getM x.A 0 o1) + 1)) o1) x.B 0 (IntKind.i64.wrap ((getM x.B 0 (putM x.A (IntKind.i64.wrap ((getM x.A 0 o1) + 1)) o1)) + 1))) (.cons (LQ.mlB (intA .i64) kl_End (fun _ => rfl) (putM x.A (IntKind.i64.wrap ((getM x.A 0 o1) + 1)) o1) x.B 0) .nil)))) (by kernel_rfl) (.sg 1 [1,3,5,24,25,26] (.rg (.sg 3 [1,3,5,24,25,26,56,58] (.ml [1,3,5,24,25,26,59] (intA .i64) kl_End (fun _ => rfl) (putM x.B (IntKind.i64.wrap ((getM x.B 0 (putM x.A (IntKind.i64.wrap ((getM x.A 0 o1) + 1)) o1)) + 1)) (putM x.A (IntKind.i64.wrap ((getM x.A 0 o1) + 1)) o1)) x.A 0 false (.sg 2 [1,3,5,24,25,26,61] (.mm 61 (decide ((getM x.A 0 (putM x.B (IntKind.i64.wrap ((getM x.B 0 (putM x.A (IntKind.i64.wrap ((getM x.A 0 o1) + 1)) o1)) + 1)) (putM x.A (IntKind.i64.wrap ((getM x.A 0 o1) + 1)) o1))) > 1)) 6 [.pure, .pure, .read, .read, .pure, .pure] [1, 3, 24, 25, 26, 67] 67 (fun z => .sc (.bool (z || (decide ((getM x.B 0 (putM x.B (IntKind.i64.wrap ((getM x.B 0 (putM x.A (IntKind.i64.wrap ((getM x.A 0 o1) + 1)) o1)) + 1)) (putM x.A (IntKind.i64.wrap ((getM x.A 0 o1) + 1)) o1))) > 1))))) ?J10 (fun hb J => ?ht10) (fun hb J => ?hf10))))))))))
      case ht10 =>
        exact .sg 6 [1,3,24,25,26,67] (.cl J)
      case hf10 =>
        exact .sg 3 [1,3,24,25,26,61,62,64] (.ml [1,3,24,25,26,61,65] (intA .i64) kl_End (fun _ => rfl) (putM x.B (IntKind.i64.wrap ((getM x.B 0 (putM x.A (IntKind.i64.wrap ((getM x.A 0 o1) + 1)) o1)) + 1)) (putM x.A (IntKind.i64.wrap ((getM x.A 0 o1) + 1)) o1)) x.B 0 false (.sg 2 [1,3,24,25,26,67] (.cl J)))
      refine .dn (.cd ((decide ((getM x.A 0 (putM x.B (IntKind.i64.wrap ((getM x.B 0 (putM x.A (IntKind.i64.wrap ((getM x.A 0 o1) + 1)) o1)) + 1)) (putM x.A (IntKind.i64.wrap ((getM x.A 0 o1) + 1)) o1))) > 1)) || (decide ((getM x.B 0 (putM x.B (IntKind.i64.wrap ((getM x.B 0 (putM x.A (IntKind.i64.wrap ((getM x.A 0 o1) + 1)) o1)) + 1)) (putM x.A (IntKind.i64.wrap ((getM x.A 0 o1) + 1)) o1))) > 1))) H (fun hb H => ?_) (fun hb H => ?_))
      ·
        refine .sg 2 [2] ?_
        subst H
        obtain rfl := Jr _ rfl
        exact .ret Try.func9 hc0
      ·
        exact .sg 3 [1,3,24,25,26] (.tl hc0 [0,1] [1,3,24,25,26] (.into (.cl (ih (t26 + 1) _ hw hd2 (putM x.B (IntKind.i64.wrap ((getM x.B 0 (putM x.A (IntKind.i64.wrap ((getM x.A 0 o1) + 1)) o1)) + 1)) (putM x.A (IntKind.i64.wrap ((getM x.A 0 o1) + 1)) o1)) H))))

def topo_Sound (s : Setup) : Int :=
  (bif (((!(topo_span s.Units 1 8)) || (!(topo_span s.Ports 1 16))) || (!(topo_span s.Room 0 32))) then
    13
  else
    sumG (fun q => q) (topo_Sound_l0s s s.Links ([] : List (End × Int))) fun v =>
    0)
theorem topo_Sound_calls (s : Setup) : ACalls Try.prog tab.S 9 [Setup.av s] [] (.sc (.int .i64 (topo_Sound s))) [] := by
  generalize H : topo_Sound s = r
  refine .of_AX topo_Sound_F Try.func9 fun c0 hc0 => ?_
  rw [topo_Sound] at H
  refine .sg 4 [1] (.rg (.sg 2 [1,7] (.cp [1,8] (topo_span_calls s.Units 1 8) (.sg 2 [1,10] (.mm 10 (!(topo_span s.Units 1 8)) 5 [.pure, .pure, .pure, .read, .pure] [1, 15] 15 (fun z => .sc (.bool (z || (!(topo_span s.Ports 1 16))))) ?J1 (fun hb J => ?ht1) (fun hb J => ?hf1))))))
  case ht1 =>
    exact .sg 5 [1,15] (.cl J)
  case hf1 =>
    exact .sg 2 [1,10,12] (.cp [1,10,13] (topo_span_calls s.Ports 1 16) (.sg 2 [1,15] (.cl J)))
  refine .sg 1 [1,16] (.mm 16 ((!(topo_span s.Units 1 8)) || (!(topo_span s.Ports 1 16))) 5 [.pure, .pure, .pure, .read, .pure] [1, 21] 21 (fun z => .sc (.bool (z || (!(topo_span s.Room 0 32))))) ?J2 (fun hb J => ?ht2) (fun hb J => ?hf2))
  case ht2 =>
    exact .sg 5 [1,21] (.cl J)
  case hf2 =>
    exact .sg 2 [1,16,18] (.cp [1,16,19] (topo_span_calls s.Room 0 32) (.sg 2 [1,21] (.cl J)))
  refine .dn (.cd (((!(topo_span s.Units 1 8)) || (!(topo_span s.Ports 1 16))) || (!(topo_span s.Room 0 32))) H (fun hb H => ?_) (fun hb H => ?_))
  ·
    refine .sg 2 [2] ?_
    subst H
    exact .ret Try.func9 hc0
  ·
    refine .sg 2 [1] (.rg (.mkm [1,22] (.sg 1 [1,3] (.dn (.sg 4 [1,3,24,25,26] ?_)))))
    rcases sumG_eq H with ⟨v, hv, H⟩ | ⟨r1, hv, hr1⟩
    case inr =>
      refine .into ?_
      replace hr1 : r1 = r := hr1
      subst hr1
      exact .to (topo_Sound_l0_walk s _ c0 hc0 (.inr _) (fun _ e => by cases e) (fun _ e => (Sum.inr.inj e).symm) s.Links 0 _ rfl rfl ([] : List (End × Int)) hv)
    refine .into (.to (topo_Sound_l0_walk s r c0 hc0 (.inl v) (fun w e => ?_) (fun _ e => by cases e) s.Links 0 _ rfl rfl ([] : List (End × Int)) hv))
    have e := Sum.inl.inj e
    subst e
    refine .sg 2 [2] ?_
    subst H
    exact .ret Try.func9 hc0

/-! ### topo.Other: function 7 -/
noncomputable def topo_Other_F : Go.Sh.Fn := ⟨7, bodyOf Try.f7, 34⟩
def topo_Other_l0s (e1 : End) : List Link → Sum (Unit) (End × Bool)
  | [] =>
    (.inl ())
  | x :: rest =>
    (bif ((e1.Unit == x.A.Unit) && (e1.Port == x.A.Port)) then
      (.inr (x.B, true))
    else
      (bif ((e1.Unit == x.B.Unit) && (e1.Port == x.B.Port)) then
        (.inr (x.A, true))
      else
        topo_Other_l0s e1 rest ))
theorem topo_Other_l0_walk (s : Setup) (e1 : End) (r : End × Bool) (c0 : Ctx) (hc0 : c0.m.length = 0) (res : Sum (Unit) (End × Bool)) (J : ∀ w : Unit, res = .inl w → AX Try.prog tab topo_Other_F c0 (Rp tab.S c0 (.tup [End.av r.1, .sc (.bool r.2)]) []) (some ⟨[.code [1, 1, 1]], [(4, .ptr 2 0 none)], [.box 24 (Setup.ch s), .box 26 (End.ch e1), .box 26 [.sc (.int .i64 0), .sc (.int .i64 0)]]⟩)) (Jr : ∀ w, res = .inr w → w = r) :
    ∀ (rest : List Link) (t15 : Nat) (z : Int) (hI : z = ((t15 : Nat) : Int)) (hd : s.Links.drop t15 = rest) (H : topo_Other_l0s e1 rest = res), AX Try.prog tab topo_Other_F c0 (Rp tab.S c0 (.tup [End.av r.1, .sc (.bool r.2)]) []) (some ⟨[.code [1, 1, 0, 1, 0, 0], .loop [1, 1, 0, 1, 0], .blk 0, .code [1, 1, 1]], [(3, .ptr 1 0 none), (4, .ptr 2 0 none), (13, .sl 36 (List.map Link.av s.Links) false), (14, .sc (.int .i64 (((List.map Link.av s.Links).length : Nat) : Int))), (15, .sc (.int .i64 z))], [.box 24 (Setup.ch s), .box 26 (End.ch e1), .box 26 [.sc (.int .i64 0), .sc (.int .i64 0)]]⟩) := by
  intro rest
  induction rest with
  | nil =>
    intro t15 z hI hd  H
    subst hI
    rw [topo_Other_l0s] at H
    refine .facts 13 fun hf => ?_
    have hlen : s.Links.length ≤ 9223372036854775807 := by have hq := len_ok hf.2.1; rw [List.length_map] at hq; exact hq
    have hge : s.Links.length ≤ t15 := List.drop_eq_nil_iff.1 hd
    have hc : (decide (((t15 : Nat) : Int) < (((List.map Link.av s.Links).length : Nat) : Int))) = false := by rw [List.length_map]; exact decide_eq_false (by omega)
    exact .sg 3 [3,4,13,14,15,16] (.cdF hc (.sg 1 [4] (.kp [4] (.to (J () H.symm)))))
  | cons x rest ih =>
    intro t15 z hI hd  H
    subst hI
    rw [topo_Other_l0s] at H
    refine .facts 13 fun hf => ?_
    have hlen : s.Links.length ≤ 9223372036854775807 := by have hq := len_ok hf.2.1; rw [List.length_map] at hq; exact hq
    obtain ⟨hlt, hv_t15, hd2⟩ := drop_cons hd
    have hc : (decide (((t15 : Nat) : Int) < (((List.map Link.av s.Links).length : Nat) : Int))) = true := by rw [List.length_map]; exact decide_eq_true (by omega)
    have hw : IntKind.i64.wrap (((t15 : Nat) : Int) + 1) = ((t15 + 1 : Nat) : Int) := wrapI_succ (by omega)
    refine .sg 3 [3,4,13,14,15,16] (.cdT hc (.sg 4 [3,4,13,14,15] (.rg (.xi [3,4,13,14,15,17] Link.av hv_t15 (.sg 3 [3,4,7,13,14,15] (.dn (.sg 4 [3,4,7,13,14,15,19] (.rg (.sg 2 [3,4,7,13,14,15,19,22] (.eq_ [3,4,7,13,14,15,19,23] 9 (.sg 1 [3,4,7,13,14,15,19,20] (.dn (.cd ((e1.Unit == x.A.Unit) && (e1.Port == x.A.Port)) H (fun hb H => ?_) (fun hb H => ?_))))))))))))))
    ·
      refine .sg 2 [4,5] ?_
      subst H
      obtain rfl := Jr _ rfl
      exact .ret Try.func7 hc0
    ·
      refine .sg 1 [3,4,7,13,14,15,19] (.rg (.sg 2 [3,4,7,13,14,15,19,28] (.eq_ [3,4,7,13,14,15,29] 9 (.sg 1 [3,4,7,13,14,15,26] (.dn (.cd ((e1.Unit == x.B.Unit) && (e1.Port == x.B.Port)) H (fun hb H => ?_) (fun hb H => ?_)))))))
      ·
        refine .sg 2 [4,5] ?_
        subst H
        obtain rfl := Jr _ rfl
        exact .ret Try.func7 hc0
      ·
        exact .sg 4 [3,4,13,14,15] (.tl hc0 [0,1,2] [3,4,13,14,15] (.into (.cl (ih (t15 + 1) _ hw hd2 H))))

def topo_Other (s : Setup) (e1 : End) : End × Bool :=
  (bif ((topo_Sound s) != 0) then
    (({ Unit := 0, Port := 0 } : End), false)
  else
    sumG (fun q => q) (topo_Other_l0s e1 s.Links) fun v =>
    (({ Unit := 0, Port := 0 } : End), false))
theorem topo_Other_calls (s : Setup) (e1 : End) : ACalls Try.prog tab.S 7 [Setup.av s, End.av e1] [] (.tup [End.av ((topo_Other s e1).1), .sc (.bool ((topo_Other s e1).2))]) [] := by
  generalize H : topo_Other s e1 = r
  refine .of_AX topo_Other_F Try.func7 fun c0 hc0 => ?_
  rw [topo_Other] at H
  refine .sg 4 [2,3,4] (.rg (.sg 1 [2,3,4,8] (.cp [2,3,4,9] (topo_Sound_calls s) (.sg 1 [2,3,4,10] (.dn (.cd ((topo_Sound s) != 0) H (fun hb H => ?_) (fun hb H => ?_)))))))
  ·
    refine .sg 2 [4,5] ?_
    subst H
    exact .ret Try.func7 hc0
  ·
    refine .sg 5 [3,4,13,14,15] ?_
    rcases sumG_eq H with ⟨v, hv, H⟩ | ⟨r1, hv, hr1⟩
    case inr =>
      refine .into ?_
      replace hr1 : r1 = r := hr1
      subst hr1
      exact .to (topo_Other_l0_walk s e1 _ c0 hc0 (.inr _) (fun _ e => by cases e) (fun _ e => (Sum.inr.inj e).symm) s.Links 0 _ rfl rfl hv)
    refine .into (.to (topo_Other_l0_walk s e1 r c0 hc0 (.inl v) (fun w e => ?_) (fun _ e => by cases e) s.Links 0 _ rfl rfl hv))
    have e := Sum.inl.inj e
    subst e
    refine .sg 2 [4,5] ?_
    subst H
    exact .ret Try.func7 hc0

end Go.Proofs.Ytlnpkofmaemgpaa

set_option linter.unusedVariables false
set_option linter.unusedSimpArgs false
set_option maxRecDepth 100000
set_option maxHeartbeats 4000000
namespace Go.Proofs.Ytlnpkofmaemgpaa
open Go.Sh
/-! ### topo.Edges: function 11 -/
noncomputable def topo_Edges_F : Go.Sh.Fn := ⟨11, bodyOf Try.f11, 41⟩
def topo_Edges_l1 (s : Setup) (t14 : Int) : Nat → Int → List End → Option ((List End))
  | 0, _, _ => none
  | m + 1, t19, out1 =>
    (bif (decide (t19 < s.Ports)) then
    (bif (!(topo_Other s ({ Unit := t14, Port := (IntKind.i64.wrap (t19 + 1)) } : End)).2) then
      fitO (out1.length + [({ Unit := t14, Port := (IntKind.i64.wrap (t19 + 1)) } : End)].length) 16 (
      topo_Edges_l1 s t14 m (IntKind.i64.wrap (t19 + 1)) (out1 ++ [({ Unit := t14, Port := (IntKind.i64.wrap (t19 + 1)) } : End)]))
    else
      topo_Edges_l1 s t14 m (IntKind.i64.wrap (t19 + 1)) out1)
  else
    some out1)
theorem topo_Edges_l1_walk (q0 : Nat) (q1 : Nat) (s : Setup) (t14 : Int) (out : List End)  (r : (List End)) (c0 : Ctx) (hc0 : c0.m.length = 0) (res : (List End)) (J : AX Try.prog tab topo_Edges_F c0 (Rp tab.S c0 (.sl 26 (List.map End.av r) false) []) (some ⟨[.blk 1, .code [1, 1, 1, 0, 1, 0, 0, 1, 1, 1], .loop [1, 1, 1, 0, 1, 0], .blk 0, .code [1, 1, 1, 1]], [(1, .ptr 0 0 none), (3, .own 1 1000000), (13, .sc (.int .i64 s.Units)), (14, .sc (.int .i64 t14))], [.box 24 (Setup.ch s), .row 26 (List.map End.av res) 1000000 true]⟩)) :
    ∀ (m : Nat) (t19 : Int) (out1 : List End) (H : topo_Edges_l1 s t14 m t19 out1 = some res), AX Try.prog tab topo_Edges_F c0 (Rp tab.S c0 (.sl 26 (List.map End.av r) false) []) (some ⟨[.code [1, 1, 1, 0, 1, 0, 0, 1, 1, 0, 0, 1, 1, 0, 0], .loop [1, 1, 1, 0, 1, 0, 0, 1, 1, 0, 0, 1, 1, 0], .blk 2, .blk 1, .code [1, 1, 1, 0, 1, 0, 0, 1, 1, 1], .loop [1, 1, 1, 0, 1, 0], .blk 0, .code [1, 1, 1, 1]], [(1, .ptr 0 0 none), (3, .own 1 1000000), (4, .sc (.int .i64 t14)), (13, .sc (.int .i64 s.Units)), (14, .sc (.int .i64 t14)), (18, .sc (.int .i64 s.Ports)), (19, .sc (.int .i64 t19))], [.box 24 (Setup.ch s), .row 26 (List.map End.av out1) 1000000 true]⟩) := by
  intro m
  induction m with
  | zero => intro t19 out1 H; cases H
  | succ m ih =>
    intro t19 out1 H
    rw [topo_Edges_l1] at H
    refine .sg 3 [1,3,4,13,14,18,19,20] (.cd (decide (t19 < s.Ports)) H (fun hb H => ?_) (fun hb H => ?_))
    ·
      refine .sg 8 [1,3,4,6,13,14,18,19] (.rg (.sg 2 [1,3,4,6,13,14,18,19,27,28] (.cp [1,3,4,6,13,14,18,19,29] (topo_Other_calls s ({ Unit := t14, Port := (IntKind.i64.wrap (t19 + 1)) } : End)) (.sg 6 [1,3,4,6,8,13,14,18,19] (.dn (.sg 2 [1,3,4,6,13,14,18,19,33] (.cd (!(topo_Other s ({ Unit := t14, Port := (IntKind.i64.wrap (t19 + 1)) } : End)).2) H (fun hb H => ?_) (fun hb H => ?_))))))))
      ·
        exact .rg (.sg 3 [1,4,13,14,18,19,34,36] (fitH H fun hfit H => (.ap [1,4,13,14,18,19,37] End.av hfit (.sg 1 [1,3,4,13,14,18,19] (.dn (.sg 2 [1,3,4,13,14,18,19] (.tl hc0 [0,1] [1,3,4,13,14,18,19] (.into (.to (ih (IntKind.i64.wrap (t19 + 1)) (out1 ++ [({ Unit := t14, Port := (IntKind.i64.wrap (t19 + 1)) } : End)]) H))))))))))
      ·
        exact .sg 3 [1,3,4,13,14,18,19] (.tl hc0 [0,1] [1,3,4,13,14,18,19] (.into (.to (ih (IntKind.i64.wrap (t19 + 1)) out1 H))))
    ·
      refine .sg 1 [1,3,13,14] (.kp [1,3,13,14] ?_)
      obtain rfl := Option.some.inj H
      exact .to J
def topo_Edges_l0 (q1 : Nat) (s : Setup) : Nat → Int → List End → Option ((List End))
  | 0, _, _ => none
  | m + 1, t14, out =>
    (bif (decide (t14 < s.Units)) then
    (topo_Edges_l1 s t14 q1 0 out).bind fun v =>
    topo_Edges_l0 q1 s m (IntKind.i64.wrap (t14 + 1)) v
  else
    some out)
theorem topo_Edges_l0_walk (q0 : Nat) (q1 : Nat) (s : Setup)  (r : (List End)) (c0 : Ctx) (hc0 : c0.m.length = 0) (res : (List End)) (J : AX Try.prog tab topo_Edges_F c0 (Rp tab.S c0 (.sl 26 (List.map End.av r) false) []) (some ⟨[.code [1, 1, 1, 1]], [(3, .own 1 1000000)], [.box 24 (Setup.ch s), .row 26 (List.map End.av res) 1000000 true]⟩)) :
    ∀ (m : Nat) (t14 : Int) (out : List End) (H : topo_Edges_l0 q1 s m t14 out = some res), AX Try.prog tab topo_Edges_F c0 (Rp tab.S c0 (.sl 26 (List.map End.av r) false) []) (some ⟨[.code [1, 1, 1, 0, 1, 0, 0], .loop [1, 1, 1, 0, 1, 0], .blk 0, .code [1, 1, 1, 1]], [(1, .ptr 0 0 none), (3, .own 1 1000000), (13, .sc (.int .i64 s.Units)), (14, .sc (.int .i64 t14))], [.box 24 (Setup.ch s), .row 26 (List.map End.av out) 1000000 true]⟩) := by
  intro m
  induction m with
  | zero => intro t14 out H; cases H
  | succ m ih =>
    intro t14 out H
    rw [topo_Edges_l0] at H
    refine .sg 3 [1,3,13,14,15] (.cd (decide (t14 < s.Units)) H (fun hb H => ?_) (fun hb H => ?_))
    ·
      refine .sg 8 [1,3,4,13,14,18,19] ?_
      refine bndO H fun v hv H => (.into (.to (topo_Edges_l1_walk q0 q1 s t14 out r c0 hc0 v ?_ q1 0 out hv)))
      exact .sg 2 [1,3,13,14] (.kp [1,3,13,14] (.into (.to (ih (IntKind.i64.wrap (t14 + 1)) v H))))
    ·
      refine .sg 1 [3] (.kp [3] ?_)
      obtain rfl := Option.some.inj H
      exact .to J
def topo_Edges_raw (q0 : Nat) (q1 : Nat) (s : Setup) : Option ((List End)) :=
  (bif ((topo_Sound s) != 0) then
    some []
  else
    (topo_Edges_l0 q1 s q0 0 ([] : List End)).bind fun v =>
    some v)
theorem topo_Edges_walk (q0 : Nat) (q1 : Nat) (s : Setup) (r : (List End)) (H : topo_Edges_raw q0 q1 s = some r) : ACalls Try.prog tab.S 11 [Setup.av s] [] (.sl 26 (List.map End.av r) false) [] := by
  refine .of_AX topo_Edges_F Try.func11 fun c0 hc0 => ?_
  rw [topo_Edges_raw] at H
  refine .sg 4 [1] (.rg (.sg 1 [1,9] (.cp [1,10] (topo_Sound_calls s) (.sg 1 [1,11] (.dn (.cd ((topo_Sound s) != 0) H (fun hb H => ?_) (fun hb H => ?_)))))))
  ·
    refine .sg 2 [2] ?_
    obtain rfl := Option.some.inj H
    exact .ret Try.func11 hc0 [] [(26, false)]
  ·
    refine .sg 7 [1,3,13,14] (.ad 3 26 true (.kp [1,3,13,14] ?_))
    refine bndO H fun v hv H => (.into (.to (topo_Edges_l0_walk q0 q1 s r c0 hc0 v ?_ q0 0 ([] : List End) hv)))
    refine .sg 2 [2] ?_
    obtain rfl := Option.some.inj H
    exact .ret Try.func11 hc0

end Go.Proofs.Ytlnpkofmaemgpaa

set_option linter.unusedVariables false
set_option linter.unusedSimpArgs false
set_option maxRecDepth 100000
set_option maxHeartbeats 4000000
namespace Go.Proofs.Ytlnpkofmaemgpaa
open Go.Sh
/-! ### podestaref09.Setup: function 10 -/
noncomputable def podestaref09_Setup_F : Go.Sh.Fn := ⟨10, bodyOf Try.f10, 101⟩
def podestaref09_Setup_l0s : List Link → List End → Option ((List End))
  | [], ends =>
    some ends
  | x :: rest, ends =>
    fitO (ends.length + [x.A, x.B].length) 16 (
    podestaref09_Setup_l0s rest (ends ++ [x.A, x.B]))
theorem podestaref09_Setup_l0_walk (q2 : Nat) (s : Setup) (r : Int) (c0 : Ctx) (hc0 : c0.m.length = 0) (res : (List End)) (J : AX Try.prog tab podestaref09_Setup_F c0 (Rp tab.S c0 (.sc (.int .i64 r)) []) (some ⟨[.code [1, 1, 1, 1]], [(1, .ptr 0 0 none), (3, .own 1 1000000)], [.box 24 (Setup.ch s), .row 26 (List.map End.av res) 1000000 true]⟩)) :
    ∀ (rest : List Link) (i : Nat) (z : Int) (hI : z = ((i : Nat) : Int)) (hd : s.Links.drop i = rest) (ends : List End) (H : podestaref09_Setup_l0s rest ends = some res), AX Try.prog tab podestaref09_Setup_F c0 (Rp tab.S c0 (.sc (.int .i64 r)) []) (some ⟨[.code [1, 1, 1, 0, 1, 0, 0], .loop [1, 1, 1, 0, 1, 0], .blk 0, .code [1, 1, 1, 1]], [(1, .ptr 0 0 none), (3, .own 1 1000000), (4, .sc (.int .i64 z))], [.box 24 (Setup.ch s), .row 26 (List.map End.av ends) 1000000 true]⟩) := by
  intro rest
  induction rest with
  | nil =>
    intro i z hI hd ends H
    subst hI
    rw [podestaref09_Setup_l0s] at H
    refine .factsH 0 rfl fun hf => ?_
    have hlen : s.Links.length ≤ 9223372036854775807 := by have hq := len_ok hf.2.2.2.1.2.1; rw [List.length_map] at hq; exact hq
    have hge : s.Links.length ≤ i := List.drop_eq_nil_iff.1 hd
    have hc : (decide (((i : Nat) : Int) < (((List.map Link.av s.Links).length : Nat) : Int))) = false := by rw [List.length_map]; exact decide_eq_false (by omega)
    refine .sg 3 [1,3,4,40] (.cdF hc (.sg 1 [1,3] (.kp [1,3] ?_)))
    obtain rfl := Option.some.inj H
    exact .to J
  | cons x rest ih =>
    intro i z hI hd ends H
    subst hI
    rw [podestaref09_Setup_l0s] at H
    refine .factsH 0 rfl fun hf => ?_
    have hlen : s.Links.length ≤ 9223372036854775807 := by have hq := len_ok hf.2.2.2.1.2.1; rw [List.length_map] at hq; exact hq
    obtain ⟨hlt, hv_i, hd2⟩ := drop_cons hd
    have hc : (decide (((i : Nat) : Int) < (((List.map Link.av s.Links).length : Nat) : Int))) = true := by rw [List.length_map]; exact decide_eq_true (by omega)
    have hw : IntKind.i64.wrap (((i : Nat) : Int) + 1) = ((i + 1 : Nat) : Int) := wrapI_succ (by omega)
    exact .sg 3 [1,3,4,40] (.cdT hc (.sg 3 [1,3,4] (.rg (.sg 4 [1,4,43,45,46] (.xi [1,4,43,47] Link.av hv_i (.sg 5 [1,4,43,49,51,52] (.xi [1,4,43,49,53] Link.av hv_i (.sg 3 [1,4,43,56] (fitH H fun hfit H => (.ap [1,4,57] End.av hfit (.sg 1 [1,3,4] (.dn (.sg 2 [1,3,4] (.tl hc0 [0,1] [1,3,4] (.into (.cl (ih (i + 1) _ hw hd2 (ends ++ [x.A, x.B]) H)))))))))))))))))

def podestaref09_Setup_l2 (v : (List End)) (i1 : Nat) (x1 : End) : Nat → Int → Option (Sum (Unit) (Int))
  | 0, _ => none
  | m + 1, k1 =>
    (bif (decide (k1 < ((i1 : Nat) : Int))) then
    (ixO v k1).bind fun x2 =>
    (bif ((x2.Unit == x1.Unit) && (x2.Port == x1.Port)) then
      some (.inr 2)
    else
      podestaref09_Setup_l2 v i1 x1 m (IntKind.i64.wrap (k1 + 1)))
  else
    some (.inl ()))
theorem podestaref09_Setup_l2_walk (q2 : Nat) (s : Setup) (v : (List End)) (i1 : Nat) (x1 : End) (hv_i1 : ixO v ((i1 : Nat) : Int) = some x1)  (r : Int) (c0 : Ctx) (hc0 : c0.m.length = 0) (res : Sum (Unit) (Int)) (J : ∀ w : Unit, res = .inl w → AX Try.prog tab podestaref09_Setup_F c0 (Rp tab.S c0 (.sc (.int .i64 r)) []) (some ⟨[.blk 3, .code [1, 1, 1, 1, 0, 1, 0, 0, 1, 1], .loop [1, 1, 1, 1, 0, 1, 0], .blk 2, .code [1, 1, 1, 1, 1]], [(1, .ptr 0 0 none), (3, .own 1 1000000), (5, .sc (.int .i64 ((i1 : Nat) : Int)))], [.box 24 (Setup.ch s), .row 26 (List.map End.av v) 1000000 true, .box 26 (End.ch x1)]⟩)) (Jr : ∀ w, res = .inr w → w = r) :
    ∀ (m : Nat) (k1 : Int) (H : podestaref09_Setup_l2 v i1 x1 m k1 = some res), AX Try.prog tab podestaref09_Setup_F c0 (Rp tab.S c0 (.sc (.int .i64 r)) []) (some ⟨[.code [1, 1, 1, 1, 0, 1, 0, 0, 1, 0, 0, 1, 1, 1, 0, 0], .loop [1, 1, 1, 1, 0, 1, 0, 0, 1, 0, 0, 1, 1, 1, 0], .blk 4, .blk 3, .code [1, 1, 1, 1, 0, 1, 0, 0, 1, 1], .loop [1, 1, 1, 1, 0, 1, 0], .blk 2, .code [1, 1, 1, 1, 1]], [(1, .ptr 0 0 none), (3, .own 1 1000000), (5, .sc (.int .i64 ((i1 : Nat) : Int))), (6, .ptr 2 0 none), (7, .sc (.int .i64 k1))], [.box 24 (Setup.ch s), .row 26 (List.map End.av v) 1000000 true, .box 26 (End.ch x1)]⟩) := by
  intro m
  induction m with
  | zero => intro k1 H; cases H
  | succ m ih =>
    intro k1 H
    rw [podestaref09_Setup_l2] at H
    refine .sg 3 [1,3,5,6,7,92] (.cd (decide (k1 < ((i1 : Nat) : Int))) H (fun hb H => ?_) (fun hb H => ?_))
    ·
      refine .sg 4 [1,3,5,6,7] (.rg (.sg 2 [1,3,5,6,7,95,96] (bndO H fun x2 hv_x2 H => (.xo [1,3,5,6,7,97] (ixO_req hv_x2 End.av) (.lo [1,3,5,6,7,98] (ixO_map hv_x2 End.av).2 (.sg 1 [1,3,5,6,7,98,99] (.eq_ [1,3,5,6,7,100] 9 (.dn (.cd ((x2.Unit == x1.Unit) && (x2.Port == x1.Port)) H (fun hb H => ?_) (fun hb H => ?_))))))))))
      ·
        refine .sg 2 [2] ?_
        obtain rfl := Option.some.inj H
        obtain rfl := Jr _ rfl
        exact .ret Try.func10 hc0
      ·
        exact .sg 3 [1,3,5,6,7] (.kp [1,3,5,6,7] (.into (.to (ih (IntKind.i64.wrap (k1 + 1)) H))))
    ·
      exact .sg 1 [1,3,5] (.kp [1,3,5] (.to (J () (Option.some.inj H).symm)))
def podestaref09_Setup_l1s (q2 : Nat) (s : Setup) (v : (List End)) : List End → Nat → Option (Sum (Unit) (Int))
  | [], i1 =>
    some (.inl ())
  | x1 :: rest, i1 =>
    (bif ((((decide (x1.Unit < 0)) || (decide (x1.Unit ≥ s.Units))) || (decide (x1.Port < 1))) || (decide (x1.Port > s.Ports))) then
      some (.inr 2)
    else
      loopP (podestaref09_Setup_l2 v i1 x1 q2 0) fun v1 =>
      podestaref09_Setup_l1s q2 s v rest (i1 + 1) )
theorem podestaref09_Setup_l1_walk (q2 : Nat) (s : Setup) (v : (List End)) (r : Int) (c0 : Ctx) (hc0 : c0.m.length = 0) (res : Sum (Unit) (Int)) (J : ∀ w : Unit, res = .inl w → AX Try.prog tab podestaref09_Setup_F c0 (Rp tab.S c0 (.sc (.int .i64 r)) []) (some ⟨[.code [1, 1, 1, 1, 1]], [], [.box 24 (Setup.ch s), .row 26 (List.map End.av v) 1000000 true]⟩)) (Jr : ∀ w, res = .inr w → w = r) :
    ∀ (rest : List End) (i1 : Nat) (z : Int) (hI : z = ((i1 : Nat) : Int)) (hd : v.drop i1 = rest) (H : podestaref09_Setup_l1s q2 s v rest i1 = some res), AX Try.prog tab podestaref09_Setup_F c0 (Rp tab.S c0 (.sc (.int .i64 r)) []) (some ⟨[.code [1, 1, 1, 1, 0, 1, 0, 0], .loop [1, 1, 1, 1, 0, 1, 0], .blk 2, .code [1, 1, 1, 1, 1]], [(1, .ptr 0 0 none), (3, .own 1 1000000), (5, .sc (.int .i64 z))], [.box 24 (Setup.ch s), .row 26 (List.map End.av v) 1000000 true]⟩) := by
  intro rest
  induction rest with
  | nil =>
    intro i1 z hI hd  H
    subst hI
    rw [podestaref09_Setup_l1s] at H
    refine .factsH 1 rfl fun hf => ?_
    have hlen : v.length ≤ 9223372036854775807 := by have hq := len_ok2 hf (of_decide_eq_true (by kernel_rfl)); rw [List.length_map] at hq; exact hq
    have hge : v.length ≤ i1 := List.drop_eq_nil_iff.1 hd
    have hc : (decide (((i1 : Nat) : Int) < (((List.map End.av v).length : Nat) : Int))) = false := by rw [List.length_map]; exact decide_eq_false (by omega)
    exact .sg 3 [1,3,5,61] (.cdF hc (.sg 1 [] (.kp [] (.to (J () (Option.some.inj H).symm)))))
  | cons x1 rest ih =>
    intro i1 z hI hd  H
    subst hI
    rw [podestaref09_Setup_l1s] at H
    refine .factsH 1 rfl fun hf => ?_
    have hlen : v.length ≤ 9223372036854775807 := by have hq := len_ok2 hf (of_decide_eq_true (by kernel_rfl)); rw [List.length_map] at hq; exact hq
    obtain ⟨hlt, hv_i1, hd2⟩ := drop_cons hd
    have hc : (decide (((i1 : Nat) : Int) < (((List.map End.av v).length : Nat) : Int))) = true := by rw [List.length_map]; exact decide_eq_true (by omega)
    have hw : IntKind.i64.wrap (((i1 : Nat) : Int) + 1) = ((i1 + 1 : Nat) : Int) := wrapI_succ (by omega)
    refine .sg 3 [1,3,5,61] (.cdT hc (.sg 4 [1,3,5] (.rg (.sg 2 [1,3,5,64,65] (.xo [1,3,5,66] (ixO_req hv_i1 End.av) (.lo [1,3,5,67] (ixO_map hv_i1 End.av).2 (.sg 2 [1,3,5,6] (.dn (.sg 2 [1,3,5,6] (.rg (.sg 4 [1,3,5,6,71] (.mx 1 [1,3,5,6,77] (.sg 1 [1,3,5,6,78] (.mx 1 [1,3,5,6,82] (.sg 1 [1,3,5,6,83] (.mx 1 [1,3,5,6,89] (.dn (.cd ((((decide (x1.Unit < 0)) || (decide (x1.Unit ≥ s.Units))) || (decide (x1.Port < 1))) || (decide (x1.Port > s.Ports))) H (fun hb H => ?_) (fun hb H => ?_)))))))))))))))))))
    ·
      refine .sg 2 [2] ?_
      obtain rfl := Option.some.inj H
      obtain rfl := Jr _ rfl
      exact .ret Try.func10 hc0
    ·
      refine .sg 4 [1,3,5,6,7] ?_
      rcases loopP_some H with ⟨v1, hv, H⟩ | ⟨r1, hv, hr1⟩
      case inr =>
        refine .into ?_
        subst hr1
        obtain rfl := Jr _ rfl
        exact .to (podestaref09_Setup_l2_walk q2 s v i1 x1 hv_i1 _ c0 hc0 (.inr _) (fun _ e => by cases e) (fun _ e => (Sum.inr.inj e).symm) q2 0 hv)
      refine .into (.to (podestaref09_Setup_l2_walk q2 s v i1 x1 hv_i1 r c0 hc0 (.inl v1) (fun w e => ?_) (fun _ e => by cases e) q2 0 hv))
      have e := Sum.inl.inj e
      subst e
      exact .sg 2 [1,3,5] (.tl hc0 [0,1] [1,3,5] (.into (.cl (ih (i1 + 1) _ hw hd2 H))))

def podestaref09_Setup_raw (q2 : Nat) (s : Setup) : Option (Int) :=
  (bif ((((((decide (s.Units < 1)) || (decide (s.Units > 8))) || (decide (s.Ports < 1))) || (decide (s.Ports > 16))) || (decide (s.Room < 0))) || (decide (s.Room > 32))) then
    some 13
  else
    (podestaref09_Setup_l0s s.Links ([] : List End)).bind fun v =>
    loopO (podestaref09_Setup_l1s q2 s v v 0) fun v1 =>
    some 0)
theorem podestaref09_Setup_walk (q2 : Nat) (s : Setup) (r : Int) (H : podestaref09_Setup_raw q2 s = some r) : ACalls Try.prog tab.S 10 [Setup.av s] [] (.sc (.int .i64 r)) [] := by
  refine .of_AX podestaref09_Setup_F Try.func10 fun c0 hc0 => ?_
  rw [podestaref09_Setup_raw] at H
  refine .sg 4 [1] (.rg (.sg 4 [1,11] (.mx 1 [1,15] (.sg 1 [1,16] (.mx 1 [1,20] (.sg 1 [1,21] (.mx 1 [1,25] (.sg 1 [1,26] (.mx 1 [1,30] (.sg 1 [1,31] (.mx 1 [1,35] (.dn (.cd ((((((decide (s.Units < 1)) || (decide (s.Units > 8))) || (decide (s.Ports < 1))) || (decide (s.Ports > 16))) || (decide (s.Room < 0))) || (decide (s.Room > 32))) H (fun hb H => ?_) (fun hb H => ?_))))))))))))))
  ·
    refine .sg 2 [2] ?_
    obtain rfl := Option.some.inj H
    exact .ret Try.func10 hc0
  ·
    refine .sg 7 [1,3,4] (.ad 3 26 true (.kp [1,3,4] ?_))
    refine bndO H fun v hv H => (.into (.to (podestaref09_Setup_l0_walk q2 s r c0 hc0 v ?_ s.Links 0 _ rfl rfl ([] : List End) hv)))
    refine .sg 4 [1,3,5] ?_
    rcases loopO_some H with ⟨v1, hv, H⟩ | hv
    case inr =>
      exact .into (.to (podestaref09_Setup_l1_walk q2 s v _ c0 hc0 (.inr _) (fun _ e => by cases e) (fun _ e => (Sum.inr.inj e).symm) v 0 _ rfl rfl hv))
    refine .into (.to (podestaref09_Setup_l1_walk q2 s v r c0 hc0 (.inl v1) (fun w e => ?_) (fun _ e => by cases e) v 0 _ rfl rfl hv))
    have e := Sum.inl.inj e
    subst e
    refine .sg 2 [2] ?_
    obtain rfl := Option.some.inj H
    exact .ret Try.func10 hc0

/-! ### podestaref09.Other: function 8 -/
noncomputable def podestaref09_Other_F : Go.Sh.Fn := ⟨8, bodyOf Try.f8, 48⟩
def podestaref09_Other_l0 (s : Setup) (e1 : End) : Nat → Int → Option (Sum (Unit) (End × Bool))
  | 0, _ => none
  | m + 1, i =>
    (bif (decide (i < (((List.map Link.av s.Links).length : Nat) : Int))) then
    (podestaref09_Setup_raw 300 s).bind fun x =>
    (bif (x == 0) then
      (ixO s.Links i).bind fun x1 =>
      (bif ((x1.A.Unit == e1.Unit) && (x1.A.Port == e1.Port)) then
        (ixO s.Links i).bind fun x2 =>
        some (.inr (x2.B, true))
      else
        (ixO s.Links i).bind fun x3 =>
        (bif ((x3.B.Unit == e1.Unit) && (x3.B.Port == e1.Port)) then
          (ixO s.Links i).bind fun x4 =>
          some (.inr (x4.A, true))
        else
          podestaref09_Other_l0 s e1 m (IntKind.i64.wrap (i + 1))))
    else
      some (.inl ()))
  else
    some (.inl ()))
theorem podestaref09_Other_l0_walk (q0 : Nat) (s : Setup) (e1 : End)  (r : End × Bool) (c0 : Ctx) (hc0 : c0.m.length = 0) (res : Sum (Unit) (End × Bool)) (J : ∀ w : Unit, res = .inl w → AX Try.prog tab podestaref09_Other_F c0 (Rp tab.S c0 (.tup [End.av r.1, .sc (.bool r.2)]) []) (some ⟨[.code [1, 1]], [(4, .ptr 2 0 none)], [.box 24 (Setup.ch s), .box 26 (End.ch e1), .box 26 [.sc (.int .i64 0), .sc (.int .i64 0)]]⟩)) (Jr : ∀ w, res = .inr w → w = r) :
    ∀ (m : Nat) (i : Int) (H : podestaref09_Other_l0 s e1 m i = some res), AX Try.prog tab podestaref09_Other_F c0 (Rp tab.S c0 (.tup [End.av r.1, .sc (.bool r.2)]) []) (some ⟨[.code [1, 0, 1, 0, 0], .loop [1, 0, 1, 0], .blk 0, .code [1, 1]], [(2, .ptr 0 0 none), (3, .ptr 1 0 none), (4, .ptr 2 0 none), (6, .sc (.int .i64 i))], [.box 24 (Setup.ch s), .box 26 (End.ch e1), .box 26 [.sc (.int .i64 0), .sc (.int .i64 0)]]⟩) := by
  intro m
  induction m with
  | zero => intro i H; cases H
  | succ m ih =>
    intro i H
    rw [podestaref09_Other_l0] at H
    refine .sg 2 [2,3,4,6] (.rg (.sg 6 [2,3,4,6,12] (.sp 12 (decide (i < (((List.map Link.av s.Links).length : Nat) : Int))) H (fun hb H => ?_) (fun hb H => ?_))))
    ·
      refine .sg 1 [2,3,4,6,12,13] (bndO H fun x hv H => (.cp [2,3,4,6,12,14] ((podestaref09_Setup_walk 300) s x hv) (.sg 2 [2,3,4,6,16] (.dn (.cd (x == 0) H (fun hb H => ?_) (fun hb H => ?_))))))
      ·
        refine .sg 5 [2,3,4,6] (.rg (.sg 3 [2,3,4,6,20,21] (bndO H fun x1 hv H => (.xi [2,3,4,6,22] Link.av hv (.sg 3 [2,3,4,6,24,25] (.eq_ [2,3,4,6,26] 9 (.dn (.cd ((x1.A.Unit == e1.Unit) && (x1.A.Port == e1.Port)) H (fun hb H => ?_) (fun hb H => ?_)))))))))
        ·
          refine .sg 1 [2,4,6] (.rg (.sg 3 [4,28,29] (bndO H fun x2 hv H => (.xi [4,30] Link.av hv (.sg 4 [4,5] (.dn ?_))))))
          obtain rfl := Option.some.inj H
          obtain rfl := Jr _ rfl
          exact .ret Try.func8 hc0
        ·
          refine .sg 2 [2,3,4,6] (.rg (.sg 3 [2,3,4,6,34,35] (bndO H fun x3 hv H => (.xi [2,3,4,6,36] Link.av hv (.sg 3 [2,3,4,6,38,39] (.eq_ [2,3,4,6,40] 9 (.dn (.cd ((x3.B.Unit == e1.Unit) && (x3.B.Port == e1.Port)) H (fun hb H => ?_) (fun hb H => ?_)))))))))
          ·
            refine .sg 1 [2,4,6] (.rg (.sg 3 [4,42,43] (bndO H fun x4 hv H => (.xi [4,44] Link.av hv (.sg 4 [4,5] (.dn ?_))))))
            obtain rfl := Option.some.inj H
            obtain rfl := Jr _ rfl
            exact .ret Try.func8 hc0
          ·
            exact .sg 3 [2,3,4,6] (.kp [2,3,4,6] (.into (.to (ih (IntKind.i64.wrap (i + 1)) H))))
      ·
        exact .sg 1 [4] (.kp [4] (.to (J () (Option.some.inj H).symm)))
    ·
      exact .sg 4 [2,3,4,6,16] (.dn (.sg 2 [4] (.kp [4] (.to (J () (Option.some.inj H).symm)))))
def podestaref09_Other_raw (q0 : Nat) (s : Setup) (e1 : End) : Option (End × Bool) :=
  loopO (podestaref09_Other_l0 s e1 q0 0) fun v =>
  some (({ Unit := 0, Port := 0 } : End), false)
theorem podestaref09_Other_walk (q0 : Nat) (s : Setup) (e1 : End) (r : End × Bool) (H : podestaref09_Other_raw q0 s e1 = some r) : ACalls Try.prog tab.S 8 [Setup.av s, End.av e1] [] (.tup [End.av r.1, .sc (.bool r.2)]) [] := by
  refine .of_AX podestaref09_Other_F Try.func8 fun c0 hc0 => ?_
  rw [podestaref09_Other_raw] at H
  refine .sg 6 [2,3,4,6] ?_
  rcases loopO_some H with ⟨v, hv, H⟩ | hv
  case inr =>
    exact .into (.to (podestaref09_Other_l0_walk q0 s e1 r c0 hc0 (.inr r) (fun _ e => by cases e) (fun _ e => (Sum.inr.inj e).symm) q0 0 hv))
  refine .into (.to (podestaref09_Other_l0_walk q0 s e1 r c0 hc0 (.inl v) (fun w e => ?_) (fun _ e => by cases e) q0 0 hv))
  have e := Sum.inl.inj e
  subst e
  refine .sg 2 [4,5] ?_
  obtain rfl := Option.some.inj H
  exact .ret Try.func8 hc0

end Go.Proofs.Ytlnpkofmaemgpaa

set_option linter.unusedVariables false
set_option linter.unusedSimpArgs false
set_option maxRecDepth 100000
set_option maxHeartbeats 4000000
namespace Go.Proofs.Ytlnpkofmaemgpaa
open Go.Sh
theorem putM_cons {K V : Type} [DecidableEq K] (k : K) (v : V) (p : K × V) (m : List (K × V)) : putM k v (p :: m) = if k = p.1 then (p.1, v) :: m else p :: putM k v m := by
  unfold putM hasM
  rw [lookM, posM]
  by_cases h : k = p.1
  · rw [if_pos h, if_pos h, if_pos h]
    rfl
  · rw [if_neg h, if_neg h, if_neg h]
    split
    · rfl
    · rfl
theorem lookM_put {K V : Type} [DecidableEq K] (k k' : K) (v : V) : ∀ (m : List (K × V)), lookM k (putM k' v m) = if k = k' then some v else lookM k m
  | [] => by
      show lookM k [(k', v)] = _
      rw [lookM]
      rfl
  | p :: m => by
      rw [putM_cons]
      by_cases h : k' = p.1
      · rw [if_pos h, lookM, lookM]
        subst h
        dsimp only
        split <;> rfl
      · rw [if_neg h, lookM, lookM_put k k' v m, lookM]
        by_cases h2 : k = p.1
        · have : ¬ k = k' := fun e => h (e.symm.trans h2)
          rw [if_pos h2, if_neg this, if_pos h2]
        · rw [if_neg h2, if_neg h2]
theorem getM_put {K V : Type} [DecidableEq K] (k k' : K) (z v : V) (m : List (K × V)) : getM k z (putM k' v m) = if k = k' then v else getM k z m := by
  unfold getM
  rw [lookM_put]
  split <;> rfl
theorem end_beq (a b : End) : ((a.Unit == b.Unit) && (a.Port == b.Port)) = decide (a = b) := by
  obtain ⟨u, p⟩ := a
  obtain ⟨u', p'⟩ := b
  rw [Bool.eq_iff_iff]
  simp [End.mk.injEq]
def endsOf : List Link → List End
  | [] => []
  | x :: r => x.A :: x.B :: endsOf r
theorem endsOf_app : ∀ (l r : List Link), endsOf (l ++ r) = endsOf l ++ endsOf r
  | [], r => rfl
  | x :: l, r => by rw [List.cons_append, endsOf, endsOf, endsOf_app l r]; rfl
theorem endsOf_len : ∀ (l : List Link), (endsOf l).length = 2 * l.length
  | [] => rfl
  | x :: l => by rw [endsOf, List.length_cons, List.length_cons, endsOf_len l, List.length_cons]; omega
theorem endsOf_mem : ∀ {l : List Link} {x : Link}, x ∈ l → x.A ∈ endsOf l ∧ x.B ∈ endsOf l
  | y :: l, x, h => by
      rw [endsOf]
      rcases List.mem_cons.1 h with rfl | h
      · simp
      · have := endsOf_mem h
        simp [this.1, this.2]
def goodE (s : Setup) (pre rest : List End) : Bool := rest.all (topo_end s) && decide (pre ++ rest).Nodup
def rangeT (s : Setup) : Bool := (topo_span s.Units 1 8 && topo_span s.Ports 1 16) && topo_span s.Room 0 32
def soundT (s : Setup) : Int := bif rangeT s then (bif goodE s [] (endsOf s.Links) then 0 else 2) else 13
theorem nodup_mid {pre rest : List End} {a : End} (h : a ∈ pre) : ¬ (pre ++ a :: rest).Nodup := by
  intro hn
  rw [List.nodup_append] at hn
  exact hn.2.2 a h a List.mem_cons_self rfl
theorem nodup_mid2 {pre rest : List End} {a b : End} (h : b ∈ pre ∨ a = b) : ¬ (pre ++ a :: b :: rest).Nodup := by
  intro hn
  rw [List.nodup_append] at hn
  rcases h with h | h
  · exact hn.2.2 b h b (by simp) rfl
  · subst h
    have := hn.2.1
    simp at this
theorem nodup_put {pre : List End} {a b : End} (hp : pre.Nodup) (ha : a ∉ pre) (hb : b ∉ pre) (hab : a ≠ b) : (pre ++ [a, b]).Nodup := by
  rw [List.nodup_append]
  refine ⟨hp, by simp [hab], ?_⟩
  intro x hx y hy e
  subst e
  simp at hy
  rcases hy with rfl | rfl
  · exact ha hx
  · exact hb hx
theorem snd_loop (s : Setup) : ∀ (rest : List Link) (pre : List End) (o : List (End × Int)), pre.Nodup → (∀ e, getM e 0 o = if e ∈ pre then 1 else 0) →
    (goodE s pre (endsOf rest) = true → ∃ o', topo_Sound_l0s s rest o = .inl o') ∧ (goodE s pre (endsOf rest) = false → topo_Sound_l0s s rest o = .inr 2)
  | [], pre, o, hp, hi => by
      rw [topo_Sound_l0s]
      refine ⟨fun _ => ⟨o, rfl⟩, fun h => ?_⟩
      unfold goodE endsOf at h
      rw [List.append_nil, decide_eq_true hp] at h
      cases h
  | x :: rest, pre, o, hp, hi => by
      rw [topo_Sound_l0s, endsOf]
      cases hA : topo_end s x.A with
      | false =>
        refine ⟨fun h => ?_, fun _ => rfl⟩
        unfold goodE at h
        rw [List.all_cons, hA] at h
        cases h
      | true =>
      cases hB : topo_end s x.B with
      | false =>
        refine ⟨fun h => ?_, fun _ => rfl⟩
        unfold goodE at h
        rw [List.all_cons, List.all_cons, hA, hB] at h
        cases h
      | true =>
      rw [Bool.not_true, Bool.or_false, cond_false]
      have w1 : ∀ e, IntKind.i64.wrap (getM e 0 o + 1) = getM e 0 o + 1 := fun e => by
        rw [hi]
        split <;> rfl
      rw [w1]
      have g1 : ∀ e, getM e 0 (putM x.A (getM x.A 0 o + 1) o) = if e = x.A then getM x.A 0 o + 1 else getM e 0 o := fun e => getM_put ..
      have w2 : IntKind.i64.wrap (getM x.B 0 (putM x.A (getM x.A 0 o + 1) o) + 1) = getM x.B 0 (putM x.A (getM x.A 0 o + 1) o) + 1 := by
        rw [g1, hi, hi]
        repeat' split
        all_goals rfl
      rw [w2]
      have g2 : ∀ e, getM e 0 (putM x.B (getM x.B 0 (putM x.A (getM x.A 0 o + 1) o) + 1) (putM x.A (getM x.A 0 o + 1) o)) = (if e ∈ pre then 1 else 0) + (if e = x.A then 1 else 0) + (if e = x.B then 1 else 0) := fun e => by
        rw [getM_put, g1, g1, hi, hi, hi]
        by_cases h1 : e = x.B
        · subst h1
          rw [if_pos rfl, if_pos rfl]
          by_cases h2 : x.B = x.A
          · rw [if_pos h2, if_pos h2, h2]
          · rw [if_neg h2, if_neg h2]
            omega
        · rw [if_neg h1, if_neg h1]
          by_cases h2 : e = x.A
          · subst h2
            rw [if_pos rfl, if_pos rfl]
            omega
          · rw [if_neg h2, if_neg h2]
            omega
      generalize putM x.B (getM x.B 0 (putM x.A (getM x.A 0 o + 1) o) + 1) (putM x.A (getM x.A 0 o + 1) o) = o2 at *
      have hall : goodE s pre (x.A :: x.B :: endsOf rest) = goodE s (pre ++ [x.A, x.B]) (endsOf rest) := by
        unfold goodE
        rw [List.all_cons, List.all_cons, hA, hB, List.append_assoc]
        rfl
      by_cases hd : x.A ∈ pre ∨ x.B ∈ pre ∨ x.A = x.B
      · have hno : goodE s pre (x.A :: x.B :: endsOf rest) = false := by
          unfold goodE
          have : ¬ (pre ++ x.A :: x.B :: endsOf rest).Nodup := by
            rcases hd with h | h
            · exact nodup_mid h
            · exact nodup_mid2 h
          rw [decide_eq_false this, Bool.and_false]
        have hc : (decide (getM x.A 0 o2 > 1) || decide (getM x.B 0 o2 > 1)) = true := by
          rw [Bool.or_eq_true, decide_eq_true_eq, decide_eq_true_eq, g2, g2]
          rcases hd with h | h | h
          · left
            rw [if_pos h, if_pos rfl]
            split <;> omega
          · right
            rw [if_pos h, if_pos rfl]
            split <;> omega
          · left
            rw [if_pos rfl, if_pos h]
            split <;> omega
        rw [hc, cond_true, hno]
        exact ⟨fun h => (by cases h), fun _ => rfl⟩
      · have n1 : x.A ∉ pre := fun h => hd (.inl h)
        have n2 : x.B ∉ pre := fun h => hd (.inr (.inl h))
        have n3 : x.A ≠ x.B := fun h => hd (.inr (.inr h))
        have hc : (decide (getM x.A 0 o2 > 1) || decide (getM x.B 0 o2 > 1)) = false := by
          rw [g2, g2, if_neg n1, if_pos rfl, if_neg n3, if_neg n2, if_neg (Ne.symm n3), if_pos rfl]
          rfl
        rw [hc, cond_false, hall]
        refine snd_loop s rest (pre ++ [x.A, x.B]) o2 (nodup_put hp n1 n2 n3) fun e => ?_
        rw [g2]
        by_cases e1 : e ∈ pre
        · have : e ∈ pre ++ [x.A, x.B] := List.mem_append.2 (.inl e1)
          rw [if_pos e1, if_pos this, if_neg (fun (h : e = x.A) => n1 (h ▸ e1)), if_neg (fun (h : e = x.B) => n2 (h ▸ e1))]
          rfl
        · rw [if_neg e1]
          by_cases e2 : e = x.A
          · subst e2
            rw [if_pos rfl, if_neg n3, if_pos (by simp)]
            rfl
          · by_cases e3 : e = x.B
            · subst e3
              rw [if_neg e2, if_pos rfl, if_pos (by simp)]
              rfl
            · rw [if_neg e2, if_neg e3, if_neg (by simp [e1, e2, e3])]
              rfl
theorem topo_Sound_eq (s : Setup) : topo_Sound s = soundT s := by
  unfold topo_Sound soundT rangeT
  rw [← Bool.not_and, ← Bool.not_and]
  cases (topo_span s.Units 1 8 && topo_span s.Ports 1 16) && topo_span s.Room 0 32 with
  | false => rfl
  | true =>
    rw [Bool.not_true, cond_false, cond_true]
    have h := snd_loop s s.Links [] [] List.nodup_nil (fun e => rfl)
    cases hg : goodE s [] (endsOf s.Links) with
    | true =>
      obtain ⟨o, ho⟩ := h.1 hg
      rw [ho]
      rfl
    | false =>
      rw [h.2 hg]
      rfl
def findO (e : End) : List Link → End × Bool
  | [] => (⟨0, 0⟩, false)
  | x :: r => if e = x.A then (x.B, true) else if e = x.B then (x.A, true) else findO e r
def otherT (s : Setup) (e : End) : End × Bool := bif soundT s == 0 then findO e s.Links else (⟨0, 0⟩, false)
theorem other_loop (e : End) : ∀ (l : List Link), sumG (fun q => q) (topo_Other_l0s e l) (fun v => (({ Unit := 0, Port := 0 } : End), false)) = findO e l
  | [] => rfl
  | x :: l => by
      rw [topo_Other_l0s, findO, end_beq, end_beq]
      by_cases h : e = x.A
      · rw [decide_eq_true h, if_pos h]
        rfl
      · rw [decide_eq_false h, if_neg h, cond_false]
        by_cases h : e = x.B
        · rw [decide_eq_true h, if_pos h]
          rfl
        · rw [decide_eq_false h, if_neg h, cond_false, other_loop e l]
theorem topo_Other_eq (s : Setup) (e : End) : topo_Other s e = otherT s e := by
  unfold topo_Other otherT
  rw [topo_Sound_eq, bne]
  cases soundT s == 0 with
  | false => rfl
  | true =>
    rw [Bool.not_true, cond_false, cond_true, other_loop]
/-! ### all ports -/
def rowP (u : Int) : Nat → Int → List End
  | 0, _ => []
  | n + 1, p => ⟨u, p⟩ :: rowP u n (p + 1)
def colP (P : Nat) : Nat → Int → List End
  | 0, _ => []
  | n + 1, u => rowP u P 1 ++ colP P n (u + 1)
def portsT (s : Setup) : List End := colP s.Ports.toNat s.Units.toNat 0
theorem rowP_len (u : Int) : ∀ (n : Nat) (p : Int), (rowP u n p).length = n
  | 0, _ => rfl
  | n + 1, p => by rw [rowP, List.length_cons, rowP_len u n]
theorem colP_len (P : Nat) : ∀ (n : Nat) (u : Int), (colP P n u).length = n * P
  | 0, _ => by rw [Nat.zero_mul]; rfl
  | n + 1, u => by rw [colP, List.length_append, rowP_len, colP_len P n, Nat.succ_mul, Nat.add_comm]
theorem rowP_mem (u : Int) : ∀ (n : Nat) (p : Int) (e : End), e ∈ rowP u n p ↔ e.Unit = u ∧ p ≤ e.Port ∧ e.Port < p + n
  | 0, p, e => by
      rw [rowP]
      simp <;> omega
  | n + 1, p, e => by
      rw [rowP, List.mem_cons, rowP_mem u n (p + 1) e]
      obtain ⟨a, b⟩ := e
      rw [End.mk.injEq]
      dsimp only
      omega
theorem colP_mem (P : Nat) : ∀ (n : Nat) (u : Int) (e : End), e ∈ colP P n u ↔ u ≤ e.Unit ∧ e.Unit < u + n ∧ 1 ≤ e.Port ∧ e.Port < 1 + P
  | 0, u, e => by
      rw [colP]
      simp <;> omega
  | n + 1, u, e => by
      rw [colP, List.mem_append, rowP_mem, colP_mem P n (u + 1) e]
      omega
theorem rowP_nodup (u : Int) : ∀ (n : Nat) (p : Int), (rowP u n p).Nodup
  | 0, p => List.nodup_nil
  | n + 1, p => by
      rw [rowP, List.nodup_cons, rowP_mem]
      refine ⟨?_, rowP_nodup u n (p + 1)⟩
      dsimp only
      omega
theorem colP_nodup (P : Nat) : ∀ (n : Nat) (u : Int), (colP P n u).Nodup
  | 0, u => List.nodup_nil
  | n + 1, u => by
      rw [colP, List.nodup_append]
      refine ⟨rowP_nodup u P 1, colP_nodup P n (u + 1), ?_⟩
      intro a ha b hb e
      subst e
      rw [rowP_mem] at ha
      rw [colP_mem] at hb
      omega
theorem cut_one {b : End} {p : End → Bool} (hp : p b = true) : ∀ {A : List End}, A.Nodup → b ∈ A → (A.filter (fun x => p x && decide (x ≠ b))).length + 1 = (A.filter p).length
  | a :: A, hn, hb => by
      rw [List.nodup_cons] at hn
      by_cases e : a = b
      · subst e
        rw [List.filter_cons_of_neg (by simp), List.filter_cons_of_pos hp, List.length_cons]
        congr 2
        refine List.filter_congr fun x hx => ?_
        have : x ≠ a := fun e => hn.1 (e ▸ hx)
        rw [decide_eq_true this, Bool.and_true]
      · have hb' : b ∈ A := (List.mem_cons.1 hb).resolve_left (Ne.symm e)
        have ih := cut_one hp hn.2 hb'
        rw [List.filter_cons, List.filter_cons, decide_eq_true e, Bool.and_true]
        split
        · rw [List.length_cons, List.length_cons, ih]
        · exact ih
theorem cut_all {A : List End} (hA : A.Nodup) : ∀ {B : List End}, B.Nodup → (∀ b ∈ B, b ∈ A) → (A.filter (fun x => decide (x ∉ B))).length + B.length = A.length
  | [], _, _ => by
      rw [List.filter_eq_self.2 (by simp)]
      rfl
  | b :: B, hn, hs => by
      rw [List.nodup_cons] at hn
      have ih := cut_all hA hn.2 (fun x hx => hs x (List.mem_cons_of_mem _ hx))
      have h1 := cut_one (b := b) (p := fun x => decide (x ∉ B)) (decide_eq_true hn.1) hA (hs b List.mem_cons_self)
      have : (A.filter (fun x => decide (x ∉ b :: B))) = A.filter (fun x => decide (x ∉ B) && decide (x ≠ b)) := by
        refine List.filter_congr fun x hx => ?_
        rw [Bool.eq_iff_iff, Bool.and_eq_true, decide_eq_true_eq, decide_eq_true_eq, decide_eq_true_eq, List.mem_cons, not_or]
        exact ⟨fun h => ⟨h.2, h.1⟩, fun h => ⟨h.2, h.1⟩⟩
      rw [this, List.length_cons]
      omega
theorem topo_end_iff (s : Setup) (e : End) : topo_end s e = true ↔ 0 ≤ e.Unit ∧ e.Unit < s.Units ∧ 1 ≤ e.Port ∧ e.Port ≤ s.Ports := by
  simp only [topo_end, Bool.and_eq_true, decide_eq_true_eq]
  omega
theorem ports_mem {s : Setup} {e : End} (h : topo_end s e = true) : e ∈ portsT s := by
  rw [topo_end_iff] at h
  unfold portsT
  rw [colP_mem]
  omega
theorem range_iff {s : Setup} (h : rangeT s = true) : 1 ≤ s.Units ∧ s.Units ≤ 8 ∧ 1 ≤ s.Ports ∧ s.Ports ≤ 16 := by
  simp only [rangeT, topo_span, Bool.and_eq_true, decide_eq_true_eq] at h
  omega
theorem ports_len {s : Setup} (h : rangeT s = true) : (portsT s).length ≤ 128 := by
  have := range_iff h
  unfold portsT
  rw [colP_len]
  have h1 : s.Units.toNat ≤ 8 := by omega
  have h2 : s.Ports.toNat ≤ 16 := by omega
  exact Nat.mul_le_mul h1 h2
theorem ends_few {s : Setup} (h : rangeT s = true) {l : List End} (hn : l.Nodup) (ha : l.all (topo_end s) = true) : l.length ≤ 128 := by
  have := cut_all (colP_nodup s.Ports.toNat s.Units.toNat 0) hn (fun b hb => ports_mem (List.all_eq_true.1 ha b hb))
  have h2 := ports_len h
  unfold portsT at h2
  omega

end Go.Proofs.Ytlnpkofmaemgpaa

set_option linter.unusedVariables false
set_option linter.unusedSimpArgs false
set_option maxRecDepth 100000
set_option maxHeartbeats 4000000
namespace Go.Proofs.Ytlnpkofmaemgpaa
open Go.Sh
/-! ### the reference: Setup -/
theorem setup_l0 : ∀ (l : List Link) (ends : List End), (ends.length + 2 * l.length) * 16 ≤ 140737488355328 → podestaref09_Setup_l0s l ends = some (ends ++ endsOf l)
  | [], ends, _ => by rw [podestaref09_Setup_l0s, endsOf, List.append_nil]
  | x :: l, ends, h => by
      rw [List.length_cons] at h
      rw [podestaref09_Setup_l0s, fitO_eq (by show (ends.length + 2) * 16 ≤ _; omega), setup_l0 l _ (by rw [List.length_append]; show (ends.length + 2 + _) * 16 ≤ _; omega), List.append_assoc]
      rfl
theorem setup_l2 (v pre rest : List End) (x : End) (hv : v = pre ++ x :: rest) (hl : pre.length < 1000) : ∀ (m k : Nat), k ≤ pre.length → pre.length - k < m →
    podestaref09_Setup_l2 v pre.length x m ((k : Nat) : Int) = some (bif decide (x ∈ pre.drop k) then .inr 2 else .inl ())
  | 0, k, _, h => by omega
  | m + 1, k, hk, hm => by
      rw [podestaref09_Setup_l2]
      by_cases e : k < pre.length
      · have hg : v[k]? = some pre[k] := by
          subst hv
          rw [List.getElem?_append_left e, List.getElem?_eq_getElem e]
        have hx : ixO v ((k : Nat) : Int) = some pre[k] := by
          unfold ixO
          rw [if_pos (by omega), Int.toNat_natCast, hg]
        rw [decide_eq_true (by omega : ((k : Nat) : Int) < ((pre.length : Nat) : Int)), cond_true, hx, Option.bind_some, end_beq, wrap_succ (by omega), setup_l2 v pre rest x hv hl m (k + 1) (by omega) (by omega), List.drop_eq_getElem_cons e]
        by_cases e2 : pre[k] = x
        · rw [decide_eq_true e2, cond_true, decide_eq_true (by rw [e2]; exact List.mem_cons_self)]
          rfl
        · rw [decide_eq_false e2, cond_false]
          have : (x ∈ pre[k] :: pre.drop (k + 1)) ↔ x ∈ pre.drop (k + 1) := by
            rw [List.mem_cons]
            exact ⟨fun h => h.resolve_left (Ne.symm e2), .inr⟩
          rw [decide_eq_decide.2 this]
      · rw [decide_eq_false (by omega : ¬ ((k : Nat) : Int) < ((pre.length : Nat) : Int)), cond_false, List.drop_eq_nil_of_le (by omega), decide_eq_false (by simp)]
        rfl
theorem end_odd (s : Setup) (x : End) : ((((decide (x.Unit < 0)) || (decide (x.Unit ≥ s.Units))) || (decide (x.Port < 1))) || (decide (x.Port > s.Ports))) = !topo_end s x := by
  rw [Bool.eq_iff_iff, Bool.not_eq_true', ← Bool.not_eq_true, topo_end_iff]
  simp only [Bool.or_eq_true, decide_eq_true_eq]
  omega
theorem setup_l1 (s : Setup) (hr : rangeT s = true) (v : List End) : ∀ (rest pre : List End), v = pre ++ rest → pre.Nodup → pre.all (topo_end s) = true →
    podestaref09_Setup_l1s 300 s v rest pre.length = some (bif goodE s pre rest then .inl () else .inr 2)
  | [], pre, hv, hn, ha => by
      rw [podestaref09_Setup_l1s]
      have : goodE s pre [] = true := by
        unfold goodE
        rw [List.append_nil, decide_eq_true hn]
        rfl
      rw [this]
      rfl
  | x :: rest, pre, hv, hn, ha => by
      have hf := ends_few hr hn ha
      rw [podestaref09_Setup_l1s, end_odd]
      cases hx : topo_end s x with
      | false =>
        have : goodE s pre (x :: rest) = false := by
          unfold goodE
          rw [List.all_cons, hx]
          rfl
        rw [this]
        rfl
      | true =>
        rw [Bool.not_true, cond_false, zero_nat, setup_l2 v pre rest x hv (by omega) 300 0 (by omega) (by omega), List.drop_zero]
        by_cases hm : x ∈ pre
        · have : goodE s pre (x :: rest) = false := by
            unfold goodE
            rw [decide_eq_false (nodup_mid hm), Bool.and_false]
          rw [this, decide_eq_true hm]
          rfl
        · rw [decide_eq_false hm]
          have hg : goodE s pre (x :: rest) = goodE s (pre ++ [x]) rest := by
            unfold goodE
            rw [List.all_cons, hx, List.append_assoc]
            rfl
          have hn2 : (pre ++ [x]).Nodup := by
            rw [List.nodup_append]
            refine ⟨hn, by simp, fun a h1 b h2 e => ?_⟩
            rw [List.mem_singleton] at h2
            subst e; subst h2
            exact hm h1
          have ih := setup_l1 s hr v rest (pre ++ [x]) (by rw [hv, List.append_assoc]; rfl) hn2 (by rw [List.all_append, ha, List.all_cons, hx]; rfl)
          rw [List.length_append, List.length_singleton] at ih
          rw [hg, ← ih]
          rfl
theorem setup_eq (s : Setup) (hl : s.Links.length * 32 ≤ 140737488355328) : podestaref09_Setup_raw 300 s = some (soundT s) := by
  have hc : ((((((decide (s.Units < 1)) || (decide (s.Units > 8))) || (decide (s.Ports < 1))) || (decide (s.Ports > 16))) || (decide (s.Room < 0))) || (decide (s.Room > 32))) = !rangeT s := by
    rw [Bool.eq_iff_iff, Bool.not_eq_true', ← Bool.not_eq_true]
    simp only [rangeT, topo_span, Bool.and_eq_true, Bool.or_eq_true, decide_eq_true_eq]
    omega
  rw [podestaref09_Setup_raw, hc]
  unfold soundT
  cases hr : rangeT s with
  | false => rfl
  | true =>
    rw [Bool.not_true, cond_false, cond_true, setup_l0 s.Links [] (by simp; omega), Option.bind_some, List.nil_append]
    have h := setup_l1 s hr (endsOf s.Links) (endsOf s.Links) [] rfl List.nodup_nil rfl
    rw [List.length_nil] at h
    rw [h]
    cases goodE s [] (endsOf s.Links) <;> rfl
/-! ### the reference: Other -/
theorem ref_other_loop (s : Setup) (e : End) (hl : s.Links.length ≤ 101) (h0 : soundT s = 0) : ∀ (l : List Link) (m i : Nat), s.Links.drop i = l → l.length < m →
    loopO (podestaref09_Other_l0 s e m ((i : Nat) : Int)) (fun v => some (({ Unit := 0, Port := 0 } : End), false)) = some (findO e l)
  | [], m + 1, i, hd, hm => by
      have : s.Links.length ≤ i := List.drop_eq_nil_iff.1 hd
      rw [podestaref09_Other_l0, List.length_map, decide_eq_false (by omega)]
      rfl
  | x :: l, m + 1, i, hd, hm => by
      obtain ⟨h1, h2, h3⟩ := drop_cons hd
      rw [podestaref09_Other_l0, List.length_map, decide_eq_true (by omega), cond_true, setup_eq s (by omega), Option.bind_some, h0, h2]
      simp only [Option.bind_some, end_beq]
      rw [show ((0 : Int) == 0) = true from rfl, cond_true, findO]
      by_cases e1 : x.A = e
      · rw [decide_eq_true e1, if_pos e1.symm]
        rfl
      · rw [decide_eq_false e1, if_neg (Ne.symm e1), cond_false]
        by_cases e2 : x.B = e
        · rw [decide_eq_true e2, if_pos e2.symm]
          rfl
        · rw [decide_eq_false e2, if_neg (Ne.symm e2), cond_false, wrap_succ (by omega)]
          exact ref_other_loop s e hl h0 l m (i + 1) h3 (by simp at hm; omega)
theorem ref_other_eq (s : Setup) (e : End) (hl : s.Links.length ≤ 101) : podestaref09_Other_raw 300 s e = some (otherT s e) := by
  rw [podestaref09_Other_raw]
  unfold otherT
  by_cases h0 : soundT s = 0
  · have := ref_other_loop s e hl h0 s.Links 300 0 rfl (by omega)
    rw [← zero_nat] at this
    rw [this, h0]
    rfl
  · have hb : (soundT s == 0) = false := by simp [h0]
    rw [hb, cond_false, podestaref09_Other_l0]
    by_cases hn : 0 < s.Links.length
    · rw [List.length_map, decide_eq_true (by omega), cond_true, setup_eq s (by omega), Option.bind_some, hb]
      rfl
    · rw [List.length_map, decide_eq_false (by omega)]
      rfl
/-! ### Edges -/
def edgeT (s : Setup) (e : End) : Bool := !(otherT s e).2
def edgesT (s : Setup) : List End := bif soundT s == 0 then (portsT s).filter (edgeT s) else []
theorem edges_l1 (s : Setup) (hp : s.Ports ≤ 16) (u : Int) : ∀ (n m : Nat) (t : Int) (out : List End), 0 ≤ t → t + n = s.Ports → n < m → out.length + n ≤ 1000 →
    topo_Edges_l1 s u m t out = some (out ++ (rowP u n (t + 1)).filter (edgeT s))
  | 0, m + 1, t, out, h0, hn, hm, hl => by
      rw [topo_Edges_l1, decide_eq_false (by omega), rowP, List.filter_nil, List.append_nil]
      rfl
  | n + 1, m + 1, t, out, h0, hn, hm, hl => by
      rw [topo_Edges_l1, decide_eq_true (by omega), cond_true, wrap_eq (n := t + 1) (by omega) (by omega), topo_Other_eq, rowP, List.filter_cons]
      show (bif edgeT s ⟨u, t + 1⟩ then _ else _) = _
      cases edgeT s ⟨u, t + 1⟩ with
      | true =>
        rw [cond_true, fitO_eq (by show (out.length + 1) * 16 ≤ _; omega), edges_l1 s hp u n m (t + 1) _ (by omega) (by omega) (by omega) (by rw [List.length_append]; show out.length + 1 + n ≤ _; omega), List.append_assoc]
        rfl
      | false =>
        rw [cond_false, edges_l1 s hp u n m (t + 1) _ (by omega) (by omega) (by omega) (by omega)]
        rfl
theorem edges_l0 (s : Setup) (hu : s.Units ≤ 8) (hp : s.Ports ≤ 16) (hp0 : 0 ≤ s.Ports) : ∀ (n m : Nat) (t : Int) (out : List End), 0 ≤ t → t + n = s.Units → n < m → out.length + n * 16 ≤ 900 →
    topo_Edges_l0 20 s m t out = some (out ++ (colP s.Ports.toNat n t).filter (edgeT s))
  | 0, m + 1, t, out, h0, hn, hm, hl => by
      rw [topo_Edges_l0, decide_eq_false (by omega), colP, List.filter_nil, List.append_nil]
      rfl
  | n + 1, m + 1, t, out, h0, hn, hm, hl => by
      have h1 : ((rowP t s.Ports.toNat (0 + 1)).filter (edgeT s)).length ≤ 16 := by
        refine Nat.le_trans (List.length_filter_le _ _) ?_
        rw [rowP_len]
        omega
      rw [topo_Edges_l0, decide_eq_true (by omega), cond_true, edges_l1 s hp t s.Ports.toNat 20 0 out (by omega) (by omega) (by omega) (by omega), Option.bind_some, wrap_eq (by omega) (by omega), edges_l0 s hu hp hp0 n m (t + 1) _ (by omega) (by omega) (by omega) (by rw [List.length_append]; omega), colP, List.filter_append, List.append_assoc]
      rfl
theorem edges_eq (s : Setup) : topo_Edges_raw 20 20 s = some (edgesT s) := by
  rw [topo_Edges_raw, topo_Sound_eq, bne]
  unfold edgesT
  cases h : soundT s == 0 with
  | false => rfl
  | true =>
    have hr : rangeT s = true := by
      unfold soundT at h
      cases hr : rangeT s with
      | true => rfl
      | false =>
        rw [hr] at h
        cases h
    have := range_iff hr
    rw [Bool.not_true, cond_false, cond_true, edges_l0 s (by omega) (by omega) (by omega) s.Units.toNat 20 0 [] (by omega) (by omega) (by omega) (by simp; omega)]
    rfl
theorem sound_inv {s : Setup} (h : soundT s = 0) : rangeT s = true ∧ (endsOf s.Links).all (topo_end s) = true ∧ (endsOf s.Links).Nodup := by
  unfold soundT at h
  cases hr : rangeT s with
  | false =>
    rw [hr] at h
    cases h
  | true =>
    cases hg : goodE s [] (endsOf s.Links) with
    | false =>
      rw [hr, hg] at h
      cases h
    | true =>
      unfold goodE at hg
      rw [Bool.and_eq_true, decide_eq_true_eq] at hg
      exact ⟨rfl, hg⟩

end Go.Proofs.Ytlnpkofmaemgpaa

set_option linter.unusedVariables false
set_option linter.unusedSimpArgs false
set_option maxRecDepth 100000
set_option maxHeartbeats 4000000
namespace Go.Proofs.Ytlnpkofmaemgpaa
open Go.Sh
set_option maxRecDepth 100000
open Go.ChangeShapes Go.WideShapes Go.ChangeAt Go.RowKit
def End.wf (x : End) : Prop := intW .i64 x.Unit ∧ intW .i64 x.Port
theorem End.shaped {gs : List AV} (h : Shaped tab 26 gs) : ∃ x : End, gs = [.sc (.int .i64 x.Unit), .sc (.int .i64 x.Port)] ∧ x.wf := by
  obtain ⟨gss, rfl, hl, hf⟩ := Shaped.struct_inv (fl := [(0, 3), (1, 3)]) (by kernel_rfl) h
  match gss, hl, hf with
  | [g0, g1], _, hf =>
    obtain ⟨x0, rfl, w0⟩ := Shaped.int_inv (k := .i64) (by kernel_rfl) (hf 0 _ _ rfl rfl)
    obtain ⟨x1, rfl, w1⟩ := Shaped.int_inv (k := .i64) (by kernel_rfl) (hf 1 _ _ rfl rfl)
    exact ⟨⟨x0, x1⟩, rfl, ⟨w0, w1⟩⟩
def Link.wf (x : Link) : Prop := End.wf x.A ∧ End.wf x.B
theorem Link.shaped {gs : List AV} (h : Shaped tab 36 gs) : ∃ x : Link, gs = [.sc (.int .i64 x.A.Unit), .sc (.int .i64 x.A.Port), .sc (.int .i64 x.B.Unit), .sc (.int .i64 x.B.Port)] ∧ x.wf := by
  obtain ⟨gss, rfl, hl, hf⟩ := Shaped.struct_inv (fl := [(0, 26), (2, 26)]) (by kernel_rfl) h
  match gss, hl, hf with
  | [g0, g1], _, hf =>
    obtain ⟨x0, rfl, w0⟩ := End.shaped (hf 0 _ _ rfl rfl)
    obtain ⟨x1, rfl, w1⟩ := End.shaped (hf 1 _ _ rfl rfl)
    exact ⟨⟨x0, x1⟩, rfl, ⟨w0, w1⟩⟩
def Setup.wf (x : Setup) : Prop := intW .i64 x.Units ∧ intW .i64 x.Ports ∧ intW .i64 x.Room ∧ (∀ y ∈ x.Links, Link.wf y)
theorem Setup.shaped {gs : List AV} (h : Shaped tab 24 gs) : ∃ x : Setup, gs = [.sc (.int .i64 x.Units), .sc (.int .i64 x.Ports), .sc (.int .i64 x.Room), .sl 36 (List.map Link.av x.Links) false] ∧ x.wf := by
  obtain ⟨gss, rfl, hl, hf⟩ := Shaped.struct_inv (fl := [(0, 3), (1, 3), (2, 3), (3, 22)]) (by kernel_rfl) h
  match gss, hl, hf with
  | [g0, g1, g2, g3], _, hf =>
    obtain ⟨x0, rfl, w0⟩ := Shaped.int_inv (k := .i64) (by kernel_rfl) (hf 0 _ _ rfl rfl)
    obtain ⟨x1, rfl, w1⟩ := Shaped.int_inv (k := .i64) (by kernel_rfl) (hf 1 _ _ rfl rfl)
    obtain ⟨x2, rfl, w2⟩ := Shaped.int_inv (k := .i64) (by kernel_rfl) (hf 2 _ _ rfl rfl)
    obtain ⟨q3, rfl, hq3⟩ := Shaped.slice_inv (e := 36) (by kernel_rfl) (hf 3 _ _ rfl rfl)
    obtain ⟨x3, hx3, w3⟩ := rows_typedW (G := tab) (e := 36) (av := Link.av) (wf := fun y => Link.wf y) q3 (fun g hg => by obtain ⟨x, rfl, w⟩ := Link.shaped (hq3 g hg); exact ⟨x, (by kernel_rfl), w⟩)
    rw [hx3]; exact ⟨⟨x0, x1, x2, x3⟩, rfl, ⟨w0, w1, w2, w3⟩⟩

end Go.Proofs.Ytlnpkofmaemgpaa

set_option linter.unusedVariables false
set_option linter.unusedSimpArgs false
set_option maxRecDepth 100000
set_option maxHeartbeats 4000000
namespace Go.Proofs.Ytlnpkofmaemgpaa
open Go.Sh
/-! ### podestalaw12.answers: function 6 -/
noncomputable def podestalaw12_answers_F : Go.Sh.Fn := ⟨6, bodyOf Try.f6, 31⟩
def podestalaw12_answers : Bool :=
  (((((topo_Sound ({ Units := 2, Ports := 1, Room := 0, Links := [({ A := ({ Unit := 0, Port := 1 } : End), B := ({ Unit := 1, Port := 1 } : End) } : Link)] } : Setup)) == 0) && (topo_Other ({ Units := 2, Ports := 1, Room := 0, Links := [({ A := ({ Unit := 0, Port := 1 } : End), B := ({ Unit := 1, Port := 1 } : End) } : Link)] } : Setup) ({ Unit := 0, Port := 1 } : End)).2) && (((topo_Other ({ Units := 2, Ports := 1, Room := 0, Links := [({ A := ({ Unit := 0, Port := 1 } : End), B := ({ Unit := 1, Port := 1 } : End) } : Link)] } : Setup) ({ Unit := 0, Port := 1 } : End)).1).Unit == 1)) && ((topo_Sound ({ Units := 0, Ports := 0, Room := 0, Links := [] } : Setup)) == 13))
theorem podestalaw12_answers_calls : ACalls Try.prog tab.S 6 [] [] (.sc (.bool (podestalaw12_answers))) [] := by
  generalize H : podestalaw12_answers = r
  refine .of_AX podestalaw12_answers_F Try.func6 fun c0 hc0 => ?_
  rw [podestalaw12_answers] at H
  refine .sg 5 [1] (.rg (.sg 2 [1,10,11] (.cp [1,12] (ds := [(0, false)]) (topo_Other_calls ({ Units := 2, Ports := 1, Room := 0, Links := [({ A := ({ Unit := 0, Port := 1 } : End), B := ({ Unit := 1, Port := 1 } : End) } : Link)] } : Setup) ({ Unit := 0, Port := 1 } : End)) (.sg 6 [1,2,3] (.dn (.sg 1 [1,2,3] (.rg (.sg 1 [2,3,15] (.cp [2,3,16] (ds := [(0, false)]) (topo_Sound_calls ({ Units := 2, Ports := 1, Room := 0, Links := [({ A := ({ Unit := 0, Port := 1 } : End), B := ({ Unit := 1, Port := 1 } : End) } : Link)] } : Setup)) (.sg 2 [2,3,18] (.mx 0 [2,20] (.sg 1 [2,21] (.mx 0 [25] (.sg 1 [26] (.mm 26 ((((topo_Sound ({ Units := 2, Ports := 1, Room := 0, Links := [({ A := ({ Unit := 0, Port := 1 } : End), B := ({ Unit := 1, Port := 1 } : End) } : Link)] } : Setup)) == 0) && (topo_Other ({ Units := 2, Ports := 1, Room := 0, Links := [({ A := ({ Unit := 0, Port := 1 } : End), B := ({ Unit := 1, Port := 1 } : End) } : Link)] } : Setup) ({ Unit := 0, Port := 1 } : End)).2) && (((topo_Other ({ Units := 2, Ports := 1, Room := 0, Links := [({ A := ({ Unit := 0, Port := 1 } : End), B := ({ Unit := 1, Port := 1 } : End) } : Link)] } : Setup) ({ Unit := 0, Port := 1 } : End)).1).Unit == 1)) 4 [.pure, .pure, .pure, .pure] [30] 30 (fun z => .sc (.bool (z && ((topo_Sound ({ Units := 0, Ports := 0, Room := 0, Links := [] } : Setup)) == 13)))) ?J3 (fun hb J => ?ht3) (fun hb J => ?hf3))))))))))))))))
  case ht3 =>
    exact .sg 1 [26,27] (.cp [26,28] (ds := [(36, false)]) (topo_Sound_calls ({ Units := 0, Ports := 0, Room := 0, Links := [] } : Setup)) (.sg 2 [30] (.cl J)))
  case hf3 =>
    exact .sg 4 [30] (.cl J)
  refine .sg 1 [0] (.dn ?_)
  subst H
  exact .ret Try.func6 hc0

theorem podestalaw12_answers_ok : ACalls Try.prog tab.S 6 [] [] (.sc (.bool true)) [] := by
  have h := podestalaw12_answers_calls
  rw [show podestalaw12_answers = true from by kernel_rfl] at h
  exact h
end Go.Proofs.Ytlnpkofmaemgpaa

set_option linter.unusedVariables false
set_option linter.unusedSimpArgs false
set_option maxRecDepth 100000
set_option maxHeartbeats 4000000
namespace Go.Proofs.Ytlnpkofmaemgpaa
open Go.Sh
/-! ### podestalaw12.TopoSound: function 3 -/
noncomputable def podestalaw12_TopoSound_F : Go.Sh.Fn := ⟨3, bodyOf Try.f3, 100⟩
def podestalaw12_TopoSound_l1 (s : Setup) (x2 : (List End)) (u : Int) : Nat → Int → Int → Option (Sum (Int) (Bool))
  | 0, _, _ => none
  | m + 1, k2, p =>
    (bif (decide (p ≤ s.Ports)) then
    (podestaref09_Other_raw 300 s ({ Unit := u, Port := p } : End)).bind fun x4 =>
    (bif x4.2 then
      podestalaw12_TopoSound_l1 s x2 u m k2 (IntKind.i64.wrap (p + 1))
    else
      (bif (decide (k2 ≥ (((List.map End.av x2).length : Nat) : Int))) then
        some (.inr false)
      else
        (ixO x2 k2).bind fun x5 =>
        (bif (!((x5.Unit == u) && (x5.Port == p))) then
          some (.inr false)
        else
          podestalaw12_TopoSound_l1 s x2 u m (IntKind.i64.wrap (k2 + 1)) (IntKind.i64.wrap (p + 1)))))
  else
    some (.inl k2))
theorem podestalaw12_TopoSound_l1_walk (q0 : Nat) (q1 : Nat) (s : Setup) (e1 : End) (x : End × Bool) (x1 : Int) (x2 : (List End)) (x3 : Int) (k1 : Int) (u : Int) (o2_0 : Int) (o2_1 : Int)  (r : Bool) (c0 : Ctx) (hc0 : c0.m.length = 0) (res : Sum (Int) (Bool)) (J : ∀ w : Int, res = .inl w → AX Try.prog tab podestalaw12_TopoSound_F c0 (Rp tab.S c0 (.sc (.bool r)) []) (some ⟨[.blk 1, .code [1, 1, 1, 1, 1, 1, 1, 1, 0, 1, 0, 0, 1, 1], .loop [1, 1, 1, 1, 1, 1, 1, 1, 0, 1, 0], .blk 0, .code [1, 1, 1, 1, 1, 1, 1, 1, 1]], [(2, .ptr 0 0 none), (9, .sl 26 (List.map End.av x2) false), (10, .sc (.int .i64 w)), (11, .sc (.int .i64 u))], [.box 24 (Setup.ch s), .box 26 (End.ch e1), .box 26 [.sc (.int .i64 o2_0), .sc (.int .i64 o2_1)], .box 26 (End.ch x.1)]⟩)) (Jr : ∀ w, res = .inr w → w = r) :
    ∀ (m : Nat) (k2 : Int) (p : Int) (H : podestalaw12_TopoSound_l1 s x2 u m k2 p = some res), AX Try.prog tab podestalaw12_TopoSound_F c0 (Rp tab.S c0 (.sc (.bool r)) []) (some ⟨[.code [1, 1, 1, 1, 1, 1, 1, 1, 0, 1, 0, 0, 1, 0, 0, 1, 0, 0], .loop [1, 1, 1, 1, 1, 1, 1, 1, 0, 1, 0, 0, 1, 0, 0, 1, 0], .blk 2, .blk 1, .code [1, 1, 1, 1, 1, 1, 1, 1, 0, 1, 0, 0, 1, 1], .loop [1, 1, 1, 1, 1, 1, 1, 1, 0, 1, 0], .blk 0, .code [1, 1, 1, 1, 1, 1, 1, 1, 1]], [(2, .ptr 0 0 none), (9, .sl 26 (List.map End.av x2) false), (10, .sc (.int .i64 k2)), (11, .sc (.int .i64 u)), (12, .sc (.int .i64 p))], [.box 24 (Setup.ch s), .box 26 (End.ch e1), .box 26 [.sc (.int .i64 o2_0), .sc (.int .i64 o2_1)], .box 26 (End.ch x.1)]⟩) := by
  intro m
  induction m with
  | zero => intro k2 p H; cases H
  | succ m ih =>
    intro k2 p H
    rw [podestalaw12_TopoSound_l1] at H
    refine .sg 3 [2,9,10,11,12,69] (.cd (decide (p ≤ s.Ports)) H (fun hb H => ?_) (fun hb H => ?_))
    ·
      refine .sg 6 [2,9,10,11,12,13] (.rg (.sg 2 [2,9,10,11,12,13,76,77] (bndO H fun x4 hv H => (.cp [2,9,10,11,12,13,78] ((podestaref09_Other_walk 300) s ({ Unit := u, Port := p } : End) x4 hv) (.sg 6 [2,9,10,11,12,13,15] (.dn (.sg 3 [2,9,10,11,12,13,81] (.cd x4.2 H (fun hb H => ?_) (fun hb H => ?_)))))))))
      ·
        exact .sg 2 [2,9,10,11,12] (.tl hc0 [0,1,2,3] [2,9,10,11,12] (.into (.to (ih k2 (IntKind.i64.wrap (p + 1)) H))))
      ·
        refine .sg 3 [2,9,10,11,12,13] (.rg (.sg 5 [2,9,10,11,12,13,86] (.sp 86 (decide (k2 ≥ (((List.map End.av x2).length : Nat) : Int))) H (fun hb H => ?_) (fun hb H => ?_))))
        ·
          refine .sg 7 [2,9,10,11,12,93] (.dn (.sg 3 [4] ?_))
          obtain rfl := Option.some.inj H
          obtain rfl := Jr _ rfl
          exact .ret Try.func3 hc0
        ·
          refine .sg 2 [2,9,10,11,12,13,86,87,88] (bndO H fun x5 hv H => (.xi [2,9,10,11,12,13,86,89] End.av hv (.sg 2 [2,9,10,11,12,86,90,91] (.eq_ [2,9,10,11,12,86,92] 9 (.sg 1 [2,9,10,11,12,93] (.dn (.cd (!((x5.Unit == u) && (x5.Port == p))) H (fun hb H => ?_) (fun hb H => ?_))))))))
          ·
            refine .sg 2 [4] ?_
            obtain rfl := Option.some.inj H
            obtain rfl := Jr _ rfl
            exact .ret Try.func3 hc0
          ·
            exact .sg 4 [2,9,10,11,12] (.tl hc0 [0,1,2,3] [2,9,10,11,12] (.into (.to (ih (IntKind.i64.wrap (k2 + 1)) (IntKind.i64.wrap (p + 1)) H))))
    ·
      exact .sg 1 [2,9,10,11] (.kp [2,9,10,11] (.to (J k2 (Option.some.inj H).symm)))
def podestalaw12_TopoSound_l0 (q1 : Nat) (s : Setup) (x2 : (List End)) : Nat → Int → Int → Int → Int → Option (Sum (Int × Int × Int) (Bool))
  | 0, _, _, _, _ => none
  | m + 1, k1, u, o2_0, o2_1 =>
    (bif (decide (u < s.Units)) then
    loopP (podestalaw12_TopoSound_l1 s x2 u q1 k1 1) fun v =>
    podestalaw12_TopoSound_l0 q1 s x2 m v (IntKind.i64.wrap (u + 1)) o2_0 o2_1
  else
    some (.inl (k1, o2_0, o2_1)))
theorem podestalaw12_TopoSound_l0_walk (q0 : Nat) (q1 : Nat) (s : Setup) (e1 : End) (x : End × Bool) (x1 : Int) (x2 : (List End)) (x3 : Int)  (r : Bool) (c0 : Ctx) (hc0 : c0.m.length = 0) (res : Sum (Int × Int × Int) (Bool)) (J : ∀ w : Int × Int × Int, res = .inl w → AX Try.prog tab podestalaw12_TopoSound_F c0 (Rp tab.S c0 (.sc (.bool r)) []) (some ⟨[.code [1, 1, 1, 1, 1, 1, 1, 1, 1]], [(9, .sl 26 (List.map End.av x2) false), (10, .sc (.int .i64 w.1))], [.box 24 (Setup.ch s), .box 26 (End.ch e1), .box 26 [.sc (.int .i64 w.2.1), .sc (.int .i64 w.2.2)], .box 26 (End.ch x.1)]⟩)) (Jr : ∀ w, res = .inr w → w = r) :
    ∀ (m : Nat) (k1 : Int) (u : Int) (o2_0 : Int) (o2_1 : Int) (H : podestalaw12_TopoSound_l0 q1 s x2 m k1 u o2_0 o2_1 = some res), AX Try.prog tab podestalaw12_TopoSound_F c0 (Rp tab.S c0 (.sc (.bool r)) []) (some ⟨[.code [1, 1, 1, 1, 1, 1, 1, 1, 0, 1, 0, 0], .loop [1, 1, 1, 1, 1, 1, 1, 1, 0, 1, 0], .blk 0, .code [1, 1, 1, 1, 1, 1, 1, 1, 1]], [(2, .ptr 0 0 none), (9, .sl 26 (List.map End.av x2) false), (10, .sc (.int .i64 k1)), (11, .sc (.int .i64 u))], [.box 24 (Setup.ch s), .box 26 (End.ch e1), .box 26 [.sc (.int .i64 o2_0), .sc (.int .i64 o2_1)], .box 26 (End.ch x.1)]⟩) := by
  intro m
  induction m with
  | zero => intro k1 u o2_0 o2_1 H; cases H
  | succ m ih =>
    intro k1 u o2_0 o2_1 H
    rw [podestalaw12_TopoSound_l0] at H
    refine .sg 3 [2,9,10,11,63] (.cd (decide (u < s.Units)) H (fun hb H => ?_) (fun hb H => ?_))
    ·
      refine .sg 6 [2,9,10,11,12] ?_
      rcases loopP_some H with ⟨v, hv, H⟩ | ⟨r1, hv, hr1⟩
      case inr =>
        refine .into ?_
        subst hr1
        obtain rfl := Jr _ rfl
        exact .to (podestalaw12_TopoSound_l1_walk q0 q1 s e1 x x1 x2 x3 k1 u o2_0 o2_1 _ c0 hc0 (.inr _) (fun _ e => by cases e) (fun _ e => (Sum.inr.inj e).symm) q1 k1 1 hv)
      refine .into (.to (podestalaw12_TopoSound_l1_walk q0 q1 s e1 x x1 x2 x3 k1 u o2_0 o2_1 r c0 hc0 (.inl v) (fun w e => ?_) (fun _ e => by cases e) q1 k1 1 hv))
      have e := Sum.inl.inj e
      subst e
      exact .sg 2 [2,9,10,11] (.kp [2,9,10,11] (.into (.to (ih v (IntKind.i64.wrap (u + 1)) o2_0 o2_1 H))))
    ·
      exact .sg 1 [9,10] (.kp [9,10] (.to (J (k1, o2_0, o2_1) (Option.some.inj H).symm)))
def podestalaw12_TopoSound_raw (q0 : Nat) (q1 : Nat) (s : Setup) (e1 : End) : Option (Bool) :=
  (bif (decide ((((List.map Link.av s.Links).length : Nat) : Int) > 100)) then
    some true
  else
    (podestaref09_Other_raw 300 s e1).bind fun x =>
    (podestaref09_Setup_raw 300 s).bind fun x1 =>
    (bif ((((topo_Sound s) != x1) || (!((((topo_Other s e1).1).Unit == x.1.Unit) && (((topo_Other s e1).1).Port == x.1.Port)))) || ((topo_Other s e1).2 != x.2)) then
      some false
    else
      (topo_Edges_raw 20 20 s).bind fun x2 =>
      (podestaref09_Setup_raw 300 s).bind fun x3 =>
      (bif (x3 != 0) then
        some ((((List.map End.av x2).length : Nat) : Int) == 0)
      else
        loopO (podestalaw12_TopoSound_l0 q1 s x2 q0 0 0 (((topo_Other s e1).1).Unit) (((topo_Other s e1).1).Port)) fun v =>
        some (v.1 == (((List.map End.av x2).length : Nat) : Int)))))
theorem podestalaw12_TopoSound_walk (q0 : Nat) (q1 : Nat) (s : Setup) (e1 : End) (r : Bool) (H : podestalaw12_TopoSound_raw q0 q1 s e1 = some r) : ACalls Try.prog tab.S 3 [Setup.av s, End.av e1] [] (.sc (.bool r)) [] := by
  refine .of_AX podestalaw12_TopoSound_F Try.func3 fun c0 hc0 => ?_
  rw [podestalaw12_TopoSound_raw] at H
  refine .sg 5 [2,3,19] (.cd (decide ((((List.map Link.av s.Links).length : Nat) : Int) > 100)) H (fun hb H => ?_) (fun hb H => ?_))
  ·
    refine .sg 1 [] (.rg (.cp [20] (podestalaw12_answers_ok) (.sg 1 [4] (.dn ?_))))
    obtain rfl := Option.some.inj H
    exact .ret Try.func3 hc0
  ·
    refine .sg 2 [2,3] (.rg (.sg 2 [2,3,22,23] (.cp [2,3,24] (topo_Other_calls s e1) (.sg 6 [2,3,5,6] (.dn (.sg 1 [2,3,5,6] (.rg (.sg 2 [2,5,6,28,29] (bndO H fun x hv H => (.cp [2,5,6,30] ((podestaref09_Other_walk 300) s e1 x hv) (.sg 6 [2,5,6,7,8] (.dn (.sg 2 [2,5,6,7,8] (.rg (.cp [2,5,6,7,8,33] (podestalaw12_answers_ok) (.sg 3 [2,5,6,7,8,35,36] (.cp [2,5,6,7,8,35,37] (topo_Sound_calls s) (.sg 1 [2,5,6,7,8,35,37,38] (bndO H fun x1 hv H => (.cp [2,5,6,7,8,35,37,39] ((podestaref09_Setup_walk 300) s x1 hv) (.sg 3 [2,5,6,7,8,42] (.mm 42 ((topo_Sound s) != x1) 4 [.pure, .pure, .read, .read] [2, 6, 8, 46] 46 (fun z => .sc (.bool (z || (!((((topo_Other s e1).1).Unit == x.1.Unit) && (((topo_Other s e1).1).Port == x.1.Port)))))) ?J1 (fun hb J => ?ht1) (fun hb J => ?hf1)))))))))))))))))))))))
    case ht1 =>
      exact .sg 4 [2,6,8,46] (.cl J)
    case hf1 =>
      exact .sg 2 [2,6,8,42,43,44] (.eq_ [2,6,8,42,45] 9 (.sg 1 [2,6,8,46] (.cl J)))
    refine .sg 1 [2,6,8,47] (.mx 1 [2,51] (.dn (.cd ((((topo_Sound s) != x1) || (!((((topo_Other s e1).1).Unit == x.1.Unit) && (((topo_Other s e1).1).Port == x.1.Port)))) || ((topo_Other s e1).2 != x.2)) H (fun hb H => ?_) (fun hb H => ?_))))
    ·
      refine .sg 2 [4] ?_
      obtain rfl := Option.some.inj H
      exact .ret Try.func3 hc0
    ·
      refine .sg 2 [2] (.rg (.sg 1 [2,52] (bndO H fun x2 hv H => (.cp [2,53] ((topo_Edges_walk 20 20) s x2 hv) (.sg 1 [2,9] (.dn (.sg 2 [2,9] (.rg (.sg 1 [2,9,54] (bndO H fun x3 hv H => (.cp [2,9,55] ((podestaref09_Setup_walk 300) s x3 hv) (.sg 1 [2,9,56] (.dn (.cd (x3 != 0) H (fun hb H => ?_) (fun hb H => ?_)))))))))))))))
      ·
        refine .sg 2 [4] ?_
        obtain rfl := Option.some.inj H
        exact .ret Try.func3 hc0
      ·
        refine .sg 7 [2,9,10,11] ?_
        rcases loopO_some H with ⟨v, hv, H⟩ | hv
        case inr =>
          exact .into (.to (podestalaw12_TopoSound_l0_walk q0 q1 s e1 x x1 x2 x3 r c0 hc0 (.inr r) (fun _ e => by cases e) (fun _ e => (Sum.inr.inj e).symm) q0 0 0 (((topo_Other s e1).1).Unit) (((topo_Other s e1).1).Port) hv))
        refine .into (.to (podestalaw12_TopoSound_l0_walk q0 q1 s e1 x x1 x2 x3 r c0 hc0 (.inl v) (fun w e => ?_) (fun _ e => by cases e) q0 0 0 (((topo_Other s e1).1).Unit) (((topo_Other s e1).1).Port) hv))
        have e := Sum.inl.inj e
        subst e
        refine .sg 2 [4] ?_
        obtain rfl := Option.some.inj H
        exact .ret Try.func3 hc0

/-! ### podestalaw12.TopoBack: function 4 -/
noncomputable def podestalaw12_TopoBack_F : Go.Sh.Fn := ⟨4, bodyOf Try.f4, 87⟩
def podestalaw12_TopoBack_l0s (e1 : End) (ok : Bool) (a_0 : Int) (a_1 : Int) : List End → Bool → Bool × Bool × Int × Int
  | [], edge =>
    (ok, edge, a_0, a_1)
  | x1 :: rest, edge =>
    podestalaw12_TopoBack_l0s e1 ok a_0 a_1 rest (edge || ((x1.Unit == e1.Unit) && (x1.Port == e1.Port)))
theorem podestalaw12_TopoBack_l0_walk (s : Setup) (e1 : End) (x : (List End)) (ok : Bool) (a_0 : Int) (a_1 : Int) (r : Bool) (c0 : Ctx) (hc0 : c0.m.length = 0) (res : Bool × Bool × Int × Int) (J : AX Try.prog tab podestalaw12_TopoBack_F c0 (Rp tab.S c0 (.sc (.bool r)) []) (some ⟨[.code [1, 1, 1, 1, 1, 1]], [(2, .ptr 0 0 none), (3, .ptr 1 0 none), (5, .ptr 2 0 none), (6, .sc (.bool res.1)), (7, .sl 26 (List.map End.av x) false), (8, .sc (.bool res.2.1))], [.box 24 (Setup.ch s), .box 26 (End.ch e1), .box 26 [.sc (.int .i64 res.2.2.1), .sc (.int .i64 res.2.2.2)]]⟩)) :
    ∀ (rest : List End) (i : Nat) (z : Int) (hI : z = ((i : Nat) : Int)) (hd : x.drop i = rest) (edge : Bool) (H : podestalaw12_TopoBack_l0s e1 ok a_0 a_1 rest edge = res), AX Try.prog tab podestalaw12_TopoBack_F c0 (Rp tab.S c0 (.sc (.bool r)) []) (some ⟨[.code [1, 1, 1, 1, 1, 0, 1, 0, 0], .loop [1, 1, 1, 1, 1, 0, 1, 0], .blk 0, .code [1, 1, 1, 1, 1, 1]], [(2, .ptr 0 0 none), (3, .ptr 1 0 none), (5, .ptr 2 0 none), (6, .sc (.bool ok)), (7, .sl 26 (List.map End.av x) false), (8, .sc (.bool edge)), (9, .sc (.int .i64 z))], [.box 24 (Setup.ch s), .box 26 (End.ch e1), .box 26 [.sc (.int .i64 a_0), .sc (.int .i64 a_1)]]⟩) := by
  intro rest
  induction rest with
  | nil =>
    intro i z hI hd edge H
    subst hI
    rw [podestalaw12_TopoBack_l0s] at H
    refine .facts 7 fun hf => ?_
    have hlen : x.length ≤ 9223372036854775807 := by have hq := len_ok hf.2.1; rw [List.length_map] at hq; exact hq
    have hge : x.length ≤ i := List.drop_eq_nil_iff.1 hd
    have hc : (decide (((i : Nat) : Int) < (((List.map End.av x).length : Nat) : Int))) = false := by rw [List.length_map]; exact decide_eq_false (by omega)
    refine .sg 3 [2,3,5,6,7,8,9,28] (.cdF hc (.sg 1 [2,3,5,6,7,8] (.kp [2,3,5,6,7,8] ?_)))
    subst H
    exact .to J
  | cons x1 rest ih =>
    intro i z hI hd edge H
    subst hI
    rw [podestalaw12_TopoBack_l0s] at H
    refine .facts 7 fun hf => ?_
    have hlen : x.length ≤ 9223372036854775807 := by have hq := len_ok hf.2.1; rw [List.length_map] at hq; exact hq
    obtain ⟨hlt, hv_i, hd2⟩ := drop_cons hd
    have hc : (decide (((i : Nat) : Int) < (((List.map End.av x).length : Nat) : Int))) = true := by rw [List.length_map]; exact decide_eq_true (by omega)
    have hw : IntKind.i64.wrap (((i : Nat) : Int) + 1) = ((i + 1 : Nat) : Int) := wrapI_succ (by omega)
    refine .sg 3 [2,3,5,6,7,8,9,28] (.cdT hc (.sg 3 [2,3,5,6,7,8,9] (.rg (.sg 2 [2,3,5,6,7,9,32] (.mm 32 edge 7 [.pure, .pure, .read, .pure, .pure, .pure, .pure] [2, 3, 5, 6, 7, 9, 39] 39 (fun z => .sc (.bool (z || ((x1.Unit == e1.Unit) && (x1.Port == e1.Port))))) ?J1 (fun hb J => ?ht1) (fun hb J => ?hf1))))))
    case ht1 =>
      exact .sg 7 [2,3,5,6,7,9,39] (.cl J)
    case hf1 =>
      exact .sg 2 [2,3,5,6,7,9,32,33,34] (.xi [2,3,5,6,7,9,32,35] End.av hv_i (.sg 2 [2,3,5,6,7,9,32,36,37] (.eq_ [2,3,5,6,7,9,32,38] 9 (.sg 1 [2,3,5,6,7,9,39] (.cl J)))))
    exact .sg 1 [2,3,5,6,7,8,9] (.dn (.sg 2 [2,3,5,6,7,8,9] (.kp [2,3,5,6,7,8,9] (.into (.cl (ih (i + 1) _ hw hd2 (edge || ((x1.Unit == e1.Unit) && (x1.Port == e1.Port))) H))))))

def podestalaw12_TopoBack_raw (s : Setup) (e1 : End) : Option (Bool) :=
  (bif (decide ((((List.map Link.av s.Links).length : Nat) : Int) > 100)) then
    some true
  else
    (topo_Edges_raw 20 20 s).bind fun x =>
    letT (podestalaw12_TopoBack_l0s e1 ((topo_Other s e1).2) (((topo_Other s e1).1).Unit) (((topo_Other s e1).1).Port) x false) fun v =>
    (bif (!v.1) then
      some ((v.2.2.1 == 0) && (v.2.2.2 == 0))
    else
      some (((((topo_Other s ({ Unit := v.2.2.1, Port := v.2.2.2 } : End)).2 && ((((topo_Other s ({ Unit := v.2.2.1, Port := v.2.2.2 } : End)).1).Unit == e1.Unit) && (((topo_Other s ({ Unit := v.2.2.1, Port := v.2.2.2 } : End)).1).Port == e1.Port))) && (!((v.2.2.1 == e1.Unit) && (v.2.2.2 == e1.Port)))) && (!v.2.1)) && ((((List.map End.av x).length : Nat) : Int) == (IntKind.i64.wrap ((IntKind.i64.wrap (s.Units * s.Ports)) - (IntKind.i64.wrap (2 * (((List.map Link.av s.Links).length : Nat) : Int)))))))))
theorem podestalaw12_TopoBack_walk (s : Setup) (e1 : End) (r : Bool) (H : podestalaw12_TopoBack_raw s e1 = some r) : ACalls Try.prog tab.S 4 [Setup.av s, End.av e1] [] (.sc (.bool r)) [] := by
  refine .of_AX podestalaw12_TopoBack_F Try.func4 fun c0 hc0 => ?_
  rw [podestalaw12_TopoBack_raw] at H
  refine .sg 5 [2,3,15] (.cd (decide ((((List.map Link.av s.Links).length : Nat) : Int) > 100)) H (fun hb H => ?_) (fun hb H => ?_))
  ·
    refine .sg 1 [] (.rg (.cp [16] (podestalaw12_answers_ok) (.sg 1 [4] (.dn ?_))))
    obtain rfl := Option.some.inj H
    exact .ret Try.func4 hc0
  ·
    refine .sg 2 [2,3] (.rg (.sg 2 [2,3,18,19] (.cp [2,3,20] (topo_Other_calls s e1) (.sg 6 [2,3,5,6] (.dn (.sg 1 [2,3,5,6] (.rg (.sg 1 [2,3,5,6,23] (bndO H fun x hv H => (.cp [2,3,5,6,24] ((topo_Edges_walk 20 20) s x hv) (.sg 1 [2,3,5,6,7] (.dn (.sg 6 [2,3,5,6,7,8,9] ?_)))))))))))))
    refine letH H fun v hv H => (.into (.to (podestalaw12_TopoBack_l0_walk s e1 x ((topo_Other s e1).2) (((topo_Other s e1).1).Unit) (((topo_Other s e1).1).Port) r c0 hc0 v ?_ x 0 _ rfl rfl false hv)))
    refine .sg 3 [2,3,5,7,8,41] (.cd (!v.1) H (fun hb H => ?_) (fun hb H => ?_))
    ·
      refine .sg 1 [5] (.rg (.cp [5,42] (podestalaw12_answers_ok) (.sg 3 [43,44,45] (.eq_ [43,46] 9 (.sg 2 [4] (.dn ?_))))))
      obtain rfl := Option.some.inj H
      exact .ret Try.func4 hc0
    ·
      refine .sg 2 [2,3,5,7,8] (.rg (.sg 2 [2,3,5,7,8,49,50] (.cp [2,3,5,7,8,51] (topo_Other_calls s ({ Unit := v.2.2.1, Port := v.2.2.2 } : End)) (.sg 6 [2,3,5,7,8,10,11] (.dn (.sg 1 [2,3,5,7,8,10,11] (.rg (.cp [2,3,5,7,8,10,11,54] (podestalaw12_answers_ok) (.sg 4 [2,3,5,7,8,10,58] (.mm 58 ((topo_Other s ({ Unit := v.2.2.1, Port := v.2.2.2 } : End)).2) 4 [.pure, .pure, .read, .read] [2, 3, 5, 7, 8, 62] 62 (fun z => .sc (.bool (z && ((((topo_Other s ({ Unit := v.2.2.1, Port := v.2.2.2 } : End)).1).Unit == e1.Unit) && (((topo_Other s ({ Unit := v.2.2.1, Port := v.2.2.2 } : End)).1).Port == e1.Port))))) ?J2 (fun hb J => ?ht2) (fun hb J => ?hf2)))))))))))
      case ht2 =>
        exact .sg 2 [2,3,5,7,8,58,59,60] (.eq_ [2,3,5,7,8,58,61] 9 (.sg 1 [2,3,5,7,8,62] (.cl J)))
      case hf2 =>
        exact .sg 4 [2,3,5,7,8,62] (.cl J)
      refine .sg 1 [2,3,5,7,8,63] (.mm 63 ((topo_Other s ({ Unit := v.2.2.1, Port := v.2.2.2 } : End)).2 && ((((topo_Other s ({ Unit := v.2.2.1, Port := v.2.2.2 } : End)).1).Unit == e1.Unit) && (((topo_Other s ({ Unit := v.2.2.1, Port := v.2.2.2 } : End)).1).Port == e1.Port))) 4 [.pure, .pure, .read, .read] [2, 7, 8, 67] 67 (fun z => .sc (.bool (z && (!((v.2.2.1 == e1.Unit) && (v.2.2.2 == e1.Port)))))) ?J3 (fun hb J => ?ht3) (fun hb J => ?hf3))
      case ht3 =>
        exact .sg 2 [2,7,8,63,64,65] (.eq_ [2,7,8,63,66] 9 (.sg 1 [2,7,8,67] (.cl J)))
      case hf3 =>
        exact .sg 4 [2,7,8,67] (.cl J)
      refine .sg 1 [2,7,8,68] (.mx 0 [2,7,71] (.sg 1 [2,7,72] (.mx 0 [86] (.sg 1 [4] (.dn ?_)))))
      obtain rfl := Option.some.inj H
      exact .ret Try.func4 hc0

end Go.Proofs.Ytlnpkofmaemgpaa

set_option linter.unusedVariables false
set_option linter.unusedSimpArgs false
set_option maxRecDepth 100000
set_option maxHeartbeats 4000000
namespace Go.Proofs.Ytlnpkofmaemgpaa
open Go.Sh
theorem LQ.ab {P : Program} {G : Tab} {n : Nat} {ops : Array Oper} {i : Nat} {t : Tmps} {h : List AO} [ok : Ok P G] {α : Type} (f : α → AV) {A B : List α} {by_ : Nat} (hfit : (A.length + B.length) * by_ ≤ reach) (hA : A = []) (e : anA (appNE G n ops i t h) = some (A.map f, B.map f, by_) := by kernel_rfl) : LSpec P G.S n ops i .loud t h (.own h.length 1000000) (h ++ [.row (anT (appNE G n ops i t h)) ((A ++ B).map f) 1000000 true]) := LSpec.ab f hfit hA e
theorem LQ.ap {P : Program} {G : Tab} {n : Nat} {ops : Array Oper} {i : Nat} {t : Tmps} {h : List AO} [ok : Ok P G] {α : Type} (f : α → AV) {A B : List α} {by_ : Nat} (hfit : (A.length + B.length) * by_ ≤ reach) (e : apA (appE G n ops i t h) = some (A.map f, B.map f, by_) := by kernel_rfl) : LSpec P G.S n ops i .loud t h (apR (appE G n ops i t h)) (apH f A B (appE G n ops i t h) h) := LSpec.ap f hfit e
theorem LQ.so {P : Program} {G : Tab} {n : Nat} {ops : Array Oper} {i : Nat} {t : Tmps} {h : List AO} [ok : Ok P G] {α : Type} (f : α → AV) {A A' : List α} {l u m : Option Int} (hv : Go.Sh.sliceO A l u m = some A') (e : soA (sliceE G n ops i t) = some (A.map f, l, u, m) := by kernel_rfl) : LSpec P G.S n ops i .pure t h (.sl (soT (sliceE G n ops i t)) (A'.map f) (soF (sliceE G n ops i t))) h := LSpec.so f hv e

/-! ### podestalaw12.TopoTwice: function 5 -/
noncomputable def podestalaw12_TopoTwice_F : Go.Sh.Fn := ⟨5, bodyOf Try.f5, 96⟩
def podestalaw12_TopoTwice_raw (s : Setup) (at_ : Int) (turned : Bool) : Option (Bool) :=
  (podestaref09_Setup_raw 300 s).bind fun x =>
  (bif (((x != 0) || ((((List.map Link.av s.Links).length : Nat) : Int) == 0)) || (decide ((((List.map Link.av s.Links).length : Nat) : Int) > 50))) then
    some true
  else
    reqO ((((List.map Link.av s.Links).length : Nat) : Int) != 0) (
    (ixO s.Links (Int.tmod (IntKind.i64.wrap at_) (((List.map Link.av s.Links).length : Nat) : Int))).bind fun x1 =>
    (bif turned then
      fitO (([] : List Link).length + s.Links.length) 32 (
      fitO ((([] : List Link) ++ s.Links).length + [({ A := x1.B, B := x1.A } : Link)].length) 32 (
      (sliceO s.Links (some 1) none none).bind fun x2 =>
      fitO (([] : List Link).length + x2.length) 32 (
      fitO ((([] : List Link) ++ x2).length + [({ A := x1.B, B := x1.B } : Link)].length) 32 (
      (bif ((topo_Sound ({ s with Links := ((([] : List Link) ++ s.Links) ++ [({ A := x1.B, B := x1.A } : Link)]) } : Setup)) == 2) then
        (bif (((topo_Sound ({ s with Links := ((([] : List Link) ++ x2) ++ [({ A := x1.B, B := x1.B } : Link)]) } : Setup)) == 2) && (!(topo_Other ({ s with Links := ((([] : List Link) ++ s.Links) ++ [({ A := x1.B, B := x1.A } : Link)]) } : Setup) x1.B).2)) then
          (topo_Edges_raw 20 20 ({ s with Links := ((([] : List Link) ++ s.Links) ++ [({ A := x1.B, B := x1.A } : Link)]) } : Setup)).bind fun x3 =>
          some ((((List.map End.av x3).length : Nat) : Int) == 0)
        else
          some false)
      else
        some false)))))
    else
      fitO (([] : List Link).length + s.Links.length) 32 (
      fitO ((([] : List Link) ++ s.Links).length + [x1].length) 32 (
      (sliceO s.Links (some 1) none none).bind fun x4 =>
      fitO (([] : List Link).length + x4.length) 32 (
      fitO ((([] : List Link) ++ x4).length + [({ A := x1.A, B := x1.A } : Link)].length) 32 (
      (bif ((topo_Sound ({ s with Links := ((([] : List Link) ++ s.Links) ++ [x1]) } : Setup)) == 2) then
        (bif (((topo_Sound ({ s with Links := ((([] : List Link) ++ x4) ++ [({ A := x1.A, B := x1.A } : Link)]) } : Setup)) == 2) && (!(topo_Other ({ s with Links := ((([] : List Link) ++ s.Links) ++ [x1]) } : Setup) x1.A).2)) then
          (topo_Edges_raw 20 20 ({ s with Links := ((([] : List Link) ++ s.Links) ++ [x1]) } : Setup)).bind fun x5 =>
          some ((((List.map End.av x5).length : Nat) : Int) == 0)
        else
          some false)
      else
        some false))))))))
theorem podestalaw12_TopoTwice_walk (s : Setup) (at_ : Int) (turned : Bool) (r : Bool) (H : podestalaw12_TopoTwice_raw s at_ turned = some r) : ACalls Try.prog tab.S 5 [Setup.av s, .sc (.int .u8 at_), .sc (.bool turned)] [] (.sc (.bool r)) [] := by
  refine .of_AX podestalaw12_TopoTwice_F Try.func5 fun c0 hc0 => ?_
  rw [podestalaw12_TopoTwice_raw] at H
  refine .sg 1 [0,1,2] (.rg (.bx [1,2,3] (.sg 1 [1,2,3] (.dn (.sg 2 [1,2,3] (.rg (.sg 1 [1,2,3,12] (bndO H fun x hv H => (.cp [1,2,3,13] ((podestaref09_Setup_walk 300) s x hv) (.sg 2 [1,2,3,15] (.mx 1 [1,2,3,20] (.sg 1 [1,2,3,21] (.mx 1 [1,2,3,26] (.dn (.cd (((x != 0) || ((((List.map Link.av s.Links).length : Nat) : Int) == 0)) || (decide ((((List.map Link.av s.Links).length : Nat) : Int) > 50))) H (fun hb H => ?_) (fun hb H => ?_))))))))))))))))
  ·
    refine .sg 1 [] (.rg (.cp [27] (podestalaw12_answers_ok) (.sg 1 [6] (.dn ?_))))
    obtain rfl := Option.some.inj H
    exact .ret Try.func5 hc0
  ·
    refine .sg 2 [1,2,3] (.rg (.sg 7 [2,3,29,31,34] (reqH H fun hreq H => (.re [2,3,29,35] (b := (((List.map Link.av s.Links).length : Nat) : Int)) hreq (bndO H fun x1 hv H => (.xi [2,3,36] Link.av hv (.sg 3 [2,3,7] (.dn (.sg 3 [3,7,38] (.cd turned H (fun hb H => ?_) (fun hb H => ?_)))))))))))
    ·
      refine .sg 2 [3,7] (.rp hc0 [3, 7, 8, 9] [] [[0, 1, 2], [0, 2, 1]] .nil (by kernel_rfl) (.sg 1 [3,7,8,9] (fitH H fun hfit1 H => (fitH H fun hfit2 H => (.rp hc0 [3, 7, 8, 9] [⟨3, [], [], .loud, [(47, .sl 36 (List.map Link.av []) true), (49, .sl 36 (List.map Link.av s.Links) false)], [.box 36 [.sc (.int .i64 x1.B.Unit), .sc (.int .i64 x1.B.Port), .sc (.int .i64 x1.A.Unit), .sc (.int .i64 x1.A.Port)], .box 24 (Setup.ch s), .box 24 (Setup.ch s)], .own 3 1000000, [.box 36 [.sc (.int .i64 x1.B.Unit), .sc (.int .i64 x1.B.Port), .sc (.int .i64 x1.A.Unit), .sc (.int .i64 x1.A.Port)], .box 24 (Setup.ch s), .box 24 (Setup.ch s), .row 36 (List.map Link.av (([] : List Link) ++ s.Links)) 1000000 true]⟩, ⟨6, [], [], .loud, [(50, .own 3 1000000), (52, .sl 36 (List.map Link.av [({ A := x1.B, B := x1.A } : Link)]) true)], [.box 36 [.sc (.int .i64 x1.B.Unit), .sc (.int .i64 x1.B.Port), .sc (.int .i64 x1.A.Unit), .sc (.int .i64 x1.A.Port)], .box 24 (Setup.ch s), .box 24 (Setup.ch s), .row 36 (List.map Link.av (([] : List Link) ++ s.Links)) 1000000 true], .own 3 1000001, [.box 36 [.sc (.int .i64 x1.B.Unit), .sc (.int .i64 x1.B.Port), .sc (.int .i64 x1.A.Unit), .sc (.int .i64 x1.A.Port)], .box 24 (Setup.ch s), .box 24 (Setup.ch s), .row 36 (List.map Link.av ((([] : List Link) ++ s.Links) ++ [({ A := x1.B, B := x1.A } : Link)])) 1000001 true]⟩] [[0, 1, 2, 3], [0, 1, 2, 3]] (.cons (LQ.ab Link.av hfit1 rfl) (.cons (LQ.ap Link.av hfit2) .nil)) (by kernel_rfl) (.sg 1 [3,7,8,9] (bndO H fun x2 hv_x2 H => (fitH H fun hfit2 H => (fitH H fun hfit3 H => (.rp hc0 [7, 8, 9] [⟨3, [], [], .pure, [(57, .sl 36 (List.map Link.av s.Links) false)], [.box 36 [.sc (.int .i64 x1.B.Unit), .sc (.int .i64 x1.B.Port), .sc (.int .i64 x1.A.Unit), .sc (.int .i64 x1.A.Port)], .box 24 [.sc (.int .i64 s.Units), .sc (.int .i64 s.Ports), .sc (.int .i64 s.Room), .own 3 1000000], .box 24 (Setup.ch s), .row 36 (List.map Link.av ((([] : List Link) ++ s.Links) ++ [({ A := x1.B, B := x1.A } : Link)])) 1000000 true], .sl 36 (List.map Link.av x2) false, [.box 36 [.sc (.int .i64 x1.B.Unit), .sc (.int .i64 x1.B.Port), .sc (.int .i64 x1.A.Unit), .sc (.int .i64 x1.A.Port)], .box 24 [.sc (.int .i64 s.Units), .sc (.int .i64 s.Ports), .sc (.int .i64 s.Room), .own 3 1000000], .box 24 (Setup.ch s), .row 36 (List.map Link.av ((([] : List Link) ++ s.Links) ++ [({ A := x1.B, B := x1.A } : Link)])) 1000000 true]⟩, ⟨4, [], [], .loud, [(55, .sl 36 (List.map Link.av []) true), (58, .sl 36 (List.map Link.av x2) false)], [.box 36 [.sc (.int .i64 x1.B.Unit), .sc (.int .i64 x1.B.Port), .sc (.int .i64 x1.A.Unit), .sc (.int .i64 x1.A.Port)], .box 24 [.sc (.int .i64 s.Units), .sc (.int .i64 s.Ports), .sc (.int .i64 s.Room), .own 3 1000000], .box 24 (Setup.ch s), .row 36 (List.map Link.av ((([] : List Link) ++ s.Links) ++ [({ A := x1.B, B := x1.A } : Link)])) 1000000 true], .own 4 1000000, [.box 36 [.sc (.int .i64 x1.B.Unit), .sc (.int .i64 x1.B.Port), .sc (.int .i64 x1.A.Unit), .sc (.int .i64 x1.A.Port)], .box 24 [.sc (.int .i64 s.Units), .sc (.int .i64 s.Ports), .sc (.int .i64 s.Room), .own 3 1000000], .box 24 (Setup.ch s), .row 36 (List.map Link.av ((([] : List Link) ++ s.Links) ++ [({ A := x1.B, B := x1.A } : Link)])) 1000000 true, .row 36 (List.map Link.av (([] : List Link) ++ x2)) 1000000 true]⟩, ⟨11, [], [], .loud, [(59, .own 4 1000000), (65, .sl 36 (List.map Link.av [({ A := x1.B, B := x1.B } : Link)]) true)], [.box 36 [.sc (.int .i64 x1.B.Unit), .sc (.int .i64 x1.B.Port), .sc (.int .i64 x1.A.Unit), .sc (.int .i64 x1.A.Port)], .box 24 [.sc (.int .i64 s.Units), .sc (.int .i64 s.Ports), .sc (.int .i64 s.Room), .own 3 1000000], .box 24 (Setup.ch s), .row 36 (List.map Link.av ((([] : List Link) ++ s.Links) ++ [({ A := x1.B, B := x1.A } : Link)])) 1000000 true, .row 36 (List.map Link.av (([] : List Link) ++ x2)) 1000000 true], .own 4 1000001, [.box 36 [.sc (.int .i64 x1.B.Unit), .sc (.int .i64 x1.B.Port), .sc (.int .i64 x1.A.Unit), .sc (.int .i64 x1.A.Port)], .box 24 [.sc (.int .i64 s.Units), .sc (.int .i64 s.Ports), .sc (.int .i64 s.Room), .own 3 1000000], .box 24 (Setup.ch s), .row 36 (List.map Link.av ((([] : List Link) ++ s.Links) ++ [({ A := x1.B, B := x1.A } : Link)])) 1000000 true, .row 36 (List.map Link.av ((([] : List Link) ++ x2) ++ [({ A := x1.B, B := x1.B } : Link)])) 1000001 true]⟩] [[0, 1, 2, 3, 4], [0, 1, 2, 3, 4], [0, 1, 2, 3, 4], [0, 1, 2, 3, 4], [0, 1, 2, 3, 4], [0, 1, 2, 3, 4]] (.cons (LQ.so Link.av hv_x2) (.cons (LQ.ab Link.av hfit2 rfl) (.cons (LQ.ap Link.av hfit3) .nil))) (by kernel_rfl) (.sg 1 [7,8,9] (.rg (.sg 3 [8,9,69,71] (.gcp [8,9,72] [3] (topo_Other_calls ({ s with Links := ((([] : List Link) ++ s.Links) ++ [({ A := x1.B, B := x1.A } : Link)]) } : Setup) x1.B) (.sg 6 [8,9,11] (.dn (.sg 1 [8,9,11] (.rg (.cp [8,9,11,75] (podestalaw12_answers_ok) (.sg 2 [8,9,11,76,77] (.gcp [8,9,11,76,78] [3] (topo_Sound_calls ({ s with Links := ((([] : List Link) ++ s.Links) ++ [({ A := x1.B, B := x1.A } : Link)]) } : Setup)) (.sg 3 [8,9,11,81] (.sp 81 ((topo_Sound ({ s with Links := ((([] : List Link) ++ s.Links) ++ [({ A := x1.B, B := x1.A } : Link)]) } : Setup)) == 2) H (fun hb H => ?_) (fun hb H => ?_))))))))))))))))))))))))
      ·
        refine .sg 1 [8,11,81,82] (.gcp [8,11,81,83] [4] (topo_Sound_calls ({ s with Links := ((([] : List Link) ++ x2) ++ [({ A := x1.B, B := x1.B } : Link)]) } : Setup)) (.sg 3 [8,11,86] (.mx 0 [8,89] (.sg 1 [8,90] (.sp 90 (((topo_Sound ({ s with Links := ((([] : List Link) ++ x2) ++ [({ A := x1.B, B := x1.B } : Link)]) } : Setup)) == 2) && (!(topo_Other ({ s with Links := ((([] : List Link) ++ s.Links) ++ [({ A := x1.B, B := x1.A } : Link)]) } : Setup) x1.B).2)) H (fun hb H => ?_) (fun hb H => ?_))))))
        ·
          refine .sg 1 [90,91] (bndO H fun x3 hv H => (.gcp [90,92] [3] ((topo_Edges_walk 20 20) ({ s with Links := ((([] : List Link) ++ s.Links) ++ [({ A := x1.B, B := x1.A } : Link)]) } : Setup) x3 hv) (.sg 4 [6] (.dn ?_))))
          obtain rfl := Option.some.inj H
          exact .ret Try.func5 hc0
        ·
          refine .sg 6 [6] (.dn ?_)
          obtain rfl := Option.some.inj H
          exact .ret Try.func5 hc0
      ·
        refine .sg 15 [6] (.dn ?_)
        obtain rfl := Option.some.inj H
        exact .ret Try.func5 hc0
    ·
      refine .sg 2 [3,7] (.rp hc0 [3, 7, 8, 9] [] [[0, 1, 2], [0, 2, 1]] .nil (by kernel_rfl) (.sg 1 [3,7,8,9] (fitH H fun hfit1 H => (fitH H fun hfit2 H => (.rp hc0 [3, 7, 8, 9] [⟨3, [], [], .loud, [(47, .sl 36 (List.map Link.av []) true), (49, .sl 36 (List.map Link.av s.Links) false)], [.box 36 (Link.ch x1), .box 24 (Setup.ch s), .box 24 (Setup.ch s)], .own 3 1000000, [.box 36 (Link.ch x1), .box 24 (Setup.ch s), .box 24 (Setup.ch s), .row 36 (List.map Link.av (([] : List Link) ++ s.Links)) 1000000 true]⟩, ⟨6, [], [], .loud, [(50, .own 3 1000000), (52, .sl 36 (List.map Link.av [x1]) true)], [.box 36 (Link.ch x1), .box 24 (Setup.ch s), .box 24 (Setup.ch s), .row 36 (List.map Link.av (([] : List Link) ++ s.Links)) 1000000 true], .own 3 1000001, [.box 36 (Link.ch x1), .box 24 (Setup.ch s), .box 24 (Setup.ch s), .row 36 (List.map Link.av ((([] : List Link) ++ s.Links) ++ [x1])) 1000001 true]⟩] [[0, 1, 2, 3], [0, 1, 2, 3]] (.cons (LQ.ab Link.av hfit1 rfl) (.cons (LQ.ap Link.av hfit2) .nil)) (by kernel_rfl) (.sg 1 [3,7,8,9] (bndO H fun x4 hv_x4 H => (fitH H fun hfit2 H => (fitH H fun hfit3 H => (.rp hc0 [7, 8, 9] [⟨3, [], [], .pure, [(57, .sl 36 (List.map Link.av s.Links) false)], [.box 36 (Link.ch x1), .box 24 [.sc (.int .i64 s.Units), .sc (.int .i64 s.Ports), .sc (.int .i64 s.Room), .own 3 1000000], .box 24 (Setup.ch s), .row 36 (List.map Link.av ((([] : List Link) ++ s.Links) ++ [x1])) 1000000 true], .sl 36 (List.map Link.av x4) false, [.box 36 (Link.ch x1), .box 24 [.sc (.int .i64 s.Units), .sc (.int .i64 s.Ports), .sc (.int .i64 s.Room), .own 3 1000000], .box 24 (Setup.ch s), .row 36 (List.map Link.av ((([] : List Link) ++ s.Links) ++ [x1])) 1000000 true]⟩, ⟨4, [], [], .loud, [(55, .sl 36 (List.map Link.av []) true), (58, .sl 36 (List.map Link.av x4) false)], [.box 36 (Link.ch x1), .box 24 [.sc (.int .i64 s.Units), .sc (.int .i64 s.Ports), .sc (.int .i64 s.Room), .own 3 1000000], .box 24 (Setup.ch s), .row 36 (List.map Link.av ((([] : List Link) ++ s.Links) ++ [x1])) 1000000 true], .own 4 1000000, [.box 36 (Link.ch x1), .box 24 [.sc (.int .i64 s.Units), .sc (.int .i64 s.Ports), .sc (.int .i64 s.Room), .own 3 1000000], .box 24 (Setup.ch s), .row 36 (List.map Link.av ((([] : List Link) ++ s.Links) ++ [x1])) 1000000 true, .row 36 (List.map Link.av (([] : List Link) ++ x4)) 1000000 true]⟩, ⟨11, [], [], .loud, [(59, .own 4 1000000), (65, .sl 36 (List.map Link.av [({ A := x1.A, B := x1.A } : Link)]) true)], [.box 36 (Link.ch x1), .box 24 [.sc (.int .i64 s.Units), .sc (.int .i64 s.Ports), .sc (.int .i64 s.Room), .own 3 1000000], .box 24 (Setup.ch s), .row 36 (List.map Link.av ((([] : List Link) ++ s.Links) ++ [x1])) 1000000 true, .row 36 (List.map Link.av (([] : List Link) ++ x4)) 1000000 true], .own 4 1000001, [.box 36 (Link.ch x1), .box 24 [.sc (.int .i64 s.Units), .sc (.int .i64 s.Ports), .sc (.int .i64 s.Room), .own 3 1000000], .box 24 (Setup.ch s), .row 36 (List.map Link.av ((([] : List Link) ++ s.Links) ++ [x1])) 1000000 true, .row 36 (List.map Link.av ((([] : List Link) ++ x4) ++ [({ A := x1.A, B := x1.A } : Link)])) 1000001 true]⟩] [[0, 1, 2, 3, 4], [0, 1, 2, 3, 4], [0, 1, 2, 3, 4], [0, 1, 2, 3, 4], [0, 1, 2, 3, 4], [0, 1, 2, 3, 4]] (.cons (LQ.so Link.av hv_x4) (.cons (LQ.ab Link.av hfit2 rfl) (.cons (LQ.ap Link.av hfit3) .nil))) (by kernel_rfl) (.sg 1 [7,8,9] (.rg (.sg 3 [8,9,69,71] (.gcp [8,9,72] [3] (topo_Other_calls ({ s with Links := ((([] : List Link) ++ s.Links) ++ [x1]) } : Setup) x1.A) (.sg 6 [8,9,11] (.dn (.sg 1 [8,9,11] (.rg (.cp [8,9,11,75] (podestalaw12_answers_ok) (.sg 2 [8,9,11,76,77] (.gcp [8,9,11,76,78] [3] (topo_Sound_calls ({ s with Links := ((([] : List Link) ++ s.Links) ++ [x1]) } : Setup)) (.sg 3 [8,9,11,81] (.sp 81 ((topo_Sound ({ s with Links := ((([] : List Link) ++ s.Links) ++ [x1]) } : Setup)) == 2) H (fun hb H => ?_) (fun hb H => ?_))))))))))))))))))))))))
      ·
        refine .sg 1 [8,11,81,82] (.gcp [8,11,81,83] [4] (topo_Sound_calls ({ s with Links := ((([] : List Link) ++ x4) ++ [({ A := x1.A, B := x1.A } : Link)]) } : Setup)) (.sg 3 [8,11,86] (.mx 0 [8,89] (.sg 1 [8,90] (.sp 90 (((topo_Sound ({ s with Links := ((([] : List Link) ++ x4) ++ [({ A := x1.A, B := x1.A } : Link)]) } : Setup)) == 2) && (!(topo_Other ({ s with Links := ((([] : List Link) ++ s.Links) ++ [x1]) } : Setup) x1.A).2)) H (fun hb H => ?_) (fun hb H => ?_))))))
        ·
          refine .sg 1 [90,91] (bndO H fun x5 hv H => (.gcp [90,92] [3] ((topo_Edges_walk 20 20) ({ s with Links := ((([] : List Link) ++ s.Links) ++ [x1]) } : Setup) x5 hv) (.sg 4 [6] (.dn ?_))))
          obtain rfl := Option.some.inj H
          exact .ret Try.func5 hc0
        ·
          refine .sg 6 [6] (.dn ?_)
          obtain rfl := Option.some.inj H
          exact .ret Try.func5 hc0
      ·
        refine .sg 15 [6] (.dn ?_)
        obtain rfl := Option.some.inj H
        exact .ret Try.func5 hc0

end Go.Proofs.Ytlnpkofmaemgpaa

set_option linter.unusedVariables false
set_option linter.unusedSimpArgs false
set_option maxRecDepth 100000
set_option maxHeartbeats 4000000
namespace Go.Proofs.Ytlnpkofmaemgpaa
open Go.Sh
theorem slice1 {α : Type} {l : List α} (h : 1 ≤ l.length) : sliceO l (some 1) none none = some (l.drop 1) := by
  unfold sliceO
  rw [if_pos (by simp only [Option.getD_some, Option.getD_none]; refine ⟨by omega, by omega, by omega, .inl trivial⟩)]
  simp only [Option.getD_some, Option.getD_none]
  rw [List.take_of_length_le (by rw [List.length_drop]; omega)]
  rfl
theorem twice_two {s : Setup} (hr : rangeT s = true) {L : List Link} (hn : ¬ (endsOf L).Nodup) : soundT { s with Links := L } = 2 := by
  unfold soundT
  have : rangeT { s with Links := L } = rangeT s := rfl
  rw [this, hr, cond_true]
  unfold goodE
  rw [List.nil_append, decide_eq_false hn, Bool.and_false]
  rfl
theorem twice_core (s : Setup) (hr : rangeT s = true) (L M : List Link) (hL : ¬ (endsOf L).Nodup) (hM : ¬ (endsOf M).Nodup) (e : End) :
    (bif ((topo_Sound { s with Links := L }) == 2) then
      (bif (((topo_Sound { s with Links := M }) == 2) && (!(topo_Other { s with Links := L } e).2)) then
        (topo_Edges_raw 20 20 { s with Links := L }).bind fun x3 => some ((((List.map End.av x3).length : Nat) : Int) == 0)
      else some false)
    else some false) = some true := by
  have h1 := twice_two hr hL
  have he : edgesT { s with Links := L } = [] := by
    unfold edgesT
    rw [h1]
    rfl
  have ho : (otherT { s with Links := L } e).2 = false := by
    unfold otherT
    rw [h1]
    rfl
  rw [topo_Sound_eq, topo_Sound_eq, topo_Other_eq, h1, twice_two hr hM, ho, edges_eq, he]
  rfl
theorem TopoTwice_true (x0 : Setup) (x1 : Int) (x2 : Bool) (w0 : Setup.wf x0) (w1 : intW .u8 x1) (_ : True) (l0 : x0.Links.length * 32 ≤ 140737488355328) : podestalaw12_TopoTwice_raw x0 x1 x2 = some true := by
  rw [podestalaw12_TopoTwice_raw, setup_eq x0 l0, Option.bind_some, List.length_map]
  by_cases h0 : soundT x0 = 0
  · by_cases hn : x0.Links.length = 0 ∨ x0.Links.length > 50
    · have : (((soundT x0 != 0) || (((x0.Links.length : Nat) : Int) == 0)) || (decide (((x0.Links.length : Nat) : Int) > 50))) = true := by
        simp only [Bool.or_eq_true, decide_eq_true_eq, beq_iff_eq]
        omega
      rw [this, cond_true]
    · have : (((soundT x0 != 0) || (((x0.Links.length : Nat) : Int) == 0)) || (decide (((x0.Links.length : Nat) : Int) > 50))) = false := by
        simp only [Bool.or_eq_false_iff, decide_eq_false_iff_not, bne_eq_false_iff_eq, beq_eq_false_iff_ne]
        omega
      obtain ⟨hr, _, _⟩ := sound_inv h0
      have w1' : 0 ≤ x1 ∧ x1 ≤ 255 := by
        simp only [intW, Lit.wf, Bool.and_eq_true, decide_eq_true_eq] at w1
        exact w1
      have hlen : ∃ k : Nat, k < x0.Links.length ∧ Int.tmod (IntKind.i64.wrap x1) ((x0.Links.length : Nat) : Int) = ((k : Nat) : Int) := by
        refine ⟨x1.toNat % x0.Links.length, Nat.mod_lt _ (by omega), ?_⟩
        rw [wrap_eq (by omega) (by omega), Int.tmod_eq_emod_of_nonneg w1'.1, Int.natCast_emod, Int.toNat_of_nonneg w1'.1]
      obtain ⟨k, hk, hk2⟩ := hlen
      have hmem : x0.Links[k] ∈ x0.Links := List.getElem_mem hk
      rw [this, cond_false, reqO_eq (by rw [bne_iff_ne]; omega), hk2, ixO_lt hk, Option.bind_some, slice1 (by omega)]
      generalize x0.Links[k] = x at hmem
      have hm := endsOf_mem hmem
      have f1 : (([] : List Link).length + x0.Links.length) * 32 ≤ 140737488355328 := by rw [List.length_nil]; omega
      have f2 : ∀ y : Link, ((([] : List Link) ++ x0.Links).length + [y].length) * 32 ≤ 140737488355328 := fun y => by rw [List.nil_append, List.length_singleton]; omega
      have f3 : (([] : List Link).length + (x0.Links.drop 1).length) * 32 ≤ 140737488355328 := by rw [List.length_nil, List.length_drop]; omega
      have f4 : ∀ y : Link, ((([] : List Link) ++ x0.Links.drop 1).length + [y].length) * 32 ≤ 140737488355328 := fun y => by rw [List.nil_append, List.length_singleton, List.length_drop]; omega
      have hno : ∀ (y : Link) (l : List Link), (y.A ∈ endsOf l ∨ y.A = y.B) → ¬ (endsOf (([] ++ l) ++ [y])).Nodup := by
        intro y l h
        rw [List.nil_append, endsOf_app]
        rcases h with h | h
        · exact nodup_mid h
        · exact nodup_mid2 (.inr h)
      cases x2 with
      | true =>
        rw [cond_true, fitO_eq f1, fitO_eq (f2 _), Option.bind_some, fitO_eq f3, fitO_eq (f4 _)]
        exact twice_core x0 hr _ _ (hno _ _ (.inl hm.2)) (hno _ _ (.inr rfl)) _
      | false =>
        rw [cond_false, fitO_eq f1, fitO_eq (f2 _), Option.bind_some, fitO_eq f3, fitO_eq (f4 _)]
        exact twice_core x0 hr _ _ (hno _ _ (.inl hm.1)) (hno _ _ (.inr rfl)) _
  · have : (soundT x0 != 0) = true := by simp [h0]
    rw [this, Bool.true_or, Bool.true_or, cond_true]

end Go.Proofs.Ytlnpkofmaemgpaa
