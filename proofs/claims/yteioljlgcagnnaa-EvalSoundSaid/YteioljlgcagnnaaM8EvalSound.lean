import Derived.Test.YteioljlgcagnnaaM7EvalSound
set_option linter.unusedVariables false
set_option linter.unusedSimpArgs false
set_option maxRecDepth 100000
set_option maxHeartbeats 4000000
namespace Go.Proofs.Yteioljlgcagnnaa
open Go.Sh
noncomputable def z28_F : Go.Sh.Fn := ⟨28, bodyOf Try.f28, 12⟩
def z28 (n : Int) (most : Int) : Bool :=
 ((decide (n ≥ 0)) && (decide (n ≤ most)))
theorem z28_calls (n : Int) (most : Int) : ACalls Try.prog tab.S 28 [.sc (.int .i64 n), .sc (.int .i64 most)] [] (.sc (.bool (z28 n most))) [] := by
 generalize H : z28 n most = r
 refine .of_AX z28_F Try.func28 fun c0 hc0 => ?_
 rw [z28] at H
 refine .sg 3 [0,1] (.rg (.sg 3 [0,1,7] (.mx 0 [11] (.sg 1 [4] (.dn ?_)))))
 subst H
 exact .ret Try.func28 hc0
noncomputable def z27_F : Go.Sh.Fn := ⟨27, bodyOf Try.f27, 81⟩
def z27_l0s : List Act → Sum (Unit) (Bool)
 | [] =>
  (.inl ())
 | x :: rest =>
  (bif (!(bif (x.Kind == 1) then ((((decide (x.Port ≥ 1)) && (decide (x.Port ≤ 16))) && (x.Field == 0)) && (x.Value == 0)) else (bif (x.Kind == 2) then ((((x.Port == 0) && (decide (x.Field ≥ 0))) && (decide (x.Field < 12))) && (z45 x.Value (sizeT x.Field))) else ((x.Kind == 3) && (((x.Port == 0) && (x.Field == 0)) && (x.Value == 0)))))) then
   (.inr false)
  else
   z27_l0s rest )
theorem z27_l0_walk (l : List Act) (f_l : Bool) (r : Bool) (c0 : Ctx) (hc0 : c0.m.length = 0) (res : Sum (Unit) (Bool)) (J : ∀ w : Unit, res = .inl w → AX Try.prog tab z27_F c0 (Rp tab.S c0 (.sc (.bool r)) []) (some ⟨[.code [1, 1]], [(0, .sl 99 (List.map Act.av l) f_l)], []⟩)) (Jr : ∀ w, res = .inr w → w = r) :
  ∀ (rest : List Act) (i : Nat) (z : Int) (hI : z = ((i : Nat) : Int)) (hd : l.drop i = rest) (H : z27_l0s rest = res), AX Try.prog tab z27_F c0 (Rp tab.S c0 (.sc (.bool r)) []) (some ⟨[.code [1, 0, 1, 0, 0], .loop [1, 0, 1, 0], .blk 0, .code [1, 1]], [(0, .sl 99 (List.map Act.av l) f_l), (3, .sc (.int .i64 z))], []⟩) := by
 intro rest
 induction rest with
 | nil =>
  intro i z hI hd  H
  subst hI
  rw [z27_l0s] at H
  refine .facts 0 fun hf => ?_
  have hlen : l.length ≤ 9223372036854775807 := by have hq := len_ok hf.2.1; rw [List.length_map] at hq; exact hq
  have hge : l.length ≤ i := List.drop_eq_nil_iff.1 hd
  have hc : (decide (((i : Nat) : Int) < (((List.map Act.av l).length : Nat) : Int))) = false := by rw [List.length_map]; exact decide_eq_false (by omega)
  exact .sg 3 [0,3,9] (.cdF hc (.sg 1 [0] (.kp [0] (.to (J () H.symm)))))
 | cons x rest ih =>
  intro i z hI hd  H
  subst hI
  rw [z27_l0s] at H
  refine .facts 0 fun hf => ?_
  have hlen : l.length ≤ 9223372036854775807 := by have hq := len_ok hf.2.1; rw [List.length_map] at hq; exact hq
  obtain ⟨hlt, hv_i, hd2⟩ := drop_cons hd
  have hc : (decide (((i : Nat) : Int) < (((List.map Act.av l).length : Nat) : Int))) = true := by rw [List.length_map]; exact decide_eq_true (by omega)
  have hw : IntKind.i64.wrap (((i : Nat) : Int) + 1) = ((i + 1 : Nat) : Int) := wrapI_succ (by omega)
  refine .sg 3 [0,3,9] (.cdT hc (.sg 4 [0,3] (.rg (.sg 2 [0,3,12,13] (.xi [0,3,14] Act.av hv_i (.sg 3 [0,3,4] (.dn (.sg 8 [0,3,4,5,17,18] (.jn (x.Kind == 1) [0, 3, 5] (fun z => [(5, .sc (.bool (bif z then ((((decide (x.Port ≥ 1)) && (decide (x.Port ≤ 16))) && (x.Field == 0)) && (x.Value == 0)) else (bif (x.Kind == 2) then ((((x.Port == 0) && (decide (x.Field ≥ 0))) && (decide (x.Field < 12))) && (z45 x.Value (sizeT x.Field))) else ((x.Kind == 3) && (((x.Port == 0) && (x.Field == 0)) && (x.Value == 0)))))))]) ?J144 (fun hb J => ?ht144) (fun hb J => ?hf144))))))))))
  case ht144 =>
   exact .rg (.sg 4 [0,3,4,23] (.mx 0 [0,3,4,27] (.sg 1 [0,3,4,28] (.mx 0 [0,3,4,32] (.sg 1 [0,3,4,33] (.mx 0 [0,3,37] (.sg 1 [0,3,5] (.dn (.sg 0 [0,3,5] (.cl J))))))))))
  case hf144 =>
   refine .sg 2 [0,3,4,5,17,38] (.jn (x.Kind == 2) [0, 3, 5] (fun z => [(5, .sc (.bool (bif z then ((((x.Port == 0) && (decide (x.Field ≥ 0))) && (decide (x.Field < 12))) && (z45 x.Value (sizeT x.Field))) else ((x.Kind == 3) && (((x.Port == 0) && (x.Field == 0)) && (x.Value == 0))))))]) ?J156 (fun hb J => ?ht156) (fun hb J => ?hf156))
   case ht156 =>
    refine .rg (.sg 4 [0,3,4,43] (.mx 0 [0,3,4,47] (.sg 1 [0,3,4,48] (.mx 0 [0,3,4,52] (.sg 1 [0,3,4,53] (.mm 53 (((x.Port == 0) && (decide (x.Field ≥ 0))) && (decide (x.Field < 12))) 7 [.pure, .pure, .pure, .read, .pure, .read, .pure] [0, 3, 60] 60 (fun z => .sc (.bool (z && (z45 x.Value (sizeT x.Field))))) ?J159 (fun hb J => ?ht159) (fun hb J => ?hf159)))))))
    case ht159 =>
     exact .sg 4 [0,3,53,55,57] (.cp [0,3,53,55,58] (z46_ok x.Field) (.cp [0,3,53,59] (z45_calls x.Value (sizeT x.Field)) (.sg 1 [0,3,60] (.cl J))))
    case hf159 =>
     exact .sg 7 [0,3,60] (.cl J)
    exact .sg 1 [0,3,5] (.dn (.sg 0 [0,3,5] (.cl J)))
   case hf156 =>
    refine .sg 2 [0,3,4,5,61] (.jn (x.Kind == 3) [0, 3, 5] (fun z => [(5, .sc (.bool (z && (((x.Port == 0) && (x.Field == 0)) && (x.Value == 0)))))]) ?J162 (fun hb J => ?ht162) (fun hb J => ?hf162))
    case ht162 =>
     exact .rg (.sg 4 [0,3,4,66] (.mx 0 [0,3,4,70] (.sg 1 [0,3,4,71] (.mx 0 [0,3,75] (.sg 1 [0,3,5] (.dn (.sg 0 [0,3,5] (.cl J))))))))
    case hf162 =>
     exact .sg 1 [0,3,5] (.cl J)
    exact .sg 0 [0,3,5] (.cl J)
   exact .sg 0 [0,3,5] (.cl J)
  refine .sg 3 [0,3,77] (.cd (!(bif (x.Kind == 1) then ((((decide (x.Port ≥ 1)) && (decide (x.Port ≤ 16))) && (x.Field == 0)) && (x.Value == 0)) else (bif (x.Kind == 2) then ((((x.Port == 0) && (decide (x.Field ≥ 0))) && (decide (x.Field < 12))) && (z45 x.Value (sizeT x.Field))) else ((x.Kind == 3) && (((x.Port == 0) && (x.Field == 0)) && (x.Value == 0)))))) H (fun hb H => ?_) (fun hb H => ?_))
  ·
   refine .sg 2 [2] ?_
   subst H
   obtain rfl := Jr _ rfl
   exact .ret Try.func27 hc0
  ·
   exact .sg 3 [0,3] (.tl hc0 [] [0,3] (.into (.cl (ih (i + 1) _ hw hd2 H))))
def z27 (l : List Act) : Bool :=
 sumG (fun q => q) (z27_l0s l) fun v =>
 (decide ((((List.map Act.av l).length : Nat) : Int) ≤ 8))
theorem z27_calls (l : List Act) (f_l : Bool) : ACalls Try.prog tab.S 27 [.sl 99 (List.map Act.av l) f_l] [] (.sc (.bool (z27 l))) [] := by
 generalize H : z27 l = r
 refine .of_AX z27_F Try.func27 fun c0 hc0 => ?_
 rw [z27] at H
 refine .sg 6 [0,3] ?_
 rcases sumG_eq H with ⟨v, hv, H⟩ | ⟨r1, hv, hr1⟩
 case inr =>
  refine .into ?_
  replace hr1 : r1 = r := hr1
  subst hr1
  exact .to (z27_l0_walk l f_l _ c0 hc0 (.inr _) (fun _ e => by cases e) (fun _ e => (Sum.inr.inj e).symm) l 0 _ rfl rfl hv)
 refine .into (.to (z27_l0_walk l f_l r c0 hc0 (.inl v) (fun w e => ?_) (fun _ e => by cases e) l 0 _ rfl rfl hv))
 have e := Sum.inl.inj e
 subst e
 refine .sg 2 [2] ?_
 subst H
 exact .ret Try.func27 hc0
noncomputable def z10_F : Go.Sh.Fn := ⟨10, bodyOf Try.f10, 27⟩
def z10_raw (s : ByteArray) : Option (Node × Bool) :=
 (z20_raw 20000 s).bind fun x =>
 (bif ((decide (((s.size : Nat) : Int) > 4000)) || (x.2.E != 0)) then
  some (x.1, false)
 else
  (z21_raw 20000 20000 x.1).bind fun x1 =>
  (bif (x1.E != 0) then
   some (x.1, false)
  else
   some (x.1, true)))
theorem z10_walk (s : ByteArray) (r : Node × Bool) (H : z10_raw s = some r) : ACalls Try.prog tab.S 10 [.sc (.string s)] [] (.tup [Node.ag r.1, .sc (.bool r.2)]) [] := by
 refine .of_AX z10_F Try.func10 fun c0 hc0 => ?_
 rw [z10_raw] at H
 refine .sg 3 [0,2] (.rg (.sg 1 [0,2,7] (bndO H fun x hv H => (.cp [0,2,8] ((z20_walk 20000) _ x hv) (.sg 7 [0,2,4,5] (.dn (.sg 2 [0,2,4,5] (.rg (.sg 4 [2,4,5,14] (.mx 1 [2,4,18] (.sg 1 [2,4,19] (.sp 19 ((decide (((s.size : Nat) : Int) > 4000)) || (x.2.E != 0)) H (fun hb H => ?_) (fun hb H => ?_)))))))))))))
 ·
  refine .sg 5 [2,4,24] (.dn (.sg 3 [2,3] ?_))
  obtain rfl := Option.some.inj H
  exact .ret Try.func10 hc0
 ·
  refine .sg 1 [2,4,19,20] (bndO H fun x1 hv H => (.cp [2,4,19,21] ((z21_walk 20000 20000) _ x1 hv) (.fd [2,4,19,22] (.sg 2 [2,4,24] (.dn (.cd (x1.E != 0) H (fun hb H => ?_) (fun hb H => ?_)))))))
  ·
   refine .sg 2 [2,3] ?_
   obtain rfl := Option.some.inj H
   exact .ret Try.func10 hc0
  ·
   refine .sg 3 [2,3] ?_
   obtain rfl := Option.some.inj H
   exact .ret Try.func10 hc0
noncomputable def z12_F : Go.Sh.Fn := ⟨12, bodyOf Try.f12, 30⟩
def z12_l0 (l : List Int) : Nat → Int → List Var → Option ((List Var))
 | 0, _, _ => none
 | m + 1, i, v1 =>
  (bif ((decide (i < (((List.map Var.av v1).length : Nat) : Int))) && (decide (i < (((List.map (intA .i64) l).length : Nat) : Int)))) then
  (ixO l i).bind fun x =>
  (ixO v1 i).bind fun x1 =>
  z12_l0 l m (IntKind.i64.wrap (i + 1)) (v1.set i.toNat ({ Name := x1.Name, N := x } : Var))
 else
  some v1)
theorem z12_l0_walk (q0 : Nat) (n : Node) (l : List Int) (v : (List Var)) (f_l : Bool) (r : (List Var)) (c0 : Ctx) (hc0 : c0.m.length = 0) (res : (List Var)) (J : AX Try.prog tab z12_F c0 (Rp tab.S c0 (.own 0 1000000) [.row 60 (List.map Var.av r) 1000000 true]) (some ⟨[.code [1, 1, 1]], [(5, .own 1 1000000)], [.box 30 (Node.ch n), .row 60 (List.map Var.av res) 1000000 true]⟩)) :
  ∀ (m : Nat) (i : Int) (v1 : List Var) (H : z12_l0 l m i v1 = some res), AX Try.prog tab z12_F c0 (Rp tab.S c0 (.own 0 1000000) [.row 60 (List.map Var.av r) 1000000 true]) (some ⟨[.code [1, 1, 0, 1, 0, 0], .loop [1, 1, 0, 1, 0], .blk 0, .code [1, 1, 1]], [(1, .sl 3 (List.map (intA .i64) l) f_l), (5, .own 1 1000000), (6, .sc (.int .i64 i))], [.box 30 (Node.ch n), .row 60 (List.map Var.av v1) 1000000 true]⟩) := by
 intro m
 induction m with
 | zero => intro i v1 H; cases H
 | succ m ih =>
  intro i v1 H
  rw [z12_l0] at H
  refine .sg 2 [1,5,6] (.rg (.sg 5 [1,5,6,13] (.mx 0 [1,5,6,18] (.dn (.cd ((decide (i < (((List.map Var.av v1).length : Nat) : Int))) && (decide (i < (((List.map (intA .i64) l).length : Nat) : Int)))) H (fun hb H => ?_) (fun hb H => ?_))))))
  ·
   exact .sg 3 [1,5,6] (.rg (.sg 4 [1,5,6,21,22,23,24] (bndO H fun x hv H => (.xi [1,5,6,21,22,25] (intA .i64) hv (.sg 1 [1,5,6,21,22,26] (bndO H fun x1 hv_x1 H => (.xo [1,5,6,26,27] (ixO_req hv_x1 Var.av) (.sg 1 [1,5,6,26,28] (.st [1,5,6] Var.av ({ Name := x1.Name, N := x } : Var) (ixO_map hv_x1 Var.av).2 (.dn (.sg 2 [1,5,6] (.kp [1,5,6] (.into (.to (ih (IntKind.i64.wrap (i + 1)) (v1.set i.toNat ({ Name := x1.Name, N := x } : Var)) H)))))))))))))))
  ·
   refine .sg 1 [5] (.kp [5] ?_)
   obtain rfl := Option.some.inj H
   exact .to J
def z12_raw (q0 : Nat) (n : Node) (l : List Int) : Option ((List Var)) :=
 (z18_raw n).bind fun v =>
 (z12_l0 l q0 0 v).bind fun v2 =>
 some v2
theorem z12_walk (q0 : Nat) (n : Node) (l : List Int) (f_l : Bool) (r : (List Var)) (H : z12_raw q0 n l = some r) : ACalls Try.prog tab.S 12 [Node.ag n, .sl 3 (List.map (intA .i64) l) f_l] [] (.own 0 1000000) [.row 60 (List.map Var.av r) 1000000 true] := by
 refine .of_AX z12_F Try.func12 fun c0 hc0 => ?_
 rw [z12_raw] at H
 refine .sg 3 [1,2] (.rg (.sg 1 [1,7] (bndO H fun v hv H => (.ch [1,8] [] (z18_walk _ v hv) (.sg 1 [1,5] (.dn (.sg 4 [1,5,6] ?_)))))))
 refine bndO H fun v2 hv H => (.into (.to (z12_l0_walk q0 n l v f_l r c0 hc0 v2 ?_ q0 0 v hv)))
 refine .sg 2 [4] ?_
 obtain rfl := Option.some.inj H
 exact .ret Try.func12 hc0 [1]
end Go.Proofs.Yteioljlgcagnnaa
namespace Go.Proofs.Yteioljlgcagnnaa
open Go.Sh
theorem ref_Field_l0s (name : ByteArray) : ∀ (L : List ByteArray) (i : Nat), (∀ (j : Nat) (x : ByteArray), L[j]? = some x → z77_raw ((i + j : Nat) : Int) = some x) →
  z57_l0s name L.length i = some (match L.findIdx? (· == name) with | some k => .inr (((i + k : Nat) : Int), true) | none => .inl ())
 | [], i, _ => rfl
 | y :: L, i, h => by
  have h0 := h 0 y rfl
  rw [Nat.add_zero] at h0
  rw [List.length_cons, z57_l0s, h0, List.findIdx?_cons, ref_Field_l0s name L (i + 1) (fun j x hx => by rw [show i + 1 + j = i + (j + 1) by omega]; exact h (j + 1) x (by simpa using hx))]
  show (bif y == name then _ else _) = _
  cases hy : (y == name)
  ·simp only [cond_false, Bool.false_eq_true, if_false]
   cases L.findIdx? (· == name) with
   | none => rfl
   | some k => simp only [Option.map_some]; rw [show i + 1 + k = i + (k + 1) by omega]
  ·simp
theorem ref_Field_eq (name : ByteArray) : z57_raw name = some (z91 name) := by
 have hn : ∀ (j : Nat) (x : ByteArray), (z99.map (·.name))[j]? = some x → z77_raw ((0 + j : Nat) : Int) = some x := by
  intro j x h
  have hj : j < 12 := by
   have := (List.getElem?_eq_some_iff.1 h).1
   simpa [z99] using this
  rw [Nat.zero_add]
  match j, hj with
  | 0, _ | 1, _ | 2, _ | 3, _ | 4, _ | 5, _ | 6, _ | 7, _ | 8, _ | 9, _ | 10, _ | 11, _ => injection h with h; subst h; rfl
 have h := ref_Field_l0s name (z99.map (·.name)) 0 hn
 have hl : (z99.map (·.name)).length = 12 := rfl
 rw [hl] at h
 rw [z57_raw, h, z91, z100_idx]
 have hf : (fun y0 => z101 y0 name) = ((fun x => x == name) ∘ fun f : Field => f.name) := rfl
 rw [hf, List.findIdx?_map]
 unfold idxF loopO
 cases z99.findIdx? ((fun x => x == name) ∘ fun f : Field => f.name) with
 | none => simp
 | some k =>
  simp only [Nat.zero_add]
  rw [if_neg (by omega), decide_eq_true (show ((k : Nat) : Int) ≥ 0 by omega)]
def knownB (on name : ByteArray) : Bool :=
 ((on == (ByteArray.mk #[112, 97, 99, 107, 101, 116])) && (((z91 name).2 || (name == (ByteArray.mk #[117, 110, 105, 116]))) || (name == (ByteArray.mk #[112, 111, 114, 116])))) || ((on == (ByteArray.mk #[114, 101, 109, 111, 118, 101, 100])) && (name == (ByteArray.mk #[117, 110, 105, 116])))
theorem Known_eq (on name : ByteArray) : z37_raw on name = some (knownB on name) := by
 rw [z37_raw, ref_Field_eq]
 rfl
def okN (vars : List ByteArray) (on s : ByteArray) : Prop := z36 vars s = true ∨ knownB on s = true
def okE (vars : List ByteArray) (on : ByteArray) : Nat → Node → Prop
 | 0, _ => False
 | q + 1, n => (n.Kind = 18 ∧ n.Kids = []) ∨ (n.Kind = 19 ∧ n.Kids = [] ∧ okN vars on n.Text) ∨ (n.Kind = 20 ∧ ∃ a b, n.Kids = [a, b] ∧ okE vars on q a ∧ okE vars on q b) ∨ (n.Kind = 21 ∧ ∃ a, n.Kids = [a] ∧ okE vars on q a ∧ (n.Text = (ByteArray.mk #[45]) ∨ n.Text = (ByteArray.mk #[33])))
def okM (vars : List ByteArray) (on : ByteArray) (d : Nat) (n : Node) : Prop := n.Kids.length ≤ 16385 ∧ ∀ x ∈ n.Kids, ∃ a, x.Kids = [a] ∧ okE vars on d a ∧ -1 ≤ x.Num ∧ x.Num ≤ sizeT (z91 x.Text).1
def okA (vars : List ByteArray) (on : ByteArray) (d : Nat) (n : Node) : Prop := n.Kids.length ≤ 8 ∧ ∀ x ∈ n.Kids, (x.Kind = 15 ∨ x.Kind = 16 ∨ x.Kind = 17) ∧ ((x.Kind = 15 ∨ x.Kind = 16) → ∃ a, x.Kids = [a] ∧ okE vars on d a)
def okS (vars : List ByteArray) (on : ByteArray) (d : Nat) : Nat → Node → Prop
 | 0, _ => False
 | q + 1, n =>
  (n.Kind = 7 ∧ ∀ k ∈ n.Kids, okS vars on d q k) ∨
  (n.Kind = 4 ∧ ∃ a, n.Kids = [a] ∧ okE vars on d a) ∨
  (n.Kind = 5 ∧ ∃ a b l, n.Kids = a :: b :: l ∧ okE vars on d a ∧ (∀ k ∈ b.Kids, okS vars on d q k) ∧ (l = [] ∨ ∃ c, l = [c] ∧ ∀ k ∈ c.Kids, okS vars on d q k)) ∨
  (n.Kind = 6 ∧ ∃ a b, n.Kids = [a, b] ∧ okE vars on d a ∧ ∀ k ∈ b.Kids, okS vars on d q k) ∨
  (n.Kind = 8 ∧ ∃ u m p i h a, n.Kids = [u, m, p, i, h, a] ∧ okE vars on d u ∧ okM vars on d m ∧ okE vars on d p ∧ okE vars on d i ∧ okE vars on d h ∧ okA vars on d a) ∨
  (n.Kind = 9 ∧ ∃ u m l, n.Kids = u :: m :: l ∧ okE vars on d u ∧ okM vars on d m ∧ ((n.Num ≠ 1 ∧ l = []) ∨ (n.Num = 1 ∧ ∃ p, l = [p] ∧ okE vars on d p))) ∨
  (n.Kind = 10 ∧ ∃ u m l a, n.Kids = u :: m :: (l ++ [a]) ∧ okE vars on d u ∧ okM vars on d m ∧ okA vars on d a ∧ ((n.Num ≠ 1 ∧ l = []) ∨ (n.Num = 1 ∧ ∃ p, l = [p] ∧ okE vars on d p))) ∨
  (n.Kind = 11 ∧ n.Kids = [])
def CK (P : Prop) (o : Option Fault) : Prop := ∃ f, o = some f ∧ (f.E = 0 → P)
theorem CK.imp {P Q : Prop} {o : Option Fault} (h : CK P o) (i : P → Q) : CK Q o := by
 obtain ⟨f, e, hf⟩ := h
 exact ⟨f, e, fun z => i (hf z)⟩
theorem all_l0s_ck (g : Node → (List ByteArray) → ByteArray → Option Fault) (vars : List ByteArray) (on : ByteArray) (P : Node → Prop) : ∀ l : List Node, (∀ k ∈ l, CK (P k) (g k vars on)) → CK (∀ k ∈ l, P k) (loopO (z38_l0s g vars on l) fun _ => some ({ E := 0, At := 0 } : Fault))
 | [], _ => ⟨_, rfl, fun _ k hk => by cases hk⟩
 | x :: rest, h => by
  obtain ⟨f, e, hf⟩ := h x List.mem_cons_self
  rw [z38_l0s, e, Option.bind_some]
  cases hz : f.E != 0 with
  | true => exact ⟨f, rfl, fun z => by rw [z] at hz; cases hz⟩
  | false =>
   have hz : f.E = 0 := by simpa using hz
   refine (all_l0s_ck g vars on P rest fun k hk => h k (List.mem_cons_of_mem _ hk)).imp fun hr k hk => ?_
   rcases List.mem_cons.1 hk with rfl | hk
   ·exact hf hz
   ·exact hr k hk
theorem all_ck {vars : List ByteArray} {on : ByteArray} {P : Node → Prop} {q : Nat} {l : List Node} (h : ∀ k ∈ l, CK (P k) ((ckG q).2 k vars on)) : CK (∀ k ∈ l, P k) ((ckG (q + 1)).1 l vars on) := all_l0s_ck _ vars on P l h
theorem ckG_node (q : Nat) (n : Node) (vars : List ByteArray) (on : ByteArray) : (ckG (q + 1)).2 n vars on = z58_raw 20000 20000 (ckG q).1 (ckG q).2 n vars on := rfl
theorem bind_some_self {α : Type} (o : Option α) : (o.bind fun x => some x) = o := by cases o <;> rfl
theorem node_plain {q : Nat} {n : Node} {vars : List ByteArray} {on : ByteArray} (h : n.Kind = 18 ∨ n.Kind = 20 ∨ n.Kind = 21 ∨ n.Kind = 7 ∨ n.Kind = 5 ∨ n.Kind = 6 ∨ n.Kind = 8 ∨ n.Kind = 9 ∨ n.Kind = 10 ∨ n.Kind = 11 ∨ n.Kind = 15 ∨ n.Kind = 17) : (ckG (q + 1)).2 n vars on = (ckG q).1 n.Kids vars on := by
 rw [ckG_node, z58_raw, ref_Field_eq, Option.bind_some]
 simp only [bind_some_self]
 rcases h with h | h | h | h | h | h | h | h | h | h | h | h <;> rw [h] <;> rfl
theorem node_set {q : Nat} {n : Node} {vars : List ByteArray} {on : ByteArray} (h : n.Kind = 4) : (ckG (q + 1)).2 n vars on = bif (!(z36 vars n.Text)) then some ({ E := 14, At := n.At } : Fault) else (ckG q).1 n.Kids vars on := by
 rw [ckG_node, z58_raw, ref_Field_eq, Option.bind_some]
 simp only [bind_some_self]
 rw [h]
 rfl
theorem node_name {q : Nat} {n : Node} {vars : List ByteArray} {on : ByteArray} (h : n.Kind = 19) : (ckG (q + 1)).2 n vars on = bif (!(z36 vars n.Text)) && !(knownB on n.Text) then some ({ E := 14, At := n.At } : Fault) else (ckG q).1 n.Kids vars on := by
 rw [ckG_node, z58_raw, ref_Field_eq, Option.bind_some, Known_eq, Option.bind_some]
 simp only [bind_some_self]
 rw [h]
 cases z36 vars n.Text <;> cases knownB on n.Text <;> rfl
theorem node_field {q : Nat} {n : Node} {vars : List ByteArray} {on : ByteArray} (h : n.Kind = 13) : (ckG (q + 1)).2 n vars on = bif (!(z91 n.Text).2) then some ({ E := 14, At := n.At } : Fault) else bif (decide (n.Num > (sizeT (z91 n.Text).1))) then some ({ E := 13, At := n.At } : Fault) else (ckG q).1 n.Kids vars on := by
 rw [ckG_node, z58_raw, ref_Field_eq, Option.bind_some]
 simp only [bind_some_self]
 rw [h]
 rfl
theorem node_let {q : Nat} {n : Node} {vars : List ByteArray} {on : ByteArray} (h : n.Kind = 16) : (ckG (q + 1)).2 n vars on = bif (!(z91 n.Text).2) then some ({ E := 14, At := n.At } : Fault) else (ckG q).1 n.Kids vars on := by
 rw [ckG_node, z58_raw, ref_Field_eq, Option.bind_some]
 simp only [bind_some_self]
 rw [h]
 rfl
theorem node_acts {q : Nat} {n : Node} {vars : List ByteArray} {on : ByteArray} (h : n.Kind = 14) : (ckG (q + 1)).2 n vars on = bif (decide (((n.Kids.length : Nat) : Int) > 8)) then some ({ E := 3, At := n.At } : Fault) else (ckG q).1 n.Kids vars on := by
 rw [ckG_node, z58_raw, ref_Field_eq, Option.bind_some]
 simp only [bind_some_self, List.length_map]
 rw [h]
 rfl
theorem node_match {q : Nat} {n : Node} {vars : List ByteArray} {on : ByteArray} (h : n.Kind = 12) : (ckG (q + 1)).2 n vars on = loopO (z58_l0 20000 (ckG q).1 (ckG q).2 n vars on 20000 0) fun _ => some ({ E := 0, At := 0 } : Fault) := by
 rw [ckG_node, z58_raw, ref_Field_eq, Option.bind_some]
 simp only [bind_some_self]
 rw [h]
 rfl
theorem ckE_tot (vars : List ByteArray) (on : ByteArray) : ∀ (d : Nat) (n : Node), wfE d n → ∀ q : Nat, 2 * d ≤ q → CK (okE vars on d n) ((ckG q).2 n vars on)
 | 0, _, h, _, _ => h.elim
 | d + 1, n, h, q, hq => by
  obtain ⟨q, rfl⟩ : ∃ p, q = p + 2 := ⟨q - 2, by omega⟩
  have ih := fun k hk => ckE_tot vars on d k hk q (by omega)
  rcases h with ⟨h, hl⟩ | ⟨h, hl⟩ | ⟨h, a, b, hk, wa, wb⟩ | ⟨h, a, hk, wa, ht⟩
  ·rw [node_plain (.inl h), hl]
   exact (all_ck (P := fun _ => True) fun k hk => by cases hk).imp fun _ => .inl ⟨h, hl⟩
  ·rw [node_name h, hl]
   cases hn : (!(z36 vars n.Text)) && !(knownB on n.Text) with
   | true => exact ⟨_, rfl, fun z => absurd z (show (14 : Int) ≠ 0 by decide)⟩
   | false =>
    rw [cond_false]
    refine (all_ck (P := fun _ => True) fun k hk => by cases hk).imp fun _ => .inr (.inl ⟨h, hl, ?_⟩)
    rw [Bool.and_eq_false_iff] at hn
    rcases hn with hn | hn
    ·exact .inl (by simpa using hn)
    ·exact .inr (by simpa using hn)
  ·rw [node_plain (.inr (.inl h)), hk]
   refine (all_ck (P := fun k => okE vars on d k) fun k hk => ?_).imp fun hr => .inr (.inr (.inl ⟨h, a, b, hk, hr a (by simp), hr b (by simp)⟩))
   rcases List.mem_cons.1 hk with rfl | hk
   ·exact ih _ wa
   ·rw [List.mem_singleton.1 hk]; exact ih _ wb
  ·rw [node_plain (.inr (.inr (.inl h))), hk]
   refine (all_ck (P := fun k => okE vars on d k) fun k hk => ?_).imp fun hr => .inr (.inr (.inr ⟨h, a, hk, hr a (by simp), ht⟩))
   rw [List.mem_singleton.1 hk]; exact ih _ wa
theorem ixO_get {α : Type} {l : List α} {i : Nat} (h : i < l.length) : ixO l ((i : Nat) : Int) = some l[i] := by
 unfold ixO
 rw [if_pos (by omega), Int.toNat_natCast, List.getElem?_eq_getElem h]
theorem node_l1_tot (n : Node) (i : Nat) (hi : i < n.Kids.length) (hlen : n.Kids.length ≤ 16385) : ∀ (m j : Nat) (e a : Int), i < m + j → j ≤ i → ∃ e' a', z58_l1 n ((i : Nat) : Int) m ((j : Nat) : Int) e a = some (e', a') ∧ (e' = 0 → e = 0)
 | 0, j, e, a, h, hj => by omega
 | m + 1, j, e, a, h, hj => by
  rw [z58_l1]
  cases hc : (decide (((j : Nat) : Int) < ((i : Nat) : Int))) && (e == 0) with
  | false => exact ⟨e, a, rfl, id⟩
  | true =>
   rw [Bool.and_eq_true, decide_eq_true_eq, beq_iff_eq] at hc
   rw [cond_true, ixO_get (by omega : j < n.Kids.length), ixO_get hi, Option.bind_some, Option.bind_some, wrapI_succ (by omega)]
   cases (n.Kids[j].Text == n.Kids[i].Text) with
   | true =>
    rw [cond_true, Option.bind_some]
    obtain ⟨e', a', he, hz⟩ := node_l1_tot n i hi hlen m (j + 1) 5 n.Kids[i].At (by omega) (by omega)
    exact ⟨e', a', he, fun z => absurd (hz z) (by decide)⟩
   | false =>
    obtain ⟨e', a', he, hz⟩ := node_l1_tot n i hi hlen m (j + 1) e a (by omega) (by omega)
    exact ⟨e', a', he, hz⟩
theorem node_l0_tot (vars : List ByteArray) (on : ByteArray) (d q : Nat) (hq : 2 * d + 1 ≤ q) (n : Node) (hn : wfM d n) (h1 : 2 ≤ q) : ∀ (m i : Nat), n.Kids.length < m + i → i ≤ n.Kids.length →
  CK (∀ j, i ≤ j → ∀ x, n.Kids[j]? = some x → ∃ a, x.Kids = [a] ∧ okE vars on d a ∧ -1 ≤ x.Num ∧ x.Num ≤ sizeT (z91 x.Text).1) (loopO (z58_l0 20000 (ckG q).1 (ckG q).2 n vars on m ((i : Nat) : Int)) fun _ => some ({ E := 0, At := 0 } : Fault))
 | 0, i, h, hi => by omega
 | m + 1, i, h, hi => by
  have hlen := hn.2.1
  rw [z58_l0, List.length_map]
  by_cases hl : i < n.Kids.length
  ·obtain ⟨a, hka, wa, k13, hnum⟩ := hn.2.2 n.Kids[i] (List.getElem_mem hl)
   rw [decide_eq_true (show ((i : Nat) : Int) < ((n.Kids.length : Nat) : Int) by omega), cond_true, ixO_get hl, Option.bind_some, Option.bind_some, Option.bind_some]
   obtain ⟨q, rfl⟩ : ∃ p, q = p + 2 := ⟨q - 2, by omega⟩
   rw [node_field rfl]
   dsimp only
   have kid : ∀ (f : Fault), CK ((z91 n.Kids[i].Text).2 = true ∧ n.Kids[i].Num ≤ sizeT (z91 n.Kids[i].Text).1) (some f) → CK (∀ j, i ≤ j → ∀ x, n.Kids[j]? = some x → ∃ a, x.Kids = [a] ∧ okE vars on d a ∧ -1 ≤ x.Num ∧ x.Num ≤ sizeT (z91 x.Text).1) (loopO ((some f).bind fun x10 =>
  (z58_l1 n ((i : Nat) : Int) 20000 0 x10.E x10.At).bind fun v =>
  (bif (v.1 == 0) then
   ((some n.Kids[i]).bind fun x11 =>
   ((ckG (q + 2)).1 x11.Kids vars on).bind fun x12 =>
   (bif (x12.E != 0) then
    some (.inr x12)
   else
    z58_l0 20000 (ckG (q + 2)).1 (ckG (q + 2)).2 n vars on m (IntKind.i64.wrap (((i : Nat) : Int) + 1))))
  else
   (bif (v.1 != 0) then
    some (.inr ({ E := v.1, At := v.2 } : Fault))
   else
    z58_l0 20000 (ckG (q + 2)).1 (ckG (q + 2)).2 n vars on m (IntKind.i64.wrap (((i : Nat) : Int) + 1))))) fun _ => some ({ E := 0, At := 0 } : Fault)) := by
    intro f hf
    obtain ⟨f', ef, hf⟩ := hf
    injection ef with ef
    subst ef
    obtain ⟨e', a', el, hz⟩ := node_l1_tot n i hl hlen 20000 0 f.E f.At (by omega) (by omega)
    have el : z58_l1 n ((i : Nat) : Int) 20000 0 f.E f.At = some (e', a') := el
    rw [Option.bind_some, el, Option.bind_some]
    dsimp only
    cases he : e' == 0 with
    | false =>
     have : (e' != 0) = true := by rw [bne, he]; rfl
     rw [cond_false, this]
     exact ⟨_, rfl, fun z => by rw [show e' = 0 from z] at he; cases he⟩
    | true =>
     have he : e' = 0 := by simpa using he
     obtain ⟨f1, e1, g1⟩ := all_ck (q := q + 1) (vars := vars) (on := on) (l := [a]) (P := fun k => okE vars on d k) fun k hk => by
      rw [List.mem_singleton.1 hk]
      exact ckE_tot vars on d a wa (q + 1) (by omega)
     rw [cond_true, Option.bind_some, hka, e1, Option.bind_some]
     cases hz1 : f1.E != 0 with
     | true => exact ⟨f1, rfl, fun z => by rw [z] at hz1; cases hz1⟩
     | false =>
      have hz1 : f1.E = 0 := by simpa using hz1
      rw [cond_false, wrapI_succ (by omega)]
      refine (node_l0_tot vars on d (q + 2) hq n hn h1 m (i + 1) (by omega) (by omega)).imp fun hr j hj x hx => ?_
      rcases Nat.eq_or_lt_of_le hj with rfl | hj
      ·rw [List.getElem?_eq_getElem hl] at hx
       injection hx with hx
       subst hx
       exact ⟨a, hka, g1 hz1 a (by simp), hnum, (hf (hz he)).2⟩
      ·exact hr j hj x hx
   cases hf : (z91 n.Kids[i].Text).2 with
   | false => exact kid ({ E := 14, At := n.Kids[i].At } : Fault) ⟨_, rfl, fun z => absurd z (show (14 : Int) ≠ 0 by decide)⟩
   | true =>
    rw [Bool.not_true, cond_false]
    cases hs : decide (n.Kids[i].Num > sizeT (z91 n.Kids[i].Text).1) with
    | true => exact kid ({ E := 13, At := n.Kids[i].At } : Fault) ⟨_, rfl, fun z => absurd z (show (13 : Int) ≠ 0 by decide)⟩
    | false =>
     rw [decide_eq_false_iff_not] at hs
     exact kid ({ E := 0, At := 0 } : Fault) ⟨_, rfl, fun _ => ⟨hf, by omega⟩⟩
  ·rw [decide_eq_false (show ¬ ((i : Nat) : Int) < ((n.Kids.length : Nat) : Int) by omega)]
   refine ⟨_, rfl, fun _ j hj x hx => ?_⟩
   have := (List.getElem?_eq_some_iff.1 hx).1
   omega
end Go.Proofs.Yteioljlgcagnnaa
namespace Go.Proofs.Yteioljlgcagnnaa
open Go.Sh
def Zer (o : Option Fault) : Prop := ∃ f, o = some f ∧ f.E = 0
theorem CK.self {P : Prop} {o : Option Fault} (h : CK P o) : CK (Zer o) o := by
 obtain ⟨f, e, _⟩ := h
 exact ⟨f, e, fun z => ⟨f, e, z⟩⟩
theorem CK.get {P : Prop} {o : Option Fault} (h : CK P o) (z : Zer o) : P := by
 obtain ⟨f, e, hf⟩ := h
 obtain ⟨f', e', z⟩ := z
 rw [e] at e'
 injection e' with e'
 subst e'
 exact hf z
theorem allz {vars : List ByteArray} {on : ByteArray} {q : Nat} {l : List Node} (h : ∀ k ∈ l, CK (Zer ((ckG q).2 k vars on)) ((ckG q).2 k vars on)) : CK (∀ k ∈ l, Zer ((ckG q).2 k vars on)) ((ckG (q + 1)).1 l vars on) := all_ck h
theorem ckM_tot (vars : List ByteArray) (on : ByteArray) (d q : Nat) (hq : 2 * d + 4 ≤ q) (n : Node) (h : wfM d n) : CK (okM vars on d n) ((ckG q).2 n vars on) := by
 obtain ⟨q, rfl⟩ : ∃ p, q = p + 1 := ⟨q - 1, by omega⟩
 rw [node_match h.1]
 have hl := h.2.1
 refine (node_l0_tot vars on d q (by omega) n h (by omega) 20000 0 (by omega) (Nat.zero_le _)).imp fun hr => ⟨hl, fun x hx => ?_⟩
 obtain ⟨j, hj, rfl⟩ := List.getElem_of_mem hx
 exact hr j (Nat.zero_le _) _ (List.getElem?_eq_getElem hj)
theorem ckA_tot (vars : List ByteArray) (on : ByteArray) (d q : Nat) (hq : 2 * d + 4 ≤ q) (n : Node) (h : wfA d n) : CK (okA vars on d n) ((ckG q).2 n vars on) := by
 obtain ⟨q, rfl⟩ : ∃ p, q = p + 4 := ⟨q - 4, by omega⟩
 rw [node_acts h.1]
 cases hl : decide (((n.Kids.length : Nat) : Int) > 8) with
 | true => exact ⟨_, rfl, fun z => absurd z (show (3 : Int) ≠ 0 by decide)⟩
 | false =>
  rw [decide_eq_false_iff_not] at hl
  rw [cond_false]
  refine (all_ck (P := fun x => (x.Kind = 15 ∨ x.Kind = 16 ∨ x.Kind = 17) ∧ ((x.Kind = 15 ∨ x.Kind = 16) → ∃ a, x.Kids = [a] ∧ okE vars on d a)) fun k hk => ?_).imp fun hr => ⟨by omega, hr⟩
  obtain ⟨h1, h2, h3⟩ := h.2.2 k hk
  have one : (k.Kind = 15 ∨ k.Kind = 16) → CK (∃ a, k.Kids = [a] ∧ okE vars on d a) ((ckG (q + 1)).1 k.Kids vars on) := fun hk => by
   obtain ⟨a, ha, wa⟩ := h2 hk
   rw [ha]
   refine (all_ck (P := okE vars on d) fun k hk => ?_).imp fun hr => ⟨a, rfl, hr a (by simp)⟩
   rw [List.mem_singleton.1 hk]
   exact ckE_tot vars on d a wa q (by omega)
  rcases h1 with h | h | h
  ·rw [node_plain (.inr (.inr (.inr (.inr (.inr (.inr (.inr (.inr (.inr (.inr (.inl h)))))))))))]
   exact (one (.inl h)).imp fun hr => ⟨.inl h, fun _ => hr⟩
  ·rw [node_let h]
   cases hf : !(z91 k.Text).2 with
   | true => exact ⟨_, rfl, fun z => absurd z (show (14 : Int) ≠ 0 by decide)⟩
   | false => exact (one (.inr h)).imp fun hr => ⟨.inr (.inl h), fun _ => hr⟩
  ·rw [node_plain (.inr (.inr (.inr (.inr (.inr (.inr (.inr (.inr (.inr (.inr (.inr h))))))))))), h3 h]
   exact (all_ck (P := fun _ => True) fun k hk => by cases hk).imp fun _ => ⟨.inr (.inr h), fun hk => by rw [h] at hk; rcases hk with hk | hk <;> cases hk⟩
theorem ckS_tot (vars : List ByteArray) (on : ByteArray) (d : Nat) : ∀ (r : Nat) (n : Node), wfS d r n → ∀ q : Nat, 2 * d + 4 * r + 4 ≤ q → CK (okS vars on d r n) ((ckG q).2 n vars on)
 | 0, _, h, _, _ => h.elim
 | r + 1, n, h, q, hq => by
  obtain ⟨q, rfl⟩ : ∃ p, q = p + 4 := ⟨q - 4, by omega⟩
  have kids : ∀ (p : Nat) (b : Node), 2 * d + 4 * r + 4 ≤ p → (∀ k ∈ b.Kids, wfS d r k) → CK (∀ k ∈ b.Kids, okS vars on d r k) ((ckG (p + 1)).1 b.Kids vars on) := fun p b hp hb => all_ck fun k hk => ckS_tot vars on d r k (hb k hk) p hp
  have blk : ∀ b : Node, b.Kind = 7 ∧ (∀ k ∈ b.Kids, wfS d r k) → CK (∀ k ∈ b.Kids, okS vars on d r k) ((ckG (q + 2)).2 b vars on) := fun b hb => by
   rw [node_plain (.inr (.inr (.inr (.inl hb.1))))]
   exact kids q b (by omega) hb.2
  have ce : ∀ a, wfE d a → CK (okE vars on d a) ((ckG (q + 2)).2 a vars on) := fun a wa => ckE_tot vars on d a wa (q + 2) (by omega)
  have cm : ∀ a, wfM d a → CK (okM vars on d a) ((ckG (q + 2)).2 a vars on) := fun a wa => ckM_tot vars on d (q + 2) (by omega) a wa
  have ca : ∀ a, wfA d a → CK (okA vars on d a) ((ckG (q + 2)).2 a vars on) := fun a wa => ckA_tot vars on d (q + 2) (by omega) a wa
  rcases h with ⟨h, hl⟩ | ⟨h, a, hk, wa⟩ | ⟨h, a, b, l, hk, wa, hb, hc⟩ | ⟨h, a, b, hk, wa, hb⟩ | ⟨h, u, m, p, i, t, a, hk, wu, wm, wp, wi, wt, wa⟩ | ⟨h, u, m, l, hk, wu, wm, hl⟩ | ⟨h, u, m, l, a, hk, wu, wm, wa, hl⟩ | ⟨h, hk⟩
  ·rw [node_plain (.inr (.inr (.inr (.inl h))))]
   exact (kids (q + 2) n (by omega) hl).imp fun hr => .inl ⟨h, hr⟩
  ·rw [node_set h, hk]
   cases hf : !(z36 vars n.Text) with
   | true => exact ⟨_, rfl, fun z => absurd z (show (14 : Int) ≠ 0 by decide)⟩
   | false =>
    refine (allz (q := q + 2) (l := [a]) fun k hk => ?_).imp fun hr => .inr (.inl ⟨h, a, hk, (ce a wa).get (hr a (by simp))⟩)
    rw [List.mem_singleton.1 hk]; exact (ce a wa).self
  ·rw [node_plain (.inr (.inr (.inr (.inr (.inl h))))), hk]
   refine (allz (q := q + 2) (l := a :: b :: l) fun k hk => ?_).imp fun hr => .inr (.inr (.inl ⟨h, a, b, l, hk, (ce a wa).get (hr a (by simp)), (blk b hb).get (hr b (by simp)), ?_⟩))
   ·rcases List.mem_cons.1 hk with rfl | hk
    ·exact (ce _ wa).self
    ·rcases List.mem_cons.1 hk with rfl | hk
     ·exact (blk _ hb).self
     ·rcases hc with rfl | ⟨c, rfl, hc⟩
      ·cases hk
      ·rw [List.mem_singleton.1 hk]; exact (blk c hc).self
   ·rcases hc with rfl | ⟨c, rfl, hc⟩
    ·exact .inl rfl
    ·exact .inr ⟨c, rfl, (blk c hc).get (hr c (by simp))⟩
  ·rw [node_plain (.inr (.inr (.inr (.inr (.inr (.inl h)))))), hk]
   refine (allz (q := q + 2) (l := [a, b]) fun k hk => ?_).imp fun hr => .inr (.inr (.inr (.inl ⟨h, a, b, hk, (ce a wa).get (hr a (by simp)), (blk b hb).get (hr b (by simp))⟩)))
   rcases List.mem_cons.1 hk with rfl | hk
   ·exact (ce _ wa).self
   ·rw [List.mem_singleton.1 hk]; exact (blk b hb).self
  ·rw [node_plain (.inr (.inr (.inr (.inr (.inr (.inr (.inl h))))))), hk]
   refine (allz (q := q + 2) (l := [u, m, p, i, t, a]) fun k hk => ?_).imp fun hr => .inr (.inr (.inr (.inr (.inl ⟨h, u, m, p, i, t, a, hk, (ce u wu).get (hr u (by simp)), (cm m wm).get (hr m (by simp)), (ce p wp).get (hr p (by simp)), (ce i wi).get (hr i (by simp)), (ce t wt).get (hr t (by simp)), (ca a wa).get (hr a (by simp))⟩))))
   simp only [List.mem_cons, List.not_mem_nil, or_false] at hk
   rcases hk with rfl | rfl | rfl | rfl | rfl | rfl
   ·exact (ce _ wu).self
   ·exact (cm _ wm).self
   ·exact (ce _ wp).self
   ·exact (ce _ wi).self
   ·exact (ce _ wt).self
   ·exact (ca _ wa).self
  ·rw [node_plain (.inr (.inr (.inr (.inr (.inr (.inr (.inr (.inl h)))))))), hk]
   refine (allz (q := q + 2) (l := u :: m :: l) fun k hk => ?_).imp fun hr => .inr (.inr (.inr (.inr (.inr (.inl ⟨h, u, m, l, hk, (ce u wu).get (hr u (by simp)), (cm m wm).get (hr m (by simp)), ?_⟩)))))
   ·rcases List.mem_cons.1 hk with rfl | hk
    ·exact (ce _ wu).self
    ·rcases List.mem_cons.1 hk with rfl | hk
     ·exact (cm _ wm).self
     ·rcases hl with ⟨_, rfl⟩ | ⟨_, p, rfl, wp⟩
      ·cases hk
      ·rw [List.mem_singleton.1 hk]; exact (ce p wp).self
   ·rcases hl with ⟨h1, rfl⟩ | ⟨h1, p, rfl, wp⟩
    ·exact .inl ⟨h1, rfl⟩
    ·exact .inr ⟨h1, p, rfl, (ce p wp).get (hr p (by simp))⟩
  ·rw [node_plain (.inr (.inr (.inr (.inr (.inr (.inr (.inr (.inr (.inl h))))))))), hk]
   refine (allz (q := q + 2) (l := u :: m :: (l ++ [a])) fun k hk => ?_).imp fun hr => .inr (.inr (.inr (.inr (.inr (.inr (.inl ⟨h, u, m, l, a, hk, (ce u wu).get (hr u (by simp)), (cm m wm).get (hr m (by simp)), (ca a wa).get (hr a (by simp)), ?_⟩))))))
   ·rcases List.mem_cons.1 hk with rfl | hk
    ·exact (ce _ wu).self
    ·rcases List.mem_cons.1 hk with rfl | hk
     ·exact (cm _ wm).self
     ·rcases List.mem_append.1 hk with hk | hk
      ·rcases hl with ⟨_, rfl⟩ | ⟨_, p, rfl, wp⟩
       ·cases hk
       ·rw [List.mem_singleton.1 hk]; exact (ce p wp).self
      ·rw [List.mem_singleton.1 hk]; exact (ca a wa).self
   ·rcases hl with ⟨h1, rfl⟩ | ⟨h1, p, rfl, wp⟩
    ·exact .inl ⟨h1, rfl⟩
    ·exact .inr ⟨h1, p, rfl, (ce p wp).get (hr p (by simp))⟩
  ·rw [node_plain (.inr (.inr (.inr (.inr (.inr (.inr (.inr (.inr (.inr (.inl h)))))))))), hk]
   exact (all_ck (P := fun _ => True) fun k hk => by cases hk).imp fun _ => .inr (.inr (.inr (.inr (.inr (.inr (.inr ⟨h, hk⟩))))))
def varsOf (l : List Node) : List ByteArray := (l.filter fun k => k.Kind == 2).map (·.Text)
theorem in_mem (vars : List ByteArray) (s : ByteArray) : z36 vars s = true ↔ s ∈ vars := by
 unfold z36
 induction vars with
 | nil => simp [z36_l0s, sumG]
 | cons x rest ih =>
  rw [z36_l0s, List.mem_cons]
  cases hx : x == s with
  | true =>
   rw [ba_beq, decide_eq_true_eq] at hx
   subst hx
   simp [sumG]
  | false =>
   rw [cond_false, ih]
   rw [ba_beq, decide_eq_false_iff_not] at hx
   constructor
   ·exact .inr
   ·rintro (rfl | h)
    ·exact absurd rfl hx
    ·exact h
theorem Check_l0_tot (n : Node) (hl : n.Kids.length ≤ 16385) : ∀ (m i : Nat) (vars on : List ByteArray), n.Kids.length < m + i → i ≤ n.Kids.length → vars.length ≤ i → on.length ≤ i → vars.Nodup →
  ∃ r, z21_l0 n m ((i : Nat) : Int) vars on = some r ∧ match r with
   | .inl v => v.1 = vars ++ varsOf (n.Kids.drop i) ∧ v.1.Nodup
   | .inr f => f.E ≠ 0
 | 0, i, vars, on, h, hi, _, _, _ => by omega
 | m + 1, i, vars, on, h, hi, h1, h2, h3 => by
  rw [z21_l0, List.length_map]
  by_cases hlt : i < n.Kids.length
  ·have hd : n.Kids.drop i = n.Kids[i] :: n.Kids.drop (i + 1) := List.drop_eq_getElem_cons hlt
   rw [decide_eq_true (show ((i : Nat) : Int) < ((n.Kids.length : Nat) : Int) by omega), cond_true, ixO_get hlt, Option.bind_some, hd]
   cases hk : n.Kids[i].Kind == 2 with
   | true =>
    have hv : varsOf (n.Kids[i] :: n.Kids.drop (i + 1)) = n.Kids[i].Text :: varsOf (n.Kids.drop (i + 1)) := by
     unfold varsOf
     rw [List.filter_cons_of_pos (by exact hk)]
     rfl
    rw [cond_true, hv]
    cases hin : z36 vars n.Kids[i].Text with
    | true => exact ⟨_, rfl, show (14 : Int) ≠ 0 by decide⟩
    | false =>
     rw [cond_false, Known_eq, Option.bind_some]
     cases knownB (ByteArray.mk #[112, 97, 99, 107, 101, 116]) n.Kids[i].Text with
     | true => exact ⟨_, rfl, show (14 : Int) ≠ 0 by decide⟩
     | false =>
      rw [cond_false]
      have hfit : ∀ {α : Type} (r : Option α), fitO (vars.length + [n.Kids[i].Text].length) 16 r = r := fun r => fit_ok (by simp; omega) r
      rw [hfit]
      cases decide ((((List.map strA (vars ++ [n.Kids[i].Text])).length : Nat) : Int) > 64) with
      | true => exact ⟨_, rfl, show (13 : Int) ≠ 0 by decide⟩
      | false =>
       have hnd : (vars ++ [n.Kids[i].Text]).Nodup := by
        rw [List.nodup_append]
        refine ⟨h3, (by simp), fun a ha b hb => ?_⟩
        rw [List.mem_singleton.1 hb]
        rintro rfl
        have := (in_mem vars n.Kids[i].Text).2 ha
        rw [this] at hin
        cases hin
       obtain ⟨r, er, hr⟩ := Check_l0_tot n hl m (i + 1) (vars ++ [n.Kids[i].Text]) on (by omega) (by omega) (by simp; omega) (by omega) hnd
       rw [cond_false, wrapI_succ (by omega)]
       refine ⟨r, er, ?_⟩
       cases r with
       | inl v => exact ⟨by rw [hr.1, List.append_assoc]; rfl, hr.2⟩
       | inr f => exact hr
   | false =>
    have hv : varsOf (n.Kids[i] :: n.Kids.drop (i + 1)) = varsOf (n.Kids.drop (i + 1)) := by
     unfold varsOf
     rw [List.filter_cons_of_neg (by rw [hk]; decide)]
    rw [cond_false, hv]
    cases (!(z36 [(ByteArray.mk #[112, 97, 99, 107, 101, 116]), (ByteArray.mk #[114, 101, 109, 111, 118, 101, 100]), (ByteArray.mk #[116, 105, 99, 107])] n.Kids[i].Text)) || (z36 on n.Kids[i].Text) with
    | true => exact ⟨_, rfl, show (14 : Int) ≠ 0 by decide⟩
    | false =>
     have hfit : ∀ {α : Type} (r : Option α), fitO (on.length + [n.Kids[i].Text].length) 16 r = r := fun r => fit_ok (by simp; omega) r
     rw [cond_false, hfit, wrapI_succ (by omega)]
     exact Check_l0_tot n hl m (i + 1) vars (on ++ [n.Kids[i].Text]) (by omega) (by omega) (by omega) (by simp; omega) h3
  ·rw [decide_eq_false (show ¬ ((i : Nat) : Int) < ((n.Kids.length : Nat) : Int) by omega), List.drop_eq_nil_of_le (by omega)]
   exact ⟨_, rfl, (List.append_nil _).symm, h3⟩
def okP (l : List Node) : Prop := (varsOf l).Nodup ∧ ∀ k ∈ l, k.Kind = 3 → ∀ s ∈ k.Kids, okS (varsOf l) k.Text 16384 40 s
theorem Check_l1_tot (n : Node) (hl : n.Kids.length ≤ 16385) (hp : ∀ k ∈ n.Kids, partP k) (v : (List ByteArray) × (List ByteArray)) : ∀ (m i : Nat), n.Kids.length < m + i → i ≤ n.Kids.length →
  ∃ r, z21_l1 n v m ((i : Nat) : Int) = some r ∧ match r with
   | .inl _ => ∀ k ∈ n.Kids.drop i, k.Kind = 3 → ∀ s ∈ k.Kids, okS v.1 k.Text 16384 40 s
   | .inr f => f.E ≠ 0
 | 0, i, h, hi => by omega
 | m + 1, i, h, hi => by
  rw [z21_l1, List.length_map]
  by_cases hlt : i < n.Kids.length
  ·have hd : n.Kids.drop i = n.Kids[i] :: n.Kids.drop (i + 1) := List.drop_eq_getElem_cons hlt
   rw [decide_eq_true (show ((i : Nat) : Int) < ((n.Kids.length : Nat) : Int) by omega), cond_true, ixO_get hlt, Option.bind_some, hd, wrapI_succ (by omega)]
   obtain ⟨r, er, hr⟩ := Check_l1_tot n hl hp v m (i + 1) (by omega) (by omega)
   cases hk : n.Kids[i].Kind == 3 with
   | true =>
    have hk3 : n.Kids[i].Kind = 3 := by simpa using hk
    have hw : ∀ s ∈ n.Kids[i].Kids, wfS 16384 40 s := by
     rcases hp n.Kids[i] (List.getElem_mem hlt) with ⟨h2, _⟩ | ⟨_, h3⟩
     ·rw [hk3] at h2; cases h2
     ·exact h3
    obtain ⟨f, ef, hf⟩ := all_ck (q := 39999) (vars := v.1) (on := n.Kids[i].Text) (P := okS v.1 n.Kids[i].Text 16384 40) fun k hk => ckS_tot v.1 n.Kids[i].Text 16384 40 k (hw k hk) 39999 (by decide)
    rw [cond_true, Option.bind_some, Option.bind_some, ef, Option.bind_some]
    cases hz : f.E != 0 with
    | true => exact ⟨_, rfl, by simpa using hz⟩
    | false =>
     have hz : f.E = 0 := by simpa using hz
     refine ⟨r, er, ?_⟩
     cases r with
     | inl u =>
      intro k hk
      rcases List.mem_cons.1 hk with rfl | hk
      ·exact fun _ => hf hz
      ·exact hr k hk
     | inr g => exact hr
   | false =>
    refine ⟨r, er, ?_⟩
    cases r with
    | inl u =>
     intro k hk'
     rcases List.mem_cons.1 hk' with rfl | hk'
     ·intro h3; rw [h3] at hk; cases hk
     ·exact hr k hk'
    | inr g => exact hr
  ·rw [decide_eq_false (show ¬ ((i : Nat) : Int) < ((n.Kids.length : Nat) : Int) by omega), List.drop_eq_nil_of_le (by omega)]
   exact ⟨_, rfl, fun k hk => by cases hk⟩
theorem Check_tot (n : Node) (hl : n.Kids.length ≤ 16385) (hp : ∀ k ∈ n.Kids, partP k) : CK (okP n.Kids) (z21_raw 20000 20000 n) := by
 unfold z21_raw
 obtain ⟨r, er, hr⟩ := Check_l0_tot n hl 20000 0 [] [] (by omega) (Nat.zero_le _) (Nat.le_refl _) (Nat.le_refl _) List.nodup_nil
 have er : z21_l0 n 20000 0 [] [] = some r := er
 rw [er]
 cases r with
 | inr f => exact ⟨f, rfl, fun z => absurd z hr⟩
 | inl v =>
  obtain ⟨r2, er2, hr2⟩ := Check_l1_tot n hl hp v 20000 0 (by omega) (Nat.zero_le _)
  have er2 : z21_l1 n v 20000 0 = some r2 := er2
  show CK (okP n.Kids) (loopO (z21_l1 n v 20000 0) fun _ => some ({ E := 0, At := 0 } : Fault))
  rw [er2]
  cases r2 with
  | inr f => exact ⟨f, rfl, fun z => absurd z hr2⟩
  | inl u =>
   refine ⟨_, rfl, fun _ => ?_⟩
   have h1 : v.1 = varsOf n.Kids := hr.1
   have h2 := hr.2
   rw [h1] at h2
   refine ⟨h2, ?_⟩
   have h3 : ∀ k ∈ n.Kids, k.Kind = 3 → ∀ s ∈ k.Kids, okS v.1 k.Text 16384 40 s := hr2
   rw [h1] at h3
   exact h3
theorem tree_tot (s : ByteArray) : ∃ n b, z10_raw s = some (n, b) ∧ (b = true → n.Kids.length ≤ 16385 ∧ (∀ k ∈ n.Kids, partP k) ∧ okP n.Kids) := by
 obtain ⟨n, f, e, h⟩ := Parse_tot s
 unfold z10_raw
 rw [e, Option.bind_some]
 dsimp only
 cases hc : (decide (((s.size : Nat) : Int) > 4000)) || (f.E != 0) with
 | true => exact ⟨n, false, rfl, fun h => by cases h⟩
 | false =>
  rw [Bool.or_eq_false_iff] at hc
  have hz : f.E = 0 := by simpa using hc.2
  obtain ⟨h1, h2, h3, _⟩ := h hz
  obtain ⟨g, eg, hg⟩ := Check_tot n h2 h3
  rw [cond_false, eg, Option.bind_some]
  cases hgz : g.E != 0 with
  | true => exact ⟨n, false, rfl, fun h => by cases h⟩
  | false => exact ⟨n, true, rfl, fun _ => ⟨h2, h3, hg (by simpa using hgz)⟩⟩
def initOf (l : List Node) : List Var := (l.filter fun k => k.Kind == 2).map fun k => { Name := k.Text, N := k.Num }
theorem Init_l0s_eq : ∀ (l : List Node) (out : List Var), out.length + l.length ≤ 20000 → z18_l0s l out = some (out ++ initOf l)
 | [], out, _ => by rw [z18_l0s]; simp [initOf]
 | x :: rest, out, h => by
  rw [List.length_cons] at h
  rw [z18_l0s]
  cases hk : x.Kind == 2 with
  | true =>
   rw [cond_true, fit_ok (by simp; omega), Init_l0s_eq rest _ (by simp; omega)]
   rw [initOf, initOf, List.filter_cons_of_pos (by exact hk), List.map_cons, List.append_assoc]
   rfl
  | false =>
   rw [cond_false, Init_l0s_eq rest out (by omega)]
   rw [initOf, initOf, List.filter_cons_of_neg (by rw [hk]; decide)]
theorem given_l0_tot (l : List Int) : ∀ (m i : Nat) (v : List Var), v.length < m + i → i ≤ v.length → v.length ≤ 20000 → ∃ r, z12_l0 l m ((i : Nat) : Int) v = some r ∧ r.map (·.Name) = v.map (·.Name)
 | 0, i, v, h, hi, _ => by omega
 | m + 1, i, v, h, hi, h2 => by
  rw [z12_l0, List.length_map, List.length_map]
  cases hc : (decide (((i : Nat) : Int) < ((v.length : Nat) : Int))) && (decide (((i : Nat) : Int) < ((l.length : Nat) : Int))) with
  | false => exact ⟨v, rfl, rfl⟩
  | true =>
   rw [Bool.and_eq_true, decide_eq_true_eq, decide_eq_true_eq] at hc
   rw [cond_true, ixO_get (by omega), ixO_get (by omega), Option.bind_some, Option.bind_some, wrapI_succ (by omega), Int.toNat_natCast]
   obtain ⟨r, er, hr⟩ := given_l0_tot l m (i + 1) (v.set i { Name := (v[i]'(by omega)).Name, N := l[i]'(by omega) }) (by rw [List.length_set]; omega) (by rw [List.length_set]; omega) (by rw [List.length_set]; omega)
   refine ⟨r, er, hr.trans ?_⟩
   rw [List.map_set]
   show (v.map (·.Name)).set i (v[i]'(by omega)).Name = _
   have : (v[i]'(by omega)).Name = (v.map (·.Name))[i]'(by rw [List.length_map]; omega) := by rw [List.getElem_map]
   rw [this, List.set_getElem_self]
theorem given_tot' (n : Node) (l : List Int) (h : n.Kids.length ≤ 16385) : ∃ v, z12_raw 20000 n l = some v ∧ v.map (·.Name) = varsOf n.Kids ∧ v.length ≤ 16385 := by
 unfold z12_raw z18_raw
 have hlen : (initOf n.Kids).length ≤ 16385 := by
  rw [initOf, List.length_map]
  exact Nat.le_trans (List.length_filter_le ..) h
 rw [Init_l0s_eq n.Kids [] (by simp; omega), List.nil_append, Option.bind_some, Option.bind_some]
 obtain ⟨r, er, hr⟩ := given_l0_tot l 20000 0 (initOf n.Kids) (by omega) (Nat.zero_le _) (by omega)
 have er : z12_l0 l 20000 0 (initOf n.Kids) = some r := er
 rw [er]
 refine ⟨r, rfl, ?_, ?_⟩
 ·rw [hr, initOf, varsOf, List.map_map]
  rfl
 ·have := congrArg List.length hr
  rw [List.length_map, List.length_map] at this
  omega
theorem ba_self (s : ByteArray) : (s == s) = true := by rw [ba_beq]; exact decide_eq_true rfl
end Go.Proofs.Yteioljlgcagnnaa
namespace Go.Proofs.Yteioljlgcagnnaa
open Go.Sh
def rexpr (r : Run) (n : Node) : Option (Int × Run) := (rxG 40000) r n
def matchR (n : Node) : Nat → Int → Run → Cube → Option (Cube × Run)
 | 0, _, _, _ => none
 | m + 1, i, r, c =>
  (bif ((decide (i < ((n.Kids.length : Nat) : Int))) && (r.E == 0)) then
  (ixO n.Kids i).bind fun x =>
  (ixO x.Kids 0).bind fun x1 =>
  (rexpr r x1).bind fun v =>
  (z57_raw x.Text).bind fun x2 =>
  (z87_raw 100 x2.1 (bif (x.Num == (-1)) then (sizeT x2.1) else x.Num)).bind fun x3 =>
  (bif ((decide (v.1 < 0)) || (!(z45 (IntKind.u64.wrap v.1) (sizeT x2.1)))) then
   reqO (decide (0 ≤ x2.1) && decide (x2.1 < ((12 : Nat) : Int))) (
   reqO (decide (0 ≤ x2.1) && decide (x2.1 < ((12 : Nat) : Int))) (
   matchR n m (IntKind.i64.wrap (i + 1)) (z65 v.2 13) { Value := (c.Value.set (x2.1.toNat) (IntKind.u64.wrap ((BitVec.ofInt 64 (IntKind.u64.wrap 0) &&& BitVec.ofInt 64 x3.1).toNat))), Care := (c.Care.set (x2.1.toNat) x3.1) }))
  else
   reqO (decide (0 ≤ x2.1) && decide (x2.1 < ((12 : Nat) : Int))) (
   reqO (decide (0 ≤ x2.1) && decide (x2.1 < ((12 : Nat) : Int))) (
   matchR n m (IntKind.i64.wrap (i + 1)) v.2 { Value := (c.Value.set (x2.1.toNat) (IntKind.u64.wrap ((BitVec.ofInt 64 (IntKind.u64.wrap v.1) &&& BitVec.ofInt 64 x3.1).toNat))), Care := (c.Care.set (x2.1.toNat) x3.1) })))
 else
  some (c, r))
theorem matchR_eq0 (n : Node) : ∀ (m : Nat) (i : Int) (r : Run) (c : Cube), ((z67_l0 n m i r.Ev.On r.Ev.Unit r.Ev.Port r.Ev.Head r.Owner r.Fuel r.E r.Vars r.Out c.Value c.Care).bind fun v =>
 some (({ Value := v.2.2.2.2.2.2.2.2.2.1, Care := v.2.2.2.2.2.2.2.2.2.2 } : Cube), ({ Vars := v.2.2.2.2.2.2.2.1, Ev := ({ On := v.1, Unit := v.2.1, Port := v.2.2.1, Head := v.2.2.2.1 } : Event), Owner := v.2.2.2.2.1, Fuel := v.2.2.2.2.2.1, Out := v.2.2.2.2.2.2.2.2.1, E := v.2.2.2.2.2.2.1 } : Run))) = matchR n m i r c
 | 0, i, r, c => rfl
 | m + 1, i, r, c => by
  rw [z67_l0, matchR, List.length_map]
  cases (decide (i < ((n.Kids.length : Nat) : Int))) && (r.E == 0) with
  | false => rfl
  | true =>
   simp only [cond_true]
   cases ixO n.Kids i with
   | none => rfl
   | some x =>
    simp only [Option.bind_some]
    cases ixO x.Kids 0 with
    | none => rfl
    | some x1 =>
     simp only [Option.bind_some]
     show ((rexpr r x1).bind fun v => _).bind _ = _
     cases rexpr r x1 with
     | none => rfl
     | some v =>
      simp only [Option.bind_some]
      cases z57_raw x.Text with
      | none => rfl
      | some x2 =>
       simp only [Option.bind_some]
       cases z87_raw 100 x2.1 (bif (x.Num == (-1)) then (sizeT x2.1) else x.Num) with
       | none => rfl
       | some x3 =>
        simp only [Option.bind_some]
        cases (decide (v.1 < 0)) || (!(z45 (IntKind.u64.wrap v.1) (sizeT x2.1))) with
        | true =>
         simp only [cond_true, letT]
         unfold reqO
         cases decide (0 ≤ x2.1) && decide (x2.1 < ((12 : Nat) : Int)) with
         | false => rfl
         | true => exact matchR_eq0 n m _ (z65 v.2 13) { Value := (c.Value.set (x2.1.toNat) (IntKind.u64.wrap ((BitVec.ofInt 64 (IntKind.u64.wrap 0) &&& BitVec.ofInt 64 x3.1).toNat))), Care := (c.Care.set (x2.1.toNat) x3.1) }
        | false =>
         simp only [cond_false]
         unfold reqO
         cases decide (0 ≤ x2.1) && decide (x2.1 < ((12 : Nat) : Int)) with
         | false => rfl
         | true => exact matchR_eq0 n m _ v.2 { Value := (c.Value.set (x2.1.toNat) (IntKind.u64.wrap ((BitVec.ofInt 64 (IntKind.u64.wrap v.1) &&& BitVec.ofInt 64 x3.1).toNat))), Care := (c.Care.set (x2.1.toNat) x3.1) }
theorem matchR_eq (q : Nat) (r : Run) (n : Node) : z67_raw q r n = matchR n q 0 r cube_All := by
 rw [z67_raw]
 exact matchR_eq0 n q 0 r cube_All
def actsR : List Node → Run → List Act → Option ((List Act) × Run)
 | [], r, out => some (out, r)
 | x :: rest, r, out =>
  (bif (x.Kind == 15) then
   (ixO x.Kids 0).bind fun x1 =>
   (z66_raw r x1 1 16).bind fun v =>
   fitO (out.length + [({ Kind := 1, Port := v.1, Field := 0, Value := 0 } : Act)].length) 32 (
   actsR rest v.2 (out ++ [({ Kind := 1, Port := v.1, Field := 0, Value := 0 } : Act)]))
  else
   (bif (x.Kind == 16) then
    (z57_raw x.Text).bind fun x2 =>
    (ixO x.Kids 0).bind fun x3 =>
    (rexpr r x3).bind fun v1 =>
    fitO (out.length + [({ Kind := 2, Port := 0, Field := x2.1, Value := (IntKind.u64.wrap v1.1) } : Act)].length) 32 (
    actsR rest (bif ((decide (v1.1 < 0)) || (!(z45 (IntKind.u64.wrap v1.1) (sizeT x2.1)))) then z65 v1.2 13 else v1.2) (out ++ [({ Kind := 2, Port := 0, Field := x2.1, Value := (IntKind.u64.wrap v1.1) } : Act)]))
   else
    fitO (out.length + [({ Kind := 3, Port := 0, Field := 0, Value := 0 } : Act)].length) 32 (
    actsR rest r (out ++ [({ Kind := 3, Port := 0, Field := 0, Value := 0 } : Act)]))))
theorem actsR_eq0 : ∀ (l : List Node) (r : Run) (out : List Act), ((z68_l0s l r.Ev.On r.Ev.Unit r.Ev.Port r.Ev.Head r.Owner r.Fuel r.E r.Vars r.Out out).bind fun v =>
 some (v.2.2.2.2.2.2.2.2.2, ({ Vars := v.2.2.2.2.2.2.2.1, Ev := ({ On := v.1, Unit := v.2.1, Port := v.2.2.1, Head := v.2.2.2.1 } : Event), Owner := v.2.2.2.2.1, Fuel := v.2.2.2.2.2.1, Out := v.2.2.2.2.2.2.2.2.1, E := v.2.2.2.2.2.2.1 } : Run))) = actsR l r out
 | [], r, out => rfl
 | x :: rest, r, out => by
  rw [z68_l0s, actsR]
  cases x.Kind == 15 with
  | true =>
   simp only [cond_true]
   show ((ixO x.Kids 0).bind fun x1 => (z66_raw r x1 1 16).bind fun v => _).bind _ = _
   cases ixO x.Kids 0 with
   | none => rfl
   | some x1 =>
    simp only [Option.bind_some]
    cases z66_raw r x1 1 16 with
    | none => rfl
    | some v =>
     simp only [Option.bind_some]
     unfold fitO
     split
     ·exact actsR_eq0 rest v.2 _
     ·rfl
  | false =>
   simp only [cond_false]
   cases x.Kind == 16 with
   | true =>
    simp only [cond_true]
    cases z57_raw x.Text with
    | none => rfl
    | some x2 =>
     simp only [Option.bind_some]
     show ((ixO x.Kids 0).bind fun x1 => (rexpr r x1).bind fun v => _).bind _ = _
     cases ixO x.Kids 0 with
     | none => rfl
     | some x1 =>
      simp only [Option.bind_some]
      cases rexpr r x1 with
      | none => rfl
      | some v =>
       simp only [Option.bind_some]
       cases (decide (v.1 < 0)) || (!(z45 (IntKind.u64.wrap v.1) (sizeT x2.1))) with
       | true =>
        simp only [cond_true, letT]
        unfold fitO
        split
        ·exact actsR_eq0 rest (z65 v.2 13) _
        ·rfl
       | false =>
        simp only [cond_false]
        unfold fitO
        split
        ·exact actsR_eq0 rest v.2 _
        ·rfl
   | false =>
    simp only [cond_false]
    unfold fitO
    split
    ·exact actsR_eq0 rest r _
    ·rfl
theorem actsR_eq (r : Run) (n : Node) : z68_raw r n = actsR n.Kids r [] := by
 rw [z68_raw]
 exact actsR_eq0 n.Kids r []
def stmtsR (g : Run → Node → Option Run) : List Node → Run → Option Run
 | [], r => some r
 | x :: rest, r => bif (z41 r).1 then (g (z41 r).2 x).bind fun v => stmtsR g rest v else some (z41 r).2
theorem stmtsR_eq0 (g : Run → Node → Option Run) : ∀ (l : List Node) (r : Run), loopO (z24_l0s g l r.Ev.On r.Ev.Unit r.Ev.Port r.Ev.Head r.Owner r.Fuel r.E r.Vars r.Out) (fun v =>
 some ({ Vars := v.2.2.2.2.2.2.2.1, Ev := ({ On := v.1, Unit := v.2.1, Port := v.2.2.1, Head := v.2.2.2.1 } : Event), Owner := v.2.2.2.2.1, Fuel := v.2.2.2.2.2.1, Out := v.2.2.2.2.2.2.2.2, E := v.2.2.2.2.2.2.1 } : Run)) = stmtsR g l r
 | [], r => rfl
 | x :: rest, r => by
  rw [z24_l0s, stmtsR]
  show loopO (letT (z41 r) fun v => _) _ = _
  simp only [letT]
  generalize z41 r = w
  obtain ⟨b, r'⟩ := w
  cases b with
  | true =>
   simp only [Bool.not_true, cond_false, cond_true]
   cases g r' x with
   | none => rfl
   | some v => exact stmtsR_eq0 g rest v
  | false => rfl
def whileR (g : Run → List Node → Option Run) (n : Node) : Nat → Run → Option Run
 | 0, _ => none
 | k + 1, r =>
  bif (r.E == 0) then
   (ixO n.Kids 0).bind fun x4 =>
   (rexpr r x4).bind fun v6 =>
   (bif ((v6.2.E != 0) || (v6.1 == 0)) then some v6.2
   else
    (ixO n.Kids 1).bind fun x5 =>
    (g v6.2 x5.Kids).bind fun v7 => whileR g n k v7)
  else some r
theorem whileR_eq0 (g : Run → List Node → Option Run) (n : Node) : ∀ (k : Nat) (r : Run), loopO (z42_l1 g n k r.Ev.On r.Ev.Unit r.Ev.Port r.Ev.Head r.Owner r.Fuel r.E r.Vars r.Out) (fun v6 =>
     some ({ Vars := v6.2.2.2.2.2.2.2.1, Ev := ({ On := v6.1, Unit := v6.2.1, Port := v6.2.2.1, Head := v6.2.2.2.1 } : Event), Owner := v6.2.2.2.2.1, Fuel := v6.2.2.2.2.2.1, Out := v6.2.2.2.2.2.2.2.2, E := v6.2.2.2.2.2.2.1 } : Run)) = whileR g n k r
 | 0, r => rfl
 | k + 1, r => by
  rw [z42_l1, whileR]
  cases r.E == 0 with
  | false => rfl
  | true =>
   simp only [cond_true]
   show loopO ((ixO n.Kids 0).bind fun x3 => (rexpr r x3).bind fun v5 => _) _ = _
   cases ixO n.Kids 0 with
   | none => rfl
   | some x3 =>
    simp only [Option.bind_some]
    cases rexpr r x3 with
    | none => rfl
    | some v5 =>
     simp only [Option.bind_some]
     cases (v5.2.E != 0) || (v5.1 == 0) with
     | true => rfl
     | false =>
      simp only [cond_false]
      cases ixO n.Kids 1 with
      | none => rfl
      | some x4 =>
       simp only [Option.bind_some]
       cases g v5.2 x4.Kids with
       | none => rfl
       | some v6 => exact whileR_eq0 g n k v6
theorem stmtsR_eq (q : Nat) (r : Run) (l : List Node) : (rsG (q + 1)).1 r l = stmtsR (rsG q).2 l r := by
 show z24_raw (rsG q).1 (rsG q).2 r l = _
 rw [z24_raw]
 exact stmtsR_eq0 _ l r
def pushR (u : Int) (c : Mod) (r : Run) : Option Run :=
 (bif ((((List.map Change.av r.Out).length : Nat) : Int) == 16) then
  letT (z65 r 3) fun v =>
  (bif (v.E == 0) then
   fitO (v.Out.length + [({ Unit := u, Mod := c } : Change)].length) 272 (
   some ({ v with Out := (v.Out ++ [({ Unit := u, Mod := c } : Change)]) } : Run))
  else
   some v)
 else
  (bif (r.E == 0) then
   fitO (r.Out.length + [({ Unit := u, Mod := c } : Change)].length) 272 (
   some ({ r with Out := (r.Out ++ [({ Unit := u, Mod := c } : Change)]) } : Run))
  else
   some r))
theorem stR_7 (q : Nat) (r : Run) (n : Node) (h : n.Kind = 7) : (rsG (q + 1)).2 r n = (rsG q).1 r n.Kids := by
 show z42_raw 200000 200000 (rsG q).1 (rsG q).2 r n = _
 rw [z42_raw, h]
 show ((rsG q).1 r n.Kids).bind (fun v => some v) = _
 cases (rsG q).1 r n.Kids <;> rfl
theorem stR_4 (q : Nat) (r : Run) (n : Node) (h : n.Kind = 4) : (rsG (q + 1)).2 r n = (ixO n.Kids 0).bind fun x =>
   (rexpr r x).bind fun v1 =>
   (z42_l0 n v1 200000 0 v1.2.Vars).bind fun v2 =>
   some ({ v1.2 with Vars := v2 } : Run) := by
 show z42_raw 200000 200000 (rsG q).1 (rsG q).2 r n = _
 rw [z42_raw, h]
 rfl
theorem stR_5 (q : Nat) (r : Run) (n : Node) (h : n.Kind = 5) : (rsG (q + 1)).2 r n = (ixO n.Kids 0).bind fun x1 =>
    (rexpr r x1).bind fun v3 =>
    (bif ((v3.2.E == 0) && (v3.1 != 0)) then
     (ixO n.Kids 1).bind fun x2 => (rsG q).1 v3.2 x2.Kids
    else
     (bif ((v3.2.E == 0) && (((n.Kids.length : Nat) : Int) == 3)) then
      (ixO n.Kids 2).bind fun x3 => (rsG q).1 v3.2 x3.Kids
     else
      some v3.2)) := by
 show z42_raw 200000 200000 (rsG q).1 (rsG q).2 r n = _
 rw [z42_raw, h]
 simp only [bind_some_id, List.length_map]
 rfl
theorem stR_6 (q : Nat) (r : Run) (n : Node) (h : n.Kind = 6) : (rsG (q + 1)).2 r n = whileR (rsG q).1 n 200000 r := by
 show z42_raw 200000 200000 (rsG q).1 (rsG q).2 r n = _
 rw [z42_raw, h]
 exact whileR_eq0 _ n 200000 r
theorem stR_11 (q : Nat) (r : Run) (n : Node) (h : n.Kind = 11) : (rsG (q + 1)).2 r n = some (z65 r 16) := by
 show z42_raw 200000 200000 (rsG q).1 (rsG q).2 r n = _
 rw [z42_raw, h]
 rfl
theorem stR_8 (q : Nat) (r : Run) (n : Node) (h : n.Kind = 8) : (rsG (q + 1)).2 r n =
      ((ixO n.Kids 0).bind fun x4 =>
      (z66_raw r x4 0 7).bind fun v8 =>
      (ixO n.Kids 1).bind fun x5 =>
      (z67_raw 20000 v8.2 x5).bind fun v9 =>
       (ixO n.Kids 2).bind fun x6 =>
       (z66_raw v9.2 x6 0 65535).bind fun v10 =>
       (ixO n.Kids 3).bind fun x7 =>
       (z66_raw v10.2 x7 0 1048576).bind fun v11 =>
       (ixO n.Kids 4).bind fun x8 =>
       (z66_raw v11.2 x8 0 1048576).bind fun v12 =>
       (ixO n.Kids 5).bind fun x9 =>
       (z68_raw v12.2 x9).bind fun v13 =>
       pushR v8.1 ({ Kind := 1, Match := v9.1, Prio := v10.1, Acts := v13.1, Idle := v11.1, Hard := v12.1, Owner := v9.2.Owner, Check := (n.Num == 1) } : Mod) v13.2) := by
 show z42_raw 200000 200000 (rsG q).1 (rsG q).2 r n = _
 rw [z42_raw, h]
 rfl
theorem stR_9 (q : Nat) (r : Run) (n : Node) (h : n.Kind = 9) : (rsG (q + 1)).2 r n =
      ((ixO n.Kids 0).bind fun x4 =>
      (z66_raw r x4 0 7).bind fun v8 =>
      (ixO n.Kids 1).bind fun x5 =>
      (z67_raw 20000 v8.2 x5).bind fun v9 =>
      (bif (n.Num == 1) then
       (ixO n.Kids 2).bind fun x6 =>
       (z66_raw v9.2 x6 0 65535).bind fun v10 =>
       pushR v8.1 ({ Kind := 5, Match := v9.1, Prio := v10.1, Acts := [], Idle := 0, Hard := 0, Owner := v9.2.Owner, Check := false } : Mod) v10.2
      else
       pushR v8.1 ({ Kind := 3, Match := v9.1, Prio := 0, Acts := [], Idle := 0, Hard := 0, Owner := v9.2.Owner, Check := false } : Mod) v9.2)) := by
 show z42_raw 200000 200000 (rsG q).1 (rsG q).2 r n = _
 rw [z42_raw, h]
 rfl
theorem stR_10 (q : Nat) (r : Run) (n : Node) (h : n.Kind = 10) : (rsG (q + 1)).2 r n =
      ((ixO n.Kids 0).bind fun x4 =>
      (z66_raw r x4 0 7).bind fun v8 =>
      (ixO n.Kids 1).bind fun x5 =>
      (z67_raw 20000 v8.2 x5).bind fun v9 =>
      (bif (n.Num == 1) then
       (ixO n.Kids 2).bind fun x6 =>
       (z66_raw v9.2 x6 0 65535).bind fun v10 =>
       (ixO n.Kids (IntKind.i64.wrap ((((List.map Node.av n.Kids).length : Nat) : Int) - 1))).bind fun x9 =>
       (z68_raw v10.2 x9).bind fun v13 =>
       pushR v8.1 ({ Kind := 4, Match := v9.1, Prio := v10.1, Acts := v13.1, Idle := 0, Hard := 0, Owner := v9.2.Owner, Check := false } : Mod) v13.2
      else
       (ixO n.Kids (IntKind.i64.wrap ((((List.map Node.av n.Kids).length : Nat) : Int) - 1))).bind fun x9 =>
       (z68_raw v9.2 x9).bind fun v13 =>
       pushR v8.1 ({ Kind := 2, Match := v9.1, Prio := 0, Acts := v13.1, Idle := 0, Hard := 0, Owner := v9.2.Owner, Check := false } : Mod) v13.2)) := by
 show z42_raw 200000 200000 (rsG q).1 (rsG q).2 r n = _
 rw [z42_raw, h]
 rfl
def cubeOk (c : Cube) : Prop := c.Value.length = 12 ∧ c.Care.length = 12 ∧ z104 c = true ∧ (∀ x ∈ c.Value, 0 ≤ x ∧ x ≤ 18446744073709551615) ∧ (∀ x ∈ c.Care, 0 ≤ x ∧ x ≤ 18446744073709551615)
def modOk (c : Mod) : Prop := cubeOk c.Match ∧ z27 c.Acts = true ∧ (0 ≤ c.Prio ∧ c.Prio ≤ 65535) ∧ (0 ≤ c.Idle ∧ c.Idle ≤ 1048576) ∧ (0 ≤ c.Hard ∧ c.Hard ≤ 1048576) ∧
 (c.Kind = 1 ∨ (c.Idle = 0 ∧ c.Hard = 0 ∧ c.Check = false ∧ ((c.Kind = 2 ∧ c.Prio = 0) ∨ (c.Kind = 3 ∧ c.Prio = 0 ∧ c.Acts = []) ∨ c.Kind = 4 ∨ (c.Kind = 5 ∧ c.Acts = []))))
def chOk (ow : Int) (c : Change) : Prop := 0 ≤ c.Unit ∧ c.Unit ≤ 7 ∧ c.Mod.Owner = ow ∧ modOk c.Mod
structure Live (nm : List ByteArray) (ev : Event) (ow : Int) (m : Machine) : Prop where
 names : m.vars.map (·.Name) = nm
 event : m.ev = ev
 owner : m.owner = ow
 fuel0 : 0 ≤ m.fuel
 fuel1 : m.fuel ≤ 100000
 most : m.out.length ≤ 16
 outs : ∀ c ∈ m.out, chOk ow c
def asRun (m : Machine) : Run := ⟨m.vars, m.ev, m.owner, m.fuel, m.out, m.e⟩
def Both (nm : List ByteArray) (ev : Event) (ow : Int) (m : Machine) (r : Run) : Prop :=
 m.e = r.E ∧ (m.e = 0 → r = asRun m ∧ Live nm ev ow m)
section
variable {nm : List ByteArray} {ev : Event} {ow : Int}
theorem Both.dead {m : Machine} {r : Run} (h : m.e = r.E) (hd : m.e ≠ 0) : Both nm ev ow m r := ⟨h, fun z => absurd z hd⟩
theorem Both.live {m : Machine} (h : Live nm ev ow m) : Both nm ev ow m (asRun m) := ⟨rfl, fun _ => ⟨rfl, h⟩⟩
theorem both_burn {m : Machine} {r : Run} (h : Both nm ev ow m r) : ∃ b m' r', z39 m = (b, m') ∧ z41 r = (b, r') ∧ Both nm ev ow m' r' ∧ (b = true → m'.e = 0 ∧ m.e = 0 ∧ m'.fuel + 1 = m.fuel ∧ m'.out = m.out) ∧ (b = false → m'.e ≠ 0) ∧ (m.e ≠ 0 → m'.e = m.e) := by
 by_cases hz : m.e = 0
 ·obtain ⟨rfl, hl⟩ := h.2 hz
  have hz1 : (m.e == 0) = true := by rw [hz]; rfl
  have hz2 : (m.e != 0) = false := by rw [hz]; rfl
  unfold z39 z41
  show ∃ b m' r', _ = (b, m') ∧ (bif (m.e != 0) then _ else (bif (m.fuel == 0) then (false, ({ asRun m with E := 11 } : Run)) else (true, ({ asRun m with Fuel := (IntKind.i64.wrap (m.fuel - 1)) } : Run)))) = (b, r') ∧ _
  rw [hz1, hz2, cond_false, Bool.true_and]
  have f0 := hl.fuel0
  have f1 := hl.fuel1
  by_cases hf : m.fuel = 0
  ·rw [decide_eq_true (show m.fuel ≤ 0 by omega), show (m.fuel == 0) = true by rw [hf]; rfl, cond_true, cond_true]
   exact ⟨_, _, _, rfl, rfl, Both.dead rfl (show (11 : Int) ≠ 0 by decide), fun h => (by cases h), fun _ => (show (11 : Int) ≠ 0 by decide), fun h => absurd hz h⟩
  ·rw [decide_eq_false (show ¬ m.fuel ≤ 0 by omega), show (m.fuel == 0) = false from beq_false_of_ne hf, cond_false, cond_false]
   have hw : IntKind.i64.wrap (m.fuel - 1) = m.fuel - 1 := wrapI_eq (by omega) (by omega)
   rw [hw]
   refine ⟨_, _, _, rfl, rfl, ?_, fun _ => ⟨hz, hz, (by show m.fuel - 1 + 1 = m.fuel; omega), rfl⟩, fun h => (by cases h), fun h => absurd hz h⟩
   exact Both.live (m := { m with fuel := m.fuel - 1 }) ⟨hl.names, hl.event, hl.owner, (by show (0 : Int) ≤ m.fuel - 1; omega), (by show m.fuel - 1 ≤ 100000; omega), hl.most, hl.outs⟩
 ·have hE : r.E ≠ 0 := by rw [← h.1]; exact hz
  have hz1 : (m.e == 0) = false := beq_false_of_ne hz
  have hz2 : (r.E != 0) = true := bne_iff_ne.2 hE
  unfold z39 z41
  rw [hz1, hz2, cond_true, Bool.false_and, cond_false]
  exact ⟨_, _, _, rfl, rfl, Both.dead h.1 hz, fun h => (by cases h), fun _ => hz, fun _ => rfl⟩
theorem refail_e (r : Run) (e : Int) : z65 r e = { r with E := bif r.E == 0 then e else r.E } := by
 unfold z65
 cases h : r.E == 0 <;> simp
theorem both_fail {m : Machine} {r : Run} (h : Both nm ev ow m r) (e : Int) (he : e ≠ 0) : Both nm ev ow (z63 m e) (z65 r e) ∧ (z63 m e).e ≠ 0 := by
 have hne : (z63 m e).e ≠ 0 := by
  rw [fail_e]
  show (bif m.e == 0 then e else m.e) ≠ 0
  cases hq : m.e == 0
  ·exact beq_eq_false_iff_ne.1 hq
  ·exact he
 refine ⟨Both.dead ?_ hne, hne⟩
 rw [fail_e, refail_e]
 show (bif m.e == 0 then e else m.e) = (bif r.E == 0 then e else r.E)
 rw [h.1]
def SimV {V : Type} (nm : List ByteArray) (ev : Event) (ow : Int) (P : V → Prop) (m : Machine) (o : Option (V × Machine)) (p : Option (V × Run)) : Prop :=
 ∃ v m' v' r', o = some (v, m') ∧ p = some (v', r') ∧ Both nm ev ow m' r' ∧ (m'.e = 0 → m.e = 0 ∧ m'.fuel ≤ m.fuel ∧ v' = v ∧ P v) ∧ (m.e ≠ 0 → m'.e = m.e)
def opsR (t : ByteArray) (a b : Int) (r : Run) : Option (Int × Run) :=
       (bif (t == (ByteArray.mk #[61, 61])) then
        some ((z86 (a == b)), r)
       else
        (bif (t == (ByteArray.mk #[33, 61])) then
         some ((z86 (a != b)), r)
        else
         (bif (t == (ByteArray.mk #[60])) then
          some ((z86 (decide (a < b))), r)
         else
          (bif (t == (ByteArray.mk #[60, 61])) then
           some ((z86 (decide (a ≤ b))), r)
          else
           (bif (t == (ByteArray.mk #[62])) then
            some ((z86 (decide (a > b))), r)
           else
            (bif (t == (ByteArray.mk #[62, 61])) then
             some ((z86 (decide (a ≥ b))), r)
            else
             (bif (t == (ByteArray.mk #[43])) then
              some ((IntKind.i64.wrap (a + b)), r)
             else
              (bif (t == (ByteArray.mk #[45])) then
               some ((IntKind.i64.wrap (a - b)), r)
              else
               (bif (t == (ByteArray.mk #[42])) then
                some ((IntKind.i64.wrap (a * b)), r)
               else
                (bif (r.E != 0) then
                 some (0, r)
                else
                 (bif (b == 0) then
                  some (0, z65 r 12)
                 else
                  (bif (t == (ByteArray.mk #[47])) then
                   reqO (b != 0) (
                   some ((IntKind.i64.wrap (Int.tdiv a b)), r))
                  else
                   reqO (b != 0) (
                   some ((Int.tmod a b), r))))))))))))))
theorem opsR_dead (t : ByteArray) (a b : Int) (r : Run) (h : r.E ≠ 0) : ∃ w, opsR t a b r = some (w, r) := by
 unfold opsR
 have : (r.E != 0) = true := bne_iff_ne.2 h
 rw [this]
 repeat' (first | exact ⟨_, rfl⟩ | (generalize (t == _) = c; cases c <;> simp only [cond_true, cond_false]))
theorem truth_yes (b : Bool) : z86 b = z81 b := rfl
theorem opsR_live (t : ByteArray) (a b : Int) {m : Machine} {r : Run} (h : Both nm ev ow m r) (hz : m.e = 0) : ∃ w m' r', z92_raw m t a b = some (w, m') ∧ opsR t a b r = some (w, r') ∧ Both nm ev ow m' r' ∧ (m'.e = 0 → m' = m) := by
 have hE : (r.E != 0) = false := by rw [← h.1, hz]; rfl
 unfold opsR z92_raw z102
 simp only [truth_yes, hE]
 have fin : ∀ w : Int, ∃ w' m' r', some (w, m) = some (w', m') ∧ some (w, r) = some (w', r') ∧ Both nm ev ow m' r' ∧ (m'.e = 0 → m' = m) := fun w => ⟨w, m, r, rfl, rfl, h, fun _ => rfl⟩
 cases t == (ByteArray.mk #[61, 61])
 case true => exact fin _
 cases t == (ByteArray.mk #[33, 61])
 case true => exact fin _
 cases t == (ByteArray.mk #[60])
 case true => exact fin _
 cases t == (ByteArray.mk #[60, 61])
 case true => exact fin _
 cases t == (ByteArray.mk #[62])
 case true => exact fin _
 cases t == (ByteArray.mk #[62, 61])
 case true => exact fin _
 cases t == (ByteArray.mk #[43])
 case true => exact fin _
 cases t == (ByteArray.mk #[45])
 case true => exact fin _
 cases t == (ByteArray.mk #[42])
 case true => exact fin _
 cases hb : b == 0
 case true =>
  obtain ⟨f1, f2⟩ := both_fail h 12 (by decide)
  exact ⟨0, _, _, rfl, rfl, f1, fun z => absurd z f2⟩
 have hb' : (b != 0) = true := by rw [bne, hb]; rfl
 rw [hb']
 cases t == (ByteArray.mk #[47])
 case true => exact fin _
 exact fin _
theorem find_l0s (n : Node) (v : Bool × Run) : ∀ l : List Var, z64_l0s n v l = match l.find? (fun x => x.Name == n.Text) with | some x => .inr (x.N, v.2) | none => .inl ()
 | [] => rfl
 | x :: rest => by
  rw [z64_l0s, find_l0s n v rest, List.find?_cons]
  cases x.Name == n.Text <;> rfl
theorem at_find (s : ByteArray) : ∀ l : List Var, (bif decide (idxF (fun y0 : Var => y0.Name == s) l ≥ 0) then (ixO l (idxF (fun y0 : Var => y0.Name == s) l)).map (fun x => some x.N) else some none) = some ((l.find? (fun x => x.Name == s)).map (·.N)) := by
 intro l
 unfold idxF
 cases h : l.findIdx? (fun y0 : Var => y0.Name == s) with
 | none =>
  rw [List.findIdx?_eq_none_iff] at h
  have : l.find? (fun x => x.Name == s) = none := List.find?_eq_none.2 fun x hx => by rw [h x hx]; decide
  rw [this]
  rfl
 | some k =>
  obtain ⟨hk, h1, h2⟩ := List.findIdx?_eq_some_iff_getElem.1 h
  have : l.find? (fun x => x.Name == s) = some l[k] := by
   rw [List.find?_eq_some_iff_getElem]
   exact ⟨h1, k, hk, rfl, fun j hj => by simpa using h2 j hj⟩
  rw [this]
  dsimp only
  rw [decide_eq_true (show ((k : Nat) : Int) ≥ 0 by omega), cond_true, ixO_get hk]
  rfl
theorem field_unit : (z91 (ByteArray.mk #[117, 110, 105, 116])).2 = false := by kernel_rfl
theorem field_port : (z91 (ByteArray.mk #[112, 111, 114, 116])).2 = false := by kernel_rfl
theorem name_sim {m : Machine} {r : Run} (h : Both nm ev ow m r) (hz : m.e = 0) (n : Node) (b : Bool) (on : ByteArray) (hok : okN nm on n.Text) : ∃ v, z79_raw m n.Text = some (v, m) ∧ (sumG (fun q => some q) (z64_l0s n (b, r) r.Vars) fun v1 =>
    (z57_raw n.Text).bind fun x1 =>
    (bif x1.2 then
     reqO (decide (0 ≤ x1.1) && decide (x1.1 < ((12 : Nat) : Int))) (
     some ((IntKind.i64.wrap (r.Ev.Head.getD (x1.1.toNat) 0)), r))
    else
     (bif (n.Text == (ByteArray.mk #[117, 110, 105, 116])) then
      some (r.Ev.Unit, r)
     else
      some (r.Ev.Port, r)))) = some (v, r) := by
 obtain ⟨rfl, hl⟩ := h.2 hz
 rw [name_eq, find_l0s, ref_Field_eq, Option.bind_some]
 have ha := at_find n.Text m.vars
 have he : (z78 m n.Text).1 = idxF (fun y0 : Var => y0.Name == n.Text) m.vars := by
  show z89 m.vars (fun y0 => z90 y0 n.Text) = _
  rw [z89_idx]
  rfl
 unfold nameC
 rw [he]
 show ∃ v, _ ∧ sumG _ (match m.vars.find? (fun x => x.Name == n.Text) with | some x => .inr (x.N, asRun m) | none => .inl ()) _ = some (v, asRun m)
 cases hf : m.vars.find? (fun x => x.Name == n.Text) with
 | some x =>
  rw [hf] at ha
  cases hd : decide (idxF (fun y0 : Var => y0.Name == n.Text) m.vars ≥ 0) with
  | false => rw [hd] at ha; cases ha
  | true =>
   rw [hd] at ha
   cases hx : ixO m.vars (idxF (fun y0 : Var => y0.Name == n.Text) m.vars) with
   | none => rw [hx] at ha; cases ha
   | some y =>
    rw [hx] at ha
    injection ha with ha
    injection ha with ha
    refine ⟨x.N, ?_, rfl⟩
    show some (y.N, m) = some (x.N, m)
    rw [ha]
 | none =>
  rw [hf] at ha
  cases hd : decide (idxF (fun y0 : Var => y0.Name == n.Text) m.vars ≥ 0) with
  | true =>
   rw [hd] at ha
   cases hx : ixO m.vars (idxF (fun y0 : Var => y0.Name == n.Text) m.vars) with
   | none => rw [hx] at ha; cases ha
   | some y => rw [hx] at ha; cases ha
  | false =>
   have hk : knownB on n.Text = true := by
    rcases hok with hok | hok
    ·exfalso
     have := (in_mem nm n.Text).1 hok
     rw [← hl.names] at this
     obtain ⟨x, hx, hn⟩ := List.mem_map.1 this
     have := List.find?_eq_none.1 hf x hx
     rw [hn, ba_self] at this
     exact this rfl
    ·exact hok
   rw [cond_false]
   show ∃ v, _ ∧ (bif (z91 n.Text).2 then _ else _) = some (v, asRun m)
   cases h1 : n.Text == (ByteArray.mk #[117, 110, 105, 116]) with
   | true =>
    have ht : n.Text = (ByteArray.mk #[117, 110, 105, 116]) := by rw [ba_beq, decide_eq_true_eq] at h1; exact h1
    rw [ht, field_unit]
    exact ⟨m.ev.Unit, rfl, rfl⟩
   | false =>
    rw [cond_false, cond_false]
    cases h2 : n.Text == (ByteArray.mk #[112, 111, 114, 116]) with
    | true =>
     have ht : n.Text = (ByteArray.mk #[112, 111, 114, 116]) := by rw [ba_beq, decide_eq_true_eq] at h2; exact h2
     rw [ht, field_port]
     exact ⟨m.ev.Port, rfl, rfl⟩
    | false =>
     have hfd : (z91 n.Text).2 = true := by
      unfold knownB at hk
      rw [h1, h2, Bool.and_false, Bool.or_false, Bool.or_false, Bool.or_false, Bool.and_eq_true] at hk
      exact hk.2
     have hr := Field_range n.Text
     rw [hfd, cond_true, cond_false]
     have hreq : (decide (0 ≤ (z91 n.Text).1) && decide ((z91 n.Text).1 < ((12 : Nat) : Int))) = true := by
      rw [decide_eq_true hr.1, decide_eq_true (by omega)]
      rfl
     rw [hreq]
     exact ⟨_, rfl, rfl⟩
end
section
variable {nm : List ByteArray} {ev : Event} {ow : Int}
def SimX (nm : List ByteArray) (ev : Event) (ow : Int) (m : Machine) (o : Option (Int × Machine)) (p : Option (Int × Run)) : Prop :=
 ∃ v m' v' r', o = some (v, m') ∧ p = some (v', r') ∧ Both nm ev ow m' r' ∧ (m'.e = 0 → m.e = 0 ∧ m'.fuel + 1 ≤ m.fuel ∧ v' = v) ∧ (m.e ≠ 0 → m'.e = m.e)
theorem ba_45_33 : ((ByteArray.mk #[45]) == (ByteArray.mk #[33]) : Bool) = false := by kernel_rfl
theorem ba_33_45 : ((ByteArray.mk #[33]) == (ByteArray.mk #[45]) : Bool) = false := by kernel_rfl
theorem ex_sim (on : ByteArray) : ∀ (d : Nat) (n : Node), okE nm on d n → ∀ q p : Nat, 2 * d ≤ q → d ≤ p → ∀ m r, Both nm ev ow m r → SimX nm ev ow m ((exG q).2 m n) (rxG p r n)
 | 0, _, h, _, _, _, _, _, _, _ => h.elim
 | d + 1, n, h, q, p, hq, hp, m, r, hb => by
  obtain ⟨q, rfl⟩ : ∃ k, q = k + 2 := ⟨q - 2, by omega⟩
  obtain ⟨p, rfl⟩ : ∃ k, p = k + 1 := ⟨p - 1, by omega⟩
  have ih := fun k hk => ex_sim on d k hk q p (by omega) (by omega)
  show SimX nm ev ow m (z60_raw (exG (q + 1)).1 (exG (q + 1)).2 m n) (z64_raw (rxG p) r n)
  unfold z60_raw z64_raw
  obtain ⟨b, m1, r1, e1, e2, B1, t1, f1, s1⟩ := both_burn hb
  rw [e1, e2]
  unfold letT
  dsimp only
  cases b with
  | false => exact ⟨0, m1, 0, r1, rfl, rfl, B1, fun z => absurd z (f1 rfl), s1⟩
  | true =>
   obtain ⟨z1, z0, fu1, _⟩ := t1 rfl
   have fin : ∀ (v : Int) (m' : Machine) (v' : Int) (r' : Run), Both nm ev ow m' r' → (m'.e = 0 → m'.fuel ≤ m1.fuel ∧ v' = v) → SimX nm ev ow m (some (v, m')) (some (v', r')) := fun v m' v' r' B f => ⟨v, m', v', r', rfl, rfl, B, fun z => ⟨z0, by have := (f z).1; omega, (f z).2⟩, fun h => absurd z0 h⟩
   have dead : ∀ (v : Int) (m' : Machine) (v' : Int) (r' : Run), m'.e = r'.E → m'.e ≠ 0 → SimX nm ev ow m (some (v, m')) (some (v', r')) := fun v m' v' r' e ne => fin v m' v' r' (Both.dead e ne) fun z => absurd z ne
   rw [Bool.not_true, cond_false, cond_false]
   rcases h with ⟨h, _⟩ | ⟨h, _, hn⟩ | ⟨h, a, b, hk, wa, wb⟩ | ⟨h, a, hk, wa, ht⟩
   ·rw [h]
    exact fin n.Num m1 n.Num r1 B1 fun _ => ⟨Int.le_refl _, rfl⟩
   ·obtain ⟨v, g1, g2⟩ := name_sim B1 z1 n true on hn
    rw [h, show ((19 : Int) == 18) = false from rfl, show ((19 : Int) == 19) = true from rfl, cond_false, cond_false, cond_true, cond_true, bind_pair, g1, g2]
    exact fin v m1 v r1 B1 fun _ => ⟨Int.le_refl _, rfl⟩
   ·rw [h, show ((20 : Int) == 18) = false from rfl, show ((20 : Int) == 19) = false from rfl, show ((20 : Int) == 20) = true from rfl, show ((20 : Int) == 21) = false from rfl, cond_false, cond_false, cond_true, cond_false, cond_false, cond_false, bind_pair]
    show SimX nm ev ow m (z80_raw (exG q).1 (exG q).2 m1 n) _
    unfold z80_raw
    obtain ⟨va, ma, va', ra, ea, er, Ba, fa, sa⟩ := ih a wa m1 r1 B1
    rw [hk, ixO_0, ixO_1, Option.bind_some, Option.bind_some, ea, er, Option.bind_some, Option.bind_some]
    dsimp only
    rw [Option.bind_some, Option.bind_some]
    obtain ⟨vb, mb, vb', rb, eb, ebr, Bb, fb, sb⟩ := ih b wb ma ra Ba
    rw [eb, ebr, Option.bind_some, Option.bind_some]
    dsimp only
    show SimX nm ev ow m _ (bif _ then _ else (bif (bif (n.Text == (ByteArray.mk #[38, 38])) then (n.Text == (ByteArray.mk #[38, 38])) else (n.Text == (ByteArray.mk #[124, 124]))) then
       some ((z86 (vb' != 0)), rb)
      else opsR n.Text va' vb' rb))
    generalize (n.Text == (ByteArray.mk #[38, 38])) = t1
    generalize (n.Text == (ByteArray.mk #[124, 124])) = t2
    by_cases za : ma.e = 0
    ·obtain ⟨_, fua, rfl⟩ := fa za
     by_cases zv : va' = 0
     ·subst zv
      cases t1 with
      | true => exact fin 0 ma 0 ra Ba fun _ => ⟨by omega, rfl⟩
      | false =>
       rw [show ((0 : Int) == 0) = true from rfl, show ((0 : Int) != 0) = false from rfl, Bool.false_and, Bool.and_false, Bool.false_or, cond_false, cond_false, cond_false]
       by_cases zb : mb.e = 0
       ·obtain ⟨_, fub, rfl⟩ := fb zb
        cases t2 with
        | true => exact fin _ mb _ rb Bb fun _ => ⟨by omega, rfl⟩
        | false =>
         obtain ⟨w, m', r', g1, g2, g3, g4⟩ := opsR_live n.Text 0 vb' Bb zb
         rw [show (mb.e != 0) = false by rw [zb]; rfl]
         simp only [Bool.or_false, cond_false]
         rw [bind_pair, g1, g2]
         exact fin w m' w r' g3 fun z => ⟨by rw [g4 z]; omega, rfl⟩
       ·obtain ⟨w, ew⟩ := opsR_dead n.Text 0 vb' rb (by rw [← Bb.1]; exact zb)
        rw [show (mb.e != 0) = true from bne_iff_ne.2 zb, ew]
        cases t2 <;> exact dead _ _ _ _ Bb.1 zb
     ·rw [show (va' == 0) = false from beq_false_of_ne zv, show (va' != 0) = true from bne_iff_ne.2 zv]
      cases t2 with
      | true =>
       cases t1 <;> exact fin 1 ma 1 ra Ba fun _ => ⟨by omega, rfl⟩
      | false =>
       simp only [Bool.and_false, Bool.false_and, Bool.or_false, cond_false]
       by_cases zb : mb.e = 0
       ·obtain ⟨_, fub, rfl⟩ := fb zb
        cases t1 with
        | true => exact fin _ mb _ rb Bb fun _ => ⟨by omega, rfl⟩
        | false =>
         obtain ⟨w, m', r', g1, g2, g3, g4⟩ := opsR_live n.Text va' vb' Bb zb
         rw [show (mb.e != 0) = false by rw [zb]; rfl]
         simp only [Bool.or_false, cond_false]
         rw [bind_pair, g1, g2]
         exact fin w m' w r' g3 fun z => ⟨by rw [g4 z]; omega, rfl⟩
       ·obtain ⟨w, ew⟩ := opsR_dead n.Text va' vb' rb (by rw [← Bb.1]; exact zb)
        rw [show (mb.e != 0) = true from bne_iff_ne.2 zb, ew]
        cases t1 <;> exact dead _ _ _ _ Bb.1 zb
    ·have hb1 := sb za
     have zb : mb.e ≠ 0 := by rw [hb1]; exact za
     obtain ⟨w, ew⟩ := opsR_dead n.Text va' vb' rb (by rw [← Bb.1]; exact zb)
     rw [ew, show (mb.e != 0) = true from bne_iff_ne.2 zb]
     have hm : ∃ v m', (bif t1 && (va == 0) then some ((0 : Int), ma) else (bif t2 && (va != 0) then some ((1 : Int), ma) else (bif t1 || t2 then some (z81 (vb != 0), mb) else (bif true then some ((0 : Int), mb) else (z92_raw mb n.Text va vb).bind fun v2 => some (v2.1, v2.2))))) = some (v, m') ∧ m'.e = ma.e := by
      cases t1 && (va == 0)
      ·cases t2 && (va != 0)
       ·cases t1 || t2
        ·exact ⟨_, _, rfl, hb1⟩
        ·exact ⟨_, _, rfl, hb1⟩
       ·exact ⟨_, _, rfl, rfl⟩
      ·exact ⟨_, _, rfl, rfl⟩
     have hr : ∃ v r', (bif (t1 && (va' == 0)) || (t2 && (va' != 0)) then some (z86 (va' != 0), ra) else (bif (bif t1 then t1 else t2) then some ((z86 (vb' != 0)), rb) else some (w, rb))) = some (v, r') ∧ r'.E = ma.e := by
      have hra : ra.E = ma.e := Ba.1.symm
      have hrb : rb.E = ma.e := Bb.1.symm.trans hb1
      cases (t1 && (va' == 0)) || (t2 && (va' != 0))
      ·cases (bif t1 then t1 else t2)
       ·exact ⟨_, _, rfl, hrb⟩
       ·exact ⟨_, _, rfl, hrb⟩
      ·exact ⟨_, _, rfl, hra⟩
     obtain ⟨v, m', g1, g2⟩ := hm
     obtain ⟨v', r', g3, g4⟩ := hr
     rw [g1, g3]
     exact dead v m' v' r' (g2.trans g4.symm) (by rw [g2]; exact za)
   ·rw [h, show ((21 : Int) == 18) = false from rfl, show ((21 : Int) == 19) = false from rfl, show ((21 : Int) == 20) = false from rfl, show ((21 : Int) == 21) = true from rfl, cond_false, cond_false, cond_false, cond_false, cond_false, cond_true]
    obtain ⟨va, ma, va', ra, ea, er, Ba, fa, sa⟩ := ex_sim on d a wa (q + 1) p (by omega) (by omega) m1 r1 B1
    rw [hk, ixO_0, Option.bind_some, Option.bind_some, ea, er, Option.bind_some, Option.bind_some]
    dsimp only
    rcases ht with ht | ht
    ·rw [ht, ba_45_33, ba_self]
     exact fin _ ma _ ra Ba fun z => ⟨by have := (fa z).2.1; omega, by rw [(fa z).2.2]⟩
    ·rw [ht, ba_33_45, ba_self]
     exact fin _ ma _ ra Ba fun z => ⟨by have := (fa z).2.1; omega, by rw [(fa z).2.2]; rfl⟩
end
end Go.Proofs.Yteioljlgcagnnaa
namespace Go.Proofs.Yteioljlgcagnnaa
open Go.Sh
def maskChk : Bool := (List.range 12).all fun f => (List.range 49).all fun b => decide (sizeT ((f : Nat) : Int) < ((b : Nat) : Int)) || (match z87_raw 100 ((f : Nat) : Int) ((b : Nat) : Int), z105_raw ((f : Nat) : Int) ((b : Nat) : Int) with
 | some (x, true), some (y, true) => x == y && decide (0 ≤ x) && decide (x ≤ 18446744073709551615) && fitsH ((f : Nat) : Int) x
 | _, _ => false)
theorem maskChk_true : maskChk = true := by kernel_rfl
theorem mask_eq {f b : Int} (h0 : 0 ≤ f) (h1 : f < 12) (b0 : 0 ≤ b) (b1 : b ≤ sizeT f) : ∃ x, z87_raw 100 f b = some (x, true) ∧ z105_raw f b = some (x, true) ∧ 0 ≤ x ∧ x ≤ 18446744073709551615 ∧ fitsH f x = true := by
 obtain ⟨f, rfl⟩ : ∃ k : Nat, f = ((k : Nat) : Int) := ⟨f.toNat, by omega⟩
 obtain ⟨b, rfl⟩ : ∃ k : Nat, b = ((k : Nat) : Int) := ⟨b.toNat, by omega⟩
 have hs := (sizeT_in ((f : Nat) : Int)).2
 have h := maskChk_true
 unfold maskChk at h
 rw [List.all_eq_true] at h
 have h := h f (List.mem_range.2 (by omega))
 rw [List.all_eq_true] at h
 have h := h b (List.mem_range.2 (by omega))
 rw [decide_eq_false (by omega), Bool.false_or] at h
 cases hx : z87_raw 100 ((f : Nat) : Int) ((b : Nat) : Int) with
 | none => rw [hx] at h; cases h
 | some x =>
  cases hy : z105_raw ((f : Nat) : Int) ((b : Nat) : Int) with
  | none => rw [hx, hy] at h; obtain ⟨x, bx⟩ := x; cases bx <;> cases h
  | some y =>
   obtain ⟨x, bx⟩ := x
   obtain ⟨y, by'⟩ := y
   rw [hx, hy] at h
   cases bx with
   | false => cases h
   | true =>
    cases by' with
    | false => cases h
    | true =>
     simp only [Bool.and_eq_true, beq_iff_eq, decide_eq_true_eq] at h
     obtain ⟨⟨⟨e, p0⟩, p1⟩, p2⟩ := h
     exact ⟨x, rfl, by rw [e], p0, p1, p2⟩
theorem headS_iff (h : List Int) : ∀ n i : Nat, (sumG (fun q => q) (z107_l0s h n i) fun _ => true) = true ↔ ∀ j, i ≤ j → j < i + n → fitsH ((j : Nat) : Int) (h.getD j 0) = true
 | 0, i => by
  rw [z107_l0s]
  exact ⟨fun _ j h1 h2 => by omega, fun _ => rfl⟩
 | n + 1, i => by
  have ih := headS_iff h n (i + 1)
  rw [z107_l0s]
  cases hf : fitsH ((i : Nat) : Int) (h.getD i 0) with
  | false =>
   refine ⟨fun h => (by cases h), fun h => ?_⟩
   have := h i (Nat.le_refl _) (by omega)
   rw [hf] at this
   cases this
  | true =>
   rw [Bool.not_true, cond_false, ih]
   refine ⟨fun h j h1 h2 => ?_, fun h j h1 h2 => h j (by omega) (by omega)⟩
   rcases Nat.eq_or_lt_of_le h1 with rfl | h1
   ·exact hf
   ·exact h j (by omega) (by omega)
def badI (v c : Int) : Bool := (IntKind.u64.wrap ((BitVec.ofInt 64 v &&& ~~~ (BitVec.ofInt 64 c)).toNat)) != 0
theorem cubeS_iff (c : Cube) : ∀ n i : Nat, (sumG (fun q => q) (z104_l0s c n i) fun _ => true) = true ↔ ∀ j, i ≤ j → j < i + n → badI (c.Value.getD j 0) (c.Care.getD j 0) = false
 | 0, i => by
  rw [z104_l0s]
  exact ⟨fun _ j h1 h2 => by omega, fun _ => rfl⟩
 | n + 1, i => by
  have ih := cubeS_iff c n (i + 1)
  rw [z104_l0s]
  show (sumG (fun q => q) (bif badI (c.Value.getD i 0) (c.Care.getD i 0) then _ else _) _) = true ↔ _
  cases hf : badI (c.Value.getD i 0) (c.Care.getD i 0) with
  | true =>
   refine ⟨fun h => (by cases h), fun h => ?_⟩
   have := h i (Nat.le_refl _) (by omega)
   rw [hf] at this
   cases this
  | false =>
   rw [cond_false, ih]
   refine ⟨fun h j h1 h2 => ?_, fun h j h1 h2 => h j (by omega) (by omega)⟩
   rcases Nat.eq_or_lt_of_le h1 with rfl | h1
   ·exact hf
   ·exact h j (by omega) (by omega)
theorem cube_iff (c : Cube) : z104 c = true ↔ (∀ j, j < 12 → fitsH ((j : Nat) : Int) (c.Care.getD j 0) = true) ∧ ∀ j, j < 12 → badI (c.Value.getD j 0) (c.Care.getD j 0) = false := by
 unfold z104 z107
 have h1 := headS_iff c.Care 12 0
 have h2 := cubeS_iff c 12 0
 cases hh : (sumG (fun q => q) (z107_l0s c.Care 12 0) fun _ => true) with
 | false =>
  rw [hh] at h1
  refine ⟨fun h => (by cases h), fun h => ?_⟩
  have := h1.2 fun j _ hj => h.1 j (by omega)
  cases this
 | true =>
  rw [Bool.not_true, cond_false, h2]
  have h1 := h1.1 hh
  exact ⟨fun h => ⟨fun j hj => h1 j (Nat.zero_le _) (by omega), fun j hj => h j (Nat.zero_le _) (by omega)⟩, fun h j _ hj => h.2 j (by omega)⟩
theorem getD_set {l : List Int} {k j : Nat} {x : Int} (hk : k < l.length) : (l.set k x).getD j 0 = if j = k then x else l.getD j 0 := by
 rw [List.getD_eq_getElem?_getD, List.getD_eq_getElem?_getD, List.getElem?_set]
 by_cases h : k = j
 ·subst h
  rw [if_pos rfl, if_pos hk, if_pos rfl]
  rfl
 ·rw [if_neg h, if_neg (fun e => h e.symm)]
theorem wrapN64 (x : BitVec 64) : IntKind.u64.wrap ((x.toNat : Nat) : Int) = ((x.toNat : Nat) : Int) := by
 have hw : ∀ z : Int, IntKind.u64.wrap z = z % 18446744073709551616 := fun z => by simp [IntKind.wrap, IntKind.bits, IntKind.signed]
 have := x.isLt
 rw [hw]
 omega
theorem bad_masked (w x : Int) : badI (IntKind.u64.wrap ((BitVec.ofInt 64 w &&& BitVec.ofInt 64 x).toNat)) x = false := by
 unfold badI
 rw [wrapN64, wrapN64, BitVec.ofInt_natCast, BitVec.ofNat_toNat, BitVec.setWidth_eq]
 have : BitVec.ofInt 64 w &&& BitVec.ofInt 64 x &&& ~~~ (BitVec.ofInt 64 x) = 0#64 := by
  apply BitVec.eq_of_getElem_eq
  intro i hi
  simp
 rw [this]
 rfl
theorem all_ok : cubeOk cube_All := by
 refine ⟨rfl, rfl, (by kernel_rfl), fun x hx => ?_, fun x hx => ?_⟩ <;> simp [cube_All] at hx <;> subst hx <;> decide
theorem set_wrap (w : Int) : 0 ≤ IntKind.u64.wrap w ∧ IntKind.u64.wrap w ≤ 18446744073709551615 := by
 have hw : ∀ z : Int, IntKind.u64.wrap z = z % 18446744073709551616 := fun z => by simp [IntKind.wrap, IntKind.bits, IntKind.signed]
 rw [hw]
 omega
theorem setT_fits (l : List Int) {f w : Int} (h0 : 0 ≤ f) (h1 : f < 12) (w0 : 0 ≤ w) : ((setT_ l f w).2 != 0) = !(z45 w (sizeT f)) := by
 unfold setT_ z103
 rw [decide_eq_true (show f ≥ 0 from h0), decide_eq_true h1, refFits_eq]
 unfold fitsH
 rw [decide_eq_true w0, Bool.true_and]
 cases fitsT f w <;> rfl
theorem with_eq {c : Cube} (hc : cubeOk c) {f w b : Int} (h0 : 0 ≤ f) (h1 : f < 12) (w0 : 0 ≤ w) (b0 : 0 ≤ b) (b1 : b ≤ sizeT f) :
  ∃ x c' e, z87_raw 100 f b = some (x, true) ∧ z95_raw c f w b = some (c', e) ∧ (e != 0) = (!(z45 w (sizeT f))) ∧
   ((e != 0) = false → c' = { Value := c.Value.set f.toNat (IntKind.u64.wrap ((BitVec.ofInt 64 w &&& BitVec.ofInt 64 x).toNat)), Care := c.Care.set f.toNat x } ∧ cubeOk c') := by
 obtain ⟨x, e1, e2, x0, x1, x2⟩ := mask_eq h0 h1 b0 b1
 obtain ⟨l1, l2, sc, v1, v2⟩ := hc
 unfold z95_raw
 rw [sc, Bool.not_true, cond_false]
 have hs := setT_fits c.Value h0 h1 w0
 cases hf : !(z45 w (sizeT f)) with
 | true =>
  rw [hf] at hs
  rw [hs]
  exact ⟨x, _, _, e1, rfl, hs, fun h => by rw [hs] at h; cases h⟩
 | false =>
  rw [hf] at hs
  rw [hs, cond_false, e2, Option.bind_some]
  dsimp only
  rw [decide_eq_true h0, decide_eq_true (show f < ((12 : Nat) : Int) from h1)]
  refine ⟨x, _, _, e1, rfl, rfl, fun _ => ⟨rfl, ?_⟩⟩
  have hi : ∀ {l : List Int} {y z : Int}, (∀ t ∈ l, 0 ≤ t ∧ t ≤ 18446744073709551615) → 0 ≤ y ∧ y ≤ 18446744073709551615 → ∀ t ∈ l.set f.toNat y, 0 ≤ t ∧ t ≤ 18446744073709551615 := by
   intro l y z hl hy t ht
   rcases List.mem_or_eq_of_mem_set ht with ht | rfl
   ·exact hl t ht
   ·exact hy
  refine ⟨by rw [List.length_set]; exact l1, by rw [List.length_set]; exact l2, ?_, hi (z := 0) v1 (set_wrap _), hi (z := 0) v2 ⟨x0, x1⟩⟩
  obtain ⟨s1, s2⟩ := (cube_iff c).1 sc
  refine (cube_iff _).2 ⟨fun j hj => ?_, fun j hj => ?_⟩
  ·show fitsH _ ((c.Care.set f.toNat x).getD j 0) = true
   rw [getD_set (by omega)]
   by_cases h : j = f.toNat
   ·rw [if_pos h]
    have : ((j : Nat) : Int) = f := by omega
    rw [this]
    exact x2
   ·rw [if_neg h]; exact s1 j hj
  ·show badI ((c.Value.set f.toNat _).getD j 0) ((c.Care.set f.toNat x).getD j 0) = false
   rw [getD_set (by omega), getD_set (by omega)]
   by_cases h : j = f.toNat
   ·rw [if_pos h, if_pos h]
    exact bad_masked w x
   ·rw [if_neg h, if_neg h]; exact s2 j hj
section
variable {nm : List ByteArray} {ev : Event} {ow : Int}
theorem okE_wf {vars : List ByteArray} {on : ByteArray} : ∀ (d : Nat) (n : Node), okE vars on d n → wfE d n
 | 0, _, h => h.elim
 | d + 1, n, h => by
  rcases h with h | ⟨h, hl, _⟩ | ⟨h, a, b, hk, wa, wb⟩ | ⟨h, a, hk, wa, ht⟩
  ·exact .inl h
  ·exact .inr (.inl ⟨h, hl⟩)
  ·exact .inr (.inr (.inl ⟨h, a, b, hk, okE_wf d a wa, okE_wf d b wb⟩))
  ·exact .inr (.inr (.inr ⟨h, a, hk, okE_wf d a wa, ht⟩))
theorem expr_sim {on : ByteArray} {n : Node} (h : okE nm on 16384 n) {m : Machine} {r : Run} (hb : Both nm ev ow m r) : SimX nm ev ow m (expr m n) (rexpr r n) :=
 ex_sim on 16384 n h 40000 40000 (by decide) (by decide) m r hb
theorem within_sim {on : ByteArray} {n : Node} (h : okE nm on 16384 n) (lo hi : Int) {m : Machine} {r : Run} (hb : Both nm ev ow m r) : SimV nm ev ow (fun v => lo ≤ v ∧ v ≤ hi) m (z82_raw m n lo hi) (z66_raw r n lo hi) := by
 obtain ⟨v, m1, v', r1, e1, e2, B1, f1, s1⟩ := expr_sim h hb
 have e1 : (exG 40000).2 m n = some (v, m1) := e1
 have e2 : rxG 40000 r n = some (v', r1) := e2
 unfold z82_raw z66_raw
 rw [e1, e2, Option.bind_some, Option.bind_some]
 unfold letT
 dsimp only
 by_cases z : m1.e = 0
 ·obtain ⟨z0, fu, rfl⟩ := f1 z
  cases hc : (decide (v' < lo)) || (decide (v' > hi)) with
  | true =>
   obtain ⟨F, ne⟩ := both_fail B1 13 (by decide)
   exact ⟨_, _, _, _, rfl, rfl, F, fun z => absurd z ne, fun h => absurd z0 h⟩
  | false =>
   rw [Bool.or_eq_false_iff, decide_eq_false_iff_not, decide_eq_false_iff_not] at hc
   exact ⟨_, _, _, _, rfl, rfl, B1, fun _ => ⟨z0, by omega, rfl, by omega⟩, fun h => absurd z0 h⟩
 ·obtain ⟨F, ne⟩ := both_fail B1 13 (by decide)
  have hfe : (z63 m1 13).e = m1.e := by rw [fail_e]; show (bif m1.e == 0 then 13 else m1.e) = m1.e; rw [beq_false_of_ne z]; rfl
  have hre : (z65 r1 13).E = m1.e := by rw [← F.1, hfe]
  have hr : r1.E = m1.e := B1.1.symm
  have go : ∀ (v : Int) (m2 : Machine) (v' : Int) (r2 : Run), m2.e = m1.e → r2.E = m1.e → SimV nm ev ow (fun v => lo ≤ v ∧ v ≤ hi) m (some (v, m2)) (some (v', r2)) := fun v m2 v' r2 h1 h2 => ⟨v, m2, v', r2, rfl, rfl, Both.dead (h1.trans h2.symm) (by rw [h1]; exact z), fun zz => absurd (h1.symm.trans zz) z, fun h => h1.trans (s1 h)⟩
  cases (decide (v < lo)) || (decide (v > hi)) <;> cases (decide (v' < lo)) || (decide (v' > hi))
  ·exact go _ _ _ _ rfl hr
  ·exact go _ _ _ _ rfl hre
  ·exact go _ _ _ _ hfe hr
  ·exact go _ _ _ _ hfe hre
theorem matchC_dead {on : ByteArray} {l : List Node} (h : ∀ x ∈ l, ∃ a, x.Kids = [a] ∧ okE nm on 16384 a) {m : Machine} (hm : m.e ≠ 0) (c : Cube) : ∃ w m', matchC l m c = some (w, m') ∧ m'.e = m.e := by
 obtain ⟨w, m', e, _⟩ := matchC_tot (d := 16384) (by decide) l m c (fun x hx => by obtain ⟨a, h1, h2⟩ := h x hx; exact ⟨a, h1, okE_wf _ _ h2⟩) (fun z => absurd z hm)
 exact ⟨w, m', e, (matchC_good l c).stay m w m' e hm⟩
theorem matchR_dead (n : Node) (k : Nat) (i : Int) {r : Run} (h : r.E ≠ 0) (c : Cube) : matchR n (k + 1) i r c = some (c, r) := by
 rw [matchR, beq_false_of_ne h, Bool.and_false]
 rfl
theorem match_sim_go {on : ByteArray} (n : Node) (hn : okM nm on 16384 n) : ∀ (k i : Nat), n.Kids.length < k + i → i ≤ n.Kids.length → ∀ (m : Machine) (r : Run) (c : Cube), Both nm ev ow m r → cubeOk c → SimV nm ev ow cubeOk m (matchC (n.Kids.drop i) m c) (matchR n k ((i : Nat) : Int) r c)
 | 0, i, h, hi, _, _, _, _, _ => by omega
 | k + 1, i, h, hi, m, r, c, hb, hc => by
  have hkids : ∀ j, ∀ x ∈ n.Kids.drop j, ∃ a, x.Kids = [a] ∧ okE nm on 16384 a := fun j x hx => by
   obtain ⟨a, h1, h2, _⟩ := hn.2 x (List.mem_of_mem_drop hx)
   exact ⟨a, h1, h2⟩
  have hlen := hn.1
  by_cases z0 : m.e = 0
  ·have hE : (r.E == 0) = true := by rw [← hb.1, z0]; rfl
   rw [matchR, hE, Bool.and_true]
   by_cases hlt : i < n.Kids.length
   ·have hd : n.Kids.drop i = n.Kids[i] :: n.Kids.drop (i + 1) := List.drop_eq_getElem_cons hlt
    obtain ⟨a, hk, wa, n0, n1⟩ := hn.2 n.Kids[i] (List.getElem_mem hlt)
    obtain ⟨v, m1, v', r1, e1, e2, B1, f1, s1⟩ := expr_sim wa hb
    obtain ⟨p0, p1⟩ := Field_range n.Kids[i].Text
    rw [decide_eq_true (show ((i : Nat) : Int) < ((n.Kids.length : Nat) : Int) by omega), cond_true, ixO_get hlt, Option.bind_some, hk, ixO_0, Option.bind_some, e2, Option.bind_some, ref_Field_eq, Option.bind_some, hd, matchC, hk, ixO_0, Option.bind_some, e1, Option.bind_some]
    dsimp only
    have hs := (sizeT_in (z91 n.Kids[i].Text).1)
    obtain ⟨b, hb1, hb2, b0, b1⟩ : ∃ b, (bif (decide (n.Kids[i].Num < 0)) then (sizeT ((z91 n.Kids[i].Text).1)) else n.Kids[i].Num) = b ∧ (bif (n.Kids[i].Num == (-1)) then (sizeT (z91 n.Kids[i].Text).1) else n.Kids[i].Num) = b ∧ 0 ≤ b ∧ b ≤ sizeT (z91 n.Kids[i].Text).1 := by
     by_cases hneg : n.Kids[i].Num = -1
     ·rw [hneg]
      exact ⟨_, rfl, rfl, hs.1, Int.le_refl _⟩
     ·rw [decide_eq_false (show ¬ n.Kids[i].Num < 0 by omega), beq_false_of_ne hneg]
      exact ⟨n.Kids[i].Num, rfl, rfl, by omega, n1⟩
    rw [hb1, hb2]
    obtain ⟨x, c1, e, q1, q2, q3, q4⟩ := with_eq hc p0 p1 (set_wrap v).1 b0 b1
    have hreq : (decide (0 ≤ (z91 n.Kids[i].Text).1) && decide ((z91 n.Kids[i].Text).1 < ((12 : Nat) : Int))) = true := by
     rw [decide_eq_true p0, decide_eq_true (show (z91 n.Kids[i].Text).1 < ((12 : Nat) : Int) from p1)]; rfl
    rw [q1, Option.bind_some, hreq, wrapI_succ (by omega)]
    dsimp only
    unfold reqO
    simp only [cond_true]
    obtain ⟨k, rfl⟩ : ∃ j, k = j + 1 := ⟨k - 1, by omega⟩
    by_cases z1 : m1.e = 0
    ·obtain ⟨_, fu, rfl⟩ := f1 z1
     rw [q2, Option.bind_some]
     dsimp only
     rw [q3, Bool.or_comm]
     cases hcc : (decide (v' < 0)) || (!(z45 (IntKind.u64.wrap v') (sizeT (z91 n.Kids[i].Text).1))) with
     | true =>
      obtain ⟨F, ne⟩ := both_fail B1 13 (by decide)
      rw [cond_true, cond_true, matchR_dead _ _ _ (by rw [← F.1]; exact ne)]
      exact ⟨_, _, _, _, rfl, rfl, F, fun z => absurd z ne, fun h => absurd z0 h⟩
     | false =>
      rw [Bool.or_eq_false_iff] at hcc
      obtain ⟨rfl, hc1⟩ := q4 (by rw [q3]; exact hcc.2)
      rw [cond_false, cond_false]
      obtain ⟨w, m2, w', r2, g1, g2, g3, g4, g5⟩ := match_sim_go n hn (k + 1) (i + 1) (by omega) (by omega) m1 r1 _ B1 hc1
      exact ⟨w, m2, w', r2, g1, g2, g3, fun z => by obtain ⟨h1, h2, h3, h4⟩ := g4 z; exact ⟨z0, by omega, h3, h4⟩, fun h => absurd z0 h⟩
    ·obtain ⟨y, hy⟩ := With_tot c (z91 n.Kids[i].Text).1 (IntKind.u64.wrap v) b p0 p1
     have hr1 : r1.E = m1.e := B1.1.symm
     have hr1n : r1.E ≠ 0 := by rw [hr1]; exact z1
     obtain ⟨F, ne⟩ := both_fail B1 13 (by decide)
     have hfe : (z63 m1 13).e = m1.e := by rw [fail_e]; show (bif m1.e == 0 then 13 else m1.e) = m1.e; rw [beq_false_of_ne z1]; rfl
     have hre : (z65 r1 13).E = m1.e := by rw [← F.1, hfe]
     have hm : ∃ w m', (bif (y.2 != 0) || (decide (v < 0)) then some (c, z63 m1 13) else matchC (n.Kids.drop (i + 1)) m1 y.1) = some (w, m') ∧ m'.e = m1.e := by
      cases (y.2 != 0) || (decide (v < 0)) with
      | true => exact ⟨_, _, rfl, hfe⟩
      | false => exact matchC_dead (hkids (i + 1)) z1 y.1
     obtain ⟨w, m2, g1, g2⟩ := hm
     rw [hy, Option.bind_some]
     rw [g1, matchR_dead _ _ _ (by rw [hre]; exact z1), matchR_dead _ _ _ hr1n]
     have go : ∀ (w' : Cube) (r2 : Run), r2.E = m1.e → SimV nm ev ow cubeOk m (some (w, m2)) (some (w', r2)) := fun w' r2 h2 => ⟨w, m2, w', r2, rfl, rfl, Both.dead (g2.trans h2.symm) (by rw [g2]; exact z1), fun zz => absurd (g2.symm.trans zz) z1, fun h => absurd z0 h⟩
     cases (decide (v' < 0)) || (!(z45 (IntKind.u64.wrap v') (sizeT (z91 n.Kids[i].Text).1)))
     ·exact go _ _ hr1
     ·exact go _ _ hre
   ·rw [decide_eq_false (show ¬ ((i : Nat) : Int) < ((n.Kids.length : Nat) : Int) by omega), List.drop_eq_nil_of_le (by omega)]
    exact ⟨c, m, c, r, rfl, rfl, hb, fun _ => ⟨z0, Int.le_refl _, rfl, hc⟩, fun _ => rfl⟩
  ·obtain ⟨w, m', e, h2⟩ := matchC_dead (hkids i) z0 c
   have hrn : r.E ≠ 0 := by rw [← hb.1]; exact z0
   rw [e, matchR_dead _ _ _ hrn]
   exact ⟨_, _, _, _, rfl, rfl, Both.dead (h2.trans hb.1) (by rw [h2]; exact z0), fun zz => absurd (h2.symm.trans zz) z0, fun _ => h2⟩
theorem match_sim {on : ByteArray} {n : Node} (hn : okM nm on 16384 n) {m : Machine} {r : Run} (hb : Both nm ev ow m r) : SimV nm ev ow cubeOk m (z83_raw m n) (z67_raw 20000 r n) := by
 rw [match_eq, matchR_eq]
 have := hn.1
 exact match_sim_go n hn 20000 0 (by omega) (Nat.zero_le _) m r cube_All hb all_ok
def actOk (x : Act) : Bool := bif (x.Kind == 1) then ((((decide (x.Port ≥ 1)) && (decide (x.Port ≤ 16))) && (x.Field == 0)) && (x.Value == 0)) else (bif (x.Kind == 2) then ((((x.Port == 0) && (decide (x.Field ≥ 0))) && (decide (x.Field < 12))) && (z45 x.Value (sizeT x.Field))) else ((x.Kind == 3) && (((x.Port == 0) && (x.Field == 0)) && (x.Value == 0))))
theorem acts_ok {l : List Act} (h : (∀ x ∈ l, actOk x = true) ∧ l.length ≤ 8) : z27 l = true := by
 have key : ∀ l : List Act, (∀ x ∈ l, actOk x = true) → z27_l0s l = .inl () := by
  intro l
  induction l with
  | nil => intro _; rfl
  | cons x rest ih =>
   intro h
   rw [z27_l0s]
   show (bif !(actOk x) then _ else _) = _
   rw [h x List.mem_cons_self]
   exact ih fun y hy => h y (List.mem_cons_of_mem _ hy)
 unfold z27
 rw [key l h.1, List.length_map]
 exact decide_eq_true (by have := h.2; show ((l.length : Nat) : Int) ≤ 8; omega)
theorem fail_dead {m : Machine} (h : m.e ≠ 0) (e : Int) : (z63 m e).e = m.e := by
 rw [fail_e]; show (bif m.e == 0 then e else m.e) = m.e; rw [beq_false_of_ne h]; rfl
theorem refail_dead {r : Run} (h : r.E ≠ 0) (e : Int) : (z65 r e).E = r.E := by
 rw [refail_e]; show (bif r.E == 0 then e else r.E) = r.E; rw [beq_false_of_ne h]; rfl
theorem acts_sim_go {on : ByteArray} : ∀ (l : List Node), (∀ x ∈ l, (x.Kind = 15 ∨ x.Kind = 16 ∨ x.Kind = 17) ∧ ((x.Kind = 15 ∨ x.Kind = 16) → ∃ a, x.Kids = [a] ∧ okE nm on 16384 a)) → ∀ (m : Machine) (r : Run) (out out' : List Act), Both nm ev ow m r → out.length + l.length ≤ 8 → out'.length = out.length → (m.e = 0 → out' = out ∧ ∀ x ∈ out, actOk x = true) →
  SimV nm ev ow (fun l => (∀ x ∈ l, actOk x = true) ∧ l.length ≤ 8) m (actsC l m out) (actsR l r out')
 | [], _, m, r, out, out', hb, h1, h2, h3 => ⟨out, m, out', r, rfl, rfl, hb, fun z => ⟨z, Int.le_refl _, (h3 z).1, (h3 z).2, by simpa using h1⟩, fun _ => rfl⟩
 | x :: rest, hl, m, r, out, out', hb, h1, h2, h3 => by
  rw [List.length_cons] at h1
  have hrest := fun y hy => hl y (List.mem_cons_of_mem x hy)
  have next : ∀ (m1 : Machine) (r1 : Run) (t t' : Act), Both nm ev ow m1 r1 → (m1.e = 0 → m.e = 0 ∧ m1.fuel ≤ m.fuel ∧ t' = t ∧ actOk t = true) → (m.e ≠ 0 → m1.e = m.e) → SimV nm ev ow (fun l => (∀ x ∈ l, actOk x = true) ∧ l.length ≤ 8) m (fitO (out.length + [t].length) 32 (actsC rest m1 (out ++ [t]))) (fitO (out'.length + [t'].length) 32 (actsR rest r1 (out' ++ [t']))) := by
   intro m1 r1 t t' B g s
   rw [fit_ok (by simp; omega), fit_ok (by simp; omega)]
   obtain ⟨w, m2, w', r2, g1, g2, g3, g4, g5⟩ := acts_sim_go rest hrest m1 r1 (out ++ [t]) (out' ++ [t']) B (by simp; omega) (by simp [h2]) (fun z => by
    obtain ⟨z0, _, ht, ho⟩ := g z
    obtain ⟨k1, k2⟩ := h3 z0
    refine ⟨by rw [ht, k1], fun y hy => ?_⟩
    rcases List.mem_append.1 hy with hy | hy
    ·exact k2 y hy
    ·rw [List.mem_singleton.1 hy]; exact ho)
   refine ⟨w, m2, w', r2, g1, g2, g3, fun z => ?_, fun h => (g5 (by rw [s h]; exact h)).trans (s h)⟩
   obtain ⟨k1, k2, k3, k4⟩ := g4 z
   obtain ⟨j1, j2, _⟩ := g k1
   exact ⟨j1, by omega, k3, k4⟩
  obtain ⟨hkind, hkid⟩ := hl x List.mem_cons_self
  rw [actsC, actsR]
  rcases hkind with h | h | h
  ·obtain ⟨a, hk, wa⟩ := hkid (.inl h)
   obtain ⟨v, m1, v', r1, e1, e2, B1, f1, s1⟩ := within_sim wa 1 16 hb
   rw [h, show ((15 : Int) == 15) = true from rfl, cond_true, cond_true, hk, ixO_0, Option.bind_some, Option.bind_some, e1, e2, Option.bind_some, Option.bind_some]
   refine next m1 r1 _ _ B1 (fun z => ?_) s1
   obtain ⟨z0, fu, rfl, p1, p2⟩ := f1 z
   refine ⟨z0, fu, rfl, ?_⟩
   show (((decide (v' ≥ 1)) && (decide (v' ≤ 16))) && true) && true = true
   rw [decide_eq_true p1, decide_eq_true p2]
   rfl
  ·obtain ⟨a, hk, wa⟩ := hkid (.inr h)
   obtain ⟨v, m1, v', r1, e1, e2, B1, f1, s1⟩ := expr_sim wa hb
   obtain ⟨p0, p1⟩ := Field_range x.Text
   rw [h, show ((16 : Int) == 15) = false from rfl, show ((16 : Int) == 16) = true from rfl, cond_false, cond_false, cond_true, cond_true, ref_Field_eq, Option.bind_some, hk, ixO_0, Option.bind_some, Option.bind_some, e1, e2, Option.bind_some, Option.bind_some]
   dsimp only
   rw [setT_fits _ p0 p1 (set_wrap v).1]
   by_cases z1 : m1.e = 0
   ·obtain ⟨z0, fu, rfl⟩ := f1 z1
    rw [Bool.or_comm]
    cases hc : (decide (v' < 0)) || (!(z45 (IntKind.u64.wrap v') (sizeT (z91 x.Text).1))) with
    | true =>
     obtain ⟨F, ne⟩ := both_fail B1 13 (by decide)
     exact next _ _ _ _ F (fun z => absurd z ne) (fun h => absurd z0 h)
    | false =>
     refine next _ _ _ _ B1 (fun _ => ⟨z0, by show m1.fuel ≤ m.fuel; omega, rfl, ?_⟩) (fun h => absurd z0 h)
     rw [Bool.or_eq_false_iff] at hc
     have hfi : z45 (IntKind.u64.wrap v') (sizeT (z91 x.Text).1) = true := by simpa using hc.2
     show (((true && (decide ((z91 x.Text).1 ≥ 0))) && (decide ((z91 x.Text).1 < 12))) && (z45 (IntKind.u64.wrap v') (sizeT (z91 x.Text).1))) = true
     rw [decide_eq_true (show (z91 x.Text).1 ≥ 0 from p0), decide_eq_true p1, hfi]
     rfl
   ·have hr1 : r1.E = m1.e := B1.1.symm
    have hr1n : r1.E ≠ 0 := by rw [hr1]; exact z1
    refine next _ _ _ _ (Both.dead ?_ ?_) (fun z => ?_) (fun h => ?_)
    ·cases !(z45 (IntKind.u64.wrap v) (sizeT (z91 x.Text).1)) || (decide (v < 0)) <;> cases (decide (v' < 0)) || (!(z45 (IntKind.u64.wrap v') (sizeT (z91 x.Text).1)))
     ·exact hr1.symm
     ·exact hr1.symm.trans (refail_dead hr1n 13).symm
     ·exact (fail_dead z1 13).trans hr1.symm
     ·exact (fail_dead z1 13).trans (hr1.symm.trans (refail_dead hr1n 13).symm)
    ·cases !(z45 (IntKind.u64.wrap v) (sizeT (z91 x.Text).1)) || (decide (v < 0))
     ·exact z1
     ·show (z63 m1 13).e ≠ 0
      rw [fail_dead z1]; exact z1
    ·exfalso
     cases hq : !(z45 (IntKind.u64.wrap v) (sizeT (z91 x.Text).1)) || (decide (v < 0)) <;> rw [hq] at z
     ·exact z1 z
     ·have z : (z63 m1 13).e = 0 := z
      rw [fail_dead z1] at z
      exact z1 z
    ·cases !(z45 (IntKind.u64.wrap v) (sizeT (z91 x.Text).1)) || (decide (v < 0))
     ·exact s1 h
     ·exact (fail_dead z1 13).trans (s1 h)
  ·rw [h, show ((17 : Int) == 15) = false from rfl, show ((17 : Int) == 16) = false from rfl, cond_false, cond_false, cond_false, cond_false]
   exact next m r _ _ hb (fun z => ⟨z, Int.le_refl _, rfl, rfl⟩) (fun _ => rfl)
theorem acts_sim {on : ByteArray} {n : Node} (hn : okA nm on 16384 n) {m : Machine} {r : Run} (hb : Both nm ev ow m r) : SimV nm ev ow (fun l => z27 l = true) m (z84_raw m n) (z68_raw r n) := by
 rw [acts_eq, actsR_eq]
 obtain ⟨w, m1, w', r1, g1, g2, g3, g4, g5⟩ := acts_sim_go n.Kids hn.2 m r [] [] hb (by simpa using hn.1) rfl (fun _ => ⟨rfl, fun x hx => by cases hx⟩)
 exact ⟨w, m1, w', r1, g1, g2, g3, fun z => by obtain ⟨a, b, c, d⟩ := g4 z; exact ⟨a, b, c, acts_ok d⟩, g5⟩
end
end Go.Proofs.Yteioljlgcagnnaa
namespace Go.Proofs.Yteioljlgcagnnaa
open Go.Sh
section
variable {nm : List ByteArray} {ev : Event} {ow : Int}
def SimU (nm : List ByteArray) (ev : Event) (ow : Int) (m : Machine) (o : Option Machine) (p : Option Run) : Prop :=
 ∃ m' r', o = some m' ∧ p = some r' ∧ Both nm ev ow m' r' ∧ (m'.e = 0 → m.e = 0 ∧ m'.fuel ≤ m.fuel) ∧ (m.e ≠ 0 → m'.e = m.e)
theorem SimU.same {m : Machine} {r : Run} (h : Both nm ev ow m r) : SimU nm ev ow m (some m) (some r) := ⟨m, r, rfl, rfl, h, fun z => ⟨z, Int.le_refl _⟩, fun _ => rfl⟩
theorem SimV.bindU {V : Type} {P : V → Prop} {m : Machine} {o : Option (V × Machine)} {p : Option (V × Run)} {g : V × Machine → Option Machine} {g' : V × Run → Option Run} (h : SimV nm ev ow P m o p) (k : ∀ v m1 v' r1, Both nm ev ow m1 r1 → (m1.e = 0 → m.e = 0 ∧ v' = v ∧ P v) → SimU nm ev ow m1 (g (v, m1)) (g' (v', r1))) : SimU nm ev ow m (o.bind g) (p.bind g') := by
 obtain ⟨v, m1, v', r1, e1, e2, B, f, s⟩ := h
 obtain ⟨m2, r2, g1, g2, g3, g4, g5⟩ := k v m1 v' r1 B fun z => ⟨(f z).1, (f z).2.2⟩
 rw [e1, e2]
 refine ⟨m2, r2, g1, g2, g3, fun z => ?_, fun h => (g5 (by rw [s h]; exact h)).trans (s h)⟩
 obtain ⟨z1, f1⟩ := g4 z
 obtain ⟨z0, f0, _⟩ := f z1
 exact ⟨z0, by omega⟩
theorem SimU.bindU {m : Machine} {o : Option Machine} {p : Option Run} {g : Machine → Option Machine} {g' : Run → Option Run} (h : SimU nm ev ow m o p) (k : ∀ m1 r1, Both nm ev ow m1 r1 → (m1.e = 0 → m.e = 0 ∧ m1.fuel ≤ m.fuel) → SimU nm ev ow m1 (g m1) (g' r1)) : SimU nm ev ow m (o.bind g) (p.bind g') := by
 obtain ⟨m1, r1, e1, e2, B, f, s⟩ := h
 obtain ⟨m2, r2, g1, g2, g3, g4, g5⟩ := k m1 r1 B f
 rw [e1, e2]
 refine ⟨m2, r2, g1, g2, g3, fun z => ?_, fun h => (g5 (by rw [s h]; exact h)).trans (s h)⟩
 obtain ⟨z1, f1⟩ := g4 z
 obtain ⟨z0, f0⟩ := f z1
 exact ⟨z0, by omega⟩
theorem push_sim {m : Machine} {r : Run} (hb : Both nm ev ow m r) (u u' : Int) (c c' : Mod) (h : m.e = 0 → u' = u ∧ c' = { c with Owner := ow } ∧ 0 ≤ u ∧ u ≤ 7 ∧ modOk { c with Owner := ow }) : SimU nm ev ow m (z85_raw m u c) (pushR u' c' r) := by
 rw [z85_raw, pushR, List.length_map, List.length_map]
 unfold letT
 dsimp only
 by_cases z : m.e = 0
 ·obtain ⟨rfl, hl⟩ := hb.2 z
  obtain ⟨rfl, rfl, hu0, hu1, hm⟩ := h z
  have hmost := hl.most
  show SimU nm ev ow m _ (bif ((((m.out.length : Nat) : Int) == 16)) then _ else (bif (m.e == 0) then fitO (m.out.length + _) 272 (some ({ asRun m with Out := m.out ++ [_] } : Run)) else some (asRun m)))
  by_cases hlen : m.out.length = 16
  ·obtain ⟨F, ne⟩ := both_fail hb 3 (by decide)
   have h1 : ((z63 m 3).e == 0) = false := beq_false_of_ne ne
   have h2 : ((z65 (asRun m) 3).E == 0) = false := beq_false_of_ne (by rw [← F.1]; exact ne)
   rw [hlen, show decide (((16 : Nat) : Int) ≥ 16) = true from rfl, show ((((16 : Nat) : Int)) == 16) = true from rfl, cond_true, cond_true, h1, h2]
   exact ⟨_, _, rfl, rfl, F, fun z => absurd z ne, fun h => absurd z h⟩
  ·rw [decide_eq_false (show ¬ (((m.out.length : Nat) : Int) ≥ 16) by omega), beq_false_of_ne (show ((m.out.length : Nat) : Int) ≠ 16 by omega), show (m.e == 0) = true by rw [z]; rfl, cond_false, cond_false, cond_true, cond_true, fit_ok (by simp; omega), fit_ok (by simp; omega), hl.owner]
   refine ⟨_, _, rfl, rfl, ?_, fun _ => ⟨z, Int.le_refl _⟩, fun h => absurd z h⟩
   have hrun : ({ asRun m with Out := m.out ++ [{ Unit := u', Mod := { c with Owner := ow } }] } : Run) = asRun { m with owner := ow, out := m.out ++ [{ Unit := u', Mod := { c with Owner := ow } }] } := by rw [← hl.owner]; rfl
   rw [hrun]
   refine Both.live (m := { m with owner := ow, out := m.out ++ [{ Unit := u', Mod := { c with Owner := ow } }] }) ⟨hl.names, hl.event, rfl, hl.fuel0, hl.fuel1, ?_, fun x hx => ?_⟩
   ·show (m.out ++ [_]).length ≤ 16
    rw [List.length_append, List.length_singleton]
    omega
   ·rcases List.mem_append.1 hx with hx | hx
    ·exact hl.outs x hx
    ·rw [List.mem_singleton.1 hx]
     exact ⟨hu0, hu1, rfl, hm⟩
 ·have hr : r.E ≠ 0 := by rw [← hb.1]; exact z
  have h1 : (m.e == 0) = false := beq_false_of_ne z
  have h2 : (r.E == 0) = false := beq_false_of_ne hr
  have h3 : ((z63 m 3).e == 0) = false := by rw [fail_dead z]; exact h1
  have h4 : ((z65 r 3).E == 0) = false := by rw [refail_dead hr]; exact h2
  rw [h1, h2, h3, h4]
  have go : ∀ (m2 : Machine) (r2 : Run), m2.e = m.e → r2.E = r.E → SimU nm ev ow m (some m2) (some r2) := fun m2 r2 k1 k2 => ⟨m2, r2, rfl, rfl, Both.dead (k1.trans (hb.1.trans k2.symm)) (by rw [k1]; exact z), fun zz => absurd (k1.symm.trans zz) z, fun _ => k1⟩
  cases decide (((m.out.length : Nat) : Int) ≥ 16) <;> cases (((r.Out.length : Nat) : Int) == 16)
  ·exact go _ _ rfl rfl
  ·exact go _ _ rfl (refail_dead hr 3)
  ·exact go _ _ (fail_dead z 3) rfl
  ·exact go _ _ (fail_dead z 3) (refail_dead hr 3)
theorem rng65 : (0 : Int) ≤ 0 ∧ (0 : Int) ≤ 65535 := by decide
theorem rng20 : (0 : Int) ≤ 0 ∧ (0 : Int) ≤ 1048576 := by decide
theorem Both.own {m : Machine} {r : Run} (h : Both nm ev ow m r) (z : m.e = 0) : r.Owner = ow := by
 obtain ⟨rfl, hl⟩ := h.2 z
 exact hl.owner
theorem add_sim {on : ByteArray} {n : Node} (h : ∃ u m p i h a, n.Kids = [u, m, p, i, h, a] ∧ okE nm on 16384 u ∧ okM nm on 16384 m ∧ okE nm on 16384 p ∧ okE nm on 16384 i ∧ okE nm on 16384 h ∧ okA nm on 16384 a) (hk8 : n.Kind = 8) (q : Nat) {m : Machine} {r : Run} (hb : Both nm ev ow m r) : SimU nm ev ow m (z61_raw m n) ((rsG (q + 1)).2 r n) := by
 obtain ⟨u, mm, p, i, hh, a, hk, wu, wm, wp, wi, wh, wa⟩ := h
 rw [stR_8 q r n hk8, z61_raw, hk]
 rw [show ixO [u, mm, p, i, hh, a] 0 = some u from rfl, show ixO [u, mm, p, i, hh, a] 1 = some mm from rfl, show ixO [u, mm, p, i, hh, a] 2 = some p from rfl, show ixO [u, mm, p, i, hh, a] 3 = some i from rfl, show ixO [u, mm, p, i, hh, a] 4 = some hh from rfl, show ixO [u, mm, p, i, hh, a] 5 = some a from rfl]
 simp only [Option.bind_some, bind_some_id]
 refine SimV.bindU (within_sim wu 0 7 hb) fun v1 m1 v1' r1 B1 f1 => ?_
 refine SimV.bindU (match_sim wm B1) fun v2 m2 v2' r2 B2 f2 => ?_
 refine SimV.bindU (within_sim wp 0 65535 B2) fun v3 m3 v3' r3 B3 f3 => ?_
 refine SimV.bindU (within_sim wi 0 1048576 B3) fun v4 m4 v4' r4 B4 f4 => ?_
 refine SimV.bindU (within_sim wh 0 1048576 B4) fun v5 m5 v5' r5 B5 f5 => ?_
 refine SimV.bindU (acts_sim wa B5) fun v6 m6 v6' r6 B6 f6 => ?_
 refine push_sim B6 _ _ _ _ fun z6 => ?_
 obtain ⟨z5, rfl, p6⟩ := f6 z6
 obtain ⟨z4, rfl, p5⟩ := f5 z5
 obtain ⟨z3, rfl, p4⟩ := f4 z4
 obtain ⟨z2, rfl, p3⟩ := f3 z3
 obtain ⟨z1, rfl, p2⟩ := f2 z2
 obtain ⟨z0, rfl, p1⟩ := f1 z1
 exact ⟨rfl, by rw [B2.own z2], p1.1, p1.2, p2, p6, p3, p4, p5, .inl rfl⟩
theorem turn9_sim {on : ByteArray} {n : Node} (h : ∃ u m l, n.Kids = u :: m :: l ∧ okE nm on 16384 u ∧ okM nm on 16384 m ∧ ((n.Num ≠ 1 ∧ l = []) ∨ (n.Num = 1 ∧ ∃ p, l = [p] ∧ okE nm on 16384 p))) (hk9 : n.Kind = 9) (q : Nat) {m : Machine} {r : Run} (hb : Both nm ev ow m r) : SimU nm ev ow m (z62_raw m n 3 5) ((rsG (q + 1)).2 r n) := by
 obtain ⟨u, mm, l, hk, wu, wm, hl⟩ := h
 rw [stR_9 q r n hk9, z62_raw, hk9, show ((9 : Int) == 10) = false from rfl]
 simp only [bind_some_id, cond_false]
 rcases hl with ⟨hn, rfl⟩ | ⟨hn, p, rfl, wp⟩
 ·rw [hk, show ixO [u, mm] 0 = some u from rfl, show ixO [u, mm] 1 = some mm from rfl, beq_false_of_ne hn]
  simp only [Option.bind_some, cond_false]
  refine SimV.bindU (within_sim wu 0 7 hb) fun v1 m1 v1' r1 B1 f1 => ?_
  refine SimV.bindU (match_sim wm B1) fun v2 m2 v2' r2 B2 f2 => ?_
  refine push_sim B2 _ _ _ _ fun z2 => ?_
  obtain ⟨z1, rfl, p2⟩ := f2 z2
  obtain ⟨z0, rfl, p1⟩ := f1 z1
  exact ⟨rfl, by rw [B2.own z2], p1.1, p1.2, p2, rfl, rng65, rng20, rng20, .inr ⟨rfl, rfl, rfl, .inr (.inl ⟨rfl, rfl, rfl⟩)⟩⟩
 ·rw [hk, show ixO [u, mm, p] 0 = some u from rfl, show ixO [u, mm, p] 1 = some mm from rfl, show ixO [u, mm, p] 2 = some p from rfl, show (n.Num == 1) = true by rw [hn]; rfl]
  simp only [Option.bind_some, cond_true]
  refine SimV.bindU (within_sim wu 0 7 hb) fun v1 m1 v1' r1 B1 f1 => ?_
  refine SimV.bindU (match_sim wm B1) fun v2 m2 v2' r2 B2 f2 => ?_
  refine SimV.bindU (within_sim wp 0 65535 B2) fun v3 m3 v3' r3 B3 f3 => ?_
  refine push_sim B3 _ _ _ _ fun z3 => ?_
  obtain ⟨z2, rfl, p3⟩ := f3 z3
  obtain ⟨z1, rfl, p2⟩ := f2 z2
  obtain ⟨z0, rfl, p1⟩ := f1 z1
  exact ⟨rfl, by rw [B2.own z2], p1.1, p1.2, p2, rfl, p3, rng20, rng20, .inr ⟨rfl, rfl, rfl, .inr (.inr (.inr ⟨rfl, rfl⟩))⟩⟩
theorem turn10_sim {on : ByteArray} {n : Node} (h : ∃ u m l a, n.Kids = u :: m :: (l ++ [a]) ∧ okE nm on 16384 u ∧ okM nm on 16384 m ∧ okA nm on 16384 a ∧ ((n.Num ≠ 1 ∧ l = []) ∨ (n.Num = 1 ∧ ∃ p, l = [p] ∧ okE nm on 16384 p))) (hk10 : n.Kind = 10) (q : Nat) {m : Machine} {r : Run} (hb : Both nm ev ow m r) : SimU nm ev ow m (z62_raw m n 2 4) ((rsG (q + 1)).2 r n) := by
 obtain ⟨u, mm, l, a, hk, wu, wm, wa, hl⟩ := h
 rw [stR_10 q r n hk10, z62_raw, hk10, show ((10 : Int) == 10) = true from rfl]
 simp only [bind_some_id, cond_true]
 rcases hl with ⟨hn, rfl⟩ | ⟨hn, p, rfl, wp⟩
 ·rw [hk, List.nil_append, show ixO [u, mm, a] (IntKind.i64.wrap ((((List.map Node.av [u, mm, a]).length : Nat) : Int) - 1)) = some a from rfl, show ixO [u, mm, a] 0 = some u from rfl, show ixO [u, mm, a] 1 = some mm from rfl, beq_false_of_ne hn]
  simp only [Option.bind_some, cond_false]
  refine SimV.bindU (within_sim wu 0 7 hb) fun v1 m1 v1' r1 B1 f1 => ?_
  refine SimV.bindU (match_sim wm B1) fun v2 m2 v2' r2 B2 f2 => ?_
  refine SimV.bindU (acts_sim wa B2) fun v6 m6 v6' r6 B6 f6 => ?_
  refine push_sim B6 _ _ _ _ fun z6 => ?_
  obtain ⟨z2, rfl, p6⟩ := f6 z6
  obtain ⟨z1, rfl, p2⟩ := f2 z2
  obtain ⟨z0, rfl, p1⟩ := f1 z1
  exact ⟨rfl, by rw [B2.own z2], p1.1, p1.2, p2, p6, rng65, rng20, rng20, .inr ⟨rfl, rfl, rfl, .inl ⟨rfl, rfl⟩⟩⟩
 ·rw [hk, show [p] ++ [a] = [p, a] from rfl, show ixO [u, mm, p, a] (IntKind.i64.wrap ((((List.map Node.av [u, mm, p, a]).length : Nat) : Int) - 1)) = some a from rfl, show ixO [u, mm, p, a] 0 = some u from rfl, show ixO [u, mm, p, a] 1 = some mm from rfl, show ixO [u, mm, p, a] 2 = some p from rfl, show (n.Num == 1) = true by rw [hn]; rfl]
  simp only [Option.bind_some, cond_true]
  refine SimV.bindU (within_sim wu 0 7 hb) fun v1 m1 v1' r1 B1 f1 => ?_
  refine SimV.bindU (match_sim wm B1) fun v2 m2 v2' r2 B2 f2 => ?_
  refine SimV.bindU (within_sim wp 0 65535 B2) fun v3 m3 v3' r3 B3 f3 => ?_
  refine SimV.bindU (acts_sim wa B3) fun v6 m6 v6' r6 B6 f6 => ?_
  refine push_sim B6 _ _ _ _ fun z6 => ?_
  obtain ⟨z3, rfl, p6⟩ := f6 z6
  obtain ⟨z2, rfl, p3⟩ := f3 z3
  obtain ⟨z1, rfl, p2⟩ := f2 z2
  obtain ⟨z0, rfl, p1⟩ := f1 z1
  exact ⟨rfl, by rw [B2.own z2], p1.1, p1.2, p2, p6, p3, rng20, rng20, .inr ⟨rfl, rfl, rfl, .inr (.inr (.inl rfl))⟩⟩
def setIf (t : ByteArray) (a : Int) (x : Var) : Var := if (x.Name == t) = true then { Name := x.Name, N := a } else x
theorem setR_eq (n : Node) (a : Int) (r : Run) (hr : r.E = 0) : ∀ (k i : Nat) (o : List Var), o.length < k + i → i ≤ o.length → o.length ≤ 1000000 → z42_l0 n (a, r) k ((i : Nat) : Int) o = some (o.take i ++ (o.drop i).map (setIf n.Text a))
 | 0, i, o, h, hi, _ => by omega
 | k + 1, i, o, h, hi, hl => by
  rw [z42_l0, List.length_map]
  dsimp only
  rw [show (r.E == 0) = true by rw [hr]; rfl, Bool.and_true]
  by_cases hlt : i < o.length
  ·have hd : o.drop i = o[i] :: o.drop (i + 1) := List.drop_eq_getElem_cons hlt
   have ht : o.take (i + 1) = o.take i ++ [o[i]] := List.take_succ_eq_append_getElem hlt
   rw [decide_eq_true (show ((i : Nat) : Int) < ((o.length : Nat) : Int) by omega), cond_true, ixO_get hlt, Option.bind_some, wrapI_succ (by omega), Int.toNat_natCast, hd, List.map_cons]
   cases hc : o[i].Name == n.Text with
   | true =>
    rw [cond_true, setR_eq n a r hr k (i + 1) _ (by rw [List.length_set]; omega) (by rw [List.length_set]; omega) (by rw [List.length_set]; omega)]
    rw [List.drop_set, if_pos (by omega), List.take_succ_eq_append_getElem (by rw [List.length_set]; exact hlt), List.getElem_set_self, List.take_set, List.append_assoc]
    have : (o.take i).set i { Name := o[i].Name, N := a } = o.take i := List.set_eq_of_length_le (by rw [List.length_take]; omega)
    rw [this]
    unfold setIf
    rw [if_pos hc]
    rfl
   | false =>
    rw [cond_false, setR_eq n a r hr k (i + 1) o (by omega) (by omega) hl, ht, List.append_assoc]
    unfold setIf
    rw [if_neg (by rw [hc]; decide)]
    rfl
  ·rw [decide_eq_false (show ¬ ((i : Nat) : Int) < ((o.length : Nat) : Int) by omega), List.drop_eq_nil_of_le (by omega), List.take_of_length_le (by omega)]
   simp
theorem set_map (t : ByteArray) (a : Int) : ∀ l : List Var, (l.map (·.Name)).Nodup → l.map (setIf t a) = match l.findIdx? (fun x => x.Name == t) with | some k => l.set k { Name := t, N := a } | none => l
 | [], _ => rfl
 | x :: rest, h => by
  rw [List.map_cons, List.nodup_cons] at h
  rw [List.map_cons, List.findIdx?_cons, set_map t a rest h.2]
  cases hx : x.Name == t with
  | true =>
   have ht : x.Name = t := by rw [ba_beq, decide_eq_true_eq] at hx; exact hx
   have hn : rest.findIdx? (fun x => x.Name == t) = none := by
    rw [List.findIdx?_eq_none_iff]
    intro y hy
    rw [ba_beq, decide_eq_false_iff_not]
    intro e
    exact h.1 (List.mem_map.2 ⟨y, hy, e.trans ht.symm⟩)
   rw [hn]
   unfold setIf
   rw [if_pos hx]
   simp [ht]
  | false =>
   unfold setIf
   rw [if_neg (by rw [hx]; decide)]
   simp only [Bool.false_eq_true, if_false]
   cases rest.findIdx? (fun x => x.Name == t) <;> rfl
theorem set_sim {on : ByteArray} {n : Node} (hnd : nm.Nodup) (hnl : nm.length ≤ 100000) (h : ∃ a, n.Kids = [a] ∧ okE nm on 16384 a) (hk4 : n.Kind = 4) (q : Nat) {m : Machine} {r : Run} (hb : Both nm ev ow m r) : SimU nm ev ow m (z59_raw m n) ((rsG (q + 1)).2 r n) := by
 obtain ⟨a, hk, wa⟩ := h
 obtain ⟨v, m1, v', r1, e1, e2, B1, f1, s1⟩ := expr_sim wa hb
 have e1 : (exG 40000).2 m a = some (v, m1) := e1
 rw [stR_4 q r n hk4, z59_raw, hk, ixO_0, Option.bind_some, Option.bind_some, e1, e2, Option.bind_some, Option.bind_some]
 unfold letT
 dsimp only
 have he : z78 m1 n.Text = (idxF (fun y0 : Var => y0.Name == n.Text) m1.vars, m1) := by
  show (z89 m1.vars (fun y0 => z90 y0 n.Text), m1) = _
  rw [z89_idx]
  rfl
 rw [he]
 dsimp only
 by_cases z : m1.e = 0
 ·obtain ⟨rfl, hl⟩ := B1.2 z
  obtain ⟨z0, fu, rfl⟩ := f1 z
  have hlen : m1.vars.length ≤ 100000 := by
   have := congrArg List.length hl.names
   rw [List.length_map] at this
   omega
  have hr := setR_eq n v' (asRun m1) z 200000 0 m1.vars (by omega) (Nat.zero_le _) (by omega)
  rw [List.take_zero, List.nil_append, List.drop_zero, set_map n.Text v' m1.vars (by rw [hl.names]; exact hnd)] at hr
  have hr : z42_l0 n (v', asRun m1) 200000 0 (asRun m1).Vars = _ := hr
  rw [hr, show (m1.e == 0) = true by rw [z]; rfl, Bool.and_true]
  unfold idxF
  cases hf : m1.vars.findIdx? (fun y0 : Var => y0.Name == n.Text) with
  | none =>
   exact ⟨m1, _, rfl, rfl, B1, fun _ => ⟨z0, by omega⟩, fun h => absurd z0 h⟩
  | some k =>
   obtain ⟨hk1, hk2, _⟩ := List.findIdx?_eq_some_iff_getElem.1 hf
   have ht : m1.vars[k].Name = n.Text := by rw [ba_beq, decide_eq_true_eq] at hk2; exact hk2
   dsimp only
   rw [decide_eq_true (show ((k : Nat) : Int) ≥ 0 by omega), cond_true, ixO_get hk1, Option.bind_some, Option.bind_some, ht, Int.toNat_natCast]
   refine ⟨_, _, rfl, rfl, ?_, fun _ => ⟨z0, by show m1.fuel ≤ m.fuel; omega⟩, fun h => absurd z0 h⟩
   refine Both.live (m := { m1 with vars := m1.vars.set k { Name := n.Text, N := v' } }) ⟨?_, hl.event, hl.owner, hl.fuel0, hl.fuel1, hl.most, hl.outs⟩
   show (m1.vars.set k _).map (·.Name) = nm
   rw [List.map_set]
   show (m1.vars.map (·.Name)).set k n.Text = nm
   have : n.Text = (m1.vars.map (·.Name))[k]'(by rw [List.length_map]; exact hk1) := by rw [List.getElem_map, ht]
   rw [this, List.set_getElem_self, hl.names]
 ·have hr : r1.E ≠ 0 := by rw [← B1.1]; exact z
  have hs : z42_l0 n (v', r1) 200000 0 r1.Vars = some r1.Vars := by
   rw [show (200000 : Nat) = 199999 + 1 from rfl, z42_l0]
   dsimp only
   rw [beq_false_of_ne hr, Bool.and_false]
   rfl
  rw [hs, beq_false_of_ne z, Bool.and_false]
  exact ⟨m1, r1, rfl, rfl, B1, fun zz => absurd zz z, s1⟩
end
section
variable {nm : List ByteArray} {ev : Event} {ow : Int}
theorem stmtsC_dead (g : Machine → Node → Option Machine) : ∀ (l : List Node) (m : Machine), m.e ≠ 0 → ∃ m', stmtsC g l m = some m' ∧ m'.e = m.e
 | [], m, _ => ⟨m, rfl, rfl⟩
 | x :: rest, m, h => by
  have hb : z39 m = (false, { m with fuel := IntKind.i64.wrap (m.fuel - 1) }) := by
   unfold z39
   rw [beq_false_of_ne h, Bool.false_and, cond_false]
  rw [stmtsC, hb]
  exact stmtsC_dead g rest { m with fuel := IntKind.i64.wrap (m.fuel - 1) } h
theorem stmts_sim (g : Machine → Node → Option Machine) (g' : Run → Node → Option Run) : ∀ (l : List Node), (∀ x ∈ l, ∀ m r, Both nm ev ow m r → SimU nm ev ow m (g m x) (g' r x)) → ∀ m r, Both nm ev ow m r → SimU nm ev ow m (stmtsC g l m) (stmtsR g' l r)
 | [], _, m, r, hb => SimU.same hb
 | x :: rest, h, m, r, hb => by
  obtain ⟨b, m1, r1, e1, e2, B1, t1, f1, s1⟩ := both_burn hb
  rw [stmtsC, stmtsR, e1, e2]
  dsimp only
  cases b with
  | true =>
   obtain ⟨z1, z0, fu, _⟩ := t1 rfl
   rw [cond_true, cond_true]
   obtain ⟨m2, r2, g1, g2, g3, g4, g5⟩ := SimU.bindU (h x List.mem_cons_self m1 r1 B1) (g := stmtsC g rest) (g' := stmtsR g' rest) fun m2 r2 B2 _ => stmts_sim g g' rest (fun y hy => h y (List.mem_cons_of_mem _ hy)) m2 r2 B2
   exact ⟨m2, r2, g1, g2, g3, fun z => ⟨z0, by have := (g4 z).2; omega⟩, fun h => absurd z0 h⟩
  | false =>
   obtain ⟨m2, g1, g2⟩ := stmtsC_dead g rest m1 (f1 rfl)
   rw [cond_false, cond_false, g1]
   have ne := f1 rfl
   exact ⟨m2, r1, rfl, rfl, Both.dead (g2.trans B1.1) (by rw [g2]; exact ne), fun z => absurd (g2.symm.trans z) ne, fun h => g2.trans (s1 h)⟩
theorem while_sim {on : ByteArray} {g : Machine → List Node → Option Machine} {g' : Run → List Node → Option Run} {n a b : Node} (hk : n.Kids = [a, b]) (wa : okE nm on 16384 a) (hg : ∀ m r, Both nm ev ow m r → SimU nm ev ow m (g m b.Kids) (g' r b.Kids)) : ∀ (k : Nat) (m : Machine) (r : Run), Both nm ev ow m r → 1 ≤ k → (m.e = 0 → m.fuel + 2 ≤ ((k : Nat) : Int)) → SimU nm ev ow m (whileC g n k m) (whileR g' n k r)
 | 0, _, _, _, h, _ => by omega
 | k + 1, m, r, hb, _, hf => by
  obtain ⟨v, m1, v', r1, e1, e2, B1, f1, s1⟩ := expr_sim wa hb
  rw [whileC, whileR, hk, ixO_0, ixO_1]
  simp only [Option.bind_some, e1, e2]
  by_cases z0 : m.e = 0
  ·rw [show (r.E == 0) = true by rw [← hb.1, z0]; rfl, cond_true]
   by_cases z1 : m1.e = 0
   ·obtain ⟨_, fu, rfl⟩ := f1 z1
    rw [show (m1.e == 0) = true by rw [z1]; rfl, show (r1.E != 0) = false by rw [← B1.1, z1]; rfl, Bool.and_true, Bool.false_or]
    by_cases hv : v' = 0
    ·subst hv
     exact ⟨m1, r1, rfl, rfl, B1, fun _ => ⟨z0, by omega⟩, fun h => absurd z0 h⟩
    ·rw [show (v' != 0) = true from bne_iff_ne.2 hv, show (v' == 0) = false from beq_false_of_ne hv, cond_true, cond_false]
     have hl := (B1.2 z1).2.fuel0
     have hf := hf z0
     obtain ⟨m2, r2, g1, g2, g3, g4, g5⟩ := SimU.bindU (hg m1 r1 B1) (g := whileC g n k) (g' := whileR g' n k) fun m2 r2 B2 f2 => while_sim hk wa hg k m2 r2 B2 (by omega) (fun z => by have := (f2 z).2; omega)
     exact ⟨m2, r2, g1, g2, g3, fun z => ⟨z0, by have := (g4 z).2; omega⟩, fun h => absurd z0 h⟩
   ·rw [show (m1.e == 0) = false from beq_false_of_ne z1, show (r1.E != 0) = true from bne_iff_ne.2 (by rw [← B1.1]; exact z1), Bool.and_false, Bool.true_or]
    exact ⟨m1, r1, rfl, rfl, B1, fun z => absurd z z1, s1⟩
  ·have h1 := s1 z0
   rw [show (r.E == 0) = false from beq_false_of_ne (by rw [← hb.1]; exact z0), show (m1.e == 0) = false from beq_false_of_ne (by rw [h1]; exact z0), Bool.and_false]
   exact ⟨m1, r, rfl, rfl, Both.dead (h1.trans hb.1) (by rw [h1]; exact z0), fun z => absurd (h1.symm.trans z) z0, fun _ => h1⟩
theorem st_sim {on : ByteArray} (hnd : nm.Nodup) (hnl : nm.length ≤ 100000) : ∀ (d : Nat) (n : Node), okS nm on 16384 d n → ∀ q p : Nat, 2 * d ≤ q → 2 * d ≤ p → ∀ m r, Both nm ev ow m r → SimU nm ev ow m ((stG q).2 m n) ((rsG p).2 r n)
 | 0, _, h, _, _, _, _, _, _, _ => h.elim
 | d + 1, n, h, q, p, hq, hp, m, r, hb => by
  obtain ⟨q, rfl⟩ : ∃ k, q = k + 2 := ⟨q - 2, by omega⟩
  obtain ⟨p, rfl⟩ : ∃ k, p = k + 2 := ⟨p - 2, by omega⟩
  have many : ∀ l : List Node, (∀ k ∈ l, okS nm on 16384 d k) → ∀ m r, Both nm ev ow m r → SimU nm ev ow m ((stG (q + 1)).1 m l) ((rsG (p + 1)).1 r l) := by
   intro l hl m r hb
   rw [stmtsR_eq, stG_succ]
   exact stmts_sim _ _ l (fun x hx m r hb => st_sim hnd hnl d x (hl x hx) q p (by omega) (by omega) m r hb) m r hb
  have e : (stG (q + 2)).2 m n = stmtC (stG (q + 1)).1 m n := by rw [stG_succ]
  rw [e]
  unfold stmtC
  rcases h with ⟨h, hl⟩ | ⟨h, hw⟩ | ⟨h, a, b, l, hk, wa, hb1, hc⟩ | ⟨h, a, b, hk, wa, hb1⟩ | ⟨h, hw⟩ | ⟨h, hw⟩ | ⟨h, hw⟩ | ⟨h, _⟩
  ·rw [stR_7 (p + 1) r n h, h]
   exact many n.Kids hl m r hb
  ·rw [h]
   exact set_sim hnd hnl hw h (p + 1) hb
  ·rw [stR_5 (p + 1) r n h, h]
   obtain ⟨v, m1, v', r1, e1, e2, B1, f1, s1⟩ := expr_sim wa hb
   show SimU nm ev ow m ((ixO n.Kids 0).bind fun x => (expr m x).bind fun v2 => _) _
   rw [hk, ixO_0, ixO_1, Option.bind_some, Option.bind_some, e1, e2, Option.bind_some, Option.bind_some]
   dsimp only
   rw [Option.bind_some, Option.bind_some]
   have lift : ∀ {o : Option Machine} {p : Option Run}, m1.e = 0 → SimU nm ev ow m1 o p → SimU nm ev ow m o p := fun z1 hs => by
    obtain ⟨m2, r2, g1, g2, g3, g4, g5⟩ := hs
    obtain ⟨z0, fu, _⟩ := f1 z1
    exact ⟨m2, r2, g1, g2, g3, fun z => ⟨z0, by have := (g4 z).2; omega⟩, fun h => absurd z0 h⟩
   by_cases z1 : m1.e = 0
   ·obtain ⟨z0, fu, rfl⟩ := f1 z1
    rw [show (m1.e == 0) = true by rw [z1]; rfl, show (r1.E == 0) = true by rw [← B1.1, z1]; rfl]
    simp only [Bool.true_and, Bool.and_true]
    refine lift z1 ?_
    cases hv : v' != 0 with
    | true => exact many b.Kids hb1 m1 r1 B1
    | false =>
     rw [cond_false, cond_false]
     rcases hc with rfl | ⟨c, rfl, hc⟩
     ·exact SimU.same B1
     ·exact many c.Kids hc m1 r1 B1
   ·have hr : r1.E ≠ 0 := by rw [← B1.1]; exact z1
    rw [show (m1.e == 0) = false from beq_false_of_ne z1, show (r1.E == 0) = false from beq_false_of_ne hr]
    simp only [Bool.false_and, Bool.and_false, cond_false]
    have hm : ∃ m2, (bif v != 0 then (stG (q + 1)).1 m1 b.Kids else some m1) = some m2 ∧ m2.e = m1.e := by
     cases v != 0 with
     | true =>
      rw [cond_true, stG_succ]
      exact stmtsC_dead _ b.Kids m1 z1
     | false => exact ⟨m1, rfl, rfl⟩
    obtain ⟨m2, g1, g2⟩ := hm
    rw [g1]
    exact ⟨m2, r1, rfl, rfl, Both.dead (g2.trans B1.1) (by rw [g2]; exact z1), fun z => absurd (g2.symm.trans z) z1, fun h => g2.trans (s1 h)⟩
  ·rw [stR_6 (p + 1) r n h, h]
   exact while_sim hk wa (fun m r hb => many b.Kids hb1 m r hb) 200000 m r hb (by decide) (fun z => by have := (hb.2 z).2.fuel1; omega)
  ·rw [h]
   exact add_sim hw h (p + 1) hb
  ·rw [h]
   exact turn9_sim hw h (p + 1) hb
  ·rw [h]
   exact turn10_sim hw h (p + 1) hb
  ·rw [stR_11 (p + 1) r n h, h]
   obtain ⟨F, ne⟩ := both_fail hb 16 (by decide)
   exact ⟨_, _, rfl, rfl, F, fun z => absurd z ne, fun hd => fail_dead hd 16⟩
theorem run_sim (n : Node) (hn : okP n.Kids) (hl : n.Kids.length ≤ 16385) (hnl : (varsOf n.Kids).length ≤ 100000) : ∀ (k i : Nat), n.Kids.length < k + i → i ≤ n.Kids.length → ∀ (m : Machine) (r : Run), Both (varsOf n.Kids) ev ow m r →
  ∃ m' r', runC ev (n.Kids.drop i) m = some m' ∧ z14_l0 n ev k ((i : Nat) : Int) r.Vars r.Ev.On r.Ev.Unit r.Ev.Port r.Ev.Head r.Owner r.Fuel r.E r.Out = some (r'.Vars, r'.Ev.On, r'.Ev.Unit, r'.Ev.Port, r'.Ev.Head, r'.Owner, r'.Fuel, r'.E, r'.Out) ∧ Both (varsOf n.Kids) ev ow m' r'
 | 0, i, h, hi, _, _, _ => by omega
 | k + 1, i, h, hi, m, r, hb => by
  rw [z14_l0, List.length_map]
  by_cases hlt : i < n.Kids.length
  ·have hd : n.Kids.drop i = n.Kids[i] :: n.Kids.drop (i + 1) := List.drop_eq_getElem_cons hlt
   rw [decide_eq_true (show ((i : Nat) : Int) < ((n.Kids.length : Nat) : Int) by omega), cond_true, ixO_get hlt, Option.bind_some, Option.bind_some, Option.bind_some, wrapI_succ (by omega), hd, runC]
   have next := run_sim n hn hl hnl k (i + 1) (by omega) (by omega)
   cases hk : n.Kids[i].Kind == 3 with
   | false => exact next m r hb
   | true =>
    cases ht : n.Kids[i].Text == ev.On with
    | false => exact next m r hb
    | true =>
     have hk3 : n.Kids[i].Kind = 3 := by simpa using hk
     have hs := hn.2 n.Kids[i] (List.getElem_mem hlt) hk3
     obtain ⟨m1, r1, e1, e2, B1, _⟩ : SimU (varsOf n.Kids) ev ow m ((stG 400).1 m n.Kids[i].Kids) ((rsG 400).1 r n.Kids[i].Kids) := by
      rw [show (400 : Nat) = 399 + 1 from rfl, stmtsR_eq, stG_succ]
      exact stmts_sim _ _ _ (fun x hx m r hb => st_sim hn.1 hnl 40 x (hs x hx) 399 399 (by decide) (by decide) m r hb) m r hb
     have e2 : (rsG 400).1 ({ Vars := r.Vars, Ev := ({ On := r.Ev.On, Unit := r.Ev.Unit, Port := r.Ev.Port, Head := r.Ev.Head } : Event), Owner := r.Owner, Fuel := r.Fuel, Out := r.Out, E := r.E } : Run) n.Kids[i].Kids = some r1 := e2
     rw [cond_true, cond_true, e2, Option.bind_some, Bool.and_self, cond_true, e1, Option.bind_some]
     exact next m1 r1 B1
  ·rw [decide_eq_false (show ¬ ((i : Nat) : Int) < ((n.Kids.length : Nat) : Int) by omega), List.drop_eq_nil_of_le (by omega)]
   exact ⟨m, r, rfl, rfl, hb⟩
theorem prog_sim {n : Node} (hn : okP n.Kids) (hl : n.Kids.length ≤ 16385) {v : List Var} (hv : v.map (·.Name) = varsOf n.Kids) (ev : Event) (ow fuel : Int) : ∃ m, runC ev n.Kids ⟨v, ev, ow, fuelC fuel, [], 0⟩ = some m ∧ (m.e = 0 → Live (varsOf n.Kids) ev ow m) ∧
  z14_raw 20000 n v ev ow fuel = (bif (m.e != 0) then some (([] : List Var), ([] : List Change), m.e) else some (m.vars, m.out, 0)) := by
 have hvl : v.length ≤ 16385 := by
  have := congrArg List.length hv
  rw [List.length_map] at this
  rw [this, varsOf, List.length_map]
  exact Nat.le_trans (List.length_filter_le ..) hl
 have hnl : (varsOf n.Kids).length ≤ 100000 := by rw [← hv, List.length_map]; omega
 have hf : 0 ≤ fuelC fuel ∧ fuelC fuel ≤ 100000 := by
  unfold fuelC
  (repeat' split) <;> omega
 have hfr : (bif (decide ((bif (decide (fuel < 0)) then (0 : Int) else fuel) > 100000)) then (100000 : Int) else (bif (decide (fuel < 0)) then (0 : Int) else fuel)) = fuelC fuel := by
  unfold fuelC
  by_cases h1 : fuel < 0
  ·rw [decide_eq_true h1, cond_true, if_pos (show (0 : Int) > fuel by omega)]
   rfl
  ·rw [decide_eq_false h1, cond_false, if_neg (show ¬ (0 : Int) > fuel by omega)]
   by_cases h2 : fuel > 100000
   ·rw [decide_eq_true h2, if_pos (show (100000 : Int) < fuel by omega)]
    rfl
   ·rw [decide_eq_false h2, if_neg (show ¬ (100000 : Int) < fuel by omega)]
    rfl
 have B : Both (varsOf n.Kids) ev ow ⟨v, ev, ow, fuelC fuel, [], 0⟩ (asRun ⟨v, ev, ow, fuelC fuel, [], 0⟩) := Both.live ⟨hv, rfl, rfl, hf.1, hf.2, Nat.zero_le _, fun c hc => by cases hc⟩
 obtain ⟨m, r, e1, e2, B1⟩ := run_sim n hn hl hnl 20000 0 (by omega) (Nat.zero_le _) _ _ B
 have e2 : z14_l0 n ev 20000 0 v ev.On ev.Unit ev.Port ev.Head ow (fuelC fuel) 0 ([] : List Change) = _ := e2
 refine ⟨m, e1, fun z => (B1.2 z).2, ?_⟩
 unfold z14_raw
 rw [fit_ok (by simp; omega), List.nil_append, hfr, e2, Option.bind_some]
 dsimp only
 rw [← B1.1]
 cases hz : m.e != 0 with
 | true => rfl
 | false =>
  have hz : m.e = 0 := by simpa using hz
  obtain ⟨rfl, _⟩ := B1.2 hz
  rfl
end
end Go.Proofs.Yteioljlgcagnnaa
namespace Go.Proofs.Yteioljlgcagnnaa
open Go.Sh
noncomputable def z70_F : Go.Sh.Fn := ⟨70, bodyOf Try.f70, 23⟩
def z70_l0 (v : Int) : Nat → Int → List Bool → Option ((List Bool))
 | 0, _, _ => none
 | m + 1, k1, out =>
  (bif (decide (k1 ≥ 0)) then
  fitO (out.length + [((IntKind.u64.wrap ((BitVec.ofInt 64 (Int.fdiv v (2 ^ (min ((IntKind.u64.wrap k1) : Int).toNat (IntKind.u64).bits))) &&& BitVec.ofInt 64 1).toNat)) == 1)].length) 1 (
  z70_l0 v m (IntKind.i64.wrap (k1 - 1)) (out ++ [((IntKind.u64.wrap ((BitVec.ofInt 64 (Int.fdiv v (2 ^ (min ((IntKind.u64.wrap k1) : Int).toNat (IntKind.u64).bits))) &&& BitVec.ofInt 64 1).toNat)) == 1)]))
 else
  some out)
theorem z70_l0_walk (q0 : Nat) (v : Int) (size : Int)  (r : (List Bool)) (c0 : Ctx) (hc0 : c0.m.length = 0) (res : (List Bool)) (J : AX Try.prog tab z70_F c0 (Rp tab.S c0 (.sl 4 (List.map boolA r) false) []) (some ⟨[.code [1, 1, 1]], [(5, .own 0 1000000)], [.row 4 (List.map boolA res) 1000000 true]⟩)) :
  ∀ (m : Nat) (k1 : Int) (out : List Bool) (H : z70_l0 v m k1 out = some res), AX Try.prog tab z70_F c0 (Rp tab.S c0 (.sl 4 (List.map boolA r) false) []) (some ⟨[.code [1, 1, 0, 1, 0, 0], .loop [1, 1, 0, 1, 0], .blk 0, .code [1, 1, 1]], [(0, .sc (.int .u64 v)), (5, .own 0 1000000), (6, .sc (.int .i64 k1))], [.row 4 (List.map boolA out) 1000000 true]⟩) := by
 intro m
 induction m with
 | zero => intro k1 out H; cases H
 | succ m ih =>
  intro k1 out H
  rw [z70_l0] at H
  refine .sg 3 [0,5,6,10] (.cd (decide (k1 ≥ 0)) H (fun hb H => ?_) (fun hb H => ?_))
  ·
   exact .sg 3 [0,5,6] (.rg (.sg 4 [0,6,13,14,16] (.sr_ [0,6,13,17] (b := (IntKind.u64.wrap k1)) (wrapU_nonneg _) (.sg 3 [0,6,13,20] (fitH H fun hfit H => (.ap [0,6,21] boolA hfit (.sg 1 [0,5,6] (.dn (.sg 2 [0,5,6] (.tl hc0 [0] [0,5,6] (.into (.to (ih (IntKind.i64.wrap (k1 - 1)) (out ++ [((IntKind.u64.wrap ((BitVec.ofInt 64 (Int.fdiv v (2 ^ (min ((IntKind.u64.wrap k1) : Int).toNat (IntKind.u64).bits))) &&& BitVec.ofInt 64 1).toNat)) == 1)]) H)))))))))))))
  ·
   refine .sg 1 [5] (.kp [5] ?_)
   obtain rfl := Option.some.inj H
   exact .to J
def z70_raw (q0 : Nat) (v : Int) (size : Int) : Option ((List Bool)) :=
 (z70_l0 v q0 (IntKind.i64.wrap (size - 1)) ([] : List Bool)).bind fun v1 =>
 some v1
theorem z70_walk (q0 : Nat) (v : Int) (size : Int) (r : (List Bool)) (H : z70_raw q0 v size = some r) : ACalls Try.prog tab.S 70 [.sc (.int .u64 v), .sc (.int .i64 size)] [] (.sl 4 (List.map boolA r) false) [] := by
 refine .of_AX z70_F Try.func70 fun c0 hc0 => ?_
 rw [z70_raw] at H
 refine .sg 8 [0,5,6] (.ad 5 4 true (.kp [0,5,6] ?_))
 refine bndO H fun v1 hv H => (.into (.to (z70_l0_walk q0 v size r c0 hc0 v1 ?_ q0 (IntKind.i64.wrap (size - 1)) ([] : List Bool) hv)))
 refine .sg 2 [4] ?_
 obtain rfl := Option.some.inj H
 exact .ret Try.func70 hc0
def bitE (v k1 : Int) : Bool := ((IntKind.u64.wrap ((BitVec.ofInt 64 (Int.fdiv v (2 ^ (min ((IntKind.u64.wrap k1) : Int).toNat (IntKind.u64).bits))) &&& BitVec.ofInt 64 1).toNat)) == 1)
def bitsL (v : Int) : Nat → List Bool
 | 0 => []
 | n + 1 => bitE v (n : Int) :: bitsL v n
theorem bitsL_len (v : Int) : ∀ n, (bitsL v n).length = n
 | 0 => rfl
 | n + 1 => by rw [bitsL, List.length_cons, bitsL_len v n]
def bitsO (v size : Int) : Option (List Bool) := if 0 ≤ size ∧ size ≤ 64 then some (bitsL v size.toNat) else none
theorem refBits_l0_eq (v : Int) : ∀ (n m : Nat) (out : List Bool), n < m → n ≤ 64 → out.length + n ≤ 1000 → z70_l0 v m ((n : Int) - 1) out = some (out ++ bitsL v n)
 | 0, m + 1, out, _, _, _ => by
   rw [z70_l0, decide_eq_false (by omega), bitsL, List.append_nil]; rfl
 | n + 1, m + 1, out, h1, h2, h3 => by
   have e : (((n + 1 : Nat) : Int) - 1) = (n : Int) := by omega
   rw [z70_l0, e, decide_eq_true (show ((n : Int)) ≥ 0 by omega), cond_true, fitO_eq (by rw [List.length_cons, List.length_nil]; omega), wrap_eq (by omega) (by omega)]
   rw [refBits_l0_eq v n m _ (by omega) (by omega) (by rw [List.length_append, List.length_cons, List.length_nil]; omega), List.append_assoc]
   rfl
theorem z70_ok (v size : Int) (x : List Bool) (h : bitsO v size = some x) : ACalls Try.prog tab.S 70 [.sc (.int .u64 v), .sc (.int .i64 size)] [] (.sl 4 (List.map boolA x) false) [] := by
 unfold bitsO at h
 split at h
 ·rename_i hc
  injection h with h
  subst h
  refine z70_walk (size.toNat + 1) v size _ ?_
  rw [z70_raw, wrap_eq (by omega) (by omega)]
  have := refBits_l0_eq v size.toNat (size.toNat + 1) [] (by omega) (by omega) (by rw [List.length_nil]; omega)
  rw [show ((size.toNat : Nat) : Int) = size by omega] at this
  rw [this]
  rfl
 ·cases h
end Go.Proofs.Yteioljlgcagnnaa
namespace Go.Proofs.Yteioljlgcagnnaa
open Go.Sh
noncomputable def z69_F : Go.Sh.Fn := ⟨69, bodyOf Try.f69, 15⟩
def z69_l0s (h1 : List Int) : Nat → Nat → Sum (Unit) (Bool)
 | 0, i =>
  (.inl ())
 | rest + 1, i =>
  (bif (!(z45 (h1.getD (i) 0) (sizeT ((i : Nat) : Int)))) then
   (.inr false)
  else
   z69_l0s h1 rest (i + 1) )
theorem z69_l0_walk (h1 : List Int) (r : Bool) (c0 : Ctx) (hc0 : c0.m.length = 0) (res : Sum (Unit) (Bool)) (J : ∀ w : Unit, res = .inl w → AX Try.prog tab z69_F c0 (Rp tab.S c0 (.sc (.bool r)) []) (some ⟨[.code [1, 1]], [], [.box 25 [.arr .u64 12 h1]]⟩)) (Jr : ∀ w, res = .inr w → w = r) :
  ∀ (rest : Nat) (i : Nat) (z : Int) (hI : z = ((i : Nat) : Int)) (hd : i + rest = 12) (H : z69_l0s h1 rest i = res), AX Try.prog tab z69_F c0 (Rp tab.S c0 (.sc (.bool r)) []) (some ⟨[.code [1, 0, 1, 0, 0], .loop [1, 0, 1, 0], .blk 0, .code [1, 1]], [(1, .ptr 0 0 none), (3, .sc (.int .i64 z))], [.box 25 [.arr .u64 12 h1]]⟩) := by
 intro rest
 induction rest with
 | zero =>
  intro i z hI hd  H
  subst hI
  rw [z69_l0s] at H
  have hc : (decide (((i : Nat) : Int) < 12)) = false := decide_eq_false (by omega)
  exact .sg 3 [1,3,5] (.cdF hc (.sg 1 [] (.kp [] (.to (J () H.symm)))))
 | succ rest ih =>
  intro i z hI hd  H
  subst hI
  rw [z69_l0s] at H
  have hlt_i : i < 12 := by omega
  have hc : (decide (((i : Nat) : Int) < 12)) = true := decide_eq_true (by omega)
  have hw : IntKind.i64.wrap (((i : Nat) : Int) + 1) = ((i + 1 : Nat) : Int) := wrapI_succ (by omega)
  refine .sg 3 [1,3,5] (.cdT hc (.sg 4 [1,3] (.rg (.sg 1 [1,3,8] ?_))))
  have hreq := idx_in 12 hlt_i (by decide)
  refine .xa [1,3,9] hreq (.sg 2 [1,3,10,11] (.cp [1,3,10,12] (z46_ok ((i : Nat) : Int)) (.cp [1,3,13] (z45_calls (h1.getD (i) 0) (sizeT ((i : Nat) : Int))) (.sg 1 [1,3,14] (.dn (.cd (!(z45 (h1.getD (i) 0) (sizeT ((i : Nat) : Int)))) H (fun hb H => ?_) (fun hb H => ?_)))))))
  ·
   refine .sg 2 [2] ?_
   subst H
   obtain rfl := Jr _ rfl
   exact .ret Try.func69 hc0
  ·
   exact .sg 3 [1,3] (.kp [1,3] (.into (.cl (ih (i + 1) _ hw (by omega) H))))
def z69 (h1 : List Int) : Bool :=
 sumG (fun q => q) (z69_l0s h1 12 0) fun v =>
 true
theorem z69_calls (h1 : List Int) : ACalls Try.prog tab.S 69 [.arr .u64 12 h1] [] (.sc (.bool (z69 h1))) [] := by
 generalize H : z69 h1 = r
 refine .of_AX z69_F Try.func69 fun c0 hc0 => ?_
 rw [z69] at H
 refine .sg 6 [1,3] ?_
 rcases sumG_eq H with ⟨v, hv, H⟩ | ⟨r1, hv, hr1⟩
 case inr =>
  refine .into ?_
  replace hr1 : r1 = r := hr1
  subst hr1
  exact .to (z69_l0_walk h1 _ c0 hc0 (.inr _) (fun _ e => by cases e) (fun _ e => (Sum.inr.inj e).symm) 12 0 _ rfl rfl hv)
 refine .into (.to (z69_l0_walk h1 r c0 hc0 (.inl v) (fun w e => ?_) (fun _ e => by cases e) 12 0 _ rfl rfl hv))
 have e := Sum.inl.inj e
 subst e
 refine .sg 2 [2] ?_
 subst H
 exact .ret Try.func69 hc0
noncomputable def z44_F : Go.Sh.Fn := ⟨44, bodyOf Try.f44, 70⟩
def z44_l1s (x2 : (List Bool)) (ok1 : Bool) : List Bool → Nat → List Int → Option (Bool × (List Int))
 | [], k1, out1 =>
  some (ok1, out1)
 | x3 :: rest1, k1, out1 =>
  (ixO x2 ((k1 : Nat) : Int)).bind fun x4 =>
  (bif (!x4) then
   fitO (out1.length + ([120] : List Int).length) 1 (
   z44_l1s x2 ok1 rest1 (k1 + 1) (out1 ++ ([120] : List Int)))
  else
   (bif x3 then
    fitO (out1.length + ([49] : List Int).length) 1 (
    z44_l1s x2 ok1 rest1 (k1 + 1) (out1 ++ ([49] : List Int)))
   else
    fitO (out1.length + ([48] : List Int).length) 1 (
    z44_l1s x2 ok1 rest1 (k1 + 1) (out1 ++ ([48] : List Int)))))
theorem z44_l1_walk (c : Cube) (i : Nat) (ok : Bool) (out : List Int) (hlt_i : i < 12) (x1 : (List Bool)) (x2 : (List Bool)) (ok1 : Bool) (r : ByteArray × Bool) (c0 : Ctx) (hc0 : c0.m.length = 0) (res : Bool × (List Int)) (J : AX Try.prog tab z44_F c0 (Rp tab.S c0 (.tup [.sc (.string r.1), .sc (.bool r.2)]) []) (some ⟨[.blk 1, .code [1, 1, 1, 0, 1, 0, 0, 1, 1], .loop [1, 1, 1, 0, 1, 0], .blk 0, .code [1, 1, 1, 1]], [(1, .ptr 0 0 none), (4, .own 1 1000000), (5, .sc (.bool res.1)), (6, .sc (.int .i64 ((i : Nat) : Int)))], [.box 46 (Cube.ch c), .row 5 (List.map (intA .u8) res.2) 1000000 true]⟩)) :
  ∀ (rest1 : List Bool) (k1 : Nat) (z : Int) (hI : z = ((k1 : Nat) : Int)) (hd : x1.drop k1 = rest1) (out1 : List Int) (H : z44_l1s x2 ok1 rest1 k1 out1 = some res), AX Try.prog tab z44_F c0 (Rp tab.S c0 (.tup [.sc (.string r.1), .sc (.bool r.2)]) []) (some ⟨[.code [1, 1, 1, 0, 1, 0, 0, 1, 0, 0, 1, 1, 1, 0, 0], .loop [1, 1, 1, 0, 1, 0, 0, 1, 0, 0, 1, 1, 1, 0], .blk 2, .blk 1, .code [1, 1, 1, 0, 1, 0, 0, 1, 1], .loop [1, 1, 1, 0, 1, 0], .blk 0, .code [1, 1, 1, 1]], [(1, .ptr 0 0 none), (4, .own 1 1000000), (5, .sc (.bool ok1)), (6, .sc (.int .i64 ((i : Nat) : Int))), (7, .sl 4 (List.map boolA x1) false), (8, .sl 4 (List.map boolA x2) false), (9, .sc (.int .i64 z))], [.box 46 (Cube.ch c), .row 5 (List.map (intA .u8) out1) 1000000 true]⟩) := by
 intro rest1
 induction rest1 with
 | nil =>
  intro k1 z hI hd out1 H
  subst hI
  rw [z44_l1s] at H
  refine .facts 7 fun hf => ?_
  have hlen : x1.length ≤ 9223372036854775807 := by have hq := len_ok hf.2.1; rw [List.length_map] at hq; exact hq
  have hge : x1.length ≤ k1 := List.drop_eq_nil_iff.1 hd
  have hc : (decide (((k1 : Nat) : Int) < (((List.map boolA x1).length : Nat) : Int))) = false := by rw [List.length_map]; exact decide_eq_false (by omega)
  refine .sg 3 [1,4,5,6,7,8,9,44] (.cdF hc (.sg 1 [1,4,5,6] (.kp [1,4,5,6] ?_)))
  obtain rfl := Option.some.inj H
  exact .to J
 | cons x3 rest1 ih =>
  intro k1 z hI hd out1 H
  subst hI
  rw [z44_l1s] at H
  refine .facts 7 fun hf => ?_
  have hlen : x1.length ≤ 9223372036854775807 := by have hq := len_ok hf.2.1; rw [List.length_map] at hq; exact hq
  obtain ⟨hlt, hv_k1, hd2⟩ := drop_cons hd
  have hc : (decide (((k1 : Nat) : Int) < (((List.map boolA x1).length : Nat) : Int))) = true := by rw [List.length_map]; exact decide_eq_true (by omega)
  have hw : IntKind.i64.wrap (((k1 : Nat) : Int) + 1) = ((k1 + 1 : Nat) : Int) := wrapI_succ (by omega)
  refine .sg 3 [1,4,5,6,7,8,9,44] (.cdT hc (.sg 5 [1,4,5,6,7,8,9] (.rg (.sg 2 [1,4,5,6,7,8,9,51,52] (bndO H fun x4 hv H => (.xi [1,4,5,6,7,8,9,53] boolA hv (.sg 3 [1,4,5,6,7,8,9,50] (.dn (.cd (!x4) H (fun hb H => ?_) (fun hb H => ?_))))))))))
  ·
   exact .rg (.sg 2 [1,5,6,7,8,9,56,57] (fitH H fun hfit H => (.ap [1,5,6,7,8,9,58] (intA .u8) hfit (.sg 1 [1,4,5,6,7,8,9] (.dn (.sg 3 [1,4,5,6,7,8,9] (.tl hc0 [0,1] [1,4,5,6,7,8,9] (.into (.cl (ih (k1 + 1) _ hw hd2 (out1 ++ ([120] : List Int)) H))))))))))
  ·
   refine .sg 1 [1,4,5,6,7,8,9] (.rg (.sg 2 [1,4,5,6,7,8,9,60,61] (.xi [1,4,5,6,7,8,9,62] boolA hv_k1 (.sg 2 [1,4,5,6,7,8,9,59] (.dn (.cd x3 H (fun hb H => ?_) (fun hb H => ?_)))))))
   ·
    exact .rg (.sg 2 [1,5,6,7,8,9,64,65] (fitH H fun hfit H => (.ap [1,5,6,7,8,9,66] (intA .u8) hfit (.sg 1 [1,4,5,6,7,8,9] (.dn (.sg 3 [1,4,5,6,7,8,9] (.tl hc0 [0,1] [1,4,5,6,7,8,9] (.into (.cl (ih (k1 + 1) _ hw hd2 (out1 ++ ([49] : List Int)) H))))))))))
   ·
    exact .rg (.sg 2 [1,5,6,7,8,9,47,48] (fitH H fun hfit H => (.ap [1,5,6,7,8,9,49] (intA .u8) hfit (.sg 1 [1,4,5,6,7,8,9] (.dn (.sg 3 [1,4,5,6,7,8,9] (.tl hc0 [0,1] [1,4,5,6,7,8,9] (.into (.cl (ih (k1 + 1) _ hw hd2 (out1 ++ ([48] : List Int)) H))))))))))
def z44_l0s (c : Cube) : Nat → Nat → Bool → List Int → Option (Bool × (List Int))
 | 0, i, ok, out =>
  some (ok, out)
 | rest + 1, i, ok, out =>
  (bitsO (c.Value.getD (i) 0) (sizeT ((i : Nat) : Int))).bind fun x1 =>
  (bitsO (c.Care.getD (i) 0) (sizeT ((i : Nat) : Int))).bind fun x2 =>
  (z44_l1s x2 (bif ((IntKind.u64.wrap ((BitVec.ofInt 64 (c.Value.getD (i) 0) &&& ~~~ (BitVec.ofInt 64 (c.Care.getD (i) 0))).toNat)) != 0) then false else ok) x1 0 out).bind fun v =>
  z44_l0s c rest (i + 1) v.1 v.2
theorem z44_l0_walk (c : Cube) (r : ByteArray × Bool) (c0 : Ctx) (hc0 : c0.m.length = 0) (res : Bool × (List Int)) (J : AX Try.prog tab z44_F c0 (Rp tab.S c0 (.tup [.sc (.string r.1), .sc (.bool r.2)]) []) (some ⟨[.code [1, 1, 1, 1]], [(4, .own 1 1000000), (5, .sc (.bool res.1))], [.box 46 (Cube.ch c), .row 5 (List.map (intA .u8) res.2) 1000000 true]⟩)) :
  ∀ (rest : Nat) (i : Nat) (z : Int) (hI : z = ((i : Nat) : Int)) (hd : i + rest = 12) (ok : Bool) (out : List Int) (H : z44_l0s c rest i ok out = some res), AX Try.prog tab z44_F c0 (Rp tab.S c0 (.tup [.sc (.string r.1), .sc (.bool r.2)]) []) (some ⟨[.code [1, 1, 1, 0, 1, 0, 0], .loop [1, 1, 1, 0, 1, 0], .blk 0, .code [1, 1, 1, 1]], [(1, .ptr 0 0 none), (4, .own 1 1000000), (5, .sc (.bool ok)), (6, .sc (.int .i64 z))], [.box 46 (Cube.ch c), .row 5 (List.map (intA .u8) out) 1000000 true]⟩) := by
 intro rest
 induction rest with
 | zero =>
  intro i z hI hd ok out H
  subst hI
  rw [z44_l0s] at H
  have hc : (decide (((i : Nat) : Int) < 12)) = false := decide_eq_false (by omega)
  refine .sg 3 [1,4,5,6,14] (.cdF hc (.sg 1 [4,5] (.kp [4,5] ?_)))
  obtain rfl := Option.some.inj H
  exact .to J
 | succ rest ih =>
  intro i z hI hd ok out H
  subst hI
  rw [z44_l0s] at H
  have hlt_i : i < 12 := by omega
  have hc : (decide (((i : Nat) : Int) < 12)) = true := decide_eq_true (by omega)
  have hw : IntKind.i64.wrap (((i : Nat) : Int) + 1) = ((i + 1 : Nat) : Int) := wrapI_succ (by omega)
  refine .sg 3 [1,4,5,6,14] (.cdT hc (.sg 5 [1,4,5,6] (.rg (.sg 2 [1,4,5,6,17,18] ?_))))
  have hreq := idx_in 12 hlt_i (by decide)
  refine .xa [1,4,5,6,19] hreq (.sg 3 [1,4,5,6,20,21,22] ?_)
  have hreq := idx_in 12 hlt_i (by decide)
  refine .xa [1,4,5,6,20,23] hreq (.sg 3 [1,4,5,6,26] (.dn (.jn ((IntKind.u64.wrap ((BitVec.ofInt 64 (c.Value.getD (i) 0) &&& ~~~ (BitVec.ofInt 64 (c.Care.getD (i) 0))).toNat)) != 0) [1, 4, 5, 6] (fun z => [(5, .sc (.bool (bif z then false else ok)))]) ?J5 (fun hb J => ?ht5) (fun hb J => ?hf5))))
  case ht5 =>
   exact .sg 1 [1,4,5,6] (.cl J)
  case hf5 =>
   exact .sg 1 [1,4,5,6] (.cl J)
  refine .sg 1 [1,4,5,6] (.rg (.sg 2 [1,4,5,6,27,28] ?_))
  have hreq := idx_in 12 hlt_i (by decide)
  refine .xa [1,4,5,6,29] hreq (.sg 2 [1,4,5,6,30,31] (.cp [1,4,5,6,30,32] (z46_ok ((i : Nat) : Int)) (bndO H fun x1 hv H => (.cp [1,4,5,6,33] (z70_ok _ _ x1 hv) (.sg 2 [1,4,5,6,33,34,35] ?_)))))
  have hreq := idx_in 12 hlt_i (by decide)
  refine .xa [1,4,5,6,33,36] hreq (.sg 2 [1,4,5,6,33,37,38] (.cp [1,4,5,6,33,37,39] (z46_ok ((i : Nat) : Int)) (bndO H fun x2 hv H => (.cp [1,4,5,6,33,40] (z70_ok _ _ x2 hv) (.sg 2 [1,4,5,6,7,8] (.dn (.sg 3 [1,4,5,6,7,8,9] ?_)))))))
  refine bndO H fun v hv H => (.into (.to (z44_l1_walk c i ok out hlt_i x1 x2 (bif ((IntKind.u64.wrap ((BitVec.ofInt 64 (c.Value.getD (i) 0) &&& ~~~ (BitVec.ofInt 64 (c.Care.getD (i) 0))).toNat)) != 0) then false else ok) r c0 hc0 v ?_ x1 0 _ rfl rfl out hv)))
  exact .sg 2 [1,4,5,6] (.kp [1,4,5,6] (.into (.cl (ih (i + 1) _ hw (by omega) v.1 v.2 H))))
def z44_raw (c : Cube) : Option (ByteArray × Bool) :=
 (z44_l0s c 12 0 (z69 c.Care) ([] : List Int)).bind fun v =>
 some ((strOfNums v.2), v.1)
theorem z44_walk (c : Cube) (r : ByteArray × Bool) (H : z44_raw c = some r) : ACalls Try.prog tab.S 44 [Cube.av c] [] (.tup [.sc (.string r.1), .sc (.bool r.2)]) [] := by
 refine .of_AX z44_F Try.func44 fun c0 hc0 => ?_
 rw [z44_raw] at H
 refine .sg 5 [1,4] (.rg (.sg 2 [1,4,11] (.cp [1,4,12] (z69_calls c.Care) (.sg 1 [1,4,5] (.dn (.sg 4 [1,4,5,6] (.ad 4 5 true (.kp [1,4,5,6] ?_))))))))
 refine bndO H fun v hv H => (.into (.to (z44_l0_walk c r c0 hc0 v ?_ 12 0 _ rfl rfl (z69 c.Care) ([] : List Int) hv)))
 refine .sg 1 [4,5] (.rg (.sg 1 [5,67] (.by_ [5,68] v.2 (.sg 3 [2,3] (.dn ?_)))))
 obtain rfl := Option.some.inj H
 exact .ret Try.func44 hc0
def chrB (v c : Bool) : Int := if c then (if v then 49 else 48) else 120
theorem Text_l1s_eq (x2 : List Bool) (ok : Bool) : ∀ (vs : List Bool) (k : Nat) (out : List Int), k + vs.length = x2.length → out.length + vs.length ≤ 10000 → z44_l1s x2 ok vs k out = some (ok, out ++ List.zipWith chrB vs (x2.drop k))
 | [], k, out, _, _ => by rw [z44_l1s]; simp
 | x :: vs, k, out, h1, h2 => by
   rw [List.length_cons] at h1 h2
   have hk : k < x2.length := by omega
   have step : ∀ q : Int, z44_l1s x2 ok vs (k + 1) (out ++ [q]) = some (ok, out ++ q :: List.zipWith chrB vs (x2.drop (k + 1))) := fun q => by
    rw [Text_l1s_eq x2 ok vs (k + 1) (out ++ [q]) (by omega) (by rw [List.length_append, List.length_cons, List.length_nil]; omega), List.append_assoc]; rfl
   rw [z44_l1s, ixO_lt hk, Option.bind_some, List.drop_eq_getElem_cons hk, List.zipWith_cons_cons, fitO_eq (by rw [List.length_cons, List.length_nil]; omega), fitO_eq (by rw [List.length_cons, List.length_nil]; omega), fitO_eq (by rw [List.length_cons, List.length_nil]; omega)]
   cases x2[k]
   ·exact step 120
   ·cases x
    ·exact step 48
    ·exact step 49
def badAt (c : Cube) (i : Nat) : Bool := ((IntKind.u64.wrap ((BitVec.ofInt 64 (c.Value.getD i 0) &&& ~~~ (BitVec.ofInt 64 (c.Care.getD i 0))).toNat)) != 0)
def textOk (c : Cube) : Nat → Nat → Bool → Bool
 | 0, _, ok => ok
 | r + 1, i, ok => textOk c r (i + 1) (bif badAt c i then false else ok)
def sizeN (i : Nat) : Nat := (sizeT ((i : Nat) : Int)).toNat
def textS (c : Cube) : Nat → Nat → List Int
 | 0, _ => []
 | r + 1, i => List.zipWith chrB (bitsL (c.Value.getD i 0) (sizeN i)) (bitsL (c.Care.getD i 0) (sizeN i)) ++ textS c r (i + 1)
theorem bitsO_size (v : Int) (i : Nat) : bitsO v (sizeT ((i : Nat) : Int)) = some (bitsL v (sizeN i)) := by
 have h := sizeT_in ((i : Nat) : Int)
 unfold bitsO sizeN
 rw [if_pos (by omega)]
theorem Text_l0s_eq (c : Cube) : ∀ (r i : Nat) (ok : Bool) (out : List Int), out.length + r * 64 ≤ 10000 → z44_l0s c r i ok out = some (textOk c r i ok, out ++ textS c r i)
 | 0, i, ok, out, _ => by rw [z44_l0s, textOk, textS, List.append_nil]
 | r + 1, i, ok, out, h => by
   have hs := sizeT_in ((i : Nat) : Int)
   have hn : sizeN i ≤ 64 := by unfold sizeN; omega
   rw [z44_l0s, bitsO_size, bitsO_size, Option.bind_some, Option.bind_some, Text_l1s_eq _ _ _ 0 out (by rw [bitsL_len, bitsL_len, Nat.zero_add]) (by rw [bitsL_len]; omega), Option.bind_some, List.drop_zero]
   show z44_l0s c r (i + 1) _ (out ++ _) = _
   rw [Text_l0s_eq c r (i + 1) _ _ (by rw [List.length_append, List.length_zipWith, bitsL_len, bitsL_len]; omega), textOk, textS, List.append_assoc]
   rfl
def textT (c : Cube) : ByteArray × Bool := (strOfNums (textS c 12 0), textOk c 12 0 (z69 c.Care))
theorem z44_ok (c : Cube) : ACalls Try.prog tab.S 44 [Cube.av c] [] (.tup [.sc (.string (textT c).1), .sc (.bool (textT c).2)]) [] := by
 refine z44_walk c _ ?_
 rw [z44_raw, Text_l0s_eq c 12 0 _ [] (by decide)]
 rfl
end Go.Proofs.Yteioljlgcagnnaa
namespace Go.Proofs.Yteioljlgcagnnaa
open Go.Sh
noncomputable def z26_F : Go.Sh.Fn := ⟨26, bodyOf Try.f26, 11⟩
def z26 (c : Cube) : Bool :=
 (textT c).2
theorem z26_calls (c : Cube) : ACalls Try.prog tab.S 26 [Cube.av c] [] (.sc (.bool (z26 c))) [] := by
 generalize H : z26 c = r
 refine .of_AX z26_F Try.func26 fun c0 hc0 => ?_
 rw [z26] at H
 refine .sg 3 [1] (.rg (.sg 1 [6] (.cp [7] (z44_ok c) (.sg 5 [4] (.dn (.sg 2 [2] ?_))))))
 subst H
 exact .ret Try.func26 hc0
noncomputable def z19_F : Go.Sh.Fn := ⟨19, bodyOf Try.f19, 91⟩
def z19 (m1 : Mod) : Bool :=
 (bif ((((((((decide (m1.Kind < 1)) || (decide (m1.Kind > 5))) || (!(z26 m1.Match))) || (!(z27 m1.Acts))) || (!(z28 m1.Prio 65535))) || (!(z28 m1.Owner 255))) || (!(z28 m1.Idle 1048576))) || (!(z28 m1.Hard 1048576))) then
  false
 else
  (bif ((m1.Kind != 1) && (((m1.Idle != 0) || (m1.Hard != 0)) || m1.Check)) then
   false
  else
   (bif (((m1.Kind == 2) || (m1.Kind == 3)) && (m1.Prio != 0)) then
    false
   else
    (((m1.Kind != 3) && (m1.Kind != 5)) || ((((List.map Act.av m1.Acts).length : Nat) : Int) == 0)))))
theorem z19_calls (m1 : Mod) : ACalls Try.prog tab.S 19 [Mod.av m1] [] (.sc (.bool (z19 m1))) [] := by
 generalize H : z19 m1 = r
 refine .of_AX z19_F Try.func19 fun c0 hc0 => ?_
 rw [z19] at H
 refine .sg 4 [1] (.rg (.sg 4 [1,6] (.mx 1 [1,10] (.sg 1 [1,11] (.mm 11 ((decide (m1.Kind < 1)) || (decide (m1.Kind > 5))) 5 [.pure, .pure, .pure, .read, .pure] [1, 16] 16 (fun z => .sc (.bool (z || (!(z26 m1.Match))))) ?J2 (fun hb J => ?ht2) (fun hb J => ?hf2))))))
 case ht2 =>
  exact .sg 5 [1,16] (.cl J)
 case hf2 =>
  exact .sg 2 [1,11,13] (.cp [1,11,14] (z26_calls m1.Match) (.sg 2 [1,16] (.cl J)))
 refine .sg 1 [1,17] (.mm 17 (((decide (m1.Kind < 1)) || (decide (m1.Kind > 5))) || (!(z26 m1.Match))) 5 [.pure, .pure, .pure, .read, .pure] [1, 22] 22 (fun z => .sc (.bool (z || (!(z27 m1.Acts))))) ?J3 (fun hb J => ?ht3) (fun hb J => ?hf3))
 case ht3 =>
  exact .sg 5 [1,22] (.cl J)
 case hf3 =>
  exact .sg 2 [1,17,19] (.cp [1,17,20] (z27_calls m1.Acts false) (.sg 2 [1,22] (.cl J)))
 refine .sg 1 [1,23] (.mm 23 ((((decide (m1.Kind < 1)) || (decide (m1.Kind > 5))) || (!(z26 m1.Match))) || (!(z27 m1.Acts))) 5 [.pure, .pure, .pure, .read, .pure] [1, 28] 28 (fun z => .sc (.bool (z || (!(z28 m1.Prio 65535))))) ?J4 (fun hb J => ?ht4) (fun hb J => ?hf4))
 case ht4 =>
  exact .sg 5 [1,28] (.cl J)
 case hf4 =>
  exact .sg 2 [1,23,25] (.cp [1,23,26] (z28_calls m1.Prio 65535) (.sg 2 [1,28] (.cl J)))
 refine .sg 1 [1,29] (.mm 29 (((((decide (m1.Kind < 1)) || (decide (m1.Kind > 5))) || (!(z26 m1.Match))) || (!(z27 m1.Acts))) || (!(z28 m1.Prio 65535))) 5 [.pure, .pure, .pure, .read, .pure] [1, 34] 34 (fun z => .sc (.bool (z || (!(z28 m1.Owner 255))))) ?J5 (fun hb J => ?ht5) (fun hb J => ?hf5))
 case ht5 =>
  exact .sg 5 [1,34] (.cl J)
 case hf5 =>
  exact .sg 2 [1,29,31] (.cp [1,29,32] (z28_calls m1.Owner 255) (.sg 2 [1,34] (.cl J)))
 refine .sg 1 [1,35] (.mm 35 ((((((decide (m1.Kind < 1)) || (decide (m1.Kind > 5))) || (!(z26 m1.Match))) || (!(z27 m1.Acts))) || (!(z28 m1.Prio 65535))) || (!(z28 m1.Owner 255))) 5 [.pure, .pure, .pure, .read, .pure] [1, 40] 40 (fun z => .sc (.bool (z || (!(z28 m1.Idle 1048576))))) ?J6 (fun hb J => ?ht6) (fun hb J => ?hf6))
 case ht6 =>
  exact .sg 5 [1,40] (.cl J)
 case hf6 =>
  exact .sg 2 [1,35,37] (.cp [1,35,38] (z28_calls m1.Idle 1048576) (.sg 2 [1,40] (.cl J)))
 refine .sg 1 [1,41] (.mm 41 (((((((decide (m1.Kind < 1)) || (decide (m1.Kind > 5))) || (!(z26 m1.Match))) || (!(z27 m1.Acts))) || (!(z28 m1.Prio 65535))) || (!(z28 m1.Owner 255))) || (!(z28 m1.Idle 1048576))) 5 [.pure, .pure, .pure, .read, .pure] [1, 46] 46 (fun z => .sc (.bool (z || (!(z28 m1.Hard 1048576))))) ?J7 (fun hb J => ?ht7) (fun hb J => ?hf7))
 case ht7 =>
  exact .sg 5 [1,46] (.cl J)
 case hf7 =>
  exact .sg 2 [1,41,43] (.cp [1,41,44] (z28_calls m1.Hard 1048576) (.sg 2 [1,46] (.cl J)))
 refine .dn (.cd ((((((((decide (m1.Kind < 1)) || (decide (m1.Kind > 5))) || (!(z26 m1.Match))) || (!(z27 m1.Acts))) || (!(z28 m1.Prio 65535))) || (!(z28 m1.Owner 255))) || (!(z28 m1.Idle 1048576))) || (!(z28 m1.Hard 1048576))) H (fun hb H => ?_) (fun hb H => ?_))
 ·
  refine .sg 2 [2] ?_
  subst H
  exact .ret Try.func19 hc0
 ·
  refine .sg 3 [1] (.rg (.sg 4 [1,50] (.mm 50 (m1.Kind != 1) 13 [.pure, .pure, .read, .pure, .pure, .pure, .pure, .read, .pure, .pure, .pure, .read, .pure] [1, 63] 63 (fun z => .sc (.bool (z && (((m1.Idle != 0) || (m1.Hard != 0)) || m1.Check)))) ?J10 (fun hb J => ?ht10) (fun hb J => ?hf10))))
  case ht10 =>
   exact .sg 4 [1,50,54] (.mx 1 [1,50,58] (.sg 1 [1,50,59] (.mx 1 [1,50,62] (.sg 1 [1,63] (.cl J)))))
  case hf10 =>
   exact .sg 13 [1,63] (.cl J)
  refine .dn (.cd ((m1.Kind != 1) && (((m1.Idle != 0) || (m1.Hard != 0)) || m1.Check)) H (fun hb H => ?_) (fun hb H => ?_))
  ·
   refine .sg 2 [2] ?_
   subst H
   exact .ret Try.func19 hc0
  ·
   refine .sg 3 [1] (.rg (.sg 4 [1,67] (.mx 1 [1,71] (.sg 1 [1,72] (.mx 0 [1,76] (.dn (.cd (((m1.Kind == 2) || (m1.Kind == 3)) && (m1.Prio != 0)) H (fun hb H => ?_) (fun hb H => ?_))))))))
   ·
    refine .sg 2 [2] ?_
    subst H
    exact .ret Try.func19 hc0
   ·
    refine .sg 2 [1] (.rg (.sg 4 [1,80] (.mx 0 [1,84] (.sg 1 [1,85] (.mx 1 [90] (.sg 1 [2] (.dn ?_)))))))
    subst H
    exact .ret Try.func19 hc0
theorem z107_l0s_eq {h : List Int} (w : ∀ i, 0 ≤ h.getD i 0) : ∀ (n i : Nat), z107_l0s h n i = z69_l0s h n i
 | 0, i => rfl
 | n + 1, i => by
   rw [z107_l0s, z69_l0s, z107_l0s_eq w n (i + 1), refFits_eq]
   unfold fitsH
   rw [decide_eq_true (w i), Bool.true_and]
theorem z107_eq {h : List Int} (w : ∀ i, 0 ≤ h.getD i 0) : z107 h = z69 h := by
 rw [z107, z69, z107_l0s_eq w]
theorem textOk_false (c : Cube) : ∀ (r i : Nat), textOk c r i false = false
 | 0, _ => rfl
 | r + 1, i => by
   rw [textOk]
   cases badAt c i <;> exact textOk_false c r (i + 1)
theorem z104_l0s_eq (c : Cube) : ∀ (r i : Nat), z104_l0s c r i = if textOk c r i true then .inl () else .inr false
 | 0, _ => rfl
 | r + 1, i => by
   rw [z104_l0s, z104_l0s_eq c r (i + 1), textOk]
   show (bif badAt c i then _ else _) = _
   cases badAt c i
   ·rfl
   ·rw [cond_true, cond_true, textOk_false]; rfl
theorem z104_eq {c : Cube} (w : ∀ i, 0 ≤ c.Care.getD i 0) : z104 c = z26 c := by
 rw [z104, z26, z104_l0s_eq]
 unfold textT
 rw [z107_eq w]
 cases z69 c.Care
 ·rw [textOk_false]; rfl
 ·cases textOk c 12 0 true <;> rfl
end Go.Proofs.Yteioljlgcagnnaa
namespace Go.Proofs.Yteioljlgcagnnaa
open Go.Sh
open Go.ChangeShapes Go.WideShapes Go.ChangeAt Go.RowKit
def Event.wf (x : Event) : Prop := True ∧ intW .i64 x.Unit ∧ intW .i64 x.Port ∧ arrW .u64 12 x.Head
theorem Event.shaped {gs : List AV} (h : Shaped tab 27 gs) : ∃ x : Event, gs = [.sc (.string x.On), .sc (.int .i64 x.Unit), .sc (.int .i64 x.Port), .arr .u64 12 x.Head] ∧ x.wf := by
 obtain ⟨gss, rfl, hl, hf⟩ := Shaped.struct_inv (fl := [(0, 9), (1, 3), (2, 3), (3, 25)]) (by kernel_rfl) h
 match gss, hl, hf with
 | [g0, g1, g2, g3], _, hf =>
  obtain ⟨x0, rfl, w0⟩ := Shaped.str_inv (by kernel_rfl) (hf 0 _ _ rfl rfl)
  obtain ⟨x1, rfl, w1⟩ := Shaped.int_inv (k := .i64) (by kernel_rfl) (hf 1 _ _ rfl rfl)
  obtain ⟨x2, rfl, w2⟩ := Shaped.int_inv (k := .i64) (by kernel_rfl) (hf 2 _ _ rfl rfl)
  obtain ⟨x3, rfl, w3⟩ := Shaped.arr_inv (n := 12) (e := 23) (k := .u64) (by kernel_rfl) (by kernel_rfl) (hf 3 _ _ rfl rfl)
  exact ⟨⟨x0, x1, x2, x3⟩, rfl, ⟨trivial, w1, w2, w3⟩⟩
end Go.Proofs.Yteioljlgcagnnaa
namespace Go.Proofs.Yteioljlgcagnnaa
open Go.Sh
noncomputable def z5_F : Go.Sh.Fn := ⟨5, bodyOf Try.f5, 89⟩
def z5_l0s (owner : Int) : List Change → Sum (Unit) (Bool)
 | [] =>
  (.inl ())
 | x1 :: rest =>
  (bif ((((decide (x1.Unit < 0)) || (decide (x1.Unit > 7))) || (x1.Mod.Owner != (IntKind.i64.wrap owner))) || (!(z19 x1.Mod))) then
   (.inr false)
  else
   z5_l0s owner rest )
theorem z5_l0_walk (s : ByteArray) (l : List Int) (ev : Event) (owner : Int) (x : Node × Bool) (v : (List Var)) (v1 : (List Var) × (List Change) × Int) (f_l : Bool) (r : Bool) (c0 : Ctx) (hc0 : c0.m.length = 0) (res : Sum (Unit) (Bool)) (J : ∀ w : Unit, res = .inl w → AX Try.prog tab z5_F c0 (Rp tab.S c0 (.sc (.bool r)) []) (some ⟨[.code [1, 1, 1, 1, 1, 1]], [(12, .own 3 1000000)], [.box 30 (Node.ch x.1), .row 60 (List.map Var.av v) 1000000 false, .row 60 (List.map Var.av v1.1) 1000000 true, .row 51 (List.map Change.av v1.2.1) 1000000 true]⟩)) (Jr : ∀ w, res = .inr w → w = r) :
  ∀ (rest : List Change) (i : Nat) (z : Int) (hI : z = ((i : Nat) : Int)) (hd : v1.2.1.drop i = rest) (H : z5_l0s owner rest = res), AX Try.prog tab z5_F c0 (Rp tab.S c0 (.sc (.bool r)) []) (some ⟨[.code [1, 1, 1, 1, 1, 0, 1, 0, 0], .loop [1, 1, 1, 1, 1, 0, 1, 0], .blk 0, .code [1, 1, 1, 1, 1, 1]], [(3, .sc (.int .u8 owner)), (12, .own 3 1000000), (14, .sc (.int .i64 z))], [.box 30 (Node.ch x.1), .row 60 (List.map Var.av v) 1000000 false, .row 60 (List.map Var.av v1.1) 1000000 true, .row 51 (List.map Change.av v1.2.1) 1000000 true]⟩) := by
 intro rest
 induction rest with
 | nil =>
  intro i z hI hd  H
  subst hI
  rw [z5_l0s] at H
  refine .factsH 3 rfl fun hf => ?_
  have hlen : v1.2.1.length ≤ 9223372036854775807 := by have hq := len_ok2 hf (of_decide_eq_true (by kernel_rfl)); rw [List.length_map] at hq; exact hq
  have hge : v1.2.1.length ≤ i := List.drop_eq_nil_iff.1 hd
  have hc : (decide (((i : Nat) : Int) < (((List.map Change.av v1.2.1).length : Nat) : Int))) = false := by rw [List.length_map]; exact decide_eq_false (by omega)
  exact .sg 3 [3,12,14,46] (.cdF hc (.sg 1 [12] (.kp [12] (.to (J () H.symm)))))
 | cons x1 rest ih =>
  intro i z hI hd  H
  subst hI
  rw [z5_l0s] at H
  refine .factsH 3 rfl fun hf => ?_
  have hlen : v1.2.1.length ≤ 9223372036854775807 := by have hq := len_ok2 hf (of_decide_eq_true (by kernel_rfl)); rw [List.length_map] at hq; exact hq
  obtain ⟨hlt, hv_i, hd2⟩ := drop_cons hd
  have hc : (decide (((i : Nat) : Int) < (((List.map Change.av v1.2.1).length : Nat) : Int))) = true := by rw [List.length_map]; exact decide_eq_true (by omega)
  have hw : IntKind.i64.wrap (((i : Nat) : Int) + 1) = ((i + 1 : Nat) : Int) := wrapI_succ (by omega)
  refine .sg 3 [3,12,14,46] (.cdT hc (.sg 4 [3,12,14] (.rg (.sg 2 [3,12,14,49,50] (.xo [3,12,14,51] (ixO_req hv_i Change.av) (.sg 1 [3,12,14,52] (.lo [3,12,14,53] (ixO_map hv_i Change.av).2 (.sg 2 [3,12,14,55] (.mm 55 (decide (x1.Unit < 0)) 7 [.pure, .pure, .read, .read, .read, .pure, .pure] [3, 12, 14, 62] 62 (fun z => .sc (.bool (z || (decide (x1.Unit > 7))))) ?J10 (fun hb J => ?ht10) (fun hb J => ?hf10))))))))))
  case ht10 =>
   exact .sg 7 [3,12,14,62] (.cl J)
  case hf10 =>
   exact .sg 2 [3,12,14,55,56,57] (.xo [3,12,14,55,58] (ixO_req hv_i Change.av) (.sg 1 [3,12,14,55,59] (.lo [3,12,14,55,60] (ixO_map hv_i Change.av).2 (.sg 2 [3,12,14,62] (.cl J)))))
  refine .sg 1 [3,12,14,63] (.mm 63 ((decide (x1.Unit < 0)) || (decide (x1.Unit > 7))) 10 [.pure, .pure, .pure, .pure, .read, .read, .read, .read, .pure, .pure] [3, 12, 14, 73] 73 (fun z => .sc (.bool (z || (x1.Mod.Owner != (IntKind.i64.wrap owner))))) ?J11 (fun hb J => ?ht11) (fun hb J => ?hf11))
  case ht11 =>
   exact .sg 10 [3,12,14,73] (.cl J)
  case hf11 =>
   exact .sg 2 [3,12,14,63,64,65] (.xo [3,12,14,63,66] (ixO_req hv_i Change.av) (.sg 2 [3,12,14,63,68] (.lo [3,12,14,63,69] (ixO_map hv_i Change.av).2 (.sg 4 [3,12,14,73] (.cl J)))))
  refine .sg 1 [3,12,14,74] (.mm 74 (((decide (x1.Unit < 0)) || (decide (x1.Unit > 7))) || (x1.Mod.Owner != (IntKind.i64.wrap owner))) 8 [.pure, .pure, .pure, .read, .read, .read, .pure, .pure] [3, 12, 14, 82] 82 (fun z => .sc (.bool (z || (!(z19 x1.Mod))))) ?J12 (fun hb J => ?ht12) (fun hb J => ?hf12))
  case ht12 =>
   exact .sg 8 [3,12,14,82] (.cl J)
  case hf12 =>
   exact .sg 2 [3,12,14,74,75,76] (.xo [3,12,14,74,77] (ixO_req hv_i Change.av) (.sg 1 [3,12,14,74,78] (.lo [3,12,14,74,79] (ixO_map hv_i Change.av).2 (.cp [3,12,14,74,80] (z19_calls x1.Mod) (.sg 2 [3,12,14,82] (.cl J))))))
  refine .dn (.cd ((((decide (x1.Unit < 0)) || (decide (x1.Unit > 7))) || (x1.Mod.Owner != (IntKind.i64.wrap owner))) || (!(z19 x1.Mod))) H (fun hb H => ?_) (fun hb H => ?_))
  ·
   refine .sg 2 [8] ?_
   subst H
   obtain rfl := Jr _ rfl
   exact .ret Try.func5 hc0
  ·
   exact .sg 3 [3,12,14] (.kp [3,12,14] (.into (.cl (ih (i + 1) _ hw hd2 H))))
def z5_raw (s : ByteArray) (l : List Int) (ev : Event) (owner : Int) : Option (Bool) :=
 (z10_raw  s).bind fun x =>
 (bif (!x.2) then
  some true
 else
  (z12_raw 20000 x.1 l).bind fun v =>
  (eval_Run_raw x.1 v ev (IntKind.i64.wrap owner) 3000).bind fun v1 =>
  (bif (v1.2.2 != 0) then
   some ((((List.map Change.av v1.2.1).length : Nat) : Int) == 0)
  else
   sumG (fun q => some q) (z5_l0s owner v1.2.1) fun v2 =>
   some (decide ((((List.map Change.av v1.2.1).length : Nat) : Int) ≤ 16))))
theorem z5_walk (s : ByteArray) (l : List Int) (ev : Event) (owner : Int) (f_l : Bool) (r : Bool) (H : z5_raw s l ev owner = some r) : ACalls Try.prog tab.S 5 [.sc (.string s), .sl 3 (List.map (intA .i64) l) f_l, Event.av ev, .sc (.int .u8 owner)] [] (.sc (.bool r)) [] := by
 refine .of_AX z5_F Try.func5 fun c0 hc0 => ?_
 rw [z5_raw] at H
 refine .sg 1 [0,1,2,3] (.rg (.bx [0,1,3,6] (.sg 1 [0,1,3,6] (.dn (.sg 1 [0,1,3,6] (.rg (.sg 1 [1,3,6,16] (bndO H fun x hv H => (.cp [1,3,6,17] ((z10_walk ) _ x hv) (.sg 6 [1,3,6,9,10] (.dn (.sg 3 [1,3,6,9,21] (.cd (!x.2) H (fun hb H => ?_) (fun hb H => ?_))))))))))))))
 ·
  refine .sg 1 [] (.rg (.cp [22] (z11_ok) (.sg 1 [8] (.dn ?_))))
  obtain rfl := Option.some.inj H
  exact .ret Try.func5 hc0
 ·
  refine .sg 2 [1,3,6,9] (bndO H fun v hv_v H => (bndO H fun v1 hv_v1 H => (.rp hc0 [3, 12, 13] [⟨3, [], [], .loud, [(25, Node.ag x.1), (26, .sl 3 (List.map (intA .i64) l) f_l)], [.box 30 (Node.ch x.1)], .own 1 1000000, [.box 30 (Node.ch x.1), .row 60 (List.map Var.av v) 1000000 true]⟩, ⟨7, [], [], .loud, [(24, Node.ag x.1), (27, .own 1 1000000), (28, Event.av ev), (30, .sc (.int .i64 (IntKind.i64.wrap owner)))], [.box 30 (Node.ch x.1), .row 60 (List.map Var.av v) 1000000 true], .tup [.own 2 1000000, .own 3 1000000, .sc (.int .i64 v1.2.2)], [.box 30 (Node.ch x.1), .row 60 (List.map Var.av v) 1000000 false, .row 60 (List.map Var.av v1.1) 1000000 true, .row 51 (List.map Change.av v1.2.1) 1000000 true]⟩] [[0, 1, 2, 3], [0, 1, 2, 3], [0, 1, 2, 3]] (.cons (LQ.ch [] ((z12_walk 20000) _ _ f_l v hv_v)) (.cons (LQ.gch [] [1] (eval_Run_walk _ _ _ _ _ false v1 hv_v1)) .nil)) (by kernel_rfl) (.sg 3 [3,12,36] (.cd (v1.2.2 != 0) H (fun hb H => ?_) (fun hb H => ?_))))))
  ·
   refine .sg 1 [12] (.rg (.cp [12,37] (z11_ok) (.sg 6 [8] (.dn ?_))))
   obtain rfl := Option.some.inj H
   exact .ret Try.func5 hc0
  ·
   refine .sg 5 [3,12,14] ?_
   rcases sumG_eq H with ⟨v2, hv, H⟩ | ⟨r1, hv, hr1⟩
   case inr =>
    refine .into ?_
    obtain rfl := Option.some.inj hr1
    exact .to (z5_l0_walk s l ev owner x v v1 f_l _ c0 hc0 (.inr _) (fun _ e => by cases e) (fun _ e => (Sum.inr.inj e).symm) v1.2.1 0 _ rfl rfl hv)
   refine .into (.to (z5_l0_walk s l ev owner x v v1 f_l r c0 hc0 (.inl v2) (fun w e => ?_) (fun _ e => by cases e) v1.2.1 0 _ rfl rfl hv))
   have e := Sum.inl.inj e
   subst e
   refine .sg 1 [12] (.rg (.cp [12,83] (z11_ok) (.sg 6 [8] (.dn ?_))))
   obtain rfl := Option.some.inj H
   exact .ret Try.func5 hc0
theorem getD_pos {l : List Int} (h : ∀ x ∈ l, 0 ≤ x ∧ x ≤ 18446744073709551615) (i : Nat) : 0 ≤ l.getD i 0 := by
 rw [List.getD_eq_getElem?_getD]
 by_cases hi : i < l.length
 ·rw [List.getElem?_eq_getElem hi]
  exact (h _ (List.getElem_mem hi)).1
 ·rw [List.getElem?_eq_none (by omega)]; exact Int.le_refl 0
theorem modOk_Mod {c : Mod} (h : modOk c) (h0 : 0 ≤ c.Owner) (h1 : c.Owner ≤ 255) : z19 c = true := by
 obtain ⟨⟨_, _, hc, _, hv⟩, ha, hp, hi, hh, hk⟩ := h
 have e1 : z26 c.Match = true := by rw [← z104_eq fun i => getD_pos hv i]; exact hc
 have sp : ∀ {x n : Int}, 0 ≤ x ∧ x ≤ n → z28 x n = true := fun h => by
  unfold z28
  rw [decide_eq_true (show _ ≥ (0 : Int) from h.1), decide_eq_true h.2]; rfl
 unfold z19
 rw [e1, ha, sp hp, sp ⟨h0, h1⟩, sp hi, sp hh]
 rcases hk with hk | ⟨k1, k2, k3, hk⟩
 ·rw [hk]; rfl
 ·rw [k1, k2, k3]
  rcases hk with ⟨hk, k4⟩ | ⟨hk, k4, k5⟩ | hk | ⟨hk, k5⟩
  ·rw [hk, k4]; rfl
  ·rw [hk, k4, k5]; rfl
  ·rw [hk]; rfl
  ·rw [hk, k5]; rfl
theorem EvalSound_true (x0 : ByteArray) (x1 : List Int) (x2 : Event) (x3 : Int) (w0 : True) (w1 : (∀ y ∈ x1, intW .i64 y)) (w2 : Event.wf x2) (w3 : intW .u8 x3) (l1 : x1.length * 8 ≤ 140737488355328) : z5_raw x0 x1 x2 x3 = some true := by
 have w3 : (decide (IntKind.u8.min ≤ x3) && decide (x3 ≤ IntKind.u8.max)) = true := w3
 rw [Bool.and_eq_true, decide_eq_true_eq, decide_eq_true_eq] at w3
 have a0 : (0 : Int) ≤ x3 := w3.1
 have a1 : x3 ≤ (255 : Int) := w3.2
 obtain ⟨n, b, e, h⟩ := tree_tot x0
 rw [z5_raw, e, Option.bind_some]
 dsimp only
 cases b with
 | false => rfl
 | true =>
  obtain ⟨hl, hp, ho⟩ := h rfl
  obtain ⟨v, ev, hv, hvl⟩ := given_tot' n x1 hl
  have hw : IntKind.i64.wrap x3 = x3 := wrapI_eq (by omega) (by omega)
  obtain ⟨m, hm, hlive, _⟩ := prog_sim ho hl hv x2 x3 3000
  rw [Bool.not_true, cond_false, ev, Option.bind_some, hw, run_eq, hm, Option.bind_some]
  cases hz : m.e != 0 with
  | true =>
   rw [cond_true, Option.bind_some]
   dsimp only
   rw [hz]
   rfl
  | false =>
   have L := hlive (by simpa using hz)
   rw [cond_false, Option.bind_some]
   have key : ∀ l : List Change, (∀ c ∈ l, chOk x3 c) → z5_l0s x3 l = .inl () := by
    intro l
    induction l with
    | nil => intro _; rfl
    | cons c rest ih =>
     intro h
     obtain ⟨u0, u1, ow, mk⟩ := h c List.mem_cons_self
     rw [z5_l0s, hw, ow, modOk_Mod mk (by omega) (by omega), decide_eq_false (show ¬ c.Unit < 0 by omega), decide_eq_false (show ¬ c.Unit > 7 by omega), bne_self_eq_false]
     exact ih fun y hy => h y (List.mem_cons_of_mem _ hy)
   show (bif ((0 : Int) != 0) then _ else _) = _
   rw [show ((0 : Int) != 0) = false from rfl, cond_false, key m.out L.outs]
   have := L.most
   show some (decide (((((List.map Change.av m.out).length : Nat) : Int)) ≤ 16)) = some true
   rw [List.length_map, decide_eq_true (by omega)]
end Go.Proofs.Yteioljlgcagnnaa