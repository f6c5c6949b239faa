import Derived.Test.YteioljlgcagnnaaM7EvalKeeps
set_option linter.unusedVariables false
set_option linter.unusedSimpArgs false
set_option maxRecDepth 100000
set_option maxHeartbeats 4000000
namespace Go.Proofs.Yteioljlgcagnnaa
open Go.Sh
noncomputable def z15_F : Go.Sh.Fn := ⟨15, bodyOf Try.f15, 26⟩
def z15_l0s (b : List Var) : List Var → Nat → Option (Sum (Unit) (Bool))
 | [], i =>
  some (.inl ())
 | x :: rest, i =>
  (ixO b ((i : Nat) : Int)).bind fun x1 =>
  (bif (!((x.Name == x1.Name) && (x.N == x1.N))) then
   some (.inr false)
  else
   z15_l0s b rest (i + 1) )
theorem z15_l0_walk (a : List Var) (b : List Var) (f_a : Bool) (f_b : Bool) (r : Bool) (c0 : Ctx) (hc0 : c0.m.length = 0) (res : Sum (Unit) (Bool)) (J : ∀ w : Unit, res = .inl w → AX Try.prog tab z15_F c0 (Rp tab.S c0 (.sc (.bool r)) []) (some ⟨[.code [1, 1, 1]], [], []⟩)) (Jr : ∀ w, res = .inr w → w = r) :
  ∀ (rest : List Var) (i : Nat) (z : Int) (hI : z = ((i : Nat) : Int)) (hd : a.drop i = rest) (H : z15_l0s b rest i = some res), AX Try.prog tab z15_F c0 (Rp tab.S c0 (.sc (.bool r)) []) (some ⟨[.code [1, 1, 0, 1, 0, 0], .loop [1, 1, 0, 1, 0], .blk 0, .code [1, 1, 1]], [(0, .sl 60 (List.map Var.av a) f_a), (1, .sl 60 (List.map Var.av b) f_b), (5, .sc (.int .i64 z))], []⟩) := by
 intro rest
 induction rest with
 | nil =>
  intro i z hI hd  H
  subst hI
  rw [z15_l0s] at H
  refine .facts 0 fun hf => ?_
  have hlen : a.length ≤ 9223372036854775807 := by have hq := len_ok hf.2.1; rw [List.length_map] at hq; exact hq
  have hge : a.length ≤ i := List.drop_eq_nil_iff.1 hd
  have hc : (decide (((i : Nat) : Int) < (((List.map Var.av a).length : Nat) : Int))) = false := by rw [List.length_map]; exact decide_eq_false (by omega)
  exact .sg 3 [0,1,5,14] (.cdF hc (.sg 1 [] (.kp [] (.to (J () (Option.some.inj H).symm)))))
 | cons x rest ih =>
  intro i z hI hd  H
  subst hI
  rw [z15_l0s] at H
  refine .facts 0 fun hf => ?_
  have hlen : a.length ≤ 9223372036854775807 := by have hq := len_ok hf.2.1; rw [List.length_map] at hq; exact hq
  obtain ⟨hlt, hv_i, hd2⟩ := drop_cons hd
  have hc : (decide (((i : Nat) : Int) < (((List.map Var.av a).length : Nat) : Int))) = true := by rw [List.length_map]; exact decide_eq_true (by omega)
  have hw : IntKind.i64.wrap (((i : Nat) : Int) + 1) = ((i + 1 : Nat) : Int) := wrapI_succ (by omega)
  refine .sg 3 [0,1,5,14] (.cdT hc (.sg 4 [0,1,5] (.rg (.sg 2 [0,1,5,17,18] (.xi [0,1,5,19] Var.av hv_i (.sg 3 [0,1,5,20,21,22] (bndO H fun x1 hv H => (.xi [0,1,5,20,23] Var.av hv (.sg 1 [0,1,5,20,24] (.eq_ [0,1,5,25] 9 (.dn (.cd (!((x.Name == x1.Name) && (x.N == x1.N))) H (fun hb H => ?_) (fun hb H => ?_)))))))))))))
  ·
   refine .sg 2 [4] ?_
   obtain rfl := Option.some.inj H
   obtain rfl := Jr _ rfl
   exact .ret Try.func15 hc0
  ·
   exact .sg 3 [0,1,5] (.kp [0,1,5] (.into (.cl (ih (i + 1) _ hw hd2 H))))

def z15_raw (a : List Var) (b : List Var) : Option (Bool) :=
 (bif ((((List.map Var.av a).length : Nat) : Int) != (((List.map Var.av b).length : Nat) : Int)) then
  some false
 else
  loopO (z15_l0s b a 0) fun v =>
  some true)
theorem z15_walk (a : List Var) (b : List Var) (f_a : Bool) (f_b : Bool) (r : Bool) (H : z15_raw a b = some r) : ACalls Try.prog tab.S 15 [.sl 60 (List.map Var.av a) f_a, .sl 60 (List.map Var.av b) f_b] [] (.sc (.bool r)) [] := by
 refine .of_AX z15_F Try.func15 fun c0 hc0 => ?_
 rw [z15_raw] at H
 refine .sg 5 [0,1,10] (.cd ((((List.map Var.av a).length : Nat) : Int) != (((List.map Var.av b).length : Nat) : Int)) H (fun hb H => ?_) (fun hb H => ?_))
 ·
  refine .sg 2 [4] ?_
  obtain rfl := Option.some.inj H
  exact .ret Try.func15 hc0
 ·
  refine .sg 5 [0,1,5] ?_
  rcases loopO_some H with ⟨v, hv, H⟩ | hv
  case inr =>
   exact .into (.to (z15_l0_walk a b f_a f_b _ c0 hc0 (.inr _) (fun _ e => by cases e) (fun _ e => (Sum.inr.inj e).symm) a 0 _ rfl rfl hv))
  refine .into (.to (z15_l0_walk a b f_a f_b r c0 hc0 (.inl v) (fun w e => ?_) (fun _ e => by cases e) a 0 _ rfl rfl hv))
  have e := Sum.inl.inj e
  subst e
  refine .sg 2 [4] ?_
  obtain rfl := Option.some.inj H
  exact .ret Try.func15 hc0

noncomputable def z43_F : Go.Sh.Fn := ⟨43, bodyOf Try.f43, 26⟩
def z43_l0s (b : List Act) : List Act → Nat → Option (Sum (Unit) (Bool))
 | [], i =>
  some (.inl ())
 | x :: rest, i =>
  (ixO b ((i : Nat) : Int)).bind fun x1 =>
  (bif (!((x.Kind == x1.Kind) && ((x.Port == x1.Port) && ((x.Field == x1.Field) && (x.Value == x1.Value))))) then
   some (.inr false)
  else
   z43_l0s b rest (i + 1) )
theorem z43_l0_walk (a : List Act) (b : List Act) (f_a : Bool) (f_b : Bool) (r : Bool) (c0 : Ctx) (hc0 : c0.m.length = 0) (res : Sum (Unit) (Bool)) (J : ∀ w : Unit, res = .inl w → AX Try.prog tab z43_F c0 (Rp tab.S c0 (.sc (.bool r)) []) (some ⟨[.code [1, 1, 1]], [], []⟩)) (Jr : ∀ w, res = .inr w → w = r) :
  ∀ (rest : List Act) (i : Nat) (z : Int) (hI : z = ((i : Nat) : Int)) (hd : a.drop i = rest) (H : z43_l0s b rest i = some res), AX Try.prog tab z43_F c0 (Rp tab.S c0 (.sc (.bool r)) []) (some ⟨[.code [1, 1, 0, 1, 0, 0], .loop [1, 1, 0, 1, 0], .blk 0, .code [1, 1, 1]], [(0, .sl 99 (List.map Act.av a) f_a), (1, .sl 99 (List.map Act.av b) f_b), (5, .sc (.int .i64 z))], []⟩) := by
 intro rest
 induction rest with
 | nil =>
  intro i z hI hd  H
  subst hI
  rw [z43_l0s] at H
  refine .facts 0 fun hf => ?_
  have hlen : a.length ≤ 9223372036854775807 := by have hq := len_ok hf.2.1; rw [List.length_map] at hq; exact hq
  have hge : a.length ≤ i := List.drop_eq_nil_iff.1 hd
  have hc : (decide (((i : Nat) : Int) < (((List.map Act.av a).length : Nat) : Int))) = false := by rw [List.length_map]; exact decide_eq_false (by omega)
  exact .sg 3 [0,1,5,14] (.cdF hc (.sg 1 [] (.kp [] (.to (J () (Option.some.inj H).symm)))))
 | cons x rest ih =>
  intro i z hI hd  H
  subst hI
  rw [z43_l0s] at H
  refine .facts 0 fun hf => ?_
  have hlen : a.length ≤ 9223372036854775807 := by have hq := len_ok hf.2.1; rw [List.length_map] at hq; exact hq
  obtain ⟨hlt, hv_i, hd2⟩ := drop_cons hd
  have hc : (decide (((i : Nat) : Int) < (((List.map Act.av a).length : Nat) : Int))) = true := by rw [List.length_map]; exact decide_eq_true (by omega)
  have hw : IntKind.i64.wrap (((i : Nat) : Int) + 1) = ((i + 1 : Nat) : Int) := wrapI_succ (by omega)
  refine .sg 3 [0,1,5,14] (.cdT hc (.sg 4 [0,1,5] (.rg (.sg 2 [0,1,5,17,18] (.xi [0,1,5,19] Act.av hv_i (.sg 3 [0,1,5,20,21,22] (bndO H fun x1 hv H => (.xi [0,1,5,20,23] Act.av hv (.sg 1 [0,1,5,20,24] (.eq_ [0,1,5,25] 9 (.dn (.cd (!((x.Kind == x1.Kind) && ((x.Port == x1.Port) && ((x.Field == x1.Field) && (x.Value == x1.Value))))) H (fun hb H => ?_) (fun hb H => ?_)))))))))))))
  ·
   refine .sg 2 [4] ?_
   obtain rfl := Option.some.inj H
   obtain rfl := Jr _ rfl
   exact .ret Try.func43 hc0
  ·
   exact .sg 3 [0,1,5] (.kp [0,1,5] (.into (.cl (ih (i + 1) _ hw hd2 H))))

def z43_raw (a : List Act) (b : List Act) : Option (Bool) :=
 (bif ((((List.map Act.av a).length : Nat) : Int) != (((List.map Act.av b).length : Nat) : Int)) then
  some false
 else
  loopO (z43_l0s b a 0) fun v =>
  some true)
theorem z43_walk (a : List Act) (b : List Act) (f_a : Bool) (f_b : Bool) (r : Bool) (H : z43_raw a b = some r) : ACalls Try.prog tab.S 43 [.sl 99 (List.map Act.av a) f_a, .sl 99 (List.map Act.av b) f_b] [] (.sc (.bool r)) [] := by
 refine .of_AX z43_F Try.func43 fun c0 hc0 => ?_
 rw [z43_raw] at H
 refine .sg 5 [0,1,10] (.cd ((((List.map Act.av a).length : Nat) : Int) != (((List.map Act.av b).length : Nat) : Int)) H (fun hb H => ?_) (fun hb H => ?_))
 ·
  refine .sg 2 [4] ?_
  obtain rfl := Option.some.inj H
  exact .ret Try.func43 hc0
 ·
  refine .sg 5 [0,1,5] ?_
  rcases loopO_some H with ⟨v, hv, H⟩ | hv
  case inr =>
   exact .into (.to (z43_l0_walk a b f_a f_b _ c0 hc0 (.inr _) (fun _ e => by cases e) (fun _ e => (Sum.inr.inj e).symm) a 0 _ rfl rfl hv))
  refine .into (.to (z43_l0_walk a b f_a f_b r c0 hc0 (.inl v) (fun w e => ?_) (fun _ e => by cases e) a 0 _ rfl rfl hv))
  have e := Sum.inl.inj e
  subst e
  refine .sg 2 [4] ?_
  obtain rfl := Option.some.inj H
  exact .ret Try.func43 hc0

noncomputable def z25_F : Go.Sh.Fn := ⟨25, bodyOf Try.f25, 59⟩
def z25_raw (a : Mod) (b : Mod) : Option (Bool) :=
 (bif (((a.Kind == b.Kind) && ((a.Match.Value == b.Match.Value) && (a.Match.Care == b.Match.Care))) && (a.Prio == b.Prio)) then
  (z43_raw  a.Acts b.Acts).bind fun x =>
  some ((((x && (a.Idle == b.Idle)) && (a.Hard == b.Hard)) && (a.Owner == b.Owner)) && (a.Check == b.Check))
 else
  some false)
theorem z25_walk (a : Mod) (b : Mod) (r : Bool) (H : z25_raw a b = some r) : ACalls Try.prog tab.S 25 [Mod.av a, Mod.av b] [] (.sc (.bool r)) [] := by
 refine .of_AX z25_F Try.func25 fun c0 hc0 => ?_
 rw [z25_raw] at H
 refine .sg 3 [2,3] (.rg (.sg 6 [2,3,10] (.mm 10 (a.Kind == b.Kind) 6 [.pure, .pure, .read, .pure, .read, .pure] [2, 3, 16] 16 (fun z => .sc (.bool (z && ((a.Match.Value == b.Match.Value) && (a.Match.Care == b.Match.Care))))) ?J1 (fun hb J => ?ht1) (fun hb J => ?hf1))))
 case ht1 =>
  exact .sg 4 [2,3,10,12,14] (.eq_ [2,3,10,15] 9 (.sg 1 [2,3,16] (.cl J)))
 case hf1 =>
  exact .sg 6 [2,3,16] (.cl J)
 refine .sg 1 [2,3,17] (.mx 0 [2,3,23] (.sg 1 [2,3,24] (.sp 24 (((a.Kind == b.Kind) && ((a.Match.Value == b.Match.Value) && (a.Match.Care == b.Match.Care))) && (a.Prio == b.Prio)) H (fun hb H => ?_) (fun hb H => ?_))))
 ·
  refine .sg 4 [2,3,24,26,28] (bndO H fun x hv H => (.cp [2,3,24,29] ((z43_walk ) _ _ false false x hv) (.sg 2 [2,3,31] (.mx 0 [2,3,37] (.sg 1 [2,3,38] (.mx 0 [2,3,44] (.sg 1 [2,3,45] (.mx 0 [2,3,51] (.sg 1 [2,3,52] (.mx 0 [58] (.sg 1 [4] (.dn ?_))))))))))))
  obtain rfl := Option.some.inj H
  exact .ret Try.func25 hc0
 ·
  refine .sg 35 [4] (.dn ?_)
  obtain rfl := Option.some.inj H
  exact .ret Try.func25 hc0

noncomputable def z16_F : Go.Sh.Fn := ⟨16, bodyOf Try.f16, 42⟩
def z16_l0s (b : List Change) : List Change → Nat → Option (Sum (Unit) (Bool))
 | [], i =>
  some (.inl ())
 | x :: rest, i =>
  (ixO b ((i : Nat) : Int)).bind fun x1 =>
  (bif (x.Unit != x1.Unit) then
   some (.inr false)
  else
   (ixO b ((i : Nat) : Int)).bind fun x2 =>
   (z25_raw x.Mod x2.Mod).bind fun x3 =>
   (bif (!x3) then
    some (.inr false)
   else
    z16_l0s b rest (i + 1) ))
theorem z16_l0_walk (a : List Change) (b : List Change) (f_a : Bool) (f_b : Bool) (r : Bool) (c0 : Ctx) (hc0 : c0.m.length = 0) (res : Sum (Unit) (Bool)) (J : ∀ w : Unit, res = .inl w → AX Try.prog tab z16_F c0 (Rp tab.S c0 (.sc (.bool r)) []) (some ⟨[.code [1, 1, 1]], [], []⟩)) (Jr : ∀ w, res = .inr w → w = r) :
  ∀ (rest : List Change) (i : Nat) (z : Int) (hI : z = ((i : Nat) : Int)) (hd : a.drop i = rest) (H : z16_l0s b rest i = some res), AX Try.prog tab z16_F c0 (Rp tab.S c0 (.sc (.bool r)) []) (some ⟨[.code [1, 1, 0, 1, 0, 0], .loop [1, 1, 0, 1, 0], .blk 0, .code [1, 1, 1]], [(0, .sl 51 (List.map Change.av a) f_a), (1, .sl 51 (List.map Change.av b) f_b), (5, .sc (.int .i64 z))], []⟩) := by
 intro rest
 induction rest with
 | nil =>
  intro i z hI hd  H
  subst hI
  rw [z16_l0s] at H
  refine .facts 0 fun hf => ?_
  have hlen : a.length ≤ 9223372036854775807 := by have hq := len_ok hf.2.1; rw [List.length_map] at hq; exact hq
  have hge : a.length ≤ i := List.drop_eq_nil_iff.1 hd
  have hc : (decide (((i : Nat) : Int) < (((List.map Change.av a).length : Nat) : Int))) = false := by rw [List.length_map]; exact decide_eq_false (by omega)
  exact .sg 3 [0,1,5,14] (.cdF hc (.sg 1 [] (.kp [] (.to (J () (Option.some.inj H).symm)))))
 | cons x rest ih =>
  intro i z hI hd  H
  subst hI
  rw [z16_l0s] at H
  refine .facts 0 fun hf => ?_
  have hlen : a.length ≤ 9223372036854775807 := by have hq := len_ok hf.2.1; rw [List.length_map] at hq; exact hq
  obtain ⟨hlt, hv_i, hd2⟩ := drop_cons hd
  have hc : (decide (((i : Nat) : Int) < (((List.map Change.av a).length : Nat) : Int))) = true := by rw [List.length_map]; exact decide_eq_true (by omega)
  have hw : IntKind.i64.wrap (((i : Nat) : Int) + 1) = ((i + 1 : Nat) : Int) := wrapI_succ (by omega)
  refine .sg 3 [0,1,5,14] (.cdT hc (.sg 4 [0,1,5] (.rg (.sg 2 [0,1,5,17,18] (.xi [0,1,5,19] Change.av hv_i (.sg 4 [0,1,5,21,22,23] (bndO H fun x1 hv H => (.xi [0,1,5,21,24] Change.av hv (.sg 4 [0,1,5,28] (.sp 28 (x.Unit != x1.Unit) H (fun hb H => ?_) (fun hb H => ?_)))))))))))
  ·
   refine .sg 13 [0,1,5,41] (.dn (.sg 3 [4] ?_))
   obtain rfl := Option.some.inj H
   obtain rfl := Jr _ rfl
   exact .ret Try.func16 hc0
  ·
   refine .sg 2 [0,1,5,28,29,30] (.xi [0,1,5,28,31] Change.av hv_i (.sg 4 [0,1,5,28,33,34,35] (bndO H fun x2 hv H => (.xi [0,1,5,28,33,36] Change.av hv (.sg 2 [0,1,5,28,33,38] (bndO H fun x3 hv H => (.cp [0,1,5,28,39] ((z25_walk ) _ _ x3 hv) (.sg 2 [0,1,5,41] (.dn (.cd (!x3) H (fun hb H => ?_) (fun hb H => ?_)))))))))))
   ·
    refine .sg 2 [4] ?_
    obtain rfl := Option.some.inj H
    obtain rfl := Jr _ rfl
    exact .ret Try.func16 hc0
   ·
    exact .sg 3 [0,1,5] (.kp [0,1,5] (.into (.cl (ih (i + 1) _ hw hd2 H))))

def z16_raw (a : List Change) (b : List Change) : Option (Bool) :=
 (bif ((((List.map Change.av a).length : Nat) : Int) != (((List.map Change.av b).length : Nat) : Int)) then
  some false
 else
  loopO (z16_l0s b a 0) fun v =>
  some true)
theorem z16_walk (a : List Change) (b : List Change) (f_a : Bool) (f_b : Bool) (r : Bool) (H : z16_raw a b = some r) : ACalls Try.prog tab.S 16 [.sl 51 (List.map Change.av a) f_a, .sl 51 (List.map Change.av b) f_b] [] (.sc (.bool r)) [] := by
 refine .of_AX z16_F Try.func16 fun c0 hc0 => ?_
 rw [z16_raw] at H
 refine .sg 5 [0,1,10] (.cd ((((List.map Change.av a).length : Nat) : Int) != (((List.map Change.av b).length : Nat) : Int)) H (fun hb H => ?_) (fun hb H => ?_))
 ·
  refine .sg 2 [4] ?_
  obtain rfl := Option.some.inj H
  exact .ret Try.func16 hc0
 ·
  refine .sg 5 [0,1,5] ?_
  rcases loopO_some H with ⟨v, hv, H⟩ | hv
  case inr =>
   exact .into (.to (z16_l0_walk a b f_a f_b _ c0 hc0 (.inr _) (fun _ e => by cases e) (fun _ e => (Sum.inr.inj e).symm) a 0 _ rfl rfl hv))
  refine .into (.to (z16_l0_walk a b f_a f_b r c0 hc0 (.inl v) (fun w e => ?_) (fun _ e => by cases e) a 0 _ rfl rfl hv))
  have e := Sum.inl.inj e
  subst e
  refine .sg 2 [4] ?_
  obtain rfl := Option.some.inj H
  exact .ret Try.func16 hc0

noncomputable def z10_F : Go.Sh.Fn := ⟨10, bodyOf Try.f10, 27⟩
def z10_raw (s : ByteArray) : Option (Node × Bool) :=
 (z20_raw 20000 s).bind fun x =>
 (bif ((decide (((s.size : Nat) : Int) > 4000)) || (x.2.E != 0)) then
  some (x.1, false)
 else
  (z21_raw 20000 20000 x.1).bind fun x1 =>
  (bif (x1.E != 0) then
   some (x.1, false)
  else
   some (x.1, true)))
theorem z10_walk (s : ByteArray) (r : Node × Bool) (H : z10_raw s = some r) : ACalls Try.prog tab.S 10 [.sc (.string s)] [] (.tup [Node.ag r.1, .sc (.bool r.2)]) [] := by
 refine .of_AX z10_F Try.func10 fun c0 hc0 => ?_
 rw [z10_raw] at H
 refine .sg 3 [0,2] (.rg (.sg 1 [0,2,7] (bndO H fun x hv H => (.cp [0,2,8] ((z20_walk 20000) _ x hv) (.sg 7 [0,2,4,5] (.dn (.sg 2 [0,2,4,5] (.rg (.sg 4 [2,4,5,14] (.mx 1 [2,4,18] (.sg 1 [2,4,19] (.sp 19 ((decide (((s.size : Nat) : Int) > 4000)) || (x.2.E != 0)) H (fun hb H => ?_) (fun hb H => ?_)))))))))))))
 ·
  refine .sg 5 [2,4,24] (.dn (.sg 3 [2,3] ?_))
  obtain rfl := Option.some.inj H
  exact .ret Try.func10 hc0
 ·
  refine .sg 1 [2,4,19,20] (bndO H fun x1 hv H => (.cp [2,4,19,21] ((z21_walk 20000 20000) _ x1 hv) (.fd [2,4,19,22] (.sg 2 [2,4,24] (.dn (.cd (x1.E != 0) H (fun hb H => ?_) (fun hb H => ?_)))))))
  ·
   refine .sg 2 [2,3] ?_
   obtain rfl := Option.some.inj H
   exact .ret Try.func10 hc0
  ·
   refine .sg 3 [2,3] ?_
   obtain rfl := Option.some.inj H
   exact .ret Try.func10 hc0

noncomputable def z12_F : Go.Sh.Fn := ⟨12, bodyOf Try.f12, 30⟩
def z12_l0 (l : List Int) : Nat → Int → List Var → Option ((List Var))
 | 0, _, _ => none
 | m + 1, i, v1 =>
  (bif ((decide (i < (((List.map Var.av v1).length : Nat) : Int))) && (decide (i < (((List.map (intA .i64) l).length : Nat) : Int)))) then
  (ixO l i).bind fun x =>
  (ixO v1 i).bind fun x1 =>
  z12_l0 l m (IntKind.i64.wrap (i + 1)) (v1.set i.toNat ({ Name := x1.Name, N := x } : Var))
 else
  some v1)
theorem z12_l0_walk (q0 : Nat) (n : Node) (l : List Int) (v : (List Var)) (f_l : Bool) (r : (List Var)) (c0 : Ctx) (hc0 : c0.m.length = 0) (res : (List Var)) (J : AX Try.prog tab z12_F c0 (Rp tab.S c0 (.own 0 1000000) [.row 60 (List.map Var.av r) 1000000 true]) (some ⟨[.code [1, 1, 1]], [(5, .own 1 1000000)], [.box 30 (Node.ch n), .row 60 (List.map Var.av res) 1000000 true]⟩)) :
  ∀ (m : Nat) (i : Int) (v1 : List Var) (H : z12_l0 l m i v1 = some res), AX Try.prog tab z12_F c0 (Rp tab.S c0 (.own 0 1000000) [.row 60 (List.map Var.av r) 1000000 true]) (some ⟨[.code [1, 1, 0, 1, 0, 0], .loop [1, 1, 0, 1, 0], .blk 0, .code [1, 1, 1]], [(1, .sl 3 (List.map (intA .i64) l) f_l), (5, .own 1 1000000), (6, .sc (.int .i64 i))], [.box 30 (Node.ch n), .row 60 (List.map Var.av v1) 1000000 true]⟩) := by
 intro m
 induction m with
 | zero => intro i v1 H; cases H
 | succ m ih =>
  intro i v1 H
  rw [z12_l0] at H
  refine .sg 2 [1,5,6] (.rg (.sg 5 [1,5,6,13] (.mx 0 [1,5,6,18] (.dn (.cd ((decide (i < (((List.map Var.av v1).length : Nat) : Int))) && (decide (i < (((List.map (intA .i64) l).length : Nat) : Int)))) H (fun hb H => ?_) (fun hb H => ?_))))))
  ·
   exact .sg 3 [1,5,6] (.rg (.sg 4 [1,5,6,21,22,23,24] (bndO H fun x hv H => (.xi [1,5,6,21,22,25] (intA .i64) hv (.sg 1 [1,5,6,21,22,26] (bndO H fun x1 hv_x1 H => (.xo [1,5,6,26,27] (ixO_req hv_x1 Var.av) (.sg 1 [1,5,6,26,28] (.st [1,5,6] Var.av ({ Name := x1.Name, N := x } : Var) (ixO_map hv_x1 Var.av).2 (.dn (.sg 2 [1,5,6] (.kp [1,5,6] (.into (.to (ih (IntKind.i64.wrap (i + 1)) (v1.set i.toNat ({ Name := x1.Name, N := x } : Var)) H)))))))))))))))
  ·
   refine .sg 1 [5] (.kp [5] ?_)
   obtain rfl := Option.some.inj H
   exact .to J
def z12_raw (q0 : Nat) (n : Node) (l : List Int) : Option ((List Var)) :=
 (z18_raw n).bind fun v =>
 (z12_l0 l q0 0 v).bind fun v2 =>
 some v2
theorem z12_walk (q0 : Nat) (n : Node) (l : List Int) (f_l : Bool) (r : (List Var)) (H : z12_raw q0 n l = some r) : ACalls Try.prog tab.S 12 [Node.ag n, .sl 3 (List.map (intA .i64) l) f_l] [] (.own 0 1000000) [.row 60 (List.map Var.av r) 1000000 true] := by
 refine .of_AX z12_F Try.func12 fun c0 hc0 => ?_
 rw [z12_raw] at H
 refine .sg 3 [1,2] (.rg (.sg 1 [1,7] (bndO H fun v hv H => (.ch [1,8] [] (z18_walk _ v hv) (.sg 1 [1,5] (.dn (.sg 4 [1,5,6] ?_)))))))
 refine bndO H fun v2 hv H => (.into (.to (z12_l0_walk q0 n l v f_l r c0 hc0 v2 ?_ q0 0 v hv)))
 refine .sg 2 [4] ?_
 obtain rfl := Option.some.inj H
 exact .ret Try.func12 hc0 [1]

end Go.Proofs.Yteioljlgcagnnaa


set_option linter.unusedVariables false
set_option linter.unusedSimpArgs false
set_option maxRecDepth 100000
set_option maxHeartbeats 4000000
namespace Go.Proofs.Yteioljlgcagnnaa
open Go.Sh
theorem ref_Field_l0s (name : ByteArray) : ∀ (L : List ByteArray) (i : Nat), (∀ (j : Nat) (x : ByteArray), L[j]? = some x → z77_raw ((i + j : Nat) : Int) = some x) →
  z57_l0s name L.length i = some (match L.findIdx? (· == name) with | some k => .inr (((i + k : Nat) : Int), true) | none => .inl ())
 | [], i, _ => rfl
 | y :: L, i, h => by
  have h0 := h 0 y rfl
  rw [Nat.add_zero] at h0
  rw [List.length_cons, z57_l0s, h0, List.findIdx?_cons, ref_Field_l0s name L (i + 1) (fun j x hx => by rw [show i + 1 + j = i + (j + 1) by omega]; exact h (j + 1) x (by simpa using hx))]
  show (bif y == name then _ else _) = _
  cases hy : (y == name)
  ·simp only [cond_false, Bool.false_eq_true, if_false]
   cases L.findIdx? (· == name) with
   | none => rfl
   | some k => simp only [Option.map_some]; rw [show i + 1 + k = i + (k + 1) by omega]
  ·simp
theorem ref_Field_eq (name : ByteArray) : z57_raw name = some (z91 name) := by
 have hn : ∀ (j : Nat) (x : ByteArray), (z99.map (·.name))[j]? = some x → z77_raw ((0 + j : Nat) : Int) = some x := by
  intro j x h
  have hj : j < 12 := by
   have := (List.getElem?_eq_some_iff.1 h).1
   simpa [z99] using this
  rw [Nat.zero_add]
  match j, hj with
  | 0, _ | 1, _ | 2, _ | 3, _ | 4, _ | 5, _ | 6, _ | 7, _ | 8, _ | 9, _ | 10, _ | 11, _ => injection h with h; subst h; rfl
 have h := ref_Field_l0s name (z99.map (·.name)) 0 hn
 have hl : (z99.map (·.name)).length = 12 := rfl
 rw [hl] at h
 rw [z57_raw, h, z91, z100_idx]
 have hf : (fun y0 => z101 y0 name) = ((fun x => x == name) ∘ fun f : Field => f.name) := rfl
 rw [hf, List.findIdx?_map]
 unfold idxF loopO
 cases z99.findIdx? ((fun x => x == name) ∘ fun f : Field => f.name) with
 | none => simp
 | some k =>
  simp only [Nat.zero_add]
  rw [if_neg (by omega), decide_eq_true (show ((k : Nat) : Int) ≥ 0 by omega)]
def knownB (on name : ByteArray) : Bool :=
 ((on == (ByteArray.mk #[112, 97, 99, 107, 101, 116])) && (((z91 name).2 || (name == (ByteArray.mk #[117, 110, 105, 116]))) || (name == (ByteArray.mk #[112, 111, 114, 116])))) || ((on == (ByteArray.mk #[114, 101, 109, 111, 118, 101, 100])) && (name == (ByteArray.mk #[117, 110, 105, 116])))
theorem Known_eq (on name : ByteArray) : z37_raw on name = some (knownB on name) := by
 rw [z37_raw, ref_Field_eq]
 rfl

def okN (vars : List ByteArray) (on s : ByteArray) : Prop := z36 vars s = true ∨ knownB on s = true
def okE (vars : List ByteArray) (on : ByteArray) : Nat → Node → Prop
 | 0, _ => False
 | q + 1, n => (n.Kind = 18 ∧ n.Kids = []) ∨ (n.Kind = 19 ∧ n.Kids = [] ∧ okN vars on n.Text) ∨ (n.Kind = 20 ∧ ∃ a b, n.Kids = [a, b] ∧ okE vars on q a ∧ okE vars on q b) ∨ (n.Kind = 21 ∧ ∃ a, n.Kids = [a] ∧ okE vars on q a ∧ (n.Text = (ByteArray.mk #[45]) ∨ n.Text = (ByteArray.mk #[33])))
def okM (vars : List ByteArray) (on : ByteArray) (d : Nat) (n : Node) : Prop := ∀ x ∈ n.Kids, ∃ a, x.Kids = [a] ∧ okE vars on d a ∧ -1 ≤ x.Num ∧ x.Num ≤ sizeT (z91 x.Text).1
def okA (vars : List ByteArray) (on : ByteArray) (d : Nat) (n : Node) : Prop := n.Kids.length ≤ 8 ∧ ∀ x ∈ n.Kids, (x.Kind = 15 ∨ x.Kind = 16 ∨ x.Kind = 17) ∧ ((x.Kind = 15 ∨ x.Kind = 16) → ∃ a, x.Kids = [a] ∧ okE vars on d a)
def okS (vars : List ByteArray) (on : ByteArray) (d : Nat) : Nat → Node → Prop
 | 0, _ => False
 | q + 1, n =>
  (n.Kind = 7 ∧ ∀ k ∈ n.Kids, okS vars on d q k) ∨
  (n.Kind = 4 ∧ ∃ a, n.Kids = [a] ∧ okE vars on d a) ∨
  (n.Kind = 5 ∧ ∃ a b l, n.Kids = a :: b :: l ∧ okE vars on d a ∧ (∀ k ∈ b.Kids, okS vars on d q k) ∧ (l = [] ∨ ∃ c, l = [c] ∧ ∀ k ∈ c.Kids, okS vars on d q k)) ∨
  (n.Kind = 6 ∧ ∃ a b, n.Kids = [a, b] ∧ okE vars on d a ∧ ∀ k ∈ b.Kids, okS vars on d q k) ∨
  (n.Kind = 8 ∧ ∃ u m p i h a, n.Kids = [u, m, p, i, h, a] ∧ okE vars on d u ∧ okM vars on d m ∧ okE vars on d p ∧ okE vars on d i ∧ okE vars on d h ∧ okA vars on d a) ∨
  (n.Kind = 9 ∧ ∃ u m l, n.Kids = u :: m :: l ∧ okE vars on d u ∧ okM vars on d m ∧ ((n.Num ≠ 1 ∧ l = []) ∨ (n.Num = 1 ∧ ∃ p, l = [p] ∧ okE vars on d p))) ∨
  (n.Kind = 10 ∧ ∃ u m l a, n.Kids = u :: m :: (l ++ [a]) ∧ okE vars on d u ∧ okM vars on d m ∧ okA vars on d a ∧ ((n.Num ≠ 1 ∧ l = []) ∨ (n.Num = 1 ∧ ∃ p, l = [p] ∧ okE vars on d p))) ∨
  (n.Kind = 11 ∧ n.Kids = [])
def CK (P : Prop) (o : Option Fault) : Prop := ∃ f, o = some f ∧ (f.E = 0 → P)
theorem CK.imp {P Q : Prop} {o : Option Fault} (h : CK P o) (i : P → Q) : CK Q o := by
 obtain ⟨f, e, hf⟩ := h
 exact ⟨f, e, fun z => i (hf z)⟩
theorem all_l0s_ck (g : Node → (List ByteArray) → ByteArray → Option Fault) (vars : List ByteArray) (on : ByteArray) (P : Node → Prop) : ∀ l : List Node, (∀ k ∈ l, CK (P k) (g k vars on)) → CK (∀ k ∈ l, P k) (loopO (z38_l0s g vars on l) fun _ => some ({ E := 0, At := 0 } : Fault))
 | [], _ => ⟨_, rfl, fun _ k hk => by cases hk⟩
 | x :: rest, h => by
  obtain ⟨f, e, hf⟩ := h x List.mem_cons_self
  rw [z38_l0s, e, Option.bind_some]
  cases hz : f.E != 0 with
  | true => exact ⟨f, rfl, fun z => by rw [z] at hz; cases hz⟩
  | false =>
   have hz : f.E = 0 := by simpa using hz
   refine (all_l0s_ck g vars on P rest fun k hk => h k (List.mem_cons_of_mem _ hk)).imp fun hr k hk => ?_
   rcases List.mem_cons.1 hk with rfl | hk
   ·exact hf hz
   ·exact hr k hk
theorem all_ck {vars : List ByteArray} {on : ByteArray} {P : Node → Prop} {q : Nat} {l : List Node} (h : ∀ k ∈ l, CK (P k) ((ckG q).2 k vars on)) : CK (∀ k ∈ l, P k) ((ckG (q + 1)).1 l vars on) := all_l0s_ck _ vars on P l h
theorem ckG_node (q : Nat) (n : Node) (vars : List ByteArray) (on : ByteArray) : (ckG (q + 1)).2 n vars on = z58_raw 20000 20000 (ckG q).1 (ckG q).2 n vars on := rfl
theorem bind_some_self {α : Type} (o : Option α) : (o.bind fun x => some x) = o := by cases o <;> rfl
theorem node_plain {q : Nat} {n : Node} {vars : List ByteArray} {on : ByteArray} (h : n.Kind = 18 ∨ n.Kind = 20 ∨ n.Kind = 21 ∨ n.Kind = 7 ∨ n.Kind = 5 ∨ n.Kind = 6 ∨ n.Kind = 8 ∨ n.Kind = 9 ∨ n.Kind = 10 ∨ n.Kind = 11 ∨ n.Kind = 15 ∨ n.Kind = 17) : (ckG (q + 1)).2 n vars on = (ckG q).1 n.Kids vars on := by
 rw [ckG_node, z58_raw, ref_Field_eq, Option.bind_some]
 simp only [bind_some_self]
 rcases h with h | h | h | h | h | h | h | h | h | h | h | h <;> rw [h] <;> rfl
theorem node_set {q : Nat} {n : Node} {vars : List ByteArray} {on : ByteArray} (h : n.Kind = 4) : (ckG (q + 1)).2 n vars on = bif (!(z36 vars n.Text)) then some ({ E := 14, At := n.At } : Fault) else (ckG q).1 n.Kids vars on := by
 rw [ckG_node, z58_raw, ref_Field_eq, Option.bind_some]
 simp only [bind_some_self]
 rw [h]
 rfl
theorem node_name {q : Nat} {n : Node} {vars : List ByteArray} {on : ByteArray} (h : n.Kind = 19) : (ckG (q + 1)).2 n vars on = bif (!(z36 vars n.Text)) && !(knownB on n.Text) then some ({ E := 14, At := n.At } : Fault) else (ckG q).1 n.Kids vars on := by
 rw [ckG_node, z58_raw, ref_Field_eq, Option.bind_some, Known_eq, Option.bind_some]
 simp only [bind_some_self]
 rw [h]
 cases z36 vars n.Text <;> cases knownB on n.Text <;> rfl
theorem node_field {q : Nat} {n : Node} {vars : List ByteArray} {on : ByteArray} (h : n.Kind = 13) : (ckG (q + 1)).2 n vars on = bif (!(z91 n.Text).2) then some ({ E := 14, At := n.At } : Fault) else bif (decide (n.Num > (sizeT (z91 n.Text).1))) then some ({ E := 13, At := n.At } : Fault) else (ckG q).1 n.Kids vars on := by
 rw [ckG_node, z58_raw, ref_Field_eq, Option.bind_some]
 simp only [bind_some_self]
 rw [h]
 rfl
theorem node_let {q : Nat} {n : Node} {vars : List ByteArray} {on : ByteArray} (h : n.Kind = 16) : (ckG (q + 1)).2 n vars on = bif (!(z91 n.Text).2) then some ({ E := 14, At := n.At } : Fault) else (ckG q).1 n.Kids vars on := by
 rw [ckG_node, z58_raw, ref_Field_eq, Option.bind_some]
 simp only [bind_some_self]
 rw [h]
 rfl
theorem node_acts {q : Nat} {n : Node} {vars : List ByteArray} {on : ByteArray} (h : n.Kind = 14) : (ckG (q + 1)).2 n vars on = bif (decide (((n.Kids.length : Nat) : Int) > 8)) then some ({ E := 3, At := n.At } : Fault) else (ckG q).1 n.Kids vars on := by
 rw [ckG_node, z58_raw, ref_Field_eq, Option.bind_some]
 simp only [bind_some_self, List.length_map]
 rw [h]
 rfl
theorem node_match {q : Nat} {n : Node} {vars : List ByteArray} {on : ByteArray} (h : n.Kind = 12) : (ckG (q + 1)).2 n vars on = loopO (z58_l0 20000 (ckG q).1 (ckG q).2 n vars on 20000 0) fun _ => some ({ E := 0, At := 0 } : Fault) := by
 rw [ckG_node, z58_raw, ref_Field_eq, Option.bind_some]
 simp only [bind_some_self]
 rw [h]
 rfl
theorem ckE_tot (vars : List ByteArray) (on : ByteArray) : ∀ (d : Nat) (n : Node), wfE d n → ∀ q : Nat, 2 * d ≤ q → CK (okE vars on d n) ((ckG q).2 n vars on)
 | 0, _, h, _, _ => h.elim
 | d + 1, n, h, q, hq => by
  obtain ⟨q, rfl⟩ : ∃ p, q = p + 2 := ⟨q - 2, by omega⟩
  have ih := fun k hk => ckE_tot vars on d k hk q (by omega)
  rcases h with ⟨h, hl⟩ | ⟨h, hl⟩ | ⟨h, a, b, hk, wa, wb⟩ | ⟨h, a, hk, wa, ht⟩
  ·rw [node_plain (.inl h), hl]
   exact (all_ck (P := fun _ => True) fun k hk => by cases hk).imp fun _ => .inl ⟨h, hl⟩
  ·rw [node_name h, hl]
   cases hn : (!(z36 vars n.Text)) && !(knownB on n.Text) with
   | true => exact ⟨_, rfl, fun z => absurd z (show (14 : Int) ≠ 0 by decide)⟩
   | false =>
    rw [cond_false]
    refine (all_ck (P := fun _ => True) fun k hk => by cases hk).imp fun _ => .inr (.inl ⟨h, hl, ?_⟩)
    rw [Bool.and_eq_false_iff] at hn
    rcases hn with hn | hn
    ·exact .inl (by simpa using hn)
    ·exact .inr (by simpa using hn)
  ·rw [node_plain (.inr (.inl h)), hk]
   refine (all_ck (P := fun k => okE vars on d k) fun k hk => ?_).imp fun hr => .inr (.inr (.inl ⟨h, a, b, hk, hr a (by simp), hr b (by simp)⟩))
   rcases List.mem_cons.1 hk with rfl | hk
   ·exact ih _ wa
   ·rw [List.mem_singleton.1 hk]; exact ih _ wb
  ·rw [node_plain (.inr (.inr (.inl h))), hk]
   refine (all_ck (P := fun k => okE vars on d k) fun k hk => ?_).imp fun hr => .inr (.inr (.inr ⟨h, a, hk, hr a (by simp), ht⟩))
   rw [List.mem_singleton.1 hk]; exact ih _ wa
theorem ixO_get {α : Type} {l : List α} {i : Nat} (h : i < l.length) : ixO l ((i : Nat) : Int) = some l[i] := by
 unfold ixO
 rw [if_pos (by omega), Int.toNat_natCast, List.getElem?_eq_getElem h]
theorem node_l1_tot (n : Node) (i : Nat) (hi : i < n.Kids.length) (hlen : n.Kids.length ≤ 16385) : ∀ (m j : Nat) (e a : Int), i < m + j → j ≤ i → ∃ e' a', z58_l1 n ((i : Nat) : Int) m ((j : Nat) : Int) e a = some (e', a') ∧ (e' = 0 → e = 0)
 | 0, j, e, a, h, hj => by omega
 | m + 1, j, e, a, h, hj => by
  rw [z58_l1]
  cases hc : (decide (((j : Nat) : Int) < ((i : Nat) : Int))) && (e == 0) with
  | false => exact ⟨e, a, rfl, id⟩
  | true =>
   rw [Bool.and_eq_true, decide_eq_true_eq, beq_iff_eq] at hc
   rw [cond_true, ixO_get (by omega : j < n.Kids.length), ixO_get hi, Option.bind_some, Option.bind_some, wrapI_succ (by omega)]
   cases (n.Kids[j].Text == n.Kids[i].Text) with
   | true =>
    rw [cond_true, Option.bind_some]
    obtain ⟨e', a', he, hz⟩ := node_l1_tot n i hi hlen m (j + 1) 5 n.Kids[i].At (by omega) (by omega)
    exact ⟨e', a', he, fun z => absurd (hz z) (by decide)⟩
   | false =>
    obtain ⟨e', a', he, hz⟩ := node_l1_tot n i hi hlen m (j + 1) e a (by omega) (by omega)
    exact ⟨e', a', he, hz⟩
theorem node_l0_tot (vars : List ByteArray) (on : ByteArray) (d q : Nat) (hq : 2 * d + 1 ≤ q) (n : Node) (hn : wfM d n) (h1 : 2 ≤ q) : ∀ (m i : Nat), n.Kids.length < m + i → i ≤ n.Kids.length →
  CK (∀ j, i ≤ j → ∀ x, n.Kids[j]? = some x → ∃ a, x.Kids = [a] ∧ okE vars on d a ∧ -1 ≤ x.Num ∧ x.Num ≤ sizeT (z91 x.Text).1) (loopO (z58_l0 20000 (ckG q).1 (ckG q).2 n vars on m ((i : Nat) : Int)) fun _ => some ({ E := 0, At := 0 } : Fault))
 | 0, i, h, hi => by omega
 | m + 1, i, h, hi => by
  have hlen := hn.2.1
  rw [z58_l0, List.length_map]
  by_cases hl : i < n.Kids.length
  ·obtain ⟨a, hka, wa, k13, hnum⟩ := hn.2.2 n.Kids[i] (List.getElem_mem hl)
   rw [decide_eq_true (show ((i : Nat) : Int) < ((n.Kids.length : Nat) : Int) by omega), cond_true, ixO_get hl, Option.bind_some, Option.bind_some, Option.bind_some]
   obtain ⟨q, rfl⟩ : ∃ p, q = p + 2 := ⟨q - 2, by omega⟩
   rw [node_field rfl]
   dsimp only
   have kid : ∀ (f : Fault), CK ((z91 n.Kids[i].Text).2 = true ∧ n.Kids[i].Num ≤ sizeT (z91 n.Kids[i].Text).1) (some f) → CK (∀ j, i ≤ j → ∀ x, n.Kids[j]? = some x → ∃ a, x.Kids = [a] ∧ okE vars on d a ∧ -1 ≤ x.Num ∧ x.Num ≤ sizeT (z91 x.Text).1) (loopO ((some f).bind fun x10 =>
  (z58_l1 n ((i : Nat) : Int) 20000 0 x10.E x10.At).bind fun v =>
  (bif (v.1 == 0) then
   ((some n.Kids[i]).bind fun x11 =>
   ((ckG (q + 2)).1 x11.Kids vars on).bind fun x12 =>
   (bif (x12.E != 0) then
    some (.inr x12)
   else
    z58_l0 20000 (ckG (q + 2)).1 (ckG (q + 2)).2 n vars on m (IntKind.i64.wrap (((i : Nat) : Int) + 1))))
  else
   (bif (v.1 != 0) then
    some (.inr ({ E := v.1, At := v.2 } : Fault))
   else
    z58_l0 20000 (ckG (q + 2)).1 (ckG (q + 2)).2 n vars on m (IntKind.i64.wrap (((i : Nat) : Int) + 1))))) fun _ => some ({ E := 0, At := 0 } : Fault)) := by
    intro f hf
    obtain ⟨f', ef, hf⟩ := hf
    injection ef with ef
    subst ef
    obtain ⟨e', a', el, hz⟩ := node_l1_tot n i hl hlen 20000 0 f.E f.At (by omega) (by omega)
    have el : z58_l1 n ((i : Nat) : Int) 20000 0 f.E f.At = some (e', a') := el
    rw [Option.bind_some, el, Option.bind_some]
    dsimp only
    cases he : e' == 0 with
    | false =>
     have : (e' != 0) = true := by rw [bne, he]; rfl
     rw [cond_false, this]
     exact ⟨_, rfl, fun z => by rw [show e' = 0 from z] at he; cases he⟩
    | true =>
     have he : e' = 0 := by simpa using he
     obtain ⟨f1, e1, g1⟩ := all_ck (q := q + 1) (vars := vars) (on := on) (l := [a]) (P := fun k => okE vars on d k) fun k hk => by
      rw [List.mem_singleton.1 hk]
      exact ckE_tot vars on d a wa (q + 1) (by omega)
     rw [cond_true, Option.bind_some, hka, e1, Option.bind_some]
     cases hz1 : f1.E != 0 with
     | true => exact ⟨f1, rfl, fun z => by rw [z] at hz1; cases hz1⟩
     | false =>
      have hz1 : f1.E = 0 := by simpa using hz1
      rw [cond_false, wrapI_succ (by omega)]
      refine (node_l0_tot vars on d (q + 2) hq n hn h1 m (i + 1) (by omega) (by omega)).imp fun hr j hj x hx => ?_
      rcases Nat.eq_or_lt_of_le hj with rfl | hj
      ·rw [List.getElem?_eq_getElem hl] at hx
       injection hx with hx
       subst hx
       exact ⟨a, hka, g1 hz1 a (by simp), hnum, (hf (hz he)).2⟩
      ·exact hr j hj x hx
   cases hf : (z91 n.Kids[i].Text).2 with
   | false => exact kid ({ E := 14, At := n.Kids[i].At } : Fault) ⟨_, rfl, fun z => absurd z (show (14 : Int) ≠ 0 by decide)⟩
   | true =>
    rw [Bool.not_true, cond_false]
    cases hs : decide (n.Kids[i].Num > sizeT (z91 n.Kids[i].Text).1) with
    | true => exact kid ({ E := 13, At := n.Kids[i].At } : Fault) ⟨_, rfl, fun z => absurd z (show (13 : Int) ≠ 0 by decide)⟩
    | false =>
     rw [decide_eq_false_iff_not] at hs
     exact kid ({ E := 0, At := 0 } : Fault) ⟨_, rfl, fun _ => ⟨hf, by omega⟩⟩
  ·rw [decide_eq_false (show ¬ ((i : Nat) : Int) < ((n.Kids.length : Nat) : Int) by omega)]
   refine ⟨_, rfl, fun _ j hj x hx => ?_⟩
   have := (List.getElem?_eq_some_iff.1 hx).1
   omega

end Go.Proofs.Yteioljlgcagnnaa


set_option linter.unusedVariables false
set_option linter.unusedSimpArgs false
set_option maxRecDepth 100000
set_option maxHeartbeats 4000000
namespace Go.Proofs.Yteioljlgcagnnaa
open Go.Sh
def Zer (o : Option Fault) : Prop := ∃ f, o = some f ∧ f.E = 0
theorem CK.self {P : Prop} {o : Option Fault} (h : CK P o) : CK (Zer o) o := by
 obtain ⟨f, e, _⟩ := h
 exact ⟨f, e, fun z => ⟨f, e, z⟩⟩
theorem CK.get {P : Prop} {o : Option Fault} (h : CK P o) (z : Zer o) : P := by
 obtain ⟨f, e, hf⟩ := h
 obtain ⟨f', e', z⟩ := z
 rw [e] at e'
 injection e' with e'
 subst e'
 exact hf z
theorem allz {vars : List ByteArray} {on : ByteArray} {q : Nat} {l : List Node} (h : ∀ k ∈ l, CK (Zer ((ckG q).2 k vars on)) ((ckG q).2 k vars on)) : CK (∀ k ∈ l, Zer ((ckG q).2 k vars on)) ((ckG (q + 1)).1 l vars on) := all_ck h
theorem ckM_tot (vars : List ByteArray) (on : ByteArray) (d q : Nat) (hq : 2 * d + 4 ≤ q) (n : Node) (h : wfM d n) : CK (okM vars on d n) ((ckG q).2 n vars on) := by
 obtain ⟨q, rfl⟩ : ∃ p, q = p + 1 := ⟨q - 1, by omega⟩
 rw [node_match h.1]
 have hl := h.2.1
 refine (node_l0_tot vars on d q (by omega) n h (by omega) 20000 0 (by omega) (Nat.zero_le _)).imp fun hr x hx => ?_
 obtain ⟨j, hj, rfl⟩ := List.getElem_of_mem hx
 exact hr j (Nat.zero_le _) _ (List.getElem?_eq_getElem hj)
theorem ckA_tot (vars : List ByteArray) (on : ByteArray) (d q : Nat) (hq : 2 * d + 4 ≤ q) (n : Node) (h : wfA d n) : CK (okA vars on d n) ((ckG q).2 n vars on) := by
 obtain ⟨q, rfl⟩ : ∃ p, q = p + 4 := ⟨q - 4, by omega⟩
 rw [node_acts h.1]
 cases hl : decide (((n.Kids.length : Nat) : Int) > 8) with
 | true => exact ⟨_, rfl, fun z => absurd z (show (3 : Int) ≠ 0 by decide)⟩
 | false =>
  rw [decide_eq_false_iff_not] at hl
  rw [cond_false]
  refine (all_ck (P := fun x => (x.Kind = 15 ∨ x.Kind = 16 ∨ x.Kind = 17) ∧ ((x.Kind = 15 ∨ x.Kind = 16) → ∃ a, x.Kids = [a] ∧ okE vars on d a)) fun k hk => ?_).imp fun hr => ⟨by omega, hr⟩
  obtain ⟨h1, h2, h3⟩ := h.2.2 k hk
  have one : (k.Kind = 15 ∨ k.Kind = 16) → CK (∃ a, k.Kids = [a] ∧ okE vars on d a) ((ckG (q + 1)).1 k.Kids vars on) := fun hk => by
   obtain ⟨a, ha, wa⟩ := h2 hk
   rw [ha]
   refine (all_ck (P := okE vars on d) fun k hk => ?_).imp fun hr => ⟨a, rfl, hr a (by simp)⟩
   rw [List.mem_singleton.1 hk]
   exact ckE_tot vars on d a wa q (by omega)
  rcases h1 with h | h | h
  ·rw [node_plain (.inr (.inr (.inr (.inr (.inr (.inr (.inr (.inr (.inr (.inr (.inl h)))))))))))]
   exact (one (.inl h)).imp fun hr => ⟨.inl h, fun _ => hr⟩
  ·rw [node_let h]
   cases hf : !(z91 k.Text).2 with
   | true => exact ⟨_, rfl, fun z => absurd z (show (14 : Int) ≠ 0 by decide)⟩
   | false => exact (one (.inr h)).imp fun hr => ⟨.inr (.inl h), fun _ => hr⟩
  ·rw [node_plain (.inr (.inr (.inr (.inr (.inr (.inr (.inr (.inr (.inr (.inr (.inr h))))))))))), h3 h]
   exact (all_ck (P := fun _ => True) fun k hk => by cases hk).imp fun _ => ⟨.inr (.inr h), fun hk => by rw [h] at hk; rcases hk with hk | hk <;> cases hk⟩
theorem ckS_tot (vars : List ByteArray) (on : ByteArray) (d : Nat) : ∀ (r : Nat) (n : Node), wfS d r n → ∀ q : Nat, 2 * d + 4 * r + 4 ≤ q → CK (okS vars on d r n) ((ckG q).2 n vars on)
 | 0, _, h, _, _ => h.elim
 | r + 1, n, h, q, hq => by
  obtain ⟨q, rfl⟩ : ∃ p, q = p + 4 := ⟨q - 4, by omega⟩
  have kids : ∀ (p : Nat) (b : Node), 2 * d + 4 * r + 4 ≤ p → (∀ k ∈ b.Kids, wfS d r k) → CK (∀ k ∈ b.Kids, okS vars on d r k) ((ckG (p + 1)).1 b.Kids vars on) := fun p b hp hb => all_ck fun k hk => ckS_tot vars on d r k (hb k hk) p hp
  have blk : ∀ b : Node, b.Kind = 7 ∧ (∀ k ∈ b.Kids, wfS d r k) → CK (∀ k ∈ b.Kids, okS vars on d r k) ((ckG (q + 2)).2 b vars on) := fun b hb => by
   rw [node_plain (.inr (.inr (.inr (.inl hb.1))))]
   exact kids q b (by omega) hb.2
  have ce : ∀ a, wfE d a → CK (okE vars on d a) ((ckG (q + 2)).2 a vars on) := fun a wa => ckE_tot vars on d a wa (q + 2) (by omega)
  have cm : ∀ a, wfM d a → CK (okM vars on d a) ((ckG (q + 2)).2 a vars on) := fun a wa => ckM_tot vars on d (q + 2) (by omega) a wa
  have ca : ∀ a, wfA d a → CK (okA vars on d a) ((ckG (q + 2)).2 a vars on) := fun a wa => ckA_tot vars on d (q + 2) (by omega) a wa
  rcases h with ⟨h, hl⟩ | ⟨h, a, hk, wa⟩ | ⟨h, a, b, l, hk, wa, hb, hc⟩ | ⟨h, a, b, hk, wa, hb⟩ | ⟨h, u, m, p, i, t, a, hk, wu, wm, wp, wi, wt, wa⟩ | ⟨h, u, m, l, hk, wu, wm, hl⟩ | ⟨h, u, m, l, a, hk, wu, wm, wa, hl⟩ | ⟨h, hk⟩
  ·rw [node_plain (.inr (.inr (.inr (.inl h))))]
   exact (kids (q + 2) n (by omega) hl).imp fun hr => .inl ⟨h, hr⟩
  ·rw [node_set h, hk]
   cases hf : !(z36 vars n.Text) with
   | true => exact ⟨_, rfl, fun z => absurd z (show (14 : Int) ≠ 0 by decide)⟩
   | false =>
    refine (allz (q := q + 2) (l := [a]) fun k hk => ?_).imp fun hr => .inr (.inl ⟨h, a, hk, (ce a wa).get (hr a (by simp))⟩)
    rw [List.mem_singleton.1 hk]; exact (ce a wa).self
  ·rw [node_plain (.inr (.inr (.inr (.inr (.inl h))))), hk]
   refine (allz (q := q + 2) (l := a :: b :: l) fun k hk => ?_).imp fun hr => .inr (.inr (.inl ⟨h, a, b, l, hk, (ce a wa).get (hr a (by simp)), (blk b hb).get (hr b (by simp)), ?_⟩))
   ·rcases List.mem_cons.1 hk with rfl | hk
    ·exact (ce _ wa).self
    ·rcases List.mem_cons.1 hk with rfl | hk
     ·exact (blk _ hb).self
     ·rcases hc with rfl | ⟨c, rfl, hc⟩
      ·cases hk
      ·rw [List.mem_singleton.1 hk]; exact (blk c hc).self
   ·rcases hc with rfl | ⟨c, rfl, hc⟩
    ·exact .inl rfl
    ·exact .inr ⟨c, rfl, (blk c hc).get (hr c (by simp))⟩
  ·rw [node_plain (.inr (.inr (.inr (.inr (.inr (.inl h)))))), hk]
   refine (allz (q := q + 2) (l := [a, b]) fun k hk => ?_).imp fun hr => .inr (.inr (.inr (.inl ⟨h, a, b, hk, (ce a wa).get (hr a (by simp)), (blk b hb).get (hr b (by simp))⟩)))
   rcases List.mem_cons.1 hk with rfl | hk
   ·exact (ce _ wa).self
   ·rw [List.mem_singleton.1 hk]; exact (blk b hb).self
  ·rw [node_plain (.inr (.inr (.inr (.inr (.inr (.inr (.inl h))))))), hk]
   refine (allz (q := q + 2) (l := [u, m, p, i, t, a]) fun k hk => ?_).imp fun hr => .inr (.inr (.inr (.inr (.inl ⟨h, u, m, p, i, t, a, hk, (ce u wu).get (hr u (by simp)), (cm m wm).get (hr m (by simp)), (ce p wp).get (hr p (by simp)), (ce i wi).get (hr i (by simp)), (ce t wt).get (hr t (by simp)), (ca a wa).get (hr a (by simp))⟩))))
   simp only [List.mem_cons, List.not_mem_nil, or_false] at hk
   rcases hk with rfl | rfl | rfl | rfl | rfl | rfl
   ·exact (ce _ wu).self
   ·exact (cm _ wm).self
   ·exact (ce _ wp).self
   ·exact (ce _ wi).self
   ·exact (ce _ wt).self
   ·exact (ca _ wa).self
  ·rw [node_plain (.inr (.inr (.inr (.inr (.inr (.inr (.inr (.inl h)))))))), hk]
   refine (allz (q := q + 2) (l := u :: m :: l) fun k hk => ?_).imp fun hr => .inr (.inr (.inr (.inr (.inr (.inl ⟨h, u, m, l, hk, (ce u wu).get (hr u (by simp)), (cm m wm).get (hr m (by simp)), ?_⟩)))))
   ·rcases List.mem_cons.1 hk with rfl | hk
    ·exact (ce _ wu).self
    ·rcases List.mem_cons.1 hk with rfl | hk
     ·exact (cm _ wm).self
     ·rcases hl with ⟨_, rfl⟩ | ⟨_, p, rfl, wp⟩
      ·cases hk
      ·rw [List.mem_singleton.1 hk]; exact (ce p wp).self
   ·rcases hl with ⟨h1, rfl⟩ | ⟨h1, p, rfl, wp⟩
    ·exact .inl ⟨h1, rfl⟩
    ·exact .inr ⟨h1, p, rfl, (ce p wp).get (hr p (by simp))⟩
  ·rw [node_plain (.inr (.inr (.inr (.inr (.inr (.inr (.inr (.inr (.inl h))))))))), hk]
   refine (allz (q := q + 2) (l := u :: m :: (l ++ [a])) fun k hk => ?_).imp fun hr => .inr (.inr (.inr (.inr (.inr (.inr (.inl ⟨h, u, m, l, a, hk, (ce u wu).get (hr u (by simp)), (cm m wm).get (hr m (by simp)), (ca a wa).get (hr a (by simp)), ?_⟩))))))
   ·rcases List.mem_cons.1 hk with rfl | hk
    ·exact (ce _ wu).self
    ·rcases List.mem_cons.1 hk with rfl | hk
     ·exact (cm _ wm).self
     ·rcases List.mem_append.1 hk with hk | hk
      ·rcases hl with ⟨_, rfl⟩ | ⟨_, p, rfl, wp⟩
       ·cases hk
       ·rw [List.mem_singleton.1 hk]; exact (ce p wp).self
      ·rw [List.mem_singleton.1 hk]; exact (ca a wa).self
   ·rcases hl with ⟨h1, rfl⟩ | ⟨h1, p, rfl, wp⟩
    ·exact .inl ⟨h1, rfl⟩
    ·exact .inr ⟨h1, p, rfl, (ce p wp).get (hr p (by simp))⟩
  ·rw [node_plain (.inr (.inr (.inr (.inr (.inr (.inr (.inr (.inr (.inr (.inl h)))))))))), hk]
   exact (all_ck (P := fun _ => True) fun k hk => by cases hk).imp fun _ => .inr (.inr (.inr (.inr (.inr (.inr (.inr ⟨h, hk⟩))))))
def varsOf (l : List Node) : List ByteArray := (l.filter fun k => k.Kind == 2).map (·.Text)
theorem in_mem (vars : List ByteArray) (s : ByteArray) : z36 vars s = true ↔ s ∈ vars := by
 unfold z36
 induction vars with
 | nil => simp [z36_l0s, sumG]
 | cons x rest ih =>
  rw [z36_l0s, List.mem_cons]
  cases hx : x == s with
  | true =>
   rw [ba_beq, decide_eq_true_eq] at hx
   subst hx
   simp [sumG]
  | false =>
   rw [cond_false, ih]
   rw [ba_beq, decide_eq_false_iff_not] at hx
   constructor
   ·exact .inr
   ·rintro (rfl | h)
    ·exact absurd rfl hx
    ·exact h
theorem Check_l0_tot (n : Node) (hl : n.Kids.length ≤ 16385) : ∀ (m i : Nat) (vars on : List ByteArray), n.Kids.length < m + i → i ≤ n.Kids.length → vars.length ≤ i → on.length ≤ i → vars.Nodup →
  ∃ r, z21_l0 n m ((i : Nat) : Int) vars on = some r ∧ match r with
   | .inl v => v.1 = vars ++ varsOf (n.Kids.drop i) ∧ v.1.Nodup
   | .inr f => f.E ≠ 0
 | 0, i, vars, on, h, hi, _, _, _ => by omega
 | m + 1, i, vars, on, h, hi, h1, h2, h3 => by
  rw [z21_l0, List.length_map]
  by_cases hlt : i < n.Kids.length
  ·have hd : n.Kids.drop i = n.Kids[i] :: n.Kids.drop (i + 1) := List.drop_eq_getElem_cons hlt
   rw [decide_eq_true (show ((i : Nat) : Int) < ((n.Kids.length : Nat) : Int) by omega), cond_true, ixO_get hlt, Option.bind_some, hd]
   cases hk : n.Kids[i].Kind == 2 with
   | true =>
    have hv : varsOf (n.Kids[i] :: n.Kids.drop (i + 1)) = n.Kids[i].Text :: varsOf (n.Kids.drop (i + 1)) := by
     unfold varsOf
     rw [List.filter_cons_of_pos (by exact hk)]
     rfl
    rw [cond_true, hv]
    cases hin : z36 vars n.Kids[i].Text with
    | true => exact ⟨_, rfl, show (14 : Int) ≠ 0 by decide⟩
    | false =>
     rw [cond_false, Known_eq, Option.bind_some]
     cases knownB (ByteArray.mk #[112, 97, 99, 107, 101, 116]) n.Kids[i].Text with
     | true => exact ⟨_, rfl, show (14 : Int) ≠ 0 by decide⟩
     | false =>
      rw [cond_false]
      have hfit : ∀ {α : Type} (r : Option α), fitO (vars.length + [n.Kids[i].Text].length) 16 r = r := fun r => fit_ok (by simp; omega) r
      rw [hfit]
      cases decide ((((List.map strA (vars ++ [n.Kids[i].Text])).length : Nat) : Int) > 64) with
      | true => exact ⟨_, rfl, show (13 : Int) ≠ 0 by decide⟩
      | false =>
       have hnd : (vars ++ [n.Kids[i].Text]).Nodup := by
        rw [List.nodup_append]
        refine ⟨h3, (by simp), fun a ha b hb => ?_⟩
        rw [List.mem_singleton.1 hb]
        rintro rfl
        have := (in_mem vars n.Kids[i].Text).2 ha
        rw [this] at hin
        cases hin
       obtain ⟨r, er, hr⟩ := Check_l0_tot n hl m (i + 1) (vars ++ [n.Kids[i].Text]) on (by omega) (by omega) (by simp; omega) (by omega) hnd
       rw [cond_false, wrapI_succ (by omega)]
       refine ⟨r, er, ?_⟩
       cases r with
       | inl v => exact ⟨by rw [hr.1, List.append_assoc]; rfl, hr.2⟩
       | inr f => exact hr
   | false =>
    have hv : varsOf (n.Kids[i] :: n.Kids.drop (i + 1)) = varsOf (n.Kids.drop (i + 1)) := by
     unfold varsOf
     rw [List.filter_cons_of_neg (by rw [hk]; decide)]
    rw [cond_false, hv]
    cases (!(z36 [(ByteArray.mk #[112, 97, 99, 107, 101, 116]), (ByteArray.mk #[114, 101, 109, 111, 118, 101, 100]), (ByteArray.mk #[116, 105, 99, 107])] n.Kids[i].Text)) || (z36 on n.Kids[i].Text) with
    | true => exact ⟨_, rfl, show (14 : Int) ≠ 0 by decide⟩
    | false =>
     have hfit : ∀ {α : Type} (r : Option α), fitO (on.length + [n.Kids[i].Text].length) 16 r = r := fun r => fit_ok (by simp; omega) r
     rw [cond_false, hfit, wrapI_succ (by omega)]
     exact Check_l0_tot n hl m (i + 1) vars (on ++ [n.Kids[i].Text]) (by omega) (by omega) (by omega) (by simp; omega) h3
  ·rw [decide_eq_false (show ¬ ((i : Nat) : Int) < ((n.Kids.length : Nat) : Int) by omega), List.drop_eq_nil_of_le (by omega)]
   exact ⟨_, rfl, (List.append_nil _).symm, h3⟩
def okP (l : List Node) : Prop := (varsOf l).Nodup ∧ ∀ k ∈ l, k.Kind = 3 → ∀ s ∈ k.Kids, okS (varsOf l) k.Text 16384 40 s
theorem Check_l1_tot (n : Node) (hl : n.Kids.length ≤ 16385) (hp : ∀ k ∈ n.Kids, partP k) (v : (List ByteArray) × (List ByteArray)) : ∀ (m i : Nat), n.Kids.length < m + i → i ≤ n.Kids.length →
  ∃ r, z21_l1 n v m ((i : Nat) : Int) = some r ∧ match r with
   | .inl _ => ∀ k ∈ n.Kids.drop i, k.Kind = 3 → ∀ s ∈ k.Kids, okS v.1 k.Text 16384 40 s
   | .inr f => f.E ≠ 0
 | 0, i, h, hi => by omega
 | m + 1, i, h, hi => by
  rw [z21_l1, List.length_map]
  by_cases hlt : i < n.Kids.length
  ·have hd : n.Kids.drop i = n.Kids[i] :: n.Kids.drop (i + 1) := List.drop_eq_getElem_cons hlt
   rw [decide_eq_true (show ((i : Nat) : Int) < ((n.Kids.length : Nat) : Int) by omega), cond_true, ixO_get hlt, Option.bind_some, hd, wrapI_succ (by omega)]
   obtain ⟨r, er, hr⟩ := Check_l1_tot n hl hp v m (i + 1) (by omega) (by omega)
   cases hk : n.Kids[i].Kind == 3 with
   | true =>
    have hk3 : n.Kids[i].Kind = 3 := by simpa using hk
    have hw : ∀ s ∈ n.Kids[i].Kids, wfS 16384 40 s := by
     rcases hp n.Kids[i] (List.getElem_mem hlt) with ⟨h2, _⟩ | ⟨_, h3⟩
     ·rw [hk3] at h2; cases h2
     ·exact h3
    obtain ⟨f, ef, hf⟩ := all_ck (q := 39999) (vars := v.1) (on := n.Kids[i].Text) (P := okS v.1 n.Kids[i].Text 16384 40) fun k hk => ckS_tot v.1 n.Kids[i].Text 16384 40 k (hw k hk) 39999 (by decide)
    rw [cond_true, Option.bind_some, Option.bind_some, ef, Option.bind_some]
    cases hz : f.E != 0 with
    | true => exact ⟨_, rfl, by simpa using hz⟩
    | false =>
     have hz : f.E = 0 := by simpa using hz
     refine ⟨r, er, ?_⟩
     cases r with
     | inl u =>
      intro k hk
      rcases List.mem_cons.1 hk with rfl | hk
      ·exact fun _ => hf hz
      ·exact hr k hk
     | inr g => exact hr
   | false =>
    refine ⟨r, er, ?_⟩
    cases r with
    | inl u =>
     intro k hk'
     rcases List.mem_cons.1 hk' with rfl | hk'
     ·intro h3; rw [h3] at hk; cases hk
     ·exact hr k hk'
    | inr g => exact hr
  ·rw [decide_eq_false (show ¬ ((i : Nat) : Int) < ((n.Kids.length : Nat) : Int) by omega), List.drop_eq_nil_of_le (by omega)]
   exact ⟨_, rfl, fun k hk => by cases hk⟩
theorem Check_tot (n : Node) (hl : n.Kids.length ≤ 16385) (hp : ∀ k ∈ n.Kids, partP k) : CK (okP n.Kids) (z21_raw 20000 20000 n) := by
 unfold z21_raw
 obtain ⟨r, er, hr⟩ := Check_l0_tot n hl 20000 0 [] [] (by omega) (Nat.zero_le _) (Nat.le_refl _) (Nat.le_refl _) List.nodup_nil
 have er : z21_l0 n 20000 0 [] [] = some r := er
 rw [er]
 cases r with
 | inr f => exact ⟨f, rfl, fun z => absurd z hr⟩
 | inl v =>
  obtain ⟨r2, er2, hr2⟩ := Check_l1_tot n hl hp v 20000 0 (by omega) (Nat.zero_le _)
  have er2 : z21_l1 n v 20000 0 = some r2 := er2
  show CK (okP n.Kids) (loopO (z21_l1 n v 20000 0) fun _ => some ({ E := 0, At := 0 } : Fault))
  rw [er2]
  cases r2 with
  | inr f => exact ⟨f, rfl, fun z => absurd z hr2⟩
  | inl u =>
   refine ⟨_, rfl, fun _ => ?_⟩
   have h1 : v.1 = varsOf n.Kids := hr.1
   have h2 := hr.2
   rw [h1] at h2
   refine ⟨h2, ?_⟩
   have h3 : ∀ k ∈ n.Kids, k.Kind = 3 → ∀ s ∈ k.Kids, okS v.1 k.Text 16384 40 s := hr2
   rw [h1] at h3
   exact h3
theorem tree_tot (s : ByteArray) : ∃ n b, z10_raw s = some (n, b) ∧ (b = true → n.Kids.length ≤ 16385 ∧ (∀ k ∈ n.Kids, partP k) ∧ okP n.Kids) := by
 obtain ⟨n, f, e, h⟩ := Parse_tot s
 unfold z10_raw
 rw [e, Option.bind_some]
 dsimp only
 cases hc : (decide (((s.size : Nat) : Int) > 4000)) || (f.E != 0) with
 | true => exact ⟨n, false, rfl, fun h => by cases h⟩
 | false =>
  rw [Bool.or_eq_false_iff] at hc
  have hz : f.E = 0 := by simpa using hc.2
  obtain ⟨h1, h2, h3, _⟩ := h hz
  obtain ⟨g, eg, hg⟩ := Check_tot n h2 h3
  rw [cond_false, eg, Option.bind_some]
  cases hgz : g.E != 0 with
  | true => exact ⟨n, false, rfl, fun h => by cases h⟩
  | false => exact ⟨n, true, rfl, fun _ => ⟨h2, h3, hg (by simpa using hgz)⟩⟩
def initOf (l : List Node) : List Var := (l.filter fun k => k.Kind == 2).map fun k => { Name := k.Text, N := k.Num }
theorem Init_l0s_eq : ∀ (l : List Node) (out : List Var), out.length + l.length ≤ 20000 → z18_l0s l out = some (out ++ initOf l)
 | [], out, _ => by rw [z18_l0s]; simp [initOf]
 | x :: rest, out, h => by
  rw [List.length_cons] at h
  rw [z18_l0s]
  cases hk : x.Kind == 2 with
  | true =>
   rw [cond_true, fit_ok (by simp; omega), Init_l0s_eq rest _ (by simp; omega)]
   rw [initOf, initOf, List.filter_cons_of_pos (by exact hk), List.map_cons, List.append_assoc]
   rfl
  | false =>
   rw [cond_false, Init_l0s_eq rest out (by omega)]
   rw [initOf, initOf, List.filter_cons_of_neg (by rw [hk]; decide)]
theorem given_l0_tot (l : List Int) : ∀ (m i : Nat) (v : List Var), v.length < m + i → i ≤ v.length → v.length ≤ 20000 → ∃ r, z12_l0 l m ((i : Nat) : Int) v = some r ∧ r.map (·.Name) = v.map (·.Name)
 | 0, i, v, h, hi, _ => by omega
 | m + 1, i, v, h, hi, h2 => by
  rw [z12_l0, List.length_map, List.length_map]
  cases hc : (decide (((i : Nat) : Int) < ((v.length : Nat) : Int))) && (decide (((i : Nat) : Int) < ((l.length : Nat) : Int))) with
  | false => exact ⟨v, rfl, rfl⟩
  | true =>
   rw [Bool.and_eq_true, decide_eq_true_eq, decide_eq_true_eq] at hc
   rw [cond_true, ixO_get (by omega), ixO_get (by omega), Option.bind_some, Option.bind_some, wrapI_succ (by omega), Int.toNat_natCast]
   obtain ⟨r, er, hr⟩ := given_l0_tot l m (i + 1) (v.set i { Name := (v[i]'(by omega)).Name, N := l[i]'(by omega) }) (by rw [List.length_set]; omega) (by rw [List.length_set]; omega) (by rw [List.length_set]; omega)
   refine ⟨r, er, hr.trans ?_⟩
   rw [List.map_set]
   show (v.map (·.Name)).set i (v[i]'(by omega)).Name = _
   have : (v[i]'(by omega)).Name = (v.map (·.Name))[i]'(by rw [List.length_map]; omega) := by rw [List.getElem_map]
   rw [this, List.set_getElem_self]
theorem given_tot' (n : Node) (l : List Int) (h : n.Kids.length ≤ 16385) : ∃ v, z12_raw 20000 n l = some v ∧ v.map (·.Name) = varsOf n.Kids ∧ v.length ≤ 16385 := by
 unfold z12_raw z18_raw
 have hlen : (initOf n.Kids).length ≤ 16385 := by
  rw [initOf, List.length_map]
  exact Nat.le_trans (List.length_filter_le ..) h
 rw [Init_l0s_eq n.Kids [] (by simp; omega), List.nil_append, Option.bind_some, Option.bind_some]
 obtain ⟨r, er, hr⟩ := given_l0_tot l 20000 0 (initOf n.Kids) (by omega) (Nat.zero_le _) (by omega)
 have er : z12_l0 l 20000 0 (initOf n.Kids) = some r := er
 rw [er]
 refine ⟨r, rfl, ?_, ?_⟩
 ·rw [hr, initOf, varsOf, List.map_map]
  rfl
 ·have := congrArg List.length hr
  rw [List.length_map, List.length_map] at this
  omega

theorem ba_self (s : ByteArray) : (s == s) = true := by rw [ba_beq]; exact decide_eq_true rfl
theorem SameVars_l0s_refl (b : List Var) : ∀ (l : List Var) (i : Nat), b.drop i = l → z15_l0s b l i = some (.inl ())
 | [], i, h => rfl
 | x :: rest, i, h => by
  obtain ⟨h1, h2, h3⟩ := drop_cons' h
  obtain ⟨_, h4⟩ := List.getElem?_eq_some_iff.1 h2
  rw [z15_l0s, ixO_get h1, Option.bind_some, h4, ba_self, beq_self_eq_true]
  exact SameVars_l0s_refl b rest (i + 1) h3
theorem SameVars_refl (a : List Var) : z15_raw a a = some true := by
 unfold z15_raw
 rw [bne_self_eq_false, cond_false, SameVars_l0s_refl a a 0 rfl]
 rfl
theorem SameActs_l0s_refl (b : List Act) : ∀ (l : List Act) (i : Nat), b.drop i = l → z43_l0s b l i = some (.inl ())
 | [], i, h => rfl
 | x :: rest, i, h => by
  obtain ⟨h1, h2, h3⟩ := drop_cons' h
  obtain ⟨_, h4⟩ := List.getElem?_eq_some_iff.1 h2
  rw [z43_l0s, ixO_get h1, Option.bind_some, h4]
  simp only [beq_self_eq_true, Bool.and_self, Bool.not_true, cond_false]
  exact SameActs_l0s_refl b rest (i + 1) h3
theorem SameMods_refl (a : Mod) : z25_raw a a = some true := by
 unfold z25_raw z43_raw
 rw [SameActs_l0s_refl a.Acts a.Acts 0 rfl]
 simp [loopO]
theorem SameChanges_l0s_refl (b : List Change) : ∀ (l : List Change) (i : Nat), b.drop i = l → z16_l0s b l i = some (.inl ())
 | [], i, h => rfl
 | x :: rest, i, h => by
  obtain ⟨h1, h2, h3⟩ := drop_cons' h
  obtain ⟨_, h4⟩ := List.getElem?_eq_some_iff.1 h2
  rw [z16_l0s, ixO_get h1, Option.bind_some, h4, bne_self_eq_false, cond_false, Option.bind_some, SameMods_refl, Option.bind_some]
  exact SameChanges_l0s_refl b rest (i + 1) h3
theorem SameChanges_refl (a : List Change) : z16_raw a a = some true := by
 unfold z16_raw
 rw [bne_self_eq_false, cond_false, SameChanges_l0s_refl a a 0 rfl]
 rfl
theorem part_wf {l : List Node} (h : ∀ k ∈ l, partP k) : wfP 16384 40 l := by
 intro k hk h3
 rcases h k hk with ⟨h2, _⟩ | ⟨_, h⟩
 ·rw [h3] at h2; cases h2
 ·exact h
theorem prog_tot {n : Node} (h : ∀ k ∈ n.Kids, partP k) (v : List Var) (ev : Event) (o f : Int) (h0 : 0 ≤ f) (h1 : f ≤ 100000) : ∃ m, runC ev n.Kids ⟨v, ev, o, f, [], 0⟩ = some m ∧ Run1 ⟨v, ev, o, f, [], 0⟩ m :=
 runC_tot (d := 16384) (q := 40) (by decide) (by decide) ev n.Kids (part_wf h) ⟨v, ev, o, f, [], 0⟩ (fun _ => ⟨h0, by show f ≤ 1000000; omega⟩) (fun _ => h1) (Nat.zero_le _)
theorem fuelC_same {f : Int} (h0 : 0 ≤ f) (h1 : f ≤ 100000) : fuelC f = f := by
 unfold fuelC
 rw [if_neg (show ¬ (0 > f) by omega), if_neg (by omega)]

end Go.Proofs.Yteioljlgcagnnaa


set_option linter.unusedVariables false
set_option linter.unusedSimpArgs false
set_option maxRecDepth 100000
set_option maxHeartbeats 4000000
namespace Go.Proofs.Yteioljlgcagnnaa
open Go.Sh
set_option maxRecDepth 100000
open Go.ChangeShapes Go.WideShapes Go.ChangeAt Go.RowKit
def Event.wf (x : Event) : Prop := True ∧ intW .i64 x.Unit ∧ intW .i64 x.Port ∧ arrW .u64 12 x.Head
theorem Event.shaped {gs : List AV} (h : Shaped tab 27 gs) : ∃ x : Event, gs = [.sc (.string x.On), .sc (.int .i64 x.Unit), .sc (.int .i64 x.Port), .arr .u64 12 x.Head] ∧ x.wf := by
 obtain ⟨gss, rfl, hl, hf⟩ := Shaped.struct_inv (fl := [(0, 9), (1, 3), (2, 3), (3, 25)]) (by kernel_rfl) h
 match gss, hl, hf with
 | [g0, g1, g2, g3], _, hf =>
  obtain ⟨x0, rfl, w0⟩ := Shaped.str_inv (by kernel_rfl) (hf 0 _ _ rfl rfl)
  obtain ⟨x1, rfl, w1⟩ := Shaped.int_inv (k := .i64) (by kernel_rfl) (hf 1 _ _ rfl rfl)
  obtain ⟨x2, rfl, w2⟩ := Shaped.int_inv (k := .i64) (by kernel_rfl) (hf 2 _ _ rfl rfl)
  obtain ⟨x3, rfl, w3⟩ := Shaped.arr_inv (n := 12) (e := 23) (k := .u64) (by kernel_rfl) (by kernel_rfl) (hf 3 _ _ rfl rfl)
  exact ⟨⟨x0, x1, x2, x3⟩, rfl, ⟨trivial, w1, w2, w3⟩⟩

end Go.Proofs.Yteioljlgcagnnaa


set_option linter.unusedVariables false
set_option linter.unusedSimpArgs false
set_option maxRecDepth 100000
set_option maxHeartbeats 4000000
namespace Go.Proofs.Yteioljlgcagnnaa
open Go.Sh
noncomputable def z9_F : Go.Sh.Fn := ⟨9, bodyOf Try.f9, 98⟩
def z9_l0  : Nat → Int → List Var → Option ((List Var))
 | 0, _, _ => none
 | m + 1, i, a =>
  (bif (decide (i < (((List.map Var.av a).length : Nat) : Int))) then
  (ixO a i).bind fun x1 =>
  z9_l0 m (IntKind.i64.wrap (i + 1)) (a.set i.toNat ({ Name := x1.Name, N := (IntKind.i64.wrap (x1.N + 1)) } : Var))
 else
  some a)
theorem z9_l0_walk (q0 : Nat) (q1 : Nat) (s : ByteArray) (l : List Int) (ev : Event) (x : Node × Bool) (v : (List Var)) (v1 : (List Var) × (List Change) × Int) (f_l : Bool) (r : Bool) (c0 : Ctx) (hc0 : c0.m.length = 0) (res : (List Var)) (J : AX Try.prog tab z9_F c0 (Rp tab.S c0 (.sc (.bool r)) []) (some ⟨[.code [1, 1, 1, 1, 1, 1, 1]], [(5, .ptr 0 0 none), (7, .ptr 1 0 none), (9, .own 2 1000000), (10, .own 3 1000000), (11, .own 4 1000000), (12, .own 5 1000000), (13, .sc (.int .i64 v1.2.2))], [.box 27 (Event.ch ev), .box 30 (Node.ch x.1), .row 60 (List.map Var.av v) 1000000 true, .row 60 (List.map Var.av (([] : List Var) ++ v)) 1000000 false, .row 60 (List.map Var.av res) 1000000 true, .row 51 (List.map Change.av v1.2.1) 1000000 true]⟩)) :
  ∀ (m : Nat) (i : Int) (a : List Var) (H : z9_l0  m i a = some res), AX Try.prog tab z9_F c0 (Rp tab.S c0 (.sc (.bool r)) []) (some ⟨[.code [1, 1, 1, 1, 1, 1, 0, 1, 0, 0], .loop [1, 1, 1, 1, 1, 1, 0, 1, 0], .blk 0, .code [1, 1, 1, 1, 1, 1, 1]], [(5, .ptr 0 0 none), (7, .ptr 1 0 none), (9, .own 2 1000000), (10, .own 3 1000000), (11, .own 4 1000000), (12, .own 5 1000000), (13, .sc (.int .i64 v1.2.2)), (14, .sc (.int .i64 i))], [.box 27 (Event.ch ev), .box 30 (Node.ch x.1), .row 60 (List.map Var.av v) 1000000 true, .row 60 (List.map Var.av (([] : List Var) ++ v)) 1000000 false, .row 60 (List.map Var.av a) 1000000 true, .row 51 (List.map Change.av v1.2.1) 1000000 true]⟩) := by
 intro m
 induction m with
 | zero => intro i a H; cases H
 | succ m ih =>
  intro i a H
  rw [z9_l0] at H
  refine .sg 3 [5,7,9,10,11,12,13,14,44] (.cd (decide (i < (((List.map Var.av a).length : Nat) : Int))) H (fun hb H => ?_) (fun hb H => ?_))
  ·
   exact .sg 3 [5,7,9,10,11,12,13,14] (.rg (.sg 2 [5,7,9,10,11,12,13,14,47,48] (bndO H fun x1 hv_x1 H => (.xo [5,7,9,10,11,12,13,14,47,48,49] (ixO_req hv_x1 Var.av) (.sg 1 [5,7,9,10,11,12,13,14,47,48,50] (.lo [5,7,9,10,11,12,13,14,47,48,51] (ixO_map hv_x1 Var.av).2 (.sg 1 [5,7,9,10,11,12,13,14,47,48,52] (.xo [5,7,9,10,11,12,13,14,52,53] (ixO_req hv_x1 Var.av) (.sg 1 [5,7,9,10,11,12,13,14,52,54] (.st [5,7,9,10,11,12,13,14] Var.av ({ Name := x1.Name, N := (IntKind.i64.wrap (x1.N + 1)) } : Var) (ixO_map hv_x1 Var.av).2 (.dn (.sg 2 [5,7,9,10,11,12,13,14] (.kp [5,7,9,10,11,12,13,14] (.into (.to (ih (IntKind.i64.wrap (i + 1)) (a.set i.toNat ({ Name := x1.Name, N := (IntKind.i64.wrap (x1.N + 1)) } : Var)) H))))))))))))))))
  ·
   refine .sg 1 [5,7,9,10,11,12,13] (.kp [5,7,9,10,11,12,13] ?_)
   obtain rfl := Option.some.inj H
   exact .to J
def z9_l1  : Nat → Int → List Var → Option ((List Var))
 | 0, _, _ => none
 | m + 1, i1, c =>
  (bif (decide (i1 < (((List.map Var.av c).length : Nat) : Int))) then
  (ixO c i1).bind fun x1 =>
  z9_l1 m (IntKind.i64.wrap (i1 + 1)) (c.set i1.toNat ({ Name := x1.Name, N := (IntKind.i64.wrap (x1.N + 1)) } : Var))
 else
  some c)
theorem z9_l1_walk (q0 : Nat) (q1 : Nat) (s : ByteArray) (l : List Int) (ev : Event) (x : Node × Bool) (v : (List Var)) (v1 : (List Var) × (List Change) × Int) (v2 : (List Var)) (v3 : (List Var) × (List Change) × Int) (f_l : Bool) (r : Bool) (c0 : Ctx) (hc0 : c0.m.length = 0) (res : (List Var)) (J : AX Try.prog tab z9_F c0 (Rp tab.S c0 (.sc (.bool r)) []) (some ⟨[.code [1, 1, 1, 1, 1, 1, 1, 1, 1]], [(9, .own 2 1000000), (10, .own 3 1000000), (11, .own 4 1000000), (12, .own 5 1000000), (13, .sc (.int .i64 v1.2.2)), (15, .own 6 1000000), (16, .own 7 1000000), (17, .sc (.int .i64 v3.2.2))], [.box 27 (Event.ch ev), .box 30 (Node.ch x.1), .row 60 (List.map Var.av v) 1000000 true, .row 60 (List.map Var.av (([] : List Var) ++ v)) 1000000 false, .row 60 (List.map Var.av v2) 1000000 true, .row 51 (List.map Change.av v1.2.1) 1000000 true, .row 60 (List.map Var.av res) 1000000 true, .row 51 (List.map Change.av v3.2.1) 1000000 true]⟩)) :
  ∀ (m : Nat) (i1 : Int) (c : List Var) (H : z9_l1  m i1 c = some res), AX Try.prog tab z9_F c0 (Rp tab.S c0 (.sc (.bool r)) []) (some ⟨[.code [1, 1, 1, 1, 1, 1, 1, 1, 0, 1, 0, 0], .loop [1, 1, 1, 1, 1, 1, 1, 1, 0, 1, 0], .blk 2, .code [1, 1, 1, 1, 1, 1, 1, 1, 1]], [(9, .own 2 1000000), (10, .own 3 1000000), (11, .own 4 1000000), (12, .own 5 1000000), (13, .sc (.int .i64 v1.2.2)), (15, .own 6 1000000), (16, .own 7 1000000), (17, .sc (.int .i64 v3.2.2)), (18, .sc (.int .i64 i1))], [.box 27 (Event.ch ev), .box 30 (Node.ch x.1), .row 60 (List.map Var.av v) 1000000 true, .row 60 (List.map Var.av (([] : List Var) ++ v)) 1000000 false, .row 60 (List.map Var.av v2) 1000000 true, .row 51 (List.map Change.av v1.2.1) 1000000 true, .row 60 (List.map Var.av c) 1000000 true, .row 51 (List.map Change.av v3.2.1) 1000000 true]⟩) := by
 intro m
 induction m with
 | zero => intro i1 c H; cases H
 | succ m ih =>
  intro i1 c H
  rw [z9_l1] at H
  refine .sg 3 [9,10,11,12,13,15,16,17,18,66] (.cd (decide (i1 < (((List.map Var.av c).length : Nat) : Int))) H (fun hb H => ?_) (fun hb H => ?_))
  ·
   exact .sg 3 [9,10,11,12,13,15,16,17,18] (.rg (.sg 2 [9,10,11,12,13,15,16,17,18,69,70] (bndO H fun x1 hv_x1 H => (.xo [9,10,11,12,13,15,16,17,18,69,70,71] (ixO_req hv_x1 Var.av) (.sg 1 [9,10,11,12,13,15,16,17,18,69,70,72] (.lo [9,10,11,12,13,15,16,17,18,69,70,73] (ixO_map hv_x1 Var.av).2 (.sg 1 [9,10,11,12,13,15,16,17,18,69,70,74] (.xo [9,10,11,12,13,15,16,17,18,74,75] (ixO_req hv_x1 Var.av) (.sg 1 [9,10,11,12,13,15,16,17,18,74,76] (.st [9,10,11,12,13,15,16,17,18] Var.av ({ Name := x1.Name, N := (IntKind.i64.wrap (x1.N + 1)) } : Var) (ixO_map hv_x1 Var.av).2 (.dn (.sg 2 [9,10,11,12,13,15,16,17,18] (.kp [9,10,11,12,13,15,16,17,18] (.into (.to (ih (IntKind.i64.wrap (i1 + 1)) (c.set i1.toNat ({ Name := x1.Name, N := (IntKind.i64.wrap (x1.N + 1)) } : Var)) H))))))))))))))))
  ·
   refine .sg 1 [9,10,11,12,13,15,16,17] (.kp [9,10,11,12,13,15,16,17] ?_)
   obtain rfl := Option.some.inj H
   exact .to J
def z9_raw (q0 : Nat) (q1 : Nat) (s : ByteArray) (l : List Int) (ev : Event) : Option (Bool) :=
 (z10_raw  s).bind fun x =>
 (bif (!x.2) then
  some true
 else
  (z12_raw 20000 x.1 l).bind fun v =>
  fitO (([] : List Var).length + v.length) 24 (
  (eval_Run_raw x.1 (([] : List Var) ++ v) ev 1 2000).bind fun v1 =>
  (z9_l0 q0 0 v1.1).bind fun v2 =>
  (eval_Run_raw x.1 (([] : List Var) ++ v) ev 1 2000).bind fun v3 =>
  (z9_l1 q1 0 v3.1).bind fun v4 =>
  (z15_raw  (([] : List Var) ++ v) v).bind fun x1 =>
  (bif (x1 && (v1.2.2 == v3.2.2)) then
   (z15_raw  v2 v4).bind fun x2 =>
   (bif x2 then
    (z16_raw  v1.2.1 v3.2.1).bind fun x3 =>
    some x3
   else
    some false)
  else
   some false)))
theorem z9_walk (q0 : Nat) (q1 : Nat) (s : ByteArray) (l : List Int) (ev : Event) (f_l : Bool) (r : Bool) (H : z9_raw q0 q1 s l ev = some r) : ACalls Try.prog tab.S 9 [.sc (.string s), .sl 3 (List.map (intA .i64) l) f_l, Event.av ev] [] (.sc (.bool r)) [] := by
 refine .of_AX z9_F Try.func9 fun c0 hc0 => ?_
 rw [z9_raw] at H
 refine .sg 3 [0,1,5] (.rg (.sg 1 [1,5,20] (bndO H fun x hv H => (.cp [1,5,21] ((z10_walk ) _ x hv) (.sg 6 [1,5,7,8] (.dn (.sg 3 [1,5,7,25] (.cd (!x.2) H (fun hb H => ?_) (fun hb H => ?_)))))))))
 ·
  refine .sg 1 [] (.rg (.cp [26] (z11_ok) (.sg 1 [6] (.dn ?_))))
  obtain rfl := Option.some.inj H
  exact .ret Try.func9 hc0
 ·
  refine .sg 2 [1,5,7] (.rg (.sg 2 [5,7,27,28] (bndO H fun v hv H => (.ch [5,7,29] [] ((z12_walk 20000) _ _ f_l v hv) (.sg 1 [5,7,9] (.dn (.sg 1 [5,7,9] (.rg (.sg 2 [5,7,9,30,31] (fitH H fun hfit H => (.ab [5,7,9,32] Var.av hfit rfl (.sg 1 [5,7,9,10] (.dn (.sg 1 [5,7,9,10] (.rg (.sg 3 [5,7,9,10,34,35,36] (bndO H fun v1 hv H => (.gch [5,7,9,10,37] [] [3] (eval_Run_walk _ _ _ _ _ false v1 hv) (.sg 7 [5,7,9,10,11,12,13] (.dn (.sg 4 [5,7,9,10,11,12,13,14] ?_)))))))))))))))))))))
  refine bndO H fun v2 hv H => (.into (.to (z9_l0_walk q0 q1 s l ev x v v1 f_l r c0 hc0 v2 ?_ q0 0 v1.1 hv)))
  refine .sg 1 [5,7,9,10,11,12,13] (.rg (.sg 3 [9,10,11,12,13,56,57,58] (bndO H fun v3 hv H => (.gch [9,10,11,12,13,59] [] [3] (eval_Run_walk _ _ _ _ _ false v3 hv) (.sg 7 [9,10,11,12,13,15,16,17] (.dn (.sg 4 [9,10,11,12,13,15,16,17,18] ?_)))))))
  refine bndO H fun v4 hv H => (.into (.to (z9_l1_walk q0 q1 s l ev x v v1 v2 v3 f_l r c0 hc0 v4 ?_ q1 0 v3.1 hv)))
  refine .sg 1 [9,10,11,12,13,15,16,17] (.rg (.cp [9,10,11,12,13,15,16,17,77] (z11_ok) (.sg 3 [11,12,13,15,16,17,78,79,80] (bndO H fun x1 hv H => (.cs [11,12,13,15,16,17,78,81] ((z15_walk ) _ _ false false x1 hv) (.sg 2 [11,12,13,15,16,17,83] (.mx 0 [11,12,15,16,87] (.sg 1 [11,12,15,16,88] (.sp 88 (x1 && (v1.2.2 == v3.2.2)) H (fun hb H => ?_) (fun hb H => ?_))))))))))
  ·
   refine .sg 2 [12,16,88,89,90] (bndO H fun x2 hv H => (.cs [12,16,88,91] ((z15_walk ) _ _ false false x2 hv) (.sg 2 [12,16,93] (.sp 93 x2 H (fun hb H => ?_) (fun hb H => ?_)))))
   ·
    refine .sg 2 [93,94,95] (bndO H fun x3 hv H => (.cs [93,96] ((z16_walk ) _ _ false false x3 hv) (.sg 2 [6] (.dn ?_))))
    obtain rfl := Option.some.inj H
    exact .ret Try.func9 hc0
   ·
    refine .sg 5 [6] (.dn ?_)
    obtain rfl := Option.some.inj H
    exact .ret Try.func9 hc0
  ·
   refine .sg 10 [6] (.dn ?_)
   obtain rfl := Option.some.inj H
   exact .ret Try.func9 hc0

theorem Keeps_l0_tot : ∀ (m i : Nat) (v : List Var), v.length < m + i → i ≤ v.length → v.length ≤ 1000000 → ∃ r, z9_l0 m ((i : Nat) : Int) v = some r ∧ z9_l1 m ((i : Nat) : Int) v = some r
 | 0, i, v, h, hi, _ => by omega
 | m + 1, i, v, h, hi, h2 => by
  rw [z9_l0, z9_l1, List.length_map]
  by_cases hlt : i < v.length
  ·rw [decide_eq_true (show ((i : Nat) : Int) < ((v.length : Nat) : Int) by omega), cond_true, cond_true, ixO_get hlt, Option.bind_some, Option.bind_some, wrapI_succ (by omega)]
   exact Keeps_l0_tot m (i + 1) _ (by rw [List.length_set]; omega) (by rw [List.length_set]; omega) (by rw [List.length_set]; omega)
  ·rw [decide_eq_false (show ¬ ((i : Nat) : Int) < ((v.length : Nat) : Int) by omega)]
   exact ⟨v, rfl, rfl⟩
theorem EvalKeeps_true (x0 : ByteArray) (x1 : List Int) (x2 : Event) (w0 : True) (w1 : (∀ y ∈ x1, intW .i64 y)) (w2 : Event.wf x2) (l1 : x1.length * 8 ≤ 140737488355328) : ∃ q0 q1, z9_raw q0 q1 x0 x1 x2 = some true := by
 obtain ⟨n, b, e, h⟩ := tree_tot x0
 cases b with
 | false =>
  refine ⟨0, 0, ?_⟩
  rw [z9_raw, e]
  rfl
 | true =>
  obtain ⟨hl, hp, _⟩ := h rfl
  obtain ⟨v, ev, _, hv⟩ := given_tot' n x1 hl
  obtain ⟨m, hm, _⟩ := prog_tot hp v x2 1 2000 (by decide) (by decide)
  obtain ⟨a, hr, ha⟩ : ∃ a, eval_Run_raw n v x2 1 2000 = some a ∧ a.1.length ≤ 1000000 := by
   rw [run_eq, fuelC_same (by decide) (by decide), hm, Option.bind_some]
   cases m.e != 0 with
   | true => exact ⟨_, rfl, by simp⟩
   | false => exact ⟨_, rfl, by have := runC_len x2 n.Kids _ _ hm; show m.vars.length ≤ 1000000; rw [this]; show v.length ≤ 1000000; omega⟩
  obtain ⟨c, hc0, hc1⟩ := Keeps_l0_tot 1000001 0 a.1 (by omega) (Nat.zero_le _) ha
  have hc0 : z9_l0 1000001 0 a.1 = some c := hc0
  have hc1 : z9_l1 1000001 0 a.1 = some c := hc1
  refine ⟨1000001, 1000001, ?_⟩
  rw [z9_raw, e, Option.bind_some]
  dsimp only
  rw [Bool.not_true, cond_false, ev, Option.bind_some, fit_ok (by simp; omega), List.nil_append, hr, Option.bind_some, hc0, Option.bind_some, Option.bind_some, hc1, Option.bind_some, SameVars_refl, Option.bind_some, beq_self_eq_true, Bool.true_and, cond_true, SameVars_refl, Option.bind_some, cond_true, SameChanges_refl]
  rfl

end Go.Proofs.Yteioljlgcagnnaa

