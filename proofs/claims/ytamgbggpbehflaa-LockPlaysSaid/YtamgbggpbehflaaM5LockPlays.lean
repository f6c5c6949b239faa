import Derived.Test.YtamgbggpbehflaaM4LockPlays
set_option linter.unusedVariables false
set_option linter.unusedSimpArgs false
set_option maxRecDepth 100000
set_option maxHeartbeats 4000000
namespace Go.Proofs.Ytamgbggpbehflaa
open Go.Sh
theorem LQ.ab {P : Program} {G : Tab} {n : Nat} {ops : Array Oper} {i : Nat} {t : Tmps} {h : List AO} [ok : Ok P G] {α : Type} (f : α → AV) {A B : List α} {by_ : Nat} (hfit : (A.length + B.length) * by_ ≤ reach) (hA : A = []) (e : anA (appNE G n ops i t h) = some (A.map f, B.map f, by_) := by kernel_rfl) : LSpec P G.S n ops i .loud t h (.own h.length 1000000) (h ++ [.row (anT (appNE G n ops i t h)) ((A ++ B).map f) 1000000 true]) := LSpec.ab f hfit hA e
theorem LQ.ap {P : Program} {G : Tab} {n : Nat} {ops : Array Oper} {i : Nat} {t : Tmps} {h : List AO} [ok : Ok P G] {α : Type} (f : α → AV) {A B : List α} {by_ : Nat} (hfit : (A.length + B.length) * by_ ≤ reach) (e : apA (appE G n ops i t h) = some (A.map f, B.map f, by_) := by kernel_rfl) : LSpec P G.S n ops i .loud t h (apR (appE G n ops i t h)) (apH f A B (appE G n ops i t h) h) := LSpec.ap f hfit e
theorem LQ.so {P : Program} {G : Tab} {n : Nat} {ops : Array Oper} {i : Nat} {t : Tmps} {h : List AO} [ok : Ok P G] {α : Type} (f : α → AV) {A A' : List α} {l u m : Option Int} (hv : Go.Sh.sliceO A l u m = some A') (e : soA (sliceE G n ops i t) = some (A.map f, l, u, m) := by kernel_rfl) : LSpec P G.S n ops i .pure t h (.sl (soT (sliceE G n ops i t)) (A'.map f) (soF (sliceE G n ops i t))) h := LSpec.so f hv e
theorem LQ.cp {P : Program} {G : Tab} {n : Nat} {ops : Array Oper} {i : Nat} {t : Tmps} {h : List AO} [ok : Ok P G] {f : FuncId} {avs : List AV} {r : AV} (hc : ACalls P G.S f avs [] r []) (ds : List (TypeId × Bool) := []) (e : callWE plainO ds n ops i t f = some avs := by kernel_rfl) : LSpec P G.S n ops i .pure t h r h := LSpec.cp hc ds e
theorem LQ.gso {P : Program} {G : Tab} {n : Nat} {ops : Array Oper} {i : Nat} {t : Tmps} {h : List AO} [ok : Ok P G] (os : List Nat) {α : Type} (f : α → AV) {A A' : List α} {l u m : Option Int} (hv : Go.Sh.sliceO A l u m = some A') (hos : rowsAt h os = true := by kernel_rfl) (e : soA (sliceE G n ops i (giveT os (Go.Sh.settle os h) t)) = some (A.map f, l, u, m) := by kernel_rfl) : LSpec P G.S n ops i .loud t h (.sl (soT (sliceE G n ops i (giveT os (Go.Sh.settle os h) t))) (A'.map f) (soF (sliceE G n ops i (giveT os (Go.Sh.settle os h) t)))) (Go.Sh.settle os h) := LSpec.gv os (LSpec.so f hv e) hos
noncomputable def z3_F : Go.Sh.Fn := ⟨3, bodyOf Try.f3, 226⟩
def z3_l1s (what : List (List Region)) (x : Act) : List Int → Nat → Int → Int → Option (Int × Int)
 | [], k1, at_, e1 =>
  some (at_, e1)
 | x1 :: rest1, k1, at_, e1 =>
  (bif (e1 == 0) then
   (ixO what ((k1 : Nat) : Int)).bind fun x2 =>
   (z9_raw x.R x2).bind fun x3 =>
   z3_l1s what x rest1 (k1 + 1) (bif (x1 == x.Txn) then ((k1 : Nat) : Int) else at_) (bif x3 then (9 : Int) else e1)
  else
   z3_l1s what x rest1 (k1 + 1) (bif (x1 == x.Txn) then ((k1 : Nat) : Int) else at_) e1)
theorem z3_l1_walk (q3 : Nat) (acts : List Act) (unit : Int) (h1 : List Int) (v : Locks) (i : Nat) (o1 : List (Int × (List Region))) (who : List Int) (what : List (List Region)) (x : Act) (hv_i : ixO acts ((i : Nat) : Int) = some x) (f_acts : Bool) (r : Bool) (c0 : Ctx) (hc0 : c0.m.length = 0) (res : Int × Int) (J : AX Try.prog tab z3_F c0 (Rp tab.S c0 (.sc (.bool r)) []) (some ⟨[.code [1, 1, 1, 1, 1, 0, 1, 0, 0, 1, 0, 0, 1, 1, 1, 1, 1], .blk 1, .code [1, 1, 1, 1, 1, 0, 1, 0, 0, 1, 1], .loop [1, 1, 1, 1, 1, 0, 1, 0], .blk 0, .code [1, 1, 1, 1, 1, 1]], [(0, .sl 33 (List.map Act.av acts) f_acts), (1, .sc (.int .i64 unit)), (5, .ep [.arr .u64 12 h1] 0 none), (7, .ptr 0 0 none), (8, .own 2 1000000), (9, .own 3 1000000), (10, .sc (.int .i64 ((i : Nat) : Int))), (11, .ptr 4 0 none), (12, .sc (.int .i64 res.1)), (13, .sc (.int .i64 res.2))], [.box 53 [.ref mapK 1], .vals .map (mapAV (intA .i64) (slA 42 Region.av) o1), .row 3 (List.map (intA .i64) who) 1000000 true, .row 31 (List.map (slA 42 Region.av) what) 1000000 true, .box 33 (Act.ch x)]⟩)) :
  ∀ (rest1 : List Int) (k1 : Nat) (z : Int) (hI : z = ((k1 : Nat) : Int)) (hd : who.drop k1 = rest1) (at_ : Int) (e1 : Int) (H : z3_l1s what x rest1 k1 at_ e1 = some res), AX Try.prog tab z3_F c0 (Rp tab.S c0 (.sc (.bool r)) []) (some ⟨[.code [1, 1, 1, 1, 1, 0, 1, 0, 0, 1, 0, 0, 1, 1, 1, 1, 0, 1, 0, 0], .loop [1, 1, 1, 1, 1, 0, 1, 0, 0, 1, 0, 0, 1, 1, 1, 1, 0, 1, 0], .blk 2, .code [1, 1, 1, 1, 1, 0, 1, 0, 0, 1, 0, 0, 1, 1, 1, 1, 1], .blk 1, .code [1, 1, 1, 1, 1, 0, 1, 0, 0, 1, 1], .loop [1, 1, 1, 1, 1, 0, 1, 0], .blk 0, .code [1, 1, 1, 1, 1, 1]], [(0, .sl 33 (List.map Act.av acts) f_acts), (1, .sc (.int .i64 unit)), (5, .ep [.arr .u64 12 h1] 0 none), (7, .ptr 0 0 none), (8, .own 2 1000000), (9, .own 3 1000000), (10, .sc (.int .i64 ((i : Nat) : Int))), (11, .ptr 4 0 none), (12, .sc (.int .i64 at_)), (13, .sc (.int .i64 e1)), (14, .sc (.int .i64 z))], [.box 53 [.ref mapK 1], .vals .map (mapAV (intA .i64) (slA 42 Region.av) o1), .row 3 (List.map (intA .i64) who) 1000000 true, .row 31 (List.map (slA 42 Region.av) what) 1000000 true, .box 33 (Act.ch x)]⟩) := by
 intro rest1
 induction rest1 with
 | nil =>
  intro k1 z hI hd at_ e1 H
  subst hI
  rw [z3_l1s] at H
  refine .factsH 2 rfl fun hf => ?_
  have hlen : who.length ≤ 9223372036854775807 := by have hq := len_ok2 hf (of_decide_eq_true (by kernel_rfl)); rw [List.length_map] at hq; exact hq
  have hge : who.length ≤ k1 := List.drop_eq_nil_iff.1 hd
  have hc : (decide (((k1 : Nat) : Int) < (((List.map (intA .i64) who).length : Nat) : Int))) = false := by rw [List.length_map]; exact decide_eq_false (by omega)
  refine .sg 3 [0,1,5,7,8,9,10,11,12,13,14,47] (.cdF hc (.sg 1 [0,1,5,7,8,9,10,11,12,13] (.kp [0,1,5,7,8,9,10,11,12,13] ?_)))
  obtain rfl := Option.some.inj H
  exact .to J
 | cons x1 rest1 ih =>
  intro k1 z hI hd at_ e1 H
  subst hI
  rw [z3_l1s] at H
  refine .factsH 2 rfl fun hf => ?_
  have hlen : who.length ≤ 9223372036854775807 := by have hq := len_ok2 hf (of_decide_eq_true (by kernel_rfl)); rw [List.length_map] at hq; exact hq
  obtain ⟨hlt, hv_k1, hd2⟩ := drop_cons hd
  have hc : (decide (((k1 : Nat) : Int) < (((List.map (intA .i64) who).length : Nat) : Int))) = true := by rw [List.length_map]; exact decide_eq_true (by omega)
  have hw : IntKind.i64.wrap (((k1 : Nat) : Int) + 1) = ((k1 + 1 : Nat) : Int) := wrapI_succ (by omega)
  refine .sg 3 [0,1,5,7,8,9,10,11,12,13,14,47] (.cdT hc (.sg 5 [0,1,5,7,8,9,10,11,12,13,14] (.rg (.sg 2 [0,1,5,7,8,9,10,11,12,13,14,50,51] (.xo [0,1,5,7,8,9,10,11,12,13,14,52] (ixO_req hv_k1 (intA .i64)) (.lo [0,1,5,7,8,9,10,11,12,13,14,53] (ixO_map hv_k1 (intA .i64)).2 (.sg 3 [0,1,5,7,8,9,10,11,12,13,14,56] (.dn (.jn (x1 == x.Txn) [0, 1, 5, 7, 8, 9, 10, 11, 12, 13, 14] (fun z => [(12, .sc (.int .i64 (bif z then ((k1 : Nat) : Int) else at_)))]) ?J35 (fun hb J => ?ht35) (fun hb J => ?hf35))))))))))
  case ht35 =>
   exact .sg 1 [0,1,5,7,8,9,10,11,12,13,14] (.cl J)
  case hf35 =>
   exact .sg 1 [0,1,5,7,8,9,10,11,12,13,14] (.cl J)
  refine .sg 1 [0,1,5,7,8,9,10,11,12,13,14] (.rg (.sg 3 [0,1,5,7,8,9,10,11,12,13,14,60] (.sp 60 (e1 == 0) H (fun hb H => ?_) (fun hb H => ?_))))
  ·
   refine .sg 4 [0,1,5,7,8,9,10,11,12,13,14,60,62,63,64] (bndO H fun x2 hv_x2 H => (.xo [0,1,5,7,8,9,10,11,12,13,14,60,62,65] (ixO_req hv_x2 (slA 42 Region.av)) (.lo [0,1,5,7,8,9,10,11,12,13,14,60,62,66] (ixO_map hv_x2 (slA 42 Region.av)).2 (bndO H fun x3 hv H => (.cp [0,1,5,7,8,9,10,11,12,13,14,60,67] (z9_walk _ _ false false x3 hv) (.sg 1 [0,1,5,7,8,9,10,11,12,13,14,68] (.dn (.jn x3 [0, 1, 5, 7, 8, 9, 10, 11, 12, 13, 14] (fun z => [(13, .sc (.int .i64 (bif z then (9 : Int) else e1)))]) ?J36 (fun hb J => ?ht36) (fun hb J => ?hf36)))))))))
   case ht36 =>
    exact .sg 1 [0,1,5,7,8,9,10,11,12,13,14] (.cl J)
   case hf36 =>
    exact .sg 1 [0,1,5,7,8,9,10,11,12,13,14] (.cl J)
   exact .sg 2 [0,1,5,7,8,9,10,11,12,13,14] (.kp [0,1,5,7,8,9,10,11,12,13,14] (.into (.cl (ih (k1 + 1) _ hw hd2 (bif (x1 == x.Txn) then ((k1 : Nat) : Int) else at_) (bif x3 then (9 : Int) else e1) H))))
  ·
   exact .sg 8 [0,1,5,7,8,9,10,11,12,13,14,68] (.dn (.sg 4 [0,1,5,7,8,9,10,11,12,13,14] (.kp [0,1,5,7,8,9,10,11,12,13,14] (.into (.cl (ih (k1 + 1) _ hw hd2 (bif (x1 == x.Txn) then ((k1 : Nat) : Int) else at_) e1 H))))))
def z3_l0s : List Act → List (Int × (List Region)) → List Int → List (List Region) → Option (Sum ((List (Int × (List Region))) × (List Int) × (List (List Region))) (Bool))
 | [], o1, who, what =>
  some (.inl (o1, who, what))
 | x :: rest, o1, who, what =>
  (bif (decide ((((List.map Region.av x.R).length : Nat) : Int) > 10)) then
   z3_l0s rest o1 who what
  else
   (z3_l1s what x who 0 (-1) 0).bind fun v1 =>
   (bif x.Drop then
    letT (z10 ({ held := o1 } : Locks) x.Txn) fun v2 =>
    (bif (v2.1 != (decide (v1.1 ≥ 0))) then
     some (.inr false)
    else
     (bif (decide (v1.1 ≥ 0)) then
      (sliceO who none (some v1.1) none).bind fun x2 =>
      (sliceO who (some (IntKind.i64.wrap (v1.1 + 1))) none none).bind fun x3 =>
      fitO (([] : List Int).length + x2.length) 8 (
      fitO ((([] : List Int) ++ x2).length + x3.length) 8 (
      (sliceO what none (some v1.1) none).bind fun x7 =>
      (sliceO what (some (IntKind.i64.wrap (v1.1 + 1))) none none).bind fun x8 =>
      fitO (([] : List (List Region)).length + x7.length) 24 (
      fitO ((([] : List (List Region)) ++ x7).length + x8.length) 24 (
      z3_l0s rest v2.2.held ((([] : List Int) ++ x2) ++ x3) ((([] : List (List Region)) ++ x7) ++ x8)))))
     else
      z3_l0s rest v2.2.held who what))
   else
    letT (z11 ({ held := o1 } : Locks) x.Txn x.R) fun v3 =>
    (bif (v3.1 != (bif (decide (v1.1 ≥ 0)) then (5 : Int) else v1.2)) then
     some (.inr false)
    else
     (bif ((bif (decide (v1.1 ≥ 0)) then (5 : Int) else v1.2) == 0) then
      fitO (who.length + [x.Txn].length) 8 (
      fitO (what.length + [x.R].length) 24 (
      z3_l0s rest v3.2.held (who ++ [x.Txn]) (what ++ [x.R])))
     else
      z3_l0s rest v3.2.held who what))))
theorem z3_l0_walk (q3 : Nat) (acts : List Act) (unit : Int) (h1 : List Int) (v : Locks) (f_acts : Bool) (r : Bool) (c0 : Ctx) (hc0 : c0.m.length = 0) (res : Sum ((List (Int × (List Region))) × (List Int) × (List (List Region))) (Bool)) (J : ∀ w : (List (Int × (List Region))) × (List Int) × (List (List Region)), res = .inl w → AX Try.prog tab z3_F c0 (Rp tab.S c0 (.sc (.bool r)) []) (some ⟨[.code [1, 1, 1, 1, 1, 1]], [(1, .sc (.int .i64 unit)), (5, .ep [.arr .u64 12 h1] 0 none), (7, .ptr 0 0 none), (8, .own 2 1000000), (9, .own 3 1000000)], [.box 53 [.ref mapK 1], .vals .map (mapAV (intA .i64) (slA 42 Region.av) w.1), .row 3 (List.map (intA .i64) w.2.1) 1000000 true, .row 31 (List.map (slA 42 Region.av) w.2.2) 1000000 true]⟩)) (Jr : ∀ w, res = .inr w → w = r) :
  ∀ (rest : List Act) (i : Nat) (z : Int) (hI : z = ((i : Nat) : Int)) (hd : acts.drop i = rest) (o1 : List (Int × (List Region))) (who : List Int) (what : List (List Region)) (H : z3_l0s rest o1 who what = some res), AX Try.prog tab z3_F c0 (Rp tab.S c0 (.sc (.bool r)) []) (some ⟨[.code [1, 1, 1, 1, 1, 0, 1, 0, 0], .loop [1, 1, 1, 1, 1, 0, 1, 0], .blk 0, .code [1, 1, 1, 1, 1, 1]], [(0, .sl 33 (List.map Act.av acts) f_acts), (1, .sc (.int .i64 unit)), (5, .ep [.arr .u64 12 h1] 0 none), (7, .ptr 0 0 none), (8, .own 2 1000000), (9, .own 3 1000000), (10, .sc (.int .i64 z))], [.box 53 [.ref mapK 1], .vals .map (mapAV (intA .i64) (slA 42 Region.av) o1), .row 3 (List.map (intA .i64) who) 1000000 true, .row 31 (List.map (slA 42 Region.av) what) 1000000 true]⟩) := by
 intro rest
 induction rest with
 | nil =>
  intro i z hI hd o1 who what H
  subst hI
  rw [z3_l0s] at H
  refine .facts 0 fun hf => ?_
  have hlen : acts.length ≤ 9223372036854775807 := by have hq := len_ok hf.2.1; rw [List.length_map] at hq; exact hq
  have hge : acts.length ≤ i := List.drop_eq_nil_iff.1 hd
  have hc : (decide (((i : Nat) : Int) < (((List.map Act.av acts).length : Nat) : Int))) = false := by rw [List.length_map]; exact decide_eq_false (by omega)
  exact .sg 3 [0,1,5,7,8,9,10,33] (.cdF hc (.sg 1 [1,5,7,8,9] (.kp [1,5,7,8,9] (.to (J (o1, who, what) (Option.some.inj H).symm)))))
 | cons x rest ih =>
  intro i z hI hd o1 who what H
  subst hI
  rw [z3_l0s] at H
  refine .facts 0 fun hf => ?_
  have hlen : acts.length ≤ 9223372036854775807 := by have hq := len_ok hf.2.1; rw [List.length_map] at hq; exact hq
  obtain ⟨hlt, hv_i, hd2⟩ := drop_cons hd
  have hc : (decide (((i : Nat) : Int) < (((List.map Act.av acts).length : Nat) : Int))) = true := by rw [List.length_map]; exact decide_eq_true (by omega)
  have hw : IntKind.i64.wrap (((i : Nat) : Int) + 1) = ((i + 1 : Nat) : Int) := wrapI_succ (by omega)
  refine .sg 3 [0,1,5,7,8,9,10,33] (.cdT hc (.sg 4 [0,1,5,7,8,9,10] (.rg (.sg 2 [0,1,5,7,8,9,10,36,37] (.xi [0,1,5,7,8,9,10,38] Act.av hv_i (.sg 3 [0,1,5,7,8,9,10,11] (.dn (.sg 3 [0,1,5,7,8,9,10,11,43] (.cd (decide ((((List.map Region.av x.R).length : Nat) : Int) > 10)) H (fun hb H => ?_) (fun hb H => ?_))))))))))
  ·
   exact .sg 2 [0,1,5,7,8,9,10] (.tl hc0 [0,1,2,3] [0,1,5,7,8,9,10] (.into (.cl (ih (i + 1) _ hw hd2 o1 who what H))))
  ·
   refine .sg 9 [0,1,5,7,8,9,10,11,12,13,14] ?_
   refine bndO H fun v1 hv H => (.into (.to (z3_l1_walk q3 acts unit h1 v i o1 who what x hv_i f_acts r c0 hc0 v1 ?_ who 0 _ rfl rfl (-1) 0 hv)))
   refine .sg 3 [0,1,5,7,8,9,10,11,12,13,70] (.cd x.Drop H (fun hb H => ?_) (fun hb H => ?_))
   ·
    refine .sg 2 [0,1,5,7,8,9,10,11,12] (.rg (.sg 3 [0,1,5,7,8,9,10,12,71,73] (letH H fun v2 hv H => (.ch [0,1,5,7,8,9,10,12,74] [0,1] (z10_walk _ _ v2 hv) (.sg 3 [0,1,5,7,8,9,10,12,77] (.dn (.cd (v2.1 != (decide (v1.1 ≥ 0))) H (fun hb H => ?_) (fun hb H => ?_))))))))
    ·
     refine .sg 2 [6] ?_
     obtain rfl := Option.some.inj H
     obtain rfl := Jr _ rfl
     exact .ret Try.func3 hc0
    ·
     refine .sg 4 [0,1,5,7,8,9,10,12,79] (.cd (decide (v1.1 ≥ 0)) H (fun hb H => ?_) (fun hb H => ?_))
     ·
      exact .sg 1 [0,1,5,7,8,9,10,12] (bndO H fun x2 hv_x2 H => (bndO H fun x3 hv_x3 H => (fitH H fun hfit3 H => (fitH H fun hfit4 H => (.rp hc0 [0, 1, 5, 7, 8, 9, 10, 12] [⟨3, [], [8], .loud, [(81, .own 2 1000000), (82, .sc (.int .i64 v1.1))], [.box 53 [.ref mapK 1], .vals .map (mapAV (intA .i64) (slA 42 Region.av) v2.2.held), .row 3 (List.map (intA .i64) who) 1000000 true, .row 31 (List.map (slA 42 Region.av) what) 1000000 true, .box 33 (Act.ch x)], .sl 3 (List.map (intA .i64) x2) false, [.box 53 [.ref mapK 1], .vals .map (mapAV (intA .i64) (slA 42 Region.av) v2.2.held), .row 3 (List.map (intA .i64) who) 1000000 false, .row 31 (List.map (slA 42 Region.av) what) 1000000 true, .box 33 (Act.ch x)]⟩, ⟨8, [], [3, 3], .loud, [(85, .own 2 1000000), (87, .sc (.int .i64 (IntKind.i64.wrap (v1.1 + 1))))], [.box 53 [.ref mapK 1], .vals .map (mapAV (intA .i64) (slA 42 Region.av) v2.2.held), .row 3 (List.map (intA .i64) who) 1000000 true, .row 31 (List.map (slA 42 Region.av) what) 1000000 true, .box 33 (Act.ch x)], .sl 3 (List.map (intA .i64) x3) false, [.box 53 [.ref mapK 1], .vals .map (mapAV (intA .i64) (slA 42 Region.av) v2.2.held), .row 3 (List.map (intA .i64) who) 1000000 false, .row 31 (List.map (slA 42 Region.av) what) 1000000 true, .box 33 (Act.ch x)]⟩, ⟨4, [], [], .loud, [(80, .sl 3 (List.map (intA .i64) []) true), (83, .sl 3 (List.map (intA .i64) x2) false)], [.box 53 [.ref mapK 1], .vals .map (mapAV (intA .i64) (slA 42 Region.av) v2.2.held), .row 3 (List.map (intA .i64) who) 1000000 false, .row 31 (List.map (slA 42 Region.av) what) 1000000 true, .box 33 (Act.ch x)], .own 5 1000000, [.box 53 [.ref mapK 1], .vals .map (mapAV (intA .i64) (slA 42 Region.av) v2.2.held), .row 3 (List.map (intA .i64) who) 1000000 false, .row 31 (List.map (slA 42 Region.av) what) 1000000 true, .box 33 (Act.ch x), .row 3 (List.map (intA .i64) (([] : List Int) ++ x2)) 1000000 true]⟩, ⟨8, [3], [4], .loud, [(85, .own 2 1000000), (87, .sc (.int .i64 (IntKind.i64.wrap (v1.1 + 1))))], [.box 53 [.ref mapK 1], .vals .map (mapAV (intA .i64) (slA 42 Region.av) v2.2.held), .row 3 (List.map (intA .i64) who) 1000000 false, .row 31 (List.map (slA 42 Region.av) what) 1000000 true, .box 33 (Act.ch x)], .sl 3 (List.map (intA .i64) x3) false, [.box 53 [.ref mapK 1], .vals .map (mapAV (intA .i64) (slA 42 Region.av) v2.2.held), .row 3 (List.map (intA .i64) who) 1000000 false, .row 31 (List.map (slA 42 Region.av) what) 1000000 true, .box 33 (Act.ch x)]⟩, ⟨8, [3, 4], [], .loud, [(85, .own 2 1000000), (87, .sc (.int .i64 (IntKind.i64.wrap (v1.1 + 1))))], [.box 53 [.ref mapK 1], .vals .map (mapAV (intA .i64) (slA 42 Region.av) v2.2.held), .row 3 (List.map (intA .i64) who) 1000000 false, .row 31 (List.map (slA 42 Region.av) what) 1000000 true, .box 33 (Act.ch x), .row 3 (List.map (intA .i64) (([] : List Int) ++ x2)) 1000000 true], .sl 3 (List.map (intA .i64) x3) false, [.box 53 [.ref mapK 1], .vals .map (mapAV (intA .i64) (slA 42 Region.av) v2.2.held), .row 3 (List.map (intA .i64) who) 1000000 false, .row 31 (List.map (slA 42 Region.av) what) 1000000 true, .box 33 (Act.ch x), .row 3 (List.map (intA .i64) (([] : List Int) ++ x2)) 1000000 true]⟩, ⟨9, [], [], .loud, [(84, .own 5 1000000), (88, .sl 3 (List.map (intA .i64) x3) false)], [.box 53 [.ref mapK 1], .vals .map (mapAV (intA .i64) (slA 42 Region.av) v2.2.held), .row 3 (List.map (intA .i64) who) 1000000 false, .row 31 (List.map (slA 42 Region.av) what) 1000000 true, .box 33 (Act.ch x), .row 3 (List.map (intA .i64) (([] : List Int) ++ x2)) 1000000 true], .own 5 1000001, [.box 53 [.ref mapK 1], .vals .map (mapAV (intA .i64) (slA 42 Region.av) v2.2.held), .row 3 (List.map (intA .i64) who) 1000000 false, .row 31 (List.map (slA 42 Region.av) what) 1000000 true, .box 33 (Act.ch x), .row 3 (List.map (intA .i64) ((([] : List Int) ++ x2) ++ x3)) 1000001 true]⟩, ⟨3, [8], [], .loud, [(81, .own 2 1000000), (82, .sc (.int .i64 v1.1))], [.box 53 [.ref mapK 1], .vals .map (mapAV (intA .i64) (slA 42 Region.av) v2.2.held), .row 3 (List.map (intA .i64) who) 1000000 false, .row 31 (List.map (slA 42 Region.av) what) 1000000 true, .box 33 (Act.ch x)], .sl 3 (List.map (intA .i64) x2) false, [.box 53 [.ref mapK 1], .vals .map (mapAV (intA .i64) (slA 42 Region.av) v2.2.held), .row 3 (List.map (intA .i64) who) 1000000 false, .row 31 (List.map (slA 42 Region.av) what) 1000000 true, .box 33 (Act.ch x)]⟩] [[0, 1, 2, 3, 4, 5], [0, 1, 2, 3, 4, 5], [0, 1, 2, 3, 4, 5]] (.cons (LQ.gso [2] (intA .i64) hv_x2) (.cons (LQ.gso [2] (intA .i64) hv_x3) (.cons (LQ.ab (intA .i64) hfit3 rfl) (.cons (LQ.gso [2] (intA .i64) hv_x3) (.cons (LQ.gso [2] (intA .i64) hv_x3) (.cons (LQ.ap (intA .i64) hfit4) (.cons (LQ.gso [2] (intA .i64) hv_x2) .nil))))))) (by kernel_rfl) (bndO H fun x7 hv_x7 H => (bndO H fun x8 hv_x8 H => (fitH H fun hfit3 H => (fitH H fun hfit4 H => (.rp hc0 [0, 1, 5, 7, 8, 9, 10] [⟨3, [], [8], .loud, [(91, .own 3 1000000), (92, .sc (.int .i64 v1.1))], [.box 53 [.ref mapK 1], .vals .map (mapAV (intA .i64) (slA 42 Region.av) v2.2.held), .row 3 (List.map (intA .i64) who) 1000000 false, .row 31 (List.map (slA 42 Region.av) what) 1000000 true, .box 33 (Act.ch x), .row 3 (List.map (intA .i64) ((([] : List Int) ++ x2) ++ x3)) 1000000 true], .sl 31 (List.map (slA 42 Region.av) x7) false, [.box 53 [.ref mapK 1], .vals .map (mapAV (intA .i64) (slA 42 Region.av) v2.2.held), .row 3 (List.map (intA .i64) who) 1000000 false, .row 31 (List.map (slA 42 Region.av) what) 1000000 false, .box 33 (Act.ch x), .row 3 (List.map (intA .i64) ((([] : List Int) ++ x2) ++ x3)) 1000000 true]⟩, ⟨8, [], [3, 3], .loud, [(95, .own 3 1000000), (97, .sc (.int .i64 (IntKind.i64.wrap (v1.1 + 1))))], [.box 53 [.ref mapK 1], .vals .map (mapAV (intA .i64) (slA 42 Region.av) v2.2.held), .row 3 (List.map (intA .i64) who) 1000000 false, .row 31 (List.map (slA 42 Region.av) what) 1000000 true, .box 33 (Act.ch x), .row 3 (List.map (intA .i64) ((([] : List Int) ++ x2) ++ x3)) 1000000 true], .sl 31 (List.map (slA 42 Region.av) x8) false, [.box 53 [.ref mapK 1], .vals .map (mapAV (intA .i64) (slA 42 Region.av) v2.2.held), .row 3 (List.map (intA .i64) who) 1000000 false, .row 31 (List.map (slA 42 Region.av) what) 1000000 false, .box 33 (Act.ch x), .row 3 (List.map (intA .i64) ((([] : List Int) ++ x2) ++ x3)) 1000000 true]⟩, ⟨4, [], [], .loud, [(90, .sl 31 (List.map (slA 42 Region.av) []) true), (93, .sl 31 (List.map (slA 42 Region.av) x7) false)], [.box 53 [.ref mapK 1], .vals .map (mapAV (intA .i64) (slA 42 Region.av) v2.2.held), .row 3 (List.map (intA .i64) who) 1000000 false, .row 31 (List.map (slA 42 Region.av) what) 1000000 false, .box 33 (Act.ch x), .row 3 (List.map (intA .i64) ((([] : List Int) ++ x2) ++ x3)) 1000000 true], .own 6 1000000, [.box 53 [.ref mapK 1], .vals .map (mapAV (intA .i64) (slA 42 Region.av) v2.2.held), .row 3 (List.map (intA .i64) who) 1000000 false, .row 31 (List.map (slA 42 Region.av) what) 1000000 false, .box 33 (Act.ch x), .row 3 (List.map (intA .i64) ((([] : List Int) ++ x2) ++ x3)) 1000000 true, .row 31 (List.map (slA 42 Region.av) (([] : List (List Region)) ++ x7)) 1000000 true]⟩, ⟨8, [3], [4], .loud, [(95, .own 3 1000000), (97, .sc (.int .i64 (IntKind.i64.wrap (v1.1 + 1))))], [.box 53 [.ref mapK 1], .vals .map (mapAV (intA .i64) (slA 42 Region.av) v2.2.held), .row 3 (List.map (intA .i64) who) 1000000 false, .row 31 (List.map (slA 42 Region.av) what) 1000000 false, .box 33 (Act.ch x), .row 3 (List.map (intA .i64) ((([] : List Int) ++ x2) ++ x3)) 1000000 true], .sl 31 (List.map (slA 42 Region.av) x8) false, [.box 53 [.ref mapK 1], .vals .map (mapAV (intA .i64) (slA 42 Region.av) v2.2.held), .row 3 (List.map (intA .i64) who) 1000000 false, .row 31 (List.map (slA 42 Region.av) what) 1000000 false, .box 33 (Act.ch x), .row 3 (List.map (intA .i64) ((([] : List Int) ++ x2) ++ x3)) 1000000 true]⟩, ⟨8, [3, 4], [], .loud, [(95, .own 3 1000000), (97, .sc (.int .i64 (IntKind.i64.wrap (v1.1 + 1))))], [.box 53 [.ref mapK 1], .vals .map (mapAV (intA .i64) (slA 42 Region.av) v2.2.held), .row 3 (List.map (intA .i64) who) 1000000 false, .row 31 (List.map (slA 42 Region.av) what) 1000000 false, .box 33 (Act.ch x), .row 3 (List.map (intA .i64) ((([] : List Int) ++ x2) ++ x3)) 1000000 true, .row 31 (List.map (slA 42 Region.av) (([] : List (List Region)) ++ x7)) 1000000 true], .sl 31 (List.map (slA 42 Region.av) x8) false, [.box 53 [.ref mapK 1], .vals .map (mapAV (intA .i64) (slA 42 Region.av) v2.2.held), .row 3 (List.map (intA .i64) who) 1000000 false, .row 31 (List.map (slA 42 Region.av) what) 1000000 false, .box 33 (Act.ch x), .row 3 (List.map (intA .i64) ((([] : List Int) ++ x2) ++ x3)) 1000000 true, .row 31 (List.map (slA 42 Region.av) (([] : List (List Region)) ++ x7)) 1000000 true]⟩, ⟨9, [], [], .loud, [(94, .own 6 1000000), (98, .sl 31 (List.map (slA 42 Region.av) x8) false)], [.box 53 [.ref mapK 1], .vals .map (mapAV (intA .i64) (slA 42 Region.av) v2.2.held), .row 3 (List.map (intA .i64) who) 1000000 false, .row 31 (List.map (slA 42 Region.av) what) 1000000 false, .box 33 (Act.ch x), .row 3 (List.map (intA .i64) ((([] : List Int) ++ x2) ++ x3)) 1000000 true, .row 31 (List.map (slA 42 Region.av) (([] : List (List Region)) ++ x7)) 1000000 true], .own 6 1000001, [.box 53 [.ref mapK 1], .vals .map (mapAV (intA .i64) (slA 42 Region.av) v2.2.held), .row 3 (List.map (intA .i64) who) 1000000 false, .row 31 (List.map (slA 42 Region.av) what) 1000000 false, .box 33 (Act.ch x), .row 3 (List.map (intA .i64) ((([] : List Int) ++ x2) ++ x3)) 1000000 true, .row 31 (List.map (slA 42 Region.av) ((([] : List (List Region)) ++ x7) ++ x8)) 1000001 true]⟩, ⟨3, [8], [], .loud, [(91, .own 3 1000000), (92, .sc (.int .i64 v1.1))], [.box 53 [.ref mapK 1], .vals .map (mapAV (intA .i64) (slA 42 Region.av) v2.2.held), .row 3 (List.map (intA .i64) who) 1000000 false, .row 31 (List.map (slA 42 Region.av) what) 1000000 false, .box 33 (Act.ch x), .row 3 (List.map (intA .i64) ((([] : List Int) ++ x2) ++ x3)) 1000000 true], .sl 31 (List.map (slA 42 Region.av) x7) false, [.box 53 [.ref mapK 1], .vals .map (mapAV (intA .i64) (slA 42 Region.av) v2.2.held), .row 3 (List.map (intA .i64) who) 1000000 false, .row 31 (List.map (slA 42 Region.av) what) 1000000 false, .box 33 (Act.ch x), .row 3 (List.map (intA .i64) ((([] : List Int) ++ x2) ++ x3)) 1000000 true]⟩] [[0, 1, 2, 3, 4, 5, 6], [0, 1, 2, 3, 4, 5, 6], [0, 1, 2, 3, 4, 5, 6]] (.cons (LQ.gso [3] (slA 42 Region.av) hv_x7) (.cons (LQ.gso [3] (slA 42 Region.av) hv_x8) (.cons (LQ.ab (slA 42 Region.av) hfit3 rfl) (.cons (LQ.gso [3] (slA 42 Region.av) hv_x8) (.cons (LQ.gso [3] (slA 42 Region.av) hv_x8) (.cons (LQ.ap (slA 42 Region.av) hfit4) (.cons (LQ.gso [3] (slA 42 Region.av) hv_x7) .nil))))))) (by kernel_rfl) (.sg 2 [0,1,5,7,8,9,10] (.tl hc0 [0,1,5,6] [0,1,5,7,8,9,10] (.into (.cl (ih (i + 1) _ hw hd2 v2.2.held ((([] : List Int) ++ x2) ++ x3) ((([] : List (List Region)) ++ x7) ++ x8) H)))))))))))))))
     ·
      exact .sg 3 [0,1,5,7,8,9,10] (.tl hc0 [0,1,2,3] [0,1,5,7,8,9,10] (.into (.cl (ih (i + 1) _ hw hd2 v2.2.held who what H))))
   ·
    refine .sg 4 [0,1,5,7,8,9,10,11,13,101] (.jn (decide (v1.1 ≥ 0)) [0, 1, 5, 7, 8, 9, 10, 11, 13] (fun z => [(13, .sc (.int .i64 (bif z then (5 : Int) else v1.2)))]) ?J37 (fun hb J => ?ht37) (fun hb J => ?hf37))
    case ht37 =>
     exact .sg 1 [0,1,5,7,8,9,10,11,13] (.cl J)
    case hf37 =>
     exact .sg 1 [0,1,5,7,8,9,10,11,13] (.cl J)
    refine .sg 2 [0,1,5,7,8,9,10,11,13] (.rg (.sg 5 [0,1,5,7,8,9,10,11,13,102,104,106] (letH H fun v3 hv H => (.ch [0,1,5,7,8,9,10,11,13,107] [0,1] (z11_walk _ _ _ false v3 hv) (.sg 2 [0,1,5,7,8,9,10,11,13,109] (.dn (.cd (v3.1 != (bif (decide (v1.1 ≥ 0)) then (5 : Int) else v1.2)) H (fun hb H => ?_) (fun hb H => ?_))))))))
    ·
     refine .sg 2 [6] ?_
     obtain rfl := Option.some.inj H
     obtain rfl := Jr _ rfl
     exact .ret Try.func3 hc0
    ·
     refine .sg 3 [0,1,5,7,8,9,10,11,111] (.cd ((bif (decide (v1.1 ≥ 0)) then (5 : Int) else v1.2) == 0) H (fun hb H => ?_) (fun hb H => ?_))
     ·
      exact .sg 1 [0,1,5,7,8,9,10,11] (.rg (.sg 4 [0,1,5,7,9,10,11,112,115] (fitH H fun hfit H => (.ap [0,1,5,7,9,10,11,116] (intA .i64) hfit (.sg 1 [0,1,5,7,8,9,10,11] (.dn (.rg (.sg 4 [0,1,5,7,8,10,117,120] (fitH H fun hfit H => (.ap [0,1,5,7,8,10,121] (slA 42 Region.av) hfit (.sg 1 [0,1,5,7,8,9,10] (.dn (.sg 2 [0,1,5,7,8,9,10] (.tl hc0 [0,1,2,3] [0,1,5,7,8,9,10] (.into (.cl (ih (i + 1) _ hw hd2 v3.2.held (who ++ [x.Txn]) (what ++ [x.R]) H)))))))))))))))))
     ·
      exact .sg 3 [0,1,5,7,8,9,10] (.tl hc0 [0,1,2,3] [0,1,5,7,8,9,10] (.into (.cl (ih (i + 1) _ hw hd2 v3.2.held who what H))))
def z3_l3 (unit : Int) (h1 : List Int) (v1 : (List (Int × (List Region))) × (List Int) × (List (List Region))) (i1 : Nat) : Nat → Bool → Int → Option (Bool)
 | 0, _, _ => none
 | m + 1, has, k1 =>
  (ixO v1.2.2 ((i1 : Nat) : Int)).bind fun x2 =>
 (bif (decide (k1 < (((List.map Region.av x2).length : Nat) : Int))) then
  (bif has then
   z3_l3 unit h1 v1 i1 m true (IntKind.i64.wrap (k1 + 1))
  else
   (ixO x2 k1).bind fun x3 =>
   (bif (x3.Unit == unit) then
    (ixO x2 k1).bind fun x4 =>
    z3_l3 unit h1 v1 i1 m (refHasP x4.Cube h1) (IntKind.i64.wrap (k1 + 1))
   else
    z3_l3 unit h1 v1 i1 m false (IntKind.i64.wrap (k1 + 1))))
 else
  some has)
theorem z3_l3_walk (q3 : Nat) (acts : List Act) (unit : Int) (h1 : List Int) (v : Locks) (v1 : (List (Int × (List Region))) × (List Int) × (List (List Region))) (v2 : (List Int) × Locks) (i1 : Nat) (least : Int) (held : Bool) (x1 : Int) (hv_i1 : ixO v1.2.1 ((i1 : Nat) : Int) = some x1) (f_acts : Bool) (r : Bool) (c0 : Ctx) (hc0 : c0.m.length = 0) (res : Bool) (J : AX Try.prog tab z3_F c0 (Rp tab.S c0 (.sc (.bool r)) []) (some ⟨[.code [1, 1, 1, 1, 1, 1, 1, 1, 0, 1, 0, 0, 1, 0, 0, 1, 1], .blk 5, .code [1, 1, 1, 1, 1, 1, 1, 1, 0, 1, 0, 0, 1, 1], .loop [1, 1, 1, 1, 1, 1, 1, 1, 0, 1, 0], .blk 4, .code [1, 1, 1, 1, 1, 1, 1, 1, 1]], [(1, .sc (.int .i64 unit)), (5, .ep [.arr .u64 12 h1] 0 none), (7, .ptr 0 0 none), (8, .own 2 1000000), (9, .own 3 1000000), (15, .sl 3 (List.map (intA .i64) v2.1) false), (16, .sc (.int .i64 least)), (17, .sc (.bool held)), (18, .sc (.int .i64 ((i1 : Nat) : Int))), (19, .sc (.bool res))], [.box 53 [.ref mapK 1], .vals .map (mapAV (intA .i64) (slA 42 Region.av) v2.2.held), .row 3 (List.map (intA .i64) v1.2.1) 1000000 true, .row 31 (List.map (slA 42 Region.av) v1.2.2) 1000000 true]⟩)) :
  ∀ (m : Nat) (has : Bool) (k1 : Int) (H : z3_l3 unit h1 v1 i1 m has k1 = some res), AX Try.prog tab z3_F c0 (Rp tab.S c0 (.sc (.bool r)) []) (some ⟨[.code [1, 1, 1, 1, 1, 1, 1, 1, 0, 1, 0, 0, 1, 0, 0, 1, 0, 1, 0, 0], .loop [1, 1, 1, 1, 1, 1, 1, 1, 0, 1, 0, 0, 1, 0, 0, 1, 0, 1, 0], .blk 6, .code [1, 1, 1, 1, 1, 1, 1, 1, 0, 1, 0, 0, 1, 0, 0, 1, 1], .blk 5, .code [1, 1, 1, 1, 1, 1, 1, 1, 0, 1, 0, 0, 1, 1], .loop [1, 1, 1, 1, 1, 1, 1, 1, 0, 1, 0], .blk 4, .code [1, 1, 1, 1, 1, 1, 1, 1, 1]], [(1, .sc (.int .i64 unit)), (5, .ep [.arr .u64 12 h1] 0 none), (7, .ptr 0 0 none), (8, .own 2 1000000), (9, .own 3 1000000), (15, .sl 3 (List.map (intA .i64) v2.1) false), (16, .sc (.int .i64 least)), (17, .sc (.bool held)), (18, .sc (.int .i64 ((i1 : Nat) : Int))), (19, .sc (.bool has)), (20, .sc (.int .i64 k1))], [.box 53 [.ref mapK 1], .vals .map (mapAV (intA .i64) (slA 42 Region.av) v2.2.held), .row 3 (List.map (intA .i64) v1.2.1) 1000000 true, .row 31 (List.map (slA 42 Region.av) v1.2.2) 1000000 true]⟩) := by
 intro m
 induction m with
 | zero => intro has k1 H; cases H
 | succ m ih =>
  intro has k1 H
  rw [z3_l3] at H
  refine .sg 2 [1,5,7,8,9,15,16,17,18,19,20] (.rg (.sg 3 [1,5,7,8,9,15,16,17,18,19,20,130,131,132] (bndO H fun x2 hv_x2 H => (.xo [1,5,7,8,9,15,16,17,18,19,20,130,133] (ixO_req hv_x2 (slA 42 Region.av)) (.lo [1,5,7,8,9,15,16,17,18,19,20,130,134] (ixO_map hv_x2 (slA 42 Region.av)).2 (.sg 2 [1,5,7,8,9,15,16,17,18,19,20,136] (.dn (.cd (decide (k1 < (((List.map Region.av x2).length : Nat) : Int))) H (fun hb H => ?_) (fun hb H => ?_)))))))))
  ·
   refine .sg 3 [1,5,7,8,9,15,16,17,18,19,20] (.rg (.sg 2 [1,5,7,8,9,15,16,17,18,20,140] (.sp 140 has H (fun hb H => ?_) (fun hb H => ?_))))
   ·
    exact .sg 24 [1,5,7,8,9,15,16,17,18,19,20] (.dn (.sg 2 [1,5,7,8,9,15,16,17,18,19,20] (.kp [1,5,7,8,9,15,16,17,18,19,20] (.into (.to (ih true (IntKind.i64.wrap (k1 + 1)) H))))))
   ·
    refine .sg 2 [1,5,7,8,9,15,16,17,18,20,140,141,142] (.xo [1,5,7,8,9,15,16,17,18,20,140,143] (ixO_req hv_x2 (slA 42 Region.av)) (.lo [1,5,7,8,9,15,16,17,18,20,140,144] (ixO_map hv_x2 (slA 42 Region.av)).2 (.sg 1 [1,5,7,8,9,15,16,17,18,20,140,144,145] (bndO H fun x3 hv H => (.xi [1,5,7,8,9,15,16,17,18,20,140,146] Region.av hv (.sg 5 [1,5,7,8,9,15,16,17,18,20,140,151] (.sp 151 (x3.Unit == unit) H (fun hb H => ?_) (fun hb H => ?_))))))))
    ·
     exact .sg 2 [1,5,7,8,9,15,16,17,18,20,140,151,152,153] (.xo [1,5,7,8,9,15,16,17,18,20,140,151,154] (ixO_req hv_x2 (slA 42 Region.av)) (.lo [1,5,7,8,9,15,16,17,18,20,140,151,155] (ixO_map hv_x2 (slA 42 Region.av)).2 (.sg 1 [1,5,7,8,9,15,16,17,18,20,140,151,155,156] (bndO H fun x4 hv H => (.xi [1,5,7,8,9,15,16,17,18,20,140,151,157] Region.av hv (.sg 3 [1,5,7,8,9,15,16,17,18,20,140,151,159,160] (.cp [1,5,7,8,9,15,16,17,18,20,140,151,161] (z13_ok x4.Cube h1) (.sg 3 [1,5,7,8,9,15,16,17,18,19,20] (.dn (.sg 2 [1,5,7,8,9,15,16,17,18,19,20] (.kp [1,5,7,8,9,15,16,17,18,19,20] (.into (.to (ih (refHasP x4.Cube h1) (IntKind.i64.wrap (k1 + 1)) H))))))))))))))
    ·
     exact .sg 13 [1,5,7,8,9,15,16,17,18,19,20] (.dn (.sg 2 [1,5,7,8,9,15,16,17,18,19,20] (.kp [1,5,7,8,9,15,16,17,18,19,20] (.into (.to (ih false (IntKind.i64.wrap (k1 + 1)) H))))))
  ·
   refine .sg 1 [1,5,7,8,9,15,16,17,18,19] (.kp [1,5,7,8,9,15,16,17,18,19] ?_)
   obtain rfl := Option.some.inj H
   exact .to J
def z3_l4s (x1 : Int) (least1 : Int) (held1 : Bool) : List Int → Bool → Int × Bool × Bool
 | [], in_ =>
  (least1, held1, in_)
 | x2 :: rest1, in_ =>
  z3_l4s x1 least1 held1 rest1 (in_ || (x2 == x1))
theorem z3_l4_walk (q3 : Nat) (acts : List Act) (unit : Int) (h1 : List Int) (v : Locks) (v1 : (List (Int × (List Region))) × (List Int) × (List (List Region))) (v2 : (List Int) × Locks) (i1 : Nat) (least : Int) (held : Bool) (x1 : Int) (hv_i1 : ixO v1.2.1 ((i1 : Nat) : Int) = some x1) (v3 : Bool) (least1 : Int) (held1 : Bool) (f_acts : Bool) (r : Bool) (c0 : Ctx) (hc0 : c0.m.length = 0) (res : Int × Bool × Bool) (J : AX Try.prog tab z3_F c0 (Rp tab.S c0 (.sc (.bool r)) []) (some ⟨[.code [1, 1, 1, 1, 1, 1, 1, 1, 0, 1, 0, 0, 1, 0, 0, 1, 1, 1, 1, 1], .blk 5, .code [1, 1, 1, 1, 1, 1, 1, 1, 0, 1, 0, 0, 1, 1], .loop [1, 1, 1, 1, 1, 1, 1, 1, 0, 1, 0], .blk 4, .code [1, 1, 1, 1, 1, 1, 1, 1, 1]], [(1, .sc (.int .i64 unit)), (5, .ep [.arr .u64 12 h1] 0 none), (7, .ptr 0 0 none), (8, .own 2 1000000), (9, .own 3 1000000), (15, .sl 3 (List.map (intA .i64) v2.1) false), (16, .sc (.int .i64 res.1)), (17, .sc (.bool res.2.1)), (18, .sc (.int .i64 ((i1 : Nat) : Int))), (21, .sc (.bool res.2.2))], [.box 53 [.ref mapK 1], .vals .map (mapAV (intA .i64) (slA 42 Region.av) v2.2.held), .row 3 (List.map (intA .i64) v1.2.1) 1000000 true, .row 31 (List.map (slA 42 Region.av) v1.2.2) 1000000 true]⟩)) :
  ∀ (rest1 : List Int) (k2 : Nat) (z : Int) (hI : z = ((k2 : Nat) : Int)) (hd : v2.1.drop k2 = rest1) (in_ : Bool) (H : z3_l4s x1 least1 held1 rest1 in_ = res), AX Try.prog tab z3_F c0 (Rp tab.S c0 (.sc (.bool r)) []) (some ⟨[.code [1, 1, 1, 1, 1, 1, 1, 1, 0, 1, 0, 0, 1, 0, 0, 1, 1, 1, 1, 0, 1, 0, 0], .loop [1, 1, 1, 1, 1, 1, 1, 1, 0, 1, 0, 0, 1, 0, 0, 1, 1, 1, 1, 0, 1, 0], .blk 8, .code [1, 1, 1, 1, 1, 1, 1, 1, 0, 1, 0, 0, 1, 0, 0, 1, 1, 1, 1, 1], .blk 5, .code [1, 1, 1, 1, 1, 1, 1, 1, 0, 1, 0, 0, 1, 1], .loop [1, 1, 1, 1, 1, 1, 1, 1, 0, 1, 0], .blk 4, .code [1, 1, 1, 1, 1, 1, 1, 1, 1]], [(1, .sc (.int .i64 unit)), (5, .ep [.arr .u64 12 h1] 0 none), (7, .ptr 0 0 none), (8, .own 2 1000000), (9, .own 3 1000000), (15, .sl 3 (List.map (intA .i64) v2.1) false), (16, .sc (.int .i64 least1)), (17, .sc (.bool held1)), (18, .sc (.int .i64 ((i1 : Nat) : Int))), (21, .sc (.bool in_)), (22, .sc (.int .i64 z))], [.box 53 [.ref mapK 1], .vals .map (mapAV (intA .i64) (slA 42 Region.av) v2.2.held), .row 3 (List.map (intA .i64) v1.2.1) 1000000 true, .row 31 (List.map (slA 42 Region.av) v1.2.2) 1000000 true]⟩) := by
 intro rest1
 induction rest1 with
 | nil =>
  intro k2 z hI hd in_ H
  subst hI
  rw [z3_l4s] at H
  refine .facts 15 fun hf => ?_
  have hlen : v2.1.length ≤ 9223372036854775807 := by have hq := len_ok hf.2.1; rw [List.length_map] at hq; exact hq
  have hge : v2.1.length ≤ k2 := List.drop_eq_nil_iff.1 hd
  have hc : (decide (((k2 : Nat) : Int) < (((List.map (intA .i64) v2.1).length : Nat) : Int))) = false := by rw [List.length_map]; exact decide_eq_false (by omega)
  refine .sg 3 [1,5,7,8,9,15,16,17,18,21,22,184] (.cdF hc (.sg 1 [1,5,7,8,9,15,16,17,18,21] (.kp [1,5,7,8,9,15,16,17,18,21] ?_)))
  subst H
  exact .to J
 | cons x2 rest1 ih =>
  intro k2 z hI hd in_ H
  subst hI
  rw [z3_l4s] at H
  refine .facts 15 fun hf => ?_
  have hlen : v2.1.length ≤ 9223372036854775807 := by have hq := len_ok hf.2.1; rw [List.length_map] at hq; exact hq
  obtain ⟨hlt, hv_k2, hd2⟩ := drop_cons hd
  have hc : (decide (((k2 : Nat) : Int) < (((List.map (intA .i64) v2.1).length : Nat) : Int))) = true := by rw [List.length_map]; exact decide_eq_true (by omega)
  have hw : IntKind.i64.wrap (((k2 : Nat) : Int) + 1) = ((k2 + 1 : Nat) : Int) := wrapI_succ (by omega)
  refine .sg 3 [1,5,7,8,9,15,16,17,18,21,22,184] (.cdT hc (.sg 3 [1,5,7,8,9,15,16,17,18,21,22] (.rg (.sg 2 [1,5,7,8,9,15,16,17,18,22,188] (.mm 188 in_ 10 [.pure, .pure, .read, .read, .pure, .pure, .pure, .pure, .pure, .pure] [1, 5, 7, 8, 9, 15, 16, 17, 18, 22, 198] 198 (fun z => .sc (.bool (z || (x2 == x1)))) ?J45 (fun hb J => ?ht45) (fun hb J => ?hf45))))))
  case ht45 =>
   exact .sg 10 [1,5,7,8,9,15,16,17,18,22,198] (.cl J)
  case hf45 =>
   exact .sg 2 [1,5,7,8,9,15,16,17,18,22,188,189,190] (.xi [1,5,7,8,9,15,16,17,18,22,188,191] (intA .i64) hv_k2 (.sg 3 [1,5,7,8,9,15,16,17,18,22,188,192,193,194] (.xo [1,5,7,8,9,15,16,17,18,22,188,192,195] (ixO_req hv_i1 (intA .i64)) (.lo [1,5,7,8,9,15,16,17,18,22,188,192,196] (ixO_map hv_i1 (intA .i64)).2 (.sg 2 [1,5,7,8,9,15,16,17,18,22,198] (.cl J))))))
  exact .sg 1 [1,5,7,8,9,15,16,17,18,21,22] (.dn (.sg 2 [1,5,7,8,9,15,16,17,18,21,22] (.kp [1,5,7,8,9,15,16,17,18,21,22] (.into (.cl (ih (k2 + 1) _ hw hd2 (in_ || (x2 == x1)) H))))))
def z3_l2s (q3 : Nat) (unit : Int) (h1 : List Int) (v1 : (List (Int × (List Region))) × (List Int) × (List (List Region))) (v2 : (List Int) × Locks) : List Int → Nat → Int → Bool → Option (Sum (Int × Bool) (Bool))
 | [], i1, least, held =>
  some (.inl (least, held))
 | x1 :: rest, i1, least, held =>
  (z3_l3 unit h1 v1 i1 q3 false 0).bind fun v3 =>
  letT (z3_l4s x1 (bif (v3 && ((!held) || (decide (x1 < least)))) then x1 else least) ((v3 && ((!held) || (decide (x1 < least)))) || held) v2.1 false) fun v4 =>
  (bif (!v4.2.2) then
   some (.inr false)
  else
   z3_l2s q3 unit h1 v1 v2 rest (i1 + 1) v4.1 v4.2.1)
theorem z3_l2_walk (q3 : Nat) (acts : List Act) (unit : Int) (h1 : List Int) (v : Locks) (v1 : (List (Int × (List Region))) × (List Int) × (List (List Region))) (v2 : (List Int) × Locks) (f_acts : Bool) (r : Bool) (c0 : Ctx) (hc0 : c0.m.length = 0) (res : Sum (Int × Bool) (Bool)) (J : ∀ w : Int × Bool, res = .inl w → AX Try.prog tab z3_F c0 (Rp tab.S c0 (.sc (.bool r)) []) (some ⟨[.code [1, 1, 1, 1, 1, 1, 1, 1, 1]], [(1, .sc (.int .i64 unit)), (5, .ep [.arr .u64 12 h1] 0 none), (7, .ptr 0 0 none), (8, .own 2 1000000), (15, .sl 3 (List.map (intA .i64) v2.1) false), (16, .sc (.int .i64 w.1)), (17, .sc (.bool w.2))], [.box 53 [.ref mapK 1], .vals .map (mapAV (intA .i64) (slA 42 Region.av) v2.2.held), .row 3 (List.map (intA .i64) v1.2.1) 1000000 true, .row 31 (List.map (slA 42 Region.av) v1.2.2) 1000000 true]⟩)) (Jr : ∀ w, res = .inr w → w = r) :
  ∀ (rest : List Int) (i1 : Nat) (z : Int) (hI : z = ((i1 : Nat) : Int)) (hd : v1.2.1.drop i1 = rest) (least : Int) (held : Bool) (H : z3_l2s q3 unit h1 v1 v2 rest i1 least held = some res), AX Try.prog tab z3_F c0 (Rp tab.S c0 (.sc (.bool r)) []) (some ⟨[.code [1, 1, 1, 1, 1, 1, 1, 1, 0, 1, 0, 0], .loop [1, 1, 1, 1, 1, 1, 1, 1, 0, 1, 0], .blk 4, .code [1, 1, 1, 1, 1, 1, 1, 1, 1]], [(1, .sc (.int .i64 unit)), (5, .ep [.arr .u64 12 h1] 0 none), (7, .ptr 0 0 none), (8, .own 2 1000000), (9, .own 3 1000000), (15, .sl 3 (List.map (intA .i64) v2.1) false), (16, .sc (.int .i64 least)), (17, .sc (.bool held)), (18, .sc (.int .i64 z))], [.box 53 [.ref mapK 1], .vals .map (mapAV (intA .i64) (slA 42 Region.av) v2.2.held), .row 3 (List.map (intA .i64) v1.2.1) 1000000 true, .row 31 (List.map (slA 42 Region.av) v1.2.2) 1000000 true]⟩) := by
 intro rest
 induction rest with
 | nil =>
  intro i1 z hI hd least held H
  subst hI
  rw [z3_l2s] at H
  refine .factsH 2 rfl fun hf => ?_
  have hlen : v1.2.1.length ≤ 9223372036854775807 := by have hq := len_ok2 hf (of_decide_eq_true (by kernel_rfl)); rw [List.length_map] at hq; exact hq
  have hge : v1.2.1.length ≤ i1 := List.drop_eq_nil_iff.1 hd
  have hc : (decide (((i1 : Nat) : Int) < (((List.map (intA .i64) v1.2.1).length : Nat) : Int))) = false := by rw [List.length_map]; exact decide_eq_false (by omega)
  exact .sg 3 [1,5,7,8,9,15,16,17,18,127] (.cdF hc (.sg 1 [1,5,7,8,15,16,17] (.kp [1,5,7,8,15,16,17] (.to (J (least, held) (Option.some.inj H).symm)))))
 | cons x1 rest ih =>
  intro i1 z hI hd least held H
  subst hI
  rw [z3_l2s] at H
  refine .factsH 2 rfl fun hf => ?_
  have hlen : v1.2.1.length ≤ 9223372036854775807 := by have hq := len_ok2 hf (of_decide_eq_true (by kernel_rfl)); rw [List.length_map] at hq; exact hq
  obtain ⟨hlt, hv_i1, hd2⟩ := drop_cons hd
  have hc : (decide (((i1 : Nat) : Int) < (((List.map (intA .i64) v1.2.1).length : Nat) : Int))) = true := by rw [List.length_map]; exact decide_eq_true (by omega)
  have hw : IntKind.i64.wrap (((i1 : Nat) : Int) + 1) = ((i1 + 1 : Nat) : Int) := wrapI_succ (by omega)
  refine .sg 3 [1,5,7,8,9,15,16,17,18,127] (.cdT hc (.sg 9 [1,5,7,8,9,15,16,17,18,19,20] ?_))
  refine bndO H fun v3 hv H => (.into (.to (z3_l3_walk q3 acts unit h1 v v1 v2 i1 least held x1 hv_i1 f_acts r c0 hc0 v3 ?_ q3 false 0 hv)))
  refine .sg 2 [1,5,7,8,9,15,16,17,18,19] (.rg (.sg 2 [1,5,7,8,9,15,16,17,18,165] (.mm 165 v3 11 [.pure, .pure, .pure, .pure, .read, .read, .pure, .pure, .pure, .pure, .pure] [1, 5, 7, 8, 9, 15, 16, 17, 18, 176] 176 (fun z => .sc (.bool (z && ((!held) || (decide (x1 < least)))))) ?J42 (fun hb J => ?ht42) (fun hb J => ?hf42))))
  case ht42 =>
   refine .sg 3 [1,5,7,8,9,15,16,17,18,165,168] (.mm 168 (!held) 7 [.pure, .pure, .pure, .read, .read, .pure, .pure] [1, 5, 7, 8, 9, 15, 16, 17, 18, 165, 175] 175 (fun z => .sc (.bool (z || (decide (x1 < least))))) ?J43 (fun hb J => ?ht43) (fun hb J => ?hf43))
   case ht43 =>
    exact .sg 7 [1,5,7,8,9,15,16,17,18,165,175] (.cl J)
   case hf43 =>
    exact .sg 2 [1,5,7,8,9,15,16,17,18,165,168,169,170] (.xo [1,5,7,8,9,15,16,17,18,165,168,171] (ixO_req hv_i1 (intA .i64)) (.lo [1,5,7,8,9,15,16,17,18,165,168,172] (ixO_map hv_i1 (intA .i64)).2 (.sg 3 [1,5,7,8,9,15,16,17,18,165,175] (.cl J))))
   exact .sg 1 [1,5,7,8,9,15,16,17,18,176] (.cl J)
  case hf42 =>
   exact .sg 11 [1,5,7,8,9,15,16,17,18,176] (.cl J)
  refine .dn (.jn (v3 && ((!held) || (decide (x1 < least)))) [1, 5, 7, 8, 9, 15, 16, 17, 18] (fun z => [(16, .sc (.int .i64 (bif z then x1 else least))), (17, .sc (.bool (z || held)))]) ?J44 (fun hb J => ?ht44) (fun hb J => ?hf44))
  case ht44 =>
   exact .rg (.sg 2 [1,5,7,8,9,15,18,177,178] (.xo [1,5,7,8,9,15,18,179] (ixO_req hv_i1 (intA .i64)) (.lo [1,5,7,8,9,15,18,180] (ixO_map hv_i1 (intA .i64)).2 (.sg 2 [1,5,7,8,9,15,16,17,18] (.dn (.sg 0 [1,5,7,8,9,15,16,17,18] (.cl J)))))))
  case hf44 =>
   exact .sg 1 [1,5,7,8,9,15,16,17,18] (.cl J)
  refine .sg 6 [1,5,7,8,9,15,16,17,18,21,22] ?_
  refine letH H fun v4 hv H => (.into (.to (z3_l4_walk q3 acts unit h1 v v1 v2 i1 least held x1 hv_i1 v3 (bif (v3 && ((!held) || (decide (x1 < least)))) then x1 else least) ((v3 && ((!held) || (decide (x1 < least)))) || held) f_acts r c0 hc0 v4 ?_ v2.1 0 _ rfl rfl false hv)))
  refine .sg 2 [1,5,7,8,9,15,16,17,18,200] (.cd (!v4.2.2) H (fun hb H => ?_) (fun hb H => ?_))
  ·
   refine .sg 2 [6] ?_
   obtain rfl := Option.some.inj H
   obtain rfl := Jr _ rfl
   exact .ret Try.func3 hc0
  ·
   exact .sg 3 [1,5,7,8,9,15,16,17,18] (.kp [1,5,7,8,9,15,16,17,18] (.into (.cl (ih (i1 + 1) _ hw hd2 v4.1 v4.2.1 H))))
def z3_raw (q3 : Nat) (acts : List Act) (unit : Int) (h1 : List Int) : Option (Bool) :=
 (bif (decide ((((List.map Act.av acts).length : Nat) : Int) > 40)) then
  some true
 else
  letT (lock_New) fun v =>
  loopO (z3_l0s acts v.held ([] : List Int) ([] : List (List Region))) fun v1 =>
  (z12_raw ({ held := v1.1 } : Locks)).bind fun v2 =>
  loopO (z3_l2s q3 unit h1 v1 v2 v1.2.1 0 0 false) fun v3 =>
  (z14_raw v2.2 unit h1).bind fun v4 =>
  some ((((((List.map (intA .i64) v2.1).length : Nat) : Int) == (((List.map (intA .i64) v1.2.1).length : Nat) : Int)) && (v4.1 == v3.1)) && (v4.2.1 == v3.2)))
theorem z3_walk (q3 : Nat) (acts : List Act) (unit : Int) (h1 : List Int) (f_acts : Bool) (r : Bool) (H : z3_raw q3 acts unit h1 = some r) : ACalls Try.prog tab.S 3 [.sl 33 (List.map Act.av acts) f_acts, .sc (.int .i64 unit), .arr .u64 12 h1] [] (.sc (.bool r)) [] := by
 refine .of_AX z3_F Try.func3 fun c0 hc0 => ?_
 rw [z3_raw] at H
 refine .sg 1 [0,1,2] (.rg (.bx [0,1,5] (.sg 1 [0,1,5] (.dn (.sg 3 [0,1,5,27] (.cd (decide ((((List.map Act.av acts).length : Nat) : Int) > 40)) H (fun hb H => ?_) (fun hb H => ?_)))))))
 ·
  refine .sg 1 [] (.rg (.cp [28] (z7_ok) (.sg 1 [6] (.dn ?_))))
  obtain rfl := Option.some.inj H
  exact .ret Try.func3 hc0
 ·
  refine .sg 2 [0,1,5] (.rg (letH H fun v hv H => (.ch [0,1,5,29] [] (lock_New_walk v hv) (.sg 1 [0,1,5,7] (.dn (.sg 8 [0,1,5,7,8,9,10] (.ad 8 3 true (.kp [0,1,5,7,8,9,10] (.ad 9 31 true (.kp [0,1,5,7,8,9,10] ?_))))))))))
  rcases loopO_some H with ⟨v1, hv, H⟩ | hv
  case inr =>
   exact .into (.to (z3_l0_walk q3 acts unit h1 v f_acts _ c0 hc0 (.inr _) (fun _ e => by cases e) (fun _ e => (Sum.inr.inj e).symm) acts 0 _ rfl rfl v.held ([] : List Int) ([] : List (List Region)) hv))
  refine .into (.to (z3_l0_walk q3 acts unit h1 v f_acts r c0 hc0 (.inl v1) (fun w e => ?_) (fun _ e => by cases e) acts 0 _ rfl rfl v.held ([] : List Int) ([] : List (List Region)) hv))
  have e := Sum.inl.inj e
  subst e
  refine .sg 1 [1,5,7,8,9] (.rg (.sg 1 [1,5,7,8,9,122] (bndO H fun v2 hv H => (.ch [1,5,7,8,9,123] [0,1] (z12_walk _ v2 hv) (.sg 1 [1,5,7,8,9,15] (.dn (.sg 6 [1,5,7,8,9,15,16,17,18] ?_)))))))
  rcases loopO_some H with ⟨v3, hv, H⟩ | hv
  case inr =>
   exact .into (.to (z3_l2_walk q3 acts unit h1 v v1 v2 f_acts _ c0 hc0 (.inr _) (fun _ e => by cases e) (fun _ e => (Sum.inr.inj e).symm) v1.2.1 0 _ rfl rfl 0 false hv))
  refine .into (.to (z3_l2_walk q3 acts unit h1 v v1 v2 f_acts r c0 hc0 (.inl v3) (fun w e => ?_) (fun _ e => by cases e) v1.2.1 0 _ rfl rfl 0 false hv))
  have e := Sum.inl.inj e
  subst e
  refine .sg 1 [1,5,7,8,15,16,17] (.rg (.sg 3 [8,15,16,17,202,203,204] (bndO H fun v4 hv H => (.ch [8,15,16,17,205] [0,1] (z14_walk _ _ _ v4 hv) (.sg 5 [8,15,16,17,23,24] (.dn (.sg 1 [8,15,16,17,23,24] (.rg (.cp [8,15,16,17,23,24,208] (z7_ok) (.sg 8 [16,17,23,24,216] (.mx 0 [17,24,220] (.sg 1 [17,24,221] (.mx 0 [225] (.sg 1 [6] (.dn ?_)))))))))))))))
  obtain rfl := Option.some.inj H
  exact .ret Try.func3 hc0
theorem act_rng {a : Act} (w : Act.wf a) : -9223372036854775808 ≤ a.Txn ∧ a.Txn ≤ 9223372036854775807 := by
 have w1 : (decide (IntKind.i64.min ≤ a.Txn) && decide (a.Txn ≤ IntKind.i64.max)) = true := w.1
 rw [Bool.and_eq_true, decide_eq_true_eq, decide_eq_true_eq] at w1
 exact w1
theorem act_regs {a : Act} (w : Act.wf a) : ∀ y ∈ a.R, Region.wf y := w.2.2
def atF (t : Int) : List Int → Nat → Int → Int
 | [], _, a => a
 | x :: r, k, a => atF t r (k + 1) (bif (x == t) then ((k : Nat) : Int) else a)
theorem atF_none (t : Int) : ∀ (l : List Int) (k : Nat) (a : Int), t ∉ l → atF t l k a = a
 | [], _, _, _ => rfl
 | x :: r, k, a, h => by
  rw [List.mem_cons, not_or] at h
  rw [atF, show (x == t) = false from beq_false_of_ne fun e => h.1 e.symm]
  exact atF_none t r (k + 1) a h.2
theorem atF_some (t : Int) : ∀ (l : List Int) (k : Nat) (a : Int), l.Nodup → t ∈ l → ∃ i, l[i]? = some t ∧ atF t l k a = ((k + i : Nat) : Int)
 | [], _, _, _, h => by cases h
 | x :: r, k, a, hn, h => by
  rw [List.nodup_cons] at hn
  rw [atF]
  by_cases hx : x = t
  ·subst hx
   rw [beq_self_eq_true, cond_true, atF_none x r (k + 1) _ hn.1]
   exact ⟨0, rfl, rfl⟩
  ·rw [beq_false_of_ne hx, cond_false]
   have ht : t ∈ r := by
    rcases List.mem_cons.1 h with h | h
    ·exact absurd h.symm hx
    ·exact h
   obtain ⟨i, h1, h2⟩ := atF_some t r (k + 1) a hn.2 ht
   exact ⟨i + 1, h1, by rw [h2]; congr 1; omega⟩
theorem plays_l1 {n : Nat} {o : List (Int × List Region)} {who : List Int} {what : List (List Region)} (h : Held n o who what) (x : Act) (wx : Act.wf x) : ∀ (l : List Int) (k : Nat) (a e : Int), who.drop k = l → (e = 0 ∨ e = 9) →
  z3_l1s what x l k a e = some (atF x.Txn l k a, if e = 0 then (if (what.drop k).any (fun y => z17 x.R y) = true then 9 else 0) else e)
 | [], k, a, e, hd, he => by
  have h1 : who.length ≤ k := List.drop_eq_nil_iff.1 hd
  rw [z3_l1s, atF, List.drop_eq_nil_of_le (by rw [← h.len]; exact h1)]
  rcases he with rfl | rfl <;> rfl
 | y :: rest, k, a, e, hd, he => by
  have h1 : k < who.length := by
   rcases Nat.lt_or_ge k who.length with h1 | h1
   ·exact h1
   ·rw [List.drop_eq_nil_of_le h1] at hd; cases hd
  have hk : k < what.length := by rw [← h.len]; exact h1
  rw [List.drop_eq_getElem_cons h1] at hd
  injection hd with h2 h3
  have ih := fun a e he => plays_l1 h x wx rest (k + 1) a e h3 he
  rw [z3_l1s, atF, List.drop_eq_getElem_cons hk, List.any_cons]
  rcases he with rfl | rfl
  ·rw [show ((0 : Int) == 0) = true from rfl, cond_true, ixO_at (List.getElem?_eq_getElem hk), Option.bind_some, Touch_eq (act_regs wx) (h.wf _ (List.getElem_mem hk)), Option.bind_some]
   cases hT : z17 x.R what[k] with
   | true =>
    rw [cond_true, ih _ 9 (.inr rfl)]
    rfl
   | false =>
    rw [cond_false, ih _ 0 (.inl rfl)]
    rfl
  ·rw [show ((9 : Int) == 0) = false from rfl, cond_false, ih _ 9 (.inr rfl)]
   rfl
theorem posM_at {V : Type} {t : Int} : ∀ {m : List (Int × V)} {i : Nat} {p : Int × V}, (m.map (·.1)).Nodup → m[i]? = some p → p.1 = t → posM t m = i
 | [], i, p, _, h, _ => by cases h
 | q :: m, 0, p, _, h, e => by
  injection h with h
  subst h
  rw [posM, if_pos e.symm]
 | q :: m, i + 1, p, hn, h, e => by
  rw [List.map_cons, List.nodup_cons] at hn
  have h : m[i]? = some p := h
  have hne : ¬ t = q.1 := by
   rintro rfl
   refine hn.1 ?_
   rw [← e]
   exact List.mem_map_of_mem (List.mem_iff_getElem?.2 ⟨i, h⟩)
  rw [posM, if_neg hne, posM_at hn.2 h e]
theorem posM_none {V : Type} {t : Int} : ∀ {m : List (Int × V)}, t ∉ m.map (·.1) → posM t m = m.length
 | [], _ => rfl
 | q :: m, h => by
  rw [List.map_cons, List.mem_cons, not_or] at h
  rw [posM, if_neg h.1, posM_none h.2]
  rfl
theorem Held.erase {n : Nat} {o : List (Int × List Region)} {who : List Int} {what : List (List Region)} (h : Held n o who what) (i : Nat) : Held n (o.eraseIdx i) (who.eraseIdx i) (what.eraseIdx i) where
 zip := by
  rw [h.zip, List.eraseIdx_eq_take_drop_succ, List.eraseIdx_eq_take_drop_succ, List.eraseIdx_eq_take_drop_succ, List.zip_append (by rw [List.length_take, List.length_take, h.len])]
  unfold List.zip
  rw [List.take_zipWith, List.drop_zipWith]
 len := by rw [List.length_eraseIdx, List.length_eraseIdx, h.len]
 most := Nat.le_trans (List.length_eraseIdx_le ..) h.most
 nd := h.nd.sublist (List.eraseIdx_sublist ..)
 rng := fun w hw => h.rng w ((List.eraseIdx_sublist ..).subset hw)
 wf := fun w hw => h.wf w ((List.eraseIdx_sublist ..).subset hw)
 apart := fun a b x y hab hx hy => by
  rw [List.getElem?_eraseIdx] at hx hy
  split at hx <;> split at hy
  ·exact h.apart a b x y hab hx hy
  ·omega
  ·exact h.apart (a + 1) b x y (by omega) hx hy
  ·exact h.apart (a + 1) (b + 1) x y (by omega) hx hy
theorem Held.drop {n : Nat} {o : List (Int × List Region)} {who : List Int} {what : List (List Region)} (h : Held n o who what) (t : Int) :
  (t ∉ who ∧ z10 { held := o } t = (false, { held := o })) ∨ (∃ i, who[i]? = some t ∧ z10 { held := o } t = (true, { held := o.eraseIdx i })) := by
 rw [z10]
 dsimp only
 have hk := h.keys
 cases h1 : hasM t o with
 | false =>
  have hn := hasM_false h1
  refine .inl ⟨by rw [← hk]; exact hn, ?_⟩
  rw [delM, posM_none hn, List.eraseIdx_of_length_le (Nat.le_refl _)]
 | true =>
  have hm := hasM_true h1
  obtain ⟨p, hp, he⟩ := List.mem_map.1 hm
  obtain ⟨i, hi⟩ := List.mem_iff_getElem?.1 hp
  refine .inr ⟨i, ?_, ?_⟩
  ·rw [← hk, List.getElem?_map, hi, Option.map_some, he]
  ·rw [delM, posM_at (by rw [hk]; exact h.nd) hi he]
theorem slice_lo {α : Type} {l : List α} {i : Nat} (hi : i ≤ l.length) : sliceO l none (some ((i : Nat) : Int)) none = some (l.take i) := by
 unfold sliceO
 rw [if_pos ⟨by simp, by simp, by simpa using hi, .inl rfl⟩]
 simp
theorem slice_hi {α : Type} {l : List α} {i : Nat} (hi : i ≤ l.length) : sliceO l (some ((i : Nat) : Int)) none none = some (l.drop i) := by
 unfold sliceO
 rw [if_pos ⟨by simp, by simpa using hi, by simp, .inl rfl⟩]
 simp only [Option.getD_some, Option.getD_none, Int.toNat_natCast]
 rw [List.take_of_length_le (by rw [List.length_drop]; omega)]
def Small (what : List (List Region)) : Prop := ∀ r ∈ what, r.length ≤ 10
theorem idx_unique {l : List Int} (hn : l.Nodup) {i j : Nat} {t : Int} (h1 : l[i]? = some t) (h2 : l[j]? = some t) : i = j := by
 obtain ⟨a1, a2⟩ := List.getElem?_eq_some_iff.1 h1
 obtain ⟨b1, b2⟩ := List.getElem?_eq_some_iff.1 h2
 exact (List.getElem_inj hn).1 (a2.trans b2.symm)
theorem plays_l0 : ∀ (l : List Act) (n : Nat) (o : List (Int × List Region)) (who : List Int) (what : List (List Region)), Held n o who what → Small what → (∀ a ∈ l, Act.wf a) → n + l.length ≤ 1000 →
  ∃ o' who' what', z3_l0s l o who what = some (.inl (o', who', what')) ∧ Held (n + l.length) o' who' what' ∧ Small what'
 | [], n, o, who, what, h, hs, _, _ => ⟨o, who, what, rfl, h, hs⟩
 | x :: rest, n, o, who, what, h, hs, hw, hn => by
  rw [List.length_cons] at hn
  have wx := hw x List.mem_cons_self
  have hrest := fun a ha => hw a (List.mem_cons_of_mem x ha)
  have hm := h.most
  have hlen := h.len
  have same : ∀ o who what, Held n o who what → Small what → ∃ o' who' what', z3_l0s rest o who what = some (.inl (o', who', what')) ∧ Held (n + (x :: rest).length) o' who' what' ∧ Small what' := by
   intro o who what h hs
   obtain ⟨o', who', what', e, H, S⟩ := plays_l0 rest n o who what h hs hrest (by omega)
   exact ⟨o', who', what', e, H.more (by rw [List.length_cons]; omega), S⟩
  rw [z3_l0s]
  cases hc : decide ((((List.map Region.av x.R).length : Nat) : Int) > 10) with
  | true => exact same o who what h hs
  | false =>
   rw [decide_eq_false_iff_not, List.length_map] at hc
   have e1 := plays_l1 h x wx who 0 (-1) 0 rfl (.inl rfl)
   rw [if_pos rfl, List.drop_zero] at e1
   rw [cond_false, e1, Option.bind_some]
   unfold letT
   dsimp only
   cases hD : x.Drop with
   | true =>
    rw [cond_true]
    rcases h.drop x.Txn with ⟨hni, e2⟩ | ⟨i, hi, e2⟩
    ·rw [e2, atF_none _ _ _ _ hni]
     exact same o who what h hs
    ·obtain ⟨j, hj, hat⟩ := atF_some x.Txn who 0 (-1) h.nd (List.mem_iff_getElem?.2 ⟨i, hi⟩)
     have hij := idx_unique h.nd hi hj
     subst hij
     rw [Nat.zero_add] at hat
     have hlt : i < who.length := (List.getElem?_eq_some_iff.1 hi).1
     rw [e2, hat, decide_eq_true (show ((i : Nat) : Int) ≥ 0 by omega), bne_self_eq_false, cond_false, cond_true]
     rw [wrapI_succ (by omega), slice_lo (Nat.le_of_lt hlt), slice_hi (show i + 1 ≤ who.length by omega), slice_lo (show i ≤ what.length by omega), slice_hi (show i + 1 ≤ what.length by omega)]
     simp only [Option.bind_some]
     have t1 : (who.take i).length ≤ who.length := by rw [List.length_take]; omega
     have t2 : (who.drop (i + 1)).length ≤ who.length := by rw [List.length_drop]; omega
     have t3 : (what.take i).length ≤ what.length := by rw [List.length_take]; omega
     have t4 : (what.drop (i + 1)).length ≤ what.length := by rw [List.length_drop]; omega
     rw [fitM (by rw [List.length_nil]; omega), fitM (by rw [List.nil_append]; omega), fitM (by rw [List.length_nil]; omega), fitM (by rw [List.nil_append]; omega), List.nil_append, List.nil_append, ← List.eraseIdx_eq_take_drop_succ, ← List.eraseIdx_eq_take_drop_succ]
     exact same _ _ _ (h.erase i) fun r hr => hs r ((List.eraseIdx_sublist ..).subset hr)
   | false =>
    rw [cond_false]
    have hany : ∀ {b : Bool}, (what.any fun y => z17 x.R y) = b → (if (what.any fun y => z17 x.R y) = true then (9 : Int) else 0) = bif b then 9 else 0 := by
     intro b hb
     rw [hb]
     cases b <;> rfl
    rcases h.take (act_rng wx) (act_regs wx) with ⟨hin, e⟩ | ⟨hni, ⟨y, hy, hT⟩, e⟩ | ⟨hni, hall, e, H⟩
    ·obtain ⟨i, hi⟩ := List.mem_iff_getElem?.1 hin
     obtain ⟨j, hj, hat⟩ := atF_some x.Txn who 0 (-1) h.nd hin
     rw [e, hat, decide_eq_true (show ((0 + j : Nat) : Int) ≥ 0 by omega)]
     exact same o who what h hs
    ·rw [e, atF_none _ _ _ _ hni, hany (List.any_eq_true.2 ⟨y, hy, hT⟩)]
     exact same o who what h hs
    ·rw [e, atF_none _ _ _ _ hni, hany (b := false) (List.any_eq_false.2 fun y hy => by rw [hall y hy]; decide)]
     show ∃ o' who' what', fitO (who.length + [x.Txn].length) 8 (fitO (what.length + [x.R].length) 24 (z3_l0s rest (o ++ [(x.Txn, x.R)]) (who ++ [x.Txn]) (what ++ [x.R]))) = some (Sum.inl (o', who', what')) ∧ Held (n + (x :: rest).length) o' who' what' ∧ Small what'
     rw [fitM (by simp; omega), fitM (by simp; omega)]
     obtain ⟨o', who', what', e', H', S'⟩ := plays_l0 rest (n + 1) _ _ _ H (fun r hr => by
      rcases List.mem_append.1 hr with hr | hr
      ·exact hs r hr
      ·rw [List.mem_singleton.1 hr]; omega) hrest (by omega)
     exact ⟨o', who', what', e', H'.more (by rw [List.length_cons]; omega), S'⟩
def hasQ (unit : Int) (h1 : List Int) (r : List Region) : Bool := r.any fun y => (y.Unit == unit) && refHasP y.Cube h1
theorem plays_l3 (unit : Int) (h1 : List Int) (v1 : (List (Int × (List Region))) × (List Int) × (List (List Region))) (i : Nat) (r : List Region) (hr : v1.2.2[i]? = some r) (hl : r.length ≤ 10) : ∀ (m k : Nat) (has : Bool), r.length < m + k → k ≤ r.length →
  z3_l3 unit h1 v1 i m has ((k : Nat) : Int) = some (has || hasQ unit h1 (r.drop k))
 | 0, k, has, h, hk => by omega
 | m + 1, k, has, h, hk => by
  rw [z3_l3, ixO_at hr, Option.bind_some, List.length_map]
  by_cases hlt : k < r.length
  ·have ih := fun has => plays_l3 unit h1 v1 i r hr hl m (k + 1) has (by omega) (by omega)
   rw [decide_eq_true (show ((k : Nat) : Int) < ((r.length : Nat) : Int) by omega), cond_true, wrapI_succ (by omega), ixO_at (List.getElem?_eq_getElem hlt), Option.bind_some, Option.bind_some, List.drop_eq_getElem_cons hlt]
   unfold hasQ
   rw [List.any_cons]
   cases has with
   | true => rw [cond_true, ih]; simp
   | false =>
    rw [cond_false]
    cases hu : r[k].Unit == unit with
    | true =>
     rw [cond_true, ih]
     unfold hasQ
     simp
    | false =>
     rw [cond_false, ih]
     unfold hasQ
     simp
  ·rw [decide_eq_false (show ¬ ((k : Nat) : Int) < ((r.length : Nat) : Int) by omega), List.drop_eq_nil_of_le (by omega)]
   unfold hasQ
   simp
theorem plays_l4 (x : Int) (a : Int) (b : Bool) : ∀ (l : List Int) (c : Bool), z3_l4s x a b l c = (a, b, c || l.any fun y => y == x)
 | [], c => by rw [z3_l4s]; simp
 | y :: l, c => by rw [z3_l4s, plays_l4 x a b l, List.any_cons, Bool.or_assoc]
structure Least (unit : Int) (h1 : List Int) (who : List Int) (what : List (List Region)) (i : Nat) (least : Int) (held : Bool) : Prop where
 no : held = false → least = 0 ∧ ∀ j : Nat, j < i → ∀ r, what[j]? = some r → hasQ unit h1 r = false
 yes : held = true → (∃ (j : Nat) (r : List Region), who[j]? = some least ∧ what[j]? = some r ∧ hasQ unit h1 r = true) ∧ ∀ j : Nat, j < i → ∀ w r, who[j]? = some w → what[j]? = some r → hasQ unit h1 r = true → least ≤ w
theorem plays_l2 {n : Nat} {o : List (Int × List Region)} {who : List Int} {what : List (List Region)} (H : Held n o who what) (hs : Small what) (unit : Int) (h1 : List Int) (v2 : (List Int) × Locks) (hv2 : v2.1 = sortK who) : ∀ (l : List Int) (i : Nat) (least : Int) (held : Bool), who.drop i = l → Least unit h1 who what i least held →
  ∃ least' held', z3_l2s 20 unit h1 (o, who, what) v2 l i least held = some (.inl (least', held')) ∧ Least unit h1 who what who.length least' held'
 | [], i, least, held, hd, L => by
  have hge : who.length ≤ i := List.drop_eq_nil_iff.1 hd
  refine ⟨least, held, rfl, ⟨fun hh => ⟨(L.no hh).1, fun j hj => (L.no hh).2 j (by omega)⟩, fun hh => ⟨(L.yes hh).1, fun j hj => (L.yes hh).2 j (by omega)⟩⟩⟩
 | x :: rest, i, least, held, hd, L => by
  have hlt : i < who.length := by
   rcases Nat.lt_or_ge i who.length with h1 | h1
   ·exact h1
   ·rw [List.drop_eq_nil_of_le h1] at hd; cases hd
  have hlw : i < what.length := by rw [← H.len]; exact hlt
  rw [List.drop_eq_getElem_cons hlt] at hd
  injection hd with h2 h3
  have hwi : who[i]? = some x := by rw [List.getElem?_eq_getElem hlt, h2]
  have hri : what[i]? = some what[i] := List.getElem?_eq_getElem hlw
  have hsm := hs _ (List.getElem_mem hlw)
  have e3 := plays_l3 unit h1 (o, who, what) i what[i] hri hsm 20 0 false (by omega) (Nat.zero_le _)
  have e3 : z3_l3 unit h1 (o, who, what) i 20 false 0 = some (hasQ unit h1 what[i]) := by
   rw [List.drop_zero, Bool.false_or] at e3
   exact e3
  rw [z3_l2s, e3, Option.bind_some]
  unfold letT
  dsimp only
  rw [plays_l4, hv2]
  have hin : ((sortK who).any fun y => y == x) = true := by
   rw [List.any_eq_true]
   refine ⟨x, ?_, beq_self_eq_true _⟩
   unfold sortK
   rw [List.mem_mergeSort]
   exact List.mem_iff_getElem?.2 ⟨i, hwi⟩
  rw [hin]
  dsimp only
  rw [Bool.or_true, Bool.not_true, cond_false]
  refine plays_l2 H hs unit h1 v2 hv2 rest (i + 1) _ _ h3 ?_
  have split : ∀ j, j < i + 1 → j < i ∨ j = i := fun j hj => by omega
  cases hq : hasQ unit h1 what[i] with
  | false =>
   rw [Bool.false_and, cond_false, Bool.false_or]
   refine ⟨fun hh => ⟨(L.no hh).1, fun j hj r hr => ?_⟩, fun hh => ⟨(L.yes hh).1, fun j hj w r hw hr hh2 => ?_⟩⟩
   ·rcases split j hj with hj | rfl
    ·exact (L.no hh).2 j hj r hr
    ·rw [hri] at hr; injection hr with hr; rw [← hr]; exact hq
   ·rcases split j hj with hj | rfl
    ·exact (L.yes hh).2 j hj w r hw hr hh2
    ·rw [hri] at hr; injection hr with hr; rw [← hr, hq] at hh2; cases hh2
  | true =>
   cases hh : held with
   | false =>
    rw [Bool.not_false, Bool.true_or, Bool.true_and, cond_true, Bool.true_or]
    refine ⟨fun hx => (by cases hx), fun _ => ⟨⟨i, what[i], hwi, hri, hq⟩, fun j hj w r hw hr hh2 => ?_⟩⟩
    rcases split j hj with hj | rfl
    ·have := (L.no hh).2 j hj r hr
     rw [this] at hh2; cases hh2
    ·rw [hwi] at hw; injection hw with hw; omega
   | true =>
    obtain ⟨y1, y2⟩ := L.yes hh
    rw [Bool.not_true, Bool.false_or, Bool.true_and, Bool.or_true]
    by_cases hx : x < least
    ·rw [decide_eq_true hx, cond_true]
     refine ⟨fun hx => (by cases hx), fun _ => ⟨⟨i, what[i], hwi, hri, hq⟩, fun j hj w r hw hr hh2 => ?_⟩⟩
     rcases split j hj with hj | rfl
     ·have := y2 j hj w r hw hr hh2
      omega
     ·rw [hwi] at hw; injection hw with hw; omega
    ·rw [decide_eq_false hx, cond_false]
     refine ⟨fun hx => (by cases hx), fun _ => ⟨y1, fun j hj w r hw hr hh2 => ?_⟩⟩
     rcases split j hj with hj | rfl
     ·exact y2 j hj w r hw hr hh2
     ·rw [hwi] at hw; injection hw with hw; omega
theorem holder_l0 (unit : Int) (h1 : List Int) (v : (List Int) × Locks) : ∀ l : List Int, z14_l0s unit h1 v l = match l.find? (fun x => (getM x [] v.2.held).any fun y => z24 y unit h1) with | some x => .inr (x, true, v.2) | none => .inl ()
 | [] => rfl
 | x :: rest => by
  rw [z14_l0s, z26_any, List.find?_cons, holder_l0 unit h1 v rest]
  cases (getM x [] v.2.held).any fun y => z24 y unit h1 <;> rfl
theorem Held.get {n : Nat} {o : List (Int × List Region)} {who : List Int} {what : List (List Region)} (h : Held n o who what) {j : Nat} {w : Int} {r : List Region} (hw : who[j]? = some w) (hr : what[j]? = some r) : getM w [] o = r := by
 have ho : o[j]? = some (w, r) := by
  rw [h.zip, List.getElem?_zip_eq_some]
  exact ⟨hw, hr⟩
 have hp := posM_at (t := w) (by rw [h.keys]; exact h.nd) ho rfl
 have := posM_look w o
 rw [hp, ho] at this
 unfold getM
 rw [← this]
 rfl
theorem Held.has {n : Nat} {o : List (Int × List Region)} {who : List Int} {what : List (List Region)} (h : Held n o who what) (unit : Int) {h1 : List Int} (wh : arrW .u64 12 h1) {j : Nat} {w : Int} {r : List Region} (hw : who[j]? = some w) (hr : what[j]? = some r) : ((getM w [] o).any fun y => z24 y unit h1) = hasQ unit h1 r := by
 rw [h.get hw hr]
 unfold hasQ
 have hwf := h.wf r (List.mem_iff_getElem?.2 ⟨j, hr⟩)
 clear hr
 induction r with
 | nil => rfl
 | cons y rest ih =>
  rw [List.any_cons, List.any_cons, ih fun z hz => hwf z (List.mem_cons_of_mem _ hz)]
  rw [z24, cube_Has_eq (hwf y List.mem_cons_self).2 wh]
theorem LockPlays_true (x0 : List Act) (x1 : Int) (x2 : List Int) (w0 : ∀ y ∈ x0, Act.wf y) (w1 : intW .i64 x1) (w2 : arrW .u64 12 x2) (l0 : x0.length * 40 ≤ 140737488355328) : ∃ q3, z3_raw q3 x0 x1 x2 = some true := by
 refine ⟨20, ?_⟩
 rw [z3_raw, List.length_map]
 cases hc : decide ((((x0.length : Nat) : Int)) > 40) with
 | true => rfl
 | false =>
  rw [decide_eq_false_iff_not] at hc
  obtain ⟨o, who, what, e, H, hs⟩ := plays_l0 x0 0 [] [] [] Held.nil (fun r hr => by cases hr) w0 (by omega)
  have e : z3_l0s x0 lock_New.held [] [] = some (.inl (o, who, what)) := e
  have hA : z12_raw { held := o } = some (sortK who, { held := o }) := by
   rw [z12_raw, H.ok (by omega), cond_true, H.keys]
  obtain ⟨least, held, e2, L⟩ := plays_l2 H hs x1 x2 (sortK who, { held := o }) rfl who 0 0 false rfl ⟨fun _ => ⟨rfl, fun j hj => by omega⟩, fun h => by cases h⟩
  rw [cond_false]
  unfold letT
  dsimp only
  rw [e]
  show ((z12_raw { held := o }).bind fun v2 => _) = some true
  rw [hA, Option.bind_some]
  dsimp only
  rw [e2]
  show ((z14_raw { held := o } x1 x2).bind fun v4 => _) = some true
  rw [z14_raw, hA, Option.bind_some, holder_l0]
  dsimp only
  rw [List.length_map, List.length_map, sortK_len, beq_self_eq_true]
  have hidx : ∀ x, x ∈ sortK who → ∃ (j : Nat) (r : List Region), who[j]? = some x ∧ what[j]? = some r ∧ ((getM x [] o).any fun y => z24 y x1 x2) = hasQ x1 x2 r := by
   intro x hx
   unfold sortK at hx
   rw [List.mem_mergeSort] at hx
   obtain ⟨j, hj⟩ := List.mem_iff_getElem?.1 hx
   have hlt : j < what.length := by rw [← H.len]; exact (List.getElem?_eq_some_iff.1 hj).1
   exact ⟨j, what[j], hj, List.getElem?_eq_getElem hlt, H.has x1 w2 hj (List.getElem?_eq_getElem hlt)⟩
  have hjl : ∀ {j : Nat} {x : Int}, who[j]? = some x → j < who.length := fun h => (List.getElem?_eq_some_iff.1 h).1
  cases hf : (sortK who).find? (fun x => (getM x [] o).any fun y => z24 y x1 x2) with
  | none =>
   rw [List.find?_eq_none] at hf
   have hh : held = false := by
    cases hh : held with
    | false => rfl
    | true =>
     exfalso
     obtain ⟨⟨j, r, hj, hr, hq⟩, _⟩ := L.yes hh
     refine hf least ?_ ?_
     ·unfold sortK
      rw [List.mem_mergeSort]
      exact List.mem_iff_getElem?.2 ⟨j, hj⟩
     ·rw [H.has x1 w2 hj hr]; exact hq
   rw [hh, (L.no hh).1]
   rfl
  | some x =>
   obtain ⟨hx, pre, post, hsplit, has⟩ := List.find?_eq_some_iff_append.1 hf
   have hxm : x ∈ sortK who := by rw [hsplit]; simp
   obtain ⟨j, r, hj, hr, hq⟩ := hidx x hxm
   rw [hq] at hx
   have hh : held = true := by
    cases hh : held with
    | true => rfl
    | false =>
     exfalso
     have := (L.no hh).2 j (hjl hj) r hr
     rw [this] at hx
     cases hx
   obtain ⟨⟨j2, r2, hj2, hr2, hq2⟩, hmin⟩ := L.yes hh
   have h1 : least ≤ x := hmin j (hjl hj) x r hj hr hx
   have h2 : x ≤ least := by
    have hlm : least ∈ pre ++ x :: post := by
     rw [← hsplit]
     unfold sortK
     rw [List.mem_mergeSort]
     exact List.mem_iff_getElem?.2 ⟨j2, hj2⟩
    have hsort : (pre ++ x :: post).Pairwise (fun a b : Int => decide (a ≤ b) = true) := by
     rw [← hsplit]
     unfold sortK
     exact List.pairwise_mergeSort (fun a b c h1 h2 => by rw [decide_eq_true_eq] at *; omega) (fun a b => by rw [Bool.or_eq_true, decide_eq_true_eq, decide_eq_true_eq]; omega) who
    rcases List.mem_append.1 hlm with hlm | hlm
    ·exfalso
     have := has least hlm
     rw [H.has x1 w2 hj2 hr2, hq2] at this
     cases this
    ·rcases List.mem_cons.1 hlm with e | hlm
     ·omega
     ·have := (List.pairwise_cons.1 (List.pairwise_append.1 hsort).2.1).1 least hlm
      simpa using this
   have : x = least := by omega
   subst this
   rw [hh]
   show some ((true && (x == x)) && ((true : Bool) == true)) = some true
   rw [beq_self_eq_true]
   rfl
end Go.Proofs.Ytamgbggpbehflaa