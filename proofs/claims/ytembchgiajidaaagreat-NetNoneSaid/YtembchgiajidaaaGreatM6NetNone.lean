import Derived.Test.YtembchgiajidaaaGreatM5NetNone
set_option linter.unusedVariables false
set_option linter.unusedSimpArgs false
set_option maxRecDepth 100000
set_option maxHeartbeats 4000000
namespace Go.Proofs.YtembchgiajidaaaGreat
open Go.Sh
end Go.Proofs.YtembchgiajidaaaGreat
namespace Go.Proofs.YtembchgiajidaaaGreat
open Go.Sh
def mod0 : Mod := { Kind := 0, Match := { Value := [0, 0, 0, 0, 0, 0, 0, 0, 0, 0, 0, 0], Care := [0, 0, 0, 0, 0, 0, 0, 0, 0, 0, 0, 0] }, Prio := 0, Acts := [], Idle := 0, Hard := 0, Owner := 0, Check := false }
def msg0 (k id : Int) : Msg := { Kind := k, Txn := id, E := 0, Mod := mod0, Port := 0, Head := [0, 0, 0, 0, 0, 0, 0, 0, 0, 0, 0, 0], Rules := [] }
end Go.Proofs.YtembchgiajidaaaGreat
namespace Go.Proofs.YtembchgiajidaaaGreat
open Go.Sh
inductive MsgOk (m : Msg) : Prop
 | mod : m.Kind = 1 → m = { msg0 1 m.Txn with Mod := m.Mod } → z129 m.Mod = true → MsgOk m
 | err : m.Kind = 6 → m = { msg0 6 m.Txn with E := m.E } → 1 ≤ m.E → m.E ≤ 17 → MsgOk m
 | pkt : m.Kind = 8 → m = { msg0 8 m.Txn with Port := m.Port, Head := m.Head } → 1 ≤ m.Port → m.Port ≤ 16 → z47 m.Head = true → MsgOk m
 | rul : m.Kind = 9 ∨ m.Kind = 10 → m = { msg0 m.Kind m.Txn with Rules := m.Rules } → tableR m.Rules = true → (m.Kind = 10 ∨ m.Rules.length = 1) → MsgOk m
 | bare : m.Kind ≠ 1 → m.Kind ≠ 6 → m.Kind ≠ 8 → m.Kind ≠ 9 → m.Kind ≠ 10 → m = msg0 m.Kind m.Txn → 1 ≤ m.Kind → m.Kind ≤ 10 → MsgOk m
end Go.Proofs.YtembchgiajidaaaGreat
namespace Go.Proofs.YtembchgiajidaaaGreat
open Go.Sh
abbrev roomW : Nat := 140737488355328
def WrS (G : Writer → Option Writer) (e : List Int) : Prop := ∀ w : Writer, w.b.length + e.length + 8 ≤ roomW → G w = some ⟨w.b ++ e⟩
theorem wr_put (n : Int) (k : Nat) (hk : k ≤ 8) : WrS (fun w => putW w n (k : Int)) (beB n k) := by
 intro w h
 dsimp only
 have h' : w.b.length + (beB n k).length + 8 ≤ 140737488355328 := h
 rw [putW, if_pos ⟨by omega, by omega, by omega⟩, Int.toNat_natCast]
theorem w1 (n : Int) : WrS (fun w => putW w n 1) (beB n 1) := wr_put n 1 (by decide)
theorem w2 (n : Int) : WrS (fun w => putW w n 2) (beB n 2) := wr_put n 2 (by decide)
theorem w4 (n : Int) : WrS (fun w => putW w n 4) (beB n 4) := wr_put n 4 (by decide)
theorem w8 (n : Int) : WrS (fun w => putW w n 8) (beB n 8) := wr_put n 8 (by decide)
end Go.Proofs.YtembchgiajidaaaGreat
namespace Go.Proofs.YtembchgiajidaaaGreat
open Go.Sh
end Go.Proofs.YtembchgiajidaaaGreat
namespace Go.Proofs.YtembchgiajidaaaGreat
open Go.Sh
end Go.Proofs.YtembchgiajidaaaGreat
namespace Go.Proofs.YtembchgiajidaaaGreat
open Go.Sh
structure Pipe_byte where
 ch : Ch (List Int)
 deriving DecidableEq, Inhabited
noncomputable def z27_F : Go.Sh.Fn := ⟨27, bodyOf Tryz.f27, 9⟩
def z27_raw (most : Int) : Option (Pipe_byte) :=
 reqO (decide (0 ≤ (if 4096 < (if 0 > most then 0 else most) then 4096 else (if 0 > most then 0 else most))) && decide ((if 4096 < (if 0 > most then 0 else most) then 4096 else (if 0 > most then 0 else most)) ≤ 9223372036854775807) && decide ((if 4096 < (if 0 > most then 0 else most) then 4096 else (if 0 > most then 0 else most)) * 24 ≤ 281474976710544)) (
 some ({ ch := ⟨(if 4096 < (if 0 > most then 0 else most) then 4096 else (if 0 > most then 0 else most)).toNat, ([] : List (List Int))⟩ } : Pipe_byte))
theorem z27_walk (most : Int) (r : Pipe_byte) (H : z27_raw most = some r) : ACalls Tryz.prog tab.S 27 [.sc (.int .i64 most)] [] (.ptr 0 0 none) [.box 140 [.ref chanK 1], .vals (.chan r.ch.cap) (List.map (slA 5 (intA .u8)) r.ch.buf)] := by
 refine .of_AX z27_F Tryz.func27 fun c0 hc0 => ?_
 rw [z27_raw] at H
 refine .sg 3 [0] (.rg (.sg 3 [5] (reqH H fun hreq H => (.mc [6] (j := (if 4096 < (if 0 > most then 0 else most) then 4096 else (if 0 > most then 0 else most))) (by_ := 24) hreq (.sg 3 [2] (.dn ?_))))))
 obtain rfl := Option.some.inj H
 exact .ret Tryz.func27 hc0 [1,0]
noncomputable def z29_F : Go.Sh.Fn := ⟨29, bodyOf Tryz.f29, 15⟩
def z29 (p : Pipe_byte) (x : List Int) : Bool × Pipe_byte :=
 (bif ((bif (decide (p.ch.buf.length < p.ch.cap)) then 0 else (-1)) == 0) then
  (true, ({ ch := ⟨p.ch.cap, (bif (decide (p.ch.buf.length < p.ch.cap)) then p.ch.buf ++ [x] else p.ch.buf)⟩ } : Pipe_byte))
 else
  (false, ({ ch := ⟨p.ch.cap, (bif (decide (p.ch.buf.length < p.ch.cap)) then p.ch.buf ++ [x] else p.ch.buf)⟩ } : Pipe_byte)))
theorem z29_walk (p : Pipe_byte) (x : List Int) (f_x : Bool) (r : Bool × Pipe_byte) (H : z29 p x = r) : ACalls Tryz.prog tab.S 29 [.ptr 0 0 none, .sl 5 (List.map (intA .u8) x) f_x] [.box 140 [.ref chanK 1], .vals (.chan p.ch.cap) (List.map (slA 5 (intA .u8)) p.ch.buf)] (.sc (.bool r.1)) [.box 140 [.ref chanK 1], .vals (.chan r.2.ch.cap) (List.map (slA 5 (intA .u8)) r.2.ch.buf)] := by
 refine .of_AX z29_F Tryz.func29 fun c0 hc0 => ?_
 rw [z29] at H
 refine .sg 12 [10,11] (.wk 11 [(0, false)] (.snd (slA 5 (intA .u8)) p.ch.buf p.ch.cap x (.sg 2 [14] (.dn (.sg 1 [14] (.cd ((bif (decide (p.ch.buf.length < p.ch.cap)) then 0 else (-1)) == 0) H (fun hb H => ?_) (fun hb H => ?_)))))))
 ·
  refine .sg 2 [4] ?_
  subst H
  exact .ret Tryz.func29 hc0 [0,1]
 ·
  refine .sg 2 [4] ?_
  subst H
  exact .ret Tryz.func29 hc0 [0,1]
noncomputable def z35_F : Go.Sh.Fn := ⟨35, bodyOf Tryz.f35, 19⟩
def z35 (p : Pipe_byte) : (List Int) × Bool × Pipe_byte :=
 (bif ((bif p.ch.buf.isEmpty then (-1) else 0) == 0) then
  ((p.ch.buf.headD []), true, ({ ch := ⟨p.ch.cap, p.ch.buf.tail⟩ } : Pipe_byte))
 else
  ([], false, ({ ch := ⟨p.ch.cap, p.ch.buf.tail⟩ } : Pipe_byte)))
theorem z35_walk (p : Pipe_byte) (r : (List Int) × Bool × Pipe_byte) (H : z35 p = r) : ACalls Tryz.prog tab.S 35 [.ptr 0 0 none] [.box 140 [.ref chanK 1], .vals (.chan p.ch.cap) (List.map (slA 5 (intA .u8)) p.ch.buf)] (.tup [.sl 5 (List.map (intA .u8) r.1) false, .sc (.bool r.2.1)]) [.box 140 [.ref chanK 1], .vals (.chan r.2.2.ch.cap) (List.map (slA 5 (intA .u8)) r.2.2.ch.buf)] := by
 refine .of_AX z35_F Tryz.func35 fun c0 hc0 => ?_
 rw [z35] at H
 refine .sg 12 [4,12] (.rcv (ds := [(5, false)]) (slA 5 (intA .u8)) p.ch.buf [] (fun _ => rfl) (.sg 2 [4,13,15] (.dn (.sg 1 [4,13,15] (.cd ((bif p.ch.buf.isEmpty then (-1) else 0) == 0) H (fun hb H => ?_) (fun hb H => ?_))))))
 ·
  refine .sg 4 [2,3] ?_
  subst H
  exact .ret Tryz.func35 hc0 [0,1]
 ·
  refine .sg 2 [2,3] ?_
  subst H
  exact .ret Tryz.func35 hc0 [0,1] [(5, false)]
noncomputable def z34_F : Go.Sh.Fn := ⟨34, bodyOf Tryz.f34, 10⟩
def z34 (p : Pipe_byte) : Int × Pipe_byte :=
 ((((List.map (slA 5 (intA .u8)) p.ch.buf).length : Nat) : Int), p)
theorem z34_walk (p : Pipe_byte) (r : Int × Pipe_byte) (H : z34 p = r) : ACalls Tryz.prog tab.S 34 [.ptr 0 0 none] [.box 140 [.ref chanK 1], .vals (.chan p.ch.cap) (List.map (slA 5 (intA .u8)) p.ch.buf)] (.sc (.int .i64 r.1)) [.box 140 [.ref chanK 1], .vals (.chan r.2.ch.cap) (List.map (slA 5 (intA .u8)) r.2.ch.buf)] := by
 refine .of_AX z34_F Tryz.func34 fun c0 hc0 => ?_
 rw [z34] at H
 refine .sg 8 [0] (.rg (.sg 4 [8] (.lc [9] (.sg 1 [2] (.dn ?_)))))
 subst H
 exact .ret Tryz.func34 hc0 [0,1]
end Go.Proofs.YtembchgiajidaaaGreat
namespace Go.Proofs.YtembchgiajidaaaGreat
open Go.Sh
theorem kl_End : KL Tryz.prog tab.S 56 End.av (fun e : End => .agg ([Value.int .i64 e.Unit, Value.int .i64 e.Port]).toArray) :=
 kl_agg (m := 2) (fun e : End => [Value.int .i64 e.Unit, Value.int .i64 e.Port]) (ls := [0, 0]) (fs := Tryz.prog.fieldsOf 56) (by kernel_rfl) (by decide) (by kernel_rfl) (by kernel_rfl) (fun k => rfl)
  (fun (k : End) v hv => by
   rcases List.mem_cons.1 hv with rfl | hv
   ·rfl
   ·rw [List.mem_singleton] at hv
    subst hv
    rfl)
  (fun (k k' : End) => by
   have e : cmpKL [0, 0] [Value.int .i64 k.Unit, Value.int .i64 k.Port] [Value.int .i64 k'.Unit, Value.int .i64 k'.Port] = some ((k.Unit == k'.Unit) && ((k.Port == k'.Port) && true)) := rfl
   rw [e]
   obtain ⟨u, p⟩ := k
   obtain ⟨u', p'⟩ := k'
   congr 1
   rw [Bool.eq_iff_iff]
   simp [End.mk.injEq])
noncomputable def topo_end_F : Go.Sh.Fn := ⟨61, bodyOf Tryz.f61, 27⟩
def topo_end (s : Setup) (e1 : End) : Bool :=
 ((((decide (e1.Unit ≥ 0)) && (decide (e1.Unit < s.Units))) && (decide (e1.Port ≥ 1))) && (decide (e1.Port ≤ s.Ports)))
theorem topo_end_calls (s : Setup) (e1 : End) : ACalls Tryz.prog tab.S 61 [Setup.av s, End.av e1] [] (.sc (.bool (topo_end s e1))) [] := by
 generalize H : topo_end s e1 = r
 refine .of_AX topo_end_F Tryz.func61 fun c0 hc0 => ?_
 rw [topo_end] at H
 refine .sg 3 [2,3] (.rg (.sg 4 [2,3,8] (.mx 0 [2,3,14] (.sg 1 [2,3,15] (.mx 0 [2,3,19] (.sg 1 [2,3,20] (.mx 0 [26] (.sg 1 [4] (.dn ?_)))))))))
 subst H
 exact .ret Tryz.func61 hc0
noncomputable def z60_F : Go.Sh.Fn := ⟨60, bodyOf Tryz.f60, 15⟩
def z60 (n : Int) (low : Int) (high : Int) : Bool :=
 ((decide (n ≥ low)) && (decide (n ≤ high)))
theorem z60_calls (n : Int) (low : Int) (high : Int) : ACalls Tryz.prog tab.S 60 [.sc (.int .i64 n), .sc (.int .i64 low), .sc (.int .i64 high)] [] (.sc (.bool (z60 n low high))) [] := by
 generalize H : z60 n low high = r
 refine .of_AX z60_F Tryz.func60 fun c0 hc0 => ?_
 rw [z60] at H
 refine .sg 3 [0,1,2] (.rg (.sg 4 [0,2,10] (.mx 0 [14] (.sg 1 [6] (.dn ?_)))))
 subst H
 exact .ret Tryz.func60 hc0
noncomputable def z24_F : Go.Sh.Fn := ⟨24, bodyOf Tryz.f24, 69⟩
def z24_l0s (s : Setup) : List Link → List (End × Int) → Sum ((List (End × Int))) (Int)
 | [], o1 =>
  (.inl o1)
 | x :: rest, o1 =>
  (bif ((!(topo_end s x.A)) || (!(topo_end s x.B))) then
   (.inr 2)
  else
   (bif ((decide ((getM x.A 0 (putM x.B (IntKind.i64.wrap ((getM x.B 0 (putM x.A (IntKind.i64.wrap ((getM x.A 0 o1) + 1)) o1)) + 1)) (putM x.A (IntKind.i64.wrap ((getM x.A 0 o1) + 1)) o1))) > 1)) || (decide ((getM x.B 0 (putM x.B (IntKind.i64.wrap ((getM x.B 0 (putM x.A (IntKind.i64.wrap ((getM x.A 0 o1) + 1)) o1)) + 1)) (putM x.A (IntKind.i64.wrap ((getM x.A 0 o1) + 1)) o1))) > 1))) then
    (.inr 2)
   else
    z24_l0s s rest (putM x.B (IntKind.i64.wrap ((getM x.B 0 (putM x.A (IntKind.i64.wrap ((getM x.A 0 o1) + 1)) o1)) + 1)) (putM x.A (IntKind.i64.wrap ((getM x.A 0 o1) + 1)) o1))))
theorem z24_l0_walk (s : Setup) (r : Int) (c0 : Ctx) (hc0 : c0.m.length = 0) (res : Sum ((List (End × Int))) (Int)) (J : ∀ w : (List (End × Int)), res = .inl w → AX Tryz.prog tab z24_F c0 (Rp tab.S c0 (.sc (.int .i64 r)) []) (some ⟨[.code [1, 1, 1, 1]], [], [.box 30 (Setup.ch s), .vals .mapD (mapAV End.av (intA .i64) w)]⟩)) (Jr : ∀ w, res = .inr w → w = r) :
  ∀ (rest : List Link) (t26 : Nat) (z : Int) (hI : z = ((t26 : Nat) : Int)) (hd : s.Links.drop t26 = rest) (o1 : List (End × Int)) (H : z24_l0s s rest o1 = res), AX Tryz.prog tab z24_F c0 (Rp tab.S c0 (.sc (.int .i64 r)) []) (some ⟨[.code [1, 1, 1, 0, 1, 0, 0], .loop [1, 1, 1, 0, 1, 0], .blk 0, .code [1, 1, 1, 1]], [(1, .ptr 0 0 none), (3, .ref mapK 1), (24, .sl 58 (List.map Link.av s.Links) false), (25, .sc (.int .i64 (((List.map Link.av s.Links).length : Nat) : Int))), (26, .sc (.int .i64 z))], [.box 30 (Setup.ch s), .vals .mapD (mapAV End.av (intA .i64) o1)]⟩) := by
 intro rest
 induction rest with
 | nil =>
  intro t26 z hI hd o1 H
  subst hI
  rw [z24_l0s] at H
  refine .facts 24 fun hf => ?_
  have hlen : s.Links.length ≤ 9223372036854775807 := by have hq := len_ok hf.2.1; rw [List.length_map] at hq; exact hq
  have hge : s.Links.length ≤ t26 := List.drop_eq_nil_iff.1 hd
  have hc : (decide (((t26 : Nat) : Int) < (((List.map Link.av s.Links).length : Nat) : Int))) = false := by rw [List.length_map]; exact decide_eq_false (by omega)
  exact .sg 3 [1,3,24,25,26,27] (.cdF hc (.sg 1 [] (.kp [] (.to (J o1 H.symm)))))
 | cons x rest ih =>
  intro t26 z hI hd o1 H
  subst hI
  rw [z24_l0s] at H
  refine .facts 24 fun hf => ?_
  have hlen : s.Links.length ≤ 9223372036854775807 := by have hq := len_ok hf.2.1; rw [List.length_map] at hq; exact hq
  obtain ⟨hlt, hv_t26, hd2⟩ := drop_cons hd
  have hc : (decide (((t26 : Nat) : Int) < (((List.map Link.av s.Links).length : Nat) : Int))) = true := by rw [List.length_map]; exact decide_eq_true (by omega)
  have hw : IntKind.i64.wrap (((t26 : Nat) : Int) + 1) = ((t26 + 1 : Nat) : Int) := wrapI_succ (by omega)
  refine .sg 3 [1,3,24,25,26,27] (.cdT hc (.sg 4 [1,3,24,25,26] (.rg (.xi [1,3,24,25,26,28] Link.av hv_t26 (.sg 3 [1,3,5,24,25,26] (.dn (.sg 2 [1,3,5,24,25,26] (.rg (.sg 3 [1,3,5,24,25,26,30,32] (.cp [1,3,5,24,25,26,33] (topo_end_calls s x.A) (.sg 2 [1,3,5,24,25,26,35] (.mm 35 (!(topo_end s x.A)) 6 [.pure, .pure, .pure, .read, .pure, .read] [1, 3, 5, 24, 25, 26, 41] 41 (fun z => .sc (.bool (z || (!(topo_end s x.B))))) ?J9 (fun hb J => ?ht9) (fun hb J => ?hf9)))))))))))))
  case ht9 =>
   exact .sg 6 [1,3,5,24,25,26,41] (.cl J)
  case hf9 =>
   exact .sg 3 [1,3,5,24,25,26,35,36,38] (.cp [1,3,5,24,25,26,35,39] (topo_end_calls s x.B) (.sg 2 [1,3,5,24,25,26,41] (.cl J)))
  refine .dn (.cd ((!(topo_end s x.A)) || (!(topo_end s x.B))) H (fun hb H => ?_) (fun hb H => ?_))
  ·
   refine .sg 2 [2] ?_
   subst H
   obtain rfl := Jr _ rfl
   exact .ret Tryz.func24 hc0
  ·
   refine .sg 2 [1,3,5,24,25,26] (.rp hc0 [1, 3, 5, 24, 25, 26] [⟨3, [], [5], .read, [(42, .ref mapK 1), (44, End.av x.A)], [.box 30 (Setup.ch s), .vals .mapD (mapAV End.av (intA .i64) o1), .box 58 (Link.ch x)], .sc (.int .i64 (getM x.A 0 o1)), [.box 30 (Setup.ch s), .vals .mapD (mapAV End.av (intA .i64) o1), .box 58 (Link.ch x)]⟩, ⟨5, [], [], .loud, [(42, .ref mapK 1), (44, End.av x.A)], [.box 30 (Setup.ch s), .vals .mapD (mapAV End.av (intA .i64) o1), .box 58 (Link.ch x)], .tup [.sc (.int .i64 (getM x.A 0 o1)), .sc (.int .i64 ((posM x.A o1 : Nat) : Int))], [.box 30 (Setup.ch s), .vals .mapD (mapAV End.av (intA .i64) (entM x.A 0 o1)), .box 58 (Link.ch x)]⟩, ⟨7, [], [], .loud, [(42, .ref mapK 1), (46, .sc (.int .i64 (IntKind.i64.wrap ((getM x.A 0 o1) + 1)))), (48, .sc (.int .i64 ((posM x.A o1 : Nat) : Int)))], [.box 30 (Setup.ch s), .vals .mapD (mapAV End.av (intA .i64) (entM x.A 0 o1)), .box 58 (Link.ch x)], .u, [.box 30 (Setup.ch s), .vals .mapD (mapAV End.av (intA .i64) (putM x.A (IntKind.i64.wrap ((getM x.A 0 o1) + 1)) o1)), .box 58 (Link.ch x)]⟩, ⟨3, [5], [], .read, [(42, .ref mapK 1), (44, End.av x.A)], [.box 30 (Setup.ch s), .vals .mapD (mapAV End.av (intA .i64) (entM x.A 0 o1)), .box 58 (Link.ch x)], .sc (.int .i64 (getM x.A 0 o1)), [.box 30 (Setup.ch s), .vals .mapD (mapAV End.av (intA .i64) (entM x.A 0 o1)), .box 58 (Link.ch x)]⟩] [[0, 1, 2], [0, 1, 2]] (.cons (LQ.ml (intA .i64) kl_End (fun _ => rfl) o1 x.A 0 false) (.cons (LQ.me (intA .i64) kl_End (fun _ => rfl) o1 x.A 0 []) (.cons (LQ.es End.av (intA .i64) o1 x.A 0 (IntKind.i64.wrap ((getM x.A 0 o1) + 1))) (.cons (LQ.mlB (intA .i64) kl_End (fun _ => rfl) o1 x.A 0) .nil)))) (by kernel_rfl) (.sg 1 [1,3,5,24,25,26] (.rp hc0 [1, 3, 5, 24, 25, 26] [⟨3, [], [5], .read, [(49, .ref mapK 1), (51, End.av x.B)], [.box 30 (Setup.ch s), .vals .mapD (mapAV End.av (intA .i64) (putM x.A (IntKind.i64.wrap ((getM x.A 0 o1) + 1)) o1)), .box 58 (Link.ch x)], .sc (.int .i64 (getM x.B 0 (putM x.A (IntKind.i64.wrap ((getM x.A 0 o1) + 1)) o1))), [.box 30 (Setup.ch s), .vals .mapD (mapAV End.av (intA .i64) (putM x.A (IntKind.i64.wrap ((getM x.A 0 o1) + 1)) o1)), .box 58 (Link.ch x)]⟩, ⟨5, [], [], .loud, [(49, .ref mapK 1), (51, End.av x.B)], [.box 30 (Setup.ch s), .vals .mapD (mapAV End.av (intA .i64) (putM x.A (IntKind.i64.wrap ((getM x.A 0 o1) + 1)) o1)), .box 58 (Link.ch x)], .tup [.sc (.int .i64 (getM x.B 0 (putM x.A (IntKind.i64.wrap ((getM x.A 0 o1) + 1)) o1))), .sc (.int .i64 ((posM x.B (putM x.A (IntKind.i64.wrap ((getM x.A 0 o1) + 1)) o1) : Nat) : Int))], [.box 30 (Setup.ch s), .vals .mapD (mapAV End.av (intA .i64) (entM x.B 0 (putM x.A (IntKind.i64.wrap ((getM x.A 0 o1) + 1)) o1))), .box 58 (Link.ch x)]⟩, ⟨7, [], [], .loud, [(49, .ref mapK 1), (53, .sc (.int .i64 (IntKind.i64.wrap ((getM x.B 0 (putM x.A (IntKind.i64.wrap ((getM x.A 0 o1) + 1)) o1)) + 1)))), (55, .sc (.int .i64 ((posM x.B (putM x.A (IntKind.i64.wrap ((getM x.A 0 o1) + 1)) o1) : Nat) : Int)))], [.box 30 (Setup.ch s), .vals .mapD (mapAV End.av (intA .i64) (entM x.B 0 (putM x.A (IntKind.i64.wrap ((getM x.A 0 o1) + 1)) o1))), .box 58 (Link.ch x)], .u, [.box 30 (Setup.ch s), .vals .mapD (mapAV End.av (intA .i64) (putM x.B (IntKind.i64.wrap ((getM x.B 0 (putM x.A (IntKind.i64.wrap ((getM x.A 0 o1) + 1)) o1)) + 1)) (putM x.A (IntKind.i64.wrap ((getM x.A 0 o1) + 1)) o1))), .box 58 (Link.ch x)]⟩, ⟨3, [5], [], .read, [(49, .ref mapK 1), (51, End.av x.B)], [.box 30 (Setup.ch s), .vals .mapD (mapAV End.av (intA .i64) (entM x.B 0 (putM x.A (IntKind.i64.wrap ((getM x.A 0 o1) + 1)) o1))), .box 58 (Link.ch x)], .sc (.int .i64 (getM x.B 0 (putM x.A (IntKind.i64.wrap ((getM x.A 0 o1) + 1)) o1))), [.box 30 (Setup.ch s), .vals .mapD (mapAV End.av (intA .i64) (entM x.B 0 (putM x.A (IntKind.i64.wrap ((getM x.A 0 o1) + 1)) o1))), .box 58 (Link.ch x)]⟩] [[0, 1, 2], [0, 1, 2]] (.cons (LQ.ml (intA .i64) kl_End (fun _ => rfl) (putM x.A (IntKind.i64.wrap ((getM x.A 0 o1) + 1)) o1) x.B 0 false) (.cons (LQ.me (intA .i64) kl_End (fun _ => rfl) (putM x.A (IntKind.i64.wrap ((getM x.A 0 o1) + 1)) o1) x.B 0 []) (.cons (LQ.es End.av (intA .i64) (putM x.A (IntKind.i64.wrap ((getM x.A 0 o1) + 1)) o1) x.B 0 (IntKind.i64.wrap ((getM x.B 0 (putM x.A (IntKind.i64.wrap ((getM x.A 0 o1) + 1)) o1)) + 1))) (.cons (LQ.mlB (intA .i64) kl_End (fun _ => rfl) (putM x.A (IntKind.i64.wrap ((getM x.A 0 o1) + 1)) o1) x.B 0) .nil)))) (by kernel_rfl) (.sg 1 [1,3,5,24,25,26] (.rg (.sg 3 [1,3,5,24,25,26,56,58] (.ml [1,3,5,24,25,26,59] (intA .i64) kl_End (fun _ => rfl) (putM x.B (IntKind.i64.wrap ((getM x.B 0 (putM x.A (IntKind.i64.wrap ((getM x.A 0 o1) + 1)) o1)) + 1)) (putM x.A (IntKind.i64.wrap ((getM x.A 0 o1) + 1)) o1)) x.A 0 false (.sg 2 [1,3,5,24,25,26,61] (.mm 61 (decide ((getM x.A 0 (putM x.B (IntKind.i64.wrap ((getM x.B 0 (putM x.A (IntKind.i64.wrap ((getM x.A 0 o1) + 1)) o1)) + 1)) (putM x.A (IntKind.i64.wrap ((getM x.A 0 o1) + 1)) o1))) > 1)) 6 [.pure, .pure, .read, .read, .pure, .pure] [1, 3, 24, 25, 26, 67] 67 (fun z => .sc (.bool (z || (decide ((getM x.B 0 (putM x.B (IntKind.i64.wrap ((getM x.B 0 (putM x.A (IntKind.i64.wrap ((getM x.A 0 o1) + 1)) o1)) + 1)) (putM x.A (IntKind.i64.wrap ((getM x.A 0 o1) + 1)) o1))) > 1))))) ?J10 (fun hb J => ?ht10) (fun hb J => ?hf10))))))))))
   case ht10 =>
    exact .sg 6 [1,3,24,25,26,67] (.cl J)
   case hf10 =>
    exact .sg 3 [1,3,24,25,26,61,62,64] (.ml [1,3,24,25,26,61,65] (intA .i64) kl_End (fun _ => rfl) (putM x.B (IntKind.i64.wrap ((getM x.B 0 (putM x.A (IntKind.i64.wrap ((getM x.A 0 o1) + 1)) o1)) + 1)) (putM x.A (IntKind.i64.wrap ((getM x.A 0 o1) + 1)) o1)) x.B 0 false (.sg 2 [1,3,24,25,26,67] (.cl J)))
   refine .dn (.cd ((decide ((getM x.A 0 (putM x.B (IntKind.i64.wrap ((getM x.B 0 (putM x.A (IntKind.i64.wrap ((getM x.A 0 o1) + 1)) o1)) + 1)) (putM x.A (IntKind.i64.wrap ((getM x.A 0 o1) + 1)) o1))) > 1)) || (decide ((getM x.B 0 (putM x.B (IntKind.i64.wrap ((getM x.B 0 (putM x.A (IntKind.i64.wrap ((getM x.A 0 o1) + 1)) o1)) + 1)) (putM x.A (IntKind.i64.wrap ((getM x.A 0 o1) + 1)) o1))) > 1))) H (fun hb H => ?_) (fun hb H => ?_))
   ·
    refine .sg 2 [2] ?_
    subst H
    obtain rfl := Jr _ rfl
    exact .ret Tryz.func24 hc0
   ·
    exact .sg 3 [1,3,24,25,26] (.tl hc0 [0,1] [1,3,24,25,26] (.into (.cl (ih (t26 + 1) _ hw hd2 (putM x.B (IntKind.i64.wrap ((getM x.B 0 (putM x.A (IntKind.i64.wrap ((getM x.A 0 o1) + 1)) o1)) + 1)) (putM x.A (IntKind.i64.wrap ((getM x.A 0 o1) + 1)) o1)) H))))
def z24 (s : Setup) : Int :=
 (bif (((!(z60 s.Units 1 8)) || (!(z60 s.Ports 1 16))) || (!(z60 s.Room 0 32))) then
  13
 else
  sumG (fun q => q) (z24_l0s s s.Links ([] : List (End × Int))) fun v =>
  0)
theorem z24_calls (s : Setup) : ACalls Tryz.prog tab.S 24 [Setup.av s] [] (.sc (.int .i64 (z24 s))) [] := by
 generalize H : z24 s = r
 refine .of_AX z24_F Tryz.func24 fun c0 hc0 => ?_
 rw [z24] at H
 refine .sg 4 [1] (.rg (.sg 2 [1,7] (.cp [1,8] (z60_calls s.Units 1 8) (.sg 2 [1,10] (.mm 10 (!(z60 s.Units 1 8)) 5 [.pure, .pure, .pure, .read, .pure] [1, 15] 15 (fun z => .sc (.bool (z || (!(z60 s.Ports 1 16))))) ?J1 (fun hb J => ?ht1) (fun hb J => ?hf1))))))
 case ht1 =>
  exact .sg 5 [1,15] (.cl J)
 case hf1 =>
  exact .sg 2 [1,10,12] (.cp [1,10,13] (z60_calls s.Ports 1 16) (.sg 2 [1,15] (.cl J)))
 refine .sg 1 [1,16] (.mm 16 ((!(z60 s.Units 1 8)) || (!(z60 s.Ports 1 16))) 5 [.pure, .pure, .pure, .read, .pure] [1, 21] 21 (fun z => .sc (.bool (z || (!(z60 s.Room 0 32))))) ?J2 (fun hb J => ?ht2) (fun hb J => ?hf2))
 case ht2 =>
  exact .sg 5 [1,21] (.cl J)
 case hf2 =>
  exact .sg 2 [1,16,18] (.cp [1,16,19] (z60_calls s.Room 0 32) (.sg 2 [1,21] (.cl J)))
 refine .dn (.cd (((!(z60 s.Units 1 8)) || (!(z60 s.Ports 1 16))) || (!(z60 s.Room 0 32))) H (fun hb H => ?_) (fun hb H => ?_))
 ·
  refine .sg 2 [2] ?_
  subst H
  exact .ret Tryz.func24 hc0
 ·
  refine .sg 2 [1] (.rg (.mkm [1,22] (.sg 1 [1,3] (.dn (.sg 4 [1,3,24,25,26] ?_)))))
  rcases sumG_eq H with ⟨v, hv, H⟩ | ⟨r1, hv, hr1⟩
  case inr =>
   refine .into ?_
   replace hr1 : r1 = r := hr1
   subst hr1
   exact .to (z24_l0_walk s _ c0 hc0 (.inr _) (fun _ e => by cases e) (fun _ e => (Sum.inr.inj e).symm) s.Links 0 _ rfl rfl ([] : List (End × Int)) hv)
  refine .into (.to (z24_l0_walk s r c0 hc0 (.inl v) (fun w e => ?_) (fun _ e => by cases e) s.Links 0 _ rfl rfl ([] : List (End × Int)) hv))
  have e := Sum.inl.inj e
  subst e
  refine .sg 2 [2] ?_
  subst H
  exact .ret Tryz.func24 hc0
end Go.Proofs.YtembchgiajidaaaGreat
namespace Go.Proofs.YtembchgiajidaaaGreat
open Go.Sh
structure Tx where
 id : Int
 list : List Mod
 refused : Bool
 deriving DecidableEq, Inhabited
structure Sw where
 room : Int
 base : List Rule
 open_ : List Tx
 fail : Bool
 deriving DecidableEq, Inhabited
def Tx.objs (t : Tx) : List AO := [.box 155 [.sc (.int .i64 t.id), .own 1 1000000, .sc (.bool t.refused)], .row 42 (t.list.map Mod.av) 1000000 true]
def Sw.objs (u : Sw) : List AO := [.box 137 [.sc (.int .i64 u.room), .sl 70 (u.base.map Rule.av) false, .fm 1 0 vF, .sc (.bool u.fail)], .fam (rowF 150 (u.open_.map fun t => some t.objs)) 0]
def Pipe_byte.objs (p : Pipe_byte) : List AO := [.box 140 [.ref chanK 1], .vals (.chan p.ch.cap) (List.map (slA 5 (intA .u8)) p.ch.buf)]
structure NetS where
 s : Setup
 units : List Sw
 down : List Pipe_byte
 back : List Pipe_byte
 deriving DecidableEq, Inhabited
def NetS.objs (n : NetS) : List AO := [.box 87 [.sc (.int .i64 n.s.Units), .sc (.int .i64 n.s.Ports), .sc (.int .i64 n.s.Room), .sl 58 (n.s.Links.map Link.av) false, .fm 1 0 vF, .fm 2 0 vF, .fm 3 0 vF], .fam (rowF 88 (n.units.map fun u => some u.objs)) 0, .fam (rowF 90 (n.down.map fun u => some u.objs)) 0, .fam (rowF 90 (n.back.map fun u => some u.objs)) 0]
noncomputable def unit_New_F : Go.Sh.Fn := ⟨26, bodyOf Tryz.f26, 8⟩
def newSw (room : Int) : Sw := ⟨if (if room < 0 then 0 else room) > 32 then 32 else (if room < 0 then 0 else room), [], [], false⟩
theorem unit_New_ok (room : Int) : ACalls Tryz.prog tab.S 26 [.sc (.int .i64 room)] [] (.ptr 0 0 none) (newSw room).objs := by
 refine .of_AX unit_New_F Tryz.func26 fun c0 hc0 => ?_
 exact .sg 4 [2] (.adf 0 2 150 (.ret Tryz.func26 hc0 [0,1] [] [(70,false)]))
end Go.Proofs.YtembchgiajidaaaGreat
namespace Go.Proofs.YtembchgiajidaaaGreat
open Go.Sh
noncomputable def z30_F : Go.Sh.Fn := ⟨30, bodyOf Tryz.f30, 8⟩
theorem z30_calls (s : List Int) (f_s : Bool) : ACalls Tryz.prog tab.S 30 [.sl 5 (List.map (intA .u8) s) f_s] [] (.sl 5 (List.map (intA .u8) s) false) [] := by
 have hG := tab_ok
 have hm := mixed
 have hE : Ent Tryz.prog 30 := ent_of Tryz.func30 (by kernel_rfl) (by kernel_rfl)
 cases s with
 | nil =>
  refine ACalls.empty hE fun p c => ?_
  refine ACalls.of_AR (G := tab) z30_F (fn := Tryz.f30) Tryz.func30 (by kernel_rfl) (by kernel_rfl) (by kernel_rfl) (Nat.le_of_ble_eq_true (by kernel_rfl)) ?_
  intro c0 hc0
  replace hc0 : c0.m.length = 0 := hc0
  refine AR.seg hG hm 4 [0] (k' := [.code [1, 0, 0], .code [1, 0, 1], .code [1, 1]]) (t' := [(0, .sc (.slice p 0 c))]) (h' := []) (by kernel_rfl) ?_
  refine AR.reg hm [.pure, .pure] (by kernel_rfl) ?_
  refine DK.seg hG 1 [0, 3] (t' := [(0, .sc (.slice p 0 c)), (3, .sc (.slice p 0 c))]) (h' := []) (by kernel_rfl) rfl ?_
  refine DK.op' [0, 4] (t' := [(0, .sc (.slice p 0 c)), (4, .sc (.bool p.isNone))]) (h' := []) (LSpec.nilEq hG (p := p) (l := 0) (c := c) (by kernel_rfl)) (by kernel_rfl) rfl (by kernel_rfl) rfl ?_
  refine DK.done (by kernel_rfl) (by kernel_rfl) ?_
  refine AR.cond (.tmp 4) p.isNone (by kernel_rfl) (by kernel_rfl) (fun hb => ?ht) (fun hb => ?hf)
  case ht =>
   refine AR.seg hG hm 2 [2] (k' := [.code [1, 0, 1, 0, 1], .code [1, 1]]) (t' := [(2, .sl 0 [] true)]) (h' := []) (by kernel_rfl) ?_
   exact AR.ret0 (fn := Tryz.f30) hG Tryz.func30 (by kernel_rfl) hc0 (r0 := .sl 0 [] true) (by kernel_rfl) (WkV.sl (Wk1.nil 5 false))
  case hf =>
   refine AR.seg hG hm 2 [0] (k' := [.code [1, 1, 0], .code [1, 1, 1]]) (t' := [(0, .sc (.slice p 0 c))]) (h' := []) (by kernel_rfl) ?_
   refine AR.reg hm [.pure, .pure, .pure, .pure] (by kernel_rfl) ?_
   refine DK.seg hG 2 [5, 6] (t' := [(5, .sl 5 [] true), (6, .sc (.slice p 0 c))]) (h' := []) (by kernel_rfl) rfl ?_
   refine DK.op' [7] (t' := [(7, .sl 5 [] true)]) (h' := []) (LSpec.app0 hG (e0 := 5) (rows := []) (f := true) (by kernel_rfl)) (by kernel_rfl) rfl (by kernel_rfl) rfl ?_
   refine DK.seg hG 1 [2] (t' := [(2, .sl 5 [] true)]) (h' := []) (by kernel_rfl) rfl ?_
   refine DK.done (by kernel_rfl) (by kernel_rfl) ?_
   exact AR.ret0 (fn := Tryz.f30) hG Tryz.func30 (by kernel_rfl) hc0 (r0 := .sl 5 [] true) (by kernel_rfl) (WkV.sl (Wk1.nil 5 false))
 | cons x xs =>
  refine ACalls.facts hE fun hf => ?_
  have hfit : (([] : List Int).length + (x :: xs).length) * 1 ≤ reach := by
   have h1 : (List.map (intA .u8) (x :: xs)).length * 1 ≤ reach := hf.1.1
   simpa using h1
  refine ACalls.of_AR (G := tab) z30_F (fn := Tryz.f30) Tryz.func30 (by kernel_rfl) (by kernel_rfl) (by kernel_rfl) (Nat.le_of_ble_eq_true (by kernel_rfl)) ?_
  intro c0 hc0
  replace hc0 : c0.m.length = 0 := hc0
  refine AR.seg hG hm 4 [0] (k' := [.code [1, 0, 0], .code [1, 0, 1], .code [1, 1]]) (t' := [(0, .sl 5 (List.map (intA .u8) (x :: xs)) f_s)]) (h' := []) (by kernel_rfl) ?_
  refine AR.reg hm [.pure, .pure] (by kernel_rfl) ?_
  refine DK.seg hG 1 [0, 3] (t' := [(0, .sl 5 (List.map (intA .u8) (x :: xs)) f_s), (3, .sl 5 (List.map (intA .u8) (x :: xs)) f_s)]) (h' := []) (by kernel_rfl) rfl ?_
  refine DK.op' [0, 4] (t' := [(0, .sl 5 (List.map (intA .u8) (x :: xs)) f_s), (4, .sc (.bool false))]) (h' := []) (LSpec.neNil hG (by kernel_rfl)) (by kernel_rfl) rfl (by kernel_rfl) rfl ?_
  refine DK.done (by kernel_rfl) (by kernel_rfl) ?_
  refine AR.seg hG hm 3 [0] (k' := [.code [1, 1, 0], .code [1, 1, 1]]) (t' := [(0, .sl 5 (List.map (intA .u8) (x :: xs)) f_s)]) (h' := []) (by kernel_rfl) ?_
  refine AR.reg hm [.pure, .pure, .loud, .pure] (by kernel_rfl) ?_
  refine DK.seg hG 2 [5, 6] (t' := [(5, .sl 5 [] true), (6, .sl 5 (List.map (intA .u8) (x :: xs)) f_s)]) (h' := []) (by kernel_rfl) rfl ?_
  refine DK.op' [7] (t' := [(7, .own 0 1)]) (h' := [.row 5 (List.map (intA .u8) ([] ++ (x :: xs))) 1 true]) (LSpec.appendN hG (intA .u8) [] (x :: xs) 5 1 hfit (by kernel_rfl)) (by kernel_rfl) (by kernel_rfl) (by kernel_rfl) rfl ?_
  refine DK.seg hG 1 [2] (t' := [(2, .own 0 1)]) (h' := [.row 5 (List.map (intA .u8) ([] ++ (x :: xs))) 1 true]) (by kernel_rfl) rfl ?_
  refine DK.done (by kernel_rfl) (by kernel_rfl) ?_
  exact AR.ret0 (fn := Tryz.f30) hG Tryz.func30 (by kernel_rfl) hc0 (r0 := .sl 5 (List.map (intA .u8) (x :: xs)) false) (by kernel_rfl) (WkV.refl _)
noncomputable def z25_F : Go.Sh.Fn := ⟨25, bodyOf Tryz.f25, 8⟩
theorem z25_calls (s : List Link) (f_s : Bool) : ACalls Tryz.prog tab.S 25 [.sl 58 (List.map Link.av s) f_s] [] (.sl 58 (List.map Link.av s) false) [] := by
 have hG := tab_ok
 have hm := mixed
 have hE : Ent Tryz.prog 25 := ent_of Tryz.func25 (by kernel_rfl) (by kernel_rfl)
 cases s with
 | nil =>
  refine ACalls.empty hE fun p c => ?_
  refine ACalls.of_AR (G := tab) z25_F (fn := Tryz.f25) Tryz.func25 (by kernel_rfl) (by kernel_rfl) (by kernel_rfl) (Nat.le_of_ble_eq_true (by kernel_rfl)) ?_
  intro c0 hc0
  replace hc0 : c0.m.length = 0 := hc0
  refine AR.seg hG hm 4 [0] (k' := [.code [1, 0, 0], .code [1, 0, 1], .code [1, 1]]) (t' := [(0, .sc (.slice p 0 c))]) (h' := []) (by kernel_rfl) ?_
  refine AR.reg hm [.pure, .pure] (by kernel_rfl) ?_
  refine DK.seg hG 1 [0, 3] (t' := [(0, .sc (.slice p 0 c)), (3, .sc (.slice p 0 c))]) (h' := []) (by kernel_rfl) rfl ?_
  refine DK.op' [0, 4] (t' := [(0, .sc (.slice p 0 c)), (4, .sc (.bool p.isNone))]) (h' := []) (LSpec.nilEq hG (p := p) (l := 0) (c := c) (by kernel_rfl)) (by kernel_rfl) rfl (by kernel_rfl) rfl ?_
  refine DK.done (by kernel_rfl) (by kernel_rfl) ?_
  refine AR.cond (.tmp 4) p.isNone (by kernel_rfl) (by kernel_rfl) (fun hb => ?ht) (fun hb => ?hf)
  case ht =>
   refine AR.seg hG hm 2 [2] (k' := [.code [1, 0, 1, 0, 1], .code [1, 1]]) (t' := [(2, .sl 0 [] true)]) (h' := []) (by kernel_rfl) ?_
   exact AR.ret0 (fn := Tryz.f25) hG Tryz.func25 (by kernel_rfl) hc0 (r0 := .sl 0 [] true) (by kernel_rfl) (WkV.sl (Wk1.nil 58 false))
  case hf =>
   refine AR.seg hG hm 2 [0] (k' := [.code [1, 1, 0], .code [1, 1, 1]]) (t' := [(0, .sc (.slice p 0 c))]) (h' := []) (by kernel_rfl) ?_
   refine AR.reg hm [.pure, .pure, .pure, .pure] (by kernel_rfl) ?_
   refine DK.seg hG 2 [5, 6] (t' := [(5, .sl 58 [] true), (6, .sc (.slice p 0 c))]) (h' := []) (by kernel_rfl) rfl ?_
   refine DK.op' [7] (t' := [(7, .sl 58 [] true)]) (h' := []) (LSpec.app0 hG (e0 := 58) (rows := []) (f := true) (by kernel_rfl)) (by kernel_rfl) rfl (by kernel_rfl) rfl ?_
   refine DK.seg hG 1 [2] (t' := [(2, .sl 58 [] true)]) (h' := []) (by kernel_rfl) rfl ?_
   refine DK.done (by kernel_rfl) (by kernel_rfl) ?_
   exact AR.ret0 (fn := Tryz.f25) hG Tryz.func25 (by kernel_rfl) hc0 (r0 := .sl 58 [] true) (by kernel_rfl) (WkV.sl (Wk1.nil 58 false))
 | cons x xs =>
  refine ACalls.facts hE fun hf => ?_
  have hfit : (([] : List Link).length + (x :: xs).length) * 32 ≤ reach := by
   have h1 : (List.map Link.av (x :: xs)).length * 32 ≤ reach := hf.1.1
   simpa using h1
  refine ACalls.of_AR (G := tab) z25_F (fn := Tryz.f25) Tryz.func25 (by kernel_rfl) (by kernel_rfl) (by kernel_rfl) (Nat.le_of_ble_eq_true (by kernel_rfl)) ?_
  intro c0 hc0
  replace hc0 : c0.m.length = 0 := hc0
  refine AR.seg hG hm 4 [0] (k' := [.code [1, 0, 0], .code [1, 0, 1], .code [1, 1]]) (t' := [(0, .sl 58 (List.map Link.av (x :: xs)) f_s)]) (h' := []) (by kernel_rfl) ?_
  refine AR.reg hm [.pure, .pure] (by kernel_rfl) ?_
  refine DK.seg hG 1 [0, 3] (t' := [(0, .sl 58 (List.map Link.av (x :: xs)) f_s), (3, .sl 58 (List.map Link.av (x :: xs)) f_s)]) (h' := []) (by kernel_rfl) rfl ?_
  refine DK.op' [0, 4] (t' := [(0, .sl 58 (List.map Link.av (x :: xs)) f_s), (4, .sc (.bool false))]) (h' := []) (LSpec.neNil hG (by kernel_rfl)) (by kernel_rfl) rfl (by kernel_rfl) rfl ?_
  refine DK.done (by kernel_rfl) (by kernel_rfl) ?_
  refine AR.seg hG hm 3 [0] (k' := [.code [1, 1, 0], .code [1, 1, 1]]) (t' := [(0, .sl 58 (List.map Link.av (x :: xs)) f_s)]) (h' := []) (by kernel_rfl) ?_
  refine AR.reg hm [.pure, .pure, .loud, .pure] (by kernel_rfl) ?_
  refine DK.seg hG 2 [5, 6] (t' := [(5, .sl 58 [] true), (6, .sl 58 (List.map Link.av (x :: xs)) f_s)]) (h' := []) (by kernel_rfl) rfl ?_
  refine DK.op' [7] (t' := [(7, .own 0 1)]) (h' := [.row 58 (List.map Link.av ([] ++ (x :: xs))) 1 true]) (LSpec.appendN hG Link.av [] (x :: xs) 58 32 hfit (by kernel_rfl)) (by kernel_rfl) (by kernel_rfl) (by kernel_rfl) rfl ?_
  refine DK.seg hG 1 [2] (t' := [(2, .own 0 1)]) (h' := [.row 58 (List.map Link.av ([] ++ (x :: xs))) 1 true]) (by kernel_rfl) rfl ?_
  refine DK.done (by kernel_rfl) (by kernel_rfl) ?_
  exact AR.ret0 (fn := Tryz.f25) hG Tryz.func25 (by kernel_rfl) hc0 (r0 := .sl 58 (List.map Link.av (x :: xs)) false) (by kernel_rfl) (WkV.refl _)
end Go.Proofs.YtembchgiajidaaaGreat
namespace Go.Proofs.YtembchgiajidaaaGreat
open Go.Sh
end Go.Proofs.YtembchgiajidaaaGreat
namespace Go.Proofs.YtembchgiajidaaaGreat
open Go.Sh
noncomputable def there_F : Go.Sh.Fn := ⟨28, bodyOf Tryz.f28, 20⟩
def thereB (n : NetS) (u : Int) : Bool := decide (u ≥ 0) && decide (u < (n.units.length : Int))
theorem there_ok (n : NetS) (u : Int) : ACalls Tryz.prog tab.S 28 [.ptr 0 0 none, .sc (.int .i64 u)] n.objs (.sc (.bool (thereB n u))) n.objs := by
 refine .of_AX there_F Tryz.func28 fun c0 hc0 => ?_
 refine .sg 3 [0,1] ?_
 refine .rg ?_
 refine .sg 7 [0,1,10,11] ?_
 cases h0 : decide (u ≥ 0) with
 | false =>
  have e : thereB n u = false := by simp only [thereB, h0, Bool.false_and]
  refine .kb 11 h0 ?_
  refine .sg 9 [4] ?_
  rw [e]
  exact .dn (.ret Tryz.func28 hc0 [0,1,2,3])
 | true =>
  refine .kb 11 h0 ?_
  have e : thereB n u = decide (u < ((n.units.map fun u => some u.objs).length : Int)) := by simp only [thereB, h0, Bool.true_and, List.length_map]
  rw [e]
  refine .sg 5 [11,12,16] (.fle [11,12,17] 1 0 88 (n.units.map fun u => some u.objs) ?_)
  refine .sg 3 [4] (.dn (.ret Tryz.func28 hc0 [0,1,2,3]))
structure NetS.wf (n : NetS) : Prop where
 d : n.down.length = n.units.length
 b : n.back.length = n.units.length
def sendN (n : NetS) (u : Int) (b : List Int) : Int × NetS :=
 bif thereB n u then
  match n.down[u.toNat]? with
  | some p => (bif (z29 p b).1 then 0 else 3, { n with down := n.down.set u.toNat (z29 p b).2 })
  | none => (0, n)
 else (1, n)
noncomputable def Send_F : Go.Sh.Fn := ⟨10, bodyOf Tryz.f10, 24⟩
theorem there_lt {n : NetS} {u : Int} (h : thereB n u = true) : 0 ≤ u ∧ u < (n.units.length : Int) := by
 simpa [thereB] using h
theorem Send_ok (n : NetS) (hn : n.wf) (u : Int) (b : List Int) (f_b : Bool) : ACalls Tryz.prog tab.S 10 [.ptr 0 0 none, .sc (.int .i64 u), .sl 5 (List.map (intA .u8) b) f_b] n.objs (.sc (.int .i64 (sendN n u b).1)) (sendN n u b).2.objs := by
 refine .of_AX Send_F Tryz.func10 fun c0 hc0 => ?_
 refine .sg 5 [0,1,2] (.rg (.sg 2 [0,1,2,8,9] (.ch [0,1,2,10] [0,1,2,3] (there_ok n u) (.sg 2 [0,1,2,7] (.dn ?_)))))
 cases h0 : thereB n u with
 | false =>
  have e : sendN n u b = (1, n) := by simp only [sendN, h0, cond_false]
  rw [e]
  exact .cdT (b := true) rfl (.sg 2 [6] (.ret Tryz.func10 hc0 [0,1,2,3]))
 | true =>
  obtain ⟨h1, h2⟩ := there_lt h0
  have hlt : u.toNat < n.down.length := by rw [hn.d]; omega
  have e : sendN n u b = (bif (z29 n.down[u.toNat] b).1 then 0 else 3, { n with down := n.down.set u.toNat (z29 n.down[u.toNat] b).2 }) := by
   simp only [sendN, h0, cond_true, List.getElem?_eq_getElem hlt]
  have hj : (decide (0 ≤ u) && decide (u < ((n.down.map fun u => some u.objs).length : Int))) = true := by
   rw [List.length_map, hn.d, decide_eq_true h1, decide_eq_true h2]; rfl
  rw [e]
  refine .cdF (b := false) rfl ?_
  refine .sg 1 [0,1,2] ?_
  refine .rg ?_
  refine .sg 5 [0,1,2,16,17] ?_
  refine .fix_ [2,18] 2 0 90 (n.down.map fun u => some u.objs) u .i64 hj ?_
  refine .fld [2,19] 2 0 90 (n.down.map fun u => some u.objs) u.toNat (by rw [List.length_map]; exact hlt) ?_
  refine .sg 1 [19,20] (.cp [19,21] (z30_calls b f_b) ?_)
  refine .fca [22] 2 0 u.toNat 90 (n.down.map fun u => some u.objs) (el := n.down[u.toNat].objs) (el' := (z29 n.down[u.toNat] b).2.objs) (z29_walk n.down[u.toNat] b false _ rfl) (by rw [List.getElem?_map, List.getElem?_eq_getElem hlt]; rfl) ((n.down.set u.toNat (z29 n.down[u.toNat] b).2).map fun u => some u.objs) (by rw [List.map_set]) ?_
  refine .sg 2 [12] (.dn ?_)
  cases hp : (z29 n.down[u.toNat] b).1 with
  | false => exact .cdT (b := true) rfl (.sg 2 [6] (.ret Tryz.func10 hc0 [0,1,2,3]))
  | true => exact .cdF (b := false) rfl (.sg 4 [6] (.ret Tryz.func10 hc0 [0,1,2,3]))
noncomputable def Waiting_F : Go.Sh.Fn := ⟨12, bodyOf Tryz.f12, 26⟩
def backN (n : NetS) (u : Int) : Option (Msg × Int × NetS) :=
 bif thereB n u then
  match n.back[u.toNat]? with
  | some p => (bif (z35 p).2.1 then (z36_raw (z35 p).1).map (fun r => (r.1, r.2, { n with back := n.back.set u.toNat (z35 p).2.2 })) else some (msg0 0 0, 4, { n with back := n.back.set u.toNat (z35 p).2.2 }))
  | none => none
 else some (msg0 0 0, 1, n)
noncomputable def Back_F : Go.Sh.Fn := ⟨14, bodyOf Tryz.f14, 31⟩
theorem Back_ok (n : NetS) (hn : n.wf) (u : Int) (r : Msg × Int × NetS) (H : backN n u = some r) : ACalls Tryz.prog tab.S 14 [.ptr 0 0 none, .sc (.int .i64 u)] n.objs (.tup [Msg.av r.1, .sc (.int .i64 r.2.1)]) r.2.2.objs := by
 refine .of_AX Back_F Tryz.func14 fun c0 hc0 => ?_
 refine .go ?_
 refine .rg (.go (.ch [0,1,4,10] [0,1,2,3] (there_ok n u) ?_))
 refine .go (.dn ?_)
 cases h0 : thereB n u with
 | false =>
  rw [backN, h0, cond_false] at H
  injection H with H
  subst H
  refine .cdT (b := true) rfl (.go ?_)
  exact .ret Tryz.func14 hc0 [0,1,2,3] [(60, false),(70, false)]
 | true =>
  obtain ⟨h1, h2⟩ := there_lt h0
  have hb : u.toNat < n.back.length := by rw [hn.b]; omega
  rw [backN, h0, cond_true, List.getElem?_eq_getElem hb] at H
  have hjb : (decide (0 ≤ u) && decide (u < ((n.back.map fun u => some u.objs).length : Int))) = true := by
   rw [List.length_map, hn.b, decide_eq_true h1, decide_eq_true h2]; rfl
  refine .cdF (b := false) rfl (.go (.rg (.go ?_)))
  refine .fix_ [0,1,4,19] 3 0 90 (n.back.map fun u => some u.objs) u .i64 hjb (.fld [0,1,4,20] 3 0 90 (n.back.map fun u => some u.objs) u.toNat (by rw [List.length_map]; exact hb) ?_)
  refine .fca [4,21] 3 0 u.toNat 90 (n.back.map fun u => some u.objs) (el := n.back[u.toNat].objs) (el' := (z35 n.back[u.toNat]).2.2.objs) (z35_walk n.back[u.toNat] _ rfl) (by rw [List.getElem?_map, List.getElem?_eq_getElem hb]; rfl) ((n.back.set u.toNat (z35 n.back[u.toNat]).2.2).map fun u => some u.objs) (by rw [List.map_set]) ?_
  refine .go (.dn ?_)
  cases hp : (z35 n.back[u.toNat]).2.1 with
  | false =>
   simp only [hp, cond_false] at H
   injection H with H
   subst H
   exact .go (.ret Tryz.func14 hc0 [0,1,2,3] [(60, false),(70, false)])
  | true =>
   simp only [hp, cond_true] at H
   cases hd : z36_raw (z35 n.back[u.toNat]).1 with
   | none => rw [hd] at H; cases H
   | some q =>
    rw [hd] at H
    injection H with H
    subst H
    exact .go (.rg (.go (.cp [4,28] (z36_walk _ false q hd) (.go (.dn (.ret Tryz.func14 hc0 [0,1,2,3]))))))
noncomputable def Take_F : Go.Sh.Fn := ⟨38, bodyOf Tryz.f38, 68⟩
theorem Take_bar (u : Sw) (id : Int) (hS : z66 (msg0 2 id) = true) : ACalls Tryz.prog tab.S 38 [.ptr 0 0 none, Msg.av (msg0 2 id)] u.objs (.sl 45 [Msg.av (msg0 7 id)] true) u.objs := by
 have hc := z66_calls (msg0 2 id)
 rw [hS] at hc
 refine .of_AX Take_F Tryz.func38 fun c0 hc0 => ?_
 refine .go (.rg (.go ?_))
 refine .cp [0,3,9] hc ?_
 refine .go (.dn (.gn 13 (.rg (.gn 3 (.wk 31 [(60, false),(70, false)] (.go (.dn (.go ?_))))))))
 exact .ret Tryz.func38 hc0 [0,1]
end Go.Proofs.YtembchgiajidaaaGreat
namespace Go.Proofs.YtembchgiajidaaaGreat
open Go.Sh
def floodB (m : Msg) : Bool := m.Kind == 8 || m.Kind == 9
def answerN (n : NetS) (u : Int) : List Msg → Option NetS
 | [] => some n
 | m :: r =>
  bif floodB m && decide (1024 ≤ ((n.back[u.toNat]?).map fun p => p.ch.buf.length).getD 0) then answerN n u r
  else (z67_raw m).bind fun q => bif q.2 == 0 then (match n.back[u.toNat]? with | some p => answerN { n with back := n.back.set u.toNat (z29 p q.1).2 } u r | none => none) else answerN n u r
noncomputable def ans_F : Go.Sh.Fn := ⟨37, bodyOf Tryz.f37, 54⟩
theorem ans_l0 {c0 : Ctx} (hc0 : c0.m.length = 4) (u : Int) (list : List Msg) (f_l : Bool) (h1 : 0 ≤ u) (r : NetS) (hlist : list.length ≤ 1000000000000) : ∀ (rest : List Msg) (i : Nat) (n : NetS) (z : Int) (hI : z = ((i : Nat) : Int)) (hd : list.drop i = rest) (hn : n.wf) (h2 : u < (n.units.length : Int)) (H : answerN n u rest = some r), AX Tryz.prog tab ans_F c0 (Rp tab.S c0 (.tup []) r.objs) (some ⟨[.code [1,0,0], .loop [1,0], .blk 0], [(0, .ptr 0 0 none), (1, .sc (.int .i64 u)), (11, .sl 45 (List.map Msg.av list) f_l), (12, .sc (.int .i64 ((List.map Msg.av list).length : Nat))), (13, .sc (.int .i64 z))], n.objs⟩) := by
 intro rest
 induction rest with
 | nil =>
  intro i n z hI hd hn h2 H
  subst hI
  injection H with H
  subst H
  have hge : list.length ≤ i := List.drop_eq_nil_iff.1 hd
  have hc : (decide (((i : Nat) : Int) < (((List.map Msg.av list).length : Nat) : Int))) = false := by rw [List.length_map]; exact decide_eq_false (by omega)
  refine .gn 1 (.rg (.go (.kb 14 hc (.dn (.go ?_)))))
  exact .ret Tryz.func37 hc0 [0,1,2,3]
 | cons m rest ih =>
  intro i n z hI hd hn h2 H
  subst hI
  obtain ⟨hlt, hv, hd2⟩ := drop_cons hd
  have hc : (decide (((i : Nat) : Int) < (((List.map Msg.av list).length : Nat) : Int))) = true := by rw [List.length_map]; exact decide_eq_true (by omega)
  have hw : IntKind.i64.wrap (((i : Nat) : Int) + 1) = ((i + 1 : Nat) : Int) := wrapI_succ (by omega)
  have hb : u.toNat < n.back.length := by rw [hn.b]; omega
  have hjb : (decide (0 ≤ u) && decide (u < ((n.back.map fun u => some u.objs).length : Int))) = true := by
   rw [List.length_map, hn.b, decide_eq_true h1, decide_eq_true h2]; rfl
  have J3 : ∀ n' : NetS, n'.wf → u < (n'.units.length : Int) → answerN n' u rest = some r → AX Tryz.prog tab ans_F c0 (Rp tab.S c0 (.tup []) r.objs) (some ⟨[.code [1, 0, 0, 1, 1, 1], .loop [1, 0], .blk 0], [(0, .ptr 0 0 none), (1, .sc (.int .i64 u)), (11, .sl 45 (List.map Msg.av list) f_l), (12, .sc (.int .i64 ((List.map Msg.av list).length : Nat))), (13, .sc (.int .i64 ((i : Nat) : Int)))], n'.objs ++ [.box 45 (chD (Msg.av m))]⟩) := by
   intro n' hn' h2' H'
   refine .nr (.go (.dn (.tl hc0 [0,1,2,3] [0,1,11,12,13] ?_)))
   exact .go (.into (.to (ih (i + 1) n' _ hw hd2 hn' h2' H')))
  have J2 : ((z67_raw m).bind fun q => bif q.2 == 0 then (match n.back[u.toNat]? with | some p => answerN { n with back := n.back.set u.toNat (z29 p q.1).2 } u rest | none => none) else answerN n u rest) = some r → AX Tryz.prog tab ans_F c0 (Rp tab.S c0 (.tup []) r.objs) (some ⟨[.code [1, 0, 0, 1, 1, 0, 0, 1, 1, 1], .blk 1, .code [1, 0, 0, 1, 1, 1], .loop [1, 0], .blk 0], [(0, .ptr 0 0 none), (1, .sc (.int .i64 u)), (7, .ptr 4 0 none), (11, .sl 45 (List.map Msg.av list) f_l), (12, .sc (.int .i64 ((List.map Msg.av list).length : Nat))), (13, .sc (.int .i64 ((i : Nat) : Int)))], n.objs ++ [.box 45 (chD (Msg.av m))]⟩) := by
   intro H
   cases hq : z67_raw m with
   | none => rw [hq] at H; cases H
   | some q =>
    rw [hq, Option.bind_some] at H
    refine .nr (.gn 1 (.cp [0,1,11,12,13,39] (z67_walk m q hq) (.go (.dn (.nr ?_)))))
    cases he : (q.2 == 0) with
    | false =>
     rw [he, cond_false] at H
     refine .go (.kb 43 he (.dn (.tr (.kp [0,1,11,12,13] ?_))))
     exact .to (J3 n hn h2 H)
    | true =>
     rw [he, cond_true, List.getElem?_eq_getElem hb] at H
     refine .go (.kb 43 he (.dn (.nr (.gn 5 ?_))))
     refine .fix_ [0,1,9,11,12,13,49] 3 0 90 (n.back.map fun u => some u.objs) u .i64 hjb (.fld [0,1,9,11,12,13,50] 3 0 90 (n.back.map fun u => some u.objs) u.toNat (by rw [List.length_map]; exact hb) ?_)
     refine .gn 1 (.fca [0,1,11,12,13] 3 0 u.toNat 90 (n.back.map fun u => some u.objs) (el := n.back[u.toNat].objs) (el' := (z29 n.back[u.toNat] q.1).2.objs) (z29_walk n.back[u.toNat] q.1 false _ rfl) (by rw [List.getElem?_map, List.getElem?_eq_getElem hb]; rfl) ((n.back.set u.toNat (z29 n.back[u.toNat] q.1).2).map fun u => some u.objs) (by rw [List.map_set]) ?_)
     refine .dn (.tr ?_)
     exact .to (J3 { n with back := n.back.set u.toNat (z29 n.back[u.toNat] q.1).2 } ⟨hn.d, by rw [List.length_set]; exact hn.b⟩ h2 H)
  have J1 : AX Tryz.prog tab ans_F c0 (Rp tab.S c0 (.tup []) r.objs) (some ⟨[.code [1, 0, 0, 1, 1, 0, 0, 1, 1], .blk 1, .code [1, 0, 0, 1, 1, 1], .loop [1, 0], .blk 0], [(0, .ptr 0 0 none), (1, .sc (.int .i64 u)), (7, .ptr 4 0 none), (8, .sc (.bool (floodB m))), (11, .sl 45 (List.map Msg.av list) f_l), (12, .sc (.int .i64 ((List.map Msg.av list).length : Nat))), (13, .sc (.int .i64 ((i : Nat) : Int)))], n.objs ++ [.box 45 (chD (Msg.av m))]⟩) := by
   rw [answerN] at H
   cases hf : floodB m with
   | false =>
    rw [hf, Bool.false_and, cond_false] at H
    exact .nr (.go (.dn (.gn 2 (.kp [0,1,7,11,12,13] (.to (J2 H))))))
   | true =>
    rw [hf, Bool.true_and, List.getElem?_eq_getElem hb, Option.map_some, Option.getD_some] at H
    refine .nr (.gn 7 (.fix_ [0,1,7,11,12,13,26,32] 3 0 90 (n.back.map fun u => some u.objs) u .i64 hjb (.fld [0,1,7,11,12,13,26,33] 3 0 90 (n.back.map fun u => some u.objs) u.toNat (by rw [List.length_map]; exact hb) ?_)))
    refine .fcr [0,1,7,11,12,13,26,34] 3 0 u.toNat 90 (n.back.map fun u => some u.objs) (el := n.back[u.toNat].objs) (z34_walk n.back[u.toNat] _ rfl) (by rw [List.getElem?_map, List.getElem?_eq_getElem hb]; rfl) ?_
    cases hge : decide ((((List.map (slA 5 (intA .u8)) n.back[u.toNat].ch.buf).length : Nat) : Int) ≥ 1024) with
    | false =>
     rw [show decide (1024 ≤ n.back[u.toNat].ch.buf.length) = false from by rw [List.length_map, decide_eq_false_iff_not] at hge; exact decide_eq_false (by omega), cond_false] at H
     exact .go (.kb 36 hge (.dn (.gn 2 (.kp [0,1,7,11,12,13] (.to (J2 (by rw [List.getElem?_eq_getElem hb]; exact H)))))))
    | true =>
     rw [show decide (1024 ≤ n.back[u.toNat].ch.buf.length) = true from by rw [List.length_map, decide_eq_true_eq] at hge; exact decide_eq_true (by omega), cond_true] at H
     exact .go (.kb 36 hge (.dn (.tr (.kp [0,1,11,12,13] (.to (J3 n hn h2 H))))))
  refine .gn 1 (.rg (.go (.kb 14 hc (.dn (.nr (.xi [0,1,11,12,13,15] Msg.av hv (.go (.dn (.nr (.gn 4 ?_))))))))))
  cases hk : (m.Kind == 8) with
  | true =>
   have e : floodB m = true := by simp [floodB, hk]
   rw [e] at J1
   exact .kb 20 hk (.go (.dn (.kp [0,1,7,8,11,12,13] (.to J1))))
  | false =>
   have e : floodB m = (m.Kind == 9) := by simp [floodB, hk]
   rw [e] at J1
   exact .kb 20 hk (.go (.dn (.kp [0,1,7,8,11,12,13] (.to J1))))
theorem ans_ok (n : NetS) (u : Int) (list : List Msg) (f_l : Bool) (hn : n.wf) (h1 : 0 ≤ u) (h2 : u < (n.units.length : Int)) (hlist : list.length ≤ 1000000000000) (r : NetS) (H : answerN n u list = some r) : ACalls Tryz.prog tab.S 37 [.ptr 0 0 none, .sc (.int .i64 u), .sl 45 (List.map Msg.av list) f_l] n.objs (.tup []) r.objs := by
 refine .of_AX ans_F Tryz.func37 fun c0 hc0 => ?_
 exact .go (.into (.kp [0,1,11,12,13] (.to (ans_l0 hc0 u list f_l h1 r hlist list 0 n 0 rfl rfl hn h2 H))))
def popN (n : NetS) (u : Int) (p : Pipe_byte) : NetS := { n with down := n.down.set u.toNat (z35 p).2.2 }
def errM (e : Int) : Msg := { msg0 6 0 with E := e }
noncomputable def Down_F : Go.Sh.Fn := ⟨13, bodyOf Tryz.f13, 51⟩
theorem Down_ok (n : NetS) (hn : n.wf) (u : Int) (h0 : thereB n u = true) (p : Pipe_byte) (hp : n.down[u.toNat]? = some p) (m : Msg) (e : Int) (hne : (z35 p).2.1 = true) (hd : z36_raw (z35 p).1 = some (m, e)) (r : NetS)
  (H : (e ≠ 0 ∧ answerN (popN n u p) u [errM e] = some r) ∨ (e = 0 ∧ ∃ su su' list fl, n.units[u.toNat]? = some su ∧ ACalls Tryz.prog tab.S 38 [.ptr 0 0 none, Msg.av m] su.objs (.sl 45 (List.map Msg.av list) fl) su'.objs ∧ list.length ≤ 1000000000000 ∧ answerN { popN n u p with units := n.units.set u.toNat su' } u list = some r)) :
  ACalls Tryz.prog tab.S 13 [.ptr 0 0 none, .sc (.int .i64 u)] n.objs (.sc (.int .i64 0)) r.objs := by
 have ht := there_ok n u
 rw [h0] at ht
 obtain ⟨h1, h2⟩ := there_lt h0
 have hpc := z35_walk p _ rfl
 rw [hne] at hpc
 have hlt : u.toNat < n.down.length := by rw [hn.d]; omega
 have hj : (decide (0 ≤ u) && decide (u < ((n.down.map fun u => some u.objs).length : Int))) = true := by
  rw [List.length_map, hn.d, decide_eq_true h1, decide_eq_true h2]; rfl
 have hwf : (popN n u p).wf := ⟨by simp only [popN, List.length_set]; exact hn.d, hn.b⟩
 refine .of_AX Down_F Tryz.func13 fun c0 hc0 => ?_
 refine .go (.rg (.go (.ch [0,1,11] [0,1,2,3] ht (.go (.dn (.nr (.gn 5 ?_)))))))
 refine .fix_ [0,1,19] 2 0 90 (n.down.map fun u => some u.objs) u .i64 hj (.fld [0,1,20] 2 0 90 (n.down.map fun u => some u.objs) u.toNat (by rw [List.length_map]; exact hlt) ?_)
 refine .fca [0,1,21] 2 0 u.toNat 90 (n.down.map fun u => some u.objs) (el := p.objs) (el' := (z35 p).2.2.objs) hpc (by rw [List.getElem?_map, hp]; rfl) ((n.down.set u.toNat (z35 p).2.2).map fun u => some u.objs) (by rw [List.map_set]) ?_
 refine .go (.dn (.tr ?_))
 refine .go (.rg (.go (.cp [0,1,28] (z36_walk _ false (m, e) hd) (.go (.dn ?_)))))
 rcases H with ⟨he, H⟩ | ⟨he, su, su', list, fl, hsu, hT, hlist, H⟩
 ·have hb : (e != 0) = true := by simpa using he
  refine .nr (.go (.kb 32 hb (.dn (.nr (.gn 4 (.wk 36 [(60, false),(70, false)] (.gn 1 ?_)))))))
  exact .ch [0] [0,1,2,3] (ans_ok (popN n u p) u [errM e] true hwf h1 h2 (by simp) r H) (.go (.dn (.go (.ret Tryz.func13 hc0 [0,1,2,3]))))
 ·subst he
  have hul : u.toNat < n.units.length := by omega
  have hju : (decide (0 ≤ u) && decide (u < ((n.units.map fun u => some u.objs).length : Int))) = true := by
   rw [List.length_map, decide_eq_true h1, decide_eq_true h2]; rfl
  refine .nr (.go (.dn (.nr (.gn 7 ?_))))
  refine .fix_ [7,39,40,46] 1 0 88 (n.units.map fun u => some u.objs) u .i64 hju (.fld [7,39,40,47] 1 0 88 (n.units.map fun u => some u.objs) u.toNat (by rw [List.length_map]; exact hul) ?_)
  refine .gn 1 (.fca [39,40,49] 1 0 u.toNat 88 (n.units.map fun u => some u.objs) (el := su.objs) (el' := su'.objs) hT (by rw [List.getElem?_map, hsu]; rfl) ((n.units.set u.toNat su').map fun u => some u.objs) (by rw [List.map_set]) ?_)
  exact .ch [0] [0,1,2,3] (ans_ok { popN n u p with units := n.units.set u.toNat su' } u list fl ⟨by simp only [List.length_set]; exact hwf.d, by simp only [List.length_set]; exact hwf.b⟩ h1 (by simp only [List.length_set]; exact h2) hlist r H) (.go (.dn (.go (.ret Tryz.func13 hc0 [0,1,2,3]))))
noncomputable def Base_F : Go.Sh.Fn := ⟨16, bodyOf Tryz.f16, 17⟩
noncomputable def View_F : Go.Sh.Fn := ⟨17, bodyOf Tryz.f17, 17⟩
end Go.Proofs.YtembchgiajidaaaGreat
namespace Go.Proofs.YtembchgiajidaaaGreat
open Go.Sh
noncomputable def New_F : Go.Sh.Fn := ⟨9, bodyOf Tryz.f9, 56⟩
def newPipe : Pipe_byte := ⟨⟨4096, []⟩⟩
theorem pipe_New_4096 : z27_raw 4096 = some newPipe := by
 rw [z27_raw]
 rfl
abbrev nbox (s : Setup) : List AO := [.box 30 [.sc (.int .i64 s.Units), .sc (.int .i64 s.Ports), .sc (.int .i64 s.Room), .sl 58 (List.map Link.av s.Links) false], .box 87 [.sc (.int .i64 s.Units), .sc (.int .i64 s.Ports), .sc (.int .i64 s.Room), .sl 58 (List.map Link.av s.Links) false, .fm 2 0 vF, .fm 3 0 vF, .fm 4 0 vF]]
abbrev ntmp (z : Int) (s : Setup) : Tmps := [(1, .ptr 0 0 none), (5, .ptr 1 0 none), (19, .sc (.int .i64 s.Units)), (20, .sc (.int .i64 z))]
abbrev unewO (s : Setup) (k : Nat) : List AO := [.box 137 [.sc (.int .i64 (newSw s.Room).room), .sl 70 [] false, .fm (k + 1) 0 vF, .sc (.bool false)], .fam (rowF 150 []) 0]
theorem New_r8 {c0 : Ctx} (hc0 : c0.m.length = 0) (s : Setup) (R : Ending → World → Prop) (k : List PI) (z : Int) (us ds bs : List (Option (List AO))) (hb : (us.length + 1) * 8 ≤ reach)
  (A : AX Tryz.prog tab New_F c0 R (some ⟨k, ntmp z s, nbox s ++ [.fam (rowF 88 (us ++ [some (newSw s.Room).objs])) 0, .fam (rowF 90 ds) 0, .fam (rowF 90 bs) 0]⟩)) :
  AX Tryz.prog tab New_F c0 R (some ⟨.code [1,1,1,1,0,1,0,0,1,1,0,0,0] :: k, ntmp z s, nbox s ++ [.fam (rowF 88 us) 0, .fam (rowF 90 ds) 0, .fam (rowF 90 bs) 0]⟩) := by
 refine .rp hc0 [1,5,19,20] [
  ⟨7, [], [], .loud, [(28, .sc (.int .i64 s.Room))], nbox s ++ [.fam (rowF 88 us) 0, .fam (rowF 90 ds) 0, .fam (rowF 90 bs) 0], .ptr 5 0 none, nbox s ++ [.fam (rowF 88 us) 0, .fam (rowF 90 ds) 0, .fam (rowF 90 bs) 0] ++ unewO s 5⟩,
  ⟨8, [], [], .loud, [(29, .ptr 5 0 none)], nbox s ++ [.fam (rowF 88 us) 0, .fam (rowF 90 ds) 0, .fam (rowF 90 bs) 0] ++ unewO s 5, .bsl 88 7 0 1, nbox s ++ [.fam (rowF 88 us) 0, .fam (rowF 90 ds) 0, .fam (rowF 90 bs) 0] ++ unewO s 5 ++ [.box 88 [.ptr 5 0 none]]⟩,
  ⟨9, [], [], .loud, [(26, .fm 2 0 vF), (30, .bsl 88 7 0 1)], nbox s ++ [.fam (rowF 88 us) 0, .fam (rowF 90 ds) 0, .fam (rowF 90 bs) 0] ++ unewO s 5 ++ [.box 88 [.ptr 5 0 none]], .fm 2 1 vF, nbox s ++ [.famT (rowF 88 (us ++ [none])) 1 [(us.length, 5)], .fam (rowF 90 ds) 0, .fam (rowF 90 bs) 0] ++ unewO s 5 ++ [.box 88 [.ptr 5 0 none]]⟩]
  (List.replicate 4 (List.range 8)) (.cons (LQ.ch [] (unit_New_ok s.Room)) (.cons (LSpec.bs1 (p := 5) (e := 88) (by kernel_rfl)) (.cons (LSpec.fapp (o := 2) (k := 0) (n0 := 7) (p := 5) (by_ := 8) (e := 88) (e' := 88) (e'' := 88) (els := us) rfl rfl (by kernel_rfl) hb) .nil))) (by kernel_rfl) ?_
 exact .pu hc0 2 5 2 1 88 us (newSw s.Room).objs (.vf hc0 2 0 (.to A))
theorem New_r9 {c0 : Ctx} (hc0 : c0.m.length = 0) (s : Setup) (R : Ending → World → Prop) (k : List PI) (z : Int) (us ds bs : List (Option (List AO))) (hb : (ds.length + 1) * 8 ≤ reach)
  (A : AX Tryz.prog tab New_F c0 R (some ⟨k, ntmp z s, nbox s ++ [.fam (rowF 88 us) 0, .fam (rowF 90 (ds ++ [some newPipe.objs])) 0, .fam (rowF 90 bs) 0]⟩)) :
  AX Tryz.prog tab New_F c0 R (some ⟨.code [1,1,1,1,0,1,0,0,1,1,0,0,1,0] :: k, ntmp z s, nbox s ++ [.fam (rowF 88 us) 0, .fam (rowF 90 ds) 0, .fam (rowF 90 bs) 0]⟩) := by
 refine .rp hc0 [1,5,19,20] [
  ⟨5, [], [], .loud, [], nbox s ++ [.fam (rowF 88 us) 0, .fam (rowF 90 ds) 0, .fam (rowF 90 bs) 0], .ptr 5 0 none, nbox s ++ [.fam (rowF 88 us) 0, .fam (rowF 90 ds) 0, .fam (rowF 90 bs) 0] ++ [.box 140 [.ref chanK 6], .vals (.chan 4096) []]⟩,
  ⟨6, [], [], .loud, [(39, .ptr 5 0 none)], nbox s ++ [.fam (rowF 88 us) 0, .fam (rowF 90 ds) 0, .fam (rowF 90 bs) 0] ++ [.box 140 [.ref chanK 6], .vals (.chan 4096) []], .bsl 90 7 0 1, nbox s ++ [.fam (rowF 88 us) 0, .fam (rowF 90 ds) 0, .fam (rowF 90 bs) 0] ++ [.box 140 [.ref chanK 6], .vals (.chan 4096) []] ++ [.box 90 [.ptr 5 0 none]]⟩,
  ⟨7, [], [], .loud, [(38, .fm 3 0 vF), (40, .bsl 90 7 0 1)], nbox s ++ [.fam (rowF 88 us) 0, .fam (rowF 90 ds) 0, .fam (rowF 90 bs) 0] ++ [.box 140 [.ref chanK 6], .vals (.chan 4096) []] ++ [.box 90 [.ptr 5 0 none]], .fm 3 1 vF, nbox s ++ [.fam (rowF 88 us) 0, .famT (rowF 90 (ds ++ [none])) 1 [(ds.length, 5)], .fam (rowF 90 bs) 0] ++ [.box 140 [.ref chanK 6], .vals (.chan 4096) []] ++ [.box 90 [.ptr 5 0 none]]⟩]
  (List.replicate 3 (List.range 8)) (.cons (LQ.ch [] (z27_walk 4096 newPipe pipe_New_4096)) (.cons (LSpec.bs1 (p := 5) (e := 90) (by kernel_rfl)) (.cons (LSpec.fapp (o := 3) (k := 0) (n0 := 7) (p := 5) (by_ := 8) (e := 90) (e' := 90) (e'' := 90) (els := ds) rfl rfl (by kernel_rfl) hb) .nil))) (by kernel_rfl) ?_
 exact .pu hc0 3 5 2 1 90 ds newPipe.objs (.vf hc0 3 0 (.to A))
theorem New_r10 {c0 : Ctx} (hc0 : c0.m.length = 0) (s : Setup) (R : Ending → World → Prop) (k : List PI) (z : Int) (us ds bs : List (Option (List AO))) (hb : (bs.length + 1) * 8 ≤ reach)
  (A : AX Tryz.prog tab New_F c0 R (some ⟨k, ntmp z s, nbox s ++ [.fam (rowF 88 us) 0, .fam (rowF 90 ds) 0, .fam (rowF 90 (bs ++ [some newPipe.objs])) 0]⟩)) :
  AX Tryz.prog tab New_F c0 R (some ⟨.code [1,1,1,1,0,1,0,0,1,1,0,0,1,1] :: k, ntmp z s, nbox s ++ [.fam (rowF 88 us) 0, .fam (rowF 90 ds) 0, .fam (rowF 90 bs) 0]⟩) := by
 refine .rp hc0 [1,5,19,20] [
  ⟨5, [], [], .loud, [], nbox s ++ [.fam (rowF 88 us) 0, .fam (rowF 90 ds) 0, .fam (rowF 90 bs) 0], .ptr 5 0 none, nbox s ++ [.fam (rowF 88 us) 0, .fam (rowF 90 ds) 0, .fam (rowF 90 bs) 0] ++ [.box 140 [.ref chanK 6], .vals (.chan 4096) []]⟩,
  ⟨6, [], [], .loud, [(49, .ptr 5 0 none)], nbox s ++ [.fam (rowF 88 us) 0, .fam (rowF 90 ds) 0, .fam (rowF 90 bs) 0] ++ [.box 140 [.ref chanK 6], .vals (.chan 4096) []], .bsl 90 7 0 1, nbox s ++ [.fam (rowF 88 us) 0, .fam (rowF 90 ds) 0, .fam (rowF 90 bs) 0] ++ [.box 140 [.ref chanK 6], .vals (.chan 4096) []] ++ [.box 90 [.ptr 5 0 none]]⟩,
  ⟨7, [], [], .loud, [(48, .fm 4 0 vF), (50, .bsl 90 7 0 1)], nbox s ++ [.fam (rowF 88 us) 0, .fam (rowF 90 ds) 0, .fam (rowF 90 bs) 0] ++ [.box 140 [.ref chanK 6], .vals (.chan 4096) []] ++ [.box 90 [.ptr 5 0 none]], .fm 4 1 vF, nbox s ++ [.fam (rowF 88 us) 0, .fam (rowF 90 ds) 0, .famT (rowF 90 (bs ++ [none])) 1 [(bs.length, 5)]] ++ [.box 140 [.ref chanK 6], .vals (.chan 4096) []] ++ [.box 90 [.ptr 5 0 none]]⟩]
  (List.replicate 3 (List.range 8)) (.cons (LQ.ch [] (z27_walk 4096 newPipe pipe_New_4096)) (.cons (LSpec.bs1 (p := 5) (e := 90) (by kernel_rfl)) (.cons (LSpec.fapp (o := 4) (k := 0) (n0 := 7) (p := 5) (by_ := 8) (e := 90) (e' := 90) (e'' := 90) (els := bs) rfl rfl (by kernel_rfl) hb) .nil))) (by kernel_rfl) ?_
 exact .pu hc0 4 5 2 1 90 bs newPipe.objs (.vf hc0 4 0 (.to A))
def newNet (s : Setup) : NetS := ⟨s, List.replicate s.Units.toNat (newSw s.Room), List.replicate s.Units.toNat newPipe, List.replicate s.Units.toNat newPipe⟩
theorem newNet_objs (s : Setup) : (newNet s).objs = [.box 87 [.sc (.int .i64 s.Units), .sc (.int .i64 s.Ports), .sc (.int .i64 s.Room), .sl 58 (List.map Link.av s.Links) false, .fm 1 0 vF, .fm 2 0 vF, .fm 3 0 vF], .fam (rowF 88 (List.replicate s.Units.toNat (some (newSw s.Room).objs))) 0, .fam (rowF 90 (List.replicate s.Units.toNat (some newPipe.objs))) 0, .fam (rowF 90 (List.replicate s.Units.toNat (some newPipe.objs))) 0] := by
 simp only [newNet, NetS.objs, List.map_replicate]
theorem New_l0 {c0 : Ctx} (hc0 : c0.m.length = 0) (s : Setup) (hU0 : 0 ≤ s.Units) (hU : s.Units ≤ 1000) : ∀ (j i : Nat) (z : Int) (hz : z = ((i : Nat) : Int)) (hij : i + j = s.Units.toNat), AX Tryz.prog tab New_F c0 (Rp tab.S c0 (.tup [.ptr 0 0 none, .sc (.int .i64 0)]) (newNet s).objs) (some ⟨[.code [1,1,1,1,0,1,0,0], .loop [1,1,1,1,0,1,0], .blk 0, .code [1,1,1,1,1]], ntmp z s, nbox s ++ [.fam (rowF 88 (List.replicate i (some (newSw s.Room).objs))) 0, .fam (rowF 90 (List.replicate i (some newPipe.objs))) 0, .fam (rowF 90 (List.replicate i (some newPipe.objs))) 0]⟩) := by
 intro j
 induction j with
 | zero =>
  intro i z hz hij
  subst hz
  have hi : i = s.Units.toNat := by omega
  have hc : decide (((i : Nat) : Int) < s.Units) = false := decide_eq_false (by omega)
  subst hi
  rw [newNet_objs]
  exact .nr (.go (.kb 21 hc (.dn (.go (.ret Tryz.func9 hc0 [1,2,3,4])))))
 | succ j ih =>
  intro i z hz hij
  subst hz
  have hc : decide (((i : Nat) : Int) < s.Units) = true := decide_eq_true (by omega)
  have hw : IntKind.i64.wrap (((i : Nat) : Int) + 1) = ((i + 1 : Nat) : Int) := wrapI_succ (by omega)
  have hfit : ∀ x : Option (List AO), ((List.replicate i x).length + 1) * 8 ≤ reach := fun x => by rw [List.length_replicate]; show _ ≤ 140737488355328; omega
  let U := List.replicate i (some (newSw s.Room).objs)
  let D := List.replicate i (some newPipe.objs)
  let K3 : List PI := [.blk 1, .code [1,1,1,1,0,1,0,0,1,1,1], .loop [1,1,1,1,0,1,0], .blk 0, .code [1,1,1,1,1]]
  refine .nr (.go (.kb 21 hc (.dn (.tr (.kp [1,5,19,20] (.to (New_r8 hc0 s _ (.code [1,1,1,1,0,1,0,0,1,1,0,0,1] :: K3) ((i : Nat) : Int) U D D (hfit _) ?_)))))))
  refine .tr (.to (New_r9 hc0 s _ (.code [1,1,1,1,0,1,0,0,1,1,0,0,1,1] :: K3) ((i : Nat) : Int) (U ++ [some (newSw s.Room).objs]) D D (hfit _) (New_r10 hc0 s _ K3 ((i : Nat) : Int) (U ++ [some (newSw s.Room).objs]) (D ++ [some newPipe.objs]) D (hfit _) ?_)))
  have h := ih (i + 1) _ hw (by omega)
  rw [List.replicate_succ', List.replicate_succ'] at h
  exact .nr (.go (.dn (.go (.into (.kp [1,5,19,20] (.to h))))))
theorem New_ok (s : Setup) (he : z24 s = 0) (hU0 : 0 ≤ s.Units) (hU : s.Units ≤ 1000) : ACalls Tryz.prog tab.S 9 [Setup.av s] [] (.tup [.ptr 0 0 none, .sc (.int .i64 0)]) (newNet s).objs := by
 have hc := z24_calls s
 rw [he] at hc
 refine .of_AX New_F Tryz.func9 fun c0 hc0 => ?_
 refine .go (.nr (.gn 1 (.cp [1,7] (hc) (.go (.dn (.nr (.go (.dn (.nr (.gn 2 ?_))))))))))
 exact .cp [1,13] (z25_calls s.Links false) (.go (.dn (.nr (.go (.dn (.adf 1 4 88 (.adf 1 5 90 (.adf 1 6 90 (.nr (.go (.dn (.tr (.into (.kp [1,5,19,20] (.to (New_l0 hc0 s hU0 hU s.Units.toNat 0 0 rfl (by omega)))))))))))))))))
end Go.Proofs.YtembchgiajidaaaGreat
namespace Go.Proofs.YtembchgiajidaaaGreat
open Go.Sh
noncomputable def ansr_F : Go.Sh.Fn := ⟨8, bodyOf Tryz.f8, 45⟩
def s1 : Setup := ⟨1, 2, 4, []⟩
def na : NetS := ⟨s1, [newSw 4], [⟨⟨4096, [[2,0,0,0,7]]⟩⟩], [newPipe]⟩
def nb : NetS := ⟨s1, [newSw 4], [newPipe], [⟨⟨4096, [[7,0,0,0,7]]⟩⟩]⟩
theorem wf1 : (newNet s1).wf := ⟨rfl, rfl⟩
theorem wfa : na.wf := ⟨rfl, rfl⟩
theorem wfb : nb.wf := ⟨rfl, rfl⟩
theorem hsnd : sendN (newNet s1) 0 [2,0,0,0,7] = (0, na) := by kernel_rfl
theorem dec1 : z36_raw [2,0,0,0,7] = some (msg0 2 7, 0) := by kernel_rfl
theorem dec2 : z36_raw [7,0,0,0,7] = some (msg0 7 7, 0) := by kernel_rfl
theorem enc2 : z67_raw (msg0 7 7) = some ([7,0,0,0,7], 0) := by kernel_rfl
theorem snd2 : z66 (msg0 2 7) = true := by kernel_rfl
theorem hans : answerN { popN na 0 ⟨⟨4096, [[2,0,0,0,7]]⟩⟩ with units := na.units.set (0 : Int).toNat (newSw 4) } 0 [msg0 7 7] = some nb := by
 rw [answerN, enc2]
 kernel_rfl
theorem hback : backN nb 0 = some (msg0 7 7, 0, newNet s1) := by
 have h : backN nb 0 = (z36_raw [7,0,0,0,7]).map (fun r => (r.1, r.2, newNet s1)) := by kernel_rfl
 rw [h, dec2]
 rfl
theorem answers_ok : ACalls Tryz.prog tab.S 8 [] [] (.sc (.bool true)) [] := by
 have hS := Send_ok (newNet s1) wf1 0 [2,0,0,0,7] false
 rw [hsnd] at hS
 have hD := Down_ok na wfa 0 rfl ⟨⟨4096, [[2,0,0,0,7]]⟩⟩ rfl (msg0 2 7) 0 rfl dec1 nb (.inr ⟨rfl, newSw 4, newSw 4, [msg0 7 7], true, rfl, Take_bar (newSw 4) 7 snd2, by simp, hans⟩)
 have hB := Back_ok nb wfb 0 _ hback
 refine .of_AX ansr_F Tryz.func8 fun c0 hc0 => ?_
 refine .go (.nr (.gn 1 (.ch [7] [] (New_ok s1 (by kernel_rfl) (by decide) (by decide)) ?_ (ds := [(58, false)]))))
 refine .go (.dn (.nr (.gn 8 (.bs [1,16,17,18] (List.map (intA .u8) [2,0,0,0,7]) (.cvs [1,16,17,19] 4 1000000 5 (List.map (intA .u8) [2,0,0,0,7]) (by simp) ?_)))))
 refine .gch [1,16,20] [0,1,2,3] [4] hS ?_
 refine .go (.ch [1,23,25] [0,1,2,3] hD ?_)
 refine .go (.dn (.nr (.gn 1 (.ch [30] [0,1,2,3] hB ?_))))
 refine .go (.dn (.go ?_))
 exact .ret Tryz.func8 hc0
end Go.Proofs.YtembchgiajidaaaGreat
namespace Go.Proofs.YtembchgiajidaaaGreat
open Go.Sh
section
variable (u : Int)
noncomputable def Tick_F : Go.Sh.Fn := ⟨22, bodyOf Tryz.f22, 34⟩
noncomputable def Fail_F : Go.Sh.Fn := ⟨23, bodyOf Tryz.f23, 17⟩
noncomputable def Packet_F : Go.Sh.Fn := ⟨18, bodyOf Tryz.f18, 67⟩
theorem there_nil : ACalls Tryz.prog tab.S 28 [.sc (.pointer none), .sc (.int .i64 u)] [] (.sc (.bool false)) [] := by
 refine .of_AX there_F Tryz.func28 fun c0 hc0 => ?_
 exact .go (.ret Tryz.func28 hc0)
theorem Send_nil (b : List Int) (f_b : Bool) : ACalls Tryz.prog tab.S 10 [.sc (.pointer none), .sc (.int .i64 u), .sl 5 (List.map (intA .u8) b) f_b] [] (.sc (.int .i64 1)) [] := by
 refine .of_AX Send_F Tryz.func10 fun c0 hc0 => ?_
 exact .go (.nr (.gn 2 (.cp [10] (there_nil u) (.go (.dn (.go (.ret Tryz.func10 hc0)))))))
theorem Down_nil : ACalls Tryz.prog tab.S 13 [.sc (.pointer none), .sc (.int .i64 u)] [] (.sc (.int .i64 1)) [] := by
 refine .of_AX Down_F Tryz.func13 fun c0 hc0 => ?_
 exact .go (.nr (.gn 2 (.cp [11] (there_nil u) (.go (.dn (.go (.ret Tryz.func13 hc0)))))))
theorem Back_nil : ACalls Tryz.prog tab.S 14 [.sc (.pointer none), .sc (.int .i64 u)] [] (.tup [Msg.av (msg0 0 0), .sc (.int .i64 1)]) [] := by
 refine .of_AX Back_F Tryz.func14 fun c0 hc0 => ?_
 exact .go (.nr (.gn 2 (.cp [4,10] (there_nil u) (.go (.dn (.go (.ret Tryz.func14 hc0 [] [(60, false),(70, false)])))))))
theorem Waiting_nil : ACalls Tryz.prog tab.S 12 [.sc (.pointer none), .sc (.int .i64 u)] [] (.tup [.sc (.int .i64 0), .sc (.int .i64 0)]) [] := by
 refine .of_AX Waiting_F Tryz.func12 fun c0 hc0 => ?_
 exact .go (.nr (.gn 2 (.cp [8] (there_nil u) (.go (.dn (.go (.ret Tryz.func12 hc0)))))))
theorem Base_nil : ACalls Tryz.prog tab.S 16 [.sc (.pointer none), .sc (.int .i64 u)] [] (.sl 0 [] true) [] := by
 refine .of_AX Base_F Tryz.func16 fun c0 hc0 => ?_
 exact .go (.nr (.gn 2 (.cp [7] (there_nil u) (.go (.dn (.go (.ret Tryz.func16 hc0)))))))
theorem View_nul : ACalls Tryz.prog tab.S 17 [.sc (.pointer none), .sc (.int .i64 u)] [] (.sl 0 [] true) [] := by
 refine .of_AX View_F Tryz.func17 fun c0 hc0 => ?_
 exact .go (.nr (.gn 2 (.cp [7] (there_nil u) (.go (.dn (.go (.ret Tryz.func17 hc0)))))))
theorem Tick_nil : ACalls Tryz.prog tab.S 22 [.sc (.pointer none), .sc (.int .i64 u)] [] (.sc (.int .i64 1)) [] := by
 refine .of_AX Tick_F Tryz.func22 fun c0 hc0 => ?_
 exact .go (.ret Tryz.func22 hc0)
theorem Fail_nil : ACalls Tryz.prog tab.S 23 [.sc (.pointer none), .sc (.int .i64 u)] [] (.sc (.int .i64 1)) [] := by
 refine .of_AX Fail_F Tryz.func23 fun c0 hc0 => ?_
 exact .go (.nr (.gn 2 (.cp [7] (there_nil u) (.go (.dn (.go (.ret Tryz.func23 hc0)))))))
theorem Packet_nil (h : List Int) : ACalls Tryz.prog tab.S 18 [.sc (.pointer none), End.av ⟨u, 1⟩, .arr .u64 12 h] [] (.tup [.sl 0 [] true, .sl 0 [] true, .sc (.int .i64 1)]) [] := by
 refine .of_AX Packet_F Tryz.func18 fun c0 hc0 => ?_
 exact .go (.ret Tryz.func18 hc0)
noncomputable def nn_F : Go.Sh.Fn := ⟨7, bodyOf Tryz.f7, 98⟩
theorem nn_hand (b : List Int) (h : List Int) (f_b : Bool) : ACalls Tryz.prog tab.S 7 [.sc (.int .i64 u), .sl 5 (List.map (intA .u8) b) f_b, .arr .u64 12 h] [] (.sc (.bool true)) [] := by
 refine .of_AX nn_F Tryz.func7 fun c0 hc0 => ?_
 refine .go (.nr (.gn 2 (.cp [0,1,5,7,18] (Back_nil u) (.go (.dn (.nr (.gn 2 (.cp [0,1,5,7,9,24] (Waiting_nil u) (.go (.dn (.nr (.gn 4 ?_))))))))))))
 refine .cp [0,1,7,9,10,11,32] (Packet_nil u h) (.go (.dn (.nr ?_)))
 refine .cp [0,1,7,9,10,11,12,13,14,36] answers_ok (.gn 4 (.cp [0,1,7,9,10,11,12,13,14,37,41] (Send_nil u b f_b) (.gn 5 (.cp [0,1,7,9,10,11,12,13,14,44,47] (Down_nil u) ?_))))
 refine .gn 9 (.cp [0,1,7,9,10,11,12,13,14,54,57] (Tick_nil u) (.gn 5 (.cp [0,1,7,9,10,11,12,13,14,60,63] (Fail_nil u) ?_)))
 refine .gn 23 (.cp [0,7,84,87] (Base_nil u) (.gn 6 (.cp [91,94] (View_nul u) (.go (.dn (.go ?_))))))
 exact .ret Tryz.func7 hc0
end
end Go.Proofs.YtembchgiajidaaaGreat