import Derived.Test.YtbnpoapmnkfhkaaGreatDoorZt09
import Derived.Deep.RegionHeld3
set_option maxRecDepth 100000
set_option maxHeartbeats 2000000
set_option linter.unusedVariables false
set_option linter.unusedSimpArgs false
namespace Go.Proofs.YtbnpoapmnkfhkaaGreatDoor
open Go.Value renaming int → z, pointer → i, tuple → J
open Go.Lib renaming hid → y
open Nat renaming lt_of_lt_of_le → v, le_trans → G, le_refl → Ω
open Go.IntKind renaming u8 → u, u32 → s, i64 → A
open Option renaming none → t, some → o
open Go.Obj renaming cells → q
open Go.Proofs.YtbnpoapmnkfhkaaGreatDoor.Blk renaming new' → d
open Go.Proofs.YtbnpoapmnkfhkaaGreatDoor.Mod renaming trans' → c, refl → Q
open Go.Proofs.YtbnpoapmnkfhkaaGreatDoor renaming Mod → Z, zc → V, zh → P, ze → N, zg → E
open Go renaming bodyPost_ret → Y, results → K, Calls → I, World → H
open Go.Proofs.Tryz renaming prog → U, results142 → D, results143 → C, results146 → B
open Go.Ending renaming returned → S
open And renaming intro → R
open Go.RowKit renaming Hid → O
open Go.World renaming block_lt_of_cell? → M
open Go.RowKit
theorem zJ5 {w:H} {b n:Nat} {L:List Rc} {room:Nat} {F:List Nat} (h:IsSt w b n L room F) (hL:L.length≤100000) (r:Rc) (id:Nat) (hr:YO L id=o r):
 I U 194 #[i (o ⟨b,0,t⟩),rcv r] w fun e w'=>e=S (J #[z s id,z u 0])∧Z [] w w':=by
 obtain ⟨ba,bi,g,nt,j,T,Fa,hb,hA,hH,hT,hw,hj,h2,hcap,hnt,-⟩:=h;have c2:=hb.cell 2;simp only [List.getElem?_toArray,List.getElem?_cons_zero,List.getElem?_cons_succ] at c2;have hbl:=hb.lt;have IG:O (∀W,Z [] w W→_):=fun W m=>zW4 (hH.mod m (N)) (hT.mod m (N)) hw (by have:=(YJ hr);omega) hj h2 (V) r true id (fun _=>hr) (N)
 clear hb hA hH hT hw hj h2 hcap hnt hr;obtain ⟨kf,kt,kb,⟨klt,kla⟩,⟨kht,kha⟩⟩:=r;unfold rcv at *;simp only [if_true] at IG ⊢;obtain ⟨gk,hgk⟩:∃gk,gk=w.heap.size:=⟨_,rfl⟩;have gn1:¬b=gk:=V;have gn2:¬gk=b:=V;go_in;go_wp2_with fail;rw [←hgk];have B0:=d w #[z u kf,z u kt,z u kb,z u klt,z s kla,z u kht,z s kha] 139 gk hgk;have M0:O (Z [] w (w.alloc (q #[z u kf,z u kt,z u kb,z u klt,z s kla,z u kht,z s kha] 139))):=(Q _ _).alloc _;have c2:=(M0.out.cell (a:=⟨b,2,t⟩) hbl (N)).trans c2;generalize w.alloc (q #[z u kf,z u kt,z u kb,z u klt,z s kla,z u kht,z s kha] 139)=w0 at *;obtain ⟨q0,q1,q2,q3,q4,q5,q6⟩:=B0.cells7;have hk:=B0.lt;have hbl:=v hbl M0.out.size;clear B0 hgk
 go_region_held3 (fun w'=>w'.cell? ⟨b,2,t⟩=o (i (o ⟨bi,0,t⟩))∧w'.cell? ⟨gk,0,t⟩=o (z u kf)∧w'.cell? ⟨gk,1,t⟩=o (z u kt)∧w'.cell? ⟨gk,2,t⟩=o (z u kb)∧w'.cell? ⟨gk,3,t⟩=o (z u klt)∧w'.cell? ⟨gk,4,t⟩=o (z s kla)∧w'.cell? ⟨gk,5,t⟩=o (z u kht)∧w'.cell? ⟨gk,6,t⟩=o (z s kha)) (go_keep) (first | (go_at_call 208;refine (IG.out _ (M0.out.trans' (E))).mono ?_;rintro e' w1 ⟨rfl,m_w1⟩;have M_w1:=c (show Z _ w0 _ from E) m_w1;have c2:=(M_w1.cell (a:=⟨b,2,t⟩) hbl (P)).trans c2;have q0:=(M_w1.cell (a:=⟨gk,0,t⟩) hk (P)).trans q0;have q1:=(M_w1.cell (a:=⟨gk,1,t⟩) hk (P)).trans q1;have q2:=(M_w1.cell (a:=⟨gk,2,t⟩) hk (P)).trans q2;have q3:=(M_w1.cell (a:=⟨gk,3,t⟩) hk (P)).trans q3;have q4:=(M_w1.cell (a:=⟨gk,4,t⟩) hk (P)).trans q4;have q5:=(M_w1.cell (a:=⟨gk,5,t⟩) hk (P)).trans q5;have q6:=(M_w1.cell (a:=⟨gk,6,t⟩) hk (P)).trans q6;have hbl:=v hbl M_w1.size;have hk:=v hk M_w1.size))
 have M1:=y (M0.out.trans' M_w1);clear M0 m_w1 M_w1 IG;go_wp2_with fail;go_ret2;exact ⟨rfl,M1.out⟩
theorem zK8 {w:H} {b n:Nat} {L:List Rc} {room:Nat} {F:List Nat} (h:IsSt w b n L room F) (hL:L.length≤100000) (hroom:L.length < room) (hrm:room≤1048576) (hn:n≤16) (r:Rc) (hr:r∉L) (hR:RightR r n)
 (hlo:LeadsP L r.f r.lo (r.bot+1) n) (hhi:LeadsP L r.f r.hi (r.bot+1) n):
 I U 194 #[i (o ⟨b,0,t⟩),rcv r] w fun e w'=>e=S (J #[z s ((L.length+2:Nat):Int),z u 0])∧∃F',IsSt w' b n (L++[r]) room F'∧Z F w w'∧∀k∈F',k∈F∨w.heap.size≤k:=by
 have LO:O (∀W,Z [] w W→_):=fun W m=>YI (h.mod m (N)) (V) hn r.f hR.f1 hR.f5 r.lo (r.bot+1) (jk) hlo
 have LH:O (∀W,Z [] w W→_):=fun W m=>YI (h.mod m (N)) (V) hn r.f hR.f1 hR.f5 r.hi (r.bot+1) (jk) hhi
 have RT:=y (yy2 r n hR);obtain ⟨ba,bi,g,nt,j,T,Fa,hb,hA,hH,hT,hw,hj,h2,hcap,hnt,hnd,rfl,d1,d2,d3,d4,d5,d6⟩:=h;have AP:O (∀W,Z [] w W→_):=fun W m=>yv3 (hA.mod m (N)) hroom hrm r
 have HR:O (r∉L):=hr;have HK:=y (R hb (R hH (R hT (R hw (R hj (R h2 (R hcap (R hnt hnd))))))));have hgF:∀gk,w.heap.size≤gk→gk∉Fa:=fun gk h1 h2=>by have:=hA.lt gk h2;omega
 have c0:=hb.cell 0;have c1:=hb.cell 1;have c2:=hb.cell 2;simp only [List.getElem?_toArray,List.getElem?_cons_zero,List.getElem?_cons_succ] at c0 c1 c2;have hbl:=hb.lt;have IG:O (∀W,Z [] w W→_):=fun W m=>zW4 (hH.mod m (N)) (hT.mod m (N)) hw (V) hj h2 (V) r false 0 (N) (fun _=>hr)
 have hbot:(r.bot:Int)≤16:=jk;clear hb hA hH hT hw hj h2 hcap hnt hr hlo hhi hR hnd;obtain ⟨kf,kt,kb,⟨klt,kla⟩,⟨kht,kha⟩⟩:=r;unfold rcv edv at *;simp only at IG LO LH RT AP hbot ⊢;obtain ⟨gk,hgk⟩:∃gk,gk=w.heap.size:=⟨_,rfl⟩;have gn1:¬b=gk:=V;have gn2:¬gk=b:=V;have hgF:=hgF gk (V);have hgk2:w.heap.size≤gk:=V;go_in;go_wp2_with fail;rw [←hgk];have B0:=d w #[z u kf,z u kt,z u kb,z u klt,z s kla,z u kht,z s kha] 139 gk hgk;have M0:O (Z [] w (w.alloc (q #[z u kf,z u kt,z u kb,z u klt,z s kla,z u kht,z s kha] 139))):=(Q _ _).alloc _;have c0:=(M0.out.cell (a:=⟨b,0,t⟩) hbl (N)).trans c0;have c1:=(M0.out.cell (a:=⟨b,1,t⟩) hbl (N)).trans c1;have c2:=(M0.out.cell (a:=⟨b,2,t⟩) hbl (N)).trans c2;generalize w.alloc (q #[z u kf,z u kt,z u kb,z u klt,z s kla,z u kht,z s kha] 139)=w0 at *;obtain ⟨q0,q1,q2,q3,q4,q5,q6⟩:=B0.cells7;have hk:=B0.lt;have hbl:=v hbl M0.out.size;clear B0 hgk
 go_region_held3 (fun w'=>w'.cell? ⟨b,0,t⟩=o (z A n)∧w'.cell? ⟨b,1,t⟩=o (i (o ⟨ba,0,t⟩))∧w'.cell? ⟨b,2,t⟩=o (i (o ⟨bi,0,t⟩))∧w'.cell? ⟨gk,0,t⟩=o (z u kf)∧w'.cell? ⟨gk,1,t⟩=o (z u kt)∧w'.cell? ⟨gk,2,t⟩=o (z u kb)∧w'.cell? ⟨gk,3,t⟩=o (z u klt)∧w'.cell? ⟨gk,4,t⟩=o (z s kla)∧w'.cell? ⟨gk,5,t⟩=o (z u kht)∧w'.cell? ⟨gk,6,t⟩=o (z s kha)) (go_keep) (first | (go_at_call 208;refine (IG.out _ (M0.out.trans' (E))).mono ?_;rintro e' w1 ⟨rfl,m_w1⟩;have M_w1:=c (show Z _ w0 _ from E) m_w1;have c0:=(M_w1.cell (a:=⟨b,0,t⟩) hbl (P)).trans c0;have c1:=(M_w1.cell (a:=⟨b,1,t⟩) hbl (P)).trans c1;have c2:=(M_w1.cell (a:=⟨b,2,t⟩) hbl (P)).trans c2;have q0:=(M_w1.cell (a:=⟨gk,0,t⟩) hk (P)).trans q0;have q1:=(M_w1.cell (a:=⟨gk,1,t⟩) hk (P)).trans q1;have q2:=(M_w1.cell (a:=⟨gk,2,t⟩) hk (P)).trans q2;have q3:=(M_w1.cell (a:=⟨gk,3,t⟩) hk (P)).trans q3;have q4:=(M_w1.cell (a:=⟨gk,4,t⟩) hk (P)).trans q4;have q5:=(M_w1.cell (a:=⟨gk,5,t⟩) hk (P)).trans q5;have q6:=(M_w1.cell (a:=⟨gk,6,t⟩) hk (P)).trans q6;have hbl:=v hbl M_w1.size;have hk:=v hk M_w1.size))
 have M1:=y (M0.out.trans' M_w1);clear M0 m_w1 M_w1 IG;have e1:((kb+1:Nat):Int)=(kb:Int)+1:=V
 have LO:O (∀W,Z [] w1 W→I U 86 #[i (o ⟨b,0,t⟩),z u kf,.agg #[z u klt,z s kla],z A ((kb:Int)+1)] W fun e w'=>e=S (.bool true)∧Z [] W w'):=fun W m=>by
  rw [←e1];exact LO.out W (M1.out.trans' m)
 have LH:O (∀W,Z [] w1 W→I U 86 #[i (o ⟨b,0,t⟩),z u kf,.agg #[z u kht,z s kha],z A ((kb:Int)+1)] W fun e w'=>e=S (.bool true)∧Z [] W w'):=fun W m=>by
  rw [←e1];exact LH.out W (M1.out.trans' m)
 clear e1;go_wp2_with fail
 go_region_held3 (fun w'=>w'.cell? ⟨b,0,t⟩=o (z A n)∧w'.cell? ⟨b,1,t⟩=o (i (o ⟨ba,0,t⟩))∧w'.cell? ⟨b,2,t⟩=o (i (o ⟨bi,0,t⟩))∧w'.cell? ⟨gk,0,t⟩=o (z u kf)∧w'.cell? ⟨gk,1,t⟩=o (z u kt)∧w'.cell? ⟨gk,2,t⟩=o (z u kb)∧w'.cell? ⟨gk,3,t⟩=o (z u klt)∧w'.cell? ⟨gk,4,t⟩=o (z s kla)∧w'.cell? ⟨gk,5,t⟩=o (z u kht)∧w'.cell? ⟨gk,6,t⟩=o (z s kha)) (go_keep) (first | (go_at_call 209;refine (RT.out _).mono ?_;rintro e' wa ⟨rfl,m_wa⟩;have M_wa:=c (show Z _ w1 _ from E) m_wa;have c0:=(M_wa.cell (a:=⟨b,0,t⟩) hbl (P)).trans c0;have c1:=(M_wa.cell (a:=⟨b,1,t⟩) hbl (P)).trans c1;have c2:=(M_wa.cell (a:=⟨b,2,t⟩) hbl (P)).trans c2;have q0:=(M_wa.cell (a:=⟨gk,0,t⟩) hk (P)).trans q0;have q1:=(M_wa.cell (a:=⟨gk,1,t⟩) hk (P)).trans q1;have q2:=(M_wa.cell (a:=⟨gk,2,t⟩) hk (P)).trans q2;have q3:=(M_wa.cell (a:=⟨gk,3,t⟩) hk (P)).trans q3;have q4:=(M_wa.cell (a:=⟨gk,4,t⟩) hk (P)).trans q4;have q5:=(M_wa.cell (a:=⟨gk,5,t⟩) hk (P)).trans q5;have q6:=(M_wa.cell (a:=⟨gk,6,t⟩) hk (P)).trans q6;have hbl:=v hbl M_wa.size;have hk:=v hk M_wa.size) | (go_at_call 86;with_reducible refine (LO.out _ (M_wa.trans' (E))).mono ?_;rintro e' wb ⟨rfl,m_wb⟩;have M_wb:=c (show Z _ wa _ from E) m_wb;have c0:=(M_wb.cell (a:=⟨b,0,t⟩) hbl (P)).trans c0;have c1:=(M_wb.cell (a:=⟨b,1,t⟩) hbl (P)).trans c1;have c2:=(M_wb.cell (a:=⟨b,2,t⟩) hbl (P)).trans c2;have q0:=(M_wb.cell (a:=⟨gk,0,t⟩) hk (P)).trans q0;have q1:=(M_wb.cell (a:=⟨gk,1,t⟩) hk (P)).trans q1;have q2:=(M_wb.cell (a:=⟨gk,2,t⟩) hk (P)).trans q2;have q3:=(M_wb.cell (a:=⟨gk,3,t⟩) hk (P)).trans q3;have q4:=(M_wb.cell (a:=⟨gk,4,t⟩) hk (P)).trans q4;have q5:=(M_wb.cell (a:=⟨gk,5,t⟩) hk (P)).trans q5;have q6:=(M_wb.cell (a:=⟨gk,6,t⟩) hk (P)).trans q6;have hbl:=v hbl M_wb.size;have hk:=v hk M_wb.size) | (go_at_call 86;with_reducible refine (LH.out _ (M_wa.trans' (M_wb.trans' (E)))).mono ?_;rintro e' wc ⟨rfl,m_wc⟩;have M_wc:=c (show Z _ wb _ from E) m_wc;have c0:=(M_wc.cell (a:=⟨b,0,t⟩) hbl (P)).trans c0;have c1:=(M_wc.cell (a:=⟨b,1,t⟩) hbl (P)).trans c1;have c2:=(M_wc.cell (a:=⟨b,2,t⟩) hbl (P)).trans c2;have q0:=(M_wc.cell (a:=⟨gk,0,t⟩) hk (P)).trans q0;have q1:=(M_wc.cell (a:=⟨gk,1,t⟩) hk (P)).trans q1;have q2:=(M_wc.cell (a:=⟨gk,2,t⟩) hk (P)).trans q2;have q3:=(M_wc.cell (a:=⟨gk,3,t⟩) hk (P)).trans q3;have q4:=(M_wc.cell (a:=⟨gk,4,t⟩) hk (P)).trans q4;have q5:=(M_wc.cell (a:=⟨gk,5,t⟩) hk (P)).trans q5;have q6:=(M_wc.cell (a:=⟨gk,6,t⟩) hk (P)).trans q6;have hbl:=v hbl M_wc.size;have hk:=v hk M_wc.size))
 have M2:=y (M1.out.trans' (M_wa.trans' (M_wb.trans' M_wc)));clear M1 M_wa M_wb M_wc m_wa m_wb m_wc LO LH RT;go_wp2_with fail
 go_region_held3 (fun w'=>w'.cell? ⟨b,0,t⟩=o (z A n)∧w'.cell? ⟨b,1,t⟩=o (i (o ⟨ba,0,t⟩))∧w'.cell? ⟨b,2,t⟩=o (i (o ⟨bi,0,t⟩))∧w'.cell? ⟨gk,0,t⟩=o (z u kf)∧w'.cell? ⟨gk,1,t⟩=o (z u kt)∧w'.cell? ⟨gk,2,t⟩=o (z u kb)∧w'.cell? ⟨gk,3,t⟩=o (z u klt)∧w'.cell? ⟨gk,4,t⟩=o (z s kla)∧w'.cell? ⟨gk,5,t⟩=o (z u kht)∧w'.cell? ⟨gk,6,t⟩=o (z s kha)) (go_keep) (first | (go_at_call 210;refine (AP.out _ (M2.out.trans' (E))).mono ?_;rintro e' w2 ⟨rfl,F2,hA2,m_w2,hF2⟩;have M_w2:=c (show Z _ wc _ from E) m_w2;have c0:=(M_w2.cell (a:=⟨b,0,t⟩) hbl (P)).trans c0;have c1:=(M_w2.cell (a:=⟨b,1,t⟩) hbl (P)).trans c1;have c2:=(M_w2.cell (a:=⟨b,2,t⟩) hbl (P)).trans c2;have q0:=(M_w2.cell (a:=⟨gk,0,t⟩) hk (P)).trans q0;have q1:=(M_w2.cell (a:=⟨gk,1,t⟩) hk (P)).trans q1;have q2:=(M_w2.cell (a:=⟨gk,2,t⟩) hk (P)).trans q2;have q3:=(M_w2.cell (a:=⟨gk,3,t⟩) hk (P)).trans q3;have q4:=(M_w2.cell (a:=⟨gk,4,t⟩) hk (P)).trans q4;have q5:=(M_w2.cell (a:=⟨gk,5,t⟩) hk (P)).trans q5;have q6:=(M_w2.cell (a:=⟨gk,6,t⟩) hk (P)).trans q6;have hbl:=v hbl M_w2.size;have hk:=v hk M_w2.size))
 have hszc:=M2.out.size;have hF2':O (∀k∈F2,k∈Fa∨w.heap.size≤k):=fun k hk=>(hF2 k hk).imp id (fun h=>G hszc (xQ))
 have HA2:=y hA2;have M3:=y M_w2;have hsz2:=M_w2.size;clear hA2 hF2 m_w2 M_w2 AP;obtain ⟨k1,k2,k3,k4,k5,k6,k7,k8,k9⟩:=HK.out;have nbi:=k2.lt;have nbg:=k3.lt;have HH2:=y ((k2.mod M2.out (N)).mod M3.out d5);have HT2:=y ((k3.mod M2.out (N)).mod M3.out d6);have HB2:=y ((k1.mod M2.out (N)).mod M3.out d3)
 have hj19:j+1≤20:=by
  rcases Nat.lt_or_ge j 19 with h | h
  ·omega
  ·have:=Nat.pow_le_pow_right (n:=2) (V) h;omega
 have RL:O (∀k' id',zL2 (L++[⟨kf,kt,kb,⟨klt,kla⟩,⟨kht,kha⟩⟩]) k' id'↔(k'=⟨kf,kt,kb,⟨klt,kla⟩,⟨kht,kha⟩⟩∧id'=L.length+2)∨(k'≠⟨kf,kt,kb,⟨klt,kla⟩,⟨kht,kha⟩⟩∧zL2 L k' id')):=fun k' id'=>by
  constructor
  ·intro h;rcases zp6 h with h | h
   ·exact .inl h
   ·exact .inr ⟨fun e=>HR.out (e▸zk8 h),h⟩
  ·rintro (⟨rfl,rfl⟩ | ⟨_,h⟩)
   ·exact zg6 _ _
   ·exact zb2 h _
 have e2:((L.length+2:Nat):Int)=(L.length:Int)+2:=V
 have IP:O (∀W,Z [] w2 W→I U 211 #[i (o ⟨bi,0,t⟩),.agg #[z u kf,z u kt,z u kb,z u klt,z s kla,z u kht,z s kha],z s ((L.length:Int)+2)] W fun e w'=>e=S (J #[z s 0,.bool false])∧
  ∃g' n' T',Hd w' bi g' n' (L.length+1)∧Tab w' g' n' T'∧IW n' (hm n') T' (zL2 (L++[⟨kf,kt,kb,⟨klt,kla⟩,⟨kht,kha⟩⟩])) (L.length+1)∧((n'=nt∧g'=g∧2 *(L.length+1)≤nt)∨(n'=2 *nt∧W.heap.size≤g'∧nt < 2 *(L.length+1)))∧Z [bi,g] W w'):=fun W m=>by
  rw [←e2];exact yr8 (HH2.out.mod m (N)) (HT2.out.mod m (N)) k4 d4 (V) hj19 k5 k6 ⟨kf,kt,kb,⟨klt,kla⟩,⟨kht,kha⟩⟩ (L.length+2) (V) (fun old h=>HR.out (zk8 h)) RL.out
 have K5:=y (R k4 (R k5 (R k6 (R k7 (R k8 k9)))));clear k1 k2 k3 k4 k5 k6 k7 k8 k9 HK HH2 HT2 hj19 RL;have nb1:b∉[bi,g]:=by simp;exact ⟨d1,d2⟩
 have nb2:gk∉[bi,g]:=zj;go_wp2_with fail
 go_region_held3 (fun w'=>w'.cell? ⟨b,0,t⟩=o (z A n)∧w'.cell? ⟨b,1,t⟩=o (i (o ⟨ba,0,t⟩))∧w'.cell? ⟨b,2,t⟩=o (i (o ⟨bi,0,t⟩))∧w'.cell? ⟨gk,0,t⟩=o (z u kf)∧w'.cell? ⟨gk,1,t⟩=o (z u kt)∧w'.cell? ⟨gk,2,t⟩=o (z u kb)∧w'.cell? ⟨gk,3,t⟩=o (z u klt)∧w'.cell? ⟨gk,4,t⟩=o (z s kla)∧w'.cell? ⟨gk,5,t⟩=o (z u kht)∧w'.cell? ⟨gk,6,t⟩=o (z s kha)) (go_keep) (first | (go_at_call 211;refine (IP.out _ (E)).mono ?_;rintro e' w3 ⟨rfl,g3,n3,T3,p1,p2,p3,p4,m_w3⟩;have M_w3:=c (show Z _ w2 _ from E) m_w3;have c0:=(M_w3.cell (a:=⟨b,0,t⟩) hbl (P)).trans c0;have c1:=(M_w3.cell (a:=⟨b,1,t⟩) hbl (P)).trans c1;have c2:=(M_w3.cell (a:=⟨b,2,t⟩) hbl (P)).trans c2;have q0:=(M_w3.cell (a:=⟨gk,0,t⟩) hk (P)).trans q0;have q1:=(M_w3.cell (a:=⟨gk,1,t⟩) hk (P)).trans q1;have q2:=(M_w3.cell (a:=⟨gk,2,t⟩) hk (P)).trans q2;have q3:=(M_w3.cell (a:=⟨gk,3,t⟩) hk (P)).trans q3;have q4:=(M_w3.cell (a:=⟨gk,4,t⟩) hk (P)).trans q4;have q5:=(M_w3.cell (a:=⟨gk,5,t⟩) hk (P)).trans q5;have q6:=(M_w3.cell (a:=⟨gk,6,t⟩) hk (P)).trans q6;have hbl:=v hbl M_w3.size;have hk:=v hk M_w3.size))
 have p4':(n3=nt∧g3=g∧2 *(L.length+1)≤nt)∨(n3=2 *nt∧w2.heap.size≤g3∧nt < 2 *(L.length+1)):=by simpa using p4
 have P1:=y p1;have P2:=y p2;have P3:=y p3;have P4:=y p4';have M4:=y M_w3;clear p1 p2 p3 p4 p4' m_w3 M_w3 IP c0 c1 c2 q0 q1 q2 q3 q4 q5 q6;go_wp2_with fail;go_ret2;obtain ⟨k4,k5,k6,k7,k8,k9⟩:=K5.out;have hF2:=hF2'.out;have hlt2:=HA2.out.lt;have q4:=P4.out;have nF2:∀x,x < w.heap.size→x∉Fa→x∉F2:=fun x h1 h2 h3=>by rcases hF2 x h3 with h | h;exact h2 h;omega
 have hj3:∃j',n3=2 ^ j':=by
  rcases q4 with ⟨rfl,_⟩ | ⟨rfl,_⟩
  ·exact ⟨j,k5⟩
  ·exact ⟨j+1,by rw [k5,Nat.pow_succ];omega⟩
 obtain ⟨j3,hj3⟩:=hj3;have hbw:b < w.heap.size:=zm;have e3:L.length+1=(L++[(⟨kf,kt,kb,⟨klt,kla⟩,⟨kht,kha⟩⟩:Rc)]).length:=N;have x1:=P1.out;have x3:=P3.out;rw [e3] at x1 x3;have hg3:g3=g∨w2.heap.size≤g3:=V
 have hg3F:g3∉F2:=by
  rcases hg3 with rfl | h
  ·exact nF2 _ nbg d6
  ·intro h2;have:=hlt2 _ h2;omega
 refine ⟨rfl,b::bi::g3::F2,⟨ba,bi,g3,n3,j3,T3,F2,HB2.out.mod M4.out nb1,HA2.out.mod M4.out ?_,x1,P2.out,x3,hj3,V,zj,zj,?_,rfl,d1,V,nF2 b hbw d3,V,nF2 bi nbi d5,hg3F⟩,?_,?_⟩
 ·intro k hk;simp;constructor
  ·rintro rfl;exact nF2 _ nbi d5 hk
  ·rintro rfl;exact nF2 _ nbg d6 hk
 ·rw [List.nodup_append];exact ⟨k9,N,fun a ha b hb=>by simp at hb;subst hb;intro e;subst e;exact HR.out ha⟩
 ·exact ((M2.out.mono (S':=b::bi::g::Fa) (zq)).trans M3.out (by intro k _ h;simp [h])).trans M4.out (by intro k _ h;simp at h;simp;omega)
 ·intro k hk;simp at hk ⊢;rcases hk with rfl | rfl | rfl | hk
  ·simp
  ·simp
  ·omega
  ·rcases hF2 k hk with h | h
   ·simp [h]
   ·exact .inr h
open Go.RowKit
def fnd (L:List Rc) (r:Rc):List Rc × Nat:=if r∈L then (L,L.idxOf r+2) else (L++[r],L.length+2)
theorem zF3 (L:List Rc) (r:Rc):YO (fnd L r).1 (fnd L r).2=o r:=by
 unfold fnd;split
 ·rename_i h
  unfold YO;simp [List.idxOf_lt_length_iff.2 h]
 ·exact zg6 L r
theorem zq8 (L:List Rc) (r:Rc):∃L2,(fnd L r).1=L++L2:=by
 unfold fnd;split
 ·exact ⟨[],N⟩
 ·exact ⟨[r],rfl⟩
theorem yy4 (L:List Rc) (r:Rc):(fnd L r).1.length≤L.length+1:=by
 unfold fnd;split<;>simp
theorem zf9 {w:H} {b n:Nat} {L:List Rc} {room:Nat} {F:List Nat} (h:IsSt w b n L room F) (hL:L.length≤100000) (hroom:L.length < room) (hrm:room≤1048576) (hn:n≤16) (r:Rc) (hR:RightR r n)
 (hlo:LeadsP L r.f r.lo (r.bot+1) n) (hhi:LeadsP L r.f r.hi (r.bot+1) n):
 I U 194 #[i (o ⟨b,0,t⟩),rcv r] w fun e w'=>e=S (J #[z s ((fnd L r).2:Nat),z u 0])∧∃F',IsSt w' b n (fnd L r).1 room F'∧Z F w w'∧∀k∈F',k∈F∨w.heap.size≤k:=by
 unfold fnd;by_cases hr:r∈L
 ·rw [if_pos hr];refine (zJ5 h hL r (L.idxOf r+2) ?_).mono ?_
  ·have:=zF3 L r;unfold fnd at this;rw [if_pos hr] at this;exact this
  ·rintro e w' ⟨rfl,m⟩;exact ⟨rfl,F,h.mod m (N),m.mono (zq),fun k hk=>.inl hk⟩
 ·rw [if_neg hr];exact zK8 h hL hroom hrm hn r hr hR hlo hhi
open Go.RowKit
theorem kF {p:Prop} (h:p:=by
 have hF2:∀k∈F2,k∈F∨gk+2≤k:=fun k hk=>(F2'.out k hk).imp (fun h=>h) (fun h=>V)
 have hFg:gk+1∉F:=fun h=>zw
 refine ⟨rfl,F2,S2.out.mod MS.out (fun k hk=>?_),?_,fun k hk=>(hF2 k hk).imp (fun h=>h) (fun h=>V)⟩
 ·simp;rintro rfl;rcases hF2 _ hk with h | h;exact hFg h;omega
 ·exact (((M0.out.mono (zq)).trans M2.out (zD)).trans MS.out (zu))):p:=h
theorem zO1 {w:H} {b n:Nat} {L:List Rc} {room:Nat} {F:List Nat} (h:IsSt w b n L room F) (hL:L.length≤100000) (hroom:L.length < room) (hrm:room≤1048576) (hn:n≤16) (r:Rc) (hR:RightR r n)
 (hlo:LeadsP L r.f r.lo (r.bot+1) n) (hhi:LeadsP L r.f r.hi (r.bot+1) n):
 I U 166 #[i (o ⟨b,0,t⟩),rcv r] w fun e w'=>e=S (J #[edv ⟨0,(fnd L r).2⟩,z u 0])∧∃F',IsSt w' b n (fnd L r).1 room F'∧Z F w w'∧∀k∈F',k∈F∨w.heap.size≤k:=by
 have FN:O (∀W,Z [] w W→_):=fun W m=>zf9 (h.mod m (N)) hL hroom hrm hn r hR hlo hhi
 have hlt:=h.lt;clear h hlo hhi hR;generalize (fnd L r).2=id at *;generalize (fnd L r).1=L2 at *;obtain ⟨kf,kt,kb,⟨klt,kla⟩,⟨kht,kha⟩⟩:=r;unfold rcv edv at *;simp only at FN ⊢;obtain ⟨gk,hgk⟩:∃gk,w.heap.size=gk:=⟨_,rfl⟩;have HLT:O (∀k∈F,k < gk):=fun k hk=>xr
 clear hlt;go_in;go_wp2_with fail;have BK:=d w #[z u kf,z u kt,z u kb,z u klt,z s kla,z u kht,z s kha] 139 gk hgk.symm;have BR:=d (w.alloc (q #[z u kf,z u kt,z u kb,z u klt,z s kla,z u kht,z s kha] 139)) #[z u 0,z s 0] 44 (gk+1) (zk);have BK:=BK.alloc (q #[z u 0,z s 0] 44);have M0:O (Z [] w ((w.alloc (q #[z u kf,z u kt,z u kb,z u klt,z s kla,z u kht,z s kha] 139)).alloc (q #[z u 0,z s 0] 44))):=E;have hsz:((w.alloc (q #[z u kf,z u kt,z u kb,z u klt,z s kla,z u kht,z s kha] 139)).alloc (q #[z u 0,z s 0] 44)).heap.size=gk+2:=zk;generalize (w.alloc (q #[z u kf,z u kt,z u kb,z u klt,z s kla,z u kht,z s kha] 139)).alloc (q #[z u 0,z s 0] 44)=w0 at *;refine (FN.out _ M0.out).mono ?_;rintro e w2 ⟨rfl,F2,s2,m2,f2⟩;have BK:=BK.mod m2 (fun h=>zw);have BR:=BR.mod m2 (fun h=>zw);obtain ⟨q0,q1,q2,q3,q4,q5,q6⟩:=BK.cells7;obtain ⟨e0,e1⟩:=BR.cells2;obtain ⟨f0,f1,-⟩:=BR.frozs;have BR:=y BR;have S2:=y s2;have M2:=y m2;have F2':=y f2;have gn1:¬gk=gk+1:=V;have gn2:¬gk+1=gk:=V;clear BK s2 m2 f2 FN;go_wp2_with fail;have BX:=YC BR.out ⟨0,id⟩;obtain ⟨g0,g1⟩:=BX.cells2;have MS:=y (YD (Q [gk+1] w2) (gk+1) ⟨0,id⟩ (fun _=>N));change bodyPost _ _ _ _ _ (YM w2 (gk+1) ⟨0,id⟩);generalize YM w2 (gk+1) ⟨0,id⟩=X at *;clear q0 q1 q2 q3 q4 q5 q6 e0 e1 f0 f1 BX;simp only at g0 g1;refine Y (by simp [K,Tryz.results166,g0,g1,go_sem];try rfl) rfl ?_;exact kF
theorem zH7 {w:H} {b n:Nat} {L:List Rc} {room:Nat} {F:List Nat} (h:IsSt w b n L room F) (hL:L.length≤100000) (hroom:L.length < room) (hrm:room≤1048576) (hn:n≤16) (r:Rc) (hR:RightR r n)
 (hlo:LeadsP L r.f r.lo (r.bot+1) n) (hhi:LeadsP L r.f r.hi (r.bot+1) n):
 I U 167 #[i (o ⟨b,0,t⟩),rcv r] w fun e w'=>e=S (J #[edv ⟨0,(fnd L r).2⟩,z u 0])∧∃F',IsSt w' b n (fnd L r).1 room F'∧Z F w w'∧∀k∈F',k∈F∨w.heap.size≤k:=by
 have FN:O (∀W,Z [] w W→_):=fun W m=>zf9 (h.mod m (N)) hL hroom hrm hn r hR hlo hhi
 have hlt:=h.lt;clear h hlo hhi hR;generalize (fnd L r).2=id at *;generalize (fnd L r).1=L2 at *;obtain ⟨kf,kt,kb,⟨klt,kla⟩,⟨kht,kha⟩⟩:=r;unfold rcv edv at *;simp only at FN ⊢;obtain ⟨gk,hgk⟩:∃gk,w.heap.size=gk:=⟨_,rfl⟩;have HLT:O (∀k∈F,k < gk):=fun k hk=>xr
 clear hlt;go_in;go_wp2_with fail;have BK:=d w #[z u kf,z u kt,z u kb,z u klt,z s kla,z u kht,z s kha] 139 gk hgk.symm;have BR:=d (w.alloc (q #[z u kf,z u kt,z u kb,z u klt,z s kla,z u kht,z s kha] 139)) #[z u 0,z s 0] 44 (gk+1) (zk);have BK:=BK.alloc (q #[z u 0,z s 0] 44);have M0:O (Z [] w ((w.alloc (q #[z u kf,z u kt,z u kb,z u klt,z s kla,z u kht,z s kha] 139)).alloc (q #[z u 0,z s 0] 44))):=E;have hsz:((w.alloc (q #[z u kf,z u kt,z u kb,z u klt,z s kla,z u kht,z s kha] 139)).alloc (q #[z u 0,z s 0] 44)).heap.size=gk+2:=zk;generalize (w.alloc (q #[z u kf,z u kt,z u kb,z u klt,z s kla,z u kht,z s kha] 139)).alloc (q #[z u 0,z s 0] 44)=w0 at *;refine (FN.out _ M0.out).mono ?_;rintro e w2 ⟨rfl,F2,s2,m2,f2⟩;have BK:=BK.mod m2 (fun h=>zw);have BR:=BR.mod m2 (fun h=>zw);obtain ⟨q0,q1,q2,q3,q4,q5,q6⟩:=BK.cells7;obtain ⟨e0,e1⟩:=BR.cells2;obtain ⟨f0,f1,-⟩:=BR.frozs;have BR:=y BR;have S2:=y s2;have M2:=y m2;have F2':=y f2;have gn1:¬gk=gk+1:=V;have gn2:¬gk+1=gk:=V;clear BK s2 m2 f2 FN;go_wp2_with fail;have BX:=YC BR.out ⟨0,id⟩;obtain ⟨g0,g1⟩:=BX.cells2;have MS:=y (YD (Q [gk+1] w2) (gk+1) ⟨0,id⟩ (fun _=>N));change bodyPost _ _ _ _ _ (YM w2 (gk+1) ⟨0,id⟩);generalize YM w2 (gk+1) ⟨0,id⟩=X at *;clear q0 q1 q2 q3 q4 q5 q6 e0 e1 f0 f1 BX;simp only at g0 g1;refine Y (by simp [K,Tryz.results167,g0,g1,go_sem];try rfl) rfl ?_;exact kF
theorem XJ {w:H} {b n:Nat} {L:List Rc} {room:Nat} {F:List Nat} (h:IsSt w b n L room F) (hL:L.length≤100000) (hroom:L.length < room) (hrm:room≤1048576) (hn:n≤16) (r:Rc) (hR:RightR r n)
 (hlo:LeadsP L r.f r.lo (r.bot+1) n) (hhi:LeadsP L r.f r.hi (r.bot+1) n):
 I U 168 #[i (o ⟨b,0,t⟩),rcv r] w fun e w'=>e=S (J #[edv ⟨0,(fnd L r).2⟩,z u 0])∧∃F',IsSt w' b n (fnd L r).1 room F'∧Z F w w'∧∀k∈F',k∈F∨w.heap.size≤k:=by
 have FN:O (∀W,Z [] w W→_):=fun W m=>zf9 (h.mod m (N)) hL hroom hrm hn r hR hlo hhi
 have hlt:=h.lt;clear h hlo hhi hR;generalize (fnd L r).2=id at *;generalize (fnd L r).1=L2 at *;obtain ⟨kf,kt,kb,⟨klt,kla⟩,⟨kht,kha⟩⟩:=r;unfold rcv edv at *;simp only at FN ⊢;obtain ⟨gk,hgk⟩:∃gk,w.heap.size=gk:=⟨_,rfl⟩;have HLT:O (∀k∈F,k < gk):=fun k hk=>xr
 clear hlt;go_in;go_wp2_with fail;have BK:=d w #[z u kf,z u kt,z u kb,z u klt,z s kla,z u kht,z s kha] 139 gk hgk.symm;have BR:=d (w.alloc (q #[z u kf,z u kt,z u kb,z u klt,z s kla,z u kht,z s kha] 139)) #[z u 0,z s 0] 44 (gk+1) (zk);have BK:=BK.alloc (q #[z u 0,z s 0] 44);have M0:O (Z [] w ((w.alloc (q #[z u kf,z u kt,z u kb,z u klt,z s kla,z u kht,z s kha] 139)).alloc (q #[z u 0,z s 0] 44))):=E;have hsz:((w.alloc (q #[z u kf,z u kt,z u kb,z u klt,z s kla,z u kht,z s kha] 139)).alloc (q #[z u 0,z s 0] 44)).heap.size=gk+2:=zk;generalize (w.alloc (q #[z u kf,z u kt,z u kb,z u klt,z s kla,z u kht,z s kha] 139)).alloc (q #[z u 0,z s 0] 44)=w0 at *;refine (FN.out _ M0.out).mono ?_;rintro e w2 ⟨rfl,F2,s2,m2,f2⟩;have BK:=BK.mod m2 (fun h=>zw);have BR:=BR.mod m2 (fun h=>zw);obtain ⟨q0,q1,q2,q3,q4,q5,q6⟩:=BK.cells7;obtain ⟨e0,e1⟩:=BR.cells2;obtain ⟨f0,f1,-⟩:=BR.frozs;have BR:=y BR;have S2:=y s2;have M2:=y m2;have F2':=y f2;have gn1:¬gk=gk+1:=V;have gn2:¬gk+1=gk:=V;clear BK s2 m2 f2 FN;go_wp2_with fail;have BX:=YC BR.out ⟨0,id⟩;obtain ⟨g0,g1⟩:=BX.cells2;have MS:=y (YD (Q [gk+1] w2) (gk+1) ⟨0,id⟩ (fun _=>N));change bodyPost _ _ _ _ _ (YM w2 (gk+1) ⟨0,id⟩);generalize YM w2 (gk+1) ⟨0,id⟩=X at *;clear q0 q1 q2 q3 q4 q5 q6 e0 e1 f0 f1 BX;simp only at g0 g1;refine Y (by simp [K,Tryz.results168,g0,g1,go_sem];try rfl) rfl ?_;exact kF
theorem X9 {w:H} {b n:Nat} {L:List Rc} {room:Nat} {F:List Nat} (h:IsSt w b n L room F) (hL:L.length≤100000) (hroom:L.length < room) (hrm:room≤1048576) (hn:n≤16) (r:Rc) (hR:RightR r n)
 (hlo:LeadsP L r.f r.lo (r.bot+1) n) (hhi:LeadsP L r.f r.hi (r.bot+1) n):
 I U 169 #[i (o ⟨b,0,t⟩),rcv r] w fun e w'=>e=S (J #[edv ⟨0,(fnd L r).2⟩,z u 0])∧∃F',IsSt w' b n (fnd L r).1 room F'∧Z F w w'∧∀k∈F',k∈F∨w.heap.size≤k:=by
 have FN:O (∀W,Z [] w W→_):=fun W m=>zf9 (h.mod m (N)) hL hroom hrm hn r hR hlo hhi
 have hlt:=h.lt;clear h hlo hhi hR;generalize (fnd L r).2=id at *;generalize (fnd L r).1=L2 at *;obtain ⟨kf,kt,kb,⟨klt,kla⟩,⟨kht,kha⟩⟩:=r;unfold rcv edv at *;simp only at FN ⊢;obtain ⟨gk,hgk⟩:∃gk,w.heap.size=gk:=⟨_,rfl⟩;have HLT:O (∀k∈F,k < gk):=fun k hk=>xr
 clear hlt;go_in;go_wp2_with fail;have BK:=d w #[z u kf,z u kt,z u kb,z u klt,z s kla,z u kht,z s kha] 139 gk hgk.symm;have BR:=d (w.alloc (q #[z u kf,z u kt,z u kb,z u klt,z s kla,z u kht,z s kha] 139)) #[z u 0,z s 0] 44 (gk+1) (zk);have BK:=BK.alloc (q #[z u 0,z s 0] 44);have M0:O (Z [] w ((w.alloc (q #[z u kf,z u kt,z u kb,z u klt,z s kla,z u kht,z s kha] 139)).alloc (q #[z u 0,z s 0] 44))):=E;have hsz:((w.alloc (q #[z u kf,z u kt,z u kb,z u klt,z s kla,z u kht,z s kha] 139)).alloc (q #[z u 0,z s 0] 44)).heap.size=gk+2:=zk;generalize (w.alloc (q #[z u kf,z u kt,z u kb,z u klt,z s kla,z u kht,z s kha] 139)).alloc (q #[z u 0,z s 0] 44)=w0 at *;refine (FN.out _ M0.out).mono ?_;rintro e w2 ⟨rfl,F2,s2,m2,f2⟩;have BK:=BK.mod m2 (fun h=>zw);have BR:=BR.mod m2 (fun h=>zw);obtain ⟨q0,q1,q2,q3,q4,q5,q6⟩:=BK.cells7;obtain ⟨e0,e1⟩:=BR.cells2;obtain ⟨f0,f1,-⟩:=BR.frozs;have BR:=y BR;have S2:=y s2;have M2:=y m2;have F2':=y f2;have gn1:¬gk=gk+1:=V;have gn2:¬gk+1=gk:=V;clear BK s2 m2 f2 FN;go_wp2_with fail;have BX:=YC BR.out ⟨0,id⟩;obtain ⟨g0,g1⟩:=BX.cells2;have MS:=y (YD (Q [gk+1] w2) (gk+1) ⟨0,id⟩ (fun _=>N));change bodyPost _ _ _ _ _ (YM w2 (gk+1) ⟨0,id⟩);generalize YM w2 (gk+1) ⟨0,id⟩=X at *;clear q0 q1 q2 q3 q4 q5 q6 e0 e1 f0 f1 BX;simp only at g0 g1;refine Y (by simp [K,Tryz.results169,g0,g1,go_sem];try rfl) rfl ?_;exact kF
theorem zj6 {w:H} {b n:Nat} {L:List Rc} {room:Nat} {F:List Nat} (h:IsSt w b n L room F) (hL:L.length≤100000) (hroom:L.length < room) (hrm:room≤1048576) (hn:n≤16) (r:Rc) (hR:RightR r n)
 (hlo:LeadsP L r.f r.lo (r.bot+1) n) (hhi:LeadsP L r.f r.hi (r.bot+1) n):
 I U 170 #[i (o ⟨b,0,t⟩),rcv r] w fun e w'=>e=S (J #[edv ⟨r.top,(fnd L r).2⟩,z u 0])∧∃F',IsSt w' b n (fnd L r).1 room F'∧Z F w w'∧∀k∈F',k∈F∨w.heap.size≤k:=by
 have FN:O (∀W,Z [] w W→_):=fun W m=>zf9 (h.mod m (N)) hL hroom hrm hn r hR hlo hhi
 have hlt:=h.lt;clear h hlo hhi hR;generalize (fnd L r).2=id at *;generalize (fnd L r).1=L2 at *;obtain ⟨kf,kt,kb,⟨klt,kla⟩,⟨kht,kha⟩⟩:=r;unfold rcv edv at *;simp only at FN ⊢;obtain ⟨gk,hgk⟩:∃gk,w.heap.size=gk:=⟨_,rfl⟩;have HLT:O (∀k∈F,k < gk):=fun k hk=>xr
 clear hlt;go_in;go_wp2_with fail;have BK:=d w #[z u kf,z u kt,z u kb,z u klt,z s kla,z u kht,z s kha] 139 gk hgk.symm;have BR:=d (w.alloc (q #[z u kf,z u kt,z u kb,z u klt,z s kla,z u kht,z s kha] 139)) #[z u 0,z s 0] 44 (gk+1) (zk);have BK:=BK.alloc (q #[z u 0,z s 0] 44);have M0:O (Z [] w ((w.alloc (q #[z u kf,z u kt,z u kb,z u klt,z s kla,z u kht,z s kha] 139)).alloc (q #[z u 0,z s 0] 44))):=E;have hsz:((w.alloc (q #[z u kf,z u kt,z u kb,z u klt,z s kla,z u kht,z s kha] 139)).alloc (q #[z u 0,z s 0] 44)).heap.size=gk+2:=zk;generalize (w.alloc (q #[z u kf,z u kt,z u kb,z u klt,z s kla,z u kht,z s kha] 139)).alloc (q #[z u 0,z s 0] 44)=w0 at *;refine (FN.out _ M0.out).mono ?_;rintro e w2 ⟨rfl,F2,s2,m2,f2⟩;have BK:=BK.mod m2 (fun h=>zw);have BR:=BR.mod m2 (fun h=>zw);obtain ⟨q0,q1,q2,q3,q4,q5,q6⟩:=BK.cells7;obtain ⟨e0,e1⟩:=BR.cells2;obtain ⟨f0,f1,-⟩:=BR.frozs;have BR:=y BR;have S2:=y s2;have M2:=y m2;have F2':=y f2;have gn1:¬gk=gk+1:=V;have gn2:¬gk+1=gk:=V;clear BK s2 m2 f2 FN;go_wp2_with fail;have BX:=YC BR.out ⟨kt,id⟩;obtain ⟨g0,g1⟩:=BX.cells2;have MS:=y (YD (Q [gk+1] w2) (gk+1) ⟨kt,id⟩ (fun _=>N));change bodyPost _ _ _ _ _ (YM w2 (gk+1) ⟨kt,id⟩);generalize YM w2 (gk+1) ⟨kt,id⟩=X at *;clear q0 q1 q2 q3 q4 q5 q6 e0 e1 f0 f1 BX;simp only at g0 g1;refine Y (by simp [K,Tryz.results170,g0,g1,go_sem];try rfl) rfl ?_;exact kF
open Go.RowKit
structure GoodR (L:List Rc) (n:Nat) (r:Rc):Prop where
 right:RightR r n
 lo:LeadsP L r.f r.lo (r.bot+1) n
 hi:LeadsP L r.f r.hi (r.bot+1) n
def Good (L:List Rc) (n:Nat):Prop:=∀id r,YO L id=o r→GoodR L n r
theorem GoodR.grow {L:List Rc} {n:Nat} {r:Rc} (h:GoodR L n r) (L2:List Rc):GoodR (L++L2) n r:=⟨h.right,h.lo.grow L2,h.hi.grow L2⟩
theorem Good.fnd {L:List Rc} {n:Nat} (h:Good L n) {r:Rc} (hr:GoodR L n r):Good (fnd L r).1 n:=by
 unfold Go.Proofs.YtbnpoapmnkfhkaaGreatDoor.fnd;split
 ·exact h
 ·intro id x hx;rcases zp6 hx with ⟨rfl,_⟩ | h2
  ·exact hr.grow _
  ·exact (h id x h2).grow _
theorem Good.nil (n:Nat):Good [] n:=fun id r h=>by have:=YJ h;simp at this
def za6 (L:List Rc) (f l:Nat) (lo hi:Ed):Rc:=
 match YO L lo.a with
 | some x=>if f=3∧x.top=l+1∧x.hi=hi then ⟨3,l,x.bot,x.lo,hi⟩
  else if f=4∧lo=hi∧x.top=l+1 then ⟨4,l,x.bot,x.lo,x.hi⟩ else ⟨f,l,l,lo,hi⟩
 | none=>⟨f,l,l,lo,hi⟩
def Xd (f l:Nat) (lo hi:Ed):Option Ed:=
 if f=2∨f=4 then (if hi.a=0 then o lo else t)
 else if lo=hi then o lo else if f=5∧hi.a=0∧lo.t=l+1 then o ⟨l,lo.a⟩ else t
def mkP (L:List Rc) (f l:Nat) (lo hi:Ed):List Rc × Ed:=
 match Xd f l lo hi with
 | some e=>(L,e)
 | none=>((fnd L (za6 L f l lo hi)).1,⟨if f=5 then l else 0,(fnd L (za6 L f l lo hi)).2⟩)
theorem LeadsP.node {L:List Rc} {f:Nat} {e:Ed} {l n:Nat} (h:LeadsP L f e l n) {x:Rc} (hx:YO L e.a=o x):x.f=f∧l≤x.top∧e.t≤x.top∧x.top≤16:=by
 rcases h.at_ with h0 | ⟨r,hr,h1,h2,h3,h4⟩
 ·have:=YJ hx;omega
 ·rw [hr] at hx;simp at hx;subst hx;exact ⟨h1,h2,h3,h4⟩
theorem PlainE.up {f:Nat} {e:Ed} {l l' n:Nat} (h:PlainE f e l n) (hl:l'≤l):PlainE f e l' n:=⟨h.1,fun a b=>⟨G hl (h.2 a b).1,(h.2 a b).2⟩⟩
theorem LeadsP.up {L:List Rc} {f:Nat} {e:Ed} {l l' n:Nat} (h:LeadsP L f e l n) (hl:l'≤l):LeadsP L f e l' n:=
 ⟨h.plain.up hl,h.at_.imp (fun h=>h) (fun ⟨r,h1,h2,h3,h4⟩=>⟨r,h1,h2,G hl h3,h4⟩)⟩
theorem yc9 (L:List Rc) (f l:Nat) (lo hi:Ed):(za6 L f l lo hi).top=l∧(za6 L f l lo hi).f=f:=by
 unfold za6;split
 ·split
  ·rename_i h;exact ⟨rfl,h.1.symm⟩
  ·split
   ·rename_i h;exact ⟨rfl,h.1.symm⟩
   ·exact ⟨rfl,rfl⟩
 ·exact ⟨rfl,rfl⟩
theorem YU {L:List Rc} {n f l:Nat} {lo hi:Ed} (hG:Good L n) (h1:1≤f) (h5:f≤5) (hl:l < n) (hn:n≤16) (hlo:LeadsP L f lo (l+1) n) (hhi:LeadsP L f hi (l+1) n) (hs:Xd f l lo hi=t):GoodR L n (za6 L f l lo hi):=by
 have base:GoodR L n ⟨f,l,l,lo,hi⟩:=by
  refine ⟨⟨h1,h5,Ω _,hl,hn,.inl rfl,hlo.plain,hhi.plain,?_,?_⟩,hlo,hhi⟩
  ·intro hf;unfold Xd at hs;rw [if_pos hf] at hs;intro h0;rw [if_pos h0] at hs;simp at hs
  ·intro hf hf2;unfold Xd at hs;rw [if_neg (by simp;exact ⟨hf,hf2⟩)] at hs;intro h0;simp only at h0;rw [if_pos h0] at hs;simp at hs
 unfold za6;split
 ·rename_i x hx
  have hg:=hG _ _ hx;have hr:=hlo.node hx;have hb:=hg.right.tb;split
  ·rename_i h
   obtain ⟨rfl,ht,rfl⟩:=h;have e3:x.f=3:=hr.1;have hh:=hg.hi;have hl2:=hg.lo;have r1:=hg.right;rw [e3] at hh hl2;refine ⟨⟨V,V,zZ,r1.bn,hn,.inr (.inl rfl),hl2.plain,hh.plain,N,fun _ _=>?_⟩,hl2,hh⟩;exact r1.b (V) (V)
  ·split
   ·rename_i h
    obtain ⟨rfl,rfl,ht⟩:=h;have e3:x.f=4:=hr.1;have hh:=hg.hi;have hl2:=hg.lo;have r1:=hg.right;rw [e3] at hh hl2;exact ⟨⟨V,V,zZ,r1.bn,hn,.inr (.inr rfl),hl2.plain,hh.plain,fun _=>r1.z (.inr e3),N⟩,hl2,hh⟩
   ·exact base
 ·exact base
theorem zg0 {L:List Rc} {n f l:Nat} {lo hi:Ed} (hG:Good L n) (h1:1≤f) (h5:f≤5) (hl:l < n) (hn:n≤16) (hlo:LeadsP L f lo (l+1) n) (hhi:LeadsP L f hi (l+1) n):
 Good (mkP L f l lo hi).1 n∧LeadsP (mkP L f l lo hi).1 f (mkP L f l lo hi).2 l n∧(∃L2,(mkP L f l lo hi).1=L++L2)∧(mkP L f l lo hi).1.length≤L.length+1:=by
 unfold mkP;cases hs:Xd f l lo hi with
 | some e=>
  refine ⟨hG,?_,⟨[],N⟩,N⟩;simp only;unfold Xd at hs;split at hs
  ·split at hs
   ·simp at hs;subst hs;exact hlo.up (V)
   ·simp at hs
  ·split at hs
   ·simp at hs;subst hs;exact hlo.up (V)
   ·split at hs
    ·rename_i h
     obtain ⟨rfl,h0,ht⟩:=h;simp at hs;subst hs;have hp:=hlo.plain;have ha:lo.a≠0:=fun h=>by have:=hp.1 (.inr h);omega
     refine ⟨⟨fun h=>by simp at h;exact absurd h ha,fun _ _=>⟨Ω _,zZ⟩⟩,?_⟩;rcases hlo.at_ with h | ⟨r,hr,h1,h2,h3,h4⟩
     ·exact .inl h
     ·exact .inr ⟨r,hr,h1,V,zZ,h4⟩
    ·simp at hs
 | none=>
  have hr:=YU hG h1 h5 hl hn hlo hhi hs;have ht:=yc9 L f l lo hi;generalize za6 L f l lo hi=r at *;have hid:=zF3 L r;have hlt:=(YJ hid).1;refine ⟨hG.fnd hr,⟨⟨?_,?_⟩,.inr ⟨r,hid,ht.2,V,?_,V⟩⟩,zq8 L r,yy4 L r⟩
  ·simp only;intro h;split
   ·omega
   ·rfl
  ·intro h _;simp only;rw [if_pos h];omega
  ·simp only;split<;>omega
open Go.RowKit
theorem kH {p:Prop} (h:p:=by
 rw [hmk.out];refine ⟨rfl,F3,S3.out.mod MS.out (fun k hk=>?_),M2.out.trans MS.out (zu),fun k hk=>(F3'.out k hk).imp (fun h=>h) (fun h=>V)⟩
 simp;rintro rfl;rcases F3'.out _ hk with h | h;exact hFg h;omega):p:=h
theorem kI {p:Prop} (h:p:=by
 rw [hmk.out]
 exact ⟨rfl,F,(HS.out.mod M2.out (N)).mod MS.out (fun k hk=>yT),(M2.out.mono (zq)).trans MS.out (zu),fun k hk=>.inl hk⟩):p:=h
theorem zV0 {w:H} {b n:Nat} {L:List Rc} {room:Nat} {F:List Nat} (h:IsSt w b n L room F) (hL:L.length≤100000) (hroom:L.length < room) (hrm:room≤1048576) (hn:n≤16) (hG:Good L n) (l:Nat) (hl:l < n) (lo hi:Ed)
 (hlo:LeadsP L 1 lo (l+1) n) (hhi:LeadsP L 1 hi (l+1) n):
 I U 142 #[i (o ⟨b,0,t⟩),z A l,edv lo,edv hi] w fun e w'=>e=S (J #[edv (mkP L 1 l lo hi).2,z u 0])∧∃F',IsSt w' b n (mkP L 1 l lo hi).1 room F'∧Z F w w'∧∀k∈F',k∈F∨w.heap.size≤k:=by
 have LO:O (∀W,Z [] w W→_):=fun W m=>YI (h.mod m (N)) (V) hn 1 (V) (V) lo (l+1) (V) hlo
 have LH:O (∀W,Z [] w W→_):=fun W m=>YI (h.mod m (N)) (V) hn 1 (V) (V) hi (l+1) (V) hhi
 have hbF:=h.lt;obtain ⟨ba,bi,Fa,c0,-,-,-⟩:=h.own;have hbl:=M w _ c0;simp only at hbl;have HS:=y h;have hl':(l:Int) < n:=V;have e1:((l+1:Nat):Int)=(l:Int)+1:=V;rw [e1] at LO LH;clear h e1;obtain ⟨gk,hgk⟩:∃gk,w.heap.size=gk:=⟨_,rfl⟩;have HLT:O (∀k∈F,k < gk):=fun k hk=>zH
 have HLO:=y hlo;have HLH:=y hhi;have HG:=y hG;clear hbF hlo hhi hG;obtain ⟨lt,la⟩:=lo;obtain ⟨ht,ha⟩:=hi;unfold edv at *;simp only at LO LH ⊢;have gn1:¬b=gk:=V;have gn2:¬gk=b:=V;have gn3:¬b=gk+1:=V;have gn4:¬gk+1=b:=V;have gn5:¬b=gk+1+1:=V;have gn6:¬gk+1+1=b:=V;go_in;go_wp2_with fail;have BL:=d w #[z u lt,z s la] 44 gk hgk.symm;have BH:=d (w.alloc (q #[z u lt,z s la] 44)) #[z u ht,z s ha] 44 (gk+1) (zk);have BR:=d ((w.alloc (q #[z u lt,z s la] 44)).alloc (q #[z u ht,z s ha] 44)) #[z u 0,z s 0] 44 (gk+1+1) (zk);have BL:=(BL.alloc (q #[z u ht,z s ha] 44)).alloc (q #[z u 0,z s 0] 44);have BH:=BH.alloc (q #[z u 0,z s 0] 44);have M0:O (Z [] w (((w.alloc (q #[z u lt,z s la] 44)).alloc (q #[z u ht,z s ha] 44)).alloc (q #[z u 0,z s 0] 44))):=E;have hsz:(((w.alloc (q #[z u lt,z s la] 44)).alloc (q #[z u ht,z s ha] 44)).alloc (q #[z u 0,z s 0] 44)).heap.size=gk+3:=zk;have c0:=(M0.out.cell (a:=⟨b,0,t⟩) hbl (N)).trans c0;generalize ((w.alloc (q #[z u lt,z s la] 44)).alloc (q #[z u ht,z s ha] 44)).alloc (q #[z u 0,z s 0] 44)=w0 at *;have hb0:b < w0.heap.size:=V;have hk0:gk < w0.heap.size:=V;have hk1:gk+1 < w0.heap.size:=V;obtain ⟨q0,q1⟩:=BL.cells2;obtain ⟨p0,p1⟩:=BH.cells2;have BL:=y BL;have BH:=y BH;have BR:=y BR;refine (YH b n _ c0).mono ?_;rintro e w1 ⟨rfl,rfl⟩;go_wp2_with fail;refine (LO.out _ M0.out).mono ?_;rintro e' wa ⟨rfl,m_wa⟩;have M_wa:=c (show Z _ w1 _ from E) m_wa;have c0:=(M_wa.cell (a:=⟨b,0,t⟩) hb0 (P)).trans c0;have q0:=(M_wa.cell (a:=⟨gk,0,t⟩) hk0 (P)).trans q0;have q1:=(M_wa.cell (a:=⟨gk,1,t⟩) hk0 (P)).trans q1;have p0:=(M_wa.cell (a:=⟨gk+1,0,t⟩) hk1 (P)).trans p0;have p1:=(M_wa.cell (a:=⟨gk+1,1,t⟩) hk1 (P)).trans p1;have hb0:=v hb0 M_wa.size;have hk0:=v hk0 M_wa.size;have hk1:=v hk1 M_wa.size;have M1:=y (M0.out.trans' M_wa);go_wp2_with fail;refine (LH.out _ M1.out).mono ?_;rintro e' wb ⟨rfl,m_wb⟩;have M_wb:=c (show Z _ wa _ from E) m_wb;have c0:=(M_wb.cell (a:=⟨b,0,t⟩) hb0 (P)).trans c0;have q0:=(M_wb.cell (a:=⟨gk,0,t⟩) hk0 (P)).trans q0;have q1:=(M_wb.cell (a:=⟨gk,1,t⟩) hk0 (P)).trans q1;have p0:=(M_wb.cell (a:=⟨gk+1,0,t⟩) hk1 (P)).trans p0;have p1:=(M_wb.cell (a:=⟨gk+1,1,t⟩) hk1 (P)).trans p1;have hb0:=v hb0 M_wb.size;have hk0:=v hk0 M_wb.size;have hk1:=v hk1 M_wb.size;have M2:=y (M1.out.trans' M_wb);replace BL:=y ((BL.out.mod M_wa (N)).mod M_wb (N));replace BH:=y ((BH.out.mod M_wa (N)).mod M_wb (N));replace BR:=y ((BR.out.mod M_wa (N)).mod M_wb (N));clear m_wa m_wb M_wa M_wb M0 M1 LO LH;obtain ⟨e0,e1⟩:=BR.out.cells2;obtain ⟨f0,f1,-⟩:=BR.out.frozs;have hl16:(l:Int)≤16:=V;have hFg:gk+1+1∉F:=fun h=>zw
 by_cases heq:(⟨lt,la⟩:Ed)=⟨ht,ha⟩
 ·have hmk:mkP L 1 l ⟨lt,la⟩ ⟨ht,ha⟩=(L,⟨lt,la⟩):=xZ;have hmk:=y hmk;simp at heq;obtain ⟨rfl,rfl⟩:=heq;go_wp2_with fail;have BX:=YC BR.out ⟨lt,la⟩;obtain ⟨g0,g1⟩:=BX.cells2;have MS:=y (YD (Q [gk+1+1] wb) (gk+1+1) ⟨lt,la⟩ (fun _=>N));change bodyPost _ _ _ _ _ (YM wb (gk+1+1) ⟨lt,la⟩);generalize YM wb (gk+1+1) ⟨lt,la⟩=X at *;clear c0 q0 q1 p0 p1 e0 e1 f0 f1 BX;simp only at g0 g1;refine Y (by simp [K,D,g0,g1,go_sem];try rfl) rfl ?_;exact kI
 ·have EQ:=fun w=>(Y4 9998 ⟨lt,la⟩ ⟨ht,ha⟩ w).trans (xu)
  unfold edv at EQ;simp only at EQ;have hs:Xd 1 l ⟨lt,la⟩ ⟨ht,ha⟩=t:=by unfold Xd;simp only [if_neg (show ¬((1:Nat)=2∨(1:Nat)=4) from V),if_neg heq];simp
  have hr:za6 L 1 l ⟨lt,la⟩ ⟨ht,ha⟩=⟨1,l,l,⟨lt,la⟩,⟨ht,ha⟩⟩:=qd;clear heq;have hg:=YU HG.out (V) (V) hl hn HLO.out HLH.out hs;have hmk:mkP L 1 l ⟨lt,la⟩ ⟨ht,ha⟩=((fnd L ⟨1,l,l,⟨lt,la⟩,⟨ht,ha⟩⟩).1,⟨0,(fnd L ⟨1,l,l,⟨lt,la⟩,⟨ht,ha⟩⟩).2⟩):=yb;have hmk:=y hmk;rw [hr] at hg;have FN:O (∀W,Z [] w W→_):=fun W m=>zO1 (HS.out.mod m (N)) hL hroom hrm hn ⟨1,l,l,⟨lt,la⟩,⟨ht,ha⟩⟩ hg.right hg.lo hg.hi
  clear hs hr hg;generalize (fnd L ⟨1,l,l,⟨lt,la⟩,⟨ht,ha⟩⟩).2=id at *;generalize (fnd L ⟨1,l,l,⟨lt,la⟩,⟨ht,ha⟩⟩).1=L2 at *;unfold rcv edv at FN;simp only at FN;go_wp2_with fail;refine (FN.out _ M2.out).mono ?_;rintro e' w3 ⟨rfl,F3,s3,m_w3,f3⟩;have M_w3:=c (show Z _ wb _ from E) m_w3;have hsb:=M2.out.size;have hk2:=BR.out.lt;replace BR:=BR.out.mod M_w3 hFg;obtain ⟨e0,e1⟩:=BR.cells2;obtain ⟨f0,f1,-⟩:=BR.frozs;have S3:=y s3;have F3':=y f3;replace M2:=y ((M2.out.mono (S':=F) (zq)).trans M_w3 (zD));have BR:=y BR;clear FN s3 f3 m_w3 M_w3 c0 q0 q1 p0 p1 BL BH EQ;go_wp2_with fail;have BX:=YC BR.out ⟨0,id⟩;obtain ⟨g0,g1⟩:=BX.cells2;have MS:=y (YD (Q [gk+1+1] w3) (gk+1+1) ⟨0,id⟩ (fun _=>N));change bodyPost _ _ _ _ _ (YM w3 (gk+1+1) ⟨0,id⟩);generalize YM w3 (gk+1+1) ⟨0,id⟩=X at *;clear e0 e1 f0 f1 BX;simp only at g0 g1;refine Y (by simp [K,D,g0,g1,go_sem];try rfl) rfl ?_;exact kH
theorem zT0 {w:H} {b n:Nat} {L:List Rc} {room:Nat} {F:List Nat} (h:IsSt w b n L room F) (hL:L.length≤100000) (hroom:L.length < room) (hrm:room≤1048576) (hn:n≤16) (hG:Good L n) (l:Nat) (hl:l < n) (lo hi:Ed)
 (hlo:LeadsP L 2 lo (l+1) n) (hhi:LeadsP L 2 hi (l+1) n):
 I U 143 #[i (o ⟨b,0,t⟩),z A l,edv lo,edv hi] w fun e w'=>e=S (J #[edv (mkP L 2 l lo hi).2,z u 0])∧∃F',IsSt w' b n (mkP L 2 l lo hi).1 room F'∧Z F w w'∧∀k∈F',k∈F∨w.heap.size≤k:=by
 have LO:O (∀W,Z [] w W→_):=fun W m=>YI (h.mod m (N)) (V) hn 2 (V) (V) lo (l+1) (V) hlo
 have LH:O (∀W,Z [] w W→_):=fun W m=>YI (h.mod m (N)) (V) hn 2 (V) (V) hi (l+1) (V) hhi
 have hbF:=h.lt;obtain ⟨ba,bi,Fa,c0,-,-,-⟩:=h.own;have hbl:=M w _ c0;simp only at hbl;have HS:=y h;have hl':(l:Int) < n:=V;have e1:((l+1:Nat):Int)=(l:Int)+1:=V;rw [e1] at LO LH;clear h e1;obtain ⟨gk,hgk⟩:∃gk,w.heap.size=gk:=⟨_,rfl⟩;have HLT:O (∀k∈F,k < gk):=fun k hk=>zH
 have HLO:=y hlo;have HLH:=y hhi;have HG:=y hG;clear hbF hlo hhi hG;obtain ⟨lt,la⟩:=lo;obtain ⟨ht,ha⟩:=hi;unfold edv at *;simp only at LO LH ⊢;have gn1:¬b=gk:=V;have gn2:¬gk=b:=V;have gn3:¬b=gk+1:=V;have gn4:¬gk+1=b:=V;have gn5:¬b=gk+1+1:=V;have gn6:¬gk+1+1=b:=V;go_in;go_wp2_with fail;have BL:=d w #[z u lt,z s la] 44 gk hgk.symm;have BH:=d (w.alloc (q #[z u lt,z s la] 44)) #[z u ht,z s ha] 44 (gk+1) (zk);have BR:=d ((w.alloc (q #[z u lt,z s la] 44)).alloc (q #[z u ht,z s ha] 44)) #[z u 0,z s 0] 44 (gk+1+1) (zk);have BL:=(BL.alloc (q #[z u ht,z s ha] 44)).alloc (q #[z u 0,z s 0] 44);have BH:=BH.alloc (q #[z u 0,z s 0] 44);have M0:O (Z [] w (((w.alloc (q #[z u lt,z s la] 44)).alloc (q #[z u ht,z s ha] 44)).alloc (q #[z u 0,z s 0] 44))):=E;have hsz:(((w.alloc (q #[z u lt,z s la] 44)).alloc (q #[z u ht,z s ha] 44)).alloc (q #[z u 0,z s 0] 44)).heap.size=gk+3:=zk;have c0:=(M0.out.cell (a:=⟨b,0,t⟩) hbl (N)).trans c0;generalize ((w.alloc (q #[z u lt,z s la] 44)).alloc (q #[z u ht,z s ha] 44)).alloc (q #[z u 0,z s 0] 44)=w0 at *;have hb0:b < w0.heap.size:=V;have hk0:gk < w0.heap.size:=V;have hk1:gk+1 < w0.heap.size:=V;obtain ⟨q0,q1⟩:=BL.cells2;obtain ⟨p0,p1⟩:=BH.cells2;have BL:=y BL;have BH:=y BH;have BR:=y BR;refine (YH b n _ c0).mono ?_;rintro e w1 ⟨rfl,rfl⟩;go_wp2_with fail;refine (LO.out _ M0.out).mono ?_;rintro e' wa ⟨rfl,m_wa⟩;have M_wa:=c (show Z _ w1 _ from E) m_wa;have c0:=(M_wa.cell (a:=⟨b,0,t⟩) hb0 (P)).trans c0;have q0:=(M_wa.cell (a:=⟨gk,0,t⟩) hk0 (P)).trans q0;have q1:=(M_wa.cell (a:=⟨gk,1,t⟩) hk0 (P)).trans q1;have p0:=(M_wa.cell (a:=⟨gk+1,0,t⟩) hk1 (P)).trans p0;have p1:=(M_wa.cell (a:=⟨gk+1,1,t⟩) hk1 (P)).trans p1;have hb0:=v hb0 M_wa.size;have hk0:=v hk0 M_wa.size;have hk1:=v hk1 M_wa.size;have M1:=y (M0.out.trans' M_wa);go_wp2_with fail;refine (LH.out _ M1.out).mono ?_;rintro e' wb ⟨rfl,m_wb⟩;have M_wb:=c (show Z _ wa _ from E) m_wb;have c0:=(M_wb.cell (a:=⟨b,0,t⟩) hb0 (P)).trans c0;have q0:=(M_wb.cell (a:=⟨gk,0,t⟩) hk0 (P)).trans q0;have q1:=(M_wb.cell (a:=⟨gk,1,t⟩) hk0 (P)).trans q1;have p0:=(M_wb.cell (a:=⟨gk+1,0,t⟩) hk1 (P)).trans p0;have p1:=(M_wb.cell (a:=⟨gk+1,1,t⟩) hk1 (P)).trans p1;have hb0:=v hb0 M_wb.size;have hk0:=v hk0 M_wb.size;have hk1:=v hk1 M_wb.size;have M2:=y (M1.out.trans' M_wb);replace BL:=y ((BL.out.mod M_wa (N)).mod M_wb (N));replace BH:=y ((BH.out.mod M_wa (N)).mod M_wb (N));replace BR:=y ((BR.out.mod M_wa (N)).mod M_wb (N));clear m_wa m_wb M_wa M_wb M0 M1 LO LH;obtain ⟨e0,e1⟩:=BR.out.cells2;obtain ⟨f0,f1,-⟩:=BR.out.frozs;have hl16:(l:Int)≤16:=V;have hFg:gk+1+1∉F:=fun h=>zw
 by_cases heq:ha=0
 ·have hmk:mkP L 2 l ⟨lt,la⟩ ⟨ht,ha⟩=(L,⟨lt,la⟩):=xZ;have hmk:=y hmk;have h0:(ha:Int)=0:=V;subst heq;go_wp2_with fail;have BX:=YC BR.out ⟨lt,la⟩;obtain ⟨g0,g1⟩:=BX.cells2;have MS:=y (YD (Q [gk+1+1] wb) (gk+1+1) ⟨lt,la⟩ (fun _=>N));change bodyPost _ _ _ _ _ (YM wb (gk+1+1) ⟨lt,la⟩);generalize YM wb (gk+1+1) ⟨lt,la⟩=X at *;clear c0 q0 q1 p0 p1 e0 e1 f0 f1 BX;simp only at g0 g1;refine Y (by simp [K,C,g0,g1,go_sem];try rfl) rfl ?_;exact kI
 ·have hs:Xd 2 l ⟨lt,la⟩ ⟨ht,ha⟩=t:=by unfold Xd;simp [heq]
  have hr:za6 L 2 l ⟨lt,la⟩ ⟨ht,ha⟩=⟨2,l,l,⟨lt,la⟩,⟨ht,ha⟩⟩:=qd;have h0:((ha:Int)==0)=false:=zo;have h0n:¬(ha:Int)=0:=V;have hg:=YU HG.out (V) (V) hl hn HLO.out HLH.out hs;have hmk:mkP L 2 l ⟨lt,la⟩ ⟨ht,ha⟩=((fnd L ⟨2,l,l,⟨lt,la⟩,⟨ht,ha⟩⟩).1,⟨0,(fnd L ⟨2,l,l,⟨lt,la⟩,⟨ht,ha⟩⟩).2⟩):=yb;have hmk:=y hmk;rw [hr] at hg;have FN:O (∀W,Z [] w W→_):=fun W m=>zH7 (HS.out.mod m (N)) hL hroom hrm hn ⟨2,l,l,⟨lt,la⟩,⟨ht,ha⟩⟩ hg.right hg.lo hg.hi
  clear hs hr hg;generalize (fnd L ⟨2,l,l,⟨lt,la⟩,⟨ht,ha⟩⟩).2=id at *;generalize (fnd L ⟨2,l,l,⟨lt,la⟩,⟨ht,ha⟩⟩).1=L2 at *;unfold rcv edv at FN;simp only at FN;go_wp2_with fail;refine (FN.out _ M2.out).mono ?_;rintro e' w3 ⟨rfl,F3,s3,m_w3,f3⟩;have M_w3:=c (show Z _ wb _ from E) m_w3;have hsb:=M2.out.size;have hk2:=BR.out.lt;replace BR:=BR.out.mod M_w3 hFg;obtain ⟨e0,e1⟩:=BR.cells2;obtain ⟨f0,f1,-⟩:=BR.frozs;have S3:=y s3;have F3':=y f3;replace M2:=y ((M2.out.mono (S':=F) (zq)).trans M_w3 (zD));have BR:=y BR;clear FN s3 f3 m_w3 M_w3 c0 q0 q1 p0 p1 BL BH;go_wp2_with fail;have BX:=YC BR.out ⟨0,id⟩;obtain ⟨g0,g1⟩:=BX.cells2;have MS:=y (YD (Q [gk+1+1] w3) (gk+1+1) ⟨0,id⟩ (fun _=>N));change bodyPost _ _ _ _ _ (YM w3 (gk+1+1) ⟨0,id⟩);generalize YM w3 (gk+1+1) ⟨0,id⟩=X at *;clear e0 e1 f0 f1 BX;simp only at g0 g1;refine Y (by simp [K,C,g0,g1,go_sem];try rfl) rfl ?_;exact kH
open Go.RowKit
theorem kG {p:Prop} (h:p:=by
 go_wp2_with fail;refine (FN.out _ M2.out).mono ?_;rintro e' w3 ⟨rfl,F3,s3,m_w3,f3⟩;have M_w3:=c (show Z _ wb _ from E) m_w3;have hsb:=M2.out.size;have hk2:=BR.out.lt;replace BR:=BR.out.mod M_w3 hFg;obtain ⟨e0,e1⟩:=BR.cells2;obtain ⟨f0,f1,-⟩:=BR.frozs;have S3:=y s3;have F3':=y f3;replace M2:=y ((M2.out.mono (S':=F) (zq)).trans M_w3 (zD));have BR:=y BR;clear FN s3 f3 m_w3 M_w3 c0 q0 q1 p0 p1 BL BH EQ;go_wp2_with fail;have BX:=YC BR.out ⟨l,id⟩;obtain ⟨g0,g1⟩:=BX.cells2;have MS:=y (YD (Q [gk+1+1] w3) (gk+1+1) ⟨l,id⟩ (fun _=>N));change bodyPost _ _ _ _ _ (YM w3 (gk+1+1) ⟨l,id⟩);generalize YM w3 (gk+1+1) ⟨l,id⟩=X at *;clear e0 e1 f0 f1 BX;simp only at g0 g1;refine Y (by simp [K,B,g0,g1,go_sem];try rfl) rfl ?_
 exact kH):p:=h
theorem kJ {p:Prop} (h:p:=by
 clear c0 q0 q1 p0 p1 e0 e1 f0 f1 BX;simp only at g0 g1;refine Y (by simp [K,B,g0,g1,go_sem];try rfl) rfl ?_
 exact kI):p:=h
theorem zO0 {w:H} {b n:Nat} {L:List Rc} {room:Nat} {F:List Nat} (h:IsSt w b n L room F) (hL:L.length≤100000) (hroom:L.length < room) (hrm:room≤1048576) (hn:n≤16) (hG:Good L n) (l:Nat) (hl:l < n) (lo hi:Ed)
 (hlo:LeadsP L 5 lo (l+1) n) (hhi:LeadsP L 5 hi (l+1) n):
 I U 146 #[i (o ⟨b,0,t⟩),z A l,edv lo,edv hi] w fun e w'=>e=S (J #[edv (mkP L 5 l lo hi).2,z u 0])∧∃F',IsSt w' b n (mkP L 5 l lo hi).1 room F'∧Z F w w'∧∀k∈F',k∈F∨w.heap.size≤k:=by
 have LO:O (∀W,Z [] w W→_):=fun W m=>YI (h.mod m (N)) (V) hn 5 (V) (V) lo (l+1) (V) hlo
 have LH:O (∀W,Z [] w W→_):=fun W m=>YI (h.mod m (N)) (V) hn 5 (V) (V) hi (l+1) (V) hhi
 have hbF:=h.lt;obtain ⟨ba,bi,Fa,c0,-,-,-⟩:=h.own;have hbl:=M w _ c0;simp only at hbl;have HS:=y h;have hl':(l:Int) < n:=V;have e1:((l+1:Nat):Int)=(l:Int)+1:=V;rw [e1] at LO LH;clear h e1;obtain ⟨gk,hgk⟩:∃gk,w.heap.size=gk:=⟨_,rfl⟩;have HLT:O (∀k∈F,k < gk):=fun k hk=>zH
 have HLO:=y hlo;have HLH:=y hhi;have HG:=y hG;clear hbF hlo hhi hG;obtain ⟨lt,la⟩:=lo;obtain ⟨ht,ha⟩:=hi;unfold edv at *;simp only at LO LH ⊢;have gn1:¬b=gk:=V;have gn2:¬gk=b:=V;have gn3:¬b=gk+1:=V;have gn4:¬gk+1=b:=V;have gn5:¬b=gk+1+1:=V;have gn6:¬gk+1+1=b:=V;go_in;go_wp2_with fail;have BL:=d w #[z u lt,z s la] 44 gk hgk.symm;have BH:=d (w.alloc (q #[z u lt,z s la] 44)) #[z u ht,z s ha] 44 (gk+1) (zk);have BR:=d ((w.alloc (q #[z u lt,z s la] 44)).alloc (q #[z u ht,z s ha] 44)) #[z u 0,z s 0] 44 (gk+1+1) (zk);have BL:=(BL.alloc (q #[z u ht,z s ha] 44)).alloc (q #[z u 0,z s 0] 44);have BH:=BH.alloc (q #[z u 0,z s 0] 44);have M0:O (Z [] w (((w.alloc (q #[z u lt,z s la] 44)).alloc (q #[z u ht,z s ha] 44)).alloc (q #[z u 0,z s 0] 44))):=E;have hsz:(((w.alloc (q #[z u lt,z s la] 44)).alloc (q #[z u ht,z s ha] 44)).alloc (q #[z u 0,z s 0] 44)).heap.size=gk+3:=zk;have c0:=(M0.out.cell (a:=⟨b,0,t⟩) hbl (N)).trans c0;generalize ((w.alloc (q #[z u lt,z s la] 44)).alloc (q #[z u ht,z s ha] 44)).alloc (q #[z u 0,z s 0] 44)=w0 at *;have hb0:b < w0.heap.size:=V;have hk0:gk < w0.heap.size:=V;have hk1:gk+1 < w0.heap.size:=V;obtain ⟨q0,q1⟩:=BL.cells2;obtain ⟨p0,p1⟩:=BH.cells2;have BL:=y BL;have BH:=y BH;have BR:=y BR;refine (YH b n _ c0).mono ?_;rintro e w1 ⟨rfl,rfl⟩;go_wp2_with fail;refine (LO.out _ M0.out).mono ?_;rintro e' wa ⟨rfl,m_wa⟩;have M_wa:=c (show Z _ w1 _ from E) m_wa;have c0:=(M_wa.cell (a:=⟨b,0,t⟩) hb0 (P)).trans c0;have q0:=(M_wa.cell (a:=⟨gk,0,t⟩) hk0 (P)).trans q0;have q1:=(M_wa.cell (a:=⟨gk,1,t⟩) hk0 (P)).trans q1;have p0:=(M_wa.cell (a:=⟨gk+1,0,t⟩) hk1 (P)).trans p0;have p1:=(M_wa.cell (a:=⟨gk+1,1,t⟩) hk1 (P)).trans p1;have hb0:=v hb0 M_wa.size;have hk0:=v hk0 M_wa.size;have hk1:=v hk1 M_wa.size;have M1:=y (M0.out.trans' M_wa);go_wp2_with fail;refine (LH.out _ M1.out).mono ?_;rintro e' wb ⟨rfl,m_wb⟩;have M_wb:=c (show Z _ wa _ from E) m_wb;have c0:=(M_wb.cell (a:=⟨b,0,t⟩) hb0 (P)).trans c0;have q0:=(M_wb.cell (a:=⟨gk,0,t⟩) hk0 (P)).trans q0;have q1:=(M_wb.cell (a:=⟨gk,1,t⟩) hk0 (P)).trans q1;have p0:=(M_wb.cell (a:=⟨gk+1,0,t⟩) hk1 (P)).trans p0;have p1:=(M_wb.cell (a:=⟨gk+1,1,t⟩) hk1 (P)).trans p1;have hb0:=v hb0 M_wb.size;have hk0:=v hk0 M_wb.size;have hk1:=v hk1 M_wb.size;have M2:=y (M1.out.trans' M_wb);replace BL:=y ((BL.out.mod M_wa (N)).mod M_wb (N));replace BH:=y ((BH.out.mod M_wa (N)).mod M_wb (N));replace BR:=y ((BR.out.mod M_wa (N)).mod M_wb (N));clear m_wa m_wb M_wa M_wb M0 M1 LO LH;obtain ⟨e0,e1⟩:=BR.out.cells2;obtain ⟨f0,f1,-⟩:=BR.out.frozs;have hl16:(l:Int)≤16:=V;have hFg:gk+1+1∉F:=fun h=>zw
 by_cases heq:(⟨lt,la⟩:Ed)=⟨ht,ha⟩
 ·have hmk:mkP L 5 l ⟨lt,la⟩ ⟨ht,ha⟩=(L,⟨lt,la⟩):=xZ;have hmk:=y hmk;simp at heq;obtain ⟨rfl,rfl⟩:=heq;go_wp2_with fail;have BX:=YC BR.out ⟨lt,la⟩;obtain ⟨g0,g1⟩:=BX.cells2;have MS:=y (YD (Q [gk+1+1] wb) (gk+1+1) ⟨lt,la⟩ (fun _=>N));change bodyPost _ _ _ _ _ (YM wb (gk+1+1) ⟨lt,la⟩);generalize YM wb (gk+1+1) ⟨lt,la⟩=X at *;exact kJ
 ·have hlt16:(lt:Int)≤16:=by
   have hp:=HLO.out.plain;by_cases h:la=0
   ·have:=hp.1 (.inr h);simp only at this;omega
   ·have:=hp.2 rfl h;simp only at this;omega
  by_cases h0:ha=0
  ·subst h0;by_cases hz:lt=l+1
   ·subst hz;have hmk:mkP L 5 l ⟨l+1,la⟩ ⟨ht,0⟩=(L,⟨l,la⟩):=by unfold mkP Xd;simp only [if_neg (show ¬((5:Nat)=2∨(5:Nat)=4) from V),if_neg heq];simp
    have hmk:=y hmk;have EQ:=fun w=>(Y4 9998 ⟨l+1,la⟩ ⟨ht,0⟩ w).trans (xu)
    unfold edv at EQ;simp only at EQ;rw [show ((0:Nat):Int)=0 from rfl] at EQ p1;rw [show ((l+1:Nat):Int)=(l:Int)+1 from rfl] at EQ q0;clear heq;go_wp2_with fail;have BX:=YC BR.out ⟨l,la⟩;obtain ⟨g0,g1⟩:=BX.cells2;have MS:=y (YD (Q [gk+1+1] wb) (gk+1+1) ⟨l,la⟩ (fun _=>N));change bodyPost _ _ _ _ _ (YM wb (gk+1+1) ⟨l,la⟩);generalize YM wb (gk+1+1) ⟨l,la⟩=X at *;exact kJ
   ·have hs:Xd 5 l ⟨lt,la⟩ ⟨ht,0⟩=t:=jS;have hr:za6 L 5 l ⟨lt,la⟩ ⟨ht,0⟩=⟨5,l,l,⟨lt,la⟩,⟨ht,0⟩⟩:=qd;have hz1:((lt:Int)==(l:Int)+1)=false:=zo;have hz2:¬(lt:Int)=(l:Int)+1:=V;have EQ:=fun w=>(Y4 9998 ⟨lt,la⟩ ⟨ht,0⟩ w).trans (xu)
    unfold edv at EQ;simp only at EQ;rw [show ((0:Nat):Int)=0 from rfl] at EQ p1;clear heq;have hg:=YU HG.out (V) (V) hl hn HLO.out HLH.out hs;have hmk:mkP L 5 l ⟨lt,la⟩ ⟨ht,0⟩=((fnd L ⟨5,l,l,⟨lt,la⟩,⟨ht,0⟩⟩).1,⟨l,(fnd L ⟨5,l,l,⟨lt,la⟩,⟨ht,0⟩⟩).2⟩):=yb;have hmk:=y hmk;rw [hr] at hg;have FN:O (∀W,Z [] w W→_):=fun W m=>zj6 (HS.out.mod m (N)) hL hroom hrm hn ⟨5,l,l,⟨lt,la⟩,⟨ht,0⟩⟩ hg.right hg.lo hg.hi
    clear hs hr hg;generalize (fnd L ⟨5,l,l,⟨lt,la⟩,⟨ht,0⟩⟩).2=id at *;generalize (fnd L ⟨5,l,l,⟨lt,la⟩,⟨ht,0⟩⟩).1=L2 at *;unfold rcv edv at FN;simp only at FN;rw [show ((0:Nat):Int)=0 from rfl] at FN;exact kG
  ·have hs:Xd 5 l ⟨lt,la⟩ ⟨ht,ha⟩=t:=jS;have hr:za6 L 5 l ⟨lt,la⟩ ⟨ht,ha⟩=⟨5,l,l,⟨lt,la⟩,⟨ht,ha⟩⟩:=qd;have hz1:((ha:Int)==0)=false:=zo;have hz2:¬(ha:Int)=0:=V;have EQ:=fun w=>(Y4 9998 ⟨lt,la⟩ ⟨ht,ha⟩ w).trans (xu)
   unfold edv at EQ;simp only at EQ;clear heq;have hg:=YU HG.out (V) (V) hl hn HLO.out HLH.out hs;have hmk:mkP L 5 l ⟨lt,la⟩ ⟨ht,ha⟩=((fnd L ⟨5,l,l,⟨lt,la⟩,⟨ht,ha⟩⟩).1,⟨l,(fnd L ⟨5,l,l,⟨lt,la⟩,⟨ht,ha⟩⟩).2⟩):=yb;have hmk:=y hmk;rw [hr] at hg;have FN:O (∀W,Z [] w W→_):=fun W m=>zj6 (HS.out.mod m (N)) hL hroom hrm hn ⟨5,l,l,⟨lt,la⟩,⟨ht,ha⟩⟩ hg.right hg.lo hg.hi
   clear hs hr hg;generalize (fnd L ⟨5,l,l,⟨lt,la⟩,⟨ht,ha⟩⟩).2=id at *;generalize (fnd L ⟨5,l,l,⟨lt,la⟩,⟨ht,ha⟩⟩).1=L2 at *;unfold rcv edv at FN;simp only at FN;exact kG
end Go.Proofs.YtbnpoapmnkfhkaaGreatDoor
