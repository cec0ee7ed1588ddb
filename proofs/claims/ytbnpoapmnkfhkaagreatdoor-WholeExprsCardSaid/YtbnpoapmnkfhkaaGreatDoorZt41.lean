import Derived.Test.YtbnpoapmnkfhkaaGreatDoorZt34
import Derived.Test.YtbnpoapmnkfhkaaGreatDoorZt40
set_option maxRecDepth 100000
set_option maxHeartbeats 4000000
set_option linter.unusedVariables false
set_option linter.unusedSimpArgs false
namespace Go.Proofs.YtbnpoapmnkfhkaaGreatDoor
open Option renaming none → s, some → k
open Go.Value renaming pointer → o, int → d, slice → R, tuple → M
open Nat renaming lt_of_lt_of_le → c, le_trans → P
open Go.Proofs.Tryz renaming prog → b
open List renaming getElem?_eq_some_iff → Z, getElem?_cons_zero → O
open Go.IntKind renaming i64 → Y, u8 → K, u32 → J
open Go.Ending renaming returned → V
open Go.Lib renaming hid → U
open Go.Obj renaming cells → S
open Go renaming Calls → Q, World → I
open Go.RowKit
theorem Dia.root {L:List Rc} {n f:Nat} {e:Ed} {T:Tr} (h:Dia L n f e T):Root L n f e T:=⟨h.f1,P h.f2 (zc),h.rep,h.lead⟩
theorem zQ5 {w:I} {bm room:Nat} {L:List Rc} {Fs p:List Nat} {H:List (Nat × Ed)} {bs bo bq:Nat} {F:List Nat} (h:Mng w bm 3 room L Fs p H bs bo bq F) (hL:L.length≤1048576) (hnd:L.Nodup) (hG:Good L 3) (hp:p.length=3) (hpv:∀v∈p,v < 16) (hH:H.length≤256)
 {a f:Nat} {e:Ed} {T:Tr} (hf:H[a]? =k (f,e)) (hD:Dia L 3 f e T):
 Q b 128 #[o (k ⟨bm,0,s⟩),d Y ((a+1:Nat):Int)] w fun e' w'=>∃z:Nat,e'=V (M #[d Y z,d K 0])∧z≤9∧Mod [] w w':=by
 obtain ⟨ba,bg,vk,vq,vg,Fo,q,g1,g2,g3,-,g5,-⟩:=h.m;have p3:=g1.cell 3 (zc);replace p3:w.cell? ⟨bm,3,s⟩=k (o (k ⟨bs,0,s⟩)):=p3;have hbm:=g1.lt;obtain ⟨hl,hg⟩:=Z.1 hf;obtain ⟨-,d1,d2⟩:=g1.root hH a hl;rw [hg] at d1 d2;simp only at d1 d2
 have SZ:Hid (∀W,Mod [] w W→Q b 151 #[o (k ⟨bs,0,s⟩),d K f,edv e,d Y 0] W fun e' w'=>∃z:Nat,e'=V (M #[d Y z,d K 0])∧z≤9∧Mod [] W w'):=fun W md=>by
  refine (ze5 (h.s.mod md (ze)) hL hnd (zc) f hD.f1 (P hD.f2 (zc)) e 0 (zc) hD.lead (x:=(e.t,T)) ⟨rfl,hD.rep⟩ (P hD.size (zc)) (P hD.few (zc))).mono ?_;rintro e' w' ⟨rfl,m⟩;exact ⟨_,rfl,hD.few,m⟩
 obtain ⟨g,hgz⟩:∃g,w.heap.size=g:=⟨_,rfl⟩;have hm0':a+1 < 257:=zc;have MA:Hid (Mod [] w (w.alloc (S #[d Y ((a+1:Nat):Int)] 3))):=(Mod.refl _ _).alloc _;have SM:=U (zk2 (g:=g) (cap:=1) (g1.mod MA.out (ze)) hH (a:=a) (jG) hf);obtain ⟨m,hm⟩:∃m,a+1=m:=⟨_,rfl⟩;rw [hm] at d1 d2 SM MA hm0' ⊢;have hm3:(m:Int) < 257:=zc;have hm0:(0:Int)≤m:=zc;obtain ⟨t,x⟩:=e;unfold edv at SZ;simp only at d1 d2 SZ;have d2':w.cell? ⟨bm,262+m *3+1+1,s⟩=k (d J x):=d2
 skip
 clear hg h hf hl hm g1 g2 g3 hD d2 hG hnd;go_in;go_wp2_with fail;have p3:=(MA.out.cell (a:=⟨bm,3,s⟩) hbm (ze)).trans p3;have d1:=(MA.out.cell (a:=⟨bm,262+m *3+1,s⟩) hbm (ze)).trans d1;have d2:=(MA.out.cell (a:=⟨bm,262+m *3+1+1,s⟩) hbm (ze)).trans d2';have hbm:=c hbm MA.out.size;refine SM.out.mono ?_;rintro e w1 ⟨rfl,rfl⟩;generalize w.alloc (S #[d Y (m:Int)] 3)=w1 at *;go_wp2_with fail
 go_region_held3 (fun w'=>w'.cell? ⟨bm,3,s⟩=k (o (k ⟨bs,0,s⟩))∧w'.cell? ⟨bm,262+m *3+1,s⟩=k (d K t)∧w'.cell? ⟨bm,262+m *3+1+1,s⟩=k (d J x)) (go_keep) (first | (go_at_call 151;refine (SZ.out _ (MA.out.trans' (show Mod [] w1 _ from zg))).mono ?_;rintro e' w2 ⟨z,rfl,hz,m_w2⟩;have M_w2:=Mod.trans' (show Mod _ w1 _ from zg) m_w2;have p3:=(M_w2.cell (a:=⟨bm,3,s⟩) hbm (zh)).trans p3;have d1:=(M_w2.cell (a:=⟨bm,262+m *3+1,s⟩) hbm (zh)).trans d1;have d2:=(M_w2.cell (a:=⟨bm,262+m *3+1+1,s⟩) hbm (zh)).trans d2;have hbm:=c hbm M_w2.size;skip))
 all_goals
  go_wp2_with fail;go_ret2;exact ⟨z,rfl,hz,MA.out.trans' M_w2⟩
theorem zI9 {w:I} {bm room:Nat} {L:List Rc} {Fs p:List Nat} {H:List (Nat × Ed)} {bs bo bq:Nat} {F:List Nat} (h:Mng w bm 3 room L Fs p H bs bo bq F) (hL:L.length≤1048576) (hnd:L.Nodup) (hG:Good L 3) (hp:p.length=3) (hpv:∀v∈p,v < 16) (hH:H.length≤256)
 {a f:Nat} {e:Ed} {T:Tr} (hf:H[a]? =k (f,e)) (hD:Dia L 3 f e T):
 Q b 127 #[o (k ⟨bm,0,s⟩),d Y ((a+1:Nat):Int)] w fun e' w'=>∃z:Nat,e'=V (M #[d Y z,d K 0])∧z≤8∧Mod [] w w':=by
 obtain ⟨ba,bg,vk,vq,vg,Fo,q,g1,g2,g3,-,g5,-⟩:=h.m;have p3:=g1.cell 3 (zc);replace p3:w.cell? ⟨bm,3,s⟩=k (o (k ⟨bs,0,s⟩)):=p3;have hbm:=g1.lt;obtain ⟨hl,hg⟩:=Z.1 hf;obtain ⟨-,d1,d2⟩:=g1.root hH a hl;rw [hg] at d1 d2;simp only at d1 d2
 have SZ:Hid (∀W,Mod [] w W→Q b 150 #[o (k ⟨bs,0,s⟩),d K f,edv e] W fun e' w'=>∃z v,e'=V (M #[v,d K 0])∧z≤8∧NNew W z w' v∧Mod [] W w'):=fun W md=>by
  refine (zy0 (h.s.mod md (ze)) hL hnd hG (zc) hD).mono ?_;rintro e' w' ⟨v,rfl,n⟩;have hle:=ys7 hG (by have:=hD.f1;have:=hD.f2;omega) hD.rep (t:=e.t) (l:=0) hD.lead (zc);exact ⟨_,v,rfl,by simpa using hle,n,n.mod⟩
 obtain ⟨g,hgz⟩:∃g,w.heap.size=g:=⟨_,rfl⟩;have hm0':a+1 < 257:=zc;have MA:Hid (Mod [] w (w.alloc (S #[d Y ((a+1:Nat):Int)] 3))):=(Mod.refl _ _).alloc _;have SM:=U (zk2 (g:=g) (cap:=1) (g1.mod MA.out (ze)) hH (a:=a) (jG) hf);obtain ⟨m,hm⟩:∃m,a+1=m:=⟨_,rfl⟩;rw [hm] at d1 d2 SM MA hm0' ⊢;have hm3:(m:Int) < 257:=zc;have hm0:(0:Int)≤m:=zc;obtain ⟨t,x⟩:=e;unfold edv at SZ;simp only at d1 d2 SZ;have d2':w.cell? ⟨bm,262+m *3+1+1,s⟩=k (d J x):=d2
 skip
 clear hg h hf hl hm g1 g2 g3 hD d2 hG hnd;go_in;go_wp2_with fail;have p3:=(MA.out.cell (a:=⟨bm,3,s⟩) hbm (ze)).trans p3;have d1:=(MA.out.cell (a:=⟨bm,262+m *3+1,s⟩) hbm (ze)).trans d1;have d2:=(MA.out.cell (a:=⟨bm,262+m *3+1+1,s⟩) hbm (ze)).trans d2';have hbm:=c hbm MA.out.size;refine SM.out.mono ?_;rintro e w1 ⟨rfl,rfl⟩;generalize w.alloc (S #[d Y (m:Int)] 3)=w1 at *;go_wp2_with fail
 go_region_held3 (fun w'=>w'.cell? ⟨bm,3,s⟩=k (o (k ⟨bs,0,s⟩))∧w'.cell? ⟨bm,262+m *3+1,s⟩=k (d K t)∧w'.cell? ⟨bm,262+m *3+1+1,s⟩=k (d J x)) (go_keep) (first | (go_at_call 150;refine (SZ.out _ (MA.out.trans' (show Mod [] w1 _ from zg))).mono ?_;rintro e' w2 ⟨z,v,rfl,hz,nn,m_w2⟩;have M_w2:=Mod.trans' (show Mod _ w1 _ from zg) m_w2;have p3:=(M_w2.cell (a:=⟨bm,3,s⟩) hbm (zh)).trans p3;have d1:=(M_w2.cell (a:=⟨bm,262+m *3+1,s⟩) hbm (zh)).trans d1;have d2:=(M_w2.cell (a:=⟨bm,262+m *3+1+1,s⟩) hbm (zh)).trans d2;have hbm:=c hbm M_w2.size;skip))
 all_goals
  have MZ:=U (MA.out.trans' M_w2);obtain ⟨l,hc,F2,hs,-,-⟩:=nn;obtain ⟨Av,capv,rfl,hcapv⟩:=hs.shape;cases l with
  | nil=>
   clear hs hc;simp only [List.map_nil,List.length_nil] at hcapv ⊢;go_wp2_with fail;go_ret2;exact ⟨0,rfl,zc,MZ.out⟩
  | cons y ys=>
   have hy:y≤8:=by
    have hv:=hc.val;unfold vl at hv;have:y≤z:=by rw [←hv];exact Nat.le_add_right _ _
    omega
   obtain ⟨gv,capv2,e1,-,-⟩:=hs.pos (ze);simp only [Value.slice.injEq] at e1;obtain ⟨rfl,-,-⟩:=e1;have c0:=(hs.at 0 (ze)).1;simp only [List.map_cons,O] at c0;replace c0:w2.cell? ⟨gv,0,s⟩=k (d .u64 (y:Int)):=c0;have hyi:(y:Int)≤8:=zc;have hy0:(0:Int)≤y:=zc;obtain ⟨N,hN⟩:∃N,((y::ys).map e6).length=N:=⟨_,rfl⟩;have hN0:0 < N:=by rw [←hN];simp
   have hNe:((N:Int)==0)=false:=zj;have hNi:(0:Int) < N:=zc;rw [hN] at hcapv ⊢;clear hs hc hN;go_wp2_with fail;go_ret2;exact ⟨y,rfl,hy,MZ.out⟩
theorem zy7 {w:I} {bm room:Nat} {L:List Rc} {Fs p:List Nat} {H:List (Nat × Ed)} {bs bo bq:Nat} {F:List Nat} (h:Mng w bm 3 room L Fs p H bs bo bq F) (hL:L.length≤1048576) (hnd:L.Nodup) (hG:Good L 3) (hp:p.length=3) (hpv:∀v∈p,v < 16) (hH:H.length≤256)
 {a f:Nat} {e:Ed} {T:Tr} (hf:H[a]? =k (f,e)) (hD:Dia L 3 f e T):
 Q b 129 #[o (k ⟨bm,0,s⟩),d Y ((a+1:Nat):Int)] w fun e' w'=>∃z:Nat,e'=V (M #[d .u16 z,d K 0])∧z < 65536∧Mod [] w w':=by
 obtain ⟨ba,bg,vk,vq,vg,Fo,q,g1,g2,g3,-,g5,-⟩:=h.m;have p1:=g1.cell 1 (zc);replace p1:w.cell? ⟨bm,1,s⟩=k (o (k ⟨bq,0,s⟩)):=p1;have p3:=g1.cell 3 (zc);replace p3:w.cell? ⟨bm,3,s⟩=k (o (k ⟨bs,0,s⟩)):=p3;have p4:=g1.cell 4 (zc);replace p4:w.cell? ⟨bm,4,s⟩=k (o (k ⟨bo,0,s⟩)):=p4;have hbm:=g1.lt;obtain ⟨hl,hg⟩:=Z.1 hf;obtain ⟨-,d1,d2⟩:=g1.root hH a hl;rw [hg] at d1 d2;simp only at d1 d2
 have SZ:Hid (∀W,Mod [] w W→Q b 152 #[o (k ⟨bq,0,s⟩),d K f,edv e] W fun e' w'=>∃z:Nat,e'=V (M #[d .u16 z,d K 0])∧z < 65536∧Mod [] W w'):=fun W md=>by
  exact zl1 (h.s.mod md (ze)) hL hG (g5.mod md (ze)) hD.root
 obtain ⟨g,hgz⟩:∃g,w.heap.size=g:=⟨_,rfl⟩;have hm0':a+1 < 257:=zc;have MA:Hid (Mod [] w (w.alloc (S #[d Y ((a+1:Nat):Int)] 3))):=(Mod.refl _ _).alloc _;have SM:=U (zk2 (g:=g) (cap:=1) (g1.mod MA.out (ze)) hH (a:=a) (jG) hf);obtain ⟨m,hm⟩:∃m,a+1=m:=⟨_,rfl⟩;rw [hm] at d1 d2 SM MA hm0' ⊢;have hm3:(m:Int) < 257:=zc;have hm0:(0:Int)≤m:=zc;obtain ⟨t,x⟩:=e;unfold edv at SZ;simp only at d1 d2 SZ;have d2':w.cell? ⟨bm,262+m *3+1+1,s⟩=k (d J x):=d2
 have VA:Hid (∀W',Mod [] w W'→Q b 67 #[o (k ⟨bs,0,s⟩)] W' fun e w'=>e=V (d Y 3)∧w'=W'):=fun W' md=>by
  obtain ⟨ba,bi,Fa,c0,_⟩:=(h.s.mod md (ze)).own;exact YH bs 3 W' c0
 have OV:Hid (∀j:Nat,j < 3→∀W',Mod [] w W'→∃v:Nat,v < 16∧Q b 109 #[o (k ⟨bo,0,s⟩),d Y j] W' fun e w'=>e=V (d Y v)∧w'=W'):=fun j hj W' md=>
  ⟨p[j]'(zc),hpv _ (List.getElem_mem _),zj2 (g2.mod md (ze)) (zc) j (zc)⟩
 clear hg h hf hl hm g1 g2 g3 hD d2 hG hnd;go_in;go_wp2_with fail;have p1:=(MA.out.cell (a:=⟨bm,1,s⟩) hbm (ze)).trans p1;have p3:=(MA.out.cell (a:=⟨bm,3,s⟩) hbm (ze)).trans p3;have p4:=(MA.out.cell (a:=⟨bm,4,s⟩) hbm (ze)).trans p4;have d1:=(MA.out.cell (a:=⟨bm,262+m *3+1,s⟩) hbm (ze)).trans d1;have d2:=(MA.out.cell (a:=⟨bm,262+m *3+1+1,s⟩) hbm (ze)).trans d2';have hbm:=c hbm MA.out.size;refine SM.out.mono ?_;rintro e w1 ⟨rfl,rfl⟩;generalize w.alloc (S #[d Y (m:Int)] 3)=w1 at *;go_wp2_with fail
 go_region_held3 (fun w'=>w'.cell? ⟨bm,1,s⟩=k (o (k ⟨bq,0,s⟩))∧w'.cell? ⟨bm,3,s⟩=k (o (k ⟨bs,0,s⟩))∧w'.cell? ⟨bm,4,s⟩=k (o (k ⟨bo,0,s⟩))∧w'.cell? ⟨bm,262+m *3+1,s⟩=k (d K t)∧w'.cell? ⟨bm,262+m *3+1+1,s⟩=k (d J x)) (go_keep) (first | (go_at_call 152;refine (SZ.out _ (MA.out.trans' (show Mod [] w1 _ from zg))).mono ?_;rintro e' w2 ⟨z,rfl,hz,m_w2⟩;have M_w2:=Mod.trans' (show Mod _ w1 _ from zg) m_w2;have p1:=(M_w2.cell (a:=⟨bm,1,s⟩) hbm (zh)).trans p1;have p3:=(M_w2.cell (a:=⟨bm,3,s⟩) hbm (zh)).trans p3;have p4:=(M_w2.cell (a:=⟨bm,4,s⟩) hbm (zh)).trans p4;have d1:=(M_w2.cell (a:=⟨bm,262+m *3+1,s⟩) hbm (zh)).trans d1;have d2:=(M_w2.cell (a:=⟨bm,262+m *3+1+1,s⟩) hbm (zh)).trans d2;have hbm:=c hbm M_w2.size;skip))
 all_goals
  have MZ:=U (MA.out.trans' M_w2);clear m_w2 M_w2;go_wp2_with fail;refine (VA.out _ (jE)).mono ?_;rintro e w3 ⟨rfl,rfl⟩;go_wp2_with fail
  go_loopw [9,10,46] (fun y _ i wx=>∃(j y':Nat),i=d Y j∧j≤3∧y=d .u16 y'∧y' < 65536∧wx=w3) (fun _ _ i _=>3 - (intOf i).toNat)
  case atStart=>exact ⟨0,0,rfl,zc,rfl,zc,rfl⟩
  case round=>
   obtain ⟨j,y,rfl,hj,rfl,hy,rfl⟩:=hrel;by_cases hjl:j < 3
   ·have hjl':(j:Int) < 3:=zc;have hj0:(0:Int)≤j:=zc;obtain ⟨v,hv16,OV⟩:=OV.out j hjl _ MZ.out;have OV:=U OV;cases hb:(bits BinOp.and IntKind.u16 ((z:Int) / 2 ^ j) 1==1) with
    | false=>
     go_wp2_with fail;go_roundw
     case rel=>exact ⟨j+1,y,by first | rfl | go_num,zc,rfl,hy,xv⟩
     case measure=>simp [intOf];omega
    | true=>
     go_wp2_with fail;refine OV.out.mono ?_;rintro e w4 ⟨rfl,rfl⟩;go_wp2_with fail;obtain ⟨y3,e3,hy3⟩:=zq9 .or (y:Int) (IntKind.u16.wrap (2 ^ v))
     first
      | exact ⟨⟨j+1,y3,ze,zc,by rw [e3],hy3,trivial⟩,zR⟩
      | (
       go_roundw
       case rel=>exact ⟨j+1,y3,by first | rfl | go_num,zc,by rw [e3],hy3,xv⟩
       case measure=>simp [intOf];omega)
   ·obtain rfl:j=3:=zc;go_wp2_with fail;go_ret2;exact ⟨y,rfl,hy,MZ.out⟩
theorem yi4 {w:I} {bm room:Nat} {L:List Rc} {Fs p:List Nat} {H:List (Nat × Ed)} {bs bo bq:Nat} {F:List Nat} (h:Mng w bm 3 room L Fs p H bs bo bq F) (hL:L.length≤1048576) (hnd:L.Nodup) (hG:Good L 3) (hp:p.length=3) (hpv:∀v∈p,v < 16) (hH:H.length≤256)
 {a f:Nat} {e:Ed} {T:Tr} (hf:H[a]? =k (f,e)) (hD:Dia L 3 f e T):
 Q b 130 #[o (k ⟨bm,0,s⟩),d Y ((a+1:Nat):Int)] w fun e' w'=>yN1 w e' w':=by
 obtain ⟨ba,bg,vk,vq,vg,Fo,q,g1,g2,g3,-,g5,-⟩:=h.m;have p3:=g1.cell 3 (zc);replace p3:w.cell? ⟨bm,3,s⟩=k (o (k ⟨bs,0,s⟩)):=p3;have p4:=g1.cell 4 (zc);replace p4:w.cell? ⟨bm,4,s⟩=k (o (k ⟨bo,0,s⟩)):=p4;have hbm:=g1.lt;obtain ⟨hl,hg⟩:=Z.1 hf;obtain ⟨-,d1,d2⟩:=g1.root hH a hl;rw [hg] at d1 d2;simp only at d1 d2
 have SZ:Hid (∀W,Mod [] w W→Q b 34 #[o (k ⟨bs,0,s⟩),o (k ⟨bo,0,s⟩),d K f,edv e] W fun e' w'=>∃gw wd,e'=V (M #[.agg #[d Y 3,R (k ⟨gw,0,s⟩) 1 1],d K 0])∧wd < 256∧Blk w' gw #[d .u64 (wd:Nat)] 185∧W.heap.size≤gw∧Mod [] W w'):=fun W md=>by
  exact zB0 (h.s.mod md (ze)) hL hG (g2.mod md (ze)) hp hpv hD.root
 obtain ⟨g,hgz⟩:∃g,w.heap.size=g:=⟨_,rfl⟩;have hm0':a+1 < 257:=zc;have MA:Hid (Mod [] w ((w.alloc (S #[d Y 0,R s 0 0] 88)).alloc (S #[d Y ((a+1:Nat):Int)] 3))):=((Mod.refl _ _).alloc _).alloc _;have BK:Hid (Blk ((w.alloc (S #[d Y 0,R s 0 0] 88)).alloc (S #[d Y ((a+1:Nat):Int)] 3)) g #[d Y 0,R s 0 0] 88):=(Blk.new' w _ _ g hgz.symm).alloc _;have SM:=U (zk2 (g:=g+1) (cap:=1) (g1.mod MA.out (ze)) hH (a:=a) (by have BA:=Blk.new' (w.alloc (S #[d Y 0,R s 0 0] 88)) #[d Y ((a+1:Nat):Int)] 3 (g+1) (by simp [hgz]);have:=BA.cell 0;simpa using this) hf);obtain ⟨m,hm⟩:∃m,a+1=m:=⟨_,rfl⟩;rw [hm] at d1 d2 SM MA BK hm0' ⊢;have hm3:(m:Int) < 257:=zc;have hm0:(0:Int)≤m:=zc;obtain ⟨t,x⟩:=e;unfold edv at SZ;simp only at d1 d2 SZ;have d2':w.cell? ⟨bm,262+m *3+1+1,s⟩=k (d J x):=d2
 skip
 clear hg h hf hl hm g1 g2 g3 hD d2 hG hnd;go_in;go_wp2_with fail;have p3:=(MA.out.cell (a:=⟨bm,3,s⟩) hbm (ze)).trans p3;have p4:=(MA.out.cell (a:=⟨bm,4,s⟩) hbm (ze)).trans p4;have d1:=(MA.out.cell (a:=⟨bm,262+m *3+1,s⟩) hbm (ze)).trans d1;have d2:=(MA.out.cell (a:=⟨bm,262+m *3+1+1,s⟩) hbm (ze)).trans d2';obtain ⟨k0,k1⟩:=BK.out.cells2;have hgl:=BK.out.lt;have hgb:¬g=bm:=zc;have hgb2:¬bm=g:=zc;have hbm:=c hbm MA.out.size;refine SM.out.mono ?_;rintro e w1 ⟨rfl,rfl⟩;generalize (w.alloc (S #[d Y 0,R s 0 0] 88)).alloc (S #[d Y (m:Int)] 3)=w1 at *;go_wp2_with fail
 go_region_held3 (fun w'=>w'.cell? ⟨bm,3,s⟩=k (o (k ⟨bs,0,s⟩))∧w'.cell? ⟨bm,4,s⟩=k (o (k ⟨bo,0,s⟩))∧w'.cell? ⟨bm,262+m *3+1,s⟩=k (d K t)∧w'.cell? ⟨bm,262+m *3+1+1,s⟩=k (d J x)) (go_keep) (first | (go_at_call 34;refine (SZ.out _ (MA.out.trans' (show Mod [] w1 _ from zg))).mono ?_;rintro e' w2 ⟨gw,wd,rfl,hwd,bgw,hgw,m_w2⟩;have M_w2:=Mod.trans' (show Mod _ w1 _ from zg) m_w2;have p3:=(M_w2.cell (a:=⟨bm,3,s⟩) hbm (zh)).trans p3;have p4:=(M_w2.cell (a:=⟨bm,4,s⟩) hbm (zh)).trans p4;have d1:=(M_w2.cell (a:=⟨bm,262+m *3+1,s⟩) hbm (zh)).trans d1;have d2:=(M_w2.cell (a:=⟨bm,262+m *3+1+1,s⟩) hbm (zh)).trans d2;have hbm:=c hbm M_w2.size;have f0:=(BK.out.mod M_w2 (ze)).froz 0;have f1:=(BK.out.mod M_w2 (ze)).froz 1;have k0:=(M_w2.cell (a:=⟨g,0,s⟩) BK.out.lt (ze)).trans k0;have k1:=(M_w2.cell (a:=⟨g,1,s⟩) BK.out.lt (ze)).trans k1;have hgl:=c hgl M_w2.size))
 all_goals
  have BX:=((BK.out.mod M_w2 (ze)).set 0 (d Y 3)).set 1 (R (k ⟨gw,0,s⟩) 1 1);simp only [List.setIfInBounds_toArray,List.set_cons_zero,List.set_cons_succ] at BX;have MX:Mod [g] w2 ((w2.setCell ⟨g,0,s⟩ (d Y 3)).setCell ⟨g,1,s⟩ (R (k ⟨gw,0,s⟩) 1 1)):=zg;have hgw':w1.heap.size≤gw:=hgw;have hgw1:g < gw:=by have:=BK.out.lt;omega
  have BGX:=bgw.mod MX (zj);have MF:=(MA.out.trans' M_w2).trans MX (yQ);have hgw2:w.heap.size≤gw:=zc;obtain ⟨z0,z1⟩:=BX.cells2;clear k0 k1 f0 f1 p3 p4 d1 d2 m_w2 M_w2;generalize (w2.setCell ⟨g,0,s⟩ (d Y 3)).setCell ⟨g,1,s⟩ (R (k ⟨gw,0,s⟩) 1 1)=X at *;go_wp2_with fail;refine bodyPost_ret (v:=M #[.agg #[d Y 3,R (k ⟨gw,0,s⟩) 1 1],d K 0]) (by simp [results,Tryz.results130,go_sem,z0,z1];try rfl) rfl ?_;exact ⟨gw,wd,rfl,hwd,BGX,hgw2,MF⟩
theorem yJ3 {w:I} {bo:Nat} {p q Fo:List Nat} (hO:IsOrd w bo p q Fo) (hp:p.length≤16):Q b 125 #[o (k ⟨bo,0,s⟩)] w fun e w'=>∃v,e=V v∧NewV 3 w (p.map ei) w' v:=by
 obtain ⟨vp,vq,Fp,Fq,h1,h2,h3,rfl,r⟩:=hO;have c0:=h1.cell 0;simp only [List.getElem?_toArray,O] at c0;have CL:=U (ze4 (Rv.of_sl h2 (ze)) (by intro u hu;simp at hu;obtain ⟨x,-,rfl⟩:=hu;rfl) (zj));obtain ⟨a,cap,rfl,hcap⟩:=h2.shape;clear h1 h2 h3;go_in;go_wp2_with fail;refine CL.out.mono ?_;rintro e w' ⟨v,rfl,n⟩;have N:=U n;clear n CL;go_wp2_with fail;go_ret;exact ⟨_,rfl,N.out⟩
theorem zo5 {w:I} {bm n room:Nat} {L:List Rc} {Fs p:List Nat} {H:List (Nat × Ed)} {bs bo bq:Nat} {F:List Nat} (h:Mng w bm n room L Fs p H bs bo bq F) (hp:p.length≤16):
 Q b 90 #[o (k ⟨bm,0,s⟩)] w fun e w'=>∃v,e=V v∧NewV 3 w (p.map ei) w' v:=by
 obtain ⟨ba,bg,vk,vq,vg,Fo,q,g1,g2,g3,-⟩:=h.m;have d4:=g1.cell 4 (zc);replace d4:w.cell? ⟨bm,4,s⟩=k (o (k ⟨bo,0,s⟩)):=d4;have PE:=U (yJ3 g2 hp);clear h g1 g2 g3;go_in;go_wp2_with fail;refine PE.out.mono ?_;rintro e w1 ⟨v,rfl,n⟩;have N:=U n;clear n PE;go_wp2_with fail;go_ret;exact ⟨_,rfl,N.out⟩
end Go.Proofs.YtbnpoapmnkfhkaaGreatDoor
