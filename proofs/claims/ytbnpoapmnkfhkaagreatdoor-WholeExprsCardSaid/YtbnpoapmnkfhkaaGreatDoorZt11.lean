import Derived.Test.YtbnpoapmnkfhkaaGreatDoorZt10
set_option maxRecDepth 100000
set_option maxHeartbeats 2000000
set_option linter.unusedVariables false
set_option linter.unusedSimpArgs false
namespace Go.Proofs.YtbnpoapmnkfhkaaGreatDoor
open Go.Value renaming int → z, slice → U, pointer → I, tuple → C, bool → A, agg → Γ
open Go.Lib renaming hid → y
open Option renaming none → u, some → V
open Nat renaming lt_of_lt_of_le → t, pow_le_pow_right → G
open Go.Obj renaming cells → s
open Go.IntKind renaming u8 → o, u32 → j, i64 → Y, u64 → D
open Go.Proofs.Tryz renaming prog → d, results144 → Θ, results145 → Δ
open Go.Ending renaming returned → c
open Go.World renaming block_lt_of_cell? → Z
open Go.Proofs.YtbnpoapmnkfhkaaGreatDoor renaming zc → T, Mod → R, ze → J
open Go.Proofs.YtbnpoapmnkfhkaaGreatDoor.Mod renaming trans' → Q, refl → Ψ
open Go.Proofs.YtbnpoapmnkfhkaaGreatDoor.Blk renaming new' → P
open BitVec renaming ofInt → O, ofInt_natCast → H, getLsbD_ofNat → Ω, toNat_ofNat → Φ, ofNat → ω
open Go renaming Calls → N, World → M, bodyPost_ret → E, results → Ξ
open Go.RowKit renaming Hid → K
open Go.RowKit
theorem kQ {p:Prop} (h:p:=by
 rw [hmk.out];refine ⟨rfl,F3,S3.out.mod MS.out (fun k hk=>?_),M2.out.trans MS.out (zu),fun k hk=>(F3'.out k hk).imp (fun h=>h) (fun h=>zG)⟩
 simp;rintro rfl;rcases F3'.out _ hk with h | h;exact hFg h;simp at h;omega):p:=h
theorem kN {p:Prop} (h:p:=by
 go_wp2_with fail;have BX:=YC BR.out ⟨0,id⟩;obtain ⟨g0,g1⟩:=BX.cells2;have MS:=y (YD (Ψ [gk+1+1] w3) (gk+1+1) ⟨0,id⟩ (fun _=>J));change bodyPost _ _ _ _ _ (YM w3 (gk+1+1) ⟨0,id⟩);generalize YM w3 (gk+1+1) ⟨0,id⟩=X at *;clear e0 e1 f0 f1 BX;simp only at g0 g1;refine E (by simp [Ξ,Θ,g0,g1,go_sem];try rfl) rfl ?_
 exact kQ):p:=h
theorem kP {p:Prop} (h:p:=by
 have hsb:=M2.out.size;have hk2:=BR.out.lt;replace BR:=BR.out.mod M_w3 hFg;clear hhd hxd hrd;obtain ⟨e0,e1⟩:=BR.cells2;obtain ⟨f0,f1,-⟩:=BR.frozs;have S3:=y s3;have F3':=y f3;replace M2:=y ((M2.out.mono (S':=F) (zq)).trans M_w3 (zD));have BR:=y BR;clear FN s3 f3 m_w3 BL BH BX x0 x1 x2 x3 x4 x5 x6 EQ p0 p1 q0 q1 y0 y1 y2 y3 y4 y5 y6 hld
 exact kN):p:=h
theorem kR {p:Prop} (h:p:=by
 rw [hmk.out]
 exact ⟨rfl,F,(HS.out.mod M2.out (J)).mod MS.out (fun k hk=>yT),(M2.out.mono (zq)).trans MS.out (zu),fun k hk=>.inl hk⟩):p:=h
theorem zO5 {w:M} {b n:Nat} {L:List Rc} {room:Nat} {F:List Nat} (h:IsSt w b n L room F) (hL:L.length≤100000) (hroom:L.length < room) (hrm:room≤1048576) (hn:n≤16) (hG:Good L n) (l:Nat) (hl:l < n) (lo hi:Ed)
 (hlo:LeadsP L 3 lo (l+1) n) (hhi:LeadsP L 3 hi (l+1) n):
 N d 144 #[I (V ⟨b,0,u⟩),z Y l,edv lo,edv hi] w fun e w'=>e=c (C #[edv (mkP L 3 l lo hi).2,z o 0])∧∃F',IsSt w' b n (mkP L 3 l lo hi).1 room F'∧R F w w'∧∀k∈F',k∈F∨w.heap.size≤k:=by
 have LO:K (∀W,R [] w W→_):=fun W m=>YI (h.mod m (J)) (T) hn 3 (T) (T) lo (l+1) (T) hlo
 have LH:K (∀W,R [] w W→_):=fun W m=>YI (h.mod m (J)) (T) hn 3 (T) (T) hi (l+1) (T) hhi
 have hbF:=h.lt;obtain ⟨ba,bi,Fa,c0,-,-,-⟩:=h.own;have hbl:=Z w _ c0;simp only at hbl;have HS:=y h;have hl':(l:Int) < n:=T;have e1:((l+1:Nat):Int)=(l:Int)+1:=T;rw [e1] at LO LH;clear h e1;obtain ⟨gk,hgk⟩:∃gk,w.heap.size=gk:=⟨_,rfl⟩;have HLT:K (∀k∈F,k < gk):=fun k hk=>zH
 have HLO:=y hlo;have HLH:=y hhi;have HG:=y hG;clear hbF hlo hhi hG;obtain ⟨lt,la⟩:=lo;obtain ⟨ht,ha⟩:=hi;unfold edv at *;simp only at LO LH ⊢;have gn1:¬b=gk:=T;have gn2:¬gk=b:=T;have gn3:¬b=gk+1:=T;have gn4:¬gk+1=b:=T;have gn5:¬b=gk+1+1:=T;have gn6:¬gk+1+1=b:=T;go_in;go_wp2_with fail;have BL:=P w #[z o lt,z j la] 44 gk hgk.symm;have BH:=P (w.alloc (s #[z o lt,z j la] 44)) #[z o ht,z j ha] 44 (gk+1) (zk);have BR:=P ((w.alloc (s #[z o lt,z j la] 44)).alloc (s #[z o ht,z j ha] 44)) #[z o 0,z j 0] 44 (gk+1+1) (zk);have BL:=(BL.alloc (s #[z o ht,z j ha] 44)).alloc (s #[z o 0,z j 0] 44);have BH:=BH.alloc (s #[z o 0,z j 0] 44);have M0:K (R [] w (((w.alloc (s #[z o lt,z j la] 44)).alloc (s #[z o ht,z j ha] 44)).alloc (s #[z o 0,z j 0] 44))):=zg;have hsz:(((w.alloc (s #[z o lt,z j la] 44)).alloc (s #[z o ht,z j ha] 44)).alloc (s #[z o 0,z j 0] 44)).heap.size=gk+3:=zk;have c0:=(M0.out.cell (a:=⟨b,0,u⟩) hbl (J)).trans c0;generalize ((w.alloc (s #[z o lt,z j la] 44)).alloc (s #[z o ht,z j ha] 44)).alloc (s #[z o 0,z j 0] 44)=w0 at *;have hb0:b < w0.heap.size:=T;have hk0:gk < w0.heap.size:=T;have hk1:gk+1 < w0.heap.size:=T;obtain ⟨q0,q1⟩:=BL.cells2;obtain ⟨p0,p1⟩:=BH.cells2;have BL:=y BL;have BH:=y BH;have BR:=y BR;refine (YH b n _ c0).mono ?_;rintro e w1 ⟨rfl,rfl⟩;go_wp2_with fail;refine (LO.out _ M0.out).mono ?_;rintro e' wa ⟨rfl,m_wa⟩;have M_wa:=Q (show R _ w1 _ from zg) m_wa;have c0:=(M_wa.cell (a:=⟨b,0,u⟩) hb0 (zh)).trans c0;have q0:=(M_wa.cell (a:=⟨gk,0,u⟩) hk0 (zh)).trans q0;have q1:=(M_wa.cell (a:=⟨gk,1,u⟩) hk0 (zh)).trans q1;have p0:=(M_wa.cell (a:=⟨gk+1,0,u⟩) hk1 (zh)).trans p0;have p1:=(M_wa.cell (a:=⟨gk+1,1,u⟩) hk1 (zh)).trans p1;have hb0:=t hb0 M_wa.size;have hk0:=t hk0 M_wa.size;have hk1:=t hk1 M_wa.size;have M1:=y (M0.out.trans' M_wa);go_wp2_with fail;refine (LH.out _ M1.out).mono ?_;rintro e' wb ⟨rfl,m_wb⟩;have M_wb:=Q (show R _ wa _ from zg) m_wb;have c0:=(M_wb.cell (a:=⟨b,0,u⟩) hb0 (zh)).trans c0;have q0:=(M_wb.cell (a:=⟨gk,0,u⟩) hk0 (zh)).trans q0;have q1:=(M_wb.cell (a:=⟨gk,1,u⟩) hk0 (zh)).trans q1;have p0:=(M_wb.cell (a:=⟨gk+1,0,u⟩) hk1 (zh)).trans p0;have p1:=(M_wb.cell (a:=⟨gk+1,1,u⟩) hk1 (zh)).trans p1;have hb0:=t hb0 M_wb.size;have hk0:=t hk0 M_wb.size;have hk1:=t hk1 M_wb.size;have M2:=y (M1.out.trans' M_wb);replace BL:=y ((BL.out.mod M_wa (J)).mod M_wb (J));replace BH:=y ((BH.out.mod M_wa (J)).mod M_wb (J));replace BR:=y ((BR.out.mod M_wa (J)).mod M_wb (J));clear m_wa m_wb M_wa M_wb M0 M1 LO LH;obtain ⟨e0,e1⟩:=BR.out.cells2;obtain ⟨f0,f1,-⟩:=BR.out.frozs;have hl16:(l:Int)≤16:=T;have hFg:gk+1+1∉F:=fun h=>zw
 by_cases heq:(⟨lt,la⟩:Ed)=⟨ht,ha⟩
 ·have hmk:mkP L 3 l ⟨lt,la⟩ ⟨ht,ha⟩=(L,⟨lt,la⟩):=xZ;have hmk:=y hmk;simp at heq;obtain ⟨rfl,rfl⟩:=heq;go_wp2_with fail;have BX:=YC BR.out ⟨lt,la⟩;obtain ⟨g0,g1⟩:=BX.cells2;have MS:=y (YD (Ψ [gk+1+1] wb) (gk+1+1) ⟨lt,la⟩ (fun _=>J));change bodyPost _ _ _ _ _ (YM wb (gk+1+1) ⟨lt,la⟩);generalize YM wb (gk+1+1) ⟨lt,la⟩=X at *;clear c0 q0 q1 p0 p1 e0 e1 f0 f1 BX;simp only at g0 g1;refine E (by simp [Ξ,Θ,g0,g1,go_sem];try rfl) rfl ?_;exact kR
 ·have EQ:=fun w=>(Y4 9998 ⟨lt,la⟩ ⟨ht,ha⟩ w).trans (xu)
  unfold edv at EQ;simp only at EQ;have hk2:=BR.out.lt;go_wp2_with fail;obtain ⟨gx,hgx⟩:∃gx,wb.heap.size=gx:=⟨_,rfl⟩;rw [hgx];have gx1:¬gx=gk:=T;have gx2:¬gk=gx:=T;have gx3:¬gx=gk+1:=T;have gx4:¬gk+1=gx:=T;have gx5:¬gx=gk+1+1:=T;have gx6:¬gk+1+1=gx:=T;have BX:=P wb #[z o 3,z o l,z o l,z o lt,z j la,z o ht,z j ha] 139 gx hgx.symm;have MX:=(show R [] wb (wb.alloc (s #[z o 3,z o l,z o l,z o lt,z j la,z o ht,z j ha] 139)) from zg);have hszx:(wb.alloc (s #[z o 3,z o l,z o l,z o lt,z j la,z o ht,z j ha] 139)).heap.size=gx+1:=by simp [hgx]
  generalize wb.alloc (s #[z o 3,z o l,z o l,z o lt,z j la,z o ht,z j ha] 139)=wc at *;replace M2:=y (M2.out.trans' MX);replace BL:=y (BL.out.mod MX (J));replace BH:=y (BH.out.mod MX (J));replace BR:=y (BR.out.mod MX (J));have BX:=y BX;clear MX c0 q0 q1 p0 p1 e0 e1 f0 f1;cases hx:YO L la with
  | none=>
   have GT:K (∀W,R [] w W→_):=fun W m=>Xa (HS.out.mod m (J)) (T) la (jT) hx
   unfold rcv rc0 at GT;simp only at GT;refine (GT.out _ M2.out).mono ?_;rintro e' wd ⟨rfl,m_wd⟩;replace M2:=y (M2.out.trans' m_wd);replace BL:=y (BL.out.mod m_wd (J));replace BH:=y (BH.out.mod m_wd (J));replace BR:=y (BR.out.mod m_wd (J));replace BX:=y (BX.out.mod m_wd (J));clear m_wd GT;obtain ⟨p0,p1⟩:=BH.out.cells2;obtain ⟨x0,x1,x2,x3,x4,x5,x6⟩:=BX.out.cells7;have hxd:=BX.out.lt;have hhd:=BH.out.lt;have hrd:=BR.out.lt;have hs:Xd 3 l ⟨lt,la⟩ ⟨ht,ha⟩=u:=jU;have hr:za6 L 3 l ⟨lt,la⟩ ⟨ht,ha⟩=⟨3,l,l,⟨lt,la⟩,⟨ht,ha⟩⟩:=by unfold za6;simp only [hx]
   have hg:=YU HG.out (T) (T) hl hn HLO.out HLH.out hs;have hmk:mkP L 3 l ⟨lt,la⟩ ⟨ht,ha⟩=((fnd L ⟨3,l,l,⟨lt,la⟩,⟨ht,ha⟩⟩).1,⟨0,(fnd L ⟨3,l,l,⟨lt,la⟩,⟨ht,ha⟩⟩).2⟩):=yb;have hmk:=y hmk;rw [hr] at hg;have FN:K (∀W,R [] w W→_):=fun W m=>XJ (HS.out.mod m (J)) hL hroom hrm hn ⟨3,l,l,⟨lt,la⟩,⟨ht,ha⟩⟩ hg.right hg.lo hg.hi
   clear hs hr hg;generalize (fnd L ⟨3,l,l,⟨lt,la⟩,⟨ht,ha⟩⟩).2=id at *;generalize (fnd L ⟨3,l,l,⟨lt,la⟩,⟨ht,ha⟩⟩).1=L2 at *;unfold rcv edv at FN;simp only at FN;go_wp2_with fail;refine (FN.out _ (M2.out.trans' (zg))).mono ?_;rintro e' w3 ⟨rfl,F3,s3,m_w3,f3⟩;have M_w3:=Q (show R _ wd _ from zg) m_w3;have hsb:=M2.out.size;have hk2:=BR.out.lt;replace BR:=BR.out.mod M_w3 hFg;clear hhd hxd hrd;obtain ⟨e0,e1⟩:=BR.cells2;obtain ⟨f0,f1,-⟩:=BR.frozs;have S3:=y s3;have F3':=y f3;replace M2:=y ((M2.out.mono (S':=F) (zq)).trans M_w3 (zD));have BR:=y BR;clear FN s3 f3 m_w3 BL BH BX x0 x1 x2 x3 x4 x5 x6 EQ p0 p1;exact kN
  | some x=>
   have hxn:=HLO.out.node hx;have hxg:=(HG.out _ _ hx).right;have hxr:=y hx;obtain ⟨xf,xt,xb,⟨xlt,xla⟩,⟨xht,xha⟩⟩:=x;have hxt:(xt:Int)≤16:=jV;have hxb:(xb:Int)≤16:=jW;have hxf:xf=3:=hxn.1;have GT:K (∀W,R [] w W→_):=fun W m=>Y7 (HS.out.mod m (J)) (T) la _ hx
   unfold rcv at GT;simp only at GT;clear hxn hxg hx;refine (GT.out _ M2.out).mono ?_;rintro e' wd ⟨rfl,m_wd⟩;replace M2:=y (M2.out.trans' m_wd);replace BL:=y (BL.out.mod m_wd (J));replace BH:=y (BH.out.mod m_wd (J));replace BR:=y (BR.out.mod m_wd (J));replace BX:=y (BX.out.mod m_wd (J));clear m_wd GT;obtain ⟨p0,p1⟩:=BH.out.cells2;obtain ⟨q0,q1⟩:=BL.out.cells2;obtain ⟨x0,x1,x2,x3,x4,x5,x6⟩:=BX.out.cells7;obtain ⟨y0,y1,y2,y3,y4,y5,y6⟩:=BX.out.frozs;have hxd:=BX.out.lt;have hhd:=BH.out.lt;have hrd:=BR.out.lt;have hld:=BL.out.lt;have hs:Xd 3 l ⟨lt,la⟩ ⟨ht,ha⟩=u:=jU;by_cases h1:xt=l+1
   ·by_cases h2:(⟨xht,xha⟩:Ed)=⟨ht,ha⟩
    ·have hr:za6 L 3 l ⟨lt,la⟩ ⟨ht,ha⟩=⟨3,l,xb,⟨xlt,xla⟩,⟨ht,ha⟩⟩:=by unfold za6;simp only [hxr.out];rw [if_pos ⟨xv,h1,h2⟩]
     replace h2:=h2.symm;simp at h2;obtain ⟨rfl,rfl⟩:=h2;have h1':(xt:Int)=(l:Int)+1:=T;subst h1;have gd1:¬gx=wd.heap.size:=T;have gd2:¬wd.heap.size=gx:=T;go_wp2_with fail
     go_region
     have hwx:w.heap.size≤gx:=T
     have BXA:Blk (((wd.setCell ⟨gx,2,u⟩ (z o xb)).setCell ⟨gx,3,u⟩ (z o xlt)).setCell ⟨gx,4,u⟩ (z j xla)) gx #[z o 3,z o l,z o xb,z o xlt,z j xla,z o ht,z j ha] 139:=by
      simpa using ((BX.out.set 2 (z o xb)).set 3 (z o xlt)).set 4 (z j xla)
     have MXA:R [gx] wd (((wd.setCell ⟨gx,2,u⟩ (z o xb)).setCell ⟨gx,3,u⟩ (z o xlt)).setCell ⟨gx,4,u⟩ (z j xla)):=zg;have hsxa:(((wd.setCell ⟨gx,2,u⟩ (z o xb)).setCell ⟨gx,3,u⟩ (z o xlt)).setCell ⟨gx,4,u⟩ (z j xla)).heap.size=wd.heap.size:=J;generalize ((wd.setCell ⟨gx,2,u⟩ (z o xb)).setCell ⟨gx,3,u⟩ (z o xlt)).setCell ⟨gx,4,u⟩ (z j xla)=wf at *;replace M2:=y (M2.out.trans MXA (zu));replace BR:=y (BR.out.mod MXA (zj));have hxd:gx < wf.heap.size:=T;have hrd:gk+1+1 < wf.heap.size:=T;clear MXA x0 x1 x2 x3 x4 x5 x6;obtain ⟨x0,x1,x2,x3,x4,x5,x6⟩:=BXA.cells7;clear BXA;have hg:=YU HG.out (T) (T) hl hn HLO.out HLH.out hs;have hmk:mkP L 3 l ⟨lt,la⟩ ⟨ht,ha⟩=((fnd L ⟨3,l,xb,⟨xlt,xla⟩,⟨ht,ha⟩⟩).1,⟨0,(fnd L ⟨3,l,xb,⟨xlt,xla⟩,⟨ht,ha⟩⟩).2⟩):=yb;have hmk:=y hmk;rw [hr] at hg;have FN:K (∀W,R [] w W→_):=fun W m=>XJ (HS.out.mod m (J)) hL hroom hrm hn ⟨3,l,xb,⟨xlt,xla⟩,⟨ht,ha⟩⟩ hg.right hg.lo hg.hi
     clear hs hr hg;generalize (fnd L ⟨3,l,xb,⟨xlt,xla⟩,⟨ht,ha⟩⟩).2=id at *;generalize (fnd L ⟨3,l,xb,⟨xlt,xla⟩,⟨ht,ha⟩⟩).1=L2 at *;unfold rcv edv at FN;simp only at FN;go_wp2_with fail;refine (FN.out _ (M2.out.trans' (zg))).mono ?_;rintro e' w3 ⟨rfl,F3,s3,m_w3,f3⟩;have M_w3:=Q (show R _ wf _ from zg) m_w3;exact kP
    ·have hr:za6 L 3 l ⟨lt,la⟩ ⟨ht,ha⟩=⟨3,l,l,⟨lt,la⟩,⟨ht,ha⟩⟩:=by unfold za6;simp only [hxr.out];rw [if_neg (by rintro ⟨_,_,h⟩;exact h2 h)];simp
     have EQ2:=fun w=>(Y4 9998 ⟨xht,xha⟩ ⟨ht,ha⟩ w).trans (by rw [decide_eq_false h2])
     unfold edv at EQ2;simp only at EQ2;have h1':(xt:Int)=(l:Int)+1:=T;subst h1;have hg:=YU HG.out (T) (T) hl hn HLO.out HLH.out hs;have hmk:mkP L 3 l ⟨lt,la⟩ ⟨ht,ha⟩=((fnd L ⟨3,l,l,⟨lt,la⟩,⟨ht,ha⟩⟩).1,⟨0,(fnd L ⟨3,l,l,⟨lt,la⟩,⟨ht,ha⟩⟩).2⟩):=yb;have hmk:=y hmk;rw [hr] at hg;have FN:K (∀W,R [] w W→_):=fun W m=>XJ (HS.out.mod m (J)) hL hroom hrm hn ⟨3,l,l,⟨lt,la⟩,⟨ht,ha⟩⟩ hg.right hg.lo hg.hi
     clear hs hr hg;generalize (fnd L ⟨3,l,l,⟨lt,la⟩,⟨ht,ha⟩⟩).2=id at *;generalize (fnd L ⟨3,l,l,⟨lt,la⟩,⟨ht,ha⟩⟩).1=L2 at *;unfold rcv edv at FN;simp only at FN;go_wp2_with fail;refine (FN.out _ (M2.out.trans' (zg))).mono ?_;rintro e' w3 ⟨rfl,F3,s3,m_w3,f3⟩;have M_w3:=Q (show R _ wd _ from zg) m_w3;have hsb:=M2.out.size;have hk2:=BR.out.lt;replace BR:=BR.out.mod M_w3 hFg;clear hhd hxd hrd;obtain ⟨e0,e1⟩:=BR.cells2;obtain ⟨f0,f1,-⟩:=BR.frozs;have S3:=y s3;have F3':=y f3;replace M2:=y ((M2.out.mono (S':=F) (zq)).trans M_w3 (zD));have BR:=y BR;clear FN s3 f3 m_w3 BL BH BX x0 x1 x2 x3 x4 x5 x6 EQ EQ2 p0 p1 q0 q1 y0 y1 y2 y3 y4 y5 y6 hld;exact kN
   ·have hr:za6 L 3 l ⟨lt,la⟩ ⟨ht,ha⟩=⟨3,l,l,⟨lt,la⟩,⟨ht,ha⟩⟩:=by unfold za6;simp only [hxr.out];rw [if_neg (by rintro ⟨_,h,_⟩;exact h1 h)];simp
    have h1':((xt:Int)==(l:Int)+1)=false:=zo;have h1n:¬(xt:Int)=(l:Int)+1:=T;have hg:=YU HG.out (T) (T) hl hn HLO.out HLH.out hs;have hmk:mkP L 3 l ⟨lt,la⟩ ⟨ht,ha⟩=((fnd L ⟨3,l,l,⟨lt,la⟩,⟨ht,ha⟩⟩).1,⟨0,(fnd L ⟨3,l,l,⟨lt,la⟩,⟨ht,ha⟩⟩).2⟩):=yb;have hmk:=y hmk;rw [hr] at hg;have FN:K (∀W,R [] w W→_):=fun W m=>XJ (HS.out.mod m (J)) hL hroom hrm hn ⟨3,l,l,⟨lt,la⟩,⟨ht,ha⟩⟩ hg.right hg.lo hg.hi
    clear hs hr hg;generalize (fnd L ⟨3,l,l,⟨lt,la⟩,⟨ht,ha⟩⟩).2=id at *;generalize (fnd L ⟨3,l,l,⟨lt,la⟩,⟨ht,ha⟩⟩).1=L2 at *;unfold rcv edv at FN;simp only at FN;go_wp2_with fail;refine (FN.out _ (M2.out.trans' (zg))).mono ?_;rintro e' w3 ⟨rfl,F3,s3,m_w3,f3⟩;have M_w3:=Q (show R _ wd _ from zg) m_w3;exact kP
open Go.RowKit
theorem kO {p:Prop} (h:p:=by
 go_wp2_with fail;have BX:=YC BR.out ⟨0,id⟩;obtain ⟨g0,g1⟩:=BX.cells2;have MS:=y (YD (Ψ [gk+1+1] w3) (gk+1+1) ⟨0,id⟩ (fun _=>J));change bodyPost _ _ _ _ _ (YM w3 (gk+1+1) ⟨0,id⟩);generalize YM w3 (gk+1+1) ⟨0,id⟩=X at *;clear e0 e1 f0 f1 BX;simp only at g0 g1;refine E (by simp [Ξ,Δ,g0,g1,go_sem];try rfl) rfl ?_
 exact kQ):p:=h
theorem kM {p:Prop} (h:p:=by
 clear h2;have hg:=YU HG.out (T) (T) hl hn HLO.out HLH.out hs;have hmk:mkP L 4 l ⟨lt,la⟩ ⟨ht,ha⟩=((fnd L ⟨4,l,l,⟨lt,la⟩,⟨ht,ha⟩⟩).1,⟨0,(fnd L ⟨4,l,l,⟨lt,la⟩,⟨ht,ha⟩⟩).2⟩):=yb;have hmk:=y hmk;rw [hr] at hg;have FN:K (∀W,R [] w W→_):=fun W m=>X9 (HS.out.mod m (J)) hL hroom hrm hn ⟨4,l,l,⟨lt,la⟩,⟨ht,ha⟩⟩ hg.right hg.lo hg.hi
 clear hs hr hg;generalize (fnd L ⟨4,l,l,⟨lt,la⟩,⟨ht,ha⟩⟩).2=id at *;generalize (fnd L ⟨4,l,l,⟨lt,la⟩,⟨ht,ha⟩⟩).1=L2 at *;unfold rcv edv at FN;simp only at FN;go_wp2_with fail;refine (FN.out _ (M2.out.trans' (zg))).mono ?_;rintro e' w3 ⟨rfl,F3,s3,m_w3,f3⟩;have M_w3:=Q (show R _ wd _ from zg) m_w3;have hsb:=M2.out.size;have hk2:=BR.out.lt;replace BR:=BR.out.mod M_w3 hFg;clear hhd hxd hrd;obtain ⟨e0,e1⟩:=BR.cells2;obtain ⟨f0,f1,-⟩:=BR.frozs;have S3:=y s3;have F3':=y f3;replace M2:=y ((M2.out.mono (S':=F) (zq)).trans M_w3 (zD));have BR:=y BR;clear FN s3 f3 m_w3 BL BH BX x0 x1 x2 x3 x4 x5 x6 EQ p0 p1 q0 q1 y0 y1 y2 y3 y4 y5 y6 hld
 exact kO):p:=h
theorem zK3 {w:M} {b n:Nat} {L:List Rc} {room:Nat} {F:List Nat} (h:IsSt w b n L room F) (hL:L.length≤100000) (hroom:L.length < room) (hrm:room≤1048576) (hn:n≤16) (hG:Good L n) (l:Nat) (hl:l < n) (lo hi:Ed)
 (hlo:LeadsP L 4 lo (l+1) n) (hhi:LeadsP L 4 hi (l+1) n):
 N d 145 #[I (V ⟨b,0,u⟩),z Y l,edv lo,edv hi] w fun e w'=>e=c (C #[edv (mkP L 4 l lo hi).2,z o 0])∧∃F',IsSt w' b n (mkP L 4 l lo hi).1 room F'∧R F w w'∧∀k∈F',k∈F∨w.heap.size≤k:=by
 have LO:K (∀W,R [] w W→_):=fun W m=>YI (h.mod m (J)) (T) hn 4 (T) (T) lo (l+1) (T) hlo
 have LH:K (∀W,R [] w W→_):=fun W m=>YI (h.mod m (J)) (T) hn 4 (T) (T) hi (l+1) (T) hhi
 have hbF:=h.lt;obtain ⟨ba,bi,Fa,c0,-,-,-⟩:=h.own;have hbl:=Z w _ c0;simp only at hbl;have HS:=y h;have hl':(l:Int) < n:=T;have e1:((l+1:Nat):Int)=(l:Int)+1:=T;rw [e1] at LO LH;clear h e1;obtain ⟨gk,hgk⟩:∃gk,w.heap.size=gk:=⟨_,rfl⟩;have HLT:K (∀k∈F,k < gk):=fun k hk=>zH
 have HLO:=y hlo;have HLH:=y hhi;have HG:=y hG;clear hbF hlo hhi hG;obtain ⟨lt,la⟩:=lo;obtain ⟨ht,ha⟩:=hi;unfold edv at *;simp only at LO LH ⊢;have gn1:¬b=gk:=T;have gn2:¬gk=b:=T;have gn3:¬b=gk+1:=T;have gn4:¬gk+1=b:=T;have gn5:¬b=gk+1+1:=T;have gn6:¬gk+1+1=b:=T;go_in;go_wp2_with fail;have BL:=P w #[z o lt,z j la] 44 gk hgk.symm;have BH:=P (w.alloc (s #[z o lt,z j la] 44)) #[z o ht,z j ha] 44 (gk+1) (zk);have BR:=P ((w.alloc (s #[z o lt,z j la] 44)).alloc (s #[z o ht,z j ha] 44)) #[z o 0,z j 0] 44 (gk+1+1) (zk);have BL:=(BL.alloc (s #[z o ht,z j ha] 44)).alloc (s #[z o 0,z j 0] 44);have BH:=BH.alloc (s #[z o 0,z j 0] 44);have M0:K (R [] w (((w.alloc (s #[z o lt,z j la] 44)).alloc (s #[z o ht,z j ha] 44)).alloc (s #[z o 0,z j 0] 44))):=zg;have hsz:(((w.alloc (s #[z o lt,z j la] 44)).alloc (s #[z o ht,z j ha] 44)).alloc (s #[z o 0,z j 0] 44)).heap.size=gk+3:=zk;have c0:=(M0.out.cell (a:=⟨b,0,u⟩) hbl (J)).trans c0;generalize ((w.alloc (s #[z o lt,z j la] 44)).alloc (s #[z o ht,z j ha] 44)).alloc (s #[z o 0,z j 0] 44)=w0 at *;have hb0:b < w0.heap.size:=T;have hk0:gk < w0.heap.size:=T;have hk1:gk+1 < w0.heap.size:=T;obtain ⟨q0,q1⟩:=BL.cells2;obtain ⟨p0,p1⟩:=BH.cells2;have BL:=y BL;have BH:=y BH;have BR:=y BR;refine (YH b n _ c0).mono ?_;rintro e w1 ⟨rfl,rfl⟩;go_wp2_with fail;refine (LO.out _ M0.out).mono ?_;rintro e' wa ⟨rfl,m_wa⟩;have M_wa:=Q (show R _ w1 _ from zg) m_wa;have c0:=(M_wa.cell (a:=⟨b,0,u⟩) hb0 (zh)).trans c0;have q0:=(M_wa.cell (a:=⟨gk,0,u⟩) hk0 (zh)).trans q0;have q1:=(M_wa.cell (a:=⟨gk,1,u⟩) hk0 (zh)).trans q1;have p0:=(M_wa.cell (a:=⟨gk+1,0,u⟩) hk1 (zh)).trans p0;have p1:=(M_wa.cell (a:=⟨gk+1,1,u⟩) hk1 (zh)).trans p1;have hb0:=t hb0 M_wa.size;have hk0:=t hk0 M_wa.size;have hk1:=t hk1 M_wa.size;have M1:=y (M0.out.trans' M_wa);go_wp2_with fail;refine (LH.out _ M1.out).mono ?_;rintro e' wb ⟨rfl,m_wb⟩;have M_wb:=Q (show R _ wa _ from zg) m_wb;have c0:=(M_wb.cell (a:=⟨b,0,u⟩) hb0 (zh)).trans c0;have q0:=(M_wb.cell (a:=⟨gk,0,u⟩) hk0 (zh)).trans q0;have q1:=(M_wb.cell (a:=⟨gk,1,u⟩) hk0 (zh)).trans q1;have p0:=(M_wb.cell (a:=⟨gk+1,0,u⟩) hk1 (zh)).trans p0;have p1:=(M_wb.cell (a:=⟨gk+1,1,u⟩) hk1 (zh)).trans p1;have hb0:=t hb0 M_wb.size;have hk0:=t hk0 M_wb.size;have hk1:=t hk1 M_wb.size;have M2:=y (M1.out.trans' M_wb);replace BL:=y ((BL.out.mod M_wa (J)).mod M_wb (J));replace BH:=y ((BH.out.mod M_wa (J)).mod M_wb (J));replace BR:=y ((BR.out.mod M_wa (J)).mod M_wb (J));clear m_wa m_wb M_wa M_wb M0 M1 LO LH;obtain ⟨e0,e1⟩:=BR.out.cells2;obtain ⟨f0,f1,-⟩:=BR.out.frozs;have hl16:(l:Int)≤16:=T;have hFg:gk+1+1∉F:=fun h=>zw
 by_cases heq0:ha=0
 ·have hmk:mkP L 4 l ⟨lt,la⟩ ⟨ht,ha⟩=(L,⟨lt,la⟩):=by unfold mkP Xd;simp [heq0]
  have hmk:=y hmk;have h0:(ha:Int)=0:=T;subst heq0;go_wp2_with fail;have BX:=YC BR.out ⟨lt,la⟩;obtain ⟨g0,g1⟩:=BX.cells2;have MS:=y (YD (Ψ [gk+1+1] wb) (gk+1+1) ⟨lt,la⟩ (fun _=>J));change bodyPost _ _ _ _ _ (YM wb (gk+1+1) ⟨lt,la⟩);generalize YM wb (gk+1+1) ⟨lt,la⟩=X at *;clear c0 q0 q1 p0 p1 e0 e1 f0 f1 BX;simp only at g0 g1;refine E (by simp [Ξ,Δ,g0,g1,go_sem];try rfl) rfl ?_;exact kR
 ·have h0:((ha:Int)==0)=false:=zo;have h0n:¬(ha:Int)=0:=T;have hk2:=BR.out.lt;go_wp2_with fail;obtain ⟨gx,hgx⟩:∃gx,wb.heap.size=gx:=⟨_,rfl⟩;rw [hgx];have gx1:¬gx=gk:=T;have gx2:¬gk=gx:=T;have gx3:¬gx=gk+1:=T;have gx4:¬gk+1=gx:=T;have gx5:¬gx=gk+1+1:=T;have gx6:¬gk+1+1=gx:=T;have BX:=P wb #[z o 4,z o l,z o l,z o lt,z j la,z o ht,z j ha] 139 gx hgx.symm;have MX:=(show R [] wb (wb.alloc (s #[z o 4,z o l,z o l,z o lt,z j la,z o ht,z j ha] 139)) from zg);have hszx:(wb.alloc (s #[z o 4,z o l,z o l,z o lt,z j la,z o ht,z j ha] 139)).heap.size=gx+1:=by simp [hgx]
  generalize wb.alloc (s #[z o 4,z o l,z o l,z o lt,z j la,z o ht,z j ha] 139)=wc at *;replace M2:=y (M2.out.trans' MX);replace BL:=y (BL.out.mod MX (J));replace BH:=y (BH.out.mod MX (J));replace BR:=y (BR.out.mod MX (J));have BX:=y BX;clear MX c0 q0 q1 p0 p1 e0 e1 f0 f1;cases hx:YO L la with
  | none=>
   have GT:K (∀W,R [] w W→_):=fun W m=>Xa (HS.out.mod m (J)) (T) la (jT) hx
   unfold rcv rc0 at GT;simp only at GT;refine (GT.out _ M2.out).mono ?_;rintro e' wd ⟨rfl,m_wd⟩;replace M2:=y (M2.out.trans' m_wd);replace BL:=y (BL.out.mod m_wd (J));replace BH:=y (BH.out.mod m_wd (J));replace BR:=y (BR.out.mod m_wd (J));replace BX:=y (BX.out.mod m_wd (J));clear m_wd GT;obtain ⟨p0,p1⟩:=BH.out.cells2;obtain ⟨x0,x1,x2,x3,x4,x5,x6⟩:=BX.out.cells7;have hxd:=BX.out.lt;have hhd:=BH.out.lt;have hrd:=BR.out.lt;have hs:Xd 4 l ⟨lt,la⟩ ⟨ht,ha⟩=u:=by unfold Xd;simp [heq0]
   have hr:za6 L 4 l ⟨lt,la⟩ ⟨ht,ha⟩=⟨4,l,l,⟨lt,la⟩,⟨ht,ha⟩⟩:=by unfold za6;simp only [hx]
   have hg:=YU HG.out (T) (T) hl hn HLO.out HLH.out hs;have hmk:mkP L 4 l ⟨lt,la⟩ ⟨ht,ha⟩=((fnd L ⟨4,l,l,⟨lt,la⟩,⟨ht,ha⟩⟩).1,⟨0,(fnd L ⟨4,l,l,⟨lt,la⟩,⟨ht,ha⟩⟩).2⟩):=yb;have hmk:=y hmk;rw [hr] at hg;have FN:K (∀W,R [] w W→_):=fun W m=>X9 (HS.out.mod m (J)) hL hroom hrm hn ⟨4,l,l,⟨lt,la⟩,⟨ht,ha⟩⟩ hg.right hg.lo hg.hi
   clear hs hr hg;generalize (fnd L ⟨4,l,l,⟨lt,la⟩,⟨ht,ha⟩⟩).2=id at *;generalize (fnd L ⟨4,l,l,⟨lt,la⟩,⟨ht,ha⟩⟩).1=L2 at *;unfold rcv edv at FN;simp only at FN;go_wp2_with fail;refine (FN.out _ (M2.out.trans' (zg))).mono ?_;rintro e' w3 ⟨rfl,F3,s3,m_w3,f3⟩;have M_w3:=Q (show R _ wd _ from zg) m_w3;have hsb:=M2.out.size;have hk2:=BR.out.lt;replace BR:=BR.out.mod M_w3 hFg;clear hhd hxd hrd;obtain ⟨e0,e1⟩:=BR.cells2;obtain ⟨f0,f1,-⟩:=BR.frozs;have S3:=y s3;have F3':=y f3;replace M2:=y ((M2.out.mono (S':=F) (zq)).trans M_w3 (zD));have BR:=y BR;clear FN s3 f3 m_w3 BL BH BX x0 x1 x2 x3 x4 x5 x6 p0 p1;exact kO
  | some x=>
   have hxn:=HLO.out.node hx;have hxg:=(HG.out _ _ hx).right;have hxr:=y hx;obtain ⟨xf,xt,xb,⟨xlt,xla⟩,⟨xht,xha⟩⟩:=x;have hxt:(xt:Int)≤16:=jV;have hxb:(xb:Int)≤16:=jW;have hxf:xf=4:=hxn.1;have GT:K (∀W,R [] w W→_):=fun W m=>Y7 (HS.out.mod m (J)) (T) la _ hx
   unfold rcv at GT;simp only at GT;clear hxn hxg hx;refine (GT.out _ M2.out).mono ?_;rintro e' wd ⟨rfl,m_wd⟩;replace M2:=y (M2.out.trans' m_wd);replace BL:=y (BL.out.mod m_wd (J));replace BH:=y (BH.out.mod m_wd (J));replace BR:=y (BR.out.mod m_wd (J));replace BX:=y (BX.out.mod m_wd (J));clear m_wd GT;obtain ⟨p0,p1⟩:=BH.out.cells2;obtain ⟨q0,q1⟩:=BL.out.cells2;obtain ⟨x0,x1,x2,x3,x4,x5,x6⟩:=BX.out.cells7;obtain ⟨y0,y1,y2,y3,y4,y5,y6⟩:=BX.out.frozs;have hxd:=BX.out.lt;have hhd:=BH.out.lt;have hrd:=BR.out.lt;have hld:=BL.out.lt;have hs:Xd 4 l ⟨lt,la⟩ ⟨ht,ha⟩=u:=by unfold Xd;simp [heq0]
   by_cases h2:(⟨lt,la⟩:Ed)=⟨ht,ha⟩
   ·by_cases h1:xt=l+1
    ·have hr:za6 L 4 l ⟨lt,la⟩ ⟨ht,ha⟩=⟨4,l,xb,⟨xlt,xla⟩,⟨xht,xha⟩⟩:=by unfold za6;simp only [hxr.out];rw [if_neg (jl),if_pos ⟨xv,h2,h1⟩]
     simp at h2;obtain ⟨rfl,rfl⟩:=h2;have h1':(xt:Int)=(l:Int)+1:=T;subst h1;have gd1:¬gx=wd.heap.size:=T;have gd2:¬wd.heap.size=gx:=T;go_wp2_with fail
     go_region
     have hwx:w.heap.size≤gx:=T
     have BXA:Blk (((((wd.setCell ⟨gx,2,u⟩ (z o xb)).setCell ⟨gx,3,u⟩ (z o xlt)).setCell ⟨gx,4,u⟩ (z j xla)).setCell ⟨gx,5,u⟩ (z o xht)).setCell ⟨gx,6,u⟩ (z j xha)) gx #[z o 4,z o l,z o xb,z o xlt,z j xla,z o xht,z j xha] 139:=by
      simpa using ((((BX.out.set 2 (z o xb)).set 3 (z o xlt)).set 4 (z j xla)).set 5 (z o xht)).set 6 (z j xha)
     have MXA:R [gx] wd (((((wd.setCell ⟨gx,2,u⟩ (z o xb)).setCell ⟨gx,3,u⟩ (z o xlt)).setCell ⟨gx,4,u⟩ (z j xla)).setCell ⟨gx,5,u⟩ (z o xht)).setCell ⟨gx,6,u⟩ (z j xha)):=zg;have hsxa:(((((wd.setCell ⟨gx,2,u⟩ (z o xb)).setCell ⟨gx,3,u⟩ (z o xlt)).setCell ⟨gx,4,u⟩ (z j xla)).setCell ⟨gx,5,u⟩ (z o xht)).setCell ⟨gx,6,u⟩ (z j xha)).heap.size=wd.heap.size:=J;generalize ((((wd.setCell ⟨gx,2,u⟩ (z o xb)).setCell ⟨gx,3,u⟩ (z o xlt)).setCell ⟨gx,4,u⟩ (z j xla)).setCell ⟨gx,5,u⟩ (z o xht)).setCell ⟨gx,6,u⟩ (z j xha)=wf at *;replace M2:=y (M2.out.trans MXA (zu));replace BR:=y (BR.out.mod MXA (zj));have hxd:gx < wf.heap.size:=T;have hrd:gk+1+1 < wf.heap.size:=T;clear MXA x0 x1 x2 x3 x4 x5 x6;obtain ⟨x0,x1,x2,x3,x4,x5,x6⟩:=BXA.cells7;clear BXA;have hg:=YU HG.out (T) (T) hl hn HLO.out HLH.out hs;have hmk:mkP L 4 l ⟨lt,la⟩ ⟨lt,la⟩=((fnd L ⟨4,l,xb,⟨xlt,xla⟩,⟨xht,xha⟩⟩).1,⟨0,(fnd L ⟨4,l,xb,⟨xlt,xla⟩,⟨xht,xha⟩⟩).2⟩):=yb;have hmk:=y hmk;rw [hr] at hg;have FN:K (∀W,R [] w W→_):=fun W m=>X9 (HS.out.mod m (J)) hL hroom hrm hn ⟨4,l,xb,⟨xlt,xla⟩,⟨xht,xha⟩⟩ hg.right hg.lo hg.hi
     clear hs hr hg;generalize (fnd L ⟨4,l,xb,⟨xlt,xla⟩,⟨xht,xha⟩⟩).2=id at *;generalize (fnd L ⟨4,l,xb,⟨xlt,xla⟩,⟨xht,xha⟩⟩).1=L2 at *;unfold rcv edv at FN;simp only at FN;go_wp2_with fail;refine (FN.out _ (M2.out.trans' (zg))).mono ?_;rintro e' w3 ⟨rfl,F3,s3,m_w3,f3⟩;have M_w3:=Q (show R _ wf _ from zg) m_w3;have hsb:=M2.out.size;have hk2:=BR.out.lt;replace BR:=BR.out.mod M_w3 hFg;clear hhd hxd hrd;obtain ⟨e0,e1⟩:=BR.cells2;obtain ⟨f0,f1,-⟩:=BR.frozs;have S3:=y s3;have F3':=y f3;replace M2:=y ((M2.out.mono (S':=F) (zq)).trans M_w3 (zD));have BR:=y BR;clear FN s3 f3 m_w3 BL BH BX x0 x1 x2 x3 x4 x5 x6 p0 p1 q0 q1 y0 y1 y2 y3 y4 y5 y6 hld;exact kO
    ·have hr:za6 L 4 l ⟨lt,la⟩ ⟨ht,ha⟩=⟨4,l,l,⟨lt,la⟩,⟨ht,ha⟩⟩:=by unfold za6;simp only [hxr.out];rw [if_neg (jl),if_neg (by rintro ⟨_,_,h⟩;exact h1 h)]
     have EQ:=fun w=>(Y4 9998 ⟨lt,la⟩ ⟨ht,ha⟩ w).trans (by rw [decide_eq_true h2])
     unfold edv at EQ;simp only at EQ;have h1':((xt:Int)==(l:Int)+1)=false:=zo;have h1n:¬(xt:Int)=(l:Int)+1:=T;exact kM
   ·have hr:za6 L 4 l ⟨lt,la⟩ ⟨ht,ha⟩=⟨4,l,l,⟨lt,la⟩,⟨ht,ha⟩⟩:=by unfold za6;simp only [hxr.out];rw [if_neg (jl),if_neg (by rintro ⟨_,h,_⟩;exact h2 h)]
    have EQ:=fun w=>(Y4 9998 ⟨lt,la⟩ ⟨ht,ha⟩ w).trans (by rw [decide_eq_false h2])
    unfold edv at EQ;simp only at EQ;exact kM
open Go.RowKit
theorem kK {p:Prop} (h:p:=by
 obtain ⟨lt,la⟩:=lo;obtain ⟨ht,ha⟩:=hi;obtain ⟨rt,ra⟩:=res;unfold edv at *;simp only at MK ⊢;go_in;go_wp2_with fail;have BR:=P ((w.alloc (s #[z o lt,z j la] 44)).alloc (s #[z o ht,z j ha] 44)) #[z o 0,z j 0] 44 (gk+1+1) (zk);have M0:K (R [] w (((w.alloc (s #[z o lt,z j la] 44)).alloc (s #[z o ht,z j ha] 44)).alloc (s #[z o 0,z j 0] 44))):=zg;have hsz:(((w.alloc (s #[z o lt,z j la] 44)).alloc (s #[z o ht,z j ha] 44)).alloc (s #[z o 0,z j 0] 44)).heap.size=gk+3:=zk;generalize ((w.alloc (s #[z o lt,z j la] 44)).alloc (s #[z o ht,z j ha] 44)).alloc (s #[z o 0,z j 0] 44)=w0 at *;refine (MK.out _ M0.out).mono ?_;rintro e w3 ⟨rfl,F3,s3,m3,f3⟩;have hk2:=BR.lt;have BR:=BR.mod m3 hFg;obtain ⟨e0,e1⟩:=BR.cells2;obtain ⟨f0,f1,-⟩:=BR.frozs;have S3:=y s3;have F3':=y f3;have M2:=y ((M0.out.mono (S':=F) (zq)).trans m3 (zD));have BR:=y BR;clear MK s3 f3 m3;go_wp2_with fail;have BX:=YC BR.out ⟨rt,ra⟩;obtain ⟨g0,g1⟩:=BX.cells2;have MS:=y (YD (Ψ [gk+1+1] w3) (gk+1+1) ⟨rt,ra⟩ (fun _=>J));change bodyPost _ _ _ _ _ (YM w3 (gk+1+1) ⟨rt,ra⟩);generalize YM w3 (gk+1+1) ⟨rt,ra⟩=X at *;clear e0 e1 f0 f1 BX;simp only at g0 g1;refine E (by simp [Ξ,Tryz.results110,g0,g1,go_sem];try rfl) rfl ?_;refine ⟨rfl,F3,S3.out.mod MS.out (fun k hk=>?_),M2.out.trans MS.out (zu),fun k hk=>(F3'.out k hk).imp (fun h=>h) (fun h=>T)⟩
 simp;rintro rfl;rcases F3'.out _ hk with h | h;exact hFg h;omega):p:=h
theorem zx1 {w:M} {b n:Nat} {L:List Rc} {room:Nat} {F:List Nat} (h:IsSt w b n L room F) (hL:L.length≤100000) (hroom:L.length < room) (hrm:room≤1048576) (hn:n≤16) (hG:Good L n) (l:Nat) (hl:l < n) (lo hi:Ed)
 (hlo:LeadsP L 1 lo (l+1) n) (hhi:LeadsP L 1 hi (l+1) n):
 N d 110 #[I (V ⟨b,0,u⟩),z o 1,z Y l,edv lo,edv hi] w fun e w'=>e=c (C #[edv (mkP L 1 l lo hi).2,z o 0])∧∃F',IsSt w' b n (mkP L 1 l lo hi).1 room F'∧R F w w'∧∀k∈F',k∈F∨w.heap.size≤k:=by
 have MK:K (∀W,R [] w W→_):=fun W m=>zV0 (h.mod m (J)) hL hroom hrm hn hG l hl lo hi hlo hhi
 have hbF:=h.lt;clear h hG hlo hhi;obtain ⟨gk,hgk⟩:∃gk,w.heap.size=gk:=⟨_,rfl⟩;have HLT:K (∀k∈F,k < gk):=fun k hk=>zH
 clear hbF;have hFg:gk+1+1∉F:=fun h=>zw
 generalize (mkP L 1 l lo hi).1=L2 at *;generalize (mkP L 1 l lo hi).2=res at *;exact kK
theorem zy3 {w:M} {b n:Nat} {L:List Rc} {room:Nat} {F:List Nat} (h:IsSt w b n L room F) (hL:L.length≤100000) (hroom:L.length < room) (hrm:room≤1048576) (hn:n≤16) (hG:Good L n) (l:Nat) (hl:l < n) (lo hi:Ed)
 (hlo:LeadsP L 2 lo (l+1) n) (hhi:LeadsP L 2 hi (l+1) n):
 N d 110 #[I (V ⟨b,0,u⟩),z o 2,z Y l,edv lo,edv hi] w fun e w'=>e=c (C #[edv (mkP L 2 l lo hi).2,z o 0])∧∃F',IsSt w' b n (mkP L 2 l lo hi).1 room F'∧R F w w'∧∀k∈F',k∈F∨w.heap.size≤k:=by
 have MK:K (∀W,R [] w W→_):=fun W m=>zT0 (h.mod m (J)) hL hroom hrm hn hG l hl lo hi hlo hhi
 have hbF:=h.lt;clear h hG hlo hhi;obtain ⟨gk,hgk⟩:∃gk,w.heap.size=gk:=⟨_,rfl⟩;have HLT:K (∀k∈F,k < gk):=fun k hk=>zH
 clear hbF;have hFg:gk+1+1∉F:=fun h=>zw
 generalize (mkP L 2 l lo hi).1=L2 at *;generalize (mkP L 2 l lo hi).2=res at *;exact kK
theorem zx3 {w:M} {b n:Nat} {L:List Rc} {room:Nat} {F:List Nat} (h:IsSt w b n L room F) (hL:L.length≤100000) (hroom:L.length < room) (hrm:room≤1048576) (hn:n≤16) (hG:Good L n) (l:Nat) (hl:l < n) (lo hi:Ed)
 (hlo:LeadsP L 3 lo (l+1) n) (hhi:LeadsP L 3 hi (l+1) n):
 N d 110 #[I (V ⟨b,0,u⟩),z o 3,z Y l,edv lo,edv hi] w fun e w'=>e=c (C #[edv (mkP L 3 l lo hi).2,z o 0])∧∃F',IsSt w' b n (mkP L 3 l lo hi).1 room F'∧R F w w'∧∀k∈F',k∈F∨w.heap.size≤k:=by
 have MK:K (∀W,R [] w W→_):=fun W m=>zO5 (h.mod m (J)) hL hroom hrm hn hG l hl lo hi hlo hhi
 have hbF:=h.lt;clear h hG hlo hhi;obtain ⟨gk,hgk⟩:∃gk,w.heap.size=gk:=⟨_,rfl⟩;have HLT:K (∀k∈F,k < gk):=fun k hk=>zH
 clear hbF;have hFg:gk+1+1∉F:=fun h=>zw
 generalize (mkP L 3 l lo hi).1=L2 at *;generalize (mkP L 3 l lo hi).2=res at *;exact kK
theorem zu3 {w:M} {b n:Nat} {L:List Rc} {room:Nat} {F:List Nat} (h:IsSt w b n L room F) (hL:L.length≤100000) (hroom:L.length < room) (hrm:room≤1048576) (hn:n≤16) (hG:Good L n) (l:Nat) (hl:l < n) (lo hi:Ed)
 (hlo:LeadsP L 4 lo (l+1) n) (hhi:LeadsP L 4 hi (l+1) n):
 N d 110 #[I (V ⟨b,0,u⟩),z o 4,z Y l,edv lo,edv hi] w fun e w'=>e=c (C #[edv (mkP L 4 l lo hi).2,z o 0])∧∃F',IsSt w' b n (mkP L 4 l lo hi).1 room F'∧R F w w'∧∀k∈F',k∈F∨w.heap.size≤k:=by
 have MK:K (∀W,R [] w W→_):=fun W m=>zK3 (h.mod m (J)) hL hroom hrm hn hG l hl lo hi hlo hhi
 have hbF:=h.lt;clear h hG hlo hhi;obtain ⟨gk,hgk⟩:∃gk,w.heap.size=gk:=⟨_,rfl⟩;have HLT:K (∀k∈F,k < gk):=fun k hk=>zH
 clear hbF;have hFg:gk+1+1∉F:=fun h=>zw
 generalize (mkP L 4 l lo hi).1=L2 at *;generalize (mkP L 4 l lo hi).2=res at *;exact kK
theorem zw4 {w:M} {b n:Nat} {L:List Rc} {room:Nat} {F:List Nat} (h:IsSt w b n L room F) (hL:L.length≤100000) (hroom:L.length < room) (hrm:room≤1048576) (hn:n≤16) (hG:Good L n) (l:Nat) (hl:l < n) (lo hi:Ed)
 (hlo:LeadsP L 5 lo (l+1) n) (hhi:LeadsP L 5 hi (l+1) n):
 N d 110 #[I (V ⟨b,0,u⟩),z o 5,z Y l,edv lo,edv hi] w fun e w'=>e=c (C #[edv (mkP L 5 l lo hi).2,z o 0])∧∃F',IsSt w' b n (mkP L 5 l lo hi).1 room F'∧R F w w'∧∀k∈F',k∈F∨w.heap.size≤k:=by
 have MK:K (∀W,R [] w W→_):=fun W m=>zO0 (h.mod m (J)) hL hroom hrm hn hG l hl lo hi hlo hhi
 have hbF:=h.lt;clear h hG hlo hhi;obtain ⟨gk,hgk⟩:∃gk,w.heap.size=gk:=⟨_,rfl⟩;have HLT:K (∀k∈F,k < gk):=fun k hk=>zH
 clear hbF;have hFg:gk+1+1∉F:=fun h=>zw
 generalize (mkP L 5 l lo hi).1=L2 at *;generalize (mkP L 5 l lo hi).2=res at *;exact kK
theorem zd5 (f:Nat) (h1:1≤f) (h5:f≤5) {w:M} {b n:Nat} {L:List Rc} {room:Nat} {F:List Nat} (h:IsSt w b n L room F) (hL:L.length≤100000) (hroom:L.length < room) (hrm:room≤1048576) (hn:n≤16) (hG:Good L n) (l:Nat) (hl:l < n) (lo hi:Ed)
 (hlo:LeadsP L f lo (l+1) n) (hhi:LeadsP L f hi (l+1) n):
 N d 110 #[I (V ⟨b,0,u⟩),z o f,z Y l,edv lo,edv hi] w fun e w'=>e=c (C #[edv (mkP L f l lo hi).2,z o 0])∧∃F',IsSt w' b n (mkP L f l lo hi).1 room F'∧R F w w'∧∀k∈F',k∈F∨w.heap.size≤k:=by
 obtain rfl | rfl | rfl | rfl | rfl:f=1∨f=2∨f=3∨f=4∨f=5:=T
 ·exact zx1 h hL hroom hrm hn hG l hl lo hi hlo hhi
 ·exact zy3 h hL hroom hrm hn hG l hl lo hi hlo hhi
 ·exact zx3 h hL hroom hrm hn hG l hl lo hi hlo hhi
 ·exact zu3 h hL hroom hrm hn hG l hl lo hi hlo hhi
 ·exact zw4 h hL hroom hrm hn hG l hl lo hi hlo hhi
open Go.RowKit
def IsOrd (w:M) (b:Nat) (p q:List Nat) (F:List Nat):Prop:=
 ∃vp vq Fp Fq,Blk w b #[vp,vq] 150∧Sl w 3 1 vp p.length (p.map fun (i:Nat)=>z Y (i:Int)) Fp∧Sl w 3 1 vq q.length (q.map fun (i:Nat)=>z Y (i:Int)) Fq∧F=b::(Fp++Fq)∧b∉Fp∧b∉Fq
theorem IsOrd.mod {S:List Nat} {w w':M} {b:Nat} {p q:List Nat} {F:List Nat} (h:IsOrd w b p q F) (m:R S w w') (hd:∀k∈F,k∉S):IsOrd w' b p q F:=by
 obtain ⟨vp,vq,Fp,Fq,h1,h2,h3,rfl,r⟩:=h;exact ⟨vp,vq,Fp,Fq,h1.mod m (hd b (J)),h2.mod m (fun k hk=>hd k (zC)),h3.mod m (fun k hk=>hd k (zC)),rfl,r⟩
theorem yM6 (a:Option Addr) (g n cap i:Nat) (v:Int) (hi:i < n) (hn:n≤1048576) (w:M) (ha:a=V ⟨g,0,u⟩) (c0:w.cell? ⟨g,i,u⟩=V (z Y v)):
 N d 119 #[U a n cap,z Y i] w fun e w'=>e=c (z Y v)∧w'=w:=by
 subst ha;have hi':(i:Int) < n:=T;go_in;go_wp2;go_ret;exact ⟨rfl,rfl⟩
theorem zj2 {w:M} {b:Nat} {p q:List Nat} {F:List Nat} (h:IsOrd w b p q F) (hp:p.length≤16) (l:Nat) (hl:l < p.length):
 N d 109 #[I (V ⟨b,0,u⟩),z Y l] w fun e w'=>e=c (z Y (p[l]:Nat))∧w'=w:=by
 obtain ⟨vp,vq,Fp,Fq,h1,h2,h3,rfl,r⟩:=h;obtain ⟨g,cap,rfl,rfl,hcap⟩:=h2.pos (T);have c0:=h1.cell 0;simp only [List.getElem?_toArray,List.getElem?_cons_zero] at c0;have d0:=(h2.at l (T)).1;rw [List.getElem?_map,List.getElem?_eq_getElem hl] at d0;simp only [Option.map_some] at d0;have AT:=y (yM6 (V ⟨g,0,u⟩) g p.length cap l (p[l]:Nat) hl (T) w rfl d0);generalize (p[l]:Nat)=v at *;clear h1 h2 h3 d0;go_in;go_wp2_with fail;refine AT.out.mono ?_;rintro e w' ⟨rfl,rfl⟩;go_wp2_with fail;go_ret;exact ⟨rfl,rfl⟩
theorem Xh {w:M} {b:Nat} {p q:List Nat} {F:List Nat} (h:IsOrd w b p q F):
 N d 31 #[I (V ⟨b,0,u⟩)] w fun e w'=>e=c (z Y p.length)∧w'=w:=by
 obtain ⟨vp,vq,Fp,Fq,h1,h2,h3,rfl,r⟩:=h;obtain ⟨a,cap,rfl,hcap⟩:=h2.shape;have c0:=h1.cell 0;simp only [List.getElem?_toArray,List.getElem?_cons_zero] at c0;clear h1 h2 h3;go_in;go_wp2_with fail;go_ret;exact ⟨rfl,rfl⟩
open Go.RowKit
theorem zc7 (n:Nat) (h:n≤16) (w:M):N d 104 #[z Y n] w fun e w'=>e=c (A true)∧w'=w:=by
 have h1:(0:Int)≤n:=T;have h5:(n:Int)≤16:=T;go_in;go_wp2;go_ret;exact ⟨rfl,rfl⟩
theorem kS {p:Prop} (h:p:=by
 obtain rfl | rfl | rfl | rfl | rfl | rfl:n=0∨n=1∨n=2∨n=3∨n=4∨n=5:=T
 all_goals
  go_in;go_wp2;go_ret
  exact ⟨rfl,rfl⟩):p:=h
theorem zC9 (n:Nat) (h:n≤5) (w:M):N d 105 #[z Y n] w fun e w'=>e=c (z Y 1)∧w'=w:=by
 exact kS
def Y8 (n:Nat):Nat:=2 ^ (2 ^ n) - 1
theorem zv7 (n:Nat) (h:n≤5) (w:M):N d 106 #[z Y n] w fun e w'=>e=c (z D (Y8 n:Nat))∧w'=w:=by
 exact kS
open Go.RowKit
theorem zz4 (W n:Nat) (hn:n≤5) (hW:W < 2 ^ (2 ^ n)):bits .andNot D (W:Int) ((Y8 n:Nat):Int)=0:=by
 have e:O 64 (W:Int) &&& ~~~ (O 64 ((Y8 n:Nat):Int))=0#64:=by
  rw [H,H];apply BitVec.eq_of_getLsbD_eq;intro i hi;unfold Y8;rw [BitVec.getLsbD_and,BitVec.getLsbD_not,Ω,Ω];simp only [hi,decide_true,Bool.true_and,Nat.testBit_two_pow_sub_one,BitVec.getLsbD_zero];rcases Nat.lt_or_ge i (2 ^ n) with h2 | h2
  ·simp [h2]
  ·rw [Nat.testBit_lt_two_pow (t hW (G (T) h2))];rfl
 show IntKind.u64.wrap ((O 64 (W:Int) &&& ~~~ (O 64 ((Y8 n:Nat):Int))).toNat:Int)=0;rw [e];rfl
theorem YX (n W g cap:Nat) (hn:n≤5) (hW:W < 2 ^ (2 ^ n)) (w:M) (c0:w.cell? ⟨g,0,u⟩=V (z D W)):
 N d 66 #[Γ #[z Y n,U (V ⟨g,0,u⟩) 1 cap]] w fun e w'=>e=c (A true)∧R [] w w':=by
 have MY:K (∀W',N d 104 #[z Y n] W' fun e w'=>e=c (A true)∧R [] W' w'):=fun W'=>(zc7 n (T) W').mono (qe)
 have WO:K (∀W',N d 105 #[z Y n] W' fun e w'=>e=c (z Y 1)∧R [] W' w'):=fun W'=>(zC9 n hn W').mono (qe)
 have FU:K (∀W',N d 106 #[z Y n] W' fun e w'=>e=c (z D (Y8 n:Nat))∧R [] W' w'):=fun W'=>(zv7 n hn W').mono (qe)
 have AN:=zz4 W n hn hW;have hgl:=Z w _ c0;simp only at hgl;clear hW;generalize Y8 n=fn at *;obtain ⟨gk,hgk⟩:∃gk,w.heap.size=gk:=⟨_,rfl⟩;have gn1:¬g=gk:=T;have gn2:¬gk=g:=T;go_in;go_wp2_with fail;have B:=P w #[z Y n,U (V ⟨g,0,u⟩) 1 cap] 88 gk hgk.symm;have M0:K (R [] w (w.alloc (s #[z Y n,U (V ⟨g,0,u⟩) 1 cap] 88))):=zg;have c0:=(M0.out.cell (a:=⟨g,0,u⟩) hgl (J)).trans c0;generalize w.alloc (s #[z Y n,U (V ⟨g,0,u⟩) 1 cap] 88)=w0 at *;obtain ⟨q0,q1⟩:=B.cells2;have hk:=B.lt;have hgl:=t hgl M0.out.size;clear B
 go_region_held3 (fun w'=>w'.cell? ⟨g,0,u⟩=V (z D W)∧w'.cell? ⟨gk,0,u⟩=V (z Y n)∧w'.cell? ⟨gk,1,u⟩=V (U (V ⟨g,0,u⟩) 1 cap)) (go_keep) (first | (go_at_call 104;refine (MY.out _).mono ?_;rintro e' wa ⟨rfl,m_wa⟩;have M_wa:=Q (show R _ w0 _ from zg) m_wa;have c0:=(M_wa.cell (a:=⟨g,0,u⟩) hgl (zh)).trans c0;have q0:=(M_wa.cell (a:=⟨gk,0,u⟩) hk (zh)).trans q0;have q1:=(M_wa.cell (a:=⟨gk,1,u⟩) hk (zh)).trans q1;have hgl:=t hgl M_wa.size;have hk:=t hk M_wa.size) | (go_at_call 105;refine (WO.out _).mono ?_;rintro e' wb ⟨rfl,m_wb⟩;have M_wb:=Q (show R _ wa _ from zg) m_wb;have c0:=(M_wb.cell (a:=⟨g,0,u⟩) hgl (zh)).trans c0;have q0:=(M_wb.cell (a:=⟨gk,0,u⟩) hk (zh)).trans q0;have q1:=(M_wb.cell (a:=⟨gk,1,u⟩) hk (zh)).trans q1;have hgl:=t hgl M_wb.size;have hk:=t hk M_wb.size) | (go_at_call 106;refine (FU.out _).mono ?_;rintro e' wc ⟨rfl,m_wc⟩;have M_wc:=Q (show R _ wb _ from zg) m_wc;have c0:=(M_wc.cell (a:=⟨g,0,u⟩) hgl (zh)).trans c0;have q0:=(M_wc.cell (a:=⟨gk,0,u⟩) hk (zh)).trans q0;have q1:=(M_wc.cell (a:=⟨gk,1,u⟩) hk (zh)).trans q1;have hgl:=t hgl M_wc.size;have hk:=t hk M_wc.size))
 have M1:=y (M0.out.trans' (M_wa.trans' (M_wb.trans' M_wc)));clear m_wa m_wb m_wc M_wa M_wb M_wc MY WO FU;go_wp2_with fail;go_ret;exact ⟨by first | rfl | simp [AN],M1.out⟩
open Go.RowKit
theorem yy3 (m:Nat) (hm:m < 18446744073709551616):bits .and D (m:Int) 1=((m % 2:Nat):Int):=by
 have e:(O 64 (m:Int) &&& O 64 1).toNat=m % 2:=by
  have e1:O 64 (m:Int)=ω 64 m:=H ..;have e2:O 64 1=ω 64 1:=rfl;rw [e1,e2,BitVec.toNat_and,Φ,Φ,Nat.mod_eq_of_lt hm];exact Nat.and_one_is_mod m
 show IntKind.u64.wrap ((O 64 (m:Int) &&& O 64 1).toNat:Int)=_;rw [e,IntWalk.u64_in _ (T)]
theorem zo6 (W x:Nat) (hW:W < 18446744073709551616):(bits .and D ((W:Int) / 2 ^ x) 1==1)=W.testBit x:=by
 have e1:(W:Int) / 2 ^ x=((W / 2 ^ x:Nat):Int):=by
  rw [Int.natCast_ediv];simp
 rw [e1,yy3 _ (Nat.lt_of_le_of_lt (Nat.div_le_self _ _) hW)]
 have h:W.testBit x=decide (W / 2 ^ x % 2=1):=by
  rw [Nat.testBit_eq_decide_div_mod_eq]
 rw [h];by_cases q:W / 2 ^ x % 2=1
 ·rw [q];simp
 ·have:W / 2 ^ x % 2=0:=T;rw [this];simp
theorem zh7 {W n:Nat} (hn:n≤5) (hW:W < 2 ^ (2 ^ n)):W < 18446744073709551616:=by
 have h1:2 ^ n≤2 ^ 5:=G (T) hn;have h2:2 ^ (2 ^ n)≤2 ^ (2 ^ 5):=G (T) h1;have h3:(2:Nat) ^ (2 ^ 5)=4294967296:=zi;omega
theorem kL {p:Prop} (h:p:=by
 obtain ⟨q0,q1⟩:=B.cells2;have hk:=B.lt;have hgl:=t hgl M0.out.size;clear B;refine (RT.out _ M0.out).mono ?_;rintro e' wa ⟨rfl,m_wa⟩;have M_wa:=Q (show R _ w0 _ from zg) m_wa;have c0:=(M_wa.cell (a:=⟨g,0,u⟩) hgl (zh)).trans c0;have q0:=(M_wa.cell (a:=⟨gk,0,u⟩) hk (zh)).trans q0;have q1:=(M_wa.cell (a:=⟨gk,1,u⟩) hk (zh)).trans q1;have hgl:=t hgl M_wa.size;have hk:=t hk M_wa.size;have M1:=y (M0.out.trans' M_wa);clear m_wa M_wa RT;go_wp2_with fail;go_ret
 exact ⟨yU,M1.out⟩):p:=h
theorem yu0 (W g cap x:Nat) (hW:W < 2 ^ (2 ^ 0)) (hx:x < 1) (w:M) (c0:w.cell? ⟨g,0,u⟩=V (z D W)):
 N d 107 #[Γ #[z Y (0:Nat),U (V ⟨g,0,u⟩) 1 cap],z Y x] w fun e w'=>e=c (A (W.testBit x))∧R [] w w':=by
 have hgl:=Z w _ c0;simp only at hgl;have RT:K (∀W',R [] w W'→_):=fun W' m=>YX 0 W g cap (T) hW W' ((m.cell (a:=⟨g,0,u⟩) hgl (J)).trans c0)
 have BA:=y (zo6 W x (zh7 (n:=0) (T) hW));clear hW;obtain ⟨gk,hgk⟩:∃gk,w.heap.size=gk:=⟨_,rfl⟩;have gn1:¬g=gk:=T;have gn2:¬gk=g:=T;have hx32:(x:Int) < 1:=T;have hx0:(0:Int)≤x:=T;have hxd:(x:Int) / 64=0:=T;have hxm:(x:Int) % 64=x:=T;clear hx;go_in;go_wp2_with fail;have B:=P w #[z Y 0,U (V ⟨g,0,u⟩) 1 cap] 88 gk hgk.symm;have M0:K (R [] w (w.alloc (s #[z Y 0,U (V ⟨g,0,u⟩) 1 cap] 88))):=zg;have c0:=(M0.out.cell (a:=⟨g,0,u⟩) hgl (J)).trans c0;generalize w.alloc (s #[z Y 0,U (V ⟨g,0,u⟩) 1 cap] 88)=w0 at *;exact kL
theorem yr6 (W g cap x:Nat) (hW:W < 2 ^ (2 ^ 1)) (hx:x < 2) (w:M) (c0:w.cell? ⟨g,0,u⟩=V (z D W)):
 N d 107 #[Γ #[z Y (1:Nat),U (V ⟨g,0,u⟩) 1 cap],z Y x] w fun e w'=>e=c (A (W.testBit x))∧R [] w w':=by
 have hgl:=Z w _ c0;simp only at hgl;have RT:K (∀W',R [] w W'→_):=fun W' m=>YX 1 W g cap (T) hW W' ((m.cell (a:=⟨g,0,u⟩) hgl (J)).trans c0)
 have BA:=y (zo6 W x (zh7 (n:=1) (T) hW));clear hW;obtain ⟨gk,hgk⟩:∃gk,w.heap.size=gk:=⟨_,rfl⟩;have gn1:¬g=gk:=T;have gn2:¬gk=g:=T;have hx32:(x:Int) < 2:=T;have hx0:(0:Int)≤x:=T;have hxd:(x:Int) / 64=0:=T;have hxm:(x:Int) % 64=x:=T;clear hx;go_in;go_wp2_with fail;have B:=P w #[z Y 1,U (V ⟨g,0,u⟩) 1 cap] 88 gk hgk.symm;have M0:K (R [] w (w.alloc (s #[z Y 1,U (V ⟨g,0,u⟩) 1 cap] 88))):=zg;have c0:=(M0.out.cell (a:=⟨g,0,u⟩) hgl (J)).trans c0;generalize w.alloc (s #[z Y 1,U (V ⟨g,0,u⟩) 1 cap] 88)=w0 at *;exact kL
theorem yr5 (W g cap x:Nat) (hW:W < 2 ^ (2 ^ 2)) (hx:x < 4) (w:M) (c0:w.cell? ⟨g,0,u⟩=V (z D W)):
 N d 107 #[Γ #[z Y (2:Nat),U (V ⟨g,0,u⟩) 1 cap],z Y x] w fun e w'=>e=c (A (W.testBit x))∧R [] w w':=by
 have hgl:=Z w _ c0;simp only at hgl;have RT:K (∀W',R [] w W'→_):=fun W' m=>YX 2 W g cap (T) hW W' ((m.cell (a:=⟨g,0,u⟩) hgl (J)).trans c0)
 have BA:=y (zo6 W x (zh7 (n:=2) (T) hW));clear hW;obtain ⟨gk,hgk⟩:∃gk,w.heap.size=gk:=⟨_,rfl⟩;have gn1:¬g=gk:=T;have gn2:¬gk=g:=T;have hx32:(x:Int) < 4:=T;have hx0:(0:Int)≤x:=T;have hxd:(x:Int) / 64=0:=T;have hxm:(x:Int) % 64=x:=T;clear hx;go_in;go_wp2_with fail;have B:=P w #[z Y 2,U (V ⟨g,0,u⟩) 1 cap] 88 gk hgk.symm;have M0:K (R [] w (w.alloc (s #[z Y 2,U (V ⟨g,0,u⟩) 1 cap] 88))):=zg;have c0:=(M0.out.cell (a:=⟨g,0,u⟩) hgl (J)).trans c0;generalize w.alloc (s #[z Y 2,U (V ⟨g,0,u⟩) 1 cap] 88)=w0 at *;exact kL
theorem yy5 (W g cap x:Nat) (hW:W < 2 ^ (2 ^ 3)) (hx:x < 8) (w:M) (c0:w.cell? ⟨g,0,u⟩=V (z D W)):
 N d 107 #[Γ #[z Y (3:Nat),U (V ⟨g,0,u⟩) 1 cap],z Y x] w fun e w'=>e=c (A (W.testBit x))∧R [] w w':=by
 have hgl:=Z w _ c0;simp only at hgl;have RT:K (∀W',R [] w W'→_):=fun W' m=>YX 3 W g cap (T) hW W' ((m.cell (a:=⟨g,0,u⟩) hgl (J)).trans c0)
 have BA:=y (zo6 W x (zh7 (n:=3) (T) hW));clear hW;obtain ⟨gk,hgk⟩:∃gk,w.heap.size=gk:=⟨_,rfl⟩;have gn1:¬g=gk:=T;have gn2:¬gk=g:=T;have hx32:(x:Int) < 8:=T;have hx0:(0:Int)≤x:=T;have hxd:(x:Int) / 64=0:=T;have hxm:(x:Int) % 64=x:=T;clear hx;go_in;go_wp2_with fail;have B:=P w #[z Y 3,U (V ⟨g,0,u⟩) 1 cap] 88 gk hgk.symm;have M0:K (R [] w (w.alloc (s #[z Y 3,U (V ⟨g,0,u⟩) 1 cap] 88))):=zg;have c0:=(M0.out.cell (a:=⟨g,0,u⟩) hgl (J)).trans c0;generalize w.alloc (s #[z Y 3,U (V ⟨g,0,u⟩) 1 cap] 88)=w0 at *;exact kL
theorem yu2 (W g cap x:Nat) (hW:W < 2 ^ (2 ^ 4)) (hx:x < 16) (w:M) (c0:w.cell? ⟨g,0,u⟩=V (z D W)):
 N d 107 #[Γ #[z Y (4:Nat),U (V ⟨g,0,u⟩) 1 cap],z Y x] w fun e w'=>e=c (A (W.testBit x))∧R [] w w':=by
 have hgl:=Z w _ c0;simp only at hgl;have RT:K (∀W',R [] w W'→_):=fun W' m=>YX 4 W g cap (T) hW W' ((m.cell (a:=⟨g,0,u⟩) hgl (J)).trans c0)
 have BA:=y (zo6 W x (zh7 (n:=4) (T) hW));clear hW;obtain ⟨gk,hgk⟩:∃gk,w.heap.size=gk:=⟨_,rfl⟩;have gn1:¬g=gk:=T;have gn2:¬gk=g:=T;have hx32:(x:Int) < 16:=T;have hx0:(0:Int)≤x:=T;have hxd:(x:Int) / 64=0:=T;have hxm:(x:Int) % 64=x:=T;clear hx;go_in;go_wp2_with fail;have B:=P w #[z Y 4,U (V ⟨g,0,u⟩) 1 cap] 88 gk hgk.symm;have M0:K (R [] w (w.alloc (s #[z Y 4,U (V ⟨g,0,u⟩) 1 cap] 88))):=zg;have c0:=(M0.out.cell (a:=⟨g,0,u⟩) hgl (J)).trans c0;generalize w.alloc (s #[z Y 4,U (V ⟨g,0,u⟩) 1 cap] 88)=w0 at *;exact kL
theorem yq6 (W g cap x:Nat) (hW:W < 2 ^ (2 ^ 5)) (hx:x < 32) (w:M) (c0:w.cell? ⟨g,0,u⟩=V (z D W)):
 N d 107 #[Γ #[z Y (5:Nat),U (V ⟨g,0,u⟩) 1 cap],z Y x] w fun e w'=>e=c (A (W.testBit x))∧R [] w w':=by
 have hgl:=Z w _ c0;simp only at hgl;have RT:K (∀W',R [] w W'→_):=fun W' m=>YX 5 W g cap (T) hW W' ((m.cell (a:=⟨g,0,u⟩) hgl (J)).trans c0)
 have BA:=y (zo6 W x (zh7 (n:=5) (T) hW));clear hW;obtain ⟨gk,hgk⟩:∃gk,w.heap.size=gk:=⟨_,rfl⟩;have gn1:¬g=gk:=T;have gn2:¬gk=g:=T;have hx32:(x:Int) < 32:=T;have hx0:(0:Int)≤x:=T;have hxd:(x:Int) / 64=0:=T;have hxm:(x:Int) % 64=x:=T;clear hx;go_in;go_wp2_with fail;have B:=P w #[z Y 5,U (V ⟨g,0,u⟩) 1 cap] 88 gk hgk.symm;have M0:K (R [] w (w.alloc (s #[z Y 5,U (V ⟨g,0,u⟩) 1 cap] 88))):=zg;have c0:=(M0.out.cell (a:=⟨g,0,u⟩) hgl (J)).trans c0;generalize w.alloc (s #[z Y 5,U (V ⟨g,0,u⟩) 1 cap] 88)=w0 at *;exact kL
theorem ye6 (n W g cap x:Nat) (hn:n≤5) (hW:W < 2 ^ (2 ^ n)) (hx:x < 2 ^ n) (w:M) (c0:w.cell? ⟨g,0,u⟩=V (z D W)):
 N d 107 #[Γ #[z Y n,U (V ⟨g,0,u⟩) 1 cap],z Y x] w fun e w'=>e=c (A (W.testBit x))∧R [] w w':=by
 obtain rfl | rfl | rfl | rfl | rfl | rfl:n=0∨n=1∨n=2∨n=3∨n=4∨n=5:=T
 ·exact yu0 W g cap x hW (yK) w c0
 ·exact yr6 W g cap x hW (yK) w c0
 ·exact yr5 W g cap x hW (yK) w c0
 ·exact yy5 W g cap x hW (yK) w c0
 ·exact yu2 W g cap x hW (yK) w c0
 ·exact yq6 W g cap x hW (yK) w c0
end Go.Proofs.YtbnpoapmnkfhkaaGreatDoor
