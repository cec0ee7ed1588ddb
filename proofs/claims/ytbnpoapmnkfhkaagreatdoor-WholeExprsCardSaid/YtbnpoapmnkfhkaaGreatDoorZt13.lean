import Derived.Test.YtbnpoapmnkfhkaaGreatDoorZt12
set_option maxRecDepth 100000
set_option maxHeartbeats 2000000
set_option linter.unusedVariables false
set_option linter.unusedSimpArgs false
namespace Go.Proofs.YtbnpoapmnkfhkaaGreatDoor
open Go.Value renaming int → z, pointer → V, tuple → U
open Go.Lib renaming hid → y
open Go.IntKind renaming u8 → x, u32 → v, i64 → R
open Go.Obj renaming cells → u
open Go.Proofs.YtbnpoapmnkfhkaaGreatDoor.Mod renaming refl → t, trans' → Z
open Go.Proofs.YtbnpoapmnkfhkaaGreatDoor.Blk renaming new' → s
open Go.Proofs.YtbnpoapmnkfhkaaGreatDoor renaming zc → q, ze → j, Mod → d
open Nat renaming lt_of_lt_of_le → o
open Option renaming none → i, some → Q
open Go.World renaming block_lt_of_cell? → g
open Go renaming bodyPost_ret → f, results → Y, Calls → T, World → S
open Go.RowKit renaming Hid → c
open Go.RowKit
theorem kZ {p:Prop} (h:p:=by
 rw [hv.out]
 exact ⟨rfl,F,(HS.out.mod M.out (j)).mod MS.out (fun k hk=>zN),(M.out.mono (zq)).trans MS.out (zu),fun k hk=>.inl hk⟩):p:=h
theorem Zl {p:Prop} (h:p:=by
 obtain ⟨g0,g1⟩:=BX.cells2;obtain ⟨g2,g3⟩:=BY.cells2;clear e0 e1 e2 e3 f0 f1 f2 f3 BX BY MS1 MS2;simp only at g0 g1 g2 g3;go_wp2_with fail;refine f (by simp [Y,Tryz.results304,g0,g1,g2,g3,go_sem];try rfl) rfl ?_
 exact kZ):p:=h
theorem Za {p:Prop} (h:p:=by
 replace BL:=y BL.out.drew;replace BH:=y BH.out.drew;replace M:=y (M.out.drew);have MS1:=YD (t [gk+1] w3.drew) (gk+1) ⟨et,ea⟩ (fun _=>j);have BX:=YC BL.out ⟨et,ea⟩;have BY:=YC (BH.out.mod MS1 (j)) ⟨et,ea⟩;have MS2:=YD (t [gk+1+1] (YM w3.drew (gk+1) ⟨et,ea⟩)) (gk+1+1) ⟨et,ea⟩ (fun _=>j);replace BX:=BX.mod MS2 (j);have MS:=y ((MS1.mono (S':=[gk+1,gk+1+1]) (zv)).trans MS2 (zv));change Exit.then _ _ _ _ (YM (YM w3.drew (gk+1) ⟨et,ea⟩) (gk+1+1) ⟨et,ea⟩);generalize YM (YM w3.drew (gk+1) ⟨et,ea⟩) (gk+1+1) ⟨et,ea⟩=X at *
 exact Zl):p:=h
theorem Zh {p:Prop} (h:p:=by
 have:=hg.right.lo;have:=hg.right.bn;by_cases h:r.f≠5∨r.lo.a=0
 ·have:=hg.right.lo.1 h;omega
 ·have:=hg.right.lo.2 (q) (q);omega):p:=h
theorem Zi {p:Prop} (h:p:=by
 have:=hg.right.hi;have:=hg.right.bn;by_cases h:r.f≠5∨r.hi.a=0
 ·have:=hg.right.hi.1 h;omega
 ·have:=hg.right.hi.2 (q) (q);omega):p:=h
theorem Zj {p:Prop} (h:p:=by
 rcases HE.out.at_ with h0 | ⟨r,hr,-⟩
 ·simp only at h0;omega
 ·have:=YJ hr;simp only at this;omega):p:=h
theorem zY0 {w:S} {b n:Nat} {L:List Rc} {room:Nat} {F:List Nat} (h:IsSt w b n L room F) (hL:L.length≤100000) (hroom:L.length < room) (hrm:room≤1048576) (hn:n≤16) (hG:Good L n) (l:Nat) (hl:l < n) (e:Ed)
 (he:LeadsP L 1 e l n):
 T Tryz.prog 304 #[V (Q ⟨b,0,i⟩),edv e,z R l] w fun r w'=>r=.returned (U #[edv (YG L 1 l e).2.1,edv (YG L 1 l e).2.2,z x 0])∧∃F',IsSt w' b n (YG L 1 l e).1 room F'∧d F w w'∧∀k∈F',k∈F∨w.heap.size≤k:=by
 have LE:c (∀W,d [] w W→_):=fun W m=>YI (h.mod m (j)) (q) hn 1 (q) (q) e l (q) he
 have hbF:=h.lt;obtain ⟨ba,bi,Fa,c0,-,-,-⟩:=h.own;have hbl:=g w _ c0;simp only at hbl;have HS:=y h;have hl':(l:Int) < n:=q;clear h;obtain ⟨gk,hgk⟩:∃gk,w.heap.size=gk:=⟨_,rfl⟩;have HLT:c (∀k∈F,k < gk):=fun k hk=>zH
 have HE:=y he;have HG:=y hG;clear hbF he hG;obtain ⟨et,ea⟩:=e;unfold edv at *;simp only at LE ⊢;have gn1:¬b=gk:=q;have gn2:¬gk=b:=q;have gn3:¬b=gk+1:=q;have gn4:¬gk+1=b:=q;have gn5:¬b=gk+1+1:=q;have gn6:¬gk+1+1=b:=q;go_in;go_wp2_with fail;have BE:=s w #[z x et,z v ea] 44 gk hgk.symm;have BL:=s (w.alloc (u #[z x et,z v ea] 44)) #[z x 0,z v 0] 44 (gk+1) (zk);have BH:=s ((w.alloc (u #[z x et,z v ea] 44)).alloc (u #[z x 0,z v 0] 44)) #[z x 0,z v 0] 44 (gk+1+1) (zk);replace BE:=(BE.alloc (u #[z x 0,z v 0] 44)).alloc (u #[z x 0,z v 0] 44);replace BL:=BL.alloc (u #[z x 0,z v 0] 44);have M0:c (d [] w (((w.alloc (u #[z x et,z v ea] 44)).alloc (u #[z x 0,z v 0] 44)).alloc (u #[z x 0,z v 0] 44))):=zg;have hsz:(((w.alloc (u #[z x et,z v ea] 44)).alloc (u #[z x 0,z v 0] 44)).alloc (u #[z x 0,z v 0] 44)).heap.size=gk+3:=zk;have c0:=(M0.out.cell (a:=⟨b,0,i⟩) hbl (j)).trans c0;generalize ((w.alloc (u #[z x et,z v ea] 44)).alloc (u #[z x 0,z v 0] 44)).alloc (u #[z x 0,z v 0] 44)=w0 at *;have hb0:b < w0.heap.size:=q;have hk0:gk < w0.heap.size:=q;have hk1:gk+1 < w0.heap.size:=q;have hk2:gk+1+1 < w0.heap.size:=q;obtain ⟨q0,q1⟩:=BE.cells2;replace BE:=y BE;replace BL:=y BL;replace BH:=y BH;refine (YH b n _ c0).mono ?_;rintro e w1 ⟨rfl,rfl⟩;go_wp2_with fail;refine (LE.out _ M0.out).mono ?_;rintro e' wa ⟨rfl,m_wa⟩;have M_wa:=Z (show d _ w1 _ from zg) m_wa;have c0:=(M_wa.cell (a:=⟨b,0,i⟩) hb0 (zh)).trans c0;have q0:=(M_wa.cell (a:=⟨gk,0,i⟩) hk0 (zh)).trans q0;have q1:=(M_wa.cell (a:=⟨gk,1,i⟩) hk0 (zh)).trans q1;have hb0:=o hb0 M_wa.size;have hk0:=o hk0 M_wa.size;have M1:=y (M0.out.trans' M_wa);replace BE:=y (BE.out.mod M_wa (j));replace BL:=y (BL.out.mod M_wa (j));replace BH:=y (BH.out.mod M_wa (j));have hza:=M_wa.size;clear m_wa M_wa M0 LE;have hl16:(l:Int)≤16:=q;have hF1:gk+1∉F:=fun h=>zw
 have hF2:gk+1+1∉F:=fun h=>zw
 have het:(et:Int)≤16:=by
  have hp:=HE.out.plain;by_cases h:ea=0
  ·have:=hp.1 (.inr h);simp only at this;omega
  ·by_cases h5:1=5
   ·have:=hp.2 h5 h;simp only at this;omega
   ·have:=hp.1 (.inl h5);simp only at this;omega
 have hea:ea≤4294967295:=by
  exact Zj
 cases hr:YO L ea with
 | none=>
  have hv:=y (show YG L 1 l ⟨et,ea⟩=(L,(⟨et,ea⟩,⟨et,ea⟩)) from qg);have GT:c (∀W,d [] w W→_):=fun W m=>Xa (HS.out.mod m (j)) (q) ea hea hr
  unfold rcv rc0 at GT;simp only at GT
  try rw [show ((0:Nat):Int)=0 from rfl] at GT
  go_wp2_with fail;refine (GT.out _ M1.out).mono ?_;rintro e w2 ⟨rfl,m2⟩;obtain ⟨gr,hgr⟩:∃gr,w2.heap.size=gr:=⟨_,rfl⟩;have BQ:=s w2 #[z x 0,z x 0,z x 0,z x 0,z v 0,z x 0,z v 0] 139 gr hgr.symm;have MX:=m2.alloc (u #[z x 0,z x 0,z x 0,z x 0,z v 0,z x 0,z v 0] 139);have hzx:=m2.size;replace M1:=y (M1.out.trans' MX);replace BE:=BE.out.mod MX (j);replace BL:=y (BL.out.mod MX (j));replace BH:=y (BH.out.mod MX (j));obtain ⟨q0,q1⟩:=BE.cells2;obtain ⟨r0,r1,r2,r3,r4,r5,r6⟩:=BQ.cells7;have hrl:=BQ.lt;have hel:=BE.lt;have hll:=BL.out.lt;have hhl:=BH.out.lt;have gr1:¬gr=gk:=q;have gr2:¬gk=gr:=q;have gr3:¬gr=gk+1:=q;have gr4:¬gk+1=gr:=q;have gr5:¬gr=gk+1+1:=q;have gr6:¬gk+1+1=gr:=q;have M:=M1;replace BE:=y BE;clear MX m2 GT M1;replace BQ:=y BQ;obtain ⟨e0,e1⟩:=BL.out.cells2;obtain ⟨e2,e3⟩:=BH.out.cells2;obtain ⟨f0,f1,-⟩:=BL.out.frozs;obtain ⟨f2,f3,-⟩:=BH.out.frozs;go_wp2_with fail;generalize w2.alloc (u #[z x 0,z x 0,z x 0,z x 0,z v 0,z x 0,z v 0] 139)=w3 at *
  go_region
  exact Za
 | some r=>
  have GT:c (∀W,d [] w W→_):=fun W m=>Y7 (HS.out.mod m (j)) (q) ea r hr
  have hg:=HG.out ea r hr;obtain ⟨hrf,hrl,htg,h16⟩:=HE.out.node hr;have h16':(r.top:Int)≤16:=q;have hb15:(r.bot:Int)≤16:=xz
  have hq1:(r.lo.t:Int)≤255:=by
   exact Zh
  have hq2:(r.hi.t:Int)≤255:=by
   exact Zi
  by_cases hlt:l < r.top
  ·have hv:=y (show YG L 1 l ⟨et,ea⟩=(L,(⟨et,ea⟩,⟨et,ea⟩)) from qh);have hlt1:decide ((l:Int) < r.top)=true:=zj;clear hg hr;obtain ⟨qf,qt,qb,⟨qlt,qla⟩,⟨qht,qha⟩⟩:=r;unfold rcv at GT;clear hrf hrl htg h16;simp only at GT h16' hb15 hq1 hq2 hlt hlt1 hv;go_wp2_with fail;refine (GT.out _ M1.out).mono ?_;rintro e w2 ⟨rfl,m2⟩;obtain ⟨gr,hgr⟩:∃gr,w2.heap.size=gr:=⟨_,rfl⟩;have BQ:=s w2 #[z x qf,z x qt,z x qb,z x qlt,z v qla,z x qht,z v qha] 139 gr hgr.symm;have MX:=m2.alloc (u #[z x qf,z x qt,z x qb,z x qlt,z v qla,z x qht,z v qha] 139);have hzx:=m2.size;replace M1:=y (M1.out.trans' MX);replace BE:=BE.out.mod MX (j);replace BL:=y (BL.out.mod MX (j));replace BH:=y (BH.out.mod MX (j));obtain ⟨q0,q1⟩:=BE.cells2;obtain ⟨r0,r1,r2,r3,r4,r5,r6⟩:=BQ.cells7;have hrl:=BQ.lt;have hel:=BE.lt;have hll:=BL.out.lt;have hhl:=BH.out.lt;have gr1:¬gr=gk:=q;have gr2:¬gk=gr:=q;have gr3:¬gr=gk+1:=q;have gr4:¬gk+1=gr:=q;have gr5:¬gr=gk+1+1:=q;have gr6:¬gk+1+1=gr:=q;have M:=M1;replace BE:=y BE;clear MX m2 GT M1;replace BQ:=y BQ;obtain ⟨e0,e1⟩:=BL.out.cells2;obtain ⟨e2,e3⟩:=BH.out.cells2;obtain ⟨f0,f1,-⟩:=BL.out.frozs;obtain ⟨f2,f3,-⟩:=BH.out.frozs;go_wp2_with fail;generalize w2.alloc (u #[z x qf,z x qt,z x qb,z x qlt,z v qla,z x qht,z v qha] 139)=w3 at *
   go_region
   exact Za
  ·have htb:r.top=r.bot:=xx;have hv:=y (show YG L 1 l ⟨et,ea⟩=(L,(r.lo,r.hi)) from qi);have hlt1:decide ((l:Int) < r.top)=false:=zj;clear hg hr;obtain ⟨qf,qt,qb,⟨qlt,qla⟩,⟨qht,qha⟩⟩:=r;unfold rcv at GT;clear hrf hrl htg h16 htb;simp only at GT h16' hb15 hq1 hq2 hlt hlt1 hv;go_wp2_with fail;refine (GT.out _ M1.out).mono ?_;rintro e w2 ⟨rfl,m2⟩;obtain ⟨gr,hgr⟩:∃gr,w2.heap.size=gr:=⟨_,rfl⟩;have BQ:=s w2 #[z x qf,z x qt,z x qb,z x qlt,z v qla,z x qht,z v qha] 139 gr hgr.symm;have MX:=m2.alloc (u #[z x qf,z x qt,z x qb,z x qlt,z v qla,z x qht,z v qha] 139);have hzx:=m2.size;replace M1:=y (M1.out.trans' MX);replace BE:=BE.out.mod MX (j);replace BL:=y (BL.out.mod MX (j));replace BH:=y (BH.out.mod MX (j));obtain ⟨q0,q1⟩:=BE.cells2;obtain ⟨r0,r1,r2,r3,r4,r5,r6⟩:=BQ.cells7;have hrl:=BQ.lt;have hel:=BE.lt;have hll:=BL.out.lt;have hhl:=BH.out.lt;have gr1:¬gr=gk:=q;have gr2:¬gk=gr:=q;have gr3:¬gr=gk+1:=q;have gr4:¬gk+1=gr:=q;have gr5:¬gr=gk+1+1:=q;have gr6:¬gk+1+1=gr:=q;have M:=M1;replace BE:=y BE;clear MX m2 GT M1;replace BQ:=y BQ;obtain ⟨e0,e1⟩:=BL.out.cells2;obtain ⟨e2,e3⟩:=BH.out.cells2;obtain ⟨f0,f1,-⟩:=BL.out.frozs;obtain ⟨f2,f3,-⟩:=BH.out.frozs;go_wp2_with fail;generalize w2.alloc (u #[z x qf,z x qt,z x qb,z x qlt,z v qla,z x qht,z v qha] 139)=w3 at *
   go_region
   replace BL:=y BL.out.drew;replace BH:=y BH.out.drew;replace M:=y (M.out.drew);have MS1:=YD (t [gk+1] w3.drew) (gk+1) ⟨qlt,qla⟩ (fun _=>j);have BX:=YC BL.out ⟨qlt,qla⟩;have BY:=YC (BH.out.mod MS1 (j)) ⟨qht,qha⟩;have MS2:=YD (t [gk+1+1] (YM w3.drew (gk+1) ⟨qlt,qla⟩)) (gk+1+1) ⟨qht,qha⟩ (fun _=>j);replace BX:=BX.mod MS2 (j);have MS:=y ((MS1.mono (S':=[gk+1,gk+1+1]) (zv)).trans MS2 (zv));change Exit.then _ _ _ _ (YM (YM w3.drew (gk+1) ⟨qlt,qla⟩) (gk+1+1) ⟨qht,qha⟩);generalize YM (YM w3.drew (gk+1) ⟨qlt,qla⟩) (gk+1+1) ⟨qht,qha⟩=X at *;exact Zl
open Go.RowKit
theorem Zo {p:Prop} (h:p:=by
 refine f (by simp [Y,Tryz.results305,g0,g1,g2,g3,go_sem];try rfl) rfl ?_
 exact kZ):p:=h
theorem Zf {p:Prop} (h:p:=by
 have MS1:=YD (t [gk+1] w3) (gk+1) ⟨et,ea⟩ (fun _=>j);have BX:=YC BL.out ⟨et,ea⟩;have BY:=YC (BH.out.mod MS1 (j)) ⟨0,0⟩;have MS2:=YD (t [gk+1+1] (YM w3 (gk+1) ⟨et,ea⟩)) (gk+1+1) ⟨0,0⟩ (fun _=>j);replace BX:=BX.mod MS2 (j);have MS:=y ((MS1.mono (S':=[gk+1,gk+1+1]) (zv)).trans MS2 (zv));change bodyPost _ _ _ _ _ (YM (YM w3 (gk+1) ⟨et,ea⟩) (gk+1+1) ⟨0,0⟩);generalize YM (YM w3 (gk+1) ⟨et,ea⟩) (gk+1+1) ⟨0,0⟩=X at *;obtain ⟨g0,g1⟩:=BX.cells2;obtain ⟨g2,g3⟩:=BY.cells2;clear e0 e1 e2 e3 f0 f1 f2 f3 BX BY MS1 MS2;simp only at g0 g1 g2 g3
 exact Zo):p:=h
theorem zZ6 {w:S} {b n:Nat} {L:List Rc} {room:Nat} {F:List Nat} (h:IsSt w b n L room F) (hL:L.length≤100000) (hroom:L.length < room) (hrm:room≤1048576) (hn:n≤16) (hG:Good L n) (l:Nat) (hl:l < n) (e:Ed)
 (he:LeadsP L 2 e l n):
 T Tryz.prog 305 #[V (Q ⟨b,0,i⟩),edv e,z R l] w fun r w'=>r=.returned (U #[edv (YG L 2 l e).2.1,edv (YG L 2 l e).2.2,z x 0])∧∃F',IsSt w' b n (YG L 2 l e).1 room F'∧d F w w'∧∀k∈F',k∈F∨w.heap.size≤k:=by
 have LE:c (∀W,d [] w W→_):=fun W m=>YI (h.mod m (j)) (q) hn 2 (q) (q) e l (q) he
 have hbF:=h.lt;obtain ⟨ba,bi,Fa,c0,-,-,-⟩:=h.own;have hbl:=g w _ c0;simp only at hbl;have HS:=y h;have hl':(l:Int) < n:=q;clear h;obtain ⟨gk,hgk⟩:∃gk,w.heap.size=gk:=⟨_,rfl⟩;have HLT:c (∀k∈F,k < gk):=fun k hk=>zH
 have HE:=y he;have HG:=y hG;clear hbF he hG;obtain ⟨et,ea⟩:=e;unfold edv at *;simp only at LE ⊢;have gn1:¬b=gk:=q;have gn2:¬gk=b:=q;have gn3:¬b=gk+1:=q;have gn4:¬gk+1=b:=q;have gn5:¬b=gk+1+1:=q;have gn6:¬gk+1+1=b:=q;go_in;go_wp2_with fail;have BE:=s w #[z x et,z v ea] 44 gk hgk.symm;have BL:=s (w.alloc (u #[z x et,z v ea] 44)) #[z x 0,z v 0] 44 (gk+1) (zk);have BH:=s ((w.alloc (u #[z x et,z v ea] 44)).alloc (u #[z x 0,z v 0] 44)) #[z x 0,z v 0] 44 (gk+1+1) (zk);replace BE:=(BE.alloc (u #[z x 0,z v 0] 44)).alloc (u #[z x 0,z v 0] 44);replace BL:=BL.alloc (u #[z x 0,z v 0] 44);have M0:c (d [] w (((w.alloc (u #[z x et,z v ea] 44)).alloc (u #[z x 0,z v 0] 44)).alloc (u #[z x 0,z v 0] 44))):=zg;have hsz:(((w.alloc (u #[z x et,z v ea] 44)).alloc (u #[z x 0,z v 0] 44)).alloc (u #[z x 0,z v 0] 44)).heap.size=gk+3:=zk;have c0:=(M0.out.cell (a:=⟨b,0,i⟩) hbl (j)).trans c0;generalize ((w.alloc (u #[z x et,z v ea] 44)).alloc (u #[z x 0,z v 0] 44)).alloc (u #[z x 0,z v 0] 44)=w0 at *;have hb0:b < w0.heap.size:=q;have hk0:gk < w0.heap.size:=q;have hk1:gk+1 < w0.heap.size:=q;have hk2:gk+1+1 < w0.heap.size:=q;obtain ⟨q0,q1⟩:=BE.cells2;replace BE:=y BE;replace BL:=y BL;replace BH:=y BH;refine (YH b n _ c0).mono ?_;rintro e w1 ⟨rfl,rfl⟩;go_wp2_with fail;refine (LE.out _ M0.out).mono ?_;rintro e' wa ⟨rfl,m_wa⟩;have M_wa:=Z (show d _ w1 _ from zg) m_wa;have c0:=(M_wa.cell (a:=⟨b,0,i⟩) hb0 (zh)).trans c0;have q0:=(M_wa.cell (a:=⟨gk,0,i⟩) hk0 (zh)).trans q0;have q1:=(M_wa.cell (a:=⟨gk,1,i⟩) hk0 (zh)).trans q1;have hb0:=o hb0 M_wa.size;have hk0:=o hk0 M_wa.size;have M1:=y (M0.out.trans' M_wa);replace BE:=y (BE.out.mod M_wa (j));replace BL:=y (BL.out.mod M_wa (j));replace BH:=y (BH.out.mod M_wa (j));have hza:=M_wa.size;clear m_wa M_wa M0 LE;have hl16:(l:Int)≤16:=q;have hF1:gk+1∉F:=fun h=>zw
 have hF2:gk+1+1∉F:=fun h=>zw
 have het:(et:Int)≤16:=by
  have hp:=HE.out.plain;by_cases h:ea=0
  ·have:=hp.1 (.inr h);simp only at this;omega
  ·by_cases h5:2=5
   ·have:=hp.2 h5 h;simp only at this;omega
   ·have:=hp.1 (.inl h5);simp only at this;omega
 have hea:ea≤4294967295:=by
  exact Zj
 cases hr:YO L ea with
 | none=>
  have hv:=y (show YG L 2 l ⟨et,ea⟩=(L,(⟨et,ea⟩,⟨0,0⟩)) from qg);have GT:c (∀W,d [] w W→_):=fun W m=>Xa (HS.out.mod m (j)) (q) ea hea hr
  unfold rcv rc0 at GT;simp only at GT
  try rw [show ((0:Nat):Int)=0 from rfl] at GT
  go_wp2_with fail;refine (GT.out _ M1.out).mono ?_;rintro e w2 ⟨rfl,m2⟩;obtain ⟨gr,hgr⟩:∃gr,w2.heap.size=gr:=⟨_,rfl⟩;have BQ:=s w2 #[z x 0,z x 0,z x 0,z x 0,z v 0,z x 0,z v 0] 139 gr hgr.symm;have MX:=m2.alloc (u #[z x 0,z x 0,z x 0,z x 0,z v 0,z x 0,z v 0] 139);have hzx:=m2.size;replace M1:=y (M1.out.trans' MX);replace BE:=BE.out.mod MX (j);replace BL:=y (BL.out.mod MX (j));replace BH:=y (BH.out.mod MX (j));obtain ⟨q0,q1⟩:=BE.cells2;obtain ⟨r0,r1,r2,r3,r4,r5,r6⟩:=BQ.cells7;have hrl:=BQ.lt;have hel:=BE.lt;have hll:=BL.out.lt;have hhl:=BH.out.lt;have gr1:¬gr=gk:=q;have gr2:¬gk=gr:=q;have gr3:¬gr=gk+1:=q;have gr4:¬gk+1=gr:=q;have gr5:¬gr=gk+1+1:=q;have gr6:¬gk+1+1=gr:=q;have M:=M1;replace BE:=y BE;clear MX m2 GT M1;replace BQ:=y BQ;obtain ⟨e0,e1⟩:=BL.out.cells2;obtain ⟨e2,e3⟩:=BH.out.cells2;obtain ⟨f0,f1,-⟩:=BL.out.frozs;obtain ⟨f2,f3,-⟩:=BH.out.frozs;go_wp2_with fail;generalize w2.alloc (u #[z x 0,z x 0,z x 0,z x 0,z v 0,z x 0,z v 0] 139)=w3 at *;exact Zf
 | some r=>
  have GT:c (∀W,d [] w W→_):=fun W m=>Y7 (HS.out.mod m (j)) (q) ea r hr
  have hg:=HG.out ea r hr;obtain ⟨hrf,hrl,htg,h16⟩:=HE.out.node hr;have h16':(r.top:Int)≤16:=q;have hb15:(r.bot:Int)≤16:=xz
  have hq1:(r.lo.t:Int)≤255:=by
   exact Zh
  have hq2:(r.hi.t:Int)≤255:=by
   exact Zi
  by_cases hlt:l < r.top
  ·have hv:=y (show YG L 2 l ⟨et,ea⟩=(L,(⟨et,ea⟩,⟨0,0⟩)) from qh);have hlt1:decide ((l:Int) < r.top)=true:=zj;clear hg hr;obtain ⟨qf,qt,qb,⟨qlt,qla⟩,⟨qht,qha⟩⟩:=r;unfold rcv at GT;clear hrf hrl htg h16;simp only at GT h16' hb15 hq1 hq2 hlt hlt1 hv;go_wp2_with fail;refine (GT.out _ M1.out).mono ?_;rintro e w2 ⟨rfl,m2⟩;obtain ⟨gr,hgr⟩:∃gr,w2.heap.size=gr:=⟨_,rfl⟩;have BQ:=s w2 #[z x qf,z x qt,z x qb,z x qlt,z v qla,z x qht,z v qha] 139 gr hgr.symm;have MX:=m2.alloc (u #[z x qf,z x qt,z x qb,z x qlt,z v qla,z x qht,z v qha] 139);have hzx:=m2.size;replace M1:=y (M1.out.trans' MX);replace BE:=BE.out.mod MX (j);replace BL:=y (BL.out.mod MX (j));replace BH:=y (BH.out.mod MX (j));obtain ⟨q0,q1⟩:=BE.cells2;obtain ⟨r0,r1,r2,r3,r4,r5,r6⟩:=BQ.cells7;have hrl:=BQ.lt;have hel:=BE.lt;have hll:=BL.out.lt;have hhl:=BH.out.lt;have gr1:¬gr=gk:=q;have gr2:¬gk=gr:=q;have gr3:¬gr=gk+1:=q;have gr4:¬gk+1=gr:=q;have gr5:¬gr=gk+1+1:=q;have gr6:¬gk+1+1=gr:=q;have M:=M1;replace BE:=y BE;clear MX m2 GT M1;replace BQ:=y BQ;obtain ⟨e0,e1⟩:=BL.out.cells2;obtain ⟨e2,e3⟩:=BH.out.cells2;obtain ⟨f0,f1,-⟩:=BL.out.frozs;obtain ⟨f2,f3,-⟩:=BH.out.frozs;go_wp2_with fail;generalize w2.alloc (u #[z x qf,z x qt,z x qb,z x qlt,z v qla,z x qht,z v qha] 139)=w3 at *;exact Zf
  ·have htb:r.top=r.bot:=xx;have hv:=y (show YG L 2 l ⟨et,ea⟩=(L,(r.lo,r.hi)) from qi);have hlt1:decide ((l:Int) < r.top)=false:=zj;clear hg hr;obtain ⟨qf,qt,qb,⟨qlt,qla⟩,⟨qht,qha⟩⟩:=r;unfold rcv at GT;clear hrf hrl htg h16 htb;simp only at GT h16' hb15 hq1 hq2 hlt hlt1 hv;go_wp2_with fail;refine (GT.out _ M1.out).mono ?_;rintro e w2 ⟨rfl,m2⟩;obtain ⟨gr,hgr⟩:∃gr,w2.heap.size=gr:=⟨_,rfl⟩;have BQ:=s w2 #[z x qf,z x qt,z x qb,z x qlt,z v qla,z x qht,z v qha] 139 gr hgr.symm;have MX:=m2.alloc (u #[z x qf,z x qt,z x qb,z x qlt,z v qla,z x qht,z v qha] 139);have hzx:=m2.size;replace M1:=y (M1.out.trans' MX);replace BE:=BE.out.mod MX (j);replace BL:=y (BL.out.mod MX (j));replace BH:=y (BH.out.mod MX (j));obtain ⟨q0,q1⟩:=BE.cells2;obtain ⟨r0,r1,r2,r3,r4,r5,r6⟩:=BQ.cells7;have hrl:=BQ.lt;have hel:=BE.lt;have hll:=BL.out.lt;have hhl:=BH.out.lt;have gr1:¬gr=gk:=q;have gr2:¬gk=gr:=q;have gr3:¬gr=gk+1:=q;have gr4:¬gk+1=gr:=q;have gr5:¬gr=gk+1+1:=q;have gr6:¬gk+1+1=gr:=q;have M:=M1;replace BE:=y BE;clear MX m2 GT M1;replace BQ:=y BQ;obtain ⟨e0,e1⟩:=BL.out.cells2;obtain ⟨e2,e3⟩:=BH.out.cells2;obtain ⟨f0,f1,-⟩:=BL.out.frozs;obtain ⟨f2,f3,-⟩:=BH.out.frozs;go_wp2_with fail;generalize w2.alloc (u #[z x qf,z x qt,z x qb,z x qlt,z v qla,z x qht,z v qha] 139)=w3 at *
   go_region
   replace BL:=y BL.out.drew;replace BH:=y BH.out.drew;replace M:=y (M.out.drew);have MS1:=YD (t [gk+1] w3.drew) (gk+1) ⟨qlt,qla⟩ (fun _=>j);have BX:=YC BL.out ⟨qlt,qla⟩;have BY:=YC (BH.out.mod MS1 (j)) ⟨qht,qha⟩;have MS2:=YD (t [gk+1+1] (YM w3.drew (gk+1) ⟨qlt,qla⟩)) (gk+1+1) ⟨qht,qha⟩ (fun _=>j);replace BX:=BX.mod MS2 (j);have MS:=y ((MS1.mono (S':=[gk+1,gk+1+1]) (zv)).trans MS2 (zv));change Exit.then _ _ _ _ (YM (YM w3.drew (gk+1) ⟨qlt,qla⟩) (gk+1+1) ⟨qht,qha⟩);generalize YM (YM w3.drew (gk+1) ⟨qlt,qla⟩) (gk+1+1) ⟨qht,qha⟩=X at *;obtain ⟨g0,g1⟩:=BX.cells2;obtain ⟨g2,g3⟩:=BY.cells2;clear e0 e1 e2 e3 f0 f1 f2 f3 BX BY MS1 MS2;simp only at g0 g1 g2 g3;go_wp2_with fail;exact Zo
open Go.RowKit
theorem Zk {p:Prop} (h:p:=by
 obtain ⟨g0,g1⟩:=BX.cells2;obtain ⟨g2,g3⟩:=BY.cells2;clear e0 e1 e2 e3 f0 f1 f2 f3 BX BY MS1 MS2;simp only at g0 g1 g2 g3;go_wp2_with fail;refine f (by simp [Y,Tryz.results306,g0,g1,g2,g3,go_sem];try rfl) rfl ?_
 exact kZ):p:=h
theorem Ze {p:Prop} (h:p:=by
 replace BL:=y BL.out.drew;replace BH:=y BH.out.drew;replace M:=y (M.out.drew);have MS1:=YD (t [gk+1] w3.drew) (gk+1) ⟨et,ea⟩ (fun _=>j);have BX:=YC BL.out ⟨et,ea⟩;have BY:=YC (BH.out.mod MS1 (j)) ⟨et,ea⟩;have MS2:=YD (t [gk+1+1] (YM w3.drew (gk+1) ⟨et,ea⟩)) (gk+1+1) ⟨et,ea⟩ (fun _=>j);replace BX:=BX.mod MS2 (j);have MS:=y ((MS1.mono (S':=[gk+1,gk+1+1]) (zv)).trans MS2 (zv));change Exit.then _ _ _ _ (YM (YM w3.drew (gk+1) ⟨et,ea⟩) (gk+1+1) ⟨et,ea⟩);generalize YM (YM w3.drew (gk+1) ⟨et,ea⟩) (gk+1+1) ⟨et,ea⟩=X at *
 exact Zk):p:=h
theorem Zm {p:Prop} (h:p:=by
 rw [hv.out]
 exact ⟨rfl,F3,S5.out,M5.out,fun k hk=>(hF3'.out k hk).imp (fun h=>h) (fun h=>q)⟩):p:=h
theorem zM3 {w:S} {b n:Nat} {L:List Rc} {room:Nat} {F:List Nat} (h:IsSt w b n L room F) (hL:L.length≤100000) (hroom:L.length < room) (hrm:room≤1048576) (hn:n≤16) (hG:Good L n) (l:Nat) (hl:l < n) (e:Ed)
 (he:LeadsP L 3 e l n):
 T Tryz.prog 306 #[V (Q ⟨b,0,i⟩),edv e,z R l] w fun r w'=>r=.returned (U #[edv (YG L 3 l e).2.1,edv (YG L 3 l e).2.2,z x 0])∧∃F',IsSt w' b n (YG L 3 l e).1 room F'∧d F w w'∧∀k∈F',k∈F∨w.heap.size≤k:=by
 have LE:c (∀W,d [] w W→_):=fun W m=>YI (h.mod m (j)) (q) hn 3 (q) (q) e l (q) he
 have hbF:=h.lt;obtain ⟨ba,bi,Fa,c0,-,-,-⟩:=h.own;have hbl:=g w _ c0;simp only at hbl;have HS:=y h;have hl':(l:Int) < n:=q;clear h;obtain ⟨gk,hgk⟩:∃gk,w.heap.size=gk:=⟨_,rfl⟩;have HLT:c (∀k∈F,k < gk):=fun k hk=>zH
 have HE:=y he;have HG:=y hG;clear hbF he hG;obtain ⟨et,ea⟩:=e;unfold edv at *;simp only at LE ⊢;have gn1:¬b=gk:=q;have gn2:¬gk=b:=q;have gn3:¬b=gk+1:=q;have gn4:¬gk+1=b:=q;have gn5:¬b=gk+1+1:=q;have gn6:¬gk+1+1=b:=q;go_in;go_wp2_with fail;have BE:=s w #[z x et,z v ea] 44 gk hgk.symm;have BL:=s (w.alloc (u #[z x et,z v ea] 44)) #[z x 0,z v 0] 44 (gk+1) (zk);have BH:=s ((w.alloc (u #[z x et,z v ea] 44)).alloc (u #[z x 0,z v 0] 44)) #[z x 0,z v 0] 44 (gk+1+1) (zk);replace BE:=(BE.alloc (u #[z x 0,z v 0] 44)).alloc (u #[z x 0,z v 0] 44);replace BL:=BL.alloc (u #[z x 0,z v 0] 44);have M0:c (d [] w (((w.alloc (u #[z x et,z v ea] 44)).alloc (u #[z x 0,z v 0] 44)).alloc (u #[z x 0,z v 0] 44))):=zg;have hsz:(((w.alloc (u #[z x et,z v ea] 44)).alloc (u #[z x 0,z v 0] 44)).alloc (u #[z x 0,z v 0] 44)).heap.size=gk+3:=zk;have c0:=(M0.out.cell (a:=⟨b,0,i⟩) hbl (j)).trans c0;generalize ((w.alloc (u #[z x et,z v ea] 44)).alloc (u #[z x 0,z v 0] 44)).alloc (u #[z x 0,z v 0] 44)=w0 at *;have hb0:b < w0.heap.size:=q;have hk0:gk < w0.heap.size:=q;have hk1:gk+1 < w0.heap.size:=q;have hk2:gk+1+1 < w0.heap.size:=q;obtain ⟨q0,q1⟩:=BE.cells2;replace BE:=y BE;replace BL:=y BL;replace BH:=y BH;refine (YH b n _ c0).mono ?_;rintro e w1 ⟨rfl,rfl⟩;go_wp2_with fail;refine (LE.out _ M0.out).mono ?_;rintro e' wa ⟨rfl,m_wa⟩;have M_wa:=Z (show d _ w1 _ from zg) m_wa;have c0:=(M_wa.cell (a:=⟨b,0,i⟩) hb0 (zh)).trans c0;have q0:=(M_wa.cell (a:=⟨gk,0,i⟩) hk0 (zh)).trans q0;have q1:=(M_wa.cell (a:=⟨gk,1,i⟩) hk0 (zh)).trans q1;have hb0:=o hb0 M_wa.size;have hk0:=o hk0 M_wa.size;have M1:=y (M0.out.trans' M_wa);replace BE:=y (BE.out.mod M_wa (j));replace BL:=y (BL.out.mod M_wa (j));replace BH:=y (BH.out.mod M_wa (j));have hza:=M_wa.size;clear m_wa M_wa M0 LE;have hl16:(l:Int)≤16:=q;have hF1:gk+1∉F:=fun h=>zw
 have hF2:gk+1+1∉F:=fun h=>zw
 have het:(et:Int)≤16:=by
  have hp:=HE.out.plain;by_cases h:ea=0
  ·have:=hp.1 (.inr h);simp only at this;omega
  ·by_cases h5:3=5
   ·have:=hp.2 h5 h;simp only at this;omega
   ·have:=hp.1 (.inl h5);simp only at this;omega
 have hea:ea≤4294967295:=by
  exact Zj
 cases hr:YO L ea with
 | none=>
  have hv:=y (show YG L 3 l ⟨et,ea⟩=(L,(⟨et,ea⟩,⟨et,ea⟩)) from qg);have GT:c (∀W,d [] w W→_):=fun W m=>Xa (HS.out.mod m (j)) (q) ea hea hr
  unfold rcv rc0 at GT;simp only at GT
  try rw [show ((0:Nat):Int)=0 from rfl] at GT
  go_wp2_with fail;refine (GT.out _ M1.out).mono ?_;rintro e w2 ⟨rfl,m2⟩;obtain ⟨gr,hgr⟩:∃gr,w2.heap.size=gr:=⟨_,rfl⟩;have BQ:=s w2 #[z x 0,z x 0,z x 0,z x 0,z v 0,z x 0,z v 0] 139 gr hgr.symm;have MX:=m2.alloc (u #[z x 0,z x 0,z x 0,z x 0,z v 0,z x 0,z v 0] 139);have hzx:=m2.size;replace M1:=y (M1.out.trans' MX);replace BE:=BE.out.mod MX (j);replace BL:=y (BL.out.mod MX (j));replace BH:=y (BH.out.mod MX (j));obtain ⟨q0,q1⟩:=BE.cells2;obtain ⟨r0,r1,r2,r3,r4,r5,r6⟩:=BQ.cells7;have hrl:=BQ.lt;have hel:=BE.lt;have hll:=BL.out.lt;have hhl:=BH.out.lt;have gr1:¬gr=gk:=q;have gr2:¬gk=gr:=q;have gr3:¬gr=gk+1:=q;have gr4:¬gk+1=gr:=q;have gr5:¬gr=gk+1+1:=q;have gr6:¬gk+1+1=gr:=q;have M:=M1;replace BE:=y BE;clear MX m2 GT M1;replace BQ:=y BQ;obtain ⟨e0,e1⟩:=BL.out.cells2;obtain ⟨e2,e3⟩:=BH.out.cells2;obtain ⟨f0,f1,-⟩:=BL.out.frozs;obtain ⟨f2,f3,-⟩:=BH.out.frozs;go_wp2_with fail;generalize w2.alloc (u #[z x 0,z x 0,z x 0,z x 0,z v 0,z x 0,z v 0] 139)=w3 at *
  go_region
  exact Ze
 | some r=>
  have GT:c (∀W,d [] w W→_):=fun W m=>Y7 (HS.out.mod m (j)) (q) ea r hr
  have hg:=HG.out ea r hr;obtain ⟨hrf,hrl,htg,h16⟩:=HE.out.node hr;have h16':(r.top:Int)≤16:=q;have hb15:(r.bot:Int)≤16:=xz
  have hq1:(r.lo.t:Int)≤255:=by
   exact Zh
  have hq2:(r.hi.t:Int)≤255:=by
   exact Zi
  by_cases hlt:l < r.top
  ·have hv:=y (show YG L 3 l ⟨et,ea⟩=(L,(⟨et,ea⟩,⟨et,ea⟩)) from qh);have hlt1:decide ((l:Int) < r.top)=true:=zj;clear hg hr;obtain ⟨qf,qt,qb,⟨qlt,qla⟩,⟨qht,qha⟩⟩:=r;unfold rcv at GT;clear hrf hrl htg h16;simp only at GT h16' hb15 hq1 hq2 hlt hlt1 hv;go_wp2_with fail;refine (GT.out _ M1.out).mono ?_;rintro e w2 ⟨rfl,m2⟩;obtain ⟨gr,hgr⟩:∃gr,w2.heap.size=gr:=⟨_,rfl⟩;have BQ:=s w2 #[z x qf,z x qt,z x qb,z x qlt,z v qla,z x qht,z v qha] 139 gr hgr.symm;have MX:=m2.alloc (u #[z x qf,z x qt,z x qb,z x qlt,z v qla,z x qht,z v qha] 139);have hzx:=m2.size;replace M1:=y (M1.out.trans' MX);replace BE:=BE.out.mod MX (j);replace BL:=y (BL.out.mod MX (j));replace BH:=y (BH.out.mod MX (j));obtain ⟨q0,q1⟩:=BE.cells2;obtain ⟨r0,r1,r2,r3,r4,r5,r6⟩:=BQ.cells7;have hrl:=BQ.lt;have hel:=BE.lt;have hll:=BL.out.lt;have hhl:=BH.out.lt;have gr1:¬gr=gk:=q;have gr2:¬gk=gr:=q;have gr3:¬gr=gk+1:=q;have gr4:¬gk+1=gr:=q;have gr5:¬gr=gk+1+1:=q;have gr6:¬gk+1+1=gr:=q;have M:=M1;replace BE:=y BE;clear MX m2 GT M1;replace BQ:=y BQ;obtain ⟨e0,e1⟩:=BL.out.cells2;obtain ⟨e2,e3⟩:=BH.out.cells2;obtain ⟨f0,f1,-⟩:=BL.out.frozs;obtain ⟨f2,f3,-⟩:=BH.out.frozs;go_wp2_with fail;generalize w2.alloc (u #[z x qf,z x qt,z x qb,z x qlt,z v qla,z x qht,z v qha] 139)=w3 at *
   go_region
   exact Ze
  ·have hlt1:decide ((l:Int) < r.top)=false:=zj;by_cases htb:r.top=r.bot
   ·have hv:=y (show YG L 3 l ⟨et,ea⟩=(L,(r.lo,r.hi)) from qi);have heq:((r.bot:Int)==r.top)=true:=zj;clear hg hr;obtain ⟨qf,qt,qb,⟨qlt,qla⟩,⟨qht,qha⟩⟩:=r;unfold rcv at GT;clear hrf hrl htg h16 htb;simp only at GT h16' hb15 hq1 hq2 hlt hlt1 heq hv;go_wp2_with fail;refine (GT.out _ M1.out).mono ?_;rintro e w2 ⟨rfl,m2⟩;obtain ⟨gr,hgr⟩:∃gr,w2.heap.size=gr:=⟨_,rfl⟩;have BQ:=s w2 #[z x qf,z x qt,z x qb,z x qlt,z v qla,z x qht,z v qha] 139 gr hgr.symm;have MX:=m2.alloc (u #[z x qf,z x qt,z x qb,z x qlt,z v qla,z x qht,z v qha] 139);have hzx:=m2.size;replace M1:=y (M1.out.trans' MX);replace BE:=BE.out.mod MX (j);replace BL:=y (BL.out.mod MX (j));replace BH:=y (BH.out.mod MX (j));obtain ⟨q0,q1⟩:=BE.cells2;obtain ⟨r0,r1,r2,r3,r4,r5,r6⟩:=BQ.cells7;have hrl:=BQ.lt;have hel:=BE.lt;have hll:=BL.out.lt;have hhl:=BH.out.lt;have gr1:¬gr=gk:=q;have gr2:¬gk=gr:=q;have gr3:¬gr=gk+1:=q;have gr4:¬gk+1=gr:=q;have gr5:¬gr=gk+1+1:=q;have gr6:¬gk+1+1=gr:=q;have M:=M1;replace BE:=y BE;clear MX m2 GT M1;replace BQ:=y BQ;obtain ⟨e0,e1⟩:=BL.out.cells2;obtain ⟨e2,e3⟩:=BH.out.cells2;obtain ⟨f0,f1,-⟩:=BL.out.frozs;obtain ⟨f2,f3,-⟩:=BH.out.frozs;go_wp2_with fail;generalize w2.alloc (u #[z x qf,z x qt,z x qb,z x qlt,z v qla,z x qht,z v qha] 139)=w3 at *
    go_region
    replace BL:=y BL.out.drew;replace BH:=y BH.out.drew;replace M:=y (M.out.drew);have MS1:=YD (t [gk+1] w3.drew) (gk+1) ⟨qlt,qla⟩ (fun _=>j);have BX:=YC BL.out ⟨qlt,qla⟩;have BY:=YC (BH.out.mod MS1 (j)) ⟨qht,qha⟩;have MS2:=YD (t [gk+1+1] (YM w3.drew (gk+1) ⟨qlt,qla⟩)) (gk+1+1) ⟨qht,qha⟩ (fun _=>j);replace BX:=BX.mod MS2 (j);have MS:=y ((MS1.mono (S':=[gk+1,gk+1+1]) (zv)).trans MS2 (zv));change Exit.then _ _ _ _ (YM (YM w3.drew (gk+1) ⟨qlt,qla⟩) (gk+1+1) ⟨qht,qha⟩);generalize YM (YM w3.drew (gk+1) ⟨qlt,qla⟩) (gk+1+1) ⟨qht,qha⟩=X at *;exact Zk
   ·have heq:((r.bot:Int)==r.top)=false:=zo;have hge2:=hg.right.tb;have gr:GoodR L n { r with top:=r.top+1 }:=⟨⟨hg.right.f1,hg.right.f5,zZ,hg.right.bn,hg.right.n16,.inr (zZ),hg.right.lo,hg.right.hi,hg.right.z,hg.right.b⟩,hg.lo,hg.hi⟩;have FN:c (∀W,d [] w W→_):=fun W m=>XJ (HS.out.mod m (j)) hL hroom hrm hn { r with top:=r.top+1 } gr.right gr.lo gr.hi
    have hv:=y (show YG L 3 l ⟨et,ea⟩=((fnd L { r with top:=r.top+1 }).1,(⟨0,(fnd L { r with top:=r.top+1 }).2⟩,r.hi)) from jZ);clear gr hge2 hg hr;obtain ⟨qf,qt,qb,⟨qlt,qla⟩,⟨qht,qha⟩⟩:=r;unfold rcv at GT FN;clear hrf hrl htg h16 htb;simp only at GT FN h16' hb15 hq1 hq2 hlt hlt1 heq hv;generalize (fnd L ⟨qf,qt+1,qb,⟨qlt,qla⟩,⟨qht,qha⟩⟩).2=id at *;generalize (fnd L ⟨qf,qt+1,qb,⟨qlt,qla⟩,⟨qht,qha⟩⟩).1=L2 at *;unfold edv at FN;simp only at FN;rw [show ((qt+1:Nat):Int)=(qt:Int)+1 from rfl] at FN;go_wp2_with fail;refine (GT.out _ M1.out).mono ?_;rintro e w2 ⟨rfl,m2⟩;obtain ⟨gr,hgr⟩:∃gr,w2.heap.size=gr:=⟨_,rfl⟩;have BQ:=s w2 #[z x qf,z x qt,z x qb,z x qlt,z v qla,z x qht,z v qha] 139 gr hgr.symm;have MX:=m2.alloc (u #[z x qf,z x qt,z x qb,z x qlt,z v qla,z x qht,z v qha] 139);have hzx:=m2.size;replace M1:=y (M1.out.trans' MX);replace BE:=BE.out.mod MX (j);replace BL:=y (BL.out.mod MX (j));replace BH:=y (BH.out.mod MX (j));obtain ⟨q0,q1⟩:=BE.cells2;obtain ⟨r0,r1,r2,r3,r4,r5,r6⟩:=BQ.cells7;have hrl:=BQ.lt;have hel:=BE.lt;have hll:=BL.out.lt;have hhl:=BH.out.lt;have gr1:¬gr=gk:=q;have gr2:¬gk=gr:=q;have gr3:¬gr=gk+1:=q;have gr4:¬gk+1=gr:=q;have gr5:¬gr=gk+1+1:=q;have gr6:¬gk+1+1=gr:=q;have M:=M1;replace BE:=y BE;clear MX m2 GT M1;obtain ⟨j0,j1,-⟩:=BQ.frozs;obtain ⟨f2,f3,-⟩:=BH.out.frozs;obtain ⟨e2,e3⟩:=BH.out.cells2;go_wp2_with fail;generalize w2.alloc (u #[z x qf,z x qt,z x qb,z x qlt,z v qla,z x qht,z v qha] 139)=w3 at *;replace BQ:=y BQ;have MSa:=YD (t [gk+1+1] w3) (gk+1+1) ⟨qht,qha⟩ (fun _=>j);have BHB:=YC BH.out ⟨qht,qha⟩;have BLB:=BL.out.mod MSa (j);have MB:=M.out.trans MSa (zI);clear MSa;have MA:=y (MB.trans ((t [gr] (YM w3 (gk+1+1) ⟨qht,qha⟩)).setCell ⟨gr,1,i⟩ (z x ((qt:Int)+1)) (fun _=>j)) (zI));replace BL:=y (BLB.other ⟨gr,1,i⟩ (z x ((qt:Int)+1)) (by simpa using gr4));replace BH:=y (BHB.other ⟨gr,1,i⟩ (z x ((qt:Int)+1)) (by simpa using gr6));clear MB BLB BHB;show T _ _ _ ((YM w3 (gk+1+1) ⟨qht,qha⟩).setCell ⟨gr,1,i⟩ (z x ((qt:Int)+1))) _;generalize (YM w3 (gk+1+1) ⟨qht,qha⟩).setCell ⟨gr,1,i⟩ (z x ((qt:Int)+1))=w4 at *;have hz4:=MA.out.size;refine (FN.out _ MA.out).mono ?_;rintro e w5 ⟨rfl,F3,s3,m3,f3'⟩;have hF3':=y f3';have hF31:gk+1∉F3:=fun h=>(f3' _ h).elim hF1 (fun h=>by have:=BL.out.lt;omega)
    have hF32:gk+1+1∉F3:=fun h=>(f3' _ h).elim hF2 (fun h=>by have:=BH.out.lt;omega)
    replace BL:=y (BL.out.mod m3 hF1);replace BH:=y (BH.out.mod m3 hF2);have M5:=y ((MA.out.mono (S':=F) (zq)).trans m3 (zD));have S5:=y s3;clear s3 m3 f3' FN MA q0 q1 r0 r1 r2 r3 r4 r5 r6 j0 j1 f2 f3 e2 e3;obtain ⟨e0,e1⟩:=BL.out.cells2;obtain ⟨e2,e3⟩:=BH.out.cells2;obtain ⟨f0,f1,-⟩:=BL.out.frozs;obtain ⟨f2,f3,-⟩:=BH.out.frozs;go_wp2_with fail;have MSx:d [gk+1] w5 ((w5.setCell ⟨gk+1,0,i⟩ (z x 0)).setCell ⟨gk+1,1,i⟩ (z v id)):=YD (t [gk+1] w5) (gk+1) ⟨0,id⟩ (fun _=>j);have BLx:Blk ((w5.setCell ⟨gk+1,0,i⟩ (z x 0)).setCell ⟨gk+1,1,i⟩ (z v id)) (gk+1) #[z x 0,z v id] _:=YC BL.out ⟨0,id⟩;replace BL:=y BLx;replace BH:=y (BH.out.mod MSx (j));replace S5:=y (S5.out.mod MSx (j9));replace M5:=y (M5.out.trans MSx (zI));clear e0 e1 e2 e3 f0 f1 f2 f3 BLx MSx;generalize (w5.setCell ⟨gk+1,0,i⟩ (z x 0)).setCell ⟨gk+1,1,i⟩ (z v id)=w6 at *;obtain ⟨e0,e1⟩:=BL.out.cells2;obtain ⟨e2,e3⟩:=BH.out.cells2;obtain ⟨f0,f1,-⟩:=BL.out.frozs;obtain ⟨f2,f3,-⟩:=BH.out.frozs
    go_region
    replace BL:=y BL.out.drew;replace BH:=y BH.out.drew;have MS1:=YD (t [gk+1] w6.drew) (gk+1) ⟨0,id⟩ (fun _=>j);have BX:=YC BL.out ⟨0,id⟩;have BY:=YC (BH.out.mod MS1 (j)) ⟨qht,qha⟩;have MS2:=YD (t [gk+1+1] (YM w6.drew (gk+1) ⟨0,id⟩)) (gk+1+1) ⟨qht,qha⟩ (fun _=>j);replace BX:=BX.mod MS2 (j);have MS:=y ((MS1.mono (S':=[gk+1,gk+1+1]) (zv)).trans MS2 (zv));change Exit.then _ _ _ _ (YM (YM w6.drew (gk+1) ⟨0,id⟩) (gk+1+1) ⟨qht,qha⟩);replace M5:=y (M5.out.drew.trans MS.out (zI));have hS6:∀k∈F3,k∉[gk+1,gk+1+1]:=fun k hk h=>vh
    have m6d:d [] w6 w6.drew:=(t _ _).drew;replace S5:=y ((S5.out.mod m6d (j)).mod MS.out hS6);clear hS6 m6d MS;generalize YM (YM w6.drew (gk+1) ⟨0,id⟩) (gk+1+1) ⟨qht,qha⟩=X at *;obtain ⟨g0,g1⟩:=BX.cells2;obtain ⟨g2,g3⟩:=BY.cells2;clear e0 e1 e2 e3 f0 f1 f2 f3 BX BY MS1 MS2;simp only at g0 g1 g2 g3;go_wp2_with fail;refine f (by simp [Y,Tryz.results306,g0,g1,g2,g3,go_sem];try rfl) rfl ?_;exact Zm
open Go.RowKit
theorem Zn {p:Prop} (h:p:=by
 refine f (by simp [Y,Tryz.results307,g0,g1,g2,g3,go_sem];try rfl) rfl ?_
 exact kZ):p:=h
theorem Zg {p:Prop} (h:p:=by
 have MS1:=YD (t [gk+1] w3) (gk+1) ⟨et,ea⟩ (fun _=>j);have BX:=YC BL.out ⟨et,ea⟩;have BY:=YC (BH.out.mod MS1 (j)) ⟨0,0⟩;have MS2:=YD (t [gk+1+1] (YM w3 (gk+1) ⟨et,ea⟩)) (gk+1+1) ⟨0,0⟩ (fun _=>j);replace BX:=BX.mod MS2 (j);have MS:=y ((MS1.mono (S':=[gk+1,gk+1+1]) (zv)).trans MS2 (zv));change bodyPost _ _ _ _ _ (YM (YM w3 (gk+1) ⟨et,ea⟩) (gk+1+1) ⟨0,0⟩);generalize YM (YM w3 (gk+1) ⟨et,ea⟩) (gk+1+1) ⟨0,0⟩=X at *;obtain ⟨g0,g1⟩:=BX.cells2;obtain ⟨g2,g3⟩:=BY.cells2;clear e0 e1 e2 e3 f0 f1 f2 f3 BX BY MS1 MS2;simp only at g0 g1 g2 g3
 exact Zn):p:=h
theorem zH6 {w:S} {b n:Nat} {L:List Rc} {room:Nat} {F:List Nat} (h:IsSt w b n L room F) (hL:L.length≤100000) (hroom:L.length < room) (hrm:room≤1048576) (hn:n≤16) (hG:Good L n) (l:Nat) (hl:l < n) (e:Ed)
 (he:LeadsP L 4 e l n):
 T Tryz.prog 307 #[V (Q ⟨b,0,i⟩),edv e,z R l] w fun r w'=>r=.returned (U #[edv (YG L 4 l e).2.1,edv (YG L 4 l e).2.2,z x 0])∧∃F',IsSt w' b n (YG L 4 l e).1 room F'∧d F w w'∧∀k∈F',k∈F∨w.heap.size≤k:=by
 have LE:c (∀W,d [] w W→_):=fun W m=>YI (h.mod m (j)) (q) hn 4 (q) (q) e l (q) he
 have hbF:=h.lt;obtain ⟨ba,bi,Fa,c0,-,-,-⟩:=h.own;have hbl:=g w _ c0;simp only at hbl;have HS:=y h;have hl':(l:Int) < n:=q;clear h;obtain ⟨gk,hgk⟩:∃gk,w.heap.size=gk:=⟨_,rfl⟩;have HLT:c (∀k∈F,k < gk):=fun k hk=>zH
 have HE:=y he;have HG:=y hG;clear hbF he hG;obtain ⟨et,ea⟩:=e;unfold edv at *;simp only at LE ⊢;have gn1:¬b=gk:=q;have gn2:¬gk=b:=q;have gn3:¬b=gk+1:=q;have gn4:¬gk+1=b:=q;have gn5:¬b=gk+1+1:=q;have gn6:¬gk+1+1=b:=q;go_in;go_wp2_with fail;have BE:=s w #[z x et,z v ea] 44 gk hgk.symm;have BL:=s (w.alloc (u #[z x et,z v ea] 44)) #[z x 0,z v 0] 44 (gk+1) (zk);have BH:=s ((w.alloc (u #[z x et,z v ea] 44)).alloc (u #[z x 0,z v 0] 44)) #[z x 0,z v 0] 44 (gk+1+1) (zk);replace BE:=(BE.alloc (u #[z x 0,z v 0] 44)).alloc (u #[z x 0,z v 0] 44);replace BL:=BL.alloc (u #[z x 0,z v 0] 44);have M0:c (d [] w (((w.alloc (u #[z x et,z v ea] 44)).alloc (u #[z x 0,z v 0] 44)).alloc (u #[z x 0,z v 0] 44))):=zg;have hsz:(((w.alloc (u #[z x et,z v ea] 44)).alloc (u #[z x 0,z v 0] 44)).alloc (u #[z x 0,z v 0] 44)).heap.size=gk+3:=zk;have c0:=(M0.out.cell (a:=⟨b,0,i⟩) hbl (j)).trans c0;generalize ((w.alloc (u #[z x et,z v ea] 44)).alloc (u #[z x 0,z v 0] 44)).alloc (u #[z x 0,z v 0] 44)=w0 at *;have hb0:b < w0.heap.size:=q;have hk0:gk < w0.heap.size:=q;have hk1:gk+1 < w0.heap.size:=q;have hk2:gk+1+1 < w0.heap.size:=q;obtain ⟨q0,q1⟩:=BE.cells2;replace BE:=y BE;replace BL:=y BL;replace BH:=y BH;refine (YH b n _ c0).mono ?_;rintro e w1 ⟨rfl,rfl⟩;go_wp2_with fail;refine (LE.out _ M0.out).mono ?_;rintro e' wa ⟨rfl,m_wa⟩;have M_wa:=Z (show d _ w1 _ from zg) m_wa;have c0:=(M_wa.cell (a:=⟨b,0,i⟩) hb0 (zh)).trans c0;have q0:=(M_wa.cell (a:=⟨gk,0,i⟩) hk0 (zh)).trans q0;have q1:=(M_wa.cell (a:=⟨gk,1,i⟩) hk0 (zh)).trans q1;have hb0:=o hb0 M_wa.size;have hk0:=o hk0 M_wa.size;have M1:=y (M0.out.trans' M_wa);replace BE:=y (BE.out.mod M_wa (j));replace BL:=y (BL.out.mod M_wa (j));replace BH:=y (BH.out.mod M_wa (j));have hza:=M_wa.size;clear m_wa M_wa M0 LE;have hl16:(l:Int)≤16:=q;have hF1:gk+1∉F:=fun h=>zw
 have hF2:gk+1+1∉F:=fun h=>zw
 have het:(et:Int)≤16:=by
  have hp:=HE.out.plain;by_cases h:ea=0
  ·have:=hp.1 (.inr h);simp only at this;omega
  ·by_cases h5:4=5
   ·have:=hp.2 h5 h;simp only at this;omega
   ·have:=hp.1 (.inl h5);simp only at this;omega
 have hea:ea≤4294967295:=by
  exact Zj
 cases hr:YO L ea with
 | none=>
  have hv:=y (show YG L 4 l ⟨et,ea⟩=(L,(⟨et,ea⟩,⟨0,0⟩)) from qg);have GT:c (∀W,d [] w W→_):=fun W m=>Xa (HS.out.mod m (j)) (q) ea hea hr
  unfold rcv rc0 at GT;simp only at GT
  try rw [show ((0:Nat):Int)=0 from rfl] at GT
  go_wp2_with fail;refine (GT.out _ M1.out).mono ?_;rintro e w2 ⟨rfl,m2⟩;obtain ⟨gr,hgr⟩:∃gr,w2.heap.size=gr:=⟨_,rfl⟩;have BQ:=s w2 #[z x 0,z x 0,z x 0,z x 0,z v 0,z x 0,z v 0] 139 gr hgr.symm;have MX:=m2.alloc (u #[z x 0,z x 0,z x 0,z x 0,z v 0,z x 0,z v 0] 139);have hzx:=m2.size;replace M1:=y (M1.out.trans' MX);replace BE:=BE.out.mod MX (j);replace BL:=y (BL.out.mod MX (j));replace BH:=y (BH.out.mod MX (j));obtain ⟨q0,q1⟩:=BE.cells2;obtain ⟨r0,r1,r2,r3,r4,r5,r6⟩:=BQ.cells7;have hrl:=BQ.lt;have hel:=BE.lt;have hll:=BL.out.lt;have hhl:=BH.out.lt;have gr1:¬gr=gk:=q;have gr2:¬gk=gr:=q;have gr3:¬gr=gk+1:=q;have gr4:¬gk+1=gr:=q;have gr5:¬gr=gk+1+1:=q;have gr6:¬gk+1+1=gr:=q;have M:=M1;replace BE:=y BE;clear MX m2 GT M1;replace BQ:=y BQ;obtain ⟨e0,e1⟩:=BL.out.cells2;obtain ⟨e2,e3⟩:=BH.out.cells2;obtain ⟨f0,f1,-⟩:=BL.out.frozs;obtain ⟨f2,f3,-⟩:=BH.out.frozs;go_wp2_with fail;generalize w2.alloc (u #[z x 0,z x 0,z x 0,z x 0,z v 0,z x 0,z v 0] 139)=w3 at *;exact Zg
 | some r=>
  have GT:c (∀W,d [] w W→_):=fun W m=>Y7 (HS.out.mod m (j)) (q) ea r hr
  have hg:=HG.out ea r hr;obtain ⟨hrf,hrl,htg,h16⟩:=HE.out.node hr;have h16':(r.top:Int)≤16:=q;have hb15:(r.bot:Int)≤16:=xz
  have hq1:(r.lo.t:Int)≤255:=by
   exact Zh
  have hq2:(r.hi.t:Int)≤255:=by
   exact Zi
  by_cases hlt:l < r.top
  ·have hv:=y (show YG L 4 l ⟨et,ea⟩=(L,(⟨et,ea⟩,⟨0,0⟩)) from qh);have hlt1:decide ((l:Int) < r.top)=true:=zj;clear hg hr;obtain ⟨qf,qt,qb,⟨qlt,qla⟩,⟨qht,qha⟩⟩:=r;unfold rcv at GT;clear hrf hrl htg h16;simp only at GT h16' hb15 hq1 hq2 hlt hlt1 hv;go_wp2_with fail;refine (GT.out _ M1.out).mono ?_;rintro e w2 ⟨rfl,m2⟩;obtain ⟨gr,hgr⟩:∃gr,w2.heap.size=gr:=⟨_,rfl⟩;have BQ:=s w2 #[z x qf,z x qt,z x qb,z x qlt,z v qla,z x qht,z v qha] 139 gr hgr.symm;have MX:=m2.alloc (u #[z x qf,z x qt,z x qb,z x qlt,z v qla,z x qht,z v qha] 139);have hzx:=m2.size;replace M1:=y (M1.out.trans' MX);replace BE:=BE.out.mod MX (j);replace BL:=y (BL.out.mod MX (j));replace BH:=y (BH.out.mod MX (j));obtain ⟨q0,q1⟩:=BE.cells2;obtain ⟨r0,r1,r2,r3,r4,r5,r6⟩:=BQ.cells7;have hrl:=BQ.lt;have hel:=BE.lt;have hll:=BL.out.lt;have hhl:=BH.out.lt;have gr1:¬gr=gk:=q;have gr2:¬gk=gr:=q;have gr3:¬gr=gk+1:=q;have gr4:¬gk+1=gr:=q;have gr5:¬gr=gk+1+1:=q;have gr6:¬gk+1+1=gr:=q;have M:=M1;replace BE:=y BE;clear MX m2 GT M1;replace BQ:=y BQ;obtain ⟨e0,e1⟩:=BL.out.cells2;obtain ⟨e2,e3⟩:=BH.out.cells2;obtain ⟨f0,f1,-⟩:=BL.out.frozs;obtain ⟨f2,f3,-⟩:=BH.out.frozs;go_wp2_with fail;generalize w2.alloc (u #[z x qf,z x qt,z x qb,z x qlt,z v qla,z x qht,z v qha] 139)=w3 at *;exact Zg
  ·have hlt1:decide ((l:Int) < r.top)=false:=zj;by_cases htb:r.top=r.bot
   ·have hv:=y (show YG L 4 l ⟨et,ea⟩=(L,(r.lo,r.hi)) from qi);have heq:((r.bot:Int)==r.top)=true:=zj;clear hg hr;obtain ⟨qf,qt,qb,⟨qlt,qla⟩,⟨qht,qha⟩⟩:=r;unfold rcv at GT;clear hrf hrl htg h16 htb;simp only at GT h16' hb15 hq1 hq2 hlt hlt1 heq hv;go_wp2_with fail;refine (GT.out _ M1.out).mono ?_;rintro e w2 ⟨rfl,m2⟩;obtain ⟨gr,hgr⟩:∃gr,w2.heap.size=gr:=⟨_,rfl⟩;have BQ:=s w2 #[z x qf,z x qt,z x qb,z x qlt,z v qla,z x qht,z v qha] 139 gr hgr.symm;have MX:=m2.alloc (u #[z x qf,z x qt,z x qb,z x qlt,z v qla,z x qht,z v qha] 139);have hzx:=m2.size;replace M1:=y (M1.out.trans' MX);replace BE:=BE.out.mod MX (j);replace BL:=y (BL.out.mod MX (j));replace BH:=y (BH.out.mod MX (j));obtain ⟨q0,q1⟩:=BE.cells2;obtain ⟨r0,r1,r2,r3,r4,r5,r6⟩:=BQ.cells7;have hrl:=BQ.lt;have hel:=BE.lt;have hll:=BL.out.lt;have hhl:=BH.out.lt;have gr1:¬gr=gk:=q;have gr2:¬gk=gr:=q;have gr3:¬gr=gk+1:=q;have gr4:¬gk+1=gr:=q;have gr5:¬gr=gk+1+1:=q;have gr6:¬gk+1+1=gr:=q;have M:=M1;replace BE:=y BE;clear MX m2 GT M1;replace BQ:=y BQ;obtain ⟨e0,e1⟩:=BL.out.cells2;obtain ⟨e2,e3⟩:=BH.out.cells2;obtain ⟨f0,f1,-⟩:=BL.out.frozs;obtain ⟨f2,f3,-⟩:=BH.out.frozs;go_wp2_with fail;generalize w2.alloc (u #[z x qf,z x qt,z x qb,z x qlt,z v qla,z x qht,z v qha] 139)=w3 at *
    go_region
    replace BL:=y BL.out.drew;replace BH:=y BH.out.drew;replace M:=y (M.out.drew);have MS1:=YD (t [gk+1] w3.drew) (gk+1) ⟨qlt,qla⟩ (fun _=>j);have BX:=YC BL.out ⟨qlt,qla⟩;have BY:=YC (BH.out.mod MS1 (j)) ⟨qht,qha⟩;have MS2:=YD (t [gk+1+1] (YM w3.drew (gk+1) ⟨qlt,qla⟩)) (gk+1+1) ⟨qht,qha⟩ (fun _=>j);replace BX:=BX.mod MS2 (j);have MS:=y ((MS1.mono (S':=[gk+1,gk+1+1]) (zv)).trans MS2 (zv));change Exit.then _ _ _ _ (YM (YM w3.drew (gk+1) ⟨qlt,qla⟩) (gk+1+1) ⟨qht,qha⟩);generalize YM (YM w3.drew (gk+1) ⟨qlt,qla⟩) (gk+1+1) ⟨qht,qha⟩=X at *;obtain ⟨g0,g1⟩:=BX.cells2;obtain ⟨g2,g3⟩:=BY.cells2;clear e0 e1 e2 e3 f0 f1 f2 f3 BX BY MS1 MS2;simp only at g0 g1 g2 g3;go_wp2_with fail;exact Zn
   ·have heq:((r.bot:Int)==r.top)=false:=zo;have hge2:=hg.right.tb;have gr:GoodR L n { r with top:=r.top+1 }:=⟨⟨hg.right.f1,hg.right.f5,zZ,hg.right.bn,hg.right.n16,.inr (zZ),hg.right.lo,hg.right.hi,hg.right.z,hg.right.b⟩,hg.lo,hg.hi⟩;have FN:c (∀W,d [] w W→_):=fun W m=>X9 (HS.out.mod m (j)) hL hroom hrm hn { r with top:=r.top+1 } gr.right gr.lo gr.hi
    have hv:=y (show YG L 4 l ⟨et,ea⟩=((fnd L { r with top:=r.top+1 }).1,(⟨0,(fnd L { r with top:=r.top+1 }).2⟩,⟨0,(fnd L { r with top:=r.top+1 }).2⟩)) from jZ);clear gr hge2 hg hr;obtain ⟨qf,qt,qb,⟨qlt,qla⟩,⟨qht,qha⟩⟩:=r;unfold rcv at GT FN;clear hrf hrl htg h16 htb;simp only at GT FN h16' hb15 hq1 hq2 hlt hlt1 heq hv;generalize (fnd L ⟨qf,qt+1,qb,⟨qlt,qla⟩,⟨qht,qha⟩⟩).2=id at *;generalize (fnd L ⟨qf,qt+1,qb,⟨qlt,qla⟩,⟨qht,qha⟩⟩).1=L2 at *;unfold edv at FN;simp only at FN;rw [show ((qt+1:Nat):Int)=(qt:Int)+1 from rfl] at FN;go_wp2_with fail;refine (GT.out _ M1.out).mono ?_;rintro e w2 ⟨rfl,m2⟩;obtain ⟨gr,hgr⟩:∃gr,w2.heap.size=gr:=⟨_,rfl⟩;have BQ:=s w2 #[z x qf,z x qt,z x qb,z x qlt,z v qla,z x qht,z v qha] 139 gr hgr.symm;have MX:=m2.alloc (u #[z x qf,z x qt,z x qb,z x qlt,z v qla,z x qht,z v qha] 139);have hzx:=m2.size;have MXQ:=m2.alloc (u #[z x qf,z x ((qt:Int)+1),z x qb,z x qlt,z v qla,z x qht,z v qha] 139);have MAQ:=y (M1.out.trans' MXQ);have BLQ:=y (BL.out.mod MXQ (j));have BHQ:=y (BH.out.mod MXQ (j));clear MXQ;replace M1:=y (M1.out.trans' MX);replace BE:=BE.out.mod MX (j);replace BL:=y (BL.out.mod MX (j));replace BH:=y (BH.out.mod MX (j));obtain ⟨q0,q1⟩:=BE.cells2;obtain ⟨r0,r1,r2,r3,r4,r5,r6⟩:=BQ.cells7;have hrl:=BQ.lt;have hel:=BE.lt;have hll:=BL.out.lt;have hhl:=BH.out.lt;have gr1:¬gr=gk:=q;have gr2:¬gk=gr:=q;have gr3:¬gr=gk+1:=q;have gr4:¬gk+1=gr:=q;have gr5:¬gr=gk+1+1:=q;have gr6:¬gk+1+1=gr:=q;have M:=M1;replace BE:=y BE;clear MX m2 GT M1;obtain ⟨j0,j1,-⟩:=BQ.frozs;obtain ⟨f2,f3,-⟩:=BH.out.frozs;obtain ⟨e2,e3⟩:=BH.out.cells2;go_wp2_with fail;clear BQ r0 r1 r2 r3 r4 r5 r6 q0 q1 j0 j1 f2 f3 e2 e3 BL BH M BE hrl hel hll hhl;have MA:=MAQ;have BL:=BLQ;have BH:=BHQ;clear MAQ BLQ BHQ;generalize w2.alloc (u #[z x qf,z x ((qt:Int)+1),z x qb,z x qlt,z v qla,z x qht,z v qha] 139)=w4 at *;have hz4:=MA.out.size;refine (FN.out _ MA.out).mono ?_;rintro e w5 ⟨rfl,F3,s3,m3,f3'⟩;have hF3':=y f3';have hF31:gk+1∉F3:=fun h=>(f3' _ h).elim hF1 (fun h=>by have:=BL.out.lt;omega)
    have hF32:gk+1+1∉F3:=fun h=>(f3' _ h).elim hF2 (fun h=>by have:=BH.out.lt;omega)
    replace BL:=y (BL.out.mod m3 hF1);replace BH:=y (BH.out.mod m3 hF2);have M5:=y ((MA.out.mono (S':=F) (zq)).trans m3 (zD));have S5:=y s3;clear s3 m3 f3' FN MA;obtain ⟨e0,e1⟩:=BL.out.cells2;obtain ⟨e2,e3⟩:=BH.out.cells2;obtain ⟨f0,f1,-⟩:=BL.out.frozs;obtain ⟨f2,f3,-⟩:=BH.out.frozs;go_wp2_with fail;have MSx:d [gk+1] w5 ((w5.setCell ⟨gk+1,0,i⟩ (z x 0)).setCell ⟨gk+1,1,i⟩ (z v id)):=YD (t [gk+1] w5) (gk+1) ⟨0,id⟩ (fun _=>j);have BLx:Blk ((w5.setCell ⟨gk+1,0,i⟩ (z x 0)).setCell ⟨gk+1,1,i⟩ (z v id)) (gk+1) #[z x 0,z v id] _:=YC BL.out ⟨0,id⟩;replace BL:=y BLx;replace BH:=y (BH.out.mod MSx (j));replace S5:=y (S5.out.mod MSx (j9));replace M5:=y (M5.out.trans MSx (zI));clear e0 e1 e2 e3 f0 f1 f2 f3 BLx MSx;generalize (w5.setCell ⟨gk+1,0,i⟩ (z x 0)).setCell ⟨gk+1,1,i⟩ (z v id)=w6 at *;obtain ⟨e0,e1⟩:=BL.out.cells2;obtain ⟨e2,e3⟩:=BH.out.cells2;obtain ⟨f0,f1,-⟩:=BL.out.frozs;obtain ⟨f2,f3,-⟩:=BH.out.frozs;have MS1:=YD (t [gk+1] w6) (gk+1) ⟨0,id⟩ (fun _=>j);have BX:=YC BL.out ⟨0,id⟩;have BY:=YC (BH.out.mod MS1 (j)) ⟨0,id⟩;have MS2:=YD (t [gk+1+1] (YM w6 (gk+1) ⟨0,id⟩)) (gk+1+1) ⟨0,id⟩ (fun _=>j);replace BX:=BX.mod MS2 (j);have MS:=y ((MS1.mono (S':=[gk+1,gk+1+1]) (zv)).trans MS2 (zv));change bodyPost _ _ _ _ _ (YM (YM w6 (gk+1) ⟨0,id⟩) (gk+1+1) ⟨0,id⟩);replace M5:=y (M5.out.trans MS.out (zI));have hS6:∀k∈F3,k∉[gk+1,gk+1+1]:=fun k hk h=>vh
    have m6d:d [] w6 w6:=t _ _;replace S5:=y ((S5.out.mod m6d (j)).mod MS.out hS6);clear hS6 m6d MS;generalize YM (YM w6 (gk+1) ⟨0,id⟩) (gk+1+1) ⟨0,id⟩=X at *;obtain ⟨g0,g1⟩:=BX.cells2;obtain ⟨g2,g3⟩:=BY.cells2;clear e0 e1 e2 e3 f0 f1 f2 f3 BX BY MS1 MS2;simp only at g0 g1 g2 g3;refine f (by simp [Y,Tryz.results307,g0,g1,g2,g3,go_sem];try rfl) rfl ?_;exact Zm
end Go.Proofs.YtbnpoapmnkfhkaaGreatDoor
