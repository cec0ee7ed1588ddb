import Derived.Test.YtbnpoapmnkfhkaaGreatDoorZt13
import Derived.BigQuiet
set_option maxRecDepth 100000
set_option maxHeartbeats 4000000
set_option linter.unusedVariables false
set_option linter.unusedSimpArgs false
namespace Go.Proofs.YtbnpoapmnkfhkaaGreatDoor
open Go.Value renaming int → z, pointer → T, slice → Θ, tuple → ω, bool → ι, agg → ε
open Go.Lib renaming hid → Z
open Option renaming none → Y, some → N
open Go.Proofs.Tryz renaming prog → V
open Go.IntKind renaming u8 → U, u32 → Q, i64 → G
open Go.Obj renaming cells → R
open Go.Ending renaming returned → O
open Go renaming World → K, Calls → C, bodyPost_ret → χ, results → ξ
open Go.Proofs.YtbnpoapmnkfhkaaGreatDoor renaming zc → J, Mod → Ψ
open And renaming intro → I
open Nat renaming lt_of_lt_of_le → E, testBit_lt_two_pow → σ, two_pow_pos → ν, pow_succ → θ
open Go.World renaming block_lt_of_cell? → D
open Go.Proofs.YtbnpoapmnkfhkaaGreatDoor.Mod renaming refl → Ω, trans' → φ
open Go.RowKit renaming Hid → Φ
open Go.Proofs.YtbnpoapmnkfhkaaGreatDoor.Blk renaming new' → Ξ
open List renaming length_append → Δ, length_map → ψ, take_of_length_le → τ, mem_map → π, mem_range → μ, mem_cons → κ, range → ζ
open BitVec renaming ofInt → Γ, toNat_ofNat → ρ, ofNat → η
open Go.RowKit
theorem Zs {p:Prop} (h:p:=by
 refine χ (by simp [ξ,Tryz.results308,g0,g1,g2,g3,go_sem];try rfl) rfl ?_;rw [hv.out]
 exact ⟨rfl,F,(HS.out.mod M.out (ze)).mod MS.out (fun k hk=>zN),(M.out.mono (zq)).trans MS.out (zu),fun k hk=>.inl hk⟩):p:=h
theorem Zq {p:Prop} (h:p:=by
 have MS1:=YD (Ω [gk+1] w3) (gk+1) ⟨l+1,ea⟩ (fun _=>ze);have BX:=YC BL.out ⟨l+1,ea⟩;have BY:=YC (BH.out.mod MS1 (ze)) ⟨0,0⟩;have MS2:=YD (Ω [gk+1+1] (YM w3 (gk+1) ⟨l+1,ea⟩)) (gk+1+1) ⟨0,0⟩ (fun _=>ze);replace BX:=BX.mod MS2 (ze);have MS:=Z ((MS1.mono (S':=[gk+1,gk+1+1]) (zv)).trans MS2 (zv));change bodyPost _ _ _ _ _ (YM (YM w3 (gk+1) ⟨l+1,ea⟩) (gk+1+1) ⟨0,0⟩);generalize YM (YM w3 (gk+1) ⟨l+1,ea⟩) (gk+1+1) ⟨0,0⟩=X at *;obtain ⟨g0,g1⟩:=BX.cells2;obtain ⟨g2,g3⟩:=BY.cells2;clear e0 e1 e2 e3 f0 f1 f2 f3 BX BY MS1 MS2;simp only at g0 g1 g2 g3
 exact Zs):p:=h
theorem Zr {p:Prop} (h:p:=by
 obtain ⟨g0,g1⟩:=BX.cells2;obtain ⟨g2,g3⟩:=BY.cells2;clear e0 e1 e2 e3 f0 f1 f2 f3 BX BY MS1 MS2;simp only at g0 g1 g2 g3;go_wp2_with fail
 exact Zs):p:=h
theorem zN0 {w:K} {b n:Nat} {L:List Rc} {room:Nat} {F:List Nat} (h:IsSt w b n L room F) (hL:L.length≤100000) (hroom:L.length < room) (hrm:room≤1048576) (hn:n≤16) (hG:Good L n) (l:Nat) (hl:l < n) (e:Ed)
 (he:LeadsP L 5 e l n):
 C V 308 #[T (N ⟨b,0,Y⟩),edv e,z G l] w fun r w'=>r=O (ω #[edv (YG L 5 l e).2.1,edv (YG L 5 l e).2.2,z U 0])∧∃F',IsSt w' b n (YG L 5 l e).1 room F'∧Ψ F w w'∧∀k∈F',k∈F∨w.heap.size≤k:=by
 have LE:Φ (∀W,Ψ [] w W→_):=fun W m=>YI (h.mod m (ze)) (J) hn 5 (J) (J) e l (J) he
 have hbF:=h.lt;obtain ⟨ba,bi,Fa,c0,-,-,-⟩:=h.own;have hbl:=D w _ c0;simp only at hbl;have HS:=Z h;have hl':(l:Int) < n:=J;clear h;obtain ⟨gk,hgk⟩:∃gk,w.heap.size=gk:=⟨_,rfl⟩;have HLT:Φ (∀k∈F,k < gk):=fun k hk=>zH
 have HE:=Z he;have HG:=Z hG;clear hbF he hG;obtain ⟨et,ea⟩:=e;unfold edv at *;simp only at LE ⊢;have gn1:¬b=gk:=J;have gn2:¬gk=b:=J;have gn3:¬b=gk+1:=J;have gn4:¬gk+1=b:=J;have gn5:¬b=gk+1+1:=J;have gn6:¬gk+1+1=b:=J;go_in;go_wp2_with fail;have BE:=Ξ w #[z U et,z Q ea] 44 gk hgk.symm;have BL:=Ξ (w.alloc (R #[z U et,z Q ea] 44)) #[z U 0,z Q 0] 44 (gk+1) (zk);have BH:=Ξ ((w.alloc (R #[z U et,z Q ea] 44)).alloc (R #[z U 0,z Q 0] 44)) #[z U 0,z Q 0] 44 (gk+1+1) (zk);replace BE:=(BE.alloc (R #[z U 0,z Q 0] 44)).alloc (R #[z U 0,z Q 0] 44);replace BL:=BL.alloc (R #[z U 0,z Q 0] 44);have M0:Φ (Ψ [] w (((w.alloc (R #[z U et,z Q ea] 44)).alloc (R #[z U 0,z Q 0] 44)).alloc (R #[z U 0,z Q 0] 44))):=zg;have hsz:(((w.alloc (R #[z U et,z Q ea] 44)).alloc (R #[z U 0,z Q 0] 44)).alloc (R #[z U 0,z Q 0] 44)).heap.size=gk+3:=zk;have c0:=(M0.out.cell (a:=⟨b,0,Y⟩) hbl (ze)).trans c0;generalize ((w.alloc (R #[z U et,z Q ea] 44)).alloc (R #[z U 0,z Q 0] 44)).alloc (R #[z U 0,z Q 0] 44)=w0 at *;have hb0:b < w0.heap.size:=J;have hk0:gk < w0.heap.size:=J;have hk1:gk+1 < w0.heap.size:=J;have hk2:gk+1+1 < w0.heap.size:=J;obtain ⟨q0,q1⟩:=BE.cells2;replace BE:=Z BE;replace BL:=Z BL;replace BH:=Z BH;refine (YH b n _ c0).mono ?_;rintro e w1 ⟨rfl,rfl⟩;go_wp2_with fail;refine (LE.out _ M0.out).mono ?_;rintro e' wa ⟨rfl,m_wa⟩;have M_wa:=φ (show Ψ _ w1 _ from zg) m_wa;have c0:=(M_wa.cell (a:=⟨b,0,Y⟩) hb0 (zh)).trans c0;have q0:=(M_wa.cell (a:=⟨gk,0,Y⟩) hk0 (zh)).trans q0;have q1:=(M_wa.cell (a:=⟨gk,1,Y⟩) hk0 (zh)).trans q1;have hb0:=E hb0 M_wa.size;have hk0:=E hk0 M_wa.size;have M1:=Z (M0.out.trans' M_wa);replace BE:=Z (BE.out.mod M_wa (ze));replace BL:=Z (BL.out.mod M_wa (ze));replace BH:=Z (BH.out.mod M_wa (ze));have hza:=M_wa.size;clear m_wa M_wa M0 LE;have hl16:(l:Int)≤16:=J;have hF1:gk+1∉F:=fun h=>zw
 have hF2:gk+1+1∉F:=fun h=>zw
 have het:(et:Int)≤16:=by
  have hp:=HE.out.plain;by_cases h:ea=0
  ·have:=hp.1 (.inr h);simp only at this;omega
  ·by_cases h5:5=5
   ·have:=hp.2 h5 h;simp only at this;omega
   ·have:=hp.1 (.inl h5);simp only at this;omega
 have hea:ea≤4294967295:=by
  rcases HE.out.at_ with h0 | ⟨r,hr,-⟩
  ·simp only at h0;omega
  ·have:=YJ hr;simp only at this;omega
 by_cases hno:ea=0∨l < et
 ·have hv:=Z (show YG L 5 l ⟨et,ea⟩=(L,(⟨et,ea⟩,⟨et,ea⟩)) by unfold YG;rw [if_pos ⟨rfl,hno⟩]);have M:=M1
  have tst:((ea:Int)==0 || decide ((l:Int) < et))=true:=by
   rcases hno with h | h
   ·subst h;rfl
   ·simp;omega
  by_cases h0:ea=0
  ·subst h0;rw [show ((0:Nat):Int)=0 from rfl] at q1;obtain ⟨e0,e1⟩:=BL.out.cells2;obtain ⟨e2,e3⟩:=BH.out.cells2;obtain ⟨f0,f1,-⟩:=BL.out.frozs;obtain ⟨f2,f3,-⟩:=BH.out.frozs;go_wp2_with fail
   go_region
   replace BL:=Z BL.out.drew;replace BH:=Z BH.out.drew;replace M:=Z (M.out.drew);have MS1:=YD (Ω [gk+1] wa.drew) (gk+1) ⟨et,0⟩ (fun _=>ze);have BX:=YC BL.out ⟨et,0⟩;have BY:=YC (BH.out.mod MS1 (ze)) ⟨et,0⟩;have MS2:=YD (Ω [gk+1+1] (YM wa.drew (gk+1) ⟨et,0⟩)) (gk+1+1) ⟨et,0⟩ (fun _=>ze);replace BX:=BX.mod MS2 (ze);have MS:=Z ((MS1.mono (S':=[gk+1,gk+1+1]) (zv)).trans MS2 (zv));change Exit.then _ _ _ _ (YM (YM wa.drew (gk+1) ⟨et,0⟩) (gk+1+1) ⟨et,0⟩);generalize YM (YM wa.drew (gk+1) ⟨et,0⟩) (gk+1+1) ⟨et,0⟩=X at *;exact Zr
  ·have hz1:((ea:Int)==0)=false:=zo;have hz2:decide ((l:Int) < et)=true:=zj;obtain ⟨e0,e1⟩:=BL.out.cells2;obtain ⟨e2,e3⟩:=BH.out.cells2;obtain ⟨f0,f1,-⟩:=BL.out.frozs;obtain ⟨f2,f3,-⟩:=BH.out.frozs;go_wp2_with fail
   go_region
   replace BL:=Z BL.out.drew;replace BH:=Z BH.out.drew;replace M:=Z (M.out.drew);have MS1:=YD (Ω [gk+1] wa.drew) (gk+1) ⟨et,ea⟩ (fun _=>ze);have BX:=YC BL.out ⟨et,ea⟩;have BY:=YC (BH.out.mod MS1 (ze)) ⟨et,ea⟩;have MS2:=YD (Ω [gk+1+1] (YM wa.drew (gk+1) ⟨et,ea⟩)) (gk+1+1) ⟨et,ea⟩ (fun _=>ze);replace BX:=BX.mod MS2 (ze);have MS:=Z ((MS1.mono (S':=[gk+1,gk+1+1]) (zv)).trans MS2 (zv));change Exit.then _ _ _ _ (YM (YM wa.drew (gk+1) ⟨et,ea⟩) (gk+1+1) ⟨et,ea⟩);generalize YM (YM wa.drew (gk+1) ⟨et,ea⟩) (gk+1+1) ⟨et,ea⟩=X at *;exact Zr
 have hz1:((ea:Int)==0)=false:=zo;have hz2:decide ((l:Int) < et)=false:=zj;have hno':¬((5:Nat)=5∧(ea=0∨l < et)):=fun h=>hno h.2
 cases hr:YO L ea with
 | none=>
  have hv:=Z (show YG L 5 l ⟨et,ea⟩=(L,(⟨l+1,ea⟩,⟨0,0⟩)) by unfold YG;rw [if_neg hno'];simp only [hr];unfold zD3;simp);have GT:Φ (∀W,Ψ [] w W→_):=fun W m=>Xa (HS.out.mod m (ze)) (J) ea hea hr
  unfold rcv rc0 at GT;simp only at GT
  try rw [show ((0:Nat):Int)=0 from rfl] at GT
  go_wp2_with fail;refine (GT.out _ M1.out).mono ?_;rintro e w2 ⟨rfl,m2⟩;obtain ⟨gr,hgr⟩:∃gr,w2.heap.size=gr:=⟨_,rfl⟩;have BQ:=Ξ w2 #[z U 0,z U 0,z U 0,z U 0,z Q 0,z U 0,z Q 0] 139 gr hgr.symm;have MX:=m2.alloc (R #[z U 0,z U 0,z U 0,z U 0,z Q 0,z U 0,z Q 0] 139);have hzx:=m2.size;replace M1:=Z (M1.out.trans' MX);replace BE:=BE.out.mod MX (ze);replace BL:=Z (BL.out.mod MX (ze));replace BH:=Z (BH.out.mod MX (ze));obtain ⟨q0,q1⟩:=BE.cells2;obtain ⟨r0,r1,r2,r3,r4,r5,r6⟩:=BQ.cells7;have hrl:=BQ.lt;have hel:=BE.lt;have hll:=BL.out.lt;have hhl:=BH.out.lt;have gr1:¬gr=gk:=J;have gr2:¬gk=gr:=J;have gr3:¬gr=gk+1:=J;have gr4:¬gk+1=gr:=J;have gr5:¬gr=gk+1+1:=J;have gr6:¬gk+1+1=gr:=J;have M:=M1;replace BE:=Z BE;clear MX m2 GT M1;replace BQ:=Z BQ;obtain ⟨e0,e1⟩:=BL.out.cells2;obtain ⟨e2,e3⟩:=BH.out.cells2;obtain ⟨f0,f1,-⟩:=BL.out.frozs;obtain ⟨f2,f3,-⟩:=BH.out.frozs;go_wp2_with fail;generalize w2.alloc (R #[z U 0,z U 0,z U 0,z U 0,z Q 0,z U 0,z Q 0] 139)=w3 at *;exact Zq
 | some r=>
  have GT:Φ (∀W,Ψ [] w W→_):=fun W m=>Y7 (HS.out.mod m (ze)) (J) ea r hr
  have hg:=HG.out ea r hr;obtain ⟨hrf,hrl,htg,h16⟩:=HE.out.node hr;have h16':(r.top:Int)≤16:=J;have hb15:(r.bot:Int)≤16:=xz
  have hq1:(r.lo.t:Int)≤255:=by
   have:=hg.right.lo;have:=hg.right.bn;by_cases h:r.f≠5∨r.lo.a=0
   ·have:=hg.right.lo.1 h;omega
   ·have:=hg.right.lo.2 (J) (J);omega
  have hq2:(r.hi.t:Int)≤255:=by
   have:=hg.right.hi;have:=hg.right.bn;by_cases h:r.f≠5∨r.hi.a=0
   ·have:=hg.right.hi.1 h;omega
   ·have:=hg.right.hi.2 (J) (J);omega
  by_cases hlt:l < r.top
  ·have hv:=Z (show YG L 5 l ⟨et,ea⟩=(L,(⟨l+1,ea⟩,⟨0,0⟩)) by unfold YG;rw [if_neg hno'];simp only [hr,if_pos hlt];unfold zD3;simp);have hlt1:decide ((l:Int) < r.top)=true:=zj;clear hg hr;obtain ⟨qf,qt,qb,⟨qlt,qla⟩,⟨qht,qha⟩⟩:=r;unfold rcv at GT;clear hrf hrl htg h16;simp only at GT h16' hb15 hq1 hq2 hlt hlt1 hv;go_wp2_with fail;refine (GT.out _ M1.out).mono ?_;rintro e w2 ⟨rfl,m2⟩;obtain ⟨gr,hgr⟩:∃gr,w2.heap.size=gr:=⟨_,rfl⟩;have BQ:=Ξ w2 #[z U qf,z U qt,z U qb,z U qlt,z Q qla,z U qht,z Q qha] 139 gr hgr.symm;have MX:=m2.alloc (R #[z U qf,z U qt,z U qb,z U qlt,z Q qla,z U qht,z Q qha] 139);have hzx:=m2.size;replace M1:=Z (M1.out.trans' MX);replace BE:=BE.out.mod MX (ze);replace BL:=Z (BL.out.mod MX (ze));replace BH:=Z (BH.out.mod MX (ze));obtain ⟨q0,q1⟩:=BE.cells2;obtain ⟨r0,r1,r2,r3,r4,r5,r6⟩:=BQ.cells7;have hrl:=BQ.lt;have hel:=BE.lt;have hll:=BL.out.lt;have hhl:=BH.out.lt;have gr1:¬gr=gk:=J;have gr2:¬gk=gr:=J;have gr3:¬gr=gk+1:=J;have gr4:¬gk+1=gr:=J;have gr5:¬gr=gk+1+1:=J;have gr6:¬gk+1+1=gr:=J;have M:=M1;replace BE:=Z BE;clear MX m2 GT M1;replace BQ:=Z BQ;obtain ⟨e0,e1⟩:=BL.out.cells2;obtain ⟨e2,e3⟩:=BH.out.cells2;obtain ⟨f0,f1,-⟩:=BL.out.frozs;obtain ⟨f2,f3,-⟩:=BH.out.frozs;go_wp2_with fail;generalize w2.alloc (R #[z U qf,z U qt,z U qb,z U qlt,z Q qla,z U qht,z Q qha] 139)=w3 at *;exact Zq
  ·have htb:r.top=r.bot:=xx;have hv:=Z (show YG L 5 l ⟨et,ea⟩=(L,(r.lo,r.hi)) by unfold YG;rw [if_neg hno'];simp only [hr,if_neg hlt,if_pos htb]);have hlt1:decide ((l:Int) < r.top)=false:=zj;clear hg hr;obtain ⟨qf,qt,qb,⟨qlt,qla⟩,⟨qht,qha⟩⟩:=r;unfold rcv at GT;clear hrf hrl htg h16 htb;simp only at GT h16' hb15 hq1 hq2 hlt hlt1 hv;go_wp2_with fail;refine (GT.out _ M1.out).mono ?_;rintro e w2 ⟨rfl,m2⟩;obtain ⟨gr,hgr⟩:∃gr,w2.heap.size=gr:=⟨_,rfl⟩;have BQ:=Ξ w2 #[z U qf,z U qt,z U qb,z U qlt,z Q qla,z U qht,z Q qha] 139 gr hgr.symm;have MX:=m2.alloc (R #[z U qf,z U qt,z U qb,z U qlt,z Q qla,z U qht,z Q qha] 139);have hzx:=m2.size;replace M1:=Z (M1.out.trans' MX);replace BE:=BE.out.mod MX (ze);replace BL:=Z (BL.out.mod MX (ze));replace BH:=Z (BH.out.mod MX (ze));obtain ⟨q0,q1⟩:=BE.cells2;obtain ⟨r0,r1,r2,r3,r4,r5,r6⟩:=BQ.cells7;have hrl:=BQ.lt;have hel:=BE.lt;have hll:=BL.out.lt;have hhl:=BH.out.lt;have gr1:¬gr=gk:=J;have gr2:¬gk=gr:=J;have gr3:¬gr=gk+1:=J;have gr4:¬gk+1=gr:=J;have gr5:¬gr=gk+1+1:=J;have gr6:¬gk+1+1=gr:=J;have M:=M1;replace BE:=Z BE;clear MX m2 GT M1;replace BQ:=Z BQ;obtain ⟨e0,e1⟩:=BL.out.cells2;obtain ⟨e2,e3⟩:=BH.out.cells2;obtain ⟨f0,f1,-⟩:=BL.out.frozs;obtain ⟨f2,f3,-⟩:=BH.out.frozs;go_wp2_with fail;generalize w2.alloc (R #[z U qf,z U qt,z U qb,z U qlt,z Q qla,z U qht,z Q qha] 139)=w3 at *
   go_region
   replace BL:=Z BL.out.drew;replace BH:=Z BH.out.drew;replace M:=Z (M.out.drew);have MS1:=YD (Ω [gk+1] w3.drew) (gk+1) ⟨qlt,qla⟩ (fun _=>ze);have BX:=YC BL.out ⟨qlt,qla⟩;have BY:=YC (BH.out.mod MS1 (ze)) ⟨qht,qha⟩;have MS2:=YD (Ω [gk+1+1] (YM w3.drew (gk+1) ⟨qlt,qla⟩)) (gk+1+1) ⟨qht,qha⟩ (fun _=>ze);replace BX:=BX.mod MS2 (ze);have MS:=Z ((MS1.mono (S':=[gk+1,gk+1+1]) (zv)).trans MS2 (zv));change Exit.then _ _ _ _ (YM (YM w3.drew (gk+1) ⟨qlt,qla⟩) (gk+1+1) ⟨qht,qha⟩);generalize YM (YM w3.drew (gk+1) ⟨qlt,qla⟩) (gk+1+1) ⟨qht,qha⟩=X at *;exact Zr
open Go.RowKit
theorem Zp {p:Prop} (h:p:=by
 obtain ⟨et,ea⟩:=e;obtain ⟨lt,la⟩:=lo;obtain ⟨ht,ha⟩:=hi;unfold edv at *;simp only at MK ⊢;go_in;go_wp2_with fail;have BL:=Ξ (w.alloc (R #[z U et,z Q ea] 44)) #[z U 0,z Q 0] 44 (gk+1) (zk);have BH:=Ξ ((w.alloc (R #[z U et,z Q ea] 44)).alloc (R #[z U 0,z Q 0] 44)) #[z U 0,z Q 0] 44 (gk+1+1) (zk);have BL:=BL.alloc (R #[z U 0,z Q 0] 44);have M0:Φ (Ψ [] w (((w.alloc (R #[z U et,z Q ea] 44)).alloc (R #[z U 0,z Q 0] 44)).alloc (R #[z U 0,z Q 0] 44))):=zg;have hsz:(((w.alloc (R #[z U et,z Q ea] 44)).alloc (R #[z U 0,z Q 0] 44)).alloc (R #[z U 0,z Q 0] 44)).heap.size=gk+3:=zk;generalize ((w.alloc (R #[z U et,z Q ea] 44)).alloc (R #[z U 0,z Q 0] 44)).alloc (R #[z U 0,z Q 0] 44)=w0 at *;refine (MK.out _ M0.out).mono ?_;rintro e w3 ⟨rfl,F3,s3,m3,f3⟩;have hk1:=BL.lt;have hk2:=BH.lt;have BL:=BL.mod m3 hF1;have BH:=BH.mod m3 hF2;obtain ⟨e0,e1⟩:=BL.cells2;obtain ⟨e2,e3⟩:=BH.cells2;obtain ⟨f0,f1,-⟩:=BL.frozs;obtain ⟨f2,f3',-⟩:=BH.frozs;have S3:=Z s3;have F3':=Z f3;have M2:=Z ((M0.out.mono (S':=F) (zq)).trans m3 (zD));have BL:=Z BL;have BH:=Z BH;clear MK s3 f3 m3;go_wp2_with fail;have MS1:=YD (Ω [gk+1] w3) (gk+1) ⟨lt,la⟩ (fun _=>ze);have BX:=YC BL.out ⟨lt,la⟩;have BY:=YC (BH.out.mod MS1 (ze)) ⟨ht,ha⟩;have MS2:=YD (Ω [gk+1+1] (YM w3 (gk+1) ⟨lt,la⟩)) (gk+1+1) ⟨ht,ha⟩ (fun _=>ze);replace BX:=BX.mod MS2 (ze);have MS:=Z ((MS1.mono (S':=[gk+1,gk+1+1]) (zv)).trans MS2 (zv));change bodyPost _ _ _ _ _ (YM (YM w3 (gk+1) ⟨lt,la⟩) (gk+1+1) ⟨ht,ha⟩);generalize YM (YM w3 (gk+1) ⟨lt,la⟩) (gk+1+1) ⟨ht,ha⟩=X at *;obtain ⟨g0,g1⟩:=BX.cells2;obtain ⟨g2,g3⟩:=BY.cells2;clear e0 e1 e2 e3 f0 f1 f2 f3' BX BY MS1 MS2;simp only at g0 g1 g2 g3;refine χ (by simp [ξ,Tryz.results303,g0,g1,g2,g3,go_sem];try rfl) rfl ?_;refine ⟨rfl,F3,S3.out.mod MS.out (fun k hk=>?_),M2.out.trans MS.out (zu),fun k hk=>(F3'.out k hk).imp (fun h=>h) (fun h=>J)⟩
 simp;refine ⟨?_,?_⟩<;>(rintro rfl;rcases F3'.out _ hk with h | h;(first | exact hF1 h | exact hF2 h);omega)):p:=h
theorem zt9 {w:K} {b n:Nat} {L:List Rc} {room:Nat} {F:List Nat} (h:IsSt w b n L room F) (hL:L.length≤100000) (hroom:L.length < room) (hrm:room≤1048576) (hn:n≤16) (hG:Good L n) (l:Nat) (hl:l < n) (e:Ed)
 (he:LeadsP L 1 e l n):
 C V 303 #[T (N ⟨b,0,Y⟩),z U 1,edv e,z G l] w fun r w'=>r=O (ω #[edv (YG L 1 l e).2.1,edv (YG L 1 l e).2.2,z U 0])∧∃F',IsSt w' b n (YG L 1 l e).1 room F'∧Ψ F w w'∧∀k∈F',k∈F∨w.heap.size≤k:=by
 have MK:Φ (∀W,Ψ [] w W→_):=fun W m=>zY0 (h.mod m (ze)) hL hroom hrm hn hG l hl e he
 have hbF:=h.lt;clear h hG he;obtain ⟨gk,hgk⟩:∃gk,w.heap.size=gk:=⟨_,rfl⟩;have HLT:Φ (∀k∈F,k < gk):=fun k hk=>zH
 clear hbF;have hF1:gk+1∉F:=fun h=>zw
 have hF2:gk+1+1∉F:=fun h=>zw
 generalize (YG L 1 l e).1=L2 at *;generalize (YG L 1 l e).2.1=lo at *;generalize (YG L 1 l e).2.2=hi at *;exact Zp
theorem zw6 {w:K} {b n:Nat} {L:List Rc} {room:Nat} {F:List Nat} (h:IsSt w b n L room F) (hL:L.length≤100000) (hroom:L.length < room) (hrm:room≤1048576) (hn:n≤16) (hG:Good L n) (l:Nat) (hl:l < n) (e:Ed)
 (he:LeadsP L 2 e l n):
 C V 303 #[T (N ⟨b,0,Y⟩),z U 2,edv e,z G l] w fun r w'=>r=O (ω #[edv (YG L 2 l e).2.1,edv (YG L 2 l e).2.2,z U 0])∧∃F',IsSt w' b n (YG L 2 l e).1 room F'∧Ψ F w w'∧∀k∈F',k∈F∨w.heap.size≤k:=by
 have MK:Φ (∀W,Ψ [] w W→_):=fun W m=>zZ6 (h.mod m (ze)) hL hroom hrm hn hG l hl e he
 have hbF:=h.lt;clear h hG he;obtain ⟨gk,hgk⟩:∃gk,w.heap.size=gk:=⟨_,rfl⟩;have HLT:Φ (∀k∈F,k < gk):=fun k hk=>zH
 clear hbF;have hF1:gk+1∉F:=fun h=>zw
 have hF2:gk+1+1∉F:=fun h=>zw
 generalize (YG L 2 l e).1=L2 at *;generalize (YG L 2 l e).2.1=lo at *;generalize (YG L 2 l e).2.2=hi at *;exact Zp
theorem zw1 {w:K} {b n:Nat} {L:List Rc} {room:Nat} {F:List Nat} (h:IsSt w b n L room F) (hL:L.length≤100000) (hroom:L.length < room) (hrm:room≤1048576) (hn:n≤16) (hG:Good L n) (l:Nat) (hl:l < n) (e:Ed)
 (he:LeadsP L 3 e l n):
 C V 303 #[T (N ⟨b,0,Y⟩),z U 3,edv e,z G l] w fun r w'=>r=O (ω #[edv (YG L 3 l e).2.1,edv (YG L 3 l e).2.2,z U 0])∧∃F',IsSt w' b n (YG L 3 l e).1 room F'∧Ψ F w w'∧∀k∈F',k∈F∨w.heap.size≤k:=by
 have MK:Φ (∀W,Ψ [] w W→_):=fun W m=>zM3 (h.mod m (ze)) hL hroom hrm hn hG l hl e he
 have hbF:=h.lt;clear h hG he;obtain ⟨gk,hgk⟩:∃gk,w.heap.size=gk:=⟨_,rfl⟩;have HLT:Φ (∀k∈F,k < gk):=fun k hk=>zH
 clear hbF;have hF1:gk+1∉F:=fun h=>zw
 have hF2:gk+1+1∉F:=fun h=>zw
 generalize (YG L 3 l e).1=L2 at *;generalize (YG L 3 l e).2.1=lo at *;generalize (YG L 3 l e).2.2=hi at *;exact Zp
theorem zx8 {w:K} {b n:Nat} {L:List Rc} {room:Nat} {F:List Nat} (h:IsSt w b n L room F) (hL:L.length≤100000) (hroom:L.length < room) (hrm:room≤1048576) (hn:n≤16) (hG:Good L n) (l:Nat) (hl:l < n) (e:Ed)
 (he:LeadsP L 4 e l n):
 C V 303 #[T (N ⟨b,0,Y⟩),z U 4,edv e,z G l] w fun r w'=>r=O (ω #[edv (YG L 4 l e).2.1,edv (YG L 4 l e).2.2,z U 0])∧∃F',IsSt w' b n (YG L 4 l e).1 room F'∧Ψ F w w'∧∀k∈F',k∈F∨w.heap.size≤k:=by
 have MK:Φ (∀W,Ψ [] w W→_):=fun W m=>zH6 (h.mod m (ze)) hL hroom hrm hn hG l hl e he
 have hbF:=h.lt;clear h hG he;obtain ⟨gk,hgk⟩:∃gk,w.heap.size=gk:=⟨_,rfl⟩;have HLT:Φ (∀k∈F,k < gk):=fun k hk=>zH
 clear hbF;have hF1:gk+1∉F:=fun h=>zw
 have hF2:gk+1+1∉F:=fun h=>zw
 generalize (YG L 4 l e).1=L2 at *;generalize (YG L 4 l e).2.1=lo at *;generalize (YG L 4 l e).2.2=hi at *;exact Zp
theorem zt5 {w:K} {b n:Nat} {L:List Rc} {room:Nat} {F:List Nat} (h:IsSt w b n L room F) (hL:L.length≤100000) (hroom:L.length < room) (hrm:room≤1048576) (hn:n≤16) (hG:Good L n) (l:Nat) (hl:l < n) (e:Ed)
 (he:LeadsP L 5 e l n):
 C V 303 #[T (N ⟨b,0,Y⟩),z U 5,edv e,z G l] w fun r w'=>r=O (ω #[edv (YG L 5 l e).2.1,edv (YG L 5 l e).2.2,z U 0])∧∃F',IsSt w' b n (YG L 5 l e).1 room F'∧Ψ F w w'∧∀k∈F',k∈F∨w.heap.size≤k:=by
 have MK:Φ (∀W,Ψ [] w W→_):=fun W m=>zN0 (h.mod m (ze)) hL hroom hrm hn hG l hl e he
 have hbF:=h.lt;clear h hG he;obtain ⟨gk,hgk⟩:∃gk,w.heap.size=gk:=⟨_,rfl⟩;have HLT:Φ (∀k∈F,k < gk):=fun k hk=>zH
 clear hbF;have hF1:gk+1∉F:=fun h=>zw
 have hF2:gk+1+1∉F:=fun h=>zw
 generalize (YG L 5 l e).1=L2 at *;generalize (YG L 5 l e).2.1=lo at *;generalize (YG L 5 l e).2.2=hi at *;exact Zp
theorem zB5 (f:Nat) (h1:1≤f) (h5:f≤5) {w:K} {b n:Nat} {L:List Rc} {room:Nat} {F:List Nat} (h:IsSt w b n L room F) (hL:L.length≤100000) (hroom:L.length < room) (hrm:room≤1048576) (hn:n≤16) (hG:Good L n) (l:Nat) (hl:l < n) (e:Ed)
 (he:LeadsP L f e l n):
 C V 303 #[T (N ⟨b,0,Y⟩),z U f,edv e,z G l] w fun r w'=>r=O (ω #[edv (YG L f l e).2.1,edv (YG L f l e).2.2,z U 0])∧∃F',IsSt w' b n (YG L f l e).1 room F'∧Ψ F w w'∧∀k∈F',k∈F∨w.heap.size≤k:=by
 obtain rfl | rfl | rfl | rfl | rfl:f=1∨f=2∨f=3∨f=4∨f=5:=J
 ·exact zt9 h hL hroom hrm hn hG l hl e he
 ·exact zw6 h hL hroom hrm hn hG l hl e he
 ·exact zw1 h hL hroom hrm hn hG l hl e he
 ·exact zx8 h hL hroom hrm hn hG l hl e he
 ·exact zt5 h hL hroom hrm hn hG l hl e he
open Go.RowKit
structure Sto (w:K) (b n room:Nat) (L:List Rc) (F:List Nat):Prop where
 st:IsSt w b n L room F
 good:Good L n
 nd:L.Nodup
theorem Sto.mod {S:List Nat} {w w':K} {b n room:Nat} {L:List Rc} {F:List Nat} (h:Sto w b n room L F) (m:Ψ S w w') (hd:∀k∈F,k∉S):Sto w' b n room L F:=⟨h.st.mod m hd,h.good,h.nd⟩
structure Grow (w w':K) (F F':List Nat):Prop where
 mod:Ψ F w w'
 own:∀k∈F',k∈F∨w.heap.size≤k
theorem Grow.refl (w:K) (F:List Nat):Grow w w F F:=⟨Ω _ _,fun _ h=>.inl h⟩
theorem Grow.trans {a b c:K} {F F' F'':List Nat} (h:Grow a b F F') (k:Grow b c F' F''):Grow a c F F'':=
 ⟨h.mod.trans k.mod (fun i hi hm=>(h.own i hm).elim (fun h=>h) (fun h=>J)),fun i hi=>(k.own i hi).elim (h.own i) (fun q=>.inr (by have:=h.mod.size;omega))⟩
theorem Grow.of_mod {w w':K} {F:List Nat} (m:Ψ [] w w'):Grow w w' F F:=⟨m.mono (ze),fun _ h=>.inl h⟩
theorem Grow.then {a b c:K} {F F':List Nat} (h:Grow a b F F') (m:Ψ [] b c):Grow a c F F':=h.trans (Grow.of_mod m)
theorem Grow.out {w w':K} {F F':List Nat} (h:Grow w w' F F') {k:Nat} (hk:k < w.heap.size) (hn:k∉F):k∉F':=fun q=>(h.own k q).elim hn (fun q=>J)
theorem Grow.write {a b c:K} {F F' S:List Nat} (h:Grow a b F F') (m:Ψ S b c) (hS:∀k∈S,a.heap.size≤k):Grow a c F F':=
 ⟨h.mod.trans m (fun i hi hm=>by have:=hS i hm;omega),h.own⟩
theorem Grow.size {w w':K} {F F':List Nat} (h:Grow w w' F F'):w.heap.size≤w'.heap.size:=h.mod.size
structure EdT (L:List Rc) (f n k l:Nat) (e:Ed) (t:List Bool):Prop where
 rep:RepE L f e (YE f n k l t)
 lead:LeadsP L f e l n
 len:t.length=2 ^ k
 lk:l+k=n
theorem EdT.grow {L:List Rc} {f n k l:Nat} {e:Ed} {t:List Bool} (h:EdT L f n k l e t) (L2:List Rc):EdT (L++L2) f n k l e t:=⟨h.rep.grow L2,h.lead.grow L2,h.len,h.lk⟩
theorem EdT.fun_ {L:List Rc} {f n k k' l:Nat} (h1:1≤f) (h5:f≤5) {e:Ed} {t t':List Bool} (h:EdT L f n k l e t) (h':EdT L f n k' l e t'):k=k'∧t=t':=by
 obtain rfl:k=k':=by have:=h.lk;have:=h'.lk;omega
 refine ⟨rfl,zb9 h1 h5 k l t t' h.lk h.len h'.len ?_⟩;have e1:=h.rep.t;have e2:=h'.rep.t;exact Prod.ext (e1.symm.trans e2) (Rep.fun_ h.rep.a h'.rep.a)
def MkT (w:K) (b n room:Nat) (L:List Rc) (F:List Nat) (f k l:Nat) (t:List Bool) (r:Ending) (w':K):Prop:=
 ∃(et ea:Nat) (L2:List Rc) (F':List Nat),r=O (ω #[ε #[z U et,z Q ea],z U 0])∧Sto w' b n room (L++L2) F'∧Grow w w' F F'∧EdT (L++L2) f n k l ⟨et,ea⟩ t∧L2.length≤1
theorem zV7 {f:Nat} (h1:1≤f) (h5:f≤5) {w:K} {b n room:Nat} {L:List Rc} {F:List Nat} (h:Sto w b n room L F) (hL:L.length≤100000) (hroom:L.length < room) (hrm:room≤1048576) (hn:n≤16) {k l:Nat} {lo hi:Ed} {t u:List Bool}
 (hlo:EdT L f n k (l+1) lo t) (hhi:EdT L f n k (l+1) hi u):
 C V 110 #[T (N ⟨b,0,Y⟩),z U f,z G l,edv lo,edv hi] w (MkT w b n room L F f (k+1) l (t++u)):=by
 have hlk:=hlo.lk;refine (zd5 f h1 h5 h.st hL hroom hrm hn h.good l (J) lo hi hlo.lead hhi.lead).mono ?_;rintro e w' ⟨rfl,F',s,m,o⟩;obtain ⟨g1,g2,⟨L2,g3⟩,g4⟩:=zg0 h.good h1 h5 (show l < n from J) hn hlo.lead hhi.lead;obtain ⟨r1,r2⟩:=yo4 (l:=l) h.nd hlo.rep hhi.rep;rw [g3] at s g1 g2 g4 r1 r2;have hle:L2.length≤1:=by rw [Δ] at g4;omega
 refine ⟨_,_,L2,F',rfl,⟨s,g1,r2⟩,⟨m,o⟩,⟨?_,g2,?_,J⟩,hle⟩
 ·rw [YE,List.take_left' hlo.len,List.drop_left' hlo.len];exact r1
 ·rw [Δ,hlo.len,hhi.len,θ];omega
def VwT (w:K) (b n room:Nat) (L:List Rc) (F:List Nat) (f k l:Nat) (t:List Bool) (r:Ending) (w':K):Prop:=
 ∃(lt la ht ha:Nat) (L2:List Rc) (F':List Nat),r=O (ω #[ε #[z U lt,z Q la],ε #[z U ht,z Q ha],z U 0])∧Sto w' b n room (L++L2) F'∧Grow w w' F F'∧EdT (L++L2) f n k (l+1) ⟨lt,la⟩ (t.take (2 ^ k))∧EdT (L++L2) f n k (l+1) ⟨ht,ha⟩ (t.drop (2 ^ k))∧L2.length≤1
theorem yn1 {f:Nat} (h1:1≤f) (h5:f≤5) {w:K} {b n room:Nat} {L:List Rc} {F:List Nat} (h:Sto w b n room L F) (hL:L.length≤100000) (hroom:L.length < room) (hrm:room≤1048576) (hn:n≤16) {k l:Nat} {e:Ed} {t:List Bool}
 (he:EdT L f n (k+1) l e t):
 C V 303 #[T (N ⟨b,0,Y⟩),z U f,edv e,z G l] w (VwT w b n room L F f k l t):=by
 have hlk:=he.lk;have hlen:t.length=2 ^ k+2 ^ k:=by have:=he.len;rw [θ] at this;omega
 refine (zB5 f h1 h5 h.st hL hroom hrm hn h.good l (J) e he.lead).mono ?_;rintro r w' ⟨rfl,F',s,m,o⟩;obtain ⟨v1,v2,v3,v4,v5,v6,L2,v7,v8⟩:=yl5 h.good h.nd h1 h5 (show l < n from J) he.lead he.rep (za2 f n (k+1) l t he.lk);rw [zt2 h1 h5 k l t he.lk] at v1 v2;rw [v7] at s v1 v2 v3 v4 v5 v6;exact ⟨_,_,_,_,L2,F',rfl,⟨s,v5,v6⟩,⟨m,o⟩,⟨v1,v3,zW,J⟩,⟨v2,v4,yp,J⟩,v8⟩
open Go.RowKit
theorem Sto.none {w:K} {b n room:Nat} {F:List Nat} (h:IsSt w b n [] room F):Sto w b n room [] F:=⟨h,fun id r h=>by simp [YO] at h,List.nodup_nil⟩
theorem yj6 {room:Nat} (hr1:0 < room) (hr:room≤1048576) {w:K} {v:Value} {p:List Nat} {n:Nat} {F:List Nat} (h:Rv w v (p.map ei) F) (hp:Perm p n) (hn:n≤5):
 C V 9 #[z G room,v] w fun e w'=>∃b F bo q Fo,e=O (ω #[T (N ⟨b,0,Y⟩),T (N ⟨bo,0,Y⟩),ι true])∧Sto w' b n room [] F∧IsOrdD w' bo p q Fo∧Inv p q∧Ψ [] w w'∧(∀k∈F++Fo,w.heap.size≤k)∧(∀k∈F,k∉Fo):=by
 have SN:Φ (∀W,C V 24 #[z G n,z G room] W fun e w'=>∃b F,e=O (ω #[T (N ⟨b,0,Y⟩),z U 0])∧IsSt w' b n [] room F∧Ψ [] W w'∧∀k∈F,W.heap.size≤k):=fun W=>zz9 n room (J) (J) W
 have OF:Φ (∀W,Ψ [] w W→C V 25 #[v] W (yD4 W p)):=fun W m=>zK6 (h.mod m (ze)) hp (J)
 obtain ⟨A,cap,rfl,hc⟩:=h.shape;rw [ψ,hp.len] at OF hc ⊢;clear h hp;have hn':(n:Int)≤5:=J;go_in;go_wp2_with fail;refine (SN.out _).mono ?_;rintro e w1 ⟨b,F,rfl,s1,m1,o1⟩;have S1:=Z s1;have M1:=Z m1;have O1:=Z o1;clear s1 m1 o1 SN;go_wp2_with fail;refine (OF.out _ M1.out).mono ?_;rintro e w2 ⟨bo,q,Fo,rfl,i2,iv,m2,o2⟩;have IV:=Z iv;clear iv;have S2:=Z (Sto.none (S1.out.mod m2 (ze)));have I2:=Z i2;have M2:=Z (M1.out.trans' m2)
 have FF:Φ ((∀k∈F++Fo,w.heap.size≤k)∧∀k∈F,k∉Fo):=⟨fun k hk=>by
  have:=M1.out.size;rcases List.mem_append.1 hk with hk | hk
  ·exact O1.out k hk
  ·have:=o2 k hk;omega,fun k hk hk2=>by have:=S1.out.lt k hk;have:=o2 k hk2;omega⟩
 clear i2 m2 o2 S1 M1 O1 OF;go_wp2_with fail;refine χ (by simp [ξ,Tryz.results9,go_sem];try rfl) rfl ?_;exact ⟨b,F,bo,q,Fo,rfl,S2.out,I2.out,IV.out,M2.out,FF.out.1,FF.out.2⟩
open Go.RowKit
def yy8 (xs:List Int) (k:Nat):Prop:=∀v:Nat,v < k→xs.count (v:Int)=1
theorem zR8 {xs:List Int} {n:Nat} (hl:xs.length=n) (h:yy8 xs n):∃p:List Nat,xs=p.map (fun x:Nat=>(x:Int))∧Perm p n:=by
 have hmem:∀v:Nat,v < n→(v:Int)∈xs:=fun v hv=>List.count_pos_iff.1 (by rw [h v hv];omega)
 let r:List Int:=(ζ n).map (fun x:Nat=>(x:Int))
 have hr:r.Nodup:=by
  show ((ζ n).map (fun x:Nat=>(x:Int))).Nodup;exact List.Pairwise.map _ (fun a b h e=>h (J)) List.nodup_range
 have hsub:∀x∈r,x∈xs:=fun x hx=>by
  obtain ⟨v,hv,rfl⟩:=π.1 hx;exact hmem v (μ.1 hv)
 have hin:∀x∈xs,x∈r:=fun x hx=>by
  apply Classical.byContradiction;intro hn
  have h2:=zB1 (x::r) xs (List.nodup_cons.2 ⟨hn,hr⟩) (fun y hy=>by
   rcases κ.1 hy with rfl | hy
   ·exact hx
   ·exact hsub y hy)
  simp [r,hl] at h2;omega
 have hpos:∀x∈xs,0≤x∧x < n:=fun x hx=>by
  obtain ⟨v,hv,rfl⟩:=π.1 (hin x hx);have:=μ.1 hv;omega
 have e:xs=(xs.map Int.toNat).map (fun x:Nat=>(x:Int)):=by
  rw [List.map_map]
  conv=>lhs;rw [←List.map_id xs]
  refine List.map_congr_left (fun x hx=>?_);have:=(hpos x hx).1;simp;omega
 refine ⟨xs.map Int.toNat,e,by rw [ψ,hl],fun v hv=>?_,?_⟩
 ·obtain ⟨x,hx,rfl⟩:=π.1 hv;have:=hpos x hx;omega
 ·have hnd:xs.Nodup:=List.nodup_iff_count.2 (fun x=>by
   by_cases hx:x∈xs
   ·have h0:=hpos x hx;have h1:=h x.toNat (J);rw [show ((x.toNat:Nat):Int)=x from J] at h1;omega
   ·rw [List.count_eq_zero_of_not_mem hx];omega)
  exact List.pairwise_map.2 (List.Pairwise.imp_of_mem (fun {a b} ha hb hne e=>hne (by have:=hpos a ha;have:=hpos b hb;omega)) hnd)
def yo6 (w:K) (xs:List Int) (n:Nat) (e:Ending) (w':K):Prop:=
 ∃b,e=O (ι b)∧w'=w∧(b=true→∃p:List Nat,xs=p.map (fun x:Nat=>(x:Int))∧Perm p n)
theorem zZ2 {w:K} {v:Value} {xs:List Int} {n:Nat} {F:List Nat} (h:Rv w v (xs.map (fun x:Int=>Value.int G x)) F) (hl:xs.length=n) (hn:n≤5):
 C V 5 #[v] w (yo6 w xs n):=by
 obtain ⟨A,cap,rfl,hc⟩:=h.shape;have H:=Z h;have HL:=Z hl;simp only [ψ] at H hc ⊢;rw [hl] at H hc ⊢;clear h hl;have hn':(n:Int)≤5:=J;go_in;go_wp2_with fail
 go_loopw [3] (fun i wr=>∃k:Nat,k≤n∧i=z G k∧Φ (yy8 xs k)∧wr=w) (fun i _=>n - (intOf i).toNat)
 case atStart=>exact ⟨0,J,rfl,fun v hv=>J,rfl⟩
 case round=>
  obtain ⟨k,hk,rfl,HO,rfl⟩:=hrel;by_cases hlt:k < n
  ·have hlt':(k:Int) < n:=J;go_wp2_with fail
   go_loopw [4,5] (fun c j wq=>∃i m:Nat,i≤n∧j=z G i∧c=z G m∧m≤i∧Φ ((xs.take i).count (k:Int)=m)∧wq=wr) (fun _ j _=>n - (intOf j).toNat)
   case atStart=>exact ⟨0,0,J,rfl,rfl,J,yR,rfl⟩
   case round=>
    rename_i hrel
    obtain ⟨i,m,hi,rfl,rfl,hm,HC,rfl⟩:=hrel;by_cases hil:i < n
    ·have hil':(i:Int) < n:=J;have hi1:i < xs.length:=by rw [HL.out];exact hil
     obtain ⟨b1,o1,rfl,d1⟩:=H.out.at i (by rw [ψ];exact hi1);rw [List.getElem_map] at d1
     have ET:Φ ((xs.take (i+1)).count (k:Int)=m+(if xs[i]=(k:Int) then 1 else 0)):=by
      show _=_;rw [List.take_succ_eq_append_getElem hi1,List.count_append,HC.out];simp [List.count_cons]
     generalize xs[i]=x at *;by_cases hx:x=(k:Int)
     ·have ET2:Φ ((xs.take (i+1)).count (k:Int)=m+1):=by have:=ET.out;rw [if_pos hx] at this;exact this
      subst hx;have hq:((k:Int)==(k:Int))=true:=ze;go_wp2_with fail;go_roundw
      case rel=>exact ⟨i+1,m+1,J,by go_num,by go_num,J,ET2,trivial⟩
      all_goals (simp [intOf];omega)
     ·have ET2:Φ ((xs.take (i+1)).count (k:Int)=m):=by have:=ET.out;rw [if_neg hx] at this;exact this
      have hq:(x==(k:Int))=false:=by rw [beq_eq_false_iff_ne];exact hx
      clear hx;go_wp2_with fail;go_roundw
      case rel=>exact ⟨i+1,m,J,by go_num,rfl,J,ET2,trivial⟩
      all_goals (simp [intOf];omega)
    ·have hil':¬(i:Int) < n:=J
     have HC2:Φ (xs.count (k:Int)=m):=by
      have:=HC.out;rw [τ (by rw [HL.out];omega)] at this;exact this
     by_cases hm1:m=1
     ·subst hm1;go_wp2_with fail
      have HO2:Φ (yy8 xs (k+1)):=fun v hv=>by
       rcases Nat.lt_succ_iff_lt_or_eq.1 hv with h | rfl
       ·exact HO.out v h
       ·exact HC2.out
      exact ⟨⟨k+1,J,ze,HO2,trivial⟩,zR⟩
     ·have hq:¬(m:Int)=1:=J;go_wp2_with fail;go_ret;exact ⟨false,rfl,rfl,ze⟩
  ·have hlt':¬(k:Int) < n:=J;obtain rfl:k=n:=J;have P:=Z (zR8 HL.out HO.out);have hle:(k:Int)≤16:=J;go_wp2_with fail;go_ret;exact ⟨true,ze,rfl,fun _=>P.out⟩
open Go.RowKit
theorem zK1 {w:K} {g c g' c' W:Nat} (h:w.cell? ⟨g,0,Y⟩=N (z .u64 W)) (k:w.cell? ⟨g',0,Y⟩=N (z .u64 W)):
 C V 73 #[Θ (N ⟨g,0,Y⟩) 1 c,Θ (N ⟨g',0,Y⟩) 1 c'] w fun e w'=>e=O (ι true)∧Ψ [] w w':=by
 have hg:=D w _ h;have hg':=D w _ k;go_in;go_wp2_with fail
 go_loopw [13] (fun i wr=>∃j:Nat,j≤1∧i=z G j∧Φ (Ψ [] w wr)) (fun i _=>1 - (intOf i).toNat)
 case atStart=>exact ⟨0,J,rfl,Ω _ _⟩
 case round=>
  obtain ⟨j,hj,rfl,HM⟩:=hrel;have h2:=(HM.out.cell (a:=⟨g,0,Y⟩) hg (ze)).trans h;have k2:=(HM.out.cell (a:=⟨g',0,Y⟩) hg' (ze)).trans k;by_cases hlt:j < 1
  ·obtain rfl:j=0:=J;go_wp2_with fail
   go_quiet (fail)
   rename_i nq
   have HM2:Φ (Ψ [] w (wr.drewN nq)):=HM.out.drewN nq;generalize wr.drewN nq=wq at *;go_wp2_with fail;go_roundw
   case rel=>exact ⟨1,J,by go_num,HM2⟩
   all_goals (simp [intOf])
  ·obtain rfl:j=1:=J;go_wp2_with fail;go_ret;exact ⟨rfl,HM.out⟩
theorem zR1 {w:K} {n g c g' c' W:Nat} (h:w.cell? ⟨g,0,Y⟩=N (z .u64 W)) (k:w.cell? ⟨g',0,Y⟩=N (z .u64 W)):
 C V 35 #[ε #[z G n,Θ (N ⟨g,0,Y⟩) 1 c],ε #[z G n,Θ (N ⟨g',0,Y⟩) 1 c']] w fun e w'=>e=O (ι true)∧Ψ [] w w':=by
 have hg:=D w _ h;have hg':=D w _ k;have SW:Φ (∀W',Ψ [] w W'→C V 73 #[Θ (N ⟨g,0,Y⟩) 1 c,Θ (N ⟨g',0,Y⟩) 1 c'] W' fun e w'=>e=O (ι true)∧Ψ [] W' w'):=fun W' m=>zK1 ((m.cell (a:=⟨g,0,Y⟩) hg (ze)).trans h) ((m.cell (a:=⟨g',0,Y⟩) hg' (ze)).trans k)
 have hq:((n:Int)==(n:Int))=true:=ze;clear h k;go_in;go_wp2_with fail;refine (SW.out _ (zg)).mono ?_;rintro e w1 ⟨rfl,m1⟩;have M1:Φ (Ψ [] w w1):=φ (show Ψ [] w _ from zg) m1;clear m1;go_wp2_with fail;go_ret;exact ⟨rfl,M1.out⟩
open Go.RowKit
theorem zL8 (m:Nat) (hm:m < 65536):bits .and .u16 (m:Int) 1=((m % 2:Nat):Int):=by
 have e:(Γ 16 (m:Int) &&& Γ 16 1).toNat=m % 2:=by
  have e1:Γ 16 (m:Int)=η 16 m:=BitVec.ofInt_natCast ..;have e2:Γ 16 1=η 16 1:=rfl;rw [e1,e2,BitVec.toNat_and,ρ,ρ,Nat.mod_eq_of_lt (J)];exact Nat.and_one_is_mod m
 show IntKind.u16.wrap ((Γ 16 (m:Int) &&& Γ 16 1).toNat:Int)=_;rw [e];have:m % 2 < 2:=Nat.mod_lt _ (J);show ((m % 2:Nat):Int) % 65536=_;omega
theorem zu8 (W x:Nat) (hW:W < 65536):(bits .and .u16 ((W:Int) / 2 ^ x) 1==1)=W.testBit x:=by
 have e1:(W:Int) / 2 ^ x=((W / 2 ^ x:Nat):Int):=by
  rw [Int.natCast_ediv];simp
 rw [e1,zL8 _ (Nat.lt_of_le_of_lt (Nat.div_le_self _ _) hW)]
 have h:W.testBit x=decide (W / 2 ^ x % 2=1):=by
  rw [Nat.testBit_eq_decide_div_mod_eq]
 rw [h];by_cases q:W / 2 ^ x % 2=1
 ·rw [q];simp
 ·have:W / 2 ^ x % 2=0:=J;rw [this];simp
def YP (x a:Nat):Nat→Bool
 | 0=>true
 | d+1=> !x.testBit a && YP x (a+1) d
theorem zW3 (x a d:Nat) (hx:x < 65536) (ha:a+d≤64) (w:K):C V 113 #[z .u16 x,z G a,z G ((a+d:Nat):Int)] w fun e w'=>e=O (ι (YP x a d))∧w'=w:=by
 obtain ⟨b,hb⟩:∃b,a+d=b:=⟨_,rfl⟩
 have BT:Φ (∀k:Nat,(bits .and .u16 ((x:Int) / 2 ^ min k 16) 1==1)=x.testBit k):=fun k=>by
  rw [zu8 x _ hx];by_cases h:k≤16
  ·rw [Nat.min_eq_left h]
  ·rw [Nat.min_eq_right (J),σ (i:=16) (J),σ];exact E hx (Nat.pow_le_pow_right (n:=2) (J) (show 16≤k from J))
 rw [hb];have h0:Φ (YP x a d=YP x a (b - a)):=by show _=_;rw [show b - a=d from J]
 rw [h0.out];obtain ⟨r,hr⟩:∃r,YP x a (b - a)=r:=⟨_,rfl⟩;rw [hr];have HR:=Z hr;have hab:a≤b:=J;have hb64:b≤64:=J;clear hb hr h0 ha;go_in;go_wp2_with fail
 go_loop [7] (fun i=>∃k:Nat,k≤b∧i=z G k∧Φ (YP x k (b - k)=r)) (fun i=>b - (intOf i).toNat)
 case atStart=>exact ⟨a,hab,rfl,HR.out⟩
 case round=>
  obtain ⟨k,hk,rfl,HC⟩:=hrel;by_cases hkb:k=b
  ·subst hkb;have hc:r=true:=by have:=HC.out;rw [Nat.sub_self,YP] at this;exact this.symm
   subst hc;go_wp2_with fail;go_ret;exact ⟨yV,rfl⟩
  ·have hlt:(k:Int) < b:=J;have hk0:(0:Int)≤k:=J;have hk64:(k:Int) < 64:=J;have e:b - k=(b - (k+1))+1:=J;have B:=BT.out k;cases hx:x.testBit k with
   | true=>
    rw [hx] at B;have hc:r=false:=by have:=HC.out;rw [e,YP,hx] at this;exact this.symm
    subst hc;clear hx e;go_wp2_with fail;go_ret;exact ⟨yV,rfl⟩
   | false=>
    rw [hx] at B;have HC2:Φ (YP x (k+1) (b - (k+1))=r):=by show _=_;have:=HC.out;rw [e,YP,hx] at this;simpa using this
    clear hx e HC;go_wp2_with fail
    go_round
    case rel=>exact ⟨k+1,J,yw,HC2⟩
    case measure=>simp [intOf];omega
open Go.RowKit
def yx2 (bb b bo n f g cap W:Nat) (p q Fo:List Nat) (room k l:Nat):Prop:=
 ∀(w:K) (L:List Rc) (F:List Nat) (x:Nat),BSt w bb b bo n f g cap W p q Fo→IsSt w b n L room F→(∀k∈bb::g::Fo,k∉F)→Good L n→L.Nodup→L.length+2 ^ k≤room→L.length+2 ^ k≤100000→x < 2 ^ n→
  C V 68 #[T (N ⟨bb,0,Y⟩),z G l,z G x] w (zK2 w b n room L F f l k (YE f n k l (Xz W p k l x)))
theorem Zt {p:Prop} (h:p:=by
 have h1:=K2.out.2.2.2.2.2.2;have h2:=hr1'.out
 rw [Δ];omega):p:=h
theorem Zu {p:Prop} (h:p:=by
 obtain ⟨ba,bi,Fa,c0,_⟩:=(hS.mod m (ze)).own
 exact YH b n W' c0):p:=h
theorem zV2 {bb b bo n f g cap W:Nat} {p q Fo:List Nat} {room k l:Nat} (hlk:l+(k+1)=n) (h1:1≤f) (h5:f≤5) (hn:n≤5) (hp:p.length=n) (hpv:∀v∈p,v < n) (hrm:room≤1048576)
 (ih:yx2 bb b bo n f g cap W p q Fo room k (l+1)):yx2 bb b bo n f g cap W p q Fo room (k+1) l:=by
 intro w L F x hB hS hd hG hnd hr1 hr2 hx;have hF:=hS.lt;have hpk:2 ^ (k+1)=2 ^ k+2 ^ k:=xA;have hpk0:=ν k;have hl:l < p.length:=J;obtain ⟨v,hv⟩:∃v,p[l]=v:=⟨_,rfl⟩;have hvn:v < n:=by rw [←hv];exact hpv _ (List.getElem_mem _)
 have hgd:p.getD l 0=v:=by rw [List.getD_eq_getElem?_getD,List.getElem?_eq_getElem hl];exact hv
 have hx32:2 ^ n≤32:=xo;have hx2:x ||| 2 ^ v < 2 ^ n:=Nat.or_lt_two_pow hx (Nat.pow_lt_pow_right (J) hvn);have OR:=Z (zX5 (x:=x) (v:=v) (J) (J))
 have eT:YE f n (k+1) l (Xz W p (k+1) l x)=mkE f l (YE f n k (l+1) (Xz W p k (l+1) x)) (YE f n k (l+1) (Xz W p k (l+1) (x ||| 2 ^ v))):=by
  rw [YE,Xz,hgd];rw [List.take_append_of_le_length (qj),List.drop_append_of_le_length (qj),τ (qj),List.drop_of_length_le (qj)];simp
 rw [eT]
 have FR1:Φ (∀W',Ψ [] w W'→C V 68 #[T (N ⟨bb,0,Y⟩),z G ((l:Int)+1),z G x] W' (zK2 W' b n room L F f (l+1) k (YE f n k (l+1) (Xz W p k (l+1) x)))):=fun W' m=>by
  have:=ih W' L F x (hB.mod m (ze)) (hS.mod m (ze)) hd hG hnd (J) (J) hx;simpa using this
 have FR2:Φ (∀(W':K) (L':List Rc) (F':List Nat),BSt W' bb b bo n f g cap W p q Fo→IsSt W' b n L' room F'→(∀k∈bb::g::Fo,k∉F')→Good L' n→L'.Nodup→L'.length+2 ^ k≤room→L'.length+2 ^ k≤100000→
  C V 68 #[T (N ⟨bb,0,Y⟩),z G ((l:Int)+1),z G ((x ||| 2 ^ v:Nat):Int)] W' (zK2 W' b n room L' F' f (l+1) k (YE f n k (l+1) (Xz W p k (l+1) (x ||| 2 ^ v))))):=fun W' L' F' a1 a2 a3 a4 a5 a6 a7=>by
  have:=ih W' L' F' (x ||| 2 ^ v) a1 a2 a3 a4 a5 a6 a7 hx2;simpa using this
 have VA:Φ (∀W',Ψ [] w W'→C V 67 #[T (N ⟨b,0,Y⟩)] W' fun e w'=>e=O (z G n)∧w'=W'):=fun W' m=>by
  exact Zu
 have OV:Φ (∀(W':K),BSt W' bb b bo n f g cap W p q Fo→C V 109 #[T (N ⟨bo,0,Y⟩),z G l] W' fun e w'=>e=O (z G v)∧w'=W'):=fun W' hB'=>by
  have:=zj2 hB'.ord (J) l hl;rw [hv] at this;exact this
 have HD:=Z hd;have HF:=Z hF;have HB:=Z hB;have HBL:=Z hB.lt;have hbl:=hB.bb.lt;have hbF:bb∉F:=hd bb (ze);have hr1':Φ (L.length+2 ^ (k+1)≤room∧L.length+2 ^ (k+1)≤100000∧2 ^ (k+1)=2 ^ k+2 ^ k):=⟨hr1,hr2,hpk⟩;obtain ⟨k0,k1,k2,k3,k4⟩:=hB.bb.cells5;have hln:((l:Int)==(n:Int))=false:=zo;have hl5:(l:Int) < 5:=J;have hv5:(v:Int) < 5:=J;have hv0:(0:Int)≤v:=J;obtain ⟨gk,hgk⟩:∃gk,w.heap.size=gk:=⟨_,rfl⟩;have hbk:bb < gk:=J;have hgF:gk∉F:=fun h=>by have:=hF _ h;omega
 have hne:¬bb=gk:=J;have hne2:¬gk=bb:=J;clear eT hv hgd hx hx2 hx32 hpv hd hF hS hB hG hnd hr1 hr2 hpk hpk0 hl ih hp;generalize YE f n k (l+1) (Xz W p k (l+1) x)=X1 at *;generalize YE f n k (l+1) (Xz W p k (l+1) (x ||| 2 ^ v))=X2 at *;generalize x ||| 2 ^ v=y at *;go_in;go_wp2_with fail;refine (VA.out _ (zg)).mono ?_;rintro e w1 ⟨rfl,rfl⟩;go_wp2_with fail;refine (FR1.out _ (zg)).mono ?_;rintro e w2 ⟨⟨t1,a1⟩,L2,F2,rfl,s2,m2,f2,g2,nd2,le2,re2,len2⟩;have M2:=Z (Mod.trans ((Ω F w).alloc (R #[z U 0,z Q 0] 44)) m2 (by intro i _ h;exact h));have BR:=Z ((Ξ w _ _ gk hgk.symm).mod m2 hgF);have B2:=Z (HB.out.mod M2.out HD.out);obtain ⟨k0,k1,k2,k3,k4⟩:=B2.out.bb.cells5;have K2:=Z (I s2 (I f2 (I g2 (I nd2 (I le2 (I re2 len2))))));have hsz2:gk < w2.heap.size:=by have:=m2.size;simp at this;omega
 obtain ⟨gl,hgl⟩:∃gl,w2.heap.size=gl:=⟨_,rfl⟩;have hb2:bb < gl:=J;have hne3:¬bb=gl:=J;have hne4:¬gl=bb:=J;have HGK:=Z hgk;clear s2 f2 g2 nd2 le2 re2 len2 m2 FR1 VA hgk;unfold edv;go_wp2_with fail;refine (OV.out _ (B2.out.mod (S:=[]) (zg) (ze))).mono ?_;rintro e w3 ⟨rfl,rfl⟩;have hF2:∀i,i < w.heap.size→i∈F2→i∈F:=fun i hi h=>(K2.out.2.1 i h).elim (fun h=>h) (fun h=>zG)
 have hd2:∀k∈bb::g::Fo,k∉F2:=fun k hk h=>HD.out k hk (hF2 k (HBL.out k hk) h)
 have HF2:=Z hF2;have HD2:=Z hd2;clear hF2 hd2;go_wp2_with fail;rw [OR.out]
 have bd1:(L++L2).length+2 ^ k≤room:=by
  exact Zt
 have bd2:(L++L2).length+2 ^ k≤100000:=by
  exact Zt
 refine (FR2.out _ (L++L2) F2 (B2.out.mod (S:=[]) (zg) (ze)) (K2.out.1.mod (S:=[]) (zg) (ze)) HD2.out K2.out.2.2.1 K2.out.2.2.2.1 bd1 bd2).mono ?_;clear bd1 bd2;rintro e w5 ⟨⟨t2,a2⟩,L3,F3,rfl,s5,m5,f5,g5,nd5,le5,re5,len5⟩;have lt2:=K2.out.1.lt;have hglF2:gl∉F2:=fun h=>by have:=lt2 _ h;omega
 have hgkF2:gk∉F2:=fun h=>(K2.out.2.1 _ h).elim hgF (fun h=>qm)
 have hsz5:gl < w5.heap.size:=by have:=m5.size;simp at this;omega
 have M5:=Z (M2.out.trans (((Ω F2 w2).alloc (R #[z U t1,z Q a1] 44)).trans' m5) HF2.out);have BR5:=Z ((BR.out.alloc (R #[z U t1,z Q a1] 44)).mod m5 hgkF2);have BL5:=Z ((Ξ w2 #[z U t1,z Q a1] 44 gl hgl.symm).mod m5 hglF2);have B5:=Z (HB.out.mod M5.out HD.out)
 have hF3:∀i,i∈F3→i∈F∨(w.heap.size≤i∧i≠gk∧i≠gl):=fun i h=>by
  rcases f5 i h with h | h
  ·rcases K2.out.2.1 i h with h2 | h2
   ·exact .inl h2
   ·have:=HGK.out;simp at h2;exact .inr ⟨J,J,by rintro rfl;exact hglF2 h⟩
  ·have:=HGK.out;simp at h;exact .inr ⟨J,J,J⟩
 have hbF3:bb∉F3:=fun h=>(hF3 _ h).elim hbF (fun h=>J)
 have hgkF3:gk∉F3:=fun h=>(hF3 _ h).elim hgF (fun h=>h.2.1 rfl)
 have hglF3:gl∉F3:=fun h=>(hF3 _ h).elim (fun h=>vi) (fun h=>h.2.2 rfl)
 have HF3:=Z hF3;have K5:=Z (I s5 (I f5 (I g5 (I nd5 (I le5 (I re5 len5))))));have le2':=K2.out.2.2.2.2.1;have MK:Φ (∀W',Ψ [] w5 W'→_):=fun W' m=>zd5 f h1 h5 (K5.out.1.mod m (ze)) (vj) (vj) hrm (J) g5 l (J) ⟨t1,a1⟩ ⟨t2,a2⟩ (le2'.grow L3) le5
 have MR:=Z (yo4 (f:=f) (l:=l) nd5 (K2.out.2.2.2.2.2.1.grow L3) re5);have MG:=Z (zg0 g5 h1 h5 (show l < n from J) (J) (le2'.grow L3) le5);obtain ⟨k0,k1,k2,k3,k4⟩:=B5.out.bb.cells5;obtain ⟨p0,p1⟩:=BL5.out.cells2;obtain ⟨gh,hgh⟩:∃gh,w5.heap.size=gh:=⟨_,rfl⟩;have hne5:¬bb=gh:=J;have hne6:¬gh=bb:=J;have hne7:¬gl=gh:=J;have hne8:¬gh=gl:=J;have hb5:bb < gh:=J;have hl5':gl < gh:=J;have hk5:gk < gh:=J;have hghF3:gh∉F3:=fun h=>by have:=s5.lt _ h;omega
 clear s5 f5 g5 nd5 le5 re5 len5 m5 lt2 le2' hF3 FR2 OV OR B2;generalize hP:mkP ((L++L2)++L3) f l ⟨t1,a1⟩ ⟨t2,a2⟩=P at *;obtain ⟨L4,rt,ra⟩:=P;unfold edv at *;simp only at MK MR MG;have HP:=Z hP;clear hP;go_wp2_with fail;have MQ:Φ (Ψ [] w5 (w5.alloc (R #[z U t2,z Q a2] 44))):=(Ω _ _).alloc _;have BH:=(Ξ w5 #[z U t2,z Q a2] 44 gh hgh.symm);generalize w5.alloc (R #[z U t2,z Q a2] 44)=wq at *;have k0:=(MQ.out.cell (a:=⟨bb,0,Y⟩) (zj) (ze)).trans k0;have k2:=(MQ.out.cell (a:=⟨bb,2,Y⟩) (zj) (ze)).trans k2;have p0:=(MQ.out.cell (a:=⟨gl,0,Y⟩) hsz5 (ze)).trans p0;have p1:=(MQ.out.cell (a:=⟨gl,1,Y⟩) hsz5 (ze)).trans p1;obtain ⟨q0,q1⟩:=BH.cells2;have zz:=MQ.out.size;have hbw:bb < wq.heap.size:=J;have hlw:gl < wq.heap.size:=J;have hhw:=BH.lt;have BRQ:=Z (BR5.out.mod MQ.out (ze));clear BH zz;have gn1:¬bb=gk:=J;have gn2:¬gk=bb:=J;have gn3:¬gl=gk:=J;have gn4:¬gk=gl:=J;have gn5:¬gh=gk:=J;have gn6:¬gk=gh:=J;clear hne hne2 hne3 hne4 hln hl5 hv5 hv0 hgh hgl hb2 hbk
 go_region_held3 (fun w'=>w'.cell? ⟨bb,0,Y⟩=N (T (N ⟨b,0,Y⟩))∧w'.cell? ⟨bb,2,Y⟩=N (z U f)∧w'.cell? ⟨gl,0,Y⟩=N (z U t1)∧w'.cell? ⟨gl,1,Y⟩=N (z Q a1)∧w'.cell? ⟨gh,0,Y⟩=N (z U t2)∧w'.cell? ⟨gh,1,Y⟩=N (z Q a2)) (go_keep) (first | (go_at_call 110;refine (MK.out _ (MQ.out.trans' (show Ψ [] wq _ from zg))).mono ?_;rintro e' w6 ⟨rfl,F4,s6,m_w6,f6⟩;have M_w6:=φ (show Ψ _ wq _ from zg) m_w6;have k0:=(M_w6.cell (a:=⟨bb,0,Y⟩) hbw (zh)).trans k0;have k2:=(M_w6.cell (a:=⟨bb,2,Y⟩) hbw (zh)).trans k2;have p0:=(M_w6.cell (a:=⟨gl,0,Y⟩) hlw (zh)).trans p0;have p1:=(M_w6.cell (a:=⟨gl,1,Y⟩) hlw (zh)).trans p1;have q0:=(M_w6.cell (a:=⟨gh,0,Y⟩) hhw (zh)).trans q0;have q1:=(M_w6.cell (a:=⟨gh,1,Y⟩) hhw (zh)).trans q1;have hbw:=E hbw M_w6.size;have hlw:=E hlw M_w6.size;have hhw:=E hhw M_w6.size;have BRW:=BRQ.out.mod M_w6 hgkF3;obtain ⟨e0,e1⟩:=BRW.cells2;obtain ⟨g0,g1,-⟩:=BRW.frozs;replace BRW:=Z BRW))
 have BX:=YC BRW.out ⟨rt,ra⟩;obtain ⟨c0,c1⟩:=BX.cells2;have MS:=Z (YD (Ω [gk] w6) gk ⟨rt,ra⟩ (fun _=>ze));have S6:=Z s6;have F6:=Z f6;have M6:=Z (M5.out.trans ((MQ.out.mono (S':=F3) (ze)).trans' M_w6) (fun i hi h=>(HF3.out i h).elim (fun h=>h) (fun h=>J)))
 have SZ:Φ (w.heap.size≤wq.heap.size):=by
  have h1:=M5.out.size;have h2:=MQ.out.size;show _≤_;omega
 change Exit.then _ _ _ _ (YM w6 gk ⟨rt,ra⟩);generalize YM w6 gk ⟨rt,ra⟩=X at *;clear e0 e1 g0 g1 BX s6 f6 m_w6 M_w6 k0 k2 p0 p1 q0 q1 BRW BRQ;simp only at c0 c1;go_wp2_with fail;refine χ (by simp [ξ,Tryz.results68,c0,c1,go_sem];try rfl) rfl ?_;obtain ⟨hG4,hle4,⟨L5,rfl⟩,hlen4⟩:=MG.out
 have hF4:∀k∈F4,k≠gk∧(k∈F∨w.heap.size≤k):=fun k hk=>by
  rcases F6.out k hk with h | h
  ·refine ⟨by rintro rfl;exact hgkF3 h,?_⟩;exact (HF3.out k h).imp (fun h=>h) (fun h=>h.1)
  ·have h1:=SZ.out;have h2:=MQ.out.size;simp at h;exact ⟨J,.inr (J)⟩
 have e2:L++L2++L3++L5=L++(L2++L3++L5):=ze;refine ⟨⟨rt,ra⟩,L2++L3++L5,F4,rfl,?_,?_,fun k hk=>(hF4 k hk).2,?_,?_,?_,?_,?_⟩
 ·rw [←e2];exact S6.out.mod MS.out (fun k hk=>by simp;exact (hF4 k hk).1)
 ·exact M6.out.trans MS.out (fun i hi h=>qm)
 ·rw [←e2];exact hG4
 ·rw [←e2];exact MR.out.2
 ·rw [←e2];exact hle4
 ·rw [←e2];exact MR.out.1
 ·have h1:=K2.out.2.2.2.2.2.2;have h2:=K5.out.2.2.2.2.2.2;have h3:=hr1'.out.2.2;simp only [Δ] at hlen4 ⊢;omega
theorem yD7 {bb b bo n f g cap W:Nat} {p q Fo:List Nat} {room:Nat} (h1:1≤f) (h5:f≤5) (hn:n≤5) (hp:p.length=n) (hpv:∀v∈p,v < n) (hrm:room≤1048576) (hW:W < 2 ^ (2 ^ n)):
 ∀k l,l+k=n→yx2 bb b bo n f g cap W p q Fo room k l:=by
 intro k
 induction k with
 | zero=>
  intro l hl;obtain rfl:l=n:=J;intro w L F x hB hS hd hG hnd hr1 hr2 hx;exact zU9 hB hS hd h1 h5 hn hW hG hnd x hx
 | succ k ih=>
  intro l hl;exact zV2 hl h1 h5 hn hp hpv hrm (ih (l+1) (J))
open Go.RowKit
theorem XH (n f b bo:Nat) (h1:1≤f) (h5:f≤5) (w:K) (VA:Φ (C V 67 #[T (N ⟨b,0,Y⟩)] w fun e w'=>e=O (z G n)∧w'=w))
 (VO:Φ (C V 31 #[T (N ⟨bo,0,Y⟩)] w fun e w'=>e=O (z G n)∧w'=w)):
 C V 65 #[T (N ⟨b,0,Y⟩),T (N ⟨bo,0,Y⟩),z U f] w fun e w'=>e=O (z U 0)∧w'=w:=by
 have IF:=Z (YZ f h1 h5 w);go_in;go_wp2_with fail;refine VA.out.mono ?_;rintro e w1 ⟨rfl,rfl⟩;go_wp2_with fail;refine VO.out.mono ?_;rintro e w1 ⟨rfl,rfl⟩;go_wp2_with fail;refine IF.out.mono ?_;rintro e w1 ⟨rfl,rfl⟩;go_wp2_with fail;go_ret;exact ⟨rfl,rfl⟩
def OfP (w:K) (b n room:Nat) (F:List Nat) (L:List Rc) (f:Nat) (x:Nat × Tr) (e:Ending) (w':K):Prop:=
 ∃ed L2 F',e=O (ω #[edv ed,z U 0])∧IsSt w' b n (L++L2) room F'∧Ψ F w w'∧(∀k∈F',k∈F∨w.heap.size≤k)∧Good (L++L2) n∧(L++L2).Nodup∧LeadsP (L++L2) f ed 0 n∧RepE (L++L2) f ed x∧L2.length+1≤2 ^ n
theorem zv3 {w:K} {b bo n f g cap W room:Nat} {p q Fo F:List Nat} {L:List Rc} (hS:IsSt w b n L room F) (hO:IsOrd w bo p q Fo) (c0:w.cell? ⟨g,0,Y⟩=N (z .u64 W)) (hd:∀k∈g::Fo,k∉F)
 (h1:1≤f) (h5:f≤5) (hn:n≤5) (hp:p.length=n) (hpv:∀v∈p,v < n) (hrm:room≤1048576) (hW:W < 2 ^ (2 ^ n)) (hG:Good L n) (hnd:L.Nodup) (hr1:L.length+2 ^ n≤room) (hr2:L.length+2 ^ n≤100000):
 C V 32 #[T (N ⟨b,0,Y⟩),T (N ⟨bo,0,Y⟩),z U f,ε #[z G n,Θ (N ⟨g,0,Y⟩) 1 cap]] w (OfP w b n room F L f (YE f n n 0 (Xz W p n 0 0))):=by
 have hgl:=D w _ c0;have hF:=hS.lt;have hFo:=hO.lt;simp only at hgl
 have VA:Φ (∀W',Ψ [] w W'→C V 67 #[T (N ⟨b,0,Y⟩)] W' fun e w'=>e=O (z G n)∧w'=W'):=fun W' m=>by
  exact Zu
 have VO:Φ (∀W',Ψ [] w W'→C V 31 #[T (N ⟨bo,0,Y⟩)] W' fun e w'=>e=O (z G n)∧w'=W'):=fun W' m=>by
  have:=Xh (hO.mod m (ze));rw [hp] at this;exact this
 have MY:Φ (∀W',Ψ [] w W'→_):=fun W' m=>XH n f b bo h1 h5 W' (VA.out W' m) (VO.out W' m)
 have RT:Φ (∀W',Ψ [] w W'→_):=fun W' m=>YX n W g cap hn hW W' ((m.cell (a:=⟨g,0,Y⟩) hgl (ze)).trans c0)
 have FR:Φ (∀(W':K) (bb:Nat),Ψ [] w W'→Blk W' bb #[T (N ⟨b,0,Y⟩),T (N ⟨bo,0,Y⟩),z U f,z G n,Θ (N ⟨g,0,Y⟩) 1 cap] 174→w.heap.size≤bb→
  C V 68 #[T (N ⟨bb,0,Y⟩),z G 0,z G 0] W' (zK2 W' b n room L F f 0 n (YE f n n 0 (Xz W p n 0 0)))):=fun W' bb m hbb hge=>by
  have:=yD7 (bb:=bb) (b:=b) (bo:=bo) (g:=g) (cap:=cap) (q:=q) (Fo:=Fo) h1 h5 hn hp hpv hrm hW n 0 (J) W' L F 0 ⟨hbb,(m.cell (a:=⟨g,0,Y⟩) hgl (ze)).trans c0,hO.mod m (ze)⟩ (hS.mod m (ze)) (by
   intro k hk;rcases κ.1 hk with rfl | hk
   ·intro h;have:=hF _ h;omega
   ·exact hd k hk) hG hnd hr1 hr2 (ν n)
  simpa using this
 have HF:=Z hF;obtain ⟨gk,hgk⟩:∃gk,w.heap.size=gk:=⟨_,rfl⟩;clear hd hpv hW hG hnd hr1 hr2 hp hS hO hF hFo;generalize YE f n n 0 (Xz W p n 0 0)=X1 at *;go_in;go_wp2_with fail;refine (MY.out _ (zg)).mono ?_;rintro e w1 ⟨rfl,rfl⟩;go_wp2_with fail;have V2:Φ (∀W',Ψ [] w W'→C V 67 #[T (N ⟨b,0,Y⟩)] W' fun e w'=>e=O (z G n)∧Ψ [] W' w'):=fun W' m=>(VA.out W' m).mono (qe)
 have B0:=(Ξ w #[z G n,Θ (N ⟨g,0,Y⟩) 1 cap] 88 gk hgk.symm).alloc (R #[z U 0,z Q 0] 44);have B1:=Ξ (w.alloc (R #[z G n,Θ (N ⟨g,0,Y⟩) 1 cap] 88)) #[z U 0,z Q 0] 44 (gk+1) (zk);have M0:Φ (Ψ [] w ((w.alloc (R #[z G n,Θ (N ⟨g,0,Y⟩) 1 cap] 88)).alloc (R #[z U 0,z Q 0] 44))):=zg;have HGK:=Z hgk;generalize (w.alloc (R #[z G n,Θ (N ⟨g,0,Y⟩) 1 cap] 88)).alloc (R #[z U 0,z Q 0] 44)=w0 at *;obtain ⟨q0,q1⟩:=B0.cells2;have hk:=B0.lt;have hk1:=B1.lt;have B1:=Z B1;clear B0 MY VA VO hgk c0
 go_region_held3 (fun w'=>w'.cell? ⟨gk,0,Y⟩=N (z G n)∧w'.cell? ⟨gk,1,Y⟩=N (Θ (N ⟨g,0,Y⟩) 1 cap)) (go_keep) (first | (go_at_call 66;refine (RT.out _ (M0.out.trans' (show Ψ [] w0 _ from zg))).mono ?_;rintro e' wa ⟨rfl,m_wa⟩;have M_wa:=φ (show Ψ _ w0 _ from zg) m_wa;have q0:=(M_wa.cell (a:=⟨gk,0,Y⟩) hk (zh)).trans q0;have q1:=(M_wa.cell (a:=⟨gk,1,Y⟩) hk (zh)).trans q1;have hk:=E hk M_wa.size) | (go_at_call 67;refine (V2.out _ (M0.out.trans' (M_wa.trans' (show Ψ [] wa _ from zg)))).mono ?_;rintro e' wb ⟨rfl,m_wb⟩;have M_wb:=φ (show Ψ _ wa _ from zg) m_wb;have q0:=(M_wb.cell (a:=⟨gk,0,Y⟩) hk (zh)).trans q0;have q1:=(M_wb.cell (a:=⟨gk,1,Y⟩) hk (zh)).trans q1;have hk:=E hk M_wb.size))
 have M1:=Z (M0.out.trans' (M_wa.trans' M_wb));have B2:=Z (B1.out.mod (M_wa.trans' M_wb) (ze));clear m_wa m_wb M_wa M_wb RT V2 B1 M0;obtain ⟨gb,hgb⟩:∃gb,wb.heap.size=gb:=⟨_,rfl⟩;have hkb:gk < gb:=J;have hne1:¬gk=gb:=J;have hne2:¬gb=gk:=J;go_wp2_with fail;refine (FR.out _ gb (M1.out.trans' (show Ψ [] wb _ from zg)) (Ξ wb _ _ gb hgb.symm) (qo)).mono ?_;rintro e w5 ⟨⟨t2,a2⟩,L2,F2,rfl,s5,m5,f5,g5,nd5,le5,re5,len5⟩;have hgF:gk+1∉F:=fun h=>vi
 have B5:=Z (((B2.out).alloc (R #[T (N ⟨b,0,Y⟩),T (N ⟨bo,0,Y⟩),z U f,z G n,Θ (N ⟨g,0,Y⟩) 1 cap] 174)).mod m5 hgF);have M5:=Z (((M1.out.trans' (show Ψ [] wb (wb.alloc (R #[T (N ⟨b,0,Y⟩),T (N ⟨bo,0,Y⟩),z U f,z G n,Θ (N ⟨g,0,Y⟩) 1 cap] 174)) from zg)).mono (S':=F) (ze)).trans' m5);have SZ:Φ (w.heap.size≤wb.heap.size∧gk+1 < wb.heap.size):=⟨M1.out.size,B2.out.lt⟩;have K5:=Z (I s5 (I f5 (I g5 (I nd5 (I le5 (I re5 len5))))));obtain ⟨e0,e1⟩:=B5.out.cells2;obtain ⟨f0,f1,-⟩:=B5.out.frozs;clear s5 f5 g5 nd5 le5 re5 len5 m5 FR q0 q1;unfold edv;go_wp2_with fail;have BX:=YC B5.out ⟨t2,a2⟩;obtain ⟨c0,c1⟩:=BX.cells2;have MS:=Z (YD (Ω [gk+1] w5) (gk+1) ⟨t2,a2⟩ (fun _=>ze));change bodyPost _ _ _ _ _ (YM w5 (gk+1) ⟨t2,a2⟩);generalize YM w5 (gk+1) ⟨t2,a2⟩=X at *;clear e0 e1 f0 f1 BX;simp only at c0 c1;refine χ (by simp [ξ,Tryz.results32,c0,c1,go_sem];try rfl) rfl ?_;obtain ⟨s5,f5,g5,nd5,le5,re5,len5⟩:=K5.out
 have hF2:∀k∈F2,k≠gk+1∧(k∈F∨w.heap.size≤k):=fun k hk=>by
  have h1:=SZ.out;rcases f5 k hk with h | h
  ·exact ⟨by rintro rfl;exact hgF h,.inl h⟩
  ·simp at h;exact ⟨J,.inr (J)⟩
 exact ⟨⟨t2,a2⟩,L2,F2,rfl,s5.mod MS.out (fun k hk=>by simp;exact (hF2 k hk).1),M5.out.trans MS.out (fun i hi h=>qm),fun k hk=>(hF2 k hk).2,g5,nd5,le5,re5,len5⟩
end Go.Proofs.YtbnpoapmnkfhkaaGreatDoor
