import Derived.Test.YtbnpoapmnkfhkaaGreatDoorZt23
import Derived.Deep.RegionLaw
import Derived.Deep.CutRange
import Derived.Test.YtbnpoapmnkfhkaaGreatDoorZt14
import Derived.Deep.RegionHeld3
set_option maxRecDepth 100000
set_option maxHeartbeats 4000000
set_option linter.unusedVariables false
set_option linter.unusedSimpArgs false
namespace Go.Proofs.YtbnpoapmnkfhkaaGreatDoor
open Go.Value renaming int → z, pointer → u, tuple → C
open Go.Lib renaming hid → y
open Option renaming none → x, some → j
open Go.IntKind renaming u32 → s, u8 → d, i64 → S
open Go.Obj renaming cells → o
open Nat renaming lt_of_lt_of_le → c
open Go.Proofs.Tryz renaming prog → Z
open Go.RowKit renaming Hid → Y
open List renaming setIfInBounds_toArray → X, set_cons_zero → Q, set_cons_succ → O, range → D
open Go.Proofs.YtbnpoapmnkfhkaaGreatDoor.Mod renaming refl → V, trans' → E
open Go.Proofs.YtbnpoapmnkfhkaaGreatDoor renaming Mod → U, zc → K, ze → J, Blk → A
open Go.Ending renaming returned → T
open Go.Proofs.YtbnpoapmnkfhkaaGreatDoor.Blk renaming new' → R
open Go.World renaming block_lt_of_cell? → N
open Go renaming Calls → M, World → I, bodyPost_ret → G, results → B
open Go.RowKit
def zI7 (f:Nat):Nat→List Rc→Ed→List Rc × Ed
 | 0,L,e=>(L,e)
 | k+1,L,e=>zI7 f k (mkP L f k (if k=0 then ⟨0,0⟩ else e) e).1 (mkP L f k (if k=0 then ⟨0,0⟩ else e) e).2
def zb0 (L:List Rc) (f:Nat):List Rc × Ed:=zI7 f 3 L (zi1 f 3)
theorem zL0 (L:List Rc) (f l n:Nat):LeadsP L f ⟨0,0⟩ l n:=
 ⟨⟨fun _=>rfl,fun _ h=>absurd rfl h⟩,.inl (J)⟩
theorem zQ9 (L:List Rc) (f:Nat) (h1:1≤f) (h5:f≤5):LeadsP L f (zi1 f 3) 3 3:=by
 unfold zi1;by_cases h:f=5
 ·rw [if_pos h];exact ⟨⟨fun h'=>by simp [h] at h',fun _ _=>J⟩,.inl (J)⟩
 ·rw [if_neg h];exact ⟨⟨fun _=>rfl,fun h'=>absurd h' h⟩,.inl (J)⟩
theorem ZM {p:Prop} (h:p:=by
 have:=((B13y.out.set 0 (z d rt)).set 1 (z s ra)).alloc (o #[z d rt,z s ra] 44);simp only [X,Q,O] at this
 exact this):p:=h
theorem ZN {p:Prop} (h:p:=by
 show _=_;have:=HC.out;rw [zI7] at this;rw [if_neg (K),HP.out] at this
 exact this):p:=h
theorem ZP {p:Prop} (h:p:=by
 obtain ⟨ba,bi,Fa,c0,-⟩:=(h.mod m (J)).own
 exact YH b 3 W c0):p:=h
theorem yv7 (f:Nat) (h1:1≤f) (h5:f≤5) {w:I} {b:Nat} {L:List Rc} {room:Nat} {F:List Nat} (h:IsSt w b 3 L room F) (hL:L.length≤1000) (hroom:L.length+3 < room) (hrm:room≤1048576) (hG:Good L 3):
 M Z 83 #[u (j ⟨b,0,x⟩),z d f,z S 0,z .u16 1,z .u16 0] w (zq7 w b 3 room F (zb0 L f).1 (zb0 L f).2):=by
 have IF:=y (YZ f h1 h5)
 have VR:Y (∀W,U [] w W→M Z 67 #[u (j ⟨b,0,x⟩)] W fun e w'=>e=T (z S ((3:Nat):Int))∧w'=W):=fun W m=>by
  exact ZP
 have ON:Y (∀W',M Z 108 #[z d f,z S ((3:Nat):Int)] W' fun e' w'=>e'=T (edv (zi1 f 3))∧U [] W' w'):=fun W'=>zU4 f h1 h5 3 (K) W'
 have HS:=y h;clear h;go_in;go_wp2_with fail;refine (IF.out _).mono ?_;rintro e w1 ⟨rfl,rfl⟩;go_wp2_with fail;refine (VR.out _ (zg)).mono ?_;rintro e w1 ⟨rfl,rfl⟩;obtain ⟨g10,hg10⟩:∃g,w.heap.size=g:=⟨_,rfl⟩;go_wp2_with fail;refine (ON.out _).mono ?_;rintro e w1 ⟨rfl,m1⟩;have B10:=y ((R w #[z d 0,z s 0] 44 g10 hg10.symm).mod m1 (J));have M1:Y (U [] w w1):=E ((V _ _).alloc _) m1;have S1:=y (HS.out.mod M1.out (J));obtain ⟨et,ea,hE⟩:∃t a,zi1 f 3=⟨t,a⟩:=⟨_,_,rfl⟩;rw [hE];have HE:=y hE;clear hE;clear m1;obtain ⟨g13,hg13⟩:∃g,w1.heap.size=g:=⟨_,rfl⟩;unfold edv;simp only;go_wp2_with fail;have B13:=y (R w1 #[z d et,z s ea] 44 g13 hg13.symm);have M2:Y (U [] w1 (w1.alloc (o #[z d et,z s ea] 44))):=(V _ _).alloc _;have SZ2:Y ((w1.alloc (o #[z d et,z s ea] 44)).heap.size=g13+1):=by show _=_;simp [hg13]
 generalize w1.alloc (o #[z d et,z s ea] 44)=w2 at *
 go_loopw [14,15,16,17,18] (fun i14 _ _ _ _ wr=>∃(m:Nat) (L':List Rc) (t a:Nat) (F':List Nat),i14=z S ((m:Int) - 1)∧m≤3∧Y (zI7 f m L' ⟨t,a⟩=zb0 L f)∧Y (IsSt wr b 3 L' room F')∧Y (A wr g13 #[z d t,z s a] 44)∧Y (A wr g10 #[z d 0,z s 0] 44)∧
  Y (U F w wr)∧Y (∀k∈F',k∈F∨w.heap.size≤k)∧Y (g13∉F'∧g10∉F')∧Y (Good L' 3)∧Y (LeadsP L' f ⟨t,a⟩ m 3)∧L'.length+m≤L.length+3) (fun i _ _ _ _ _=>(intOf i+1).toNat)
 case atStart=>
  refine ⟨3,L,et,ea,F,yV,K,?_,S1.out.mod M2.out (J),B13.out,B10.out.mod M2.out (J),M1.out.mono (J) |>.trans' (M2.out.mono (J)),fun k hk=>.inl hk,⟨fun h=>by have h2:=HS.out.lt _ h;have:=M1.out.size;omega,fun h=>by have h2:=HS.out.lt _ h;omega⟩,hG,?_,K⟩
  ·show zI7 f 3 L ⟨et,ea⟩=zb0 L f;rw [zb0,HE.out]
  ·show LeadsP _ _ _ _ _;rw [←HE.out];exact zQ9 L f h1 h5
 case round=>
  obtain ⟨m,L',t,a,F',rfl,hm,HC,HS',HB13,HB10,HMD,HF',HN,HG',HL',hlen⟩:=hrel;clear B13;by_cases hm0:m=0
  ·subst hm0;obtain ⟨e0,e1⟩:=HB13.out.cells2;obtain ⟨x0,x1⟩:=HB10.out.cells2;obtain ⟨y0,y1,-⟩:=HB10.out.frozs;go_wp2_with fail;have BW:=((HB10.out.set 0 (z d t)).set 1 (z s a));simp only [X,Q,O] at BW;obtain ⟨z0,z1⟩:=BW.cells2;have MW:Y (U [g10] wr ((wr.setCell ⟨g10,0,x⟩ (z d t)).setCell ⟨g10,1,x⟩ (z s a))):=((V _ _).setCell _ _ (J)).setCell _ _ (J);generalize (wr.setCell ⟨g10,0,x⟩ (z d t)).setCell ⟨g10,1,x⟩ (z s a)=w4 at *;clear BW x0 x1 y0 y1 e0 e1;refine G (v:=C #[.agg #[z d t,z s a],z d 0]) (by simp [B,Tryz.results83,go_sem,z0,z1];try rfl) rfl ?_;have hc:zb0 L f=(L',⟨t,a⟩):=HC.out.symm;rw [hc];exact ⟨rfl,F',HS'.out.mod MW.out (fun k hk h=>vI),HMD.out.trans MW.out (fun i hi h=>zG),HF'.out⟩
  ·obtain ⟨k,rfl⟩:∃k,m=k+1:=⟨m - 1,K⟩;have hk0:(((k+1:Nat):Int) - 1)=(k:Int):=K;simp only [hk0];obtain ⟨e0,e1⟩:=HB13.out.cells2;obtain ⟨gn,hgn⟩:∃g,wr.heap.size=g:=⟨_,rfl⟩;have hlt:g13 < gn:=by have:=HB13.out.lt;omega
   have n1:¬g13=gn:=K;have n2:¬gn=g13:=K;have n3:¬g13=gn+1:=K;have n4:¬gn+1=g13:=K;have hk00:(0:Int)≤k:=K;go_upto_region 14 with fail;go_cut [15,16] from 66 to 98 (fun p15 p16 wx=>∃ga gb,p15=u (j ⟨ga,0,x⟩)∧p16=u (j ⟨gb,0,x⟩)∧Y (A wx ga #[z d t,z s a] 44)∧Y (A wx gb #[z d t,z s a] 44)∧gn≤ga∧gn≤gb∧ga≠gb∧Y (U [] wr wx))
   case first=>
    go_region
    all_goals (go_wp2_with fail;go_meet)
    all_goals
     have BN:=((R wr #[z d t,z s a] 44 gn hgn.symm).alloc (o #[z d t,z s a] 44));have BN1:=(R (wr.alloc (o #[z d t,z s a] 44)) #[z d t,z s a] 44 (gn+1) (by simp [hgn]));have MN:U [] wr ((wr.alloc (o #[z d t,z s a] 44)).alloc (o #[z d t,z s a] 44)):=((V _ _).alloc _).alloc _
     first
      | exact ⟨gn,gn+1,rfl,rfl,BN,BN1,K,K,K,yy⟩
      | exact ⟨gn+1,gn,rfl,rfl,BN1,BN,K,K,K,yy⟩
   case rest=>
    obtain ⟨ga,gb,rfl,rfl,BA,BB,hga,hgb,hgab,MX⟩:=hcut;have SX:=y (HS'.out.mod MX.out (J));have FL:Y (∀k∈F',k < gn):=fun k hk=>by have:=HS'.out.lt k hk;omega
    have haF:ga∉F':=fun h=>jq
    have hbF:gb∉F':=fun h=>jq
    have B13x:=y (HB13.out.mod MX.out (J));have B10x:=y (HB10.out.mod MX.out (J));have HAF:=y haF;have HBF:=y hbF;obtain ⟨a0,a1⟩:=BA.out.cells2;obtain ⟨b0,b1⟩:=BB.out.cells2;obtain ⟨z0,z1,-⟩:=BA.out.frozs;have hab1:¬ga=gb:=hgab;have hab2:¬gb=ga:=fun e=>hgab e.symm
    have hac1:¬ga=g13:=K;have hac2:¬g13=ga:=K;have hbc1:¬gb=g13:=K;have hbc2:¬g13=gb:=K;have had1:¬ga=g10:=xC;have hk3:k < 3:=K;have MK:Y (∀W lo,U [ga] wc W→LeadsP L' f lo (k+1) 3→_):=fun W lo m hlo=>zd5 f h1 h5 (SX.out.mod m (fun k hk h=>vJ)) (K) (K) hrm (K) HG'.out k hk3 lo ⟨t,a⟩ hlo HL'.out
    clear haF hbF e0 e1;by_cases hkz:k=0
    ·subst hkz;have hz:Y (LeadsP L' f ⟨0,0⟩ (0+1) 3):=zL0 _ _ _ _;unfold edv at MK;simp only at MK;go_wp2_with fail;refine (MK.out _ ⟨0,0⟩ (zg) hz.out).mono ?_;rintro e w5 ⟨rfl,F2,s2,m2,f2⟩;have MG:=y (zg0 HG'.out h1 h5 hk3 (K) hz.out HL'.out)
     have MW:Y (U [ga] wc ((wc.setCell ⟨ga,0,x⟩ (z d 0)).setCell ⟨ga,1,x⟩ (z s 0))):=by
      show U _ _ _;exact yK7
     have B13y:=y ((B13x.out.mod MW.out (zj)).mod m2 HN.out.1);have B10y:=y ((B10x.out.mod MW.out (zj)).mod m2 HN.out.2);have SZW:wc.heap.size≤((wc.setCell ⟨ga,0,x⟩ (z d 0)).setCell ⟨ga,1,x⟩ (z s 0)).heap.size:=MW.out.size;have HSX:wr.heap.size≤wc.heap.size:=MX.out.size;have S2:=y s2;have MM:Y (U F w w5):=((HMD.out.trans' (MX.out.mono (J))).trans MW.out (fun i hi h=>jr)).trans m2 (fun i hi h=>(HF'.out i h).elim id fun h'=>K);have FF2:Y (∀k∈F2,k∈F'∨gn≤k):=fun k hk=>(f2 k hk).imp id fun h=>K
     clear s2 m2 f2 MK MW SZW HSX a0 a1 b0 b1 z0 z1;generalize hP:mkP L' f 0 ⟨0,0⟩ ⟨t,a⟩=P at *;obtain ⟨L2,rt,ra⟩:=P;simp only at S2 MG;have HP:=y hP;clear hP;obtain ⟨c0,c1⟩:=B13y.out.cells2;obtain ⟨d0,d1,-⟩:=B13y.out.frozs;obtain ⟨gz,hgz⟩:∃g,w5.heap.size=g:=⟨_,rfl⟩;have hgl:=B13y.out.lt;rw [hgz] at hgl;have p1:¬g13=gz:=K;have p2:¬gz=g13:=K;have hzF:gz∉F2:=fun h=>js
     have h13:g13∉F2:=fun h=>(FF2.out _ h).elim HN.out.1 (fun h=>K)
     have h10:g10∉F2:=fun h=>(FF2.out _ h).elim HN.out.2 (fun h=>xC)
     have HH:=y (And.intro h13 h10);have FFw:Y (∀k∈F2,k∈F∨w.heap.size≤k):=fun k hk=>(FF2.out k hk).elim (HF'.out k) (fun h=>.inr (jt))
     clear hzF h13 h10;simp only;go_wp2_with fail;have MZ:Y (U [g13] w5 (((w5.setCell ⟨g13,0,x⟩ (z d rt)).setCell ⟨g13,1,x⟩ (z s ra)).alloc (o #[z d rt,z s ra] 44))):=(((V _ _).setCell _ _ (J)).setCell _ _ (J)).alloc _
     have BZ:Y (A (((w5.setCell ⟨g13,0,x⟩ (z d rt)).setCell ⟨g13,1,x⟩ (z s ra)).alloc (o #[z d rt,z s ra] 44)) g13 #[z d rt,z s ra] 44):=by
      exact ZM
     go_roundw
     case rel=>
      refine ⟨0,L2,rt,ra,F2,yw,K,?_,?_,?_,?_,?_,FFw.out,HH.out,MG.out.1,MG.out.2.1,ju⟩
      ·show _=_;have:=HC.out;rw [zI7] at this;rw [if_pos rfl,HP.out] at this;exact this
      ·exact S2.out.mod MZ.out (fun k hk h=>xD)
      ·exact BZ.out
      ·exact B10y.out.mod MZ.out (xE)
      ·exact MM.out.trans MZ.out (fun i hi h=>jv)
     case measure=>simp [intOf];try omega
    ·have hz:=HL';unfold edv at MK;simp only at MK;obtain rfl | rfl:k=1∨k=2:=K
     ·go_wp2_with fail;refine (MK.out _ ⟨t,a⟩ (zg) hz.out).mono ?_;rintro e w5 ⟨rfl,F2,s2,m2,f2⟩;have MG:=y (zg0 HG'.out h1 h5 hk3 (K) hz.out HL'.out)
      have MW:Y (U [ga] wc wc):=by
       show U _ _ _;exact yK7
      have B13y:=y ((B13x.out.mod MW.out (zj)).mod m2 HN.out.1);have B10y:=y ((B10x.out.mod MW.out (zj)).mod m2 HN.out.2);have SZW:wc.heap.size≤wc.heap.size:=MW.out.size;have HSX:wr.heap.size≤wc.heap.size:=MX.out.size;have S2:=y s2;have MM:Y (U F w w5):=((HMD.out.trans' (MX.out.mono (J))).trans MW.out (fun i hi h=>jr)).trans m2 (fun i hi h=>(HF'.out i h).elim id fun h'=>K);have FF2:Y (∀k∈F2,k∈F'∨gn≤k):=fun k hk=>(f2 k hk).imp id fun h=>K
      clear s2 m2 f2 MK MW SZW HSX a0 a1 b0 b1 z0 z1;generalize hP:mkP L' f 1 ⟨t,a⟩ ⟨t,a⟩=P at *;obtain ⟨L2,rt,ra⟩:=P;simp only at S2 MG;have HP:=y hP;clear hP;obtain ⟨c0,c1⟩:=B13y.out.cells2;obtain ⟨d0,d1,-⟩:=B13y.out.frozs;obtain ⟨gz,hgz⟩:∃g,w5.heap.size=g:=⟨_,rfl⟩;have hgl:=B13y.out.lt;rw [hgz] at hgl;have p1:¬g13=gz:=K;have p2:¬gz=g13:=K;have hzF:gz∉F2:=fun h=>js
      have h13:g13∉F2:=fun h=>(FF2.out _ h).elim HN.out.1 (fun h=>K)
      have h10:g10∉F2:=fun h=>(FF2.out _ h).elim HN.out.2 (fun h=>xC)
      have HH:=y (And.intro h13 h10);have FFw:Y (∀k∈F2,k∈F∨w.heap.size≤k):=fun k hk=>(FF2.out k hk).elim (HF'.out k) (fun h=>.inr (jt))
      clear hzF h13 h10;simp only;go_wp2_with fail;have MZ:Y (U [g13] w5 (((w5.setCell ⟨g13,0,x⟩ (z d rt)).setCell ⟨g13,1,x⟩ (z s ra)).alloc (o #[z d rt,z s ra] 44))):=(((V _ _).setCell _ _ (J)).setCell _ _ (J)).alloc _
      have BZ:Y (A (((w5.setCell ⟨g13,0,x⟩ (z d rt)).setCell ⟨g13,1,x⟩ (z s ra)).alloc (o #[z d rt,z s ra] 44)) g13 #[z d rt,z s ra] 44):=by
       exact ZM
      go_roundw
      case rel=>
       refine ⟨1,L2,rt,ra,F2,yw,K,?_,?_,?_,?_,?_,FFw.out,HH.out,MG.out.1,MG.out.2.1,ju⟩
       ·exact ZN
       ·exact S2.out.mod MZ.out (fun k hk h=>xD)
       ·exact BZ.out
       ·exact B10y.out.mod MZ.out (xE)
       ·exact MM.out.trans MZ.out (fun i hi h=>jv)
      case measure=>simp [intOf];try omega
     ·go_wp2_with fail;refine (MK.out _ ⟨t,a⟩ (zg) hz.out).mono ?_;rintro e w5 ⟨rfl,F2,s2,m2,f2⟩;have MG:=y (zg0 HG'.out h1 h5 hk3 (K) hz.out HL'.out)
      have MW:Y (U [ga] wc wc):=by
       show U _ _ _;exact yK7
      have B13y:=y ((B13x.out.mod MW.out (zj)).mod m2 HN.out.1);have B10y:=y ((B10x.out.mod MW.out (zj)).mod m2 HN.out.2);have SZW:wc.heap.size≤wc.heap.size:=MW.out.size;have HSX:wr.heap.size≤wc.heap.size:=MX.out.size;have S2:=y s2;have MM:Y (U F w w5):=((HMD.out.trans' (MX.out.mono (J))).trans MW.out (fun i hi h=>jr)).trans m2 (fun i hi h=>(HF'.out i h).elim id fun h'=>K);have FF2:Y (∀k∈F2,k∈F'∨gn≤k):=fun k hk=>(f2 k hk).imp id fun h=>K
      clear s2 m2 f2 MK MW SZW HSX a0 a1 b0 b1 z0 z1;generalize hP:mkP L' f 2 ⟨t,a⟩ ⟨t,a⟩=P at *;obtain ⟨L2,rt,ra⟩:=P;simp only at S2 MG;have HP:=y hP;clear hP;obtain ⟨c0,c1⟩:=B13y.out.cells2;obtain ⟨d0,d1,-⟩:=B13y.out.frozs;obtain ⟨gz,hgz⟩:∃g,w5.heap.size=g:=⟨_,rfl⟩;have hgl:=B13y.out.lt;rw [hgz] at hgl;have p1:¬g13=gz:=K;have p2:¬gz=g13:=K;have hzF:gz∉F2:=fun h=>js
      have h13:g13∉F2:=fun h=>(FF2.out _ h).elim HN.out.1 (fun h=>K)
      have h10:g10∉F2:=fun h=>(FF2.out _ h).elim HN.out.2 (fun h=>xC)
      have HH:=y (And.intro h13 h10);have FFw:Y (∀k∈F2,k∈F∨w.heap.size≤k):=fun k hk=>(FF2.out k hk).elim (HF'.out k) (fun h=>.inr (jt))
      clear hzF h13 h10;simp only;go_wp2_with fail;have MZ:Y (U [g13] w5 (((w5.setCell ⟨g13,0,x⟩ (z d rt)).setCell ⟨g13,1,x⟩ (z s ra)).alloc (o #[z d rt,z s ra] 44))):=(((V _ _).setCell _ _ (J)).setCell _ _ (J)).alloc _
      have BZ:Y (A (((w5.setCell ⟨g13,0,x⟩ (z d rt)).setCell ⟨g13,1,x⟩ (z s ra)).alloc (o #[z d rt,z s ra] 44)) g13 #[z d rt,z s ra] 44):=by
       exact ZM
      go_roundw
      case rel=>
       refine ⟨2,L2,rt,ra,F2,yw,K,?_,?_,?_,?_,?_,FFw.out,HH.out,MG.out.1,MG.out.2.1,ju⟩
       ·exact ZN
       ·exact S2.out.mod MZ.out (fun k hk h=>xD)
       ·exact BZ.out
       ·exact B10y.out.mod MZ.out (xE)
       ·exact MM.out.trans MZ.out (fun i hi h=>jv)
      case measure=>simp [intOf];try omega
open Go.RowKit
theorem zJ8 {w:I} {b:Nat} {p q:List Nat} {F:List Nat} (h:IsOrd w b p q F) (hp:q.length≤16) (l:Nat) (hl:l < q.length):
 M Z 84 #[u (j ⟨b,0,x⟩),z S l] w fun e w'=>e=T (z S (q[l]:Nat))∧w'=w:=by
 obtain ⟨vp,vq,Fp,Fq,h1,h2,h3,rfl,r⟩:=h;obtain ⟨g,cap,rfl,rfl,hcap⟩:=h3.pos (K);have c0:=h1.cell 1;simp only [List.getElem?_toArray,List.getElem?_cons_zero,List.getElem?_cons_succ] at c0;have d0:=(h3.at l (K)).1;rw [List.getElem?_map,List.getElem?_eq_getElem hl] at d0;simp only [Option.map_some] at d0;have AT:=y (yM6 (j ⟨g,0,x⟩) g q.length cap l (q[l]:Nat) hl (K) w rfl d0);generalize (q[l]:Nat)=v at *;clear h1 h2 h3 d0;go_in;go_wp2_with fail;refine AT.out.mono ?_;rintro e w' ⟨rfl,rfl⟩;go_wp2_with fail;go_ret;exact ⟨rfl,rfl⟩
theorem zC1 (f:Nat) (h1:1≤f) (h5:f≤5) {w:I} {b bo:Nat} {L:List Rc} {room:Nat} {F:List Nat} {p q Fo:List Nat} (h:IsSt w b 3 L room F) (hO:IsOrd w bo p q Fo) (hp:p.length=3) (hq:q[0]? =j 0) (hql:q.length≤16)
 (hL:L.length≤1000) (hroom:L.length+3 < room) (hrm:room≤1048576) (hG:Good L 3):
 M Z 46 #[u (j ⟨b,0,x⟩),u (j ⟨bo,0,x⟩),z d f,z S 0] w (zq7 w b 3 room F (zb0 L f).1 (zb0 L f).2):=by
 have VA:Y (∀W,U [] w W→M Z 67 #[u (j ⟨b,0,x⟩)] W fun e w'=>e=T (z S ((3:Nat):Int))∧w'=W):=fun W m=>by
  exact ZP
 have MY:Y (∀W,U [] w W→_):=fun W m=>XH 3 f b bo h1 h5 W (VA.out W m) (jw)
 obtain ⟨hq0,hqe⟩:=List.getElem?_eq_some_iff.1 hq
 have LV:Y (∀W,U [] w W→M Z 84 #[u (j ⟨bo,0,x⟩),z S 0] W fun e w'=>e=T (z S 0)∧w'=W):=fun W m=>by
  have:=zJ8 (hO.mod m (J)) hql 0 hq0;rw [hqe] at this;exact this
 have CU:Y (∀W,U [] w W→_):=fun W m=>yv7 f h1 h5 (h.mod m (J)) hL hroom hrm hG
 have HS:=y h;obtain ⟨g8,hg8⟩:∃g,w.heap.size=g:=⟨_,rfl⟩;clear h hO hqe hq0 hq;generalize zb0 L f=P at *;obtain ⟨L',t,a⟩:=P;go_in;go_wp2_with fail;refine (MY.out _ (zg)).mono ?_;rintro e w1 ⟨rfl,rfl⟩;go_wp2_with fail;refine (VA.out _ (zg)).mono ?_;rintro e w1 ⟨rfl,rfl⟩;go_wp2_with fail;refine (LV.out _ (zg)).mono ?_;rintro e w1 ⟨rfl,rfl⟩;go_wp2_with fail;refine (CU.out _ (zg)).mono ?_;rintro e w5 ⟨rfl,F',s1,m1,f1⟩;have NF:g8∉F:=fun h=>by have:=HS.out.lt _ h;omega
 have B8:=y ((R w #[z d 0,z s 0] 44 g8 hg8.symm).mod m1 NF);obtain ⟨x0,x1⟩:=B8.out.cells2;obtain ⟨y0,y1,-⟩:=B8.out.frozs;have S1:=y s1;have M1:Y (U F w w5):=E (((V [] w).alloc _).mono (J)) m1;have SF:Y (∀k∈F',k∈F∨w.heap.size≤k):=fun k hk=>(f1 k hk).imp id fun h=>zG
 have NF':Y (g8∉F'):=fun h=>(f1 _ h).elim NF (fun h=>zG)
 clear s1 m1 f1 NF CU LV VA MY;unfold edv;simp only at *;go_wp2_with fail;have BW:=((B8.out.set 0 (z d t)).set 1 (z s a));simp only [X,Q,O] at BW;obtain ⟨z0,z1⟩:=BW.cells2;have MW:Y (U [g8] w5 ((w5.setCell ⟨g8,0,x⟩ (z d t)).setCell ⟨g8,1,x⟩ (z s a))):=((V _ _).setCell _ _ (J)).setCell _ _ (J);generalize (w5.setCell ⟨g8,0,x⟩ (z d t)).setCell ⟨g8,1,x⟩ (z s a)=w4 at *;clear BW x0 x1 y0 y1;refine G (v:=C #[.agg #[z d t,z s a],z d 0]) (by simp [B,Tryz.results46,go_sem,z0,z1];try rfl) rfl ?_;exact ⟨rfl,F',S1.out.mod MW.out (fun k hk h=>qy),M1.out.trans MW.out (fun i hi h=>zG),SF.out⟩
open Go.RowKit
theorem yD3 (f:Nat) (h1:1≤f) (h5:f≤5) {w:I} {bm room:Nat} {L:List Rc} {Fs p:List Nat} {H:List (Nat × Ed)} {bs bo bq:Nat} {F:List Nat} (h:Mng w bm 3 room L Fs p H bs bo bq F) (hp:p=D 3)
 (hL:L.length≤1000) (hroom:L.length+3 < room) (hrm:room≤1048576) (hG:Good L 3) {cm cf cv:Nat} (a0:w.cell? ⟨cm,0,x⟩=j (u (j ⟨bm,0,x⟩))) (b0:w.cell? ⟨cf,0,x⟩=j (z d f)) (c0:w.cell? ⟨cv,0,x⟩=j (z S 0))
 (hcm:cm∉Fs) (hcf:cf∉Fs) (hcv:cv∉Fs):
 M Z 45 #[u (j ⟨cm,0,x⟩),u (j ⟨cf,0,x⟩),u (j ⟨cv,0,x⟩)] w (zq7 w bs 3 room Fs (zb0 L f).1 (zb0 L f).2):=by
 obtain ⟨-,hbF,-⟩:=h.own;obtain ⟨ba,bg,vk,vq,vg,Fo,q,g1,g2,g3,-⟩:=h.m;have d3:=g1.cell 3 (K);have d4:=g1.cell 4 (K);replace d3:w.cell? ⟨bm,3,x⟩=j (u (j ⟨bs,0,x⟩)):=d3;replace d4:w.cell? ⟨bm,4,x⟩=j (u (j ⟨bo,0,x⟩)):=d4;subst hp;have BV:Y (∀W,U [] w W→_):=fun W m=>zC1 f h1 h5 (h.s.mod m (J)) (g2.mod m (J)) (J) (by have:=g3.at_ 0 (J);simpa using this) (by have:=g3.len;simp at this;omega) hL hroom hrm hG
 have hbm:=g1.lt;have HS:=y h.s;have lcm:=N w _ a0;have lcf:=N w _ b0;have lcv:=N w _ c0;simp only at lcm lcf lcv;obtain ⟨gk,hgk⟩:∃g,w.heap.size=g:=⟨_,rfl⟩;clear h g1 g2 g3;generalize zb0 L f=P at *;obtain ⟨L',t,a⟩:=P;have n1:¬cm=gk:=K;have n2:¬gk=cm:=K;have n3:¬cf=gk:=K;have n4:¬gk=cf:=K;have n5:¬cv=gk:=K;have n6:¬gk=cv:=K;have n7:¬bm=gk:=K;have n8:¬gk=bm:=K;go_in;go_wp2_with fail;have B3:=y (R w #[z d 0,z s 0] 44 gk hgk.symm);have MQ:Y (U [] w (w.alloc (o #[z d 0,z s 0] 44))):=(V _ _).alloc _;have NK:Y (gk∉Fs):=fun h=>by have:=HS.out.lt _ h;omega
 have a0:=(MQ.out.cell (a:=⟨cm,0,x⟩) lcm (J)).trans a0;have b0:=(MQ.out.cell (a:=⟨cf,0,x⟩) lcf (J)).trans b0;have c0:=(MQ.out.cell (a:=⟨cv,0,x⟩) lcv (J)).trans c0;have d3:=(MQ.out.cell (a:=⟨bm,3,x⟩) hbm (J)).trans d3;have d4:=(MQ.out.cell (a:=⟨bm,4,x⟩) hbm (J)).trans d4;have lcm:=c lcm MQ.out.size;have lcf:=c lcf MQ.out.size;have lcv:=c lcv MQ.out.size;have hbm:=c hbm MQ.out.size;have SZ:Y ((w.alloc (o #[z d 0,z s 0] 44)).heap.size=gk+1):=by show _=_;simp [hgk]
 have HGK:=y hgk;have hgF:gk∉Fs:=NK.out;clear hgk;generalize w.alloc (o #[z d 0,z s 0] 44)=w0 at *;unfold zq7 edv at BV;simp only at BV
 go_region_held3 (fun w'=>w'.cell? ⟨cm,0,x⟩=j (u (j ⟨bm,0,x⟩))∧w'.cell? ⟨cf,0,x⟩=j (z d f)∧w'.cell? ⟨cv,0,x⟩=j (z S 0)∧w'.cell? ⟨bm,3,x⟩=j (u (j ⟨bs,0,x⟩))∧w'.cell? ⟨bm,4,x⟩=j (u (j ⟨bo,0,x⟩))) (go_keep) (first | (go_at_call 46;refine (BV.out _ (MQ.out.trans' (show U [] w0 _ from zg))).mono ?_;rintro e' w2 ⟨rfl,F2,s2,m_w2,f2⟩;have M_w2:=E (show U _ w0 _ from zg) m_w2;have a0:=(M_w2.cell (a:=⟨cm,0,x⟩) lcm (zh)).trans a0;have b0:=(M_w2.cell (a:=⟨cf,0,x⟩) lcf (zh)).trans b0;have c0:=(M_w2.cell (a:=⟨cv,0,x⟩) lcv (zh)).trans c0;have d3:=(M_w2.cell (a:=⟨bm,3,x⟩) hbm (zh)).trans d3;have d4:=(M_w2.cell (a:=⟨bm,4,x⟩) hbm (zh)).trans d4;have lcm:=c lcm M_w2.size;have lcf:=c lcf M_w2.size;have lcv:=c lcv M_w2.size;have hbm:=c hbm M_w2.size;have BRW:=B3.out.mod M_w2 hgF;obtain ⟨e0,e1⟩:=BRW.cells2;obtain ⟨g0,g1,-⟩:=BRW.frozs;replace BRW:=y BRW))
 have S1:=y s2;have M1:Y (U Fs w w2):=(MQ.out.mono (J)).trans' M_w2;have SF:Y (∀k∈F2,k∈Fs∨w.heap.size≤k):=fun k hk=>(f2 k hk).imp id fun h=>by have h1:=SZ.out;have h2:=HGK.out;simp at h;omega
 have NF':Y (gk∉F2):=fun h=>(f2 _ h).elim hgF (fun h=>by have h1:=SZ.out;simp at h;omega)
 have BW:=((BRW.out.set 0 (z d t)).set 1 (z s a));simp only [X,Q,O] at BW;obtain ⟨z0,z1⟩:=BW.cells2;have MW:Y (U [gk] w2 ((w2.setCell ⟨gk,0,x⟩ (z d t)).setCell ⟨gk,1,x⟩ (z s a))):=((V _ _).setCell _ _ (J)).setCell _ _ (J);clear s2 f2 m_w2 M_w2 e0 e1 g0 g1 BW BV;generalize (w2.setCell ⟨gk,0,x⟩ (z d t)).setCell ⟨gk,1,x⟩ (z s a)=w4 at *;go_wp2_with fail;refine G (v:=C #[.agg #[z d t,z s a],z d 0]) (by simp [B,Tryz.results45,go_sem,z0,z1];try rfl) rfl ?_;exact ⟨rfl,F2,S1.out.mod MW.out (fun k hk h=>qy),M1.out.trans MW.out (fun i hi h=>qm),SF.out⟩
open Go.RowKit
theorem zN3 {w:I} {bm n room:Nat} {L L':List Rc} {Fs p:List Nat} {H:List (Nat × Ed)} {bs bo bq:Nat} {F:List Nat} (h:Mng w bm n room L Fs p H bs bo bq F) (hH:H.length < 256) (f:Nat) (h1:1≤f) (h5:f≤5) {ed:Ed} (caps:Array Value)
 (WK:∀W,U [] w W→M Z 45 caps W (zq7 W bs n room Fs L' ed)):
 M Z 44 #[u (j ⟨bm,0,x⟩),z d f,.func (.func 45) #[] caps] w (yF9 w bm n room L' Fs p H f ed bs bo bq F):=by
 obtain ⟨⟨q,hq⟩,-⟩:=h.own;have RM:Y (∀W,W=w→M Z 81 #[u (j ⟨bm,0,x⟩),.slice x 0 0] W _):=fun W e=>e▸yt4 hq hH
 have IF:=y (YZ f h1 h5);have PT:=y (yl6 h hH f (K) caps WK);clear h hq WK;unfold yF9 at PT ⊢;generalize ((H.length+1:Nat):Int)=m at *;go_in;go_wp2_with fail;refine (RM.out _ rfl).mono ?_;rintro e w1 ⟨rfl,rfl⟩;go_wp2_with fail;refine (IF.out _).mono ?_;rintro e w2 ⟨rfl,rfl⟩;go_wp2_with fail;refine PT.out.mono ?_;rintro e w3 ⟨rfl,P⟩;have PP:=y P;clear P PT;go_wp2_with fail;go_ret2;exact ⟨rfl,PP.out⟩
theorem zi6 (f:Nat) (h1:1≤f) (h5:f≤5) {w:I} {bm room:Nat} {L:List Rc} {Fs:List Nat} {H:List (Nat × Ed)} {bs bo bq:Nat} {F:List Nat} (h:Mng w bm 3 room L Fs (D 3) H bs bo bq F)
 (hH:H.length < 256) (hL:L.length≤1000) (hroom:L.length+3 < room) (hrm:room≤1048576) (hG:Good L 3):
 M Z 16 #[u (j ⟨bm,0,x⟩),z d f,z S 0] w fun e w'=>e=T (C #[z S ((H.length+1:Nat):Int),z d 0])∧∃Fs',Mng w' bm 3 room (zb0 L f).1 Fs' (D 3) (H++[(f,(zb0 L f).2)]) bs bo bq F∧U (bm::Fs) w w'∧∀k∈Fs',k∈Fs∨w.heap.size≤k:=by
 have HM:=y h;have HSL:=y h.s.lt;obtain ⟨g,hg⟩:∃g,w.heap.size=g:=⟨_,rfl⟩;have HG:=y hg;have MA:Y (U [] w (((w.alloc (o #[u (j ⟨bm,0,x⟩)] 51)).alloc (o #[z d f] 41)).alloc (o #[z S 0] 3))):=(((V _ _).alloc _).alloc _).alloc _;have BA:=y (((R w #[u (j ⟨bm,0,x⟩)] 51 g hg.symm).alloc (o #[z d f] 41)).alloc (o #[z S 0] 3));have BB:=y ((R (w.alloc (o #[u (j ⟨bm,0,x⟩)] 51)) #[z d f] 41 (g+1) (xk)).alloc (o #[z S 0] 3));have BC:=y (R ((w.alloc (o #[u (j ⟨bm,0,x⟩)] 51)).alloc (o #[z d f] 41)) #[z S 0] 3 (g+2) (xk));clear h;obtain ⟨m,hm⟩:∃m:Int,((H.length+1:Nat):Int)=m:=⟨_,rfl⟩;rw [hm];have HMI:=y hm;clear hm;go_in;go_wp2_with fail;generalize ((w.alloc (o #[u (j ⟨bm,0,x⟩)] 51)).alloc (o #[z d f] 41)).alloc (o #[z S 0] 3)=wA at *
 have WK:Y (∀W,U [] wA W→M Z 45 #[u (j ⟨g,0,x⟩),u (j ⟨g+1,0,x⟩),u (j ⟨g+1+1,0,x⟩)] W (zq7 W bs 3 room Fs (zb0 L f).1 (zb0 L f).2)):=fun W m=>
  yD3 f h1 h5 ((HM.out.mod MA.out).mod m) rfl hL hroom hrm hG (by have:=(BA.out.mod m (J)).cell 0;simpa using this) (by have:=(BB.out.mod m (J)).cell 0;simpa using this) (by have:=(BC.out.mod m (J)).cell 0;simpa using this)
   (fun h=>jx) (fun h=>jx) (fun h=>jx)
 have FV:=zN3 (HM.out.mod MA.out) hH f h1 h5 _ WK.out;unfold yF9 at FV;rw [HMI.out] at FV;refine FV.mono ?_;rintro e w3 ⟨rfl,Fs',mg,m3,f3⟩;have MG:=y mg;have M3:Y (U (bm::Fs) w w3):=(MA.out.mono (J)).trans' m3;have SF:Y (∀k∈Fs',k∈Fs∨w.heap.size≤k):=fun k hk=>(f3 k hk).imp id fun h=>by have:=MA.out.size;omega
 clear mg m3 f3 WK BA BB BC;clear FV;go_wp2_with fail;go_ret2;exact ⟨rfl,Fs',MG.out,M3.out,SF.out⟩
open Go.RowKit
theorem ZO {p:Prop} (h:p:=by
 go_in;go_wp2_with fail;refine SV.out.mono ?_;rintro e w1 ⟨rfl,rfl⟩;go_wp2_with fail;go_ret
 exact ⟨rfl,rfl⟩):p:=h
theorem zv6 {w:I} {bm n room:Nat} {L:List Rc} {Fs p:List Nat} {H:List (Nat × Ed)} {bs bo bq:Nat} {F:List Nat} (h:Mng w bm n room L Fs p H bs bo bq F):
 M Z 89 #[u (j ⟨bm,0,x⟩)] w fun e w'=>e=T (z S n)∧w'=w:=by
 obtain ⟨ba,bg,vk,vq,vg,Fo,q,g1,g2,g3,-⟩:=h.m;have d3:=g1.cell 3 (K);replace d3:w.cell? ⟨bm,3,x⟩=j (u (j ⟨bs,0,x⟩)):=d3;obtain ⟨ba',bi,Fa,c0,-⟩:=h.s.own;have SV:=y (YH bs n w c0);clear h g1 g2 g3 c0;exact ZO
theorem zJ7 {w:I} {bm n room:Nat} {L:List Rc} {Fs p:List Nat} {H:List (Nat × Ed)} {bs bo bq:Nat} {F:List Nat} (h:Mng w bm n room L Fs p H bs bo bq F):
 M Z 95 #[u (j ⟨bm,0,x⟩)] w fun e w'=>e=T (z S L.length)∧w'=w:=by
 obtain ⟨ba,bg,vk,vq,vg,Fo,q,g1,g2,g3,-⟩:=h.m;have d3:=g1.cell 3 (K);replace d3:w.cell? ⟨bm,3,x⟩=j (u (j ⟨bs,0,x⟩)):=d3;have SV:=y (yu6 h.s);clear h g1 g2 g3;exact ZO
theorem yI8 {w:I} {b a f:Nat} {e:Ed} {q:List Value} {H:List (Nat × Ed)} (h:Mgr w b q H) (hH:H.length≤256) (hf:H[a]? =j (f,e)):
 M Z 126 #[u (j ⟨b,0,x⟩),z S ((a+1:Nat):Int)] w fun e w'=>e=T (C #[z d f,z d 0])∧U [] w w':=by
 obtain ⟨m,hm⟩:∃m:Int,((a+1:Nat):Int)=m:=⟨_,rfl⟩;obtain ⟨g,hg⟩:∃g,w.heap.size=g:=⟨_,rfl⟩;rw [hm];have MA:Y (U [] w (w.alloc (o #[z S m] 3))):=(V _ _).alloc _;have BA:=R w #[z S m] 3 g hg.symm;have SM:=y (zk2 (g:=g) (cap:=1) (h.mod MA.out (J)) hH (a:=a) (vn) hf);clear h hf hm BA;go_in;go_wp2_with fail;refine SM.out.mono ?_;rintro e w1 ⟨rfl,rfl⟩;go_wp2_with fail;go_ret2;exact ⟨rfl,MA.out⟩
end Go.Proofs.YtbnpoapmnkfhkaaGreatDoor
