import Derived.Test.YtbnpoapmnkfhkaaGreatDoorZt51
import Derived.Test.YtbnpoapmnkfhkaaGreatDoorZt48
import Derived.Deep.RegionHeld3
import Derived.Deep.CutRange
set_option maxRecDepth 100000
set_option maxHeartbeats 8000000
set_option linter.unusedVariables false
set_option linter.unusedSimpArgs false
namespace Go.Proofs.YtbnpoapmnkfhkaaGreatDoor
open Go.Lib renaming hid → y
open And renaming intro → v
open Go.Proofs.Tryz renaming prog → u
open Go.Value renaming slice → t, int → s, string → j, int → V, bool → U
open Go.Ending renaming returned → r
open Go.RowKit renaming Hid → o
open Go renaming Calls → l, World → X
open Option renaming none → Z, some → Y
open Go.RowKit
theorem zS8 {w:X} {a:Option Addr} {len cap:Nat} {z:Nat→Int} (h:IntRow .i64 w a len cap z):∃(xs:List Int) (F:List Nat),Rv w (t a len cap) (xs.map (fun x:Int=>V .i64 x)) F∧xs.length=len∧∀k∈F,k < w.heap.size:=by
 refine ⟨(List.range len).map z,match a with | some ad=>if 0 < len then [ad.block] else [] | none=>[],⟨a,cap,ze,by simpa using h.1,fun h0=>?_⟩,ze,?_⟩
 ·simp at h0;obtain ⟨b,off,rfl,hb,_,_⟩:=h.2 0 h0;refine ⟨b,off,rfl,by simp [h0],fun i c hi=>?_⟩;rw [List.getElem?_map,List.getElem?_map] at hi;by_cases q:i < len
  ·rw [List.getElem?_range q] at hi;simp at hi;subst hi;obtain ⟨b',off',ha',_,hc,_⟩:=h.2 i q;simp at ha';obtain ⟨rfl,rfl⟩:=ha';exact hc
  ·rw [List.getElem?_eq_none (zj)] at hi;simp at hi
 ·intro k hk;cases a with
  | none=>simp at hk
  | some ad=>
   simp only at hk;split at hk
   ·rename_i h0
    obtain ⟨b,off,e,hb,_,_⟩:=h.2 0 h0;simp at e;subst e;simp at hk;subst hk;exact hb
   ·simp at hk
def yL3 (w:X) (e:Ending) (w':X):Prop:=e=r (U true)∧Mod [] w w'
theorem YA {p:Prop} (h:p:=by
 go_in;go_wp2_with fail;refine (AL.out _).mono ?_;rintro e w1 ⟨rfl,m1⟩;have M1:=y m1;go_wp2_with fail;go_ret
 exact ⟨ze,M1.out⟩):p:=h
theorem YB {p:Prop} (h:p:=by
 rintro e w5 ⟨rfl,rfl⟩;go_wp2_with fail;go_ret
 exact ⟨ze,M4.out⟩):p:=h
theorem yy1 {w:X} {s1 s2:ByteArray} {A:Option Addr} {n cap f:Nat} {xs:List Int} {F1:List Nat} (h:Rv w (t A n cap) (xs.map (fun x:Int=>V .i64 x)) F1) (hF:∀k∈F1,k < w.heap.size) (hx:xs.length=n) (hf:f < 256) (hc:n≤cap) (hb:n≤maxLen):
 l u 3 #[j s1,j s2,t A n cap,s .u8 f] w (yL3 w):=by
 have AL:=y yA0;have H:=y h;have HX:=y hx;have HHF:=y hF;have R1:o (n≤5→∀W,Mod [] w W→l u 5 #[t A n cap] W (yo6 W xs n)):=fun hn W m=>zZ2 (h.mod m (ze)) hx hn
 have hm:maxLen=9223372036854775807:=rfl;have hbi:(n:Int)≤9223372036854775807:=zc;clear h hx hF hm hb;by_cases q1:s1.size≤50
 ·by_cases q2:s2.size≤50
  ·by_cases hn:n≤4
   ·have R1:=y (R1.out (zc));have O1:=y (yp1 s1 (zc));have O2:=y (yp1 s2 (zc));have q1':(s1.size:Int)≤50:=zc;have q2':(s2.size:Int)≤50:=zc;have hn':(n:Int)≤4:=zc;have Q12:=y (v q1 q2);clear hbi;go_in;go_wp2_with fail;refine (AL.out _).mono ?_;rintro e w1 ⟨rfl,m1⟩;have M1:=y m1;clear m1 AL;go_wp2_with fail;refine (R1.out _ M1.out).mono ?_;rintro e w2 ⟨b1,rfl,hw,P1⟩;subst hw;have HP1:=y P1;clear P1 R1;cases b1 with
    | false=>
     go_wp2_with fail;go_ret;exact ⟨ze,M1.out⟩
    | true=>
     obtain ⟨p,e1,hp⟩:=HP1.out rfl;have E1:=y e1;have PP:=y hp;clear HP1 e1 hp;by_cases h1:1≤f
     ·by_cases h5:f≤5
      ·have h1':¬(f:Int) < 1:=zc;have h5':¬(5:Int) < f:=zc;have f0:(0:Int)≤f:=zc;have f9:(f:Int)≤5:=zc;go_upto_region 6 with fail;clear h1' h5'
       have RV1:o (Rv w2 (t A n cap) (p.map ei) F1):=by
        have:=H.out.mod M1.out (ze);rw [E1.out,List.map_map] at this;exact this
       have FL1:o (∀k∈F1,k < w2.heap.size):=fun k hk=>by have:=HHF.out k hk;have:=M1.out.size;omega
       clear H E1 HX HHF;go_wp2_with fail;refine (O1.out _).mono ?_;rintro e w3 ⟨RA,zA,vA,FA,aA,cA,htA,hzA,hkA,hnA,hlA,rfl,tkA,fA,mA,acA⟩;obtain ⟨AA,capA,rfl,hcA⟩:=tkA.shape;have TA:=y tkA;have M3:=y (M1.out.trans' mA);have FA3:=y (fun k (hk:k∈FA)=>fA k hk);have HAA:=y (v htA (v hzA (v hkA (v hnA (v hlA acA)))));have RV3:=y (RV1.out.mod mA (ze));have N3:=y mA;clear tkA mA fA htA hzA hkA hnA hlA acA;go_wp2_with fail;refine (O2.out _).mono ?_;rintro e w4 ⟨RB,zB,vB,FB,aB,cB,htB,hzB,hkB,hnB,hlB,rfl,tkB,fB,mB,acB⟩;obtain ⟨AB,capB,rfl,hcB⟩:=tkB.shape;have TB:=y tkB;have TA4:=y (TA.out.mod mB (ze));have M4:=y (M3.out.trans' mB);have RV4:=y (RV3.out.mod mB (ze));have HBB:=y (v htB (v hzB (v hkB (v hnB (v hlB acB)))));clear tkB mB fB htB hzB hkB hnB hlB acB TA RV3;have M4':=y M4.out.size;obtain ⟨la,hla⟩:∃z,RA.length=z:=⟨_,rfl⟩;obtain ⟨lb,hlb⟩:∃z,RB.length=z:=⟨_,rfl⟩;have HLA:=y hla;have HLB:=y hlb;rw [hla] at TA4 hcA ⊢;rw [hlb] at TB hcB ⊢;clear hla hlb;by_cases ca:cA=0
       ·subst ca;by_cases cb:cB=0
        ·subst cb;have VA:=y (zG0 TA4.out (qU) HAA.out.2.2.2.1);have VB:=y (zG0 TB.out (qV) HBB.out.2.2.2.1);have SA:=y (zx0 (zd1 RA) n (zc));have SB:=y (zx0 (zd1 RB) n (zc));obtain ⟨da,hda⟩:∃d,decide (zd1 RA < 2 ^ n)=d:=⟨_,rfl⟩;obtain ⟨db,hdb⟩:∃d,decide (zd1 RB < 2 ^ n)=d:=⟨_,rfl⟩;rw [hda] at SA;rw [hdb] at SB;have HDA:=y hda;have HDB:=y hdb;obtain ⟨va,hva⟩:∃z,zd1 RA=z:=⟨_,rfl⟩;obtain ⟨vb,hvb⟩:∃z,zd1 RB=z:=⟨_,rfl⟩;rw [hva] at VA SA;rw [hvb] at VB SB;clear hda hdb hva hvb;cases da with
         | false=>
          go_wp2_with fail;refine VA.out.mono ?_;rintro e w5 ⟨rfl,rfl⟩;go_wp2_with fail;refine (SA.out _).mono ?_;exact YB
         | true=>
          cases db with
          | false=>
           go_wp2_with fail;refine VA.out.mono ?_;rintro e w5 ⟨rfl,rfl⟩;go_wp2_with fail;refine (SA.out _).mono ?_;rintro e w5 ⟨rfl,rfl⟩;go_wp2_with fail;refine VB.out.mono ?_;rintro e w5 ⟨rfl,rfl⟩;go_wp2_with fail;refine (SB.out _).mono ?_;exact YB
          | true=>
           go_wp2_with fail;refine VA.out.mono ?_;rintro e w5 ⟨rfl,rfl⟩;go_wp2_with fail;refine (SA.out _).mono ?_;rintro e w5 ⟨rfl,rfl⟩;go_wp2_with fail;refine VB.out.mono ?_;rintro e w5 ⟨rfl,rfl⟩;go_wp2_with fail;refine (SB.out _).mono ?_;rintro e w5 ⟨rfl,rfl⟩;clear VA VB SA SB;obtain ⟨-,XA,hXA⟩:=yp3 HAA.out.2.2.1 (HAA.out.2.2.2.2.2 trivial);obtain ⟨-,XB,hXB⟩:=yp3 HBB.out.2.2.1 (HBB.out.2.2.2.2.2 trivial);have IA:o (zt4 n XA∧zc8 XA∧Xk XA≤50):=⟨zv0 hXA (zQ2 (of_decide_eq_true HDA.out)),zi2 hXA (qU),by have:=ye5 hXA;have:=HAA.out.2.2.2.2.1;have:=Q12.out.1;omega⟩;have IB:o (zt4 n XB∧zc8 XB∧Xk XB≤50):=⟨zv0 hXB (zQ2 (of_decide_eq_true HDB.out)),zi2 hXB (qV),by have:=ye5 hXB;have:=HBB.out.2.2.2.2.1;have:=Q12.out.2;omega⟩;have PA:o (∀W,l u 29 #[j s1] W (zT8 XA W)):=fun W=>zX7 (by have:=Q12.out.1;omega) HAA.out.1 HAA.out.2.1 hXA (ym8 RA zA 0 [] HAA.out.2.2.1 (HAA.out.2.2.2.2.2 trivial)) (qU) W
           have PB:o (∀W,l u 29 #[j s2] W (zT8 XB W)):=fun W=>zX7 (by have:=Q12.out.2;omega) HBB.out.1 HBB.out.2.1 hXB (ym8 RB zB 0 [] HBB.out.2.2.1 (HBB.out.2.2.2.2.2 trivial)) (qV) W
           have TBA:o (∀W,TkR W (t AA la capA) RA (FA.filter (fun k=>decide (k < w5.heap.size)))→l u 13 #[t AA la capA,s .i64 n] W fun e w'=>∃v',e=r v'∧NewV 4 W ((Y5 n XA).map eb) w' v'):=fun W ht=>zk6 (zc) 100 (zc) W _ RA _ 1 XA (qU) hXA ht HAA.out.2.2.2.1
           have TBB:o (∀W,TkR W (t AB lb capB) RB (FB.filter (fun k=>decide (k < w5.heap.size)))→l u 13 #[t AB lb capB,s .i64 n] W fun e w'=>∃v',e=r v'∧NewV 4 W ((Y5 n XB).map eb) w' v'):=fun W ht=>zk6 (zc) 100 (zc) W _ RB _ 1 XB (qV) hXB ht HBB.out.2.2.2.1
           have TA5:=y TA4.out.lt;have TB5:=y TB.out.lt;have LA5:o (∀k∈FA.filter (fun k=>decide (k < w5.heap.size)),k < w5.heap.size):=fun k hk=>wT
           have LB5:o (∀k∈FB.filter (fun k=>decide (k < w5.heap.size)),k < w5.heap.size):=fun k hk=>wT
           generalize FA.filter (fun k=>decide (k < w5.heap.size))=GA at *;generalize FB.filter (fun k=>decide (k < w5.heap.size))=GB at *;have STG:=y (yj6 (room:=200000) (zc) (zc) RV4.out PP.out (zc));clear hXA hXB HAA HBB HDA HDB TA4 TB RV1 RV4 O1 O2 HLA HLB FL1 N3 FA3 Q12 M1 M3;go_upto_region 12 with fail;go_wp2_with fail;refine STG.out.mono ?_;rintro e w6 ⟨bs,F,bd,q,Fo,rfl,st,od,iv,m6,ge6,ap⟩;have M6:=y (M4.out.trans' m6);have ST:=y st;have OD:=y od.ord;have IVV:=y iv;have GE:=y ge6;have AP:=y ap;have TA6:=y (TA5.out.mod m6 (ze));have TB6:=y (TB5.out.mod m6 (ze));have hs6:=m6.size;have hw5:=M4'.out;have AN:=y (zB4 st);clear st od iv ge6 ap m6 TA5 TB5 STG;go_wp2_with fail;refine AN.out.mono ?_;rintro e w7 ⟨bo,bc,g,rfl,ea,m7,g7⟩;have M7:=y m7;have G7:=y g7;have QN:=y (zz7 ea);clear ea m7 g7 AN;go_wp2_with fail;refine QN.out.mono ?_;rintro e w8 ⟨bq,bk,gq,rfl,eq8,m8,g8⟩;have M68:=y (M7.out.trans' m8);have hs7:=M7.out.size
           have BIG:o (∀k∈bq::bk::gq::bo::bc::g::F,w5.heap.size≤k):=fun k hk=>by
            have a7:=G7.out;simp only [List.mem_cons] at hk;rcases hk with rfl | rfl | rfl | rfl | rfl | rfl | hk
            ·have:=g8 k (ze);omega
            ·have:=g8 k (ze);omega
            ·have:=g8 k (ze);omega
            ·have:=a7 k (ze);omega
            ·have:=a7 k (ze);omega
            ·have:=a7 k (ze);omega
            ·exact GE.out k (zC)
           have NOF:∀k∈Fo,k∉bq::bk::gq::bo::bc::g::F:=fun k hk q=>by
            have a7:=G7.out;have hl:=OD.out.lt k hk;simp only [List.mem_cons] at q;rcases q with rfl | rfl | rfl | rfl | rfl | rfl | q
            ·have:=g8 k (ze);omega
            ·have:=g8 k (ze);omega
            ·have:=g8 k (ze);omega
            ·have:=a7 k (ze);omega
            ·have:=a7 k (ze);omega
            ·have:=a7 k (ze);omega
            ·exact AP.out k q hk
           have LW:o (LawW w w8 bs n 200000 [] F bo bc g bq bk gq bd p q Fo (t AA la capA) (t AB lb capB) RA RB GA GB):=⟨M6.out.trans' M68.out,eq8,OD.out.mod M68.out (ze),TA6.out.mod M68.out (ze),TB6.out.mod M68.out (ze),fun k hk=>by
            have:=M68.out.size;rcases List.mem_append.1 hk with hk | hk
            ·exact ⟨by have:=OD.out.lt k hk;omega,NOF k hk⟩
            ·have hl:k < w5.heap.size:=(List.mem_append.1 hk).elim (LA5.out k) (LB5.out k)
             exact ⟨zc,fun q=>by have:=BIG.out k q;omega⟩,fun k hk=>by have:=BIG.out k hk;omega⟩
           clear eq8 m8 g8 NOF QN M7 M68 TA6 TB6 OD GE AP ST M6 G7 BIG LA5 LB5 M4 M4' hs7 hs6 hw5;have TT1:=y (TBA.out w8 LW.out.ta);go_wp2_with fail;refine TT1.out.mono ?_;rintro e w9 ⟨v1,rfl,nv⟩;obtain ⟨Fv,sv,mv,fv⟩:=nv;have RV:=y (Rv.of_sl sv rfl);have LV:=y sv.lt;have LW9:=y (LW.out.mod mv);have FV:=y fv;obtain ⟨A1,c1,rfl,-⟩:=RV.out.shape;have D1:=y (zt8 (f:=f) h1 h5 hn (zc) PP.out IVV.out LW9.out.eng LW9.out.ord (fun k hk=>(LW9.out.no k (zC)).2) RV.out (fun k hk=>⟨LV.out k hk,fun q=>by have:=FV.out k hk;have:=LW.out.eng.lt k q;omega⟩) PA.out IA.out.1 IA.out.2.1 (wU) (wU));obtain ⟨N1,hN1⟩:∃z,((Y5 n XA).map eb).length=z:=⟨_,rfl⟩;rw [hN1] at D1 ⊢;clear hN1 sv mv fv TT1;go_wp2_with fail;refine D1.out.mono ?_;rintro e w10 ⟨t1,a1,L1,F1,rfl,e10,g10,x10,l10⟩;have LW10:=y (LW9.out.did e10 g10);have X10:=y x10;have LL10:=y l10;obtain ⟨ga,hga⟩:∃z,w10.heap.size=z:=⟨_,rfl⟩;have HA:=y (zD2 hga (s .u8 t1) (s .u32 a1) 44);have LW11:=y (LW10.out.mod HA.out.2);have HA11:=y HA.out.1;have NA11:o (ga∉bq::bk::gq::bo::bc::g::F1):=fun q=>by have:=LW10.out.eng.lt ga q;omega
           clear e10 g10 x10 l10 HA D1 LW LW9 RV LV FV;go_upto_region 21 with fail;clear hga LW10;generalize w10.alloc (.cells #[s .u8 t1,s .u32 a1] 44)=w11 at *;have TT2:=y (TBB.out w11 LW11.out.tb);go_wp2_with fail;refine TT2.out.mono ?_;rintro e w12 ⟨v2,rfl,nv⟩;obtain ⟨Fv2,sv,mv,fv⟩:=nv;have RV:=y (Rv.of_sl sv rfl);have LV:=y sv.lt;have LW12:=y (LW11.out.mod mv);have HA12:=y (HA11.out.mod mv (ze));have FV:=y fv;obtain ⟨A2,c2,rfl,-⟩:=RV.out.shape;have D2:=y (zt8 (f:=f) h1 h5 hn (zc) PP.out IVV.out LW12.out.eng LW12.out.ord (fun k hk=>(LW12.out.no k (zC)).2) RV.out (fun k hk=>⟨LV.out k hk,fun q=>by have:=FV.out k hk;have:=LW11.out.eng.lt k q;omega⟩) PB.out IB.out.1 IB.out.2.1 (wV) (wV));obtain ⟨N2,hN2⟩:∃z,((Y5 n XB).map eb).length=z:=⟨_,rfl⟩;rw [hN2] at D2 ⊢;clear hN2 sv mv fv TT2;go_wp2_with fail;refine D2.out.mono ?_;rintro e w13 ⟨t2,a2,L2,F2,rfl,e13,g13,x13,l13⟩;have LW13:=y (LW12.out.did e13 g13);have HA13:=y (HA12.out.mod g13.mod (zE2 NA11.out))
           have DEC:o ((decide ((⟨t1,a1⟩:Ed)=⟨t2,a2⟩)==decide (Y5 n XA=Y5 n XB))=true):=by
            have k1:=EdT.eq_iff LW13.out.eng.a.sto.nd (X10.out.grow L2) x13 h1 h5;have k2:=yi2 PP.out XA XB;show _=_;rw [beq_iff_eq,Bool.eq_iff_iff,decide_eq_true_eq,decide_eq_true_eq,k1,k2]
           obtain ⟨gb,hgb⟩:∃z,w13.heap.size=z:=⟨_,rfl⟩;have HB:=y (zD2 hgb (s .u8 t2) (s .u32 a2) 44);have LW14:=y (LW13.out.mod HB.out.2);have HA14:=y (HA13.out.mod HB.out.2 (ze));have HB14:=y HB.out.1;clear e13 g13 x13 l13 HB D2 LW11 LW12 RV LV FV HA11 HA12 HA13 X10;go_upto_region 22 with fail;clear hgb LW13;generalize w13.alloc (.cells #[s .u8 t2,s .u32 a2] 44)=w14 at *;obtain ⟨c0,c1⟩:=HA14.out.cells2;obtain ⟨c2,c3⟩:=HB14.out.cells2;have lga:=HA14.out.lt;have lgb:=HB14.out.lt;have JC:o (∀W,Mod [] w14 W→W.cell? ⟨ga,0,Z⟩=Y (s .u8 t1)∧W.cell? ⟨ga,1,Z⟩=Y (s .u32 a1)∧W.cell? ⟨gb,0,Z⟩=Y (s .u8 t2)∧W.cell? ⟨gb,1,Z⟩=Y (s .u32 a2)):=fun W m=>⟨(m.cell (a:=⟨ga,0,Z⟩) lga (ze)).trans c0,(m.cell (a:=⟨ga,1,Z⟩) lga (ze)).trans c1,(m.cell (a:=⟨gb,0,Z⟩) lgb (ze)).trans c2,(m.cell (a:=⟨gb,1,Z⟩) lgb (ze)).trans c3⟩
           have T3:o (∀W,Mod [] w14 W→l u 13 #[t AA la capA,s .i64 n] W fun e w'=>∃v',e=r v'∧o (NewV 4 w14 ((Y5 n XA).map eb) w' v')∧Mod [] w14 w'∧Mod [] W w'):=fun W m=>(TBA.out W (LW14.out.ta.mod m (ze))).mono (wW)
           have T4:o (∀W,Mod [] w14 W→l u 13 #[t AB lb capB,s .i64 n] W fun e w'=>∃v',e=r v'∧o (NewV 4 w14 ((Y5 n XB).map eb) w' v')∧Mod [] w14 w'∧Mod [] W w'):=fun W m=>(TBB.out W (LW14.out.tb.mod m (ze))).mono (wW)
           have SM:o (∀W va vb,Mod [] w14 W→o (NewV 4 w14 ((Y5 n XA).map eb) W va)→o (NewV 4 w14 ((Y5 n XB).map eb) W vb)→l u 14 #[va,vb] W fun e w'=>e=r (U (decide (Y5 n XA=Y5 n XB)))∧Mod [] w14 w'):=fun W va vb m na nb=>by
            obtain ⟨Fa,ra,-⟩:=na.out.rv;obtain ⟨Fb,rb,-⟩:=nb.out.rv;have h16:2 ^ n≤16:=zF;exact (yc6 ra rb (qM) (qM)).mono (zT)
           have EQ:=fun w=>Y4 9998 ⟨t1,a1⟩ ⟨t2,a2⟩ w
           unfold edv at EQ;simp only at EQ;have MB:=y LW14.out.base;generalize (Y5 n XA).map eb=xa at *;generalize (Y5 n XB).map eb=xb at *;obtain ⟨d2,hd2⟩:∃d,decide (Y5 n XA=Y5 n XB)=d:=⟨_,rfl⟩;rw [hd2] at SM DEC;obtain ⟨d1,hd1⟩:∃d,decide ((⟨t1,a1⟩:Ed)=⟨t2,a2⟩)=d:=⟨_,rfl⟩;rw [hd1] at DEC;simp only [hd1] at EQ;clear hd1 hd2 TBA TBB LW14 HA14 HB14;go_wp2_with fail
           go_region_held3 (fun w'=>w'.cell? ⟨ga,0,Z⟩=Y (s .u8 t1)∧w'.cell? ⟨ga,1,Z⟩=Y (s .u32 a1)∧w'.cell? ⟨gb,0,Z⟩=Y (s .u8 t2)∧w'.cell? ⟨gb,1,Z⟩=Y (s .u32 a2)) (go_keep) (first
            | (go_at_call 13;with_reducible refine (T3.out _ (zK)).mono ?_;rintro e' w15 ⟨v3,rfl,n3,m15,k15⟩;obtain ⟨c0,c1,c2,c3⟩:=JC.out w15 m15)
            | (go_at_call 13;with_reducible refine (T4.out _ (zK)).mono ?_;rintro e' w16 ⟨v4,rfl,n4,m16,k16⟩;obtain ⟨c0,c1,c2,c3⟩:=JC.out w16 m16;have n3:=y (n3.out.later k16))
            | (go_at_call 14;with_reducible refine (SM.out _ _ _ (zm) (zm) (zm)).mono ?_;rintro e' w17 ⟨rfl,m17⟩;obtain ⟨c0,c1,c2,c3⟩:=JC.out w17 m17))
           all_goals
            go_wp2_with fail;go_ret;exact ⟨by first | rfl | (rw [DEC.out];rfl) | simp [DEC.out],MB.out.trans' m17⟩
        ·have cb':((cB:Int) != 0)=true:=zj;go_wp2_with fail;go_ret;exact ⟨ze,M4.out⟩
       ·have ca':((cA:Int) != 0)=true:=zj;go_wp2_with fail;go_ret;exact ⟨ze,M4.out⟩
      ·have h5':(5:Int) < f:=zc;have h1':¬(f:Int) < 1:=zc;go_wp2_with fail;go_ret;exact ⟨ze,M1.out⟩
     ·obtain rfl:f=0:=zc;go_wp2_with fail;go_ret;exact ⟨ze,M1.out⟩
   ·have hn':(4:Int) < n:=zc;have q1':(s1.size:Int)≤50:=zc;have q2':(s2.size:Int)≤50:=zc;exact YA
  ·have q1':(s1.size:Int)≤50:=zc;have q2':(50:Int) < s2.size:=zc;exact YA
 ·have q1':(50:Int) < s1.size:=zc;exact YA
open Go.RowKit
theorem zl9 (w:X) (s1:ByteArray) (w1:s1.size≤maxLen) (s2:ByteArray) (w2:s2.size≤maxLen) (a0:Option Addr) (len0 cap0:Nat) (z0:Nat→Int) (w0:IntRow .i64 w a0 len0 cap0 z0) (m0:cap0≤maxLen)
 (f:Int) (wf:(Lit.int .u8 f).wf=true):
 l u 3 #[j s1,j s2,t a0 len0 cap0,s .u8 f] w fun e w'=>e=r (U true)∧Mod [] w w':=by
 have h3:IntKind.u8.min=0:=rfl;have h4:IntKind.u8.max=255:=rfl
 obtain ⟨g,rfl,hg⟩:∃g:Nat,f=(g:Int)∧g < 256:=by
  simp [Lit.wf,h3,h4] at wf;exact ⟨f.toNat,zc,zc⟩
 obtain ⟨xs,F1,r1,hl1,hF1⟩:=zS8 w0;exact (yy1 r1 hF1 hl1 hg w0.1 (Nat.le_trans w0.1 m0)).mono fun e w' h=>h
end Go.Proofs.YtbnpoapmnkfhkaaGreatDoor
