import Derived.Test.YtbnpoapmnkfhkaaGreatDoorZt20
import Derived.Deep.CutRange
import Derived.Test.YtbnpoapmnkfhkaaGreatDoorZt24
set_option maxRecDepth 100000
set_option maxHeartbeats 4000000
set_option linter.unusedVariables false
set_option linter.unusedSimpArgs false
namespace Go.Proofs.YtbnpoapmnkfhkaaGreatDoor
open Go.Lib renaming hid → u
open Go.Value renaming int → s, pointer → c, tuple → I, bool → G
open Option renaming none → j, some → X
open Go.Proofs.Tryz renaming prog → Z
open Go.Ending renaming returned → Y
open Go.IntKind renaming u8 → V, u32 → U, i64 → J, u16 → D
open Nat renaming lt_of_lt_of_le → S
open Go.RowKit renaming Hid → R
open Go.Proofs.YtbnpoapmnkfhkaaGreatDoor renaming Mod → Q, zc → P, ze → E
open List renaming getElem?_eq_some_iff → O
open Go renaming Calls → N, World → K
open Go.RowKit
theorem zr0 {w:K} {b n:Nat} {L:List Rc} {room:Nat} {F:List Nat} (h:IsSt w b n L room F) (hL:L.length≤1048576) (hG:Good L n) (hn:n≤16) (f:Nat) (h1:1≤f) (h5:f≤5) (e:Ed) (T:Tr) (hT0:Rep L f e.a T) (l:Nat) (hl:l≤n) (hP:LeadsP L f e l n) (x:Nat) (hx:x < 65536):
 N Z 70 #[c (X ⟨b,0,j⟩),s V f,edv e,s J l,s D x] w fun e' w'=>e'=Y (I #[G (hT f n x e.t T l),s V 0])∧Q [] w w':=by
 have MY:R (∀W,Q [] w W→_):=fun W m=>zo1 (h.mod m (E)) hL hn f h1 h5 e l hl hP
 have VA:R (∀W',Q [] w W'→N Z 67 #[c (X ⟨b,0,j⟩)] W' fun e w'=>e=Y (s J n)∧w'=W'):=fun W' m=>by
  obtain ⟨ba,bi,Fa,c0,_⟩:=(h.mod m (E)).own;exact YH b n W' c0
 have GL:R (∀W (id:Nat) (r:Rc),Q [] w W→YO L id=X r→N Z 112 #[c (X ⟨b,0,j⟩),s U id] W fun e w'=>e=Y (I #[rcv r,G true])∧Q [] W w'):=fun W id r m hr=>Y7 (h.mod m (E)) hL id r hr
 have GN:R (∀W,Q [] w W→N Z 112 #[c (X ⟨b,0,j⟩),s U 1] W fun e w'=>e=Y (I #[rcv rc0,G false])∧Q [] W w'):=fun W m=>Xa (h.mod m (E)) hL 1 (P) (xw)
 have FR:=u (ys8 f);have SI:R (∀(r:Rc) (W:K),RightR r n→N Z 115 #[rcv r,s D x] W fun e' w'=>e'=Y (edv (zp8 r x))∧Q [] W w'):=fun r W hr=>yE6 r n hr x hx W
 have CL:R (∀(a d:Nat) (W:K),a+d≤64→N Z 113 #[s D x,s J a,s J ((a+d:Nat):Int)] W fun e w'=>e=Y (G (YP x a d))∧w'=W):=fun a d W ha=>zW3 x a d hx ha W
 have HG:=u hG;have LP:=u hP;have RP:=u hT0;obtain ⟨v,hv⟩:∃v,hT f n x e.t T l=v:=⟨_,rfl⟩;have HV:=u hv;rw [hv];obtain ⟨t,a⟩:=e;unfold edv at MY ⊢;simp only at MY LP RP HV ⊢;obtain ⟨gk,hgk⟩:∃gk,w.heap.size=gk:=⟨_,rfl⟩;clear h hG hT0 hP hv hx;go_in;go_wp2_with fail;refine (MY.out _ (zg)).mono ?_;rintro e w2 ⟨rfl,m2⟩;have M2:R (Q [] w w2):=(Mod.trans' (show Q [] w _ from zg) m2);have BR:=u ((Blk.new' w _ _ gk hgk.symm).mod m2 (E));have hbl:=BR.out.lt;clear m2 MY;go_wp2_with fail
 go_loopw [3] (fun i wr=>∃(l t a:Nat) (T:Tr),i=s J l∧l≤n∧R (Q [] w wr)∧R (Blk wr gk #[s V t,s U a] 44)∧R (LeadsP L f ⟨t,a⟩ l n)∧R (Rep L f a T)∧R (hT f n x t T l=v)) (fun i _=>n - (intOf i).toNat)
 case atStart=>exact ⟨l,t,a,T,rfl,hl,M2,BR,LP,RP,HV⟩
 case round=>
  clear BR LP RP HV M2;obtain ⟨l,t,a,T,rfl,hl,M,B,LP,RP,HV⟩:=hrel;obtain ⟨d0,d1⟩:=B.out.cells2;have hbl:=B.out.lt;by_cases ha0:a=0
  ·subst ha0
   have hT0:T=.leaf false:=by
    have:=RP.out;cases this with
    | zero=>rfl
    | node hr=>have:=(YJ hr).1;omega
   subst hT0;obtain rfl:v=false:=HV.out.symm;clear GL GN CL FR SI VA LP RP HV;go_wp2_with fail;go_ret2;exact ⟨rfl,M.out⟩
  have GT:R (∃(q:Rc) (ok:Bool),(∀W,Q [] w W→N Z 112 #[c (X ⟨b,0,j⟩),s U a] W fun e w'=>e=Y (I #[rcv q,G ok])∧Q [] W w')∧
   (ok=false→YN f t l n≤n∧v=YP x (YN f t l n) (n - YN f t l n))∧
   (ok=true→RightR q n∧YN f t l q.top≤q.top∧q.f=f∧l≤q.top∧∃C,Rep L f (zp8 q x).a C∧LeadsP L f (zp8 q x) (q.bot+1) n∧
    v=(YP x (YN f t l q.top) (q.top - YN f t l q.top) && hT f n x (zp8 q x).t C (q.bot+1)))):=by
   have hR:=RP.out;have hv:=HV.out;cases hR with
   | zero=>exact absurd rfl ha0
   | one=>
    refine ⟨rc0,false,fun W m=>GN.out W m,fun _=>⟨zW2 LP.out hl rfl,hv.symm⟩,fun h=>zU⟩
   | @node _ r A C hr hf hA hC=>
    refine ⟨r,true,fun W m=>GL.out W a r m hr,(fun h=>zU),fun _=>?_⟩;have hg:=HG.out a r hr
    have hll:l≤r.top:=by
     rcases LP.out.at_ with q | ⟨r',h2,h3,h4,h5,h6⟩
     ·have:=(YJ hr).1;simp only at q;omega
     ·simp only at h2;rw [hr] at h2;obtain rfl:=Option.some.inj h2;exact h4
    have hlo:=hg.lo;have hhi:=hg.hi;rw [hf] at hlo hhi;refine ⟨hg.right,yf7 LP.out hr,hf,hll,?_⟩;rw [←hv,hT];have e:(if f=3 then !YP x r.top (r.bot+1 - r.top) else x.testBit r.bot)=yw1 r x:=by unfold yw1;rw [hf]
    rw [e];unfold zp8;cases yw1 r x with
    | true=>exact ⟨C,hC,hhi,rfl⟩
    | false=>exact ⟨A,hA,hlo,rfl⟩
  obtain ⟨q,ok,GT,QF,QT⟩:=GT.out;replace GT:=u GT;replace QF:=u QF;replace QT:=u QT
  have ht255:t≤255:=by
   have h2:=LP.out.plain;unfold PlainE at h2;simp only at h2;by_cases h55:f=5
   ·have:=h2.2 h55 ha0;omega
   ·have:=h2.1 (.inl h55);omega
  have ha1:decide ((a:Int) > 0)=true:=zj;obtain ⟨qf,qt,qb,⟨qlt,qla⟩,⟨qht,qha⟩⟩:=q;have SI:=u (SI.out ⟨qf,qt,qb,⟨qlt,qla⟩,⟨qht,qha⟩⟩);unfold rcv at GT SI;simp only at GT SI QF QT;clear GL GN RP HV LP HG;obtain ⟨gs,hgs⟩:∃gs,wr.heap.size=gs:=⟨_,rfl⟩;have gs1:¬gk=gs:=P;have gs2:¬gs=gk:=P;replace GT:R (∀W,Q [] w W→_):=GT;have MB:=u (fun (W W':K) (m:Q [] w W')=>m);go_wp2_with fail;refine (GT.out _ (M.out.trans' (show Q [] wr _ from zg))).mono ?_;rintro e w1 ⟨rfl,m1⟩;obtain ⟨gr,hgr⟩:∃gr,w1.heap.size=gr:=⟨_,rfl⟩;have BX:=Blk.new' w1 #[s V qf,s V qt,s V qb,s V qlt,s U qla,s V qht,s U qha] 139 gr hgr.symm;have MX:=m1.alloc (.cells #[s V qf,s V qt,s V qb,s V qlt,s U qla,s V qht,s U qha] 139);have MW:=M.out.trans' MX;have BE:=B.out.mod MX (E);have hsz:=MX.size;have hkr:gs≤gr:=by have:=m1.size;omega
  clear GT M B m1;have FRT:R (∀(W:K) (top:Nat),_):=fun W top=>FR.out ⟨t,a⟩ ht255 l top W
  unfold edv at FRT;simp only at FRT;obtain ⟨d0,d1⟩:=BE.cells2;obtain ⟨r0,r1,r2,r3,r4,r5,r6⟩:=BX.cells7;have hbl2:=BE.lt;have hrl2:=BX.lt;have n1:¬gk=gr:=P;have n2:¬gr=gk:=P;replace MW:=u MW;replace BE:=u BE;replace BX:=u BX;clear MX FR hsz;cases ok with
  | false=>
   obtain ⟨hfr,hvv⟩:=QF.out rfl;clear QF QT SI;have CLT:=u (fun W=>CL.out (YN f t l n) (n - YN f t l n) W (P));rw [show YN f t l n+(n - YN f t l n)=n from P] at CLT;replace FRT:=u (fun W=>FRT.out W n);generalize YN f t l n=fr at *;generalize YP x fr (n - fr)=cl at *;subst hvv;clear CL hfr;go_wp2_with fail;refine (VA.out _ MW.out).mono ?_;rintro e wv ⟨rfl,rfl⟩;go_wp2_with fail;refine (FRT.out _).mono ?_;rintro e w3 ⟨rfl,m3⟩;have M3:=u (MW.out.trans' m3);clear m3;go_wp2_with fail;refine (CLT.out _).mono ?_;rintro e wv ⟨rfl,rfl⟩;cases v with
   | false=>
    go_wp2_with fail;go_ret2;exact ⟨rfl,M3.out⟩
   | true=>
    go_wp2_with fail;go_ret2;exact ⟨rfl,M3.out⟩
  | true=>
   obtain ⟨hR,hfr,hqf,hlt,C,RC,LC,hvv⟩:=QT.out rfl;clear QF QT;have tb:=hR.tb;have bn:=hR.bn;simp only at hfr hlt tb bn;have CLT:=u (fun W=>CL.out (YN f t l qt) (qt - YN f t l qt) W (P));rw [show YN f t l qt+(qt - YN f t l qt)=qt from P] at CLT;replace FRT:=u (fun W=>FRT.out W qt);replace SI:=u (fun W=>SI.out W hR);generalize YN f t l qt=fr at *;generalize YP x fr (qt - fr)=cl at *;generalize zp8 ⟨qf,qt,qb,⟨qlt,qla⟩,⟨qht,qha⟩⟩ x=sd at *;obtain ⟨st,sa⟩:=sd;unfold edv at SI;simp only at SI RC LC hvv;have q0:(0:Int)≤qt:=P;have q255:(qt:Int)≤255:=P;have qb0:(0:Int)≤qb:=P;have qb255:(qb:Int)≤255:=P;replace RC:=u RC;replace LC:=u LC;replace hvv:=u hvv;clear CL hR hqf;go_wp2_with fail;refine (VA.out _ MW.out).mono ?_;rintro e wv ⟨rfl,rfl⟩;go_wp2_with fail;refine (FRT.out _).mono ?_;rintro e w3 ⟨rfl,m3⟩;have M3:=u (MW.out.trans' m3);have BE3:=u (BE.out.mod m3 (E));have BX3:=u (BX.out.mod m3 (E));have hbl3:=BE3.out.lt;have hrl3:=BX3.out.lt;obtain ⟨x0,x1⟩:=BE3.out.cells2;obtain ⟨y0,y1,y2,y3,y4,y5,y6⟩:=BX3.out.cells7;obtain ⟨f0,f1,-⟩:=BE3.out.frozs;clear m3;go_wp2_with fail;refine (CLT.out _).mono ?_;rintro e wv ⟨rfl,rfl⟩;cases cl with
   | false=>
    obtain rfl:v=false:=hvv.out;go_wp2_with fail;go_ret2;exact ⟨rfl,M3.out⟩
   | true=>
    have hv2:R (hT f n x st C (qb+1)=v):=by show _=_;rw [hvv.out];rfl
    go_wp2_with fail;refine (SI.out _).mono ?_;rintro e w4 ⟨rfl,m4⟩;have M4:=u (M3.out.trans' m4);have BE4:=u (BE3.out.mod m4 (E));obtain ⟨x0,x1⟩:=BE4.out.cells2;obtain ⟨f0,f1,-⟩:=BE4.out.frozs;have hbl4:=BE4.out.lt;clear m4;go_wp2_with fail;go_roundw
    case rel=>
     refine ⟨qb+1,st,sa,C,by first | rfl | (go_num),P,?_,?_,LC,RC,hv2⟩
     ·exact (M4.out.setCell _ _ (fun q=>by simp only at q;omega)).setCell _ _ (fun q=>by simp only at q;omega)
     ·have BW:=((BE4.out.set 0 (s V st)).set 1 (s U sa));simp only [List.setIfInBounds_toArray,List.set_cons_zero,List.set_cons_succ] at BW;exact BW
    case measure=>simp [intOf];omega
open Go.RowKit
theorem yw8 (z:Int):∃y:Nat,IntKind.u16.wrap z=(y:Int)∧y < 65536:=by
 have e:IntKind.u16.wrap z=z % 65536:=vK;rw [e];exact ⟨(z % 65536).toNat,P,P⟩
theorem zq9 (o:BinOp) (a b:Int):∃y:Nat,bits o D a b=(y:Int)∧y < 65536:=by
 unfold bits;split<;>exact yw8 _
theorem yl9 {w:K} {bo:Nat} {p q Fo:List Nat} (hO:IsOrd w bo p q Fo) (hp:p.length≤16) (hpv:∀v∈p,v < 16) (x:Nat) (hx:x < 65536):
 N Z 71 #[c (X ⟨bo,0,j⟩),s J x] w fun e w'=>(∃y:Nat,y < 65536∧e=Y (s D y))∧w'=w:=by
 have VO:=u (Xh hO);have VR:R (∀l,(hl:l < p.length)→_):=fun l hl=>zj2 hO hp l hl
 have PV:R (∀l,(hl:l < p.length)→p[l] < 16):=fun l hl=>hpv _ (List.getElem_mem hl)
 obtain ⟨n,hn⟩:∃n,p.length=n:=⟨_,rfl⟩;rw [hn] at VO hp;have HN:=u hn;clear hO hpv hn;go_in;go_wp2_with fail;refine VO.out.mono ?_;rintro e w1 ⟨rfl,rfl⟩;go_wp2_with fail
 go_loopw [5,6,9] (fun a _ i wr=>∃(k y:Nat),i=s J k∧k≤n∧a=s D y∧y < 65536∧wr=w1) (fun _ _ i _=>n - (intOf i).toNat)
 case atStart=>exact ⟨0,0,rfl,P,rfl,P,rfl⟩
 case round=>
  obtain ⟨k,y,rfl,hk,rfl,hy,rfl⟩:=hrel;by_cases hlt:k < n
  ·have hlt':(k:Int) < n:=P;have hk0:(0:Int)≤k:=P;have C1:=u (VR.out k (zQ));have h16:=PV.out k (zQ);generalize p[k]'(zQ)=v at *;go_wp2_with fail;refine C1.out.mono ?_;rintro e w2 ⟨rfl,rfl⟩;go_wp2_with fail;refine ⟨?_,zR⟩;obtain ⟨y',e',hy'⟩:=zq9 .or (y:Int) (IntKind.u16.wrap (IntKind.u16.wrap (bits BinOp.and IntKind.i64 ((x:Int) / 2 ^ v) 1) *2 ^ k));exact ⟨k+1,y',E,P,by rw [e'],hy',trivial⟩
  ·obtain rfl:k=n:=P;go_wp2_with fail;go_ret;exact ⟨⟨_,hy,rfl⟩,rfl⟩
open Go.RowKit
structure Root (L:List Rc) (n f:Nat) (e:Ed) (T:Tr):Prop where
 f1:1≤f
 f5:f≤5
 rep:Rep L f e.a T
 leads:LeadsP L f e 0 n
theorem zW7 {w:K} {b n:Nat} {L:List Rc} {room:Nat} {F:List Nat} (h:IsSt w b n L room F) (hL:L.length≤1048576) (hn:n≤16) {f:Nat} {e:Ed} {T:Tr} (hr:Root L n f e T) (g:Nat) (g1:1≤g) (g5:g≤5):
 N Z 85 #[c (X ⟨b,0,j⟩),s V f,edv e,s V g] w fun e w'=>e=Y (s V 0)∧Q [] w w':=by
 have LD:R (∀W,Q [] w W→_):=fun W m=>YI (h.mod m (E)) hL hn f hr.f1 hr.f5 e 0 (P) hr.leads
 have IF:=u (YZ f hr.f1 hr.f5);have IG:=u (YZ g g1 g5);obtain ⟨t,a⟩:=e;unfold edv at *;simp only at LD ⊢;obtain ⟨gk,hgk⟩:∃gk,w.heap.size=gk:=⟨_,rfl⟩;clear h hr;go_in;go_wp2_with fail;refine (IF.out _).mono ?_;rintro e w1 ⟨rfl,rfl⟩;go_wp2_with fail;refine (IG.out _).mono ?_;rintro e w1 ⟨rfl,rfl⟩;go_wp2_with fail;refine (LD.out _ (zg)).mono ?_;rintro e w2 ⟨rfl,m2⟩;have M2:=u (Mod.trans' (show Q [] w _ from zg) m2);clear m2;go_wp2_with fail;go_ret;exact ⟨rfl,M2.out⟩
theorem zI4 {w:K} {b:Nat} {L:List Rc} {room:Nat} {F:List Nat} (h:IsSt w b 3 L room F) (hL:L.length≤1048576) (hG:Good L 3) {f g:Nat} {e e':Ed} {T T':Tr} (hr:Root L 3 f e T) (hr':Root L 3 g e' T')
 (heq:∀x,x < 8→hT f 3 x e.t T 0=hT g 3 x e'.t T' 0):
 N Z 48 #[c (X ⟨b,0,j⟩),s V f,edv e,s V g,edv e'] w fun e w'=>e=Y (I #[G true,s V 0])∧Q [] w w':=by
 have MY:R (∀W,Q [] w W→_):=fun W m=>zW7 (h.mod m (E)) hL (P) hr g hr'.f1 hr'.f5
 have LD:R (∀W,Q [] w W→_):=fun W m=>YI (h.mod m (E)) hL (P) g hr'.f1 hr'.f5 e' 0 (P) hr'.leads
 have HA:R (∀W (x:Nat),x < 65536→Q [] w W→_):=fun W x hx m=>zr0 (h.mod m (E)) hL hG (P) f hr.f1 hr.f5 e T hr.rep 0 (P) hr.leads x hx
 have HB:R (∀W (x:Nat),x < 65536→Q [] w W→_):=fun W x hx m=>zr0 (h.mod m (E)) hL hG (P) g hr'.f1 hr'.f5 e' T' hr'.rep 0 (P) hr'.leads x hx
 have VA:R (∀W',Q [] w W'→N Z 67 #[c (X ⟨b,0,j⟩)] W' fun e w'=>e=Y (s J 3)∧w'=W'):=fun W' m=>by
  obtain ⟨ba,bi,Fa,c0,_⟩:=(h.mod m (E)).own;exact YH b 3 W' c0
 have HE:=u heq;obtain ⟨t,a⟩:=e;obtain ⟨t',a'⟩:=e';unfold edv at *;simp only [Int.natCast_zero] at MY LD HA HB HE ⊢;obtain ⟨gk,hgk⟩:∃gk,w.heap.size=gk:=⟨_,rfl⟩;clear h hr hr' hG heq;go_in;go_wp2_with fail;refine (MY.out _ (zg)).mono ?_;rintro e w2 ⟨rfl,m2⟩;have M2:=u (Mod.trans' (show Q [] w _ from zg) m2);have BA:=u (((Blk.new' w #[s V t,s U a] 44 gk hgk.symm).alloc (.cells #[s V t',s U a'] 44)).mod m2 (E));have BB:=u ((Blk.new' (w.alloc (.cells #[s V t,s U a] 44)) #[s V t',s U a'] 44 (gk+1) (zk)).mod m2 (E));obtain ⟨a0,a1⟩:=BA.out.cells2;obtain ⟨b0,b1⟩:=BB.out.cells2;clear m2 MY;go_wp2_with fail;refine (LD.out _ M2.out).mono ?_;rintro e w3 ⟨rfl,m3⟩;have M3:=u (M2.out.trans' m3);replace BA:=u (BA.out.mod m3 (E));replace BB:=u (BB.out.mod m3 (E));clear a0 a1 b0 b1 m3 LD;go_wp2_with fail;refine (VA.out _ M3.out).mono ?_;rintro e wv ⟨rfl,rfl⟩;go_wp2_with fail
 go_loopw [33] (fun i wr=>∃k:Nat,i=s J k∧k≤8∧R (Q [] w wr)∧R (Blk wr gk #[s V t,s U a] 44)∧R (Blk wr (gk+1) #[s V t',s U a'] 44)) (fun i _=>8 - (intOf i).toNat)
 case atStart=>exact ⟨0,rfl,P,M3,BA,BB⟩
 case round=>
  clear M3 M2 BA BB;obtain ⟨k,rfl,hk,M,BA,BB⟩:=hrel;by_cases hk8:k=8
  ·subst hk8;go_wp2_with fail;go_ret2;exact ⟨rfl,M.out⟩
  ·have hk7:(k:Int) < 8:=P;have hk0:(0:Int)≤k:=P;have hk6:(k:Int)≤65535:=P;obtain ⟨a0,a1⟩:=BA.out.cells2;obtain ⟨b0,b1⟩:=BB.out.cells2;have HX:=HE.out k (P);have HA1:=u (HA.out wr k (P) M.out);have HB1:=u (fun W m=>HB.out W k (P) m);rw [HX] at HA1;generalize hT g 3 k t' T' 0=v at *;clear HA HB HE HX;go_wp2_with fail;refine HA1.out.mono ?_;rintro e w3 ⟨rfl,m3⟩;have M3:=u (M.out.trans' m3);have BA3:=u (BA.out.mod m3 (E));have BB3:=u (BB.out.mod m3 (E));obtain ⟨b0,b1⟩:=BB3.out.cells2;clear m3 HA1;go_wp2_with fail;refine (HB1.out _ M3.out).mono ?_;rintro e w4 ⟨rfl,m4⟩;have M4:=u (M3.out.trans' m4);have BA4:=u (BA3.out.mod m4 (E));have BB4:=u (BB3.out.mod m4 (E));have hvv:(v != v)=false:=by cases v<;>rfl
   clear m4 HB1;go_wp2_with fail;go_roundw
   case rel=>exact ⟨k+1,by first | rfl | (go_num),P,M4,BA4,BB4⟩
   case measure=>simp [intOf];omega
open Go.RowKit
theorem zX2 {w:K} {bm room:Nat} {L:List Rc} {Fs p:List Nat} {H:List (Nat × Ed)} {bs bo bq:Nat} {F:List Nat} (h:Mng w bm 3 room L Fs p H bs bo bq F) (hL:L.length≤1048576) (hG:Good L 3) (hH:H.length≤256)
 {a a2 f f2:Nat} {e e2:Ed} {T T2:Tr} (hf:H[a]? =X (f,e)) (hf2:H[a2]? =X (f2,e2)) (hne:¬(f:Int)=f2) (hr:Root L 3 f e T) (hr2:Root L 3 f2 e2 T2) (heq:∀x,x < 8→hT f 3 x e.t T 0=hT f2 3 x e2.t T2 0):
 N Z 17 #[c (X ⟨bm,0,j⟩),s J ((a+1:Nat):Int),s J ((a2+1:Nat):Int)] w fun e w'=>e=Y (I #[G true,s V 0])∧Q [] w w':=by
 obtain ⟨ba,bg,vk,vq,vg,Fo,q,g1,g2,g3,-⟩:=h.m;have d3:=g1.cell 3 (P);replace d3:w.cell? ⟨bm,3,j⟩=X (c (X ⟨bs,0,j⟩)):=d3;have hbm:=g1.lt;obtain ⟨hl,hg⟩:=O.1 hf;obtain ⟨hl2,hg2⟩:=O.1 hf2;have HA:R (∀w':K,w'=w→_):=fun w' e=>e▸zT7 g1 hH (a+1) (P) (P)
 have HA2:R (∀w':K,w'=w→_):=fun w' e=>e▸zT7 g1 hH (a2+1) (P) (P)
 obtain ⟨d0,d1,d2⟩:=g1.root hH a hl;obtain ⟨k0,k1,k2⟩:=g1.root hH a2 hl2;rw [hg] at d0 d1 d2;rw [hg2] at k0 k1 k2;simp only at d0 d1 d2 k0 k1 k2;have CS:R (∀W,Q [] w W→_):=fun W m=>zI4 (h.s.mod m (E)) hL hG hr hr2 heq
 obtain ⟨m,hm⟩:∃m,a+1=m:=⟨_,rfl⟩;rw [hm] at d0 d1 d2 HA ⊢;obtain ⟨m2,hm2⟩:∃m,a2+1=m:=⟨_,rfl⟩;rw [hm2] at k0 k1 k2 HA2 ⊢;have hm3:(m:Int) < 257:=P;have hm0:(0:Int)≤m:=P;have hk3:(m2:Int) < 257:=P;have hk0:(0:Int)≤m2:=P;have hd:((f:Int)==f2)=false:=by simpa using hne
 obtain ⟨t,x⟩:=e;obtain ⟨t2,x2⟩:=e2;unfold edv at CS;simp only at d0 d1 d2 k0 k1 k2 CS;clear h hf hg hl hm hf2 hg2 hl2 hm2 g1 g2 g3 hr hr2 heq hG;obtain ⟨gn,hgn⟩:∃g,w.heap.size=g:=⟨_,rfl⟩;have n1:¬bm=gn:=P;have n2:¬gn=bm:=P;have n3:¬bm=gn+1:=P;have n4:¬gn+1=bm:=P;go_in;go_wp2_with fail;refine (HA.out _ rfl).mono ?_;rintro e' w1 ⟨rfl,rfl⟩;go_wp2_with fail;refine (HA2.out _ rfl).mono ?_;rintro e' w1 ⟨rfl,rfl⟩;clear HA HA2;have C1:∀(off:Nat) (v:Value),w1.cell? ⟨bm,off,j⟩=X v→∀o:Obj,(w1.alloc o).cell? ⟨bm,off,j⟩=X v:=fun off v hv o=>(((Mod.refl [] w1).alloc o).cell (a:=⟨bm,off,j⟩) hbm (E)).trans hv
 have C2:∀(off:Nat) (v:Value),w1.cell? ⟨bm,off,j⟩=X v→∀o o':Obj,((w1.alloc o).alloc o').cell? ⟨bm,off,j⟩=X v:=fun off v hv o o'=>((((Mod.refl [] w1).alloc o).alloc o').cell (a:=⟨bm,off,j⟩) hbm (E)).trans hv
 have c10:=C1 _ _ d0;have c11:=C1 _ _ d1;have c12:=C1 _ _ d2;have c13:=C1 _ _ k0;have c14:=C1 _ _ k1;have c15:=C1 _ _ k2;have c20:=C2 _ _ d0;have c21:=C2 _ _ d1;have c22:=C2 _ _ d2;have c23:=C2 _ _ k0;have c24:=C2 _ _ k1;have c25:=C2 _ _ k2;clear C1 C2;go_upto_region 5 with fail;go_cut [8,9] from 22 to 33 (fun p8 p9 wx=>∃ga gb,p8=c (X ⟨ga,0,j⟩)∧p9=c (X ⟨gb,0,j⟩)∧R (Blk wx ga #[s V f,s V t,s U x] 108)∧R (Blk wx gb #[s V f2,s V t2,s U x2] 108)∧gn≤ga∧gn≤gb∧ga≠gb∧R (Q [] w1 wx))
 case first=>
  go_region
  all_goals (go_wp2_with fail;go_meet)
  all_goals first
   | exact ⟨gn,gn+1,rfl,rfl,((Blk.new' w1 #[s V f,s V t,s U x] 108 gn hgn.symm).alloc _).drew,(Blk.new' _ #[s V f2,s V t2,s U x2] 108 (gn+1) (by simp [hgn])).drew,P,P,P,(((Mod.refl _ _).alloc _).alloc _).drew⟩
   | exact ⟨gn+1,gn,rfl,rfl,(Blk.new' _ #[s V f,s V t,s U x] 108 (gn+1) (by simp [hgn])).drew,((Blk.new' w1 #[s V f2,s V t2,s U x2] 108 gn hgn.symm).alloc _).drew,P,P,P,(((Mod.refl _ _).alloc _).alloc _).drew⟩
 case rest=>
  obtain ⟨ga,gb,rfl,rfl,BA,BB,hga,hgb,hab,MX⟩:=hcut;have z0:=BA.out.cell 0;have z1:=BA.out.cell 1;have z2:=BA.out.cell 2;have y0:=BB.out.cell 0;have y1:=BB.out.cell 1;have y2:=BB.out.cell 2;simp only [List.getElem?_toArray,List.getElem?_cons_zero,List.getElem?_cons_succ] at z0 z1 z2 y0 y1 y2;have ha1:¬ga=gb:=hab;have hbl:ga < wc.heap.size:=BA.out.lt;have hbl2:gb < wc.heap.size:=BB.out.lt;have hbm:=S hbm MX.out.size;have d3:=(MX.out.cell (a:=⟨bm,3,j⟩) (zZ) (E)).trans d3;go_wp2_with fail
  go_region_held3 (fun w'=>w'.cell? ⟨bm,3,j⟩=X (c (X ⟨bs,0,j⟩))∧w'.cell? ⟨ga,0,j⟩=X (s V f)∧w'.cell? ⟨ga,1,j⟩=X (s V t)∧w'.cell? ⟨ga,2,j⟩=X (s U x)∧w'.cell? ⟨gb,0,j⟩=X (s V f2)∧w'.cell? ⟨gb,1,j⟩=X (s V t2)∧w'.cell? ⟨gb,2,j⟩=X (s U x2)) (go_keep) (first | (go_at_call 48;refine (CS.out _ (MX.out.trans' (show Q [] wc _ from zg))).mono ?_;rintro e' w5 ⟨rfl,m_w5⟩;have M_w5:=Mod.trans' (show Q _ wc _ from zg) m_w5;have d3:=(M_w5.cell (a:=⟨bm,3,j⟩) hbm (zh)).trans d3;have z0:=(M_w5.cell (a:=⟨ga,0,j⟩) hbl (zh)).trans z0;have z1:=(M_w5.cell (a:=⟨ga,1,j⟩) hbl (zh)).trans z1;have z2:=(M_w5.cell (a:=⟨ga,2,j⟩) hbl (zh)).trans z2;have y0:=(M_w5.cell (a:=⟨gb,0,j⟩) hbl2 (zh)).trans y0;have y1:=(M_w5.cell (a:=⟨gb,1,j⟩) hbl2 (zh)).trans y1;have y2:=(M_w5.cell (a:=⟨gb,2,j⟩) hbl2 (zh)).trans y2;have hbm:=S hbm M_w5.size;have hbl:=S hbl M_w5.size;have hbl2:=S hbl2 M_w5.size))
  all_goals
   go_wp2_with fail;go_ret2;exact ⟨rfl,MX.out.trans' M_w5⟩
end Go.Proofs.YtbnpoapmnkfhkaaGreatDoor
