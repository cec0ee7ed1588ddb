/- Mq27: Hp · Ga · Cs · Mq -/
import Derived.Test.YtlafpknoiihaaaaGreatDoorMq14
import Derived.Deep.CutRange
import Derived.Test.YtlafpknoiihaaaaGreatDoorMq07
import Derived.Test.YtlafpknoiihaaaaGreatDoorMq06
import Derived.Test.YtlafpknoiihaaaaGreatDoorMq26
set_option maxRecDepth 100000
set_option maxHeartbeats 4000000
set_option linter.unusedVariables false
set_option linter.unusedSimpArgs false
namespace Go.Proofs.YtlafpknoiihaaaaGreatDoor
open Go.RowKit
theorem holds_c {w:World} {b n:Nat} {L:List Rc} {room:Nat} {F:List Nat} (h:IsSt w b n L room F) (hL:L.length≤1048576) (hG:Good L n) (hn:n≤16) (f:Nat) (h1:1≤f) (h5:f≤5) (e:Ed) (T:Tr) (hT0:Rep L f e.a T) (l:Nat) (hl:l≤n) (hP:LeadsP L f e l n) (x:Nat) (hx:x < 65536):
 Calls Tryz.prog 65 #[.pointer (some ⟨b,0,none⟩),.int .u8 f,edv e,.int .i64 l,.int .u16 x] w fun e' w'=>e'=.returned (.tuple #[.bool (hT f n x e.t T l),.int .u8 0])∧Mod [] w w':=by
 have MY:Hid (∀W,Mod [] w W→_):=fun W m=>canonMay_c (h.mod m (by simp)) hL hn f h1 h5 e l hl hP
 have VA:Hid (∀W',Mod [] w W'→Calls Tryz.prog 59 #[.pointer (some ⟨b,0,none⟩)] W' fun e w'=>e=.returned (.int .i64 n)∧w'=W'):=fun W' m=>by
  obtain ⟨ba,bi,Fa,c0,_⟩:=(h.mod m (by simp)).own
  exact stVars_c b n W' c0
 have GL:Hid (∀W (id:Nat) (r:Rc),Mod [] w W→recAt L id=some r→Calls Tryz.prog 93 #[.pointer (some ⟨b,0,none⟩),.int .u32 id] W fun e w'=>e=.returned (.tuple #[rcv r,.bool true])∧Mod [] W w'):=fun W id r m hr=>stGet_live (h.mod m (by simp)) hL id r hr
 have GN:Hid (∀W,Mod [] w W→Calls Tryz.prog 93 #[.pointer (some ⟨b,0,none⟩),.int .u32 1] W fun e w'=>e=.returned (.tuple #[rcv rc0,.bool false])∧Mod [] W w'):=fun W m=>stGet_none (h.mod m (by simp)) hL 1 (by omega) (by unfold recAt;simp)
 have FR:=Lib.hid (free2_c f)
 have SI:Hid (∀(r:Rc) (W:World),RightR r n→Calls Tryz.prog 96 #[rcv r,.int .u16 x] W fun e' w'=>e'=.returned (edv (sideN r x))∧Mod [] W w'):=fun r W hr=>side_c r n hr x hx W
 have CL:Hid (∀(a d:Nat) (W:World),a+d≤64→Calls Tryz.prog 94 #[.int .u16 x,.int .i64 a,.int .i64 ((a+d:Nat):Int)] W fun e w'=>e=.returned (.bool (clearN x a d))∧w'=W):=fun a d W ha=>clear_c x a d hx ha W
 have HG:=Lib.hid hG
 have LP:=Lib.hid hP
 have RP:=Lib.hid hT0
 obtain ⟨v,hv⟩:∃v,hT f n x e.t T l=v:=⟨_,rfl⟩
 have HV:=Lib.hid hv
 rw [hv]
 obtain ⟨t,a⟩:=e
 unfold edv at MY ⊢
 simp only at MY LP RP HV ⊢
 obtain ⟨gk,hgk⟩:∃gk,w.heap.size=gk:=⟨_,rfl⟩
 clear h hG hT0 hP hv hx
 go_enter Tryz.func65,Tryz.ntmps65
 go_wp2_with fail
 refine (MY.out _ (by exact mods)).mono ?_
 rintro e w2 ⟨rfl,m2⟩
 have M2:Hid (Mod [] w w2):=(Mod.trans' (show Mod [] w _ from by exact mods) m2)
 have BR:=Lib.hid ((Blk.new' w _ _ gk hgk.symm).mod m2 (by simp))
 have hbl:=BR.out.lt
 clear m2 MY
 go_wp2_with fail
 go_loopw [3] (fun i wr=>∃(l t a:Nat) (T:Tr),i=.int .i64 l∧l≤n∧Hid (Mod [] w wr)∧Hid (Blk wr gk #[.int .u8 t,.int .u32 a] 66)∧Hid (LeadsP L f ⟨t,a⟩ l n)∧Hid (Rep L f a T)∧Hid (hT f n x t T l=v)) (fun i _=>n - (intOf i).toNat)
 case atStart=>exact ⟨l,t,a,T,rfl,hl,M2,BR,LP,RP,HV⟩
 case round=>
  clear BR LP RP HV M2
  obtain ⟨l,t,a,T,rfl,hl,M,B,LP,RP,HV⟩:=hrel
  obtain ⟨d0,d1⟩:=B.out.cells2
  have hbl:=B.out.lt
  by_cases ha0:a=0
  ·subst ha0
   have hT0:T=.leaf false:=by
    have:=RP.out
    cases this with
    | zero=>rfl
    | node hr=>have:=(recAt_lt hr).1;omega
   subst hT0
   obtain rfl:v=false:=HV.out.symm
   clear GL GN CL FR SI VA LP RP HV
   go_wp2_with fail
   go_ret2
   exact ⟨rfl,M.out⟩
  have GT:Hid (∃(q:Rc) (ok:Bool),(∀W,Mod [] w W→Calls Tryz.prog 93 #[.pointer (some ⟨b,0,none⟩),.int .u32 a] W fun e w'=>e=.returned (.tuple #[rcv q,.bool ok])∧Mod [] W w')∧
   (ok=false→freeN f t l n≤n∧v=clearN x (freeN f t l n) (n - freeN f t l n))∧
   (ok=true→RightR q n∧freeN f t l q.top≤q.top∧q.f=f∧l≤q.top∧∃C,Rep L f (sideN q x).a C∧LeadsP L f (sideN q x) (q.bot+1) n∧
    v=(clearN x (freeN f t l q.top) (q.top - freeN f t l q.top) && hT f n x (sideN q x).t C (q.bot+1)))):=by
   have hR:=RP.out
   have hv:=HV.out
   cases hR with
   | zero=>exact absurd rfl ha0
   | one=>
    refine ⟨rc0,false,fun W m=>GN.out W m,fun _=>⟨freeN_one LP.out hl rfl,hv.symm⟩,fun h=>by cases h⟩
   | @node _ r A C hr hf hA hC=>
    refine ⟨r,true,fun W m=>GL.out W a r m hr,(fun h=>by cases h),fun _=>?_⟩
    have hg:=HG.out a r hr
    have hll:l≤r.top:=by
     rcases LP.out.at_ with q | ⟨r',h2,h3,h4,h5,h6⟩
     ·have:=(recAt_lt hr).1;simp only at q;omega
     ·simp only at h2;rw [hr] at h2;obtain rfl:=Option.some.inj h2;exact h4
    have hlo:=hg.lo
    have hhi:=hg.hi
    rw [hf] at hlo hhi
    refine ⟨hg.right,freeN_le LP.out hr,hf,hll,?_⟩
    rw [←hv,hT]
    have e:(if f=3 then !clearN x r.top (r.bot+1 - r.top) else x.testBit r.bot)=oneN r x:=by unfold oneN;rw [hf]
    rw [e]
    unfold sideN
    cases oneN r x with
    | true=>exact ⟨C,hC,hhi,rfl⟩
    | false=>exact ⟨A,hA,hlo,rfl⟩
  obtain ⟨q,ok,GT,QF,QT⟩:=GT.out
  replace GT:=Lib.hid GT
  replace QF:=Lib.hid QF
  replace QT:=Lib.hid QT
  have ht255:t≤255:=by
   have h2:=LP.out.plain
   unfold PlainE at h2
   simp only at h2
   by_cases h55:f=5
   ·have:=h2.2 h55 ha0;omega
   ·have:=h2.1 (.inl h55);omega
  have ha1:decide ((a:Int) > 0)=true:=by simp;omega
  obtain ⟨qf,qt,qb,⟨qlt,qla⟩,⟨qht,qha⟩⟩:=q
  have SI:=Lib.hid (SI.out ⟨qf,qt,qb,⟨qlt,qla⟩,⟨qht,qha⟩⟩)
  unfold rcv at GT SI
  simp only at GT SI QF QT
  clear GL GN RP HV LP HG
  obtain ⟨gs,hgs⟩:∃gs,wr.heap.size=gs:=⟨_,rfl⟩
  have gs1:¬gk=gs:=by omega
  have gs2:¬gs=gk:=by omega
  replace GT:Hid (∀W,Mod [] w W→_):=GT
  have MB:=Lib.hid (fun (W W':World) (m:Mod [] w W')=>m)
  go_wp2_with fail
  refine (GT.out _ (M.out.trans' (show Mod [] wr _ from by exact mods))).mono ?_
  rintro e w1 ⟨rfl,m1⟩
  obtain ⟨gr,hgr⟩:∃gr,w1.heap.size=gr:=⟨_,rfl⟩
  have BX:=Blk.new' w1 #[.int .u8 qf,.int .u8 qt,.int .u8 qb,.int .u8 qlt,.int .u32 qla,.int .u8 qht,.int .u32 qha] 108 gr hgr.symm
  have MX:=m1.alloc (.cells #[.int .u8 qf,.int .u8 qt,.int .u8 qb,.int .u8 qlt,.int .u32 qla,.int .u8 qht,.int .u32 qha] 108)
  have MW:=M.out.trans' MX
  have BE:=B.out.mod MX (by simp)
  have hsz:=MX.size
  have hkr:gs≤gr:=by have:=m1.size;omega
  clear GT M B m1
  have FRT:Hid (∀(W:World) (top:Nat),_):=fun W top=>FR.out ⟨t,a⟩ ht255 l top W
  unfold edv at FRT
  simp only at FRT
  obtain ⟨d0,d1⟩:=BE.cells2
  obtain ⟨r0,r1,r2,r3,r4,r5,r6⟩:=BX.cells7
  have hbl2:=BE.lt
  have hrl2:=BX.lt
  have n1:¬gk=gr:=by omega
  have n2:¬gr=gk:=by omega
  replace MW:=Lib.hid MW
  replace BE:=Lib.hid BE
  replace BX:=Lib.hid BX
  clear MX FR hsz
  cases ok with
  | false=>
   obtain ⟨hfr,hvv⟩:=QF.out rfl
   clear QF QT SI
   have CLT:=Lib.hid (fun W=>CL.out (freeN f t l n) (n - freeN f t l n) W (by omega))
   rw [show freeN f t l n+(n - freeN f t l n)=n by omega] at CLT
   replace FRT:=Lib.hid (fun W=>FRT.out W n)
   generalize freeN f t l n=fr at *
   generalize clearN x fr (n - fr)=cl at *
   subst hvv
   clear CL hfr
   go_wp2_with fail
   refine (VA.out _ MW.out).mono ?_
   rintro e wv ⟨rfl,rfl⟩
   go_wp2_with fail
   refine (FRT.out _).mono ?_
   rintro e w3 ⟨rfl,m3⟩
   have M3:=Lib.hid (MW.out.trans' m3)
   clear m3
   go_wp2_with fail
   refine (CLT.out _).mono ?_
   rintro e wv ⟨rfl,rfl⟩
   cases v with
   | false=>
    go_wp2_with fail
    go_ret2
    exact ⟨rfl,M3.out⟩
   | true=>
    go_wp2_with fail
    go_ret2
    exact ⟨rfl,M3.out⟩
  | true=>
   obtain ⟨hR,hfr,hqf,hlt,C,RC,LC,hvv⟩:=QT.out rfl
   clear QF QT
   have tb:=hR.tb
   have bn:=hR.bn
   simp only at hfr hlt tb bn
   have CLT:=Lib.hid (fun W=>CL.out (freeN f t l qt) (qt - freeN f t l qt) W (by omega))
   rw [show freeN f t l qt+(qt - freeN f t l qt)=qt by omega] at CLT
   replace FRT:=Lib.hid (fun W=>FRT.out W qt)
   replace SI:=Lib.hid (fun W=>SI.out W hR)
   generalize freeN f t l qt=fr at *
   generalize clearN x fr (qt - fr)=cl at *
   generalize sideN ⟨qf,qt,qb,⟨qlt,qla⟩,⟨qht,qha⟩⟩ x=sd at *
   obtain ⟨st,sa⟩:=sd
   unfold edv at SI
   simp only at SI RC LC hvv
   have q0:(0:Int)≤qt:=by omega
   have q255:(qt:Int)≤255:=by omega
   have qb0:(0:Int)≤qb:=by omega
   have qb255:(qb:Int)≤255:=by omega
   replace RC:=Lib.hid RC
   replace LC:=Lib.hid LC
   replace hvv:=Lib.hid hvv
   clear CL hR hqf
   go_wp2_with fail
   refine (VA.out _ MW.out).mono ?_
   rintro e wv ⟨rfl,rfl⟩
   go_wp2_with fail
   refine (FRT.out _).mono ?_
   rintro e w3 ⟨rfl,m3⟩
   have M3:=Lib.hid (MW.out.trans' m3)
   have BE3:=Lib.hid (BE.out.mod m3 (by simp))
   have BX3:=Lib.hid (BX.out.mod m3 (by simp))
   have hbl3:=BE3.out.lt
   have hrl3:=BX3.out.lt
   obtain ⟨x0,x1⟩:=BE3.out.cells2
   obtain ⟨y0,y1,y2,y3,y4,y5,y6⟩:=BX3.out.cells7
   obtain ⟨f0,f1,-⟩:=BE3.out.frozs
   clear m3
   go_wp2_with fail
   refine (CLT.out _).mono ?_
   rintro e wv ⟨rfl,rfl⟩
   cases cl with
   | false=>
    obtain rfl:v=false:=hvv.out
    go_wp2_with fail
    go_ret2
    exact ⟨rfl,M3.out⟩
   | true=>
    have hv2:Hid (hT f n x st C (qb+1)=v):=by show _=_;rw [hvv.out];rfl
    go_wp2_with fail
    refine (SI.out _).mono ?_
    rintro e w4 ⟨rfl,m4⟩
    have M4:=Lib.hid (M3.out.trans' m4)
    have BE4:=Lib.hid (BE3.out.mod m4 (by simp))
    obtain ⟨x0,x1⟩:=BE4.out.cells2
    obtain ⟨f0,f1,-⟩:=BE4.out.frozs
    have hbl4:=BE4.out.lt
    clear m4
    go_wp2_with fail
    go_roundw
    case rel=>
     refine ⟨qb+1,st,sa,C,by first | rfl | (go_num),by omega,?_,?_,LC,RC,hv2⟩
     ·exact (M4.out.setCell _ _ (fun q=>by simp only at q;omega)).setCell _ _ (fun q=>by simp only at q;omega)
     ·have BW:=((BE4.out.set 0 (.int .u8 st)).set 1 (.int .u32 sa))
      simp only [List.setIfInBounds_toArray,List.set_cons_zero,List.set_cons_succ] at BW
      exact BW
    case measure=>simp [intOf];omega
open Go.RowKit
theorem u16_nat (z:Int):∃y:Nat,IntKind.u16.wrap z=(y:Int)∧y < 65536:=by
 have e:IntKind.u16.wrap z=z % 65536:=by simp [IntKind.wrap,IntKind.bits,IntKind.signed]
 rw [e]
 exact ⟨(z % 65536).toNat,by omega,by omega⟩
theorem u16_bits (o:BinOp) (a b:Int):∃y:Nat,bits o .u16 a b=(y:Int)∧y < 65536:=by
 unfold bits
 split<;>exact u16_nat _
theorem levels_c {w:World} {bo:Nat} {p q Fo:List Nat} (hO:IsOrd w bo p q Fo) (hp:p.length≤16) (hpv:∀v∈p,v < 16) (x:Nat) (hx:x < 65536):
 Calls Tryz.prog 66 #[.pointer (some ⟨bo,0,none⟩),.int .i64 x] w fun e w'=>(∃y:Nat,y < 65536∧e=.returned (.int .u16 y))∧w'=w:=by
 have VO:=Lib.hid (ordVars_c hO)
 have VR:Hid (∀l,(hl:l < p.length)→_):=fun l hl=>ordVar_c hO hp l hl
 have PV:Hid (∀l,(hl:l < p.length)→p[l] < 16):=fun l hl=>hpv _ (List.getElem_mem hl)
 obtain ⟨n,hn⟩:∃n,p.length=n:=⟨_,rfl⟩
 rw [hn] at VO hp
 have HN:=Lib.hid hn
 clear hO hpv hn
 go_enter Tryz.func66,Tryz.ntmps66
 go_wp2_with fail
 refine VO.out.mono ?_
 rintro e w1 ⟨rfl,rfl⟩
 go_wp2_with fail
 go_loopw [5,6,9] (fun a _ i wr=>∃(k y:Nat),i=.int .i64 k∧k≤n∧a=.int .u16 y∧y < 65536∧wr=w1) (fun _ _ i _=>n - (intOf i).toNat)
 case atStart=>exact ⟨0,0,rfl,by omega,rfl,by omega,rfl⟩
 case round=>
  obtain ⟨k,y,rfl,hk,rfl,hy,rfl⟩:=hrel
  by_cases hlt:k < n
  ·have hlt':(k:Int) < n:=by omega
   have hk0:(0:Int)≤k:=by omega
   have C1:=Lib.hid (VR.out k (by rw [HN.out];exact hlt))
   have h16:=PV.out k (by rw [HN.out];exact hlt)
   generalize p[k]'(by rw [HN.out];exact hlt)=v at *
   go_wp2_with fail
   refine C1.out.mono ?_
   rintro e w2 ⟨rfl,rfl⟩
   go_wp2_with fail
   refine ⟨?_,by simp [intOf];omega⟩
   obtain ⟨y',e',hy'⟩:=u16_bits .or (y:Int) (IntKind.u16.wrap (IntKind.u16.wrap (bits BinOp.and IntKind.i64 ((x:Int) / 2 ^ v) 1) *2 ^ k))
   exact ⟨k+1,y',by simp,by omega,by rw [e'],hy',trivial⟩
  ·obtain rfl:k=n:=by omega
   go_wp2_with fail
   go_ret
   exact ⟨⟨_,hy,rfl⟩,rfl⟩
open Go.RowKit
structure Root (L:List Rc) (n f:Nat) (e:Ed) (T:Tr):Prop where
 f1:1≤f
 f5:f≤5
 rep:Rep L f e.a T
 leads:LeadsP L f e 0 n
theorem convMay_c {w:World} {b n:Nat} {L:List Rc} {room:Nat} {F:List Nat} (h:IsSt w b n L room F) (hL:L.length≤1048576) (hn:n≤16) {f:Nat} {e:Ed} {T:Tr} (hr:Root L n f e T) (g:Nat) (g1:1≤g) (g5:g≤5):
 Calls Tryz.prog 70 #[.pointer (some ⟨b,0,none⟩),.int .u8 f,edv e,.int .u8 g] w fun e w'=>e=.returned (.int .u8 0)∧Mod [] w w':=by
 have LD:Hid (∀W,Mod [] w W→_):=fun W m=>stLeads_c (h.mod m (by simp)) hL hn f hr.f1 hr.f5 e 0 (by omega) hr.leads
 have IF:=Lib.hid (isForm_c f hr.f1 hr.f5)
 have IG:=Lib.hid (isForm_c g g1 g5)
 obtain ⟨t,a⟩:=e
 unfold edv at *
 simp only at LD ⊢
 obtain ⟨gk,hgk⟩:∃gk,w.heap.size=gk:=⟨_,rfl⟩
 clear h hr
 go_enter Tryz.func70,Tryz.ntmps70
 go_wp2_with fail
 refine (IF.out _).mono ?_
 rintro e w1 ⟨rfl,rfl⟩
 go_wp2_with fail
 refine (IG.out _).mono ?_
 rintro e w1 ⟨rfl,rfl⟩
 go_wp2_with fail
 refine (LD.out _ (by exact mods)).mono ?_
 rintro e w2 ⟨rfl,m2⟩
 have M2:=Lib.hid (Mod.trans' (show Mod [] w _ from by exact mods) m2)
 clear m2
 go_wp2_with fail
 go_ret
 exact ⟨rfl,M2.out⟩
theorem convSame_c {w:World} {b:Nat} {L:List Rc} {room:Nat} {F:List Nat} (h:IsSt w b 3 L room F) (hL:L.length≤1048576) (hG:Good L 3) {f g:Nat} {e e':Ed} {T T':Tr} (hr:Root L 3 f e T) (hr':Root L 3 g e' T')
 (heq:∀x,x < 8→hT f 3 x e.t T 0=hT g 3 x e'.t T' 0):
 Calls Tryz.prog 44 #[.pointer (some ⟨b,0,none⟩),.int .u8 f,edv e,.int .u8 g,edv e'] w fun e w'=>e=.returned (.tuple #[.bool true,.int .u8 0])∧Mod [] w w':=by
 have MY:Hid (∀W,Mod [] w W→_):=fun W m=>convMay_c (h.mod m (by simp)) hL (by omega) hr g hr'.f1 hr'.f5
 have LD:Hid (∀W,Mod [] w W→_):=fun W m=>stLeads_c (h.mod m (by simp)) hL (by omega) g hr'.f1 hr'.f5 e' 0 (by omega) hr'.leads
 have HA:Hid (∀W (x:Nat),x < 65536→Mod [] w W→_):=fun W x hx m=>holds_c (h.mod m (by simp)) hL hG (by omega) f hr.f1 hr.f5 e T hr.rep 0 (by omega) hr.leads x hx
 have HB:Hid (∀W (x:Nat),x < 65536→Mod [] w W→_):=fun W x hx m=>holds_c (h.mod m (by simp)) hL hG (by omega) g hr'.f1 hr'.f5 e' T' hr'.rep 0 (by omega) hr'.leads x hx
 have VA:Hid (∀W',Mod [] w W'→Calls Tryz.prog 59 #[.pointer (some ⟨b,0,none⟩)] W' fun e w'=>e=.returned (.int .i64 3)∧w'=W'):=fun W' m=>by
  obtain ⟨ba,bi,Fa,c0,_⟩:=(h.mod m (by simp)).own
  exact stVars_c b 3 W' c0
 have HE:=Lib.hid heq
 obtain ⟨t,a⟩:=e
 obtain ⟨t',a'⟩:=e'
 unfold edv at *
 simp only [Int.natCast_zero] at MY LD HA HB HE ⊢
 obtain ⟨gk,hgk⟩:∃gk,w.heap.size=gk:=⟨_,rfl⟩
 clear h hr hr' hG heq
 go_enter Tryz.func44,Tryz.ntmps44
 go_wp2_with fail
 refine (MY.out _ (by exact mods)).mono ?_
 rintro e w2 ⟨rfl,m2⟩
 have M2:=Lib.hid (Mod.trans' (show Mod [] w _ from by exact mods) m2)
 have BA:=Lib.hid (((Blk.new' w #[.int .u8 t,.int .u32 a] 66 gk hgk.symm).alloc (.cells #[.int .u8 t',.int .u32 a'] 66)).mod m2 (by simp))
 have BB:=Lib.hid ((Blk.new' (w.alloc (.cells #[.int .u8 t,.int .u32 a] 66)) #[.int .u8 t',.int .u32 a'] 66 (gk+1) (by simp [hgk])).mod m2 (by simp))
 obtain ⟨a0,a1⟩:=BA.out.cells2
 obtain ⟨b0,b1⟩:=BB.out.cells2
 clear m2 MY
 go_wp2_with fail
 refine (LD.out _ M2.out).mono ?_
 rintro e w3 ⟨rfl,m3⟩
 have M3:=Lib.hid (M2.out.trans' m3)
 replace BA:=Lib.hid (BA.out.mod m3 (by simp))
 replace BB:=Lib.hid (BB.out.mod m3 (by simp))
 clear a0 a1 b0 b1 m3 LD
 go_wp2_with fail
 refine (VA.out _ M3.out).mono ?_
 rintro e wv ⟨rfl,rfl⟩
 go_wp2_with fail
 go_loopw [33] (fun i wr=>∃k:Nat,i=.int .i64 k∧k≤8∧Hid (Mod [] w wr)∧Hid (Blk wr gk #[.int .u8 t,.int .u32 a] 66)∧Hid (Blk wr (gk+1) #[.int .u8 t',.int .u32 a'] 66)) (fun i _=>8 - (intOf i).toNat)
 case atStart=>exact ⟨0,rfl,by omega,M3,BA,BB⟩
 case round=>
  clear M3 M2 BA BB
  obtain ⟨k,rfl,hk,M,BA,BB⟩:=hrel
  by_cases hk8:k=8
  ·subst hk8
   go_wp2_with fail
   go_ret2
   exact ⟨rfl,M.out⟩
  ·have hk7:(k:Int) < 8:=by omega
   have hk0:(0:Int)≤k:=by omega
   have hk6:(k:Int)≤65535:=by omega
   obtain ⟨a0,a1⟩:=BA.out.cells2
   obtain ⟨b0,b1⟩:=BB.out.cells2
   have HX:=HE.out k (by omega)
   have HA1:=Lib.hid (HA.out wr k (by omega) M.out)
   have HB1:=Lib.hid (fun W m=>HB.out W k (by omega) m)
   rw [HX] at HA1
   generalize hT g 3 k t' T' 0=v at *
   clear HA HB HE HX
   go_wp2_with fail
   refine HA1.out.mono ?_
   rintro e w3 ⟨rfl,m3⟩
   have M3:=Lib.hid (M.out.trans' m3)
   have BA3:=Lib.hid (BA.out.mod m3 (by simp))
   have BB3:=Lib.hid (BB.out.mod m3 (by simp))
   obtain ⟨b0,b1⟩:=BB3.out.cells2
   clear m3 HA1
   go_wp2_with fail
   refine (HB1.out _ M3.out).mono ?_
   rintro e w4 ⟨rfl,m4⟩
   have M4:=Lib.hid (M3.out.trans' m4)
   have BA4:=Lib.hid (BA3.out.mod m4 (by simp))
   have BB4:=Lib.hid (BB3.out.mod m4 (by simp))
   have hvv:(v != v)=false:=by cases v<;>rfl
   clear m4 HB1
   go_wp2_with fail
   go_roundw
   case rel=>exact ⟨k+1,by first | rfl | (go_num),by omega,M4,BA4,BB4⟩
   case measure=>simp [intOf];omega
open Go.RowKit
theorem mngSame_c {w:World} {bm room:Nat} {L:List Rc} {Fs p:List Nat} {H:List (Nat × Ed)} {bs bo bq:Nat} {F:List Nat} (h:Mng w bm 3 room L Fs p H bs bo bq F) (hL:L.length≤1048576) (hG:Good L 3) (hH:H.length≤256)
 {a a2 f f2:Nat} {e e2:Ed} {T T2:Tr} (hf:H[a]? =some (f,e)) (hf2:H[a2]? =some (f2,e2)) (hne:¬(f:Int)=f2) (hr:Root L 3 f e T) (hr2:Root L 3 f2 e2 T2) (heq:∀x,x < 8→hT f 3 x e.t T 0=hT f2 3 x e2.t T2 0):
 Calls Tryz.prog 18 #[.pointer (some ⟨bm,0,none⟩),.int .i64 ((a+1:Nat):Int),.int .i64 ((a2+1:Nat):Int)] w fun e w'=>e=.returned (.tuple #[.bool true,.int .u8 0])∧Mod [] w w':=by
 obtain ⟨ba,bg,vk,vq,vg,Fo,q,g1,g2,g3,-⟩:=h.m
 have d3:=g1.cell 3 (by omega)
 replace d3:w.cell? ⟨bm,3,none⟩=some (.pointer (some ⟨bs,0,none⟩)):=d3
 have hbm:=g1.lt
 obtain ⟨hl,hg⟩:=List.getElem?_eq_some_iff.1 hf
 obtain ⟨hl2,hg2⟩:=List.getElem?_eq_some_iff.1 hf2
 have HA:Hid (∀w':World,w'=w→_):=fun w' e=>e▸has_c g1 hH (a+1) (by omega) (by omega)
 have HA2:Hid (∀w':World,w'=w→_):=fun w' e=>e▸has_c g1 hH (a2+1) (by omega) (by omega)
 obtain ⟨d0,d1,d2⟩:=g1.root hH a hl
 obtain ⟨k0,k1,k2⟩:=g1.root hH a2 hl2
 rw [hg] at d0 d1 d2
 rw [hg2] at k0 k1 k2
 simp only at d0 d1 d2 k0 k1 k2
 have CS:Hid (∀W,Mod [] w W→_):=fun W m=>convSame_c (h.s.mod m (by simp)) hL hG hr hr2 heq
 obtain ⟨m,hm⟩:∃m,a+1=m:=⟨_,rfl⟩
 rw [hm] at d0 d1 d2 HA ⊢
 obtain ⟨m2,hm2⟩:∃m,a2+1=m:=⟨_,rfl⟩
 rw [hm2] at k0 k1 k2 HA2 ⊢
 have hm3:(m:Int) < 257:=by omega
 have hm0:(0:Int)≤m:=by omega
 have hk3:(m2:Int) < 257:=by omega
 have hk0:(0:Int)≤m2:=by omega
 have hd:((f:Int)==f2)=false:=by simpa using hne
 obtain ⟨t,x⟩:=e
 obtain ⟨t2,x2⟩:=e2
 unfold edv at CS
 simp only at d0 d1 d2 k0 k1 k2 CS
 clear h hf hg hl hm hf2 hg2 hl2 hm2 g1 g2 g3 hr hr2 heq hG
 obtain ⟨gn,hgn⟩:∃g,w.heap.size=g:=⟨_,rfl⟩
 have n1:¬bm=gn:=by omega
 have n2:¬gn=bm:=by omega
 have n3:¬bm=gn+1:=by omega
 have n4:¬gn+1=bm:=by omega
 go_enter Tryz.func18,Tryz.ntmps18
 go_wp2_with fail
 refine (HA.out _ rfl).mono ?_
 rintro e' w1 ⟨rfl,rfl⟩
 go_wp2_with fail
 refine (HA2.out _ rfl).mono ?_
 rintro e' w1 ⟨rfl,rfl⟩
 clear HA HA2
 have C1:∀(off:Nat) (v:Value),w1.cell? ⟨bm,off,none⟩=some v→∀o:Obj,(w1.alloc o).cell? ⟨bm,off,none⟩=some v:=fun off v hv o=>(((Mod.refl [] w1).alloc o).cell (a:=⟨bm,off,none⟩) hbm (by simp)).trans hv
 have C2:∀(off:Nat) (v:Value),w1.cell? ⟨bm,off,none⟩=some v→∀o o':Obj,((w1.alloc o).alloc o').cell? ⟨bm,off,none⟩=some v:=fun off v hv o o'=>((((Mod.refl [] w1).alloc o).alloc o').cell (a:=⟨bm,off,none⟩) hbm (by simp)).trans hv
 have c10:=C1 _ _ d0
 have c11:=C1 _ _ d1
 have c12:=C1 _ _ d2
 have c13:=C1 _ _ k0
 have c14:=C1 _ _ k1
 have c15:=C1 _ _ k2
 have c20:=C2 _ _ d0
 have c21:=C2 _ _ d1
 have c22:=C2 _ _ d2
 have c23:=C2 _ _ k0
 have c24:=C2 _ _ k1
 have c25:=C2 _ _ k2
 clear C1 C2
 go_upto_region 5 with fail
 go_cut [8,9] from 22 to 33 (fun p8 p9 wx=>∃ga gb,p8=.pointer (some ⟨ga,0,none⟩)∧p9=.pointer (some ⟨gb,0,none⟩)∧Hid (Blk wx ga #[.int .u8 f,.int .u8 t,.int .u32 x] 68)∧Hid (Blk wx gb #[.int .u8 f2,.int .u8 t2,.int .u32 x2] 68)∧gn≤ga∧gn≤gb∧ga≠gb∧Hid (Mod [] w1 wx))
 case first=>
  go_region
  all_goals (go_wp2_with fail;go_meet)
  all_goals first
   | exact ⟨gn,gn+1,rfl,rfl,((Blk.new' w1 #[.int .u8 f,.int .u8 t,.int .u32 x] 68 gn hgn.symm).alloc _).drew,(Blk.new' _ #[.int .u8 f2,.int .u8 t2,.int .u32 x2] 68 (gn+1) (by simp [hgn])).drew,by omega,by omega,by omega,(((Mod.refl _ _).alloc _).alloc _).drew⟩
   | exact ⟨gn+1,gn,rfl,rfl,(Blk.new' _ #[.int .u8 f,.int .u8 t,.int .u32 x] 68 (gn+1) (by simp [hgn])).drew,((Blk.new' w1 #[.int .u8 f2,.int .u8 t2,.int .u32 x2] 68 gn hgn.symm).alloc _).drew,by omega,by omega,by omega,(((Mod.refl _ _).alloc _).alloc _).drew⟩
 case rest=>
  obtain ⟨ga,gb,rfl,rfl,BA,BB,hga,hgb,hab,MX⟩:=hcut
  have z0:=BA.out.cell 0
  have z1:=BA.out.cell 1
  have z2:=BA.out.cell 2
  have y0:=BB.out.cell 0
  have y1:=BB.out.cell 1
  have y2:=BB.out.cell 2
  simp only [List.getElem?_toArray,List.getElem?_cons_zero,List.getElem?_cons_succ] at z0 z1 z2 y0 y1 y2
  have ha1:¬ga=gb:=hab
  have hbl:ga < wc.heap.size:=BA.out.lt
  have hbl2:gb < wc.heap.size:=BB.out.lt
  have hbm:=Nat.lt_of_lt_of_le hbm MX.out.size
  have d3:=(MX.out.cell (a:=⟨bm,3,none⟩) (by simp only;omega) (by simp)).trans d3
  go_wp2_with fail
  go_region_held3 (fun w'=>w'.cell? ⟨bm,3,none⟩=some (.pointer (some ⟨bs,0,none⟩))∧w'.cell? ⟨ga,0,none⟩=some (.int .u8 f)∧w'.cell? ⟨ga,1,none⟩=some (.int .u8 t)∧w'.cell? ⟨ga,2,none⟩=some (.int .u32 x)∧w'.cell? ⟨gb,0,none⟩=some (.int .u8 f2)∧w'.cell? ⟨gb,1,none⟩=some (.int .u8 t2)∧w'.cell? ⟨gb,2,none⟩=some (.int .u32 x2)) (go_keep) (first | (go_at_call 44;refine (CS.out _ (MX.out.trans' (show Mod [] wc _ from by exact mods))).mono ?_;rintro e' w5 ⟨rfl,m_w5⟩;have M_w5:=Mod.trans' (show Mod _ wc _ from by exact mods) m_w5;have d3:=(M_w5.cell (a:=⟨bm,3,none⟩) hbm (by first | assumption | (simp;done))).trans d3;have z0:=(M_w5.cell (a:=⟨ga,0,none⟩) hbl (by first | assumption | (simp;done))).trans z0;have z1:=(M_w5.cell (a:=⟨ga,1,none⟩) hbl (by first | assumption | (simp;done))).trans z1;have z2:=(M_w5.cell (a:=⟨ga,2,none⟩) hbl (by first | assumption | (simp;done))).trans z2;have y0:=(M_w5.cell (a:=⟨gb,0,none⟩) hbl2 (by first | assumption | (simp;done))).trans y0;have y1:=(M_w5.cell (a:=⟨gb,1,none⟩) hbl2 (by first | assumption | (simp;done))).trans y1;have y2:=(M_w5.cell (a:=⟨gb,2,none⟩) hbl2 (by first | assumption | (simp;done))).trans y2;have hbm:=Nat.lt_of_lt_of_le hbm M_w5.size;have hbl:=Nat.lt_of_lt_of_le hbl M_w5.size;have hbl2:=Nat.lt_of_lt_of_le hbl2 M_w5.size))
  all_goals
   go_wp2_with fail
   go_ret2
   exact ⟨rfl,MX.out.trans' M_w5⟩
end Go.Proofs.YtlafpknoiihaaaaGreatDoor
