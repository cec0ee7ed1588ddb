import Derived.Test.YtbnpoapmnkfhkaaGreatDoorZt39
import Derived.Test.YtbnpoapmnkfhkaaGreatDoorZt20
import Derived.Deep.RegionHeld3
import Derived.BigQuiet
set_option maxRecDepth 100000
set_option maxHeartbeats 8000000
set_option linter.unusedVariables false
set_option linter.unusedSimpArgs false
namespace Go.Proofs.YtbnpoapmnkfhkaaGreatDoor
open Go.Lib renaming hid → z
open Nat renaming lt_of_lt_of_le → o, le_trans → Ξ, one_mul → Δ, pow_le_pow_right → Γ, le_refl → φ
open Go.Value renaming int → d, pointer → Q, slice → K, tuple → τ
open Option renaming none → Z, some → V
open Go.Proofs.Tryz renaming prog → Y, underlying311 → ψ, underlying42 → χ
open Go.IntKind renaming u8 → U, u32 → O, i64 → Θ
open Go renaming World → R, Calls → Ψ, Value → ω
open Go.Proofs.YtbnpoapmnkfhkaaGreatDoor renaming Mod → J, zc → C
open Go.Ending renaming returned → I
open Go.RowKit renaming Hid → H
open List renaming replicate → E
open Go.Proofs.YtbnpoapmnkfhkaaGreatDoor.Mod renaming trans' → D, refl → Φ
open Go.Obj renaming cells → Ω
open Go.RowKit
def cE (f n:Nat):Tr→Nat→Nat
 | .leaf false,_=>0
 | .leaf true,l=>if f=1 then 2 ^ (n - l) else 1
 | .node t b _ x _ y,l=>(if f=1 then 2 ^ (t - l) else 1) *(cE f n x (b+1)+cE f n y (b+1))
def cN (f n:Nat):Tr→Nat
 | .leaf _=>1
 | .node _ b _ x _ y=>cE f n x (b+1)+cE f n y (b+1)
theorem Ys {p:Prop} (h:p:=by
 simp only at h2;rw [hr] at h2;obtain rfl:=Option.some.inj h2;exact h4):p:=h
theorem ys7 {L:List Rc} {f n:Nat} (hG:Good L n) (hf:f=1∨f=2) {a:Nat} {T:Tr} (h:Rep L f a T):∀{t l:Nat},LeadsP L f ⟨t,a⟩ l n→l≤n→cE f n T l≤2 ^ (n - l):=by
 induction h with
 | zero=>intro t l _ _;simp [cE]
 | one=>
  intro t l _ _;unfold cE;split
  ·exact φ _
  ·exact Nat.pow_pos (C)
 | @node id r A B hr hrf hA hB ihA ihB=>
  intro t l hP hl;have g:=hG id r hr
  have hlt:l≤r.top:=by
   rcases hP.at_ with q | ⟨r',h2,h3,h4,_⟩
   ·have:=(YJ hr).1;simp only at q;omega
   ·exact Ys
  have tb:r.top=r.bot:=by
   rcases g.right.ch with h | h | h
   ·exact h
   ·omega
   ·omega
  have bn:=g.right.bn;have glo:=g.lo;have ghi:=g.hi;rw [hrf] at glo ghi;have h1:=ihA (t:=r.lo.t) (l:=r.bot+1) glo (C);have h2:=ihB (t:=r.hi.t) (l:=r.bot+1) ghi (C);unfold cE
  have e2:2 ^ (n - r.top)=2 ^ (n - (r.bot+1))+2 ^ (n - (r.bot+1)):=by
   rw [show n - r.top=(n - (r.bot+1))+1 from C,Nat.pow_succ];omega
  have h3:cE f n A (r.bot+1)+cE f n B (r.bot+1)≤2 ^ (n - r.top):=C;split
  ·rw [show n - l=(r.top - l)+(n - r.top) from C,Nat.pow_add];exact Nat.mul_le_mul_left _ h3
  ·rw [Δ];exact Ξ h3 (Γ (C) (C))
structure Sc (w:R) (bw b n room f:Nat) (L:List Rc) (F:List Nat) (lo hi:Option Addr) (cl ch bm:Nat):Prop where
 blk:Blk w bw #[Q (V ⟨b,0,Z⟩),d U f,K lo n cl,K hi n ch,.map (V bm)] 313
 st:IsSt w b n L room F
 o1:Ones w lo n [bm]
 o2:Ones w hi n [bm]
 nb:bw≠bm∧∀k∈F,k≠bm
theorem Sc.mod {w w':R} {bw b n room f:Nat} {L:List Rc} {F:List Nat} {lo hi:Option Addr} {cl ch bm:Nat} (h:Sc w bw b n room f L F lo hi cl ch bm) (m:J [bm] w w'):Sc w' bw b n room f L F lo hi cl ch bm:=
 ⟨h.blk.mod m (by simpa using h.nb.1),h.st.mod m (fun k hk=>by simpa using h.nb.2 k hk),h.o1.mod m,h.o2.mod m,h.nb⟩
theorem Sc.mod0 {w w':R} {bw b n room f:Nat} {L:List Rc} {F:List Nat} {lo hi:Option Addr} {cl ch bm:Nat} (h:Sc w bw b n room f L F lo hi cl ch bm) (m:J [] w w'):Sc w' bw b n room f L F lo hi cl ch bm:=h.mod (m.mono (ze))
def Nk (w:R) (bm:Nat) (v:ω) (n:Nat):Prop:=∃F,Nm w v n F∧∀k∈F,k < w.heap.size∧k≠bm
theorem Nk.mod {w w':R} {bm:Nat} {v:ω} {n:Nat} (h:Nk w bm v n) (m:J [bm] w w'):Nk w' bm v n:=by
 obtain ⟨F,h1,h2⟩:=h;exact ⟨F,h1.mod m (fun k hk=>by simpa using (h2 k hk).2),fun k hk=>⟨o (h2 k hk).1 m.size,(h2 k hk).2⟩⟩
theorem Nk.mod0 {w w':R} {bm:Nat} {v:ω} {n:Nat} (h:Nk w bm v n) (m:J [] w w'):Nk w' bm v n:=h.mod (m.mono (ze))
theorem Nk.nil (w:R) (bm:Nat):Nk w bm (K Z 0 0) 0:=⟨[],Nm.nil w,ze⟩
theorem NNew.nk {w w':R} {n:Nat} {v:ω} (h:NNew w n w' v) (hn:n≤4294967296) {bm:Nat} (hb:bm < w.heap.size):Nk w' bm v n:=by
 obtain ⟨F,h1,h2,h3⟩:=h.nm hn;exact ⟨F,h1,fun k hk=>⟨h3 k hk,by have:=h2 k hk;omega⟩⟩
theorem Nk.shape {w:R} {bm:Nat} {v:ω} {n:Nat} (h:Nk w bm v n):∃A N c,v=K A N c:=by
 obtain ⟨F,⟨l,_,r,_⟩,_⟩:=h;obtain ⟨A,p,e,-⟩:=r.1.shape;exact ⟨A,_,p,e⟩
def Kp (w:R) (bm m f n:Nat) (L:List Rc):Prop:=
 ∃G,IsMp w 42 bm m G∧∀(id:Nat) v,id≤4294967295→G (.int O id)=V v→∃T,Rep L f id T∧Nk w bm v (cN f n T)
theorem Kp.mod {w w':R} {bm m f n:Nat} {L:List Rc} (h:Kp w bm m f n L) (md:J [] w w'):Kp w' bm m f n L:=by
 obtain ⟨G,h1,h2⟩:=h;exact ⟨G,h1.mod md (ze),fun id v hi hg=>by obtain ⟨T,a,b⟩:=h2 id v hi hg;exact ⟨T,a,b.mod0 md⟩⟩
theorem Kp.lt {w:R} {bm m f n:Nat} {L:List Rc} (h:Kp w bm m f n L):bm < w.heap.size:=by
 obtain ⟨G,h1,h2⟩:=h;exact h1.lt
theorem yF5 (w:R):(zeroValue 86).run Y w=.ok (K Z 0 0) w:=by kernel_rfl
theorem Kp.look {w:R} {bm m f n:Nat} {L:List Rc} (h:Kp w bm m f n L) (a:Nat) (ha:a≤4294967295) {T:Tr} (hT:Rep L f a T):
 (∃v,Nk w bm v (cN f n T)∧(Instr.lookup 311 (.map (V bm)) (d O a) true).run Y w=.ok (τ #[v,.bool true]) w)∨
  (Instr.lookup 311 (.map (V bm)) (d O a) true).run Y w=.ok (τ #[K Z 0 0,.bool false]) w:=by
 obtain ⟨G,h1,h2⟩:=h;have hl:=h1.look keyU32 ψ (yF5 w) (key:=.int O a) (kl:=.int O a) (Maps.keyOf_int_mk χ (yc1 ha)) true;cases q:G (.int O a) with
 | none=>rw [q] at hl;exact .inr hl
 | some v=>
  rw [q] at hl;obtain ⟨T',hT',hv⟩:=h2 a v ha q;rw [hT.fun_ hT'];exact .inl ⟨v,hv,hl⟩
theorem Kp.put {w:R} {bm m f n:Nat} {L:List Rc} (h:Kp w bm m f n L) (a:Nat) (ha:a≤4294967295) {T:Tr} (hT:Rep L f a T) {v:ω} (hv:Nk w bm v (cN f n T)) (hm:m≤1000000):
 ∃w',(Instr.mapUpdate 311 (.map (V bm)) (d O a) v).run Y w=.ok () w'∧Kp w' bm (m+1) f n L∧J [bm] w w':=by
 obtain ⟨G,h1,h2⟩:=h;obtain ⟨w',G',hr,hmp,hmd,hG⟩:=h1.put keyU32 ψ (key:=.int O a) (kl:=.int O a) (Maps.keyOf_int_mk χ (yc1 ha)) v hm;refine ⟨w',hr,⟨_,hmp,fun id u hid hg=>?_⟩,hmd⟩;by_cases q:(Lit.int O (id:Int))=.int O (a:Int)
 ·rw [q,hG.1] at hg;obtain rfl:=Option.some.inj hg;have:id=a:=zP;subst this;exact ⟨T,hT,hv.mod hmd⟩
 ·rw [hG.2 _ q] at hg;obtain ⟨T',a1,a2⟩:=h2 id u hid hg;exact ⟨T',a1,a2.mod hmd⟩
open Go.RowKit
theorem yI4 {w:R} {bm:Nat} {v1 v2:ω} {x y:Nat} (h1:Nk w bm v1 x) (h2:Nk w bm v2 y) (hb:bm < w.heap.size) (hx:x≤65536) (hy:y≤65536) (hs:x *y≤4294967296):
 Ψ Y 220 #[v1,v2] w fun e w'=>∃v',e=I v'∧Nk w' bm v' (x *y)∧J [] w w':=by
 obtain ⟨F1,a1,_⟩:=h1;obtain ⟨F2,a2,_⟩:=h2;refine (zS4 a1 a2 (C) (C) hs).mono ?_;rintro e w' ⟨v',rfl,n⟩;exact ⟨v',rfl,n.nk hs hb,n.mod⟩
theorem addK {w:R} {bm:Nat} {v1 v2:ω} {x y:Nat} (h1:Nk w bm v1 x) (h2:Nk w bm v2 y) (hb:bm < w.heap.size) (hs:x+y≤4294967296):
 Ψ Y 231 #[v1,v2] w fun e w'=>∃v',e=I v'∧Nk w' bm v' (x+y)∧J [] w w':=by
 obtain ⟨F1,a1,_⟩:=h1;obtain ⟨F2,a2,_⟩:=h2;refine (yo5 a1 a2 hs).mono ?_;rintro e w' ⟨v',rfl,n⟩;exact ⟨v',rfl,n.nk hs hb,n.mod⟩
theorem Sc.prod {w:R} {bw b n room f:Nat} {L:List Rc} {F:List Nat} {lo hi:Option Addr} {cl ch bm:Nat} (h:Sc w bw b n room f L F lo hi cl ch bm) (hn:n≤16) (hb:bm < w.heap.size) (i j:Nat) (hj:j≤n) (both:Bool):
 Ψ Y 221 #[Q (V ⟨bw,0,Z⟩),d Θ i,d Θ j,.bool both] w fun e w'=>∃v,e=I v∧Nk w' bm v (Xx i j both)∧J [] w w':=by
 obtain ⟨k0,k1,k2,k3,k4⟩:=h.blk.cells5;refine (zT4 k2 k3 h.o1 h.o2 hn i j hj both).mono ?_;rintro e w' ⟨v,rfl,m⟩;have:=zs5 i j (C) both;exact ⟨v,rfl,m.nk (C) hb,m.mod⟩
def ScP (w:R) (bm M f n:Nat) (L:List Rc) (x:Nat) (e:Ending) (w':R):Prop:=
 ∃v m',e=I v∧Nk w' bm v x∧Kp w' bm m' f n L∧m'≤M∧J [bm] w w'
theorem zW0 {w:R} {bw t l bm m M f n:Nat} {L:List Rc} (hK:Kp w bm m f n L) (hm:m≤M):
 Ψ Y 202 #[Q (V ⟨bw,0,Z⟩),edv ⟨t,0⟩,d Θ l] w (ScP w bm M f n L 0):=by
 have HK:=z hK;clear hK;unfold edv;simp only;go_in;go_wp2_with fail;go_ret;exact ⟨_,m,rfl,Nk.nil _ _,HK.out.mod (zg),hm,zg⟩
theorem Yp {p:Prop} (h:p:=by
 rcases hfr with ⟨rfl,rfl⟩ | ⟨rfl,rfl⟩
 all_goals
  go_wp2_with fail;refine (PA.out _ (jE)).mono ?_;rintro e wa ⟨va,rfl,nka,ma⟩;have MA:=z (MZ.out.trans ma (ze));have NA:=z nka;have NS1:=z (NS.out.mod0 ma);have KA:=z (KZ.out.mod ma);clear nka ma;go_wp2_with fail;refine (PB.out _ (wH)).mono ?_;rintro e wb ⟨vb,rfl,nkb,mb⟩;have MB:=z (MA.out.trans mb (ze));have NA2:=z (NA.out.mod0 mb);have NB:=z nkb;have NS2:=z (NS1.out.mod0 mb);have KB:=z (KA.out.mod mb);clear nkb mb;go_wp2_with fail;refine (yI4 NA2.out NB.out (o HBM.out MB.out.size) HP.out (C) (qP)).mono ?_;rintro e wc ⟨vc,rfl,nkc,mc⟩;have MC:=z (MB.out.trans mc (ze));have NC:=z nkc;have NS3:=z (NS2.out.mod0 mc);have KC:=z (KB.out.mod mc);clear nkc mc;go_wp2_with fail
  refine (yI4 NC.out NS3.out (o HBM.out MC.out.size) (qP) (by have:=HSM.out;omega) (by
   have h1:=HP.out;have h2:=HSM.out
   exact Ξ (Nat.mul_le_mul (show p1 *1≤65536 from C) h2) (zi))).mono ?_
  rintro e wd ⟨vd,rfl,nkd,md⟩;have MD:=z (MC.out.trans md (ze));have ND1:=z nkd;have KD:=z (KC.out.mod md);clear nkd md;go_wp2_with fail;go_ret
  exact ⟨vd,mm,rfl,ND1.out,KD.out,hmle,MD.out⟩):p:=h
theorem zy1 {w:R} {bw b n room f:Nat} {L:List Rc} {F:List Nat} {lo hi:Option Addr} {cl ch bm:Nat} (hS:Sc w bw b n room f L F lo hi cl ch bm) (hn:n≤16) (z1:Bool) (hz1:((f:Int)==1)=z1) (hz3:((f:Int)==3)=false) (hz5:((f:Int)==5)=false)
 (t a l fr:Nat) (ha:1≤a) (q:Rc) (ok:Bool) (tp sm m M:Nat) (htp:tp≤n) (hl:l≤tp) (hfr:(z1=true∧fr=tp)∨(z1=false∧fr=l)) (hsm:sm≤65536) (hmM:m≤M)
 (GT:H (∀W,J [] w W→Ψ Y 112 #[Q (V ⟨b,0,Z⟩),d O a] W fun e w'=>e=I (τ #[rcv q,.bool ok])∧J [] W w'))
 (hK:Kp w bm m f n L) (Q0:ok=false→tp=n∧sm=1) (Q1:ok=true→q.top=tp)
 (ND:H (∀W,J [] w W→ok=true→Ψ Y 219 #[Q (V ⟨bw,0,Z⟩),d O a,rcv q] W (ScP W bm M f n L sm))):
 Ψ Y 202 #[Q (V ⟨bw,0,Z⟩),edv ⟨t,a⟩,d Θ l] w (ScP w bm M f n L (Xx l fr true *Xx fr tp false *sm)):=by
 have VA:H (∀W',J [] w W'→Ψ Y 67 #[Q (V ⟨b,0,Z⟩)] W' fun e w'=>e=I (d Θ n)∧w'=W'):=fun W' md=>by
  obtain ⟨ba,bi,Fa,c0,_⟩:=(hS.mod0 md).st.own;exact YH b n W' c0
 have hbm:=hK.lt;have HBM:=z hbm;have PR:H (∀(W:R) (i j:Nat) (both:Bool),J [bm] w W→j≤n→_):=fun W i j both md hj=>(hS.mod md).prod hn (o hbm md.size) i j hj both
 have OF:H (∀(W:R),J [] w W→Ψ Y 217 #[d .u64 1] W fun e w'=>∃v',e=I v'∧Nk w' bm v' 1∧J [] W w'):=fun W md=>by
  refine (yN4 1 (zV) W).mono ?_;rintro e w' ⟨v',rfl,n⟩;exact ⟨v',rfl,n.nk (C) (o hbm md.size),n.mod⟩
 have BS:=z hS;have HK:=z hK;have hbw:=hS.blk.lt;have hbwm:bw∉[bm]:=by simpa using hS.nb.1
 have c0:w.cell? ⟨bw,0,Z⟩=V (Q (V ⟨b,0,Z⟩)):=by rw [hS.blk.cell];rfl
 have ha0:((a:Int)==0)=false:=zj;obtain ⟨gk,hgk⟩:∃gk,w.heap.size=gk:=⟨_,rfl⟩;have gn1:¬bw=gk:=C;have gn2:¬gk=bw:=C;have gkm:gk∉[bm]:=zj;have hfr1:l≤fr∧fr≤tp:=C;obtain ⟨hp1,hp2⟩:=zs5 l fr (C) true;have hp3:Xx fr tp false=1:=rfl;obtain ⟨qf,qt,qb,⟨qlt,qla⟩,⟨qht,qha⟩⟩:=q;unfold rcv at GT ND;unfold edv;simp only at GT ND Q1 ⊢;have PA:=z (fun W md=>PR.out W l fr true md (C));have PB:=z (fun W md=>PR.out W fr tp false md (C));rw [hp3] at PB ⊢;generalize Xx l fr true=p1 at *;have HSM:=z hsm;have HP:=z hp2;clear hS hK PR hp1 hp2 hp3 hsm hbm;go_in;go_wp2_with fail;have B0:=Blk.new' w #[d U t,d O a] 44 gk hgk.symm;have M0:H (J [] w (w.alloc (Ω #[d U t,d O a] 44))):=(Φ _ _).alloc _;have HGK:=z hgk;generalize w.alloc (Ω #[d U t,d O a] 44)=w0 at *;have HB0:=z B0;obtain ⟨q0,q1⟩:=B0.cells2;have hk:=B0.lt;have c0:=(M0.out.cell (a:=⟨bw,0,Z⟩) hbw (ze)).trans c0;have hbw:=o hbw M0.out.size;clear B0 hgk;obtain ⟨gs,hgs⟩:∃gs,w0.heap.size=gs:=⟨_,rfl⟩;have gs1:¬bw=gs:=C;have gs2:¬gs=bw:=C;have gs3:¬gk=gs:=C;have gs4:¬gs=gk:=C
 go_region_held3 (fun w'=>w'.cell? ⟨bw,0,Z⟩=V (Q (V ⟨b,0,Z⟩))∧w'.cell? ⟨gk,1,Z⟩=V (d O a)) (go_keep) (first | (go_at_call 112;refine (GT.out _ (M0.out.trans' (show J [] w0 _ from zg))).mono ?_;rintro e' w1 ⟨rfl,m_w1⟩;have M_w1:=D (show J _ w0 _ from zg) m_w1;have c0:=(M_w1.cell (a:=⟨bw,0,Z⟩) hbw (zh)).trans c0;have q1:=(M_w1.cell (a:=⟨gk,1,Z⟩) hk (zh)).trans q1;have hbw:=o hbw M_w1.size;have hk:=o hk M_w1.size;have hB:=fun c ty (h:Blk _ gs c ty)=>h.mod m_w1 (ze);first | (have zb:=hB _ _ ((Blk.new' w0 _ _ _ hgs.symm).drew);have z0:=zb.cell 0;have z1:=zb.cell 1;have z2:=zb.cell 2;have z3:=zb.cell 3;have z4:=zb.cell 4;have z5:=zb.cell 5;have z6:=zb.cell 6;simp only [List.getElem?_toArray,List.getElem?_cons_zero,List.getElem?_cons_succ] at z0 z1 z2 z3 z4 z5 z6;have zf:=zb.froz;clear zb) | skip;obtain ⟨gr,hgr⟩:∃gr,w1.heap.size=gr:=⟨_,rfl⟩))
 all_goals first
  | (
   have BX:=z (Blk.new' w1 #[d U qf,d U qt,d U qb,d U qlt,d O qla,d U qht,d O qha] 139 gr hgr.symm);have MX:=z ((M0.out.trans' M_w1).alloc (Ω #[d U qf,d U qt,d U qb,d U qlt,d O qla,d U qht,d O qha] 139));have HB2:=z ((HB0.out.mod M_w1 (ze)).alloc (Ω #[d U qf,d U qt,d U qb,d U qlt,d O qla,d U qht,d O qha] 139));have hkr:gk < gr:=qp;change Exit.then _ _ _ _ (w1.alloc (Ω #[d U qf,d U qt,d U qb,d U qlt,d O qla,d U qht,d O qha] 139));generalize w1.alloc (Ω #[d U qf,d U qt,d U qb,d U qlt,d O qla,d U qht,d O qha] 139)=X at *;clear m_w1 M_w1 hB GT M0 hgr c0 q1 q0 HB0 hgs hbw hk gs1 gs2 gs3 gs4
   )
  | (
   have B2:=hB _ _ ((Blk.new' w0 #[d U 0,d U 0,d U 0,d U 0,d O 0,d U 0,d O 0] 139 gs hgs.symm).drew);have BX:=z (za4 B2 ⟨qf,qt,qb,⟨qlt,qla⟩,⟨qht,qha⟩⟩);have MX:=z (Xe (M0.out.trans' M_w1) gs ⟨qf,qt,qb,⟨qlt,qla⟩,⟨qht,qha⟩⟩ (by have:=M0.out.size;have:=HGK.out;omega));have HB2:=z ((HB0.out.mod M_w1 (ze)).mod (Xe (Φ [gs] w1) gs ⟨qf,qt,qb,⟨qlt,qla⟩,⟨qht,qha⟩⟩ (fun _=>ze)) (xq));have hkr:gk < gs:=C;change Exit.then _ _ _ _ (zw8 w1 gs ⟨qf,qt,qb,⟨qlt,qla⟩,⟨qht,qha⟩⟩);generalize zw8 w1 gs ⟨qf,qt,qb,⟨qlt,qla⟩,⟨qht,qha⟩⟩=X at *;clear m_w1 M_w1 hB GT M0 B2 c0 q1 q0 HB0 hgs hbw hk z0 z1 z2 z3 z4 z5 z6 zf gs1 gs2 gs3 gs4;obtain ⟨gr,hgr⟩:∃gr,gr=gs:=⟨_,rfl⟩;subst hgr
   )
 all_goals
  have grm:gr∉[bm]:=by have:=HBM.out;have:=HGK.out;simp;omega
  obtain ⟨k0,k1,k2,k3,k4⟩:=(BS.out.mod0 MX.out).blk.cells5;have hbX:=(BS.out.mod0 MX.out).blk.lt;have hkx:=HB2.out.lt;go_wp2_with fail;refine (VA.out _ (wG)).mono ?_;rintro e w2 ⟨rfl,rfl⟩;go_wp2_with fail;refine (OF.out _ (wG)).mono ?_;rintro e w2 ⟨v1,rfl,nk1,m2⟩;have M2:=z (MX.out.trans' m2);have MR2:=z m2;have NK1:=z nk1;have BR2:=z (BX.out.mod m2 (ze));have BK2:=z (HB2.out.mod m2 (ze));clear nk1 m2 k0 k1 k2 k3 k4 BX HB2 hbX hkx;cases ok with
  | false=>
   obtain ⟨htn,hsm1⟩:=Q0 rfl;subst htn;subst hsm1;obtain ⟨k0,k1,k2,k3,k4⟩:=(BS.out.mod0 M2.out).blk.cells5;have hb2:=(BS.out.mod0 M2.out).blk.lt;obtain ⟨s,hs⟩:∃s,s=v1:=⟨_,rfl⟩;subst hs;have MZ:H (J [bm] w w2):=M2.out.mono (ze);have NS:=NK1;have KZ:H (Kp w2 bm m f tp L):=HK.out.mod M2.out;obtain ⟨mm,hmm,hmle⟩:∃mm,mm=m∧mm≤M:=⟨m,rfl,hmM⟩;rw [←hmm] at KZ;clear hmm;exact Yp
  | true=>
   have hqt:=Q1 rfl;subst hqt;have hq0:(0:Int)≤qt:=C;have hq255:(qt:Int)≤255:=C;obtain ⟨r0,r1,r2,r3,r4,r5,r6⟩:=BR2.out.cells7;have hrl:=BR2.out.lt;obtain ⟨d0,d1⟩:=BK2.out.cells2;have hkl:=BK2.out.lt;go_wp2_with fail
   go_region_held3 (fun w'=>w'.cell? ⟨gr,0,Z⟩=V (d U qf)∧w'.cell? ⟨gr,1,Z⟩=V (d U qt)∧w'.cell? ⟨gr,2,Z⟩=V (d U qb)∧w'.cell? ⟨gr,3,Z⟩=V (d U qlt)∧w'.cell? ⟨gr,4,Z⟩=V (d O qla)∧w'.cell? ⟨gr,5,Z⟩=V (d U qht)∧w'.cell? ⟨gr,6,Z⟩=V (d O qha)∧w'.cell? ⟨gk,1,Z⟩=V (d O a)) (go_keep) (first | (go_at_call 219;refine (ND.out _ (M2.out.trans' (show J [] w2 _ from zg)) trivial).mono ?_;rintro e' w3 ⟨s,mm,rfl,nks,kps,hmle,m_w3⟩;have M_w3:=D (show J _ w2 _ from zg) m_w3;have r0:=(M_w3.cell (a:=⟨gr,0,Z⟩) hrl (zh)).trans r0;have r1:=(M_w3.cell (a:=⟨gr,1,Z⟩) hrl (zh)).trans r1;have r2:=(M_w3.cell (a:=⟨gr,2,Z⟩) hrl (zh)).trans r2;have r3:=(M_w3.cell (a:=⟨gr,3,Z⟩) hrl (zh)).trans r3;have r4:=(M_w3.cell (a:=⟨gr,4,Z⟩) hrl (zh)).trans r4;have r5:=(M_w3.cell (a:=⟨gr,5,Z⟩) hrl (zh)).trans r5;have r6:=(M_w3.cell (a:=⟨gr,6,Z⟩) hrl (zh)).trans r6;have d1:=(M_w3.cell (a:=⟨gk,1,Z⟩) hkl (zh)).trans d1;have hrl:=o hrl M_w3.size;have hkl:=o hkl M_w3.size;skip))
   all_goals
    have NS:=z nks;have KZ:=z kps;have MZ:=z ((M2.out.mono (S':=[bm]) (ze)).trans' M_w3);clear nks kps m_w3 M_w3 r0 r1 r2 r3 r4 r5 r6 d0 d1 hrl hkl;obtain ⟨w2',hw2⟩:∃w2',w2'=w2:=⟨_,rfl⟩;clear hw2;obtain ⟨k0,k1,k2,k3,k4⟩:=(BS.out.mod MZ.out).blk.cells5;have hb2:=(BS.out.mod MZ.out).blk.lt;exact Yp
open Go.RowKit
theorem zY3 {w:R} {bw b n room f:Nat} {L:List Rc} {F:List Nat} {lo hi:Option Addr} {cl ch bm:Nat} (hS:Sc w bw b n room f L F lo hi cl ch bm) (hn:n≤16) (hz3:((f:Int)==3)=false)
 (a:Nat) (ha:a≤4294967295) (q:Rc) (hq:q.top=q.bot) (hqn:q.bot < n) (m:Nat) (hK:Kp w bm m f n L) {T:Tr} (hT:Rep L f a T) (sA sB xa xb:Nat) (hx:cN f n T=xa+xb) (hxa:xa≤65536) (hxb:xb≤65536) (hxs:xa+xb≤65536) (hm:m+1+sA+sB≤1000000)
 (IA:H (∀W m',J [bm] w W→Kp W bm m' f n L→m'≤m→Ψ Y 202 #[Q (V ⟨bw,0,Z⟩),edv q.lo,d Θ ((q.bot:Int)+1)] W (ScP W bm (m+sA) f n L xa)))
 (IB:H (∀W m',J [bm] w W→Kp W bm m' f n L→m'≤m+sA→Ψ Y 202 #[Q (V ⟨bw,0,Z⟩),edv q.hi,d Θ ((q.bot:Int)+1)] W (ScP W bm (m+sA+sB) f n L xb))):
 Ψ Y 219 #[Q (V ⟨bw,0,Z⟩),d O a,rcv q] w (ScP w bm (m+1+sA+sB) f n L (xa+xb)):=by
 have hbm:=hK.lt;have HBM:=z hbm;have PR:H (∀(W:R) (i j:Nat) (both:Bool),J [bm] w W→j≤n→_):=fun W i j both md hj=>(hS.mod md).prod hn (o hbm md.size) i j hj both
 have BS:=z hS;have HT:=z hT;have HX:=z hx;have hbw:=hS.blk.lt;have hbwm:bw∉[bm]:=by simpa using hS.nb.1
 obtain ⟨gk,hgk⟩:∃gk,w.heap.size=gk:=⟨_,rfl⟩;have gn1:¬bw=gk:=C;have gn2:¬gk=bw:=C;have gkm:gk∉[bm]:=zj;obtain ⟨qf,qt,qb,⟨qlt,qla⟩,⟨qht,qha⟩⟩:=q;unfold rcv;unfold edv at IA IB;simp only at IA IB hq hqn ⊢;subst hq;have K0:H (Kp (w.alloc (Ω #[d U qf,d U qt,d U qt,d U qlt,d O qla,d U qht,d O qha] 139)) bm m f n L):=hK.mod ((Φ _ _).alloc _);have LK:=K0.out.look a ha hT;obtain ⟨k0,k1,k2,k3,k4⟩:=hS.blk.cells5;have c4:=((show J [] w (w.alloc (Ω #[d U qf,d U qt,d U qt,d U qlt,d O qla,d U qht,d O qha] 139)) from (Φ _ _).alloc _).cell (a:=⟨bw,4,Z⟩) hbw (ze)).trans k4;have HXS:=z hxs;have HM:=z hm;have HXA:=z hxa;have HXB:=z hxb;clear hK hS hbm hT hx hxa hxb hm k0 k1 k2 k3 k4 hxs;rcases LK with ⟨v,hv,LK⟩ | LK
 ·have HV:=z hv;clear hv;go_in;go_wp2_with fail;go_ret;rw [HX.out] at HV;exact ⟨v,m,rfl,HV.out,K0.out,C,zg⟩
 ·go_in;go_wp2_with fail;have B0:=Blk.new' w #[d U qf,d U qt,d U qt,d U qlt,d O qla,d U qht,d O qha] 139 gk hgk.symm;have M0:H (J [] w (w.alloc (Ω #[d U qf,d U qt,d U qt,d U qlt,d O qla,d U qht,d O qha] 139))):=(Φ _ _).alloc _;have HGK:=z hgk;generalize w.alloc (Ω #[d U qf,d U qt,d U qt,d U qlt,d O qla,d U qht,d O qha] 139)=w0 at *;have HB0:=z B0;obtain ⟨r0,r1,r2,r3,r4,r5,r6⟩:=B0.cells7;have hrl:=B0.lt;have ht0:(0:Int)≤qt:=C;have ht255:(qt:Int)≤255:=C;have MM0:H (J [bm] w w0):=M0.out.mono (ze);clear B0 hgk;go_wp2_with fail
  go_quiet (fail)
  go_wp2_with fail;clear LK c4;have ew:IntKind.i64.wrap ((qt:Int)+1)=(qt:Int)+1:=IntWalk.i64_in _ (C);rw [←ew] at IA IB;clear ew;have EA:H (∀W,J [] w0 W→_):=fun W md=>IA.out W m (MM0.out.trans md (ze)) (K0.out.mod md) (φ m)
  have EB:H (∀wa W m1,J [bm] w0 wa→Kp wa bm m1 f n L→m1≤m+sA→J [] wa W→_):=fun wa W m1 ma ka h1 md=>IB.out W m1 ((MM0.out.trans' ma).trans md (ze)) (ka.mod md) h1
  go_region_held3 (fun w'=>w'.cell? ⟨gk,0,Z⟩=V (d U qf)∧w'.cell? ⟨gk,1,Z⟩=V (d U qt)∧w'.cell? ⟨gk,2,Z⟩=V (d U qt)∧w'.cell? ⟨gk,3,Z⟩=V (d U qlt)∧w'.cell? ⟨gk,4,Z⟩=V (d O qla)∧w'.cell? ⟨gk,5,Z⟩=V (d U qht)∧w'.cell? ⟨gk,6,Z⟩=V (d O qha)) (go_keep) (first | (go_at_call 202;(with_reducible refine (EA.out _ (zg)).mono ?_);rintro e' wa ⟨va,m1,rfl,nka,kpa,hm1,m_wa⟩;have M_wa:=D (show J _ w0 _ from zg) m_wa;have r0:=(M_wa.cell (a:=⟨gk,0,Z⟩) hrl (zh)).trans r0;have r1:=(M_wa.cell (a:=⟨gk,1,Z⟩) hrl (zh)).trans r1;have r2:=(M_wa.cell (a:=⟨gk,2,Z⟩) hrl (zh)).trans r2;have r3:=(M_wa.cell (a:=⟨gk,3,Z⟩) hrl (zh)).trans r3;have r4:=(M_wa.cell (a:=⟨gk,4,Z⟩) hrl (zh)).trans r4;have r5:=(M_wa.cell (a:=⟨gk,5,Z⟩) hrl (zh)).trans r5;have r6:=(M_wa.cell (a:=⟨gk,6,Z⟩) hrl (zh)).trans r6;have hrl:=o hrl M_wa.size;skip) | (go_at_call 202;(with_reducible refine (EB.out wa _ m1 M_wa kpa hm1 (zg)).mono ?_);rintro e' wb ⟨vb,m2,rfl,nkb,kpb,hm2,m_wb⟩;have M_wb:=D (show J _ wa _ from zg) m_wb;have r0:=(M_wb.cell (a:=⟨gk,0,Z⟩) hrl (zh)).trans r0;have r1:=(M_wb.cell (a:=⟨gk,1,Z⟩) hrl (zh)).trans r1;have r2:=(M_wb.cell (a:=⟨gk,2,Z⟩) hrl (zh)).trans r2;have r3:=(M_wb.cell (a:=⟨gk,3,Z⟩) hrl (zh)).trans r3;have r4:=(M_wb.cell (a:=⟨gk,4,Z⟩) hrl (zh)).trans r4;have r5:=(M_wb.cell (a:=⟨gk,5,Z⟩) hrl (zh)).trans r5;have r6:=(M_wb.cell (a:=⟨gk,6,Z⟩) hrl (zh)).trans r6;have hrl:=o hrl M_wb.size;skip))
  all_goals
   have NA:=z (nka.mod M_wb);have NB:=z nkb;have KB:=z kpb;have MB:=z ((MM0.out.trans' M_wa).trans' M_wb);have HM2:=z hm2;clear nka nkb kpa kpb m_wa m_wb M_wa M_wb hm1 hm2 r0 r1 r2 r3 r4 r5 r6 hrl IA IB K0 EA EB;have SB:=z (BS.out.mod MB.out);obtain ⟨k0,k1,k2,k3,k4⟩:=SB.out.blk.cells5;have hb2:=SB.out.blk.lt;obtain ⟨g1,off1,x1,F1,rfl,hg1,hgm1,c1,nx1,fx1⟩:=SB.out.o1 qt hqn;obtain ⟨g2,off2,x2,F2,rfl,hg2,hgm2,c2,nx2,fx2⟩:=SB.out.o2 qt hqn;have NX:H (Nk wb bm x1 1):=⟨F1,nx1,fun k hk=>by have:=fx1 k hk;simpa using this⟩;have NY:H (Nk wb bm x2 1):=⟨F2,nx2,fun k hk=>by have:=fx2 k hk;simpa using this⟩;have HBL:H (∀W,J [] wb W→bm < W.heap.size):=fun W md=>o (o HBM.out MB.out.size) md.size
   have hqn':(qt:Int) < n:=C;have BA:H (1 *xa≤4294967296):=by show _≤_;have:=HXA.out;omega
   have BB:H (1 *xb≤4294967296):=by show _≤_;have:=HXB.out;omega
   have BC:H (1 *xa+1 *xb≤4294967296):=by show _≤_;have:=HXA.out;have:=HXB.out;omega
   have O1:H ((1:Nat)≤65536):=yc;clear nx1 nx2 fx1 fx2 hgm1 hgm2;go_wp2_with fail;have EX:H (∀W,J [] wb W→_):=fun W md=>yI4 (NX.out.mod0 md) (NA.out.mod0 md) (HBL.out _ md) O1.out HXA.out BA.out
   have EY:H (∀w1 W,J [] wb w1→J [] w1 W→_):=fun w1 W m1 md=>yI4 (NY.out.mod0 (m1.trans' md)) (NB.out.mod0 (m1.trans' md)) (HBL.out _ (m1.trans' md)) O1.out HXB.out BB.out
   have EZ:H (∀v1 v2 w1 w2 W,Nk w1 bm v1 (1 *xa)→Nk w2 bm v2 (1 *xb)→J [] wb w1→J [] w1 w2→J [] w2 W→_):=fun v1 v2 w1 w2 W n1 n2 m1 m2 md=>addK (n1.mod0 (m2.trans' md)) (n2.mod0 md) (HBL.out _ ((m1.trans' m2).trans' md)) BC.out
   go_region_held3 (fun w'=>w'.cell? ⟨bw,2,Z⟩=V (K (V ⟨g1,off1,Z⟩) n cl)∧w'.cell? ⟨bw,3,Z⟩=V (K (V ⟨g2,off2,Z⟩) n ch)∧w'.cell? ⟨g1,off1+qt,Z⟩=V (x1)∧w'.cell? ⟨g2,off2+qt,Z⟩=V (x2)) (go_keep) (first | (go_at_call 220;(with_reducible refine (EX.out _ (zg)).mono ?_);rintro e' w1 ⟨v1,rfl,nk1,m_w1⟩;have M_w1:=D (show J _ wb _ from zg) m_w1;have k2:=(M_w1.cell (a:=⟨bw,2,Z⟩) hb2 (zh)).trans k2;have k3:=(M_w1.cell (a:=⟨bw,3,Z⟩) hb2 (zh)).trans k3;have c1:=(M_w1.cell (a:=⟨g1,off1+qt,Z⟩) hg1 (zh)).trans c1;have c2:=(M_w1.cell (a:=⟨g2,off2+qt,Z⟩) hg2 (zh)).trans c2;have hb2:=o hb2 M_w1.size;have hg1:=o hg1 M_w1.size;have hg2:=o hg2 M_w1.size;skip) | (go_at_call 220;(with_reducible refine (EY.out w1 _ M_w1 (zg)).mono ?_);rintro e' w2 ⟨v2,rfl,nk2,m_w2⟩;have M_w2:=D (show J _ w1 _ from zg) m_w2;have k2:=(M_w2.cell (a:=⟨bw,2,Z⟩) hb2 (zh)).trans k2;have k3:=(M_w2.cell (a:=⟨bw,3,Z⟩) hb2 (zh)).trans k3;have c1:=(M_w2.cell (a:=⟨g1,off1+qt,Z⟩) hg1 (zh)).trans c1;have c2:=(M_w2.cell (a:=⟨g2,off2+qt,Z⟩) hg2 (zh)).trans c2;have hb2:=o hb2 M_w2.size;have hg1:=o hg1 M_w2.size;have hg2:=o hg2 M_w2.size;skip) | (go_at_call 231;refine (EZ.out v1 v2 w1 w2 _ nk1 nk2 M_w1 M_w2 (zg)).mono ?_;rintro e' w3 ⟨v3,rfl,nk3,m_w3⟩;have M_w3:=D (show J _ w2 _ from zg) m_w3;have k2:=(M_w3.cell (a:=⟨bw,2,Z⟩) hb2 (zh)).trans k2;have k3:=(M_w3.cell (a:=⟨bw,3,Z⟩) hb2 (zh)).trans k3;have c1:=(M_w3.cell (a:=⟨g1,off1+qt,Z⟩) hg1 (zh)).trans c1;have c2:=(M_w3.cell (a:=⟨g2,off2+qt,Z⟩) hg2 (zh)).trans c2;have hb2:=o hb2 M_w3.size;have hg1:=o hg1 M_w3.size;have hg2:=o hg2 M_w3.size;skip))
   all_goals
    have M3:=z (MB.out.trans ((M_w1.trans' M_w2).trans' M_w3) (ze));have K3:=z (KB.out.mod ((M_w1.trans' M_w2).trans' M_w3));rw [Δ,Δ] at nk3;have N3:=z nk3;clear nk1 nk2 nk3 m_w1 m_w2 m_w3 M_w1 M_w2 M_w3 c1 c2 hg1 hg2 k0 k1 k2 k3 k4 hb2 NX NY HBL BA BB BC EX EY EZ;have hb3:=(BS.out.mod M3.out).blk.lt;go_wp2_with fail;refine (PR.out _ qt qt true (wI) (C)).mono ?_;rintro e w4 ⟨v4,rfl,nk4,m4⟩;rw [zo7] at nk4;have M4:=z (M3.out.trans m4 (ze));have K4:=z (K3.out.mod m4);have N34:=z (N3.out.mod0 m4);have N4:=z nk4;clear nk4 m4;go_wp2_with fail;refine (yI4 N4.out N34.out (o HBM.out M4.out.size) O1.out HXS.out (by have:=HXS.out;omega)).mono ?_;rintro e w5 ⟨v5,rfl,nk5,m5⟩;rw [Δ] at nk5;have M5:=z (M4.out.trans m5 (ze));have K5:=z (K4.out.mod m5);have N5:=z nk5;clear nk5 m5;obtain ⟨k0,k1,k2,k3,k4⟩:=(BS.out.mod M5.out).blk.cells5;have hb5:=(BS.out.mod M5.out).blk.lt;have hm2:=HM2.out;have hmm:=HM.out;obtain ⟨w6,hrun,hk6,hm6⟩:=K5.out.put a ha HT.out (by rw [HX.out];exact N5.out) (C);have K6:=z hk6;have M6:=z (M5.out.trans' hm6);have N6:=z (N5.out.mod hm6);clear hk6 hm6;go_wp2_with fail;go_ret;exact ⟨_,_,rfl,N6.out,K6.out,C,M6.out⟩
open Go.RowKit
theorem yN2 {L:List Rc} {f n:Nat} (hG:Good L n) (hf:f=1∨f=2) (hn:n≤16) {r:Rc} {id:Nat} {A B:Tr} (hr:YO L id=V r) (hrf:r.f=f) (hA:Rep L f r.lo.a A) (hB:Rep L f r.hi.a B):
 r.top=r.bot∧r.bot < n∧cE f n A (r.bot+1)+cE f n B (r.bot+1)≤65536∧LeadsP L f r.lo (r.bot+1) n∧LeadsP L f r.hi (r.bot+1) n:=by
 have g:=hG id r hr
 have tb:r.top=r.bot:=by
  rcases g.right.ch with h | h | h
  ·exact h
  ·omega
  ·omega
 have bn:=g.right.bn;have glo:=g.lo;have ghi:=g.hi;rw [hrf] at glo ghi;have h1:=ys7 hG hf hA (t:=r.lo.t) (l:=r.bot+1) glo (C);have h2:=ys7 hG hf hB (t:=r.hi.t) (l:=r.bot+1) ghi (C);have h3:2 ^ (n - (r.bot+1))≤2 ^ 15:=Γ (C) (C);exact ⟨tb,bn,C,glo,ghi⟩
theorem Yq {p:Prop} (h:p:=by
 rcases hf with rfl | rfl
 ·simp at hfr;subst hfr;simp
 ·simp at hfr;subst hfr;simp):p:=h
theorem yF8 {bw b n room f bm:Nat} {L:List Rc} {F:List Nat} {lo hi:Option Addr} {cl ch:Nat} (hn:n≤16) (hf:f=1∨f=2) (hL:L.length≤1048576) (hG:Good L n) (T:Tr):
 ∀(w:R) (m t a l:Nat),Sc w bw b n room f L F lo hi cl ch bm→Kp w bm m f n L→Rep L f a T→LeadsP L f ⟨t,a⟩ l n→l≤n→m+tsz T≤1000000→
  Ψ Y 202 #[Q (V ⟨bw,0,Z⟩),edv ⟨t,a⟩,d Θ l] w (ScP w bm (m+tsz T) f n L (cE f n T l)):=by
 have hz3:((f:Int)==3)=false:=zj;have hz5:((f:Int)==5)=false:=zj
 induction T with
 | leaf bb=>
  intro w m t a l hS hK hT hP hl hm;cases bb with
  | false=>
   have ha:=hT.invl;simp at ha;subst ha;exact zW0 hK (C)
  | true=>
   have ha:=hT.invl;simp at ha;subst ha;obtain ⟨fr,hfr⟩:∃fr,fr=if f=1 then n else l:=⟨_,rfl⟩
   refine (zy1 hS hn ((f:Int)==1) rfl hz3 hz5 t 1 l fr (C) rc0 false n 1 m (m+tsz (.leaf true)) (φ _) hl (by
    rcases hf with rfl | rfl
    ·left;exact ⟨zi,qQ⟩
    ·right;exact ⟨zi,qQ⟩) (C) (C)
    (fun W md=>Xa (hS.mod0 md).st hL 1 (C) (xw)) hK (fun _=>⟨rfl,rfl⟩) (fun h=>zU) (fun _ _ h=>zU)).mono ?_
   intro e w' h
   have e2:Xx l fr true *Xx fr n false *1=cE f n (.leaf true) l:=by
    unfold cE Xx;exact Yq
   rw [e2] at h;exact h
 | node tt tb tl A th B ihA ihB=>
  intro w m t a l hS hK hT hP hl hm;obtain ⟨r,hr,hrf,rfl,rfl,rfl,rfl,hA,hB⟩:=hT.inv;have hal:=YJ hr;obtain ⟨htb,hbn,hs,glo,ghi⟩:=yN2 hG hf hn hr hrf hA hB
  have hlt:l≤r.top:=by
   rcases hP.at_ with q | ⟨r',h2,h3,h4,_⟩
   ·simp only at q;omega
   ·exact Ys
  obtain ⟨fr,hfr⟩:∃fr,fr=if f=1 then r.top else l:=⟨_,rfl⟩
  have hsz:tsz (.node r.top r.bot r.lo.t A r.hi.t B)=1+tsz A+tsz B:=rfl
  refine (zy1 hS hn ((f:Int)==1) rfl hz3 hz5 t a l fr (C) r true r.top (cE f n A (r.bot+1)+cE f n B (r.bot+1)) m (m+tsz (.node r.top r.bot r.lo.t A r.hi.t B)) (C) hlt (by
   rcases hf with h | h
   ·left;subst h;exact ⟨zi,qQ⟩
   ·right;subst h;exact ⟨zi,qQ⟩) hs (C)
   (fun W md=>Y7 (hS.mod0 md).st hL a r hr) hK (fun h=>zU) (fun _=>rfl) (fun W md _=>?_)).mono ?_
  ·have hnode:=zY3 (hS.mod0 md) hn hz3 a (C) r htb hbn m (hK.mod md) hT (tsz A) (tsz B) (cE f n A (r.bot+1)) (cE f n B (r.bot+1)) rfl (C) (C) hs (C)
    (fun W2 m' md2 hk hm'=>by
     refine (ihA W2 m' r.lo.t r.lo.a (r.bot+1) ((hS.mod0 md).mod md2) hk hA glo (C) (C)).mono ?_;rintro e w' ⟨v,m2,h1,h2,h3,h4,h5⟩
     exact ⟨v,m2,h1,h2,h3,C,h5⟩)
    (fun W2 m' md2 hk hm'=>by
     refine (ihB W2 m' r.hi.t r.hi.a (r.bot+1) ((hS.mod0 md).mod md2) hk hB ghi (C) (C)).mono ?_;rintro e w' ⟨v,m2,h1,h2,h3,h4,h5⟩
     exact ⟨v,m2,h1,h2,h3,C,h5⟩)
   rw [hsz,show m+(1+tsz A+tsz B)=m+1+tsz A+tsz B from C];exact hnode
  ·intro e w' h
   have e2:Xx l fr true *Xx fr r.top false *(cE f n A (r.bot+1)+cE f n B (r.bot+1))=cE f n (.node r.top r.bot r.lo.t A r.hi.t B) l:=by
    rw [cE];unfold Xx;exact Yq
   rw [e2] at h;exact h
open Go.RowKit
theorem ym0 (n:Nat) (hn:n≤16) (w:R):Ψ Y 173 #[d .u64 1,d Θ n] w fun e w'=>∃v,e=I v∧NewV 185 w ((E n 1).map e6) w' v:=by
 obtain ⟨gk,hgk⟩:∃gk,w.heap.size=gk:=⟨_,rfl⟩;have MK0:=zu1 w n (C);rw [hgk] at MK0;have F0:=z (Fill.start (n:=n) hgk.symm (zx));go_in;go_wp2_with fail
 go_loopw [6,11] (fun _ i wr=>∃k:Nat,i=d Θ k∧k≤n∧H (Fill w gk n wr (E k 1))) (fun _ i _=>n - (intOf i).toNat)
 case atStart=>exact ⟨0,rfl,C,F0⟩
 case round=>
  obtain ⟨k,rfl,hk,HF⟩:=hrel;by_cases hlt:k < n
  ·have hlt':(k:Int) < n:=C;have hk0:(0:Int)≤k:=C;obtain ⟨c0,f0⟩:=HF.out.at (k:=k) (ze) hlt;have HP:=z (HF.out.put (k:=k) (ze) hlt 1 (zV));have HE:H (E (k+1) 1=E k 1++[1]):=List.replicate_succ';clear F0;go_wp2_with fail;go_roundw
   case rel=>exact ⟨k+1,by first | rfl | go_num,C,by rw [HE.out];exact HP.out⟩
   case measure=>simp [intOf];omega
  ·obtain rfl:k=n:=C;go_wp2_with fail;go_ret;exact ⟨_,rfl,HF.out.full (ze)⟩
theorem Tryz.infoSl:(Tryz.prog.info? 86).map (fun i=>(i.zero,i.size,i.bytes))=V (V (K Z 0 0),1,24):=by kernel_rfl
theorem yJ9 (w:R) (n:Nat) (hn:n≤10000):(Instr.makeSlice 309 (d Θ n) (d Θ n)).run Y w=.ok (K (V ⟨w.heap.size,0,Z⟩) n n) (w.alloc (Ω (madeCells #[K Z 0 0] n) 86)):=by
 obtain ⟨i0,hi,hz0,hz1,hz2⟩:=info_parts Tryz.infoSl;have:=run_make (P:=Y) w 309 86 i0 _ Tryz.underlying309 hi hz0 Θ Θ n n (C) (C) (ye) (C);simpa [hz1,Value.cells] using this
def NRow (w0 wr:R) (g n k:Nat):Prop:=
 ∃fv,Row wr g 86 n fv∧(∀j,j < k→∃F,Nm wr (fv j) 1 F∧∀x∈F,x < wr.heap.size∧x≠g)∧J [] w0 wr∧w0.heap.size≤g
theorem NRow.later {w0 w1 w2:R} {g n k:Nat} (h:NRow w0 w1 g n k) (m:J [] w1 w2):NRow w0 w2 g n k:=by
 obtain ⟨fv,h1,h2,h3,h4⟩:=h;refine ⟨fv,h1.mod m (ze),fun j hj=>?_,h3.trans' m,h4⟩;obtain ⟨F,a,b⟩:=h2 j hj;exact ⟨F,a.mod m (ze),fun x hx=>⟨o (b x hx).1 m.size,(b x hx).2⟩⟩
theorem NRow.put {w0 wr:R} {g n k:Nat} (h:NRow w0 wr g n k) {v:ω} {F:List Nat} (hv:Nm wr v 1 F) (hF:∀x∈F,x < wr.heap.size∧x≠g):NRow w0 (wr.setCell ⟨g,k,Z⟩ v) g n (k+1):=by
 obtain ⟨fv,h1,h2,h3,h4⟩:=h;have md:J [g] wr (wr.setCell ⟨g,k,Z⟩ v):=(Φ [g] wr).setCell _ _ (ze);refine ⟨_,h1.set k v,fun j hj=>?_,h3.setCell _ _ (zj),h4⟩;by_cases q:j=k
 ·subst q;exact ⟨F,by rw [if_pos rfl];exact hv.mod md (fun x hx=>by simpa using (hF x hx).2),fun x hx=>⟨by simpa using (hF x hx).1,(hF x hx).2⟩⟩
 ·obtain ⟨F',a,b⟩:=h2 j (C);exact ⟨F',by rw [if_neg q];exact a.mod md (fun x hx=>by simpa using (b x hx).2),fun x hx=>⟨by simpa using (b x hx).1,(b x hx).2⟩⟩
theorem NRow.ones {w0 wr:R} {g n:Nat} (h:NRow w0 wr g n n) {W:R} (m:J [] wr W) {S:List Nat} (hS:∀k∈S,wr.heap.size≤k):Ones W (V ⟨g,0,Z⟩) n S:=by
 obtain ⟨fv,h1,h2,h3,h4⟩:=h;intro k hk;obtain ⟨F,a,b⟩:=h2 k hk;have hg:=h1.lt;refine ⟨g,0,fv k,F,rfl,o hg m.size,fun hm=>by have:=hS _ hm;omega,?_,a.mod m (ze),fun x hx=>⟨o (b x hx).1 m.size,fun hm=>by have:=hS _ hm;have:=(b x hx).1;omega⟩⟩;rw [Nat.zero_add];exact (m.cell (a:=⟨g,k,Z⟩) hg (ze)).trans (h1.cell k hk)
theorem zQ1 {w:R} {A:Option Addr} {n cap:Nat} {F:List Nat} (h:Rv w (K A n cap) ((E n 1).map e6) F) (hF:∀k∈F,k < w.heap.size) (hn:n≤16):
 Ψ Y 200 #[K A n cap] w fun e w'=>∃g,e=I (K (V ⟨g,0,Z⟩) n n)∧NRow w w' g n n:=by
 obtain ⟨gk,hgk⟩:∃gk,w.heap.size=gk:=⟨_,rfl⟩;have MK0:=yJ9 w n (C);rw [hgk] at MK0;have OF:=z (yN4 1 (zV));have R0:H (NRow w (w.alloc (Ω (madeCells #[K Z 0 0] n) 86)) gk n 0):=⟨_,Row.made w n (K Z 0 0) 86 gk hgk.symm,fun j hj=>C,(Φ _ _).alloc _,C⟩;have HR:=z h;clear h;go_in;go_wp2_with fail;generalize w.alloc (Ω (madeCells #[K Z 0 0] n) 86)=w0 at *
 go_loopw [4,5,11] (fun _ _ i wr=>∃k:Nat,i=d Θ k∧k≤n∧H (NRow w wr gk n k)) (fun _ _ i _=>n - (intOf i).toNat)
 case atStart=>exact ⟨0,rfl,C,R0⟩
 case round=>
  obtain ⟨k,rfl,hk,HN⟩:=hrel;by_cases hlt:k < n
  ·have hlt':(k:Int) < n:=C;have hk0:(0:Int)≤k:=C;have HM:H (J [] w wr):=by obtain ⟨fv,_,_,m,_⟩:=HN.out;exact m
   obtain ⟨g,off,rfl,hc⟩:∃g off,A=V ⟨g,off,Z⟩∧wr.cell? ⟨g,off+k,Z⟩=V (d .u64 1):=by
    obtain ⟨F',h',hF'⟩:=HR.out.lt;obtain ⟨g,off,rfl,hc⟩:=(h'.mod HM.out (ze)).at k (by simpa using hlt);refine ⟨g,off,rfl,?_⟩;simpa [e6] using hc
   clear R0 MK0;go_wp2_with fail;refine (OF.out _).mono ?_;rintro e w2 ⟨v,rfl,n2⟩;obtain ⟨A2,N2',cap2,rfl⟩:∃A N c,v=K A N c:=by obtain ⟨l,_,hn⟩:=n2;obtain ⟨A2,cap2,e⟩:=hn.shape;exact ⟨A2,_,cap2,e⟩
   obtain ⟨F2,nm2,ge2,lt2⟩:=n2.nm (C);have hgw:H (gk < wr.heap.size):=by obtain ⟨fv,hr,_⟩:=HN.out;exact hr.lt
   have N2:=z ((HN.out.later n2.mod).put nm2 (fun x hx=>⟨lt2 x hx,by have:=ge2 x hx;have:=hgw.out;omega⟩));obtain ⟨fv,hrow,-⟩:=HN.out.later n2.mod;have c2:=hrow.cell k hlt;have f2:=hrow.froz k;have l2:=hrow.lt;clear n2 nm2 ge2 lt2 hrow;go_wp2_with fail;go_roundw
   case rel=>exact ⟨k+1,by first | rfl | go_num,C,N2⟩
   case measure=>simp [intOf];omega
  ·obtain rfl:k=n:=C;go_wp2_with fail;go_ret;exact ⟨_,rfl,HN.out⟩
open Go.RowKit
structure Dia (L:List Rc) (n f:Nat) (e:Ed) (T:Tr):Prop where
 f1:1≤f
 f2:f≤2
 lead:LeadsP L f e 0 n
 rep:Rep L f e.a T
 size:tsz T≤100000
 few:(dis [] (nds T)).length≤9
theorem zK7 {w:R} {b n room f:Nat} {L:List Rc} {F:List Nat} (h:IsSt w b n L room F) (hL:L.length≤1048576) (hnd:L.Nodup) (hn:n≤16) {e:Ed} {T:Tr} (hD:Dia L n f e T):
 Ψ Y 199 #[Q (V ⟨b,0,Z⟩),d U f,edv e] w fun e' w'=>e'=I (d U 0)∧J [] w w':=by
 have SZ:H (∀W,J [] w W→_):=fun W md=>ze5 (h.mod md (ze)) hL hnd hn f hD.f1 (Ξ hD.f2 (C)) e 0 (C) hD.lead (x:=(e.t,T)) ⟨rfl,hD.rep⟩ (Ξ hD.size (C)) (Ξ hD.few (C))
 obtain ⟨t,a⟩:=e;unfold edv at *;simp only at SZ ⊢;clear h hD;go_in;go_wp2_with fail;refine (SZ.out _ (zg)).mono ?_;rintro e w2 ⟨rfl,m2⟩;have M2:=z (D (show J [] w _ from zg) m2);clear m2;go_wp2_with fail;go_ret;exact ⟨rfl,M2.out⟩
theorem Yr {p:Prop} (h:p:=by
 obtain ⟨ba,bi,Fa,c0,_⟩:=(h.mod md (ze)).own
 exact YH b n W' c0):p:=h
theorem yz4 {w:R} {b n room f cap:Nat} {L:List Rc} {F Fl:List Nat} {A:Option Addr} (h:IsSt w b n L room F) (hL:L.length≤1048576) (hnd:L.Nodup) (hG:Good L n) (hn:n≤16) {e:Ed} {T:Tr} (hD:Dia L n f e T)
 (hl:Rv w (K A n cap) ((E n 1).map e6) Fl) (hFl:∀k∈Fl,k < w.heap.size):
 Ψ Y 174 #[Q (V ⟨b,0,Z⟩),d U f,edv e,K A n cap,K A n cap] w fun e' w'=>∃v,e'=I (τ #[v,d U 0])∧NNew w (cE f n T 0) w' v:=by
 have MY:H (∀W,J [] w W→_):=fun W md=>zK7 (h.mod md (ze)) hL hnd hn hD
 have VA:H (∀W',J [] w W'→Ψ Y 67 #[Q (V ⟨b,0,Z⟩)] W' fun e w'=>e=I (d Θ n)∧w'=W'):=fun W' md=>by
  exact Yr
 have NU:H (∀W',J [] w W'→_):=fun W' md=>zQ1 (hl.mod md (ze)) (fun k hk=>o (hFl k hk) md.size) hn
 have hlen:=(hl.len).2;have hb:=h.lt b (by obtain ⟨ba,bi,g,nt,j,T',Fa,_,_,_,_,_,_,_,_,_,_,rfl,_⟩:=h;simp);have HS:=z h;have HD:=z hD;have HG:=z hG;have HFs:=z h.lt;obtain ⟨t,a⟩:=e;unfold edv at *;simp only at MY ⊢;obtain ⟨gk,hgk⟩:∃gk,w.heap.size=gk:=⟨_,rfl⟩;have hmk:=@run_makeMap Y;clear h hD hl hFl hG;go_in;go_wp2_with fail;refine (MY.out _ (zg)).mono ?_;rintro e w2 ⟨rfl,m2⟩;have M2:=z (D (show J [] w _ from zg) m2);have B2:=z ((Blk.new' w #[d U t,d O a] 44 gk hgk.symm).mod m2 (ze));clear m2 MY;go_wp2_with fail;refine (VA.out _ (jF)).mono ?_;rintro e wx ⟨rfl,rfl⟩;go_wp2_with fail;refine (VA.out _ (jF)).mono ?_;rintro e w2 ⟨rfl,rfl⟩;go_wp2_with fail;refine (NU.out _ (jF)).mono ?_;rintro e w3 ⟨g1,rfl,r1⟩;have R1:=z r1;have M3:H (J [] w w3):=M2.out.trans' (wJ);have MR3:H (J [] w2 w3):=wJ;clear r1;go_wp2_with fail;refine (NU.out _ (wI)).mono ?_;rintro e w4 ⟨g2,rfl,r2⟩;have R2:=z r2;have M34:H (J [] w3 w4):=by obtain ⟨fv,_,_,m,_⟩:=r2;exact m
 have M4:=z (M3.out.trans' M34.out);have B4:=z ((B2.out.mod MR3.out (ze)).mod M34.out (ze));obtain ⟨d0,d1⟩:=B4.out.cells2;have hk4:=B4.out.lt;obtain ⟨bm,hbm⟩:∃bm,w4.heap.size=bm:=⟨_,rfl⟩;have e0:=((show J [] w4 ((w4.alloc (.map #[] 0)).alloc (Ω #[Q (V ⟨b,0,Z⟩),d U f,K (V ⟨g1,0,Z⟩) n n,K (V ⟨g2,0,Z⟩) n n,.map (V bm)] 313)) from zg).cell (a:=⟨gk,0,Z⟩) hk4 (ze)).trans d0;have e1:=((show J [] w4 ((w4.alloc (.map #[] 0)).alloc (Ω #[Q (V ⟨b,0,Z⟩),d U f,K (V ⟨g1,0,Z⟩) n n,K (V ⟨g2,0,Z⟩) n n,.map (V bm)] 313)) from zg).cell (a:=⟨gk,1,Z⟩) hk4 (ze)).trans d1;clear r2 NU VA;go_wp2_with fail;obtain ⟨WX,hWX⟩:∃WX,((w4.alloc (.map #[] 0)).alloc (Ω #[Q (V ⟨b,0,Z⟩),d U f,K (V ⟨g1,0,Z⟩) n n,K (V ⟨g2,0,Z⟩) n n,.map (V bm)] 313))=WX:=⟨_,rfl⟩;have MX:H (J [] w4 WX):=by rw [←hWX];exact ((Φ _ _).alloc _).alloc _
 have KX:H (Kp WX bm 0 f n L):=by
  refine ⟨fun _=>Z,?_,fun id v _ h=>zU⟩;rw [←hWX];exact (IsMp.made w4 42 bm hbm.symm).mod (show J [] (w4.alloc (.map #[] 0)) _ from zg) (ze)
 have SX:H (Sc WX (bm+1) b n room f L F (V ⟨g1,0,Z⟩) (V ⟨g2,0,Z⟩) n n bm):=by
  refine ⟨?_,HS.out.mod (M4.out.trans' MX.out) (ze),R1.out.ones (M34.out.trans' MX.out) (by simp;have:=M34.out.size;omega),R2.out.ones MX.out (zj),C,fun k hk=>?_⟩
  ·rw [←hWX];exact Blk.new' _ _ _ _ (by simp [hbm])
  ·have:=HFs.out k hk;have:=M4.out.size;omega
 rw [hWX] at e0 e1 ⊢;have hnw:H (w.heap.size≤bm):=by have:=M4.out.size;show _≤_;omega
 clear hWX;refine (yF8 hn (by have:=HD.out.f1;have:=HD.out.f2;omega) hL HG.out T WX 0 t a 0 SX.out KX.out HD.out.rep HD.out.lead (C) (by have:=HD.out.size;omega)).mono ?_;rintro e w5 ⟨v,m',rfl,nk,-,-,m5⟩;obtain ⟨F5,⟨l5,hc5,nv5,hl5⟩,-⟩:=nk;have M5:H (J [] w w5):=(M4.out.trans' MX.out).trans m5 (by intro i hi h;have:=hnw.out;simp at h;omega);have NO:=z (zt6 nv5 (C));rw [hc5.val] at NO;clear nv5 hc5 hl5 m5 d0 d1 hk4 e0 e1;go_wp2_with fail;refine NO.out.mono ?_;rintro e w6 ⟨v6,rfl,n6⟩;have N6:=z (n6.after M5.out);clear n6;go_wp2_with fail;go_ret2;exact ⟨_,rfl,N6.out⟩
theorem zy0 {w:R} {b n room f:Nat} {L:List Rc} {F:List Nat} (h:IsSt w b n L room F) (hL:L.length≤1048576) (hnd:L.Nodup) (hG:Good L n) (hn:n≤16) {e:Ed} {T:Tr} (hD:Dia L n f e T):
 Ψ Y 150 #[Q (V ⟨b,0,Z⟩),d U f,edv e] w fun e' w'=>∃v,e'=I (τ #[v,d U 0])∧NNew w (cE f n T 0) w' v:=by
 have VA:H (∀W',J [] w W'→Ψ Y 67 #[Q (V ⟨b,0,Z⟩)] W' fun e w'=>e=I (d Θ n)∧w'=W'):=fun W' md=>by
  exact Yr
 have SM:=z (ym0 n hn);have WE:H (∀W A cap Fl,J [] w W→Rv W (K A n cap) ((E n 1).map e6) Fl→(∀k∈Fl,k < W.heap.size)→_):=fun W A cap Fl md hl hF=>yz4 (h.mod md (ze)) hL hnd hG hn hD hl hF
 obtain ⟨t,a⟩:=e;unfold edv at *;simp only at WE ⊢;obtain ⟨gk,hgk⟩:∃gk,w.heap.size=gk:=⟨_,rfl⟩;clear h hD hG;go_in;go_wp2_with fail;refine (VA.out _ (zg)).mono ?_;rintro e w1 ⟨rfl,rfl⟩;go_wp2_with fail;refine (SM.out _).mono ?_;rintro e w2 ⟨v,rfl,n2⟩;have m2:=n2.mod;have M2:=z (D (show J [] w _ from zg) m2);obtain ⟨A,cap,rfl⟩:=n2.shape;obtain ⟨F2,s2,-,-⟩:=n2;have hlt:=s2.lt;have RV:=z (Rv.of_sl s2 rfl);have HLT:=z hlt;have B2:=z ((Blk.new' w #[d U t,d O a] 44 gk hgk.symm).mod m2 (ze));obtain ⟨d0,d1⟩:=B2.out.cells2;have hk2:=B2.out.lt;rw [List.length_map,List.length_replicate] at RV ⊢;have WC:=z (WE.out w2 A cap F2 M2.out RV.out HLT.out);clear m2 s2 hlt WE;go_wp2_with fail;refine WC.out.mono ?_;rintro e w3 ⟨v3,rfl,n3⟩;have N3:=z (n3.after M2.out);clear n3;go_wp2_with fail;go_ret2;exact ⟨_,rfl,N3.out⟩
end Go.Proofs.YtbnpoapmnkfhkaaGreatDoor
