import Derived.Test.YtbnpoapmnkfhkaaGreatDoorZt28
import Derived.BigQuiet
set_option maxRecDepth 100000
set_option maxHeartbeats 4000000
set_option linter.unusedVariables false
set_option linter.unusedSimpArgs false
namespace Go.Proofs.YtbnpoapmnkfhkaaGreatDoor
open Go.Value renaming int → y, pointer → Y, tuple → Ω, agg → Ψ
open Go.IntKind renaming u8 → u, u32 → o, u16 → B, i64 → Ξ
open Go.Lib renaming hid → s
open Option renaming none → j, some → V
open List renaming setIfInBounds_toArray → d, set_cons_zero → U, set_cons_succ → R, getElem?_cons_zero → O, getElem?_cons_succ → N, getElem?_toArray → J, replicate → C, mem_singleton → ω, mem_cons → χ
open Go.Obj renaming cells → Z
open Go.Proofs.Tryz renaming prog → X, results346 → Φ, results314 → ψ
open Go.RowKit renaming Hid → Q
open Go.Proofs.YtbnpoapmnkfhkaaGreatDoor.Blk renaming new' → P
open Go renaming bodyPost_ret → M, Calls → G, results → A, World → Θ
open Go.Proofs.YtbnpoapmnkfhkaaGreatDoor renaming Mod → I
open Go.Ending renaming returned → H
open Go.Proofs.YtbnpoapmnkfhkaaGreatDoor.Grow renaming of_mod → E, of_mods → φ
open Nat renaming lt_of_lt_of_le → D, two_pow_pos → Δ, pow_lt_pow_right → Γ
open Go.RowKit
theorem SpQ.got {w0 w W w':Θ} {bs n room:Nat} {F0:List Nat} {bo bc g bq bk gq:Nat} {L:List Rc} {F:List Nat} (h:SpQ w0 w bs n room F0 bo bc g bq bk gq L F) (m0:I [] w W) (c:CHead 156 w' bk gq 256) (m:I [bk] W w'):SpQ w0 w' bs n room F0 bo bc g bq bk gq L F∧I [bk] w w':=
 ⟨⟨(h.eng.mod0 m0).got c m,h.gr.trans (φ ((m0.mono (ze)).trans' m) (ze))⟩,(m0.mono (ze)).trans' m⟩
theorem SpQ.putt {w0 w W w':Θ} {bs n room:Nat} {F0:List Nat} {bo bc g bq bk gq:Nat} {L:List Rc} {F:List Nat} (h:SpQ w0 w bs n room F0 bo bc g bq bk gq L F) (m0:I [] w W) (c:TabP 392 11 w' gq 256 (EnQ (VQ L n))) (m:I [gq] W w'):SpQ w0 w' bs n room F0 bo bc g bq bk gq L F∧I [gq] w w':=
 ⟨⟨(h.eng.mod0 m0).putt c m,h.gr.trans (φ ((m0.mono (ze)).trans' m) (ze))⟩,(m0.mono (ze)).trans' m⟩
theorem EdT.full {L:List Rc} {f n k l:Nat} {e:Ed} (h:EdT L f n k l e (C (2 ^ k) true)) (h1:1≤f) (h5:f≤5):¬e.a=0:=fun q=>by
 have:=(h.at0 h1 h5).1 q;have hp:=Δ k;simp at this
theorem zR6 {L:List Rc} {f n k l lv:Nat} {each:Bool} {e:Ed} {t:List Bool} (h:EdT L f n k l e t) (h1:1≤f) (h5:f≤5) (h0:e.a=0):EdT L f n k l ⟨0,0⟩ (qtT lv each k l t):=by
 rw [h.none h1 h5 h0,yh4];exact EdT.zero L h.lk
theorem ZZ {p:Prop} (h:p:=by
 subst ha0;go_wp2_with fail;have PRF:=PR.out;have SPF:=SP.out;have BW:=(PRF.blk.set 0 (y u 0)).set 1 (y o 0);simp only [d,U,R] at BW;obtain ⟨z0,z1⟩:=BW.cells2;have SW:=s (SPF.write (S:=[gj+1]) (w':=(w1.setCell ⟨gj+1,0,j⟩ (y u 0)).setCell ⟨gj+1,1,j⟩ (y o 0)) (zg) (xI) (xJ));clear BW;generalize (w1.setCell ⟨gj+1,0,j⟩ (y u 0)).setCell ⟨gj+1,1,j⟩ (y o 0)=w3 at *;refine M (v:=Ω #[Ψ #[y u 0,y o 0],y u 0]) (by simp [A,Φ,go_sem,z0,z1];try rfl) rfl ?_
 exact ⟨0,0,[],F,rfl,xe,SW.out.gr,(EZ.out (zp)).grow0,ze⟩):p:=h
theorem Z1 {p:Prop} (h:p:=by
 obtain ⟨ba,bi,Fa,c0,-⟩:=(HE.a.sto.st.mod m (ze)).own
 exact YH bs n W c0):p:=h
theorem Z4 {p:Prop} (h:p:=by
 have l1:=LT.out bk (ze);have l2:=LT.out gq (ze)
 exact ⟨zc,zc,zc,zc,fun h=>qJ,fun h=>qJ⟩):p:=h
theorem ye8 {bs n room bo bc g bq bk gq f kd lv:Nat} (h1:1≤f) (h5:f≤5) (hn:n≤16):DoQ bs n room bo bc g bq bk gq f kd lv 0 n:=by
 intro w L F at_ aa bt ba ta HE hb1 hb2 ea eb
 have VA0:Q (∀W,I [] w W→G X 67 #[Y (V ⟨bs,0,j⟩)] W fun e w'=>e=H (y Ξ n)∧w'=W):=fun W m=>by
  exact Z1
 have ON:Q (∀W',G X 108 #[y u f,y Ξ n] W' fun e' w'=>e'=H (edv (zi1 f n))∧I [] W' w'):=fun W'=>zU4 f h1 h5 n (zc) W'
 have EZ:Q (aa=0→EdT L f n 0 n ⟨0,0⟩ (qtT lv (kd==1) 0 n ta)):=fun h=>zR6 ea h1 h5 h
 have EO:Q (¬aa=0→EdT L f n 0 n (zi1 f n) (qtT lv (kd==1) 0 n ta)):=fun h=>by
  have e:=ea.leaf h1 h5;rw [e,decide_eq_true (Nat.pos_of_ne_zero h)];exact EdT.one L h1 h5
 have HB:Q (¬ba=0):=eb.full h1 h5;have hnb:(n:Int)≤16:=zc;have WN:IntKind.i64.wrap (n:Int)=n:=IntWalk.i64_in _ (zc);generalize qtT lv (kd==1) 0 n ta=T at *;generalize zi1 f n=oe at *;obtain ⟨ot,oa⟩:=oe;unfold edv at ON;simp only at ON;clear ea eb hb1 hb2;obtain ⟨gj,hgj⟩:∃gj,w.heap.size=gj:=⟨_,rfl⟩;have LT:=s HE.lt;have BJ1:=(P w #[y u f,y u kd,y u n,y B lv,y u at_,y o aa,y u bt,y o ba] 79 gj hgj.symm).alloc (Z #[y u 0,y o 0] 44);have BR1:=P (w.alloc (Z #[y u f,y u kd,y u n,y B lv,y u at_,y o aa,y u bt,y o ba] 79)) #[y u 0,y o 0] 44 (gj+1) (yB);have M1:Q (I [] w ((w.alloc (Z #[y u f,y u kd,y u n,y B lv,y u at_,y o aa,y u bt,y o ba] 79)).alloc (Z #[y u 0,y o 0] 44))):=zg;have SP:Q (SpQ w ((w.alloc (Z #[y u f,y u kd,y u n,y B lv,y u at_,y o aa,y u bt,y o ba] 79)).alloc (Z #[y u 0,y o 0] 44)) bs n room F bo bc g bq bk gq L F):=⟨HE.mod0 M1.out,E M1.out⟩;clear HE;go_in;go_upto_region 1 with fail
 have NBC:Q (¬bk=gj∧¬bk=gj+1∧¬gq=gj∧¬gq=gj+1∧gj∉bq::bo::bk::gq::bc::g::F∧gj+1∉bq::bo::bk::gq::bc::g::F):=by
  exact Z4
 have nA:¬bq=gj:=fun h=>NBC.out.2.2.2.2.1 (zn)
 have nB:¬gj=bq:=fun h=>nA h.symm
 have nC:¬bq=gj+1:=fun h=>NBC.out.2.2.2.2.2 (zn)
 have nD:¬gj+1=bq:=fun h=>nC h.symm
 generalize (w.alloc (Z #[y u f,y u kd,y u n,y B lv,y u at_,y o aa,y u bt,y o ba] 79)).alloc (Z #[y u 0,y o 0] 44)=w1 at *;have hbol:=SP.out.eng.ops.lt;have q1:=SP.out.eng.ops.cell 1;have q9:=SP.out.eng.ops.cell 2;simp only [J,O,N] at q1 q9;obtain ⟨j0,j1,j2,j3,j4,j5,j6,j7⟩:=XP BJ1;obtain ⟨r0,r1⟩:=BR1.cells2;obtain ⟨u0,u1,-⟩:=BR1.frozs;have hjl:=BJ1.lt;have hrl:=BR1.lt;have PJ:Q (Prv w w1 (bq::bo::bk::gq::bc::g::F) gj #[y u f,y u kd,y u n,y B lv,y u at_,y o aa,y u bt,y o ba] 79):=⟨BJ1,NBC.out.2.2.2.2.1,zc⟩;have PR:Q (Prv w w1 (bq::bo::bk::gq::bc::g::F) (gj+1) #[y u 0,y o 0] 44):=⟨BR1,NBC.out.2.2.2.2.2,zc⟩;clear BJ1 BR1;by_cases ha0:aa=0
 ·exact ZZ
 have y1:((aa:Int)==0)=false:=zo;have y2:((ba:Int)==0)=false:=wh;go_wp2_with fail;have VB:Q (∀W,I [] w1 W→G X 67 #[Y (V ⟨bs,0,j⟩)] W fun e w'=>e=H (y Ξ n)∧w'=W):=fun W m=>VA0.out W (M1.out.trans' m)
 go_region_held3 (fun w'=>w'.cell? ⟨bq,1,j⟩=V (Y (V ⟨bs,0,j⟩))∧w'.cell? ⟨gj,2,j⟩=V (y u n)) (go_keep) (first | (go_at_call 67;refine (VB.out _ (zy)).mono ?_;rintro e' w2 ⟨rfl,rfl⟩))
 go_wp2_with fail;refine (ON.out _).mono ?_;rintro e w3 ⟨rfl,m3⟩;have M3:=s (Mod.trans' (show I [] w1 _ from zg) m3);have PRF:=PR.out.mod M3.out (ze);have SPF:=SP.out.write M3.out (ze) (ze);obtain ⟨r0,r1⟩:=PRF.blk.cells2;obtain ⟨u0,u1,-⟩:=PRF.blk.frozs;have hrl3:=PRF.blk.lt;clear m3;go_wp2_with fail;have BW:=(PRF.blk.set 0 (y u ot)).set 1 (y o oa);simp only [d,U,R] at BW;obtain ⟨z0,z1⟩:=BW.cells2;have SW:=s (SPF.write (S:=[gj+1]) (w':=(w3.setCell ⟨gj+1,0,j⟩ (y u ot)).setCell ⟨gj+1,1,j⟩ (y o oa)) (zg) (xI) (xJ));clear BW;generalize (w3.setCell ⟨gj+1,0,j⟩ (y u ot)).setCell ⟨gj+1,1,j⟩ (y o oa)=w3 at *;refine M (v:=Ω #[Ψ #[y u ot,y o oa],y u 0]) (by simp [A,Φ,go_sem,z0,z1];try rfl) rfl ?_;exact ⟨ot,oa,[],F,rfl,xe,SW.out.gr,(EO.out ha0).grow0,ze⟩
theorem yb5 {bs n room bo bc g bq bk gq f kd lv k l:Nat} (h1:1≤f) (h5:f≤5) (hn:n≤16) (hlk:l+(k+1)=n) (ih:SplQ bs n room bo bc g bq bk gq f kd lv (k+1) l):DoQ bs n room bo bc g bq bk gq f kd lv (k+1) l:=by
 intro w L F at_ aa bt ba ta HE hb1 hb2 ea eb
 have VA0:Q (∀W,I [] w W→G X 67 #[Y (V ⟨bs,0,j⟩)] W fun e w'=>e=H (y Ξ n)∧w'=W):=fun W m=>by
  exact Z1
 have EZ:Q (aa=0→EdT L f n (k+1) l ⟨0,0⟩ (qtT lv (kd==1) (k+1) l ta)):=fun h=>zR6 ea h1 h5 h
 have VT:Q (∀vt va:Nat,VQ L n ⟨f,kd,l,lv,⟨at_,aa⟩,⟨bt,ba⟩⟩ ⟨vt,va⟩→EdT L f n (k+1) l ⟨vt,va⟩ (qtT lv (kd==1) (k+1) l ta)):=fun vt va h=>h.told ea
 have VP:Q (∀(L2:List Rc) (vt va:Nat),EdT (L++L2) f n (k+1) l ⟨vt,va⟩ (qtT lv (kd==1) (k+1) l ta)→EnQ (VQ (L++L2) n) [y u f,y u kd,y u l,y B lv,y u at_,y o aa,y u bt,y o ba,y u vt,y o va,y Ξ 1]):=fun L2 vt va h=>⟨⟨f,kd,l,lv,⟨at_,aa⟩,⟨bt,ba⟩⟩,⟨vt,va⟩,1,rfl,.inr ⟨rfl,_,ta,h1,h5,ea.grow L2,h⟩⟩
 have SPL:Q (∀W,EngQ W bs n room L F bo bc g bq bk gq→G X 350 #[Y (V ⟨bq,0,j⟩),Ψ #[y u f,y u kd,y u l,y B lv,y u at_,y o aa,y u bt,y o ba]] W (zm8 W bs n room L F bo bc g bq bk gq f (k+1) l (qtT lv (kd==1) (k+1) l ta) (qc (k+1)))):=fun W h=>ih W L F at_ aa bt ba ta h hb1 hb2 ea eb
 have HB:Q (¬ba=0):=eb.full h1 h5;have hlb:(l:Int)≤16:=zc;have hne:¬(l:Int)=n:=zc;have hnb:((l:Int)==(n:Int))=false:=vQ;have WN:IntKind.i64.wrap (l:Int)=l:=IntWalk.i64_in _ (zc);generalize qtT lv (kd==1) (k+1) l ta=T at *;generalize qc (k+1)=cst at *;clear ea eb hb1 hb2 ih;obtain ⟨gj,hgj⟩:∃gj,w.heap.size=gj:=⟨_,rfl⟩;have LT:=s HE.lt;have BJ1:=(P w #[y u f,y u kd,y u l,y B lv,y u at_,y o aa,y u bt,y o ba] 79 gj hgj.symm).alloc (Z #[y u 0,y o 0] 44);have BR1:=P (w.alloc (Z #[y u f,y u kd,y u l,y B lv,y u at_,y o aa,y u bt,y o ba] 79)) #[y u 0,y o 0] 44 (gj+1) (yB);have M1:Q (I [] w ((w.alloc (Z #[y u f,y u kd,y u l,y B lv,y u at_,y o aa,y u bt,y o ba] 79)).alloc (Z #[y u 0,y o 0] 44))):=zg;have SP:Q (SpQ w ((w.alloc (Z #[y u f,y u kd,y u l,y B lv,y u at_,y o aa,y u bt,y o ba] 79)).alloc (Z #[y u 0,y o 0] 44)) bs n room F bo bc g bq bk gq L F):=⟨HE.mod0 M1.out,E M1.out⟩;clear HE;go_in;go_upto_region 1 with fail
 have NBC:Q (¬bk=gj∧¬bk=gj+1∧¬gq=gj∧¬gq=gj+1∧gj∉bq::bo::bk::gq::bc::g::F∧gj+1∉bq::bo::bk::gq::bc::g::F):=by
  exact Z4
 have nA:¬bq=gj:=fun h=>NBC.out.2.2.2.2.1 (zn)
 have nB:¬gj=bq:=fun h=>nA h.symm
 have nC:¬bq=gj+1:=fun h=>NBC.out.2.2.2.2.2 (zn)
 have nD:¬gj+1=bq:=fun h=>nC h.symm
 generalize (w.alloc (Z #[y u f,y u kd,y u l,y B lv,y u at_,y o aa,y u bt,y o ba] 79)).alloc (Z #[y u 0,y o 0] 44)=w1 at *;have hbol:=SP.out.eng.ops.lt;have q1:=SP.out.eng.ops.cell 1;have q9:=SP.out.eng.ops.cell 2;simp only [J,O,N] at q1 q9;obtain ⟨j0,j1,j2,j3,j4,j5,j6,j7⟩:=XP BJ1;obtain ⟨r0,r1⟩:=BR1.cells2;obtain ⟨u0,u1,-⟩:=BR1.frozs;have hjl:=BJ1.lt;have hrl:=BR1.lt;have PJ:Q (Prv w w1 (bq::bo::bk::gq::bc::g::F) gj #[y u f,y u kd,y u l,y B lv,y u at_,y o aa,y u bt,y o ba] 79):=⟨BJ1,NBC.out.2.2.2.2.1,zc⟩;have PR:Q (Prv w w1 (bq::bo::bk::gq::bc::g::F) (gj+1) #[y u 0,y o 0] 44):=⟨BR1,NBC.out.2.2.2.2.2,zc⟩;clear BJ1 BR1;by_cases ha0:aa=0
 ·exact ZZ
 have y1:((aa:Int)==0)=false:=zo;have y2:((ba:Int)==0)=false:=wh;go_wp2_with fail;have VB:Q (∀W,I [] w1 W→G X 67 #[Y (V ⟨bs,0,j⟩)] W fun e w'=>e=H (y Ξ n)∧w'=W):=fun W m=>VA0.out W (M1.out.trans' m)
 go_region_held3 (fun w'=>w'.cell? ⟨bq,1,j⟩=V (Y (V ⟨bs,0,j⟩))∧w'.cell? ⟨gj,2,j⟩=V (y u l)) (go_keep) (first | (go_at_call 67;refine (VB.out _ (zy)).mono ?_;rintro e' w2 ⟨rfl,rfl⟩))
 go_wp2_with fail;obtain ⟨gs,hgs⟩:∃gs,w1.heap.size=gs:=⟨_,rfl⟩;have nE:¬gj=gs:=zc;have nF:¬bq=gs:=zc;have nG:¬gs=gj:=zc;have nH:¬gs=bq:=zc;have bcs:bk < gs:=by have:=SP.out.eng.head.lt;omega
 have GET:Q (∀W,I [] w1 W→_):=fun W m=>yF3 f kd l lv at_ aa bt ba bk gq 8 256 (zc) rfl (SP.out.eng.head.mod m (ze)) (SP.out.eng.tab.mod m (ze)) SP.out.eng.ap.2.2
 go_cut [6,7] from 37 to 44 (fun p q wx=>∃(ge vt va:Nat) (ok:Bool),p=Y (V ⟨ge,0,j⟩)∧q=.bool ok∧gj+1 < ge∧Q (ok=true→VQ L n ⟨f,kd,l,lv,⟨at_,aa⟩,⟨bt,ba⟩⟩ ⟨vt,va⟩)∧Q (SpQ w wx bs n room F bo bc g bq bk gq L F)∧Q (Prv w wx (bq::bo::bk::gq::bc::g::F) gj #[y u f,y u kd,y u l,y B lv,y u at_,y o aa,y u bt,y o ba] 79)∧Q (Prv w wx (bq::bo::bk::gq::bc::g::F) (gj+1) #[y u 0,y o 0] 44)∧Q (Prv w wx (bq::bo::bk::gq::bc::g::F) ge #[y u vt,y o va] 44))
 case first=>
  go_region_held3 (fun w'=>w'.cell? ⟨bq,2,j⟩=V (Y (V ⟨bk,0,j⟩))∧w'.cell? ⟨gj,0,j⟩=V (y u f)∧w'.cell? ⟨gj,1,j⟩=V (y u kd)∧w'.cell? ⟨gj,2,j⟩=V (y u l)∧w'.cell? ⟨gj,3,j⟩=V (y B lv)∧w'.cell? ⟨gj,4,j⟩=V (y u at_)∧w'.cell? ⟨gj,5,j⟩=V (y o aa)∧w'.cell? ⟨gj,6,j⟩=V (y u bt)∧w'.cell? ⟨gj,7,j⟩=V (y o ba)) (go_keep) (first | (go_at_call 349;refine (GET.out _ (zg)).mono ?_;rintro e' w2 ⟨vt,va,ok,rfl,hv,ch,m2⟩;have SG:=SP.out.got (show I [] w1 _ from zg) ch m2;have q9:=(SG.2.cell (a:=⟨bq,2,j⟩) hbol (by simpa using SP.out.eng.ap.1)).trans q9;have bj2:=PJ.out.blk.mod SG.2 (qI);obtain ⟨j0,j1,j2,j3,j4,j5,j6,j7⟩:=XP bj2;have hjl:=bj2.lt;have hbol:=D hbol SG.2.size;have hB:=fun c ty (h:Blk _ gs c ty)=>h.mod m2 (zj);first | (have zb:=hB _ _ ((P _ _ _ gs hgs.symm).drew);have z0:=zb.cell 0;have z1:=zb.cell 1;simp only [J,O,N] at z0 z1;have zf:=zb.froz;have zl:=zb.lt) | skip))
  all_goals (go_wp2_with fail;go_meet)
  all_goals
   have LN:=SG.1.lt;have nbj:gj∉[bk]:=qI;have nbr:gj+1∉[bk]:=vS;have ngs:gs∉bq::bo::bk::gq::bc::g::F:=fun h=>by have:=SP.out.lt _ h;omega
   have hs2:=SG.2.size
   first
    | exact ⟨w2.heap.size,vt,va,ok,rfl,rfl,zc,hv,SG.1.write (S:=[]) (zg) (ze) (ze),(PJ.out.mod SG.2 nbj).mod (S:=[]) (zg) (ze),(PR.out.mod SG.2 nbr).mod (S:=[]) (zg) (ze),⟨P _ _ _ _ rfl,fun h=>by have:=LN _ h;omega,zc⟩⟩
    | exact ⟨gs,vt,va,ok,rfl,rfl,zc,hv,SG.1.write (S:=[gs]) (zg) (xH) (vU),(PJ.out.mod SG.2 nbj).mod (S:=[gs]) (zg) (by simpa using nE),(PR.out.mod SG.2 nbr).mod (S:=[gs]) (zg) (zj),⟨Blk.eq ((zb.set 0 (y u vt)).set 1 (y o va)) (ze),ngs,zc⟩⟩
 case rest=>
  obtain ⟨ge,vt,va,ok,rfl,rfl,hge,HV,SQ,PJ2,PR2,PE⟩:=hcut;clear SP PJ PR j0 j1 j2 j3 j4 j5 j6 j7 q1 q9 r0 r1 u0 u1 hjl hrl hbol GET nE nF nG nH bcs hgs;generalize wc=wq at *;have hn1:¬gj+1=ge:=zc;have hn2:¬ge=gj+1:=zc;cases ok with
  | true=>
   obtain ⟨e0,e1⟩:=PE.out.blk.cells2;have PRF:=PR2.out;have SPF:=SQ.out;obtain ⟨r0,r1⟩:=PRF.blk.cells2;obtain ⟨u0,u1,-⟩:=PRF.blk.frozs;have hrl:=PRF.blk.lt;have hel:=PE.out.blk.lt;go_wp2_with fail;have BW:=(PRF.blk.set 0 (y u vt)).set 1 (y o va);simp only [d,U,R] at BW;obtain ⟨z0,z1⟩:=BW.cells2;have SW:=s (SPF.write (S:=[gj+1]) (w':=(wq.setCell ⟨gj+1,0,j⟩ (y u vt)).setCell ⟨gj+1,1,j⟩ (y o va)) (zg) (xI) (xJ));clear BW;generalize (wq.setCell ⟨gj+1,0,j⟩ (y u vt)).setCell ⟨gj+1,1,j⟩ (y o va)=w3 at *;refine M (v:=Ω #[Ψ #[y u vt,y o va],y u 0]) (by simp [A,Φ,go_sem,z0,z1];try rfl) rfl ?_;exact ⟨vt,va,[],F,rfl,xe,SW.out.gr,(VT.out vt va (HV.out (zp))).grow0,ze⟩
  | false=>
   obtain ⟨j0,j1,j2,j3,j4,j5,j6,j7⟩:=XP PJ2.out.blk;have hjl:=PJ2.out.blk.lt;go_wp2_with fail;refine (SPL.out _ (SQ.out.eng.mod0 (zg))).mono ?_;rintro e wd ⟨xt,xa,L2,F2,rfl,en,gd,ex,hl2⟩;have EX:=s ex;have SPn:=s (SQ.out.did en gd);have PJn:=s (PJ2.out.call2 gd);have PRn:=s (PR2.out.call2 gd);clear j0 j1 j2 j3 j4 j5 j6 j7 hjl en gd ex SQ PJ2 PR2 PE HV;obtain ⟨gx,hgx⟩:∃gx,wd.heap.size=gx:=⟨_,rfl⟩;have Mx:Q (I [] wd (wd.alloc (Z #[y u xt,y o xa] 44))):=zg;have LTn:=s SPn.out.lt;have PX:Q (Prv w (wd.alloc (Z #[y u xt,y o xa] 44)) (bq::bo::bk::gq::bc::g::F2) gx #[y u xt,y o xa] 44):=⟨P _ _ _ _ hgx.symm,fun h=>yX,yY⟩;have SP:=s (SPn.out.write (S:=[]) Mx.out (ze) (ze));have PJ:=s (PJn.out.mod Mx.out (ze));have PR:=s (PRn.out.mod Mx.out (ze));have hjx:¬gj=gx:=yZ;have hrx:¬gj+1=gx:=xd;have hxr:¬gx=gj+1:=fun h=>hrx h.symm
   clear SPn PJn PRn Mx LTn;go_upto_region 10 with fail;generalize hwz:wd.alloc (Z #[y u xt,y o xa] 44)=wz at *;clear hwz hgx;have PUT:Q (∀W,I [] wz W→_):=fun W m=>yH1 f kd l lv at_ aa bt ba xt xa bk gq 8 256 (zc) rfl (SP.out.eng.head.mod m (ze)) (SP.out.eng.tab.mod m (ze)) SP.out.eng.ap.2.2 (VP.out L2 xt xa EX.out)
   have hbol:=SP.out.eng.ops.lt;have q9:=SP.out.eng.ops.cell 2;simp only [J,O,N] at q9;obtain ⟨j0,j1,j2,j3,j4,j5,j6,j7⟩:=XP PJ.out.blk;obtain ⟨x0,x1⟩:=PX.out.blk.cells2;have hjl:=PJ.out.blk.lt;have hxl:=PX.out.blk.lt;have ngj:gj∉[gq]:=vV;have ngr:gj+1∉[gq]:=vW;have ngx:gx∉[gq]:=vX;have ngo:bq∉[gq]:=by simpa using SP.out.eng.ap.2.1
   go_region_held3 (fun w'=>w'.cell? ⟨bq,2,j⟩=V (Y (V ⟨bk,0,j⟩))∧w'.cell? ⟨gj,0,j⟩=V (y u f)∧w'.cell? ⟨gj,1,j⟩=V (y u kd)∧w'.cell? ⟨gj,2,j⟩=V (y u l)∧w'.cell? ⟨gj,3,j⟩=V (y B lv)∧w'.cell? ⟨gj,4,j⟩=V (y u at_)∧w'.cell? ⟨gj,5,j⟩=V (y o aa)∧w'.cell? ⟨gj,6,j⟩=V (y u bt)∧w'.cell? ⟨gj,7,j⟩=V (y o ba)∧w'.cell? ⟨gx,0,j⟩=V (y u xt)∧w'.cell? ⟨gx,1,j⟩=V (y o xa)) (go_keep) (first | (go_at_call 351;refine (PUT.out _ (zg)).mono ?_;rintro e' w2 ⟨rfl,tb2,m2⟩;have SG:=SP.out.putt (show I [] wz _ from zg) tb2 m2;have q9:=(SG.2.cell (a:=⟨bq,2,j⟩) hbol ngo).trans q9;have bj2:=PJ.out.blk.mod SG.2 ngj;have bx2:=PX.out.blk.mod SG.2 ngx;obtain ⟨j0,j1,j2,j3,j4,j5,j6,j7⟩:=XP bj2;obtain ⟨x0,x1⟩:=bx2.cells2;have hjl:=bj2.lt;have hxl:=bx2.lt;have hbol:=D hbol SG.2.size))
   all_goals
    have PRF:=PR.out.mod SG.2 ngr;have SPF:=SG.1;obtain ⟨r0,r1⟩:=PRF.blk.cells2;obtain ⟨u0,u1,-⟩:=PRF.blk.frozs;have hrl:=PRF.blk.lt;go_wp2_with fail;have BW:=(PRF.blk.set 0 (y u xt)).set 1 (y o xa);simp only [d,U,R] at BW;obtain ⟨z0,z1⟩:=BW.cells2;have SW:=s (SPF.write (S:=[gj+1]) (w':=(w2.setCell ⟨gj+1,0,j⟩ (y u xt)).setCell ⟨gj+1,1,j⟩ (y o xa)) (zg) (xI) (xJ));clear BW;generalize (w2.setCell ⟨gj+1,0,j⟩ (y u xt)).setCell ⟨gj+1,1,j⟩ (y o xa)=w3 at *;refine M (v:=Ω #[Ψ #[y u xt,y o xa],y u 0]) (by simp [A,Φ,go_sem,z0,z1];try rfl) rfl ?_;exact ⟨xt,xa,L2,F2,rfl,SW.out.eng,SW.out.gr,EX.out,hl2⟩
theorem doQ {bs n room bo bc g bq bk gq f kd lv:Nat} (h1:1≤f) (h5:f≤5) (hn:n≤16) (hrm:room≤1048576) (hkd:kd≤1) (hlv:lv < 65536):∀k l,l+k=n→DoQ bs n room bo bc g bq bk gq f kd lv k l:=by
 intro k
 induction k with
 | zero=>
  intro l hl;obtain rfl:l=n:=zc;exact ye8 h1 h5 hn
 | succ k ih=>intro l hl;exact yb5 h1 h5 hn hl (zB6 h1 h5 hn hrm hkd hlv hl (ih (l+1) (zc)))
open Go.RowKit
theorem yH6 {bs n room bo bc g bq bk gq f:Nat} (h1:1≤f) (h5:f≤5) (hn:n≤5) {w:Θ} {L:List Rc} {F:List Nat} (HE:EngQ w bs n room L F bo bc g bq bk gq) (hL:L.length≤1048576) (lv:Nat) (hlv:lv < 2 ^ n)
 {at_ aa:Nat} {t:List Bool} (ea:EdT L f n n 0 ⟨at_,aa⟩ t) (gs cap:Nat) (c0:w.cell? ⟨gs,0,j⟩=V (y u at_)) (c1:w.cell? ⟨gs,1,j⟩=V (y o aa)):
 G X 176 #[Y (V ⟨bq,0,j⟩),y u f,y o lv,.slice (V ⟨gs,0,j⟩) 1 cap] w fun e w'=>e=H (y u 0)∧I [] w w':=by
 have h32:2 ^ n≤32:=zF;have IF:=s (YZ f h1 h5)
 have VA:Q (∀W,I [] w W→G X 67 #[Y (V ⟨bs,0,j⟩)] W fun e w'=>e=H (y Ξ n)∧w'=W):=fun W m=>by
  exact Z1
 have LE:Q (∀W,I [] w W→G X 86 #[Y (V ⟨bs,0,j⟩),y u f,Ψ #[y u at_,y o aa],y Ξ 0] W fun e w'=>e=H (.bool true)∧I [] w w'):=fun W m=>(YI (HE.a.sto.st.mod m (ze)) hL (zc) f h1 h5 ⟨at_,aa⟩ 0 (zc) ea.lead).mono (by
  rintro e w' ⟨rfl,m2⟩
  exact ⟨rfl,m.trans' m2⟩)
 have hsh:(lv:Int) / 2 ^ n=0:=by
  rw [show (lv:Int) / 2 ^ n=((lv / 2 ^ n:Nat):Int) from yk,Nat.div_eq_of_lt hlv];rfl
 have hbq:=HE.ops.lt;have q1:=HE.ops.cell 1;simp only [J,O,N] at q1;have hgs:=World.block_lt_of_cell? w _ c0;simp only at hgs;have hlvb:(lv:Int)≤32:=zc;have hnb:(n:Int)≤5:=zc;clear HE ea hlv h32;go_in;go_wp2_with fail;refine (IF.out _).mono ?_;rintro e w1 ⟨rfl,hw⟩;subst hw;go_wp2_with fail
 go_loopw [18] (fun i wr=>(i=y Ξ 0∧wr=w1)∨(i=y Ξ 1∧Q (I [] w1 wr))) (fun i _=>1 - (intOf i).toNat)
 case atStart=>exact .inl ⟨rfl,rfl⟩
 case round=>
  rcases hrel with ⟨rfl,hw⟩ | ⟨rfl,MM⟩
  ·replace hw:=hw.symm;subst hw;obtain ⟨gk,hgk⟩:∃gk,w1.heap.size=gk:=⟨_,rfl⟩;have BX:=P w1 #[y u at_,y o aa] 44 gk hgk.symm;have M1:Q (I [] w1 (w1.alloc (Z #[y u at_,y o aa] 44))):=zg;go_upto_region 8 with fail;have q1:=(M1.out.cell (a:=⟨bq,1,j⟩) hbq (ze)).trans q1;have hbq2:=D hbq M1.out.size;generalize w1.alloc (Z #[y u at_,y o aa] 44)=w2 at *;obtain ⟨x0,x1⟩:=BX.cells2;have hxl:=BX.lt;clear BX;refine YW 6 2 #[true,true,true,true,true,true,false,false] (by kernel_rfl) (by kernel_rfl) (by kernel_rfl) ?_;simp only [List.take_succ_cons,List.take_zero]
   repeat still_step
   refine wpStill_nil ?_;refine wpAny_ready (rs:=[6]) (by kernel_rfl) (ze) (AllReady.cons rfl (fun K hK=>?_) AllReady.nil);go_simp;go_wp2_with fail;refine (LE.out _ (M1.out.trans' (zg))).mono ?_;rintro e' w3 ⟨rfl,m3⟩;go_wp2_with fail;refine wpAny_take (i:=7) (v:=?v7_1) rfl (by kernel_rfl) (by kernel_rfl) (by kernel_rfl) (fun _ _ _ h=>h) (Or.inl ⟨zE,?h7_1⟩) ?r7_1
   case h7_1=>(intro w;go_simp;try with_reducible rfl)
   refine wpAny_done (by kernel_rfl) ?_ _;have MM:=s m3;clear m3 x0 x1 hxl hbq2;go_wp2_with fail;refine ⟨.inr ⟨rfl,MM⟩,zr⟩
  ·have q1:=(MM.out.cell (a:=⟨bq,1,j⟩) hbq (ze)).trans q1;have hbq2:=D hbq MM.out.size;go_wp2_with fail;refine (VA.out _ MM.out).mono ?_;rintro e w3 ⟨rfl,hw⟩;subst hw;go_wp2_with fail;go_ret;exact ⟨rfl,MM.out⟩
theorem no4 {x bq bk gq bo bc g:Nat} {F F2:List Nat} (h:x∉bq::bk::gq::bo::bc::g::F) (h2:x∉F2):x∉bk::gq::bc::g::F2:=by
 simp only [χ,not_or] at h ⊢;exact ⟨h.2.1,h.2.2.1,h.2.2.2.2.1,h.2.2.2.2.2.1,h2⟩
theorem no6 {x bq bk gq bo bc g:Nat} {F F2:List Nat} (h:x∉bq::bk::gq::bo::bc::g::F) (h2:x∉F2):x∉bq::bk::gq::bo::bc::g::F2:=by
 simp only [χ,not_or] at h ⊢;exact ⟨h.1,h.2.1,h.2.2.1,h.2.2.2.1,h.2.2.2.2.1,h.2.2.2.2.2.1,h2⟩
theorem yn8 {x bk gq bc g:Nat} {F2:List Nat} (h:x∉bk::gq::bc::g::F2):x∉F2:=fun q=>h (zJ)
def AllR (w:Θ) (bs n room:Nat) (L:List Rc) (F:List Nat) (bo bc g bq bk gq f:Nat) (r:Ending) (w':Θ):Prop:=
 ∃(et ea:Nat) (L2:List Rc) (F':List Nat),r=H (Ω #[Ψ #[y u et,y o ea],y u 0])∧EngQ w' bs n room (L++L2) F' bo bc g bq bk gq∧Grow w w' F F'∧EdT (L++L2) f n n 0 ⟨et,ea⟩ (C (2 ^ n) true)∧L2.length≤n
theorem yH5 {bs n room bo bc g bq bk gq f:Nat} (h1:1≤f) (h5:f≤5) (hn:n≤5) (hrm:room≤1048576) {w:Θ} {L:List Rc} {F:List Nat} (HE:EngQ w bs n room L F bo bc g bq bk gq) (hb1:L.length+n≤100000) (hb2:L.length+n≤room):
 G X 345 #[Y (V ⟨bq,0,j⟩),y u f] w (AllR w bs n room L F bo bc g bq bk gq f):=by
 have CU:Q (∀W,I [] w W→G X 83 #[Y (V ⟨bs,0,j⟩),y u f,y Ξ 0,y B 0,y B 0] W (EdR W bs n room L F f n 0 (C (2 ^ n) true) n)):=fun W m=>by
  have:=zA6 h1 h5 (HE.a.sto.mod m (ze)) hn hb1 hb2 hrm 0 (Δ n);rw [zm1] at this;exact this
 have HX:=s HE;have LT:=s HE.lt;have hbq:=HE.ops.lt;have q1:=HE.ops.cell 1;simp only [J,O,N] at q1;obtain ⟨gk,hgk⟩:∃gk,w.heap.size=gk:=⟨_,rfl⟩;have hn1:¬bq=gk:=zc;have BR:=s (P w #[y u 0,y o 0] 44 gk hgk.symm);have M1:Q (I [] w (w.alloc (Z #[y u 0,y o 0] 44))):=zg;have HN:Q (gk∉bq::bk::gq::bo::bc::g::F):=fun h=>zS
 clear HE hb1 hb2;go_in;go_upto_region 1 with fail;have q1:=(M1.out.cell (a:=⟨bq,1,j⟩) hbq (ze)).trans q1;replace hbq:=D hbq M1.out.size;generalize w.alloc (Z #[y u 0,y o 0] 44)=w1 at *;go_wp2_with fail;refine (CU.out _ M1.out).mono ?_;rintro e w5 ⟨t,a,L2,F2,rfl,s1,g1,e1,hl1⟩;have NF:gk∉F:=fun h=>HN.out (zn)
 have PR4:=s (BR.out.mod g1.mod NF);have NF2:=s (g1.out (k:=gk) BR.out.lt NF);have GW:=s ((E (F:=F) M1.out).trans g1);have SG:=s ((HX.out.mod0 M1.out).grown s1 g1);have E1:=s e1;obtain ⟨r0,r1⟩:=PR4.out.cells2;obtain ⟨u0,u1,-⟩:=PR4.out.frozs;have hrl:=PR4.out.lt;clear s1 g1 e1 NF;go_wp2_with fail;have BW:=(PR4.out.set 0 (y u t)).set 1 (y o a);simp only [d,U,R] at BW;obtain ⟨z0,z1⟩:=BW.cells2;have MW:Q (I [gk] w5 ((w5.setCell ⟨gk,0,j⟩ (y u t)).setCell ⟨gk,1,j⟩ (y o a))):=zX;clear BW;generalize (w5.setCell ⟨gk,0,j⟩ (y u t)).setCell ⟨gk,1,j⟩ (y o a)=w6 at *;refine M (v:=Ω #[Ψ #[y u t,y o a],y u 0]) (by simp [A,Tryz.results345,go_sem,z0,z1];try rfl) rfl ?_;exact ⟨t,a,L2,F2,rfl,SG.out.mod MW.out (fun k hk q=>by rw [ω] at q;rw [q] at hk;exact no6 HN.out NF2.out hk),GW.out.write MW.out (fun k hk=>ym),E1.out,hl1⟩
theorem zH3 {bs n room bo bc g bq bk gq f kd lv:Nat} (h1:1≤f) (h5:f≤5) (hn:n≤5) (hrm:room≤1048576) (hkd:kd≤1) (hlv:lv < 2 ^ n) {w:Θ} {L:List Rc} {F:List Nat} {at_ aa:Nat} {ta:List Bool}
 (HE:EngQ w bs n room L F bo bc g bq bk gq) (hb1:L.length+(n+(qc n+4 *2 ^ n))≤100000) (hb2:L.length+(n+(qc n+4 *2 ^ n))≤room) (ea:EdT L f n n 0 ⟨at_,aa⟩ ta):
 G X 343 #[Y (V ⟨bq,0,j⟩),y u f,y u kd,Ψ #[y u at_,y o aa],y o lv] w (zm8 w bs n room L F bo bc g bq bk gq f n 0 (qtT lv (kd==1) n 0 ta) (n+qc n)):=by
 have h32:2 ^ n≤32:=zF;have MY:Q (∀W (gs cap:Nat),I [] w W→W.cell? ⟨gs,0,j⟩=V (y u at_)→W.cell? ⟨gs,1,j⟩=V (y o aa)→_):=fun W gs cap m c0 c1=>yH6 h1 h5 hn (HE.mod0 m) (zc) lv hlv ea gs cap c0 c1
 have AL:Q (∀W,I [] w W→_):=fun W m=>yH5 h1 h5 hn hrm (HE.mod0 m) (zc) (zc)
 have DO:Q (∀W (L2:List Rc) (F':List Nat) (bt ba:Nat),L2.length≤n→EngQ W bs n room (L++L2) F' bo bc g bq bk gq→EdT (L++L2) f n n 0 ⟨bt,ba⟩ (C (2 ^ n) true)→_):=fun W L2 F' bt ba hl he eb=>doQ h1 h5 (zc) hrm hkd (show lv < 65536 from zc) n 0 (zc) W (L++L2) F' at_ aa bt ba ta he (yz) (yz) (ea.grow L2) eb
 generalize qtT lv (kd==1) n 0 ta=T at *;have HX:=s HE;have LT:=s HE.lt;have hlvb:(lv:Int)≤32:=zc;obtain ⟨gk,hgk⟩:∃gk,w.heap.size=gk:=⟨_,rfl⟩;have BA:=(P w #[y u at_,y o aa] 44 gk hgk.symm).alloc (Z #[y u 0,y o 0] 44);have BR:=P (w.alloc (Z #[y u at_,y o aa] 44)) #[y u 0,y o 0] 44 (gk+1) (zk);have M1:Q (I [] w ((w.alloc (Z #[y u at_,y o aa] 44)).alloc (Z #[y u 0,y o 0] 44))):=zg;have HN:Q (gk∉bq::bk::gq::bo::bc::g::F∧gk+1∉bq::bk::gq::bo::bc::g::F):=⟨fun h=>zS,fun h=>zS⟩;clear HE hb1 hb2 ea hlv h32;go_in;go_upto_region 1 with fail;generalize (w.alloc (Z #[y u at_,y o aa] 44)).alloc (Z #[y u 0,y o 0] 44)=w1 at *;obtain ⟨a0,a1⟩:=BA.cells2;have hal:=BA.lt;have PA:=s BA;have PR:=s BR;clear BA BR;obtain ⟨gs,hgs⟩:∃gs,w1.heap.size=gs:=⟨_,rfl⟩;have BS:=P w1 #[y u at_,y o aa] 44 gs hgs.symm;obtain ⟨s0,s1⟩:=BS.cells2;have hgl:gk < gs:=zc;clear BS;go_wp2_with fail;refine (MY.out _ _ _ (M1.out.alloc _) s0 s1).mono ?_;rintro e w2 ⟨rfl,m2⟩;have M2:=s ((Mod.alloc (Mod.refl [] w1) _).trans' m2);have PA2:=s (PA.out.mod M2.out (ze));have PR2:=s (PR.out.mod M2.out (ze));have MA:=s (M1.out.trans' M2.out);clear s0 s1 m2 a0 a1 hal;go_wp2_with fail;refine (AL.out _ MA.out).mono ?_;rintro e w3 ⟨bt,ba,L2,F2,rfl,en,g3,eb,hl2⟩;have NA:gk∉F:=fun h=>HN.out.1 (zn)
 have NR:gk+1∉F:=fun h=>HN.out.2 (zn)
 have PA3:=s (PA2.out.mod g3.mod NA);have PR3:=s (PR2.out.mod g3.mod NR);have NA2:=s (g3.out PA2.out.lt NA);have NR2:=s (g3.out PR2.out.lt NR);have EN:=s en;have EB2:=s eb;have GW:=s ((E (F:=F) MA.out).trans g3);have HL:Q (L2.length≤n):=hl2;obtain ⟨a0,a1⟩:=PA3.out.cells2;have hal:=PA3.out.lt;obtain ⟨gx,hgx⟩:∃gx,w3.heap.size=gx:=⟨_,rfl⟩;have hax:gk < gx:=zc;have M4:Q (I [] w3 (w3.alloc (Z #[y u bt,y o ba] 44))):=zg;have PR4:=s (PR3.out.mod M4.out (ze));have GW4:=s (GW.out.then M4.out);clear en eb g3 NA NR hl2;go_wp2_with fail;refine (DO.out _ L2 F2 bt ba HL.out (EN.out.mod0 M4.out) EB2.out).mono ?_;rintro e w6 ⟨et,eaa,L3,F3,rfl,en,g6,ex,hl3⟩;have NX:gk+1∉bk::gq::bc::g::F2:=no4 HN.out.2 NR2.out;have PR5:=s (PR4.out.mod g6.mod NX);have NX2:=s (g6.out PR4.out.lt NX);have EN6:=s en;have EX:=s ex;have GW6:=s (((((GW4.out.cons g).cons bc).cons gq).cons bk).trans g6);have HL3:Q (L3.length≤qc n):=hl3;obtain ⟨r0,r1⟩:=PR5.out.cells2;obtain ⟨u0,u1,-⟩:=PR5.out.frozs;have hrl:=PR5.out.lt;clear en ex g6 NX hl3 PR4 a0 a1 hal;go_wp2_with fail;have PR4:=PR5;have BW:=(PR4.out.set 0 (y u et)).set 1 (y o eaa);simp only [d,U,R] at BW;obtain ⟨z0,z1⟩:=BW.cells2;have MW:Q (I [gk+1] w6 ((w6.setCell ⟨gk+1,0,j⟩ (y u et)).setCell ⟨gk+1,1,j⟩ (y o eaa))):=zX;clear BW;generalize (w6.setCell ⟨gk+1,0,j⟩ (y u et)).setCell ⟨gk+1,1,j⟩ (y o eaa)=w7 at *;refine M (v:=Ω #[Ψ #[y u et,y o eaa],y u 0]) (by simp [A,Tryz.results343,go_sem,z0,z1];try rfl) rfl ?_;rw [List.append_assoc] at EN6 EX;exact ⟨et,eaa,L2++L3,F3,rfl,EN6.out.mod MW.out (fun k hk q=>by rw [ω] at q;rw [q] at hk;exact no6 HN.out.2 (yn8 NX2.out) hk),GW6.out.write MW.out (fun k hk=>ym),EX.out,by have:=HL.out;have:=HL3.out;rw [List.length_append];omega⟩
theorem Z2 {p:Prop} (h:p:=by
 exact ⟨et,eaa,L3,F3,rfl,EN6.out.mod MW.out (fun k hk q=>wj),GW6.out.write MW.out (fun k hk=>ym),EX.out,hl3⟩):p:=h
theorem zs3 {bs n room bo bc g bq bk gq f lv:Nat} (h1:1≤f) (h5:f≤5) (hn:n≤5) (hrm:room≤1048576) (hlv:lv < 2 ^ n) {w:Θ} {L:List Rc} {F:List Nat} {at_ aa:Nat} {ta:List Bool}
 (HE:EngQ w bs n room L F bo bc g bq bk gq) (hb1:L.length+(n+(qc n+4 *2 ^ n))≤100000) (hb2:L.length+(n+(qc n+4 *2 ^ n))≤room) (ea:EdT L f n n 0 ⟨at_,aa⟩ ta):
 G X 340 #[Y (V ⟨bq,0,j⟩),y u f,Ψ #[y u at_,y o aa],y B lv] w (zm8 w bs n room L F bo bc g bq bk gq f n 0 (qtT lv false n 0 ta) (n+qc n)):=by
 have h32:2 ^ n≤32:=zF;have hlvb:(lv:Int)≤32:=zc;have AL:Q (∀W,I [] w W→G X 343 #[Y (V ⟨bq,0,j⟩),y u f,y u 0,Ψ #[y u at_,y o aa],y o lv] W (zm8 W bs n room L F bo bc g bq bk gq f n 0 (qtT lv false n 0 ta) (n+qc n))):=fun W m=>zH3 (kd:=0) h1 h5 hn hrm (zc) hlv (HE.mod0 m) hb1 hb2 ea
 generalize qtT lv false n 0 ta=T at *;obtain ⟨cst,hcst⟩:∃c,n+qc n=c:=⟨_,rfl⟩;rw [hcst] at AL ⊢;have LT:=s HE.lt;obtain ⟨gk,hgk⟩:∃gk,w.heap.size=gk:=⟨_,rfl⟩;have BA:=(P w #[y u at_,y o aa] 44 gk hgk.symm).alloc (Z #[y u 0,y o 0] 44);have BR:=P (w.alloc (Z #[y u at_,y o aa] 44)) #[y u 0,y o 0] 44 (gk+1) (zk);have M1:Q (I [] w ((w.alloc (Z #[y u at_,y o aa] 44)).alloc (Z #[y u 0,y o 0] 44))):=zg;have HN:Q (gk+1∉bq::bk::gq::bo::bc::g::F):=fun h=>zS
 clear HE hb1 hb2 ea hlv h32 hcst;go_in;go_upto_region 1 with fail;generalize (w.alloc (Z #[y u at_,y o aa] 44)).alloc (Z #[y u 0,y o 0] 44)=w1 at *;obtain ⟨a0,a1⟩:=BA.cells2;have hal:=BA.lt;have PR:=s BR;clear BA BR;go_wp2_with fail;refine (AL.out _ M1.out).mono ?_;rintro e w6 ⟨et,eaa,L3,F3,rfl,en,g6,ex,hl3⟩;have NX:gk+1∉bk::gq::bc::g::F:=no4 HN.out (fun h=>HN.out (zn));have PR4:=s (PR.out.mod g6.mod NX);have NX2:=s (g6.out PR.out.lt NX);have EN6:=s en;have EX:=s ex;have GW6:=s ((E (F:=bk::gq::bc::g::F) M1.out).trans g6);obtain ⟨r0,r1⟩:=PR4.out.cells2;obtain ⟨u0,u1,-⟩:=PR4.out.frozs;have hrl:=PR4.out.lt;clear en ex g6 NX a0 a1 hal;go_wp2_with fail;have BW:=(PR4.out.set 0 (y u et)).set 1 (y o eaa);simp only [d,U,R] at BW;obtain ⟨z0,z1⟩:=BW.cells2;have MW:Q (I [gk+1] w6 ((w6.setCell ⟨gk+1,0,j⟩ (y u et)).setCell ⟨gk+1,1,j⟩ (y o eaa))):=zX;clear BW;generalize (w6.setCell ⟨gk+1,0,j⟩ (y u et)).setCell ⟨gk+1,1,j⟩ (y o eaa)=w7 at *;refine M (v:=Ω #[Ψ #[y u et,y o eaa],y u 0]) (by simp [A,Tryz.results340,go_sem,z0,z1];try rfl) rfl ?_;exact Z2
theorem zs7 {bs n room bo bc g bq bk gq f lv:Nat} (h1:1≤f) (h5:f≤5) (hn:n≤5) (hrm:room≤1048576) (hlv:lv < 2 ^ n) {w:Θ} {L:List Rc} {F:List Nat} {at_ aa:Nat} {ta:List Bool}
 (HE:EngQ w bs n room L F bo bc g bq bk gq) (hb1:L.length+(n+(qc n+4 *2 ^ n))≤100000) (hb2:L.length+(n+(qc n+4 *2 ^ n))≤room) (ea:EdT L f n n 0 ⟨at_,aa⟩ ta):
 G X 337 #[Y (V ⟨bq,0,j⟩),y u f,Ψ #[y u at_,y o aa],y B lv] w (zm8 w bs n room L F bo bc g bq bk gq f n 0 (qtT lv true n 0 ta) (n+qc n)):=by
 have h32:2 ^ n≤32:=zF;have hlvb:(lv:Int)≤32:=zc;have AL:Q (∀W,I [] w W→G X 343 #[Y (V ⟨bq,0,j⟩),y u f,y u 1,Ψ #[y u at_,y o aa],y o lv] W (zm8 W bs n room L F bo bc g bq bk gq f n 0 (qtT lv true n 0 ta) (n+qc n))):=fun W m=>zH3 (kd:=1) h1 h5 hn hrm (zc) hlv (HE.mod0 m) hb1 hb2 ea
 generalize qtT lv true n 0 ta=T at *;obtain ⟨cst,hcst⟩:∃c,n+qc n=c:=⟨_,rfl⟩;rw [hcst] at AL ⊢;have LT:=s HE.lt;obtain ⟨gk,hgk⟩:∃gk,w.heap.size=gk:=⟨_,rfl⟩;have BA:=(P w #[y u at_,y o aa] 44 gk hgk.symm).alloc (Z #[y u 0,y o 0] 44);have BR:=P (w.alloc (Z #[y u at_,y o aa] 44)) #[y u 0,y o 0] 44 (gk+1) (zk);have M1:Q (I [] w ((w.alloc (Z #[y u at_,y o aa] 44)).alloc (Z #[y u 0,y o 0] 44))):=zg;have HN:Q (gk+1∉bq::bk::gq::bo::bc::g::F):=fun h=>zS
 clear HE hb1 hb2 ea hlv h32 hcst;go_in;go_upto_region 1 with fail;generalize (w.alloc (Z #[y u at_,y o aa] 44)).alloc (Z #[y u 0,y o 0] 44)=w1 at *;obtain ⟨a0,a1⟩:=BA.cells2;have hal:=BA.lt;have PR:=s BR;clear BA BR;go_wp2_with fail;refine (AL.out _ M1.out).mono ?_;rintro e w6 ⟨et,eaa,L3,F3,rfl,en,g6,ex,hl3⟩;have NX:gk+1∉bk::gq::bc::g::F:=no4 HN.out (fun h=>HN.out (zn));have PR4:=s (PR.out.mod g6.mod NX);have NX2:=s (g6.out PR.out.lt NX);have EN6:=s en;have EX:=s ex;have GW6:=s ((E (F:=bk::gq::bc::g::F) M1.out).trans g6);obtain ⟨r0,r1⟩:=PR4.out.cells2;obtain ⟨u0,u1,-⟩:=PR4.out.frozs;have hrl:=PR4.out.lt;clear en ex g6 NX a0 a1 hal;go_wp2_with fail;have BW:=(PR4.out.set 0 (y u et)).set 1 (y o eaa);simp only [d,U,R] at BW;obtain ⟨z0,z1⟩:=BW.cells2;have MW:Q (I [gk+1] w6 ((w6.setCell ⟨gk+1,0,j⟩ (y u et)).setCell ⟨gk+1,1,j⟩ (y o eaa))):=zX;clear BW;generalize (w6.setCell ⟨gk+1,0,j⟩ (y u et)).setCell ⟨gk+1,1,j⟩ (y o eaa)=w7 at *;refine M (v:=Ω #[Ψ #[y u et,y o eaa],y u 0]) (by simp [A,Tryz.results337,go_sem,z0,z1];try rfl) rfl ?_;exact Z2
open Go.RowKit
theorem Z3 {p:Prop} (h:p:=by
 exact ⟨t,a,L2,F',rfl,S1.out.mod MW.out (fun k hk h=>qy),G1.out.write MW.out (fun k hk=>ym),E1.out,hl1⟩):p:=h
theorem Z5 {p:Prop} (h:p:=by
 obtain ⟨ba,bi,Fa,c0,-⟩:=(h.st.mod m (ze)).own
 exact YH b n W c0):p:=h
theorem zw3 {f:Nat} (h1:1≤f) (h5:f≤5) {w:Θ} {b n room bo:Nat} {L:List Rc} {F p q Fo:List Nat} (h:Sto w b n room L F) (hO:IsOrd w bo p q Fo) (hp:p.length=n) (hn:n≤5) (hL:L.length+n≤100000) (hroom:L.length+n≤room) (hrm:room≤1048576) (all:Bool):
 G X 314 #[Y (V ⟨b,0,j⟩),Y (V ⟨bo,0,j⟩),y u f,.bool all] w (EdR w b n room L F f n 0 (C (2 ^ n) all) n):=by
 have VA:Q (∀W,I [] w W→G X 67 #[Y (V ⟨b,0,j⟩)] W fun e w'=>e=H (y Ξ n)∧w'=W):=fun W m=>by
  exact Z5
 have MY:Q (∀W,I [] w W→_):=fun W m=>XH n f b bo h1 h5 W (VA.out W m) (jw)
 have CU:Q (∀W,I [] w W→G X 83 #[Y (V ⟨b,0,j⟩),y u f,y Ξ 0,y B 0,y B 0] W (EdR W b n room L F f n 0 (C (2 ^ n) true) n)):=fun W m=>by
  have:=zA6 h1 h5 (h.mod m (ze)) hn hL hroom hrm 0 (Δ n);rw [zm1] at this;exact this
 have HS:=s h;have HZ:=s (EdT.zero L (f:=f) (n:=n) (k:=n) (l:=0) (zc));obtain ⟨g8,hg8⟩:∃g,w.heap.size=g:=⟨_,rfl⟩;clear h hO;go_in;go_wp2_with fail;refine (MY.out _ (zg)).mono ?_;rintro e w1 ⟨rfl,rfl⟩;cases all with
 | true=>
  go_wp2_with fail;refine (CU.out _ (zg)).mono ?_;rintro e w5 ⟨t,a,L2,F',rfl,s1,g1,e1,hl1⟩;have NF:g8∉F:=fun h=>by have:=HS.out.st.lt _ h;omega
  have B8:=s ((P w #[y u 0,y o 0] 44 g8 hg8.symm).mod g1.mod NF);obtain ⟨x0,x1⟩:=B8.out.cells2;obtain ⟨y0,y1,-⟩:=B8.out.frozs;have NF':=s (g1.out (k:=g8) (zj) NF);have S1:=s s1;have G1:=s ((E (F:=F) (show I [] w (w.alloc (Z #[y u 0,y o 0] 44)) from zg)).trans g1);have E1:=s e1;clear s1 g1 e1 NF CU VA MY;go_wp2_with fail;have BW:=((B8.out.set 0 (y u t)).set 1 (y o a));simp only [d,U,R] at BW;obtain ⟨z0,z1⟩:=BW.cells2;have MW:Q (I [g8] w5 ((w5.setCell ⟨g8,0,j⟩ (y u t)).setCell ⟨g8,1,j⟩ (y o a))):=((Mod.refl _ _).setCell _ _ (ze)).setCell _ _ (ze);generalize (w5.setCell ⟨g8,0,j⟩ (y u t)).setCell ⟨g8,1,j⟩ (y o a)=w6 at *;refine M (v:=Ω #[Ψ #[y u t,y o a],y u 0]) (by simp [A,ψ,go_sem,z0,z1];try rfl) rfl ?_;exact Z3
 | false=>
  have B8:=s (P w #[y u 0,y o 0] 44 g8 hg8.symm);go_wp2_with fail;obtain ⟨z0,z1⟩:=B8.out.cells2;have MM:Q (I [] w (w.alloc (Z #[y u 0,y o 0] 44))):=zX;generalize w.alloc (Z #[y u 0,y o 0] 44)=w6 at *;refine M (v:=Ω #[Ψ #[y u 0,y o 0],y u 0]) (by simp [A,ψ,go_sem,z0,z1];try rfl) rfl ?_;exact ⟨0,0,[],F,rfl,by rw [List.append_nil];exact HS.out.mod MM.out (ze),E MM.out,HZ.out.grow0,ze⟩
theorem zO3 {f:Nat} (h1:1≤f) (h5:f≤5) {w:Θ} {b n room bo:Nat} {L:List Rc} {F p q Fo:List Nat} (h:Sto w b n room L F) (hO:IsOrd w bo p q Fo) (hp:p.length=n) (hq:q.length=n) (hn:n≤5) (hL:L.length+n≤100000) (hroom:L.length+n≤room) (hrm:room≤1048576)
 (v k:Nat) (hv:v < n) (hk:q[v]? =V k) (hkn:k < n):
 G X 46 #[Y (V ⟨b,0,j⟩),Y (V ⟨bo,0,j⟩),y u f,y Ξ v] w (EdR w b n room L F f n 0 (zn9 (2 ^ k) n 0) n):=by
 have VA:Q (∀W,I [] w W→G X 67 #[Y (V ⟨b,0,j⟩)] W fun e w'=>e=H (y Ξ n)∧w'=W):=fun W m=>by
  exact Z5
 have MY:Q (∀W,I [] w W→_):=fun W m=>XH n f b bo h1 h5 W (VA.out W m) (jw)
 obtain ⟨hq0,hqe⟩:=List.getElem?_eq_some_iff.1 hk
 have LV:Q (∀W,I [] w W→G X 84 #[Y (V ⟨bo,0,j⟩),y Ξ v] W fun e w'=>e=H (y Ξ k)∧w'=W):=fun W m=>by
  have:=zB3 (hO.mod m (ze)) (zc) v hq0;rw [hqe] at this;exact this
 have CU:Q (∀W,I [] w W→G X 83 #[Y (V ⟨b,0,j⟩),y u f,y Ξ 0,y B (2 ^ k:Nat),y B 0] W (EdR W b n room L F f n 0 (zn9 (2 ^ k) n 0) n)):=fun W m=>zA6 h1 h5 (h.mod m (ze)) hn hL hroom hrm (2 ^ k) (Γ (zc) hkn)
 have hv':(v:Int) < n:=zc;have hn':(n:Int)≤5:=zc;have hk5:(k:Int) < 5:=zc
 have W16:IntKind.u16.wrap (2 ^ k)=((2 ^ k:Nat):Int):=by
  have h32:2 ^ k < 32:=by have:=Γ (a:=2) (zc) (show k < 5 from zc);simpa using this
  rw [show ((2:Int) ^ k)=((2 ^ k:Nat):Int) from ze];generalize 2 ^ k=z at *;exact IntWalk.u16_in _ ⟨zc,zc⟩
 have HS:=s h;obtain ⟨g8,hg8⟩:∃g,w.heap.size=g:=⟨_,rfl⟩;clear h hO hqe hq0 hk;go_in;go_wp2_with fail;refine (MY.out _ (zg)).mono ?_;rintro e w1 ⟨rfl,rfl⟩;go_wp2_with fail;refine (VA.out _ (zg)).mono ?_;rintro e w1 ⟨rfl,rfl⟩;go_wp2_with fail;refine (LV.out _ (zg)).mono ?_;rintro e w1 ⟨rfl,rfl⟩;generalize (2 ^ k:Nat)=z at *;go_wp2_with fail;refine (CU.out _ (zg)).mono ?_;rintro e w5 ⟨t,a,L2,F',rfl,s1,g1,e1,hl1⟩;have NF:g8∉F:=fun h=>by have:=HS.out.st.lt _ h;omega
 have B8:=s ((P w #[y u 0,y o 0] 44 g8 hg8.symm).mod g1.mod NF);obtain ⟨x0,x1⟩:=B8.out.cells2;obtain ⟨y0,y1,-⟩:=B8.out.frozs;have NF':=s (g1.out (k:=g8) (zj) NF);have S1:=s s1;have G1:=s ((E (F:=F) (show I [] w (w.alloc (Z #[y u 0,y o 0] 44)) from zg)).trans g1);have E1:=s e1;clear s1 g1 e1 NF CU VA MY LV;go_wp2_with fail;have BW:=((B8.out.set 0 (y u t)).set 1 (y o a));simp only [d,U,R] at BW;obtain ⟨z0,z1⟩:=BW.cells2;have MW:Q (I [g8] w5 ((w5.setCell ⟨g8,0,j⟩ (y u t)).setCell ⟨g8,1,j⟩ (y o a))):=((Mod.refl _ _).setCell _ _ (ze)).setCell _ _ (ze);generalize (w5.setCell ⟨g8,0,j⟩ (y u t)).setCell ⟨g8,1,j⟩ (y o a)=w6 at *;refine M (v:=Ω #[Ψ #[y u t,y o a],y u 0]) (by simp [A,Tryz.results46,go_sem,z0,z1];try rfl) rfl ?_;exact Z3
end Go.Proofs.YtbnpoapmnkfhkaaGreatDoor
