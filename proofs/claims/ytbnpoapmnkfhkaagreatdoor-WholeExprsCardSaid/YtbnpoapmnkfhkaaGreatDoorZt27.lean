import Derived.Test.YtbnpoapmnkfhkaaGreatDoorZt26
import Derived.Deep.RegionHeld3
import Derived.Test.YtbnpoapmnkfhkaaGreatDoorZt25
import Derived.BigQuiet
set_option maxRecDepth 100000
set_option maxHeartbeats 4000000
set_option linter.unusedVariables false
set_option linter.unusedSimpArgs false
namespace Go.Proofs.YtbnpoapmnkfhkaaGreatDoor
open Go.Value renaming int → u, pointer → M, agg → Ω, tuple → ν, bool → γ, slice → Qa
open Option renaming none → s, some → U
open Go.IntKind renaming u8 → Z, u32 → Y, i64 → D, u16 → φ, u64 → β
open Go.Lib renaming hid → Q
open Go.Obj renaming cells → O
open Go.Proofs.Tryz renaming prog → N, results297 → η, results349 → δ
open Go.Proofs.YtbnpoapmnkfhkaaGreatDoor renaming zc → K, Mod → Ψ
open Nat renaming lt_of_lt_of_le → J, reduceDiv → Δ, mod_eq_of_lt → ι, lt_of_le_of_lt → ζ, two_pow_pos → ε
open Bool renaming false_eq_true → I
open List renaming mem_cons_of_mem → H, setIfInBounds_toArray → G, getElem?_cons_zero → A, set_cons_zero → Φ, set_cons_succ → Ξ, getElem?_toArray → Θ, getElem?_cons_succ → ω, replicate → χ
open Go.Proofs.YtbnpoapmnkfhkaaGreatDoor.Blk renaming new' → E
open BitVec renaming ofInt → C, toNat_ofNat → ρ, ofInt_natCast → π, ofNat → θ
open Go.RowKit renaming Hid → B
open Go.Ending renaming returned → Γ
open Go renaming bodyPost_ret → ψ, World → τ, Calls → σ, Value → μ, results → κ
open Go.IntWalk renaming i64_in → ξ
open Go.RowKit
theorem SpA.got {w0 w W w':τ} {bs n room:Nat} {F0:List Nat} {bo bc g:Nat} {L:List Rc} {F:List Nat} (h:SpA w0 w bs n room F0 bo bc g L F) (m0:Ψ [] w W) (c:CHead 153 w' bc g 256) (m:Ψ [bc] W w'):SpA w0 w' bs n room F0 bo bc g L F∧Ψ [bc] w w':=
 ⟨⟨(h.eng.mod0 m0).got c m,h.gr.trans (Grow.of_mods ((m0.mono (ze)).trans' m) (ze))⟩,(m0.mono (ze)).trans' m⟩
theorem SpA.putt {w0 w W w':τ} {bs n room:Nat} {F0:List Nat} {bo bc g:Nat} {L:List Rc} {F:List Nat} (h:SpA w0 w bs n room F0 bo bc g L F) (m0:Ψ [] w W) (c:TabP 390 12 w' g 256 (EnA (VA L n))) (m:Ψ [g] W w'):SpA w0 w' bs n room F0 bo bc g L F∧Ψ [g] w w':=
 ⟨⟨(h.eng.mod0 m0).putt c m,h.gr.trans (Grow.of_mods ((m0.mono (ze)).trans' m) (ze))⟩,(m0.mono (ze)).trans' m⟩
theorem ZT {p:Prop} (h:p:=by
 obtain ⟨ba,bi,Fa,c0,-⟩:=(HE.sto.st.mod m (ze)).own
 exact YH bs n W c0):p:=h
theorem yt1 {bs n room bo bc g f op k l:Nat} (h1:1≤f) (h5:f≤5) (hn:n≤16) (hop:op < 256) (hlk:l+(k+1)=n) (ih:SplA bs n room bo bc g f op (k+1) l):DoA bs n room bo bc g f op (k+1) l:=by
 intro w L F at_ aa bt ba ct ca ta tb tc HE hb1 hb2 ea eb ec
 have VA0:B (∀W,Ψ [] w W→σ N 67 #[M (U ⟨bs,0,s⟩)] W fun e w'=>e=Γ (u D n)∧w'=W):=fun W m=>by
  exact ZT
 have EZ:B (zl6 op aa ba ca=true→EdT L f n (k+1) l ⟨0,0⟩ (zc6 op ta tb tc)):=fun h=>zo8 h1 h5 ea eb ec h
 have VT:B (∀vt va:Nat,VA L n ⟨f,op,l,⟨at_,aa⟩,⟨bt,ba⟩,⟨ct,ca⟩⟩ ⟨vt,va⟩→EdT L f n (k+1) l ⟨vt,va⟩ (zc6 op ta tb tc)):=fun vt va h=>h.told ea eb ec
 have VP:B (∀(L2:List Rc) (vt va:Nat),EdT (L++L2) f n (k+1) l ⟨vt,va⟩ (zc6 op ta tb tc)→EnA (VA (L++L2) n) [u Z f,u Z op,u Z l,u Z at_,u Y aa,u Z bt,u Y ba,u Z ct,u Y ca,u Z vt,u Y va,u D 1]):=fun L2 vt va h=>⟨⟨f,op,l,⟨at_,aa⟩,⟨bt,ba⟩,⟨ct,ca⟩⟩,⟨vt,va⟩,1,rfl,.inr ⟨rfl,_,ta,tb,tc,h1,h5,ea.grow L2,eb.grow L2,ec.grow L2,h⟩⟩
 have SPL:B (∀W,EngA W bs n room L F bo bc g→σ N 300 #[M (U ⟨bo,0,s⟩),Ω #[u Z f,u Z op,u Z l,u Z at_,u Y aa,u Z bt,u Y ba,u Z ct,u Y ca]] W (DoR W bs n room L F bo bc g f (k+1) l (zc6 op ta tb tc) (4 *(2 ^ (k+1) - 1)))):=fun W h=>ih W L F at_ aa bt ba ct ca ta tb tc h hb1 hb2 ea eb ec
 have OB:=yK4 op hop;have hlb:(l:Int)≤16:=K;have hne:¬(l:Int)=n:=K;have hnb:((l:Int)==(n:Int))=false:=vQ;have WN:IntKind.i64.wrap (l:Int)=l:=ξ _ (K);generalize zc6 op ta tb tc=T at *;clear ea eb ec hb1 hb2 ih;obtain ⟨cst,hcst⟩:∃c,4 *(2 ^ (k+1) - 1)=c:=⟨_,rfl⟩;rw [hcst] at SPL ⊢;clear hcst;obtain ⟨gj,hgj⟩:∃gj,w.heap.size=gj:=⟨_,rfl⟩;have LT:=Q HE.lt;have BJ1:=(E w #[u Z f,u Z op,u Z l,u Z at_,u Y aa,u Z bt,u Y ba,u Z ct,u Y ca] 71 gj hgj.symm).alloc (O #[u Z 0,u Y 0] 44);have BR1:=E (w.alloc (O #[u Z f,u Z op,u Z l,u Z at_,u Y aa,u Z bt,u Y ba,u Z ct,u Y ca] 71)) #[u Z 0,u Y 0] 44 (gj+1) (yB);have M1:B (Ψ [] w ((w.alloc (O #[u Z f,u Z op,u Z l,u Z at_,u Y aa,u Z bt,u Y ba,u Z ct,u Y ca] 71)).alloc (O #[u Z 0,u Y 0] 44))):=zg;have hbol:=HE.ops.lt;have q0:=HE.ops.cell 0;have q9:=HE.ops.cell 1;simp only [Θ,A,ω] at q0 q9;have SP:B (SpA w ((w.alloc (O #[u Z f,u Z op,u Z l,u Z at_,u Y aa,u Z bt,u Y ba,u Z ct,u Y ca] 71)).alloc (O #[u Z 0,u Y 0] 44)) bs n room F bo bc g L F):=⟨HE.mod0 M1.out,Grow.of_mod M1.out⟩;clear HE;go_in;go_upto_region 1 with fail;have q0:=(M1.out.cell (a:=⟨bo,0,s⟩) hbol (ze)).trans q0;have q9:=(M1.out.cell (a:=⟨bo,1,s⟩) hbol (ze)).trans q9;have nA:¬bo=gj:=K;have nB:¬gj=bo:=K;have nC:¬bo=gj+1:=K;have nD:¬gj+1=bo:=K
 have NBC:B (¬bc=gj∧¬bc=gj+1∧¬g=gj∧¬g=gj+1∧gj∉bo::bc::g::F∧gj+1∉bo::bc::g::F):=by
  have l1:=LT.out bc (ze);have l2:=LT.out g (ze);exact ⟨K,K,K,K,fun h=>zS,fun h=>zS⟩
 replace hbol:=J hbol M1.out.size;generalize (w.alloc (O #[u Z f,u Z op,u Z l,u Z at_,u Y aa,u Z bt,u Y ba,u Z ct,u Y ca] 71)).alloc (O #[u Z 0,u Y 0] 44)=w1 at *;obtain ⟨j0,j1,j2,j3,j4,j5,j6,j7,j8⟩:=cells9 BJ1;obtain ⟨r0,r1⟩:=BR1.cells2;obtain ⟨u0,u1,-⟩:=BR1.frozs;have hjl:=BJ1.lt;have hrl:=BR1.lt;have PJ:B (Prv w w1 (bo::bc::g::F) gj #[u Z f,u Z op,u Z l,u Z at_,u Y aa,u Z bt,u Y ba,u Z ct,u Y ca] 71):=⟨BJ1,NBC.out.2.2.2.2.1,K⟩;have PR:B (Prv w w1 (bo::bc::g::F) (gj+1) #[u Z 0,u Y 0] 44):=⟨BR1,NBC.out.2.2.2.2.2,K⟩;clear BJ1;go_cut [31] from 10 to 31 (fun p wx=>p=γ (zl6 op aa ba ca)∧wx=w1)
 case first=>
  clear BR1;cases hb0:op.testBit 0<;>rw [hb0] at OB<;>simp only [if_true,if_false,I] at OB<;>cases hb1:((aa:Int)==0)<;>cases hb2:((ba:Int)==0)<;>cases hb3:((ca:Int)==0)<;>(go_wp2_with fail;go_meet;simp [zl6,hb0,hb1,hb2,hb3])
 case rest=>
  obtain ⟨rfl,hw⟩:=hcut;replace hw:=hw.symm;subst hw;cases he:zl6 op aa ba ca with
  | true=>
   go_wp2_with fail;have BW:=(BR1.set 0 (u Z 0)).set 1 (u Y 0);simp only [G,Φ,Ξ] at BW;obtain ⟨z0,z1⟩:=BW.cells2;have SW:=Q (SP.out.write (S:=[gj+1]) (w':=(w1.setCell ⟨gj+1,0,s⟩ (u Z 0)).setCell ⟨gj+1,1,s⟩ (u Y 0)) (zg) (xH) (vR));clear BW;generalize (w1.setCell ⟨gj+1,0,s⟩ (u Z 0)).setCell ⟨gj+1,1,s⟩ (u Y 0)=w3 at *;refine ψ (v:=ν #[Ω #[u Z 0,u Y 0],u Z 0]) (by simp [κ,η,go_sem,z0,z1];try rfl) rfl ?_;exact ⟨0,0,[],F,rfl,xe,SW.out.gr,(EZ.out he).grow0,ze⟩
  | false=>
   clear BR1;go_wp2_with fail;have VB:B (∀W,Ψ [] w1 W→σ N 67 #[M (U ⟨bs,0,s⟩)] W fun e w'=>e=Γ (u D n)∧w'=W):=fun W m=>VA0.out W (M1.out.trans' m)
   go_region_held3 (fun w'=>w'.cell? ⟨bo,0,s⟩=U (M (U ⟨bs,0,s⟩))∧w'.cell? ⟨gj,2,s⟩=U (u Z l)) (go_keep) (first | (go_at_call 67;refine (VB.out _ (zy)).mono ?_;rintro e' w2 ⟨rfl,rfl⟩))
   go_wp2_with fail;obtain ⟨gs,hgs⟩:∃gs,w1.heap.size=gs:=⟨_,rfl⟩;have nE:¬gj=gs:=K;have nF:¬bo=gs:=K;have nG:¬gs=gj:=K;have nH:¬gs=bo:=K;have bcs:bc < gs:=by have:=SP.out.eng.head.lt;omega
   have GET:B (∀W,Ψ [] w1 W→_):=fun W m=>yG1 f op l at_ aa bt ba ct ca bc g 8 256 (K) rfl (SP.out.eng.head.mod m (ze)) (SP.out.eng.tab.mod m (ze)) SP.out.eng.ap.2.2
   go_cut [6,7] from 68 to 75 (fun p q wx=>∃(ge vt va:Nat) (ok:Bool),p=M (U ⟨ge,0,s⟩)∧q=γ ok∧gj+1 < ge∧B (ok=true→VA L n ⟨f,op,l,⟨at_,aa⟩,⟨bt,ba⟩,⟨ct,ca⟩⟩ ⟨vt,va⟩)∧B (SpA w wx bs n room F bo bc g L F)∧B (Prv w wx (bo::bc::g::F) gj #[u Z f,u Z op,u Z l,u Z at_,u Y aa,u Z bt,u Y ba,u Z ct,u Y ca] 71)∧B (Prv w wx (bo::bc::g::F) (gj+1) #[u Z 0,u Y 0] 44)∧B (Prv w wx (bo::bc::g::F) ge #[u Z vt,u Y va] 44))
   case first=>
    go_region_held3 (fun w'=>w'.cell? ⟨bo,1,s⟩=U (M (U ⟨bc,0,s⟩))∧w'.cell? ⟨gj,0,s⟩=U (u Z f)∧w'.cell? ⟨gj,1,s⟩=U (u Z op)∧w'.cell? ⟨gj,2,s⟩=U (u Z l)∧w'.cell? ⟨gj,3,s⟩=U (u Z at_)∧w'.cell? ⟨gj,4,s⟩=U (u Y aa)∧w'.cell? ⟨gj,5,s⟩=U (u Z bt)∧w'.cell? ⟨gj,6,s⟩=U (u Y ba)∧w'.cell? ⟨gj,7,s⟩=U (u Z ct)∧w'.cell? ⟨gj,8,s⟩=U (u Y ca)) (go_keep) (first | (go_at_call 299;refine (GET.out _ (zg)).mono ?_;rintro e' w2 ⟨vt,va,ok,rfl,hv,ch,m2⟩;have SG:=SP.out.got (show Ψ [] w1 _ from zg) ch m2;have q9:=(SG.2.cell (a:=⟨bo,1,s⟩) hbol (by simpa using SP.out.eng.ap.1)).trans q9;have bj2:=PJ.out.blk.mod SG.2 (qI);obtain ⟨j0,j1,j2,j3,j4,j5,j6,j7,j8⟩:=cells9 bj2;have hjl:=bj2.lt;have hbol:=J hbol SG.2.size;have hB:=fun c ty (h:Blk _ gs c ty)=>h.mod m2 (zj);first | (have zb:=hB _ _ ((E _ _ _ gs hgs.symm).drew);have z0:=zb.cell 0;have z1:=zb.cell 1;simp only [Θ,A,ω] at z0 z1;have zf:=zb.froz;have zl:=zb.lt) | skip))
    all_goals (go_wp2_with fail;go_meet)
    all_goals
     have LN:=SG.1.eng.lt;have nbj:gj∉[bc]:=qI;have nbr:gj+1∉[bc]:=vS;have ngs:gs∉bo::bc::g::F:=fun h=>by have:=SP.out.eng.lt _ h;omega
     have hs2:=SG.2.size
     first
      | exact ⟨w2.heap.size,vt,va,ok,rfl,rfl,K,hv,SG.1.write (S:=[]) (zg) (ze) (ze),(PJ.out.mod SG.2 nbj).mod (S:=[]) (zg) (ze),(PR.out.mod SG.2 nbr).mod (S:=[]) (zg) (ze),⟨E _ _ _ _ rfl,fun h=>by have:=LN _ h;omega,K⟩⟩
      | exact ⟨gs,vt,va,ok,rfl,rfl,K,hv,SG.1.write (S:=[gs]) (zg) (xH) (vU),(PJ.out.mod SG.2 nbj).mod (S:=[gs]) (zg) (by simpa using nE),(PR.out.mod SG.2 nbr).mod (S:=[gs]) (zg) (zj),⟨Blk.eq ((zb.set 0 (u Z vt)).set 1 (u Y va)) (ze),ngs,K⟩⟩
   case rest=>
    obtain ⟨ge,vt,va,ok,rfl,rfl,hge,HV,SQ,PJ2,PR2,PE⟩:=hcut;clear SP PJ PR j0 j1 j2 j3 j4 j5 j6 j7 j8 q0 q9 r0 r1 u0 u1 hjl hrl hbol GET nE nF nG nH bcs hgs OB;generalize wc=wq at *;have hn1:¬gj+1=ge:=K;have hn2:¬ge=gj+1:=K;cases ok with
    | true=>
     obtain ⟨e0,e1⟩:=PE.out.blk.cells2;obtain ⟨r0,r1⟩:=PR2.out.blk.cells2;obtain ⟨u0,u1,-⟩:=PR2.out.blk.frozs;have hrl:=PR2.out.blk.lt;have hel:=PE.out.blk.lt;go_wp2_with fail;have BW:=(PR2.out.blk.set 0 (u Z vt)).set 1 (u Y va);simp only [G,Φ,Ξ] at BW;obtain ⟨z0,z1⟩:=BW.cells2;have SW:=Q (SQ.out.write (S:=[gj+1]) (w':=(wq.setCell ⟨gj+1,0,s⟩ (u Z vt)).setCell ⟨gj+1,1,s⟩ (u Y va)) (zg) (xH) (vR));clear BW;generalize (wq.setCell ⟨gj+1,0,s⟩ (u Z vt)).setCell ⟨gj+1,1,s⟩ (u Y va)=w3 at *;refine ψ (v:=ν #[Ω #[u Z vt,u Y va],u Z 0]) (by simp [κ,η,go_sem,z0,z1];try rfl) rfl ?_;exact ⟨vt,va,[],F,rfl,xe,SW.out.gr,(VT.out vt va (HV.out (zp))).grow0,ze⟩
    | false=>
     obtain ⟨j0,j1,j2,j3,j4,j5,j6,j7,j8⟩:=cells9 PJ2.out.blk;have hjl:=PJ2.out.blk.lt;go_wp2_with fail;refine (SPL.out _ (SQ.out.eng.mod0 (zg))).mono ?_;rintro e wd ⟨xt,xa,L2,F2,rfl,en,gd,ex,hl2⟩;have EX:=Q ex;have SPn:=Q (SQ.out.did en gd);have PJn:=Q (PJ2.out.call gd);have PRn:=Q (PR2.out.call gd);clear j0 j1 j2 j3 j4 j5 j6 j7 j8 hjl en gd ex SQ PJ2 PR2 PE HV;obtain ⟨gx,hgx⟩:∃gx,wd.heap.size=gx:=⟨_,rfl⟩;have Mx:B (Ψ [] wd (wd.alloc (O #[u Z xt,u Y xa] 44))):=zg;have LTn:=Q SPn.out.eng.lt;have PX:B (Prv w (wd.alloc (O #[u Z xt,u Y xa] 44)) (bo::bc::g::F2) gx #[u Z xt,u Y xa] 44):=⟨E _ _ _ _ hgx.symm,fun h=>yX,yY⟩;have SP:=Q (SPn.out.write (S:=[]) Mx.out (ze) (ze));have PJ:=Q (PJn.out.mod Mx.out (ze));have PR:=Q (PRn.out.mod Mx.out (ze));have hjx:¬gj=gx:=yZ;have hrx:¬gj+1=gx:=xd;have hxr:¬gx=gj+1:=fun h=>hrx h.symm
     clear SPn PJn PRn Mx LTn;go_upto_region 12 with fail;generalize hwz:wd.alloc (O #[u Z xt,u Y xa] 44)=wz at *;clear hwz hgx;have PUT:B (∀W,Ψ [] wz W→_):=fun W m=>yJ0 f op l at_ aa bt ba ct ca xt xa bc g 8 256 (K) rfl (SP.out.eng.head.mod m (ze)) (SP.out.eng.tab.mod m (ze)) SP.out.eng.ap.2.2 (VP.out L2 xt xa EX.out)
     have hbol:=SP.out.eng.ops.lt;have q9:=SP.out.eng.ops.cell 1;simp only [Θ,A,ω] at q9;obtain ⟨j0,j1,j2,j3,j4,j5,j6,j7,j8⟩:=cells9 PJ.out.blk;obtain ⟨x0,x1⟩:=PX.out.blk.cells2;have hjl:=PJ.out.blk.lt;have hxl:=PX.out.blk.lt;have ngj:gj∉[g]:=vV;have ngr:gj+1∉[g]:=vW;have ngx:gx∉[g]:=vX;have ngo:bo∉[g]:=by simpa using SP.out.eng.ap.2.1
     go_region_held3 (fun w'=>w'.cell? ⟨bo,1,s⟩=U (M (U ⟨bc,0,s⟩))∧w'.cell? ⟨gj,0,s⟩=U (u Z f)∧w'.cell? ⟨gj,1,s⟩=U (u Z op)∧w'.cell? ⟨gj,2,s⟩=U (u Z l)∧w'.cell? ⟨gj,3,s⟩=U (u Z at_)∧w'.cell? ⟨gj,4,s⟩=U (u Y aa)∧w'.cell? ⟨gj,5,s⟩=U (u Z bt)∧w'.cell? ⟨gj,6,s⟩=U (u Y ba)∧w'.cell? ⟨gj,7,s⟩=U (u Z ct)∧w'.cell? ⟨gj,8,s⟩=U (u Y ca)∧w'.cell? ⟨gx,0,s⟩=U (u Z xt)∧w'.cell? ⟨gx,1,s⟩=U (u Y xa)) (go_keep) (first | (go_at_call 301;refine (PUT.out _ (zg)).mono ?_;rintro e' w2 ⟨rfl,tb2,m2⟩;have SG:=SP.out.putt (show Ψ [] wz _ from zg) tb2 m2;have q9:=(SG.2.cell (a:=⟨bo,1,s⟩) hbol ngo).trans q9;have bj2:=PJ.out.blk.mod SG.2 ngj;have bx2:=PX.out.blk.mod SG.2 ngx;obtain ⟨j0,j1,j2,j3,j4,j5,j6,j7,j8⟩:=cells9 bj2;obtain ⟨x0,x1⟩:=bx2.cells2;have hjl:=bj2.lt;have hxl:=bx2.lt;have hbol:=J hbol SG.2.size))
     all_goals
      have PR3:=PR.out.mod SG.2 ngr;obtain ⟨r0,r1⟩:=PR3.blk.cells2;obtain ⟨u0,u1,-⟩:=PR3.blk.frozs;have hrl:=PR3.blk.lt;go_wp2_with fail;have BW:=(PR3.blk.set 0 (u Z xt)).set 1 (u Y xa);simp only [G,Φ,Ξ] at BW;obtain ⟨z0,z1⟩:=BW.cells2;have SW:=Q (SG.1.write (S:=[gj+1]) (w':=(w2.setCell ⟨gj+1,0,s⟩ (u Z xt)).setCell ⟨gj+1,1,s⟩ (u Y xa)) (zg) (xH) (by intro k hk;simp at hk;subst hk;exact PR3.no));clear BW;generalize (w2.setCell ⟨gj+1,0,s⟩ (u Z xt)).setCell ⟨gj+1,1,s⟩ (u Y xa)=w3 at *;refine ψ (v:=ν #[Ω #[u Z xt,u Y xa],u Z 0]) (by simp [κ,η,go_sem,z0,z1];try rfl) rfl ?_;exact ⟨xt,xa,L2,F2,rfl,SW.out.eng,SW.out.gr,EX.out,hl2⟩
theorem doA {bs n room bo bc g f op:Nat} (h1:1≤f) (h5:f≤5) (hn:n≤16) (hrm:room≤1048576) (hop:op < 256):∀k l,l+k=n→DoA bs n room bo bc g f op k l:=by
 intro k
 induction k with
 | zero=>
  intro l hl;obtain rfl:l=n:=K;exact yA4 h1 h5 hn hop
 | succ k ih=>intro l hl;exact yt1 h1 h5 hn hop hl (zO7 h1 h5 hn hrm hop hl (ih (l+1) (K)))
open Go.RowKit
theorem yn4 {bs n room bo bc g f op k l:Nat} (h1:1≤f) (h5:f≤5) (hn:n≤16) (hop:op < 256) (hlk:l+k=n) (ih:DoA bs n room bo bc g f op k l)
 {w:τ} {L:List Rc} {F:List Nat} {at_ aa bt ba ct ca:Nat} {ta tb tc:List Bool} (HE:EngA w bs n room L F bo bc g) (hb1:L.length+4 *2 ^ k≤100000) (hb2:L.length+4 *2 ^ k≤room)
 (ea:EdT L f n k l ⟨at_,aa⟩ ta) (eb:EdT L f n k l ⟨bt,ba⟩ tb) (ec:EdT L f n k l ⟨ct,ca⟩ tc):
 σ N 293 #[M (U ⟨bo,0,s⟩),u Z f,u D op,u D l,Ω #[u Z at_,u Y aa],Ω #[u Z bt,u Y ba],Ω #[u Z ct,u Y ca]] w (DoR w bs n room L F bo bc g f k l (zc6 op ta tb tc) (4 *(2 ^ k - 1))):=by
 have IF:=Q (YZ f h1 h5)
 have VA:B (∀W,Ψ [] w W→σ N 67 #[M (U ⟨bs,0,s⟩)] W fun e w'=>e=Γ (u D n)∧w'=W):=fun W m=>by
  exact ZT
 have LE:B (∀W (x y:Nat) t,Ψ [] w W→EdT L f n k l ⟨x,y⟩ t→σ N 86 #[M (U ⟨bs,0,s⟩),u Z f,Ω #[u Z x,u Y y],u D l] W fun e w'=>e=Γ (γ true)∧Ψ [] W w'):=fun W x y t m e=>YI (HE.sto.st.mod m (ze)) (K) hn f h1 h5 ⟨x,y⟩ l (K) e.lead
 have DO:B (∀W,Ψ [] w W→_):=fun W m=>ih W L F at_ aa bt ba ct ca ta tb tc (HE.mod0 m) hb1 hb2 ea eb ec
 have HX:=Q HE;have E1:=Q ea;have E2:=Q eb;have E3:=Q ec;have LT:=Q HE.lt;have hbl:=HE.ops.lt;have k0:=HE.ops.cell 0;simp only [Θ,A] at k0;have hop':(op:Int) < 256:=K;have hl16:(l:Int)≤16:=K;have hln:(l:Int)≤n:=K;obtain ⟨gk,hgk⟩:∃gk,w.heap.size=gk:=⟨_,rfl⟩;have BA:=(((E w #[u Z at_,u Y aa] 44 gk hgk.symm).alloc (O #[u Z bt,u Y ba] 44)).alloc (O #[u Z ct,u Y ca] 44)).alloc (O #[u Z 0,u Y 0] 44);have BB:=((E (w.alloc (O #[u Z at_,u Y aa] 44)) #[u Z bt,u Y ba] 44 (gk+1) (zk)).alloc (O #[u Z ct,u Y ca] 44)).alloc (O #[u Z 0,u Y 0] 44);have BC:=(E ((w.alloc (O #[u Z at_,u Y aa] 44)).alloc (O #[u Z bt,u Y ba] 44)) #[u Z ct,u Y ca] 44 (gk+2) (zk)).alloc (O #[u Z 0,u Y 0] 44);have BR:=E (((w.alloc (O #[u Z at_,u Y aa] 44)).alloc (O #[u Z bt,u Y ba] 44)).alloc (O #[u Z ct,u Y ca] 44)) #[u Z 0,u Y 0] 44 (gk+3) (zk);have M1:B (Ψ [] w ((((w.alloc (O #[u Z at_,u Y aa] 44)).alloc (O #[u Z bt,u Y ba] 44)).alloc (O #[u Z ct,u Y ca] 44)).alloc (O #[u Z 0,u Y 0] 44))):=zg;have k0:=(M1.out.cell (a:=⟨bo,0,s⟩) hbl (ze)).trans k0;have hng:¬bo=gk:=K;have hng1:¬bo=gk+1:=K;have hng2:¬bo=gk+2:=K;have hng3:¬bo=gk+3:=K;have HN:B (gk+3∉bo::bc::g::F∧w.heap.size≤gk+3):=⟨fun h=>zS,K⟩;replace hbl:=J hbl M1.out.size;clear HE ea eb ec hb1 hb2 ih hop hlk;go_in;go_upto_region 1 with fail;generalize (((w.alloc (O #[u Z at_,u Y aa] 44)).alloc (O #[u Z bt,u Y ba] 44)).alloc (O #[u Z ct,u Y ca] 44)).alloc (O #[u Z 0,u Y 0] 44)=w1 at *;obtain ⟨a0,a1⟩:=BA.cells2;obtain ⟨b0,b1⟩:=BB.cells2;obtain ⟨c0,c1⟩:=BC.cells2;have hA:=BA.lt;have hB:=BB.lt;have hC:=BC.lt;have PR:B (Blk w1 (gk+3) #[u Z 0,u Y 0] 44):=BR;clear BA BB BC BR;go_wp2_with fail;refine (IF.out _).mono ?_;rintro e w2 ⟨rfl,hw⟩;subst hw;go_wp2_with fail;refine (VA.out _ M1.out).mono ?_;rintro e w2 ⟨rfl,hw⟩;subst hw;go_wp2_with fail;have JC:B (∀W,Ψ [] w2 W→W.cell? ⟨bo,0,s⟩=U (M (U ⟨bs,0,s⟩))∧W.cell? ⟨gk,0,s⟩=U (u Z at_)∧W.cell? ⟨gk,1,s⟩=U (u Y aa)∧W.cell? ⟨gk+1,0,s⟩=U (u Z bt)∧W.cell? ⟨gk+1,1,s⟩=U (u Y ba)∧W.cell? ⟨gk+2,0,s⟩=U (u Z ct)∧W.cell? ⟨gk+2,1,s⟩=U (u Y ca)):=fun W m=>⟨(m.cell (a:=⟨bo,0,s⟩) hbl (ze)).trans k0,(m.cell (a:=⟨gk,0,s⟩) hA (ze)).trans a0,(m.cell (a:=⟨gk,1,s⟩) hA (ze)).trans a1,(m.cell (a:=⟨gk+1,0,s⟩) hB (ze)).trans b0,(m.cell (a:=⟨gk+1,1,s⟩) hB (ze)).trans b1,(m.cell (a:=⟨gk+2,0,s⟩) hC (ze)).trans c0,(m.cell (a:=⟨gk+2,1,s⟩) hC (ze)).trans c1⟩
 have LE:B (∀W (x y:Nat) t,Ψ [] w2 W→EdT L f n k l ⟨x,y⟩ t→σ N 86 #[M (U ⟨bs,0,s⟩),u Z f,Ω #[u Z x,u Y y],u D l] W fun e w'=>e=Γ (γ true)∧Ψ [] w2 w'):=fun W x y t m e=>(LE.out W x y t (M1.out.trans' m) e).mono (by
  rintro e w' ⟨rfl,m2⟩
  exact ⟨rfl,m.trans' m2⟩)
 go_region_held3 (fun w'=>Ψ [] w2 w'∧w'.cell? ⟨bo,0,s⟩=U (M (U ⟨bs,0,s⟩))∧w'.cell? ⟨gk,0,s⟩=U (u Z at_)∧w'.cell? ⟨gk,1,s⟩=U (u Y aa)∧w'.cell? ⟨gk+1,0,s⟩=U (u Z bt)∧w'.cell? ⟨gk+1,1,s⟩=U (u Y ba)∧w'.cell? ⟨gk+2,0,s⟩=U (u Z ct)∧w'.cell? ⟨gk+2,1,s⟩=U (u Y ca)) (first | (refine ⟨jz,?_⟩;go_keep) | go_keep) (first | (go_at_call 86;first | ((with_reducible refine (LE.out _ at_ aa _ (zy) E1.out).mono ?_);rintro e' w3 ⟨rfl,m3⟩;obtain ⟨k0,a0,a1,b0,b1,c0,c1⟩:=JC.out w3 m3) | ((with_reducible refine (LE.out _ bt ba _ (zy) E2.out).mono ?_);rintro e' w3 ⟨rfl,m3⟩;obtain ⟨k0,a0,a1,b0,b1,c0,c1⟩:=JC.out w3 m3) | ((with_reducible refine (LE.out _ ct ca _ (zy) E3.out).mono ?_);rintro e' w3 ⟨rfl,m3⟩;obtain ⟨k0,a0,a1,b0,b1,c0,c1⟩:=JC.out w3 m3)))
 all_goals
  have M3:B (Ψ [] w2 _):=m3;obtain ⟨-,a0,a1,b0,b1,c0,c1⟩:=JC.out _ M3.out;have PR3:=Q (PR.out.mod M3.out (ze));have MA:=Q (M1.out.trans' M3.out);have hA3:=J hA M3.out.size;have hB3:=J hB M3.out.size;have hC3:=J hC M3.out.size;go_wp2_with fail;refine (DO.out _ MA.out).mono ?_;rintro e wd ⟨et,ea,L2,F2,rfl,en,gd,ex,hl2⟩;have EX:=Q ex;have EN:=Q en;have GD:=Q ((Grow.of_mod (F:=bc::g::F) MA.out).trans gd);have PR4:=Q (PR3.out.mod gd.mod (fun h=>HN.out.1 (H _ h)));have NN:B (gk+3∉bc::g::F2):=gd.out PR3.out.lt (fun h=>HN.out.1 (H _ h));clear ex en gd a0 a1 b0 b1 c0 c1;obtain ⟨r0,r1⟩:=PR4.out.cells2;obtain ⟨u0,u1,-⟩:=PR4.out.frozs;have hrl:=PR4.out.lt;go_wp2_with fail;have BW:=(PR4.out.set 0 (u Z et)).set 1 (u Y ea);simp only [G,Φ,Ξ] at BW;obtain ⟨z0,z1⟩:=BW.cells2;have MW:B (Ψ [gk+3] wd ((wd.setCell ⟨gk+3,0,s⟩ (u Z et)).setCell ⟨gk+3,1,s⟩ (u Y ea))):=zX;clear BW;generalize (wd.setCell ⟨gk+3,0,s⟩ (u Z et)).setCell ⟨gk+3,1,s⟩ (u Y ea)=w5 at *;refine ψ (v:=ν #[Ω #[u Z et,u Y ea],u Z 0]) (by simp [κ,Tryz.results293,go_sem,z0,z1];try rfl) rfl ?_;exact ⟨et,ea,L2,F2,rfl,EN.out.mod MW.out (fun k hk q=>jA),GD.out.write MW.out (fun k hk=>jB),EX.out,hl2⟩
open Go.RowKit
def zn2 (o:Nat):Nat→Nat
 | 0=>0
 | k+1=>if o.testBit (k / 2) then zn2 o k ||| 2 ^ k else zn2 o k
theorem yf6 (o:Nat):∀k,zn2 o k < 2 ^ k:=by
 intro k
 induction k with
 | zero=>exact ε 0
 | succ k ih=>
  have hp:2 ^ (k+1)=2 *2 ^ k:=xA;rw [zn2];split
  ·exact Nat.or_lt_two_pow (K) (Nat.pow_lt_pow_right (K) (K))
  ·omega
theorem zN7:∀o,o < 16→zn2 o 8=Xy o:=zL
theorem zt0 (a b:Nat) (ha:a < 4294967296) (hb:b < 4294967296):bits .and D (a:Int) (b:Int)=((a &&& b:Nat):Int):=by
 have h3:a &&& b < 4294967296:=ζ Nat.and_le_left ha
 have e:(C 64 (a:Int) &&& C 64 (b:Int)).toNat=a &&& b:=by
  have e1:C 64 (a:Int)=θ 64 a:=π ..;have e2:C 64 (b:Int)=θ 64 b:=π ..;rw [e1,e2,BitVec.toNat_and,ρ,ρ,ι (K),ι (K)]
 show IntKind.i64.wrap ((C 64 (a:Int) &&& C 64 (b:Int)).toNat:Int)=_;rw [e,ξ _ (K)]
theorem yM0 (x k:Nat) (hx:x < 4294967296):bits .and D ((x:Int) / 2 ^ k) 1=if x.testBit k then 1 else 0:=by
 have e1:(x:Int) / 2 ^ k=((x / 2 ^ k:Nat):Int):=yk;have h1:x / 2 ^ k < 4294967296:=ζ (Nat.div_le_self _ _) hx;rw [e1,show (1:Int)=((1:Nat):Int) from rfl,zt0 _ _ h1 (K),Nat.and_one_is_mod,Nat.testBit_eq_decide_div_mod_eq];by_cases q:x / 2 ^ k % 2=1
 ·simp [q]
 ·have:x / 2 ^ k % 2=0:=K;simp [this]
theorem zU6 {x:Nat} (hx:x < 4294967296):bits .or D (x:Int) 0=(x:Int):=by
 have e:(C 64 (x:Int) ||| C 64 0).toNat=x:=by
  have e1:C 64 (x:Int)=θ 64 x:=π ..;have e2:C 64 0=θ 64 0:=rfl;rw [e1,e2,BitVec.toNat_or,ρ,ρ,ι (K)];simp
 show IntKind.i64.wrap ((C 64 (x:Int) ||| C 64 0).toNat:Int)=_;rw [e,ξ _ (K)]
theorem yD2 (o:Nat) (ho:o < 16) (w:τ):σ N 294 #[u D o] w fun e w'=>e=Γ (u D (Xy o:Nat))∧w'=w:=by
 have BB:=Q (fun k=>yM0 o k (K));have OR:B (∀x v:Nat,x < 4294967296→v < 32→_):=fun x v hx hv=>ym7 (x:=x) (v:=v) hx hv
 have OZ:B (∀x:Nat,x < 4294967296→_):=fun x hx=>zU6 (x:=x) hx
 have WL:=Q (yf6 o);have WS:B (∀k,zn2 o (k+1)=if o.testBit (k / 2) then zn2 o k ||| 2 ^ k else zn2 o k):=fun k=>rfl
 have WE:=Q (zN7 o ho);have hob:(o:Int) < 16:=K;have W0:B (zn2 o 0=0):=rfl;generalize zn2 o=X at *;generalize Xy o=R at *;clear ho;go_in;go_wp2_with fail
 go_loopw [3,5] (fun p i wr=>∃k:Nat,p=u D (X k:Nat)∧i=u D k∧k≤8∧wr=w) (fun _ i _=>8 - (intOf i).toNat)
 case atStart=>exact ⟨0,by rw [W0.out];rfl,rfl,K,rfl⟩
 case round=>
  obtain ⟨k,rfl,rfl,hk,hw⟩:=hrel;subst hw;have hX:X k < 256:=J (WL.out k) (Nat.pow_le_pow_right (K) hk);have hS:=WS.out k;obtain rfl | rfl | rfl | rfl | rfl | rfl | rfl | rfl | rfl:k=0∨k=1∨k=2∨k=3∨k=4∨k=5∨k=6∨k=7∨k=8:=K
  ·have b:=BB.out 0;simp only [Δ] at hS;have OR1:=OR.out (X 0) 0 (K) (K);have OZ1:=OZ.out (X 0) (K);generalize hx:X 0=x at *;cases hb:o.testBit 0
   ·rw [hb] at b hS;simp only [I,if_false] at b hS;simp at b OR1;go_wp2_with fail;exact ⟨⟨1,yC,rfl,K,zp⟩,zr⟩
   ·rw [hb] at b hS;simp only [if_true] at b hS;simp at b OR1;go_wp2_with fail;exact ⟨⟨1,yD,rfl,K,zp⟩,zr⟩
  ·have b:=BB.out 0;simp only [Δ] at hS;have OR1:=OR.out (X 1) 1 (K) (K);have OZ1:=OZ.out (X 1) (K);generalize hx:X 1=x at *;cases hb:o.testBit 0
   ·rw [hb] at b hS;simp only [I,if_false] at b hS;simp at b OR1;go_wp2_with fail;exact ⟨⟨2,yC,rfl,K,zp⟩,zr⟩
   ·rw [hb] at b hS;simp only [if_true] at b hS;simp at b OR1;go_wp2_with fail;exact ⟨⟨2,yD,rfl,K,zp⟩,zr⟩
  ·have b:=BB.out 1;simp only [Δ] at hS;have OR1:=OR.out (X 2) 2 (K) (K);have OZ1:=OZ.out (X 2) (K);generalize hx:X 2=x at *;cases hb:o.testBit 1
   ·rw [hb] at b hS;simp only [I,if_false] at b hS;simp at b OR1;go_wp2_with fail;exact ⟨⟨3,yC,rfl,K,zp⟩,zr⟩
   ·rw [hb] at b hS;simp only [if_true] at b hS;simp at b OR1;go_wp2_with fail;exact ⟨⟨3,yD,rfl,K,zp⟩,zr⟩
  ·have b:=BB.out 1;simp only [Δ] at hS;have OR1:=OR.out (X 3) 3 (K) (K);have OZ1:=OZ.out (X 3) (K);generalize hx:X 3=x at *;cases hb:o.testBit 1
   ·rw [hb] at b hS;simp only [I,if_false] at b hS;simp at b OR1;go_wp2_with fail;exact ⟨⟨4,yC,rfl,K,zp⟩,zr⟩
   ·rw [hb] at b hS;simp only [if_true] at b hS;simp at b OR1;go_wp2_with fail;exact ⟨⟨4,yD,rfl,K,zp⟩,zr⟩
  ·have b:=BB.out 2;simp only [Δ] at hS;have OR1:=OR.out (X 4) 4 (K) (K);have OZ1:=OZ.out (X 4) (K);generalize hx:X 4=x at *;cases hb:o.testBit 2
   ·rw [hb] at b hS;simp only [I,if_false] at b hS;simp at b OR1;go_wp2_with fail;exact ⟨⟨5,yC,rfl,K,zp⟩,zr⟩
   ·rw [hb] at b hS;simp only [if_true] at b hS;simp at b OR1;go_wp2_with fail;exact ⟨⟨5,yD,rfl,K,zp⟩,zr⟩
  ·have b:=BB.out 2;simp only [Δ] at hS;have OR1:=OR.out (X 5) 5 (K) (K);have OZ1:=OZ.out (X 5) (K);generalize hx:X 5=x at *;cases hb:o.testBit 2
   ·rw [hb] at b hS;simp only [I,if_false] at b hS;simp at b OR1;go_wp2_with fail;exact ⟨⟨6,yC,rfl,K,zp⟩,zr⟩
   ·rw [hb] at b hS;simp only [if_true] at b hS;simp at b OR1;go_wp2_with fail;exact ⟨⟨6,yD,rfl,K,zp⟩,zr⟩
  ·have b:=BB.out 3;simp only [Δ] at hS;have OR1:=OR.out (X 6) 6 (K) (K);have OZ1:=OZ.out (X 6) (K);generalize hx:X 6=x at *;cases hb:o.testBit 3
   ·rw [hb] at b hS;simp only [I,if_false] at b hS;simp at b OR1;go_wp2_with fail;exact ⟨⟨7,yC,rfl,K,zp⟩,zr⟩
   ·rw [hb] at b hS;simp only [if_true] at b hS;simp at b OR1;go_wp2_with fail;exact ⟨⟨7,yD,rfl,K,zp⟩,zr⟩
  ·have b:=BB.out 3;simp only [Δ] at hS;have OR1:=OR.out (X 7) 7 (K) (K);have OZ1:=OZ.out (X 7) (K);generalize hx:X 7=x at *;cases hb:o.testBit 3
   ·rw [hb] at b hS;simp only [I,if_false] at b hS;simp at b OR1;go_wp2_with fail;exact ⟨⟨8,yC,rfl,K,zp⟩,zr⟩
   ·rw [hb] at b hS;simp only [if_true] at b hS;simp at b OR1;go_wp2_with fail;exact ⟨⟨8,yD,rfl,K,zp⟩,zr⟩
  ·rw [WE.out];go_wp2_with fail;go_ret;exact ⟨rfl,rfl⟩
theorem ZS {p:Prop} (h:p:=by
 exact ⟨et,ea,L2,F2,rfl,EN.out.mod MW.out (fun k hk q=>jA),GW.out.write MW.out (fun k hk=>jB),EX.out,hl2⟩):p:=h
theorem zo9 {bs n room bo bc g f o:Nat} (h1:1≤f) (h5:f≤5) (hn:n≤16) (hrm:room≤1048576) (ho:o < 16) (hw:Xy o < 256)
 {w:τ} {L:List Rc} {F:List Nat} {at_ aa bt ba:Nat} {ta tb:List Bool} (HE:EngA w bs n room L F bo bc g) (hb1:L.length+4 *2 ^ n≤100000) (hb2:L.length+4 *2 ^ n≤room)
 (ea:EdT L f n n 0 ⟨at_,aa⟩ ta) (eb:EdT L f n n 0 ⟨bt,ba⟩ tb):
 σ N 290 #[M (U ⟨bo,0,s⟩),u Z f,u D o,Ω #[u Z at_,u Y aa],Ω #[u Z bt,u Y ba]] w (DoR w bs n room L F bo bc g f n 0 (za9 o ta tb) (4 *(2 ^ n - 1))):=by
 have eT:zc6 (Xy o) ta tb (χ (2 ^ n) false)=za9 o ta tb:=zu0 ea.len eb.len (ze);rw [←eT];have WI:=Q (fun W=>yD2 o ho W);have LT:=Q HE.lt
 have AT:B (∀W,Ψ [] w W→σ N 293 #[M (U ⟨bo,0,s⟩),u Z f,u D (Xy o:Nat),u D 0,Ω #[u Z at_,u Y aa],Ω #[u Z bt,u Y ba],Ω #[u Z 0,u Y 0]] W (DoR W bs n room L F bo bc g f n 0 (zc6 (Xy o) ta tb (χ (2 ^ n) false)) (4 *(2 ^ n - 1)))):=fun W m=>
  yn4 h1 h5 hn hw (K) (doA h1 h5 hn hrm hw n 0 (K)) (HE.mod0 m) hb1 hb2 ea eb (EdT.zero L (K))
 generalize zc6 (Xy o) ta tb (χ (2 ^ n) false)=T at *;obtain ⟨cst,hcst⟩:∃c,4 *(2 ^ n - 1)=c:=⟨_,rfl⟩;rw [hcst] at AT ⊢;have hob:(o:Int) < 16:=K;obtain ⟨gk,hgk⟩:∃gk,w.heap.size=gk:=⟨_,rfl⟩;have BA:=((E w #[u Z at_,u Y aa] 44 gk hgk.symm).alloc (O #[u Z bt,u Y ba] 44)).alloc (O #[u Z 0,u Y 0] 44);have BB:=(E (w.alloc (O #[u Z at_,u Y aa] 44)) #[u Z bt,u Y ba] 44 (gk+1) (zk)).alloc (O #[u Z 0,u Y 0] 44);have BR:=E ((w.alloc (O #[u Z at_,u Y aa] 44)).alloc (O #[u Z bt,u Y ba] 44)) #[u Z 0,u Y 0] 44 (gk+2) (zk);have M1:B (Ψ [] w (((w.alloc (O #[u Z at_,u Y aa] 44)).alloc (O #[u Z bt,u Y ba] 44)).alloc (O #[u Z 0,u Y 0] 44))):=zg;have HN:B (gk+2∉bo::bc::g::F∧w.heap.size≤gk+2):=⟨fun h=>zS,K⟩;have HNA:B (gk∉bo::bc::g::F∧gk+1∉bo::bc::g::F):=⟨fun h=>zS,fun h=>zS⟩;clear HE ea eb hb1 hb2 ho hw hcst eT;go_in;go_upto_region 1 with fail;generalize ((w.alloc (O #[u Z at_,u Y aa] 44)).alloc (O #[u Z bt,u Y ba] 44)).alloc (O #[u Z 0,u Y 0] 44)=w1 at *;obtain ⟨a0,a1⟩:=BA.cells2;obtain ⟨b0,b1⟩:=BB.cells2;have hA:=BA.lt;have hB:=BB.lt;have nA:¬gk=gk+1+1:=K;have nB:¬gk+1=gk+1+1:=K;have nC:¬gk+1+1=gk:=K;have nD:¬gk+1+1=gk+1:=K;have PA:=Q BA;have PB:=Q BB;have PR:=Q BR;clear BA BB BR;have AT2:B (∀W,Ψ [] w1 W→_):=fun W m=>AT.out W (M1.out.trans' m)
 go_wp2_with fail
 go_region_held3 (fun w'=>w'.cell? ⟨gk,0,s⟩=U (u Z at_)∧w'.cell? ⟨gk,1,s⟩=U (u Y aa)∧w'.cell? ⟨gk+1,0,s⟩=U (u Z bt)∧w'.cell? ⟨gk+1,1,s⟩=U (u Y ba)) (go_keep) (first | (go_at_call 294;refine (WI.out _).mono ?_;rintro e' w2 ⟨rfl,rfl⟩) | (go_at_call 293;refine (AT2.out _ (zg)).mono ?_;rintro e' wd ⟨et,ea,L2,F2,rfl,en,gd,ex,hl2⟩;have GD:=Grow.trans (Grow.of_mod (F:=bc::g::F) (show Ψ [] w1 _ from zg)) gd;have BA:=PA.out.mod GD.mod (fun h=>HNA.out.1 (H _ h));have BB:=PB.out.mod GD.mod (fun h=>HNA.out.2 (H _ h));have BR:=PR.out.mod GD.mod (fun h=>HN.out.1 (H _ h));obtain ⟨a0,a1⟩:=BA.cells2;obtain ⟨b0,b1⟩:=BB.cells2;obtain ⟨r0,r1⟩:=BR.cells2;obtain ⟨u0,u1,-⟩:=BR.frozs;have hA:=BA.lt;have hB:=BB.lt;have hrl:=BR.lt))
 all_goals
  have EX:=Q ex;have EN:=Q en;have NN:B (gk+2∉bc::g::F2):=GD.out PR.out.lt (fun h=>HN.out.1 (H _ h));have GW:=Q ((Grow.of_mod (F:=bc::g::F) M1.out).trans GD);have PR4:=Q BR;clear ex en gd GD BR BA BB;go_wp2_with fail;have BW:=(PR4.out.set 0 (u Z et)).set 1 (u Y ea);simp only [G,Φ,Ξ] at BW;obtain ⟨z0,z1⟩:=BW.cells2;have MW:B (Ψ [gk+2] wd ((wd.setCell ⟨gk+2,0,s⟩ (u Z et)).setCell ⟨gk+2,1,s⟩ (u Y ea))):=zX;clear BW;generalize (wd.setCell ⟨gk+2,0,s⟩ (u Z et)).setCell ⟨gk+2,1,s⟩ (u Y ea)=w5 at *;refine ψ (v:=ν #[Ω #[u Z et,u Y ea],u Z 0]) (by simp [κ,Tryz.results290,go_sem,z0,z1];try rfl) rfl ?_;exact ZS
theorem zJ1 {bs n room bo bc g f:Nat} (h1:1≤f) (h5:f≤5) (hn:n≤16) (hrm:room≤1048576)
 {w:τ} {L:List Rc} {F:List Nat} {at_ aa:Nat} {ta:List Bool} (HE:EngA w bs n room L F bo bc g) (hb1:L.length+4 *2 ^ n≤100000) (hb2:L.length+4 *2 ^ n≤room)
 (ea:EdT L f n n 0 ⟨at_,aa⟩ ta):
 σ N 331 #[M (U ⟨bo,0,s⟩),u Z f,Ω #[u Z at_,u Y aa]] w (DoR w bs n room L F bo bc g f n 0 (za9 3 ta (χ (2 ^ n) false)) (4 *(2 ^ n - 1))):=by
 have LT:=Q HE.lt
 have AT:B (∀W,Ψ [] w W→σ N 290 #[M (U ⟨bo,0,s⟩),u Z f,u D 3,Ω #[u Z at_,u Y aa],Ω #[u Z 0,u Y 0]] W (DoR W bs n room L F bo bc g f n 0 (za9 3 ta (χ (2 ^ n) false)) (4 *(2 ^ n - 1)))):=fun W m=>
  zo9 (o:=3) (bt:=0) (ba:=0) h1 h5 hn hrm (K) (by rw [wideN_vals.1];omega) (HE.mod0 m) hb1 hb2 ea (EdT.zero L (K))
 generalize za9 3 ta (χ (2 ^ n) false)=T at *;obtain ⟨cst,hcst⟩:∃c,4 *(2 ^ n - 1)=c:=⟨_,rfl⟩;rw [hcst] at AT ⊢;obtain ⟨gk,hgk⟩:∃gk,w.heap.size=gk:=⟨_,rfl⟩;have BA:=(E w #[u Z at_,u Y aa] 44 gk hgk.symm).alloc (O #[u Z 0,u Y 0] 44);have BR:=E (w.alloc (O #[u Z at_,u Y aa] 44)) #[u Z 0,u Y 0] 44 (gk+1) (zk);have M1:B (Ψ [] w ((w.alloc (O #[u Z at_,u Y aa] 44)).alloc (O #[u Z 0,u Y 0] 44))):=zg;have HN:B (gk+1∉bo::bc::g::F∧w.heap.size≤gk+1):=⟨fun h=>zS,K⟩;clear HE ea hb1 hb2 hcst;go_in;go_upto_region 1 with fail;generalize (w.alloc (O #[u Z at_,u Y aa] 44)).alloc (O #[u Z 0,u Y 0] 44)=w1 at *;obtain ⟨a0,a1⟩:=BA.cells2;have PR:=Q BR;have hA:=BA.lt;clear BA BR;go_wp2_with fail;refine (AT.out _ M1.out).mono ?_;rintro e wd ⟨et,ea,L2,F2,rfl,en,gd,ex,hl2⟩;have EX:=Q ex;have EN:=Q en;have PR4:=Q (PR.out.mod gd.mod (fun h=>HN.out.1 (H _ h)));have NN:B (gk+1∉bc::g::F2):=gd.out PR.out.lt (fun h=>HN.out.1 (H _ h));have GW:=Q ((Grow.of_mod (F:=bc::g::F) M1.out).trans gd);obtain ⟨r0,r1⟩:=PR4.out.cells2;obtain ⟨u0,u1,-⟩:=PR4.out.frozs;have hrl:=PR4.out.lt;clear ex en gd a0 a1;go_wp2_with fail;have BW:=(PR4.out.set 0 (u Z et)).set 1 (u Y ea);simp only [G,Φ,Ξ] at BW;obtain ⟨z0,z1⟩:=BW.cells2;have MW:B (Ψ [gk+1] wd ((wd.setCell ⟨gk+1,0,s⟩ (u Z et)).setCell ⟨gk+1,1,s⟩ (u Y ea))):=zX;clear BW;generalize (wd.setCell ⟨gk+1,0,s⟩ (u Z et)).setCell ⟨gk+1,1,s⟩ (u Y ea)=w5 at *;refine ψ (v:=ν #[Ω #[u Z et,u Y ea],u Z 0]) (by simp [κ,Tryz.results331,go_sem,z0,z1];try rfl) rfl ?_;exact ZS
open Go.RowKit
theorem yx9 (z:Int):∃y:Nat,IntKind.u64.wrap z=(y:Int)∧y < 18446744073709551616:=by
 have e:IntKind.u64.wrap z=z % 18446744073709551616:=vK;rw [e];exact ⟨(z % 18446744073709551616).toNat,K,K⟩
theorem yf5 (o:BinOp) (a b:Int):∃y:Nat,bits o β a b=(y:Int)∧y < 18446744073709551616:=by
 unfold bits;split<;>exact yx9 _
theorem zD0 (o:BinOp) (a b:Int):∃h:Nat,Value.int β (bits o β a b)=u β h∧h < 18446744073709551616:=by
 obtain ⟨y,e,h⟩:=yf5 o a b;exact ⟨y,by rw [e],h⟩
structure JbQ where
 f:Nat
 kd:Nat
 l:Nat
 lv:Nat
 a:Ed
 b:Ed
 deriving DecidableEq
def JbQ.cells (j:JbQ):List μ:=[u Z (j.f:Int),u Z (j.kd:Int),u Z (j.l:Int),u φ (j.lv:Int),u Z (j.a.t:Int),u Y (j.a.a:Int),u Z (j.b.t:Int),u Y (j.b.a:Int)]
theorem XP {w:τ} {b:Nat} {t:TypeId} {c0 c1 c2 c3 c4 c5 c6 c7:μ} (h:Blk w b #[c0,c1,c2,c3,c4,c5,c6,c7] t):
 w.cell? ⟨b,0,s⟩=U c0∧w.cell? ⟨b,1,s⟩=U c1∧w.cell? ⟨b,2,s⟩=U c2∧w.cell? ⟨b,3,s⟩=U c3∧w.cell? ⟨b,4,s⟩=U c4∧w.cell? ⟨b,5,s⟩=U c5∧w.cell? ⟨b,6,s⟩=U c6∧w.cell? ⟨b,7,s⟩=U c7:=
 ⟨h.cell 0,h.cell 1,h.cell 2,h.cell 3,h.cell 4,h.cell 5,h.cell 6,h.cell 7⟩
theorem zv9 (a b c d:μ) (w:τ):(Instr.index 388 (Ω #[a,b,c,d]) (u D 0)).run N w=.ok (Ω #[a,b]) w∧(Instr.index 388 (Ω #[a,b,c,d]) (u D 1)).run N w=.ok (Ω #[c,d]) w:=by
 constructor<;>kernel_rfl
theorem yx0 (f kd l lv at_ aa bt ba:Nat) (w:τ):σ N 278 #[Ω #[u Z f,u Z kd,u Z l,u φ lv,u Z at_,u Y aa,u Z bt,u Y ba]] w fun e w'=>∃h:Nat,e=Γ (u β h)∧h < 18446744073709551616∧Ψ [] w w':=by
 obtain ⟨gk,hgk⟩:∃gk,w.heap.size=gk:=⟨_,rfl⟩;have BJ:=E w #[u Z f,u Z kd,u Z l,u φ lv,u Z at_,u Y aa,u Z bt,u Y ba] 79 gk hgk.symm;have M0:B (Ψ [] w (w.alloc (O #[u Z f,u Z kd,u Z l,u φ lv,u Z at_,u Y aa,u Z bt,u Y ba] 79))):=zg;go_in;go_upto_region 1 with fail;obtain ⟨j0,j1,j2,j3,j4,j5,j6,j7⟩:=XP BJ;have hj:=BJ.lt;clear BJ;generalize w.alloc (O #[u Z f,u Z kd,u Z l,u φ lv,u Z at_,u Y aa,u Z bt,u Y ba] 79)=w0 at *;go_cut [3] from 6 to 23 (fun p wx=>∃h:Nat,p=u β h∧h < 18446744073709551616∧wx=w0)
 case first=>
  go_wp2_with fail;go_meet;obtain ⟨h,e,hh⟩:=zD0 _ _ _;exact ⟨h,e,hh,rfl⟩
 case rest=>
  obtain ⟨h,rfl,hh,rfl⟩:=hcut;go_wp2_with fail
  go_loopw [3,29] (fun p i wr=>∃h k:Nat,p=u β h∧h < 18446744073709551616∧i=u D k∧k≤2∧B (Ψ [] w wr)) (fun _ i _=>2 - (intOf i).toNat)
  case atStart=>exact ⟨h,0,rfl,hh,rfl,K,M0⟩
  case round=>
   obtain ⟨h',k,rfl,hh',rfl,hk,MM⟩:=hrel;obtain rfl | rfl | rfl:k=0∨k=1∨k=2:=K
   ·have IX:=(zv9 (u Z at_) (u Y aa) (u Z bt) (u Y ba) wr).1;go_wp2_with fail;obtain ⟨h,e,hh⟩:=zD0 _ _ _;exact ⟨⟨h,1,e,hh,rfl,K,MM.out.alloc _⟩,zr⟩
   ·have IX:=(zv9 (u Z at_) (u Y aa) (u Z bt) (u Y ba) wr).2;go_wp2_with fail;obtain ⟨h,e,hh⟩:=zD0 _ _ _;exact ⟨⟨h,2,e,hh,rfl,K,MM.out.alloc _⟩,zr⟩
   ·go_wp2_with fail;go_ret;exact ⟨h',rfl,hh',MM.out⟩
open Go.RowKit
theorem yJ4 (f kd l lv at_ aa bt ba:Nat) (b g j n:Nat) (hj:j≤20) (hn:n=2 ^ j) {w:τ} (hb:CHead 156 w b g n):
 σ N 352 #[M (U ⟨b,0,s⟩),Ω #[u Z f,u Z kd,u Z l,u φ lv,u Z at_,u Y aa,u Z bt,u Y ba]] w fun e w'=>∃q,q < n∧e=Γ (M (U ⟨g,q *11,s⟩))∧Ψ [] w w':=by
 obtain ⟨hi,mi,hb⟩:=hb;have c0:=hb.cell 0;simp at c0;have hbl:=hb.lt;have JH:=Q (yx0 f kd l lv at_ aa bt ba);have MK:=Q (fun x hx=>yD9 x j hx hj);rw [←hn] at MK;have hn1:n≤1048576:=xp;have hn2:0 < n:=by rw [hn];exact ε j
 have hni:(1:Int)≤n:=K;have hnm:(n:Int)≤1048576:=K;have hw1:IntKind.u64.wrap ((n:Int) - 1)=(n:Int) - 1:=IntWalk.u64_in _ ⟨K,K⟩;have hw2:wrap64 ((n:Int) - 1)=(n:Int) - 1:=IntWalk.wrap64_in _ ⟨K,K⟩;have hw3:IntKind.i64.wrap ((n:Int) - 1)=(n:Int) - 1:=ξ _ (K);obtain ⟨gk,hgk⟩:∃gk,w.heap.size=gk:=⟨_,rfl⟩;have BJ:=E w #[u Z f,u Z kd,u Z l,u φ lv,u Z at_,u Y aa,u Z bt,u Y ba] 79 gk hgk.symm;have M0:B (Ψ [] w (w.alloc (O #[u Z f,u Z kd,u Z l,u φ lv,u Z at_,u Y aa,u Z bt,u Y ba] 79))):=zg;have c0:=(M0.out.cell (a:=⟨b,0,s⟩) hbl (ze)).trans c0;have hbl:=J hbl M0.out.size;clear hb hn;go_in;go_wp2_with fail;obtain ⟨j0,j1,j2,j3,j4,j5,j6,j7⟩:=XP BJ;have hjl:=BJ.lt;clear BJ;generalize w.alloc (O #[u Z f,u Z kd,u Z l,u φ lv,u Z at_,u Y aa,u Z bt,u Y ba] 79)=w0 at *
 have CC:B (∀W,Ψ [] w0 W→W.cell? ⟨b,0,s⟩=U (Qa (U ⟨g,0,s⟩) n n)∧W.cell? ⟨gk,0,s⟩=U (u Z f)∧W.cell? ⟨gk,1,s⟩=U (u Z kd)∧W.cell? ⟨gk,2,s⟩=U (u Z l)∧W.cell? ⟨gk,3,s⟩=U (u φ lv)∧W.cell? ⟨gk,4,s⟩=U (u Z at_)∧W.cell? ⟨gk,5,s⟩=U (u Y aa)∧W.cell? ⟨gk,6,s⟩=U (u Z bt)∧W.cell? ⟨gk,7,s⟩=U (u Y ba)):=fun W m=>
  ⟨(m.cell (a:=⟨b,0,s⟩) hbl (ze)).trans c0,(m.cell (a:=⟨gk,0,s⟩) hjl (ze)).trans j0,(m.cell (a:=⟨gk,1,s⟩) hjl (ze)).trans j1,(m.cell (a:=⟨gk,2,s⟩) hjl (ze)).trans j2,(m.cell (a:=⟨gk,3,s⟩) hjl (ze)).trans j3,(m.cell (a:=⟨gk,4,s⟩) hjl (ze)).trans j4,(m.cell (a:=⟨gk,5,s⟩) hjl (ze)).trans j5,(m.cell (a:=⟨gk,6,s⟩) hjl (ze)).trans j6,(m.cell (a:=⟨gk,7,s⟩) hjl (ze)).trans j7⟩
 have JH2:B (∀W,Ψ [] w0 W→σ N 278 #[Ω #[u Z f,u Z kd,u Z l,u φ lv,u Z at_,u Y aa,u Z bt,u Y ba]] W fun e w'=>∃h q:Nat,e=Γ (u β h)∧bits .and β (h:Int) ((n:Int) - 1)=(q:Int)∧(0:Int)≤q∧(q:Int) < n∧(q:Int)≤1048576∧Ψ [] w0 w'):=fun W m=>(JH.out W).mono (by
  rintro e w' ⟨h,rfl,hl,m2⟩;have hq:=Nat.mod_lt h hn2
  exact ⟨h,h % n,rfl,MK.out h hl,K,K,K,m.trans' m2⟩)
 go_region_held3 (fun w'=>Ψ [] w0 w'∧w'.cell? ⟨b,0,s⟩=U (Qa (U ⟨g,0,s⟩) n n)∧w'.cell? ⟨gk,0,s⟩=U (u Z f)∧w'.cell? ⟨gk,1,s⟩=U (u Z kd)∧w'.cell? ⟨gk,2,s⟩=U (u Z l)∧w'.cell? ⟨gk,3,s⟩=U (u φ lv)∧w'.cell? ⟨gk,4,s⟩=U (u Z at_)∧w'.cell? ⟨gk,5,s⟩=U (u Y aa)∧w'.cell? ⟨gk,6,s⟩=U (u Z bt)∧w'.cell? ⟨gk,7,s⟩=U (u Y ba)) (first | (refine ⟨yx,?_⟩;go_keep) | go_keep) (first | (go_at_call 278;refine (JH2.out _ (zy)).mono ?_;rintro e' w2 ⟨h,q,rfl,hmk,hq0,hq1,hq2,m2⟩;obtain ⟨c0,j0,j1,j2,j3,j4,j5,j6,j7⟩:=CC.out w2 m2))
 all_goals
  go_wp2_with fail;go_ret;exact ⟨q,K,rfl,M0.out.trans' (jp)⟩
open Go.RowKit
theorem TabP.at11 {ty:Nat} {w':τ} {g n:Nat} {P:List μ→Prop} (h:TabP ty 11 w' g n P) (q:Nat) (hq:q < n):∃x0 x1 x2 x3 x4 x5 x6 x7 x8 x9 x10:μ,P [x0,x1,x2,x3,x4,x5,x6,x7,x8,x9,x10]∧(w'.cell? ⟨g,q *11,s⟩=U x0∧w'.cell? ⟨g,q *11+1,s⟩=U x1∧w'.cell? ⟨g,q *11+2,s⟩=U x2∧w'.cell? ⟨g,q *11+3,s⟩=U x3∧w'.cell? ⟨g,q *11+4,s⟩=U x4∧w'.cell? ⟨g,q *11+5,s⟩=U x5∧w'.cell? ⟨g,q *11+6,s⟩=U x6∧w'.cell? ⟨g,q *11+7,s⟩=U x7∧w'.cell? ⟨g,q *11+8,s⟩=U x8∧w'.cell? ⟨g,q *11+9,s⟩=U x9∧w'.cell? ⟨g,q *11+10,s⟩=U x10)∧(w'.frozen? ⟨g,q *11,s⟩=false∧w'.frozen? ⟨g,q *11+1,s⟩=false∧w'.frozen? ⟨g,q *11+2,s⟩=false∧w'.frozen? ⟨g,q *11+3,s⟩=false∧w'.frozen? ⟨g,q *11+4,s⟩=false∧w'.frozen? ⟨g,q *11+5,s⟩=false∧w'.frozen? ⟨g,q *11+6,s⟩=false∧w'.frozen? ⟨g,q *11+7,s⟩=false∧w'.frozen? ⟨g,q *11+8,s⟩=false∧w'.frozen? ⟨g,q *11+9,s⟩=false∧w'.frozen? ⟨g,q *11+10,s⟩=false):=by
 obtain ⟨e,he,hP,hc⟩:=h.at q hq
 match e,he with
 | [x0,x1,x2,x3,x4,x5,x6,x7,x8,x9,x10],_=>
  exact ⟨x0,x1,x2,x3,x4,x5,x6,x7,x8,x9,x10,hP,⟨(hc 0 (K)).1,(hc 1 (K)).1,(hc 2 (K)).1,(hc 3 (K)).1,(hc 4 (K)).1,(hc 5 (K)).1,(hc 6 (K)).1,(hc 7 (K)).1,(hc 8 (K)).1,(hc 9 (K)).1,(hc 10 (K)).1⟩,⟨(hc 0 (K)).2,(hc 1 (K)).2,(hc 2 (K)).2,(hc 3 (K)).2,(hc 4 (K)).2,(hc 5 (K)).2,(hc 6 (K)).2,(hc 7 (K)).2,(hc 8 (K)).2,(hc 9 (K)).2,(hc 10 (K)).2⟩⟩
theorem TabP.store11 {ty:Nat} {w:τ} {g n o:Nat} {P:List μ→Prop} {x0 x1 x2 x3 x4 x5 x6 x7 x8 x9 x10:μ} (h:TabP ty 11 w g n P) (q:Nat) (hq:q < n) (ho:o=q *11) (hP:P [x0,x1,x2,x3,x4,x5,x6,x7,x8,x9,x10]):TabP ty 11 (((((((((((w.setCell ⟨g,o,s⟩ x0).setCell ⟨g,o+1,s⟩ x1).setCell ⟨g,o+2,s⟩ x2).setCell ⟨g,o+3,s⟩ x3).setCell ⟨g,o+4,s⟩ x4).setCell ⟨g,o+5,s⟩ x5).setCell ⟨g,o+6,s⟩ x6).setCell ⟨g,o+7,s⟩ x7).setCell ⟨g,o+8,s⟩ x8).setCell ⟨g,o+9,s⟩ x9).setCell ⟨g,o+10,s⟩ x10) g n P:=by
 subst ho;exact TabP.store h q hq [x0,x1,x2,x3,x4,x5,x6,x7,x8,x9,x10] rfl hP
theorem yL8 (w:τ) (g o:Nat) (x0 x1 x2 x3 x4 x5 x6 x7 x8 x9 x10:μ):Ψ [g] w (((((((((((w.setCell ⟨g,o,s⟩ x0).setCell ⟨g,o+1,s⟩ x1).setCell ⟨g,o+2,s⟩ x2).setCell ⟨g,o+3,s⟩ x3).setCell ⟨g,o+4,s⟩ x4).setCell ⟨g,o+5,s⟩ x5).setCell ⟨g,o+6,s⟩ x6).setCell ⟨g,o+7,s⟩ x7).setCell ⟨g,o+8,s⟩ x8).setCell ⟨g,o+9,s⟩ x9).setCell ⟨g,o+10,s⟩ x10):=zG7 [x0,x1,x2,x3,x4,x5,x6,x7,x8,x9,x10] o w
theorem yH1 (f kd l lv at_ aa bt ba vt va:Nat) (b g j n:Nat) (hj:j≤20) (hn:n=2 ^ j) {P:List μ→Prop} {w:τ} (hb:CHead 156 w b g n) (hT:TabP 392 11 w g n P) (hbg:b≠g)
 (hP:P [u Z f,u Z kd,u Z l,u φ lv,u Z at_,u Y aa,u Z bt,u Y ba,u Z vt,u Y va,u D 1]):
 σ N 351 #[M (U ⟨b,0,s⟩),Ω #[u Z f,u Z kd,u Z l,u φ lv,u Z at_,u Y aa,u Z bt,u Y ba],Ω #[u Z vt,u Y va]] w fun e w'=>e=Γ (ν #[])∧TabP 392 11 w' g n P∧Ψ [g] w w':=by
 have HB:=Q hb;have HT:=Q hT;have HPP:=Q hP;have hgl:=hT.lt;have hbl:=hb.lt;have hbg':¬b=g:=hbg;have hgb':¬g=b:=fun e=>hbg e.symm
 obtain ⟨gk,hgk⟩:∃gk,w.heap.size=gk:=⟨_,rfl⟩;rw [hgk] at hgl hbl;have n1:¬gk=g:=K;have n2:¬g=gk:=K;have n3:¬gk+1=g:=K;have n4:¬g=gk+1:=K;have n5:¬b=gk:=K;have n6:¬gk=b:=K;have n7:¬b=gk+1:=K;have n8:¬gk+1=b:=K;have BJ:=(E w #[u Z f,u Z kd,u Z l,u φ lv,u Z at_,u Y aa,u Z bt,u Y ba] 79 gk hgk.symm).alloc (O #[u Z vt,u Y va] 44);have BE:=E (w.alloc (O #[u Z f,u Z kd,u Z l,u φ lv,u Z at_,u Y aa,u Z bt,u Y ba] 79)) #[u Z vt,u Y va] 44 (gk+1) (zk);have M0:B (Ψ [] w ((w.alloc (O #[u Z f,u Z kd,u Z l,u φ lv,u Z at_,u Y aa,u Z bt,u Y ba] 79)).alloc (O #[u Z vt,u Y va] 44))):=zg;clear hb hT hP hbg;go_in;go_wp2_with fail;obtain ⟨j0,j1,j2,j3,j4,j5,j6,j7⟩:=XP BJ;obtain ⟨v0,v1⟩:=BE.cells2;have hjl:=BJ.lt;have hel:=BE.lt;clear BJ BE;generalize (w.alloc (O #[u Z f,u Z kd,u Z l,u φ lv,u Z at_,u Y aa,u Z bt,u Y ba] 79)).alloc (O #[u Z vt,u Y va] 44)=w0 at *;have HB0:=Q (HB.out.mod M0.out (ze));have HT0:=Q (HT.out.mod M0.out (ze));have hbl0:=HB0.out.lt;have hgl0:=HT0.out.lt;have c1:w0.cell? ⟨b,1,s⟩=U (u D 1):=vH
 have CC:B (∀W,Ψ [] w0 W→W.cell? ⟨b,1,s⟩=U (u D 1)∧W.cell? ⟨gk,0,s⟩=U (u Z f)∧W.cell? ⟨gk,1,s⟩=U (u Z kd)∧W.cell? ⟨gk,2,s⟩=U (u Z l)∧W.cell? ⟨gk,3,s⟩=U (u φ lv)∧W.cell? ⟨gk,4,s⟩=U (u Z at_)∧W.cell? ⟨gk,5,s⟩=U (u Y aa)∧W.cell? ⟨gk,6,s⟩=U (u Z bt)∧W.cell? ⟨gk,7,s⟩=U (u Y ba)∧W.cell? ⟨gk+1,0,s⟩=U (u Z vt)∧W.cell? ⟨gk+1,1,s⟩=U (u Y va)):=fun W m=>
  ⟨(m.cell (a:=⟨b,1,s⟩) hbl0 (ze)).trans c1,(m.cell (a:=⟨gk,0,s⟩) hjl (ze)).trans j0,(m.cell (a:=⟨gk,1,s⟩) hjl (ze)).trans j1,(m.cell (a:=⟨gk,2,s⟩) hjl (ze)).trans j2,(m.cell (a:=⟨gk,3,s⟩) hjl (ze)).trans j3,(m.cell (a:=⟨gk,4,s⟩) hjl (ze)).trans j4,(m.cell (a:=⟨gk,5,s⟩) hjl (ze)).trans j5,(m.cell (a:=⟨gk,6,s⟩) hjl (ze)).trans j6,(m.cell (a:=⟨gk,7,s⟩) hjl (ze)).trans j7,(m.cell (a:=⟨gk+1,0,s⟩) hel (ze)).trans v0,(m.cell (a:=⟨gk+1,1,s⟩) hel (ze)).trans v1⟩
 have AT2:B (∀W,Ψ [] w0 W→σ N 352 #[M (U ⟨b,0,s⟩),Ω #[u Z f,u Z kd,u Z l,u φ lv,u Z at_,u Y aa,u Z bt,u Y ba]] W fun e w'=>∃(o:Nat) (x0 x1 x2 x3 x4 x5 x6 x7 x8 x9 x10:μ),e=Γ (M (U ⟨g,o,s⟩))∧B (∃q,q < n∧o=q *11)∧(w'.cell? ⟨g,o,s⟩=U x0∧w'.cell? ⟨g,o+1,s⟩=U x1∧w'.cell? ⟨g,o+2,s⟩=U x2∧w'.cell? ⟨g,o+3,s⟩=U x3∧w'.cell? ⟨g,o+4,s⟩=U x4∧w'.cell? ⟨g,o+5,s⟩=U x5∧w'.cell? ⟨g,o+6,s⟩=U x6∧w'.cell? ⟨g,o+7,s⟩=U x7∧w'.cell? ⟨g,o+8,s⟩=U x8∧w'.cell? ⟨g,o+9,s⟩=U x9∧w'.cell? ⟨g,o+10,s⟩=U x10)∧(w'.frozen? ⟨g,o,s⟩=false∧w'.frozen? ⟨g,o+1,s⟩=false∧w'.frozen? ⟨g,o+2,s⟩=false∧w'.frozen? ⟨g,o+3,s⟩=false∧w'.frozen? ⟨g,o+4,s⟩=false∧w'.frozen? ⟨g,o+5,s⟩=false∧w'.frozen? ⟨g,o+6,s⟩=false∧w'.frozen? ⟨g,o+7,s⟩=false∧w'.frozen? ⟨g,o+8,s⟩=false∧w'.frozen? ⟨g,o+9,s⟩=false∧w'.frozen? ⟨g,o+10,s⟩=false)∧Ψ [] w0 w'):=fun W m=>(yJ4 f kd l lv at_ aa bt ba b g j n hj hn (HB0.out.mod m (ze))).mono (by
  rintro e w' ⟨q,hq,rfl,m2⟩;obtain ⟨x0,x1,x2,x3,x4,x5,x6,x7,x8,x9,x10,-,h1,h2⟩:=((HT0.out.mod m (ze)).mod m2 (ze)).at11 q hq
  exact ⟨q *11,x0,x1,x2,x3,x4,x5,x6,x7,x8,x9,x10,rfl,⟨q,hq,rfl⟩,h1,h2,m.trans' m2⟩)
 go_region_held3 (fun w'=>w'.cell? ⟨b,1,s⟩=U (u D 1)∧w'.cell? ⟨gk,0,s⟩=U (u Z f)∧w'.cell? ⟨gk,1,s⟩=U (u Z kd)∧w'.cell? ⟨gk,2,s⟩=U (u Z l)∧w'.cell? ⟨gk,3,s⟩=U (u φ lv)∧w'.cell? ⟨gk,4,s⟩=U (u Z at_)∧w'.cell? ⟨gk,5,s⟩=U (u Y aa)∧w'.cell? ⟨gk,6,s⟩=U (u Z bt)∧w'.cell? ⟨gk,7,s⟩=U (u Y ba)∧w'.cell? ⟨gk+1,0,s⟩=U (u Z vt)∧w'.cell? ⟨gk+1,1,s⟩=U (u Y va)) (go_keep) (first | (go_at_call 352;refine (AT2.out _ (zy)).mono ?_;rintro e' w2 ⟨o,x0,x1,x2,x3,x4,x5,x6,x7,x8,x9,x10,rfl,HQ,⟨y0,y1,y2,y3,y4,y5,y6,y7,y8,y9,y10⟩,⟨z0,z1,z2,z3,z4,z5,z6,z7,z8,z9,z10⟩,m2⟩;obtain ⟨c1,j0,j1,j2,j3,j4,j5,j6,j7,v0,v1⟩:=CC.out w2 m2))
 all_goals
  go_wp2_with fail
  go_end0
  obtain ⟨q,hq,ho⟩:=HQ.out;refine ⟨rfl,?_,?_⟩
  ·refine TabP.store11 (HT0.out.mod (S:=[]) ?_ (ze)) q hq ho HPP.out
   first | exact m2 | exact m2.drew | exact m2.drewN _
  ·refine ((M0.out.mono (S':=[g]) (ze)).trans' (Mod.mono (S:=[]) ?_ (ze))).trans' (yL8 _ _ _ _ _ _ _ _ _ _ _ _ _ _)
   first | exact m2 | exact m2.drew | exact m2.drewN _
open Go.RowKit
theorem zZ8 (d:Nat) (a b:JbQ) (w:τ):(Op.equalIn (d+3) 79 (Ω a.cells.toArray) (Ω b.cells.toArray)).run N w=.ok (decide (a=b)) w:=by
 obtain ⟨af,ao,al,av,a1,a2⟩:=a;obtain ⟨bf,bo,bl,bv,b1,b2⟩:=b;have u5:=Tryz.underlying5;have a5:=Tryz.isAgg5;have z5:=Tryz.sizeOf5;have u6:=Tryz.underlying77;have a6:=Tryz.isAgg77;have z6:=Tryz.sizeOf77;have u48:=Tryz.underlying41;have a48:=Tryz.isAgg41;have z48:=Tryz.sizeOf41;have a62:=Tryz.isAgg44;have z62:=Tryz.sizeOf44;have e1:=fun w=>Y4 d a1 b1 w
 have e2:=fun w=>Y4 d a2 b2 w
 have hS:Tryz.prog.underlying 79=U (.struct (Tryz.prog.fieldsOf 79)):=by kernel_rfl
 unfold JbQ.cells;unfold edv at e1 e2;obtain ⟨a1t,a1a⟩:=a1;obtain ⟨b1t,b1a⟩:=b1;obtain ⟨a2t,a2a⟩:=a2;obtain ⟨b2t,b2a⟩:=b2;simp only at e1 e2 ⊢;generalize hd1:decide ((⟨a1t,a1a⟩:Ed)=⟨b1t,b1a⟩)=d1 at *;generalize hd2:decide ((⟨a2t,a2a⟩:Ed)=⟨b2t,b2a⟩)=d2 at *
 have hd:decide ((⟨af,ao,al,av,⟨a1t,a1a⟩,⟨a2t,a2a⟩⟩:JbQ)=⟨bf,bo,bl,bv,⟨b1t,b1a⟩,⟨b2t,b2a⟩⟩)=(decide (af=bf) && (decide (ao=bo) && (decide (al=bl) && (decide (av=bv) && (d1 && d2))))):=by
  rw [←hd1,←hd2];simp [Bool.and_assoc]
 rw [hd];clear hd hd1 hd2;rw [run_equalIn_agg w (d+2) 79 _ _ hS (by kernel_rfl)];simp only [Program.fieldsOf,Tryz.underlying79];go_simp;by_cases h1:af=bf<;>by_cases h2:ao=bo<;>by_cases h3:al=bl<;>by_cases h4:av=bv<;>cases d1<;>cases d2<;>simp [h1,h2,h3,h4,Int.natCast_inj]
def EnQ (V:JbQ→Ed→Prop) (e:List μ):Prop:=∃(j:JbQ) (v:Ed) (ep:Nat),e=j.cells++[u Z (v.t:Int),u Y (v.a:Int),u D (ep:Int)]∧(ep=0∨ep=1∧V j v)
theorem EnQ.imp {V V':JbQ→Ed→Prop} (h:∀j v,V j v→V' j v) {e:List μ} (he:EnQ V e):EnQ V' e:=by
 obtain ⟨j,v,ep,r,q⟩:=he;exact ⟨j,v,ep,r,q.imp id fun ⟨a,b⟩=>⟨a,h _ _ b⟩⟩
def GetQ (V:JbQ→Ed→Prop) (j:JbQ) (w:τ) (b g n:Nat) (e:Ending) (w':τ):Prop:=
 ∃(vt va:Nat) (ok:Bool),e=Γ (ν #[Ω #[u Z vt,u Y va],γ ok])∧(ok=true→V j ⟨vt,va⟩)∧CHead 156 w' b g n∧Ψ [b] w w'
theorem ZR {p:Prop} (h:p:=by
 go_wp2_with fail
 have BX:Blk ((((w2.drewN nq).setCell ⟨b,3,s⟩ (u D (wrap64 (mi+1)))).setCell ⟨gk+1,0,s⟩ (u Z 0)).setCell ⟨gk+1,1,s⟩ (u Y 0)) (gk+1) #[(u Z 0),(u Y 0)] 44:=by
  have:=(((BR2.out.drewN nq).other ⟨b,3,s⟩ (u D (wrap64 (mi+1))) n8).set 0 (u Z 0)).set 1 (u Y 0);simpa using this
 have HX:Blk ((((w2.drewN nq).setCell ⟨b,3,s⟩ (u D (wrap64 (mi+1)))).setCell ⟨gk+1,0,s⟩ (u Z 0)).setCell ⟨gk+1,1,s⟩ (u Y 0)) b #[Qa (U ⟨g,0,s⟩) n n,u D 1,u D hi,u D (wrap64 (mi+1))] 156:=by
  have:=(((HBB.out.drewN nq).set 3 (u D (wrap64 (mi+1)))).other ⟨gk+1,0,s⟩ (u Z 0) n7).other ⟨gk+1,1,s⟩ (u Y 0) n7;simpa using this
 have MX:Ψ [b,gk+1] w2 ((((w2.drewN nq).setCell ⟨b,3,s⟩ (u D (wrap64 (mi+1)))).setCell ⟨gk+1,0,s⟩ (u Z 0)).setCell ⟨gk+1,1,s⟩ (u Y 0)):=((((Mod.refl _ _).drewN nq).setCell _ _ (ze)).setCell _ _ (ze)).setCell _ _ (ze);obtain ⟨z0,z1⟩:=BX.cells2;generalize ((((w2.drewN nq).setCell ⟨b,3,s⟩ (u D (wrap64 (mi+1)))).setCell ⟨gk+1,0,s⟩ (u Z 0)).setCell ⟨gk+1,1,s⟩ (u Y 0))=wx at *;refine ψ (v:=ν #[Ω #[(u Z 0),(u Y 0)],γ false]) (by simp [κ,δ,go_sem,z0,z1];try rfl) rfl ?_
 exact ⟨0,0,false,rfl,(fun h=>zU),⟨hi,wrap64 (mi+1),HX⟩,(MW.out.mono (S':=[b]) (ze)).trans MX (yW)⟩):p:=h
theorem yF3 (f kd l lv at_ aa bt ba:Nat) (b g j n:Nat) (hj:j≤20) (hn:n=2 ^ j) {V:JbQ→Ed→Prop} {w:τ} (hb:CHead 156 w b g n) (hT:TabP 392 11 w g n (EnQ V)) (hbg:b≠g):
 σ N 349 #[M (U ⟨b,0,s⟩),Ω #[u Z f,u Z kd,u Z l,u φ lv,u Z at_,u Y aa,u Z bt,u Y ba]] w (GetQ V ⟨f,kd,l,lv,⟨at_,aa⟩,⟨bt,ba⟩⟩ w b g n):=by
 have HB:=Q hb;have HT:=Q hT;have hgl:=hT.lt;have hbl:=hb.lt;have EQ:=Q (fun (x y:JbQ) w=>zZ8 9997 x y w);obtain ⟨gk,hgk⟩:∃gk,w.heap.size=gk:=⟨_,rfl⟩;have BJ:=Q (((E w #[u Z f,u Z kd,u Z l,u φ lv,u Z at_,u Y aa,u Z bt,u Y ba] 79 gk hgk.symm).alloc (O #[u Z 0,u Y 0] 44)).alloc (O #[u Z 0,u Y 0] 44));have BR:=Q ((E (w.alloc (O #[u Z f,u Z kd,u Z l,u φ lv,u Z at_,u Y aa,u Z bt,u Y ba] 79)) #[u Z 0,u Y 0] 44 (gk+1) (zk)).alloc (O #[u Z 0,u Y 0] 44));have BN:=Q (E ((w.alloc (O #[u Z f,u Z kd,u Z l,u φ lv,u Z at_,u Y aa,u Z bt,u Y ba] 79)).alloc (O #[u Z 0,u Y 0] 44)) #[u Z 0,u Y 0] 44 (gk+2) (zk));have M0:B (Ψ [] w (((w.alloc (O #[u Z f,u Z kd,u Z l,u φ lv,u Z at_,u Y aa,u Z bt,u Y ba] 79)).alloc (O #[u Z 0,u Y 0] 44)).alloc (O #[u Z 0,u Y 0] 44))):=zg;have AT:=Q (yJ4 f kd l lv at_ aa bt ba b g j n hj hn (HB.out.mod M0.out (ze)));have n5:¬b=gk:=K;have n6:¬gk=b:=K;have n7:¬b=gk+1:=K;have n8:¬gk+1=b:=K;have n9:¬b=gk+2:=K;have n10:¬gk+2=b:=K;have n11:¬b=g:=hbg;have n12:¬g=b:=fun e=>hbg e.symm
 have n13:¬g=gk+1:=K;have n14:¬gk+1=g:=K;clear hb hT hbg;go_in;go_wp2_with fail;refine AT.out.mono ?_;rintro e w2 ⟨q,hq,rfl,m2⟩;have HB2:=Q ((HB.out.mod M0.out (ze)).mod m2 (ze));obtain ⟨x0,x1,x2,x3,x4,x5,x6,x7,x8,x9,x10,⟨⟨f',kd',l',lv',⟨at',aa'⟩,⟨bt',ba'⟩⟩,⟨vt,va⟩,ep,he,hv⟩,⟨y0,y1,y2,y3,y4,y5,y6,y7,y8,y9,y10⟩,-⟩:=((HT.out.mod M0.out (ze)).mod m2 (ze)).at11 q hq;simp only [JbQ.cells,List.cons_append,List.nil_append,List.cons.injEq,and_true] at he;obtain ⟨rfl,rfl,rfl,rfl,rfl,rfl,rfl,rfl,rfl,rfl,rfl⟩:=he;obtain ⟨j0,j1,j2,j3,j4,j5,j6,j7⟩:=XP (BJ.out.mod m2 (ze));have BR2:=Q (BR.out.mod m2 (ze));obtain ⟨r0,r1⟩:=BR2.out.cells2;obtain ⟨s0,s1,-⟩:=BR2.out.frozs;obtain ⟨k0,k1⟩:=(BN.out.mod m2 (ze)).cells2;have MW:=Q (M0.out.trans' m2);obtain ⟨hi,mi,hbb⟩:=HB2.out;have HBB:=Q hbb;have c1:=hbb.cell 1;have c2:=hbb.cell 2;have c3:=hbb.cell 3;have d2:=hbb.froz 2;have d3:=hbb.froz 3;simp only [Θ,A,ω] at c1 c2 c3;have eq1:=fun w=>EQ.out ⟨f',kd',l',lv',⟨at',aa'⟩,⟨bt',ba'⟩⟩ ⟨f,kd,l,lv,⟨at_,aa⟩,⟨bt,ba⟩⟩ w
 unfold JbQ.cells at eq1;simp only at eq1;obtain ⟨o,ho⟩:∃o,q *11=o:=⟨_,rfl⟩;rw [ho] at y0 y1 y2 y3 y4 y5 y6 y7 y8 y9 y10 ⊢;have hbl2:=hbb.lt;have hgl2:=World.block_lt_of_cell? w2 _ y0;have hrl2:=BR2.out.lt;clear m2 AT BJ BR BN M0 HB2 hbb ho;rcases hv with rfl | ⟨rfl,hv⟩
 ·go_wp2_with fail
  go_quiet (fail)
  exact ZR
 ·by_cases hjj:(⟨f',kd',l',lv',⟨at',aa'⟩,⟨bt',ba'⟩⟩:JbQ)=⟨f,kd,l,lv,⟨at_,aa⟩,⟨bt,ba⟩⟩
  ·rw [decide_eq_true hjj] at eq1;have HV:=Q (hjj▸hv);clear hjj hv;go_wp2_with fail
   go_quiet (fail)
   go_wp2_with fail
   have BX:Blk ((((w2.drewN nq).setCell ⟨b,2,s⟩ (u D (wrap64 (hi+1)))).setCell ⟨gk+1,0,s⟩ (u Z vt)).setCell ⟨gk+1,1,s⟩ (u Y va)) (gk+1) #[(u Z vt),(u Y va)] 44:=by
    have:=(((BR2.out.drewN nq).other ⟨b,2,s⟩ (u D (wrap64 (hi+1))) n8).set 0 (u Z vt)).set 1 (u Y va);simpa using this
   have HX:Blk ((((w2.drewN nq).setCell ⟨b,2,s⟩ (u D (wrap64 (hi+1)))).setCell ⟨gk+1,0,s⟩ (u Z vt)).setCell ⟨gk+1,1,s⟩ (u Y va)) b #[Qa (U ⟨g,0,s⟩) n n,u D 1,u D (wrap64 (hi+1)),u D mi] 156:=by
    have:=(((HBB.out.drewN nq).set 2 (u D (wrap64 (hi+1)))).other ⟨gk+1,0,s⟩ (u Z vt) n7).other ⟨gk+1,1,s⟩ (u Y va) n7;simpa using this
   have MX:Ψ [b,gk+1] w2 ((((w2.drewN nq).setCell ⟨b,2,s⟩ (u D (wrap64 (hi+1)))).setCell ⟨gk+1,0,s⟩ (u Z vt)).setCell ⟨gk+1,1,s⟩ (u Y va)):=((((Mod.refl _ _).drewN nq).setCell _ _ (ze)).setCell _ _ (ze)).setCell _ _ (ze);obtain ⟨z0,z1⟩:=BX.cells2;generalize ((((w2.drewN nq).setCell ⟨b,2,s⟩ (u D (wrap64 (hi+1)))).setCell ⟨gk+1,0,s⟩ (u Z vt)).setCell ⟨gk+1,1,s⟩ (u Y va))=wx at *;refine ψ (v:=ν #[Ω #[(u Z vt),(u Y va)],γ true]) (by simp [κ,δ,go_sem,z0,z1];try rfl) rfl ?_;exact ⟨vt,va,true,rfl,(fun _=>HV.out),⟨wrap64 (hi+1),mi,HX⟩,(MW.out.mono (S':=[b]) (ze)).trans MX (yW)⟩
  ·rw [decide_eq_false hjj] at eq1;clear hjj hv;go_wp2_with fail
   go_quiet (fail)
   exact ZR
end Go.Proofs.YtbnpoapmnkfhkaaGreatDoor
