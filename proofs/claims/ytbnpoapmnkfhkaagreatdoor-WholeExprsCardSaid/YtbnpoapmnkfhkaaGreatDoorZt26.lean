import Derived.Test.YtbnpoapmnkfhkaaGreatDoorZt24
import Derived.Test.YtbnpoapmnkfhkaaGreatDoorZt22
import Derived.Deep.RegionHeld3
import Derived.Deep.CutRange
import Derived.BigQuiet
set_option maxRecDepth 100000
set_option maxHeartbeats 4000000
set_option linter.unusedVariables false
set_option linter.unusedSimpArgs false
namespace Go.Proofs.YtbnpoapmnkfhkaaGreatDoor
open Go.Value renaming int → z, pointer → M, agg → Δ, tuple → φ
open Go.IntKind renaming u8 → y, u32 → o, i64 → τ
open Go.Lib renaming hid → Z
open Option renaming none → Y, some → R
open List renaming getElem?_cons_zero → V, getElem?_cons_succ → U, getElem?_toArray → Q, setIfInBounds_toArray → N, set_cons_zero → H, set_cons_succ → G, length_append → A, mem_cons_of_mem → Ψ, append_assoc → σ, replicate → π, mem_cons → ξ
open Go.RowKit renaming Hid → P
open Go.Obj renaming cells → O
open Nat renaming lt_of_lt_of_le → K, and_zero → ν
open Go.Proofs.Tryz renaming prog → J, results297 → ψ
open Go renaming World → I, Calls → Φ, bodyPost_ret → Γ, results → ρ
open Go.Proofs.YtbnpoapmnkfhkaaGreatDoor renaming Mod → E, zc → D
open Go.Proofs.YtbnpoapmnkfhkaaGreatDoor.Grow renaming of_mod → C, trans → χ
open Go.Ending renaming returned → B
open Go.Proofs.YtbnpoapmnkfhkaaGreatDoor.Blk renaming new' → Ω, mod → Θ
open Go.IntWalk renaming u8_in → Ξ
open Bool renaming false_eq_true → ω
open Go.RowKit
theorem EdT.grow0 {L:List Rc} {f n k l:Nat} {e:Ed} {t:List Bool} (h:EdT L f n k l e t):EdT (L++[]) f n k l e t:=h.grow []
theorem zY7 (ones k l:Nat):zn9 ones (k+1) l=(if ones.testBit l then π (2 ^ k) false else zn9 ones k (l+1))++zn9 ones k (l+1):=rfl
def EdR (w:I) (b n room:Nat) (L:List Rc) (F:List Nat) (f k l:Nat) (t:List Bool) (c:Nat) (r:Ending) (w':I):Prop:=
 ∃(et ea:Nat) (L2:List Rc) (F':List Nat),r=B (φ #[Δ #[z y et,z o ea],z y 0])∧Sto w' b n room (L++L2) F'∧Grow w w' F F'∧EdT (L++L2) f n k l ⟨et,ea⟩ t∧L2.length≤c
theorem ZQ {p:Prop} (h:p:=by
 obtain ⟨c0,c1⟩:=B13y.out.cells2;obtain ⟨d0,d1,-⟩:=B13y.out.frozs;obtain ⟨gz,hgz⟩:∃g,w5.heap.size=g:=⟨_,rfl⟩;have hgl:=B13y.out.lt;rw [hgz] at hgl;have p1:¬g13=gz:=D;have p2:¬gz=g13:=D;go_wp2_with fail;have MZ:P (E [g13] w5 (((w5.setCell ⟨g13,0,Y⟩ (z y rt)).setCell ⟨g13,1,Y⟩ (z o ra)).alloc (O #[z y rt,z o ra] 44))):=(((Mod.refl _ _).setCell _ _ (ze)).setCell _ _ (ze)).alloc _
 have BZ:P (Blk (((w5.setCell ⟨g13,0,Y⟩ (z y rt)).setCell ⟨g13,1,Y⟩ (z o ra)).alloc (O #[z y rt,z o ra] 44)) g13 #[z y rt,z o ra] 44):=by
  have:=((B13y.out.set 0 (z y rt)).set 1 (z o ra)).alloc (O #[z y rt,z o ra] 44);simp only [N,H,G] at this;exact this
 go_roundw
 case rel=>
  refine ⟨k,d+1,L2++L3,rt,ra,F2,yw,hd1,?_,E5,BZ,?_,?_,HH,D⟩
  ·exact S5.out.mod MZ.out (fun k hk h=>xD)
  ·exact B10y.out.mod MZ.out (xE)
  ·exact G5.out.write MZ.out (fun k hk=>vL)
 case measure=>simp [intOf];try omega):p:=h
theorem zA6 {f:Nat} (h1:1≤f) (h5:f≤5) {w:I} {b n room:Nat} {L:List Rc} {F:List Nat} (h:Sto w b n room L F) (hn:n≤5) (hL:L.length+n≤100000) (hroom:L.length+n≤room) (hrm:room≤1048576) (ones:Nat) (ho:ones < 2 ^ n):
 Φ J 83 #[M (R ⟨b,0,Y⟩),z y f,z τ 0,z .u16 ones,z .u16 0] w (EdR w b n room L F f n 0 (zn9 ones n 0) n):=by
 have h32:2 ^ n≤32:=zF;have IF:=Z (YZ f h1 h5)
 have VR:P (∀W,E [] w W→Φ J 67 #[M (R ⟨b,0,Y⟩)] W fun e w'=>e=B (z τ n)∧w'=W):=fun W m=>by
  obtain ⟨ba,bi,Fa,c0,-⟩:=(h.st.mod m (ze)).own;exact YH b n W c0
 have ON:P (∀W',Φ J 108 #[z y f,z τ n] W' fun e' w'=>e'=B (edv (zi1 f n))∧E [] W' w'):=fun W'=>zU4 f h1 h5 n (D) W'
 have HS:=Z h;have O1:bits .or .u16 (ones:Int) 0=(ones:Int):=by have:=u16_or_nat ones 0 (D) (D);rw [Nat.or_zero] at this;exact this
 have hsh:(ones:Int) / 2 ^ n=0:=by
  rw [show (ones:Int) / 2 ^ n=((ones / 2 ^ n:Nat):Int) from yk,Nat.div_eq_of_lt ho];rfl
 have A1:bits .and o (ones:Int) 0=0:=by have:=u32_and_nat ones 0 (D) (D);rw [ν] at this;exact this
 have A2:bits .and .u16 (ones:Int) 0=0:=by have:=u16_and_nat ones 0 (D) (D);rw [ν] at this;exact this
 have B16:=Z (fun k=>yf2 ones k (D));have hob:(ones:Int)≤32:=D;have hn':(n:Int)≤5:=D;have HCT:=Z (fun k l=>zY7 ones k l);clear h ho h32;go_in;go_wp2_with fail;refine (IF.out _).mono ?_;rintro e w1 ⟨rfl,rfl⟩;go_wp2_with fail;refine (VR.out _ (zg)).mono ?_;rintro e w1 ⟨rfl,rfl⟩;obtain ⟨g10,hg10⟩:∃g,w.heap.size=g:=⟨_,rfl⟩;go_wp2_with fail;refine (ON.out _).mono ?_;rintro e w1 ⟨rfl,m1⟩;have B10:=Z ((Ω w #[z y 0,z o 0] 44 g10 hg10.symm).mod m1 (ze));have M1:P (E [] w w1):=Mod.trans' ((Mod.refl _ _).alloc _) m1;have S1:=Z (HS.out.mod M1.out (ze));have HED:=Z (EdT.one L (n:=n) h1 h5);obtain ⟨et,ea,hE⟩:∃t a,zi1 f n=⟨t,a⟩:=⟨_,_,rfl⟩;rw [hE] at HED ⊢;clear hE;clear m1;obtain ⟨g13,hg13⟩:∃g,w1.heap.size=g:=⟨_,rfl⟩;unfold edv;simp only;go_wp2_with fail;have B13:=Z (Ω w1 #[z y et,z o ea] 44 g13 hg13.symm);have M2:P (E [] w1 (w1.alloc (O #[z y et,z o ea] 44))):=(Mod.refl _ _).alloc _;generalize w1.alloc (O #[z y et,z o ea] 44)=w2 at *
 go_loopw [14,15,16,17,18] (fun i14 _ _ _ _ wr=>∃(m d:Nat) (L2:List Rc) (t a:Nat) (F':List Nat),i14=z τ ((m:Int) - 1)∧m+d=n∧P (Sto wr b n room (L++L2) F')∧P (EdT (L++L2) f n d m ⟨t,a⟩ (zn9 ones d m))∧P (Blk wr g13 #[z y t,z o a] 44)∧P (Blk wr g10 #[z y 0,z o 0] 44)∧
  P (Grow w wr F F')∧P (g13∉F'∧g10∉F')∧L2.length+m≤n) (fun i _ _ _ _ _=>(intOf i+1).toNat)
 case atStart=>
  refine ⟨n,0,[],et,ea,F,yV,D,?_,?_,B13,B10.out.mod M2.out (ze),?_,⟨fun h=>by have h2:=HS.out.st.lt _ h;have:=M1.out.size;omega,fun h=>by have h2:=HS.out.st.lt _ h;omega⟩,ze⟩
  ·show Sto _ _ _ _ _ _;rw [List.append_nil];exact S1.out.mod M2.out (ze)
  ·exact HED.out.grow0
  ·exact (C M1.out).then M2.out
 case round=>
  obtain ⟨m,d,L2,t,a,F',rfl,hmd,HS',HE,HB13,HB10,HG,HN,hlen⟩:=hrel;clear B13;by_cases hm0:m=0
  ·subst hm0;obtain rfl:d=n:=D;obtain ⟨e0,e1⟩:=HB13.out.cells2;obtain ⟨x0,x1⟩:=HB10.out.cells2;obtain ⟨y0,y1,-⟩:=HB10.out.frozs;go_wp2_with fail;have BW:=((HB10.out.set 0 (z y t)).set 1 (z o a));simp only [N,H,G] at BW;obtain ⟨z0,z1⟩:=BW.cells2;have MW:P (E [g10] wr ((wr.setCell ⟨g10,0,Y⟩ (z y t)).setCell ⟨g10,1,Y⟩ (z o a))):=((Mod.refl _ _).setCell _ _ (ze)).setCell _ _ (ze);generalize (wr.setCell ⟨g10,0,Y⟩ (z y t)).setCell ⟨g10,1,Y⟩ (z o a)=w4 at *;clear BW x0 x1 y0 y1 e0 e1;refine Γ (v:=φ #[Δ #[z y t,z o a],z y 0]) (by simp [ρ,Tryz.results83,go_sem,z0,z1];try rfl) rfl ?_;exact ⟨t,a,L2,F',rfl,HS'.out.mod MW.out (fun k hk h=>vI),HG.out.write MW.out (fun k hk=>ym),HE.out,D⟩
  ·obtain ⟨k,rfl⟩:∃k,m=k+1:=⟨m - 1,D⟩;have hk0:(((k+1:Nat):Int) - 1)=(k:Int):=D;simp only [hk0];obtain ⟨e0,e1⟩:=HB13.out.cells2;obtain ⟨gn,hgn⟩:∃g,wr.heap.size=g:=⟨_,rfl⟩;have hlt:g13 < gn:=by have:=HB13.out.lt;omega
   have n1:¬g13=gn:=D;have n2:¬gn=g13:=D;have n3:¬g13=gn+1:=D;have n4:¬gn+1=g13:=D;have hk00:(0:Int)≤k:=D;have hk5:(k:Int) < 5:=D;have hb:=B16.out k;have hCT:=HCT.out d k;have hLL:(L++L2).length=L.length+L2.length:=A;go_upto_region 14 with fail;go_cut [15,16] from 66 to 98 (fun p15 p16 wx=>∃ga gb,p15=M (R ⟨ga,0,Y⟩)∧p16=M (R ⟨gb,0,Y⟩)∧P (Blk wx ga #[z y t,z o a] 44)∧P (Blk wx gb #[z y t,z o a] 44)∧gn≤ga∧gn≤gb∧ga≠gb∧P (E [] wr wx))
   case first=>
    go_region
    all_goals (go_wp2_with fail;go_meet)
    all_goals
     have BN:=((Ω wr #[z y t,z o a] 44 gn hgn.symm).alloc (O #[z y t,z o a] 44));have BN1:=(Ω (wr.alloc (O #[z y t,z o a] 44)) #[z y t,z o a] 44 (gn+1) (by simp [hgn]));have MN:E [] wr ((wr.alloc (O #[z y t,z o a] 44)).alloc (O #[z y t,z o a] 44)):=((Mod.refl _ _).alloc _).alloc _
     first
      | exact ⟨gn,gn+1,rfl,rfl,BN,BN1,D,D,D,yy⟩
      | exact ⟨gn+1,gn,rfl,rfl,BN1,BN,D,D,D,yy⟩
   case rest=>
    obtain ⟨ga,gb,rfl,rfl,BA,BB,hga,hgb,hgab,MX⟩:=hcut;have SX:=Z (HS'.out.mod MX.out (ze));have FL:P (∀k∈F',k < gn):=fun k hk=>by have:=HS'.out.st.lt k hk;omega
    have HAF:P (ga∉F'):=fun h=>jq
    have B13x:=Z (HB13.out.mod MX.out (ze));have B10x:=Z (HB10.out.mod MX.out (ze));have HGX:=Z (HG.out.then MX.out);have HNW:P (w.heap.size≤gn):=by show _≤_;have:=HG.out.size;omega
    obtain ⟨a0,a1⟩:=BA.out.cells2;obtain ⟨b0,b1⟩:=BB.out.cells2;obtain ⟨z0,z1,-⟩:=BA.out.frozs;have hab1:¬ga=gb:=hgab;have hab2:¬gb=ga:=fun e=>hgab e.symm
    have hac1:¬ga=g13:=D;have hac2:¬g13=ga:=D;have hbc1:¬gb=g13:=D;have hbc2:¬g13=gb:=D;have had2:¬g10=ga:=xC;have MK:P (∀W (lt la:Nat) tl,E [ga] wc W→EdT (L++L2) f n d (k+1) ⟨lt,la⟩ tl→Φ J 110 #[M (R ⟨b,0,Y⟩),z y f,z τ k,Δ #[z y lt,z o la],Δ #[z y t,z o a]] W (MkT W b n room (L++L2) F' f (d+1) k (tl++zn9 ones d (k+1)))):=fun W lt la tl m hlo=>zV7 (lo:=⟨lt,la⟩) (hi:=⟨t,a⟩) (t:=tl) (u:=zn9 ones d (k+1)) h1 h5 (SX.out.mod m (fun k hk h=>vJ)) (D) (D) hrm (D) hlo HE.out
    have FIN:P (∀W (rt ra:Nat) L3 F2,E [ga] wc W→∀w5,Sto w5 b n room ((L++L2)++L3) F2→Grow W w5 F' F2→L3.length≤1→(Blk w5 g13 #[z y t,z o a] 44∧Blk w5 g10 #[z y 0,z o 0] 44∧Grow w w5 F F2∧g13∉F2∧g10∉F2)):=fun W rt ra L3 F2 mW w5 s5 g5 _=>by
     have l13:g13 < W.heap.size:=by have:=B13x.out.lt;have:=mW.size;omega
     have l10:g10 < W.heap.size:=by have:=B10x.out.lt;have:=mW.size;omega
     exact ⟨(B13x.out.mod mW (by simpa using hac2)).mod g5.mod HN.out.1,(B10x.out.mod mW (by simpa using had2)).mod g5.mod HN.out.2,(HGX.out.write mW (fun k hk=>by simp at hk;have:=HNW.out;omega)).trans g5,g5.out l13 HN.out.1,g5.out l10 HN.out.2⟩
    clear e0 e1;have hd1:k+(d+1)=n:=D;cases hbit:ones.testBit k with
    | true=>
     rw [hbit] at hb hCT;simp only [if_true] at hb hCT;have hz:=Z (EdT.zero (L++L2) (f:=f) (n:=n) (k:=d) (l:=k+1) (D));go_wp2_with fail;refine (MK.out _ 0 0 _ (zg) hz.out).mono ?_
     have MW:P (E [ga] wc ((wc.setCell ⟨ga,0,Y⟩ (z y 0)).setCell ⟨ga,1,Y⟩ (z o 0))):=by
      show E _ _ _;exact yK7
     generalize (wc.setCell ⟨ga,0,Y⟩ (z y 0)).setCell ⟨ga,1,Y⟩ (z o 0)=wy at *;rintro e w5 ⟨rt,ra,L3,F2,rfl,s5,g5,e5,hl5⟩;obtain ⟨f1,f2,f3,f4,f5⟩:=FIN.out wy rt ra L3 F2 MW.out w5 s5 g5 hl5;rw [←hCT] at e5;rw [σ] at s5 e5;have S5:=Z s5;have E5:=Z e5;have G5:=Z f3;have B10y:=Z f2;have B13y:=Z f1;have HH:=Z (And.intro f4 f5);have hl:(L2++L3).length≤L2.length+1:=yz;clear s5 g5 e5 f1 f2 f3 f4 f5 a0 a1 b0 b1 z0 z1 hb hCT hbit hz MK FIN;exact ZQ
    | false=>
     rw [hbit] at hb hCT;simp only [ω,if_false] at hb hCT;go_wp2_with fail;refine (MK.out _ t a _ (zg) HE.out).mono ?_;rintro e w5 ⟨rt,ra,L3,F2,rfl,s5,g5,e5,hl5⟩;obtain ⟨f1,f2,f3,f4,f5⟩:=FIN.out wc rt ra L3 F2 (Mod.refl _ _) w5 s5 g5 hl5;rw [←hCT] at e5;rw [σ] at s5 e5;have S5:=Z s5;have E5:=Z e5;have G5:=Z f3;have B10y:=Z f2;have B13y:=Z f1;have HH:=Z (And.intro f4 f5);have hl:(L2++L3).length≤L2.length+1:=yz;clear s5 g5 e5 f1 f2 f3 f4 f5 a0 a1 b0 b1 z0 z1 hb hCT hbit MK FIN;exact ZQ
open Go.RowKit
theorem Grow.cons {w w':I} {F F':List Nat} (h:Grow w w' F F') (x:Nat):Grow w w' (x::F) (x::F'):=
 ⟨h.mod.mono (fun k _ hk=>Ψ _ hk),fun k hk=>(ξ.1 hk).elim (fun e=>.inl (yA)) (fun hk=>(h.own k hk).imp (Ψ _) id)⟩
theorem Grow.of_mods {w w':I} {F S:List Nat} (m:E S w w') (hS:∀k∈S,k∈F):Grow w w' F F:=⟨m.mono (fun k _ hk=>hS k hk),fun _ h=>.inl h⟩
def VA (L:List Rc) (n:Nat) (j:JbA) (v:Ed):Prop:=
 ∃k ta tb tc,1≤j.f∧j.f≤5∧EdT L j.f n k j.l j.a ta∧EdT L j.f n k j.l j.b tb∧EdT L j.f n k j.l j.c tc∧EdT L j.f n k j.l v (zc6 j.op ta tb tc)
theorem VA.grow {L:List Rc} {n:Nat} {j:JbA} {v:Ed} (h:VA L n j v) (L2:List Rc):VA (L++L2) n j v:=by
 obtain ⟨k,ta,tb,tc,h1,h5,a,b,c,d⟩:=h;exact ⟨k,ta,tb,tc,h1,h5,a.grow L2,b.grow L2,c.grow L2,d.grow L2⟩
theorem VA.told {L:List Rc} {n k:Nat} {j:JbA} {v:Ed} (h:VA L n j v) {ta tb tc:List Bool} (a:EdT L j.f n k j.l j.a ta) (b:EdT L j.f n k j.l j.b tb) (c:EdT L j.f n k j.l j.c tc):EdT L j.f n k j.l v (zc6 j.op ta tb tc):=by
 obtain ⟨k',ta',tb',tc',h1,h5,a',b',c',d⟩:=h;obtain ⟨rfl,rfl⟩:=a.fun_ h1 h5 a';obtain ⟨-,rfl⟩:=b.fun_ h1 h5 b';obtain ⟨-,rfl⟩:=c.fun_ h1 h5 c';exact d
structure EngA (w:I) (bs n room:Nat) (L:List Rc) (F:List Nat) (bo bc g:Nat):Prop where
 ops:Blk w bo #[M (R ⟨bs,0,Y⟩),M (R ⟨bc,0,Y⟩)] 73
 head:CHead 153 w bc g 256
 tab:TabP 390 12 w g 256 (EnA (VA L n))
 sto:Sto w bs n room L F
 no:bo∉F∧bc∉F∧g∉F
 ap:bo≠bc∧bo≠g∧bc≠g
theorem EngA.mod {S:List Nat} {w w':I} {bs n room:Nat} {L:List Rc} {F:List Nat} {bo bc g:Nat} (h:EngA w bs n room L F bo bc g) (m:E S w w') (hd:∀k∈bo::bc::g::F,k∉S):EngA w' bs n room L F bo bc g:=
 ⟨h.ops.mod m (hd _ (ze)),h.head.mod m (hd _ (ze)),h.tab.mod m (hd _ (ze)),h.sto.mod m (fun k hk=>hd k (zC)),h.no,h.ap⟩
theorem EngA.mod0 {w w':I} {bs n room:Nat} {L:List Rc} {F:List Nat} {bo bc g:Nat} (h:EngA w bs n room L F bo bc g) (m:E [] w w'):EngA w' bs n room L F bo bc g:=h.mod m (ze)
theorem EngA.lt {w:I} {bs n room:Nat} {L:List Rc} {F:List Nat} {bo bc g:Nat} (h:EngA w bs n room L F bo bc g):∀k∈bo::bc::g::F,k < w.heap.size:=by
 intro k hk;simp at hk;rcases hk with rfl | rfl | rfl | hk
 ·exact h.ops.lt
 ·exact h.head.lt
 ·exact h.tab.lt
 ·exact h.sto.st.lt k hk
theorem EngA.grown {w w':I} {bs n room:Nat} {L L2:List Rc} {F F':List Nat} {bo bc g:Nat} (h:EngA w bs n room L F bo bc g) (s:Sto w' bs n room (L++L2) F') (m:Grow w w' F F'):EngA w' bs n room (L++L2) F' bo bc g:=
 ⟨h.ops.mod m.mod h.no.1,h.head.mod m.mod h.no.2.1,(h.tab.mod m.mod h.no.2.2).imp fun e he=>he.imp fun j v q=>q.grow L2,s,⟨m.out h.ops.lt h.no.1,m.out h.head.lt h.no.2.1,m.out h.tab.lt h.no.2.2⟩,h.ap⟩
theorem EngA.got {w w':I} {bs n room:Nat} {L:List Rc} {F:List Nat} {bo bc g:Nat} (h:EngA w bs n room L F bo bc g) (c:CHead 153 w' bc g 256) (m:E [bc] w w'):EngA w' bs n room L F bo bc g:=
 ⟨h.ops.mod m (by simpa using h.ap.1),c,h.tab.mod m (by simpa using h.ap.2.2.symm),h.sto.mod m (fun k hk q=>vM),h.no,h.ap⟩
theorem EngA.putt {w w':I} {bs n room:Nat} {L:List Rc} {F:List Nat} {bo bc g:Nat} (h:EngA w bs n room L F bo bc g) (c:TabP 390 12 w' g 256 (EnA (VA L n))) (m:E [g] w w'):EngA w' bs n room L F bo bc g:=
 ⟨h.ops.mod m (by simpa using h.ap.2.1),h.head.mod m (by simpa using h.ap.2.2),c,h.sto.mod m (fun k hk q=>vN),h.no,h.ap⟩
def DoR (w:I) (bs n room:Nat) (L:List Rc) (F:List Nat) (bo bc g f k l:Nat) (t:List Bool) (c:Nat) (r:Ending) (w':I):Prop:=
 ∃(et ea:Nat) (L2:List Rc) (F':List Nat),r=B (φ #[Δ #[z y et,z o ea],z y 0])∧EngA w' bs n room (L++L2) F' bo bc g∧Grow w w' (bc::g::F) (bc::g::F')∧EdT (L++L2) f n k l ⟨et,ea⟩ t∧L2.length≤c
def DoA (bs n room bo bc g f op k l:Nat):Prop:=
 ∀(w:I) (L:List Rc) (F:List Nat) (at_ aa bt ba ct ca:Nat) (ta tb tc:List Bool),EngA w bs n room L F bo bc g→L.length+4 *2 ^ k≤100000→L.length+4 *2 ^ k≤room→
  EdT L f n k l ⟨at_,aa⟩ ta→EdT L f n k l ⟨bt,ba⟩ tb→EdT L f n k l ⟨ct,ca⟩ tc→
  Φ J 297 #[M (R ⟨bo,0,Y⟩),Δ #[z y f,z y op,z y l,z y at_,z o aa,z y bt,z o ba,z y ct,z o ca]] w (DoR w bs n room L F bo bc g f k l (zc6 op ta tb tc) (4 *(2 ^ k - 1)))
def SplA (bs n room bo bc g f op k l:Nat):Prop:=
 ∀(w:I) (L:List Rc) (F:List Nat) (at_ aa bt ba ct ca:Nat) (ta tb tc:List Bool),EngA w bs n room L F bo bc g→L.length+4 *2 ^ k≤100000→L.length+4 *2 ^ k≤room→
  EdT L f n k l ⟨at_,aa⟩ ta→EdT L f n k l ⟨bt,ba⟩ tb→EdT L f n k l ⟨ct,ca⟩ tc→
  Φ J 300 #[M (R ⟨bo,0,Y⟩),Δ #[z y f,z y op,z y l,z y at_,z o aa,z y bt,z o ba,z y ct,z o ca]] w (DoR w bs n room L F bo bc g f k l (zc6 op ta tb tc) (4 *(2 ^ k - 1)))
theorem EdT.leaf {L:List Rc} {f n:Nat} {e:Ed} {t:List Bool} (h:EdT L f n 0 n e t) (h1:1≤f) (h5:f≤5):t=[decide (0 < e.a)]:=by
 have h0:=h.at0 h1 h5;have hl:=h.len
 match t,hl with
 | [true],_=>
  have:e.a≠0:=fun q=>h0.1 q (ze)
  simp;omega
 | [false],_=>
  have:=h0.2 (ze);simp [this]
theorem EdT.bit (L:List Rc) {f n:Nat} (h1:1≤f) (h5:f≤5) (b:Bool):EdT L f n 0 n (if b then zi1 f n else ⟨0,0⟩) [b]:=by
 cases b with
 | true=>exact EdT.one L h1 h5
 | false=>exact EdT.zero L (k:=0) (D)
theorem EdT.none {L:List Rc} {f n k l:Nat} {e:Ed} {t:List Bool} (h:EdT L f n k l e t) (h1:1≤f) (h5:f≤5) (h0:e.a=0):t=π (2 ^ k) false:=yi8 h.len ((h.at0 h1 h5).1 h0)
open Go.RowKit
theorem Blk.eq {w:I} {b:Nat} {c c':Array Value} {t:TypeId} (h:Blk w b c t) (e:c=c'):Blk w b c' t:=e▸h
structure Prv (w0 w:I) (X:List Nat) (b:Nat) (c:Array Value) (t:TypeId):Prop where
 blk:Blk w b c t
 no:b∉X
 new:w0.heap.size≤b
theorem Prv.call {w0 w w':I} {bo:Nat} {X X':List Nat} {b:Nat} {c:Array Value} {t:TypeId} (h:Prv w0 w (bo::X) b c t) (g:Grow w w' X X'):Prv w0 w' (bo::X') b c t:=
 ⟨h.blk.mod g.mod (fun q=>h.no (Ψ _ q)),fun q=>(ξ.1 q).elim (fun e=>h.no (yA)) (g.out h.blk.lt (fun q=>h.no (Ψ _ q))),h.new⟩
theorem Prv.mod {w0 w w':I} {X S:List Nat} {b:Nat} {c:Array Value} {t:TypeId} (h:Prv w0 w X b c t) (m:E S w w') (hn:b∉S):Prv w0 w' X b c t:=⟨h.blk.mod m hn,h.no,h.new⟩
structure SpA (w0 w:I) (bs n room:Nat) (F0:List Nat) (bo bc g:Nat) (L:List Rc) (F:List Nat):Prop where
 eng:EngA w bs n room L F bo bc g
 gr:Grow w0 w (bc::g::F0) (bc::g::F)
theorem SpA.write {w0 w w':I} {bs n room:Nat} {F0:List Nat} {bo bc g:Nat} {L:List Rc} {F S:List Nat} (h:SpA w0 w bs n room F0 bo bc g L F) (m:E S w w') (h0:∀k∈S,w0.heap.size≤k) (h1:∀k∈S,k∉bo::bc::g::F):SpA w0 w' bs n room F0 bo bc g L F:=
 ⟨h.eng.mod m (fun k hk hS=>h1 k hS hk),h.gr.write m h0⟩
theorem SpA.grown {w0 w w':I} {bs n room:Nat} {F0:List Nat} {bo bc g:Nat} {L L2:List Rc} {F F':List Nat} (h:SpA w0 w bs n room F0 bo bc g L F) (s:Sto w' bs n room (L++L2) F') (m:Grow w w' F F'):SpA w0 w' bs n room F0 bo bc g (L++L2) F':=
 ⟨h.eng.grown s m,h.gr.trans ((m.cons g).cons bc)⟩
theorem SpA.did {w0 w w':I} {bs n room:Nat} {F0:List Nat} {bo bc g:Nat} {L L2:List Rc} {F F':List Nat} (h:SpA w0 w bs n room F0 bo bc g L F) (s:EngA w' bs n room (L++L2) F' bo bc g) (m:Grow w w' (bc::g::F) (bc::g::F')):SpA w0 w' bs n room F0 bo bc g (L++L2) F':=⟨s,h.gr.trans m⟩
theorem zO7 {bs n room bo bc g f op k l:Nat} (h1:1≤f) (h5:f≤5) (hn:n≤16) (hrm:room≤1048576) (hop:op < 256) (hlk:l+(k+1)=n) (ih:DoA bs n room bo bc g f op k (l+1)):SplA bs n room bo bc g f op (k+1) l:=by
 intro w L F at_ aa bt ba ct ca ta tb tc HE hb1 hb2 ea eb ec;have hpk:4 *2 ^ (k+1)=4 *2 ^ k+4 *2 ^ k:=xA;have hpk0:=Nat.two_pow_pos k
 have VW:P (∀(W:I) (L':List Rc) (F':List Nat) (et ea:Nat) (t':List Bool),Sto W bs n room L' F'→L'.length < room→L'.length≤100000→EdT L' f n (k+1) l ⟨et,ea⟩ t'→
  Φ J 303 #[M (R ⟨bs,0,Y⟩),z y f,Δ #[z y et,z o ea],z τ l] W (VwT W bs n room L' F' f k l t')):=fun W L' F' et ea t' s a1 a2 e=>yn1 (e:=⟨et,ea⟩) h1 h5 s a2 a1 hrm hn e
 have MK:P (∀(W:I) (L':List Rc) (F':List Nat) (et ea et2 ea2:Nat) (t' u':List Bool),Sto W bs n room L' F'→L'.length < room→L'.length≤100000→EdT L' f n k (l+1) ⟨et,ea⟩ t'→EdT L' f n k (l+1) ⟨et2,ea2⟩ u'→
  Φ J 110 #[M (R ⟨bs,0,Y⟩),z y f,z τ l,Δ #[z y et,z o ea],Δ #[z y et2,z o ea2]] W (MkT W bs n room L' F' f (k+1) l (t'++u'))):=fun W L' F' et ea et2 ea2 t' u' s a1 a2 e e'=>zV7 (lo:=⟨et,ea⟩) (hi:=⟨et2,ea2⟩) h1 h5 s a2 a1 hrm hn e e'
 have DO:P (∀(W:I) (L':List Rc) (F':List Nat) (x1 x2 x3 x4 x5 x6:Nat) (t1 t2 t3:List Bool),EngA W bs n room L' F' bo bc g→L'.length+4 *2 ^ k≤100000→L'.length+4 *2 ^ k≤room→
  EdT L' f n k (l+1) ⟨x1,x2⟩ t1→EdT L' f n k (l+1) ⟨x3,x4⟩ t2→EdT L' f n k (l+1) ⟨x5,x6⟩ t3→
  Φ J 297 #[M (R ⟨bo,0,Y⟩),Δ #[z y f,z y op,z y ((l:Int)+1),z y x1,z o x2,z y x3,z o x4,z y x5,z o x6]] W (DoR W bs n room L' F' bo bc g f k (l+1) (zc6 op t1 t2 t3) (4 *(2 ^ k - 1)))):=fun W L' F' x1 x2 x3 x4 x5 x6 t1 t2 t3 a b c d e h=>by
  have:=ih W L' F' x1 x2 x3 x4 x5 x6 t1 t2 t3 a b c d e h;simpa using this
 have eT:zc6 op ta tb tc=zc6 op (ta.take (2 ^ k)) (tb.take (2 ^ k)) (tc.take (2 ^ k))++zc6 op (ta.drop (2 ^ k)) (tb.drop (2 ^ k)) (tc.drop (2 ^ k)):=by
  have l1:=ea.len;have l2:=eb.len;have l3:=ec.len;rw [Nat.pow_succ] at l1 l2 l3;exact zL1 (D) (D) (D)
 rw [eT];have hlt:(l:Int) < 16:=D;have WL:IntKind.u8.wrap ((l:Int)+1)=(l:Int)+1:=Ξ _ ⟨D,D⟩;have LB1:P (L.length < room∧L.length≤100000):=⟨D,D⟩;have LB:P (L.length+4 *2 ^ (k+1)≤100000∧L.length+4 *2 ^ (k+1)≤room∧4 *2 ^ (k+1)=4 *2 ^ k+4 *2 ^ k∧0 < 2 ^ k):=⟨hb1,hb2,hpk,hpk0⟩;have E1:=Z ea;have E2:=Z eb;have E3:=Z ec;have HX:=Z HE;have LT:=Z HE.lt;obtain ⟨gj,hgj⟩:∃gj,w.heap.size=gj:=⟨_,rfl⟩;clear HE ea eb ec hb1 hb2 ih hpk hpk0 eT hop hlk;go_in;go_upto_region 2 with fail;have BJ0:=Ω w #[z y f,z y op,z y l,z y at_,z o aa,z y bt,z o ba,z y ct,z o ca] 71 gj hgj.symm;have BJ1:=BJ0.alloc (O #[z y 0,z o 0] 44);have BR1:=Ω (w.alloc (O #[z y f,z y op,z y l,z y at_,z o aa,z y bt,z o ba,z y ct,z o ca] 71)) #[z y 0,z o 0] 44 (gj+1) (yB);have M1:P (E [] w ((w.alloc (O #[z y f,z y op,z y l,z y at_,z o aa,z y bt,z o ba,z y ct,z o ca] 71)).alloc (O #[z y 0,z o 0] 44))):=zg;have hs1:((w.alloc (O #[z y f,z y op,z y l,z y at_,z o aa,z y bt,z o ba,z y ct,z o ca] 71)).alloc (O #[z y 0,z o 0] 44)).heap.size=gj+1+1:=yB;generalize (w.alloc (O #[z y f,z y op,z y l,z y at_,z o aa,z y bt,z o ba,z y ct,z o ca] 71)).alloc (O #[z y 0,z o 0] 44)=w1 at *;have HBJ:=Z BJ1;have HBR:=Z BR1;clear BJ0 BR1;obtain ⟨j0,j1,j2,j3,j4,j5,j6,j7,j8⟩:=cells9 BJ1;have hjl:=BJ1.lt;clear BJ1;have nA:¬gj=gj+1+1:=D;have nB:¬gj=gj+1+1+1:=D;go_cut [7,8] from 15 to 16 (fun p q wx=>∃gl gh,p=M (R ⟨gl,0,Y⟩)∧q=M (R ⟨gh,0,Y⟩)∧P (Blk wx gl #[z y f,z y op,z y l,z y at_,z o aa,z y bt,z o ba,z y ct,z o ca] 71)∧P (Blk wx gh #[z y f,z y op,z y l,z y at_,z o aa,z y bt,z o ba,z y ct,z o ca] 71)∧gj+1 < gl∧gj+1 < gh∧gl≠gh∧P (E [] w1 wx))
 case first=>
  go_region
  all_goals (go_wp2_with fail;go_meet)
  all_goals
   have BN:=((Ω w1 #[z y f,z y op,z y l,z y at_,z o aa,z y bt,z o ba,z y ct,z o ca] 71 (gj+1+1) hs1.symm).alloc (O #[z y f,z y op,z y l,z y at_,z o aa,z y bt,z o ba,z y ct,z o ca] 71));have BN1:=(Ω (w1.alloc (O #[z y f,z y op,z y l,z y at_,z o aa,z y bt,z o ba,z y ct,z o ca] 71)) #[z y f,z y op,z y l,z y at_,z o aa,z y bt,z o ba,z y ct,z o ca] 71 (gj+1+1+1) (by simp [hs1]));have MN:E [] w1 ((w1.alloc (O #[z y f,z y op,z y l,z y at_,z o aa,z y bt,z o ba,z y ct,z o ca] 71)).alloc (O #[z y f,z y op,z y l,z y at_,z o aa,z y bt,z o ba,z y ct,z o ca] 71)):=((Mod.refl _ _).alloc _).alloc _
   first
    | exact ⟨_,_,rfl,rfl,BN,BN1,D,D,D,yy⟩
    | exact ⟨_,_,rfl,rfl,BN1,BN,D,D,D,yy⟩
 case rest=>
  obtain ⟨gl,gh,rfl,rfl,BL,BH,hgl,hgh,hlh,M2⟩:=hcut;have BJ:=Z (HBJ.out.mod M2.out (ze));have BR:=Z (HBR.out.mod M2.out (ze));replace M2:=Z (M1.out.trans' M2.out);generalize wc=w2 at *;clear nA nB HBJ HBR M1 hs1 hjl j0 j1 j2 j3 j4 j5 j6 j7 j8;obtain ⟨j0,j1,j2,-⟩:=cells9 BJ.out;have hjl:¬gj=gl:=D;have hlj:¬gl=gj:=D;have hjh:¬gj=gh:=D;have hhj:¬gh=gj:=D;have hhl:¬gh=gl:=fun e=>hlh e.symm
  have hrl:¬gj+1=gl:=D;have hrh:¬gj+1=gh:=D;have u0:=BL.out.froz 2;have u1:=BH.out.froz 2;have x0:=BL.out.cell 2;have x1:=BH.out.cell 2;simp only [Q,V,U] at x0 x1;have hgll:=BL.out.lt;have hghl:=BH.out.lt;have hgjj:=BJ.out.lt;go_upto_region 3 with fail;go_cut [6] from 17 to 24 (fun p wx=>p=z τ l∧P (Blk wx gl #[z y f,z y op,z y ((l:Int)+1),z y at_,z o aa,z y bt,z o ba,z y ct,z o ca] 71)∧P (Blk wx gh #[z y f,z y op,z y ((l:Int)+1),z y at_,z o aa,z y bt,z o ba,z y ct,z o ca] 71)∧P (E [gl,gh] w2 wx))
  case first=>
   go_region
   all_goals (go_wp2_with fail;go_meet)
   all_goals
    refine ⟨rfl,?_,?_,zg⟩
    ·first
      | exact Blk.eq ((BL.out.set 2 (z y ((l:Int)+1))).other ⟨gh,2,Y⟩ (z y ((l:Int)+1)) hlh).drew (ze)
      | exact Blk.eq ((BL.out.other ⟨gh,2,Y⟩ (z y ((l:Int)+1)) hlh).set 2 (z y ((l:Int)+1))).drew (ze)
    ·first
      | exact Blk.eq ((BH.out.other ⟨gl,2,Y⟩ (z y ((l:Int)+1)) hhl).set 2 (z y ((l:Int)+1))).drew (ze)
      | exact Blk.eq ((BH.out.set 2 (z y ((l:Int)+1))).other ⟨gl,2,Y⟩ (z y ((l:Int)+1)) hhl).drew (ze)
  case rest=>
   obtain ⟨rfl,BL2,BH2,M3⟩:=hcut;clear j0 j1 j2 u0 u1 x0 x1 hgll hghl hgjj;have NJ:P (∀b,gj≤b→b∉bo::bc::g::F):=fun b hb h=>by have:=LT.out b h;omega
   have SP:P (SpA w wc bs n room F bo bc g L F):=⟨(HX.out.mod0 M2.out).mod M3.out (fun k hk q=>vO),(C M2.out).write M3.out (fun k hk=>ym)⟩;have PJ:P (Prv w wc (bo::bc::g::F) gj #[z y f,z y op,z y l,z y at_,z o aa,z y bt,z o ba,z y ct,z o ca] 71):=⟨BJ.out.mod M3.out (yL),NJ.out _ (D),D⟩;have PR:P (Prv w wc (bo::bc::g::F) (gj+1) #[z y 0,z o 0] 44):=⟨BR.out.mod M3.out (yM),NJ.out _ (D),D⟩;have PL:P (Prv w wc (bo::bc::g::F) gl #[z y f,z y op,z y ((l:Int)+1),z y at_,z o aa,z y bt,z o ba,z y ct,z o ca] 71):=⟨BL2.out,NJ.out _ (D),D⟩;have PH:P (Prv w wc (bo::bc::g::F) gh #[z y f,z y op,z y ((l:Int)+1),z y at_,z o aa,z y bt,z o ba,z y ct,z o ca] 71):=⟨BH2.out,NJ.out _ (D),D⟩;obtain ⟨gr,hgr⟩:∃gr,gj+1=gr:=⟨_,rfl⟩;rw [hgr] at hrl hrh PR ⊢;have JR:P (¬gj=gr):=by show ¬_;omega
   clear BJ BR BL BH BL2 BH2 M2 M3 NJ hgj hgl hgh hgr;generalize wc=wa at *;have LB1:P (L.length < room∧L.length≤100000):=⟨qz,qz⟩;have ST:=Z SP.out.eng.sto;have hbol:=SP.out.eng.ops.lt;have q0:=SP.out.eng.ops.cell 0;have q1:=PJ.out.blk.cell 0;have q2:=PJ.out.blk.cell 3;have q3:=PJ.out.blk.cell 4;simp only [Q,V,U] at q0 q1 q2 q3;have hgjl:=PJ.out.blk.lt;have nbo:=SP.out.eng.no.1;have nj:gj∉F:=fun h=>PJ.out.no (zn)
   have nl:gl∉F:=fun h=>PL.out.no (zn)
   have nh:gh∉F:=fun h=>PH.out.no (zn)
   have d1:¬bo=gl:=fun h=>PL.out.no (zn)
   have d2:¬gl=bo:=fun h=>PL.out.no (zn)
   have d3:¬bo=gh:=fun h=>PH.out.no (zn)
   have d4:¬gh=bo:=fun h=>PH.out.no (zn)
   go_upto_region 5 with fail;go_cut [9] from 26 to 40 (fun p wx=>∃(lt1 la1 ht1 ha1:Nat) (L1:List Rc) (F1:List Nat),p=z y 0∧P (SpA w wx bs n room F bo bc g (L++L1) F1)∧P (Prv w wx (bo::bc::g::F1) gj #[z y f,z y op,z y l,z y at_,z o aa,z y bt,z o ba,z y ct,z o ca] 71)∧P (Prv w wx (bo::bc::g::F1) gr #[z y 0,z o 0] 44)∧P (Prv w wx (bo::bc::g::F1) gl #[z y f,z y op,z y ((l:Int)+1),z y lt1,z o la1,z y bt,z o ba,z y ct,z o ca] 71)∧P (Prv w wx (bo::bc::g::F1) gh #[z y f,z y op,z y ((l:Int)+1),z y ht1,z o ha1,z y bt,z o ba,z y ct,z o ca] 71)∧P (EdT (L++L1) f n k (l+1) ⟨lt1,la1⟩ (ta.take (2 ^ k)))∧P (EdT (L++L1) f n k (l+1) ⟨ht1,ha1⟩ (ta.drop (2 ^ k)))∧L1.length≤1)
   case first=>
    go_region_held3 (fun w'=>w'.cell? ⟨bo,0,Y⟩=R (M (R ⟨bs,0,Y⟩))∧w'.cell? ⟨gj,0,Y⟩=R (z y f)∧w'.cell? ⟨gj,3,Y⟩=R (z y at_)∧w'.cell? ⟨gj,4,Y⟩=R (z o aa)) (go_keep) (first | (go_at_call 303;refine (VW.out _ _ _ at_ aa ta (ST.out.mod (S:=[]) (zg) (ze)) LB1.out.1 LB1.out.2 E1.out).mono ?_;rintro e' w2 ⟨lt1,la1,ht1,ha1,L1,F1,rfl,s2,g2,e1,e2,hl2⟩;have G2:=χ (C (F:=F) (show E [] wa _ from zg)) g2;have q0:=(G2.mod.cell (a:=⟨bo,0,Y⟩) hbol nbo).trans q0;have bj2:=Θ PJ.out.blk G2.mod nj;have bl2:=Θ PL.out.blk G2.mod nl;have bh2:=Θ PH.out.blk G2.mod nh;have q1:=bj2.cell 0;have q2:=bj2.cell 3;have q3:=bj2.cell 4;have r0:=bl2.cell 3;have r1:=bl2.cell 4;have r2:=bh2.cell 3;have r3:=bh2.cell 4;have u0:=bl2.froz 3;have u1:=bl2.froz 4;have u2:=bh2.froz 3;have u3:=bh2.froz 4;simp only [Q,V,U] at q1 q2 q3 r0 r1 r2 r3;have hgl2:=bl2.lt;have hgh2:=bh2.lt;have hgj2:=bj2.lt;have hbo2:=K hbol G2.mod.size))
    all_goals (go_wp2_with fail;go_meet)
    all_goals
     refine ⟨lt1,la1,ht1,ha1,L1,F1,rfl,?_⟩;have SG:=SP.out.grown s2 G2;have GC:=(G2.cons g).cons bc;have PL2:=PL.out.call GC;have PH2:=PH.out.call GC;refine ⟨SG.write (S:=[gl,gh]) (zg) (xF) (xG),(PJ.out.call GC).mod (S:=[gl,gh]) (zg) (yL),(PR.out.call GC).mod (S:=[gl,gh]) (zg) (yM),⟨?_,PL2.no,PL.out.new⟩,⟨?_,PH2.no,PH.out.new⟩,e1,e2,hl2⟩
     ·first
       | exact Blk.eq ((((bl2.set 3 (z y lt1)).set 4 (z o la1)).other ⟨gh,3,Y⟩ (z y ht1) hlh).other ⟨gh,4,Y⟩ (z o ha1) hlh) (ze)
       | exact Blk.eq ((((bl2.other ⟨gh,3,Y⟩ (z y ht1) hlh).other ⟨gh,4,Y⟩ (z o ha1) hlh).set 3 (z y lt1)).set 4 (z o la1)) (ze)
     ·first
       | exact Blk.eq ((((bh2.other ⟨gl,3,Y⟩ (z y lt1) hhl).other ⟨gl,4,Y⟩ (z o la1) hhl).set 3 (z y ht1)).set 4 (z o ha1)) (ze)
       | exact Blk.eq ((((bh2.set 3 (z y ht1)).set 4 (z o ha1)).other ⟨gl,3,Y⟩ (z y lt1) hhl).other ⟨gl,4,Y⟩ (z o la1) hhl) (ze)
   case rest=>
    clear SP PJ PR PL PH q0 q1 q2 q3 hbol hgjl nbo nj nl nh d1 d2 d3 d4 ST;obtain ⟨lt1,la1,ht1,ha1,L1,F1,rfl,SP,PJ,PR,PL,PH,EL1,EH1,hl1⟩:=hcut;clear wa;generalize wc=wa at *;have EB:=Z (E2.out.grow L1);have LB2:P ((L++L1).length < room∧(L++L1).length≤100000):=⟨qC,qC⟩;have ST:=Z SP.out.eng.sto;have hbol:=SP.out.eng.ops.lt;have q0:=SP.out.eng.ops.cell 0;have q1:=PJ.out.blk.cell 0;have q2:=PJ.out.blk.cell 5;have q3:=PJ.out.blk.cell 6;simp only [Q,V,U] at q0 q1 q2 q3;have hgjl:=PJ.out.blk.lt;have nbo:=SP.out.eng.no.1;have nj:gj∉F1:=fun h=>PJ.out.no (zn)
    have nl:gl∉F1:=fun h=>PL.out.no (zn)
    have nh:gh∉F1:=fun h=>PH.out.no (zn)
    have d1:¬bo=gl:=fun h=>PL.out.no (zn)
    have d2:¬gl=bo:=fun h=>PL.out.no (zn)
    have d3:¬bo=gh:=fun h=>PH.out.no (zn)
    have d4:¬gh=bo:=fun h=>PH.out.no (zn)
    go_upto_region 8 with fail;go_cut [9] from 46 to 60 (fun p wx=>∃(lt2 la2 ht2 ha2:Nat) (L2:List Rc) (F2:List Nat),p=z y 0∧P (SpA w wx bs n room F bo bc g ((L++L1)++L2) F2)∧P (Prv w wx (bo::bc::g::F2) gj #[z y f,z y op,z y l,z y at_,z o aa,z y bt,z o ba,z y ct,z o ca] 71)∧P (Prv w wx (bo::bc::g::F2) gr #[z y 0,z o 0] 44)∧P (Prv w wx (bo::bc::g::F2) gl #[z y f,z y op,z y ((l:Int)+1),z y lt1,z o la1,z y lt2,z o la2,z y ct,z o ca] 71)∧P (Prv w wx (bo::bc::g::F2) gh #[z y f,z y op,z y ((l:Int)+1),z y ht1,z o ha1,z y ht2,z o ha2,z y ct,z o ca] 71)∧P (EdT ((L++L1)++L2) f n k (l+1) ⟨lt2,la2⟩ (tb.take (2 ^ k)))∧P (EdT ((L++L1)++L2) f n k (l+1) ⟨ht2,ha2⟩ (tb.drop (2 ^ k)))∧L2.length≤1)
    case first=>
     go_region_held3 (fun w'=>w'.cell? ⟨bo,0,Y⟩=R (M (R ⟨bs,0,Y⟩))∧w'.cell? ⟨gj,0,Y⟩=R (z y f)∧w'.cell? ⟨gj,5,Y⟩=R (z y bt)∧w'.cell? ⟨gj,6,Y⟩=R (z o ba)) (go_keep) (first | (go_at_call 303;refine (VW.out _ _ _ bt ba tb (ST.out.mod (S:=[]) (zg) (ze)) LB2.out.1 LB2.out.2 EB.out).mono ?_;rintro e' w2 ⟨lt2,la2,ht2,ha2,L2,F2,rfl,s2,g2,e1,e2,hl2⟩;have G2:=χ (C (F:=F1) (show E [] wa _ from zg)) g2;have q0:=(G2.mod.cell (a:=⟨bo,0,Y⟩) hbol nbo).trans q0;have bj2:=Θ PJ.out.blk G2.mod nj;have bl2:=Θ PL.out.blk G2.mod nl;have bh2:=Θ PH.out.blk G2.mod nh;have q1:=bj2.cell 0;have q2:=bj2.cell 5;have q3:=bj2.cell 6;have r0:=bl2.cell 5;have r1:=bl2.cell 6;have r2:=bh2.cell 5;have r3:=bh2.cell 6;have u0:=bl2.froz 5;have u1:=bl2.froz 6;have u2:=bh2.froz 5;have u3:=bh2.froz 6;simp only [Q,V,U] at q1 q2 q3 r0 r1 r2 r3;have hgl2:=bl2.lt;have hgh2:=bh2.lt;have hgj2:=bj2.lt;have hbo2:=K hbol G2.mod.size))
     all_goals (go_wp2_with fail;go_meet)
     all_goals
      refine ⟨lt2,la2,ht2,ha2,L2,F2,rfl,?_⟩;have SG:=SP.out.grown s2 G2;have GC:=(G2.cons g).cons bc;have PL2:=PL.out.call GC;have PH2:=PH.out.call GC;refine ⟨SG.write (S:=[gl,gh]) (zg) (xF) (xG),(PJ.out.call GC).mod (S:=[gl,gh]) (zg) (yL),(PR.out.call GC).mod (S:=[gl,gh]) (zg) (yM),⟨?_,PL2.no,PL.out.new⟩,⟨?_,PH2.no,PH.out.new⟩,e1,e2,hl2⟩
      ·first
        | exact Blk.eq ((((bl2.set 5 (z y lt2)).set 6 (z o la2)).other ⟨gh,5,Y⟩ (z y ht2) hlh).other ⟨gh,6,Y⟩ (z o ha2) hlh) (ze)
        | exact Blk.eq ((((bl2.other ⟨gh,5,Y⟩ (z y ht2) hlh).other ⟨gh,6,Y⟩ (z o ha2) hlh).set 5 (z y lt2)).set 6 (z o la2)) (ze)
      ·first
        | exact Blk.eq ((((bh2.other ⟨gl,5,Y⟩ (z y lt2) hhl).other ⟨gl,6,Y⟩ (z o la2) hhl).set 5 (z y ht2)).set 6 (z o ha2)) (ze)
        | exact Blk.eq ((((bh2.set 5 (z y ht2)).set 6 (z o ha2)).other ⟨gl,5,Y⟩ (z y lt2) hhl).other ⟨gl,6,Y⟩ (z o la2) hhl) (ze)
    case rest=>
     clear SP PJ PR PL PH q0 q1 q2 q3 hbol hgjl nbo nj nl nh d1 d2 d3 d4 ST;obtain ⟨lt2,la2,ht2,ha2,L2,F2,rfl,SP,PJ,PR,PL,PH,EL2,EH2,hl2⟩:=hcut;clear wa;generalize wc=wa at *;have EC:=Z ((E3.out.grow L1).grow L2);have LB3:P (((L++L1)++L2).length < room∧((L++L1)++L2).length≤100000):=⟨vP,vP⟩;have ST:=Z SP.out.eng.sto;have hbol:=SP.out.eng.ops.lt;have q0:=SP.out.eng.ops.cell 0;have q1:=PJ.out.blk.cell 0;have q2:=PJ.out.blk.cell 7;have q3:=PJ.out.blk.cell 8;simp only [Q,V,U] at q0 q1 q2 q3;have hgjl:=PJ.out.blk.lt;have nbo:=SP.out.eng.no.1;have nj:gj∉F2:=fun h=>PJ.out.no (zn)
     have nl:gl∉F2:=fun h=>PL.out.no (zn)
     have nh:gh∉F2:=fun h=>PH.out.no (zn)
     have d1:¬bo=gl:=fun h=>PL.out.no (zn)
     have d2:¬gl=bo:=fun h=>PL.out.no (zn)
     have d3:¬bo=gh:=fun h=>PH.out.no (zn)
     have d4:¬gh=bo:=fun h=>PH.out.no (zn)
     go_upto_region 11 with fail;go_cut [9] from 66 to 80 (fun p wx=>∃(lt3 la3 ht3 ha3:Nat) (L3:List Rc) (F3:List Nat),p=z y 0∧P (SpA w wx bs n room F bo bc g (((L++L1)++L2)++L3) F3)∧P (Prv w wx (bo::bc::g::F3) gj #[z y f,z y op,z y l,z y at_,z o aa,z y bt,z o ba,z y ct,z o ca] 71)∧P (Prv w wx (bo::bc::g::F3) gr #[z y 0,z o 0] 44)∧P (Prv w wx (bo::bc::g::F3) gl #[z y f,z y op,z y ((l:Int)+1),z y lt1,z o la1,z y lt2,z o la2,z y lt3,z o la3] 71)∧P (Prv w wx (bo::bc::g::F3) gh #[z y f,z y op,z y ((l:Int)+1),z y ht1,z o ha1,z y ht2,z o ha2,z y ht3,z o ha3] 71)∧P (EdT (((L++L1)++L2)++L3) f n k (l+1) ⟨lt3,la3⟩ (tc.take (2 ^ k)))∧P (EdT (((L++L1)++L2)++L3) f n k (l+1) ⟨ht3,ha3⟩ (tc.drop (2 ^ k)))∧L3.length≤1)
     case first=>
      go_region_held3 (fun w'=>w'.cell? ⟨bo,0,Y⟩=R (M (R ⟨bs,0,Y⟩))∧w'.cell? ⟨gj,0,Y⟩=R (z y f)∧w'.cell? ⟨gj,7,Y⟩=R (z y ct)∧w'.cell? ⟨gj,8,Y⟩=R (z o ca)) (go_keep) (first | (go_at_call 303;refine (VW.out _ _ _ ct ca tc (ST.out.mod (S:=[]) (zg) (ze)) LB3.out.1 LB3.out.2 EC.out).mono ?_;rintro e' w2 ⟨lt3,la3,ht3,ha3,L3,F3,rfl,s2,g2,e1,e2,hl2⟩;have G2:=χ (C (F:=F2) (show E [] wa _ from zg)) g2;have q0:=(G2.mod.cell (a:=⟨bo,0,Y⟩) hbol nbo).trans q0;have bj2:=Θ PJ.out.blk G2.mod nj;have bl2:=Θ PL.out.blk G2.mod nl;have bh2:=Θ PH.out.blk G2.mod nh;have q1:=bj2.cell 0;have q2:=bj2.cell 7;have q3:=bj2.cell 8;have r0:=bl2.cell 7;have r1:=bl2.cell 8;have r2:=bh2.cell 7;have r3:=bh2.cell 8;have u0:=bl2.froz 7;have u1:=bl2.froz 8;have u2:=bh2.froz 7;have u3:=bh2.froz 8;simp only [Q,V,U] at q1 q2 q3 r0 r1 r2 r3;have hgl2:=bl2.lt;have hgh2:=bh2.lt;have hgj2:=bj2.lt;have hbo2:=K hbol G2.mod.size))
      all_goals (go_wp2_with fail;go_meet)
      all_goals
       refine ⟨lt3,la3,ht3,ha3,L3,F3,rfl,?_⟩;have SG:=SP.out.grown s2 G2;have GC:=(G2.cons g).cons bc;have PL2:=PL.out.call GC;have PH2:=PH.out.call GC;refine ⟨SG.write (S:=[gl,gh]) (zg) (xF) (xG),(PJ.out.call GC).mod (S:=[gl,gh]) (zg) (yL),(PR.out.call GC).mod (S:=[gl,gh]) (zg) (yM),⟨?_,PL2.no,PL.out.new⟩,⟨?_,PH2.no,PH.out.new⟩,e1,e2,hl2⟩
       ·first
         | exact Blk.eq ((((bl2.set 7 (z y lt3)).set 8 (z o la3)).other ⟨gh,7,Y⟩ (z y ht3) hlh).other ⟨gh,8,Y⟩ (z o ha3) hlh) (ze)
         | exact Blk.eq ((((bl2.other ⟨gh,7,Y⟩ (z y ht3) hlh).other ⟨gh,8,Y⟩ (z o ha3) hlh).set 7 (z y lt3)).set 8 (z o la3)) (ze)
       ·first
         | exact Blk.eq ((((bh2.other ⟨gl,7,Y⟩ (z y lt3) hhl).other ⟨gl,8,Y⟩ (z o la3) hhl).set 7 (z y ht3)).set 8 (z o ha3)) (ze)
         | exact Blk.eq ((((bh2.set 7 (z y ht3)).set 8 (z o ha3)).other ⟨gl,7,Y⟩ (z y lt3) hhl).other ⟨gl,8,Y⟩ (z o la3) hhl) (ze)
     case rest=>
      clear SP PJ PR PL PH q0 q1 q2 q3 hbol hgjl nbo nj nl nh d1 d2 d3 d4 ST;obtain ⟨lt3,la3,ht3,ha3,L3,F3,rfl,SP,PJ,PR,PL,PH,EL3,EH3,hl3⟩:=hcut;clear wa;generalize wc=wa at *;obtain ⟨q0,q1,q2,q3,q4,q5,q6,q7,q8⟩:=cells9 PL.out.blk;have hgx:=PL.out.blk.lt
      have LBD4:P ((((L++L1)++L2)++L3).length+4 *2 ^ k≤100000∧(((L++L1)++L2)++L3).length+4 *2 ^ k≤room):=by
       show _∧_;have:=LB.out
       repeat rw [A]
       omega
      go_wp2_with fail;refine (DO.out _ (((L++L1)++L2)++L3) F3 lt1 la1 lt2 la2 lt3 la3 _ _ _ (SP.out.eng.mod0 (zg)) LBD4.out.1 LBD4.out.2 ((EL1.out.grow L2).grow L3) (EL2.out.grow L3) EL3.out).mono ?_;rintro e wd ⟨xt,xa,L4,F4,rfl,en,gd,ex,hl4⟩;have Ex:=Z ex;have SPn:=Z (SP.out.did en gd);have PJn:=Z (PJ.out.call gd);have PRn:=Z (PR.out.call gd);have PLn:=Z (PL.out.call gd);have PHn:=Z (PH.out.call gd);clear q0 q1 q2 q3 q4 q5 q6 q7 q8 hgx en gd ex SP PJ PR PL PH;obtain ⟨gx,hgx⟩:∃gx,wd.heap.size=gx:=⟨_,rfl⟩;have Mx:P (E [] wd (wd.alloc (O #[z y xt,z o xa] 44))):=zg;have LTn:=Z SPn.out.eng.lt;have PXx:P (Prv w (wd.alloc (O #[z y xt,z o xa] 44)) (bo::bc::g::F4) gx #[z y xt,z o xa] 44):=⟨Ω _ _ _ _ hgx.symm,fun h=>yX,yY⟩;have SP:=Z (SPn.out.write (S:=[]) Mx.out (ze) (ze));have PJ:=Z (PJn.out.mod Mx.out (ze));have PR:=Z (PRn.out.mod Mx.out (ze));have PL:=Z (PLn.out.mod Mx.out (ze));have PH:=Z (PHn.out.mod Mx.out (ze));have hjx:¬gj=gx:=yZ;have hrx:¬gr=gx:=xd;have hxxl:¬gl=gx:=qD;have hxxh:¬gh=gx:=qE;clear SPn PJn PRn PLn PHn Mx LTn;go_upto_region 15 with fail;generalize hwx:wd.alloc (O #[z y xt,z o xa] 44)=wx at *;clear hwx hgx;obtain ⟨q0,q1,q2,q3,q4,q5,q6,q7,q8⟩:=cells9 PH.out.blk;have hgx:=PH.out.blk.lt
      have LBD5:P (((((L++L1)++L2)++L3)++L4).length+4 *2 ^ k≤100000∧((((L++L1)++L2)++L3)++L4).length+4 *2 ^ k≤room):=by
       show _∧_;have:=LB.out
       repeat rw [A]
       omega
      go_wp2_with fail;refine (DO.out _ ((((L++L1)++L2)++L3)++L4) F4 ht1 ha1 ht2 ha2 ht3 ha3 _ _ _ (SP.out.eng.mod0 (zg)) LBD5.out.1 LBD5.out.2 (((EH1.out.grow L2).grow L3).grow L4) ((EH2.out.grow L3).grow L4) (EH3.out.grow L4)).mono ?_;rintro e wd ⟨yt,ya,L5,F5,rfl,en,gd,ex,hl5⟩;have Ey:=Z ex;have SPn:=Z (SP.out.did en gd);have PJn:=Z (PJ.out.call gd);have PRn:=Z (PR.out.call gd);have PLn:=Z (PL.out.call gd);have PHn:=Z (PH.out.call gd);have PXn:=Z (PXx.out.call gd);clear PXx;clear q0 q1 q2 q3 q4 q5 q6 q7 q8 hgx en gd ex SP PJ PR PL PH;obtain ⟨gy,hgy⟩:∃gy,wd.heap.size=gy:=⟨_,rfl⟩;have My:P (E [] wd (wd.alloc (O #[z y yt,z o ya] 44))):=zg;have LTn:=Z SPn.out.eng.lt;have PXy:P (Prv w (wd.alloc (O #[z y yt,z o ya] 44)) (bo::bc::g::F5) gy #[z y yt,z o ya] 44):=⟨Ω _ _ _ _ hgy.symm,fun h=>yX,yY⟩;have SP:=Z (SPn.out.write (S:=[]) My.out (ze) (ze));have PJ:=Z (PJn.out.mod My.out (ze));have PR:=Z (PRn.out.mod My.out (ze));have PL:=Z (PLn.out.mod My.out (ze));have PH:=Z (PHn.out.mod My.out (ze));have PXx:=Z (PXn.out.mod My.out (ze));have hjy:¬gj=gy:=yZ;have hry:¬gr=gy:=xd;have hxyl:¬gl=gy:=qD;have hxyh:¬gh=gy:=qE;have hxy:¬gx=gy:=by have:=PXn.out.blk.lt;omega
      clear PXn;clear SPn PJn PRn PLn PHn My LTn;go_upto_region 20 with fail;generalize hwz:wd.alloc (O #[z y yt,z o ya] 44)=wz at *;clear hwz hgy;have ST:=Z SP.out.eng.sto;have hbol:=SP.out.eng.ops.lt;have q0:=SP.out.eng.ops.cell 0;have q1:=PJ.out.blk.cell 0;simp only [Q,V,U] at q0 q1;obtain ⟨q2,q3⟩:=PXx.out.blk.cells2;obtain ⟨q4,q5⟩:=PXy.out.blk.cells2;have hgjl:=PJ.out.blk.lt;have hgxl:=PXx.out.blk.lt;have hgyl:=PXy.out.blk.lt;have nbo:=SP.out.eng.no.1;have nj:gj∉F5:=fun h=>PJ.out.no (zn)
      have nx:gx∉F5:=fun h=>PXx.out.no (zn)
      have ny:gy∉F5:=fun h=>PXy.out.no (zn)
      have nr:gr∉F5:=fun h=>PR.out.no (zn)
      have d1:¬bo=gr:=fun h=>PR.out.no (zn)
      have d2:¬gr=bo:=fun h=>PR.out.no (zn)
      have d3:¬gj=gr:=JR.out;have d6:¬gr=gj:=fun h=>d3 h.symm
      have d4:¬gx=gr:=fun h=>hrx h.symm
      have d5:¬gy=gr:=fun h=>hry h.symm
      have EX:=Z (Ex.out.grow L5)
      have LB6:P ((((((L++L1)++L2)++L3)++L4)++L5).length < room∧(((((L++L1)++L2)++L3)++L4)++L5).length≤100000):=by
       show _∧_;have:=LB.out
       repeat rw [A]
       omega
      go_region_held3 (fun w'=>w'.cell? ⟨bo,0,Y⟩=R (M (R ⟨bs,0,Y⟩))∧w'.cell? ⟨gj,0,Y⟩=R (z y f)∧w'.cell? ⟨gx,0,Y⟩=R (z y xt)∧w'.cell? ⟨gx,1,Y⟩=R (z o xa)∧w'.cell? ⟨gy,0,Y⟩=R (z y yt)∧w'.cell? ⟨gy,1,Y⟩=R (z o ya)) (go_keep) (first | (go_at_call 110;refine (MK.out _ _ _ xt xa yt ya _ _ (ST.out.mod (S:=[]) (zg) (ze)) LB6.out.1 LB6.out.2 EX.out Ey.out).mono ?_;rintro e' w8 ⟨rt,ra,L6,F6,rfl,s6,g6,e6,hl6⟩;have G6:=χ (C (F:=F5) (show E [] wz _ from zg)) g6;have q0:=(G6.mod.cell (a:=⟨bo,0,Y⟩) hbol nbo).trans q0;have q1:=(G6.mod.cell (a:=⟨gj,0,Y⟩) hgjl nj).trans q1;have q2:=(G6.mod.cell (a:=⟨gx,0,Y⟩) hgxl nx).trans q2;have q3:=(G6.mod.cell (a:=⟨gx,1,Y⟩) hgxl nx).trans q3;have q4:=(G6.mod.cell (a:=⟨gy,0,Y⟩) hgyl ny).trans q4;have q5:=(G6.mod.cell (a:=⟨gy,1,Y⟩) hgyl ny).trans q5;have br:=Θ PR.out.blk G6.mod nr;obtain ⟨r0,r1⟩:=br.cells2;obtain ⟨u0,u1,-⟩:=br.frozs;have hgr8:=br.lt;have hbo8:=K hbol G6.mod.size;have hgj8:=K hgjl G6.mod.size;have hgx8:=K hgxl G6.mod.size;have hgy8:=K hgyl G6.mod.size))
      all_goals
       go_wp2_with fail;have SG:=SP.out.grown s6 G6;have GC:=(G6.cons g).cons bc;have PR6:=PR.out.call GC;have MW:=Z (((Mod.refl [gr] w8).setCell ⟨gr,0,Y⟩ (z y rt) (ze)).setCell ⟨gr,1,Y⟩ (z o ra) (ze));have BW:=(br.set 0 (z y rt)).set 1 (z o ra);simp only [N,H,G] at BW;obtain ⟨z0,z1⟩:=BW.cells2;have SW:=Z (SG.write MW.out (qF) (qG));have E6:=Z e6;clear r0 r1 u0 u1 BW q0 q1 q2 q3 q4 q5 e6 s6 G6 g6 br;generalize (w8.setCell ⟨gr,0,Y⟩ (z y rt)).setCell ⟨gr,1,Y⟩ (z o ra)=w9 at *;have eL:((((((L++L1)++L2)++L3)++L4)++L5)++L6)=L++(L1++(L2++(L3++(L4++(L5++L6))))):=qH;rw [eL] at SW E6;refine Γ (v:=φ #[Δ #[z y rt,z o ra],z y 0]) (by simp [ρ,Tryz.results300,go_sem,z0,z1];try rfl) rfl ?_
       exact ⟨rt,ra,_,F6,rfl,SW.out.eng,SW.out.gr,E6.out,by
        have:=LB.out
        repeat rw [A]
        omega⟩
open Go.RowKit
theorem zj1 (t a:Nat) (w:I):Φ J 298 #[Δ #[z y t,z o a]] w fun e w'=>e=B (z y ((decide (0 < a)).toNat:Nat))∧E [] w w':=by
 by_cases h:0 < a
 ·have h':(0:Int) < a:=D;rw [decide_eq_true h];clear h;go_in;go_wp2;go_ret;exact ⟨rfl,zg⟩
 ·have h':¬(0:Int) < a:=D;rw [decide_eq_false h];clear h;go_in;go_wp2;go_ret;exact ⟨rfl,zg⟩
theorem bit8 (x k:Nat) (hx:x < 256):bits .and y ((x:Int) / 2 ^ k) 1=if x.testBit k then 1 else 0:=by
 have e1:(x:Int) / 2 ^ k=((x / 2 ^ k:Nat):Int):=yk;have h1:x / 2 ^ k < 256:=Nat.lt_of_le_of_lt (Nat.div_le_self _ _) hx;rw [e1,show (1:Int)=((1:Nat):Int) from rfl,u8_and_nat _ _ h1 (D),Nat.and_one_is_mod,Nat.testBit_eq_decide_div_mod_eq];by_cases q:x / 2 ^ k % 2=1
 ·simp [q]
 ·have:x / 2 ^ k % 2=0:=D;simp [this]
def zl6 (op aa ba ca:Nat):Bool:= !op.testBit 0 && ((aa:Int)==0) && ((ba:Int)==0) && ((ca:Int)==0)
theorem zS7 {op aa ba ca:Nat} (h:zl6 op aa ba ca=true):op.testBit 0=false∧aa=0∧ba=0∧ca=0:=by
 unfold zl6 at h;simp only [Bool.and_eq_true,Bool.not_eq_true',beq_iff_eq] at h;exact ⟨h.1.1.1,D,D,D⟩
theorem yK4 (x:Nat) (hx:x < 256):bits .and y (x:Int) 1=if x.testBit 0 then 1 else 0:=by
 have:=bit8 x 0 hx;rw [show (x:Int) / 2 ^ 0=x from ze] at this;exact this
theorem zo8 {L:List Rc} {f n k l op:Nat} {a b c:Ed} {ta tb tc:List Bool} (h1:1≤f) (h5:f≤5) (ea:EdT L f n k l a ta) (eb:EdT L f n k l b tb) (ec:EdT L f n k l c tc) (h:zl6 op a.a b.a c.a=true):EdT L f n k l ⟨0,0⟩ (zc6 op ta tb tc):=by
 obtain ⟨h0,ha,hb,hc⟩:=zS7 h;rw [ea.none h1 h5 ha,eb.none h1 h5 hb,ec.none h1 h5 hc,zP7 h0];exact EdT.zero L ea.lk
theorem yA4 {bs n room bo bc g f op:Nat} (h1:1≤f) (h5:f≤5) (hn:n≤16) (hop:op < 256):DoA bs n room bo bc g f op 0 n:=by
 intro w L F at_ aa bt ba ct ca ta tb tc HE hb1 hb2 ea eb ec
 have VA:P (∀W,E [] w W→Φ J 67 #[M (R ⟨bs,0,Y⟩)] W fun e w'=>e=B (z τ n)∧w'=W):=fun W m=>by
  obtain ⟨ba,bi,Fa,c0,-⟩:=(HE.sto.st.mod m (ze)).own;exact YH bs n W c0
 have ON:P (∀W',Φ J 108 #[z y f,z τ n] W' fun e' w'=>e'=B (edv (zi1 f n))∧E [] W' w'):=fun W'=>zU4 f h1 h5 n (D) W'
 have TR:=Z zj1;have EZ:P (zl6 op aa ba ca=true→EdT L f n 0 n ⟨0,0⟩ (zc6 op ta tb tc)):=fun h=>zo8 h1 h5 ea eb ec h
 have EB:P (EdT L f n 0 n (if op.testBit (4 *(decide (0 < aa)).toNat+2 *(decide (0 < ba)).toNat+(decide (0 < ca)).toNat) then zi1 f n else ⟨0,0⟩) (zc6 op ta tb tc)):=by
  have eT:zc6 op ta tb tc=[op.testBit (4 *(decide (0 < aa)).toNat+2 *(decide (0 < ba)).toNat+(decide (0 < ca)).toNat)]:=by
   rw [ea.leaf h1 h5,eb.leaf h1 h5,ec.leaf h1 h5];rfl
  rw [eT];exact EdT.bit L h1 h5 _
 have hxa:(decide (0 < aa)).toNat≤1:=by cases decide (0 < aa)<;>decide
 have hxb:(decide (0 < ba)).toNat≤1:=by cases decide (0 < ba)<;>decide
 have hxc:(decide (0 < ca)).toNat≤1:=by cases decide (0 < ca)<;>decide
 have TRA:=Z (zj1 at_ aa);have TRB:=Z (zj1 bt ba);have TRC:=Z (zj1 ct ca);generalize (decide (0 < aa)).toNat=xa at *;generalize (decide (0 < ba)).toNat=xb at *;generalize (decide (0 < ca)).toNat=xc at *;have OB:=yK4 op hop
 have IX:IntKind.u8.wrap (IntKind.u8.wrap (IntKind.u8.wrap (4 *(xa:Int))+IntKind.u8.wrap (2 *(xb:Int)))+(xc:Int))=((4 *xa+2 *xb+xc:Nat):Int):=by
  rw [Ξ (4 *(xa:Int)) ⟨D,D⟩,Ξ (2 *(xb:Int)) ⟨D,D⟩,Ξ (4 *(xa:Int)+2 *(xb:Int)) ⟨D,D⟩,Ξ _ ⟨D,D⟩];omega
 have B8:=bit8 op (4 *xa+2 *xb+xc) hop;have hm7:4 *xa+2 *xb+xc≤7:=D;generalize 4 *xa+2 *xb+xc=m at *;have hnb:(n:Int)≤16:=D;have WN:IntKind.i64.wrap (n:Int)=n:=IntWalk.i64_in _ (D);generalize zc6 op ta tb tc=T at *;clear ea eb ec hb1 hb2;obtain ⟨gj,hgj⟩:∃gj,w.heap.size=gj:=⟨_,rfl⟩;have LT:=Z HE.lt;have BJ1:=(Ω w #[z y f,z y op,z y n,z y at_,z o aa,z y bt,z o ba,z y ct,z o ca] 71 gj hgj.symm).alloc (O #[z y 0,z o 0] 44);have BR1:=Ω (w.alloc (O #[z y f,z y op,z y n,z y at_,z o aa,z y bt,z o ba,z y ct,z o ca] 71)) #[z y 0,z o 0] 44 (gj+1) (yB);have M1:P (E [] w ((w.alloc (O #[z y f,z y op,z y n,z y at_,z o aa,z y bt,z o ba,z y ct,z o ca] 71)).alloc (O #[z y 0,z o 0] 44))):=zg;have hbol:=HE.ops.lt;have q0:=HE.ops.cell 0;have q9:=HE.ops.cell 1;simp only [Q,V,U] at q0 q9;have HX:=Z HE;clear HE;go_in;go_upto_region 1 with fail;have q0:=(M1.out.cell (a:=⟨bo,0,Y⟩) hbol (ze)).trans q0;have q9:=(M1.out.cell (a:=⟨bo,1,Y⟩) hbol (ze)).trans q9;have nA:¬bo=gj:=D;have nB:¬gj=bo:=D;have nC:¬bo=gj+1:=D;have nD:¬gj+1=bo:=D;replace hbol:=K hbol M1.out.size;generalize (w.alloc (O #[z y f,z y op,z y n,z y at_,z o aa,z y bt,z o ba,z y ct,z o ca] 71)).alloc (O #[z y 0,z o 0] 44)=w1 at *;obtain ⟨j0,j1,j2,j3,j4,j5,j6,j7,j8⟩:=cells9 BJ1;obtain ⟨r0,r1⟩:=BR1.cells2;obtain ⟨u0,u1,-⟩:=BR1.frozs;have hjl:=BJ1.lt;have hrl:=BR1.lt;have BJ:=Z BJ1;have BR:=Z BR1;clear BJ1 BR1;go_cut [31] from 10 to 31 (fun p wx=>p=.bool (zl6 op aa ba ca)∧wx=w1)
 case first=>
  cases hb0:op.testBit 0<;>rw [hb0] at OB<;>simp only [if_true,if_false,ω] at OB<;>cases hb1:((aa:Int)==0)<;>cases hb2:((ba:Int)==0)<;>cases hb3:((ca:Int)==0)<;>(go_wp2_with fail;go_meet;simp [zl6,hb0,hb1,hb2,hb3])
 case rest=>
  obtain ⟨rfl,hw⟩:=hcut;replace hw:=hw.symm;subst hw;cases he:zl6 op aa ba ca with
  | true=>
   go_wp2_with fail;have BW:=(BR.out.set 0 (z y 0)).set 1 (z o 0);simp only [N,H,G] at BW;obtain ⟨z0,z1⟩:=BW.cells2;have MW:P (E [] w ((w1.setCell ⟨gj+1,0,Y⟩ (z y 0)).setCell ⟨gj+1,1,Y⟩ (z o 0))):=(M1.out.setCell ⟨gj+1,0,Y⟩ _ (zj)).setCell ⟨gj+1,1,Y⟩ _ (zj);generalize (w1.setCell ⟨gj+1,0,Y⟩ (z y 0)).setCell ⟨gj+1,1,Y⟩ (z o 0)=w3 at *;refine Γ (v:=φ #[Δ #[z y 0,z o 0],z y 0]) (by simp [ρ,ψ,go_sem,z0,z1];try rfl) rfl ?_;exact ⟨0,0,[],F,rfl,jy,C MW.out,(EZ.out he).grow0,ze⟩
  | false=>
   go_wp2_with fail;have VB:P (∀W,E [] w1 W→Φ J 67 #[M (R ⟨bs,0,Y⟩)] W fun e w'=>e=B (z τ n)∧w'=W):=fun W m=>VA.out W (M1.out.trans' m)
   go_region_held3 (fun w'=>w'.cell? ⟨bo,0,Y⟩=R (M (R ⟨bs,0,Y⟩))∧w'.cell? ⟨gj,2,Y⟩=R (z y n)) (go_keep) (first | (go_at_call 67;refine (VB.out _ (zy)).mono ?_;rintro e' w2 ⟨rfl,rfl⟩))
   have JC:P (∀W,E [] w1 W→W.cell? ⟨gj,1,Y⟩=R (z y op)∧W.cell? ⟨gj,3,Y⟩=R (z y at_)∧W.cell? ⟨gj,4,Y⟩=R (z o aa)∧W.cell? ⟨gj,5,Y⟩=R (z y bt)∧W.cell? ⟨gj,6,Y⟩=R (z o ba)∧W.cell? ⟨gj,7,Y⟩=R (z y ct)∧W.cell? ⟨gj,8,Y⟩=R (z o ca)):=fun W m=>⟨(m.cell (a:=⟨gj,1,Y⟩) hjl (ze)).trans j1,(m.cell (a:=⟨gj,3,Y⟩) hjl (ze)).trans j3,(m.cell (a:=⟨gj,4,Y⟩) hjl (ze)).trans j4,(m.cell (a:=⟨gj,5,Y⟩) hjl (ze)).trans j5,(m.cell (a:=⟨gj,6,Y⟩) hjl (ze)).trans j6,(m.cell (a:=⟨gj,7,Y⟩) hjl (ze)).trans j7,(m.cell (a:=⟨gj,8,Y⟩) hjl (ze)).trans j8⟩
   have TA:P (∀W,E [] w1 W→Φ J 298 #[Δ #[z y at_,z o aa]] W fun e w'=>e=B (z y xa)∧E [] w1 w'):=fun W m=>(TRA.out W).mono (zT)
   have TB:P (∀W,E [] w1 W→Φ J 298 #[Δ #[z y bt,z o ba]] W fun e w'=>e=B (z y xb)∧E [] w1 w'):=fun W m=>(TRB.out W).mono (zT)
   have TC:P (∀W,E [] w1 W→Φ J 298 #[Δ #[z y ct,z o ca]] W fun e w'=>e=B (z y xc)∧E [] w1 w'):=fun W m=>(TRC.out W).mono (zT)
   have JD:P (∀W,E [] w1 W→W.cell? ⟨gj,0,Y⟩=R (z y f)∧W.cell? ⟨gj,2,Y⟩=R (z y n)):=fun W m=>⟨(m.cell (a:=⟨gj,0,Y⟩) hjl (ze)).trans j0,(m.cell (a:=⟨gj,2,Y⟩) hjl (ze)).trans j2⟩
   clear EZ TRA TRB TRC TR VA;generalize hoe:zi1 f n=oe at *;obtain ⟨ot,oa⟩:=oe;unfold edv at ON;simp only at ON;clear hoe;go_wp2_with fail;cases hbit:op.testBit m with
   | true=>
    rw [hbit] at B8 EB;simp only [if_true] at B8 EB
    go_region_held3 (fun w'=>E [] w1 w'∧w'.cell? ⟨gj,1,Y⟩=R (z y op)∧w'.cell? ⟨gj,3,Y⟩=R (z y at_)∧w'.cell? ⟨gj,4,Y⟩=R (z o aa)∧w'.cell? ⟨gj,5,Y⟩=R (z y bt)∧w'.cell? ⟨gj,6,Y⟩=R (z o ba)∧w'.cell? ⟨gj,7,Y⟩=R (z y ct)∧w'.cell? ⟨gj,8,Y⟩=R (z o ca)) (first | (refine ⟨jz,?_⟩;go_keep) | go_keep) (first | (go_at_call 298;first | ((with_reducible refine (TA.out _ (zy)).mono ?_);rintro e' w2 ⟨rfl,m2⟩;obtain ⟨j1,j3,j4,j5,j6,j7,j8⟩:=JC.out w2 m2) | ((with_reducible refine (TB.out _ (zy)).mono ?_);rintro e' w2 ⟨rfl,m2⟩;obtain ⟨j1,j3,j4,j5,j6,j7,j8⟩:=JC.out w2 m2) | ((with_reducible refine (TC.out _ (zy)).mono ?_);rintro e' w2 ⟨rfl,m2⟩;obtain ⟨j1,j3,j4,j5,j6,j7,j8⟩:=JC.out w2 m2)))
    all_goals
     have M2:P (E [] w1 _):=m2;obtain ⟨j0,j2⟩:=JD.out _ M2.out;have BR2:=Z (BR.out.mod M2.out (ze));clear m2;go_wp2_with fail;refine (ON.out _).mono ?_;rintro e w3 ⟨rfl,m3⟩;have M3:=Z (M2.out.trans' (Mod.trans' (show E [] _ _ from zg) m3));have BR3:=Z (BR.out.mod M3.out (ze));obtain ⟨r0,r1⟩:=BR3.out.cells2;obtain ⟨u0,u1,-⟩:=BR3.out.frozs;have hrl3:=BR3.out.lt;clear m3 BR2 j0 j2;go_wp2_with fail;have BW:=(BR3.out.set 0 (z y ot)).set 1 (z o oa);simp only [N,H,G] at BW;obtain ⟨z0,z1⟩:=BW.cells2;have MW:P (E [] w ((w3.setCell ⟨gj+1,0,Y⟩ (z y ot)).setCell ⟨gj+1,1,Y⟩ (z o oa))):=((M1.out.trans' M3.out).setCell ⟨gj+1,0,Y⟩ _ (zj)).setCell ⟨gj+1,1,Y⟩ _ (zj);generalize (w3.setCell ⟨gj+1,0,Y⟩ (z y ot)).setCell ⟨gj+1,1,Y⟩ (z o oa)=w4 at *;refine Γ (v:=φ #[Δ #[z y ot,z o oa],z y 0]) (by simp [ρ,ψ,go_sem,z0,z1];try rfl) rfl ?_;exact ⟨ot,oa,[],F,rfl,jy,C MW.out,EB.out.grow0,ze⟩
   | false=>
    rw [hbit] at B8 EB;simp only [ω,if_false] at B8 EB
    go_region_held3 (fun w'=>E [] w1 w'∧w'.cell? ⟨gj,1,Y⟩=R (z y op)∧w'.cell? ⟨gj,3,Y⟩=R (z y at_)∧w'.cell? ⟨gj,4,Y⟩=R (z o aa)∧w'.cell? ⟨gj,5,Y⟩=R (z y bt)∧w'.cell? ⟨gj,6,Y⟩=R (z o ba)∧w'.cell? ⟨gj,7,Y⟩=R (z y ct)∧w'.cell? ⟨gj,8,Y⟩=R (z o ca)) (first | (refine ⟨jz,?_⟩;go_keep) | go_keep) (first | (go_at_call 298;first | ((with_reducible refine (TA.out _ (zy)).mono ?_);rintro e' w2 ⟨rfl,m2⟩;obtain ⟨j1,j3,j4,j5,j6,j7,j8⟩:=JC.out w2 m2) | ((with_reducible refine (TB.out _ (zy)).mono ?_);rintro e' w2 ⟨rfl,m2⟩;obtain ⟨j1,j3,j4,j5,j6,j7,j8⟩:=JC.out w2 m2) | ((with_reducible refine (TC.out _ (zy)).mono ?_);rintro e' w2 ⟨rfl,m2⟩;obtain ⟨j1,j3,j4,j5,j6,j7,j8⟩:=JC.out w2 m2)))
    all_goals
     have M2:P (E [] w1 _):=m2;obtain ⟨j0,j2⟩:=JD.out _ M2.out;have BR2:=Z (BR.out.mod M2.out (ze));clear m2;obtain ⟨r0,r1⟩:=BR2.out.cells2;obtain ⟨u0,u1,-⟩:=BR2.out.frozs;have hrl3:=BR2.out.lt;go_wp2_with fail;have BW:=(BR2.out.set 0 (z y 0)).set 1 (z o 0);simp only [N,H,G] at BW;obtain ⟨z0,z1⟩:=BW.cells2;have MW:P (E [] w ((w2.setCell ⟨gj+1,0,Y⟩ (z y 0)).setCell ⟨gj+1,1,Y⟩ (z o 0))):=((M1.out.trans' M2.out).setCell ⟨gj+1,0,Y⟩ _ (zj)).setCell ⟨gj+1,1,Y⟩ _ (zj);generalize (w2.setCell ⟨gj+1,0,Y⟩ (z y 0)).setCell ⟨gj+1,1,Y⟩ (z o 0)=w4 at *;refine Γ (v:=φ #[Δ #[z y 0,z o 0],z y 0]) (by simp [ρ,ψ,go_sem,z0,z1];try rfl) rfl ?_;exact ⟨0,0,[],F,rfl,jy,C MW.out,EB.out.grow0,ze⟩
end Go.Proofs.YtbnpoapmnkfhkaaGreatDoor
