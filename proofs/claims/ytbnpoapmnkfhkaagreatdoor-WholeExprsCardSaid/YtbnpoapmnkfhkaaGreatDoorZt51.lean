import Derived.Test.YtbnpoapmnkfhkaaGreatDoorZt50
set_option linter.unusedVariables false
set_option linter.unusedSimpArgs false
set_option maxRecDepth 100000
set_option maxHeartbeats 8000000
namespace Go.Proofs.YtbnpoapmnkfhkaaGreatDoor
open Go.Lib renaming hid → j
open Option renaming none → V, some → S
open Go.Value renaming int → U, pointer → Q, slice → P, agg → Ξ, tuple → Δ, bool → ω, iface → χ
open Go.Proofs.Tryz renaming prog → O
open Go.Ending renaming returned → N
open Go.IntKind renaming i64 → M, u8 → G, u32 → E, u16 → τ
open Go renaming Calls → K, World → Θ, bodyPost_ret → ψ
open Go.Proofs.YtbnpoapmnkfhkaaGreatDoor renaming ze → J, Mod → C
open Nat renaming lt_of_lt_of_le → I
open Go.Obj renaming cells → H
open Go.RowKit renaming Hid → D
open List renaming length_append → Ω, getElem?_cons_zero → Ψ, getElem?_toArray → Φ, mem_cons → Γ, mem_filter → φ
open Go.RowKit
mutual
theorem zS6:∀{ts:List Tk} {x:Ex},Un ts x→ts.length≤200→zc8 x
 | _,_,.con t h,_=>trivial
 | _,_,.var t h,_=>trivial
 | _,_,.not (x:=x) t h u,hl=>(zS6 u (yd):zc8 x)
 | _,_,.par t t' h h' u,hl=>zi2 u (yd)
 | _,_,.bnd t v vs d h1 h2 h3 h4 u,hl=>⟨by simp at hl ⊢;omega,zS6 u (yd)⟩
theorem zi2:∀{r:Nat} {ts:List Tk} {x:Ex},Fl r ts x→ts.length≤200→zc8 x
 | _,_,_,.unit u,hl=>zS6 u hl
 | _,_,_,.up _ _ u,hl=>zi2 u hl
 | _,_,_,.left (t:=t) _ _ _ hr a b,hl=>⟨by have:=YR t.k (zc);omega,zi2 a (yd),zi2 b (yd)⟩
 | _,_,_,.right h a b,hl=>⟨zc,zi2 a (yd),zi2 b (yd)⟩
end
theorem yj0 (n:Nat) (X Y:Ex):Y5 n X=Y5 n Y↔exW n X=exW n Y:=by
 constructor
 ·intro h;rw [←zr8,←zr8,h]
 ·intro h;unfold Y5;apply List.map_congr_left;intro y hy;have hy:=List.mem_range.1 hy;rw [←Xw X hy,←Xw Y hy,h]
theorem yi2 {n:Nat} {p:List Nat} (hp:Perm p n) (X Y:Ex):Y5 n X=Y5 n Y↔exT n p X=exT n p Y:=by
 rw [yj0];exact (yg1 hp (zv2 n X) (zv2 n Y)).symm
theorem TkR.lt {w:Θ} {v:Value} {L:List Tk} {F:List Nat} (h:TkR w v L F):TkR w v L (F.filter (fun k=>decide (k < w.heap.size))):=by
 obtain ⟨A,cap,e,hc,hr⟩:=h;refine ⟨A,cap,e,hc,fun h0=>?_⟩;obtain ⟨b,off,ea,hb,hi⟩:=hr h0;have:=World.block_lt_of_cell? w _ (hi 0 h0).1;exact ⟨b,off,ea,φ.2 ⟨hb,by simpa using this⟩,hi⟩
open Go.RowKit
theorem Yz {p:Prop} (h:p:=by
 have hg5:=hg4.out;have B3:=j ((HX.out.1.mod m7 (J)).put2 (U M n) (P (S ⟨g4,0,V⟩) 1 1));have MS:=Mod.put2 w7 g2 (U M n) (P (S ⟨g4,0,V⟩) 1 1);have nc:¬g4=g2:=by have:=HX.out.1.lt;omega
 have nd:¬g4=gb+1:=by have:=B0'.out.lt;omega
 have b5:=j (b4.out.mod MS (by simpa using nc));have B05:=j ((B0'.out.mod m7 (J)).mod MS (yn));have M5:=j ((M2.out.trans' m7).trans MS (fun i hi q=>zP));have hgw:w.heap.size≤g4:=zc;clear MS x0 x1 u0 u1 l2 c0 c1 c2 lb;generalize (w7.setCell ⟨g2,0,V⟩ (U M n)).setCell ⟨g2,1,V⟩ (P (S ⟨g4,0,V⟩) 1 1)=w8 at *;obtain ⟨f0,f1,-⟩:=B05.out.frozs;obtain ⟨z0,z1⟩:=B05.out.cells2;obtain ⟨x0,x1⟩:=B3.out.cells2;have l0:=B05.out.lt;have l2:=B3.out.lt;go_wp2_with fail;have BR:=B05.out.put2 (U M n) (P (S ⟨g4,0,V⟩) 1 1);have MR:=Mod.put2 w8 (gb+1) (U M n) (P (S ⟨g4,0,V⟩) 1 1);have MF:=M5.out.trans MR (fun i hi q=>zP);have BF:=b5.out.mod MR (by simpa using nd);obtain ⟨y0,y1⟩:=BR.cells2;generalize (w8.setCell ⟨gb+1,0,V⟩ (U M n)).setCell ⟨gb+1,1,V⟩ (P (S ⟨g4,0,V⟩) 1 1)=w9 at *;refine ψ (v:=Ξ #[U M n,P (S ⟨g4,0,V⟩) 1 1]) (by simp [results,Tryz.results334,go_sem,y0,y1];try rfl) rfl ?_
 exact ⟨g4,rfl,BF,hgw,MF⟩):p:=h
theorem yB3 {n:Nat} {each:Bool} {l:List Nat} {X:Ex} (hn:n≤5) (hl:∀v∈l,v < n) (hll:l.length≤200) (ih:ya4 n X):ya4 n (.bnd each l X):=by
 intro w T d F h;obtain ⟨s,u,Fs,e,hs,hF,hu⟩:=h;obtain ⟨rfl,rfl⟩:=Value.iface.inj e;obtain ⟨T,d,rfl⟩:=hu.iface;have IA:D (∀W,C [] w W→K O (zg1 X) #[d,U M n] W (zz6 W n (exW n X))):=fun W m=>ih W T d F (hu.mod m (J))
 have MA:=zf3 hu;have CA:=zf8 X;have MK:D (∀W,C [] w W→K O 339 #[Ξ #[ω each,s,χ T d]] W fun e w'=>e=N (U τ (zc2 l:Nat))∧C [] W w'):=fun W m=>zP2 (hs.mod m (J)) (fun v hv=>by have:=hl v hv;omega) hll
 have EX:D (∀(W:Θ) (g:Nat),W.cell? ⟨g,0,V⟩=S (U .u64 (exW n X:Nat))→(each=false→K O 342 #[Ξ #[U M n,P (S ⟨g,0,V⟩) 1 1],U τ (zc2 l:Nat)] W (zE7 W n (exW n (.bnd each l X))))∧
  (each=true→K O 341 #[Ξ #[U M n,P (S ⟨g,0,V⟩) 1 1],U τ (zc2 l:Nat)] W (zE7 W n (exW n (.bnd each l X))))):=fun W g c=>by
  rw [←yt3];constructor
  ·rintro rfl;exact zA2 n (exW n X) g 1 (zc2 l) hn (zg7 _ _) (zh2 hl) W c
  ·rintro rfl;exact zC2 n (exW n X) g 1 (zc2 l) hn (zg7 _ _) (zh2 hl) W c
 obtain ⟨A,cap,rfl,-⟩:=hs.shape;clear hu hs ih hl hll hF;show K O 334 _ _ (zz6 w n (exW n (.bnd each l X)));generalize zg1 X=fx at *;generalize exW n (.bnd each l X)=R at *;generalize exW n X=R1 at *;generalize zc2 l=mk at *;generalize (l.map ei).length=ln at *;obtain ⟨gb,hgb⟩:∃gk,w.heap.size=gk:=⟨_,rfl⟩;have BB:=j ((Blk.new' w #[ω each,P A ln cap,χ T d] 282 gb hgb.symm).alloc (H #[U M 0,P V 0 0] 88));have B0:=j (Blk.new' (w.alloc (H #[ω each,P A ln cap,χ T d] 282)) #[U M 0,P V 0 0] 88 (gb+1) (yo));have M0:D (C [] w ((w.alloc (H #[ω each,P A ln cap,χ T d] 282)).alloc (H #[U M 0,P V 0 0] 88))):=zg;have hs0:((w.alloc (H #[ω each,P A ln cap,χ T d] 282)).alloc (H #[U M 0,P V 0 0] 88)).heap.size=gb+2:=yo;go_in;go_wp2_with fail;refine (IA.out _ M0.out).mono ?_;rintro e w1 ⟨g1,rfl,b1,hg1,m1⟩;have M1:=j (M0.out.trans' m1);have hs1:=m1.size;obtain ⟨g2,hg2⟩:∃g2,w1.heap.size=g2:=⟨_,rfl⟩;have HX:=j (zD2 hg2 (U M n) (P (S ⟨g1,0,V⟩) 1 1) 88);have h12:g1 < g2:=qS;have C1:=j (b1.mod HX.out.2 (J));have B0':=j ((B0.out.mod m1 (J)).mod HX.out.2 (J));have BB':=j ((BB.out.mod m1 (J)).mod HX.out.2 (J));clear m1 b1 M0 B0 BB;go_upto_region 2 with fail;generalize w1.alloc (H #[U M n,P (S ⟨g1,0,V⟩) 1 1] 88)=w2 at *;have M2:=j (M1.out.trans' HX.out.2);obtain ⟨x0,x1⟩:=HX.out.1.cells2;obtain ⟨u0,u1,-⟩:=HX.out.1.frozs;have l2:=HX.out.1.lt;obtain ⟨c0,c1,c2⟩:=BB'.out.cells3;have lb:=BB'.out.lt;have hw2:=M2.out.size;have hh2:w1.heap.size≤w2.heap.size:=HX.out.2.size;have n8:¬gb+1=g2:=zc;have n9:¬g2=gb+1:=zc;have na:¬gb=g2:=zc;have nb:¬g2=gb:=zc
 have JC:D (∀W,C [] w2 W→(W.cell? ⟨gb,0,V⟩=S (ω each)∧W.cell? ⟨gb,1,V⟩=S (P A ln cap)∧W.cell? ⟨gb,2,V⟩=S (χ T d)∧gb < W.heap.size)∧(W.cell? ⟨g2,0,V⟩=S (U M n)∧W.cell? ⟨g2,1,V⟩=S (P (S ⟨g1,0,V⟩) 1 1)∧g2 < W.heap.size)∧W.frozen? ⟨g2,0,V⟩=false∧W.frozen? ⟨g2,1,V⟩=false):=fun W m=>
  ⟨⟨(m.cell (a:=⟨gb,0,V⟩) lb (J)).trans c0,(m.cell (a:=⟨gb,1,V⟩) lb (J)).trans c1,(m.cell (a:=⟨gb,2,V⟩) lb (J)).trans c2,I lb m.size⟩,⟨(m.cell (a:=⟨g2,0,V⟩) l2 (J)).trans x0,(m.cell (a:=⟨g2,1,V⟩) l2 (J)).trans x1,I l2 m.size⟩,(m.froz (a:=⟨g2,0,V⟩) l2 (J)).trans u0,(m.froz (a:=⟨g2,1,V⟩) l2 (J)).trans u1⟩
 have MK2:D (∀W,C [] w2 W→K O 339 #[Ξ #[ω each,P A ln cap,χ T d]] W fun e w'=>e=N (U τ (mk:Nat))∧C [] w2 w'):=fun W m=>(MK.out W (M2.out.trans' m)).mono (zT)
 have EX2:D (∀W,C [] w2 W→(each=false→K O 342 #[Ξ #[U M n,P (S ⟨g1,0,V⟩) 1 1],U τ (mk:Nat)] W fun e w'=>∃g4:Nat,e=N (Δ #[Ξ #[U M n,P (S ⟨g4,0,V⟩) 1 1],U G 0])∧D (Blk w' g4 #[U .u64 (R:Nat)] 185)∧D (w2.heap.size≤g4)∧C [] w2 w')∧(each=true→K O 341 #[Ξ #[U M n,P (S ⟨g1,0,V⟩) 1 1],U τ (mk:Nat)] W fun e w'=>∃g4:Nat,e=N (Δ #[Ξ #[U M n,P (S ⟨g4,0,V⟩) 1 1],U G 0])∧D (Blk w' g4 #[U .u64 (R:Nat)] 185)∧D (w2.heap.size≤g4)∧C [] w2 w')):=fun W m=>by
  have c:=(C1.out.mod m (J)).cell 0;refine ⟨fun he=>((EX.out W g1 c).1 he).mono ?_,fun he=>((EX.out W g1 c).2 he).mono ?_⟩
  all_goals
   rintro e w' ⟨g4,rfl,bg,hg,m2⟩;exact ⟨g4,rfl,bg,Nat.le_trans m.size hg,m.trans' m2⟩
 clear IA MK EX;cases each
 case false=>
  have EX3:D (∀W,C [] w2 W→_):=fun W m=>(EX2.out W m).1 rfl
  clear EX2;go_wp2_with fail
  go_region_with (first
   | (go_at_call 339;with_reducible refine (MK2.out _ (zK)).mono ?_;rintro e' w5 ⟨rfl,m5⟩;obtain ⟨⟨c0,c1,c2,lb⟩,⟨x0,x1,l2⟩,u0,u1⟩:=JC.out w5 m5)
   | (go_at_call 342;with_reducible refine (EX3.out _ (zK)).mono ?_;rintro e' w7 ⟨g4,rfl,b4,hg4,m7⟩;obtain ⟨⟨c0,c1,c2,lb⟩,⟨x0,x1,l2⟩,u0,u1⟩:=JC.out w7 m7))
  all_goals
   exact Yz
 case true=>
  have EX3:D (∀W,C [] w2 W→_):=fun W m=>(EX2.out W m).2 rfl
  clear EX2;go_wp2_with fail
  go_region_with (first
   | (go_at_call 339;with_reducible refine (MK2.out _ (zK)).mono ?_;rintro e' w5 ⟨rfl,m5⟩;obtain ⟨⟨c0,c1,c2,lb⟩,⟨x0,x1,l2⟩,u0,u1⟩:=JC.out w5 m5)
   | (go_at_call 341;with_reducible refine (EX3.out _ (zK)).mono ?_;rintro e' w7 ⟨g4,rfl,b4,hg4,m7⟩;obtain ⟨⟨c0,c1,c2,lb⟩,⟨x0,x1,l2⟩,u0,u1⟩:=JC.out w7 m7))
  all_goals
   exact Yz
theorem zl4 {n:Nat} (hn:n≤5):∀{X:Ex},zt4 n X→zc8 X→ya4 n X
 | .con b,_,_=>yy7 hn b
 | .var v,h,_=>yt7 hn h
 | .not X,h,hl=>ys0 hn (zl4 hn (X:=X) h hl)
 | .bin op X Y,h,hl=>yq4 hn hl.1 (zl4 hn h.1 hl.2.1) (zl4 hn h.2 hl.2.2)
 | .bnd each l X,h,hl=>yB3 hn h.1 hl.1 (zl4 hn h.2 hl.2)
open Go.RowKit
theorem zu4 {x n:Nat} (h:x < 2 ^ n):zk4 x≤n:=by
 unfold zk4;split
 ·omega
 ·rename_i h0
  have:=(Nat.log2_lt h0).2 h;omega
theorem zp0 {n:Nat} (hn:n≤16) {w:Θ} {x:Nat} {v:Value} {X:Ex} {F:List Nat} (B:Blk w x #[v] 167) (pv:PV w X v F) (hX:zt4 n X) (hL:zc8 X):
 K O 64 #[Q (S ⟨x,0,V⟩)] w fun e w'=>e=N (U τ (exV X:Nat))∧C [] w w':=by
 obtain ⟨T,d,rfl⟩:=pv.iface;have VC:=j (zw9 hn hX hL w T d F pv);have MT:=zk1 pv;have CF:=zm0 X;have c0:=B.cell 0;simp only [Φ,Ψ] at c0;have hl:=B.lt;clear B pv hX hL;generalize zh1 X=fx at *;generalize exV X=vx at *;go_in;go_wp2_with fail;refine VC.out.mono ?_;rintro e w1 ⟨rfl,m1⟩;have M1:=j m1;clear m1;go_wp2_with fail;go_ret;exact ⟨rfl,M1.out⟩
theorem zQ3 {n:Nat} (hn:n≤4) {w:Θ} {x:Nat} {v:Value} {X:Ex} {F:List Nat} (B:Blk w x #[v] 167) (pv:PV w X v F) (hX:zt4 n X) (hL:zc8 X):
 K O 30 #[Q (S ⟨x,0,V⟩),U M n] w (zE7 w n (exW n X)):=by
 have VA:D (∀W,C [] w W→K O 64 #[Q (S ⟨x,0,V⟩)] W fun e w'=>e=N (U τ (exV X:Nat))∧C [] w w'∧C [] W w'):=fun W m=>(zp0 (n:=n) (zc) (B.mod m (J)) (pv.mod m (J)) hX hL).mono (wS)
 have hv:=zl0 hX;have h16:2 ^ n≤16:=zF;have LE:=j (zX8 (exV X) (zc));have hb:=zu4 hv;obtain ⟨T,d,rfl⟩:=pv.iface;have TC:D (∀W,C [] w W→K O (zg1 X) #[d,U M n] W (zz6 W n (exW n X))):=fun W m=>zl4 (zc) hX hL W T d F (pv.mod m (J))
 have MT:=zf3 pv;have CF:=zf8 X;have hl:=B.lt;obtain ⟨gk,hgk⟩:∃gk,w.heap.size=gk:=⟨_,rfl⟩;have B0:=j (Blk.new' w #[U M 0,P V 0 0] 88 gk hgk.symm);have M0:D (C [] w (w.alloc (H #[U M 0,P V 0 0] 88))):=zg;have BX:=j B;have hb':¬(n:Int) < zk4 (exV X):=zc;have hn0:¬(n:Int) < 0:=zc;have hn16:¬(16:Int) < n:=zc;clear B pv hX hL hv h16 hb;generalize zg1 X=fx at *;generalize exW n X=R at *;generalize zk4 (exV X)=bl at *;generalize exV X=vx at *;go_in;go_wp2_with fail;refine (VA.out _ M0.out).mono ?_;rintro e w1 ⟨rfl,m1,n1⟩;have M1:=j m1;have K1:=j (B0.out.mod n1 (J));clear m1 n1 B0;go_wp2_with fail;refine (LE.out _).mono ?_;rintro e w2 ⟨rfl,rfl⟩;have c0:=(BX.out.mod M1.out (J)).cell 0;simp only [Φ,Ψ] at c0;have hl2:=(BX.out.mod M1.out (J)).lt;go_wp2_with fail;refine (TC.out _ M1.out).mono ?_;rintro e w3 ⟨g4,rfl,b4,hg4,m4⟩;have K3:=j (K1.out.mod m4 (J));have M3:=j (M1.out.trans' m4);have B4:=j b4;have nd:¬g4=gk:=by have:=K1.out.lt;omega
 have hgw:w.heap.size≤g4:=qo;clear b4 m4 c0 hl2 hg4;obtain ⟨z0,z1⟩:=K3.out.cells2;obtain ⟨f0,f1,-⟩:=K3.out.frozs;have l0:=K3.out.lt;go_wp2_with fail;have BR:=K3.out.put2 (U M n) (P (S ⟨g4,0,V⟩) 1 1);have MR:=Mod.put2 w3 gk (U M n) (P (S ⟨g4,0,V⟩) 1 1);have MF:=M3.out.trans MR (fun i hi q=>zP);have BF:=B4.out.mod MR (by simpa using nd);obtain ⟨y0,y1⟩:=BR.cells2;generalize (w3.setCell ⟨gk,0,V⟩ (U M n)).setCell ⟨gk,1,V⟩ (P (S ⟨g4,0,V⟩) 1 1)=w9 at *;refine ψ (v:=Δ #[Ξ #[U M n,P (S ⟨g4,0,V⟩) 1 1],U G 0]) (by simp [results,Tryz.results30,go_sem,y0,y1];try rfl) rfl ?_;exact ⟨g4,rfl,BF,hgw,MF⟩
section
variable {bs n room bo bc g bq bk gq f bd:Nat} {p q Fo:List Nat}
theorem zJ2 (h1:1≤f) (h5:f≤5) (hn:n≤4) (hrm:room≤1048576) (hp:Perm p n) (iv:Inv p q) {w:Θ} {L:List Rc} {F Z:List Nat} {x:Nat} {v:Value} {X:Ex} (HE:EngQ w bs n room L F bo bc g bq bk gq) (HO:IsOrd w bd p q Fo) (hno:∀k∈Fo++Z,k∉bq::bk::gq::bo::bc::g::F)
 (B:Blk w x #[v] 167) (pv:PV w X v Z) (hZ:∀k∈Z,k < w.heap.size) (hX:zt4 n X) (hL:zc8 X) (hb1:L.length+Xk X *kcN n≤100000) (hb2:L.length+Xk X *kcN n≤room):
 K O 33 #[Q (S ⟨x,0,V⟩),Q (S ⟨bq,0,V⟩),Q (S ⟨bo,0,V⟩),Q (S ⟨bd,0,V⟩),U G f] w (zm8 w bs n room L F bo bc g bq bk gq f n 0 (exT n p X) (Xk X *kcN n)):=by
 have VA:D (∀W,C [] w W→K O 64 #[Q (S ⟨x,0,V⟩)] W fun e w'=>e=N (U τ (exV X:Nat))∧C [] w w'∧C [] W w'):=fun W m=>(zp0 (n:=n) (zc) (B.mod m (J)) (pv.mod m (J)) hX hL).mono (wS)
 have hv:=zl0 hX;have h16:2 ^ n≤16:=zF;have LE:=j (zX8 (exV X) (zc));have hb:=zu4 hv;have OS:D (∀W,C [] w W→K O 28 #[Q (S ⟨bo,0,V⟩)] W fun e w'=>e=N (Q (S ⟨bs,0,V⟩))∧w'=W):=fun W m=>X6 (HE.a.ops.mod m (J))
 have SV:D (∀W,C [] w W→K O 67 #[Q (S ⟨bs,0,V⟩)] W fun e w'=>e=N (U M n)∧w'=W):=fun W m=>by
  obtain ⟨ba,bi,Fa,c0,-⟩:=(HE.a.sto.st.mod m (J)).own;exact YH bs n W c0
 have OV:D (∀W,C [] w W→K O 31 #[Q (S ⟨bd,0,V⟩)] W fun e w'=>e=N (U M n)∧w'=W):=fun W m=>by
  have:=Xh (HO.mod m (J));rw [hp.len] at this;exact this
 have IF:=j (YZ f h1 h5);obtain ⟨T,d,rfl⟩:=pv.iface
 have EC:D (∀W bm,C [] w W→w.heap.size≤bm→Blk W bm #[Q (S ⟨bq,0,V⟩),Q (S ⟨bo,0,V⟩),Q (S ⟨bd,0,V⟩),U G (f:Nat)] 180→K O (zH1 X) #[d,Q (S ⟨bm,0,V⟩)] W (zm8 W bs n room L F bo bc g bq bk gq f n 0 (exT n p X) (Xk X *kcN n))):=fun W bm m hbm BM=>
  X8 h1 h5 (zc) hrm hp iv hX hL W L F Z T d ⟨HE.mod0 m,BM,HO.mod m (J),fun k hk _=>by
   rcases Γ.1 hk with rfl | hk
   ·intro h;have:=HE.lt _ h;omega
   ·exact hno k hk⟩ (pv.mod m (J)) (fun k hk=>I (hZ k hk) m.size) hb1 hb2
 have MT:=zk7 pv;have CF:=zk0 X;have hl:=B.lt;have LT:=j HE.lt;obtain ⟨gk,hgk⟩:∃gk,w.heap.size=gk:=⟨_,rfl⟩;have B0:=j (Blk.new' w #[U G 0,U E 0] 44 gk hgk.symm);have M0:D (C [] w (w.alloc (H #[U G 0,U E 0] 44))):=zg;have BX:=j B;have hb':¬(n:Int) < zk4 (exV X):=zc;have hqn:((n:Int) != (n:Int))=false:=J;have HN:D (gk∉bq::bk::gq::bo::bc::g::F):=fun h=>zS
 clear B pv hX hL hv h16 hb hb1 hb2 HE HO hno hZ hp iv LT;generalize zH1 X=fx at *;generalize Xk X *kcN n=c1 at *;generalize exT n p X=R at *;generalize zk4 (exV X)=bl at *;generalize exV X=vx at *;go_in;go_wp2_with fail;refine (OS.out _ M0.out).mono ?_;rintro e w1 ⟨rfl,hw⟩;subst hw;go_wp2_with fail;refine (SV.out _ M0.out).mono ?_;rintro e w1 ⟨rfl,hw⟩;subst hw;go_wp2_with fail;refine (OV.out _ M0.out).mono ?_;rintro e w1 ⟨rfl,hw⟩;subst hw;go_wp2_with fail;refine (IF.out _).mono ?_;rintro e w1 ⟨rfl,hw⟩;subst hw;go_wp2_with fail;refine (VA.out _ M0.out).mono ?_;rintro e w1 ⟨rfl,m1,n1⟩;have M1:=j m1;have K1:=j (B0.out.mod n1 (J));clear m1 n1 B0;go_wp2_with fail;refine (LE.out _).mono ?_;rintro e w2 ⟨rfl,rfl⟩;go_wp2_with fail;refine (OV.out _ M1.out).mono ?_;rintro e w3 ⟨rfl,rfl⟩;have c0:=(BX.out.mod M1.out (J)).cell 0;simp only [Φ,Ψ] at c0;have hl2:=(BX.out.mod M1.out (J)).lt;obtain ⟨bm,hbm⟩:∃s,w3.heap.size=s:=⟨_,rfl⟩;have BM:=Blk.new' w3 #[Q (S ⟨bq,0,V⟩),Q (S ⟨bo,0,V⟩),Q (S ⟨bd,0,V⟩),U G (f:Nat)] 180 bm hbm.symm;have K4:=j (K1.out.alloc (H #[Q (S ⟨bq,0,V⟩),Q (S ⟨bo,0,V⟩),Q (S ⟨bd,0,V⟩),U G (f:Nat)] 180));have M4:=j (M1.out.alloc (H #[Q (S ⟨bq,0,V⟩),Q (S ⟨bo,0,V⟩),Q (S ⟨bd,0,V⟩),U G (f:Nat)] 180));have EC4:=j (EC.out _ bm M4.out (qo) BM);clear BM EC;go_wp2_with fail;refine EC4.out.mono ?_;rintro e w7 ⟨et,ea,L2,F2,rfl,s7,g7,ex,hl⟩;have hkF:gk∉bk::gq::bc::g::F:=no4 HN.out (show gk∉F from fun q=>HN.out (zJ));have PB:=j (K4.out.mod g7.mod hkF);have FIN:D (zm8 w bs n room L F bo bc g bq bk gq f n 0 R c1 (N (Δ #[Ξ #[U G et,U E ea],U G 0])) ((w7.setCell ⟨gk,0,V⟩ (U G et)).setCell ⟨gk,1,V⟩ (U E ea))):=zA7 M4.out s7 g7 (zc) K4.out.lt HN.out ex hl;clear s7 g7 ex hl c0 hl2 EC4;obtain ⟨z0,z1⟩:=PB.out.cells2;obtain ⟨f0,f1,-⟩:=PB.out.frozs;have zl:=PB.out.lt;go_wp2_with fail;have BW:=PB.out.put2 (U G et) (U E ea);obtain ⟨y0,y1⟩:=BW.cells2;clear BW;generalize (w7.setCell ⟨gk,0,V⟩ (U G et)).setCell ⟨gk,1,V⟩ (U E ea)=w9 at *;refine ψ (v:=Δ #[Ξ #[U G et,U E ea],U G 0]) (by simp [results,Tryz.results33,go_sem,y0,y1];try rfl) rfl ?_;exact FIN.out
end
open Go.RowKit
def DiaP (w:Θ) (bs n room:Nat) (L:List Rc) (F:List Nat) (bo bc g bq bk gq f:Nat) (t:List Bool) (c:Nat) (r:Ending) (w':Θ):Prop:=
 ∃(et ea:Nat) (L2:List Rc) (F':List Nat),r=N (Δ #[Ξ #[U G et,U E ea],ω true])∧EngQ w' bs n room (L++L2) F' bo bc g bq bk gq∧Grow w w' (bk::gq::bc::g::F) (bk::gq::bc::g::F')∧EdT (L++L2) f n n 0 ⟨et,ea⟩ t∧L2.length≤c
def zT8 (X:Ex) (W:Θ) (e:Ending) (w':Θ):Prop:=∃g v F,e=N (Δ #[Q (S ⟨g,0,V⟩),U M 0,U G 0])∧Blk w' g #[v] 167∧PV w' X v F∧C [] W w'∧W.heap.size≤g∧∀k∈F,W.heap.size≤k
section
variable {bs n room bo bc g bq bk gq f bd:Nat} {p q Fo:List Nat}
theorem yi9 {w:Θ} {L:List Rc} {F:List Nat} {gw Wd:Nat} (h1:1≤f) (h5:f≤5) (hn:n≤5) (hrm:room≤1048576) (hp:Perm p n) (HE:EngQ w bs n room L F bo bc g bq bk gq) (HO:IsOrd w bd p q Fo) (hno:∀k∈Fo,k∉F) (c0:w.cell? ⟨gw,0,V⟩=S (U .u64 Wd)) (hg:gw∉F) (hW:Wd < 2 ^ (2 ^ n)) (hb1:L.length+2 ^ n≤100000) (hb2:L.length+2 ^ n≤room):
 K O 32 #[Q (S ⟨bs,0,V⟩),Q (S ⟨bd,0,V⟩),U G f,Ξ #[U M n,P (S ⟨gw,0,V⟩) 1 1]] w fun e w'=>∃(t a:Nat) (L2:List Rc) (F':List Nat),e=N (Δ #[Ξ #[U G t,U E a],U G 0])∧EngQ w' bs n room (L++L2) F' bo bc g bq bk gq∧Grow w w' (bk::gq::bc::g::F) (bk::gq::bc::g::F')∧EdT (L++L2) f n n 0 ⟨t,a⟩ (Xz Wd p n 0 0)∧L2.length≤2 ^ n:=by
 have st:=HE.a.sto;refine (zv3 st.st HO c0 (fun k hk q=>?_) h1 h5 hn hp.len hp.lt hrm hW st.good st.nd hb2 hb1).mono ?_
 ·rcases Γ.1 hk with rfl | hk
  ·exact hg q
  ·exact hno k hk q
 ·rintro e w' ⟨⟨t,a⟩,L2,F',rfl,s1,m,o,g1,nd,ld,rp,hl⟩;have gr:Grow w w' F F':=⟨m,o⟩;exact ⟨t,a,L2,F',rfl,HE.grown ⟨s1,g1,nd⟩ gr,(((gr.cons g).cons bc).cons gq).cons bk,⟨rp,ld,Xl _ _ _ _ _,zc⟩,zc⟩
end
open Go.RowKit
section
variable {bs n room bo bc g bq bk gq f bd:Nat} {p q Fo:List Nat}
theorem zE2 {k:Nat} {F:List Nat} (h:k∉bq::bk::gq::bo::bc::g::F):k∉bk::gq::bc::g::F:=no4 h (show k∉F from fun q=>h (zJ))
theorem zt8 (h1:1≤f) (h5:f≤5) (hn:n≤4) (hrm:room≤1048576) (hp:Perm p n) (iv:Inv p q) {w:Θ} {L:List Rc} {F Ft:List Nat} {s:ByteArray} {X:Ex} {va:Value} (HE:EngQ w bs n room L F bo bc g bq bk gq) (HO:IsOrd w bd p q Fo) (hno:∀k∈Fo,k∉bq::bk::gq::bo::bc::g::F)
 (hv:Rv w va ((Y5 n X).map eb) Ft) (hft:∀k∈Ft,k < w.heap.size∧k∉bq::bk::gq::bo::bc::g::F) (PX:∀W,K O 29 #[.string s] W (zT8 X W)) (hX:zt4 n X) (hL:zc8 X) (hb1:L.length+(2 ^ n+Xk X *kcN n)≤100000) (hb2:L.length+(2 ^ n+Xk X *kcN n)≤room):
 K O 12 #[Q (S ⟨bs,0,V⟩),Q (S ⟨bd,0,V⟩),Q (S ⟨bo,0,V⟩),Q (S ⟨bq,0,V⟩),U G f,.string s,va] w (DiaP w bs n room L F bo bc g bq bk gq f (exT n p X) (2 ^ n+Xk X *kcN n)):=by
 have PX:=j PX;have HIV:=j (And.intro hp iv);have HXL:=j (And.intro hX hL);have HB:D (L.length+(2 ^ n+Xk X *kcN n)≤100000∧L.length+(2 ^ n+Xk X *kcN n)≤room):=⟨hb1,hb2⟩;have LT:=j HE.lt;obtain ⟨gk,hgk⟩:∃gk,w.heap.size=gk:=⟨_,rfl⟩;have B0:=j (Blk.new' w #[U G 0,U E 0] 44 gk hgk.symm);have M0:D (C [] w (w.alloc (H #[U G 0,U E 0] 44))):=zg;have HN:D (gk∉bq::bk::gq::bo::bc::g::F):=fun h=>zS
 have HE0:=j HE;have HO0:=j HO;have HNO:=j hno;have HV:=j hv;have HFT:=j hft;have FLT:=j HO.lt;obtain ⟨A,cap,rfl,-⟩:=hv.shape;obtain ⟨ln,hln⟩:∃x,((Y5 n X).map eb).length=x:=⟨_,rfl⟩;rw [hln] at HV ⊢;clear HE HO hno hv hft hp iv hX hL hb1 hb2 hln;go_in;go_wp2_with fail;refine (PX.out _).mono ?_;rintro e w1 ⟨x,v,Z0,rfl,bx,pv,m1,hx1,hz⟩;have M1:=j (M0.out.trans' m1);have B1:=j (B0.out.mod m1 (J));have BX1:=j bx;have PV1:=j pv.lt
 have HZ1:D (∀k∈Z0.filter (fun k=>decide (k < w1.heap.size)),k < w1.heap.size∧w.heap.size≤k):=fun k hk=>by
  obtain ⟨a,b⟩:=φ.1 hk;have:=hz k a;have:=M0.out.size;exact ⟨by simpa using b,zc⟩
 generalize Z0.filter (fun k=>decide (k < w1.heap.size))=Z at *
 have OV1:D (∀W,C [] w W→K O 31 #[Q (S ⟨bd,0,V⟩)] W fun e w'=>e=N (U M n)∧w'=W):=fun W m=>by
  have:=Xh (HO0.out.mod m (J));rw [HIV.out.1.len] at this;exact this
 have SX:=j (zQ3 (n:=n) hn bx pv HXL.out.1 HXL.out.2);have hxw:w.heap.size≤x:=qq;clear m1 bx pv hz hx1 M0 B0 PX;go_wp2_with fail;refine (OV1.out _ M1.out).mono ?_;rintro e w2 ⟨rfl,hw⟩;subst hw;go_wp2_with fail;refine SX.out.mono ?_;rintro e w2 ⟨g1,rfl,b1,hg1,m2⟩;have M2:=j (M1.out.trans' m2);obtain ⟨gu,hgu⟩:∃z,w2.heap.size=z:=⟨_,rfl⟩;have HU:=j (zD2 hgu (U M n) (P (S ⟨g1,0,V⟩) 1 1) 88);have h1u:g1 < gu:=qS;have hku:gk < gu:=by have:=B1.out.lt;have:=m2.size;omega
 have hxu:x < gu:=by have:=BX1.out.lt;have:=m2.size;omega
 have hg1w:w.heap.size≤g1:=qo;have B3:=j ((B1.out.mod m2 (J)).mod HU.out.2 (J));have BX3:=j ((BX1.out.mod m2 (J)).mod HU.out.2 (J));have PV3:=j ((PV1.out.mod m2 (J)).mod HU.out.2 (J));have W3:=j (b1.mod HU.out.2 (J));have hm2:=m2.size;have HZ3:D (∀k∈Z,k < gu∧w.heap.size≤k):=fun k hk=>by have:=HZ1.out k hk;omega
 clear m2 b1 hg1 SX M1 B1 BX1 PV1 HZ1 hm2;go_upto_region 5 with fail;generalize w2.alloc (H #[U M n,P (S ⟨g1,0,V⟩) 1 1] 88)=w3 at *;have M3:=j (M2.out.trans' HU.out.2);have BU:=j HU.out.1;have hs3:gu < w3.heap.size:=BU.out.lt;clear HU M2 hgu;have nF:∀k,w.heap.size≤k→k∉bq::bk::gq::bo::bc::g::F:=fun k hk h=>zS
 have E3:=j (HE0.out.mod0 M3.out);have BO:=j (yi9 (f:=f) h1 h5 (zc) hrm HIV.out.1 E3.out (HO0.out.mod M3.out (J)) (fun k hk q=>HNO.out k hk (zJ)) (W3.out.cell 0) (show g1∉F from fun q=>nF g1 hg1w (zJ)) (zv2 n X) (xM) (xN));obtain ⟨u0,u1⟩:=BU.out.cells2;go_wp2_with fail;refine BO.out.mono ?_;rintro e w4 ⟨t1,a1,L1,F1,rfl,e4,gr4,ex4,hl4⟩;have E4:=j e4;have EX4:=j ex4;have HL4:=j hl4;have nF1:∀k,w.heap.size≤k→k < w3.heap.size→k∉bq::bk::gq::bo::bc::g::F1:=fun k h h2=>no6 (nF k h) (yn8 (gr4.out h2 (zE2 (nF k h))))
 have oF1:∀k,k < w3.heap.size→k∉bq::bk::gq::bo::bc::g::F→k∉bq::bk::gq::bo::bc::g::F1:=fun k h2 h=>no6 h (yn8 (gr4.out h2 (zE2 h)))
 have sF:∀k,w.heap.size≤k→k∉bk::gq::bc::g::F:=fun k h=>zE2 (nF k h)
 have hw3:=M3.out.size;have K4:=j (B3.out.mod gr4.mod (sF gk (zc)));have BX4:=j (BX3.out.mod gr4.mod (sF x hxw));have PV4:=j (PV3.out.mod gr4.mod (fun k hk=>sF k (HZ3.out k hk).2));have W4:=j (W3.out.mod gr4.mod (sF g1 hg1w));have BU4:=j (BU.out.mod gr4.mod (sF gu (zc)));have HO4:=j ((HO0.out.mod M3.out (J)).mod gr4.mod (fun k hk=>zE2 (HNO.out k hk)));have HNO4:=j (fun k hk=>oF1 k (by have:=FLT.out k hk;omega) (HNO.out k hk));have HV4:=j ((HV.out.mod M3.out (J)).mod gr4.mod (fun k hk=>zE2 (HFT.out k hk).2))
 have HFT4:D (∀k∈Ft,k < w4.heap.size∧k∉bq::bk::gq::bo::bc::g::F1):=fun k hk=>by
  have h:=HFT.out k hk;have:=gr4.size;exact ⟨zc,oF1 k (zc) h.2⟩
 have NK4:D (gk∉bq::bk::gq::bo::bc::g::F1∧x∉bq::bk::gq::bo::bc::g::F1∧g1∉bq::bk::gq::bo::bc::g::F1∧gu∉bq::bk::gq::bo::bc::g::F1∧∀k∈Z,k∉bq::bk::gq::bo::bc::g::F1):=
  ⟨nF1 _ (zc) (zc),nF1 _ hxw (zc),nF1 _ hg1w (zc),nF1 _ (zc) (zc),fun k hk=>nF1 _ (HZ3.out k hk).2 (by have:=(HZ3.out k hk).1;omega)⟩
 have G4:=j ((Grow.of_mod (F:=bk::gq::bc::g::F) M3.out).trans gr4);have hs4:w3.heap.size≤w4.heap.size:=gr4.size;obtain ⟨ge,hge⟩:∃z,w4.heap.size=z:=⟨_,rfl⟩;have HA:=j (zD2 hge (U G t1) (U E a1) 44);have huge:gu < ge:=zc;have E5:=j (E4.out.mod0 HA.out.2);have K5:=j (K4.out.mod HA.out.2 (J));have W5:=j (W4.out.mod HA.out.2 (J));have BU5:=j (BU4.out.mod HA.out.2 (J));have HO5:=j (HO4.out.mod HA.out.2 (J));have HV5:=j (HV4.out.mod HA.out.2 (J));have G5:=j (G4.out.then HA.out.2);have NE5:D (ge∉bq::bk::gq::bo::bc::g::F1):=fun h=>by have:=E4.out.lt _ h;omega
 have EDC:=j (zJ2 (f:=f) h1 h5 hn hrm HIV.out.1 HIV.out.2 E5.out HO5.out (Z:=Z) (fun k hk=>(List.mem_append.1 hk).elim (HNO4.out k) (NK4.out.2.2.2.2 k)) (BX4.out.mod HA.out.2 (J)) (PV4.out.mod HA.out.2 (J)) (fun k hk=>by have:=(HZ3.out k hk).1;have:=HA.out.2.size;omega) HXL.out.1 HXL.out.2
  (by have:=HB.out.1;have:=HL4.out;rw [Ω];omega) (by have:=HB.out.2;have:=HL4.out;rw [Ω];omega))
 have HA5:=j HA.out.1;have hs5:ge < (w4.alloc (H #[U G t1,U E a1] 44)).heap.size:=HA5.out.lt;clear e4 gr4 ex4 hl4 nF nF1 oF1 sF u0 u1 HA B3 BX3 PV3 W3 BU HO4 HV4 K4 BX4 PV4 W4 BU4 hs3 BO OV1 FLT E3;go_upto_region 6 with fail;clear hge;generalize w4.alloc (H #[U G t1,U E a1] 44)=w5 at *;go_wp2_with fail;refine EDC.out.mono ?_;rintro e w6 ⟨t2,a2,L2,F2,rfl,e6,gr6,ex6,hl6⟩;have E6:=j e6;have EQT:D ((⟨t1,a1⟩:Ed)=⟨t2,a2⟩):=(EdT.eq_iff E6.out.a.sto.nd (EX4.out.grow L2) ex6 h1 h5).2 rfl;obtain ⟨rfl,rfl⟩:=Ed.mk.inj EQT.out;have EX6:=j ex6;have HL6:=j hl6;have oF2:∀k,k < w5.heap.size→k∉bq::bk::gq::bo::bc::g::F1→k∉bq::bk::gq::bo::bc::g::F2:=fun k h2 h=>no6 h (yn8 (gr6.out h2 (zE2 h)))
 have K6:=j (K5.out.mod gr6.mod (zE2 NK4.out.1));have W6:=j (W5.out.mod gr6.mod (zE2 NK4.out.2.2.1));have BU6:=j (BU5.out.mod gr6.mod (zE2 NK4.out.2.2.2.1));have HA6:=j (HA5.out.mod gr6.mod (zE2 NE5.out));have HO6:=j (HO5.out.mod gr6.mod (fun k hk=>zE2 (HNO4.out k hk)));have HV6:=j (HV5.out.mod gr6.mod (fun k hk=>zE2 (HFT4.out k hk).2));have NK6:D (gk∉bq::bk::gq::bo::bc::g::F2):=oF2 _ (zc) NK4.out.1;have G6:=j (G5.out.trans gr6);have hs6:w5.heap.size≤w6.heap.size:=gr6.size;obtain ⟨gf,hgf⟩:∃z,w6.heap.size=z:=⟨_,rfl⟩;have HC:=j (zD2 hgf (U G t1) (U E a1) 44);have hef:ge < gf:=zc;have E7:=j (E6.out.mod0 HC.out.2);have K7:=j (K6.out.mod HC.out.2 (J));have W7:=j (W6.out.mod HC.out.2 (J));have BU7:=j (BU6.out.mod HC.out.2 (J));have HA7:=j (HA6.out.mod HC.out.2 (J));have HV7:=j (HV6.out.mod HC.out.2 (J));have G7:=j (G6.out.then HC.out.2);have BS:=j (zB7 (f:=f) (W:=exW n X) h1 h5 (zc) E7.out.a.sto (by have:=HB.out.1;have:=HL4.out;have:=HL6.out;simp only [Ω];omega) (HO6.out.mod HC.out.2 (J)) HIV.out.1 (zv2 n X) EX6.out);have HC7:=j HC.out.1;have NK7:=j NK6.out;clear e6 gr6 ex6 hl6 oF2 HC K5 W5 BU5 HO5 HV5 K6 W6 BU6 HA6 HO6 HV6 EDC E5;go_upto_region 7 with fail;clear hgf;generalize w6.alloc (H #[U G t1,U E a1] 44)=w7 at *;obtain ⟨x0,x1⟩:=HC7.out.cells2;have lx:=HC7.out.lt;go_wp2_with fail;refine BS.out.mono ?_;rintro e w8 ⟨g5,rfl,b5,hg5,m8⟩;obtain ⟨gs,hgs⟩:∃z,w8.heap.size=z:=⟨_,rfl⟩;have HD:=j (zD2 hgs (U M n) (P (S ⟨g5,0,V⟩) 1 1) 88);have M9:=j (m8.trans' HD.out.2);have W9:=j (W7.out.mod M9.out (J));have W9':=j (b5.mod HD.out.2 (J));have BU9:=j (BU7.out.mod M9.out (J));have HA9:=j (HA7.out.mod M9.out (J));have HC9:=j (HC7.out.mod M9.out (J));have K9:=j (K7.out.mod M9.out (J));have HV9:=j (HV7.out.mod M9.out (J));have HD9:=j HD.out.1;have hfs:gf < gs:=by have:=HC7.out.lt;have:=m8.size;omega
 clear b5 m8 hg5 HD x0 x1 lx BS;go_upto_region 8 with fail;clear hgs;generalize w8.alloc (H #[U M n,P (S ⟨g5,0,V⟩) 1 1] 88)=w9 at *;obtain ⟨c0,c1⟩:=HA9.out.cells2;obtain ⟨c2,c3⟩:=HC9.out.cells2;obtain ⟨c4,c5⟩:=HD9.out.cells2;obtain ⟨c6,c7⟩:=BU9.out.cells2;have lge:=HA9.out.lt;have lgf:=HC9.out.lt;have lgs:=HD9.out.lt;have lgu:=BU9.out.lt;have JC:D (∀W,C [] w9 W→W.cell? ⟨ge,0,V⟩=S (U G t1)∧W.cell? ⟨ge,1,V⟩=S (U E a1)∧W.cell? ⟨gf,0,V⟩=S (U G t1)∧W.cell? ⟨gf,1,V⟩=S (U E a1)∧W.cell? ⟨gs,0,V⟩=S (U M n)∧W.cell? ⟨gs,1,V⟩=S (P (S ⟨g5,0,V⟩) 1 1)∧W.cell? ⟨gu,0,V⟩=S (U M n)∧W.cell? ⟨gu,1,V⟩=S (P (S ⟨g1,0,V⟩) 1 1)):=fun W m=>⟨(m.cell (a:=⟨ge,0,V⟩) lge (J)).trans c0,(m.cell (a:=⟨ge,1,V⟩) lge (J)).trans c1,(m.cell (a:=⟨gf,0,V⟩) lgf (J)).trans c2,(m.cell (a:=⟨gf,1,V⟩) lgf (J)).trans c3,(m.cell (a:=⟨gs,0,V⟩) lgs (J)).trans c4,(m.cell (a:=⟨gs,1,V⟩) lgs (J)).trans c5,(m.cell (a:=⟨gu,0,V⟩) lgu (J)).trans c6,(m.cell (a:=⟨gu,1,V⟩) lgu (J)).trans c7⟩
 have SM:D (∀W,C [] w9 W→K O 35 #[Ξ #[U M n,P (S ⟨g5,0,V⟩) 1 1],Ξ #[U M n,P (S ⟨g1,0,V⟩) 1 1]] W fun e w'=>e=N (ω true)∧C [] w9 w'):=fun W m=>(zR1 ((W9'.out.mod m (J)).cell 0) ((W9.out.mod m (J)).cell 0)).mono (zT)
 have IS:D (∀W,C [] w9 W→K O 36 #[Ξ #[U M n,P (S ⟨g1,0,V⟩) 1 1],P A ln cap] W fun e w'=>e=N (ω true)∧C [] w9 w'):=fun W m=>(yC7 (zc) ((W9.out.mod m (J)).cell 0) (HV9.out.mod m (J))).mono (zT)
 have EQ:=fun w=>(Y4 9998 ⟨t1,a1⟩ ⟨t1,a1⟩ w).trans (by rw [decide_eq_true rfl])
 unfold edv at EQ;simp only at EQ;have e1:¬gk=ge:=zc;have e2:¬gk=gf:=zc;have e3:¬gk=gs:=zc;have e4:¬gk=gu:=zc;have e1':¬ge=gk:=zc;have e2':¬gf=gk:=zc;have e3':¬gs=gk:=zc;have e4':¬gu=gk:=zc
 have PK:D (∀W,C [] w9 W→(W.cell? ⟨gk,0,V⟩=S (U G 0)∧W.cell? ⟨gk,1,V⟩=S (U E 0))∧W.frozen? ⟨gk,0,V⟩=false∧W.frozen? ⟨gk,1,V⟩=false∧gk < W.heap.size):=fun W m=>by
  have B:=K9.out.mod m (J);obtain ⟨f0,f1,-⟩:=B.frozs;exact ⟨B.cells2,f0,f1,B.lt⟩
 obtain ⟨⟨k0,k1⟩,k2,k3,k4⟩:=PK.out w9 (Mod.refl _ _);go_wp2_with fail
 go_region_held3 (fun w'=>w'.cell? ⟨ge,0,V⟩=S (U G t1)∧w'.cell? ⟨ge,1,V⟩=S (U E a1)∧w'.cell? ⟨gf,0,V⟩=S (U G t1)∧w'.cell? ⟨gf,1,V⟩=S (U E a1)∧w'.cell? ⟨gs,0,V⟩=S (U M n)∧w'.cell? ⟨gs,1,V⟩=S (P (S ⟨g5,0,V⟩) 1 1)∧w'.cell? ⟨gu,0,V⟩=S (U M n)∧w'.cell? ⟨gu,1,V⟩=S (P (S ⟨g1,0,V⟩) 1 1)) (go_keep) (first
  | (go_at_call 35;with_reducible refine (SM.out _ (zK)).mono ?_;rintro e' w10 ⟨rfl,m10⟩;obtain ⟨c0,c1,c2,c3,c4,c5,c6,c7⟩:=JC.out w10 m10;obtain ⟨⟨k0,k1⟩,k2,k3,k4⟩:=PK.out w10 m10)
  | (go_at_call 36;with_reducible refine (IS.out _ (zK)).mono ?_;rintro e' w11 ⟨rfl,m11⟩;obtain ⟨c0,c1,c2,c3,c4,c5,c6,c7⟩:=JC.out w11 m11;obtain ⟨⟨k0,k1⟩,k2,k3,k4⟩:=PK.out w11 m11))
 all_goals
  go_wp2_with fail;have BR:=(K9.out.mod m11 (J)).put2 (U G t1) (U E a1);have MR:=Mod.put2 w11 gk (U G t1) (U E a1);obtain ⟨y0,y1⟩:=BR.cells2;have E11:=E7.out.mod0 (M9.out.trans' m11);have G11:=G7.out.then (M9.out.trans' m11);have X7:=EX6.out
  have FIN:DiaP w bs n room L F bo bc g bq bk gq f (exT n p X) (2 ^ n+Xk X *kcN n) (N (Δ #[Ξ #[U G t1,U E a1],ω true])) ((w11.setCell ⟨gk,0,V⟩ (U G t1)).setCell ⟨gk,1,V⟩ (U E a1)):=by
   rw [List.append_assoc] at E11 X7;exact ⟨t1,a1,L1++L2,F2,rfl,E11.mod MR (fun k hk q=>by rw [List.mem_singleton] at q;rw [q] at hk;exact NK7.out hk),G11.write MR (fun k hk=>jJ),X7,by rw [Ω];exact Nat.add_le_add HL4.out HL6.out⟩
  clear BR MR E11 G11 X7;generalize (w11.setCell ⟨gk,0,V⟩ (U G t1)).setCell ⟨gk,1,V⟩ (U E a1)=w12 at *;refine ψ (v:=Δ #[Ξ #[U G t1,U E a1],ω true]) (by simp [results,Tryz.results12,go_sem,y0,y1];try rfl) rfl ?_;exact FIN
end
open Go.RowKit
theorem yL2 {n:Nat} (hn:n≤4):kcN n≤181:=by
 obtain rfl | rfl | rfl | rfl | rfl:n=0∨n=1∨n=2∨n=3∨n=4:=zc
 all_goals decide
theorem budget {n x:Nat} (hn:n≤4) (hx:x≤50):2 ^ n+x *kcN n≤9100:=by
 have h1:=Nat.mul_le_mul hx (yL2 hn);have h2:=Nat.pow_le_pow_right (n:=2) (zc) hn;omega
structure LawW (w W:Θ) (bs n room:Nat) (L:List Rc) (F:List Nat) (bo bc g bq bk gq bd:Nat) (p q Fo:List Nat) (va vb:Value) (RA RB:List Tk) (GA GB:List Nat):Prop where
 base:C [] w W
 eng:EngQ W bs n room L F bo bc g bq bk gq
 ord:IsOrd W bd p q Fo
 ta:TkR W va RA GA
 tb:TkR W vb RB GB
 no:∀k∈Fo++(GA++GB),k < W.heap.size∧k∉bq::bk::gq::bo::bc::g::F
 ge:∀k∈bq::bk::gq::bo::bc::g::F,w.heap.size≤k
section
variable {w W W':Θ} {bs n room:Nat} {L L2:List Rc} {F F':List Nat} {bo bc g bq bk gq bd:Nat} {p q Fo:List Nat} {va vb:Value} {RA RB:List Tk} {GA GB:List Nat}
theorem LawW.mod (h:LawW w W bs n room L F bo bc g bq bk gq bd p q Fo va vb RA RB GA GB) (m:C [] W W'):LawW w W' bs n room L F bo bc g bq bk gq bd p q Fo va vb RA RB GA GB:=
 ⟨h.base.trans' m,h.eng.mod0 m,h.ord.mod m (J),h.ta.mod m (J),h.tb.mod m (J),fun k hk=>⟨I (h.no k hk).1 m.size,(h.no k hk).2⟩,h.ge⟩
theorem LawW.did (h:LawW w W bs n room L F bo bc g bq bk gq bd p q Fo va vb RA RB GA GB) (e:EngQ W' bs n room (L++L2) F' bo bc g bq bk gq) (m:Grow W W' (bk::gq::bc::g::F) (bk::gq::bc::g::F')):LawW w W' bs n room (L++L2) F' bo bc g bq bk gq bd p q Fo va vb RA RB GA GB:=by
 have n4:∀k∈Fo++(GA++GB),k∉bk::gq::bc::g::F:=fun k hk=>zE2 (h.no k hk).2
 have hb:=h.base.size
 have sub:∀k∈bk::gq::bc::g::F,k∈bq::bk::gq::bo::bc::g::F:=fun k hk=>by
  simp only [Γ] at hk ⊢;rcases hk with hk | hk | hk | hk | hk<;>simp [hk]
 refine ⟨h.base.trans m.mod (fun i hi q=>?_),e,h.ord.mod m.mod (fun k hk=>n4 k (zC)),h.ta.mod m.mod (fun k hk=>n4 k (zC)),h.tb.mod m.mod (fun k hk=>n4 k (zC)),fun k hk=>⟨I (h.no k hk).1 m.size,no6 (h.no k hk).2 (yn8 (m.out (h.no k hk).1 (n4 k hk)))⟩,fun k hk=>?_⟩
 ·have:=h.ge i (sub i q);omega
 ·have key:k∈bk::gq::bc::g::F'∨k=bq∨k=bo:=by
   simp only [Γ] at hk ⊢;rcases hk with hk | hk | hk | hk | hk | hk | hk<;>simp [hk]
  rcases key with hk | rfl | rfl
  ·rcases m.own k hk with hk | hk
   ·exact h.ge k (sub k hk)
   ·omega
  ·exact h.ge _ (J)
  ·exact h.ge _ (J)
end
end Go.Proofs.YtbnpoapmnkfhkaaGreatDoor
