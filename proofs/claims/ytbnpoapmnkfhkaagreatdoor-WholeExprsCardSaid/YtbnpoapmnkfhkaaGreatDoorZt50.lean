import Derived.Test.YtbnpoapmnkfhkaaGreatDoorZt16
import Derived.Test.YtbnpoapmnkfhkaaGreatDoorZt29
import Derived.Test.YtbnpoapmnkfhkaaGreatDoorZt35
import Derived.Deep.RegionHeld3
import Derived.Test.YtbnpoapmnkfhkaaGreatDoorZt37
set_option linter.unusedVariables false
set_option linter.unusedSimpArgs false
set_option maxRecDepth 100000
set_option maxHeartbeats 4000000
namespace Go.Proofs.YtbnpoapmnkfhkaaGreatDoor
open Go.Lib renaming hid → z
open Go.Value renaming int → r, slice → U, pointer → P, iface → J, agg → Γ, tuple → τ, bool → κ
open Option renaming none → j, some → V
open Go.Proofs.Tryz renaming prog → S, results311 → ε
open Go.IntKind renaming i64 → Q, u8 → M, u32 → I, u64 → δ
open Go.Value.iface renaming inj → O
open Go.Obj renaming cells → N
open Nat renaming lt_of_lt_of_le → K, two_pow_pos → ζ, le_trans → γ
open Go.Proofs.YtbnpoapmnkfhkaaGreatDoor.Blk renaming new' → H, mod → φ
open Go.RowKit renaming Hid → D
open Go renaming Calls → C, bodyPost_ret → Ξ, World → ψ, results → ρ, Value → ν
open Go.Ending renaming returned → Ω
open List renaming getElem?_cons_zero → Ψ, getElem?_cons_succ → Φ, getElem?_toArray → Θ, getD_eq_getElem?_getD → Δ, mem_cons → χ, getElem?_eq_getElem → σ, length_append → π, append_assoc → ξ, mem_iff_getElem → μ, mem_append → η
open Go.Proofs.YtbnpoapmnkfhkaaGreatDoor.Mod renaming refl → ω, cell → ι, alloc → θ
open Go.RowKit
def kcN (n:Nat):Nat:=n+(qc n+4 *2 ^ n)
structure Env (w:ψ) (bs n room:Nat) (L:List Rc) (F:List Nat) (bo bc g bq bk gq bm f bd:Nat) (p q Fo Z:List Nat):Prop where
 eng:EngQ w bs n room L F bo bc g bq bk gq
 mak:Blk w bm #[P (V ⟨bq,0,j⟩),P (V ⟨bo,0,j⟩),P (V ⟨bd,0,j⟩),r M (f:Nat)] 180
 ord:IsOrd w bd p q Fo
 no:∀k∈bm::(Fo++Z),k < w.heap.size→k∉bq::bk::gq::bo::bc::g::F
section
variable {w w':ψ} {bs n room:Nat} {L L2:List Rc} {F F':List Nat} {bo bc g bq bk gq bm f bd:Nat} {p q Fo Z:List Nat}
theorem Env.out (h:Env w bs n room L F bo bc g bq bk gq bm f bd p q Fo Z) (m:Grow w w' (bk::gq::bc::g::F) (bk::gq::bc::g::F')) {k:Nat} (hk:k < w.heap.size) (hn:k∉bq::bk::gq::bo::bc::g::F):k∉bq::bk::gq::bo::bc::g::F':=
 no6 hn (yn8 (m.out hk (no4 hn (fun q=>hn (zJ)))))
theorem Env.did (h:Env w bs n room L F bo bc g bq bk gq bm f bd p q Fo Z) (e:EngQ w' bs n room (L++L2) F' bo bc g bq bk gq) (m:Grow w w' (bk::gq::bc::g::F) (bk::gq::bc::g::F'))
 (hZ:∀k∈Z,k < w.heap.size):Env w' bs n room (L++L2) F' bo bc g bq bk gq bm f bd p q Fo Z:=by
 have hbm:=h.mak.lt;have hFo:=h.ord.lt
 have key:∀k∈bm::(Fo++Z),k < w.heap.size∧k∉bq::bk::gq::bo::bc::g::F:=fun k hk=>by
  have hl:k < w.heap.size:=by
   rcases χ.1 hk with rfl | hk
   ·exact hbm
   ·exact (η.1 hk).elim (hFo k) (hZ k)
  exact ⟨hl,h.no k hk hl⟩
 have n4:∀k∈bm::(Fo++Z),k∉bk::gq::bc::g::F:=fun k hk=>no4 (key k hk).2 (fun q=>(key k hk).2 (zJ))
 exact ⟨e,h.mak.mod m.mod (n4 _ (ze)),h.ord.mod m.mod (fun k hk=>n4 k (zC)),fun k hk _=>h.out m (key k hk).1 (key k hk).2⟩
theorem Env.mod0 (h:Env w bs n room L F bo bc g bq bk gq bm f bd p q Fo Z) (m:Mod [] w w') (hZ:∀k∈Z,k < w.heap.size):Env w' bs n room L F bo bc g bq bk gq bm f bd p q Fo Z:=
 ⟨h.eng.mod0 m,h.mak.mod m (ze),h.ord.mod m (ze),fun k hk _=>h.no k hk (by
  rcases χ.1 hk with rfl | hk
  ·exact h.mak.lt
  ·exact (η.1 hk).elim (h.ord.lt k) (hZ k))⟩
end
def zH1:Ex→Nat
 | .con _=>309
 | .var _=>318
 | .not _=>326
 | .bin .. =>285
 | .bnd .. =>332
def ya5 (bs n room bo bc g bq bk gq bm f bd:Nat) (p q Fo:List Nat) (X:Ex):Prop:=
 ∀(w:ψ) (L:List Rc) (F Z:List Nat) (T:Nat) (d:ν),Env w bs n room L F bo bc g bq bk gq bm f bd p q Fo Z→PV w X (J T d) Z→(∀k∈Z,k < w.heap.size)→L.length+Xk X *kcN n≤100000→L.length+Xk X *kcN n≤room→
  C S (zH1 X) #[d,P (V ⟨bm,0,j⟩)] w (zm8 w bs n room L F bo bc g bq bk gq f n 0 (exT n p X) (Xk X *kcN n))
open Go.RowKit
theorem zF9 (op:Nat) (hop:op < 256) (w:ψ):C S 291 #[r M op] w fun e w'=>e=Ω (r Q (XM op:Nat))∧w'=w:=by
 have h:op=38∨op=124∨op=94∨op=62∨(op≠38∧op≠124∧op≠94∧op≠62):=zc;rcases h with rfl | rfl | rfl | rfl | ⟨h1,h2,h3,h4⟩
 ·go_in;go_wp2_with fail;go_ret;exact ⟨rfl,rfl⟩
 ·go_in;go_wp2_with fail;go_ret;exact ⟨rfl,rfl⟩
 ·go_in;go_wp2_with fail;go_ret;exact ⟨rfl,rfl⟩
 ·go_in;go_wp2_with fail;go_ret;exact ⟨rfl,rfl⟩
 ·have E:D (XM op=9):=by show _=_;unfold XM;rw [if_neg h1,if_neg h2,if_neg h3,if_neg h4]
  have i1:(op:Int)≠38:=zc;have i2:(op:Int)≠124:=zc;have i3:(op:Int)≠94:=zc;have i4:(op:Int)≠62:=zc;go_in;go_wp2_with fail;go_ret;exact ⟨by rw [E.out];rfl,rfl⟩
theorem ys5 (n:Nat) (b:Bool):exW n (.con b)=if b then Y8 n else 0:=by
 cases b with
 | true=>
  refine (Xr (by unfold Y8;have:=ζ (2 ^ n);simp;omega) fun x hx=>?_).symm;simp only [if_true];unfold Y8;rw [Nat.testBit_two_pow_sub_one,decide_eq_true hx];rfl
 | false=>exact (Xr (ζ _) fun x hx=>by simp [evE]).symm
theorem yr9 (n v:Nat):XE (2 ^ n) (fun x=>x.testBit v)=exW n (.var v):=rfl
theorem yw6 (n:Nat) (x:Ex):XE (2 ^ n) (fun i=>(3:Nat).testBit (2 *((exW n x).testBit i).toNat+((exW n x).testBit i).toNat))=exW n (.not x):=
 zm2 fun y hy=>by rw [zY9,exW,YV _ hy];rfl
theorem yq7 (n op:Nat) (a b:Ex):XE (2 ^ n) (fun i=>(XM op).testBit (2 *((exW n a).testBit i).toNat+((exW n b).testBit i).toNat))=exW n (.bin op a b):=
 zm2 fun y hy=>by rw [zl7,exW,exW,YV _ hy,YV _ hy];rfl
theorem yt3 (n:Nat) (each:Bool) (l:List Nat) (x:Ex):quW n each (zc2 l) (exW n x) n=exW n (.bnd each l x):=
 yG7 (fun v _=>by rw [zi9];simp) (fun y hy=>YV _ hy) (Xj _ _)
open Go.RowKit
def zg1:Ex→Nat
 | .con _=>311
 | .var _=>320
 | .not _=>328
 | .bin .. =>287
 | .bnd .. =>334
def ya4 (n:Nat) (X:Ex):Prop:=∀(w:ψ) (T:Nat) (d:ν) (F:List Nat),PV w X (J T d) F→C S (zg1 X) #[d,r Q n] w (zz6 w n (exW n X))
theorem zg7 (n:Nat) (x:Ex):exW n x < 2 ^ (2 ^ n):=Xj _ _
theorem Blk.put2 {w:ψ} {g:Nat} {a b:ν} {t:TypeId} (B:Blk w g #[a,b] t) (u v:ν):Blk ((w.setCell ⟨g,0,j⟩ u).setCell ⟨g,1,j⟩ v) g #[u,v] t:=by
 have:=(B.set 0 u).set 1 v;simpa only [List.setIfInBounds_toArray,List.set_cons_zero,List.set_cons_succ] using this
theorem Mod.put2 (w:ψ) (g:Nat) (u v:ν):Mod [g] w ((w.setCell ⟨g,0,j⟩ u).setCell ⟨g,1,j⟩ v):=((ω [g] w).setCell _ u (ze)).setCell _ v (ze)
theorem zD2 {w:ψ} {g:Nat} (hg:w.heap.size=g) (u v:ν) (t:TypeId):Blk (w.alloc (N #[u,v] t)) g #[u,v] t∧Mod [] w (w.alloc (N #[u,v] t)):=
 ⟨H w #[u,v] t g hg.symm,(ω _ _).alloc _⟩
theorem yy7 {n:Nat} (hn:n≤5) (b:Bool):ya4 n (.con b):=by
 intro w T d F h;obtain ⟨rfl,rfl⟩:=O h;show C S 311 _ _ _;have NO:=z (zu5 n hn);have AL:=z (yg0 n hn);have E:=z (ys5 n b);obtain ⟨gk,hgk⟩:∃gk,w.heap.size=gk:=⟨_,rfl⟩;have B0:=z (H w #[r Q 0,U j 0 0] 88 gk hgk.symm);have M0:D (Mod [] w (w.alloc (N #[r Q 0,U j 0 0] 88))):=zg;generalize exW n (.con b)=R at *;generalize Y8 n=fn at *;go_in;go_wp2_with fail;refine (NO.out _).mono ?_;rintro e w1 ⟨g1,rfl,b1,hg1,m1⟩;have M1:=z (M0.out.trans' m1);have hk0:gk < w1.heap.size:=(B0.out.mod m1 (ze)).lt;obtain ⟨g2,hg2⟩:∃g2,w1.heap.size=g2:=⟨_,rfl⟩;have HX:=z (zD2 hg2 (r Q n) (U (V ⟨g1,0,j⟩) 1 1) 88);have hs0:w.heap.size+1=(w.alloc (N #[r Q 0,U j 0 0] 88)).heap.size:=ze;have h12:g1 < g2:=qS;have B1:=z (b1.mod HX.out.2 (ze));have B0':=z ((B0.out.mod m1 (ze)).mod HX.out.2 (ze));clear m1 b1 M0;go_upto_region 2 with fail;generalize w1.alloc (N #[r Q n,U (V ⟨g1,0,j⟩) 1 1] 88)=w2 at *;have B2:=z HX.out.1;have M2:=z (M1.out.trans' HX.out.2);have n1:¬g2=gk:=zc;have n2:¬gk=g2:=zc;have n3:¬g1=gk:=zc;have n5:¬g1=g2:=zc;have hgw:w.heap.size≤g1:=zc;have hkw:w.heap.size≤gk:=zc;have l0:=B0'.out.lt;obtain ⟨f0,f1,-⟩:=B0'.out.frozs;obtain ⟨z0,z1⟩:=B0'.out.cells2;obtain ⟨x0,x1⟩:=B2.out.cells2;have l2:=B2.out.lt;clear HX M1 hs0 hk0 hg2 hgk;cases b with
 | false=>
  go_wp2_with fail;have BR:=B0'.out.put2 (r Q n) (U (V ⟨g1,0,j⟩) 1 1);have MR:=Mod.put2 w2 gk (r Q n) (U (V ⟨g1,0,j⟩) 1 1);have MF:=M2.out.trans MR (fun i hi q=>zP);have BF:=B1.out.mod MR (by simpa using n3);obtain ⟨y0,y1⟩:=BR.cells2;generalize (w2.setCell ⟨gk,0,j⟩ (r Q n)).setCell ⟨gk,1,j⟩ (U (V ⟨g1,0,j⟩) 1 1)=w3 at *;refine Ξ (v:=Γ #[r Q n,U (V ⟨g1,0,j⟩) 1 1]) (by simp [ρ,ε,go_sem,y0,y1];try rfl) rfl ?_;rw [E.out];exact ⟨g1,rfl,BF,hgw,MF⟩
 | true=>
  go_wp2_with fail;refine (AL.out _).mono ?_;rintro e w4 ⟨g4,rfl,b4,hg4,m4⟩;have M4:=z (M2.out.trans' m4);replace B2:=z (B2.out.mod m4 (ze));replace B0':=z (B0'.out.mod m4 (ze));clear z0 z1 x0 x1 f0 f1;obtain ⟨f0,f1,-⟩:=B0'.out.frozs;obtain ⟨z0,z1⟩:=B0'.out.cells2;obtain ⟨x0,x1⟩:=B2.out.cells2;obtain ⟨u0,u1,-⟩:=B2.out.frozs;have n6:¬g4=gk:=zc;have n7:¬g4=g2:=zc;have hw2:=M2.out.size;replace l0:=B0'.out.lt;replace l2:=B2.out.lt;go_upto_region 4 with fail;have B3:=B2.out.put2 (r Q n) (U (V ⟨g4,0,j⟩) 1 1);have MS:=Mod.put2 w4 g2 (r Q n) (U (V ⟨g4,0,j⟩) 1 1);have b5:=b4.mod MS (by simpa using n7);have B05:=B0'.out.mod MS (by simpa using n2);have M5:=M4.out.trans MS (fun i hi q=>zP);generalize (w4.setCell ⟨g2,0,j⟩ (r Q n)).setCell ⟨g2,1,j⟩ (U (V ⟨g4,0,j⟩) 1 1)=w5 at *;clear z0 z1 x0 x1 f0 f1 u0 u1 l0 l2;obtain ⟨f0,f1,-⟩:=B05.frozs;obtain ⟨z0,z1⟩:=B05.cells2;obtain ⟨x0,x1⟩:=B3.cells2;have l0:=B05.lt;have l2:=B3.lt;have PB:=z B05;have P5:=z b5;have PM:=z M5;clear B05 B3 b5 M5 MS m4 b4;go_wp2_with fail;have BR:=PB.out.put2 (r Q n) (U (V ⟨g4,0,j⟩) 1 1);have MR:=Mod.put2 w5 gk (r Q n) (U (V ⟨g4,0,j⟩) 1 1);have MF:=PM.out.trans MR (fun i hi q=>zP);have BF:=P5.out.mod MR (yE);obtain ⟨y0,y1⟩:=BR.cells2;generalize (w5.setCell ⟨gk,0,j⟩ (r Q n)).setCell ⟨gk,1,j⟩ (U (V ⟨g4,0,j⟩) 1 1)=w3 at *;refine Ξ (v:=Γ #[r Q n,U (V ⟨g4,0,j⟩) 1 1]) (by simp [ρ,ε,go_sem,y0,y1];try rfl) rfl ?_;rw [E.out];exact ⟨g4,rfl,BF,zc,MF⟩
open Go.RowKit
theorem zk7 {X:Ex} {w:ψ} {T:Nat} {d:ν} {F:List Nat} (h:PV w X (J T d) F) (W:ψ):(method 532 T d "ramage/expr.edge").run S W=.ok (zH1 X,d) W:=by
 cases X with
 | con b=>obtain ⟨rfl,rfl⟩:=O h;kernel_rfl
 | var n=>obtain ⟨rfl,rfl⟩:=O h;kernel_rfl
 | not X=>obtain ⟨u,e,_⟩:=h;obtain ⟨rfl,rfl⟩:=O e;kernel_rfl
 | bin op a b=>obtain ⟨u,u',e,_⟩:=h;obtain ⟨rfl,rfl⟩:=O e;kernel_rfl
 | bnd each l X=>obtain ⟨s,u,Fs,e,_⟩:=h;obtain ⟨rfl,rfl⟩:=O e;kernel_rfl
theorem zk0 (X:Ex) (args:Array ν) (W:ψ):(callFunc (zH1 X) args).run S W=.ok (.enter (zH1 X) args) W:=by cases X<;>kernel_rfl
section
variable {bs n room bo bc g bq bk gq bm f bd:Nat} {p q Fo:List Nat}
theorem zA7 {w w0 w7:ψ} {L L2:List Rc} {F F':List Nat} {t:List Bool} {et ea c gk:Nat} (hw:Mod [] w w0) (E:EngQ w7 bs n room (L++L2) F' bo bc g bq bk gq) (G:Grow w0 w7 (bk::gq::bc::g::F) (bk::gq::bc::g::F')) (h0:w.heap.size≤gk) (h1:gk < w0.heap.size)
 (hn:gk∉bq::bk::gq::bo::bc::g::F) (ex:EdT (L++L2) f n n 0 ⟨et,ea⟩ t) (hl:L2.length≤c):
 zm8 w bs n room L F bo bc g bq bk gq f n 0 t c (Ω (τ #[Γ #[r M et,r I ea],r M 0])) ((w7.setCell ⟨gk,0,j⟩ (r M et)).setCell ⟨gk,1,j⟩ (r I ea)):=by
 have n4:=no4 hn (show gk∉F from fun q=>hn (zJ));have hn2:=no6 hn (yn8 (G.out h1 n4));have MR:=Mod.put2 w7 gk (r M et) (r I ea);exact ⟨et,ea,L2,F',rfl,E.mod MR (fun k hk q=>wN),((Grow.of_mod hw).trans G).write MR (fun k hk=>jJ),ex,hl⟩
theorem yv2 (h1:1≤f) (h5:f≤5) (hn:n≤5) (hrm:room≤1048576) (hp:Perm p n) (b:Bool):ya5 bs n room bo bc g bq bk gq bm f bd p q Fo (.con b):=by
 intro w L F Z T d HE hv hZ hb1 hb2;obtain ⟨rfl,rfl⟩:=O hv;have hk:n≤Xk (.con b) *kcN n:=by unfold Xk kcN;omega
 obtain ⟨gk,hgk⟩:∃gk,w.heap.size=gk:=⟨_,rfl⟩;have LT:=HE.eng.lt;have HN:D (gk∉bq::bk::gq::bo::bc::g::F):=fun h=>yO
 have M0:=z ((ω [] w).alloc (N #[r M 0,r I 0] 44));have B0:=z (H w #[r M 0,r I 0] 44 gk hgk.symm);have E0:=z (HE.mod0 M0.out hZ);show C S 309 _ _ _;go_in;go_upto_region 1 with fail;generalize w.alloc (N #[r M 0,r I 0] 44)=w0 at *;have OS:D (∀W,Mod [] w0 W→C S 28 #[P (V ⟨bo,0,j⟩)] W fun e w'=>e=Ω (P (V ⟨bs,0,j⟩))∧w'=W):=fun W m=>X6 (E0.out.eng.a.ops.mod m (ze))
 have CO:D (∀W,Mod [] w0 W→C S 314 #[P (V ⟨bs,0,j⟩),P (V ⟨bd,0,j⟩),r M f,κ b] W fun e w'=>∃(et ea:Nat) (L2:List Rc) (F':List Nat),e=Ω (τ #[Γ #[r M et,r I ea],r M 0])∧D (Sto w' bs n room (L++L2) F')∧D (Grow w0 w' F F')∧D (EdT (L++L2) f n n 0 ⟨et,ea⟩ (exT n p (.con b)))∧D (L2.length≤n)):=fun W m=>by
  have:=zw3 h1 h5 (E0.out.eng.a.sto.mod m (ze)) (E0.out.ord.mod m (ze)) hp.len hn (zc) (zc) hrm b;rw [yw3 hp b] at this;exact this.mono (wO)
 have c1:=E0.out.mak.cell 1;have c2:=E0.out.mak.cell 2;have c3:=E0.out.mak.cell 3;simp only [Θ,Ψ,Φ] at c1 c2 c3;have hml:=E0.out.mak.lt;have NK:D (gk < w0.heap.size∧gk∉F∧w.heap.size≤gk):=⟨B0.out.lt,fun h=>HN.out (zn),zc⟩;have hmF:bm∉F:=fun h=>E0.out.no bm (ze) E0.out.mak.lt (zn)
 have JC:D (∀W F2,Grow w0 W F F2→W.cell? ⟨bm,1,j⟩=V (P (V ⟨bo,0,j⟩))∧W.cell? ⟨bm,2,j⟩=V (P (V ⟨bd,0,j⟩))∧W.cell? ⟨bm,3,j⟩=V (r M (f:Nat))):=fun W F2 m=>⟨(m.mod.cell (a:=⟨bm,1,j⟩) hml hmF).trans c1,(m.mod.cell (a:=⟨bm,2,j⟩) hml hmF).trans c2,(m.mod.cell (a:=⟨bm,3,j⟩) hml hmF).trans c3⟩
 have nk1:¬gk=bm:=xL;have nk2:¬bm=gk:=fun e=>nk1 e.symm
 clear hb1 hb2 LT hmF HE;go_wp2_with fail
 go_region_held3 (fun w'=>w'.cell? ⟨bm,1,j⟩=V (P (V ⟨bo,0,j⟩))∧w'.cell? ⟨bm,2,j⟩=V (P (V ⟨bd,0,j⟩))∧w'.cell? ⟨bm,3,j⟩=V (r M (f:Nat))) (go_keep) (first
  | (go_at_call 28;with_reducible refine (OS.out _ (zK)).mono ?_;rintro e' w5 ⟨rfl,rfl⟩)
  | (go_at_call 314;with_reducible refine (CO.out _ (zK)).mono ?_;rintro e' w7 ⟨et,ea,L2,F2,rfl,s7,g7,ex,hl⟩;obtain ⟨c1,c2,c3⟩:=JC.out w7 F2 g7.out;have PB:=B0.out.mod g7.out.mod NK.out.2.1;obtain ⟨z0,z1⟩:=PB.cells2;obtain ⟨f0,f1,-⟩:=PB.frozs;have zz:=PB.lt;clear PB))
 all_goals
  go_wp2_with fail;have BW:=(B0.out.mod g7.out.mod NK.out.2.1).put2 (r M et) (r I ea);obtain ⟨y0,y1⟩:=BW.cells2;have FIN:=zA7 (f:=f) M0.out (E0.out.eng.grown s7.out g7.out) ((((g7.out.cons g).cons bc).cons gq).cons bk) NK.out.2.2 NK.out.1 HN.out ex.out (γ hl.out hk);clear BW;generalize (w7.setCell ⟨gk,0,j⟩ (r M et)).setCell ⟨gk,1,j⟩ (r I ea)=w9 at *;refine Ξ (v:=τ #[Γ #[r M et,r I ea],r M 0]) (by simp [ρ,Tryz.results309,go_sem,y0,y1];try rfl) rfl ?_;exact FIN
end
open Go.RowKit
theorem zU3 {p q:List Nat} {n v:Nat} (iv:Inv p q) (hp:Perm p n) (hv:v < n):∃k,q[v]? =V k∧k < n∧p.getD k 0=v:=by
 obtain ⟨k,hk,e⟩:=μ.1 (hp.mem hv);refine ⟨k,by rw [←e];exact iv.at_ k hk,yh,by rw [Δ,σ hk,e];rfl⟩
section
variable {bs n room bo bc g bq bk gq bm f bd:Nat} {p q Fo:List Nat}
theorem zB8 {w w2 w7:ψ} {L L1 L2:List Rc} {F F1 F':List Nat} {t:List Bool} {et ea c1 c2 gk:Nat} (h1:gk < w2.heap.size) (G0:Grow w w2 (bk::gq::bc::g::F) (bk::gq::bc::g::F1)) (E:EngQ w7 bs n room (L++L1++L2) F' bo bc g bq bk gq) (G:Grow w2 w7 (bk::gq::bc::g::F1) (bk::gq::bc::g::F')) (h0:w.heap.size≤gk)
 (hn:gk∉bq::bk::gq::bo::bc::g::F1) (ex:EdT (L++L1++L2) f n n 0 ⟨et,ea⟩ t) (hl1:L1.length≤c1) (hl:L2.length≤c2):
 zm8 w bs n room L F bo bc g bq bk gq f n 0 t (c1+c2) (Ω (τ #[Γ #[r M et,r I ea],r M 0])) ((w7.setCell ⟨gk,0,j⟩ (r M et)).setCell ⟨gk,1,j⟩ (r I ea)):=by
 have n4:=no4 hn (show gk∉F1 from fun q=>hn (zJ));have hn2:=no6 hn (yn8 (G.out h1 n4));have MR:=Mod.put2 w7 gk (r M et) (r I ea);rw [ξ] at E ex;exact ⟨et,ea,L1++L2,F',rfl,E.mod MR (fun k hk q=>wN),(G0.trans G).write MR (fun k hk=>jJ),ex,yz⟩
theorem yw2 (h1:1≤f) (h5:f≤5) (hn:n≤5) (hrm:room≤1048576) (hp:Perm p n) (iv:Inv p q) {v:Nat} (hv5:v < n):ya5 bs n room bo bc g bq bk gq bm f bd p q Fo (.var v):=by
 intro w L F Z T d HE hv hZ hb1 hb2;obtain ⟨rfl,rfl⟩:=O hv;have hk:n≤Xk (.var v) *kcN n:=by unfold Xk kcN;omega
 obtain ⟨gk,hgk⟩:∃gk,w.heap.size=gk:=⟨_,rfl⟩;have LT:=HE.eng.lt;have HN:D (gk∉bq::bk::gq::bo::bc::g::F):=fun h=>yO
 have M0:=z ((ω [] w).alloc (N #[r M 0,r I 0] 44));have B0:=z (H w #[r M 0,r I 0] 44 gk hgk.symm);have E0:=z (HE.mod0 M0.out hZ);show C S 318 _ _ _;go_in;go_upto_region 1 with fail;generalize w.alloc (N #[r M 0,r I 0] 44)=w0 at *;have OS:D (∀W,Mod [] w0 W→C S 28 #[P (V ⟨bo,0,j⟩)] W fun e w'=>e=Ω (P (V ⟨bs,0,j⟩))∧w'=W):=fun W m=>X6 (E0.out.eng.a.ops.mod m (ze))
 have CO:D (∀W,Mod [] w0 W→C S 46 #[P (V ⟨bs,0,j⟩),P (V ⟨bd,0,j⟩),r M f,r Q v] W fun e w'=>∃(et ea:Nat) (L2:List Rc) (F':List Nat),e=Ω (τ #[Γ #[r M et,r I ea],r M 0])∧D (Sto w' bs n room (L++L2) F')∧D (Grow w0 w' F F')∧D (EdT (L++L2) f n n 0 ⟨et,ea⟩ (exT n p (.var v)))∧D (L2.length≤n)):=fun W m=>by
  obtain ⟨k,hkv,hkn,hpk⟩:=zU3 iv hp hv5;have:=zO3 h1 h5 (E0.out.eng.a.sto.mod m (ze)) (E0.out.ord.mod m (ze)) hp.len (iv.len.trans hp.len) hn (zc) (zc) hrm v k hv5 hkv hkn;rw [yt0 hp hkn hpk] at this;exact this.mono (wO)
 have c1:=E0.out.mak.cell 1;have c2:=E0.out.mak.cell 2;have c3:=E0.out.mak.cell 3;simp only [Θ,Ψ,Φ] at c1 c2 c3;have hml:=E0.out.mak.lt;have NK:D (gk < w0.heap.size∧gk∉F∧w.heap.size≤gk):=⟨B0.out.lt,fun h=>HN.out (zn),zc⟩;have hmF:bm∉F:=fun h=>E0.out.no bm (ze) E0.out.mak.lt (zn)
 have JC:D (∀W F2,Grow w0 W F F2→W.cell? ⟨bm,1,j⟩=V (P (V ⟨bo,0,j⟩))∧W.cell? ⟨bm,2,j⟩=V (P (V ⟨bd,0,j⟩))∧W.cell? ⟨bm,3,j⟩=V (r M (f:Nat))):=fun W F2 m=>⟨(m.mod.cell (a:=⟨bm,1,j⟩) hml hmF).trans c1,(m.mod.cell (a:=⟨bm,2,j⟩) hml hmF).trans c2,(m.mod.cell (a:=⟨bm,3,j⟩) hml hmF).trans c3⟩
 have nk1:¬gk=bm:=xL;have nk2:¬bm=gk:=fun e=>nk1 e.symm
 clear hb1 hb2 LT hmF HE;go_wp2_with fail
 go_region_held3 (fun w'=>w'.cell? ⟨bm,1,j⟩=V (P (V ⟨bo,0,j⟩))∧w'.cell? ⟨bm,2,j⟩=V (P (V ⟨bd,0,j⟩))∧w'.cell? ⟨bm,3,j⟩=V (r M (f:Nat))) (go_keep) (first
  | (go_at_call 28;with_reducible refine (OS.out _ (zK)).mono ?_;rintro e' w5 ⟨rfl,rfl⟩)
  | (go_at_call 46;with_reducible refine (CO.out _ (zK)).mono ?_;rintro e' w7 ⟨et,ea,L2,F2,rfl,s7,g7,ex,hl⟩;obtain ⟨c1,c2,c3⟩:=JC.out w7 F2 g7.out;have PB:=B0.out.mod g7.out.mod NK.out.2.1;obtain ⟨z0,z1⟩:=PB.cells2;obtain ⟨f0,f1,-⟩:=PB.frozs;have zz:=PB.lt;clear PB))
 all_goals
  go_wp2_with fail;have BW:=(B0.out.mod g7.out.mod NK.out.2.1).put2 (r M et) (r I ea);obtain ⟨y0,y1⟩:=BW.cells2;have FIN:=zA7 (f:=f) M0.out (E0.out.eng.grown s7.out g7.out) ((((g7.out.cons g).cons bc).cons gq).cons bk) NK.out.2.2 NK.out.1 HN.out ex.out (γ hl.out hk);clear BW;generalize (w7.setCell ⟨gk,0,j⟩ (r M et)).setCell ⟨gk,1,j⟩ (r I ea)=w9 at *;refine Ξ (v:=τ #[Γ #[r M et,r I ea],r M 0]) (by simp [ρ,Tryz.results318,go_sem,y0,y1];try rfl) rfl ?_;exact FIN
theorem yC2 (h1:1≤f) (h5:f≤5) (hn:n≤5) (hrm:room≤1048576) (hp:Perm p n) {X:Ex} (ih:ya5 bs n room bo bc g bq bk gq bm f bd p q Fo X):ya5 bs n room bo bc g bq bk gq bm f bd p q Fo (.not X):=by
 intro w L F Z T d HE hv hZ hb1 hb2;obtain ⟨u,e,hu⟩:=hv;obtain ⟨rfl,rfl⟩:=O e;obtain ⟨T,d,rfl⟩:=hu.iface;have hkk:Xk (.not X) *kcN n=Xk X *kcN n+kcN n:=wP;have hk4:n+(qc n+4 *2 ^ n)=kcN n:=rfl;obtain ⟨gb,hgb⟩:∃gk,w.heap.size=gk:=⟨_,rfl⟩;have LT:=HE.eng.lt;have HN:D (gb+1∉bq::bk::gq::bo::bc::g::F):=fun h=>yO
 have M0:=z (((ω [] w).alloc (N #[J T d] 261)).alloc (N #[r M 0,r I 0] 44));have B0:=z (H (w.alloc (N #[J T d] 261)) #[r M 0,r I 0] 44 (gb+1) (yo));have E0:=z (HE.mod0 M0.out hZ);have IH:D (∀W,Mod [] w W→C S (zH1 X) #[d,P (V ⟨bm,0,j⟩)] W (zm8 W bs n room L F bo bc g bq bk gq f n 0 (exT n p X) (Xk X *kcN n))):=fun W m=>ih W L F Z T d (HE.mod0 m hZ) (hu.mod m (ze)) (fun k hk=>K (hZ k hk) m.size) (zc) (zc)
 have MT:=zk7 hu;have CF:=zk0 X;have hmw:bm < gb:=xL;have ET:=z (yq9 hp X);have HB:D (L.length+Xk X *kcN n+kcN n≤100000∧L.length+Xk X *kcN n+kcN n≤room):=⟨zc,zc⟩;have HZ:=z hZ;show C S 326 _ _ (zm8 w bs n room L F bo bc g bq bk gq f n 0 (exT n p (.not X)) (Xk (.not X) *kcN n));generalize zH1 X=fx at *;rw [hkk];generalize Xk X *kcN n=c1 at *;clear hb1 hb2 LT hu ih HE hZ hkk;go_in;go_wp2_with fail;refine (IH.out _ M0.out).mono ?_;rintro e w1 ⟨t1,a1,L1,F1,rfl,en1,g1,ex1,hl1⟩;have hZ0:∀k∈Z,k < ((w.alloc (N #[J T d] 261)).alloc (N #[r M 0,r I 0] 44)).heap.size:=fun k hk=>K (HZ.out k hk) M0.out.size
 have E1:=z (E0.out.did en1 g1 hZ0);have G1:=z ((Grow.of_mod (F:=bk::gq::bc::g::F) M0.out).trans g1);have HN1:=z (E0.out.out g1 B0.out.lt HN.out);have B1:=z (B0.out.mod g1.mod (no4 HN.out (show gb+1∉F from fun q=>HN.out (zJ))));have EX1:=z ex1;have HL1:=z hl1;have hZ1:∀k∈Z,k < w1.heap.size:=fun k hk=>K (hZ0 k hk) g1.size
 obtain ⟨g2,hg2⟩:∃g2,w1.heap.size=g2:=⟨_,rfl⟩;have HX:=z (zD2 hg2 (r M t1) (r I a1) 44);have E2:=z (E1.out.mod0 HX.out.2 hZ1);have B2:=z (B1.out.mod HX.out.2 (ze));have G2:=z (G1.out.then HX.out.2);have h12:gb+1 < g2:=jK;have hw12:w.heap.size≤w1.heap.size:=G1.out.size;clear en1 g1 ex1 hl1 hZ0 IH M0;go_upto_region 4 with fail;generalize w1.alloc (N #[r M t1,r I a1] 44)=w2 at *;obtain ⟨x0,x1⟩:=HX.out.1.cells2;have l2:=HX.out.1.lt;have hml:=E2.out.mak.lt;have c1':=E2.out.mak.cell 1;have c3':=E2.out.mak.cell 3;simp only [Θ,Ψ,Φ] at c1' c3'
 have hmF:bm∉bc::g::F1:=fun h=>E2.out.no bm (ze) hml (by
  simp only [χ] at h ⊢
  rcases h with h | h | h<;>simp [h])
 have hgF:gb+1∉bc::g::F1:=fun h=>HN1.out (by
  simp only [χ] at h ⊢
  rcases h with h | h | h<;>simp [h])
 have hxF:g2∉bc::g::F1:=fun h=>by
  have:=E1.out.eng.lt g2 (by
   simp only [χ] at h ⊢
   rcases h with h | h | h<;>simp [h])
  omega
 have NT:D (∀W,Mod [] w2 W→C S 331 #[P (V ⟨bo,0,j⟩),r M f,Γ #[r M t1,r I a1]] W fun e w'=>∃(et ea:Nat) (L2:List Rc) (F':List Nat),e=Ω (τ #[Γ #[r M et,r I ea],r M 0])∧D (EngA w' bs n room (L++L1++L2) F' bo bc g)∧D (Grow w2 w' (bc::g::F1) (bc::g::F'))∧D (EdT (L++L1++L2) f n n 0 ⟨et,ea⟩ (exT n p (.not X)))∧D (L2.length≤kcN n)):=fun W m=>by
  have hlen:(L++L1).length=L.length+L1.length:=π;have h9:=HL1.out;have:=zJ1 (f:=f) h1 h5 (zc) hrm (E2.out.eng.a.mod0 m) (xM) (xN) EX1.out;rw [ET.out] at this;exact this.mono (qT)
 have JC:D (∀W F2,Grow w2 W (bc::g::F1) F2→(W.cell? ⟨bm,1,j⟩=V (P (V ⟨bo,0,j⟩))∧W.cell? ⟨bm,3,j⟩=V (r M (f:Nat)))∧W.cell? ⟨g2,0,j⟩=V (r M t1)∧W.cell? ⟨g2,1,j⟩=V (r I a1)):=fun W F2 m=>⟨⟨(m.mod.cell (a:=⟨bm,1,j⟩) hml hmF).trans c1',(m.mod.cell (a:=⟨bm,3,j⟩) hml hmF).trans c3'⟩,(m.mod.cell (a:=⟨g2,0,j⟩) l2 hxF).trans x0,(m.mod.cell (a:=⟨g2,1,j⟩) l2 hxF).trans x1⟩
 have nk1:¬gb+1=bm:=zc;have nk2:¬bm=gb+1:=zc;have nk3:¬gb+1=g2:=zc;have nk4:¬g2=gb+1:=zc;go_wp2_with fail
 go_region_held3 (fun w'=>w'.cell? ⟨bm,1,j⟩=V (P (V ⟨bo,0,j⟩))∧w'.cell? ⟨bm,3,j⟩=V (r M (f:Nat))∧w'.cell? ⟨g2,0,j⟩=V (r M t1)∧w'.cell? ⟨g2,1,j⟩=V (r I a1)) (go_keep) (first
  | (go_at_call 331;with_reducible refine (NT.out _ (zK)).mono ?_;rintro e' w7 ⟨et,ea,L2,F2,rfl,s7,g7,ex,hl⟩;obtain ⟨⟨c1',c3'⟩,x0,x1⟩:=JC.out w7 _ g7.out;have PB:=B2.out.mod g7.out.mod hgF;obtain ⟨z0,z1⟩:=PB.cells2;obtain ⟨f0,f1,-⟩:=PB.frozs;have zz:=PB.lt;clear PB))
 all_goals
  go_wp2_with fail;have BW:=(B2.out.mod g7.out.mod hgF).put2 (r M et) (r I ea);obtain ⟨y0,y1⟩:=BW.cells2;have FIN:=zB8 (f:=f) B2.out.lt G2.out (E2.out.eng.did s7.out g7.out) ((g7.out.cons gq).cons bk) (show w.heap.size≤gb+1 from zc) HN1.out ex.out HL1.out hl.out;clear BW;generalize (w7.setCell ⟨gb+1,0,j⟩ (r M et)).setCell ⟨gb+1,1,j⟩ (r I ea)=w9 at *;refine Ξ (v:=τ #[Γ #[r M et,r I ea],r M 0]) (by simp [ρ,Tryz.results326,go_sem,y0,y1];try rfl) rfl ?_;exact FIN
end
open Go.RowKit
section
variable {bs n room bo bc g bq bk gq bm f bd:Nat} {p q Fo:List Nat}
theorem yt9 (h1:1≤f) (h5:f≤5) (hn:n≤5) (hrm:room≤1048576) (hp:Perm p n) {op:Nat} {X Y:Ex} (hop:op < 256) (ih:ya5 bs n room bo bc g bq bk gq bm f bd p q Fo X) (ih':ya5 bs n room bo bc g bq bk gq bm f bd p q Fo Y):ya5 bs n room bo bc g bq bk gq bm f bd p q Fo (.bin op X Y):=by
 intro w L F Z T d HE hv hZ hb1 hb2;obtain ⟨u,u',e,hu,hu'⟩:=hv;obtain ⟨rfl,rfl⟩:=O e;obtain ⟨T,d,rfl⟩:=hu.iface;obtain ⟨T',d',rfl⟩:=hu'.iface;have hkk:Xk (.bin op X Y) *kcN n=Xk X *kcN n+Xk Y *kcN n+kcN n:=by show (Xk X+Xk Y+1) *kcN n=_;rw [Nat.succ_mul,Nat.add_mul]
 have hk4:n+(qc n+4 *2 ^ n)=kcN n:=rfl;obtain ⟨gb,hgb⟩:∃gk,w.heap.size=gk:=⟨_,rfl⟩;have LT:=HE.eng.lt;have HN:D (gb+1∉bq::bk::gq::bo::bc::g::F):=fun h=>yO
 have HNb:D (gb∉bq::bk::gq::bo::bc::g::F):=fun h=>yO
 have M0:=z (((ω [] w).alloc (N #[r M (op:Nat),J T d,J T' d'] 222)).alloc (N #[r M 0,r I 0] 44));have BB:=z ((H w #[r M (op:Nat),J T d,J T' d'] 222 gb hgb.symm).alloc (N #[r M 0,r I 0] 44));have B0:=z (H (w.alloc (N #[r M (op:Nat),J T d,J T' d'] 222)) #[r M 0,r I 0] 44 (gb+1) (yo));have E0:=z (HE.mod0 M0.out hZ);have PU:=z (hu'.mod M0.out (ze));have IH:D (∀W,Mod [] w W→C S (zH1 X) #[d,P (V ⟨bm,0,j⟩)] W (zm8 W bs n room L F bo bc g bq bk gq f n 0 (exT n p X) (Xk X *kcN n))):=fun W m=>ih W L F Z T d (HE.mod0 m hZ) (hu.mod m (ze)) (fun k hk=>K (hZ k hk) m.size) (zc) (zc)
 have IH':D (∀W L1 F1,L1.length≤Xk X *kcN n→Env W bs n room (L++L1) F1 bo bc g bq bk gq bm f bd p q Fo Z→PV W Y (J T' d') Z→(∀k∈Z,k < W.heap.size)→C S (zH1 Y) #[d',P (V ⟨bm,0,j⟩)] W (zm8 W bs n room (L++L1) F1 bo bc g bq bk gq f n 0 (exT n p Y) (Xk Y *kcN n))):=fun W L1 F1 hl E pv hz=>ih' W (L++L1) F1 Z T' d' E pv hz (yz) (yz)
 have MT:=zk7 hu;have CF:=zk0 X;have MT':=zk7 hu';have CF':=zk0 Y;have NU:=z (zF9 op hop);have hmw:bm < gb:=xL;have ET:=z (yy9 hp op X Y);have HB:D (L.length+Xk X *kcN n+Xk Y *kcN n+kcN n≤100000∧L.length+Xk X *kcN n+Xk Y *kcN n+kcN n≤room):=⟨zc,zc⟩;have HZ:=z hZ;have HO:=z (zr7 op);show C S 285 _ _ (zm8 w bs n room L F bo bc g bq bk gq f n 0 (exT n p (.bin op X Y)) (Xk (.bin op X Y) *kcN n));generalize zH1 X=fx at *;generalize zH1 Y=fy at *;rw [hkk];generalize Xk X *kcN n=c1 at *;generalize Xk Y *kcN n=c2 at *;have WID:D (XM op < 16∧Xy (XM op) < 256∧(Xy (XM op)).testBit 0=(Xy (XM op)).testBit 0):=⟨by have:=HO.out;omega,Xj 8 _,rfl⟩;generalize XM op=o at *;clear hb1 hb2 LT hu hu' ih ih' HE hZ hkk;go_in;go_wp2_with fail;refine (IH.out _ M0.out).mono ?_;rintro e w1 ⟨t1,a1,L1,F1,rfl,en1,g1,ex1,hl1⟩;have hZ0:∀k∈Z,k < ((w.alloc (N #[r M (op:Nat),J T d,J T' d'] 222)).alloc (N #[r M 0,r I 0] 44)).heap.size:=fun k hk=>K (HZ.out k hk) M0.out.size
 have E1:=z (E0.out.did en1 g1 hZ0);have G1:=z ((Grow.of_mod (F:=bk::gq::bc::g::F) M0.out).trans g1);have HN1:=z (E0.out.out g1 B0.out.lt HN.out);have HNb1:=z (E0.out.out g1 BB.out.lt HNb.out);have B1:=z (B0.out.mod g1.mod (no4 HN.out (show gb+1∉F from fun q=>HN.out (zJ))));have BB1:=z (BB.out.mod g1.mod (no4 HNb.out (show gb∉F from fun q=>HNb.out (zJ))));have PU1:=z (PU.out.mod g1.mod (fun k hk=>no4 (E0.out.no k (zC) (hZ0 k hk)) (show k∉F from fun q=>E0.out.no k (zC) (hZ0 k hk) (zJ))));have EX1:=z ex1;have HL1:=z hl1;have hZ1:∀k∈Z,k < w1.heap.size:=fun k hk=>K (hZ0 k hk) g1.size
 obtain ⟨g2,hg2⟩:∃g2,w1.heap.size=g2:=⟨_,rfl⟩;have HX:=z (zD2 hg2 (r M t1) (r I a1) 44);have E2:=z (E1.out.mod0 HX.out.2 hZ1);have B2:=z (B1.out.mod HX.out.2 (ze));have BB2:=z (BB1.out.mod HX.out.2 (ze));have G2:=z (G1.out.then HX.out.2);have PU2:=z (PU1.out.mod HX.out.2 (ze));have h12:gb+1 < g2:=jK;have hw12:w.heap.size≤w1.heap.size:=G1.out.size;have hZ2:D (∀k∈Z,k < (w1.alloc (N #[r M t1,r I a1] 44)).heap.size):=fun k hk=>K (hZ1 k hk) HX.out.2.size
 have HX2:=z HX.out.1;have hxN:D (g2∉bq::bk::gq::bo::bc::g::F1):=fun h=>by have:=E1.out.eng.lt g2 h;omega
 clear en1 g1 ex1 hl1 hZ0 IH M0 hZ1 HX;go_upto_region 4 with fail;generalize w1.alloc (N #[r M t1,r I a1] 44)=w2 at *;obtain ⟨q0,q1,q2⟩:=BB2.out.cells3;have ql:=BB2.out.lt;have IHB:=z (IH'.out w2 L1 F1 HL1.out E2.out PU2.out hZ2.out);go_wp2_with fail;refine IHB.out.mono ?_;rintro e w3 ⟨t3,a3,L3,F3,rfl,en3,g3,ex3,hl3⟩;have E3:=z (E2.out.did en3 g3 hZ2.out);have G3:=z (G2.out.trans g3);have HN3:=z (E2.out.out g3 B2.out.lt HN1.out);have hxN3:=z (E2.out.out g3 HX2.out.lt hxN.out);have B3:=z (B2.out.mod g3.mod (no4 HN1.out (show gb+1∉F1 from fun q=>HN1.out (zJ))));have BB3:=z (BB2.out.mod g3.mod (no4 HNb1.out (show gb∉F1 from fun q=>HNb1.out (zJ))));have HNb3:=z (E2.out.out g3 BB2.out.lt HNb1.out);have HX3:=z (HX2.out.mod g3.mod (no4 hxN.out (show g2∉F1 from fun q=>hxN.out (zJ))));have EX3:=z ex3;have HL3:=z hl3;have hZ3:∀k∈Z,k < w3.heap.size:=fun k hk=>K (hZ2.out k hk) g3.size
 obtain ⟨g4,hg4⟩:∃g4,w3.heap.size=g4:=⟨_,rfl⟩;have HY:=z (zD2 hg4 (r M t3) (r I a3) 44);have E4:=z (E3.out.mod0 HY.out.2 hZ3);have B4:=z (B3.out.mod HY.out.2 (ze));have BB4:=z (BB3.out.mod HY.out.2 (ze));have HX4:=z (HX3.out.mod HY.out.2 (ze));have G4:=z (G3.out.then HY.out.2);have h24:g2 < g4:=by have:=HX3.out.lt;omega
 have hyN:D (g4∉bq::bk::gq::bo::bc::g::F3):=fun h=>by have:=E3.out.eng.lt g4 h;omega
 have HY4:=z HY.out.1;clear en3 g3 ex3 hl3 hZ3 HY q0 q1 q2 ql IHB IH' hg2;go_upto_region 7 with fail;generalize w3.alloc (N #[r M t3,r I a3] 44)=w4 at *;obtain ⟨x0,x1⟩:=HX4.out.cells2;obtain ⟨y0,y1⟩:=HY4.out.cells2;obtain ⟨q0,q1,q2⟩:=BB4.out.cells3;have l2:=HX4.out.lt;have l4:=HY4.out.lt;have ql:=BB4.out.lt;have hml:=E4.out.mak.lt;have c1':=E4.out.mak.cell 1;have c3':=E4.out.mak.cell 3;simp only [Θ,Ψ,Φ] at c1' c3'
 have sub:∀k,k∉bq::bk::gq::bo::bc::g::F3→k∉bc::g::F3:=fun k h q=>h (by
  simp only [χ] at q ⊢
  rcases q with q | q | q<;>simp [q])
 have hmF:=sub bm (E4.out.no bm (ze) hml);have hgF:=sub _ HN3.out;have hxF:=sub _ hxN3.out;have hyF:=sub _ hyN.out;have hbF:=sub _ HNb3.out
 have AP:D (∀W,Mod [] w4 W→C S 290 #[P (V ⟨bo,0,j⟩),r M f,r Q (o:Nat),Γ #[r M t1,r I a1],Γ #[r M t3,r I a3]] W fun e w'=>∃(et ea:Nat) (L2:List Rc) (F':List Nat),e=Ω (τ #[Γ #[r M et,r I ea],r M 0])∧D (EngA w' bs n room (L++L1++L3++L2) F' bo bc g)∧D (Grow w4 w' (bc::g::F3) (bc::g::F'))∧D (EdT (L++L1++L3++L2) f n n 0 ⟨et,ea⟩ (exT n p (.bin op X Y)))∧D (L2.length≤kcN n)):=fun W m=>by
  have hlen:(L++L1++L3).length=L.length+L1.length+L3.length:=by simp [Nat.add_assoc]
  have h9:=HL1.out;have h8:=HL3.out;have:=zo9 (f:=f) (o:=o) h1 h5 (zc) hrm WID.out.1 WID.out.2.1 (E4.out.eng.a.mod0 m) (xM) (xN) (EX1.out.grow L3) EX3.out;rw [ET.out] at this;exact this.mono (qT)
 have JC:D (∀W F2,Grow w4 W (bc::g::F3) F2→(W.cell? ⟨bm,1,j⟩=V (P (V ⟨bo,0,j⟩))∧W.cell? ⟨bm,3,j⟩=V (r M (f:Nat)))∧(W.cell? ⟨g2,0,j⟩=V (r M t1)∧W.cell? ⟨g2,1,j⟩=V (r I a1))∧(W.cell? ⟨g4,0,j⟩=V (r M t3)∧W.cell? ⟨g4,1,j⟩=V (r I a3))∧W.cell? ⟨gb,0,j⟩=V (r M (op:Nat))):=fun W F2 m=>
  ⟨⟨(m.mod.cell (a:=⟨bm,1,j⟩) hml hmF).trans c1',(m.mod.cell (a:=⟨bm,3,j⟩) hml hmF).trans c3'⟩,⟨(m.mod.cell (a:=⟨g2,0,j⟩) l2 hxF).trans x0,(m.mod.cell (a:=⟨g2,1,j⟩) l2 hxF).trans x1⟩,⟨(m.mod.cell (a:=⟨g4,0,j⟩) l4 hyF).trans y0,(m.mod.cell (a:=⟨g4,1,j⟩) l4 hyF).trans y1⟩,(m.mod.cell (a:=⟨gb,0,j⟩) ql hbF).trans q0⟩
 have nk1:¬gb+1=bm:=zc;have nk2:¬bm=gb+1:=zc;have nk3:¬gb+1=g2:=zc;have nk4:¬g2=gb+1:=zc;have nk5:¬gb+1=g4:=zc;have nk6:¬g4=gb+1:=zc;have nk7:¬gb+1=gb:=zc;go_wp2_with fail
 go_region_held3 (fun w'=>w'.cell? ⟨bm,1,j⟩=V (P (V ⟨bo,0,j⟩))∧w'.cell? ⟨bm,3,j⟩=V (r M (f:Nat))∧w'.cell? ⟨g2,0,j⟩=V (r M t1)∧w'.cell? ⟨g2,1,j⟩=V (r I a1)∧w'.cell? ⟨g4,0,j⟩=V (r M t3)∧w'.cell? ⟨g4,1,j⟩=V (r I a3)∧w'.cell? ⟨gb,0,j⟩=V (r M (op:Nat))) (go_keep) (first
  | (go_at_call 291;with_reducible refine (NU.out _).mono ?_;rintro e' w5 ⟨rfl,rfl⟩)
  | (go_at_call 290;with_reducible refine (AP.out _ (zK)).mono ?_;rintro e' w7 ⟨et,ea,L2,F2,rfl,s7,g7,ex,hl⟩;obtain ⟨⟨c1',c3'⟩,⟨x0,x1⟩,⟨y0,y1⟩,q0⟩:=JC.out w7 _ g7.out;have PB:=B4.out.mod g7.out.mod hgF;obtain ⟨z0,z1⟩:=PB.cells2;obtain ⟨f0,f1,-⟩:=PB.frozs;have zz:=PB.lt;clear PB))
 all_goals
  go_wp2_with fail;have BW:=(B4.out.mod g7.out.mod hgF).put2 (r M et) (r I ea);obtain ⟨v0,v1⟩:=BW.cells2;have E7:=E4.out.eng.did s7.out g7.out;have X7:=ex.out;have LL:=HL1.out;have LM:=HL3.out;have FIN:=zB8 (f:=f) (L:=L) (L1:=L1++L3) (L2:=L2) (c1:=c1+c2) B4.out.lt G4.out (by rw [←ξ];exact E7) ((g7.out.cons gq).cons bk) (show w.heap.size≤gb+1 from zc) HN3.out (by rw [←ξ];exact X7) (yz) hl.out;clear BW E7 X7;generalize (w7.setCell ⟨gb+1,0,j⟩ (r M et)).setCell ⟨gb+1,1,j⟩ (r I ea)=w9 at *;refine Ξ (v:=τ #[Γ #[r M et,r I ea],r M 0]) (by simp [ρ,Tryz.results285,go_sem,v0,v1];try rfl) rfl ?_;exact FIN
end
open Go.RowKit
theorem yn7 {p q:List Nat} {n:Nat} (iv:Inv p q) (hp:Perm p n):∀v∈q,v < n:=fun x hx=>by
 obtain ⟨v,hv,e⟩:=μ.1 hx;have hv2:v < n:=by rw [iv.len,hp.len] at hv;exact hv
 obtain ⟨k,hk,hkn,-⟩:=zU3 iv hp hv2;rw [σ hv,e] at hk;have:=Option.some.inj hk;omega
theorem yl0 {p q l:List Nat} {n:Nat} (iv:Inv p q) (hp:Perm p n) (i:Nat) (hi:i < n):(zz0 (zc2 l) q n).testBit i=true↔p.getD i 0∈l:=by
 have hil:i < p.length:=by rw [hp.len];exact hi
 have hpi:p.getD i 0=p[i]:=by rw [Δ,σ hil];rfl
 rw [yk7,hpi];constructor
 ·rintro ⟨v,hv,hm,hq⟩;rw [zi9,decide_eq_true_eq] at hm;obtain ⟨k,hk,hkn,hpk⟩:=zU3 iv hp hv;rw [Δ,hk] at hq;have:k=i:=hq;subst this;rw [hpi] at hpk;rw [hpk];exact hm
 ·intro h;refine ⟨p[i],hp.lt _ (List.getElem_mem hil),by rw [zi9];simpa using h,?_⟩;rw [Δ,iv.at_ i hil];rfl
section
variable {bs n room bo bc g bq bk gq bm f bd:Nat} {p q Fo:List Nat}
theorem Yy {p:Prop} (h:p:=by
 all_goals
  go_wp2_with fail;have BW:=(B2.out.mod g7.out.mod hgF).put2 (r M et) (r I ea);obtain ⟨y0,y1⟩:=BW.cells2;have FIN:=zB8 (f:=f) B2.out.lt G2.out s7.out g7.out (show w.heap.size≤gb+1 from zc) HN1.out ex.out HL1.out hl.out;clear BW;generalize (w7.setCell ⟨gb+1,0,j⟩ (r M et)).setCell ⟨gb+1,1,j⟩ (r I ea)=w9 at *;refine Ξ (v:=τ #[Γ #[r M et,r I ea],r M 0]) (by simp [ρ,Tryz.results332,go_sem,y0,y1];try rfl) rfl ?_
  exact FIN):p:=h
theorem yA5 (h1:1≤f) (h5:f≤5) (hn:n≤5) (hrm:room≤1048576) (hp:Perm p n) (iv:Inv p q) {each:Bool} {l:List Nat} {X:Ex} (hl:∀v∈l,v < n) (hll:l.length≤200) (ih:ya5 bs n room bo bc g bq bk gq bm f bd p q Fo X):ya5 bs n room bo bc g bq bk gq bm f bd p q Fo (.bnd each l X):=by
 intro w L F Z T d HE hv hZ hb1 hb2;obtain ⟨s,u,Fs,e,hs,hF,hu⟩:=hv;obtain ⟨rfl,rfl⟩:=O e;obtain ⟨T,d,rfl⟩:=hu.iface;have hkk:Xk (.bnd each l X) *kcN n=Xk X *kcN n+kcN n:=wP;have hk4:n+(qc n+4 *2 ^ n)=kcN n:=rfl;obtain ⟨gb,hgb⟩:∃gk,w.heap.size=gk:=⟨_,rfl⟩;have LT:=HE.eng.lt;have HN:D (gb+1∉bq::bk::gq::bo::bc::g::F):=fun h=>yO
 have HNb:D (gb∉bq::bk::gq::bo::bc::g::F):=fun h=>yO
 have IH:D (∀W,Mod [] w W→C S (zH1 X) #[d,P (V ⟨bm,0,j⟩)] W (zm8 W bs n room L F bo bc g bq bk gq f n 0 (exT n p X) (Xk X *kcN n))):=fun W m=>ih W L F Z T d (HE.mod0 m hZ) (hu.mod m (ze)) (fun k hk=>K (hZ k hk) m.size) (zc) (zc)
 have MT:=zk7 hu;have CF:=zk0 X;have hmw:bm < gb:=xL;have HB:D (L.length+Xk X *kcN n+kcN n≤100000∧L.length+Xk X *kcN n+kcN n≤room):=⟨zc,zc⟩;have HZ:=z hZ;have HS:=z hs;have HFZ:=z hF;have ET:=z (yr3 hp each l X (yl0 (l:=l) iv hp));have HLV:=z (zS2 (vars:=zc2 l) (yn7 iv hp) n (by rw [iv.len,hp.len];omega));have HML:=z (zh2 hl);have HLL:=z (And.intro hl hll);have HP:=z (And.intro hp iv);obtain ⟨A,cap,rfl,-⟩:=hs.shape;show C S 332 _ _ (zm8 w bs n room L F bo bc g bq bk gq f n 0 (exT n p (.bnd each l X)) (Xk (.bnd each l X) *kcN n));generalize zH1 X=fx at *;rw [hkk];generalize Xk X *kcN n=c1 at *;obtain ⟨ln,hln⟩:∃x,(l.map ei).length=x:=⟨_,rfl⟩;rw [hln] at HS ⊢;have M0:=z (((ω [] w).alloc (N #[κ each,U A ln cap,J T d] 282)).alloc (N #[r M 0,r I 0] 44));have BB:=z ((H w #[κ each,U A ln cap,J T d] 282 gb hgb.symm).alloc (N #[r M 0,r I 0] 44));have B0:=z (H (w.alloc (N #[κ each,U A ln cap,J T d] 282)) #[r M 0,r I 0] 44 (gb+1) (yo));have E0:=z (HE.mod0 M0.out hZ);clear hb1 hb2 LT hu ih HE hZ hkk hs hF hl hll hln hp iv;go_in;go_wp2_with fail;refine (IH.out _ M0.out).mono ?_;rintro e w1 ⟨t1,a1,L1,F1,rfl,en1,g1,ex1,hl1⟩;have hZ0:∀k∈Z,k < ((w.alloc (N #[κ each,U A ln cap,J T d] 282)).alloc (N #[r M 0,r I 0] 44)).heap.size:=fun k hk=>K (HZ.out k hk) M0.out.size
 have nZ:∀k∈Z,k∉bk::gq::bc::g::F:=fun k hk=>no4 (E0.out.no k (zC) (hZ0 k hk)) (show k∉F from fun q=>E0.out.no k (zC) (hZ0 k hk) (zJ))
 have HS1:=z ((HS.out.mod M0.out (ze)).mod g1.mod (fun k hk=>nZ k (HFZ.out k hk)));have E1:=z (E0.out.did en1 g1 hZ0);have G1:=z ((Grow.of_mod (F:=bk::gq::bc::g::F) M0.out).trans g1);have HN1:=z (E0.out.out g1 B0.out.lt HN.out);have HNb1:=z (E0.out.out g1 BB.out.lt HNb.out);have B1:=z (B0.out.mod g1.mod (no4 HN.out (show gb+1∉F from fun q=>HN.out (zJ))));have BB1:=z (BB.out.mod g1.mod (no4 HNb.out (show gb∉F from fun q=>HNb.out (zJ))));have EX1:=z ex1;have HL1:=z hl1;have hZ1:∀k∈Z,k < w1.heap.size:=fun k hk=>K (hZ0 k hk) g1.size
 obtain ⟨g2,hg2⟩:∃g2,w1.heap.size=g2:=⟨_,rfl⟩;have HX:=z (zD2 hg2 (r M t1) (r I a1) 44);have E2:=z (E1.out.mod0 HX.out.2 hZ1);have B2:=z (B1.out.mod HX.out.2 (ze));have BB2:=z (BB1.out.mod HX.out.2 (ze));have HS2:=z (HS1.out.mod HX.out.2 (ze));have G2:=z (G1.out.then HX.out.2);have h12:gb+1 < g2:=jK;have hw12:w.heap.size≤w1.heap.size:=G1.out.size;have hxN:g2∉bq::bk::gq::bo::bc::g::F1:=fun h=>by have:=E1.out.eng.lt g2 h;omega
 clear en1 g1 ex1 hl1 hZ0 IH M0 nZ;go_upto_region 4 with fail;generalize w1.alloc (N #[r M t1,r I a1] 44)=w2 at *;obtain ⟨x0,x1⟩:=HX.out.1.cells2;obtain ⟨q0,q1,q2⟩:=BB2.out.cells3;have l2:=HX.out.1.lt;have ql:=BB2.out.lt;have hml:=E2.out.mak.lt;have c0':=E2.out.mak.cell 0;have c2':=E2.out.mak.cell 2;have c3':=E2.out.mak.cell 3;simp only [Θ,Ψ,Φ] at c0' c2' c3';have sub:∀k,k∉bq::bk::gq::bo::bc::g::F1→k∉bk::gq::bc::g::F1:=fun k h=>no4 h (show k∉F1 from fun q=>h (zJ))
 have hmF:=sub bm (E2.out.no bm (ze) hml);have hgF:=sub _ HN1.out;have hxF:=sub _ hxN;have hbF:=sub _ HNb1.out;have MK2:D (∀W,Mod [] w2 W→C S 339 #[Γ #[κ each,U A ln cap,J T d]] W fun e w'=>e=Ω (r .u16 (zc2 l:Nat))∧Mod [] w2 w'):=fun W m=>(zP2 (HS2.out.mod m (ze)) (fun v hv=>by have:=HLL.out.1 v hv;omega) HLL.out.2).mono (zT)
 have LV2:D (∀W,Mod [] w2 W→C S 338 #[P (V ⟨bd,0,j⟩),r .u16 (zc2 l:Nat)] W fun e w'=>e=Ω (r .u16 (zz0 (zc2 l) q n:Nat))∧w'=W):=fun W m=>zA3 (E2.out.ord.mod m (ze)) HP.out.1.len (HP.out.2.len.trans HP.out.1.len) hn (yn7 HP.out.2 HP.out.1) _ (by have:=HML.out;have:=Nat.pow_le_pow_right (n:=2) (zc) hn;omega)
 have JC:D (∀W F2,Grow w2 W (bk::gq::bc::g::F1) F2→(W.cell? ⟨bm,0,j⟩=V (P (V ⟨bq,0,j⟩))∧W.cell? ⟨bm,2,j⟩=V (P (V ⟨bd,0,j⟩))∧W.cell? ⟨bm,3,j⟩=V (r M (f:Nat)))∧(W.cell? ⟨g2,0,j⟩=V (r M t1)∧W.cell? ⟨g2,1,j⟩=V (r I a1))∧W.cell? ⟨gb,0,j⟩=V (κ each)∧W.cell? ⟨gb,1,j⟩=V (U A ln cap)∧W.cell? ⟨gb,2,j⟩=V (J T d)):=fun W F2 m=>
  ⟨⟨(m.mod.cell (a:=⟨bm,0,j⟩) hml hmF).trans c0',(m.mod.cell (a:=⟨bm,2,j⟩) hml hmF).trans c2',(m.mod.cell (a:=⟨bm,3,j⟩) hml hmF).trans c3'⟩,⟨(m.mod.cell (a:=⟨g2,0,j⟩) l2 hxF).trans x0,(m.mod.cell (a:=⟨g2,1,j⟩) l2 hxF).trans x1⟩,(m.mod.cell (a:=⟨gb,0,j⟩) ql hbF).trans q0,(m.mod.cell (a:=⟨gb,1,j⟩) ql hbF).trans q1,(m.mod.cell (a:=⟨gb,2,j⟩) ql hbF).trans q2⟩
 have nk1:¬gb+1=bm:=zc;have nk2:¬bm=gb+1:=zc;have nk3:¬gb+1=g2:=zc;have nk4:¬g2=gb+1:=zc;have nk5:¬gb+1=gb:=zc;clear sub HS1 HS2 HS HFZ HLL HML;generalize zc2 l=mk at *;generalize zz0 mk q n=lv at *;cases each
 case false=>
  have EX3:D (∀W,Mod [] w2 W→C S 340 #[P (V ⟨bq,0,j⟩),r M f,Γ #[r M t1,r I a1],r .u16 (lv:Nat)] W fun e w'=>∃(et ea:Nat) (L2:List Rc) (F':List Nat),e=Ω (τ #[Γ #[r M et,r I ea],r M 0])∧D (EngQ w' bs n room (L++L1++L2) F' bo bc g bq bk gq)∧D (Grow w2 w' (bk::gq::bc::g::F1) (bk::gq::bc::g::F'))∧D (EdT (L++L1++L2) f n n 0 ⟨et,ea⟩ (exT n p (.bnd false l X)))∧D (L2.length≤kcN n)):=fun W m=>by
   have hlen:(L++L1).length=L.length+L1.length:=π;have h9:=HL1.out;have:=zs3 (f:=f) h1 h5 hn hrm HLV.out (E2.out.eng.mod0 m) (xM) (xN) EX1.out;rw [ET.out] at this;exact this.mono (qT)
  go_wp2_with fail
  go_region_held3 (fun w'=>w'.cell? ⟨bm,0,j⟩=V (P (V ⟨bq,0,j⟩))∧w'.cell? ⟨bm,2,j⟩=V (P (V ⟨bd,0,j⟩))∧w'.cell? ⟨bm,3,j⟩=V (r M (f:Nat))∧w'.cell? ⟨g2,0,j⟩=V (r M t1)∧w'.cell? ⟨g2,1,j⟩=V (r I a1)∧w'.cell? ⟨gb,0,j⟩=V (κ false)∧w'.cell? ⟨gb,1,j⟩=V (U A ln cap)∧w'.cell? ⟨gb,2,j⟩=V (J T d)) (go_keep) (first
   | (go_at_call 339;with_reducible refine (MK2.out _ (zK)).mono ?_;rintro e' w5 ⟨rfl,m5⟩;obtain ⟨⟨c0',c2',c3'⟩,⟨x0,x1⟩,q0,q1,q2⟩:=JC.out w5 _ (Grow.of_mod m5))
   | (go_at_call 338;with_reducible refine (LV2.out _ (zK)).mono ?_;rintro e' w6 ⟨rfl,rfl⟩)
   | (go_at_call 340;with_reducible refine (EX3.out _ (zK)).mono ?_;rintro e' w7 ⟨et,ea,L2,F2,rfl,s7,g7,ex,hl⟩;obtain ⟨⟨c0',c2',c3'⟩,⟨x0,x1⟩,q0,q1,q2⟩:=JC.out w7 _ g7.out;have PB:=B2.out.mod g7.out.mod hgF;obtain ⟨z0,z1⟩:=PB.cells2;obtain ⟨f0,f1,-⟩:=PB.frozs;have zz:=PB.lt;clear PB))
  exact Yy
 case true=>
  have EX3:D (∀W,Mod [] w2 W→C S 337 #[P (V ⟨bq,0,j⟩),r M f,Γ #[r M t1,r I a1],r .u16 (lv:Nat)] W fun e w'=>∃(et ea:Nat) (L2:List Rc) (F':List Nat),e=Ω (τ #[Γ #[r M et,r I ea],r M 0])∧D (EngQ w' bs n room (L++L1++L2) F' bo bc g bq bk gq)∧D (Grow w2 w' (bk::gq::bc::g::F1) (bk::gq::bc::g::F'))∧D (EdT (L++L1++L2) f n n 0 ⟨et,ea⟩ (exT n p (.bnd true l X)))∧D (L2.length≤kcN n)):=fun W m=>by
   have hlen:(L++L1).length=L.length+L1.length:=π;have h9:=HL1.out;have:=zs7 (f:=f) h1 h5 hn hrm HLV.out (E2.out.eng.mod0 m) (xM) (xN) EX1.out;rw [ET.out] at this;exact this.mono (qT)
  go_wp2_with fail
  go_region_held3 (fun w'=>w'.cell? ⟨bm,0,j⟩=V (P (V ⟨bq,0,j⟩))∧w'.cell? ⟨bm,2,j⟩=V (P (V ⟨bd,0,j⟩))∧w'.cell? ⟨bm,3,j⟩=V (r M (f:Nat))∧w'.cell? ⟨g2,0,j⟩=V (r M t1)∧w'.cell? ⟨g2,1,j⟩=V (r I a1)∧w'.cell? ⟨gb,0,j⟩=V (κ true)∧w'.cell? ⟨gb,1,j⟩=V (U A ln cap)∧w'.cell? ⟨gb,2,j⟩=V (J T d)) (go_keep) (first
   | (go_at_call 339;with_reducible refine (MK2.out _ (zK)).mono ?_;rintro e' w5 ⟨rfl,m5⟩;obtain ⟨⟨c0',c2',c3'⟩,⟨x0,x1⟩,q0,q1,q2⟩:=JC.out w5 _ (Grow.of_mod m5))
   | (go_at_call 338;with_reducible refine (LV2.out _ (zK)).mono ?_;rintro e' w6 ⟨rfl,rfl⟩)
   | (go_at_call 337;with_reducible refine (EX3.out _ (zK)).mono ?_;rintro e' w7 ⟨et,ea,L2,F2,rfl,s7,g7,ex,hl⟩;obtain ⟨⟨c0',c2',c3'⟩,⟨x0,x1⟩,q0,q1,q2⟩:=JC.out w7 _ g7.out;have PB:=B2.out.mod g7.out.mod hgF;obtain ⟨z0,z1⟩:=PB.cells2;obtain ⟨f0,f1,-⟩:=PB.frozs;have zz:=PB.lt;clear PB))
  exact Yy
theorem X8 (h1:1≤f) (h5:f≤5) (hn:n≤5) (hrm:room≤1048576) (hp:Perm p n) (iv:Inv p q):∀{X:Ex},zt4 n X→zc8 X→ya5 bs n room bo bc g bq bk gq bm f bd p q Fo X
 | .con b,_,_=>yv2 h1 h5 hn hrm hp b
 | .var v,h,_=>yw2 h1 h5 hn hrm hp iv h
 | .not X,h,hl=>yC2 h1 h5 hn hrm hp (X8 h1 h5 hn hrm hp iv (X:=X) h hl)
 | .bin op X Y,h,hl=>yt9 h1 h5 hn hrm hp hl.1 (X8 h1 h5 hn hrm hp iv h.1 hl.2.1) (X8 h1 h5 hn hrm hp iv h.2 hl.2.2)
 | .bnd each l X,h,hl=>yA5 h1 h5 hn hrm hp iv h.1 hl.1 (X8 h1 h5 hn hrm hp iv h.2 hl.2)
end
open Go.RowKit
theorem zf3 {X:Ex} {w:ψ} {T:Nat} {d:ν} {F:List Nat} (h:PV w X (J T d) F) (W:ψ):(method 532 T d "ramage/expr.table").run S W=.ok (zg1 X,d) W:=by
 cases X with
 | con b=>obtain ⟨rfl,rfl⟩:=O h;kernel_rfl
 | var n=>obtain ⟨rfl,rfl⟩:=O h;kernel_rfl
 | not X=>obtain ⟨u,e,_⟩:=h;obtain ⟨rfl,rfl⟩:=O e;kernel_rfl
 | bin op a b=>obtain ⟨u,u',e,_⟩:=h;obtain ⟨rfl,rfl⟩:=O e;kernel_rfl
 | bnd each l X=>obtain ⟨s,u,Fs,e,_⟩:=h;obtain ⟨rfl,rfl⟩:=O e;kernel_rfl
theorem zf8 (X:Ex) (args:Array ν) (W:ψ):(callFunc (zg1 X) args).run S W=.ok (.enter (zg1 X) args) W:=by cases X<;>kernel_rfl
theorem yt7 {n v:Nat} (hn:n≤5) (hv:v < n):ya4 n (.var v):=by
 intro w T d F h;obtain ⟨rfl,rfl⟩:=O h;show C S 320 _ _ _;have SI:=z (zB2 n v hn hv);rw [yr9] at SI;obtain ⟨gk,hgk⟩:∃gk,w.heap.size=gk:=⟨_,rfl⟩;have B0:=z (H w #[r Q 0,U j 0 0] 88 gk hgk.symm);have M0:D (Mod [] w (w.alloc (N #[r Q 0,U j 0 0] 88))):=zg;generalize exW n (.var v)=R at *;go_in;go_wp2_with fail;refine (SI.out _).mono ?_;rintro e w1 ⟨g1,rfl,b1,hg1,m1⟩;have M1:=z (M0.out.trans' m1);have hk0:gk < w1.heap.size:=(B0.out.mod m1 (ze)).lt;obtain ⟨g2,hg2⟩:∃g2,w1.heap.size=g2:=⟨_,rfl⟩;have HX:=z (zD2 hg2 (r Q n) (U (V ⟨g1,0,j⟩) 1 1) 88);have hs0:w.heap.size+1=(w.alloc (N #[r Q 0,U j 0 0] 88)).heap.size:=ze;have B1:=z (b1.mod HX.out.2 (ze));have B0':=z ((B0.out.mod m1 (ze)).mod HX.out.2 (ze));clear m1 b1 M0;go_upto_region 2 with fail;generalize w1.alloc (N #[r Q n,U (V ⟨g1,0,j⟩) 1 1] 88)=w2 at *;have M2:=z (M1.out.trans' HX.out.2);have n3:¬g1=gk:=zc;have n4:¬g2=gk:=zc;have hgw:w.heap.size≤g1:=zc;have l0:=B0'.out.lt;obtain ⟨f0,f1,-⟩:=B0'.out.frozs;obtain ⟨z0,z1⟩:=B0'.out.cells2;obtain ⟨x0,x1⟩:=HX.out.1.cells2;have l2:=HX.out.1.lt;go_wp2_with fail;have BR:=B0'.out.put2 (r Q n) (U (V ⟨g1,0,j⟩) 1 1);have MR:=Mod.put2 w2 gk (r Q n) (U (V ⟨g1,0,j⟩) 1 1);have MF:=M2.out.trans MR (fun i hi q=>zP);have BF:=B1.out.mod MR (by simpa using n3);obtain ⟨y0,y1⟩:=BR.cells2;generalize (w2.setCell ⟨gk,0,j⟩ (r Q n)).setCell ⟨gk,1,j⟩ (U (V ⟨g1,0,j⟩) 1 1)=w3 at *;refine Ξ (v:=Γ #[r Q n,U (V ⟨g1,0,j⟩) 1 1]) (by simp [ρ,Tryz.results320,go_sem,y0,y1];try rfl) rfl ?_;exact ⟨g1,rfl,BF,hgw,MF⟩
theorem ys0 {n:Nat} {X:Ex} (hn:n≤5) (ih:ya4 n X):ya4 n (.not X):=by
 intro w T d F h;obtain ⟨u,e,hu⟩:=h;obtain ⟨rfl,rfl⟩:=O e;obtain ⟨T,d,rfl⟩:=hu.iface;have IH:D (∀W,Mod [] w W→C S (zg1 X) #[d,r Q n] W (zz6 W n (exW n X))):=fun W m=>ih W T d F (hu.mod m (ze))
 have MT:=zf3 hu;have CF:=zf8 X
 have OP:D (∀(W:ψ) (g:Nat),W.cell? ⟨g,0,j⟩=V (r δ (exW n X:Nat))→C S 292 #[r Q 3,Γ #[r Q n,U (V ⟨g,0,j⟩) 1 1],Γ #[r Q n,U (V ⟨g,0,j⟩) 1 1]] W (zE7 W n (exW n (.not X)))):=fun W g c=>by
  have:=zC7 3 n (exW n X) (exW n X) g 1 g 1 (zc) hn (zg7 _ _) (zg7 _ _) W c c;rw [yw6] at this;exact this
 clear hu;show C S 328 _ _ (zz6 w n (exW n (.not X)));generalize zg1 X=fx at *;generalize exW n (.not X)=R at *;generalize exW n X=R0 at *;obtain ⟨gb,hgb⟩:∃gk,w.heap.size=gk:=⟨_,rfl⟩;have BB:=z ((H w #[J T d] 261 gb hgb.symm).alloc (N #[r Q 0,U j 0 0] 88));have B0:=z (H (w.alloc (N #[J T d] 261)) #[r Q 0,U j 0 0] 88 (gb+1) (yo));have M0:D (Mod [] w ((w.alloc (N #[J T d] 261)).alloc (N #[r Q 0,U j 0 0] 88))):=zg;have hs0:((w.alloc (N #[J T d] 261)).alloc (N #[r Q 0,U j 0 0] 88)).heap.size=gb+2:=yo;go_in;go_wp2_with fail;refine (IH.out _ M0.out).mono ?_;rintro e w1 ⟨g1,rfl,b1,hg1,m1⟩;have M1:=z (M0.out.trans' m1);have hs1:=m1.size;obtain ⟨g2,hg2⟩:∃g2,w1.heap.size=g2:=⟨_,rfl⟩;have HX:=z (zD2 hg2 (r Q n) (U (V ⟨g1,0,j⟩) 1 1) 88);have h12:g1 < g2:=qS;have c1:=(b1.mod HX.out.2 (ze)).cell 0;have B0':=z ((B0.out.mod m1 (ze)).mod HX.out.2 (ze));clear m1 b1 M0 B0 BB;go_upto_region 2 with fail;generalize w1.alloc (N #[r Q n,U (V ⟨g1,0,j⟩) 1 1] 88)=w2 at *;have M2:=z (M1.out.trans' HX.out.2);obtain ⟨x0,x1⟩:=HX.out.1.cells2;have l2:=HX.out.1.lt;have OPC:=z (OP.out w2 g1 c1);clear c1 OP;go_wp2_with fail;refine OPC.out.mono ?_;rintro e w4 ⟨g4,rfl,b4,hg4,m4⟩;have M4:=z (M2.out.trans' m4);have B2:=z (HX.out.1.mod m4 (ze));have B04:=z (B0'.out.mod m4 (ze));clear x0 x1;obtain ⟨x0,x1⟩:=B2.out.cells2;obtain ⟨u0,u1,-⟩:=B2.out.frozs;have hw2:=M2.out.size;have n6:¬g4=gb+1:=zc;have n7:¬g4=g2:=zc;have n8:¬gb+1=g2:=zc;have n9:¬g2=gb+1:=zc;have l3:=B2.out.lt;go_upto_region 3 with fail;have B3:=z (B2.out.put2 (r Q n) (U (V ⟨g4,0,j⟩) 1 1));have MS:=Mod.put2 w4 g2 (r Q n) (U (V ⟨g4,0,j⟩) 1 1);have b5:=z (b4.mod MS (by simpa using n7));have B05:=z (B04.out.mod MS (yn));have M5:=z (M4.out.trans MS (fun i hi q=>zP));clear MS b4 m4;generalize (w4.setCell ⟨g2,0,j⟩ (r Q n)).setCell ⟨g2,1,j⟩ (U (V ⟨g4,0,j⟩) 1 1)=w5 at *;clear x0 x1 u0 u1 l3 l2;obtain ⟨f0,f1,-⟩:=B05.out.frozs;obtain ⟨z0,z1⟩:=B05.out.cells2;obtain ⟨x0,x1⟩:=B3.out.cells2;have l0:=B05.out.lt;have l2:=B3.out.lt;go_wp2_with fail;have BR:=B05.out.put2 (r Q n) (U (V ⟨g4,0,j⟩) 1 1);have MR:=Mod.put2 w5 (gb+1) (r Q n) (U (V ⟨g4,0,j⟩) 1 1);have MF:=M5.out.trans MR (fun i hi q=>zP);have BF:=b5.out.mod MR (yE);obtain ⟨y0,y1⟩:=BR.cells2;generalize (w5.setCell ⟨gb+1,0,j⟩ (r Q n)).setCell ⟨gb+1,1,j⟩ (U (V ⟨g4,0,j⟩) 1 1)=w3 at *;refine Ξ (v:=Γ #[r Q n,U (V ⟨g4,0,j⟩) 1 1]) (by simp [ρ,Tryz.results328,go_sem,y0,y1];try rfl) rfl ?_;exact ⟨g4,rfl,BF,zc,MF⟩
open Go.RowKit
theorem yq4 {n op:Nat} {X Y:Ex} (hn:n≤5) (hop:op < 256) (iha:ya4 n X) (ihb:ya4 n Y):ya4 n (.bin op X Y):=by
 intro w T d F h;obtain ⟨u,u',e,hu,hu'⟩:=h;obtain ⟨rfl,rfl⟩:=O e;obtain ⟨T,d,rfl⟩:=hu.iface;obtain ⟨T',d',rfl⟩:=hu'.iface;have IA:D (∀W,Mod [] w W→C S (zg1 X) #[d,r Q n] W (zz6 W n (exW n X))):=fun W m=>iha W T d F (hu.mod m (ze))
 have IB:D (∀W,Mod [] w W→C S (zg1 Y) #[d',r Q n] W (zz6 W n (exW n Y))):=fun W m=>ihb W T' d' F (hu'.mod m (ze))
 have MA:=zf3 hu;have MB:=zf3 hu';have CA:=zf8 X;have CB:=zf8 Y;have NU:=z (zF9 op hop)
 have OP:D (∀(W:ψ) (g g':Nat),W.cell? ⟨g,0,j⟩=V (r δ (exW n X:Nat))→W.cell? ⟨g',0,j⟩=V (r δ (exW n Y:Nat))→C S 292 #[r Q (XM op:Nat),Γ #[r Q n,U (V ⟨g,0,j⟩) 1 1],Γ #[r Q n,U (V ⟨g',0,j⟩) 1 1]] W (zE7 W n (exW n (.bin op X Y)))):=fun W g g' c c'=>by
  have:=zC7 (XM op) n (exW n X) (exW n Y) g 1 g' 1 (by have:=zr7 op;omega) hn (zg7 _ _) (zg7 _ _) W c c';rw [yq7] at this;exact this
 clear hu hu' iha ihb;show C S 287 _ _ (zz6 w n (exW n (.bin op X Y)));generalize zg1 X=fx at *;generalize zg1 Y=fy at *;generalize exW n (.bin op X Y)=R at *;generalize exW n X=R1 at *;generalize exW n Y=R2 at *;generalize XM op=o at *;obtain ⟨gb,hgb⟩:∃gk,w.heap.size=gk:=⟨_,rfl⟩;have BB:=(H w #[r M (op:Nat),J T d,J T' d'] 222 gb hgb.symm).alloc (N #[r Q 0,U j 0 0] 88);have B0:=z (H (w.alloc (N #[r M (op:Nat),J T d,J T' d'] 222)) #[r Q 0,U j 0 0] 88 (gb+1) (yo));have M0:D (Mod [] w ((w.alloc (N #[r M (op:Nat),J T d,J T' d'] 222)).alloc (N #[r Q 0,U j 0 0] 88))):=zg;have hs0:((w.alloc (N #[r M (op:Nat),J T d,J T' d'] 222)).alloc (N #[r Q 0,U j 0 0] 88)).heap.size=gb+2:=yo;go_in;go_upto_region 1 with fail;generalize (w.alloc (N #[r M (op:Nat),J T d,J T' d'] 222)).alloc (N #[r Q 0,U j 0 0] 88)=w0 at *;obtain ⟨c0,c1,c2⟩:=BB.cells3;have hbl:=BB.lt;clear BB;have IA2:D (∀W,Mod [] w0 W→C S fx #[d,r Q n] W fun e w'=>∃ga:Nat,e=Ω (Γ #[r Q n,U (V ⟨ga,0,j⟩) 1 1])∧w'.cell? ⟨ga,0,j⟩=V (r δ (R1:Nat))∧ga < w'.heap.size∧Mod [] w0 w'∧Mod [] W w'):=fun W m=>(IA.out W (M0.out.trans' m)).mono (wQ)
 have IB2:D (∀W,Mod [] w0 W→C S fy #[d',r Q n] W fun e w'=>∃ga:Nat,e=Ω (Γ #[r Q n,U (V ⟨ga,0,j⟩) 1 1])∧w'.cell? ⟨ga,0,j⟩=V (r δ (R2:Nat))∧ga < w'.heap.size∧Mod [] w0 w'∧Mod [] W w'):=fun W m=>(IB.out W (M0.out.trans' m)).mono (wQ)
 have OP2:D (∀(W:ψ) (g g':Nat),Mod [] w0 W→W.cell? ⟨g,0,j⟩=V (r δ (R1:Nat))→W.cell? ⟨g',0,j⟩=V (r δ (R2:Nat))→C S 292 #[r Q (o:Nat),Γ #[r Q n,U (V ⟨g,0,j⟩) 1 1],Γ #[r Q n,U (V ⟨g',0,j⟩) 1 1]] W fun e w'=>∃g4:Nat,e=Ω (τ #[Γ #[r Q n,U (V ⟨g4,0,j⟩) 1 1],r M 0])∧D (Blk w' g4 #[r δ (R:Nat)] 185)∧D (W.heap.size≤g4)∧Mod [] w0 w'∧Mod [] W w'):=fun W g g' m c c'=>(OP.out W g g' c c').mono (by rintro e w' ⟨g4,rfl,bg,hg,m2⟩;exact ⟨g4,rfl,bg,hg,m.trans' m2,m2⟩)
 have JC:D (∀W,Mod [] w0 W→W.cell? ⟨gb,0,j⟩=V (r M (op:Nat))∧W.cell? ⟨gb,1,j⟩=V (J T d)∧W.cell? ⟨gb,2,j⟩=V (J T' d')∧gb < W.heap.size):=fun W m=>⟨(m.cell (a:=⟨gb,0,j⟩) hbl (ze)).trans c0,(m.cell (a:=⟨gb,1,j⟩) hbl (ze)).trans c1,(m.cell (a:=⟨gb,2,j⟩) hbl (ze)).trans c2,K hbl m.size⟩
 clear IA IB OP;obtain ⟨s0,e0⟩:∃s,w0.heap.size=s:=⟨_,rfl⟩;have h02:s0=gb+2:=zc;clear hs0;have k0:¬s0=gb:=zc;have j0:¬gb=s0:=zc;rw [e0] at hbl;have H02:=z h02;clear h02;go_wp2_with fail
 go_region_held3 (fun w'=>w'.cell? ⟨gb,0,j⟩=V (r M (op:Nat))∧w'.cell? ⟨gb,1,j⟩=V (J T d)∧w'.cell? ⟨gb,2,j⟩=V (J T' d')) (go_keep) (first
  | (go_at_call 291;with_reducible refine (NU.out _).mono ?_;rintro e' w4 ⟨rfl,rfl⟩)
  | (go_at_call 292;with_reducible refine (OP2.out _ _ _ (jL) (by first | assumption | exact (ι (θ (ω [] _) _) la (ze)).trans qa | exact (ι (θ (Mod.drew (ω [] _)) _) la (ze)).trans qa) (by first | assumption | exact (ι (θ (ω [] _) _) lb (ze)).trans qb | exact (ι (θ (Mod.drew (ω [] _)) _) lb (ze)).trans qb)).mono ?_;rintro e' w7 ⟨g4,rfl,b4,hg4,m7,n7⟩;obtain ⟨c0,c1,c2,hbl⟩:=JC.out w7 m7;(try (have bx:=z (φ (H w0 #[r Q 0,U j 0 0] 88 s0 e0.symm) n7 (ze))));(try (have bx:=z (φ ((H w0 #[r Q 0,U j 0 0] 88 s0 e0.symm).drew) n7 (ze))));(try (have bx:=z (φ (H w5 #[r Q 0,U j 0 0] 88 s5 e5.symm) n7 (ze))));(try (have bx:=z (φ (H w6 #[r Q 0,U j 0 0] 88 s6 e6.symm) n7 (ze))));(try (replace bx:=z (bx.out.mod n7 (ze))));(try (obtain ⟨z0,z1⟩:=bx.out.cells2;obtain ⟨f0,f1,-⟩:=bx.out.frozs;have zl:=bx.out.lt));obtain ⟨s7,e7⟩:∃s,w7.heap.size=s:=⟨_,rfl⟩;have k7:¬s7=gb:=(zc);have j7:¬gb=s7:=(zc);rw [e7] at hbl;(try (rw [e7] at zl)))
  | (with_reducible refine (IA2.out _ (jL)).mono ?_;rintro e' w5 ⟨ga,rfl,qa,la,m5,n5⟩;obtain ⟨c0,c1,c2,hbl⟩:=JC.out w5 m5;(try (have bx:=z (φ (H w0 #[r Q 0,U j 0 0] 88 s0 e0.symm) n5 (ze))));(try (have bx:=z (φ ((H w0 #[r Q 0,U j 0 0] 88 s0 e0.symm).drew) n5 (ze))));(try (have bx:=z (φ (H w5 #[r Q 0,U j 0 0] 88 s5 e5.symm) n5 (ze))));(try (have bx:=z (φ (H w6 #[r Q 0,U j 0 0] 88 s6 e6.symm) n5 (ze))));(try (replace bx:=z (bx.out.mod n5 (ze))));(try (obtain ⟨z0,z1⟩:=bx.out.cells2;obtain ⟨f0,f1,-⟩:=bx.out.frozs;have zl:=bx.out.lt));obtain ⟨s5,e5⟩:∃s,w5.heap.size=s:=⟨_,rfl⟩;have k5:¬s5=gb:=(zc);have j5:¬gb=s5:=(zc);rw [e5] at hbl;(try (rw [e5] at zl)))
  | (with_reducible refine (IB2.out _ (jL)).mono ?_;rintro e' w6 ⟨g',rfl,qb,lb,m6,n6⟩;obtain ⟨c0,c1,c2,hbl⟩:=JC.out w6 m6;have qa:=(ι ((show Mod [] w5 _ from wR).trans' n6) (a:=⟨ga,0,j⟩) la (ze)).trans qa;have la:=K la ((show Mod [] w5 _ from wR).trans' n6).size;(try (have bx:=z (φ (H w0 #[r Q 0,U j 0 0] 88 s0 e0.symm) n6 (ze))));(try (have bx:=z (φ ((H w0 #[r Q 0,U j 0 0] 88 s0 e0.symm).drew) n6 (ze))));(try (have bx:=z (φ (H w5 #[r Q 0,U j 0 0] 88 s5 e5.symm) n6 (ze))));(try (have bx:=z (φ (H w6 #[r Q 0,U j 0 0] 88 s6 e6.symm) n6 (ze))));(try (replace bx:=z (bx.out.mod n6 (ze))));(try (obtain ⟨z0,z1⟩:=bx.out.cells2;obtain ⟨f0,f1,-⟩:=bx.out.frozs;have zl:=bx.out.lt));obtain ⟨s6,e6⟩:∃s,w6.heap.size=s:=⟨_,rfl⟩;have k6:¬s6=gb:=(zc);have j6:¬gb=s6:=(zc);rw [e6] at hbl;(try (rw [e6] at zl))))
 all_goals
  have hg5:=hg4.out;have hb4:=b4.out.lt
  (try simp only [World.size_alloc,World.size_drew] at hg5)
  have z5:=m5.size;have z6:=m6.size;have z7:=m7.size;have H02':=H02.out;have hgw:w.heap.size≤g4:=zc;have hkn:¬g4=gb+1:=zc;have B07:=z (B0.out.mod m7 (ze));have M7:=z (M0.out.trans' m7);have B4:=z b4.out
  first
   | (have HB:D (Blk ((w7.setCell ⟨s6,0,j⟩ (r Q n)).setCell ⟨s6,1,j⟩ (U (V ⟨g4,0,j⟩) 1 1)) s6 #[r Q n,U (V ⟨g4,0,j⟩) 1 1] 88):=bx.out.put2 (r Q n) (U (V ⟨g4,0,j⟩) 1 1);have HM:=z (Mod.put2 w7 s6 (r Q n) (U (V ⟨g4,0,j⟩) 1 1));generalize (w7.setCell ⟨s6,0,j⟩ (r Q n)).setCell ⟨s6,1,j⟩ (U (V ⟨g4,0,j⟩) 1 1)=w8 at *;have n8:¬s6=gb+1:=(zc);have n9:¬g4=s6:=(zc);have h8:w.heap.size≤s6:=(zc);clear e7;generalize s6=s8 at *)
   | (have HB:D (Blk ((w7.setCell ⟨s5,0,j⟩ (r Q n)).setCell ⟨s5,1,j⟩ (U (V ⟨g4,0,j⟩) 1 1)) s5 #[r Q n,U (V ⟨g4,0,j⟩) 1 1] 88):=bx.out.put2 (r Q n) (U (V ⟨g4,0,j⟩) 1 1);have HM:=z (Mod.put2 w7 s5 (r Q n) (U (V ⟨g4,0,j⟩) 1 1));generalize (w7.setCell ⟨s5,0,j⟩ (r Q n)).setCell ⟨s5,1,j⟩ (U (V ⟨g4,0,j⟩) 1 1)=w8 at *;have n8:¬s5=gb+1:=(zc);have n9:¬g4=s5:=(zc);have h8:w.heap.size≤s5:=(zc);clear e7;generalize s5=s8 at *)
   | (have HB:D (Blk ((w7.setCell ⟨s0,0,j⟩ (r Q n)).setCell ⟨s0,1,j⟩ (U (V ⟨g4,0,j⟩) 1 1)) s0 #[r Q n,U (V ⟨g4,0,j⟩) 1 1] 88):=bx.out.put2 (r Q n) (U (V ⟨g4,0,j⟩) 1 1);have HM:=z (Mod.put2 w7 s0 (r Q n) (U (V ⟨g4,0,j⟩) 1 1));generalize (w7.setCell ⟨s0,0,j⟩ (r Q n)).setCell ⟨s0,1,j⟩ (U (V ⟨g4,0,j⟩) 1 1)=w8 at *;have n8:¬s0=gb+1:=(zc);have n9:¬g4=s0:=(zc);have h8:w.heap.size≤s0:=(zc);clear e7;generalize s0=s8 at *)
   | (have HB:=z (zD2 e7 (r Q n) (U (V ⟨g4,0,j⟩) 1 1) 88).1;have HM:D (Mod [s7] w7 (w7.alloc (N #[r Q n,U (V ⟨g4,0,j⟩) 1 1] 88))):=((ω _ _).alloc _);generalize w7.alloc (N #[r Q n,U (V ⟨g4,0,j⟩) 1 1] 88)=w8 at *;have n8:¬s7=gb+1:=(zc);have n9:¬g4=s7:=(zc);have h8:w.heap.size≤s7:=(zc);clear e7;generalize s7=s8 at *)
  have B08:=z (B07.out.mod HM.out (by simpa using fun e:gb+1=s8=>n8 e.symm));have B48:=z (B4.out.mod HM.out (by simpa using n9));have M8:=z (M7.out.trans HM.out (fun i hi q=>zP));have hkw:w.heap.size≤gb+1:=zc;clear c0 c1 c2 qa qb H02';obtain ⟨y0,y1⟩:=HB.out.cells2;have yl:=HB.out.lt;obtain ⟨p0,p1⟩:=B08.out.cells2;obtain ⟨r0,r1,-⟩:=B08.out.frozs;have pl:=B08.out.lt;go_wp2_with fail;have BR:=B08.out.put2 (r Q n) (U (V ⟨g4,0,j⟩) 1 1);have MR:=Mod.put2 w8 (gb+1) (r Q n) (U (V ⟨g4,0,j⟩) 1 1);have MF:=M8.out.trans MR (fun i hi q=>zP);have BF:=B48.out.mod MR (by simpa using hkn);obtain ⟨t0,t1⟩:=BR.cells2;generalize (w8.setCell ⟨gb+1,0,j⟩ (r Q n)).setCell ⟨gb+1,1,j⟩ (U (V ⟨g4,0,j⟩) 1 1)=w9 at *;refine Ξ (v:=Γ #[r Q n,U (V ⟨g4,0,j⟩) 1 1]) (by simp [ρ,Tryz.results287,go_sem,t0,t1];try rfl) rfl ?_;exact ⟨g4,rfl,BF,hgw,MF⟩
end Go.Proofs.YtbnpoapmnkfhkaaGreatDoor
