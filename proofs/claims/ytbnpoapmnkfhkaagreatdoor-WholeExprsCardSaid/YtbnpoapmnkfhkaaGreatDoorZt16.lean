import Derived.Test.YtbnpoapmnkfhkaaGreatDoorZt07
import Derived.Test.YtbnpoapmnkfhkaaGreatDoorZt12
import Derived.Deep.RegionHeld3
import Derived.Deep.RegionLaw
set_option maxRecDepth 100000
set_option maxHeartbeats 4000000
set_option linter.unusedVariables false
set_option linter.unusedSimpArgs false
namespace Go.Proofs.YtbnpoapmnkfhkaaGreatDoor
open Go.Lib renaming hid → o
open Go.Value renaming iface → f, int → U, pointer → Ψ, slice → Ξ, bool → ρ, agg → Qg, string → Qh
open Go.Proofs.Tryz renaming prog → Z
open Option renaming none → Q, some → Θ
open Go renaming World → O, Calls → C, Value → χ
open Go.Ending renaming returned → K
open Go.IntKind renaming i64 → J, u16 → η, u8 → δ
open Go.Value.iface renaming inj → I
open List renaming mem_append_right → G, cons_append → B, setIfInBounds_toArray → Φ, mem_cons_of_mem → ω, take_succ_eq_append_getElem → ψ, set_cons_zero → φ, set_cons_succ → τ, append_assoc → σ, mem_append_left → π, drop_eq_getElem_cons → ξ, mem_append → ν, mem_filter → μ, length_append → κ, length_cons → ζ, take_of_length_le → ε, foldl_append → β, getElem_mem → Qb, length_map → Qc, nil_append → Qd, map_append → Qe, mem_cons → Qf
open Go.RowKit renaming Hid → Ω
open Go.Obj renaming cells → Δ
open List.cons renaming inj → Γ
open Nat renaming pow_lt_pow_right → ι, lt_of_lt_of_le → θ, or_lt_two_pow → γ, le_refl → Qa
open Go.RowKit
def PV (w:O):Ex→χ→List Nat→Prop
 | .con b,v,_=>v=f 258 (ρ b)
 | .var n,v,_=>v=f 259 (U J (n:Nat))
 | .not X,v,F=>∃u,v=f 261 (Qg #[u])∧PV w X u F
 | .bin op a b,v,F=>∃u u',v=f 222 (Qg #[U δ (op:Nat),u,u'])∧PV w a u F∧PV w b u' F
 | .bnd each l X,v,F=>∃s u Fs,v=f 282 (Qg #[ρ each,s,u])∧Rv w s (l.map ei) Fs∧(∀k∈Fs,k∈F)∧PV w X u F
theorem PV.mod {S:List Nat} {w w':O} (m:Mod S w w'):∀{X:Ex} {v:χ} {F:List Nat},PV w X v F→(∀k∈F,k∉S)→PV w' X v F
 | .con _,_,_,h,_=>h
 | .var _,_,_,h,_=>h
 | .not X,_,_,⟨u,e,h⟩,hd=>⟨u,e,h.mod m hd⟩
 | .bin _ a b,_,_,⟨u,u',e,h,h'⟩,hd=>⟨u,u',e,h.mod m hd,h'.mod m hd⟩
 | .bnd _ _ X,_,_,⟨s,u,Fs,e,r,hs,h⟩,hd=>⟨s,u,Fs,e,r.mod m (fun k hk=>hd k (hs k hk)),hs,h.mod m hd⟩
theorem PV.mono {w:O} {F F':List Nat} (hF:∀k∈F,k∈F'):∀{X:Ex} {v:χ},PV w X v F→PV w X v F'
 | .con _,_,h=>h
 | .var _,_,h=>h
 | .not X,_,⟨u,e,h⟩=>⟨u,e,h.mono hF⟩
 | .bin _ a b,_,⟨u,u',e,h,h'⟩=>⟨u,u',e,h.mono hF,h'.mono hF⟩
 | .bnd _ _ X,_,⟨s,u,Fs,e,r,hs,h⟩=>⟨s,u,Fs,e,r,fun k hk=>hF k (hs k hk),h.mono hF⟩
def zH5 (x:Nat) (s:ByteArray) (u:Tk) (R:List Tk) (deep:Nat) (X:Ex) (w:O) (e:Ending) (w':O):Prop:=
 ∃v F,e=K v∧PV w' X v F∧PT w' x s u R deep∧Mod [x] w w'∧∀k∈F,w.heap.size≤k
structure At (w:O) (x:Nat) (s:ByteArray) (ts:List Tk) (u:Tk) (R:List Tk) (deep:Nat):Prop where
 pt:∃t T,ts++u::R=t::T∧PT w x s t T deep
 ok:∀t∈ts++u::R,t.k≠98
 dp:deep+ts.length≤190
def yJ6 (x:Nat) (s:ByteArray) (m:Nat):Prop:=∀(w:O) (ts:List Tk) (X:Ex) (u:Tk) (R:List Tk) (deep:Nat),ts.length≤m→Un ts X→At w x s ts u R deep→C Z 102 #[Ψ (Θ ⟨x,0,Q⟩)] w (zH5 x s u R deep X w)
def yC4 (x:Nat) (s:ByteArray) (m r:Nat):Prop:=∀(w:O) (ts:List Tk) (X:Ex) (u:Tk) (R:List Tk) (deep:Nat),ts.length≤m→Fl r ts X→Xg u.k < r∧u.k < 256→At w x s ts u R deep→C Z 61 #[Ψ (Θ ⟨x,0,Q⟩),U J r] w (zH5 x s u R deep X w)
def BndC (x:Nat) (s:ByteArray) (m:Nat):Prop:=∀(w:O) (each:Bool) (t v:Tk) (vs:List Tk) (d:Tk) (ts:List Tk) (X:Ex) (u:Tk) (R:List Tk) (deep:Nat),ts.length≤m→v.k=118→(∀u∈vs,u.k=118)→d.k=46→Un ts X→At w x s (t::v::(vs++d::ts)) u R deep→
 C Z 140 #[Ψ (Θ ⟨x,0,Q⟩),ρ each] w (zH5 x s u R deep (.bnd each (v.n::vs.map Tk.n) X) w)
theorem Un.ne {ts:List Tk} {X:Ex} (h:Un ts X):ts≠[]:=by cases h<;>simp
theorem Zz {p:Prop} (h:p:=by
 go_in;go_wp2_with fail;refine (ST.out _ (zg)).mono ?_;rintro e w1 ⟨rfl,p1,m1⟩;have P1:=o p1;have M1:=o (Mod.trans' (show Mod [x] w _ from zg) m1);obtain ⟨y0,y1,y2⟩:=(BX.out.mod m1 (zj)).cells3;clear p1 m1;go_wp2_with fail;go_ret
 exact ⟨_,[],rfl,rfl,P1.out,M1.out,ze⟩):p:=h
theorem yA9 {x:Nat} {s:ByteArray} (hs:s.size≤100) {w:O} {t u:Tk} {R:List Tk} {deep:Nat} (hk:t.k=48∨t.k=49) (hA:At w x s [t] u R deep):
 C Z 102 #[Ψ (Θ ⟨x,0,Q⟩)] w (zH5 x s u R deep (.con (decide (t.k=49))) w):=by
 obtain ⟨t',T,e,p⟩:=hA.pt;obtain ⟨rfl,rfl⟩:=Γ e;have ST:Ω (∀W,Mod [] w W→_):=fun W m=>zH8 hs (p.mod m (ze)) (hA.ok u (ze))
 obtain ⟨a,b,-⟩:=p;obtain ⟨c0,c1,c2,c3,c4,c5,c6,c7⟩:=b.cells8p;have hxl:=b.lt;obtain ⟨tk,tn,ta⟩:=t;simp only at *;clear b hA e;obtain ⟨gk,hgk⟩:∃gk,w.heap.size=gk:=⟨_,rfl⟩;have hxk:¬x=gk:=zc;rcases hk with rfl | rfl
 ·have BX:=o (Blk.new' w #[U δ 48,U J tn,U J ta] 159 gk hgk.symm);exact Zz
 ·have BX:=o (Blk.new' w #[U δ 49,U J tn,U J ta] 159 gk hgk.symm);exact Zz
open Go.RowKit
theorem PV.iface {w:O} {X:Ex} {v:χ} {F:List Nat} (h:PV w X v F):∃T d,v=f T d:=by
 cases X with
 | con b=>exact ⟨_,_,h⟩
 | var n=>exact ⟨_,_,h⟩
 | not X=>obtain ⟨u,e,_⟩:=h;exact ⟨_,_,e⟩
 | bin op a b=>obtain ⟨u,u',e,_⟩:=h;exact ⟨_,_,e⟩
 | bnd each l X=>obtain ⟨s,u,Fs,e,_⟩:=h;exact ⟨_,_,e⟩
theorem At.first {w:O} {x:Nat} {s:ByteArray} {t:Tk} {ts:List Tk} {u:Tk} {R:List Tk} {deep:Nat} (h:At w x s (t::ts) u R deep):∃u1 T1,ts++u::R=u1::T1∧PT w x s t (u1::T1) deep∧u1.k≠98:=by
 obtain ⟨t',T,e,p⟩:=h.pt;rw [B] at e;obtain ⟨rfl,rfl⟩:=Γ e;obtain ⟨u1,T1,e1⟩:∃u1 T1,ts++u::R=u1::T1:=by cases ts<;>simp
 rw [e1] at p;exact ⟨u1,T1,e1,p,h.ok u1 (by rw [B,e1];simp)⟩
theorem At.rest {w w':O} {x:Nat} {s:ByteArray} {t:Tk} {ts:List Tk} {u:Tk} {R:List Tk} {deep d:Nat} (h:At w x s (t::ts) u R deep) {u1:Tk} {T1:List Tk} (e:ts++u::R=u1::T1) (p:PT w' x s u1 T1 d) (hd:d≤deep+1):At w' x s ts u R d:=
 ⟨⟨u1,T1,e,p⟩,fun v hv=>h.ok v (ω _ hv),by have:=h.dp;simp at this;omega⟩
theorem yB1 {x:Nat} {s:ByteArray} (hs:s.size≤100) {w:O} {t u:Tk} {R:List Tk} {deep:Nat} (hk:t.k=118) (hA:At w x s [t] u R deep):
 C Z 102 #[Ψ (Θ ⟨x,0,Q⟩)] w (zH5 x s u R deep (.var t.n) w):=by
 obtain ⟨u1,T1,e,p,hu1⟩:=hA.first;obtain ⟨rfl,rfl⟩:=Γ e;have ST:Ω (∀W,Mod [] w W→_):=fun W m=>zH8 hs (p.mod m (ze)) hu1
 obtain ⟨a,b,-⟩:=p;obtain ⟨c0,c1,c2,c3,c4,c5,c6,c7⟩:=b.cells8p;have hxl:=b.lt;obtain ⟨tk,tn,ta⟩:=t;simp only at *;subst hk;clear b hA e;obtain ⟨gk,hgk⟩:∃gk,w.heap.size=gk:=⟨_,rfl⟩;have hxk:¬x=gk:=zc;have BX:=o (Blk.new' w #[U δ 118,U J tn,U J ta] 159 gk hgk.symm);exact Zz
theorem yw9 {x:Nat} {s:ByteArray} (hs:s.size≤100) {m:Nat} (ih:yJ6 x s m) {w:O} {t u:Tk} {ts R:List Tk} {X:Ex} {deep:Nat} (hk:t.k=33) (hu:Un ts X) (hl:ts.length≤m) (hA:At w x s (t::ts) u R deep):
 C Z 102 #[Ψ (Θ ⟨x,0,Q⟩)] w (zH5 x s u R deep (.not X) w):=by
 obtain ⟨u1,T1,e,p,hu1⟩:=hA.first;have hdp:=hA.dp;have DN:Ω (∀W,Mod [] w W→_):=fun W m=>yn2 hs (p.mod m (ze)) hu1 (zc)
 have NO:Ω (∀W,PT W x s u1 T1 (deep+1)→_):=fun W q=>ih W ts X u R (deep+1) hl hu (hA.rest e q (Qa _))
 obtain ⟨a,b,-⟩:=p;obtain ⟨c0,c1,c2,c3,c4,c5,c6,c7⟩:=b.cells8p;have hxl:=b.lt;obtain ⟨tk,tn,ta⟩:=t;simp only at *;subst hk;have hdi:(deep:Int)≤190:=zc;clear b hA e hdp;obtain ⟨gk,hgk⟩:∃gk,w.heap.size=gk:=⟨_,rfl⟩;have hxk:¬x=gk:=zc;go_in;go_wp2_with fail;refine (DN.out _ (zg)).mono ?_;rintro e w1 ⟨rfl,p1,m1⟩;have P1:=o p1;have M1:=o (Mod.trans' (show Mod [x] w _ from zg) m1);clear p1 m1 c0 c1 c2 c3 c4 c5 c6 c7;go_wp2_with fail;refine (NO.out _ P1.out).mono ?_;rintro e w2 ⟨v,F,rfl,pv,p2,m2,hF⟩;obtain ⟨vT,vd,rfl⟩:=pv.iface;have PV2:=o pv;have M2:=o (M1.out.trans' m2);have HF:Ω (∀k∈F,w.heap.size≤k):=fun k hk=>vr
 obtain ⟨a2,b2,r2⟩:=p2;have B2:=o b2;have R2:=o r2;have hx2:=b2.lt;obtain ⟨gy,hgy⟩:∃gy,w2.heap.size=gy:=⟨_,rfl⟩;have hxy:¬x=gy:=zc;have hyx:¬gy=x:=zc;have BY:=Blk.new' w2 #[f vT vd] 261 gy hgy.symm;have B3:=b2.alloc (Δ #[f vT vd] 261);have M3:=M2.out.alloc (Δ #[f vT vd] 261);have N3:Ω (Mod [] w2 (w2.alloc (Δ #[f vT vd] 261))):=zX;clear pv m2 hF b2 r2 M2 P1 M1;go_upto_region 15 with fail;generalize w2.alloc (Δ #[f vT vd] 261)=w3 at *;obtain ⟨c0,c1,c2,c3,c4,c5,c6,c7⟩:=B3.cells8p;have f5:=B3.froz 5;have hx3:=B3.lt;have hy3:=BY.lt;have y0:=BY.cell 0;simp only [List.getElem?_toArray,List.getElem?_cons_zero] at y0;have B4:=B3.set 5 (U J deep);simp only [Φ,φ,τ] at B4;have BB:=o B4;have MM:Ω (Mod [x] w (w3.setCell ⟨x,5,Q⟩ (U J deep))):=M3.setCell _ _ (ze);have NN:Ω (Mod [x] w2 (w3.setCell ⟨x,5,Q⟩ (U J deep))):=(N3.out.mono (ze)).setCell _ _ (ze);have ed:((deep+1:Nat):Int) - 1=deep:=zc;clear B3 B4 BY M3;go_wp2_with fail;go_ret;exact ⟨_,F,rfl,⟨f vT vd,rfl,PV2.out.mod NN.out (fun k hk q=>vu)⟩,⟨a2,BB.out,R2.out⟩,MM.out,HF.out⟩
open Go.RowKit
def zc2 (l:List Nat):Nat:=l.foldl (fun m v=>m ||| 2 ^ v) 0
def exV:Ex→Nat
 | .con _=>0
 | .var v=>2 ^ v
 | .not x=>exV x
 | .bin _ a b=>exV a ||| exV b
 | .bnd _ l x=>exV x ||| zc2 l
theorem zG6:∀(l:List Nat) (m i:Nat),(l.foldl (fun m v=>m ||| 2 ^ v) m).testBit i=(m.testBit i || decide (i∈l))
 | [],m,i=>ze
 | v::l,m,i=>by
  rw [List.foldl_cons,zG6 l,Nat.testBit_or,Nat.testBit_two_pow,Bool.or_assoc]
  congr 1
  by_cases h:v=i
  ·subst h;simp
  ·have h':¬i=v:=fun e=>h e.symm
   simp [h,h']
theorem zi9 (l:List Nat) (i:Nat):(zc2 l).testBit i=decide (i∈l):=by unfold zc2;rw [zG6];simp
theorem zh2 {l:List Nat} {n:Nat} (h:∀v∈l,v < n):zc2 l < 2 ^ n:=Nat.lt_pow_two_of_testBit _ fun i hi=>by
 rw [zi9];exact decide_eq_false fun q=>by have:=h i q;omega
theorem zl0 {n:Nat}:∀{x:Ex},zt4 n x→exV x < 2 ^ n
 | .con _,_=>Nat.two_pow_pos n
 | .var v,h=>ι (zc) h
 | .not x,h=>zl0 (x:=x) h
 | .bin _ a b,h=>γ (zl0 h.1) (zl0 h.2)
 | .bnd _ l x,h=>γ (zl0 h.2) (zh2 h.1)
theorem zX0 (l:List Nat) (k:Nat) (hk:k < l.length):zc2 (l.take (k+1))=zc2 (l.take k) ||| 2 ^ l[k]:=by
 unfold zc2;rw [ψ hk,β];rfl
theorem zs1 {n:Nat} (hn:n≤16) {x:Ex} (h:zt4 n x):exV x < 65536:=θ (zl0 h) (Nat.pow_le_pow_right (n:=2) (j:=16) (zc) hn)
def zc8:Ex→Prop
 | .con _=>True
 | .var _=>True
 | .not x=>zc8 x
 | .bin op a b=>op < 256∧zc8 a∧zc8 b
 | .bnd _ l x=>l.length≤200∧zc8 x
def zh1:Ex→Nat
 | .con _=>313
 | .var _=>322
 | .not _=>330
 | .bin .. =>289
 | .bnd .. =>336
def zm9 (X:Ex):Prop:=∀(w:O) (T:Nat) (d:χ) (F:List Nat),PV w X (f T d) F→C Z (zh1 X) #[d] w fun e w'=>e=K (U η (exV X:Nat))∧Mod [] w w'
theorem zP6 {v:Nat} (hv:v < 16):IntKind.u16.wrap (2 ^ v)=((2 ^ v:Nat):Int):=by
 have hp:2 ^ v < 65536:=by have:=ι (a:=2) (zc) hv;exact this
 rw [show ((2:Int) ^ v)=((2 ^ v:Nat):Int) from ze];generalize 2 ^ v=z at *;exact IntWalk.u16_in _ (zc)
theorem yd2 (b:Bool):zm9 (.con b):=by
 intro w T d F h;obtain ⟨rfl,rfl⟩:=I h;show C Z 313 _ _ _;go_in;go_wp2_with fail;go_ret;exact ⟨rfl,Mod.refl _ _⟩
theorem yi1 {v:Nat} (hv:v < 16):zm9 (.var v):=by
 intro w T d F h;obtain ⟨rfl,rfl⟩:=I h;have E:=zP6 hv;have hv':(v:Int) < 16:=zc;show C Z 322 _ _ fun e w'=>e=K (U η ((2 ^ v:Nat):Int))∧Mod [] w w'
 generalize hz:2 ^ v=z at *;go_in;go_wp2_with fail;go_ret;exact ⟨rfl,Mod.refl _ _⟩
theorem zk1 {X:Ex} {w:O} {T:Nat} {d:χ} {F:List Nat} (h:PV w X (f T d) F) (W:O):(method 532 T d "ramage/expr.vars").run Z W=.ok (zh1 X,d) W:=by
 cases X with
 | con b=>obtain ⟨rfl,rfl⟩:=I h;kernel_rfl
 | var n=>obtain ⟨rfl,rfl⟩:=I h;kernel_rfl
 | not X=>obtain ⟨u,e,_⟩:=h;obtain ⟨rfl,rfl⟩:=I e;kernel_rfl
 | bin op a b=>obtain ⟨u,u',e,_⟩:=h;obtain ⟨rfl,rfl⟩:=I e;kernel_rfl
 | bnd each l X=>obtain ⟨s,u,Fs,e,_⟩:=h;obtain ⟨rfl,rfl⟩:=I e;kernel_rfl
theorem zm0 (X:Ex) (args:Array χ) (W:O):(callFunc (zh1 X) args).run Z W=.ok (.enter (zh1 X) args) W:=by cases X<;>kernel_rfl
theorem zP2 {w:O} {each:Bool} {s u:χ} {l:List Nat} {F:List Nat} (h:Rv w s (l.map ei) F) (hl:∀v∈l,v < 16) (hll:l.length≤200):
 C Z 339 #[Qg #[ρ each,s,u]] w fun e w'=>e=K (U η (zc2 l:Nat))∧Mod [] w w':=by
 obtain ⟨A,cap,rfl,hcap⟩:=h.shape;rw [Qc] at hcap h ⊢;have H:=o h;have ML:Ω (∀k,zc2 (l.take k) < 65536):=fun k=>zh2 (n:=16) fun v hv=>hl v (List.mem_of_mem_take hv)
 have MS:Ω (∀k,(hk:k < l.length)→zc2 (l.take (k+1))=zc2 (l.take k) ||| 2 ^ l[k]):=fun k hk=>zX0 l k hk
 have M0:Ω (zc2 (l.take 0)=0):=rfl;have HL:=o hl;obtain ⟨n,hn⟩:∃n,l.length=n:=⟨_,rfl⟩;have MZ:Ω (zc2 l=zc2 (l.take n)):=by show _=_;rw [ε (zc)]
 have HN:=o hn;rw [MZ.out];rw [hn] at hcap H hll ⊢;generalize hmf:(fun k=>zc2 (l.take k))=mf at *;have e0:∀k,zc2 (l.take k)=mf k:=fun k=>by rw [←hmf]
 simp only [e0] at ML MS M0 ⊢;clear e0 hmf h hl hn MZ;obtain ⟨gk,hgk⟩:∃gk,w.heap.size=gk:=⟨_,rfl⟩;have BX:=Blk.new' w #[ρ each,Ξ A n cap,u] 282 gk hgk.symm;have MX:Ω (Mod [] w (w.alloc (Δ #[ρ each,Ξ A n cap,u] 282))):=zg;have hn':(n:Int)≤200:=zc;go_in;go_upto_region 1 with fail;generalize w.alloc (Δ #[ρ each,Ξ A n cap,u] 282)=w0 at *;obtain ⟨c0,c1,c2⟩:=BX.cells3;have hbl:=BX.lt;clear BX hgk;go_wp2_with fail
 go_loopw [3,9] (fun m i wr=>∃k:Nat,k≤n∧m=U η (mf k:Nat)∧i=U J k∧wr=w0) (fun _ i _=>n - (intOf i).toNat)
 case atStart=>exact ⟨0,zc,by rw [M0.out];rfl,rfl,rfl⟩
 case round=>
  obtain ⟨k,hk,rfl,rfl,hw⟩:=hrel;subst hw;by_cases hlt:k < n
  ·have hlt':(k:Int) < n:=zc;have hkl:k < l.length:=zQ;obtain ⟨b,off,rfl,d0⟩:=H.out.at k (by rw [Qc];exact hkl);rw [List.getElem_map] at d0;have hb0:=World.block_lt_of_cell? w _ d0;simp only at hb0;have d1:=(MX.out.cell (a:=⟨b,off+k,Q⟩) hb0 (ze)).trans d0;have hb1:=World.block_lt_of_cell? wr _ d1;simp only at hb1;have hv:=HL.out _ (Qb hkl);have S1:=MS.out k hkl;clear d0 hb0;generalize l[k]=v at *;unfold ei at d1;have E:=zP6 hv;have hz:2 ^ v < 65536:=(show 2 ^ v < 2 ^ 16 from ι (zc) hv);have OR:=u16_or_nat (mf k) (2 ^ v) (ML.out k) hz;rw [←S1] at OR;clear S1;have hv':(v:Int) < 16:=zc;obtain ⟨mk,hmk⟩:∃x,mf k=x:=⟨_,rfl⟩;obtain ⟨mk2,hmk2⟩:∃x,mf (k+1)=x:=⟨_,rfl⟩;rw [hmk,hmk2] at OR;rw [hmk];have HM2:=o hmk2;generalize (2:Nat) ^ v=z at *;clear hz hmk hmk2;go_wp2_with fail;go_roundw
   case rel=>exact ⟨k+1,zc,by rw [HM2.out],by go_num,zp⟩
   case measure=>simp [intOf];omega
  ·obtain rfl:k=n:=zc;go_wp2_with fail;go_ret;exact ⟨rfl,MX.out⟩
theorem yl4 {X:Ex} (ih:zm9 X):zm9 (.not X):=by
 intro w T d F h;obtain ⟨u,e,hu⟩:=h;obtain ⟨rfl,rfl⟩:=I e;obtain ⟨T,d,rfl⟩:=hu.iface;have IH:Ω (∀W,Mod [] w W→C Z (zh1 X) #[d] W fun e w'=>e=K (U η (exV X:Nat))∧Mod [] w w'):=fun W m=>(ih W T d F (hu.mod m (ze))).mono (zT)
 have MT:=zk1 hu;have CF:=zm0 X;clear hu;show C Z 330 _ _ fun e w'=>e=K (U η (exV X:Nat))∧Mod [] w w'
 generalize zh1 X=fx at *;generalize exV X=vx at *;obtain ⟨gk,hgk⟩:∃gk,w.heap.size=gk:=⟨_,rfl⟩;go_in;go_wp2_with fail;refine (IH.out _ (zg)).mono ?_;rintro e w1 ⟨rfl,m1⟩;have M1:=o m1;clear m1;go_wp2_with fail;go_ret;exact ⟨rfl,M1.out⟩
theorem yf3 {op:Nat} {X Y:Ex} (iha:zm9 X) (ihb:zm9 Y) (ha:exV X < 65536) (hb:exV Y < 65536):zm9 (.bin op X Y):=by
 intro w T d F h;obtain ⟨u,u',e,hu,hu'⟩:=h;obtain ⟨rfl,rfl⟩:=I e;obtain ⟨T,d,rfl⟩:=hu.iface;obtain ⟨T',d',rfl⟩:=hu'.iface;obtain ⟨gk,hgk⟩:∃gk,w.heap.size=gk:=⟨_,rfl⟩;have BX:=Blk.new' w #[U δ (op:Nat),f T d,f T' d'] 222 gk hgk.symm;have M0:Ω (Mod [] w (w.alloc (Δ #[U δ (op:Nat),f T d,f T' d'] 222))):=zg;have IA:Ω (∀W,Mod [] w W→C Z (zh1 X) #[d] W fun e w'=>e=K (U η (exV X:Nat))∧Mod [] W w'):=fun W m=>iha W T d F (hu.mod m (ze))
 have IB:Ω (∀W,Mod [] w W→C Z (zh1 Y) #[d'] W fun e w'=>e=K (U η (exV Y:Nat))∧Mod [] W w'):=fun W m=>ihb W T' d' F (hu'.mod m (ze))
 have MA:=zk1 hu;have MB:=zk1 hu';have CA:=zm0 X;have CB:=zm0 Y;have OR:=u16_or_nat (exV X) (exV Y) ha hb;clear hu hu' iha ihb;show C Z 289 _ _ fun e w'=>e=K (U η ((exV X ||| exV Y:Nat):Int))∧Mod [] w w'
 generalize zh1 X=fx at *;generalize zh1 Y=fy at *;generalize exV X ||| exV Y=vz at *;generalize exV X=vx at *;generalize exV Y=vy at *;go_in;go_upto_region 1 with fail;generalize w.alloc (Δ #[U δ (op:Nat),f T d,f T' d'] 222)=w0 at *;obtain ⟨c0,c1,c2⟩:=BX.cells3;have hbl:=BX.lt;clear BX hgk;have IA2:Ω (∀W,Mod [] w0 W→C Z fx #[d] W fun e w'=>e=K (U η (vx:Nat))∧Mod [] w0 w'):=fun W m=>(IA.out W (M0.out.trans' m)).mono (zT)
 have IB2:Ω (∀W,Mod [] w0 W→C Z fy #[d'] W fun e w'=>e=K (U η (vy:Nat))∧Mod [] w0 w'):=fun W m=>(IB.out W (M0.out.trans' m)).mono (zT)
 have JC:Ω (∀W,Mod [] w0 W→W.cell? ⟨gk,1,Q⟩=Θ (f T d)∧W.cell? ⟨gk,2,Q⟩=Θ (f T' d')):=fun W m=>⟨(m.cell (a:=⟨gk,1,Q⟩) hbl (ze)).trans c1,(m.cell (a:=⟨gk,2,Q⟩) hbl (ze)).trans c2⟩
 go_wp2_with fail
 go_region_held3 (fun w'=>Mod [] w0 w'∧w'.cell? ⟨gk,1,Q⟩=Θ (f T d)∧w'.cell? ⟨gk,2,Q⟩=Θ (f T' d')) (first | (refine ⟨yx,?_⟩;go_keep) | go_keep) (first | (with_reducible refine (IA2.out _ (zy)).mono ?_;rintro e' w2 ⟨rfl,m2⟩;obtain ⟨c1,c2⟩:=JC.out w2 m2) | (with_reducible refine (IB2.out _ (zy)).mono ?_;rintro e' w3 ⟨rfl,m3⟩;obtain ⟨c1,c2⟩:=JC.out w3 m3))
 go_wp2_with fail;go_ret;exact ⟨rfl,M0.out.trans' m3⟩
theorem yg4 {each:Bool} {l:List Nat} {X:Ex} (ih:zm9 X) (ha:exV X < 65536) (hl:∀v∈l,v < 16) (hll:l.length≤200):zm9 (.bnd each l X):=by
 intro w T d F h;obtain ⟨s,u,Fs,e,hs,hF,hu⟩:=h;obtain ⟨rfl,rfl⟩:=I e;obtain ⟨T,d,rfl⟩:=hu.iface;obtain ⟨gk,hgk⟩:∃gk,w.heap.size=gk:=⟨_,rfl⟩;have BX:=Blk.new' w #[ρ each,s,f T d] 282 gk hgk.symm;have M0:Ω (Mod [] w (w.alloc (Δ #[ρ each,s,f T d] 282))):=zg;have IA:Ω (∀W,Mod [] w W→C Z (zh1 X) #[d] W fun e w'=>e=K (U η (exV X:Nat))∧Mod [] W w'):=fun W m=>ih W T d F (hu.mod m (ze))
 have IB:Ω (∀W,Mod [] w W→C Z 339 #[Qg #[ρ each,s,f T d]] W fun e w'=>e=K (U η (zc2 l:Nat))∧Mod [] W w'):=fun W m=>zP2 (hs.mod m (ze)) hl hll
 have MA:=zk1 hu;have CA:=zm0 X;have OR:=u16_or_nat (exV X) (zc2 l) ha (zh2 (n:=16) hl);obtain ⟨A,cap,rfl,-⟩:=hs.shape;clear hu hs ih;show C Z 336 _ _ fun e w'=>e=K (U η ((exV X ||| zc2 l:Nat):Int))∧Mod [] w w'
 generalize zh1 X=fx at *;generalize exV X ||| zc2 l=vz at *;generalize exV X=vx at *;generalize zc2 l=vy at *;generalize (l.map ei).length=ln at *;go_in;go_upto_region 1 with fail;generalize w.alloc (Δ #[ρ each,Ξ A ln cap,f T d] 282)=w0 at *;obtain ⟨c0,c1,c2⟩:=BX.cells3;have hbl:=BX.lt;clear BX hgk;have IA2:Ω (∀W,Mod [] w0 W→C Z fx #[d] W fun e w'=>e=K (U η (vx:Nat))∧Mod [] w0 w'):=fun W m=>(IA.out W (M0.out.trans' m)).mono (zT)
 have IB2:Ω (∀W,Mod [] w0 W→C Z 339 #[Qg #[ρ each,Ξ A ln cap,f T d]] W fun e w'=>e=K (U η (vy:Nat))∧Mod [] w0 w'):=fun W m=>(IB.out W (M0.out.trans' m)).mono (zT)
 have JC:Ω (∀W,Mod [] w0 W→W.cell? ⟨gk,0,Q⟩=Θ (ρ each)∧W.cell? ⟨gk,1,Q⟩=Θ (Ξ A ln cap)∧W.cell? ⟨gk,2,Q⟩=Θ (f T d)):=fun W m=>⟨(m.cell (a:=⟨gk,0,Q⟩) hbl (ze)).trans c0,(m.cell (a:=⟨gk,1,Q⟩) hbl (ze)).trans c1,(m.cell (a:=⟨gk,2,Q⟩) hbl (ze)).trans c2⟩
 go_wp2_with fail
 go_region_held3 (fun w'=>Mod [] w0 w'∧w'.cell? ⟨gk,0,Q⟩=Θ (ρ each)∧w'.cell? ⟨gk,1,Q⟩=Θ (Ξ A ln cap)∧w'.cell? ⟨gk,2,Q⟩=Θ (f T d)) (first | (refine ⟨yx,?_⟩;go_keep) | go_keep) (first | (go_at_call 339;with_reducible refine (IB2.out _ (zy)).mono ?_;rintro e' w3 ⟨rfl,m3⟩;obtain ⟨c0,c1,c2⟩:=JC.out w3 m3) | (with_reducible refine (IA2.out _ (zy)).mono ?_;rintro e' w2 ⟨rfl,m2⟩;obtain ⟨c0,c1,c2⟩:=JC.out w2 m2))
 go_wp2_with fail;go_ret;exact ⟨rfl,M0.out.trans' m3⟩
theorem zw9 {n:Nat} (hn:n≤16):∀{X:Ex},zt4 n X→zc8 X→zm9 X
 | .con b,_,_=>yd2 b
 | .var v,h,_=>yi1 (θ h hn)
 | .not X,h,hl=>yl4 (zw9 hn (X:=X) h hl)
 | .bin op X Y,h,hl=>yf3 (zw9 hn h.1 hl.2.1) (zw9 hn h.2 hl.2.2) (zs1 hn h.1) (zs1 hn h.2)
 | .bnd each l X,h,hl=>yg4 (zw9 hn h.2 hl.2) (zs1 hn h.2) (fun v hv=>θ (h.1 v hv) hn) hl.1
open Go.RowKit
theorem yt2 {x:Nat} {s:ByteArray} (hs:s.size≤100) {m:Nat} (ih:yC4 x s m 1) {w:O} {t t' u:Tk} {ts R:List Tk} {X:Ex} {deep:Nat} (hk:t.k=40) (hk':t'.k=41) (hu:Fl 1 ts X) (hl:ts.length≤m) (hA:At w x s (t::(ts++[t'])) u R deep):
 C Z 102 #[Ψ (Θ ⟨x,0,Q⟩)] w (zH5 x s u R deep X w):=by
 obtain ⟨u1,T1,e,p,hu1⟩:=hA.first;have hdp:=hA.dp;simp only [ζ,κ,List.length_nil] at hdp;have hou:u.k≠98:=hA.ok u (ze);rw [σ,B,Qd] at e;have DN:Ω (∀W,Mod [] w W→_):=fun W m=>yn2 hs (p.mod m (ze)) hu1 (zc)
 have LV:Ω (∀W,PT W x s u1 T1 (deep+1)→C Z 61 #[Ψ (Θ ⟨x,0,Q⟩),U J 1] W (zH5 x s t' (u::R) (deep+1) X W)):=fun W q=>ih W ts X t' (u::R) (deep+1) hl hu (by rw [hk'];decide) ⟨⟨u1,T1,e,q⟩,fun v hv=>hA.ok v (by rw [B,σ];exact ω _ hv),zc⟩
 have WT:Ω (∀W,PT W x s t' (u::R) (deep+1)→C Z 62 #[Ψ (Θ ⟨x,0,Q⟩),U δ 41] W (ToT x s u R (deep+1) W)):=fun W q=>yo1 hs q hou 41 hk'
 obtain ⟨a,b,-⟩:=p;obtain ⟨c0,c1,c2,c3,c4,c5,c6,c7⟩:=b.cells8p;have hxl:=b.lt;obtain ⟨tk,tn,ta⟩:=t;simp only at *;subst hk;have hdi:(deep:Int)≤190:=zc;clear b hA e hdp hou;obtain ⟨gk,hgk⟩:∃gk,w.heap.size=gk:=⟨_,rfl⟩;have hxk:¬x=gk:=zc;go_in;go_wp2_with fail;refine (DN.out _ (zg)).mono ?_;rintro e w1 ⟨rfl,p1,m1⟩;have P1:=o p1;have M1:=o (Mod.trans' (show Mod [x] w _ from zg) m1);clear p1 m1 c0 c1 c2 c3 c4 c5 c6 c7;go_wp2_with fail;refine (LV.out _ P1.out).mono ?_;rintro e w2 ⟨v,F,rfl,pv,p2,m2,hF⟩;obtain ⟨vT,vd,rfl⟩:=pv.iface;have PV2:=o pv;have P2:=o p2;have M2:=o (M1.out.trans' m2);have HF:Ω (∀k∈F,w.heap.size≤k):=fun k hk=>vr
 clear pv p2 m2 hF P1 M1;go_wp2_with fail;refine (WT.out _ P2.out).mono ?_;rintro e w3 ⟨rfl,p3,m3⟩;have M3:=o (M2.out.trans' m3);obtain ⟨a3,b3,r3⟩:=p3;have R3:=o r3;have B4:=b3.set 5 (U J deep);simp only [Φ,φ,τ] at B4;have BB:=o B4;obtain ⟨c0,c1,c2,c3,c4,c5,c6,c7⟩:=b3.cells8p;have f5:=b3.froz 5;have hx3:=b3.lt;have NN:Ω (Mod [x] w2 (w3.setCell ⟨x,5,Q⟩ (U J deep))):=m3.setCell _ _ (ze);have MM:Ω (Mod [x] w (w3.setCell ⟨x,5,Q⟩ (U J deep))):=M3.out.setCell _ _ (ze);have ed:((deep+1:Nat):Int) - 1=deep:=zc;clear b3 r3 B4 m3;go_wp2_with fail;go_ret;exact ⟨_,F,rfl,PV2.out.mod NN.out (fun k hk q=>vu),⟨a3,BB.out,R3.out⟩,MM.out,HF.out⟩
theorem ZA {p:Prop} (h:p:=by
 go_in;go_wp2_with fail;refine (BN.out _ (zg)).mono ?_;rintro e w2 ⟨v',F,rfl,pv,p2,m2,hF⟩;go_wp2_with fail;go_ret
 exact ⟨_,F,rfl,pv,p2,m2,hF⟩):p:=h
theorem yt6 {x:Nat} {s:ByteArray} {m:Nat} (ih:BndC x s m) {w:O} {t v d u:Tk} {vs ts R:List Tk} {X:Ex} {deep:Nat} (hk:t.k=115∨t.k=101) (hv:v.k=118) (hvs:∀u∈vs,u.k=118) (hd:d.k=46) (hu:Un ts X) (hl:ts.length≤m) (hA:At w x s (t::v::(vs++d::ts)) u R deep):
 C Z 102 #[Ψ (Θ ⟨x,0,Q⟩)] w (zH5 x s u R deep (.bnd (decide (t.k=101)) (v.n::vs.map Tk.n) X) w):=by
 obtain ⟨u1,T1,e,p,hu1⟩:=hA.first
 have BN:Ω (∀W,Mod [] w W→C Z 140 #[Ψ (Θ ⟨x,0,Q⟩),ρ (decide (t.k=101))] W (zH5 x s u R deep (.bnd (decide (t.k=101)) (v.n::vs.map Tk.n) X) w)):=fun W m=>(ih W (decide (t.k=101)) t v vs d ts X u R deep hl hv hvs hd hu ⟨by obtain ⟨t',T,e',p'⟩:=hA.pt;exact ⟨t',T,e',p'.mod m (ze)⟩,hA.ok,hA.dp⟩).mono (by
  rintro e w' ⟨v',F,rfl,pv,p',m',hF⟩
  exact ⟨v',F,rfl,pv,p',(m.mono (ze)).trans' m',fun k hk=>by have:=hF k hk;have:=m.size;omega⟩)
 obtain ⟨a,b,-⟩:=p;obtain ⟨c0,c1,c2,c3,c4,c5,c6,c7⟩:=b.cells8p;have hxl:=b.lt;obtain ⟨tk,tn,ta⟩:=t;simp only at *;clear b hA e;obtain ⟨gk,hgk⟩:∃gk,w.heap.size=gk:=⟨_,rfl⟩;have hxk:¬x=gk:=zc;rcases hk with rfl | rfl
 ·simp only [Nat.reduceEqDiff,decide_false] at BN ⊢;generalize Ex.bnd false (v.n::vs.map Tk.n) X=Y at *;exact ZA
 ·simp only [decide_true] at BN ⊢;generalize Ex.bnd true (v.n::vs.map Tk.n) X=Y at *;exact ZA
open Go.RowKit
def yM1 (g:Nat) (w:O):Nat:=match w.cell? ⟨g,1,Q⟩ with | some (Ξ _ n _)=>n | _=>0
theorem zD9 {w:O} {g:Nat} {t:TypeId} {c0 c2:χ} {A:Option Addr} {n cap:Nat} (h:Blk w g #[c0,Ξ A n cap,c2] t):yM1 g w=n:=by
 unfold yM1;rw [show w.cell? ⟨g,1,Q⟩=Θ (Ξ A n cap) from h.cell 1]
theorem yA1 {x:Nat} {s:ByteArray} (hs:s.size≤100) {m:Nat} (ih:yJ6 x s m):BndC x s m:=by
 intro w each t v vs d ts X u R deep hl hv hvs hd hu hA;obtain ⟨i0,hi,hz0,hz1,hz2⟩:=info_parts Tryz.info3;obtain ⟨u1,T1,e,p,hu1⟩:=hA.first;have hdp:=hA.dp;simp only [ζ,κ] at hdp;have hne:=hu.ne;obtain ⟨V,hV⟩:∃V,v::vs=V:=⟨_,rfl⟩
 have hVk:Ω (∀t∈V,t.k=118):=by
  show ∀t∈V,t.k=118;rw [←hV];intro t ht;rcases Qf.1 ht with rfl | ht
  ·exact hv
  ·exact hvs t ht
 have hVl:V.length=vs.length+1:=by rw [←hV];rfl
 have eN:v.n::vs.map Tk.n=V.map Tk.n:=by rw [←hV];rfl
 rw [eN];have eA:v::(vs++d::ts)++u::R=V++(d::(ts++u::R)):=by rw [←hV];simp
 rw [eA] at e;have HOK:Ω (∀t∈V++(d::(ts++u::R)),t.k≠98):=fun q hq=>hA.ok q (by rw [B,eA];exact ω _ hq)
 have hV100:V.length≤190:=zc;have ST:Ω (∀W,Mod [] w W→_):=fun W m=>zH8 hs (p.mod m (ze)) hu1
 have SS:Ω (∀W a b T,b.k≠98→PT W x s a (b::T) (deep+1)→_):=fun W a b T h q=>zH8 hs q h
 have WT:Ω (∀W b T,b.k≠98→PT W x s d (b::T) (deep+1)→C Z 62 #[Ψ (Θ ⟨x,0,Q⟩),U δ 46] W (ToT x s b T (deep+1) W)):=fun W b T h q=>yo1 hs q h 46 hd
 have NO:Ω (∀W b T,ts++u::R=b::T→PT W x s b T (deep+1)→_):=fun W b T e q=>ih W ts X u R (deep+1) hl hu ⟨⟨b,T,e,q⟩,fun r hr=>HOK.out r (by simp at hr ⊢;rcases hr with h | h | h<;>simp [h]),zc⟩
 have HD:Ω (d.k=46):=hd;have hxl:=p.lt;have hdi:(deep:Int)≤190:=zc;have HE:=o e;clear hu1 hA hdp hu hne hv hvs hd hV eN eA hl e p;go_in;go_wp2_with fail;refine (ST.out _ (Mod.refl _ _)).mono ?_;rintro e w1 ⟨rfl,p1,m1⟩;obtain ⟨a1,b1,r1⟩:=p1;have B2:=b1.set 5 (U J ((deep:Int)+1));simp only [Φ,φ,τ] at B2;obtain ⟨c0,c1,c2,c3,c4,c5,c6,c7⟩:=b1.cells8p;have f5:=b1.froz 5;have hx1:=b1.lt
 have hk1:u1.k=118:=by
  have:=HE.out
  match V,hVl,this with
  | a::V',_,e=>rw [B] at e;obtain ⟨rfl,-⟩:=Γ e;exact hVk.out _ (ze)
 rw [hk1] at B2 c2;have M1:=o m1;obtain ⟨gc,hgc⟩:∃gc,(w1.setCell ⟨x,5,Q⟩ (U J ((deep:Int)+1))).heap.size=gc:=⟨_,rfl⟩;have hxg:¬x=gc:=by have:=B2.lt;omega
 have hgx:¬gc=x:=fun h=>hxg h.symm
 have BC3:=Blk.new' (w1.setCell ⟨x,5,Q⟩ (U J ((deep:Int)+1))) #[ρ each,Ξ Q 0 0,.nilIface] 282 gc hgc.symm;have B3:=B2.alloc (Δ #[ρ each,Ξ Q 0 0,.nilIface] 282);have M3:Ω (Mod [x] w ((w1.setCell ⟨x,5,Q⟩ (U J ((deep:Int)+1))).alloc (Δ #[ρ each,Ξ Q 0 0,.nilIface] 282))):=(M1.out.setCell _ _ (ze)).alloc _;have hwg:w.heap.size≤gc:=by have:=M1.out.size;rw [←hgc];simpa [World.setCell] using this
 have R1:=o r1;clear b1 r1 B2 m1 M1;go_upto_region 4 with fail;generalize (w1.setCell ⟨x,5,Q⟩ (U J ((deep:Int)+1))).alloc (Δ #[ρ each,Ξ Q 0 0,.nilIface] 282)=w3 at *;have PC:=o BC3;have PX:=o B3;clear c0 c1 c2 c3 c4 c5 c6 c7 f5 hx1 BC3 hgc;obtain ⟨c0,c1,c2,c3,c4,c5,c6,c7⟩:=B3.cells8p;have hx3:=B3.lt;clear B3;go_wp2_with fail
 go_loopw [37] (fun _ wr=>∃(j cap:Nat) (u':Tk) (T':List Tk) (A:Option Addr) (Fs:List Nat),j≤V.length∧Ω (V.drop j++(d::(ts++u::R))=u'::T')∧Ω (PT wr x s u' T' (deep+1))∧Ω (Blk wr gc #[ρ each,Ξ A j cap,.nilIface] 282)∧Ω (Sl wr 3 1 (Ξ A j cap) j (((V.take j).map Tk.n).map ei) Fs)∧Ω (gc∉Fs∧∀k∈Fs,w.heap.size≤k)∧Ω (Mod [x] w wr)) (fun _ wr=>V.length - yM1 gc wr)
 case atStart=>exact ⟨0,0,u1,T1,Q,[],zc,HE,⟨a1,by rw [hk1];exact PX.out,R1.out⟩,PC,Sl.nil _ _ _,⟨ze,ze⟩,M3⟩
 case round=>
  obtain ⟨j,cap,u',T',A,Fs,hj,HEJ,HP,HC,HS,HF,HM⟩:=hrel;obtain ⟨a',b',r'⟩:=HP.out;obtain ⟨c0,c1,c2,c3,c4,c5,c6,c7⟩:=b'.cells8p;have hx':=b'.lt;obtain ⟨g0,g1,g2⟩:=HC.out.cells3;have hgl:=HC.out.lt;by_cases hlt:j < V.length
  ·have e0:V.drop j=V[j]::V.drop (j+1):=ξ hlt;have e1:=HEJ.out;rw [e0,B] at e1;obtain ⟨rfl,rfl⟩:=Γ e1;have hk':V[j].k=118:=hVk.out _ (Qb _);obtain ⟨u2,T2,e2⟩:∃u2 T2,V.drop (j+1)++(d::(ts++u::R))=u2::T2:=by cases V.drop (j+1)<;>simp
   have hok2:u2.k≠98:=HOK.out u2 (by
    have hm:u2∈V.drop (j+1)++(d::(ts++u::R)):=by rw [e2];simp
    rcases ν.1 hm with h | h
    ·exact π _ (List.mem_of_mem_drop h)
    ·exact G _ h)
   have TK:Ω ((V.take (j+1)).map Tk.n=(V.take j).map Tk.n++[V[j].n]):=by
    show _=_;rw [ψ hlt,Qe];rfl
   rw [hk'] at c2;have HE2:=o e2;clear e0 e1 e2 b';generalize V[j]=q at *;obtain ⟨qk,qn,qa⟩:=q;simp only at c2 c3 c4 TK;have hjm:j≤190:=zc;have hn16:(0:Int)≤qn:=zc;go_wp2_with fail;have hcl:=(HS.out.shape)
   go_region_law (first | (refine XT rfl _ _ 22 rfl 3 i0 (.int J 0) 1 8 Tryz.underlying22 hi hz0 hz1 hz2 rfl (zi) _ j (((V.take j).map Tk.n).map ei) Fs rfl (HS.out.mod (S:=[]) (zg) (ze)) ⟨_,0,Q⟩ 1 1 [.int J qn] (zi) rfl rfl (ji) (yi) (zx) (zc) ?_;intro v5 w5 F5 hs5 hm5 hf5;have MB:Mod Fs wr w5:=Mod.trans' (Mod.mono (show Mod [] wr _ from zg) (ze)) hm5;have BC5:=Blk.mod (HC.out.mod (S:=[]) (zg) (ze)) hm5 HF.out.1;obtain ⟨g0,g1,g2⟩:=BC5.cells3;have fz1:=BC5.froz 1;have hgl:=BC5.lt;obtain ⟨a5,cap5,rfl,_⟩:=hs5.shape))
   all_goals
    have hf6:∀k∈F5,k∈Fs∨wr.heap.size≤k:=fun k hk=>(hf5 k hk).imp id (fun h=>zG)
    have hgr:=HC.out.lt;have hxr:=HP.out.lt;have hwr:=HM.out.size;have BC6:=BC5.set 1 (Ξ a5 (j+1) cap5);simp only [Φ,φ,τ] at BC6;have M6:Mod [gc] w5 (w5.setCell ⟨gc,1,Q⟩ (Ξ a5 (j+1) cap5)):=(Mod.refl _ _).setCell _ _ (ze);have hxF:x∉Fs:=fun h=>by have:=HF.out.2 x h;omega
    have P6:=(HP.out.mod MB hxF).mod M6 (by simpa using hxg);have hgF5:gc∉F5:=fun h=>(hf6 gc h).elim HF.out.1 (fun h=>zc)
    have S6:=hs5.mod M6 (fun k hk q=>by simp at q;subst q;exact hgF5 hk);have hF5:∀k∈F5,w.heap.size≤k:=fun k hk=>(hf6 k hk).elim (HF.out.2 k) (fun h=>zc)
    have N6:Mod [x] w (w5.setCell ⟨gc,1,Q⟩ (Ξ a5 (j+1) cap5)):=(HM.out.trans MB (fun k hk h=>by have:=HF.out.2 k h;omega)).trans M6 (fun k hk h=>zG);rw [HE2.out] at P6;have XS:(((V.take j).map Tk.n).map ei++[U J (qn:Nat)])=((V.take (j+1)).map Tk.n).map ei:=by rw [TK.out,Qe];rfl
    rw [XS] at S6;have K6:=o (And.intro BC6 (And.intro S6 (And.intro hgF5 (And.intro hF5 N6))));have PP:=o P6;clear BC6 S6 N6 P6 M6 BC5 MB hs5 hm5 hf5 hf6 g0 g1 g2 fz1 XS c0 c1 c2 c3 c4 c5 c6 c7;generalize w5.setCell ⟨gc,1,Q⟩ (Ξ a5 (j+1) cap5)=w6 at *;go_wp2_with fail;refine (SS.out _ _ _ _ hok2 PP.out).mono ?_;rintro e w7 ⟨rfl,p7,m7⟩;have P7:=o p7;have BC7:=K6.out.1.mod m7 (by simpa using hgx);have S7:=K6.out.2.1.mod m7 (fun k hk q=>by simp at q;have:=K6.out.2.2.2.1 k hk;omega);have N7:=K6.out.2.2.2.2.trans' m7;go_wp2_with fail;exact ⟨⟨j+1,cap5,u2,T2,a5,F5,zc,HE2,P7,BC7,S7,⟨K6.out.2.2.1,K6.out.2.2.2.1⟩,N7⟩,by rw [zD9 BC7,zD9 HC.out];omega⟩
  ·obtain rfl:j=V.length:=zc;have e1:=HEJ.out;rw [List.drop_length,Qd] at e1;obtain ⟨rfl,rfl⟩:=Γ e1;obtain ⟨b,T,e2⟩:∃b T,ts++u::R=b::T:=by cases ts<;>simp
   have hokb:b.k≠98:=HOK.out b (G _ (ω _ (by rw [e2];simp)));have P0:=HP.out;rw [e2] at P0;have WTT:=o (WT.out wr b T hokb P0);have NOO:=o (fun W q=>NO.out W b T e2 q);have hkd:=HD.out;rw [hkd] at c2;have TKA:Ω ((V.take V.length).map Tk.n=V.map Tk.n):=by show _=_;rw [List.take_length]
   have hgr:=HC.out.lt;have hxr:=HP.out.lt;have hwr:=HM.out.size;have hxF:x∉Fs:=fun h=>by have:=HF.out.2 x h;omega
   obtain ⟨nv,hnv⟩:∃nv,V.length=nv:=⟨_,rfl⟩;have HNV:=o hnv;rw [hnv] at HS HC TKA
   try rw [hnv]
   clear hnv;clear e1 P0 WT NO SS HEJ b' r';go_wp2_with fail;refine WTT.out.mono ?_;rintro e w7 ⟨rfl,p7,m7⟩;have P7:=o p7;have M7:=o m7;clear p7 m7 c0 c1 c2 c3 c4 c5 c6 c7 g0 g1 g2;go_wp2_with fail;refine (NOO.out _ P7.out).mono ?_;rintro e w9 ⟨v',F,rfl,pv,p9,m9,hF⟩;obtain ⟨vT,vd,rfl⟩:=pv.iface;have PV9:=o pv;have M79:=o (M7.out.trans' m9);have B9:=HC.out.mod M79.out (by simpa using hgx);have S9:=o (HS.out.mod M79.out (fun k hk q=>by simp at q;subst q;exact hxF hk));have HFF:Ω (∀k∈F,wr.heap.size≤k):=fun k hk=>by have:=hF k hk;have:=M7.out.size;omega
   obtain ⟨a9,b9,r9⟩:=p9;have R9:=o r9;obtain ⟨c0,c1,c2,c3,c4,c5,c6,c7⟩:=b9.cells8p;have f5:=b9.froz 5;have hx9:=b9.lt;obtain ⟨g0,g1,g2⟩:=B9.cells3;have fz2:=B9.froz 2;have hg9:=B9.lt;have ed:((deep+1:Nat):Int) - 1=deep:=zc;have BX:=(b9.other ⟨gc,2,Q⟩ (f vT vd) hxg).set 5 (U J deep);have BG:=(B9.set 2 (f vT vd)).other ⟨x,5,Q⟩ (U J deep) hgx;simp only [Φ,φ,τ] at BX BG;have ML:Ω (Mod [x,gc] w9 ((w9.setCell ⟨gc,2,Q⟩ (f vT vd)).setCell ⟨x,5,Q⟩ (U J deep))):=zX;have BXX:=o BX;have MA:=o (HM.out.trans' M79.out);clear pv m9 hF b9 r9 B9;go_upto_region 14 with fail;generalize (w9.setCell ⟨gc,2,Q⟩ (f vT vd)).setCell ⟨x,5,Q⟩ (U J deep)=wz at *;clear c0 c1 c2 c3 c4 c5 c6 c7 f5 hx9 g0 g1 g2 fz2 hg9 BX;obtain ⟨g0,g1,g2⟩:=BG.cells3;have hgz:=BG.lt;clear BG;go_wp2_with fail;go_ret
   have hz:∀k∈Fs++F,k∉[x,gc]:=fun k hk q=>by
    simp at q;rcases ν.1 hk with h | h
    ·rcases q with rfl | rfl
     ·exact hxF h
     ·exact HF.out.1 h
    ·have:=HFF.out k h;omega
   refine ⟨_,Fs++F,rfl,⟨_,_,Fs,rfl,?_,fun k hk=>π _ hk,?_⟩,⟨a9,BXX.out,R9.out⟩,MA.out.trans ML.out (fun k hk h=>by
    simp only [Qf,List.not_mem_nil,or_false] at h;rcases h with h | h
    ·simp [h]
    ·omega),fun k hk=>?_⟩
   ·rw [←TKA.out];exact Rv.of_sl (S9.out.mod ML.out (fun k hk=>hz k (π _ hk))) (by have:=HNV.out;simp;omega)
   ·exact (PV9.out.mod ML.out (fun k hk=>hz k (G _ hk))).mono (fun k hk=>G _ hk)
   ·rcases ν.1 hk with h | h
    ·exact HF.out.2 k h
    ·have:=HFF.out k h;omega
open Go.RowKit
inductive GT (r:Nat):List Tk→List Ex→Prop
 | nil:GT r [] []
 | more {t:Tk} {ts tl:List Tk} {x:Ex} {l:List Ex}:Xg t.k=r→Fl (r+1) ts x→GT r tl l→GT r (t::(ts++tl)) (x::l)
theorem Gp.tail {r:Nat} {ts:List Tk} {l:List Ex} (h:Gp r ts l):∃ts1 tl x l',Fl (r+1) ts1 x∧l=x::l'∧ts=ts1++tl∧GT r tl l':=by
 induction h with
 | one u=>exact ⟨_,[],_,[],u,rfl,ze,.nil⟩
 | more u hr _ ih=>
  obtain ⟨ts1,tl,x,l',h1,rfl,rfl,h4⟩:=ih;exact ⟨_,_,_,_,u,rfl,rfl,.more hr h1 h4⟩
def PVs (w:O):List Ex→List χ→List Nat→Prop
 | [],[],_=>True
 | X::Xs,v::vs,F=>PV w X v F∧PVs w Xs vs F
 | _,_,_=>False
theorem PVs.len {w:O} {F:List Nat}:∀{Xs:List Ex} {vs:List χ},PVs w Xs vs F→vs.length=Xs.length
 | [],[],_=>rfl
 | _::_,_::_,h=>by simp [PVs.len h.2]
theorem PVs.mod {S:List Nat} {w w':O} {F:List Nat} (m:Mod S w w') (hd:∀k∈F,k∉S):∀{Xs:List Ex} {vs:List χ},PVs w Xs vs F→PVs w' Xs vs F
 | [],[],h=>h
 | _::_,_::_,h=>⟨h.1.mod m hd,PVs.mod m hd h.2⟩
theorem PVs.mono {w:O} {F F':List Nat} (hF:∀k∈F,k∈F'):∀{Xs:List Ex} {vs:List χ},PVs w Xs vs F→PVs w Xs vs F'
 | [],[],h=>h
 | _::_,_::_,h=>⟨h.1.mono hF,PVs.mono hF h.2⟩
theorem PVs.snoc {w:O} {F:List Nat} {X:Ex} {v:χ} (hv:PV w X v F):∀{Xs:List Ex} {vs:List χ},PVs w Xs vs F→PVs w (Xs++[X]) (vs++[v]) F
 | [],[],_=>⟨hv,trivial⟩
 | _::_,_::_,h=>⟨h.1,PVs.snoc hv h.2⟩
theorem PVs.at {w:O} {F:List Nat}:∀{Xs:List Ex} {vs:List χ} (i:Nat) (hi:i < Xs.length),PVs w Xs vs F→∃T d,vs[i]? =Θ (f T d)∧PV w Xs[i] (f T d) F
 | X::Xs,v::vs,0,_,h=>by obtain ⟨T,d,rfl⟩:=h.1.iface;exact ⟨T,d,rfl,h.1⟩
 | X::Xs,v::vs,i+1,hi,h=>by
  obtain ⟨T,d,e,p⟩:=PVs.at (Xs:=Xs) (vs:=vs) i (by simpa using hi) h.2;exact ⟨T,d,by simpa using e,by simpa using p⟩
theorem zJ0 (op:Nat) (x:Ex) (l:List Ex) (j:Nat) (hj:j < l.length):zw2 op (x::l.take (j+1))=.bin op (zw2 op (x::l.take j)) l[j]:=by
 rw [ψ hj];show List.foldl (fun a b=>Ex.bin op a b) x (l.take j++[l[j]])=_;rw [β];rfl
theorem zI6 (op:Nat) (l:List Ex) (j:Nat) (hj:j+1 < l.length):zi7 op (l.drop j)=.bin op l[j] (zi7 op (l.drop (j+1))):=by
 rw [ξ (show j < l.length from zc)];cases e:l.drop (j+1) with
 | nil=>have:=congrArg List.length e;simp at this;omega
 | cons y m=>rfl
theorem zO2 (op:Nat) (l:List Ex) (j:Nat) (hj:j+1=l.length):zi7 op (l.drop j)=l[j]:=by
 rw [ξ (show j < l.length from zc),List.drop_eq_nil_of_le (zc)];rfl
open Go.RowKit
theorem Fl.unit6 {ts:List Tk} {x:Ex} (h:Fl 6 ts x):Un ts x:=by
 generalize e:6=r at h;cases h with
 | unit u=>exact u
 | up h6 h0 u=>omega
 | left h0 h6 _ _ _ _=>omega
 | right _ _ _=>omega
theorem ya8 {x:Nat} {s:ByteArray} {m:Nat} (ih:yJ6 x s m):yC4 x s m 6:=by
 intro w ts X u R deep hl hf _ hA;have NO:=o (ih w ts X u R deep hl hf.unit6 hA);clear hA hf ih;go_in;go_wp2_with fail;refine (zS9 38 (zi) _).mono ?_;rintro e w1 ⟨z,rfl,rfl,hz⟩
 obtain rfl:z=5:=by
  rcases hz with h | ⟨h,-⟩
  ·exact h
  ·exact absurd h (zi)
 clear hz;go_wp2_with fail;refine NO.out.mono ?_;rintro e w2 ⟨v,F,rfl,h⟩;obtain ⟨vT,vd,rfl⟩:=h.1.iface;have H:=o h;clear h;go_wp2_with fail;go_ret;exact ⟨_,F,rfl,H.out⟩
open Go.RowKit
theorem Tryz.infoPart:(Tryz.prog.info? 163).map (fun i=>(i.zero,i.size,i.bytes))=Θ (Θ .nilIface,1,16):=by kernel_rfl
theorem PV.lt {w:O}:∀{X:Ex} {v:χ} {F:List Nat},PV w X v F→PV w X v (F.filter (fun k=>decide (k < w.heap.size)))
 | .con _,_,_,h=>h
 | .var _,_,_,h=>h
 | .not _,_,_,⟨u,e,h⟩=>⟨u,e,h.lt⟩
 | .bin _ _ _,_,_,⟨u,u',e,h,h'⟩=>⟨u,u',e,h.lt,h'.lt⟩
 | .bnd _ _ _,_,_,⟨s,u,_,e,r,hs,h⟩=>by
  obtain ⟨Fs',r',hf⟩:=r.lt;exact ⟨s,u,Fs',e,r',fun k hk=>μ.2 ⟨hs k (hf k hk).2,by simpa using (hf k hk).1⟩,h.lt⟩
def lenOf:χ→Nat | Ξ _ n _=>n | _=>0
structure LvS (w wr:O) (x:Nat) (s:ByteArray) (r:Nat) (u:Tk) (R:List Tk) (deep M:Nat) (L:List Ex) (v:χ) (N:Nat) (b:Tk) (T:List Tk) (tl:List Tk) (l:List Ex):Prop where
 gt:GT r tl l
 tk:tl++u::R=b::T
 pt:PT wr x s b T deep
 mod:Mod [x] w wr
 tln:tl.length+N≤M
 ok:∀t∈tl++u::R,t.k≠98
 val:∃(D:List Ex) (vs:List χ) (g cap:Nat) (F:List Nat),v=Ξ (Θ ⟨g,0,Q⟩) N cap∧D++l=L∧D.length=N∧0 < N∧PVs wr D vs F∧Sl wr 163 1 (Ξ (Θ ⟨g,0,Q⟩) N cap) N vs [g]∧g∉F∧w.heap.size≤g∧∀k∈F,w.heap.size≤k∧k < wr.heap.size
theorem GT.first {r:Nat} {tl:List Tk} {l:List Ex} {u:Tk} {R:List Tk} {b:Tk} {T:List Tk} (h:GT r tl l) (hu:Xg u.k < r) (e:tl++u::R=b::T):
 (Xg b.k < r∧tl=[]∧l=[]∧b=u∧T=R)∨(Xg b.k=r∧∃ts1 tl' X l',tl=b::(ts1++tl')∧l=X::l'∧Fl (r+1) ts1 X∧GT r tl' l'∧T=ts1++(tl'++u::R)):=by
 cases h with
 | nil=>
  obtain ⟨rfl,rfl⟩:=Γ e;exact .inl ⟨hu,rfl,rfl,rfl,rfl⟩
 | more h1 h2 h3=>
  rw [B,σ] at e;obtain ⟨rfl,rfl⟩:=Γ e;exact .inr ⟨h1,_,_,_,_,rfl,rfl,h2,h3,rfl⟩
open Go.RowKit
def yC6 (r:Nat):Nat:=[32,61,62,94,124,38].getD r 0
theorem yi7 (r:Nat) (hr:r < 6) (w:O):(Instr.index 9 (Qh ⟨#[32,61,62,94,124,38]⟩) (U J (r:Int))).run Z w=.ok (U δ (yC6 r:Nat)) w:=by
 rw [run_index_string (P:=Z) w 9 _ J _ Tryz.underlying9];have h:r=0∨r=1∨r=2∨r=3∨r=4∨r=5:=zc;rcases h with rfl | rfl | rfl | rfl | rfl | rfl<;>rfl
theorem yu3 {r:Nat} (h0:0 < r) (hr:r < 6):Xg (yC6 r)=r∧yC6 r < 256∧(yC6 r=62↔r=2):=by
 have h:r=1∨r=2∨r=3∨r=4∨r=5:=zc;rcases h with rfl | rfl | rfl | rfl | rfl<;>decide
theorem Fl.nz':∀n r ts x,6 - r≤n→Fl r ts x→ts≠[]:=by
 intro n
 induction n with
 | zero=>
  intro r ts x hn h;cases h with
  | unit u=>exact u.ne
  | up h6=>omega
  | left=>simp
  | right=>simp
 | succ n ih=>
  intro r ts x hn h;cases h with
  | unit u=>exact u.ne
  | up h6 _ u=>exact ih _ _ _ (zc) u
  | left=>simp
  | right=>simp
theorem Fl.nz {r:Nat} {ts:List Tk} {x:Ex} (h:Fl r ts x):ts≠[]:=Fl.nz' _ _ _ _ (Qa _) h
theorem zj3 (w:O) (c:Array χ) (t:TypeId):(w.alloc (Δ c t)).heap.size=w.heap.size+1:=by
 show (w.heap.push _).size=_;exact Array.size_push _
theorem PVs.lt {w:O} {F:List Nat}:∀{Xs:List Ex} {vs:List χ},PVs w Xs vs F→PVs w Xs vs (F.filter (fun k=>decide (k < w.heap.size)))
 | [],[],h=>h
 | _::_,_::_,h=>⟨h.1.lt,PVs.lt h.2⟩
theorem yz6 {x:Nat} {s:ByteArray} (hs:s.size≤100) {m r:Nat} (h0:0 < r) (h6:r < 6) (ih:yC4 x s m (r+1)):yC4 x s m r:=by
 intro w ts X u R deep hl hf hr hA;obtain ⟨i0,hi,hz0,hz1,hz2⟩:=info_parts Tryz.infoPart;obtain ⟨o1,o2,o3⟩:=yu3 h0 h6;obtain ⟨L,hg,hX⟩:=hf.groups h6 h0 (yC6 r) o1;obtain ⟨ts1,tl,x1,l0,f1,rfl,rfl,gt⟩:=hg.tail;obtain ⟨b,T,e⟩:∃b T,tl++u::R=b::T:=by cases tl<;>simp
 obtain ⟨t',T',e',p'⟩:=hA.pt;have hdp:=hA.dp;simp only [κ] at hdp hl;have hok:=hA.ok;rw [σ] at e' hok
 have KB:∀tl l b T,GT r tl l→tl++u::R=b::T→Xg b.k < r+1∧b.k < 256:=fun tl l b T g e=>by
  rcases g.first hr.1 e with ⟨h,-,-,rfl,-⟩ | ⟨h,-⟩
  ·exact ⟨zc,hr.2⟩
  ·have:=YR b.k (zc);exact ⟨zc,zc⟩
 have LV:Ω (∀W ts2 X2 b2 T2,ts2.length≤m→Fl (r+1) ts2 X2→Xg b2.k < r+1∧b2.k < 256→At W x s ts2 b2 T2 deep→C Z 61 #[Ψ (Θ ⟨x,0,Q⟩),U J ((r:Int)+1)] W (zH5 x s b2 T2 deep X2 W)):=fun W ts2 X2 b2 T2 h1 h2 h3 h4=>ih W ts2 X2 b2 T2 deep h1 h2 h3 h4
 have LV0:=o (LV.out w ts1 x1 b T (zc) f1 (KB _ _ _ _ gt e) ⟨⟨t',T',by rw [←e];exact e',p'⟩,by rw [←e];exact hok,zc⟩);have OK:Ω (∀t∈tl++u::R,t.k≠98):=fun t ht=>hok t (G _ ht)
 have GT0:=o gt;have E0:=o e;have KBH:=o KB;have HX:=o hX
 have hne:0 < ts1.length:=by
  rcases ts1 with _ | ⟨y,l⟩
  ·have:=f1.nz;simp at this
  ·simp
 have hM:tl.length+1≤ts1.length+tl.length:=zc;have hxl:=p'.lt;have hr0:(0:Int) < r:=zc;have hr6:(r:Int) < 6:=zc;have hrk:((5:Int) < r)=False:=zj;clear hf hA hX hg KB gt e e' hok ih p';go_in;go_wp2_with fail;refine (zS9 38 (zi) _).mono ?_;rintro e w1 ⟨z,rfl,rfl,hz⟩
 obtain rfl:z=5:=by
  rcases hz with h | ⟨h,-⟩
  ·exact h
  ·exact absurd h (zi)
 clear hz;go_wp2_with fail;refine LV0.out.mono ?_;rintro e w2 ⟨v,F,rfl,pv,p2,m2,hF⟩;obtain ⟨vT,vd,rfl⟩:=pv.iface;obtain ⟨g2,hg2⟩:∃g2,w2.heap.size=g2:=⟨_,rfl⟩;have hS0:=Sl.lit w2 163 1 1 #[.iface vT vd] (zi) rfl;rw [hg2] at hS0;have hw12:=m2.size;have PV0:=(PV.lt pv).mod (S:=[]) (w':=w2.alloc (Δ #[f vT vd] 163)) ((Mod.refl _ _).alloc _) (ze)
 have HFl:∀k∈F.filter (fun k=>decide (k < w2.heap.size)),w1.heap.size≤k∧k < w2.heap.size:=fun k hk=>by
  obtain ⟨a,b⟩:=μ.1 hk;exact ⟨hF k a,by simpa using b⟩
 have M0:Mod [x] w1 (w2.alloc (Δ #[f vT vd] 163)):=m2.alloc _;have P0:=p2.mod (S:=[]) (w':=w2.alloc (Δ #[f vT vd] 163)) ((Mod.refl _ _).alloc _) (ze);have hsz:(w2.alloc (Δ #[f vT vd] 163)).heap.size=w2.heap.size+1:=zj3 _ _ _
 have ST0:Ω (LvS w1 (w2.alloc (Δ #[f vT vd] 163)) x s r u R deep (ts1.length+tl.length) (x1::l0) (Ξ (Θ ⟨g2,0,Q⟩) 1 1) 1 b T tl l0):=
  ⟨GT0.out,E0.out,P0,M0,hM,OK.out,[x1],[f vT vd],g2,1,F.filter (fun k=>decide (k < w2.heap.size)),rfl,rfl,rfl,zc,⟨PV0,trivial⟩,hS0,
   fun h=>by have:=HFl _ h;omega,zc,fun k hk=>by have:=HFl k hk;omega⟩
 clear pv p2 m2 hF hS0 PV0 HFl M0 P0 hsz;go_upto_region 4 with fail;generalize w2.alloc (Δ #[f vT vd] 163)=w3 at *;go_wp2_with fail
 go_loopw [5] (fun v wr=>∃(N:Nat) (b:Tk) (T tl':List Tk) (l:List Ex),Ω (LvS w1 wr x s r u R deep (ts1.length+tl.length) (x1::l0) v N b T tl' l)) (fun v _=>ts1.length+tl.length - lenOf v)
 case atStart=>exact ⟨1,b,T,tl,l0,ST0⟩
 case round=>
  obtain ⟨N,b',T2,tl',l,HL⟩:=hrel;obtain ⟨gtl,etl,ptl,mtl,hln,okl,D,vs,g,cap,F',rfl,hDL,hDN,hN0,hPV,hSl,hgF,hgw,hF'⟩:=HL.out;obtain ⟨kb1,kb2⟩:=KBH.out _ _ _ _ gtl etl;have RK:=o (zS9 b'.k kb2);obtain ⟨a',bl,rr⟩:=ptl;obtain ⟨c0,c1,c2,c3,c4,c5,c6,c7⟩:=bl.cells8p;have hx':=bl.lt;have PP:Ω (PT wr x s b' T2 deep):=⟨a',bl,rr⟩;have SL:=o hSl;have PVV:=o hPV;have MM:=o mtl;have OKL:=o okl;have FF:=o hF';have DL:=o hDL;have hgl:=hSl.lt g (ze);rcases gtl.first hr.1 etl with ⟨q1,rfl,rfl,rfl,rfl⟩ | ⟨q1,ts2,tl2,X2,l2,rfl,rfl,f2,g2',rfl⟩
  case inr=>
   clear bl rr hSl hPV mtl okl hF' hDL gtl etl HL;obtain ⟨b1,T1,e1⟩:∃b1 T1,ts2++(tl2++u::R)=b1::T1:=by cases ts2<;>cases tl2<;>simp
   obtain ⟨b3,T3,e3⟩:∃b3 T3,tl2++u::R=b3::T3:=by cases tl2<;>simp
   have hO:∀t∈ts2++(tl2++u::R),t.k≠98:=fun t ht=>OKL.out t (by rw [B,σ];exact ω _ ht)
   simp only [ζ,κ] at hln;have P1:=PP.out;rw [e1] at P1;have SP:=o (zH8 hs P1 (hO b1 (by rw [e1];simp)));have LV2:Ω (∀W,PT W x s b1 T1 deep→C Z 61 #[Ψ (Θ ⟨x,0,Q⟩),U J ((r:Int)+1)] W (zH5 x s b3 T3 deep X2 W)):=fun W q=>LV.out W ts2 X2 b3 T3 (zc) f2 (KBH.out _ _ _ _ g2' e3) ⟨⟨b1,T1,by rw [←e3];exact e1,q⟩,by rw [←e3];exact hO,zc⟩
   have G2:=o g2';have E3:=o e3;have OK2:Ω (∀t∈tl2++u::R,t.k≠98):=fun t ht=>hO t (G _ ht)
   clear P1 hO e1 e3 g2' f2 OKL PP;go_wp2_with fail;refine (RK.out _).mono ?_;rintro e wq ⟨z,rfl,rfl,hz⟩;obtain rfl:z=r:=zc;clear hz;go_wp2_with fail;refine SP.out.mono ?_;rintro e w4 ⟨rfl,p4,m4⟩;have P4:=o p4;have M4:=o m4;clear p4 m4 c0 c1 c2 c3 c4 c5 c6 c7;go_wp2_with fail;refine (LV2.out _ P4.out).mono ?_;rintro e w5 ⟨v5,F5,rfl,pv5,p5,m5,hF5⟩;obtain ⟨vT5,vd5,rfl⟩:=pv5.iface;have hxg:¬x=g:=zc;have hgx:¬g=x:=zc;have M45:=o (M4.out.trans' m5);have S5:=o (SL.out.mod M45.out (by simpa using hgx));have V5:=o (PVV.out.mod M45.out (fun k hk=>by have:=FF.out k hk;simp;omega));have N5:=o (MM.out.trans' M45.out);have hw5:=M45.out.size;have PV5:=o pv5.lt
   have FF5:Ω (∀k∈F5.filter (fun k=>decide (k < w5.heap.size)),wq.heap.size≤k∧k < w5.heap.size):=fun k hk=>by
    obtain ⟨a,b⟩:=μ.1 hk;have:=hF5 k a;have:=M4.out.size;exact ⟨zc,by simpa using b⟩
   have P5:=o p5;have hN190:N≤190:=zc;clear pv5 p5 m5 hF5;go_wp2_with (at_builtin;refine YF _ rfl _ _ 220 rfl 163 i0 .nilIface 1 16 Tryz.underlying220 hi hz0 hz1 hz2 rfl (zi) _ N vs [g] rfl (S5.out.mod (S:=[]) (zg) (ze)) ⟨w5.heap.size,0,Q⟩ 1 1 [.iface vT5 vd5] (zi) rfl rfl (zM) (xn) (zx) (zc) ?_;intro v6 w6 F6 hs6 hm6 hf6;obtain ⟨g6,cap6,rfl,rfl,_⟩:=hs6.pos (zc))
   all_goals
    have ma:Mod [] w5 _:=(Mod.refl [] w5).alloc (Δ #[f vT5 vd5] 163);have ha:=zj3 w5 #[f vT5 vd5] 163;have hg6:g6=g∨w5.heap.size < g6:=(hf6 g6 (ze)).imp (ze) (fun h=>zc);have h56:=hm6.size
    have LS:Ω (LvS w1 w6 x s r u R deep (ts1.length+tl.length) (x1::l0) (Ξ (Θ ⟨g6,0,Q⟩) (N+1) cap6) (N+1) b3 T3 tl2 l2):=
     ⟨G2.out,E3.out,(P5.out.mod ma (ze)).mod hm6 (by simpa using hxg),(N5.out.trans' (ma.mono (ze))).trans hm6 (fun k hk h=>zG),zc,OK2.out,
      D++[X2],vs++[f vT5 vd5],g6,cap6,F'++F5.filter (fun k=>decide (k < w5.heap.size)),rfl,by rw [←DL.out];simp,by simp [hDN],zc,
      PVs.snoc (((PV5.out.mod ma (ze)).mod hm6 (fun k hk q=>by have:=FF5.out k hk;simp at q;omega)).mono (fun k hk=>G _ hk)) (((V5.out.mod ma (ze)).mod hm6 (fun k hk q=>by simp at q;subst q;exact hgF hk)).mono (fun k hk=>π _ hk)),
      hs6,fun h=>by
       rcases ν.1 h with h | h
       ·have:=FF.out g6 h;rcases hg6 with rfl | q
        ·exact hgF h
        ·omega
       ·have:=FF5.out g6 h;omega,zc,fun k hk=>by
       rcases ν.1 hk with h | h
       ·have:=FF.out k h;omega
       ·have:=FF5.out k h;omega⟩
    go_roundw
    case rel=>exact ⟨N+1,b3,T3,tl2,l2,LS⟩
    case measure=>simp [lenOf];omega
  have DL':=DL.out;rw [List.append_nil] at DL';subst DL';have hvl:=hPV.len;obtain ⟨q,rfl⟩:∃q,N=q+1:=⟨N - 1,zc⟩;have hlq:l0.length=q:=by simp at hDN;omega
  have hq190:q≤190:=zc;have hcap:q+1≤cap:=by obtain ⟨_,_,e,_,h⟩:=hSl.pos (zc);cases e;exact h
  have SA:∀i (hi:i < (x1::l0).length),∃T d,wr.cell? ⟨g,i,Q⟩=Θ (f T d)∧PV wr (x1::l0)[i] (f T d) F':=fun i hi=>by
   obtain ⟨T,d,e,pv⟩:=hPV.at i hi;exact ⟨T,d,(hSl.at i (by simp at hi;omega)).1.trans e,pv⟩
  have IX:=yi7 r h6 wr;generalize yC6 r=op at *;clear bl rr hSl hPV mtl okl hF' gtl etl HL OKL DL LV KBH GT0 E0 OK ST0 hDN;by_cases h2:r=2
  ·subst h2;obtain rfl:op=62:=o3.2 rfl;obtain ⟨T0,d0,k0,pv0⟩:=SA q (zj);have PV0:=o pv0;have SAH:=o SA;clear pv0 SA;go_wp2_with fail;refine (RK.out _).mono ?_;rintro e wq ⟨z,rfl,rfl,hz⟩;have hzr:¬z=2:=zc;clear hz;go_wp2_with fail
   go_loopw [7,8] (fun v i ww=>∃(z:Int) (j T d:_),i=U J z∧v=f T d∧z+1=(j:Nat)∧j≤q∧Ω (PV ww (zi7 62 ((x1::l0).drop j)) (f T d) F')∧ww=wq) (fun _ i _=>(intOf i+1).toNat)
   case atStart=>exact ⟨_,q,T0,d0,rfl,rfl,zc,zc,by rw [show Ω (PV wq (zi7 62 ((x1::l0).drop q)) (f T0 d0) F')=PV wq (zi7 62 ((x1::l0).drop q)) (f T0 d0) F' from rfl,zO2 62 (x1::l0) q (zj)];exact PV0.out,rfl⟩
   case round=>
    obtain ⟨z,j,T,d,rfl,rfl,hzj,hjq,HP,rfl⟩:=hrel;rcases j with _ | j
    ·obtain rfl:z= -1:=zc;go_wp2_with fail;go_ret;have hp:=HP.out;rw [List.drop_zero] at hp;refine ⟨_,F',rfl,?_,PP.out,MM.out,fun k hk=>(FF.out k hk).1⟩;rw [HX.out];exact hp
    ·obtain rfl:z=j:=zc;obtain ⟨T1,d1,k1,pv1⟩:=SAH.out j (zj);have hjl:j < (x1::l0).length:=zj
     have NX0:∀W,PV W ((x1::l0)[j]'hjl) (f T1 d1) F'→PV W (zi7 62 ((x1::l0).drop (j+1))) (f T d) F'→PV W (zi7 62 ((x1::l0).drop j)) (f 222 (Qg #[U δ 62,f T1 d1,f T d])) F':=fun W h1 h2=>by
      rw [zI6 62 (x1::l0) j (zj)];exact ⟨_,_,rfl,h1,h2⟩
     have NX:=o (NX0 _ pv1 HP.out);clear NX0;clear pv1;have hj0:(0:Int)≤j:=zc;go_wp2_with fail;go_roundw
     case rel=>exact ⟨_,j,_,_,rfl,rfl,zc,zc,NX,zp⟩
     case measure=>simp [intOf]<;>omega
  have ho62:¬op=62:=fun h=>h2 (o3.1 h)
  obtain ⟨T0,d0,k0,pv0⟩:=SA 0 (ze);have PV0:=o pv0;have SAH:=o SA;clear pv0 SA;go_wp2_with fail;refine (RK.out _).mono ?_;rintro e wq ⟨z,rfl,rfl,hz⟩;have hzr:¬z=r:=zc;clear hz;go_wp2_with fail
  all_goals
   go_loopw [9,11,78] (fun v _ i ww=>∃(j:Nat) (T:TypeId) (d:χ),i=U J j∧v=f T d∧j≤q∧Ω (PV ww (zw2 op (x1::l0.take j)) (f T d) F')∧ww=wq) (fun _ _ i _=>q - (intOf i).toNat)
   case atStart=>exact ⟨0,T0,d0,rfl,rfl,zc,PV0,rfl⟩
   case round=>
    obtain ⟨j,T,d,rfl,rfl,hjq,HP,hw⟩:=hrel;subst hw;by_cases hlt:j < q
    ·first
     | (exfalso;omega)
     | (
      have hlt':(j:Int) < q:=zc;have hj0:(0:Int)≤j:=zc;obtain ⟨T1,d1,k1,pv1⟩:=SAH.out (j+1) (zj);have k2:=k1;rw [Nat.add_comm] at k2;have hjl:j < l0.length:=zc
      have NX0:∀W,PV W (l0[j]'hjl) (f T1 d1) F'→PV W (zw2 op (x1::l0.take j)) (f T d) F'→PV W (zw2 op (x1::l0.take (j+1))) (f 222 (Qg #[U δ op,f T d,f T1 d1])) F':=fun W h1 h2=>by
       rw [zJ0 op x1 l0 j hjl];exact ⟨_,_,rfl,h2,h1⟩
      have NX:=o (NX0 _ pv1 HP.out);clear NX0 pv1;go_wp2_with fail;go_roundw
      case rel=>exact ⟨j+1,_,_,by go_num,rfl,zc,NX,zp⟩
      case measure=>simp [intOf]<;>omega)
    ·obtain rfl:j=q:=zc;have hlt':¬(j:Int) < j:=zc;go_wp2_with fail;go_ret;have hp:=HP.out;rw [ε (zc)] at hp;refine ⟨_,F',rfl,?_,PP.out,MM.out,fun k hk=>(FF.out k hk).1⟩;rw [HX.out,if_neg h2];exact hp
open Go.RowKit
theorem levC {x:Nat} {s:ByteArray} (hs:s.size≤100) {m:Nat} (ih:yJ6 x s m):∀d r,r+d=6→0 < r→yC4 x s m r:=by
 intro d
 induction d with
 | zero=>
  intro r h h0;obtain rfl:r=6:=zc;exact ya8 ih
 | succ d ihd=>intro r h h0;exact yz6 hs h0 (zc) (ihd (r+1) (zc) (zc))
theorem notC {x:Nat} {s:ByteArray} (hs:s.size≤100):∀m,yJ6 x s m:=by
 intro m
 induction m with
 | zero=>
  intro w ts X u R deep hl hu hA;exact absurd (List.length_eq_zero_iff.1 (zc)) hu.ne
 | succ m ih=>
  intro w ts X u R deep hl hu hA;cases hu with
  | con t hk=>exact yA9 hs hk hA
  | var t hk=>exact yB1 hs hk hA
  | not t hk h=>exact yw9 hs ih hk h (yd) hA
  | par t t2 hk hk2 h=>exact yt2 hs (levC hs ih 5 1 rfl (zi)) hk hk2 h (yd) hA
  | bnd t v vs d hk hv hvs hd h=>exact yt6 (yA1 hs ih) hk hv hvs hd h (yd) hA
theorem yk8 {x:Nat} {s:ByteArray} (hs:s.size≤100) (m:Nat):yC4 x s m 1:=levC hs (notC hs m) 5 1 rfl (zi)
open Go.RowKit
theorem yf0 {w:O} {x:Nat} {s:ByteArray} (hs:s.size≤100) {deep:Nat} {u:Tk} (h:PT w x s u [] deep) (hk:u.k=122):
 C Z 62 #[Ψ (Θ ⟨x,0,Q⟩),U δ 122] w (fun e w'=>∃u',ToT x s u' [] deep w e w'):=by
 obtain ⟨a,b,ha,h1,h2⟩:=h;have he:=(h2 hk).2;have ST:=o (yl7 hs ha b (XG he) (xm));obtain ⟨c0,c1,c2,c3,c4,c5,c6,c7⟩:=b.cells8p;have hxl:=b.lt;rw [hk] at c2;clear b hk h1 h2 he;go_in;go_wp2_with fail;refine ST.out.mono ?_;rintro e w1 ⟨rfl,p1,m1⟩;have P1:=o p1;have M1:=o m1;clear p1 m1;go_wp2_with fail;refine bodyPost_end (v:=.tuple #[]) (by simp [results,Tryz.results62,go_sem];try rfl) rfl ?_;exact ⟨_,rfl,P1.out,M1.out⟩
theorem zX7 {s:ByteArray} (hs:s.size≤100) {ts:List Tk} {z:Tk} {X:Ex} (ht:zj0 (YT s) 0=ts++[z]) (hz:z.k=122) (hf:Fl 1 ts X) (hok:∀t∈ts++[z],t.k≠98) (hl:ts.length≤190) (w:O):
 C Z 29 #[Qh s] w (fun e w'=>∃g v F,e=K (.tuple #[Ψ (Θ ⟨g,0,Q⟩),U J 0,U δ 0])∧Blk w' g #[v] 167∧PV w' X v F∧Mod [] w w'∧w.heap.size≤g∧∀k∈F,w.heap.size≤k):=by
 obtain ⟨u1,T1,e1⟩:∃u1 T1,ts++[z]=u1::T1:=by cases ts<;>simp
 obtain ⟨gk,hgk⟩:∃gk,w.heap.size=gk:=⟨_,rfl⟩;have BX:=o (Blk.new' w #[Qh s,U J 0,U δ 0,U J 0,U J 0,U J 0,U J 0,U δ 0] 161 gk hgk.symm);have ST:Ω (∀W,Blk W gk #[Qh s,U J 0,U δ 0,U J 0,U J 0,U J 0,U J 0,U δ 0] 161→C Z 60 #[Ψ (Θ ⟨gk,0,Q⟩)] W (ToT gk s u1 T1 0 W)):=fun W b=>yl7 (a:=0) (k:=0) (n0:=0) (pl:=0) (deep:=0) hs (zc) b (ht.trans e1) (hok u1 (by rw [e1];simp))
 have LV:Ω (∀W,PT W gk s u1 T1 0→C Z 61 #[Ψ (Θ ⟨gk,0,Q⟩),U J 1] W (zH5 gk s z [] 0 X W)):=fun W q=>yk8 hs ts.length W ts X z [] 0 (Qa _) hf (by rw [hz];decide) ⟨⟨u1,T1,e1,q⟩,hok,zc⟩
 have WE:Ω (∀W,PT W gk s z [] 0→_):=fun W q=>yf0 hs q hz
 have hs0:(0:Int)≤s.size:=zc;have hs1:(s.size:Int)≤100:=zc;clear ht hf hok e1;go_in;go_wp2_with fail;refine (ST.out _ BX.out).mono ?_;rintro e w1 ⟨rfl,p1,m1⟩;have P1:=o p1;have M1:=o m1;clear p1 m1;go_wp2_with fail;refine (LV.out _ P1.out).mono ?_;rintro e w2 ⟨v,F,rfl,pv,p2,m2,hF⟩;obtain ⟨vT,vd,rfl⟩:=pv.iface;have PV2:=o pv;have P2:=o p2;have M2:=o (M1.out.trans' m2);have HF:=o hF;have hw1:=M1.out.size;clear pv p2 m2 hF;go_wp2_with fail;refine (WE.out _ P2.out).mono ?_;rintro e w3 ⟨u',rfl,p3,m3⟩;obtain ⟨a3,b3,-⟩:=p3;obtain ⟨c0,c1,c2,c3,c4,c5,c6,c7⟩:=b3.cells8p;have hx3:=b3.lt;have M3:=o (M2.out.trans' m3)
 have PV3:=o (PV2.out.lt.mod m3 (fun k hk=>by
  obtain ⟨a,b⟩:=μ.1 hk;have:=HF.out k a;have h1:=M1.out.size;rw [zj3] at h1
  simp;omega))
 obtain ⟨g3,hg3⟩:∃g3,w3.heap.size=g3:=⟨_,rfl⟩;have B3:=o (Blk.new' w3 #[f vT vd] 167 g3 hg3.symm)
 have hww:w.heap.size≤w1.heap.size:=by
  have h1:=M1.out.size;rw [zj3] at h1;omega
 have h13:=m3.size;have MF:=o (M3.out.alloc (Δ #[f vT vd] 167));clear b3 m3;go_wp2_with fail;go_ret3
 exact ⟨g3,f vT vd,_,rfl,B3.out,PV3.out.mod (S:=[]) ((Mod.refl _ _).alloc _) (ze),(((Mod.refl [] w).alloc _).trans MF.out (fun k hk h=>zG)),zc,fun k hk=>by
  obtain ⟨a,b⟩:=μ.1 hk;have:=HF.out k a
  omega⟩
open Go.RowKit
def zk4 (x:Nat):Nat:=if x=0 then 0 else Nat.log2 x+1
theorem zX8 (x:Nat) (hx:x < 32) (w:O):C Z 63 #[U η x] w fun e w'=>e=K (U J (zk4 x))∧w'=w:=by
 rcases (by omega:x=0∨x=1∨x=2∨x=3∨x=4∨x=5∨x=6∨x=7∨x=8∨x=9∨x=10∨x=11∨x=12∨x=13∨x=14∨x=15∨x=16∨x=17∨x=18∨x=19∨x=20∨x=21∨x=22∨x=23∨x=24∨x=25∨x=26∨x=27∨x=28∨x=29∨x=30∨x=31) with rfl | rfl | rfl | rfl | rfl | rfl | rfl | rfl | rfl | rfl | rfl | rfl | rfl | rfl | rfl | rfl | rfl | rfl | rfl | rfl | rfl | rfl | rfl | rfl | rfl | rfl | rfl | rfl | rfl | rfl | rfl | rfl
 all_goals
  go_in;go_wp2_with fail;go_ret;refine ⟨congrArg (fun z=>Ending.returned (U J z)) (?_:wrap64 (wrap64 (Lib.len8 _))=_),rfl⟩;decide+kernel
end Go.Proofs.YtbnpoapmnkfhkaaGreatDoor
