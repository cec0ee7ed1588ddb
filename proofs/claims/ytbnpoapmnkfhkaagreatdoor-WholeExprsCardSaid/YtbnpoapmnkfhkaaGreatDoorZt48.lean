import Derived.Test.YtbnpoapmnkfhkaaGreatDoorZt41
import Derived.Test.YtbnpoapmnkfhkaaGreatDoorZt46
import Derived.Test.YtbnpoapmnkfhkaaGreatDoorZt47
set_option linter.unusedVariables false
set_option linter.unusedSimpArgs false
set_option maxRecDepth 100000
set_option maxHeartbeats 16000000
namespace Go.Proofs.YtbnpoapmnkfhkaaGreatDoor
open Go.Lib renaming hid → o
open Go.Value renaming pointer → d, int → I, slice → G, string → Γ, tuple → φ
open Go.Proofs.Tryz renaming prog → c
open Option renaming none → Z, some → X
open List renaming mem_cons → Y, getElem?_eq_getElem → A, length_cons → Ω, getElem_map → Ψ, mem_append → Φ, length_append → Θ, getElem_mem → Δ, length_nil → ω, range → ψ, nodup_nil → χ
open Go.Proofs.YtbnpoapmnkfhkaaGreatDoor renaming zc → U, zi → O
open Nat renaming le_trans → R, le_refl → D, pow_le_pow_right → Ξ, pow_succ → τ
open Go.RowKit renaming Hid → Q
open Go.Ending renaming returned → M
open Go renaming World → K, Calls → B
open Option.some renaming inj → J
open Go.IntKind renaming i64 → C
def szT (f n:Nat) (t:List Bool):Nat:=(dis [] (nds (YE f n n 0 t).2)).length
section
variable {n:Nat} {t:List Bool}
theorem mem_dis {α:Type} [DecidableEq α] {x:α} {l:List α}:x∈dis [] l↔x∈l:=by rw [zp9];simp
theorem XU {f:Nat} (z:Bool) (g:Ky→Tr) (hc:∀T∈nds (YE f n n 0 t).2,∃y∈ze7 z n 0 t,g y=T):szT f n t≤(dis [] (ze7 z n 0 t)).length:=
 XQ (fun T y=>g y=T) (fun a a' b h k=>h.symm.trans k) (zl5 _ _ χ) fun T hT=>by
  obtain ⟨y,hy,e⟩:=hc T (mem_dis.1 hT);exact ⟨y,mem_dis.2 hy,e⟩
def zs6:Nat→Nat→List Bool→List Ky
 | 0,_,_=>[]
 | 1,_,_=>[]
 | k+2,l,t=>(k+2,l,t)::(zs6 (k+1) (l+1) (t.take (2 ^ (k+1)))++zs6 (k+1) (l+1) (t.drop (2 ^ (k+1))))
theorem zV6:∀(k l:Nat) (t:List Bool),(zs6 (k+1) l t).length+1=2 ^ k:=by
 intro k
 induction k with
 | zero=>intro l t;simp [zs6]
 | succ k ih=>
  intro l t;have h1:=ih (l+1) (t.take (2 ^ (k+1)));have h2:=ih (l+1) (t.drop (2 ^ (k+1)));rw [zs6,Ω,Θ];have:=τ 2 k;omega
theorem yH0 (t:List Bool) (h:t.length=2):t=[false,false]∨t=[false,true]∨t=[true,false]∨t=[true,true]:=by
 match t,h with
 | [a,b],_=>cases a<;>cases b<;>simp
theorem yc5 (z:Bool):∀(k l:Nat) (t:List Bool),t.length=2 ^ (k+1)→∀y∈ze7 z (k+1) l t,
 y∈zs6 (k+1) l t++[(1,l+k,[false,true]),(1,l+k,if z then [true,true] else [true,false])]:=by
 intro k
 induction k with
 | zero=>
  intro l t ht y hy;rcases yH0 t ht with rfl | rfl | rfl | rfl<;>cases z<;>simp [ze7,zs6] at hy ⊢<;>simp [hy]
 | succ k ih=>
  intro l t ht y hy;obtain ⟨h1,h2⟩:=zc0 ht
  have q:y=(k+2,l,t)∨y∈ze7 z (k+1) (l+1) (t.take (2 ^ (k+1)))∨y∈ze7 z (k+1) (l+1) (t.drop (2 ^ (k+1))):=by
   rw [ze7] at hy;by_cases hc:(if z then decide (true∉t.drop (2 ^ (k+1))) else decide (t.take (2 ^ (k+1))=t.drop (2 ^ (k+1))))=true
   ·rw [if_pos hc] at hy;exact .inr (.inl hy)
   ·rw [if_neg hc] at hy;simpa [Y,Φ] using hy
  have e:l+1+k=l+(k+1):=U;rw [zs6];rcases q with rfl | q | q
  ·simp
  ·have:=ih _ _ h1 y q;rw [e] at this;simp only [Φ,Y] at this ⊢;rcases this with h | h
   ·exact .inl (.inr (.inl h))
   ·exact .inr h
  ·have:=ih _ _ h2 y q;rw [e] at this;simp only [Φ,Y] at this ⊢;rcases this with h | h
   ·exact .inl (.inr (.inr h))
   ·exact .inr h
theorem zf5 (z:Bool) (k l:Nat) (t:List Bool) (hk:k≤4) (ht:t.length=2 ^ k):(dis [] (ze7 z k l t)).length≤9:=by
 cases k with
 | zero=>simp [ze7,dis]
 | succ k=>
  have h:=yb6 (m:=zs6 (k+1) l t++[(1,l+k,[false,true]),(1,l+k,if z then [true,true] else [true,false])]) (zl5 (ze7 z (k+1) l t) [] χ)
   fun y hy=>yc5 z k l t ht y (mem_dis.1 hy)
  rw [Θ] at h;have h2:=zV6 k l t;have h3:2 ^ k≤2 ^ 3:=Ξ (U) (U);simp only [Ω,ω] at h;omega
theorem yL4 {f:Nat} (h1:1≤f) (h5:f≤5) (hn:n≤4) (ht:t.length=2 ^ n):szT f n t≤9:=by
 obtain rfl | rfl | rfl | rfl | rfl:f=1∨f=2∨f=3∨f=4∨f=5:=U
 ·exact R (XU false _ (yD5 (.inl rfl) n 0 t (U) ht)) (zf5 _ _ _ _ hn ht)
 ·exact R (XU true _ (yE1 (.inl rfl) n 0 t (U) ht)) (zf5 _ _ _ _ hn ht)
 ·exact R (XU false _ (yD5 (.inr rfl) n 0 t (U) ht)) (zf5 _ _ _ _ hn ht)
 ·exact R (XU true _ (yE1 (.inr rfl) n 0 t (U) ht)) (zf5 _ _ _ _ hn ht)
 ·exact R (XU false _ (cov5 n 0 t (U) ht)) (zf5 _ _ _ _ hn ht)
theorem zQ0 (f l:Nat) (x y:Nat × Tr):tsz (zb3 f l x y)≤1+tsz x.2+tsz y.2:=by
 rcases Xf f l x y with ⟨t,b,tl,u,th,v,e1,_,_,e3,e⟩ | ⟨t,b,tl,u,th,v,e1,_,_,_,e⟩ | e
 ·rw [e,e1];simp [tsz];omega
 ·rw [e,e1];simp [tsz];omega
 ·rw [e];simp [tsz]
theorem yJ8 (f l:Nat) (x y:Nat × Tr):tsz (mkE f l x y).2≤1+tsz x.2+tsz y.2:=by
 have:=zQ0 f l x y;unfold mkE;split
 ·split<;>simp<;>omega
 ·split
  ·omega
  ·split<;>simp<;>omega
theorem zx5 (f:Nat):∀(k l:Nat) (t:List Bool),tsz (YE f n k l t).2+1≤2 ^ (k+1):=by
 intro k
 induction k with
 | zero=>intro l t;simp [YE,XX,tsz]
 | succ k ih=>
  intro l t;have h1:=ih (l+1) (t.take (2 ^ k));have h2:=ih (l+1) (t.drop (2 ^ k));have h3:=yJ8 f l (YE f n k (l+1) (t.take (2 ^ k))) (YE f n k (l+1) (t.drop (2 ^ k)));rw [YE,τ];omega
end
theorem ym2 {n W:Nat} (p:List Nat) (hn:n≤4) (f:Nat) (h1:1≤f) (h5:f≤5):tsz (YE f n n 0 (Xz W p n 0 0)).2≤1000000∧zg2 n W p f≤12:=by
 have h:=zx5 (n:=n) f n 0 (Xz W p n 0 0);have h3:2 ^ (n+1)≤2 ^ 5:=Ξ (U) (U);refine ⟨U,?_⟩;have:=yL4 (t:=Xz W p n 0 0) h1 h5 hn (Xl _ _ _ _ _);unfold szT at this;unfold zg2;omega
open Go.RowKit
theorem PgTo.open {w0 w:K} {b:Nat} {g:Bool} {F0:List Nat} {lo hi:Nat} (h:PgTo w0 b F0 g lo hi w):∃bs F,Pg w b g bs F∧lo≤bs.length∧bs.length≤hi∧Mod (b::F0) w0 w∧∀k∈F,k∈F0∨w0.heap.size≤k:=h
theorem PgTo.mod {w0 w:K} {b:Nat} {g:Bool} {F0:List Nat} {lo hi:Nat} (h:PgTo w0 b F0 g lo hi w):Mod (b::F0) w0 w:=by
 obtain ⟨bs,F,h1,h2,h3,h4,h5⟩:=h;exact h4
theorem Yw {p:Prop} (h:p:=by
 rintro e w' ⟨rfl,h⟩
 exact ⟨rfl,(PgTo.trans h4 h5 h).le (U) (U)⟩):p:=h
theorem Yx {p:Prop} (h:p:=by
 obtain ⟨bs,F,h1,h2,h3,h4,h5⟩:=h;refine (zH2 h1 s hs0 (U) (U)).mono ?_
 exact Yw):p:=h
theorem zN5 {w0 w:K} {b:Nat} {F0:List Nat} {g:Bool} {lo hi:Nat} (h:PgTo w0 b F0 g lo hi w) (s:ByteArray) (hs0:0 < s.size) (hs1:s.size≤20) (hl:hi≤800000):
 B c 87 #[d (X ⟨b,0,Z⟩),Γ s] w fun e w'=>e=M (φ #[])∧PgTo w0 b F0 true lo (hi+21) w':=by
 exact Yx
theorem yj2 {w0 w:K} {b:Nat} {F0:List Nat} {g:Bool} {lo hi:Nat} (h:PgTo w0 b F0 g lo hi w) (s:ByteArray) (hs0:0 < s.size) (hs1:s.size≤20) (hl:hi≤800000):
 B c 87 #[d (X ⟨b,0,Z⟩),Γ s] w fun e w'=>e=M (φ #[])∧PgTo w0 b F0 true (lo+s.size) (hi+21) w':=by
 exact Yx
theorem yo8 {w0 w:K} {b:Nat} {F0:List Nat} {g:Bool} {lo hi:Nat} (h:PgTo w0 b F0 g lo hi w) (n:Nat) (hn:n < 10) (hl:hi≤800000):
 B c 88 #[d (X ⟨b,0,Z⟩),I C n] w fun e w'=>e=M (φ #[])∧PgTo w0 b F0 true lo (hi+2) w':=by
 obtain ⟨bs,F,h1,h2,h3,h4,h5⟩:=h;refine (yJ7 h1 n hn (U)).mono ?_;exact Yw
theorem yL6 {w0 w:K} {b:Nat} {F0:List Nat} {g:Bool} {lo hi:Nat} (h:PgTo w0 b F0 g lo hi w) (hl:hi≤800000):
 B c 91 #[d (X ⟨b,0,Z⟩)] w fun e w'=>e=M (φ #[])∧PgTo w0 b F0 false lo (hi+1) w':=by
 obtain ⟨bs,F,h1,h2,h3,h4,h5⟩:=h;refine (yL1 h1 (U)).mono ?_;exact Yw
theorem Mng.away {w w':K} {bm n room:Nat} {L:List Rc} {Fs p:List Nat} {H:List (Nat × Ed)} {bs bo bq:Nat} {F S:List Nat} (h:Mng w bm n room L Fs p H bs bo bq F) (m:Mod S w w') (h1:∀k∈F,k∉S) (h2:∀k∈Fs,k∉S):Mng w' bm n room L Fs p H bs bo bq F:=by
 obtain ⟨ba,bg,vk,vq,vg,Fo,q,a1,a2,a3,a4,a5,a6,rfl,a7,a8⟩:=h.m;exact ⟨⟨ba,bg,vk,vq,vg,Fo,q,a1.mod m (h1 _ (ze)),a2.mod m (fun k hk=>h1 k (zC)),a3,a4.mod m (h1 _ (ze)),a5.mod m (h1 _ (ze)),a6.mod m (h1 _ (ze)),rfl,a7,a8⟩,h.s.mod m h2⟩
theorem yA6:∀T:Tr,tsz T=2 *(nds T).length+1:=by
 intro T
 induction T with
 | leaf b=>rfl
 | node t b tl x th y ihx ihy=>simp [tsz,nds];omega
theorem yI7 {α:Type} [DecidableEq α]:∀(l out:List α),(dis out l).length≤out.length+l.length:=by
 intro l
 induction l with
 | nil=>intro out;simp [dis]
 | cons x l ih=>
  intro out;unfold dis;refine R (ih _) ?_;split<;>simp<;>omega
theorem yE0 (W:Nat) (p:List Nat) (f:Nat):zg2 3 W p f≤7:=by
 unfold zg2;have h1:=zx5 (n:=3) f 3 0 (Xz W p 3 0 0);have h2:=yA6 (YE f 3 3 0 (Xz W p 3 0 0)).2;have h3:=yI7 (nds (YE f 3 3 0 (Xz W p 3 0 0)).2) [];simp at h1 h3;omega
theorem yu8 (W:Nat) (p:List Nat):∀z∈Xi 3 W p,z < 10:=by
 intro z hz;simp [Xi] at hz;rcases hz with rfl | rfl | rfl | rfl | rfl<;>(have:=yE0 W p;first | (have:=this 1;omega) | (have:=this 2;omega) | (have:=this 3;omega) | (have:=this 4;omega) | (have:=this 5;omega))
open Go.RowKit
theorem zn7 (s:ByteArray) (h:s.size=1):(s++(⟨#[58]⟩:ByteArray)).size=2:=by rw [ByteArray.size_append,h];rfl
theorem Yv {p:Prop} (h:p:=by
 rintro e v9 ⟨rfl,p9⟩;have P9:=o p9;clear p9;go_wp2_with fail;go_roundw
 case rel=>exact ⟨k+1,by first | rfl | go_num,U,P9.out.le (D _) (U)⟩
 case measure=>simp [intOf];omega):p:=h
theorem yG5 {w0:K} {bm room b:Nat} {L:List Rc} {Fs p:List Nat} {H:List (Nat × Ed)} {bs bo bq:Nat} {F F0:List Nat} (h:Mng w0 bm 3 room L Fs p H bs bo bq F) (hbF:∀k∈F,k∉b::F0) (hbS:∀k∈Fs,k∉b::F0) (hL:L.length≤1048576) (hnd:L.Nodup) (hG:Good L 3) (hp:Perm p 3) (hH:H.length < 10)
 {a f:Nat} {e:Ed} {T:Tr} (hf:H[a]? =X (f,e)) (hD:Dia L 3 f e T) {W:K} {g:Bool} {lo hi:Nat} (hW:PgTo w0 b F0 g lo hi W) (hhi:hi≤700000):
 B c 93 #[d (X ⟨b,0,Z⟩),d (X ⟨bm,0,Z⟩),I C ((a+1:Nat):Int)] W fun e' w'=>e'=M (I .u8 0)∧PgTo w0 b F0 false lo (hi+300) w':=by
 have MG:Q (∀V,Mod (b::F0) w0 V→Mng V bm 3 room L Fs p H bs bo bq F):=fun V md=>h.away md hbF hbS
 have hpv:∀v∈p,v < 16:=fun v hv=>by have:=hp.lt v hv;omega
 have FO:Q (∀V,Mod (b::F0) w0 V→_):=fun V md=>by
  obtain ⟨⟨q,hq⟩,-⟩:=(MG.out V md).own;exact yI8 hq (U) hf
 have CO:Q (∀V,Mod (b::F0) w0 V→_):=fun V md=>zI9 (MG.out V md) hL hnd hG hp.len hpv (U) hf hD
 have SI:Q (∀V,Mod (b::F0) w0 V→_):=fun V md=>zQ5 (MG.out V md) hL hnd hG hp.len hpv (U) hf hD
 have SU:Q (∀V,Mod (b::F0) w0 V→_):=fun V md=>zy7 (MG.out V md) hL hnd hG hp.len hpv (U) hf hD
 have SE:Q (∀V,Mod (b::F0) w0 V→_):=fun V md=>yi4 (MG.out V md) hL hnd hG hp.len hpv (U) hf hD
 have OR:Q (∀V,Mod (b::F0) w0 V→_):=fun V md=>zo5 (MG.out V md) (jD)
 have VA:Q (∀V,Mod (b::F0) w0 V→_):=fun V md=>zv6 (MG.out V md)
 have OO:Q (∀V v Fv,Rv V v (p.map ei) Fv→_):=fun V v Fv hv=>zx2 hv hp (U)
 have SS:Q (∀V bo' q' Fo' g' wd,IsOrd V bo' p q' Fo'→V.cell? ⟨g',0,Z⟩=X (I .u64 (wd:Nat))→wd < 256→B c 131 #[d (X ⟨bo',0,Z⟩),.agg #[I C 3,G (X ⟨g',0,Z⟩) 1 1]] V (yo3 V 3 wd p)):=fun V bo' q' Fo' g' wd ho hc hw=>
  yv4 (n:=3) ho hc (U) hp.len hp.lt (by simpa using hw) (fun f h1 h5=>ym2 (n:=3) p (U) f h1 h5)
 obtain ⟨hl,-⟩:=List.getElem?_eq_some_iff.1 hf;obtain ⟨m,hm⟩:∃m,a+1=m:=⟨_,rfl⟩;rw [hm] at FO CO SI SU SE ⊢;have IT:=o (yn6 m (U));have NA:=o (yG8 f hD.f1 (R hD.f2 (U)));have P0:=o hW;have HPL:Q ((p.map ei).length=3):=wL;clear h hbF hbS hf hD hW hL hnd hG hp hH hl hm MG hpv;go_in;go_wp2_with fail;refine (FO.out _ P0.out.mod).mono ?_;rintro e w1 ⟨rfl,m1⟩;have P1:=o (P0.out.later m1);clear m1 P0 FO;go_wp2_with fail;refine (CO.out _ P1.out.mod).mono ?_;rintro e w2 ⟨nc,rfl,hnc,m2⟩;have P2:=o (P1.out.later m2);clear m2 P1 CO;go_wp2_with fail;refine (SI.out _ P2.out.mod).mono ?_;rintro e w3 ⟨ns,rfl,hns,m3⟩;have P3:=o (P2.out.later m3);clear m3 P2 SI;go_wp2_with fail;refine (SU.out _ P3.out.mod).mono ?_;rintro e w4 ⟨nu,rfl,hnu,m4⟩;have P4:=o (P3.out.later m4);clear m4 P3 SU;go_wp2_with fail;refine (SE.out _ P4.out.mod).mono ?_;rintro e w5 ⟨gw,wd,rfl,hwd,bw,hgw,m5⟩;have P5:=o (P4.out.later m5);obtain ⟨gs,hgs⟩:∃gs,w5.heap.size=gs:=⟨_,rfl⟩;have B5:=o (Blk.new' w5 #[I C 3,G (X ⟨gw,0,Z⟩) 1 1] 88 gs hgs.symm);have BW:=o (bw.alloc (.cells #[I C 3,G (X ⟨gw,0,Z⟩) 1 1] 88));have P6:=o (P5.out.later (show Mod [] w5 (w5.alloc (.cells #[I C 3,G (X ⟨gw,0,Z⟩) 1 1] 88)) from zg));clear m5 P4 P5 SE bw hgw;go_wp2_with fail;clear hgs;generalize w5.alloc (.cells #[I C 3,G (X ⟨gw,0,Z⟩) 1 1] 88)=w6 at *;refine (OR.out _ P6.out.mod).mono ?_;rintro e w7 ⟨v7,rfl,n7⟩;have P7:=o (P6.out.later n7.mod);have B7:=o (B5.out.mod n7.mod (ze));have BW7:=o (BW.out.mod n7.mod (ze));obtain ⟨Fv,rv7,-⟩:=n7.rv;have OC:=o (OO.out _ _ _ rv7);obtain ⟨A7,cap7,rfl⟩:=n7.shape;rw [HPL.out] at OC ⊢;clear n7 rv7 P6 B5 BW OR OO;go_wp2_with fail;refine OC.out.mono ?_;rintro e w8 ⟨bo8,q8,F8,rfl,ho8,-,m8,-⟩;have P8:=o (P7.out.later m8);have B8:=o (B7.out.mod m8 (ze));have BW8:=o (BW7.out.mod m8 (ze));have c8:=BW8.out.cell 0;simp only [List.getElem?_toArray,List.getElem?_cons_zero] at c8;have SC:=o (SS.out _ _ _ _ gw wd ho8 c8 hwd);obtain ⟨bsP,FP,pgP,hloP,hhiP,mP,fP⟩:=P8.out.open;have PGP:=o pgP;have LPP:=o pgP.lt;have MPP:=o mP;have FPP:=o fP;have HLP:=o (And.intro hloP hhiP);clear pgP mP fP hloP hhiP;obtain ⟨d0,d1⟩:=B8.out.cells2;have hdl:=B8.out.lt;clear c8 ho8 m8 P7 B7 BW7 OC SS;go_wp2_with fail;refine SC.out.mono ?_;rintro e w9 ⟨v9,rfl,n9⟩;have Q9:=o (PgTo.refl (PGP.out.mod n9.mod (ze)));have M9:=o (MPP.out.trans' (n9.mod.mono (ze)));have SZN:=o (yu8 wd p);obtain ⟨A9,cap9,rfl⟩:=n9.shape;have hlen9:((Xi 3 wd p).map ei).length=5:=by simp [Xi]
 have LEN9:=o (show (Xi 3 wd p).length=5 by simp [Xi]);obtain ⟨FN,sN,mN,fN⟩:=n9;have RV9:Q (∀V,Mod (b::FP) w9 V→Rv V (G A9 ((Xi 3 wd p).map ei).length cap9) ((Xi 3 wd p).map ei) FN):=fun V md=>(Rv.of_sl sN rfl).mod md (fun k hk hm=>by have h1:=fN k hk;have h2:=LPP.out k hm;omega)
 have VB:Q (∀V,Mod (b::FP) w9 V→_):=fun V md=>VA.out V (M9.out.trans md (by
  intro i hi hm;rcases Y.1 hm with rfl | hm
  ·simp
  ·rcases FPP.out i hm with q | q
   ·simp [q]
   ·omega))
 have FINP:Q (∀V lo' hi',PgTo w9 b FP false lo' hi' V→PgTo w0 b F0 false lo' hi' V):=fun V lo' hi' h=>PgTo.trans M9.out (fun k hk=>FPP.out k hk) h
 rw [hlen9] at RV9 ⊢;clear sN mN fN d0 d1 hdl SC P8 hlen9 VA MPP B8 BW8 PGP;generalize Xi 3 wd p=szs at *;generalize bsP.length=n0 at *;have hn0:n0≤hi:=HLP.out.2;go_wp2_with fail;refine (IT.out _).mono ?_;rintro e w9 ⟨⟨s,rfl,hs⟩,rfl⟩;have HS2:=o (zn7 s hs);go_wp2_with fail;refine (zN5 Q9.out _ (by rw [HS2.out];omega) (by rw [HS2.out];omega) (U)).mono ?_;rintro e v1 ⟨rfl,p1⟩;have P1:=o p1;clear p1 hs Q9;go_wp2_with fail;refine (NA.out _).mono ?_;rintro e v1 ⟨⟨s2,rfl,hs3,hs4⟩,rfl⟩;go_wp2_with fail;refine (zN5 P1.out _ (U) (U) (U)).mono ?_;rintro e v2 ⟨rfl,p2⟩;have P2:=o p2;clear p2 P1;go_wp2_with fail;refine (zN5 P2.out _ (O) (O) (U)).mono ?_;rintro e v3 ⟨rfl,p3⟩;have P3:=o p3;clear p3 P2;go_wp2_with fail;refine (yo8 P3.out nc (U) (U)).mono ?_;rintro e v4 ⟨rfl,p4⟩;have P4:=o p4;clear p4 P3;go_wp2_with fail;refine (zN5 P4.out _ (O) (O) (U)).mono ?_;rintro e v5 ⟨rfl,p5⟩;have P5:=o p5;clear p5 P4;go_wp2_with fail;refine (yo8 P5.out ns (U) (U)).mono ?_;rintro e v6 ⟨rfl,p6⟩;have P6:=o p6;clear p6 P5;go_wp2_with fail;refine (zN5 P6.out _ (O) (O) (U)).mono ?_;rintro e v7 ⟨rfl,p7⟩;have P7:=o p7;clear p7 P6;go_wp2_with fail;refine (VB.out _ P7.out.mod).mono ?_;rintro e v8 ⟨rfl,rfl⟩;have P8:Q (PgTo w9 b FP true n0 (n0+200) v8):=P7.out.le (D _) (U);clear P7;go_wp2_with fail
 go_loopw [21,92] (fun _ i wr=>∃k:Nat,i=I C k∧k≤3∧Q (PgTo w9 b FP true n0 (n0+200+2 *k) wr)) (fun _ i _=>3 - (intOf i).toNat)
 case atStart=>exact ⟨0,rfl,U,P8⟩
 case round=>
  clear P8;obtain ⟨k,rfl,hk,PR⟩:=hrel;by_cases hlt:k < 3
  ·have hlt':(k:Int) < 3:=U;have hk0:(0:Int)≤k:=U;cases hb:(bits BinOp.and IntKind.u16 ((nu:Int) / 2 ^ k) 1==1) with
   | false=>
    go_wp2_with fail;go_roundw
    case rel=>exact ⟨k+1,by first | rfl | go_num,U,PR.out.le (D _) (U)⟩
    case measure=>simp [intOf];omega
   | true=>
    go_wp2_with fail;refine (yo8 PR.out k (U) (U)).mono ?_;exact Yv
  ·obtain rfl:k=3:=U;clear hk hlt;go_wp2_with fail;refine (zN5 PR.out _ (O) (O) (U)).mono ?_;rintro e va ⟨rfl,pa⟩;have PA:Q (PgTo w9 b FP true n0 (n0+230) va):=pa.le (D _) (U);clear pa PR;go_wp2_with fail
   go_loopw [23,108] (fun _ i wr=>∃k:Nat,i=I C k∧k≤5∧Q (PgTo w9 b FP true n0 (n0+230+2 *k) wr)) (fun _ i _=>5 - (intOf i).toNat)
   case atStart=>exact ⟨0,rfl,U,PA⟩
   case round=>
    clear PA;obtain ⟨k,rfl,hk,PR⟩:=hrel;by_cases hlt:k < 5
    ·have hlt':(k:Int) < 5:=U;have hk0:(0:Int)≤k:=U;have hkl:k < szs.length:=by rw [LEN9.out];exact hlt
     obtain ⟨gb,off,rfl,hc⟩:=(RV9.out _ PR.out.mod).at k (by simpa using hkl);rw [Ψ] at hc;have hz:=SZN.out szs[k] (Δ hkl);generalize szs[k]=z at *;have hc':wr.cell? ⟨gb,off+k,Z⟩=X (I C (z:Int)):=hc;clear hc hkl;go_wp2_with fail;refine (yo8 PR.out z hz (U)).mono ?_;exact Yv
    ·obtain rfl:k=5:=U;clear hk hlt;go_wp2_with fail;refine (yL6 PR.out (U)).mono ?_;rintro e vz ⟨rfl,pz⟩;have PZ:=o (FINP.out _ _ _ pz);clear pz PR;go_wp2_with fail;go_ret;exact ⟨rfl,PZ.out.le HLP.out.1 (U)⟩
open Go.RowKit
theorem Mod.freeze {S:List Nat} {a w:K} (h:Mod S a w) (p:Addr) (n:Nat) (hp:p.block∈S):Mod S a (w.freeze p n):=by
 refine h.trans' ?_;unfold World.freeze;split
 ·exact Mod.refl S w
 ·exact ⟨rfl,rfl,rfl,ze,fun k hk hn=>by
   simp only [Array.getElem?_modify]
   rw [if_neg (by rintro rfl;exact hn hp)]⟩
theorem zU7 {w:K} {b:Nat} {g:Bool} {bs:List Value} {F:List Nat} (h:Pg w b g bs F) (h0:0 < bs.length) (hl:bs.length≤1000000):
 B c 51 #[d (X ⟨b,0,Z⟩)] w fun e w'=>∃s:ByteArray,e=M (Γ s)∧s.size=bs.length∧Mod F w w':=by
 obtain ⟨p,v,⟨-,l,rfl⟩,h2,h3,-⟩:=h;rcases h3.2 with ⟨-,q,-⟩ | ⟨g2,cap,cur,rfl,rfl,hg,hnc,hcm,hcs,htake⟩
 ·omega
 ·rw [Lib.byteCells_length] at h0 hl h2 hnc htake ⊢
  have hcell:∀j x,l[j]? =X x→w.drew.cell? ((⟨g2,0,Z⟩:Addr).add j)=X (I .u8 x.toNat):=fun j x hj=>by
   have h4:=h3.own.cells (g:=g2) rfl j (I .u8 x.toNat) (by unfold Lib.byteCells;rw [List.getElem?_map,hj];rfl);exact h4
  have hsh0:w.shape? g2=X (5,cur.size):=by unfold Blk at hg;simp [World.shape?,hg]
  have hsh:w.drew.shape? g2=X (5,cur.size):=hsh0
  have c1:w.drew.cell? ⟨b,1,Z⟩=X (G (X ⟨g2,0,Z⟩) l.length cap):=by
   have:w.cell? ⟨b,1,Z⟩=_:=h2.cell 1;exact this
  have hSD:(Builtin.unsafeSliceData_ #[123] 207 #[G (X ⟨g2,0,Z⟩) l.length cap]).run c w.drew=.ok (d (X ⟨g2,0,Z⟩)) w.drew:=Lib.run_unsafeSliceData_row _ _ _ _ _ _ (U)
  have hUS:(Builtin.unsafeString_ #[207,3] 9 #[d (X ⟨g2,0,Z⟩),I C l.length]).run c w.drew=.ok (Γ ⟨l.toArray⟩) (w.drew.freeze ⟨g2,0,Z⟩ l.length):=
   Lib.run_unsafeString_row (P:=c) w.drew 207 3 9 5 Tryz.underlying207 (by kernel_rfl) g2 cur.size hsh l (by intro e;rw [e] at h0;simp at h0) (U) (U) hcell
  have MF:Q (Mod [g2] w (w.drew.freeze ⟨g2,0,Z⟩ l.length)):=Mod.freeze ((Mod.refl [g2] w).drew) _ _ (ze);have HN:Q ((⟨l.toArray⟩:ByteArray).size=l.length):=by show _=_;simp [ByteArray.size]
  generalize (⟨l.toArray⟩:ByteArray)=s at *;clear h2 h3 hg hcm hcs htake hcell hsh hsh0;generalize l.length=n at *;clear h0 hl hnc;go_in;go_wp2
  go_region
  all_goals
   go_wp2;go_ret;exact ⟨s,rfl,HN.out,MF.out⟩
open Go.RowKit
theorem PgTo.rebase {w0 W W':K} {b E:Nat} {F0:List Nat} {g:Bool} {lo hi:Nat} {xs:List Value} {v:Value} (h:PgTo w0 b F0 g lo hi W) (n:NewV E W xs W' v):
 ∃n0 FP FN,lo≤n0∧n0≤hi∧PgTo W' b FP g n0 n0 W'∧(∀V,Mod (b::FP) W' V→Rv V v xs FN)∧(∀V g' lo' hi',PgTo W' b FP g' lo' hi' V→PgTo w0 b F0 g' lo' hi' V)∧(∀V,Mod (b::FP) W' V→Mod (b::F0) w0 V)∧(∀k∈FP,k∈F0∨w0.heap.size≤k):=by
 obtain ⟨bs,F,h1,h2,h3,h4,h5⟩:=h;obtain ⟨FN,sN,mN,fN⟩:=n;have hlt:=h1.lt;refine ⟨bs.length,F,FN,h2,h3,PgTo.refl (h1.mod mN (ze)),fun V md=>?_,fun V g' lo' hi' hp=>PgTo.trans (h4.trans' (mN.mono (ze))) h5 hp,fun V md=>?_,h5⟩
 ·exact (Rv.of_sl sN rfl).mod md (fun k hk hm=>by have a1:=fN k hk;have a2:=hlt k hm;omega)
 ·refine (h4.trans' (mN.mono (ze))).trans md ?_;intro i hi hm;rcases Y.1 hm with rfl | hm
  ·simp
  ·rcases h5 i hm with q | q
   ·simp [q]
   ·omega
theorem zu2 {w0:K} {bm room b:Nat} {L:List Rc} {Fs p:List Nat} {H:List (Nat × Ed)} {bs bo bq:Nat} {F:List Nat} (h:Mng w0 bm 3 room L Fs p H bs bo bq F) (hbF:∀k∈F,k≠b) (hbS:∀k∈Fs,k≠b) (hL:L.length < 10) (hnd:L.Nodup) (hG:Good L 3) (hp:Perm p 3) (hH:H.length < 10)
 (hD:∀(a f:Nat) (e:Ed),H[a]? =X (f,e)→∃T,Dia L 3 f e T) {ts:List (Nat × Tr)} (hts:ze2 L (H.map (·.2)) ts) (hsz:zn8 ts≤1000000) (hall:∀id,2≤id→id < L.length+2→Xm L ts id)
 {W:K} (hW:PgTo w0 b [] false 0 0 W):
 B c 50 #[d (X ⟨b,0,Z⟩),d (X ⟨bm,0,Z⟩)] W fun e' w'=>e'=M (φ #[])∧PgTo w0 b [] false 21 10000 w':=by
 obtain ⟨-,-,hFlt⟩:=h.own;have hSlt:=h.s.lt;have MG:Q (∀V,Mod [b] w0 V→Mng V bm 3 room L Fs p H bs bo bq F):=fun V md=>h.away md (fun k hk hm=>hbF k hk (by simpa using hm)) (fun k hk hm=>hbS k hk (by simpa using hm))
 have VA:Q (∀V,Mod [b] w0 V→_):=fun V md=>zv6 (MG.out V md)
 have OR:Q (∀V,Mod [b] w0 V→_):=fun V md=>zo5 (MG.out V md) (jD)
 have LI:Q (∀V,Mod [b] w0 V→B c 92 #[d (X ⟨bm,0,Z⟩)] V fun e w'=>∃v,e=M v∧NewV 3 V ((ψ H.length).map fun i=>ei (i+1)) w' v):=fun V md=>by
  obtain ⟨⟨q,hq⟩,-⟩:=(MG.out V md).own;exact yn3 hq (U)
 have NO:Q (∀V,Mod [b] w0 V→_):=fun V md=>zJ7 (MG.out V md)
 have CL:Q (∀V,Mod [b] w0 V→_):=fun V md=>zv8 (MG.out V md) (U) hnd (U) hts hsz hall
 have LN:Q (∀(w1:K) (FP:List Nat) (j:Nat) (W1:K) (g:Bool) (lo hi:Nat),Mod [b] w0 w1→(∀k∈FP,k∈[]∨w0.heap.size≤k)→j < H.length→PgTo w1 b FP g lo hi W1→hi≤700000→
  B c 93 #[d (X ⟨b,0,Z⟩),d (X ⟨bm,0,Z⟩),I C ((j+1:Nat):Int)] W1 fun e' w'=>e'=M (I .u8 0)∧PgTo w1 b FP false lo (hi+300) w'):=fun w1 FP j W1 g lo hi md hfp hj hpg hh=>by
  obtain ⟨T,hT⟩:=hD j H[j].1 H[j].2 (A hj);refine yG5 (MG.out w1 md) ?_ ?_ (U) hnd hG hp (U) (A hj) hT hpg hh
  ·intro k hk hm;rcases Y.1 hm with rfl | hm
   ·exact hbF _ hk rfl
   ·rcases hfp k hm with q | q
    ·simp at q
    ·have:=hFlt k hk;omega
  ·intro k hk hm;rcases Y.1 hm with rfl | hm
   ·exact hbS _ hk rfl
   ·rcases hfp k hm with q | q
    ·simp at q
    ·have:=hSlt k hk;omega
 have HPL:Q ((p.map ei).length=3):=wL;have HPV:Q (∀(k:Nat) (hk:k < p.length),p[k] < 3):=fun k hk=>hp.lt _ (Δ hk)
 have HPN:=o hp.len;obtain ⟨N,hN⟩:∃N,H.length=N:=⟨_,rfl⟩;rw [hN] at LI LN hH;obtain ⟨NL,hNL⟩:∃NL,L.length=NL:=⟨_,rfl⟩;rw [hNL] at NO hL;have P0:=o hW;clear h hbF hbS hnd hG hp hD hts hsz hall hW hFlt hSlt MG hN hNL;go_in;go_wp2_with fail;refine (yj2 P0.out ⟨#[118,97,114,115]⟩ (O) (O) (U)).mono ?_;rintro e v1 ⟨rfl,p1⟩;have P1:Q (PgTo w0 b [] true 4 21 v1):=p1.le (O) (U);clear p1 P0;go_wp2_with fail;refine (VA.out _ P1.out.mod).mono ?_;rintro e v2 ⟨rfl,rfl⟩;go_wp2_with fail;refine (yo8 P1.out 3 (U) (U)).mono ?_;rintro e v3 ⟨rfl,p3⟩;have P3:=o p3;clear p3 P1;go_wp2_with fail;refine (yj2 P3.out ⟨#[111,114,100,101,114]⟩ (O) (O) (U)).mono ?_;rintro e v4 ⟨rfl,p4⟩;have P4:Q (PgTo w0 b [] true 9 100 v4):=p4.le (O) (U);clear p4 P3;go_wp2_with fail;refine (OR.out _ P4.out.mod).mono ?_;rintro e v5 ⟨vo,rfl,n5⟩;obtain ⟨n0,FP,FN,hn0,hn1,q5,rv5,bk5,md5,-⟩:=P4.out.rebase n5;obtain ⟨A5,cap5,rfl⟩:=n5.shape;have Q5:=o q5;have RV5:=o rv5;have BK5:=o bk5;have MD5:=o md5;rw [HPL.out] at RV5 ⊢;clear q5 rv5 bk5 md5 n5 P4 OR;go_wp2_with fail
 go_loopw [5,20] (fun _ i wr=>∃k:Nat,i=I C k∧k≤3∧Q (PgTo v5 b FP true n0 (n0+2 *k) wr)) (fun _ i _=>3 - (intOf i).toNat)
 case atStart=>exact ⟨0,rfl,U,Q5⟩
 case round=>
  clear Q5;obtain ⟨k,rfl,hk,PR⟩:=hrel;by_cases hlt:k < 3
  ·have hlt':(k:Int) < 3:=U;have hk0:(0:Int)≤k:=U;have hkl:k < p.length:=by rw [HPN.out];exact hlt
   obtain ⟨gb,off,rfl,hc⟩:=(RV5.out _ PR.out.mod).at k (by simpa using hkl);rw [Ψ] at hc;have hz:=HPV.out k hkl;generalize p[k]=z at *;have hc':wr.cell? ⟨gb,off+k,Z⟩=X (I C (z:Int)):=hc;clear hc hkl;go_wp2_with fail;refine (yo8 PR.out z (U) (U)).mono ?_;exact Yv
  ·obtain rfl:k=3:=U;clear hk hlt;go_wp2_with fail;refine (yL6 PR.out (U)).mono ?_;rintro e v6 ⟨rfl,p6⟩;have P6:Q (PgTo w0 b [] false 9 200 v6):=(BK5.out _ _ _ _ p6).le hn0 (U);clear p6 PR BK5 RV5 MD5 hn0 hn1;go_wp2_with fail;refine (LI.out _ P6.out.mod).mono ?_;rintro e v7 ⟨vl,rfl,n7⟩;obtain ⟨n2,FL,FM,hn2,hn3,q7,rv7,bk7,md7,fp7⟩:=P6.out.rebase n7;obtain ⟨A7,cap7,rfl⟩:=n7.shape;have Q7:=o q7;have RV7:=o rv7;have BK7:=o bk7;have MD7:=o md7;have FP7:=o fp7;rw [List.length_map,List.length_range] at RV7 ⊢;clear q7 rv7 bk7 md7 n7 P6 LI fp7;go_wp2_with fail
   go_loopw [8,34] (fun _ i wr=>∃k:Nat,i=I C k∧k≤N∧Q (PgTo v7 b FL false n2 (n2+300 *k) wr)) (fun _ i _=>N - (intOf i).toNat)
   case atStart=>exact ⟨0,rfl,U,Q7⟩
   case round=>
    clear Q7;obtain ⟨k,rfl,hk,PR⟩:=hrel;by_cases hlt:k < N
    ·have hlt':(k:Int) < N:=U;have hk0:(0:Int)≤k:=U;obtain ⟨gb,off,rfl,hc⟩:=(RV7.out _ PR.out.mod).at k (by simpa using hlt);rw [Ψ,List.getElem_range] at hc;have hc':wr.cell? ⟨gb,off+k,Z⟩=X (I C ((k+1:Nat):Int)):=hc;have LK:=o (LN.out v7 FL k wr false n2 (n2+300 *k) (MD7.out _ (Mod.refl _ _)) FP7.out hlt PR.out (U));obtain ⟨m,hm⟩:∃m,k+1=m:=⟨_,rfl⟩;have HM:=o hm;rw [hm] at hc' LK;clear hc hm;go_wp2_with fail;refine LK.out.mono ?_;exact Yv
    ·obtain rfl:k=N:=U;have P8:Q (PgTo w0 b [] false 9 4000 wr):=(BK7.out _ _ _ _ PR.out).le hn2 (U);clear hk hlt PR BK7 MD7 RV7 FP7 LN hn2 hn3;go_wp2_with fail;refine (CL.out _ P8.out.mod).mono ?_;rintro e v9 ⟨rfl,m9⟩;have P9:=o (P8.out.later m9);clear m9 P8;go_wp2_with fail;refine (yj2 P9.out ⟨#[104,97,110,100,108,101,115]⟩ (O) (O) (U)).mono ?_;rintro e va ⟨rfl,pa⟩;have PA:Q (PgTo w0 b [] true 16 5000 va):=pa.le (O) (U);clear pa P9;go_wp2_with fail;refine (yo8 PA.out k (U) (U)).mono ?_;rintro e vb ⟨rfl,pb⟩;have PB:=o pb;clear pb PA;go_wp2_with fail;refine (yj2 PB.out ⟨#[110,111,100,101,115]⟩ (O) (O) (U)).mono ?_;rintro e vc ⟨rfl,pc⟩;have PC:Q (PgTo w0 b [] true 21 6000 vc):=pc.le (O) (U);clear pc PB;go_wp2_with fail;refine (NO.out _ PC.out.mod).mono ?_;rintro e vd ⟨rfl,rfl⟩;go_wp2_with fail;refine (yo8 PC.out NL (U) (U)).mono ?_;rintro e ve ⟨rfl,pe⟩;have PE:=o pe;clear pe PC;go_wp2_with fail;refine (yL6 PE.out (U)).mono ?_;rintro e vf ⟨rfl,pf⟩;have PF:=o pf;clear pf PE;go_wp2_with fail
     go_end0
     exact ⟨rfl,PF.out.le (D _) (U)⟩
open Go.RowKit
theorem yg7 {w:K} {bm room:Nat} {L:List Rc} {Fs p:List Nat} {H:List (Nat × Ed)} {bs bo bq:Nat} {F:List Nat} (h:Mng w bm 3 room L Fs p H bs bo bq F) (hL:L.length < 10) (hnd:L.Nodup) (hG:Good L 3) (hp:Perm p 3) (hH:H.length < 10)
 (hD:∀(a f:Nat) (e:Ed),H[a]? =X (f,e)→∃T,Dia L 3 f e T) {ts:List (Nat × Tr)} (hts:ze2 L (H.map (·.2)) ts) (hsz:zn8 ts≤1000000) (hall:∀id,2≤id→id < L.length+2→Xm L ts id):
 B c 19 #[d (X ⟨bm,0,Z⟩)] w fun e w'=>∃s:ByteArray,e=M (Γ s)∧20 < s.size∧Mod [] w w':=by
 obtain ⟨-,-,hFlt⟩:=h.own;have hSlt:=h.s.lt;obtain ⟨b,hb⟩:∃b,w.heap.size=b:=⟨_,rfl⟩;have M0:Q (Mod [] w (w.alloc (.cells #[d Z,G Z 0 0,.bool false] 127))):=(Mod.refl _ _).alloc _;have PG:Q (Pg (w.alloc (.cells #[d Z,G Z 0 0,.bool false] 127)) b false [] []):=⟨_,_,⟨.inl rfl,[],rfl⟩,Blk.new' w _ _ b hb.symm,Sl.nil _ _ _,ze⟩;have RP:=o (zu2 (b:=b) (h.mod M0.out) (fun k hk=>by have:=hFlt k hk;omega) (fun k hk=>by have:=hSlt k hk;omega) hL hnd hG hp hH hD hts hsz hall (PgTo.refl PG.out));have HB:=o hb;clear h hFlt hSlt hL hnd hG hp hH hD hts hsz hall PG;go_in;go_wp2_with fail;generalize w.alloc (.cells #[d Z,G Z 0 0,.bool false] 127)=w0 at *;refine RP.out.mono ?_;rintro e w1 ⟨rfl,bs1,F1,pg,hlo,hhi,m1,f1⟩;have MZ:Q (Mod [] w w1):=M0.out.trans m1 (by intro i hi hm;have:=HB.out;simp at hm;omega);have ST:=o (zU7 pg (U) (U));have HL:=o hlo
 have FF:Q (∀k∈F1,w.heap.size≤k):=fun k hk=>by
  rcases f1 k hk with q | q
  ·simp at q
  ·exact R M0.out.size q
 clear RP pg hlo hhi m1 f1;go_wp2_with fail;refine ST.out.mono ?_;rintro e w2 ⟨s,rfl,hs,m2⟩;have M2:Q (Mod [] w w2):=MZ.out.trans m2 (by intro i hi hm;have:=FF.out i hm;omega);have HS:=o hs;clear m2 hs;go_wp2_with fail;go_ret;exact ⟨s,rfl,by rw [HS.out];exact HL.out,M2.out⟩
open Go.RowKit
def l1:List Rc:=[⟨1,0,0,⟨0,0⟩,⟨0,1⟩⟩]
def l2:List Rc:=[⟨1,0,0,⟨0,0⟩,⟨0,1⟩⟩,⟨2,2,2,⟨0,1⟩,⟨0,1⟩⟩,⟨2,1,1,⟨0,3⟩,⟨0,3⟩⟩,⟨2,0,0,⟨0,0⟩,⟨0,4⟩⟩]
theorem yd9:zb0 [] 1=(l1,⟨0,2⟩):=zL
theorem yh3:zb0 l1 2=(l2,⟨0,5⟩):=zL
def tA:Tr:=.node 0 0 0 (.leaf false) 0 (.leaf true)
def tB:Tr:=.node 2 2 0 (.leaf true) 0 (.leaf true)
def tC:Tr:=.node 1 1 0 tB 0 tB
def tD:Tr:=.node 0 0 0 (.leaf false) 0 tC
theorem yM5:Rep l2 1 2 tA:=Rep.node (L:=l2) (r:=⟨1,0,0,⟨0,0⟩,⟨0,1⟩⟩) rfl rfl .zero .one
theorem yM7:Rep l2 2 3 tB:=Rep.node (L:=l2) (r:=⟨2,2,2,⟨0,1⟩,⟨0,1⟩⟩) rfl rfl .one .one
theorem repC:Rep l2 2 4 tC:=Rep.node (L:=l2) (r:=⟨2,1,1,⟨0,3⟩,⟨0,3⟩⟩) rfl rfl yM7 yM7
theorem yN7:Rep l2 2 5 tD:=Rep.node (L:=l2) (r:=⟨2,0,0,⟨0,0⟩,⟨0,4⟩⟩) rfl rfl .zero repC
theorem zd3 (f a l n:Nat) (h:f≠5):PlainE f ⟨0,a⟩ l n:=⟨fun _=>rfl,fun h5=>absurd h5 h⟩
theorem zy4 {L:List Rc} {f a l n:Nat} (h:f≠5) {r:Rc} (hr:YO L a=X r) (hf:r.f=f) (hl:l≤r.top) (h16:r.top≤16):LeadsP L f ⟨0,a⟩ l n:=⟨zd3 f a l n h,.inr ⟨r,hr,hf,hl,Nat.zero_le _,h16⟩⟩
theorem zx4 {L:List Rc} {f a l n:Nat} (h:f≠5) (ha:a < 2):LeadsP L f ⟨0,a⟩ l n:=⟨zd3 f a l n h,.inl ha⟩
theorem yF4 (L:List Rc):GoodR L 3 ⟨1,0,0,⟨0,0⟩,⟨0,1⟩⟩:=⟨⟨O,O,O,O,O,.inl rfl,zd3 _ _ _ _ (O),zd3 _ _ _ _ (O),O,O⟩,zx4 (O) (O),zx4 (O) (O)⟩
theorem yM2:Good l1 3:=by
 intro id r h;obtain ⟨h1,h2,h3⟩:=YJ h;have:id=2:=by simp [l1] at h2;omega
 subst this;obtain rfl:=J h;exact yF4 _
theorem zZ5:Good l2 3:=by
 intro id r h;obtain ⟨h1,h2,h3⟩:=YJ h;have:id=2∨id=3∨id=4∨id=5:=by simp [l2] at h2;omega
 rcases this with rfl | rfl | rfl | rfl
 ·obtain rfl:=J h;exact yF4 _
 ·obtain rfl:=J h;exact ⟨⟨O,O,O,O,O,.inl rfl,zd3 _ _ _ _ (O),zd3 _ _ _ _ (O),O,O⟩,zx4 (O) (O),zx4 (O) (O)⟩
 ·obtain rfl:=J h;exact ⟨⟨O,O,O,O,O,.inl rfl,zd3 _ _ _ _ (O),zd3 _ _ _ _ (O),O,O⟩,zy4 (O) (r:=⟨2,2,2,⟨0,1⟩,⟨0,1⟩⟩) rfl rfl (O) (O),zy4 (O) (r:=⟨2,2,2,⟨0,1⟩,⟨0,1⟩⟩) rfl rfl (O) (O)⟩
 ·obtain rfl:=J h;exact ⟨⟨O,O,O,O,O,.inl rfl,zd3 _ _ _ _ (O),zd3 _ _ _ _ (O),O,O⟩,zx4 (O) (O),zy4 (O) (r:=⟨2,1,1,⟨0,3⟩,⟨0,3⟩⟩) rfl rfl (O) (O)⟩
theorem diaA:Dia l2 3 1 ⟨0,2⟩ tA:=⟨O,O,zy4 (O) (r:=⟨1,0,0,⟨0,0⟩,⟨0,1⟩⟩) rfl rfl (O) (O),yM5,zL,zL⟩
theorem diaD:Dia l2 3 2 ⟨0,5⟩ tD:=⟨O,O,zy4 (O) (r:=⟨2,0,0,⟨0,0⟩,⟨0,4⟩⟩) rfl rfl (O) (O),yN7,zL,zL⟩
theorem yG0:∀x,x < 8→hT 1 3 x 0 tA 0=hT 2 3 x 0 tD 0:=zL
theorem yK5:l2.Nodup:=zL
theorem yv5:ze2 l2 [⟨0,2⟩,⟨0,5⟩] [(1,tA),(2,tD)]:=⟨rfl,fun i h1 h2=>by
 have:i=0∨i=1:=by simp at h1;omega
 rcases this with rfl | rfl
 ·exact yM5
 ·exact yN7⟩
theorem yN3:∀id,2≤id→id < l2.length+2→Xm l2 [(1,tA),(2,tD)] id:=by
 intro id h1 h2;have:id=2∨id=3∨id=4∨id=5:=by simp [l2] at h2;omega
 rcases this with rfl | rfl | rfl | rfl
 ·exact ⟨(1,tA),ze,tA,by simp [nds,tA],yM5⟩
 ·exact ⟨(2,tD),ze,tB,by simp [nds,tD,tC,tB],yM7⟩
 ·exact ⟨(2,tD),ze,tC,by simp [nds,tD,tC],repC⟩
 ·exact ⟨(2,tD),ze,tD,by simp [nds,tD],yN7⟩
theorem yN8:Perm (ψ 3) 3:=⟨rfl,ze,List.nodup_range⟩
theorem yA0 (w:K):B c 4 #[] w fun e w'=>e=M (.bool true)∧Mod [] w w':=by
 go_in;go_wp2_with fail;refine (zy8 3 1000 (U) (U) w).mono ?_;rintro e w1 ⟨bm,bs,bo,bq,Fs,F,rfl,mg1,m1,f1,f2⟩;have V1:=o (zi6 1 (U) (U) mg1 (ze) (ze) (ze) (U) (Good.nil 3));rw [yd9] at V1;have M1:=o m1;have G1:=o f1;have G2:=o f2
 have hbmF:Q (w.heap.size≤bm):=by
  obtain ⟨ba,bg,vk,vq,vg,Fo,q,-,-,-,-,-,-,hF,-⟩:=mg1.m;exact f2 bm (by rw [hF];simp)
 clear mg1 m1 f1 f2;go_wp2_with fail;refine V1.out.mono ?_;rintro e w2 ⟨rfl,Fs2,mg2,m2,f3⟩;have V2:=o (zi6 2 (U) (U) mg2 (ze) (by simp [l1]) (by simp [l1]) (U) yM2);rw [yh3] at V2
 have M2:Q (Mod [] w w2):=M1.out.trans m2 (by
  intro i hi hm;rcases Y.1 hm with rfl | hm
  ·have:=hbmF.out;omega
  ·have:=G1.out i hm;omega)
 have G3:Q (∀k∈Fs2,w.heap.size≤k):=fun k hk=>by
  rcases f3 k hk with q | q
  ·exact G1.out k q
  ·exact R M1.out.size q
 clear mg2 m2 f3 V1;simp only [List.nil_append,ω,Ω] at V2 ⊢;go_wp2_with fail;refine V2.out.mono ?_;rintro e w3 ⟨rfl,Fs3,mg3,m3,f4⟩
 have M3:Q (Mod [] w w3):=M2.out.trans m3 (by
  intro i hi hm;rcases Y.1 hm with rfl | hm
  ·have:=hbmF.out;omega
  ·have:=G3.out i hm;omega)
 have MG3:Q (Mng w3 bm 3 1000 l2 Fs3 (ψ 3) [(1,⟨0,2⟩),(2,⟨0,5⟩)] bs bo bq F):=mg3;clear mg3 m3 f4 V2;have SM:=o (zX2 MG3.out (O) zZ5 (O) (a:=0) (a2:=1) rfl rfl (O) diaA.root diaD.root yG0)
 have EQ:Q (∀V,Mod [] w3 V→_):=fun V md=>by
  obtain ⟨⟨q,hq⟩,-⟩:=(MG3.out.mod md).own;exact yw5 hq (O) (a:=0) (a2:=1) rfl rfl (O)
 have RP:Q (∀V,Mod [] w3 V→_):=fun V md=>yg7 (MG3.out.mod md) (O) yK5 zZ5 yN8 (O) (fun a f e ha=>by
  match a,ha with
  | 0,ha=>
   obtain ⟨rfl,rfl⟩:f=1∧e=⟨0,2⟩:=wM;exact ⟨_,diaA⟩
  | 1,ha=>
   obtain ⟨rfl,rfl⟩:f=2∧e=⟨0,5⟩:=wM;exact ⟨_,diaD⟩
  | a+2,ha=>simp at ha) yv5 (zL) yN3
 clear MG3;simp only [Nat.zero_add,Nat.reduceAdd];go_wp2_with fail;refine SM.out.mono ?_;rintro e w4 ⟨rfl,m4⟩;have M4:=o m4;clear m4 SM;go_wp2_with fail;refine (EQ.out _ M4.out).mono ?_;rintro e w5 ⟨rfl,m5⟩;have M5:=o (M4.out.trans' m5);clear m5 EQ;go_wp2_with fail;refine (RP.out _ M5.out).mono ?_;rintro e w6 ⟨s,rfl,hs,m6⟩;have M6:=o ((M3.out.trans' M5.out).trans' m6);have hs':(20:Int) < s.size:=U;clear m6 RP hs;go_wp2_with fail;go_ret;exact ⟨rfl,M6.out⟩
end Go.Proofs.YtbnpoapmnkfhkaaGreatDoor
