import Derived.Test.YtbnpoapmnkfhkaaGreatDoorZt22
import Derived.Test.YtbnpoapmnkfhkaaGreatDoorZt34
import Derived.Deep.RegionHeld3
set_option maxRecDepth 100000
set_option maxHeartbeats 4000000
set_option linter.unusedVariables false
set_option linter.unusedSimpArgs false
namespace Go.Proofs.YtbnpoapmnkfhkaaGreatDoor
open Go.Value renaming slice → u, int → s, agg → G, tuple → Δ, bool → ξ
open Option renaming none → t, some → j
open Go.Lib renaming hid → r
open Go.IntKind renaming i64 → l, u64 → N
open Go.Obj renaming cells → f
open List renaming setIfInBounds_toArray → d, set_cons_zero → U, set_cons_succ → T, getElem?_cons_zero → P, getElem?_toArray → M
open Go.World renaming block_lt_of_cell? → Z
open Go.Proofs.YtbnpoapmnkfhkaaGreatDoor.Blk renaming new' → V
open Go.RowKit renaming Hid → S
open Go.Proofs.Tryz renaming prog → O
open Nat renaming pow_le_pow_right → L, lt_of_lt_of_le → H, lt_of_le_of_lt → E, testBit_two_pow_sub_one → Ψ, testBit_and → Ξ, testBit_lt_two_pow → Θ, eq_of_testBit_eq → Γ, testBit_two_pow → ω, or_lt_two_pow → ψ, and_le_right → χ, two_pow_pos → φ, div_le_self → τ, testBit_xor → σ, and_le_left → ρ, testBit_or → π, le_trans → ν, or_zero → μ
open Go.Proofs.YtbnpoapmnkfhkaaGreatDoor renaming zc → K, Mod → I, ze → F, Blk → Φ
open Go renaming bodyPost_ret → J, Calls → D, results → C, World → B
open Go.Ending renaming returned → Ω
open Go.RowKit
theorem yd0 {n o a b:Nat} (hn:n≤5):opN o a b 4 &&& Y8 n=XE (2 ^ n) (fun i=>o.testBit (2 *(a.testBit i).toNat+(b.testBit i).toNat)):=by
 have hp:2 ^ n≤32:=zF;unfold Y8;refine Xr (E χ (jo)) fun x hx=>?_
 rw [Ξ,Ψ,decide_eq_true hx,Bool.and_true,yC0 _ _ _ _ (K)]
theorem yc4 {n:Nat} (hn:n≤5):Y8 n < 4294967296:=by
 have hp:2 ^ n≤32:=zF;have:=L (n:=2) (K) hp;unfold Y8;omega
theorem Ym {p:Prop} (h:p:=by
 have hp:2 ^ n≤32:=zF;have:=L (n:=2) (K) hp
 omega):p:=h
theorem XD {n W:Nat} (hn:n≤5) (hW:W < 2 ^ (2 ^ n)):W < 18446744073709551616:=by
 exact Ym
theorem zR7 (n Wa Wb g1 cap1 g2 cap2:Nat) (hn:n≤5) (hA:Wa < 2 ^ (2 ^ n)) (hB:Wb < 2 ^ (2 ^ n)) (w:B) (ca:w.cell? ⟨g1,0,t⟩=j (s N Wa)) (cb:w.cell? ⟨g2,0,t⟩=j (s N Wb)):
 D O 295 #[G #[s l n,u (j ⟨g1,0,t⟩) 1 cap1],G #[s l n,u (j ⟨g2,0,t⟩) 1 cap2]] w fun e w'=>e=Ω (ξ true)∧I [] w w':=by
 have h1:=Z w _ ca;have h2:=Z w _ cb;simp only at h1 h2;have RA:S (∀W,I [] w W→D O 66 #[G #[s l n,u (j ⟨g1,0,t⟩) 1 cap1]] W fun e w'=>e=Ω (ξ true)∧I [] W w'):=fun W m=>YX n Wa g1 cap1 hn hA W ((m.cell (a:=⟨g1,0,t⟩) h1 (F)).trans ca)
 have RB:S (∀W,I [] w W→D O 66 #[G #[s l n,u (j ⟨g2,0,t⟩) 1 cap2]] W fun e w'=>e=Ω (ξ true)∧I [] W w'):=fun W m=>YX n Wb g2 cap2 hn hB W ((m.cell (a:=⟨g2,0,t⟩) h2 (F)).trans cb)
 clear hA hB ca cb;obtain ⟨gk,hgk⟩:∃gk,w.heap.size=gk:=⟨_,rfl⟩;have B1:=r ((V w #[s l n,u (j ⟨g1,0,t⟩) 1 cap1] 88 gk hgk.symm).alloc (f #[s l n,u (j ⟨g2,0,t⟩) 1 cap2] 88));have B2:=r (V (w.alloc (f #[s l n,u (j ⟨g1,0,t⟩) 1 cap1] 88)) #[s l n,u (j ⟨g2,0,t⟩) 1 cap2] 88 (gk+1) (zk));have M0:S (I [] w ((w.alloc (f #[s l n,u (j ⟨g1,0,t⟩) 1 cap1] 88)).alloc (f #[s l n,u (j ⟨g2,0,t⟩) 1 cap2] 88))):=zg;go_in;go_wp2_with fail;refine (RA.out _ M0.out).mono ?_;rintro e w1 ⟨rfl,m1⟩;have M1:=r (M0.out.trans' m1);obtain ⟨a0,a1⟩:=(B1.out.mod m1 (F)).cells2;obtain ⟨b0,b1⟩:=(B2.out.mod m1 (F)).cells2;have HB1:=r (B1.out.mod m1 (F));have HB2:=r (B2.out.mod m1 (F));clear m1;go_wp2_with fail;refine (RB.out _ M1.out).mono ?_;rintro e w2 ⟨rfl,m2⟩;have M2:=r (M1.out.trans' m2);obtain ⟨a0,a1⟩:=(HB1.out.mod m2 (F)).cells2;obtain ⟨b0,b1⟩:=(HB2.out.mod m2 (F)).cells2;clear m2;go_wp2_with fail;go_ret;exact ⟨F,M2.out⟩
theorem Yl {p:Prop} (h:p:=by
 refine ⟨.inr ⟨rfl,(BG.out.set 0 (s N R)).drew,BS.out.mod MW.out (yn),B3.out.mod MW.out (yE),M3.out.trans MW.out (yN)⟩,zr⟩):p:=h
theorem Yj {p:Prop} (h:p:=by
 all_goals
  go_wp2_with fail;have MW:=r (((Mod.refl [g] w3).setCell ⟨g,0,t⟩ (s N R) (F)).drew)
  exact Yl):p:=h
theorem zC7 (o n Wa Wb g1 cap1 g2 cap2:Nat) (ho:o≤15) (hn:n≤5) (hA:Wa < 2 ^ (2 ^ n)) (hB:Wb < 2 ^ (2 ^ n)) (w:B) (ca:w.cell? ⟨g1,0,t⟩=j (s N Wa)) (cb:w.cell? ⟨g2,0,t⟩=j (s N Wb)):
 D O 292 #[s l o,G #[s l n,u (j ⟨g1,0,t⟩) 1 cap1],G #[s l n,u (j ⟨g2,0,t⟩) 1 cap2]] w (zE7 w n (XE (2 ^ n) (fun i=>o.testBit (2 *(Wa.testBit i).toNat+(Wb.testBit i).toNat)))):=by
 have h1:=Z w _ ca;have h2:=Z w _ cb;simp only at h1 h2;have PA:S (∀W,I [] w W→_):=fun W m=>zR7 n Wa Wb g1 cap1 g2 cap2 hn hA hB W ((m.cell (a:=⟨g1,0,t⟩) h1 (F)).trans ca) ((m.cell (a:=⟨g2,0,t⟩) h2 (F)).trans cb)
 have OP:=r (yL0 o Wa Wb ho (XD hn hA) (XD hn hB));have FU:=r (zv7 n hn);have BL:=r (XF n hn);have AN:=u64_and_nat (opN o Wa Wb 4) (Y8 n) (yn9 o Wa Wb (XD hn hA) (XD hn hB) 4) (qL);rw [yd0 hn] at AN;have CA:S (∀W,I [] w W→W.cell? ⟨g1,0,t⟩=j (s N Wa)∧W.cell? ⟨g2,0,t⟩=j (s N Wb)):=fun W m=>⟨(m.cell (a:=⟨g1,0,t⟩) h1 (F)).trans ca,(m.cell (a:=⟨g2,0,t⟩) h2 (F)).trans cb⟩
 have ho':(o:Int)≤15:=K;have ho0:(0:Int)≤o:=K;generalize XE (2 ^ n) _=R at *;generalize opN o Wa Wb 4=X at *;generalize Y8 n=fn at *;clear hA hB ca cb;obtain ⟨gk,hgk⟩:∃gk,w.heap.size=gk:=⟨_,rfl⟩;rw [hgk] at h1 h2;have B1:=r (((V w #[s l n,u (j ⟨g1,0,t⟩) 1 cap1] 88 gk hgk.symm).alloc (f #[s l n,u (j ⟨g2,0,t⟩) 1 cap2] 88)).alloc (f #[s l 0,u t 0 0] 88));have B2:=r ((V (w.alloc (f #[s l n,u (j ⟨g1,0,t⟩) 1 cap1] 88)) #[s l n,u (j ⟨g2,0,t⟩) 1 cap2] 88 (gk+1) (zk)).alloc (f #[s l 0,u t 0 0] 88));have B3:=r (V ((w.alloc (f #[s l n,u (j ⟨g1,0,t⟩) 1 cap1] 88)).alloc (f #[s l n,u (j ⟨g2,0,t⟩) 1 cap2] 88)) #[s l 0,u t 0 0] 88 (gk+2) (zk));have M0:S (I [] w (((w.alloc (f #[s l n,u (j ⟨g1,0,t⟩) 1 cap1] 88)).alloc (f #[s l n,u (j ⟨g2,0,t⟩) 1 cap2] 88)).alloc (f #[s l 0,u t 0 0] 88))):=zg;go_in;go_wp2_with fail;refine (PA.out _ M0.out).mono ?_;rintro e w1 ⟨rfl,m1⟩;have M1:=r (M0.out.trans' m1);replace B1:=r (B1.out.mod m1 (F));replace B2:=r (B2.out.mod m1 (F));replace B3:=r (B3.out.mod m1 (F));obtain ⟨a0,a1⟩:=B1.out.cells2;clear m1 PA M0;go_wp2_with fail;refine (BL.out _).mono ?_;rintro e w2 ⟨g,rfl,bg,hg,m2⟩;have hs1:=M1.out.size;obtain ⟨gs,hgs⟩:∃gs,w2.heap.size=gs:=⟨_,rfl⟩;have hgl:=bg.lt;have l3:=B3.out.lt;have BS:=r (V w2 #[s l n,u (j ⟨g,0,t⟩) 1 1] 88 gs hgs.symm);have MS:S (I [] w2 (w2.alloc (f #[s l n,u (j ⟨g,0,t⟩) 1 1] 88))):=zg;have BG:=r (bg.mod MS.out (F));replace B1:=r ((B1.out.mod m2 (F)).mod MS.out (F));replace B2:=r ((B2.out.mod m2 (F)).mod MS.out (F));replace B3:=r ((B3.out.mod m2 (F)).mod MS.out (F));have M3:=r ((M1.out.trans' m2).trans' MS.out);clear a0 a1;have hsz:=m2.size;have n1:¬g=gk:=K;have n2:¬gk=g:=K;have n3:¬g=gk+1:=K;have n4:¬gk+1=g:=K;have n5:¬g=gk+2:=K;have n6:¬gk+2=g:=K;have n7:¬g=gs:=K;have n8:¬gs=g:=K;have n9:¬g1=g:=K;have n10:¬g=g1:=K;have n11:¬g2=g:=K;have n12:¬g=g2:=K;have HGW:S (w.heap.size≤g):=yc;clear bg m2 hg MS M1 BL hgl l3 hsz hs1;go_wp2_with fail;generalize w2.alloc (f #[s l n,u (j ⟨g,0,t⟩) 1 1] 88)=w3 at *
 go_loopw [29] (fun i wr=>(i=s l 0∧wr=w3)∨(i=s l 1∧S (Φ wr g #[s N R] 185)∧S (Φ wr gs #[s l n,u (j ⟨g,0,t⟩) 1 1] 88)∧S (Φ wr (gk+2) #[s l 0,u t 0 0] 88)∧S (I [] w wr))) (fun i _=>1 - (intOf i).toNat)
 case atStart=>exact .inl ⟨rfl,rfl⟩
 case round=>
  rcases hrel with ⟨rfl,hw⟩ | ⟨rfl,BG2,BS2,B32,MM⟩
  ·replace hw:=hw.symm;subst hw;obtain ⟨s0,s1⟩:=BS.out.cells2;obtain ⟨a0,a1⟩:=B1.out.cells2;obtain ⟨b0,b1⟩:=B2.out.cells2;obtain ⟨ca,cb⟩:=CA.out _ M3.out;have g0:=BG.out.cell 0;have gf:=BG.out.froz 0;simp only [M,P] at g0;have hgl:=BG.out.lt;have hsl:=BS.out.lt;go_wp2_with fail
   go_region_held3 (fun w'=>w'.cell? ⟨gs,1,t⟩=j (u (j ⟨g,0,t⟩) 1 1)∧w'.cell? ⟨gk,0,t⟩=j (s l n)∧w'.cell? ⟨gk,1,t⟩=j (u (j ⟨g1,0,t⟩) 1 cap1)∧w'.cell? ⟨gk+1,1,t⟩=j (u (j ⟨g2,0,t⟩) 1 cap2)∧w'.cell? ⟨g1,0,t⟩=j (s N Wa)∧w'.cell? ⟨g2,0,t⟩=j (s N Wb)) (go_keep) (first | (go_at_call 296;refine (OP.out _).mono ?_;rintro e' w' ⟨rfl,rfl⟩) | (go_at_call 106;refine (FU.out _).mono ?_;rintro e' w' ⟨rfl,rfl⟩))
   exact Yj
  ·obtain ⟨s0,s1⟩:=BS2.out.cells2;obtain ⟨r0,r1⟩:=B32.out.cells2;obtain ⟨f0,f1,-⟩:=B32.out.frozs;have hsl:=BS2.out.lt;have hrl:=B32.out.lt;go_wp2_with fail;have BR:=(B32.out.set 0 (s l n)).set 1 (u (j ⟨g,0,t⟩) 1 1);simp only [d,U,T] at BR;have MR:I [gk+2] wr ((wr.setCell ⟨gk+2,0,t⟩ (s l n)).setCell ⟨gk+2,1,t⟩ (u (j ⟨g,0,t⟩) 1 1)):=zg;have BGR:=BG2.out.mod MR (yf);have MF:=MM.out.trans MR (zI);obtain ⟨z0,z1⟩:=BR.cells2;generalize (wr.setCell ⟨gk+2,0,t⟩ (s l n)).setCell ⟨gk+2,1,t⟩ (u (j ⟨g,0,t⟩) 1 1)=wx at *;refine J (v:=Δ #[G #[s l n,u (j ⟨g,0,t⟩) 1 1],s .u8 0]) (by simp [C,Tryz.results292,go_sem,z0,z1];try rfl) rfl ?_;exact ⟨g,rfl,BGR,HGW.out,MF⟩
open Go.RowKit
def zz6 (w:B) (nv W:Nat) (e:Ending) (w':B):Prop:=
 ∃g,e=Ω (G #[s l nv,u (j ⟨g,0,t⟩) 1 1])∧Φ w' g #[s N (W:Nat)] 185∧w.heap.size≤g∧I [] w w'
theorem Yk {p:Prop} (h:p:=by
 go_region_held3 (fun w'=>w'.cell? ⟨gs,1,t⟩=j (u (j ⟨g,0,t⟩) 1 1)∧w'.cell? ⟨gk,0,t⟩=j (s l n)) (go_keep) (first | (go_at_call 106;refine (FU.out _).mono ?_;rintro e' w' ⟨rfl,rfl⟩))
 exact Yj):p:=h
theorem yg9 (n W R g1 cap1:Nat) (hn:n≤5) (hA:W < 2 ^ (2 ^ n)) (hR:(18446744073709551615 ^^^ W) &&& Y8 n=R) (w:B) (ca:w.cell? ⟨g1,0,t⟩=j (s N W)):
 D O 317 #[G #[s l n,u (j ⟨g1,0,t⟩) 1 cap1]] w (zz6 w n R):=by
 have h1:=Z w _ ca;simp only at h1;have FU:=r (zv7 n hn);have BL:=r (XF n hn);have XN:bits .xor N IntKind.u64.max (W:Int)=((18446744073709551615 ^^^ W:Nat):Int):=u64_xor_nat 18446744073709551615 W (zi) (XD hn hA);have AN:=u64_and_nat (18446744073709551615 ^^^ W) (Y8 n) (Nat.xor_lt_two_pow (n:=64) (zi) (XD hn hA)) (qL);rw [hR] at AN;have CA:S (∀W',I [] w W'→W'.cell? ⟨g1,0,t⟩=j (s N W)):=fun W' m=>(m.cell (a:=⟨g1,0,t⟩) h1 (F)).trans ca
 clear hR hA ca;generalize 18446744073709551615 ^^^ W=X at *;generalize Y8 n=fn at *;obtain ⟨gk,hgk⟩:∃gk,w.heap.size=gk:=⟨_,rfl⟩;rw [hgk] at h1;have B1:=r ((V w #[s l n,u (j ⟨g1,0,t⟩) 1 cap1] 88 gk hgk.symm).alloc (f #[s l 0,u t 0 0] 88));have B3:=r (V (w.alloc (f #[s l n,u (j ⟨g1,0,t⟩) 1 cap1] 88)) #[s l 0,u t 0 0] 88 (gk+1) (zk));have M1:S (I [] w ((w.alloc (f #[s l n,u (j ⟨g1,0,t⟩) 1 cap1] 88)).alloc (f #[s l 0,u t 0 0] 88))):=zg;go_in;go_wp2_with fail;have l3:=B3.out.lt;generalize (w.alloc (f #[s l n,u (j ⟨g1,0,t⟩) 1 cap1] 88)).alloc (f #[s l 0,u t 0 0] 88)=w1 at *;refine (BL.out _).mono ?_;rintro e w2 ⟨g,rfl,bg,hg,m2⟩;have hs1:=M1.out.size;obtain ⟨gs,hgs⟩:∃gs,w2.heap.size=gs:=⟨_,rfl⟩;have hgl:=bg.lt;have BS:=r (V w2 #[s l n,u (j ⟨g,0,t⟩) 1 1] 88 gs hgs.symm);have MS:S (I [] w2 (w2.alloc (f #[s l n,u (j ⟨g,0,t⟩) 1 1] 88))):=zg;have BG:=r (bg.mod MS.out (F));replace B1:=r ((B1.out.mod m2 (F)).mod MS.out (F));replace B3:=r ((B3.out.mod m2 (F)).mod MS.out (F));have M3:=r ((M1.out.trans' m2).trans' MS.out);have hsz:=m2.size;have n1:¬g=gk:=K;have n2:¬gk=g:=K;have n5:¬g=gk+1:=K;have n6:¬gk+1=g:=K;have n7:¬g=gs:=K;have n8:¬gs=g:=K;have n9:¬g1=g:=K;have n10:¬g=g1:=K;have HGW:S (w.heap.size≤g):=yc;clear bg m2 hg MS M1 BL hgl l3 hsz hs1;obtain ⟨a0,a1⟩:=B1.out.cells2;go_wp2_with fail;generalize w2.alloc (f #[s l n,u (j ⟨g,0,t⟩) 1 1] 88)=w3 at *
 go_loopw [12] (fun i wr=>(i=s l 0∧wr=w3)∨(i=s l 1∧S (Φ wr g #[s N R] 185)∧S (Φ wr gs #[s l n,u (j ⟨g,0,t⟩) 1 1] 88)∧S (Φ wr (gk+1) #[s l 0,u t 0 0] 88)∧S (I [] w wr))) (fun i _=>1 - (intOf i).toNat)
 case atStart=>exact .inl ⟨rfl,rfl⟩
 case round=>
  rcases hrel with ⟨rfl,hw⟩ | ⟨rfl,BG2,BS2,B32,MM⟩
  ·replace hw:=hw.symm;subst hw;obtain ⟨s0,s1⟩:=BS.out.cells2;have ca:=CA.out _ M3.out;have g0:=BG.out.cell 0;have gf:=BG.out.froz 0;simp only [M,P] at g0;have hgl:=BG.out.lt;have hsl:=BS.out.lt;go_wp2_with fail;exact Yk
  ·obtain ⟨s0,s1⟩:=BS2.out.cells2;obtain ⟨r0,r1⟩:=B32.out.cells2;obtain ⟨f0,f1,-⟩:=B32.out.frozs;have hsl:=BS2.out.lt;have hrl:=B32.out.lt;go_wp2_with fail;have BR:=(B32.out.set 0 (s l n)).set 1 (u (j ⟨g,0,t⟩) 1 1);simp only [d,U,T] at BR;have MR:I [gk+1] wr ((wr.setCell ⟨gk+1,0,t⟩ (s l n)).setCell ⟨gk+1,1,t⟩ (u (j ⟨g,0,t⟩) 1 1)):=zg;have BGR:=BG2.out.mod MR (yf);have MF:=MM.out.trans MR (zI);obtain ⟨z0,z1⟩:=BR.cells2;generalize (wr.setCell ⟨gk+1,0,t⟩ (s l n)).setCell ⟨gk+1,1,t⟩ (u (j ⟨g,0,t⟩) 1 1)=wx at *;refine J (v:=G #[s l n,u (j ⟨g,0,t⟩) 1 1]) (by simp [C,Tryz.results317,go_sem,z0,z1];try rfl) rfl ?_;exact ⟨g,rfl,BGR,HGW.out,MF⟩
theorem zu5 (n:Nat) (hn:n≤5) (w:B):D O 315 #[s l n] w (zE7 w n 0):=by
 have MY:=r (zc7 n (K));have BL:=r (XF n hn);obtain ⟨gk,hgk⟩:∃gk,w.heap.size=gk:=⟨_,rfl⟩;have B3:=r (V w #[s l 0,u t 0 0] 88 gk hgk.symm);have M1:S (I [] w (w.alloc (f #[s l 0,u t 0 0] 88))):=zg;go_in;go_wp2_with fail;refine (MY.out _).mono ?_;rintro e w1 ⟨rfl,rfl⟩;go_wp2_with fail;refine (BL.out _).mono ?_;rintro e w2 ⟨g,rfl,bg,hg,m2⟩;have l3:=B3.out.lt;replace B3:=r (B3.out.mod m2 (F));have M2:=r (M1.out.trans' m2);have n5:¬g=gk:=K;have n6:¬gk=g:=K;have HGW:S (w.heap.size≤g):=wu;have BG:=r bg;obtain ⟨r0,r1⟩:=B3.out.cells2;obtain ⟨f0,f1,-⟩:=B3.out.frozs;have hrl:=B3.out.lt;clear bg hg m2 M1 l3 BL MY;go_wp2_with fail;have BR:=(B3.out.set 0 (s l n)).set 1 (u (j ⟨g,0,t⟩) 1 1);simp only [d,U,T] at BR;have MR:I [gk] w2 ((w2.setCell ⟨gk,0,t⟩ (s l n)).setCell ⟨gk,1,t⟩ (u (j ⟨g,0,t⟩) 1 1)):=zg;have BGR:=BG.out.mod MR (yf);have MF:=M2.out.trans MR (zI);obtain ⟨z0,z1⟩:=BR.cells2;generalize (w2.setCell ⟨gk,0,t⟩ (s l n)).setCell ⟨gk,1,t⟩ (u (j ⟨g,0,t⟩) 1 1)=wx at *;refine J (v:=Δ #[G #[s l n,u (j ⟨g,0,t⟩) 1 1],s .u8 0]) (by simp [C,Tryz.results315,go_sem,z0,z1];try rfl) rfl ?_;exact ⟨g,rfl,BGR,HGW.out,MF⟩
theorem yg0 (n:Nat) (hn:n≤5) (w:B):D O 316 #[s l n] w (zE7 w n (Y8 n)):=by
 have MY:=r (zc7 n (K));have BL:=r (XF n hn)
 have hfull:(18446744073709551615 ^^^ 0) &&& Y8 n=Y8 n:=by
  have:=yc4 hn;rw [Nat.xor_zero,show (18446744073709551615:Nat)=2 ^ 64 - 1 from rfl,Nat.and_comm,Nat.and_two_pow_sub_one_eq_mod,Nat.mod_eq_of_lt (K)]
 have NT:S (∀W g,W.cell? ⟨g,0,t⟩=j (s N ((0:Nat):Int))→D O 317 #[G #[s l n,u (j ⟨g,0,t⟩) 1 1]] W (zz6 W n (Y8 n))):=fun W g c=>yg9 n 0 (Y8 n) g 1 hn (φ _) hfull W c
 generalize Y8 n=fn at *;clear hfull;obtain ⟨gk,hgk⟩:∃gk,w.heap.size=gk:=⟨_,rfl⟩;have B3:=r (V w #[s l 0,u t 0 0] 88 gk hgk.symm);have M1:S (I [] w (w.alloc (f #[s l 0,u t 0 0] 88))):=zg;go_in;go_wp2_with fail;refine (MY.out _).mono ?_;rintro e w1 ⟨rfl,rfl⟩;go_wp2_with fail;refine (BL.out _).mono ?_;rintro e w2 ⟨g0,rfl,bg0,hg0,m2⟩;have NX:=r (NT.out w2 g0 (by have:=bg0.cell 0;simpa using this));have M2:=r (M1.out.trans' m2);have l3:=B3.out.lt;have hz2:=m2.size;replace B3:=r (B3.out.mod m2 (F));clear bg0 hg0 m2 BL NT;go_wp2_with fail;refine NX.out.mono ?_;rintro e w4 ⟨g,rfl,bg,hg,m4⟩;replace B3:=r (B3.out.mod m4 (F));have M4:=r (M2.out.trans' m4);have n5:¬g=gk:=K;have n6:¬gk=g:=K;have HGW:S (w.heap.size≤g):=by show _≤_;have:=M2.out.size;omega
 have BG:=r bg;obtain ⟨r0,r1⟩:=B3.out.cells2;obtain ⟨f0,f1,-⟩:=B3.out.frozs;have hrl:=B3.out.lt;clear bg hg m4 M1 M2 l3 hz2 MY NX;go_wp2_with fail;have BR:=(B3.out.set 0 (s l n)).set 1 (u (j ⟨g,0,t⟩) 1 1);simp only [d,U,T] at BR;have MR:I [gk] w4 ((w4.setCell ⟨gk,0,t⟩ (s l n)).setCell ⟨gk,1,t⟩ (u (j ⟨g,0,t⟩) 1 1)):=zg;have BGR:=BG.out.mod MR (yf);have MF:=M4.out.trans MR (zI);obtain ⟨z0,z1⟩:=BR.cells2;generalize (w4.setCell ⟨gk,0,t⟩ (s l n)).setCell ⟨gk,1,t⟩ (u (j ⟨g,0,t⟩) 1 1)=wx at *;refine J (v:=Δ #[G #[s l n,u (j ⟨g,0,t⟩) 1 1],s .u8 0]) (by simp [C,Tryz.results316,go_sem,z0,z1];try rfl) rfl ?_;exact ⟨g,rfl,BGR,HGW.out,MF⟩
open Go.RowKit
def zK0 (v:Nat):Nat→Nat
 | 0=>0
 | k+1=>if k.testBit v then zK0 v k ||| 2 ^ k else zK0 v k
theorem zZ0 (v:Nat):∀k,zK0 v k < 2 ^ k:=by
 intro k
 induction k with
 | zero=>exact φ 0
 | succ k ih=>
  have hp:2 ^ (k+1)=2 ^ k *2:=Nat.pow_succ ..;rw [zK0];split
  ·exact ψ (K) (Nat.pow_lt_pow_right (K) (K))
  ·omega
theorem yd6 (v:Nat):∀k i,(zK0 v k).testBit i=(decide (i < k) && i.testBit v):=by
 intro k
 induction k with
 | zero=>intro i;simp [zK0]
 | succ k ih=>
  intro i;rw [zK0];by_cases q:i=k
  ·subst q;split
   ·rename_i h;rw [π,ih,ω,h];simp
   ·rename_i h;rw [ih,Bool.eq_false_iff.2 h];simp
  ·have h1:decide (i < k+1)=decide (i < k):=zj;have h2:¬k=i:=fun e=>q e.symm
   split
   ·rw [π,ih,ω,h1];simp [h2]
   ·rw [ih,h1]
theorem yh8 (v:Nat):zK0 v 64=ze6 v:=Xr (zZ0 v 64) fun x hx=>by rw [yd6];simp [hx]
theorem yN9 {k:Nat} (hk:k < 64):IntKind.u64.wrap (2 ^ k)=((2 ^ k:Nat):Int):=by
 have hp:2 ^ k < 18446744073709551616:=wB;rw [show ((2:Int) ^ k)=((2 ^ k:Nat):Int) from F];generalize 2 ^ k=z at *;exact IntWalk.u64_in _ ⟨K,K⟩
theorem yf4 {y v k:Nat} (hy:y < 18446744073709551616) (hk:k < 64):bits .or N (y:Int) (IntKind.u64.wrap (IntKind.u64.wrap (bits .and l ((k:Int) / 2 ^ v) 1) *2 ^ k))=((if k.testBit v then y ||| 2 ^ k else y:Nat):Int):=by
 have e1:(k:Int) / 2 ^ v=((k / 2 ^ v:Nat):Int):=yk;have h1:k / 2 ^ v≤64:=ν (τ _ _) (K);have hp:2 ^ k < 18446744073709551616:=wB;rw [e1,zf7 _ (K),Nat.testBit_eq_decide_div_mod_eq];by_cases q:k / 2 ^ v % 2=1
 ·rw [q,if_pos (F),show IntKind.u64.wrap ((1:Nat):Int) *2 ^ k=2 ^ k by rw [show IntKind.u64.wrap ((1:Nat):Int)=1 from rfl];omega,yN9 hk];exact u64_or_nat _ _ hy hp
 ·have q0:k / 2 ^ v % 2=0:=K;rw [q0,if_neg (F),show IntKind.u64.wrap ((0:Nat):Int) *2 ^ k=0 by rw [show IntKind.u64.wrap ((0:Nat):Int)=0 from rfl];omega];have:=u64_or_nat y 0 hy (K);rw [μ] at this;exact this
theorem zs2 (v:Nat) (hv:v≤5) (w:B):D O 325 #[s l v] w fun e w'=>e=Ω (s N (ze6 v:Nat))∧w'=w:=by
 have CR:=r (yh8 v);have CL:=r (zZ0 v);have CS:S (∀k,zK0 v (k+1)=if k.testBit v then zK0 v k ||| 2 ^ k else zK0 v k):=fun k=>rfl
 have C0:S (zK0 v 0=0):=rfl;have hv0:(0:Int)≤v:=K;have hv5:(v:Int)≤5:=K;generalize zK0 v=cr at *;generalize ze6 v=cn at *;go_in;go_wp2_with fail
 go_loopw [3,5] (fun c i wr=>∃k y:Nat,i=s l k∧k≤64∧c=s N y∧S (y=cr k)∧wr=w) (fun _ i _=>64 - (intOf i).toNat)
 case atStart=>exact ⟨0,0,rfl,K,rfl,C0.out.symm,rfl⟩
 case round=>
  obtain ⟨k,y,rfl,hk,rfl,hy,rfl⟩:=hrel;by_cases hlt:k < 64
  ·have hlt':(k:Int) < 64:=K;have hk0:(0:Int)≤k:=K
   have HO:S (bits .or N (y:Int) (IntKind.u64.wrap (IntKind.u64.wrap (bits .and l ((k:Int) / 2 ^ v) 1) *2 ^ k))=((cr (k+1):Nat):Int)):=by
    show _=_;rw [CS.out,←hy.out];refine yf4 ?_ hlt;rw [hy.out];exact H (CL.out k) (by have:=L (n:=2) (K) (show k≤64 from K);exact this)
   go_wp2_with fail;refine ⟨?_,zR⟩;exact ⟨k+1,cr (k+1),F,K,by rw [HO.out],rfl,trivial⟩
  ·obtain rfl:k=64:=K;go_wp2_with fail;go_ret;exact ⟨by rw [←CR.out,←hy.out];rfl,rfl⟩
theorem colF {n v:Nat} (hn:n≤5):ze6 v &&& Y8 n=XE (2 ^ n) (fun x=>x.testBit v):=by
 have hp:2 ^ n≤32:=zF;unfold Y8;refine Xr (E χ (jo)) fun x hx=>?_
 rw [Ξ,Ψ,decide_eq_true hx,Bool.and_true,zf6 (K)]
theorem ye3 (n v:Nat) (hn:n≤5) (hv:v < n) (w:B):D O 324 #[s l n,s l v] w (zz6 w n (XE (2 ^ n) (fun x=>x.testBit v))):=by
 have FU:=r (zv7 n hn);have CO:=r (zs2 v (K));have BL:=r (XF n hn);have AN:=u64_and_nat (ze6 v) (Y8 n) (H (Xj 64 _) (zi)) (qL);rw [colF hn] at AN;have hv6:(v:Int) < 6:=K;have hv0:(0:Int)≤v:=K;generalize XE (2 ^ n) _=R at *;generalize ze6 v=X at *;generalize Y8 n=fn at *;obtain ⟨gk,hgk⟩:∃gk,w.heap.size=gk:=⟨_,rfl⟩;have B3:=r (V w #[s l 0,u t 0 0] 88 gk hgk.symm);have M1:S (I [] w (w.alloc (f #[s l 0,u t 0 0] 88))):=zg;go_in;go_wp2_with fail;have l3:=B3.out.lt;generalize w.alloc (f #[s l 0,u t 0 0] 88)=w1 at *;refine (BL.out _).mono ?_;rintro e w2 ⟨g,rfl,bg,hg,m2⟩;have hs1:=M1.out.size;obtain ⟨gs,hgs⟩:∃gs,w2.heap.size=gs:=⟨_,rfl⟩;have hgl:=bg.lt;have BS:=r (V w2 #[s l n,u (j ⟨g,0,t⟩) 1 1] 88 gs hgs.symm);have MS:S (I [] w2 (w2.alloc (f #[s l n,u (j ⟨g,0,t⟩) 1 1] 88))):=zg;have BG:=r (bg.mod MS.out (F));replace B3:=r ((B3.out.mod m2 (F)).mod MS.out (F));have M3:=r ((M1.out.trans' m2).trans' MS.out);have hsz:=m2.size;have n5:¬g=gk:=K;have n6:¬gk=g:=K;have n7:¬g=gs:=K;have n8:¬gs=g:=K;have HGW:S (w.heap.size≤g):=yc;clear bg m2 hg MS M1 BL hgl l3 hsz hs1;go_wp2_with fail;generalize w2.alloc (f #[s l n,u (j ⟨g,0,t⟩) 1 1] 88)=w3 at *
 go_loopw [12] (fun i wr=>(i=s l 0∧wr=w3)∨(i=s l 1∧S (Φ wr g #[s N R] 185)∧S (Φ wr gs #[s l n,u (j ⟨g,0,t⟩) 1 1] 88)∧S (Φ wr gk #[s l 0,u t 0 0] 88)∧S (I [] w wr))) (fun i _=>1 - (intOf i).toNat)
 case atStart=>exact .inl ⟨rfl,rfl⟩
 case round=>
  rcases hrel with ⟨rfl,hw⟩ | ⟨rfl,BG2,BS2,B32,MM⟩
  ·replace hw:=hw.symm;subst hw;obtain ⟨s0,s1⟩:=BS.out.cells2;have g0:=BG.out.cell 0;have gf:=BG.out.froz 0;simp only [M,P] at g0;have hgl:=BG.out.lt;have hsl:=BS.out.lt;go_wp2_with fail
   go_region_held3 (fun w'=>w'.cell? ⟨gs,1,t⟩=j (u (j ⟨g,0,t⟩) 1 1)) (go_keep) (first | (go_at_call 106;refine (FU.out _).mono ?_;rintro e' w' ⟨rfl,rfl⟩) | (go_at_call 325;refine (CO.out _).mono ?_;rintro e' w' ⟨rfl,rfl⟩))
   exact Yj
  ·obtain ⟨s0,s1⟩:=BS2.out.cells2;obtain ⟨r0,r1⟩:=B32.out.cells2;obtain ⟨f0,f1,-⟩:=B32.out.frozs;have hsl:=BS2.out.lt;have hrl:=B32.out.lt;go_wp2_with fail;have BR:=(B32.out.set 0 (s l n)).set 1 (u (j ⟨g,0,t⟩) 1 1);simp only [d,U,T] at BR;have MR:I [gk] wr ((wr.setCell ⟨gk,0,t⟩ (s l n)).setCell ⟨gk,1,t⟩ (u (j ⟨g,0,t⟩) 1 1)):=zg;have BGR:=BG2.out.mod MR (yf);have MF:=MM.out.trans MR (zI);obtain ⟨z0,z1⟩:=BR.cells2;generalize (wr.setCell ⟨gk,0,t⟩ (s l n)).setCell ⟨gk,1,t⟩ (u (j ⟨g,0,t⟩) 1 1)=wx at *;refine J (v:=G #[s l n,u (j ⟨g,0,t⟩) 1 1]) (by simp [C,Tryz.results324,go_sem,z0,z1];try rfl) rfl ?_;exact ⟨g,rfl,BGR,HGW.out,MF⟩
theorem zB2 (n v:Nat) (hn:n≤5) (hv:v < n) (w:B):D O 323 #[s l n,s l v] w (zE7 w n (XE (2 ^ n) (fun x=>x.testBit v))):=by
 have MY:=r (zc7 n (K));have SI:=r (ye3 n v hn hv);have hv0:(0:Int)≤v:=K;have hvn:(v:Int) < n:=K;generalize XE (2 ^ n) _=R at *;obtain ⟨gk,hgk⟩:∃gk,w.heap.size=gk:=⟨_,rfl⟩;have B3:=r (V w #[s l 0,u t 0 0] 88 gk hgk.symm);have M1:S (I [] w (w.alloc (f #[s l 0,u t 0 0] 88))):=zg;go_in;go_wp2_with fail;refine (MY.out _).mono ?_;rintro e w1 ⟨rfl,rfl⟩;go_wp2_with fail;refine (SI.out _).mono ?_;rintro e w4 ⟨g,rfl,bg,hg,m4⟩;have l3:=B3.out.lt;replace B3:=r (B3.out.mod m4 (F));have M4:=r (M1.out.trans' m4);have n5:¬g=gk:=K;have n6:¬gk=g:=K;have HGW:S (w.heap.size≤g):=wu;have BG:=r bg;obtain ⟨r0,r1⟩:=B3.out.cells2;obtain ⟨f0,f1,-⟩:=B3.out.frozs;have hrl:=B3.out.lt;clear bg hg m4 M1 l3 MY SI;go_wp2_with fail;have BR:=(B3.out.set 0 (s l n)).set 1 (u (j ⟨g,0,t⟩) 1 1);simp only [d,U,T] at BR;have MR:I [gk] w4 ((w4.setCell ⟨gk,0,t⟩ (s l n)).setCell ⟨gk,1,t⟩ (u (j ⟨g,0,t⟩) 1 1)):=zg;have BGR:=BG.out.mod MR (yf);have MF:=M4.out.trans MR (zI);obtain ⟨z0,z1⟩:=BR.cells2;generalize (w4.setCell ⟨gk,0,t⟩ (s l n)).setCell ⟨gk,1,t⟩ (u (j ⟨g,0,t⟩) 1 1)=wx at *;refine J (v:=Δ #[G #[s l n,u (j ⟨g,0,t⟩) 1 1],s .u8 0]) (by simp [C,Tryz.results323,go_sem,z0,z1];try rfl) rfl ?_;exact ⟨g,rfl,BGR,HGW.out,MF⟩
open Go.RowKit
theorem yI6 {v:Nat} (hv:v < 5):min (IntKind.u64.wrap (2 ^ v)).toNat 64=2 ^ v:=by
 obtain rfl | rfl | rfl | rfl | rfl:v=0∨v=1∨v=2∨v=3∨v=4:=K
 all_goals rfl
theorem subM {b:Nat} (hb:b < 18446744073709551616):18446744073709551615 - b=18446744073709551615 ^^^ b:=by
 apply Γ;intro i;have hb':b < 2 ^ 64:=hb;rw [show (18446744073709551615:Nat) - b=2 ^ 64 - (b+1) from K,Nat.testBit_two_pow_sub_succ hb',σ,zw7];by_cases q:i < 64
 ·simp [q]
 ·have:b.testBit i=false:=Θ (H hb' (L (K) (K)));simp [q,this]
theorem yM8 {A v:Nat} (hA:A < 4294967296) (hv:v < 5):bits .or N (A:Int) (IntKind.u64.wrap ((A:Int) *2 ^ min (IntKind.u64.wrap (2 ^ v)).toNat 64))=((A ||| A *2 ^ (2 ^ v):Nat):Int)∧A ||| A *2 ^ (2 ^ v) < 18446744073709551616:=by
 have hp:2 ^ (2 ^ v)≤65536:=by
  have h1:=L (n:=2) (K) (show v≤4 from K);have h2:=L (n:=2) (K) h1;omega
 have hm:A *2 ^ (2 ^ v) < 18446744073709551616:=by
  have:=Nat.mul_le_mul (show A≤4294967295 from K) hp;omega
 refine ⟨?_,ψ (n:=64) (K) hm⟩;rw [yI6 hv,show ((A:Int) *2 ^ (2 ^ v))=((A *2 ^ (2 ^ v):Nat):Int) from F];generalize A *2 ^ (2 ^ v)=z at *;rw [IntWalk.u64_in _ ⟨K,K⟩];exact u64_or_nat _ _ (K) hm
theorem Yi {p:Prop} (h:p:=by
 obtain ⟨s0,s1⟩:=BS2.out.cells2;obtain ⟨r0,r1⟩:=B32.out.cells2;obtain ⟨f0,f1,-⟩:=B32.out.frozs;have hsl:=BS2.out.lt;have hrl:=B32.out.lt;go_wp2_with fail;have BR:=(B32.out.set 0 (s l n)).set 1 (u (j ⟨g,0,t⟩) 1 1);simp only [d,U,T] at BR;have MR:I [gk+1] wr ((wr.setCell ⟨gk+1,0,t⟩ (s l n)).setCell ⟨gk+1,1,t⟩ (u (j ⟨g,0,t⟩) 1 1)):=zg;have BGR:=BG2.out.mod MR (yf);have MF:=MM.out.trans MR (zI);obtain ⟨z0,z1⟩:=BR.cells2;generalize (wr.setCell ⟨gk+1,0,t⟩ (s l n)).setCell ⟨gk+1,1,t⟩ (u (j ⟨g,0,t⟩) 1 1)=wx at *;refine J (v:=G #[s l n,u (j ⟨g,0,t⟩) 1 1]) (by simp [C,Tryz.results348,go_sem,z0,z1];try rfl) rfl ?_
 exact ⟨g,rfl,BGR,HGW.out,MF⟩):p:=h
theorem yv0 (n v W R g1 cap1:Nat) (hn:n≤5) (hv:v < n) (hA:W < 2 ^ (2 ^ n)) (hR:zh4 n W v true=R) (w:B) (ca:w.cell? ⟨g1,0,t⟩=j (s N W)):
 D O 348 #[G #[s l n,u (j ⟨g1,0,t⟩) 1 cap1],s l v,ξ true] w (zz6 w n R):=by
 have h1:=Z w _ ca;simp only at h1;have BL:=r (XF n hn);have CO:=r (zs2 v (K));have AN:=u64_and_nat W (ze6 v) (XD hn hA) (H (Xj 64 _) (zi));have hwl:W &&& ze6 v < 18446744073709551616:=E ρ (XD hn hA);have OR:=u64_or_nat (W &&& ze6 v) ((W &&& ze6 v) / 2 ^ (2 ^ v)) hwl (E (τ _ _) hwl);rw [zX4 hn hv hA,hR] at OR
 have HE:S (bits .or N ((W &&& ze6 v:Nat):Int) (((W &&& ze6 v:Nat):Int) / 2 ^ min (IntKind.u64.wrap (2 ^ v)).toNat 64)=(R:Int)):=by
  show _=_;rw [yI6 (show v < 5 from K),←OR,Int.natCast_ediv];simp
 clear OR;have hv6:(v:Int) < 6:=K;have hv0:(0:Int)≤v:=K;have CA:S (∀W',I [] w W'→W'.cell? ⟨g1,0,t⟩=j (s N W)):=fun W' m=>(m.cell (a:=⟨g1,0,t⟩) h1 (F)).trans ca
 clear hR hA ca;clear hwl;generalize W &&& ze6 v=X at *;generalize ze6 v=cn at *;obtain ⟨gk,hgk⟩:∃gk,w.heap.size=gk:=⟨_,rfl⟩;rw [hgk] at h1;have B1:=r ((V w #[s l n,u (j ⟨g1,0,t⟩) 1 cap1] 88 gk hgk.symm).alloc (f #[s l 0,u t 0 0] 88));have B3:=r (V (w.alloc (f #[s l n,u (j ⟨g1,0,t⟩) 1 cap1] 88)) #[s l 0,u t 0 0] 88 (gk+1) (zk));have M1:S (I [] w ((w.alloc (f #[s l n,u (j ⟨g1,0,t⟩) 1 cap1] 88)).alloc (f #[s l 0,u t 0 0] 88))):=zg;go_in;go_wp2_with fail;have l3:=B3.out.lt;generalize (w.alloc (f #[s l n,u (j ⟨g1,0,t⟩) 1 cap1] 88)).alloc (f #[s l 0,u t 0 0] 88)=w1 at *;refine (BL.out _).mono ?_;rintro e w2 ⟨g,rfl,bg,hg,m2⟩;have hs1:=M1.out.size;obtain ⟨gs,hgs⟩:∃gs,w2.heap.size=gs:=⟨_,rfl⟩;have hgl:=bg.lt;have BS:=r (V w2 #[s l n,u (j ⟨g,0,t⟩) 1 1] 88 gs hgs.symm);have MS:S (I [] w2 (w2.alloc (f #[s l n,u (j ⟨g,0,t⟩) 1 1] 88))):=zg;have BG:=r (bg.mod MS.out (F));replace B1:=r ((B1.out.mod m2 (F)).mod MS.out (F));replace B3:=r ((B3.out.mod m2 (F)).mod MS.out (F));have M3:=r ((M1.out.trans' m2).trans' MS.out);have hsz:=m2.size;have n1:¬g=gk:=K;have n2:¬gk=g:=K;have n5:¬g=gk+1:=K;have n6:¬gk+1=g:=K;have n7:¬g=gs:=K;have n8:¬gs=g:=K;have n9:¬g1=g:=K;have n10:¬g=g1:=K;have HGW:S (w.heap.size≤g):=yc;clear bg m2 hg MS M1 BL hgl l3 hsz hs1;obtain ⟨a0,a1⟩:=B1.out.cells2;have hkl:=B1.out.lt;go_wp2_with fail;refine (CO.out _).mono ?_;rintro e w4 ⟨rfl,hw⟩;subst hw;go_wp2_with fail;generalize w2.alloc (f #[s l n,u (j ⟨g,0,t⟩) 1 1] 88)=w3 at *
 go_loopw [51] (fun i wr=>(i=s l 0∧wr=w3)∨(i=s l 1∧S (Φ wr g #[s N R] 185)∧S (Φ wr gs #[s l n,u (j ⟨g,0,t⟩) 1 1] 88)∧S (Φ wr (gk+1) #[s l 0,u t 0 0] 88)∧S (I [] w wr))) (fun i _=>1 - (intOf i).toNat)
 case atStart=>exact .inl ⟨rfl,rfl⟩
 case round=>
  rcases hrel with ⟨rfl,hw⟩ | ⟨rfl,BG2,BS2,B32,MM⟩
  ·replace hw:=hw.symm;subst hw;obtain ⟨s0,s1⟩:=BS.out.cells2;have ca:=CA.out _ M3.out;have g0:=BG.out.cell 0;have gf:=BG.out.froz 0;simp only [M,P] at g0;have hgl:=BG.out.lt;have hsl:=BS.out.lt;go_wp2_with fail
   go_region
   rw [HE.out];have MW:=r (((Mod.refl [g] w3).setCell ⟨g,0,t⟩ (s N R) (F)).drew);go_wp2_with fail;exact Yl
  ·exact Yi
theorem yy6 (n v W R g1 cap1:Nat) (hn:n≤5) (hv:v < n) (hA:W < 2 ^ (2 ^ n)) (hR:zh4 n W v false=R) (w:B) (ca:w.cell? ⟨g1,0,t⟩=j (s N W)):
 D O 348 #[G #[s l n,u (j ⟨g1,0,t⟩) 1 cap1],s l v,ξ false] w (zz6 w n R):=by
 have h1:=Z w _ ca;simp only at h1;have BL:=r (XF n hn);have CO:=r (zs2 v (K));have FU:=r (zv7 n hn);have hcn:ze6 v < 18446744073709551616:=H (Xj 64 _) (zi);have AN:=u64_andNot_nat W (ze6 v) (XD hn hA) hcn;rw [subM hcn] at AN
 have w32:W < 4294967296:=by
  exact Ym
 have hA2:W &&& (18446744073709551615 ^^^ ze6 v) < 4294967296:=E ρ w32;have hR2:=ya3 hn hv hA;rw [hR] at hR2;obtain ⟨OR,hB⟩:=yM8 (A:=W &&& (18446744073709551615 ^^^ ze6 v)) hA2 (show v < 5 from K);have AF:=u64_and_nat ((W &&& (18446744073709551615 ^^^ ze6 v)) ||| (W &&& (18446744073709551615 ^^^ ze6 v)) *2 ^ (2 ^ v)) (Y8 n) hB (qL);rw [show Y8 n=2 ^ (2 ^ n) - 1 from rfl,hR2,show 2 ^ (2 ^ n) - 1=Y8 n from rfl] at AF;have hv6:(v:Int) < 6:=K;have hv0:(0:Int)≤v:=K;have CA:S (∀W',I [] w W'→W'.cell? ⟨g1,0,t⟩=j (s N W)):=fun W' m=>(m.cell (a:=⟨g1,0,t⟩) h1 (F)).trans ca
 clear hR hA ca;clear hA2 hB hR2 w32 hcn;generalize (W &&& (18446744073709551615 ^^^ ze6 v)) ||| (W &&& (18446744073709551615 ^^^ ze6 v)) *2 ^ (2 ^ v)=Y at *;generalize W &&& (18446744073709551615 ^^^ ze6 v)=X at *;generalize ze6 v=cn at *;generalize Y8 n=fn at *;obtain ⟨gk,hgk⟩:∃gk,w.heap.size=gk:=⟨_,rfl⟩;rw [hgk] at h1;have B1:=r ((V w #[s l n,u (j ⟨g1,0,t⟩) 1 cap1] 88 gk hgk.symm).alloc (f #[s l 0,u t 0 0] 88));have B3:=r (V (w.alloc (f #[s l n,u (j ⟨g1,0,t⟩) 1 cap1] 88)) #[s l 0,u t 0 0] 88 (gk+1) (zk));have M1:S (I [] w ((w.alloc (f #[s l n,u (j ⟨g1,0,t⟩) 1 cap1] 88)).alloc (f #[s l 0,u t 0 0] 88))):=zg;go_in;go_wp2_with fail;have l3:=B3.out.lt;generalize (w.alloc (f #[s l n,u (j ⟨g1,0,t⟩) 1 cap1] 88)).alloc (f #[s l 0,u t 0 0] 88)=w1 at *;refine (BL.out _).mono ?_;rintro e w2 ⟨g,rfl,bg,hg,m2⟩;have hs1:=M1.out.size;obtain ⟨gs,hgs⟩:∃gs,w2.heap.size=gs:=⟨_,rfl⟩;have hgl:=bg.lt;have BS:=r (V w2 #[s l n,u (j ⟨g,0,t⟩) 1 1] 88 gs hgs.symm);have MS:S (I [] w2 (w2.alloc (f #[s l n,u (j ⟨g,0,t⟩) 1 1] 88))):=zg;have BG:=r (bg.mod MS.out (F));replace B1:=r ((B1.out.mod m2 (F)).mod MS.out (F));replace B3:=r ((B3.out.mod m2 (F)).mod MS.out (F));have M3:=r ((M1.out.trans' m2).trans' MS.out);have hsz:=m2.size;have n1:¬g=gk:=K;have n2:¬gk=g:=K;have n5:¬g=gk+1:=K;have n6:¬gk+1=g:=K;have n7:¬g=gs:=K;have n8:¬gs=g:=K;have n9:¬g1=g:=K;have n10:¬g=g1:=K;have HGW:S (w.heap.size≤g):=yc;clear bg m2 hg MS M1 BL hgl l3 hsz hs1;obtain ⟨a0,a1⟩:=B1.out.cells2;have hkl:=B1.out.lt;go_wp2_with fail;refine (CO.out _).mono ?_;rintro e w4 ⟨rfl,hw⟩;subst hw;go_wp2_with fail;generalize w2.alloc (f #[s l n,u (j ⟨g,0,t⟩) 1 1] 88)=w3 at *
 go_loopw [51] (fun i wr=>(i=s l 0∧wr=w3)∨(i=s l 1∧S (Φ wr g #[s N R] 185)∧S (Φ wr gs #[s l n,u (j ⟨g,0,t⟩) 1 1] 88)∧S (Φ wr (gk+1) #[s l 0,u t 0 0] 88)∧S (I [] w wr))) (fun i _=>1 - (intOf i).toNat)
 case atStart=>exact .inl ⟨rfl,rfl⟩
 case round=>
  rcases hrel with ⟨rfl,hw⟩ | ⟨rfl,BG2,BS2,B32,MM⟩
  ·replace hw:=hw.symm;subst hw;obtain ⟨s0,s1⟩:=BS.out.cells2;have ca:=CA.out _ M3.out;have g0:=BG.out.cell 0;have gf:=BG.out.froz 0;simp only [M,P] at g0;have hgl:=BG.out.lt;have hsl:=BS.out.lt;go_wp2_with fail;obtain ⟨a0,a1⟩:=B1.out.cells2;exact Yk
  ·exact Yi
open Go.RowKit
theorem yK0 (n W g1 cap1:Nat) (hn:n≤5) (hA:W < 2 ^ (2 ^ n)) (w:B) (ca:w.cell? ⟨g1,0,t⟩=j (s N W)):
 D O 347 #[G #[s l n,u (j ⟨g1,0,t⟩) 1 cap1],G #[s l n,u (j ⟨g1,0,t⟩) 1 cap1],G #[s l n,u (j ⟨g1,0,t⟩) 1 cap1]] w (zz6 w n W):=by
 have h1:=Z w _ ca;simp only at h1;have BL:=r (XF n hn);have A1:bits .and N (W:Int) (W:Int)=(W:Int):=by have:=u64_and_nat W W (XD hn hA) (XD hn hA);rw [Nat.and_self] at this;exact this
 have A2:bits .andNot N (W:Int) (W:Int)=0:=by
  have:=u64_andNot_nat W W (XD hn hA) (XD hn hA);rw [subM (XD hn hA)] at this;rw [this]
  have e:W &&& (18446744073709551615 ^^^ W)=0:=by
   apply Γ;intro i;rw [Ξ,σ,zw7,Nat.zero_testBit];by_cases q:i < 64
   ·simp [q]
   ·rw [Θ (H (show W < 2 ^ 64 from XD hn hA) (L (K) (K)))];rfl
  rw [e];rfl
 have A3:bits .or N (W:Int) 0=(W:Int):=by have:=u64_or_nat W 0 (XD hn hA) (K);rw [μ] at this;exact this
 have CA:S (∀W',I [] w W'→W'.cell? ⟨g1,0,t⟩=j (s N W)):=fun W' m=>(m.cell (a:=⟨g1,0,t⟩) h1 (F)).trans ca
 clear hA ca;obtain ⟨gk,hgk⟩:∃gk,w.heap.size=gk:=⟨_,rfl⟩;rw [hgk] at h1;have B1:=r ((((V w #[s l n,u (j ⟨g1,0,t⟩) 1 cap1] 88 gk hgk.symm).alloc (f #[s l n,u (j ⟨g1,0,t⟩) 1 cap1] 88)).alloc (f #[s l n,u (j ⟨g1,0,t⟩) 1 cap1] 88)).alloc (f #[s l 0,u t 0 0] 88));have B1b:=r (((V (w.alloc (f #[s l n,u (j ⟨g1,0,t⟩) 1 cap1] 88)) #[s l n,u (j ⟨g1,0,t⟩) 1 cap1] 88 (gk+1) (zk)).alloc (f #[s l n,u (j ⟨g1,0,t⟩) 1 cap1] 88)).alloc (f #[s l 0,u t 0 0] 88));have B1c:=r ((V ((w.alloc (f #[s l n,u (j ⟨g1,0,t⟩) 1 cap1] 88)).alloc (f #[s l n,u (j ⟨g1,0,t⟩) 1 cap1] 88)) #[s l n,u (j ⟨g1,0,t⟩) 1 cap1] 88 (gk+2) (zk)).alloc (f #[s l 0,u t 0 0] 88));have B3:=r (V (((w.alloc (f #[s l n,u (j ⟨g1,0,t⟩) 1 cap1] 88)).alloc (f #[s l n,u (j ⟨g1,0,t⟩) 1 cap1] 88)).alloc (f #[s l n,u (j ⟨g1,0,t⟩) 1 cap1] 88)) #[s l 0,u t 0 0] 88 (gk+3) (zk));have M1:S (I [] w ((((w.alloc (f #[s l n,u (j ⟨g1,0,t⟩) 1 cap1] 88)).alloc (f #[s l n,u (j ⟨g1,0,t⟩) 1 cap1] 88)).alloc (f #[s l n,u (j ⟨g1,0,t⟩) 1 cap1] 88)).alloc (f #[s l 0,u t 0 0] 88))):=zg;go_in;go_wp2_with fail;have l3:=B3.out.lt;generalize (((w.alloc (f #[s l n,u (j ⟨g1,0,t⟩) 1 cap1] 88)).alloc (f #[s l n,u (j ⟨g1,0,t⟩) 1 cap1] 88)).alloc (f #[s l n,u (j ⟨g1,0,t⟩) 1 cap1] 88)).alloc (f #[s l 0,u t 0 0] 88)=w1 at *;refine (BL.out _).mono ?_;rintro e w2 ⟨g,rfl,bg,hg,m2⟩;have hs1:=M1.out.size;obtain ⟨gs,hgs⟩:∃gs,w2.heap.size=gs:=⟨_,rfl⟩;have hgl:=bg.lt;have BS:=r (V w2 #[s l n,u (j ⟨g,0,t⟩) 1 1] 88 gs hgs.symm);have MS:S (I [] w2 (w2.alloc (f #[s l n,u (j ⟨g,0,t⟩) 1 1] 88))):=zg;have BG:=r (bg.mod MS.out (F));replace B1:=r ((B1.out.mod m2 (F)).mod MS.out (F));replace B1b:=r ((B1b.out.mod m2 (F)).mod MS.out (F));replace B1c:=r ((B1c.out.mod m2 (F)).mod MS.out (F));replace B3:=r ((B3.out.mod m2 (F)).mod MS.out (F));have M3:=r ((M1.out.trans' m2).trans' MS.out);have hsz:=m2.size;have n1:¬g=gk:=K;have n1b:¬g=gk+1:=K;have n1c:¬gk+1=g:=K;have n1d:¬g=gk+2:=K;have n1e:¬gk+2=g:=K;have n2:¬gk=g:=K;have n5:¬g=gk+3:=K;have n6:¬gk+3=g:=K;have n7:¬g=gs:=K;have n8:¬gs=g:=K;have n9:¬g1=g:=K;have n10:¬g=g1:=K;have HGW:S (w.heap.size≤g):=yc;clear bg m2 hg MS M1 BL hgl l3 hsz hs1;obtain ⟨a0,a1⟩:=B1.out.cells2;go_wp2_with fail;generalize w2.alloc (f #[s l n,u (j ⟨g,0,t⟩) 1 1] 88)=w3 at *
 go_loopw [16] (fun i wr=>(i=s l 0∧wr=w3)∨(i=s l 1∧S (Φ wr g #[s N W] 185)∧S (Φ wr gs #[s l n,u (j ⟨g,0,t⟩) 1 1] 88)∧S (Φ wr (gk+3) #[s l 0,u t 0 0] 88)∧S (I [] w wr))) (fun i _=>1 - (intOf i).toNat)
 case atStart=>exact .inl ⟨rfl,rfl⟩
 case round=>
  rcases hrel with ⟨rfl,hw⟩ | ⟨rfl,BG2,BS2,B32,MM⟩
  ·replace hw:=hw.symm;subst hw;obtain ⟨s0,s1⟩:=BS.out.cells2;have ca:=CA.out _ M3.out;have g0:=BG.out.cell 0;have gf:=BG.out.froz 0;simp only [M,P] at g0;have hgl:=BG.out.lt;have hsl:=BS.out.lt;go_wp2_with fail;obtain ⟨p0,p1⟩:=B1b.out.cells2;obtain ⟨q0,q1⟩:=B1c.out.cells2
   go_region
   have MW:=r (((Mod.refl [g] w3).setCell ⟨g,0,t⟩ (s N W) (F)).drew);go_wp2_with fail;refine ⟨.inr ⟨rfl,(BG.out.set 0 (s N W)).drew,BS.out.mod MW.out (yn),B3.out.mod MW.out (yE),M3.out.trans MW.out (yN)⟩,zr⟩
  ·obtain ⟨s0,s1⟩:=BS2.out.cells2;obtain ⟨r0,r1⟩:=B32.out.cells2;obtain ⟨f0,f1,-⟩:=B32.out.frozs;have hsl:=BS2.out.lt;have hrl:=B32.out.lt;go_wp2_with fail;have BR:=(B32.out.set 0 (s l n)).set 1 (u (j ⟨g,0,t⟩) 1 1);simp only [d,U,T] at BR;have MR:I [gk+3] wr ((wr.setCell ⟨gk+3,0,t⟩ (s l n)).setCell ⟨gk+3,1,t⟩ (u (j ⟨g,0,t⟩) 1 1)):=zg;have BGR:=BG2.out.mod MR (yf);have MF:=MM.out.trans MR (zI);obtain ⟨z0,z1⟩:=BR.cells2;generalize (wr.setCell ⟨gk+3,0,t⟩ (s l n)).setCell ⟨gk+3,1,t⟩ (u (j ⟨g,0,t⟩) 1 1)=wx at *;refine J (v:=G #[s l n,u (j ⟨g,0,t⟩) 1 1]) (by simp [C,Tryz.results347,go_sem,z0,z1];try rfl) rfl ?_;exact ⟨g,rfl,BGR,HGW.out,MF⟩
open Go.RowKit
theorem zE1 (n W v:Nat) (b:Bool):zh4 n W v b < 2 ^ (2 ^ n):=Xj _ _
theorem zh9 (n W g1 cap1 vars:Nat) (each:Bool) (hn:n≤5) (hA:W < 2 ^ (2 ^ n)) (hv:vars < 2 ^ n) (w:B) (ca:w.cell? ⟨g1,0,t⟩=j (s N W)):
 D O 344 #[G #[s l n,u (j ⟨g1,0,t⟩) 1 cap1],s .u16 vars,s l (if each then 8 else 14)] w (zE7 w n (quW n each vars W n)):=by
 have h1:=Z w _ ca;simp only at h1;have h32:2 ^ n≤32:=zF;have RA:S (∀W',I [] w W'→_):=fun W' m=>YX n W g1 cap1 hn hA W' ((m.cell (a:=⟨g1,0,t⟩) h1 (F)).trans ca)
 have IT:S (∀W',I [] w W'→_):=fun W' m=>yK0 n W g1 cap1 hn hA W' ((m.cell (a:=⟨g1,0,t⟩) h1 (F)).trans ca)
 have QL:S (∀k,quW n each vars W k < 2 ^ (2 ^ n)):=yo7 hA;have QS:S (∀k,vars.testBit k=true→quW n each vars W (k+1)=XE (2 ^ n) (fun x=>(if each then (8:Nat) else 14).testBit (2 *((zh4 n (quW n each vars W k) k false).testBit x).toNat+((zh4 n (quW n each vars W k) k true).testBit x).toNat))):=fun k h=>by show _=_;rw [quW,if_pos h]
 have QN:S (∀k,vars.testBit k=false→quW n each vars W (k+1)=quW n each vars W k):=fun k h=>by show _=_;rw [quW,h];rfl
 have Q0:S (quW n each vars W 0=W):=rfl
 have hsh:(vars:Int) / 2 ^ n=0:=by
  rw [show (vars:Int) / 2 ^ n=((vars / 2 ^ n:Nat):Int) from yk,Nat.div_eq_of_lt hv];rfl
 have B16:=r (fun k=>yf2 vars k (K));have hn':(n:Int)≤5:=K;have hvb:(vars:Int)≤65535:=K;obtain ⟨o,ho⟩:∃o:Nat,(if each then (8:Nat) else 14)=o:=⟨_,rfl⟩;have hoi:(if each then (8:Int) else 14)=(o:Int):=by rw [←ho];cases each<;>rfl
 have ho15:o≤15:=by rw [←ho];cases each<;>simp
 rw [ho] at QS;rw [hoi];generalize quW n each vars W=Q at *;clear hA hv ca ho hoi h32;obtain ⟨gk,hgk⟩:∃gk,w.heap.size=gk:=⟨_,rfl⟩;rw [hgk] at h1;have B1:=r ((V w #[s l n,u (j ⟨g1,0,t⟩) 1 cap1] 88 gk hgk.symm).alloc (f #[s l 0,u t 0 0] 88));have B3:=r (V (w.alloc (f #[s l n,u (j ⟨g1,0,t⟩) 1 cap1] 88)) #[s l 0,u t 0 0] 88 (gk+1) (zk));have M0:S (I [] w ((w.alloc (f #[s l n,u (j ⟨g1,0,t⟩) 1 cap1] 88)).alloc (f #[s l 0,u t 0 0] 88))):=zg;go_in;go_wp2_with fail;refine (RA.out _ M0.out).mono ?_;rintro e w1 ⟨rfl,m1⟩;replace B1:=r (B1.out.mod m1 (F));replace B3:=r (B3.out.mod m1 (F));have M1:=r (M0.out.trans' m1);obtain ⟨a0,a1⟩:=B1.out.cells2;clear m1 RA M0;go_wp2_with fail;refine (IT.out _ M1.out).mono ?_;rintro e w2 ⟨g,rfl,bg,hg,m2⟩;have l3:=B3.out.lt;have hs1:=M1.out.size;have hsz:=m2.size;obtain ⟨gs,hgs⟩:∃gs,w2.heap.size=gs:=⟨_,rfl⟩;have BS:=r (V w2 #[s l n,u (j ⟨g,0,t⟩) 1 1] 88 gs hgs.symm);have MS:S (I [] w2 (w2.alloc (f #[s l n,u (j ⟨g,0,t⟩) 1 1] 88))):=zg;have BG:=r (bg.mod MS.out (F));replace B1:=r ((B1.out.mod m2 (F)).mod MS.out (F));replace B3:=r ((B3.out.mod m2 (F)).mod MS.out (F));have M3:=r ((M1.out.trans' m2).trans' MS.out);have HGW:S (w.heap.size≤g∧w.heap.size≤gs∧gk+1 < gs):=by show _∧_;omega
 have hgne:g≠gs:=by have:=bg.lt;omega
 have HGN:S (g≠gk+1):=by show _≠_;omega
 clear bg m2 hg MS M1 IT l3 hsz hs1 a0 a1;obtain ⟨a0,a1⟩:=B1.out.cells2;have hkl:=B1.out.lt;go_wp2_with fail;generalize w2.alloc (f #[s l n,u (j ⟨g,0,t⟩) 1 1] 88)=w3 at *
 go_loopw [29] (fun i wr=>∃(k g':Nat),i=s l k∧k≤n∧g'≠gs∧g'≠gk+1∧w.heap.size≤g'∧S (Φ wr g' #[s N (Q k:Nat)] 185)∧S (Φ wr gs #[s l n,u (j ⟨g',0,t⟩) 1 1] 88)∧S (Φ wr (gk+1) #[s l 0,u t 0 0] 88)∧S (I [] w wr)) (fun i _=>n - (intOf i).toNat)
 case atStart=>exact ⟨0,g,rfl,K,hgne,HGN.out,HGW.out.1,by rw [Q0.out];exact BG,BS,B3,M3⟩
 case round=>
  obtain ⟨k,g',rfl,hk,hne,hne2,hgw,BG2,BS2,B32,MM⟩:=hrel;by_cases hlt:k < n
  ·have hlt':(k:Int) < n:=K;have hk0:(0:Int)≤k:=K;have hb:=B16.out k;cases hbit:vars.testBit k with
   | false=>
    rw [hbit] at hb;simp only [Bool.false_eq_true,if_false] at hb;have HQ:=r (QN.out k hbit);go_wp2_with fail;refine ⟨?_,zR⟩;exact ⟨k+1,g',F,K,hne,hne2,hgw,by rw [HQ.out];exact BG2,BS2,B32,MM⟩
   | true=>
    rw [hbit] at hb;simp only [if_true] at hb;have HQ:=r (QS.out k hbit);have hql:=QL.out k;obtain ⟨q,hq⟩:∃q,Q k=q:=⟨_,rfl⟩;rw [hq] at HQ hql BG2;clear hq;obtain ⟨q2,hq2⟩:∃q2,Q (k+1)=q2:=⟨_,rfl⟩;rw [hq2] at HQ;have HQ2:=r hq2;clear hq2;obtain ⟨s0,s1⟩:=BS2.out.cells2;obtain ⟨s2,s3,-⟩:=BS2.out.frozs;have hsl:=BS2.out.lt;have hgl:=BG2.out.lt;have g0:=BG2.out.cell 0;simp only [M,P] at g0;have hz:=MM.out.size
    have W0C:S (∀(b:Bool) W',I [] wr W'→D O 348 #[G #[s l n,u (j ⟨g',0,t⟩) 1 1],s l k,ξ b] W' fun e' w'=>∃ga:Nat,e'=Ω (G #[s l n,u (j ⟨ga,0,t⟩) 1 1])∧w'.cell? ⟨ga,0,t⟩=j (s N (zh4 n q k b:Nat))∧I [] wr w'∧I [] W' w'∧ga < w'.heap.size):=fun b W' m=>by
     have c:=(m.cell (a:=⟨g',0,t⟩) hgl (F)).trans g0;cases b with
     | true=>exact (yv0 n k q _ g' 1 hn hlt hql rfl W' c).mono (wC)
     | false=>exact (yy6 n k q _ g' 1 hn hlt hql rfl W' c).mono (wC)
    have OPC:S (∀W' (ga gb:Nat),I [] wr W'→W'.cell? ⟨ga,0,t⟩=j (s N (zh4 n q k false:Nat))→W'.cell? ⟨gb,0,t⟩=j (s N (zh4 n q k true:Nat))→D O 292 #[s l o,G #[s l n,u (j ⟨ga,0,t⟩) 1 1],G #[s l n,u (j ⟨gb,0,t⟩) 1 1]] W' fun e' w'=>∃g2:Nat,e'=Ω (Δ #[G #[s l n,u (j ⟨g2,0,t⟩) 1 1],s .u8 0])∧S (Φ w' g2 #[s N (q2:Nat)] 185)∧S (wr.heap.size≤g2)∧I [] wr w'):=fun W' ga gb m c1 c2=>(zC7 o n _ _ ga 1 gb 1 ho15 hn (zE1 _ _ _ _) (zE1 _ _ _ _) W' c1 c2).mono (by
     rintro e' w' ⟨g2,rfl,bg,hg,m2⟩;refine ⟨g2,rfl,?_,ν m.size hg,m.trans' m2⟩
     rw [HQ.out];exact bg)
    have SC:S (∀W',I [] wr W'→(W'.cell? ⟨gs,0,t⟩=j (s l n)∧W'.cell? ⟨gs,1,t⟩=j (u (j ⟨g',0,t⟩) 1 1))∧W'.frozen? ⟨gs,0,t⟩=false∧W'.frozen? ⟨gs,1,t⟩=false):=fun W' m=>⟨⟨(m.cell (a:=⟨gs,0,t⟩) hsl (F)).trans s0,(m.cell (a:=⟨gs,1,t⟩) hsl (F)).trans s1⟩,(m.froz (a:=⟨gs,0,t⟩) hsl (F)).trans s2,(m.froz (a:=⟨gs,1,t⟩) hsl (F)).trans s3⟩
    clear hbit g0 hql;go_wp2_with fail
    go_region_with (first
     | (go_at_call 348;with_reducible refine (W0C.out false _ (zy)).mono ?_;rintro e' w5 ⟨ga,rfl,qa,m5,n5,la⟩;obtain ⟨⟨s0,s1⟩,s2,s3⟩:=SC.out w5 m5;try (have qb:=(n5.cell (a:=⟨gb,0,t⟩) lb (F)).trans qb))
     | (go_at_call 348;with_reducible refine (W0C.out true _ (zy)).mono ?_;rintro e' w6 ⟨gb,rfl,qb,m6,n6,lb⟩;obtain ⟨⟨s0,s1⟩,s2,s3⟩:=SC.out w6 m6;try (have qa:=(n6.cell (a:=⟨ga,0,t⟩) la (F)).trans qa))
     | (go_at_call 292;refine (OPC.out _ _ _ (zy) (zm) (zm)).mono ?_;rintro e' w7 ⟨g2,rfl,hb2,hg2,m7⟩;obtain ⟨⟨s0,s1⟩,s2,s3⟩:=SC.out w7 m7))
    all_goals
     go_wp2_with fail;have l2:=hb2.out.lt;have e1:g2≠gs:=by have:=hg2.out;omega
     have e1':¬gs=g2:=fun e=>e1 e.symm
     have e2:g2≠gk+1:=by have:=hg2.out;have:=HGW.out;omega
     have e3:¬gk+1=gs:=by have:=HGW.out;omega
     have MW:=r (((Mod.refl [gs] w7).setCell ⟨gs,0,t⟩ (s l n) (F)).setCell ⟨gs,1,t⟩ (u (j ⟨g2,0,t⟩) 1 1) (F));have BSN:=(((BS2.out.mod m7 (F)).set 0 (s l n)).set 1 (u (j ⟨g2,0,t⟩) 1 1));simp only [d,U,T] at BSN;refine ⟨⟨k+1,g2,F,K,e1,e2,by have:=hg2.out;omega,?_,BSN,(B32.out.mod m7 (F)).mod MW.out (by simpa using e3),(MM.out.trans' m7).trans MW.out (yN)⟩,zR⟩;rw [HQ2.out];exact hb2.out.mod MW.out (by simpa using e1)
  ·obtain rfl:k=n:=K;obtain ⟨s0,s1⟩:=BS2.out.cells2;obtain ⟨r0,r1⟩:=B32.out.cells2;obtain ⟨f0,f1,-⟩:=B32.out.frozs;have hsl:=BS2.out.lt;have hrl:=B32.out.lt;go_wp2_with fail;have BR:=(B32.out.set 0 (s l k)).set 1 (u (j ⟨g',0,t⟩) 1 1);simp only [d,U,T] at BR;have MR:I [gk+1] wr ((wr.setCell ⟨gk+1,0,t⟩ (s l k)).setCell ⟨gk+1,1,t⟩ (u (j ⟨g',0,t⟩) 1 1)):=zg;have BGR:=BG2.out.mod MR (by simpa using hne2);have MF:=MM.out.trans MR (zI);obtain ⟨z0,z1⟩:=BR.cells2;generalize (wr.setCell ⟨gk+1,0,t⟩ (s l k)).setCell ⟨gk+1,1,t⟩ (u (j ⟨g',0,t⟩) 1 1)=wx at *;refine J (v:=Δ #[G #[s l k,u (j ⟨g',0,t⟩) 1 1],s .u8 0]) (by simp [C,Tryz.results344,go_sem,z0,z1];try rfl) rfl ?_;exact ⟨g',rfl,BGR,hgw,MF⟩
theorem zA2 (n W g1 cap1 vars:Nat) (hn:n≤5) (hA:W < 2 ^ (2 ^ n)) (hv:vars < 2 ^ n) (w:B) (ca:w.cell? ⟨g1,0,t⟩=j (s N W)):
 D O 342 #[G #[s l n,u (j ⟨g1,0,t⟩) 1 cap1],s .u16 vars] w (zE7 w n (quW n false vars W n)):=by
 have h1:=Z w _ ca;simp only at h1;have QC:S (∀W',I [] w W'→_):=fun W' m=>zh9 n W g1 cap1 vars false hn hA hv W' ((m.cell (a:=⟨g1,0,t⟩) h1 (F)).trans ca)
 simp only [Bool.false_eq_true,if_false] at QC;generalize quW n false vars W n=R at *;clear hA hv ca;obtain ⟨gk,hgk⟩:∃gk,w.heap.size=gk:=⟨_,rfl⟩;have B3:=r (V (w.alloc (f #[s l n,u (j ⟨g1,0,t⟩) 1 cap1] 88)) #[s l 0,u t 0 0] 88 (gk+1) (zk));have M0:S (I [] w ((w.alloc (f #[s l n,u (j ⟨g1,0,t⟩) 1 cap1] 88)).alloc (f #[s l 0,u t 0 0] 88))):=zg;go_in;go_wp2_with fail;refine (QC.out _ M0.out).mono ?_;rintro e w4 ⟨g,rfl,bg,hg,m4⟩;have l3:=B3.out.lt;replace B3:=r (B3.out.mod m4 (F));have M4:=r (M0.out.trans' m4);have n5:¬g=gk+1:=K;have n6:¬gk+1=g:=K;have HGW:S (w.heap.size≤g):=wD;have BG:=r bg;obtain ⟨r0,r1⟩:=B3.out.cells2;obtain ⟨f0,f1,-⟩:=B3.out.frozs;have hrl:=B3.out.lt;clear bg hg m4 M0 l3 QC;go_wp2_with fail;have BR:=(B3.out.set 0 (s l n)).set 1 (u (j ⟨g,0,t⟩) 1 1);simp only [d,U,T] at BR;have MR:I [gk+1] w4 ((w4.setCell ⟨gk+1,0,t⟩ (s l n)).setCell ⟨gk+1,1,t⟩ (u (j ⟨g,0,t⟩) 1 1)):=zg;have BGR:=BG.out.mod MR (yf);have MF:=M4.out.trans MR (zI);obtain ⟨z0,z1⟩:=BR.cells2;generalize (w4.setCell ⟨gk+1,0,t⟩ (s l n)).setCell ⟨gk+1,1,t⟩ (u (j ⟨g,0,t⟩) 1 1)=wx at *;refine J (v:=Δ #[G #[s l n,u (j ⟨g,0,t⟩) 1 1],s .u8 0]) (by simp [C,Tryz.results342,go_sem,z0,z1];try rfl) rfl ?_;exact ⟨g,rfl,BGR,HGW.out,MF⟩
theorem zC2 (n W g1 cap1 vars:Nat) (hn:n≤5) (hA:W < 2 ^ (2 ^ n)) (hv:vars < 2 ^ n) (w:B) (ca:w.cell? ⟨g1,0,t⟩=j (s N W)):
 D O 341 #[G #[s l n,u (j ⟨g1,0,t⟩) 1 cap1],s .u16 vars] w (zE7 w n (quW n true vars W n)):=by
 have h1:=Z w _ ca;simp only at h1;have QC:S (∀W',I [] w W'→_):=fun W' m=>zh9 n W g1 cap1 vars true hn hA hv W' ((m.cell (a:=⟨g1,0,t⟩) h1 (F)).trans ca)
 simp only [if_true] at QC;generalize quW n true vars W n=R at *;clear hA hv ca;obtain ⟨gk,hgk⟩:∃gk,w.heap.size=gk:=⟨_,rfl⟩;have B3:=r (V (w.alloc (f #[s l n,u (j ⟨g1,0,t⟩) 1 cap1] 88)) #[s l 0,u t 0 0] 88 (gk+1) (zk));have M0:S (I [] w ((w.alloc (f #[s l n,u (j ⟨g1,0,t⟩) 1 cap1] 88)).alloc (f #[s l 0,u t 0 0] 88))):=zg;go_in;go_wp2_with fail;refine (QC.out _ M0.out).mono ?_;rintro e w4 ⟨g,rfl,bg,hg,m4⟩;have l3:=B3.out.lt;replace B3:=r (B3.out.mod m4 (F));have M4:=r (M0.out.trans' m4);have n5:¬g=gk+1:=K;have n6:¬gk+1=g:=K;have HGW:S (w.heap.size≤g):=wD;have BG:=r bg;obtain ⟨r0,r1⟩:=B3.out.cells2;obtain ⟨f0,f1,-⟩:=B3.out.frozs;have hrl:=B3.out.lt;clear bg hg m4 M0 l3 QC;go_wp2_with fail;have BR:=(B3.out.set 0 (s l n)).set 1 (u (j ⟨g,0,t⟩) 1 1);simp only [d,U,T] at BR;have MR:I [gk+1] w4 ((w4.setCell ⟨gk+1,0,t⟩ (s l n)).setCell ⟨gk+1,1,t⟩ (u (j ⟨g,0,t⟩) 1 1)):=zg;have BGR:=BG.out.mod MR (yf);have MF:=M4.out.trans MR (zI);obtain ⟨z0,z1⟩:=BR.cells2;generalize (w4.setCell ⟨gk+1,0,t⟩ (s l n)).setCell ⟨gk+1,1,t⟩ (u (j ⟨g,0,t⟩) 1 1)=wx at *;refine J (v:=Δ #[G #[s l n,u (j ⟨g,0,t⟩) 1 1],s .u8 0]) (by simp [C,Tryz.results341,go_sem,z0,z1];try rfl) rfl ?_;exact ⟨g,rfl,BGR,HGW.out,MF⟩
end Go.Proofs.YtbnpoapmnkfhkaaGreatDoor
