import Derived.Test.YtbnpoapmnkfhkaaGreatDoorZt01
set_option maxHeartbeats 1000000
set_option maxRecDepth 100000
set_option linter.unusedVariables false
set_option linter.unusedSimpArgs false
namespace Go.Proofs.YtbnpoapmnkfhkaaGreatDoor
open Go.Value renaming int → o, slice → D, bool → ζ, cells → γ
open List renaming foldl_cons → Z, foldl_append → W, replicate → Θ, length_cons → Γ, length_eq_zero_iff → ω, mem_range → χ, cons_append → π, all_eq_true → ν, length_take → μ, length_map → κ, range → θ, foldl_nil → η
open Go.IntKind renaming u8 → Y, u32 → Q, i64 → I, u64 → Φ
open Go.Proofs.YtbnpoapmnkfhkaaGreatDoor renaming zc → X
open Go.Lib renaming hid → V
open Nat renaming le_refl → U, pow_le_pow_right → M, mod_eq_of_lt → L, lt_of_lt_of_le → K, mod_lt → Ω, testBit_lt_two_pow → Ψ, mul_le_mul_left → φ, pow_succ → σ, min_eq_left → ι, mul_comm → δ, mul_add → Qa
open Go.Proofs.Tryz renaming prog → S, underlying5 → ρ, sizeOf5 → ε, isAgg5 → β
open Go.Obj renaming cells → O
open Option renaming none → J, some → Ξ
open Go.Ending renaming returned → G
open Go renaming World → C, Calls → τ
open Bool renaming false_eq_true → Δ, or_eq_true → ψ, and_eq_true → ξ
open Go.RowKit
theorem zG2 (w:C) (n:Nat) (hn:n≤100000):(Instr.makeSlice 22 (o I n) (o I n)).run S w=.ok (D (Ξ ⟨w.heap.size,0,J⟩) n n) (w.alloc (O (madeCells #[o I 0] n) 3)):=by
 obtain ⟨i0,hi,hz0,hz1,hz2⟩:=info_parts Tryz.info3;have:=run_make (P:=S) w 22 3 i0 _ Tryz.underlying22 hi hz0 I I n n (X) (X) (ye) (X);simpa [hz1,γ] using this
theorem ya1 (w:C) (n:Nat) (hn:n≤100000):(Instr.makeSlice 47 (o I n) (o I n)).run S w=.ok (D (Ξ ⟨w.heap.size,0,J⟩) n n) (w.alloc (O (madeCells #[ζ false] n) 4)):=by
 obtain ⟨i0,hi,hz0,hz1,hz2⟩:=info_parts Tryz.infoB;have:=run_make (P:=S) w 47 4 i0 _ Tryz.underlying47 hi hz0 I I n n (X) (X) (ye) (X);simpa [hz1,γ] using this
theorem yz7 (z:Value) (n:Nat):(madeCells #[z] n).toList=Θ n z:=by
 apply List.ext_getElem?;intro i;by_cases h:i < n
 ·simp [madeCells,h,Nat.mod_one]
 ·simp [madeCells,h]
theorem Sl.made1 (w:C) (E n:Nat) (z:Value) (hm:n≤maxLen) (g:Nat) (hg:g=w.heap.size):Sl (w.alloc (O (madeCells #[z] n) E)) E 1 (D (Ξ ⟨g,0,J⟩) n n) n (Θ n z) [g]:=by
 subst hg;have:=Sl.made w E 1 n #[z] hm;rw [Nat.mul_one,yz7] at this;exact this
def B64:Nat:=18446744073709551616
def zq1:List Bool→Nat
 | []=>0
 | b::l=>b.toNat+2 *zq1 l
theorem zZ1 (l:List Bool):zq1 l < 2 ^ l.length:=by
 induction l with
 | nil=>simp [zq1]
 | cons b l ih=>simp only [zq1,Γ,σ];cases b<;>simp<;>omega
theorem yd4 (l:List Bool) (i:Nat):(zq1 l).testBit i=l.getD i false:=by
 induction l generalizing i with
 | nil=>simp [zq1]
 | cons b l ih=>
  cases i with
  | zero=>simp [zq1,Nat.testBit_zero];cases b<;>simp<;>omega
  | succ i=>
   rw [Nat.testBit_succ];have:(b.toNat+2 *zq1 l) / 2=zq1 l:=by cases b<;>simp<;>omega
   rw [zq1,this,ih];simp
theorem yJ2 (n:Nat) {w:C} {v:Value} {t:List Bool} {F:List Nat} (h:Rv w v (t.map eb) F) (h0:0 < t.length) (h32:t.length≤32):
 τ S 75 #[o I n,v] w fun e w'=>∃g,e=G (.agg #[o I n,D (Ξ ⟨g,0,J⟩) 1 1])∧w'.cell? ⟨g,0,J⟩=Ξ (o Φ (zq1 t:Nat))∧w.heap.size≤g∧Mod [] w w':=by
 obtain ⟨A,cap,rfl,hc⟩:=h.shape;have H:=V h;simp only [κ] at H hc ⊢;clear h;obtain ⟨N,hN⟩:∃N,t.length=N:=⟨_,rfl⟩;rw [hN] at H hc h0 h32 ⊢;have HN:=V hN;clear hN;have hmk:∀w,(Instr.makeSlice 86 (o I 1) (o I 1)).run S w=.ok (D (Ξ ⟨w.heap.size,0,J⟩) 1 1) (w.alloc (O #[o Φ 0] 185)):=fun _=>by kernel_rfl
 have hq:((N:Int)+63) / 64=1:=X;obtain ⟨g0,hg⟩:∃g,w.heap.size=g:=⟨_,rfl⟩;go_in;go_wp2_with fail;have B0:=Blk.new' (w.alloc (O #[o I 0,D J 0 0] 88)) #[o Φ 0] 185 (g0+1) (xk);have C0:=(Blk.new' w #[o I 0,D J 0 0] 88 g0 hg.symm).alloc (O #[o Φ 0] 185);have M0:Hid (Mod [] w ((w.alloc (O #[o I 0,D J 0 0] 88)).alloc (O #[o Φ 0] 185))):=((Mod.refl _ _).alloc _).alloc _;generalize (w.alloc (O #[o I 0,D J 0 0] 88)).alloc (O #[o Φ 0] 185)=w0 at *;have B0:=V B0;have C0:=V C0;have HG:=V hg;clear hmk hq hg
 go_loopw [6] (fun i wr=>∃k:Nat,k≤N∧i=o I ((k:Int) - 1)∧Blk wr (g0+1) #[o Φ (zq1 (t.drop k):Nat)] 185∧Blk wr g0 #[o I 0,D J 0 0] 88∧Mod [] w wr) (fun i _=>(intOf i+1).toNat)
 case atStart=>exact ⟨N,X,rfl,by rw [List.drop_of_length_le (xl)];exact B0.out,C0.out,M0.out⟩
 case round=>
  obtain ⟨k,hk,rfl,hb,hcb,hm⟩:=hrel;clear B0 C0 M0;have HB:=V hb;have HC:=V hcb;have HM:=V hm;have e1:=hb.cell 0;have f1:=hb.froz 0;simp only [List.getElem?_toArray,List.getElem?_cons_zero] at e1;have hlen:(t.drop k).length≤32:=by rw [List.length_drop,HN.out];omega
  have hv:zq1 (t.drop k) < 4294967296:=K (zZ1 _) (by have:=M (n:=2) (X) hlen;simpa using this);have hv':(zq1 (t.drop k):Int)≤4294967295:=X;clear hlen hv;by_cases hlt:0 < k
  ·obtain ⟨j,rfl⟩:∃j,k=j+1:=⟨k - 1,X⟩;have hj:j < t.length:=xl;obtain ⟨b1,o1,rfl,d1⟩:=(H.out.mod hm (ze)).at j (by rw [κ];exact hj);rw [List.getElem_map] at d1;have DR:Hid (zq1 (t.drop j)=(t[j]).toNat+2 *zq1 (t.drop (j+1))):=by show _=_;rw [List.drop_eq_getElem_cons hj,zq1]
   have hb1:b1 < wr.heap.size:=World.block_lt_of_cell? wr _ d1;have hj0:(((j+1:Nat):Int) - 1)=(j:Int):=X;simp only [hj0];have hq:(j:Int) / 64=0:=X;have hj1:(j:Int) < N:=X;unfold eb at d1;generalize t[j]=x at *;generalize zq1 (t.drop (j+1))=y at *
   have HQ:b1=g0+1→False:=by
    rintro rfl;rw [show o1+j=o1+j from rfl] at d1;have:=hb.cell (o1+j);rw [d1] at this;rcases Nat.eq_zero_or_pos (o1+j) with q | q
    ·rw [q] at this;simp at this
    ·rw [Array.getElem?_eq_none (zj)] at this;simp at this
   have hne:¬b1=g0+1:=HQ;clear hb hcb hm HQ hj hb1;have st:∀(u1 u2:Value),Mod [] w ((wr.setCell ⟨g0+1,0,J⟩ u1).setCell ⟨g0+1,0,J⟩ u2)∧Mod [] w (wr.setCell ⟨g0+1,0,J⟩ u1):=fun u1 u2=>⟨(HM.out.setCell _ _ (yq)).setCell _ _ (yq),HM.out.setCell _ _ (yq)⟩
   have ST:=V st;clear st;cases x with
   | true=>
    go_wp2_with fail;go_roundw
    case rel=>
     refine ⟨j,X,by first | rfl | go_num,?_,?_,(ST.out _ _).1⟩
     ·rw [DR.out];have e:((true.toNat+2 *y:Nat):Int)=2 *(y:Int)+1:=zj;rw [e];simpa using (HB.out.set 0 (o Φ (2 *(y:Int)))).set 0 (o Φ (2 *(y:Int)+1))
     ·exact (HC.out.other _ _ (ze)).other _ _ (ze)
    case measure=>simp [intOf]
   | false=>
    go_wp2_with fail;go_roundw
    case rel=>
     refine ⟨j,X,by first | rfl | go_num,?_,?_,(ST.out _ (o Φ 0)).2⟩
     ·rw [DR.out];have e:((false.toNat+2 *y:Nat):Int)=2 *(y:Int):=ze;rw [e];simpa using (HB.out.set 0 (o Φ (2 *(y:Int))))
     ·exact (HC.out.other _ _ (ze))
    case measure=>simp [intOf]
  ·obtain rfl:k=0:=X;rw [List.drop_zero] at HB hb e1 hv'
   obtain ⟨c0,c1⟩:wr.cell? ⟨g0,0,J⟩=Ξ (o I 0)∧wr.cell? ⟨g0,1,J⟩=Ξ (D J 0 0):=by
    constructor<;>(rw [hcb.cell];rfl)
   have f0:=hcb.froz 0;have f2:=hcb.froz 1;clear hb hcb hm;go_wp2_with fail;refine bodyPost_ret (v:=.agg #[o I n,D (Ξ ⟨g0+1,0,J⟩) 1 1]) (by simp [results,Tryz.results75,go_sem,c0,c1,f0,f2]) rfl ?_;refine ⟨g0+1,rfl,?_,jc,?_⟩
   ·have:=((HB.out.other ⟨g0,0,J⟩ (o I n) (ze)).other ⟨g0,1,J⟩ (D (Ξ ⟨g0+1,0,J⟩) 1 1) (ze)).cell 0;simpa using this
   ·exact (HM.out.setCell _ _ (yq)).setCell _ _ (yq)
open Go.RowKit
open Go.RowKit
theorem YZ (f:Nat) (h1:1≤f) (h5:f≤5) (w:C):τ S 69 #[o Y f] w fun e w'=>e=G (ζ true)∧w'=w:=by
 have h1':(1:Int)≤f:=X;have h5':(f:Int)≤5:=X;go_in;go_wp2;go_ret;exact ⟨rfl,rfl⟩
theorem zj7 (n:Nat) (h:n≤16) (w:C):τ S 141 #[o I n] w fun e w'=>e=G (ζ true)∧w'=w:=by
 have h1':(0:Int)≤n:=X;have h5':(n:Int)≤16:=X;go_in;go_wp2;go_ret;exact ⟨rfl,rfl⟩
theorem zm3 (f:Nat) (b:Bool) (h:decide (f=3∨f=4)=b) (w:C):τ S 226 #[o Y f] w fun e w'=>e=G (ζ b)∧w'=w:=by
 by_cases h3:f=3
 ·subst h3;go_in;go_wp2;go_ret;exact ⟨by rw [←h];rfl,rfl⟩
 ·have h3':((f:Int)==3)=false:=zo
  have HB:Hid (((f:Int)==4)=b):=by
   show _=_;rw [←h];by_cases h4:f=4
   ·rw [decide_eq_true (.inr h4),beq_iff_eq];omega
   ·rw [decide_eq_false (X),beq_eq_false_iff_ne];omega
  clear h;have h3n:¬(f:Int)=3:=X;clear h3;go_in;go_wp2;go_ret;refine ⟨?_,rfl⟩;rw [←HB.out];rfl
structure Ed where
 t:Nat
 a:Nat
 deriving DecidableEq
def edv (e:Ed):Value:=.agg #[o Y e.t,o Q e.a]
def PlainE (f:Nat) (e:Ed) (l n:Nat):Prop:=(f≠5∨e.a=0→e.t=0)∧(f=5→e.a≠0→l≤e.t∧e.t≤n)
theorem ke {p:Prop} (h:p:=by
 go_in;go_wp2_with fail;refine (IF.out _).mono ?_;rintro e w1 ⟨rfl,rfl⟩;go_wp2_with fail;refine (MY.out _).mono ?_;rintro e w1 ⟨rfl,rfl⟩;go_wp2_with fail;go_ret
 exact ⟨rfl,zg⟩):p:=h
theorem zz8 (f:Nat) (h1:1≤f) (h5:f≤5) (e:Ed) (l n:Nat) (hl:l≤n) (hn:n≤16) (h:PlainE f e l n) (w:C):
 τ S 120 #[o Y f,edv e,o I l,o I n] w fun e' w'=>e'=G (ζ true)∧Mod [] w w':=by
 obtain ⟨t,a⟩:=e;obtain ⟨p1,p2⟩:=h;simp only at p1 p2;have IF:=V (YZ f h1 h5);have MY:=V (zj7 n hn);have hl':(l:Int)≤n:=X;unfold edv;by_cases q:f≠5∨a=0
 ·obtain rfl:=p1 q;clear p1 p2;by_cases q5:f=5
  ·subst q5;obtain rfl:a=0:=X;clear q;exact ke
  ·have h5':((f:Int) != 5)=true:=yr;have h5n:¬(f:Int)=5:=X;clear q;exact ke
 ·obtain rfl:f=5:=X;have ha:((a:Int)==0)=false:=zo;have ha0:¬(a:Int)=0:=X;obtain ⟨p3,p4⟩:=p2 rfl (X);have p3':(l:Int)≤t:=X;have p4':(t:Int)≤n:=X;have ht:(t:Int)≤16:=X;clear p1 p2 q;exact ke
open Go.RowKit
def zi1 (f n:Nat):Ed:=if f=5 then ⟨n,1⟩ else ⟨0,1⟩
theorem zU4 (f:Nat) (h1:1≤f) (h5:f≤5) (n:Nat) (hn:n≤16) (w:C):
 τ S 108 #[o Y f,o I n] w fun e' w'=>e'=G (edv (zi1 f n))∧Mod [] w w':=by
 have IF:=V (YZ f h1 h5);have MY:=V (zj7 n hn);have hn':(n:Int)≤255:=X;unfold edv zi1;by_cases q5:f=5
 ·subst q5;go_in;go_wp2_with fail;refine (IF.out _).mono ?_;rintro e w1 ⟨rfl,rfl⟩;go_wp2_with fail;refine (MY.out _).mono ?_;rintro e w1 ⟨rfl,rfl⟩;go_wp2_with fail
  go_returns
  exact ⟨rfl,zg⟩
 ·have h5':((f:Int)==5)=false:=zo;have h5n:¬(f:Int)=5:=X;rw [if_neg q5];go_in;go_wp2_with fail;refine (IF.out _).mono ?_;rintro e w1 ⟨rfl,rfl⟩;go_wp2_with fail;refine (MY.out _).mono ?_;rintro e w1 ⟨rfl,rfl⟩;go_wp2_with fail
  go_returns
  exact ⟨rfl,zg⟩
structure Rc where
 f:Nat
 top:Nat
 bot:Nat
 lo:Ed
 hi:Ed
 deriving DecidableEq
def rcv (r:Rc):Value:=.agg #[o Y r.f,o Y r.top,o Y r.bot,o Y r.lo.t,o Q r.lo.a,o Y r.hi.t,o Q r.hi.a]
structure RightR (r:Rc) (n:Nat):Prop where
 f1:1≤r.f
 f5:r.f≤5
 tb:r.top≤r.bot
 bn:r.bot < n
 n16:n≤16
 ch:r.top=r.bot∨r.f=3∨r.f=4
 lo:PlainE r.f r.lo (r.bot+1) n
 hi:PlainE r.f r.hi (r.bot+1) n
 z:r.f=2∨r.f=4→r.hi.a≠0
 b:r.f≠2→r.f≠4→r.lo≠r.hi
theorem Blk.cells7 {w:C} {g:Nat} {a b c d e f h:Value} {t:TypeId} (B:Blk w g #[a,b,c,d,e,f,h] t):
 w.cell? ⟨g,0,J⟩=Ξ a∧w.cell? ⟨g,1,J⟩=Ξ b∧w.cell? ⟨g,2,J⟩=Ξ c∧w.cell? ⟨g,3,J⟩=Ξ d∧w.cell? ⟨g,4,J⟩=Ξ e∧w.cell? ⟨g,5,J⟩=Ξ f∧w.cell? ⟨g,6,J⟩=Ξ h:=by
 refine ⟨?_,?_,?_,?_,?_,?_,?_⟩<;>(rw [B.cell];rfl)
theorem wZ {p:Prop} (h:p:=by
 rintro e w1 ⟨rfl,rfl⟩;go_wp2_with fail;refine (PL.out _).mono ?_;rintro e w2 ⟨rfl,m2⟩;replace BB:=V ((BB.out.drewN _).mod m2 (ze));replace MM:=V ((MM.out.drewN _).trans' m2);obtain ⟨c0,c1,c2,c3,c4,c5,c6⟩:=BB.out.cells7;clear m2;go_wp2_with fail;refine (PH.out _).mono ?_;rintro e w3 ⟨rfl,m3⟩;clear c0 c1 c2 c3 c4 c5 c6;replace BB:=V (BB.out.mod m3 (ze));replace MM:=V (MM.out.trans' m3);obtain ⟨c0,c1,c2,c3,c4,c5,c6⟩:=BB.out.cells7;clear m3;go_wp2_with fail;go_ret
 exact ⟨rfl,MM.out⟩):p:=h
theorem kc {p:Prop} (h:p:=by
 go_wp2_with fail;refine (IF.out _).mono ?_;rintro e w1 ⟨rfl,rfl⟩;go_wp2_with fail;refine (MY.out _).mono ?_;rintro e w1 ⟨rfl,rfl⟩;go_wp2_with fail;refine (CH.out _).mono ?_
 exact wZ):p:=h
theorem kg {p:Prop} (h:p:=by
 go_wp2_with fail;refine (IF.out _).mono ?_;rintro e w1 ⟨rfl,rfl⟩;go_wp2_with fail;refine (MY.out _).mono ?_
 exact wZ):p:=h
theorem yy2 (r:Rc) (n:Nat) (h:RightR r n) (w:C):
 τ S 209 #[rcv r,o I n] w fun e' w'=>e'=G (ζ true)∧Mod [] w w':=by
 obtain ⟨f,top,bot,⟨lt,la⟩,⟨ht,ha⟩⟩:=r;obtain ⟨f1,f5,tb,bn,n16,ch,lo,hi,z,b⟩:=h;simp only at f1 f5 tb bn ch lo hi z b;have IF:=V (YZ f f1 f5);have MY:=V (zj7 n n16);have PL:=V (zz8 f f1 f5 ⟨lt,la⟩ (bot+1) n (X) n16 lo);have PH:=V (zz8 f f1 f5 ⟨ht,ha⟩ (bot+1) n (X) n16 hi);have tb':(top:Int)≤bot:=X;have bn':(bot:Int) < n:=X;have n16':(n:Int)≤16:=X;clear lo hi;unfold rcv;unfold edv at PL PH;simp only at PL PH ⊢;rcases Decidable.em (f=2) with q2 | q2
 ·subst q2;have hz2:=z (X);have ha0:((ha:Int) != 0)=true:=yr;have ha1:¬(ha:Int)=0:=X;have htb:top=bot:=X;clear b z ch;subst htb;obtain ⟨g,hg⟩:∃g,w.heap.size=g:=⟨_,rfl⟩;have BB:Hid (Blk (w.alloc (O #[o Y (2:Nat),o Y top,o Y top,o Y lt,o Q la,o Y ht,o Q ha] 139)) g #[o Y (2:Nat),o Y top,o Y top,o Y lt,o Q la,o Y ht,o Q ha] 139):=Blk.new' _ _ _ _ hg.symm;have MM:Hid (Mod [] w (w.alloc (O #[o Y (2:Nat),o Y top,o Y top,o Y lt,o Q la,o Y ht,o Q ha] 139))):=(Mod.refl _ _).alloc _;go_in;go_wp2_with fail
  go_quiet (fail)
  exact kg
 rcases Decidable.em (f=4) with q4 | q4
 ·subst q4;have hz2:=z (X);have ha0:((ha:Int) != 0)=true:=yr;have ha1:¬(ha:Int)=0:=X;clear b z ch q2;by_cases htb:top=bot
  ·skip
   subst htb;obtain ⟨g,hg⟩:∃g,w.heap.size=g:=⟨_,rfl⟩;have BB:Hid (Blk (w.alloc (O #[o Y (4:Nat),o Y top,o Y top,o Y lt,o Q la,o Y ht,o Q ha] 139)) g #[o Y (4:Nat),o Y top,o Y top,o Y lt,o Q la,o Y ht,o Q ha] 139):=Blk.new' _ _ _ _ hg.symm;have MM:Hid (Mod [] w (w.alloc (O #[o Y (4:Nat),o Y top,o Y top,o Y lt,o Q la,o Y ht,o Q ha] 139))):=(Mod.refl _ _).alloc _;go_in;go_wp2_with fail
   go_quiet (fail)
   exact kg
  ·skip
   have CH:=V (zm3 4 true (decide_eq_true (X)));have htb1:((top:Int) != bot)=true:=yr;have htb2:¬(top:Int)=bot:=X;clear htb;obtain ⟨g,hg⟩:∃g,w.heap.size=g:=⟨_,rfl⟩;have BB:Hid (Blk (w.alloc (O #[o Y (4:Nat),o Y top,o Y bot,o Y lt,o Q la,o Y ht,o Q ha] 139)) g #[o Y (4:Nat),o Y top,o Y bot,o Y lt,o Q la,o Y ht,o Q ha] 139):=Blk.new' _ _ _ _ hg.symm;have MM:Hid (Mod [] w (w.alloc (O #[o Y (4:Nat),o Y top,o Y bot,o Y lt,o Q la,o Y ht,o Q ha] 139))):=(Mod.refl _ _).alloc _;go_in;go_wp2_with fail
   go_quiet (fail)
   exact kc
 have hb:=b q2 q4;have hf2:((f:Int)==2)=false:=zo;have hf4:((f:Int)==4)=false:=zo;have hf2':¬(f:Int)=2:=X;have hf4':¬(f:Int)=4:=X;clear b z;by_cases hlt:lt=ht
 ·subst hlt;have hla:¬la=ha:=fun e=>hb (by rw [e])
  have hla1:((la:Int)==ha)=false:=zo;have hla2:¬(la:Int)=ha:=X;clear hb hla;by_cases htb:top=bot
  ·skip
   subst htb;obtain ⟨g,hg⟩:∃g,w.heap.size=g:=⟨_,rfl⟩;have BB:Hid (Blk (w.alloc (O #[o Y f,o Y top,o Y top,o Y lt,o Q la,o Y lt,o Q ha] 139)) g #[o Y f,o Y top,o Y top,o Y lt,o Q la,o Y lt,o Q ha] 139):=Blk.new' _ _ _ _ hg.symm;have MM:Hid (Mod [] w (w.alloc (O #[o Y f,o Y top,o Y top,o Y lt,o Q la,o Y lt,o Q ha] 139))):=(Mod.refl _ _).alloc _;go_in;go_wp2_with fail
   go_quiet (fail)
   exact kg
  ·skip
   have CH:=V (zm3 f true (decide_eq_true (X)));have htb1:((top:Int) != bot)=true:=yr;have htb2:¬(top:Int)=bot:=X;clear htb;obtain ⟨g,hg⟩:∃g,w.heap.size=g:=⟨_,rfl⟩;have BB:Hid (Blk (w.alloc (O #[o Y f,o Y top,o Y bot,o Y lt,o Q la,o Y lt,o Q ha] 139)) g #[o Y f,o Y top,o Y bot,o Y lt,o Q la,o Y lt,o Q ha] 139):=Blk.new' _ _ _ _ hg.symm;have MM:Hid (Mod [] w (w.alloc (O #[o Y f,o Y top,o Y bot,o Y lt,o Q la,o Y lt,o Q ha] 139))):=(Mod.refl _ _).alloc _;go_in;go_wp2_with fail
   go_quiet (fail)
   exact kc
 ·have hlt1:((lt:Int)==ht)=false:=zo;have hlt2:¬(lt:Int)=ht:=X;clear hb hlt;by_cases htb:top=bot
  ·skip
   subst htb;obtain ⟨g,hg⟩:∃g,w.heap.size=g:=⟨_,rfl⟩;have BB:Hid (Blk (w.alloc (O #[o Y f,o Y top,o Y top,o Y lt,o Q la,o Y ht,o Q ha] 139)) g #[o Y f,o Y top,o Y top,o Y lt,o Q la,o Y ht,o Q ha] 139):=Blk.new' _ _ _ _ hg.symm;have MM:Hid (Mod [] w (w.alloc (O #[o Y f,o Y top,o Y top,o Y lt,o Q la,o Y ht,o Q ha] 139))):=(Mod.refl _ _).alloc _;go_in;go_wp2_with fail
   go_quiet (fail)
   exact kg
  ·skip
   have CH:=V (zm3 f true (decide_eq_true (X)));have htb1:((top:Int) != bot)=true:=yr;have htb2:¬(top:Int)=bot:=X;clear htb;obtain ⟨g,hg⟩:∃g,w.heap.size=g:=⟨_,rfl⟩;have BB:Hid (Blk (w.alloc (O #[o Y f,o Y top,o Y bot,o Y lt,o Q la,o Y ht,o Q ha] 139)) g #[o Y f,o Y top,o Y bot,o Y lt,o Q la,o Y ht,o Q ha] 139):=Blk.new' _ _ _ _ hg.symm;have MM:Hid (Mod [] w (w.alloc (O #[o Y f,o Y top,o Y bot,o Y lt,o Q la,o Y ht,o Q ha] 139))):=(Mod.refl _ _).alloc _;go_in;go_wp2_with fail
   go_quiet (fail)
   exact kc
open Go.RowKit
def zs4 (h p:Int):Int:=
 bits .xor Φ (IntKind.u64.wrap (bits .xor Φ h p *11400714819323198485)) (IntKind.u64.wrap (bits .xor Φ h p *11400714819323198485) / 536870912)
theorem yM4 (h p:Int) (w:C):τ S 283 #[o Φ h,o Φ p] w fun e w'=>e=G (o Φ (zs4 h p))∧w'=w:=by
 go_in;go_wp2;go_ret;exact ⟨rfl,rfl⟩
theorem zI8 (h p:Int):0≤zs4 h p∧zs4 h p < 18446744073709551616:=by
 unfold zs4 bits;generalize (BitVec.toNat _:Nat)=x;unfold IntKind.wrap;simp [IntKind.signed,IntKind.bits];omega
def yB0 (f t b:Nat):Int:=bits .or Φ (bits .or Φ (IntKind.u64.wrap (IntKind.u64.wrap (f:Int) *281474976710656)) (IntKind.u64.wrap (IntKind.u64.wrap (t:Int) *1099511627776))) (IntKind.u64.wrap (IntKind.u64.wrap (b:Int) *4294967296))
def zg9 (t a:Nat):Int:=bits .or Φ (IntKind.u64.wrap (IntKind.u64.wrap (t:Int) *4294967296)) (IntKind.u64.wrap (a:Int))
def hsh (r:Rc):Int:=zs4 (zs4 (zs4 1 (yB0 r.f r.top r.bot)) (zg9 r.lo.t r.lo.a)) (zg9 r.hi.t r.hi.a)
theorem yG9 (r:Rc) (w:C):τ S 282 #[rcv r] w fun e w'=>e=G (o Φ (hsh r))∧Mod [] w w':=by
 obtain ⟨f,t,b,⟨lt,la⟩,⟨ht,ha⟩⟩:=r;have MX:=V yM4;unfold rcv hsh;simp only;generalize hm:zs4 (zs4 (zs4 1 (yB0 f t b)) (zg9 lt la)) (zg9 ht ha)=m;have HM:=V hm;unfold yB0 zg9 at HM;clear hm;go_in;go_wp2_with fail;refine (MX.out _ _ _).mono ?_;rintro e w1 ⟨rfl,rfl⟩;generalize hx1:zs4 1 _=x1;rw [hx1] at HM;clear hx1;go_wp2_with fail;refine (MX.out _ _ _).mono ?_;rintro e w1 ⟨rfl,rfl⟩;generalize hx2:zs4 x1 _=x2;rw [hx2] at HM;clear hx2;go_wp2_with fail;refine (MX.out _ _ _).mono ?_;rintro e w1 ⟨rfl,rfl⟩;go_wp2_with fail;go_ret;exact ⟨by rw [←HM.out];rfl,zg⟩
open Go.RowKit
abbrev Xc:=Nat→Rc × Nat × Bool
def key (T:Xc) (i:Nat):Rc:=(T i).1
def occ (T:Xc) (i:Nat):Bool:=(T i).2.2
def zz1 (n a b:Nat):Nat:=(b+n - a) % n
theorem zA4 {n a b:Nat} (hn:0 < n):zz1 n a b < n:=Ω _ hn
theorem zr2 {n a b:Nat} (ha:a < n) (hb:b < n):zz1 n a b=if a≤b then b - a else b+n - a:=by
 unfold zz1;split
 ·have:b+n - a=(b - a)+n:=X;rw [this,Nat.add_mod_right,L (X)]
 ·rw [L (X)]
theorem zg8 {n a t:Nat} (ha:a < n) (ht:t≤n):(a+t) % n=if a+t < n then a+t else a+t - n:=by
 split
 ·rw [L (zm)]
 ·rw [Nat.mod_eq_sub_mod (X),L (X)]
theorem zE4 {n a b:Nat} (ha:a < n) (hb:b < n):(a+zz1 n a b) % n=b:=by
 have hd:=zA4 (n:=n) (a:=a) (b:=b) (X);rw [zg8 ha (X),zr2 ha hb];split<;>split<;>omega
theorem zD7 {n a t:Nat} (ha:a < n) (ht:t < n):zz1 n a ((a+t) % n)=t:=by
 have hb:(a+t) % n < n:=Ω _ (X);rw [zr2 ha hb,zg8 ha (X)];split<;>split<;>omega
def Xu (T:Xc) (n:Nat) (k:Rc):Nat→Nat→Nat
 | 0,i=>i
 | f+1,i=>if occ T i=true∧key T i≠k then Xu T n k f ((i+1) % n) else i
def stops (T:Xc) (k:Rc) (i:Nat):Prop:=occ T i=false∨key T i=k
theorem zv1 (T:Xc) (n:Nat) (k:Rc) (i:Nat) (hi:i < n):∀t f,t≤f→f≤n→(∀s,s < t→occ T ((i+s) % n)=true∧key T ((i+s) % n)≠k)→Xu T n k f i=Xu T n k (f - t) ((i+t) % n):=by
 intro t
 induction t with
 | zero=>intro f _ _ _;simp [L hi]
 | succ t ih=>
  intro f hf hfn h;rw [ih f (X) hfn (fun s hs=>h s (X))];have h1:=h t (X);have e:f - t=(f - (t+1))+1:=X;rw [e];rw [Xu,if_pos h1];have e2:((i+t) % n+1) % n=(i+(t+1)) % n:=by rw [Nat.mod_add_mod];rfl
  rw [e2]
theorem zc3 (T:Xc) (n:Nat) (k:Rc) (f i:Nat) (h:stops T k i):Xu T n k f i=i:=by
 cases f with
 | zero=>rfl
 | succ f=>
  unfold Xu;rw [if_neg];rintro ⟨h1,h2⟩;rcases h with h | h
  ·rw [h] at h1;simp at h1
  ·exact h2 h
structure LP (n:Nat) (home:Rc→Nat) (T:Xc):Prop where
 hlt:∀k,home k < n
 path:∀i,i < n→occ T i=true→∀t,t < zz1 n (home (key T i)) i→occ T ((home (key T i)+t) % n)=true
 uniq:∀i j,i < n→j < n→occ T i=true→occ T j=true→key T i=key T j→i=j
section
variable {n:Nat} {home:Rc→Nat} {T:Xc}
theorem LP.find_in (h:LP n home T) {i:Nat} (hi:i < n) (ho:occ T i=true):Xu T n (key T i) n (home (key T i))=i:=by
 have hh:=h.hlt (key T i);have hd:=zA4 (n:=n) (a:=home (key T i)) (b:=i) (X);rw [zv1 T n (key T i) _ hh (zz1 n (home (key T i)) i) n (X) (U _),zE4 hh hi]
 ·exact zc3 T n _ _ _ (.inr rfl)
 ·intro s hs;have h1:=h.path i hi ho s hs;refine ⟨h1,fun e=>?_⟩;have h2:=h.uniq _ _ (Ω _ (X)) hi h1 ho e;have h3:=zD7 (n:=n) hh (t:=s) (X);rw [h2] at h3;omega
theorem LP.find_out (h:LP n home T) {k:Rc} (hk:∀i,i < n→occ T i=true→key T i≠k) (he:∃e,e < n∧occ T e=false):
 ∃t,t < n∧Xu T n k n (home k)=(home k+t) % n∧occ T ((home k+t) % n)=false∧∀s,s < t→occ T ((home k+s) % n)=true:=by
 obtain ⟨e,hen,hee⟩:=he;have hh:=h.hlt k;have hd:=zA4 (n:=n) (a:=home k) (b:=e) (X)
 have hex:∃t,t < n∧occ T ((home k+t) % n)=false∧∀s,s < t→occ T ((home k+s) % n)=true:=by
  have:∀m,m≤zz1 n (home k) e→(∀s,s < m→occ T ((home k+s) % n)=true)∨∃t,t < m∧occ T ((home k+t) % n)=false∧∀s,s < t→occ T ((home k+s) % n)=true:=by
   intro m
   induction m with
   | zero=>intro _;exact .inl (fun s hs=>X)
   | succ m ih=>
    intro hm;rcases ih (X) with h1 | ⟨t,ht,h2⟩
    ·cases ho:occ T ((home k+m) % n) with
     | true=>
      refine .inl (fun s hs=>?_);by_cases hsm:s=m
      ·subst hsm;exact ho
      ·exact h1 s (X)
     | false=>exact .inr ⟨m,X,ho,h1⟩
    ·exact .inr ⟨t,X,h2⟩
  rcases this _ (U _) with h1 | ⟨t,ht,h2⟩
  ·exact ⟨zz1 n (home k) e,hd,by rw [zE4 hh hen];exact hee,h1⟩
  ·exact ⟨t,X,h2⟩
 obtain ⟨t,ht,h1,h2⟩:=hex;refine ⟨t,ht,?_,h1,h2⟩;rw [zv1 T n k _ hh t n (X) (U _) (fun s hs=>⟨h2 s hs,hk _ (Ω _ (X)) (h2 s hs)⟩)];exact zc3 T n _ _ _ (.inl h1)
def zm6 (T:Xc) (i:Nat) (x:Rc × Nat × Bool):Xc:=fun j=>if j=i then x else T j
theorem LP.insert (h:LP n home T) {k:Rc} {id:Nat} (hk:∀i,i < n→occ T i=true→key T i≠k) {t:Nat} (ht:t < n) (he:occ T ((home k+t) % n)=false) (hw:∀s,s < t→occ T ((home k+s) % n)=true):
 LP n home (zm6 T ((home k+t) % n) (k,id,true)):=by
 have hh:=h.hlt k;have hp:(home k+t) % n < n:=Ω _ (X)
 have hocc:∀j,occ T j=true→occ (zm6 T ((home k+t) % n) (k,id,true)) j=true:=by
  intro j hj;unfold zm6 occ;dsimp only;by_cases e:j=(home k+t) % n
  ·simp [e]
  ·rw [if_neg e];exact hj
 have hkey:∀j,j≠(home k+t) % n→zm6 T ((home k+t) % n) (k,id,true) j=T j:=fun j hj=>by unfold zm6;rw [if_neg hj]
 have hself:zm6 T ((home k+t) % n) (k,id,true) ((home k+t) % n)=(k,id,true):=by unfold zm6;rw [if_pos rfl]
 refine ⟨h.hlt,fun i hi ho s hs=>?_,fun i j hi hj hoi hoj hij=>?_⟩
 ·by_cases e:i=(home k+t) % n
  ·subst e;unfold key at hs ⊢;rw [hself] at hs ⊢;simp only at hs ⊢;rw [zD7 hh ht] at hs;exact hocc _ (hw s hs)
  ·unfold key occ at *;rw [hkey i e] at ho hs ⊢;exact hocc _ (h.path i hi ho s hs)
 ·unfold key occ at *;by_cases e:i=(home k+t) % n
  ·by_cases e2:j=(home k+t) % n
   ·rw [e,e2]
   ·subst e;rw [hself] at hij;rw [hkey j e2] at hij hoj;exact (hk j hj hoj hij.symm).elim
  ·by_cases e2:j=(home k+t) % n
   ·subst e2;rw [hself] at hij;rw [hkey i e] at hij hoi;exact (hk i hi hoi hij).elim
   ·rw [hkey i e] at hij hoi;rw [hkey j e2] at hij hoj;exact h.uniq i j hi hj hoi hoj hij
end
section
variable {n:Nat}
theorem zQ8 {a b:Nat} (hn:2≤n) (ha:a < n) (hb:b < n) (h:a≠b):zz1 n ((a+1) % n) b+1=zz1 n a b:=by
 have h1:(a+1) % n < n:=Ω _ (X);rw [zr2 h1 hb,zr2 ha hb,zg8 ha (X)];split<;>split<;>split<;>omega
end
open Go.RowKit
def rc0:Rc:=⟨0,0,0,⟨0,0⟩,⟨0,0⟩⟩
def cnt (T:Xc):Nat→Nat
 | 0=>0
 | n+1=>cnt T n+if occ T n=true then 1 else 0
theorem yF1 (T:Xc):∀n,cnt T n≤n:=by
 intro n
 induction n with
 | zero=>exact U _
 | succ n ih=>unfold cnt;split<;>omega
theorem yb9 (T:Xc) (i:Nat) (x:Rc × Nat × Bool):∀n,cnt (zm6 T i x) n+(if i < n∧occ T i=true then 1 else 0)=cnt T n+(if i < n∧x.2.2=true then 1 else 0):=by
 intro n
 induction n with
 | zero=>simp [cnt]
 | succ n ih=>
  unfold cnt;by_cases e:n=i
  ·subst e;have h1:occ (zm6 T n x) n=x.2.2:=by unfold occ zm6;rw [if_pos rfl]
   rw [h1];simp only [Nat.lt_irrefl,false_and,if_false,Nat.add_zero] at ih;rw [ih];simp only [Nat.lt_succ_self,true_and];omega
  ·have h1:occ (zm6 T i x) n=occ T n:=by unfold occ zm6;rw [if_neg e]
   have h2:(i < n+1)↔(i < n):=X;rw [h1];simp only [h2];omega
theorem zT9 {T:Xc}:∀{n},cnt T n < n→∃e,e < n∧occ T e=false:=by
 intro n
 induction n with
 | zero=>intro h;omega
 | succ n ih=>
  intro h;unfold cnt at h;cases ho:occ T n with
  | false=>exact ⟨n,X,ho⟩
  | true=>
   rw [ho] at h;simp at h;obtain ⟨e,he,h1⟩:=ih h;exact ⟨e,X,h1⟩
structure IW (n:Nat) (home:Rc→Nat) (T:Xc) (R:Rc→Nat→Prop) (c:Nat):Prop where
 lp:LP n home T
 c:cnt T n=c
 r:∀k id,R k id↔∃i,i < n∧T i=(k,id,true)
 kb:∀i,i < n→occ T i=true→(T i).2.1≤4294967295
section
variable {n c:Nat} {home:Rc→Nat} {T:Xc} {R:Rc→Nat→Prop}
theorem IW.fun_ (h:IW n home T R c) {k:Rc} {a b:Nat} (ha:R k a) (hb:R k b):a=b:=by
 obtain ⟨i,hi,hTi⟩:=(h.r k a).1 ha;obtain ⟨j,hj,hTj⟩:=(h.r k b).1 hb;have:=h.lp.uniq i j hi hj (by unfold occ;rw [hTi]) (by unfold occ;rw [hTj]) (by unfold key;rw [hTi,hTj]);subst this;rw [hTi] at hTj;simp at hTj;exact hTj
theorem IW.find_in (h:IW n home T R c) {k:Rc} {id:Nat} (hk:R k id):Xu T n k n (home k) < n∧T (Xu T n k n (home k))=(k,id,true):=by
 obtain ⟨i,hi,hT⟩:=(h.r k id).1 hk;have h1:=h.lp.find_in hi (by unfold occ;rw [hT]);have h2:key T i=k:=by unfold key;rw [hT]
 rw [h2] at h1;rw [h1];exact ⟨hi,hT⟩
theorem IW.find_out (h:IW n home T R c) (hn:c < n) {k:Rc} (hk:∀id,¬R k id):
 Xu T n k n (home k) < n∧occ T (Xu T n k n (home k))=false∧∀id,id≤4294967295→∀R':Rc→Nat→Prop,(∀k' id',R' k' id'↔(k'=k∧id'=id)∨(k'≠k∧R k' id'))→IW n home (zm6 T (Xu T n k n (home k)) (k,id,true)) R' (c+1):=by
 have hne:∀i,i < n→occ T i=true→key T i≠k:=fun i hi ho e=>hk (T i).2.1 ((h.r _ _).2 ⟨i,hi,by
  have h1:T i=((T i).1,(T i).2.1,(T i).2.2):=rfl;unfold occ at ho;unfold key at e
  rw [h1,ho,e]⟩)
 obtain ⟨t,ht,hp,he,hw⟩:=h.lp.find_out hne (zT9 (by rw [h.c];exact hn));have hpn:(home k+t) % n < n:=Ω _ (X);rw [hp];refine ⟨hpn,he,fun id hid R' hR'=>⟨h.lp.insert hne ht he hw,?_,fun k' id'=>?_,fun i hi ho=>?_⟩⟩
 ·have h1:=yb9 T ((home k+t) % n) (k,id,true) n;rw [he] at h1;simp [hpn] at h1;rw [h1,h.c]
 ·rw [hR',h.r];constructor
  ·rintro (⟨rfl,rfl⟩ | ⟨hkk,i,hi,hT⟩)
   ·exact ⟨_,hpn,by unfold zm6;rw [if_pos rfl]⟩
   ·refine ⟨i,hi,?_⟩;unfold zm6;rw [if_neg]
    ·exact hT
    ·intro e;subst e;unfold occ at he;rw [hT] at he;simp at he
  ·rintro ⟨i,hi,hT⟩;unfold zm6 at hT;by_cases e:i=(home k+t) % n
   ·rw [if_pos e] at hT;simp at hT;exact .inl ⟨hT.1.symm,hT.2.symm⟩
   ·rw [if_neg e] at hT;refine .inr ⟨fun e2=>hne i hi (by unfold occ;rw [hT]) (by unfold key;rw [hT];exact e2),i,hi,hT⟩
 ·unfold key occ at *;by_cases e:i=(home k+t) % n
  ·rw [show zm6 T ((home k+t) % n) (k,id,true) i=(k,id,true) from if_pos e];exact hid
  ·rw [show zm6 T ((home k+t) % n) (k,id,true) i=T i from if_neg e] at ho ⊢;exact h.kb i hi ho
theorem IW.empty (hh:∀k,home k < n):IW n home (fun _=>(rc0,0,false)) (fun _ _=>False) 0:=by
 have h0:∀n,cnt (fun _=>(rc0,0,false)) n=0:=by
  intro n;induction n with
  | zero=>rfl
  | succ n ih=>unfold cnt;rw [ih];simp [occ]
 refine ⟨⟨hh,fun i _ ho=>jd,fun i j _ _ ho=>jd⟩,h0 n,fun k id=>ze,fun i _ ho=>jd⟩
theorem IW.congr (h:IW n home T R c) {R':Rc→Nat→Prop} (e:∀k id,R' k id↔R k id):IW n home T R' c:=
 ⟨h.lp,h.c,fun k id=>(e k id).trans (h.r k id),h.kb⟩
theorem IW.stops (h:IW n home T R c) (hn:c < n) (k:Rc):stops T k (Xu T n k n (home k)):=by
 by_cases hk:∃id,R k id
 ·obtain ⟨id,hid⟩:=hk;have:=(h.find_in hid).2;exact .inr (by unfold key;rw [this])
 ·exact .inl (h.find_out hn (fun id hid=>hk ⟨id,hid⟩)).2.1
end
open Go.RowKit
theorem Y4 (d:Nat) (a b:Ed) (w:C):(Op.equalIn (d+2) 44 (edv a) (edv b)).run S w=.ok (decide (a=b)) w:=by
 obtain ⟨at_,aa⟩:=a;obtain ⟨bt,ba⟩:=b;have u5:=ρ;have u60:=Tryz.underlying42;have a5:=β;have a60:=Tryz.isAgg42;have z5:=ε;have z60:=Tryz.sizeOf42;have hS:Tryz.prog.underlying 44=Ξ (.struct (Tryz.prog.fieldsOf 44)):=by kernel_rfl
 unfold edv;rw [run_equalIn_agg w (d+1) 44 _ _ hS (by kernel_rfl)];simp only [Program.fieldsOf,Tryz.underlying44];go_simp;by_cases h1:at_=bt<;>by_cases h2:aa=ba<;>simp [h1,h2,Int.natCast_inj]
theorem yu7 (d:Nat) (a b:Rc) (w:C):(Op.equalIn (d+3) 139 (rcv a) (rcv b)).run S w=.ok (decide (a=b)) w:=by
 obtain ⟨af,at_,ab,al,ah⟩:=a;obtain ⟨bf,bt,bb,bl,bh⟩:=b;have u5:=ρ;have a5:=β;have z5:=ε;have u48:=Tryz.underlying41;have a48:=Tryz.isAgg41;have z48:=Tryz.sizeOf41;have a62:=Tryz.isAgg44;have z62:=Tryz.sizeOf44;have e1:=fun w=>Y4 d al bl w
 have e2:=fun w=>Y4 d ah bh w
 have hS:Tryz.prog.underlying 139=Ξ (.struct (Tryz.prog.fieldsOf 139)):=by kernel_rfl
 unfold rcv;unfold edv at e1 e2;obtain ⟨alt,ala⟩:=al;obtain ⟨blt,bla⟩:=bl;obtain ⟨aht,aha⟩:=ah;obtain ⟨bht,bha⟩:=bh;simp only at e1 e2 ⊢;generalize hd1:decide ((⟨alt,ala⟩:Ed)=⟨blt,bla⟩)=d1 at *;generalize hd2:decide ((⟨aht,aha⟩:Ed)=⟨bht,bha⟩)=d2 at *
 have hd:decide ((⟨af,at_,ab,⟨alt,ala⟩,⟨aht,aha⟩⟩:Rc)=⟨bf,bt,bb,⟨blt,bla⟩,⟨bht,bha⟩⟩)=(decide (af=bf) && (decide (at_=bt) && (decide (ab=bb) && (d1 && d2)))):=by
  rw [←hd1,←hd2];simp [Bool.and_assoc]
 rw [hd];clear hd hd1 hd2;rw [run_equalIn_agg w (d+2) 139 _ _ hS (by kernel_rfl)];simp only [Program.fieldsOf,Tryz.underlying139];go_simp;by_cases h1:af=bf<;>by_cases h2:at_=bt<;>by_cases h3:ab=bb<;>cases d1<;>cases d2<;>simp [h1,h2,h3,Int.natCast_inj]
theorem yj9 (d:Nat) (a b:Rc) (w:C):(Op.equalIn (d+4) 143 (rcv a) (rcv b)).run S w=.ok (decide (a=b)) w:=by
 have e1:=fun w=>yu7 d a b w
 have a62:=Tryz.isAgg139;have z62:=Tryz.sizeOf139;have hS:Tryz.prog.underlying 143=Ξ (.struct (Tryz.prog.fieldsOf 143)):=by kernel_rfl
 generalize decide (a=b)=q at *;unfold rcv at *;rw [run_equalIn_agg w (d+3) 143 _ _ hS (by kernel_rfl)];simp only [Program.fieldsOf,Tryz.underlying143];go_simp;cases q<;>simp
theorem YR (k:Nat) (h:0 < Xg k):k=61∨k=62∨k=94∨k=124∨k=38:=by
 unfold Xg at h;repeat' split at h
 all_goals omega
theorem zF1 {k k':Nat} (h:0 < Xg k) (e:Xg k=Xg k'):k=k':=by
 have h':0 < Xg k':=X;rcases YR k h with rfl | rfl | rfl | rfl | rfl<;>rcases YR k' h' with rfl | rfl | rfl | rfl | rfl<;>first | rfl | (exact absurd e (zi))
def sc (sg:Nat) (s:Int × Int × Int) (t:Tk):Int × Int × Int:=
 if t.k=40 then (s.1+1,s.2.1,s.2.2+1)
 else if t.k=41 then (s.1 - 1,s.2.1,s.2.2+1)
 else if t.k=sg∧s.1=0∧(s.2.1 < 0∨sg≠62) then (s.1,s.2.2,s.2.2+1)
 else (s.1,s.2.1,s.2.2+1)
theorem XK {sg:Nat} {t:Tk} (s:Int × Int × Int) (h0:t.k≠40) (h1:t.k≠41) (h:t.k≠sg∨s.1≠0):sc sg s t=(s.1,s.2.1,s.2.2+1):=by
 unfold sc;rw [if_neg h0,if_neg h1,if_neg (by rintro ⟨a,b,_⟩;rcases h with h | h;exact h a;exact h b)]
def zA9 (sg:Nat):Prop:=sg=61∨sg=62∨sg=94∨sg=124∨sg=38
mutual
theorem ki {p:Prop} (h:p:=by
 unfold zA9 at hs;simp only [Z,η]
 rw [XK _ (X) (X) (yG)];simp):p:=h
theorem zM4 {sg:Nat} (hs:zA9 sg):∀{ts:List Tk} {x:Ex},Un ts x→∀(d a i:Int),0≤d→ts.foldl (sc sg) (d,a,i)=(d,a,i+ts.length)
 | _,_,.con t h,d,a,i,hd=>by
  exact ki
 | _,_,.var t h,d,a,i,hd=>by
  exact ki
 | _,_,.not t h u,d,a,i,hd=>by
  have hs':=hs;unfold zA9 at hs';rw [Z,XK _ (X) (X) (yG),zM4 hs u _ _ _ hd];simp;omega
 | _,_,.par t t' h h' u,d,a,i,hd=>by
  rw [Z,W];rw [show sc sg (d,a,i) t=(d+1,a,i+1) by unfold sc;rw [if_pos h]];rw [yc8 hs u (d+1) a (i+1) (X)];simp only [Z,η];rw [show ∀s,sc sg s t'=(s.1 - 1,s.2.1,s.2.2+1) from fun s=>by unfold sc;rw [if_neg (X),if_pos h']];simp;omega
 | _,_,.bnd t v vs e h hv hvs he u,d,a,i,hd=>by
  have hs':=hs;unfold zA9 at hs';rw [Z,XK _ (X) (X) (yG),Z,XK _ (X) (X) (yG),W]
  have key:∀(l:List Tk),(∀u∈l,u.k=118)→∀(d a i:Int),l.foldl (sc sg) (d,a,i)=(d,a,i+l.length):=by
   intro l
   induction l with
   | nil=>intro _ d a i;simp
   | cons q l ih=>
    intro hl d a i;have:=hl q (ze);rw [Z,XK _ (X) (X) (yG),ih (fun u hu=>hl u (zY))];simp;omega
  rw [key vs hvs,Z,XK _ (X) (X) (yG),zM4 hs u _ _ _ hd];simp;omega
theorem kh {p:Prop} (h:p:=by
 rw [W,yc8 hs u d a i hd,Z,XK _ (X) (X) (by right;show d≠0;omega),yc8 hs v _ _ _ hd]
 simp;omega):p:=h
theorem yc8 {sg:Nat} (hs:zA9 sg):∀{r:Nat} {ts:List Tk} {x:Ex},Fl r ts x→∀(d a i:Int),0 < d→ts.foldl (sc sg) (d,a,i)=(d,a,i+ts.length)
 | _,_,_,.unit u,d,a,i,hd=>zM4 hs u d a i (X)
 | _,_,_,.up _ _ u,d,a,i,hd=>yc8 hs u d a i hd
 | _,_,_,.left (t:=t) _ _ _ hr u v,d,a,i,hd=>by
  have:=YR t.k (X);exact kh
 | _,_,_,.right (t:=t) hr u v,d,a,i,hd=>by
  exact kh
end
theorem zd4 {sg:Nat} (hs:zA9 sg) {r:Nat} {ts:List Tk} {x:Ex} (h:Fl r ts x):∀(a i:Int),Xg sg < r→ts.foldl (sc sg) (0,a,i)=(0,a,i+ts.length):=by
 have key:∀n,∀r ts x,Fl r ts x→ts.length *7+(6 - r)≤n→∀(a i:Int),Xg sg < r→ts.foldl (sc sg) (0,a,i)=(0,a,i+ts.length):=by
  intro n
  induction n using Nat.strongRecOn with
  | ind n ih=>
   intro r ts x h hn a i hr;cases h with
   | unit u=>exact zM4 hs u 0 a i (X)
   | up h6 h0 u=>exact ih (ts.length *7+(6 - (r+1))) (X) _ _ _ u (U _) a i (X)
   | @left _ ts1 ts2 t _ _ h0 h6 h2 hk u v=>
    have:=YR t.k (X);have hne:t.k≠sg:=by rintro e;rw [e] at hk;omega
    simp at hn;rw [W,ih (ts1.length *7+(6 - r)) (X) _ _ _ u (U _) a i hr,Z,XK _ (X) (X) (.inl hne),ih (ts2.length *7+(6 - (r+1))) (X) _ _ _ v (U _) _ _ (X)];simp;omega
   | @right ts1 ts2 t _ _ hk u v=>
    have hne:t.k≠sg:=by rintro e;rw [←e,hk] at hr;revert hr;decide
    simp at hn;rw [W,ih (ts1.length *7+(6 - 3)) (X) _ _ _ u (U _) a i (X),Z,XK _ (X) (X) (.inl hne),ih (ts2.length *7+(6 - 2)) (X) _ _ _ v (U _) _ _ hr];simp;omega
 exact fun a i hr=>key _ r ts x h (U _) a i hr
theorem Fl.split {r:Nat} {ts:List Tk} {x:Ex} (h:Fl r ts x):Un ts x∨∃ts1 t ts2 a b,ts=ts1++t::ts2∧x=.bin t.k a b∧r≤Xg t.k∧0 < Xg t.k∧
 ((t.k≠62∧Fl (Xg t.k) ts1 a∧Fl (Xg t.k+1) ts2 b)∨(t.k=62∧Fl 3 ts1 a∧Fl 2 ts2 b)):=by
 have key:∀n r ts x,6 - r≤n→Fl r ts x→Un ts x∨∃ts1 t ts2 a b,ts=ts1++t::ts2∧x=.bin t.k a b∧r≤Xg t.k∧0 < Xg t.k∧
  ((t.k≠62∧Fl (Xg t.k) ts1 a∧Fl (Xg t.k+1) ts2 b)∨(t.k=62∧Fl 3 ts1 a∧Fl 2 ts2 b)):=by
  intro n
  induction n with
  | zero=>
   intro r ts x hn h;cases h with
   | unit u=>exact .inl u
   | up h6 h0 u=>omega
   | left h0 h6 h2 hk u v=>omega
   | right hk u v=>omega
  | succ n ih=>
   intro r ts x hn h;cases h with
   | unit u=>exact .inl u
   | up h6 h0 u=>
    rcases ih (r+1) ts x (X) u with h | ⟨ts1,t,ts2,a,b,e,ex,hr,h0,h⟩
    ·exact .inl h
    ·exact .inr ⟨ts1,t,ts2,a,b,e,ex,X,h0,h⟩
   | @left _ ts1 ts2 t _ _ h0 h6 h2 hk u v=>
    refine .inr ⟨_,_,_,_,_,rfl,rfl,X,X,.inl ⟨?_,by rw [hk];exact u,by rw [hk];exact v⟩⟩;rintro e;rw [e] at hk;exact h2 (by rw [←hk];decide)
   | right hk u v=>exact .inr ⟨_,_,_,_,_,rfl,rfl,by rw [hk];decide,by rw [hk];decide,.inr ⟨hk,u,v⟩⟩
 exact key _ r ts x (U _) h
def zi0 (ts:List Tk):List Nat→Int
 | []=> -1
 | sg::l=>if 0≤(ts.foldl (sc sg) (0,-1,0)).2.1 then (ts.foldl (sc sg) (0,-1,0)).2.1 else zi0 ts l
theorem zX9 {ts:List Tk} {x:Ex} (h:Un ts x):∀l:List Nat,(∀s∈l,zA9 s)→zi0 ts l= -1:=by
 intro l
 induction l with
 | nil=>intro _;rfl
 | cons s l ih=>
  intro hl;unfold zi0;rw [zM4 (hl s (ze)) h 0 (-1) 0 (X)];simp;exact ih (fun u hu=>hl u (zY))
theorem zS5 {ts1 ts2:List Tk} {t:Tk} {a b:Ex} (h0:0 < Xg t.k)
 (h:(t.k≠62∧Fl (Xg t.k) ts1 a∧Fl (Xg t.k+1) ts2 b)∨(t.k=62∧Fl 3 ts1 a∧Fl 2 ts2 b)):
 ∀(l1 l2:List Nat),(∀s∈l1,zA9 s∧Xg s < Xg t.k)→zi0 (ts1++t::ts2) (l1++t.k::l2)=ts1.length:=by
 have hsg:zA9 t.k:=YR _ h0;intro l1
 induction l1 with
 | nil=>
  intro l2 _;have hp:t.k≠40∧t.k≠41:=by have:=YR t.k h0;omega
  have e:((ts1++t::ts2).foldl (sc t.k) (0,-1,0)).2.1=ts1.length:=by
   rcases h with ⟨hne,u,v⟩ | ⟨he,u,v⟩
   ·rw [W]
    have k1:∃a',ts1.foldl (sc t.k) (0,-1,0)=(0,a',0+(ts1.length:Int)):=by
     have key:∀r,r=Xg t.k→∀n ts x,ts.length≤n→Fl r ts x→∀a i:Int,∃a',ts.foldl (sc t.k) (0,a,i)=(0,a',i+(ts.length:Int)):=by
      intro r hre n
      induction n with
      | zero=>
       intro ts x hl hf a i;obtain rfl:ts=[]:=ω.1 (X);exact ⟨a,ze⟩
      | succ n ih=>
       intro ts x hl hf a i;cases hf with
       | unit u=>exact ⟨a,zM4 hsg u 0 a i (X)⟩
       | up h6 h0' u=>exact ⟨a,zd4 hsg u a i (X)⟩
       | @left _ us1 us2 s _ _ h0' h6 h2 hk u v=>
        simp at hl;obtain ⟨a1,e1⟩:=ih us1 _ (X) u a i;have hks:s.k=t.k:=zF1 (X) (hk.trans hre);rw [W,e1,Z]
        have e2:sc t.k (0,a1,i+(us1.length:Int)) s=(0,i+(us1.length:Int),i+(us1.length:Int)+1):=by
         unfold sc;rw [if_neg (X),if_neg (X),if_pos ⟨hks,rfl,.inr hne⟩]
        rw [e2,zd4 hsg v _ _ (X)];exact ⟨i+(us1.length:Int),zj⟩
       | right hk u v=>exact absurd (zC0 (k:=t.k) hre.symm) hne
     exact key _ rfl _ ts1 a (U _) u (-1) 0
    obtain ⟨a',e1⟩:=k1;rw [e1,Z]
    have e2:sc t.k (0,a',0+(ts1.length:Int)) t=(0,0+(ts1.length:Int),0+(ts1.length:Int)+1):=by
     unfold sc;rw [if_neg hp.1,if_neg hp.2,if_pos ⟨rfl,rfl,.inr hne⟩]
    rw [e2,zd4 hsg v _ _ (X)];simp
   ·rw [W,zd4 hsg u _ _ (xm),Z]
    have e2:sc t.k (0,-1,0+(ts1.length:Int)) t=(0,0+(ts1.length:Int),0+(ts1.length:Int)+1):=by
     unfold sc;rw [if_neg hp.1,if_neg hp.2,if_pos ⟨rfl,rfl,.inl (show (-1:Int) < 0 from zi)⟩]
    rw [e2]
    have key:∀n ts x,ts.length≤n→Fl 2 ts x→∀a i:Int,0≤a→ts.foldl (sc t.k) (0,a,i)=(0,a,i+(ts.length:Int)):=by
     intro n
     induction n with
     | zero=>
      intro ts x hl hf a i ha;obtain rfl:ts=[]:=ω.1 (X);simp
     | succ n ih=>
      intro ts x hl hf a i ha;cases hf with
      | up h6 h0' u=>exact zd4 hsg u a i (xm)
      | left h0' h6 h2 hk u v=>exact absurd rfl h2
      | @right us1 us2 s _ _ hk u v=>
       simp at hl;rw [W,zd4 hsg u a i (xm),Z]
       have e2:sc t.k (0,a,i+(us1.length:Int)) s=(0,a,i+(us1.length:Int)+1):=by
        unfold sc;rw [if_neg (X),if_neg (X),if_neg (by rintro ⟨_,_,h | h⟩;exact absurd h (zj);exact h he)]
       rw [e2,ih us2 _ (X) v _ _ ha];simp;omega
    rw [key _ ts2 b (U _) v _ _ (X)];simp
  show (if _ then _ else _)=_;rw [e,if_pos (X)]
 | cons s l1 ih=>
  intro l2 hl;have ⟨hs,hr⟩:=hl s (ze);show (if _ then _ else _)=_
  have e:(ts1++t::ts2).foldl (sc s) (0,-1,0)=(0,-1,0+((ts1++t::ts2).length:Int)):=by
   have hne:t.k≠s:=by rintro e;rw [←e] at hr;omega
   have hp:t.k≠40∧t.k≠41:=by have:=YR t.k h0;omega
   rw [W];rcases h with ⟨_,u,v⟩ | ⟨he,u,v⟩
   ·rw [zd4 hs u _ _ hr,Z,XK _ hp.1 hp.2 (.inl hne),zd4 hs v _ _ (X)];simp;omega
   ·have h62:Xg t.k=2:=xm;rw [zd4 hs u _ _ (X),Z,XK _ hp.1 hp.2 (.inl hne),zd4 hs v _ _ (X)];simp;omega
  rw [e];simp;exact ih l2 (fun u hu=>hl u (zY))
theorem zN8 {ts1 ts2:List Tk} {t:Tk} {a b:Ex} (h0:0 < Xg t.k)
 (h:(t.k≠62∧Fl (Xg t.k) ts1 a∧Fl (Xg t.k+1) ts2 b)∨(t.k=62∧Fl 3 ts1 a∧Fl 2 ts2 b)):zi0 (ts1++t::ts2) [61,62,94,124,38]=ts1.length:=by
 have dec:∀l1:List Nat,(∀s∈l1,zA9 s∧Xg s < Xg t.k)→∀l2,[61,62,94,124,38]=l1++t.k::l2→zi0 (ts1++t::ts2) [61,62,94,124,38]=ts1.length:=by
  intro l1 hl l2 e;rw [e];exact zS5 h0 h l1 l2 hl
 rcases YR t.k h0 with e | e | e | e | e
 ·exact dec [] (ze) [62,94,124,38] (yH)
 ·exact dec [61] (by rw [e];intro s hs;simp at hs;subst hs;unfold zA9;decide) [94,124,38] (yH)
 ·exact dec [61,62] (by rw [e];intro s hs;simp at hs;rcases hs with rfl | rfl<;>(unfold zA9;decide)) [124,38] (yH)
 ·exact dec [61,62,94] (by rw [e];intro s hs;simp at hs;rcases hs with rfl | rfl | rfl<;>(unfold zA9;decide)) [38] (yH)
 ·exact dec [61,62,94,124] (by rw [e];intro s hs;simp at hs;rcases hs with rfl | rfl | rfl | rfl<;>(unfold zA9;decide)) [] (yH)
theorem za3 {ts:List Tk} {x:Ex} (h:Un ts x):zi0 ts [61,62,94,124,38]= -1:=zX9 h _ (by intro s hs;simp at hs;unfold zA9;omega)
def zw2 (op:Nat):List Ex→Ex
 | []=>.con false
 | x::l=>l.foldl (fun a b=>.bin op a b) x
def zi7 (op:Nat):List Ex→Ex
 | []=>.con false
 | [x]=>x
 | x::l=>.bin op x (zi7 op l)
inductive Gp (r:Nat):List Tk→List Ex→Prop
 | one {ts:List Tk} {x:Ex}:Fl (r+1) ts x→Gp r ts [x]
 | more {ts1 ts2:List Tk} {t:Tk} {x:Ex} {l:List Ex}:Fl (r+1) ts1 x→Xg t.k=r→Gp r ts2 l→Gp r (ts1++t::ts2) (x::l)
theorem Gp.ne {r:Nat} {ts:List Tk} {l:List Ex} (h:Gp r ts l):l≠[]:=by cases h<;>simp
theorem Gp.snoc {r:Nat} {ts1 ts2:List Tk} {l:List Ex} {t:Tk} {x:Ex} (h:Gp r ts1 l) (hr:Xg t.k=r) (hx:Fl (r+1) ts2 x):Gp r (ts1++t::ts2) (l++[x]):=by
 induction h with
 | one u=>exact .more u hr (.one hx)
 | more u hr' _ ih=>rw [List.append_assoc,π];exact .more u hr' ih
theorem Fl.groups {r:Nat} {ts:List Tk} {x:Ex} (h:Fl r ts x) (h6:r < 6) (h0:0 < r) (op:Nat) (hop:Xg op=r):∃l,Gp r ts l∧x=if r=2 then zi7 op l else zw2 op l:=by
 have key:∀n ts x,ts.length≤n→Fl r ts x→∃l,Gp r ts l∧x=if r=2 then zi7 op l else zw2 op l:=by
  intro n
  induction n with
  | zero=>
   intro ts x hl hf;cases hf with
   | unit u=>omega
   | up h6 h0 u=>exact ⟨[x],.one u,by split<;>rfl⟩
   | left h0' h6 h2 hk u v=>simp at hl
   | right hk u v=>simp at hl
  | succ n ih=>
   intro ts x hl hf;cases hf with
   | unit u=>omega
   | up h6 h0 u=>exact ⟨[x],.one u,by split<;>rfl⟩
   | @left _ us1 us2 s a b h0' h6 h2 hk u v=>
    simp at hl;obtain ⟨l,hg,rfl⟩:=ih us1 _ (X) u;refine ⟨l++[b],hg.snoc hk v,?_⟩;rw [if_neg h2,if_neg h2];have hs:s.k=op:=zF1 (X) (hk.trans hop.symm);cases l with
    | nil=>exact absurd rfl hg.ne
    | cons q l=>simp [zw2,hs]
   | @right us1 us2 s a b hk u v=>
    simp at hl;obtain ⟨l,hg,rfl⟩:=ih us2 _ (X) v;refine ⟨a::l,.more u (by rw [hk];decide) hg,?_⟩;have hs:s.k=op:=by rw [hk];exact (zC0 hop).symm
    cases l with
    | nil=>exact absurd rfl hg.ne
    | cons q l=>simp [zi7,hs]
 exact key _ ts x (U _) h
def Xp (x v:Nat) (b:Bool):Nat:=if x.testBit v=b then x else x ^^^ 2 ^ v
theorem XR (x v:Nat) (b:Bool) (u:Nat):(Xp x v b).testBit u=if u=v then b else x.testBit u:=by
 unfold Xp;by_cases h:x.testBit v=b
 ·rw [if_pos h];split
  ·rename_i e;rw [e,h]
  ·rfl
 ·rw [if_neg h,Nat.testBit_xor,Nat.testBit_two_pow];by_cases q:u=v
  ·subst q;cases b<;>simp_all
  ·have q':¬v=u:=fun e=>q e.symm
   simp [q,q']
theorem Xb {x v n:Nat} (b:Bool) (hx:x < 2 ^ n) (hv:v < n):Xp x v b < 2 ^ n:=by
 apply Nat.lt_pow_two_of_testBit;intro i hi;rw [XR,if_neg (X)];exact Ψ (K hx (M (X) hi))
def yx5 (each:Bool) (v:Nat) (g:Nat→Bool) (y:Nat):Bool:=if each then g (Xp y v false) && g (Xp y v true) else g (Xp y v false) || g (Xp y v true)
def agree (n:Nat) (l:List Nat) (y z:Nat):Prop:=∀v,v < n→v∉l→z.testBit v=y.testBit v
def QuS (n:Nat) (l:List Nat) (g:Nat→Bool) (y:Nat):Prop:=∃z,z < 2 ^ n∧agree n l y z∧g z=true
def QuE (n:Nat) (l:List Nat) (g:Nat→Bool) (y:Nat):Prop:=∀z,z < 2 ^ n→agree n l y z→g z=true
def Qu (each:Bool) (n:Nat) (l:List Nat) (g:Nat→Bool) (y:Nat):Prop:=if each then QuE n l g y else QuS n l g y
theorem zR2 {n y z:Nat} (hy:y < 2 ^ n) (hz:z < 2 ^ n) (h:∀v,v < n→z.testBit v=y.testBit v):z=y:=by
 apply Nat.eq_of_testBit_eq;intro i;by_cases q:i < n
 ·exact h i q
 ·rw [Ψ (K hz (M (X) (X))),Ψ (K hy (M (X) (X)))]
theorem Qu.nil {each:Bool} {n:Nat} {g:Nat→Bool} {y:Nat} (hy:y < 2 ^ n):Qu each n [] g y↔g y=true:=by
 have key:∀z,z < 2 ^ n→agree n [] y z→z=y:=fun z hz h=>zR2 hy hz fun v hv=>h v hv (ze)
 unfold Qu QuE QuS;cases each with
 | true=>
  rw [if_pos rfl];exact ⟨fun h=>h y hy (fun v _ _=>rfl),fun h z hz ha=>by rw [key z hz ha];exact h⟩
 | false=>
  rw [if_neg (ze)];exact ⟨fun ⟨z,hz,ha,hg⟩=>by rw [←key z hz ha];exact hg,fun h=>⟨y,hy,fun v _ _=>rfl,h⟩⟩
theorem XW {n:Nat} {l:List Nat} {v:Nat} {y z:Nat} (hv:v < n):agree n (v::l) y z↔∃b,agree n l (Xp y v b) z:=by
 constructor
 ·intro h;refine ⟨z.testBit v,fun u hu hm=>?_⟩;rw [XR];split
  ·rename_i e;rw [e]
  ·rename_i e;exact h u hu (by simp [e,hm])
 ·rintro ⟨b,h⟩ u hu hm;have:=h u hu (by simp at hm;exact hm.2);rw [this,XR,if_neg (by simp at hm;exact hm.1)]
theorem Qu.one {each:Bool} {n:Nat} {l:List Nat} {g:Nat→Bool} {v y:Nat} (hv:v < n):Qu each n (v::l) g y↔(if each then Qu each n l g (Xp y v false)∧Qu each n l g (Xp y v true) else Qu each n l g (Xp y v false)∨Qu each n l g (Xp y v true)):=by
 unfold Qu QuE QuS;cases each with
 | true=>
  simp only [if_true];constructor
  ·intro h;exact ⟨fun z hz ha=>h z hz ((XW hv).2 ⟨_,ha⟩),fun z hz ha=>h z hz ((XW hv).2 ⟨_,ha⟩)⟩
  ·rintro ⟨h0,h1⟩ z hz ha;obtain ⟨b,ha⟩:=(XW hv).1 ha;cases b with
   | false=>exact h0 z hz ha
   | true=>exact h1 z hz ha
 | false=>
  simp only [Δ,if_false];constructor
  ·rintro ⟨z,hz,ha,hg⟩;obtain ⟨b,ha⟩:=(XW hv).1 ha;cases b with
   | false=>exact .inl ⟨z,hz,ha,hg⟩
   | true=>exact .inr ⟨z,hz,ha,hg⟩
  ·rintro (⟨z,hz,ha,hg⟩ | ⟨z,hz,ha,hg⟩)
   ·exact ⟨z,hz,(XW hv).2 ⟨_,ha⟩,hg⟩
   ·exact ⟨z,hz,(XW hv).2 ⟨_,ha⟩,hg⟩
theorem za1 {n:Nat} {l l':List Nat} (h:∀v,v < n→(v∈l↔v∈l')) {y z:Nat}:agree n l y z↔agree n l' y z:=
 ⟨fun a v hv hm=>a v hv (fun q=>hm ((h v hv).1 q)),fun a v hv hm=>a v hv (fun q=>hm ((h v hv).2 q))⟩
theorem Qu.congr {each:Bool} {n:Nat} {l l':List Nat} {g g':Nat→Bool} {y:Nat} (h:∀v,v < n→(v∈l↔v∈l')) (hg:∀z,z < 2 ^ n→g z=g' z):Qu each n l g y↔Qu each n l' g' y:=by
 unfold Qu QuE QuS;split
 ·exact ⟨fun q z hz ha=>by rw [←hg z hz];exact q z hz ((za1 h).2 ha),fun q z hz ha=>by rw [hg z hz];exact q z hz ((za1 h).1 ha)⟩
 ·exact ⟨fun ⟨z,hz,ha,q⟩=>⟨z,hz,(za1 h).1 ha,by rw [←hg z hz];exact q⟩,fun ⟨z,hz,ha,q⟩=>⟨z,hz,(za1 h).2 ha,by rw [hg z hz];exact q⟩⟩
def ye7 (each:Bool):List Nat→(Nat→Bool)→Nat→Bool
 | [],g=>g
 | v::l,g=>yx5 each v (ye7 each l g)
theorem zX1 {each:Bool} {n:Nat} {g:Nat→Bool}:∀(l:List Nat),(∀v∈l,v < n)→∀y,y < 2 ^ n→(ye7 each l g y=true↔Qu each n l g y):=by
 intro l
 induction l with
 | nil=>intro _ y hy;exact (Qu.nil hy).symm
 | cons v l ih=>
  intro hl y hy;have hv:=hl v (ze);have ih':=ih (fun u hu=>hl u (zY));rw [Qu.one hv];show yx5 each v (ye7 each l g) y=true↔_;unfold yx5;cases each with
  | true=>simp only [if_true,ξ];rw [ih' _ (Xb _ hy hv),ih' _ (Xb _ hy hv)]
  | false=>simp only [Δ,if_false,ψ];rw [ih' _ (Xb _ hy hv),ih' _ (Xb _ hy hv)]
def agB (n:Nat) (l:List Nat) (y z:Nat):Bool:=(θ n).all fun v=>l.contains v || z.testBit v==y.testBit v
def quB (each:Bool) (n:Nat) (l:List Nat) (g:Nat→Bool) (y:Nat):Bool:=if each then (θ (2 ^ n)).all (fun z=> !agB n l y z || g z) else (θ (2 ^ n)).any (fun z=>agB n l y z && g z)
theorem agB_iff {n:Nat} {l:List Nat} {y z:Nat}:agB n l y z=true↔agree n l y z:=by
 unfold agB agree;rw [ν];simp only [χ,ψ,List.contains_iff_mem,beq_iff_eq]
 exact ⟨fun h v hv hm=>(h v hv).resolve_left hm,fun h v hv=>by
  by_cases q:v∈l
  ·exact .inl q
  ·exact .inr (h v hv q)⟩
theorem zD4 {each:Bool} {n:Nat} {l:List Nat} {g:Nat→Bool} {y:Nat}:quB each n l g y=true↔Qu each n l g y:=by
 unfold quB Qu QuE QuS;cases each with
 | true=>
  simp only [if_true,ν,χ,ψ,Bool.not_eq_true']
  exact ⟨fun h z hz ha=>(h z hz).resolve_left (by rw [agB_iff.2 ha];simp),fun h z hz=>by
   by_cases q:agree n l y z
   ·exact .inr (h z hz q)
   ·refine .inl ?_;cases e:agB n l y z with
    | false=>rfl
    | true=>exact absurd (agB_iff.1 e) q⟩
 | false=>
  simp only [Δ,if_false,List.any_eq_true,χ,ξ];exact ⟨fun ⟨z,hz,ha,hg⟩=>⟨z,hz,agB_iff.1 ha,hg⟩,fun ⟨z,hz,ha,hg⟩=>⟨z,hz,agB_iff.2 ha,hg⟩⟩
def opB (op:Nat) (a b:Bool):Bool:=if op=38 then a && b else if op=124 then a || b else if op=94 then a != b else if op=62 then !a || b else a==b
def evE (n:Nat):Ex→Nat→Bool
 | .con b,_=>b
 | .var v,y=>y.testBit v
 | .not x,y=> !evE n x y
 | .bin op a b,y=>opB op (evE n a y) (evE n b y)
 | .bnd each l x,y=>quB each n l (evE n x) y
def zt4 (n:Nat):Ex→Prop
 | .con _=>True
 | .var v=>v < n
 | .not x=>zt4 n x
 | .bin _ a b=>zt4 n a∧zt4 n b
 | .bnd _ l x=>(∀v∈l,v < n)∧zt4 n x
def vl (b:Nat):List Nat→Nat
 | []=>0
 | x::l=>x+b *vl b l
theorem ze8 (b:Nat) (l l':List Nat):vl b (l++l')=vl b l+b ^ l.length *vl b l':=by
 induction l with
 | nil=>simp [vl]
 | cons x l ih=>simp only [π,vl,ih,Γ,σ,Qa];rw [←Nat.mul_assoc,δ b (b ^ l.length)];omega
theorem zd8 (b:Nat) (l:List Nat) (x:Nat):vl b (l++[x])=vl b l+b ^ l.length *x:=by rw [ze8];simp [vl]
theorem yM3 {b:Nat} {l:List Nat} (h:∀x∈l,x < b):vl b l < b ^ l.length:=by
 induction l with
 | nil=>simp [vl]
 | cons x l ih=>
  have h1:=ih (fun y hy=>h y (yg));have h2:=h x (ze);have h3:b *(vl b l+1)≤b *b ^ l.length:=φ b h1;rw [Qa] at h3;simp only [vl,Γ,σ];rw [δ (b ^ l.length) b];omega
theorem zS1 (b n:Nat):vl b (Θ n 0)=0:=by
 induction n with
 | zero=>rfl
 | succ n ih=>simp [List.replicate_succ,vl,ih]
theorem zF4 (b:Nat) (l:List Nat) (n:Nat):vl b (l++Θ n 0)=vl b l:=by rw [ze8,zS1];simp
theorem zi4 (b:Nat) (l:List Nat) {i:Nat} (h:i < l.length):vl b (l.take (i+1))=vl b (l.take i)+b ^ i *l[i]:=by
 rw [List.take_succ_eq_append_getElem h,zd8,μ,ι (X)]
structure Can (b:Nat) (l:List Nat) (n:Nat):Prop where
 lt:∀x∈l,x < b
 val:vl b l=n
 last:∀x,l.getLast? =Ξ x→x≠0
theorem Can.nil (b:Nat):Can b [] 0:=⟨ze,rfl,ze⟩
theorem Can.upper {b:Nat} {l:List Nat} {n:Nat} (h:Can b l n):n < b ^ l.length:=by rw [←h.val];exact yM3 h.lt
theorem Can.lower {b:Nat} {l:List Nat} {n:Nat} (h:Can b l n) (hl:l≠[]):b ^ (l.length - 1)≤n:=by
 rcases List.eq_nil_or_concat l with rfl | ⟨p,x,rfl⟩
 ·exact absurd rfl hl
 ·rw [List.concat_eq_append] at *;have hx:=h.last x (ze);rw [←h.val,zd8,List.length_append];have h1:b ^ p.length *1≤b ^ p.length *x:=φ _ (X);simp;omega
theorem Can.pos {b:Nat} {l:List Nat} {n:Nat} (hb:0 < b) (h:Can b l n) (hl:l≠[]):0 < n:=
 K (Nat.pow_pos hb) (h.lower hl)
theorem Can.zero {b:Nat} {l:List Nat} (hb:0 < b) (h:Can b l 0):l=[]:=by
 by_cases hl:l=[]
 ·exact hl
 ·have:=h.pos hb hl;omega
theorem Can.nil_val {b:Nat} {n:Nat} (h:Can b [] n):n=0:=h.val.symm
theorem Can.fits {b:Nat} {l:List Nat} {n:Nat} (hb:1 < b) (h:Can b l n) (k:Nat):l.length≤k↔n < b ^ k:=by
 constructor
 ·intro q;exact K h.upper (M (X) q)
 ·intro q;rcases Nat.lt_or_ge k l.length with q2 | q2
  ·have hl:l≠[]:=by intro e;rw [e] at q2;simp at q2
   have h1:=h.lower hl;have h2:b ^ k≤b ^ (l.length - 1):=M (X) (X);omega
  ·exact q2
theorem Can.tail {b x:Nat} {l:List Nat} {n:Nat} (h:Can b (x::l) n):Can b l (vl b l):=
 ⟨fun y hy=>h.lt y (yg),rfl,fun y hy=>h.last y (by
  cases l with
  | nil=>simp at hy
  | cons z t=>rw [List.getLast?_cons_cons];exact hy)⟩
theorem Can.uniq {b:Nat} (hb:1 < b):∀{l l':List Nat} {n:Nat},Can b l n→Can b l' n→l=l':=by
 intro l
 induction l with
 | nil=>
  intro l' n h h';obtain rfl:=h.nil_val;exact (h'.zero (X)).symm
 | cons x l ih=>
  intro l' n h h';cases l' with
  | nil=>
   obtain rfl:=h'.nil_val;exact h.zero (X)
  | cons y t=>
   have e:x+b *vl b l=y+b *vl b t:=h.val.trans h'.val.symm;have hx:=h.lt x (ze);have hy:=h'.lt y (ze)
   have e1:x=y:=by
    have:=congrArg (· % b) e;simpa [Nat.add_mul_mod_self_left,L hx,L hy] using this
   subst e1;have e2:vl b l=vl b t:=Nat.eq_of_mul_eq_mul_left (show 0 < b from X) (X);have h2:=h'.tail;rw [←e2] at h2;rw [ih h.tail h2]
theorem Can.norm {b:Nat} {l:List Nat} (h:∀x∈l,x < b) {n:Nat} (hn:n≤l.length) (hv:vl b (l.take n)=vl b l) (hz:n=0∨∃h:n - 1 < l.length,l[n - 1]≠0):Can b (l.take n) (vl b l):=by
 refine ⟨fun x hx=>h x (List.mem_of_mem_take hx),hv,fun x hx=>?_⟩;rcases hz with rfl | ⟨h1,h2⟩
 ·simp at hx
 ·by_cases h0:n=0
  ·subst h0;simp at hx
  ·rw [List.getLast?_eq_getElem?,μ,ι hn,List.getElem?_take,if_pos (X),List.getElem?_eq_getElem h1] at hx;simp at hx;rw [←hx];exact h2
theorem ya0 {b:Nat} {l:List Nat} {n:Nat} (hn:n < l.length) (hv:vl b (l.take (n+1))=vl b l) (h0:l[n]=0):vl b (l.take n)=vl b l:=by
 rw [←hv,zi4 b l hn,h0];simp
end Go.Proofs.YtbnpoapmnkfhkaaGreatDoor
