import Derived.Test.YtbnpoapmnkfhkaaGreatDoorZt36
import Derived.Test.YtbnpoapmnkfhkaaGreatDoorZt20
import Derived.Deep.RegionHeld3
set_option maxRecDepth 100000
set_option maxHeartbeats 4000000
set_option linter.unusedVariables false
set_option linter.unusedSimpArgs false
namespace Go.Proofs.YtbnpoapmnkfhkaaGreatDoor
open Option renaming none → f, some → U, getD_some → ζ
open Go.World renaming block_lt_of_cell? → Z
open Go.Proofs.Tryz renaming prog → Y, sizeOf99 → Qb
open Go.Value renaming slice → V, int → R, bool → σ, agg → β
open Go.Ending renaming returned → T
open Go.Lib renaming hid → Q
open Go.IntKind renaming i64 → P, u64 → Qd
open List renaming getElem?_eq_getElem → O, length_map → J, getElem_cons_zero → H, getD_eq_getElem?_getD → E, getElem?_map → D, length_pos_iff → C, mem_cons → Ω, replicate → Φ, getElem?_append_left → Ξ, getElem?_take_of_lt → Θ, take_of_length_le → Γ, drop_of_length_le → ω, length_take → ψ, range → φ, getElem?_range → τ, getElem?_append_right → ρ, length_append → κ, getElem?_drop → ι, mem_map → θ, length_drop → η, drop_append → ε, length_cons → δ, nil_append → γ, drop_zero → Qa
open Go.RowKit renaming Hid → M
open Go.Proofs.YtbnpoapmnkfhkaaGreatDoor renaming zc → K, Mod → G
open Go renaming Calls → I, World → Ψ, Value → χ
open Go.Obj renaming cells → Δ
open Go.Instr renaming slice → π
open Nat renaming zero_mul → ξ, add_zero → ν, two_pow_pos → μ, sub_zero → Qc, le_refl → Qe
theorem YY {m:Nat} (g:Nat→Bool) {y:Nat} (hy:y < m):((φ m).map g).getD y false=g y:=by
 rw [E,D,τ hy];rfl
theorem zY2 {m:Nat} {t:List Bool} {g:Nat→Bool} (hl:t.length=m) (h:∀y,y < m→t.getD y false=g y):t=(φ m).map g:=by
 subst hl;apply List.ext_getElem (ze);intro i h1 h2;have:=h i h1;rw [E,O h1] at this;simp only [List.getElem_map,List.getElem_range];exact this
theorem zq4 (x v:Nat):(((zj8 x v:Nat):Int)==1)=x.testBit v:=by
 have h:x.testBit v=decide (x / 2 ^ v % 2=1):=Nat.testBit_eq_decide_div_mod_eq;rw [h,Bool.eq_iff_iff,decide_eq_true_eq,beq_iff_eq];unfold zj8;omega
theorem zR5 (o:Nat) (p q:Bool):opR o p q=o.testBit (2 *p.toNat+q.toNat):=zq4 _ _
def Y5 (n:Nat) (x:Ex):List Bool:=(φ (2 ^ n)).map (evE n x)
theorem Xt (n:Nat) (x:Ex):(Y5 n x).length=2 ^ n:=by simp [Y5]
theorem yg2 (n op:Nat) (a b:Ex):ym6 (XM op) (Y5 n a) (Y5 n b)=Y5 n (.bin op a b):=by
 refine zY2 (by simp [ym6,Y5]) fun y hy=>?_
 unfold ym6;rw [YY _ (by rw [Xt];exact hy),zR5,zl7];unfold Y5;rw [YY _ hy,YY _ hy];rfl
theorem yk6 (n:Nat) (a:Ex):ym6 3 (Y5 n a) (Y5 n a)=Y5 n (.not a):=by
 refine zY2 (by simp [ym6,Y5]) fun y hy=>?_
 unfold ym6;rw [YY _ (by rw [Xt];exact hy),zR5,zY9];unfold Y5;rw [YY _ hy];rfl
def exP (each a b:Bool):Bool:=(a && b) || (!each && (a || b))
def exS (each:Bool) (t:List Bool) (v:Nat):List Bool:=(φ t.length).map fun x=>exP each ((zn1 t v false).getD x false) ((zn1 t v true).getD x false)
def exL (each:Bool) (vars:Nat) (t:List Bool):Nat→List Bool
 | 0=>t
 | k+1=>if vars.testBit k then exS each (exL each vars t k) k else exL each vars t k
theorem zA0 {each:Bool} {vars:Nat} {t:List Bool}:∀k,(exL each vars t k).length=t.length:=by
 intro k
 induction k with
 | zero=>rfl
 | succ k ih=>rw [exL];split<;>simp [exS,ih]
theorem yD1 {each:Bool} {vars n:Nat} {t:List Bool} (hl:t.length=2 ^ n):∀k,k≤n→∀y,y < 2 ^ n→(exL each vars t k).getD y false=ye7 each (vsL vars k) (fun x=>t.getD x false) y:=by
 intro k
 induction k with
 | zero=>intro _ y _;rfl
 | succ k ih=>
  intro hk y hy;rw [exL,vsL];split
  ·show _=yx5 each k (ye7 each (vsL vars k) _) y;have h0:=Xb (v:=k) false hy (K);have h1:=Xb (v:=k) true hy (K);have hlen:(exL each vars t k).length=2 ^ n:=by rw [zA0,hl]
   unfold exS zn1;rw [hlen,YY _ hy,YY _ hy,YY _ hy,ih (K) _ h0,ih (K) _ h1];unfold yx5 exP;cases each<;>cases ye7 _ (vsL vars k) (fun x=>t.getD x false) (Xp y k false)<;>cases ye7 _ (vsL vars k) (fun x=>t.getD x false) (Xp y k true)<;>rfl
  ·exact ih (K) y hy
theorem yF6 {each:Bool} {vars n:Nat} {t:List Bool} {l:List Nat} {g:Nat→Bool} (ht:t=(φ (2 ^ n)).map g) (hl:∀v,v < n→(vars.testBit v=true↔v∈l)):exL each vars t n=(φ (2 ^ n)).map (quB each n l g):=by
 have hlen:t.length=2 ^ n:=by rw [ht];simp
 refine zY2 (by rw [zA0,hlen]) fun y hy=>?_
 rw [yD1 hlen n (Qe _) y hy,Bool.eq_iff_iff,zD4,zX1 _ (fun v hv=>((zV5 _ _ _).1 hv).1) y hy];refine Qu.congr (fun v hv=>vF) fun z hz=>?_
 rw [ht,YY _ hz]
theorem yk3 {each:Bool} {vars n:Nat} {l:List Nat} {x:Ex} (hl:∀v,v < n→(vars.testBit v=true↔v∈l)):exL each vars (Y5 n x) n=Y5 n (.bnd each l x):=yF6 rfl hl
open Go.RowKit
def zu9 (new old:List Bool) (j:Nat):List Bool:=new.take j++old.drop j
theorem zx9 (new old:List Bool):zu9 new old 0=old:=by simp [zu9]
theorem zG1 {new old:List Bool} {j:Nat} (h:new.length=j) (h':old.length=j):zu9 new old j=new:=by
 unfold zu9;rw [Γ (K),ω (K),List.append_nil]
theorem zs9 {new old:List Bool} {j n:Nat} (h:new.length=n) (h':old.length=n) (hj:j≤n):(zu9 new old j).length=n:=by
 unfold zu9;rw [κ,ψ,η];omega
theorem zG5 {new old:List Bool} {j n:Nat} (h:new.length=n) (h':old.length=n) (hj:j < n) (b:Bool) (hb:new[j]? =U b):((zu9 new old j).map eb).set j (eb b)=(zu9 new old (j+1)).map eb:=by
 rw [←List.map_set]
 congr 1
 apply List.ext_getElem?;intro i;obtain ⟨hj2,hb⟩:=List.getElem?_eq_some_iff.1 hb;have hm:=zs9 h h' (show j≤n from K);rw [List.getElem?_set];by_cases q:j=i
 ·subst q;rw [if_pos rfl,if_pos (K)];unfold zu9;rw [Ξ (zW),Θ (K),O hj2,hb]
 ·rw [if_neg q];unfold zu9;by_cases q2:i < j
  ·rw [Ξ (zW),Ξ (zW),Θ q2,Θ (K)]
  ·rw [ρ (zW),ρ (zW),ψ,ψ,ι,ι]
   congr 1
   omega
theorem Yn {p:Prop} (h:p:=by
 rw [D,O (K)] at this
 exact ⟨_,this⟩):p:=h
theorem zL7 {w:Ψ} {va:χ} {t:List Bool} {n:Nat} {F:List Nat} (ht:Rv w va (t.map eb) F) (htl:t.length=2 ^ n) (hn:n≤5) (vars:Nat) (hv:vars < 65536) (each:Bool):
 I Y 40 #[va,R P vars,σ each] w fun e w'=>∃v',e=T v'∧NewV 4 w ((exL each vars t n).map eb) w' v':=by
 obtain ⟨i0,hi,hz0,hz1,hz2⟩:=info_parts Tryz.infoB;obtain ⟨A,ca,rfl,hca⟩:=ht.shape;have h32:2 ^ n≤32:=zF;have hp0:=μ n;have HT:=Q ht;have EL:M (∀k,(exL each vars t k).length=2 ^ n):=fun k=>by show _=_;rw [zA0,htl]
 have ES:M (∀k,vars.testBit k=true→exL each vars t (k+1)=exS each (exL each vars t k) k):=fun k h=>by show _=_;rw [exL,if_pos h]
 have EN:M (∀k,vars.testBit k=false→exL each vars t (k+1)=exL each vars t k):=fun k h=>by show _=_;rw [exL,h];rfl
 have E0:M (exL each vars t 0=t):=rfl;have VR:M (∀W,G [] w W→_):=fun W m=>zD8 (HT.out.mod m (ze)) htl (K)
 have WI:M (∀W v' (t':List Bool) F' k b,Rv W v' (t'.map eb) F'→t'.length=2 ^ n→k < n→_):=fun W v' t' F' k b h h' hk=>yd1 h h' (K) hk b
 have VAL:M (∀(k:Nat) (W:Ψ),k≤5→I Y 41 #[R P vars,R P k] W fun e w'=>e=T (R P ((vars.testBit k).toNat:Nat))∧w'=W):=fun k W hk=>by
  refine (zr6 vars k (K) (K) W).mono ?_;rintro e w' ⟨rfl,rfl⟩;have:=zq4 vars k;refine ⟨?_,rfl⟩;have h2:zj8 vars k=0∨zj8 vars k=1:=jg;rcases h2 with h2 | h2<;>rw [h2] at this ⊢<;>rw [←this]<;>rfl
 obtain ⟨N,hN⟩:∃N,2 ^ n=N:=⟨_,rfl⟩;simp only [J] at HT VR hca ⊢;rw [htl] at HT VR hca ⊢;rw [hN] at HT VR hca EL WI h32 hp0 htl ⊢;have HTL:=Q htl;generalize exL each vars t=X at *;have hN':(N:Int)≤32:=K;have hn':(n:Int)≤5:=K;clear ht hN htl;go_in;obtain ⟨a0,rfl,-⟩:=HT.out.src hp0;go_wp2_with (at_builtin;refine Xq _ rfl _ _ 47 rfl 4 i0 (.bool false) 1 1 Tryz.underlying47 hi hz0 hz1 hz2 rfl (zi) _ 0 [] [w.heap.size] rfl (Sl.lit w 4 1 0 #[] (zx) rfl) (U a0) N ca (t.map eb) rfl (by rw [J,HTL.out];omega) (HT.out.mod (S:=[]) (zg) (ze)).src (by intro u hu;obtain ⟨b,-,rfl⟩:=θ.1 hu;rfl) (zx) (K) ?_;intro v1 w1 F1 hs1 hm1 hf1);have hln:(t.map eb).length=N:=by rw [J,HTL.out]
 rw [Nat.zero_add] at hs1;obtain ⟨g,c,rfl,rfl,hgc⟩:=hs1.pos (K);have ha:(w.alloc (Δ #[] 4)).heap.size=w.heap.size+1:=ze;have hgw:w.heap.size≤g:=(hf1 g (ze)).elim (fun h=>zG) (fun h=>K);have M1:M (G [] w w1):=((Mod.refl [] w).alloc (Δ #[] 4)).trans hm1 (fun k hk h=>zG)
 have S1:M (Sl w1 4 1 (V (U ⟨g,0,f⟩) N c) N ((X 0).map eb) [g]):=by
  show Sl _ _ _ _ _ _ _;rw [E0.out];simpa using hs1
 clear hs1 hm1 hf1
 go_loopw [8,9,10,11] (fun i _ _ _ wr=>∃k:Nat,k≤n∧i=R P k∧M (Sl wr 4 1 (V (U ⟨g,0,f⟩) N c) N ((X k).map eb) [g])∧M (G [] w wr)) (fun i _ _ _ _=>n - (intOf i).toNat)
 case atStart=>exact ⟨0,K,rfl,S1,M1⟩
 case round=>
  obtain ⟨k,hk,rfl,HS,HM⟩:=hrel;have VRW:=Q (VR.out wr HM.out);by_cases hlt:k < n
  ·have hlt':(k:Int) < n:=K;have VA:=Q (fun W=>VAL.out k W (K));cases hb:vars.testBit k with
   | false=>
    rw [hb] at VA;have EQ:=EN.out k hb
    have NX:M (Sl wr 4 1 (V (U ⟨g,0,f⟩) N c) N ((X (k+1)).map eb) [g]):=by
     show Sl _ _ _ _ _ _ _;rw [EQ];exact HS.out
    clear EQ;go_wp2_with fail;refine VRW.out.mono ?_;rintro e wv ⟨rfl,rfl⟩;go_wp2_with fail;refine (VA.out _).mono ?_;rintro e wv ⟨rfl,rfl⟩;go_wp2_with fail;go_roundw
    case rel=>exact ⟨k+1,K,by go_num,NX,HM⟩
    case measure=>simp [intOf];omega
   | true=>
    rw [hb] at VA;have ES1:=Q (ES.out k hb);have L0:M (∀b,((zn1 (X k) k b).map eb).length=N):=fun b=>by show _=_;unfold zn1;simp [EL.out]
    obtain ⟨rows,hrows⟩:∃rows,(X k).map eb=rows:=⟨_,rfl⟩;have HR:=Q hrows;have hlen:rows.length=N:=by rw [←hrows,J,EL.out]
    have WX:M (∀(b:Bool) W,G [] wr W→I Y 78 #[V (U ⟨g,0,f⟩) N c,R P k,R P (b.toNat:Nat)] W fun e w'=>∃v',e=T v'∧NewV 4 W ((zn1 (X k) k b).map eb) w' v'):=fun b W m=>WI.out W _ (X k) [g] k b (Rv.of_sl (HS.out.mod m (ze)) (by rw [J,EL.out])) (EL.out k) hlt
    rw [hrows] at HS;clear hrows;have W0:=Q (WX.out false);have W1:=Q (WX.out true);obtain ⟨la,hla⟩:∃la,zn1 (X k) k false=la:=⟨_,rfl⟩;obtain ⟨lb,hlb⟩:∃lb,zn1 (X k) k true=lb:=⟨_,rfl⟩;have LA:M ((la.map eb).length=N):=by have:=L0.out false;rw [hla] at this;exact this
    have LB:M ((lb.map eb).length=N):=by have:=L0.out true;rw [hlb] at this;exact this
    have HX:M (∀j,j < N→(X (k+1))[j]? =U (exP each (la.getD j false) (lb.getD j false))):=fun j hj=>by
     show _=_;rw [ES1.out];unfold exS;rw [hla,hlb,EL.out,D,τ hj];rfl
    rw [hla] at W0;rw [hlb] at W1;clear hla hlb WX WI L0;go_wp2_with fail;refine VRW.out.mono ?_;rintro e wv ⟨rfl,rfl⟩;go_wp2_with fail;refine (VA.out _).mono ?_;rintro e wv ⟨rfl,rfl⟩;go_wp2_with fail;refine (W0.out _ (zg)).mono ?_;rintro e w2 ⟨v2,rfl,F2,s2,m2,f2⟩;rw [LA.out] at s2;obtain ⟨g2,c2,rfl,rfl,hc2⟩:=s2.pos (K);have hg2:wv.heap.size≤g2:=f2 g2 (ze);have S2:=Q s2;have M2:=Q m2;clear s2 m2 f2;go_wp2_with fail;refine (W1.out _ M2.out).mono ?_;rintro e w3 ⟨v3,rfl,F3,s3,m3,f3⟩;rw [LB.out] at s3;obtain ⟨g3,c3,rfl,rfl,hc3⟩:=s3.pos (K);have hg3:w2.heap.size≤g3:=f3 g3 (ze);have S3:=Q s3;have M3:=Q (M2.out.trans' m3);have S2':=Q (S2.out.mod m3 (ze));have hgl:=HS.out.lt g (ze);have h23:=M2.out.size
    have hS0:M (Sl w3 4 1 (V (U ⟨g,0,f⟩) N c) N ((zu9 (X (k+1)) (X k) 0).map eb) [g]):=by
     show Sl _ _ _ _ _ _ _;rw [zx9,HR.out];exact HS.out.mod M3.out (ze)
    clear s3 m3 f3 S2;go_wp2_with fail
    go_loopw [11] (fun i wx=>∃j:Nat,j≤N∧i=R P j∧M (Sl wx 4 1 (V (U ⟨g,0,f⟩) N c) N ((zu9 (X (k+1)) (X k) j).map eb) [g])∧M (G [g] w3 wx)) (fun i _=>N - (intOf i).toNat)
    case atStart=>exact ⟨0,K,rfl,hS0,Mod.refl _ _⟩
    case round=>
     obtain ⟨j,hj,rfl,HJ,HMJ⟩:=hrel;by_cases hjl:j < N
     ·have hjl':(j:Int) < N:=K;have ja:j < la.length:=by have:=LA.out;rw [J] at this;omega
      have jb:j < lb.length:=by have:=LB.out;rw [J] at this;omega
      have a1:=(S2'.out.at j (K)).1;have b1:=(S3.out.at j (K)).1;rw [D,O ja] at a1;rw [D,O jb] at b1;have a2:=(HMJ.out.cell (a:=⟨g2,j,f⟩) (S2'.out.lt g2 (ze)) (zj)).trans a1;have b2:=(HMJ.out.cell (a:=⟨g3,j,f⟩) (S3.out.lt g3 (ze)) (zj)).trans b1;obtain ⟨-,d1,-⟩:=HJ.out.at j (K);have hgr:=HJ.out.lt g (ze);have hg2l:=Z wr _ a2;have hg3l:=Z wr _ b2;have X1:=HX.out j hjl;rw [E,E,O ja,O jb,ζ,ζ] at X1
      have SN:M (∀v,v=eb (exP each la[j] lb[j])→Sl (wr.setCell ⟨g,j,f⟩ v) 4 1 (V (U ⟨g,0,f⟩) N c) N ((zu9 (X (k+1)) (X k) (j+1)).map eb) [g]):=fun v hv=>by
       have h1:=HJ.out.set j v;rw [hv,zG5 (n:=N) (EL.out _) (EL.out _) hjl _ X1] at h1;rw [hv];exact h1
      have MN:M (∀v,G [g] w3 (wr.setCell ⟨g,j,f⟩ v)):=fun v=>HMJ.out.setCell _ v (ze)
      have d0:∃y,wr.cell? ⟨g,j,f⟩=U y:=by
       have hlj:(zu9 (X (k+1)) (X k) j).length=N:=zs9 (EL.out _) (EL.out _) (K);have:=(HJ.out.at j (K)).1;exact Yn
      obtain ⟨y,d0⟩:=d0;clear a1 b1 X1;simp only [Option.map_some] at a2 b2;generalize la[j]=pa at *;generalize lb[j]=pb at *;simp only at hg2l hg3l;unfold eb at a2 b2;cases each<;>cases pa<;>cases pb
      all_goals
       go_wp2_with fail;go_roundw
       case rel=>exact ⟨j+1,K,by go_num,SN.out _ rfl,MN.out _⟩
       case measure=>simp [intOf];omega
     ·obtain rfl:j=N:=K
      have HF:M (Sl wr 4 1 (V (U ⟨g,0,f⟩) j c) j ((X (k+1)).map eb) [g]):=by
       have:=HJ.out;rw [zG1 (EL.out _) (EL.out _)] at this;exact this
      have MF:M (G [] w wr):=(HM.out.trans' M3.out).trans HMJ.out (fun i hi q=>zP);go_wp2_with fail;go_roundw
      case rel=>exact ⟨k+1,K,by go_num,HF,MF⟩
      case measure=>simp [intOf];omega
  ·obtain rfl:k=n:=K;go_wp2_with fail;refine VRW.out.mono ?_;rintro e wv ⟨rfl,rfl⟩;go_wp2_with fail;go_ret;exact ⟨_,rfl,[g],by rw [J,EL.out];exact HS.out,HM.out,by simpa using hgw⟩
open Go.RowKit
theorem TkR.sub {w:Ψ} {b off n cap:Nat} {L:List Tk} {F:List Nat} (h:TkR w (V (U ⟨b,off,f⟩) n cap) L F) (i j:Nat) (hij:i≤j) (hj:j≤L.length) (A':Option Addr) (cap':Nat) (hA:i < j→A'=U ⟨b,off+i *3,f⟩) (hc:j - i≤cap'):
 TkR w (V A' (j - i) cap') ((L.drop i).take (j - i)) F:=by
 obtain ⟨A0,c0,e,hc0,hr⟩:=h;simp only [Value.slice.injEq] at e;obtain ⟨rfl,-,rfl⟩:=e;have hl:((L.drop i).take (j - i)).length=j - i:=by rw [ψ,η];omega
 refine ⟨A',cap',by rw [hl],by rw [hl];exact hc,fun h0=>?_⟩;rw [hl] at h0;obtain ⟨b',off',ea,hb,hi⟩:=hr (K);simp only [Option.some.injEq,Addr.mk.injEq,and_true] at ea;obtain ⟨rfl,rfl⟩:=ea;refine ⟨b,off+i *3,hA (K),hb,fun k hk=>?_⟩;rw [hl] at hk;have:=hi (i+k) (K);simp only [List.getElem_take,List.getElem_drop];rw [show off+i *3+k *3=off+(i+k) *3 from K];exact this
theorem Fl.ne:∀{r:Nat} {ts:List Tk} {x:Ex},Fl r ts x→ts≠[]
 | _,_,_,.unit u=>by cases u<;>simp
 | _,_,_,.up _ _ h=>h.ne
 | _,_,_,.left .. =>ze
 | _,_,_,.right .. =>ze
theorem zq3 (b off n cap i:Nat) (l:Int) (hl:l=i) (hi:i≤n) (hc:i < cap) (w:Ψ):(π 25 (V (U ⟨b,off,f⟩) n cap) (U (R P l)) f f).run Y w=.ok (V (U ⟨b,off+i *3,f⟩) (n - i) (cap - i)) w:=by
 subst hl;have hne:¬cap=i:=K;rw [run_slice_l w _ _ _ _ (by kernel_rfl) _ _ (K) (K)];simp [go_sem,Qb,hne,show Tryz.prog.elem 25=99 from by kernel_rfl]
theorem zr7 (k:Nat):XM k≤15:=by
 unfold XM
 repeat' split
 all_goals omega
def yK2 (n m:Nat):Prop:=∀(w:Ψ) (v:χ) (ts:List Tk) (F:List Nat) (r:Nat) (x:Ex),ts.length≤m→Fl r ts x→TkR w v ts F→(∀t∈ts,t.n < 16)→
 I Y 13 #[v,R P n] w fun e w'=>∃v',e=T v'∧NewV 4 w ((Y5 n x).map eb) w' v'
theorem zX6 {n m:Nat} (hn:n≤5) (hm:m≤190) (ih:yK2 n m) {w:Ψ} {v:χ} {ts1 ts2:List Tk} {t:Tk} {F:List Nat} {r1 r2:Nat} {a b:Ex} (hl:(ts1++t::ts2).length≤m+1) (ha:Fl r1 ts1 a) (hb:Fl r2 ts2 b)
 (hs:XZ (ts1++t::ts2) 0=ts1.length) (hk:0 < Xg t.k) (h:TkR w v (ts1++t::ts2) F) (hN:∀u∈ts1++t::ts2,u.n < 16):
 I Y 13 #[v,R P n] w fun e w'=>∃v',e=T v'∧NewV 4 w ((Y5 n (.bin t.k a b)).map eb) w' v':=by
 obtain ⟨A,cap,rfl,hcap⟩:=h.shape;have hlen:(ts1++t::ts2).length=ts1.length+1+ts2.length:=zj;obtain ⟨b0,off,rfl,hbF,c0,-,-⟩:=h.at ts1.length (xj);rw [List.getElem_append_right (Qe _)] at c0;simp only [Nat.sub_self,H] at c0;have hbl:=Z w _ c0;simp only at hbl;have SP:=Q (zb1 h (K));rw [hs] at SP;have H1:=h.sub 0 ts1.length (K) (xj) (U ⟨b0,off,f⟩) cap (fun _=>ze) (xK);have H2:=fun A' (hA:ts1.length+1 < ts1.length+1+ts2.length→A'=U ⟨b0,off+(ts1.length+1) *3,f⟩)=>h.sub (ts1.length+1) (ts1.length+1+ts2.length) (K) (xj) A' (cap - (ts1.length+1)) hA (xK)
 have e1:((ts1++t::ts2).drop 0).take (ts1.length - 0)=ts1:=ze
 have e2:((ts1++t::ts2).drop (ts1.length+1)).take (ts1.length+1+ts2.length - (ts1.length+1))=ts2:=by
  rw [ε,ω (K),γ,show ts1.length+1 - ts1.length=1 from K,List.drop_succ_cons,Qa];exact Γ (K)
 rw [e1] at H1;rw [e2] at H2;rw [hlen] at hl hcap SP ⊢;clear e1 e2;have N1:∀u∈ts1,u.n < 16:=fun u hu=>hN u (zY)
 have N2:∀u∈ts2,u.n < 16:=fun u hu=>hN u (zY)
 have hq:0 < ts2.length:=C.2 hb.ne;have hp:0 < ts1.length:=C.2 ha.ne;obtain ⟨p,hp'⟩:∃p,ts1.length=p:=⟨_,rfl⟩;obtain ⟨q,hq'⟩:∃q,ts2.length=q:=⟨_,rfl⟩
 have T1:M (∀W,G [] w W→I Y 13 #[V (U ⟨b0,off,f⟩) p cap,R P n] W fun e w'=>∃v',e=T v'∧M (NewV 4 w ((Y5 n a).map eb) w' v')∧G [] w w'∧G [] W w'):=fun W md=>by
  have hh:=H1.mod md (ze);rw [Qc,hp'] at hh
  exact (ih W _ ts1 F r1 a (K) ha hh N1).mono (by
   rintro e w' ⟨v',rfl,nv⟩
   exact ⟨v',rfl,nv.after md,md.trans' nv.mod,nv.mod⟩)
 have T2:M (∀W (c':Nat),c'=cap - (p+1)→G [] w W→I Y 13 #[V (U ⟨b0,off+(p+1) *3,f⟩) q c',R P n] W fun e w'=>∃v',e=T v'∧M (NewV 4 w ((Y5 n b).map eb) w' v')∧G [] w w'∧G [] W w'):=fun W c' hc' md=>by
  subst hc';have hh:=(H2 (U ⟨b0,off+(ts1.length+1) *3,f⟩) (fun _=>rfl)).mod md (ze);rw [hp',hq',show p+1+q - (p+1)=q from K] at hh
  exact (ih W _ ts2 F r2 b (K) hb hh N2).mono (by
   rintro e w' ⟨v',rfl,nv⟩
   exact ⟨v',rfl,nv.after md,md.trans' nv.mod,nv.mod⟩)
 rw [hp'] at c0 SP hl hcap hp;rw [hq'] at hl hcap hq SP;rw [hp',hq'];have h32:2 ^ n≤32:=zF
 have OP:M (∀(W:Ψ) (va vb:χ),G [] w W→M (NewV 4 w ((Y5 n a).map eb) W va)→M (NewV 4 w ((Y5 n b).map eb) W vb)→I Y 38 #[R P (XM t.k:Nat),va,vb] W fun e w'=>∃v',e=T v'∧NewV 4 w ((Y5 n (.bin t.k a b)).map eb) w' v'):=fun W va vb md na nb=>by
  obtain ⟨Fa,ra,-⟩:=na.out.rv;obtain ⟨Fb,rb,-⟩:=nb.out.rv;refine (yp4 ra rb (qM) (by rw [Xt,Xt]) (XM t.k) (by have:=zr7 t.k;omega)).mono ?_;rintro e w' ⟨v',rfl,nv⟩;rw [yg2] at nv;exact ⟨v',rfl,nv.after md⟩
 have hcp:¬cap=p+1:=K;have hpc:p+1+q≤cap:=hcap;have hpi:(0:Int)≤p:=K;have hpm:(p:Int)≤200:=K;have hci:(p:Int)+1+q≤cap:=K;have hqi:(0:Int) < q:=K;generalize (Y5 n a).map eb=xa at *;generalize (Y5 n b).map eb=xb at *;generalize (Y5 n (.bin t.k a b)).map eb=xc at *;obtain ⟨tk,tn,ta⟩:=t;simp only at *;clear ih H1 H2 N1 N2 h hN ha hb hs hp' hq' hl h32;have hk5:=YR tk hk;clear hk
 have OP2:M (∀(W:Ψ) (va vb:χ) (o:Int),o=(XM tk:Nat)→G [] w W→M (NewV 4 w xa W va)→M (NewV 4 w xb W vb)→I Y 38 #[R P o,va,vb] W fun e w'=>∃v',e=T v'∧NewV 4 w xc w' v'∧G [] w w'):=fun W va vb o ho md na nb=>by
  subst ho;exact (OP.out W va vb md na nb).mono (by rintro e w' ⟨v',rfl,nv⟩;exact ⟨v',rfl,nv,nv.mod⟩)
 clear OP;have hs1:(p:Int)≤cap:=K;have hs2:(0:Int)≤(p:Int)+1:=K;have hs3:(p:Int)+1≤((p+1+q:Nat):Int):=K;have hs4:IntKind.i64.wrap ((p:Int)+1)=(p:Int)+1:=IntWalk.i64_in _ (K)
 have ST:∀W,(π 25 (V (U ⟨b0,off,f⟩) (p+1+q) cap) (U (R P ((p:Int)+1))) f f).run Y W=.ok (V (U ⟨b0,off+(p+1) *3,f⟩) q (cap - (p+1))) W:=fun W=>by
  rw [zq3 b0 off (p+1+q) cap (p+1) _ (K) (K) (K) W,show p+1+q - (p+1)=q from K]
 rcases hk5 with rfl | rfl | rfl | rfl | rfl
 all_goals
  go_in;go_wp2_with fail;refine SP.out.mono ?_;rintro e w1 ⟨rfl,rfl⟩;go_wp2_with fail
  go_region_held3 (fun w'=>G [] w1 w') (first | exact (Mod.refl _ _).drew | exact Mod.refl _ _ | assumption | exact Mod.drew (zm)) (first
   | (go_at_call 13;with_reducible refine (T1.out _ (zy)).mono ?_;rintro e' w5 ⟨va,rfl,na,m5,n5⟩;try (have nb:=Q (nb.out.later n5)))
   | (go_at_call 13;with_reducible refine (T2.out _ _ (K) (zy)).mono ?_;rintro e' w6 ⟨vb,rfl,nb,m6,n6⟩;try (have na:=Q (na.out.later n6)))
   | (go_at_call 38;refine (OP2.out _ _ _ _ (zE) (zy) (zm) (zm)).mono ?_;rintro e' w7 ⟨vc,rfl,nc,m7⟩))
  all_goals
   go_wp2_with fail;go_ret;exact ⟨vc,rfl,nc⟩
theorem TkR.tail {w:Ψ} {b off cap:Nat} {t:Tk} {ts:List Tk} {F:List Nat} (h:TkR w (V (U ⟨b,off,f⟩) (ts.length+1) cap) (t::ts) F) (hc:ts.length+1≤cap):TkR w (V (U ⟨b,off+3,f⟩) ts.length (cap - 1)) ts F:=by
 have:=h.sub 1 (ts.length+1) (K) (ze) (U ⟨b,off+3,f⟩) (cap - 1) (fun _=>ze) (K);simpa using this
theorem yz2 {n m:Nat} (hn:n≤5) (hm:m≤190) (ih:yK2 n m) {w:Ψ} {v:χ} {ts:List Tk} {t:Tk} {F:List Nat} {a:Ex} (hl:(t::ts).length≤m+1) (ha:Un ts a) (hk:t.k=33)
 (h:TkR w v (t::ts) F) (hN:∀u∈t::ts,u.n < 16):
 I Y 13 #[v,R P n] w fun e w'=>∃v',e=T v'∧NewV 4 w ((Y5 n (.not a)).map eb) w' v':=by
 obtain ⟨A,cap,rfl,hcap⟩:=h.shape;have hlen:(t::ts).length=ts.length+1:=rfl;obtain ⟨b0,off,rfl,hbF,c0,-,-⟩:=h.at 0 (ze);simp only [H,ξ,ν] at c0;have hbl:=Z w _ c0;simp only at hbl;have SP:=Q (zb1 h (K));rw [show XZ (t::ts) 0= -1 from za3 (.not t hk ha)] at SP;rw [hlen] at hl hcap SP h ⊢;have H1:=h.tail hcap;have N1:∀u∈ts,u.n < 16:=fun u hu=>hN u (zY)
 obtain ⟨q,hq'⟩:∃q,ts.length=q:=⟨_,rfl⟩;rw [hq'] at H1 SP hcap hl ⊢
 have T1:M (∀(c':Nat),c'=cap - 1→I Y 13 #[V (U ⟨b0,off+3,f⟩) q c',R P n] w fun e w'=>∃v',e=T v'∧NewV 4 w ((Y5 n a).map eb) w' v'):=fun c' hc'=>by
  subst hc';exact ih w _ ts F 6 a (K) (.unit ha) H1 N1
 have h32:2 ^ n≤32:=zF
 have OP:M (∀(W:Ψ) (va:χ),M (NewV 4 w ((Y5 n a).map eb) W va)→I Y 38 #[R P 3,va,va] W fun e w'=>∃v',e=T v'∧NewV 4 w ((Y5 n (.not a)).map eb) w' v'):=fun W va na=>by
  obtain ⟨Fa,ra,-⟩:=na.out.rv;refine (yp4 ra ra (qM) rfl 3 (K)).mono ?_;rintro e w' ⟨v',rfl,nv⟩;rw [yk6] at nv;exact ⟨v',rfl,nv.after na.out.mod⟩
 have ST:∀W,(π 25 (V (U ⟨b0,off,f⟩) (q+1) cap) (U (R P 1)) f f).run Y W=.ok (V (U ⟨b0,off+3,f⟩) q (cap - 1)) W:=fun W=>by
  have hq0:=C.2 (Fl.unit ha).ne;rw [zq3 b0 off (q+1) cap 1 1 (K) (K) (K) W];simp
 have hqi:(0:Int) < (q:Int)+1:=K;have hqi2:(0:Int) < ((q+1:Nat):Int):=K;generalize (Y5 n a).map eb=xa at *;generalize (Y5 n (.not a)).map eb=xc at *;obtain ⟨tk,tn,ta⟩:=t;simp only at hk c0;subst hk;clear ih H1 N1 h hN ha hq' hl h32 hlen;go_in;go_wp2_with fail;refine SP.out.mono ?_;rintro e w1 ⟨rfl,rfl⟩;go_wp2_with fail;refine (T1.out _ rfl).mono ?_;rintro e w2 ⟨va,rfl,na⟩;have NA:=Q na;clear na;go_wp2_with fail;refine (OP.out _ _ NA).mono ?_;rintro e w3 ⟨vc,rfl,nc⟩;go_wp2_with fail;go_ret;exact ⟨vc,rfl,nc⟩
theorem ys9 {n m:Nat} (hn:n≤5) (hm:m≤190) (ih:yK2 n m) {w:Ψ} {v:χ} {ts:List Tk} {t t':Tk} {F:List Nat} {a:Ex} (hl:(t::(ts++[t'])).length≤m+1) (ha:Fl 1 ts a) (hk:t.k=40) (hk':t'.k=41)
 (h:TkR w v (t::(ts++[t'])) F) (hN:∀u∈t::(ts++[t']),u.n < 16):
 I Y 13 #[v,R P n] w fun e w'=>∃v',e=T v'∧NewV 4 w ((Y5 n a).map eb) w' v':=by
 obtain ⟨A,cap,rfl,hcap⟩:=h.shape;have hlen:(t::(ts++[t'])).length=ts.length+1+1:=ze;obtain ⟨b0,off,rfl,hbF,c0,-,-⟩:=h.at 0 (ze);simp only [H,ξ,ν] at c0;have hbl:=Z w _ c0;simp only at hbl;have SP:=Q (zb1 h (K));rw [show XZ (t::(ts++[t'])) 0= -1 from za3 (.par t t' hk hk' ha)] at SP;have H1:=h.sub 1 (ts.length+1) (K) (xj) (U ⟨b0,off+3,f⟩) (cap - 1) (fun _=>ze) (xK);have e1:((t::(ts++[t'])).drop 1).take (ts.length+1 - 1)=ts:=ze;rw [e1] at H1;rw [hlen] at hl hcap SP ⊢;have N1:∀u∈ts,u.n < 16:=fun u hu=>hN u (zY)
 have hq0:=C.2 ha.ne;obtain ⟨q,hq'⟩:∃q,ts.length=q:=⟨_,rfl⟩;rw [hq'] at H1 SP hcap hl hq0 ⊢
 have T1:M (∀(c':Nat),c'=cap - 1→I Y 13 #[V (U ⟨b0,off+3,f⟩) q c',R P n] w fun e w'=>∃v',e=T v'∧NewV 4 w ((Y5 n a).map eb) w' v'):=fun c' hc'=>by
  subst hc';exact ih w _ ts F 1 a (K) ha H1 N1
 have ST:∀W,(π 25 (V (U ⟨b0,off,f⟩) (q+1+1) cap) (U (R P 1)) (U (R P ((q:Int)+1))) f).run Y W=.ok (V (U ⟨b0,off+3,f⟩) q (cap - 1)) W:=fun W=>by
  have hne:¬cap=1:=K;rw [run_slice_lh W _ _ _ _ (by kernel_rfl) _ _ _ _ (K) (K) (K)];have e2:((q:Int)+1).toNat=q+1:=K;simp [go_sem,Qb,hne,e2,show Tryz.prog.elem 25=99 from by kernel_rfl]
 have hqi2:(0:Int) < ((q+1+1:Nat):Int):=K;have hqm:(q:Int)≤200:=K;generalize (Y5 n a).map eb=xa at *;obtain ⟨tk,tn,ta⟩:=t;simp only at hk c0;subst hk;clear ih H1 N1 h hN ha hq' hl hlen e1;go_in;go_wp2_with fail;refine SP.out.mono ?_;rintro e w1 ⟨rfl,rfl⟩;go_wp2_with fail;refine (T1.out _ rfl).mono ?_;rintro e w2 ⟨va,rfl,na⟩;have NA:=Q na;clear na;go_wp2_with fail;go_ret;exact ⟨va,rfl,NA.out⟩
open Go.RowKit
theorem yj5 {t v:Tk} {vs:List Tk} (ht:t.k≠118) (hv:v.k=118) (hvs:∀u∈vs,u.k=118) (x:Nat):(zd1 (t::v::vs)).testBit x=true↔x∈v.n::vs.map Tk.n:=by
 unfold zd1;rw [zl8,Nat.zero_testBit,Bool.false_or,List.any_eq_true];constructor
 ·rintro ⟨u,hu,h⟩;simp only [Bool.and_eq_true,beq_iff_eq] at h;rcases Ω.1 hu with rfl | hu
  ·exact absurd h.1 ht
  ·rw [←h.2];rcases Ω.1 hu with rfl | hu
   ·simp
   ·exact List.mem_cons_of_mem _ (θ.2 ⟨u,hu,rfl⟩)
 ·intro h;rcases Ω.1 h with rfl | h
  ·exact ⟨v,ze,by simp [hv]⟩
  ·obtain ⟨u,hu,rfl⟩:=θ.1 h;exact ⟨u,zY,by simp [hvs u hu]⟩
theorem yq5 {n m:Nat} (hn:n≤5) (hm:m≤190) (ih:yK2 n m) {w:Ψ} {val:χ} {vs ts:List Tk} {t v d:Tk} {F:List Nat} {a:Ex} (hl:(t::v::(vs++d::ts)).length≤m+1) (ha:Un ts a) (hk:t.k=115∨t.k=101) (hv:v.k=118) (hvs:∀u∈vs,u.k=118) (hd:d.k=46)
 (h:TkR w val (t::v::(vs++d::ts)) F) (hN:∀u∈t::v::(vs++d::ts),u.n < 16):
 I Y 13 #[val,R P n] w fun e w'=>∃v',e=T v'∧NewV 4 w ((Y5 n (.bnd (decide (t.k=101)) (v.n::vs.map Tk.n) a)).map eb) w' v':=by
 obtain ⟨A,cap,rfl,hcap⟩:=h.shape;obtain ⟨p,hp⟩:∃p,vs.length=p:=⟨_,rfl⟩;obtain ⟨q,hq⟩:∃q,ts.length=q:=⟨_,rfl⟩;have hlen:(t::v::(vs++d::ts)).length=p+2+1+q:=by simp [hp,hq];omega
 obtain ⟨b0,off,rfl,hbF,c0,-,-⟩:=h.at 0 (ze);simp only [H,ξ,ν] at c0;have hbl:=Z w _ c0;simp only at hbl;have SP:=Q (zb1 h (K));rw [show XZ (t::v::(vs++d::ts)) 0= -1 from za3 (.bnd t v vs d hk hv hvs hd ha)] at SP;have SO:=Q (ym5 h (K))
 have eS:XY (t::v::(vs++d::ts)) 0=p+2:=by
  have:=yd8 (A:=t::v::vs) (B:=ts) (d:=d) (fun u hu=>by
   rcases Ω.1 hu with rfl | hu
   ·omega
   ·rcases Ω.1 hu with rfl | hu
    ·omega
    ·have:=hvs u hu;omega) hd
  simp only [List.cons_append,δ,hp] at this;exact this
 rw [eS] at SO;have H0:=h.sub 0 (p+2) (K) (xj) (U ⟨b0,off,f⟩) cap (fun _=>ze) (xK);have H1:=h.sub (p+2+1) (p+2+1+q) (K) (xj) (U ⟨b0,off+(p+2+1) *3,f⟩) (cap - (p+2+1)) (fun _=>rfl) (xK);have e0:((t::v::(vs++d::ts)).drop 0).take (p+2 - 0)=t::v::vs:=by rw [←hp];simp
 have e1:((t::v::(vs++d::ts)).drop (p+2+1)).take (p+2+1+q - (p+2+1))=ts:=by
  have:t::v::(vs++d::ts)=(t::v::(vs++[d]))++ts:=ze;rw [this,ε,ω (zj),γ];simp only [δ,κ,List.length_nil,hp];rw [show p+2+1 - (p+(0+1)+1+1)=0 from K,Qa];exact Γ (K)
 rw [e0,Qc] at H0;rw [e1,show p+2+1+q - (p+2+1)=q from K] at H1;rw [hlen] at hl hcap SP SO ⊢;have N1:∀u∈ts,u.n < 16:=fun u hu=>hN u (zY)
 have N0:∀u∈t::v::vs,u.n < 16:=fun u hu=>hN u (by
  rcases Ω.1 hu with rfl | hu
  ·simp
  ·rcases Ω.1 hu with rfl | hu
   ·simp
   ·simp [hu])
 have hq0:0 < q:=by rw [←hq];exact C.2 (Fl.unit ha).ne
 obtain ⟨vb,hvb⟩:∃x,zd1 (t::v::vs)=x:=⟨_,rfl⟩;have hv16:vb < 65536:=by rw [←hvb];exact zF7 _ 0 N0 (K)
 have HB:∀x,vb.testBit x=true↔x∈v.n::vs.map Tk.n:=fun x=>by rw [←hvb];exact yj5 (K) hv hvs x
 have T1:M (∀W (c':Nat),c'=cap - (p+2+1)→G [] w W→I Y 13 #[V (U ⟨b0,off+(p+2+1) *3,f⟩) q c',R P n] W fun e w'=>∃v',e=T v'∧M (NewV 4 w ((Y5 n a).map eb) w' v')∧G [] w w'∧G [] W w'):=fun W c' hc' md=>by
  subst hc'
  exact (ih W _ ts F 6 a (K) (.unit ha) (H1.mod md (ze)) N1).mono (by
   rintro e w' ⟨v',rfl,nv⟩
   exact ⟨v',rfl,nv.after md,md.trans' nv.mod,nv.mod⟩)
 have BI:M (∀W,G [] w W→I Y 23 #[V (U ⟨b0,off,f⟩) (p+2) cap] W fun e w'=>e=T (R P (vb:Nat))∧w'=W):=fun W md=>by
  have:=zG3 (H0.mod md (ze)) (by simp [hp];omega) N0;rw [hvb] at this;exact this
 have EX:M (∀(W:Ψ) (va:χ) (each:Bool),each=decide (t.k=101)→G [] w W→M (NewV 4 w ((Y5 n a).map eb) W va)→I Y 40 #[va,R P (vb:Nat),σ each] W fun e w'=>∃v',e=T v'∧NewV 4 w ((Y5 n (.bnd (decide (t.k=101)) (v.n::vs.map Tk.n) a)).map eb) w' v'∧G [] w w'):=fun W va each he md na=>by
  subst he;obtain ⟨Fa,ra,-⟩:=na.out.rv;refine (zL7 ra (Xt _ _) hn vb hv16 _).mono ?_;rintro e w' ⟨v',rfl,nv⟩;rw [yk3 (l:=v.n::vs.map Tk.n) (fun x _=>HB x)] at nv;exact ⟨v',rfl,nv.after md,md.trans' nv.mod⟩
 obtain ⟨s,hs⟩:∃s,p+2=s:=⟨_,rfl⟩;have hs9:s≤200:=K;rw [hs] at T1 BI SP SO hcap ⊢;clear hs H0 H1
 have ST:∀W,(π 25 (V (U ⟨b0,off,f⟩) (s+1+q) cap) (U (R P ((s:Int)+1))) f f).run Y W=.ok (V (U ⟨b0,off+(s+1) *3,f⟩) q (cap - (s+1))) W:=fun W=>by
  rw [zq3 b0 off (s+1+q) cap (s+1) _ (K) (K) (K) W,show s+1+q - (s+1)=q from K]
 have hqi2:(0:Int) < ((s+1+q:Nat):Int):=K;have hqi3:(0:Int) < (s:Int)+1+q:=K;have hs1:(s:Int)≤cap:=K;have hs2:(0:Int)≤s:=K;have hs4:IntKind.i64.wrap ((s:Int)+1)=(s:Int)+1:=IntWalk.i64_in _ (K);have hpm:(s:Int)≤200:=K;generalize (Y5 n a).map eb=xa at *;generalize (Y5 n (.bnd (decide (t.k=101)) (v.n::vs.map Tk.n) a)).map eb=xc at *;obtain ⟨tk,tn,ta⟩:=t;simp only at hk c0 EX;clear ih N1 N0 h hN ha hq hp hl hlen e0 e1 HB hvb hv16 eS;rcases hk with rfl | rfl
 ·have c0:w.cell? ⟨b0,off,f⟩=U (R .u8 115):=c0;have HC0:=Q c0;have EX2:M (∀(W:Ψ) (va:χ),G [] w W→M (NewV 4 w xa W va)→I Y 40 #[va,R P (vb:Nat),σ false] W fun e w'=>∃v',e=T v'∧NewV 4 w xc w' v'∧G [] w w'):=fun W va md na=>EX.out W va false rfl md na
  clear EX;go_in;go_wp2_with fail;refine SP.out.mono ?_;rintro e w1 ⟨rfl,rfl⟩;go_wp2_with fail;refine SO.out.mono ?_;rintro e w1 ⟨rfl,rfl⟩;go_wp2_with fail
  go_region_held3 (fun w'=>G [] w1 w'∧w'.cell? ⟨b0,off,f⟩=U (R .u8 115)) (first | (refine ⟨yx,?_⟩;go_keep) | go_keep) (first
   | (go_at_call 13;with_reducible refine (T1.out _ _ (K) (zy)).mono ?_;rintro e' w5 ⟨va,rfl,na,m5,n5⟩;have c0:=(m5.cell (a:=⟨b0,off,f⟩) hbl (ze)).trans HC0.out)
   | (go_at_call 23;with_reducible refine (BI.out _ (zy)).mono ?_;rintro e' w6 ⟨rfl,rfl⟩)
   | (go_at_call 40;with_reducible refine (EX2.out _ _ (zm) (zm)).mono ?_;rintro e' w7 ⟨vc,rfl,nc,m7⟩;have c0:=(m7.cell (a:=⟨b0,off,f⟩) hbl (ze)).trans HC0.out))
  all_goals
   go_wp2_with fail;go_ret;exact ⟨vc,rfl,nc⟩
 ·have c0:w.cell? ⟨b0,off,f⟩=U (R .u8 101):=c0;have HC0:=Q c0;have EX2:M (∀(W:Ψ) (va:χ),G [] w W→M (NewV 4 w xa W va)→I Y 40 #[va,R P (vb:Nat),σ true] W fun e w'=>∃v',e=T v'∧NewV 4 w xc w' v'∧G [] w w'):=fun W va md na=>EX.out W va true rfl md na
  clear EX;go_in;go_wp2_with fail;refine SP.out.mono ?_;rintro e w1 ⟨rfl,rfl⟩;go_wp2_with fail;refine SO.out.mono ?_;rintro e w1 ⟨rfl,rfl⟩;go_wp2_with fail
  go_region_held3 (fun w'=>G [] w1 w'∧w'.cell? ⟨b0,off,f⟩=U (R .u8 101)) (first | (refine ⟨yx,?_⟩;go_keep) | go_keep) (first
   | (go_at_call 13;with_reducible refine (T1.out _ _ (K) (zy)).mono ?_;rintro e' w5 ⟨va,rfl,na,m5,n5⟩;have c0:=(m5.cell (a:=⟨b0,off,f⟩) hbl (ze)).trans HC0.out)
   | (go_at_call 23;with_reducible refine (BI.out _ (zy)).mono ?_;rintro e' w6 ⟨rfl,rfl⟩)
   | (go_at_call 40;with_reducible refine (EX2.out _ _ (zm) (zm)).mono ?_;rintro e' w7 ⟨vc,rfl,nc,m7⟩;have c0:=(m7.cell (a:=⟨b0,off,f⟩) hbl (ze)).trans HC0.out))
  all_goals
   go_wp2_with fail;go_ret;exact ⟨vc,rfl,nc⟩
open Go.RowKit
theorem zV3 {x v:Nat} (hx:x≤1099511627776) (hv:v≤40) (W:Ψ):I Y 41 #[R P x,R P v] W fun e w'=>e=T (R P ((x.testBit v).toNat:Nat))∧w'=W:=by
 refine (zr6 x v hx hv W).mono ?_;rintro e w' ⟨rfl,rfl⟩;have h:=zq4 x v;refine ⟨?_,rfl⟩;have h2:zj8 x v=0∨zj8 x v=1:=jg;rcases h2 with h2 | h2<;>rw [h2] at h ⊢<;>rw [←h]<;>rfl
theorem zG8 {n:Nat} (hn:n≤5) {w:Ψ} {val:χ} {t:Tk} {F:List Nat} {X:Ex} (hX:Un [t] X) (hk:(t.k=48∨t.k=49)∧X=.con (decide (t.k=49))∨t.k=118∧X=.var t.n)
 (h:TkR w val [t] F) (hN:t.n < 16):
 I Y 13 #[val,R P n] w fun e w'=>∃v',e=T v'∧NewV 4 w ((Y5 n X).map eb) w' v':=by
 obtain ⟨A,cap,rfl,hcap⟩:=h.shape;obtain ⟨b0,off,rfl,hbF,c0,c1,-⟩:=h.at 0 (ze);simp only [H,ξ,ν] at c0 c1;have hbl:=Z w _ c0;simp only at hbl;have SP:=Q (zb1 h (ze));rw [show XZ [t] 0= -1 from za3 hX] at SP;simp only [List.length_singleton] at SP hcap ⊢;have SZ:=Q (zx6 n (K))
 have TL:M (∀j,j < 2 ^ n→(Y5 n X)[j]? =U (evE n X j)):=fun j hj=>by
  show _=_;unfold Y5;rw [D,τ hj];rfl
 have TN:=Q (Xt n X);have VB:M (∀j W,j < 2 ^ n→I Y 41 #[R P (j:Nat),R P (t.n:Nat)] W fun e w'=>e=T (R P ((j.testBit t.n).toNat:Nat))∧w'=W):=fun j W hj=>zV3 (zF) (K) W
 have EV:M (∀j,evE n X j=if t.k=118 then j.testBit t.n else decide (t.k=49)):=fun j=>by
  show _=_;rcases hk with ⟨h1,rfl⟩ | ⟨h1,rfl⟩
  ·rw [if_neg (K)];rfl
  ·rw [if_pos h1];rfl
 have h32:2 ^ n≤32:=zF;have hp0:=μ n;obtain ⟨N,hNN⟩:∃N,2 ^ n=N:=⟨_,rfl⟩;rw [hNN] at SZ TL TN VB h32 hp0;generalize Y5 n X=TT at *;generalize evE n X=ev at *;have hk3:t.k=48∨t.k=49∨t.k=118:=by rcases hk with ⟨h1 | h1,-⟩ | ⟨h1,-⟩<;>omega
 obtain ⟨tk,tn,ta⟩:=t;simp only at c0 c1 hN VB EV hk3;clear hk hX h hNN hcap;have HC0:=Q c0;have HC1:=Q c1;have hN':(N:Int)≤32:=K;have hN0:(0:Int)≤N:=K;have hn':(n:Int)≤5:=K;obtain ⟨g,hg⟩:∃g,w.heap.size=g:=⟨_,rfl⟩;have S0:=Q (Sl.made1 w 4 N (σ false) (zx) g hg.symm);have M0:M (G [] w (w.alloc (Δ (madeCells #[σ false] N) 4))):=zg;have hF0:(Φ N false).map eb=Φ N (σ false):=by simp [eb]
 have hgl:g < (w.alloc (Δ (madeCells #[σ false] N) 4)).heap.size:=xk;have htn:(tn:Int)≤16:=K;have hmk:=fun w=>ya1 w N (K)
 rcases hk3 with rfl | rfl | rfl
 all_goals
  go_in;go_wp2_with fail;refine SP.out.mono ?_;rintro e w1 ⟨rfl,rfl⟩;go_wp2_with fail;refine (SZ.out _).mono ?_;rintro e w1 ⟨rfl,rfl⟩;go_wp2_with fail;generalize w1.alloc (Δ (madeCells #[σ false] N) 4)=w0 at *
  go_loopw [10] (fun i wr=>∃k:Nat,k≤N∧i=R P k∧M (Sl wr 4 1 (V (U ⟨g,0,f⟩) N N) N ((zu9 TT (Φ N false) k).map eb) [g])∧M (G [g] w0 wr)) (fun i _=>N - (intOf i).toNat)
  case atStart=>exact ⟨0,K,rfl,by show Sl _ _ _ _ _ _ _;rw [zx9,hF0];exact S0.out,Mod.refl _ _⟩
  case round=>
   obtain ⟨k,hk,rfl,HS,HM⟩:=hrel;by_cases hlt:k < N
   ·have hlt':(k:Int) < N:=K;have hbg:¬b0=g:=K;have hm0:=M0.out.size;have c0:=(HM.out.cell (a:=⟨b0,off,f⟩) (zj) (by simpa using hbg)).trans ((M0.out.cell (a:=⟨b0,off,f⟩) hbl (ze)).trans HC0.out);have c1:=(HM.out.cell (a:=⟨b0,off+1,f⟩) (zj) (by simpa using hbg)).trans ((M0.out.cell (a:=⟨b0,off+1,f⟩) hbl (ze)).trans HC1.out);have hbr:=Z wr _ c0;simp only at hbr;have LR:(Φ N false).length=N:=ze;obtain ⟨-,d1,-⟩:=HS.out.at k (K);have hgr:=HS.out.lt g (ze)
    obtain ⟨y,d0⟩:∃y,wr.cell? ⟨g,k,f⟩=U y:=by
     have hlj:(zu9 TT (Φ N false) k).length=N:=zs9 TN.out LR (K);have:=(HS.out.at k (K)).1;exact Yn
    have VK:M (∀W,_):=fun W=>VB.out k W hlt
    have E1:=Q (EV.out k)
    have SN:M (∀v,v=eb (ev k)→Sl (wr.setCell ⟨g,k,f⟩ v) 4 1 (V (U ⟨g,0,f⟩) N N) N ((zu9 TT (Φ N false) (k+1)).map eb) [g]):=fun v hv=>by
     have h1:=HS.out.set k v;rw [hv,zG5 (n:=N) TN.out LR hlt _ (TL.out k hlt)] at h1;rw [hv];exact h1
    have MN:M (∀v,G [g] w0 (wr.setCell ⟨g,k,f⟩ v)):=fun v=>HM.out.setCell _ v (ze)
    generalize k.testBit tn=bt at *;generalize ev k=ek at *;cases bt
    all_goals
     go_wp2_with fail
     try (refine (VK.out _).mono ?_;rintro e w9 ⟨rfl,rfl⟩;go_wp2_with fail)
     exact ⟨⟨k+1,K,by go_num,SN.out _ (by rw [E1.out];rfl),MN.out _⟩,zR⟩
   ·obtain rfl:k=N:=K
    have HF:M (Sl wr 4 1 (V (U ⟨g,0,f⟩) k k) k (TT.map eb) [g]):=by
     have:=HS.out;rw [zG1 TN.out (ze)] at this;exact this
    have MF:M (G [] w1 wr):=M0.out.trans HM.out (fun i hi q=>zP);go_wp2_with fail;go_ret;exact ⟨_,rfl,[g],by rw [J,TN.out];exact HF.out,MF.out,zj⟩
theorem zk6 {n:Nat} (hn:n≤5):∀m,m≤190→yK2 n m
 | 0,_,_,_,ts,_,_,_,hl,hf,_,_=>absurd (List.length_eq_zero_iff.1 (Nat.le_zero.1 hl)) hf.ne
 | m+1,hm,w,v,ts,F,r,x,hl,hf,h,hN=>by
  have ih:=zk6 hn m (K);rcases hf.split with hu | ⟨ts1,t,ts2,a,b,rfl,rfl,-,h0,hs⟩
  ·cases hu with
   | con t hk=>exact zG8 hn (.con t hk) (.inl ⟨hk,rfl⟩) h (hN t (ze))
   | var t hk=>exact zG8 hn (.var t hk) (.inr ⟨hk,rfl⟩) h (hN t (ze))
   | not t hk ha=>exact yz2 hn (K) ih hl ha hk h hN
   | par t t' hk hk' ha=>exact ys9 hn (K) ih hl ha hk hk' h hN
   | bnd t v vs d hk hv hvs hd ha=>exact yq5 hn (K) ih hl ha hk hv hvs hd h hN
  ·have e:=zN8 h0 hs;rcases hs with ⟨-,ha,hb⟩ | ⟨-,ha,hb⟩
   ·exact zX6 hn (K) ih hl ha hb e h0 h hN
   ·exact zX6 hn (K) ih hl ha hb e h0 h hN
open Go.RowKit
theorem zC5 {w:Ψ} {n g c g' c' W:Nat} (h:w.cell? ⟨g,0,f⟩=U (R Qd W)) (k:w.cell? ⟨g',0,f⟩=U (R Qd W)):
 I Y 74 #[β #[R P n,V (U ⟨g,0,f⟩) 1 c],β #[R P n,V (U ⟨g',0,f⟩) 1 c']] w fun e w'=>e=T (σ true)∧G [] w w':=by
 have hg:=Z w _ h;have hg':=Z w _ k;simp only at hg hg';obtain ⟨gk,hgk⟩:∃gk,w.heap.size=gk:=⟨_,rfl⟩;have B1:=(Blk.new' w #[R P n,V (U ⟨g,0,f⟩) 1 c] 88 gk hgk.symm).alloc (Δ #[R P n,V (U ⟨g',0,f⟩) 1 c'] 88);have B2:=Blk.new' (w.alloc (Δ #[R P n,V (U ⟨g,0,f⟩) 1 c] 88)) #[R P n,V (U ⟨g',0,f⟩) 1 c'] 88 (gk+1) (zk);have M0:M (G [] w ((w.alloc (Δ #[R P n,V (U ⟨g,0,f⟩) 1 c] 88)).alloc (Δ #[R P n,V (U ⟨g',0,f⟩) 1 c'] 88))):=zg;have hq:((n:Int)==(n:Int))=true:=ze;go_in;go_upto_region 1 with fail;have h1:=(M0.out.cell (a:=⟨g,0,f⟩) hg (ze)).trans h;have k1:=(M0.out.cell (a:=⟨g',0,f⟩) hg' (ze)).trans k;generalize (w.alloc (Δ #[R P n,V (U ⟨g,0,f⟩) 1 c] 88)).alloc (Δ #[R P n,V (U ⟨g',0,f⟩) 1 c'] 88)=w0 at *;have hgl:=Z w0 _ h1;have hgl':=Z w0 _ k1;have l1:=B1.lt;have l2:=B2.lt;have PB1:=Q B1;have PB2:=Q B2;have HH:=Q h1;have HK:=Q k1;obtain ⟨a0,a1⟩:=B1.cells2;obtain ⟨c0,c1⟩:=B2.cells2;simp only at hgl hgl';clear B1 B2 h k hg hg' hgk;go_wp2_with fail
 go_loopw [5] (fun i wr=>∃j:Nat,j≤1∧i=R P j∧M (G [] w0 wr)) (fun i _=>1 - (intOf i).toNat)
 case atStart=>exact ⟨0,K,rfl,Mod.refl _ _⟩
 case round=>
  obtain ⟨j,hj,rfl,HM⟩:=hrel;clear a0 a1 c0 c1 h1 k1;obtain ⟨a0,a1⟩:=(PB1.out.mod HM.out (ze)).cells2;obtain ⟨c0,c1⟩:=(PB2.out.mod HM.out (ze)).cells2;have h1:=(HM.out.cell (a:=⟨g,0,f⟩) hgl (ze)).trans HH.out;have k1:=(HM.out.cell (a:=⟨g',0,f⟩) hgl' (ze)).trans HK.out;by_cases hlt:j < 1
  ·obtain rfl:j=0:=K;go_wp2_with fail
   go_quiet (fail)
   rename_i nq
   have HM2:M (G [] w0 (wr.drewN nq)):=HM.out.drewN nq;generalize wr.drewN nq=wq at *;go_wp2_with fail;go_roundw
   case rel=>exact ⟨1,K,by go_num,HM2⟩
   all_goals (simp [intOf])
  ·obtain rfl:j=1:=K;go_wp2_with fail;go_ret;exact ⟨rfl,M0.out.trans' HM.out⟩
theorem zr8 (n:Nat) (X:Ex):zq1 (Y5 n X)=exW n X:=by
 refine Xr (by have:=zZ1 (Y5 n X);rwa [Xt] at this) fun x hx=>?_
 rw [yd4];unfold Y5;rw [YY _ hx]
theorem yC7 {w:Ψ} {n g c:Nat} {X:Ex} {v:χ} {F:List Nat} (hn:n≤5) (h:w.cell? ⟨g,0,f⟩=U (R Qd (exW n X:Nat))) (k:Rv w v ((Y5 n X).map eb) F):
 I Y 36 #[β #[R P n,V (U ⟨g,0,f⟩) 1 c],v] w fun e w'=>e=T (σ true)∧G [] w w':=by
 have hg:=Z w _ h;simp only at hg;have VA:M (∀W,G [] w W→I Y 76 #[v] W fun e w'=>e=T (R P n)∧w'=W):=fun W m=>zD8 (k.mod m (ze)) (Xt n X) (K)
 have OF:M (∀W,G [] w W→I Y 75 #[R P n,v] W fun e w'=>∃g',e=T (β #[R P n,V (U ⟨g',0,f⟩) 1 1])∧w'.cell? ⟨g',0,f⟩=U (R Qd (exW n X:Nat))∧G [] w w'∧G [] W w'):=fun W m=>by
  have h32:2 ^ n≤32:=zF;have:=yJ2 n (k.mod m (ze)) (by rw [Xt];exact μ n) (by rw [Xt];exact h32);rw [zr8] at this;exact this.mono (by rintro e w' ⟨g',rfl,cg,-,m2⟩;exact ⟨g',rfl,cg,m.trans' m2,m2⟩)
 have SS:M (∀W g',G [] w W→W.cell? ⟨g',0,f⟩=U (R Qd (exW n X:Nat))→I Y 74 #[β #[R P n,V (U ⟨g,0,f⟩) 1 c],β #[R P n,V (U ⟨g',0,f⟩) 1 1]] W fun e w'=>e=T (σ true)∧G [] W w'):=fun W g' m cg=>zC5 ((m.cell (a:=⟨g,0,f⟩) hg (ze)).trans h) cg
 obtain ⟨A,cap,rfl,-⟩:=k.shape;generalize ((Y5 n X).map eb).length=ln at *;generalize exW n X=W0 at *;clear k h;obtain ⟨gk,hgk⟩:∃gk,w.heap.size=gk:=⟨_,rfl⟩;have B1:=Blk.new' w #[R P n,V (U ⟨g,0,f⟩) 1 c] 88 gk hgk.symm;have M0:M (G [] w (w.alloc (Δ #[R P n,V (U ⟨g,0,f⟩) 1 c] 88))):=zg;go_in;go_upto_region 1 with fail;generalize w.alloc (Δ #[R P n,V (U ⟨g,0,f⟩) 1 c] 88)=w0 at *;obtain ⟨a0,a1⟩:=B1.cells2;have hbl:=B1.lt;have JC:M (∀W,G [] w0 W→W.cell? ⟨gk,0,f⟩=U (R P n)∧W.cell? ⟨gk,1,f⟩=U (V (U ⟨g,0,f⟩) 1 c)):=fun W m=>⟨(m.cell (a:=⟨gk,0,f⟩) hbl (ze)).trans a0,(m.cell (a:=⟨gk,1,f⟩) hbl (ze)).trans a1⟩
 clear B1 hgk;have VA2:M (∀W,G [] w0 W→_):=fun W m=>VA.out W (M0.out.trans' m)
 have OF2:M (∀W,G [] w0 W→I Y 75 #[R P n,V A ln cap] W fun e w'=>∃g',e=T (β #[R P n,V (U ⟨g',0,f⟩) 1 1])∧w'.cell? ⟨g',0,f⟩=U (R Qd (W0:Nat))∧G [] w0 w'):=fun W m=>(OF.out W (M0.out.trans' m)).mono (by rintro e w' ⟨g',rfl,cg,-,m2⟩;exact ⟨g',rfl,cg,m.trans' m2⟩)
 have SS2:M (∀W g',G [] w0 W→W.cell? ⟨g',0,f⟩=U (R Qd (W0:Nat))→I Y 74 #[β #[R P n,V (U ⟨g,0,f⟩) 1 c],β #[R P n,V (U ⟨g',0,f⟩) 1 1]] W fun e w'=>e=T (σ true)∧G [] w0 w'):=fun W g' m cg=>(SS.out W g' (M0.out.trans' m) cg).mono (zT)
 clear VA OF SS;go_wp2_with fail
 go_region_held3 (fun w'=>G [] w0 w'∧w'.cell? ⟨gk,0,f⟩=U (R P n)∧w'.cell? ⟨gk,1,f⟩=U (V (U ⟨g,0,f⟩) 1 c)) (first | (refine ⟨yx,?_⟩;go_keep) | go_keep) (first
  | (go_at_call 76;with_reducible refine (VA2.out _ (zy)).mono ?_;rintro e' w5 ⟨rfl,rfl⟩)
  | (go_at_call 75;with_reducible refine (OF2.out _ (zy)).mono ?_;rintro e' w6 ⟨g',rfl,cg,m6⟩;obtain ⟨a0,a1⟩:=JC.out w6 m6)
  | (go_at_call 74;with_reducible refine (SS2.out _ _ (zy) (zm)).mono ?_;rintro e' w7 ⟨rfl,m7⟩;obtain ⟨a0,a1⟩:=JC.out w7 m7))
 all_goals
  go_wp2_with fail;go_ret;exact ⟨rfl,M0.out.trans' m7⟩
end Go.Proofs.YtbnpoapmnkfhkaaGreatDoor
