import Derived.Lib.SlBytesRow
import Derived.Deep.CutRange
import Derived.Test.YtbnpoapmnkfhkaaGreatDoorZt02
set_option maxRecDepth 100000
set_option maxHeartbeats 16000000
set_option linter.unusedVariables false
set_option linter.unusedSimpArgs false
namespace Go.Proofs.YtbnpoapmnkfhkaaGreatDoor
open Go.Lib renaming hid → Z
open Go.Proofs.Tryz renaming prog → V, underlying123 → ω, underlying25 → π, underlying9 → κ
open Go.Value renaming int → U, string → ν, slice → ζ, tuple → Qm, bool → Qn, int → Qo
open Go.IntKind renaming i64 → Q, u8 → χ
open Go.Proofs.YtbnpoapmnkfhkaaGreatDoor renaming zc → K, Mod → Qd
open Go.RowKit renaming Hid → J
open Go.World renaming block_lt_of_cell? → I
open Go renaming World → D, Value → Θ, Calls → Δ
open Go.Ending renaming returned → C, returned → Qi
open List renaming drop_eq_getElem_cons → Ω, length_append → Φ, foldl_cons → τ, takeWhile_cons → σ, reverse_cons → ξ, getElem?_eq_getElem → μ, length_cons → ι, drop_length → θ, range → η, length_map → ε, map_append → γ, length → β, getElem?_eq_none → Qa, length_singleton → Qc, mem_cons_of_mem → Qe, mem_cons → Qg, getElem_mem → Qh
open Go.ByteArray renaming toList_eq → Ψ
open UInt8 renaming toNat → Ξ
open Option renaming none → Γ, some → φ
open Go.Value.slice renaming injEq → ψ
open Nat renaming le_refl → ρ, mul_one → Qb, xor_mod_two_pow → Qf, div_add_mod → Qj, lt_or_ge → Qk, mul_zero → Ql
open Option.some renaming inj → δ
open Go.RowKit
theorem zK9 (c:Nat) (w:D):Δ V 52 #[U χ c] w fun e w'=>e=C (Qn (zm7 c))∧w'=w:=by
 go_in;go_wp2
 all_goals
  go_ret;refine ⟨congrArg (fun b=>Qi (Qn b)) ?_,rfl⟩;rw [Bool.eq_iff_iff];simp [zm7]
  try omega
def YT (s:ByteArray):List Nat:=s.data.toList.map Ξ
def zt1 (v:Nat):List UInt8:=if v < 10 then [(48+v).toUInt8] else [49,(38+v).toUInt8]
theorem yI9 (w:D) (g c:Nat) (x:Int) (hx:x=c) (hg:w.heap.size=g) (hc:c < 256):(convert 123 9 (ζ (φ ⟨g,0,Γ⟩) 1 1)).run V (w.alloc (.cells #[U χ x] 5))=.ok (ν ⟨#[c.toUInt8]⟩) (w.alloc (.cells #[U χ x] 5)):=by
 subst hx
 have h:=Lib.run_convert_whole (P:=V) (w.alloc (.cells #[.int χ c] 5)) 123 5 9 ω Tryz.underlying5 κ g 0 ⟨#[c.toUInt8]⟩ (fun i hi=>by
  have hi':i < 1:=hi;obtain rfl:i=0:=K;rw [(Blk.new' w #[U χ c] 5 g hg.symm).cell];have e:(c.toUInt8.toNat:Int)=c:=zj;show φ (Qo χ (c:Int))=φ (U χ ((c.toUInt8.toNat:Nat):Int))
  rw [e]) 1
 exact h
theorem zT6 (v:Nat) (hv:v < 10) (w:D):Δ V 96 #[U Q v] w fun e w'=>∃s:ByteArray,e=C (ν s)∧s.data.toList=zt1 v∧Qd [] w w':=by
 have CV:=yI9 w w.heap.size (48+v) (48+(v:Int)) (K) rfl (K);have hv':(v:Int) < 10:=K;have HV:J (zt1 v=[(48+v).toUInt8]):=by show _=_;unfold zt1;rw [if_pos hv]
 generalize (48+v).toUInt8=x8 at *;go_in;go_wp2;go_ret;exact ⟨_,rfl,by rw [HV.out],zg⟩
theorem yx8 (v:Nat) (hv:v < 16) (w:D):Δ V 96 #[U Q v] w fun e w'=>∃s:ByteArray,e=C (ν s)∧s.data.toList=zt1 v∧Qd [] w w':=by
 by_cases h:v < 10
 ·exact zT6 v h w
 have N1:=Z (zT6 1 (K));have N2:=Z (zT6 (v - 10) (K));obtain rfl | rfl | rfl | rfl | rfl | rfl:v=10∨v=11∨v=12∨v=13∨v=14∨v=15:=K
 all_goals
  go_in;go_wp2_with fail;refine (N1.out _).mono ?_;rintro e w1 ⟨s1,rfl,h1,m1⟩;have M1:=Z m1;have H1:=Z h1;have z1:s1.size=1:=by have:=congrArg β h1;simpa [zt1] using this
  clear m1 h1;go_wp2_with fail;refine (N2.out _).mono ?_;rintro e w2 ⟨s2,rfl,h2,m2⟩;have M2:=Z (M1.out.trans' m2);have H2:=Z h2;have z2:s2.size=1:=by have:=congrArg β h2;simpa [zt1] using this
  clear m2 h2;go_wp2_with fail;go_ret;refine ⟨_,rfl,?_,M2.out⟩;simp [H1.out,H2.out];rfl
theorem zF2 {s:ByteArray} {l:List UInt8} (h:(s.toList==l)=true):s=⟨l.toArray⟩:=by
 rw [beq_iff_eq,Ψ] at h;apply ByteArray.ext;rw [←h]
theorem yj7:∀{l l':List UInt8},l.map Ξ=l'.map Ξ→l=l':=by
 intro l
 induction l with
 | nil=>intro l' h;cases l' with
  | nil=>rfl
  | cons=>simp at h
 | cons a l ih=>
  intro l' h;cases l' with
  | nil=>simp at h
  | cons b l'=>
   simp only [List.map_cons,List.cons.injEq] at h;rw [UInt8.toNat_inj.1 h.1,ih h.2]
theorem zd6 {s:ByteArray} {l:List UInt8} (h:YT s=l.map Ξ):s.data.toList=l:=yj7 h
theorem zH4 {s:ByteArray} {l:List UInt8} (h:(s.toList==l)=false):YT s≠l.map Ξ:=by
 rw [beq_eq_false_iff_ne,Ψ] at h;exact fun e=>h (zd6 e)
theorem yz9 (k:Nat) (hk:k < 16):YQ (120::(zt1 k).map Ξ)=(118,k):=by
 obtain rfl | rfl | rfl | rfl | rfl | rfl | rfl | rfl | rfl | rfl | rfl | rfl | rfl | rfl | rfl | rfl:k=0∨k=1∨k=2∨k=3∨k=4∨k=5∨k=6∨k=7∨k=8∨k=9∨k=10∨k=11∨k=12∨k=13∨k=14∨k=15:=K
 all_goals decide
theorem zp4 {w:List Nat} (h1:w≠[48]) (h2:w≠[49]) (h3:w≠[115,111,109,101]) (h4:w≠[101,97,99,104]) (h:∀v < 16,w≠120::(zt1 v).map Ξ):YQ w=(98,0):=by
 have e1:∀v < 10,(120::(zt1 v).map Ξ)=[120,48+v]:=zi;have e2:∀v < 16,10≤v→(120::(zt1 v).map Ξ)=[120,49,38+v]:=zi;unfold YQ;rw [if_neg h1,if_neg h2,if_neg h3,if_neg h4];split
 ·rename_i a b
  split
  ·rename_i q
   obtain ⟨rfl,q1,q2⟩:=q;exact absurd (by rw [e1 _ (K),show 48+(b - 48)=b from K]) (h (b - 48) (K))
  ·rfl
 ·rename_i a b c
  split
  ·rename_i q
   obtain ⟨rfl,rfl,q1,q2⟩:=q;exact absurd (by rw [e2 _ (K) (K),show 38+(c - 38)=c from K]) (h (c - 38) (K))
  ·rfl
 ·rfl
theorem ym1 (s:ByteArray) (w:D):Δ V 53 #[ν s] w fun e w'=>e=C (Qm #[U χ (YQ (YT s)).1,U Q (YQ (YT s)).2])∧Qd [] w w':=by
 have NU:=Z yx8;obtain ⟨b1,hb1⟩:∃b,(s.toList==[48])=b:=⟨_,rfl⟩;obtain ⟨b2,hb2⟩:∃b,(s.toList==[49])=b:=⟨_,rfl⟩;obtain ⟨b3,hb3⟩:∃b,(s.toList==[115,111,109,101])=b:=⟨_,rfl⟩;obtain ⟨b4,hb4⟩:∃b,(s.toList==[101,97,99,104])=b:=⟨_,rfl⟩;cases b1 with
 | true=>
  obtain rfl:s=⟨#[48]⟩:=zF2 hb1;go_in;go_wp2_with fail;go_ret2;exact ⟨rfl,Mod.refl _ _⟩
 | false=>
 cases b2 with
 | true=>
  obtain rfl:s=⟨#[49]⟩:=zF2 hb2;go_in;go_wp2_with fail;go_ret2;exact ⟨rfl,Mod.refl _ _⟩
 | false=>
 cases b3 with
 | true=>
  obtain rfl:s=⟨#[115,111,109,101]⟩:=zF2 hb3;go_in;go_wp2_with fail;go_ret2;exact ⟨rfl,Mod.refl _ _⟩
 | false=>
 cases b4 with
 | true=>
  obtain rfl:s=⟨#[101,97,99,104]⟩:=zF2 hb4;go_in;go_wp2_with fail;go_ret2;exact ⟨rfl,Mod.refl _ _⟩
 | false=>
  have h1:YT s≠[48]:=zH4 hb1;have h2:YT s≠[49]:=zH4 hb2;have h3:YT s≠[115,111,109,101]:=zH4 hb3;have h4:YT s≠[101,97,99,104]:=zH4 hb4;have HE:=Z (And.intro h1 (And.intro h2 (And.intro h3 h4)));clear h1 h2 h3 h4;go_in;go_wp2_with fail
  go_loopw [4] (fun i wr=>∃k:Nat,k≤16∧i=U Q k∧J (∀v < k,s.data.toList≠120::zt1 v)∧J (Qd [] w wr)) (fun i _=>16 - (intOf i).toNat)
  case atStart=>exact ⟨0,K,rfl,fun v hv=>K,zg⟩
  case round=>
   obtain ⟨k,hk,rfl,HN,HM⟩:=hrel;by_cases hlt:k < 16
   ·have hlt':(k:Int) < 16:=K;have NK:=Z (NU.out k hlt);go_wp2_with fail;refine (NK.out _).mono ?_;rintro e w1 ⟨s1,rfl,h1,m1⟩;obtain ⟨b,hb⟩:∃b,(s.toList==(({ data:=#[120] }:ByteArray)++s1).toList)=b:=⟨_,rfl⟩;have HB:=Z hb;have H1:=Z h1
    have z1:s1.size≤2:=by
     have:=congrArg β h1;have e:(zt1 k).length≤2:=by unfold zt1;split<;>simp
     have e2:s1.data.toList.length=s1.size:=rfl;omega
    have M1:=Z (HM.out.trans' m1);clear h1 m1;cases b with
    | true=>
     have HS:J (s.data.toList=120::zt1 k):=by
      show _=_;have:=HB.out;rw [beq_iff_eq,Ψ,Ψ] at this;rw [this];simp [H1.out]
     go_wp2_with fail;go_ret2;refine ⟨?_,M1.out⟩;rw [show YT s=120::(zt1 k).map Ξ by unfold YT;rw [HS.out];rfl,yz9 k hlt];rfl
    | false=>
     have HS:J (s.data.toList≠120::zt1 k):=by
      show _≠_;have:=HB.out;rw [beq_eq_false_iff_ne,Ψ,Ψ] at this;intro h;apply this;rw [h];simp [H1.out]
     go_wp2_with fail;refine ⟨⟨k+1,K,ze,fun v hv=>?_,M1.out⟩,zR⟩;rcases Qk v k with q | q
     ·exact HN.out v q
     ·obtain rfl:v=k:=K;exact HS.out
   ·obtain rfl:k=16:=K;go_wp2_with fail;go_ret2;refine ⟨?_,HM.out⟩;rw [zp4 HE.out.1 HE.out.2.1 HE.out.2.2.1 HE.out.2.2.2 (fun v hv e=>HN.out v hv ?_)];rfl;exact zd6 (l:=120::zt1 v) (yH)
open Go.RowKit
def tkv (t:Tk):List Θ:=[U χ (t.k:Int),U Q (t.n:Int),U Q (t.at_:Int)]
theorem zB9:∀t,(tkv t).length=3:=fun _=>rfl
def NewTk (w:D) (L:List Tk) (w':D) (v:Θ):Prop:=∃F,Sl w' 99 3 v L.length (zj4 tkv L) F∧Qd [] w w'∧∀k∈F,w.heap.size≤k
theorem zd7 (s:ByteArray):(YT s).length=s.size:=by unfold YT;rw [ε];rfl
theorem yo0 (s:ByteArray) (k:Nat) (h:k < s.size):(YT s)[k]? =φ s[k].toNat:=by
 have h':k < s.data.toList.length:=h;unfold YT;rw [List.getElem?_map,μ h'];rfl
theorem zl3 (s:ByteArray) (i j:Nat) (h:j≤s.size):YT (s.extract i j)=((YT s).drop i).take (j - i):=by
 unfold YT;rw [←List.map_drop,←List.map_take]
 congr 1
 rw [ByteArray.data_extract,Array.toList_extract]
theorem NewTk.later {w w1 w2:D} {L:List Tk} {v:Θ} (h:NewTk w L w1 v) (m:Qd [] w1 w2):NewTk w L w2 v:=by
 obtain ⟨F,s,m1,f⟩:=h;exact ⟨F,s.mod m (ze),m1.trans' m,f⟩
theorem NewTk.app {w w1 w0 w2:D} {P:List Tk} {t:Tk} {v':Θ} {F F':List Nat} (hm:Qd [] w w1) (hf:∀k∈F,w.heap.size≤k) (ht:[Qo χ (t.k:Int),U Q (t.n:Int),U Q (t.at_:Int)]=tkv t) (m0:Qd [] w1 w0)
 (hs:Sl w2 99 3 v' (P.length+1) (zj4 tkv P++tkv t) F') (hm2:Qd F w0 w2) (hf2:∀k∈F',k∈F∨w0.heap.size≤k):NewTk w (P++[t]) w2 v':=by
 refine ⟨F',?_,(hm.trans' m0).trans hm2 (fun i hi h=>by have:=hf i h;omega),fun k hk=>(hf2 k hk).elim (hf k) (fun h=>?_)⟩
 ·rw [Φ,zd9];simpa [zj4] using hs
 ·have:=(hm.trans' m0).size;omega
theorem Tryz.infoTk:(Tryz.prog.info? 99).map (fun i=>(i.zero,i.size,i.bytes))=φ (φ (.agg #[U χ 0,U Q 0,U Q 0]),3,24):=by kernel_rfl
theorem kj {p:Prop} (h:p:=by
 have hek:(k:Int) < j:=K;have WK:=Z (WO.out (s.extract k j));rw [show YT (s.extract k j)=XC T k from jO] at WK;go_wp2_with fail;refine (WK.out _).mono ?_;rintro e w2 ⟨rfl,m2⟩;rw [HKN.out];replace HN:=Z (HN.out.later m2);clear m2 WK;obtain ⟨F0,s0,m0,f0⟩:=HN.out;obtain ⟨A0,cap0,rfl,hcap0⟩:=s0.shape;have S0:=Z s0;have M0:=Z m0;have FO:=Z f0;clear s0 m0 f0;go_wp2_with (at_builtin;refine YF _ rfl _ _ 25 rfl 99 i0 (.agg #[.int χ 0,.int Q 0,.int Q 0]) 3 24 π hi hz0 hz1 hz2 rfl (zi) _ P.length (zj4 tkv P) F0 rfl (S0.out.mod (S:=[]) (zg) (ze)) ⟨_,0,Γ⟩ 1 1 [.int χ kk,.int Q nn,.int Q k] (zi) rfl rfl (zM) (xO) (zx) (K) ?_;intro v' w3 F3 hs3 hm3 hf3);have HN3:J (NewTk w (P++[⟨kk,nn,k⟩]) w3 v'):=NewTk.app M0.out FO.out (zE) (zg) hs3 hm3 hf3;clear hs3 hm3 hf3;go_wp2_with fail;go_roundw
 case rel=>exact ⟨j,P++[⟨kk,nn,k⟩],K,by first | rfl | go_num,xP,je,HN3⟩
 case measure=>simp [intOf];omega):p:=h
theorem yb8 (s:ByteArray) (hs:s.size≤100) (w:D):Δ V 20 #[ν s] w fun e w'=>∃v,e=C v∧NewTk w (zj0 (YT s) 0) w' v:=by
 obtain ⟨i0,hi,hz0,hz1,hz2⟩:=info_parts Tryz.infoTk;obtain ⟨n,hn⟩:∃n,s.size=n:=⟨_,rfl⟩;have HT:J ((YT s).length=n):=by show _=_;rw [zd7,hn]
 have HAT:J (∀k,(h:k < s.size)→(YT s)[k]? =φ s[k].toNat):=yo0 s;have HEX:J (∀i j,j≤s.size→YT (s.extract i j)=((YT s).drop i).take (j - i)):=zl3 s;have LE:=Z zK9;have WO:=Z ym1;rw [hn] at hs;have hs':(n:Int)≤100:=K;generalize YT s=T at *;go_in;go_wp2_with fail
 go_loopw [3,4] (fun o a wr=>∃(k:Nat) (P:List Tk),k≤n∧a=U Q k∧P.length≤k∧J (zj0 T 0=P++zj0 T k)∧J (NewTk w P wr o)) (fun _ a _=>n - (intOf a).toNat)
 case atStart=>exact ⟨0,[],K,rfl,ze,yR,⟨[],Sl.nil _ _ _,zg,ze⟩⟩
 case round=>
  obtain ⟨k,P,hk,rfl,hPk,HP,HN⟩:=hrel;by_cases hlt:k < n
  ·have hlt':(k:Int) < n:=K;have hks:k < s.size:=K;have hk0:(0:Int)≤k:=K;have HC:=Z (HAT.out k hks);obtain ⟨x,hx⟩:∃x,s[k].toNat=x:=⟨_,rfl⟩;rw [hx] at HC;by_cases h32:x=32
   ·subst h32;have e1:((32:Nat):Int)==32:=rfl;have TB:=Z (zI5 HC.out);go_wp2_with fail;go_roundw
    case rel=>exact ⟨k+1,P,K,by go_num,K,by show _=_;rw [HP.out,TB.out],HN⟩
    case measure=>simp [intOf];omega
   ·have e1:((x:Int)==32)=false:=zo;have BS:J (YK T k=k):=zb8 (by rw [HC.out];intro h;exact h32 (δ h));obtain ⟨e,he⟩:∃e,za8 T k=e:=⟨_,rfl⟩;have HLE:=Z he;have hl:=XO (t:=T) (a:=k) (yu);rw [he,HT.out] at hl;obtain ⟨hl1,hl2⟩:=hl;clear he
    have TK:J (zj0 T k=(YL T k).1::zj0 T (YL T k).2):=XL (yu) (by
     unfold YL;rw [BS.out,HC.out];simp only;split
     ·have:=zg5 (XC T k);simp only;omega
     ·exact (zp2 x).1)
    obtain ⟨b,hb⟩:∃b,zm7 x=b:=⟨_,rfl⟩;have HB:=Z hb
    have TA:J (YL T k=if b then (⟨(YQ (XC T k)).1,(YQ (XC T k)).2,k⟩,e) else (⟨za0 x,0,k⟩,k+1)):=by
     show _=_;unfold YL;rw [BS.out,HC.out];simp only;rw [hb,HLE.out]
    have EK:J (b=true→k < e):=fun h=>by
     have h1:=Xo HC.out (HB.out.trans h);have h2:=XO (t:=T) (a:=k+1) (yu);rw [HLE.out] at h1;omega
    have EN:J (b=false→e=k):=fun h=>by
     rw [←HLE.out];exact zh0 (by intro c hc;rw [HC.out] at hc;rw [←δ hc];exact HB.out.trans h)
    clear hb;rw [TA.out] at TK;clear TA;cases b with
    | true=>
     have hke:=EK.out rfl;simp only [if_true] at TK;clear EK EN;obtain ⟨kk,nn,hkn⟩:∃kk nn,YQ (XC T k)=(kk,nn):=⟨_,_,rfl⟩;have HKN:=Z hkn;rw [hkn] at TK;simp only at TK;clear hkn;go_wp2_with fail
     go_loopw [4] (fun a wi=>∃j:Nat,k≤j∧j≤e∧a=U Q j∧J (za8 T k=za8 T j)∧wi=wr) (fun a _=>n - (intOf a).toNat)
     case atStart=>exact ⟨k,K,K,rfl,rfl,rfl⟩
     case round=>
      obtain ⟨j,hkj,hjn,rfl,HJ,rfl⟩:=hrel;by_cases hje:j < e
      ·have hj':(j:Int) < n:=K;have hjs:j < s.size:=K;have hj0:(0:Int)≤j:=K;have HCJ:=Z (HAT.out j hjs);obtain ⟨y,hy⟩:∃y,s[j].toNat=y:=⟨_,rfl⟩;rw [hy] at HCJ
       have hb:zm7 y=true:=by
        cases q:zm7 y with
        | true=>rfl
        | false=>
         have:=zh0 (t:=T) (a:=j) (by intro c hc;rw [HCJ.out] at hc;rw [←δ hc];exact q);have:=HJ.out;rw [HLE.out] at this;omega
       have LEJ:=Z (LE.out y);rw [hb] at LEJ;have ST:=Z (Xo HCJ.out hb);go_wp2_with fail;refine (LEJ.out _).mono ?_;rintro e w1 ⟨rfl,rfl⟩;go_wp2_with fail;go_roundw
       case rel=>exact ⟨j+1,K,K,by go_num,by show _=_;rw [HJ.out,ST.out],trivial⟩
       case measure=>simp [intOf];omega
      ·obtain rfl:j=e:=K;by_cases hjn':j < n
       ·have hj':(j:Int) < n:=K;have hjs:j < s.size:=K;have hj0:(0:Int)≤j:=K;have HCJ:=Z (HAT.out j hjs);obtain ⟨y,hy⟩:∃y,s[j].toNat=y:=⟨_,rfl⟩;rw [hy] at HCJ
        have hb:zm7 y=false:=by
         cases q:zm7 y with
         | false=>rfl
         | true=>
          have h1:=Xo HCJ.out q;have h2:=XO (t:=T) (a:=j+1) (yu);have:=HJ.out;rw [HLE.out] at this;omega
        have LEJ:=Z (LE.out y);rw [hb] at LEJ;go_wp2_with fail;refine (LEJ.out _).mono ?_;rintro e w1 ⟨rfl,rfl⟩;exact kj
       ·obtain rfl:j=n:=K;exact kj
    | false=>
     have hke:=(EN.out rfl).symm;subst hke;clear EK EN hl1 hl2;simp only [Bool.false_eq_true,if_false] at TK;have hks':s[k].toNat=x:=hx;have LEX:=Z (LE.out x);rw [HB.out] at LEX;clear HAT HEX;go_wp2_with fail
     go_loopw [4] (fun a wi=>a=U Q k∧wi=wr) (fun a _=>0)
     case atStart=>exact ⟨rfl,rfl⟩
     case round=>
      obtain ⟨rfl,rfl⟩:=hrel;go_wp2_with fail;refine (LEX.out _).mono ?_;rintro e w1 ⟨rfl,rfl⟩;go_upto_region 12 with fail;go_cut [8] from 8 to 8 (fun v wi=>v=U χ 98∧wi=w1)
      case first=>
       go_wp2_with fail;go_meet;exact ⟨rfl,rfl⟩
      case rest=>
      obtain ⟨rfl,hwq⟩:=hcut;subst hwq;go_step;go_step;go_cut [8] from 50 to 65 (fun v wi=>v=U χ (za0 x:Nat)∧wi=wc)
      case first=>
       have hsg:x=33∨x=38∨x=124∨x=94∨x=62∨x=61∨x=40∨x=41∨x=46∨x∉zN2:=by unfold zN2;simp;omega
       rcases hsg with rfl | rfl | rfl | rfl | rfl | rfl | rfl | rfl | rfl | hsg
       case inr.inr.inr.inr.inr.inr.inr.inr.inr=>
        have hsg':¬x=33∧¬x=38∧¬x=124∧¬x=94∧¬x=62∧¬x=61∧¬x=40∧¬x=41∧¬x=46:=by unfold zN2 at hsg;simp at hsg;omega
        obtain ⟨x1,x2,x3,x4,x5,x6,x7,x8,x9⟩:=hsg';have hsx:za0 x=98:=by unfold za0;rw [if_neg hsg]
        clear hsg;have y0:((x:Int)==33)=false:=zo;have y1:((x:Int)==38)=false:=zo;have y2:((x:Int)==124)=false:=zo;have y3:((x:Int)==94)=false:=zo;have y4:((x:Int)==62)=false:=zo;have y5:((x:Int)==61)=false:=zo;have y6:((x:Int)==40)=false:=zo;have y7:((x:Int)==41)=false:=zo;have y8:((x:Int)==46)=false:=zo;go_wp2_with fail;go_meet;exact ⟨by rw [hsx];rfl,rfl⟩
       all_goals
        go_wp2_with fail;go_meet;exact ⟨rfl,rfl⟩
      case rest=>
      obtain ⟨rfl,hwq⟩:=hcut;subst hwq;go_step;obtain ⟨F0,s0,m0,f0⟩:=HN.out;obtain ⟨A0,cap0,rfl,hcap0⟩:=s0.shape;have S0:=Z s0;have M0:=Z m0;have FO:=Z f0;clear s0 m0 f0;go_wp2_with (at_builtin;refine YF _ rfl _ _ 25 rfl 99 i0 (.agg #[.int χ 0,.int Q 0,.int Q 0]) 3 24 π hi hz0 hz1 hz2 rfl (zi) _ P.length (zj4 tkv P) F0 rfl (S0.out.mod (S:=[]) (zg) (ze)) ⟨_,0,Γ⟩ 1 1 [.int χ (za0 x:Nat),.int Q 0,.int Q k] (zi) rfl rfl (zM) (xO) (zx) (K) ?_;intro v' w3 F3 hs3 hm3 hf3);have HN3:J (NewTk w (P++[⟨za0 x,0,k⟩]) w3 v'):=NewTk.app M0.out FO.out (zE) (zg) hs3 hm3 hf3;clear hs3 hm3 hf3;go_wp2_with fail;go_roundw
      case rel=>exact ⟨k+1,P++[⟨za0 x,0,k⟩],K,by first | rfl | go_num,xP,je,HN3⟩
      case measure=>simp [intOf];omega
  ·obtain rfl:k=n:=K
   have TE:J (zj0 T k=[⟨122,0,k⟩]):=by
    have hb:YK T k=k:=zb8 (by rw [Qa (by rw [HT.out];exact ρ _)];simp);have ht:YL T k=(⟨122,0,k⟩,k):=by unfold YL;rw [hb,Qa (by rw [HT.out];exact ρ _)]
    show _=_;rw [XG (by rw [ht]),ht]
   obtain ⟨F0,s0,m0,f0⟩:=HN.out;obtain ⟨A0,cap0,rfl,hcap0⟩:=s0.shape;have S0:=Z s0;have M0:=Z m0;have FO:=Z f0;clear s0 m0 f0;go_wp2_with (at_builtin;refine YF _ rfl _ _ 25 rfl 99 i0 (.agg #[.int χ 0,.int Q 0,.int Q 0]) 3 24 π hi hz0 hz1 hz2 rfl (zi) _ P.length (zj4 tkv P) F0 rfl (S0.out.mod (S:=[]) (zg) (ze)) ⟨_,0,Γ⟩ 1 1 [.int χ 122,.int Q 0,.int Q k] (zi) rfl rfl (zM) (xO) (zx) (K) ?_;intro v' w3 F3 hs3 hm3 hf3);have HN3:J (NewTk w (P++[⟨122,0,k⟩]) w3 v'):=NewTk.app M0.out FO.out (zE) (zg) hs3 hm3 hf3;clear hs3 hm3 hf3;go_wp2_with fail;go_ret;exact ⟨_,rfl,by rw [HP.out,TE.out];exact HN3.out⟩
open Go.RowKit
def by8 (x:Nat):Θ:=U χ (x:Int)
def Arnd (w:D) (v:Θ) (S:List Nat) (F:List Nat):Prop:=Sl w 5 1 v S.length (S.reverse.map by8) F
theorem Arnd.pop {w:D} {v:Θ} {x:Nat} {S F:List Nat} (h:Arnd w v (x::S) F):∃g cap,v=ζ (φ ⟨g,0,Γ⟩) (S.length+1) cap∧F=[g]∧w.cell? ⟨g,S.length,Γ⟩=φ (U χ (x:Int))∧S.length+1≤cap∧Arnd w (ζ (φ ⟨g,0,Γ⟩) S.length cap) S F:=by
 unfold Arnd at h;have h':=h;obtain ⟨g,cap,rfl,hF,hc⟩:=h.pos (ze);have ht:=Sl.take h S.length (ze);have ha:=(Sl.at h S.length (ze)).1;simp only [ι] at *;refine ⟨g,cap,rfl,hF,?_,hc,?_⟩
 ·rw [ha,ξ,γ,List.getElem?_append_right (ze)];simp [by8]
 ·unfold Arnd;rw [ξ,γ,Qb,List.take_append_of_le_length (ze),List.take_of_length_le (ze)] at ht;exact ht
theorem yx6 {w:D} {v:Θ} {S F:List Nat} (h:Arnd w v S F) (hl:S.length≤200):Δ V 54 #[v] w fun e w'=>∃v',e=C v'∧Arnd w v' (za5 S) F∧w'=w:=by
 have H:=Z h;clear h;go_in;go_wp2_with fail
 go_loopw [0] (fun u wr=>∃T:List Nat,T.length≤S.length∧J (za5 T=za5 S)∧J (Arnd w u T F)∧wr=w) (fun u _=>match u with | ζ _ n _=>n | _=>0)
 case atStart=>exact ⟨S,ρ _,rfl,H,rfl⟩
 case round=>
  obtain ⟨T,hT,HP,HA,hw⟩:=hrel;subst hw;cases T with
  | nil=>
   obtain ⟨A,cap,rfl,hc⟩:=Sl.shape HA.out;simp only [List.length_nil] at HA ⊢;go_wp2_with fail;go_ret;exact ⟨_,rfl,by rw [←HP.out];exact HA.out,rfl⟩
  | cons x T=>
   obtain ⟨g,cap,rfl,hF,hc,hcap,ha⟩:=HA.out.pop;subst hF;simp only [ι] at hT ⊢;have HA2:=Z ha;obtain ⟨m,hm⟩:∃m,T.length=m:=⟨_,rfl⟩;rw [hm] at hc HA2 hT ⊢;have hm0:(0:Int)≤m:=K;have hm1:(m:Int)≤200:=K;have hgl:=I _ _ hc;clear ha;by_cases q:x=33
   ·subst q
    have HP2:J (za5 T=za5 S):=by
     have:=HP.out;rw [za5,if_pos rfl] at this;exact this
    go_wp2_with fail;go_roundw
    case rel=>exact ⟨T,K,HP2,HA2,zp⟩
    case measure=>simp;try omega
   ·have q':((x:Int)==33)=false:=zo
    have HP2:J (x::T=za5 S):=by
     have:=HP.out;rw [za5,if_neg q] at this;exact this
    have HA3:=HA;go_wp2_with fail;go_ret;refine ⟨_,rfl,?_,rfl⟩;rw [←HP2.out];have:=HA3.out;rw [hm] at this;exact this
open Go.RowKit
def TkR (w:D) (v:Θ) (L:List Tk) (F:List Nat):Prop:=
 ∃A cap,v=ζ A L.length cap∧L.length≤cap∧(0 < L.length→∃b off,A=φ ⟨b,off,Γ⟩∧b∈F∧∀i (h:i < L.length),
  w.cell? ⟨b,off+i *3,Γ⟩=φ (U χ (L[i].k:Int))∧w.cell? ⟨b,off+i *3+1,Γ⟩=φ (U Q (L[i].n:Int))∧w.cell? ⟨b,off+i *3+2,Γ⟩=φ (U Q (L[i].at_:Int)))
theorem TkR.of_sl {w:D} {v:Θ} {L:List Tk} {F:List Nat} (h:Sl w 99 3 v L.length (zj4 tkv L) F):TkR w v L F:=by
 obtain ⟨A,cap,rfl,hc⟩:=h.shape;refine ⟨A,cap,rfl,hc,fun h0=>?_⟩;obtain ⟨g,cap',e,hF,_⟩:=h.pos h0;simp only [ψ] at e;obtain ⟨rfl,-,rfl⟩:=e;refine ⟨g,0,rfl,by rw [hF];simp,fun i hi=>?_⟩;have r0:=ze9 (f:=tkv) zB9 L i 0 hi (K);have r1:=ze9 (f:=tkv) zB9 L i 1 hi (K);have r2:=ze9 (f:=tkv) zB9 L i 2 hi (K);have a0:=(h.at (i *3+0) (K)).1;have a1:=(h.at (i *3+1) (K)).1;have a2:=(h.at (i *3+2) (K)).1;rw [r0] at a0;rw [r1] at a1;rw [r2] at a2;refine ⟨?_,?_,?_⟩
 ·rw [show 0+i *3=i *3+0 from K];exact a0
 ·rw [show 0+i *3+1=i *3+1 from K];exact a1
 ·rw [show 0+i *3+2=i *3+2 from K];exact a2
theorem TkR.mod {S:List Nat} {w w':D} {v:Θ} {L:List Tk} {F:List Nat} (h:TkR w v L F) (m:Qd S w w') (hd:∀k∈F,k∉S):TkR w' v L F:=by
 obtain ⟨A,cap,e,hc,hr⟩:=h;refine ⟨A,cap,e,hc,fun h0=>?_⟩;obtain ⟨b,off,ea,hb,hi⟩:=hr h0;refine ⟨b,off,ea,hb,fun i hl=>?_⟩;obtain ⟨c0,c1,c2⟩:=hi i hl;have hbl:=I w _ c0;exact ⟨(m.cell (a:=⟨b,off+i *3,Γ⟩) hbl (hd b hb)).trans c0,(m.cell (a:=⟨b,off+i *3+1,Γ⟩) hbl (hd b hb)).trans c1,(m.cell (a:=⟨b,off+i *3+2,Γ⟩) hbl (hd b hb)).trans c2⟩
theorem TkR.shape {w:D} {v:Θ} {L:List Tk} {F:List Nat} (h:TkR w v L F):∃A cap,v=ζ A L.length cap∧L.length≤cap:=by
 obtain ⟨A,cap,e,hc,_⟩:=h;exact ⟨A,cap,e,hc⟩
theorem TkR.at {w:D} {A:Option Addr} {n cap:Nat} {L:List Tk} {F:List Nat} (h:TkR w (ζ A n cap) L F) (i:Nat) (hi:i < L.length):∃b off,A=φ ⟨b,off,Γ⟩∧b∈F∧
 w.cell? ⟨b,off+i *3,Γ⟩=φ (U χ (L[i].k:Int))∧w.cell? ⟨b,off+i *3+1,Γ⟩=φ (U Q (L[i].n:Int))∧w.cell? ⟨b,off+i *3+2,Γ⟩=φ (U Q (L[i].at_:Int)):=by
 obtain ⟨A',cap',e,hc,hr⟩:=h;simp only [ψ] at e;obtain ⟨rfl,-,rfl⟩:=e;obtain ⟨b,off,ea,hb,hc⟩:=hr (K);exact ⟨b,off,ea,hb,hc i hi⟩
theorem yK6 (S:List Nat):(za5 S).length≤S.length:=by
 induction S with
 | nil=>exact ρ _
 | cons b l ih=>
  unfold za5;split
  ·simp;omega
  ·exact ρ _
def yo9 (w:D) (L:List Tk) (e:Ending) (w':D):Prop:=∃a c:Nat,e=C (Qm #[U Q a,U Q c])∧(c=0→Xn 0 [] L)∧Qd [] w w'
theorem Tryz.infoB8:(Tryz.prog.info? 5).map (fun i=>(i.zero,i.size,i.bytes))=φ (φ (U χ 0),1,1):=by kernel_rfl
theorem kq {p:Prop} (h:p:=by
 go_wp2_with fail;refine WX.out.mono ?_;rintro e w3 ⟨v3,rfl,ha3,rfl⟩;have HA3:=Z ha3;have hpl:(za5 S).length≤k:=xW;clear ha3 WX;go_wp2_with fail;go_roundw
 case rel=>exact ⟨k+1,1,za5 S,G,(zO),by go_num,rfl,K,K,HA3,HG,HM,HAC2⟩
 case measure=>simp [intOf];omega):p:=h
theorem km {p:Prop} (h:p:=by
 have hSm:S.length≤k:=jf;have HAC2:J (Xn 1 (za5 S) (L.drop (k+1))→Xn 0 [] L):=fun h=>HAC.out (yI)
 clear HAC;have WX:=Z (WH.out wr _ _ _ HA.out (K))
 exact kq):p:=h
theorem ku {p:Prop} (h:p:=by
 show Arnd _ _ _ _;unfold Arnd;rw [ι,HMM.out,ξ,γ]
 exact hs3):p:=h
theorem kn {p:Prop} (h:p:=by
 have HAC2:J (Xn 2 (33::S) (L.drop (k+1))→Xn 0 [] L):=fun h=>HAC.out (yI)
 clear HAC;go_upto_region 14 with fail;go_wp2_with (at_builtin;refine YF _ rfl _ _ 123 rfl 5 i0 (.int χ 0) 1 1 ω hi hz0 hz1 hz2 rfl (zi) _ m (S.reverse.map by8) G rfl (xR) ⟨_,0,Γ⟩ 1 1 [.int χ 33] (zi) rfl rfl (zM) (xn) (zx) (K) ?_;intro v' w3 F3 hs3 hm3 hf3)
 have HA3:J (Arnd w3 v' (33::S) F3):=by
  exact ku
 have HM3:J (Qd [] w w3):=(HM.out.trans' (show Qd [] wr _ from zg)).trans hm3 (fun i hi h=>xS);have HG3:J (∀b∈F3,w.heap.size≤b):=fun b hb=>(hf3 b hb).elim (HG.out b) (fun h=>xU)
 clear hs3 hm3 hf3;go_wp2_with fail;go_roundw
 case rel=>exact ⟨k+1,2,_,F3,(zO),by go_num,rfl,K,xV,HA3,HG3,HM3,HAC2⟩
 case measure=>simp [intOf];omega):p:=h
theorem ky {p:Prop} (h:p:=by
 clear HAC;go_wp2_with fail;go_roundw
 case rel=>exact ⟨k+1,0,S,G,(zO),by go_num,rfl,K,yv,HA,HG,HM,HAC2⟩
 case measure=>simp [intOf];omega):p:=h
theorem ko {p:Prop} (h:p:=by
 have HAC2:J (Xn 0 S (L.drop (k+1))→Xn 0 [] L):=fun h=>HAC.out (yS)
 exact ky):p:=h
theorem kp {p:Prop} (h:p:=by
 go_wp2_with fail;go_ret2
 exact ⟨ta,10,rfl,fun h=>absurd h (zi),HM.out⟩):p:=h
theorem kx {p:Prop} (h:p:=by
 clear HAC;go_wp2_with fail;go_roundw
 case rel=>exact ⟨k+1,3,S,G,(zO),by go_num,rfl,K,yv,HA,HG,HM,HAC2⟩
 case measure=>simp [intOf];omega):p:=h
theorem yz3 {w:D} {v:Θ} {L:List Tk} {F:List Nat} (h:TkR w v L F) (hF:∀k∈F,k < w.heap.size) (hl:L.length≤110) (hz0':0 < L.length) (hz:∃R z,L=R++[z]∧z.k=122) (hat:∀t∈L,t.at_≤1000):
 Δ V 21 #[v] w (yo9 w L):=by
 obtain ⟨i0,hi,hz0,hz1,hz2⟩:=info_parts Tryz.infoB8;obtain ⟨A,cap,hv0,hcap⟩:=h.shape;subst hv0;have H:=Z h;have HF:=Z hF;have HZ:=Z hz;have HAT:=Z hat;have WH:J (∀(W:D) (u:Θ) (S G:List Nat),Arnd W u S G→S.length≤200→Δ V 54 #[u] W fun e w'=>∃v',e=C v'∧Arnd W v' (za5 S) G∧w'=W):=fun W u S G a b=>yx6 a b
 obtain ⟨n,hn⟩:∃n,L.length=n:=⟨_,rfl⟩;have HN:=Z hn;rw [hn] at hl hcap H hz0' ⊢;have hn':(n:Int)≤110:=K;clear h hF hz hat hn;go_in;go_wp2_with fail
 go_loopw [4,5,6] (fun u s i wr=>∃(k st:Nat) (S G:List Nat),k < n∧i=U Q k∧s=U Q st∧st≤3∧S.length≤k∧J (Arnd wr u S G)∧J (∀b∈G,w.heap.size≤b)∧J (Qd [] w wr)∧J (Xn st S (L.drop k)→Xn 0 [] L)) (fun _ _ i _=>n - (intOf i).toNat)
 case atStart=>exact ⟨0,0,[],[],K,rfl,rfl,K,ze,Sl.nil _ _ _,by show ∀b∈([]:List Nat),_;simp,Mod.refl _ _,fun h=>xQ⟩
 case round=>
  obtain ⟨k,st,S,G,hk,rfl,rfl,hst,hSk,HA,HG,HM,HAC⟩:=hrel;obtain ⟨A1,cap1,hv1,hcap1⟩:=Sl.shape HA.out;obtain ⟨m,hm⟩:∃m,S.length=m:=⟨_,rfl⟩;have HMM:=Z hm;rw [hm] at hv1 hcap1 hSk;subst hv1;clear hm;by_cases hlt:k < n
  ·have hlt':(k:Int) < n:=K;have hk0:(0:Int)≤k:=K;have hmi:(m:Int)≤110:=K;have hm200:¬(200:Int) < m:=K;have hkL:k < L.length:=zQ;obtain ⟨b,off,rfl,hbF,c0,-,c2⟩:=(H.out.mod HM.out (ze)).at k hkL;have HD:=Z (Ω hkL);have hbl:=HF.out b hbF;have HTA:=Z (HAT.out _ (Qh hkL))
   have HLAST:J (k+1=n→L[k].k=122):=fun e=>by
    obtain ⟨R,z,eL,ez⟩:=HZ.out;have e1:R.length=k:=by have:=congrArg β eL;rw [HN.out,Φ] at this;simp at this;omega
    have:L[k]=z:=by simp [eL,e1]
    rw [this,ez]
   generalize L[k]=t at *;obtain ⟨x,tn,ta⟩:=t;simp only at c0 c2 HTA HLAST;have hbr:b < wr.heap.size:=Nat.lt_of_lt_of_le hbl HM.out.size;rw [HD.out] at HAC;clear HD hbF hbl;obtain rfl | rfl | rfl | rfl:st=0∨st=1∨st=2∨st=3:=K
   ·as_aux_lemma=>
     have hx:x=33∨x=40∨x=115∨x=101∨x=48∨x=49∨x=118∨(x≠33∧x≠40∧x≠115∧x≠101∧x≠48∧x≠49∧x≠118):=K;rcases hx with rfl | rfl | rfl | rfl | rfl | rfl | rfl | hx
     ·have HAC2:J (Xn 0 (33::S) (L.drop (k+1))→Xn 0 [] L):=fun h=>HAC.out (yI)
      clear HAC;go_upto_region 12 with fail;go_wp2_with (at_builtin;refine YF _ rfl _ _ 123 rfl 5 i0 (.int χ 0) 1 1 ω hi hz0 hz1 hz2 rfl (zi) _ m (S.reverse.map by8) G rfl (xR) ⟨_,0,Γ⟩ 1 1 [.int χ 33] (zi) rfl rfl (zM) (xn) (zx) (K) ?_;intro v' w3 F3 hs3 hm3 hf3)
      have HA3:J (Arnd w3 v' (33::S) F3):=by
       exact ku
      have HM3:J (Qd [] w w3):=(HM.out.trans' (show Qd [] wr _ from zg)).trans hm3 (fun i hi h=>xS);have HG3:J (∀b∈F3,w.heap.size≤b):=fun b hb=>(hf3 b hb).elim (HG.out b) (fun h=>xU)
      clear hs3 hm3 hf3;go_wp2_with fail;go_roundw
      case rel=>exact ⟨k+1,0,_,F3,(zO),by go_num,rfl,K,xV,HA3,HG3,HM3,HAC2⟩
      case measure=>simp [intOf];omega
     ·have HAC2:J (Xn 0 (40::S) (L.drop (k+1))→Xn 0 [] L):=fun h=>HAC.out (yI)
      clear HAC;go_upto_region 12 with fail;go_wp2_with (at_builtin;refine YF _ rfl _ _ 123 rfl 5 i0 (.int χ 0) 1 1 ω hi hz0 hz1 hz2 rfl (zi) _ m (S.reverse.map by8) G rfl (xR) ⟨_,0,Γ⟩ 1 1 [.int χ 40] (zi) rfl rfl (zM) (xn) (zx) (K) ?_;intro v' w3 F3 hs3 hm3 hf3)
      have HA3:J (Arnd w3 v' (40::S) F3):=by
       exact ku
      have HM3:J (Qd [] w w3):=(HM.out.trans' (show Qd [] wr _ from zg)).trans hm3 (fun i hi h=>xS);have HG3:J (∀b∈F3,w.heap.size≤b):=fun b hb=>(hf3 b hb).elim (HG.out b) (fun h=>xU)
      clear hs3 hm3 hf3;go_wp2_with fail;go_roundw
      case rel=>exact ⟨k+1,0,_,F3,(zO),by go_num,rfl,K,xV,HA3,HG3,HM3,HAC2⟩
      case measure=>simp [intOf];omega
     ·exact kn
     ·exact kn
     ·exact km
     ·exact km
     ·exact km
     ·obtain ⟨x1,x2,x3,x4,x5,x6,x7⟩:=hx;have y0:((x:Int)==33)=false:=zo;have y1:((x:Int)==40)=false:=zo;have y2:((x:Int)==115)=false:=zo;have y3:((x:Int)==101)=false:=zo;have y4:((x:Int)==48)=false:=zo;have y5:((x:Int)==49)=false:=zo;have y6:((x:Int)==118)=false:=zo;exact kp
   ·as_aux_lemma=>
     have hx:x=38∨x=124∨x=94∨x=62∨x=61∨x=41∨x=122∨(x≠38∧x≠124∧x≠94∧x≠62∧x≠61∧x≠41∧x≠122):=K;rcases hx with rfl | rfl | rfl | rfl | rfl | rfl | rfl | hx
     ·exact ko
     ·exact ko
     ·exact ko
     ·exact ko
     ·exact ko
     ·cases S with
      | nil=>
       obtain rfl:m=0:=HMM.out.symm;exact kp
      | cons q S=>
       obtain ⟨m',rfl⟩:∃m',m=m'+1:=⟨m - 1,by have:=HMM.out;simp at this;omega⟩;have HMM':J (S.length=m'):=by show _=_;have:=HMM.out;simp at this;exact this
       obtain ⟨g,cap2,e1,hG,hc,hcap2,ha⟩:=Arnd.pop (by rw [←HMM.out] at HA;exact HA.out);rw [HMM'.out] at e1 ha;simp only [ψ] at e1;obtain ⟨rfl,-,rfl⟩:=e1;have HAP:=Z ha;clear ha hc hG hcap2;have hm0:(0:Int)≤m':=K;have HAC2:J (Xn 1 (za5 S) (L.drop (k+1))→Xn 0 [] L):=fun h=>HAC.out (yS)
       have hSm:S.length≤k:=by rw [HMM'.out];omega
       clear HAC;have WX:=Z (WH.out wr _ _ _ HAP.out (K));exact kq
     ·cases S with
      | nil=>
       obtain rfl:m=0:=HMM.out.symm;have HFIN:J (Xn 0 [] L):=HAC.out (by rw [acc1];simp);go_wp2_with fail;go_ret2;exact ⟨0,0,rfl,fun _=>HFIN.out,HM.out⟩
      | cons q S=>
       obtain ⟨m',rfl⟩:∃m',m=m'+1:=⟨m - 1,by have:=HMM.out;simp at this;omega⟩;have hm0:(0:Int)≤m':=K;have hme:(((m'+1:Nat):Int)==0)=false:=zo;exact kp
     ·obtain ⟨x1,x2,x3,x4,x5,x6,x7⟩:=hx;have y0:((x:Int)==38)=false:=zo;have y1:((x:Int)==124)=false:=zo;have y2:((x:Int)==94)=false:=zo;have y3:((x:Int)==62)=false:=zo;have y4:((x:Int)==61)=false:=zo;have y5:((x:Int)==41)=false:=zo;have y6:((x:Int)==122)=false:=zo;exact kp
   ·as_aux_lemma=>
     by_cases hx:x=118
     ·subst hx;have HAC2:J (Xn 3 S (L.drop (k+1))→Xn 0 [] L):=fun h=>HAC.out (by rw [acc2];simpa using h)
      exact kx
     ·have y0:((x:Int)==118)=false:=zo;exact kp
   ·as_aux_lemma=>
     have hx:x=118∨x=46∨(x≠118∧x≠46):=K;rcases hx with rfl | rfl | hx
     ·have HAC2:J (Xn 3 S (L.drop (k+1))→Xn 0 [] L):=fun h=>HAC.out (by rw [yL5];simpa using h)
      exact kx
     ·have HAC2:J (Xn 0 S (L.drop (k+1))→Xn 0 [] L):=fun h=>HAC.out (by rw [yL5];simpa using h)
      exact ky
     ·obtain ⟨x1,x2⟩:=hx;have y0:((x:Int)==118)=false:=zo;have y1:((x:Int)==46)=false:=zo;exact kp
  ·exact absurd hk hlt
open Go.RowKit
def XY (L:List Tk) (k:Nat):Nat:=k+((L.drop k).takeWhile (fun t=>t.k != 46)).length
theorem zM8 {L:List Tk} {k:Nat} (h:k < L.length) (hk:L[k].k≠46):XY L k=XY L (k+1):=by
 unfold XY;rw [Ω h,σ,if_pos (by simpa using hk)];simp;omega
theorem zM0 {L:List Tk} {k:Nat} (h:k < L.length) (hk:L[k].k=46):XY L k=k:=by
 unfold XY;rw [Ω h,σ,if_neg (zC)];simp
theorem zU0 {L:List Tk}:XY L L.length=L.length:=by
 unfold XY;rw [θ];simp
theorem yd8 {A B:List Tk} {d:Tk} (hA:∀t∈A,t.k≠46) (hd:d.k=46):XY (A++d::B) 0=A.length:=by
 unfold XY;rw [List.drop_zero,List.takeWhile_append_of_pos (by intro t ht;simpa using hA t ht),σ,if_neg (by simp [hd])];simp
theorem ym5 {w:D} {v:Θ} {L:List Tk} {F:List Nat} (h:TkR w v L F) (hl:L.length≤200):Δ V 39 #[v] w fun e w'=>e=C (U Q (XY L 0:Nat))∧w'=w:=by
 obtain ⟨A,cap,hv,hc⟩:=h.shape;subst hv;have H:=Z h;obtain ⟨n,hn⟩:∃n,L.length=n:=⟨_,rfl⟩;rw [hn] at H hl hc ⊢;have HN:=Z hn;have hn':(n:Int)≤200:=K;clear h hn;go_in;go_wp2_with fail
 go_loopw [3] (fun i wr=>∃k:Nat,i=U Q k∧k≤n∧J (XY L 0=XY L k)∧wr=w) (fun i _=>n - (intOf i).toNat)
 case atStart=>exact ⟨0,rfl,K,rfl,rfl⟩
 case round=>
  obtain ⟨k,rfl,hk,HS,hw⟩:=hrel;subst hw;by_cases hlt:k < n
  ·have hlt':(k:Int) < n:=K;have hk0:(0:Int)≤k:=K;have hkL:k < L.length:=zQ;obtain ⟨b,off,rfl,-,c0,-,-⟩:=H.out.at k hkL;have S1:J (L[k].k≠46→XY L k=XY L (k+1)):=zM8 hkL;have S2:J (L[k].k=46→XY L k=k):=zM0 hkL;generalize L[k]=t at *;obtain ⟨x,tn,ta⟩:=t;simp only at c0 S1 S2;have hbl:=I _ _ c0;by_cases q:x=46
   ·subst q;have e:=S2.out rfl;have HE:J (XY L 0=k):=HS.out.trans e;clear e S1 S2;go_wp2_with fail;go_ret;exact ⟨xX,rfl⟩
   ·have y0:((x:Int)==46)=false:=zo;have y1:((x:Int) != 46)=true:=yr;have HE:J (XY L 0=XY L (k+1)):=HS.out.trans (S1.out q);clear S1 S2;go_wp2_with fail;go_roundw
    case rel=>exact ⟨k+1,by go_num,K,HE,zp⟩
    case measure=>simp [intOf];omega
  ·obtain rfl:k=n:=K;have HE:J (XY L 0=k):=by show _=_;rw [HS.out,←HN.out,zU0]
   go_wp2_with fail;go_ret;exact ⟨xX,rfl⟩
theorem zx0 (x n:Nat) (hn:n≤40) (w:D):Δ V 7 #[U Q x,U Q n] w fun e w'=>e=C (Qn (decide (x < 2 ^ n)))∧w'=w:=by
 have SZ:=Z (zx6 n hn);generalize (2:Nat) ^ n=m at SZ ⊢;go_in;go_wp2_with fail;refine (SZ.out _).mono ?_;rintro e w1 ⟨rfl,rfl⟩;go_wp2_with fail
 all_goals
  go_ret;refine ⟨congrArg (fun b=>Qi (Qn b)) ?_,rfl⟩;refine Bool.eq_iff_iff.mpr ?_
  first
   | done
   | (simp;done)
   | (simp;omega)
open Go.RowKit
theorem yr4 (y:Nat):(y ^^^ 1)+2 *(y % 2)=y+1:=by
 have a:(y ^^^ 1) / 2=y / 2:=by rw [Nat.xor_div_two];simp
 have b:(y ^^^ 1) % 2=(y % 2) ^^^ (1 % 2):=Qf (n:=1);have c:y % 2=0∨y % 2=1:=K;rcases c with c | c
 ·rw [c] at b;have b':(y ^^^ 1) % 2=1:=b;omega
 ·rw [c] at b;have b':(y ^^^ 1) % 2=0:=b;omega
theorem ya7 (x v:Nat) (b:Bool):Xp x v b+2 ^ v *zj8 x v=x+2 ^ v *b.toNat:=by
 unfold Xp zj8;have T:x.testBit v=decide (x / 2 ^ v % 2=1):=Nat.testBit_eq_decide_div_mod_eq;split
 ·rename_i h
  rw [T] at h;subst h;by_cases q:x / 2 ^ v % 2=1
  ·simp [q]
  ·have q0:x / 2 ^ v % 2=0:=K;simp [q0]
 ·rename_i h
  have d:(x ^^^ 2 ^ v) / 2 ^ v=(x / 2 ^ v) ^^^ 1:=by rw [Nat.xor_div_two_pow,Nat.div_self (Nat.two_pow_pos v)]
  have m:(x ^^^ 2 ^ v) % 2 ^ v=x % 2 ^ v:=by rw [Qf,Nat.mod_self];simp
  have X:=Qj x (2 ^ v);have Y:=Qj (x ^^^ 2 ^ v) (2 ^ v);rw [d,m] at Y;have O:(x / 2 ^ v ^^^ 1)+2 *(x / 2 ^ v % 2)=x / 2 ^ v+1:=yr4 _;have M:=congrArg (2 ^ v *·) O;simp only [Nat.mul_add,Qb] at M;rw [T] at h;by_cases q:x / 2 ^ v % 2=1
  ·have hb:b=false:=by cases b<;>simp_all
   rw [q] at M ⊢;subst hb;simp only [Bool.toNat_false,Ql,Qb] at M ⊢;omega
  ·have q0:x / 2 ^ v % 2=0:=K;have hb:b=true:=by cases b<;>simp_all
   rw [q0] at M ⊢;subst hb;simp only [Bool.toNat_true,Ql,Qb] at M ⊢;omega
theorem yk0 (x v:Nat) (b:Bool):(x:Int)+((b.toNat:Nat) - (zj8 x v:Nat)) *pw v=(Xp x v b:Nat):=by
 have h:=ya7 x v b
 have h':((Xp x v b:Nat):Int)+pw v *(zj8 x v:Nat)=x+pw v *(b.toNat:Nat):=by
  unfold pw;exact_mod_cast h
 rw [Int.sub_mul,Int.mul_comm _ (pw v),Int.mul_comm _ (pw v)];omega
theorem zP9 (x v:Nat) (b:Bool) (hx:x < 65536) (hv:v < 16) (w:D):Δ V 55 #[U Q x,U Q v,U Q (b.toNat:Nat)] w fun e w'=>e=C (U Q (Xp x v b:Nat))∧w'=w:=by
 have VA:=Z (zr6 x v (K) (K) w);have SZ:=Z (zx6 v (K) w);have E:=Z (yk0 x v b);have hs:Xp x v b < 2 ^ 16:=Xb b hx hv;have hs0:((Xp x v b:Nat):Int) < 65536:=K;have P1:=zU8 v;have P2:pw v≤pw 16:=yr7 (K);have P3:pw 16=65536:=rfl;rw [P3] at P2;clear P3;have vb:zj8 x v≤1:=jg;have bb:b.toNat≤1:=by cases b<;>decide
 have e1:J (((2 ^ v:Nat):Int)=pw v):=Z rfl;have k1: -1≤((b.toNat:Nat):Int) - (zj8 x v:Nat)∧((b.toNat:Nat):Int) - (zj8 x v:Nat)≤1:=K;have k2:((b.toNat:Nat):Int) - (zj8 x v:Nat)= -1∨((b.toNat:Nat):Int) - (zj8 x v:Nat)=0∨((b.toNat:Nat):Int) - (zj8 x v:Nat)=1:=K
 have k3: -65536≤(((b.toNat:Nat):Int) - (zj8 x v:Nat)) *pw v∧(((b.toNat:Nat):Int) - (zj8 x v:Nat)) *pw v≤65536:=by
  rcases k2 with h | h | h<;>rw [h]<;>omega
 go_in;go_wp2_with fail;refine VA.out.mono ?_;rintro e w' ⟨rfl,rfl⟩;go_wp2_with fail;refine SZ.out.mono ?_;rintro e w' ⟨rfl,rfl⟩;show _;rw [e1.out];go_wp2_with fail;go_ret;exact ⟨by rw [←E.out];rfl,rfl⟩
def zd1 (L:List Tk):Nat:=L.foldl (fun x t=>if t.k=118 then Xp x t.n true else x) 0
theorem zF7:∀(L:List Tk) (x:Nat),(∀t∈L,t.n < 16)→x < 65536→L.foldl (fun x t=>if t.k=118 then Xp x t.n true else x) x < 65536
 | [],x,_,hx=>hx
 | t::L,x,h,hx=>by
  rw [τ];refine zF7 L _ (fun u hu=>h u (Qe _ hu)) ?_;split
  ·exact Xb (n:=16) true hx (h t List.mem_cons_self)
  ·exact hx
theorem zl8:∀(L:List Tk) (x u:Nat),(L.foldl (fun x t=>if t.k=118 then Xp x t.n true else x) x).testBit u=(x.testBit u || L.any (fun t=>t.k==118 && t.n==u))
 | [],x,u=>ze
 | t::L,x,u=>by
  rw [τ,zl8 L _ u,List.any_cons];by_cases q:t.k=118
  ·rw [if_pos q,XR];by_cases e:u=t.n
   ·simp [q,e]
   ·have e':(t.n==u)=false:=by rw [beq_eq_false_iff_ne];exact fun h=>e h.symm
    rw [if_neg e,e',Bool.and_false,Bool.false_or]
  ·have q':(t.k==118)=false:=by rw [beq_eq_false_iff_ne];exact q
   rw [if_neg q,q',Bool.false_and,Bool.false_or]
theorem zp5 {L:List Tk} {k:Nat} (hk:k < L.length) (x:Nat):(L.drop k).foldl (fun x t=>if t.k=118 then Xp x t.n true else x) x=(L.drop (k+1)).foldl (fun x t=>if t.k=118 then Xp x t.n true else x) (if L[k].k=118 then Xp x L[k].n true else x):=by
 rw [Ω hk,τ]
def zd0 (L:List Tk) (k x:Nat):Nat:=(L.drop k).foldl (fun x t=>if t.k=118 then Xp x t.n true else x) x
theorem zK5 {L:List Tk} {k:Nat} (hk:k < L.length) (x:Nat) (hv:L[k].k=118):zd0 L k x=zd0 L (k+1) (Xp x L[k].n true):=by
 unfold zd0;rw [zp5 hk,if_pos hv]
theorem zN4 {L:List Tk} {k:Nat} (hk:k < L.length) (x:Nat) (hv:L[k].k≠118):zd0 L k x=zd0 L (k+1) x:=by
 unfold zd0;rw [zp5 hk,if_neg hv]
theorem zZ3 {L:List Tk} (x:Nat):zd0 L L.length x=x:=by
 unfold zd0;rw [θ];rfl
theorem zG3 {w:D} {v:Θ} {L:List Tk} {F:List Nat} (h:TkR w v L F) (hl:L.length≤200) (hN:∀t∈L,t.n < 16):Δ V 23 #[v] w fun e w'=>e=C (U Q (zd1 L:Nat))∧w'=w:=by
 obtain ⟨A,cap,hv,hc⟩:=h.shape;subst hv;have H:=Z h;have HT:=Z hN;obtain ⟨n,hn⟩:∃n,L.length=n:=⟨_,rfl⟩;rw [hn] at H hl hc ⊢;have HN:=Z hn;have hn':(n:Int)≤200:=K;have PU:=Z zP9;have SL:=Z (fun x v (hx:x < 2 ^ 16) (hv:v < 16)=>@Xb x v 16 true hx hv);obtain ⟨B,hB⟩:∃B,zd1 L=B:=⟨_,rfl⟩;have HB:J (B=zd0 L 0 0):=by show B=_;rw [←hB];rfl
 rw [hB];clear h hn hN hB;go_in;go_wp2_with fail
 go_loopw [3,4] (fun o i wr=>∃k x:Nat,i=U Q k∧o=U Q x∧k≤n∧x < 65536∧J (B=zd0 L k x)∧wr=w) (fun _ i _=>n - (intOf i).toNat)
 case atStart=>exact ⟨0,0,rfl,rfl,K,K,HB,rfl⟩
 case round=>
  obtain ⟨k,x,rfl,rfl,hk,hx,HS,hw⟩:=hrel;subst hw;have hx':(x:Int) < 65536:=K;by_cases hlt:k < n
  ·have hlt':(k:Int) < n:=K;have hk0:(0:Int)≤k:=K;have hkL:k < L.length:=zQ;have ht:=HT.out L[k] (Qh hkL);obtain ⟨b,off,rfl,-,c0,c1,-⟩:=H.out.at k hkL;have S1:J (L[k].k=118→zd0 L k x=zd0 L (k+1) (Xp x L[k].n true)):=zK5 hkL x;have S2:J (L[k].k≠118→zd0 L k x=zd0 L (k+1) x):=zN4 hkL x;generalize L[k]=t at *;obtain ⟨c,tn,ta⟩:=t;simp only at c0 c1 S1 S2 ht;have hbl:=I _ _ c0;by_cases q:c=118
   ·subst q;have HE:J (B=zd0 L (k+1) (Xp x tn true)):=HS.out.trans (S1.out rfl);clear S1 S2;have hs:Xp x tn true < 65536:=SL.out x tn hx ht;go_wp2_with fail;refine (PU.out x tn true hx ht _).mono ?_;rintro e w' ⟨rfl,rfl⟩;generalize Xp x tn true=y at *;have hy':(y:Int) < 65536:=K;go_wp2_with fail;go_roundw
    case rel=>exact ⟨k+1,y,by go_num,rfl,K,hs,HE,zp⟩
    case measure=>simp [intOf];omega
   ·have y0:((c:Int)==118)=false:=zo;have HE:J (B=zd0 L (k+1) x):=HS.out.trans (S2.out q);clear S1 S2;go_wp2_with fail;go_roundw
    case rel=>exact ⟨k+1,x,by go_num,rfl,K,hx,HE,zp⟩
    case measure=>simp [intOf];omega
  ·obtain rfl:k=n:=K;have HE:J (B=x):=by show _=_;rw [HS.out,←HN.out,zZ3]
   go_wp2_with fail;go_ret;exact ⟨xX,rfl⟩
mutual
theorem yp9 {m:Nat}:∀{ts:List Tk} {x:Ex},Un ts x→(∀t∈ts,t.k=118→t.n < m)→zt4 m x
 | _,_,.con t h,_=>trivial
 | _,_,.var t h,hv=>hv t (ze) h
 | _,_,.not (ts:=ts) (x:=x) t h u,hv=>(yp9 u (fun s hs=>hv s (Qe _ hs)):zt4 m x)
 | _,_,.par t t' h h' u,hv=>zv0 u (fun s hs=>hv s (yJ))
 | _,_,.bnd t v vs d h1 h2 h3 h4 u,hv=>⟨fun y hy=>by
  rcases Qg.1 hy with rfl | hy
  ·exact hv v (ze) h2
  ·obtain ⟨s,hs,rfl⟩:=List.mem_map.1 hy
   exact hv s (yJ) (h3 s hs),yp9 u (fun s hs=>hv s (yJ))⟩
theorem zv0 {m:Nat}:∀{r:Nat} {ts:List Tk} {x:Ex},Fl r ts x→(∀t∈ts,t.k=118→t.n < m)→zt4 m x
 | _,_,_,.unit u,hv=>yp9 u hv
 | _,_,_,.up _ _ u,hv=>zv0 u hv
 | _,_,_,.left _ _ _ _ a b,hv=>⟨zv0 a (fun s hs=>hv s (yJ)),zv0 b (fun s hs=>hv s (yJ))⟩
 | _,_,_,.right _ a b,hv=>⟨zv0 a (fun s hs=>hv s (yJ)),zv0 b (fun s hs=>hv s (yJ))⟩
end
theorem zQ2 {L:List Tk} {n:Nat} (h:zd1 L < 2 ^ n):∀t∈L,t.k=118→t.n < n:=by
 intro t ht hk
 have hb:(zd1 L).testBit t.n=true:=by
  unfold zd1;rw [zl8,Nat.zero_testBit,Bool.false_or,List.any_eq_true];exact ⟨t,ht,zC⟩
 have h1:=Nat.ge_two_pow_of_testBit hb;rcases Qk t.n n with q | q
 ·exact q
 ·have:=Nat.pow_le_pow_right (n:=2) (K) q;omega
def Xk:Ex→Nat
 | .con _=>1
 | .var _=>1
 | .not x=>Xk x+1
 | .bin _ a b=>Xk a+Xk b+1
 | .bnd _ _ x=>Xk x+1
mutual
theorem ys1:∀{ts:List Tk} {x:Ex},Un ts x→Xk x≤ts.length
 | _,_,.con t h=>by simp [Xk]
 | _,_,.var t h=>by simp [Xk]
 | _,_,.not t h u=>by have:=ys1 u;simp [Xk];omega
 | _,_,.par t t' h h' u=>by have:=ye5 u;simp;omega
 | _,_,.bnd t v vs d h1 h2 h3 h4 u=>by have:=ys1 u;simp [Xk];omega
theorem ye5:∀{r:Nat} {ts:List Tk} {x:Ex},Fl r ts x→Xk x≤ts.length
 | _,_,_,.unit u=>ys1 u
 | _,_,_,.up _ _ u=>ye5 u
 | _,_,_,.left _ _ _ _ a b=>jP
 | _,_,_,.right _ a b=>jP
end
open Go.RowKit
def sgns:List Nat:=[61,62,94,124,38]
def yp2 (r:Nat):Nat:=sgns.getD r 0
theorem kz {p:Prop} (h:p:=by
 have h:r=0∨r=1∨r=2∨r=3∨r=4:=K
 rcases h with rfl | rfl | rfl | rfl | rfl<;>rfl):p:=h
theorem yg3 (r:Nat) (hr:r < 5) (w:D):(Instr.index 9 (ν ⟨#[61,62,94,124,38]⟩) (U Q (r:Int))).run V w=.ok (U χ (yp2 r:Nat)) w:=by
 rw [run_index_string (P:=V) w 9 _ Q _ κ];exact kz
theorem yH8 (w:D):(Builtin.len_ #[9] 3 #[ν ⟨#[61,62,94,124,38]⟩]).run V w=.ok (U Q 5) w:=by
 rw [run_len_string (P:=V) w 9 _ _ κ];rfl
def scG (sg:Nat) (L:List Tk) (k:Nat) (s:Int × Int × Int):Int × Int × Int:=(L.drop k).foldl (sc sg) s
theorem zi8 {sg:Nat} {L:List Tk} {k:Nat} (hk:k < L.length) (s:Int × Int × Int):scG sg L k s=scG sg L (k+1) (sc sg s L[k]):=by
 unfold scG;rw [Ω hk,τ]
theorem yt5 {sg:Nat} {L:List Tk} (s:Int × Int × Int):scG sg L L.length s=s:=by
 unfold scG;rw [θ];rfl
def XZ (L:List Tk) (r:Nat):Int:=zi0 L (sgns.drop r)
theorem zz2 {L:List Tk} {r:Nat} (hr:r < 5):XZ L r=if 0≤(scG (yp2 r) L 0 (0,-1,0)).2.1 then (scG (yp2 r) L 0 (0,-1,0)).2.1 else XZ L (r+1):=by
 exact kz
theorem yB8 {r:Nat} (hr:r < 5):yp2 r≠40∧yp2 r≠41∧yp2 r < 256∧(yp2 r=62↔r=1):=by
 have h:r=0∨r=1∨r=2∨r=3∨r=4:=K;rcases h with rfl | rfl | rfl | rfl | rfl<;>decide
theorem yd5 {sg:Nat} {L:List Tk} {k:Nat} (hk:k < L.length) (d a:Int) (h:L[k].k=40):scG sg L k (d,a,(k:Nat))=scG sg L (k+1) (d+1,a,((k+1:Nat):Int)):=by
 rw [zi8 hk];unfold sc;rw [if_pos h];rfl
theorem yk2 {sg:Nat} {L:List Tk} {k:Nat} (hk:k < L.length) (d a:Int) (h:L[k].k=41):scG sg L k (d,a,(k:Nat))=scG sg L (k+1) (d - 1,a,((k+1:Nat):Int)):=by
 rw [zi8 hk];unfold sc;rw [if_neg (K),if_pos h];rfl
theorem yf8 {sg:Nat} {L:List Tk} {k:Nat} (hk:k < L.length) (a:Int) (h0:L[k].k≠40) (h1:L[k].k≠41) (h:L[k].k=sg) (ha:a < 0∨sg≠62):scG sg L k (0,a,(k:Nat))=scG sg L (k+1) (0,(k:Nat),((k+1:Nat):Int)):=by
 rw [zi8 hk];unfold sc;rw [if_neg h0,if_neg h1,if_pos ⟨h,rfl,ha⟩];rfl
theorem ye4 {sg:Nat} {L:List Tk} {k:Nat} (hk:k < L.length) (d a:Int) (h0:L[k].k≠40) (h1:L[k].k≠41) (h:¬(L[k].k=sg∧d=0∧(a < 0∨sg≠62))):scG sg L k (d,a,(k:Nat))=scG sg L (k+1) (d,a,((k+1:Nat):Int)):=by
 rw [zi8 hk];unfold sc;rw [if_neg h0,if_neg h1,if_neg h];rfl
theorem kr {p:Prop} (h:p:=by
 clear SO SH ST SP HS;subst q2;subst q3;go_wp2_with fail;go_roundw
 case rel=>exact ⟨k+1,0,(k:Nat),by go_num,by first | rfl | go_num,by first | rfl | go_num,K,K,K,K,K,HE,zp⟩
 case measure=>simp [intOf];omega):p:=h
theorem kv {p:Prop} (h:p:=by
 go_wp2_with fail;go_roundw
 case rel=>exact ⟨k+1,dd,aa,by go_num,by first | rfl | go_num,by first | rfl | go_num,K,K,K,K,K,HE,zp⟩
 case measure=>simp [intOf];omega):p:=h
theorem zb1 {w:D} {v:Θ} {L:List Tk} {F:List Nat} (h:TkR w v L F) (hl:L.length≤200):Δ V 37 #[v] w fun e w'=>e=C (U Q (XZ L 0))∧w'=w:=by
 obtain ⟨A,cap,hv,hc⟩:=h.shape;subst hv;have H:=Z h;obtain ⟨n,hn⟩:∃n,L.length=n:=⟨_,rfl⟩;rw [hn] at H hl hc ⊢;have HN:=Z hn;have hn':(n:Int)≤200:=K;obtain ⟨B,hB⟩:∃B,XZ L 0=B:=⟨_,rfl⟩;have HB:J (B=XZ L 0):=hB.symm;rw [hB];clear h hn hB;go_in;go_wp2_with fail
 go_loopw [4] (fun i wr=>∃r:Nat,i=U Q r∧r≤5∧J (B=XZ L r)∧wr=w) (fun i _=>5 - (intOf i).toNat)
 case atStart=>exact ⟨0,rfl,K,HB,rfl⟩
 case round=>
  obtain ⟨r,rfl,hr,HR,hw⟩:=hrel;subst hw;by_cases hlt:r < 5
  ·have hlt':(r:Int) < 5:=K;have LS:=yH8 wr;have IX:=yg3 r hlt wr;obtain ⟨s0,s1,s2,-⟩:=yB8 hlt;have SS:=Z (zz2 (L:=L) hlt);generalize yp2 r=sg at *;go_wp2_with fail
   go_loopw [5,6,7] (fun a d i wi=>∃(k:Nat) (dd aa:Int),i=U Q k∧d=U Q dd∧a=U Q aa∧k≤n∧ -k≤dd∧dd≤k∧ -1≤aa∧aa≤k∧J (scG sg L 0 (0,-1,0)=scG sg L k (dd,aa,(k:Nat)))∧wi=wr) (fun _ _ i _=>n - (intOf i).toNat)
   case atStart=>exact ⟨0,0,-1,rfl,rfl,rfl,K,K,K,K,K,rfl,rfl⟩
   case round=>
    obtain ⟨k,dd,aa,rfl,rfl,rfl,hk,hd1,hd2,ha1,ha2,HS,hw⟩:=hrel;subst hw;by_cases hlk:k < n
    ·have hlk':(k:Int) < n:=K;have hk0:(0:Int)≤k:=K;have hkL:k < L.length:=by rw [HN.out];exact hlk
     obtain ⟨b,off,rfl,-,c0,-,-⟩:=H.out.at k hkL;have SO:=Z (yd5 (sg:=sg) hkL dd aa);have SH:=Z (yk2 (sg:=sg) hkL dd aa);have ST:=Z (yf8 (sg:=sg) hkL aa);have SP:=Z (ye4 (sg:=sg) hkL dd aa);generalize L[k]=t at *;obtain ⟨c,tn,ta⟩:=t;simp only at c0 SO SH ST SP;have hbl:=I _ _ c0;by_cases q0:c=40
     ·have HE:=Z (HS.out.trans (SO.out q0));clear SO SH ST SP HS;subst q0;go_wp2_with fail;go_roundw
      case rel=>exact ⟨k+1,dd+1,aa,by go_num,by first | rfl | go_num,by first | rfl | go_num,K,K,K,K,K,HE,zp⟩
      case measure=>simp [intOf];omega
     by_cases q1:c=41
     ·have HE:=Z (HS.out.trans (SH.out q1));clear SO SH ST SP HS;subst q1;go_wp2_with fail;go_roundw
      case rel=>exact ⟨k+1,dd - 1,aa,by go_num,by first | rfl | go_num,by first | rfl | go_num,K,K,K,K,K,HE,zp⟩
      case measure=>simp [intOf];omega
     have y0:((c:Int)==40)=false:=zo;have y1:((c:Int)==41)=false:=zo;by_cases q2:c=sg
     ·by_cases q3:dd=0
      ·by_cases q4:aa < 0
       ·have HE:J (scG sg L 0 (0,-1,0)=scG sg L (k+1) (0,(k:Nat),((k+1:Nat):Int))):=by
         show _=_;rw [HS.out,q3];exact ST.out q0 q1 q2 (.inl q4)
        exact kr
       ·have q4':0≤aa:=K;by_cases q5:sg=62
        ·have HE:=Z (HS.out.trans (SP.out q0 q1 (K)));clear SO SH ST SP HS;subst q2;subst q3;subst q5;go_wp2_with fail;go_roundw
         case rel=>exact ⟨k+1,0,aa,by go_num,by first | rfl | go_num,by first | rfl | go_num,K,K,K,K,K,HE,zp⟩
         case measure=>simp [intOf];omega
        ·have HE:J (scG sg L 0 (0,-1,0)=scG sg L (k+1) (0,(k:Nat),((k+1:Nat):Int))):=by
          show _=_;rw [HS.out,q3];exact ST.out q0 q1 q2 (.inr q5)
         have y2:((sg:Int) != 62)=true:=yr;exact kr
      ·have HE:=Z (HS.out.trans (SP.out q0 q1 (K)));have y2:(dd==0)=false:=by rw [beq_eq_false_iff_ne];exact q3
       clear SO SH ST SP HS;subst q2;exact kv
     ·have HE:=Z (HS.out.trans (SP.out q0 q1 (K)));have y2:((c:Int)==(sg:Int))=false:=zo;clear SO SH ST SP HS;exact kv
    ·obtain rfl:k=n:=K;have HE:J (scG sg L 0 (0,-1,0)=(dd,aa,((k:Nat):Int))):=by show _=_;rw [HS.out,←HN.out,yt5]
     have HF:J (B=if 0≤aa then aa else XZ L (r+1)):=by show _=_;rw [HR.out,SS.out,HE.out]
     clear HS HE SS;by_cases q:0≤aa
     ·have HG:J (B=aa):=by show _=_;rw [HF.out,if_pos q]
      clear HF;go_wp2_with fail;go_ret;exact ⟨by rw [HG.out];rfl,rfl⟩
     ·have HG:J (B=XZ L (r+1)):=by show _=_;rw [HF.out,if_neg q]
      clear HF;have q':aa < 0:=K;go_wp2_with fail;go_roundw
      case rel=>exact ⟨r+1,by go_num,K,HG,zp⟩
      case measure=>simp [intOf];omega
  ·obtain rfl:r=5:=K;have HE:J (B= -1):=HR.out;go_wp2_with fail;go_ret;exact ⟨xX,rfl⟩
open Go.RowKit
theorem zG0 {w:D} {v:Θ} {L:List Tk} {F:List Nat} (h:TkR w v L F) (hl:L.length≤200) (hN:∀t∈L,t.n < 16):Δ V 8 #[v] w fun e w'=>e=C (U Q (zd1 L:Nat))∧w'=w:=by
 have BI:=Z (zG3 h hl hN);clear h;generalize zd1 L=B at *;go_in;go_wp2_with fail;refine BI.out.mono ?_;rintro e w' ⟨rfl,rfl⟩;go_wp2_with fail;go_ret;exact ⟨rfl,rfl⟩
theorem zP8 (b:Bool) (w:D):Δ V 77 #[Qn b] w fun e w'=>e=C (U Q (b.toNat:Nat))∧w'=w:=by
 cases b
 ·go_in;go_wp2_with fail;go_ret;exact ⟨rfl,rfl⟩
 ·go_in;go_wp2_with fail;go_ret;exact ⟨rfl,rfl⟩
open Go.RowKit
def zn1 (t:List Bool) (v:Nat) (b:Bool):List Bool:=(η t.length).map fun x=>t.getD (Xp x v b) false
theorem yd1 {w:D} {va:Θ} {t:List Bool} {n v:Nat} {F:List Nat} (ht:Rv w va (t.map eb) F) (htl:t.length=2 ^ n) (hn:n≤16) (hv:v < n) (b:Bool):
 Δ V 78 #[va,U Q v,U Q (b.toNat:Nat)] w fun e w'=>∃v',e=C v'∧NewV 4 w ((zn1 t v b).map eb) w' v':=by
 obtain ⟨i0,hi,hz0,hz1,hz2⟩:=info_parts Tryz.infoB;obtain ⟨A,cap,rfl,hc⟩:=ht.shape;have HT:=Z ht;have h16:2 ^ n≤65536:=xo;have SB:J (∀x,x < 2 ^ n→Xp x v b < 2 ^ n):=fun x hx=>Xb b hx hv
 simp only [ε] at HT hc ⊢;obtain ⟨N,hN⟩:∃N,t.length=N:=⟨_,rfl⟩;have hNn:N=2 ^ n:=hN.symm.trans htl;unfold zn1;rw [hN] at HT hc ⊢;rw [←hNn] at h16 SB;have HN:=Z hN;have PU:=Z (fun x hx (W:D)=>zP9 x v b hx (K) W);clear ht hN hNn htl;obtain ⟨f,hf⟩:∃f:Nat→Bool,f=fun x=>t.getD (Xp x v b) false:=⟨_,rfl⟩
 have HF:J (∀x,f x=t.getD (Xp x v b) false):=fun x=>by rw [hf]
 rw [←hf];clear hf;have hN':(N:Int)≤65536:=K;obtain ⟨m,hm⟩:∃m,b.toNat=m:=⟨_,rfl⟩;rw [hm] at PU ⊢;clear hm;go_in;go_wp2_with fail
 go_loopw [7,8] (fun o i wr=>∃k:Nat,k≤N∧i=U Q k∧J (NewV 4 w (((η k).map f).map eb) wr o)) (fun _ i _=>N - (intOf i).toNat)
 case atStart=>exact ⟨0,K,rfl,NewV.nil _ (zg)⟩
 case round=>
  obtain ⟨k,hk,rfl,HV⟩:=hrel;by_cases hlt:k < N
  ·have hlt':(k:Int) < N:=K;obtain ⟨Fo,so,mo,fo⟩:=HV.out;obtain ⟨Ao,capo,rfl,hcapo⟩:=so.shape;have e0:(((η k).map f).map eb).length=k:=ze;rw [e0] at so hcapo HV ⊢;have SO:=Z so;have MO:=Z mo;have FO:=Z fo;have LO:=Z e0;clear so mo fo hcapo e0;have hyN:=SB.out k hlt;have hy1:Xp k v b < t.length:=by rw [HN.out];exact hyN
   obtain ⟨b1,o1,rfl,d0⟩:=HT.out.at (Xp k v b) (by rw [ε];exact hy1);have hb1:=I w _ d0;simp only at hb1;have d1:=(MO.out.cell (a:=⟨b1,o1+Xp k v b,Γ⟩) hb1 (ze)).trans d0;clear d0;rw [List.getElem_map] at d1;have FK:J (f k=t[Xp k v b]):=by show _=_;rw [HF.out,List.getD_eq_getElem?_getD,μ hy1];rfl
   unfold eb at d1;generalize t[Xp k v b]=c at *;have PX:=Z (PU.out k (K));generalize Xp k v b=y at *;have hbl:=I wr _ d1;simp only at hbl;have hy0:(0:Int)≤y:=K;have hy2:(y:Int) < N:=K;go_wp2_with fail;refine (PX.out _).mono ?_;rintro e w' ⟨rfl,rfl⟩;go_wp2_with (at_builtin;refine YF _ rfl _ _ 47 rfl 4 i0 (.bool false) 1 1 Tryz.underlying47 hi hz0 hz1 hz2 rfl (zi) _ k (((η k).map f).map eb) Fo rfl (SO.out.mod (S:=[]) (zg) (ze)) ⟨_,0,Γ⟩ 1 1 [eb c] (zi) rfl rfl (zM) (yi) (zx) (K) ?_;intro v5 w5 F5 hs5 hm5 hf5;have N5:=Z (NewV.app (l:=((η k).map f).map eb) (l2:=[eb c]) MO.out FO.out LO.out rfl (zg) hs5 hm5 hf5);obtain ⟨a5,cap5,rfl,_⟩:=hs5.shape;clear hs5 hm5 hf5);go_wp2_with fail;go_roundw
   case rel=>exact ⟨k+1,K,by go_num,jQ⟩
   case measure=>simp [intOf];omega
  ·obtain rfl:k=N:=K;go_wp2_with fail;go_ret;exact ⟨_,rfl,HV.out⟩
open Go.RowKit
theorem yl8 {t:List Nat} {a:Nat} (ha:a≤t.length):(YL t a).1.at_≤t.length:=by
 have h:=(zh6 ha).2;unfold YL;cases t[YK t a]? with
 | none=>exact h
 | some c=>simp only;split<;>exact h
theorem yl2 {t:List Nat}:∀(d a:Nat),a≤t.length→t.length - a≤d→(zj0 t a).length≤d+1∧∀u∈zj0 t a,u.at_≤t.length:=by
 intro d
 induction d with
 | zero=>
  intro a ha hd;by_cases h:(YL t a).1.k=122
  ·rw [XG h];exact ⟨ze,fun u hu=>jR⟩
  ·have hl:=zc4 ha;have:=hl.2.2 h;omega
 | succ d ih=>
  intro a ha hd;by_cases h:(YL t a).1.k=122
  ·rw [XG h];exact ⟨ze,fun u hu=>jR⟩
  ·have hl:=zc4 ha;have h2:=hl.2.2 h;obtain ⟨i1,i2⟩:=ih (YL t a).2 hl.2.1 (K);rw [XL ha h];refine ⟨zj,fun u hu=>?_⟩;rcases Qg.1 hu with rfl | hu
   ·exact yl8 ha
   ·exact i2 u hu
theorem ym8:∀(ts:List Tk) (z:Tk) (st:Nat) (S:List Nat),(∀t∈ts,t.k≠122)→Xn st S (ts++[z])→∀t∈ts++[z],t.k≠98:=by
 intro ts
 induction ts with
 | nil=>
  intro z st S _ h t ht;simp at ht;subst ht;simp only [List.nil_append] at h;unfold Xn at h
  repeat' split at h
  all_goals first | exact h.elim | omega
 | cons y ts ih=>
  intro z st S hn h t ht;have hy:=hn y (ze);have ih':=fun st S h=>ih z st S (fun u hu=>hn u (zY)) h
  rw [List.cons_append] at h ht;unfold Xn at h
  have key:y.k≠98∧∃st S,Xn st S (ts++[z]):=by
   repeat' split at h
   all_goals first | exact h.elim | exact ⟨K,_,_,h⟩ | exact absurd h.1 hy
  rcases Qg.1 ht with rfl | ht
  ·exact key.1
  ·obtain ⟨_,st,S,hh⟩:=key;exact ih' st S hh t ht
def Of29 (w:D) (s:ByteArray) (e:Ending) (w':D):Prop:=
 ∃(R:List Tk) (z:Tk) (v:Θ) (F:List Nat) (a c:Nat),zj0 (YT s) 0=R++[z]∧z.k=122∧(∀u∈R,u.k≠122)∧(∀u∈R,u.n < 16)∧R.length≤s.size∧e=C (Qm #[v,U Q a,U Q c])∧TkR w' v R F∧(∀k∈F,w.heap.size≤k)∧Qd [] w w'∧(c=0→Xn 0 [] (R++[z]))
theorem TkR.init {w:D} {A:Option Addr} {n cap:Nat} {R:List Tk} {z:Tk} {F:List Nat} (h:TkR w (ζ A n cap) (R++[z]) F):TkR w (ζ A R.length cap) R F:=by
 obtain ⟨A',cap',e,hc,hr⟩:=h;simp only [ψ] at e;obtain ⟨rfl,-,rfl⟩:=e;simp only [Φ,Qc] at hc hr;refine ⟨A,cap,rfl,K,fun h0=>?_⟩;obtain ⟨b,off,ea,hb,hi⟩:=hr (K);refine ⟨b,off,ea,hb,fun i hl=>?_⟩;have:=hi i (K);rw [List.getElem_append_left hl] at this;exact this
theorem yp1 (s:ByteArray) (hs:s.size≤100) (w:D):Δ V 6 #[ν s] w (Of29 w s):=by
 obtain ⟨R,z,eT,hz,hR⟩:=zU5 (t:=YT s) (a:=0) (K);have TO:=Z (yb8 s hs w);have LN:=yl2 (t:=YT s) s.size 0 (K) (by rw [zd7];omega);have LT:=yI5 (t:=YT s) (a:=0) (K);rw [zd7] at LN;rw [eT] at TO LN LT;have LR:R.length≤s.size:=by have:=LN.1;rw [Φ] at this;simp at this;omega
 have WR:J (∀W v F,TkR W v (R++[z]) F→(∀k∈F,k < W.heap.size)→Δ V 21 #[v] W (yo9 W (R++[z]))):=fun W v F h hF=>yz3 h hF (xP) (by rw [Φ];simp) ⟨R,z,rfl,hz⟩ (fun t ht=>by have:=LN.2 t ht;omega)
 have FIN:J (∀(w':D) (v:Θ) (F:List Nat) (a c:Nat),TkR w' v R F→(∀k∈F,w.heap.size≤k)→Qd [] w w'→(c=0→Xn 0 [] (R++[z]))→Of29 w s (C (Qm #[v,U Q a,U Q c])) w'):=fun w' v F a c h1 h2 h3 h4=>⟨R,z,v,F,a,c,eT,hz,hR,fun u hu=>LT u (zY),LR,rfl,h1,h2,h3,h4⟩
 have hs0:(s.size:Int)≤100:=K;clear LN LT hz hR eT;go_in;go_wp2_with fail;refine TO.out.mono ?_;rintro e w1 ⟨v,rfl,F,sl,m1,hF⟩;obtain ⟨A,cap,rfl,hcap⟩:=sl.shape;have TK:=TkR.of_sl sl;have HL:=Z sl.lt;have HF:=Z hF;rw [Φ,Qc] at TK hcap ⊢;have TK:=Z TK;have M1:=Z m1;clear sl m1 hF;generalize hr:R.length=r at *;have HR:=Z hr;have hr0:(r:Int)≤100:=K;have hc0:(r:Int)+1≤cap:=K;clear hr;go_wp2_with fail;refine (WR.out w1 _ F TK.out HL.out).mono ?_;rintro e w2 ⟨a,c,rfl,hac,m2⟩;have M2:=Z (M1.out.trans' m2);have TK2:=Z (TK.out.mod m2 (ze)).init;rw [HR.out] at TK2;have HAC:=Z hac;clear m2 hac;go_wp2_with fail;go_ret3;exact FIN.out _ _ _ _ _ TK2.out HF.out M2.out HAC.out
end Go.Proofs.YtbnpoapmnkfhkaaGreatDoor
