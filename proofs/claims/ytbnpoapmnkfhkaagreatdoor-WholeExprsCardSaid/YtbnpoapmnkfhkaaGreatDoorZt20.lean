import Derived.Test.YtbnpoapmnkfhkaaGreatDoorZt18
import Derived.Test.YtbnpoapmnkfhkaaGreatDoorZt19
set_option maxRecDepth 100000
set_option maxHeartbeats 8000000
set_option linter.unusedVariables false
set_option linter.unusedSimpArgs false
namespace Go.Proofs.YtbnpoapmnkfhkaaGreatDoor
open List renaming replicate → s, take_append_drop → Q, getElem?_eq_getElem → O, getD_eq_getElem?_getD → Φ, getElem?_eq_some_iff → Ξ, take_left' → Θ, drop_left' → Δ, length_append → χ, length_eq_zero_iff → σ, mem_iff_getElem? → ξ, getElem_mem → Qb, length_replicate → Qg, zipWith_append → Qi, mem_cons → Qj, drop_replicate → Qk, take_replicate → Ql, replicate_succ → Qm, map_append → Qv, mem_filter → Qz, headD_cons → QA, nodup_nil → QE, mem_range → QG, zipWith → QJ
open Go.Lib renaming hid → Z
open Go.Value renaming int → Y, pointer → Ψ, slice → Qc, tuple → QM
open Nat renaming testBit_two_pow → X, testBit_or → U, pow_succ → H, lt_of_le_of_lt → E, testBit_and → C, or_lt_two_pow → B, sub_self → Ω, two_pow_pos → Γ, lt_or_ge → τ, testBit_lt_two_pow → π, eq_of_testBit_eq → ν, pow_le_pow_right → μ, pow_lt_pow_right → κ, testBit_two_pow_sub_one → ε, lt_of_lt_of_le → δ, lt_pow_two_of_testBit → β, testBit_xor → Qe, le_refl → Qf, add_sub_cancel → Qo, zero_add → Qq, mod_eq_of_lt → Qr, zero_testBit → Qs, le_add_right → Qt, div_le_self → Qy, min_eq_left → QD, le_trans → QH, mul_two → QK
open Go.Proofs.YtbnpoapmnkfhkaaGreatDoor renaming zc → V, Mod → ζ
open Go.Proofs.Tryz renaming prog → K, results115 → Qw
open Bool renaming eq_iff_iff → J, false_eq_true → γ, or_eq_true → Qx
open Classical renaming byContradiction → I
open Go.Ending renaming returned → G
open Go.IntKind renaming u32 → ω, i64 → ι, u8 → θ
open Option renaming some → ψ, none → ρ
open BitVec renaming ofInt → φ, ofInt_natCast → Qh, toNat_ofNat → Qn, ofNat → QI
open Go renaming World → η, Calls → Qa
open Option.some renaming inj → Qd
open Go.RowKit
theorem zM6 {P:Program} {k:TypeId} {R:Value→Option (DataW Unit × List MemPlace)} {w w':η} {b r n:Nat} {D:DataW Unit} {left:Lit→Bool} {cnt:Nat} {S:List Nat} (h:w.ranges P k R b r n D left cnt) (m:ζ S w w') (hb':b∉S) (hr':r∉S):w'.ranges P k R b r n D left cnt:=by
 have h1:=h.owns.lt;have h2:=h.lt;obtain ⟨es,clock,since,seen,c0,hb,F,hs,hD,hr,rest⟩:=h;exact ⟨es,clock,since,seen,c0,(m.block b h1 hb').trans hb,F,hs,hD,(m.block r h2 hr').trans hr,rest⟩
def CollN (D:DataW Unit) (left:Lit→Bool) (l:List Nat):Prop:=l.Nodup∧∀id:Nat,id∈l↔(Maps.has D (.int ω id)=true∧left (.int ω id)=false)
theorem CollN.start (D:DataW Unit):CollN D (Maps.has D) []:=⟨QE,fun x=>by cases Maps.has D (.int ω x)<;>simp⟩
theorem CollN.step {D:DataW Unit} {left:Lit→Bool} {l:List Nat} (h:CollN D left l) {x:Nat} {y:DataW Unit} (hlk:left (.int ω x)=true) (hat:∀zd,D.atKey (.int ω x) zd=y):CollN D (fun z=>left z && !z.sameKey (.int ω x)) (l++[x]):=by
 have hhas:Maps.has D (.int ω x)=true:=Maps.has_true_of_atKey hat;have hnew:x∉l:=fun hx=>by have:=((h.2 x).1 hx).2;rw [hlk] at this;cases this
 refine ⟨List.nodup_append.2 ⟨h.1,ze,fun a ha b hb=>by simp at hb;subst hb;exact fun e=>hnew (e▸ha)⟩,fun y=>?_⟩;by_cases hy:y=x
 ·subst hy;simp [hhas,Lit.sameKey]
 ·have hy':¬(y:Int)=(x:Int):=V;simp [h.2 y,hy,hy',Lit.sameKey]
def eu (x:Nat):Value:=Y ω (x:Int)
theorem Tryz.infoU:(Tryz.prog.info? 42).map (fun i=>(i.zero,i.size,i.bytes))=ψ (ψ (Y ω 0),1,4):=by kernel_rfl
def yH3 (w:η) (L:List Rc) (ts:List (Nat × Tr)) (e:Ending) (w':η):Prop:=
 ∃A cap,∃l:List Nat,e=G (Qc A l.length cap)∧l.Nodup∧(∀id,id∈l↔Xm L ts id)∧ζ [] w w'
theorem yv6 {w:η} {b n:Nat} {L:List Rc} {room:Nat} {F:List Nat} (h:IsSt w b n L room F) (hL:L.length≤1048576) (hnd:L.Nodup) {A:Option Addr} {k cap:Nat} {es:List Ed} (hes:EdRow w A k cap es) {ts:List (Nat × Tr)} (hts:ze2 L es ts)
 (hk:k≤100000) (hsz:zn8 ts≤1000000) (hfew:∀l:List Nat,l.Nodup→(∀id∈l,Xm L ts id)→l.length≤12):
 Qa K 175 #[Ψ (ψ ⟨b,0,ρ⟩),Qc A k cap] w (yH3 w L ts):=by
 have RC:=Z (zt7 h hL hnd hes hts hk hsz);have HFEW:=Z hfew;have hcap:=hes.2.1;obtain ⟨i0,hi,hz0,hz1,hz2⟩:=info_parts Tryz.infoU;clear h hes hts hnd hfew;go_in;go_wp2_with fail;refine RC.out.mono ?_;rintro e w1 ⟨bm,nm,rfl,⟨D,hown,hD1,hD2,hD3⟩,hnm,hge,m1⟩;have M1:=Z m1;have HD:=Z hD2;have hsz1:=m1.size;clear m1 RC hD2 hD1 hD3;go_wp2_with (at_range;refine Go.wpList_range_own _ rfl _ 272 rfl 42 3 keyU32 Tryz.underlying272 _ bm nm D rfl hown ?_;intro w2 hrg0 hg0 hs0)
 go_frame
 obtain ⟨r,hr⟩:∃r,w1.heap.size=r:=⟨_,rfl⟩;rw [hr] at hrg0 hs0 ⊢;have M2:Hid (ζ [] w w2):=M1.out.trans' ((Mod.refl [] w1).grown hg0 (ze));have hrw:w.heap.size≤r:=V;clear hown hg0
 go_loopw [5] (fun v wr=>∃(left:Lit→Bool) (cnt:Nat) (l F':List Nat),wr.ranges K 42 (plainElem K 3) bm r nm D left cnt∧Hid (CollN D left l)∧Hid (Sl wr 42 1 v l.length (l.map eu) F')∧Hid (∀k∈F',w.heap.size≤k∧k≠r∧k≠bm)∧Hid (ζ [] w wr)) (fun _ wr=>wr.rangeLeft bm r)
 case atStart=>exact ⟨_,_,[],[],hrg0,CollN.start D,Sl.nil _ _ _,by intro k hk;simp at hk,M2⟩
 case round=>
  obtain ⟨left,cnt,l,F',hrg,HC,HS,HF,HM⟩:=hrel;have HL:Hid (l.length≤12):=HFEW.out l HC.out.1 (fun id h=>(HD.out id).2 ((HC.out.2 id).1 h).1);have hbl:=hrg.owns.lt;have hrl:=hrg.lt;obtain ⟨Ao,capo,rfl,hcapo⟩:=HS.out.shape;go_wp2_with (at_next;refine Go.wpList_next_ranges_ii _ rfl _ rfl 42 3 ω ι keyU32 Tryz.underlying42 Tryz.underlying3 bm r nm D left cnt rfl hrg ?_ ?_)
  ·intro hc0 hl0
   have hmem:∀id,id∈l↔Xm L ts id:=fun id=>by
    rw [HC.out.2 id,HD.out id,hl0];simp
   have HMEM:=Z hmem;rcases Nat.eq_zero_or_pos l.length with h0 | h0
   ·have hnil:l=[]:=List.eq_nil_of_length_eq_zero h0;subst hnil;have SN:=Z (zX3 (w:=wr) Ao capo);clear hmem hrg hbl hrl h0 hcapo;simp only [List.length_nil];go_wp2_with fail;refine SN.out.mono ?_;rintro e w' ⟨rfl,rfl⟩;go_wp2_with fail;go_ret;exact ⟨Ao,capo,[],rfl,QE,HMEM.out,HM.out⟩
   ·obtain ⟨g,cap',e,hF',_⟩:=HS.out.pos h0
    have hU:U32s wr g 0 l.length:=fun i hi=>by
     have hs:=HS.out;rw [e] at hs;obtain ⟨c1,c2,_⟩:=hs.at i (V);rw [List.getElem?_map,O hi] at c1;refine ⟨l[i],?_,by rw [Qq];exact c1,by rw [Qq];exact c2⟩;have hx:=(HMEM.out l[i]).1 (Qb _);obtain ⟨x,hx1,S,hS,hr⟩:=hx;rcases hr.ge with ⟨_,_,h⟩ | ⟨_,h⟩<;>omega
    simp at e;obtain ⟨rfl,rfl⟩:=e;have SO:=Z (yK1 g 0 l.length capo HL.out hcapo hU);have hgw:=(HF.out g (by simp [hF'])).1;obtain ⟨N,hN⟩:∃N,l.length=N:=⟨_,rfl⟩;rw [hN] at SO hcapo h0 ⊢;have HNL:=Z hN;clear hmem hrg hbl hrl hU hF' hN;go_wp2_with fail;refine SO.out.mono ?_;rintro e w' ⟨rfl,hm⟩;have HM2:=Z (HM.out.trans hm (zI));clear hm;go_wp2_with fail;go_ret;exact ⟨_,capo,l,by rw [HNL.out];rfl,HC.out.1,HMEM.out,HM2.out⟩
  ·intro x c w3 cnt3 hwx hwc hlk hat hrg3 hlt3 hg3 hs3 hen
   obtain ⟨n,rfl,hn32⟩:∃n:Nat,x=(n:Int)∧n≤4294967295:=by
    have h1:IntKind.u32.min=0:=rfl;have h2:IntKind.u32.max=4294967295:=rfl;simp [Lit.wf,h1,h2] at hwx;exact ⟨x.toNat,V,V⟩
   have m3:ζ [r] wr w3:=(Mod.refl [r] wr).grown hg3 (by intro k hk _;simp at hk;simp [hk]);have HC3:=Z (HC.out.step hlk hat);have HS3:=Z (HS.out.mod m3 (fun k hk=>by simp;exact (HF.out k hk).2.1));have HM3:=Z (HM.out.trans m3 (zI));have HRO:=Z hrg;have HR3:=Z hrg3;have HLT:=Z hlt3;obtain ⟨N,hN⟩:∃N,l.length=N:=⟨_,rfl⟩;have HLL:Hid (∀q,(l.map eu).length=q→q=N):=fun q h=>by rw [←h,List.length_map];exact hN
   rw [hN] at HS3 HL hcapo ⊢;have HNL:=Z hN;have hN12:=HL.out;clear hrg hrg3 hlt3 hg3 hs3 m3 hwx hwc hlk hat hrl hbl hN;go_wp2_with (at_builtin;refine YF _ rfl _ _ 210 rfl 42 i0 (.int ω 0) 1 4 Tryz.underlying210 hi hz0 hz1 hz2 rfl (zi) _ N (l.map eu) F' rfl (HS3.out.mod (S:=[]) (zg) (ze)) ⟨_,0,ρ⟩ 1 1 [eu n] (zi) rfl rfl (zM) (yi) (zx) (V) ?_;intro v5 w5 F5 hs5 hm5 hf5);have hm35:ζ F' w3 w5:=((Mod.refl F' w3).alloc (.cells #[Y ω n] 42)).trans' hm5;have hr5:=zM6 HR3.out hm35 (fun h=>(HF.out _ h).2.2 rfl) (fun h=>(HF.out _ h).2.1 rfl);refine ⟨⟨_,cnt3,l++[n],F5,hr5,HC3.out,?_,?_,HM3.out.trans hm35 (by intro i hi h;have:=(HF.out i h).1;omega)⟩,?_⟩
   ·show Sl _ _ _ _ _ _ _;rw [χ,HNL.out,Qv];exact hs5
   ·show ∀k∈F5,_;intro k hk;rcases hf5 k hk with h | h
    ·exact HF.out k h
    ·have h1:=HR3.out.lt;have h2:=HR3.out.owns.lt;have h3:=HM3.out.size;simp at h;exact ⟨V,V,V⟩
   ·rw [hr5.left_eq,HRO.out.left_eq];exact HLT.out
theorem zo1 {w:η} {b n:Nat} {L:List Rc} {room:Nat} {F:List Nat} (h:IsSt w b n L room F) (hL:L.length≤1048576) (hn:n≤16) (f:Nat) (h1:1≤f) (h5:f≤5) (e:Ed) (l:Nat) (hl:l≤n) (hP:LeadsP L f e l n):
 Qa K 111 #[Ψ (ψ ⟨b,0,ρ⟩),Y θ f,edv e,Y ι l] w fun e w'=>e=G (Y θ 0)∧ζ [] w w':=by
 have LD:Hid (∀W,ζ [] w W→_):=fun W m=>YI (h.mod m (ze)) hL hn f h1 h5 e l hl hP
 have VA:Hid (∀W',ζ [] w W'→Qa K 67 #[Ψ (ψ ⟨b,0,ρ⟩)] W' fun e w'=>e=G (Y ι n)∧w'=W'):=fun W' m=>by
  obtain ⟨ba,bi,Fa,c0,_⟩:=(h.mod m (ze)).own;exact YH b n W' c0
 have IF:=Z (YZ f h1 h5);have hl':(l:Int)≤n:=V;obtain ⟨t,a⟩:=e;unfold edv at *;simp only at LD ⊢;obtain ⟨gk,hgk⟩:∃gk,w.heap.size=gk:=⟨_,rfl⟩;clear h hP;go_in;go_wp2_with fail;refine (IF.out _).mono ?_;rintro e w1 ⟨rfl,rfl⟩;go_wp2_with fail;refine (VA.out _ (zg)).mono ?_;rintro e w1 ⟨rfl,rfl⟩;go_wp2_with fail;refine (LD.out _ (zg)).mono ?_;rintro e w2 ⟨rfl,m2⟩;have M2:=Z (Mod.trans' (show ζ [] w _ from zg) m2);clear m2;go_wp2_with fail;go_ret;exact ⟨rfl,M2.out⟩
theorem ze5 {w:η} {b n:Nat} {L:List Rc} {room:Nat} {F:List Nat} (h:IsSt w b n L room F) (hL:L.length≤1048576) (hnd:L.Nodup) (hn:n≤16) (f:Nat) (h1:1≤f) (h5:f≤5) (e:Ed) (l:Nat) (hl:l≤n) (hP:LeadsP L f e l n) {x:Nat × Tr} (hR:RepE L f e x) (hsz:tsz x.2≤1000000) (hfew:(dis [] (nds x.2)).length≤12):
 Qa K 151 #[Ψ (ψ ⟨b,0,ρ⟩),Y θ f,edv e,Y ι l] w fun e w'=>e=G (QM #[Y ι (dis [] (nds x.2)).length,Y θ 0])∧ζ [] w w':=by
 have MY:Hid (∀W,ζ [] w W→_):=fun W m=>zo1 (h.mod m (ze)) hL hn f h1 h5 e l hl hP
 have few:∀l:List Nat,l.Nodup→(∀id∈l,Xm L [(f,x.2)] id)→l.length≤(dis [] (nds x.2)).length:=fun l hl hm=>
  XQ (fun id S=>Rep L f id S) (fun a a' b h k=>Rep.inj hnd h k) hl (fun id hid=>by
   obtain ⟨y,hy,S,hS,hr⟩:=hm id hid;simp at hy;subst hy
   exact ⟨S,by rw [zp9];exact .inr hS,hr⟩)
 have RE:Hid (∀(W:η) (g:Nat),ζ [] w W→Blk W g #[Y θ e.t,Y ω e.a] 44→Qa K 175 #[Ψ (ψ ⟨b,0,ρ⟩),Qc (ψ ⟨g,0,ρ⟩) 1 1] W fun e' w'=>∃A cap,e'=G (Qc A (dis [] (nds x.2)).length cap)∧ζ [] W w'):=fun W g m hb=>by
  refine (yv6 (h.mod m (ze)) hL hnd (A:=ψ ⟨g,0,ρ⟩) (k:=1) (cap:=1) (es:=[e]) ⟨rfl,V,fun i hi=>?_⟩ (ts:=[(f,x.2)]) ⟨rfl,fun i h1 h2=>?_⟩ (V) (by rw [zE3];exact hsz) (fun l hl hm=>QH (few l hl hm) hfew)).mono ?_
  ·obtain rfl:i=0:=by simpa using hi
   exact ⟨g,0,rfl,hb.lt,hb.cells2.1,hb.cells2.2⟩
  ·obtain rfl:i=0:=by simpa using h1
   exact hR.a
  ·rintro e' w' ⟨A,cap,l,rfl,hl,hm,hmod⟩
   have e:l.length=(dis [] (nds x.2)).length:=yq0 hnd hR.a hl (fun id=>by
    rw [hm id];constructor
    ·rintro ⟨y,hy,h⟩;simp at hy;subst hy;exact h
    ·intro h;exact ⟨(f,x.2),ze,h⟩)
   exact ⟨A,cap,by rw [e],hmod⟩
 have hN12:=hfew;generalize (dis [] (nds x.2)).length=N at *;obtain ⟨t,a⟩:=e;unfold edv at *;simp only at MY RE ⊢;obtain ⟨gk,hgk⟩:∃gk,w.heap.size=gk:=⟨_,rfl⟩;clear h hP hR few hsz hnd hfew;go_in;go_wp2_with fail;refine (MY.out _ (zg)).mono ?_;rintro e w2 ⟨rfl,m2⟩;have M2:=Z (Mod.trans' (show ζ [] w _ from zg) m2);have BR:=(Blk.new' w _ _ gk hgk.symm).mod m2 (ze);have hbl:=BR.lt;obtain ⟨e0,e1⟩:=BR.cells2;obtain ⟨gs,hgs⟩:∃gs,w2.heap.size=gs:=⟨_,rfl⟩;have hks:gk < gs:=V;have hks1:¬gk=gs:=V;clear m2 BR hgk MY;go_wp2_with fail;refine (RE.out _ gs (M2.out.trans' (show ζ [] w2 _ from zg)) (Blk.new' w2 _ _ gs hgs.symm)).mono ?_;rintro e w3 ⟨A,cap,rfl,m3⟩;have M3:=Z ((M2.out.trans' (show ζ [] w2 _ from zg)).trans' m3);clear m3;go_wp2_with fail;go_ret2;exact ⟨rfl,M3.out⟩
open Go.RowKit
def YN (f t l top:Nat):Nat:=if f=1∨f=3 then top else if f=5 then t else l
theorem ZI {p:Prop} (h:p:=by
 rw [if_pos (ze)];go_in;go_wp2_with fail;go_ret
 exact ⟨rfl,zg⟩):p:=h
theorem ys8 (f:Nat) (e:Ed) (he:e.t≤255) (l top:Nat) (w:η):Qa K 114 #[Y θ f,edv e,Y ι l,Y ι top] w fun e' w'=>e'=G (Y ι (YN f e.t l top))∧ζ [] w w':=by
 obtain ⟨t,a⟩:=e;unfold edv YN;simp only at he ⊢;have h0:(0:Int)≤t:=V;have h255:(t:Int)≤255:=V;by_cases f1:f=1
 ·subst f1;exact ZI
 ·have n1:((f:Int)==1)=false:=zj;by_cases f3:f=3
  ·subst f3;exact ZI
  ·have n3:((f:Int)==3)=false:=zj;rw [if_neg (V)];by_cases f5:f=5
   ·subst f5;rw [if_pos rfl];clear f1 n1 f3;go_in;go_wp2_with fail;go_ret;exact ⟨rfl,zg⟩
   ·have n5:((f:Int)==5)=false:=zj;rw [if_neg f5];clear f1 f3 f5;go_in;go_wp2_with fail;go_ret;exact ⟨rfl,zg⟩
def yw1 (r:Rc) (x:Nat):Bool:=if r.f=3 then !YP x r.top (r.bot+1 - r.top) else x.testBit r.bot
def zp8 (r:Rc) (x:Nat):Ed:=if yw1 r x then r.hi else r.lo
theorem ZF {p:Prop} (h:p:=by
 go_wp2_with fail;refine bodyPost_ret (v:=.agg #[Y θ lt,Y ω la]) (by simp [results,Qw,go_sem,z0,z1];try rfl) rfl ?_
 exact ⟨qw,M.out⟩):p:=h
theorem ZG {p:Prop} (h:p:=by
 go_wp2_with fail;refine bodyPost_ret (v:=.agg #[Y θ ht,Y ω ha]) (by simp [results,Qw,go_sem,z0,z1];try rfl) rfl ?_
 exact ⟨qw,M.out⟩):p:=h
theorem yE6 (r:Rc) (n:Nat) (hr:RightR r n) (x:Nat) (hx:x < 65536) (w:η):Qa K 115 #[rcv r,Y .u16 x] w fun e' w'=>e'=G (edv (zp8 r x))∧ζ [] w w':=by
 have b16:r.bot < 16:=δ hr.bn hr.n16;have tb:=hr.tb;have BT:=Z (zu8 x r.bot hx);have CL:=Z (zW3 x r.top (r.bot+1 - r.top) hx (V));have ee:r.top+(r.bot+1 - r.top)=r.bot+1:=V;rw [ee,show ((r.bot+1:Nat):Int)=(r.bot:Int)+1 from V] at CL;have SD:Hid (zp8 r x=if yw1 r x then r.hi else r.lo):=rfl;have ON:Hid (yw1 r x=if r.f=3 then !YP x r.top (r.bot+1 - r.top) else x.testBit r.bot):=rfl;generalize zp8 r x=sd at *;generalize yw1 r x=one at *;generalize YP x r.top (r.bot+1 - r.top)=cl at *;have hmin:min r.bot 16=r.bot:=V;obtain ⟨f,top,bot,⟨lt,la⟩,⟨ht,ha⟩⟩:=r;simp only at *;unfold rcv;simp only;clear ee hr hx;obtain ⟨g,hg⟩:∃g,w.heap.size=g:=⟨_,rfl⟩;have b0:(0:Int)≤bot:=V;have b16':(bot:Int) < 16:=V;have MW:Hid (∀t a:Nat,ζ [] w ((w.alloc (.cells #[Y θ f,Y θ top,Y θ bot,Y θ lt,Y ω la,Y θ ht,Y ω ha] 139)).alloc (.cells #[Y θ t,Y ω a] 44))):=fun t a=>zg
 have BW:Hid (∀t a:Nat,Blk ((w.alloc (.cells #[Y θ f,Y θ top,Y θ bot,Y θ lt,Y ω la,Y θ ht,Y ω ha] 139)).alloc (.cells #[Y θ t,Y ω a] 44)) (g+1) #[Y θ t,Y ω a] 44):=fun t a=>Blk.new' _ _ _ _ (xk)
 by_cases f3:f=3
 ·have n3:((f:Int)==3)=true:=zj;rw [if_pos f3] at ON;clear hmin BT f3;cases cl with
  | true=>
   have hs:Hid (sd=⟨lt,la⟩):=qv;obtain ⟨z0,z1⟩:=(BW.out lt la).cells2;have M:=Z (MW.out lt la);clear SD ON BW MW;go_in;go_wp2_with fail;refine (CL.out _).mono ?_;rintro e w1 ⟨rfl,rfl⟩;exact ZF
  | false=>
   have hs:Hid (sd=⟨ht,ha⟩):=qv;obtain ⟨z0,z1⟩:=(BW.out ht ha).cells2;have M:=Z (MW.out ht ha);clear SD ON BW MW;go_in;go_wp2_with fail;refine (CL.out _).mono ?_;rintro e w1 ⟨rfl,rfl⟩;exact ZG
 ·have n3:((f:Int)==3)=false:=zj;rw [if_neg f3] at ON;have BTo:=BT.out;clear CL f3 BT;cases hb:x.testBit bot with
  | true=>
   rw [hb] at BTo ON;have hs:Hid (sd=⟨ht,ha⟩):=qv;obtain ⟨z0,z1⟩:=(BW.out ht ha).cells2;have M:=Z (MW.out ht ha);clear hb SD ON BW MW;go_in;exact ZG
  | false=>
   rw [hb] at BTo ON;have hs:Hid (sd=⟨lt,la⟩):=qv;obtain ⟨z0,z1⟩:=(BW.out lt la).cells2;have M:=Z (MW.out lt la);clear hb SD ON BW MW;go_in;exact ZF
def hT (f n x:Nat):Nat→Tr→Nat→Bool
 | _,.leaf false,_=>false
 | t,.leaf true,l=>YP x (YN f t l n) (n - YN f t l n)
 | t,.node top bot tl a th b,l=>YP x (YN f t l top) (top - YN f t l top) && (if (if f=3 then !YP x top (bot+1 - top) else x.testBit bot) then hT f n x th b (bot+1) else hT f n x tl a (bot+1))
theorem yf7 {L:List Rc} {f n l:Nat} {e:Ed} {r:Rc} (h:LeadsP L f e l n) (hr:YO L e.a=ψ r):YN f e.t l r.top≤r.top:=by
 rcases h.at_ with h1 | ⟨r',h2,h3,h4,h5,h6⟩
 ·have:=(YJ hr).1;omega
 ·rw [hr] at h2;obtain rfl:=Qd h2;unfold YN;split
  ·omega
  ·split
   ·omega
   ·omega
theorem zW2 {L:List Rc} {f n l:Nat} {e:Ed} (h:LeadsP L f e l n) (hl:l≤n) (ha:e.a=1):YN f e.t l n≤n:=by
 have h2:=h.plain.2;unfold YN;split
 ·omega
 ·split
  ·have:=h2 (zm) (V);omega
  ·omega
def ChT (f:Nat):Tr→Prop
 | .leaf _=>True
 | .node t b _ _ _ _=>t=b∨f=3∨f=4
theorem ChT.mk {f l:Nat} {x y:Nat × Tr} (hx:ChT f x.2):ChT f (mkE f l x y).2:=by
 have hn:ChT f (zb3 f l x y):=by
  rcases Xf f l x y with ⟨t,b,tl,u,th,v,_,h,_,_,e⟩ | ⟨t,b,tl,u,th,v,_,h,_,_,e⟩ | e
  ·rw [e];exact .inr (.inl h)
  ·rw [e];exact .inr (.inr h)
  ·rw [e];exact .inl rfl
 unfold mkE;split
 ·split
  ·exact hx
  ·exact hn
 ·split
  ·exact hx
  ·split
   ·exact hx
   ·exact hn
theorem ChT.build (f n:Nat):∀(k l:Nat) (t:List Bool),ChT f (YE f n k l t).2:=by
 intro k
 induction k with
 | zero=>intro l t;simp [YE,XX,ChT]
 | succ k ih=>intro l t;rw [YE];exact ChT.mk (ih _ _)
theorem XI (x l d:Nat) (h:0 < d):YP x l d=(!x.testBit l && YP x (l+1) (d - 1)):=by
 obtain ⟨m,rfl⟩:∃m,d=m+1:=⟨d - 1,V⟩;rfl
theorem zW9 {f n x:Nat} (h:f≠2) (h4:f≠4) (h1:1≤f) (h5:f≤5) (t l l':Nat) (T:Tr):hT f n x t T l=hT f n x t T l':=by
 have e:∀top,YN f t l top=YN f t l' top:=fun top=>by
  unfold YN;by_cases q:f=1∨f=3
  ·rw [if_pos q,if_pos q]
  ·rw [if_neg q,if_neg q,if_pos (V),if_pos (V)]
 cases T with
 | leaf b=>cases b with
  | false=>rfl
  | true=>show YP x (YN f t l n) (n - YN f t l n)=YP x (YN f t l' n) (n - YN f t l' n);rw [e]
 | node a b tl u th v=>rw [hT,hT,e]
theorem fr5 (t l top:Nat):YN 5 t l top=t:=by simp [YN]
theorem yC5 {f:Nat} (h:f=2∨f=4) (t l top:Nat):YN f t l top=l:=by unfold YN;rw [if_neg (V),if_neg (V)]
theorem fr13 {f:Nat} (h:f=1∨f=3) (t l top:Nat):YN f t l top=top:=by unfold YN;rw [if_pos h]
theorem zb5 (f n x t top bot tl:Nat) (a:Tr) (th:Nat) (b:Tr) (l:Nat):hT f n x t (.node top bot tl a th b) l=(YP x (YN f t l top) (top - YN f t l top) && (if (if f=3 then !YP x top (bot+1 - top) else x.testBit bot) then hT f n x th b (bot+1) else hT f n x tl a (bot+1))):=rfl
theorem ZK {p:Prop} (h:p:=by
 rw [if_neg f24,zW9 (V) (V) h1 h5 0 l (l+1)]
 split<;>rfl):p:=h
theorem yL9 {f n l:Nat} (h1:1≤f) (h5:f≤5) (hl:l < n) {e:Nat × Tr} (hv:VE f l e) (hc:ChT f e.2) (x:Nat):
 hT f n x e.1 e.2 l=if x.testBit l then hT f n x (vw f l e).2.1 (vw f l e).2.2 (l+1) else hT f n x (vw f l e).1.1 (vw f l e).1.2 (l+1):=by
 obtain ⟨tag,T⟩:=e;simp only at hc ⊢;by_cases hz:T=.leaf false
 ·subst hz;unfold vw;rw [if_pos (show f=5∧¬(tag,Tr.leaf false).1=l∨(tag,Tr.leaf false).2=.leaf false from .inr rfl)];show false=if x.testBit l=true then false else false
  split<;>rfl
 by_cases f5:f=5
 ·subst f5;unfold VE at hv;simp only [if_true] at hv;rcases hv with hv | ⟨-,hv1,hv2⟩
  ·simp at hv;exact absurd hv.2 hz
  try simp only at hv1 hv2
  unfold vw;by_cases ht:tag=l
  ·subst ht;rw [if_neg (show ¬((5:Nat)=5∧¬(tag,T).1=tag∨(tag,T).2=.leaf false) from by simp [hz])];cases T with
   | leaf b=>
    cases b with
    | false=>exact absurd rfl hz
    | true=>
     show YP x (YN 5 tag tag n) (n - YN 5 tag tag n)=if x.testBit tag=true then false else YP x (YN 5 (tag+1) (tag+1) n) (n - YN 5 (tag+1) (tag+1) n)
     rw [fr5,fr5,XI x tag (n - tag) (V)];cases x.testBit tag
     ·simp;rw [show n - tag - 1=n - (tag+1) from V]
     ·simp
   | node t b tl u th v=>
    have htb:t=b:=by simp [ChT] at hc;exact hc
    subst htb;simp only;by_cases q:t=tag
    ·subst q;rw [if_pos rfl,if_pos rfl,hT];rw [fr5,Ω];simp [YP]
    ·have hlt:tag < t:=by have:=hv2.1;omega
     simp only [if_neg q,if_true];rw [zb5,fr5,XI x tag (t - tag) (V)];cases x.testBit tag
     ·rw [if_neg (show ¬(false=true) from ze),zb5,fr5,show t - tag - 1=t - (tag+1) from V];simp
     ·rw [if_pos rfl];simp [hT]
  ·rw [if_pos (show (5:Nat)=5∧¬(tag,T).1=l∨(tag,T).2=.leaf false from .inl ⟨rfl,ht⟩)];rw [zW9 (V) (V) h1 h5 tag l (l+1)];split<;>rfl
 ·unfold VE at hv;simp only [f5,if_false] at hv;obtain ⟨hv0,hv1⟩:=hv
  try simp only at hv0
  subst hv0;unfold vw;rw [if_neg (show ¬(f=5∧¬((0:Nat),T).1=l∨((0:Nat),T).2=.leaf false) from by simp [f5,hz])];cases T with
  | leaf b=>
   cases b with
   | false=>exact absurd rfl hz
   | true=>
    simp only [f5,if_false];by_cases f24:f=2∨f=4
    ·rw [if_pos f24];show YP x (YN f 0 l n) (n - YN f 0 l n)=if x.testBit l=true then false else YP x (YN f 0 (l+1) n) (n - YN f 0 (l+1) n)
     rw [yC5 f24,yC5 f24,XI x l (n - l) (V)];cases x.testBit l
     ·simp;rw [show n - l - 1=n - (l+1) from V]
     ·simp
    ·exact ZK
  | node t b tl u th v=>
   have hge:=hv1.1;have htb:=hv1.2;simp only;by_cases q:t=l
   ·subst q;rw [if_pos rfl];by_cases qb:b=t
    ·subst qb;rw [if_pos rfl,hT];have e0:YN f 0 b b=b:=by unfold YN;split<;>(try split)<;>first | rfl | omega
     rw [e0,Ω];by_cases f3:f=3
     ·subst f3;rw [if_pos rfl,show b+1 - b=1 from V];cases hb:x.testBit b<;>simp [YP,hb]
     ·rw [if_neg f3];simp [YP]
    ·rw [if_neg qb];have f34:f=3∨f=4:=by simp [ChT] at hc;omega
     rcases f34 with rfl | rfl
     ·rw [if_pos rfl];simp only;rw [zb5,fr13 (.inr rfl),Ω];simp only [if_true];rw [XI x t (b+1 - t) (V)];cases hb:x.testBit t
      ·rw [if_neg (show ¬(false=true) from ze),zb5,fr13 (.inr rfl),Ω,show b+1 - t - 1=b+1 - (t+1) from V];simp [YP]
      ·rw [if_pos rfl,zW9 (V) (V) h1 h5 th (t+1) (b+1)];simp [YP]
     ·rw [if_neg (show ¬(4:Nat)=3 from V)];rw [zb5,zb5,yC5 (.inr rfl),yC5 (.inr rfl),Ω,Ω];simp [YP]
   ·rw [if_neg q,if_neg f5];have hlt:l < t:=V;by_cases f24:f=2∨f=4
    ·rw [if_pos f24];simp only;rw [zb5,yC5 f24,XI x l (t - l) (V)];cases x.testBit l
     ·rw [if_neg (show ¬(false=true) from ze),zb5,yC5 f24,show t - l - 1=t - (l+1) from V];simp
     ·rw [if_pos rfl];simp [hT]
    ·exact ZK
def atT:Nat→Nat→Nat→List Bool→Bool
 | 0,_,_,t=>t.headD false
 | k+1,l,x,t=>if x.testBit l then atT k (l+1) x (t.drop (2 ^ k)) else atT k (l+1) x (t.take (2 ^ k))
theorem yb1 {f n:Nat} (h1:1≤f) (h5:f≤5) (x:Nat):∀(k l:Nat) (t:List Bool),l+k=n→hT f n x (YE f n k l t).1 (YE f n k l t).2 l=atT k l x t:=by
 intro k
 induction k with
 | zero=>
  intro l t hl;obtain rfl:l=n:=V;rw [YE,atT];cases t.headD false with
  | false=>rfl
  | true=>
   show YP x (YN f (XX f l true).1 l l) (l - YN f (XX f l true).1 l l)=true
   have e:YN f (XX f l true).1 l l=l:=by
    unfold YN XX;by_cases q:f=5
    ·simp [q]
    ·simp [q]
   rw [e,Ω];rfl
 | succ k ih=>
  intro l t hl;have v1:=za2 f n k (l+1) (t.take (2 ^ k)) (V);have v2:=za2 f n k (l+1) (t.drop (2 ^ k)) (V);rw [yL9 h1 h5 (V) (za2 f n (k+1) l t hl) (ChT.build f n (k+1) l t) x];rw [YE,yE7 h1 h5 v1 v2,atT,ih (l+1) _ (V),ih (l+1) _ (V)]
open Go.RowKit
def zO6 (p:List Nat) (y:Nat):Nat→Nat→Nat→Nat
 | 0,_,x=>x
 | k+1,l,x=>zO6 p y k (l+1) (if y.testBit l then x ||| 2 ^ p.getD l 0 else x)
theorem ze3 (W:Nat) (p:List Nat) (y:Nat):∀k l x,atT k l y (Xz W p k l x)=W.testBit (zO6 p y k l x):=by
 intro k
 induction k with
 | zero=>intro l x;rfl
 | succ k ih=>
  intro l x;rw [atT,Xz,Θ (Xl W p k (l+1) x),Δ (Xl W p k (l+1) x),zO6];by_cases h:y.testBit l=true
  ·rw [if_pos h,if_pos h,ih]
  ·rw [if_neg h,if_neg h,ih]
theorem zq2 (p:List Nat) (y v:Nat):∀k l x,(zO6 p y k l x).testBit v=true↔(x.testBit v=true∨∃i,l≤i∧i < l+k∧y.testBit i=true∧p.getD i 0=v):=by
 intro k
 induction k with
 | zero=>
  intro l x;rw [zO6];exact ⟨.inl,fun h=>h.elim id (fun ⟨i,h1,h2,_⟩=>V)⟩
 | succ k ih=>
  intro l x;rw [zO6,ih];constructor
  ·rintro (h | ⟨i,h1,h2,h3⟩)
   ·by_cases q:y.testBit l=true
    ·rw [if_pos q,U,X] at h;simp only [Qx,decide_eq_true_eq] at h;rcases h with h | h
     ·exact .inl h
     ·exact .inr ⟨l,V,V,q,h⟩
    ·rw [if_neg q] at h;exact .inl h
   ·exact .inr ⟨i,V,V,h3⟩
  ·rintro (h | ⟨i,h1,h2,h3,h4⟩)
   ·refine .inl ?_;split
    ·rw [U,h];rfl
    ·exact h
   ·by_cases q:i=l
    ·subst q;refine .inl ?_;rw [if_pos h3,U,X,h4];simp
    ·exact .inr ⟨i,V,V,h3,h4⟩
theorem yq2 {p:List Nat} {n x y:Nat} (hp:Perm p n) (hx:x < 2 ^ n) (hy:∀l,l < n→y.testBit l=x.testBit (p.getD l 0)):zO6 p y n 0 0=x:=by
 apply ν;intro v;rw [J,zq2];constructor
 ·rintro (h | ⟨i,-,h2,h3,h4⟩)
  ·simp at h
  ·rw [hy i (V),h4] at h3;exact h3
 ·intro h
  have hv:v < n:=by
   apply I;intro hn;have:=π (δ hx (μ (n:=2) (V) (show n≤v from V)));rw [this] at h;cases h
  have hm:=hp.mem hv;obtain ⟨i,hi⟩:=ξ.1 hm;have hl:=(Ξ.1 hi).1;have hd:p.getD i 0=v:=jn;refine .inr ⟨i,V,yh,?_,hd⟩;rw [hy i (yh),hd];exact h
theorem ye9 {W n x y:Nat} {p:List Nat} (hp:Perm p n) (hx:x < 2 ^ n) (hy:∀l,l < n→y.testBit l=x.testBit (p.getD l 0)):atT n 0 y (Xz W p n 0 0)=W.testBit x:=by
 rw [ze3,yq2 hp hx hy]
theorem yI1:∀y < 32,∀k < 5,bits .or .u16 ((y:Nat):Int) (IntKind.u16.wrap (IntKind.u16.wrap 1 *2 ^ k))=((y ||| 2 ^ k:Nat):Int):=zL
theorem yK3:∀y < 32,∀k < 5,bits .or .u16 ((y:Nat):Int) (IntKind.u16.wrap (IntKind.u16.wrap 0 *2 ^ k))=((y:Nat):Int):=zL
theorem yf1 {x y v k:Nat} (hy:y < 2 ^ k) (hk:k < 5) (hx:x < 65536):∃y':Nat,bits BinOp.or IntKind.u16 (y:Int) (IntKind.u16.wrap (IntKind.u16.wrap (bits BinOp.and IntKind.i64 ((x:Int) / 2 ^ v) 1) *2 ^ k))=(y':Int)∧y' < 2 ^ (k+1)∧y'.testBit k=x.testBit v∧∀i,i < k→y'.testBit i=y.testBit i:=by
 have h32:y < 32:=by have:=μ (n:=2) (V) (show k≤5 from V);omega
 have e1:(x:Int) / 2 ^ v=((x / 2 ^ v:Nat):Int):=yk;rw [e1,zf7 _ (E (Qy _ _) (V))];have hb:x.testBit v=decide (x / 2 ^ v % 2=1):=by rw [Nat.testBit_eq_decide_div_mod_eq]
 have hp2:2 ^ (k+1)=2 ^ k *2:=H ..;by_cases q:x / 2 ^ v % 2=1
 ·rw [q,hb];refine ⟨y ||| 2 ^ k,yI1 y h32 k hk,B (V) (V),?_,fun i hi=>?_⟩
  ·rw [U,X];simp [q]
  ·rw [U,X];simp;omega
 ·have q0:x / 2 ^ v % 2=0:=V;rw [q0,hb];refine ⟨y,yK3 y h32 k hk,V,?_,fun i hi=>rfl⟩;rw [π hy];simp [q0]
theorem yM9 {x v:Nat} (hx:x < 4294967296) (hv:v < 32):bits .or .u64 (x:Int) (IntKind.u64.wrap (2 ^ v))=((x ||| 2 ^ v:Nat):Int):=by
 have hp:2 ^ v < 4294967296:=by have:=κ (a:=2) (V) hv;simpa using this
 have e:IntKind.u64.wrap (2 ^ v)=((2 ^ v:Nat):Int):=by
  rw [show ((2:Int) ^ v)=((2 ^ v:Nat):Int) from ze];generalize 2 ^ v=z at *;exact IntWalk.u64_in _ ⟨V,V⟩
 rw [e];have e1:φ 64 (x:Int)=QI 64 x:=Qh ..;have e2:φ 64 ((2 ^ v:Nat):Int)=QI 64 (2 ^ v):=Qh ..
 have e3:(φ 64 (x:Int) ||| φ 64 ((2 ^ v:Nat):Int)).toNat=x ||| 2 ^ v:=by
  rw [e1,e2,BitVec.toNat_or,Qn,Qn,Qr (V),Qr (V)]
 show IntKind.u64.wrap ((φ 64 (x:Int) ||| φ 64 ((2 ^ v:Nat):Int)).toNat:Int)=_;rw [e3];have hlt:x ||| 2 ^ v < 2 ^ 32:=B (V) (V);generalize x ||| 2 ^ v=z at *;exact IntWalk.u64_in _ ⟨V,V⟩
def zy9:List Nat→Nat
 | []=>0
 | x::l=>2 ^ x ||| zy9 l
theorem ZJ {p:Prop} (h:p:=by
 by_cases h:x=v
 ·subst h;simp
 ·have h':¬v=x:=fun e=>h e.symm
  simp [h,h']):p:=h
theorem zj5 (l:List Nat) (v:Nat):(zy9 l).testBit v=decide (v∈l):=by
 induction l with
 | nil=>simp [zy9]
 | cons x l ih=>
  rw [zy9,U,ih,X];exact ZJ
theorem zW1 (l:List Nat) (x:Nat):zy9 (l++[x])=zy9 l ||| 2 ^ x:=by
 apply ν;intro v;rw [zj5,U,zj5,X];exact ZJ
theorem zR9 {l:List Nat} {m:Nat} (h:∀x∈l,x < m):zy9 l < 2 ^ m:=by
 induction l with
 | nil=>exact Γ m
 | cons x l ih=>
  rw [zy9];exact B (κ (V) (h x (ze))) (ih fun v hv=>h v (by simp [hv]))
theorem yg6 {W m:Nat} {l:List Nat} (hW:W < 2 ^ m) (h:∀x,x∈l↔x < m∧W.testBit x=true):zy9 l=W:=by
 apply ν;intro v;rw [zj5,J,decide_eq_true_eq,h];constructor
 ·exact fun q=>q.2
 ·intro q;refine ⟨?_,q⟩;apply I;intro hn;have:=π (δ hW (μ (n:=2) (V) (show m≤v from V)));rw [this] at q;cases q
theorem zb7:∀k l y y' t,(∀i,l≤i→y.testBit i=y'.testBit i)→atT k l y t=atT k l y' t:=by
 intro k
 induction k with
 | zero=>intro l y y' t _;rfl
 | succ k ih=>
  intro l y y' t h;rw [atT,atT,h l (Qf _),ih (l+1) y y' _ (fun i hi=>h i (V)),ih (l+1) y y' _ (fun i hi=>h i (V))]
theorem zA1 {n:Nat}:∀k l (t t':List Bool),l+k=n→t.length=2 ^ k→t'.length=2 ^ k→(∀y,y < 2 ^ n→atT k l y t=atT k l y t')→t=t':=by
 intro k
 induction k with
 | zero=>
  intro l t t' _ h h' e
  match t,t',h,h' with
  | [a],[b],_,_=>simpa [atT] using e 0 (Γ n)
 | succ k ih=>
  intro l t t' hl h h' e;have hp:2 ^ (k+1)=2 ^ k *2:=H ..
  have h1:t.take (2 ^ k)=t'.take (2 ^ k):=by
   refine ih (l+1) _ _ (V) (zW) (zW) fun y hy=>?_
   have:=e (Xp y l false) (Xb _ hy (V));rw [atT,atT,XR,if_pos rfl,if_neg (ze),if_neg (ze)] at this;rw [zb7 k (l+1) y (Xp y l false) _ (fun i hi=>xB),zb7 k (l+1) y (Xp y l false) _ (fun i hi=>xB)];exact this
  have h2:t.drop (2 ^ k)=t'.drop (2 ^ k):=by
   refine ih (l+1) _ _ (V) (yp) (yp) fun y hy=>?_
   have:=e (Xp y l true) (Xb _ hy (V));rw [atT,atT,XR,if_pos rfl,if_pos rfl,if_pos rfl] at this;rw [zb7 k (l+1) y (Xp y l true) _ (fun i hi=>xB),zb7 k (l+1) y (Xp y l true) _ (fun i hi=>xB)];exact this
  rw [←Q (2 ^ k) t,h1,h2,Q]
def za9 (o:Nat) (t u:List Bool):List Bool:=QJ (fun a b=>o.testBit (2 *a.toNat+b.toNat)) t u
theorem zs8 {o:Nat} {t u:List Bool} (h:t.length=u.length):(za9 o t u).length=t.length:=by simp [za9,h]
theorem zE8 {o:Nat} {t1 t2 u1 u2:List Bool} (h:t1.length=u1.length):za9 o (t1++t2) (u1++u2)=za9 o t1 u1++za9 o t2 u2:=by unfold za9;exact Qi h
theorem zF0 {n o Wa Wb W:Nat} {p:List Nat} (hp:∀v∈p,v < n) (hl:p.length=n) (hW:∀x,x < 2 ^ n→W.testBit x=o.testBit (2 *(Wa.testBit x).toNat+(Wb.testBit x).toNat)):
 ∀k l x,l+k=n→x < 2 ^ n→Xz W p k l x=za9 o (Xz Wa p k l x) (Xz Wb p k l x):=by
 intro k
 induction k with
 | zero=>intro l x _ hx;simp [Xz,za9,hW x hx]
 | succ k ih=>
  intro l x hlk hx
  have hm:p.getD l 0 < n:=by
   rw [Φ,O (V)];exact hp _ (Qb _)
  have hx':x ||| 2 ^ p.getD l 0 < 2 ^ n:=B hx (κ (V) hm);rw [Xz,Xz,Xz,zE8 (by rw [Xl,Xl]),ih _ _ (V) hx,ih _ _ (V) hx']
def qtT (lv:Nat) (each:Bool):Nat→Nat→List Bool→List Bool
 | 0,_,t=>t
 | k+1,l,t=>if lv.testBit l then za9 (if each then 8 else 14) (qtT lv each k (l+1) (t.take (2 ^ k))) (qtT lv each k (l+1) (t.drop (2 ^ k)))++za9 (if each then 8 else 14) (qtT lv each k (l+1) (t.take (2 ^ k))) (qtT lv each k (l+1) (t.drop (2 ^ k)))
  else qtT lv each k (l+1) (t.take (2 ^ k))++qtT lv each k (l+1) (t.drop (2 ^ k))
theorem zq0 {lv:Nat} {each:Bool}:∀k l t,t.length=2 ^ k→(qtT lv each k l t).length=2 ^ k:=by
 intro k
 induction k with
 | zero=>intro l t h;exact h
 | succ k ih=>
  intro l t h;have hp:2 ^ (k+1)=2 ^ k *2:=H ..;have h1:=ih (l+1) (t.take (2 ^ k)) (zW);have h2:=ih (l+1) (t.drop (2 ^ k)) (yp);rw [qtT];split
  ·rw [χ,zs8 (V),h1];omega
  ·rw [χ,h1,h2];omega
def lvL (lv:Nat):Nat→Nat→List Nat
 | 0,_=>[]
 | k+1,l=>if lv.testBit l then l::lvL lv k (l+1) else lvL lv k (l+1)
theorem zD1 (lv:Nat):∀k l i,i∈lvL lv k l↔l≤i∧i < l+k∧lv.testBit i=true:=by
 intro k
 induction k with
 | zero=>intro l i;simp [lvL];omega
 | succ k ih=>
  intro l i;rw [lvL];split
  ·rename_i h
   rw [Qj,ih];constructor
   ·rintro (rfl | ⟨a,b,c⟩)
    ·exact ⟨Qf _,V,h⟩
    ·exact ⟨V,V,c⟩
   ·rintro ⟨a,b,c⟩;rcases τ l i with q | q
    ·exact .inr ⟨q,V,c⟩
    ·exact .inl (V)
  ·rename_i h
   rw [ih];constructor
   ·rintro ⟨a,b,c⟩;exact ⟨V,V,c⟩
   ·rintro ⟨a,b,c⟩;refine ⟨?_,V,c⟩;rcases τ l i with q | q
    ·exact q
    ·obtain rfl:i=l:=V;exact absurd c h
theorem Qu.agree {each:Bool} {n:Nat} {l:List Nat} {g g':Nat→Bool} {y:Nat} (hg:∀z,z < 2 ^ n→agree n l y z→g z=g' z):Qu each n l g y↔Qu each n l g' y:=by
 unfold Qu QuE QuS;split
 ·exact ⟨fun q z hz ha=>by rw [←hg z hz ha];exact q z hz ha,fun q z hz ha=>by rw [hg z hz ha];exact q z hz ha⟩
 ·exact ⟨fun ⟨z,hz,ha,q⟩=>⟨z,hz,ha,by rw [←hg z hz ha];exact q⟩,fun ⟨z,hz,ha,q⟩=>⟨z,hz,ha,by rw [hg z hz ha];exact q⟩⟩
theorem yB2 {o:Nat}:∀k l y t u,t.length=2 ^ k→u.length=2 ^ k→atT k l y (za9 o t u)=o.testBit (2 *(atT k l y t).toNat+(atT k l y u).toNat):=by
 intro k
 induction k with
 | zero=>
  intro l y t u h h'
  match t,u,h,h' with
  | [a],[b],_,_=>simp [atT,za9]
 | succ k ih=>
  intro l y t u h h';have hp:2 ^ (k+1)=2 ^ k *2:=H ..
  have e:za9 o t u=za9 o (t.take (2 ^ k)) (u.take (2 ^ k))++za9 o (t.drop (2 ^ k)) (u.drop (2 ^ k)):=by
   rw [←zE8 (qx),Q,Q]
  have hl1:(za9 o (t.take (2 ^ k)) (u.take (2 ^ k))).length=2 ^ k:=by rw [zs8 (qx),List.length_take];omega
  rw [e,atT,atT,atT,Θ hl1,Δ hl1];split
  ·exact ih _ _ _ _ (yp) (yp)
  ·exact ih _ _ _ _ (zW) (zW)
theorem op14 (a b:Bool):(14:Nat).testBit (2 *a.toNat+b.toNat)=(a || b):=by cases a<;>cases b<;>rfl
theorem op8 (a b:Bool):(8:Nat).testBit (2 *a.toNat+b.toNat)=(a && b):=by cases a<;>cases b<;>rfl
theorem yD0 {lv:Nat} {each:Bool} {n:Nat}:∀k l t,l+k=n→t.length=2 ^ k→∀y,y < 2 ^ n→(atT k l y (qtT lv each k l t)=true↔Qu each n (lvL lv k l) (fun z=>atT k l z t) y):=by
 intro k
 induction k with
 | zero=>
  intro l t _ h y hy;rw [lvL,Qu.nil hy];rfl
 | succ k ih=>
  intro l t hl h y hy;have hp:2 ^ (k+1)=2 ^ k *2:=H ..;have hA:(t.take (2 ^ k)).length=2 ^ k:=zW;have hB:(t.drop (2 ^ k)).length=2 ^ k:=yp;have qA:=zq0 (lv:=lv) (each:=each) k (l+1) _ hA;have qB:=zq0 (lv:=lv) (each:=each) k (l+1) _ hB;have hln:l < n:=V
  have side:∀b y,y < 2 ^ n→y.testBit l=b→(Qu each n (lvL lv k (l+1)) (fun z=>atT (k+1) l z t) y↔atT k (l+1) y (qtT lv each k (l+1) (if b then t.drop (2 ^ k) else t.take (2 ^ k)))=true):=by
   intro b y hy hb;rw [Qu.agree (g':=fun z=>atT k (l+1) z (if b then t.drop (2 ^ k) else t.take (2 ^ k))) (fun z hz ha=>?_)]
   ·exact (ih (l+1) _ (V) (by cases b with
     | true=>rw [if_pos rfl];exact hB
     | false=>rw [if_neg (ze)];exact hA) y hy).symm
   ·have hzl:=ha l hln (by rw [zD1];omega);show atT (k+1) l z t=_;rw [atT,hzl,hb];cases b<;>simp
  have cg:∀(b:Bool) u,atT k (l+1) (Xp y l b) u=atT k (l+1) y u:=fun b u=>zb7 _ _ _ _ _ (fun i hi=>xB)
  have s0:=side false (Xp y l false) (Xb _ hy hln) (by rw [XR,if_pos rfl]);have s1:=side true (Xp y l true) (Xb _ hy hln) (by rw [XR,if_pos rfl]);rw [cg] at s0 s1;simp only [if_true,γ,if_false] at s0 s1;rw [lvL,qtT];by_cases hb:lv.testBit l=true
  ·rw [if_pos hb,if_pos hb,Qu.one hln,s0,s1];have hz:(za9 (if each then 8 else 14) (qtT lv each k (l+1) (t.take (2 ^ k))) (qtT lv each k (l+1) (t.drop (2 ^ k)))).length=2 ^ k:=by rw [zs8 (V),qA]
   rw [atT,Θ hz,Δ hz];have e:(if y.testBit l=true then atT k (l+1) y (za9 (if each then 8 else 14) (qtT lv each k (l+1) (t.take (2 ^ k))) (qtT lv each k (l+1) (t.drop (2 ^ k)))) else atT k (l+1) y (za9 (if each then 8 else 14) (qtT lv each k (l+1) (t.take (2 ^ k))) (qtT lv each k (l+1) (t.drop (2 ^ k)))))=atT k (l+1) y (za9 (if each then 8 else 14) (qtT lv each k (l+1) (t.take (2 ^ k))) (qtT lv each k (l+1) (t.drop (2 ^ k)))):=by split<;>rfl
   rw [e,yB2 k (l+1) y _ _ qA qB];cases each with
   | true=>simp only [if_true];rw [op8,Bool.and_eq_true]
   | false=>simp only [γ,if_false];rw [op14,Qx]
  ·rw [if_neg hb,if_neg hb,atT,Θ qA,Δ qA];cases hy':y.testBit l with
   | true=>rw [if_pos rfl];exact (side true y hy hy').symm
   | false=>rw [if_neg (ze)];exact (side false y hy hy').symm
def zO9 (p:List Nat) (n y:Nat):Nat:=zO6 p y n 0 0
theorem zc5 {p:List Nat} {n y l:Nat} (hp:Perm p n) (hl:l < n):(zO9 p n y).testBit (p.getD l 0)=y.testBit l:=by
 rw [J];unfold zO9;rw [zq2]
 have g:∀i,i < n→p[i]? =ψ (p.getD i 0):=fun i hi=>by
  rw [Φ,O (yh)];rfl
 constructor
 ·rintro (h | ⟨i,-,h2,h3,h4⟩)
  ·simp at h
  ·have:i=l:=by
    apply I;intro hne;have h1:i < p.length:=yh;have h2':l < p.length:=yh;have e1:=g i (V);have e2:=g l hl;rw [h4] at e1;rw [O h1] at e1;rw [O h2'] at e2;exact hne ((List.getElem_inj hp.nd).1 ((Qd e1).trans (Qd e2).symm))
   rw [←this];exact h3
 ·intro h;exact .inr ⟨l,V,V,h,rfl⟩
theorem ZH {p:Prop} (h:p:=by
 rw [Φ,O (yh)]
 exact hp.lt _ (Qb _)):p:=h
theorem zh3 {p:List Nat} {n y:Nat} (hp:Perm p n):zO9 p n y < 2 ^ n:=by
 apply β;intro i hi;apply I;intro h;have h:(zO6 p y n 0 0).testBit i=true:=by simpa [zO9] using h
 rw [zq2] at h;rcases h with h | ⟨j,_,h2,_,h4⟩
 ·simp at h
 ·have:p.getD j 0 < n:=by
   exact ZH
  omega
def lvA (p:List Nat) (x:Nat):Nat→Nat
 | 0=>0
 | k+1=>if x.testBit (p.getD k 0) then lvA p x k ||| 2 ^ k else lvA p x k
theorem zU1 {p:List Nat} {x:Nat}:∀k i,(lvA p x k).testBit i=(decide (i < k) && x.testBit (p.getD i 0)):=by
 intro k
 induction k with
 | zero=>intro i;simp [lvA]
 | succ k ih=>
  intro i;rw [lvA];by_cases q:i=k
  ·subst q;split
   ·rename_i h;rw [U,ih,X,h];simp
   ·rename_i h;rw [ih,Bool.eq_false_iff.2 h];simp
  ·have h1:decide (i < k+1)=decide (i < k):=zj;have h2:¬k=i:=fun e=>q e.symm
   split
   ·rw [U,ih,X,h1];simp [h2]
   ·rw [ih,h1]
theorem zF8 {p:List Nat} {x n:Nat}:lvA p x n < 2 ^ n:=by
 apply β;intro i hi;rw [zU1];simp;omega
theorem zl2 {p:List Nat} {n x:Nat} (hp:Perm p n) (hx:x < 2 ^ n):zO9 p n (lvA p x n)=x:=by
 refine zR2 hx (zh3 hp) fun v hv=>?_
 obtain ⟨i,hi⟩:=ξ.1 (hp.mem hv);have hl:=(Ξ.1 hi).1;have hd:p.getD i 0=v:=jn;have hin:i < n:=yh;have:=zc5 (y:=lvA p x n) hp hin;rw [hd,zU1,hd] at this;rw [this];simp [hin]
theorem yx3 {n W Wq lv:Nat} {each:Bool} {p l:List Nat} (hp:Perm p n) (hlv:∀i,i < n→(lv.testBit i=true↔p.getD i 0∈l)) (hW:∀x,x < 2 ^ n→(Wq.testBit x=true↔Qu each n l (fun z=>W.testBit z) x)):
 Xz Wq p n 0 0=qtT lv each n 0 (Xz W p n 0 0):=by
 refine zA1 (n:=n) n 0 _ _ (V) (Xl _ _ _ _ _) (zq0 _ _ _ (Xl _ _ _ _ _)) fun y hy=>?_
 rw [J,yD0 n 0 _ (V) (Xl _ _ _ _ _) y hy,ze3,show zO6 p y n 0 0=zO9 p n y from rfl,hW _ (zh3 hp)]
 have hag:∀z,z < 2 ^ n→(agree n (lvL lv n 0) y z↔agree n l (zO9 p n y) (zO9 p n z)):=by
  intro z hz;constructor
  ·intro h v hv hm;obtain ⟨i,hi⟩:=ξ.1 (hp.mem hv);have hl:=(Ξ.1 hi).1;have hd:p.getD i 0=v:=jn;have hin:i < n:=yh;rw [←hd,zc5 hp hin,zc5 hp hin];exact h i hin (by rw [zD1];rintro ⟨_,_,q⟩;exact hm (by rw [←hd];exact (hlv i hin).1 q))
  ·intro h i hi hm
   have hv:p.getD i 0 < n:=by
    exact ZH
   have:=h (p.getD i 0) hv (fun q=>hm (by rw [zD1];exact ⟨V,V,(hlv i hi).2 q⟩));rw [zc5 hp hi,zc5 hp hi] at this;exact this
 have hg:∀z,atT n 0 z (Xz W p n 0 0)=W.testBit (zO9 p n z):=fun z=>ze3 _ _ _ _ _ _
 simp only [hg];unfold Qu QuE QuS;split
 ·constructor
  ·intro h z hz ha;exact h _ (zh3 hp) ((hag z hz).1 ha)
  ·intro h x hx ha;have:=h (lvA p x n) zF8 ((hag _ zF8).2 (by rw [zl2 hp hx];exact ha));simp only [zl2 hp hx] at this;exact this
 ·constructor
  ·rintro ⟨x,hx,ha,h⟩;exact ⟨lvA p x n,zF8,(hag _ zF8).2 (by rw [zl2 hp hx];exact ha),by simp only [zl2 hp hx];exact h⟩
  ·rintro ⟨z,hz,ha,h⟩;exact ⟨_,zh3 hp,(hag z hz).1 ha,h⟩
def XE (m:Nat) (g:Nat→Bool):Nat:=zy9 ((List.range m).filter g)
theorem YV {m:Nat} (g:Nat→Bool) {x:Nat} (hx:x < m):(XE m g).testBit x=g x:=by
 unfold XE;rw [zj5,J,decide_eq_true_eq,Qz,QG];exact ⟨fun h=>h.2,fun h=>⟨hx,h⟩⟩
theorem Xj (m:Nat) (g:Nat→Bool):XE m g < 2 ^ m:=zR9 fun x hx=>QG.1 (Qz.1 hx).1
theorem zr1 {m W W':Nat} (h:W < 2 ^ m) (h':W' < 2 ^ m) (e:∀x,x < m→W.testBit x=W'.testBit x):W=W':=zR2 h' h e
theorem Xr {m W:Nat} {g:Nat→Bool} (h:W < 2 ^ m) (e:∀x,x < m→W.testBit x=g x):W=XE m g:=zr1 h (Xj m g) fun x hx=>by rw [e x hx,YV g hx]
theorem zm2 {m:Nat} {g g':Nat→Bool} (e:∀x,x < m→g x=g' x):XE m g=XE m g':=Xr (Xj m g) fun x hx=>by rw [YV g hx,e x hx]
def opN (o a b:Nat):Nat→Nat
 | 0=>0
 | k+1=>if o.testBit k then opN o a b k ||| (if k=0 then (18446744073709551615 ^^^ a) &&& (18446744073709551615 ^^^ b) else if k=1 then (18446744073709551615 ^^^ a) &&& b else if k=2 then a &&& (18446744073709551615 ^^^ b) else a &&& b) else opN o a b k
theorem zw7 (i:Nat):(18446744073709551615:Nat).testBit i=decide (i < 64):=by
 rw [show (18446744073709551615:Nat)=2 ^ 64 - 1 from rfl,ε]
theorem yC0 (o a b i:Nat) (hi:i < 64):(opN o a b 4).testBit i=o.testBit (2 *(a.testBit i).toNat+(b.testBit i).toNat):=by
 simp only [opN,Nat.reduceEqDiff,if_true,if_false,Nat.succ_ne_zero];have e0:=zw7 i;simp only [hi,decide_true] at e0
 cases h0:o.testBit 0<;>cases h1:o.testBit 1<;>cases h2:o.testBit 2<;>cases h3:o.testBit 3<;>
  simp only [if_true,if_false,γ,U,C,Qe,e0,Qs,Qq]<;>
  cases ha:a.testBit i<;>cases hb:b.testBit i<;>simp [h0,h1,h2,h3]
def ze6 (v:Nat):Nat:=XE 64 (fun x=>x.testBit v)
def zh4 (n W v:Nat) (one:Bool):Nat:=XE (2 ^ n) (fun x=>W.testBit (Xp x v one))
theorem zf6 {v i:Nat} (hi:i < 64):(ze6 v).testBit i=i.testBit v:=YV _ hi
theorem zX4 {n W v:Nat} (hn:n≤5) (hv:v < n) (hW:W < 2 ^ (2 ^ n)):(W &&& ze6 v) ||| (W &&& ze6 v) / 2 ^ (2 ^ v)=zh4 n W v true:=by
 have hp:2 ^ n≤32:=zF;have h1:W &&& ze6 v < 2 ^ (2 ^ n):=E Nat.and_le_left hW;refine Xr (B h1 (E (Qy _ _) h1)) fun x hx=>?_
 have key:∀x < 32,∀v < 5,Xp x v true=(if x.testBit v then x else x+2 ^ v)∧(x.testBit v=true→(x+2 ^ v).testBit v=false)∧(x.testBit v=false→(x+2 ^ v).testBit v=true):=zi;obtain ⟨k1,k2,k3⟩:=key x (V) v (V);have hx2:x+2 ^ v < 64:=vE;rw [U,Nat.testBit_div_two_pow,C,C,zf6 (V),zf6 hx2,k1];cases h:x.testBit v with
 | true=>rw [k2 h];simp
 | false=>rw [k3 h];simp
theorem ya3 {n W v:Nat} (hn:n≤5) (hv:v < n) (hW:W < 2 ^ (2 ^ n)):((W &&& (18446744073709551615 ^^^ ze6 v)) ||| (W &&& (18446744073709551615 ^^^ ze6 v)) *2 ^ (2 ^ v)) &&& (2 ^ (2 ^ n) - 1)=zh4 n W v false:=by
 have hp:2 ^ n≤32:=zF;refine Xr (E Nat.and_le_right (jo)) fun x hx=>?_
 have key:∀x < 32,∀v < 5,Xp x v false=(if x.testBit v then x - 2 ^ v else x)∧(x.testBit v=true→2 ^ v≤x∧(x - 2 ^ v).testBit v=false)∧(x.testBit v=false→2 ^ v≤x→(x - 2 ^ v).testBit v=true):=zi;obtain ⟨k1,k2,k3⟩:=key x (V) v (V);have hxs:x - 2 ^ v < 64:=E (Nat.sub_le _ _) (V);have e0:=zw7 x;have e1:=zw7 (x - 2 ^ v);rw [decide_eq_true (V)] at e0;rw [decide_eq_true hxs] at e1;rw [C,ε,decide_eq_true hx,Bool.and_true,U,Nat.testBit_mul_two_pow,C,C,Qe,Qe,zf6 (V),zf6 hxs,e0,e1,k1];cases h:x.testBit v with
 | true=>obtain ⟨q1,q2⟩:=k2 h;rw [q2];simp [q1]
 | false=>
  by_cases q:2 ^ v≤x
  ·rw [k3 h q];simp
  ·simp [q]
def quW (n:Nat) (each:Bool) (vars:Nat) (W:Nat):Nat→Nat
 | 0=>W
 | v+1=>if vars.testBit v then XE (2 ^ n) (fun x=>(if each then (8:Nat) else 14).testBit (2 *((zh4 n (quW n each vars W v) v false).testBit x).toNat+((zh4 n (quW n each vars W v) v true).testBit x).toNat)) else quW n each vars W v
theorem yo7 {n:Nat} {each:Bool} {vars W:Nat} (hW:W < 2 ^ (2 ^ n)):∀k,quW n each vars W k < 2 ^ (2 ^ n):=by
 intro k
 induction k with
 | zero=>exact hW
 | succ k ih=>rw [quW];split;exact Xj _ _;exact ih
def vsL (vars:Nat):Nat→List Nat
 | 0=>[]
 | k+1=>if vars.testBit k then k::vsL vars k else vsL vars k
theorem zV5 (vars:Nat):∀k v,v∈vsL vars k↔v < k∧vars.testBit v=true:=by
 intro k
 induction k with
 | zero=>intro v;simp [vsL]
 | succ k ih=>
  intro v;rw [vsL];split
  ·rename_i h
   rw [Qj,ih];constructor
   ·rintro (rfl | ⟨a,b⟩)
    ·exact ⟨V,h⟩
    ·exact ⟨V,b⟩
   ·rintro ⟨a,b⟩;rcases τ v k with q | q
    ·exact .inr ⟨q,b⟩
    ·exact .inl (V)
  ·rename_i h
   rw [ih];constructor
   ·rintro ⟨a,b⟩;exact ⟨V,b⟩
   ·rintro ⟨a,b⟩;refine ⟨?_,b⟩;rcases τ v k with q | q
    ·exact q
    ·obtain rfl:v=k:=V;exact absurd b h
theorem yv9 {n:Nat} {each:Bool} {vars W:Nat}:∀k,k≤n→∀y,y < 2 ^ n→(quW n each vars W k).testBit y=ye7 each (vsL vars k) (fun x=>W.testBit x) y:=by
 intro k
 induction k with
 | zero=>intro _ y _;rfl
 | succ k ih=>
  intro hk y hy;rw [quW,vsL];split
  ·show _=yx5 each k (ye7 each (vsL vars k) _) y;have h0:=Xb (v:=k) false hy (V);have h1:=Xb (v:=k) true hy (V);rw [YV _ hy];unfold zh4 yx5;rw [YV _ hy,YV _ hy,ih (V) _ h0,ih (V) _ h1];cases each with
   | true=>rw [if_pos rfl,if_pos rfl,op8]
   | false=>rw [if_neg (ze),if_neg (ze),op14]
  ·exact ih (V) y hy
theorem yG7 {n:Nat} {each:Bool} {vars W:Nat} {l:List Nat} {g:Nat→Bool} (hl:∀v,v < n→(vars.testBit v=true↔v∈l)) (hg:∀x,x < 2 ^ n→W.testBit x=g x) (hW:W < 2 ^ (2 ^ n)):quW n each vars W n=XE (2 ^ n) (quB each n l g):=by
 refine Xr (yo7 hW n) fun y hy=>?_
 rw [yv9 n (Qf _) y hy,J,zD4,zX1 _ (fun v hv=>((zV5 _ _ _).1 hv).1) y hy];exact Qu.congr (fun v hv=>vF) hg
def exW (n:Nat) (x:Ex):Nat:=XE (2 ^ n) (evE n x)
def XM (op:Nat):Nat:=if op=38 then 8 else if op=124 then 14 else if op=94 then 6 else if op=62 then 11 else 9
theorem zl7 (op:Nat) (a b:Bool):(XM op).testBit (2 *a.toNat+b.toNat)=opB op a b:=by
 unfold XM opB
 repeat' split
 all_goals (cases a<;>cases b<;>rfl)
theorem zY9 (a:Bool):(3:Nat).testBit (2 *a.toNat+a.toNat)= !a:=by cases a<;>rfl
open Go.RowKit
theorem zz3 (L:List Rc) (f l n:Nat):LeadsP L f ⟨0,0⟩ l n:=
 ⟨⟨fun _=>rfl,fun _ h=>absurd rfl h⟩,.inl (ze)⟩
theorem zI3 (L:List Rc) (f n:Nat) (h1:1≤f) (h5:f≤5):LeadsP L f (zi1 f n) n n:=by
 unfold zi1;by_cases h:f=5
 ·rw [if_pos h];exact ⟨⟨fun h'=>by simp [h] at h',fun _ _=>ze⟩,.inl (ze)⟩
 ·rw [if_neg h];exact ⟨⟨fun _=>rfl,fun h'=>absurd h' h⟩,.inl (ze)⟩
theorem EdT.zero (L:List Rc) {f n k l:Nat} (hlk:l+k=n):EdT L f n k l ⟨0,0⟩ (s (2 ^ k) false):=by
 refine ⟨?_,zz3 _ _ _ _,ze,hlk⟩;rw [zg4 (f:=f) (n:=n) k l (s (2 ^ k) false) (ze)];exact ⟨rfl,.zero⟩
theorem EdT.one (L:List Rc) {f n:Nat} (h1:1≤f) (h5:f≤5):EdT L f n 0 n (zi1 f n) [true]:=by
 refine ⟨?_,zI3 _ _ _ h1 h5,rfl,V⟩;unfold zi1 YE XX;by_cases h:f=5
 ·simp only [h,if_true,QA];exact ⟨rfl,.one⟩
 ·simp only [h,if_false,QA];exact ⟨rfl,.one⟩
theorem EdT.at0 {L:List Rc} {f n k l:Nat} {e:Ed} {t:List Bool} (h:EdT L f n k l e t) (h1:1≤f) (h5:f≤5):e.a=0↔true∉t:=by
 rw [h.rep.zero_iff,zo3 h1 h5 k l t h.lk h.len]
theorem EdT.eq_iff {L:List Rc} {f n k l:Nat} {e e':Ed} {t t':List Bool} (hnd:L.Nodup) (h:EdT L f n k l e t) (h':EdT L f n k l e' t') (h1:1≤f) (h5:f≤5):e=e'↔t=t':=by
 rw [h.rep.eq_iff hnd h'.rep];exact ⟨fun e=>zb9 h1 h5 k l t t' h.lk h.len h'.len e,fun e=>by rw [e]⟩
theorem yi8 {k:Nat} {t:List Bool} (hl:t.length=2 ^ k) (h:true∉t):t=s (2 ^ k) false:=by
 rw [List.eq_replicate_iff]
 exact ⟨hl,fun b hb=>by cases b with
  | false=>rfl
  | true=>exact absurd hb h⟩
def zn9 (ones:Nat):Nat→Nat→List Bool
 | 0,_=>[true]
 | k+1,l=>(if ones.testBit l then s (2 ^ k) false else zn9 ones k (l+1))++zn9 ones k (l+1)
theorem zq5 (ones:Nat):∀k l,(zn9 ones k l).length=2 ^ k:=by
 intro k
 induction k with
 | zero=>intro l;rfl
 | succ k ih=>
  intro l;have hp:2 ^ (k+1)=2 ^ k *2:=H ..;rw [zn9,χ,ih];split
  ·rw [Qg];omega
  ·rw [ih];omega
theorem ys4 (b:Bool):∀k l y,atT k l y (s (2 ^ k) b)=b:=by
 intro k
 induction k with
 | zero=>intro l y;rfl
 | succ k ih=>
  intro l y;have hp:2 ^ (k+1)=2 ^ k+2 ^ k:=xA;rw [atT,hp,Qk,Ql,Qo,show min (2 ^ k) (2 ^ k+2 ^ k)=2 ^ k from QD (Qt _ _)];split<;>exact ih _ _
theorem zT1 (ones y:Nat):∀k l,(atT k l y (zn9 ones k l)=true↔∀i,l≤i→i < l+k→ones.testBit i=true→y.testBit i=true):=by
 intro k
 induction k with
 | zero=>intro l;exact ⟨fun _ i h1 h2=>V,fun _=>rfl⟩
 | succ k ih=>
  intro l
  have hl1:(if ones.testBit l=true then s (2 ^ k) false else zn9 ones k (l+1)).length=2 ^ k:=by
   split
   ·rw [Qg]
   ·exact zq5 _ _ _
  rw [zn9,atT,Θ hl1,Δ hl1];cases hy:y.testBit l with
  | true=>
   rw [if_pos rfl,ih]
   exact ⟨fun h i h1 h2 h3=>by
    rcases τ l i with q | q
    ·exact h i q (V) h3
    ·obtain rfl:i=l:=V
     exact hy,fun h i h1 h2 h3=>h i (V) (V) h3⟩
  | false=>
   rw [if_neg (ze)];by_cases ho:ones.testBit l=true
   ·rw [if_pos ho,ys4];exact ⟨fun h=>(zU),fun h=>by have:=h l (Qf _) (V) ho;rw [hy] at this;cases this⟩
   ·rw [if_neg ho,ih]
    exact ⟨fun h i h1 h2 h3=>by
     rcases τ l i with q | q
     ·exact h i q (V) h3
     ·obtain rfl:i=l:=V
      exact absurd h3 ho,fun h i h1 h2 h3=>h i (V) (V) h3⟩
theorem yb7 (n:Nat) (p:List Nat) (W:Nat) (hp:Perm p n) (hW:∀x,x < 2 ^ n→W.testBit x=true):zn9 0 n 0=Xz W p n 0 0:=by
 refine zA1 (n:=n) n 0 _ _ (V) (zq5 _ _ _) (Xl _ _ _ _ _) fun y hy=>?_
 rw [ze3,show zO6 p y n 0 0=zO9 p n y from rfl,hW _ (zh3 hp),zT1];intro i _ _ h;simp at h
theorem yb0 {n v k:Nat} {p:List Nat} {W:Nat} (hp:Perm p n) (hk:k < n) (hv:p.getD k 0=v) (hW:∀x,x < 2 ^ n→W.testBit x=x.testBit v):zn9 (2 ^ k) n 0=Xz W p n 0 0:=by
 refine zA1 (n:=n) n 0 _ _ (V) (zq5 _ _ _) (Xl _ _ _ _ _) fun y hy=>?_
 rw [ze3,show zO6 p y n 0 0=zO9 p n y from rfl,hW _ (zh3 hp),←hv,zc5 hp hk,J,zT1];constructor
 ·intro h;exact h k (V) (V) (by rw [X];simp)
 ·intro h i _ _ hi;rw [X,decide_eq_true_eq] at hi;rw [←hi];exact h
def zc6 (o:Nat) (a b c:List Bool):List Bool:=QJ (fun (x:Bool × Bool) z=>o.testBit (4 *x.1.toNat+2 *x.2.toNat+z.toNat)) (a.zip b) c
theorem ya6 {o:Nat} {a1 a2 b1 b2 c1 c2:List Bool} (h:a1.length=b1.length) (h':b1.length=c1.length):zc6 o (a1++a2) (b1++b2) (c1++c2)=zc6 o a1 b1 c1++zc6 o a2 b2 c2:=by
 unfold zc6;rw [List.zip_append h,Qi (by rw [List.length_zip];omega)]
theorem zL1 {o m:Nat} {a b c:List Bool} (ha:m≤a.length) (hb:m≤b.length) (hc:m≤c.length):zc6 o a b c=zc6 o (a.take m) (b.take m) (c.take m)++zc6 o (a.drop m) (b.drop m) (c.drop m):=by
 rw [←ya6 (qx) (qx),Q,Q,Q]
theorem zP7 {o m:Nat} (h:o.testBit 0=false):zc6 o (s m false) (s m false) (s m false)=s m false:=by
 induction m with
 | zero=>rfl
 | succ m ih=>
  rw [Qm];have:zc6 o (false::s m false) (false::s m false) (false::s m false)=o.testBit 0::zc6 o (s m false) (s m false) (s m false):=rfl;rw [this,ih,h]
def Xy (o:Nat):Nat:=XE 8 (fun k=>o.testBit (k / 2))
theorem zY8 (o:Nat) (a b c:Bool):(Xy o).testBit (4 *a.toNat+2 *b.toNat+c.toNat)=o.testBit (2 *a.toNat+b.toNat):=by
 unfold Xy;rw [YV]
 ·cases a<;>cases b<;>cases c<;>rfl
 ·cases a<;>cases b<;>cases c<;>decide
theorem zu0 {o m:Nat}:∀{a b c:List Bool},a.length=m→b.length=m→c.length=m→zc6 (Xy o) a b c=za9 o a b:=by
 induction m with
 | zero=>
  intro a b c ha hb hc;obtain rfl:=σ.1 ha;obtain rfl:=σ.1 hb;obtain rfl:=σ.1 hc;rfl
 | succ m ih=>
  intro a b c ha hb hc
  match a,b,c,ha,hb,hc with
  | x::a,y::b,z::c,ha,hb,hc=>
   simp at ha hb hc;show (Xy o).testBit (4 *x.toNat+2 *y.toNat+z.toNat)::zc6 (Xy o) a b c=o.testBit (2 *x.toNat+y.toNat)::za9 o a b;rw [zY8,ih ha hb hc]
theorem wideN_vals:Xy 3=15∧Xy 6=60∧Xy 8=192∧Xy 9=195∧Xy 11=207∧Xy 14=252:=zL
theorem zV4 (c:Nat) (m:Nat) (h:c.testBit 0=false):za9 c (s m false) (s m false)=s m false:=by
 induction m with
 | zero=>rfl
 | succ m ih=>
  rw [Qm];have:za9 c (false::s m false) (false::s m false)=c.testBit 0::za9 c (s m false) (s m false):=rfl;rw [this,ih,h]
theorem zr3 (m:Nat) (b:Bool):s (2 ^ m) b++s (2 ^ m) b=s (2 ^ (m+1)) b:=by
 rw [List.replicate_append_replicate,H,QK]
theorem zh5 (m:Nat) (b:Bool):(s (2 ^ (m+1)) b).take (2 ^ m)=s (2 ^ m) b∧(s (2 ^ (m+1)) b).drop (2 ^ m)=s (2 ^ m) b:=by
 have hp:2 ^ (m+1)=2 ^ m+2 ^ m:=by rw [H,QK]
 rw [Ql,Qk,hp,Qo,show min (2 ^ m) (2 ^ m+2 ^ m)=2 ^ m from QD (Qt _ _)];exact ⟨rfl,rfl⟩
theorem yh4 (lv:Nat) (each:Bool):∀k l,qtT lv each k l (s (2 ^ k) false)=s (2 ^ k) false:=by
 intro k
 induction k with
 | zero=>intro l;rfl
 | succ k ih=>
  intro l;obtain ⟨h1,h2⟩:=zh5 k false;rw [qtT,h1,h2,ih];split
  ·rw [zV4 _ _ (by cases each<;>rfl),zr3]
  ·rw [zr3]
theorem zm1:∀k l,zn9 0 k l=s (2 ^ k) true:=by
 intro k
 induction k with
 | zero=>intro l;rfl
 | succ k ih=>
  intro l;rw [zn9,if_neg (ze),ih,zr3]
def exT (n:Nat) (p:List Nat) (x:Ex):List Bool:=Xz (exW n x) p n 0 0
theorem zv2 (n:Nat) (x:Ex):exW n x < 2 ^ (2 ^ n):=Xj _ _
theorem Xw {n y:Nat} (x:Ex) (hy:y < 2 ^ n):(exW n x).testBit y=evE n x y:=YV _ hy
theorem zx7 (p:List Nat):∀k l x,Xz 0 p k l x=s (2 ^ k) false:=by
 intro k
 induction k with
 | zero=>intro l x;simp [Xz]
 | succ k ih=>intro l x;rw [Xz,ih,ih,zr3]
theorem yw3 {n:Nat} {p:List Nat} (hp:Perm p n) (b:Bool):s (2 ^ n) b=exT n p (.con b):=by
 cases b with
 | true=>rw [←zm1 n 0];exact yb7 n p _ hp fun x hx=>Xw _ hx
 | false=>
  have:exW n (.con false)=0:=zr1 (zv2 _ _) (Γ _) fun x hx=>by rw [Xw _ hx];simp [evE]
  unfold exT;rw [this,zx7]
theorem yt0 {n v k:Nat} {p:List Nat} (hp:Perm p n) (hk:k < n) (hv:p.getD k 0=v):zn9 (2 ^ k) n 0=exT n p (.var v):=
 yb0 hp hk hv fun x hx=>Xw _ hx
theorem yq9 {n:Nat} {p:List Nat} (hp:Perm p n) (x:Ex):za9 3 (exT n p x) (s (2 ^ n) false)=exT n p (.not x):=by
 rw [←zx7 p n 0 0];refine (zF0 (n:=n) (o:=3) hp.lt hp.len (fun y hy=>?_) n 0 0 (V) (Γ _)).symm;rw [Xw _ hy,Xw _ hy];simp only [evE,Qs,Bool.toNat_false,Nat.add_zero];cases evE n x y<;>rfl
theorem yy9 {n:Nat} {p:List Nat} (hp:Perm p n) (op:Nat) (a b:Ex):za9 (XM op) (exT n p a) (exT n p b)=exT n p (.bin op a b):=by
 refine (zF0 (n:=n) (o:=XM op) hp.lt hp.len (fun y hy=>?_) n 0 0 (V) (Γ _)).symm;rw [Xw _ hy,Xw _ hy,Xw _ hy,zl7];rfl
theorem yr3 {n lv:Nat} {p:List Nat} (hp:Perm p n) (each:Bool) (l:List Nat) (x:Ex) (hlv:∀i,i < n→(lv.testBit i=true↔p.getD i 0∈l)):qtT lv each n 0 (exT n p x)=exT n p (.bnd each l x):=by
 refine (yx3 hp hlv fun y hy=>?_).symm;rw [Xw _ hy];show quB each n l (evE n x) y=true↔_;rw [zD4];exact Qu.congr (fun _ _=>Iff.rfl) fun z hz=>(Xw _ hz).symm
theorem yg1 {n W W':Nat} {p:List Nat} (hp:Perm p n) (hW:W < 2 ^ (2 ^ n)) (hW':W' < 2 ^ (2 ^ n)):Xz W p n 0 0=Xz W' p n 0 0↔W=W':=by
 constructor
 ·intro h;refine zr1 hW hW' fun x hx=>?_
  have e1:=ze3 W p (lvA p x n) n 0 0;have e2:=ze3 W' p (lvA p x n) n 0 0;rw [show zO6 p (lvA p x n) n 0 0=zO9 p n (lvA p x n) from rfl,zl2 hp hx] at e1 e2;rw [←e1,←e2,h]
 ·intro h;rw [h]
open Go.RowKit
def zg2 (n W:Nat) (p:List Nat) (f:Nat):Nat:=(dis [] (nds (YE f n n 0 (Xz W p n 0 0)).2)).length
def Xi (n W:Nat) (p:List Nat):List Nat:=[zg2 n W p 1,zg2 n W p 2,zg2 n W p 3,zg2 n W p 4,zg2 n W p 5]
theorem zQ6 (n W:Nat) (p:List Nat) (k:Nat) (h:k < 5):(Xi n W p).take (k+1)=(Xi n W p).take k++[zg2 n W p (k+1)]:=by
 obtain rfl | rfl | rfl | rfl | rfl:k=0∨k=1∨k=2∨k=3∨k=4:=V
 all_goals rfl
def yo3 (w:η) (n W:Nat) (p:List Nat) (e:Ending) (w':η):Prop:=∃v,e=G (QM #[v,Y θ 0])∧NewV 3 w ((Xi n W p).map ei) w' v
theorem yv4 {w:η} {bo n g cap W:Nat} {p q Fo:List Nat} (hO:IsOrd w bo p q Fo) (c0:w.cell? ⟨g,0,ρ⟩=ψ (Y .u64 W)) (hn:n≤5) (hp:p.length=n) (hpv:∀v∈p,v < n) (hW:W < 2 ^ (2 ^ n))
 (hsz:∀f,1≤f→f≤5→tsz (YE f n n 0 (Xz W p n 0 0)).2≤1000000∧zg2 n W p f≤12):
 Qa K 131 #[Ψ (ψ ⟨bo,0,ρ⟩),.agg #[Y ι n,Qc (ψ ⟨g,0,ρ⟩) 1 cap]] w (yo3 w n W p):=by
 have hgl:=World.block_lt_of_cell? w _ c0;simp only at hgl;obtain ⟨i0,hi,hz0,hz1,hz2⟩:=info_parts Tryz.info3;have h2n:2 ^ n≤32:=xo
 have VO:Hid (∀W',ζ [] w W'→Qa K 31 #[Ψ (ψ ⟨bo,0,ρ⟩)] W' fun e w'=>e=G (Y ι n)∧w'=W'):=fun W' m=>by
  have:=Xh (hO.mod m (ze));rw [hp] at this;exact this
 have NW:Hid (∀W',Qa K 24 #[Y ι n,Y ι 1048576] W' fun e w'=>∃b F,e=G (QM #[Ψ (ψ ⟨b,0,ρ⟩),Y θ 0])∧IsSt w' b n [] 1048576 F∧ζ [] W' w'∧∀k∈F,W'.heap.size≤k):=fun W'=>zz9 n 1048576 (V) (V) W'
 have BO:Hid (∀(W':η) (b f:Nat) (F:List Nat),ζ [] w W'→IsSt W' b n [] 1048576 F→(∀k∈F,w.heap.size≤k)→1≤f→f≤5→Qa K 32 #[Ψ (ψ ⟨b,0,ρ⟩),Ψ (ψ ⟨bo,0,ρ⟩),Y θ f,.agg #[Y ι n,Qc (ψ ⟨g,0,ρ⟩) 1 cap]] W' (OfP W' b n 1048576 F [] f (YE f n n 0 (Xz W p n 0 0)))):=fun W' b f F m hs hF h1 h5=>
  zv3 hs (hO.mod m (ze)) ((m.cell (a:=⟨g,0,ρ⟩) hgl (ze)).trans c0) (fun k hk h=>by
   have h3:=hF k h;rcases Qj.1 hk with rfl | hk
   ·omega
   ·have:=hO.lt k hk;omega) h1 h5 hn hp hpv (V) hW (Good.nil n) (ze) (zj) (zj)
 have SZ:Hid (∀(W':η) (b f:Nat) (F:List Nat) (L:List Rc) (e:Ed),IsSt W' b n L 1048576 F→L.length+1≤2 ^ n→L.Nodup→1≤f→f≤5→LeadsP L f e 0 n→RepE L f e (YE f n n 0 (Xz W p n 0 0))→
  Qa K 151 #[Ψ (ψ ⟨b,0,ρ⟩),Y θ f,edv e,Y ι 0] W' fun e w'=>e=G (QM #[Y ι (zg2 n W p f),Y θ 0])∧ζ [] W' w'):=fun W' b f F L e a1 a2 a3 a4 a5 a6 a7=>by
  exact ze5 a1 (V) a3 (V) f a4 a5 e 0 (V) a6 a7 (hsz f a4 a5).1 (hsz f a4 a5).2
 obtain ⟨gk,hgk⟩:∃gk,w.heap.size=gk:=⟨_,rfl⟩;clear hO c0 hpv hW hsz hp;go_in;go_wp2_with fail;have B0:=Z (Blk.new' w #[Y ι n,Qc (ψ ⟨g,0,ρ⟩) 1 cap] 88 gk hgk.symm);have M0:Hid (ζ [] w (w.alloc (.cells #[Y ι n,Qc (ψ ⟨g,0,ρ⟩) 1 cap] 88))):=(Mod.refl _ _).alloc _;generalize w.alloc (.cells #[Y ι n,Qc (ψ ⟨g,0,ρ⟩) 1 cap] 88)=w0 at *;have HGK:=Z hgk;clear hgk
 go_loopw [6,7] (fun v f wr=>∃k:Nat,1≤k∧k≤6∧f=Y θ k∧Hid (NewV 3 w0 (((Xi n W p).take (k - 1)).map ei) wr v)∧Hid (ζ [] w0 wr)) (fun _ f _=>6 - (intOf f).toNat)
 case atStart=>exact ⟨1,V,V,rfl,NewV.nil _ (Mod.refl _ _),Mod.refl _ _⟩
 case round=>
  obtain ⟨k,hk0,hk,rfl,HN,HM⟩:=hrel;by_cases hlt:k≤5
  ·have hk1:(k:Int)≤5:=V;have MW:=Z (M0.out.trans' HM.out);have BW:=Z (B0.out.mod HM.out (ze));go_wp2_with fail;refine (VO.out _ MW.out).mono ?_;rintro e w1 ⟨rfl,rfl⟩;go_wp2_with fail;refine (NW.out _).mono ?_;rintro e w2 ⟨b,F,rfl,s2,m2,f2⟩;have S2:=Z s2;have F2:=Z f2;have M2:=Z (MW.out.trans' m2);have MR2:=Z m2;have BW2:=Z (BW.out.mod m2 (ze));obtain ⟨q0,q1⟩:=BW2.out.cells2;have hgl2:=BW2.out.lt;clear s2 f2 m2;go_wp2_with fail;refine (BO.out w2 b k F M2.out S2.out (fun x hx=>QH MW.out.size (F2.out x hx)) (V) (V)).mono ?_;rintro e w3 ⟨⟨t2,a2⟩,L2,F3,rfl,s3,m3,f3,g3,nd3,le3,re3,len3⟩;have MR3:=Z (MR2.out.trans m3 (by intro i hi h;have:=F2.out i h;omega));have BW3:=Z (BW.out.mod MR3.out (ze));have SZ3:=Z (fun W' (m:ζ [] w3 W')=>SZ.out W' b k F3 ([]++L2) ⟨t2,a2⟩ (s3.mod m (ze)) (by simpa using len3) nd3 (V) (V) le3 re3);clear s3 m3 f3 g3 nd3 le3 re3 len3 q0 q1;obtain ⟨gx,hgx⟩:∃gx,w3.heap.size=gx:=⟨_,rfl⟩;unfold edv at *;go_wp2_with fail;refine (SZ3.out _ (zg)).mono ?_;rintro e w4 ⟨rfl,m4⟩;have MR4:=Z (MR3.out.trans' ((show ζ [] w3 (w3.alloc (.cells #[Y θ t2,Y ω a2] 44)) from zg).trans' m4));have HN4:=Z (HN.out.later MR4.out);have BW4:=Z (BW.out.mod MR4.out (ze));obtain ⟨j,rfl⟩:∃j,k=j+1:=⟨k - 1,V⟩;have ST:Hid ((Xi n W p).take (j+1+1 - 1)=(Xi n W p).take (j+1 - 1)++[zg2 n W p (j+1)]):=zQ6 n W p j (V);obtain ⟨Fo',so,mo,fo⟩:=HN4.out;have e0:(((Xi n W p).take (j+1 - 1)).map ei).length=j:=by simp [Xi];omega
   obtain ⟨Ao,capo,rfl,hcapo⟩:=so.shape;rw [e0] at so hcapo HN HN4 ⊢;have SO:=Z so;have MO:=Z mo;have FO:=Z fo;have LO:=Z e0;clear so mo fo hcapo e0 m4 SZ3;generalize zg2 n W p (j+1)=z at *;generalize (Xi n W p).take (j+1 - 1)=zs at *;go_wp2_with (at_builtin;refine YF _ rfl _ _ 22 rfl 3 i0 (.int ι 0) 1 8 Tryz.underlying22 hi hz0 hz1 hz2 rfl (zi) _ j (zs.map ei) Fo' rfl (SO.out.mod (S:=[]) (zg) (ze)) ⟨_,0,ρ⟩ 1 1 [ei z] (zi) rfl rfl (zM) (yi) (zx) (V) ?_;intro v5 w5 F5 hs5 hm5 hf5;have N5:=Z (NewV.app (l:=zs.map ei) (l2:=[ei z]) MO.out FO.out LO.out rfl (zg) hs5 hm5 hf5);obtain ⟨a5,cap5,rfl,_⟩:=hs5.shape;clear hs5 hm5 hf5);refine ⟨⟨j+1+1,V,V,by go_num,?_,N5.out.mod⟩,zR⟩;have e:(Xi n W p).take (j+1+1 - 1)=zs++[z]:=ST.out;show NewV _ _ _ _ _;rw [e,Qv];exact N5.out
  ·obtain rfl:k=6:=V;go_wp2_with fail;go_ret2;exact ⟨_,rfl,HN.out.after M0.out⟩
end Go.Proofs.YtbnpoapmnkfhkaaGreatDoor
