import Derived.Test.YtbnpoapmnkfhkaaGreatDoorZt17
import Derived.Laws.EntriesVeiled
set_option maxRecDepth 100000
set_option maxHeartbeats 4000000
set_option linter.unusedVariables false
set_option linter.unusedSimpArgs false
namespace Go.Proofs.YtbnpoapmnkfhkaaGreatDoor
open Go.Value renaming pointer → z, int → g
open Option renaming some → s, none → p
open Go.Obj renaming cells → o
open Go.Lib renaming hid → l
open Go.RowKit
def EdRow (w:World) (A:Option Addr) (k cap:Nat) (es:List Ed):Prop:=
 k=es.length∧k≤cap∧∀i,(hi:i < es.length)→∃gb off,A=s ⟨gb,off,p⟩∧gb < w.heap.size∧w.cell? ⟨gb,off+i *2,p⟩=s (g .u8 es[i].t)∧w.cell? ⟨gb,off+i *2+1,p⟩=s (g .u32 es[i].a)
theorem EdRow.mod {w w':World} {A:Option Addr} {k cap:Nat} {es:List Ed} (h:EdRow w A k cap es) (m:Mod [] w w'):EdRow w' A k cap es:=by
 refine ⟨h.1,h.2.1,fun i hi=>?_⟩;obtain ⟨gb,off,rfl,hl,c1,c2⟩:=h.2.2 i hi;exact ⟨gb,off,rfl,Nat.lt_of_lt_of_le hl m.size,(m.cell (a:=⟨gb,_,p⟩) hl (ze)).trans c1,(m.cell (a:=⟨gb,_,p⟩) hl (ze)).trans c2⟩
def ze2 (L:List Rc) (es:List Ed) (ts:List (Nat × Tr)):Prop:=es.length=ts.length∧∀i,(h:i < es.length)→(k:i < ts.length)→Rep L ts[i].1 es[i].a ts[i].2
def zn8 (ts:List (Nat × Tr)):Nat:=(ts.map fun x=>tsz x.2).sum
theorem zE5 (a b:List (Nat × Tr)):zn8 (a++b)=zn8 a+zn8 b:=by unfold zn8;rw [List.map_append,List.sum_append]
theorem zE3 (x:Nat × Tr):zn8 [x]=tsz x.2:=by simp [zn8]
def Xm (L:List Rc) (ts:List (Nat × Tr)) (j:Nat):Prop:=∃x∈ts,zf4 L x.1 x.2 j
theorem zC4 {L:List Rc} {ts:List (Nat × Tr)} {x:Nat × Tr} (j:Nat):Xm L (ts++[x]) j↔Xm L ts j∨zf4 L x.1 x.2 j:=by
 unfold Xm;constructor
 ·rintro ⟨y,hy,h⟩;rcases List.mem_append.1 hy with h2 | h2
  ·exact .inl ⟨y,h2,h⟩
  ·simp at h2;subst h2;exact .inr h
 ·rintro (⟨y,hy,h⟩ | h)
  ·exact ⟨y,yg,h⟩
  ·exact ⟨x,ze,h⟩
theorem Rep.form {L:List Rc} {f f' id:Nat} {S T:Tr} {t b tl th:Nat} {x y:Tr} (h:Rep L f id T) (hT:T=.node t b tl x th y) (k:Rep L f' id S):f=f':=by
 subst hT;obtain ⟨r,h1,h2,_⟩:=h.inv;cases k with
 | zero=>have:=YJ h1;omega
 | one=>have:=YJ h1;omega
 | node k1 k2=>rw [h1] at k1;cases k1;exact h2.symm.trans k2
theorem Cl.all {L:List Rc} {ts:List (Nat × Tr)} {f m:Nat}:Cl L f (Xm L ts) m:=by
 intro id S hid hS hlt j hj;obtain ⟨x,hx,U,hU,hr⟩:=hid;obtain ⟨t,b,tl,u,th,v,e⟩:=yk5 hU;have ef:=hr.form e hS;subst ef;exact ⟨x,hx,zD6 ⟨U,hU,hr⟩ hS hj⟩
def yi3 (w:World) (L:List Rc) (ts:List (Nat × Tr)) (e:Ending) (w':World):Prop:=
 ∃bm nm,e=.returned (.map (s bm))∧IsVis w' bm nm (Xm L ts)∧nm≤zn8 ts∧w.heap.size≤bm∧Mod [] w w'
theorem zt7 {w:World} {b n:Nat} {L:List Rc} {room:Nat} {F:List Nat} (h:IsSt w b n L room F) (hL:L.length≤1048576) (hnd:L.Nodup) {A:Option Addr} {k cap:Nat} {es:List Ed} (hes:EdRow w A k cap es) {ts:List (Nat × Tr)} (hts:ze2 L es ts)
 (hk:k≤100000) (hsz:zn8 ts≤1000000):
 Calls Tryz.prog 153 #[z (s ⟨b,0,p⟩),.slice A k cap] w (yi3 w L ts):=by
 obtain ⟨gk,hgk⟩:∃gk,w.heap.size=gk:=⟨_,rfl⟩;have hF:∀k∈F,k < gk:=fun k hk=>by have:=h.lt k hk;omega
 have HS:=l h;have HES:=l hes;have HTS:=l hts;have HSZ:=l hsz;have HND:=l hnd;have HF:=l hF;have hcap:=hes.2.1;have hmk:=@run_makeMap Tryz.prog;clear h hes hts hsz hnd hF;go_in;go_wp2_with fail;have M0:Hid (Mod [] w ((((w.alloc (o #[z (s ⟨b,0,p⟩)] 30)).alloc (.map #[] 0)).alloc (o #[.map (s (gk+1))] 272)).alloc (o #[.func (.func 177) #[] #[z (s ⟨gk,0,p⟩),z (s ⟨gk+1+1,0,p⟩),z (s ⟨gk+1+1+1,0,p⟩)]] 291))):=zg
 have S0:Hid (VSt ((((w.alloc (o #[z (s ⟨b,0,p⟩)] 30)).alloc (.map #[] 0)).alloc (o #[.map (s (gk+1))] 272)).alloc (o #[.func (.func 177) #[] #[z (s ⟨gk,0,p⟩),z (s ⟨gk+1+1,0,p⟩),z (s ⟨gk+1+1+1,0,p⟩)]] 291)) b n L room F gk (gk+1+1) (gk+1+1+1) (gk+1)):=⟨HS.out.mod M0.out (ze),
  by rw [((((Blk.new' w #[z (s ⟨b,0,p⟩)] 30 gk hgk.symm).alloc (.map #[] 0)).alloc (o #[.map (s (gk+1))] 272)).alloc (o #[.func (.func 177) #[] #[z (s ⟨gk,0,p⟩),z (s ⟨gk+1+1,0,p⟩),z (s ⟨gk+1+1+1,0,p⟩)]] 291)).cell 0];rfl,
  by rw [((Blk.new' ((w.alloc (o #[z (s ⟨b,0,p⟩)] 30)).alloc (.map #[] 0)) #[.map (s (gk+1))] 272 (gk+1+1) (zk)).alloc (o #[.func (.func 177) #[] #[z (s ⟨gk,0,p⟩),z (s ⟨gk+1+1,0,p⟩),z (s ⟨gk+1+1+1,0,p⟩)]] 291)).cell 0];rfl,
  by rw [(Blk.new' (((w.alloc (o #[z (s ⟨b,0,p⟩)] 30)).alloc (.map #[] 0)).alloc (o #[.map (s (gk+1))] 272)) #[.func (.func 177) #[] #[z (s ⟨gk,0,p⟩),z (s ⟨gk+1+1,0,p⟩),z (s ⟨gk+1+1+1,0,p⟩)]] 291 (gk+1+1+1) (zk)).cell 0];rfl⟩
 have V0:Hid (IsVis ((((w.alloc (o #[z (s ⟨b,0,p⟩)] 30)).alloc (.map #[] 0)).alloc (o #[.map (s (gk+1))] 272)).alloc (o #[.func (.func 177) #[] #[z (s ⟨gk,0,p⟩),z (s ⟨gk+1+1,0,p⟩),z (s ⟨gk+1+1+1,0,p⟩)]] 291)) (gk+1) 0 (fun _=>False)):=(IsVis.made (w.alloc (o #[z (s ⟨b,0,p⟩)] 30)) (gk+1) (zk)).mod (show Mod [] _ ((((w.alloc (o #[z (s ⟨b,0,p⟩)] 30)).alloc (.map #[] 0)).alloc (o #[.map (s (gk+1))] 272)).alloc (o #[.func (.func 177) #[] #[z (s ⟨gk,0,p⟩),z (s ⟨gk+1+1,0,p⟩),z (s ⟨gk+1+1+1,0,p⟩)]] 291)) from zg) (ze);have Z0:Hid (((((w.alloc (o #[z (s ⟨b,0,p⟩)] 30)).alloc (.map #[] 0)).alloc (o #[.map (s (gk+1))] 272)).alloc (o #[.func (.func 177) #[] #[z (s ⟨gk,0,p⟩),z (s ⟨gk+1+1,0,p⟩),z (s ⟨gk+1+1+1,0,p⟩)]] 291)).heap.size=gk+4):=by show _=_;simp [hgk]
 generalize (((w.alloc (o #[z (s ⟨b,0,p⟩)] 30)).alloc (.map #[] 0)).alloc (o #[.map (s (gk+1))] 272)).alloc (o #[.func (.func 177) #[] #[z (s ⟨gk,0,p⟩),z (s ⟨gk+1+1,0,p⟩),z (s ⟨gk+1+1+1,0,p⟩)]] 291)=w0 at *;have HGK:=l hgk;clear hmk hgk
 go_loopw [13] (fun i wr=>∃j nm:Nat,j≤k∧i=g .i64 j∧Hid (VSt wr b n L room F gk (gk+1+1) (gk+1+1+1) (gk+1))∧Hid (IsVis wr (gk+1) nm (Xm L (ts.take j)))∧Hid (nm≤zn8 (ts.take j))∧Hid (Mod [gk+1] w0 wr)) (fun i _=>k - (intOf i).toNat)
 case atStart=>exact ⟨0,0,zc,rfl,S0,V0.out.congr (fun j=>by simp [Xm]),yc,Mod.refl _ _⟩
 case round=>
  obtain ⟨j,nm,hj,rfl,HV,HI,HN,HM⟩:=hrel;clear S0 V0;have MW:=l (M0.out.trans HM.out (by intro i hi h;have:=HGK.out;simp at h;omega))
  have hbm:Hid (∀q∈gk::(gk+1+1)::(gk+1+1+1)::F,q≠gk+1):=fun q hq=>by
   simp at hq;rcases hq with rfl | rfl | rfl | hq
   ·omega
   ·omega
   ·omega
   ·have:=HF.out q hq;omega
  by_cases hlt:j < k
  ·have hlt':(j:Int) < k:=zc;have hje:j < es.length:=by rw [←HES.out.1];exact hlt
   have hjt:j < ts.length:=by rw [←HTS.out.1];exact hje
   obtain ⟨gb,off,rfl,hgl,c1,c2⟩:=(HES.out.mod MW.out).2.2 j hje;have RP:=l (HTS.out.2 j hje hjt);have TK:Hid (ts.take (j+1)=ts.take j++[ts[j]]):=List.take_succ_eq_append_getElem hjt
   have TB:Hid (zn8 (ts.take (j+1))=zn8 (ts.take j)+tsz ts[j].2∧zn8 (ts.take (j+1))≤zn8 ts):=by
    refine ⟨by rw [TK.out,zE5,zE3],?_⟩;have e:ts=ts.take (j+1)++ts.drop (j+1):=(List.take_append_drop _ _).symm
    have e2:zn8 ts=zn8 (ts.take (j+1))+zn8 (ts.drop (j+1)):=by
     conv=>lhs;rw [e]
     rw [zE5]
    omega
   have VC:Hid (∀W',Mod [] wr W'→Calls Tryz.prog 177 #[.agg #[g .u8 es[j].t,g .u32 es[j].a],z (s ⟨gk,0,p⟩),z (s ⟨gk+1+1,0,p⟩),z (s ⟨gk+1+1+1,0,p⟩)] W' (yI0 W' (gk+1) nm L ts[j].1 ts[j].2 (Xm L (ts.take j)))):=fun W' m=>
    yw4 hL hbm.out HND.out ts[j].2 W' _ (tsz ts[j].2+1) nm _ _ (HV.out.mod m (ze)) (HI.out.mod m (ze)) RP.out Cl.all (zc) (by
     have h1:=HN.out;have h2:=TB.out;have h3:=HSZ.out
     omega)
   have CV:=HV.out.v;have hvl:=World.block_lt_of_cell? wr _ CV;simp only at hvl;generalize es[j].t=et at *;generalize es[j].a=ea at *;generalize ts[j]=tj at *;clear hje hjt;go_wp2_with fail;refine (VC.out _ (zg)).mono ?_;rintro e w2 ⟨rfl,m2,n2,hn2,hv2⟩;have HM2:=l ((HM.out.alloc (o #[g .u8 et,g .u32 ea] 44)).trans' m2);have HV2:=l ((HV.out.mod (show Mod [] wr (wr.alloc (o #[g .u8 et,g .u32 ea] 44)) from zg) (ze)).mod m2 (fun q hq=>by have:=hbm.out q hq;simp;exact this));have HI2:=l hv2;have HN2:=l hn2;clear m2 hv2 hn2;go_wp2_with fail;go_roundw
   case rel=>exact ⟨j+1,n2,zc,by go_num,HV2,HI2.out.congr (fun q=>by rw [TK.out];exact (zC4 q).symm),by
    show _≤_;have h1:=HN.out;have h2:=TB.out.1;have h3:=HN2.out
    omega,HM2⟩
   case measure=>simp [intOf];omega
  ·obtain rfl:j=k:=zc;have IC:=HV.out.i;go_wp2_with fail;go_ret;have e:ts.take j=ts:=List.take_of_length_le (by rw [←HTS.out.1,←HES.out.1];exact Nat.le_refl _);have h1:=HI.out;have h2:=HN.out;rw [e] at h1 h2;exact ⟨gk+1,nm,rfl,h1,h2,by have:=HGK.out;omega,MW.out⟩
end Go.Proofs.YtbnpoapmnkfhkaaGreatDoor
