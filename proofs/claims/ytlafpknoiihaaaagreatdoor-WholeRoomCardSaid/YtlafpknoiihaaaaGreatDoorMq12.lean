/- Mq12: Vk -/
import Derived.Test.YtlafpknoiihaaaaGreatDoorMq11
import Derived.Laws.EntriesVeiled
set_option maxRecDepth 100000
set_option maxHeartbeats 4000000
set_option linter.unusedVariables false
set_option linter.unusedSimpArgs false
namespace Go.Proofs.YtlafpknoiihaaaaGreatDoor
open Go.RowKit
def EdRow (w:World) (A:Option Addr) (k cap:Nat) (es:List Ed):Prop:=
 k=es.length∧k≤cap∧∀i,(hi:i < es.length)→∃gb off,A=some ⟨gb,off,none⟩∧gb < w.heap.size∧w.cell? ⟨gb,off+i *2,none⟩=some (.int .u8 es[i].t)∧w.cell? ⟨gb,off+i *2+1,none⟩=some (.int .u32 es[i].a)
theorem EdRow.mod {w w':World} {A:Option Addr} {k cap:Nat} {es:List Ed} (h:EdRow w A k cap es) (m:Mod [] w w'):EdRow w' A k cap es:=by
 refine ⟨h.1,h.2.1,fun i hi=>?_⟩
 obtain ⟨gb,off,rfl,hl,c1,c2⟩:=h.2.2 i hi
 exact ⟨gb,off,rfl,Nat.lt_of_lt_of_le hl m.size,(m.cell (a:=⟨gb,_,none⟩) hl (by simp)).trans c1,(m.cell (a:=⟨gb,_,none⟩) hl (by simp)).trans c2⟩
def EdTrees (L:List Rc) (es:List Ed) (ts:List (Nat × Tr)):Prop:=es.length=ts.length∧∀i,(h:i < es.length)→(k:i < ts.length)→Rep L ts[i].1 es[i].a ts[i].2
def tszs (ts:List (Nat × Tr)):Nat:=(ts.map fun x=>tsz x.2).sum
theorem tszs_app (a b:List (Nat × Tr)):tszs (a++b)=tszs a+tszs b:=by unfold tszs;rw [List.map_append,List.sum_append]
theorem tszs_one (x:Nat × Tr):tszs [x]=tsz x.2:=by simp [tszs]
def idsAll (L:List Rc) (ts:List (Nat × Tr)) (j:Nat):Prop:=∃x∈ts,idsOf L x.1 x.2 j
theorem idsAll_snoc {L:List Rc} {ts:List (Nat × Tr)} {x:Nat × Tr} (j:Nat):idsAll L (ts++[x]) j↔idsAll L ts j∨idsOf L x.1 x.2 j:=by
 unfold idsAll
 constructor
 ·rintro ⟨y,hy,h⟩
  rcases List.mem_append.1 hy with h2 | h2
  ·exact .inl ⟨y,h2,h⟩
  ·simp at h2;subst h2;exact .inr h
 ·rintro (⟨y,hy,h⟩ | h)
  ·exact ⟨y,by simp [hy],h⟩
  ·exact ⟨x,by simp,h⟩
theorem Rep.form {L:List Rc} {f f' id:Nat} {S T:Tr} {t b tl th:Nat} {x y:Tr} (h:Rep L f id T) (hT:T=.node t b tl x th y) (k:Rep L f' id S):f=f':=by
 subst hT
 obtain ⟨r,h1,h2,_⟩:=h.inv
 cases k with
 | zero=>have:=recAt_lt h1;omega
 | one=>have:=recAt_lt h1;omega
 | node k1 k2=>rw [h1] at k1;cases k1;exact h2.symm.trans k2
theorem Cl.all {L:List Rc} {ts:List (Nat × Tr)} {f m:Nat}:Cl L f (idsAll L ts) m:=by
 intro id S hid hS hlt j hj
 obtain ⟨x,hx,U,hU,hr⟩:=hid
 obtain ⟨t,b,tl,u,th,v,e⟩:=nds_node hU
 have ef:=hr.form e hS
 subst ef
 exact ⟨x,hx,idsOf_in ⟨U,hU,hr⟩ hS hj⟩
def ReachedP (w:World) (L:List Rc) (ts:List (Nat × Tr)) (e:Ending) (w':World):Prop:=
 ∃bm nm,e=.returned (.map (some bm))∧IsVis w' bm nm (idsAll L ts)∧nm≤tszs ts∧w.heap.size≤bm∧Mod [] w w'
theorem reached_c {w:World} {b n:Nat} {L:List Rc} {room:Nat} {F:List Nat} (h:IsSt w b n L room F) (hL:L.length≤1048576) (hnd:L.Nodup) {A:Option Addr} {k cap:Nat} {es:List Ed} (hes:EdRow w A k cap es) {ts:List (Nat × Tr)} (hts:EdTrees L es ts)
 (hk:k≤100000) (hsz:tszs ts≤1000000):
 Calls Tryz.prog 131 #[.pointer (some ⟨b,0,none⟩),.slice A k cap] w (ReachedP w L ts):=by
 obtain ⟨gk,hgk⟩:∃gk,w.heap.size=gk:=⟨_,rfl⟩
 have hF:∀k∈F,k < gk:=fun k hk=>by have:=h.lt k hk;omega
 have HS:=Lib.hid h
 have HES:=Lib.hid hes
 have HTS:=Lib.hid hts
 have HSZ:=Lib.hid hsz
 have HND:=Lib.hid hnd
 have HF:=Lib.hid hF
 have hcap:=hes.2.1
 have hmk:=@run_makeMap Tryz.prog
 clear h hes hts hsz hnd hF
 go_enter Tryz.func131,Tryz.ntmps131
 go_wp2_with fail
 have M0:Hid (Mod [] w ((((w.alloc (.cells #[.pointer (some ⟨b,0,none⟩)] 54)).alloc (.map #[] 0)).alloc (.cells #[.map (some (gk+1))] 227)).alloc (.cells #[.func (.func 152) #[] #[.pointer (some ⟨gk,0,none⟩),.pointer (some ⟨gk+1+1,0,none⟩),.pointer (some ⟨gk+1+1+1,0,none⟩)]] 249))):=by exact mods
 have S0:Hid (VSt ((((w.alloc (.cells #[.pointer (some ⟨b,0,none⟩)] 54)).alloc (.map #[] 0)).alloc (.cells #[.map (some (gk+1))] 227)).alloc (.cells #[.func (.func 152) #[] #[.pointer (some ⟨gk,0,none⟩),.pointer (some ⟨gk+1+1,0,none⟩),.pointer (some ⟨gk+1+1+1,0,none⟩)]] 249)) b n L room F gk (gk+1+1) (gk+1+1+1) (gk+1)):=⟨HS.out.mod M0.out (by simp),
  by rw [((((Blk.new' w #[.pointer (some ⟨b,0,none⟩)] 54 gk hgk.symm).alloc (.map #[] 0)).alloc (.cells #[.map (some (gk+1))] 227)).alloc (.cells #[.func (.func 152) #[] #[.pointer (some ⟨gk,0,none⟩),.pointer (some ⟨gk+1+1,0,none⟩),.pointer (some ⟨gk+1+1+1,0,none⟩)]] 249)).cell 0];rfl,
  by rw [((Blk.new' ((w.alloc (.cells #[.pointer (some ⟨b,0,none⟩)] 54)).alloc (.map #[] 0)) #[.map (some (gk+1))] 227 (gk+1+1) (by simp [hgk])).alloc (.cells #[.func (.func 152) #[] #[.pointer (some ⟨gk,0,none⟩),.pointer (some ⟨gk+1+1,0,none⟩),.pointer (some ⟨gk+1+1+1,0,none⟩)]] 249)).cell 0];rfl,
  by rw [(Blk.new' (((w.alloc (.cells #[.pointer (some ⟨b,0,none⟩)] 54)).alloc (.map #[] 0)).alloc (.cells #[.map (some (gk+1))] 227)) #[.func (.func 152) #[] #[.pointer (some ⟨gk,0,none⟩),.pointer (some ⟨gk+1+1,0,none⟩),.pointer (some ⟨gk+1+1+1,0,none⟩)]] 249 (gk+1+1+1) (by simp [hgk])).cell 0];rfl⟩
 have V0:Hid (IsVis ((((w.alloc (.cells #[.pointer (some ⟨b,0,none⟩)] 54)).alloc (.map #[] 0)).alloc (.cells #[.map (some (gk+1))] 227)).alloc (.cells #[.func (.func 152) #[] #[.pointer (some ⟨gk,0,none⟩),.pointer (some ⟨gk+1+1,0,none⟩),.pointer (some ⟨gk+1+1+1,0,none⟩)]] 249)) (gk+1) 0 (fun _=>False)):=(IsVis.made (w.alloc (.cells #[.pointer (some ⟨b,0,none⟩)] 54)) (gk+1) (by simp [hgk])).mod (show Mod [] _ ((((w.alloc (.cells #[.pointer (some ⟨b,0,none⟩)] 54)).alloc (.map #[] 0)).alloc (.cells #[.map (some (gk+1))] 227)).alloc (.cells #[.func (.func 152) #[] #[.pointer (some ⟨gk,0,none⟩),.pointer (some ⟨gk+1+1,0,none⟩),.pointer (some ⟨gk+1+1+1,0,none⟩)]] 249)) from by exact mods) (by simp)
 have Z0:Hid (((((w.alloc (.cells #[.pointer (some ⟨b,0,none⟩)] 54)).alloc (.map #[] 0)).alloc (.cells #[.map (some (gk+1))] 227)).alloc (.cells #[.func (.func 152) #[] #[.pointer (some ⟨gk,0,none⟩),.pointer (some ⟨gk+1+1,0,none⟩),.pointer (some ⟨gk+1+1+1,0,none⟩)]] 249)).heap.size=gk+4):=by show _=_;simp [hgk]
 generalize (((w.alloc (.cells #[.pointer (some ⟨b,0,none⟩)] 54)).alloc (.map #[] 0)).alloc (.cells #[.map (some (gk+1))] 227)).alloc (.cells #[.func (.func 152) #[] #[.pointer (some ⟨gk,0,none⟩),.pointer (some ⟨gk+1+1,0,none⟩),.pointer (some ⟨gk+1+1+1,0,none⟩)]] 249)=w0 at *
 have HGK:=Lib.hid hgk
 clear hmk hgk
 go_loopw [13] (fun i wr=>∃j nm:Nat,j≤k∧i=.int .i64 j∧Hid (VSt wr b n L room F gk (gk+1+1) (gk+1+1+1) (gk+1))∧Hid (IsVis wr (gk+1) nm (idsAll L (ts.take j)))∧Hid (nm≤tszs (ts.take j))∧Hid (Mod [gk+1] w0 wr)) (fun i _=>k - (intOf i).toNat)
 case atStart=>exact ⟨0,0,by omega,rfl,S0,V0.out.congr (fun j=>by simp [idsAll]),by show _≤_;omega,Mod.refl _ _⟩
 case round=>
  obtain ⟨j,nm,hj,rfl,HV,HI,HN,HM⟩:=hrel
  clear S0 V0
  have MW:=Lib.hid (M0.out.trans HM.out (by intro i hi h;have:=HGK.out;simp at h;omega))
  have hbm:Hid (∀q∈gk::(gk+1+1)::(gk+1+1+1)::F,q≠gk+1):=fun q hq=>by
   simp at hq
   rcases hq with rfl | rfl | rfl | hq
   ·omega
   ·omega
   ·omega
   ·have:=HF.out q hq;omega
  by_cases hlt:j < k
  ·have hlt':(j:Int) < k:=by omega
   have hje:j < es.length:=by rw [←HES.out.1];exact hlt
   have hjt:j < ts.length:=by rw [←HTS.out.1];exact hje
   obtain ⟨gb,off,rfl,hgl,c1,c2⟩:=(HES.out.mod MW.out).2.2 j hje
   have RP:=Lib.hid (HTS.out.2 j hje hjt)
   have TK:Hid (ts.take (j+1)=ts.take j++[ts[j]]):=List.take_succ_eq_append_getElem hjt
   have TB:Hid (tszs (ts.take (j+1))=tszs (ts.take j)+tsz ts[j].2∧tszs (ts.take (j+1))≤tszs ts):=by
    refine ⟨by rw [TK.out,tszs_app,tszs_one],?_⟩
    have e:ts=ts.take (j+1)++ts.drop (j+1):=(List.take_append_drop _ _).symm
    have e2:tszs ts=tszs (ts.take (j+1))+tszs (ts.drop (j+1)):=by
     conv=>lhs;rw [e]
     rw [tszs_app]
    omega
   have VC:Hid (∀W',Mod [] wr W'→Calls Tryz.prog 152 #[.agg #[.int .u8 es[j].t,.int .u32 es[j].a],.pointer (some ⟨gk,0,none⟩),.pointer (some ⟨gk+1+1,0,none⟩),.pointer (some ⟨gk+1+1+1,0,none⟩)] W' (VisP W' (gk+1) nm L ts[j].1 ts[j].2 (idsAll L (ts.take j)))):=fun W' m=>
    visit_c hL hbm.out HND.out ts[j].2 W' _ (tsz ts[j].2+1) nm _ _ (HV.out.mod m (by simp)) (HI.out.mod m (by simp)) RP.out Cl.all (by omega) (by
     have h1:=HN.out;have h2:=TB.out;have h3:=HSZ.out
     omega)
   have CV:=HV.out.v
   have hvl:=World.block_lt_of_cell? wr _ CV
   simp only at hvl
   generalize es[j].t=et at *
   generalize es[j].a=ea at *
   generalize ts[j]=tj at *
   clear hje hjt
   go_wp2_with fail
   refine (VC.out _ (by exact mods)).mono ?_
   rintro e w2 ⟨rfl,m2,n2,hn2,hv2⟩
   have HM2:=Lib.hid ((HM.out.alloc (.cells #[.int .u8 et,.int .u32 ea] 66)).trans' m2)
   have HV2:=Lib.hid ((HV.out.mod (show Mod [] wr (wr.alloc (.cells #[.int .u8 et,.int .u32 ea] 66)) from by exact mods) (by simp)).mod m2 (fun q hq=>by have:=hbm.out q hq;simp;exact this))
   have HI2:=Lib.hid hv2
   have HN2:=Lib.hid hn2
   clear m2 hv2 hn2
   go_wp2_with fail
   go_roundw
   case rel=>exact ⟨j+1,n2,by omega,by go_num,HV2,HI2.out.congr (fun q=>by rw [TK.out];exact (idsAll_snoc q).symm),by
    show _≤_
    have h1:=HN.out;have h2:=TB.out.1;have h3:=HN2.out
    omega,HM2⟩
   case measure=>simp [intOf];omega
  ·obtain rfl:j=k:=by omega
   have IC:=HV.out.i
   go_wp2_with fail
   go_ret
   have e:ts.take j=ts:=List.take_of_length_le (by rw [←HTS.out.1,←HES.out.1];exact Nat.le_refl _)
   have h1:=HI.out
   have h2:=HN.out
   rw [e] at h1 h2
   exact ⟨gk+1,nm,rfl,h1,h2,by have:=HGK.out;omega,MW.out⟩
end Go.Proofs.YtlafpknoiihaaaaGreatDoor
