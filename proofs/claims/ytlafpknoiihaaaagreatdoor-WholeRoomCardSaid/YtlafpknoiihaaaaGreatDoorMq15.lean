/- Mq15: J3 · Ms · Po -/
import Derived.Test.YtlafpknoiihaaaaGreatDoorMq09
import Derived.Test.YtlafpknoiihaaaaGreatDoorMq14
import Derived.Test.YtlafpknoiihaaaaGreatDoorMq01
import Derived.Test.YtlafpknoiihaaaaGreatDoorMq10
set_option maxRecDepth 100000
set_option maxHeartbeats 8000000
set_option linter.unusedVariables false
set_option linter.unusedSimpArgs false
namespace Go.Proofs.YtlafpknoiihaaaaGreatDoor
open Go.RowKit
def FromR (w:World) (b n room:Nat) (L:List Rc) (F:List Nat) (f l k:Nat) (t:List Bool) (lm cc:Nat) (e:Ending) (w':World):Prop:=
 ∃ed L2 F',e=.returned (.tuple #[edv ed,.int .u8 0])∧IsSt w' b n (L++L2) room F'∧Mod F w w'∧(∀k∈F',k∈F∨w.heap.size≤k)∧Good (L++L2) n∧(L++L2).Nodup∧EdT (L++L2) f n k l ed t∧Rm n f lm room (L++L2) cc
def FromRC (lm bb b bo n f g cap W:Nat) (p q Fo:List Nat) (room k l:Nat):Prop:=
 ∀(w:World) (L:List Rc) (F:List Nat) (x cc:Nat),BSt w bb b bo n f g cap W p q Fo→IsSt w b n L room F→(∀k∈bb::g::Fo,k∉F)→Good L n→L.Nodup→Rm n f lm room L (budF (lm - l)+cc)→x < 2 ^ n→
  Calls Tryz.prog 60 #[.pointer (some ⟨bb,0,none⟩),.int .i64 l,.int .i64 x] w (FromR w b n room L F f l k (tabL W p k l x) lm cc)
theorem from_succ_r {lm bb b bo n f g cap W:Nat} {p q Fo:List Nat} {room k l:Nat} (hlk:l+(k+1)=n) (h1:1≤f) (h5:f≤5) (hn:n≤5) (hp:p.length=n) (hpv:∀v∈p,v < n) (hrm:room≤100000)
 (ih:FromRC lm bb b bo n f g cap W p q Fo room k (l+1)):FromRC lm bb b bo n f g cap W p q Fo room (k+1) l:=by
 intro w L F x cc hB hS hd hG hnd hR hx
 have R1:Rm n f lm room L (budF (lm - (l+1))+(budF (lm - (l+1))+(cst1 lm l+cc))):=hR.eq (by rw [budF_step lm l];omega)
 have hF:=hS.lt
 have hpk:2 ^ (k+1)=2 ^ k+2 ^ k:=by rw [Nat.pow_succ];omega
 have hpk0:=Nat.two_pow_pos k
 have hl:l < p.length:=by omega
 obtain ⟨v,hv⟩:∃v,p[l]=v:=⟨_,rfl⟩
 have hvn:v < n:=by rw [←hv];exact hpv _ (List.getElem_mem _)
 have hgd:p.getD l 0=v:=by rw [List.getD_eq_getElem?_getD,List.getElem?_eq_getElem hl];exact hv
 have hx32:2 ^ n≤32:=by have:=Nat.pow_le_pow_right (n:=2) (by omega) hn;simpa using this
 have hx2:x ||| 2 ^ v < 2 ^ n:=Nat.or_lt_two_pow hx (Nat.pow_lt_pow_right (by omega) hvn)
 have OR:=Lib.hid (or_pow' (x:=x) (v:=v) (by omega) (by omega))
 have eT:tabL W p (k+1) l x=tabL W p k (l+1) x++tabL W p k (l+1) (x ||| 2 ^ v):=by rw [tabL,hgd]
 rw [eT]
 have FR1:Hid (∀W',Mod [] w W'→Calls Tryz.prog 60 #[.pointer (some ⟨bb,0,none⟩),.int .i64 ((l:Int)+1),.int .i64 x] W' (FromR W' b n room L F f (l+1) k (tabL W p k (l+1) x) lm (budF (lm - (l+1))+(cst1 lm l+cc)))):=fun W' m=>by
  have:=ih W' L F x _ (hB.mod m (by simp)) (hS.mod m (by simp)) hd hG hnd R1 hx
  simpa using this
 have FR2:Hid (∀(W':World) (L':List Rc) (F':List Nat),BSt W' bb b bo n f g cap W p q Fo→IsSt W' b n L' room F'→(∀k∈bb::g::Fo,k∉F')→Good L' n→L'.Nodup→Rm n f lm room L' (budF (lm - (l+1))+(cst1 lm l+cc))→
  Calls Tryz.prog 60 #[.pointer (some ⟨bb,0,none⟩),.int .i64 ((l:Int)+1),.int .i64 ((x ||| 2 ^ v:Nat):Int)] W' (FromR W' b n room L' F' f (l+1) k (tabL W p k (l+1) (x ||| 2 ^ v)) lm (cst1 lm l+cc))):=fun W' L' F' a1 a2 a3 a4 a5 a6=>by
  have:=ih W' L' F' (x ||| 2 ^ v) _ a1 a2 a3 a4 a5 a6 hx2
  simpa using this
 have VA:Hid (∀W',Mod [] w W'→Calls Tryz.prog 59 #[.pointer (some ⟨b,0,none⟩)] W' fun e w'=>e=.returned (.int .i64 n)∧w'=W'):=fun W' m=>by
  obtain ⟨ba,bi,Fa,c0,_⟩:=(hS.mod m (by simp)).own
  exact stVars_c b n W' c0
 have OV:Hid (∀(W':World),BSt W' bb b bo n f g cap W p q Fo→Calls Tryz.prog 89 #[.pointer (some ⟨bo,0,none⟩),.int .i64 l] W' fun e w'=>e=.returned (.int .i64 v)∧w'=W'):=fun W' hB'=>by
  have:=ordVar_c hB'.ord (by omega) l hl
  rw [hv] at this;exact this
 have HD:=Lib.hid hd
 have HF:=Lib.hid hF
 have HB:=Lib.hid hB
 have HBL:=Lib.hid hB.lt
 have hbl:=hB.bb.lt
 have hbF:bb∉F:=hd bb (by simp)
 obtain ⟨k0,k1,k2,k3,k4⟩:=hB.bb.cells5
 have hln:((l:Int)==(n:Int))=false:=by rw [beq_eq_false_iff_ne];omega
 have hl5:(l:Int) < 5:=by omega
 have hv5:(v:Int) < 5:=by omega
 have hv0:(0:Int)≤v:=by omega
 obtain ⟨gk,hgk⟩:∃gk,w.heap.size=gk:=⟨_,rfl⟩
 have hbk:bb < gk:=by omega
 have hgF:gk∉F:=fun h=>by have:=hF _ h;omega
 have hne:¬bb=gk:=by omega
 have hne2:¬gk=bb:=by omega
 clear eT hv hgd hx hx2 hx32 hpv hd hF hS hB hG hnd hR R1 hpk hpk0 hl ih hp
 generalize tabL W p k (l+1) x=X1 at *
 generalize tabL W p k (l+1) (x ||| 2 ^ v)=X2 at *
 generalize x ||| 2 ^ v=y at *
 go_enter Tryz.func60,Tryz.ntmps60
 go_wp2_with fail
 refine (VA.out _ (by exact mods)).mono ?_
 rintro e w1 ⟨rfl,rfl⟩
 go_wp2_with fail
 refine (FR1.out _ (by exact mods)).mono ?_
 rintro e w2 ⟨⟨t1,a1⟩,L2,F2,rfl,s2,m2,f2,g2,nd2,ex2,rm2⟩
 have M2:=Lib.hid (Mod.trans ((Mod.refl F w).alloc (.cells #[.int .u8 0,.int .u32 0] 66)) m2 (by intro i _ h;exact h))
 have BR:=Lib.hid ((Blk.new' w _ _ gk hgk.symm).mod m2 hgF)
 have B2:=Lib.hid (HB.out.mod M2.out HD.out)
 obtain ⟨k0,k1,k2,k3,k4⟩:=B2.out.bb.cells5
 have K2:=Lib.hid (And.intro s2 (And.intro f2 (And.intro g2 (And.intro nd2 (And.intro ex2 rm2)))))
 have hsz2:gk < w2.heap.size:=by have:=m2.size;simp at this;omega
 obtain ⟨gl,hgl⟩:∃gl,w2.heap.size=gl:=⟨_,rfl⟩
 have hb2:bb < gl:=by omega
 have hne3:¬bb=gl:=by omega
 have hne4:¬gl=bb:=by omega
 have HGK:=Lib.hid hgk
 clear s2 f2 g2 nd2 ex2 rm2 m2 FR1 VA hgk
 unfold edv
 go_wp2_with fail
 refine (OV.out _ (B2.out.mod (S:=[]) (by exact mods) (by simp))).mono ?_
 rintro e w3 ⟨rfl,rfl⟩
 have hF2:∀i,i < w.heap.size→i∈F2→i∈F:=fun i hi h=>(K2.out.2.1 i h).elim (fun h=>h) (fun h=>by simp at h;omega)
 have hd2:∀k∈bb::g::Fo,k∉F2:=fun k hk h=>HD.out k hk (hF2 k (HBL.out k hk) h)
 have HF2:=Lib.hid hF2
 have HD2:=Lib.hid hd2
 clear hF2 hd2
 go_wp2_with fail
 rw [OR.out]
 refine (FR2.out _ (L++L2) F2 (B2.out.mod (S:=[]) (by exact mods) (by simp)) (K2.out.1.mod (S:=[]) (by exact mods) (by simp)) HD2.out K2.out.2.2.1 K2.out.2.2.2.1 K2.out.2.2.2.2.2).mono ?_
 rintro e w5 ⟨⟨t2,a2⟩,L3,F3,rfl,s5,m5,f5,g5,nd5,ex5,rm5⟩
 have lt2:=K2.out.1.lt
 have hglF2:gl∉F2:=fun h=>by have:=lt2 _ h;omega
 have hgkF2:gk∉F2:=fun h=>(K2.out.2.1 _ h).elim hgF (fun h=>by have:=HGK.out;simp at h;omega)
 have hsz5:gl < w5.heap.size:=by have:=m5.size;simp at this;omega
 have M5:=Lib.hid (M2.out.trans (((Mod.refl F2 w2).alloc (.cells #[.int .u8 t1,.int .u32 a1] 66)).trans' m5) HF2.out)
 have BR5:=Lib.hid ((BR.out.alloc (.cells #[.int .u8 t1,.int .u32 a1] 66)).mod m5 hgkF2)
 have BL5:=Lib.hid ((Blk.new' w2 #[.int .u8 t1,.int .u32 a1] 66 gl hgl.symm).mod m5 hglF2)
 have B5:=Lib.hid (HB.out.mod M5.out HD.out)
 have hF3:∀i,i∈F3→i∈F∨(w.heap.size≤i∧i≠gk∧i≠gl):=fun i h=>by
  rcases f5 i h with h | h
  ·rcases K2.out.2.1 i h with h2 | h2
   ·exact .inl h2
   ·have:=HGK.out;simp at h2;exact .inr ⟨by omega,by omega,by rintro rfl;exact hglF2 h⟩
  ·have:=HGK.out;simp at h;exact .inr ⟨by omega,by omega,by omega⟩
 have hbF3:bb∉F3:=fun h=>(hF3 _ h).elim hbF (fun h=>by omega)
 have hgkF3:gk∉F3:=fun h=>(hF3 _ h).elim hgF (fun h=>h.2.1 rfl)
 have hglF3:gl∉F3:=fun h=>(hF3 _ h).elim (fun h=>by have:=HF.out _ h;have:=HGK.out;omega) (fun h=>h.2.2 rfl)
 have HF3:=Lib.hid hF3
 have K5:=Lib.hid (And.intro s5 (And.intro f5 (And.intro g5 (And.intro nd5 (And.intro ex5 rm5)))))
 have ex2':=K2.out.2.2.2.2.1.grow L3
 have MK:Hid (∀W',Mod [] w5 W'→_):=fun W' m=>canonMake_c f h1 h5 (K5.out.1.mod m (by simp)) (by have:=rm5.lt g5 nd5 h1 h5;omega) (rm5.lt g5 nd5 h1 h5) (by omega) (by omega) g5 l (by omega) ⟨t1,a1⟩ ⟨t2,a2⟩ ex2'.lead ex5.lead
 have MR:=Lib.hid (EdT.mk_ g5 nd5 h1 h5 (by omega) ex2' ex5)
 have MG:=Lib.hid (mkP_good g5 h1 h5 (show l < n by omega) (by omega) ex2'.lead ex5.lead)
 have MX:=Lib.hid (rm5.mk_ g5 nd5 h1 h5 (by omega) ex2' ex5)
 have MN:=Lib.hid (mk_rep (l:=l) nd5 ex2'.rep ex5.rep).2
 obtain ⟨k0,k1,k2,k3,k4⟩:=B5.out.bb.cells5
 obtain ⟨p0,p1⟩:=BL5.out.cells2
 obtain ⟨gh,hgh⟩:∃gh,w5.heap.size=gh:=⟨_,rfl⟩
 have hne5:¬bb=gh:=by omega
 have hne6:¬gh=bb:=by omega
 have hne7:¬gl=gh:=by omega
 have hne8:¬gh=gl:=by omega
 have hb5:bb < gh:=by omega
 have hl5':gl < gh:=by omega
 have hk5:gk < gh:=by omega
 have hghF3:gh∉F3:=fun h=>by have:=s5.lt _ h;omega
 clear s5 f5 g5 nd5 ex5 rm5 m5 lt2 ex2' hF3 FR2 OV OR B2
 generalize hP:mkP ((L++L2)++L3) f l ⟨t1,a1⟩ ⟨t2,a2⟩=P at *
 obtain ⟨L4,rt,ra⟩:=P
 unfold edv at *
 simp only at MK MR MG MX MN
 have HP:=Lib.hid hP
 clear hP
 go_wp2_with fail
 have MQ:Hid (Mod [] w5 (w5.alloc (.cells #[.int .u8 t2,.int .u32 a2] 66))):=(Mod.refl _ _).alloc _
 have BH:=(Blk.new' w5 #[.int .u8 t2,.int .u32 a2] 66 gh hgh.symm)
 generalize w5.alloc (.cells #[.int .u8 t2,.int .u32 a2] 66)=wq at *
 have k0:=(MQ.out.cell (a:=⟨bb,0,none⟩) (by simp;omega) (by simp)).trans k0
 have k2:=(MQ.out.cell (a:=⟨bb,2,none⟩) (by simp;omega) (by simp)).trans k2
 have p0:=(MQ.out.cell (a:=⟨gl,0,none⟩) hsz5 (by simp)).trans p0
 have p1:=(MQ.out.cell (a:=⟨gl,1,none⟩) hsz5 (by simp)).trans p1
 obtain ⟨q0,q1⟩:=BH.cells2
 have zz:=MQ.out.size
 have hbw:bb < wq.heap.size:=by omega
 have hlw:gl < wq.heap.size:=by omega
 have hhw:=BH.lt
 have BRQ:=Lib.hid (BR5.out.mod MQ.out (by simp))
 clear BH zz
 have gn1:¬bb=gk:=by omega
 have gn2:¬gk=bb:=by omega
 have gn3:¬gl=gk:=by omega
 have gn4:¬gk=gl:=by omega
 have gn5:¬gh=gk:=by omega
 have gn6:¬gk=gh:=by omega
 clear hne hne2 hne3 hne4 hln hl5 hv5 hv0 hgh hgl hb2 hbk
 go_region_held3 (fun w'=>w'.cell? ⟨bb,0,none⟩=some (.pointer (some ⟨b,0,none⟩))∧w'.cell? ⟨bb,2,none⟩=some (.int .u8 f)∧w'.cell? ⟨gl,0,none⟩=some (.int .u8 t1)∧w'.cell? ⟨gl,1,none⟩=some (.int .u32 a1)∧w'.cell? ⟨gh,0,none⟩=some (.int .u8 t2)∧w'.cell? ⟨gh,1,none⟩=some (.int .u32 a2)) (go_keep) (first | (go_at_call 90;refine (MK.out _ (MQ.out.trans' (show Mod [] wq _ from by exact mods))).mono ?_;rintro e' w6 ⟨rfl,F4,s6,m_w6,f6⟩;have M_w6:=Mod.trans' (show Mod _ wq _ from by exact mods) m_w6;have k0:=(M_w6.cell (a:=⟨bb,0,none⟩) hbw (by first | assumption | (simp;done))).trans k0;have k2:=(M_w6.cell (a:=⟨bb,2,none⟩) hbw (by first | assumption | (simp;done))).trans k2;have p0:=(M_w6.cell (a:=⟨gl,0,none⟩) hlw (by first | assumption | (simp;done))).trans p0;have p1:=(M_w6.cell (a:=⟨gl,1,none⟩) hlw (by first | assumption | (simp;done))).trans p1;have q0:=(M_w6.cell (a:=⟨gh,0,none⟩) hhw (by first | assumption | (simp;done))).trans q0;have q1:=(M_w6.cell (a:=⟨gh,1,none⟩) hhw (by first | assumption | (simp;done))).trans q1;have hbw:=Nat.lt_of_lt_of_le hbw M_w6.size;have hlw:=Nat.lt_of_lt_of_le hlw M_w6.size;have hhw:=Nat.lt_of_lt_of_le hhw M_w6.size;have BRW:=BRQ.out.mod M_w6 hgkF3;obtain ⟨e0,e1⟩:=BRW.cells2;obtain ⟨g0,g1,-⟩:=BRW.frozs;replace BRW:=Lib.hid BRW))
 have BX:=set2_blk BRW.out ⟨rt,ra⟩
 obtain ⟨c0,c1⟩:=BX.cells2
 have MS:=Lib.hid (set2_mod (Mod.refl [gk] w6) gk ⟨rt,ra⟩ (fun _=>by simp))
 have S6:=Lib.hid s6
 have F6:=Lib.hid f6
 have M6:=Lib.hid (M5.out.trans ((MQ.out.mono (S':=F3) (by simp)).trans' M_w6) (fun i hi h=>(HF3.out i h).elim (fun h=>h) (fun h=>by omega)))
 have SZ:Hid (w.heap.size≤wq.heap.size):=by
  have h1:=M5.out.size
  have h2:=MQ.out.size
  show _≤_
  omega
 change Exit.then _ _ _ _ (set2 w6 gk ⟨rt,ra⟩)
 generalize set2 w6 gk ⟨rt,ra⟩=X at *
 clear e0 e1 g0 g1 BX s6 f6 m_w6 M_w6 k0 k2 p0 p1 q0 q1 BRW BRQ
 simp only at c0 c1
 go_wp2_with fail
 refine bodyPost_ret (by simp [results,Tryz.results60,c0,c1,go_sem];try rfl) rfl ?_
 obtain ⟨hG4,hle4,⟨L5,rfl⟩,hlen4⟩:=MG.out
 have hF4:∀k∈F4,k≠gk∧(k∈F∨w.heap.size≤k):=fun k hk=>by
  rcases F6.out k hk with h | h
  ·refine ⟨by rintro rfl;exact hgkF3 h,?_⟩
   exact (HF3.out k h).imp (fun h=>h) (fun h=>h.1)
  ·have h1:=SZ.out
   have h2:=MQ.out.size
   simp at h
   exact ⟨by omega,.inr (by omega)⟩
 have e2:L++L2++L3++L5=L++(L2++L3++L5):=by simp
 refine ⟨⟨rt,ra⟩,L2++L3++L5,F4,rfl,?_,?_,fun k hk=>(hF4 k hk).2,?_,?_,?_,?_⟩
 ·rw [←e2];exact S6.out.mod MS.out (fun k hk=>by simp;exact (hF4 k hk).1)
 ·exact M6.out.trans MS.out (fun i hi h=>by have:=HGK.out;simp at h;omega)
 ·rw [←e2];exact hG4
 ·rw [←e2];exact MN.out
 ·rw [←e2];exact MR.out
 ·rw [←e2];exact MX.out
theorem from_r {lm bb b bo n f g cap W:Nat} {p q Fo:List Nat} {room:Nat} (h1:1≤f) (h5:f≤5) (hn:n≤5) (hp:p.length=n) (hpv:∀v∈p,v < n) (hrm:room≤100000) (hW:W < 2 ^ (2 ^ n)):
 ∀k l,l+k=n→FromRC lm bb b bo n f g cap W p q Fo room k l:=by
 intro k
 induction k with
 | zero=>
  intro l hl
  obtain rfl:l=n:=by omega
  intro w L F x cc hB hS hd hG hnd hR hx
  refine (from_zero hB hS hd h1 h5 hn hW hG hnd x hx).mono ?_
  rintro e w' ⟨ed,L2,F',rfl,a1,a2,a3,a4,a5,a6,a7,a8⟩
  obtain rfl:L2=[]:=List.length_eq_zero_iff.1 (by omega)
  exact ⟨ed,[],F',rfl,a1,a2,a3,a4,a5,⟨a7,a6,rfl,hl⟩,by rw [List.append_nil];exact hR.less (by omega)⟩
 | succ k ih=>
  intro l hl
  exact from_succ_r hl h1 h5 hn hp hpv hrm (ih (l+1) (by omega))
theorem buildOf_r {lm cc:Nat} {w:World} {b bo n f g cap W room:Nat} {p q Fo F:List Nat} {L:List Rc} (hS:IsSt w b n L room F) (hO:IsOrd w bo p q Fo) (c0:w.cell? ⟨g,0,none⟩=some (.int .u64 W)) (hd:∀k∈g::Fo,k∉F)
 (h1:1≤f) (h5:f≤5) (hn:n≤5) (hp:p.length=n) (hpv:∀v∈p,v < n) (hrm:room≤100000) (hW:W < 2 ^ (2 ^ n)) (hG:Good L n) (hnd:L.Nodup) (hR:Rm n f lm room L (budF lm+cc)):
 Calls Tryz.prog 30 #[.pointer (some ⟨b,0,none⟩),.pointer (some ⟨bo,0,none⟩),.int .u8 f,.agg #[.int .i64 n,.slice (some ⟨g,0,none⟩) 1 cap]] w (FromR w b n room L F f 0 n (tabL W p n 0 0) lm cc):=by
 have hgl:=World.block_lt_of_cell? w _ c0
 have hF:=hS.lt
 have hFo:=hO.lt
 simp only at hgl
 have VA:Hid (∀W',Mod [] w W'→Calls Tryz.prog 59 #[.pointer (some ⟨b,0,none⟩)] W' fun e w'=>e=.returned (.int .i64 n)∧w'=W'):=fun W' m=>by
  obtain ⟨ba,bi,Fa,c0,_⟩:=(hS.mod m (by simp)).own
  exact stVars_c b n W' c0
 have VO:Hid (∀W',Mod [] w W'→Calls Tryz.prog 83 #[.pointer (some ⟨bo,0,none⟩)] W' fun e w'=>e=.returned (.int .i64 n)∧w'=W'):=fun W' m=>by
  have:=ordVars_c (hO.mod m (by simp));rw [hp] at this;exact this
 have MY:Hid (∀W',Mod [] w W'→_):=fun W' m=>buildMay_c n f b bo h1 h5 W' (VA.out W' m) (VO.out W' m)
 have RT:Hid (∀W',Mod [] w W'→_):=fun W' m=>setRight_c n W g cap hn hW W' ((m.cell (a:=⟨g,0,none⟩) hgl (by simp)).trans c0)
 have FR:Hid (∀(W':World) (bb:Nat),Mod [] w W'→Blk W' bb #[.pointer (some ⟨b,0,none⟩),.pointer (some ⟨bo,0,none⟩),.int .u8 f,.int .i64 n,.slice (some ⟨g,0,none⟩) 1 cap] 147→w.heap.size≤bb→
  Calls Tryz.prog 60 #[.pointer (some ⟨bb,0,none⟩),.int .i64 0,.int .i64 0] W' (FromR W' b n room L F f 0 n (tabL W p n 0 0) lm cc)):=fun W' bb m hbb hge=>by
  have:=from_r (lm:=lm) (bb:=bb) (b:=b) (bo:=bo) (g:=g) (cap:=cap) (q:=q) (Fo:=Fo) h1 h5 hn hp hpv hrm hW n 0 (by omega) W' L F 0 cc ⟨hbb,(m.cell (a:=⟨g,0,none⟩) hgl (by simp)).trans c0,hO.mod m (by simp)⟩ (hS.mod m (by simp)) (by
   intro k hk
   rcases List.mem_cons.1 hk with rfl | hk
   ·intro h;have:=hF _ h;omega
   ·exact hd k hk) hG hnd (by rw [Nat.sub_zero];exact hR) (Nat.two_pow_pos n)
  simpa using this
 have HF:=Lib.hid hF
 obtain ⟨gk,hgk⟩:∃gk,w.heap.size=gk:=⟨_,rfl⟩
 clear hd hpv hW hG hnd hR hp hS hO hF hFo
 generalize tabL W p n 0 0=X1 at *
 go_enter Tryz.func30,Tryz.ntmps30
 go_wp2_with fail
 refine (MY.out _ (by exact mods)).mono ?_
 rintro e w1 ⟨rfl,rfl⟩
 go_wp2_with fail
 have V2:Hid (∀W',Mod [] w W'→Calls Tryz.prog 59 #[.pointer (some ⟨b,0,none⟩)] W' fun e w'=>e=.returned (.int .i64 n)∧Mod [] W' w'):=fun W' m=>(VA.out W' m).mono (by rintro e w' ⟨rfl,rfl⟩;exact ⟨rfl,Mod.refl _ _⟩)
 have B0:=(Blk.new' w #[.int .i64 n,.slice (some ⟨g,0,none⟩) 1 cap] 39 gk hgk.symm).alloc (.cells #[.int .u8 0,.int .u32 0] 66)
 have B1:=Blk.new' (w.alloc (.cells #[.int .i64 n,.slice (some ⟨g,0,none⟩) 1 cap] 39)) #[.int .u8 0,.int .u32 0] 66 (gk+1) (by simp [hgk])
 have M0:Hid (Mod [] w ((w.alloc (.cells #[.int .i64 n,.slice (some ⟨g,0,none⟩) 1 cap] 39)).alloc (.cells #[.int .u8 0,.int .u32 0] 66))):=by exact mods
 have HGK:=Lib.hid hgk
 generalize (w.alloc (.cells #[.int .i64 n,.slice (some ⟨g,0,none⟩) 1 cap] 39)).alloc (.cells #[.int .u8 0,.int .u32 0] 66)=w0 at *
 obtain ⟨q0,q1⟩:=B0.cells2
 have hk:=B0.lt
 have hk1:=B1.lt
 have B1:=Lib.hid B1
 clear B0 MY VA VO hgk c0
 go_region_held3 (fun w'=>w'.cell? ⟨gk,0,none⟩=some (.int .i64 n)∧w'.cell? ⟨gk,1,none⟩=some (.slice (some ⟨g,0,none⟩) 1 cap)) (go_keep) (first | (go_at_call 58;refine (RT.out _ (M0.out.trans' (show Mod [] w0 _ from by exact mods))).mono ?_;rintro e' wa ⟨rfl,m_wa⟩;have M_wa:=Mod.trans' (show Mod _ w0 _ from by exact mods) m_wa;have q0:=(M_wa.cell (a:=⟨gk,0,none⟩) hk (by first | assumption | (simp;done))).trans q0;have q1:=(M_wa.cell (a:=⟨gk,1,none⟩) hk (by first | assumption | (simp;done))).trans q1;have hk:=Nat.lt_of_lt_of_le hk M_wa.size) | (go_at_call 59;refine (V2.out _ (M0.out.trans' (M_wa.trans' (show Mod [] wa _ from by exact mods)))).mono ?_;rintro e' wb ⟨rfl,m_wb⟩;have M_wb:=Mod.trans' (show Mod _ wa _ from by exact mods) m_wb;have q0:=(M_wb.cell (a:=⟨gk,0,none⟩) hk (by first | assumption | (simp;done))).trans q0;have q1:=(M_wb.cell (a:=⟨gk,1,none⟩) hk (by first | assumption | (simp;done))).trans q1;have hk:=Nat.lt_of_lt_of_le hk M_wb.size))
 have M1:=Lib.hid (M0.out.trans' (M_wa.trans' M_wb))
 have B2:=Lib.hid (B1.out.mod (M_wa.trans' M_wb) (by simp))
 clear m_wa m_wb M_wa M_wb RT V2 B1 M0
 obtain ⟨gb,hgb⟩:∃gb,wb.heap.size=gb:=⟨_,rfl⟩
 have hkb:gk < gb:=by omega
 have hne1:¬gk=gb:=by omega
 have hne2:¬gb=gk:=by omega
 go_wp2_with fail
 refine (FR.out _ gb (M1.out.trans' (show Mod [] wb _ from by exact mods)) (Blk.new' wb _ _ gb hgb.symm) (by have:=M1.out.size;omega)).mono ?_
 rintro e w5 ⟨⟨t2,a2⟩,L2,F2,rfl,s5,m5,f5,g5,nd5,ex5,rm5⟩
 have hgF:gk+1∉F:=fun h=>by have:=HF.out _ h;have:=HGK.out;omega
 have B5:=Lib.hid (((B2.out).alloc (.cells #[.pointer (some ⟨b,0,none⟩),.pointer (some ⟨bo,0,none⟩),.int .u8 f,.int .i64 n,.slice (some ⟨g,0,none⟩) 1 cap] 147)).mod m5 hgF)
 have M5:=Lib.hid (((M1.out.trans' (show Mod [] wb (wb.alloc (.cells #[.pointer (some ⟨b,0,none⟩),.pointer (some ⟨bo,0,none⟩),.int .u8 f,.int .i64 n,.slice (some ⟨g,0,none⟩) 1 cap] 147)) from by exact mods)).mono (S':=F) (by simp)).trans' m5)
 have SZ:Hid (w.heap.size≤wb.heap.size∧gk+1 < wb.heap.size):=⟨M1.out.size,B2.out.lt⟩
 have K5:=Lib.hid (And.intro s5 (And.intro f5 (And.intro g5 (And.intro nd5 (And.intro ex5 rm5)))))
 obtain ⟨e0,e1⟩:=B5.out.cells2
 obtain ⟨f0,f1,-⟩:=B5.out.frozs
 clear s5 f5 g5 nd5 ex5 rm5 m5 FR q0 q1
 unfold edv
 go_wp2_with fail
 have BX:=set2_blk B5.out ⟨t2,a2⟩
 obtain ⟨c0,c1⟩:=BX.cells2
 have MS:=Lib.hid (set2_mod (Mod.refl [gk+1] w5) (gk+1) ⟨t2,a2⟩ (fun _=>by simp))
 change bodyPost _ _ _ _ _ (set2 w5 (gk+1) ⟨t2,a2⟩)
 generalize set2 w5 (gk+1) ⟨t2,a2⟩=X at *
 clear e0 e1 f0 f1 BX
 simp only at c0 c1
 refine bodyPost_ret (by simp [results,Tryz.results30,c0,c1,go_sem];try rfl) rfl ?_
 obtain ⟨s5,f5,g5,nd5,ex5,rm5⟩:=K5.out
 have hF2:∀k∈F2,k≠gk+1∧(k∈F∨w.heap.size≤k):=fun k hk=>by
  have h1:=SZ.out
  rcases f5 k hk with h | h
  ·exact ⟨by rintro rfl;exact hgF h,.inl h⟩
  ·simp at h;exact ⟨by omega,.inr (by omega)⟩
 exact ⟨⟨t2,a2⟩,L2,F2,rfl,s5.mod MS.out (fun k hk=>by simp;exact (hF2 k hk).1),M5.out.trans MS.out (fun i hi h=>by have:=HGK.out;simp at h;omega),fun k hk=>(hF2 k hk).2,g5,nd5,ex5,rm5⟩
open Go.RowKit
def sizeN (n W:Nat) (p:List Nat) (f:Nat):Nat:=(dis [] (nds (buildE f n n 0 (tabL W p n 0 0)).2)).length
def sizesN (n W:Nat) (p:List Nat):List Nat:=[sizeN n W p 1,sizeN n W p 2,sizeN n W p 3,sizeN n W p 4,sizeN n W p 5]
theorem sizesN_at (n W:Nat) (p:List Nat) (k:Nat) (h:k < 5):(sizesN n W p).take (k+1)=(sizesN n W p).take k++[sizeN n W p (k+1)]:=by
 obtain rfl | rfl | rfl | rfl | rfl:k=0∨k=1∨k=2∨k=3∨k=4:=by omega
 all_goals rfl
def SizesP (w:World) (n W:Nat) (p:List Nat) (e:Ending) (w':World):Prop:=∃v,e=.returned (.tuple #[v,.int .u8 0])∧NewV 3 w ((sizesN n W p).map ei) w' v
theorem sizes_c {w:World} {bo n g cap W:Nat} {p q Fo:List Nat} (hO:IsOrd w bo p q Fo) (c0:w.cell? ⟨g,0,none⟩=some (.int .u64 W)) (hn:n≤5) (hp:p.length=n) (hpv:∀v∈p,v < n) (hW:W < 2 ^ (2 ^ n))
 (hsz:∀f,1≤f→f≤5→tsz (buildE f n n 0 (tabL W p n 0 0)).2≤1000000∧sizeN n W p f≤12):
 Calls Tryz.prog 109 #[.pointer (some ⟨bo,0,none⟩),.agg #[.int .i64 n,.slice (some ⟨g,0,none⟩) 1 cap]] w (SizesP w n W p):=by
 have hgl:=World.block_lt_of_cell? w _ c0
 simp only at hgl
 obtain ⟨i0,hi,hz0,hz1,hz2⟩:=info_parts Tryz.info3
 have h2n:2 ^ n≤32:=by have:=Nat.pow_le_pow_right (n:=2) (by omega) hn;simpa using this
 have VO:Hid (∀W',Mod [] w W'→Calls Tryz.prog 83 #[.pointer (some ⟨bo,0,none⟩)] W' fun e w'=>e=.returned (.int .i64 n)∧w'=W'):=fun W' m=>by
  have:=ordVars_c (hO.mod m (by simp));rw [hp] at this;exact this
 have NW:Hid (∀W',Calls Tryz.prog 23 #[.int .i64 n,.int .i64 1048576] W' fun e w'=>∃b F,e=.returned (.tuple #[.pointer (some ⟨b,0,none⟩),.int .u8 0])∧IsSt w' b n [] 1048576 F∧Mod [] W' w'∧∀k∈F,W'.heap.size≤k):=fun W'=>stNew_c n 1048576 (by omega) (by omega) W'
 have BO:Hid (∀(W':World) (b f:Nat) (F:List Nat),Mod [] w W'→IsSt W' b n [] 1048576 F→(∀k∈F,w.heap.size≤k)→1≤f→f≤5→Calls Tryz.prog 30 #[.pointer (some ⟨b,0,none⟩),.pointer (some ⟨bo,0,none⟩),.int .u8 f,.agg #[.int .i64 n,.slice (some ⟨g,0,none⟩) 1 cap]] W' (OfP W' b n 1048576 F [] f (buildE f n n 0 (tabL W p n 0 0)))):=fun W' b f F m hs hF h1 h5=>
  buildOf_c hs (hO.mod m (by simp)) ((m.cell (a:=⟨g,0,none⟩) hgl (by simp)).trans c0) (fun k hk h=>by
   have h3:=hF k h
   rcases List.mem_cons.1 hk with rfl | hk
   ·omega
   ·have:=hO.lt k hk;omega) h1 h5 hn hp hpv (by omega) hW (Good.nil n) (by simp) (by simp;omega) (by simp;omega)
 have SZ:Hid (∀(W':World) (b f:Nat) (F:List Nat) (L:List Rc) (e:Ed),IsSt W' b n L 1048576 F→L.length+1≤2 ^ n→L.Nodup→1≤f→f≤5→LeadsP L f e 0 n→RepE L f e (buildE f n n 0 (tabL W p n 0 0))→
  Calls Tryz.prog 129 #[.pointer (some ⟨b,0,none⟩),.int .u8 f,edv e,.int .i64 0] W' fun e w'=>e=.returned (.tuple #[.int .i64 (sizeN n W p f),.int .u8 0])∧Mod [] W' w'):=fun W' b f F L e a1 a2 a3 a4 a5 a6 a7=>by
  exact canonSize_c a1 (by omega) a3 (by omega) f a4 a5 e 0 (by omega) a6 a7 (hsz f a4 a5).1 (hsz f a4 a5).2
 obtain ⟨gk,hgk⟩:∃gk,w.heap.size=gk:=⟨_,rfl⟩
 clear hO c0 hpv hW hsz hp
 go_enter Tryz.func109,Tryz.ntmps109
 go_wp2_with fail
 have B0:=Lib.hid (Blk.new' w #[.int .i64 n,.slice (some ⟨g,0,none⟩) 1 cap] 39 gk hgk.symm)
 have M0:Hid (Mod [] w (w.alloc (.cells #[.int .i64 n,.slice (some ⟨g,0,none⟩) 1 cap] 39))):=(Mod.refl _ _).alloc _
 generalize w.alloc (.cells #[.int .i64 n,.slice (some ⟨g,0,none⟩) 1 cap] 39)=w0 at *
 have HGK:=Lib.hid hgk
 clear hgk
 go_loopw [6,7] (fun v f wr=>∃k:Nat,1≤k∧k≤6∧f=.int .u8 k∧Hid (NewV 3 w0 (((sizesN n W p).take (k - 1)).map ei) wr v)∧Hid (Mod [] w0 wr)) (fun _ f _=>6 - (intOf f).toNat)
 case atStart=>exact ⟨1,by omega,by omega,rfl,NewV.nil _ (Mod.refl _ _),Mod.refl _ _⟩
 case round=>
  obtain ⟨k,hk0,hk,rfl,HN,HM⟩:=hrel
  by_cases hlt:k≤5
  ·have hk1:(k:Int)≤5:=by omega
   have MW:=Lib.hid (M0.out.trans' HM.out)
   have BW:=Lib.hid (B0.out.mod HM.out (by simp))
   go_wp2_with fail
   refine (VO.out _ MW.out).mono ?_
   rintro e w1 ⟨rfl,rfl⟩
   go_wp2_with fail
   refine (NW.out _).mono ?_
   rintro e w2 ⟨b,F,rfl,s2,m2,f2⟩
   have S2:=Lib.hid s2
   have F2:=Lib.hid f2
   have M2:=Lib.hid (MW.out.trans' m2)
   have MR2:=Lib.hid m2
   have BW2:=Lib.hid (BW.out.mod m2 (by simp))
   obtain ⟨q0,q1⟩:=BW2.out.cells2
   have hgl2:=BW2.out.lt
   clear s2 f2 m2
   go_wp2_with fail
   refine (BO.out w2 b k F M2.out S2.out (fun x hx=>Nat.le_trans MW.out.size (F2.out x hx)) (by omega) (by omega)).mono ?_
   rintro e w3 ⟨⟨t2,a2⟩,L2,F3,rfl,s3,m3,f3,g3,nd3,le3,re3,len3⟩
   have MR3:=Lib.hid (MR2.out.trans m3 (by intro i hi h;have:=F2.out i h;omega))
   have BW3:=Lib.hid (BW.out.mod MR3.out (by simp))
   have SZ3:=Lib.hid (fun W' (m:Mod [] w3 W')=>SZ.out W' b k F3 ([]++L2) ⟨t2,a2⟩ (s3.mod m (by simp)) (by simpa using len3) nd3 (by omega) (by omega) le3 re3)
   clear s3 m3 f3 g3 nd3 le3 re3 len3 q0 q1
   obtain ⟨gx,hgx⟩:∃gx,w3.heap.size=gx:=⟨_,rfl⟩
   unfold edv at *
   go_wp2_with fail
   refine (SZ3.out _ (by exact mods)).mono ?_
   rintro e w4 ⟨rfl,m4⟩
   have MR4:=Lib.hid (MR3.out.trans' ((show Mod [] w3 (w3.alloc (.cells #[.int .u8 t2,.int .u32 a2] 66)) from by exact mods).trans' m4))
   have HN4:=Lib.hid (HN.out.later MR4.out)
   have BW4:=Lib.hid (BW.out.mod MR4.out (by simp))
   obtain ⟨j,rfl⟩:∃j,k=j+1:=⟨k - 1,by omega⟩
   have ST:Hid ((sizesN n W p).take (j+1+1 - 1)=(sizesN n W p).take (j+1 - 1)++[sizeN n W p (j+1)]):=sizesN_at n W p j (by omega)
   obtain ⟨Fo',so,mo,fo⟩:=HN4.out
   have e0:(((sizesN n W p).take (j+1 - 1)).map ei).length=j:=by simp [sizesN];omega
   obtain ⟨Ao,capo,rfl,hcapo⟩:=so.shape
   rw [e0] at so hcapo HN HN4 ⊢
   have SO:=Lib.hid so
   have MO:=Lib.hid mo
   have FO:=Lib.hid fo
   have LO:=Lib.hid e0
   clear so mo fo hcapo e0 m4 SZ3
   generalize sizeN n W p (j+1)=z at *
   generalize (sizesN n W p).take (j+1 - 1)=zs at *
   go_wp2_with (at_builtin;refine wpList_append_sl _ rfl _ _ 28 rfl 3 i0 (.int .i64 0) 1 8 Tryz.underlying28 hi hz0 hz1 hz2 rfl (by decide) _ j (zs.map ei) Fo' rfl (SO.out.mod (S:=[]) (by exact mods) (by simp)) ⟨_,0,none⟩ 1 1 [ei z] (by decide) rfl rfl (by intro j u hu;exact list_new_at _ _ _ _ (by simp) j u hu) (by intro u hu;simp at hu;subst hu;rfl) (by unfold maxLen;omega) (by omega) ?_;intro v5 w5 F5 hs5 hm5 hf5;have N5:=Lib.hid (NewV.app (l:=zs.map ei) (l2:=[ei z]) MO.out FO.out LO.out rfl (by exact mods) hs5 hm5 hf5);obtain ⟨a5,cap5,rfl,_⟩:=hs5.shape;clear hs5 hm5 hf5)
   refine ⟨⟨j+1+1,by omega,by omega,by go_num,?_,N5.out.mod⟩,by simp [intOf];omega⟩
   have e:(sizesN n W p).take (j+1+1 - 1)=zs++[z]:=ST.out
   show NewV _ _ _ _ _
   rw [e,List.map_append]
   exact N5.out
  ·obtain rfl:k=6:=by omega
   go_wp2_with fail
   go_ret2
   exact ⟨_,rfl,HN.out.after M0.out⟩
def szT (f n:Nat) (t:List Bool):Nat:=(dis [] (nds (buildE f n n 0 t).2)).length
section
variable {n:Nat} {t:List Bool}
theorem mem_dis {α:Type} [DecidableEq α] {x:α} {l:List α}:x∈dis [] l↔x∈l:=by rw [dis_mem];simp
theorem sz_le_keys {f:Nat} (z:Bool) (g:Ky→Tr) (hc:∀T∈nds (buildE f n n 0 t).2,∃y∈keys z n 0 t,g y=T):szT f n t≤(dis [] (keys z n 0 t)).length:=
 nodup_le_rel (fun T y=>g y=T) (fun a a' b h k=>h.symm.trans k) (dis_nodup _ _ List.nodup_nil) fun T hT=>by
  obtain ⟨y,hy,e⟩:=hc T (mem_dis.1 hT)
  exact ⟨y,mem_dis.2 hy,e⟩
def keysA:Nat→Nat→List Bool→List Ky
 | 0,_,_=>[]
 | 1,_,_=>[]
 | k+2,l,t=>(k+2,l,t)::(keysA (k+1) (l+1) (t.take (2 ^ (k+1)))++keysA (k+1) (l+1) (t.drop (2 ^ (k+1))))
theorem keysA_len:∀(k l:Nat) (t:List Bool),(keysA (k+1) l t).length+1=2 ^ k:=by
 intro k
 induction k with
 | zero=>intro l t;simp [keysA]
 | succ k ih=>
  intro l t
  have h1:=ih (l+1) (t.take (2 ^ (k+1)))
  have h2:=ih (l+1) (t.drop (2 ^ (k+1)))
  rw [keysA,List.length_cons,List.length_append]
  have:=Nat.pow_succ 2 k
  omega
theorem bools2 (t:List Bool) (h:t.length=2):t=[false,false]∨t=[false,true]∨t=[true,false]∨t=[true,true]:=by
 match t,h with
 | [a,b],_=>cases a<;>cases b<;>simp
theorem keys_cov (z:Bool):∀(k l:Nat) (t:List Bool),t.length=2 ^ (k+1)→∀y∈keys z (k+1) l t,
 y∈keysA (k+1) l t++[(1,l+k,[false,true]),(1,l+k,if z then [true,true] else [true,false])]:=by
 intro k
 induction k with
 | zero=>
  intro l t ht y hy
  rcases bools2 t ht with rfl | rfl | rfl | rfl<;>cases z<;>simp [keys,keysA] at hy ⊢<;>simp [hy]
 | succ k ih=>
  intro l t ht y hy
  obtain ⟨h1,h2⟩:=halves_len ht
  have q:y=(k+2,l,t)∨y∈keys z (k+1) (l+1) (t.take (2 ^ (k+1)))∨y∈keys z (k+1) (l+1) (t.drop (2 ^ (k+1))):=by
   rw [keys] at hy
   by_cases hc:(if z then decide (true∉t.drop (2 ^ (k+1))) else decide (t.take (2 ^ (k+1))=t.drop (2 ^ (k+1))))=true
   ·rw [if_pos hc] at hy;exact .inr (.inl hy)
   ·rw [if_neg hc] at hy;simpa [List.mem_cons,List.mem_append] using hy
  have e:l+1+k=l+(k+1):=by omega
  rw [keysA]
  rcases q with rfl | q | q
  ·simp
  ·have:=ih _ _ h1 y q
   rw [e] at this
   simp only [List.mem_append,List.mem_cons] at this ⊢
   rcases this with h | h
   ·exact .inl (.inr (.inl h))
   ·exact .inr h
  ·have:=ih _ _ h2 y q
   rw [e] at this
   simp only [List.mem_append,List.mem_cons] at this ⊢
   rcases this with h | h
   ·exact .inl (.inr (.inr h))
   ·exact .inr h
theorem keys_len (z:Bool) (k l:Nat) (t:List Bool) (hk:k≤4) (ht:t.length=2 ^ k):(dis [] (keys z k l t)).length≤9:=by
 cases k with
 | zero=>simp [keys,dis]
 | succ k=>
  have h:=nodup_le (m:=keysA (k+1) l t++[(1,l+k,[false,true]),(1,l+k,if z then [true,true] else [true,false])]) (dis_nodup (keys z (k+1) l t) [] List.nodup_nil)
   fun y hy=>keys_cov z k l t ht y (mem_dis.1 hy)
  rw [List.length_append] at h
  have h2:=keysA_len k l t
  have h3:2 ^ k≤2 ^ 3:=Nat.pow_le_pow_right (by omega) (by omega)
  simp only [List.length_cons,List.length_nil] at h
  omega
theorem sz_le {f:Nat} (h1:1≤f) (h5:f≤5) (hn:n≤4) (ht:t.length=2 ^ n):szT f n t≤9:=by
 obtain rfl | rfl | rfl | rfl | rfl:f=1∨f=2∨f=3∨f=4∨f=5:=by omega
 ·exact Nat.le_trans (sz_le_keys false _ (cov13 (.inl rfl) n 0 t (by omega) ht)) (keys_len _ _ _ _ hn ht)
 ·exact Nat.le_trans (sz_le_keys true _ (cov24 (.inl rfl) n 0 t (by omega) ht)) (keys_len _ _ _ _ hn ht)
 ·exact Nat.le_trans (sz_le_keys false _ (cov13 (.inr rfl) n 0 t (by omega) ht)) (keys_len _ _ _ _ hn ht)
 ·exact Nat.le_trans (sz_le_keys true _ (cov24 (.inr rfl) n 0 t (by omega) ht)) (keys_len _ _ _ _ hn ht)
 ·exact Nat.le_trans (sz_le_keys false _ (cov5 n 0 t (by omega) ht)) (keys_len _ _ _ _ hn ht)
theorem tsz_nodeE (f l:Nat) (x y:Nat × Tr):tsz (nodeE f l x y)≤1+tsz x.2+tsz y.2:=by
 rcases nodeE_form f l x y with ⟨t,b,tl,u,th,v,e1,_,_,e3,e⟩ | ⟨t,b,tl,u,th,v,e1,_,_,_,e⟩ | e
 ·rw [e,e1];simp [tsz];omega
 ·rw [e,e1];simp [tsz];omega
 ·rw [e];simp [tsz]
theorem tsz_mk (f l:Nat) (x y:Nat × Tr):tsz (mkE f l x y).2≤1+tsz x.2+tsz y.2:=by
 have:=tsz_nodeE f l x y
 unfold mkE
 split
 ·split<;>simp<;>omega
 ·split
  ·omega
  ·split<;>simp<;>omega
theorem tsz_build (f:Nat):∀(k l:Nat) (t:List Bool),tsz (buildE f n k l t).2+1≤2 ^ (k+1):=by
 intro k
 induction k with
 | zero=>intro l t;simp [buildE,leafE,tsz]
 | succ k ih=>
  intro l t
  have h1:=ih (l+1) (t.take (2 ^ k))
  have h2:=ih (l+1) (t.drop (2 ^ k))
  have h3:=tsz_mk f l (buildE f n k (l+1) (t.take (2 ^ k))) (buildE f n k (l+1) (t.drop (2 ^ k)))
  rw [buildE,Nat.pow_succ]
  omega
end
theorem sizes_ok {n W:Nat} (p:List Nat) (hn:n≤4) (f:Nat) (h1:1≤f) (h5:f≤5):tsz (buildE f n n 0 (tabL W p n 0 0)).2≤1000000∧sizeN n W p f≤12:=by
 have h:=tsz_build (n:=n) f n 0 (tabL W p n 0 0)
 have h3:2 ^ (n+1)≤2 ^ 5:=Nat.pow_le_pow_right (by omega) (by omega)
 refine ⟨by omega,?_⟩
 have:=sz_le (t:=tabL W p n 0 0) h1 h5 hn (tabL_len _ _ _ _ _)
 unfold szT at this
 unfold sizeN
 omega
end Go.Proofs.YtlafpknoiihaaaaGreatDoor
