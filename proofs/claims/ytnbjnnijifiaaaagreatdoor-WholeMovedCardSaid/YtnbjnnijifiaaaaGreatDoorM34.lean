/- M34: Yk · Yl · Ym · Yn · Za · Zb · Zc · Zd · Ze · Zf · Zg -/
import Derived.Test.YtnbjnnijifiaaaaGreatDoorM33
import Derived.Laws.IdiomStrings
import Derived.Laws.BytesString
import Derived.BigQuiet
import Derived.Deep.RegionHeld3
import Derived.Deep.CutRange
import Derived.Test.YtnbjnnijifiaaaaGreatDoorM14
import Derived.Test.YtnbjnnijifiaaaaGreatDoorM10
import Derived.Test.YtnbjnnijifiaaaaGreatDoorM30
import Derived.Laws.Cells
set_option maxHeartbeats 8000000
set_option maxRecDepth 100000
set_option linter.unusedVariables false
set_option linter.unusedSimpArgs false
namespace Go.Proofs.YtnbjnnijifiaaaaGreatDoor
open Go.RowKit Go.Shelf
def bc (l:List UInt8):List Value:=l.map fun c=>.int .u8 c.toNat
theorem bc_get (l:List UInt8) (i:Nat) (h:i < l.length):(bc l)[i]? =some (.int .u8 l[i].toNat):=by simp [bc,h]
theorem bc_ey {l:List Nat} (h:∀x∈l,x < 256):l.map ey=bc (l.map UInt8.ofNat):=by
 unfold bc
 rw [List.map_map]
 refine List.map_congr_left (fun x hx=>?_)
 simp only [Function.comp,ey,UInt8.toNat_ofNat']
 rw [Nat.mod_eq_of_lt (by have:=h x hx;omega)]
theorem conv_bc {w:World} {A:Option Addr} {n cap:Nat} {l:List UInt8} {F:List Nat} (h:Rv w (.slice A n cap) (bc l) F):(convert 43 9 (.slice A n cap)).run Tryz.prog w=.ok (.string ⟨l.toArray⟩) w:=by
 obtain ⟨hn,hc⟩:=h.len
 rw [show (bc l).length=l.length from by simp [bc]] at hn
 subst hn
 cases A with
 | none=>
  have h0:l.length=0:=by
   rcases Nat.eq_zero_or_pos l.length with e | e
   ·exact e
   ·obtain ⟨a,e,_⟩:=h.src e;simp at e
  rw [run_convert_bytes_string w 43 9 5 none _ _ Tryz.underlying43 Tryz.underlying5 Tryz.underlying9,List.eq_nil_of_length_eq_zero h0]
  simp [Conv.bytesToString,Sem.run_pure]
  rfl
 | some a=>
  refine run_convert_bytes_back w 43 9 5 a cap l Tryz.underlying43 Tryz.underlying5 Tryz.underlying9 (fun j hj=>?_)
  obtain ⟨a',e,hh⟩:=h.src (by omega)
  simp at e;subst e
  exact hh j _ (bc_get l j hj)
theorem bytesEqual_c {w:World} {v u:Value} {l:List Nat} {F G:List Nat} (h:Rv w v (l.map ey) F) (k:Rv w u (l.map ey) G) (hl:∀x∈l,x < 256):
 Calls Tryz.prog 76 #[v,u] w fun e w'=>e=.returned (.bool true)∧w'=w:=by
 obtain ⟨A,cap,rfl,-⟩:=h.shape
 obtain ⟨B,cap',rfl,-⟩:=k.shape
 rw [bc_ey hl] at h k
 have c1:=conv_bc h
 have c2:=conv_bc k
 rw [show (bc (l.map UInt8.ofNat)).length=l.length from by simp [bc]] at c1 c2
 rw [List.length_map]
 generalize l.length=m at *
 generalize (⟨(l.map UInt8.ofNat).toArray⟩:ByteArray)=s at *
 clear h k hl
 go_enter Tryz.func76,Tryz.ntmps76
 go_wp2_with fail
 go_ret
 exact ⟨rfl,rfl⟩
theorem sameInts_c {w:World} {v u:Value} {l:List Nat} {F G:List Nat} (h:Rv w v (l.map ei) F) (k:Rv w u (l.map ei) G) (hl:l.length≤1000):
 Calls Tryz.prog 35 #[v,u] w fun e w'=>e=.returned (.bool true)∧Mod [] w w':=by
 obtain ⟨A,cap,rfl,hc⟩:=h.shape
 obtain ⟨B,cap',rfl,hc'⟩:=k.shape
 obtain ⟨n,hn⟩:∃n,l.length=n:=⟨_,rfl⟩
 simp only [List.length_map] at hc hc' ⊢
 have H:=Lib.hid h
 have K:=Lib.hid k
 have HN:=Lib.hid hn
 simp only [List.length_map] at H K
 rw [hn] at H K hc hc' hl ⊢
 clear h k hn
 have hl':(n:Int)≤1000:=by omega
 go_enter Tryz.func35,Tryz.ntmps35
 go_wp2_with fail
 go_loopw [13] (fun i wr=>∃j:Nat,j≤n∧i=.int .i64 j∧Hid (Mod [] w wr)) (fun i _=>n - (intOf i).toNat)
 case atStart=>exact ⟨0,by omega,rfl,Mod.refl _ _⟩
 case round=>
  obtain ⟨j,hj,rfl,HM⟩:=hrel
  by_cases hlt:j < n
  ·have hlt':(j:Int) < n:=by omega
   have hj1:j < l.length:=by rw [HN.out];exact hlt
   obtain ⟨b1,o1,rfl,d1⟩:=(H.out.mod HM.out (by simp)).at j (by rw [List.length_map];exact hj1)
   obtain ⟨b2,o2,rfl,d2⟩:=(K.out.mod HM.out (by simp)).at j (by rw [List.length_map];exact hj1)
   rw [List.getElem_map] at d1 d2
   unfold ei at d1 d2
   generalize l[j]=x at *
   go_wp2_with fail
   go_quiet (fail)
   rename_i nq
   have HM2:Hid (Mod [] w (wr.drewN nq)):=HM.out.drewN nq
   generalize wr.drewN nq=wq at *
   go_wp2_with fail
   go_roundw
   case rel=>exact ⟨j+1,by omega,by go_num,HM2⟩
   all_goals (simp [intOf];omega)
  ·have hlt':¬(j:Int) < n:=by omega
   go_wp2_with fail
   go_ret
   exact ⟨rfl,HM.out⟩
structure SvP (L0:List Rc) (f n:Nat) (p:List Nat) (tb:List Bool) (bytes:List Nat) (no:List Tr) (t a:Nat):Prop where
 eq:bytes=[n,f]++p++[no.length]++no.flatMap (recB f no)++eB f a t
 sv:bytes=savedB f n p (buildE f n n 0 tb)
 nos:NoS L0 f n no
 ok:OkNo f no
 ha:a≤no.length+1
 ht:t≤16
 ht0:¬(f=5∧0 < a)→t=0
 n49:no.length≤49
 len:bytes.length≤5000
 lnb:no.length≤bytes.length
 lt:∀x∈bytes,x < 256
 edt:EdT (no.map (rcT f no)) f n n 0 ⟨t,a⟩ tb
theorem recB_len {f:Nat} {no:List Tr} {T:Tr}:(recB f no T).length≤6:=by
 cases T with
 | leaf b=>simp [recB]
 | node t b tl x th y=>
  have e:∀tg S,(edgeB f no tg S).length≤2:=fun tg S=>by unfold edgeB;split<;>simp
  have e1:=e tl x
  have e2:=e th y
  show ([t]++(if f=3∨f=4 then [b] else [])++edgeB f no tl x++edgeB f no th y).length≤6
  simp only [List.length_append,List.length_cons,List.length_nil]
  split<;>simp<;>omega
theorem flat_le {α β:Type} (g:α→List β) (m:Nat) (h:∀a,(g a).length≤m):∀l:List α,(l.flatMap g).length≤m *l.length
 | []=>by simp
 | a::l=>by
  have:=flat_le g m h l
  have:=h a
  rw [List.flatMap_cons,List.length_append,List.length_cons,Nat.mul_succ]
  omega
theorem flat_ge {α β:Type} (g:α→List β):∀l:List α,(∀a∈l,1≤(g a).length)→l.length≤(l.flatMap g).length
 | [],_=>by simp
 | a::l,h=>by
  have:=flat_ge g l (fun x hx=>h x (by simp [hx]))
  have:=h a (by simp)
  rw [List.flatMap_cons,List.length_append,List.length_cons]
  omega
theorem saved_facts {L0:List Rc} {f n:Nat} {p:List Nat} {tb:List Bool} {e0:Ed} (h1:1≤f) (h5:f≤5) (hn5:n≤5) (hp:Perm p n) (hE:EdT L0 f n n 0 e0 tb) (hG:Good L0 n) (hnd:L0.Nodup):
 ∃no t a,SvP L0 f n p tb (savedB f n p (buildE f n n 0 tb)) no t a:=by
 obtain ⟨⟨et,T⟩,hx⟩:∃x,buildE f n n 0 tb=x:=⟨_,rfl⟩
 have fw:=few_build f n n 0 tb hn5
 have hrep:=hE.rep
 have hlead:=hE.lead
 rw [hx] at fw hrep
 simp only at fw
 obtain ⟨clo,nd,hT,sub,wr⟩:=noT_spec f T
 have hl:=noT_len f T
 generalize hno:noT f T=no at *
 have hrT:Rep L0 f e0.a T:=hrep.a
 have hN:NoS L0 f n no:=⟨clo,nd,fun S hS=>hrT.sub S (sub S hS),fun S hS=>nds_node (sub S hS),hnd,hG⟩
 have ok:=okNo hN
 have het:e0.t=et:=hrep.t
 have hT':(∃c,T=.leaf c)∨∃j,j < no.length∧no[j]? =some T:=hT.imp (fun h=>h) (fun h=>by
  obtain ⟨j,hj⟩:=List.mem_iff_getElem?.1 h
  exact ⟨j,(List.getElem?_eq_some_iff.1 hj).1,hj⟩)
 have hz:numT no T=0↔e0.a=0:=numT_zero.trans (RepE.zero_iff hrep).symm
 have ha:numT no T≤no.length+1:=by
  rcases hT' with ⟨c,rfl⟩ | ⟨j,hj,e⟩
  ·have:=numT_lf (no:=no) c;omega
  ·obtain ⟨t,b,tl,u,th,v,rfl⟩:=hN.node _ (List.mem_of_getElem? e)
   rw [numT_at nd e];omega
 have ht:et≤16:=by
  have pl:=hlead.plain
  by_cases c:f≠5∨e0.a=0
  ·have:=pl.1 c;omega
  ·have:=(pl.2 (by omega) (by omega)).2;omega
 have ht0:¬(f=5∧0 < numT no T)→et=0:=fun q=>by
  have:=hlead.plain.1 (by by_cases c:f=5;right;exact hz.1 (by omega);left;exact c)
  omega
 have eb:edgeB f no et T=eB f (numT no T) et:=by
  unfold edgeB eB
  by_cases c:T=.leaf false
  ·rw [if_neg (by simp [c]),if_neg (by rw [numT_zero.2 c];omega)];rfl
  ·have:numT no T≠0:=fun q=>c (numT_zero.1 q)
   by_cases f5:f=5
   ·rw [if_pos ⟨f5,c⟩,if_pos ⟨f5,by omega⟩];rfl
   ·rw [if_neg (fun q=>f5 q.1),if_neg (fun q=>f5 q.1)];rfl
 have heq:savedB f n p (et,T)=[n,f]++p++[no.length]++no.flatMap (recB f no)++eB f (numT no T) et:=by
  unfold savedB
  simp only [hno,wr,eb]
 rw [←hx] at heq
 have f6:=flat_le (recB f no) 6 (fun _=>recB_len) no
 have fg:=flat_ge (recB f no) no (fun S hS=>by
  obtain ⟨t,b,tl,x,th,y,rfl⟩:=hN.node S hS
  show 1≤([t]++(if f=3∨f=4 then [b] else [])++edgeB f no tl x++edgeB f no th y).length
  simp)
 have l1:=hp.len
 have l2:=eB_len f (numT no T) et
 have ht1:tb.length=2 ^ n:=hE.len
 refine ⟨no,et,numT no T,heq,rfl,hN,ok,ha,ht,ht0,by omega,?_,?_,?_,?_,?_,ht1,hE.lk⟩
 ·rw [heq];simp only [List.length_append,List.length_cons,List.length_nil];omega
 ·rw [heq];simp only [List.length_append,List.length_cons,List.length_nil];omega
 ·have small:∀tg m,tg≤16→m≤60→∀x∈eB f m tg,x < 256:=fun tg m q1 q2 x hx=>by
   unfold eB at hx
   split at hx<;>simp at hx<;>omega
  intro x hx
  rw [heq] at hx
  simp only [List.mem_append,List.mem_cons,List.not_mem_nil,or_false,List.mem_flatMap] at hx
  rcases hx with (((h | h) | h) | ⟨S,hS,h⟩) | h
  ·omega
  ·have:=hp.lt x h;omega
  ·omega
  ·obtain ⟨i,hi⟩:=List.mem_iff_getElem?.1 hS
   have hlt:=(List.getElem?_eq_some_iff.1 hi).1
   obtain ⟨t,b,tl,x',th,y,rfl,q1,q2,q3,q4,q5,q6,-,-,-,er⟩:=ok i S hi
   rw [er] at h
   simp only [List.mem_append,List.mem_cons,List.not_mem_nil,or_false] at h
   rcases h with ((h | h) | h) | h
   ·omega
   ·split at h<;>simp at h<;>omega
   ·exact small _ _ q3 (by omega) x h
   ·exact small _ _ q4 (by omega) x h
  ·exact small _ _ ht (by omega) x h
 ·rw [hx];exact ⟨rfl,rep_mv hN T hT⟩
 ·have h:=lead_mv (i:=no.length) hN hlead hrT hT'
  rw [List.take_length,het] at h
  exact h
open Go.RowKit
def GoodT (w:World) (n f N:Nat) (p:List Nat) (rl:List Rc) (t a:Nat) (e:Ending) (w':World):Prop:=
 ∃tx Fp Fl,e=.returned (.tuple #[.pointer (some ⟨tx,0,none⟩),.int .u8 0])∧TxB w' tx n f N p rl t a Fp Fl∧Mod [] w w'∧∀k∈tx::(Fp++Fl),w.heap.size≤k
theorem Sto.fresh {w:World} {b n room:Nat} {F:List Nat} (h:IsSt w b n [] room F):Sto w b n room [] F:=⟨h,fun id r h=>by simp [recAt] at h,List.nodup_nil⟩
theorem TxB.lt {W:World} {tb n f N:Nat} {pl:List Nat} {rl:List Rc} {et ea:Nat} {Fp Fl:List Nat} (h:TxB W tb n f N pl rl et ea Fp Fl):∀k∈tb::(Fp++Fl),k < W.heap.size:=by
 obtain ⟨vp,vl,h1,h2,h3,-⟩:=h
 intro k hk
 simp only [List.mem_cons,List.mem_append] at hk
 rcases hk with rfl | hk | hk
 ·exact h1.lt
 ·exact h2.lt k hk
 ·exact h3.lt k hk
theorem good_c {w:World} {v:Value} {L0:List Rc} {f n t a:Nat} {p Fb bytes:List Nat} {tb:List Bool} {no:List Tr} (h1:1≤f) (h5:f≤5) (hn5:n≤5) (hp:Perm p n) (hV:Rv w v (bytes.map ey) Fb) (hFb:∀k∈Fb,k < w.heap.size) (S:SvP L0 f n p tb bytes no t a):
 Calls Tryz.prog 33 #[v] w (GoodT w n f no.length p (no.map (rcT f no)) t a):=by
 have RD:=Lib.hid (read_c S.eq hV hFb (by omega) h1 h5 hp.len (fun x hx=>by have:=hp.lt x hx;omega) (by have:=S.n49;omega) S.ok S.ha S.ht S.ht0 S.len S.lnb)
 have HV:=Lib.hid hV
 obtain ⟨A,vcap,rfl,hvc⟩:=hV.shape
 have hbl5:=S.len
 have h49:=S.n49
 have HS:=Lib.hid S
 have HP:=Lib.hid hp
 have HFB:=Lib.hid hFb
 obtain ⟨bl,hbl⟩:∃bl,bytes.length=bl:=⟨_,rfl⟩
 obtain ⟨N,hN⟩:∃N,no.length=N:=⟨_,rfl⟩
 simp only [List.length_map] at hvc HV RD ⊢
 rw [hbl] at hvc HV RD hbl5 ⊢
 rw [hN] at RD h49 ⊢
 have HBL:=Lib.hid hbl
 have HN:=Lib.hid hN
 have htz:=tsz_build (n:=n) f n 0 tb
 have h64:2 ^ (n+1)≤64:=by have:=Nat.pow_le_pow_right (n:=2) (by omega) (show n+1≤6 by omega);simpa using this
 have ET:=S.edt
 have hbl':(bl:Int)≤5000:=by omega
 have hN':(N:Int)≤49:=by omega
 have hn':(n:Int)≤5:=by omega
 have CR:Hid (∀W b F,Sto W b n N (no.map (rcT f no)) F→Calls Tryz.prog 30 #[.pointer (some ⟨b,0,none⟩),.int .u8 f,.agg #[.int .u8 t,.int .u32 a],.int .i64 0] W fun e w'=>e=.returned (.bool true)∧Mod [] W w'):=fun W b F s=>by
  have h:=canonRight_c h1 h5 s (by rw [List.length_map];omega) (by omega) hn5 ET
  unfold edv at h
  exact h
 have WR:Hid (∀W b F v Fv,Sto W b n N (no.map (rcT f no)) F→Rv W v (p.map ei) Fv→Calls Tryz.prog 31 #[.pointer (some ⟨b,0,none⟩),v,.int .u8 f,.agg #[.int .u8 t,.int .u32 a]] W fun e w'=>∃v',e=.returned v'∧NewV 5 W (bytes.map ey) w' v'∧Mod [] W w'):=fun W b F v Fv s hv=>by
  refine (written_c h1 h5 (by omega) (by rw [List.length_map];omega) s.nd s.good s.st hv (by rw [hp.len];omega) (fun x hx=>by have:=hp.lt x hx;omega) ET.rep.a (by have:=S.ht;omega) (by omega)).mono ?_
  rintro e w' ⟨v',rfl,nv⟩
  have e2:(t,(buildE f n n 0 tb).2)=buildE f n n 0 tb:=Prod.ext ET.rep.t rfl
  rw [e2,←S.sv] at nv
  exact ⟨v',rfl,nv,nv.mod⟩
 have EQ:Hid (∀W u G,Mod [] w W→Rv W u (bytes.map ey) G→Calls Tryz.prog 76 #[u,.slice A bl vcap] W fun e w'=>e=.returned (.bool true)∧Mod [] W w'):=fun W u G m r=>(bytesEqual_c r (HV.out.mod m (by simp)) S.lt).mono (by
  rintro e w' ⟨rfl,rfl⟩
  exact ⟨rfl,Mod.refl _ _⟩)
 have OF:Hid (∀W v F,Rv W v (p.map ei) F→Calls Tryz.prog 23 #[v] W (OrdPD W p)):=fun W v F r=>orderOfD_c r hp (by omega)
 have SN:Hid (∀W,Calls Tryz.prog 22 #[.int .i64 n,.int .i64 N] W fun e w'=>∃b F,e=.returned (.tuple #[.pointer (some ⟨b,0,none⟩),.int .u8 0])∧IsSt w' b n [] N F∧Mod [] W w'∧∀k∈F,W.heap.size≤k):=fun W=>stNew_c n N (by omega) (by omega) W
 clear hV hFb S hp hbl hN htz h64 ET
 go_enter Tryz.func33,Tryz.ntmps33
 go_wp2_with fail
 refine RD.out.mono ?_
 rintro e w1 ⟨tx,Fp,Fl,rfl,hT,m1,hnew⟩
 have TX:=Lib.hid hT
 have M1:=Lib.hid m1
 have HNW:=Lib.hid hnew
 obtain ⟨vp,vl,B,SP,SLl,-⟩:=hT
 obtain ⟨AP,capp,rfl,hcp⟩:=SP.shape
 obtain ⟨AL,capl,rfl,hcl⟩:=SLl.shape
 rw [List.length_map,HN.out] at B SLl hcl
 rw [HP.out.len] at B SP hcp
 have RP:Hid (Rv w1 (.slice AP n capp) (p.map ei) Fp):=Rv.of_sl SP (by rw [List.length_map,HP.out.len])
 have BT:=Lib.hid B
 have c2:=B.cell 2
 simp only [List.getElem?_toArray,List.getElem?_cons_zero,List.getElem?_cons_succ] at c2
 clear B SP SLl m1 hnew RD
 go_wp2_with fail
 refine (OF.out _ _ Fp RP.out).mono ?_
 rintro e w2 ⟨bo,q,Fo,rfl,-,-,m2,-⟩
 have M2:=Lib.hid (M1.out.trans' m2)
 replace TX:=Lib.hid (TX.out.mod m2 (by simp))
 replace RP:=Lib.hid (RP.out.mod m2 (by simp))
 replace BT:=Lib.hid (BT.out.mod m2 (by simp))
 clear c2 m2 M1 OF
 have c0:=BT.out.cell 0
 have c4:=BT.out.cell 4
 simp only [List.getElem?_toArray,List.getElem?_cons_zero,List.getElem?_cons_succ] at c0 c4
 have htl:=BT.out.lt
 go_upto_region 9 with fail
 go_region_held3 (fun w'=>w'.cell? ⟨tx,0,none⟩=some (.int .i64 n)∧w'.cell? ⟨tx,4,none⟩=some (.slice AL N capl)) (go_keep) (first | (go_at_call 22;refine (SN.out _).mono ?_;rintro e' w3 ⟨bs,Fs,rfl,ss,m_w3,os⟩;have M_w3:=Mod.trans' (show Mod _ w2 _ from by exact mods) m_w3;have c0:=(M_w3.cell (a:=⟨tx,0,none⟩) htl (by first | assumption | (simp;done))).trans c0;have c4:=(M_w3.cell (a:=⟨tx,4,none⟩) htl (by first | assumption | (simp;done))).trans c4;have htl:=Nat.lt_of_lt_of_le htl M_w3.size;have SS:=Lib.hid ss;have OSS:=Lib.hid os;clear ss os))
 have OS2:Hid (∀k∈Fs,w2.heap.size≤k):=fun k hk=>by have:=OSS.out k hk;simpa using this
 have PT:Hid (∀W,Mod [] w3 W→Calls Tryz.prog 36 #[.pointer (some ⟨tx,0,none⟩),.pointer (some ⟨bs,0,none⟩)] W (PutT W bs n N (no.map (rcT f no)) Fs t a)):=fun W m=>textPut_c ((TX.out.mod M_w3 (by simp)).mod m (by simp)) (Sto.fresh (SS.out.mod m (by simp))) (fun k hk hF=>by have:=TX.out.lt k hk;have:=OS2.out k hF;omega) HN.out (by omega) HS.out.nos h1 h5 (by omega) (Nat.le_refl _) (by omega) (by have:=HS.out.ha;have:=HN.out;omega)
 clear SN OSS c0 c4
 go_wp2_with fail
 refine (PT.out _ (by exact mods)).mono ?_
 rintro e w5 ⟨F5,rfl,s5,g5⟩
 have HT5:tx < w3.heap.size∧tx∉Fs:=⟨htl,fun h=>by have:=BT.out.lt;have:=OS2.out tx h;omega⟩
 have HTX:Hid (∀k∈tx::(Fp++Fl),k∉Fs):=fun k hk hF=>by have:=TX.out.lt k hk;have:=OS2.out k hF;omega
 replace TX:=Lib.hid ((TX.out.mod M_w3 (by simp)).mod g5.mod HTX.out)
 replace RP:=Lib.hid ((RP.out.mod M_w3 (by simp)).mod g5.mod (fun k hk=>HTX.out k (by simp [hk])))
 replace BT:=Lib.hid ((BT.out.mod M_w3 (by simp)).mod g5.mod (HTX.out tx (by simp)))
 have M5:Hid (Mod [] w w5):=(M2.out.trans' M_w3).trans g5.mod (fun i hi h=>by have:=OS2.out i h;have:=M2.out.size;omega)
 have S5:=Lib.hid s5
 clear s5 g5 PT SS HT5 HTX M_w3 htl OS2 M2
 obtain ⟨ge,hge⟩:∃ge,w5.heap.size=ge:=⟨_,rfl⟩
 have htl:=BT.out.lt
 rw [hge] at htl
 go_upto_region 13 with fail
 have BE:=Lib.hid (Blk.new' w5 #[.int .u8 t,.int .u32 a] 39 ge hge.symm)
 have M6:Hid (Mod [] w5 (w5.alloc (.cells #[.int .u8 t,.int .u32 a] 39))):=(Mod.refl _ _).alloc _
 replace TX:=Lib.hid (TX.out.mod M6.out (by simp))
 replace RP:=Lib.hid (RP.out.mod M6.out (by simp))
 replace BT:=Lib.hid (BT.out.mod M6.out (by simp))
 replace S5:=Lib.hid (S5.out.mod M6.out (by simp))
 replace M5:=Lib.hid (M5.out.trans' M6.out)
 clear M6 hge
 generalize w5.alloc (.cells #[.int .u8 t,.int .u32 a] 39)=w6 at *
 clear htl
 have htl:=BT.out.lt
 have hk:=BE.out.lt
 obtain ⟨e0,e1⟩:=BE.out.cells2
 have c1:=BT.out.cell 1
 have c2:=BT.out.cell 2
 simp only [List.getElem?_toArray,List.getElem?_cons_zero,List.getElem?_cons_succ] at c1 c2
 go_region_held3 (fun w'=>w'.cell? ⟨ge,0,none⟩=some (.int .u8 t)∧w'.cell? ⟨ge,1,none⟩=some (.int .u32 a)∧w'.cell? ⟨tx,1,none⟩=some (.int .u8 f)∧w'.cell? ⟨tx,2,none⟩=some (.slice AP n capp)) (go_keep) (first | (go_at_call 30;(with_reducible refine (CR.out _ _ F5 (S5.out.mod (show Mod [] w6 _ from by exact mods) (by simp))).mono ?_);rintro e' wa ⟨rfl,m_wa⟩;have M_wa:=Mod.trans' (show Mod _ w6 _ from by exact mods) m_wa;have e0:=(M_wa.cell (a:=⟨ge,0,none⟩) hk (by first | assumption | (simp;done))).trans e0;have e1:=(M_wa.cell (a:=⟨ge,1,none⟩) hk (by first | assumption | (simp;done))).trans e1;have c1:=(M_wa.cell (a:=⟨tx,1,none⟩) htl (by first | assumption | (simp;done))).trans c1;have c2:=(M_wa.cell (a:=⟨tx,2,none⟩) htl (by first | assumption | (simp;done))).trans c2;have hk:=Nat.lt_of_lt_of_le hk M_wa.size;have htl:=Nat.lt_of_lt_of_le htl M_wa.size;skip) | (go_at_call 31;(with_reducible refine (WR.out _ _ F5 _ Fp (S5.out.mod (M_wa.trans' (show Mod [] wa _ from by exact mods)) (by simp)) (RP.out.mod (M_wa.trans' (show Mod [] wa _ from by exact mods)) (by simp))).mono ?_);rintro e' wb ⟨v3,rfl,nv3,m_wb⟩;have M_wb:=Mod.trans' (show Mod _ wa _ from by exact mods) m_wb;have e0:=(M_wb.cell (a:=⟨ge,0,none⟩) hk (by first | assumption | (simp;done))).trans e0;have e1:=(M_wb.cell (a:=⟨ge,1,none⟩) hk (by first | assumption | (simp;done))).trans e1;have c1:=(M_wb.cell (a:=⟨tx,1,none⟩) htl (by first | assumption | (simp;done))).trans c1;have c2:=(M_wb.cell (a:=⟨tx,2,none⟩) htl (by first | assumption | (simp;done))).trans c2;have hk:=Nat.lt_of_lt_of_le hk M_wb.size;have htl:=Nat.lt_of_lt_of_le htl M_wb.size;obtain ⟨F3,r3,-⟩:=nv3.rv;obtain ⟨A3,c3,rfl,-⟩:=r3.shape;rw [List.length_map,HBL.out] at r3 ⊢;have R3:=Lib.hid r3;clear r3 nv3) | (go_at_call 76;(with_reducible refine (EQ.out _ _ F3 (M5.out.trans' ((M_wa.trans' M_wb).trans' (show Mod [] wb _ from by exact mods))) (R3.out.mod (S:=[]) (show Mod [] wb _ from by exact mods) (by simp))).mono ?_);rintro e' wc ⟨rfl,m_wc⟩;have M_wc:=Mod.trans' (show Mod _ wb _ from by exact mods) m_wc;have e0:=(M_wc.cell (a:=⟨ge,0,none⟩) hk (by first | assumption | (simp;done))).trans e0;have e1:=(M_wc.cell (a:=⟨ge,1,none⟩) hk (by first | assumption | (simp;done))).trans e1;have c1:=(M_wc.cell (a:=⟨tx,1,none⟩) htl (by first | assumption | (simp;done))).trans c1;have c2:=(M_wc.cell (a:=⟨tx,2,none⟩) htl (by first | assumption | (simp;done))).trans c2;have hk:=Nat.lt_of_lt_of_le hk M_wc.size;have htl:=Nat.lt_of_lt_of_le htl M_wc.size;skip))
 all_goals
  have MF:Hid (Mod [] w6 wc):=(M_wa.trans' M_wb).trans' M_wc
  clear e0 e1 c1 c2 htl hk CR WR EQ
  go_wp2_with fail
  go_ret2
  exact ⟨tx,Fp,Fl,rfl,TX.out.mod MF.out (by simp),M5.out.trans' MF.out,HNW.out⟩
open Go.RowKit
def LoadT (w:World) (b n room f:Nat) (rl:List Rc) (F:List Nat) (t a:Nat) (e:Ending) (w':World):Prop:=
 ∃F',e=.returned (.tuple #[.int .u8 f,.agg #[.int .u8 t,.int .u32 a],.int .u8 0])∧Sto w' b n room rl F'∧Grow w w' F F'
theorem load_c {w:World} {v:Value} {L0:List Rc} {f n t a b room bo:Nat} {p q Fb Fo F bytes:List Nat} {tb:List Bool} {no:List Tr} (h1:1≤f) (h5:f≤5) (hn5:n≤5) (hp:Perm p n) (hV:Rv w v (bytes.map ey) Fb) (hFb:∀k∈Fb,k < w.heap.size) (S:SvP L0 f n p tb bytes no t a)
 (hS:Sto w b n room [] F) (hO:IsOrdD w bo p q Fo) (hroom:no.length≤room) (hrm:room≤1048576):
 Calls Tryz.prog 11 #[.pointer (some ⟨b,0,none⟩),.pointer (some ⟨bo,0,none⟩),v] w (LoadT w b n room f (no.map (rcT f no)) F t a):=by
 have FT:Hid (∀W,Mod [] w W→Calls Tryz.prog 28 #[.pointer (some ⟨b,0,none⟩),.pointer (some ⟨bo,0,none⟩)] W fun e w'=>e=.returned (.int .u8 0)∧w'=W):=fun W m=>saveFit_c n b bo W (by
  obtain ⟨ba,bi,Fa,k0,_⟩:=(hS.st.mod m (by simp)).own
  exact stVars_c b n W k0) (by
  have:=ordVars_c ((hO.mod m (by simp)).ord);rw [hp.len] at this;exact this)
 have VO:Hid (∀W,Mod [] w W→Calls Tryz.prog 34 #[.pointer (some ⟨bo,0,none⟩)] W fun e w'=>e=.returned (.int .i64 n)∧Mod [] W w'):=fun W m=>by
  have h:=ordVars_c ((hO.mod m (by simp)).ord)
  rw [hp.len] at h
  exact h.mono (by rintro e w' ⟨rfl,rfl⟩;exact ⟨rfl,Mod.refl _ _⟩)
 have PC:Hid (∀W,Mod [] w W→Calls Tryz.prog 32 #[.pointer (some ⟨bo,0,none⟩)] W fun e w'=>∃v F',e=.returned v∧Rv w' v (p.map ei) F'∧Mod [] W w'):=fun W m=>(perm_c ((hO.mod m (by simp)).ord) (by rw [hp.len];omega)).mono (by
  rintro e w' ⟨v,rfl,nv⟩
  obtain ⟨F',r,-⟩:=nv.rv
  exact ⟨v,F',rfl,r,nv.mod⟩)
 have GD:Hid (∀W,Mod [] w W→Calls Tryz.prog 33 #[v] W (GoodT W n f no.length p (no.map (rcT f no)) t a)):=fun W m=>good_c h1 h5 hn5 hp (hV.mod m (by simp)) (fun k hk=>by have:=hFb k hk;have:=m.size;omega) S
 have SE:Hid (∀W u x F G,Rv W u (p.map ei) F→Rv W x (p.map ei) G→Calls Tryz.prog 35 #[u,x] W fun e w'=>e=.returned (.bool true)∧Mod [] W w'):=fun W u x F G r r'=>sameInts_c r r' (by rw [hp.len];omega)
 have h49:=S.n49
 obtain ⟨N,hN⟩:∃N,no.length=N:=⟨_,rfl⟩
 rw [hN] at GD h49 hroom
 have HN:=Lib.hid hN
 have HS:=Lib.hid S
 have HST:=Lib.hid hS
 have HPL:=Lib.hid hp.len
 obtain ⟨ge,hge⟩:∃ge,w.heap.size=ge:=⟨_,rfl⟩
 have hgw:Hid (w.heap.size≤ge):=by show _≤_;omega
 have hgF:Hid (ge∉F):=fun h=>by have:=hS.st.lt ge h;omega
 have hn':(n:Int)≤5:=by omega
 have B0:=Lib.hid (Blk.new' w #[.int .u8 0,.int .u32 0] 39 ge hge.symm)
 obtain ⟨A,vcap,rfl,hvc⟩:=hV.shape
 clear hV hFb S hp hS hO hN
 simp only [List.length_map] at GD hvc ⊢
 generalize bytes.length=bl at GD hvc ⊢
 go_enter Tryz.func11,Tryz.ntmps11
 go_wp2_with fail
 refine (FT.out _ (by exact mods)).mono ?_
 rintro e w1 ⟨rfl,hw1⟩
 have M1:Hid (Mod [] w w1):=by subst hw1;show Mod _ _ _;exact mods
 replace B0:Hid (Blk w1 ge #[.int .u8 0,.int .u32 0] 39):=by subst hw1;exact B0.out
 clear hw1 FT
 go_wp2_with fail
 refine (GD.out _ M1.out).mono ?_
 rintro e w2 ⟨tx,Fp,Fl,rfl,hT,m2,hnew⟩
 have M2:=Lib.hid (M1.out.trans' m2)
 have hg1:=B0.out.lt
 replace B0:=Lib.hid (B0.out.mod m2 (by simp))
 have TX:=Lib.hid hT
 have HNW:Hid (∀k∈tx::(Fp++Fl),w.heap.size≤k):=fun k hk=>by have:=hnew k hk;have:=M1.out.size;omega
 have hgt:Hid (ge∉tx::(Fp++Fl)):=fun h=>by have:=hnew ge h;omega
 obtain ⟨vp,vl,B,SP,SLl,-⟩:=hT
 obtain ⟨AP,capp,rfl,hcp⟩:=SP.shape
 rw [HPL.out] at B SP hcp
 have RP:Hid (Rv w2 (.slice AP n capp) (p.map ei) Fp):=Rv.of_sl SP (by rw [List.length_map,HPL.out])
 have BT:=Lib.hid B
 have c0:=B.cell 0
 have c2:=B.cell 2
 simp only [List.getElem?_toArray,List.getElem?_cons_zero,List.getElem?_cons_succ] at c0 c2
 have htl:=B.lt
 clear B SP SLl hnew GD m2 M1 hg1
 go_upto_region 7 with fail
 go_region_held3 (fun w'=>w'.cell? ⟨tx,0,none⟩=some (.int .i64 n)∧w'.cell? ⟨tx,2,none⟩=some (.slice AP n capp)) (go_keep) (first | (go_at_call 34;(with_reducible refine (VO.out _ (M2.out.trans' (show Mod [] w2 _ from by exact mods))).mono ?_);rintro e' wa ⟨rfl,m_wa⟩;have M_wa:=Mod.trans' (show Mod _ w2 _ from by exact mods) m_wa;have c0:=(M_wa.cell (a:=⟨tx,0,none⟩) htl (by first | assumption | (simp;done))).trans c0;have c2:=(M_wa.cell (a:=⟨tx,2,none⟩) htl (by first | assumption | (simp;done))).trans c2;have htl:=Nat.lt_of_lt_of_le htl M_wa.size;skip) | (go_at_call 32;(with_reducible refine (PC.out _ (M2.out.trans' (M_wa.trans' (show Mod [] wa _ from by exact mods)))).mono ?_);rintro e' wb ⟨v3,F3,rfl,r3,m_wb⟩;have M_wb:=Mod.trans' (show Mod _ wa _ from by exact mods) m_wb;have c0:=(M_wb.cell (a:=⟨tx,0,none⟩) htl (by first | assumption | (simp;done))).trans c0;have c2:=(M_wb.cell (a:=⟨tx,2,none⟩) htl (by first | assumption | (simp;done))).trans c2;have htl:=Nat.lt_of_lt_of_le htl M_wb.size;obtain ⟨A3,c3,rfl,-⟩:=r3.shape;rw [List.length_map,HPL.out] at r3 ⊢;have R3:=Lib.hid r3;clear r3) | (go_at_call 35;(with_reducible refine (SE.out _ _ _ Fp F3 (RP.out.mod ((M_wa.trans' M_wb).trans' (show Mod [] wb _ from by exact mods)) (by simp)) (R3.out.mod (S:=[]) (show Mod [] wb _ from by exact mods) (by simp))).mono ?_);rintro e' wc ⟨rfl,m_wc⟩;have M_wc:=Mod.trans' (show Mod _ wb _ from by exact mods) m_wc;have c0:=(M_wc.cell (a:=⟨tx,0,none⟩) htl (by first | assumption | (simp;done))).trans c0;have c2:=(M_wc.cell (a:=⟨tx,2,none⟩) htl (by first | assumption | (simp;done))).trans c2;have htl:=Nat.lt_of_lt_of_le htl M_wc.size;skip))
 all_goals
  have M3:Hid (Mod [] w2 wc):=(M_wa.trans' M_wb).trans' M_wc
  replace TX:=Lib.hid (TX.out.mod M3.out (by simp))
  replace BT:=Lib.hid (BT.out.mod M3.out (by simp))
  replace B0:=Lib.hid (B0.out.mod M3.out (by simp))
  replace M2:=Lib.hid (M2.out.trans' M3.out)
  clear c0 c2 htl M_wa M_wb M_wc M3 VO PC SE RP
  have HTX:Hid (∀k∈tx::(Fp++Fl),k∉F):=fun k hk hF=>by have:=HNW.out k hk;have:=HST.out.st.lt k hF;omega
  have PT:Hid (∀W,Mod [] wc W→Calls Tryz.prog 36 #[.pointer (some ⟨tx,0,none⟩),.pointer (some ⟨b,0,none⟩)] W (PutT W b n room (no.map (rcT f no)) F t a)):=fun W m=>textPut_c (TX.out.mod m (by simp)) (HST.out.mod (M2.out.trans' m) (by simp)) HTX.out HN.out (by omega) HS.out.nos h1 h5 (by omega) hroom hrm (by have:=HS.out.ha;have:=HN.out;omega)
  go_wp2_with fail
  refine (PT.out _ (by exact mods)).mono ?_
  rintro e w5 ⟨F5,rfl,s5,g5⟩
  have G5:Hid (Grow w w5 F F5):=(Grow.of_mod M2.out).trans g5
  have HG5:Hid (ge∉F5):=g5.out B0.out.lt hgF.out
  replace BT:=Lib.hid (BT.out.mod g5.mod (HTX.out tx (by simp)))
  replace B0:=Lib.hid (B0.out.mod g5.mod hgF.out)
  have S5:=Lib.hid s5
  clear s5 g5 PT TX HST M2
  obtain ⟨gq,hgq⟩:∃gq,w5.heap.size=gq:=⟨_,rfl⟩
  go_upto_region 12 with fail
  have BE:=Lib.hid (Blk.new' w5 #[.int .u8 t,.int .u32 a] 39 gq hgq.symm)
  have M6:Hid (Mod [] w5 (w5.alloc (.cells #[.int .u8 t,.int .u32 a] 39))):=(Mod.refl _ _).alloc _
  have ng1:¬ge=gq:=fun h=>by have:=B0.out.lt;omega
  have ng2:¬gq=ge:=fun h=>by have:=B0.out.lt;omega
  have ng3:¬tx=gq:=fun h=>by have:=BT.out.lt;omega
  have ng4:¬tx=ge:=fun h=>hgt.out (by simp [h])
  have ng5:¬ge=tx:=fun h=>hgt.out (by simp [h])
  replace BT:=Lib.hid (BT.out.mod M6.out (by simp))
  replace B0:=Lib.hid (B0.out.mod M6.out (by simp))
  replace S5:=Lib.hid (S5.out.mod M6.out (by simp))
  replace G5:=Lib.hid (G5.out.then M6.out)
  clear M6 hgq hge
  generalize w5.alloc (.cells #[.int .u8 t,.int .u32 a] 39)=w6 at *
  obtain ⟨e0,e1⟩:=BE.out.cells2
  obtain ⟨y0,y1⟩:=B0.out.cells2
  obtain ⟨f0,f1,-⟩:=B0.out.frozs
  have c1:=BT.out.cell 1
  simp only [List.getElem?_toArray,List.getElem?_cons_zero,List.getElem?_cons_succ] at c1
  have MW:Hid (Mod [ge] w6 ((w6.setCell ⟨ge,0,none⟩ (.int .u8 t)).setCell ⟨ge,1,none⟩ (.int .u32 a)).drew):=(((Mod.refl _ _).setCell _ _ (by simp)).setCell _ _ (by simp)).drew
  have BW:Hid (Blk ((w6.setCell ⟨ge,0,none⟩ (.int .u8 t)).setCell ⟨ge,1,none⟩ (.int .u32 a)).drew ge #[.int .u8 t,.int .u32 a] 39):=by
   have h:Blk ((w6.setCell ⟨ge,0,none⟩ (.int .u8 t)).setCell ⟨ge,1,none⟩ (.int .u32 a)) ge #[.int .u8 t,.int .u32 a] 39:=by simpa using (B0.out.set 0 (.int .u8 t)).set 1 (.int .u32 a)
   exact h.drew
  go_region
  generalize ((w6.setCell ⟨ge,0,none⟩ (.int .u8 t)).setCell ⟨ge,1,none⟩ (.int .u32 a)).drew=w8 at *
  clear e0 e1 y0 y1 f0 f1 c1
  obtain ⟨g0,g1⟩:=BW.out.cells2
  go_wp2_with fail
  refine bodyPost_ret (by simp [results,Tryz.results11,go_sem,g0,g1];try rfl) rfl ?_
  refine ⟨F5,rfl,S5.out.mod MW.out (fun x hx q=>?_),G5.out.write MW.out (fun x hx=>?_)⟩
  ·simp only [List.mem_singleton] at q;subst q;exact HG5.out hx
  ·simp only [List.mem_singleton] at hx;subst hx;exact hgw.out
open Go.RowKit
theorem sameBytes_c {w:World} {v u:Value} {l:List Nat} {F G:List Nat} (h:Rv w v (l.map ey) F) (k:Rv w u (l.map ey) G) (hl:l.length≤10000):
 Calls Tryz.prog 14 #[v,u] w fun e w'=>e=.returned (.bool true)∧Mod [] w w':=by
 obtain ⟨A,cap,rfl,hc⟩:=h.shape
 obtain ⟨B,cap',rfl,hc'⟩:=k.shape
 obtain ⟨n,hn⟩:∃n,l.length=n:=⟨_,rfl⟩
 simp only [List.length_map] at hc hc' ⊢
 have H:=Lib.hid h
 have K:=Lib.hid k
 have HN:=Lib.hid hn
 simp only [List.length_map] at H K
 rw [hn] at H K hc hc' hl ⊢
 clear h k hn
 have hl':(n:Int)≤10000:=by omega
 go_enter Tryz.func14,Tryz.ntmps14
 go_wp2_with fail
 go_loopw [5] (fun i wr=>∃j:Nat,j≤n∧i=.int .i64 j∧Hid (Mod [] w wr)) (fun i _=>n - (intOf i).toNat)
 case atStart=>exact ⟨0,by omega,rfl,Mod.refl _ _⟩
 case round=>
  obtain ⟨j,hj,rfl,HM⟩:=hrel
  by_cases hlt:j < n
  ·have hlt':(j:Int) < n:=by omega
   have hj1:j < l.length:=by rw [HN.out];exact hlt
   obtain ⟨b1,o1,rfl,d1⟩:=(H.out.mod HM.out (by simp)).at j (by rw [List.length_map];exact hj1)
   obtain ⟨b2,o2,rfl,d2⟩:=(K.out.mod HM.out (by simp)).at j (by rw [List.length_map];exact hj1)
   rw [List.getElem_map] at d1 d2
   unfold ey at d1 d2
   generalize l[j]=x at *
   go_wp2_with fail
   go_quiet (fail)
   rename_i nq
   have HM2:Hid (Mod [] w (wr.drewN nq)):=HM.out.drewN nq
   generalize wr.drewN nq=wq at *
   go_wp2_with fail
   go_roundw
   case rel=>exact ⟨j+1,by omega,by go_num,HM2⟩
   all_goals (simp [intOf];omega)
  ·have hlt':¬(j:Int) < n:=by omega
   go_wp2_with fail
   go_ret
   exact ⟨rfl,HM.out⟩
theorem stage_c {w:World} {v:Value} {p:List Nat} {n:Nat} {F:List Nat} (h:Rv w v (p.map ei) F) (hp:Perm p n) (hn:n≤5):
 Calls Tryz.prog 8 #[.int .i64 20000,v] w fun e w'=>∃b F bo q Fo,e=.returned (.tuple #[.pointer (some ⟨b,0,none⟩),.pointer (some ⟨bo,0,none⟩),.bool true])∧Sto w' b n 20000 [] F∧IsOrdD w' bo p q Fo∧Inv p q∧Mod [] w w'∧(∀k∈F++Fo,w.heap.size≤k)∧(∀k∈F,k∉Fo):=by
 have SN:Hid (∀W,Calls Tryz.prog 22 #[.int .i64 n,.int .i64 20000] W fun e w'=>∃b F,e=.returned (.tuple #[.pointer (some ⟨b,0,none⟩),.int .u8 0])∧IsSt w' b n [] 20000 F∧Mod [] W w'∧∀k∈F,W.heap.size≤k):=fun W=>stNew_c n 20000 (by omega) (by omega) W
 have OF:Hid (∀W,Mod [] w W→Calls Tryz.prog 23 #[v] W (OrdPD W p)):=fun W m=>orderOfD_c (h.mod m (by simp)) hp (by omega)
 obtain ⟨A,cap,rfl,hc⟩:=h.shape
 rw [List.length_map,hp.len] at OF hc ⊢
 clear h hp
 have hn':(n:Int)≤5:=by omega
 go_enter Tryz.func8,Tryz.ntmps8
 go_wp2_with fail
 refine (SN.out _).mono ?_
 rintro e w1 ⟨b,F,rfl,s1,m1,o1⟩
 have S1:=Lib.hid s1
 have M1:=Lib.hid m1
 have O1:=Lib.hid o1
 clear s1 m1 o1 SN
 go_wp2_with fail
 refine (OF.out _ M1.out).mono ?_
 rintro e w2 ⟨bo,q,Fo,rfl,i2,iv,m2,o2⟩
 have IV:=Lib.hid iv
 clear iv
 have S2:=Lib.hid (Sto.fresh (S1.out.mod m2 (by simp)))
 have I2:=Lib.hid i2
 have M2:=Lib.hid (M1.out.trans' m2)
 have FF:Hid ((∀k∈F++Fo,w.heap.size≤k)∧∀k∈F,k∉Fo):=⟨fun k hk=>by
  have:=M1.out.size
  rcases List.mem_append.1 hk with hk | hk
  ·exact O1.out k hk
  ·have:=o2 k hk;omega,fun k hk hk2=>by have:=S1.out.lt k hk;have:=o2 k hk2;omega⟩
 clear i2 m2 o2 S1 M1 O1 OF
 go_wp2_with fail
 refine bodyPost_ret (by simp [results,Tryz.results8,go_sem];try rfl) rfl ?_
 exact ⟨b,F,bo,q,Fo,rfl,S2.out,I2.out,IV.out,M2.out,FF.out.1,FF.out.2⟩
open Go.RowKit
def OnceB (xs:List Int) (k:Nat):Prop:=∀v:Nat,v < k→xs.count (v:Int)=1
theorem once_perm {xs:List Int} {n:Nat} (hl:xs.length=n) (h:OnceB xs n):∃p:List Nat,xs=p.map (fun x:Nat=>(x:Int))∧Perm p n:=by
 have hmem:∀v:Nat,v < n→(v:Int)∈xs:=fun v hv=>List.count_pos_iff.1 (by rw [h v hv];omega)
 let r:List Int:=(List.range n).map (fun x:Nat=>(x:Int))
 have hr:r.Nodup:=by
  show ((List.range n).map (fun x:Nat=>(x:Int))).Nodup
  exact List.Pairwise.map _ (fun a b h e=>h (by omega)) List.nodup_range
 have hsub:∀x∈r,x∈xs:=fun x hx=>by
  obtain ⟨v,hv,rfl⟩:=List.mem_map.1 hx
  exact hmem v (List.mem_range.1 hv)
 have hin:∀x∈xs,x∈r:=fun x hx=>by
  apply Classical.byContradiction
  intro hn
  have h2:=sub_len (x::r) xs (List.nodup_cons.2 ⟨hn,hr⟩) (fun y hy=>by
   rcases List.mem_cons.1 hy with rfl | hy
   ·exact hx
   ·exact hsub y hy)
  simp [r,hl] at h2
  omega
 have hpos:∀x∈xs,0≤x∧x < n:=fun x hx=>by
  obtain ⟨v,hv,rfl⟩:=List.mem_map.1 (hin x hx)
  have:=List.mem_range.1 hv
  omega
 have e:xs=(xs.map Int.toNat).map (fun x:Nat=>(x:Int)):=by
  rw [List.map_map]
  conv=>lhs;rw [←List.map_id xs]
  refine List.map_congr_left (fun x hx=>?_)
  have:=(hpos x hx).1
  simp;omega
 refine ⟨xs.map Int.toNat,e,by rw [List.length_map,hl],fun v hv=>?_,?_⟩
 ·obtain ⟨x,hx,rfl⟩:=List.mem_map.1 hv
  have:=hpos x hx
  omega
 ·have hnd:xs.Nodup:=List.nodup_iff_count.2 (fun x=>by
   by_cases hx:x∈xs
   ·have h0:=hpos x hx
    have h1:=h x.toNat (by omega)
    rw [show ((x.toNat:Nat):Int)=x from by omega] at h1
    omega
   ·rw [List.count_eq_zero_of_not_mem hx];omega)
  exact List.pairwise_map.2 (List.Pairwise.imp_of_mem (fun {a b} ha hb hne e=>hne (by have:=hpos a ha;have:=hpos b hb;omega)) hnd)
def RightP (w:World) (xs:List Int) (n:Nat) (e:Ending) (w':World):Prop:=
 ∃b,e=.returned (.bool b)∧w'=w∧(b=true→∃p:List Nat,xs=p.map (fun x:Nat=>(x:Int))∧Perm p n)
theorem right02_c {w:World} {v:Value} {xs:List Int} {n:Nat} {F:List Nat} (h:Rv w v (xs.map (fun x:Int=>Value.int .i64 x)) F) (hl:xs.length=n) (hn:n≤5):
 Calls Tryz.prog 5 #[v] w (RightP w xs n):=by
 obtain ⟨A,cap,rfl,hc⟩:=h.shape
 have H:=Lib.hid h
 have HL:=Lib.hid hl
 simp only [List.length_map] at H hc ⊢
 rw [hl] at H hc ⊢
 clear h hl
 have hn':(n:Int)≤5:=by omega
 go_enter Tryz.func5,Tryz.ntmps5
 go_wp2_with fail
 go_loopw [3] (fun i wr=>∃k:Nat,k≤n∧i=.int .i64 k∧Hid (OnceB xs k)∧wr=w) (fun i _=>n - (intOf i).toNat)
 case atStart=>exact ⟨0,by omega,rfl,fun v hv=>by omega,rfl⟩
 case round=>
  obtain ⟨k,hk,rfl,HO,rfl⟩:=hrel
  by_cases hlt:k < n
  ·have hlt':(k:Int) < n:=by omega
   go_wp2_with fail
   go_loopw [4,5] (fun c j wq=>∃i m:Nat,i≤n∧j=.int .i64 i∧c=.int .i64 m∧m≤i∧Hid ((xs.take i).count (k:Int)=m)∧wq=wr) (fun _ j _=>n - (intOf j).toNat)
   case atStart=>exact ⟨0,0,by omega,rfl,rfl,by omega,by show _=_;simp,rfl⟩
   case round=>
    rename_i hrel
    obtain ⟨i,m,hi,rfl,rfl,hm,HC,rfl⟩:=hrel
    by_cases hil:i < n
    ·have hil':(i:Int) < n:=by omega
     have hi1:i < xs.length:=by rw [HL.out];exact hil
     obtain ⟨b1,o1,rfl,d1⟩:=H.out.at i (by rw [List.length_map];exact hi1)
     rw [List.getElem_map] at d1
     have ET:Hid ((xs.take (i+1)).count (k:Int)=m+(if xs[i]=(k:Int) then 1 else 0)):=by
      show _=_
      rw [List.take_succ_eq_append_getElem hi1,List.count_append,HC.out]
      simp [List.count_cons]
     generalize xs[i]=x at *
     by_cases hx:x=(k:Int)
     ·have ET2:Hid ((xs.take (i+1)).count (k:Int)=m+1):=by have:=ET.out;rw [if_pos hx] at this;exact this
      subst hx
      have hq:((k:Int)==(k:Int))=true:=by simp
      go_wp2_with fail
      go_roundw
      case rel=>exact ⟨i+1,m+1,by omega,by go_num,by go_num,by omega,ET2,trivial⟩
      all_goals (simp [intOf];omega)
     ·have ET2:Hid ((xs.take (i+1)).count (k:Int)=m):=by have:=ET.out;rw [if_neg hx] at this;exact this
      have hq:(x==(k:Int))=false:=by rw [beq_eq_false_iff_ne];exact hx
      clear hx
      go_wp2_with fail
      go_roundw
      case rel=>exact ⟨i+1,m,by omega,by go_num,rfl,by omega,ET2,trivial⟩
      all_goals (simp [intOf];omega)
    ·have hil':¬(i:Int) < n:=by omega
     have HC2:Hid (xs.count (k:Int)=m):=by
      have:=HC.out
      rw [List.take_of_length_le (by rw [HL.out];omega)] at this
      exact this
     by_cases hm1:m=1
     ·subst hm1
      go_wp2_with fail
      have HO2:Hid (OnceB xs (k+1)):=fun v hv=>by
       rcases Nat.lt_succ_iff_lt_or_eq.1 hv with h | rfl
       ·exact HO.out v h
       ·exact HC2.out
      exact ⟨⟨k+1,by omega,by simp,HO2,trivial⟩,by simp [intOf];omega⟩
     ·have hq:¬(m:Int)=1:=by omega
      go_wp2_with fail
      go_ret
      exact ⟨false,rfl,rfl,by simp⟩
  ·have hlt':¬(k:Int) < n:=by omega
   obtain rfl:k=n:=by omega
   have P:=Lib.hid (once_perm HL.out HO.out)
   have hle:(k:Int)≤16:=by omega
   go_wp2_with fail
   go_ret
   exact ⟨true,by simp,rfl,fun _=>P.out⟩
open Go.RowKit
theorem sameWord_c {w:World} {g c g' c' W:Nat} (h:w.cell? ⟨g,0,none⟩=some (.int .u64 W)) (k:w.cell? ⟨g',0,none⟩=some (.int .u64 W)):
 Calls Tryz.prog 43 #[.slice (some ⟨g,0,none⟩) 1 c,.slice (some ⟨g',0,none⟩) 1 c'] w fun e w'=>e=.returned (.bool true)∧Mod [] w w':=by
 have hg:=World.block_lt_of_cell? w _ h
 have hg':=World.block_lt_of_cell? w _ k
 go_enter Tryz.func43,Tryz.ntmps43
 go_wp2_with fail
 go_loopw [13] (fun i wr=>∃j:Nat,j≤1∧i=.int .i64 j∧Hid (Mod [] w wr)) (fun i _=>1 - (intOf i).toNat)
 case atStart=>exact ⟨0,by omega,rfl,Mod.refl _ _⟩
 case round=>
  obtain ⟨j,hj,rfl,HM⟩:=hrel
  have h2:=(HM.out.cell (a:=⟨g,0,none⟩) hg (by simp)).trans h
  have k2:=(HM.out.cell (a:=⟨g',0,none⟩) hg' (by simp)).trans k
  by_cases hlt:j < 1
  ·obtain rfl:j=0:=by omega
   go_wp2_with fail
   go_quiet (fail)
   rename_i nq
   have HM2:Hid (Mod [] w (wr.drewN nq)):=HM.out.drewN nq
   generalize wr.drewN nq=wq at *
   go_wp2_with fail
   go_roundw
   case rel=>exact ⟨1,by omega,by go_num,HM2⟩
   all_goals (simp [intOf])
  ·obtain rfl:j=1:=by omega
   go_wp2_with fail
   go_ret
   exact ⟨rfl,HM.out⟩
theorem setSame_c {w:World} {n g c g' c' W:Nat} (h:w.cell? ⟨g,0,none⟩=some (.int .u64 W)) (k:w.cell? ⟨g',0,none⟩=some (.int .u64 W)):
 Calls Tryz.prog 15 #[.agg #[.int .i64 n,.slice (some ⟨g,0,none⟩) 1 c],.agg #[.int .i64 n,.slice (some ⟨g',0,none⟩) 1 c']] w fun e w'=>e=.returned (.bool true)∧Mod [] w w':=by
 have hg:=World.block_lt_of_cell? w _ h
 have hg':=World.block_lt_of_cell? w _ k
 have SW:Hid (∀W',Mod [] w W'→Calls Tryz.prog 43 #[.slice (some ⟨g,0,none⟩) 1 c,.slice (some ⟨g',0,none⟩) 1 c'] W' fun e w'=>e=.returned (.bool true)∧Mod [] W' w'):=fun W' m=>sameWord_c ((m.cell (a:=⟨g,0,none⟩) hg (by simp)).trans h) ((m.cell (a:=⟨g',0,none⟩) hg' (by simp)).trans k)
 have hq:((n:Int)==(n:Int))=true:=by simp
 clear h k
 go_enter Tryz.func15,Tryz.ntmps15
 go_wp2_with fail
 refine (SW.out _ (by exact mods)).mono ?_
 rintro e w1 ⟨rfl,m1⟩
 have M1:Hid (Mod [] w w1):=Mod.trans' (show Mod [] w _ from by exact mods) m1
 clear m1
 go_wp2_with fail
 go_ret
 exact ⟨rfl,M1.out⟩
open Go.RowKit
def accN (p:List Nat) (y:Nat):Nat→Nat→Nat→Nat
 | 0,_,x=>x
 | k+1,l,x=>accN p y k (l+1) (if y.testBit l then x ||| 2 ^ p.getD l 0 else x)
theorem atT_tab (W:Nat) (p:List Nat) (y:Nat):∀k l x,atT k l y (tabL W p k l x)=W.testBit (accN p y k l x):=by
 intro k
 induction k with
 | zero=>intro l x;rfl
 | succ k ih=>
  intro l x
  rw [atT,tabL,List.take_left' (tabL_len W p k (l+1) x),List.drop_left' (tabL_len W p k (l+1) x),accN]
  by_cases h:y.testBit l=true
  ·rw [if_pos h,if_pos h,ih]
  ·rw [if_neg h,if_neg h,ih]
theorem accN_bit (p:List Nat) (y v:Nat):∀k l x,(accN p y k l x).testBit v=true↔(x.testBit v=true∨∃i,l≤i∧i < l+k∧y.testBit i=true∧p.getD i 0=v):=by
 intro k
 induction k with
 | zero=>
  intro l x
  rw [accN]
  exact ⟨.inl,fun h=>h.elim id (fun ⟨i,h1,h2,_⟩=>by omega)⟩
 | succ k ih=>
  intro l x
  rw [accN,ih]
  constructor
  ·rintro (h | ⟨i,h1,h2,h3⟩)
   ·by_cases q:y.testBit l=true
    ·rw [if_pos q,Nat.testBit_or,Nat.testBit_two_pow] at h
     simp only [Bool.or_eq_true,decide_eq_true_eq] at h
     rcases h with h | h
     ·exact .inl h
     ·exact .inr ⟨l,by omega,by omega,q,h⟩
    ·rw [if_neg q] at h;exact .inl h
   ·exact .inr ⟨i,by omega,by omega,h3⟩
  ·rintro (h | ⟨i,h1,h2,h3,h4⟩)
   ·refine .inl ?_
    split
    ·rw [Nat.testBit_or,h];rfl
    ·exact h
   ·by_cases q:i=l
    ·subst q
     refine .inl ?_
     rw [if_pos h3,Nat.testBit_or,Nat.testBit_two_pow,h4];simp
    ·exact .inr ⟨i,by omega,by omega,h3,h4⟩
theorem acc_all {p:List Nat} {n x y:Nat} (hp:Perm p n) (hx:x < 2 ^ n) (hy:∀l,l < n→y.testBit l=x.testBit (p.getD l 0)):accN p y n 0 0=x:=by
 apply Nat.eq_of_testBit_eq
 intro v
 rw [Bool.eq_iff_iff,accN_bit]
 constructor
 ·rintro (h | ⟨i,-,h2,h3,h4⟩)
  ·simp at h
  ·rw [hy i (by omega),h4] at h3;exact h3
 ·intro h
  have hv:v < n:=by
   apply Classical.byContradiction
   intro hn
   have:=Nat.testBit_lt_two_pow (Nat.lt_of_lt_of_le hx (Nat.pow_le_pow_right (n:=2) (by omega) (show n≤v by omega)))
   rw [this] at h;cases h
  have hm:=hp.mem hv
  obtain ⟨i,hi⟩:=List.mem_iff_getElem?.1 hm
  have hl:=(List.getElem?_eq_some_iff.1 hi).1
  have hd:p.getD i 0=v:=by rw [List.getD_eq_getElem?_getD,hi];rfl
  refine .inr ⟨i,by omega,by have:=hp.len;omega,?_,hd⟩
  rw [hy i (by have:=hp.len;omega),hd]
  exact h
theorem table_at {W n x y:Nat} {p:List Nat} (hp:Perm p n) (hx:x < 2 ^ n) (hy:∀l,l < n→y.testBit l=x.testBit (p.getD l 0)):atT n 0 y (tabL W p n 0 0)=W.testBit x:=by
 rw [atT_tab,acc_all hp hx hy]
theorem or16_1:∀y < 32,∀k < 5,bits .or .u16 ((y:Nat):Int) (IntKind.u16.wrap (IntKind.u16.wrap 1 *2 ^ k))=((y ||| 2 ^ k:Nat):Int):=by decide+kernel
theorem or16_0:∀y < 32,∀k < 5,bits .or .u16 ((y:Nat):Int) (IntKind.u16.wrap (IntKind.u16.wrap 0 *2 ^ k))=((y:Nat):Int):=by decide+kernel
theorem lev_step {x y v k:Nat} (hy:y < 2 ^ k) (hk:k < 5) (hx:x < 65536):∃y':Nat,bits BinOp.or IntKind.u16 (y:Int) (IntKind.u16.wrap (IntKind.u16.wrap (bits BinOp.and IntKind.i64 ((x:Int) / 2 ^ v) 1) *2 ^ k))=(y':Int)∧y' < 2 ^ (k+1)∧y'.testBit k=x.testBit v∧∀i,i < k→y'.testBit i=y.testBit i:=by
 have h32:y < 32:=by have:=Nat.pow_le_pow_right (n:=2) (by omega) (show k≤5 by omega);omega
 have e1:(x:Int) / 2 ^ v=((x / 2 ^ v:Nat):Int):=by rw [Int.natCast_ediv];simp
 rw [e1,bit_one_i _ (Nat.lt_of_le_of_lt (Nat.div_le_self _ _) (by omega))]
 have hb:x.testBit v=decide (x / 2 ^ v % 2=1):=by rw [Nat.testBit_eq_decide_div_mod_eq]
 have hp2:2 ^ (k+1)=2 ^ k *2:=Nat.pow_succ ..
 by_cases q:x / 2 ^ v % 2=1
 ·rw [q,hb]
  refine ⟨y ||| 2 ^ k,or16_1 y h32 k hk,Nat.or_lt_two_pow (by omega) (by omega),?_,fun i hi=>?_⟩
  ·rw [Nat.testBit_or,Nat.testBit_two_pow];simp [q]
  ·rw [Nat.testBit_or,Nat.testBit_two_pow];simp;omega
 ·have q0:x / 2 ^ v % 2=0:=by omega
  rw [q0,hb]
  refine ⟨y,or16_0 y h32 k hk,by omega,?_,fun i hi=>rfl⟩
  rw [Nat.testBit_lt_two_pow hy];simp [q0]
theorem or64p {x v:Nat} (hx:x < 4294967296) (hv:v < 32):bits .or .u64 (x:Int) (IntKind.u64.wrap (2 ^ v))=((x ||| 2 ^ v:Nat):Int):=by
 have hp:2 ^ v < 4294967296:=by have:=Nat.pow_lt_pow_right (a:=2) (by omega) hv;simpa using this
 have e:IntKind.u64.wrap (2 ^ v)=((2 ^ v:Nat):Int):=by
  rw [show ((2:Int) ^ v)=((2 ^ v:Nat):Int) from by simp]
  generalize 2 ^ v=z at *
  exact IntWalk.u64_in _ ⟨by omega,by omega⟩
 rw [e]
 have e1:BitVec.ofInt 64 (x:Int)=BitVec.ofNat 64 x:=BitVec.ofInt_natCast ..
 have e2:BitVec.ofInt 64 ((2 ^ v:Nat):Int)=BitVec.ofNat 64 (2 ^ v):=BitVec.ofInt_natCast ..
 have e3:(BitVec.ofInt 64 (x:Int) ||| BitVec.ofInt 64 ((2 ^ v:Nat):Int)).toNat=x ||| 2 ^ v:=by
  rw [e1,e2,BitVec.toNat_or,BitVec.toNat_ofNat,BitVec.toNat_ofNat,Nat.mod_eq_of_lt (by omega),Nat.mod_eq_of_lt (by omega)]
 show IntKind.u64.wrap ((BitVec.ofInt 64 (x:Int) ||| BitVec.ofInt 64 ((2 ^ v:Nat):Int)).toNat:Int)=_
 rw [e3]
 have hlt:x ||| 2 ^ v < 2 ^ 32:=Nat.or_lt_two_pow (by omega) (by omega)
 generalize x ||| 2 ^ v=z at *
 exact IntWalk.u64_in _ ⟨by omega,by omega⟩
def ptsL:List Nat→Nat
 | []=>0
 | x::l=>2 ^ x ||| ptsL l
theorem ptsL_bit (l:List Nat) (v:Nat):(ptsL l).testBit v=decide (v∈l):=by
 induction l with
 | nil=>simp [ptsL]
 | cons x l ih=>
  rw [ptsL,Nat.testBit_or,ih,Nat.testBit_two_pow]
  by_cases h:x=v
  ·subst h;simp
  ·have h':¬v=x:=fun e=>h e.symm
   simp [h,h']
theorem ptsL_snoc (l:List Nat) (x:Nat):ptsL (l++[x])=ptsL l ||| 2 ^ x:=by
 apply Nat.eq_of_testBit_eq
 intro v
 rw [ptsL_bit,Nat.testBit_or,ptsL_bit,Nat.testBit_two_pow]
 by_cases h:x=v
 ·subst h;simp
 ·have h':¬v=x:=fun e=>h e.symm
  simp [h,h']
theorem ptsL_lt {l:List Nat} {m:Nat} (h:∀x∈l,x < m):ptsL l < 2 ^ m:=by
 induction l with
 | nil=>exact Nat.two_pow_pos m
 | cons x l ih=>
  rw [ptsL]
  exact Nat.or_lt_two_pow (Nat.pow_lt_pow_right (by omega) (h x (by simp))) (ih fun v hv=>h v (by simp [hv]))
theorem ptsL_all {W m:Nat} {l:List Nat} (hW:W < 2 ^ m) (h:∀x,x∈l↔x < m∧W.testBit x=true):ptsL l=W:=by
 apply Nat.eq_of_testBit_eq
 intro v
 rw [ptsL_bit,Bool.eq_iff_iff,decide_eq_true_eq,h]
 constructor
 ·exact fun q=>q.2
 ·intro q
  refine ⟨?_,q⟩
  apply Classical.byContradiction
  intro hn
  have:=Nat.testBit_lt_two_pow (Nat.lt_of_lt_of_le hW (Nat.pow_le_pow_right (n:=2) (by omega) (show m≤v by omega)))
  rw [this] at q;cases q
open Go.RowKit
theorem levelsX_c {w:World} {bo:Nat} {p q Fo:List Nat} (hO:IsOrd w bo p q Fo) (hp5:p.length≤5) (hpv:∀v∈p,v < 16) (x:Nat) (hx:x < 65536):
 Calls Tryz.prog 41 #[.pointer (some ⟨bo,0,none⟩),.int .i64 x] w fun e w'=>(∃y:Nat,(y < 2 ^ p.length∧∀l,l < p.length→y.testBit l=x.testBit (p.getD l 0))∧e=.returned (.int .u16 y))∧w'=w:=by
 have hp:p.length≤16:=by omega
 have VO:=Lib.hid (ordVars_c hO)
 have VR:Hid (∀l,(hl:l < p.length)→_):=fun l hl=>ordVar_c hO hp l hl
 have PV:Hid (∀l,(hl:l < p.length)→p[l] < 16):=fun l hl=>hpv _ (List.getElem_mem hl)
 obtain ⟨n,hn⟩:∃n,p.length=n:=⟨_,rfl⟩
 rw [hn] at VO hp hp5 ⊢
 have HN:=Lib.hid hn
 clear hO hpv hn
 go_enter Tryz.func41,Tryz.ntmps41
 go_wp2_with fail
 refine VO.out.mono ?_
 rintro e w1 ⟨rfl,rfl⟩
 go_wp2_with fail
 go_loopw [5,6,9] (fun a _ i wr=>∃(k y:Nat),i=.int .i64 k∧k≤n∧a=.int .u16 y∧Hid (y < 2 ^ k∧∀l,l < k→y.testBit l=x.testBit (p.getD l 0))∧wr=w1) (fun _ _ i _=>n - (intOf i).toNat)
 case atStart=>exact ⟨0,0,rfl,by omega,rfl,⟨by simp,fun l hl=>by omega⟩,rfl⟩
 case round=>
  obtain ⟨k,y,rfl,hk,rfl,hy,rfl⟩:=hrel
  by_cases hlt:k < n
  ·have hlt':(k:Int) < n:=by omega
   have hk0:(0:Int)≤k:=by omega
   have C1:=Lib.hid (VR.out k (by rw [HN.out];exact hlt))
   have h16:=PV.out k (by rw [HN.out];exact hlt)
   have HD:Hid (p.getD k 0=p[k]'(by rw [HN.out];exact hlt)):=by show _=_;rw [List.getD_eq_getElem?_getD,List.getElem?_eq_getElem (by rw [HN.out];exact hlt)];rfl
   generalize p[k]'(by rw [HN.out];exact hlt)=v at *
   go_wp2_with fail
   refine C1.out.mono ?_
   rintro e w2 ⟨rfl,rfl⟩
   go_wp2_with fail
   refine ⟨?_,by simp [intOf];omega⟩
   obtain ⟨y',e',q1,q2,q3⟩:=lev_step (x:=x) (v:=v) hy.out.1 (show k < 5 by omega) hx
   refine ⟨k+1,y',by simp,by omega,by rw [e'],⟨q1,fun l hl=>?_⟩,trivial⟩
   by_cases h:l=k
   ·subst h;rw [q2,HD.out]
   ·rw [q3 l (by omega)];exact hy.out.2 l (by omega)
  ·obtain rfl:k=n:=by omega
   go_wp2_with fail
   go_ret
   exact ⟨⟨_,hy.out,rfl⟩,rfl⟩
open Go.RowKit
theorem blankN_c (n:Nat) (hn:n≤5) (w:World):Calls Tryz.prog 89 #[.int .i64 n] w fun e w'=>∃g,e=.returned (.agg #[.int .i64 n,.slice (some ⟨g,0,none⟩) 1 1])∧Blk w' g #[.int .u64 0] 23∧w.heap.size≤g∧Mod [] w w':=by
 have WO:=Lib.hid (words_c n hn)
 obtain ⟨gk,hgk⟩:∃gk,w.heap.size=gk:=⟨_,rfl⟩
 have MK:Hid (∀w:World,(Instr.makeSlice 27 (.int .i64 1) (.int .i64 1)).run Tryz.prog w=.ok (.slice (some ⟨w.heap.size,0,none⟩) 1 1) (w.alloc (.cells #[.int .u64 0] 23))):=fun w=>by
  have h:madeCells #[Value.int .u64 0] 1=#[.int .u64 0]:=by kernel_rfl
  have:=made22 w 1 (by omega)
  rw [h] at this
  exact this
 have mk:=MK.out (w.alloc (.cells #[.int .i64 0,.slice none 0 0] 29))
 clear MK
 go_enter Tryz.func89,Tryz.ntmps89
 go_wp2_with fail
 refine (WO.out _).mono ?_
 rintro e w1 ⟨rfl,rfl⟩
 go_wp2_with fail
 have B:=(Blk.new' w #[.int .i64 n,.slice (some ⟨gk+1,0,none⟩) 1 1] 29 gk hgk.symm).alloc (.cells #[.int .u64 0] 23)
 have BW:=Blk.new' (w.alloc (.cells #[.int .i64 n,.slice (some ⟨gk+1,0,none⟩) 1 1] 29)) #[.int .u64 0] 23 (gk+1) (by simp [hgk])
 have M:Mod [] w ((w.alloc (.cells #[.int .i64 n,.slice (some ⟨gk+1,0,none⟩) 1 1] 29)).alloc (.cells #[.int .u64 0] 23)):=by exact mods
 obtain ⟨z0,z1⟩:=B.cells2
 generalize (w.alloc (.cells #[.int .i64 n,.slice (some ⟨gk+1,0,none⟩) 1 1] 29)).alloc (.cells #[.int .u64 0] 23)=X at *
 refine bodyPost_ret (v:=.agg #[.int .i64 n,.slice (some ⟨gk+1,0,none⟩) 1 1]) (by simp [results,Tryz.results89,go_sem,z0,z1];try rfl) rfl ?_
 exact ⟨gk+1,rfl,BW,by omega,M⟩
def SetX (w:World) (nv W:Nat) (e:Ending) (w':World):Prop:=
 ∃g,e=.returned (.tuple #[.agg #[.int .i64 nv,.slice (some ⟨g,0,none⟩) 1 1],.int .u8 0])∧Blk w' g #[.int .u64 (W:Nat)] 23∧w.heap.size≤g∧Mod [] w w'
theorem setOfX_c {w:World} {A:Option Addr} {nv n cap:Nat} {xs:List Nat} {F:List Nat} (h:Rv w (.slice A n cap) (xs.map ei) F) (hF:∀k∈F,k < w.heap.size) (hv5:nv≤5) (hx:∀x∈xs,x < 2 ^ nv) (hn:n≤100000):
 Calls Tryz.prog 42 #[.int .i64 nv,.slice A n cap] w (SetX w nv (ptsL xs)):=by
 have MY:=Lib.hid (setMay_c nv (by omega))
 have BL:=Lib.hid (blankN_c nv hv5)
 have HR:=Lib.hid h
 have HX:=Lib.hid hx
 have hlen:n=xs.length:=by simpa using h.len.1
 have HL:=Lib.hid hlen
 obtain ⟨gk,hgk⟩:∃gk,w.heap.size=gk:=⟨_,rfl⟩
 have hv5':(nv:Int)≤5:=by omega
 obtain ⟨m,hm⟩:∃m,2 ^ nv=m:=⟨_,rfl⟩
 have hm32:m≤32:=by have:=Nat.pow_le_pow_right (n:=2) (by omega) hv5;omega
 have hsh:wrap64 (2 ^ nv)=(m:Int):=by
  rw [show ((2:Int) ^ nv)=((2 ^ nv:Nat):Int) from by simp,hm]
  exact IntWalk.wrap64_in _ ⟨by omega,by omega⟩
 rw [hm] at HX
 clear h hx hlen hm
 go_enter Tryz.func42,Tryz.ntmps42
 go_wp2_with fail
 refine (MY.out _).mono ?_
 rintro e w1 ⟨rfl,rfl⟩
 go_wp2_with fail
 refine (BL.out _).mono ?_
 rintro e w2 ⟨g,rfl,bg,hg,m2⟩
 have hgs0:=m2.size
 obtain ⟨gs,hgs⟩:∃gs,w2.heap.size=gs:=⟨_,rfl⟩
 have B4:=Lib.hid (((Blk.new' w #[.int .i64 0,.slice none 0 0] 29 gk hgk.symm).mod m2 (by simp)).alloc (.cells #[.int .i64 nv,.slice (some ⟨g,0,none⟩) 1 1] 29))
 have B6:=Lib.hid (Blk.new' w2 #[.int .i64 nv,.slice (some ⟨g,0,none⟩) 1 1] 29 gs hgs.symm)
 have BG:=Lib.hid (bg.alloc (.cells #[.int .i64 nv,.slice (some ⟨g,0,none⟩) 1 1] 29))
 have M3:Hid (Mod [] w (w2.alloc (.cells #[.int .i64 nv,.slice (some ⟨g,0,none⟩) 1 1] 29))):=(Mod.trans' (show Mod [] w _ from by exact mods) m2).alloc _
 have hgl:=bg.lt
 simp at hg hgs0
 have n1:gk≠g:=by omega
 have n2:gs≠g:=by omega
 have n3:gk≠gs:=by omega
 have HG:=Lib.hid hg
 clear bg hg m2 hgs0 BL MY hgl
 go_wp2_with fail
 generalize w2.alloc (.cells #[.int .i64 nv,.slice (some ⟨g,0,none⟩) 1 1] 29)=w3 at *
 go_loopw [5,8,17] (fun r _ i wr=>∃(k W:Nat),i=.int .i64 k∧r=.int .u8 0∧k≤n∧Hid (W=ptsL (xs.take k))∧Hid (Blk wr g #[.int .u64 W] 23)∧Hid (Blk wr gs #[.int .i64 nv,.slice (some ⟨g,0,none⟩) 1 1] 29)∧Hid (Blk wr gk #[.int .i64 0,.slice none 0 0] 29)∧Hid (Mod [] w wr)) (fun _ _ i _=>n - (intOf i).toNat)
 case atStart=>exact ⟨0,0,rfl,rfl,by omega,rfl,BG,B6,B4,M3⟩
 case round=>
  obtain ⟨k,W,rfl,rfl,hk,hW,BG,B6,B4,M3⟩:=hrel
  obtain ⟨s0,s1⟩:=B6.out.cells2
  have hsl:=B6.out.lt
  have hgl:=BG.out.lt
  have g0:=BG.out.cell 0
  have gf:=BG.out.froz 0
  simp only [List.getElem?_toArray,List.getElem?_cons_zero] at g0
  by_cases hlt:k < n
  ·have hlt':(k:Int) < n:=by omega
   have hk0:(0:Int)≤k:=by omega
   have hkx:k < xs.length:=by rw [←HL.out];exact hlt
   obtain ⟨gb,off,rfl,hc⟩:=(HR.out.mod M3.out (by simp)).at k (by simpa using hkx)
   have hx8:=HX.out xs[k] (List.getElem_mem hkx)
   have HTK:Hid (ptsL (xs.take (k+1))=ptsL (xs.take k) ||| 2 ^ xs[k]):=by show _=_;rw [List.take_succ_eq_append_getElem hkx,ptsL_snoc]
   have hWl:W < 4294967296:=by
    have:=ptsL_lt (m:=32) (l:=xs.take k) (fun x hx=>by have:=HX.out x (List.mem_of_mem_take hx);omega)
    rw [←hW.out] at this
    omega
   rw [List.getElem_map] at hc
   generalize xs[k]=x at *
   have hc':wr.cell? ⟨gb,off+k,none⟩=some (.int .i64 (x:Int)):=hc
   have hor:=or64p (x:=W) (v:=x) hWl (by omega)
   have HW':Hid (W ||| 2 ^ x=ptsL (xs.take (k+1))):=by show _=_;rw [HTK.out,←hW.out]
   generalize W ||| 2 ^ x=W' at *
   have hx0:¬((x:Int) < 0):=by omega
   have hx1:¬((m:Int)≤x):=by omega
   have hd:(x:Int) / 64=0:=by omega
   have hm:(x:Int) % 64=x:=by omega
   clear hc hkx hWl
   go_wp2_with fail
   go_region
   have BG2:=Lib.hid ((BG.out.set 0 (.int .u64 (W':Nat))).drew)
   have MW:=Lib.hid (((Mod.refl [g] wr).setCell ⟨g,0,none⟩ (.int .u64 (W':Nat)) (by simp)).drew)
   have B62:=Lib.hid (B6.out.mod MW.out (by simpa using n2))
   have B42:=Lib.hid (B4.out.mod MW.out (by simpa using n1))
   have M32:=Lib.hid (M3.out.trans MW.out (by intro i hi hm;simp at hm;have:=HG.out;omega))
   go_wp2_with fail
   go_roundw
   case rel=>exact ⟨k+1,W',by first | rfl | go_num,rfl,by omega,HW'.out,BG2,B62,B42,M32⟩
   case measure=>simp [intOf];omega
  ·obtain rfl:k=n:=by omega
   obtain ⟨r0,r1⟩:=B4.out.cells2
   have hrl:=B4.out.lt
   obtain ⟨f0,f1,-⟩:=B4.out.frozs
   go_wp2_with fail
   have BR:=(B4.out.set 0 (.int .i64 nv)).set 1 (.slice (some ⟨g,0,none⟩) 1 1)
   simp only [List.setIfInBounds_toArray,List.set_cons_zero,List.set_cons_succ] at BR
   have MR:Mod [gk] wr ((wr.setCell ⟨gk,0,none⟩ (.int .i64 nv)).setCell ⟨gk,1,none⟩ (.slice (some ⟨g,0,none⟩) 1 1)):=by exact mods
   have BGR:=BG.out.mod MR (by simpa using fun e=>n1 e.symm)
   have MF:=M3.out.trans MR (by intro i hi hm;simp at hm;omega)
   obtain ⟨z0,z1⟩:=BR.cells2
   generalize (wr.setCell ⟨gk,0,none⟩ (.int .i64 nv)).setCell ⟨gk,1,none⟩ (.slice (some ⟨g,0,none⟩) 1 1)=X at *
   refine bodyPost_ret (v:=.tuple #[.agg #[.int .i64 nv,.slice (some ⟨g,0,none⟩) 1 1],.int .u8 0]) (by simp [results,Tryz.results42,go_sem,z0,z1];try rfl) rfl ?_
   exact ⟨g,rfl,by have:=hW.out;rw [this,List.take_of_length_le (by have:=HL.out;omega)] at BGR;exact BGR,by have:=HG.out;omega,MF⟩
open Go.RowKit
def LvP (p:List Nat) (n x y:Nat):Prop:=y < 2 ^ n∧∀l,l < n→y.testBit l=x.testBit (p.getD l 0)
theorem buildSetX_c {w:World} {b bo room f n W t a:Nat} {p q Fo F:List Nat} {L:List Rc} (h1:1≤f) (h5:f≤5) (hn5:n≤5) (hS:Sto w b n room L F) (hL:L.length≤1048576) (hO:IsOrd w bo p q Fo) (hp:Perm p n) (hW:W < 2 ^ (2 ^ n)) (hE:EdT L f n n 0 ⟨t,a⟩ (tabL W p n 0 0)):
 Calls Tryz.prog 13 #[.pointer (some ⟨b,0,none⟩),.pointer (some ⟨bo,0,none⟩),.int .u8 f,.agg #[.int .u8 t,.int .u32 a]] w (SetX w n W):=by
 have VA:Hid (∀W',Mod [] w W'→Calls Tryz.prog 26 #[.pointer (some ⟨b,0,none⟩)] W' fun e w'=>e=.returned (.int .i64 n)∧w'=W'):=fun W' md=>by
  obtain ⟨ba,bi,Fa,c0,_⟩:=(hS.st.mod md (by simp)).own
  exact stVars_c b n W' c0
 have VO:Hid (∀W',Mod [] w W'→Calls Tryz.prog 34 #[.pointer (some ⟨bo,0,none⟩)] W' fun e w'=>e=.returned (.int .i64 n)∧w'=W'):=fun W' md=>by
  have:=ordVars_c (hO.mod md (by simp));rw [hp.len] at this;exact this
 have MY:Hid (∀W',Mod [] w W'→_):=fun W' md=>buildMay_c n f b bo h1 h5 W' (VA.out W' md) (VO.out W' md)
 have h32:2 ^ n≤32:=by have:=Nat.pow_le_pow_right (n:=2) (by omega) hn5;omega
 have LV:Hid (∀U (x:Nat),x < 2 ^ n→Mod [] w U→Calls Tryz.prog 41 #[.pointer (some ⟨bo,0,none⟩),.int .i64 x] U fun e w'=>∃y:Nat,LvP p n x y∧e=.returned (.int .u16 y)∧Mod [] U w'):=fun U x hx md=>by
  refine (levelsX_c (hO.mod md (by simp)) (by rw [hp.len];omega) (fun v hv=>by have:=hp.lt v hv;omega) x (by omega)).mono ?_
  rintro e w' ⟨⟨y,hy,rfl⟩,rfl⟩
  rw [hp.len] at hy
  exact ⟨y,hy,rfl,Mod.refl _ _⟩
 have HO:Hid (∀U (x y:Nat),x < 2 ^ n→LvP p n x y→Mod [] w U→Calls Tryz.prog 40 #[.pointer (some ⟨b,0,none⟩),.int .u8 f,.agg #[.int .u8 t,.int .u32 a],.int .i64 0,.int .u16 y] U fun e w'=>e=.returned (.tuple #[.bool (W.testBit x),.int .u8 0])∧Mod [] U w'):=fun U x y hx hy md=>by
  have h:=holds_c (hS.st.mod md (by simp)) hL hS.good (by omega) f h1 h5 ⟨t,a⟩ (buildE f n n 0 (tabL W p n 0 0)).2 hE.rep.a 0 (by omega) hE.lead y (by have:=hy.1;omega)
  have e1:(⟨t,a⟩:Ed).t=(buildE f n n 0 (tabL W p n 0 0)).1:=hE.rep.t
  rw [e1,hT_build h1 h5 y n 0 _ (by omega),table_at hp hx hy.2] at h
  exact h
 have SO:Hid (∀U A nn cap (xs:List Nat) Fx,Rv U (.slice A nn cap) (xs.map ei) Fx→(∀k∈Fx,k < U.heap.size)→(∀x∈xs,x < 2 ^ n)→nn≤100000→_):=fun U A nn cap xs Fx h1 h2 h3 h4=>setOfX_c h1 h2 hn5 h3 h4
 have hn5':(n:Int)≤5:=by omega
 obtain ⟨m,hm⟩:∃m,2 ^ n=m:=⟨_,rfl⟩
 have hsh:wrap64 (2 ^ n)=(m:Int):=by
  rw [show ((2:Int) ^ n)=((2 ^ n:Nat):Int) from by simp,hm]
  exact IntWalk.wrap64_in _ ⟨by omega,by omega⟩
 rw [hm] at LV HO SO h32 hW
 have HW:=Lib.hid hW
 obtain ⟨i0,hi,hz0,hz1,hz2⟩:=info_parts Tryz.info3
 obtain ⟨gk,hgk⟩:∃gk,w.heap.size=gk:=⟨_,rfl⟩
 clear hS hO hE hp hW hm
 go_enter Tryz.func13,Tryz.ntmps13
 go_wp2_with fail
 have B0:=Lib.hid ((Blk.new' w #[.int .u8 t,.int .u32 a] 39 gk hgk.symm).alloc (.cells #[.int .i64 0,.slice none 0 0] 29))
 have B8:=Lib.hid (Blk.new' (w.alloc (.cells #[.int .u8 t,.int .u32 a] 39)) #[.int .i64 0,.slice none 0 0] 29 (gk+1) (by simp [hgk]))
 have M0:Hid (Mod [] w ((w.alloc (.cells #[.int .u8 t,.int .u32 a] 39)).alloc (.cells #[.int .i64 0,.slice none 0 0] 29))):=by exact mods
 refine (MY.out _ M0.out).mono ?_
 rintro e w1 ⟨rfl,rfl⟩
 generalize (w.alloc (.cells #[.int .u8 t,.int .u32 a] 39)).alloc (.cells #[.int .i64 0,.slice none 0 0] 29)=w0 at *
 go_wp2_with fail
 refine (VA.out _ (by first | exact M0.out | exact M0.out.drewN _)).mono ?_
 rintro e w1 ⟨rfl,rfl⟩
 go_wp2_with fail
 generalize wrap64 (2 ^ n)=M at hsh ⊢
 subst hsh
 go_loopw [9,11,26] (fun r v i wr=>∃(k:Nat) (xs:List Nat),i=.int .i64 k∧r=.int .u8 0∧k≤m∧xs.length≤k∧Hid (NewV 3 w1 (xs.map ei) wr v)∧Hid (∀x,x∈xs↔x < k∧W.testBit x=true)) (fun _ _ i _=>m - (intOf i).toNat)
 case atStart=>exact ⟨0,[],rfl,rfl,by omega,by simp,NewV.nil _ (Mod.refl _ _),by show ∀x:Nat,x∈[]↔x < 0∧W.testBit x=true;intro x;simp⟩
 case round=>
  obtain ⟨k,xs,rfl,rfl,hk,hlen,HN,HX⟩:=hrel
  have MR:=Lib.hid HN.out.mod
  have MW:=Lib.hid (M0.out.trans' MR.out)
  have BR:=Lib.hid (B0.out.mod MR.out (by simp))
  have B8R:=Lib.hid (B8.out.mod MR.out (by simp))
  by_cases hlt:k < m
  ·have hlt':(k:Int) < m:=by omega
   have hk0:(0:Int)≤k:=by omega
   have LVK:Hid (∀U,Mod [] wr U→_):=fun U md=>LV.out U k hlt (MW.out.trans' md)
   have HOK:Hid (∀wa U (y:Nat),LvP p n k y→Mod [] wr wa→Mod [] wa U→_):=fun wa U y hy m1 md=>HO.out U k y hlt hy (MW.out.trans' (m1.trans' md))
   obtain ⟨bb,hbb⟩:∃bb,W.testBit k=bb:=⟨_,rfl⟩
   rw [hbb] at HOK
   have HBB:=Lib.hid hbb
   clear hbb
   obtain ⟨d0,d1⟩:=BR.out.cells2
   have hbl:=BR.out.lt
   clear LV HO VA VO MY
   go_wp2_with fail
   go_region_held3 (fun w'=>w'.cell? ⟨gk,0,none⟩=some (.int .u8 t)∧w'.cell? ⟨gk,1,none⟩=some (.int .u32 a)) (go_keep) (first | (go_at_call 41;refine (LVK.out _ (by exact mods)).mono ?_;rintro e' wa ⟨y,hy,rfl,m_wa⟩;have M_wa:=Mod.trans' (show Mod _ wr _ from by exact mods) m_wa;have d0:=(M_wa.cell (a:=⟨gk,0,none⟩) hbl (by first | assumption | (simp;done))).trans d0;have d1:=(M_wa.cell (a:=⟨gk,1,none⟩) hbl (by first | assumption | (simp;done))).trans d1;have hbl:=Nat.lt_of_lt_of_le hbl M_wa.size;skip) | (go_at_call 40;refine (HOK.out wa _ y hy M_wa (by exact mods)).mono ?_;rintro e' wb ⟨rfl,m_wb⟩;have M_wb:=Mod.trans' (show Mod _ wa _ from by exact mods) m_wb;have d0:=(M_wb.cell (a:=⟨gk,0,none⟩) hbl (by first | assumption | (simp;done))).trans d0;have d1:=(M_wb.cell (a:=⟨gk,1,none⟩) hbl (by first | assumption | (simp;done))).trans d1;have hbl:=Nat.lt_of_lt_of_le hbl M_wb.size;skip))
   all_goals
    have M2:=Lib.hid (M_wa.trans' M_wb)
    have HN2:=Lib.hid (HN.out.later M2.out)
    have BR2:=Lib.hid (BR.out.mod M2.out (by simp))
    clear m_wa m_wb M_wa M_wb d0 d1 hbl
    cases bb with
    | false=>
     go_wp2_with fail
     go_roundw
     case rel=>
      refine ⟨k+1,xs,by first | rfl | go_num,rfl,by omega,by omega,HN2,?_⟩
      show ∀x:Nat,x∈xs↔x < k+1∧W.testBit x=true
      intro x
      rw [HX.out]
      constructor
      ·exact fun h=>⟨by omega,h.2⟩
      ·rintro ⟨h,h2⟩
       refine ⟨?_,h2⟩
       rcases Nat.lt_succ_iff_lt_or_eq.1 h with h | rfl
       ·exact h
       ·rw [HBB.out] at h2;cases h2
     case measure=>simp [intOf];omega
    | true=>
     obtain ⟨Fo',so,mo,fo⟩:=HN2.out
     obtain ⟨z,hz⟩:∃z,(xs.map ei).length=z:=⟨_,rfl⟩
     have hz8:z≤32:=by simp at hz;omega
     obtain ⟨Ao,capo,rfl,hcapo⟩:=so.shape
     rw [hz] at so hcapo HN HN2 ⊢
     have SO1:=Lib.hid so
     have MO:=Lib.hid mo
     have FO:=Lib.hid fo
     have LO:=Lib.hid hz
     clear so mo fo hcapo hz
     go_wp2_with (at_builtin;refine wpList_append_sl _ rfl _ _ 22 rfl 3 i0 (.int .i64 0) 1 8 Tryz.underlying22 hi hz0 hz1 hz2 rfl (by decide) _ z (xs.map ei) Fo' rfl (SO1.out.mod (S:=[]) (by exact mods) (by simp)) ⟨_,0,none⟩ 1 1 [ei k] (by decide) rfl rfl (by intro j u hu;exact list_new_at _ _ _ _ (by simp) j u hu) (by intro u hu;simp at hu;subst hu;rfl) (by unfold maxLen;omega) (by omega) ?_;intro v5 w5 F5 hs5 hm5 hf5;have N5:=Lib.hid (NewV.app (l:=xs.map ei) (l2:=[ei k]) MO.out FO.out LO.out rfl (by exact mods) hs5 hm5 hf5);obtain ⟨a5,cap5,rfl,_⟩:=hs5.shape;clear hs5 hm5 hf5)
     go_roundw
     case rel=>
      refine ⟨k+1,xs++[k],by first | rfl | go_num,rfl,by omega,by simp;omega,?_,?_⟩
      ·show NewV _ _ _ _ _
       rw [List.map_append]
       exact N5.out
      ·show ∀x:Nat,x∈xs++[k]↔x < k+1∧W.testBit x=true
       intro x
       rw [List.mem_append,HX.out,List.mem_singleton]
       constructor
       ·rintro (h | rfl)
        ·exact ⟨by omega,h.2⟩
        ·exact ⟨by omega,HBB.out⟩
       ·rintro ⟨h,h2⟩
        rcases Nat.lt_succ_iff_lt_or_eq.1 h with h | h
        ·exact .inl ⟨h,h2⟩
        ·exact .inr h
     case measure=>simp [intOf];omega
  ·have hkm:k=m:=by omega
   have hlt':¬(k:Int) < m:=by omega
   have HWL:Hid (ptsL xs=W):=ptsL_all HW.out (fun x=>by rw [HX.out,hkm])
   have HXM:Hid (∀x∈xs,x < m):=fun x hx=>by have:=((HX.out x).1 hx).1;omega
   obtain ⟨Fo',so,mo,fo⟩:=HN.out
   obtain ⟨Ao,capo,rfl,hcapo⟩:=so.shape
   have RV:=Lib.hid (Rv.of_sl so rfl)
   have FL:=Lib.hid so.lt
   have hzl:(xs.map ei).length≤32:=by rw [List.length_map];omega
   clear so mo fo hcapo LV HO VO MY HN
   generalize (xs.map ei).length=z at *
   go_wp2_with fail
   refine (VA.out _ MW.out).mono ?_
   rintro e w2 ⟨rfl,rfl⟩
   go_wp2_with fail
   refine (SO.out _ _ _ _ xs Fo' RV.out FL.out HXM.out (by omega)).mono ?_
   rintro e w3 ⟨g,rfl,bg,hg,m3⟩
   rw [HWL.out] at bg
   have B3:=Lib.hid (B8R.out.mod m3 (by simp))
   have MZ:=Lib.hid (MW.out.trans' m3)
   have BG:=Lib.hid bg
   have HGG:=Lib.hid hg
   obtain ⟨r0,r1⟩:=B3.out.cells2
   have hrl:=B3.out.lt
   obtain ⟨f0,f1,-⟩:=B3.out.frozs
   have hgr:Hid (gk+1 < g):=by have:=B8R.out.lt;show _ < _;omega
   clear bg hg m3 SO VA
   go_wp2_with fail
   have BX:=(B3.out.set 0 (.int .i64 n)).set 1 (.slice (some ⟨g,0,none⟩) 1 1)
   simp only [List.setIfInBounds_toArray,List.set_cons_zero,List.set_cons_succ] at BX
   have MX:Mod [gk+1] w3 ((w3.setCell ⟨gk+1,0,none⟩ (.int .i64 n)).setCell ⟨gk+1,1,none⟩ (.slice (some ⟨g,0,none⟩) 1 1)):=by exact mods
   have BGX:=BG.out.mod MX (by have:=hgr.out;simp;omega)
   have MF:=MZ.out.trans MX (by intro i hi hm;simp at hm;omega)
   have hgw:w.heap.size≤g:=Nat.le_trans MW.out.size HGG.out
   obtain ⟨z0,z1⟩:=BX.cells2
   generalize (w3.setCell ⟨gk+1,0,none⟩ (.int .i64 n)).setCell ⟨gk+1,1,none⟩ (.slice (some ⟨g,0,none⟩) 1 1)=X at *
   refine bodyPost_ret (v:=.tuple #[.agg #[.int .i64 n,.slice (some ⟨g,0,none⟩) 1 1],.int .u8 0]) (by simp [results,Tryz.results13,go_sem,z0,z1];try rfl) rfl ?_
   exact ⟨g,rfl,BGX,hgw,MF⟩
end Go.Proofs.YtnbjnnijifiaaaaGreatDoor
