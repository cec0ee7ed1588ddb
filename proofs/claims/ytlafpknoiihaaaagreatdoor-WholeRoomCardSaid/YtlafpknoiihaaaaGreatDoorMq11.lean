/- Mq11: Vi · Vj · Dm -/
import Derived.Test.YtlafpknoiihaaaaGreatDoorMq09
import Derived.Maps.RangeWalk
import Derived.Maps.OwnOps
import Derived.Maps.Views
set_option maxRecDepth 100000
set_option maxHeartbeats 4000000
set_option linter.unusedVariables false
set_option linter.unusedSimpArgs false
namespace Go.Proofs.YtlafpknoiihaaaaGreatDoor
open Go.RowKit
theorem keyU32:Maps.Keyed Tryz.prog 64:=Maps.int_keyed Tryz.underlying64
theorem own_mod {P:Program} {k:TypeId} {R:Value→Option (DataW Unit × List MemPlace)} {b n:Nat} {D:DataW Unit} {S:List Nat} {w w':World} (h:w.ownsMap P k R b n D) (m:Mod S w w') (hn:b∉S):w'.ownsMap P k R b n D:=by
 have hl:=h.lt
 obtain ⟨es,clock,hb,r⟩:=h
 exact ⟨es,clock,(m.block b hl hn).trans hb,r⟩
theorem zeroInt (w:World):(zeroValue 3).run Tryz.prog w=.ok (.int .i64 0) w:=by kernel_rfl
def IsVis (w:World) (bm n:Nat) (V:Nat→Prop):Prop:=
 ∃D:DataW Unit,w.ownsMap Tryz.prog 64 (plainElem Tryz.prog 3) bm n D∧(∃es,D=.map es)∧(∀id:Nat,V id↔Maps.has D (.int .u32 id)=true)∧∀k,Maps.has D k=true→∀z,D.atKey k z=.lit (.int .i64 1)
theorem IsVis.mod {S:List Nat} {w w':World} {bm n:Nat} {V:Nat→Prop} (h:IsVis w bm n V) (m:Mod S w w') (hn:bm∉S):IsVis w' bm n V:=by
 obtain ⟨D,h1,h2⟩:=h
 exact ⟨D,own_mod h1 m hn,h2⟩
theorem IsVis.lt {w:World} {bm n:Nat} {V:Nat→Prop} (h:IsVis w bm n V):bm < w.heap.size:=by
 obtain ⟨D,h1,h2⟩:=h
 exact h1.lt
theorem IsVis.mono {w:World} {bm n n':Nat} {V:Nat→Prop} (h:IsVis w bm n V) (hn:n≤n'):IsVis w bm n' V:=by
 obtain ⟨D,h1,h2⟩:=h
 exact ⟨D,h1.mono hn,h2⟩
theorem IsVis.congr {w:World} {bm n:Nat} {V V':Nat→Prop} (h:IsVis w bm n V) (e:∀j,V j↔V' j):IsVis w bm n V':=by
 obtain ⟨D,h1,h2,h3,h4⟩:=h
 exact ⟨D,h1,h2,fun id=>(e id).symm.trans (h3 id),h4⟩
theorem IsVis.made (w:World) (bm:Nat) (hb:bm=w.heap.size):IsVis (w.alloc (.map #[] 0)) bm 0 (fun _=>False):=by
 subst hb
 exact ⟨.map [],World.ownsMap_made _ _ _ _,⟨_,rfl⟩,fun id=>by simp [Maps.has],fun k h=>by simp [Maps.has] at h⟩
theorem wfU32 {a:Nat} (h:a≤4294967295):(Lit.int .u32 (a:Int)).wf=true:=by
 have e:IntKind.u32.min=0:=rfl
 have e2:IntKind.u32.max=4294967295:=rfl
 simp [Lit.wf,e,e2];omega
theorem IsVis.look {w:World} {bm n:Nat} {V:Nat→Prop} (h:IsVis w bm n V) (a:Nat) (ha:a≤4294967295):
 (V a→(Instr.lookup 227 (.map (some bm)) (.int .u32 a) false).run Tryz.prog w=.ok (.int .i64 1) w)∧(¬V a→(Instr.lookup 227 (.map (some bm)) (.int .u32 a) false).run Tryz.prog w=.ok (.int .i64 0) w):=by
 obtain ⟨D,h1,h2,h3,h4⟩:=h
 obtain ⟨c,hrun,hat,hw⟩:=h1.lookup_int keyU32 Tryz.underlying227 Tryz.underlying3 (zeroInt w) (Maps.keyOf_int_mk Tryz.underlying64 (wfU32 ha))
 constructor
 ·intro hv
  rw [h4 _ ((h3 a).1 hv)] at hat
  cases hat
  exact hrun
 ·intro hv
  have h0:Maps.has D (.int .u32 (a:Int))=false:=by
   cases q:Maps.has D (.int .u32 (a:Int))
   ·rfl
   ·exact absurd ((h3 a).2 q) hv
  rw [Maps.atKey_of_not_has h0] at hat
  cases hat
  exact hrun
theorem IsVis.put {w:World} {bm n:Nat} {V:Nat→Prop} (h:IsVis w bm n V) (a:Nat) (ha:a≤4294967295) (hn:n≤1000000):
 ∃w',(Instr.mapUpdate 227 (.map (some bm)) (.int .u32 a) (.int .i64 1)).run Tryz.prog w=.ok () w'∧IsVis w' bm (n+1) (fun j=>V j∨j=a)∧Mod [bm] w w':=by
 obtain ⟨D,h1,h2,h3,h4⟩:=h
 have hk:=Maps.keyOf_int_mk Tryz.underlying64 (wfU32 ha)
 have hkl:=keyU32.key hk
 obtain ⟨w',hrun,hown,hg⟩:=h1.update keyU32 Tryz.underlying227 (by unfold maxLen;omega) hk (plainElem_int Tryz.underlying3 (a:=1) rfl)
 refine ⟨w',hrun,⟨D.put (.int .u32 a) (.lit (.int .i64 1)),hown,?_,?_,?_⟩,⟨hg.os,hg.tape,hg.output,hg.size,fun k hk hn=>hg.block k hk (by simpa using hn)⟩⟩
 ·obtain ⟨es,rfl⟩:=h2
  exact ⟨_,rfl⟩
 ·intro id
  by_cases q:id=a
  ·subst q
   simp [Maps.has_put_same h2 hkl]
  ·have hne:(Lit.int .u32 (id:Int))≠ .int .u32 (a:Int):=by
    intro e;simp at e;omega
   rw [Maps.has_put_other hne,←h3 id]
   simp [q]
 ·intro k hk z
  by_cases q:k=.int .u32 (a:Int)
  ·subst q
   exact Maps.atKey_put_same h2 hkl _ _
  ·rw [Maps.atKey_put_other q]
   rw [Maps.has_put_other q] at hk
   exact h4 k hk z
open Go.RowKit
structure VSt (w:World) (b n:Nat) (L:List Rc) (room:Nat) (F:List Nat) (cs ci cv bm:Nat):Prop where
 st:IsSt w b n L room F
 s:w.cell? ⟨cs,0,none⟩=some (.pointer (some ⟨b,0,none⟩))
 i:w.cell? ⟨ci,0,none⟩=some (.map (some bm))
 v:w.cell? ⟨cv,0,none⟩=some (.func (.func 152) #[] #[.pointer (some ⟨cs,0,none⟩),.pointer (some ⟨ci,0,none⟩),.pointer (some ⟨cv,0,none⟩)])
theorem VSt.mod {S:List Nat} {w w':World} {b n:Nat} {L:List Rc} {room:Nat} {F:List Nat} {cs ci cv bm:Nat} (h:VSt w b n L room F cs ci cv bm) (m:Mod S w w') (hd:∀k∈cs::ci::cv::F,k∉S):VSt w' b n L room F cs ci cv bm:=
 ⟨h.st.mod m (fun k hk=>hd k (by simp [hk])),(m.cell (a:=⟨cs,0,none⟩) (World.block_lt_of_cell? w _ h.s) (hd cs (by simp))).trans h.s,(m.cell (a:=⟨ci,0,none⟩) (World.block_lt_of_cell? w _ h.i) (hd ci (by simp))).trans h.i,
  (m.cell (a:=⟨cv,0,none⟩) (World.block_lt_of_cell? w _ h.v) (hd cv (by simp))).trans h.v⟩
def VisP (w:World) (bm nm:Nat) (L:List Rc) (f:Nat) (T:Tr) (V:Nat→Prop) (e:Ending) (w':World):Prop:=
 e=.returned (.tuple #[])∧Mod [bm] w w'∧∃n',n'≤nm+tsz T∧IsVis w' bm n' (fun j=>V j∨idsOf L f T j)
theorem visit_leaf {w:World} {b n:Nat} {L:List Rc} {room:Nat} {F:List Nat} {cs ci cv bm:Nat} (h:VSt w b n L room F cs ci cv bm) (hL:L.length≤1048576) (hbm:∀k∈cs::ci::cv::F,k≠bm) (a t:Nat) (ha:a < 2) (R:Ending→World→Prop) (FIN:Hid (∀w',Mod [] w w'→R (.returned (.tuple #[])) w')):
 Calls Tryz.prog 152 #[.agg #[.int .u8 t,.int .u32 a],.pointer (some ⟨cs,0,none⟩),.pointer (some ⟨ci,0,none⟩),.pointer (some ⟨cv,0,none⟩)] w R:=by
 obtain ⟨ba,bi,Fa,c0,c1,c2,hA⟩:=h.st.own
 have hb:=World.block_lt_of_cell? w _ c1
 have hs:=World.block_lt_of_cell? w _ h.s
 have s0:=h.s
 simp only at hb hs
 obtain ⟨gk,hgk⟩:∃gk,w.heap.size=gk:=⟨_,rfl⟩
 have GT:Hid (∀W,Mod [] w W→_):=fun W m=>arGet_none (hA.mod m (by simp)) hL a (by omega) (by unfold recAt;rw [if_neg (by omega)])
 have HV:=Lib.hid h
 have HBM:=Lib.hid hbm
 have gn1:¬b=gk:=by omega
 have gn2:¬gk=b:=by omega
 have gn3:¬cs=gk:=by omega
 have gn4:¬gk=cs:=by omega
 clear h hA c0 c2 hbm
 unfold rcv rc0 at GT
 simp only at GT
 go_enter Tryz.func152,Tryz.ntmps152
 go_wp2_with fail
 have B0:=Blk.new' w #[.int .u8 t,.int .u32 a] 66 gk hgk.symm
 have M0:Hid (Mod [] w (w.alloc (.cells #[.int .u8 t,.int .u32 a] 66))):=(Mod.refl _ _).alloc _
 have HGK:=Lib.hid hgk
 generalize w.alloc (.cells #[.int .u8 t,.int .u32 a] 66)=w0 at *
 have HB0:=Lib.hid B0
 obtain ⟨q0,q1⟩:=B0.cells2
 have hk:=B0.lt
 have c1:=(M0.out.cell (a:=⟨b,1,none⟩) hb (by simp)).trans c1
 have s0:=(M0.out.cell (a:=⟨cs,0,none⟩) hs (by simp)).trans s0
 have hb:=Nat.lt_of_lt_of_le hb M0.out.size
 have hs:=Nat.lt_of_lt_of_le hs M0.out.size
 clear B0 hgk
 obtain ⟨gs,hgs⟩:∃gs,w0.heap.size=gs:=⟨_,rfl⟩
 have gs1:¬b=gs:=by omega
 have gs2:¬gs=b:=by omega
 have gs3:¬gk=gs:=by omega
 have gs4:¬gs=gk:=by omega
 have gs5:¬cs=gs:=by omega
 have gs6:¬gs=cs:=by omega
 go_region_held3 (fun w'=>w'.cell? ⟨b,1,none⟩=some (.pointer (some ⟨ba,0,none⟩))∧w'.cell? ⟨cs,0,none⟩=some (.pointer (some ⟨b,0,none⟩))∧w'.cell? ⟨gk,1,none⟩=some (.int .u32 a)) (go_keep) (first | (go_at_call 100;refine (GT.out _ (M0.out.trans' (show Mod [] w0 _ from by exact mods))).mono ?_;rintro e' w1 ⟨rfl,m_w1⟩;have M_w1:=Mod.trans' (show Mod _ w0 _ from by exact mods) m_w1;have c1:=(M_w1.cell (a:=⟨b,1,none⟩) hb (by first | assumption | (simp;done))).trans c1;have s0:=(M_w1.cell (a:=⟨cs,0,none⟩) hs (by first | assumption | (simp;done))).trans s0;have q1:=(M_w1.cell (a:=⟨gk,1,none⟩) hk (by first | assumption | (simp;done))).trans q1;have hb:=Nat.lt_of_lt_of_le hb M_w1.size;have hs:=Nat.lt_of_lt_of_le hs M_w1.size;have hk:=Nat.lt_of_lt_of_le hk M_w1.size;have hB:=fun c ty (h:Blk _ gs c ty)=>h.mod m_w1 (by simp);first | (have zb:=hB _ _ ((Blk.new' w0 _ _ _ hgs.symm).drew);have z0:=zb.cell 0;have z1:=zb.cell 1;have z2:=zb.cell 2;have z3:=zb.cell 3;have z4:=zb.cell 4;have z5:=zb.cell 5;have z6:=zb.cell 6;simp only [List.getElem?_toArray,List.getElem?_cons_zero,List.getElem?_cons_succ] at z0 z1 z2 z3 z4 z5 z6;have zf:=zb.froz;clear zb) | skip;obtain ⟨gr,hgr⟩:∃gr,w1.heap.size=gr:=⟨_,rfl⟩))
 ·have BX:=Lib.hid (Blk.new' w1 #[.int .u8 0,.int .u8 0,.int .u8 0,.int .u8 0,.int .u32 0,.int .u8 0,.int .u32 0] 108 gr hgr.symm)
  have MX:=Lib.hid ((M0.out.trans' M_w1).alloc (.cells #[.int .u8 0,.int .u8 0,.int .u8 0,.int .u8 0,.int .u32 0,.int .u8 0,.int .u32 0] 108))
  have HB2:=Lib.hid ((HB0.out.mod M_w1 (by simp)).alloc (.cells #[.int .u8 0,.int .u8 0,.int .u8 0,.int .u8 0,.int .u32 0,.int .u8 0,.int .u32 0] 108))
  have hkr:gk < gr:=by have:=M_w1.size;omega
  change Exit.then _ _ _ _ (w1.alloc (.cells #[.int .u8 0,.int .u8 0,.int .u8 0,.int .u8 0,.int .u32 0,.int .u8 0,.int .u32 0] 108))
  generalize w1.alloc (.cells #[.int .u8 0,.int .u8 0,.int .u8 0,.int .u8 0,.int .u32 0,.int .u8 0,.int .u32 0] 108)=X at *
  clear m_w1 M_w1 hB GT M0 hgr c1 s0 q1 q0 HB0 hgs hb hs hk
  go_wp2_with fail
  refine bodyPost_ret (v:=.tuple #[]) (by simp [results,Tryz.results152,go_sem];try rfl) rfl ?_
  exact FIN.out _ MX.out
 ·have B2:=hB _ _ ((Blk.new' w0 #[.int .u8 0,.int .u8 0,.int .u8 0,.int .u8 0,.int .u32 0,.int .u8 0,.int .u32 0] 108 gs hgs.symm).drew)
  have BX:=Lib.hid (set7_blk B2 ⟨0,0,0,⟨0,0⟩,⟨0,0⟩⟩)
  have MX:=Lib.hid (set7_mod (M0.out.trans' M_w1) gs ⟨0,0,0,⟨0,0⟩,⟨0,0⟩⟩ (by have:=M0.out.size;omega))
  have HB2:=Lib.hid ((HB0.out.mod M_w1 (by simp)).mod (set7_mod (Mod.refl [gs] w1) gs ⟨0,0,0,⟨0,0⟩,⟨0,0⟩⟩ (fun _=>by simp)) (by simpa using gs3))
  have hkr:gk < gs:=by omega
  change Exit.then _ _ _ _ (set7 w1 gs ⟨0,0,0,⟨0,0⟩,⟨0,0⟩⟩)
  generalize set7 w1 gs ⟨0,0,0,⟨0,0⟩,⟨0,0⟩⟩=X at *
  clear m_w1 M_w1 hB GT M0 B2 c1 s0 q1 q0 HB0 hgs hb hs hk z0 z1 z2 z3 z4 z5 z6 zf
  go_wp2_with fail
  refine bodyPost_ret (v:=.tuple #[]) (by simp [results,Tryz.results152,go_sem];try rfl) rfl ?_
  exact FIN.out _ MX.out
theorem visit_seen {w:World} {b n:Nat} {L:List Rc} {room:Nat} {F:List Nat} {cs ci cv bm:Nat} (h:VSt w b n L room F cs ci cv bm) (hL:L.length≤1048576) (hbm:∀k∈cs::ci::cv::F,k≠bm) (a t:Nat) (ha32:a≤4294967295) (r:Rc) (hr:recAt L a=some r) {nm:Nat} {V:Nat→Prop} (hV:IsVis w bm nm V) (hva:V a) (R:Ending→World→Prop) (FIN:Hid (∀w',Mod [] w w'→R (.returned (.tuple #[])) w')):
 Calls Tryz.prog 152 #[.agg #[.int .u8 t,.int .u32 a],.pointer (some ⟨cs,0,none⟩),.pointer (some ⟨ci,0,none⟩),.pointer (some ⟨cv,0,none⟩)] w R:=by
 obtain ⟨ba,bi,Fa,c0,c1,c2,hA⟩:=h.st.own
 have hb:=World.block_lt_of_cell? w _ c1
 have hs:=World.block_lt_of_cell? w _ h.s
 have s0:=h.s
 simp only at hb hs
 obtain ⟨gk,hgk⟩:∃gk,w.heap.size=gk:=⟨_,rfl⟩
 have GT:Hid (∀W,Mod [] w W→_):=fun W m=>arGet_live (hA.mod m (by simp)) hL a r hr
 have HV:=Lib.hid h
 have HBM:=Lib.hid hbm
 have gn1:¬b=gk:=by omega
 have gn2:¬gk=b:=by omega
 have gn3:¬cs=gk:=by omega
 have gn4:¬gk=cs:=by omega
 clear h hA c0 c2 hbm
 have HVS:=Lib.hid hV
 have HVA:=Lib.hid hva
 have HVD:Hid (∀W:World,Mod [] w W→Mod [] w W):=fun W m=>m
 clear hV hr
 obtain ⟨rf,rt,rb,⟨rlt,rla⟩,⟨rht,rha⟩⟩:=r
 unfold rcv at GT
 simp only at GT
 go_enter Tryz.func152,Tryz.ntmps152
 go_wp2_with fail
 have B0:=Blk.new' w #[.int .u8 t,.int .u32 a] 66 gk hgk.symm
 have M0:Hid (Mod [] w (w.alloc (.cells #[.int .u8 t,.int .u32 a] 66))):=(Mod.refl _ _).alloc _
 have HGK:=Lib.hid hgk
 generalize w.alloc (.cells #[.int .u8 t,.int .u32 a] 66)=w0 at *
 have HB0:=Lib.hid B0
 obtain ⟨q0,q1⟩:=B0.cells2
 have hk:=B0.lt
 have c1:=(M0.out.cell (a:=⟨b,1,none⟩) hb (by simp)).trans c1
 have s0:=(M0.out.cell (a:=⟨cs,0,none⟩) hs (by simp)).trans s0
 have hb:=Nat.lt_of_lt_of_le hb M0.out.size
 have hs:=Nat.lt_of_lt_of_le hs M0.out.size
 clear B0 hgk
 obtain ⟨gs,hgs⟩:∃gs,w0.heap.size=gs:=⟨_,rfl⟩
 have gs1:¬b=gs:=by omega
 have gs2:¬gs=b:=by omega
 have gs3:¬gk=gs:=by omega
 have gs4:¬gs=gk:=by omega
 have gs5:¬cs=gs:=by omega
 have gs6:¬gs=cs:=by omega
 go_region_held3 (fun w'=>w'.cell? ⟨b,1,none⟩=some (.pointer (some ⟨ba,0,none⟩))∧w'.cell? ⟨cs,0,none⟩=some (.pointer (some ⟨b,0,none⟩))∧w'.cell? ⟨gk,1,none⟩=some (.int .u32 a)) (go_keep) (first | (go_at_call 100;refine (GT.out _ (M0.out.trans' (show Mod [] w0 _ from by exact mods))).mono ?_;rintro e' w1 ⟨rfl,m_w1⟩;have M_w1:=Mod.trans' (show Mod _ w0 _ from by exact mods) m_w1;have c1:=(M_w1.cell (a:=⟨b,1,none⟩) hb (by first | assumption | (simp;done))).trans c1;have s0:=(M_w1.cell (a:=⟨cs,0,none⟩) hs (by first | assumption | (simp;done))).trans s0;have q1:=(M_w1.cell (a:=⟨gk,1,none⟩) hk (by first | assumption | (simp;done))).trans q1;have hb:=Nat.lt_of_lt_of_le hb M_w1.size;have hs:=Nat.lt_of_lt_of_le hs M_w1.size;have hk:=Nat.lt_of_lt_of_le hk M_w1.size;have hB:=fun c ty (h:Blk _ gs c ty)=>h.mod m_w1 (by simp);first | (have zb:=hB _ _ ((Blk.new' w0 _ _ _ hgs.symm).drew);have z0:=zb.cell 0;have z1:=zb.cell 1;have z2:=zb.cell 2;have z3:=zb.cell 3;have z4:=zb.cell 4;have z5:=zb.cell 5;have z6:=zb.cell 6;simp only [List.getElem?_toArray,List.getElem?_cons_zero,List.getElem?_cons_succ] at z0 z1 z2 z3 z4 z5 z6;have zf:=zb.froz;clear zb) | skip;obtain ⟨gr,hgr⟩:∃gr,w1.heap.size=gr:=⟨_,rfl⟩))
 ·have BX:=Lib.hid (Blk.new' w1 #[.int .u8 rf,.int .u8 rt,.int .u8 rb,.int .u8 rlt,.int .u32 rla,.int .u8 rht,.int .u32 rha] 108 gr hgr.symm)
  have MX:=Lib.hid ((M0.out.trans' M_w1).alloc (.cells #[.int .u8 rf,.int .u8 rt,.int .u8 rb,.int .u8 rlt,.int .u32 rla,.int .u8 rht,.int .u32 rha] 108))
  have HB2:=Lib.hid ((HB0.out.mod M_w1 (by simp)).alloc (.cells #[.int .u8 rf,.int .u8 rt,.int .u8 rb,.int .u8 rlt,.int .u32 rla,.int .u8 rht,.int .u32 rha] 108))
  have hkr:gk < gr:=by have:=M_w1.size;omega
  change Exit.then _ _ _ _ (w1.alloc (.cells #[.int .u8 rf,.int .u8 rt,.int .u8 rb,.int .u8 rlt,.int .u32 rla,.int .u8 rht,.int .u32 rha] 108))
  generalize w1.alloc (.cells #[.int .u8 rf,.int .u8 rt,.int .u8 rb,.int .u8 rlt,.int .u32 rla,.int .u8 rht,.int .u32 rha] 108)=X at *
  clear m_w1 M_w1 hB GT M0 hgr c1 s0 q1 q0 HB0 hgs hb hs hk
  have VX:=Lib.hid (HVS.out.mod (HVD.out _ MX.out) (by simp))
  have LK:=(VX.out.look a ha32).1 hva
  have IC:=(MX.out.cell (a:=⟨ci,0,none⟩) (World.block_lt_of_cell? w _ HV.out.i) (by simp)).trans HV.out.i
  obtain ⟨y0,y1⟩:=HB2.out.cells2
  go_wp2_with fail
  refine bodyPost_ret (v:=.tuple #[]) (by simp [results,Tryz.results152,go_sem];try rfl) rfl ?_
  exact FIN.out _ MX.out
 ·have B2:=hB _ _ ((Blk.new' w0 #[.int .u8 0,.int .u8 0,.int .u8 0,.int .u8 0,.int .u32 0,.int .u8 0,.int .u32 0] 108 gs hgs.symm).drew)
  have BX:=Lib.hid (set7_blk B2 ⟨rf,rt,rb,⟨rlt,rla⟩,⟨rht,rha⟩⟩)
  have MX:=Lib.hid (set7_mod (M0.out.trans' M_w1) gs ⟨rf,rt,rb,⟨rlt,rla⟩,⟨rht,rha⟩⟩ (by have:=M0.out.size;omega))
  have HB2:=Lib.hid ((HB0.out.mod M_w1 (by simp)).mod (set7_mod (Mod.refl [gs] w1) gs ⟨rf,rt,rb,⟨rlt,rla⟩,⟨rht,rha⟩⟩ (fun _=>by simp)) (by simpa using gs3))
  have hkr:gk < gs:=by omega
  change Exit.then _ _ _ _ (set7 w1 gs ⟨rf,rt,rb,⟨rlt,rla⟩,⟨rht,rha⟩⟩)
  generalize set7 w1 gs ⟨rf,rt,rb,⟨rlt,rla⟩,⟨rht,rha⟩⟩=X at *
  clear m_w1 M_w1 hB GT M0 B2 c1 s0 q1 q0 HB0 hgs hb hs hk z0 z1 z2 z3 z4 z5 z6 zf
  have VX:=Lib.hid (HVS.out.mod (HVD.out _ MX.out) (by simp))
  have LK:=(VX.out.look a ha32).1 hva
  have IC:=(MX.out.cell (a:=⟨ci,0,none⟩) (World.block_lt_of_cell? w _ HV.out.i) (by simp)).trans HV.out.i
  obtain ⟨y0,y1⟩:=HB2.out.cells2
  go_wp2_with fail
  refine bodyPost_ret (v:=.tuple #[]) (by simp [results,Tryz.results152,go_sem];try rfl) rfl ?_
  exact FIN.out _ MX.out
theorem visit_fresh {w:World} {b n:Nat} {L:List Rc} {room:Nat} {F:List Nat} {cs ci cv bm:Nat} (h:VSt w b n L room F cs ci cv bm) (hL:L.length≤1048576) (hbm:∀k∈cs::ci::cv::F,k≠bm) (a t:Nat) (ha32:a≤4294967295) (r:Rc) (hr:recAt L a=some r) {nm:Nat} {V:Nat→Prop} (hV:IsVis w bm nm V) (hva:¬V a) (hnd:L.Nodup) {f:Nat} {x y:Tr} (hrep:Rep L f a (.node r.top r.bot r.lo.t x r.hi.t y)) {m:Nat} (hcl:Cl L f V m) (hm:tsz (.node r.top r.bot r.lo.t x r.hi.t y) < m) (hnm0:nm+tsz (.node r.top r.bot r.lo.t x r.hi.t y)≤1000000) (IH1:Hid (∀(w':World) (V':Nat→Prop) (m' nm':Nat),VSt w' b n L room F cs ci cv bm→IsVis w' bm nm' V'→Cl L f V' m'→tsz x < m'→nm'+tsz x≤1000000→Calls Tryz.prog 152 #[.agg #[.int .u8 r.lo.t,.int .u32 r.lo.a],.pointer (some ⟨cs,0,none⟩),.pointer (some ⟨ci,0,none⟩),.pointer (some ⟨cv,0,none⟩)] w' (VisP w' bm nm' L f x V'))) (IH2:Hid (∀(w':World) (V':Nat→Prop) (m' nm':Nat),VSt w' b n L room F cs ci cv bm→IsVis w' bm nm' V'→Cl L f V' m'→tsz y < m'→nm'+tsz y≤1000000→Calls Tryz.prog 152 #[.agg #[.int .u8 r.hi.t,.int .u32 r.hi.a],.pointer (some ⟨cs,0,none⟩),.pointer (some ⟨ci,0,none⟩),.pointer (some ⟨cv,0,none⟩)] w' (VisP w' bm nm' L f y V'))):
 Calls Tryz.prog 152 #[.agg #[.int .u8 t,.int .u32 a],.pointer (some ⟨cs,0,none⟩),.pointer (some ⟨ci,0,none⟩),.pointer (some ⟨cv,0,none⟩)] w (VisP w bm nm L f (.node r.top r.bot r.lo.t x r.hi.t y) V):=by
 obtain ⟨ba,bi,Fa,c0,c1,c2,hA⟩:=h.st.own
 have hb:=World.block_lt_of_cell? w _ c1
 have hs:=World.block_lt_of_cell? w _ h.s
 have s0:=h.s
 simp only at hb hs
 obtain ⟨gk,hgk⟩:∃gk,w.heap.size=gk:=⟨_,rfl⟩
 have GT:Hid (∀W,Mod [] w W→_):=fun W m=>arGet_live (hA.mod m (by simp)) hL a r hr
 have HV:=Lib.hid h
 have HBM:=Lib.hid hbm
 have gn1:¬b=gk:=by omega
 have gn2:¬gk=b:=by omega
 have gn3:¬cs=gk:=by omega
 have gn4:¬gk=cs:=by omega
 clear h hA c0 c2 hbm
 have HVS:=Lib.hid hV
 have HVA:=Lib.hid hva
 have HVD:Hid (∀W:World,Mod [] w W→Mod [] w W):=fun W m=>m
 have CLA:=Lib.hid (hcl.add hrep hm)
 have HND:=Lib.hid hnd
 have HRP:=Lib.hid hrep
 have BND:=Lib.hid hnm0
 have hnm:nm≤1000000:=by omega
 clear hV hr hcl hm hnm0 hnd hrep
 obtain ⟨rf,rt,rb,⟨rlt,rla⟩,⟨rht,rha⟩⟩:=r
 unfold rcv at GT
 simp only at GT CLA HRP BND IH1 IH2 ⊢
 go_enter Tryz.func152,Tryz.ntmps152
 go_wp2_with fail
 have B0:=Blk.new' w #[.int .u8 t,.int .u32 a] 66 gk hgk.symm
 have M0:Hid (Mod [] w (w.alloc (.cells #[.int .u8 t,.int .u32 a] 66))):=(Mod.refl _ _).alloc _
 have HGK:=Lib.hid hgk
 generalize w.alloc (.cells #[.int .u8 t,.int .u32 a] 66)=w0 at *
 have HB0:=Lib.hid B0
 obtain ⟨q0,q1⟩:=B0.cells2
 have hk:=B0.lt
 have c1:=(M0.out.cell (a:=⟨b,1,none⟩) hb (by simp)).trans c1
 have s0:=(M0.out.cell (a:=⟨cs,0,none⟩) hs (by simp)).trans s0
 have hb:=Nat.lt_of_lt_of_le hb M0.out.size
 have hs:=Nat.lt_of_lt_of_le hs M0.out.size
 clear B0 hgk
 obtain ⟨gs,hgs⟩:∃gs,w0.heap.size=gs:=⟨_,rfl⟩
 have gs1:¬b=gs:=by omega
 have gs2:¬gs=b:=by omega
 have gs3:¬gk=gs:=by omega
 have gs4:¬gs=gk:=by omega
 have gs5:¬cs=gs:=by omega
 have gs6:¬gs=cs:=by omega
 go_region_held3 (fun w'=>w'.cell? ⟨b,1,none⟩=some (.pointer (some ⟨ba,0,none⟩))∧w'.cell? ⟨cs,0,none⟩=some (.pointer (some ⟨b,0,none⟩))∧w'.cell? ⟨gk,1,none⟩=some (.int .u32 a)) (go_keep) (first | (go_at_call 100;refine (GT.out _ (M0.out.trans' (show Mod [] w0 _ from by exact mods))).mono ?_;rintro e' w1 ⟨rfl,m_w1⟩;have M_w1:=Mod.trans' (show Mod _ w0 _ from by exact mods) m_w1;have c1:=(M_w1.cell (a:=⟨b,1,none⟩) hb (by first | assumption | (simp;done))).trans c1;have s0:=(M_w1.cell (a:=⟨cs,0,none⟩) hs (by first | assumption | (simp;done))).trans s0;have q1:=(M_w1.cell (a:=⟨gk,1,none⟩) hk (by first | assumption | (simp;done))).trans q1;have hb:=Nat.lt_of_lt_of_le hb M_w1.size;have hs:=Nat.lt_of_lt_of_le hs M_w1.size;have hk:=Nat.lt_of_lt_of_le hk M_w1.size;have hB:=fun c ty (h:Blk _ gs c ty)=>h.mod m_w1 (by simp);first | (have zb:=hB _ _ ((Blk.new' w0 _ _ _ hgs.symm).drew);have z0:=zb.cell 0;have z1:=zb.cell 1;have z2:=zb.cell 2;have z3:=zb.cell 3;have z4:=zb.cell 4;have z5:=zb.cell 5;have z6:=zb.cell 6;simp only [List.getElem?_toArray,List.getElem?_cons_zero,List.getElem?_cons_succ] at z0 z1 z2 z3 z4 z5 z6;have zf:=zb.froz;clear zb) | skip;obtain ⟨gr,hgr⟩:∃gr,w1.heap.size=gr:=⟨_,rfl⟩))
 ·have BX:=Lib.hid (Blk.new' w1 #[.int .u8 rf,.int .u8 rt,.int .u8 rb,.int .u8 rlt,.int .u32 rla,.int .u8 rht,.int .u32 rha] 108 gr hgr.symm)
  have MX:=Lib.hid ((M0.out.trans' M_w1).alloc (.cells #[.int .u8 rf,.int .u8 rt,.int .u8 rb,.int .u8 rlt,.int .u32 rla,.int .u8 rht,.int .u32 rha] 108))
  have HB2:=Lib.hid ((HB0.out.mod M_w1 (by simp)).alloc (.cells #[.int .u8 rf,.int .u8 rt,.int .u8 rb,.int .u8 rlt,.int .u32 rla,.int .u8 rht,.int .u32 rha] 108))
  have hkr:gk < gr:=by have:=M_w1.size;omega
  change Exit.then _ _ _ _ (w1.alloc (.cells #[.int .u8 rf,.int .u8 rt,.int .u8 rb,.int .u8 rlt,.int .u32 rla,.int .u8 rht,.int .u32 rha] 108))
  generalize w1.alloc (.cells #[.int .u8 rf,.int .u8 rt,.int .u8 rb,.int .u8 rlt,.int .u32 rla,.int .u8 rht,.int .u32 rha] 108)=X at *
  clear m_w1 M_w1 hB GT M0 hgr c1 s0 q1 q0 HB0 hgs hb hs hk
  have VX:=Lib.hid (HVS.out.mod (HVD.out _ MX.out) (by simp))
  have LK:=(VX.out.look a ha32).2 hva
  have IC:=(MX.out.cell (a:=⟨ci,0,none⟩) (World.block_lt_of_cell? w _ HV.out.i) (by simp)).trans HV.out.i
  obtain ⟨y0,y1⟩:=HB2.out.cells2
  obtain ⟨w2,hrun,hv2,m2⟩:=VX.out.put a ha32 hnm
  have hbX:=VX.out.lt
  have M2:=Lib.hid ((MX.out.mono (S':=[bm]) (by simp)).trans' m2)
  have hkbm:gk≠bm:=by
   have:=(HVS.out.lt);have:=HGK.out;omega
  have hrbm:gr≠bm:=by
   have:=(HVS.out.lt);have:=HGK.out;omega
  have BR2:=Lib.hid (BX.out.mod m2 (by simpa using hrbm))
  have HS2:=Lib.hid (HV.out.mod M2.out (fun k hk=>by have:=HBM.out k hk;simp;exact this))
  have HX2:=Lib.hid hv2
  obtain ⟨x0,x1,x2,x3,x4,x5,x6⟩:=BR2.out.cells7
  have CV:=HS2.out.v
  have hvX:=World.block_lt_of_cell? X _ ((MX.out.cell (a:=⟨cv,0,none⟩) (World.block_lt_of_cell? w _ HV.out.v) (by simp)).trans HV.out.v)
  clear hv2 m2 HB2 hnm VX
  go_wp2_with fail
  refine (IH1.out w2 _ _ _ HS2.out HX2.out CLA.out (by simp [tsz];omega) (by have:=BND.out;simp [tsz] at this;omega)).mono ?_
  rintro e w3 ⟨rfl,m3,n3,hn3,hv3⟩
  have M3:=Lib.hid (M2.out.trans' m3)
  have BR3:=Lib.hid (BR2.out.mod m3 (by simpa using hrbm))
  have HS3:=Lib.hid (HS2.out.mod m3 (fun k hk=>by have:=HBM.out k hk;simp;exact this))
  have HX3:=Lib.hid hv3
  have HN3:=Lib.hid hn3
  obtain ⟨x0,x1,x2,x3,x4,x5,x6⟩:=BR3.out.cells7
  have CV:=HS3.out.v
  clear hv3 m3 hn3
  go_wp2_with fail
  refine (IH2.out w3 _ _ _ HS3.out HX3.out CLA.out.union (by simp [tsz];omega) (by have:=BND.out;have:=HN3.out;simp [tsz] at *;omega)).mono ?_
  rintro e w4 ⟨rfl,m4,n4,hn4,hv4⟩
  have M4:=Lib.hid (M3.out.trans' m4)
  have HX4:=Lib.hid hv4
  have HN4:=Lib.hid hn4
  clear m4 hn4 hv4
  go_wp2_with fail
  refine bodyPost_ret (v:=.tuple #[]) (by simp [results,Tryz.results152,go_sem];try rfl) rfl ?_
  refine ⟨rfl,M4.out,n4,by have:=HN3.out;have:=HN4.out;simp [tsz];omega,HX4.out.congr (fun j=>?_)⟩
  rw [idsOf_node HND.out HRP.out j]
  constructor
  ·rintro (((h | h) | h) | h)
   ·exact .inl h
   ·exact .inr (.inl h)
   ·exact .inr (.inr (.inl h))
   ·exact .inr (.inr (.inr h))
  ·rintro (h | h | h | h)
   ·exact .inl (.inl (.inl h))
   ·exact .inl (.inl (.inr h))
   ·exact .inl (.inr h)
   ·exact .inr h
 ·have B2:=hB _ _ ((Blk.new' w0 #[.int .u8 0,.int .u8 0,.int .u8 0,.int .u8 0,.int .u32 0,.int .u8 0,.int .u32 0] 108 gs hgs.symm).drew)
  have BX:=Lib.hid (set7_blk B2 ⟨rf,rt,rb,⟨rlt,rla⟩,⟨rht,rha⟩⟩)
  have MX:=Lib.hid (set7_mod (M0.out.trans' M_w1) gs ⟨rf,rt,rb,⟨rlt,rla⟩,⟨rht,rha⟩⟩ (by have:=M0.out.size;omega))
  have HB2:=Lib.hid ((HB0.out.mod M_w1 (by simp)).mod (set7_mod (Mod.refl [gs] w1) gs ⟨rf,rt,rb,⟨rlt,rla⟩,⟨rht,rha⟩⟩ (fun _=>by simp)) (by simpa using gs3))
  have hkr:gk < gs:=by omega
  change Exit.then _ _ _ _ (set7 w1 gs ⟨rf,rt,rb,⟨rlt,rla⟩,⟨rht,rha⟩⟩)
  generalize set7 w1 gs ⟨rf,rt,rb,⟨rlt,rla⟩,⟨rht,rha⟩⟩=X at *
  clear m_w1 M_w1 hB GT M0 B2 c1 s0 q1 q0 HB0 hgs hb hs hk z0 z1 z2 z3 z4 z5 z6 zf
  have VX:=Lib.hid (HVS.out.mod (HVD.out _ MX.out) (by simp))
  have LK:=(VX.out.look a ha32).2 hva
  have IC:=(MX.out.cell (a:=⟨ci,0,none⟩) (World.block_lt_of_cell? w _ HV.out.i) (by simp)).trans HV.out.i
  obtain ⟨y0,y1⟩:=HB2.out.cells2
  obtain ⟨w2,hrun,hv2,m2⟩:=VX.out.put a ha32 hnm
  have hbX:=VX.out.lt
  have M2:=Lib.hid ((MX.out.mono (S':=[bm]) (by simp)).trans' m2)
  have hkbm:gk≠bm:=by
   have:=(HVS.out.lt);have:=HGK.out;omega
  have hrbm:gs≠bm:=by
   have:=(HVS.out.lt);have:=HGK.out;omega
  have BR2:=Lib.hid (BX.out.mod m2 (by simpa using hrbm))
  have HS2:=Lib.hid (HV.out.mod M2.out (fun k hk=>by have:=HBM.out k hk;simp;exact this))
  have HX2:=Lib.hid hv2
  obtain ⟨x0,x1,x2,x3,x4,x5,x6⟩:=BR2.out.cells7
  have CV:=HS2.out.v
  have hvX:=World.block_lt_of_cell? X _ ((MX.out.cell (a:=⟨cv,0,none⟩) (World.block_lt_of_cell? w _ HV.out.v) (by simp)).trans HV.out.v)
  clear hv2 m2 HB2 hnm VX
  go_wp2_with fail
  refine (IH1.out w2 _ _ _ HS2.out HX2.out CLA.out (by simp [tsz];omega) (by have:=BND.out;simp [tsz] at this;omega)).mono ?_
  rintro e w3 ⟨rfl,m3,n3,hn3,hv3⟩
  have M3:=Lib.hid (M2.out.trans' m3)
  have BR3:=Lib.hid (BR2.out.mod m3 (by simpa using hrbm))
  have HS3:=Lib.hid (HS2.out.mod m3 (fun k hk=>by have:=HBM.out k hk;simp;exact this))
  have HX3:=Lib.hid hv3
  have HN3:=Lib.hid hn3
  obtain ⟨x0,x1,x2,x3,x4,x5,x6⟩:=BR3.out.cells7
  have CV:=HS3.out.v
  clear hv3 m3 hn3
  go_wp2_with fail
  refine (IH2.out w3 _ _ _ HS3.out HX3.out CLA.out.union (by simp [tsz];omega) (by have:=BND.out;have:=HN3.out;simp [tsz] at *;omega)).mono ?_
  rintro e w4 ⟨rfl,m4,n4,hn4,hv4⟩
  have M4:=Lib.hid (M3.out.trans' m4)
  have HX4:=Lib.hid hv4
  have HN4:=Lib.hid hn4
  clear m4 hn4 hv4
  go_wp2_with fail
  refine bodyPost_ret (v:=.tuple #[]) (by simp [results,Tryz.results152,go_sem];try rfl) rfl ?_
  refine ⟨rfl,M4.out,n4,by have:=HN3.out;have:=HN4.out;simp [tsz];omega,HX4.out.congr (fun j=>?_)⟩
  rw [idsOf_node HND.out HRP.out j]
  constructor
  ·rintro (((h | h) | h) | h)
   ·exact .inl h
   ·exact .inr (.inl h)
   ·exact .inr (.inr (.inl h))
   ·exact .inr (.inr (.inr h))
  ·rintro (h | h | h | h)
   ·exact .inl (.inl (.inl h))
   ·exact .inl (.inl (.inr h))
   ·exact .inl (.inr h)
   ·exact .inr h
theorem visit_c {b n:Nat} {L:List Rc} {room:Nat} {F:List Nat} {cs ci cv bm:Nat} (hL:L.length≤1048576) (hbm:∀k∈cs::ci::cv::F,k≠bm) (hnd:L.Nodup) {f:Nat} (T:Tr):∀(w:World) (V:Nat→Prop) (m nm t a:Nat),VSt w b n L room F cs ci cv bm→IsVis w bm nm V→Rep L f a T→Cl L f V m→tsz T < m→nm+tsz T≤1000000→
 Calls Tryz.prog 152 #[.agg #[.int .u8 t,.int .u32 a],.pointer (some ⟨cs,0,none⟩),.pointer (some ⟨ci,0,none⟩),.pointer (some ⟨cv,0,none⟩)] w (VisP w bm nm L f T V):=by
 induction T with
 | leaf bl=>
  intro w V m nm t a hS hV hR hC hm hn
  have ha:=hR.invl
  refine visit_leaf hS hL hbm a t (by rw [ha];split<;>omega) _ (fun w' mm=>?_)
  exact ⟨rfl,mm.mono (by simp),nm,by omega,(hV.mod mm (by simp)).congr (fun j=>⟨.inl,fun h=>h.elim (fun h=>h) (fun h=>absurd h (idsOf_leaf j))⟩)⟩
 | node tp bt tl x th y ihx ihy=>
  intro w V m nm t a hS hV hR hC hm hn
  have ha:=hR.ge
  have ha32:a≤4294967295:=by
   rcases ha with ⟨_,_,h⟩ | ⟨_,h⟩<;>omega
  by_cases hva:V a
  ·obtain ⟨r,hr,_⟩:=hR.inv
   refine visit_seen hS hL hbm a t ha32 r hr hV hva _ (fun w' mm=>?_)
   exact ⟨rfl,mm.mono (by simp),nm,by omega,(hV.mod mm (by simp)).congr (fun j=>Cl.skip hC hR hva hm j)⟩
  ·obtain ⟨r,hr,hf,rfl,rfl,rfl,rfl,hx,hy⟩:=hR.inv
   exact visit_fresh hS hL hbm a t ha32 r hr hV hva hnd hR hC hm hn (fun w' V' m' nm' a1 a2 a3 a4 a5=>ihx w' V' m' nm' _ _ a1 a2 hx a3 a4 a5) (fun w' V' m' nm' a1 a2 a3 a4 a5=>ihy w' V' m' nm' _ _ a1 a2 hy a3 a4 a5)
open Go.RowKit
def rawElem (v:Value):Option (DataW Value × List MemPlace):=some (.held v,[])
theorem ownV_mod {P:Program} {k:TypeId} {R:Value→Option (DataW Value × List MemPlace)} {b n:Nat} {D:DataW Value} {S:List Nat} {w w':World} (h:w.ownsMap P k R b n D) (m:Mod S w w') (hn:b∉S):w'.ownsMap P k R b n D:=by
 have hl:=h.lt
 obtain ⟨es,clock,hb,r⟩:=h
 exact ⟨es,clock,(m.block b hl hn).trans hb,r⟩
def IsMp (w:World) (k:TypeId) (bm n:Nat) (G:Lit→Option Value):Prop:=
 ∃D:DataW Value,w.ownsMap Tryz.prog k rawElem bm n D∧(∃es,D=.map es)∧(∀kl v,G kl=some v→Maps.has D kl=true∧∀z,D.atKey kl z=.held v)∧∀kl,G kl=none→Maps.has D kl=false
theorem IsMp.mod {S:List Nat} {w w':World} {k:TypeId} {bm n:Nat} {G:Lit→Option Value} (h:IsMp w k bm n G) (m:Mod S w w') (hn:bm∉S):IsMp w' k bm n G:=by
 obtain ⟨D,h1,h2⟩:=h
 exact ⟨D,ownV_mod h1 m hn,h2⟩
theorem IsMp.lt {w:World} {k:TypeId} {bm n:Nat} {G:Lit→Option Value} (h:IsMp w k bm n G):bm < w.heap.size:=by
 obtain ⟨D,h1,h2⟩:=h
 exact h1.lt
theorem IsMp.mono {w:World} {k:TypeId} {bm n n':Nat} {G:Lit→Option Value} (h:IsMp w k bm n G) (hn:n≤n'):IsMp w k bm n' G:=by
 obtain ⟨D,h1,h2⟩:=h
 exact ⟨D,h1.mono hn,h2⟩
theorem IsMp.congr {w:World} {k:TypeId} {bm n:Nat} {G G':Lit→Option Value} (h:IsMp w k bm n G) (e:∀j,G j=G' j):IsMp w k bm n G':=by
 obtain rfl:G=G':=funext e
 exact h
theorem IsMp.made (w:World) (k:TypeId) (bm:Nat) (hb:bm=w.heap.size):IsMp (w.alloc (.map #[] 0)) k bm 0 (fun _=>none):=by
 subst hb
 exact ⟨.map [],World.ownsMap_made _ _ _ _,⟨_,rfl⟩,fun k v h=>by simp at h,fun k h=>by simp [Maps.has]⟩
def mpTold (c:Bool) (z:Value):Option Value→Value
 | some v=>if c then .tuple #[v,.bool true] else v
 | none=>if c then .tuple #[z,.bool false] else z
theorem IsMp.look {w:World} {k:TypeId} {bm n:Nat} {G:Lit→Option Value} (h:IsMp w k bm n G) (K:Maps.Keyed Tryz.prog k) {t e:TypeId} (ht:Tryz.prog.underlying t=some (.map k e)) {z:Value} (hz:(zeroValue e).run Tryz.prog w=.ok z w)
 {key:Value} {kl:Lit} (hkey:keyOf Tryz.prog k key=some kl) (c:Bool):(Instr.lookup t (.map (some bm)) key c).run Tryz.prog w=.ok (mpTold c z (G kl)) w:=by
 obtain ⟨D,⟨es,clock,hb,F,hs,hD⟩,h2,h3,h4⟩:=h
 rcases Maps.fit_look c K ht hz hb F hkey with ⟨hrun,_,hat⟩ | ⟨e0,y,_,_,hrun,hRv,hat,_⟩
 ·rw [←hD] at hat
  have hno:=Maps.has_false_of_atKey hat
  cases q:G kl with
  | none=>exact hrun
  | some v=>rw [(h3 kl v q).1] at hno;cases hno
 ·rw [←hD] at hat
  have hyes:=Maps.has_true_of_atKey hat
  cases q:G kl with
  | none=>rw [h4 kl q] at hyes;cases hyes
  | some v=>
   have h5:=(h3 kl v q).2 (.held v)
   rw [hat] at h5
   unfold rawElem at hRv
   obtain rfl:=Option.some.inj hRv
   simp only [DataW.held.injEq] at h5
   rw [←h5]
   exact hrun
def MpSet (G:Lit→Option Value) (kl:Lit) (v:Value) (G':Lit→Option Value):Prop:=G' kl=some v∧∀j,j≠kl→G' j=G j
theorem MpSet.ex (G:Lit→Option Value) (kl:Lit) (v:Value):∃G',MpSet G kl v G':=
 ⟨fun j=>@ite _ (j=kl) (Classical.propDecidable _) (some v) (G j),@if_pos _ (Classical.propDecidable _) rfl _ _ _,fun j h=>@if_neg _ (Classical.propDecidable _) h _ _ _⟩
theorem IsMp.put {w:World} {k:TypeId} {bm n:Nat} {G:Lit→Option Value} (h:IsMp w k bm n G) (K:Maps.Keyed Tryz.prog k) {t e:TypeId} (ht:Tryz.prog.underlying t=some (.map k e)) {key:Value} {kl:Lit} (hkey:keyOf Tryz.prog k key=some kl) (v:Value) (hn:n≤1000000):
 ∃w' G',(Instr.mapUpdate t (.map (some bm)) key v).run Tryz.prog w=.ok () w'∧IsMp w' k bm (n+1) G'∧Mod [bm] w w'∧MpSet G kl v G':=by
 obtain ⟨G',hG⟩:=MpSet.ex G kl v
 have mpSet_same:=hG.1
 have mpSet_other:=hG.2
 obtain ⟨D,h1,h2,h3,h4⟩:=h
 have hkl:=K.key hkey
 obtain ⟨w',hrun,hown,hg⟩:=h1.update K ht (by unfold maxLen;omega) hkey (val:=v) (d:=.held v) (ps:=[]) rfl
 refine ⟨w',G',hrun,⟨D.put kl (.held v),hown,?_,?_,?_⟩,⟨hg.os,hg.tape,hg.output,hg.size,fun k hk hn=>hg.block k hk (by simpa using hn)⟩,hG⟩
 ·obtain ⟨es,rfl⟩:=h2
  exact ⟨_,rfl⟩
 ·intro j u hj
  by_cases q:j=kl
  ·subst q
   rw [mpSet_same] at hj
   obtain rfl:=Option.some.inj hj
   exact ⟨Maps.has_put_same h2 hkl _,fun z=>Maps.atKey_put_same h2 hkl _ _⟩
  ·rw [mpSet_other _ q] at hj
   rw [Maps.has_put_other q]
   exact ⟨(h3 j u hj).1,fun z=>by rw [Maps.atKey_put_other q];exact (h3 j u hj).2 z⟩
 ·intro j hj
  by_cases q:j=kl
  ·subst q;rw [mpSet_same] at hj;cases hj
  ·rw [mpSet_other _ q] at hj
   rw [Maps.has_put_other q]
   exact h4 j hj
end Go.Proofs.YtlafpknoiihaaaaGreatDoor
