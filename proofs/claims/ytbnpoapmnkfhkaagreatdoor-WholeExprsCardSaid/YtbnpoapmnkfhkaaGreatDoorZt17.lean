import Derived.Test.YtbnpoapmnkfhkaaGreatDoorZt14
import Derived.Maps.RangeWalk
import Derived.Maps.OwnOps
import Derived.Maps.Views
set_option maxRecDepth 100000
set_option maxHeartbeats 4000000
set_option linter.unusedVariables false
set_option linter.unusedSimpArgs false
namespace Go.Proofs.YtbnpoapmnkfhkaaGreatDoor
open Go.Value renaming int → o, pointer → U, tuple → ω, agg → ξ
open Go.Lib renaming hid → l
open Go.World renaming block_lt_of_cell? → g, ownsMap_made → ψ
open Nat renaming lt_of_lt_of_le → Z
open Go.IntKind renaming u8 → Y, u32 → Q, i64 → ν
open Option renaming none → O, some → M
open Go.Proofs.Tryz renaming prog → N, underlying42 → Θ, underlying272 → χ, underlying3 → σ, results177 → ρ
open Go renaming World → J, Value → I, TypeId → Ξ
open Go.Obj renaming cells → H
open Go.Proofs.YtbnpoapmnkfhkaaGreatDoor.Blk renaming new' → E
open Go.Maps renaming has_put_other → C, has → Ψ, atKey_put_other → Δ, atKey_put_same → Γ, keyOf_int_mk → φ, has_put_same → τ, Keyed → π
open List renaming getElem?_cons_zero → B, getElem?_cons_succ → A, getElem?_toArray → Φ
open Classical renaming propDecidable → Ω
open Go.RowKit
theorem keyU32:π N 42:=Maps.int_keyed Θ
theorem ZE {p:Prop} (h:p:=by
 have hl:=h.lt;obtain ⟨es,clock,hb,r⟩:=h
 exact ⟨es,clock,(m.block b hl hn).trans hb,r⟩):p:=h
theorem yz0 {P:Program} {k:Ξ} {R:I→Option (DataW Unit × List MemPlace)} {b n:Nat} {D:DataW Unit} {S:List Nat} {w w':J} (h:w.ownsMap P k R b n D) (m:Mod S w w') (hn:b∉S):w'.ownsMap P k R b n D:=by
 exact ZE
theorem yr0 (w:J):(zeroValue 3).run N w=.ok (o ν 0) w:=by kernel_rfl
def IsVis (w:J) (bm n:Nat) (V:Nat→Prop):Prop:=
 ∃D:DataW Unit,w.ownsMap N 42 (plainElem N 3) bm n D∧(∃es,D=.map es)∧(∀id:Nat,V id↔Ψ D (.int Q id)=true)∧∀k,Ψ D k=true→∀z,D.atKey k z=.lit (.int ν 1)
theorem IsVis.mod {S:List Nat} {w w':J} {bm n:Nat} {V:Nat→Prop} (h:IsVis w bm n V) (m:Mod S w w') (hn:bm∉S):IsVis w' bm n V:=by
 obtain ⟨D,h1,h2⟩:=h;exact ⟨D,yz0 h1 m hn,h2⟩
theorem IsVis.lt {w:J} {bm n:Nat} {V:Nat→Prop} (h:IsVis w bm n V):bm < w.heap.size:=by
 obtain ⟨D,h1,h2⟩:=h;exact h1.lt
theorem IsVis.mono {w:J} {bm n n':Nat} {V:Nat→Prop} (h:IsVis w bm n V) (hn:n≤n'):IsVis w bm n' V:=by
 obtain ⟨D,h1,h2⟩:=h;exact ⟨D,h1.mono hn,h2⟩
theorem IsVis.congr {w:J} {bm n:Nat} {V V':Nat→Prop} (h:IsVis w bm n V) (e:∀j,V j↔V' j):IsVis w bm n V':=by
 obtain ⟨D,h1,h2,h3,h4⟩:=h;exact ⟨D,h1,h2,fun id=>(e id).symm.trans (h3 id),h4⟩
theorem IsVis.made (w:J) (bm:Nat) (hb:bm=w.heap.size):IsVis (w.alloc (.map #[] 0)) bm 0 (fun _=>False):=by
 subst hb;exact ⟨.map [],ψ _ _ _ _,⟨_,rfl⟩,fun id=>by simp [Ψ],fun k h=>by simp [Ψ] at h⟩
theorem yc1 {a:Nat} (h:a≤4294967295):(Lit.int Q (a:Int)).wf=true:=by
 have e:IntKind.u32.min=0:=rfl;have e2:IntKind.u32.max=4294967295:=rfl;simp [Lit.wf,e,e2];omega
theorem IsVis.look {w:J} {bm n:Nat} {V:Nat→Prop} (h:IsVis w bm n V) (a:Nat) (ha:a≤4294967295):
 (V a→(Instr.lookup 272 (.map (M bm)) (o Q a) false).run N w=.ok (o ν 1) w)∧(¬V a→(Instr.lookup 272 (.map (M bm)) (o Q a) false).run N w=.ok (o ν 0) w):=by
 obtain ⟨D,h1,h2,h3,h4⟩:=h;obtain ⟨c,hrun,hat,hw⟩:=h1.lookup_int keyU32 χ σ (yr0 w) (φ Θ (yc1 ha));constructor
 ·intro hv;rw [h4 _ ((h3 a).1 hv)] at hat;cases hat;exact hrun
 ·intro hv
  have h0:Ψ D (.int Q (a:Int))=false:=by
   cases q:Ψ D (.int Q (a:Int))
   ·rfl
   ·exact absurd ((h3 a).2 q) hv
  rw [Maps.atKey_of_not_has h0] at hat;cases hat;exact hrun
theorem IsVis.put {w:J} {bm n:Nat} {V:Nat→Prop} (h:IsVis w bm n V) (a:Nat) (ha:a≤4294967295) (hn:n≤1000000):
 ∃w',(Instr.mapUpdate 272 (.map (M bm)) (o Q a) (o ν 1)).run N w=.ok () w'∧IsVis w' bm (n+1) (fun j=>V j∨j=a)∧Mod [bm] w w':=by
 obtain ⟨D,h1,h2,h3,h4⟩:=h;have hk:=φ Θ (yc1 ha);have hkl:=keyU32.key hk;obtain ⟨w',hrun,hown,hg⟩:=h1.update keyU32 χ (zx) hk (plainElem_int σ (a:=1) rfl);refine ⟨w',hrun,⟨D.put (.int Q a) (.lit (.int ν 1)),hown,?_,?_,?_⟩,⟨hg.os,hg.tape,hg.output,hg.size,fun k hk hn=>hg.block k hk (by simpa using hn)⟩⟩
 ·obtain ⟨es,rfl⟩:=h2;exact ⟨_,rfl⟩
 ·intro id;by_cases q:id=a
  ·subst q;simp [τ h2 hkl]
  ·have hne:(Lit.int Q (id:Int))≠ .int Q (a:Int):=by
    intro e;simp at e;omega
   rw [C hne,←h3 id];simp [q]
 ·intro k hk z;by_cases q:k=.int Q (a:Int)
  ·subst q;exact Γ h2 hkl _ _
  ·rw [Δ q];rw [C q] at hk;exact h4 k hk z
open Go.RowKit
structure VSt (w:J) (b n:Nat) (L:List Rc) (room:Nat) (F:List Nat) (cs ci cv bm:Nat):Prop where
 st:IsSt w b n L room F
 s:w.cell? ⟨cs,0,O⟩=M (U (M ⟨b,0,O⟩))
 i:w.cell? ⟨ci,0,O⟩=M (.map (M bm))
 v:w.cell? ⟨cv,0,O⟩=M (.func (.func 177) #[] #[U (M ⟨cs,0,O⟩),U (M ⟨ci,0,O⟩),U (M ⟨cv,0,O⟩)])
theorem VSt.mod {S:List Nat} {w w':J} {b n:Nat} {L:List Rc} {room:Nat} {F:List Nat} {cs ci cv bm:Nat} (h:VSt w b n L room F cs ci cv bm) (m:Mod S w w') (hd:∀k∈cs::ci::cv::F,k∉S):VSt w' b n L room F cs ci cv bm:=
 ⟨h.st.mod m (fun k hk=>hd k (zC)),(m.cell (a:=⟨cs,0,O⟩) (g w _ h.s) (hd cs (ze))).trans h.s,(m.cell (a:=⟨ci,0,O⟩) (g w _ h.i) (hd ci (ze))).trans h.i,
  (m.cell (a:=⟨cv,0,O⟩) (g w _ h.v) (hd cv (ze))).trans h.v⟩
def yI0 (w:J) (bm nm:Nat) (L:List Rc) (f:Nat) (T:Tr) (V:Nat→Prop) (e:Ending) (w':J):Prop:=
 e=.returned (ω #[])∧Mod [bm] w w'∧∃n',n'≤nm+tsz T∧IsVis w' bm n' (fun j=>V j∨zf4 L f T j)
theorem ZC {p:Prop} (h:p:=by
 go_wp2_with fail;refine bodyPost_ret (v:=ω #[]) (by simp [results,ρ,go_sem];try rfl) rfl ?_
 exact FIN.out _ MX.out):p:=h
theorem zL5 {w:J} {b n:Nat} {L:List Rc} {room:Nat} {F:List Nat} {cs ci cv bm:Nat} (h:VSt w b n L room F cs ci cv bm) (hL:L.length≤1048576) (hbm:∀k∈cs::ci::cv::F,k≠bm) (a t:Nat) (ha:a < 2) (R:Ending→J→Prop) (FIN:Hid (∀w',Mod [] w w'→R (.returned (ω #[])) w')):
 Calls N 177 #[ξ #[o Y t,o Q a],U (M ⟨cs,0,O⟩),U (M ⟨ci,0,O⟩),U (M ⟨cv,0,O⟩)] w R:=by
 obtain ⟨ba,bi,Fa,c0,c1,c2,hA⟩:=h.st.own;have hb:=g w _ c1;have hs:=g w _ h.s;have s0:=h.s;simp only at hb hs;obtain ⟨gk,hgk⟩:∃gk,w.heap.size=gk:=⟨_,rfl⟩;have GT:Hid (∀W,Mod [] w W→_):=fun W m=>zp1 (hA.mod m (ze)) hL a (zc) (by unfold YO;rw [if_neg (zc)])
 have HV:=l h;have HBM:=l hbm;have gn1:¬b=gk:=zc;have gn2:¬gk=b:=zc;have gn3:¬cs=gk:=zc;have gn4:¬gk=cs:=zc;clear h hA c0 c2 hbm;unfold rcv rc0 at GT;simp only at GT;go_in;go_wp2_with fail;have B0:=E w #[o Y t,o Q a] 44 gk hgk.symm;have M0:Hid (Mod [] w (w.alloc (H #[o Y t,o Q a] 44))):=(Mod.refl _ _).alloc _;have HGK:=l hgk;generalize w.alloc (H #[o Y t,o Q a] 44)=w0 at *;have HB0:=l B0;obtain ⟨q0,q1⟩:=B0.cells2;have hk:=B0.lt;have c1:=(M0.out.cell (a:=⟨b,1,O⟩) hb (ze)).trans c1;have s0:=(M0.out.cell (a:=⟨cs,0,O⟩) hs (ze)).trans s0;have hb:=Z hb M0.out.size;have hs:=Z hs M0.out.size;clear B0 hgk;obtain ⟨gs,hgs⟩:∃gs,w0.heap.size=gs:=⟨_,rfl⟩;have gs1:¬b=gs:=zc;have gs2:¬gs=b:=zc;have gs3:¬gk=gs:=zc;have gs4:¬gs=gk:=zc;have gs5:¬cs=gs:=zc;have gs6:¬gs=cs:=zc
 go_region_held3 (fun w'=>w'.cell? ⟨b,1,O⟩=M (U (M ⟨ba,0,O⟩))∧w'.cell? ⟨cs,0,O⟩=M (U (M ⟨b,0,O⟩))∧w'.cell? ⟨gk,1,O⟩=M (o Q a)) (go_keep) (first | (go_at_call 121;refine (GT.out _ (M0.out.trans' (show Mod [] w0 _ from zg))).mono ?_;rintro e' w1 ⟨rfl,m_w1⟩;have M_w1:=Mod.trans' (show Mod _ w0 _ from zg) m_w1;have c1:=(M_w1.cell (a:=⟨b,1,O⟩) hb (zh)).trans c1;have s0:=(M_w1.cell (a:=⟨cs,0,O⟩) hs (zh)).trans s0;have q1:=(M_w1.cell (a:=⟨gk,1,O⟩) hk (zh)).trans q1;have hb:=Z hb M_w1.size;have hs:=Z hs M_w1.size;have hk:=Z hk M_w1.size;have hB:=fun c ty (h:Blk _ gs c ty)=>h.mod m_w1 (ze);first | (have zb:=hB _ _ ((E w0 _ _ _ hgs.symm).drew);have z0:=zb.cell 0;have z1:=zb.cell 1;have z2:=zb.cell 2;have z3:=zb.cell 3;have z4:=zb.cell 4;have z5:=zb.cell 5;have z6:=zb.cell 6;simp only [Φ,B,A] at z0 z1 z2 z3 z4 z5 z6;have zf:=zb.froz;clear zb) | skip;obtain ⟨gr,hgr⟩:∃gr,w1.heap.size=gr:=⟨_,rfl⟩))
 ·have BX:=l (E w1 #[o Y 0,o Y 0,o Y 0,o Y 0,o Q 0,o Y 0,o Q 0] 139 gr hgr.symm);have MX:=l ((M0.out.trans' M_w1).alloc (H #[o Y 0,o Y 0,o Y 0,o Y 0,o Q 0,o Y 0,o Q 0] 139));have HB2:=l ((HB0.out.mod M_w1 (ze)).alloc (H #[o Y 0,o Y 0,o Y 0,o Y 0,o Q 0,o Y 0,o Q 0] 139));have hkr:gk < gr:=qp;change Exit.then _ _ _ _ (w1.alloc (H #[o Y 0,o Y 0,o Y 0,o Y 0,o Q 0,o Y 0,o Q 0] 139));generalize w1.alloc (H #[o Y 0,o Y 0,o Y 0,o Y 0,o Q 0,o Y 0,o Q 0] 139)=X at *;clear m_w1 M_w1 hB GT M0 hgr c1 s0 q1 q0 HB0 hgs hb hs hk;exact ZC
 ·have B2:=hB _ _ ((E w0 #[o Y 0,o Y 0,o Y 0,o Y 0,o Q 0,o Y 0,o Q 0] 139 gs hgs.symm).drew);have BX:=l (za4 B2 ⟨0,0,0,⟨0,0⟩,⟨0,0⟩⟩);have MX:=l (Xe (M0.out.trans' M_w1) gs ⟨0,0,0,⟨0,0⟩,⟨0,0⟩⟩ (qq));have HB2:=l ((HB0.out.mod M_w1 (ze)).mod (Xe (Mod.refl [gs] w1) gs ⟨0,0,0,⟨0,0⟩,⟨0,0⟩⟩ (fun _=>ze)) (xq));have hkr:gk < gs:=zc;change Exit.then _ _ _ _ (zw8 w1 gs ⟨0,0,0,⟨0,0⟩,⟨0,0⟩⟩);generalize zw8 w1 gs ⟨0,0,0,⟨0,0⟩,⟨0,0⟩⟩=X at *;clear m_w1 M_w1 hB GT M0 B2 c1 s0 q1 q0 HB0 hgs hb hs hk z0 z1 z2 z3 z4 z5 z6 zf;exact ZC
theorem ZD {p:Prop} (h:p:=by
 have VX:=l (HVS.out.mod (HVD.out _ MX.out) (ze));have LK:=(VX.out.look a ha32).1 hva;have IC:=(MX.out.cell (a:=⟨ci,0,O⟩) (g w _ HV.out.i) (ze)).trans HV.out.i;obtain ⟨y0,y1⟩:=HB2.out.cells2
 exact ZC):p:=h
theorem zM5 {w:J} {b n:Nat} {L:List Rc} {room:Nat} {F:List Nat} {cs ci cv bm:Nat} (h:VSt w b n L room F cs ci cv bm) (hL:L.length≤1048576) (hbm:∀k∈cs::ci::cv::F,k≠bm) (a t:Nat) (ha32:a≤4294967295) (r:Rc) (hr:YO L a=M r) {nm:Nat} {V:Nat→Prop} (hV:IsVis w bm nm V) (hva:V a) (R:Ending→J→Prop) (FIN:Hid (∀w',Mod [] w w'→R (.returned (ω #[])) w')):
 Calls N 177 #[ξ #[o Y t,o Q a],U (M ⟨cs,0,O⟩),U (M ⟨ci,0,O⟩),U (M ⟨cv,0,O⟩)] w R:=by
 obtain ⟨ba,bi,Fa,c0,c1,c2,hA⟩:=h.st.own;have hb:=g w _ c1;have hs:=g w _ h.s;have s0:=h.s;simp only at hb hs;obtain ⟨gk,hgk⟩:∃gk,w.heap.size=gk:=⟨_,rfl⟩;have GT:Hid (∀W,Mod [] w W→_):=fun W m=>zc1 (hA.mod m (ze)) hL a r hr
 have HV:=l h;have HBM:=l hbm;have gn1:¬b=gk:=zc;have gn2:¬gk=b:=zc;have gn3:¬cs=gk:=zc;have gn4:¬gk=cs:=zc;clear h hA c0 c2 hbm;have HVS:=l hV;have HVA:=l hva;have HVD:Hid (∀W:J,Mod [] w W→Mod [] w W):=fun W m=>m
 clear hV hr;obtain ⟨rf,rt,rb,⟨rlt,rla⟩,⟨rht,rha⟩⟩:=r;unfold rcv at GT;simp only at GT;go_in;go_wp2_with fail;have B0:=E w #[o Y t,o Q a] 44 gk hgk.symm;have M0:Hid (Mod [] w (w.alloc (H #[o Y t,o Q a] 44))):=(Mod.refl _ _).alloc _;have HGK:=l hgk;generalize w.alloc (H #[o Y t,o Q a] 44)=w0 at *;have HB0:=l B0;obtain ⟨q0,q1⟩:=B0.cells2;have hk:=B0.lt;have c1:=(M0.out.cell (a:=⟨b,1,O⟩) hb (ze)).trans c1;have s0:=(M0.out.cell (a:=⟨cs,0,O⟩) hs (ze)).trans s0;have hb:=Z hb M0.out.size;have hs:=Z hs M0.out.size;clear B0 hgk;obtain ⟨gs,hgs⟩:∃gs,w0.heap.size=gs:=⟨_,rfl⟩;have gs1:¬b=gs:=zc;have gs2:¬gs=b:=zc;have gs3:¬gk=gs:=zc;have gs4:¬gs=gk:=zc;have gs5:¬cs=gs:=zc;have gs6:¬gs=cs:=zc
 go_region_held3 (fun w'=>w'.cell? ⟨b,1,O⟩=M (U (M ⟨ba,0,O⟩))∧w'.cell? ⟨cs,0,O⟩=M (U (M ⟨b,0,O⟩))∧w'.cell? ⟨gk,1,O⟩=M (o Q a)) (go_keep) (first | (go_at_call 121;refine (GT.out _ (M0.out.trans' (show Mod [] w0 _ from zg))).mono ?_;rintro e' w1 ⟨rfl,m_w1⟩;have M_w1:=Mod.trans' (show Mod _ w0 _ from zg) m_w1;have c1:=(M_w1.cell (a:=⟨b,1,O⟩) hb (zh)).trans c1;have s0:=(M_w1.cell (a:=⟨cs,0,O⟩) hs (zh)).trans s0;have q1:=(M_w1.cell (a:=⟨gk,1,O⟩) hk (zh)).trans q1;have hb:=Z hb M_w1.size;have hs:=Z hs M_w1.size;have hk:=Z hk M_w1.size;have hB:=fun c ty (h:Blk _ gs c ty)=>h.mod m_w1 (ze);first | (have zb:=hB _ _ ((E w0 _ _ _ hgs.symm).drew);have z0:=zb.cell 0;have z1:=zb.cell 1;have z2:=zb.cell 2;have z3:=zb.cell 3;have z4:=zb.cell 4;have z5:=zb.cell 5;have z6:=zb.cell 6;simp only [Φ,B,A] at z0 z1 z2 z3 z4 z5 z6;have zf:=zb.froz;clear zb) | skip;obtain ⟨gr,hgr⟩:∃gr,w1.heap.size=gr:=⟨_,rfl⟩))
 ·have BX:=l (E w1 #[o Y rf,o Y rt,o Y rb,o Y rlt,o Q rla,o Y rht,o Q rha] 139 gr hgr.symm);have MX:=l ((M0.out.trans' M_w1).alloc (H #[o Y rf,o Y rt,o Y rb,o Y rlt,o Q rla,o Y rht,o Q rha] 139));have HB2:=l ((HB0.out.mod M_w1 (ze)).alloc (H #[o Y rf,o Y rt,o Y rb,o Y rlt,o Q rla,o Y rht,o Q rha] 139));have hkr:gk < gr:=qp;change Exit.then _ _ _ _ (w1.alloc (H #[o Y rf,o Y rt,o Y rb,o Y rlt,o Q rla,o Y rht,o Q rha] 139));generalize w1.alloc (H #[o Y rf,o Y rt,o Y rb,o Y rlt,o Q rla,o Y rht,o Q rha] 139)=X at *;clear m_w1 M_w1 hB GT M0 hgr c1 s0 q1 q0 HB0 hgs hb hs hk;exact ZD
 ·have B2:=hB _ _ ((E w0 #[o Y 0,o Y 0,o Y 0,o Y 0,o Q 0,o Y 0,o Q 0] 139 gs hgs.symm).drew);have BX:=l (za4 B2 ⟨rf,rt,rb,⟨rlt,rla⟩,⟨rht,rha⟩⟩);have MX:=l (Xe (M0.out.trans' M_w1) gs ⟨rf,rt,rb,⟨rlt,rla⟩,⟨rht,rha⟩⟩ (qq));have HB2:=l ((HB0.out.mod M_w1 (ze)).mod (Xe (Mod.refl [gs] w1) gs ⟨rf,rt,rb,⟨rlt,rla⟩,⟨rht,rha⟩⟩ (fun _=>ze)) (xq));have hkr:gk < gs:=zc;change Exit.then _ _ _ _ (zw8 w1 gs ⟨rf,rt,rb,⟨rlt,rla⟩,⟨rht,rha⟩⟩);generalize zw8 w1 gs ⟨rf,rt,rb,⟨rlt,rla⟩,⟨rht,rha⟩⟩=X at *;clear m_w1 M_w1 hB GT M0 B2 c1 s0 q1 q0 HB0 hgs hb hs hk z0 z1 z2 z3 z4 z5 z6 zf;exact ZD
theorem ZB {p:Prop} (h:p:=by
 have BR2:=l (BX.out.mod m2 (qr));have HS2:=l (HV.out.mod M2.out (fun k hk=>qs));have HX2:=l hv2;obtain ⟨x0,x1,x2,x3,x4,x5,x6⟩:=BR2.out.cells7;have CV:=HS2.out.v;have hvX:=g X _ ((MX.out.cell (a:=⟨cv,0,O⟩) (g w _ HV.out.v) (ze)).trans HV.out.v);clear hv2 m2 HB2 hnm VX;go_wp2_with fail;refine (IH1.out w2 _ _ _ HS2.out HX2.out CLA.out (qu) (vv)).mono ?_;rintro e w3 ⟨rfl,m3,n3,hn3,hv3⟩;have M3:=l (M2.out.trans' m3);have BR3:=l (BR2.out.mod m3 (qr));have HS3:=l (HS2.out.mod m3 (fun k hk=>qs));have HX3:=l hv3;have HN3:=l hn3;obtain ⟨x0,x1,x2,x3,x4,x5,x6⟩:=BR3.out.cells7;have CV:=HS3.out.v;clear hv3 m3 hn3;go_wp2_with fail;refine (IH2.out w3 _ _ _ HS3.out HX3.out CLA.out.union (qu) (vC)).mono ?_;rintro e w4 ⟨rfl,m4,n4,hn4,hv4⟩;have M4:=l (M3.out.trans' m4);have HX4:=l hv4;have HN4:=l hn4;clear m4 hn4 hv4;go_wp2_with fail;refine bodyPost_ret (v:=ω #[]) (by simp [results,ρ,go_sem];try rfl) rfl ?_;refine ⟨rfl,M4.out,n4,vD,HX4.out.congr (fun j=>?_)⟩;rw [zJ9 HND.out HRP.out j];constructor
 ·rintro (((h | h) | h) | h)
  ·exact .inl h
  ·exact .inr (.inl h)
  ·exact .inr (.inr (.inl h))
  ·exact .inr (.inr (.inr h))
 ·rintro (h | h | h | h)
  ·exact .inl (.inl (.inl h))
  ·exact .inl (.inl (.inr h))
  ·exact .inl (.inr h)
  ·exact .inr h):p:=h
theorem zD5 {w:J} {b n:Nat} {L:List Rc} {room:Nat} {F:List Nat} {cs ci cv bm:Nat} (h:VSt w b n L room F cs ci cv bm) (hL:L.length≤1048576) (hbm:∀k∈cs::ci::cv::F,k≠bm) (a t:Nat) (ha32:a≤4294967295) (r:Rc) (hr:YO L a=M r) {nm:Nat} {V:Nat→Prop} (hV:IsVis w bm nm V) (hva:¬V a) (hnd:L.Nodup) {f:Nat} {x y:Tr} (hrep:Rep L f a (.node r.top r.bot r.lo.t x r.hi.t y)) {m:Nat} (hcl:Cl L f V m) (hm:tsz (.node r.top r.bot r.lo.t x r.hi.t y) < m) (hnm0:nm+tsz (.node r.top r.bot r.lo.t x r.hi.t y)≤1000000) (IH1:Hid (∀(w':J) (V':Nat→Prop) (m' nm':Nat),VSt w' b n L room F cs ci cv bm→IsVis w' bm nm' V'→Cl L f V' m'→tsz x < m'→nm'+tsz x≤1000000→Calls N 177 #[ξ #[o Y r.lo.t,o Q r.lo.a],U (M ⟨cs,0,O⟩),U (M ⟨ci,0,O⟩),U (M ⟨cv,0,O⟩)] w' (yI0 w' bm nm' L f x V'))) (IH2:Hid (∀(w':J) (V':Nat→Prop) (m' nm':Nat),VSt w' b n L room F cs ci cv bm→IsVis w' bm nm' V'→Cl L f V' m'→tsz y < m'→nm'+tsz y≤1000000→Calls N 177 #[ξ #[o Y r.hi.t,o Q r.hi.a],U (M ⟨cs,0,O⟩),U (M ⟨ci,0,O⟩),U (M ⟨cv,0,O⟩)] w' (yI0 w' bm nm' L f y V'))):
 Calls N 177 #[ξ #[o Y t,o Q a],U (M ⟨cs,0,O⟩),U (M ⟨ci,0,O⟩),U (M ⟨cv,0,O⟩)] w (yI0 w bm nm L f (.node r.top r.bot r.lo.t x r.hi.t y) V):=by
 obtain ⟨ba,bi,Fa,c0,c1,c2,hA⟩:=h.st.own;have hb:=g w _ c1;have hs:=g w _ h.s;have s0:=h.s;simp only at hb hs;obtain ⟨gk,hgk⟩:∃gk,w.heap.size=gk:=⟨_,rfl⟩;have GT:Hid (∀W,Mod [] w W→_):=fun W m=>zc1 (hA.mod m (ze)) hL a r hr
 have HV:=l h;have HBM:=l hbm;have gn1:¬b=gk:=zc;have gn2:¬gk=b:=zc;have gn3:¬cs=gk:=zc;have gn4:¬gk=cs:=zc;clear h hA c0 c2 hbm;have HVS:=l hV;have HVA:=l hva;have HVD:Hid (∀W:J,Mod [] w W→Mod [] w W):=fun W m=>m
 have CLA:=l (hcl.add hrep hm);have HND:=l hnd;have HRP:=l hrep;have BND:=l hnm0;have hnm:nm≤1000000:=zc;clear hV hr hcl hm hnm0 hnd hrep;obtain ⟨rf,rt,rb,⟨rlt,rla⟩,⟨rht,rha⟩⟩:=r;unfold rcv at GT;simp only at GT CLA HRP BND IH1 IH2 ⊢;go_in;go_wp2_with fail;have B0:=E w #[o Y t,o Q a] 44 gk hgk.symm;have M0:Hid (Mod [] w (w.alloc (H #[o Y t,o Q a] 44))):=(Mod.refl _ _).alloc _;have HGK:=l hgk;generalize w.alloc (H #[o Y t,o Q a] 44)=w0 at *;have HB0:=l B0;obtain ⟨q0,q1⟩:=B0.cells2;have hk:=B0.lt;have c1:=(M0.out.cell (a:=⟨b,1,O⟩) hb (ze)).trans c1;have s0:=(M0.out.cell (a:=⟨cs,0,O⟩) hs (ze)).trans s0;have hb:=Z hb M0.out.size;have hs:=Z hs M0.out.size;clear B0 hgk;obtain ⟨gs,hgs⟩:∃gs,w0.heap.size=gs:=⟨_,rfl⟩;have gs1:¬b=gs:=zc;have gs2:¬gs=b:=zc;have gs3:¬gk=gs:=zc;have gs4:¬gs=gk:=zc;have gs5:¬cs=gs:=zc;have gs6:¬gs=cs:=zc
 go_region_held3 (fun w'=>w'.cell? ⟨b,1,O⟩=M (U (M ⟨ba,0,O⟩))∧w'.cell? ⟨cs,0,O⟩=M (U (M ⟨b,0,O⟩))∧w'.cell? ⟨gk,1,O⟩=M (o Q a)) (go_keep) (first | (go_at_call 121;refine (GT.out _ (M0.out.trans' (show Mod [] w0 _ from zg))).mono ?_;rintro e' w1 ⟨rfl,m_w1⟩;have M_w1:=Mod.trans' (show Mod _ w0 _ from zg) m_w1;have c1:=(M_w1.cell (a:=⟨b,1,O⟩) hb (zh)).trans c1;have s0:=(M_w1.cell (a:=⟨cs,0,O⟩) hs (zh)).trans s0;have q1:=(M_w1.cell (a:=⟨gk,1,O⟩) hk (zh)).trans q1;have hb:=Z hb M_w1.size;have hs:=Z hs M_w1.size;have hk:=Z hk M_w1.size;have hB:=fun c ty (h:Blk _ gs c ty)=>h.mod m_w1 (ze);first | (have zb:=hB _ _ ((E w0 _ _ _ hgs.symm).drew);have z0:=zb.cell 0;have z1:=zb.cell 1;have z2:=zb.cell 2;have z3:=zb.cell 3;have z4:=zb.cell 4;have z5:=zb.cell 5;have z6:=zb.cell 6;simp only [Φ,B,A] at z0 z1 z2 z3 z4 z5 z6;have zf:=zb.froz;clear zb) | skip;obtain ⟨gr,hgr⟩:∃gr,w1.heap.size=gr:=⟨_,rfl⟩))
 ·have BX:=l (E w1 #[o Y rf,o Y rt,o Y rb,o Y rlt,o Q rla,o Y rht,o Q rha] 139 gr hgr.symm);have MX:=l ((M0.out.trans' M_w1).alloc (H #[o Y rf,o Y rt,o Y rb,o Y rlt,o Q rla,o Y rht,o Q rha] 139));have HB2:=l ((HB0.out.mod M_w1 (ze)).alloc (H #[o Y rf,o Y rt,o Y rb,o Y rlt,o Q rla,o Y rht,o Q rha] 139));have hkr:gk < gr:=qp;change Exit.then _ _ _ _ (w1.alloc (H #[o Y rf,o Y rt,o Y rb,o Y rlt,o Q rla,o Y rht,o Q rha] 139));generalize w1.alloc (H #[o Y rf,o Y rt,o Y rb,o Y rlt,o Q rla,o Y rht,o Q rha] 139)=X at *;clear m_w1 M_w1 hB GT M0 hgr c1 s0 q1 q0 HB0 hgs hb hs hk;have VX:=l (HVS.out.mod (HVD.out _ MX.out) (ze));have LK:=(VX.out.look a ha32).2 hva;have IC:=(MX.out.cell (a:=⟨ci,0,O⟩) (g w _ HV.out.i) (ze)).trans HV.out.i;obtain ⟨y0,y1⟩:=HB2.out.cells2;obtain ⟨w2,hrun,hv2,m2⟩:=VX.out.put a ha32 hnm;have hbX:=VX.out.lt;have M2:=l ((MX.out.mono (S':=[bm]) (ze)).trans' m2)
  have hkbm:gk≠bm:=by
   have:=(HVS.out.lt);have:=HGK.out;omega
  have hrbm:gr≠bm:=by
   have:=(HVS.out.lt);have:=HGK.out;omega
  exact ZB
 ·have B2:=hB _ _ ((E w0 #[o Y 0,o Y 0,o Y 0,o Y 0,o Q 0,o Y 0,o Q 0] 139 gs hgs.symm).drew);have BX:=l (za4 B2 ⟨rf,rt,rb,⟨rlt,rla⟩,⟨rht,rha⟩⟩);have MX:=l (Xe (M0.out.trans' M_w1) gs ⟨rf,rt,rb,⟨rlt,rla⟩,⟨rht,rha⟩⟩ (qq));have HB2:=l ((HB0.out.mod M_w1 (ze)).mod (Xe (Mod.refl [gs] w1) gs ⟨rf,rt,rb,⟨rlt,rla⟩,⟨rht,rha⟩⟩ (fun _=>ze)) (xq));have hkr:gk < gs:=zc;change Exit.then _ _ _ _ (zw8 w1 gs ⟨rf,rt,rb,⟨rlt,rla⟩,⟨rht,rha⟩⟩);generalize zw8 w1 gs ⟨rf,rt,rb,⟨rlt,rla⟩,⟨rht,rha⟩⟩=X at *;clear m_w1 M_w1 hB GT M0 B2 c1 s0 q1 q0 HB0 hgs hb hs hk z0 z1 z2 z3 z4 z5 z6 zf;have VX:=l (HVS.out.mod (HVD.out _ MX.out) (ze));have LK:=(VX.out.look a ha32).2 hva;have IC:=(MX.out.cell (a:=⟨ci,0,O⟩) (g w _ HV.out.i) (ze)).trans HV.out.i;obtain ⟨y0,y1⟩:=HB2.out.cells2;obtain ⟨w2,hrun,hv2,m2⟩:=VX.out.put a ha32 hnm;have hbX:=VX.out.lt;have M2:=l ((MX.out.mono (S':=[bm]) (ze)).trans' m2)
  have hkbm:gk≠bm:=by
   have:=(HVS.out.lt);have:=HGK.out;omega
  have hrbm:gs≠bm:=by
   have:=(HVS.out.lt);have:=HGK.out;omega
  exact ZB
theorem yw4 {b n:Nat} {L:List Rc} {room:Nat} {F:List Nat} {cs ci cv bm:Nat} (hL:L.length≤1048576) (hbm:∀k∈cs::ci::cv::F,k≠bm) (hnd:L.Nodup) {f:Nat} (T:Tr):∀(w:J) (V:Nat→Prop) (m nm t a:Nat),VSt w b n L room F cs ci cv bm→IsVis w bm nm V→Rep L f a T→Cl L f V m→tsz T < m→nm+tsz T≤1000000→
 Calls N 177 #[ξ #[o Y t,o Q a],U (M ⟨cs,0,O⟩),U (M ⟨ci,0,O⟩),U (M ⟨cv,0,O⟩)] w (yI0 w bm nm L f T V):=by
 induction T with
 | leaf bl=>
  intro w V m nm t a hS hV hR hC hm hn;have ha:=hR.invl;refine zL5 hS hL hbm a t (by rw [ha];split<;>omega) _ (fun w' mm=>?_);exact ⟨rfl,mm.mono (ze),nm,zc,(hV.mod mm (ze)).congr (fun j=>⟨.inl,fun h=>h.elim (fun h=>h) (fun h=>absurd h (zL3 j))⟩)⟩
 | node tp bt tl x th y ihx ihy=>
  intro w V m nm t a hS hV hR hC hm hn;have ha:=hR.ge
  have ha32:a≤4294967295:=by
   rcases ha with ⟨_,_,h⟩ | ⟨_,h⟩<;>omega
  by_cases hva:V a
  ·obtain ⟨r,hr,_⟩:=hR.inv;refine zM5 hS hL hbm a t ha32 r hr hV hva _ (fun w' mm=>?_);exact ⟨rfl,mm.mono (ze),nm,zc,(hV.mod mm (ze)).congr (fun j=>Cl.skip hC hR hva hm j)⟩
  ·obtain ⟨r,hr,hf,rfl,rfl,rfl,rfl,hx,hy⟩:=hR.inv;exact zD5 hS hL hbm a t ha32 r hr hV hva hnd hR hC hm hn (fun w' V' m' nm' a1 a2 a3 a4 a5=>ihx w' V' m' nm' _ _ a1 a2 hx a3 a4 a5) (fun w' V' m' nm' a1 a2 a3 a4 a5=>ihy w' V' m' nm' _ _ a1 a2 hy a3 a4 a5)
open Go.RowKit
def zW6 (v:I):Option (DataW I × List MemPlace):=M (.held v,[])
theorem yg5 {P:Program} {k:Ξ} {R:I→Option (DataW I × List MemPlace)} {b n:Nat} {D:DataW I} {S:List Nat} {w w':J} (h:w.ownsMap P k R b n D) (m:Mod S w w') (hn:b∉S):w'.ownsMap P k R b n D:=by
 exact ZE
def IsMp (w:J) (k:Ξ) (bm n:Nat) (G:Lit→Option I):Prop:=
 ∃D:DataW I,w.ownsMap N k zW6 bm n D∧(∃es,D=.map es)∧(∀kl v,G kl=M v→Ψ D kl=true∧∀z,D.atKey kl z=.held v)∧∀kl,G kl=O→Ψ D kl=false
theorem IsMp.mod {S:List Nat} {w w':J} {k:Ξ} {bm n:Nat} {G:Lit→Option I} (h:IsMp w k bm n G) (m:Mod S w w') (hn:bm∉S):IsMp w' k bm n G:=by
 obtain ⟨D,h1,h2⟩:=h;exact ⟨D,yg5 h1 m hn,h2⟩
theorem IsMp.lt {w:J} {k:Ξ} {bm n:Nat} {G:Lit→Option I} (h:IsMp w k bm n G):bm < w.heap.size:=by
 obtain ⟨D,h1,h2⟩:=h;exact h1.lt
theorem IsMp.mono {w:J} {k:Ξ} {bm n n':Nat} {G:Lit→Option I} (h:IsMp w k bm n G) (hn:n≤n'):IsMp w k bm n' G:=by
 obtain ⟨D,h1,h2⟩:=h;exact ⟨D,h1.mono hn,h2⟩
theorem IsMp.congr {w:J} {k:Ξ} {bm n:Nat} {G G':Lit→Option I} (h:IsMp w k bm n G) (e:∀j,G j=G' j):IsMp w k bm n G':=by
 obtain rfl:G=G':=funext e;exact h
theorem IsMp.made (w:J) (k:Ξ) (bm:Nat) (hb:bm=w.heap.size):IsMp (w.alloc (.map #[] 0)) k bm 0 (fun _=>O):=by
 subst hb;exact ⟨.map [],ψ _ _ _ _,⟨_,rfl⟩,fun k v h=>by simp at h,fun k h=>by simp [Ψ]⟩
def yE4 (c:Bool) (z:I):Option I→I
 | some v=>if c then ω #[v,.bool true] else v
 | none=>if c then ω #[z,.bool false] else z
theorem IsMp.look {w:J} {k:Ξ} {bm n:Nat} {G:Lit→Option I} (h:IsMp w k bm n G) (K:π N k) {t e:Ξ} (ht:Tryz.prog.underlying t=M (.map k e)) {z:I} (hz:(zeroValue e).run N w=.ok z w)
 {key:I} {kl:Lit} (hkey:keyOf N k key=M kl) (c:Bool):(Instr.lookup t (.map (M bm)) key c).run N w=.ok (yE4 c z (G kl)) w:=by
 obtain ⟨D,⟨es,clock,hb,F,hs,hD⟩,h2,h3,h4⟩:=h;rcases Maps.fit_look c K ht hz hb F hkey with ⟨hrun,_,hat⟩ | ⟨e0,y,_,_,hrun,hRv,hat,_⟩
 ·rw [←hD] at hat;have hno:=Maps.has_false_of_atKey hat;cases q:G kl with
  | none=>exact hrun
  | some v=>rw [(h3 kl v q).1] at hno;cases hno
 ·rw [←hD] at hat;have hyes:=Maps.has_true_of_atKey hat;cases q:G kl with
  | none=>rw [h4 kl q] at hyes;cases hyes
  | some v=>
   have h5:=(h3 kl v q).2 (.held v);rw [hat] at h5;unfold zW6 at hRv;obtain rfl:=Option.some.inj hRv;simp only [DataW.held.injEq] at h5;rw [←h5];exact hrun
def MpSet (G:Lit→Option I) (kl:Lit) (v:I) (G':Lit→Option I):Prop:=G' kl=M v∧∀j,j≠kl→G' j=G j
theorem MpSet.ex (G:Lit→Option I) (kl:Lit) (v:I):∃G',MpSet G kl v G':=
 ⟨fun j=>@ite _ (j=kl) (Ω _) (M v) (G j),@if_pos _ (Ω _) rfl _ _ _,fun j h=>@if_neg _ (Ω _) h _ _ _⟩
theorem IsMp.put {w:J} {k:Ξ} {bm n:Nat} {G:Lit→Option I} (h:IsMp w k bm n G) (K:π N k) {t e:Ξ} (ht:Tryz.prog.underlying t=M (.map k e)) {key:I} {kl:Lit} (hkey:keyOf N k key=M kl) (v:I) (hn:n≤1000000):
 ∃w' G',(Instr.mapUpdate t (.map (M bm)) key v).run N w=.ok () w'∧IsMp w' k bm (n+1) G'∧Mod [bm] w w'∧MpSet G kl v G':=by
 obtain ⟨G',hG⟩:=MpSet.ex G kl v;have mpSet_same:=hG.1;have mpSet_other:=hG.2;obtain ⟨D,h1,h2,h3,h4⟩:=h;have hkl:=K.key hkey;obtain ⟨w',hrun,hown,hg⟩:=h1.update K ht (zx) hkey (val:=v) (d:=.held v) (ps:=[]) rfl;refine ⟨w',G',hrun,⟨D.put kl (.held v),hown,?_,?_,?_⟩,⟨hg.os,hg.tape,hg.output,hg.size,fun k hk hn=>hg.block k hk (by simpa using hn)⟩,hG⟩
 ·obtain ⟨es,rfl⟩:=h2;exact ⟨_,rfl⟩
 ·intro j u hj;by_cases q:j=kl
  ·subst q;rw [mpSet_same] at hj;obtain rfl:=Option.some.inj hj;exact ⟨τ h2 hkl _,fun z=>Γ h2 hkl _ _⟩
  ·rw [mpSet_other _ q] at hj;rw [C q];exact ⟨(h3 j u hj).1,fun z=>by rw [Δ q];exact (h3 j u hj).2 z⟩
 ·intro j hj;by_cases q:j=kl
  ·subst q;rw [mpSet_same] at hj;cases hj
  ·rw [mpSet_other _ q] at hj;rw [C q];exact h4 j hj
end Go.Proofs.YtbnpoapmnkfhkaaGreatDoor
