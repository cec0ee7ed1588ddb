/- M28: Wm · Wo · Wp · Wq · Wr -/
import Derived.Test.YtnbjnnijifiaaaaGreatDoorM27
import Derived.Test.YtnbjnnijifiaaaaGreatDoorM11
import Derived.Maps.OwnSet
import Derived.Deep.CutRange
import Derived.Deep.RegionHeld3
import Derived.Deep.RegionLaw
set_option maxRecDepth 100000
set_option maxHeartbeats 8000000
set_option linter.unusedVariables false
set_option linter.unusedSimpArgs false
namespace Go.Proofs.YtnbjnnijifiaaaaGreatDoor
open Go.RowKit
theorem zeroU64 (w:World):(zeroValue 23).run Tryz.prog w=.ok (.int .u64 0) w:=by kernel_rfl
theorem wfU64 {a:Nat} (h:a≤1000000):(Lit.int .u64 (a:Int)).wf=true:=by
 have e:IntKind.u64.min=0:=rfl
 have e2:IntKind.u64.max=18446744073709551615:=rfl
 simp [Lit.wf,e,e2];omega
def IsNo (w:World) (bm:Nat) (L:List Rc) (f:Nat) (no:List Tr):Prop:=
 ∃D:DataW Unit,w.ownsMap Tryz.prog 37 (plainElem Tryz.prog 23) bm no.length D∧Maps.size D=no.length∧
  (∀(id:Nat) (T:Tr),Rep L f id T→(T∈no↔Maps.has D (.int .u32 id)=true))∧
  (∀(id:Nat) (T:Tr),Rep L f id T→T∈no→∀z,D.atKey (.int .u32 id) z=.lit (.int .u64 (no.idxOf T:Nat)))
theorem IsNo.mod {S:List Nat} {w w':World} {bm f:Nat} {L:List Rc} {no:List Tr} (h:IsNo w bm L f no) (m:Mod S w w') (hn:bm∉S):IsNo w' bm L f no:=by
 obtain ⟨D,h1,h2⟩:=h
 exact ⟨D,own_mod h1 m hn,h2⟩
theorem IsNo.lt {w:World} {bm f:Nat} {L:List Rc} {no:List Tr} (h:IsNo w bm L f no):bm < w.heap.size:=by
 obtain ⟨D,h1,h2⟩:=h
 exact h1.lt
theorem IsNo.made (w:World) (bm:Nat) (hb:bm=w.heap.size) (L:List Rc) (f:Nat):IsNo (w.alloc (.map #[] 0)) bm L f []:=by
 subst hb
 exact ⟨.map [],World.ownsMap_made _ _ _ _,rfl,fun id T _=>by simp [Maps.has],fun id T _ h=>by simp at h⟩
theorem IsNo.ne {w:World} {bm x f:Nat} {L:List Rc} {no:List Tr} {c:Array Value} {ty:TypeId} (h:IsNo w bm L f no) (hB:Blk w x c ty):x≠bm:=by
 rintro rfl
 obtain ⟨D,⟨es,clock,ho,-⟩,-⟩:=h
 unfold Blk at hB
 rw [hB] at ho
 cases ho
def metC (no:List Tr) (T:Tr):Nat:=if T∈no then no.idxOf T else 0
theorem IsNo.met {w:World} {bm f:Nat} {L:List Rc} {no:List Tr} (h:IsNo w bm L f no) {id:Nat} {T:Tr} (hr:Rep L f id T) (hid:id≤4294967295):
 (Instr.lookup 152 (.map (some bm)) (.int .u32 id) true).run Tryz.prog w=.ok (.tuple #[.int .u64 (metC no T:Nat),.bool (decide (T∈no))]) w:=by
 obtain ⟨D,h1,h2,h3,h4⟩:=h
 obtain ⟨v,ps,hrun,hv⟩:=h1.look_ok keyU32 Tryz.underlying152 (zeroU64 w) (plainElem_int Tryz.underlying23 (a:=0) rfl) (Maps.keyOf_int_mk Tryz.underlying37 (wfU32 hid))
 obtain ⟨c,rfl,hz,-⟩:=plainElem_int_inv Tryz.underlying23 hv
 have hat:D.atKey (.int .u32 (id:Int)) (.lit (.int .u64 0))=.lit (.int .u64 c):=congrArg Prod.fst hz
 have this:=h3 id T hr
 by_cases q:T∈no
 ·rw [h4 id T hr q] at hat
  cases hat
  have e2:metC no T=no.idxOf T:=by unfold metC;rw [if_pos q]
  rw [hrun,decide_eq_true q,this.1 q,e2]
 ·have hh:Maps.has D (.int .u32 (id:Int))=false:=by
   cases hh:Maps.has D (.int .u32 (id:Int))
   ·rfl
   ·exact absurd (this.2 hh) q
  rw [Maps.atKey_of_not_has hh] at hat
  cases hat
  have e2:metC no T=0:=by unfold metC;rw [if_neg q]
  rw [hrun,decide_eq_false q,hh,e2]
  rfl
theorem IsNo.at_ {w:World} {bm f:Nat} {L:List Rc} {no:List Tr} (h:IsNo w bm L f no) {id:Nat} {T:Tr} (hr:Rep L f id T) (hid:id≤4294967295) (hT:T∈no):
 (Instr.lookup 152 (.map (some bm)) (.int .u32 id) false).run Tryz.prog w=.ok (.int .u64 (no.idxOf T:Nat)) w:=by
 obtain ⟨D,h1,h2,h3,h4⟩:=h
 obtain ⟨c,hrun,hat,hw⟩:=h1.lookup_int keyU32 Tryz.underlying152 Tryz.underlying23 (zeroU64 w) (Maps.keyOf_int_mk Tryz.underlying37 (wfU32 hid))
 rw [h4 id T hr hT] at hat
 cases hat
 exact hrun
theorem IsNo.len {w:World} {bm f:Nat} {L:List Rc} {no:List Tr} (h:IsNo w bm L f no) (ty:TypeId):
 (Builtin.len_ #[152] ty #[.map (some bm)]).run Tryz.prog w=.ok (.int .i64 no.length) w:=by
 obtain ⟨D,h1,h2,h3,h4⟩:=h
 rw [h1.len Tryz.underlying152 ty,h2]
theorem IsNo.put {w:World} {bm f:Nat} {L:List Rc} {no:List Tr} (h:IsNo w bm L f no) (hnd:L.Nodup) {id:Nat} {T:Tr} (hr:Rep L f id T) (hid:id≤4294967295) (hl:no.length≤100000) (hT:T∉no):
 ∃w',(Instr.mapUpdate 152 (.map (some bm)) (.int .u32 id) (.int .u64 no.length)).run Tryz.prog w=.ok () w'∧IsNo w' bm L f (no++[T])∧Mod [bm] w w':=by
 obtain ⟨D,h1,h2,h3,h4⟩:=h
 have hk:=Maps.keyOf_int_mk Tryz.underlying37 (wfU32 hid)
 have hkl:=keyU32.key hk
 have hh0:Maps.has D (.int .u32 (id:Int))=false:=by
  cases hh:Maps.has D (.int .u32 (id:Int))
  ·rfl
  ·exact absurd ((h3 id T hr).2 hh) hT
 obtain ⟨w',hrun,hown,hg⟩:=h1.update keyU32 Tryz.underlying152 (by unfold maxLen;omega) hk (plainElem_int Tryz.underlying23 (a:=(no.length:Nat)) (wfU64 (by omega)))
 have other:∀(j:Nat) (U:Tr),Rep L f j U→j≠id→(Lit.int .u32 (j:Int))≠ .int .u32 (id:Int):=fun j U _ hj e=>by simp at e;omega
 refine ⟨w',hrun,⟨D.put (.int .u32 id) (.lit (.int .u64 (no.length:Nat))),by rw [List.length_append];exact hown,?_,?_,?_⟩,⟨hg.os,hg.tape,hg.output,hg.size,fun k hk hn=>hg.block k hk (by simpa using hn)⟩⟩
 ·rw [Maps.size_put (h1.tidy keyU32),hh0,h2];simp
 ·intro j U hU
  by_cases q:j=id
  ·subst q
   rw [Maps.has_put_same h1.isMap hkl,←hr.fun_ hU];simp
  ·rw [Maps.has_put_other (other j U hU q),←h3 j U hU]
   have:U≠T:=fun e=>q (Rep.inj hnd (by rw [e] at hU;exact hU) hr)
   simp [this]
 ·intro j U hU hm z
  by_cases q:j=id
  ·subst q
   have e:T=U:=hr.fun_ hU
   subst e
   rw [Maps.atKey_put_same h1.isMap hkl,List.idxOf_append,if_neg hT]
   simp
  ·have hne:U≠T:=fun e=>q (Rep.inj hnd (by rw [e] at hU;exact hU) hr)
   have hm':U∈no:=by simpa [hne] using hm
   rw [Maps.atKey_put_other (other j U hU q),h4 j U hU hm' z,List.idxOf_append,if_pos hm']
open Go.RowKit
theorem PenW.then {w w1 w2:World} {bp f:Nat} {sv mv:Value} {bs b1 b2 Fb Fb1:List Nat} (m1:Mod (bp::Fb) w w1) (o1:∀k∈Fb1,k∈Fb∨w.heap.size≤k) (h:PenW w1 w2 bp sv f mv (bs++b1) b2 Fb1):PenW w w2 bp sv f mv bs (b1++b2) Fb:=by
 obtain ⟨Fb2,p2,m2,o2⟩:=h
 refine ⟨Fb2,by rw [←List.append_assoc];exact p2,m1.trans m2 (fun i hi h=>?_),fun k hk=>?_⟩
 ·rcases List.mem_cons.1 h with rfl | h
  ·simp
  ·rcases o1 i h with q | q
   ·simp [q]
   ·omega
 ·rcases o2 k hk with q | q
  ·exact o1 k q
  ·exact .inr (by have:=m1.size;omega)
theorem numT_leaf {L:List Rc} {f a:Nat} {T:Tr} (no:List Tr) (h:Rep L f a T) (ha:a < 2):numT no T=a:=by
 cases h with
 | zero=>rfl
 | one=>rfl
 | node k _ _ _=>have:=recAt_lt k;omega
theorem numT_node {L:List Rc} {f a:Nat} {T:Tr} (no:List Tr) (h:Rep L f a T) (ha:2≤a):numT no T=no.idxOf T+2∧¬∃c,T=.leaf c:=by
 cases h with
 | zero=>omega
 | one=>omega
 | node k _ _ _=>exact ⟨rfl,by rintro ⟨c,e⟩;cases e⟩
theorem leaf_zero {L:List Rc} {f a:Nat} {T:Tr} (h:Rep L f a T):a=0↔T=.leaf false:=by
 constructor
 ·intro e;subst e;exact (Rep.zero.fun_ h).symm
 ·intro e;subst e;simpa using h.invl
theorem penEdge_c {w:World} {bp bm f t a:Nat} {sv:Value} {L:List Rc} {no:List Tr} {bs Fb:List Nat} {T:Tr} (h:PenB w bp sv f (.map (some bm)) bs Fb) (hN:IsNo w bm L f no) (hb1:bm∉Fb) (hr:Rep L f a T) (hT:(∃c,T=.leaf c)∨T∈no)
 (ht:t < 128) (ha:a≤4294967295) (hno:no.length≤120) (hbs:bs.length≤90000) (hf:f≤5):
 Calls Tryz.prog 73 #[.pointer (some ⟨bp,0,none⟩),.agg #[.int .u8 t,.int .u32 a]] w fun e w'=>e=.returned (.tuple #[])∧PenW w w' bp sv f (.map (some bm)) bs (edgeB f no t T) Fb:=by
 have NUM:Hid (∀(W:World) (n:Nat) (bs' Fb':List Nat),PenB W bp sv f (.map (some bm)) bs' Fb'→n < 128→bs'.length≤100000→_):=fun W n bs' Fb' h1 h2 h3=>penNum_c (w:=W) h1 h2 h3
 obtain ⟨gk,hgk⟩:∃gk,w.heap.size=gk:=⟨_,rfl⟩
 have hnT:numT no T < 128:=by
  rcases Nat.lt_or_ge a 2 with q | q
  ·rw [numT_leaf no hr q];omega
  ·obtain ⟨e1,e2⟩:=numT_node no hr q
   have hm:T∈no:=hT.resolve_left e2
   have:=List.idxOf_lt_length_of_mem hm
   rw [e1];omega
 have EB:Hid (edgeB f no t T=[numT no T]++(if f=5∧0 < a then [t] else [])):=by
  show _=_
  unfold edgeB
  have:=leaf_zero hr
  by_cases q:a=0
  ·rw [this.1 q];simp [q]
  ·have q2:T≠ .leaf false:=fun e=>q (this.2 e)
   have q3:0 < a:=by omega
   simp [q2,q3]
 have P0:=Lib.hid h
 have N0:=Lib.hid hN
 have hlt:=h.lt
 have hgp:gk∉bp::Fb:=fun h=>by have:=hlt _ h;omega
 have hmlt:=hN.lt
 have M0:Hid (Mod [] w (w.alloc (.cells #[.int .u8 t,.int .u32 a] 39))):=(Mod.refl _ _).alloc _
 have BE:=Lib.hid (Blk.new' w #[.int .u8 t,.int .u32 a] 39 gk hgk.symm)
 have hbe:=BE.out.lt
 obtain ⟨e0,e1⟩:=BE.out.cells2
 obtain ⟨vb,hB,-,-⟩:=P0.out.mod M0.out (by simp)
 have k3:=hB.cell 3
 simp only [List.getElem?_toArray,List.getElem?_cons_zero,List.getElem?_cons_succ] at k3
 obtain ⟨vb0,hB0,-,-⟩:=h
 have hbm:bp≠bm:=hN.ne hB0
 clear hB hB0 hN hlt
 by_cases ha2:a < 2
 ·have N1:Hid (numT no T=a):=numT_leaf no hr ha2
  clear hr hT
  have hnA:a < 128:=by omega
  have hdA:decide (a < 2)=true:=decide_eq_true ha2
  have ha2':(a:Int) < 2:=by omega
  go_enter Tryz.func73,Tryz.ntmps73
  go_wp2_with fail
  refine (NUM.out _ a bs Fb (P0.out.mod (show Mod [] w _ from by exact mods) (by simp)) hnA (by omega)).mono ?_
  rintro e w1 ⟨rfl,Fb1,p1,m1,o1⟩
  have M1:=Lib.hid (((show Mod [] w _ from by exact mods).mono (S':=bp::Fb) (by simp)).trans' m1)
  have O1:Hid (∀k∈Fb1,k∈Fb∨w.heap.size≤k):=fun k hk=>(o1 k hk).imp (fun h=>h) (fun h=>by simp at h;omega)
  have P1:=Lib.hid p1
  have BE1:=Lib.hid (Blk.mod (S:=bp::Fb) (w':=w1) (by exact BE.out) m1 hgp)
  obtain ⟨vb1,hB1,-,-⟩:=p1
  have c1:=hB1.cell 1
  simp only [List.getElem?_toArray,List.getElem?_cons_zero,List.getElem?_cons_succ] at c1
  clear e0 e1 k3 m1 o1 hB1 M0
  obtain ⟨e0,e1⟩:=BE1.out.cells2
  by_cases hf5:f=5
  ·have q1:((f:Int)==5)=true:=by rw [beq_iff_eq];omega
   by_cases ha0:0 < a
   ·have q2:decide (0 < a)=true:=decide_eq_true ha0
    have EE:Hid (edgeB f no t T=[a]++[t]):=by show _=_;rw [EB.out,N1.out,if_pos ⟨hf5,ha0⟩]
    clear hf5 ha0 EB
    go_wp2_with fail
    refine (NUM.out _ t _ _ P1.out ht (by simp;omega)).mono ?_
    rintro e w2 ⟨rfl,pw⟩
    have PW:=Lib.hid pw
    clear pw
    go_wp2_with fail
    refine bodyPost_end (v:=.tuple #[]) (by simp [results,Tryz.results73,go_sem];try rfl) rfl ?_
    refine ⟨rfl,?_⟩
    rw [EE.out]
    exact PenW.then M1.out O1.out PW.out
   ·have q2:decide (0 < a)=false:=decide_eq_false ha0
    have EE:Hid (edgeB f no t T=[a]):=by show _=_;rw [EB.out,N1.out,if_neg (fun h=>ha0 h.2)];rfl
    clear hf5 ha0 EB
    go_wp2_with fail
    refine bodyPost_end (v:=.tuple #[]) (by simp [results,Tryz.results73,go_sem];try rfl) rfl ?_
    refine ⟨rfl,?_⟩
    rw [EE.out]
    exact ⟨Fb1,P1.out,M1.out,O1.out⟩
  ·have q1:((f:Int)==5)=false:=by rw [beq_eq_false_iff_ne];omega
   have EE:Hid (edgeB f no t T=[a]):=by show _=_;rw [EB.out,N1.out,if_neg (fun h=>hf5 h.1)];rfl
   clear hf5 EB
   go_wp2_with fail
   refine bodyPost_end (v:=.tuple #[]) (by simp [results,Tryz.results73,go_sem];try rfl) rfl ?_
   refine ⟨rfl,?_⟩
   rw [EE.out]
   exact ⟨Fb1,P1.out,M1.out,O1.out⟩
 ·have hT2:T∈no:=hT.resolve_left (numT_node no hr (by omega)).2
  have N1:Hid (numT no T=no.idxOf T+2):=(numT_node no hr (by omega)).1
  have AT:Hid (∀W,Mod [] (w.alloc (.cells #[.int .u8 t,.int .u32 a] 39)) W→(Instr.lookup 152 (.map (some bm)) (.int .u32 a) false).run Tryz.prog W=.ok (.int .u64 (no.idxOf T:Nat)) W):=fun W m=>(N0.out.mod (M0.out.trans' m) (by simp)).at_ hr ha hT2
  obtain ⟨ix,hix⟩:∃ix,no.idxOf T=ix:=⟨_,rfl⟩
  rw [hix] at N1 AT
  clear hr hT hT2 hix
  have hnB:ix+2 < 128:=by rw [←N1.out];exact hnT
  have hdA:decide (a < 2)=false:=decide_eq_false ha2
  have ha2':¬(a:Int) < 2:=by omega
  have NX:Hid (∀W,Mod [] w W→Calls Tryz.prog 74 #[.pointer (some ⟨bp,0,none⟩),.int .u64 ((ix:Int)+2)] W fun e w'=>e=.returned (.tuple #[])∧PenW W w' bp sv f (.map (some bm)) bs [ix+2] Fb):=fun W m=>NUM.out W (ix+2) bs Fb (P0.out.mod m (by simp)) hnB (by omega)
  have hix':(ix:Int)+2 < 128:=by omega
  have AT1:=AT.out _ (show Mod [] (w.alloc (.cells #[.int .u8 t,.int .u32 a] 39)) (w.alloc (.cells #[.int .u8 t,.int .u32 a] 39)).drew from by exact mods)
  have WR:IntKind.u64.wrap ((ix:Int)+2)=(ix:Int)+2:=IntWalk.u64_in _ (by omega)
  go_enter Tryz.func73,Tryz.ntmps73
  go_wp2_with fail
  go_region_with (go_at_call 74;refine (NX.out _ (by exact mods)).mono ?_;rintro e' w1 ⟨rfl,Fb1,p1,m1,o1⟩)
  all_goals
   have M1:=Lib.hid (((show Mod [] w _ from by exact mods).mono (S':=bp::Fb) (by simp)).trans' m1)
   have O1:Hid (∀k∈Fb1,k∈Fb∨w.heap.size≤k):=fun k hk=>(o1 k hk).imp (fun h=>h) (fun h=>by simp at h;omega)
   have P1:=Lib.hid p1
   have BE1:=Lib.hid (Blk.mod (S:=bp::Fb) (w':=w1) (by exact BE.out) m1 hgp)
   obtain ⟨vb1,hB1,-,-⟩:=p1
   have c1:=hB1.cell 1
   simp only [List.getElem?_toArray,List.getElem?_cons_zero,List.getElem?_cons_succ] at c1
   clear e0 e1 k3 m1 o1 hB1 M0 AT1
   obtain ⟨e0,e1⟩:=BE1.out.cells2
   by_cases hf5:f=5
   ·have q1:((f:Int)==5)=true:=by rw [beq_iff_eq];omega
    by_cases ha0:0 < a
    ·have q2:decide (0 < a)=true:=decide_eq_true ha0
     have EE:Hid (edgeB f no t T=[ix+2]++[t]):=by show _=_;rw [EB.out,N1.out,if_pos ⟨hf5,ha0⟩]
     clear hf5 ha0 EB
     go_wp2_with fail
     refine (NUM.out _ t _ _ P1.out ht (by simp;omega)).mono ?_
     rintro e w2 ⟨rfl,pw⟩
     have PW:=Lib.hid pw
     clear pw
     go_wp2_with fail
     refine bodyPost_end (v:=.tuple #[]) (by simp [results,Tryz.results73,go_sem];try rfl) rfl ?_
     refine ⟨rfl,?_⟩
     rw [EE.out]
     exact PenW.then M1.out O1.out PW.out
    ·have q2:decide (0 < a)=false:=decide_eq_false ha0
     have EE:Hid (edgeB f no t T=[ix+2]):=by show _=_;rw [EB.out,N1.out,if_neg (fun h=>ha0 h.2)];rfl
     clear hf5 ha0 EB
     go_wp2_with fail
     refine bodyPost_end (v:=.tuple #[]) (by simp [results,Tryz.results73,go_sem];try rfl) rfl ?_
     refine ⟨rfl,?_⟩
     rw [EE.out]
     exact ⟨Fb1,P1.out,M1.out,O1.out⟩
   ·have q1:((f:Int)==5)=false:=by rw [beq_eq_false_iff_ne];omega
    have EE:Hid (edgeB f no t T=[ix+2]):=by show _=_;rw [EB.out,N1.out,if_neg (fun h=>hf5 h.1)];rfl
    clear hf5 EB
    go_wp2_with fail
    refine bodyPost_end (v:=.tuple #[]) (by simp [results,Tryz.results73,go_sem];try rfl) rfl ?_
    refine ⟨rfl,?_⟩
    rw [EE.out]
    exact ⟨Fb1,P1.out,M1.out,O1.out⟩
open Go.RowKit
def NodS (w0 W:World) (bp bm b f n room:Nat) (L:List Rc) (F Fb0:List Nat) (no:List Tr) (bs:List Nat) (gs:List (Nat × Array Value × TypeId)):Prop:=
 ∃Fb,PenB W bp (.pointer (some ⟨b,0,none⟩)) f (.map (some bm)) bs Fb∧IsNo W bm L f no∧(∀x∈gs,Blk W x.1 x.2.1 x.2.2∧x.1∉bm::bp::Fb)∧bm∉bp::Fb∧Mod (bm::bp::Fb0) w0 W∧
  (∀k∈Fb,k∈Fb0∨w0.heap.size≤k)∧IsSt W b n L room F∧(∀k∈F,k∉bm::bp::Fb)
section
variable {w0 W:World} {bp bm b f n room:Nat} {L:List Rc} {F Fb0:List Nat} {no:List Tr} {bs:List Nat} {gs:List (Nat × Array Value × TypeId)}
theorem NodS.blk (h:NodS w0 W bp bm b f n room L F Fb0 no bs gs) {x:Nat × Array Value × TypeId} (hx:x∈gs):Blk W x.1 x.2.1 x.2.2:=by
 obtain ⟨Fb,h1,h2,h3,-⟩:=h
 exact (h3 x hx).1
theorem NodS.pen (h:NodS w0 W bp bm b f n room L F Fb0 no bs gs):∃vb,Blk W bp #[.pointer (some ⟨b,0,none⟩),.int .u8 f,vb,.map (some bm)] 154:=by
 obtain ⟨Fb,⟨vb,h,-⟩,-⟩:=h
 exact ⟨vb,h⟩
theorem NodS.st (h:NodS w0 W bp bm b f n room L F Fb0 no bs gs):IsSt W b n L room F:=by
 obtain ⟨Fb,h1,h2,h3,h4,h5,h6,h7,h8⟩:=h;exact h7
theorem NodS.is (h:NodS w0 W bp bm b f n room L F Fb0 no bs gs):IsNo W bm L f no:=by
 obtain ⟨Fb,h1,h2,-⟩:=h;exact h2
theorem NodS.mod (h:NodS w0 W bp bm b f n room L F Fb0 no bs gs) {W':World} (m:Mod [] W W'):NodS w0 W' bp bm b f n room L F Fb0 no bs gs:=by
 obtain ⟨Fb,h1,h2,h3,h4,h5,h6,h7,h8⟩:=h
 exact ⟨Fb,h1.mod m (by simp),h2.mod m (by simp),fun x hx=>⟨(h3 x hx).1.mod m (by simp),(h3 x hx).2⟩,h4,h5.trans' (m.mono (by simp)),h6,h7.mod m (by simp),h8⟩
theorem NodS.add (h:NodS w0 W bp bm b f n room L F Fb0 no bs gs) {W':World} (m:Mod [] W W') {g:Nat} {c:Array Value} {ty:TypeId} (hB:Blk W' g c ty) (hg:W.heap.size≤g):NodS w0 W' bp bm b f n room L F Fb0 no bs ((g,c,ty)::gs):=by
 obtain ⟨Fb,h1,h2,h3,h4,h5,h6,h7,h8⟩:=h
 refine ⟨Fb,h1.mod m (by simp),h2.mod m (by simp),fun x hx=>?_,h4,h5.trans' (m.mono (by simp)),h6,h7.mod m (by simp),h8⟩
 rcases List.mem_cons.1 hx with rfl | hx
 ·refine ⟨hB,fun h=>?_⟩
  rcases List.mem_cons.1 h with h | h
  ·have:=h2.lt;simp only at h;omega
  ·have:=h1.lt _ h;simp only at this;omega
 ·exact ⟨(h3 x hx).1.mod m (by simp),(h3 x hx).2⟩
theorem NodS.wrote {Fb:List Nat} {W':World} {b2:List Nat} (h1:PenB W bp (.pointer (some ⟨b,0,none⟩)) f (.map (some bm)) bs Fb) (h2:IsNo W bm L f no) (h3:∀x∈gs,Blk W x.1 x.2.1 x.2.2∧x.1∉bm::bp::Fb) (h4:bm∉bp::Fb) (h5:Mod (bm::bp::Fb0) w0 W)
 (h6:∀k∈Fb,k∈Fb0∨w0.heap.size≤k) (h7:IsSt W b n L room F) (h8:∀k∈F,k∉bm::bp::Fb) (pw:PenW W W' bp (.pointer (some ⟨b,0,none⟩)) f (.map (some bm)) bs b2 Fb):NodS w0 W' bp bm b f n room L F Fb0 no (bs++b2) gs:=by
 obtain ⟨Fb',p,m,o⟩:=pw
 have out:∀k,k < W.heap.size→k∉bp::Fb→k∉bp::Fb':=fun k hk hn h=>by
  rcases List.mem_cons.1 h with rfl | h
  ·exact hn (by simp)
  ·rcases o k h with q | q
   ·exact hn (by simp [q])
   ·omega
 refine ⟨Fb',p,h2.mod m h4,fun x hx=>?_,out _ h2.lt h4,h5.trans m (fun i hi h=>?_),fun k hk=>?_,h7.mod m (fun k hk h=>h8 k hk (by simp at h ⊢;simp [h])),fun k hk h=>?_⟩
 ·have hx2:=(h3 x hx).2
  have hx3:x.1∉bp::Fb:=fun h=>hx2 (List.mem_cons_of_mem _ h)
  refine ⟨(h3 x hx).1.mod m hx3,fun h=>?_⟩
  rcases List.mem_cons.1 h with h | h
  ·exact hx2 (by simp [h])
  ·exact out _ (h3 x hx).1.lt hx3 h
 ·rcases List.mem_cons.1 h with rfl | h
  ·simp
  ·rcases h6 i h with q | q
   ·simp [q]
   ·omega
 ·rcases o k hk with q | q
  ·exact h6 k q
  ·exact .inr (by have:=h5.size;omega)
 ·rcases List.mem_cons.1 h with rfl | h
  ·exact h8 k hk (by simp)
  ·exact out k (h7.lt k hk) (fun h=>h8 k hk (List.mem_cons_of_mem _ h)) h
theorem NodS.num (h:NodS w0 W bp bm b f n room L F Fb0 no bs gs) {k:Nat} (hk:k < 128) (hb:bs.length≤100000):
 Calls Tryz.prog 74 #[.pointer (some ⟨bp,0,none⟩),.int .u64 k] W fun e w'=>e=.returned (.tuple #[])∧NodS w0 w' bp bm b f n room L F Fb0 no (bs++[k]) gs:=by
 obtain ⟨Fb,h1,h2,h3,h4,h5,h6,h7,h8⟩:=h
 refine (penNum_c h1 hk hb).mono ?_
 rintro e w' ⟨rfl,pw⟩
 exact ⟨rfl,NodS.wrote h1 h2 h3 h4 h5 h6 h7 h8 pw⟩
theorem NodS.edge (h:NodS w0 W bp bm b f n room L F Fb0 no bs gs) {a t:Nat} {T:Tr} (hr:Rep L f a T) (hT:(∃c,T=.leaf c)∨T∈no) (ht:t < 128) (ha:a≤4294967295) (hno:no.length≤120) (hbs:bs.length≤90000) (hf:f≤5):
 Calls Tryz.prog 73 #[.pointer (some ⟨bp,0,none⟩),.agg #[.int .u8 t,.int .u32 a]] W fun e w'=>e=.returned (.tuple #[])∧NodS w0 w' bp bm b f n room L F Fb0 no (bs++edgeB f no t T) gs:=by
 obtain ⟨Fb,h1,h2,h3,h4,h5,h6,h7,h8⟩:=h
 refine (penEdge_c h1 h2 (fun h=>h4 (by simp [h])) hr hT ht ha hno hbs hf).mono ?_
 rintro e w' ⟨rfl,pw⟩
 exact ⟨rfl,NodS.wrote h1 h2 h3 h4 h5 h6 h7 h8 pw⟩
theorem NodS.put (h:NodS w0 W bp bm b f n room L F Fb0 no bs gs) {W':World} {no2:List Tr} (m:Mod [bm] W W') (hN:IsNo W' bm L f no2):NodS w0 W' bp bm b f n room L F Fb0 no2 bs gs:=by
 obtain ⟨Fb,h1,h2,h3,h4,h5,h6,h7,h8⟩:=h
 have hm:∀k,k∉bm::bp::Fb→k∉[bm]:=fun k hk h=>hk (by simp at h;simp [h])
 refine ⟨Fb,h1.mod m (fun k hk h=>h4 (by simp at h;subst h;exact hk)),hN,fun x hx=>⟨(h3 x hx).1.mod m (hm _ (h3 x hx).2),(h3 x hx).2⟩,h4,h5.trans m (by intro i _ h;simp at h;simp [h]),h6,h7.mod m (fun k hk=>hm k (h8 k hk)),h8⟩
end
def NodC (bp bm b f n room:Nat) (L:List Rc) (F:List Nat) (T:Tr):Prop:=
 ∀(w0 W:World) (Fb0:List Nat) (no:List Tr) (bs:List Nat) (gs:List (Nat × Array Value × TypeId)) (t a:Nat),NodS w0 W bp bm b f n room L F Fb0 no bs gs→Rep L f a T→Clo no→no.Nodup→(∀c,Tr.leaf c∉no)→no.length+tsz T≤120→bs.length+10 *tsz T≤50000→
  Calls Tryz.prog 72 #[.pointer (some ⟨bp,0,none⟩),.agg #[.int .u8 t,.int .u32 a]] W fun e w'=>e=.returned (.tuple #[])∧NodS w0 w' bp bm b f n room L F Fb0 (wrN f T no).1 (bs++(wrN f T no).2) gs
theorem wrN_len (f:Nat) (T:Tr):∀no,(wrN f T no).1.length≤no.length+tsz T∧(wrN f T no).2.length≤10 *tsz T:=by
 induction T with
 | leaf b=>intro no;simp [wrN,tsz]
 | node t b tl x th y ihx ihy=>
  intro no
  rw [wrN]
  by_cases h:Tr.node t b tl x th y∈no
  ·rw [if_pos h];simp
  ·rw [if_neg h]
   have h1:=ihx no
   have h2:=ihy (wrN f x no).1
   have h3:∀no',(recB f no' (.node t b tl x th y)).length≤6:=fun no'=>by
    unfold recB edgeB
    simp only [List.length_append]
    repeat' split
    all_goals simp
   have h4:=h3 ((wrN f y (wrN f x no).1).1++[.node t b tl x th y])
   simp only [List.length_append,tsz,List.length_cons,List.length_nil] at *
   omega
open Go.RowKit
theorem NodS.drop {w0 W:World} {bp bm b f n room:Nat} {L:List Rc} {F Fb0:List Nat} {no:List Tr} {bs:List Nat} {gs:List (Nat × Array Value × TypeId)} {x:Nat × Array Value × TypeId} (h:NodS w0 W bp bm b f n room L F Fb0 no bs (x::gs)):NodS w0 W bp bm b f n room L F Fb0 no bs gs:=by
 obtain ⟨Fb,h1,h2,h3,r⟩:=h
 exact ⟨Fb,h1,h2,fun y hy=>h3 y (by simp [hy]),r⟩
theorem wr_fresh {f t b tl th:Nat} {x y:Tr} {no:List Tr} (hc:Clo no) (hn:no.Nodup) (h:Tr.node t b tl x th y∉no):Tr.node t b tl x th y∉(wrN f y (wrN f x no).1).1:=by
 obtain ⟨⟨m1,e1,b1,s1⟩,c1,n1,h1⟩:=wrN_spec f x no hc hn
 obtain ⟨⟨m2,e2,b2,s2⟩,c2,n2,h2⟩:=wrN_spec f y _ c1 n1
 intro hm
 rw [e2,e1] at hm
 rcases List.mem_append.1 hm with hm | hm
 ·rcases List.mem_append.1 hm with hm | hm
  ·exact h hm
  ·have:=nds_size (s1 _ hm);simp [tsz] at this;omega
 ·have:=nds_size (s2 _ hm);simp [tsz] at this;omega
theorem leads_tag {L:List Rc} {f l n:Nat} {e:Ed} (h:LeadsP L f e l n) (hn:n≤16):e.t≤16:=by
 have hp:=h.plain
 by_cases h0:f≠5∨e.a=0
 ·have:=hp.1 h0;omega
 ·have:=hp.2 (by omega) (by omega);omega
theorem rep_lt {L:List Rc} {f a:Nat} {T:Tr} (h:Rep L f a T) (hL:L.length≤100000):a≤4294967295:=by
 rcases h.ge with ⟨_,_,h⟩ | ⟨_,h⟩<;>omega
section
variable {w0 W:World} {bp bm b f n room:Nat} {L:List Rc} {F Fb0:List Nat} {no:List Tr} {bs:List Nat} {gs:List (Nat × Array Value × TypeId)}
theorem NodS.hd {g:Nat} {c:Array Value} {ty:TypeId} (h:NodS w0 W bp bm b f n room L F Fb0 no bs ((g,c,ty)::gs)):Blk W g c ty:=h.blk (x:=(g,c,ty)) (by simp)
theorem NodS.hd2 {g g':Nat} {c c':Array Value} {ty ty':TypeId} (h:NodS w0 W bp bm b f n room L F Fb0 no bs ((g',c',ty')::(g,c,ty)::gs)):Blk W g c ty:=h.blk (x:=(g,c,ty)) (by simp)
end
theorem edgeB_len (f:Nat) (no:List Tr) (t:Nat) (T:Tr):(edgeB f no t T).length≤2:=by
 unfold edgeB
 split<;>simp
def HdP (w0 wa:World) (bp bm b f n room:Nat) (L:List Rc) (F Fb0:List Nat) (no:List Tr) (bs:List Nat) (gs:List (Nat × Array Value × TypeId)) (g gk t a:Nat) (r:Rc):Prop:=
 NodS w0 wa bp bm b f n room L F Fb0 no bs ((g,#[.int .u8 r.f,.int .u8 r.top,.int .u8 r.bot,.int .u8 r.lo.t,.int .u32 r.lo.a,.int .u8 r.hi.t,.int .u32 r.hi.a],134)::(gk,#[.int .u8 t,.int .u32 a],39)::gs)
theorem nodes_leaf {bp bm b f n room:Nat} {L:List Rc} {F:List Nat} (hL:L.length≤100000) (c:Bool):NodC bp bm b f n room L F (.leaf c):=by
 intro w0 W Fb0 no bs gs t a h hr hc hn hlf hno hbs
 have ha:a≤4294967295:=rep_lt hr hL
 have ha2:a < 2:=by have:=hr.invl;cases c<;>simp at this<;>omega
 have GT:Hid (∀W',Mod [] W W'→Calls Tryz.prog 85 #[.pointer (some ⟨b,0,none⟩),.int .u32 a] W' fun e w'=>e=.returned (.tuple #[.agg #[.int .u8 0,.int .u8 0,.int .u8 0,.int .u8 0,.int .u32 0,.int .u8 0,.int .u32 0],.bool false])∧Mod [] W' w'):=fun W' m=>stGet_none (h.st.mod m (by simp)) (by omega) a ha (by unfold recAt;rw [if_neg (by omega)])
 have MT:Hid (∀W',Mod [] W W'→(Instr.lookup 152 (.map (some bm)) (.int .u32 a) true).run Tryz.prog W'=.ok (.tuple #[.int .u64 (metC no (.leaf c):Nat),.bool false]) W'):=fun W' m=>by
  have h:=(h.is.mod m (by simp)).met hr ha
  rw [decide_eq_false (hlf c)] at h
  exact h
 generalize (metC no (.leaf c):Nat)=cc at *
 clear hr hc hn hlf hno hbs ha2
 obtain ⟨gk,hgk⟩:∃gk,W.heap.size=gk:=⟨_,rfl⟩
 have H0:=Lib.hid h
 clear h
 go_enter Tryz.func72,Tryz.ntmps72
 go_upto_region 1 with fail
 have H1:=Lib.hid (H0.out.add (show Mod [] W (W.alloc (.cells #[.int .u8 t,.int .u32 a] 39)) from by exact mods) (Blk.new' W _ _ gk hgk.symm) (Nat.le_of_eq hgk))
 have M1:Hid (Mod [] W (W.alloc (.cells #[.int .u8 t,.int .u32 a] 39))):=by exact mods
 generalize W.alloc (.cells #[.int .u8 t,.int .u32 a] 39)=w1 at *
 clear hgk
 obtain ⟨vb,hB⟩:=H1.out.pen
 have c0:=hB.cell 0
 simp only [List.getElem?_toArray,List.getElem?_cons_zero] at c0
 have hbp:=hB.lt
 have q0:=H1.out.hd.cells2.1
 have q1:=H1.out.hd.cells2.2
 have hk:=H1.out.hd.lt
 obtain ⟨gz,hgz⟩:∃gz,w1.heap.size=gz:=⟨_,rfl⟩
 have n1:¬bp=gz:=by omega
 have n2:¬gz=bp:=by omega
 have n3:¬gk=gz:=by omega
 have n4:¬gz=gk:=by omega
 clear hB
 go_cut [4,5] from 8 to 17 (fun p o wx=>∃g:Nat,p=.pointer (some ⟨g,0,none⟩)∧o=.bool false∧Hid (Blk wx g #[.int .u8 0,.int .u8 0,.int .u8 0,.int .u8 0,.int .u32 0,.int .u8 0,.int .u32 0] 134)∧Hid (Mod [] w1 wx)∧gz≤g)
 case first=>
  go_region_held3 (fun w'=>w'.cell? ⟨bp,0,none⟩=some (.pointer (some ⟨b,0,none⟩))∧w'.cell? ⟨gk,1,none⟩=some (.int .u32 a)) (go_keep) (first | (go_at_call 85;refine (GT.out _ (M1.out.trans' (show Mod [] w1 _ from by exact mods))).mono ?_;rintro e' w2 ⟨rfl,m_w2⟩;have M_w2:=Mod.trans' (show Mod _ w1 _ from by exact mods) m_w2;have c0:=(M_w2.cell (a:=⟨bp,0,none⟩) hbp (by first | assumption | (simp;done))).trans c0;have q1:=(M_w2.cell (a:=⟨gk,1,none⟩) hk (by first | assumption | (simp;done))).trans q1;have hbp:=Nat.lt_of_lt_of_le hbp M_w2.size;have hk:=Nat.lt_of_lt_of_le hk M_w2.size;have hB:=fun c ty (h:Blk _ gz c ty)=>h.mod m_w2 (by simp);first | (have zb:=hB _ _ ((Blk.new' w1 _ _ _ hgz.symm).drew);have z0:=zb.cell 0;have z1:=zb.cell 1;have z2:=zb.cell 2;have z3:=zb.cell 3;have z4:=zb.cell 4;have z5:=zb.cell 5;have z6:=zb.cell 6;simp only [List.getElem?_toArray,List.getElem?_cons_zero,List.getElem?_cons_succ] at z0 z1 z2 z3 z4 z5 z6;have zf:=zb.froz;clear zb) | skip;obtain ⟨gr,hgr⟩:∃gr,w2.heap.size=gr:=⟨_,rfl⟩))
  all_goals (go_wp2_with fail;go_meet)
  ·exact ⟨gr,rfl,rfl,Blk.new' w2 _ _ gr hgr.symm,M_w2.alloc _,by have:=M_w2.size;omega⟩
  ·have B2:=hB _ _ ((Blk.new' w1 #[.int .u8 0,.int .u8 0,.int .u8 0,.int .u8 0,.int .u32 0,.int .u8 0,.int .u32 0] 134 gz hgz.symm).drew)
   exact ⟨gz,rfl,rfl,set7_blk B2 ⟨0,0,0,⟨0,0⟩,⟨0,0⟩⟩,set7_mod M_w2 gz ⟨0,0,0,⟨0,0⟩,⟨0,0⟩⟩ (by omega),Nat.le_refl _⟩
 case rest=>
 obtain ⟨g,rfl,rfl,BG,MG,hgg⟩:=hcut
 have H2:Hid (HdP w0 wc bp bm b f n room L F Fb0 no bs gs g gk t a ⟨0,0,0,⟨0,0⟩,⟨0,0⟩⟩):=H1.out.add MG.out BG.out (by omega)
 have MW:Hid (Mod [] W wc):=M1.out.trans' MG.out
 generalize wc=wa at *
 clear c0 q0 q1 hbp hk n1 n2 n3 n4 hgg BG MG H1 M1 hgz GT
 obtain ⟨vb,hB⟩:=NodS.pen H2.out
 have c3:=hB.cell 3
 simp only [List.getElem?_toArray,List.getElem?_cons_zero,List.getElem?_cons_succ] at c3
 have q1:=(NodS.hd2 H2.out).cells2.2
 have LK:=MT.out wa.drew (MW.out.trans' (show Mod [] wa _ from by exact mods))
 clear hB
 go_wp2_with fail
 go_region
 clear LK c3 q1
 replace H2:Hid (HdP w0 wa.drew bp bm b f n room L F Fb0 no bs gs g gk t a ⟨0,0,0,⟨0,0⟩,⟨0,0⟩⟩):=NodS.mod H2.out (show Mod [] wa _ from by exact mods)
 replace MW:Hid (Mod [] W wa.drew):=MW.out.trans' (show Mod [] wa _ from by exact mods)
 generalize wa.drew=wb at *
 go_wp2_with fail
 refine bodyPost_ret (v:=.tuple #[]) (by simp [results,Tryz.results72,go_sem];try rfl) rfl ?_
 refine ⟨rfl,?_⟩
 rw [wrN]
 simp only [List.append_nil]
 exact NodS.drop (NodS.drop H2.out)
theorem nodes_seen {bp bm b f n room:Nat} {L:List Rc} {F:List Nat} (hL:L.length≤100000) {T:Tr} {w0 W:World} {Fb0:List Nat} {no:List Tr} {bs:List Nat} {gs:List (Nat × Array Value × TypeId)} {t a:Nat} (h:NodS w0 W bp bm b f n room L F Fb0 no bs gs) (hr:Rep L f a T) (hm:T∈no) {r:Rc} (hrec:recAt L a=some r) (hw:wrN f T no=(no,[])):
 Calls Tryz.prog 72 #[.pointer (some ⟨bp,0,none⟩),.agg #[.int .u8 t,.int .u32 a]] W fun e w'=>e=.returned (.tuple #[])∧NodS w0 w' bp bm b f n room L F Fb0 (wrN f T no).1 (bs++(wrN f T no).2) gs:=by
 have ha:a≤4294967295:=rep_lt hr hL
 have GT:Hid (∀W',Mod [] W W'→Calls Tryz.prog 85 #[.pointer (some ⟨b,0,none⟩),.int .u32 a] W' fun e w'=>e=.returned (.tuple #[rcv r,.bool true])∧Mod [] W' w'):=fun W' m=>stGet_live (h.st.mod m (by simp)) (by omega) a r hrec
 have MT:Hid (∀W',Mod [] W W'→(Instr.lookup 152 (.map (some bm)) (.int .u32 a) true).run Tryz.prog W'=.ok (.tuple #[.int .u64 (metC no (T):Nat),.bool true]) W'):=fun W' m=>by
  have h:=(h.is.mod m (by simp)).met hr ha
  rw [decide_eq_true hm] at h
  exact h
 generalize (metC no (T):Nat)=cc at *
 clear hr hrec hm
 obtain ⟨rf,rt,rb,⟨lt,la⟩,⟨ht,ha'⟩⟩:=r
 unfold rcv at GT
 simp only at GT
 obtain ⟨gk,hgk⟩:∃gk,W.heap.size=gk:=⟨_,rfl⟩
 have H0:=Lib.hid h
 clear h
 go_enter Tryz.func72,Tryz.ntmps72
 go_upto_region 1 with fail
 have H1:=Lib.hid (H0.out.add (show Mod [] W (W.alloc (.cells #[.int .u8 t,.int .u32 a] 39)) from by exact mods) (Blk.new' W _ _ gk hgk.symm) (Nat.le_of_eq hgk))
 have M1:Hid (Mod [] W (W.alloc (.cells #[.int .u8 t,.int .u32 a] 39))):=by exact mods
 generalize W.alloc (.cells #[.int .u8 t,.int .u32 a] 39)=w1 at *
 clear hgk
 obtain ⟨vb,hB⟩:=H1.out.pen
 have c0:=hB.cell 0
 simp only [List.getElem?_toArray,List.getElem?_cons_zero] at c0
 have hbp:=hB.lt
 have q0:=H1.out.hd.cells2.1
 have q1:=H1.out.hd.cells2.2
 have hk:=H1.out.hd.lt
 obtain ⟨gz,hgz⟩:∃gz,w1.heap.size=gz:=⟨_,rfl⟩
 have n1:¬bp=gz:=by omega
 have n2:¬gz=bp:=by omega
 have n3:¬gk=gz:=by omega
 have n4:¬gz=gk:=by omega
 clear hB
 go_cut [4,5] from 8 to 17 (fun p o wx=>∃g:Nat,p=.pointer (some ⟨g,0,none⟩)∧o=.bool true∧Hid (Blk wx g #[.int .u8 rf,.int .u8 rt,.int .u8 rb,.int .u8 lt,.int .u32 la,.int .u8 ht,.int .u32 ha'] 134)∧Hid (Mod [] w1 wx)∧gz≤g)
 case first=>
  go_region_held3 (fun w'=>w'.cell? ⟨bp,0,none⟩=some (.pointer (some ⟨b,0,none⟩))∧w'.cell? ⟨gk,1,none⟩=some (.int .u32 a)) (go_keep) (first | (go_at_call 85;refine (GT.out _ (M1.out.trans' (show Mod [] w1 _ from by exact mods))).mono ?_;rintro e' w2 ⟨rfl,m_w2⟩;have M_w2:=Mod.trans' (show Mod _ w1 _ from by exact mods) m_w2;have c0:=(M_w2.cell (a:=⟨bp,0,none⟩) hbp (by first | assumption | (simp;done))).trans c0;have q1:=(M_w2.cell (a:=⟨gk,1,none⟩) hk (by first | assumption | (simp;done))).trans q1;have hbp:=Nat.lt_of_lt_of_le hbp M_w2.size;have hk:=Nat.lt_of_lt_of_le hk M_w2.size;have hB:=fun c ty (h:Blk _ gz c ty)=>h.mod m_w2 (by simp);first | (have zb:=hB _ _ ((Blk.new' w1 _ _ _ hgz.symm).drew);have z0:=zb.cell 0;have z1:=zb.cell 1;have z2:=zb.cell 2;have z3:=zb.cell 3;have z4:=zb.cell 4;have z5:=zb.cell 5;have z6:=zb.cell 6;simp only [List.getElem?_toArray,List.getElem?_cons_zero,List.getElem?_cons_succ] at z0 z1 z2 z3 z4 z5 z6;have zf:=zb.froz;clear zb) | skip;obtain ⟨gr,hgr⟩:∃gr,w2.heap.size=gr:=⟨_,rfl⟩))
  all_goals (go_wp2_with fail;go_meet)
  ·exact ⟨gr,rfl,rfl,Blk.new' w2 _ _ gr hgr.symm,M_w2.alloc _,by have:=M_w2.size;omega⟩
  ·have B2:=hB _ _ ((Blk.new' w1 #[.int .u8 0,.int .u8 0,.int .u8 0,.int .u8 0,.int .u32 0,.int .u8 0,.int .u32 0] 134 gz hgz.symm).drew)
   exact ⟨gz,rfl,rfl,set7_blk B2 ⟨rf,rt,rb,⟨lt,la⟩,⟨ht,ha'⟩⟩,set7_mod M_w2 gz ⟨rf,rt,rb,⟨lt,la⟩,⟨ht,ha'⟩⟩ (by omega),Nat.le_refl _⟩
 case rest=>
 obtain ⟨g,rfl,rfl,BG,MG,hgg⟩:=hcut
 have H2:Hid (HdP w0 wc bp bm b f n room L F Fb0 no bs gs g gk t a ⟨rf,rt,rb,⟨lt,la⟩,⟨ht,ha'⟩⟩):=H1.out.add MG.out BG.out (by omega)
 have MW:Hid (Mod [] W wc):=M1.out.trans' MG.out
 generalize wc=wa at *
 clear c0 q0 q1 hbp hk n1 n2 n3 n4 hgg BG MG H1 M1 hgz GT
 obtain ⟨vb,hB⟩:=NodS.pen H2.out
 have c3:=hB.cell 3
 simp only [List.getElem?_toArray,List.getElem?_cons_zero,List.getElem?_cons_succ] at c3
 have q1:=(NodS.hd2 H2.out).cells2.2
 have LK:=MT.out wa.drew (MW.out.trans' (show Mod [] wa _ from by exact mods))
 clear hB
 go_wp2_with fail
 go_region
 clear LK c3 q1
 replace H2:Hid (HdP w0 wa.drew bp bm b f n room L F Fb0 no bs gs g gk t a ⟨rf,rt,rb,⟨lt,la⟩,⟨ht,ha'⟩⟩):=NodS.mod H2.out (show Mod [] wa _ from by exact mods)
 replace MW:Hid (Mod [] W wa.drew):=MW.out.trans' (show Mod [] wa _ from by exact mods)
 generalize wa.drew=wb at *
 go_wp2_with fail
 refine bodyPost_ret (v:=.tuple #[]) (by simp [results,Tryz.results72,go_sem];try rfl) rfl ?_
 refine ⟨rfl,?_⟩
 rw [hw]
 simp only [List.append_nil]
 exact NodS.drop (NodS.drop H2.out)
open Go.RowKit
theorem nodes_fresh {bp bm b f n room:Nat} {L:List Rc} {F:List Nat} (h1:1≤f) (h5:f≤5) (hn16:n≤16) (hL:L.length≤100000) (hnd:L.Nodup) {r:Rc} {x y:Tr} (hg:GoodR L n r) (IHx:NodC bp bm b f n room L F x) (IHy:NodC bp bm b f n room L F y) {w0 W:World} {Fb0:List Nat} {no:List Tr} {bs:List Nat} {gs:List (Nat × Array Value × TypeId)} {t a:Nat} (h:NodS w0 W bp bm b f n room L F Fb0 no bs gs)
 (hrec:recAt L a=some r) (hrf:r.f=f) (hx:Rep L f r.lo.a x) (hy:Rep L f r.hi.a y) (hm:Tr.node r.top r.bot r.lo.t x r.hi.t y∉no) (hc:Clo no) (hn:no.Nodup) (hlf:∀c,Tr.leaf c∉no) (hno:no.length+tsz (.node r.top r.bot r.lo.t x r.hi.t y)≤120) (hbs:bs.length+10 *tsz (.node r.top r.bot r.lo.t x r.hi.t y)≤50000):
 Calls Tryz.prog 72 #[.pointer (some ⟨bp,0,none⟩),.agg #[.int .u8 t,.int .u32 a]] W fun e w'=>e=.returned (.tuple #[])∧NodS w0 w' bp bm b f n room L F Fb0 (wrN f (.node r.top r.bot r.lo.t x r.hi.t y) no).1 (bs++(wrN f (.node r.top r.bot r.lo.t x r.hi.t y) no).2) gs:=by
 have hr:Rep L f a (.node r.top r.bot r.lo.t x r.hi.t y):=.node hrec hrf hx hy
 have ha:a≤4294967295:=rep_lt hr hL
 have hb15:r.bot≤15:=by have:=hg.right.bn;omega
 have ht15:r.top≤15:=by have:=hg.right.tb;omega
 have tl16:=leads_tag hg.lo hn16
 have th16:=leads_tag hg.hi hn16
 have hla:=rep_lt hx hL
 have hha:=rep_lt hy hL
 have GT:Hid (∀W',Mod [] W W'→Calls Tryz.prog 85 #[.pointer (some ⟨b,0,none⟩),.int .u32 a] W' fun e w'=>e=.returned (.tuple #[rcv r,.bool true])∧Mod [] W' w'):=fun W' m=>stGet_live (h.st.mod m (by simp)) (by omega) a r hrec
 have MT:Hid (∀W',Mod [] W W'→(Instr.lookup 152 (.map (some bm)) (.int .u32 a) true).run Tryz.prog W'=.ok (.tuple #[.int .u64 (metC no (Tr.node r.top r.bot r.lo.t x r.hi.t y):Nat),.bool false]) W'):=fun W' m=>by
  have h:=(h.is.mod m (by simp)).met hr ha
  rw [decide_eq_false hm] at h
  exact h
 generalize (metC no (Tr.node r.top r.bot r.lo.t x r.hi.t y):Nat)=cc at *
 have sx:=wrN_spec f x no hc hn
 have sy:=wrN_spec f y _ sx.clo sx.nodup
 have hfr:=wr_fresh (f:=f) hc hn hm
 have lx:=wrN_len f x no
 have ly:=wrN_len f y (wrN f x no).1
 have eW:wrN f (.node r.top r.bot r.lo.t x r.hi.t y) no=((wrN f y (wrN f x no).1).1++[.node r.top r.bot r.lo.t x r.hi.t y],(wrN f x no).2++(wrN f y (wrN f x no).1).2++recB f ((wrN f y (wrN f x no).1).1++[.node r.top r.bot r.lo.t x r.hi.t y]) (.node r.top r.bot r.lo.t x r.hi.t y)):=by
  rw [wrN,if_neg hm]
 rw [eW]
 have hlx:∀c,Tr.leaf c∉(wrN f x no).1:=fun c hc2=>by
  obtain ⟨m,e,-,s⟩:=sx.grown
  rw [e] at hc2
  rcases List.mem_append.1 hc2 with q | q
  ·exact hlf c q
  ·obtain ⟨_,_,_,_,_,_,e⟩:=nds_node (s _ q);cases e
 have htsz:tsz (.node r.top r.bot r.lo.t x r.hi.t y)=1+tsz x+tsz y:=rfl
 rw [htsz] at hno hbs
 have mx:(∃c,x=.leaf c)∨x∈(wrN f y (wrN f x no).1).1++[Tr.node r.top r.bot r.lo.t x r.hi.t y]:=sx.has.imp id (fun q=>by
  obtain ⟨m,e,-⟩:=sy.grown;rw [e];simp [q])
 have my:(∃c,y=.leaf c)∨y∈(wrN f y (wrN f x no).1).1++[Tr.node r.top r.bot r.lo.t x r.hi.t y]:=sy.has.imp id (fun q=>by simp [q])
 have hrB:recB f ((wrN f y (wrN f x no).1).1++[.node r.top r.bot r.lo.t x r.hi.t y]) (.node r.top r.bot r.lo.t x r.hi.t y)=[r.top]++(if f=3∨f=4 then [r.bot] else [])++edgeB f ((wrN f y (wrN f x no).1).1++[.node r.top r.bot r.lo.t x r.hi.t y]) r.lo.t x++edgeB f ((wrN f y (wrN f x no).1).1++[.node r.top r.bot r.lo.t x r.hi.t y]) r.hi.t y:=rfl
 rw [hrB]
 have SX:=Lib.hid (And.intro sx.clo sx.nodup)
 have HFR:=Lib.hid hfr
 have MX:=Lib.hid mx
 have MY:=Lib.hid my
 have HLX:=Lib.hid hlx
 have HC:=Lib.hid hc
 have HN:=Lib.hid hn
 have HLF:=Lib.hid hlf
 have HX:=Lib.hid hx
 have HY:=Lib.hid hy
 have HR:=Lib.hid hr
 have CX:=Lib.hid IHx
 have CY:=Lib.hid IHy
 have BD:=Lib.hid (And.intro hno (And.intro hbs (And.intro lx ly)))
 have HND:=Lib.hid hnd
 clear sx sy hfr mx my hlx hc hn hlf hx hy hr IHx IHy hno hbs lx ly hnd hm hrec hrf hg eW hrB htsz
 obtain ⟨rf,rt,rb,⟨lt,la⟩,⟨ht,ha'⟩⟩:=r
 unfold rcv at GT
 simp only at GT HFR MX MY HX HY HR hb15 ht15 tl16 th16 hla hha ⊢
 obtain ⟨gk,hgk⟩:∃gk,W.heap.size=gk:=⟨_,rfl⟩
 have H0:=Lib.hid h
 clear h
 go_enter Tryz.func72,Tryz.ntmps72
 go_upto_region 1 with fail
 have H1:=Lib.hid (H0.out.add (show Mod [] W (W.alloc (.cells #[.int .u8 t,.int .u32 a] 39)) from by exact mods) (Blk.new' W _ _ gk hgk.symm) (Nat.le_of_eq hgk))
 have M1:Hid (Mod [] W (W.alloc (.cells #[.int .u8 t,.int .u32 a] 39))):=by exact mods
 generalize W.alloc (.cells #[.int .u8 t,.int .u32 a] 39)=w1 at *
 clear hgk
 obtain ⟨vb,hB⟩:=H1.out.pen
 have c0:=hB.cell 0
 simp only [List.getElem?_toArray,List.getElem?_cons_zero] at c0
 have hbp:=hB.lt
 have q0:=H1.out.hd.cells2.1
 have q1:=H1.out.hd.cells2.2
 have hk:=H1.out.hd.lt
 obtain ⟨gz,hgz⟩:∃gz,w1.heap.size=gz:=⟨_,rfl⟩
 have n1:¬bp=gz:=by omega
 have n2:¬gz=bp:=by omega
 have n3:¬gk=gz:=by omega
 have n4:¬gz=gk:=by omega
 clear hB
 go_cut [4,5] from 8 to 17 (fun p o wx=>∃g:Nat,p=.pointer (some ⟨g,0,none⟩)∧o=.bool true∧Hid (Blk wx g #[.int .u8 rf,.int .u8 rt,.int .u8 rb,.int .u8 lt,.int .u32 la,.int .u8 ht,.int .u32 ha'] 134)∧Hid (Mod [] w1 wx)∧gz≤g)
 case first=>
  go_region_held3 (fun w'=>w'.cell? ⟨bp,0,none⟩=some (.pointer (some ⟨b,0,none⟩))∧w'.cell? ⟨gk,1,none⟩=some (.int .u32 a)) (go_keep) (first | (go_at_call 85;refine (GT.out _ (M1.out.trans' (show Mod [] w1 _ from by exact mods))).mono ?_;rintro e' w2 ⟨rfl,m_w2⟩;have M_w2:=Mod.trans' (show Mod _ w1 _ from by exact mods) m_w2;have c0:=(M_w2.cell (a:=⟨bp,0,none⟩) hbp (by first | assumption | (simp;done))).trans c0;have q1:=(M_w2.cell (a:=⟨gk,1,none⟩) hk (by first | assumption | (simp;done))).trans q1;have hbp:=Nat.lt_of_lt_of_le hbp M_w2.size;have hk:=Nat.lt_of_lt_of_le hk M_w2.size;have hB:=fun c ty (h:Blk _ gz c ty)=>h.mod m_w2 (by simp);first | (have zb:=hB _ _ ((Blk.new' w1 _ _ _ hgz.symm).drew);have z0:=zb.cell 0;have z1:=zb.cell 1;have z2:=zb.cell 2;have z3:=zb.cell 3;have z4:=zb.cell 4;have z5:=zb.cell 5;have z6:=zb.cell 6;simp only [List.getElem?_toArray,List.getElem?_cons_zero,List.getElem?_cons_succ] at z0 z1 z2 z3 z4 z5 z6;have zf:=zb.froz;clear zb) | skip;obtain ⟨gr,hgr⟩:∃gr,w2.heap.size=gr:=⟨_,rfl⟩))
  all_goals (go_wp2_with fail;go_meet)
  ·exact ⟨gr,rfl,rfl,Blk.new' w2 _ _ gr hgr.symm,M_w2.alloc _,by have:=M_w2.size;omega⟩
  ·have B2:=hB _ _ ((Blk.new' w1 #[.int .u8 0,.int .u8 0,.int .u8 0,.int .u8 0,.int .u32 0,.int .u8 0,.int .u32 0] 134 gz hgz.symm).drew)
   exact ⟨gz,rfl,rfl,set7_blk B2 ⟨rf,rt,rb,⟨lt,la⟩,⟨ht,ha'⟩⟩,set7_mod M_w2 gz ⟨rf,rt,rb,⟨lt,la⟩,⟨ht,ha'⟩⟩ (by omega),Nat.le_refl _⟩
 case rest=>
 obtain ⟨g,rfl,rfl,BG,MG,hgg⟩:=hcut
 have H2:Hid (HdP w0 wc bp bm b f n room L F Fb0 no bs gs g gk t a ⟨rf,rt,rb,⟨lt,la⟩,⟨ht,ha'⟩⟩):=H1.out.add MG.out BG.out (by omega)
 have MW:Hid (Mod [] W wc):=M1.out.trans' MG.out
 generalize wc=wa at *
 clear c0 q0 q1 hbp hk n1 n2 n3 n4 hgg BG MG H1 M1 hgz GT
 obtain ⟨vb,hB⟩:=NodS.pen H2.out
 have c3:=hB.cell 3
 simp only [List.getElem?_toArray,List.getElem?_cons_zero,List.getElem?_cons_succ] at c3
 have q1:=(NodS.hd2 H2.out).cells2.2
 have LK:=MT.out wa.drew (MW.out.trans' (show Mod [] wa _ from by exact mods))
 clear hB
 go_wp2_with fail
 go_region
 clear LK c3 q1
 replace H2:Hid (HdP w0 wa.drew bp bm b f n room L F Fb0 no bs gs g gk t a ⟨rf,rt,rb,⟨lt,la⟩,⟨ht,ha'⟩⟩):=NodS.mod H2.out (show Mod [] wa _ from by exact mods)
 replace MW:Hid (Mod [] W wa.drew):=MW.out.trans' (show Mod [] wa _ from by exact mods)
 generalize wa.drew=wb at *
 have BG:=NodS.hd H2.out
 obtain ⟨y3,y4⟩:wb.cell? ⟨g,3,none⟩=some (.int .u8 lt)∧wb.cell? ⟨g,4,none⟩=some (.int .u32 la):=⟨BG.cell 3,BG.cell 4⟩
 clear BG MW
 have C1:=Lib.hid (CX.out w0 wb Fb0 no bs _ lt la H2.out HX.out HC.out HN.out HLF.out (by have:=BD.out;omega) (by have:=BD.out;omega))
 go_wp2_with fail
 refine C1.out.mono ?_
 rintro e w3 ⟨rfl,h3⟩
 have H3:=Lib.hid h3
 clear h3 H2 C1 CX HC HN HLF y3 y4
 have BG:=NodS.hd H3.out
 obtain ⟨y5,y6⟩:w3.cell? ⟨g,5,none⟩=some (.int .u8 ht)∧w3.cell? ⟨g,6,none⟩=some (.int .u32 ha'):=⟨BG.cell 5,BG.cell 6⟩
 clear BG
 have C2:=Lib.hid (CY.out w0 w3 Fb0 (wrN f x no).1 (bs++(wrN f x no).2) _ ht ha' H3.out HY.out SX.out.1 SX.out.2 HLX.out (by have:=BD.out;omega) (by have:=BD.out;rw [List.length_append];omega))
 go_wp2_with fail
 refine C2.out.mono ?_
 rintro e w4 ⟨rfl,h4⟩
 have H4:=Lib.hid h4
 clear h4 H3 C2 CY SX HLX y5 y6
 have hn2:(wrN f y (wrN f x no).1).1.length≤120:=by have:=BD.out;omega
 have BL:Hid ((bs++(wrN f x no).2++(wrN f y (wrN f x no).1).2).length≤50000):=by have:=BD.out;show _≤_;simp only [List.length_append];omega
 have BD2:=BD
 clear BD
 obtain ⟨vb2,hB2⟩:=NodS.pen H4.out
 have c3:=hB2.cell 3
 simp only [List.getElem?_toArray,List.getElem?_cons_zero,List.getElem?_cons_succ] at c3
 have q1:=(NodS.hd2 H4.out).cells2.2
 have hbpl:=hB2.lt
 have hkl:=(NodS.hd2 H4.out).lt
 have I4:=(NodS.is H4.out).mod (show Mod [] w4 w4.drew from by exact mods) (by simp)
 have LN:=I4.len 3
 obtain ⟨w5,hrun,hN5,m5⟩:=I4.put HND.out HR.out ha (by omega) HFR.out
 have H5:=Lib.hid (NodS.put (NodS.mod H4.out (show Mod [] w4 w4.drew from by exact mods)) m5 hN5)
 obtain ⟨vb3,hB3⟩:=NodS.pen H5.out
 have c3':=hB3.cell 3
 simp only [List.getElem?_toArray,List.getElem?_cons_zero,List.getElem?_cons_succ] at c3'
 have q1':=(NodS.hd2 H5.out).cells2.2
 obtain ⟨N,hN⟩:∃N,(wrN f y (wrN f x no).1).1.length=N:=⟨_,rfl⟩
 rw [hN] at LN hrun hn2
 have hN':(N:Int)≤120:=by omega
 rw [show ((N:Nat):Int)=IntKind.u64.wrap (N:Int) from (IntWalk.u64_in _ (by omega)).symm] at hrun
 clear hB2 hB3 hN5 m5 I4 hN
 go_upto_region 6 with fail
 go_cut [52] from 41 to 52 (fun _ wq=>wq=w5)
 case first=>
  go_region
  all_goals (go_wp2_with fail;go_meet)
  all_goals rfl
 case rest=>
 subst hcut
 clear LN hrun c3 q1 c3' q1' hbpl hkl H4 HFR HND
 have y1:=(NodS.hd H5.out).cell 1
 simp only [List.getElem?_toArray,List.getElem?_cons_zero,List.getElem?_cons_succ] at y1
 have ht16:(rt:Int)≤15:=by omega
 have hb16:(rb:Int)≤15:=by omega
 have hno3:((wrN f y (wrN f x no).1).1++[Tr.node rt rb lt x ht y]).length≤120:=by rw [List.length_append];have:=BD2.out;simp;omega
 have HNO3:=Lib.hid hno3
 clear hno3 hn2 hN'
 go_wp2_with fail
 refine (NodS.num (k:=rt) H5.out (by omega) (by have:=BL.out;omega)).mono ?_
 rintro e w6 ⟨rfl,h6⟩
 have H6:=Lib.hid h6
 clear h6 H5 y1
 obtain ⟨vb6,hB6⟩:=NodS.pen H6.out
 have c1:=hB6.cell 1
 simp only [List.getElem?_toArray,List.getElem?_cons_zero,List.getElem?_cons_succ] at c1
 have BG6:=NodS.hd H6.out
 obtain ⟨y2,y3,y4⟩:w6.cell? ⟨g,2,none⟩=some (.int .u8 rb)∧w6.cell? ⟨g,3,none⟩=some (.int .u8 lt)∧w6.cell? ⟨g,4,none⟩=some (.int .u32 la):=⟨BG6.cell 2,BG6.cell 3,BG6.cell 4⟩
 clear hB6 BG6
 by_cases hch:f=3∨f=4
 ·have CH:Hid (∀W,Calls Tryz.prog 118 #[.int .u8 f] W fun e w'=>e=.returned (.bool true)∧w'=W):=fun W=>chained_c f true (decide_eq_true hch) W
  have HCH:=Lib.hid hch
  clear hch
  go_wp2_with fail
  refine (CH.out _).mono ?_
  rintro e w7 ⟨rfl,hw7⟩
  subst hw7
  go_wp2_with fail
  refine (NodS.num (k:=rb) H6.out (by omega) (by have:=BL.out;simp only [List.length_append,List.length_cons,List.length_nil] at this ⊢;omega)).mono ?_
  rintro e w8 ⟨rfl,h8⟩
  have H8:=Lib.hid h8
  clear h8 H6 y2 y3 y4 c1
  have BG8:=NodS.hd H8.out
  obtain ⟨y3,y4⟩:w8.cell? ⟨g,3,none⟩=some (.int .u8 lt)∧w8.cell? ⟨g,4,none⟩=some (.int .u32 la):=⟨BG8.cell 3,BG8.cell 4⟩
  clear BG8
  go_wp2_with fail
  refine (NodS.edge (t:=lt) (a:=la) H8.out HX.out MX.out (by omega) hla HNO3.out (by have:=BL.out;simp only [List.length_append,List.length_cons,List.length_nil] at this ⊢;omega) (by omega)).mono ?_
  rintro e w9 ⟨rfl,h9⟩
  have H9:=Lib.hid h9
  clear h9 H8 y3 y4
  have BG9:=NodS.hd H9.out
  obtain ⟨y5,y6⟩:w9.cell? ⟨g,5,none⟩=some (.int .u8 ht)∧w9.cell? ⟨g,6,none⟩=some (.int .u32 ha'):=⟨BG9.cell 5,BG9.cell 6⟩
  clear BG9
  have el:=edgeB_len f ((wrN f y (wrN f x no).1).1++[Tr.node rt rb lt x ht y]) lt x
  have EL:=Lib.hid el
  clear el
  go_wp2_with fail
  refine (NodS.edge (t:=ht) (a:=ha') H9.out HY.out MY.out (by omega) hha HNO3.out (by have:=BL.out;have:=EL.out;simp only [List.length_append,List.length_cons,List.length_nil] at *;omega) (by omega)).mono ?_
  rintro e w10 ⟨rfl,h10⟩
  have H10:=Lib.hid h10
  clear h10 H9 y5 y6
  go_wp2_with fail
  refine bodyPost_end (v:=.tuple #[]) (by simp [results,Tryz.results72,go_sem];try rfl) rfl ?_
  refine ⟨rfl,?_⟩
  have hch:=HCH.out
  have hF:=NodS.drop (NodS.drop H10.out)
  simp only [hch,if_true,if_false,List.append_assoc,List.nil_append,List.cons_append] at hF ⊢
  exact hF
 ·have CH:Hid (∀W,Calls Tryz.prog 118 #[.int .u8 f] W fun e w'=>e=.returned (.bool false)∧w'=W):=fun W=>chained_c f false (decide_eq_false hch) W
  have HCH:=Lib.hid hch
  clear hch
  go_wp2_with fail
  refine (CH.out _).mono ?_
  rintro e w7 ⟨rfl,hw7⟩
  subst hw7
  clear y2 c1
  go_wp2_with fail
  refine (NodS.edge (t:=lt) (a:=la) H6.out HX.out MX.out (by omega) hla HNO3.out (by have:=BL.out;simp only [List.length_append,List.length_cons,List.length_nil] at this ⊢;omega) (by omega)).mono ?_
  rintro e w9 ⟨rfl,h9⟩
  have H9:=Lib.hid h9
  clear h9 H6 y3 y4
  have BG9:=NodS.hd H9.out
  obtain ⟨y5,y6⟩:w9.cell? ⟨g,5,none⟩=some (.int .u8 ht)∧w9.cell? ⟨g,6,none⟩=some (.int .u32 ha'):=⟨BG9.cell 5,BG9.cell 6⟩
  clear BG9
  have el:=edgeB_len f ((wrN f y (wrN f x no).1).1++[Tr.node rt rb lt x ht y]) lt x
  have EL:=Lib.hid el
  clear el
  go_wp2_with fail
  refine (NodS.edge (t:=ht) (a:=ha') H9.out HY.out MY.out (by omega) hha HNO3.out (by have:=BL.out;have:=EL.out;simp only [List.length_append,List.length_cons,List.length_nil] at *;omega) (by omega)).mono ?_
  rintro e w10 ⟨rfl,h10⟩
  have H10:=Lib.hid h10
  clear h10 H9 y5 y6
  go_wp2_with fail
  refine bodyPost_end (v:=.tuple #[]) (by simp [results,Tryz.results72,go_sem];try rfl) rfl ?_
  refine ⟨rfl,?_⟩
  have hch:=HCH.out
  have hF:=NodS.drop (NodS.drop H10.out)
  simp only [hch,if_true,if_false,List.append_assoc,List.nil_append,List.cons_append] at hF ⊢
  exact hF
end Go.Proofs.YtnbjnnijifiaaaaGreatDoor
