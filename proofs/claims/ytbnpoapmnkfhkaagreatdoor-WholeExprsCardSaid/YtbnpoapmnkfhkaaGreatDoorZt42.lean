import Derived.Test.YtbnpoapmnkfhkaaGreatDoorZt01
import Derived.RangeFuncNested
import Derived.RangeFuncBound
import Derived.RangeFuncCalls
import Derived.RangeFuncLeaves
import Derived.Shelf.Abstract
import Derived.Shelf.RegionOpen
import Derived.OwnWalkIn
import Derived.TacticsInMore
import Derived.LoopNIn
import Derived.LoopIn
set_option linter.unusedVariables false
set_option linter.unusedSimpArgs false
namespace Go.Proofs.YtbnpoapmnkfhkaaGreatDoor
open Go.World renaming putObj_heap_other → z, putObj_heap_same → q, alloc_heap_new → j
open Go renaming World → y, Value → b
open Option renaming some → u, none → Z
open List renaming mem_append → n, mem_append_left → i, mem_cons → d
open Go.Fence renaming wide → f
open Go.RowKit Go.Shelf
theorem Mod.putObj {S:List Nat} {a w:y} (h:Mod S a w) (r:Nat) (o:Obj) (hr:r < a.heap.size→r∈S):Mod S a (w.putObj r o):=
 ⟨h.os,h.tape,h.output,by have:=h.size;simp;omega,fun k hk hn=>(z (fun e=>hn (by rw [e];exact hr (by rw [←e];exact hk)))).trans (h.block k hk hn)⟩
def zH0 {β:Type} (J:List Nat→β→y→Prop):Prop:=
 ∀X X' s A B,J X s A→Mod X A B→(∀k∈X',(k∈X∨A.heap.size≤k)∧k < B.heap.size)→J X' s B
section
variable {P:Program} {α:Type}
def Seq (P:Program) (g:Nat) (lb:Array b) (enc:α→b) (R:List Nat) (L:List α) (w:y):Prop:=
 (∀k∈R,k < w.heap.size)∧(∀args w,(callFunc g args).run P w=.ok (.enter g args) w)∧
 ∀(l:Nat) (J Jx:List Nat→List α→y→Prop) (W:y),w.heap.size≤W.heap.size→Keep R w W→zH0 J→zH0 Jx→
  (∀X pre x rest W1,L=pre++x::rest→J X pre W1→(∀k∈X,k < W1.heap.size)→Keep R w W1→
   YieldAt f 0 P l #[enc x] W1 fun e W'=>W1.heap.size≤W'.heap.size∧Keep (R++X) W1 W'∧
    ((e=.returned (.bool true)∧J X (pre++[x]) W')∨(e=.returned (.bool false)∧Jx X (pre++[x]) W')))→
  J [] [] W→
  Calls P g (#[.func (.yield l) #[] #[]]++lb) W fun e W'=>(∃v,e=.returned v)∧(J [] L W'∨∃pre,pre <+:L∧Jx [] pre W')
theorem Seq.later {g:Nat} {lb:Array b} {enc:α→b} {R:List Nat} {L:List α} {w w':y} (h:Seq P g lb enc R L w) (hs:w.heap.size≤w'.heap.size) (hk:Keep R w w'):Seq P g lb enc R L w':=
 ⟨fun k hk'=>Nat.lt_of_lt_of_le (h.1 k hk') hs,h.2.1,fun l J Jx W hW hkW hJ hJx hY h0=>
  h.2.2 l J Jx W (Nat.le_trans hs hW) (hk.trans hkW) hJ hJx (fun X pre x rest W1 e hj hx hkr=>hY X pre x rest W1 e hj hx (fun k hk'=>(hkr k hk').trans (hk k hk').symm)) h0⟩
theorem Seq.mod {g:Nat} {lb:Array b} {enc:α→b} {R S:List Nat} {L:List α} {w w':y} (h:Seq P g lb enc R L w) (m:Mod S w w') (hd:∀k∈R,k∉S):Seq P g lb enc R L w':=
 h.later m.size (m.keep fun k hk=>⟨h.1 k hk,hd k hk⟩)
def yO0 (R X:List Nat) (I:List Nat→List α→y→Prop) (Ix:Code→List Nat→List α→y→Prop) (xs:List α) (W:y):Exit→Act→y→Prop
 | .normal,_,W'=>W.heap.size≤W'.heap.size∧Keep (R++X) W W'∧I X xs W'
 | .ret,_,W'=>W.heap.size≤W'.heap.size∧Keep (R++X) W W'∧Ix .ret X xs W'
 | .exit id,_,W'=>W.heap.size≤W'.heap.size∧Keep (R++X) W W'∧Ix (.exit id) X xs W'
 | .goto t,_,W'=>W.heap.size≤W'.heap.size∧Keep (R++X) W W'∧Ix (.goto t) X xs W'
 | .panic _,_,_=>False
 | .outgrown,_,_=>False
structure Books (R X:List Nat) (w W:y) (r:Loop):Prop where
 rec_:W.heap[w.heap.size+1]? =u (.loop r)
 col:W.heap[w.heap.size]? =u (.deferred (u []))
 nl:w.heap.size+1∉X
 nd:w.heap.size∉X
 kept:Keep R w W
 above:∀k∈X,w.heap.size≤k
theorem Books.size {R X:List Nat} {w W:y} {r:Loop} (h:Books R X w W r):w.heap.size+1 < W.heap.size:=(Array.getElem?_eq_some_iff.1 h.rec_).1
theorem Books.step {R X X':List Nat} {w A B:y} {r:Loop} (h:Books R X w A r) (hR:∀k∈R,k < w.heap.size) (m:Mod X A B) (hX:∀k∈X',(k∈X∨A.heap.size≤k)∧k < B.heap.size):Books R X' w B r:=by
 have hs:=h.size;refine ⟨(m.block _ hs h.nl).trans h.rec_,(m.block _ (zc) h.nd).trans h.col,fun hm=>?_,fun hm=>?_,h.kept.trans (m.keep fun k hk=>⟨by have:=hR k hk;omega,fun hm=>?_⟩),fun k hk=>?_⟩
 ·rcases (hX _ hm).1 with h1 | h1
  ·exact h.nl h1
  ·omega
 ·rcases (hX _ hm).1 with h1 | h1
  ·exact h.nd h1
  ·omega
 ·have:=hR k hk;have:=h.above k hm;omega
 ·rcases (hX _ hk).1 with h1 | h1
  ·exact h.above k h1
  ·omega
theorem Yt {p:Prop} (h:p:=by
 have hsm:=m.size;simp only [d] at hk ⊢;rcases hk with rfl | rfl | hk
 ·exact ⟨.inl (.inl rfl),zc⟩
 ·exact ⟨.inl (.inr (.inl rfl)),zc⟩
 ·rcases hX k hk with ⟨h | h,h'⟩
  ·exact ⟨.inl (.inr (.inr h)),h'⟩
  ·exact ⟨.inr h,h'⟩):p:=h
theorem zM7 {g:Operand} {ps:Array Tmp} {assign body:Code} {Q:Exit→Act→y→Prop} {a:Act} {w:y} {gf:Nat} {lb:Array b} (hg:a.eval g=.func (.func gf) #[] lb)
 {enc:α→b} {R:List Nat} {L:List α} (hseq:Seq P gf lb enc R L w) (hps:ps.size=1)
 (I:List Nat→List α→y→Prop) (Ix:Code→List Nat→List α→y→Prop) (hI:zH0 I) (hIx:∀c,zH0 (Ix c)) (h0:I [] [] w) (a₁:α→Act)
 (hassign:∀(l:Nat) (x:α) (W:y) (K:Act→y→Prop),K (a₁ x) W→
  assign.wpIn (Fence.wide.inRound l) 0 P (Exit.then K (fun _ _ _=>False)) { tmps:=(ps.zip #[enc x]).foldl (fun t (p,v)=>t.setIfInBounds p v) a.tmps,defers:=[] } W)
 (hbody:∀(l:Nat) (X:List Nat) (pre:List α) (x:α) (rest:List α) (W:y),L=pre++x::rest→I X pre W→(∀k∈X,k < W.heap.size)→Keep R w W→
  body.wpIn (Fence.wide.inRound l) 0 P (yO0 R X I Ix (pre++[x]) W) (a₁ x) W)
 (hdone:∀(D:Nat) (X:List Nat) (W:y),D∈X→(∀k∈X,w.heap.size≤k)→I X L W→Keep R w W→W.heap[D]? =u (.deferred (u []))→Q .normal { a with defers:={ target:=.collected D,args:=#[] }::a.defers } W)
 (hstop:∀(D:Nat) (X:List Nat) (c:Code) (pre:List α) (W:y),D∈X→(∀k∈X,w.heap.size≤k)→pre <+:L→Ix c X pre W→Keep R w W→W.heap[D]? =u (.deferred (u []))→c.wpIn f 0 P Q { a with defers:={ target:=.collected D,args:=#[] }::a.defers } W):
 (Code.rangeFunc g ps assign body).wpIn f 0 P Q a w:=by
 refine wpIn_rangeFunc ?_;intro fn hfn;obtain ⟨rec,hrec⟩:∃rec:LoopState→Option Code→Loop,rec=fun st pe=>{ state:=st,pending:=pe,fn,tmps:=a.tmps,params:=ps,assign,body,defers:=w.heap.size }:=⟨_,rfl⟩
 obtain ⟨W1,hW1⟩:∃W1,(w.alloc (.deferred (u []))).alloc (.loop (rec .ready Z))=W1:=⟨_,rfl⟩;have hz1:W1.heap.size=w.heap.size+2:=by rw [←hW1];simp
 have m01:Mod [] w W1:=by rw [←hW1];exact ((Mod.refl _ _).alloc _).alloc _
 have hB1:Books R [] w W1 (rec .ready Z):=by
  refine ⟨?_,?_,ze,ze,m01.keep fun k hk=>⟨hseq.1 k hk,ze⟩,ze⟩
  ·rw [←hW1];have:=j (w.alloc (.deferred (u []))) (.loop (rec .ready Z));rwa [World.size_alloc] at this
  ·rw [←hW1];exact (Below.heap_alloc _ _ _ (ze)).trans (j w _)
 have hI1:I [w.heap.size,w.heap.size+1] [] W1:=hI _ _ _ _ _ h0 m01 (zj)
 refine ⟨w.heap.size+1,[{ target:=.collected w.heap.size,args:=#[] }],W1,{ target:=.fn (.func gf) lb,args:=#[.func (.yield (w.heap.size+1)) #[] #[]] },W1,gf,
  #[.func (.yield (w.heap.size+1)) #[] #[]]++lb,W1,?_,?_,?_,?_,?_,?_⟩
 ·rw [←hW1,hrec];exact run_enterLoop_outer _ _ _ _ _
 ·simp only [resolve,hg];simp [go_sem]
 ·intro f' _;trivial
 ·simp [invoke,go_sem,hseq.2.1]
 ·intro h;simp [f] at h
 ·refine callsIn_wide.2 ((hseq.2.2 (w.heap.size+1)
   (fun X pre W=>I (w.heap.size::(w.heap.size+1)::X) pre W∧Books R X w W (rec .ready Z))
   (fun X pre W=>∃c,Ix c (w.heap.size::(w.heap.size+1)::X) pre W∧Books R X w W (rec .done (u c)))
   W1 m01.size hB1.kept ?_ ?_ ?_ ⟨hI1,hB1⟩).mono ?_)
  ·rintro X X' s A B ⟨h1,h2⟩ m hX;have hs:=h2.size;refine ⟨hI _ _ _ _ _ h1 (m.mono fun k _ hk=>zC) (fun k hk=>?_),h2.step hseq.1 m hX⟩;exact Yt
  ·rintro X X' s A B ⟨c,h1,h2⟩ m hX;have hs:=h2.size;refine ⟨c,hIx c _ _ _ _ _ h1 (m.mono fun k _ hk=>zC) (fun k hk=>?_),h2.step hseq.1 m hX⟩;exact Yt
  ·rintro X pre x rest W hL ⟨hi,hb⟩ hX hkR;have hlt:=hb.size;have hRl:∀k∈R,k≠w.heap.size+1:=fun k hk e=>qR
   have hy:=run_yield (P:=P) (args:=#[enc x]) hb.rec_ (by rw [hrec];simp [hps]);rw [hrec] at hy;refine ⟨fn,_,assign,body,hy,roundIn_of_wpIn hfn (hassign _ x W _ ⟨_,run_beginRound hb.rec_ (by rw [hrec]),?_⟩)⟩;clear hy;obtain ⟨W2,hW2⟩:∃W2,W.putObj (w.heap.size+1) (.loop { rec .ready Z with state:=.busy })=W2:=⟨_,rfl⟩;have hl2:W2.heap[w.heap.size+1]? =u (.loop { rec .ready Z with state:=.busy }):=by rw [←hW2];exact q hlt
   have m2:Mod [w.heap.size+1] W W2:=by rw [←hW2];exact (Mod.refl _ _).putObj _ _ (ze)
   have hz2:W2.heap.size=W.heap.size:=by rw [←hW2];simp
   have hX2:∀k∈w.heap.size::(w.heap.size+1)::X,k < W2.heap.size:=by
    intro k hk;simp only [d] at hk;rcases hk with rfl | rfl | hk
    ·omega
    ·omega
    ·rw [hz2];exact hX k hk
   have k2:Keep (R++X) W W2:=m2.keep fun k hk=>by
    simp only [n] at hk;rcases hk with hk | hk
    ·exact ⟨qR,by simp;exact hRl k hk⟩
    ·exact ⟨hX k hk,by simp;rintro rfl;exact hb.nl hk⟩
   have hi2:I (w.heap.size::(w.heap.size+1)::X) pre W2:=hI _ _ _ _ _ hi (m2.mono fun k _ hk=>yP) (fun k hk=>⟨.inl hk,hX2 k hk⟩);rw [hW2];refine wpIn_mono (hbody _ _ pre x rest W2 hL hi2 hX2 (hkR.trans (fun k hk=>k2 k (i _ hk)))) ?_
   have fin:∀(jump:Option Code) (W3:y),W2.heap.size≤W3.heap.size→Keep (R++w.heap.size::(w.heap.size+1)::X) W2 W3→∃W4,
    (Instr.endRound (w.heap.size+1) jump).run P W3=.ok (.bool jump.isNone) W4∧W.heap.size≤W4.heap.size∧Keep (R++X) W W4∧Mod [w.heap.size+1] W3 W4∧W4.heap.size=W3.heap.size∧
    Books R X w W4 (rec (if jump.isNone then .ready else .done) jump):=fun jump W3 hs3 hk3=>by
    have hl3:W3.heap[w.heap.size+1]? =u (.loop { rec .ready Z with state:=.busy }):=(hk3 _ (ze)).trans hl2;have hr:=run_endRound (P:=P) jump hl3;have m3:Mod [w.heap.size+1] W3 (W3.putObj (w.heap.size+1) (.loop (rec (if jump.isNone then .ready else .done) jump))):=(Mod.refl _ _).putObj _ _ (ze)
    have k3:Keep (R++X) W3 (W3.putObj (w.heap.size+1) (.loop (rec (if jump.isNone then .ready else .done) jump))):=m3.keep fun k hk=>by
     simp only [n] at hk;rcases hk with hk | hk
     ·exact ⟨qR,by simp;exact hRl k hk⟩
     ·exact ⟨by have:=hX k hk;omega,by simp;rintro rfl;exact hb.nl hk⟩
    have k23:Keep (R++X) W2 W3:=fun k hk=>hk3 k (by
     simp only [n,d] at hk ⊢;rcases hk with hk | hk
     ·exact .inl hk
     ·exact .inr (.inr (.inr hk)))
    have kw:=(k2.trans k23).trans k3;refine ⟨_,by rw [hr,hrec],zj,kw,m3,ze,?_,?_,hb.nl,hb.nd,hb.kept.trans (fun k hk=>kw k (i _ hk)),hb.above⟩
    ·exact q (zc)
    ·refine (z (zc)).trans ((hk3 _ (ze)).trans ?_);rw [←hW2];exact (z (zc)).trans hb.col
   rintro e a3 W3 hp
   have last:∀(W4:y),Mod [w.heap.size+1] W3 W4→W4.heap.size=W3.heap.size→W2.heap.size≤W3.heap.size→Mod (w.heap.size::(w.heap.size+1)::X) W3 W4∧∀k∈w.heap.size::(w.heap.size+1)::X,(k∈w.heap.size::(w.heap.size+1)::X∨W3.heap.size≤k)∧k < W4.heap.size:=
    fun W4 m h4 h3=>⟨m.mono fun k _ hk=>yP,fun k hk=>⟨.inl hk,by have:=hX2 k hk;omega⟩⟩
   cases e with
   | normal=>
    obtain ⟨hs3,hk3,hi3⟩:=hp;obtain ⟨W4,hr,s4,k4,m4,z4,b4⟩:=fin Z W3 hs3 hk3;obtain ⟨l1,l2⟩:=last W4 m4 z4 hs3;exact ⟨_,W4,hr,s4,k4,.inl ⟨rfl,hI _ _ _ _ _ hi3 l1 l2,b4⟩⟩
   | ret=>
    obtain ⟨hs3,hk3,hi3⟩:=hp;obtain ⟨W4,hr,s4,k4,m4,z4,b4⟩:=fin (u .ret) W3 hs3 hk3;obtain ⟨l1,l2⟩:=last W4 m4 z4 hs3;exact ⟨_,W4,hr,s4,k4,.inr ⟨rfl,.ret,hIx _ _ _ _ _ _ hi3 l1 l2,b4⟩⟩
   | exit id=>
    obtain ⟨hs3,hk3,hi3⟩:=hp;obtain ⟨W4,hr,s4,k4,m4,z4,b4⟩:=fin (u (.exit id)) W3 hs3 hk3;obtain ⟨l1,l2⟩:=last W4 m4 z4 hs3;exact ⟨_,W4,hr,s4,k4,.inr ⟨rfl,.exit id,hIx _ _ _ _ _ _ hi3 l1 l2,b4⟩⟩
   | goto t=>
    obtain ⟨hs3,hk3,hi3⟩:=hp;obtain ⟨W4,hr,s4,k4,m4,z4,b4⟩:=fin (u (.goto t)) W3 hs3 hk3;obtain ⟨l1,l2⟩:=last W4 m4 z4 hs3;exact ⟨_,W4,hr,s4,k4,.inr ⟨rfl,.goto t,hIx _ _ _ _ _ _ hi3 l1 l2,b4⟩⟩
   | panic ch=>exact hp.elim
   | outgrown=>exact hp.elim
  ·have endl:∀(W2:y) (r:Loop),Books R [] w W2 r→r.state≠ .busy→∃W3,(Instr.endLoop (w.heap.size+1)).run P W2=.ok r.pending W3∧Mod [w.heap.size,w.heap.size+1] W2 W3∧(∀k∈[w.heap.size,w.heap.size+1],(k∈[w.heap.size,w.heap.size+1]∨W2.heap.size≤k)∧k < W3.heap.size)∧Keep R w W3∧W3.heap[w.heap.size]? =u (.deferred (u [])):=fun W2 r hb hst=>by
    have hlt:=hb.size;refine ⟨_,run_endLoop (P:=P) hb.rec_ hst,(Mod.refl _ _).putObj _ _ (ze),?_,hb.kept.trans fun k hk=>?_,(z (zc)).trans hb.col⟩
    ·intro k hk;refine ⟨.inl hk,?_⟩;simp at hk ⊢;omega
    ·exact z (qR)
   rintro e W2 ⟨⟨v,rfl⟩,(⟨hi,hb⟩ | ⟨pre,hpre,c,hi,hb⟩)⟩
   ·obtain ⟨W3,hr,m,hX,hk,hD⟩:=endl W2 _ hb (by rw [hrec];simp);exact ⟨Z,W3,by rw [hr,hrec],hdone _ _ W3 (ze) (ze) (hI _ _ _ _ _ hi m hX) hk hD⟩
   ·obtain ⟨W3,hr,m,hX,hk,hD⟩:=endl W2 _ hb (by rw [hrec];simp);exact ⟨u c,W3,by rw [hr,hrec],hstop _ _ c pre W3 (ze) (ze) hpre (hIx _ _ _ _ _ _ hi m hX) hk hD⟩
end
end Go.Proofs.YtbnpoapmnkfhkaaGreatDoor
