/- Mq32: Rx -/
import Derived.Test.YtlafpknoiihaaaaGreatDoorMq01
import Derived.RangeFuncNested
import Derived.RangeFuncBound
import Derived.RangeFuncCalls
import Derived.RangeFuncLeaves
import Derived.Shelf.Abstract
import Derived.Shelf.RegionOpen
import Derived.OwnWalkIn
import Derived.TacticsInMore
import Derived.LoopNIn
import Derived.LoopIn
set_option linter.unusedVariables false
set_option linter.unusedSimpArgs false
namespace Go.Proofs.YtlafpknoiihaaaaGreatDoor
open Go.RowKit Go.Shelf
theorem Mod.putObj {S:List Nat} {a w:World} (h:Mod S a w) (r:Nat) (o:Obj) (hr:r < a.heap.size→r∈S):Mod S a (w.putObj r o):=
 ⟨h.os,h.tape,h.output,by have:=h.size;simp;omega,fun k hk hn=>(World.putObj_heap_other (fun e=>hn (by rw [e];exact hr (by rw [←e];exact hk)))).trans (h.block k hk hn)⟩
def Stable {β:Type} (J:List Nat→β→World→Prop):Prop:=
 ∀X X' s A B,J X s A→Mod X A B→(∀k∈X',(k∈X∨A.heap.size≤k)∧k < B.heap.size)→J X' s B
section
variable {P:Program} {α:Type}
def Seq (P:Program) (g:Nat) (lb:Array Value) (enc:α→Value) (R:List Nat) (L:List α) (w:World):Prop:=
 (∀k∈R,k < w.heap.size)∧(∀args w,(callFunc g args).run P w=.ok (.enter g args) w)∧
 ∀(l:Nat) (J Jx:List Nat→List α→World→Prop) (W:World),w.heap.size≤W.heap.size→Keep R w W→Stable J→Stable Jx→
  (∀X pre x rest W1,L=pre++x::rest→J X pre W1→(∀k∈X,k < W1.heap.size)→Keep R w W1→
   YieldAt Fence.wide 0 P l #[enc x] W1 fun e W'=>W1.heap.size≤W'.heap.size∧Keep (R++X) W1 W'∧
    ((e=.returned (.bool true)∧J X (pre++[x]) W')∨(e=.returned (.bool false)∧Jx X (pre++[x]) W')))→
  J [] [] W→
  Calls P g (#[.func (.yield l) #[] #[]]++lb) W fun e W'=>(∃v,e=.returned v)∧(J [] L W'∨∃pre,pre <+:L∧Jx [] pre W')
theorem Seq.later {g:Nat} {lb:Array Value} {enc:α→Value} {R:List Nat} {L:List α} {w w':World} (h:Seq P g lb enc R L w) (hs:w.heap.size≤w'.heap.size) (hk:Keep R w w'):Seq P g lb enc R L w':=
 ⟨fun k hk'=>Nat.lt_of_lt_of_le (h.1 k hk') hs,h.2.1,fun l J Jx W hW hkW hJ hJx hY h0=>
  h.2.2 l J Jx W (Nat.le_trans hs hW) (hk.trans hkW) hJ hJx (fun X pre x rest W1 e hj hx hkr=>hY X pre x rest W1 e hj hx (fun k hk'=>(hkr k hk').trans (hk k hk').symm)) h0⟩
theorem Seq.mod {g:Nat} {lb:Array Value} {enc:α→Value} {R S:List Nat} {L:List α} {w w':World} (h:Seq P g lb enc R L w) (m:Mod S w w') (hd:∀k∈R,k∉S):Seq P g lb enc R L w':=
 h.later m.size (m.keep fun k hk=>⟨h.1 k hk,hd k hk⟩)
def rpost (R X:List Nat) (I:List Nat→List α→World→Prop) (Ix:Code→List Nat→List α→World→Prop) (xs:List α) (W:World):Exit→Act→World→Prop
 | .normal,_,W'=>W.heap.size≤W'.heap.size∧Keep (R++X) W W'∧I X xs W'
 | .ret,_,W'=>W.heap.size≤W'.heap.size∧Keep (R++X) W W'∧Ix .ret X xs W'
 | .exit id,_,W'=>W.heap.size≤W'.heap.size∧Keep (R++X) W W'∧Ix (.exit id) X xs W'
 | .goto t,_,W'=>W.heap.size≤W'.heap.size∧Keep (R++X) W W'∧Ix (.goto t) X xs W'
 | .panic _,_,_=>False
 | .outgrown,_,_=>False
structure Books (R X:List Nat) (w W:World) (r:Loop):Prop where
 rec_:W.heap[w.heap.size+1]? =some (.loop r)
 col:W.heap[w.heap.size]? =some (.deferred (some []))
 nl:w.heap.size+1∉X
 nd:w.heap.size∉X
 kept:Keep R w W
 above:∀k∈X,w.heap.size≤k
theorem Books.size {R X:List Nat} {w W:World} {r:Loop} (h:Books R X w W r):w.heap.size+1 < W.heap.size:=(Array.getElem?_eq_some_iff.1 h.rec_).1
theorem Books.step {R X X':List Nat} {w A B:World} {r:Loop} (h:Books R X w A r) (hR:∀k∈R,k < w.heap.size) (m:Mod X A B) (hX:∀k∈X',(k∈X∨A.heap.size≤k)∧k < B.heap.size):Books R X' w B r:=by
 have hs:=h.size
 refine ⟨(m.block _ hs h.nl).trans h.rec_,(m.block _ (by omega) h.nd).trans h.col,fun hm=>?_,fun hm=>?_,h.kept.trans (m.keep fun k hk=>⟨by have:=hR k hk;omega,fun hm=>?_⟩),fun k hk=>?_⟩
 ·rcases (hX _ hm).1 with h1 | h1
  ·exact h.nl h1
  ·omega
 ·rcases (hX _ hm).1 with h1 | h1
  ·exact h.nd h1
  ·omega
 ·have:=hR k hk;have:=h.above k hm;omega
 ·rcases (hX _ hk).1 with h1 | h1
  ·exact h.above k h1
  ·omega
theorem wpIn_range {g:Operand} {ps:Array Tmp} {assign body:Code} {Q:Exit→Act→World→Prop} {a:Act} {w:World} {gf:Nat} {lb:Array Value} (hg:a.eval g=.func (.func gf) #[] lb)
 {enc:α→Value} {R:List Nat} {L:List α} (hseq:Seq P gf lb enc R L w) (hps:ps.size=1)
 (I:List Nat→List α→World→Prop) (Ix:Code→List Nat→List α→World→Prop) (hI:Stable I) (hIx:∀c,Stable (Ix c)) (h0:I [] [] w) (a₁:α→Act)
 (hassign:∀(l:Nat) (x:α) (W:World) (K:Act→World→Prop),K (a₁ x) W→
  assign.wpIn (Fence.wide.inRound l) 0 P (Exit.then K (fun _ _ _=>False)) { tmps:=(ps.zip #[enc x]).foldl (fun t (p,v)=>t.setIfInBounds p v) a.tmps,defers:=[] } W)
 (hbody:∀(l:Nat) (X:List Nat) (pre:List α) (x:α) (rest:List α) (W:World),L=pre++x::rest→I X pre W→(∀k∈X,k < W.heap.size)→Keep R w W→
  body.wpIn (Fence.wide.inRound l) 0 P (rpost R X I Ix (pre++[x]) W) (a₁ x) W)
 (hdone:∀(D:Nat) (X:List Nat) (W:World),D∈X→(∀k∈X,w.heap.size≤k)→I X L W→Keep R w W→W.heap[D]? =some (.deferred (some []))→Q .normal { a with defers:={ target:=.collected D,args:=#[] }::a.defers } W)
 (hstop:∀(D:Nat) (X:List Nat) (c:Code) (pre:List α) (W:World),D∈X→(∀k∈X,w.heap.size≤k)→pre <+:L→Ix c X pre W→Keep R w W→W.heap[D]? =some (.deferred (some []))→c.wpIn Fence.wide 0 P Q { a with defers:={ target:=.collected D,args:=#[] }::a.defers } W):
 (Code.rangeFunc g ps assign body).wpIn Fence.wide 0 P Q a w:=by
 refine wpIn_rangeFunc ?_
 intro fn hfn
 obtain ⟨rec,hrec⟩:∃rec:LoopState→Option Code→Loop,rec=fun st pe=>{ state:=st,pending:=pe,fn,tmps:=a.tmps,params:=ps,assign,body,defers:=w.heap.size }:=⟨_,rfl⟩
 obtain ⟨W1,hW1⟩:∃W1,(w.alloc (.deferred (some []))).alloc (.loop (rec .ready none))=W1:=⟨_,rfl⟩
 have hz1:W1.heap.size=w.heap.size+2:=by rw [←hW1];simp
 have m01:Mod [] w W1:=by rw [←hW1];exact ((Mod.refl _ _).alloc _).alloc _
 have hB1:Books R [] w W1 (rec .ready none):=by
  refine ⟨?_,?_,by simp,by simp,m01.keep fun k hk=>⟨hseq.1 k hk,by simp⟩,by simp⟩
  ·rw [←hW1];have:=World.alloc_heap_new (w.alloc (.deferred (some []))) (.loop (rec .ready none));rwa [World.size_alloc] at this
  ·rw [←hW1];exact (Below.heap_alloc _ _ _ (by simp)).trans (World.alloc_heap_new w _)
 have hI1:I [w.heap.size,w.heap.size+1] [] W1:=hI _ _ _ _ _ h0 m01 (by simp;omega)
 refine ⟨w.heap.size+1,[{ target:=.collected w.heap.size,args:=#[] }],W1,{ target:=.fn (.func gf) lb,args:=#[.func (.yield (w.heap.size+1)) #[] #[]] },W1,gf,
  #[.func (.yield (w.heap.size+1)) #[] #[]]++lb,W1,?_,?_,?_,?_,?_,?_⟩
 ·rw [←hW1,hrec];exact run_enterLoop_outer _ _ _ _ _
 ·simp only [resolve,hg]
  simp [go_sem]
 ·intro f' _;trivial
 ·simp [invoke,go_sem,hseq.2.1]
 ·intro h;simp [Fence.wide] at h
 ·refine callsIn_wide.2 ((hseq.2.2 (w.heap.size+1)
   (fun X pre W=>I (w.heap.size::(w.heap.size+1)::X) pre W∧Books R X w W (rec .ready none))
   (fun X pre W=>∃c,Ix c (w.heap.size::(w.heap.size+1)::X) pre W∧Books R X w W (rec .done (some c)))
   W1 m01.size hB1.kept ?_ ?_ ?_ ⟨hI1,hB1⟩).mono ?_)
  ·rintro X X' s A B ⟨h1,h2⟩ m hX
   have hs:=h2.size
   refine ⟨hI _ _ _ _ _ h1 (m.mono fun k _ hk=>by simp [hk]) (fun k hk=>?_),h2.step hseq.1 m hX⟩
   have hsm:=m.size
   simp only [List.mem_cons] at hk ⊢
   rcases hk with rfl | rfl | hk
   ·exact ⟨.inl (.inl rfl),by omega⟩
   ·exact ⟨.inl (.inr (.inl rfl)),by omega⟩
   ·rcases hX k hk with ⟨h | h,h'⟩
    ·exact ⟨.inl (.inr (.inr h)),h'⟩
    ·exact ⟨.inr h,h'⟩
  ·rintro X X' s A B ⟨c,h1,h2⟩ m hX
   have hs:=h2.size
   refine ⟨c,hIx c _ _ _ _ _ h1 (m.mono fun k _ hk=>by simp [hk]) (fun k hk=>?_),h2.step hseq.1 m hX⟩
   have hsm:=m.size
   simp only [List.mem_cons] at hk ⊢
   rcases hk with rfl | rfl | hk
   ·exact ⟨.inl (.inl rfl),by omega⟩
   ·exact ⟨.inl (.inr (.inl rfl)),by omega⟩
   ·rcases hX k hk with ⟨h | h,h'⟩
    ·exact ⟨.inl (.inr (.inr h)),h'⟩
    ·exact ⟨.inr h,h'⟩
  ·rintro X pre x rest W hL ⟨hi,hb⟩ hX hkR
   have hlt:=hb.size
   have hRl:∀k∈R,k≠w.heap.size+1:=fun k hk e=>by have:=hseq.1 k hk;omega
   have hy:=run_yield (P:=P) (args:=#[enc x]) hb.rec_ (by rw [hrec];simp [hps])
   rw [hrec] at hy
   refine ⟨fn,_,assign,body,hy,roundIn_of_wpIn hfn (hassign _ x W _ ⟨_,run_beginRound hb.rec_ (by rw [hrec]),?_⟩)⟩
   clear hy
   obtain ⟨W2,hW2⟩:∃W2,W.putObj (w.heap.size+1) (.loop { rec .ready none with state:=.busy })=W2:=⟨_,rfl⟩
   have hl2:W2.heap[w.heap.size+1]? =some (.loop { rec .ready none with state:=.busy }):=by rw [←hW2];exact World.putObj_heap_same hlt
   have m2:Mod [w.heap.size+1] W W2:=by rw [←hW2];exact (Mod.refl _ _).putObj _ _ (by simp)
   have hz2:W2.heap.size=W.heap.size:=by rw [←hW2];simp
   have hX2:∀k∈w.heap.size::(w.heap.size+1)::X,k < W2.heap.size:=by
    intro k hk
    simp only [List.mem_cons] at hk
    rcases hk with rfl | rfl | hk
    ·omega
    ·omega
    ·rw [hz2];exact hX k hk
   have k2:Keep (R++X) W W2:=m2.keep fun k hk=>by
    simp only [List.mem_append] at hk
    rcases hk with hk | hk
    ·exact ⟨by have:=hseq.1 k hk;omega,by simp;exact hRl k hk⟩
    ·exact ⟨hX k hk,by simp;rintro rfl;exact hb.nl hk⟩
   have hi2:I (w.heap.size::(w.heap.size+1)::X) pre W2:=hI _ _ _ _ _ hi (m2.mono fun k _ hk=>by simp at hk;simp [hk]) (fun k hk=>⟨.inl hk,hX2 k hk⟩)
   rw [hW2]
   refine wpIn_mono (hbody _ _ pre x rest W2 hL hi2 hX2 (hkR.trans (fun k hk=>k2 k (List.mem_append_left _ hk)))) ?_
   have fin:∀(jump:Option Code) (W3:World),W2.heap.size≤W3.heap.size→Keep (R++w.heap.size::(w.heap.size+1)::X) W2 W3→∃W4,
    (Instr.endRound (w.heap.size+1) jump).run P W3=.ok (.bool jump.isNone) W4∧W.heap.size≤W4.heap.size∧Keep (R++X) W W4∧Mod [w.heap.size+1] W3 W4∧W4.heap.size=W3.heap.size∧
    Books R X w W4 (rec (if jump.isNone then .ready else .done) jump):=fun jump W3 hs3 hk3=>by
    have hl3:W3.heap[w.heap.size+1]? =some (.loop { rec .ready none with state:=.busy }):=(hk3 _ (by simp)).trans hl2
    have hr:=run_endRound (P:=P) jump hl3
    have m3:Mod [w.heap.size+1] W3 (W3.putObj (w.heap.size+1) (.loop (rec (if jump.isNone then .ready else .done) jump))):=(Mod.refl _ _).putObj _ _ (by simp)
    have k3:Keep (R++X) W3 (W3.putObj (w.heap.size+1) (.loop (rec (if jump.isNone then .ready else .done) jump))):=m3.keep fun k hk=>by
     simp only [List.mem_append] at hk
     rcases hk with hk | hk
     ·exact ⟨by have:=hseq.1 k hk;omega,by simp;exact hRl k hk⟩
     ·exact ⟨by have:=hX k hk;omega,by simp;rintro rfl;exact hb.nl hk⟩
    have k23:Keep (R++X) W2 W3:=fun k hk=>hk3 k (by
     simp only [List.mem_append,List.mem_cons] at hk ⊢
     rcases hk with hk | hk
     ·exact .inl hk
     ·exact .inr (.inr (.inr hk)))
    have kw:=(k2.trans k23).trans k3
    refine ⟨_,by rw [hr,hrec],by simp;omega,kw,m3,by simp,?_,?_,hb.nl,hb.nd,hb.kept.trans (fun k hk=>kw k (List.mem_append_left _ hk)),hb.above⟩
    ·exact World.putObj_heap_same (by omega)
    ·refine (World.putObj_heap_other (by omega)).trans ((hk3 _ (by simp)).trans ?_)
     rw [←hW2];exact (World.putObj_heap_other (by omega)).trans hb.col
   rintro e a3 W3 hp
   have last:∀(W4:World),Mod [w.heap.size+1] W3 W4→W4.heap.size=W3.heap.size→W2.heap.size≤W3.heap.size→Mod (w.heap.size::(w.heap.size+1)::X) W3 W4∧∀k∈w.heap.size::(w.heap.size+1)::X,(k∈w.heap.size::(w.heap.size+1)::X∨W3.heap.size≤k)∧k < W4.heap.size:=
    fun W4 m h4 h3=>⟨m.mono fun k _ hk=>by simp at hk;simp [hk],fun k hk=>⟨.inl hk,by have:=hX2 k hk;omega⟩⟩
   cases e with
   | normal=>
    obtain ⟨hs3,hk3,hi3⟩:=hp
    obtain ⟨W4,hr,s4,k4,m4,z4,b4⟩:=fin none W3 hs3 hk3
    obtain ⟨l1,l2⟩:=last W4 m4 z4 hs3
    exact ⟨_,W4,hr,s4,k4,.inl ⟨rfl,hI _ _ _ _ _ hi3 l1 l2,b4⟩⟩
   | ret=>
    obtain ⟨hs3,hk3,hi3⟩:=hp
    obtain ⟨W4,hr,s4,k4,m4,z4,b4⟩:=fin (some .ret) W3 hs3 hk3
    obtain ⟨l1,l2⟩:=last W4 m4 z4 hs3
    exact ⟨_,W4,hr,s4,k4,.inr ⟨rfl,.ret,hIx _ _ _ _ _ _ hi3 l1 l2,b4⟩⟩
   | exit id=>
    obtain ⟨hs3,hk3,hi3⟩:=hp
    obtain ⟨W4,hr,s4,k4,m4,z4,b4⟩:=fin (some (.exit id)) W3 hs3 hk3
    obtain ⟨l1,l2⟩:=last W4 m4 z4 hs3
    exact ⟨_,W4,hr,s4,k4,.inr ⟨rfl,.exit id,hIx _ _ _ _ _ _ hi3 l1 l2,b4⟩⟩
   | goto t=>
    obtain ⟨hs3,hk3,hi3⟩:=hp
    obtain ⟨W4,hr,s4,k4,m4,z4,b4⟩:=fin (some (.goto t)) W3 hs3 hk3
    obtain ⟨l1,l2⟩:=last W4 m4 z4 hs3
    exact ⟨_,W4,hr,s4,k4,.inr ⟨rfl,.goto t,hIx _ _ _ _ _ _ hi3 l1 l2,b4⟩⟩
   | panic ch=>exact hp.elim
   | outgrown=>exact hp.elim
  ·have endl:∀(W2:World) (r:Loop),Books R [] w W2 r→r.state≠ .busy→∃W3,(Instr.endLoop (w.heap.size+1)).run P W2=.ok r.pending W3∧Mod [w.heap.size,w.heap.size+1] W2 W3∧(∀k∈[w.heap.size,w.heap.size+1],(k∈[w.heap.size,w.heap.size+1]∨W2.heap.size≤k)∧k < W3.heap.size)∧Keep R w W3∧W3.heap[w.heap.size]? =some (.deferred (some [])):=fun W2 r hb hst=>by
    have hlt:=hb.size
    refine ⟨_,run_endLoop (P:=P) hb.rec_ hst,(Mod.refl _ _).putObj _ _ (by simp),?_,hb.kept.trans fun k hk=>?_,(World.putObj_heap_other (by omega)).trans hb.col⟩
    ·intro k hk
     refine ⟨.inl hk,?_⟩
     simp at hk ⊢
     omega
    ·exact World.putObj_heap_other (by have:=hseq.1 k hk;omega)
   rintro e W2 ⟨⟨v,rfl⟩,(⟨hi,hb⟩ | ⟨pre,hpre,c,hi,hb⟩)⟩
   ·obtain ⟨W3,hr,m,hX,hk,hD⟩:=endl W2 _ hb (by rw [hrec];simp)
    exact ⟨none,W3,by rw [hr,hrec],hdone _ _ W3 (by simp) (by simp) (hI _ _ _ _ _ hi m hX) hk hD⟩
   ·obtain ⟨W3,hr,m,hX,hk,hD⟩:=endl W2 _ hb (by rw [hrec];simp)
    exact ⟨some c,W3,by rw [hr,hrec],hstop _ _ c pre W3 (by simp) (by simp) hpre (hIx _ _ _ _ _ _ hi m hX) hk hD⟩
end
end Go.Proofs.YtlafpknoiihaaaaGreatDoor
