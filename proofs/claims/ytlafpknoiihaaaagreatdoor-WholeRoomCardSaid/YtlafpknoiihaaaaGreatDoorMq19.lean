/- Mq19: J5 · J6 · J7 · J8 -/
import Derived.Test.YtlafpknoiihaaaaGreatDoorMq17
import Derived.Deep.RegionHeld3
import Derived.Deep.CutRange
import Derived.BigQuiet
import Derived.Test.YtlafpknoiihaaaaGreatDoorMq04
set_option maxRecDepth 100000
set_option maxHeartbeats 4000000
set_option linter.unusedVariables false
set_option linter.unusedSimpArgs false
namespace Go.Proofs.YtlafpknoiihaaaaGreatDoor
open Go.RowKit
theorem Blk.eq {w:World} {b:Nat} {c c':Array Value} {t:TypeId} (h:Blk w b c t) (e:c=c'):Blk w b c' t:=e▸h
structure Prv (w0 w:World) (X:List Nat) (b:Nat) (c:Array Value) (t:TypeId):Prop where
 blk:Blk w b c t
 no:b∉X
 new:w0.heap.size≤b
theorem Prv.call {w0 w w':World} {bo:Nat} {X X':List Nat} {b:Nat} {c:Array Value} {t:TypeId} (h:Prv w0 w (bo::X) b c t) (g:Grow w w' X X'):Prv w0 w' (bo::X') b c t:=
 ⟨h.blk.mod g.mod (fun q=>h.no (List.mem_cons_of_mem _ q)),fun q=>(List.mem_cons.1 q).elim (fun e=>h.no (by simp [e])) (g.out h.blk.lt (fun q=>h.no (List.mem_cons_of_mem _ q))),h.new⟩
theorem Prv.mod {w0 w w':World} {X S:List Nat} {b:Nat} {c:Array Value} {t:TypeId} (h:Prv w0 w X b c t) (m:Mod S w w') (hn:b∉S):Prv w0 w' X b c t:=⟨h.blk.mod m hn,h.no,h.new⟩
structure SpA (w0 w:World) (bs n room:Nat) (F0:List Nat) (bo bc g:Nat) (L:List Rc) (F:List Nat):Prop where
 eng:EngA w bs n room L F bo bc g
 gr:Grow w0 w (bc::g::F0) (bc::g::F)
theorem SpA.write {w0 w w':World} {bs n room:Nat} {F0:List Nat} {bo bc g:Nat} {L:List Rc} {F S:List Nat} (h:SpA w0 w bs n room F0 bo bc g L F) (m:Mod S w w') (h0:∀k∈S,w0.heap.size≤k) (h1:∀k∈S,k∉bo::bc::g::F):SpA w0 w' bs n room F0 bo bc g L F:=
 ⟨h.eng.mod m (fun k hk hS=>h1 k hS hk),h.gr.write m h0⟩
theorem SpA.grown {w0 w w':World} {bs n room:Nat} {F0:List Nat} {bo bc g:Nat} {L L2:List Rc} {F F':List Nat} (h:SpA w0 w bs n room F0 bo bc g L F) (s:Sto w' bs n room (L++L2) F') (m:Grow w w' F F'):SpA w0 w' bs n room F0 bo bc g (L++L2) F':=
 ⟨h.eng.grown s m,h.gr.trans ((m.cons g).cons bc)⟩
theorem SpA.did {w0 w w':World} {bs n room:Nat} {F0:List Nat} {bo bc g:Nat} {L L2:List Rc} {F F':List Nat} (h:SpA w0 w bs n room F0 bo bc g L F) (s:EngA w' bs n room (L++L2) F' bo bc g) (m:Grow w w' (bc::g::F) (bc::g::F')):SpA w0 w' bs n room F0 bo bc g (L++L2) F':=⟨s,h.gr.trans m⟩
theorem split_succ {lm bs n room bo bc g f op k l:Nat} (h1:1≤f) (h5:f≤5) (hn:n≤16) (hrm:room≤100000) (hop:op < 256) (hlk:l+(k+1)=n) (ih:DoA lm bs n room bo bc g f op k (l+1)):SplA lm bs n room bo bc g f op (k+1) l:=by
 intro w L F at_ aa bt ba ct ca ta tb tc cc HE hR ea eb ec
 have LB:Hid (Rm n f lm room L (cst1 lm (l+1)+(cst1 lm (l+1)+(cst1 lm (l+1)+(budA (lm - (l+1))+(budA (lm - (l+1))+(cst1 lm l+cc))))))):=hR.eq (by rw [budA_step lm l];omega)
 have VW:Hid (∀(W:World) (L':List Rc) (F':List Nat) (et ea:Nat) (t':List Bool) (c':Nat),Sto W bs n room L' F'→Rm n f lm room L' (cst1 lm (l+1)+c')→EdT L' f n (k+1) l ⟨et,ea⟩ t'→
  Calls Tryz.prog 145 #[.pointer (some ⟨bs,0,none⟩),.int .u8 f,.agg #[.int .u8 et,.int .u32 ea],.int .i64 l] W (VwR W bs n room L' F' f k l t' lm c')):=fun W L' F' et ea t' c' s a1 e=>view_r (e:=⟨et,ea⟩) h1 h5 s a1 hrm hn e
 have MK:Hid (∀(W:World) (L':List Rc) (F':List Nat) (et ea et2 ea2:Nat) (t' u':List Bool) (c':Nat),Sto W bs n room L' F'→Rm n f lm room L' (cst1 lm l+c')→EdT L' f n k (l+1) ⟨et,ea⟩ t'→EdT L' f n k (l+1) ⟨et2,ea2⟩ u'→
  Calls Tryz.prog 90 #[.pointer (some ⟨bs,0,none⟩),.int .u8 f,.int .i64 l,.agg #[.int .u8 et,.int .u32 ea],.agg #[.int .u8 et2,.int .u32 ea2]] W (MkR W bs n room L' F' f (k+1) l (t'++u') lm c')):=fun W L' F' et ea et2 ea2 t' u' c' s a1 e e'=>make_r (lo:=⟨et,ea⟩) (hi:=⟨et2,ea2⟩) h1 h5 s a1 hrm hn e e'
 have DO:Hid (∀(W:World) (L':List Rc) (F':List Nat) (x1 x2 x3 x4 x5 x6:Nat) (t1 t2 t3:List Bool) (c':Nat),EngA W bs n room L' F' bo bc g→Rm n f lm room L' (budA (lm - (l+1))+c')→
  EdT L' f n k (l+1) ⟨x1,x2⟩ t1→EdT L' f n k (l+1) ⟨x3,x4⟩ t2→EdT L' f n k (l+1) ⟨x5,x6⟩ t3→
  Calls Tryz.prog 91 #[.pointer (some ⟨bo,0,none⟩),.agg #[.int .u8 f,.int .u8 op,.int .u8 ((l:Int)+1),.int .u8 x1,.int .u32 x2,.int .u8 x3,.int .u32 x4,.int .u8 x5,.int .u32 x6]] W (DoR W bs n room L' F' bo bc g f k (l+1) (op3T op t1 t2 t3) lm c')):=fun W L' F' x1 x2 x3 x4 x5 x6 t1 t2 t3 c' a b d e h=>by
  have:=ih W L' F' x1 x2 x3 x4 x5 x6 t1 t2 t3 c' a b d e h
  simpa using this
 have eT:op3T op ta tb tc=op3T op (ta.take (2 ^ k)) (tb.take (2 ^ k)) (tc.take (2 ^ k))++op3T op (ta.drop (2 ^ k)) (tb.drop (2 ^ k)) (tc.drop (2 ^ k)):=by
  have l1:=ea.len
  have l2:=eb.len
  have l3:=ec.len
  rw [Nat.pow_succ] at l1 l2 l3
  exact op3T_split (by omega) (by omega) (by omega)
 rw [eT]
 have hlt:(l:Int) < 16:=by omega
 have WL:IntKind.u8.wrap ((l:Int)+1)=(l:Int)+1:=IntWalk.u8_in _ ⟨by omega,by omega⟩
 have E1:=Lib.hid ea
 have E2:=Lib.hid eb
 have E3:=Lib.hid ec
 have HX:=Lib.hid HE
 have LT:=Lib.hid HE.lt
 obtain ⟨gj,hgj⟩:∃gj,w.heap.size=gj:=⟨_,rfl⟩
 clear HE ea eb ec hR ih eT hop hlk
 go_enter Tryz.func123,Tryz.ntmps123
 go_upto_region 2 with fail
 have BJ0:=Blk.new' w #[.int .u8 f,.int .u8 op,.int .u8 l,.int .u8 at_,.int .u32 aa,.int .u8 bt,.int .u32 ba,.int .u8 ct,.int .u32 ca] 122 gj hgj.symm
 have BJ1:=BJ0.alloc (.cells #[.int .u8 0,.int .u32 0] 66)
 have BR1:=Blk.new' (w.alloc (.cells #[.int .u8 f,.int .u8 op,.int .u8 l,.int .u8 at_,.int .u32 aa,.int .u8 bt,.int .u32 ba,.int .u8 ct,.int .u32 ca] 122)) #[.int .u8 0,.int .u32 0] 66 (gj+1) (by simp [hgj])
 have M1:Hid (Mod [] w ((w.alloc (.cells #[.int .u8 f,.int .u8 op,.int .u8 l,.int .u8 at_,.int .u32 aa,.int .u8 bt,.int .u32 ba,.int .u8 ct,.int .u32 ca] 122)).alloc (.cells #[.int .u8 0,.int .u32 0] 66))):=by exact mods
 have hs1:((w.alloc (.cells #[.int .u8 f,.int .u8 op,.int .u8 l,.int .u8 at_,.int .u32 aa,.int .u8 bt,.int .u32 ba,.int .u8 ct,.int .u32 ca] 122)).alloc (.cells #[.int .u8 0,.int .u32 0] 66)).heap.size=gj+1+1:=by simp [hgj]
 generalize (w.alloc (.cells #[.int .u8 f,.int .u8 op,.int .u8 l,.int .u8 at_,.int .u32 aa,.int .u8 bt,.int .u32 ba,.int .u8 ct,.int .u32 ca] 122)).alloc (.cells #[.int .u8 0,.int .u32 0] 66)=w1 at *
 have HBJ:=Lib.hid BJ1
 have HBR:=Lib.hid BR1
 clear BJ0 BR1
 obtain ⟨j0,j1,j2,j3,j4,j5,j6,j7,j8⟩:=cells9 BJ1
 have hjl:=BJ1.lt
 clear BJ1
 have nA:¬gj=gj+1+1:=by omega
 have nB:¬gj=gj+1+1+1:=by omega
 go_cut [7,8] from 15 to 16 (fun p q wx=>∃gl gh,p=.pointer (some ⟨gl,0,none⟩)∧q=.pointer (some ⟨gh,0,none⟩)∧Hid (Blk wx gl #[.int .u8 f,.int .u8 op,.int .u8 l,.int .u8 at_,.int .u32 aa,.int .u8 bt,.int .u32 ba,.int .u8 ct,.int .u32 ca] 122)∧Hid (Blk wx gh #[.int .u8 f,.int .u8 op,.int .u8 l,.int .u8 at_,.int .u32 aa,.int .u8 bt,.int .u32 ba,.int .u8 ct,.int .u32 ca] 122)∧gj+1 < gl∧gj+1 < gh∧gl≠gh∧Hid (Mod [] w1 wx))
 case first=>
  go_region
  all_goals (go_wp2_with fail;go_meet)
  all_goals
   have BN:=((Blk.new' w1 #[.int .u8 f,.int .u8 op,.int .u8 l,.int .u8 at_,.int .u32 aa,.int .u8 bt,.int .u32 ba,.int .u8 ct,.int .u32 ca] 122 (gj+1+1) hs1.symm).alloc (.cells #[.int .u8 f,.int .u8 op,.int .u8 l,.int .u8 at_,.int .u32 aa,.int .u8 bt,.int .u32 ba,.int .u8 ct,.int .u32 ca] 122))
   have BN1:=(Blk.new' (w1.alloc (.cells #[.int .u8 f,.int .u8 op,.int .u8 l,.int .u8 at_,.int .u32 aa,.int .u8 bt,.int .u32 ba,.int .u8 ct,.int .u32 ca] 122)) #[.int .u8 f,.int .u8 op,.int .u8 l,.int .u8 at_,.int .u32 aa,.int .u8 bt,.int .u32 ba,.int .u8 ct,.int .u32 ca] 122 (gj+1+1+1) (by simp [hs1]))
   have MN:Mod [] w1 ((w1.alloc (.cells #[.int .u8 f,.int .u8 op,.int .u8 l,.int .u8 at_,.int .u32 aa,.int .u8 bt,.int .u32 ba,.int .u8 ct,.int .u32 ca] 122)).alloc (.cells #[.int .u8 f,.int .u8 op,.int .u8 l,.int .u8 at_,.int .u32 aa,.int .u8 bt,.int .u32 ba,.int .u8 ct,.int .u32 ca] 122)):=((Mod.refl _ _).alloc _).alloc _
   first
    | exact ⟨_,_,rfl,rfl,BN,BN1,by omega,by omega,by omega,by first | exact MN | exact MN.drew | exact MN.drewN _⟩
    | exact ⟨_,_,rfl,rfl,BN1,BN,by omega,by omega,by omega,by first | exact MN | exact MN.drew | exact MN.drewN _⟩
 case rest=>
  obtain ⟨gl,gh,rfl,rfl,BL,BH,hgl,hgh,hlh,M2⟩:=hcut
  have BJ:=Lib.hid (HBJ.out.mod M2.out (by simp))
  have BR:=Lib.hid (HBR.out.mod M2.out (by simp))
  replace M2:=Lib.hid (M1.out.trans' M2.out)
  generalize wc=w2 at *
  clear nA nB HBJ HBR M1 hs1 hjl j0 j1 j2 j3 j4 j5 j6 j7 j8
  obtain ⟨j0,j1,j2,-⟩:=cells9 BJ.out
  have hjl:¬gj=gl:=by omega
  have hlj:¬gl=gj:=by omega
  have hjh:¬gj=gh:=by omega
  have hhj:¬gh=gj:=by omega
  have hhl:¬gh=gl:=fun e=>hlh e.symm
  have hrl:¬gj+1=gl:=by omega
  have hrh:¬gj+1=gh:=by omega
  have u0:=BL.out.froz 2
  have u1:=BH.out.froz 2
  have x0:=BL.out.cell 2
  have x1:=BH.out.cell 2
  simp only [List.getElem?_toArray,List.getElem?_cons_zero,List.getElem?_cons_succ] at x0 x1
  have hgll:=BL.out.lt
  have hghl:=BH.out.lt
  have hgjj:=BJ.out.lt
  go_upto_region 3 with fail
  go_cut [6] from 17 to 24 (fun p wx=>p=.int .i64 l∧Hid (Blk wx gl #[.int .u8 f,.int .u8 op,.int .u8 ((l:Int)+1),.int .u8 at_,.int .u32 aa,.int .u8 bt,.int .u32 ba,.int .u8 ct,.int .u32 ca] 122)∧Hid (Blk wx gh #[.int .u8 f,.int .u8 op,.int .u8 ((l:Int)+1),.int .u8 at_,.int .u32 aa,.int .u8 bt,.int .u32 ba,.int .u8 ct,.int .u32 ca] 122)∧Hid (Mod [gl,gh] w2 wx))
  case first=>
   go_region
   all_goals (go_wp2_with fail;go_meet)
   all_goals
    refine ⟨rfl,?_,?_,by exact mods⟩
    ·first
      | exact Blk.eq ((BL.out.set 2 (.int .u8 ((l:Int)+1))).other ⟨gh,2,none⟩ (.int .u8 ((l:Int)+1)) hlh).drew (by simp)
      | exact Blk.eq ((BL.out.other ⟨gh,2,none⟩ (.int .u8 ((l:Int)+1)) hlh).set 2 (.int .u8 ((l:Int)+1))).drew (by simp)
    ·first
      | exact Blk.eq ((BH.out.other ⟨gl,2,none⟩ (.int .u8 ((l:Int)+1)) hhl).set 2 (.int .u8 ((l:Int)+1))).drew (by simp)
      | exact Blk.eq ((BH.out.set 2 (.int .u8 ((l:Int)+1))).other ⟨gl,2,none⟩ (.int .u8 ((l:Int)+1)) hhl).drew (by simp)
  case rest=>
   obtain ⟨rfl,BL2,BH2,M3⟩:=hcut
   clear j0 j1 j2 u0 u1 x0 x1 hgll hghl hgjj
   have NJ:Hid (∀b,gj≤b→b∉bo::bc::g::F):=fun b hb h=>by have:=LT.out b h;omega
   have SP:Hid (SpA w wc bs n room F bo bc g L F):=⟨(HX.out.mod0 M2.out).mod M3.out (fun k hk q=>by simp at q;have:=LT.out k hk;omega),(Grow.of_mod M2.out).write M3.out (fun k hk=>by simp at hk;omega)⟩
   have PJ:Hid (Prv w wc (bo::bc::g::F) gj #[.int .u8 f,.int .u8 op,.int .u8 l,.int .u8 at_,.int .u32 aa,.int .u8 bt,.int .u32 ba,.int .u8 ct,.int .u32 ca] 122):=⟨BJ.out.mod M3.out (by simp;exact ⟨hjl,hjh⟩),NJ.out _ (by omega),by omega⟩
   have PR:Hid (Prv w wc (bo::bc::g::F) (gj+1) #[.int .u8 0,.int .u32 0] 66):=⟨BR.out.mod M3.out (by simp;exact ⟨hrl,hrh⟩),NJ.out _ (by omega),by omega⟩
   have PL:Hid (Prv w wc (bo::bc::g::F) gl #[.int .u8 f,.int .u8 op,.int .u8 ((l:Int)+1),.int .u8 at_,.int .u32 aa,.int .u8 bt,.int .u32 ba,.int .u8 ct,.int .u32 ca] 122):=⟨BL2.out,NJ.out _ (by omega),by omega⟩
   have PH:Hid (Prv w wc (bo::bc::g::F) gh #[.int .u8 f,.int .u8 op,.int .u8 ((l:Int)+1),.int .u8 at_,.int .u32 aa,.int .u8 bt,.int .u32 ba,.int .u8 ct,.int .u32 ca] 122):=⟨BH2.out,NJ.out _ (by omega),by omega⟩
   obtain ⟨gr,hgr⟩:∃gr,gj+1=gr:=⟨_,rfl⟩
   rw [hgr] at hrl hrh PR ⊢
   have JR:Hid (¬gj=gr):=by show ¬_;omega
   clear BJ BR BL BH BL2 BH2 M2 M3 NJ hgj hgl hgh hgr
   generalize wc=wa at *
   have LB1:=LB
   have ST:=Lib.hid SP.out.eng.sto
   have hbol:=SP.out.eng.ops.lt
   have q0:=SP.out.eng.ops.cell 0
   have q1:=PJ.out.blk.cell 0
   have q2:=PJ.out.blk.cell 3
   have q3:=PJ.out.blk.cell 4
   simp only [List.getElem?_toArray,List.getElem?_cons_zero,List.getElem?_cons_succ] at q0 q1 q2 q3
   have hgjl:=PJ.out.blk.lt
   have nbo:=SP.out.eng.no.1
   have nj:gj∉F:=fun h=>PJ.out.no (by simp [h])
   have nl:gl∉F:=fun h=>PL.out.no (by simp [h])
   have nh:gh∉F:=fun h=>PH.out.no (by simp [h])
   have d1:¬bo=gl:=fun h=>PL.out.no (by simp [h])
   have d2:¬gl=bo:=fun h=>PL.out.no (by simp [h])
   have d3:¬bo=gh:=fun h=>PH.out.no (by simp [h])
   have d4:¬gh=bo:=fun h=>PH.out.no (by simp [h])
   go_upto_region 5 with fail
   go_cut [9] from 26 to 40 (fun p wx=>∃(lt1 la1 ht1 ha1:Nat) (L1:List Rc) (F1:List Nat),p=.int .u8 0∧Hid (SpA w wx bs n room F bo bc g (L++L1) F1)∧Hid (Prv w wx (bo::bc::g::F1) gj #[.int .u8 f,.int .u8 op,.int .u8 l,.int .u8 at_,.int .u32 aa,.int .u8 bt,.int .u32 ba,.int .u8 ct,.int .u32 ca] 122)∧Hid (Prv w wx (bo::bc::g::F1) gr #[.int .u8 0,.int .u32 0] 66)∧Hid (Prv w wx (bo::bc::g::F1) gl #[.int .u8 f,.int .u8 op,.int .u8 ((l:Int)+1),.int .u8 lt1,.int .u32 la1,.int .u8 bt,.int .u32 ba,.int .u8 ct,.int .u32 ca] 122)∧Hid (Prv w wx (bo::bc::g::F1) gh #[.int .u8 f,.int .u8 op,.int .u8 ((l:Int)+1),.int .u8 ht1,.int .u32 ha1,.int .u8 bt,.int .u32 ba,.int .u8 ct,.int .u32 ca] 122)∧Hid (EdT (L++L1) f n k (l+1) ⟨lt1,la1⟩ (ta.take (2 ^ k)))∧Hid (EdT (L++L1) f n k (l+1) ⟨ht1,ha1⟩ (ta.drop (2 ^ k)))∧Hid (Rm n f lm room (L++L1) (cst1 lm (l+1)+(cst1 lm (l+1)+(budA (lm - (l+1))+(budA (lm - (l+1))+(cst1 lm l+cc)))))))
   case first=>
    go_region_held3 (fun w'=>w'.cell? ⟨bo,0,none⟩=some (.pointer (some ⟨bs,0,none⟩))∧w'.cell? ⟨gj,0,none⟩=some (.int .u8 f)∧w'.cell? ⟨gj,3,none⟩=some (.int .u8 at_)∧w'.cell? ⟨gj,4,none⟩=some (.int .u32 aa)) (go_keep) (first | (go_at_call 145;refine (VW.out _ _ _ at_ aa ta _ (ST.out.mod (S:=[]) (by exact mods) (by simp)) LB1.out E1.out).mono ?_;rintro e' w2 ⟨lt1,la1,ht1,ha1,L1,F1,rfl,s2,g2,e1,e2,hl2⟩;have G2:=Grow.trans (Grow.of_mod (F:=F) (show Mod [] wa _ from by exact mods)) g2;have q0:=(G2.mod.cell (a:=⟨bo,0,none⟩) hbol nbo).trans q0;have bj2:=Blk.mod PJ.out.blk G2.mod nj;have bl2:=Blk.mod PL.out.blk G2.mod nl;have bh2:=Blk.mod PH.out.blk G2.mod nh;have q1:=bj2.cell 0;have q2:=bj2.cell 3;have q3:=bj2.cell 4;have r0:=bl2.cell 3;have r1:=bl2.cell 4;have r2:=bh2.cell 3;have r3:=bh2.cell 4;have u0:=bl2.froz 3;have u1:=bl2.froz 4;have u2:=bh2.froz 3;have u3:=bh2.froz 4;simp only [List.getElem?_toArray,List.getElem?_cons_zero,List.getElem?_cons_succ] at q1 q2 q3 r0 r1 r2 r3;have hgl2:=bl2.lt;have hgh2:=bh2.lt;have hgj2:=bj2.lt;have hbo2:=Nat.lt_of_lt_of_le hbol G2.mod.size))
    all_goals (go_wp2_with fail;go_meet)
    all_goals
     refine ⟨lt1,la1,ht1,ha1,L1,F1,rfl,?_⟩
     have SG:=SP.out.grown s2 G2
     have GC:=(G2.cons g).cons bc
     have PL2:=PL.out.call GC
     have PH2:=PH.out.call GC
     refine ⟨SG.write (S:=[gl,gh]) (by exact mods) (by intro k hk;simp at hk;rcases hk with rfl | rfl;exact PL.out.new;exact PH.out.new) (by intro k hk;simp at hk;rcases hk with rfl | rfl;exact PL2.no;exact PH2.no),(PJ.out.call GC).mod (S:=[gl,gh]) (by exact mods) (by simp;exact ⟨hjl,hjh⟩),(PR.out.call GC).mod (S:=[gl,gh]) (by exact mods) (by simp;exact ⟨hrl,hrh⟩),⟨?_,PL2.no,PL.out.new⟩,⟨?_,PH2.no,PH.out.new⟩,e1,e2,hl2⟩
     ·first
       | exact Blk.eq ((((bl2.set 3 (.int .u8 lt1)).set 4 (.int .u32 la1)).other ⟨gh,3,none⟩ (.int .u8 ht1) hlh).other ⟨gh,4,none⟩ (.int .u32 ha1) hlh) (by simp)
       | exact Blk.eq ((((bl2.other ⟨gh,3,none⟩ (.int .u8 ht1) hlh).other ⟨gh,4,none⟩ (.int .u32 ha1) hlh).set 3 (.int .u8 lt1)).set 4 (.int .u32 la1)) (by simp)
     ·first
       | exact Blk.eq ((((bh2.other ⟨gl,3,none⟩ (.int .u8 lt1) hhl).other ⟨gl,4,none⟩ (.int .u32 la1) hhl).set 3 (.int .u8 ht1)).set 4 (.int .u32 ha1)) (by simp)
       | exact Blk.eq ((((bh2.set 3 (.int .u8 ht1)).set 4 (.int .u32 ha1)).other ⟨gl,3,none⟩ (.int .u8 lt1) hhl).other ⟨gl,4,none⟩ (.int .u32 la1) hhl) (by simp)
   case rest=>
    clear SP PJ PR PL PH q0 q1 q2 q3 hbol hgjl nbo nj nl nh d1 d2 d3 d4 ST
    obtain ⟨lt1,la1,ht1,ha1,L1,F1,rfl,SP,PJ,PR,PL,PH,EL1,EH1,hl1⟩:=hcut
    clear wa
    generalize wc=wa at *
    have EB:=Lib.hid (E2.out.grow L1)
    have LB2:=hl1
    have ST:=Lib.hid SP.out.eng.sto
    have hbol:=SP.out.eng.ops.lt
    have q0:=SP.out.eng.ops.cell 0
    have q1:=PJ.out.blk.cell 0
    have q2:=PJ.out.blk.cell 5
    have q3:=PJ.out.blk.cell 6
    simp only [List.getElem?_toArray,List.getElem?_cons_zero,List.getElem?_cons_succ] at q0 q1 q2 q3
    have hgjl:=PJ.out.blk.lt
    have nbo:=SP.out.eng.no.1
    have nj:gj∉F1:=fun h=>PJ.out.no (by simp [h])
    have nl:gl∉F1:=fun h=>PL.out.no (by simp [h])
    have nh:gh∉F1:=fun h=>PH.out.no (by simp [h])
    have d1:¬bo=gl:=fun h=>PL.out.no (by simp [h])
    have d2:¬gl=bo:=fun h=>PL.out.no (by simp [h])
    have d3:¬bo=gh:=fun h=>PH.out.no (by simp [h])
    have d4:¬gh=bo:=fun h=>PH.out.no (by simp [h])
    go_upto_region 8 with fail
    go_cut [9] from 46 to 60 (fun p wx=>∃(lt2 la2 ht2 ha2:Nat) (L2:List Rc) (F2:List Nat),p=.int .u8 0∧Hid (SpA w wx bs n room F bo bc g ((L++L1)++L2) F2)∧Hid (Prv w wx (bo::bc::g::F2) gj #[.int .u8 f,.int .u8 op,.int .u8 l,.int .u8 at_,.int .u32 aa,.int .u8 bt,.int .u32 ba,.int .u8 ct,.int .u32 ca] 122)∧Hid (Prv w wx (bo::bc::g::F2) gr #[.int .u8 0,.int .u32 0] 66)∧Hid (Prv w wx (bo::bc::g::F2) gl #[.int .u8 f,.int .u8 op,.int .u8 ((l:Int)+1),.int .u8 lt1,.int .u32 la1,.int .u8 lt2,.int .u32 la2,.int .u8 ct,.int .u32 ca] 122)∧Hid (Prv w wx (bo::bc::g::F2) gh #[.int .u8 f,.int .u8 op,.int .u8 ((l:Int)+1),.int .u8 ht1,.int .u32 ha1,.int .u8 ht2,.int .u32 ha2,.int .u8 ct,.int .u32 ca] 122)∧Hid (EdT ((L++L1)++L2) f n k (l+1) ⟨lt2,la2⟩ (tb.take (2 ^ k)))∧Hid (EdT ((L++L1)++L2) f n k (l+1) ⟨ht2,ha2⟩ (tb.drop (2 ^ k)))∧Hid (Rm n f lm room ((L++L1)++L2) (cst1 lm (l+1)+(budA (lm - (l+1))+(budA (lm - (l+1))+(cst1 lm l+cc))))))
    case first=>
     go_region_held3 (fun w'=>w'.cell? ⟨bo,0,none⟩=some (.pointer (some ⟨bs,0,none⟩))∧w'.cell? ⟨gj,0,none⟩=some (.int .u8 f)∧w'.cell? ⟨gj,5,none⟩=some (.int .u8 bt)∧w'.cell? ⟨gj,6,none⟩=some (.int .u32 ba)) (go_keep) (first | (go_at_call 145;refine (VW.out _ _ _ bt ba tb _ (ST.out.mod (S:=[]) (by exact mods) (by simp)) LB2.out EB.out).mono ?_;rintro e' w2 ⟨lt2,la2,ht2,ha2,L2,F2,rfl,s2,g2,e1,e2,hl2⟩;have G2:=Grow.trans (Grow.of_mod (F:=F1) (show Mod [] wa _ from by exact mods)) g2;have q0:=(G2.mod.cell (a:=⟨bo,0,none⟩) hbol nbo).trans q0;have bj2:=Blk.mod PJ.out.blk G2.mod nj;have bl2:=Blk.mod PL.out.blk G2.mod nl;have bh2:=Blk.mod PH.out.blk G2.mod nh;have q1:=bj2.cell 0;have q2:=bj2.cell 5;have q3:=bj2.cell 6;have r0:=bl2.cell 5;have r1:=bl2.cell 6;have r2:=bh2.cell 5;have r3:=bh2.cell 6;have u0:=bl2.froz 5;have u1:=bl2.froz 6;have u2:=bh2.froz 5;have u3:=bh2.froz 6;simp only [List.getElem?_toArray,List.getElem?_cons_zero,List.getElem?_cons_succ] at q1 q2 q3 r0 r1 r2 r3;have hgl2:=bl2.lt;have hgh2:=bh2.lt;have hgj2:=bj2.lt;have hbo2:=Nat.lt_of_lt_of_le hbol G2.mod.size))
     all_goals (go_wp2_with fail;go_meet)
     all_goals
      refine ⟨lt2,la2,ht2,ha2,L2,F2,rfl,?_⟩
      have SG:=SP.out.grown s2 G2
      have GC:=(G2.cons g).cons bc
      have PL2:=PL.out.call GC
      have PH2:=PH.out.call GC
      refine ⟨SG.write (S:=[gl,gh]) (by exact mods) (by intro k hk;simp at hk;rcases hk with rfl | rfl;exact PL.out.new;exact PH.out.new) (by intro k hk;simp at hk;rcases hk with rfl | rfl;exact PL2.no;exact PH2.no),(PJ.out.call GC).mod (S:=[gl,gh]) (by exact mods) (by simp;exact ⟨hjl,hjh⟩),(PR.out.call GC).mod (S:=[gl,gh]) (by exact mods) (by simp;exact ⟨hrl,hrh⟩),⟨?_,PL2.no,PL.out.new⟩,⟨?_,PH2.no,PH.out.new⟩,e1,e2,hl2⟩
      ·first
        | exact Blk.eq ((((bl2.set 5 (.int .u8 lt2)).set 6 (.int .u32 la2)).other ⟨gh,5,none⟩ (.int .u8 ht2) hlh).other ⟨gh,6,none⟩ (.int .u32 ha2) hlh) (by simp)
        | exact Blk.eq ((((bl2.other ⟨gh,5,none⟩ (.int .u8 ht2) hlh).other ⟨gh,6,none⟩ (.int .u32 ha2) hlh).set 5 (.int .u8 lt2)).set 6 (.int .u32 la2)) (by simp)
      ·first
        | exact Blk.eq ((((bh2.other ⟨gl,5,none⟩ (.int .u8 lt2) hhl).other ⟨gl,6,none⟩ (.int .u32 la2) hhl).set 5 (.int .u8 ht2)).set 6 (.int .u32 ha2)) (by simp)
        | exact Blk.eq ((((bh2.set 5 (.int .u8 ht2)).set 6 (.int .u32 ha2)).other ⟨gl,5,none⟩ (.int .u8 lt2) hhl).other ⟨gl,6,none⟩ (.int .u32 la2) hhl) (by simp)
    case rest=>
     clear SP PJ PR PL PH q0 q1 q2 q3 hbol hgjl nbo nj nl nh d1 d2 d3 d4 ST
     obtain ⟨lt2,la2,ht2,ha2,L2,F2,rfl,SP,PJ,PR,PL,PH,EL2,EH2,hl2⟩:=hcut
     clear wa
     generalize wc=wa at *
     have EC:=Lib.hid ((E3.out.grow L1).grow L2)
     have LB3:=hl2
     have ST:=Lib.hid SP.out.eng.sto
     have hbol:=SP.out.eng.ops.lt
     have q0:=SP.out.eng.ops.cell 0
     have q1:=PJ.out.blk.cell 0
     have q2:=PJ.out.blk.cell 7
     have q3:=PJ.out.blk.cell 8
     simp only [List.getElem?_toArray,List.getElem?_cons_zero,List.getElem?_cons_succ] at q0 q1 q2 q3
     have hgjl:=PJ.out.blk.lt
     have nbo:=SP.out.eng.no.1
     have nj:gj∉F2:=fun h=>PJ.out.no (by simp [h])
     have nl:gl∉F2:=fun h=>PL.out.no (by simp [h])
     have nh:gh∉F2:=fun h=>PH.out.no (by simp [h])
     have d1:¬bo=gl:=fun h=>PL.out.no (by simp [h])
     have d2:¬gl=bo:=fun h=>PL.out.no (by simp [h])
     have d3:¬bo=gh:=fun h=>PH.out.no (by simp [h])
     have d4:¬gh=bo:=fun h=>PH.out.no (by simp [h])
     go_upto_region 11 with fail
     go_cut [9] from 66 to 80 (fun p wx=>∃(lt3 la3 ht3 ha3:Nat) (L3:List Rc) (F3:List Nat),p=.int .u8 0∧Hid (SpA w wx bs n room F bo bc g (((L++L1)++L2)++L3) F3)∧Hid (Prv w wx (bo::bc::g::F3) gj #[.int .u8 f,.int .u8 op,.int .u8 l,.int .u8 at_,.int .u32 aa,.int .u8 bt,.int .u32 ba,.int .u8 ct,.int .u32 ca] 122)∧Hid (Prv w wx (bo::bc::g::F3) gr #[.int .u8 0,.int .u32 0] 66)∧Hid (Prv w wx (bo::bc::g::F3) gl #[.int .u8 f,.int .u8 op,.int .u8 ((l:Int)+1),.int .u8 lt1,.int .u32 la1,.int .u8 lt2,.int .u32 la2,.int .u8 lt3,.int .u32 la3] 122)∧Hid (Prv w wx (bo::bc::g::F3) gh #[.int .u8 f,.int .u8 op,.int .u8 ((l:Int)+1),.int .u8 ht1,.int .u32 ha1,.int .u8 ht2,.int .u32 ha2,.int .u8 ht3,.int .u32 ha3] 122)∧Hid (EdT (((L++L1)++L2)++L3) f n k (l+1) ⟨lt3,la3⟩ (tc.take (2 ^ k)))∧Hid (EdT (((L++L1)++L2)++L3) f n k (l+1) ⟨ht3,ha3⟩ (tc.drop (2 ^ k)))∧Hid (Rm n f lm room (((L++L1)++L2)++L3) (budA (lm - (l+1))+(budA (lm - (l+1))+(cst1 lm l+cc)))))
     case first=>
      go_region_held3 (fun w'=>w'.cell? ⟨bo,0,none⟩=some (.pointer (some ⟨bs,0,none⟩))∧w'.cell? ⟨gj,0,none⟩=some (.int .u8 f)∧w'.cell? ⟨gj,7,none⟩=some (.int .u8 ct)∧w'.cell? ⟨gj,8,none⟩=some (.int .u32 ca)) (go_keep) (first | (go_at_call 145;refine (VW.out _ _ _ ct ca tc _ (ST.out.mod (S:=[]) (by exact mods) (by simp)) LB3.out EC.out).mono ?_;rintro e' w2 ⟨lt3,la3,ht3,ha3,L3,F3,rfl,s2,g2,e1,e2,hl2⟩;have G2:=Grow.trans (Grow.of_mod (F:=F2) (show Mod [] wa _ from by exact mods)) g2;have q0:=(G2.mod.cell (a:=⟨bo,0,none⟩) hbol nbo).trans q0;have bj2:=Blk.mod PJ.out.blk G2.mod nj;have bl2:=Blk.mod PL.out.blk G2.mod nl;have bh2:=Blk.mod PH.out.blk G2.mod nh;have q1:=bj2.cell 0;have q2:=bj2.cell 7;have q3:=bj2.cell 8;have r0:=bl2.cell 7;have r1:=bl2.cell 8;have r2:=bh2.cell 7;have r3:=bh2.cell 8;have u0:=bl2.froz 7;have u1:=bl2.froz 8;have u2:=bh2.froz 7;have u3:=bh2.froz 8;simp only [List.getElem?_toArray,List.getElem?_cons_zero,List.getElem?_cons_succ] at q1 q2 q3 r0 r1 r2 r3;have hgl2:=bl2.lt;have hgh2:=bh2.lt;have hgj2:=bj2.lt;have hbo2:=Nat.lt_of_lt_of_le hbol G2.mod.size))
      all_goals (go_wp2_with fail;go_meet)
      all_goals
       refine ⟨lt3,la3,ht3,ha3,L3,F3,rfl,?_⟩
       have SG:=SP.out.grown s2 G2
       have GC:=(G2.cons g).cons bc
       have PL2:=PL.out.call GC
       have PH2:=PH.out.call GC
       refine ⟨SG.write (S:=[gl,gh]) (by exact mods) (by intro k hk;simp at hk;rcases hk with rfl | rfl;exact PL.out.new;exact PH.out.new) (by intro k hk;simp at hk;rcases hk with rfl | rfl;exact PL2.no;exact PH2.no),(PJ.out.call GC).mod (S:=[gl,gh]) (by exact mods) (by simp;exact ⟨hjl,hjh⟩),(PR.out.call GC).mod (S:=[gl,gh]) (by exact mods) (by simp;exact ⟨hrl,hrh⟩),⟨?_,PL2.no,PL.out.new⟩,⟨?_,PH2.no,PH.out.new⟩,e1,e2,hl2⟩
       ·first
         | exact Blk.eq ((((bl2.set 7 (.int .u8 lt3)).set 8 (.int .u32 la3)).other ⟨gh,7,none⟩ (.int .u8 ht3) hlh).other ⟨gh,8,none⟩ (.int .u32 ha3) hlh) (by simp)
         | exact Blk.eq ((((bl2.other ⟨gh,7,none⟩ (.int .u8 ht3) hlh).other ⟨gh,8,none⟩ (.int .u32 ha3) hlh).set 7 (.int .u8 lt3)).set 8 (.int .u32 la3)) (by simp)
       ·first
         | exact Blk.eq ((((bh2.other ⟨gl,7,none⟩ (.int .u8 lt3) hhl).other ⟨gl,8,none⟩ (.int .u32 la3) hhl).set 7 (.int .u8 ht3)).set 8 (.int .u32 ha3)) (by simp)
         | exact Blk.eq ((((bh2.set 7 (.int .u8 ht3)).set 8 (.int .u32 ha3)).other ⟨gl,7,none⟩ (.int .u8 lt3) hhl).other ⟨gl,8,none⟩ (.int .u32 la3) hhl) (by simp)
     case rest=>
      clear SP PJ PR PL PH q0 q1 q2 q3 hbol hgjl nbo nj nl nh d1 d2 d3 d4 ST
      obtain ⟨lt3,la3,ht3,ha3,L3,F3,rfl,SP,PJ,PR,PL,PH,EL3,EH3,hl3⟩:=hcut
      clear wa
      generalize wc=wa at *
      obtain ⟨q0,q1,q2,q3,q4,q5,q6,q7,q8⟩:=cells9 PL.out.blk
      have hgx:=PL.out.blk.lt
      have LBD4:=hl3
      go_wp2_with fail
      refine (DO.out _ (((L++L1)++L2)++L3) F3 lt1 la1 lt2 la2 lt3 la3 _ _ _ _ (SP.out.eng.mod0 (by exact mods)) LBD4.out ((EL1.out.grow L2).grow L3) (EL2.out.grow L3) EL3.out).mono ?_
      rintro e wd ⟨xt,xa,L4,F4,rfl,en,gd,ex,hl4⟩
      have Ex:=Lib.hid ex
      have SPn:=Lib.hid (SP.out.did en gd)
      have PJn:=Lib.hid (PJ.out.call gd)
      have PRn:=Lib.hid (PR.out.call gd)
      have PLn:=Lib.hid (PL.out.call gd)
      have PHn:=Lib.hid (PH.out.call gd)
      clear q0 q1 q2 q3 q4 q5 q6 q7 q8 hgx en gd ex SP PJ PR PL PH
      obtain ⟨gx,hgx⟩:∃gx,wd.heap.size=gx:=⟨_,rfl⟩
      have Mx:Hid (Mod [] wd (wd.alloc (.cells #[.int .u8 xt,.int .u32 xa] 66))):=by exact mods
      have LTn:=Lib.hid SPn.out.eng.lt
      have PXx:Hid (Prv w (wd.alloc (.cells #[.int .u8 xt,.int .u32 xa] 66)) (bo::bc::g::F4) gx #[.int .u8 xt,.int .u32 xa] 66):=⟨Blk.new' _ _ _ _ hgx.symm,fun h=>by have:=LTn.out _ h;omega,by have:=SPn.out.gr.size;omega⟩
      have SP:=Lib.hid (SPn.out.write (S:=[]) Mx.out (by simp) (by simp))
      have PJ:=Lib.hid (PJn.out.mod Mx.out (by simp))
      have PR:=Lib.hid (PRn.out.mod Mx.out (by simp))
      have PL:=Lib.hid (PLn.out.mod Mx.out (by simp))
      have PH:=Lib.hid (PHn.out.mod Mx.out (by simp))
      have hjx:¬gj=gx:=by have:=PJn.out.blk.lt;omega
      have hrx:¬gr=gx:=by have:=PRn.out.blk.lt;omega
      have hxxl:¬gl=gx:=by have:=PLn.out.blk.lt;omega
      have hxxh:¬gh=gx:=by have:=PHn.out.blk.lt;omega
      clear SPn PJn PRn PLn PHn Mx LTn
      go_upto_region 15 with fail
      generalize hwx:wd.alloc (.cells #[.int .u8 xt,.int .u32 xa] 66)=wx at *
      clear hwx hgx
      obtain ⟨q0,q1,q2,q3,q4,q5,q6,q7,q8⟩:=cells9 PH.out.blk
      have hgx:=PH.out.blk.lt
      have LBD5:Hid _:=hl4
      clear hl4
      go_wp2_with fail
      refine (DO.out _ ((((L++L1)++L2)++L3)++L4) F4 ht1 ha1 ht2 ha2 ht3 ha3 _ _ _ _ (SP.out.eng.mod0 (by exact mods)) LBD5.out (((EH1.out.grow L2).grow L3).grow L4) ((EH2.out.grow L3).grow L4) (EH3.out.grow L4)).mono ?_
      rintro e wd ⟨yt,ya,L5,F5,rfl,en,gd,ex,hl5⟩
      have Ey:=Lib.hid ex
      have SPn:=Lib.hid (SP.out.did en gd)
      have PJn:=Lib.hid (PJ.out.call gd)
      have PRn:=Lib.hid (PR.out.call gd)
      have PLn:=Lib.hid (PL.out.call gd)
      have PHn:=Lib.hid (PH.out.call gd)
      have PXn:=Lib.hid (PXx.out.call gd)
      clear PXx
      clear q0 q1 q2 q3 q4 q5 q6 q7 q8 hgx en gd ex SP PJ PR PL PH
      obtain ⟨gy,hgy⟩:∃gy,wd.heap.size=gy:=⟨_,rfl⟩
      have My:Hid (Mod [] wd (wd.alloc (.cells #[.int .u8 yt,.int .u32 ya] 66))):=by exact mods
      have LTn:=Lib.hid SPn.out.eng.lt
      have PXy:Hid (Prv w (wd.alloc (.cells #[.int .u8 yt,.int .u32 ya] 66)) (bo::bc::g::F5) gy #[.int .u8 yt,.int .u32 ya] 66):=⟨Blk.new' _ _ _ _ hgy.symm,fun h=>by have:=LTn.out _ h;omega,by have:=SPn.out.gr.size;omega⟩
      have SP:=Lib.hid (SPn.out.write (S:=[]) My.out (by simp) (by simp))
      have PJ:=Lib.hid (PJn.out.mod My.out (by simp))
      have PR:=Lib.hid (PRn.out.mod My.out (by simp))
      have PL:=Lib.hid (PLn.out.mod My.out (by simp))
      have PH:=Lib.hid (PHn.out.mod My.out (by simp))
      have PXx:=Lib.hid (PXn.out.mod My.out (by simp))
      have hjy:¬gj=gy:=by have:=PJn.out.blk.lt;omega
      have hry:¬gr=gy:=by have:=PRn.out.blk.lt;omega
      have hxyl:¬gl=gy:=by have:=PLn.out.blk.lt;omega
      have hxyh:¬gh=gy:=by have:=PHn.out.blk.lt;omega
      have hxy:¬gx=gy:=by have:=PXn.out.blk.lt;omega
      clear PXn
      clear SPn PJn PRn PLn PHn My LTn
      go_upto_region 20 with fail
      generalize hwz:wd.alloc (.cells #[.int .u8 yt,.int .u32 ya] 66)=wz at *
      clear hwz hgy
      have ST:=Lib.hid SP.out.eng.sto
      have hbol:=SP.out.eng.ops.lt
      have q0:=SP.out.eng.ops.cell 0
      have q1:=PJ.out.blk.cell 0
      simp only [List.getElem?_toArray,List.getElem?_cons_zero,List.getElem?_cons_succ] at q0 q1
      obtain ⟨q2,q3⟩:=PXx.out.blk.cells2
      obtain ⟨q4,q5⟩:=PXy.out.blk.cells2
      have hgjl:=PJ.out.blk.lt
      have hgxl:=PXx.out.blk.lt
      have hgyl:=PXy.out.blk.lt
      have nbo:=SP.out.eng.no.1
      have nj:gj∉F5:=fun h=>PJ.out.no (by simp [h])
      have nx:gx∉F5:=fun h=>PXx.out.no (by simp [h])
      have ny:gy∉F5:=fun h=>PXy.out.no (by simp [h])
      have nr:gr∉F5:=fun h=>PR.out.no (by simp [h])
      have d1:¬bo=gr:=fun h=>PR.out.no (by simp [h])
      have d2:¬gr=bo:=fun h=>PR.out.no (by simp [h])
      have d3:¬gj=gr:=JR.out
      have d6:¬gr=gj:=fun h=>d3 h.symm
      have d4:¬gx=gr:=fun h=>hrx h.symm
      have d5:¬gy=gr:=fun h=>hry h.symm
      have EX:=Lib.hid (Ex.out.grow L5)
      have LB6:Hid _:=hl5
      clear hl5
      go_region_held3 (fun w'=>w'.cell? ⟨bo,0,none⟩=some (.pointer (some ⟨bs,0,none⟩))∧w'.cell? ⟨gj,0,none⟩=some (.int .u8 f)∧w'.cell? ⟨gx,0,none⟩=some (.int .u8 xt)∧w'.cell? ⟨gx,1,none⟩=some (.int .u32 xa)∧w'.cell? ⟨gy,0,none⟩=some (.int .u8 yt)∧w'.cell? ⟨gy,1,none⟩=some (.int .u32 ya)) (go_keep) (first | (go_at_call 90;refine (MK.out _ _ _ xt xa yt ya _ _ _ (ST.out.mod (S:=[]) (by exact mods) (by simp)) LB6.out EX.out Ey.out).mono ?_;rintro e' w8 ⟨rt,ra,L6,F6,rfl,s6,g6,e6,hl6⟩;have G6:=Grow.trans (Grow.of_mod (F:=F5) (show Mod [] wz _ from by exact mods)) g6;have q0:=(G6.mod.cell (a:=⟨bo,0,none⟩) hbol nbo).trans q0;have q1:=(G6.mod.cell (a:=⟨gj,0,none⟩) hgjl nj).trans q1;have q2:=(G6.mod.cell (a:=⟨gx,0,none⟩) hgxl nx).trans q2;have q3:=(G6.mod.cell (a:=⟨gx,1,none⟩) hgxl nx).trans q3;have q4:=(G6.mod.cell (a:=⟨gy,0,none⟩) hgyl ny).trans q4;have q5:=(G6.mod.cell (a:=⟨gy,1,none⟩) hgyl ny).trans q5;have br:=Blk.mod PR.out.blk G6.mod nr;obtain ⟨r0,r1⟩:=br.cells2;obtain ⟨u0,u1,-⟩:=br.frozs;have hgr8:=br.lt;have hbo8:=Nat.lt_of_lt_of_le hbol G6.mod.size;have hgj8:=Nat.lt_of_lt_of_le hgjl G6.mod.size;have hgx8:=Nat.lt_of_lt_of_le hgxl G6.mod.size;have hgy8:=Nat.lt_of_lt_of_le hgyl G6.mod.size))
      all_goals
       go_wp2_with fail
       have SG:=SP.out.grown s6 G6
       have GC:=(G6.cons g).cons bc
       have PR6:=PR.out.call GC
       have MW:=Lib.hid (((Mod.refl [gr] w8).setCell ⟨gr,0,none⟩ (.int .u8 rt) (by simp)).setCell ⟨gr,1,none⟩ (.int .u32 ra) (by simp))
       have BW:=(br.set 0 (.int .u8 rt)).set 1 (.int .u32 ra)
       simp only [List.setIfInBounds_toArray,List.set_cons_zero,List.set_cons_succ] at BW
       obtain ⟨z0,z1⟩:=BW.cells2
       have SW:=Lib.hid (SG.write MW.out (by intro k hk;simp at hk;subst hk;exact PR.out.new) (by intro k hk;simp at hk;subst hk;exact PR6.no))
       have E6:=Lib.hid e6
       have H6:=Lib.hid hl6
       clear r0 r1 u0 u1 BW q0 q1 q2 q3 q4 q5 e6 hl6 s6 G6 g6 br
       generalize (w8.setCell ⟨gr,0,none⟩ (.int .u8 rt)).setCell ⟨gr,1,none⟩ (.int .u32 ra)=w9 at *
       have eL:((((((L++L1)++L2)++L3)++L4)++L5)++L6)=L++(L1++(L2++(L3++(L4++(L5++L6))))):=by simp [List.append_assoc]
       rw [eL] at SW E6 H6
       refine bodyPost_ret (v:=.tuple #[.agg #[.int .u8 rt,.int .u32 ra],.int .u8 0]) (by simp [results,Tryz.results123,go_sem,z0,z1];try rfl) rfl ?_
       exact ⟨rt,ra,_,F6,rfl,SW.out.eng,SW.out.gr,E6.out,H6.out⟩
open Go.RowKit
theorem EdT.grow0 {L:List Rc} {f n k l:Nat} {e:Ed} {t:List Bool} (h:EdT L f n k l e t):EdT (L++[]) f n k l e t:=h.grow []
theorem atruth_c (t a:Nat) (w:World):Calls Tryz.prog 121 #[.agg #[.int .u8 t,.int .u32 a]] w fun e w'=>e=.returned (.int .u8 ((decide (0 < a)).toNat:Nat))∧Mod [] w w':=by
 by_cases h:0 < a
 ·have h':(0:Int) < a:=by omega
  rw [decide_eq_true h]
  clear h
  go_enter Tryz.func121,Tryz.ntmps121
  go_wp2
  go_ret
  exact ⟨rfl,by exact mods⟩
 ·have h':¬(0:Int) < a:=by omega
  rw [decide_eq_false h]
  clear h
  go_enter Tryz.func121,Tryz.ntmps121
  go_wp2
  go_ret
  exact ⟨rfl,by exact mods⟩
theorem bit8 (x k:Nat) (hx:x < 256):bits .and .u8 ((x:Int) / 2 ^ k) 1=if x.testBit k then 1 else 0:=by
 have e1:(x:Int) / 2 ^ k=((x / 2 ^ k:Nat):Int):=by rw [Int.natCast_ediv];simp
 have h1:x / 2 ^ k < 256:=Nat.lt_of_le_of_lt (Nat.div_le_self _ _) hx
 rw [e1,show (1:Int)=((1:Nat):Int) from rfl,u8_and_nat _ _ h1 (by omega),Nat.and_one_is_mod,Nat.testBit_eq_decide_div_mod_eq]
 by_cases q:x / 2 ^ k % 2=1
 ·simp [q]
 ·have:x / 2 ^ k % 2=0:=by omega
  simp [this]
def early (op aa ba ca:Nat):Bool:= !op.testBit 0 && ((aa:Int)==0) && ((ba:Int)==0) && ((ca:Int)==0)
theorem early_iff {op aa ba ca:Nat} (h:early op aa ba ca=true):op.testBit 0=false∧aa=0∧ba=0∧ca=0:=by
 unfold early at h
 simp only [Bool.and_eq_true,Bool.not_eq_true',beq_iff_eq] at h
 exact ⟨h.1.1.1,by omega,by omega,by omega⟩
theorem bit8z (x:Nat) (hx:x < 256):bits .and .u8 (x:Int) 1=if x.testBit 0 then 1 else 0:=by
 have:=bit8 x 0 hx
 rw [show (x:Int) / 2 ^ 0=x by simp] at this
 exact this
theorem early_none {L:List Rc} {f n k l op:Nat} {a b c:Ed} {ta tb tc:List Bool} (h1:1≤f) (h5:f≤5) (ea:EdT L f n k l a ta) (eb:EdT L f n k l b tb) (ec:EdT L f n k l c tc) (h:early op a.a b.a c.a=true):EdT L f n k l ⟨0,0⟩ (op3T op ta tb tc):=by
 obtain ⟨h0,ha,hb,hc⟩:=early_iff h
 rw [ea.none h1 h5 ha,eb.none h1 h5 hb,ec.none h1 h5 hc,op3T_none h0]
 exact EdT.zero L ea.lk
theorem do_zero {lm bs n room bo bc g f op:Nat} (h1:1≤f) (h5:f≤5) (hn:n≤16) (hop:op < 256):DoA lm bs n room bo bc g f op 0 n:=by
 intro w L F at_ aa bt ba ct ca ta tb tc cc HE hR ea eb ec
 have RZ:Hid (Rm n f lm room (L++[]) cc):=by show Rm _ _ _ _ _ _;rw [List.append_nil];exact hR.less (by omega)
 have VA:Hid (∀W,Mod [] w W→Calls Tryz.prog 59 #[.pointer (some ⟨bs,0,none⟩)] W fun e w'=>e=.returned (.int .i64 n)∧w'=W):=fun W m=>by
  obtain ⟨ba,bi,Fa,c0,-⟩:=(HE.sto.st.mod m (by simp)).own
  exact stVars_c bs n W c0
 have ON:Hid (∀W',Calls Tryz.prog 88 #[.int .u8 f,.int .i64 n] W' fun e' w'=>e'=.returned (edv (oneE f n))∧Mod [] W' w'):=fun W'=>one_c f h1 h5 n (by omega) W'
 have TR:=Lib.hid atruth_c
 have EZ:Hid (early op aa ba ca=true→EdT L f n 0 n ⟨0,0⟩ (op3T op ta tb tc)):=fun h=>early_none h1 h5 ea eb ec h
 have EB:Hid (EdT L f n 0 n (if op.testBit (4 *(decide (0 < aa)).toNat+2 *(decide (0 < ba)).toNat+(decide (0 < ca)).toNat) then oneE f n else ⟨0,0⟩) (op3T op ta tb tc)):=by
  have eT:op3T op ta tb tc=[op.testBit (4 *(decide (0 < aa)).toNat+2 *(decide (0 < ba)).toNat+(decide (0 < ca)).toNat)]:=by
   rw [ea.leaf h1 h5,eb.leaf h1 h5,ec.leaf h1 h5];rfl
  rw [eT]
  exact EdT.bit L h1 h5 _
 have hxa:(decide (0 < aa)).toNat≤1:=by cases decide (0 < aa)<;>decide
 have hxb:(decide (0 < ba)).toNat≤1:=by cases decide (0 < ba)<;>decide
 have hxc:(decide (0 < ca)).toNat≤1:=by cases decide (0 < ca)<;>decide
 have TRA:=Lib.hid (atruth_c at_ aa)
 have TRB:=Lib.hid (atruth_c bt ba)
 have TRC:=Lib.hid (atruth_c ct ca)
 generalize (decide (0 < aa)).toNat=xa at *
 generalize (decide (0 < ba)).toNat=xb at *
 generalize (decide (0 < ca)).toNat=xc at *
 have OB:=bit8z op hop
 have IX:IntKind.u8.wrap (IntKind.u8.wrap (IntKind.u8.wrap (4 *(xa:Int))+IntKind.u8.wrap (2 *(xb:Int)))+(xc:Int))=((4 *xa+2 *xb+xc:Nat):Int):=by
  rw [IntWalk.u8_in (4 *(xa:Int)) ⟨by omega,by omega⟩,IntWalk.u8_in (2 *(xb:Int)) ⟨by omega,by omega⟩,IntWalk.u8_in (4 *(xa:Int)+2 *(xb:Int)) ⟨by omega,by omega⟩,IntWalk.u8_in _ ⟨by omega,by omega⟩]
  omega
 have B8:=bit8 op (4 *xa+2 *xb+xc) hop
 have hm7:4 *xa+2 *xb+xc≤7:=by omega
 generalize 4 *xa+2 *xb+xc=m at *
 have hnb:(n:Int)≤16:=by omega
 have WN:IntKind.i64.wrap (n:Int)=n:=IntWalk.i64_in _ (by omega)
 generalize op3T op ta tb tc=T at *
 clear ea eb ec hR
 obtain ⟨gj,hgj⟩:∃gj,w.heap.size=gj:=⟨_,rfl⟩
 have LT:=Lib.hid HE.lt
 have BJ1:=(Blk.new' w #[.int .u8 f,.int .u8 op,.int .u8 n,.int .u8 at_,.int .u32 aa,.int .u8 bt,.int .u32 ba,.int .u8 ct,.int .u32 ca] 122 gj hgj.symm).alloc (.cells #[.int .u8 0,.int .u32 0] 66)
 have BR1:=Blk.new' (w.alloc (.cells #[.int .u8 f,.int .u8 op,.int .u8 n,.int .u8 at_,.int .u32 aa,.int .u8 bt,.int .u32 ba,.int .u8 ct,.int .u32 ca] 122)) #[.int .u8 0,.int .u32 0] 66 (gj+1) (by simp [hgj])
 have M1:Hid (Mod [] w ((w.alloc (.cells #[.int .u8 f,.int .u8 op,.int .u8 n,.int .u8 at_,.int .u32 aa,.int .u8 bt,.int .u32 ba,.int .u8 ct,.int .u32 ca] 122)).alloc (.cells #[.int .u8 0,.int .u32 0] 66))):=by exact mods
 have hbol:=HE.ops.lt
 have q0:=HE.ops.cell 0
 have q9:=HE.ops.cell 1
 simp only [List.getElem?_toArray,List.getElem?_cons_zero,List.getElem?_cons_succ] at q0 q9
 have HX:=Lib.hid HE
 clear HE
 go_enter Tryz.func91,Tryz.ntmps91
 go_upto_region 1 with fail
 have q0:=(M1.out.cell (a:=⟨bo,0,none⟩) hbol (by simp)).trans q0
 have q9:=(M1.out.cell (a:=⟨bo,1,none⟩) hbol (by simp)).trans q9
 have nA:¬bo=gj:=by omega
 have nB:¬gj=bo:=by omega
 have nC:¬bo=gj+1:=by omega
 have nD:¬gj+1=bo:=by omega
 replace hbol:=Nat.lt_of_lt_of_le hbol M1.out.size
 generalize (w.alloc (.cells #[.int .u8 f,.int .u8 op,.int .u8 n,.int .u8 at_,.int .u32 aa,.int .u8 bt,.int .u32 ba,.int .u8 ct,.int .u32 ca] 122)).alloc (.cells #[.int .u8 0,.int .u32 0] 66)=w1 at *
 obtain ⟨j0,j1,j2,j3,j4,j5,j6,j7,j8⟩:=cells9 BJ1
 obtain ⟨r0,r1⟩:=BR1.cells2
 obtain ⟨u0,u1,-⟩:=BR1.frozs
 have hjl:=BJ1.lt
 have hrl:=BR1.lt
 have BJ:=Lib.hid BJ1
 have BR:=Lib.hid BR1
 clear BJ1 BR1
 go_cut [31] from 10 to 31 (fun p wx=>p=.bool (early op aa ba ca)∧wx=w1)
 case first=>
  cases hb0:op.testBit 0<;>rw [hb0] at OB<;>simp only [if_true,if_false,Bool.false_eq_true] at OB<;>cases hb1:((aa:Int)==0)<;>cases hb2:((ba:Int)==0)<;>cases hb3:((ca:Int)==0)<;>(go_wp2_with fail;go_meet;simp [early,hb0,hb1,hb2,hb3])
 case rest=>
  obtain ⟨rfl,hw⟩:=hcut
  replace hw:=hw.symm
  subst hw
  cases he:early op aa ba ca with
  | true=>
   go_wp2_with fail
   have BW:=(BR.out.set 0 (.int .u8 0)).set 1 (.int .u32 0)
   simp only [List.setIfInBounds_toArray,List.set_cons_zero,List.set_cons_succ] at BW
   obtain ⟨z0,z1⟩:=BW.cells2
   have MW:Hid (Mod [] w ((w1.setCell ⟨gj+1,0,none⟩ (.int .u8 0)).setCell ⟨gj+1,1,none⟩ (.int .u32 0))):=(M1.out.setCell ⟨gj+1,0,none⟩ _ (by simp;omega)).setCell ⟨gj+1,1,none⟩ _ (by simp;omega)
   generalize (w1.setCell ⟨gj+1,0,none⟩ (.int .u8 0)).setCell ⟨gj+1,1,none⟩ (.int .u32 0)=w3 at *
   refine bodyPost_ret (v:=.tuple #[.agg #[.int .u8 0,.int .u32 0],.int .u8 0]) (by simp [results,Tryz.results91,go_sem,z0,z1];try rfl) rfl ?_
   exact ⟨0,0,[],F,rfl,by rw [List.append_nil];exact HX.out.mod0 MW.out,Grow.of_mod MW.out,(EZ.out he).grow0,RZ.out⟩
  | false=>
   go_wp2_with fail
   have VB:Hid (∀W,Mod [] w1 W→Calls Tryz.prog 59 #[.pointer (some ⟨bs,0,none⟩)] W fun e w'=>e=.returned (.int .i64 n)∧w'=W):=fun W m=>VA.out W (M1.out.trans' m)
   go_region_held3 (fun w'=>w'.cell? ⟨bo,0,none⟩=some (.pointer (some ⟨bs,0,none⟩))∧w'.cell? ⟨gj,2,none⟩=some (.int .u8 n)) (go_keep) (first | (go_at_call 59;refine (VB.out _ (by first | assumption | exact Mod.refl _ _ | exact Mod.drew (by assumption) | exact mods)).mono ?_;rintro e' w2 ⟨rfl,rfl⟩))
   have JC:Hid (∀W,Mod [] w1 W→W.cell? ⟨gj,1,none⟩=some (.int .u8 op)∧W.cell? ⟨gj,3,none⟩=some (.int .u8 at_)∧W.cell? ⟨gj,4,none⟩=some (.int .u32 aa)∧W.cell? ⟨gj,5,none⟩=some (.int .u8 bt)∧W.cell? ⟨gj,6,none⟩=some (.int .u32 ba)∧W.cell? ⟨gj,7,none⟩=some (.int .u8 ct)∧W.cell? ⟨gj,8,none⟩=some (.int .u32 ca)):=fun W m=>⟨(m.cell (a:=⟨gj,1,none⟩) hjl (by simp)).trans j1,(m.cell (a:=⟨gj,3,none⟩) hjl (by simp)).trans j3,(m.cell (a:=⟨gj,4,none⟩) hjl (by simp)).trans j4,(m.cell (a:=⟨gj,5,none⟩) hjl (by simp)).trans j5,(m.cell (a:=⟨gj,6,none⟩) hjl (by simp)).trans j6,(m.cell (a:=⟨gj,7,none⟩) hjl (by simp)).trans j7,(m.cell (a:=⟨gj,8,none⟩) hjl (by simp)).trans j8⟩
   have TA:Hid (∀W,Mod [] w1 W→Calls Tryz.prog 121 #[.agg #[.int .u8 at_,.int .u32 aa]] W fun e w'=>e=.returned (.int .u8 xa)∧Mod [] w1 w'):=fun W m=>(TRA.out W).mono (by rintro e w' ⟨rfl,m2⟩;exact ⟨rfl,m.trans' m2⟩)
   have TB:Hid (∀W,Mod [] w1 W→Calls Tryz.prog 121 #[.agg #[.int .u8 bt,.int .u32 ba]] W fun e w'=>e=.returned (.int .u8 xb)∧Mod [] w1 w'):=fun W m=>(TRB.out W).mono (by rintro e w' ⟨rfl,m2⟩;exact ⟨rfl,m.trans' m2⟩)
   have TC:Hid (∀W,Mod [] w1 W→Calls Tryz.prog 121 #[.agg #[.int .u8 ct,.int .u32 ca]] W fun e w'=>e=.returned (.int .u8 xc)∧Mod [] w1 w'):=fun W m=>(TRC.out W).mono (by rintro e w' ⟨rfl,m2⟩;exact ⟨rfl,m.trans' m2⟩)
   have JD:Hid (∀W,Mod [] w1 W→W.cell? ⟨gj,0,none⟩=some (.int .u8 f)∧W.cell? ⟨gj,2,none⟩=some (.int .u8 n)):=fun W m=>⟨(m.cell (a:=⟨gj,0,none⟩) hjl (by simp)).trans j0,(m.cell (a:=⟨gj,2,none⟩) hjl (by simp)).trans j2⟩
   clear EZ TRA TRB TRC TR VA
   generalize hoe:oneE f n=oe at *
   obtain ⟨ot,oa⟩:=oe
   unfold edv at ON
   simp only at ON
   clear hoe
   go_wp2_with fail
   cases hbit:op.testBit m with
   | true=>
    rw [hbit] at B8 EB
    simp only [if_true] at B8 EB
    go_region_held3 (fun w'=>Mod [] w1 w'∧w'.cell? ⟨gj,1,none⟩=some (.int .u8 op)∧w'.cell? ⟨gj,3,none⟩=some (.int .u8 at_)∧w'.cell? ⟨gj,4,none⟩=some (.int .u32 aa)∧w'.cell? ⟨gj,5,none⟩=some (.int .u8 bt)∧w'.cell? ⟨gj,6,none⟩=some (.int .u32 ba)∧w'.cell? ⟨gj,7,none⟩=some (.int .u8 ct)∧w'.cell? ⟨gj,8,none⟩=some (.int .u32 ca)) (first | (refine ⟨by first | exact (Mod.refl _ _).drew | exact Mod.refl _ _ | assumption | exact Mod.drew (by assumption) | exact mods,?_⟩;go_keep) | go_keep) (first | (go_at_call 121;first | ((with_reducible refine (TA.out _ (by first | assumption | exact Mod.refl _ _ | exact Mod.drew (by assumption) | exact mods)).mono ?_);rintro e' w2 ⟨rfl,m2⟩;obtain ⟨j1,j3,j4,j5,j6,j7,j8⟩:=JC.out w2 m2) | ((with_reducible refine (TB.out _ (by first | assumption | exact Mod.refl _ _ | exact Mod.drew (by assumption) | exact mods)).mono ?_);rintro e' w2 ⟨rfl,m2⟩;obtain ⟨j1,j3,j4,j5,j6,j7,j8⟩:=JC.out w2 m2) | ((with_reducible refine (TC.out _ (by first | assumption | exact Mod.refl _ _ | exact Mod.drew (by assumption) | exact mods)).mono ?_);rintro e' w2 ⟨rfl,m2⟩;obtain ⟨j1,j3,j4,j5,j6,j7,j8⟩:=JC.out w2 m2)))
    all_goals
     have M2:Hid (Mod [] w1 _):=m2
     obtain ⟨j0,j2⟩:=JD.out _ M2.out
     have BR2:=Lib.hid (BR.out.mod M2.out (by simp))
     clear m2
     go_wp2_with fail
     refine (ON.out _).mono ?_
     rintro e w3 ⟨rfl,m3⟩
     have M3:=Lib.hid (M2.out.trans' (Mod.trans' (show Mod [] _ _ from by exact mods) m3))
     have BR3:=Lib.hid (BR.out.mod M3.out (by simp))
     obtain ⟨r0,r1⟩:=BR3.out.cells2
     obtain ⟨u0,u1,-⟩:=BR3.out.frozs
     have hrl3:=BR3.out.lt
     clear m3 BR2 j0 j2
     go_wp2_with fail
     have BW:=(BR3.out.set 0 (.int .u8 ot)).set 1 (.int .u32 oa)
     simp only [List.setIfInBounds_toArray,List.set_cons_zero,List.set_cons_succ] at BW
     obtain ⟨z0,z1⟩:=BW.cells2
     have MW:Hid (Mod [] w ((w3.setCell ⟨gj+1,0,none⟩ (.int .u8 ot)).setCell ⟨gj+1,1,none⟩ (.int .u32 oa))):=((M1.out.trans' M3.out).setCell ⟨gj+1,0,none⟩ _ (by simp;omega)).setCell ⟨gj+1,1,none⟩ _ (by simp;omega)
     generalize (w3.setCell ⟨gj+1,0,none⟩ (.int .u8 ot)).setCell ⟨gj+1,1,none⟩ (.int .u32 oa)=w4 at *
     refine bodyPost_ret (v:=.tuple #[.agg #[.int .u8 ot,.int .u32 oa],.int .u8 0]) (by simp [results,Tryz.results91,go_sem,z0,z1];try rfl) rfl ?_
     exact ⟨ot,oa,[],F,rfl,by rw [List.append_nil];exact HX.out.mod0 MW.out,Grow.of_mod MW.out,EB.out.grow0,RZ.out⟩
   | false=>
    rw [hbit] at B8 EB
    simp only [Bool.false_eq_true,if_false] at B8 EB
    go_region_held3 (fun w'=>Mod [] w1 w'∧w'.cell? ⟨gj,1,none⟩=some (.int .u8 op)∧w'.cell? ⟨gj,3,none⟩=some (.int .u8 at_)∧w'.cell? ⟨gj,4,none⟩=some (.int .u32 aa)∧w'.cell? ⟨gj,5,none⟩=some (.int .u8 bt)∧w'.cell? ⟨gj,6,none⟩=some (.int .u32 ba)∧w'.cell? ⟨gj,7,none⟩=some (.int .u8 ct)∧w'.cell? ⟨gj,8,none⟩=some (.int .u32 ca)) (first | (refine ⟨by first | exact (Mod.refl _ _).drew | exact Mod.refl _ _ | assumption | exact Mod.drew (by assumption) | exact mods,?_⟩;go_keep) | go_keep) (first | (go_at_call 121;first | ((with_reducible refine (TA.out _ (by first | assumption | exact Mod.refl _ _ | exact Mod.drew (by assumption) | exact mods)).mono ?_);rintro e' w2 ⟨rfl,m2⟩;obtain ⟨j1,j3,j4,j5,j6,j7,j8⟩:=JC.out w2 m2) | ((with_reducible refine (TB.out _ (by first | assumption | exact Mod.refl _ _ | exact Mod.drew (by assumption) | exact mods)).mono ?_);rintro e' w2 ⟨rfl,m2⟩;obtain ⟨j1,j3,j4,j5,j6,j7,j8⟩:=JC.out w2 m2) | ((with_reducible refine (TC.out _ (by first | assumption | exact Mod.refl _ _ | exact Mod.drew (by assumption) | exact mods)).mono ?_);rintro e' w2 ⟨rfl,m2⟩;obtain ⟨j1,j3,j4,j5,j6,j7,j8⟩:=JC.out w2 m2)))
    all_goals
     have M2:Hid (Mod [] w1 _):=m2
     obtain ⟨j0,j2⟩:=JD.out _ M2.out
     have BR2:=Lib.hid (BR.out.mod M2.out (by simp))
     clear m2
     obtain ⟨r0,r1⟩:=BR2.out.cells2
     obtain ⟨u0,u1,-⟩:=BR2.out.frozs
     have hrl3:=BR2.out.lt
     go_wp2_with fail
     have BW:=(BR2.out.set 0 (.int .u8 0)).set 1 (.int .u32 0)
     simp only [List.setIfInBounds_toArray,List.set_cons_zero,List.set_cons_succ] at BW
     obtain ⟨z0,z1⟩:=BW.cells2
     have MW:Hid (Mod [] w ((w2.setCell ⟨gj+1,0,none⟩ (.int .u8 0)).setCell ⟨gj+1,1,none⟩ (.int .u32 0))):=((M1.out.trans' M2.out).setCell ⟨gj+1,0,none⟩ _ (by simp;omega)).setCell ⟨gj+1,1,none⟩ _ (by simp;omega)
     generalize (w2.setCell ⟨gj+1,0,none⟩ (.int .u8 0)).setCell ⟨gj+1,1,none⟩ (.int .u32 0)=w4 at *
     refine bodyPost_ret (v:=.tuple #[.agg #[.int .u8 0,.int .u32 0],.int .u8 0]) (by simp [results,Tryz.results91,go_sem,z0,z1];try rfl) rfl ?_
     exact ⟨0,0,[],F,rfl,by rw [List.append_nil];exact HX.out.mod0 MW.out,Grow.of_mod MW.out,EB.out.grow0,RZ.out⟩
open Go.RowKit
theorem SpA.got {w0 w W w':World} {bs n room:Nat} {F0:List Nat} {bo bc g:Nat} {L:List Rc} {F:List Nat} (h:SpA w0 w bs n room F0 bo bc g L F) (m0:Mod [] w W) (c:CHead 176 w' bc g 4096) (m:Mod [bc] W w'):SpA w0 w' bs n room F0 bo bc g L F∧Mod [bc] w w':=
 ⟨⟨(h.eng.mod0 m0).got c m,h.gr.trans (Grow.of_mods ((m0.mono (by simp)).trans' m) (by simp))⟩,(m0.mono (by simp)).trans' m⟩
theorem SpA.putt {w0 w W w':World} {bs n room:Nat} {F0:List Nat} {bo bc g:Nat} {L:List Rc} {F:List Nat} (h:SpA w0 w bs n room F0 bo bc g L F) (m0:Mod [] w W) (c:TabP 239 12 w' g 4096 (EnA (VA L n))) (m:Mod [g] W w'):SpA w0 w' bs n room F0 bo bc g L F∧Mod [g] w w':=
 ⟨⟨(h.eng.mod0 m0).putt c m,h.gr.trans (Grow.of_mods ((m0.mono (by simp)).trans' m) (by simp))⟩,(m0.mono (by simp)).trans' m⟩
theorem do_succ {lm bs n room bo bc g f op k l:Nat} (h1:1≤f) (h5:f≤5) (hn:n≤16) (hop:op < 256) (hlk:l+(k+1)=n) (ih:SplA lm bs n room bo bc g f op (k+1) l):DoA lm bs n room bo bc g f op (k+1) l:=by
 intro w L F at_ aa bt ba ct ca ta tb tc cc HE hR ea eb ec
 have RZ:Hid (Rm n f lm room (L++[]) cc):=by show Rm _ _ _ _ _ _;rw [List.append_nil];exact hR.less (by omega)
 have VA0:Hid (∀W,Mod [] w W→Calls Tryz.prog 59 #[.pointer (some ⟨bs,0,none⟩)] W fun e w'=>e=.returned (.int .i64 n)∧w'=W):=fun W m=>by
  obtain ⟨ba,bi,Fa,c0,-⟩:=(HE.sto.st.mod m (by simp)).own
  exact stVars_c bs n W c0
 have EZ:Hid (early op aa ba ca=true→EdT L f n (k+1) l ⟨0,0⟩ (op3T op ta tb tc)):=fun h=>early_none h1 h5 ea eb ec h
 have VT:Hid (∀vt va:Nat,VA L n ⟨f,op,l,⟨at_,aa⟩,⟨bt,ba⟩,⟨ct,ca⟩⟩ ⟨vt,va⟩→EdT L f n (k+1) l ⟨vt,va⟩ (op3T op ta tb tc)):=fun vt va h=>h.told ea eb ec
 have VP:Hid (∀(L2:List Rc) (vt va:Nat),EdT (L++L2) f n (k+1) l ⟨vt,va⟩ (op3T op ta tb tc)→EnA (VA (L++L2) n) [.int .u8 f,.int .u8 op,.int .u8 l,.int .u8 at_,.int .u32 aa,.int .u8 bt,.int .u32 ba,.int .u8 ct,.int .u32 ca,.int .u8 vt,.int .u32 va,.int .i64 1]):=fun L2 vt va h=>⟨⟨f,op,l,⟨at_,aa⟩,⟨bt,ba⟩,⟨ct,ca⟩⟩,⟨vt,va⟩,1,rfl,.inr ⟨rfl,_,ta,tb,tc,h1,h5,ea.grow L2,eb.grow L2,ec.grow L2,h⟩⟩
 have SPL:Hid (∀W,EngA W bs n room L F bo bc g→Calls Tryz.prog 123 #[.pointer (some ⟨bo,0,none⟩),.agg #[.int .u8 f,.int .u8 op,.int .u8 l,.int .u8 at_,.int .u32 aa,.int .u8 bt,.int .u32 ba,.int .u8 ct,.int .u32 ca]] W (DoR W bs n room L F bo bc g f (k+1) l (op3T op ta tb tc) lm cc)):=fun W h=>ih W L F at_ aa bt ba ct ca ta tb tc cc h hR ea eb ec
 have OB:=bit8z op hop
 have hlb:(l:Int)≤16:=by omega
 have hne:¬(l:Int)=n:=by omega
 have hnb:((l:Int)==(n:Int))=false:=by rw [beq_eq_false_iff_ne];exact hne
 have WN:IntKind.i64.wrap (l:Int)=l:=IntWalk.i64_in _ (by omega)
 generalize op3T op ta tb tc=T at *
 clear ea eb ec hR ih
 obtain ⟨gj,hgj⟩:∃gj,w.heap.size=gj:=⟨_,rfl⟩
 have LT:=Lib.hid HE.lt
 have BJ1:=(Blk.new' w #[.int .u8 f,.int .u8 op,.int .u8 l,.int .u8 at_,.int .u32 aa,.int .u8 bt,.int .u32 ba,.int .u8 ct,.int .u32 ca] 122 gj hgj.symm).alloc (.cells #[.int .u8 0,.int .u32 0] 66)
 have BR1:=Blk.new' (w.alloc (.cells #[.int .u8 f,.int .u8 op,.int .u8 l,.int .u8 at_,.int .u32 aa,.int .u8 bt,.int .u32 ba,.int .u8 ct,.int .u32 ca] 122)) #[.int .u8 0,.int .u32 0] 66 (gj+1) (by simp [hgj])
 have M1:Hid (Mod [] w ((w.alloc (.cells #[.int .u8 f,.int .u8 op,.int .u8 l,.int .u8 at_,.int .u32 aa,.int .u8 bt,.int .u32 ba,.int .u8 ct,.int .u32 ca] 122)).alloc (.cells #[.int .u8 0,.int .u32 0] 66))):=by exact mods
 have hbol:=HE.ops.lt
 have q0:=HE.ops.cell 0
 have q9:=HE.ops.cell 1
 simp only [List.getElem?_toArray,List.getElem?_cons_zero,List.getElem?_cons_succ] at q0 q9
 have SP:Hid (SpA w ((w.alloc (.cells #[.int .u8 f,.int .u8 op,.int .u8 l,.int .u8 at_,.int .u32 aa,.int .u8 bt,.int .u32 ba,.int .u8 ct,.int .u32 ca] 122)).alloc (.cells #[.int .u8 0,.int .u32 0] 66)) bs n room F bo bc g L F):=⟨HE.mod0 M1.out,Grow.of_mod M1.out⟩
 clear HE
 go_enter Tryz.func91,Tryz.ntmps91
 go_upto_region 1 with fail
 have q0:=(M1.out.cell (a:=⟨bo,0,none⟩) hbol (by simp)).trans q0
 have q9:=(M1.out.cell (a:=⟨bo,1,none⟩) hbol (by simp)).trans q9
 have nA:¬bo=gj:=by omega
 have nB:¬gj=bo:=by omega
 have nC:¬bo=gj+1:=by omega
 have nD:¬gj+1=bo:=by omega
 have NBC:Hid (¬bc=gj∧¬bc=gj+1∧¬g=gj∧¬g=gj+1∧gj∉bo::bc::g::F∧gj+1∉bo::bc::g::F):=by
  have l1:=LT.out bc (by simp)
  have l2:=LT.out g (by simp)
  exact ⟨by omega,by omega,by omega,by omega,fun h=>by have:=LT.out _ h;omega,fun h=>by have:=LT.out _ h;omega⟩
 replace hbol:=Nat.lt_of_lt_of_le hbol M1.out.size
 generalize (w.alloc (.cells #[.int .u8 f,.int .u8 op,.int .u8 l,.int .u8 at_,.int .u32 aa,.int .u8 bt,.int .u32 ba,.int .u8 ct,.int .u32 ca] 122)).alloc (.cells #[.int .u8 0,.int .u32 0] 66)=w1 at *
 obtain ⟨j0,j1,j2,j3,j4,j5,j6,j7,j8⟩:=cells9 BJ1
 obtain ⟨r0,r1⟩:=BR1.cells2
 obtain ⟨u0,u1,-⟩:=BR1.frozs
 have hjl:=BJ1.lt
 have hrl:=BR1.lt
 have PJ:Hid (Prv w w1 (bo::bc::g::F) gj #[.int .u8 f,.int .u8 op,.int .u8 l,.int .u8 at_,.int .u32 aa,.int .u8 bt,.int .u32 ba,.int .u8 ct,.int .u32 ca] 122):=⟨BJ1,NBC.out.2.2.2.2.1,by omega⟩
 have PR:Hid (Prv w w1 (bo::bc::g::F) (gj+1) #[.int .u8 0,.int .u32 0] 66):=⟨BR1,NBC.out.2.2.2.2.2,by omega⟩
 clear BJ1
 go_cut [31] from 10 to 31 (fun p wx=>p=.bool (early op aa ba ca)∧wx=w1)
 case first=>
  clear BR1
  cases hb0:op.testBit 0<;>rw [hb0] at OB<;>simp only [if_true,if_false,Bool.false_eq_true] at OB<;>cases hb1:((aa:Int)==0)<;>cases hb2:((ba:Int)==0)<;>cases hb3:((ca:Int)==0)<;>(go_wp2_with fail;go_meet;simp [early,hb0,hb1,hb2,hb3])
 case rest=>
  obtain ⟨rfl,hw⟩:=hcut
  replace hw:=hw.symm
  subst hw
  cases he:early op aa ba ca with
  | true=>
   go_wp2_with fail
   have BW:=(BR1.set 0 (.int .u8 0)).set 1 (.int .u32 0)
   simp only [List.setIfInBounds_toArray,List.set_cons_zero,List.set_cons_succ] at BW
   obtain ⟨z0,z1⟩:=BW.cells2
   have SW:=Lib.hid (SP.out.write (S:=[gj+1]) (w':=(w1.setCell ⟨gj+1,0,none⟩ (.int .u8 0)).setCell ⟨gj+1,1,none⟩ (.int .u32 0)) (by exact mods) (by intro k hk;simp at hk;omega) (by intro k hk;simp at hk;subst hk;exact NBC.out.2.2.2.2.2))
   clear BW
   generalize (w1.setCell ⟨gj+1,0,none⟩ (.int .u8 0)).setCell ⟨gj+1,1,none⟩ (.int .u32 0)=w3 at *
   refine bodyPost_ret (v:=.tuple #[.agg #[.int .u8 0,.int .u32 0],.int .u8 0]) (by simp [results,Tryz.results91,go_sem,z0,z1];try rfl) rfl ?_
   exact ⟨0,0,[],F,rfl,by rw [List.append_nil];exact SW.out.eng,SW.out.gr,(EZ.out he).grow0,RZ.out⟩
  | false=>
   clear BR1
   go_wp2_with fail
   have VB:Hid (∀W,Mod [] w1 W→Calls Tryz.prog 59 #[.pointer (some ⟨bs,0,none⟩)] W fun e w'=>e=.returned (.int .i64 n)∧w'=W):=fun W m=>VA0.out W (M1.out.trans' m)
   go_region_held3 (fun w'=>w'.cell? ⟨bo,0,none⟩=some (.pointer (some ⟨bs,0,none⟩))∧w'.cell? ⟨gj,2,none⟩=some (.int .u8 l)) (go_keep) (first | (go_at_call 59;refine (VB.out _ (by first | assumption | exact Mod.refl _ _ | exact Mod.drew (by assumption) | exact mods)).mono ?_;rintro e' w2 ⟨rfl,rfl⟩))
   go_wp2_with fail
   obtain ⟨gs,hgs⟩:∃gs,w1.heap.size=gs:=⟨_,rfl⟩
   have nE:¬gj=gs:=by omega
   have nF:¬bo=gs:=by omega
   have nG:¬gs=gj:=by omega
   have nH:¬gs=bo:=by omega
   have bcs:bc < gs:=by have:=SP.out.eng.head.lt;omega
   have GET:Hid (∀W,Mod [] w1 W→_):=fun W m=>getA_c f op l at_ aa bt ba ct ca bc g 12 4096 (by omega) (by decide) (SP.out.eng.head.mod m (by simp)) (SP.out.eng.tab.mod m (by simp)) SP.out.eng.ap.2.2
   go_cut [6,7] from 68 to 75 (fun p q wx=>∃(ge vt va:Nat) (ok:Bool),p=.pointer (some ⟨ge,0,none⟩)∧q=.bool ok∧gj+1 < ge∧Hid (ok=true→VA L n ⟨f,op,l,⟨at_,aa⟩,⟨bt,ba⟩,⟨ct,ca⟩⟩ ⟨vt,va⟩)∧Hid (SpA w wx bs n room F bo bc g L F)∧Hid (Prv w wx (bo::bc::g::F) gj #[.int .u8 f,.int .u8 op,.int .u8 l,.int .u8 at_,.int .u32 aa,.int .u8 bt,.int .u32 ba,.int .u8 ct,.int .u32 ca] 122)∧Hid (Prv w wx (bo::bc::g::F) (gj+1) #[.int .u8 0,.int .u32 0] 66)∧Hid (Prv w wx (bo::bc::g::F) ge #[.int .u8 vt,.int .u32 va] 66))
   case first=>
    go_region_held3 (fun w'=>w'.cell? ⟨bo,1,none⟩=some (.pointer (some ⟨bc,0,none⟩))∧w'.cell? ⟨gj,0,none⟩=some (.int .u8 f)∧w'.cell? ⟨gj,1,none⟩=some (.int .u8 op)∧w'.cell? ⟨gj,2,none⟩=some (.int .u8 l)∧w'.cell? ⟨gj,3,none⟩=some (.int .u8 at_)∧w'.cell? ⟨gj,4,none⟩=some (.int .u32 aa)∧w'.cell? ⟨gj,5,none⟩=some (.int .u8 bt)∧w'.cell? ⟨gj,6,none⟩=some (.int .u32 ba)∧w'.cell? ⟨gj,7,none⟩=some (.int .u8 ct)∧w'.cell? ⟨gj,8,none⟩=some (.int .u32 ca)) (go_keep) (first | (go_at_call 122;refine (GET.out _ (by exact mods)).mono ?_;rintro e' w2 ⟨vt,va,ok,rfl,hv,ch,m2⟩;have SG:=SP.out.got (show Mod [] w1 _ from by exact mods) ch m2;have q9:=(SG.2.cell (a:=⟨bo,1,none⟩) hbol (by simpa using SP.out.eng.ap.1)).trans q9;have bj2:=PJ.out.blk.mod SG.2 (by simpa using fun h=>NBC.out.1 h.symm);obtain ⟨j0,j1,j2,j3,j4,j5,j6,j7,j8⟩:=cells9 bj2;have hjl:=bj2.lt;have hbol:=Nat.lt_of_lt_of_le hbol SG.2.size;have hB:=fun c ty (h:Blk _ gs c ty)=>h.mod m2 (by simp;omega);first | (have zb:=hB _ _ ((Blk.new' _ _ _ gs hgs.symm).drew);have z0:=zb.cell 0;have z1:=zb.cell 1;simp only [List.getElem?_toArray,List.getElem?_cons_zero,List.getElem?_cons_succ] at z0 z1;have zf:=zb.froz;have zl:=zb.lt) | skip))
    all_goals (go_wp2_with fail;go_meet)
    all_goals
     have LN:=SG.1.eng.lt
     have nbj:gj∉[bc]:=by simpa using fun h=>NBC.out.1 h.symm
     have nbr:gj+1∉[bc]:=by simpa using fun h=>NBC.out.2.1 h.symm
     have ngs:gs∉bo::bc::g::F:=fun h=>by have:=SP.out.eng.lt _ h;omega
     have hs2:=SG.2.size
     first
      | exact ⟨w2.heap.size,vt,va,ok,rfl,rfl,by omega,hv,SG.1.write (S:=[]) (by exact mods) (by simp) (by simp),(PJ.out.mod SG.2 nbj).mod (S:=[]) (by exact mods) (by simp),(PR.out.mod SG.2 nbr).mod (S:=[]) (by exact mods) (by simp),⟨Blk.new' _ _ _ _ rfl,fun h=>by have:=LN _ h;omega,by omega⟩⟩
      | exact ⟨gs,vt,va,ok,rfl,rfl,by omega,hv,SG.1.write (S:=[gs]) (by exact mods) (by intro k hk;simp at hk;omega) (by intro k hk;simp at hk;subst hk;exact ngs),(PJ.out.mod SG.2 nbj).mod (S:=[gs]) (by exact mods) (by simpa using nE),(PR.out.mod SG.2 nbr).mod (S:=[gs]) (by exact mods) (by simp;omega),⟨Blk.eq ((zb.set 0 (.int .u8 vt)).set 1 (.int .u32 va)) (by simp),ngs,by omega⟩⟩
   case rest=>
    obtain ⟨ge,vt,va,ok,rfl,rfl,hge,HV,SQ,PJ2,PR2,PE⟩:=hcut
    clear SP PJ PR j0 j1 j2 j3 j4 j5 j6 j7 j8 q0 q9 r0 r1 u0 u1 hjl hrl hbol GET nE nF nG nH bcs hgs OB
    generalize wc=wq at *
    have hn1:¬gj+1=ge:=by omega
    have hn2:¬ge=gj+1:=by omega
    cases ok with
    | true=>
     obtain ⟨e0,e1⟩:=PE.out.blk.cells2
     obtain ⟨r0,r1⟩:=PR2.out.blk.cells2
     obtain ⟨u0,u1,-⟩:=PR2.out.blk.frozs
     have hrl:=PR2.out.blk.lt
     have hel:=PE.out.blk.lt
     go_wp2_with fail
     have BW:=(PR2.out.blk.set 0 (.int .u8 vt)).set 1 (.int .u32 va)
     simp only [List.setIfInBounds_toArray,List.set_cons_zero,List.set_cons_succ] at BW
     obtain ⟨z0,z1⟩:=BW.cells2
     have SW:=Lib.hid (SQ.out.write (S:=[gj+1]) (w':=(wq.setCell ⟨gj+1,0,none⟩ (.int .u8 vt)).setCell ⟨gj+1,1,none⟩ (.int .u32 va)) (by exact mods) (by intro k hk;simp at hk;omega) (by intro k hk;simp at hk;subst hk;exact NBC.out.2.2.2.2.2))
     clear BW
     generalize (wq.setCell ⟨gj+1,0,none⟩ (.int .u8 vt)).setCell ⟨gj+1,1,none⟩ (.int .u32 va)=w3 at *
     refine bodyPost_ret (v:=.tuple #[.agg #[.int .u8 vt,.int .u32 va],.int .u8 0]) (by simp [results,Tryz.results91,go_sem,z0,z1];try rfl) rfl ?_
     exact ⟨vt,va,[],F,rfl,by rw [List.append_nil];exact SW.out.eng,SW.out.gr,(VT.out vt va (HV.out (by first | trivial | rfl))).grow0,RZ.out⟩
    | false=>
     obtain ⟨j0,j1,j2,j3,j4,j5,j6,j7,j8⟩:=cells9 PJ2.out.blk
     have hjl:=PJ2.out.blk.lt
     go_wp2_with fail
     refine (SPL.out _ (SQ.out.eng.mod0 (by exact mods))).mono ?_
     rintro e wd ⟨xt,xa,L2,F2,rfl,en,gd,ex,hl2⟩
     have EX:=Lib.hid ex
     have H2:=Lib.hid hl2
     clear hl2
     have SPn:=Lib.hid (SQ.out.did en gd)
     have PJn:=Lib.hid (PJ2.out.call gd)
     have PRn:=Lib.hid (PR2.out.call gd)
     clear j0 j1 j2 j3 j4 j5 j6 j7 j8 hjl en gd ex SQ PJ2 PR2 PE HV
     obtain ⟨gx,hgx⟩:∃gx,wd.heap.size=gx:=⟨_,rfl⟩
     have Mx:Hid (Mod [] wd (wd.alloc (.cells #[.int .u8 xt,.int .u32 xa] 66))):=by exact mods
     have LTn:=Lib.hid SPn.out.eng.lt
     have PX:Hid (Prv w (wd.alloc (.cells #[.int .u8 xt,.int .u32 xa] 66)) (bo::bc::g::F2) gx #[.int .u8 xt,.int .u32 xa] 66):=⟨Blk.new' _ _ _ _ hgx.symm,fun h=>by have:=LTn.out _ h;omega,by have:=SPn.out.gr.size;omega⟩
     have SP:=Lib.hid (SPn.out.write (S:=[]) Mx.out (by simp) (by simp))
     have PJ:=Lib.hid (PJn.out.mod Mx.out (by simp))
     have PR:=Lib.hid (PRn.out.mod Mx.out (by simp))
     have hjx:¬gj=gx:=by have:=PJn.out.blk.lt;omega
     have hrx:¬gj+1=gx:=by have:=PRn.out.blk.lt;omega
     have hxr:¬gx=gj+1:=fun h=>hrx h.symm
     clear SPn PJn PRn Mx LTn
     go_upto_region 12 with fail
     generalize hwz:wd.alloc (.cells #[.int .u8 xt,.int .u32 xa] 66)=wz at *
     clear hwz hgx
     have PUT:Hid (∀W,Mod [] wz W→_):=fun W m=>putA_c f op l at_ aa bt ba ct ca xt xa bc g 12 4096 (by omega) (by decide) (SP.out.eng.head.mod m (by simp)) (SP.out.eng.tab.mod m (by simp)) SP.out.eng.ap.2.2 (VP.out L2 xt xa EX.out)
     have hbol:=SP.out.eng.ops.lt
     have q9:=SP.out.eng.ops.cell 1
     simp only [List.getElem?_toArray,List.getElem?_cons_zero,List.getElem?_cons_succ] at q9
     obtain ⟨j0,j1,j2,j3,j4,j5,j6,j7,j8⟩:=cells9 PJ.out.blk
     obtain ⟨x0,x1⟩:=PX.out.blk.cells2
     have hjl:=PJ.out.blk.lt
     have hxl:=PX.out.blk.lt
     have ngj:gj∉[g]:=by simpa using fun h=>NBC.out.2.2.1 h.symm
     have ngr:gj+1∉[g]:=by simpa using fun h=>NBC.out.2.2.2.1 h.symm
     have ngx:gx∉[g]:=by simpa using fun h=>PX.out.no (by simp [h])
     have ngo:bo∉[g]:=by simpa using SP.out.eng.ap.2.1
     go_region_held3 (fun w'=>w'.cell? ⟨bo,1,none⟩=some (.pointer (some ⟨bc,0,none⟩))∧w'.cell? ⟨gj,0,none⟩=some (.int .u8 f)∧w'.cell? ⟨gj,1,none⟩=some (.int .u8 op)∧w'.cell? ⟨gj,2,none⟩=some (.int .u8 l)∧w'.cell? ⟨gj,3,none⟩=some (.int .u8 at_)∧w'.cell? ⟨gj,4,none⟩=some (.int .u32 aa)∧w'.cell? ⟨gj,5,none⟩=some (.int .u8 bt)∧w'.cell? ⟨gj,6,none⟩=some (.int .u32 ba)∧w'.cell? ⟨gj,7,none⟩=some (.int .u8 ct)∧w'.cell? ⟨gj,8,none⟩=some (.int .u32 ca)∧w'.cell? ⟨gx,0,none⟩=some (.int .u8 xt)∧w'.cell? ⟨gx,1,none⟩=some (.int .u32 xa)) (go_keep) (first | (go_at_call 124;refine (PUT.out _ (by exact mods)).mono ?_;rintro e' w2 ⟨rfl,tb2,m2⟩;have SG:=SP.out.putt (show Mod [] wz _ from by exact mods) tb2 m2;have q9:=(SG.2.cell (a:=⟨bo,1,none⟩) hbol ngo).trans q9;have bj2:=PJ.out.blk.mod SG.2 ngj;have bx2:=PX.out.blk.mod SG.2 ngx;obtain ⟨j0,j1,j2,j3,j4,j5,j6,j7,j8⟩:=cells9 bj2;obtain ⟨x0,x1⟩:=bx2.cells2;have hjl:=bj2.lt;have hxl:=bx2.lt;have hbol:=Nat.lt_of_lt_of_le hbol SG.2.size))
     all_goals
      have PR3:=PR.out.mod SG.2 ngr
      obtain ⟨r0,r1⟩:=PR3.blk.cells2
      obtain ⟨u0,u1,-⟩:=PR3.blk.frozs
      have hrl:=PR3.blk.lt
      go_wp2_with fail
      have BW:=(PR3.blk.set 0 (.int .u8 xt)).set 1 (.int .u32 xa)
      simp only [List.setIfInBounds_toArray,List.set_cons_zero,List.set_cons_succ] at BW
      obtain ⟨z0,z1⟩:=BW.cells2
      have SW:=Lib.hid (SG.1.write (S:=[gj+1]) (w':=(w2.setCell ⟨gj+1,0,none⟩ (.int .u8 xt)).setCell ⟨gj+1,1,none⟩ (.int .u32 xa)) (by exact mods) (by intro k hk;simp at hk;omega) (by intro k hk;simp at hk;subst hk;exact PR3.no))
      clear BW
      generalize (w2.setCell ⟨gj+1,0,none⟩ (.int .u8 xt)).setCell ⟨gj+1,1,none⟩ (.int .u32 xa)=w3 at *
      refine bodyPost_ret (v:=.tuple #[.agg #[.int .u8 xt,.int .u32 xa],.int .u8 0]) (by simp [results,Tryz.results91,go_sem,z0,z1];try rfl) rfl ?_
      exact ⟨xt,xa,L2,F2,rfl,SW.out.eng,SW.out.gr,EX.out,H2.out⟩
theorem doA {lm bs n room bo bc g f op:Nat} (h1:1≤f) (h5:f≤5) (hn:n≤16) (hrm:room≤100000) (hop:op < 256):∀k l,l+k=n→DoA lm bs n room bo bc g f op k l:=by
 intro k
 induction k with
 | zero=>
  intro l hl;obtain rfl:l=n:=by omega
  exact do_zero h1 h5 hn hop
 | succ k ih=>intro l hl;exact do_succ h1 h5 hn hop hl (split_succ h1 h5 hn hrm hop hl (ih (l+1) (by omega)))
open Go.RowKit
theorem atA_at {lm cc bs n room bo bc g f op k l:Nat} (h1:1≤f) (h5:f≤5) (hn:n≤16) (hrm:room≤100000) (hop:op < 256) (hlk:l+k=n) (ih:DoA lm bs n room bo bc g f op k l)
 {w:World} {L:List Rc} {F:List Nat} {at_ aa bt ba ct ca:Nat} {ta tb tc:List Bool} (HE:EngA w bs n room L F bo bc g) (hR:Rm n f lm room L (budA (lm - l)+cc))
 (ea:EdT L f n k l ⟨at_,aa⟩ ta) (eb:EdT L f n k l ⟨bt,ba⟩ tb) (ec:EdT L f n k l ⟨ct,ca⟩ tc):
 Calls Tryz.prog 63 #[.pointer (some ⟨bo,0,none⟩),.int .u8 f,.int .i64 op,.int .i64 l,.agg #[.int .u8 at_,.int .u32 aa],.agg #[.int .u8 bt,.int .u32 ba],.agg #[.int .u8 ct,.int .u32 ca]] w (DoR w bs n room L F bo bc g f k l (op3T op ta tb tc) lm cc):=by
 have hL5:L.length≤100000:=by have:=hR.lt HE.sto.good HE.sto.nd h1 h5;omega
 have IF:=Lib.hid (isForm_c f h1 h5)
 have VA:Hid (∀W,Mod [] w W→Calls Tryz.prog 59 #[.pointer (some ⟨bs,0,none⟩)] W fun e w'=>e=.returned (.int .i64 n)∧w'=W):=fun W m=>by
  obtain ⟨ba,bi,Fa,c0,-⟩:=(HE.sto.st.mod m (by simp)).own
  exact stVars_c bs n W c0
 have LE:Hid (∀W (x y:Nat) t,Mod [] w W→EdT L f n k l ⟨x,y⟩ t→Calls Tryz.prog 71 #[.pointer (some ⟨bs,0,none⟩),.int .u8 f,.agg #[.int .u8 x,.int .u32 y],.int .i64 l] W fun e w'=>e=.returned (.bool true)∧Mod [] W w'):=fun W x y t m e=>stLeads_c (HE.sto.st.mod m (by simp)) (by omega) hn f h1 h5 ⟨x,y⟩ l (by omega) e.lead
 have DO:Hid (∀W,Mod [] w W→_):=fun W m=>ih W L F at_ aa bt ba ct ca ta tb tc cc (HE.mod0 m) hR ea eb ec
 have HX:=Lib.hid HE
 have E1:=Lib.hid ea
 have E2:=Lib.hid eb
 have E3:=Lib.hid ec
 have LT:=Lib.hid HE.lt
 have hbl:=HE.ops.lt
 have k0:=HE.ops.cell 0
 simp only [List.getElem?_toArray,List.getElem?_cons_zero] at k0
 have hop':(op:Int) < 256:=by omega
 have hl16:(l:Int)≤16:=by omega
 have hln:(l:Int)≤n:=by omega
 obtain ⟨gk,hgk⟩:∃gk,w.heap.size=gk:=⟨_,rfl⟩
 have BA:=(((Blk.new' w #[.int .u8 at_,.int .u32 aa] 66 gk hgk.symm).alloc (.cells #[.int .u8 bt,.int .u32 ba] 66)).alloc (.cells #[.int .u8 ct,.int .u32 ca] 66)).alloc (.cells #[.int .u8 0,.int .u32 0] 66)
 have BB:=((Blk.new' (w.alloc (.cells #[.int .u8 at_,.int .u32 aa] 66)) #[.int .u8 bt,.int .u32 ba] 66 (gk+1) (by simp [hgk])).alloc (.cells #[.int .u8 ct,.int .u32 ca] 66)).alloc (.cells #[.int .u8 0,.int .u32 0] 66)
 have BC:=(Blk.new' ((w.alloc (.cells #[.int .u8 at_,.int .u32 aa] 66)).alloc (.cells #[.int .u8 bt,.int .u32 ba] 66)) #[.int .u8 ct,.int .u32 ca] 66 (gk+2) (by simp [hgk])).alloc (.cells #[.int .u8 0,.int .u32 0] 66)
 have BR:=Blk.new' (((w.alloc (.cells #[.int .u8 at_,.int .u32 aa] 66)).alloc (.cells #[.int .u8 bt,.int .u32 ba] 66)).alloc (.cells #[.int .u8 ct,.int .u32 ca] 66)) #[.int .u8 0,.int .u32 0] 66 (gk+3) (by simp [hgk])
 have M1:Hid (Mod [] w ((((w.alloc (.cells #[.int .u8 at_,.int .u32 aa] 66)).alloc (.cells #[.int .u8 bt,.int .u32 ba] 66)).alloc (.cells #[.int .u8 ct,.int .u32 ca] 66)).alloc (.cells #[.int .u8 0,.int .u32 0] 66))):=by exact mods
 have k0:=(M1.out.cell (a:=⟨bo,0,none⟩) hbl (by simp)).trans k0
 have hng:¬bo=gk:=by omega
 have hng1:¬bo=gk+1:=by omega
 have hng2:¬bo=gk+2:=by omega
 have hng3:¬bo=gk+3:=by omega
 have HN:Hid (gk+3∉bo::bc::g::F∧w.heap.size≤gk+3):=⟨fun h=>by have:=LT.out _ h;omega,by omega⟩
 replace hbl:=Nat.lt_of_lt_of_le hbl M1.out.size
 clear HE ea eb ec hR hL5 ih hop hlk
 go_enter Tryz.func63,Tryz.ntmps63
 go_upto_region 1 with fail
 generalize (((w.alloc (.cells #[.int .u8 at_,.int .u32 aa] 66)).alloc (.cells #[.int .u8 bt,.int .u32 ba] 66)).alloc (.cells #[.int .u8 ct,.int .u32 ca] 66)).alloc (.cells #[.int .u8 0,.int .u32 0] 66)=w1 at *
 obtain ⟨a0,a1⟩:=BA.cells2
 obtain ⟨b0,b1⟩:=BB.cells2
 obtain ⟨c0,c1⟩:=BC.cells2
 have hA:=BA.lt
 have hB:=BB.lt
 have hC:=BC.lt
 have PR:Hid (Blk w1 (gk+3) #[.int .u8 0,.int .u32 0] 66):=BR
 clear BA BB BC BR
 go_wp2_with fail
 refine (IF.out _).mono ?_
 rintro e w2 ⟨rfl,hw⟩
 subst hw
 go_wp2_with fail
 refine (VA.out _ M1.out).mono ?_
 rintro e w2 ⟨rfl,hw⟩
 subst hw
 go_wp2_with fail
 have JC:Hid (∀W,Mod [] w2 W→W.cell? ⟨bo,0,none⟩=some (.pointer (some ⟨bs,0,none⟩))∧W.cell? ⟨gk,0,none⟩=some (.int .u8 at_)∧W.cell? ⟨gk,1,none⟩=some (.int .u32 aa)∧W.cell? ⟨gk+1,0,none⟩=some (.int .u8 bt)∧W.cell? ⟨gk+1,1,none⟩=some (.int .u32 ba)∧W.cell? ⟨gk+2,0,none⟩=some (.int .u8 ct)∧W.cell? ⟨gk+2,1,none⟩=some (.int .u32 ca)):=fun W m=>⟨(m.cell (a:=⟨bo,0,none⟩) hbl (by simp)).trans k0,(m.cell (a:=⟨gk,0,none⟩) hA (by simp)).trans a0,(m.cell (a:=⟨gk,1,none⟩) hA (by simp)).trans a1,(m.cell (a:=⟨gk+1,0,none⟩) hB (by simp)).trans b0,(m.cell (a:=⟨gk+1,1,none⟩) hB (by simp)).trans b1,(m.cell (a:=⟨gk+2,0,none⟩) hC (by simp)).trans c0,(m.cell (a:=⟨gk+2,1,none⟩) hC (by simp)).trans c1⟩
 have LE:Hid (∀W (x y:Nat) t,Mod [] w2 W→EdT L f n k l ⟨x,y⟩ t→Calls Tryz.prog 71 #[.pointer (some ⟨bs,0,none⟩),.int .u8 f,.agg #[.int .u8 x,.int .u32 y],.int .i64 l] W fun e w'=>e=.returned (.bool true)∧Mod [] w2 w'):=fun W x y t m e=>(LE.out W x y t (M1.out.trans' m) e).mono (by
  rintro e w' ⟨rfl,m2⟩
  exact ⟨rfl,m.trans' m2⟩)
 go_region_held3 (fun w'=>Mod [] w2 w'∧w'.cell? ⟨bo,0,none⟩=some (.pointer (some ⟨bs,0,none⟩))∧w'.cell? ⟨gk,0,none⟩=some (.int .u8 at_)∧w'.cell? ⟨gk,1,none⟩=some (.int .u32 aa)∧w'.cell? ⟨gk+1,0,none⟩=some (.int .u8 bt)∧w'.cell? ⟨gk+1,1,none⟩=some (.int .u32 ba)∧w'.cell? ⟨gk+2,0,none⟩=some (.int .u8 ct)∧w'.cell? ⟨gk+2,1,none⟩=some (.int .u32 ca)) (first | (refine ⟨by first | exact (Mod.refl _ _).drew | exact Mod.refl _ _ | assumption | exact Mod.drew (by assumption) | exact mods,?_⟩;go_keep) | go_keep) (first | (go_at_call 71;first | ((with_reducible refine (LE.out _ at_ aa _ (by first | assumption | exact Mod.refl _ _ | exact Mod.drew (by assumption) | exact mods) E1.out).mono ?_);rintro e' w3 ⟨rfl,m3⟩;obtain ⟨k0,a0,a1,b0,b1,c0,c1⟩:=JC.out w3 m3) | ((with_reducible refine (LE.out _ bt ba _ (by first | assumption | exact Mod.refl _ _ | exact Mod.drew (by assumption) | exact mods) E2.out).mono ?_);rintro e' w3 ⟨rfl,m3⟩;obtain ⟨k0,a0,a1,b0,b1,c0,c1⟩:=JC.out w3 m3) | ((with_reducible refine (LE.out _ ct ca _ (by first | assumption | exact Mod.refl _ _ | exact Mod.drew (by assumption) | exact mods) E3.out).mono ?_);rintro e' w3 ⟨rfl,m3⟩;obtain ⟨k0,a0,a1,b0,b1,c0,c1⟩:=JC.out w3 m3)))
 all_goals
  have M3:Hid (Mod [] w2 _):=m3
  obtain ⟨-,a0,a1,b0,b1,c0,c1⟩:=JC.out _ M3.out
  have PR3:=Lib.hid (PR.out.mod M3.out (by simp))
  have MA:=Lib.hid (M1.out.trans' M3.out)
  have hA3:=Nat.lt_of_lt_of_le hA M3.out.size
  have hB3:=Nat.lt_of_lt_of_le hB M3.out.size
  have hC3:=Nat.lt_of_lt_of_le hC M3.out.size
  go_wp2_with fail
  refine (DO.out _ MA.out).mono ?_
  rintro e wd ⟨et,ea,L2,F2,rfl,en,gd,ex,hl2⟩
  have EX:=Lib.hid ex
  have H2:=Lib.hid hl2
  clear hl2
  have EN:=Lib.hid en
  have GD:=Lib.hid ((Grow.of_mod (F:=bc::g::F) MA.out).trans gd)
  have PR4:=Lib.hid (PR3.out.mod gd.mod (fun h=>HN.out.1 (List.mem_cons_of_mem _ h)))
  have NN:Hid (gk+3∉bc::g::F2):=gd.out PR3.out.lt (fun h=>HN.out.1 (List.mem_cons_of_mem _ h))
  clear ex en gd a0 a1 b0 b1 c0 c1
  obtain ⟨r0,r1⟩:=PR4.out.cells2
  obtain ⟨u0,u1,-⟩:=PR4.out.frozs
  have hrl:=PR4.out.lt
  go_wp2_with fail
  have BW:=(PR4.out.set 0 (.int .u8 et)).set 1 (.int .u32 ea)
  simp only [List.setIfInBounds_toArray,List.set_cons_zero,List.set_cons_succ] at BW
  obtain ⟨z0,z1⟩:=BW.cells2
  have MW:Hid (Mod [gk+3] wd ((wd.setCell ⟨gk+3,0,none⟩ (.int .u8 et)).setCell ⟨gk+3,1,none⟩ (.int .u32 ea))):=by show Mod _ _ _;exact mods
  clear BW
  generalize (wd.setCell ⟨gk+3,0,none⟩ (.int .u8 et)).setCell ⟨gk+3,1,none⟩ (.int .u32 ea)=w5 at *
  refine bodyPost_ret (v:=.tuple #[.agg #[.int .u8 et,.int .u32 ea],.int .u8 0]) (by simp [results,Tryz.results63,go_sem,z0,z1];try rfl) rfl ?_
  exact ⟨et,ea,L2,F2,rfl,EN.out.mod MW.out (fun k hk q=>by simp at q;subst q;exact (List.mem_cons.1 hk).elim (fun e=>HN.out.1 (by simp [e])) NN.out),GD.out.write MW.out (fun k hk=>by simp at hk;subst hk;exact HN.out.2),EX.out,H2.out⟩
end Go.Proofs.YtlafpknoiihaaaaGreatDoor
