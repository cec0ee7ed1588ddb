/- Mq16: Mj · Mp -/
import Derived.Test.YtlafpknoiihaaaaGreatDoorMq10
import Derived.Laws.EntriesVeiled
import Derived.Deep.RegionLaw
set_option maxRecDepth 100000
set_option maxHeartbeats 4000000
set_option linter.unusedVariables false
set_option linter.unusedSimpArgs false
namespace Go.Proofs.YtlafpknoiihaaaaGreatDoor
open Go.RowKit
def WorkP (w:World) (bs n room:Nat) (F:List Nat) (L':List Rc) (ed:Ed) (e:Ending) (w':World):Prop:=
 e=.returned (.tuple #[edv ed,.int .u8 0])∧∃F',IsSt w' bs n L' room F'∧Mod F w w'∧∀k∈F',k∈F∨w.heap.size≤k
theorem twiceVar_c {w:World} {bm bs n room:Nat} {F:List Nat} {L':List Rc} {ed:Ed} (caps:Array Value) (hF:∀k∈F,k < w.heap.size) (WK:∀W,Mod [] w W→Calls Tryz.prog 41 caps W (WorkP W bs n room F L' ed)):
 Calls Tryz.prog 62 #[.pointer (some ⟨bm,0,none⟩),.func (.func 41) #[] caps] w (WorkP w bs n room F L' ed):=by
 have HW:=Lib.hid WK
 have HF:=Lib.hid hF
 obtain ⟨g4,hg4⟩:∃g,w.heap.size=g:=⟨_,rfl⟩
 clear WK hF
 go_enter Tryz.func62,Tryz.ntmps62
 go_wp2_with fail
 refine (HW.out _ (by exact mods)).mono ?_
 rintro e w1 ⟨rfl,F',s1,m1,f1⟩
 have B4:=Lib.hid ((Blk.new' w #[.int .u8 0,.int .u32 0] 66 g4 hg4.symm).mod m1 (fun h=>by have:=HF.out _ h;omega))
 obtain ⟨g6,hg6⟩:∃g,w1.heap.size=g:=⟨_,rfl⟩
 obtain ⟨p0,p1⟩:=B4.out.cells2
 obtain ⟨q0,q1,-⟩:=B4.out.frozs
 have h46:=B4.out.lt
 rw [hg6] at h46
 have n1:¬g4=g6:=by omega
 have n2:¬g6=g4:=by omega
 have S1:=Lib.hid s1
 have M1:Hid (Mod F w w1):=((Mod.refl [] w).alloc _).mono (by simp) |>.trans' m1
 have SF:Hid (∀k∈F',k∈F∨w.heap.size≤k):=fun k hk=>(f1 k hk).imp id fun h=>by simp at h;omega
 have NF:Hid (g4∉F'∧g6∉F'):=⟨fun h=>(f1 _ h).elim (fun h=>by have:=HF.out _ h;omega) (fun h=>by simp at h;omega),fun h=>by have:=s1.lt _ h;omega⟩
 obtain ⟨t,a⟩:=ed
 unfold edv
 clear s1 m1 f1 HW
 simp only
 go_wp2_with fail
 have BW:=((B4.out.set 0 (.int .u8 t)).set 1 (.int .u32 a)).alloc (.cells #[.int .u8 t,.int .u32 a] 66)
 simp only [List.setIfInBounds_toArray,List.set_cons_zero,List.set_cons_succ] at BW
 obtain ⟨z0,z1⟩:=BW.cells2
 have MW:Hid (Mod [g4] w1 (((w1.setCell ⟨g4,0,none⟩ (.int .u8 t)).setCell ⟨g4,1,none⟩ (.int .u32 a)).alloc (.cells #[.int .u8 t,.int .u32 a] 66))):=(((Mod.refl _ _).setCell _ _ (by simp)).setCell _ _ (by simp)).alloc _
 generalize ((w1.setCell ⟨g4,0,none⟩ (.int .u8 t)).setCell ⟨g4,1,none⟩ (.int .u32 a)).alloc (.cells #[.int .u8 t,.int .u32 a] 66)=w4 at *
 clear BW p0 p1 q0 q1
 refine bodyPost_ret (v:=.tuple #[.agg #[.int .u8 t,.int .u32 a],.int .u8 0]) (by simp [results,Tryz.results62,go_sem,z0,z1];try rfl) rfl ?_
 refine ⟨rfl,F',S1.out.mod MW.out (fun k hk h=>by simp at h;subst h;exact NF.out.1 hk),M1.out.trans MW.out (fun i hi h=>by simp at h;omega),SF.out⟩
open Go.RowKit
theorem Mng.own {w:World} {bm n room:Nat} {L:List Rc} {Fs p:List Nat} {H:List (Nat × Ed)} {bs bo bq:Nat} {F:List Nat} (h:Mng w bm n room L Fs p H bs bo bq F):(∃q,Mgr w bm q H)∧bm∉Fs∧(∀k∈F,k < w.heap.size):=by
 obtain ⟨ba,bg,vk,vq,vg,Fo,q,h1,h2,h3,h4,h5,h6,rfl,h7,h8⟩:=h.m
 refine ⟨⟨_,h1⟩,fun hk=>h7 _ hk (by simp),fun k hk=>?_⟩
 simp at hk
 rcases hk with rfl | rfl | rfl | rfl | hk
 ·exact h1.lt
 ·exact h4.lt
 ·exact h5.lt
 ·exact h6.lt
 ·exact h2.lt k hk
theorem Mng.step {w w':World} {bm n room:Nat} {L L':List Rc} {Fs Fs' p:List Nat} {H:List (Nat × Ed)} {bs bo bq:Nat} {F:List Nat} (h:Mng w bm n room L Fs p H bs bo bq F) (hs:IsSt w' bs n L' room Fs') (m:Mod Fs w w') (hf:∀k∈Fs',k∈Fs∨w.heap.size≤k):Mng w' bm n room L' Fs' p H bs bo bq F:=by
 obtain ⟨-,-,hlt⟩:=h.own
 obtain ⟨ba,bg,vk,vq,vg,Fo,q,h1,h2,h3,h4,h5,h6,rfl,h7,h8⟩:=h.m
 refine ⟨⟨ba,bg,vk,vq,vg,Fo,q,h1.mod m (fun hk=>h7 _ hk (by simp)),h2.mod m (fun k hk hk2=>h7 _ hk2 (by simp [hk])),h3,h4.mod m (fun hk=>h7 _ hk (by simp)),h5.mod m (fun hk=>h7 _ hk (by simp)),h6.mod m (fun hk=>h7 _ hk (by simp)),rfl,?_,h8⟩,hs⟩
 intro k hk hkF
 rcases hf k hk with h' | h'
 ·exact h7 k h' hkF
 ·have:=hlt k hkF;omega
theorem Mng.mod {w w':World} {bm n room:Nat} {L:List Rc} {Fs p:List Nat} {H:List (Nat × Ed)} {bs bo bq:Nat} {F:List Nat} (h:Mng w bm n room L Fs p H bs bo bq F) (m:Mod [] w w'):Mng w' bm n room L Fs p H bs bo bq F:=
 h.step (h.s.mod m (by simp)) (m.mono (by simp)) (fun k hk=>.inl hk)
theorem Mng.book {w w':World} {bm n room:Nat} {L:List Rc} {Fs p:List Nat} {H H':List (Nat × Ed)} {bs bo bq:Nat} {F:List Nat} (h:Mng w bm n room L Fs p H bs bo bq F) (m:Mod [bm] w w') (hm:∀q,Mgr w bm q H→Mgr w' bm q H'):Mng w' bm n room L Fs p H' bs bo bq F:=by
 obtain ⟨ba,bg,vk,vq,vg,Fo,q,h1,h2,h3,h4,h5,h6,rfl,h7,h8,h9,h10,h11⟩:=h.m
 refine ⟨⟨ba,bg,vk,vq,vg,Fo,q,hm _ h1,h2.mod m (fun k hk hk2=>by simp at hk2;subst hk2;exact h8 hk),h3,h4.mod m (by simp;exact fun e=>h9 e.symm),h5.mod m (by simp;exact fun e=>h10 e.symm),h6.mod m (by simp;exact fun e=>h11 e.symm),rfl,h7,h8,h9,h10,h11⟩,h.s.mod m (fun k hk hk2=>by simp at hk2;subst hk2;exact h7 _ hk (by simp))⟩
theorem mgL_put (q:List Value) (H:List (Nat × Ed)) (f:Nat) (e:Ed) (i:Nat) (hi:i < 1033) (hH:H.length < 256):
 mgL q (H++[(f,e)]) i=if i=5+(H.length+1) then .bool true else if i=262+(H.length+1) *3 then .int .u8 f else if i=262+(H.length+1) *3+1 then .int .u8 e.t else if i=262+(H.length+1) *3+2 then .int .u32 e.a else mgL q H i:=by
 obtain ⟨N,hN⟩:∃N,H.length=N:=⟨_,rfl⟩
 unfold mgL
 simp only [List.length_append,List.length_cons,List.length_nil,hN]
 rw [hN] at hH
 by_cases h5:i < 5
 ·rw [if_pos h5,if_pos h5,if_neg (show ¬i=5+(N+1) by omega),if_neg (show ¬i=262+(N+1) *3 by omega),if_neg (show ¬i=262+(N+1) *3+1 by omega),if_neg (show ¬i=262+(N+1) *3+2 by omega)]
 ·rw [if_neg h5,if_neg h5]
  by_cases h6:i < 262
  ·rw [if_pos h6,if_pos h6,if_neg (show ¬i=262+(N+1) *3 by omega),if_neg (show ¬i=262+(N+1) *3+1 by omega),if_neg (show ¬i=262+(N+1) *3+2 by omega)]
   by_cases h7:i=5+(N+1)
   ·rw [if_pos h7];congr 1;exact decide_eq_true (by omega)
   ·rw [if_neg h7]
    congr 1
    exact decide_eq_decide.2 (by omega)
  ·rw [if_neg h6,if_neg h6,if_neg (show ¬i=5+(N+1) by omega)]
   by_cases h8:i < 265
   ·rw [if_neg (show ¬i=262+(N+1) *3 by omega),if_neg (show ¬i=262+(N+1) *3+1 by omega),if_neg (show ¬i=262+(N+1) *3+2 by omega)]
    simp only [h8,if_true]
   ·simp only [h8,if_false]
    obtain ⟨j,hj⟩:∃j,i=265+j:=⟨i - 265,by omega⟩
    have hj2:i - 265=j:=by rw [hj,Nat.add_sub_cancel_left]
    have hj3:i - 262=j+3:=by
     have e:i=262+(j+3):=by omega
     rw [e,Nat.add_sub_cancel_left]
    rw [hj2,hj3,List.getElem?_append]
    by_cases h9:j / 3 < N
    ·rw [if_pos (show j / 3 < H.length by omega),if_neg (show ¬i=262+(N+1) *3 by omega),if_neg (show ¬i=262+(N+1) *3+1 by omega),if_neg (show ¬i=262+(N+1) *3+2 by omega)]
    ·rw [if_neg (show ¬j / 3 < H.length by omega),hN]
     have hnone:H[j / 3]? =none:=List.getElem?_eq_none (by omega)
     rw [hnone]
     by_cases h10:j / 3=N
     ·rw [h10,Nat.sub_self]
      simp only [List.getElem?_cons_zero]
      obtain h | h | h:j=3 *N∨j=3 *N+1∨j=3 *N+2:=by omega
      ·rw [if_pos (show (j+3) % 3=0 by omega),if_pos (show i=262+(N+1) *3 by omega)]
      ·rw [if_neg (show ¬(j+3) % 3=0 by omega),if_pos (show (j+3) % 3=1 by omega),if_neg (show ¬i=262+(N+1) *3 by omega),if_pos (show i=262+(N+1) *3+1 by omega)]
      ·rw [if_neg (show ¬(j+3) % 3=0 by omega),if_neg (show ¬(j+3) % 3=1 by omega),if_neg (show ¬i=262+(N+1) *3 by omega),if_neg (show ¬i=262+(N+1) *3+1 by omega),if_pos (show i=262+(N+1) *3+2 by omega)]
     ·have hn2:[(f,e)][j / 3 - N]? =none:=List.getElem?_eq_none (by simp;omega)
      rw [if_neg (show ¬i=262+(N+1) *3 by omega),if_neg (show ¬i=262+(N+1) *3+1 by omega),if_neg (show ¬i=262+(N+1) *3+2 by omega),hn2]
theorem Mgr.put {w:World} {b:Nat} {q:List Value} {H:List (Nat × Ed)} (h:Mgr w b q H) (hH:H.length < 256) (f:Nat) (e:Ed) (m:Nat) (hm:H.length+1=m):
 Mgr ((((w.setCell ⟨b,5+m,none⟩ (.bool true)).setCell ⟨b,262+m *3,none⟩ (.int .u8 f)).setCell ⟨b,262+m *3+1,none⟩ (.int .u8 e.t)).setCell ⟨b,262+m *3+2,none⟩ (.int .u32 e.a)) b q (H++[(f,e)]):=by
 obtain ⟨c,h1,h2,h3⟩:=h.blk
 refine ⟨_,(((h1.set _ _).set _ _).set _ _).set _ _,by simp [h2],fun i hi=>?_⟩
 rw [mgL_put q H f e i hi hH,hm]
 simp only [Array.getElem?_setIfInBounds,Array.size_setIfInBounds,h2]
 by_cases a1:i=5+m
 ·subst a1;rw [if_neg (by omega),if_neg (by omega),if_neg (by omega),if_pos rfl,if_pos (by omega),if_pos rfl]
 ·by_cases a2:i=262+m *3
  ·subst a2;rw [if_neg (by omega),if_neg (by omega),if_pos rfl,if_pos (by omega),if_neg (by omega),if_pos rfl]
  ·by_cases a3:i=262+m *3+1
   ·subst a3;rw [if_neg (by omega),if_pos rfl,if_pos (by omega),if_neg (by omega),if_neg (by omega),if_pos rfl]
   ·by_cases a4:i=262+m *3+2
    ·subst a4;rw [if_pos rfl,if_pos (by omega),if_neg (by omega),if_neg (by omega),if_neg (by omega),if_pos rfl]
    ·rw [if_neg (fun e=>a4 e.symm),if_neg (fun e=>a3 e.symm),if_neg (fun e=>a2 e.symm),if_neg (fun e=>a1 e.symm),if_neg a1,if_neg a2,if_neg a3,if_neg a4,h3 i hi]
def PutP (w:World) (bm n room:Nat) (L':List Rc) (Fs p:List Nat) (H:List (Nat × Ed)) (f:Nat) (ed:Ed) (bs bo bq:Nat) (F:List Nat) (e:Ending) (w':World):Prop:=
 e=.returned (.tuple #[.int .i64 ((H.length+1:Nat):Int),.int .u8 0])∧∃Fs',Mng w' bm n room L' Fs' p (H++[(f,ed)]) bs bo bq F∧Mod (bm::Fs) w w'∧∀k∈Fs',k∈Fs∨w.heap.size≤k
theorem putVar_c {w:World} {bm n room:Nat} {L L':List Rc} {Fs p:List Nat} {H:List (Nat × Ed)} {bs bo bq:Nat} {F:List Nat} (h:Mng w bm n room L Fs p H bs bo bq F) (hH:H.length < 256) (f:Nat) (hf:f≤255) {ed:Ed} (caps:Array Value)
 (WK:∀W,Mod [] w W→Calls Tryz.prog 41 caps W (WorkP W bs n room Fs L' ed)):
 Calls Tryz.prog 33 #[.pointer (some ⟨bm,0,none⟩),.int .u8 f,.func (.func 41) #[] caps] w (PutP w bm n room L' Fs p H f ed bs bo bq F):=by
 have TW:=Lib.hid (twiceVar_c (bm:=bm) caps h.s.lt WK)
 have HM:=Lib.hid h
 obtain ⟨m,hm⟩:∃m,H.length+1=m:=⟨_,rfl⟩
 have HMM:=Lib.hid hm
 clear h WK
 unfold PutP
 rw [hm]
 go_enter Tryz.func33,Tryz.ntmps33
 go_wp2_with fail
 refine TW.out.mono ?_
 rintro e w1 ⟨rfl,Fs',s1,m1,f1⟩
 have MG:=Lib.hid (HM.out.step s1 m1 f1)
 have M1:=Lib.hid m1
 have SF:=Lib.hid f1
 clear s1 m1 f1 TW
 obtain ⟨t,a⟩:=ed
 unfold edv
 simp only
 have FR:Hid (∀W,Mod [] w1 W→Calls Tryz.prog 61 #[.pointer (some ⟨bm,0,none⟩)] W fun e w'=>e=.returned (.int .i64 m)∧w'=W):=fun W mm=>by
  obtain ⟨⟨q,hq⟩,-⟩:=(MG.out.mod mm).own
  have:=free_c hq hH
  rw [hm] at this
  exact this
 go_wp2_with fail
 refine (FR.out _ (by exact mods)).mono ?_
 rintro e w2 ⟨rfl,rfl⟩
 obtain ⟨g8,hg8⟩:∃g,w1.heap.size=g:=⟨_,rfl⟩
 rw [hg8]
 have B8:=(Blk.new' w1 #[.int .u8 t,.int .u32 a] 66 g8 hg8.symm)
 have M3:Hid (Mod [] w1 (w1.alloc (.cells #[.int .u8 t,.int .u32 a] 66))):=(Mod.refl _ _).alloc _
 have MG3:=Lib.hid (MG.out.mod M3.out)
 have hbm:bm < g8:=by
  obtain ⟨-,-,h⟩:=MG.out.own
  rw [←hg8]
  obtain ⟨ba,bg,vk,vq,vg,Fo,q,h1,h2,h3,h4,h5,h6,rfl,h7,h8⟩:=MG.out.m
  exact h1.lt
 clear hg8 FR
 generalize w1.alloc (.cells #[.int .u8 t,.int .u32 a] 66)=w3 at *
 obtain ⟨e0,e1⟩:=B8.cells2
 obtain ⟨⟨q,hq⟩,-⟩:=MG3.out.own
 have c5:=hq.live m (by omega) (by omega)
 rw [decide_eq_false (by omega)] at c5
 have x0:=hq.cell (262+m *3) (by omega)
 have x1:=hq.cell (262+m *3+1) (by omega)
 have x2:=hq.cell (262+m *3+2) (by omega)
 obtain ⟨v0,hv0⟩:∃v,mgL q H (262+m *3)=v:=⟨_,rfl⟩
 obtain ⟨v1,hv1⟩:∃v,mgL q H (262+m *3+1)=v:=⟨_,rfl⟩
 obtain ⟨v2,hv2⟩:∃v,mgL q H (262+m *3+2)=v:=⟨_,rfl⟩
 rw [hv0] at x0
 rw [hv1] at x1
 rw [hv2] at x2
 have z5:=hq.froz (5+m)
 have y0:=hq.froz (262+m *3)
 have y1:=hq.froz (262+m *3+1)
 have y2:=hq.froz (262+m *3+2)
 have n1:¬bm=g8:=by omega
 have n2:¬g8=bm:=by omega
 have hm1:(m:Int) < 257:=by omega
 have hm0:(0:Int)≤m:=by omega
 have HB8:=B8.lt
 have PUT:Hid (∀q,Mgr w3 bm q H→_):=fun q hq=>Mgr.put hq hH f ⟨t,a⟩ m hm
 clear hv0 hv1 hv2 B8 hq hm
 simp only
 go_wp2_with fail
 go_region
 go_wp2_with fail
 go_ret2
 have MB:Mod [bm] w3 (((((w3.setCell ⟨bm,5+m,none⟩ (.bool true)).setCell ⟨bm,262+m *3,none⟩ (.int .u8 f)).setCell ⟨bm,262+m *3+1,none⟩ (.int .u8 t)).setCell ⟨bm,262+m *3+2,none⟩ (.int .u32 a)).drew):=
  (((((Mod.refl _ _).setCell _ _ (by simp)).setCell _ _ (by simp)).setCell _ _ (by simp)).setCell _ _ (by simp)).drew
 refine ⟨rfl,Fs',MG3.out.book MB (fun q hq=>⟨(PUT.out q hq).blk⟩),?_,SF.out⟩
 exact ((M1.out.mono (S':=bm::Fs) (fun k _ hk=>by simp [hk])).trans' (M3.out.mono (by simp))).trans' (MB.mono (fun k _ hk=>by simp at hk;simp [hk]))
end Go.Proofs.YtlafpknoiihaaaaGreatDoor
