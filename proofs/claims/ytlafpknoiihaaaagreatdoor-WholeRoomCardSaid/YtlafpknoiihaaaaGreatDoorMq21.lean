/- Mq21: Qa -/
import Derived.Test.YtlafpknoiihaaaaGreatDoorMq02
import Derived.Test.YtlafpknoiihaaaaGreatDoorMq01
import Derived.Shelf.Abstract
import Derived.LoopTactic
set_option maxHeartbeats 1000000
set_option linter.unusedVariables false
set_option linter.unusedSimpArgs false
namespace Go.Proofs.YtlafpknoiihaaaaGreatDoor
open Go.RowKit Go.Shelf
def lim:Nat:=B64 ^ 64
theorem one_lt_B:1 < B64:=by unfold B64;omega
def e6 (x:Nat):Value:=.int .u64 (x:Int)
theorem e6_one (l:List Nat):∀u∈l.map e6,u.oneCell'=true:=by
 intro u hu
 obtain ⟨x,_,rfl⟩:=List.mem_map.1 hu
 rfl
theorem Can.fits64 {l:List Nat} {n:Nat} (h:Can B64 l n):l.length≤64↔n < lim:=h.fits one_lt_B 64
def Nv (w:World) (v:Value) (l:List Nat) (F:List Nat):Prop:=Rv w v (l.map e6) F∧∀x∈l,x < B64
theorem Nv.mod {S:List Nat} {w w':World} {v:Value} {l F:List Nat} (h:Nv w v l F) (m:Mod S w w') (hd:∀k∈F,k∉S):Nv w' v l F:=⟨h.1.mod m hd,h.2⟩
theorem Nv.nil (w:World):Nv w (.slice none 0 0) [] []:=⟨Rv.nil w,by simp⟩
def NNew (w:World) (n:Nat) (w':World) (v':Value):Prop:=∃l,Can B64 l n∧NewV 22 w (l.map e6) w' v'
theorem NNew.nv {w w':World} {n:Nat} {v':Value} (h:NNew w n w' v'):∃l F,Can B64 l n∧Nv w' v' l F∧(∀k∈F,w.heap.size≤k):=by
 obtain ⟨l,hc,hn⟩:=h
 obtain ⟨F,hr,hf⟩:=hn.rv
 exact ⟨l,F,hc,⟨hr,hc.lt⟩,hf⟩
theorem NNew.mod {w w':World} {n:Nat} {v':Value} (h:NNew w n w' v'):Mod [] w w':=by obtain ⟨l,_,hn⟩:=h;exact hn.mod
theorem NNew.later {w w1 w2:World} {n:Nat} {v:Value} (h:NNew w n w1 v) (m:Mod [] w1 w2):NNew w n w2 v:=by obtain ⟨l,hc,hn⟩:=h;exact ⟨l,hc,hn.later m⟩
theorem NNew.after {w0 w w':World} {n:Nat} {v':Value} (h:NNew w n w' v') (m:Mod [] w0 w):NNew w0 n w' v':=by obtain ⟨l,hc,hn⟩:=h;exact ⟨l,hc,hn.after m⟩
theorem NNew.nil {w w':World} (m:Mod [] w w'):NNew w 0 w' (.slice none 0 0):=⟨[],Can.nil _,NewV.nil 22 m⟩
theorem Tryz.infoQ:(Tryz.prog.info? 22).map (fun i=>(i.zero,i.size,i.bytes))=some (some (.int .u64 0),1,8):=by kernel_rfl
theorem clone_c {w:World} {v:Value} {xs:List Value} {F:List Nat} (h:Rv w v xs F) (h1:∀u∈xs,u.oneCell'=true) (hl:xs.length≤100000):
 Calls Tryz.prog 185 #[v] w fun e w'=>∃v',e=.returned v'∧NewV 22 w xs w' v':=by
 obtain ⟨A,cap,rfl,hc⟩:=h.shape
 obtain ⟨i0,hi,hz0,hz1,hz2⟩:=info_parts Tryz.infoQ
 have H:=Lib.hid h
 have H1:=Lib.hid h1
 clear h h1
 generalize hn:xs.length=n at *
 have HN:=Lib.hid hn
 clear hn
 have heq:=fun (w:World) (a:Option Addr) (n c:Nat)=>Go.Lib.run_eql_slice_nil (P:=Tryz.prog) w 23 22 a n c 0 0 Tryz.underlying23
 cases A with
 | none=>
  have h0:Hid (xs=[]):=by
   have h1:=H.out.src
   rcases Nat.eq_zero_or_pos n with e | e
   ·exact List.eq_nil_of_length_eq_zero (by rw [HN.out,e])
   ·obtain ⟨a,e,_⟩:=h1 e;simp at e
  go_enter Tryz.func185,Tryz.ntmps185
  go_wp2_with fail
  go_ret
  refine ⟨_,rfl,?_⟩
  rw [h0.out];exact NewV.nil 22 (Mod.refl _ _)
 | some a=>
  go_enter Tryz.func185,Tryz.ntmps185
  go_wp2_with (at_builtin;refine wpList_append_slz _ rfl _ _ 23 rfl 22 i0 (.int .u64 0) 1 8 Tryz.underlying23 hi hz0 hz1 hz2 rfl (by decide) _ 0 [] [w.heap.size] rfl (Sl.lit w 22 1 0 #[] (by unfold maxLen;omega) rfl) (some a) n cap xs rfl (by rw [HN.out];omega) (H.out.mod (S:=[]) (by exact mods) (by simp)).src H1.out (by unfold maxLen;omega) (by omega) ?_;intro v' w1 F' hs1 hm1 hf1)
  go_ret
  exact ⟨_,rfl,NewV.of_empty hs1 HN.out hm1 hf1⟩
theorem norm_c {w:World} {v:Value} {l F:List Nat} (h:Nv w v l F) (hl:l.length≤100000):
 Calls Tryz.prog 172 #[v] w fun e w'=>∃v',e=.returned v'∧NNew w (vl B64 l) w' v':=by
 obtain ⟨A,cap,rfl,hc⟩:=h.1.shape
 have H:=Lib.hid h
 clear h
 rw [List.length_map] at *
 generalize hn:l.length=n at *
 have HN:=Lib.hid hn
 clear hn
 go_enter Tryz.func172,Tryz.ntmps172
 go_wp2_with fail
 go_loopw [3] (fun i wr=>∃k:Nat,i=.int .i64 k∧k≤n∧Hid (vl B64 (l.take k)=vl B64 l)∧wr=w) (fun i _=>(intOf i).toNat)
 case atStart=>exact ⟨n,rfl,Nat.le_refl _,by show _=_;rw [List.take_of_length_le (by rw [HN.out];exact Nat.le_refl _)],rfl⟩
 case round=>
  obtain ⟨k,rfl,hk,HV,rfl⟩:=hrel
  have fin:Hid (k=0∨(∃h:k - 1 < l.length,l[k - 1]≠0)→Calls Tryz.prog 185 #[.slice A k cap] wr fun e w'=>∃v',e=.returned v'∧NNew wr (vl B64 l) w' v'):=fun hz=>by
   have hc2:Can B64 (l.take k) (vl B64 l):=Can.norm H.out.2 (by rw [HN.out];exact hk) HV.out hz
   have hr:=H.out.1.take k hk
   rw [←List.map_take] at hr
   refine (clone_c hr (e6_one _) (by rw [List.length_map,List.length_take];omega)).mono ?_
   rintro e w' ⟨v',he,hnv⟩
   exact ⟨v',he,_,hc2,hnv⟩
  by_cases h0:0 < k
  ·obtain ⟨j,rfl⟩:∃j,k=j+1:=⟨k - 1,by omega⟩
   have hj:j < l.length:=by rw [HN.out];omega
   obtain ⟨b1,o1,rfl,d1⟩:=H.out.1.at j (by rw [List.length_map];exact hj)
   rw [List.getElem_map] at d1
   unfold e6 at d1
   by_cases hz:l[j]=0
   ·rw [hz] at d1
    have HV2:Hid (vl B64 (l.take j)=vl B64 l):=norm_step hj HV.out hz
    clear hz
    go_wp2_with fail
    go_roundw
    case rel=>exact ⟨j,by go_num,by omega,HV2,by first | rfl | trivial⟩
    case measure=>simp [intOf]
   ·have hzb:(((l[j]:Nat):Int)==0)=false:=by rw [beq_eq_false_iff_ne];omega
    have FIN:=Lib.hid (fin.out (.inr ⟨hj,hz⟩))
    clear fin hz
    generalize (l[j]:Int)=x at *
    go_wp2_with fail
    refine FIN.out.mono ?_
    rintro e w' ⟨v',rfl,hnn⟩
    have HNN:=Lib.hid hnn
    clear hnn
    go_wp2
    go_ret
    exact ⟨_,rfl,HNN.out⟩
  ·obtain rfl:k=0:=by omega
   have FIN:=Lib.hid (fin.out (.inl rfl))
   clear fin
   go_wp2_with fail
   refine FIN.out.mono ?_
   rintro e w' ⟨v',rfl,hnn⟩
   have HNN:=Lib.hid hnn
   clear hnn
   go_wp2
   go_ret
   exact ⟨_,rfl,HNN.out⟩
end Go.Proofs.YtlafpknoiihaaaaGreatDoor
