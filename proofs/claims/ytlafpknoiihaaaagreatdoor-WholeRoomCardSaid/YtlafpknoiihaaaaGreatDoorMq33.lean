/- Mq33: Id -/
import Derived.Test.YtlafpknoiihaaaaGreatDoorMq04
import Derived.Test.YtlafpknoiihaaaaGreatDoorMq32
set_option maxRecDepth 100000
set_option maxHeartbeats 4000000
set_option linter.unusedVariables false
set_option linter.unusedSimpArgs false
namespace Go.Proofs.YtlafpknoiihaaaaGreatDoor
open Go.RowKit Go.Shelf
attribute [local go_sem] Oper.semAt_some
def eiU (x:Nat):Value:=.int .u32 (x:Int)
def idsTo (i:Nat):List Nat:=(List.range i).map (·+2)
theorem idsTo_succ (i:Nat):idsTo (i+1)=idsTo i++[i+2]:=by
 unfold idsTo
 rw [List.range_succ,List.map_append];rfl
theorem idsTo_pre {i n:Nat} (h:i≤n):idsTo i <+:idsTo n:=by
 induction n with
 | zero=>
  obtain rfl:i=0:=by omega
  exact List.prefix_refl _
 | succ n ih=>
  rcases Nat.lt_or_ge n i with q | q
  ·obtain rfl:i=n+1:=by omega
   exact List.prefix_refl _
  ·exact (ih q).trans (by rw [idsTo_succ];exact List.prefix_append _ _)
theorem IsAr.keep {X:List Nat} {w w':World} {b:Nat} {L:List Rc} {room:Nat} {F:List Nat} (h:IsAr w b L room F) (m:Keep X w w') (hd:∀k∈F,k∈X):IsAr w' b L room F:=by
 obtain ⟨vc,Fc,hb,hc,rfl,r⟩:=h
 exact ⟨vc,Fc,hb.keep m (hd b (by simp)),hc.keep (fun k hk=>m k (hd k (by simp [hk]))),rfl,r⟩
theorem idsU {w:World} {bx b:Nat} {L:List Rc} {room:Nat} {F:List Nat} (hb:Blk w bx #[.pointer (some ⟨b,0,none⟩)] 104) (ha:IsAr w b L room F) (hL:L.length≤1048576):
 Seq Tryz.prog 153 #[.pointer (some ⟨bx,0,none⟩)] eiU (bx::F) (idsTo L.length) w:=by
 refine ⟨?_,enters_of Tryz.func153 (by kernel_rfl) rfl,?_⟩
 ·intro k hk
  rcases List.mem_cons.1 hk with rfl | hk
  ·exact hb.lt
  ·exact ha.lt k hk
 intro l J Jx W hW hkW hJ hJx hY h0
 have cb:=(hb.keep hkW (by simp)).cell 0
 simp at cb
 have haW:=IsAr.keep ha hkW (fun k hk=>by simp [hk])
 obtain ⟨a0,cap0,cA,_⟩:=haW.own
 have HA:=Lib.hid ha
 have HBX:=Lib.hid hb
 have HKW:=Lib.hid hkW
 have HY:=Lib.hid hY
 have H0:=Lib.hid h0
 generalize hn:L.length=n at *
 have HN:=Lib.hid hn
 clear hb hkW hJ hJx hY h0 hn ha haW
 refine (callsIn_wide (n:=0)).1 (callsIn_of_wp Tryz.func153 rfl trivial ?_ rfl)
 simp only [Tryz.ntmps153,List.size_toArray,List.length_cons,List.length_nil,Nat.reduceAdd,Nat.reduceSub,Array.replicate_succ,Array.replicate_zero,List.push_toArray,List.append_toArray,List.nil_append,List.cons_append]
 gi_wp2
 gi_loopw [11] (fun i wr=>∃k:Nat,i=.int .i64 k∧k≤n∧J [] (idsTo k) wr∧Keep (bx::F) w wr) (fun i _=>n - (intOf i).toNat)
 case atStart=>exact ⟨0,rfl,Nat.zero_le _,H0.out,HKW.out⟩
 case round=>
  obtain ⟨k,rfl,hk,hJ1,hK1⟩:=hrel
  have HK1:=Lib.hid hK1
  by_cases hlt:k < n
  ·have cbr:=(HBX.out.keep hK1 (by simp)).cell 0
   simp at cbr
   have hlt':k < L.length:=by rw [HN.out];exact hlt
   obtain ⟨g,cap,c0,-,-,-,-,-,-,-,c7,-⟩:=(IsAr.keep HA.out hK1 (fun k hk=>by simp [hk])).cell k hlt'
   rw [HN.out] at c0
   obtain ⟨rest,hrest⟩:=idsTo_pre (show k+1≤n from hlt)
   have HS:Hid (idsTo (k+1)=idsTo k++[k+2]):=idsTo_succ k
   rw [HS.out] at hrest
   obtain ⟨fn,tmps,assign,body,hy,hR⟩:=HY.out [] (idsTo k) (k+2) rest wr (by rw [←hrest];simp) hJ1 (by simp) hK1
   dsimp only [eiU] at hy
   rw [show (((k+2:Nat)):Int)=(k:Int)+2 by omega] at hy
   have HR:=Lib.hid hR
   have HP:Hid (idsTo k++[k+2] <+:idsTo n):=⟨rest,hrest⟩
   clear hR hK1 hJ1 hlt' hrest
   gi_wp2
   refine ⟨rfl,?_⟩
   refine RoundIn.mono (show RoundIn _ _ _ _ _ _ _ _ _ _ from HR.out) ?_
   rintro e V2 ⟨hs2,hk2,(⟨rfl,hj2⟩ | ⟨rfl,hj2⟩)⟩
   ·have hK2:Hid (Keep (bx::F) w V2):=HK1.out.trans (fun q hq=>hk2 q (by simpa using hq))
    have HJ2:=Lib.hid hj2
    clear hk2 hj2 hs2
    gi_wp2
    go_roundw
    case rel=>exact ⟨k+1,by go_num,hlt,by rw [HS.out];exact HJ2.out,hK2.out⟩
    case measure=>simp [intOf];omega
   ·have HJ2:=Lib.hid hj2
    clear hk2 hj2 hs2
    gi_wp2
    refine bodyPost_ret (results_none rfl _ _ _) rfl ⟨⟨_,rfl⟩,.inr ⟨_,HP.out,HJ2.out⟩⟩
  ·obtain rfl:k=n:=by omega
   have HJ1:=Lib.hid hJ1
   clear hJ1 hK1
   gi_wp2
   go_end0
   exact ⟨⟨_,rfl⟩,.inl HJ1.out⟩
theorem idsU_c {w:World} {b:Nat} {L:List Rc} {room:Nat} {F:List Nat} (ha:IsAr w b L room F) (hL:L.length≤1048576):
 Calls Tryz.prog 132 #[.pointer (some ⟨b,0,none⟩)] w fun e w'=>∃gb,w.heap.size≤gb∧e=.returned (.func (.func 153) #[] #[.pointer (some ⟨gb,0,none⟩)])∧Seq Tryz.prog 153 #[.pointer (some ⟨gb,0,none⟩)] eiU (gb::F) (idsTo L.length) w'∧Mod [] w w':=by
 have HA:=Lib.hid ha
 have HL:=Lib.hid hL
 clear ha hL
 go_enter Tryz.func132,Tryz.ntmps132
 go_wp2
 go_ret
 exact ⟨_,Nat.le_refl _,rfl,idsU (Blk.new _ _ _) (HA.out.mod (S:=[]) ((Mod.refl _ _).alloc _) (by simp)) HL.out,(Mod.refl _ _).alloc _⟩
end Go.Proofs.YtlafpknoiihaaaaGreatDoor
