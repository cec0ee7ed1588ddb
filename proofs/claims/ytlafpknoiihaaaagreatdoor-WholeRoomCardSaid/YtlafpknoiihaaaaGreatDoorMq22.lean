/- Mq22: Qb · Qc · Qo -/
import Derived.Test.YtlafpknoiihaaaaGreatDoorMq21
import Derived.Laws.Externs
import Derived.Shelf.Spec.BitsCarry
set_option maxRecDepth 100000
set_option maxHeartbeats 4000000
set_option linter.unusedVariables false
set_option linter.unusedSimpArgs false
namespace Go.Proofs.YtlafpknoiihaaaaGreatDoor
open Go.RowKit Go.Shelf
theorem fits_c (A:Option Addr) (n cap:Nat) (w:World):Calls Tryz.prog 222 #[.slice A n cap] w fun e w'=>e=.returned (.bool (decide (n≤64)))∧w=w':=by
 have h:decide ((n:Int)≤64)=decide (n≤64):=by
  by_cases q:n≤64
  ·rw [decide_eq_true q,decide_eq_true (by omega)]
  ·rw [decide_eq_false q,decide_eq_false (by omega)]
 by_cases q:n≤64
 ·have q':(n:Int)≤64:=by omega
  have HQ:=Lib.hid (decide_eq_true q)
  go_enter Tryz.func222,Tryz.ntmps222
  go_wp2
  go_ret
  exact ⟨by first | rfl | (rw [HQ.out];rfl),rfl⟩
 ·have q':¬(n:Int)≤64:=by omega
  have HQ:=Lib.hid (decide_eq_false q)
  go_enter Tryz.func222,Tryz.ntmps222
  go_wp2
  go_ret
  exact ⟨by first | rfl | (rw [HQ.out];rfl),rfl⟩
theorem both_c {w:World} {v1 v2:Value} {l1 l2 F1 F2:List Nat} (h1:Nv w v1 l1 F1) (h2:Nv w v2 l2 F2) (hl1:l1.length≤100000) (hl2:l2.length≤100000):
 Calls Tryz.prog 210 #[v1,v2] w fun e w'=>∃(A1 A2:Option Addr) (c1 c2:Nat) (m1 m2:List Nat),e=.returned (.tuple #[.slice A1 m1.length c1,.slice A2 m2.length c2,.bool (decide (vl B64 l1 < lim) && decide (vl B64 l2 < lim))])∧
  Can B64 m1 (vl B64 l1)∧Can B64 m2 (vl B64 l2)∧NewV 22 w (m1.map e6) w' (.slice A1 m1.length c1)∧(∃F2',Rv w' (.slice A2 m2.length c2) (m2.map e6) F2'∧∀k∈F2',w.heap.size≤k)∧(∃F1',Sl w' 22 1 (.slice A1 m1.length c1) m1.length (m1.map e6) F1'∧(∀k∈F1',w.heap.size≤k)∧∃F2',Rv w' (.slice A2 m2.length c2) (m2.map e6) F2'∧(∀k∈F2',w.heap.size≤k∧k∉F1')):=by
 have H1:=Lib.hid h1
 have H2:=Lib.hid h2
 have L2:=Lib.hid hl2
 have C1:=Lib.hid (norm_c h1 hl1)
 clear h1 h2 hl1 hl2
 go_enter Tryz.func210,Tryz.ntmps210
 go_wp2_with fail
 refine C1.out.mono ?_
 rintro e w1 ⟨u1,rfl,m1,hc1,n1⟩
 have N1:=Lib.hid n1
 have K1:=Lib.hid hc1
 have C2:=Lib.hid (norm_c (H2.out.mod n1.mod (by simp)) L2.out)
 obtain ⟨A1,c1,rfl⟩:=n1.shape
 clear n1 hc1
 have E1:Hid ((m1.map e6).length=m1.length):=List.length_map _
 rw [E1.out] at N1 ⊢
 go_wp2_with fail
 refine C2.out.mono ?_
 rintro e w2 ⟨u2,rfl,m2,hc2,n2⟩
 have N2:=Lib.hid n2
 have K2:=Lib.hid hc2
 obtain ⟨A2,c2,rfl⟩:=n2.shape
 clear n2 hc2
 have E2:Hid ((m2.map e6).length=m2.length):=List.length_map _
 rw [E2.out] at N2 ⊢
 have D1:Hid (decide (m1.length≤64)=decide (vl B64 l1 < lim)):=by show _=_;rw [decide_eq_decide];exact K1.out.fits64
 have D2:Hid (decide (m2.length≤64)=decide (vl B64 l2 < lim)):=by show _=_;rw [decide_eq_decide];exact K2.out.fits64
 have FT:=Lib.hid fits_c
 have fin:Hid (NewV 22 w (m1.map e6) w2 (.slice A1 m1.length c1)∧(∃F2',Rv w2 (.slice A2 m2.length c2) (m2.map e6) F2'∧∀k∈F2',w.heap.size≤k)∧(∃F1',Sl w2 22 1 (.slice A1 m1.length c1) m1.length (m1.map e6) F1'∧(∀k∈F1',w.heap.size≤k)∧∃F2',Rv w2 (.slice A2 m2.length c2) (m2.map e6) F2'∧(∀k∈F2',w.heap.size≤k∧k∉F1'))):=by
  obtain ⟨F1',s1,q1,f1⟩:=N1.out
  obtain ⟨F2',r2,f2⟩:=N2.out.rv
  have hs:=q1.size
  have s1':=s1.mod N2.out.mod (by simp)
  rw [E1.out] at s1'
  exact ⟨N1.out.later N2.out.mod,⟨F2',r2,fun k hk=>Nat.le_trans hs (f2 k hk)⟩,F1',s1',f1,F2',r2,fun k hk=>⟨Nat.le_trans hs (f2 k hk),fun hm=>by have:=s1.lt k hm;have:=f2 k hk;omega⟩⟩
 obtain ⟨n1,hn1⟩:∃q,m1.length=q:=⟨_,rfl⟩
 obtain ⟨n2,hn2⟩:∃q,m2.length=q:=⟨_,rfl⟩
 have HN1:=Lib.hid hn1
 have HN2:=Lib.hid hn2
 rw [hn1,hn2]
 have QQ:=Lib.hid fin.out
 clear fin N1 N2 C1 C2 hn1 hn2
 by_cases q1:n1≤64
 ·have T1:=Lib.hid (decide_eq_true q1)
  go_wp2_with fail
  refine (FT.out _ _ _ _).mono ?_
  rw [T1.out]
  rintro e w3 ⟨rfl,rfl⟩
  go_wp2_with fail
  refine (FT.out _ _ _ _).mono ?_
  rintro e w3 ⟨rfl,rfl⟩
  by_cases q2:n2≤64
  ·have T2:=Lib.hid (decide_eq_true q2)
   rw [T2.out]
   go_wp2
   go_returns
   refine ⟨A1,A2,c1,c2,m1,m2,?_,K1.out,K2.out,QQ.out⟩
   rw [←D1.out,←D2.out,HN1.out,HN2.out,T1.out,T2.out];rfl
  ·have T2:=Lib.hid (decide_eq_false q2)
   rw [T2.out]
   go_wp2
   go_returns
   refine ⟨A1,A2,c1,c2,m1,m2,?_,K1.out,K2.out,QQ.out⟩
   rw [←D1.out,←D2.out,HN1.out,HN2.out,T1.out,T2.out];rfl
 ·have T1:=Lib.hid (decide_eq_false q1)
  go_wp2_with fail
  refine (FT.out _ _ _ _).mono ?_
  rw [T1.out]
  rintro e w3 ⟨rfl,rfl⟩
  go_wp2
  go_returns
  refine ⟨A1,A2,c1,c2,m1,m2,?_,K1.out,K2.out,QQ.out⟩
  rw [←D1.out,←D2.out,HN1.out,HN2.out,T1.out];rfl
def Told (w:World) (ok:Bool) (n:Nat) (e:Ending) (w':World):Prop:=
 (ok=true∧∃v',e=.returned (.tuple #[v',.bool true])∧NNew w n w' v')∨(ok=false∧e=.returned (.tuple #[.slice none 0 0,.bool false])∧Mod [] w w')
theorem Told.after {w0 w w':World} {ok:Bool} {n:Nat} {e:Ending} (h:Told w ok n e w') (m:Mod [] w0 w):Told w0 ok n e w':=by
 rcases h with ⟨h1,v',h2,h3⟩ | ⟨h1,h2,h3⟩
 ·exact .inl ⟨h1,v',h2,h3.after m⟩
 ·exact .inr ⟨h1,h2,m.trans h3 (by simp)⟩
theorem told_c {w:World} {v:Value} {l F:List Nat} (h:Nv w v l F) (hl:l.length≤100000):
 Calls Tryz.prog 213 #[v] w fun e w'=>Told w (decide (vl B64 l < lim)) (vl B64 l) e w':=by
 have C1:=Lib.hid (norm_c h hl)
 clear h hl
 go_enter Tryz.func213,Tryz.ntmps213
 go_wp2_with fail
 refine C1.out.mono ?_
 rintro e w1 ⟨u1,rfl,m1,hc1,n1⟩
 have N1:=Lib.hid n1
 have K1:=Lib.hid hc1
 obtain ⟨A1,c1,rfl⟩:=n1.shape
 clear n1 hc1
 have E1:Hid ((m1.map e6).length=m1.length):=List.length_map _
 rw [E1.out] at N1 ⊢
 have FT:=Lib.hid fits_c
 obtain ⟨n1,hn1⟩:∃q,m1.length=q:=⟨_,rfl⟩
 have HN1:=Lib.hid hn1
 rw [hn1] at N1 ⊢
 clear hn1
 by_cases q1:n1≤64
 ·have T1:=Lib.hid (decide_eq_true q1)
  have T:Hid (decide (vl B64 l < lim)=true):=decide_eq_true (K1.out.fits64.1 (by rw [HN1.out];exact q1))
  go_wp2_with fail
  refine (FT.out _ _ _ _).mono ?_
  rw [T1.out]
  rintro e w3 ⟨rfl,rfl⟩
  go_wp2
  go_ret2
  exact .inl ⟨T.out,_,rfl,m1,K1.out,N1.out⟩
 ·have T1:=Lib.hid (decide_eq_false q1)
  have T:Hid (decide (vl B64 l < lim)=false):=decide_eq_false (fun q=>q1 (by rw [←HN1.out];exact K1.out.fits64.2 q))
  go_wp2_with fail
  refine (FT.out _ _ _ _).mono ?_
  rw [T1.out]
  rintro e w3 ⟨rfl,rfl⟩
  go_wp2
  go_ret2
  exact .inr ⟨T.out,rfl,N1.out.mod⟩
theorem run_Add64 (x y c:Nat) (hc:c≤1) (w:World):
 (callFunc 212 #[.int .u64 x,.int .u64 y,.int .u64 c]).run Tryz.prog w=
  .ok (.value (.tuple #[.int .u64 (((x+y+c) % 18446744073709551616:Nat):Int),.int .u64 (((x+y+c) / 18446744073709551616:Nat):Int)])) w:=by
 rw [run_callFunc_extern Tryz.func212 (by kernel_rfl) (by kernel_rfl) (by kernel_rfl) (e:=add64Entry) (by kernel_rfl),run_add64 x y c (by omega) (by omega) (by omega) (by omega)]
 simp only [Result.andThen]
 congr 5<;>omega
open Go.RowKit Go.Shelf
theorem set_mid (o:List Nat) (m x:Nat):(o++List.replicate (m+1) 0).set o.length x=(o++[x])++List.replicate m 0:=by
 rw [List.set_append_right _ _ (Nat.le_refl _),Nat.sub_self,List.replicate_succ,List.set_cons_zero];simp
theorem Sl.zeros (w:World) (n g:Nat) (hg:g=w.heap.size) (hm:n≤maxLen):Sl (w.alloc (.cells (madeCells #[.int .u64 0] n) 22)) 22 1 (.slice (some ⟨g,0,none⟩) n n) n ((List.replicate n 0).map e6) [g]:=by
 subst hg
 have h:=Sl.made w 22 1 n #[.int .u64 0] hm
 rw [Nat.mul_one] at h
 have e:(madeCells #[Value.int .u64 0] n).toList=(List.replicate n 0).map e6:=by
  apply List.ext_getElem?
  intro i
  rw [List.map_replicate]
  by_cases hi:i < n
  ·rw [List.getElem?_replicate,if_pos hi,Array.getElem?_toList]
   have h2:=(Row.made w n (.int .u64 0) 22 w.heap.size rfl)
   obtain ⟨A,hb,hs,hA⟩:=h2
   have hb2:Blk (w.alloc (.cells (madeCells #[.int .u64 0] n) 22)) w.heap.size (madeCells #[.int .u64 0] n) 22:=Blk.new _ _ _
   have:A=madeCells #[.int .u64 0] n:=by
    unfold Blk at hb hb2
    rw [hb] at hb2
    simpa using hb2
   rw [←this,hA i hi];rfl
  ·rw [List.getElem?_eq_none (by simp [size_madeCells];omega),List.getElem?_eq_none (by simp;omega)]
 rw [e] at h
 exact h
theorem add_step (o:List Nat) (k x y c va vb:Nat) (ho:o.length=k) (h:vl B64 o+B64 ^ k *c=va+vb):
 vl B64 (o++[(x+y+c) % B64])+B64 ^ (k+1) *((x+y+c) / B64)=(va+B64 ^ k *x)+(vb+B64 ^ k *y):=by
 rw [vl_snoc,ho,Nat.pow_succ,Nat.mul_assoc,Nat.add_assoc,←Nat.mul_add,Nat.mod_add_div,Nat.mul_add,Nat.mul_add]
 omega
theorem vl_take_getD (b:Nat) (l:List Nat) (k:Nat):vl b (l.take (k+1))=vl b (l.take k)+b ^ k *l.getD k 0:=by
 by_cases h:k < l.length
 ·rw [vl_take_succ b l h,List.getD_eq_getElem?_getD,List.getElem?_eq_getElem h];rfl
 ·rw [List.take_of_length_le (by omega),List.take_of_length_le (by omega),List.getD_eq_getElem?_getD,List.getElem?_eq_none (by omega)];simp
theorem made22 (w:World) (n:Nat) (hn:n≤10000):(Instr.makeSlice 23 (.int .i64 n) (.int .i64 n)).run Tryz.prog w=.ok (.slice (some ⟨w.heap.size,0,none⟩) n n) (w.alloc (.cells (madeCells #[.int .u64 0] n) 22)):=by
 obtain ⟨i0,hi,hz0,hz1,hz2⟩:=info_parts Tryz.infoQ
 have:=run_make (P:=Tryz.prog) w 23 22 i0 _ Tryz.underlying23 hi hz0 .i64 .i64 n n (by omega) (by omega) (by rw [hz2];omega) (by omega)
 simpa [hz1,Value.cells] using this
structure Fill (w1:World) (g n:Nat) (wr:World) (o:List Nat):Prop where
 lt:∀x∈o,x < B64
 len:o.length≤n
 sl:Sl wr 22 1 (.slice (some ⟨g,0,none⟩) n n) n ((o++List.replicate (n - o.length) 0).map e6) [g]
 mod:Mod [] w1 wr
 new:w1.heap.size≤g
theorem Fill.start {w1:World} {g n:Nat} (hg:g=w1.heap.size) (hn:n≤maxLen):Fill w1 g n (w1.alloc (.cells (madeCells #[.int .u64 0] n) 22)) []:=
 ⟨by simp,by simp,by simpa using Sl.zeros w1 n g hg hn,(Mod.refl _ _).alloc _,by omega⟩
theorem Fill.put {w1 wr:World} {g n k:Nat} {o:List Nat} (h:Fill w1 g n wr o) (hk:o.length=k) (hn:k < n) (x:Nat) (hx:x < B64):Fill w1 g n (wr.setCell ⟨g,k,none⟩ (e6 x)) (o++[x]):=by
 subst hk
 refine ⟨fun y hy=>?_,by simp;omega,?_,h.mod.setCell _ _ (fun q=>by have:=h.new;simp at q;omega),h.new⟩
 ·rcases List.mem_append.1 hy with q | q
  ·exact h.lt y q
  ·simp at q;rw [q];exact hx
 ·have h1:=h.sl.set o.length (e6 x)
  rw [←List.map_set,show n - o.length=(n - (o.length+1))+1 by omega,set_mid] at h1
  simpa using h1
theorem Fill.at {w1 wr:World} {g n k:Nat} {o:List Nat} (h:Fill w1 g n wr o) (hk:o.length=k) (hn:k < n):wr.cell? ⟨g,k,none⟩=some (.int .u64 0)∧wr.frozen? ⟨g,k,none⟩=false:=by
 have h1:=h.sl.at k (by omega)
 refine ⟨?_,h1.2.1⟩
 rw [h1.1,List.getElem?_map,List.getElem?_append_right (by omega),List.getElem?_replicate,if_pos (by omega)];rfl
theorem Fill.full {w1 wr:World} {g n:Nat} {o:List Nat} (h:Fill w1 g n wr o) (hk:o.length=n):NewV 22 w1 (o.map e6) wr (.slice (some ⟨g,0,none⟩) n n):=by
 refine ⟨[g],?_,h.mod,fun k hk=>by simp at hk;subst hk;exact h.new⟩
 have h1:=h.sl
 rw [hk,Nat.sub_self] at h1
 rw [List.length_map,hk]
 simpa using h1
structure AInv (w1:World) (g n:Nat) (mA mB:List Nat) (wr:World) (k c:Nat) (o:List Nat):Prop where
 fill:Fill w1 g n wr o
 len:o.length=k
 carry:c≤1
 val:vl B64 o+B64 ^ k *c=vl B64 (mA.take k)+vl B64 (mB.take k)
theorem AInv.step {w1 wr:World} {g n k c:Nat} {mA mB o:List Nat} (h:AInv w1 g n mA mB wr k c o) (hn:k < n) (hA:∀x∈mA,x < B64) (hB:∀x∈mB,x < B64):
 AInv w1 g n mA mB (wr.setCell ⟨g,k,none⟩ (e6 ((mA.getD k 0+mB.getD k 0+c) % B64))) (k+1) ((mA.getD k 0+mB.getD k 0+c) / B64) (o++[(mA.getD k 0+mB.getD k 0+c) % B64]):=by
 have hd:∀l:List Nat,(∀x∈l,x < B64)→l.getD k 0 < B64:=fun l hl=>by
  rw [List.getD_eq_getElem?_getD]
  by_cases q:k < l.length
  ·rw [List.getElem?_eq_getElem q];exact hl _ (List.getElem_mem _)
  ·rw [List.getElem?_eq_none (by omega)];unfold B64;simp
 have h1:=hd mA hA
 have h2:=hd mB hB
 have h3:=h.carry
 refine ⟨h.fill.put h.len hn _ (Nat.mod_lt _ (by unfold B64;omega)),by simp [h.len],?_,?_⟩
 ·have:(mA.getD k 0+mB.getD k 0+c) / B64 < 2:=by rw [Nat.div_lt_iff_lt_mul (by unfold B64;omega)];omega
  omega
 ·rw [vl_take_getD,vl_take_getD]
  exact add_step o k _ _ c _ _ h.len h.val
theorem add_c {w:World} {v1 v2:Value} {l1 l2 F1 F2:List Nat} (h1:Nv w v1 l1 F1) (h2:Nv w v2 l2 F2) (hl1:l1.length≤100000) (hl2:l2.length≤100000):
 Calls Tryz.prog 209 #[v1,v2] w fun e w'=>Told w (decide (vl B64 l1+vl B64 l2 < lim)) (vl B64 l1+vl B64 l2) e w':=by
 have CB:=Lib.hid (both_c h1 h2 hl1 hl2)
 have RA:=Lib.hid run_Add64
 generalize vl B64 l1=va at *
 generalize vl B64 l2=vb at *
 clear h1 h2 hl1 hl2
 go_enter Tryz.func209,Tryz.ntmps209
 go_wp2_with fail
 refine CB.out.mono ?_
 rintro e w1 ⟨A1,A2,c1,c2,m1,m2,rfl,k1,k2,n1,⟨F2',r2,f2⟩,-⟩
 have MM:=Lib.hid n1.mod
 have K1:=Lib.hid k1
 have K2:=Lib.hid k2
 have R2:=Lib.hid r2
 obtain ⟨F1',r1,f1⟩:=n1.rv
 have R1:=Lib.hid r1
 clear CB n1 k1 k2 r1 r2 f1 f2
 obtain ⟨ok,hok⟩:∃q,(decide (va < lim) && decide (vb < lim))=q:=⟨_,rfl⟩
 have OK:=Lib.hid hok
 rw [hok]
 clear hok
 cases ok with
 | false=>
  have NO:Hid (decide (va+vb < lim)=false):=by
   have h:=OK.out
   rw [Bool.and_eq_false_iff,decide_eq_false_iff_not,decide_eq_false_iff_not] at h
   show _=_
   rw [decide_eq_false_iff_not]
   omega
  go_wp2
  go_ret2
  exact .inr ⟨NO.out,rfl,MM.out⟩
 | true=>
  have B1:Hid (m1.length≤64):=by
   have h:=OK.out
   rw [Bool.and_eq_true,decide_eq_true_iff,decide_eq_true_iff] at h
   exact K1.out.fits64.2 h.1
  have B2:Hid (m2.length≤64):=by
   have h:=OK.out
   rw [Bool.and_eq_true,decide_eq_true_iff,decide_eq_true_iff] at h
   exact K2.out.fits64.2 h.2
  clear OK
  obtain ⟨n1,hn1⟩:∃q,m1.length=q:=⟨_,rfl⟩
  obtain ⟨n2,hn2⟩:∃q,m2.length=q:=⟨_,rfl⟩
  rw [hn1] at B1
  rw [hn2] at B2
  have b1:=B1.out
  have b2:=B2.out
  rw [hn1] at R1
  rw [hn2] at R2
  rw [hn1,hn2]
  have HN1:=Lib.hid hn1
  have HN2:=Lib.hid hn2
  clear hn1 hn2 B1 B2
  by_cases hs:(n1:Int) < n2
  ·have hle:n1≤n2:=by omega
   have hmk:∀w,(Instr.makeSlice 23 (.int .i64 ((n2:Int)+1)) (.int .i64 ((n2:Int)+1))).run Tryz.prog w=.ok (.slice (some ⟨w.heap.size,0,none⟩) (n2+1) (n2+1)) (w.alloc (.cells (madeCells #[.int .u64 0] (n2+1)) 22)):=fun w=>made22 w (n2+1) (by omega)
   obtain ⟨g,hg⟩:∃g,w1.heap.size=g:=⟨_,rfl⟩
   have HG:=Lib.hid hg
   have fin:Hid (∀wr:World,∀o:List Nat,∀c:Nat,AInv w1 g (n2+1) m2 m1 wr n2 c o→c≤1→
    Calls Tryz.prog 213 #[.slice (some ⟨g,0,none⟩) (n2+1) (n2+1)] (wr.setCell ⟨g,n2,none⟩ (.int .u64 c)) fun e w'=>Told w (decide (va+vb < lim)) (va+vb) e w'):=fun wr o c hi hc=>by
    have h1:=hi.fill.put hi.len (Nat.lt_succ_self _) c (by unfold B64;omega)
    have hv:vl B64 (o++[c])=va+vb:=by
     rw [vl_snoc,hi.len,hi.val,←K1.out.val,←K2.out.val,show m2.take n2=m2 from List.take_of_length_le (by rw [HN2.out];exact Nat.le_refl _),show m1.take n2=m1 from List.take_of_length_le (by rw [HN1.out];exact hle)]
     try omega
    have h2:=h1.full (by rw [List.length_append,hi.len];rfl)
    obtain ⟨F,h3,_⟩:=h2.rv
    rw [←hv]
    exact (told_c ⟨h3,h1.lt⟩ (by rw [List.length_append,hi.len];simp;omega)).mono fun e w' h=>h.after (MM.out.trans h2.mod (by simp))
   go_wp2_with fail
   go_loopw [34,8] (fun i v8 wr=>∃(k c:Nat) (o:List Nat),i=.int .i64 k∧v8=.int .u64 c∧k≤n2∧Hid (AInv w1 g (n2+1) m2 m1 wr k c o)) (fun i _ _=>n2 - (intOf i).toNat)
   case atStart=>exact ⟨0,0,[],rfl,rfl,Nat.zero_le _,⟨Fill.start hg.symm (by unfold maxLen;omega),rfl,by omega,by simp [vl]⟩⟩
   case round=>
    obtain ⟨k,c,o,rfl,rfl,hk,HI⟩:=hrel
    have hx:=HI.out.fill.at HI.out.len (by omega)
    have x0:=hx.1
    have x1:=hx.2
    have hc:=HI.out.carry
    have RA1:=R2.out.mod HI.out.fill.mod (by simp)
    have RB1:=R1.out.mod HI.out.fill.mod (by simp)
    have RB:=RA
    by_cases hkA:k < n2
    ·have st:=Lib.hid (HI.out.step (by omega) K2.out.lt K1.out.lt)
     obtain ⟨b1,o1,rfl,d1⟩:=RA1.at k (by rw [List.length_map,HN2.out];exact hkA)
     have hxA:m2.getD k 0=m2[k]'(by rw [HN2.out];exact hkA):=by rw [List.getD_eq_getElem?_getD,List.getElem?_eq_getElem];rfl
     rw [List.getElem_map,←hxA] at d1
     unfold e6 at d1
     obtain ⟨x,hxx⟩:∃x,m2.getD k 0=x:=⟨_,rfl⟩
     rw [hxx] at d1
     have HX:=Lib.hid hxx
     clear hxx hxA RA1 hx HI RA
     by_cases hkB:k < n1
     ·obtain ⟨b2,o2,rfl,d2⟩:=RB1.at k (by rw [List.length_map,HN1.out];exact hkB)
      have hyB:m1.getD k 0=m1[k]'(by rw [HN1.out];exact hkB):=by rw [List.getD_eq_getElem?_getD,List.getElem?_eq_getElem];rfl
      rw [List.getElem_map,←hyB] at d2
      unfold e6 at d2
      obtain ⟨y,hyy⟩:∃y,m1.getD k 0=y:=⟨_,rfl⟩
      rw [hyy] at d2
      have HY:=Lib.hid hyy
      clear hyy hyB RB1
      have ra:=RB.out x y c hc
      rw [HX.out,HY.out] at st
      unfold B64 at st
      obtain ⟨s,hs⟩:∃s,(x+y+c) % 18446744073709551616=s:=⟨_,rfl⟩
      obtain ⟨t,ht⟩:∃t,(x+y+c) / 18446744073709551616=t:=⟨_,rfl⟩
      rw [hs,ht] at st ra
      clear hs ht RB
      go_wp2_with fail
      go_roundw
      case rel=>exact ⟨k+1,t,o++[s],by go_num,rfl,by omega,st.out⟩
      case measure=>simp [intOf];omega
     ·have HY:Hid (m1.getD k 0=0):=by show _=_;rw [List.getD_eq_getElem?_getD,List.getElem?_eq_none (by rw [HN1.out];omega)];rfl
      clear RB1
      have ra:=RB.out x 0 c hc
      rw [HX.out,HY.out] at st
      unfold B64 at st
      obtain ⟨s,hs⟩:∃s,(x+0+c) % 18446744073709551616=s:=⟨_,rfl⟩
      obtain ⟨t,ht⟩:∃t,(x+0+c) / 18446744073709551616=t:=⟨_,rfl⟩
      rw [hs,ht] at st ra
      clear hs ht RB
      replace ra:∀w,(callFunc 212 #[.int .u64 x,.int .u64 0,.int .u64 c]).run Tryz.prog w=.ok (.value (.tuple #[.int .u64 (s:Int),.int .u64 (t:Int)])) w:=ra
      go_wp2_with fail
      go_roundw
      case rel=>exact ⟨k+1,t,o++[s],by go_num,rfl,by omega,st.out⟩
      case measure=>simp [intOf];omega
    ·obtain rfl:k=n2:=by omega
     have FIN:=Lib.hid (fin.out wr o c HI.out HI.out.carry)
     clear fin RA1 RB1 hx HI RA RB
     go_wp2_with fail
     refine FIN.out.mono ?_
     rintro e w4 (⟨ht,v',rfl,hn⟩ | ⟨ht,rfl,hm⟩)
     ·have HT:=Lib.hid ht
      have HN:=Lib.hid hn
      clear ht hn
      go_wp2
      go_ret2
      exact .inl ⟨HT.out,_,rfl,HN.out⟩
     ·have HT:=Lib.hid ht
      have HM:=Lib.hid hm
      clear ht hm
      go_wp2
      go_ret2
      exact .inr ⟨HT.out,rfl,HM.out⟩
  ·have hle:n2≤n1:=by omega
   have hmk:∀w,(Instr.makeSlice 23 (.int .i64 ((n1:Int)+1)) (.int .i64 ((n1:Int)+1))).run Tryz.prog w=.ok (.slice (some ⟨w.heap.size,0,none⟩) (n1+1) (n1+1)) (w.alloc (.cells (madeCells #[.int .u64 0] (n1+1)) 22)):=fun w=>made22 w (n1+1) (by omega)
   obtain ⟨g,hg⟩:∃g,w1.heap.size=g:=⟨_,rfl⟩
   have HG:=Lib.hid hg
   have fin:Hid (∀wr:World,∀o:List Nat,∀c:Nat,AInv w1 g (n1+1) m1 m2 wr n1 c o→c≤1→
    Calls Tryz.prog 213 #[.slice (some ⟨g,0,none⟩) (n1+1) (n1+1)] (wr.setCell ⟨g,n1,none⟩ (.int .u64 c)) fun e w'=>Told w (decide (va+vb < lim)) (va+vb) e w'):=fun wr o c hi hc=>by
    have h1:=hi.fill.put hi.len (Nat.lt_succ_self _) c (by unfold B64;omega)
    have hv:vl B64 (o++[c])=va+vb:=by
     rw [vl_snoc,hi.len,hi.val,←K1.out.val,←K2.out.val,show m1.take n1=m1 from List.take_of_length_le (by rw [HN1.out];exact Nat.le_refl _),show m2.take n1=m2 from List.take_of_length_le (by rw [HN2.out];exact hle)]
     try omega
    have h2:=h1.full (by rw [List.length_append,hi.len];rfl)
    obtain ⟨F,h3,_⟩:=h2.rv
    rw [←hv]
    exact (told_c ⟨h3,h1.lt⟩ (by rw [List.length_append,hi.len];simp;omega)).mono fun e w' h=>h.after (MM.out.trans h2.mod (by simp))
   go_wp2_with fail
   go_loopw [34,8] (fun i v8 wr=>∃(k c:Nat) (o:List Nat),i=.int .i64 k∧v8=.int .u64 c∧k≤n1∧Hid (AInv w1 g (n1+1) m1 m2 wr k c o)) (fun i _ _=>n1 - (intOf i).toNat)
   case atStart=>exact ⟨0,0,[],rfl,rfl,Nat.zero_le _,⟨Fill.start hg.symm (by unfold maxLen;omega),rfl,by omega,by simp [vl]⟩⟩
   case round=>
    obtain ⟨k,c,o,rfl,rfl,hk,HI⟩:=hrel
    have hx:=HI.out.fill.at HI.out.len (by omega)
    have x0:=hx.1
    have x1:=hx.2
    have hc:=HI.out.carry
    have RA1:=R1.out.mod HI.out.fill.mod (by simp)
    have RB1:=R2.out.mod HI.out.fill.mod (by simp)
    have RB:=RA
    by_cases hkA:k < n1
    ·have st:=Lib.hid (HI.out.step (by omega) K1.out.lt K2.out.lt)
     obtain ⟨b1,o1,rfl,d1⟩:=RA1.at k (by rw [List.length_map,HN1.out];exact hkA)
     have hxA:m1.getD k 0=m1[k]'(by rw [HN1.out];exact hkA):=by rw [List.getD_eq_getElem?_getD,List.getElem?_eq_getElem];rfl
     rw [List.getElem_map,←hxA] at d1
     unfold e6 at d1
     obtain ⟨x,hxx⟩:∃x,m1.getD k 0=x:=⟨_,rfl⟩
     rw [hxx] at d1
     have HX:=Lib.hid hxx
     clear hxx hxA RA1 hx HI RA
     by_cases hkB:k < n2
     ·obtain ⟨b2,o2,rfl,d2⟩:=RB1.at k (by rw [List.length_map,HN2.out];exact hkB)
      have hyB:m2.getD k 0=m2[k]'(by rw [HN2.out];exact hkB):=by rw [List.getD_eq_getElem?_getD,List.getElem?_eq_getElem];rfl
      rw [List.getElem_map,←hyB] at d2
      unfold e6 at d2
      obtain ⟨y,hyy⟩:∃y,m2.getD k 0=y:=⟨_,rfl⟩
      rw [hyy] at d2
      have HY:=Lib.hid hyy
      clear hyy hyB RB1
      have ra:=RB.out x y c hc
      rw [HX.out,HY.out] at st
      unfold B64 at st
      obtain ⟨s,hs⟩:∃s,(x+y+c) % 18446744073709551616=s:=⟨_,rfl⟩
      obtain ⟨t,ht⟩:∃t,(x+y+c) / 18446744073709551616=t:=⟨_,rfl⟩
      rw [hs,ht] at st ra
      clear hs ht RB
      go_wp2_with fail
      go_roundw
      case rel=>exact ⟨k+1,t,o++[s],by go_num,rfl,by omega,st.out⟩
      case measure=>simp [intOf];omega
     ·have HY:Hid (m2.getD k 0=0):=by show _=_;rw [List.getD_eq_getElem?_getD,List.getElem?_eq_none (by rw [HN2.out];omega)];rfl
      clear RB1
      have ra:=RB.out x 0 c hc
      rw [HX.out,HY.out] at st
      unfold B64 at st
      obtain ⟨s,hs⟩:∃s,(x+0+c) % 18446744073709551616=s:=⟨_,rfl⟩
      obtain ⟨t,ht⟩:∃t,(x+0+c) / 18446744073709551616=t:=⟨_,rfl⟩
      rw [hs,ht] at st ra
      clear hs ht RB
      replace ra:∀w,(callFunc 212 #[.int .u64 x,.int .u64 0,.int .u64 c]).run Tryz.prog w=.ok (.value (.tuple #[.int .u64 (s:Int),.int .u64 (t:Int)])) w:=ra
      go_wp2_with fail
      go_roundw
      case rel=>exact ⟨k+1,t,o++[s],by go_num,rfl,by omega,st.out⟩
      case measure=>simp [intOf];omega
    ·obtain rfl:k=n1:=by omega
     have FIN:=Lib.hid (fin.out wr o c HI.out HI.out.carry)
     clear fin RA1 RB1 hx HI RA RB
     go_wp2_with fail
     refine FIN.out.mono ?_
     rintro e w4 (⟨ht,v',rfl,hn⟩ | ⟨ht,rfl,hm⟩)
     ·have HT:=Lib.hid ht
      have HN:=Lib.hid hn
      clear ht hn
      go_wp2
      go_ret2
      exact .inl ⟨HT.out,_,rfl,HN.out⟩
     ·have HT:=Lib.hid ht
      have HM:=Lib.hid hm
      clear ht hm
      go_wp2
      go_ret2
      exact .inr ⟨HT.out,rfl,HM.out⟩
open Go.RowKit Go.Shelf
theorem of_c (n:Nat) (hn:n < B64) (w:World):Calls Tryz.prog 184 #[.int .u64 n] w fun e w'=>∃v',e=.returned v'∧NNew w n w' v':=by
 have hv:vl B64 [n]=n:=by simp [vl]
 have hs:=Sl.lit w 22 1 1 #[.int .u64 n] (by unfold maxLen;omega) rfl
 have C1:=Lib.hid (norm_c (w:=w.alloc (.cells #[.int .u64 n] 22)) (v:=.slice (some ⟨w.heap.size,0,none⟩) 1 1) (l:=[n]) ⟨Rv.of_sl (l:=[n].map e6) hs rfl,by simp;exact hn⟩ (by simp))
 rw [hv] at C1
 clear hv hs hn
 go_enter Tryz.func184,Tryz.ntmps184
 go_wp2_with fail
 refine C1.out.mono ?_
 rintro e w' ⟨v',rfl,hnn⟩
 have HNN:=Lib.hid hnn
 clear hnn
 go_wp2
 go_ret
 exact ⟨_,rfl,HNN.out.after ((Mod.refl _ _).alloc _)⟩
theorem getD_lt {l:List Nat} (h:∀x∈l,x < B64) (k:Nat):l.getD k 0 < B64:=by
 rw [List.getD_eq_getElem?_getD]
 by_cases q:k < l.length
 ·rw [List.getElem?_eq_getElem q];exact h _ (List.getElem_mem _)
 ·rw [List.getElem?_eq_none (by omega)];unfold B64;simp
end Go.Proofs.YtlafpknoiihaaaaGreatDoor
