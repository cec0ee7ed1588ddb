/- Mq24: Qf · Cn -/
import Derived.Test.YtlafpknoiihaaaaGreatDoorMq22
import Derived.Test.YtlafpknoiihaaaaGreatDoorMq23
set_option maxRecDepth 100000
set_option maxHeartbeats 4000000
set_option linter.unusedVariables false
set_option linter.unusedSimpArgs false
namespace Go.Proofs.YtlafpknoiihaaaaGreatDoor
open Go.RowKit Go.Shelf
structure MRow (w1:World) (g n:Nat) (wr:World) (l:List Nat):Prop where
 lt:∀x∈l,x < B64
 len:l.length=n
 sl:Sl wr 22 1 (.slice (some ⟨g,0,none⟩) n n) n (l.map e6) [g]
 mod:Mod [] w1 wr
 new:w1.heap.size≤g
theorem MRow.start {w1:World} {g n:Nat} (hg:g=w1.heap.size) (hn:n≤maxLen):MRow w1 g n (w1.alloc (.cells (madeCells #[.int .u64 0] n) 22)) (List.replicate n 0):=
 ⟨fun x hx=>by rw [(List.mem_replicate.1 hx).2];unfold B64;omega,by simp,Sl.zeros w1 n g hg hn,(Mod.refl _ _).alloc _,by omega⟩
theorem MRow.put {w1 wr:World} {g n k:Nat} {l:List Nat} (h:MRow w1 g n wr l) (x:Nat) (hx:x < B64):MRow w1 g n (wr.setCell ⟨g,k,none⟩ (e6 x)) (l.set k x):=by
 refine ⟨fun y hy=>?_,by simp [h.len],?_,h.mod.setCell _ _ (fun q=>by have:=h.new;simp at q;omega),h.new⟩
 ·rcases List.mem_or_eq_of_mem_set hy with q | q
  ·exact h.lt y q
  ·rw [q];exact hx
 ·have h1:=h.sl.set k (e6 x)
  rw [←List.map_set] at h1
  exact h1
theorem MRow.at {w1 wr:World} {g n k:Nat} {l:List Nat} (h:MRow w1 g n wr l) (hn:k < n):wr.cell? ⟨g,k,none⟩=some (.int .u64 (l.getD k 0:Nat))∧wr.frozen? ⟨g,k,none⟩=false:=by
 have h1:=h.sl.at k (by omega)
 refine ⟨?_,h1.2.1⟩
 rw [h1.1,List.getElem?_map,List.getD_eq_getElem?_getD,List.getElem?_eq_getElem (by rw [h.len];exact hn)];rfl
theorem MRow.full {w1 wr:World} {g n:Nat} {l:List Nat} (h:MRow w1 g n wr l):NewV 22 w1 (l.map e6) wr (.slice (some ⟨g,0,none⟩) n n):=by
 refine ⟨[g],?_,h.mod,fun k hk=>by simp at hk;subst hk;exact h.new⟩
 rw [List.length_map,h.len]
 exact h.sl
theorem MRow.drewN {w1 wr:World} {g n:Nat} {l:List Nat} (h:MRow w1 g n wr l) (d:Nat):MRow w1 g n (wr.drewN d) l:=⟨h.lt,h.len,h.sl,h.mod.drewN d,h.new⟩
theorem mul64_c (x y:Nat) (hx:x < B64) (hy:y < B64) (w:World):Calls Tryz.prog 211 #[.int .u64 x,.int .u64 y] w fun e w'=>e=.returned (.tuple #[.int .u64 ((x *y / B64:Nat):Int),.int .u64 ((x *y % B64:Nat):Int)])∧w'=w:=
 Any.bits_Mul64 lays264 x y hx hy w
theorem mul_word (x y z c:Nat) (hx:x < B64) (hy:y < B64) (hz:z < B64) (hc:c < B64):∃hi lo lo1 c1 h1 lo2 c2 h2:Nat,
 (∀w,Calls Tryz.prog 211 #[.int .u64 x,.int .u64 y] w fun e w'=>e=.returned (.tuple #[.int .u64 hi,.int .u64 lo])∧w'=w)∧
 (∀w,(callFunc 212 #[.int .u64 lo,.int .u64 z,.int .u64 0]).run Tryz.prog w=.ok (.value (.tuple #[.int .u64 lo1,.int .u64 c1])) w)∧
 IntKind.u64.wrap ((hi:Int)+c1)=h1∧
 (∀w,(callFunc 212 #[.int .u64 lo1,.int .u64 c,.int .u64 0]).run Tryz.prog w=.ok (.value (.tuple #[.int .u64 lo2,.int .u64 c2])) w)∧
 IntKind.u64.wrap ((h1:Int)+c2)=h2∧lo2 < B64∧h2 < B64∧lo2+B64 *h2=x *y+z+c:=by
 have hp:x *y≤(B64 - 1) *(B64 - 1):=Nat.mul_le_mul (by omega) (by omega)
 have hd:=Nat.div_add_mod (x *y) B64
 have hlo:x *y % B64 < B64:=Nat.mod_lt _ (by unfold B64;omega)
 have hcm:=fun w=>mul64_c x y hx hy w
 refine ⟨x *y / B64,x *y % B64,(x *y % B64+z+0) % B64,(x *y % B64+z+0) / B64,x *y / B64+(x *y % B64+z+0) / B64,
  ((x *y % B64+z+0) % B64+c+0) % B64,((x *y % B64+z+0) % B64+c+0) / B64,x *y / B64+(x *y % B64+z+0) / B64+((x *y % B64+z+0) % B64+c+0) / B64,hcm,
  fun w=>run_Add64 _ _ 0 (by omega) w,?_,fun w=>run_Add64 _ _ 0 (by omega) w,?_,Nat.mod_lt _ (by unfold B64;omega),?_,?_⟩
 all_goals generalize x *y=p at *
 all_goals generalize p / B64=hi at *
 all_goals generalize p % B64=lo at *
 all_goals unfold B64 at *
 ·rw [IntKind.wrap_u64];omega
 ·rw [IntKind.wrap_u64];omega
 ·omega
 ·omega
structure MIn (w1:World) (g n:Nat) (mB L0:List Nat) (x i:Nat) (wr:World) (j c:Nat) (l q:List Nat):Prop where
 row:MRow w1 g n wr l
 eq:l=L0.take i++q++L0.drop (i+j)
 len:q.length=j
 carry:c < B64
 val:vl B64 q+B64 ^ j *c=vl B64 ((L0.drop i).take j)+x *vl B64 (mB.take j)
theorem MIn.old {w1:World} {g n:Nat} {mB L0:List Nat} {x i:Nat} {wr:World} {j c:Nat} {l q:List Nat} (h:MIn w1 g n mB L0 x i wr j c l q) (hi:i≤L0.length):l.getD (i+j) 0=L0.getD (i+j) 0:=by
 rw [h.eq,List.getD_eq_getElem?_getD,List.getD_eq_getElem?_getD,List.getElem?_append_right (by simp [h.len];omega)]
 simp [h.len,Nat.min_eq_left hi]
theorem MIn.step {w1:World} {g n:Nat} {mB L0:List Nat} {x i:Nat} {wr:World} {j c:Nat} {l q:List Nat} (h:MIn w1 g n mB L0 x i wr j c l q) (hL:L0.length=n) (hij:i+j < n) (s t:Nat) (hs:s < B64) (ht:t < B64)
 (e:s+B64 *t=x *mB.getD j 0+L0.getD (i+j) 0+c):MIn w1 g n mB L0 x i (wr.setCell ⟨g,i+j,none⟩ (e6 s)) (j+1) t (l.set (i+j) s) (q++[s]):=by
 refine ⟨h.row.put s hs,?_,by simp [h.len],ht,?_⟩
 ·rw [h.eq,List.set_append_right _ _ (by simp [h.len];omega)]
  have e1:i+j - (L0.take i++q).length=0:=by simp [h.len];omega
  rw [e1,List.drop_eq_getElem_cons (by omega),List.set_cons_zero]
  simp [Nat.add_assoc]
 ·have e2:(L0.drop i).getD j 0=L0.getD (i+j) 0:=by rw [List.getD_eq_getElem?_getD,List.getD_eq_getElem?_getD,List.getElem?_drop]
  have e3:B64 ^ j *(s+B64 *t)=B64 ^ j *(x *mB.getD j 0+L0.getD (i+j) 0+c):=by rw [e]
  have hv:=h.val
  rw [vl_take_getD,vl_take_getD,e2,vl_snoc,h.len,Nat.pow_succ]
  rw [Nat.mul_add,Nat.mul_add,Nat.mul_add,←Nat.mul_assoc] at e3
  rw [Nat.mul_add x,Nat.mul_left_comm x]
  omega
structure MOut (w1:World) (g n:Nat) (mA mB:List Nat) (wr:World) (i:Nat) (l:List Nat):Prop where
 row:MRow w1 g n wr l
 val:vl B64 l=vl B64 (mA.take i) *vl B64 mB
 zero:l.drop (i+mB.length)=List.replicate (n - (i+mB.length)) 0
theorem MOut.in {w1:World} {g n:Nat} {mA mB:List Nat} {wr:World} {i:Nat} {l:List Nat} (h:MOut w1 g n mA mB wr i l) (x:Nat):MIn w1 g n mB l x i wr 0 0 l []:=
 ⟨h.row,by simp,rfl,by unfold B64;omega,by simp [vl]⟩
theorem MIn.out {w1:World} {g n:Nat} {mA mB L0:List Nat} {i:Nat} {w0 wr:World} {c:Nat} {l q:List Nat} (h0:MOut w1 g n mA mB w0 i L0) (h:MIn w1 g n mB L0 (mA.getD i 0) i wr mB.length c l q) (hi:i+mB.length < n):
 MOut w1 g n mA mB (wr.setCell ⟨g,i+mB.length,none⟩ (e6 c)) (i+1) (l.set (i+mB.length) c):=by
 have hL:=h0.row.len
 have hm:min i L0.length=i:=Nat.min_eq_left (by omega)
 have e1:i+mB.length - (L0.take i++q).length=0:=by simp [h.len,hm]
 have e2:l.set (i+mB.length) c=L0.take i++(q++[c])++L0.drop (i+mB.length+1):=by
  rw [h.eq,List.set_append_right _ _ (by simp [h.len,hm]),e1,List.drop_eq_getElem_cons (by omega),List.set_cons_zero]
  simp
 have hz0:=h0.zero
 have hz:L0.drop (i+mB.length+1)=List.replicate (n - (i+mB.length+1)) 0:=by
  have:=congrArg (List.drop 1) hz0
  rw [List.drop_drop,List.drop_replicate,Nat.sub_sub] at this
  exact this
 refine ⟨h.row.put c h.carry,?_,?_⟩
 ·have hv:=h.val
  have h1:vl B64 L0=vl B64 (L0.take i)+B64 ^ i *vl B64 ((L0.drop i).take mB.length):=by
   have e3:L0=L0.take i++((L0.drop i).take mB.length++L0.drop (i+mB.length)):=by
    rw [←List.drop_drop,List.take_append_drop,List.take_append_drop]
   have e4:vl B64 L0=vl B64 (L0.take i++((L0.drop i).take mB.length++L0.drop (i+mB.length))):=by rw [←e3]
   rw [e4,vl_append,hz0,vl_zeros,List.length_take,Nat.min_eq_left (by omega)]
  rw [e2,hz,vl_zeros,vl_append,vl_snoc,h.len,hv,List.length_take,Nat.min_eq_left (by omega),List.take_of_length_le (Nat.le_refl mB.length),Nat.mul_add,vl_take_getD,Nat.add_mul,←h0.val,h1,Nat.mul_assoc]
  omega
 ·rw [e2,List.drop_append]
  have e5:(L0.take i++(q++[c])).length=i+1+mB.length:=by simp [h.len];omega
  rw [List.drop_of_length_le (by rw [e5];exact Nat.le_refl _),e5,Nat.sub_self,List.drop_zero,List.nil_append,hz]
  congr 1
  omega
theorem mul_c {w:World} {v1 v2:Value} {l1 l2 F1 F2:List Nat} (h1:Nv w v1 l1 F1) (h2:Nv w v2 l2 F2) (hl1:l1.length≤100000) (hl2:l2.length≤100000):
 Calls Tryz.prog 197 #[v1,v2] w fun e w'=>Told w (decide (vl B64 l1 < lim) && decide (vl B64 l2 < lim) && decide (vl B64 l1 *vl B64 l2 < lim)) (vl B64 l1 *vl B64 l2) e w':=by
 have CB:=Lib.hid (both_c h1 h2 hl1 hl2)
 have MW:=Lib.hid mul_word
 generalize vl B64 l1=va at *
 generalize vl B64 l2=vb at *
 clear h1 h2 hl1 hl2
 go_enter Tryz.func197,Tryz.ntmps197
 go_wp2_with fail
 refine CB.out.mono ?_
 rintro e w1 ⟨A1,A2,c1,c2,m1,m2,rfl,k1,k2,n1,⟨F2',r2,f2⟩,-⟩
 have MM:=Lib.hid n1.mod
 have K1:=Lib.hid k1
 have K2:=Lib.hid k2
 have R2:=Lib.hid r2
 obtain ⟨F1',r1,f1⟩:=n1.rv
 have R1:=Lib.hid r1
 clear CB n1 k1 k2 r1 r2 f1 f2
 obtain ⟨ok,hok⟩:∃q,(decide (va < lim) && decide (vb < lim))=q:=⟨_,rfl⟩
 have OK:=Lib.hid hok
 rw [hok]
 clear hok
 cases ok with
 | false=>
  have NO:Hid ((decide (va < lim) && decide (vb < lim) && decide (va *vb < lim))=false):=by
   show _=_
   rw [OK.out];rfl
  go_wp2
  go_ret2
  exact .inr ⟨NO.out,rfl,MM.out⟩
 | true=>
  have YES:Hid ((decide (va < lim) && decide (vb < lim) && decide (va *vb < lim))=decide (va *vb < lim)):=by
   show _=_
   rw [OK.out,Bool.true_and]
  have B1:Hid (m1.length≤64):=by
   have h:=OK.out
   rw [Bool.and_eq_true,decide_eq_true_iff,decide_eq_true_iff] at h
   exact K1.out.fits64.2 h.1
  have B2:Hid (m2.length≤64):=by
   have h:=OK.out
   rw [Bool.and_eq_true,decide_eq_true_iff,decide_eq_true_iff] at h
   exact K2.out.fits64.2 h.2
  clear OK
  obtain ⟨n1,hn1⟩:∃q,m1.length=q:=⟨_,rfl⟩
  obtain ⟨n2,hn2⟩:∃q,m2.length=q:=⟨_,rfl⟩
  rw [hn1] at B1
  rw [hn2] at B2
  have b1:=B1.out
  have b2:=B2.out
  rw [hn1] at R1
  rw [hn2] at R2
  rw [hn1,hn2]
  have HN1:=Lib.hid hn1
  have HN2:=Lib.hid hn2
  clear hn1 hn2 B1 B2
  have hmk:∀w,(Instr.makeSlice 23 (.int .i64 ((n1:Int)+n2)) (.int .i64 ((n1:Int)+n2))).run Tryz.prog w=.ok (.slice (some ⟨w.heap.size,0,none⟩) (n1+n2) (n1+n2)) (w.alloc (.cells (madeCells #[.int .u64 0] (n1+n2)) 22)):=fun w=>made22 w (n1+n2) (by omega)
  obtain ⟨g,hg⟩:∃g,w1.heap.size=g:=⟨_,rfl⟩
  have HG:=Lib.hid hg
  have fin:Hid (∀wr:World,∀l:List Nat,MOut w1 g (n1+n2) m1 m2 wr n1 l→
   Calls Tryz.prog 213 #[.slice (some ⟨g,0,none⟩) (n1+n2) (n1+n2)] wr fun e w'=>Told w (decide (va < lim) && decide (vb < lim) && decide (va *vb < lim)) (va *vb) e w'):=fun wr l hi=>by
   have hv:=hi.val
   rw [show m1.take n1=m1 from List.take_of_length_le (by rw [HN1.out];exact Nat.le_refl _),K1.out.val,K2.out.val] at hv
   have h2:=hi.row.full
   obtain ⟨F,h3,_⟩:=h2.rv
   rw [YES.out,←hv]
   exact (told_c ⟨h3,hi.row.lt⟩ (by rw [hi.row.len];omega)).mono fun e w' h=>h.after (MM.out.trans h2.mod (by simp))
  go_wp2_with fail
  go_loopw [33] (fun i wr=>∃(k:Nat) (l:List Nat),i=.int .i64 k∧k≤n1∧Hid (MOut w1 g (n1+n2) m1 m2 wr k l)) (fun i _=>n1 - (intOf i).toNat)
  case atStart=>exact ⟨0,_,rfl,Nat.zero_le _,⟨MRow.start hg.symm (by unfold maxLen;omega),by simp [vl,vl_zero],by simp⟩⟩
  case round=>
   obtain ⟨k,l,rfl,hk,HO⟩:=hrel
   by_cases hkA:k < n1
   ·have RA1:=R1.out.mod HO.out.row.mod (by simp)
    obtain ⟨p1,o1,rfl,d1⟩:=RA1.at k (by rw [List.length_map,HN1.out];exact hkA)
    have hxA:m1.getD k 0=m1[k]'(by rw [HN1.out];exact hkA):=by rw [List.getD_eq_getElem?_getD,List.getElem?_eq_getElem];rfl
    rw [List.getElem_map,←hxA] at d1
    unfold e6 at d1
    have HXL:=Lib.hid (getD_lt K1.out.lt k)
    obtain ⟨x,hxx⟩:∃x,m1.getD k 0=x:=⟨_,rfl⟩
    rw [hxx] at d1 HXL
    have HX:=Lib.hid hxx
    clear hxx hxA RA1
    go_wp2_with fail
    go_loopw [40,10] (fun i v10 wq=>∃(j c:Nat) (l' q:List Nat),i=.int .i64 j∧v10=.int .u64 c∧j≤n2∧Hid (MIn w1 g (n1+n2) m2 l x k wq j c l' q)) (fun i _ _=>n2 - (intOf i).toNat)
    case atStart=>exact ⟨0,0,l,[],rfl,rfl,Nat.zero_le _,HO.out.in x⟩
    case round=>
     obtain ⟨j,c,l',q,rfl,rfl,hj,HI⟩:=hrel
     by_cases hjB:j < n2
     ·have RB1:=R2.out.mod HI.out.row.mod (by simp)
      obtain ⟨p2,o2,rfl,d2⟩:=RB1.at j (by rw [List.length_map,HN2.out];exact hjB)
      have hyB:m2.getD j 0=m2[j]'(by rw [HN2.out];exact hjB):=by rw [List.getD_eq_getElem?_getD,List.getElem?_eq_getElem];rfl
      rw [List.getElem_map,←hyB] at d2
      unfold e6 at d2
      have hx:=HI.out.row.at (k:=k+j) (by omega)
      rw [HI.out.old (by rw [HO.out.row.len];omega)] at hx
      have x0:=hx.1
      have x1:=hx.2
      have st:=Lib.hid (HI.out.step HO.out.row.len (by omega))
      obtain ⟨hi,lo,lo1,c1',h1',lo2,c2',h2',q1,q2,q3,q4,q5,q6,q7,q8⟩:=MW.out x (m2.getD j 0) (l.getD (k+j) 0) c HXL.out (getD_lt K2.out.lt j) (getD_lt HO.out.row.lt _) HI.out.carry
      have ST:=Lib.hid (st.out lo2 h2' q6 q7 q8)
      have Q1:=Lib.hid q1
      generalize m2.getD j 0=y at *
      generalize l.getD (k+j) 0=z at *
      clear q1 q6 q7 q8 st hyB RB1 hx HI MW
      go_wp2_with fail
      refine (Q1.out _).mono ?_
      rintro e w' ⟨rfl,rfl⟩
      go_wp2_with fail
      go_roundw
      case rel=>exact ⟨j+1,h2',_,_,by go_num,rfl,by omega,ST.out⟩
      case measure=>simp [intOf];omega
     ·obtain rfl:j=n2:=by omega
      have hx:=HI.out.row.at (k:=k+j) (by omega)
      have x0:=hx.1
      have x1:=hx.2
      have ST:Hid (MOut w1 g (n1+j) m1 m2 (wr.setCell ⟨g,k+j,none⟩ (e6 c)) (k+1) (l'.set (k+j) c)):=by
       have h1:MIn w1 g (n1+j) m2 l (m1.getD k 0) k wr m2.length c l' q:=by rw [HX.out,HN2.out];exact HI.out
       have h2:=h1.out HO.out (by rw [HN2.out];omega)
       rw [HN2.out] at h2
       exact h2
      unfold e6 at ST
      clear hx HI MW
      go_wp2_with fail
      go_roundw
      case rel=>exact ⟨k+1,_,by go_num,by omega,ST.out⟩
      case measure=>simp [intOf];omega
   ·obtain rfl:k=n1:=by omega
    have FIN:=Lib.hid (fin.out wr l HO.out)
    clear fin HO MW
    go_wp2_with fail
    refine FIN.out.mono ?_
    rintro e w4 (⟨ht,v',rfl,hn⟩ | ⟨ht,rfl,hm⟩)
    ·have HT:=Lib.hid ht
     have HN:=Lib.hid hn
     clear ht hn
     go_wp2
     go_ret2
     exact .inl ⟨HT.out,_,rfl,HN.out⟩
    ·have HT:=Lib.hid ht
     have HM:=Lib.hid hm
     clear ht hm
     go_wp2
     go_ret2
     exact .inr ⟨HT.out,rfl,HM.out⟩
open Go.RowKit
def Nm (w:World) (v:Value) (n:Nat) (F:List Nat):Prop:=∃l,Can B64 l n∧Nv w v l F∧l.length≤1000
theorem Nm.mod {S:List Nat} {w w':World} {v:Value} {n:Nat} {F:List Nat} (h:Nm w v n F) (m:Mod S w w') (hd:∀k∈F,k∉S):Nm w' v n F:=by
 obtain ⟨l,h1,h2,h3⟩:=h
 exact ⟨l,h1,h2.mod m hd,h3⟩
theorem small_lim {n:Nat} (h:n≤4294967296):n < lim:=by
 have h1:n < B64:=by unfold B64;omega
 unfold lim
 exact Nat.lt_of_lt_of_le h1 (by rw [show (64:Nat)=63+1 from rfl,Nat.pow_succ];exact Nat.le_mul_of_pos_left _ (Nat.pow_pos (by unfold B64;omega)))
theorem NNew.nm {w w':World} {n:Nat} {v:Value} (h:NNew w n w' v) (hn:n≤4294967296):∃F,Nm w' v n F∧(∀k∈F,w.heap.size≤k)∧∀k∈F,k < w'.heap.size:=by
 obtain ⟨l,hc,F,hs,m,hf⟩:=h
 have hl:=hc.fits64.2 (small_lim hn)
 exact ⟨F,⟨l,hc,⟨Rv.of_sl hs rfl,hc.lt⟩,by omega⟩,hf,hs.lt⟩
theorem Told.yes {w w':World} {n:Nat} {e:Ending} (h:Told w true n e w'):∃v',e=.returned (.tuple #[v',.bool true])∧NNew w n w' v':=by
 rcases h with ⟨_,h⟩ | ⟨h,_⟩
 ·exact h
 ·cases h
theorem Nm.nil (w:World):Nm w (.slice none 0 0) 0 []:=⟨[],Can.nil _,Nv.nil w,by simp⟩
theorem addW_c {w:World} {v1 v2:Value} {n1 n2:Nat} {F1 F2:List Nat} (h1:Nm w v1 n1 F1) (h2:Nm w v2 n2 F2) (hs:n1+n2≤4294967296):
 Calls Tryz.prog 196 #[v1,v2] w fun e w'=>∃v',e=.returned v'∧NNew w (n1+n2) w' v':=by
 obtain ⟨l1,c1,r1,k1⟩:=h1
 obtain ⟨l2,c2,r2,k2⟩:=h2
 have AD:=Lib.hid (add_c r1 r2 (by omega) (by omega))
 rw [c1.val,c2.val,decide_eq_true (small_lim hs)] at AD
 clear hs
 obtain ⟨A1,N1,p1,rfl⟩:∃A N p,v1=.slice A N p:=by obtain ⟨A,p,e,-⟩:=r1.1.shape;exact ⟨A,_,p,e⟩
 obtain ⟨A2,N2,p2,rfl⟩:∃A N p,v2=.slice A N p:=by obtain ⟨A,p,e,-⟩:=r2.1.shape;exact ⟨A,_,p,e⟩
 clear c1 c2 r1 r2
 go_enter Tryz.func196,Tryz.ntmps196
 go_wp2_with fail
 refine AD.out.mono ?_
 intro e w' hT
 have hh:=Told.yes hT
 clear hT
 obtain ⟨v',hv⟩:=hh
 obtain ⟨he,n⟩:=hv
 subst he
 have N:=Lib.hid n
 clear n AD
 go_wp2_with fail
 go_ret
 exact ⟨_,rfl,N.out⟩
theorem mulW_c {w:World} {v1 v2:Value} {n1 n2:Nat} {F1 F2:List Nat} (h1:Nm w v1 n1 F1) (h2:Nm w v2 n2 F2) (hn1:n1≤4294967296) (hn2:n2≤4294967296) (hs:n1 *n2≤4294967296):
 Calls Tryz.prog 187 #[v1,v2] w fun e w'=>∃v',e=.returned v'∧NNew w (n1 *n2) w' v':=by
 obtain ⟨l1,c1,r1,k1⟩:=h1
 obtain ⟨l2,c2,r2,k2⟩:=h2
 have AD:=Lib.hid (mul_c r1 r2 (by omega) (by omega))
 rw [c1.val,c2.val,decide_eq_true (small_lim hs),decide_eq_true (small_lim hn1),decide_eq_true (small_lim hn2)] at AD
 clear hn1 hn2 hs
 obtain ⟨A1,N1,p1,rfl⟩:∃A N p,v1=.slice A N p:=by obtain ⟨A,p,e,-⟩:=r1.1.shape;exact ⟨A,_,p,e⟩
 obtain ⟨A2,N2,p2,rfl⟩:∃A N p,v2=.slice A N p:=by obtain ⟨A,p,e,-⟩:=r2.1.shape;exact ⟨A,_,p,e⟩
 clear c1 c2 r1 r2
 go_enter Tryz.func187,Tryz.ntmps187
 go_wp2_with fail
 refine AD.out.mono ?_
 intro e w' hT
 have hh:=Told.yes hT
 clear hT
 obtain ⟨v',hv⟩:=hh
 obtain ⟨he,n⟩:=hv
 subst he
 have N:=Lib.hid n
 clear n AD
 go_wp2_with fail
 go_ret
 exact ⟨_,rfl,N.out⟩
def Ones (w:World) (A:Option Addr) (n:Nat) (S:List Nat):Prop:=
 ∀k,k < n→∃g off v F,A=some ⟨g,off,none⟩∧g < w.heap.size∧g∉S∧w.cell? ⟨g,off+k,none⟩=some v∧Nm w v 1 F∧(∀x∈F,x < w.heap.size∧x∉S)
theorem Ones.mod {w w':World} {A:Option Addr} {n:Nat} {S:List Nat} (h:Ones w A n S) (m:Mod S w w'):Ones w' A n S:=by
 intro k hk
 obtain ⟨g,off,v,F,h1,h2,h3,h4,h5,h6⟩:=h k hk
 exact ⟨g,off,v,F,h1,Nat.lt_of_lt_of_le h2 m.size,h3,(m.cell (a:=⟨g,off+k,none⟩) h2 h3).trans h4,h5.mod m (fun x hx=>(h6 x hx).2),fun x hx=>⟨Nat.lt_of_lt_of_le (h6 x hx).1 m.size,(h6 x hx).2⟩⟩
def prodN (i j:Nat) (both:Bool):Nat:=if both then 2 ^ (j - i) else 1
theorem prodN_self (i:Nat) (b:Bool):prodN i i b=1:=by unfold prodN;simp
theorem prodN_step (i k:Nat) (h:i≤k) (b:Bool):prodN i (k+1) b=prodN i k b *(if b then 2 else 1):=by
 unfold prodN
 cases b with
 | false=>rfl
 | true=>simp only [if_true];rw [Nat.succ_sub h,Nat.pow_succ]
theorem prodN_le (i j:Nat) (h:j≤16) (b:Bool):1≤prodN i j b∧prodN i j b≤65536:=by
 unfold prodN
 cases b with
 | false=>simp
 | true=>
  simp only [if_true]
  exact ⟨Nat.pow_pos (by omega),by have:=Nat.pow_le_pow_right (n:=2) (by omega) (show j - i≤16 by omega);simpa using this⟩
theorem product_c {w:World} {bw n:Nat} {lo hi:Option Addr} {cl ch:Nat} {S:List Nat} (c2:w.cell? ⟨bw,2,none⟩=some (.slice lo n cl)) (c3:w.cell? ⟨bw,3,none⟩=some (.slice hi n ch)) (o1:Ones w lo n S) (o2:Ones w hi n S) (hn:n≤16) (i j:Nat) (hj:j≤n) (both:Bool):
 Calls Tryz.prog 188 #[.pointer (some ⟨bw,0,none⟩),.int .i64 i,.int .i64 j,.bool both] w fun e w'=>∃v,e=.returned v∧NNew w (prodN i j both) w' v:=by
 have OF:=Lib.hid (of_c 1 (by unfold B64;omega))
 have O1:=Lib.hid o1
 have O2:=Lib.hid o2
 have hbw:=World.block_lt_of_cell? w _ c2
 simp only at hbw
 clear o1 o2
 go_enter Tryz.func188,Tryz.ntmps188
 go_wp2_with fail
 refine (OF.out _).mono ?_
 rintro e w1 ⟨v1,rfl,n1⟩
 have N1:=Lib.hid n1
 clear n1 OF
 go_wp2_with fail
 go_loopw [9,10] (fun v k wr=>∃kk:Nat,k=.int .i64 kk∧i≤kk∧(kk≤i∨kk≤j)∧Hid (NNew w (prodN i kk both) wr v)) (fun _ k _=>j - (intOf k).toNat)
 case atStart=>exact ⟨i,rfl,by omega,by omega,by rw [prodN_self];exact N1.out⟩
 case round=>
  obtain ⟨kk,rfl,hik,hkj,HN⟩:=hrel
  by_cases hlt:kk < j
  ·have hlt':(kk:Int) < j:=by omega
   have hkn:(kk:Int) < n:=by omega
   have hk0:(0:Int)≤kk:=by omega
   have MM:=Lib.hid HN.out.mod
   have MS:Hid (Mod S w wr):=MM.out.mono (by simp)
   obtain ⟨g,off,v,F,rfl,hg,hgS,hc,hm,hF⟩:=O1.out.mod MS.out kk (by omega)
   obtain ⟨g',off',v',F',rfl,hg',hgS',hc',hm',hF'⟩:=O2.out.mod MS.out kk (by omega)
   have d2:=(MM.out.cell (a:=⟨bw,2,none⟩) hbw (by simp)).trans c2
   have d3:=(MM.out.cell (a:=⟨bw,3,none⟩) hbw (by simp)).trans c3
   obtain ⟨hp1,hp2⟩:=prodN_le i kk (by omega) both
   obtain ⟨FP,nP,-,ltP⟩:=HN.out.nm (by omega)
   have NP:=Lib.hid nP
   have NX:=Lib.hid hm
   have NY:=Lib.hid hm'
   have PS:=Lib.hid (prodN_step i kk (by omega) both)
   obtain ⟨x,hx⟩:∃x,prodN i kk both=x:=⟨_,rfl⟩
   have X2:=Lib.hid (show x≤65536 by omega)
   rw [hx] at NP PS
   clear hm hm' hF hF' hgS hgS' nP ltP hp1 hp2 O1 O2 hx N1
   cases both with
   | false=>
    go_wp2_with fail
    refine (mulW_c NP.out NX.out (by have:=X2.out;omega) (by omega) (by have:=X2.out;omega)).mono ?_
    rintro e w2 ⟨v2,rfl,n2⟩
    have N2:=Lib.hid (n2.after MM.out)
    clear n2
    go_wp2_with fail
    go_roundw
    case rel=>exact ⟨kk+1,by first | rfl | go_num,by omega,by omega,by rw [PS.out];exact N2.out⟩
    case measure=>simp [intOf];omega
   | true=>
    go_wp2_with fail
    refine (addW_c NX.out NY.out (by omega)).mono ?_
    rintro e w2 ⟨v2,rfl,n2⟩
    obtain ⟨F2,nm2,-,lt2⟩:=n2.nm (by omega)
    have NP2:=Lib.hid (NP.out.mod n2.mod (by simp))
    have M2:=Lib.hid (MM.out.trans' n2.mod)
    have NM2:=Lib.hid nm2
    clear n2 nm2 lt2
    go_wp2_with fail
    refine (mulW_c NP2.out NM2.out (by have:=X2.out;omega) (by omega) (by have:=X2.out;omega)).mono ?_
    rintro e w3 ⟨v3,rfl,n3⟩
    have N3:=Lib.hid (n3.after M2.out)
    clear n3
    go_wp2_with fail
    go_roundw
    case rel=>exact ⟨kk+1,by first | rfl | go_num,by omega,by omega,by rw [PS.out];exact N3.out⟩
    case measure=>simp [intOf];omega
  ·have e:Hid (prodN i kk both=prodN i j both):=by
    show _=_
    by_cases q:kk=j
    ·rw [q]
    ·unfold prodN
     rw [show kk - i=0 by omega,show j - i=0 by omega]
   have hlt':¬(kk:Int) < j:=by omega
   clear O1 O2
   go_wp2_with fail
   go_ret
   exact ⟨_,rfl,by rw [←e.out];exact HN.out⟩
end Go.Proofs.YtlafpknoiihaaaaGreatDoor
