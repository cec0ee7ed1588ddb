import Derived.Shelf.Bits.Mul64
import Derived.Test.YtbnpoapmnkfhkaaGreatDoorChecked
import Derived.Test.YtbnpoapmnkfhkaaGreatDoorZt32
set_option linter.unusedVariables false
set_option linter.unusedSimpArgs false
set_option maxRecDepth 100000
set_option maxHeartbeats 4000000
namespace Go.Proofs.YtbnpoapmnkfhkaaGreatDoor
open Go.Lib renaming hid → u
open Go renaming World → r, Calls → B
open List renaming getD_eq_getElem?_getD → o, drop_eq_getElem_cons → T, take_of_length_le → P, set_append_right → O, take_append_drop → M, replicate → L, set_cons_zero → K, length_take → G, getElem_map → D, length_map → C, drop_drop → Ω
open Go.Proofs.Tryz renaming prog → f
open Go.Value renaming int → Z, slice → Q, tuple → Ψ
open Go.IntKind renaming u64 → Y, wrap_u64 → H, i64 → Ξ
open Option renaming none → X, some → I
open Nat renaming min_eq_left → W, lt_of_lt_of_le → V, mul_add → U, pow_succ → J, le_refl → E, mul_assoc → Φ, zero_le → Θ, pow_pos → Δ, mod_lt → Γ
open Go.Ending renaming returned → R
open Go.RowKit Go.Shelf
def yD8:Ren:=⟨fun x=>if x=264 then 246 else x,fun x=>if x=53 then 185 else if x=46 then 224 else x,fun x=>x⟩
theorem yw7:Lays.n264 f yD8 where
 mixed:=by kernel_rfl
 f264:=(Tryz.func246).trans (congrArg I (by kernel_rfl))
 t46:=Tryz.underlying224
 a46:=Tryz.isAgg224
 z46:=Tryz.sizeOf224
 v46:=Tryz.zeroValue224
 t53:=Tryz.underlying185
 a53:=Tryz.isAgg185
 z53:=Tryz.sizeOf185
 v53:=Tryz.zeroValue185
open Go.RowKit Go.Shelf
structure MRow (w1:r) (g n:Nat) (wr:r) (l:List Nat):Prop where
 lt:∀x∈l,x < B64
 len:l.length=n
 sl:Sl wr 185 1 (Q (I ⟨g,0,X⟩) n n) n (l.map e6) [g]
 mod:Mod [] w1 wr
 new:w1.heap.size≤g
theorem MRow.start {w1:r} {g n:Nat} (hg:g=w1.heap.size) (hn:n≤maxLen):MRow w1 g n (w1.alloc (.cells (madeCells #[Z Y 0] n) 185)) (L n 0):=
 ⟨fun x hx=>by rw [(List.mem_replicate.1 hx).2];unfold B64;omega,ze,Sl.zeros w1 n g hg hn,(Mod.refl _ _).alloc _,zc⟩
theorem MRow.put {w1 wr:r} {g n k:Nat} {l:List Nat} (h:MRow w1 g n wr l) (x:Nat) (hx:x < B64):MRow w1 g n (wr.setCell ⟨g,k,X⟩ (e6 x)) (l.set k x):=by
 refine ⟨fun y hy=>?_,by simp [h.len],?_,h.mod.setCell _ _ (fun q=>by have:=h.new;simp at q;omega),h.new⟩
 ·rcases List.mem_or_eq_of_mem_set hy with q | q
  ·exact h.lt y q
  ·rw [q];exact hx
 ·have h1:=h.sl.set k (e6 x);rw [←List.map_set] at h1;exact h1
theorem MRow.at {w1 wr:r} {g n k:Nat} {l:List Nat} (h:MRow w1 g n wr l) (hn:k < n):wr.cell? ⟨g,k,X⟩=I (Z Y (l.getD k 0:Nat))∧wr.frozen? ⟨g,k,X⟩=false:=by
 have h1:=h.sl.at k (zc);refine ⟨?_,h1.2.1⟩;rw [h1.1,List.getElem?_map,o,List.getElem?_eq_getElem (by rw [h.len];exact hn)];rfl
theorem MRow.full {w1 wr:r} {g n:Nat} {l:List Nat} (h:MRow w1 g n wr l):NewV 185 w1 (l.map e6) wr (Q (I ⟨g,0,X⟩) n n):=by
 refine ⟨[g],?_,h.mod,fun k hk=>by simp at hk;subst hk;exact h.new⟩;rw [C,h.len];exact h.sl
theorem MRow.drewN {w1 wr:r} {g n:Nat} {l:List Nat} (h:MRow w1 g n wr l) (d:Nat):MRow w1 g n (wr.drewN d) l:=⟨h.lt,h.len,h.sl,h.mod.drewN d,h.new⟩
theorem yu5 (x y:Nat) (hx:x < B64) (hy:y < B64) (w:r):B f 246 #[Z Y x,Z Y y] w fun e w'=>e=R (Ψ #[Z Y ((x *y / B64:Nat):Int),Z Y ((x *y % B64:Nat):Int)])∧w'=w:=
 Any.bits_Mul64 yw7 x y hx hy w
theorem yc3 (x y z c:Nat) (hx:x < B64) (hy:y < B64) (hz:z < B64) (hc:c < B64):∃hi lo lo1 c1 h1 lo2 c2 h2:Nat,
 (∀w,B f 246 #[Z Y x,Z Y y] w fun e w'=>e=R (Ψ #[Z Y hi,Z Y lo])∧w'=w)∧
 (∀w,(callFunc 247 #[Z Y lo,Z Y z,Z Y 0]).run f w=.ok (.value (Ψ #[Z Y lo1,Z Y c1])) w)∧
 IntKind.u64.wrap ((hi:Int)+c1)=h1∧
 (∀w,(callFunc 247 #[Z Y lo1,Z Y c,Z Y 0]).run f w=.ok (.value (Ψ #[Z Y lo2,Z Y c2])) w)∧
 IntKind.u64.wrap ((h1:Int)+c2)=h2∧lo2 < B64∧h2 < B64∧lo2+B64 *h2=x *y+z+c:=by
 have hp:x *y≤(B64 - 1) *(B64 - 1):=Nat.mul_le_mul (zc) (zc);have hd:=Nat.div_add_mod (x *y) B64;have hlo:x *y % B64 < B64:=Γ _ (zV);have hcm:=fun w=>yu5 x y hx hy w
 refine ⟨x *y / B64,x *y % B64,(x *y % B64+z+0) % B64,(x *y % B64+z+0) / B64,x *y / B64+(x *y % B64+z+0) / B64,
  ((x *y % B64+z+0) % B64+c+0) % B64,((x *y % B64+z+0) % B64+c+0) / B64,x *y / B64+(x *y % B64+z+0) / B64+((x *y % B64+z+0) % B64+c+0) / B64,hcm,
  fun w=>zk9 _ _ 0 (zc) w,?_,fun w=>zk9 _ _ 0 (zc) w,?_,Γ _ (zV),?_,?_⟩
 all_goals generalize x *y=p at *
 all_goals generalize p / B64=hi at *
 all_goals generalize p % B64=lo at *
 all_goals unfold B64 at *
 ·rw [H];omega
 ·rw [H];omega
 ·omega
 ·omega
structure MIn (w1:r) (g n:Nat) (mB L0:List Nat) (x i:Nat) (wr:r) (j c:Nat) (l q:List Nat):Prop where
 row:MRow w1 g n wr l
 eq:l=L0.take i++q++L0.drop (i+j)
 len:q.length=j
 carry:c < B64
 val:vl B64 q+B64 ^ j *c=vl B64 ((L0.drop i).take j)+x *vl B64 (mB.take j)
theorem MIn.old {w1:r} {g n:Nat} {mB L0:List Nat} {x i:Nat} {wr:r} {j c:Nat} {l q:List Nat} (h:MIn w1 g n mB L0 x i wr j c l q) (hi:i≤L0.length):l.getD (i+j) 0=L0.getD (i+j) 0:=by
 rw [h.eq,o,o,List.getElem?_append_right (qN)];simp [h.len,W hi]
theorem MIn.step {w1:r} {g n:Nat} {mB L0:List Nat} {x i:Nat} {wr:r} {j c:Nat} {l q:List Nat} (h:MIn w1 g n mB L0 x i wr j c l q) (hL:L0.length=n) (hij:i+j < n) (s t:Nat) (hs:s < B64) (ht:t < B64)
 (e:s+B64 *t=x *mB.getD j 0+L0.getD (i+j) 0+c):MIn w1 g n mB L0 x i (wr.setCell ⟨g,i+j,X⟩ (e6 s)) (j+1) t (l.set (i+j) s) (q++[s]):=by
 refine ⟨h.row.put s hs,?_,by simp [h.len],ht,?_⟩
 ·rw [h.eq,O _ _ (qN)];have e1:i+j - (L0.take i++q).length=0:=qN;rw [e1,T (zc),K];simp [Nat.add_assoc]
 ·have e2:(L0.drop i).getD j 0=L0.getD (i+j) 0:=by rw [o,o,List.getElem?_drop]
  have e3:B64 ^ j *(s+B64 *t)=B64 ^ j *(x *mB.getD j 0+L0.getD (i+j) 0+c):=by rw [e]
  have hv:=h.val;rw [Xv,Xv,e2,zd8,h.len,J];rw [U,U,U,←Φ] at e3;rw [U x,Nat.mul_left_comm x];omega
structure MOut (w1:r) (g n:Nat) (mA mB:List Nat) (wr:r) (i:Nat) (l:List Nat):Prop where
 row:MRow w1 g n wr l
 val:vl B64 l=vl B64 (mA.take i) *vl B64 mB
 zero:l.drop (i+mB.length)=L (n - (i+mB.length)) 0
theorem MOut.in {w1:r} {g n:Nat} {mA mB:List Nat} {wr:r} {i:Nat} {l:List Nat} (h:MOut w1 g n mA mB wr i l) (x:Nat):MIn w1 g n mB l x i wr 0 0 l []:=
 ⟨h.row,ze,rfl,zV,by simp [vl]⟩
theorem MIn.out {w1:r} {g n:Nat} {mA mB L0:List Nat} {i:Nat} {w0 wr:r} {c:Nat} {l q:List Nat} (h0:MOut w1 g n mA mB w0 i L0) (h:MIn w1 g n mB L0 (mA.getD i 0) i wr mB.length c l q) (hi:i+mB.length < n):
 MOut w1 g n mA mB (wr.setCell ⟨g,i+mB.length,X⟩ (e6 c)) (i+1) (l.set (i+mB.length) c):=by
 have hL:=h0.row.len;have hm:min i L0.length=i:=W (zc);have e1:i+mB.length - (L0.take i++q).length=0:=by simp [h.len,hm]
 have e2:l.set (i+mB.length) c=L0.take i++(q++[c])++L0.drop (i+mB.length+1):=by
  rw [h.eq,O _ _ (by simp [h.len,hm]),e1,T (zc),K];simp
 have hz0:=h0.zero
 have hz:L0.drop (i+mB.length+1)=L (n - (i+mB.length+1)) 0:=by
  have:=congrArg (List.drop 1) hz0;rw [Ω,List.drop_replicate,Nat.sub_sub] at this;exact this
 refine ⟨h.row.put c h.carry,?_,?_⟩
 ·have hv:=h.val
  have h1:vl B64 L0=vl B64 (L0.take i)+B64 ^ i *vl B64 ((L0.drop i).take mB.length):=by
   have e3:L0=L0.take i++((L0.drop i).take mB.length++L0.drop (i+mB.length)):=by
    rw [←Ω,M,M]
   have e4:vl B64 L0=vl B64 (L0.take i++((L0.drop i).take mB.length++L0.drop (i+mB.length))):=by rw [←e3]
   rw [e4,ze8,hz0,zF4,G,W (zc)]
  rw [e2,hz,zF4,ze8,zd8,h.len,hv,G,W (zc),P (E mB.length),U,Xv,Nat.add_mul,←h0.val,h1,Φ];omega
 ·rw [e2,List.drop_append];have e5:(L0.take i++(q++[c])).length=i+1+mB.length:=qN;rw [List.drop_of_length_le (by rw [e5];exact E _),e5,Nat.sub_self,List.drop_zero,List.nil_append,hz]
  congr 1
  omega
theorem yO1 {w:r} {v1 v2:Value} {l1 l2 F1 F2:List Nat} (h1:Nv w v1 l1 F1) (h2:Nv w v2 l2 F2) (hl1:l1.length≤100000) (hl2:l2.length≤100000):
 B f 232 #[v1,v2] w fun e w'=>Told w (decide (vl B64 l1 < lim) && decide (vl B64 l2 < lim) && decide (vl B64 l1 *vl B64 l2 < lim)) (vl B64 l1 *vl B64 l2) e w':=by
 have CB:=u (yn0 h1 h2 hl1 hl2);have MW:=u yc3;generalize vl B64 l1=va at *;generalize vl B64 l2=vb at *;clear h1 h2 hl1 hl2;go_in;go_wp2_with fail;refine CB.out.mono ?_;rintro e w1 ⟨A1,A2,c1,c2,m1,m2,rfl,k1,k2,n1,⟨F2',r2,f2⟩,-⟩;have MM:=u n1.mod;have K1:=u k1;have K2:=u k2;have R2:=u r2;obtain ⟨F1',r1,f1⟩:=n1.rv;have R1:=u r1;clear CB n1 k1 k2 r1 r2 f1 f2;obtain ⟨ok,hok⟩:∃q,(decide (va < lim) && decide (vb < lim))=q:=⟨_,rfl⟩;have OK:=u hok;rw [hok];clear hok;cases ok with
 | false=>
  have NO:Hid ((decide (va < lim) && decide (vb < lim) && decide (va *vb < lim))=false):=by
   show _=_;rw [OK.out];rfl
  go_wp2;go_ret2;exact .inr ⟨NO.out,rfl,MM.out⟩
 | true=>
  have YES:Hid ((decide (va < lim) && decide (vb < lim) && decide (va *vb < lim))=decide (va *vb < lim)):=by
   show _=_;rw [OK.out,Bool.true_and]
  have B1:Hid (m1.length≤64):=by
   have h:=OK.out;rw [Bool.and_eq_true,decide_eq_true_iff,decide_eq_true_iff] at h;exact K1.out.fits64.2 h.1
  have B2:Hid (m2.length≤64):=by
   have h:=OK.out;rw [Bool.and_eq_true,decide_eq_true_iff,decide_eq_true_iff] at h;exact K2.out.fits64.2 h.2
  clear OK;obtain ⟨n1,hn1⟩:∃q,m1.length=q:=⟨_,rfl⟩;obtain ⟨n2,hn2⟩:∃q,m2.length=q:=⟨_,rfl⟩;rw [hn1] at B1;rw [hn2] at B2;have b1:=B1.out;have b2:=B2.out;rw [hn1] at R1;rw [hn2] at R2;rw [hn1,hn2];have HN1:=u hn1;have HN2:=u hn2;clear hn1 hn2 B1 B2;have hmk:∀w,(Instr.makeSlice 86 (Z Ξ ((n1:Int)+n2)) (Z Ξ ((n1:Int)+n2))).run f w=.ok (Q (I ⟨w.heap.size,0,X⟩) (n1+n2) (n1+n2)) (w.alloc (.cells (madeCells #[Z Y 0] (n1+n2)) 185)):=fun w=>zu1 w (n1+n2) (zc)
  obtain ⟨g,hg⟩:∃g,w1.heap.size=g:=⟨_,rfl⟩;have HG:=u hg
  have fin:Hid (∀wr:r,∀l:List Nat,MOut w1 g (n1+n2) m1 m2 wr n1 l→
   B f 248 #[Q (I ⟨g,0,X⟩) (n1+n2) (n1+n2)] wr fun e w'=>Told w (decide (va < lim) && decide (vb < lim) && decide (va *vb < lim)) (va *vb) e w'):=fun wr l hi=>by
   have hv:=hi.val;rw [show m1.take n1=m1 from P (by rw [HN1.out];exact E _),K1.out.val,K2.out.val] at hv;have h2:=hi.row.full;obtain ⟨F,h3,_⟩:=h2.rv;rw [YES.out,←hv];exact (ym9 ⟨h3,hi.row.lt⟩ (by rw [hi.row.len];omega)).mono fun e w' h=>h.after (MM.out.trans h2.mod (ze))
  go_wp2_with fail
  go_loopw [33] (fun i wr=>∃(k:Nat) (l:List Nat),i=Z Ξ k∧k≤n1∧Hid (MOut w1 g (n1+n2) m1 m2 wr k l)) (fun i _=>n1 - (intOf i).toNat)
  case atStart=>exact ⟨0,_,rfl,Θ _,⟨MRow.start hg.symm (zx),by simp [vl,zS1],ze⟩⟩
  case round=>
   obtain ⟨k,l,rfl,hk,HO⟩:=hrel;by_cases hkA:k < n1
   ·have RA1:=R1.out.mod HO.out.row.mod (ze);obtain ⟨p1,o1,rfl,d1⟩:=RA1.at k (wm);have hxA:m1.getD k 0=m1[k]'(by rw [HN1.out];exact hkA):=xi;rw [D,←hxA] at d1;unfold e6 at d1;have HXL:=u (zC6 K1.out.lt k);obtain ⟨x,hxx⟩:∃x,m1.getD k 0=x:=⟨_,rfl⟩;rw [hxx] at d1 HXL;have HX:=u hxx;clear hxx hxA RA1;go_wp2_with fail
    go_loopw [40,10] (fun i v10 wq=>∃(j c:Nat) (l' q:List Nat),i=Z Ξ j∧v10=Z Y c∧j≤n2∧Hid (MIn w1 g (n1+n2) m2 l x k wq j c l' q)) (fun i _ _=>n2 - (intOf i).toNat)
    case atStart=>exact ⟨0,0,l,[],rfl,rfl,Θ _,HO.out.in x⟩
    case round=>
     obtain ⟨j,c,l',q,rfl,rfl,hj,HI⟩:=hrel;by_cases hjB:j < n2
     ·have RB1:=R2.out.mod HI.out.row.mod (ze);obtain ⟨p2,o2,rfl,d2⟩:=RB1.at j (by rw [C,HN2.out];exact hjB);have hyB:m2.getD j 0=m2[j]'(by rw [HN2.out];exact hjB):=xi;rw [D,←hyB] at d2;unfold e6 at d2;have hx:=HI.out.row.at (k:=k+j) (zc);rw [HI.out.old (by rw [HO.out.row.len];omega)] at hx;have x0:=hx.1;have x1:=hx.2;have st:=u (HI.out.step HO.out.row.len (zc));obtain ⟨hi,lo,lo1,c1',h1',lo2,c2',h2',q1,q2,q3,q4,q5,q6,q7,q8⟩:=MW.out x (m2.getD j 0) (l.getD (k+j) 0) c HXL.out (zC6 K2.out.lt j) (zC6 HO.out.row.lt _) HI.out.carry;have ST:=u (st.out lo2 h2' q6 q7 q8);have Q1:=u q1;generalize m2.getD j 0=y at *;generalize l.getD (k+j) 0=z at *;clear q1 q6 q7 q8 st hyB RB1 hx HI MW;go_wp2_with fail;refine (Q1.out _).mono ?_;rintro e w' ⟨rfl,rfl⟩;go_wp2_with fail;go_roundw
      case rel=>exact ⟨j+1,h2',_,_,by go_num,rfl,zc,ST.out⟩
      case measure=>simp [intOf];omega
     ·obtain rfl:j=n2:=zc;have hx:=HI.out.row.at (k:=k+j) (zc);have x0:=hx.1;have x1:=hx.2
      have ST:Hid (MOut w1 g (n1+j) m1 m2 (wr.setCell ⟨g,k+j,X⟩ (e6 c)) (k+1) (l'.set (k+j) c)):=by
       have h1:MIn w1 g (n1+j) m2 l (m1.getD k 0) k wr m2.length c l' q:=by rw [HX.out,HN2.out];exact HI.out
       have h2:=h1.out HO.out (by rw [HN2.out];omega);rw [HN2.out] at h2;exact h2
      unfold e6 at ST;clear hx HI MW;go_wp2_with fail;go_roundw
      case rel=>exact ⟨k+1,_,by go_num,zc,ST.out⟩
      case measure=>simp [intOf];omega
   ·obtain rfl:k=n1:=zc;have FIN:=u (fin.out wr l HO.out);clear fin HO MW;go_wp2_with fail;refine FIN.out.mono ?_;rintro e w4 (⟨ht,v',rfl,hn⟩ | ⟨ht,rfl,hm⟩)
    ·have HT:=u ht;have HN:=u hn;clear ht hn;go_wp2;go_ret2;exact .inl ⟨HT.out,_,rfl,HN.out⟩
    ·have HT:=u ht;have HM:=u hm;clear ht hm;go_wp2;go_ret2;exact .inr ⟨HT.out,rfl,HM.out⟩
open Go.RowKit
def Nm (w:r) (v:Value) (n:Nat) (F:List Nat):Prop:=∃l,Can B64 l n∧Nv w v l F∧l.length≤1000
theorem Nm.mod {S:List Nat} {w w':r} {v:Value} {n:Nat} {F:List Nat} (h:Nm w v n F) (m:Mod S w w') (hd:∀k∈F,k∉S):Nm w' v n F:=by
 obtain ⟨l,h1,h2,h3⟩:=h;exact ⟨l,h1,h2.mod m hd,h3⟩
theorem zb4 {n:Nat} (h:n≤4294967296):n < lim:=by
 have h1:n < B64:=zV;unfold lim;exact V h1 (by rw [show (64:Nat)=63+1 from rfl,J];exact Nat.le_mul_of_pos_left _ (Δ (zV)))
theorem NNew.nm {w w':r} {n:Nat} {v:Value} (h:NNew w n w' v) (hn:n≤4294967296):∃F,Nm w' v n F∧(∀k∈F,w.heap.size≤k)∧∀k∈F,k < w'.heap.size:=by
 obtain ⟨l,hc,F,hs,m,hf⟩:=h;have hl:=hc.fits64.2 (zb4 hn);exact ⟨F,⟨l,hc,⟨Rv.of_sl hs rfl,hc.lt⟩,zc⟩,hf,hs.lt⟩
theorem Told.yes {w w':r} {n:Nat} {e:Ending} (h:Told w true n e w'):∃v',e=R (Ψ #[v',.bool true])∧NNew w n w' v':=by
 rcases h with ⟨_,h⟩ | ⟨h,_⟩
 ·exact h
 ·cases h
theorem Nm.nil (w:r):Nm w (Q X 0 0) 0 []:=⟨[],Can.nil _,Nv.nil w,ze⟩
theorem Yo {p:Prop} (h:p:=by
 obtain ⟨A1,N1,p1,rfl⟩:∃A N p,v1=Q A N p:=wE;obtain ⟨A2,N2,p2,rfl⟩:∃A N p,v2=Q A N p:=wF;clear c1 c2 r1 r2;go_in;go_wp2_with fail;refine AD.out.mono ?_;intro e w' hT;have hh:=Told.yes hT;clear hT;obtain ⟨v',hv⟩:=hh;obtain ⟨he,n⟩:=hv;subst he;have N:=u n;clear n AD;go_wp2_with fail;go_ret
 exact ⟨_,rfl,N.out⟩):p:=h
theorem yo5 {w:r} {v1 v2:Value} {n1 n2:Nat} {F1 F2:List Nat} (h1:Nm w v1 n1 F1) (h2:Nm w v2 n2 F2) (hs:n1+n2≤4294967296):
 B f 231 #[v1,v2] w fun e w'=>∃v',e=R v'∧NNew w (n1+n2) w' v':=by
 obtain ⟨l1,c1,r1,k1⟩:=h1;obtain ⟨l2,c2,r2,k2⟩:=h2;have AD:=u (yN0 r1 r2 (zc) (zc));rw [c1.val,c2.val,decide_eq_true (zb4 hs)] at AD;clear hs;exact Yo
theorem zS4 {w:r} {v1 v2:Value} {n1 n2:Nat} {F1 F2:List Nat} (h1:Nm w v1 n1 F1) (h2:Nm w v2 n2 F2) (hn1:n1≤4294967296) (hn2:n2≤4294967296) (hs:n1 *n2≤4294967296):
 B f 220 #[v1,v2] w fun e w'=>∃v',e=R v'∧NNew w (n1 *n2) w' v':=by
 obtain ⟨l1,c1,r1,k1⟩:=h1;obtain ⟨l2,c2,r2,k2⟩:=h2;have AD:=u (yO1 r1 r2 (zc) (zc));rw [c1.val,c2.val,decide_eq_true (zb4 hs),decide_eq_true (zb4 hn1),decide_eq_true (zb4 hn2)] at AD;clear hn1 hn2 hs;exact Yo
def Ones (w:r) (A:Option Addr) (n:Nat) (S:List Nat):Prop:=
 ∀k,k < n→∃g off v F,A=I ⟨g,off,X⟩∧g < w.heap.size∧g∉S∧w.cell? ⟨g,off+k,X⟩=I v∧Nm w v 1 F∧(∀x∈F,x < w.heap.size∧x∉S)
theorem Ones.mod {w w':r} {A:Option Addr} {n:Nat} {S:List Nat} (h:Ones w A n S) (m:Mod S w w'):Ones w' A n S:=by
 intro k hk;obtain ⟨g,off,v,F,h1,h2,h3,h4,h5,h6⟩:=h k hk;exact ⟨g,off,v,F,h1,V h2 m.size,h3,(m.cell (a:=⟨g,off+k,X⟩) h2 h3).trans h4,h5.mod m (fun x hx=>(h6 x hx).2),fun x hx=>⟨V (h6 x hx).1 m.size,(h6 x hx).2⟩⟩
def Xx (i j:Nat) (both:Bool):Nat:=if both then 2 ^ (j - i) else 1
theorem zo7 (i:Nat) (b:Bool):Xx i i b=1:=by unfold Xx;simp
theorem zJ4 (i k:Nat) (h:i≤k) (b:Bool):Xx i (k+1) b=Xx i k b *(if b then 2 else 1):=by
 unfold Xx;cases b with
 | false=>rfl
 | true=>simp only [if_true];rw [Nat.succ_sub h,J]
theorem zs5 (i j:Nat) (h:j≤16) (b:Bool):1≤Xx i j b∧Xx i j b≤65536:=by
 unfold Xx;cases b with
 | false=>simp
 | true=>
  simp only [if_true];exact ⟨Δ (zc),by have:=Nat.pow_le_pow_right (n:=2) (zc) (show j - i≤16 from zc);simpa using this⟩
theorem zT4 {w:r} {bw n:Nat} {lo hi:Option Addr} {cl ch:Nat} {S:List Nat} (c2:w.cell? ⟨bw,2,X⟩=I (Q lo n cl)) (c3:w.cell? ⟨bw,3,X⟩=I (Q hi n ch)) (o1:Ones w lo n S) (o2:Ones w hi n S) (hn:n≤16) (i j:Nat) (hj:j≤n) (both:Bool):
 B f 221 #[.pointer (I ⟨bw,0,X⟩),Z Ξ i,Z Ξ j,.bool both] w fun e w'=>∃v,e=R v∧NNew w (Xx i j both) w' v:=by
 have OF:=u (yN4 1 (zV));have O1:=u o1;have O2:=u o2;have hbw:=World.block_lt_of_cell? w _ c2;simp only at hbw;clear o1 o2;go_in;go_wp2_with fail;refine (OF.out _).mono ?_;rintro e w1 ⟨v1,rfl,n1⟩;have N1:=u n1;clear n1 OF;go_wp2_with fail
 go_loopw [9,10] (fun v k wr=>∃kk:Nat,k=Z Ξ kk∧i≤kk∧(kk≤i∨kk≤j)∧Hid (NNew w (Xx i kk both) wr v)) (fun _ k _=>j - (intOf k).toNat)
 case atStart=>exact ⟨i,rfl,zc,zc,by rw [zo7];exact N1.out⟩
 case round=>
  obtain ⟨kk,rfl,hik,hkj,HN⟩:=hrel;by_cases hlt:kk < j
  ·have hlt':(kk:Int) < j:=zc;have hkn:(kk:Int) < n:=zc;have hk0:(0:Int)≤kk:=zc;have MM:=u HN.out.mod;have MS:Hid (Mod S w wr):=MM.out.mono (ze);obtain ⟨g,off,v,F,rfl,hg,hgS,hc,hm,hF⟩:=O1.out.mod MS.out kk (zc);obtain ⟨g',off',v',F',rfl,hg',hgS',hc',hm',hF'⟩:=O2.out.mod MS.out kk (zc);have d2:=(MM.out.cell (a:=⟨bw,2,X⟩) hbw (ze)).trans c2;have d3:=(MM.out.cell (a:=⟨bw,3,X⟩) hbw (ze)).trans c3;obtain ⟨hp1,hp2⟩:=zs5 i kk (zc) both;obtain ⟨FP,nP,-,ltP⟩:=HN.out.nm (zc);have NP:=u nP;have NX:=u hm;have NY:=u hm';have PS:=u (zJ4 i kk (zc) both);obtain ⟨x,hx⟩:∃x,Xx i kk both=x:=⟨_,rfl⟩;have X2:=u (show x≤65536 from zc);rw [hx] at NP PS;clear hm hm' hF hF' hgS hgS' nP ltP hp1 hp2 O1 O2 hx N1;cases both with
   | false=>
    go_wp2_with fail;refine (zS4 NP.out NX.out (qO) (zc) (qO)).mono ?_;rintro e w2 ⟨v2,rfl,n2⟩;have N2:=u (n2.after MM.out);clear n2;go_wp2_with fail;go_roundw
    case rel=>exact ⟨kk+1,by first | rfl | go_num,zc,zc,by rw [PS.out];exact N2.out⟩
    case measure=>simp [intOf];omega
   | true=>
    go_wp2_with fail;refine (yo5 NX.out NY.out (zc)).mono ?_;rintro e w2 ⟨v2,rfl,n2⟩;obtain ⟨F2,nm2,-,lt2⟩:=n2.nm (zc);have NP2:=u (NP.out.mod n2.mod (ze));have M2:=u (MM.out.trans' n2.mod);have NM2:=u nm2;clear n2 nm2 lt2;go_wp2_with fail;refine (zS4 NP2.out NM2.out (qO) (zc) (qO)).mono ?_;rintro e w3 ⟨v3,rfl,n3⟩;have N3:=u (n3.after M2.out);clear n3;go_wp2_with fail;go_roundw
    case rel=>exact ⟨kk+1,by first | rfl | go_num,zc,zc,by rw [PS.out];exact N3.out⟩
    case measure=>simp [intOf];omega
  ·have e:Hid (Xx i kk both=Xx i j both):=by
    show _=_;by_cases q:kk=j
    ·rw [q]
    ·unfold Xx;rw [show kk - i=0 from zc,show j - i=0 from zc]
   have hlt':¬(kk:Int) < j:=zc;clear O1 O2;go_wp2_with fail;go_ret;exact ⟨_,rfl,by rw [←e.out];exact HN.out⟩
end Go.Proofs.YtbnpoapmnkfhkaaGreatDoor
