/- M02: Rb · Rc · Qp -/
import Derived.Test.YtnbjnnijifiaaaaGreatDoorM01
set_option maxHeartbeats 1000000
set_option linter.unusedVariables false
set_option linter.unusedSimpArgs false
namespace Go.Proofs.YtnbjnnijifiaaaaGreatDoor
open Go.RowKit
theorem madeInts (w:World) (n:Nat) (hn:n≤100000):(Instr.makeSlice 22 (.int .i64 n) (.int .i64 n)).run Tryz.prog w=.ok (.slice (some ⟨w.heap.size,0,none⟩) n n) (w.alloc (.cells (madeCells #[.int .i64 0] n) 3)):=by
 obtain ⟨i0,hi,hz0,hz1,hz2⟩:=info_parts Tryz.info3
 have:=run_make (P:=Tryz.prog) w 22 3 i0 _ Tryz.underlying22 hi hz0 .i64 .i64 n n (by omega) (by omega) (by rw [hz2];omega) (by omega)
 simpa [hz1,Value.cells] using this
theorem madeBools (w:World) (n:Nat) (hn:n≤100000):(Instr.makeSlice 31 (.int .i64 n) (.int .i64 n)).run Tryz.prog w=.ok (.slice (some ⟨w.heap.size,0,none⟩) n n) (w.alloc (.cells (madeCells #[.bool false] n) 4)):=by
 obtain ⟨i0,hi,hz0,hz1,hz2⟩:=info_parts Tryz.infoB
 have:=run_make (P:=Tryz.prog) w 31 4 i0 _ Tryz.underlying31 hi hz0 .i64 .i64 n n (by omega) (by omega) (by rw [hz2];omega) (by omega)
 simpa [hz1,Value.cells] using this
theorem madeOne (z:Value) (n:Nat):(madeCells #[z] n).toList=List.replicate n z:=by
 apply List.ext_getElem?
 intro i
 by_cases h:i < n
 ·simp [madeCells,h,Nat.mod_one]
 ·simp [madeCells,h]
theorem Sl.made1 (w:World) (E n:Nat) (z:Value) (hm:n≤maxLen) (g:Nat) (hg:g=w.heap.size):Sl (w.alloc (.cells (madeCells #[z] n) E)) E 1 (.slice (some ⟨g,0,none⟩) n n) n (List.replicate n z) [g]:=by
 subst hg
 have:=Sl.made w E 1 n #[z] hm
 rw [Nat.mul_one,madeOne] at this
 exact this
def B64:Nat:=18446744073709551616
def bitsN (n a:Nat):List Bool:=(List.range (2 ^ n)).map fun x=>a.testBit x
theorem bitsN_len (n a:Nat):(bitsN n a).length=2 ^ n:=by simp [bitsN]
theorem mod2 (a:Nat):(((a:Nat):Int) % 2==1)=a.testBit 0:=by
 rw [Nat.testBit_zero]
 by_cases h:a % 2=1
 ·have:((a:Int) % 2)=1:=by omega
  simp [h,this]
 ·have:¬((a:Int) % 2)=1:=by omega
  simp [h,this]
theorem bits_c (n a:Nat) (hn:n≤6) (ha:a < B64) (w:World):Calls Tryz.prog 7 #[.int .i64 n,.int .u64 a] w fun e w'=>∃v,e=.returned v∧NewV 4 w ((bitsN n a).map eb) w' v:=by
 have SZ:=Lib.hid (size_c n (by omega))
 have HA:=Lib.hid ha
 clear ha
 have h64:2 ^ n≤64:=by have:=Nat.pow_le_pow_right (n:=2) (by omega) hn;simpa using this
 obtain ⟨N,hN⟩:∃N,2 ^ n=N:=⟨_,rfl⟩
 rw [hN] at SZ h64
 have HN:=Lib.hid hN
 clear hN
 have hmk:=fun w=>madeBools w N (by omega)
 obtain ⟨g,hg⟩:∃g,w.heap.size=g:=⟨_,rfl⟩
 go_enter Tryz.func7,Tryz.ntmps7
 go_wp2_with fail
 refine (SZ.out _).mono ?_
 rintro e w' ⟨rfl,rfl⟩
 go_wp2_with fail
 have HG:=Lib.hid hg
 have S0:=Lib.hid (Sl.made1 w' 4 N (.bool false) (by unfold maxLen;omega) g hg.symm)
 have M0:Hid (Mod [] w' (w'.alloc (.cells (madeCells #[.bool false] N) 4))):=(Mod.refl _ _).alloc _
 clear hmk SZ hg
 generalize w'.alloc (.cells (madeCells #[.bool false] N) 4)=w0 at *
 go_loopw [6,1] (fun i x wr=>∃k:Nat,∃xs:List Bool,k≤N∧i=.int .i64 k∧x=.int .u64 ((a / 2 ^ k:Nat):Int)∧xs.length=N∧(∀j,j < k→xs[j]? =some (a.testBit j))∧Sl wr 4 1 (.slice (some ⟨g,0,none⟩) N N) N (xs.map eb) [g]∧Mod [] w' wr) (fun i _ _=>N - (intOf i).toNat)
 case atStart=>exact ⟨0,List.replicate N false,by omega,rfl,by simp,by simp,by omega,by simpa [eb] using S0.out,M0.out⟩
 case round=>
  obtain ⟨k,xs,hk,rfl,rfl,hxl,hxs,hs,hm⟩:=hrel
  have HXL:=Lib.hid hxl
  have HXS:=Lib.hid hxs
  have HS:=Lib.hid hs
  have HM:=Lib.hid hm
  clear hxl hxs hs hm S0 M0
  by_cases hlt:k < N
  ·have hlt':(k:Int) < N:=by omega
   have E1:Hid (((a / 2 ^ k:Nat):Int) / 2=((a / 2 ^ (k+1):Nat):Int)):=by
    show _=_
    rw [Nat.pow_succ,←Nat.div_div_eq_div_mul];omega
   have E3:Hid (IntKind.u64.wrap (((a / 2 ^ k:Nat):Int) / 2)=((a / 2 ^ (k+1):Nat):Int)):=by
    show _=_
    have h1:=HA.out
    have h2:a / 2 ^ k≤a:=Nat.div_le_self _ _
    unfold B64 at h1
    have h3:=E1.out
    generalize a / 2 ^ k=y at *
    generalize a / 2 ^ (k+1)=z at *
    rw [IntWalk.u64_in _ (by omega)];exact h3
   have E2:Hid ((((a / 2 ^ k:Nat):Int) % 2==1)=a.testBit k):=by
    show _=_
    rw [mod2,Nat.testBit_div_two_pow];simp
   obtain ⟨d1,d2,-⟩:=HS.out.at k (by omega)
   rw [List.getElem?_map,List.getElem?_eq_getElem (by rw [HXL.out];exact hlt)] at d1
   simp only [Option.map_some,eb] at d1
   generalize (a / 2 ^ k:Nat)=y at *
   go_wp2_with fail
   go_roundw
   case rel=>
    refine ⟨k+1,xs.set k (a.testBit k),by omega,by go_num,by rw [E3.out],by simp [HXL.out],?_,?_,?_⟩
    ·intro j hj
     rw [List.getElem?_set]
     by_cases q:k=j
     ·subst q;simp [HXL.out,hlt]
     ·rw [if_neg q];exact HXS.out j (by omega)
    ·have:=HS.out.set k (.bool (a.testBit k))
     rw [List.map_set]
     rw [E2.out]
     exact this
    ·exact HM.out.setCell _ _ (by have:=HG.out;simp;omega)
   case measure=>simp [intOf];omega
  ·obtain rfl:k=N:=by omega
   go_wp2_with fail
   go_ret
   have e:xs=bitsN n a:=by
    apply List.ext_getElem?
    intro j
    by_cases q:j < k
    ·rw [HXS.out j q];unfold bitsN;rw [List.getElem?_map,List.getElem?_range (by rw [HN.out];exact q)];rfl
    ·rw [List.getElem?_eq_none (by rw [HXL.out];omega),List.getElem?_eq_none (by rw [bitsN_len,HN.out];omega)]
   subst e
   refine ⟨_,rfl,[g],?_,HM.out,by intro k hk;simp at hk;subst hk;rw [HG.out];omega⟩
   have:=HS.out
   rw [List.length_map,bitsN_len,HN.out]
   exact this
def valB:List Bool→Nat
 | []=>0
 | b::l=>b.toNat+2 *valB l
theorem valB_lt (l:List Bool):valB l < 2 ^ l.length:=by
 induction l with
 | nil=>simp [valB]
 | cons b l ih=>simp only [valB,List.length_cons,Nat.pow_succ];cases b<;>simp<;>omega
theorem of05_c (n:Nat) {w:World} {v:Value} {t:List Bool} {F:List Nat} (h:Rv w v (t.map eb) F) (h0:0 < t.length) (h32:t.length≤32):
 Calls Tryz.prog 6 #[.int .i64 n,v] w fun e w'=>∃g,e=.returned (.agg #[.int .i64 n,.slice (some ⟨g,0,none⟩) 1 1])∧w'.cell? ⟨g,0,none⟩=some (.int .u64 (valB t:Nat))∧w.heap.size≤g∧Mod [] w w':=by
 obtain ⟨A,cap,rfl,hc⟩:=h.shape
 have H:=Lib.hid h
 simp only [List.length_map] at H hc ⊢
 clear h
 obtain ⟨N,hN⟩:∃N,t.length=N:=⟨_,rfl⟩
 rw [hN] at H hc h0 h32 ⊢
 have HN:=Lib.hid hN
 clear hN
 have hmk:∀w,(Instr.makeSlice 27 (.int .i64 1) (.int .i64 1)).run Tryz.prog w=.ok (.slice (some ⟨w.heap.size,0,none⟩) 1 1) (w.alloc (.cells #[.int .u64 0] 23)):=fun _=>by kernel_rfl
 have hq:((N:Int)+63) / 64=1:=by omega
 obtain ⟨g0,hg⟩:∃g,w.heap.size=g:=⟨_,rfl⟩
 go_enter Tryz.func6,Tryz.ntmps6
 go_wp2_with fail
 have B0:=Blk.new' (w.alloc (.cells #[.int .i64 0,.slice none 0 0] 29)) #[.int .u64 0] 23 (g0+1) (by simp [hg])
 have C0:=(Blk.new' w #[.int .i64 0,.slice none 0 0] 29 g0 hg.symm).alloc (.cells #[.int .u64 0] 23)
 have M0:Hid (Mod [] w ((w.alloc (.cells #[.int .i64 0,.slice none 0 0] 29)).alloc (.cells #[.int .u64 0] 23))):=((Mod.refl _ _).alloc _).alloc _
 generalize (w.alloc (.cells #[.int .i64 0,.slice none 0 0] 29)).alloc (.cells #[.int .u64 0] 23)=w0 at *
 have B0:=Lib.hid B0
 have C0:=Lib.hid C0
 have HG:=Lib.hid hg
 clear hmk hq hg
 go_loopw [6] (fun i wr=>∃k:Nat,k≤N∧i=.int .i64 ((k:Int) - 1)∧Blk wr (g0+1) #[.int .u64 (valB (t.drop k):Nat)] 23∧Blk wr g0 #[.int .i64 0,.slice none 0 0] 29∧Mod [] w wr) (fun i _=>(intOf i+1).toNat)
 case atStart=>exact ⟨N,by omega,rfl,by rw [List.drop_of_length_le (by rw [HN.out];omega)];exact B0.out,C0.out,M0.out⟩
 case round=>
  obtain ⟨k,hk,rfl,hb,hcb,hm⟩:=hrel
  clear B0 C0 M0
  have HB:=Lib.hid hb
  have HC:=Lib.hid hcb
  have HM:=Lib.hid hm
  have e1:=hb.cell 0
  have f1:=hb.froz 0
  simp only [List.getElem?_toArray,List.getElem?_cons_zero] at e1
  have hlen:(t.drop k).length≤32:=by rw [List.length_drop,HN.out];omega
  have hv:valB (t.drop k) < 4294967296:=Nat.lt_of_lt_of_le (valB_lt _) (by have:=Nat.pow_le_pow_right (n:=2) (by omega) hlen;simpa using this)
  have hv':(valB (t.drop k):Int)≤4294967295:=by omega
  clear hlen hv
  by_cases hlt:0 < k
  ·obtain ⟨j,rfl⟩:∃j,k=j+1:=⟨k - 1,by omega⟩
   have hj:j < t.length:=by rw [HN.out];omega
   obtain ⟨b1,o1,rfl,d1⟩:=(H.out.mod hm (by simp)).at j (by rw [List.length_map];exact hj)
   rw [List.getElem_map] at d1
   have DR:Hid (valB (t.drop j)=(t[j]).toNat+2 *valB (t.drop (j+1))):=by show _=_;rw [List.drop_eq_getElem_cons hj,valB]
   have hb1:b1 < wr.heap.size:=World.block_lt_of_cell? wr _ d1
   have hj0:(((j+1:Nat):Int) - 1)=(j:Int):=by omega
   simp only [hj0]
   have hq:(j:Int) / 64=0:=by omega
   have hj1:(j:Int) < N:=by omega
   unfold eb at d1
   generalize t[j]=x at *
   generalize valB (t.drop (j+1))=y at *
   have HQ:b1=g0+1→False:=by
    rintro rfl;rw [show o1+j=o1+j from rfl] at d1
    have:=hb.cell (o1+j)
    rw [d1] at this
    rcases Nat.eq_zero_or_pos (o1+j) with q | q
    ·rw [q] at this;simp at this
    ·rw [Array.getElem?_eq_none (by simp;omega)] at this;simp at this
   have hne:¬b1=g0+1:=HQ
   clear hb hcb hm HQ hj hb1
   have st:∀(u1 u2:Value),Mod [] w ((wr.setCell ⟨g0+1,0,none⟩ u1).setCell ⟨g0+1,0,none⟩ u2)∧Mod [] w (wr.setCell ⟨g0+1,0,none⟩ u1):=fun u1 u2=>⟨(HM.out.setCell _ _ (by have:=HG.out;simp;omega)).setCell _ _ (by have:=HG.out;simp;omega),HM.out.setCell _ _ (by have:=HG.out;simp;omega)⟩
   have ST:=Lib.hid st
   clear st
   cases x with
   | true=>
    go_wp2_with fail
    go_roundw
    case rel=>
     refine ⟨j,by omega,by first | rfl | go_num,?_,?_,(ST.out _ _).1⟩
     ·rw [DR.out]
      have e:((true.toNat+2 *y:Nat):Int)=2 *(y:Int)+1:=by simp;omega
      rw [e]
      simpa using (HB.out.set 0 (.int .u64 (2 *(y:Int)))).set 0 (.int .u64 (2 *(y:Int)+1))
     ·exact (HC.out.other _ _ (by simp)).other _ _ (by simp)
    case measure=>simp [intOf]
   | false=>
    go_wp2_with fail
    go_roundw
    case rel=>
     refine ⟨j,by omega,by first | rfl | go_num,?_,?_,(ST.out _ (.int .u64 0)).2⟩
     ·rw [DR.out]
      have e:((false.toNat+2 *y:Nat):Int)=2 *(y:Int):=by simp
      rw [e]
      simpa using (HB.out.set 0 (.int .u64 (2 *(y:Int))))
     ·exact (HC.out.other _ _ (by simp))
    case measure=>simp [intOf]
  ·obtain rfl:k=0:=by omega
   rw [List.drop_zero] at HB hb e1 hv'
   obtain ⟨c0,c1⟩:wr.cell? ⟨g0,0,none⟩=some (.int .i64 0)∧wr.cell? ⟨g0,1,none⟩=some (.slice none 0 0):=by
    constructor<;>(rw [hcb.cell];rfl)
   have f0:=hcb.froz 0
   have f2:=hcb.froz 1
   clear hb hcb hm
   go_wp2_with fail
   refine bodyPost_ret (v:=.agg #[.int .i64 n,.slice (some ⟨g0+1,0,none⟩) 1 1]) (by simp [results,Tryz.results6,go_sem,c0,c1,f0,f2]) rfl ?_
   refine ⟨g0+1,rfl,?_,by have:=HG.out;omega,?_⟩
   ·have:=((HB.out.other ⟨g0,0,none⟩ (.int .i64 n) (by simp)).other ⟨g0,1,none⟩ (.slice (some ⟨g0+1,0,none⟩) 1 1) (by simp)).cell 0
    simpa using this
   ·exact (HM.out.setCell _ _ (by have:=HG.out;simp;omega)).setCell _ _ (by have:=HG.out;simp;omega)
open Go.RowKit
def vl (b:Nat):List Nat→Nat
 | []=>0
 | x::l=>x+b *vl b l
theorem vl_append (b:Nat) (l l':List Nat):vl b (l++l')=vl b l+b ^ l.length *vl b l':=by
 induction l with
 | nil=>simp [vl]
 | cons x l ih=>simp only [List.cons_append,vl,ih,List.length_cons,Nat.pow_succ,Nat.mul_add];rw [←Nat.mul_assoc,Nat.mul_comm b (b ^ l.length)];omega
theorem vl_snoc (b:Nat) (l:List Nat) (x:Nat):vl b (l++[x])=vl b l+b ^ l.length *x:=by rw [vl_append];simp [vl]
theorem vl_lt {b:Nat} {l:List Nat} (h:∀x∈l,x < b):vl b l < b ^ l.length:=by
 induction l with
 | nil=>simp [vl]
 | cons x l ih=>
  have h1:=ih (fun y hy=>h y (by simp [hy]))
  have h2:=h x (by simp)
  have h3:b *(vl b l+1)≤b *b ^ l.length:=Nat.mul_le_mul_left b h1
  rw [Nat.mul_add] at h3
  simp only [vl,List.length_cons,Nat.pow_succ]
  rw [Nat.mul_comm (b ^ l.length) b]
  omega
theorem vl_zero (b n:Nat):vl b (List.replicate n 0)=0:=by
 induction n with
 | zero=>rfl
 | succ n ih=>simp [List.replicate_succ,vl,ih]
theorem vl_zeros (b:Nat) (l:List Nat) (n:Nat):vl b (l++List.replicate n 0)=vl b l:=by rw [vl_append,vl_zero];simp
theorem vl_take_succ (b:Nat) (l:List Nat) {i:Nat} (h:i < l.length):vl b (l.take (i+1))=vl b (l.take i)+b ^ i *l[i]:=by
 rw [List.take_succ_eq_append_getElem h,vl_snoc,List.length_take,Nat.min_eq_left (by omega)]
structure Can (b:Nat) (l:List Nat) (n:Nat):Prop where
 lt:∀x∈l,x < b
 val:vl b l=n
 last:∀x,l.getLast? =some x→x≠0
theorem Can.nil (b:Nat):Can b [] 0:=⟨by simp,rfl,by simp⟩
theorem Can.upper {b:Nat} {l:List Nat} {n:Nat} (h:Can b l n):n < b ^ l.length:=by rw [←h.val];exact vl_lt h.lt
theorem Can.lower {b:Nat} {l:List Nat} {n:Nat} (h:Can b l n) (hl:l≠[]):b ^ (l.length - 1)≤n:=by
 rcases List.eq_nil_or_concat l with rfl | ⟨p,x,rfl⟩
 ·exact absurd rfl hl
 ·rw [List.concat_eq_append] at *
  have hx:=h.last x (by simp)
  rw [←h.val,vl_snoc,List.length_append]
  have h1:b ^ p.length *1≤b ^ p.length *x:=Nat.mul_le_mul_left _ (by omega)
  simp
  omega
theorem Can.pos {b:Nat} {l:List Nat} {n:Nat} (hb:0 < b) (h:Can b l n) (hl:l≠[]):0 < n:=
 Nat.lt_of_lt_of_le (Nat.pow_pos hb) (h.lower hl)
theorem Can.zero {b:Nat} {l:List Nat} (hb:0 < b) (h:Can b l 0):l=[]:=by
 by_cases hl:l=[]
 ·exact hl
 ·have:=h.pos hb hl;omega
theorem Can.nil_val {b:Nat} {n:Nat} (h:Can b [] n):n=0:=h.val.symm
theorem Can.fits {b:Nat} {l:List Nat} {n:Nat} (hb:1 < b) (h:Can b l n) (k:Nat):l.length≤k↔n < b ^ k:=by
 constructor
 ·intro q
  exact Nat.lt_of_lt_of_le h.upper (Nat.pow_le_pow_right (by omega) q)
 ·intro q
  rcases Nat.lt_or_ge k l.length with q2 | q2
  ·have hl:l≠[]:=by intro e;rw [e] at q2;simp at q2
   have h1:=h.lower hl
   have h2:b ^ k≤b ^ (l.length - 1):=Nat.pow_le_pow_right (by omega) (by omega)
   omega
  ·exact q2
theorem Can.tail {b x:Nat} {l:List Nat} {n:Nat} (h:Can b (x::l) n):Can b l (vl b l):=
 ⟨fun y hy=>h.lt y (by simp [hy]),rfl,fun y hy=>h.last y (by
  cases l with
  | nil=>simp at hy
  | cons z t=>rw [List.getLast?_cons_cons];exact hy)⟩
theorem Can.uniq {b:Nat} (hb:1 < b):∀{l l':List Nat} {n:Nat},Can b l n→Can b l' n→l=l':=by
 intro l
 induction l with
 | nil=>
  intro l' n h h'
  obtain rfl:=h.nil_val
  exact (h'.zero (by omega)).symm
 | cons x l ih=>
  intro l' n h h'
  cases l' with
  | nil=>
   obtain rfl:=h'.nil_val
   exact h.zero (by omega)
  | cons y t=>
   have e:x+b *vl b l=y+b *vl b t:=h.val.trans h'.val.symm
   have hx:=h.lt x (by simp)
   have hy:=h'.lt y (by simp)
   have e1:x=y:=by
    have:=congrArg (· % b) e
    simpa [Nat.add_mul_mod_self_left,Nat.mod_eq_of_lt hx,Nat.mod_eq_of_lt hy] using this
   subst e1
   have e2:vl b l=vl b t:=Nat.eq_of_mul_eq_mul_left (show 0 < b by omega) (by omega)
   have h2:=h'.tail
   rw [←e2] at h2
   rw [ih h.tail h2]
theorem Can.norm {b:Nat} {l:List Nat} (h:∀x∈l,x < b) {n:Nat} (hn:n≤l.length) (hv:vl b (l.take n)=vl b l) (hz:n=0∨∃h:n - 1 < l.length,l[n - 1]≠0):Can b (l.take n) (vl b l):=by
 refine ⟨fun x hx=>h x (List.mem_of_mem_take hx),hv,fun x hx=>?_⟩
 rcases hz with rfl | ⟨h1,h2⟩
 ·simp at hx
 ·by_cases h0:n=0
  ·subst h0;simp at hx
  ·rw [List.getLast?_eq_getElem?,List.length_take,Nat.min_eq_left hn,List.getElem?_take,if_pos (by omega),List.getElem?_eq_getElem h1] at hx
   simp at hx
   rw [←hx];exact h2
theorem norm_step {b:Nat} {l:List Nat} {n:Nat} (hn:n < l.length) (hv:vl b (l.take (n+1))=vl b l) (h0:l[n]=0):vl b (l.take n)=vl b l:=by
 rw [←hv,vl_take_succ b l hn,h0];simp
end Go.Proofs.YtnbjnnijifiaaaaGreatDoor
