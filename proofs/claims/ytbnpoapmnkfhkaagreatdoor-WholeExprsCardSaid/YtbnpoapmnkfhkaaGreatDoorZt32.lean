import Derived.Test.YtbnpoapmnkfhkaaGreatDoorZt02
import Derived.Shelf.Abstract
import Derived.LoopTactic
import Derived.Laws.Externs
import Derived.Shelf.Spec.BitsCarry
set_option maxHeartbeats 4000000
set_option linter.unusedVariables false
set_option linter.unusedSimpArgs false
set_option maxRecDepth 100000
namespace Go.Proofs.YtbnpoapmnkfhkaaGreatDoor
open Go.Lib renaming hid → z
open List renaming getD_eq_getElem?_getD → r, take_of_length_le → f, length_map → d, getElem?_eq_none → Z, getElem_map → R, getElem?_eq_getElem → Q, replicate → O, getElem?_replicate → I, getElem_mem → Φ
open Go renaming World → Y, Value → M, Calls → D
open Go.Proofs.Tryz renaming prog → X, underlying86 → J
open Go.Value renaming slice → W, int → V, tuple → Θ
open Go.IntKind renaming u64 → U, i64 → Ω
open Go.Ending renaming returned → N
open Option renaming none → L, some → C
open Nat renaming le_refl → K, mul_add → Ψ, lt_succ_self → Ξ, le_trans → Δ, sub_self → Γ, zero_le → ω
open Go.Instr renaming makeSlice → G
open Go.RowKit renaming Hid → E
open Go.Obj renaming cells → B
open Go.RowKit Go.Shelf
def lim:Nat:=B64 ^ 64
theorem yc7:1 < B64:=zV
def e6 (x:Nat):M:=V U (x:Int)
theorem yG2 (l:List Nat):∀u∈l.map e6,u.oneCell'=true:=by
 intro u hu;obtain ⟨x,_,rfl⟩:=List.mem_map.1 hu;rfl
theorem Can.fits64 {l:List Nat} {n:Nat} (h:Can B64 l n):l.length≤64↔n < lim:=h.fits yc7 64
def Nv (w:Y) (v:M) (l:List Nat) (F:List Nat):Prop:=Rv w v (l.map e6) F∧∀x∈l,x < B64
theorem Nv.mod {S:List Nat} {w w':Y} {v:M} {l F:List Nat} (h:Nv w v l F) (m:Mod S w w') (hd:∀k∈F,k∉S):Nv w' v l F:=⟨h.1.mod m hd,h.2⟩
theorem Nv.nil (w:Y):Nv w (W L 0 0) [] []:=⟨Rv.nil w,ze⟩
def NNew (w:Y) (n:Nat) (w':Y) (v':M):Prop:=∃l,Can B64 l n∧NewV 185 w (l.map e6) w' v'
theorem NNew.nv {w w':Y} {n:Nat} {v':M} (h:NNew w n w' v'):∃l F,Can B64 l n∧Nv w' v' l F∧(∀k∈F,w.heap.size≤k):=by
 obtain ⟨l,hc,hn⟩:=h;obtain ⟨F,hr,hf⟩:=hn.rv;exact ⟨l,F,hc,⟨hr,hc.lt⟩,hf⟩
theorem NNew.mod {w w':Y} {n:Nat} {v':M} (h:NNew w n w' v'):Mod [] w w':=by obtain ⟨l,_,hn⟩:=h;exact hn.mod
theorem NNew.later {w w1 w2:Y} {n:Nat} {v:M} (h:NNew w n w1 v) (m:Mod [] w1 w2):NNew w n w2 v:=by obtain ⟨l,hc,hn⟩:=h;exact ⟨l,hc,hn.later m⟩
theorem NNew.after {w0 w w':Y} {n:Nat} {v':M} (h:NNew w n w' v') (m:Mod [] w0 w):NNew w0 n w' v':=by obtain ⟨l,hc,hn⟩:=h;exact ⟨l,hc,hn.after m⟩
theorem NNew.nil {w w':Y} (m:Mod [] w w'):NNew w 0 w' (W L 0 0):=⟨[],Can.nil _,NewV.nil 185 m⟩
theorem Tryz.infoQ:(Tryz.prog.info? 185).map (fun i=>(i.zero,i.size,i.bytes))=C (C (V U 0),1,8):=by kernel_rfl
theorem yx1 {w:Y} {v:M} {xs:List M} {F:List Nat} (h:Rv w v xs F) (h1:∀u∈xs,u.oneCell'=true) (hl:xs.length≤100000):
 D X 218 #[v] w fun e w'=>∃v',e=N v'∧NewV 185 w xs w' v':=by
 obtain ⟨A,cap,rfl,hc⟩:=h.shape;obtain ⟨i0,hi,hz0,hz1,hz2⟩:=info_parts Tryz.infoQ;have H:=z h;have H1:=z h1;clear h h1;generalize hn:xs.length=n at *;have HN:=z hn;clear hn;have heq:=fun (w:Y) (a:Option Addr) (n c:Nat)=>Go.Lib.run_eql_slice_nil (P:=X) w 86 185 a n c 0 0 J
 cases A with
 | none=>
  have h0:E (xs=[]):=by
   have h1:=H.out.src;rcases Nat.eq_zero_or_pos n with e | e
   ·exact List.eq_nil_of_length_eq_zero (by rw [HN.out,e])
   ·obtain ⟨a,e,_⟩:=h1 e;simp at e
  go_in;go_wp2_with fail;go_ret;refine ⟨_,rfl,?_⟩;rw [h0.out];exact NewV.nil 185 (Mod.refl _ _)
 | some a=>
  go_in;go_wp2_with (at_builtin;refine Xq _ rfl _ _ 86 rfl 185 i0 (.int U 0) 1 8 J hi hz0 hz1 hz2 rfl (zi) _ 0 [] [w.heap.size] rfl (Sl.lit w 185 1 0 #[] (zx) rfl) (C a) n cap xs rfl (xl) (H.out.mod (S:=[]) (zg) (ze)).src H1.out (zx) (zc) ?_;intro v' w1 F' hs1 hm1 hf1);go_ret;exact ⟨_,rfl,NewV.of_empty hs1 HN.out hm1 hf1⟩
theorem Z9 {p:Prop} (h:p:=by
 go_wp2_with fail;refine FIN.out.mono ?_;rintro e w' ⟨v',rfl,hnn⟩;have HNN:=z hnn;clear hnn;go_wp2;go_ret
 exact ⟨_,rfl,HNN.out⟩):p:=h
theorem zt6 {w:Y} {v:M} {l F:List Nat} (h:Nv w v l F) (hl:l.length≤100000):
 D X 201 #[v] w fun e w'=>∃v',e=N v'∧NNew w (vl B64 l) w' v':=by
 obtain ⟨A,cap,rfl,hc⟩:=h.1.shape;have H:=z h;clear h;rw [d] at *;generalize hn:l.length=n at *;have HN:=z hn;clear hn;go_in;go_wp2_with fail
 go_loopw [3] (fun i wr=>∃k:Nat,i=V Ω k∧k≤n∧E (vl B64 (l.take k)=vl B64 l)∧wr=w) (fun i _=>(intOf i).toNat)
 case atStart=>exact ⟨n,rfl,K _,by show _=_;rw [f (by rw [HN.out];exact K _)],rfl⟩
 case round=>
  obtain ⟨k,rfl,hk,HV,rfl⟩:=hrel
  have fin:E (k=0∨(∃h:k - 1 < l.length,l[k - 1]≠0)→D X 218 #[W A k cap] wr fun e w'=>∃v',e=N v'∧NNew wr (vl B64 l) w' v'):=fun hz=>by
   have hc2:Can B64 (l.take k) (vl B64 l):=Can.norm H.out.2 (by rw [HN.out];exact hk) HV.out hz;have hr:=H.out.1.take k hk;rw [←List.map_take] at hr;refine (yx1 hr (yG2 _) (by rw [d,List.length_take];omega)).mono ?_;rintro e w' ⟨v',he,hnv⟩;exact ⟨v',he,_,hc2,hnv⟩
  by_cases h0:0 < k
  ·obtain ⟨j,rfl⟩:∃j,k=j+1:=⟨k - 1,zc⟩;have hj:j < l.length:=xl;obtain ⟨b1,o1,rfl,d1⟩:=H.out.1.at j (by rw [d];exact hj);rw [R] at d1;unfold e6 at d1;by_cases hz:l[j]=0
   ·rw [hz] at d1;have HV2:E (vl B64 (l.take j)=vl B64 l):=ya0 hj HV.out hz;clear hz;go_wp2_with fail;go_roundw
    case rel=>exact ⟨j,by go_num,zc,HV2,xv⟩
    case measure=>simp [intOf]
   ·have hzb:(((l[j]:Nat):Int)==0)=false:=zo;have FIN:=z (fin.out (.inr ⟨hj,hz⟩));clear fin hz;generalize (l[j]:Int)=x at *;exact Z9
  ·obtain rfl:k=0:=zc;have FIN:=z (fin.out (.inl rfl));clear fin;exact Z9
open Go.RowKit Go.Shelf
theorem Yd {p:Prop} (h:p:=by
 go_in;go_wp2;go_ret
 exact ⟨by first | rfl | (rw [HQ.out];rfl),rfl⟩):p:=h
theorem yo2 (A:Option Addr) (n cap:Nat) (w:Y):D X 257 #[W A n cap] w fun e w'=>e=N (.bool (decide (n≤64)))∧w=w':=by
 have h:decide ((n:Int)≤64)=decide (n≤64):=by
  by_cases q:n≤64
  ·rw [decide_eq_true q,decide_eq_true (zc)]
  ·rw [decide_eq_false q,decide_eq_false (zc)]
 by_cases q:n≤64
 ·have q':(n:Int)≤64:=zc;have HQ:=z (decide_eq_true q);exact Yd
 ·have q':¬(n:Int)≤64:=zc;have HQ:=z (decide_eq_false q);exact Yd
theorem Yc {p:Prop} (h:p:=by
 refine ⟨A1,A2,c1,c2,m1,m2,?_,K1.out,K2.out,QQ.out⟩
 rw [←D1.out,←D2.out,HN1.out,HN2.out,T1.out,T2.out];rfl):p:=h
theorem yn0 {w:Y} {v1 v2:M} {l1 l2 F1 F2:List Nat} (h1:Nv w v1 l1 F1) (h2:Nv w v2 l2 F2) (hl1:l1.length≤100000) (hl2:l2.length≤100000):
 D X 245 #[v1,v2] w fun e w'=>∃(A1 A2:Option Addr) (c1 c2:Nat) (m1 m2:List Nat),e=N (Θ #[W A1 m1.length c1,W A2 m2.length c2,.bool (decide (vl B64 l1 < lim) && decide (vl B64 l2 < lim))])∧
  Can B64 m1 (vl B64 l1)∧Can B64 m2 (vl B64 l2)∧NewV 185 w (m1.map e6) w' (W A1 m1.length c1)∧(∃F2',Rv w' (W A2 m2.length c2) (m2.map e6) F2'∧∀k∈F2',w.heap.size≤k)∧(∃F1',Sl w' 185 1 (W A1 m1.length c1) m1.length (m1.map e6) F1'∧(∀k∈F1',w.heap.size≤k)∧∃F2',Rv w' (W A2 m2.length c2) (m2.map e6) F2'∧(∀k∈F2',w.heap.size≤k∧k∉F1')):=by
 have H1:=z h1;have H2:=z h2;have L2:=z hl2;have C1:=z (zt6 h1 hl1);clear h1 h2 hl1 hl2;go_in;go_wp2_with fail;refine C1.out.mono ?_;rintro e w1 ⟨u1,rfl,m1,hc1,n1⟩;have N1:=z n1;have K1:=z hc1;have C2:=z (zt6 (H2.out.mod n1.mod (ze)) L2.out);obtain ⟨A1,c1,rfl⟩:=n1.shape;clear n1 hc1;have E1:E ((m1.map e6).length=m1.length):=d _;rw [E1.out] at N1 ⊢;go_wp2_with fail;refine C2.out.mono ?_;rintro e w2 ⟨u2,rfl,m2,hc2,n2⟩;have N2:=z n2;have K2:=z hc2;obtain ⟨A2,c2,rfl⟩:=n2.shape;clear n2 hc2;have E2:E ((m2.map e6).length=m2.length):=d _;rw [E2.out] at N2 ⊢;have D1:E (decide (m1.length≤64)=decide (vl B64 l1 < lim)):=by show _=_;rw [decide_eq_decide];exact K1.out.fits64
 have D2:E (decide (m2.length≤64)=decide (vl B64 l2 < lim)):=by show _=_;rw [decide_eq_decide];exact K2.out.fits64
 have FT:=z yo2
 have fin:E (NewV 185 w (m1.map e6) w2 (W A1 m1.length c1)∧(∃F2',Rv w2 (W A2 m2.length c2) (m2.map e6) F2'∧∀k∈F2',w.heap.size≤k)∧(∃F1',Sl w2 185 1 (W A1 m1.length c1) m1.length (m1.map e6) F1'∧(∀k∈F1',w.heap.size≤k)∧∃F2',Rv w2 (W A2 m2.length c2) (m2.map e6) F2'∧(∀k∈F2',w.heap.size≤k∧k∉F1'))):=by
  obtain ⟨F1',s1,q1,f1⟩:=N1.out;obtain ⟨F2',r2,f2⟩:=N2.out.rv;have hs:=q1.size;have s1':=s1.mod N2.out.mod (ze);rw [E1.out] at s1';exact ⟨N1.out.later N2.out.mod,⟨F2',r2,fun k hk=>Δ hs (f2 k hk)⟩,F1',s1',f1,F2',r2,fun k hk=>⟨Δ hs (f2 k hk),fun hm=>by have:=s1.lt k hm;have:=f2 k hk;omega⟩⟩
 obtain ⟨n1,hn1⟩:∃q,m1.length=q:=⟨_,rfl⟩;obtain ⟨n2,hn2⟩:∃q,m2.length=q:=⟨_,rfl⟩;have HN1:=z hn1;have HN2:=z hn2;rw [hn1,hn2];have QQ:=z fin.out;clear fin N1 N2 C1 C2 hn1 hn2;by_cases q1:n1≤64
 ·have T1:=z (decide_eq_true q1);go_wp2_with fail;refine (FT.out _ _ _ _).mono ?_;rw [T1.out];rintro e w3 ⟨rfl,rfl⟩;go_wp2_with fail;refine (FT.out _ _ _ _).mono ?_;rintro e w3 ⟨rfl,rfl⟩;by_cases q2:n2≤64
  ·have T2:=z (decide_eq_true q2);rw [T2.out];go_wp2
   go_returns
   exact Yc
  ·have T2:=z (decide_eq_false q2);rw [T2.out];go_wp2
   go_returns
   exact Yc
 ·have T1:=z (decide_eq_false q1);go_wp2_with fail;refine (FT.out _ _ _ _).mono ?_;rw [T1.out];rintro e w3 ⟨rfl,rfl⟩;go_wp2
  go_returns
  refine ⟨A1,A2,c1,c2,m1,m2,?_,K1.out,K2.out,QQ.out⟩;rw [←D1.out,←D2.out,HN1.out,HN2.out,T1.out];rfl
def Told (w:Y) (ok:Bool) (n:Nat) (e:Ending) (w':Y):Prop:=
 (ok=true∧∃v',e=N (Θ #[v',.bool true])∧NNew w n w' v')∨(ok=false∧e=N (Θ #[W L 0 0,.bool false])∧Mod [] w w')
theorem Told.after {w0 w w':Y} {ok:Bool} {n:Nat} {e:Ending} (h:Told w ok n e w') (m:Mod [] w0 w):Told w0 ok n e w':=by
 rcases h with ⟨h1,v',h2,h3⟩ | ⟨h1,h2,h3⟩
 ·exact .inl ⟨h1,v',h2,h3.after m⟩
 ·exact .inr ⟨h1,h2,m.trans h3 (ze)⟩
theorem ym9 {w:Y} {v:M} {l F:List Nat} (h:Nv w v l F) (hl:l.length≤100000):
 D X 248 #[v] w fun e w'=>Told w (decide (vl B64 l < lim)) (vl B64 l) e w':=by
 have C1:=z (zt6 h hl);clear h hl;go_in;go_wp2_with fail;refine C1.out.mono ?_;rintro e w1 ⟨u1,rfl,m1,hc1,n1⟩;have N1:=z n1;have K1:=z hc1;obtain ⟨A1,c1,rfl⟩:=n1.shape;clear n1 hc1;have E1:E ((m1.map e6).length=m1.length):=d _;rw [E1.out] at N1 ⊢;have FT:=z yo2;obtain ⟨n1,hn1⟩:∃q,m1.length=q:=⟨_,rfl⟩;have HN1:=z hn1;rw [hn1] at N1 ⊢;clear hn1;by_cases q1:n1≤64
 ·have T1:=z (decide_eq_true q1);have T:E (decide (vl B64 l < lim)=true):=decide_eq_true (K1.out.fits64.1 (by rw [HN1.out];exact q1));go_wp2_with fail;refine (FT.out _ _ _ _).mono ?_;rw [T1.out];rintro e w3 ⟨rfl,rfl⟩;go_wp2;go_ret2;exact .inl ⟨T.out,_,rfl,m1,K1.out,N1.out⟩
 ·have T1:=z (decide_eq_false q1);have T:E (decide (vl B64 l < lim)=false):=decide_eq_false (fun q=>q1 (by rw [←HN1.out];exact K1.out.fits64.2 q));go_wp2_with fail;refine (FT.out _ _ _ _).mono ?_;rw [T1.out];rintro e w3 ⟨rfl,rfl⟩;go_wp2;go_ret2;exact .inr ⟨T.out,rfl,N1.out.mod⟩
theorem zk9 (x y c:Nat) (hc:c≤1) (w:Y):
 (callFunc 247 #[V U x,V U y,V U c]).run X w=
  .ok (.value (Θ #[V U (((x+y+c) % 18446744073709551616:Nat):Int),V U (((x+y+c) / 18446744073709551616:Nat):Int)])) w:=by
 rw [run_callFunc_extern Tryz.func247 (by kernel_rfl) (by kernel_rfl) (by kernel_rfl) (e:=add64Entry) (by kernel_rfl),run_add64 x y c (zc) (zc) (zc) (zc)];simp only [Result.andThen]
 congr 5<;>omega
open Go.RowKit Go.Shelf
theorem yy0 (o:List Nat) (m x:Nat):(o++O (m+1) 0).set o.length x=(o++[x])++O m 0:=by
 rw [List.set_append_right _ _ (K _),Γ,List.replicate_succ,List.set_cons_zero];simp
theorem Sl.zeros (w:Y) (n g:Nat) (hg:g=w.heap.size) (hm:n≤maxLen):Sl (w.alloc (B (madeCells #[V U 0] n) 185)) 185 1 (W (C ⟨g,0,L⟩) n n) n ((O n 0).map e6) [g]:=by
 subst hg;have h:=Sl.made w 185 1 n #[V U 0] hm;rw [Nat.mul_one] at h
 have e:(madeCells #[Value.int U 0] n).toList=(O n 0).map e6:=by
  apply List.ext_getElem?;intro i;rw [List.map_replicate];by_cases hi:i < n
  ·rw [I,if_pos hi,Array.getElem?_toList];have h2:=(Row.made w n (V U 0) 185 w.heap.size rfl);obtain ⟨A,hb,hs,hA⟩:=h2;have hb2:Blk (w.alloc (B (madeCells #[V U 0] n) 185)) w.heap.size (madeCells #[V U 0] n) 185:=Blk.new _ _ _
   have:A=madeCells #[V U 0] n:=by
    unfold Blk at hb hb2;rw [hb] at hb2;simpa using hb2
   rw [←this,hA i hi];rfl
  ·rw [Z (by simp [size_madeCells];omega),Z (zj)]
 rw [e] at h;exact h
theorem yh9 (o:List Nat) (k x y c va vb:Nat) (ho:o.length=k) (h:vl B64 o+B64 ^ k *c=va+vb):
 vl B64 (o++[(x+y+c) % B64])+B64 ^ (k+1) *((x+y+c) / B64)=(va+B64 ^ k *x)+(vb+B64 ^ k *y):=by
 rw [zd8,ho,Nat.pow_succ,Nat.mul_assoc,Nat.add_assoc,←Ψ,Nat.mod_add_div,Ψ,Ψ];omega
theorem Xv (b:Nat) (l:List Nat) (k:Nat):vl b (l.take (k+1))=vl b (l.take k)+b ^ k *l.getD k 0:=by
 by_cases h:k < l.length
 ·rw [zi4 b l h,r,Q h];rfl
 ·rw [f (zc),f (zc),r,Z (zc)];simp
theorem zu1 (w:Y) (n:Nat) (hn:n≤10000):(G 86 (V Ω n) (V Ω n)).run X w=.ok (W (C ⟨w.heap.size,0,L⟩) n n) (w.alloc (B (madeCells #[V U 0] n) 185)):=by
 obtain ⟨i0,hi,hz0,hz1,hz2⟩:=info_parts Tryz.infoQ;have:=run_make (P:=X) w 86 185 i0 _ J hi hz0 Ω Ω n n (zc) (zc) (ye) (zc);simpa [hz1,Value.cells] using this
structure Fill (w1:Y) (g n:Nat) (wr:Y) (o:List Nat):Prop where
 lt:∀x∈o,x < B64
 len:o.length≤n
 sl:Sl wr 185 1 (W (C ⟨g,0,L⟩) n n) n ((o++O (n - o.length) 0).map e6) [g]
 mod:Mod [] w1 wr
 new:w1.heap.size≤g
theorem Fill.start {w1:Y} {g n:Nat} (hg:g=w1.heap.size) (hn:n≤maxLen):Fill w1 g n (w1.alloc (B (madeCells #[V U 0] n) 185)) []:=
 ⟨ze,ze,by simpa using Sl.zeros w1 n g hg hn,(Mod.refl _ _).alloc _,zc⟩
theorem Fill.put {w1 wr:Y} {g n k:Nat} {o:List Nat} (h:Fill w1 g n wr o) (hk:o.length=k) (hn:k < n) (x:Nat) (hx:x < B64):Fill w1 g n (wr.setCell ⟨g,k,L⟩ (e6 x)) (o++[x]):=by
 subst hk;refine ⟨fun y hy=>?_,zj,?_,h.mod.setCell _ _ (fun q=>by have:=h.new;simp at q;omega),h.new⟩
 ·rcases List.mem_append.1 hy with q | q
  ·exact h.lt y q
  ·simp at q;rw [q];exact hx
 ·have h1:=h.sl.set o.length (e6 x);rw [←List.map_set,show n - o.length=(n - (o.length+1))+1 from zc,yy0] at h1;simpa using h1
theorem Fill.at {w1 wr:Y} {g n k:Nat} {o:List Nat} (h:Fill w1 g n wr o) (hk:o.length=k) (hn:k < n):wr.cell? ⟨g,k,L⟩=C (V U 0)∧wr.frozen? ⟨g,k,L⟩=false:=by
 have h1:=h.sl.at k (zc);refine ⟨?_,h1.2.1⟩;rw [h1.1,List.getElem?_map,List.getElem?_append_right (zc),I,if_pos (zc)];rfl
theorem Fill.full {w1 wr:Y} {g n:Nat} {o:List Nat} (h:Fill w1 g n wr o) (hk:o.length=n):NewV 185 w1 (o.map e6) wr (W (C ⟨g,0,L⟩) n n):=by
 refine ⟨[g],?_,h.mod,fun k hk=>by simp at hk;subst hk;exact h.new⟩;have h1:=h.sl;rw [hk,Γ] at h1;rw [d,hk];simpa using h1
structure AInv (w1:Y) (g n:Nat) (mA mB:List Nat) (wr:Y) (k c:Nat) (o:List Nat):Prop where
 fill:Fill w1 g n wr o
 len:o.length=k
 carry:c≤1
 val:vl B64 o+B64 ^ k *c=vl B64 (mA.take k)+vl B64 (mB.take k)
theorem AInv.step {w1 wr:Y} {g n k c:Nat} {mA mB o:List Nat} (h:AInv w1 g n mA mB wr k c o) (hn:k < n) (hA:∀x∈mA,x < B64) (hB:∀x∈mB,x < B64):
 AInv w1 g n mA mB (wr.setCell ⟨g,k,L⟩ (e6 ((mA.getD k 0+mB.getD k 0+c) % B64))) (k+1) ((mA.getD k 0+mB.getD k 0+c) / B64) (o++[(mA.getD k 0+mB.getD k 0+c) % B64]):=by
 have hd:∀l:List Nat,(∀x∈l,x < B64)→l.getD k 0 < B64:=fun l hl=>by
  rw [r];by_cases q:k < l.length
  ·rw [Q q];exact hl _ (Φ _)
  ·rw [Z (zc)];unfold B64;simp
 have h1:=hd mA hA;have h2:=hd mB hB;have h3:=h.carry;refine ⟨h.fill.put h.len hn _ (Nat.mod_lt _ (zV)),by simp [h.len],?_,?_⟩
 ·have:(mA.getD k 0+mB.getD k 0+c) / B64 < 2:=by rw [Nat.div_lt_iff_lt_mul (zV)];omega
  omega
 ·rw [Xv,Xv];exact yh9 o k _ _ c _ _ h.len h.val
theorem Yb {p:Prop} (h:p:=by
 go_wp2_with fail;go_roundw
 case rel=>exact ⟨k+1,t,o++[s],by go_num,rfl,zc,st.out⟩
 case measure=>simp [intOf];omega):p:=h
theorem Z6 {p:Prop} (h:p:=by
 clear RB1;have ra:=RB.out x 0 c hc;rw [HX.out,HY.out] at st;unfold B64 at st;obtain ⟨s,hs⟩:∃s,(x+0+c) % 18446744073709551616=s:=⟨_,rfl⟩;obtain ⟨t,ht⟩:∃t,(x+0+c) / 18446744073709551616=t:=⟨_,rfl⟩;rw [hs,ht] at st ra;clear hs ht RB;replace ra:∀w,(callFunc 247 #[V U x,V U 0,V U c]).run X w=.ok (.value (Θ #[V U (s:Int),V U (t:Int)])) w:=ra
 exact Yb):p:=h
theorem Z7 {p:Prop} (h:p:=by
 rw [hyy] at d2;have HY:=z hyy;clear hyy hyB RB1;have ra:=RB.out x y c hc;rw [HX.out,HY.out] at st;unfold B64 at st;obtain ⟨s,hs⟩:∃s,(x+y+c) % 18446744073709551616=s:=⟨_,rfl⟩;obtain ⟨t,ht⟩:∃t,(x+y+c) / 18446744073709551616=t:=⟨_,rfl⟩;rw [hs,ht] at st ra;clear hs ht RB
 exact Yb):p:=h
theorem Z8 {p:Prop} (h:p:=by
 have FIN:=z (fin.out wr o c HI.out HI.out.carry);clear fin RA1 RB1 hx HI RA RB;go_wp2_with fail;refine FIN.out.mono ?_;rintro e w4 (⟨ht,v',rfl,hn⟩ | ⟨ht,rfl,hm⟩)
 ·have HT:=z ht;have HN:=z hn;clear ht hn;go_wp2;go_ret2;exact .inl ⟨HT.out,_,rfl,HN.out⟩
 ·have HT:=z ht;have HM:=z hm;clear ht hm;go_wp2;go_ret2
  exact .inr ⟨HT.out,rfl,HM.out⟩):p:=h
theorem Ya {p:Prop} (h:p:=by
 have h2:=h1.full (wk);obtain ⟨F,h3,_⟩:=h2.rv;rw [←hv]
 exact (ym9 ⟨h3,h1.lt⟩ (wl)).mono fun e w' h=>h.after (MM.out.trans h2.mod (ze))):p:=h
theorem yN0 {w:Y} {v1 v2:M} {l1 l2 F1 F2:List Nat} (h1:Nv w v1 l1 F1) (h2:Nv w v2 l2 F2) (hl1:l1.length≤100000) (hl2:l2.length≤100000):
 D X 244 #[v1,v2] w fun e w'=>Told w (decide (vl B64 l1+vl B64 l2 < lim)) (vl B64 l1+vl B64 l2) e w':=by
 have CB:=z (yn0 h1 h2 hl1 hl2);have RA:=z zk9;generalize vl B64 l1=va at *;generalize vl B64 l2=vb at *;clear h1 h2 hl1 hl2;go_in;go_wp2_with fail;refine CB.out.mono ?_;rintro e w1 ⟨A1,A2,c1,c2,m1,m2,rfl,k1,k2,n1,⟨F2',r2,f2⟩,-⟩;have MM:=z n1.mod;have K1:=z k1;have K2:=z k2;have R2:=z r2;obtain ⟨F1',r1,f1⟩:=n1.rv;have R1:=z r1;clear CB n1 k1 k2 r1 r2 f1 f2;obtain ⟨ok,hok⟩:∃q,(decide (va < lim) && decide (vb < lim))=q:=⟨_,rfl⟩;have OK:=z hok;rw [hok];clear hok;cases ok with
 | false=>
  have NO:E (decide (va+vb < lim)=false):=by
   have h:=OK.out;rw [Bool.and_eq_false_iff,decide_eq_false_iff_not,decide_eq_false_iff_not] at h;show _=_;rw [decide_eq_false_iff_not];omega
  go_wp2;go_ret2;exact .inr ⟨NO.out,rfl,MM.out⟩
 | true=>
  have B1:E (m1.length≤64):=by
   have h:=OK.out;rw [Bool.and_eq_true,decide_eq_true_iff,decide_eq_true_iff] at h;exact K1.out.fits64.2 h.1
  have B2:E (m2.length≤64):=by
   have h:=OK.out;rw [Bool.and_eq_true,decide_eq_true_iff,decide_eq_true_iff] at h;exact K2.out.fits64.2 h.2
  clear OK;obtain ⟨n1,hn1⟩:∃q,m1.length=q:=⟨_,rfl⟩;obtain ⟨n2,hn2⟩:∃q,m2.length=q:=⟨_,rfl⟩;rw [hn1] at B1;rw [hn2] at B2;have b1:=B1.out;have b2:=B2.out;rw [hn1] at R1;rw [hn2] at R2;rw [hn1,hn2];have HN1:=z hn1;have HN2:=z hn2;clear hn1 hn2 B1 B2;by_cases hs:(n1:Int) < n2
  ·have hle:n1≤n2:=zc;have hmk:∀w,(G 86 (V Ω ((n2:Int)+1)) (V Ω ((n2:Int)+1))).run X w=.ok (W (C ⟨w.heap.size,0,L⟩) (n2+1) (n2+1)) (w.alloc (B (madeCells #[V U 0] (n2+1)) 185)):=fun w=>zu1 w (n2+1) (zc)
   obtain ⟨g,hg⟩:∃g,w1.heap.size=g:=⟨_,rfl⟩;have HG:=z hg
   have fin:E (∀wr:Y,∀o:List Nat,∀c:Nat,AInv w1 g (n2+1) m2 m1 wr n2 c o→c≤1→
    D X 248 #[W (C ⟨g,0,L⟩) (n2+1) (n2+1)] (wr.setCell ⟨g,n2,L⟩ (V U c)) fun e w'=>Told w (decide (va+vb < lim)) (va+vb) e w'):=fun wr o c hi hc=>by
    have h1:=hi.fill.put hi.len (Ξ _) c (zV)
    have hv:vl B64 (o++[c])=va+vb:=by
     rw [zd8,hi.len,hi.val,←K1.out.val,←K2.out.val,show m2.take n2=m2 from f (by rw [HN2.out];exact K _),show m1.take n2=m1 from f (by rw [HN1.out];exact hle)]
     try omega
    exact Ya
   go_wp2_with fail
   go_loopw [34,8] (fun i v8 wr=>∃(k c:Nat) (o:List Nat),i=V Ω k∧v8=V U c∧k≤n2∧E (AInv w1 g (n2+1) m2 m1 wr k c o)) (fun i _ _=>n2 - (intOf i).toNat)
   case atStart=>exact ⟨0,0,[],rfl,rfl,ω _,⟨Fill.start hg.symm (zx),rfl,zc,by simp [vl]⟩⟩
   case round=>
    obtain ⟨k,c,o,rfl,rfl,hk,HI⟩:=hrel;have hx:=HI.out.fill.at HI.out.len (zc);have x0:=hx.1;have x1:=hx.2;have hc:=HI.out.carry;have RA1:=R2.out.mod HI.out.fill.mod (ze);have RB1:=R1.out.mod HI.out.fill.mod (ze);have RB:=RA;by_cases hkA:k < n2
    ·have st:=z (HI.out.step (zc) K2.out.lt K1.out.lt);obtain ⟨b1,o1,rfl,d1⟩:=RA1.at k (by rw [d,HN2.out];exact hkA);have hxA:m2.getD k 0=m2[k]'(by rw [HN2.out];exact hkA):=xi;rw [R,←hxA] at d1;unfold e6 at d1;obtain ⟨x,hxx⟩:∃x,m2.getD k 0=x:=⟨_,rfl⟩;rw [hxx] at d1;have HX:=z hxx;clear hxx hxA RA1 hx HI RA;by_cases hkB:k < n1
     ·obtain ⟨b2,o2,rfl,d2⟩:=RB1.at k (by rw [d,HN1.out];exact hkB);have hyB:m1.getD k 0=m1[k]'(by rw [HN1.out];exact hkB):=xi;rw [R,←hyB] at d2;unfold e6 at d2;obtain ⟨y,hyy⟩:∃y,m1.getD k 0=y:=⟨_,rfl⟩;exact Z7
     ·have HY:E (m1.getD k 0=0):=by show _=_;rw [r,Z (by rw [HN1.out];omega)];rfl
      exact Z6
    ·obtain rfl:k=n2:=zc;exact Z8
  ·have hle:n2≤n1:=zc;have hmk:∀w,(G 86 (V Ω ((n1:Int)+1)) (V Ω ((n1:Int)+1))).run X w=.ok (W (C ⟨w.heap.size,0,L⟩) (n1+1) (n1+1)) (w.alloc (B (madeCells #[V U 0] (n1+1)) 185)):=fun w=>zu1 w (n1+1) (zc)
   obtain ⟨g,hg⟩:∃g,w1.heap.size=g:=⟨_,rfl⟩;have HG:=z hg
   have fin:E (∀wr:Y,∀o:List Nat,∀c:Nat,AInv w1 g (n1+1) m1 m2 wr n1 c o→c≤1→
    D X 248 #[W (C ⟨g,0,L⟩) (n1+1) (n1+1)] (wr.setCell ⟨g,n1,L⟩ (V U c)) fun e w'=>Told w (decide (va+vb < lim)) (va+vb) e w'):=fun wr o c hi hc=>by
    have h1:=hi.fill.put hi.len (Ξ _) c (zV)
    have hv:vl B64 (o++[c])=va+vb:=by
     rw [zd8,hi.len,hi.val,←K1.out.val,←K2.out.val,show m1.take n1=m1 from f (by rw [HN1.out];exact K _),show m2.take n1=m2 from f (by rw [HN2.out];exact hle)]
     try omega
    exact Ya
   go_wp2_with fail
   go_loopw [34,8] (fun i v8 wr=>∃(k c:Nat) (o:List Nat),i=V Ω k∧v8=V U c∧k≤n1∧E (AInv w1 g (n1+1) m1 m2 wr k c o)) (fun i _ _=>n1 - (intOf i).toNat)
   case atStart=>exact ⟨0,0,[],rfl,rfl,ω _,⟨Fill.start hg.symm (zx),rfl,zc,by simp [vl]⟩⟩
   case round=>
    obtain ⟨k,c,o,rfl,rfl,hk,HI⟩:=hrel;have hx:=HI.out.fill.at HI.out.len (zc);have x0:=hx.1;have x1:=hx.2;have hc:=HI.out.carry;have RA1:=R1.out.mod HI.out.fill.mod (ze);have RB1:=R2.out.mod HI.out.fill.mod (ze);have RB:=RA;by_cases hkA:k < n1
    ·have st:=z (HI.out.step (zc) K1.out.lt K2.out.lt);obtain ⟨b1,o1,rfl,d1⟩:=RA1.at k (wm);have hxA:m1.getD k 0=m1[k]'(by rw [HN1.out];exact hkA):=xi;rw [R,←hxA] at d1;unfold e6 at d1;obtain ⟨x,hxx⟩:∃x,m1.getD k 0=x:=⟨_,rfl⟩;rw [hxx] at d1;have HX:=z hxx;clear hxx hxA RA1 hx HI RA;by_cases hkB:k < n2
     ·obtain ⟨b2,o2,rfl,d2⟩:=RB1.at k (by rw [d,HN2.out];exact hkB);have hyB:m2.getD k 0=m2[k]'(by rw [HN2.out];exact hkB):=xi;rw [R,←hyB] at d2;unfold e6 at d2;obtain ⟨y,hyy⟩:∃y,m2.getD k 0=y:=⟨_,rfl⟩;exact Z7
     ·have HY:E (m2.getD k 0=0):=by show _=_;rw [r,Z (by rw [HN2.out];omega)];rfl
      exact Z6
    ·obtain rfl:k=n1:=zc;exact Z8
open Go.RowKit Go.Shelf
theorem yN4 (n:Nat) (hn:n < B64) (w:Y):D X 217 #[V U n] w fun e w'=>∃v',e=N v'∧NNew w n w' v':=by
 have hv:vl B64 [n]=n:=by simp [vl]
 have hs:=Sl.lit w 185 1 1 #[.int U n] (zx) rfl;have C1:=z (zt6 (w:=w.alloc (B #[V U n] 185)) (v:=W (C ⟨w.heap.size,0,L⟩) 1 1) (l:=[n]) ⟨Rv.of_sl (l:=[n].map e6) hs rfl,by simp;exact hn⟩ (ze));rw [hv] at C1;clear hv hs hn;go_in;go_wp2_with fail;refine C1.out.mono ?_;rintro e w' ⟨v',rfl,hnn⟩;have HNN:=z hnn;clear hnn;go_wp2;go_ret;exact ⟨_,rfl,HNN.out.after ((Mod.refl _ _).alloc _)⟩
theorem zC6 {l:List Nat} (h:∀x∈l,x < B64) (k:Nat):l.getD k 0 < B64:=by
 rw [r];by_cases q:k < l.length
 ·rw [Q q];exact h _ (Φ _)
 ·rw [Z (zc)];unfold B64;simp
end Go.Proofs.YtbnpoapmnkfhkaaGreatDoor
