import Derived.Test.YtbnpoapmnkfhkaaGreatDoorZt08
import Derived.Deep.RegionLaw
import Derived.Deep.RegionHeld3
set_option maxRecDepth 100000
set_option maxHeartbeats 4000000
set_option linter.unusedVariables false
set_option linter.unusedSimpArgs false
namespace Go.Proofs.YtbnpoapmnkfhkaaGreatDoor
open Go.Value renaming int → z, pointer → U, slice → I, bool → D, tuple → Φ
open Option renaming none → y, some → s
open Go.IntKind renaming u8 → Z, u32 → Y, i64 → G
open Go.Lib renaming hid → V
open Go.Proofs.Tryz renaming prog → Q
open Go.World renaming block_lt_of_cell? → O
open Go renaming World → K, Calls → Ω
open Go.Ending renaming returned → J
open Go.Obj renaming cells → H
open Go.Proofs.YtbnpoapmnkfhkaaGreatDoor.Mod renaming refl → E
open Go.Proofs.YtbnpoapmnkfhkaaGreatDoor renaming Mod → C
open Nat renaming lt_of_lt_of_le → Ψ, pow_le_pow_right → Ξ, le_trans → Θ
open Go.RowKit
def Hd (w:K) (b g n c:Nat):Prop:=∃cap,Blk w b #[I (s ⟨g,0,y⟩) n cap,z G c] 215
theorem Hd.own {w:K} {b g n c:Nat} (h:Hd w b g n c):∃cap,w.cell? ⟨b,0,y⟩=s (I (s ⟨g,0,y⟩) n cap)∧w.cell? ⟨b,1,y⟩=s (z G c)∧∀i,w.frozen? ⟨b,i,y⟩=false:=by
 obtain ⟨cap,hb⟩:=h;exact ⟨cap,yj,yj,fun i=>hb.froz i⟩
theorem Hd.lt {w:K} {b g n c:Nat} (h:Hd w b g n c):b < w.heap.size:=by obtain ⟨_,hb⟩:=h;exact hb.lt
theorem Hd.mod {S:List Nat} {w w':K} {b g n c:Nat} (h:Hd w b g n c) (m:C S w w') (hn:b∉S):Hd w' b g n c:=by
 obtain ⟨cap,hb⟩:=h;exact ⟨cap,hb.mod m hn⟩
theorem Hd.count {w:K} {b g n c:Nat} (h:Hd w b g n c) (c':Nat):Hd (w.setCell ⟨b,1,y⟩ (z G c')) b g n c':=by
 obtain ⟨cap,hb⟩:=h;exact ⟨cap,hb.set _ _⟩
theorem Hd.slots {w:K} {b g n c:Nat} (h:Hd w b g n c) (g' n' cap':Nat):Hd (w.setCell ⟨b,0,y⟩ (I (s ⟨g',0,y⟩) n' cap')) b g' n' c:=by
 obtain ⟨cap,hb⟩:=h;exact ⟨cap',hb.set _ _⟩
theorem Hd.drewN {w:K} {b g n c:Nat} (h:Hd w b g n c) (d:Nat):Hd (w.drewN d) b g n c:=h
theorem Tryz.infoT:(Tryz.prog.info? 294).map (fun i=>(i.zero,i.size,i.bytes))=s (s (.agg #[z Z 0,z Z 0,z Z 0,z Z 0,z Y 0,z Z 0,z Y 0,z Y 0,D false]),9,28):=by kernel_rfl
theorem yp7 (N:Nat) (h1:1≤N) (hN:N≤4194304) (w:K):(Instr.makeSlice 213 (z G N) (z G N)).run Q w=
 .ok (I (s ⟨w.heap.size,0,y⟩) N N) (w.alloc (H (madeCells #[z Z 0,z Z 0,z Z 0,z Z 0,z Y 0,z Z 0,z Y 0,z Y 0,D false] (N *9)) 294)):=by
 obtain ⟨i0,hi,hz0,hz1,hz2⟩:=info_parts Tryz.infoT;have:=run_make (P:=Q) w 213 294 i0 _ Tryz.underlying213 hi hz0 G G N N (zc) (zc) (ye) (zc);simpa [hz1,Value.cells] using this
theorem yG6 (w:K):
 Ω Q 57 #[] w fun e w'=>e=J (U (s ⟨w.heap.size+1,0,y⟩))∧Hd w' (w.heap.size+1) w.heap.size 8 0∧Tab w' w.heap.size 8 (fun _=>(rc0,0,false))∧C [] w w':=by
 have hmk:∀w,(Instr.makeSlice 213 (z G 8) (z G 8)).run Q w=.ok (I (s ⟨w.heap.size,0,y⟩) 8 8) (w.alloc (H (madeCells #[z Z 0,z Z 0,z Z 0,z Z 0,z Y 0,z Z 0,z Y 0,z Y 0,D false] (8 *9)) 294)):=yp7 8 (zc) (zc);go_in;go_wp2;go_ret;refine ⟨ze,⟨_,Blk.new' _ _ _ _ (ze)⟩,(Tab.made w 8 w.heap.size rfl).mod ((E [] _).alloc _) (ze),((E _ _).alloc _).alloc _⟩
theorem yG3 {w:K} {b g n c:Nat} {T:Xc} {R:Rc→Nat→Prop} {cc:Nat} (hH:Hd w b g n cc) (hT:Tab w g n T) (hw:IW n (hm n) T R c) (hc:c < n) (j:Nat) (hj:j≤20) (hn:n=2 ^ j) (hn2:2≤n) (k:Rc):
 Ω Q 179 #[U (s ⟨b,0,y⟩),rcv k] w fun e w'=>e=J (z G (Xu T n k n (hm n k)))∧C [] w w':=by
 obtain ⟨cap,c0,_⟩:=hH.own;exact yJ5 j n hj hn hn2 k b g cap T w c0 hT (hw.stops hc k)
theorem zP0 {w:K} {b g n c:Nat} {T:Xc} {R:Rc→Nat→Prop} {cc:Nat} (hH:Hd w b g n cc) (hT:Tab w g n T) (hw:IW n (hm n) T R c) (hc:c < n) (j:Nat) (hj:j≤20) (hn:n=2 ^ j) (hn2:2≤n) (k:Rc):
 ∀W,C [] w W→Ω Q 179 #[U (s ⟨b,0,y⟩),rcv k] W fun e w'=>e=J (z G (Xu T n k n (hm n k)))∧C [] W w':=
 fun W m=>yG3 (hH.mod m (ze)) (hT.mod m (ze)) hw hc j hj hn hn2 k
theorem zQ4 {w:K} {b g n:Nat} {T:Xc} {cap:Nat} (c0:w.cell? ⟨b,0,y⟩=s (I (s ⟨g,0,y⟩) n cap)) (k:Rc) (p:Nat) (hp:p < n) (hn:n≤1048576) (hT:Tab w g n T)
 (hf:∀W:K,C [] w W→Ω Q 179 #[U (s ⟨b,0,y⟩),rcv k] W fun e w'=>e=J (z G p)∧C [] W w') (o:Bool) (hid:(T p).2.2=o):
 Ω Q 208 #[U (s ⟨b,0,y⟩),rcv k] w fun e w'=>e=J (Φ #[z Y (if o=true then ((T p).2.1:Int) else 0),D o])∧C [] w w':=by
 obtain ⟨d0,d1,d2,d3,d4,d5,d6,d7,d8⟩:=hT.slot p hp;rw [hid] at d8;have hgl:=hT.lt;have hbl:=O w _ c0;have hgne:¬g=w.heap.size:=zc;simp only at hbl;have hbne:¬b=w.heap.size:=zc;clear hid hT;generalize (T p).2.1=tid at *;generalize (T p).1=tk at *;obtain ⟨kf,kt,kb,⟨klt,kla⟩,⟨kht,kha⟩⟩:=k;obtain ⟨tf,tt,tb,⟨tlt,tla⟩,⟨tht,tha⟩⟩:=tk;simp only at d0 d1 d2 d3 d4 d5 d6 d7 d8;obtain ⟨gk,hgk⟩:∃q,w.heap.size=q:=⟨_,rfl⟩;have KB:Hid (Blk (w.alloc (H #[z Z kf,z Z kt,z Z kb,z Z klt,z Y kla,z Z kht,z Y kha] 143)) gk #[z Z kf,z Z kt,z Z kb,z Z klt,z Y kla,z Z kht,z Y kha] 143):=Blk.new' _ _ _ _ hgk.symm;have M0:Hid (C [] w (w.alloc (H #[z Z kf,z Z kt,z Z kb,z Z klt,z Y kla,z Z kht,z Y kha] 143))):=(E _ _).alloc _
 have SOF:Hid (∀w',C [] (w.alloc (H #[z Z kf,z Z kt,z Z kb,z Z klt,z Y kla,z Z kht,z Y kha] 143)) w'→
  w'.cell? ⟨b,0,y⟩=s (I (s ⟨g,0,y⟩) n cap)∧w'.cell? ⟨g,p *9,y⟩=s (z Z tf)∧w'.cell? ⟨g,p *9+1,y⟩=s (z Z tt)∧w'.cell? ⟨g,p *9+2,y⟩=s (z Z tb)∧w'.cell? ⟨g,p *9+3,y⟩=s (z Z tlt)∧
  w'.cell? ⟨g,p *9+4,y⟩=s (z Y tla)∧w'.cell? ⟨g,p *9+5,y⟩=s (z Z tht)∧w'.cell? ⟨g,p *9+6,y⟩=s (z Y tha)∧w'.cell? ⟨g,p *9+7,y⟩=s (z Y tid)∧w'.cell? ⟨g,p *9+8,y⟩=s (D o)∧
  w'.cell? ⟨gk,0,y⟩=s (z Z kf)∧w'.cell? ⟨gk,1,y⟩=s (z Z kt)∧w'.cell? ⟨gk,2,y⟩=s (z Z kb)∧w'.cell? ⟨gk,3,y⟩=s (z Z klt)∧w'.cell? ⟨gk,4,y⟩=s (z Y kla)∧w'.cell? ⟨gk,5,y⟩=s (z Z kht)∧w'.cell? ⟨gk,6,y⟩=s (z Y kha)):=fun w' m=>by
  have mm:=M0.out.trans' m;have hc:∀i v,w.cell? ⟨g,i,y⟩=s v→w'.cell? ⟨g,i,y⟩=s v:=fun i v h=>(mm.cell (a:=⟨g,i,y⟩) hgl (ze)).trans h
  exact ⟨(mm.cell (a:=⟨b,0,y⟩) hbl (ze)).trans c0,hc _ _ d0,hc _ _ d1,hc _ _ d2,hc _ _ d3,hc _ _ d4,hc _ _ d5,hc _ _ d6,hc _ _ d7,hc _ _ d8,(KB.out.mod m (ze)).cells7⟩
 have FI:=V (fun W (m:C [] (w.alloc (H #[z Z kf,z Z kt,z Z kb,z Z klt,z Y kla,z Z kht,z Y kha] 143)) W)=>(hf W (M0.out.trans' m)).mono fun e w' (h:_∧C [] W w')=>(⟨h.1,h.2,SOF.out w' (m.trans' h.2),Ψ hgl (Θ (M0.out.trans' m).size h.2.size),Ψ hbl (Θ (M0.out.trans' m).size h.2.size),Ψ KB.out.lt (Θ m.size h.2.size),fun c ty hb=>hb.mod h.2 (ze)⟩:_∧C [] W w'∧(w'.cell? ⟨b,0,y⟩=s (I (s ⟨g,0,y⟩) n cap)∧w'.cell? ⟨g,p *9,y⟩=s (z Z tf)∧w'.cell? ⟨g,p *9+1,y⟩=s (z Z tt)∧w'.cell? ⟨g,p *9+2,y⟩=s (z Z tb)∧w'.cell? ⟨g,p *9+3,y⟩=s (z Z tlt)∧
  w'.cell? ⟨g,p *9+4,y⟩=s (z Y tla)∧w'.cell? ⟨g,p *9+5,y⟩=s (z Z tht)∧w'.cell? ⟨g,p *9+6,y⟩=s (z Y tha)∧w'.cell? ⟨g,p *9+7,y⟩=s (z Y tid)∧w'.cell? ⟨g,p *9+8,y⟩=s (D o)∧
  w'.cell? ⟨gk,0,y⟩=s (z Z kf)∧w'.cell? ⟨gk,1,y⟩=s (z Z kt)∧w'.cell? ⟨gk,2,y⟩=s (z Z kb)∧w'.cell? ⟨gk,3,y⟩=s (z Z klt)∧w'.cell? ⟨gk,4,y⟩=s (z Y kla)∧w'.cell? ⟨gk,5,y⟩=s (z Z kht)∧w'.cell? ⟨gk,6,y⟩=s (z Y kha))∧g < w'.heap.size∧b < w'.heap.size∧gk < w'.heap.size∧(∀c ty,Blk W (gk+1) c ty→Blk w' (gk+1) c ty)))
 have S0:=SOF.out _ (E _ _);clear hf c0 d0 d1 d2 d3 d4 d5 d6 d7 d8;unfold rcv at FI ⊢;simp only at FI ⊢;have hsz0:(w.alloc (H #[z Z kf,z Z kt,z Z kb,z Z klt,z Y kla,z Z kht,z Y kha] 143)).heap.size=gk+1:=zk;go_in;go_wp2_with fail;generalize w.alloc (H #[z Z kf,z Z kt,z Z kb,z Z klt,z Y kla,z Z kht,z Y kha] 143)=w0 at *;have gn1:¬g=gk+1:=zc;have gn2:¬b=gk+1:=zc;have gn3:¬gk+1=g:=zc;have gn4:¬gk+1=b:=zc;have gn5:g≠gk+1:=zc;have gn6:b≠gk+1:=zc;have NB2:Hid (gk+1 < w.heap.size→gk+1∈([]:List Nat)):=fun h=>absurd h (zc)
 have NB:Hid (gk+1 < w0.heap.size→gk+1∈([]:List Nat)):=fun h=>absurd h (zc)
 go_region_held3 (fun w'=>w'.cell? ⟨b,0,y⟩=s (I (s ⟨g,0,y⟩) n cap)∧w'.cell? ⟨g,p *9,y⟩=s (z Z tf)∧w'.cell? ⟨g,p *9+1,y⟩=s (z Z tt)∧w'.cell? ⟨g,p *9+2,y⟩=s (z Z tb)∧w'.cell? ⟨g,p *9+3,y⟩=s (z Z tlt)∧
  w'.cell? ⟨g,p *9+4,y⟩=s (z Y tla)∧w'.cell? ⟨g,p *9+5,y⟩=s (z Z tht)∧w'.cell? ⟨g,p *9+6,y⟩=s (z Y tha)∧w'.cell? ⟨g,p *9+7,y⟩=s (z Y tid)∧w'.cell? ⟨g,p *9+8,y⟩=s (D o)∧
  w'.cell? ⟨gk,0,y⟩=s (z Z kf)∧w'.cell? ⟨gk,1,y⟩=s (z Z kt)∧w'.cell? ⟨gk,2,y⟩=s (z Z kb)∧w'.cell? ⟨gk,3,y⟩=s (z Z klt)∧w'.cell? ⟨gk,4,y⟩=s (z Y kla)∧w'.cell? ⟨gk,5,y⟩=s (z Z kht)∧w'.cell? ⟨gk,6,y⟩=s (z Y kha))
  (go_keep)
  (first | (go_at_call 179;refine (FI.out _ (zg)).mono ?_;rintro e' w1 ⟨rfl,m1,hS,hg1,hb1,hk1,hB9⟩;first | (have zb:=hB9 _ _ ((Blk.new' w0 _ _ _ hsz0.symm).drew);have z0:=zb.cell 0;have z1:=zb.cell 1;have z2:=zb.cell 2;have z3:=zb.cell 3;have z4:=zb.cell 4;have z5:=zb.cell 5;have z6:=zb.cell 6;have z7:=zb.cell 7;have z8:=zb.cell 8;simp only [List.getElem?_toArray,List.getElem?_cons_zero,List.getElem?_cons_succ] at z0 z1 z2 z3 z4 z5 z6 z7 z8;have zf:=zb.froz;clear zb) | skip))
 ·have mm:=(M0.out.drew).trans' m1;have MM:=V (mm.alloc (H #[z Z tf,z Z tt,z Z tb,z Z tlt,z Y tla,z Z tht,z Y tha,z Y tid,D o] 294));clear m1 hB9 FI SOF KB M0;cases o with
  | true=>
   go_wp2;go_ret2;exact ⟨ze,xY⟩
  | false=>
   go_wp2;go_ret2;exact ⟨ze,xY⟩
 ·have mm:=((M0.out.alloc _).drew).trans' m1;have MM:=V (((((((((mm.setCell ⟨gk+1,0,y⟩ (z Z tf) NB2.out).setCell ⟨gk+1,1,y⟩ (z Z tt) NB2.out).setCell ⟨gk+1,2,y⟩ (z Z tb) NB2.out).setCell ⟨gk+1,3,y⟩ (z Z tlt) NB2.out).setCell ⟨gk+1,4,y⟩ (z Y tla) NB2.out).setCell ⟨gk+1,5,y⟩ (z Z tht) NB2.out).setCell ⟨gk+1,6,y⟩ (z Y tha) NB2.out).setCell ⟨gk+1,7,y⟩ (z Y tid) NB2.out).setCell ⟨gk+1,8,y⟩ (D o) NB2.out);clear m1 hB9 FI SOF KB M0;cases o with
  | true=>
   go_wp2;go_ret2;exact ⟨ze,xY⟩
  | false=>
   go_wp2;go_ret2;exact ⟨ze,xY⟩
open Go.RowKit
theorem Blk.cells9 {w:K} {g:Nat} {a0 a1 a2 a3 a4 a5 a6 a7 a8:Value} {t:TypeId} (B:Blk w g #[a0,a1,a2,a3,a4,a5,a6,a7,a8] t):
 w.cell? ⟨g,0,y⟩=s a0∧w.cell? ⟨g,1,y⟩=s a1∧w.cell? ⟨g,2,y⟩=s a2∧w.cell? ⟨g,3,y⟩=s a3∧w.cell? ⟨g,4,y⟩=s a4∧w.cell? ⟨g,5,y⟩=s a5∧w.cell? ⟨g,6,y⟩=s a6∧w.cell? ⟨g,7,y⟩=s a7∧w.cell? ⟨g,8,y⟩=s a8:=by
 refine ⟨?_,?_,?_,?_,?_,?_,?_,?_,?_⟩<;>(rw [B.cell];rfl)
theorem yE2 {w:K} {b g n c:Nat} {T:Xc} {R:Rc→Nat→Prop} (hH:Hd w b g n c) (hT:Tab w g n T) (hw:IW n (hm n) T R c) (hgb:g≠b) (j:Nat) (hj:j+1≤20) (hn:n=2 ^ j) (hn2:2≤n):
 Ω Q 227 #[U (s ⟨b,0,y⟩)] w fun e w'=>e=J (Φ #[])∧∃T',Hd w' b w.heap.size (2 *n) c∧Tab w' w.heap.size (2 *n) T'∧IW (2 *n) (hm (2 *n)) T' R c∧C [b] w w':=by
 obtain ⟨cap,c0,c1,bf⟩:=hH.own;have b0:=bf 0;have hbl:=hH.lt;have hgl:=hT.lt;have HH:=V hH;have HT:=V hT;have HW:=V hw
 have hn3:n≤524288:=by
  have h1:2 ^ j≤2 ^ 19:=Ξ (zc) (zc);omega
 have HN:Hid (2 *n=2 ^ (j+1)):=by rw [hn,Nat.pow_succ];show _=_;omega
 clear hH hT hw hn bf;obtain ⟨g',hg'⟩:∃g',w.heap.size=g':=⟨_,rfl⟩;rw [hg'];have hbl2:b < g':=zc;have hgl2:g < g':=zc;have hmk:∀w,(Instr.makeSlice 213 (z G (2 *(n:Int))) (z G (2 *(n:Int)))).run Q w=.ok (I (s ⟨w.heap.size,0,y⟩) (2 *n) (2 *n)) (w.alloc (H (madeCells #[z Z 0,z Z 0,z Z 0,z Z 0,z Y 0,z Z 0,z Y 0,z Y 0,D false] (2 *n *9)) 294)):=yp7 (2 *n) (zc) (zc);go_in;go_wp2_with fail;have M0:C [b] w ((w.setCell ⟨b,0,y⟩ (I (s ⟨g',0,y⟩) (2 *n) (2 *n))).alloc (H (madeCells #[z Z 0,z Z 0,z Z 0,z Z 0,z Y 0,z Z 0,z Y 0,z Y 0,D false] (2 *n *9)) 294)):=((E _ _).setCell _ _ (ze)).alloc _;have S0:Hd ((w.setCell ⟨b,0,y⟩ (I (s ⟨g',0,y⟩) (2 *n) (2 *n))).alloc (H (madeCells #[z Z 0,z Z 0,z Z 0,z Z 0,z Y 0,z Z 0,z Y 0,z Y 0,D false] (2 *n *9)) 294)) b g' (2 *n) c:=(HH.out.slots g' (2 *n) (2 *n)).mod ((E [] _).alloc _) (ze);have S1:Tab ((w.setCell ⟨b,0,y⟩ (I (s ⟨g',0,y⟩) (2 *n) (2 *n))).alloc (H (madeCells #[z Z 0,z Z 0,z Z 0,z Z 0,z Y 0,z Z 0,z Y 0,z Y 0,D false] (2 *n *9)) 294)) g' (2 *n) (fun _=>(rc0,0,false)):=Tab.made _ (2 *n) g' (by simp [World.setCell];exact hg'.symm);have hgg:g'≠g:=zc;have hgb':g'≠b:=zc;have HG:=V hg';clear hg' c0 c1 b0
 go_loopw [18] (fun v wr=>∃(i c':Nat) (T':Xc),v=z G i∧i≤n∧c'=cnt T i∧Hid (Hd wr b g' (2 *n) c)∧Hid (Tab wr g' (2 *n) T')∧Hid (Tab wr g n T)∧Hid (IW (2 *n) (hm (2 *n)) T' (fun k id=>∃l,l < i∧T l=(k,id,true)) c')∧Hid (C [b] w wr)) (fun v _=>n - (intOf v).toNat)
 case atStart=>exact ⟨0,0,_,rfl,Nat.zero_le _,rfl,S0,S1,HT.out.mod M0 (by simpa using hgb),(IW.empty (fun k=>yu4 _ k (zc))).congr (fun k id=>ze),M0⟩
 case round=>
  obtain ⟨i,c',T',rfl,hi,hcc,H1,H2,H3,H4,H5⟩:=hrel;clear S0 S1 M0;have hbl':=H1.out.lt;have hgl':=H2.out.lt;have hol':=H3.out.lt;by_cases hlt:i < n
  ·obtain ⟨cap',e0,_,_⟩:=H1.out.own;obtain ⟨d0,d1,d2,d3,d4,d5,d6,d7,d8⟩:=H3.out.slot i hlt;have hcn:c' < 2 *n:=by have:=yF1 T i;omega
   have hc':=V hcc;clear hcc;cases ho:(T i).2.2 with
   | false=>
    rw [ho] at d8;have HO:=V ho;clear ho;go_wp2_with fail;go_roundw
    case rel=>
     refine ⟨i+1,c',T',rfl,hlt,(by rw [cnt,hc'.out,if_neg (by rw [show occ T i=false from HO.out];simp)];exact rfl),H1.out.mod (S:=[]) (zg) (ze),H2.out.mod (S:=[]) (zg) (ze),H3.out.mod (S:=[]) (zg) (ze),H4.out.congr (fun k id=>?_),H5.out.trans' (Mod.mono (S:=[]) (zg) (ze))⟩;constructor
     ·rintro ⟨l,hl,hTl⟩;by_cases hli:l=i
      ·subst hli;have h1:=HO.out;rw [hTl] at h1;simp at h1
      ·exact ⟨l,zc,hTl⟩
     ·rintro ⟨l,hl,hTl⟩;exact ⟨l,zc,hTl⟩
    case measure=>simp [intOf];omega
   | true=>
    rw [ho] at d8;have hkb:=HW.out.kb i hlt ho;have FI:=V (zP0 H1.out H2.out H4.out hcn (j+1) hj HN.out (zc) (key T i))
    have hno:∀id,¬∃l,l < i∧T l=(key T i,id,true):=by
     rintro id ⟨l,hl,hTl⟩;have:=HW.out.lp.uniq l i (zc) hlt (by unfold occ;rw [hTl]) ho (by unfold key;rw [hTl];rfl);omega
    obtain ⟨hp,_,hput⟩:=H4.out.find_out hcn hno;have HP:=V (hput (T i).2.1 hkb);have HO:=V ho;clear hput hno hkb ho;unfold key at *;obtain ⟨tk,htk⟩:∃x,(T i).1=x:=⟨_,rfl⟩;obtain ⟨tid,htid⟩:∃x,(T i).2.1=x:=⟨_,rfl⟩;have HTI:Hid (T i=(tk,tid,true)):=by show _=_;rw [←htk,←htid,←HO.out]
    rw [htk] at d0 d1 d2 d3 d4 d5 d6 FI HP hp;rw [htid] at d7 HP;clear htk htid;generalize Xu T' (2 *n) tk (2 *n) (hm (2 *n) tk)=p at *;obtain ⟨tf,tt,tb,⟨tlt,tla⟩,⟨tht,tha⟩⟩:=tk;unfold rcv at FI;simp only at d0 d1 d2 d3 d4 d5 d6 d7 FI;obtain ⟨gs,hgs⟩:∃q,wr.heap.size=q:=⟨_,rfl⟩;have A0:C [] wr (wr.alloc (H #[z Z tf,z Z tt,z Z tb,z Z tlt,z Y tla,z Z tht,z Y tha,z Y tid,D true] 294)):=(E _ _).alloc _;have GB:Hid (Blk (wr.alloc (H #[z Z tf,z Z tt,z Z tb,z Z tlt,z Y tla,z Z tht,z Y tha,z Y tid,D true] 294)) gs #[z Z tf,z Z tt,z Z tb,z Z tlt,z Y tla,z Z tht,z Y tha,z Y tid,D true] 294):=Blk.new' _ _ _ _ hgs.symm
    replace FI:=V (fun W (m:C [] (wr.alloc (H #[z Z tf,z Z tt,z Z tb,z Z tlt,z Y tla,z Z tht,z Y tha,z Y tid,D true] 294)) W)=>(FI.out W (A0.trans' m)).mono fun e w' (h:_∧C [] W w')=>(⟨h.1,h.2,⟨((A0.trans' (m.trans' h.2)).cell (a:=⟨b,0,y⟩) hbl' (ze)).trans e0,(GB.out.mod (m.trans' h.2) (ze)).cells9⟩,(H2.out.mod (A0.trans' (m.trans' h.2)) (ze)).slot p hp,(H2.out.mod (A0.trans' (m.trans' h.2)) (ze)).froz⟩:
     _∧C [] W w'∧(w'.cell? ⟨b,0,y⟩=s (I (s ⟨g',0,y⟩) (2 *n) cap')∧w'.cell? ⟨gs,0,y⟩=s (z Z tf)∧w'.cell? ⟨gs,1,y⟩=s (z Z tt)∧w'.cell? ⟨gs,2,y⟩=s (z Z tb)∧w'.cell? ⟨gs,3,y⟩=s (z Z tlt)∧w'.cell? ⟨gs,4,y⟩=s (z Y tla)∧w'.cell? ⟨gs,5,y⟩=s (z Z tht)∧w'.cell? ⟨gs,6,y⟩=s (z Y tha)∧w'.cell? ⟨gs,7,y⟩=s (z Y tid)∧w'.cell? ⟨gs,8,y⟩=s (D true))∧Slot9 w' g' (p *9) (T' p)∧∀j,w'.frozen? ⟨g',j,y⟩=false))
    replace H1:=V (H1.out.mod A0 (ze));replace H2:=V (H2.out.mod A0 (ze));replace H3:=V (H3.out.mod A0 (ze));replace H5:=V (H5.out.trans' (A0.mono (ze)));have ne1:¬g'=gs:=zc;have ne2:¬gs=g':=zc;have ne3:¬b=g':=zc;have ne5:g'≠gs:=ne1;have ne6:gs≠g':=ne2;have ne7:b≠g':=ne3;have e1:=(A0.cell (a:=⟨b,0,y⟩) hbl' (ze)).trans e0;obtain ⟨s0,s1,s2,s3,s4,s5,s6,s7,s8⟩:=GB.out.cells9;have hp2:p < 2 *n:=hp;have hp3:(p:Int) < 2 *(n:Int):=zc;have hp4:(p:Int) < ((2 *n:Nat):Int):=zc;have hp5:(0:Int)≤(p:Int):=zc;go_wp2_with fail;clear A0 e0 d0 d1 d2 d3 d4 d5 d6 d7 d8;generalize (wr.alloc (H #[z Z tf,z Z tt,z Z tb,z Z tlt,z Y tla,z Z tht,z Y tha,z Y tid,D true] 294))=w0 at *
    go_region_held3 (fun w'=>w'.cell? ⟨b,0,y⟩=s (I (s ⟨g',0,y⟩) (2 *n) cap')∧w'.cell? ⟨gs,0,y⟩=s (z Z tf)∧w'.cell? ⟨gs,1,y⟩=s (z Z tt)∧w'.cell? ⟨gs,2,y⟩=s (z Z tb)∧w'.cell? ⟨gs,3,y⟩=s (z Z tlt)∧w'.cell? ⟨gs,4,y⟩=s (z Y tla)∧w'.cell? ⟨gs,5,y⟩=s (z Z tht)∧w'.cell? ⟨gs,6,y⟩=s (z Y tha)∧w'.cell? ⟨gs,7,y⟩=s (z Y tid)∧w'.cell? ⟨gs,8,y⟩=s (D true))
     (go_keep)
     (first | (go_at_call 179;refine (FI.out _ (zg)).mono ?_;rintro e' w1 ⟨rfl,m1,hS,⟨z0,z1,z2,z3,z4,z5,z6,z7,z8⟩,zf⟩))
    replace m1:C [] w0 w1:=((E [] w0).drew).trans' m1;have SM:=zG4 (E [g'] w1) g' (p *9) (⟨tf,tt,tb,⟨tlt,tla⟩,⟨tht,tha⟩⟩,tid,true) (fun _=>ze);have TS:=Tab.store (H2.out.mod m1 (ze)) p hp (⟨tf,tt,tb,⟨tlt,tla⟩,⟨tht,tha⟩⟩,tid,true);have X1:=V ((H1.out.mod m1 (ze)).mod SM (zj));have X3:=V ((H3.out.mod m1 (ze)).mod SM (zj));have X5:=V ((H5.out.trans' (m1.mono (ze))).trans SM (yq));have X2:=V TS;unfold yK8 at X1 X2 X3 X5;simp only at X1 X2 X3 X5;clear m1 hS z0 z1 z2 z3 z4 z5 z6 z7 z8 zf TS SM;go_wp2_with fail;go_roundw
    case rel=>
     refine ⟨i+1,c'+1,_,rfl,hlt,by rw [cnt,hc'.out,if_pos (by rw [show occ T i=(T i).2.2 from rfl,HTI.out])],X1.out,X2.out,X3.out,HP.out _ (fun k' id'=>?_),X5.out⟩;constructor
     ·rintro ⟨l,hl,hTl⟩;by_cases hli:l=i
      ·subst hli;rw [HTI.out] at hTl;simp at hTl;exact .inl ⟨hTl.1.symm,hTl.2.symm⟩
      ·refine .inr ⟨fun hk=>?_,l,zc,hTl⟩;exact hli (HW.out.lp.uniq l i (zc) hlt (by unfold occ;rw [hTl]) HO.out (by unfold key;rw [hTl,HTI.out];exact hk))
     ·rintro (⟨rfl,rfl⟩ | ⟨hk,l,hl,hTl⟩)
      ·exact ⟨i,zc,HTI.out⟩
      ·exact ⟨l,zc,hTl⟩
    case measure=>simp [intOf];omega
  ·obtain rfl:i=n:=zc;go_wp2
   go_end0
   refine ⟨rfl,T',H1.out,H2.out,?_,H5.out⟩;have h1:=H4.out.congr (fun k id=>HW.out.r k id)
   have h2:c'=c:=by
    rw [hcc,HW.out.c]
   rw [h2] at h1;exact h1
open Go.RowKit
theorem yr8 {w:K} {b g n c j:Nat} {T:Xc} {R R':Rc→Nat→Prop} (hH:Hd w b g n c) (hT:Tab w g n T) (hw:IW n (hm n) T R c) (hgb:g≠b) (hc:c < n) (hj:j+1≤20) (hn:n=2 ^ j) (hn2:2≤n) (k:Rc) (id:Nat) (hid:id≤4294967295) (hR:∀old,¬R k old)
 (hR':∀k' id',R' k' id'↔(k'=k∧id'=id)∨(k'≠k∧R k' id')):
 Ω Q 211 #[U (s ⟨b,0,y⟩),rcv k,z Y id] w fun e w'=>e=J (Φ #[z Y 0,D false])∧
  ∃g' n' T',Hd w' b g' n' (c+1)∧Tab w' g' n' T'∧IW n' (hm n') T' R' (c+1)∧((n'=n∧g'=g∧2 *(c+1)≤n)∨(n'=2 *n∧w.heap.size≤g'∧n < 2 *(c+1)))∧C [b,g] w w':=by
 obtain ⟨cap,c0,c1,bf⟩:=hH.own;have FI:=V (zP0 hH hT hw hc j (zc) hn hn2 k);obtain ⟨hp,hno,hput⟩:=hw.find_out hc hR;have NW:=V (hput id hid R' hR')
 have hn3:n≤1048576:=by
  have h1:2 ^ j≤2 ^ 20:=Ξ (zc) (zc);omega
 have HN:=V hn;have hbl:=hH.lt;have hgl:=hT.lt;generalize Xu T n k n (hm n k)=p at *;have b0:=bf 0;have b1:=bf 1;have HT:=V hT;have HH:=V hH;have HNO:Hid ((T p).2.2=false):=hno;have hbg:b≠g:=hgb.symm;clear hH hT hw hn hR hR' bf hno hput;obtain ⟨kf,kt,kb,⟨klt,kla⟩,⟨kht,kha⟩⟩:=k;obtain ⟨gk,hgk⟩:∃q,w.heap.size=q:=⟨_,rfl⟩;have A0:C [] w (w.alloc (H #[z Z kf,z Z kt,z Z kb,z Z klt,z Y kla,z Z kht,z Y kha] 143)):=(E _ _).alloc _;have KB:Hid (Blk (w.alloc (H #[z Z kf,z Z kt,z Z kb,z Z klt,z Y kla,z Z kht,z Y kha] 143)) gk #[z Z kf,z Z kt,z Z kb,z Z klt,z Y kla,z Z kht,z Y kha] 143):=Blk.new' _ _ _ _ hgk.symm;have HA:=V A0;unfold rcv at FI ⊢;simp only at FI ⊢;go_in;go_wp2_with fail;refine (FI.out _ (zg)).mono ?_;rintro e w1 ⟨rfl,m1⟩;clear A0 c0 c1 b0 b1;replace HA:=V (HA.out.trans' m1);replace KB:=V (KB.out.mod m1 (ze));replace HT:=V (HT.out.mod HA.out (ze));replace HH:=V (HH.out.mod HA.out (ze));clear m1 FI;obtain ⟨cap,c0,c1,bf⟩:=HH.out.own;have b0:=bf 0;have b1:=bf 1;obtain ⟨d0,d1,d2,d3,d4,d5,d6,d7,d8⟩:=HT.out.slot p hp;rw [HNO.out] at d8;have zf:=HT.out.froz;obtain ⟨q0,q1,q2,q3,q4,q5,q6⟩:=KB.out.cells7;have hp3:(p:Int) < (n:Int):=zc;have hp5:(0:Int)≤(p:Int):=zc;have hgk1:¬gk=b:=zc;have hgk2:¬gk=g:=zc;go_wp2_with fail;have gs1:¬g=gk:=zc;have gs2:¬g=b:=hgb;have gs3:¬b=g:=hbg
 go_region_held3 (fun w'=>w'.cell? ⟨b,0,y⟩=s (I (s ⟨g,0,y⟩) n cap)∧w'.cell? ⟨gk,0,y⟩=s (z Z kf)∧w'.cell? ⟨gk,1,y⟩=s (z Z kt)∧w'.cell? ⟨gk,2,y⟩=s (z Z kb)∧w'.cell? ⟨gk,3,y⟩=s (z Z klt)∧w'.cell? ⟨gk,4,y⟩=s (z Y kla)∧w'.cell? ⟨gk,5,y⟩=s (z Z kht)∧w'.cell? ⟨gk,6,y⟩=s (z Y kha)) (go_keep) (first | fail)
 have TS:=V (Tab.store HT.out p hp (⟨kf,kt,kb,⟨klt,kla⟩,⟨kht,kha⟩⟩,id,true));have SM:=zG4 (E [g] w1) g (p *9) (⟨kf,kt,kb,⟨klt,kla⟩,⟨kht,kha⟩⟩,id,true) (fun _=>ze);replace HH:=V (HH.out.mod SM (by simpa using hbg));have SMM:=V ((HA.out.mono (ze)).trans SM (by intro i _ h;exact h));unfold yK8 at TS HH SMM;simp only at TS HH SMM;clear SM HT KB c0 c1 bf b0 b1 d0 d1 d2 d3 d4 d5 d6 d7 d8 zf q0 q1 q2 q3 q4 q5 q6;obtain ⟨w2,hw2⟩:∃w2,w2=(((((((((w1.setCell ⟨g,p *9,y⟩ (z Z (kf:Int))).setCell ⟨g,p *9+1,y⟩ (z Z (kt:Int))).setCell ⟨g,p *9+2,y⟩ (z Z (kb:Int))).setCell ⟨g,p *9+3,y⟩ (z Z (klt:Int))).setCell ⟨g,p *9+4,y⟩ (z Y (kla:Int))).setCell ⟨g,p *9+5,y⟩ (z Z (kht:Int))).setCell ⟨g,p *9+6,y⟩ (z Y (kha:Int))).setCell ⟨g,p *9+7,y⟩ (z Y (id:Int))).setCell ⟨g,p *9+8,y⟩ (D true)):=⟨_,rfl⟩;rw [←hw2] at TS HH SMM ⊢;clear hw2;obtain ⟨cap,c0,c1,bf⟩:=HH.out.own;have b1:=bf 1;go_wp2_with fail;have H2:=V (HH.out.count (c+1));have T2:Hid (Tab (w2.setCell ⟨b,1,y⟩ (z G ((c+1:Nat):Int))) g n (zm6 T p (⟨kf,kt,kb,⟨klt,kla⟩,⟨kht,kha⟩⟩,id,true))):=TS.out.mod (S:=[b]) (zg) (by simpa using hgb);have M2:Hid (C [b,g] w (w2.setCell ⟨b,1,y⟩ (z G ((c+1:Nat):Int)))):=(SMM.out.mono (zv)).setCell _ _ (ze);rw [show (((c+1:Nat):Int))=(c:Int)+1 from rfl] at H2 T2 M2;clear HH TS SMM c0 c1 b1 bf HA;obtain ⟨w3,hw3⟩:∃w3,w3=w2.setCell ⟨b,1,y⟩ (z G ((c:Int)+1)):=⟨_,rfl⟩;rw [←hw3] at H2 T2 M2 ⊢;clear hw3;obtain ⟨cap3,c0,c1,-⟩:=H2.out.own
 go_quiet (fail)
 by_cases hbig:n < 2 *(c+1)
 ·go_wp2_with fail;refine (yE2 (T:=zm6 T p (⟨kf,kt,kb,⟨klt,kla⟩,⟨kht,kha⟩⟩,id,true)) (R:=R') (c:=c+1) (g:=g) (H2.out.drewN _) (T2.out.drewN _) NW.out hgb j hj HN.out hn2).mono ?_;rintro e w4 ⟨rfl,T',h1,h2,h3,h4⟩;have X1:=V h1;have X2:=V h2;have X3:=V h3;have X4:=V h4;clear h1 h2 h3 h4;go_wp2;go_ret2;exact ⟨rfl,_,_,T',X1.out,X2.out,X3.out,.inr ⟨rfl,M2.out.size,hbig⟩,Mod.trans (S':=[b]) (M2.out.drewN _) X4.out (by intro i _ h;simp at h;simp [h])⟩
 ·go_wp2_with fail;go_ret2;exact ⟨rfl,g,n,_,by exact H2.out,by exact T2.out,NW.out,.inl ⟨rfl,rfl,zc⟩,M2.out.drew.drewN _⟩
open Go.RowKit
def zd2 (r:Rc):List Value:=[z Z r.f,z Z r.top,z Z r.bot,z Z r.lo.t,z Y r.lo.a,z Z r.hi.t,z Y r.hi.a,D true,z G 0]
theorem zJ6 (r:Rc):(zd2 r).length=9:=rfl
def IsAr (w:K) (b:Nat) (L:List Rc) (room:Nat) (F:List Nat):Prop:=
 ∃vc Fc,Blk w b #[vc,I y 0 0,z G L.length,z G room] 212∧Sl w 267 9 vc L.length (zj4 zd2 L) Fc∧F=b::Fc∧b∉Fc
theorem IsAr.mod {S:List Nat} {w w':K} {b:Nat} {L:List Rc} {room:Nat} {F:List Nat} (h:IsAr w b L room F) (m:C S w w') (hd:∀k∈F,k∉S):IsAr w' b L room F:=by
 obtain ⟨vc,Fc,hb,hc,rfl,r⟩:=h;exact ⟨vc,Fc,hb.mod m (hd b (ze)),hc.mod m (fun k hk=>hd k (zC)),rfl,r⟩
theorem IsAr.lt {w:K} {b:Nat} {L:List Rc} {room:Nat} {F:List Nat} (h:IsAr w b L room F):∀k∈F,k < w.heap.size:=by
 obtain ⟨vc,Fc,hb,hc,rfl,r⟩:=h;intro k hk;simp at hk;rcases hk with rfl | hk
 ·exact hb.lt
 ·exact hc.lt k hk
theorem IsAr.cell {w:K} {b:Nat} {L:List Rc} {room:Nat} {F:List Nat} (h:IsAr w b L room F) (i:Nat) (hi:i < L.length):
 ∃g cap,w.cell? ⟨b,0,y⟩=s (I (s ⟨g,0,y⟩) L.length cap)∧w.cell? ⟨g,i *9,y⟩=s (z Z L[i].f)∧w.cell? ⟨g,i *9+1,y⟩=s (z Z L[i].top)∧w.cell? ⟨g,i *9+2,y⟩=s (z Z L[i].bot)∧w.cell? ⟨g,i *9+3,y⟩=s (z Z L[i].lo.t)∧
  w.cell? ⟨g,i *9+4,y⟩=s (z Y L[i].lo.a)∧w.cell? ⟨g,i *9+5,y⟩=s (z Z L[i].hi.t)∧w.cell? ⟨g,i *9+6,y⟩=s (z Y L[i].hi.a)∧w.cell? ⟨g,i *9+7,y⟩=s (D true)∧w.cell? ⟨g,i *9+8,y⟩=s (z G 0):=by
 obtain ⟨vc,Fc,hb,hc,rfl,r⟩:=h;obtain ⟨g,cap,rfl,rfl,hcap⟩:=hc.pos (zc);have hx:∀j,j < 9→w.cell? ⟨g,i *9+j,y⟩=(zd2 L[i])[j]? :=fun j hj=>by rw [(hc.at (i *9+j) (zc)).1,ze9 zJ6 _ _ _ hi hj]
 exact ⟨g,cap,yj,hx 0 (zc),hx 1 (zc),hx 2 (zc),hx 3 (zc),hx 4 (zc),hx 5 (zc),hx 6 (zc),hx 7 (zc),hx 8 (zc)⟩
theorem IsAr.own {w:K} {b:Nat} {L:List Rc} {room:Nat} {F:List Nat} (h:IsAr w b L room F):∃a cap,w.cell? ⟨b,0,y⟩=s (I a L.length cap)∧w.cell? ⟨b,1,y⟩=s (I y 0 0)∧w.cell? ⟨b,2,y⟩=s (z G L.length)∧w.cell? ⟨b,3,y⟩=s (z G room)∧∀i,w.frozen? ⟨b,i,y⟩=false:=by
 obtain ⟨vc,Fc,hb,hc,rfl,r1⟩:=h;obtain ⟨a,cap,rfl,_⟩:=hc.shape;exact ⟨a,cap,yj,yj,yj,yj,fun i=>hb.froz i⟩
theorem ys3 (r:Nat) (hr:r≤1048576) (w:K):
 Ω Q 56 #[z G r] w fun e w'=>e=J (Φ #[U (s ⟨w.heap.size,0,y⟩),z Z 0])∧IsAr w' w.heap.size [] r [w.heap.size]∧C [] w w':=by
 go_in;go_wp2;go_ret2;refine ⟨rfl,⟨I y 0 0,[],Blk.new _ _ _,Sl.nil _ _ _,ze,ze⟩,(E _ _).alloc _⟩
theorem yD6 (b g n cap i:Nat) (hi:i < n) (hn:n≤1048576) (w:K) (c0:w.cell? ⟨b,0,y⟩=s (I (s ⟨g,0,y⟩) n cap)) (c1:w.cell? ⟨g,i *9+7,y⟩=s (D true)):
 Ω Q 147 #[U (s ⟨b,0,y⟩),z Y ((i:Int)+2)] w fun e w'=>e=J (U (s ⟨g,i *9,y⟩))∧w=w':=by
 go_in;go_wp2;go_ret;exact ⟨rfl,rfl⟩
theorem yH2 (b n cap:Nat) (a:Option Addr) (id:Int) (h2:2≤id) (hi:n≤id - 2) (hu:id≤4294967295) (w:K) (c0:w.cell? ⟨b,0,y⟩=s (I a n cap)):
 Ω Q 147 #[U (s ⟨b,0,y⟩),z Y id] w fun e w'=>e=J (U y)∧w=w':=by
 have h3:¬id < 2:=zc;go_in;go_wp2;go_ret;exact ⟨rfl,rfl⟩
theorem yI3 (b:Nat) (id:Int) (h0:0≤id) (h2:id < 2) (w:K):
 Ω Q 147 #[U (s ⟨b,0,y⟩),z Y id] w fun e w'=>e=J (U y)∧w=w':=by
 go_in;go_wp2;go_ret;exact ⟨rfl,rfl⟩
open Go.RowKit
def YO (L:List Rc) (id:Nat):Option Rc:=if 2≤id then L[id - 2]? else y
theorem kE {p:Prop} (h:p:=by
 go_in;go_wp2_with fail;refine (AT.out _ (zg)).mono ?_;rintro e w' ⟨rfl,rfl⟩;go_wp2_with fail
 first | go_ret2 | go_returns
 exact ⟨rfl,zg⟩):p:=h
theorem zc1 {w:K} {b:Nat} {L:List Rc} {room:Nat} {F:List Nat} (h:IsAr w b L room F) (hL:L.length≤1048576) (id:Nat) (r:Rc) (hr:YO L id=s r):
 Ω Q 121 #[U (s ⟨b,0,y⟩),z Y id] w fun e w'=>e=J (Φ #[rcv r,D true])∧C [] w w':=by
 unfold YO at hr;split at hr
 ·rename_i h2
  obtain ⟨hlt,he⟩:=List.getElem?_eq_some_iff.1 hr;obtain ⟨g,cap,c0,d0,d1,d2,d3,d4,d5,d6,d7,d8⟩:=h.cell (id - 2) hlt;rw [he] at d0 d1 d2 d3 d4 d5 d6;have hbl:=O w _ c0;have hgl:=O w _ d7;simp only at hbl hgl;have AT:=fun W (m:C [] w W)=>yD6 b g _ cap (id - 2) hlt hL W ((m.cell hbl (ze)).trans c0) ((m.cell (a:=⟨g,(id - 2) *9+7,y⟩) hgl (ze)).trans d7)
  have e:((id - 2:Nat):Int)+2=(id:Int):=zc;rw [e] at AT;have AT:=V AT;clear h hr hlt he c0 hL h2 e;obtain ⟨f,tp,bt,⟨lt,la⟩,⟨ht,ha⟩⟩:=r;unfold rcv;simp only at d0 d1 d2 d3 d4 d5 d6 ⊢;generalize (id - 2) *9=p at *;exact kE
 ·simp at hr
theorem zp1 {w:K} {b:Nat} {L:List Rc} {room:Nat} {F:List Nat} (h:IsAr w b L room F) (hL:L.length≤1048576) (id:Nat) (hid:id≤4294967295) (hr:YO L id=y):
 Ω Q 121 #[U (s ⟨b,0,y⟩),z Y id] w fun e w'=>e=J (Φ #[rcv rc0,D false])∧C [] w w':=by
 have AT:Hid (∀W,C [] w W→Ω Q 147 #[U (s ⟨b,0,y⟩),z Y id] W fun e w'=>e=J (U y)∧W=w'):=fun W m=>by
  obtain ⟨a,cap,c0,_⟩:=h.own;have hbl:=O w _ c0;simp only at hbl;unfold YO at hr;split at hr
  ·rename_i h2
   have hge:=List.getElem?_eq_none_iff.1 hr;exact yH2 b _ cap a id (zc) (zc) (zc) W ((m.cell hbl (ze)).trans c0)
  ·exact yI3 b id (zc) (zc) W
 clear h hr;unfold rcv rc0;simp only;exact kE
theorem yB7 {w:K} {b:Nat} {L:List Rc} {room:Nat} {F:List Nat} (h:IsAr w b L room F):
 Ω Q 160 #[U (s ⟨b,0,y⟩)] w fun e w'=>e=J (z G L.length)∧w=w':=by
 obtain ⟨a,cap,_,_,c2,_⟩:=h.own;clear h;go_in;go_wp2;go_ret;exact ⟨rfl,rfl⟩
theorem zC8 {w X0 X w1:K} {b:Nat} {L:List Rc} {room:Nat} {a a1:Option Addr} {cap cap1:Nat} {Fc F':List Nat}
 (hb:Blk w b #[I a L.length cap,I y 0 0,z G L.length,z G room] 212)
 (hc:Sl w 267 9 (I a L.length cap) L.length (zj4 zd2 L) Fc) (r1:b∉Fc) (r:Rc) (MX0:C [b] w X0)
 (hbX0:Blk X0 b #[I a L.length cap,I y 0 0,z G ((L.length:Int)+1),z G room] 212) (M0:C [] X0 X)
 (hs1:Sl w1 267 9 (I a1 (L.length+1) cap1) (L.length+1) (zj4 zd2 L++zd2 r) F') (hm1:C Fc X w1) (hf1:∀k∈F',k∈Fc∨X.heap.size≤k):
 IsAr (w1.setCell ⟨b,0,y⟩ (I a1 (L.length+1) cap1)) b (L++[r]) room (b::F')∧
 C (b::Fc) w (w1.setCell ⟨b,0,y⟩ (I a1 (L.length+1) cap1))∧(∀k∈b::F',k∈b::Fc∨w.heap.size≤k):=by
 have hbl:=hb.lt;have MX:=MX0.trans M0 (ze);have hbX:=hbX0.mod M0 (ze);have hXs:=MX.size
 have n1:b∉F':=fun hk=>by
  rcases hf1 b hk with h | h
  ·exact r1 h
  ·omega
 have M1:C [b] w1 (w1.setCell ⟨b,0,y⟩ (I a1 (L.length+1) cap1)):=(E _ _).setCell _ _ (ze);refine ⟨⟨I a1 (L.length+1) cap1,F',?_,?_,rfl,n1⟩,?_,?_⟩
 ·have:=(hbX.mod hm1 r1).set 0 (I a1 (L.length+1) cap1);simpa using this
 ·have:=hs1.mod M1 (fun k hk=>by simp;intro e;subst e;exact n1 hk);rw [zd9];simpa [zj4] using this
 ·refine ((MX.mono (S':=b::Fc) (fun i _ hi=>by simp at hi;simp [hi])).trans hm1 (fun i _ hi=>by simp [hi])).trans M1 (fun i _ hi=>by simp at hi;simp [hi])
 ·intro k hk;simp at hk;rcases hk with rfl | hk
  ·simp
  ·rcases hf1 k hk with h | h
   ·simp [h]
   ·exact .inr (zc)
theorem Tryz.infoC:(Tryz.prog.info? 267).map (fun i=>(i.zero,i.size,i.bytes))=s (s (.agg #[z Z 0,z Z 0,z Z 0,z Z 0,z Y 0,z Z 0,z Y 0,D false,z G 0]),9,32):=by kernel_rfl
theorem yv3 {w:K} {b:Nat} {L:List Rc} {room:Nat} {F:List Nat} (h:IsAr w b L room F) (hn:L.length < room) (hroom:room≤1048576) (r:Rc):
 Ω Q 210 #[U (s ⟨b,0,y⟩),rcv r] w fun e w'=>e=J (Φ #[z Y ((L.length+2:Nat):Int),D true])∧∃F',IsAr w' b (L++[r]) room F'∧C F w w'∧∀k∈F',k∈F∨w.heap.size≤k:=by
 obtain ⟨i0,hi,hz0,hz1,hz2⟩:=info_parts Tryz.infoC;obtain ⟨vc,Fc,hb,hc,rfl,r1⟩:=h;obtain ⟨a,cap,rfl,_⟩:=hc.shape;have c0:=hb.cell 0;have c1:=hb.cell 1;have c2:=hb.cell 2;have c3:=hb.cell 3;have b0:=hb.froz 0;have b2:=hb.froz 2;simp at c0 c1 c2 c3;have HS:Hid (∀W,C [b] w W→Sl W 267 9 (I a L.length cap) L.length (zj4 zd2 L) Fc):=fun W M=>hc.mod M (fun k hk=>by simp;intro e;subst e;exact r1 hk)
 have HB:=V hb;have HC:=V hc;obtain ⟨f,tp,bt,⟨lt,la⟩,⟨ht,ha⟩⟩:=r;obtain ⟨n,hln⟩:∃n,L.length=n:=⟨_,rfl⟩;rw [hln] at c0 c2 hn HS ⊢;have hn':(n:Int) < room:=zc;have hdd:decide ((room:Int)≤(n:Int))=false:=zj;have hbl:=O w _ c0;simp only at hbl;have HLN:=V hln;clear hln hb hc;unfold rcv;simp only;go_in;go_wp2_with fail
 go_quiet (fail)
 go_wp2;have MX0:Hid (C [b] w (((w.alloc (H #[z Z f,z Z tp,z Z bt,z Z lt,z Y la,z Z ht,z Y ha] 139)).drewN nq).setCell ⟨b,2,y⟩ (z G ((n:Int)+1)))):=zg
 have HX0:Hid (Blk (((w.alloc (H #[z Z f,z Z tp,z Z bt,z Z lt,z Y la,z Z ht,z Y ha] 139)).drewN nq).setCell ⟨b,2,y⟩ (z G ((n:Int)+1))) b #[I a L.length cap,I y 0 0,z G ((L.length:Int)+1),z G room] 212):=by
  have:=((HB.out.alloc (H #[z Z f,z Z tp,z Z bt,z Z lt,z Y la,z Z ht,z Y ha] 139)).drewN nq).set 2 (z G ((n:Int)+1));rw [HLN.out] at this ⊢;refine V ?_;simpa using this
 have hb1:b < w.heap.size+1:=zc;have hb2:b < w.heap.size+2:=zc;have hb3:b < w.heap.size+1+1:=zc;have hb4:¬w.heap.size+2=b:=zc;have hb5:¬b=w.heap.size+2:=zc;have KX:Hid (∀W',C [] (((w.alloc (H #[z Z f,z Z tp,z Z bt,z Z lt,z Y la,z Z ht,z Y ha] 139)).drewN nq).setCell ⟨b,2,y⟩ (z G ((n:Int)+1))) W'→W'.cell? ⟨b,0,y⟩=s (I a n cap)∧W'.frozen? ⟨b,0,y⟩=false):=fun W' m=>⟨(m.cell (a:=⟨b,0,y⟩) (zj) (ze)).trans (by go_simp),(m.froz (a:=⟨b,0,y⟩) (zj) (ze)).trans (by go_simp)⟩
 go_region_law (refine XT rfl _ _ 209 rfl 267 i0 (.agg #[.int Z 0,.int Z 0,.int Z 0,.int Z 0,.int Y 0,.int Z 0,.int Y 0,.bool false,.int G 0]) 9 32 Tryz.underlying209 hi hz0 hz1 hz2 rfl (zi) _ n (zj4 zd2 L) Fc rfl (HS.out _ (zg)) ⟨w.heap.size+2,0,y⟩ 1 1 (zd2 ⟨f,tp,bt,⟨lt,la⟩,⟨ht,ha⟩⟩) (zi) rfl rfl (ji) (by intro u hu;simp [zd2] at hu;rcases hu with rfl | rfl | rfl | rfl | rfl | rfl | rfl | rfl | rfl<;>rfl) (zx) (zc) ?_;intro v' w1 F' hs1 hm1 hf1;obtain ⟨a1,cap1,rfl,_⟩:=hs1.shape;have z0:=(hm1.cell (a:=⟨b,0,y⟩) (zj) r1).trans (KX.out _ (zg)).1;have z1:=(hm1.froz (a:=⟨b,0,y⟩) (zj) r1).trans (KX.out _ (zg)).2)
 all_goals
  go_wp2_with fail
  first | go_ret2 | go_returns
  have hC:=zC8 HB.out HC.out r1 ⟨f,tp,bt,⟨lt,la⟩,⟨ht,ha⟩⟩ MX0.out HX0.out (zg) (by rw [HLN.out];exact hs1) hm1 hf1;rw [HLN.out] at hC;exact ⟨rfl,_,hC⟩
open Go.RowKit
def zL2 (L:List Rc):Rc→Nat→Prop:=fun k id=>YO L id=s k
theorem YJ {L:List Rc} {id:Nat} {r:Rc} (h:YO L id=s r):2≤id∧id < L.length+2∧L[id - 2]? =s r:=by
 unfold YO at h;split at h
 ·rename_i h2
  obtain ⟨hlt,he⟩:=List.getElem?_eq_some_iff.1 h;exact ⟨h2,zc,h⟩
 ·simp at h
theorem zk8 {L:List Rc} {id:Nat} {r:Rc} (h:YO L id=s r):r∈L:=List.mem_of_getElem? (YJ h).2.2
theorem zb2 {L:List Rc} {id:Nat} {r:Rc} (h:YO L id=s r) (L2:List Rc):YO (L++L2) id=s r:=by
 obtain ⟨h1,h2,h3⟩:=YJ h;unfold YO;rw [if_pos h1,List.getElem?_append_left (zc)];exact h3
theorem zg6 (L:List Rc) (r:Rc):YO (L++[r]) (L.length+2)=s r:=by
 unfold YO;simp
theorem zp6 {L:List Rc} {r x:Rc} {id:Nat} (h:YO (L++[r]) id=s x):(x=r∧id=L.length+2)∨YO L id=s x:=by
 obtain ⟨h1,h2,h3⟩:=YJ h;simp at h2;by_cases q:id=L.length+2
 ·subst q;rw [zg6] at h;exact .inl ⟨by simpa using h.symm,rfl⟩
 ·rw [List.getElem?_append_left (zc)] at h3;exact .inr (by unfold YO;rw [if_pos h1];exact h3)
def zw8 (w:K) (g:Nat) (r:Rc):K:=
 ((((((w.setCell ⟨g,0,y⟩ (z Z r.f)).setCell ⟨g,1,y⟩ (z Z r.top)).setCell ⟨g,2,y⟩ (z Z r.bot)).setCell ⟨g,3,y⟩ (z Z r.lo.t)).setCell ⟨g,4,y⟩ (z Y r.lo.a)).setCell ⟨g,5,y⟩ (z Z r.hi.t)).setCell ⟨g,6,y⟩ (z Y r.hi.a)
theorem za4 {w:K} {g:Nat} {a0 a1 a2 a3 a4 a5 a6:Value} {t:TypeId} (B:Blk w g #[a0,a1,a2,a3,a4,a5,a6] t) (r:Rc):
 Blk (zw8 w g r) g #[z Z r.f,z Z r.top,z Z r.bot,z Z r.lo.t,z Y r.lo.a,z Z r.hi.t,z Y r.hi.a] t:=
 by simpa [zw8] using ((((((B.set 0 (z Z r.f)).set 1 (z Z r.top)).set 2 (z Z r.bot)).set 3 (z Z r.lo.t)).set 4 (z Y r.lo.a)).set 5 (z Z r.hi.t)).set 6 (z Y r.hi.a)
theorem Xe {S:List Nat} {w w':K} (m:C S w w') (g:Nat) (r:Rc) (hg:g < w.heap.size→g∈S):C S w (zw8 w' g r):=
 ((((((m.setCell _ _ hg).setCell _ _ hg).setCell _ _ hg).setCell _ _ hg).setCell _ _ hg).setCell _ _ hg).setCell _ _ hg
def YM (w:K) (g:Nat) (e:Ed):K:=(w.setCell ⟨g,0,y⟩ (z Z e.t)).setCell ⟨g,1,y⟩ (z Y e.a)
theorem YC {w:K} {g:Nat} {a0 a1:Value} {t:TypeId} (B:Blk w g #[a0,a1] t) (e:Ed):Blk (YM w g e) g #[z Z e.t,z Y e.a] t:=by simpa [YM] using (B.set 0 (z Z e.t)).set 1 (z Y e.a)
theorem YD {S:List Nat} {w w':K} (m:C S w w') (g:Nat) (e:Ed) (hg:g < w.heap.size→g∈S):C S w (YM w' g e):=(m.setCell _ _ hg).setCell _ _ hg
theorem Blk.cells2 {w:K} {g:Nat} {a b:Value} {t:TypeId} (B:Blk w g #[a,b] t):w.cell? ⟨g,0,y⟩=s a∧w.cell? ⟨g,1,y⟩=s b:=by
 refine ⟨?_,?_⟩<;>(rw [B.cell];rfl)
theorem Blk.frozs {w:K} {g:Nat} {A:Array Value} {t:TypeId} (B:Blk w g A t):w.frozen? ⟨g,0,y⟩=false∧w.frozen? ⟨g,1,y⟩=false∧w.frozen? ⟨g,2,y⟩=false∧w.frozen? ⟨g,3,y⟩=false∧w.frozen? ⟨g,4,y⟩=false∧w.frozen? ⟨g,5,y⟩=false∧w.frozen? ⟨g,6,y⟩=false:=
 ⟨B.froz 0,B.froz 1,B.froz 2,B.froz 3,B.froz 4,B.froz 5,B.froz 6⟩
def IsSt (w:K) (b n:Nat) (L:List Rc) (room:Nat) (F:List Nat):Prop:=
 ∃ba bi g nt j T Fa,Blk w b #[z G n,U (s ⟨ba,0,y⟩),U (s ⟨bi,0,y⟩)] 145∧IsAr w ba L room Fa∧Hd w bi g nt L.length∧Tab w g nt T∧
  IW nt (hm nt) T (zL2 L) L.length∧nt=2 ^ j∧2≤nt∧2 *L.length≤nt∧(nt≤8∨nt < 4 *L.length)∧L.Nodup∧F=b::bi::g::Fa∧b≠bi∧b≠g∧b∉Fa∧g≠bi∧bi∉Fa∧g∉Fa
theorem IsSt.mod {S:List Nat} {w w':K} {b n:Nat} {L:List Rc} {room:Nat} {F:List Nat} (h:IsSt w b n L room F) (m:C S w w') (hd:∀k∈F,k∉S):IsSt w' b n L room F:=by
 obtain ⟨ba,bi,g,nt,j,T,Fa,h1,h2,h3,h4,h5,h6,h7,h8,h9,h10,rfl,r⟩:=h;exact ⟨ba,bi,g,nt,j,T,Fa,h1.mod m (hd b (ze)),h2.mod m (fun k hk=>hd k (zC)),h3.mod m (hd bi (ze)),h4.mod m (hd g (ze)),h5,h6,h7,h8,h9,h10,rfl,r⟩
theorem IsSt.lt {w:K} {b n:Nat} {L:List Rc} {room:Nat} {F:List Nat} (h:IsSt w b n L room F):∀k∈F,k < w.heap.size:=by
 obtain ⟨ba,bi,g,nt,j,T,Fa,h1,h2,h3,h4,h5,h6,h7,h8,h9,h10,rfl,r⟩:=h;intro k hk;simp at hk;rcases hk with rfl | rfl | rfl | hk
 ·exact h1.lt
 ·exact h3.lt
 ·exact h4.lt
 ·exact h2.lt k hk
theorem IsSt.own {w:K} {b n:Nat} {L:List Rc} {room:Nat} {F:List Nat} (h:IsSt w b n L room F):
 ∃ba bi Fa,w.cell? ⟨b,0,y⟩=s (z G n)∧w.cell? ⟨b,1,y⟩=s (U (s ⟨ba,0,y⟩))∧w.cell? ⟨b,2,y⟩=s (U (s ⟨bi,0,y⟩))∧IsAr w ba L room Fa:=by
 obtain ⟨ba,bi,g,nt,j,T,Fa,h1,h2,_⟩:=h;exact ⟨ba,bi,Fa,jj,jj,jj,h2⟩
theorem YH (b n:Nat) (w:K) (c0:w.cell? ⟨b,0,y⟩=s (z G n)):Ω Q 67 #[U (s ⟨b,0,y⟩)] w fun e w'=>e=J (z G n)∧w'=w:=by
 go_in;go_wp2;go_ret;exact ⟨rfl,rfl⟩
theorem yu6 {w:K} {b n:Nat} {L:List Rc} {room:Nat} {F:List Nat} (h:IsSt w b n L room F):Ω Q 135 #[U (s ⟨b,0,y⟩)] w fun e w'=>e=J (z G L.length)∧w=w':=by
 obtain ⟨ba,bi,Fa,c0,c1,c2,hA⟩:=h.own;have LN:=V (yB7 hA);clear h hA;go_in;go_wp2_with fail;refine LN.out.mono ?_;rintro e w' ⟨rfl,rfl⟩;go_wp2_with fail;go_ret;exact ⟨rfl,rfl⟩
theorem kD {p:Prop} (h:p:=by
 clear m e0 e1 e2 e3 e4 e5 e6 f0 f1 f2 f3 f4 f5 f6 BX;refine bodyPost_ret (by simp [results,Tryz.results112,g0,g1,g2,g3,g4,g5,g6,go_sem];try rfl) rfl ?_
 exact ⟨rfl,MX.out⟩):p:=h
theorem Y7 {w:K} {b n:Nat} {L:List Rc} {room:Nat} {F:List Nat} (h:IsSt w b n L room F) (hL:L.length≤1048576) (id:Nat) (r:Rc) (hr:YO L id=s r):
 Ω Q 112 #[U (s ⟨b,0,y⟩),z Y id] w fun e w'=>e=J (Φ #[rcv r,D true])∧C [] w w':=by
 obtain ⟨ba,bi,Fa,c0,c1,c2,hA⟩:=h.own;have hb:=O w _ c1;simp only at hb;have GT:Hid (∀W,C [] w W→_):=fun W m=>zc1 (hA.mod m (ze)) hL id r hr
 clear h hA hr;unfold rcv at *;go_in;go_wp2_with fail;refine (GT.out _ (zg)).mono ?_;rintro e w' ⟨rfl,m⟩;have B:=(Blk.new w #[z Z 0,z Z 0,z Z 0,z Z 0,z Y 0,z Z 0,z Y 0] 139).mod m (ze);obtain ⟨e0,e1,e2,e3,e4,e5,e6⟩:=B.cells7;obtain ⟨f0,f1,f2,f3,f4,f5,f6⟩:=B.frozs;have B:=V B;go_wp2_with fail;have BX:=za4 B.out r;obtain ⟨g0,g1,g2,g3,g4,g5,g6⟩:=BX.cells7;have MX:=V (Xe ((show C [] w _ from zg).trans m (ze)) w.heap.size r (zc));change bodyPost _ _ _ _ _ (zw8 w' w.heap.size r);generalize zw8 w' w.heap.size r=X at *;exact kD
theorem Xa {w:K} {b n:Nat} {L:List Rc} {room:Nat} {F:List Nat} (h:IsSt w b n L room F) (hL:L.length≤1048576) (id:Nat) (hid:id≤4294967295) (hr:YO L id=y):
 Ω Q 112 #[U (s ⟨b,0,y⟩),z Y id] w fun e w'=>e=J (Φ #[rcv rc0,D false])∧C [] w w':=by
 obtain ⟨ba,bi,Fa,c0,c1,c2,hA⟩:=h.own;have hb:=O w _ c1;simp only at hb;have GT:Hid (∀W,C [] w W→_):=fun W m=>zp1 (hA.mod m (ze)) hL id hid hr
 clear h hA hr;unfold rcv rc0 at *;simp only at GT ⊢;go_in;go_wp2_with fail;refine (GT.out _ (zg)).mono ?_;rintro e w' ⟨rfl,m⟩;have B:=(Blk.new w #[z Z 0,z Z 0,z Z 0,z Z 0,z Y 0,z Z 0,z Y 0] 139).mod m (ze);obtain ⟨e0,e1,e2,e3,e4,e5,e6⟩:=B.cells7;obtain ⟨f0,f1,f2,f3,f4,f5,f6⟩:=B.frozs;have B:=V B;go_wp2_with fail;have BX:=za4 B.out rc0;obtain ⟨g0,g1,g2,g3,g4,g5,g6⟩:=BX.cells7;have MX:=V (Xe ((show C [] w _ from zg).trans m (ze)) w.heap.size rc0 (zc));change bodyPost _ _ _ _ _ (zw8 w' w.heap.size rc0);generalize zw8 w' w.heap.size rc0=X at *;exact kD
theorem zz9 (n room:Nat) (hn:n≤16) (hroom:room≤1048576) (w:K):
 Ω Q 24 #[z G n,z G room] w fun e w'=>∃b F,e=J (Φ #[U (s ⟨b,0,y⟩),z Z 0])∧IsSt w' b n [] room F∧C [] w w'∧∀k∈F,w.heap.size≤k:=by
 have AN:=V (ys3 room hroom);have IN:=V yG6;have hn':(n:Int)≤16:=zc;go_in;go_wp2_with fail;refine (AN.out _).mono ?_;rintro e w1 ⟨rfl,a1,m1⟩;go_wp2_with fail;refine (IN.out _).mono ?_;rintro e w2 ⟨rfl,h2,t2,m2⟩;have hs1:=m1.size;have hs2:=m2.size;have hA:=a1.lt w.heap.size (ze);have hB:=h2.lt;have hC:=t2.lt;have s1:Hid (Hd w2 (w1.heap.size+1) w1.heap.size 8 0):=h2;have s2:Hid (Tab w2 w1.heap.size 8 (fun _=>(rc0,0,false))):=t2;have s3:=V (a1.mod m2 (ze));have M:=V (m1.trans m2 (ze));clear h2 t2 a1;go_wp2_with fail;go_ret2;have M3:C [] w2 (w2.alloc (H #[z G n,U (s ⟨w.heap.size,0,y⟩),U (s ⟨w1.heap.size+1,0,y⟩)] 145)):=(E _ _).alloc _;refine ⟨w2.heap.size,[w2.heap.size,w1.heap.size+1,w1.heap.size,w.heap.size],rfl,⟨w.heap.size,w1.heap.size+1,w1.heap.size,8,3,_,[w.heap.size],Blk.new _ _ _,s3.out.mod M3 (ze),s1.out.mod M3 (ze),s2.out.mod M3 (ze),(IW.empty (fun k=>yu4 8 k (zc))).congr (fun k id=>by simp [zL2,YO]),zi,zc,ze,.inl (zc),ze,rfl,?_⟩,M.out.trans M3 (ze),?_⟩
 ·simp;omega
 ·intro k hk;simp at hk;omega
theorem zW4 {w:K} {bi g nt c j:Nat} {T:Xc} {L:List Rc} (hH:Hd w bi g nt c) (hT:Tab w g nt T) (hw:IW nt (hm nt) T (zL2 L) c) (hc:c < nt) (hj:nt=2 ^ j) (h2:2≤nt) (hn:nt≤1048576) (k:Rc) (o:Bool) (id:Nat)
 (hid:o=true→YO L id=s k) (hno:o=false→k∉L):
 Ω Q 208 #[U (s ⟨bi,0,y⟩),rcv k] w fun e w'=>e=J (Φ #[z Y (if o=true then (id:Int) else 0),D o])∧C [] w w':=by
 obtain ⟨cap,c0,_⟩:=hH.own
 have hj20:j≤20:=by
  rcases Nat.lt_or_ge j 21 with h | h
  ·omega
  ·have:=Ξ (n:=2) (zc) h;omega
 have FM:=zP0 hH hT hw hc j hj20 hj h2 k;cases o with
 | true=>
  have hf:=hw.find_in (k:=k) (id:=id) (hid rfl);have:=zQ4 c0 k _ hf.1 hn hT FM true (by rw [hf.2]);rw [hf.2] at this;exact this
 | false=>
  have hf:=hw.find_out hc (k:=k) (fun id h=>hno rfl (zk8 h));have:=zQ4 c0 k _ hf.1 hn hT FM false hf.2.1;simpa using this
open Go.RowKit
structure LeadsP (L:List Rc) (f:Nat) (e:Ed) (l n:Nat):Prop where
 plain:PlainE f e l n
 at_:e.a < 2∨∃r,YO L e.a=s r∧r.f=f∧l≤r.top∧e.t≤r.top∧r.top≤16
theorem LeadsP.grow {L:List Rc} {f:Nat} {e:Ed} {l n:Nat} (h:LeadsP L f e l n) (L2:List Rc):LeadsP (L++L2) f e l n:=
 ⟨h.plain,h.at_.imp id (fun ⟨r,h1,h2⟩=>⟨r,zb2 h1 L2,h2⟩)⟩
theorem YI {w:K} {b n:Nat} {L:List Rc} {room:Nat} {F:List Nat} (h:IsSt w b n L room F) (hL:L.length≤1048576) (hn:n≤16) (f:Nat) (h1:1≤f) (h5:f≤5) (e:Ed) (l:Nat) (hl:l≤n) (hP:LeadsP L f e l n):
 Ω Q 86 #[U (s ⟨b,0,y⟩),z Z f,edv e,z G l] w fun e w'=>e=J (D true)∧C [] w w':=by
 obtain ⟨ba,bi,Fa,c0,c1,c2,hA⟩:=h.own;have hb:=O w _ c1;simp only at hb;obtain ⟨gk,hgk⟩:∃gk,gk=w.heap.size:=⟨_,rfl⟩;obtain ⟨t,a⟩:=e
 have PL:Hid (∀W,C [] (w.alloc (H #[z Z t,z Y a] 44)) W→Ω Q 120 #[z Z f,.agg #[z Z t,z Y a],z G l,z G n] W fun e w'=>e=J (D true)∧C [] W w'∧
  w'.cell? ⟨b,0,y⟩=s (z G n)∧w'.cell? ⟨gk,0,y⟩=s (z Z t)∧w'.cell? ⟨gk,1,y⟩=s (z Y a)):=fun W m=>by
  refine (zz8 f h1 h5 ⟨t,a⟩ l n hl hn hP.plain W).mono ?_;rintro e w' ⟨rfl,m2⟩;have M:=m.trans' m2;have B:=(Blk.new w #[z Z t,z Y a] 44).mod M (ze);rw [←hgk] at B;exact ⟨rfl,m2,(M.cell (a:=⟨b,0,y⟩) (zj) (ze)).trans (by rw [←c0];exact ((E [] w).alloc _).cell (a:=⟨b,0,y⟩) hb (ze)),B.cells2.1,B.cells2.2⟩
 have gn1:¬b=gk:=zc;have gn2:¬gk=b:=zc;rcases hP.at_ with h0 | ⟨r,hr,hf,htop,htag,h16⟩
 ·simp only at h0;have h0':(a:Int) < 2:=zc;clear h hA hP;unfold edv at *;simp only;go_in;go_wp2_with fail;rw [←hgk];have B0:=Blk.new' w #[z Z t,z Y a] 44 gk hgk;obtain ⟨z0,z1⟩:=B0.cells2;have y0:=(((E [] w).alloc (H #[z Z t,z Y a] 44)).cell (a:=⟨b,0,y⟩) hb (ze)).trans c0;have M0:Hid (C [] w (w.alloc (H #[z Z t,z Y a] 44))):=(E _ _).alloc _;generalize w.alloc (H #[z Z t,z Y a] 44)=w0 at *;clear B0 hgk
  go_region_held3 (fun w'=>w'.cell? ⟨b,0,y⟩=s (z G n)∧w'.cell? ⟨gk,0,y⟩=s (z Z t)∧w'.cell? ⟨gk,1,y⟩=s (z Y a)) (go_keep) (first | (go_at_call 120;refine (PL.out _ (zg)).mono ?_;rintro e' w1 ⟨rfl,m1,x0,x1,x2⟩))
  replace M0:=V (M0.out.drew.trans' m1);clear m1 z0 z1 y0 PL;go_wp2_with fail;go_ret;exact ⟨rfl,M0.out⟩
 ·simp only at hr htag;have GT:Hid (∀W,C [] w W→_):=fun W m=>zc1 (hA.mod m (ze)) hL a r hr
  have h2:=(YJ hr).1;have h2':¬(a:Int) < 2:=zc;have htop':(l:Int)≤r.top:=zc;have htag':(t:Int)≤r.top:=zc;have h16':(r.top:Int)≤16:=zc;have hff:((r.f:Int)==(f:Int))=true:=by simp [hf]
  have hlt:decide ((l:Int)≤r.top)=true:=by simpa using htop
  have hlg:decide ((t:Int)≤r.top)=true:=by simpa using htag
  obtain ⟨rf,rt,rb,⟨rlt,rla⟩,⟨rht,rha⟩⟩:=r;simp only at hf htop htag h16 htop' htag' h16' hff hlt hlg;unfold rcv at GT;simp only at GT;clear h hA hP hr;unfold edv at *;simp only;go_in;go_wp2_with fail;rw [←hgk];have B0:=Blk.new' w #[z Z t,z Y a] 44 gk hgk;obtain ⟨z0,z1⟩:=B0.cells2;have y0:=(((E [] w).alloc (H #[z Z t,z Y a] 44)).cell (a:=⟨b,0,y⟩) hb (ze)).trans c0;have M0:Hid (C [] w (w.alloc (H #[z Z t,z Y a] 44))):=(E _ _).alloc _;generalize w.alloc (H #[z Z t,z Y a] 44)=w0 at *;clear B0 hgk
  go_region_held3 (fun w'=>w'.cell? ⟨b,0,y⟩=s (z G n)∧w'.cell? ⟨gk,0,y⟩=s (z Z t)∧w'.cell? ⟨gk,1,y⟩=s (z Y a)) (go_keep) (first | (go_at_call 120;refine (PL.out _ (zg)).mono ?_;rintro e' w1 ⟨rfl,m1,x0,x1,x2⟩))
  replace M0:=V (M0.out.drew.trans' m1);clear m1 z0 z1 y0 PL;have hsz1:=M0.out.size;obtain ⟨gs,hgs⟩:∃gs,w1.heap.size=gs:=⟨_,rfl⟩;have hkl:=O w1 _ x1;have hbl:=O w1 _ x0;simp only at hkl hbl;have y1:=(M0.out.cell (a:=⟨b,1,y⟩) hb (ze)).trans c1
  have GT2:Hid (∀W,C [] w1 W→Ω Q 121 #[U (s ⟨ba,0,y⟩),z Y a] W fun e w'=>e=J (Φ #[.agg #[z Z rf,z Z rt,z Z rb,z Z rlt,z Y rla,z Z rht,z Y rha],D true])∧C [] W w'∧
   w'.cell? ⟨b,1,y⟩=s (U (s ⟨ba,0,y⟩))∧w'.cell? ⟨gk,0,y⟩=s (z Z t)∧w'.cell? ⟨gk,1,y⟩=s (z Y a)∧gk < w'.heap.size∧b < w'.heap.size∧∀c ty,Blk W gs c ty→Blk w' gs c ty):=fun W m=>by
   refine (GT.out W (M0.out.trans' m)).mono ?_;rintro e w' ⟨rfl,m2⟩;have M:=m.trans' m2;exact ⟨rfl,m2,(M.cell (a:=⟨b,1,y⟩) hbl (ze)).trans y1,(M.cell (a:=⟨gk,0,y⟩) hkl (ze)).trans x1,(M.cell (a:=⟨gk,1,y⟩) hkl (ze)).trans x2,Ψ hkl M.size,Ψ hbl M.size,fun c ty h=>h.mod m2 (ze)⟩
  have gs1:¬b=gs:=zc;have gs2:¬gs=b:=zc;have gs3:¬gk=gs:=zc;have gs4:¬gs=gk:=zc;have NB:Hid (gs < w1.heap.size→gs∈([]:List Nat)):=fun h=>absurd h (zc)
  clear GT;go_wp2_with fail
  go_region_held3 (fun w'=>w'.cell? ⟨b,1,y⟩=s (U (s ⟨ba,0,y⟩))∧w'.cell? ⟨gk,0,y⟩=s (z Z t)∧w'.cell? ⟨gk,1,y⟩=s (z Y a)) (go_keep)
   (first | (go_at_call 121;refine (GT2.out _ (zg)).mono ?_;rintro e' w2 ⟨rfl,m1,x3,x4,x5,hg2,hb2,hB⟩;first | (have zb:=hB _ _ ((Blk.new' w1 _ _ _ hgs.symm).drew);have z0:=zb.cell 0;have z1:=zb.cell 1;have z2:=zb.cell 2;have z3:=zb.cell 3;have z4:=zb.cell 4;have z5:=zb.cell 5;have z6:=zb.cell 6;simp only [List.getElem?_toArray,List.getElem?_cons_zero,List.getElem?_cons_succ] at z0 z1 z2 z3 z4 z5 z6;have zf:=zb.froz;clear zb) | skip))
  ·have M2:=V (M0.out.drew.trans' m1);clear m1 hB GT2 NB M0 x0 x1 x2 y1;go_wp2_with fail;go_ret;exact ⟨rfl,by first | exact M2.out.alloc _ | exact (M2.out.alloc _).drew | exact (M2.out.alloc _).drewN _⟩
  ·have M2:=V ((M0.out.alloc (H #[z Z 0,z Z 0,z Z 0,z Z 0,z Y 0,z Z 0,z Y 0] 139)).drew.trans' m1);have B2:=hB _ _ ((Blk.new' w1 _ _ _ hgs.symm).drew);have BX:=za4 B2 ⟨f,rt,rb,⟨rlt,rla⟩,⟨rht,rha⟩⟩;obtain ⟨g0,g1,g2,g3,g4,g5,g6⟩:=BX.cells7;have MY:=Xe (E [gs] w2) gs ⟨f,rt,rb,⟨rlt,rla⟩,⟨rht,rha⟩⟩ (fun _=>ze);have k0:=(MY.cell (a:=⟨gk,0,y⟩) hg2 (xq)).trans x4;have MX:=V (Xe M2.out gs ⟨f,rt,rb,⟨rlt,rla⟩,⟨rht,rha⟩⟩ (zc));change Exit.then _ _ _ _ (zw8 w2 gs ⟨f,rt,rb,⟨rlt,rla⟩,⟨rht,rha⟩⟩);generalize zw8 w2 gs ⟨f,rt,rb,⟨rlt,rla⟩,⟨rht,rha⟩⟩=w3 at *;clear m1 hB GT2 NB M0 M2 x0 x1 x2 x3 x4 x5 y1 z0 z1 z2 z3 z4 z5 z6 zf B2 BX MY;simp only at g0 g1 g2 g3 g4 g5 g6;go_wp2_with fail;go_ret;exact ⟨rfl,by first | exact MX.out | exact MX.out.drew | exact MX.out.drewN _⟩
end Go.Proofs.YtbnpoapmnkfhkaaGreatDoor
