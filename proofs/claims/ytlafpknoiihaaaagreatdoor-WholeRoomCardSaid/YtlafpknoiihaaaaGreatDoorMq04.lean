/- Mq04: IG · IH · IP · Ar · As · St · Su -/
import Derived.Test.YtlafpknoiihaaaaGreatDoorMq03
import Derived.Deep.RegionLaw
import Derived.Deep.RegionHeld3
set_option maxRecDepth 100000
set_option maxHeartbeats 4000000
set_option linter.unusedVariables false
set_option linter.unusedSimpArgs false
namespace Go.Proofs.YtlafpknoiihaaaaGreatDoor
open Go.RowKit
def Hd (w:World) (b g n c:Nat):Prop:=∃cap,Blk w b #[.slice (some ⟨g,0,none⟩) n cap,.int .i64 c] 169
theorem Hd.own {w:World} {b g n c:Nat} (h:Hd w b g n c):∃cap,w.cell? ⟨b,0,none⟩=some (.slice (some ⟨g,0,none⟩) n cap)∧w.cell? ⟨b,1,none⟩=some (.int .i64 c)∧∀i,w.frozen? ⟨b,i,none⟩=false:=by
 obtain ⟨cap,hb⟩:=h
 exact ⟨cap,by rw [hb.cell];rfl,by rw [hb.cell];rfl,fun i=>hb.froz i⟩
theorem Hd.lt {w:World} {b g n c:Nat} (h:Hd w b g n c):b < w.heap.size:=by obtain ⟨_,hb⟩:=h;exact hb.lt
theorem Hd.mod {S:List Nat} {w w':World} {b g n c:Nat} (h:Hd w b g n c) (m:Mod S w w') (hn:b∉S):Hd w' b g n c:=by
 obtain ⟨cap,hb⟩:=h;exact ⟨cap,hb.mod m hn⟩
theorem Hd.count {w:World} {b g n c:Nat} (h:Hd w b g n c) (c':Nat):Hd (w.setCell ⟨b,1,none⟩ (.int .i64 c')) b g n c':=by
 obtain ⟨cap,hb⟩:=h;exact ⟨cap,hb.set _ _⟩
theorem Hd.slots {w:World} {b g n c:Nat} (h:Hd w b g n c) (g' n' cap':Nat):Hd (w.setCell ⟨b,0,none⟩ (.slice (some ⟨g',0,none⟩) n' cap')) b g' n' c:=by
 obtain ⟨cap,hb⟩:=h;exact ⟨cap',hb.set _ _⟩
theorem Hd.drewN {w:World} {b g n c:Nat} (h:Hd w b g n c) (d:Nat):Hd (w.drewN d) b g n c:=h
theorem Tryz.infoT:(Tryz.prog.info? 252).map (fun i=>(i.zero,i.size,i.bytes))=some (some (.agg #[.int .u8 0,.int .u8 0,.int .u8 0,.int .u8 0,.int .u32 0,.int .u8 0,.int .u32 0,.int .u32 0,.bool false]),9,28):=by kernel_rfl
theorem make_c (N:Nat) (h1:1≤N) (hN:N≤4194304) (w:World):(Instr.makeSlice 167 (.int .i64 N) (.int .i64 N)).run Tryz.prog w=
 .ok (.slice (some ⟨w.heap.size,0,none⟩) N N) (w.alloc (.cells (madeCells #[.int .u8 0,.int .u8 0,.int .u8 0,.int .u8 0,.int .u32 0,.int .u8 0,.int .u32 0,.int .u32 0,.bool false] (N *9)) 252)):=by
 obtain ⟨i0,hi,hz0,hz1,hz2⟩:=info_parts Tryz.infoT
 have:=run_make (P:=Tryz.prog) w 167 252 i0 _ Tryz.underlying167 hi hz0 .i64 .i64 N N (by omega) (by omega) (by rw [hz2];omega) (by omega)
 simpa [hz1,Value.cells] using this
theorem inew_c (w:World):
 Calls Tryz.prog 49 #[] w fun e w'=>e=.returned (.pointer (some ⟨w.heap.size+1,0,none⟩))∧Hd w' (w.heap.size+1) w.heap.size 8 0∧Tab w' w.heap.size 8 (fun _=>(rc0,0,false))∧Mod [] w w':=by
 have hmk:∀w,(Instr.makeSlice 167 (.int .i64 8) (.int .i64 8)).run Tryz.prog w=.ok (.slice (some ⟨w.heap.size,0,none⟩) 8 8) (w.alloc (.cells (madeCells #[.int .u8 0,.int .u8 0,.int .u8 0,.int .u8 0,.int .u32 0,.int .u8 0,.int .u32 0,.int .u32 0,.bool false] (8 *9)) 252)):=make_c 8 (by omega) (by omega)
 go_enter Tryz.func49,Tryz.ntmps49
 go_wp2
 go_ret
 refine ⟨by simp,⟨_,Blk.new' _ _ _ _ (by simp)⟩,(Tab.made w 8 w.heap.size rfl).mod ((Mod.refl [] _).alloc _) (by simp),((Mod.refl _ _).alloc _).alloc _⟩
theorem find_t {w:World} {b g n c:Nat} {T:Slots} {R:Rc→Nat→Prop} {cc:Nat} (hH:Hd w b g n cc) (hT:Tab w g n T) (hw:IW n (hm n) T R c) (hc:c < n) (j:Nat) (hj:j≤20) (hn:n=2 ^ j) (hn2:2≤n) (k:Rc):
 Calls Tryz.prog 154 #[.pointer (some ⟨b,0,none⟩),rcv k] w fun e w'=>e=.returned (.int .i64 (probe T n k n (hm n k)))∧Mod [] w w':=by
 obtain ⟨cap,c0,_⟩:=hH.own
 exact find_c j n hj hn hn2 k b g cap T w c0 hT (hw.stops hc k)
theorem find_m {w:World} {b g n c:Nat} {T:Slots} {R:Rc→Nat→Prop} {cc:Nat} (hH:Hd w b g n cc) (hT:Tab w g n T) (hw:IW n (hm n) T R c) (hc:c < n) (j:Nat) (hj:j≤20) (hn:n=2 ^ j) (hn2:2≤n) (k:Rc):
 ∀W,Mod [] w W→Calls Tryz.prog 154 #[.pointer (some ⟨b,0,none⟩),rcv k] W fun e w'=>e=.returned (.int .i64 (probe T n k n (hm n k)))∧Mod [] W w':=
 fun W m=>find_t (hH.mod m (by simp)) (hT.mod m (by simp)) hw hc j hj hn hn2 k
theorem get_raw {w:World} {b g n:Nat} {T:Slots} {cap:Nat} (c0:w.cell? ⟨b,0,none⟩=some (.slice (some ⟨g,0,none⟩) n cap)) (k:Rc) (p:Nat) (hp:p < n) (hn:n≤1048576) (hT:Tab w g n T)
 (hf:∀W:World,Mod [] w W→Calls Tryz.prog 154 #[.pointer (some ⟨b,0,none⟩),rcv k] W fun e w'=>e=.returned (.int .i64 p)∧Mod [] W w') (o:Bool) (hid:(T p).2.2=o):
 Calls Tryz.prog 175 #[.pointer (some ⟨b,0,none⟩),rcv k] w fun e w'=>e=.returned (.tuple #[.int .u32 (if o=true then ((T p).2.1:Int) else 0),.bool o])∧Mod [] w w':=by
 obtain ⟨d0,d1,d2,d3,d4,d5,d6,d7,d8⟩:=hT.slot p hp
 rw [hid] at d8
 have hgl:=hT.lt
 have hbl:=World.block_lt_of_cell? w _ c0
 have hgne:¬g=w.heap.size:=by omega
 simp only at hbl
 have hbne:¬b=w.heap.size:=by omega
 clear hid hT
 generalize (T p).2.1=tid at *
 generalize (T p).1=tk at *
 obtain ⟨kf,kt,kb,⟨klt,kla⟩,⟨kht,kha⟩⟩:=k
 obtain ⟨tf,tt,tb,⟨tlt,tla⟩,⟨tht,tha⟩⟩:=tk
 simp only at d0 d1 d2 d3 d4 d5 d6 d7 d8
 obtain ⟨gk,hgk⟩:∃q,w.heap.size=q:=⟨_,rfl⟩
 have KB:Hid (Blk (w.alloc (.cells #[.int .u8 kf,.int .u8 kt,.int .u8 kb,.int .u8 klt,.int .u32 kla,.int .u8 kht,.int .u32 kha] 112)) gk #[.int .u8 kf,.int .u8 kt,.int .u8 kb,.int .u8 klt,.int .u32 kla,.int .u8 kht,.int .u32 kha] 112):=Blk.new' _ _ _ _ hgk.symm
 have M0:Hid (Mod [] w (w.alloc (.cells #[.int .u8 kf,.int .u8 kt,.int .u8 kb,.int .u8 klt,.int .u32 kla,.int .u8 kht,.int .u32 kha] 112))):=(Mod.refl _ _).alloc _
 have SOF:Hid (∀w',Mod [] (w.alloc (.cells #[.int .u8 kf,.int .u8 kt,.int .u8 kb,.int .u8 klt,.int .u32 kla,.int .u8 kht,.int .u32 kha] 112)) w'→
  w'.cell? ⟨b,0,none⟩=some (.slice (some ⟨g,0,none⟩) n cap)∧w'.cell? ⟨g,p *9,none⟩=some (.int .u8 tf)∧w'.cell? ⟨g,p *9+1,none⟩=some (.int .u8 tt)∧w'.cell? ⟨g,p *9+2,none⟩=some (.int .u8 tb)∧w'.cell? ⟨g,p *9+3,none⟩=some (.int .u8 tlt)∧
  w'.cell? ⟨g,p *9+4,none⟩=some (.int .u32 tla)∧w'.cell? ⟨g,p *9+5,none⟩=some (.int .u8 tht)∧w'.cell? ⟨g,p *9+6,none⟩=some (.int .u32 tha)∧w'.cell? ⟨g,p *9+7,none⟩=some (.int .u32 tid)∧w'.cell? ⟨g,p *9+8,none⟩=some (.bool o)∧
  w'.cell? ⟨gk,0,none⟩=some (.int .u8 kf)∧w'.cell? ⟨gk,1,none⟩=some (.int .u8 kt)∧w'.cell? ⟨gk,2,none⟩=some (.int .u8 kb)∧w'.cell? ⟨gk,3,none⟩=some (.int .u8 klt)∧w'.cell? ⟨gk,4,none⟩=some (.int .u32 kla)∧w'.cell? ⟨gk,5,none⟩=some (.int .u8 kht)∧w'.cell? ⟨gk,6,none⟩=some (.int .u32 kha)):=fun w' m=>by
  have mm:=M0.out.trans' m
  have hc:∀i v,w.cell? ⟨g,i,none⟩=some v→w'.cell? ⟨g,i,none⟩=some v:=fun i v h=>(mm.cell (a:=⟨g,i,none⟩) hgl (by simp)).trans h
  exact ⟨(mm.cell (a:=⟨b,0,none⟩) hbl (by simp)).trans c0,hc _ _ d0,hc _ _ d1,hc _ _ d2,hc _ _ d3,hc _ _ d4,hc _ _ d5,hc _ _ d6,hc _ _ d7,hc _ _ d8,(KB.out.mod m (by simp)).cells7⟩
 have FI:=Lib.hid (fun W (m:Mod [] (w.alloc (.cells #[.int .u8 kf,.int .u8 kt,.int .u8 kb,.int .u8 klt,.int .u32 kla,.int .u8 kht,.int .u32 kha] 112)) W)=>(hf W (M0.out.trans' m)).mono fun e w' (h:_∧Mod [] W w')=>(⟨h.1,h.2,SOF.out w' (m.trans' h.2),Nat.lt_of_lt_of_le hgl (Nat.le_trans (M0.out.trans' m).size h.2.size),Nat.lt_of_lt_of_le hbl (Nat.le_trans (M0.out.trans' m).size h.2.size),Nat.lt_of_lt_of_le KB.out.lt (Nat.le_trans m.size h.2.size),fun c ty hb=>hb.mod h.2 (by simp)⟩:_∧Mod [] W w'∧(w'.cell? ⟨b,0,none⟩=some (.slice (some ⟨g,0,none⟩) n cap)∧w'.cell? ⟨g,p *9,none⟩=some (.int .u8 tf)∧w'.cell? ⟨g,p *9+1,none⟩=some (.int .u8 tt)∧w'.cell? ⟨g,p *9+2,none⟩=some (.int .u8 tb)∧w'.cell? ⟨g,p *9+3,none⟩=some (.int .u8 tlt)∧
  w'.cell? ⟨g,p *9+4,none⟩=some (.int .u32 tla)∧w'.cell? ⟨g,p *9+5,none⟩=some (.int .u8 tht)∧w'.cell? ⟨g,p *9+6,none⟩=some (.int .u32 tha)∧w'.cell? ⟨g,p *9+7,none⟩=some (.int .u32 tid)∧w'.cell? ⟨g,p *9+8,none⟩=some (.bool o)∧
  w'.cell? ⟨gk,0,none⟩=some (.int .u8 kf)∧w'.cell? ⟨gk,1,none⟩=some (.int .u8 kt)∧w'.cell? ⟨gk,2,none⟩=some (.int .u8 kb)∧w'.cell? ⟨gk,3,none⟩=some (.int .u8 klt)∧w'.cell? ⟨gk,4,none⟩=some (.int .u32 kla)∧w'.cell? ⟨gk,5,none⟩=some (.int .u8 kht)∧w'.cell? ⟨gk,6,none⟩=some (.int .u32 kha))∧g < w'.heap.size∧b < w'.heap.size∧gk < w'.heap.size∧(∀c ty,Blk W (gk+1) c ty→Blk w' (gk+1) c ty)))
 have S0:=SOF.out _ (Mod.refl _ _)
 clear hf c0 d0 d1 d2 d3 d4 d5 d6 d7 d8
 unfold rcv at FI ⊢
 simp only at FI ⊢
 have hsz0:(w.alloc (.cells #[.int .u8 kf,.int .u8 kt,.int .u8 kb,.int .u8 klt,.int .u32 kla,.int .u8 kht,.int .u32 kha] 112)).heap.size=gk+1:=by simp [hgk]
 go_enter Tryz.func175,Tryz.ntmps175
 go_wp2_with fail
 generalize w.alloc (.cells #[.int .u8 kf,.int .u8 kt,.int .u8 kb,.int .u8 klt,.int .u32 kla,.int .u8 kht,.int .u32 kha] 112)=w0 at *
 have gn1:¬g=gk+1:=by omega
 have gn2:¬b=gk+1:=by omega
 have gn3:¬gk+1=g:=by omega
 have gn4:¬gk+1=b:=by omega
 have gn5:g≠gk+1:=by omega
 have gn6:b≠gk+1:=by omega
 have NB2:Hid (gk+1 < w.heap.size→gk+1∈([]:List Nat)):=fun h=>absurd h (by omega)
 have NB:Hid (gk+1 < w0.heap.size→gk+1∈([]:List Nat)):=fun h=>absurd h (by omega)
 go_region_held3 (fun w'=>w'.cell? ⟨b,0,none⟩=some (.slice (some ⟨g,0,none⟩) n cap)∧w'.cell? ⟨g,p *9,none⟩=some (.int .u8 tf)∧w'.cell? ⟨g,p *9+1,none⟩=some (.int .u8 tt)∧w'.cell? ⟨g,p *9+2,none⟩=some (.int .u8 tb)∧w'.cell? ⟨g,p *9+3,none⟩=some (.int .u8 tlt)∧
  w'.cell? ⟨g,p *9+4,none⟩=some (.int .u32 tla)∧w'.cell? ⟨g,p *9+5,none⟩=some (.int .u8 tht)∧w'.cell? ⟨g,p *9+6,none⟩=some (.int .u32 tha)∧w'.cell? ⟨g,p *9+7,none⟩=some (.int .u32 tid)∧w'.cell? ⟨g,p *9+8,none⟩=some (.bool o)∧
  w'.cell? ⟨gk,0,none⟩=some (.int .u8 kf)∧w'.cell? ⟨gk,1,none⟩=some (.int .u8 kt)∧w'.cell? ⟨gk,2,none⟩=some (.int .u8 kb)∧w'.cell? ⟨gk,3,none⟩=some (.int .u8 klt)∧w'.cell? ⟨gk,4,none⟩=some (.int .u32 kla)∧w'.cell? ⟨gk,5,none⟩=some (.int .u8 kht)∧w'.cell? ⟨gk,6,none⟩=some (.int .u32 kha))
  (go_keep)
  (first | (go_at_call 154;refine (FI.out _ (by exact mods)).mono ?_;rintro e' w1 ⟨rfl,m1,hS,hg1,hb1,hk1,hB9⟩;first | (have zb:=hB9 _ _ ((Blk.new' w0 _ _ _ hsz0.symm).drew);have z0:=zb.cell 0;have z1:=zb.cell 1;have z2:=zb.cell 2;have z3:=zb.cell 3;have z4:=zb.cell 4;have z5:=zb.cell 5;have z6:=zb.cell 6;have z7:=zb.cell 7;have z8:=zb.cell 8;simp only [List.getElem?_toArray,List.getElem?_cons_zero,List.getElem?_cons_succ] at z0 z1 z2 z3 z4 z5 z6 z7 z8;have zf:=zb.froz;clear zb) | skip))
 ·have mm:=(M0.out.drew).trans' m1
  have MM:=Lib.hid (mm.alloc (.cells #[.int .u8 tf,.int .u8 tt,.int .u8 tb,.int .u8 tlt,.int .u32 tla,.int .u8 tht,.int .u32 tha,.int .u32 tid,.bool o] 252))
  clear m1 hB9 FI SOF KB M0
  cases o with
  | true=>
   go_wp2
   go_ret2
   exact ⟨by simp,by first | exact MM.out | exact MM.out.drew | exact MM.out.drewN _⟩
  | false=>
   go_wp2
   go_ret2
   exact ⟨by simp,by first | exact MM.out | exact MM.out.drew | exact MM.out.drewN _⟩
 ·have mm:=((M0.out.alloc _).drew).trans' m1
  have MM:=Lib.hid (((((((((mm.setCell ⟨gk+1,0,none⟩ (.int .u8 tf) NB2.out).setCell ⟨gk+1,1,none⟩ (.int .u8 tt) NB2.out).setCell ⟨gk+1,2,none⟩ (.int .u8 tb) NB2.out).setCell ⟨gk+1,3,none⟩ (.int .u8 tlt) NB2.out).setCell ⟨gk+1,4,none⟩ (.int .u32 tla) NB2.out).setCell ⟨gk+1,5,none⟩ (.int .u8 tht) NB2.out).setCell ⟨gk+1,6,none⟩ (.int .u32 tha) NB2.out).setCell ⟨gk+1,7,none⟩ (.int .u32 tid) NB2.out).setCell ⟨gk+1,8,none⟩ (.bool o) NB2.out)
  clear m1 hB9 FI SOF KB M0
  cases o with
  | true=>
   go_wp2
   go_ret2
   exact ⟨by simp,by first | exact MM.out | exact MM.out.drew | exact MM.out.drewN _⟩
  | false=>
   go_wp2
   go_ret2
   exact ⟨by simp,by first | exact MM.out | exact MM.out.drew | exact MM.out.drewN _⟩
open Go.RowKit
theorem Blk.cells9 {w:World} {g:Nat} {a0 a1 a2 a3 a4 a5 a6 a7 a8:Value} {t:TypeId} (B:Blk w g #[a0,a1,a2,a3,a4,a5,a6,a7,a8] t):
 w.cell? ⟨g,0,none⟩=some a0∧w.cell? ⟨g,1,none⟩=some a1∧w.cell? ⟨g,2,none⟩=some a2∧w.cell? ⟨g,3,none⟩=some a3∧w.cell? ⟨g,4,none⟩=some a4∧w.cell? ⟨g,5,none⟩=some a5∧w.cell? ⟨g,6,none⟩=some a6∧w.cell? ⟨g,7,none⟩=some a7∧w.cell? ⟨g,8,none⟩=some a8:=by
 refine ⟨?_,?_,?_,?_,?_,?_,?_,?_,?_⟩<;>(rw [B.cell];rfl)
theorem grow_c {w:World} {b g n c:Nat} {T:Slots} {R:Rc→Nat→Prop} (hH:Hd w b g n c) (hT:Tab w g n T) (hw:IW n (hm n) T R c) (hgb:g≠b) (j:Nat) (hj:j+1≤20) (hn:n=2 ^ j) (hn2:2≤n):
 Calls Tryz.prog 192 #[.pointer (some ⟨b,0,none⟩)] w fun e w'=>e=.returned (.tuple #[])∧∃T',Hd w' b w.heap.size (2 *n) c∧Tab w' w.heap.size (2 *n) T'∧IW (2 *n) (hm (2 *n)) T' R c∧Mod [b] w w':=by
 obtain ⟨cap,c0,c1,bf⟩:=hH.own
 have b0:=bf 0
 have hbl:=hH.lt
 have hgl:=hT.lt
 have HH:=Lib.hid hH
 have HT:=Lib.hid hT
 have HW:=Lib.hid hw
 have hn3:n≤524288:=by
  have h1:2 ^ j≤2 ^ 19:=Nat.pow_le_pow_right (by omega) (by omega)
  omega
 have HN:Hid (2 *n=2 ^ (j+1)):=by rw [hn,Nat.pow_succ];show _=_;omega
 clear hH hT hw hn bf
 obtain ⟨g',hg'⟩:∃g',w.heap.size=g':=⟨_,rfl⟩
 rw [hg']
 have hbl2:b < g':=by omega
 have hgl2:g < g':=by omega
 have hmk:∀w,(Instr.makeSlice 167 (.int .i64 (2 *(n:Int))) (.int .i64 (2 *(n:Int)))).run Tryz.prog w=.ok (.slice (some ⟨w.heap.size,0,none⟩) (2 *n) (2 *n)) (w.alloc (.cells (madeCells #[.int .u8 0,.int .u8 0,.int .u8 0,.int .u8 0,.int .u32 0,.int .u8 0,.int .u32 0,.int .u32 0,.bool false] (2 *n *9)) 252)):=make_c (2 *n) (by omega) (by omega)
 go_enter Tryz.func192,Tryz.ntmps192
 go_wp2_with fail
 have M0:Mod [b] w ((w.setCell ⟨b,0,none⟩ (.slice (some ⟨g',0,none⟩) (2 *n) (2 *n))).alloc (.cells (madeCells #[.int .u8 0,.int .u8 0,.int .u8 0,.int .u8 0,.int .u32 0,.int .u8 0,.int .u32 0,.int .u32 0,.bool false] (2 *n *9)) 252)):=((Mod.refl _ _).setCell _ _ (by simp)).alloc _
 have S0:Hd ((w.setCell ⟨b,0,none⟩ (.slice (some ⟨g',0,none⟩) (2 *n) (2 *n))).alloc (.cells (madeCells #[.int .u8 0,.int .u8 0,.int .u8 0,.int .u8 0,.int .u32 0,.int .u8 0,.int .u32 0,.int .u32 0,.bool false] (2 *n *9)) 252)) b g' (2 *n) c:=(HH.out.slots g' (2 *n) (2 *n)).mod ((Mod.refl [] _).alloc _) (by simp)
 have S1:Tab ((w.setCell ⟨b,0,none⟩ (.slice (some ⟨g',0,none⟩) (2 *n) (2 *n))).alloc (.cells (madeCells #[.int .u8 0,.int .u8 0,.int .u8 0,.int .u8 0,.int .u32 0,.int .u8 0,.int .u32 0,.int .u32 0,.bool false] (2 *n *9)) 252)) g' (2 *n) (fun _=>(rc0,0,false)):=Tab.made _ (2 *n) g' (by simp [World.setCell];exact hg'.symm)
 have hgg:g'≠g:=by omega
 have hgb':g'≠b:=by omega
 have HG:=Lib.hid hg'
 clear hg' c0 c1 b0
 go_loopw [18] (fun v wr=>∃(i c':Nat) (T':Slots),v=.int .i64 i∧i≤n∧c'=cnt T i∧Hid (Hd wr b g' (2 *n) c)∧Hid (Tab wr g' (2 *n) T')∧Hid (Tab wr g n T)∧Hid (IW (2 *n) (hm (2 *n)) T' (fun k id=>∃l,l < i∧T l=(k,id,true)) c')∧Hid (Mod [b] w wr)) (fun v _=>n - (intOf v).toNat)
 case atStart=>exact ⟨0,0,_,rfl,Nat.zero_le _,rfl,S0,S1,HT.out.mod M0 (by simpa using hgb),(IW.empty (fun k=>hm_lt _ k (by omega))).congr (fun k id=>by simp),M0⟩
 case round=>
  obtain ⟨i,c',T',rfl,hi,hcc,H1,H2,H3,H4,H5⟩:=hrel
  clear S0 S1 M0
  have hbl':=H1.out.lt
  have hgl':=H2.out.lt
  have hol':=H3.out.lt
  by_cases hlt:i < n
  ·obtain ⟨cap',e0,_,_⟩:=H1.out.own
   obtain ⟨d0,d1,d2,d3,d4,d5,d6,d7,d8⟩:=H3.out.slot i hlt
   have hcn:c' < 2 *n:=by have:=cnt_le T i;omega
   have hc':=Lib.hid hcc
   clear hcc
   cases ho:(T i).2.2 with
   | false=>
    rw [ho] at d8
    have HO:=Lib.hid ho
    clear ho
    go_wp2_with fail
    go_roundw
    case rel=>
     refine ⟨i+1,c',T',rfl,hlt,(by rw [cnt,hc'.out,if_neg (by rw [show occ T i=false from HO.out];simp)];exact rfl),H1.out.mod (S:=[]) (by exact mods) (by simp),H2.out.mod (S:=[]) (by exact mods) (by simp),H3.out.mod (S:=[]) (by exact mods) (by simp),H4.out.congr (fun k id=>?_),H5.out.trans' (Mod.mono (S:=[]) (by exact mods) (by simp))⟩
     constructor
     ·rintro ⟨l,hl,hTl⟩
      by_cases hli:l=i
      ·subst hli;have h1:=HO.out;rw [hTl] at h1;simp at h1
      ·exact ⟨l,by omega,hTl⟩
     ·rintro ⟨l,hl,hTl⟩;exact ⟨l,by omega,hTl⟩
    case measure=>simp [intOf];omega
   | true=>
    rw [ho] at d8
    have hkb:=HW.out.kb i hlt ho
    have FI:=Lib.hid (find_m H1.out H2.out H4.out hcn (j+1) hj HN.out (by omega) (key T i))
    have hno:∀id,¬∃l,l < i∧T l=(key T i,id,true):=by
     rintro id ⟨l,hl,hTl⟩
     have:=HW.out.lp.uniq l i (by omega) hlt (by unfold occ;rw [hTl]) ho (by unfold key;rw [hTl];rfl)
     omega
    obtain ⟨hp,_,hput⟩:=H4.out.find_out hcn hno
    have HP:=Lib.hid (hput (T i).2.1 hkb)
    have HO:=Lib.hid ho
    clear hput hno hkb ho
    unfold key at *
    obtain ⟨tk,htk⟩:∃x,(T i).1=x:=⟨_,rfl⟩
    obtain ⟨tid,htid⟩:∃x,(T i).2.1=x:=⟨_,rfl⟩
    have HTI:Hid (T i=(tk,tid,true)):=by show _=_;rw [←htk,←htid,←HO.out]
    rw [htk] at d0 d1 d2 d3 d4 d5 d6 FI HP hp
    rw [htid] at d7 HP
    clear htk htid
    generalize probe T' (2 *n) tk (2 *n) (hm (2 *n) tk)=p at *
    obtain ⟨tf,tt,tb,⟨tlt,tla⟩,⟨tht,tha⟩⟩:=tk
    unfold rcv at FI
    simp only at d0 d1 d2 d3 d4 d5 d6 d7 FI
    obtain ⟨gs,hgs⟩:∃q,wr.heap.size=q:=⟨_,rfl⟩
    have A0:Mod [] wr (wr.alloc (.cells #[.int .u8 tf,.int .u8 tt,.int .u8 tb,.int .u8 tlt,.int .u32 tla,.int .u8 tht,.int .u32 tha,.int .u32 tid,.bool true] 252)):=(Mod.refl _ _).alloc _
    have GB:Hid (Blk (wr.alloc (.cells #[.int .u8 tf,.int .u8 tt,.int .u8 tb,.int .u8 tlt,.int .u32 tla,.int .u8 tht,.int .u32 tha,.int .u32 tid,.bool true] 252)) gs #[.int .u8 tf,.int .u8 tt,.int .u8 tb,.int .u8 tlt,.int .u32 tla,.int .u8 tht,.int .u32 tha,.int .u32 tid,.bool true] 252):=Blk.new' _ _ _ _ hgs.symm
    replace FI:=Lib.hid (fun W (m:Mod [] (wr.alloc (.cells #[.int .u8 tf,.int .u8 tt,.int .u8 tb,.int .u8 tlt,.int .u32 tla,.int .u8 tht,.int .u32 tha,.int .u32 tid,.bool true] 252)) W)=>(FI.out W (A0.trans' m)).mono fun e w' (h:_∧Mod [] W w')=>(⟨h.1,h.2,⟨((A0.trans' (m.trans' h.2)).cell (a:=⟨b,0,none⟩) hbl' (by simp)).trans e0,(GB.out.mod (m.trans' h.2) (by simp)).cells9⟩,(H2.out.mod (A0.trans' (m.trans' h.2)) (by simp)).slot p hp,(H2.out.mod (A0.trans' (m.trans' h.2)) (by simp)).froz⟩:
     _∧Mod [] W w'∧(w'.cell? ⟨b,0,none⟩=some (.slice (some ⟨g',0,none⟩) (2 *n) cap')∧w'.cell? ⟨gs,0,none⟩=some (.int .u8 tf)∧w'.cell? ⟨gs,1,none⟩=some (.int .u8 tt)∧w'.cell? ⟨gs,2,none⟩=some (.int .u8 tb)∧w'.cell? ⟨gs,3,none⟩=some (.int .u8 tlt)∧w'.cell? ⟨gs,4,none⟩=some (.int .u32 tla)∧w'.cell? ⟨gs,5,none⟩=some (.int .u8 tht)∧w'.cell? ⟨gs,6,none⟩=some (.int .u32 tha)∧w'.cell? ⟨gs,7,none⟩=some (.int .u32 tid)∧w'.cell? ⟨gs,8,none⟩=some (.bool true))∧Slot9 w' g' (p *9) (T' p)∧∀j,w'.frozen? ⟨g',j,none⟩=false))
    replace H1:=Lib.hid (H1.out.mod A0 (by simp))
    replace H2:=Lib.hid (H2.out.mod A0 (by simp))
    replace H3:=Lib.hid (H3.out.mod A0 (by simp))
    replace H5:=Lib.hid (H5.out.trans' (A0.mono (by simp)))
    have ne1:¬g'=gs:=by omega
    have ne2:¬gs=g':=by omega
    have ne3:¬b=g':=by omega
    have ne5:g'≠gs:=ne1
    have ne6:gs≠g':=ne2
    have ne7:b≠g':=ne3
    have e1:=(A0.cell (a:=⟨b,0,none⟩) hbl' (by simp)).trans e0
    obtain ⟨s0,s1,s2,s3,s4,s5,s6,s7,s8⟩:=GB.out.cells9
    have hp2:p < 2 *n:=hp
    have hp3:(p:Int) < 2 *(n:Int):=by omega
    have hp4:(p:Int) < ((2 *n:Nat):Int):=by omega
    have hp5:(0:Int)≤(p:Int):=by omega
    go_wp2_with fail
    clear A0 e0 d0 d1 d2 d3 d4 d5 d6 d7 d8
    generalize (wr.alloc (.cells #[.int .u8 tf,.int .u8 tt,.int .u8 tb,.int .u8 tlt,.int .u32 tla,.int .u8 tht,.int .u32 tha,.int .u32 tid,.bool true] 252))=w0 at *
    go_region_held3 (fun w'=>w'.cell? ⟨b,0,none⟩=some (.slice (some ⟨g',0,none⟩) (2 *n) cap')∧w'.cell? ⟨gs,0,none⟩=some (.int .u8 tf)∧w'.cell? ⟨gs,1,none⟩=some (.int .u8 tt)∧w'.cell? ⟨gs,2,none⟩=some (.int .u8 tb)∧w'.cell? ⟨gs,3,none⟩=some (.int .u8 tlt)∧w'.cell? ⟨gs,4,none⟩=some (.int .u32 tla)∧w'.cell? ⟨gs,5,none⟩=some (.int .u8 tht)∧w'.cell? ⟨gs,6,none⟩=some (.int .u32 tha)∧w'.cell? ⟨gs,7,none⟩=some (.int .u32 tid)∧w'.cell? ⟨gs,8,none⟩=some (.bool true))
     (go_keep)
     (first | (go_at_call 154;refine (FI.out _ (by exact mods)).mono ?_;rintro e' w1 ⟨rfl,m1,hS,⟨z0,z1,z2,z3,z4,z5,z6,z7,z8⟩,zf⟩))
    replace m1:Mod [] w0 w1:=((Mod.refl [] w0).drew).trans' m1
    have SM:=set9_mod (Mod.refl [g'] w1) g' (p *9) (⟨tf,tt,tb,⟨tlt,tla⟩,⟨tht,tha⟩⟩,tid,true) (fun _=>by simp)
    have TS:=Tab.store (H2.out.mod m1 (by simp)) p hp (⟨tf,tt,tb,⟨tlt,tla⟩,⟨tht,tha⟩⟩,tid,true)
    have X1:=Lib.hid ((H1.out.mod m1 (by simp)).mod SM (by simp;omega))
    have X3:=Lib.hid ((H3.out.mod m1 (by simp)).mod SM (by simp;omega))
    have X5:=Lib.hid ((H5.out.trans' (m1.mono (by simp))).trans SM (by have:=HG.out;simp;omega))
    have X2:=Lib.hid TS
    unfold set9 at X1 X2 X3 X5
    simp only at X1 X2 X3 X5
    clear m1 hS z0 z1 z2 z3 z4 z5 z6 z7 z8 zf TS SM
    go_wp2_with fail
    go_roundw
    case rel=>
     refine ⟨i+1,c'+1,_,rfl,hlt,by rw [cnt,hc'.out,if_pos (by rw [show occ T i=(T i).2.2 from rfl,HTI.out])],X1.out,X2.out,X3.out,HP.out _ (fun k' id'=>?_),X5.out⟩
     constructor
     ·rintro ⟨l,hl,hTl⟩
      by_cases hli:l=i
      ·subst hli;rw [HTI.out] at hTl;simp at hTl;exact .inl ⟨hTl.1.symm,hTl.2.symm⟩
      ·refine .inr ⟨fun hk=>?_,l,by omega,hTl⟩
       exact hli (HW.out.lp.uniq l i (by omega) hlt (by unfold occ;rw [hTl]) HO.out (by unfold key;rw [hTl,HTI.out];exact hk))
     ·rintro (⟨rfl,rfl⟩ | ⟨hk,l,hl,hTl⟩)
      ·exact ⟨i,by omega,HTI.out⟩
      ·exact ⟨l,by omega,hTl⟩
    case measure=>simp [intOf];omega
  ·obtain rfl:i=n:=by omega
   go_wp2
   go_end0
   refine ⟨rfl,T',H1.out,H2.out,?_,H5.out⟩
   have h1:=H4.out.congr (fun k id=>HW.out.r k id)
   have h2:c'=c:=by
    rw [hcc,HW.out.c]
   rw [h2] at h1
   exact h1
open Go.RowKit
theorem put_new {w:World} {b g n c j:Nat} {T:Slots} {R R':Rc→Nat→Prop} (hH:Hd w b g n c) (hT:Tab w g n T) (hw:IW n (hm n) T R c) (hgb:g≠b) (hc:c < n) (hj:j+1≤20) (hn:n=2 ^ j) (hn2:2≤n) (k:Rc) (id:Nat) (hid:id≤4294967295) (hR:∀old,¬R k old)
 (hR':∀k' id',R' k' id'↔(k'=k∧id'=id)∨(k'≠k∧R k' id')):
 Calls Tryz.prog 178 #[.pointer (some ⟨b,0,none⟩),rcv k,.int .u32 id] w fun e w'=>e=.returned (.tuple #[.int .u32 0,.bool false])∧
  ∃g' n' T',Hd w' b g' n' (c+1)∧Tab w' g' n' T'∧IW n' (hm n') T' R' (c+1)∧((n'=n∧g'=g∧2 *(c+1)≤n)∨(n'=2 *n∧w.heap.size≤g'∧n < 2 *(c+1)))∧Mod [b,g] w w':=by
 obtain ⟨cap,c0,c1,bf⟩:=hH.own
 have FI:=Lib.hid (find_m hH hT hw hc j (by omega) hn hn2 k)
 obtain ⟨hp,hno,hput⟩:=hw.find_out hc hR
 have NW:=Lib.hid (hput id hid R' hR')
 have hn3:n≤1048576:=by
  have h1:2 ^ j≤2 ^ 20:=Nat.pow_le_pow_right (by omega) (by omega)
  omega
 have HN:=Lib.hid hn
 have hbl:=hH.lt
 have hgl:=hT.lt
 generalize probe T n k n (hm n k)=p at *
 have b0:=bf 0
 have b1:=bf 1
 have HT:=Lib.hid hT
 have HH:=Lib.hid hH
 have HNO:Hid ((T p).2.2=false):=hno
 have hbg:b≠g:=hgb.symm
 clear hH hT hw hn hR hR' bf hno hput
 obtain ⟨kf,kt,kb,⟨klt,kla⟩,⟨kht,kha⟩⟩:=k
 obtain ⟨gk,hgk⟩:∃q,w.heap.size=q:=⟨_,rfl⟩
 have A0:Mod [] w (w.alloc (.cells #[.int .u8 kf,.int .u8 kt,.int .u8 kb,.int .u8 klt,.int .u32 kla,.int .u8 kht,.int .u32 kha] 112)):=(Mod.refl _ _).alloc _
 have KB:Hid (Blk (w.alloc (.cells #[.int .u8 kf,.int .u8 kt,.int .u8 kb,.int .u8 klt,.int .u32 kla,.int .u8 kht,.int .u32 kha] 112)) gk #[.int .u8 kf,.int .u8 kt,.int .u8 kb,.int .u8 klt,.int .u32 kla,.int .u8 kht,.int .u32 kha] 112):=Blk.new' _ _ _ _ hgk.symm
 have HA:=Lib.hid A0
 unfold rcv at FI ⊢
 simp only at FI ⊢
 go_enter Tryz.func178,Tryz.ntmps178
 go_wp2_with fail
 refine (FI.out _ (by exact mods)).mono ?_
 rintro e w1 ⟨rfl,m1⟩
 clear A0 c0 c1 b0 b1
 replace HA:=Lib.hid (HA.out.trans' m1)
 replace KB:=Lib.hid (KB.out.mod m1 (by simp))
 replace HT:=Lib.hid (HT.out.mod HA.out (by simp))
 replace HH:=Lib.hid (HH.out.mod HA.out (by simp))
 clear m1 FI
 obtain ⟨cap,c0,c1,bf⟩:=HH.out.own
 have b0:=bf 0
 have b1:=bf 1
 obtain ⟨d0,d1,d2,d3,d4,d5,d6,d7,d8⟩:=HT.out.slot p hp
 rw [HNO.out] at d8
 have zf:=HT.out.froz
 obtain ⟨q0,q1,q2,q3,q4,q5,q6⟩:=KB.out.cells7
 have hp3:(p:Int) < (n:Int):=by omega
 have hp5:(0:Int)≤(p:Int):=by omega
 have hgk1:¬gk=b:=by omega
 have hgk2:¬gk=g:=by omega
 go_wp2_with fail
 have gs1:¬g=gk:=by omega
 have gs2:¬g=b:=hgb
 have gs3:¬b=g:=hbg
 go_region_held3 (fun w'=>w'.cell? ⟨b,0,none⟩=some (.slice (some ⟨g,0,none⟩) n cap)∧w'.cell? ⟨gk,0,none⟩=some (.int .u8 kf)∧w'.cell? ⟨gk,1,none⟩=some (.int .u8 kt)∧w'.cell? ⟨gk,2,none⟩=some (.int .u8 kb)∧w'.cell? ⟨gk,3,none⟩=some (.int .u8 klt)∧w'.cell? ⟨gk,4,none⟩=some (.int .u32 kla)∧w'.cell? ⟨gk,5,none⟩=some (.int .u8 kht)∧w'.cell? ⟨gk,6,none⟩=some (.int .u32 kha)) (go_keep) (first | fail)
 have TS:=Lib.hid (Tab.store HT.out p hp (⟨kf,kt,kb,⟨klt,kla⟩,⟨kht,kha⟩⟩,id,true))
 have SM:=set9_mod (Mod.refl [g] w1) g (p *9) (⟨kf,kt,kb,⟨klt,kla⟩,⟨kht,kha⟩⟩,id,true) (fun _=>by simp)
 replace HH:=Lib.hid (HH.out.mod SM (by simpa using hbg))
 have SMM:=Lib.hid ((HA.out.mono (by simp)).trans SM (by intro i _ h;exact h))
 unfold set9 at TS HH SMM
 simp only at TS HH SMM
 clear SM HT KB c0 c1 bf b0 b1 d0 d1 d2 d3 d4 d5 d6 d7 d8 zf q0 q1 q2 q3 q4 q5 q6
 obtain ⟨w2,hw2⟩:∃w2,w2=(((((((((w1.setCell ⟨g,p *9,none⟩ (.int .u8 (kf:Int))).setCell ⟨g,p *9+1,none⟩ (.int .u8 (kt:Int))).setCell ⟨g,p *9+2,none⟩ (.int .u8 (kb:Int))).setCell ⟨g,p *9+3,none⟩ (.int .u8 (klt:Int))).setCell ⟨g,p *9+4,none⟩ (.int .u32 (kla:Int))).setCell ⟨g,p *9+5,none⟩ (.int .u8 (kht:Int))).setCell ⟨g,p *9+6,none⟩ (.int .u32 (kha:Int))).setCell ⟨g,p *9+7,none⟩ (.int .u32 (id:Int))).setCell ⟨g,p *9+8,none⟩ (.bool true)):=⟨_,rfl⟩
 rw [←hw2] at TS HH SMM ⊢
 clear hw2
 obtain ⟨cap,c0,c1,bf⟩:=HH.out.own
 have b1:=bf 1
 go_wp2_with fail
 have H2:=Lib.hid (HH.out.count (c+1))
 have T2:Hid (Tab (w2.setCell ⟨b,1,none⟩ (.int .i64 ((c+1:Nat):Int))) g n (put1 T p (⟨kf,kt,kb,⟨klt,kla⟩,⟨kht,kha⟩⟩,id,true))):=TS.out.mod (S:=[b]) (by exact mods) (by simpa using hgb)
 have M2:Hid (Mod [b,g] w (w2.setCell ⟨b,1,none⟩ (.int .i64 ((c+1:Nat):Int)))):=(SMM.out.mono (by intro k _ h;simp at h;simp [h])).setCell _ _ (by simp)
 rw [show (((c+1:Nat):Int))=(c:Int)+1 from rfl] at H2 T2 M2
 clear HH TS SMM c0 c1 b1 bf HA
 obtain ⟨w3,hw3⟩:∃w3,w3=w2.setCell ⟨b,1,none⟩ (.int .i64 ((c:Int)+1)):=⟨_,rfl⟩
 rw [←hw3] at H2 T2 M2 ⊢
 clear hw3
 obtain ⟨cap3,c0,c1,-⟩:=H2.out.own
 go_quiet (fail)
 by_cases hbig:n < 2 *(c+1)
 ·go_wp2_with fail
  refine (grow_c (T:=put1 T p (⟨kf,kt,kb,⟨klt,kla⟩,⟨kht,kha⟩⟩,id,true)) (R:=R') (c:=c+1) (g:=g) (H2.out.drewN _) (T2.out.drewN _) NW.out hgb j hj HN.out hn2).mono ?_
  rintro e w4 ⟨rfl,T',h1,h2,h3,h4⟩
  have X1:=Lib.hid h1
  have X2:=Lib.hid h2
  have X3:=Lib.hid h3
  have X4:=Lib.hid h4
  clear h1 h2 h3 h4
  go_wp2
  go_ret2
  exact ⟨rfl,_,_,T',X1.out,X2.out,X3.out,.inr ⟨rfl,M2.out.size,hbig⟩,Mod.trans (S':=[b]) (M2.out.drewN _) X4.out (by intro i _ h;simp at h;simp [h])⟩
 ·go_wp2_with fail
  go_ret2
  exact ⟨rfl,g,n,_,by exact H2.out,by exact T2.out,NW.out,.inl ⟨rfl,rfl,by omega⟩,M2.out.drew.drewN _⟩
open Go.RowKit
def arCell (r:Rc):List Value:=[.int .u8 r.f,.int .u8 r.top,.int .u8 r.bot,.int .u8 r.lo.t,.int .u32 r.lo.a,.int .u8 r.hi.t,.int .u32 r.hi.a,.bool true,.int .i64 0]
theorem arCell_len (r:Rc):(arCell r).length=9:=rfl
def IsAr (w:World) (b:Nat) (L:List Rc) (room:Nat) (F:List Nat):Prop:=
 ∃vc Fc,Blk w b #[vc,.slice none 0 0,.int .i64 L.length,.int .i64 room] 166∧Sl w 222 9 vc L.length (recs arCell L) Fc∧F=b::Fc∧b∉Fc
theorem IsAr.mod {S:List Nat} {w w':World} {b:Nat} {L:List Rc} {room:Nat} {F:List Nat} (h:IsAr w b L room F) (m:Mod S w w') (hd:∀k∈F,k∉S):IsAr w' b L room F:=by
 obtain ⟨vc,Fc,hb,hc,rfl,r⟩:=h
 exact ⟨vc,Fc,hb.mod m (hd b (by simp)),hc.mod m (fun k hk=>hd k (by simp [hk])),rfl,r⟩
theorem IsAr.lt {w:World} {b:Nat} {L:List Rc} {room:Nat} {F:List Nat} (h:IsAr w b L room F):∀k∈F,k < w.heap.size:=by
 obtain ⟨vc,Fc,hb,hc,rfl,r⟩:=h
 intro k hk
 simp at hk
 rcases hk with rfl | hk
 ·exact hb.lt
 ·exact hc.lt k hk
theorem IsAr.cell {w:World} {b:Nat} {L:List Rc} {room:Nat} {F:List Nat} (h:IsAr w b L room F) (i:Nat) (hi:i < L.length):
 ∃g cap,w.cell? ⟨b,0,none⟩=some (.slice (some ⟨g,0,none⟩) L.length cap)∧w.cell? ⟨g,i *9,none⟩=some (.int .u8 L[i].f)∧w.cell? ⟨g,i *9+1,none⟩=some (.int .u8 L[i].top)∧w.cell? ⟨g,i *9+2,none⟩=some (.int .u8 L[i].bot)∧w.cell? ⟨g,i *9+3,none⟩=some (.int .u8 L[i].lo.t)∧
  w.cell? ⟨g,i *9+4,none⟩=some (.int .u32 L[i].lo.a)∧w.cell? ⟨g,i *9+5,none⟩=some (.int .u8 L[i].hi.t)∧w.cell? ⟨g,i *9+6,none⟩=some (.int .u32 L[i].hi.a)∧w.cell? ⟨g,i *9+7,none⟩=some (.bool true)∧w.cell? ⟨g,i *9+8,none⟩=some (.int .i64 0):=by
 obtain ⟨vc,Fc,hb,hc,rfl,r⟩:=h
 obtain ⟨g,cap,rfl,rfl,hcap⟩:=hc.pos (by omega)
 have hx:∀j,j < 9→w.cell? ⟨g,i *9+j,none⟩=(arCell L[i])[j]? :=fun j hj=>by rw [(hc.at (i *9+j) (by omega)).1,recs_get arCell_len _ _ _ hi hj]
 exact ⟨g,cap,by rw [hb.cell];rfl,hx 0 (by omega),hx 1 (by omega),hx 2 (by omega),hx 3 (by omega),hx 4 (by omega),hx 5 (by omega),hx 6 (by omega),hx 7 (by omega),hx 8 (by omega)⟩
theorem IsAr.own {w:World} {b:Nat} {L:List Rc} {room:Nat} {F:List Nat} (h:IsAr w b L room F):∃a cap,w.cell? ⟨b,0,none⟩=some (.slice a L.length cap)∧w.cell? ⟨b,1,none⟩=some (.slice none 0 0)∧w.cell? ⟨b,2,none⟩=some (.int .i64 L.length)∧w.cell? ⟨b,3,none⟩=some (.int .i64 room)∧∀i,w.frozen? ⟨b,i,none⟩=false:=by
 obtain ⟨vc,Fc,hb,hc,rfl,r1⟩:=h
 obtain ⟨a,cap,rfl,_⟩:=hc.shape
 exact ⟨a,cap,by rw [hb.cell];rfl,by rw [hb.cell];rfl,by rw [hb.cell];rfl,by rw [hb.cell];rfl,fun i=>hb.froz i⟩
theorem arNew_c (r:Nat) (hr:r≤1048576) (w:World):
 Calls Tryz.prog 48 #[.int .i64 r] w fun e w'=>e=.returned (.tuple #[.pointer (some ⟨w.heap.size,0,none⟩),.int .u8 0])∧IsAr w' w.heap.size [] r [w.heap.size]∧Mod [] w w':=by
 go_enter Tryz.func48,Tryz.ntmps48
 go_wp2
 go_ret2
 refine ⟨rfl,⟨.slice none 0 0,[],Blk.new _ _ _,Sl.nil _ _ _,by simp,by simp⟩,(Mod.refl _ _).alloc _⟩
theorem at_raw (b g n cap i:Nat) (hi:i < n) (hn:n≤1048576) (w:World) (c0:w.cell? ⟨b,0,none⟩=some (.slice (some ⟨g,0,none⟩) n cap)) (c1:w.cell? ⟨g,i *9+7,none⟩=some (.bool true)):
 Calls Tryz.prog 125 #[.pointer (some ⟨b,0,none⟩),.int .u32 ((i:Int)+2)] w fun e w'=>e=.returned (.pointer (some ⟨g,i *9,none⟩))∧w=w':=by
 go_enter Tryz.func125,Tryz.ntmps125
 go_wp2
 go_ret
 exact ⟨rfl,rfl⟩
theorem at_far (b n cap:Nat) (a:Option Addr) (id:Int) (h2:2≤id) (hi:n≤id - 2) (hu:id≤4294967295) (w:World) (c0:w.cell? ⟨b,0,none⟩=some (.slice a n cap)):
 Calls Tryz.prog 125 #[.pointer (some ⟨b,0,none⟩),.int .u32 id] w fun e w'=>e=.returned (.pointer none)∧w=w':=by
 have h3:¬id < 2:=by omega
 go_enter Tryz.func125,Tryz.ntmps125
 go_wp2
 go_ret
 exact ⟨rfl,rfl⟩
theorem at_low (b:Nat) (id:Int) (h0:0≤id) (h2:id < 2) (w:World):
 Calls Tryz.prog 125 #[.pointer (some ⟨b,0,none⟩),.int .u32 id] w fun e w'=>e=.returned (.pointer none)∧w=w':=by
 go_enter Tryz.func125,Tryz.ntmps125
 go_wp2
 go_ret
 exact ⟨rfl,rfl⟩
open Go.RowKit
def recAt (L:List Rc) (id:Nat):Option Rc:=if 2≤id then L[id - 2]? else none
theorem arGet_live {w:World} {b:Nat} {L:List Rc} {room:Nat} {F:List Nat} (h:IsAr w b L room F) (hL:L.length≤1048576) (id:Nat) (r:Rc) (hr:recAt L id=some r):
 Calls Tryz.prog 100 #[.pointer (some ⟨b,0,none⟩),.int .u32 id] w fun e w'=>e=.returned (.tuple #[rcv r,.bool true])∧Mod [] w w':=by
 unfold recAt at hr
 split at hr
 ·rename_i h2
  obtain ⟨hlt,he⟩:=List.getElem?_eq_some_iff.1 hr
  obtain ⟨g,cap,c0,d0,d1,d2,d3,d4,d5,d6,d7,d8⟩:=h.cell (id - 2) hlt
  rw [he] at d0 d1 d2 d3 d4 d5 d6
  have hbl:=World.block_lt_of_cell? w _ c0
  have hgl:=World.block_lt_of_cell? w _ d7
  simp only at hbl hgl
  have AT:=fun W (m:Mod [] w W)=>at_raw b g _ cap (id - 2) hlt hL W ((m.cell hbl (by simp)).trans c0) ((m.cell (a:=⟨g,(id - 2) *9+7,none⟩) hgl (by simp)).trans d7)
  have e:((id - 2:Nat):Int)+2=(id:Int):=by omega
  rw [e] at AT
  have AT:=Lib.hid AT
  clear h hr hlt he c0 hL h2 e
  obtain ⟨f,tp,bt,⟨lt,la⟩,⟨ht,ha⟩⟩:=r
  unfold rcv
  simp only at d0 d1 d2 d3 d4 d5 d6 ⊢
  generalize (id - 2) *9=p at *
  go_enter Tryz.func100,Tryz.ntmps100
  go_wp2_with fail
  refine (AT.out _ (by exact mods)).mono ?_
  rintro e w' ⟨rfl,rfl⟩
  go_wp2_with fail
  first | go_ret2 | go_returns
  exact ⟨rfl,by exact mods⟩
 ·simp at hr
theorem arGet_none {w:World} {b:Nat} {L:List Rc} {room:Nat} {F:List Nat} (h:IsAr w b L room F) (hL:L.length≤1048576) (id:Nat) (hid:id≤4294967295) (hr:recAt L id=none):
 Calls Tryz.prog 100 #[.pointer (some ⟨b,0,none⟩),.int .u32 id] w fun e w'=>e=.returned (.tuple #[rcv rc0,.bool false])∧Mod [] w w':=by
 have AT:Hid (∀W,Mod [] w W→Calls Tryz.prog 125 #[.pointer (some ⟨b,0,none⟩),.int .u32 id] W fun e w'=>e=.returned (.pointer none)∧W=w'):=fun W m=>by
  obtain ⟨a,cap,c0,_⟩:=h.own
  have hbl:=World.block_lt_of_cell? w _ c0
  simp only at hbl
  unfold recAt at hr
  split at hr
  ·rename_i h2
   have hge:=List.getElem?_eq_none_iff.1 hr
   exact at_far b _ cap a id (by omega) (by omega) (by omega) W ((m.cell hbl (by simp)).trans c0)
  ·exact at_low b id (by omega) (by omega) W
 clear h hr
 unfold rcv rc0
 simp only
 go_enter Tryz.func100,Tryz.ntmps100
 go_wp2_with fail
 refine (AT.out _ (by exact mods)).mono ?_
 rintro e w' ⟨rfl,rfl⟩
 go_wp2_with fail
 first | go_ret2 | go_returns
 exact ⟨rfl,by exact mods⟩
theorem arLen_c {w:World} {b:Nat} {L:List Rc} {room:Nat} {F:List Nat} (h:IsAr w b L room F):
 Calls Tryz.prog 138 #[.pointer (some ⟨b,0,none⟩)] w fun e w'=>e=.returned (.int .i64 L.length)∧w=w':=by
 obtain ⟨a,cap,_,_,c2,_⟩:=h.own
 clear h
 go_enter Tryz.func138,Tryz.ntmps138
 go_wp2
 go_ret
 exact ⟨rfl,rfl⟩
theorem close_arPut {w X0 X w1:World} {b:Nat} {L:List Rc} {room:Nat} {a a1:Option Addr} {cap cap1:Nat} {Fc F':List Nat}
 (hb:Blk w b #[.slice a L.length cap,.slice none 0 0,.int .i64 L.length,.int .i64 room] 166)
 (hc:Sl w 222 9 (.slice a L.length cap) L.length (recs arCell L) Fc) (r1:b∉Fc) (r:Rc) (MX0:Mod [b] w X0)
 (hbX0:Blk X0 b #[.slice a L.length cap,.slice none 0 0,.int .i64 ((L.length:Int)+1),.int .i64 room] 166) (M0:Mod [] X0 X)
 (hs1:Sl w1 222 9 (.slice a1 (L.length+1) cap1) (L.length+1) (recs arCell L++arCell r) F') (hm1:Mod Fc X w1) (hf1:∀k∈F',k∈Fc∨X.heap.size≤k):
 IsAr (w1.setCell ⟨b,0,none⟩ (.slice a1 (L.length+1) cap1)) b (L++[r]) room (b::F')∧
 Mod (b::Fc) w (w1.setCell ⟨b,0,none⟩ (.slice a1 (L.length+1) cap1))∧(∀k∈b::F',k∈b::Fc∨w.heap.size≤k):=by
 have hbl:=hb.lt
 have MX:=MX0.trans M0 (by simp)
 have hbX:=hbX0.mod M0 (by simp)
 have hXs:=MX.size
 have n1:b∉F':=fun hk=>by
  rcases hf1 b hk with h | h
  ·exact r1 h
  ·omega
 have M1:Mod [b] w1 (w1.setCell ⟨b,0,none⟩ (.slice a1 (L.length+1) cap1)):=(Mod.refl _ _).setCell _ _ (by simp)
 refine ⟨⟨.slice a1 (L.length+1) cap1,F',?_,?_,rfl,n1⟩,?_,?_⟩
 ·have:=(hbX.mod hm1 r1).set 0 (.slice a1 (L.length+1) cap1)
  simpa using this
 ·have:=hs1.mod M1 (fun k hk=>by simp;intro e;subst e;exact n1 hk)
  rw [recs_append]
  simpa [recs] using this
 ·refine ((MX.mono (S':=b::Fc) (fun i _ hi=>by simp at hi;simp [hi])).trans hm1 (fun i _ hi=>by simp [hi])).trans M1 (fun i _ hi=>by simp at hi;simp [hi])
 ·intro k hk
  simp at hk
  rcases hk with rfl | hk
  ·simp
  ·rcases hf1 k hk with h | h
   ·simp [h]
   ·exact .inr (by omega)
theorem Tryz.infoC:(Tryz.prog.info? 222).map (fun i=>(i.zero,i.size,i.bytes))=some (some (.agg #[.int .u8 0,.int .u8 0,.int .u8 0,.int .u8 0,.int .u32 0,.int .u8 0,.int .u32 0,.bool false,.int .i64 0]),9,32):=by kernel_rfl
theorem arPut_c {w:World} {b:Nat} {L:List Rc} {room:Nat} {F:List Nat} (h:IsAr w b L room F) (hn:L.length < room) (hroom:room≤1048576) (r:Rc):
 Calls Tryz.prog 177 #[.pointer (some ⟨b,0,none⟩),rcv r] w fun e w'=>e=.returned (.tuple #[.int .u32 ((L.length+2:Nat):Int),.bool true])∧∃F',IsAr w' b (L++[r]) room F'∧Mod F w w'∧∀k∈F',k∈F∨w.heap.size≤k:=by
 obtain ⟨i0,hi,hz0,hz1,hz2⟩:=info_parts Tryz.infoC
 obtain ⟨vc,Fc,hb,hc,rfl,r1⟩:=h
 obtain ⟨a,cap,rfl,_⟩:=hc.shape
 have c0:=hb.cell 0
 have c1:=hb.cell 1
 have c2:=hb.cell 2
 have c3:=hb.cell 3
 have b0:=hb.froz 0
 have b2:=hb.froz 2
 simp at c0 c1 c2 c3
 have HS:Hid (∀W,Mod [b] w W→Sl W 222 9 (.slice a L.length cap) L.length (recs arCell L) Fc):=fun W M=>hc.mod M (fun k hk=>by simp;intro e;subst e;exact r1 hk)
 have HB:=Lib.hid hb
 have HC:=Lib.hid hc
 obtain ⟨f,tp,bt,⟨lt,la⟩,⟨ht,ha⟩⟩:=r
 obtain ⟨n,hln⟩:∃n,L.length=n:=⟨_,rfl⟩
 rw [hln] at c0 c2 hn HS ⊢
 have hn':(n:Int) < room:=by omega
 have hdd:decide ((room:Int)≤(n:Int))=false:=by simp;omega
 have hbl:=World.block_lt_of_cell? w _ c0
 simp only at hbl
 have HLN:=Lib.hid hln
 clear hln hb hc
 unfold rcv
 simp only
 go_enter Tryz.func177,Tryz.ntmps177
 go_wp2_with fail
 go_quiet (fail)
 go_wp2
 have MX0:Hid (Mod [b] w (((w.alloc (.cells #[.int .u8 f,.int .u8 tp,.int .u8 bt,.int .u8 lt,.int .u32 la,.int .u8 ht,.int .u32 ha] 108)).drewN nq).setCell ⟨b,2,none⟩ (.int .i64 ((n:Int)+1)))):=by exact mods
 have HX0:Hid (Blk (((w.alloc (.cells #[.int .u8 f,.int .u8 tp,.int .u8 bt,.int .u8 lt,.int .u32 la,.int .u8 ht,.int .u32 ha] 108)).drewN nq).setCell ⟨b,2,none⟩ (.int .i64 ((n:Int)+1))) b #[.slice a L.length cap,.slice none 0 0,.int .i64 ((L.length:Int)+1),.int .i64 room] 166):=by
  have:=((HB.out.alloc (.cells #[.int .u8 f,.int .u8 tp,.int .u8 bt,.int .u8 lt,.int .u32 la,.int .u8 ht,.int .u32 ha] 108)).drewN nq).set 2 (.int .i64 ((n:Int)+1))
  rw [HLN.out] at this ⊢
  refine Lib.hid ?_
  simpa using this
 have hb1:b < w.heap.size+1:=by omega
 have hb2:b < w.heap.size+2:=by omega
 have hb3:b < w.heap.size+1+1:=by omega
 have hb4:¬w.heap.size+2=b:=by omega
 have hb5:¬b=w.heap.size+2:=by omega
 have KX:Hid (∀W',Mod [] (((w.alloc (.cells #[.int .u8 f,.int .u8 tp,.int .u8 bt,.int .u8 lt,.int .u32 la,.int .u8 ht,.int .u32 ha] 108)).drewN nq).setCell ⟨b,2,none⟩ (.int .i64 ((n:Int)+1))) W'→W'.cell? ⟨b,0,none⟩=some (.slice a n cap)∧W'.frozen? ⟨b,0,none⟩=false):=fun W' m=>⟨(m.cell (a:=⟨b,0,none⟩) (by simp;omega) (by simp)).trans (by go_simp),(m.froz (a:=⟨b,0,none⟩) (by simp;omega) (by simp)).trans (by go_simp)⟩
 go_region_law (refine step_append_sl rfl _ _ 163 rfl 222 i0 (.agg #[.int .u8 0,.int .u8 0,.int .u8 0,.int .u8 0,.int .u32 0,.int .u8 0,.int .u32 0,.bool false,.int .i64 0]) 9 32 Tryz.underlying163 hi hz0 hz1 hz2 rfl (by decide) _ n (recs arCell L) Fc rfl (HS.out _ (by exact mods)) ⟨w.heap.size+2,0,none⟩ 1 1 (arCell ⟨f,tp,bt,⟨lt,la⟩,⟨ht,ha⟩⟩) (by decide) rfl rfl (by intro j u hu;first | exact list_new_at _ _ _ _ (by simp) j u hu | exact list_new_at_drew _ _ _ _ (by simp) j u hu) (by intro u hu;simp [arCell] at hu;rcases hu with rfl | rfl | rfl | rfl | rfl | rfl | rfl | rfl | rfl<;>rfl) (by unfold maxLen;omega) (by omega) ?_;intro v' w1 F' hs1 hm1 hf1;obtain ⟨a1,cap1,rfl,_⟩:=hs1.shape;have z0:=(hm1.cell (a:=⟨b,0,none⟩) (by simp;omega) r1).trans (KX.out _ (by exact mods)).1;have z1:=(hm1.froz (a:=⟨b,0,none⟩) (by simp;omega) r1).trans (KX.out _ (by exact mods)).2)
 all_goals
  go_wp2_with fail
  first | go_ret2 | go_returns
  have hC:=close_arPut HB.out HC.out r1 ⟨f,tp,bt,⟨lt,la⟩,⟨ht,ha⟩⟩ MX0.out HX0.out (by exact mods) (by rw [HLN.out];exact hs1) hm1 hf1
  rw [HLN.out] at hC
  exact ⟨rfl,_,hC⟩
open Go.RowKit
def RelOf (L:List Rc):Rc→Nat→Prop:=fun k id=>recAt L id=some k
theorem recAt_lt {L:List Rc} {id:Nat} {r:Rc} (h:recAt L id=some r):2≤id∧id < L.length+2∧L[id - 2]? =some r:=by
 unfold recAt at h
 split at h
 ·rename_i h2
  obtain ⟨hlt,he⟩:=List.getElem?_eq_some_iff.1 h
  exact ⟨h2,by omega,h⟩
 ·simp at h
theorem recAt_mem {L:List Rc} {id:Nat} {r:Rc} (h:recAt L id=some r):r∈L:=List.mem_of_getElem? (recAt_lt h).2.2
theorem recAt_of_mem {L:List Rc} {r:Rc} (h:r∈L):∃id,recAt L id=some r:=by
 obtain ⟨i,hi⟩:=List.mem_iff_getElem?.1 h
 exact ⟨i+2,by unfold recAt;simpa using hi⟩
theorem recAt_append {L:List Rc} {id:Nat} {r:Rc} (h:recAt L id=some r) (L2:List Rc):recAt (L++L2) id=some r:=by
 obtain ⟨h1,h2,h3⟩:=recAt_lt h
 unfold recAt
 rw [if_pos h1,List.getElem?_append_left (by omega)];exact h3
theorem recAt_last (L:List Rc) (r:Rc):recAt (L++[r]) (L.length+2)=some r:=by
 unfold recAt;simp
theorem recAt_snoc {L:List Rc} {r x:Rc} {id:Nat} (h:recAt (L++[r]) id=some x):(x=r∧id=L.length+2)∨recAt L id=some x:=by
 obtain ⟨h1,h2,h3⟩:=recAt_lt h
 simp at h2
 by_cases q:id=L.length+2
 ·subst q;rw [recAt_last] at h;exact .inl ⟨by simpa using h.symm,rfl⟩
 ·rw [List.getElem?_append_left (by omega)] at h3
  exact .inr (by unfold recAt;rw [if_pos h1];exact h3)
def set7 (w:World) (g:Nat) (r:Rc):World:=
 ((((((w.setCell ⟨g,0,none⟩ (.int .u8 r.f)).setCell ⟨g,1,none⟩ (.int .u8 r.top)).setCell ⟨g,2,none⟩ (.int .u8 r.bot)).setCell ⟨g,3,none⟩ (.int .u8 r.lo.t)).setCell ⟨g,4,none⟩ (.int .u32 r.lo.a)).setCell ⟨g,5,none⟩ (.int .u8 r.hi.t)).setCell ⟨g,6,none⟩ (.int .u32 r.hi.a)
theorem set7_blk {w:World} {g:Nat} {a0 a1 a2 a3 a4 a5 a6:Value} {t:TypeId} (B:Blk w g #[a0,a1,a2,a3,a4,a5,a6] t) (r:Rc):
 Blk (set7 w g r) g #[.int .u8 r.f,.int .u8 r.top,.int .u8 r.bot,.int .u8 r.lo.t,.int .u32 r.lo.a,.int .u8 r.hi.t,.int .u32 r.hi.a] t:=
 by simpa [set7] using ((((((B.set 0 (.int .u8 r.f)).set 1 (.int .u8 r.top)).set 2 (.int .u8 r.bot)).set 3 (.int .u8 r.lo.t)).set 4 (.int .u32 r.lo.a)).set 5 (.int .u8 r.hi.t)).set 6 (.int .u32 r.hi.a)
theorem set7_mod {S:List Nat} {w w':World} (m:Mod S w w') (g:Nat) (r:Rc) (hg:g < w.heap.size→g∈S):Mod S w (set7 w' g r):=
 ((((((m.setCell _ _ hg).setCell _ _ hg).setCell _ _ hg).setCell _ _ hg).setCell _ _ hg).setCell _ _ hg).setCell _ _ hg
def set2 (w:World) (g:Nat) (e:Ed):World:=(w.setCell ⟨g,0,none⟩ (.int .u8 e.t)).setCell ⟨g,1,none⟩ (.int .u32 e.a)
theorem set2_blk {w:World} {g:Nat} {a0 a1:Value} {t:TypeId} (B:Blk w g #[a0,a1] t) (e:Ed):Blk (set2 w g e) g #[.int .u8 e.t,.int .u32 e.a] t:=by simpa [set2] using (B.set 0 (.int .u8 e.t)).set 1 (.int .u32 e.a)
theorem set2_mod {S:List Nat} {w w':World} (m:Mod S w w') (g:Nat) (e:Ed) (hg:g < w.heap.size→g∈S):Mod S w (set2 w' g e):=(m.setCell _ _ hg).setCell _ _ hg
theorem Blk.cells2 {w:World} {g:Nat} {a b:Value} {t:TypeId} (B:Blk w g #[a,b] t):w.cell? ⟨g,0,none⟩=some a∧w.cell? ⟨g,1,none⟩=some b:=by
 refine ⟨?_,?_⟩<;>(rw [B.cell];rfl)
theorem Blk.frozs {w:World} {g:Nat} {A:Array Value} {t:TypeId} (B:Blk w g A t):w.frozen? ⟨g,0,none⟩=false∧w.frozen? ⟨g,1,none⟩=false∧w.frozen? ⟨g,2,none⟩=false∧w.frozen? ⟨g,3,none⟩=false∧w.frozen? ⟨g,4,none⟩=false∧w.frozen? ⟨g,5,none⟩=false∧w.frozen? ⟨g,6,none⟩=false:=
 ⟨B.froz 0,B.froz 1,B.froz 2,B.froz 3,B.froz 4,B.froz 5,B.froz 6⟩
def IsSt (w:World) (b n:Nat) (L:List Rc) (room:Nat) (F:List Nat):Prop:=
 ∃ba bi g nt j T Fa,Blk w b #[.int .i64 n,.pointer (some ⟨ba,0,none⟩),.pointer (some ⟨bi,0,none⟩)] 114∧IsAr w ba L room Fa∧Hd w bi g nt L.length∧Tab w g nt T∧
  IW nt (hm nt) T (RelOf L) L.length∧nt=2 ^ j∧2≤nt∧2 *L.length≤nt∧(nt≤8∨nt < 4 *L.length)∧L.Nodup∧F=b::bi::g::Fa∧b≠bi∧b≠g∧b∉Fa∧g≠bi∧bi∉Fa∧g∉Fa
theorem IsSt.mod {S:List Nat} {w w':World} {b n:Nat} {L:List Rc} {room:Nat} {F:List Nat} (h:IsSt w b n L room F) (m:Mod S w w') (hd:∀k∈F,k∉S):IsSt w' b n L room F:=by
 obtain ⟨ba,bi,g,nt,j,T,Fa,h1,h2,h3,h4,h5,h6,h7,h8,h9,h10,rfl,r⟩:=h
 exact ⟨ba,bi,g,nt,j,T,Fa,h1.mod m (hd b (by simp)),h2.mod m (fun k hk=>hd k (by simp [hk])),h3.mod m (hd bi (by simp)),h4.mod m (hd g (by simp)),h5,h6,h7,h8,h9,h10,rfl,r⟩
theorem IsSt.lt {w:World} {b n:Nat} {L:List Rc} {room:Nat} {F:List Nat} (h:IsSt w b n L room F):∀k∈F,k < w.heap.size:=by
 obtain ⟨ba,bi,g,nt,j,T,Fa,h1,h2,h3,h4,h5,h6,h7,h8,h9,h10,rfl,r⟩:=h
 intro k hk
 simp at hk
 rcases hk with rfl | rfl | rfl | hk
 ·exact h1.lt
 ·exact h3.lt
 ·exact h4.lt
 ·exact h2.lt k hk
theorem IsSt.own {w:World} {b n:Nat} {L:List Rc} {room:Nat} {F:List Nat} (h:IsSt w b n L room F):
 ∃ba bi Fa,w.cell? ⟨b,0,none⟩=some (.int .i64 n)∧w.cell? ⟨b,1,none⟩=some (.pointer (some ⟨ba,0,none⟩))∧w.cell? ⟨b,2,none⟩=some (.pointer (some ⟨bi,0,none⟩))∧IsAr w ba L room Fa:=by
 obtain ⟨ba,bi,g,nt,j,T,Fa,h1,h2,_⟩:=h
 exact ⟨ba,bi,Fa,by rw [h1.cell];rfl,by rw [h1.cell];rfl,by rw [h1.cell];rfl,h2⟩
theorem stVars_c (b n:Nat) (w:World) (c0:w.cell? ⟨b,0,none⟩=some (.int .i64 n)):Calls Tryz.prog 59 #[.pointer (some ⟨b,0,none⟩)] w fun e w'=>e=.returned (.int .i64 n)∧w'=w:=by
 go_enter Tryz.func59,Tryz.ntmps59
 go_wp2
 go_ret
 exact ⟨rfl,rfl⟩
theorem stLen_c {w:World} {b n:Nat} {L:List Rc} {room:Nat} {F:List Nat} (h:IsSt w b n L room F):Calls Tryz.prog 113 #[.pointer (some ⟨b,0,none⟩)] w fun e w'=>e=.returned (.int .i64 L.length)∧w=w':=by
 obtain ⟨ba,bi,Fa,c0,c1,c2,hA⟩:=h.own
 have LN:=Lib.hid (arLen_c hA)
 clear h hA
 go_enter Tryz.func113,Tryz.ntmps113
 go_wp2_with fail
 refine LN.out.mono ?_
 rintro e w' ⟨rfl,rfl⟩
 go_wp2_with fail
 go_ret
 exact ⟨rfl,rfl⟩
theorem stGet_live {w:World} {b n:Nat} {L:List Rc} {room:Nat} {F:List Nat} (h:IsSt w b n L room F) (hL:L.length≤1048576) (id:Nat) (r:Rc) (hr:recAt L id=some r):
 Calls Tryz.prog 93 #[.pointer (some ⟨b,0,none⟩),.int .u32 id] w fun e w'=>e=.returned (.tuple #[rcv r,.bool true])∧Mod [] w w':=by
 obtain ⟨ba,bi,Fa,c0,c1,c2,hA⟩:=h.own
 have hb:=World.block_lt_of_cell? w _ c1
 simp only at hb
 have GT:Hid (∀W,Mod [] w W→_):=fun W m=>arGet_live (hA.mod m (by simp)) hL id r hr
 clear h hA hr
 unfold rcv at *
 go_enter Tryz.func93,Tryz.ntmps93
 go_wp2_with fail
 refine (GT.out _ (by exact mods)).mono ?_
 rintro e w' ⟨rfl,m⟩
 have B:=(Blk.new w #[.int .u8 0,.int .u8 0,.int .u8 0,.int .u8 0,.int .u32 0,.int .u8 0,.int .u32 0] 108).mod m (by simp)
 obtain ⟨e0,e1,e2,e3,e4,e5,e6⟩:=B.cells7
 obtain ⟨f0,f1,f2,f3,f4,f5,f6⟩:=B.frozs
 have B:=Lib.hid B
 go_wp2_with fail
 have BX:=set7_blk B.out r
 obtain ⟨g0,g1,g2,g3,g4,g5,g6⟩:=BX.cells7
 have MX:=Lib.hid (set7_mod ((show Mod [] w _ by exact mods).trans m (by simp)) w.heap.size r (by omega))
 change bodyPost _ _ _ _ _ (set7 w' w.heap.size r)
 generalize set7 w' w.heap.size r=X at *
 clear m e0 e1 e2 e3 e4 e5 e6 f0 f1 f2 f3 f4 f5 f6 BX
 refine bodyPost_ret (by simp [results,Tryz.results93,g0,g1,g2,g3,g4,g5,g6,go_sem];try rfl) rfl ?_
 exact ⟨rfl,MX.out⟩
theorem stGet_none {w:World} {b n:Nat} {L:List Rc} {room:Nat} {F:List Nat} (h:IsSt w b n L room F) (hL:L.length≤1048576) (id:Nat) (hid:id≤4294967295) (hr:recAt L id=none):
 Calls Tryz.prog 93 #[.pointer (some ⟨b,0,none⟩),.int .u32 id] w fun e w'=>e=.returned (.tuple #[rcv rc0,.bool false])∧Mod [] w w':=by
 obtain ⟨ba,bi,Fa,c0,c1,c2,hA⟩:=h.own
 have hb:=World.block_lt_of_cell? w _ c1
 simp only at hb
 have GT:Hid (∀W,Mod [] w W→_):=fun W m=>arGet_none (hA.mod m (by simp)) hL id hid hr
 clear h hA hr
 unfold rcv rc0 at *
 simp only at GT ⊢
 go_enter Tryz.func93,Tryz.ntmps93
 go_wp2_with fail
 refine (GT.out _ (by exact mods)).mono ?_
 rintro e w' ⟨rfl,m⟩
 have B:=(Blk.new w #[.int .u8 0,.int .u8 0,.int .u8 0,.int .u8 0,.int .u32 0,.int .u8 0,.int .u32 0] 108).mod m (by simp)
 obtain ⟨e0,e1,e2,e3,e4,e5,e6⟩:=B.cells7
 obtain ⟨f0,f1,f2,f3,f4,f5,f6⟩:=B.frozs
 have B:=Lib.hid B
 go_wp2_with fail
 have BX:=set7_blk B.out rc0
 obtain ⟨g0,g1,g2,g3,g4,g5,g6⟩:=BX.cells7
 have MX:=Lib.hid (set7_mod ((show Mod [] w _ by exact mods).trans m (by simp)) w.heap.size rc0 (by omega))
 change bodyPost _ _ _ _ _ (set7 w' w.heap.size rc0)
 generalize set7 w' w.heap.size rc0=X at *
 clear m e0 e1 e2 e3 e4 e5 e6 f0 f1 f2 f3 f4 f5 f6 BX
 refine bodyPost_ret (by simp [results,Tryz.results93,g0,g1,g2,g3,g4,g5,g6,go_sem];try rfl) rfl ?_
 exact ⟨rfl,MX.out⟩
theorem stNew_c (n room:Nat) (hn:n≤16) (hroom:room≤1048576) (w:World):
 Calls Tryz.prog 23 #[.int .i64 n,.int .i64 room] w fun e w'=>∃b F,e=.returned (.tuple #[.pointer (some ⟨b,0,none⟩),.int .u8 0])∧IsSt w' b n [] room F∧Mod [] w w'∧∀k∈F,w.heap.size≤k:=by
 have AN:=Lib.hid (arNew_c room hroom)
 have IN:=Lib.hid inew_c
 have hn':(n:Int)≤16:=by omega
 go_enter Tryz.func23,Tryz.ntmps23
 go_wp2_with fail
 refine (AN.out _).mono ?_
 rintro e w1 ⟨rfl,a1,m1⟩
 go_wp2_with fail
 refine (IN.out _).mono ?_
 rintro e w2 ⟨rfl,h2,t2,m2⟩
 have hs1:=m1.size
 have hs2:=m2.size
 have hA:=a1.lt w.heap.size (by simp)
 have hB:=h2.lt
 have hC:=t2.lt
 have s1:Hid (Hd w2 (w1.heap.size+1) w1.heap.size 8 0):=h2
 have s2:Hid (Tab w2 w1.heap.size 8 (fun _=>(rc0,0,false))):=t2
 have s3:=Lib.hid (a1.mod m2 (by simp))
 have M:=Lib.hid (m1.trans m2 (by simp))
 clear h2 t2 a1
 go_wp2_with fail
 go_ret2
 have M3:Mod [] w2 (w2.alloc (.cells #[.int .i64 n,.pointer (some ⟨w.heap.size,0,none⟩),.pointer (some ⟨w1.heap.size+1,0,none⟩)] 114)):=(Mod.refl _ _).alloc _
 refine ⟨w2.heap.size,[w2.heap.size,w1.heap.size+1,w1.heap.size,w.heap.size],rfl,⟨w.heap.size,w1.heap.size+1,w1.heap.size,8,3,_,[w.heap.size],Blk.new _ _ _,s3.out.mod M3 (by simp),s1.out.mod M3 (by simp),s2.out.mod M3 (by simp),(IW.empty (fun k=>hm_lt 8 k (by omega))).congr (fun k id=>by simp [RelOf,recAt]),by decide,by omega,by simp,.inl (by omega),by simp,rfl,?_⟩,M.out.trans M3 (by simp),?_⟩
 ·simp;omega
 ·intro k hk;simp at hk;omega
theorem stIds_c {w:World} {bi g nt c j:Nat} {T:Slots} {L:List Rc} (hH:Hd w bi g nt c) (hT:Tab w g nt T) (hw:IW nt (hm nt) T (RelOf L) c) (hc:c < nt) (hj:nt=2 ^ j) (h2:2≤nt) (hn:nt≤1048576) (k:Rc) (o:Bool) (id:Nat)
 (hid:o=true→recAt L id=some k) (hno:o=false→k∉L):
 Calls Tryz.prog 175 #[.pointer (some ⟨bi,0,none⟩),rcv k] w fun e w'=>e=.returned (.tuple #[.int .u32 (if o=true then (id:Int) else 0),.bool o])∧Mod [] w w':=by
 obtain ⟨cap,c0,_⟩:=hH.own
 have hj20:j≤20:=by
  rcases Nat.lt_or_ge j 21 with h | h
  ·omega
  ·have:=Nat.pow_le_pow_right (n:=2) (by omega) h
   omega
 have FM:=find_m hH hT hw hc j hj20 hj h2 k
 cases o with
 | true=>
  have hf:=hw.find_in (k:=k) (id:=id) (hid rfl)
  have:=get_raw c0 k _ hf.1 hn hT FM true (by rw [hf.2])
  rw [hf.2] at this
  exact this
 | false=>
  have hf:=hw.find_out hc (k:=k) (fun id h=>hno rfl (recAt_mem h))
  have:=get_raw c0 k _ hf.1 hn hT FM false hf.2.1
  simpa using this
open Go.RowKit
structure LeadsP (L:List Rc) (f:Nat) (e:Ed) (l n:Nat):Prop where
 plain:PlainE f e l n
 at_:e.a < 2∨∃r,recAt L e.a=some r∧r.f=f∧l≤r.top∧e.t≤r.top∧r.top≤16
theorem LeadsP.grow {L:List Rc} {f:Nat} {e:Ed} {l n:Nat} (h:LeadsP L f e l n) (L2:List Rc):LeadsP (L++L2) f e l n:=
 ⟨h.plain,h.at_.imp id (fun ⟨r,h1,h2⟩=>⟨r,recAt_append h1 L2,h2⟩)⟩
theorem stLeads_c {w:World} {b n:Nat} {L:List Rc} {room:Nat} {F:List Nat} (h:IsSt w b n L room F) (hL:L.length≤1048576) (hn:n≤16) (f:Nat) (h1:1≤f) (h5:f≤5) (e:Ed) (l:Nat) (hl:l≤n) (hP:LeadsP L f e l n):
 Calls Tryz.prog 71 #[.pointer (some ⟨b,0,none⟩),.int .u8 f,edv e,.int .i64 l] w fun e w'=>e=.returned (.bool true)∧Mod [] w w':=by
 obtain ⟨ba,bi,Fa,c0,c1,c2,hA⟩:=h.own
 have hb:=World.block_lt_of_cell? w _ c1
 simp only at hb
 obtain ⟨gk,hgk⟩:∃gk,gk=w.heap.size:=⟨_,rfl⟩
 obtain ⟨t,a⟩:=e
 have PL:Hid (∀W,Mod [] (w.alloc (.cells #[.int .u8 t,.int .u32 a] 66)) W→Calls Tryz.prog 99 #[.int .u8 f,.agg #[.int .u8 t,.int .u32 a],.int .i64 l,.int .i64 n] W fun e w'=>e=.returned (.bool true)∧Mod [] W w'∧
  w'.cell? ⟨b,0,none⟩=some (.int .i64 n)∧w'.cell? ⟨gk,0,none⟩=some (.int .u8 t)∧w'.cell? ⟨gk,1,none⟩=some (.int .u32 a)):=fun W m=>by
  refine (plain_c f h1 h5 ⟨t,a⟩ l n hl hn hP.plain W).mono ?_
  rintro e w' ⟨rfl,m2⟩
  have M:=m.trans' m2
  have B:=(Blk.new w #[.int .u8 t,.int .u32 a] 66).mod M (by simp)
  rw [←hgk] at B
  exact ⟨rfl,m2,(M.cell (a:=⟨b,0,none⟩) (by simp;omega) (by simp)).trans (by rw [←c0];exact ((Mod.refl [] w).alloc _).cell (a:=⟨b,0,none⟩) hb (by simp)),B.cells2.1,B.cells2.2⟩
 have gn1:¬b=gk:=by omega
 have gn2:¬gk=b:=by omega
 rcases hP.at_ with h0 | ⟨r,hr,hf,htop,htag,h16⟩
 ·simp only at h0
  have h0':(a:Int) < 2:=by omega
  clear h hA hP
  unfold edv at *
  simp only
  go_enter Tryz.func71,Tryz.ntmps71
  go_wp2_with fail
  rw [←hgk]
  have B0:=Blk.new' w #[.int .u8 t,.int .u32 a] 66 gk hgk
  obtain ⟨z0,z1⟩:=B0.cells2
  have y0:=(((Mod.refl [] w).alloc (.cells #[.int .u8 t,.int .u32 a] 66)).cell (a:=⟨b,0,none⟩) hb (by simp)).trans c0
  have M0:Hid (Mod [] w (w.alloc (.cells #[.int .u8 t,.int .u32 a] 66))):=(Mod.refl _ _).alloc _
  generalize w.alloc (.cells #[.int .u8 t,.int .u32 a] 66)=w0 at *
  clear B0 hgk
  go_region_held3 (fun w'=>w'.cell? ⟨b,0,none⟩=some (.int .i64 n)∧w'.cell? ⟨gk,0,none⟩=some (.int .u8 t)∧w'.cell? ⟨gk,1,none⟩=some (.int .u32 a)) (go_keep) (first | (go_at_call 99;refine (PL.out _ (by exact mods)).mono ?_;rintro e' w1 ⟨rfl,m1,x0,x1,x2⟩))
  replace M0:=Lib.hid (M0.out.drew.trans' m1)
  clear m1 z0 z1 y0 PL
  go_wp2_with fail
  go_ret
  exact ⟨rfl,M0.out⟩
 ·simp only at hr htag
  have GT:Hid (∀W,Mod [] w W→_):=fun W m=>arGet_live (hA.mod m (by simp)) hL a r hr
  have h2:=(recAt_lt hr).1
  have h2':¬(a:Int) < 2:=by omega
  have htop':(l:Int)≤r.top:=by omega
  have htag':(t:Int)≤r.top:=by omega
  have h16':(r.top:Int)≤16:=by omega
  have hff:((r.f:Int)==(f:Int))=true:=by simp [hf]
  have hlt:decide ((l:Int)≤r.top)=true:=by simpa using htop
  have hlg:decide ((t:Int)≤r.top)=true:=by simpa using htag
  obtain ⟨rf,rt,rb,⟨rlt,rla⟩,⟨rht,rha⟩⟩:=r
  simp only at hf htop htag h16 htop' htag' h16' hff hlt hlg
  unfold rcv at GT
  simp only at GT
  clear h hA hP hr
  unfold edv at *
  simp only
  go_enter Tryz.func71,Tryz.ntmps71
  go_wp2_with fail
  rw [←hgk]
  have B0:=Blk.new' w #[.int .u8 t,.int .u32 a] 66 gk hgk
  obtain ⟨z0,z1⟩:=B0.cells2
  have y0:=(((Mod.refl [] w).alloc (.cells #[.int .u8 t,.int .u32 a] 66)).cell (a:=⟨b,0,none⟩) hb (by simp)).trans c0
  have M0:Hid (Mod [] w (w.alloc (.cells #[.int .u8 t,.int .u32 a] 66))):=(Mod.refl _ _).alloc _
  generalize w.alloc (.cells #[.int .u8 t,.int .u32 a] 66)=w0 at *
  clear B0 hgk
  go_region_held3 (fun w'=>w'.cell? ⟨b,0,none⟩=some (.int .i64 n)∧w'.cell? ⟨gk,0,none⟩=some (.int .u8 t)∧w'.cell? ⟨gk,1,none⟩=some (.int .u32 a)) (go_keep) (first | (go_at_call 99;refine (PL.out _ (by exact mods)).mono ?_;rintro e' w1 ⟨rfl,m1,x0,x1,x2⟩))
  replace M0:=Lib.hid (M0.out.drew.trans' m1)
  clear m1 z0 z1 y0 PL
  have hsz1:=M0.out.size
  obtain ⟨gs,hgs⟩:∃gs,w1.heap.size=gs:=⟨_,rfl⟩
  have hkl:=World.block_lt_of_cell? w1 _ x1
  have hbl:=World.block_lt_of_cell? w1 _ x0
  simp only at hkl hbl
  have y1:=(M0.out.cell (a:=⟨b,1,none⟩) hb (by simp)).trans c1
  have GT2:Hid (∀W,Mod [] w1 W→Calls Tryz.prog 100 #[.pointer (some ⟨ba,0,none⟩),.int .u32 a] W fun e w'=>e=.returned (.tuple #[.agg #[.int .u8 rf,.int .u8 rt,.int .u8 rb,.int .u8 rlt,.int .u32 rla,.int .u8 rht,.int .u32 rha],.bool true])∧Mod [] W w'∧
   w'.cell? ⟨b,1,none⟩=some (.pointer (some ⟨ba,0,none⟩))∧w'.cell? ⟨gk,0,none⟩=some (.int .u8 t)∧w'.cell? ⟨gk,1,none⟩=some (.int .u32 a)∧gk < w'.heap.size∧b < w'.heap.size∧∀c ty,Blk W gs c ty→Blk w' gs c ty):=fun W m=>by
   refine (GT.out W (M0.out.trans' m)).mono ?_
   rintro e w' ⟨rfl,m2⟩
   have M:=m.trans' m2
   exact ⟨rfl,m2,(M.cell (a:=⟨b,1,none⟩) hbl (by simp)).trans y1,(M.cell (a:=⟨gk,0,none⟩) hkl (by simp)).trans x1,(M.cell (a:=⟨gk,1,none⟩) hkl (by simp)).trans x2,Nat.lt_of_lt_of_le hkl M.size,Nat.lt_of_lt_of_le hbl M.size,fun c ty h=>h.mod m2 (by simp)⟩
  have gs1:¬b=gs:=by omega
  have gs2:¬gs=b:=by omega
  have gs3:¬gk=gs:=by omega
  have gs4:¬gs=gk:=by omega
  have NB:Hid (gs < w1.heap.size→gs∈([]:List Nat)):=fun h=>absurd h (by omega)
  clear GT
  go_wp2_with fail
  go_region_held3 (fun w'=>w'.cell? ⟨b,1,none⟩=some (.pointer (some ⟨ba,0,none⟩))∧w'.cell? ⟨gk,0,none⟩=some (.int .u8 t)∧w'.cell? ⟨gk,1,none⟩=some (.int .u32 a)) (go_keep)
   (first | (go_at_call 100;refine (GT2.out _ (by exact mods)).mono ?_;rintro e' w2 ⟨rfl,m1,x3,x4,x5,hg2,hb2,hB⟩;first | (have zb:=hB _ _ ((Blk.new' w1 _ _ _ hgs.symm).drew);have z0:=zb.cell 0;have z1:=zb.cell 1;have z2:=zb.cell 2;have z3:=zb.cell 3;have z4:=zb.cell 4;have z5:=zb.cell 5;have z6:=zb.cell 6;simp only [List.getElem?_toArray,List.getElem?_cons_zero,List.getElem?_cons_succ] at z0 z1 z2 z3 z4 z5 z6;have zf:=zb.froz;clear zb) | skip))
  ·have M2:=Lib.hid (M0.out.drew.trans' m1)
   clear m1 hB GT2 NB M0 x0 x1 x2 y1
   go_wp2_with fail
   go_ret
   exact ⟨rfl,by first | exact M2.out.alloc _ | exact (M2.out.alloc _).drew | exact (M2.out.alloc _).drewN _⟩
  ·have M2:=Lib.hid ((M0.out.alloc (.cells #[.int .u8 0,.int .u8 0,.int .u8 0,.int .u8 0,.int .u32 0,.int .u8 0,.int .u32 0] 108)).drew.trans' m1)
   have B2:=hB _ _ ((Blk.new' w1 _ _ _ hgs.symm).drew)
   have BX:=set7_blk B2 ⟨f,rt,rb,⟨rlt,rla⟩,⟨rht,rha⟩⟩
   obtain ⟨g0,g1,g2,g3,g4,g5,g6⟩:=BX.cells7
   have MY:=set7_mod (Mod.refl [gs] w2) gs ⟨f,rt,rb,⟨rlt,rla⟩,⟨rht,rha⟩⟩ (fun _=>by simp)
   have k0:=(MY.cell (a:=⟨gk,0,none⟩) hg2 (by simpa using gs3)).trans x4
   have MX:=Lib.hid (set7_mod M2.out gs ⟨f,rt,rb,⟨rlt,rla⟩,⟨rht,rha⟩⟩ (by omega))
   change Exit.then _ _ _ _ (set7 w2 gs ⟨f,rt,rb,⟨rlt,rla⟩,⟨rht,rha⟩⟩)
   generalize set7 w2 gs ⟨f,rt,rb,⟨rlt,rla⟩,⟨rht,rha⟩⟩=w3 at *
   clear m1 hB GT2 NB M0 M2 x0 x1 x2 x3 x4 x5 y1 z0 z1 z2 z3 z4 z5 z6 zf B2 BX MY
   simp only at g0 g1 g2 g3 g4 g5 g6
   go_wp2_with fail
   go_ret
   exact ⟨rfl,by first | exact MX.out | exact MX.out.drew | exact MX.out.drewN _⟩
end Go.Proofs.YtlafpknoiihaaaaGreatDoor
