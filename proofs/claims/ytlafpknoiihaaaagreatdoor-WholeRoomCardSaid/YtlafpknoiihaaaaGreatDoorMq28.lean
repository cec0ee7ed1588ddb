/- Mq28: Gb -/
import Derived.Test.YtlafpknoiihaaaaGreatDoorMq27
import Derived.Test.YtlafpknoiihaaaaGreatDoorMq22
import Derived.Deep.RegionHeld3
set_option maxRecDepth 100000
set_option maxHeartbeats 4000000
set_option linter.unusedVariables false
set_option linter.unusedSimpArgs false
namespace Go.Proofs.YtlafpknoiihaaaaGreatDoor
open Go.RowKit
theorem blank3_c (w:World):Calls Tryz.prog 97 #[.int .i64 3] w fun e w'=>∃g,e=.returned (.agg #[.int .i64 3,.slice (some ⟨g,0,none⟩) 1 1])∧Blk w' g #[.int .u64 0] 22∧w.heap.size≤g∧Mod [] w w':=by
 have WO:=Lib.hid (words_c 3 (by omega))
 obtain ⟨gk,hgk⟩:∃gk,w.heap.size=gk:=⟨_,rfl⟩
 have MK:Hid (∀w:World,(Instr.makeSlice 23 (.int .i64 1) (.int .i64 1)).run Tryz.prog w=.ok (.slice (some ⟨w.heap.size,0,none⟩) 1 1) (w.alloc (.cells #[.int .u64 0] 22))):=fun w=>by
  have h:madeCells #[Value.int .u64 0] 1=#[.int .u64 0]:=by kernel_rfl
  have:=made22 w 1 (by omega)
  rw [h] at this
  exact this
 have mk:=MK.out (w.alloc (.cells #[.int .i64 0,.slice none 0 0] 39))
 clear MK
 go_enter Tryz.func97,Tryz.ntmps97
 go_wp2_with fail
 refine (WO.out _).mono ?_
 rintro e w1 ⟨rfl,rfl⟩
 go_wp2_with fail
 have B:=(Blk.new' w #[.int .i64 3,.slice (some ⟨gk+1,0,none⟩) 1 1] 39 gk hgk.symm).alloc (.cells #[.int .u64 0] 22)
 have BW:=Blk.new' (w.alloc (.cells #[.int .i64 3,.slice (some ⟨gk+1,0,none⟩) 1 1] 39)) #[.int .u64 0] 22 (gk+1) (by simp [hgk])
 have M:Mod [] w ((w.alloc (.cells #[.int .i64 3,.slice (some ⟨gk+1,0,none⟩) 1 1] 39)).alloc (.cells #[.int .u64 0] 22)):=by exact mods
 obtain ⟨z0,z1⟩:=B.cells2
 generalize (w.alloc (.cells #[.int .i64 3,.slice (some ⟨gk+1,0,none⟩) 1 1] 39)).alloc (.cells #[.int .u64 0] 22)=X at *
 refine bodyPost_ret (v:=.agg #[.int .i64 3,.slice (some ⟨gk+1,0,none⟩) 1 1]) (by simp [results,Tryz.results97,go_sem,z0,z1];try rfl) rfl ?_
 exact ⟨gk+1,rfl,BW,by omega,M⟩
theorem or8:∀W < 256,∀x < 8,0≤bits .or .u64 ((W:Nat):Int) (IntKind.u64.wrap (2 ^ x))∧bits .or .u64 ((W:Nat):Int) (IntKind.u64.wrap (2 ^ x)) < 256:=by decide+kernel
theorem or8n (W x:Nat) (hW:W < 256) (hx:x < 8):∃W':Nat,bits .or .u64 (W:Int) (IntKind.u64.wrap (2 ^ x))=(W':Int)∧W' < 256:=by
 obtain ⟨h1,h2⟩:=or8 W hW x hx
 exact ⟨(bits .or .u64 (W:Int) (IntKind.u64.wrap (2 ^ x))).toNat,by omega,by omega⟩
def SetP (w:World) (e:Ending) (w':World):Prop:=
 ∃g W,e=.returned (.tuple #[.agg #[.int .i64 3,.slice (some ⟨g,0,none⟩) 1 1],.int .u8 0])∧W < 256∧Blk w' g #[.int .u64 (W:Nat)] 22∧w.heap.size≤g∧Mod [] w w'
theorem setOf3_c {w:World} {A:Option Addr} {n cap:Nat} {xs:List Nat} {F:List Nat} (h:Rv w (.slice A n cap) (xs.map ei) F) (hF:∀k∈F,k < w.heap.size) (hx:∀x∈xs,x < 8) (hn:n≤100000):
 Calls Tryz.prog 67 #[.int .i64 3,.slice A n cap] w (SetP w):=by
 have MY:=Lib.hid (setMay_c 3 (by omega))
 have BL:=Lib.hid blank3_c
 have HR:=Lib.hid h
 have HX:=Lib.hid hx
 have hlen:n=xs.length:=by simpa using h.len.1
 have HL:=Lib.hid hlen
 obtain ⟨gk,hgk⟩:∃gk,w.heap.size=gk:=⟨_,rfl⟩
 clear h hx hlen
 go_enter Tryz.func67,Tryz.ntmps67
 go_wp2_with fail
 refine (MY.out _).mono ?_
 rintro e w1 ⟨rfl,rfl⟩
 go_wp2_with fail
 refine (BL.out _).mono ?_
 rintro e w2 ⟨g,rfl,bg,hg,m2⟩
 have hgs0:=m2.size
 obtain ⟨gs,hgs⟩:∃gs,w2.heap.size=gs:=⟨_,rfl⟩
 have B4:=Lib.hid (((Blk.new' w #[.int .i64 0,.slice none 0 0] 39 gk hgk.symm).mod m2 (by simp)).alloc (.cells #[.int .i64 3,.slice (some ⟨g,0,none⟩) 1 1] 39))
 have B6:=Lib.hid (Blk.new' w2 #[.int .i64 3,.slice (some ⟨g,0,none⟩) 1 1] 39 gs hgs.symm)
 have BG:=Lib.hid (bg.alloc (.cells #[.int .i64 3,.slice (some ⟨g,0,none⟩) 1 1] 39))
 have M3:Hid (Mod [] w (w2.alloc (.cells #[.int .i64 3,.slice (some ⟨g,0,none⟩) 1 1] 39))):=(Mod.trans' (show Mod [] w _ from by exact mods) m2).alloc _
 have hgl:=bg.lt
 simp at hg hgs0
 have n1:gk≠g:=by omega
 have n2:gs≠g:=by omega
 have n3:gk≠gs:=by omega
 have HG:=Lib.hid hg
 clear bg hg m2 hgs0 BL MY hgl
 go_wp2_with fail
 generalize w2.alloc (.cells #[.int .i64 3,.slice (some ⟨g,0,none⟩) 1 1] 39)=w3 at *
 go_loopw [5,8,17] (fun r _ i wr=>∃(k W:Nat),i=.int .i64 k∧r=.int .u8 0∧k≤n∧W < 256∧Hid (Blk wr g #[.int .u64 W] 22)∧Hid (Blk wr gs #[.int .i64 3,.slice (some ⟨g,0,none⟩) 1 1] 39)∧Hid (Blk wr gk #[.int .i64 0,.slice none 0 0] 39)∧Hid (Mod [] w wr)) (fun _ _ i _=>n - (intOf i).toNat)
 case atStart=>exact ⟨0,0,rfl,rfl,by omega,by omega,BG,B6,B4,M3⟩
 case round=>
  obtain ⟨k,W,rfl,rfl,hk,hW,BG,B6,B4,M3⟩:=hrel
  obtain ⟨s0,s1⟩:=B6.out.cells2
  have hsl:=B6.out.lt
  have hgl:=BG.out.lt
  have g0:=BG.out.cell 0
  have gf:=BG.out.froz 0
  simp only [List.getElem?_toArray,List.getElem?_cons_zero] at g0
  by_cases hlt:k < n
  ·have hlt':(k:Int) < n:=by omega
   have hk0:(0:Int)≤k:=by omega
   have hkx:k < xs.length:=by rw [←HL.out];exact hlt
   obtain ⟨gb,off,rfl,hc⟩:=(HR.out.mod M3.out (by simp)).at k (by simpa using hkx)
   have hx8:=HX.out xs[k] (List.getElem_mem hkx)
   rw [List.getElem_map] at hc
   generalize xs[k]=x at *
   have hc':wr.cell? ⟨gb,off+k,none⟩=some (.int .i64 (x:Int)):=hc
   obtain ⟨W',hor,hW'⟩:=or8n W x hW hx8
   have HW':=Lib.hid hW'
   have hx0:¬((x:Int) < 0):=by omega
   have hx1:¬((8:Int)≤x):=by omega
   have hd:(x:Int) / 64=0:=by omega
   have hm:(x:Int) % 64=x:=by omega
   clear hc hkx hW'
   go_wp2_with fail
   go_region
   have BG2:=Lib.hid ((BG.out.set 0 (.int .u64 (W':Nat))).drew)
   have MW:=Lib.hid (((Mod.refl [g] wr).setCell ⟨g,0,none⟩ (.int .u64 (W':Nat)) (by simp)).drew)
   have B62:=Lib.hid (B6.out.mod MW.out (by simpa using n2))
   have B42:=Lib.hid (B4.out.mod MW.out (by simpa using n1))
   have M32:=Lib.hid (M3.out.trans MW.out (by intro i hi hm;simp at hm;have:=HG.out;omega))
   go_wp2_with fail
   go_roundw
   case rel=>exact ⟨k+1,W',by first | rfl | go_num,rfl,by omega,HW'.out,BG2,B62,B42,M32⟩
   case measure=>simp [intOf];omega
  ·obtain rfl:k=n:=by omega
   obtain ⟨r0,r1⟩:=B4.out.cells2
   have hrl:=B4.out.lt
   obtain ⟨f0,f1,-⟩:=B4.out.frozs
   go_wp2_with fail
   have BR:=(B4.out.set 0 (.int .i64 3)).set 1 (.slice (some ⟨g,0,none⟩) 1 1)
   simp only [List.setIfInBounds_toArray,List.set_cons_zero,List.set_cons_succ] at BR
   have MR:Mod [gk] wr ((wr.setCell ⟨gk,0,none⟩ (.int .i64 3)).setCell ⟨gk,1,none⟩ (.slice (some ⟨g,0,none⟩) 1 1)):=by exact mods
   have BGR:=BG.out.mod MR (by simpa using fun e=>n1 e.symm)
   have MF:=M3.out.trans MR (by intro i hi hm;simp at hm;omega)
   obtain ⟨z0,z1⟩:=BR.cells2
   generalize (wr.setCell ⟨gk,0,none⟩ (.int .i64 3)).setCell ⟨gk,1,none⟩ (.slice (some ⟨g,0,none⟩) 1 1)=X at *
   refine bodyPost_ret (v:=.tuple #[.agg #[.int .i64 3,.slice (some ⟨g,0,none⟩) 1 1],.int .u8 0]) (by simp [results,Tryz.results67,go_sem,z0,z1];try rfl) rfl ?_
   exact ⟨g,W,rfl,hW,BGR,by have:=HG.out;omega,MF⟩
end Go.Proofs.YtlafpknoiihaaaaGreatDoor
