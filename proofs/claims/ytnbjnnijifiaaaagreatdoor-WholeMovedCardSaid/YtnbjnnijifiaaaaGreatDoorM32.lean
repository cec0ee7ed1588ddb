/- M32: Xf · Ws · Wt · Ya · Yb · Yc · Yd · Yf · Yg -/
import Derived.Test.YtnbjnnijifiaaaaGreatDoorM19
import Derived.Test.YtnbjnnijifiaaaaGreatDoorM31
import Derived.Test.YtnbjnnijifiaaaaGreatDoorM28
import Derived.Deep.RegionLaw
import Derived.Deep.RegionHeld3
set_option maxHeartbeats 4000000
set_option maxRecDepth 100000
set_option linter.unusedVariables false
set_option linter.unusedSimpArgs false
namespace Go.Proofs.YtnbjnnijifiaaaaGreatDoor
open Go.RowKit
theorem swpT_fold (W n:Nat):∀(l p:List Nat),p.length=n→(∀s∈l,s+1 < n)→l.foldl (fun t s=>swpT s n t) (tabL W p n 0 0)=tabL W (l.foldl swapL p) n 0 0
 | [],p,_,_=>rfl
 | s::l,p,hp,h=>by
  have hs:=h s (by simp)
  have e:=tabL_swap W p s n 0 0 (by omega) (by omega)
  rw [Nat.zero_add] at e
  simp only [List.foldl_cons]
  rw [←e]
  exact swpT_fold W n l (swapL p s) (by rw [swapL_len];exact hp) (fun x hx=>h x (by simp [hx]))
def PmP (w:World) (b n room bo:Nat) (L:List Rc) (F Fo p2:List Nat) (f:Nat) (t:List Bool) (r:Ending) (w':World):Prop:=
 ∃(go et ea:Nat) (L2:List Rc) (F' q':List Nat),r=.returned (.tuple #[.slice (some ⟨go,0,none⟩) 1 1,.int .u8 0])∧Blk w' go #[.int .u8 et,.int .u32 ea] 39∧Sto w' b n room (L++L2) F'∧IsOrdD w' bo p2 q' Fo∧
  Mod (F++Fo) w w'∧(∀k∈F',k∈F∨w.heap.size≤k)∧EdT (L++L2) f n n 0 ⟨et,ea⟩ t∧w.heap.size≤go∧go∉F'∧L2.length≤1550
theorem permute_c {w:World} {b n room bo f et ea g cap W:Nat} {L:List Rc} {F Fo F2 p p2 q:List Nat} {v:Value} (S:Sto w b n room L F) (O:IsOrdD w bo p q Fo) (iv:Inv p q) (hp:Perm p n) (hl:Rv w v (p2.map ei) F2) (hp2:Perm p2 n)
 (hE:EdT L f n n 0 ⟨et,ea⟩ (tabL W p n 0 0)) (h1:1≤f) (h5:f≤5) (hn:n≤5) (hrm:room≤1048576) (hr1:L.length+1550≤room) (hr2:L.length+1550≤100000)
 (c0:w.cell? ⟨g,0,none⟩=some (.int .u8 f)) (c1:w.cell? ⟨g,1,none⟩=some (.int .u8 et)) (c2:w.cell? ⟨g,2,none⟩=some (.int .u32 ea)) (hgF:g∉F) (hFo:∀k∈Fo,k∉F):
 Calls Tryz.prog 12 #[.pointer (some ⟨b,0,none⟩),.pointer (some ⟨bo,0,none⟩),v,.slice (some ⟨g,0,none⟩) 1 cap] w (PmP w b n room bo L F Fo p2 f (tabL W p2 n 0 0)):=by
 obtain ⟨A,vcap,rfl,hvc⟩:=hl.shape
 simp only [List.length_map] at hvc ⊢
 have hgl:=World.block_lt_of_cell? w _ c0
 simp only at hgl
 have FT:=Lib.hid (swapFit_c n b bo w (by
  obtain ⟨ba,bi,Fa,k0,_⟩:=S.st.own
  exact stVars_c b n w k0) (by
  have:=ordVars_c O.ord;rw [hp.len] at this;exact this))
 have PC:=Lib.hid (perm_c O.ord (by rw [hp.len];omega))
 have HS:=Lib.hid S
 have HO:=Lib.hid O
 have HI:=Lib.hid iv
 have HP:=Lib.hid hp
 have HP2:=Lib.hid hp2
 have HL:=Lib.hid hl
 have HE:=Lib.hid hE
 have HF:=Lib.hid (And.intro hgF hFo)
 have RM:=Lib.hid (And.intro hr1 hr2)
 have CG:=Lib.hid (And.intro c0 (And.intro c1 c2))
 have OL:=Lib.hid O.lt
 have SL:=Lib.hid S.st.lt
 clear S O iv hp hp2 hl hE hgF hFo hr1 hr2 c0 c1 c2
 go_enter Tryz.func12,Tryz.ntmps12
 go_wp2_with fail
 refine FT.out.mono ?_
 rintro e w1 ⟨rfl,hw⟩
 subst hw
 go_wp2_with fail
 refine PC.out.mono ?_
 rintro e w2 ⟨v2,rfl,nv⟩
 obtain ⟨A2,cap2,rfl⟩:=nv.shape
 obtain ⟨Fv,rv,hFv⟩:=nv.rv
 have MV:=Lib.hid nv.mod
 have ST:=Lib.hid (steps_c rv (HL.out.mod nv.mod (by simp)) HP.out HP2.out (by omega))
 simp only [List.length_map] at ST ⊢
 clear FT PC nv rv hFv
 go_wp2_with fail
 refine ST.out.mono ?_
 rintro e w3 ⟨v3,l,rfl,nv,sd⟩
 obtain ⟨A3,cap3,rfl⟩:=nv.shape
 obtain ⟨F3,r3,hF3⟩:=nv.rv
 have M3:=Lib.hid (MV.out.trans' nv.mod)
 have hms:=MV.out.size
 have hl25:l.length≤25:=by
  have h1:=sd.len
  have h2:n *n≤5 *5:=Nat.mul_le_mul hn hn
  omega
 have SD:=Lib.hid sd
 have HL3:=Lib.hid hl25
 have AC:=Lib.hid (all_c (cap:=cap) (HS.out.mod M3.out (by simp)) (HO.out.mod M3.out (by simp)) HI.out HP.out r3 HE.out h1 h5 hn hrm (by have:=RM.out;omega) (by have:=RM.out;omega) sd.ok hl25
  ((M3.out.cell (a:=⟨g,0,none⟩) hgl (by simp)).trans CG.out.1) ((M3.out.cell (a:=⟨g,1,none⟩) hgl (by simp)).trans CG.out.2.1) ((M3.out.cell (a:=⟨g,2,none⟩) hgl (by simp)).trans CG.out.2.2) HF.out.1 HF.out.2
  (fun k hk=>⟨fun h=>by have:=SL.out k h;have:=hF3 k hk;omega,fun h=>by have:=OL.out k h;have:=hF3 k hk;omega⟩))
 simp only [List.length_map] at AC ⊢
 clear ST nv r3 hF3 sd hl25
 go_wp2_with fail
 refine AC.out.mono ?_
 rintro e w4 ⟨go,et',ea',L2,F',q',rfl,x1,x2,x3,x4,x5,x6,x7,x8,x9⟩
 have X:=Lib.hid (And.intro x1 (And.intro x2 (And.intro x3 (And.intro x4 (And.intro x5 (And.intro x6 (And.intro x7 (And.intro x8 x9))))))))
 clear x1 x2 x3 x4 x5 x6 x7 x8 x9 AC
 go_wp2_with fail
 go_ret2
 obtain ⟨x1,x2,x3,x4,x5,x6,x7,x8,x9⟩:=X.out
 rw [SD.out.fold] at x3
 have hs:=M3.out.size
 refine ⟨go,et',ea',L2,F',q',rfl,x1,x2,x3,(M3.out.mono (by simp)).trans' x4,fun k hk=>(x5 k hk).imp (fun h=>h) (fun h=>by omega),?_,by omega,x8,by have:=HL3.out;omega⟩
 rw [swpT_fold W n l p HP.out.len SD.out.ok,SD.out.fold] at x6
 exact x6
open Go.RowKit
theorem penNodes_c {bp bm b f n room:Nat} {L:List Rc} {F:List Nat} (h1:1≤f) (h5:f≤5) (hn16:n≤16) (hL:L.length≤100000) (hnd:L.Nodup) (hG:Good L n):∀T:Tr,NodC bp bm b f n room L F T:=by
 intro T
 induction T with
 | leaf c=>exact nodes_leaf hL c
 | node t b tl x th y ihx ihy=>
  intro w0 W Fb0 no bs gs t' a h hr hc hn hlf hno hbs
  obtain ⟨r,hrec,hrf,rfl,rfl,rfl,rfl,hx,hy⟩:=hr.inv
  by_cases hm:Tr.node r.top r.bot r.lo.t x r.hi.t y∈no
  ·exact nodes_seen hL h hr hm hrec (by rw [wrN,if_pos hm])
  ·exact nodes_fresh h1 h5 hn16 hL hnd (hG a r hrec) ihx ihy h hrec hrf hx hy hm hc hn hlf hno hbs
def HdS (w5 W:World) (hp:Nat) (hb:List Nat):Prop:=∃Fh,PenB W hp (.pointer none) 0 (.map none) hb Fh∧Mod [] w5 W∧∀k∈hp::Fh,w5.heap.size≤k
theorem HdS.num {w5 W:World} {hp:Nat} {hb:List Nat} (h:HdS w5 W hp hb) {k:Nat} (hk:k < 128) (hl:hb.length≤100000):
 Calls Tryz.prog 74 #[.pointer (some ⟨hp,0,none⟩),.int .u64 k] W fun e w'=>e=.returned (.tuple #[])∧HdS w5 w' hp (hb++[k]):=by
 obtain ⟨Fh,p,m,o⟩:=h
 refine (penNum_c p hk hl).mono ?_
 rintro e w' ⟨rfl,Fh',p',m',o'⟩
 refine ⟨rfl,Fh',p',m.trans m' (fun i hi h=>?_),fun k hk=>?_⟩
 ·have:=o i h;omega
 ·rcases List.mem_cons.1 hk with rfl | hk
  ·exact o _ (by simp)
  ·rcases o' k hk with q | q
   ·exact o k (by simp [q])
   ·have:=m.size;omega
theorem HdS.mod {w5 W W':World} {hp:Nat} {hb:List Nat} (h:HdS w5 W hp hb) (m:Mod [] W W'):HdS w5 W' hp hb:=by
 obtain ⟨Fh,p,m',o⟩:=h
 exact ⟨Fh,p.mod m (by simp),m'.trans' m,o⟩
theorem written_c {w:World} {b n room f t a:Nat} {L:List Rc} {F Fp p:List Nat} {v:Value} {T:Tr} (h1:1≤f) (h5:f≤5) (hn16:n≤16) (hL:L.length≤100000) (hnd:L.Nodup) (hG:Good L n) (hS:IsSt w b n L room F) (hv:Rv w v (p.map ei) Fp) (hp:p.length≤16) (hp16:∀x∈p,x < 128)
 (hr:Rep L f a T) (ht:t < 128) (hsz:tsz T≤100):
 Calls Tryz.prog 31 #[.pointer (some ⟨b,0,none⟩),v,.int .u8 f,.agg #[.int .u8 t,.int .u32 a]] w fun e w'=>∃v',e=.returned v'∧NewV 5 w ((savedB f n p (t,T)).map ey) w' v':=by
 obtain ⟨A,vcap,rfl,hvc⟩:=hv.shape
 simp only [List.length_map] at hvc ⊢
 obtain ⟨ln,hln⟩:∃ln,p.length=ln:=⟨_,rfl⟩
 rw [hln] at hvc hp ⊢
 have HLN:=Lib.hid hln
 obtain ⟨gk,hgk⟩:∃gk,w.heap.size=gk:=⟨_,rfl⟩
 have hmm:=@run_makeMap Tryz.prog
 have HS:=Lib.hid hS
 have HV:=Lib.hid hv
 have HR:=Lib.hid hr
 have HP:=Lib.hid hp16
 have ha:=rep_lt hr hL
 have spec:=wrN_spec f T [] Clo.nil List.nodup_nil
 have wl:=wrN_len f T []
 have WL:=Lib.hid wl
 have HAS:=Lib.hid spec.has
 clear hS hv hr hp16 hln wl spec
 have hln':(ln:Int)≤16:=by omega
 have hf':(f:Int)≤5:=by omega
 have hn':(n:Int)≤16:=by omega
 go_enter Tryz.func31,Tryz.ntmps31
 go_upto_region 2 with fail
 have M0:Hid (Mod [] w (((w.alloc (.cells #[.int .u8 t,.int .u32 a] 39)).alloc (.map #[] 0)).alloc (.cells #[.pointer (some ⟨b,0,none⟩),.int .u8 f,.slice none 0 0,.map (some (gk+1))] 154))):=by exact mods
 have BE:=Lib.hid (((Blk.new' w #[.int .u8 t,.int .u32 a] 39 gk hgk.symm).alloc (.map #[] 0)).alloc (.cells #[.pointer (some ⟨b,0,none⟩),.int .u8 f,.slice none 0 0,.map (some (gk+1))] 154))
 have BM:=Lib.hid ((IsNo.made (w.alloc (.cells #[.int .u8 t,.int .u32 a] 39)) (gk+1) (by simp [hgk]) L f).mod (S:=[]) (show Mod [] _ (((w.alloc (.cells #[.int .u8 t,.int .u32 a] 39)).alloc (.map #[] 0)).alloc (.cells #[.pointer (some ⟨b,0,none⟩),.int .u8 f,.slice none 0 0,.map (some (gk+1))] 154)) from by exact mods) (by simp))
 have BP:=Lib.hid (Blk.new' ((w.alloc (.cells #[.int .u8 t,.int .u32 a] 39)).alloc (.map #[] 0)) #[.pointer (some ⟨b,0,none⟩),.int .u8 f,.slice none 0 0,.map (some (gk+1))] 154 (gk+2) (by simp [hgk]))
 generalize ((w.alloc (.cells #[.int .u8 t,.int .u32 a] 39)).alloc (.map #[] 0)).alloc (.cells #[.pointer (some ⟨b,0,none⟩),.int .u8 f,.slice none 0 0,.map (some (gk+1))] 154)=w1 at *
 have H1:Hid (NodS w1 w1 (gk+2) (gk+1) b f n room L F [] [] [] [(gk,#[.int .u8 t,.int .u32 a],39)]):=by
  have hlt:=HS.out.lt
  refine ⟨[],⟨_,BP.out,Sl.nil _ _ _,by simp⟩,BM.out,fun x hx=>?_,by simp,Mod.refl _ _,by simp,HS.out.mod M0.out (by simp),fun k hk h=>?_⟩
  ·simp at hx;subst hx
   exact ⟨BE.out,by simp⟩
  ·have:=hlt k hk
   simp at h;omega
 have N1:=Lib.hid (penNodes_c h1 h5 hn16 hL hnd hG T w1 w1 [] [] [] _ t a H1.out HR.out Clo.nil List.nodup_nil (by simp) (by simp;omega) (by simp;omega))
 obtain ⟨e0,e1⟩:=H1.out.hd.cells2
 clear BE BM BP hmm
 go_wp2_with fail
 refine N1.out.mono ?_
 rintro e w2 ⟨rfl,h2⟩
 have H2:=Lib.hid h2
 clear h2 N1 H1 e0 e1
 obtain ⟨e0,e1⟩:=H2.out.hd.cells2
 have E1:=Lib.hid (H2.out.edge (t:=t) (a:=a) HR.out HAS.out ht ha (by have:=WL.out;simp at this;omega) (by have:=WL.out;simp at this;simp;omega) h5)
 go_wp2_with fail
 refine E1.out.mono ?_
 rintro e w3 ⟨rfl,h3⟩
 have H3:=Lib.hid h3
 clear h3 H2 E1 e0 e1
 have MW3:Hid (Mod [] w w3):=by
  obtain ⟨Fb,-,-,-,-,m,-⟩:=H3.out
  exact M0.out.trans m (fun i hi h=>by simp at h;omega)
 obtain ⟨hq,hhq⟩:∃hq,w3.heap.size=hq:=⟨_,rfl⟩
 have BL:Hid (([]++(wrN f T []).2++edgeB f (wrN f T []).1 t T).length≤2000∧(wrN f T []).1.length≤100):=by
  have:=WL.out
  have h2:=edgeB_len f (wrN f T []).1 t T
  simp only [List.length_append,List.length_nil] at this ⊢
  exact ⟨by simp;omega,by omega⟩
 have VA:Hid (∀W',Mod [] w3 W'→Calls Tryz.prog 26 #[.pointer (some ⟨b,0,none⟩)] W' fun e w'=>e=.returned (.int .i64 n)∧w'=W'):=fun W' m=>by
  obtain ⟨ba,bi,Fa,c0,_⟩:=(H3.out.st.mod m (by simp)).own
  exact stVars_c b n W' c0
 go_upto_region 5 with fail
 have D0:Hid (HdS w3 (w3.alloc (.cells #[.pointer none,.int .u8 0,.slice none 0 0,.map none] 154)) hq []):=
  ⟨[],⟨_,Blk.new' w3 _ _ hq hhq.symm,Sl.nil _ _ _,by simp⟩,(Mod.refl _ _).alloc _,fun k hk=>by simp at hk;omega⟩
 have MM4:Hid (Mod [] w3 (w3.alloc (.cells #[.pointer none,.int .u8 0,.slice none 0 0,.map none] 154))):=(Mod.refl _ _).alloc _
 generalize w3.alloc (.cells #[.pointer none,.int .u8 0,.slice none 0 0,.map none] 154)=w4 at *
 have U1:=Lib.hid (D0.out.num (k:=n) (by omega) (by simp))
 go_wp2_with fail
 refine (VA.out _ MM4.out).mono ?_
 rintro e w5 ⟨rfl,hw5⟩
 subst hw5
 go_wp2_with fail
 refine U1.out.mono ?_
 rintro e w6 ⟨rfl,d1⟩
 have D1:=Lib.hid d1
 have U2:=Lib.hid (d1.num (k:=f) (by omega) (by simp))
 clear d1 D0 U1 MM4 VA
 go_wp2_with fail
 refine U2.out.mono ?_
 rintro e w7 ⟨rfl,d2⟩
 have D2:Hid (HdS w3 w7 hq ([n,f]++p.take 0)):=d2
 clear d2 U2 D1
 go_wp2_with fail
 go_loopw [37] (fun i wr=>∃k:Nat,k≤ln∧i=.int .i64 k∧Hid (HdS w3 wr hq ([n,f]++p.take k))) (fun i _=>(ln - intOf i).toNat)
 case atStart=>exact ⟨0,by omega,rfl,D2⟩
 case round=>
  clear D2
  obtain ⟨k,hk,rfl,D⟩:=hrel
  by_cases hlt:k < ln
  ·have hlt':(k:Int) < ln:=by omega
   have hk1:k < p.length:=by rw [HLN.out];exact hlt
   obtain ⟨b1,o1,rfl,c0⟩:=(HV.out.mod (MW3.out.trans' (by obtain ⟨_,_,m,_⟩:=D.out;exact m)) (by simp)).at k (by rw [List.length_map];exact hk1)
   rw [List.getElem_map] at c0
   have hx:=HP.out p[k] (List.getElem_mem _)
   have TK:Hid ([n,f]++p.take k++[p[k]]=[n,f]++p.take (k+1)):=by show _=_;rw [List.take_succ_eq_append_getElem hk1];simp
   have UK:=Lib.hid (D.out.num (k:=p[k]) hx (by simp;omega))
   rw [TK.out] at UK
   unfold ei at c0
   generalize p[k]=x at *
   have hx':(x:Int) < 128:=by omega
   go_wp2_with fail
   refine UK.out.mono ?_
   rintro e w8 ⟨rfl,d⟩
   have DD:=Lib.hid d
   clear d UK D c0 TK
   go_wp2_with fail
   go_roundw
   case rel=>exact ⟨k+1,by omega,by go_num,DD⟩
   case measure=>simp [intOf];omega
  ·obtain rfl:ln=k:=by omega
   rw [List.take_of_length_le (by rw [HLN.out];exact Nat.le_refl _)] at D
   obtain ⟨M3r,-⟩:∃m:Hid (Mod [] w3 wr),True:=⟨by obtain ⟨_,_,m,_⟩:=D.out;exact m,trivial⟩
   have H4:=Lib.hid (H3.out.mod M3r.out)
   obtain ⟨vb,hB⟩:=H4.out.pen
   have c3:=hB.cell 3
   simp only [List.getElem?_toArray,List.getElem?_cons_zero,List.getElem?_cons_succ] at c3
   have LN:=(H4.out.is).len 3
   obtain ⟨N,hN⟩:∃N,(wrN f T []).1.length=N:=⟨_,rfl⟩
   rw [hN] at LN
   have hN100:N≤100:=by rw [←hN];exact BL.out.2
   have hN':(N:Int)≤100:=by omega
   have HN:=Lib.hid hN
   have UL:=Lib.hid (D.out.num (k:=N) (by omega) (by have:=HLN.out;simp;omega))
   clear hB hN
   go_wp2_with fail
   refine UL.out.mono ?_
   rintro e w9 ⟨rfl,d⟩
   have DD:=Lib.hid d
   clear d UL D c3 LN H4
   obtain ⟨i0,hi,hz0,hz1,hz2⟩:=info_parts Tryz.infoY
   have SB:Hid ([n,f]++p++[N]++([]++(wrN f T []).2++edgeB f (wrN f T []).1 t T)=savedB f n p (t,T)):=by
    show _=_
    unfold savedB noT
    rw [HN.out];simp
   have hb1:0 < ([]++(wrN f T []).2++edgeB f (wrN f T []).1 t T).length:=by unfold edgeB;simp;omega
   have hb2:=BL.out.1
   have hh2:([n,f]++p++[N]).length≤1000:=by have:=HLN.out;simp;omega
   generalize []++(wrN f T []).2++edgeB f (wrN f T []).1 t T=BB at *
   generalize [n,f]++p++[N]=HH at *
   obtain ⟨Fh,⟨vh,hHB,hSh,hqF⟩,m9,o9⟩:=DD.out
   obtain ⟨Fb,⟨vb2,hBB,hSb,-⟩,-⟩:=H3.out.mod m9
   obtain ⟨bl,hbl⟩:∃bl,BB.length=bl:=⟨_,rfl⟩
   obtain ⟨hl,hhl⟩:∃hl,HH.length=hl:=⟨_,rfl⟩
   rw [hbl] at hSb hb1 hb2
   rw [hhl] at hSh hh2
   obtain ⟨gb,cb,rfl,rfl,hcb⟩:=hSb.pos hb1
   obtain ⟨Ah,ch,rfl,hch⟩:=hSh.shape
   have kh:=hHB.cell 2
   have kb:=hBB.cell 2
   simp only [List.getElem?_toArray,List.getElem?_cons_zero,List.getElem?_cons_succ] at kh kb
   have SRC:Hid (∀j u,(BB.map ey)[j]? =some u→w9.cell? ((⟨gb,0,none⟩:Addr).add j)=some u):=by
    obtain ⟨a,ha,h⟩:=(Rv.of_sl hSb (by simp [hbl])).src hb1
    cases ha
    exact h
   have SH:=Lib.hid hSh
   have M9:=Lib.hid m9
   have O9:=Lib.hid o9
   have HBL:=Lib.hid hbl
   have HHL:=Lib.hid hhl
   have EY:=Lib.hid (ey_one BB)
   have LB:Hid ((BB.map ey).length=bl *1):=by show _=_;rw [List.length_map,hbl,Nat.mul_one]
   clear hHB hSh hqF m9 o9 hBB hSb hbl hhl DD H3 HN
   go_wp2_with fail
   go_region_law (refine step_append_sl rfl _ _ 43 rfl 5 i0 (.int .u8 0) 1 1 Tryz.underlying43 hi hz0 hz1 hz2 rfl (by decide) _ hl (HH.map ey) Fh rfl (SH.out.mod (S:=[]) (by exact mods) (by simp)) ⟨gb,0,none⟩ bl cb (BB.map ey) hb1 rfl LB.out (fun j u hu=>SRC.out j u hu) EY.out (by unfold maxLen;omega) (by omega) ?_;intro v5 w5 F5 hs5 hm5 hf5;have S5:=Lib.hid hs5;have M5:=Lib.hid hm5;have Q5:=Lib.hid hf5;obtain ⟨a5,cap5,rfl,_⟩:=hs5.shape;clear hs5 hm5 hf5)
   all_goals
    clear kh kb SRC
    go_wp2_with fail
    go_ret
    refine ⟨_,rfl,F5,?_,?_,?_⟩
    ·rw [←SB.out,List.map_append,List.length_append,List.length_map,List.length_map,HHL.out,HBL.out]
     exact S5.out
    ·refine ((MW3.out.trans' M9.out).trans' (show Mod [] w9 w9.drew from by exact mods)).trans M5.out (fun i hi h=>?_)
     have h1:=O9.out i (by simp [h])
     have h2:=MW3.out.size
     omega
    ·intro k hk
     have h2:=MW3.out.size
     have h3:=M9.out.size
     rcases Q5.out k hk with h | h
     ·have h1:=O9.out k (by simp [h])
      omega
     ·simp at h;omega
open Go.RowKit
theorem saveFit_c (n b bo:Nat) (w:World) (VA:Hid (Calls Tryz.prog 26 #[.pointer (some ⟨b,0,none⟩)] w fun e w'=>e=.returned (.int .i64 n)∧w'=w))
 (VO:Hid (Calls Tryz.prog 34 #[.pointer (some ⟨bo,0,none⟩)] w fun e w'=>e=.returned (.int .i64 n)∧w'=w)):
 Calls Tryz.prog 28 #[.pointer (some ⟨b,0,none⟩),.pointer (some ⟨bo,0,none⟩)] w fun e w'=>e=.returned (.int .u8 0)∧w'=w:=by
 go_enter Tryz.func28,Tryz.ntmps28
 go_wp2_with fail
 refine VA.out.mono ?_
 rintro e w1 ⟨rfl,rfl⟩
 go_wp2_with fail
 refine VO.out.mono ?_
 rintro e w1 ⟨rfl,rfl⟩
 go_wp2_with fail
 go_ret
 exact ⟨rfl,rfl⟩
theorem save_c {w:World} {b n room f t a bo:Nat} {L:List Rc} {F Fo p q:List Nat} {tb:List Bool} (h1:1≤f) (h5:f≤5) (hn5:n≤5) (hL:L.length≤100000) (hS:Sto w b n room L F) (hO:IsOrdD w bo p q Fo) (hp:Perm p n) (hE:EdT L f n n 0 ⟨t,a⟩ tb):
 Calls Tryz.prog 10 #[.pointer (some ⟨b,0,none⟩),.pointer (some ⟨bo,0,none⟩),.int .u8 f,.agg #[.int .u8 t,.int .u32 a]] w fun e w'=>∃v',e=.returned (.tuple #[v',.int .u8 0])∧NewV 5 w ((savedB f n p (buildE f n n 0 tb)).map ey) w' v':=by
 have hfew:=few_build f n n 0 tb hn5
 have htz:=tsz_build (n:=n) f n 0 tb
 have ht16:=(hE.small (by omega) hL).1
 have h64:2 ^ (n+1)≤64:=by have:=Nat.pow_le_pow_right (n:=2) (by omega) (show n+1≤6 by omega);simpa using this
 have IF:=Lib.hid (isForm_c f h1 h5)
 have FT:Hid (∀W,Mod [] w W→Calls Tryz.prog 28 #[.pointer (some ⟨b,0,none⟩),.pointer (some ⟨bo,0,none⟩)] W fun e w'=>e=.returned (.int .u8 0)∧w'=W):=fun W m=>saveFit_c n b bo W (by
  obtain ⟨ba,bi,Fa,k0,_⟩:=(hS.st.mod m (by simp)).own
  exact stVars_c b n W k0) (by
  have:=ordVars_c ((hO.mod m (by simp)).ord);rw [hp.len] at this;exact this)
 have CR:Hid (∀W,Mod [] w W→Calls Tryz.prog 30 #[.pointer (some ⟨b,0,none⟩),.int .u8 f,.agg #[.int .u8 t,.int .u32 a],.int .i64 0] W fun e w'=>e=.returned (.bool true)∧Mod [] W w'):=fun W m=>by
  have h:=canonRight_c h1 h5 (hS.mod m (by simp)) (by omega) (by omega) hn5 hE
  unfold edv at h
  exact h
 have PC:Hid (∀W,Mod [] w W→Calls Tryz.prog 32 #[.pointer (some ⟨bo,0,none⟩)] W fun e w'=>∃v F',e=.returned v∧Rv w' v (p.map ei) F'∧Mod [] W w'):=fun W m=>(perm_c ((hO.mod m (by simp)).ord) (by rw [hp.len];omega)).mono (by
  rintro e w' ⟨v,rfl,nv⟩
  obtain ⟨F',r,-⟩:=nv.rv
  exact ⟨v,F',rfl,r,nv.mod⟩)
 have WR:Hid (∀W v Fv,Mod [] w W→Rv W v (p.map ei) Fv→Calls Tryz.prog 31 #[.pointer (some ⟨b,0,none⟩),v,.int .u8 f,.agg #[.int .u8 t,.int .u32 a]] W fun e w'=>∃v',e=.returned v'∧NewV 5 w ((savedB f n p (buildE f n n 0 tb)).map ey) w' v'∧Mod [] W w'):=fun W v Fv m hv=>by
  refine (written_c h1 h5 (by omega) hL hS.nd hS.good (hS.st.mod m (by simp)) hv (by rw [hp.len];omega) (fun x hx=>by have:=hp.lt x hx;omega) hE.rep.a (by omega) (by omega)).mono ?_
  rintro e w' ⟨v',rfl,nv⟩
  have e2:(t,(buildE f n n 0 tb).2)=buildE f n n 0 tb:=Prod.ext hE.rep.t rfl
  rw [e2] at nv
  exact ⟨v',rfl,nv.after m,nv.mod⟩
 obtain ⟨gk,hgk⟩:∃gk,w.heap.size=gk:=⟨_,rfl⟩
 clear hS hO hE hfew htz h64
 go_enter Tryz.func10,Tryz.ntmps10
 go_wp2_with fail
 refine (FT.out _ (by exact mods)).mono ?_
 rintro e w1 ⟨rfl,hw1⟩
 have M1:Hid (Mod [] w w1):=by subst hw1;show Mod _ _ _;exact mods
 have BE:Hid (Blk w1 gk #[.int .u8 t,.int .u32 a] 39):=by subst hw1;exact Blk.new' w _ _ gk hgk.symm
 clear hw1 FT
 obtain ⟨e0,e1⟩:=BE.out.cells2
 go_wp2_with fail
 refine (IF.out _).mono ?_
 rintro e w2 ⟨rfl,hw2⟩
 subst hw2
 go_wp2_with fail
 refine (CR.out _ M1.out).mono ?_
 rintro e w3 ⟨rfl,m3⟩
 have M3:=Lib.hid (M1.out.trans' m3)
 replace BE:=Lib.hid (BE.out.mod m3 (by simp))
 clear m3 M1 CR IF e0 e1
 obtain ⟨e0,e1⟩:=BE.out.cells2
 have hk:=BE.out.lt
 clear BE
 go_upto_region 8 with fail
 go_region_held3 (fun w'=>w'.cell? ⟨gk,0,none⟩=some (.int .u8 t)∧w'.cell? ⟨gk,1,none⟩=some (.int .u32 a)) (go_keep) (first | (go_at_call 32;(with_reducible refine (PC.out _ (M3.out.trans' (show Mod [] w3 _ from by exact mods))).mono ?_);rintro e' wa ⟨v2,F2,rfl,r2,m_wa⟩;have M_wa:=Mod.trans' (show Mod _ w3 _ from by exact mods) m_wa;have e0:=(M_wa.cell (a:=⟨gk,0,none⟩) hk (by first | assumption | (simp;done))).trans e0;have e1:=(M_wa.cell (a:=⟨gk,1,none⟩) hk (by first | assumption | (simp;done))).trans e1;have hk:=Nat.lt_of_lt_of_le hk M_wa.size;obtain ⟨A2,c2,rfl,-⟩:=r2.shape;rw [List.length_map] at r2 ⊢) | (go_at_call 31;(with_reducible refine (WR.out _ _ F2 (M3.out.trans' (M_wa.trans' (show Mod [] wa _ from by exact mods))) (r2.mod (S:=[]) (show Mod [] wa _ from by exact mods) (by simp))).mono ?_);rintro e' wb ⟨v3,rfl,nv3,m_wb⟩;have M_wb:=Mod.trans' (show Mod _ wa _ from by exact mods) m_wb;have e0:=(M_wb.cell (a:=⟨gk,0,none⟩) hk (by first | assumption | (simp;done))).trans e0;have e1:=(M_wb.cell (a:=⟨gk,1,none⟩) hk (by first | assumption | (simp;done))).trans e1;have hk:=Nat.lt_of_lt_of_le hk M_wb.size;skip))
 all_goals
  clear e0 e1 hk
  go_wp2_with fail
  go_ret2
  exact ⟨_,rfl,nv3⟩
open Go.RowKit
theorem and127:∀c:Nat,c < 128→bits .and .u8 (c:Int) 127=(c:Int):=by decide+kernel
theorem or0:∀c:Nat,c < 128→bits .or .u64 0 (c:Int)=(c:Int):=by decide+kernel
theorem number_c {w:World} {v:Value} {c:Nat} {l Fb:List Nat} (h:Rv w v ((c::l).map ey) Fb) (hc:c < 128) (hl:l.length≤100000):
 Calls Tryz.prog 180 #[v] w fun e w'=>e=.returned (.tuple #[.int .u64 c,.int .i64 1,.int .u8 0])∧w'=w:=by
 obtain ⟨A,cap,rfl,hcap⟩:=h.shape
 obtain ⟨b1,o1,rfl,c0⟩:=h.at 0 (by simp)
 simp only [List.length_map,List.length_cons,List.map_cons,List.getElem_cons_zero,Nat.add_zero] at c0 hcap ⊢
 unfold ey at c0
 have A1:=and127 c hc
 have O1:=or0 c hc
 have hc':(c:Int) < 128:=by omega
 have hl':(l.length:Int)≤100000:=by omega
 clear h
 have hd:decide ((0:Int) < (l.length:Int)+1)=true:=by rw [decide_eq_true_eq];omega
 obtain ⟨ln,hln⟩:∃ln,l.length=ln:=⟨_,rfl⟩
 rw [hln] at hl' hd hcap ⊢
 clear hln hl
 by_cases h0:c=0
 ·subst h0
  go_enter Tryz.func180,Tryz.ntmps180
  go_wp2_with fail
  refine wp_loop_rounds 1 ?_
  rw [rounds_succ]
  go_wp2_with fail
  refine bodyPost_ret (by simp [results,Tryz.results180,go_sem];try rfl) rfl ?_
  exact ⟨rfl,rfl⟩
 ·have hq:((c:Int)==0)=false:=by rw [beq_eq_false_iff_ne];omega
  have hlt:decide (c < 128)=true:=decide_eq_true hc
  clear h0 hc
  go_enter Tryz.func180,Tryz.ntmps180
  go_wp2_with fail
  refine wp_loop_rounds 1 ?_
  rw [rounds_succ]
  go_wp2_with fail
  refine bodyPost_ret (by simp [results,Tryz.results180,go_sem];try rfl) rfl ?_
  exact ⟨rfl,rfl⟩
open Go.RowKit
def RdB (w:World) (rp:Nat) (l Fb:List Nat):Prop:=∃v,Blk w rp #[v,.int .u8 0] 269∧Rv w v (l.map ey) Fb∧rp∉Fb
theorem RdB.mod {S:List Nat} {w w':World} {rp:Nat} {l Fb:List Nat} (h:RdB w rp l Fb) (m:Mod S w w') (hd:∀k∈rp::Fb,k∉S):RdB w' rp l Fb:=by
 obtain ⟨v,h1,h2,h3⟩:=h
 exact ⟨v,h1.mod m (hd rp (by simp)),h2.mod m (fun k hk=>hd k (by simp [hk])),h3⟩
theorem RdB.lt {w:World} {rp:Nat} {l Fb:List Nat} (h:RdB w rp l Fb):rp < w.heap.size:=by
 obtain ⟨v,h1,-⟩:=h;exact h1.lt
theorem newReader_c {w:World} {v:Value} {l Fb:List Nat} (h:Rv w v (l.map ey) Fb) (hF:∀k∈Fb,k < w.heap.size):
 Calls Tryz.prog 120 #[v] w fun e w'=>e=.returned (.pointer (some ⟨w.heap.size,0,none⟩))∧RdB w' w.heap.size l Fb∧Mod [] w w':=by
 obtain ⟨A,cap,rfl,hcap⟩:=h.shape
 have H:=Lib.hid h
 have HF:=Lib.hid hF
 simp only [List.length_map] at H ⊢
 clear h hF
 go_enter Tryz.func120,Tryz.ntmps120
 go_wp2_with fail
 go_ret
 exact ⟨rfl,⟨_,Blk.new _ _ _,H.out.mod ((Mod.refl [] w).alloc _) (by simp),fun h=>by have:=HF.out _ h;omega⟩,(Mod.refl _ _).alloc _⟩
theorem rdnum_c {w:World} {rp c most:Nat} {l Fb:List Nat} (h:RdB w rp (c::l) Fb) (hc:c < 128) (hm:c≤most) (hl:l.length≤100000) (hmost:most≤1000000):
 Calls Tryz.prog 156 #[.pointer (some ⟨rp,0,none⟩),.int .u64 most] w fun e w'=>e=.returned (.tuple #[.int .u64 c,.int .i64 1])∧w'=w:=by
 obtain ⟨v,hB,hV,-⟩:=h
 have k0:=hB.cell 0
 have k1:=hB.cell 1
 simp only [List.getElem?_toArray,List.getElem?_cons_zero,List.getElem?_cons_succ] at k0 k1
 have NC:=Lib.hid (number_c hV hc hl)
 obtain ⟨A,cap,rfl,hcap⟩:=hV.shape
 have e1:((c::l).map ey).length=l.length+1:=by simp
 rw [e1] at NC k0
 generalize l.length=ln at *
 have hd:decide (most < c)=false:=by rw [decide_eq_false_iff_not];omega
 have hd':decide ((most:Int) < (c:Int))=false:=by rw [decide_eq_false_iff_not];omega
 clear hB hV e1 hcap
 go_enter Tryz.func156,Tryz.ntmps156
 go_wp2_with fail
 refine NC.out.mono ?_
 rintro e w1 ⟨rfl,hw⟩
 subst hw
 go_wp2_with fail
 go_ret2
 exact ⟨rfl,rfl⟩
theorem rdNum_c {w:World} {rp c most:Nat} {l Fb:List Nat} (h:RdB w rp (c::l) Fb) (hc:c < 128) (hm:c≤most) (hl:l.length≤100000) (hmost:most≤1000000):
 Calls Tryz.prog 121 #[.pointer (some ⟨rp,0,none⟩),.int .u64 most] w fun e w'=>e=.returned (.int .u64 c)∧RdB w' rp l Fb∧Mod [rp] w w':=by
 have NC:=Lib.hid (rdnum_c h hc hm hl hmost)
 obtain ⟨v,hB,hV,hF⟩:=h
 have k0:=hB.cell 0
 simp only [List.getElem?_toArray,List.getElem?_cons_zero,List.getElem?_cons_succ] at k0
 have kf:=hB.froz 0
 obtain ⟨A,cap,rfl,hcap⟩:=hV.shape
 obtain ⟨b1,o1,rfl,c0⟩:=hV.at 0 (by simp)
 have HB:=Lib.hid hB
 have HV:=Lib.hid hV
 have HF:=Lib.hid hF
 have e1:((c::l).map ey).length=l.length+1:=by simp
 rw [e1] at k0 HB HV hcap
 obtain ⟨ln,hln⟩:∃ln,l.length=ln:=⟨_,rfl⟩
 rw [hln] at k0 HB HV hcap hl
 have HLN:=Lib.hid hln
 clear hB hV hF c0 e1 hln
 have hcap':(ln:Int)+1≤cap:=by omega
 have RV0:∀(W:World) (o c:Nat),ln=0→Rv W (.slice (some ⟨b1,o,none⟩) 0 c) (l.map ey) Fb:=fun W o c h=>by
  have hl0:l=[]:=List.eq_nil_of_length_eq_zero (by rw [HLN.out,h])
  subst hl0
  exact ⟨_,c,rfl,Nat.zero_le _,fun h=>by simp at h⟩
 rcases Nat.eq_zero_or_pos ln with h0 | h0
 ·subst h0
  have RZ:=Lib.hid (fun W o c=>RV0 W o c rfl)
  clear RV0
  rcases Nat.lt_or_ge 1 cap with h1 | h1
  ·have h1':(1:Int) < cap:=by omega
   go_enter Tryz.func121,Tryz.ntmps121
   go_wp2_with fail
   refine NC.out.mono ?_
   rintro e w1 ⟨rfl,hw⟩
   subst hw
   go_wp2_with fail
   go_ret
   refine ⟨rfl,⟨_,by simpa using HB.out.set 0 (.slice (some ⟨b1,o1+1,none⟩) 0 (cap - 1)),?_,HF.out⟩,(Mod.refl _ _).setCell _ _ (by simp)⟩
   exact RZ.out _ _ _
  ·obtain rfl:cap=1:=by omega
   go_enter Tryz.func121,Tryz.ntmps121
   go_wp2_with fail
   refine NC.out.mono ?_
   rintro e w1 ⟨rfl,hw⟩
   subst hw
   go_wp2_with fail
   go_ret
   refine ⟨rfl,⟨_,by simpa using HB.out.set 0 (.slice (some ⟨b1,o1,none⟩) 0 (0)),?_,HF.out⟩,(Mod.refl _ _).setCell _ _ (by simp)⟩
   exact RZ.out _ _ _
 ·have h0':(0:Int) < ln:=by omega
  clear RV0
  go_enter Tryz.func121,Tryz.ntmps121
  go_wp2_with fail
  refine NC.out.mono ?_
  rintro e w1 ⟨rfl,hw⟩
  subst hw
  go_wp2_with fail
  go_ret
  refine ⟨rfl,⟨_,by simpa using HB.out.set 0 (.slice (some ⟨b1,o1+1,none⟩) ln (cap - 1)),?_,HF.out⟩,(Mod.refl _ _).setCell _ _ (by simp)⟩
  have h:=(HV.out.drop 1 (by omega) (some ⟨b1,o1+1,none⟩) (fun _=>rfl)).mod (S:=[rp]) (show Mod [rp] w1 (w1.setCell ⟨rp,0,none⟩ (.slice (some ⟨b1,o1+1,none⟩) ln (cap - 1))) from (Mod.refl _ _).setCell _ _ (by simp)) (fun k hk=>by simp;rintro rfl;exact HF.out hk)
  rw [Nat.add_sub_cancel] at h
  exact h
theorem rdErr_c {w:World} {rp:Nat} {l Fb:List Nat} (h:RdB w rp l Fb):
 Calls Tryz.prog 122 #[.pointer (some ⟨rp,0,none⟩)] w fun e w'=>e=.returned (.int .u8 0)∧w'=w:=by
 obtain ⟨v,hB,-⟩:=h
 have k1:=hB.cell 1
 simp only [List.getElem?_toArray,List.getElem?_cons_zero,List.getElem?_cons_succ] at k1
 clear hB
 go_enter Tryz.func122,Tryz.ntmps122
 go_wp2_with fail
 go_ret
 exact ⟨rfl,rfl⟩
theorem rdEnd_c {w:World} {rp:Nat} {Fb:List Nat} (h:RdB w rp [] Fb):
 Calls Tryz.prog 124 #[.pointer (some ⟨rp,0,none⟩)] w fun e w'=>e=.returned (.int .u8 0)∧w'=w:=by
 have RE:=Lib.hid (rdErr_c h)
 obtain ⟨v,hB,hV,-⟩:=h
 obtain ⟨A,cap,rfl,hcap⟩:=hV.shape
 have k0:=hB.cell 0
 simp only [List.getElem?_toArray,List.getElem?_cons_zero,List.map_nil,List.length_nil] at k0
 clear hB hV
 go_enter Tryz.func124,Tryz.ntmps124
 go_wp2_with fail
 refine RE.out.mono ?_
 rintro e w1 ⟨rfl,hw⟩
 subst hw
 go_wp2_with fail
 go_ret
 exact ⟨rfl,rfl⟩
open Go.RowKit
theorem readEdge_c {w:World} {rp f i nt t:Nat} {rest Fb:List Nat} (h:RdB w rp (nt::((if f=5∧0 < nt then [t] else [])++rest)) Fb) (hFl:∀k∈Fb,k < w.heap.size) (hnt:nt < 128) (hi:nt≤i+1) (hi2:i≤1000) (ht:t≤16) (ht0:¬(f=5∧0 < nt)→t=0) (hf:f≤5) (hl:rest.length≤50000):
 Calls Tryz.prog 123 #[.pointer (some ⟨rp,0,none⟩),.int .u8 f,.int .i64 i] w fun e w'=>e=.returned (.agg #[.int .u8 t,.int .u32 nt])∧RdB w' rp rest Fb∧Mod [rp] w w':=by
 obtain ⟨gk,hgk⟩:∃gk,w.heap.size=gk:=⟨_,rfl⟩
 have hrl:=h.lt
 have hrk:¬rp=gk:=by omega
 have hkr:¬gk=rp:=by omega
 have hi':(i:Int)≤1000:=by omega
 have hnt':(nt:Int) < 128:=by omega
 have H:=Lib.hid h
 have HF:=Lib.hid hFl
 have WI:IntKind.u64.wrap ((i:Int)+1)=(i:Int)+1:=IntWalk.u64_in _ (by omega)
 clear h hFl
 by_cases hc:f=5∧0 < nt
 ·rw [if_pos hc] at H
  have N1:Hid (∀W,Mod [] w W→Calls Tryz.prog 121 #[.pointer (some ⟨rp,0,none⟩),.int .u64 ((i:Int)+1)] W fun e w'=>e=.returned (.int .u64 nt)∧RdB w' rp (t::rest) Fb∧Mod [rp] W w'):=fun W m=>rdNum_c (most:=i+1) (H.out.mod m (by simp)) hnt hi (by simp;omega) (by omega)
  obtain ⟨rfl,h0⟩:=hc
  have hq:decide (0 < nt)=true:=decide_eq_true h0
  clear ht0 h0
  go_enter Tryz.func123,Tryz.ntmps123
  go_wp2_with fail
  have B0:=Lib.hid (Blk.new' w #[.int .u8 0,.int .u32 0] 39 gk hgk.symm)
  refine (N1.out _ (by exact mods)).mono ?_
  rintro e w1 ⟨rfl,r1,m1⟩
  have R1:=Lib.hid r1
  have M1:Hid (Mod [rp] w w1):=((Mod.refl [rp] w).alloc _).trans' m1
  replace B0:=Lib.hid (B0.out.mod m1 (by simpa using hkr))
  clear r1 m1 N1 H
  obtain ⟨ge,hge⟩:∃ge,w1.heap.size=ge:=⟨_,rfl⟩
  have hkl:=B0.out.lt
  have n1:¬gk=ge:=by omega
  have n2:¬ge=gk:=by omega
  have hrl1:=R1.out.lt
  have n3:¬rp=ge:=by omega
  have n4:¬ge=rp:=by omega
  go_upto_region 3 with fail
  have M2:Hid (Mod [] w1 (w1.alloc (.cells #[.int .u8 0,.int .u32 nt] 39))):=by exact mods
  have BE:=Lib.hid (Blk.new' w1 #[.int .u8 0,.int .u32 nt] 39 ge hge.symm)
  generalize w1.alloc (.cells #[.int .u8 0,.int .u32 nt] 39)=w2 at *
  replace B0:=Lib.hid (B0.out.mod M2.out (by simp))
  have N2:Hid (Calls Tryz.prog 121 #[.pointer (some ⟨rp,0,none⟩),.int .u64 16] w2 fun e w'=>e=.returned (.int .u64 t)∧RdB w' rp rest Fb∧Mod [rp] w2 w'):=rdNum_c (most:=16) (R1.out.mod M2.out (by simp)) (by omega) ht (by omega) (by omega)
  have HGE:=Lib.hid (show w.heap.size≤ge by have:=M1.out.size;omega)
  clear R1 hge
  go_wp2_with fail
  refine N2.out.mono ?_
  rintro e w3 ⟨rfl,r3,m3⟩
  have R3:=Lib.hid r3
  have M3:Hid (Mod [rp] w w3):=(M1.out.trans M2.out (by simp)).trans' m3
  replace B0:=Lib.hid (B0.out.mod m3 (by simpa using hkr))
  replace BE:=Lib.hid (BE.out.mod m3 (by simpa using n4))
  clear r3 m3 N2 M1 M2
  obtain ⟨e0,e1⟩:=BE.out.cells2
  obtain ⟨z0,z1⟩:=B0.out.cells2
  have f0:=BE.out.froz 0
  have f1:=B0.out.froz 0
  have f2:=B0.out.froz 1
  have ht':(t:Int)≤16:=by omega
  go_wp2_with fail
  have BX:=set2_blk (B0.out.other ⟨ge,0,none⟩ (.int .u8 t) (by simpa using n1)) ⟨t,nt⟩
  have MX:Hid (Mod [ge,gk] w3 (set2 (w3.setCell ⟨ge,0,none⟩ (.int .u8 t)) gk ⟨t,nt⟩)):=set2_mod ((Mod.refl [ge,gk] w3).setCell ⟨ge,0,none⟩ (.int .u8 t) (by simp)) gk ⟨t,nt⟩ (fun _=>by simp)
  have MW:Hid (Mod [rp] w (set2 (w3.setCell ⟨ge,0,none⟩ (.int .u8 t)) gk ⟨t,nt⟩)):=M3.out.trans MX.out (fun j hj h=>by have:=HGE.out;simp at h;omega)
  have RX:Hid (RdB (set2 (w3.setCell ⟨ge,0,none⟩ (.int .u8 t)) gk ⟨t,nt⟩) rp rest Fb):=R3.out.mod MX.out (fun k hk h=>by
   have:=HGE.out
   rcases List.mem_cons.1 hk with rfl | hk
   ·simp at h;omega
   ·have:=HF.out k hk;simp at h;omega)
  obtain ⟨g0,g1⟩:=BX.cells2
  change bodyPost _ _ _ _ _ (set2 (w3.setCell ⟨ge,0,none⟩ (.int .u8 t)) gk ⟨t,nt⟩)
  generalize set2 (w3.setCell ⟨ge,0,none⟩ (.int .u8 t)) gk ⟨t,nt⟩=X at *
  simp only at g0 g1
  refine bodyPost_ret (by simp [results,Tryz.results123,g0,g1,go_sem];try rfl) rfl ?_
  exact ⟨rfl,RX.out,MW.out⟩
 ·have ht00:=ht0 hc
  subst ht00
  rw [if_neg hc,List.nil_append] at H
  have N1:Hid (∀W,Mod [] w W→Calls Tryz.prog 121 #[.pointer (some ⟨rp,0,none⟩),.int .u64 ((i:Int)+1)] W fun e w'=>e=.returned (.int .u64 nt)∧RdB w' rp rest Fb∧Mod [rp] W w'):=fun W m=>rdNum_c (most:=i+1) (H.out.mod m (by simp)) hnt hi (by omega) (by omega)
  clear ht0 H
  go_enter Tryz.func123,Tryz.ntmps123
  go_wp2_with fail
  have B0:=Lib.hid (Blk.new' w #[.int .u8 0,.int .u32 0] 39 gk hgk.symm)
  refine (N1.out _ (by exact mods)).mono ?_
  rintro e w1 ⟨rfl,r1,m1⟩
  have R1:=Lib.hid r1
  have M1:Hid (Mod [rp] w w1):=((Mod.refl [rp] w).alloc _).trans' m1
  replace B0:=Lib.hid (B0.out.mod m1 (by simpa using hkr))
  clear r1 m1 N1
  obtain ⟨ge,hge⟩:∃ge,w1.heap.size=ge:=⟨_,rfl⟩
  have hkl:=B0.out.lt
  have n1:¬gk=ge:=by omega
  have n2:¬ge=gk:=by omega
  have hrl1:=R1.out.lt
  have n3:¬rp=ge:=by omega
  have n4:¬ge=rp:=by omega
  go_upto_region 2 with fail
  have M2:Hid (Mod [] w1 (w1.alloc (.cells #[.int .u8 0,.int .u32 nt] 39))):=by exact mods
  have BE:=Lib.hid (Blk.new' w1 #[.int .u8 0,.int .u32 nt] 39 ge hge.symm)
  generalize w1.alloc (.cells #[.int .u8 0,.int .u32 nt] 39)=w3 at *
  replace B0:=Lib.hid (B0.out.mod M2.out (by simp))
  have R3:=Lib.hid (R1.out.mod M2.out (by simp))
  have M3:Hid (Mod [rp] w w3):=M1.out.trans M2.out (by simp)
  have HGE:=Lib.hid (show w.heap.size≤ge by have:=M1.out.size;omega)
  clear R1 hge M1 M2
  obtain ⟨e0,e1⟩:=BE.out.cells2
  obtain ⟨z0,z1⟩:=B0.out.cells2
  have f1:=B0.out.froz 0
  have f2:=B0.out.froz 1
  by_cases hf5:f=5
  ·have h0:nt=0:=by
    rcases Nat.eq_zero_or_pos nt with h | h
    ·exact h
    ·exact absurd ⟨hf5,h⟩ hc
   subst h0
   subst hf5
   clear hc
   go_wp2_with fail
   have t0:(0:Nat)=0:=rfl
   have BX:=set2_blk (B0.out) ⟨0,0⟩
   have MX:Hid (Mod [ge,gk] w3 (set2 (w3) gk ⟨0,0⟩)):=set2_mod (Mod.refl [ge,gk] w3) gk ⟨0,0⟩ (fun _=>by simp)
   have MW:Hid (Mod [rp] w (set2 (w3) gk ⟨0,0⟩)):=M3.out.trans MX.out (fun j hj h=>by have:=HGE.out;simp at h;omega)
   have RX:Hid (RdB (set2 (w3) gk ⟨0,0⟩) rp rest Fb):=R3.out.mod MX.out (fun k hk h=>by
    have:=HGE.out
    rcases List.mem_cons.1 hk with rfl | hk
    ·simp at h;omega
    ·have:=HF.out k hk;simp at h;omega)
   obtain ⟨g0,g1⟩:=BX.cells2
   change bodyPost _ _ _ _ _ (set2 (w3) gk ⟨0,0⟩)
   generalize set2 (w3) gk ⟨0,0⟩=X at *
   simp only at g0 g1
   refine bodyPost_ret (by simp [results,Tryz.results123,g0,g1,go_sem];try rfl) rfl ?_
   exact ⟨rfl,RX.out,MW.out⟩
  ·have q1:((f:Int)==5)=false:=by rw [beq_eq_false_iff_ne];omega
   clear hc hf5
   go_wp2_with fail
   have BX:=set2_blk (B0.out) ⟨0,nt⟩
   have MX:Hid (Mod [ge,gk] w3 (set2 (w3) gk ⟨0,nt⟩)):=set2_mod (Mod.refl [ge,gk] w3) gk ⟨0,nt⟩ (fun _=>by simp)
   have MW:Hid (Mod [rp] w (set2 (w3) gk ⟨0,nt⟩)):=M3.out.trans MX.out (fun j hj h=>by have:=HGE.out;simp at h;omega)
   have RX:Hid (RdB (set2 (w3) gk ⟨0,nt⟩) rp rest Fb):=R3.out.mod MX.out (fun k hk h=>by
    have:=HGE.out
    rcases List.mem_cons.1 hk with rfl | hk
    ·simp at h;omega
    ·have:=HF.out k hk;simp at h;omega)
   obtain ⟨g0,g1⟩:=BX.cells2
   change bodyPost _ _ _ _ _ (set2 (w3) gk ⟨0,nt⟩)
   generalize set2 (w3) gk ⟨0,nt⟩=X at *
   simp only at g0 g1
   refine bodyPost_ret (by simp [results,Tryz.results123,g0,g1,go_sem];try rfl) rfl ?_
   exact ⟨rfl,RX.out,MW.out⟩
open Go.RowKit
def rcl (r:Rc):List Value:=[.int .u8 r.f,.int .u8 r.top,.int .u8 r.bot,.int .u8 r.lo.t,.int .u32 r.lo.a,.int .u8 r.hi.t,.int .u32 r.hi.a]
theorem rcl_len (r:Rc):(rcl r).length=7:=rfl
def TxB (W:World) (tb n f N:Nat) (pl:List Nat) (rl:List Rc) (et ea:Nat) (Fp Fl:List Nat):Prop:=
 ∃vp vl,Blk W tb #[.int .i64 n,.int .u8 f,vp,.int .i64 N,vl,.int .u8 et,.int .u32 ea] 90∧Sl W 3 1 vp pl.length (pl.map ei) Fp∧Sl W 134 7 vl rl.length (recs rcl rl) Fl∧tb∉Fp∧tb∉Fl∧(∀k∈Fp,k∉Fl)
theorem TxB.mod {S:List Nat} {w w':World} {tb n f N et ea:Nat} {pl:List Nat} {rl:List Rc} {Fp Fl:List Nat} (h:TxB w tb n f N pl rl et ea Fp Fl) (m:Mod S w w') (hd:∀k∈tb::(Fp++Fl),k∉S):TxB w' tb n f N pl rl et ea Fp Fl:=by
 obtain ⟨vp,vl,h1,h2,h3,h4⟩:=h
 exact ⟨vp,vl,h1.mod m (hd tb (by simp)),h2.mod m (fun k hk=>hd k (by simp [hk])),h3.mod m (fun k hk=>hd k (by simp [hk])),h4⟩
def RdT (w0 W:World) (rp tb:Nat) (left Fb:List Nat) (n f N:Nat) (pl:List Nat) (rl:List Rc) (et ea:Nat):Prop:=
 ∃Fp Fl,RdB W rp left Fb∧TxB W tb n f N pl rl et ea Fp Fl∧Mod [] w0 W∧(∀k∈rp::tb::(Fp++Fl),w0.heap.size≤k)∧(∀k∈Fb,k < w0.heap.size)∧rp∉tb::(Fp++Fl)
section
variable {w0 W:World} {rp tb:Nat} {left Fb:List Nat} {n f N:Nat} {pl:List Nat} {rl:List Rc} {et ea:Nat}
theorem RdT.mod (h:RdT w0 W rp tb left Fb n f N pl rl et ea) {W':World} (m:Mod [] W W'):RdT w0 W' rp tb left Fb n f N pl rl et ea:=by
 obtain ⟨Fp,Fl,h1,h2,h3,h4⟩:=h
 exact ⟨Fp,Fl,h1.mod m (by simp),h2.mod m (by simp),h3.trans' m,h4⟩
theorem RdT.base (h:RdT w0 W rp tb left Fb n f N pl rl et ea):Mod [] w0 W:=by
 obtain ⟨Fp,Fl,h1,h2,h3,h4⟩:=h;exact h3
theorem RdT.blk (h:RdT w0 W rp tb left Fb n f N pl rl et ea):∃vp vl,Blk W tb #[.int .i64 n,.int .u8 f,vp,.int .i64 N,vl,.int .u8 et,.int .u32 ea] 90:=by
 obtain ⟨Fp,Fl,h1,⟨vp,vl,h2,-⟩,-⟩:=h;exact ⟨vp,vl,h2⟩
theorem RdT.rd (h:RdT w0 W rp tb left Fb n f N pl rl et ea):RdB W rp left Fb:=by
 obtain ⟨Fp,Fl,h1,-⟩:=h;exact h1
theorem RdT.ge (h:RdT w0 W rp tb left Fb n f N pl rl et ea):w0.heap.size≤rp∧w0.heap.size≤tb∧rp≠tb:=by
 obtain ⟨Fp,Fl,h1,h2,h3,h4,h5,h6⟩:=h
 exact ⟨h4 _ (by simp),h4 _ (by simp),fun e=>h6 (by simp [e])⟩
theorem RdT.read (h:RdT w0 W rp tb left Fb n f N pl rl et ea) {W':World} {left':List Nat} (m:Mod [rp] W W') (r:RdB W' rp left' Fb):RdT w0 W' rp tb left' Fb n f N pl rl et ea:=by
 obtain ⟨Fp,Fl,h1,h2,h3,h4,h5,h6⟩:=h
 refine ⟨Fp,Fl,r,h2.mod m (fun k hk h=>?_),h3.trans m (fun i hi h=>?_),h4,h5,h6⟩
 ·simp at h;subst h;exact h6 hk
 ·have:=h4 i (by simp at h;simp [h]);omega
theorem RdT.num {c most:Nat} (h:RdT w0 W rp tb (c::left) Fb n f N pl rl et ea) (hc:c < 128) (hm:c≤most) (hl:left.length≤100000) (hmost:most≤1000000):
 Calls Tryz.prog 121 #[.pointer (some ⟨rp,0,none⟩),.int .u64 most] W fun e w'=>e=.returned (.int .u64 c)∧RdT w0 w' rp tb left Fb n f N pl rl et ea∧Mod [rp] W w':=by
 refine (rdNum_c h.rd hc hm hl hmost).mono ?_
 rintro e w' ⟨rfl,r,m⟩
 exact ⟨rfl,h.read m r,m⟩
theorem RdT.edge {f' i nt t:Nat} (h:RdT w0 W rp tb (nt::((if f'=5∧0 < nt then [t] else [])++left)) Fb n f N pl rl et ea) (hnt:nt < 128) (hi:nt≤i+1) (hi2:i≤1000) (ht:t≤16) (ht0:¬(f'=5∧0 < nt)→t=0) (hf:f'≤5) (hl:left.length≤50000):
 Calls Tryz.prog 123 #[.pointer (some ⟨rp,0,none⟩),.int .u8 f',.int .i64 i] W fun e w'=>e=.returned (.agg #[.int .u8 t,.int .u32 nt])∧RdT w0 w' rp tb left Fb n f N pl rl et ea∧Mod [rp] W w':=by
 have h0:=h
 obtain ⟨Fp,Fl,h1,h2,h3,h4,h5,h6⟩:=h0
 refine (readEdge_c h.rd (fun k hk=>by have:=h5 k hk;have:=h3.size;omega) hnt hi hi2 ht ht0 hf hl).mono ?_
 rintro e w' ⟨rfl,r,m⟩
 exact ⟨rfl,h.read m r,m⟩
theorem RdT.turn (h:RdT w0 W rp tb left Fb n f N pl rl et ea) {W':World} (m:Mod [tb] W W') {n' f' N' et' ea':Nat} {vp vl:Value} (hB:Blk W tb #[.int .i64 n,.int .u8 f,vp,.int .i64 N,vl,.int .u8 et,.int .u32 ea] 90) (hB':Blk W' tb #[.int .i64 n',.int .u8 f',vp,.int .i64 N',vl,.int .u8 et',.int .u32 ea'] 90):RdT w0 W' rp tb left Fb n' f' N' pl rl et' ea':=by
 obtain ⟨Fp,Fl,h1,⟨vp',vl',k1,k2,k3,k4,k5,k6⟩,h3,h4,h5,h6⟩:=h
 have e:(Obj.cells #[.int .i64 n,.int .u8 f,vp',.int .i64 N,vl',.int .u8 et,.int .u32 ea] 90 (0,0))=.cells #[.int .i64 n,.int .u8 f,vp,.int .i64 N,vl,.int .u8 et,.int .u32 ea] 90 (0,0):=by
  unfold Blk at k1 hB
  rw [k1] at hB
  exact Option.some.inj hB
 simp at e
 obtain ⟨rfl,rfl⟩:=e
 refine ⟨Fp,Fl,h1.mod m (fun k hk h=>?_),⟨_,_,hB',k2.mod m (fun k hk h=>?_),k3.mod m (fun k hk h=>?_),k4,k5,k6⟩,h3.trans m (fun i hi h=>?_),h4,h5,h6⟩
 ·simp at h;subst h
  rcases List.mem_cons.1 hk with hk | hk
  ·exact h6 (by simp [hk])
  ·have:=h5 k hk;have:=h4 k (by simp);omega
 ·simp at h;subst h;exact k4 hk
 ·simp at h;subst h;exact k5 hk
 ·simp at h;subst h;have:=h4 i (by simp);omega
end
open Go.RowKit
structure RdO (w0 W:World) (rp tb:Nat) (left Fb:List Nat) (n f N:Nat) (pl:List Nat) (rl:List Rc) (et ea:Nat) (vp vl:Value) (Fp Fl:List Nat):Prop where
 rd:RdB W rp left Fb
 blk:Blk W tb #[.int .i64 n,.int .u8 f,vp,.int .i64 N,vl,.int .u8 et,.int .u32 ea] 90
 sp:Sl W 3 1 vp pl.length (pl.map ei) Fp
 sl:Sl W 134 7 vl rl.length (recs rcl rl) Fl
 tp:tb∉Fp
 tl:tb∉Fl
 dis:∀k∈Fp,k∉Fl
 base:Mod [] w0 W
 ge:∀k∈rp::tb::(Fp++Fl),w0.heap.size≤k
 lt:∀k∈Fb,k < w0.heap.size
 rp:rp∉tb::(Fp++Fl)
section
variable {w0 W:World} {rp tb:Nat} {left Fb:List Nat} {n f N:Nat} {pl:List Nat} {rl:List Rc} {et ea:Nat} {vp vl:Value} {Fp Fl:List Nat}
theorem RdT.opn (h:RdT w0 W rp tb left Fb n f N pl rl et ea):∃vp vl Fp Fl,RdO w0 W rp tb left Fb n f N pl rl et ea vp vl Fp Fl:=by
 obtain ⟨Fp,Fl,h1,⟨vp,vl,k1,k2,k3,k4,k5,k6⟩,h3,h4,h5,h6⟩:=h
 exact ⟨vp,vl,Fp,Fl,h1,k1,k2,k3,k4,k5,k6,h3,h4,h5,h6⟩
theorem RdO.cls (h:RdO w0 W rp tb left Fb n f N pl rl et ea vp vl Fp Fl):RdT w0 W rp tb left Fb n f N pl rl et ea:=
 ⟨Fp,Fl,h.rd,⟨vp,vl,h.blk,h.sp,h.sl,h.tp,h.tl,h.dis⟩,h.base,h.ge,h.lt,h.rp⟩
theorem RdO.read {left':List Nat} (h:RdO w0 W rp tb left Fb n f N pl rl et ea vp vl Fp Fl) {W':World} (m:Mod [rp] W W') (r:RdB W' rp left' Fb):RdO w0 W' rp tb left' Fb n f N pl rl et ea vp vl Fp Fl:=by
 obtain ⟨h1,h2,h3,h4,h5,h6,h7,h8,h9,h10,h11⟩:=h
 refine ⟨r,h2.mod m ?_,h3.mod m ?_,h4.mod m ?_,h5,h6,h7,h8.trans m (fun i hi h=>?_),h9,h10,h11⟩
 ·simp;rintro rfl;exact h11 (by simp)
 ·intro k hk h;simp at h;subst h;exact h11 (by simp [hk])
 ·intro k hk h;simp at h;subst h;exact h11 (by simp [hk])
 ·have:=h9 i (by simp at h;simp [h]);omega
theorem RdO.mod (h:RdO w0 W rp tb left Fb n f N pl rl et ea vp vl Fp Fl) {W':World} (m:Mod [] W W'):RdO w0 W' rp tb left Fb n f N pl rl et ea vp vl Fp Fl:=h.read (m.mono (by simp)) (h.rd.mod m (by simp))
theorem RdO.growp (h:RdO w0 W rp tb left Fb n f N pl rl et ea vp vl Fp Fl) {W5:World} {F5:List Nat} {v5:Value} {x:Nat} (m:Mod Fp W W5) (s:Sl W5 3 1 v5 (pl.length+1) (pl.map ei++[ei x]) F5) (hF:∀k∈F5,k∈Fp∨W.heap.size≤k):
 RdT w0 (W5.setCell ⟨tb,2,none⟩ v5) rp tb left Fb n f N (pl++[x]) rl et ea:=by
 obtain ⟨h1,h2,h3,h4,h5,h6,h7,h8,h9,h10,h11⟩:=h
 have hb:∀k∈Fb,k∉Fp:=fun k hk h=>by have:=h10 k hk;have:=h9 k (by simp [h]);omega
 have ht:tb∉F5:=fun q=>by
  rcases hF _ q with q | q
  ·exact h5 q
  ·have:=h2.lt;omega
 have hr:rp∉F5:=fun q=>by
  rcases hF _ q with q | q
  ·exact h11 (by simp [q])
  ·have:=h1.lt;omega
 have hl:∀k∈F5,k∉Fl:=fun k q1 q2=>by
  rcases hF _ q1 with q | q
  ·exact h7 k q q2
  ·have:=h4.lt k q2;omega
 have m1:Mod [tb] W5 (W5.setCell ⟨tb,2,none⟩ v5):=(Mod.refl _ _).setCell _ _ (by simp)
 have hwl:=h8.size
 refine ⟨F5,Fl,(h1.mod m (fun k hk q=>?_)).mod m1 (fun k hk q=>?_),⟨v5,vl,?_,?_,(h4.mod m (fun k hk q=>h7 k q hk)).mod m1 (fun k hk q=>?_),ht,h6,hl⟩,(h8.trans m (fun i hi q=>?_)).trans m1 (fun i hi q=>?_),fun k hk=>?_,h10,?_⟩
 ·rcases List.mem_cons.1 hk with rfl | hk
  ·exact h11 (by simp [q])
  ·exact hb k hk q
 ·simp at q;subst q
  rcases List.mem_cons.1 hk with rfl | hk
  ·exact h11 (by simp)
  ·have:=h10 k hk;have:=h9 k (by simp);omega
 ·simpa using (h2.mod m h5).set 2 v5
 ·have:=s.mod m1 (fun k hk q=>by simp at q;subst q;exact ht hk)
  simpa using this
 ·simp at q;subst q;exact h6 hk
 ·have:=h9 i (by simp [q]);omega
 ·simp at q;subst q;have:=h9 i (by simp);omega
 ·simp only [List.mem_cons,List.mem_append] at hk
  rcases hk with rfl | rfl | hk | hk
  ·exact h9 _ (by simp)
  ·exact h9 _ (by simp)
  ·rcases hF _ hk with q | q
   ·exact h9 _ (by simp [q])
   ·omega
  ·exact h9 _ (by simp [hk])
 ·simp only [List.mem_cons,List.mem_append,not_or] at h11 ⊢
  exact ⟨h11.1,hr,h11.2.2⟩
theorem RdO.growl (h:RdO w0 W rp tb left Fb n f N pl rl et ea vp vl Fp Fl) {W5:World} {F5:List Nat} {v5:Value} {x:Rc} (m:Mod Fl W W5) (s:Sl W5 134 7 v5 (rl.length+1) (recs rcl rl++rcl x) F5) (hF:∀k∈F5,k∈Fl∨W.heap.size≤k):
 RdT w0 (W5.setCell ⟨tb,4,none⟩ v5) rp tb left Fb n f N pl (rl++[x]) et ea:=by
 obtain ⟨h1,h2,h3,h4,h5,h6,h7,h8,h9,h10,h11⟩:=h
 have hb:∀k∈Fb,k∉Fl:=fun k hk h=>by have:=h10 k hk;have:=h9 k (by simp [h]);omega
 have ht:tb∉F5:=fun q=>by
  rcases hF _ q with q | q
  ·exact h6 q
  ·have:=h2.lt;omega
 have hr:rp∉F5:=fun q=>by
  rcases hF _ q with q | q
  ·exact h11 (by simp [q])
  ·have:=h1.lt;omega
 have hl:∀k∈Fp,k∉F5:=fun k q1 q2=>by
  rcases hF _ q2 with q | q
  ·exact h7 k q1 q
  ·have:=h3.lt k q1;omega
 have m1:Mod [tb] W5 (W5.setCell ⟨tb,4,none⟩ v5):=(Mod.refl _ _).setCell _ _ (by simp)
 have hwl:=h8.size
 refine ⟨Fp,F5,(h1.mod m (fun k hk q=>?_)).mod m1 (fun k hk q=>?_),⟨vp,v5,?_,(h3.mod m (fun k hk q=>h7 k hk q)).mod m1 (fun k hk q=>?_),?_,h5,ht,hl⟩,(h8.trans m (fun i hi q=>?_)).trans m1 (fun i hi q=>?_),fun k hk=>?_,h10,?_⟩
 ·rcases List.mem_cons.1 hk with rfl | hk
  ·exact h11 (by simp [q])
  ·exact hb k hk q
 ·simp at q;subst q
  rcases List.mem_cons.1 hk with rfl | hk
  ·exact h11 (by simp)
  ·have:=h10 k hk;have:=h9 k (by simp);omega
 ·simpa using (h2.mod m h6).set 4 v5
 ·simp at q;subst q;exact h5 hk
 ·have:=s.mod m1 (fun k hk q=>by simp at q;subst q;exact ht hk)
  simpa [recs] using this
 ·have:=h9 i (by simp [q]);omega
 ·simp at q;subst q;have:=h9 i (by simp);omega
 ·simp only [List.mem_cons,List.mem_append] at hk
  rcases hk with rfl | rfl | hk | hk
  ·exact h9 _ (by simp)
  ·exact h9 _ (by simp)
  ·exact h9 _ (by simp [hk])
  ·rcases hF _ hk with q | q
   ·exact h9 _ (by simp [q])
   ·omega
 ·simp only [List.mem_cons,List.mem_append,not_or] at h11 ⊢
  exact ⟨h11.1,h11.2.1,hr⟩
end
open Go.RowKit
def RdQ (w0 W:World) (rp tb:Nat) (left Fb:List Nat) (n f N:Nat) (pl:List Nat) (rl:List Rc) (et ea qb:Nat) (r:Rc):Prop:=
 ∃vp vl Fp Fl,RdO w0 W rp tb left Fb n f N pl rl et ea vp vl Fp Fl∧Blk W qb (rcl r).toArray 134∧qb∉rp::tb::(Fp++Fl)∧w0.heap.size≤qb
section
variable {w0 W:World} {rp tb:Nat} {left Fb:List Nat} {n f N:Nat} {pl:List Nat} {rl:List Rc} {et ea qb:Nat} {r:Rc} {vp vl:Value} {Fp Fl:List Nat}
theorem RdQ.cls (h:RdQ w0 W rp tb left Fb n f N pl rl et ea qb r):RdT w0 W rp tb left Fb n f N pl rl et ea:=by
 obtain ⟨vp,vl,Fp,Fl,h,-⟩:=h;exact h.cls
theorem RdQ.own (h:RdQ w0 W rp tb left Fb n f N pl rl et ea qb r):Blk W qb (rcl r).toArray 134:=by
 obtain ⟨vp,vl,Fp,Fl,-,h,-⟩:=h;exact h
theorem RdQ.ne (h:RdQ w0 W rp tb left Fb n f N pl rl et ea qb r):¬qb=rp∧¬rp=qb∧¬qb=tb∧¬tb=qb:=by
 obtain ⟨vp,vl,Fp,Fl,-,-,h,-⟩:=h
 simp only [List.mem_cons,not_or] at h
 exact ⟨h.1,Ne.symm h.1,h.2.1,Ne.symm h.2.1⟩
theorem RdQ.read {left':List Nat} (h:RdQ w0 W rp tb left Fb n f N pl rl et ea qb r) {W':World} (m:Mod [rp] W W') (k:RdB W' rp left' Fb):RdQ w0 W' rp tb left' Fb n f N pl rl et ea qb r:=by
 have hn:=h.ne
 obtain ⟨vp,vl,Fp,Fl,h1,h2,h3⟩:=h
 exact ⟨vp,vl,Fp,Fl,h1.read m k,h2.mod m (by simpa using hn.1),h3⟩
theorem RdQ.mod (h:RdQ w0 W rp tb left Fb n f N pl rl et ea qb r) {W':World} (m:Mod [] W W'):RdQ w0 W' rp tb left Fb n f N pl rl et ea qb r:=by
 obtain ⟨vp,vl,Fp,Fl,h1,h2,h3⟩:=h
 exact ⟨vp,vl,Fp,Fl,h1.mod m,h2.mod m (by simp),h3⟩
theorem RdQ.num {c most:Nat} (h:RdQ w0 W rp tb (c::left) Fb n f N pl rl et ea qb r) (hc:c < 128) (hm:c≤most) (hl:left.length≤100000) (hmost:most≤1000000):
 Calls Tryz.prog 121 #[.pointer (some ⟨rp,0,none⟩),.int .u64 most] W fun e w'=>e=.returned (.int .u64 c)∧RdQ w0 w' rp tb left Fb n f N pl rl et ea qb r∧Mod [rp] W w':=by
 refine (rdNum_c h.cls.rd hc hm hl hmost).mono ?_
 rintro e w' ⟨rfl,k,m⟩
 exact ⟨rfl,h.read m k,m⟩
theorem RdQ.edge {f' i nt t:Nat} (h:RdQ w0 W rp tb (nt::((if f'=5∧0 < nt then [t] else [])++left)) Fb n f N pl rl et ea qb r) (hnt:nt < 128) (hi:nt≤i+1) (hi2:i≤1000) (ht:t≤16) (ht0:¬(f'=5∧0 < nt)→t=0) (hf:f'≤5) (hl:left.length≤50000):
 Calls Tryz.prog 123 #[.pointer (some ⟨rp,0,none⟩),.int .u8 f',.int .i64 i] W fun e w'=>e=.returned (.agg #[.int .u8 t,.int .u32 nt])∧RdQ w0 w' rp tb left Fb n f N pl rl et ea qb r∧Mod [rp] W w':=by
 have h0:=h
 obtain ⟨vp,vl,Fp,Fl,o,-⟩:=h0
 refine (readEdge_c h.cls.rd (fun k hk=>by have:=o.lt k hk;have:=o.base.size;omega) hnt hi hi2 ht ht0 hf hl).mono ?_
 rintro e w' ⟨rfl,k,m⟩
 exact ⟨rfl,h.read m k,m⟩
theorem RdQ.wr {r':Rc} (h:RdQ w0 W rp tb left Fb n f N pl rl et ea qb r) {W':World} (m:Mod [qb] W W') (hB:Blk W' qb (rcl r').toArray 134):RdQ w0 W' rp tb left Fb n f N pl rl et ea qb r':=by
 obtain ⟨vp,vl,Fp,Fl,⟨h1,h2,h3,h4,h5,h6,h7,h8,h9,h10,h11⟩,-,k2,k3⟩:=h
 refine ⟨vp,vl,Fp,Fl,⟨h1.mod m (fun k hk q=>?_),h2.mod m (fun q=>?_),h3.mod m (fun k hk q=>?_),h4.mod m (fun k hk q=>?_),h5,h6,h7,h8.trans m (fun i hi q=>?_),h9,h10,h11⟩,hB,k2,k3⟩
 ·simp only [List.mem_singleton] at q;subst q
  rcases List.mem_cons.1 hk with rfl | hk
  ·exact k2 (by simp)
  ·have:=h10 k hk;omega
 ·simp only [List.mem_singleton] at q;subst q;exact k2 (by simp)
 ·simp only [List.mem_singleton] at q;subst q;exact k2 (by simp [hk])
 ·simp only [List.mem_singleton] at q;subst q;exact k2 (by simp [hk])
 ·simp only [List.mem_singleton] at q;subst q;omega
theorem RdO.new (h:RdO w0 W rp tb left Fb n f N pl rl et ea vp vl Fp Fl) (r:Rc) {qb:Nat} (hq:W.heap.size=qb):RdQ w0 (W.alloc (.cells (rcl r).toArray 134)) rp tb left Fb n f N pl rl et ea qb r:=by
 have h1:=h.rd.lt
 have h2:=h.blk.lt
 have h3:=h.sp.lt
 have h4:=h.sl.lt
 have hs:=h.base.size
 refine ⟨vp,vl,Fp,Fl,h.mod ((Mod.refl _ _).alloc _),Blk.new' W _ _ qb hq.symm,?_,by omega⟩
 simp only [List.mem_cons,List.mem_append,not_or]
 exact ⟨by omega,by omega,fun q=>by have:=h3 _ q;omega,fun q=>by have:=h4 _ q;omega⟩
theorem RdO.old {wz:World} {left':List Nat} (h:RdO w0 wz rp tb left Fb n f N pl rl et ea vp vl Fp Fl) (h2:RdO w0 W rp tb left' Fb n f N pl rl et ea vp vl Fp Fl) {r:Rc} {qb:Nat} (hq:wz.heap.size=qb) (z:Blk W qb (rcl r).toArray 134):RdQ w0 W rp tb left' Fb n f N pl rl et ea qb r:=by
 have h1:=h.rd.lt
 have h2':=h.blk.lt
 have h3:=h.sp.lt
 have h4:=h.sl.lt
 have hs:=h.base.size
 refine ⟨vp,vl,Fp,Fl,h2,z,?_,by omega⟩
 simp only [List.mem_cons,List.mem_append,not_or]
 exact ⟨by omega,by omega,fun q=>by have:=h3 _ q;omega,fun q=>by have:=h4 _ q;omega⟩
theorem RdQ.whole (h:RdQ w0 W rp tb left Fb n f N pl rl et ea qb r) (r':Rc):RdQ w0 (((((((W.setCell ⟨qb,0,none⟩ (.int .u8 r'.f)).setCell ⟨qb,1,none⟩ (.int .u8 r'.top)).setCell ⟨qb,2,none⟩ (.int .u8 r'.bot)).setCell ⟨qb,3,none⟩ (.int .u8 r'.lo.t)).setCell ⟨qb,4,none⟩ (.int .u32 r'.lo.a)).setCell ⟨qb,5,none⟩ (.int .u8 r'.hi.t)).setCell ⟨qb,6,none⟩ (.int .u32 r'.hi.a)) rp tb left Fb n f N pl rl et ea qb r':=by
 refine h.wr (((((((Mod.refl [qb] W).setCell _ _ (by simp)).setCell _ _ (by simp)).setCell _ _ (by simp)).setCell _ _ (by simp)).setCell _ _ (by simp)).setCell _ _ (by simp) |>.setCell _ _ (by simp)) ?_
 simpa [rcl] using ((((((h.own.set 0 (.int .u8 r'.f)).set 1 (.int .u8 r'.top)).set 2 (.int .u8 r'.bot)).set 3 (.int .u8 r'.lo.t)).set 4 (.int .u32 r'.lo.a)).set 5 (.int .u8 r'.hi.t)).set 6 (.int .u32 r'.hi.a)
theorem RdQ.bot (h:RdQ w0 W rp tb left Fb n f N pl rl et ea qb r) (b:Nat):RdQ w0 (W.setCell ⟨qb,2,none⟩ (.int .u8 b)) rp tb left Fb n f N pl rl et ea qb ⟨r.f,r.top,b,r.lo,r.hi⟩:=
 h.wr ((Mod.refl [qb] W).setCell _ _ (by simp)) (by simpa [rcl] using h.own.set 2 (.int .u8 b))
theorem RdQ.low (h:RdQ w0 W rp tb left Fb n f N pl rl et ea qb r) (t a:Nat):RdQ w0 ((W.setCell ⟨qb,3,none⟩ (.int .u8 t)).setCell ⟨qb,4,none⟩ (.int .u32 a)) rp tb left Fb n f N pl rl et ea qb ⟨r.f,r.top,r.bot,⟨t,a⟩,r.hi⟩:=
 h.wr (((Mod.refl [qb] W).setCell _ _ (by simp)).setCell _ _ (by simp)) (by simpa [rcl] using (h.own.set 3 (.int .u8 t)).set 4 (.int .u32 a))
theorem RdQ.high (h:RdQ w0 W rp tb left Fb n f N pl rl et ea qb r) (t a:Nat):RdQ w0 ((W.setCell ⟨qb,5,none⟩ (.int .u8 t)).setCell ⟨qb,6,none⟩ (.int .u32 a)) rp tb left Fb n f N pl rl et ea qb ⟨r.f,r.top,r.bot,r.lo,⟨t,a⟩⟩:=
 h.wr (((Mod.refl [qb] W).setCell _ _ (by simp)).setCell _ _ (by simp)) (by simpa [rcl] using (h.own.set 5 (.int .u8 t)).set 6 (.int .u32 a))
theorem RdT.cells (h:RdT w0 W rp tb left Fb n f N pl rl et ea):W.cell? ⟨tb,1,none⟩=some (.int .u8 f)∧W.cell? ⟨tb,3,none⟩=some (.int .i64 N):=by
 obtain ⟨vp,vl,B⟩:=h.blk
 exact ⟨B.cell 1,B.cell 3⟩
theorem RdQ.cells (h:RdQ w0 W rp tb left Fb n f N pl rl et ea qb r):W.cell? ⟨qb,0,none⟩=some (.int .u8 r.f)∧W.cell? ⟨qb,1,none⟩=some (.int .u8 r.top)∧W.cell? ⟨qb,2,none⟩=some (.int .u8 r.bot)∧W.cell? ⟨qb,3,none⟩=some (.int .u8 r.lo.t)∧W.cell? ⟨qb,4,none⟩=some (.int .u32 r.lo.a)∧W.cell? ⟨qb,5,none⟩=some (.int .u8 r.hi.t)∧W.cell? ⟨qb,6,none⟩=some (.int .u32 r.hi.a):=
 ⟨h.own.cell 0,h.own.cell 1,h.own.cell 2,h.own.cell 3,h.own.cell 4,h.own.cell 5,h.own.cell 6⟩
theorem RdQ.opn (h:RdQ w0 W rp tb left Fb n f N pl rl et ea qb r):∃vp vl Fp Fl,RdO w0 W rp tb left Fb n f N pl rl et ea vp vl Fp Fl∧Blk W qb (rcl r).toArray 134:=by
 obtain ⟨vp,vl,Fp,Fl,h1,h2,h3⟩:=h
 exact ⟨vp,vl,Fp,Fl,h1,h2⟩
end
end Go.Proofs.YtnbjnnijifiaaaaGreatDoor
