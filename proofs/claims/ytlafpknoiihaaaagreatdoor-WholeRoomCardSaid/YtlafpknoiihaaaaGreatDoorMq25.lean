/- Mq25: Sc · Sd · Sn · Sw · Nm · Wg -/
import Derived.Test.YtlafpknoiihaaaaGreatDoorMq24
import Derived.Test.YtlafpknoiihaaaaGreatDoorMq11
import Derived.Test.YtlafpknoiihaaaaGreatDoorMq14
import Derived.Deep.RegionHeld3
import Derived.BigQuiet
set_option maxRecDepth 100000
set_option maxHeartbeats 8000000
set_option linter.unusedVariables false
set_option linter.unusedSimpArgs false
namespace Go.Proofs.YtlafpknoiihaaaaGreatDoor
open Go.RowKit
def cE (f n:Nat):Tr→Nat→Nat
 | .leaf false,_=>0
 | .leaf true,l=>if f=1 then 2 ^ (n - l) else 1
 | .node t b _ x _ y,l=>(if f=1 then 2 ^ (t - l) else 1) *(cE f n x (b+1)+cE f n y (b+1))
def cN (f n:Nat):Tr→Nat
 | .leaf _=>1
 | .node _ b _ x _ y=>cE f n x (b+1)+cE f n y (b+1)
theorem cE_le {L:List Rc} {f n:Nat} (hG:Good L n) (hf:f=1∨f=2) {a:Nat} {T:Tr} (h:Rep L f a T):∀{t l:Nat},LeadsP L f ⟨t,a⟩ l n→l≤n→cE f n T l≤2 ^ (n - l):=by
 induction h with
 | zero=>intro t l _ _;simp [cE]
 | one=>
  intro t l _ _
  unfold cE
  split
  ·exact Nat.le_refl _
  ·exact Nat.pow_pos (by omega)
 | @node id r A B hr hrf hA hB ihA ihB=>
  intro t l hP hl
  have g:=hG id r hr
  have hlt:l≤r.top:=by
   rcases hP.at_ with q | ⟨r',h2,h3,h4,_⟩
   ·have:=(recAt_lt hr).1;simp only at q;omega
   ·simp only at h2;rw [hr] at h2;obtain rfl:=Option.some.inj h2;exact h4
  have tb:r.top=r.bot:=by
   rcases g.right.ch with h | h | h
   ·exact h
   ·omega
   ·omega
  have bn:=g.right.bn
  have glo:=g.lo
  have ghi:=g.hi
  rw [hrf] at glo ghi
  have h1:=ihA (t:=r.lo.t) (l:=r.bot+1) glo (by omega)
  have h2:=ihB (t:=r.hi.t) (l:=r.bot+1) ghi (by omega)
  unfold cE
  have e2:2 ^ (n - r.top)=2 ^ (n - (r.bot+1))+2 ^ (n - (r.bot+1)):=by
   rw [show n - r.top=(n - (r.bot+1))+1 by omega,Nat.pow_succ];omega
  have h3:cE f n A (r.bot+1)+cE f n B (r.bot+1)≤2 ^ (n - r.top):=by omega
  split
  ·rw [show n - l=(r.top - l)+(n - r.top) by omega,Nat.pow_add]
   exact Nat.mul_le_mul_left _ h3
  ·rw [Nat.one_mul]
   exact Nat.le_trans h3 (Nat.pow_le_pow_right (by omega) (by omega))
structure Sc (w:World) (bw b n room f:Nat) (L:List Rc) (F:List Nat) (lo hi:Option Addr) (cl ch bm:Nat):Prop where
 blk:Blk w bw #[.pointer (some ⟨b,0,none⟩),.int .u8 f,.slice lo n cl,.slice hi n ch,.map (some bm)] 267
 st:IsSt w b n L room F
 o1:Ones w lo n [bm]
 o2:Ones w hi n [bm]
 nb:bw≠bm∧∀k∈F,k≠bm
theorem Sc.mod {w w':World} {bw b n room f:Nat} {L:List Rc} {F:List Nat} {lo hi:Option Addr} {cl ch bm:Nat} (h:Sc w bw b n room f L F lo hi cl ch bm) (m:Mod [bm] w w'):Sc w' bw b n room f L F lo hi cl ch bm:=
 ⟨h.blk.mod m (by simpa using h.nb.1),h.st.mod m (fun k hk=>by simpa using h.nb.2 k hk),h.o1.mod m,h.o2.mod m,h.nb⟩
theorem Sc.mod0 {w w':World} {bw b n room f:Nat} {L:List Rc} {F:List Nat} {lo hi:Option Addr} {cl ch bm:Nat} (h:Sc w bw b n room f L F lo hi cl ch bm) (m:Mod [] w w'):Sc w' bw b n room f L F lo hi cl ch bm:=h.mod (m.mono (by simp))
def Nk (w:World) (bm:Nat) (v:Value) (n:Nat):Prop:=∃F,Nm w v n F∧∀k∈F,k < w.heap.size∧k≠bm
theorem Nk.mod {w w':World} {bm:Nat} {v:Value} {n:Nat} (h:Nk w bm v n) (m:Mod [bm] w w'):Nk w' bm v n:=by
 obtain ⟨F,h1,h2⟩:=h
 exact ⟨F,h1.mod m (fun k hk=>by simpa using (h2 k hk).2),fun k hk=>⟨Nat.lt_of_lt_of_le (h2 k hk).1 m.size,(h2 k hk).2⟩⟩
theorem Nk.mod0 {w w':World} {bm:Nat} {v:Value} {n:Nat} (h:Nk w bm v n) (m:Mod [] w w'):Nk w' bm v n:=h.mod (m.mono (by simp))
theorem Nk.nil (w:World) (bm:Nat):Nk w bm (.slice none 0 0) 0:=⟨[],Nm.nil w,by simp⟩
theorem NNew.nk {w w':World} {n:Nat} {v:Value} (h:NNew w n w' v) (hn:n≤4294967296) {bm:Nat} (hb:bm < w.heap.size):Nk w' bm v n:=by
 obtain ⟨F,h1,h2,h3⟩:=h.nm hn
 exact ⟨F,h1,fun k hk=>⟨h3 k hk,by have:=h2 k hk;omega⟩⟩
theorem Nk.shape {w:World} {bm:Nat} {v:Value} {n:Nat} (h:Nk w bm v n):∃A N c,v=.slice A N c:=by
 obtain ⟨F,⟨l,_,r,_⟩,_⟩:=h
 obtain ⟨A,p,e,-⟩:=r.1.shape
 exact ⟨A,_,p,e⟩
def Kp (w:World) (bm m f n:Nat) (L:List Rc):Prop:=
 ∃G,IsMp w 64 bm m G∧∀(id:Nat) v,id≤4294967295→G (.int .u32 id)=some v→∃T,Rep L f id T∧Nk w bm v (cN f n T)
theorem Kp.mod {w w':World} {bm m f n:Nat} {L:List Rc} (h:Kp w bm m f n L) (md:Mod [] w w'):Kp w' bm m f n L:=by
 obtain ⟨G,h1,h2⟩:=h
 exact ⟨G,h1.mod md (by simp),fun id v hi hg=>by obtain ⟨T,a,b⟩:=h2 id v hi hg;exact ⟨T,a,b.mod0 md⟩⟩
theorem Kp.lt {w:World} {bm m f n:Nat} {L:List Rc} (h:Kp w bm m f n L):bm < w.heap.size:=by
 obtain ⟨G,h1,h2⟩:=h
 exact h1.lt
theorem zeroSl (w:World):(zeroValue 23).run Tryz.prog w=.ok (.slice none 0 0) w:=by kernel_rfl
theorem Kp.look {w:World} {bm m f n:Nat} {L:List Rc} (h:Kp w bm m f n L) (a:Nat) (ha:a≤4294967295) {T:Tr} (hT:Rep L f a T):
 (∃v,Nk w bm v (cN f n T)∧(Instr.lookup 265 (.map (some bm)) (.int .u32 a) true).run Tryz.prog w=.ok (.tuple #[v,.bool true]) w)∨
  (Instr.lookup 265 (.map (some bm)) (.int .u32 a) true).run Tryz.prog w=.ok (.tuple #[.slice none 0 0,.bool false]) w:=by
 obtain ⟨G,h1,h2⟩:=h
 have hl:=h1.look keyU32 Tryz.underlying265 (zeroSl w) (key:=.int .u32 a) (kl:=.int .u32 a) (Maps.keyOf_int_mk Tryz.underlying64 (wfU32 ha)) true
 cases q:G (.int .u32 a) with
 | none=>rw [q] at hl;exact .inr hl
 | some v=>
  rw [q] at hl
  obtain ⟨T',hT',hv⟩:=h2 a v ha q
  rw [hT.fun_ hT']
  exact .inl ⟨v,hv,hl⟩
theorem Kp.put {w:World} {bm m f n:Nat} {L:List Rc} (h:Kp w bm m f n L) (a:Nat) (ha:a≤4294967295) {T:Tr} (hT:Rep L f a T) {v:Value} (hv:Nk w bm v (cN f n T)) (hm:m≤1000000):
 ∃w',(Instr.mapUpdate 265 (.map (some bm)) (.int .u32 a) v).run Tryz.prog w=.ok () w'∧Kp w' bm (m+1) f n L∧Mod [bm] w w':=by
 obtain ⟨G,h1,h2⟩:=h
 obtain ⟨w',G',hr,hmp,hmd,hG⟩:=h1.put keyU32 Tryz.underlying265 (key:=.int .u32 a) (kl:=.int .u32 a) (Maps.keyOf_int_mk Tryz.underlying64 (wfU32 ha)) v hm
 refine ⟨w',hr,⟨_,hmp,fun id u hid hg=>?_⟩,hmd⟩
 by_cases q:(Lit.int .u32 (id:Int))=.int .u32 (a:Int)
 ·rw [q,hG.1] at hg
  obtain rfl:=Option.some.inj hg
  have:id=a:=by simp at q;omega
  subst this
  exact ⟨T,hT,hv.mod hmd⟩
 ·rw [hG.2 _ q] at hg
  obtain ⟨T',a1,a2⟩:=h2 id u hid hg
  exact ⟨T',a1,a2.mod hmd⟩
open Go.RowKit
theorem mulK {w:World} {bm:Nat} {v1 v2:Value} {x y:Nat} (h1:Nk w bm v1 x) (h2:Nk w bm v2 y) (hb:bm < w.heap.size) (hx:x≤65536) (hy:y≤65536) (hs:x *y≤4294967296):
 Calls Tryz.prog 187 #[v1,v2] w fun e w'=>∃v',e=.returned v'∧Nk w' bm v' (x *y)∧Mod [] w w':=by
 obtain ⟨F1,a1,_⟩:=h1
 obtain ⟨F2,a2,_⟩:=h2
 refine (mulW_c a1 a2 (by omega) (by omega) hs).mono ?_
 rintro e w' ⟨v',rfl,n⟩
 exact ⟨v',rfl,n.nk hs hb,n.mod⟩
theorem addK {w:World} {bm:Nat} {v1 v2:Value} {x y:Nat} (h1:Nk w bm v1 x) (h2:Nk w bm v2 y) (hb:bm < w.heap.size) (hs:x+y≤4294967296):
 Calls Tryz.prog 196 #[v1,v2] w fun e w'=>∃v',e=.returned v'∧Nk w' bm v' (x+y)∧Mod [] w w':=by
 obtain ⟨F1,a1,_⟩:=h1
 obtain ⟨F2,a2,_⟩:=h2
 refine (addW_c a1 a2 hs).mono ?_
 rintro e w' ⟨v',rfl,n⟩
 exact ⟨v',rfl,n.nk hs hb,n.mod⟩
theorem Sc.prod {w:World} {bw b n room f:Nat} {L:List Rc} {F:List Nat} {lo hi:Option Addr} {cl ch bm:Nat} (h:Sc w bw b n room f L F lo hi cl ch bm) (hn:n≤16) (hb:bm < w.heap.size) (i j:Nat) (hj:j≤n) (both:Bool):
 Calls Tryz.prog 188 #[.pointer (some ⟨bw,0,none⟩),.int .i64 i,.int .i64 j,.bool both] w fun e w'=>∃v,e=.returned v∧Nk w' bm v (prodN i j both)∧Mod [] w w':=by
 obtain ⟨k0,k1,k2,k3,k4⟩:=h.blk.cells5
 refine (product_c k2 k3 h.o1 h.o2 hn i j hj both).mono ?_
 rintro e w' ⟨v,rfl,m⟩
 have:=prodN_le i j (by omega) both
 exact ⟨v,rfl,m.nk (by omega) hb,m.mod⟩
def ScP (w:World) (bm M f n:Nat) (L:List Rc) (x:Nat) (e:Ending) (w':World):Prop:=
 ∃v m',e=.returned v∧Nk w' bm v x∧Kp w' bm m' f n L∧m'≤M∧Mod [bm] w w'
theorem edge_zero {w:World} {bw t l bm m M f n:Nat} {L:List Rc} (hK:Kp w bm m f n L) (hm:m≤M):
 Calls Tryz.prog 173 #[.pointer (some ⟨bw,0,none⟩),edv ⟨t,0⟩,.int .i64 l] w (ScP w bm M f n L 0):=by
 have HK:=Lib.hid hK
 clear hK
 unfold edv
 simp only
 go_enter Tryz.func173,Tryz.ntmps173
 go_wp2_with fail
 go_ret
 exact ⟨_,m,rfl,Nk.nil _ _,HK.out.mod (by exact mods),hm,by exact mods⟩
theorem edge_step {w:World} {bw b n room f:Nat} {L:List Rc} {F:List Nat} {lo hi:Option Addr} {cl ch bm:Nat} (hS:Sc w bw b n room f L F lo hi cl ch bm) (hn:n≤16) (z1:Bool) (hz1:((f:Int)==1)=z1) (hz3:((f:Int)==3)=false) (hz5:((f:Int)==5)=false)
 (t a l fr:Nat) (ha:1≤a) (q:Rc) (ok:Bool) (tp sm m M:Nat) (htp:tp≤n) (hl:l≤tp) (hfr:(z1=true∧fr=tp)∨(z1=false∧fr=l)) (hsm:sm≤65536) (hmM:m≤M)
 (GT:Hid (∀W,Mod [] w W→Calls Tryz.prog 93 #[.pointer (some ⟨b,0,none⟩),.int .u32 a] W fun e w'=>e=.returned (.tuple #[rcv q,.bool ok])∧Mod [] W w'))
 (hK:Kp w bm m f n L) (Q0:ok=false→tp=n∧sm=1) (Q1:ok=true→q.top=tp)
 (ND:Hid (∀W,Mod [] w W→ok=true→Calls Tryz.prog 186 #[.pointer (some ⟨bw,0,none⟩),.int .u32 a,rcv q] W (ScP W bm M f n L sm))):
 Calls Tryz.prog 173 #[.pointer (some ⟨bw,0,none⟩),edv ⟨t,a⟩,.int .i64 l] w (ScP w bm M f n L (prodN l fr true *prodN fr tp false *sm)):=by
 have VA:Hid (∀W',Mod [] w W'→Calls Tryz.prog 59 #[.pointer (some ⟨b,0,none⟩)] W' fun e w'=>e=.returned (.int .i64 n)∧w'=W'):=fun W' md=>by
  obtain ⟨ba,bi,Fa,c0,_⟩:=(hS.mod0 md).st.own
  exact stVars_c b n W' c0
 have hbm:=hK.lt
 have HBM:=Lib.hid hbm
 have PR:Hid (∀(W:World) (i j:Nat) (both:Bool),Mod [bm] w W→j≤n→_):=fun W i j both md hj=>(hS.mod md).prod hn (Nat.lt_of_lt_of_le hbm md.size) i j hj both
 have OF:Hid (∀(W:World),Mod [] w W→Calls Tryz.prog 184 #[.int .u64 1] W fun e w'=>∃v',e=.returned v'∧Nk w' bm v' 1∧Mod [] W w'):=fun W md=>by
  refine (of_c 1 (by unfold B64;omega) W).mono ?_
  rintro e w' ⟨v',rfl,n⟩
  exact ⟨v',rfl,n.nk (by omega) (Nat.lt_of_lt_of_le hbm md.size),n.mod⟩
 have BS:=Lib.hid hS
 have HK:=Lib.hid hK
 have hbw:=hS.blk.lt
 have hbwm:bw∉[bm]:=by simpa using hS.nb.1
 have c0:w.cell? ⟨bw,0,none⟩=some (.pointer (some ⟨b,0,none⟩)):=by rw [hS.blk.cell];rfl
 have ha0:((a:Int)==0)=false:=by simp;omega
 obtain ⟨gk,hgk⟩:∃gk,w.heap.size=gk:=⟨_,rfl⟩
 have gn1:¬bw=gk:=by omega
 have gn2:¬gk=bw:=by omega
 have gkm:gk∉[bm]:=by simp;omega
 have hfr1:l≤fr∧fr≤tp:=by omega
 obtain ⟨hp1,hp2⟩:=prodN_le l fr (by omega) true
 have hp3:prodN fr tp false=1:=rfl
 obtain ⟨qf,qt,qb,⟨qlt,qla⟩,⟨qht,qha⟩⟩:=q
 unfold rcv at GT ND
 unfold edv
 simp only at GT ND Q1 ⊢
 have PA:=Lib.hid (fun W md=>PR.out W l fr true md (by omega))
 have PB:=Lib.hid (fun W md=>PR.out W fr tp false md (by omega))
 rw [hp3] at PB ⊢
 generalize prodN l fr true=p1 at *
 have HSM:=Lib.hid hsm
 have HP:=Lib.hid hp2
 clear hS hK PR hp1 hp2 hp3 hsm hbm
 go_enter Tryz.func173,Tryz.ntmps173
 go_wp2_with fail
 have B0:=Blk.new' w #[.int .u8 t,.int .u32 a] 66 gk hgk.symm
 have M0:Hid (Mod [] w (w.alloc (.cells #[.int .u8 t,.int .u32 a] 66))):=(Mod.refl _ _).alloc _
 have HGK:=Lib.hid hgk
 generalize w.alloc (.cells #[.int .u8 t,.int .u32 a] 66)=w0 at *
 have HB0:=Lib.hid B0
 obtain ⟨q0,q1⟩:=B0.cells2
 have hk:=B0.lt
 have c0:=(M0.out.cell (a:=⟨bw,0,none⟩) hbw (by simp)).trans c0
 have hbw:=Nat.lt_of_lt_of_le hbw M0.out.size
 clear B0 hgk
 obtain ⟨gs,hgs⟩:∃gs,w0.heap.size=gs:=⟨_,rfl⟩
 have gs1:¬bw=gs:=by omega
 have gs2:¬gs=bw:=by omega
 have gs3:¬gk=gs:=by omega
 have gs4:¬gs=gk:=by omega
 go_region_held3 (fun w'=>w'.cell? ⟨bw,0,none⟩=some (.pointer (some ⟨b,0,none⟩))∧w'.cell? ⟨gk,1,none⟩=some (.int .u32 a)) (go_keep) (first | (go_at_call 93;refine (GT.out _ (M0.out.trans' (show Mod [] w0 _ from by exact mods))).mono ?_;rintro e' w1 ⟨rfl,m_w1⟩;have M_w1:=Mod.trans' (show Mod _ w0 _ from by exact mods) m_w1;have c0:=(M_w1.cell (a:=⟨bw,0,none⟩) hbw (by first | assumption | (simp;done))).trans c0;have q1:=(M_w1.cell (a:=⟨gk,1,none⟩) hk (by first | assumption | (simp;done))).trans q1;have hbw:=Nat.lt_of_lt_of_le hbw M_w1.size;have hk:=Nat.lt_of_lt_of_le hk M_w1.size;have hB:=fun c ty (h:Blk _ gs c ty)=>h.mod m_w1 (by simp);first | (have zb:=hB _ _ ((Blk.new' w0 _ _ _ hgs.symm).drew);have z0:=zb.cell 0;have z1:=zb.cell 1;have z2:=zb.cell 2;have z3:=zb.cell 3;have z4:=zb.cell 4;have z5:=zb.cell 5;have z6:=zb.cell 6;simp only [List.getElem?_toArray,List.getElem?_cons_zero,List.getElem?_cons_succ] at z0 z1 z2 z3 z4 z5 z6;have zf:=zb.froz;clear zb) | skip;obtain ⟨gr,hgr⟩:∃gr,w1.heap.size=gr:=⟨_,rfl⟩))
 all_goals first
  | (
   have BX:=Lib.hid (Blk.new' w1 #[.int .u8 qf,.int .u8 qt,.int .u8 qb,.int .u8 qlt,.int .u32 qla,.int .u8 qht,.int .u32 qha] 108 gr hgr.symm)
   have MX:=Lib.hid ((M0.out.trans' M_w1).alloc (.cells #[.int .u8 qf,.int .u8 qt,.int .u8 qb,.int .u8 qlt,.int .u32 qla,.int .u8 qht,.int .u32 qha] 108))
   have HB2:=Lib.hid ((HB0.out.mod M_w1 (by simp)).alloc (.cells #[.int .u8 qf,.int .u8 qt,.int .u8 qb,.int .u8 qlt,.int .u32 qla,.int .u8 qht,.int .u32 qha] 108))
   have hkr:gk < gr:=by have:=M_w1.size;omega
   change Exit.then _ _ _ _ (w1.alloc (.cells #[.int .u8 qf,.int .u8 qt,.int .u8 qb,.int .u8 qlt,.int .u32 qla,.int .u8 qht,.int .u32 qha] 108))
   generalize w1.alloc (.cells #[.int .u8 qf,.int .u8 qt,.int .u8 qb,.int .u8 qlt,.int .u32 qla,.int .u8 qht,.int .u32 qha] 108)=X at *
   clear m_w1 M_w1 hB GT M0 hgr c0 q1 q0 HB0 hgs hbw hk gs1 gs2 gs3 gs4
   )
  | (
   have B2:=hB _ _ ((Blk.new' w0 #[.int .u8 0,.int .u8 0,.int .u8 0,.int .u8 0,.int .u32 0,.int .u8 0,.int .u32 0] 108 gs hgs.symm).drew)
   have BX:=Lib.hid (set7_blk B2 ⟨qf,qt,qb,⟨qlt,qla⟩,⟨qht,qha⟩⟩)
   have MX:=Lib.hid (set7_mod (M0.out.trans' M_w1) gs ⟨qf,qt,qb,⟨qlt,qla⟩,⟨qht,qha⟩⟩ (by have:=M0.out.size;have:=HGK.out;omega))
   have HB2:=Lib.hid ((HB0.out.mod M_w1 (by simp)).mod (set7_mod (Mod.refl [gs] w1) gs ⟨qf,qt,qb,⟨qlt,qla⟩,⟨qht,qha⟩⟩ (fun _=>by simp)) (by simpa using gs3))
   have hkr:gk < gs:=by omega
   change Exit.then _ _ _ _ (set7 w1 gs ⟨qf,qt,qb,⟨qlt,qla⟩,⟨qht,qha⟩⟩)
   generalize set7 w1 gs ⟨qf,qt,qb,⟨qlt,qla⟩,⟨qht,qha⟩⟩=X at *
   clear m_w1 M_w1 hB GT M0 B2 c0 q1 q0 HB0 hgs hbw hk z0 z1 z2 z3 z4 z5 z6 zf gs1 gs2 gs3 gs4
   obtain ⟨gr,hgr⟩:∃gr,gr=gs:=⟨_,rfl⟩
   subst hgr
   )
 all_goals
  have grm:gr∉[bm]:=by have:=HBM.out;have:=HGK.out;simp;omega
  obtain ⟨k0,k1,k2,k3,k4⟩:=(BS.out.mod0 MX.out).blk.cells5
  have hbX:=(BS.out.mod0 MX.out).blk.lt
  have hkx:=HB2.out.lt
  go_wp2_with fail
  refine (VA.out _ (by first | exact MX.out | exact MX.out.drewN _)).mono ?_
  rintro e w2 ⟨rfl,rfl⟩
  go_wp2_with fail
  refine (OF.out _ (by first | exact MX.out | exact MX.out.drewN _)).mono ?_
  rintro e w2 ⟨v1,rfl,nk1,m2⟩
  have M2:=Lib.hid (MX.out.trans' m2)
  have MR2:=Lib.hid m2
  have NK1:=Lib.hid nk1
  have BR2:=Lib.hid (BX.out.mod m2 (by simp))
  have BK2:=Lib.hid (HB2.out.mod m2 (by simp))
  clear nk1 m2 k0 k1 k2 k3 k4 BX HB2 hbX hkx
  cases ok with
  | false=>
   obtain ⟨htn,hsm1⟩:=Q0 rfl
   subst htn
   subst hsm1
   obtain ⟨k0,k1,k2,k3,k4⟩:=(BS.out.mod0 M2.out).blk.cells5
   have hb2:=(BS.out.mod0 M2.out).blk.lt
   obtain ⟨s,hs⟩:∃s,s=v1:=⟨_,rfl⟩
   subst hs
   have MZ:Hid (Mod [bm] w w2):=M2.out.mono (by simp)
   have NS:=NK1
   have KZ:Hid (Kp w2 bm m f tp L):=HK.out.mod M2.out
   obtain ⟨mm,hmm,hmle⟩:∃mm,mm=m∧mm≤M:=⟨m,rfl,hmM⟩
   rw [←hmm] at KZ
   clear hmm
   rcases hfr with ⟨rfl,rfl⟩ | ⟨rfl,rfl⟩
   all_goals
    go_wp2_with fail
    refine (PA.out _ (by first | exact MZ.out | exact MZ.out.drewN _)).mono ?_
    rintro e wa ⟨va,rfl,nka,ma⟩
    have MA:=Lib.hid (MZ.out.trans ma (by simp))
    have NA:=Lib.hid nka
    have NS1:=Lib.hid (NS.out.mod0 ma)
    have KA:=Lib.hid (KZ.out.mod ma)
    clear nka ma
    go_wp2_with fail
    refine (PB.out _ (by first | exact MA.out | exact MA.out.drewN _)).mono ?_
    rintro e wb ⟨vb,rfl,nkb,mb⟩
    have MB:=Lib.hid (MA.out.trans mb (by simp))
    have NA2:=Lib.hid (NA.out.mod0 mb)
    have NB:=Lib.hid nkb
    have NS2:=Lib.hid (NS1.out.mod0 mb)
    have KB:=Lib.hid (KA.out.mod mb)
    clear nkb mb
    go_wp2_with fail
    refine (mulK NA2.out NB.out (Nat.lt_of_lt_of_le HBM.out MB.out.size) HP.out (by omega) (by have:=HP.out;omega)).mono ?_
    rintro e wc ⟨vc,rfl,nkc,mc⟩
    have MC:=Lib.hid (MB.out.trans mc (by simp))
    have NC:=Lib.hid nkc
    have NS3:=Lib.hid (NS2.out.mod0 mc)
    have KC:=Lib.hid (KB.out.mod mc)
    clear nkc mc
    go_wp2_with fail
    refine (mulK NC.out NS3.out (Nat.lt_of_lt_of_le HBM.out MC.out.size) (by have:=HP.out;omega) (by have:=HSM.out;omega) (by
     have h1:=HP.out;have h2:=HSM.out
     exact Nat.le_trans (Nat.mul_le_mul (show p1 *1≤65536 by omega) h2) (by decide))).mono ?_
    rintro e wd ⟨vd,rfl,nkd,md⟩
    have MD:=Lib.hid (MC.out.trans md (by simp))
    have ND1:=Lib.hid nkd
    have KD:=Lib.hid (KC.out.mod md)
    clear nkd md
    go_wp2_with fail
    go_ret
    exact ⟨vd,mm,rfl,ND1.out,KD.out,hmle,MD.out⟩
  | true=>
   have hqt:=Q1 rfl
   subst hqt
   have hq0:(0:Int)≤qt:=by omega
   have hq255:(qt:Int)≤255:=by omega
   obtain ⟨r0,r1,r2,r3,r4,r5,r6⟩:=BR2.out.cells7
   have hrl:=BR2.out.lt
   obtain ⟨d0,d1⟩:=BK2.out.cells2
   have hkl:=BK2.out.lt
   go_wp2_with fail
   go_region_held3 (fun w'=>w'.cell? ⟨gr,0,none⟩=some (.int .u8 qf)∧w'.cell? ⟨gr,1,none⟩=some (.int .u8 qt)∧w'.cell? ⟨gr,2,none⟩=some (.int .u8 qb)∧w'.cell? ⟨gr,3,none⟩=some (.int .u8 qlt)∧w'.cell? ⟨gr,4,none⟩=some (.int .u32 qla)∧w'.cell? ⟨gr,5,none⟩=some (.int .u8 qht)∧w'.cell? ⟨gr,6,none⟩=some (.int .u32 qha)∧w'.cell? ⟨gk,1,none⟩=some (.int .u32 a)) (go_keep) (first | (go_at_call 186;refine (ND.out _ (M2.out.trans' (show Mod [] w2 _ from by exact mods)) trivial).mono ?_;rintro e' w3 ⟨s,mm,rfl,nks,kps,hmle,m_w3⟩;have M_w3:=Mod.trans' (show Mod _ w2 _ from by exact mods) m_w3;have r0:=(M_w3.cell (a:=⟨gr,0,none⟩) hrl (by first | assumption | (simp;done))).trans r0;have r1:=(M_w3.cell (a:=⟨gr,1,none⟩) hrl (by first | assumption | (simp;done))).trans r1;have r2:=(M_w3.cell (a:=⟨gr,2,none⟩) hrl (by first | assumption | (simp;done))).trans r2;have r3:=(M_w3.cell (a:=⟨gr,3,none⟩) hrl (by first | assumption | (simp;done))).trans r3;have r4:=(M_w3.cell (a:=⟨gr,4,none⟩) hrl (by first | assumption | (simp;done))).trans r4;have r5:=(M_w3.cell (a:=⟨gr,5,none⟩) hrl (by first | assumption | (simp;done))).trans r5;have r6:=(M_w3.cell (a:=⟨gr,6,none⟩) hrl (by first | assumption | (simp;done))).trans r6;have d1:=(M_w3.cell (a:=⟨gk,1,none⟩) hkl (by first | assumption | (simp;done))).trans d1;have hrl:=Nat.lt_of_lt_of_le hrl M_w3.size;have hkl:=Nat.lt_of_lt_of_le hkl M_w3.size;skip))
   all_goals
    have NS:=Lib.hid nks
    have KZ:=Lib.hid kps
    have MZ:=Lib.hid ((M2.out.mono (S':=[bm]) (by simp)).trans' M_w3)
    clear nks kps m_w3 M_w3 r0 r1 r2 r3 r4 r5 r6 d0 d1 hrl hkl
    obtain ⟨w2',hw2⟩:∃w2',w2'=w2:=⟨_,rfl⟩
    clear hw2
    obtain ⟨k0,k1,k2,k3,k4⟩:=(BS.out.mod MZ.out).blk.cells5
    have hb2:=(BS.out.mod MZ.out).blk.lt
    rcases hfr with ⟨rfl,rfl⟩ | ⟨rfl,rfl⟩
    all_goals
     go_wp2_with fail
     refine (PA.out _ (by first | exact MZ.out | exact MZ.out.drewN _)).mono ?_
     rintro e wa ⟨va,rfl,nka,ma⟩
     have MA:=Lib.hid (MZ.out.trans ma (by simp))
     have NA:=Lib.hid nka
     have NS1:=Lib.hid (NS.out.mod0 ma)
     have KA:=Lib.hid (KZ.out.mod ma)
     clear nka ma
     go_wp2_with fail
     refine (PB.out _ (by first | exact MA.out | exact MA.out.drewN _)).mono ?_
     rintro e wb ⟨vb,rfl,nkb,mb⟩
     have MB:=Lib.hid (MA.out.trans mb (by simp))
     have NA2:=Lib.hid (NA.out.mod0 mb)
     have NB:=Lib.hid nkb
     have NS2:=Lib.hid (NS1.out.mod0 mb)
     have KB:=Lib.hid (KA.out.mod mb)
     clear nkb mb
     go_wp2_with fail
     refine (mulK NA2.out NB.out (Nat.lt_of_lt_of_le HBM.out MB.out.size) HP.out (by omega) (by have:=HP.out;omega)).mono ?_
     rintro e wc ⟨vc,rfl,nkc,mc⟩
     have MC:=Lib.hid (MB.out.trans mc (by simp))
     have NC:=Lib.hid nkc
     have NS3:=Lib.hid (NS2.out.mod0 mc)
     have KC:=Lib.hid (KB.out.mod mc)
     clear nkc mc
     go_wp2_with fail
     refine (mulK NC.out NS3.out (Nat.lt_of_lt_of_le HBM.out MC.out.size) (by have:=HP.out;omega) (by have:=HSM.out;omega) (by
      have h1:=HP.out;have h2:=HSM.out
      exact Nat.le_trans (Nat.mul_le_mul (show p1 *1≤65536 by omega) h2) (by decide))).mono ?_
     rintro e wd ⟨vd,rfl,nkd,md⟩
     have MD:=Lib.hid (MC.out.trans md (by simp))
     have ND1:=Lib.hid nkd
     have KD:=Lib.hid (KC.out.mod md)
     clear nkd md
     go_wp2_with fail
     go_ret
     exact ⟨vd,mm,rfl,ND1.out,KD.out,hmle,MD.out⟩
open Go.RowKit
theorem node_step {w:World} {bw b n room f:Nat} {L:List Rc} {F:List Nat} {lo hi:Option Addr} {cl ch bm:Nat} (hS:Sc w bw b n room f L F lo hi cl ch bm) (hn:n≤16) (hz3:((f:Int)==3)=false)
 (a:Nat) (ha:a≤4294967295) (q:Rc) (hq:q.top=q.bot) (hqn:q.bot < n) (m:Nat) (hK:Kp w bm m f n L) {T:Tr} (hT:Rep L f a T) (sA sB xa xb:Nat) (hx:cN f n T=xa+xb) (hxa:xa≤65536) (hxb:xb≤65536) (hxs:xa+xb≤65536) (hm:m+1+sA+sB≤1000000)
 (IA:Hid (∀W m',Mod [bm] w W→Kp W bm m' f n L→m'≤m→Calls Tryz.prog 173 #[.pointer (some ⟨bw,0,none⟩),edv q.lo,.int .i64 ((q.bot:Int)+1)] W (ScP W bm (m+sA) f n L xa)))
 (IB:Hid (∀W m',Mod [bm] w W→Kp W bm m' f n L→m'≤m+sA→Calls Tryz.prog 173 #[.pointer (some ⟨bw,0,none⟩),edv q.hi,.int .i64 ((q.bot:Int)+1)] W (ScP W bm (m+sA+sB) f n L xb))):
 Calls Tryz.prog 186 #[.pointer (some ⟨bw,0,none⟩),.int .u32 a,rcv q] w (ScP w bm (m+1+sA+sB) f n L (xa+xb)):=by
 have hbm:=hK.lt
 have HBM:=Lib.hid hbm
 have PR:Hid (∀(W:World) (i j:Nat) (both:Bool),Mod [bm] w W→j≤n→_):=fun W i j both md hj=>(hS.mod md).prod hn (Nat.lt_of_lt_of_le hbm md.size) i j hj both
 have BS:=Lib.hid hS
 have HT:=Lib.hid hT
 have HX:=Lib.hid hx
 have hbw:=hS.blk.lt
 have hbwm:bw∉[bm]:=by simpa using hS.nb.1
 obtain ⟨gk,hgk⟩:∃gk,w.heap.size=gk:=⟨_,rfl⟩
 have gn1:¬bw=gk:=by omega
 have gn2:¬gk=bw:=by omega
 have gkm:gk∉[bm]:=by simp;omega
 obtain ⟨qf,qt,qb,⟨qlt,qla⟩,⟨qht,qha⟩⟩:=q
 unfold rcv
 unfold edv at IA IB
 simp only at IA IB hq hqn ⊢
 subst hq
 have K0:Hid (Kp (w.alloc (.cells #[.int .u8 qf,.int .u8 qt,.int .u8 qt,.int .u8 qlt,.int .u32 qla,.int .u8 qht,.int .u32 qha] 108)) bm m f n L):=hK.mod ((Mod.refl _ _).alloc _)
 have LK:=K0.out.look a ha hT
 obtain ⟨k0,k1,k2,k3,k4⟩:=hS.blk.cells5
 have c4:=((show Mod [] w (w.alloc (.cells #[.int .u8 qf,.int .u8 qt,.int .u8 qt,.int .u8 qlt,.int .u32 qla,.int .u8 qht,.int .u32 qha] 108)) from (Mod.refl _ _).alloc _).cell (a:=⟨bw,4,none⟩) hbw (by simp)).trans k4
 have HXS:=Lib.hid hxs
 have HM:=Lib.hid hm
 have HXA:=Lib.hid hxa
 have HXB:=Lib.hid hxb
 clear hK hS hbm hT hx hxa hxb hm k0 k1 k2 k3 k4 hxs
 rcases LK with ⟨v,hv,LK⟩ | LK
 ·have HV:=Lib.hid hv
  clear hv
  go_enter Tryz.func186,Tryz.ntmps186
  go_wp2_with fail
  go_ret
  rw [HX.out] at HV
  exact ⟨v,m,rfl,HV.out,K0.out,by omega,by exact mods⟩
 ·go_enter Tryz.func186,Tryz.ntmps186
  go_wp2_with fail
  have B0:=Blk.new' w #[.int .u8 qf,.int .u8 qt,.int .u8 qt,.int .u8 qlt,.int .u32 qla,.int .u8 qht,.int .u32 qha] 108 gk hgk.symm
  have M0:Hid (Mod [] w (w.alloc (.cells #[.int .u8 qf,.int .u8 qt,.int .u8 qt,.int .u8 qlt,.int .u32 qla,.int .u8 qht,.int .u32 qha] 108))):=(Mod.refl _ _).alloc _
  have HGK:=Lib.hid hgk
  generalize w.alloc (.cells #[.int .u8 qf,.int .u8 qt,.int .u8 qt,.int .u8 qlt,.int .u32 qla,.int .u8 qht,.int .u32 qha] 108)=w0 at *
  have HB0:=Lib.hid B0
  obtain ⟨r0,r1,r2,r3,r4,r5,r6⟩:=B0.cells7
  have hrl:=B0.lt
  have ht0:(0:Int)≤qt:=by omega
  have ht255:(qt:Int)≤255:=by omega
  have MM0:Hid (Mod [bm] w w0):=M0.out.mono (by simp)
  clear B0 hgk
  go_wp2_with fail
  go_quiet (fail)
  go_wp2_with fail
  clear LK c4
  have ew:IntKind.i64.wrap ((qt:Int)+1)=(qt:Int)+1:=IntWalk.i64_in _ (by omega)
  rw [←ew] at IA IB
  clear ew
  have EA:Hid (∀W,Mod [] w0 W→_):=fun W md=>IA.out W m (MM0.out.trans md (by simp)) (K0.out.mod md) (Nat.le_refl m)
  have EB:Hid (∀wa W m1,Mod [bm] w0 wa→Kp wa bm m1 f n L→m1≤m+sA→Mod [] wa W→_):=fun wa W m1 ma ka h1 md=>IB.out W m1 ((MM0.out.trans' ma).trans md (by simp)) (ka.mod md) h1
  go_region_held3 (fun w'=>w'.cell? ⟨gk,0,none⟩=some (.int .u8 qf)∧w'.cell? ⟨gk,1,none⟩=some (.int .u8 qt)∧w'.cell? ⟨gk,2,none⟩=some (.int .u8 qt)∧w'.cell? ⟨gk,3,none⟩=some (.int .u8 qlt)∧w'.cell? ⟨gk,4,none⟩=some (.int .u32 qla)∧w'.cell? ⟨gk,5,none⟩=some (.int .u8 qht)∧w'.cell? ⟨gk,6,none⟩=some (.int .u32 qha)) (go_keep) (first | (go_at_call 173;(with_reducible refine (EA.out _ (by exact mods)).mono ?_);rintro e' wa ⟨va,m1,rfl,nka,kpa,hm1,m_wa⟩;have M_wa:=Mod.trans' (show Mod _ w0 _ from by exact mods) m_wa;have r0:=(M_wa.cell (a:=⟨gk,0,none⟩) hrl (by first | assumption | (simp;done))).trans r0;have r1:=(M_wa.cell (a:=⟨gk,1,none⟩) hrl (by first | assumption | (simp;done))).trans r1;have r2:=(M_wa.cell (a:=⟨gk,2,none⟩) hrl (by first | assumption | (simp;done))).trans r2;have r3:=(M_wa.cell (a:=⟨gk,3,none⟩) hrl (by first | assumption | (simp;done))).trans r3;have r4:=(M_wa.cell (a:=⟨gk,4,none⟩) hrl (by first | assumption | (simp;done))).trans r4;have r5:=(M_wa.cell (a:=⟨gk,5,none⟩) hrl (by first | assumption | (simp;done))).trans r5;have r6:=(M_wa.cell (a:=⟨gk,6,none⟩) hrl (by first | assumption | (simp;done))).trans r6;have hrl:=Nat.lt_of_lt_of_le hrl M_wa.size;skip) | (go_at_call 173;(with_reducible refine (EB.out wa _ m1 M_wa kpa hm1 (by exact mods)).mono ?_);rintro e' wb ⟨vb,m2,rfl,nkb,kpb,hm2,m_wb⟩;have M_wb:=Mod.trans' (show Mod _ wa _ from by exact mods) m_wb;have r0:=(M_wb.cell (a:=⟨gk,0,none⟩) hrl (by first | assumption | (simp;done))).trans r0;have r1:=(M_wb.cell (a:=⟨gk,1,none⟩) hrl (by first | assumption | (simp;done))).trans r1;have r2:=(M_wb.cell (a:=⟨gk,2,none⟩) hrl (by first | assumption | (simp;done))).trans r2;have r3:=(M_wb.cell (a:=⟨gk,3,none⟩) hrl (by first | assumption | (simp;done))).trans r3;have r4:=(M_wb.cell (a:=⟨gk,4,none⟩) hrl (by first | assumption | (simp;done))).trans r4;have r5:=(M_wb.cell (a:=⟨gk,5,none⟩) hrl (by first | assumption | (simp;done))).trans r5;have r6:=(M_wb.cell (a:=⟨gk,6,none⟩) hrl (by first | assumption | (simp;done))).trans r6;have hrl:=Nat.lt_of_lt_of_le hrl M_wb.size;skip))
  all_goals
   have NA:=Lib.hid (nka.mod M_wb)
   have NB:=Lib.hid nkb
   have KB:=Lib.hid kpb
   have MB:=Lib.hid ((MM0.out.trans' M_wa).trans' M_wb)
   have HM2:=Lib.hid hm2
   clear nka nkb kpa kpb m_wa m_wb M_wa M_wb hm1 hm2 r0 r1 r2 r3 r4 r5 r6 hrl IA IB K0 EA EB
   have SB:=Lib.hid (BS.out.mod MB.out)
   obtain ⟨k0,k1,k2,k3,k4⟩:=SB.out.blk.cells5
   have hb2:=SB.out.blk.lt
   obtain ⟨g1,off1,x1,F1,rfl,hg1,hgm1,c1,nx1,fx1⟩:=SB.out.o1 qt hqn
   obtain ⟨g2,off2,x2,F2,rfl,hg2,hgm2,c2,nx2,fx2⟩:=SB.out.o2 qt hqn
   have NX:Hid (Nk wb bm x1 1):=⟨F1,nx1,fun k hk=>by have:=fx1 k hk;simpa using this⟩
   have NY:Hid (Nk wb bm x2 1):=⟨F2,nx2,fun k hk=>by have:=fx2 k hk;simpa using this⟩
   have HBL:Hid (∀W,Mod [] wb W→bm < W.heap.size):=fun W md=>Nat.lt_of_lt_of_le (Nat.lt_of_lt_of_le HBM.out MB.out.size) md.size
   have hqn':(qt:Int) < n:=by omega
   have BA:Hid (1 *xa≤4294967296):=by show _≤_;have:=HXA.out;omega
   have BB:Hid (1 *xb≤4294967296):=by show _≤_;have:=HXB.out;omega
   have BC:Hid (1 *xa+1 *xb≤4294967296):=by show _≤_;have:=HXA.out;have:=HXB.out;omega
   have O1:Hid ((1:Nat)≤65536):=by show _≤_;omega
   clear nx1 nx2 fx1 fx2 hgm1 hgm2
   go_wp2_with fail
   have EX:Hid (∀W,Mod [] wb W→_):=fun W md=>mulK (NX.out.mod0 md) (NA.out.mod0 md) (HBL.out _ md) O1.out HXA.out BA.out
   have EY:Hid (∀w1 W,Mod [] wb w1→Mod [] w1 W→_):=fun w1 W m1 md=>mulK (NY.out.mod0 (m1.trans' md)) (NB.out.mod0 (m1.trans' md)) (HBL.out _ (m1.trans' md)) O1.out HXB.out BB.out
   have EZ:Hid (∀v1 v2 w1 w2 W,Nk w1 bm v1 (1 *xa)→Nk w2 bm v2 (1 *xb)→Mod [] wb w1→Mod [] w1 w2→Mod [] w2 W→_):=fun v1 v2 w1 w2 W n1 n2 m1 m2 md=>addK (n1.mod0 (m2.trans' md)) (n2.mod0 md) (HBL.out _ ((m1.trans' m2).trans' md)) BC.out
   go_region_held3 (fun w'=>w'.cell? ⟨bw,2,none⟩=some (.slice (some ⟨g1,off1,none⟩) n cl)∧w'.cell? ⟨bw,3,none⟩=some (.slice (some ⟨g2,off2,none⟩) n ch)∧w'.cell? ⟨g1,off1+qt,none⟩=some (x1)∧w'.cell? ⟨g2,off2+qt,none⟩=some (x2)) (go_keep) (first | (go_at_call 187;(with_reducible refine (EX.out _ (by exact mods)).mono ?_);rintro e' w1 ⟨v1,rfl,nk1,m_w1⟩;have M_w1:=Mod.trans' (show Mod _ wb _ from by exact mods) m_w1;have k2:=(M_w1.cell (a:=⟨bw,2,none⟩) hb2 (by first | assumption | (simp;done))).trans k2;have k3:=(M_w1.cell (a:=⟨bw,3,none⟩) hb2 (by first | assumption | (simp;done))).trans k3;have c1:=(M_w1.cell (a:=⟨g1,off1+qt,none⟩) hg1 (by first | assumption | (simp;done))).trans c1;have c2:=(M_w1.cell (a:=⟨g2,off2+qt,none⟩) hg2 (by first | assumption | (simp;done))).trans c2;have hb2:=Nat.lt_of_lt_of_le hb2 M_w1.size;have hg1:=Nat.lt_of_lt_of_le hg1 M_w1.size;have hg2:=Nat.lt_of_lt_of_le hg2 M_w1.size;skip) | (go_at_call 187;(with_reducible refine (EY.out w1 _ M_w1 (by exact mods)).mono ?_);rintro e' w2 ⟨v2,rfl,nk2,m_w2⟩;have M_w2:=Mod.trans' (show Mod _ w1 _ from by exact mods) m_w2;have k2:=(M_w2.cell (a:=⟨bw,2,none⟩) hb2 (by first | assumption | (simp;done))).trans k2;have k3:=(M_w2.cell (a:=⟨bw,3,none⟩) hb2 (by first | assumption | (simp;done))).trans k3;have c1:=(M_w2.cell (a:=⟨g1,off1+qt,none⟩) hg1 (by first | assumption | (simp;done))).trans c1;have c2:=(M_w2.cell (a:=⟨g2,off2+qt,none⟩) hg2 (by first | assumption | (simp;done))).trans c2;have hb2:=Nat.lt_of_lt_of_le hb2 M_w2.size;have hg1:=Nat.lt_of_lt_of_le hg1 M_w2.size;have hg2:=Nat.lt_of_lt_of_le hg2 M_w2.size;skip) | (go_at_call 196;refine (EZ.out v1 v2 w1 w2 _ nk1 nk2 M_w1 M_w2 (by exact mods)).mono ?_;rintro e' w3 ⟨v3,rfl,nk3,m_w3⟩;have M_w3:=Mod.trans' (show Mod _ w2 _ from by exact mods) m_w3;have k2:=(M_w3.cell (a:=⟨bw,2,none⟩) hb2 (by first | assumption | (simp;done))).trans k2;have k3:=(M_w3.cell (a:=⟨bw,3,none⟩) hb2 (by first | assumption | (simp;done))).trans k3;have c1:=(M_w3.cell (a:=⟨g1,off1+qt,none⟩) hg1 (by first | assumption | (simp;done))).trans c1;have c2:=(M_w3.cell (a:=⟨g2,off2+qt,none⟩) hg2 (by first | assumption | (simp;done))).trans c2;have hb2:=Nat.lt_of_lt_of_le hb2 M_w3.size;have hg1:=Nat.lt_of_lt_of_le hg1 M_w3.size;have hg2:=Nat.lt_of_lt_of_le hg2 M_w3.size;skip))
   all_goals
    have M3:=Lib.hid (MB.out.trans ((M_w1.trans' M_w2).trans' M_w3) (by simp))
    have K3:=Lib.hid (KB.out.mod ((M_w1.trans' M_w2).trans' M_w3))
    rw [Nat.one_mul,Nat.one_mul] at nk3
    have N3:=Lib.hid nk3
    clear nk1 nk2 nk3 m_w1 m_w2 m_w3 M_w1 M_w2 M_w3 c1 c2 hg1 hg2 k0 k1 k2 k3 k4 hb2 NX NY HBL BA BB BC EX EY EZ
    have hb3:=(BS.out.mod M3.out).blk.lt
    go_wp2_with fail
    refine (PR.out _ qt qt true (by first | exact M3.out | exact M3.out.drewN _) (by omega)).mono ?_
    rintro e w4 ⟨v4,rfl,nk4,m4⟩
    rw [prodN_self] at nk4
    have M4:=Lib.hid (M3.out.trans m4 (by simp))
    have K4:=Lib.hid (K3.out.mod m4)
    have N34:=Lib.hid (N3.out.mod0 m4)
    have N4:=Lib.hid nk4
    clear nk4 m4
    go_wp2_with fail
    refine (mulK N4.out N34.out (Nat.lt_of_lt_of_le HBM.out M4.out.size) O1.out HXS.out (by have:=HXS.out;omega)).mono ?_
    rintro e w5 ⟨v5,rfl,nk5,m5⟩
    rw [Nat.one_mul] at nk5
    have M5:=Lib.hid (M4.out.trans m5 (by simp))
    have K5:=Lib.hid (K4.out.mod m5)
    have N5:=Lib.hid nk5
    clear nk5 m5
    obtain ⟨k0,k1,k2,k3,k4⟩:=(BS.out.mod M5.out).blk.cells5
    have hb5:=(BS.out.mod M5.out).blk.lt
    have hm2:=HM2.out
    have hmm:=HM.out
    obtain ⟨w6,hrun,hk6,hm6⟩:=K5.out.put a ha HT.out (by rw [HX.out];exact N5.out) (by omega)
    have K6:=Lib.hid hk6
    have M6:=Lib.hid (M5.out.trans' hm6)
    have N6:=Lib.hid (N5.out.mod hm6)
    clear hk6 hm6
    go_wp2_with fail
    go_ret
    exact ⟨_,_,rfl,N6.out,K6.out,by omega,M6.out⟩
open Go.RowKit
theorem cN_le {L:List Rc} {f n:Nat} (hG:Good L n) (hf:f=1∨f=2) (hn:n≤16) {r:Rc} {id:Nat} {A B:Tr} (hr:recAt L id=some r) (hrf:r.f=f) (hA:Rep L f r.lo.a A) (hB:Rep L f r.hi.a B):
 r.top=r.bot∧r.bot < n∧cE f n A (r.bot+1)+cE f n B (r.bot+1)≤65536∧LeadsP L f r.lo (r.bot+1) n∧LeadsP L f r.hi (r.bot+1) n:=by
 have g:=hG id r hr
 have tb:r.top=r.bot:=by
  rcases g.right.ch with h | h | h
  ·exact h
  ·omega
  ·omega
 have bn:=g.right.bn
 have glo:=g.lo
 have ghi:=g.hi
 rw [hrf] at glo ghi
 have h1:=cE_le hG hf hA (t:=r.lo.t) (l:=r.bot+1) glo (by omega)
 have h2:=cE_le hG hf hB (t:=r.hi.t) (l:=r.bot+1) ghi (by omega)
 have h3:2 ^ (n - (r.bot+1))≤2 ^ 15:=Nat.pow_le_pow_right (by omega) (by omega)
 exact ⟨tb,bn,by omega,glo,ghi⟩
theorem edge_c {bw b n room f bm:Nat} {L:List Rc} {F:List Nat} {lo hi:Option Addr} {cl ch:Nat} (hn:n≤16) (hf:f=1∨f=2) (hL:L.length≤1048576) (hG:Good L n) (T:Tr):
 ∀(w:World) (m t a l:Nat),Sc w bw b n room f L F lo hi cl ch bm→Kp w bm m f n L→Rep L f a T→LeadsP L f ⟨t,a⟩ l n→l≤n→m+tsz T≤1000000→
  Calls Tryz.prog 173 #[.pointer (some ⟨bw,0,none⟩),edv ⟨t,a⟩,.int .i64 l] w (ScP w bm (m+tsz T) f n L (cE f n T l)):=by
 have hz3:((f:Int)==3)=false:=by simp;omega
 have hz5:((f:Int)==5)=false:=by simp;omega
 induction T with
 | leaf bb=>
  intro w m t a l hS hK hT hP hl hm
  cases bb with
  | false=>
   have ha:=hT.invl
   simp at ha
   subst ha
   exact edge_zero hK (by omega)
  | true=>
   have ha:=hT.invl
   simp at ha
   subst ha
   obtain ⟨fr,hfr⟩:∃fr,fr=if f=1 then n else l:=⟨_,rfl⟩
   refine (edge_step hS hn ((f:Int)==1) rfl hz3 hz5 t 1 l fr (by omega) rc0 false n 1 m (m+tsz (.leaf true)) (Nat.le_refl _) hl (by
    rcases hf with rfl | rfl
    ·left;exact ⟨by decide,by simpa using hfr⟩
    ·right;exact ⟨by decide,by simpa using hfr⟩) (by omega) (by omega)
    (fun W md=>stGet_none (hS.mod0 md).st hL 1 (by omega) (by unfold recAt;simp)) hK (fun _=>⟨rfl,rfl⟩) (fun h=>by cases h) (fun _ _ h=>by cases h)).mono ?_
   intro e w' h
   have e2:prodN l fr true *prodN fr n false *1=cE f n (.leaf true) l:=by
    unfold cE prodN
    rcases hf with rfl | rfl
    ·simp at hfr;subst hfr;simp
    ·simp at hfr;subst hfr;simp
   rw [e2] at h
   exact h
 | node tt tb tl A th B ihA ihB=>
  intro w m t a l hS hK hT hP hl hm
  obtain ⟨r,hr,hrf,rfl,rfl,rfl,rfl,hA,hB⟩:=hT.inv
  have hal:=recAt_lt hr
  obtain ⟨htb,hbn,hs,glo,ghi⟩:=cN_le hG hf hn hr hrf hA hB
  have hlt:l≤r.top:=by
   rcases hP.at_ with q | ⟨r',h2,h3,h4,_⟩
   ·simp only at q;omega
   ·simp only at h2;rw [hr] at h2;obtain rfl:=Option.some.inj h2;exact h4
  obtain ⟨fr,hfr⟩:∃fr,fr=if f=1 then r.top else l:=⟨_,rfl⟩
  have hsz:tsz (.node r.top r.bot r.lo.t A r.hi.t B)=1+tsz A+tsz B:=rfl
  refine (edge_step hS hn ((f:Int)==1) rfl hz3 hz5 t a l fr (by omega) r true r.top (cE f n A (r.bot+1)+cE f n B (r.bot+1)) m (m+tsz (.node r.top r.bot r.lo.t A r.hi.t B)) (by omega) hlt (by
   rcases hf with h | h
   ·left;subst h;exact ⟨by decide,by simpa using hfr⟩
   ·right;subst h;exact ⟨by decide,by simpa using hfr⟩) hs (by omega)
   (fun W md=>stGet_live (hS.mod0 md).st hL a r hr) hK (fun h=>by cases h) (fun _=>rfl) (fun W md _=>?_)).mono ?_
  ·have hnode:=node_step (hS.mod0 md) hn hz3 a (by omega) r htb hbn m (hK.mod md) hT (tsz A) (tsz B) (cE f n A (r.bot+1)) (cE f n B (r.bot+1)) rfl (by omega) (by omega) hs (by omega)
    (fun W2 m' md2 hk hm'=>by
     refine (ihA W2 m' r.lo.t r.lo.a (r.bot+1) ((hS.mod0 md).mod md2) hk hA glo (by omega) (by omega)).mono ?_
     rintro e w' ⟨v,m2,h1,h2,h3,h4,h5⟩
     exact ⟨v,m2,h1,h2,h3,by omega,h5⟩)
    (fun W2 m' md2 hk hm'=>by
     refine (ihB W2 m' r.hi.t r.hi.a (r.bot+1) ((hS.mod0 md).mod md2) hk hB ghi (by omega) (by omega)).mono ?_
     rintro e w' ⟨v,m2,h1,h2,h3,h4,h5⟩
     exact ⟨v,m2,h1,h2,h3,by omega,h5⟩)
   rw [hsz,show m+(1+tsz A+tsz B)=m+1+tsz A+tsz B by omega]
   exact hnode
  ·intro e w' h
   have e2:prodN l fr true *prodN fr r.top false *(cE f n A (r.bot+1)+cE f n B (r.bot+1))=cE f n (.node r.top r.bot r.lo.t A r.hi.t B) l:=by
    rw [cE]
    unfold prodN
    rcases hf with rfl | rfl
    ·simp at hfr;subst hfr;simp
    ·simp at hfr;subst hfr;simp
   rw [e2] at h
   exact h
open Go.RowKit
theorem same1s_c (n:Nat) (hn:n≤16) (w:World):Calls Tryz.prog 148 #[.int .u64 1,.int .i64 n] w fun e w'=>∃v,e=.returned v∧NewV 22 w ((List.replicate n 1).map e6) w' v:=by
 obtain ⟨gk,hgk⟩:∃gk,w.heap.size=gk:=⟨_,rfl⟩
 have MK0:=made22 w n (by omega)
 rw [hgk] at MK0
 have F0:=Lib.hid (Fill.start (n:=n) hgk.symm (by unfold maxLen;omega))
 go_enter Tryz.func148,Tryz.ntmps148
 go_wp2_with fail
 go_loopw [6,11] (fun _ i wr=>∃k:Nat,i=.int .i64 k∧k≤n∧Hid (Fill w gk n wr (List.replicate k 1))) (fun _ i _=>n - (intOf i).toNat)
 case atStart=>exact ⟨0,rfl,by omega,F0⟩
 case round=>
  obtain ⟨k,rfl,hk,HF⟩:=hrel
  by_cases hlt:k < n
  ·have hlt':(k:Int) < n:=by omega
   have hk0:(0:Int)≤k:=by omega
   obtain ⟨c0,f0⟩:=HF.out.at (k:=k) (by simp) hlt
   have HP:=Lib.hid (HF.out.put (k:=k) (by simp) hlt 1 (by unfold B64;omega))
   have HE:Hid (List.replicate (k+1) 1=List.replicate k 1++[1]):=List.replicate_succ'
   clear F0
   go_wp2_with fail
   go_roundw
   case rel=>exact ⟨k+1,by first | rfl | go_num,by omega,by rw [HE.out];exact HP.out⟩
   case measure=>simp [intOf];omega
  ·obtain rfl:k=n:=by omega
   go_wp2_with fail
   go_ret
   exact ⟨_,rfl,HF.out.full (by simp)⟩
theorem Tryz.infoSl:(Tryz.prog.info? 23).map (fun i=>(i.zero,i.size,i.bytes))=some (some (.slice none 0 0),1,24):=by kernel_rfl
theorem madeSl (w:World) (n:Nat) (hn:n≤10000):(Instr.makeSlice 263 (.int .i64 n) (.int .i64 n)).run Tryz.prog w=.ok (.slice (some ⟨w.heap.size,0,none⟩) n n) (w.alloc (.cells (madeCells #[.slice none 0 0] n) 23)):=by
 obtain ⟨i0,hi,hz0,hz1,hz2⟩:=info_parts Tryz.infoSl
 have:=run_make (P:=Tryz.prog) w 263 23 i0 _ Tryz.underlying263 hi hz0 .i64 .i64 n n (by omega) (by omega) (by rw [hz2];omega) (by omega)
 simpa [hz1,Value.cells] using this
def NRow (w0 wr:World) (g n k:Nat):Prop:=
 ∃fv,Row wr g 23 n fv∧(∀j,j < k→∃F,Nm wr (fv j) 1 F∧∀x∈F,x < wr.heap.size∧x≠g)∧Mod [] w0 wr∧w0.heap.size≤g
theorem NRow.later {w0 w1 w2:World} {g n k:Nat} (h:NRow w0 w1 g n k) (m:Mod [] w1 w2):NRow w0 w2 g n k:=by
 obtain ⟨fv,h1,h2,h3,h4⟩:=h
 refine ⟨fv,h1.mod m (by simp),fun j hj=>?_,h3.trans' m,h4⟩
 obtain ⟨F,a,b⟩:=h2 j hj
 exact ⟨F,a.mod m (by simp),fun x hx=>⟨Nat.lt_of_lt_of_le (b x hx).1 m.size,(b x hx).2⟩⟩
theorem NRow.put {w0 wr:World} {g n k:Nat} (h:NRow w0 wr g n k) {v:Value} {F:List Nat} (hv:Nm wr v 1 F) (hF:∀x∈F,x < wr.heap.size∧x≠g):NRow w0 (wr.setCell ⟨g,k,none⟩ v) g n (k+1):=by
 obtain ⟨fv,h1,h2,h3,h4⟩:=h
 have md:Mod [g] wr (wr.setCell ⟨g,k,none⟩ v):=(Mod.refl [g] wr).setCell _ _ (by simp)
 refine ⟨_,h1.set k v,fun j hj=>?_,h3.setCell _ _ (by simp;omega),h4⟩
 by_cases q:j=k
 ·subst q
  exact ⟨F,by rw [if_pos rfl];exact hv.mod md (fun x hx=>by simpa using (hF x hx).2),fun x hx=>⟨by simpa using (hF x hx).1,(hF x hx).2⟩⟩
 ·obtain ⟨F',a,b⟩:=h2 j (by omega)
  exact ⟨F',by rw [if_neg q];exact a.mod md (fun x hx=>by simpa using (b x hx).2),fun x hx=>⟨by simpa using (b x hx).1,(b x hx).2⟩⟩
theorem NRow.ones {w0 wr:World} {g n:Nat} (h:NRow w0 wr g n n) {W:World} (m:Mod [] wr W) {S:List Nat} (hS:∀k∈S,wr.heap.size≤k):Ones W (some ⟨g,0,none⟩) n S:=by
 obtain ⟨fv,h1,h2,h3,h4⟩:=h
 intro k hk
 obtain ⟨F,a,b⟩:=h2 k hk
 have hg:=h1.lt
 refine ⟨g,0,fv k,F,rfl,Nat.lt_of_lt_of_le hg m.size,fun hm=>by have:=hS _ hm;omega,?_,a.mod m (by simp),fun x hx=>⟨Nat.lt_of_lt_of_le (b x hx).1 m.size,fun hm=>by have:=hS _ hm;have:=(b x hx).1;omega⟩⟩
 rw [Nat.zero_add]
 exact (m.cell (a:=⟨g,k,none⟩) hg (by simp)).trans (h1.cell k hk)
theorem numbers_c {w:World} {A:Option Addr} {n cap:Nat} {F:List Nat} (h:Rv w (.slice A n cap) ((List.replicate n 1).map e6) F) (hF:∀k∈F,k < w.heap.size) (hn:n≤16):
 Calls Tryz.prog 171 #[.slice A n cap] w fun e w'=>∃g,e=.returned (.slice (some ⟨g,0,none⟩) n n)∧NRow w w' g n n:=by
 obtain ⟨gk,hgk⟩:∃gk,w.heap.size=gk:=⟨_,rfl⟩
 have MK0:=madeSl w n (by omega)
 rw [hgk] at MK0
 have OF:=Lib.hid (of_c 1 (by unfold B64;omega))
 have R0:Hid (NRow w (w.alloc (.cells (madeCells #[.slice none 0 0] n) 23)) gk n 0):=⟨_,Row.made w n (.slice none 0 0) 23 gk hgk.symm,fun j hj=>by omega,(Mod.refl _ _).alloc _,by omega⟩
 have HR:=Lib.hid h
 clear h
 go_enter Tryz.func171,Tryz.ntmps171
 go_wp2_with fail
 generalize w.alloc (.cells (madeCells #[.slice none 0 0] n) 23)=w0 at *
 go_loopw [4,5,11] (fun _ _ i wr=>∃k:Nat,i=.int .i64 k∧k≤n∧Hid (NRow w wr gk n k)) (fun _ _ i _=>n - (intOf i).toNat)
 case atStart=>exact ⟨0,rfl,by omega,R0⟩
 case round=>
  obtain ⟨k,rfl,hk,HN⟩:=hrel
  by_cases hlt:k < n
  ·have hlt':(k:Int) < n:=by omega
   have hk0:(0:Int)≤k:=by omega
   have HM:Hid (Mod [] w wr):=by obtain ⟨fv,_,_,m,_⟩:=HN.out;exact m
   obtain ⟨g,off,rfl,hc⟩:∃g off,A=some ⟨g,off,none⟩∧wr.cell? ⟨g,off+k,none⟩=some (.int .u64 1):=by
    obtain ⟨F',h',hF'⟩:=HR.out.lt
    obtain ⟨g,off,rfl,hc⟩:=(h'.mod HM.out (by simp)).at k (by simpa using hlt)
    refine ⟨g,off,rfl,?_⟩
    simpa [e6] using hc
   clear R0 MK0
   go_wp2_with fail
   refine (OF.out _).mono ?_
   rintro e w2 ⟨v,rfl,n2⟩
   obtain ⟨A2,N2',cap2,rfl⟩:∃A N c,v=.slice A N c:=by obtain ⟨l,_,hn⟩:=n2;obtain ⟨A2,cap2,e⟩:=hn.shape;exact ⟨A2,_,cap2,e⟩
   obtain ⟨F2,nm2,ge2,lt2⟩:=n2.nm (by omega)
   have hgw:Hid (gk < wr.heap.size):=by obtain ⟨fv,hr,_⟩:=HN.out;exact hr.lt
   have N2:=Lib.hid ((HN.out.later n2.mod).put nm2 (fun x hx=>⟨lt2 x hx,by have:=ge2 x hx;have:=hgw.out;omega⟩))
   obtain ⟨fv,hrow,-⟩:=HN.out.later n2.mod
   have c2:=hrow.cell k hlt
   have f2:=hrow.froz k
   have l2:=hrow.lt
   clear n2 nm2 ge2 lt2 hrow
   go_wp2_with fail
   go_roundw
   case rel=>exact ⟨k+1,by first | rfl | go_num,by omega,N2⟩
   case measure=>simp [intOf];omega
  ·obtain rfl:k=n:=by omega
   go_wp2_with fail
   go_ret
   exact ⟨_,rfl,HN.out⟩
open Go.RowKit
structure Dia (L:List Rc) (n f:Nat) (e:Ed) (T:Tr):Prop where
 f1:1≤f
 f2:f≤2
 lead:LeadsP L f e 0 n
 rep:Rep L f e.a T
 size:tsz T≤100000
 few:(dis [] (nds T)).length≤9
theorem meterMay_c {w:World} {b n room f:Nat} {L:List Rc} {F:List Nat} (h:IsSt w b n L room F) (hL:L.length≤1048576) (hnd:L.Nodup) (hn:n≤16) {e:Ed} {T:Tr} (hD:Dia L n f e T):
 Calls Tryz.prog 170 #[.pointer (some ⟨b,0,none⟩),.int .u8 f,edv e] w fun e' w'=>e'=.returned (.int .u8 0)∧Mod [] w w':=by
 have SZ:Hid (∀W,Mod [] w W→_):=fun W md=>canonSize_c (h.mod md (by simp)) hL hnd hn f hD.f1 (Nat.le_trans hD.f2 (by omega)) e 0 (by omega) hD.lead (x:=(e.t,T)) ⟨rfl,hD.rep⟩ (Nat.le_trans hD.size (by omega)) (Nat.le_trans hD.few (by omega))
 obtain ⟨t,a⟩:=e
 unfold edv at *
 simp only at SZ ⊢
 clear h hD
 go_enter Tryz.func170,Tryz.ntmps170
 go_wp2_with fail
 refine (SZ.out _ (by exact mods)).mono ?_
 rintro e w2 ⟨rfl,m2⟩
 have M2:=Lib.hid (Mod.trans' (show Mod [] w _ from by exact mods) m2)
 clear m2
 go_wp2_with fail
 go_ret
 exact ⟨rfl,M2.out⟩
theorem weigh_c {w:World} {b n room f cap:Nat} {L:List Rc} {F Fl:List Nat} {A:Option Addr} (h:IsSt w b n L room F) (hL:L.length≤1048576) (hnd:L.Nodup) (hG:Good L n) (hn:n≤16) {e:Ed} {T:Tr} (hD:Dia L n f e T)
 (hl:Rv w (.slice A n cap) ((List.replicate n 1).map e6) Fl) (hFl:∀k∈Fl,k < w.heap.size):
 Calls Tryz.prog 149 #[.pointer (some ⟨b,0,none⟩),.int .u8 f,edv e,.slice A n cap,.slice A n cap] w fun e' w'=>∃v,e'=.returned (.tuple #[v,.int .u8 0])∧NNew w (cE f n T 0) w' v:=by
 have MY:Hid (∀W,Mod [] w W→_):=fun W md=>meterMay_c (h.mod md (by simp)) hL hnd hn hD
 have VA:Hid (∀W',Mod [] w W'→Calls Tryz.prog 59 #[.pointer (some ⟨b,0,none⟩)] W' fun e w'=>e=.returned (.int .i64 n)∧w'=W'):=fun W' md=>by
  obtain ⟨ba,bi,Fa,c0,_⟩:=(h.mod md (by simp)).own
  exact stVars_c b n W' c0
 have NU:Hid (∀W',Mod [] w W'→_):=fun W' md=>numbers_c (hl.mod md (by simp)) (fun k hk=>Nat.lt_of_lt_of_le (hFl k hk) md.size) hn
 have hlen:=(hl.len).2
 have hb:=h.lt b (by obtain ⟨ba,bi,g,nt,j,T',Fa,_,_,_,_,_,_,_,_,_,_,rfl,_⟩:=h;simp)
 have HS:=Lib.hid h
 have HD:=Lib.hid hD
 have HG:=Lib.hid hG
 have HFs:=Lib.hid h.lt
 obtain ⟨t,a⟩:=e
 unfold edv at *
 simp only at MY ⊢
 obtain ⟨gk,hgk⟩:∃gk,w.heap.size=gk:=⟨_,rfl⟩
 have hmk:=@run_makeMap Tryz.prog
 clear h hD hl hFl hG
 go_enter Tryz.func149,Tryz.ntmps149
 go_wp2_with fail
 refine (MY.out _ (by exact mods)).mono ?_
 rintro e w2 ⟨rfl,m2⟩
 have M2:=Lib.hid (Mod.trans' (show Mod [] w _ from by exact mods) m2)
 have B2:=Lib.hid ((Blk.new' w #[.int .u8 t,.int .u32 a] 66 gk hgk.symm).mod m2 (by simp))
 clear m2 MY
 go_wp2_with fail
 refine (VA.out _ (by first | exact M2.out | exact M2.out.drewN _)).mono ?_
 rintro e wx ⟨rfl,rfl⟩
 go_wp2_with fail
 refine (VA.out _ (by first | exact M2.out | exact M2.out.drewN _)).mono ?_
 rintro e w2 ⟨rfl,rfl⟩
 go_wp2_with fail
 refine (NU.out _ (by first | exact M2.out | exact M2.out.drewN _)).mono ?_
 rintro e w3 ⟨g1,rfl,r1⟩
 have R1:=Lib.hid r1
 have M3:Hid (Mod [] w w3):=M2.out.trans' (by obtain ⟨fv,_,_,m,_⟩:=r1;exact m)
 have MR3:Hid (Mod [] w2 w3):=by obtain ⟨fv,_,_,m,_⟩:=r1;exact m
 clear r1
 go_wp2_with fail
 refine (NU.out _ (by first | exact M3.out | exact M3.out.drewN _)).mono ?_
 rintro e w4 ⟨g2,rfl,r2⟩
 have R2:=Lib.hid r2
 have M34:Hid (Mod [] w3 w4):=by obtain ⟨fv,_,_,m,_⟩:=r2;exact m
 have M4:=Lib.hid (M3.out.trans' M34.out)
 have B4:=Lib.hid ((B2.out.mod MR3.out (by simp)).mod M34.out (by simp))
 obtain ⟨d0,d1⟩:=B4.out.cells2
 have hk4:=B4.out.lt
 obtain ⟨bm,hbm⟩:∃bm,w4.heap.size=bm:=⟨_,rfl⟩
 have e0:=((show Mod [] w4 ((w4.alloc (.map #[] 0)).alloc (.cells #[.pointer (some ⟨b,0,none⟩),.int .u8 f,.slice (some ⟨g1,0,none⟩) n n,.slice (some ⟨g2,0,none⟩) n n,.map (some bm)] 267)) from by exact mods).cell (a:=⟨gk,0,none⟩) hk4 (by simp)).trans d0
 have e1:=((show Mod [] w4 ((w4.alloc (.map #[] 0)).alloc (.cells #[.pointer (some ⟨b,0,none⟩),.int .u8 f,.slice (some ⟨g1,0,none⟩) n n,.slice (some ⟨g2,0,none⟩) n n,.map (some bm)] 267)) from by exact mods).cell (a:=⟨gk,1,none⟩) hk4 (by simp)).trans d1
 clear r2 NU VA
 go_wp2_with fail
 obtain ⟨WX,hWX⟩:∃WX,((w4.alloc (.map #[] 0)).alloc (.cells #[.pointer (some ⟨b,0,none⟩),.int .u8 f,.slice (some ⟨g1,0,none⟩) n n,.slice (some ⟨g2,0,none⟩) n n,.map (some bm)] 267))=WX:=⟨_,rfl⟩
 have MX:Hid (Mod [] w4 WX):=by rw [←hWX];exact ((Mod.refl _ _).alloc _).alloc _
 have KX:Hid (Kp WX bm 0 f n L):=by
  refine ⟨fun _=>none,?_,fun id v _ h=>by cases h⟩
  rw [←hWX]
  exact (IsMp.made w4 64 bm hbm.symm).mod (show Mod [] (w4.alloc (.map #[] 0)) _ from by exact mods) (by simp)
 have SX:Hid (Sc WX (bm+1) b n room f L F (some ⟨g1,0,none⟩) (some ⟨g2,0,none⟩) n n bm):=by
  refine ⟨?_,HS.out.mod (M4.out.trans' MX.out) (by simp),R1.out.ones (M34.out.trans' MX.out) (by simp;have:=M34.out.size;omega),R2.out.ones MX.out (by simp;omega),by omega,fun k hk=>?_⟩
  ·rw [←hWX]
   exact Blk.new' _ _ _ _ (by simp [hbm])
  ·have:=HFs.out k hk;have:=M4.out.size;omega
 rw [hWX] at e0 e1 ⊢
 have hnw:Hid (w.heap.size≤bm):=by have:=M4.out.size;show _≤_;omega
 clear hWX
 refine (edge_c hn (by have:=HD.out.f1;have:=HD.out.f2;omega) hL HG.out T WX 0 t a 0 SX.out KX.out HD.out.rep HD.out.lead (by omega) (by have:=HD.out.size;omega)).mono ?_
 rintro e w5 ⟨v,m',rfl,nk,-,-,m5⟩
 obtain ⟨F5,⟨l5,hc5,nv5,hl5⟩,-⟩:=nk
 have M5:Hid (Mod [] w w5):=(M4.out.trans' MX.out).trans m5 (by intro i hi h;have:=hnw.out;simp at h;omega)
 have NO:=Lib.hid (norm_c nv5 (by omega))
 rw [hc5.val] at NO
 clear nv5 hc5 hl5 m5 d0 d1 hk4 e0 e1
 go_wp2_with fail
 refine NO.out.mono ?_
 rintro e w6 ⟨v6,rfl,n6⟩
 have N6:=Lib.hid (n6.after M5.out)
 clear n6
 go_wp2_with fail
 go_ret2
 exact ⟨_,rfl,N6.out⟩
theorem meterCount_c {w:World} {b n room f:Nat} {L:List Rc} {F:List Nat} (h:IsSt w b n L room F) (hL:L.length≤1048576) (hnd:L.Nodup) (hG:Good L n) (hn:n≤16) {e:Ed} {T:Tr} (hD:Dia L n f e T):
 Calls Tryz.prog 128 #[.pointer (some ⟨b,0,none⟩),.int .u8 f,edv e] w fun e' w'=>∃v,e'=.returned (.tuple #[v,.int .u8 0])∧NNew w (cE f n T 0) w' v:=by
 have VA:Hid (∀W',Mod [] w W'→Calls Tryz.prog 59 #[.pointer (some ⟨b,0,none⟩)] W' fun e w'=>e=.returned (.int .i64 n)∧w'=W'):=fun W' md=>by
  obtain ⟨ba,bi,Fa,c0,_⟩:=(h.mod md (by simp)).own
  exact stVars_c b n W' c0
 have SM:=Lib.hid (same1s_c n hn)
 have WE:Hid (∀W A cap Fl,Mod [] w W→Rv W (.slice A n cap) ((List.replicate n 1).map e6) Fl→(∀k∈Fl,k < W.heap.size)→_):=fun W A cap Fl md hl hF=>weigh_c (h.mod md (by simp)) hL hnd hG hn hD hl hF
 obtain ⟨t,a⟩:=e
 unfold edv at *
 simp only at WE ⊢
 obtain ⟨gk,hgk⟩:∃gk,w.heap.size=gk:=⟨_,rfl⟩
 clear h hD hG
 go_enter Tryz.func128,Tryz.ntmps128
 go_wp2_with fail
 refine (VA.out _ (by exact mods)).mono ?_
 rintro e w1 ⟨rfl,rfl⟩
 go_wp2_with fail
 refine (SM.out _).mono ?_
 rintro e w2 ⟨v,rfl,n2⟩
 have m2:=n2.mod
 have M2:=Lib.hid (Mod.trans' (show Mod [] w _ from by exact mods) m2)
 obtain ⟨A,cap,rfl⟩:=n2.shape
 obtain ⟨F2,s2,-,-⟩:=n2
 have hlt:=s2.lt
 have RV:=Lib.hid (Rv.of_sl s2 rfl)
 have HLT:=Lib.hid hlt
 have B2:=Lib.hid ((Blk.new' w #[.int .u8 t,.int .u32 a] 66 gk hgk.symm).mod m2 (by simp))
 obtain ⟨d0,d1⟩:=B2.out.cells2
 have hk2:=B2.out.lt
 rw [List.length_map,List.length_replicate] at RV ⊢
 have WC:=Lib.hid (WE.out w2 A cap F2 M2.out RV.out HLT.out)
 clear m2 s2 hlt WE
 go_wp2_with fail
 refine WC.out.mono ?_
 rintro e w3 ⟨v3,rfl,n3⟩
 have N3:=Lib.hid (n3.after M2.out)
 clear n3
 go_wp2_with fail
 go_ret2
 exact ⟨_,rfl,N3.out⟩
end Go.Proofs.YtlafpknoiihaaaaGreatDoor
