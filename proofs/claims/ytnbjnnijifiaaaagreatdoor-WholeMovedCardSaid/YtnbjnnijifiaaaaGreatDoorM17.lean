/- M17: Km · Xk -/
import Derived.Test.YtnbjnnijifiaaaaGreatDoorM11
import Derived.DeepKeys4
import Derived.StringKeys
import Derived.Maps.OwnSet
import Derived.Test.YtnbjnnijifiaaaaGreatDoorM09
set_option linter.unusedVariables false
set_option linter.unusedSimpArgs false
namespace Go.Proofs.YtnbjnnijifiaaaaGreatDoor
open Go.RowKit Go.WideMaps
theorem pl_laid:laidOutB Tryz.prog=true:=by kernel_rfl
theorem pl_row:(170:TypeId) < Tryz.prog.types.size:=of_decide_eq_true (by kernel_rfl)
theorem pl_at:Tryz.prog.keyTypeAt 3 170=true:=by kernel_rfl
theorem pl_law:KeyLaw Tryz.prog 170:=deep_law_laid pl_laid (m:=3) (by omega) pl_row pl_at (by rw [Tryz.underlying170])
theorem pl_keyed:Maps.Keyed Tryz.prog 170:=Maps.Keyed.of_law pl_law
def plv (f:Nat) (e:Ed) (l:Nat):Value:=.agg #[.int .u8 f,.int .u8 e.t,.int .u32 e.a,.int .i64 l]
theorem pl_cells:Tryz.prog.cellsOf 170=4:=by kernel_rfl
theorem ed_cells:Tryz.prog.cellsOf 39=2:=by kernel_rfl
theorem u8_cells:Tryz.prog.cellsOf 5=1:=by kernel_rfl
theorem form_cells:Tryz.prog.cellsOf 26=1:=by kernel_rfl
theorem u32_cells:Tryz.prog.cellsOf 37=1:=by kernel_rfl
theorem int_cells:Tryz.prog.cellsOf 3=1:=by kernel_rfl
theorem pl_key {f l:Nat} {e:Ed} (hf:f≤5) (ht:e.t≤255) (ha:e.a≤4294967295) (hl:l≤16):∃kl,keyOf Tryz.prog 170 (plv f e l)=some kl:=by
 have hkt:Tryz.prog.keyType 170=true:=by kernel_rfl
 have hs:∃m,Tryz.prog.types.size+1=m+1+1+1:=⟨Tryz.prog.types.size - 2,by have h3:(170:Nat) < Tryz.prog.types.size:=pl_row;omega⟩
 obtain ⟨m,hs⟩:=hs
 have h1:(Lit.int .u8 (f:Int)).wf=true:=by
  have e:IntKind.u8.min=0:=rfl
  have e2:IntKind.u8.max=255:=rfl
  simp [Lit.wf,e,e2];omega
 have h2:(Lit.int .u8 (e.t:Int)).wf=true:=by
  have e:IntKind.u8.min=0:=rfl
  have e2:IntKind.u8.max=255:=rfl
  simp [Lit.wf,e,e2];omega
 have h3:(Lit.int .u32 (e.a:Int)).wf=true:=wfU32 ha
 have h4:(Lit.int .i64 (l:Int)).wf=true:=by
  have e:IntKind.i64.min= -9223372036854775808:=rfl
  have e2:IntKind.i64.max=9223372036854775807:=rfl
  simp [Lit.wf,e,e2];omega
 refine ⟨.string (keyBytes [.int .u8 f,.int .u8 e.t,.int .u32 e.a,.int .i64 l]),?_⟩
 unfold keyOf plv
 rw [Tryz.underlying170]
 simp only
 rw [hkt,if_pos (by simp [Value.formed,Tryz.underlying170,pl_cells]),hs]
 simp [Program.keyLits,Tryz.underlying170,Tryz.underlying39,Tryz.underlying26,Tryz.underlying5,Tryz.underlying37,Tryz.underlying3,pl_cells,ed_cells,u8_cells,form_cells,u32_cells,int_cells,Value.cells,h1,h2,h3,h4]
 rw [if_pos (by
  intro i hi;have:i=0∨i=1:=by omega
  rcases this with rfl | rfl<;>simp)]
 rfl
theorem plv_inj {f f' l l':Nat} {e e':Ed} (h:plv f e l=plv f' e' l'):f=f'∧e=e'∧l=l':=by
 unfold plv at h
 obtain ⟨t,a⟩:=e
 obtain ⟨t',a'⟩:=e'
 simp at h
 simp;omega
def edR:Value→Option (DataW Unit × List MemPlace)
 | .agg cs=>match cs.toList with
  | [.int .u8 t,.int .u32 a]=>some (.agg [.lit (.int .u8 t),.lit (.int .u32 a)],[])
  | _=>none
 | _=>none
theorem edR_mk (e:Ed):edR (edv e)=some (.agg [.lit (.int .u8 e.t),.lit (.int .u32 e.a)],[]):=by simp [edR,edv]
theorem edR_inv {v:Value} {t a:Int} {ps:List MemPlace} (h:edR v=some (.agg [.lit (.int .u8 t),.lit (.int .u32 a)],ps)):v=.agg #[.int .u8 t,.int .u32 a]:=by
 unfold edR at h
 split at h
 ·rename_i cs
  split at h
  ·rename_i he
   simp at h
   obtain ⟨⟨rfl,rfl⟩,-⟩:=h
   have:=congrArg List.toArray he
   simp at this
   rw [this]
  ·simp at h
 ·simp at h
def IsKept (w:World) (bm m:Nat) (K:Nat→Ed→Nat→Ed→Prop):Prop:=
 ∃D:DataW Unit,w.ownsMap Tryz.prog 170 edR bm m D∧∀f e l kl,keyOf Tryz.prog 170 (plv f e l)=some kl→Maps.has D kl=true→∃x:Ed,(∀z,D.atKey kl z=.agg [.lit (.int .u8 x.t),.lit (.int .u32 x.a)])∧K f e l x
theorem IsKept.mod {S:List Nat} {w w':World} {bm m:Nat} {K:Nat→Ed→Nat→Ed→Prop} (h:IsKept w bm m K) (hm:Mod S w w') (hn:bm∉S):IsKept w' bm m K:=by
 obtain ⟨D,h1,h2⟩:=h
 exact ⟨D,own_mod h1 hm hn,h2⟩
theorem IsKept.lt {w:World} {bm m:Nat} {K:Nat→Ed→Nat→Ed→Prop} (h:IsKept w bm m K):bm < w.heap.size:=by
 obtain ⟨D,h1,h2⟩:=h
 exact h1.lt
theorem IsKept.mono {w:World} {bm m m':Nat} {K K':Nat→Ed→Nat→Ed→Prop} (h:IsKept w bm m K) (hm:m≤m') (hK:∀f e l x,K f e l x→K' f e l x):IsKept w bm m' K':=by
 obtain ⟨D,h1,h2⟩:=h
 exact ⟨D,h1.mono hm,fun f e l kl hk hh=>by obtain ⟨x,hx,hk⟩:=h2 f e l kl hk hh;exact ⟨x,hx,hK _ _ _ _ hk⟩⟩
theorem IsKept.made (w:World) (bm:Nat) (hb:bm=w.heap.size) (K:Nat→Ed→Nat→Ed→Prop):IsKept (w.alloc (.map #[] 0)) bm 0 K:=by
 subst hb
 exact ⟨.map [],World.ownsMap_made _ _ _ _,fun f e l kl _ h=>by simp [Maps.has] at h⟩
theorem zeroEd (w:World):(zeroValue 39).run Tryz.prog w=.ok (edv ⟨0,0⟩) w:=by kernel_rfl
theorem IsKept.look {w:World} {bm m:Nat} {K:Nat→Ed→Nat→Ed→Prop} (h:IsKept w bm m K) {f l:Nat} {e:Ed} (hf:f≤5) (ht:e.t≤255) (ha:e.a≤4294967295) (hl:l≤16):
 (∃x,(Instr.lookup 165 (.map (some bm)) (plv f e l) true).run Tryz.prog w=.ok (.tuple #[edv x,.bool true]) w∧K f e l x)∨
 (Instr.lookup 165 (.map (some bm)) (plv f e l) true).run Tryz.prog w=.ok (.tuple #[edv ⟨0,0⟩,.bool false]) w:=by
 obtain ⟨D,h1,h2⟩:=h
 obtain ⟨kl,hk⟩:=pl_key hf ht ha hl
 obtain ⟨v,ps,hrun,hv⟩:=h1.look_ok pl_keyed Tryz.underlying165 (zeroEd w) (edR_mk ⟨0,0⟩) hk
 cases hh:Maps.has D kl with
 | true=>
  obtain ⟨x,hx,hkx⟩:=h2 f e l kl hk hh
  rw [hx] at hv
  have:=edR_inv hv
  subst this
  rw [hh] at hrun
  exact .inl ⟨x,hrun,hkx⟩
 | false=>
  rw [Maps.atKey_of_not_has hh] at hv
  have:=edR_inv hv
  subst this
  rw [hh] at hrun
  exact .inr hrun
theorem IsKept.look_all {w:World} {bm m:Nat} {K:Nat→Ed→Nat→Ed→Prop} (h:IsKept w bm m K) {f l:Nat} {e:Ed} (hf:f≤5) (ht:e.t≤255) (ha:e.a≤4294967295) (hl:l≤16):
 (∃x,K f e l x∧∀(S:List Nat) (w':World),Mod S w w'→bm∉S→(Instr.lookup 165 (.map (some bm)) (plv f e l) true).run Tryz.prog w'=.ok (.tuple #[edv x,.bool true]) w')∨
 (∀(S:List Nat) (w':World),Mod S w w'→bm∉S→(Instr.lookup 165 (.map (some bm)) (plv f e l) true).run Tryz.prog w'=.ok (.tuple #[edv ⟨0,0⟩,.bool false]) w'):=by
 obtain ⟨D,h1,h2⟩:=h
 obtain ⟨kl,hk⟩:=pl_key hf ht ha hl
 have run:=fun (S:List Nat) (w':World) (m':Mod S w w') (hn:bm∉S)=>(own_mod h1 m' hn).look_ok pl_keyed Tryz.underlying165 (zeroEd w') (edR_mk ⟨0,0⟩) hk
 cases hh:Maps.has D kl with
 | true=>
  obtain ⟨x,hx,hkx⟩:=h2 f e l kl hk hh
  refine .inl ⟨x,hkx,fun S w' m' hn=>?_⟩
  obtain ⟨v,ps,hrun,hv⟩:=run S w' m' hn
  rw [hx] at hv
  have:=edR_inv hv
  subst this
  rw [hh] at hrun
  exact hrun
 | false=>
  refine .inr (fun S w' m' hn=>?_)
  obtain ⟨v,ps,hrun,hv⟩:=run S w' m' hn
  rw [Maps.atKey_of_not_has hh] at hv
  have:=edR_inv hv
  subst this
  rw [hh] at hrun
  exact hrun
theorem IsKept.put {w:World} {bm m:Nat} {K:Nat→Ed→Nat→Ed→Prop} (h:IsKept w bm m K) {f l:Nat} {e:Ed} (hf:f≤5) (ht:e.t≤255) (ha:e.a≤4294967295) (hl:l≤16) (hm:m≤1000000) (x:Ed) (hK:K f e l x):
 ∃w',(Instr.mapUpdate 165 (.map (some bm)) (plv f e l) (edv x)).run Tryz.prog w=.ok () w'∧IsKept w' bm (m+1) K∧Mod [bm] w w':=by
 obtain ⟨D,h1,h2⟩:=h
 obtain ⟨kl,hk⟩:=pl_key hf ht ha hl
 have hkl:=pl_keyed.key hk
 obtain ⟨w',hrun,hown,hg⟩:=h1.update pl_keyed Tryz.underlying165 (by unfold maxLen;omega) hk (edR_mk x)
 refine ⟨w',hrun,⟨D.put kl (.agg [.lit (.int .u8 x.t),.lit (.int .u32 x.a)]),hown,?_⟩,⟨hg.os,hg.tape,hg.output,hg.size,fun k hk hn=>hg.block k hk (by simpa using hn)⟩⟩
 intro f' e' l' kl' hk' hh
 by_cases q:kl'=kl
 ·subst q
  obtain ⟨rfl,rfl,rfl⟩:=plv_inj (pl_keyed.inj hk' hk)
  exact ⟨x,fun z=>Maps.atKey_put_same h1.isMap hkl _ _,hK⟩
 ·rw [Maps.has_put_other q] at hh
  obtain ⟨y,hy,hky⟩:=h2 f' e' l' kl' hk' hh
  exact ⟨y,fun z=>by rw [Maps.atKey_put_other q];exact hy z,hky⟩
open Go.RowKit
def cst:Nat→Nat
 | 0=>6
 | d+1=>2+2 *cst d
theorem cst_pos:∀d,6≤cst d
 | 0=>Nat.le_refl _
 | d+1=>by have:=cst_pos d;rw [cst];omega
def KeptK (L:List Rc) (f n lv:Nat) (f':Nat) (e:Ed) (l:Nat) (x:Ed):Prop:=f'=f→∃k t,l≤lv∧EdT L f n k l e t∧EdT L f n k l x (swpT (lv - l) k t)
theorem KeptK.grow {L:List Rc} {f n lv f' l:Nat} {e x:Ed} (h:KeptK L f n lv f' e l x) (L2:List Rc):KeptK (L++L2) f n lv f' e l x:=fun q=>by
 obtain ⟨k,t,h1,h2,h3⟩:=h q
 exact ⟨k,t,h1,h2.grow L2,h3.grow L2⟩
theorem Grow.cons {w w':World} {F F':List Nat} (h:Grow w w' F F') (bm:Nat):Grow w w' (bm::F) (bm::F'):=
 ⟨h.mod.mono (fun i _ hi=>by simp [hi]),fun k hk=>by
  rcases List.mem_cons.1 hk with rfl | hk
  ·exact .inl (by simp)
  ·exact (h.own k hk).imp (fun q=>by simp [q]) (fun q=>q)⟩
theorem Grow.keep1 {w w':World} {F F':List Nat} {bm x:Nat} (g:Grow w w' (bm::F) (bm::F')) (hl:x < w.heap.size) (hm:x≠bm) (hn:x∉F):x∉F':=fun h=>by
 rcases g.own x (by simp [h]) with q | q
 ·rcases List.mem_cons.1 q with q | q
  ·exact hm q
  ·exact hn q
 ·omega
theorem IsKept.ne {w:World} {bm m x:Nat} {K:Nat→Ed→Nat→Ed→Prop} {c:Array Value} {ty:TypeId} (h:IsKept w bm m K) (hB:Blk w x c ty):x≠bm:=by
 rintro rfl
 obtain ⟨D,⟨es,clock,ho,-⟩,-⟩:=h
 unfold Blk at hB
 rw [hB] at ho
 cases ho
def AtP (w:World) (b n room:Nat) (L:List Rc) (F:List Nat) (f lv bm m d k l:Nat) (t:List Bool) (r:Ending) (w':World):Prop:=
 ∃(xt xa:Nat) (L2:List Rc) (F':List Nat) (m':Nat),r=.returned (.tuple #[.agg #[.int .u8 xt,.int .u32 xa],.int .u8 0])∧Sto w' b n room (L++L2) F'∧Grow w w' (bm::F) (bm::F')∧bm∉F'∧
  IsKept w' bm m' (KeptK (L++L2) f n lv)∧m'≤m+cst d∧EdT (L++L2) f n k l ⟨xt,xa⟩ (swpT d k t)∧L2.length≤cst d
def AtC (bt b n room lv bm f d l:Nat):Prop:=
 ∀(w:World) (L:List Rc) (F:List Nat) (m k et ea:Nat) (t:List Bool),Blk w bt #[.pointer (some ⟨b,0,none⟩),.int .i64 lv,.map (some bm)] 167→Sto w b n room L F→IsKept w bm m (KeptK L f n lv)→bt∉F→bm∉F→
  EdT L f n k l ⟨et,ea⟩ t→L.length+cst d≤room→L.length+cst d≤100000→m+cst d≤1000000→
  Calls Tryz.prog 82 #[.pointer (some ⟨bt,0,none⟩),.agg #[.int .u8 f,.int .u8 et,.int .u32 ea,.int .i64 l]] w (AtP w b n room L F f lv bm m d k l t)
theorem swpT_zero (k:Nat) (t:List Bool):swpT 0 (k+2) t=((t.take (2 ^ (k+1))).take (2 ^ k)++(t.drop (2 ^ (k+1))).take (2 ^ k))++((t.take (2 ^ (k+1))).drop (2 ^ k)++(t.drop (2 ^ (k+1))).drop (2 ^ k)):=rfl
theorem swpT_succ (d k:Nat) (t:List Bool):swpT (d+1) (k+1) t=swpT d k (t.take (2 ^ k))++swpT d k (t.drop (2 ^ k)):=rfl
theorem KeptK.tell {L:List Rc} {f n lv l k:Nat} {e x:Ed} {t:List Bool} (h1:1≤f) (h5:f≤5) (h:KeptK L f n lv f e l x) (he:EdT L f n k l e t):EdT L f n k l x (swpT (lv - l) k t):=by
 obtain ⟨k',t',-,h2,h3⟩:=h rfl
 obtain ⟨rfl,rfl⟩:=he.fun_ h1 h5 h2
 exact h3
theorem EdT.small {L:List Rc} {f n k l et ea:Nat} {t:List Bool} (h:EdT L f n k l ⟨et,ea⟩ t) (hn:n≤16) (hL:L.length≤100000):et≤16∧ea≤4294967295:=by
 have hp:=h.lead.plain
 have hlk:=h.lk
 constructor
 ·by_cases h0:f≠5∨ea=0
  ·have:=hp.1 h0;simp only at this;omega
  ·have:=hp.2 (by omega) (by simp only;omega);simp only at this;omega
 ·rcases h.lead.at_ with h0 | ⟨r,hr,-⟩
  ·simp only at h0;omega
  ·have:=recAt_lt hr;simp only at this;omega
end Go.Proofs.YtnbjnnijifiaaaaGreatDoor
