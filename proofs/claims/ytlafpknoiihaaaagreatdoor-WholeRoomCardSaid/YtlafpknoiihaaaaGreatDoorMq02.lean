/- Mq02: IA · IK · Eq · Eg · Eh · Ei · Qp -/
import Derived.Test.YtlafpknoiihaaaaGreatDoorMq01
set_option maxHeartbeats 1000000
set_option linter.unusedVariables false
set_option linter.unusedSimpArgs false
namespace Go.Proofs.YtlafpknoiihaaaaGreatDoor
open Go.RowKit
abbrev Slots:=Nat→Rc × Nat × Bool
def key (T:Slots) (i:Nat):Rc:=(T i).1
def occ (T:Slots) (i:Nat):Bool:=(T i).2.2
def dist (n a b:Nat):Nat:=(b+n - a) % n
theorem dist_lt {n a b:Nat} (hn:0 < n):dist n a b < n:=Nat.mod_lt _ hn
theorem dist_eq {n a b:Nat} (ha:a < n) (hb:b < n):dist n a b=if a≤b then b - a else b+n - a:=by
 unfold dist
 split
 ·have:b+n - a=(b - a)+n:=by omega
  rw [this,Nat.add_mod_right,Nat.mod_eq_of_lt (by omega)]
 ·rw [Nat.mod_eq_of_lt (by omega)]
theorem add_mod_eq {n a t:Nat} (ha:a < n) (ht:t≤n):(a+t) % n=if a+t < n then a+t else a+t - n:=by
 split
 ·rw [Nat.mod_eq_of_lt (by assumption)]
 ·rw [Nat.mod_eq_sub_mod (by omega),Nat.mod_eq_of_lt (by omega)]
theorem add_dist {n a b:Nat} (ha:a < n) (hb:b < n):(a+dist n a b) % n=b:=by
 have hd:=dist_lt (n:=n) (a:=a) (b:=b) (by omega)
 rw [add_mod_eq ha (by omega),dist_eq ha hb]
 split<;>split<;>omega
theorem dist_add {n a t:Nat} (ha:a < n) (ht:t < n):dist n a ((a+t) % n)=t:=by
 have hb:(a+t) % n < n:=Nat.mod_lt _ (by omega)
 rw [dist_eq ha hb,add_mod_eq ha (by omega)]
 split<;>split<;>omega
def probe (T:Slots) (n:Nat) (k:Rc):Nat→Nat→Nat
 | 0,i=>i
 | f+1,i=>if occ T i=true∧key T i≠k then probe T n k f ((i+1) % n) else i
def stops (T:Slots) (k:Rc) (i:Nat):Prop:=occ T i=false∨key T i=k
theorem probe_run (T:Slots) (n:Nat) (k:Rc) (i:Nat) (hi:i < n):∀t f,t≤f→f≤n→(∀s,s < t→occ T ((i+s) % n)=true∧key T ((i+s) % n)≠k)→probe T n k f i=probe T n k (f - t) ((i+t) % n):=by
 intro t
 induction t with
 | zero=>intro f _ _ _;simp [Nat.mod_eq_of_lt hi]
 | succ t ih=>
  intro f hf hfn h
  rw [ih f (by omega) hfn (fun s hs=>h s (by omega))]
  have h1:=h t (by omega)
  have e:f - t=(f - (t+1))+1:=by omega
  rw [e]
  rw [probe,if_pos h1]
  have e2:((i+t) % n+1) % n=(i+(t+1)) % n:=by rw [Nat.mod_add_mod];rfl
  rw [e2]
theorem probe_stop (T:Slots) (n:Nat) (k:Rc) (f i:Nat) (h:stops T k i):probe T n k f i=i:=by
 cases f with
 | zero=>rfl
 | succ f=>
  unfold probe
  rw [if_neg]
  rintro ⟨h1,h2⟩
  rcases h with h | h
  ·rw [h] at h1;simp at h1
  ·exact h2 h
structure LP (n:Nat) (home:Rc→Nat) (T:Slots):Prop where
 hlt:∀k,home k < n
 path:∀i,i < n→occ T i=true→∀t,t < dist n (home (key T i)) i→occ T ((home (key T i)+t) % n)=true
 uniq:∀i j,i < n→j < n→occ T i=true→occ T j=true→key T i=key T j→i=j
section
variable {n:Nat} {home:Rc→Nat} {T:Slots}
theorem LP.find_in (h:LP n home T) {i:Nat} (hi:i < n) (ho:occ T i=true):probe T n (key T i) n (home (key T i))=i:=by
 have hh:=h.hlt (key T i)
 have hd:=dist_lt (n:=n) (a:=home (key T i)) (b:=i) (by omega)
 rw [probe_run T n (key T i) _ hh (dist n (home (key T i)) i) n (by omega) (Nat.le_refl _),add_dist hh hi]
 ·exact probe_stop T n _ _ _ (.inr rfl)
 ·intro s hs
  have h1:=h.path i hi ho s hs
  refine ⟨h1,fun e=>?_⟩
  have h2:=h.uniq _ _ (Nat.mod_lt _ (by omega)) hi h1 ho e
  have h3:=dist_add (n:=n) hh (t:=s) (by omega)
  rw [h2] at h3
  omega
theorem LP.find_out (h:LP n home T) {k:Rc} (hk:∀i,i < n→occ T i=true→key T i≠k) (he:∃e,e < n∧occ T e=false):
 ∃t,t < n∧probe T n k n (home k)=(home k+t) % n∧occ T ((home k+t) % n)=false∧∀s,s < t→occ T ((home k+s) % n)=true:=by
 obtain ⟨e,hen,hee⟩:=he
 have hh:=h.hlt k
 have hd:=dist_lt (n:=n) (a:=home k) (b:=e) (by omega)
 have hex:∃t,t < n∧occ T ((home k+t) % n)=false∧∀s,s < t→occ T ((home k+s) % n)=true:=by
  have:∀m,m≤dist n (home k) e→(∀s,s < m→occ T ((home k+s) % n)=true)∨∃t,t < m∧occ T ((home k+t) % n)=false∧∀s,s < t→occ T ((home k+s) % n)=true:=by
   intro m
   induction m with
   | zero=>intro _;exact .inl (fun s hs=>by omega)
   | succ m ih=>
    intro hm
    rcases ih (by omega) with h1 | ⟨t,ht,h2⟩
    ·cases ho:occ T ((home k+m) % n) with
     | true=>
      refine .inl (fun s hs=>?_)
      by_cases hsm:s=m
      ·subst hsm;exact ho
      ·exact h1 s (by omega)
     | false=>exact .inr ⟨m,by omega,ho,h1⟩
    ·exact .inr ⟨t,by omega,h2⟩
  rcases this _ (Nat.le_refl _) with h1 | ⟨t,ht,h2⟩
  ·exact ⟨dist n (home k) e,hd,by rw [add_dist hh hen];exact hee,h1⟩
  ·exact ⟨t,by omega,h2⟩
 obtain ⟨t,ht,h1,h2⟩:=hex
 refine ⟨t,ht,?_,h1,h2⟩
 rw [probe_run T n k _ hh t n (by omega) (Nat.le_refl _) (fun s hs=>⟨h2 s hs,hk _ (Nat.mod_lt _ (by omega)) (h2 s hs)⟩)]
 exact probe_stop T n _ _ _ (.inl h1)
def put1 (T:Slots) (i:Nat) (x:Rc × Nat × Bool):Slots:=fun j=>if j=i then x else T j
theorem LP.insert (h:LP n home T) {k:Rc} {id:Nat} (hk:∀i,i < n→occ T i=true→key T i≠k) {t:Nat} (ht:t < n) (he:occ T ((home k+t) % n)=false) (hw:∀s,s < t→occ T ((home k+s) % n)=true):
 LP n home (put1 T ((home k+t) % n) (k,id,true)):=by
 have hh:=h.hlt k
 have hp:(home k+t) % n < n:=Nat.mod_lt _ (by omega)
 have hocc:∀j,occ T j=true→occ (put1 T ((home k+t) % n) (k,id,true)) j=true:=by
  intro j hj
  unfold put1 occ;dsimp only
  by_cases e:j=(home k+t) % n
  ·simp [e]
  ·rw [if_neg e];exact hj
 have hkey:∀j,j≠(home k+t) % n→put1 T ((home k+t) % n) (k,id,true) j=T j:=fun j hj=>by unfold put1;rw [if_neg hj]
 have hself:put1 T ((home k+t) % n) (k,id,true) ((home k+t) % n)=(k,id,true):=by unfold put1;rw [if_pos rfl]
 refine ⟨h.hlt,fun i hi ho s hs=>?_,fun i j hi hj hoi hoj hij=>?_⟩
 ·by_cases e:i=(home k+t) % n
  ·subst e
   unfold key at hs ⊢
   rw [hself] at hs ⊢
   simp only at hs ⊢
   rw [dist_add hh ht] at hs
   exact hocc _ (hw s hs)
  ·unfold key occ at *
   rw [hkey i e] at ho hs ⊢
   exact hocc _ (h.path i hi ho s hs)
 ·unfold key occ at *
  by_cases e:i=(home k+t) % n
  ·by_cases e2:j=(home k+t) % n
   ·rw [e,e2]
   ·subst e
    rw [hself] at hij
    rw [hkey j e2] at hij hoj
    exact (hk j hj hoj hij.symm).elim
  ·by_cases e2:j=(home k+t) % n
   ·subst e2
    rw [hself] at hij
    rw [hkey i e] at hij hoi
    exact (hk i hi hoi hij).elim
   ·rw [hkey i e] at hij hoi
    rw [hkey j e2] at hij hoj
    exact h.uniq i j hi hj hoi hoj hij
end
section
variable {n:Nat}
theorem dist_next {a b:Nat} (hn:2≤n) (ha:a < n) (hb:b < n) (h:a≠b):dist n ((a+1) % n) b+1=dist n a b:=by
 have h1:(a+1) % n < n:=Nat.mod_lt _ (by omega)
 rw [dist_eq h1 hb,dist_eq ha hb,add_mod_eq ha (by omega)]
 split<;>split<;>split<;>omega
end
open Go.RowKit
def rc0:Rc:=⟨0,0,0,⟨0,0⟩,⟨0,0⟩⟩
def cnt (T:Slots):Nat→Nat
 | 0=>0
 | n+1=>cnt T n+if occ T n=true then 1 else 0
theorem cnt_le (T:Slots):∀n,cnt T n≤n:=by
 intro n
 induction n with
 | zero=>exact Nat.le_refl _
 | succ n ih=>unfold cnt;split<;>omega
theorem cnt_put1 (T:Slots) (i:Nat) (x:Rc × Nat × Bool):∀n,cnt (put1 T i x) n+(if i < n∧occ T i=true then 1 else 0)=cnt T n+(if i < n∧x.2.2=true then 1 else 0):=by
 intro n
 induction n with
 | zero=>simp [cnt]
 | succ n ih=>
  unfold cnt
  by_cases e:n=i
  ·subst e
   have h1:occ (put1 T n x) n=x.2.2:=by unfold occ put1;rw [if_pos rfl]
   rw [h1]
   simp only [Nat.lt_irrefl,false_and,if_false,Nat.add_zero] at ih
   rw [ih]
   simp only [Nat.lt_succ_self,true_and]
   omega
  ·have h1:occ (put1 T i x) n=occ T n:=by unfold occ put1;rw [if_neg e]
   have h2:(i < n+1)↔(i < n):=by omega
   rw [h1]
   simp only [h2]
   omega
theorem cnt_empty {T:Slots}:∀{n},cnt T n < n→∃e,e < n∧occ T e=false:=by
 intro n
 induction n with
 | zero=>intro h;omega
 | succ n ih=>
  intro h
  unfold cnt at h
  cases ho:occ T n with
  | false=>exact ⟨n,by omega,ho⟩
  | true=>
   rw [ho] at h
   simp at h
   obtain ⟨e,he,h1⟩:=ih h
   exact ⟨e,by omega,h1⟩
structure IW (n:Nat) (home:Rc→Nat) (T:Slots) (R:Rc→Nat→Prop) (c:Nat):Prop where
 lp:LP n home T
 c:cnt T n=c
 r:∀k id,R k id↔∃i,i < n∧T i=(k,id,true)
 kb:∀i,i < n→occ T i=true→(T i).2.1≤4294967295
section
variable {n c:Nat} {home:Rc→Nat} {T:Slots} {R:Rc→Nat→Prop}
theorem IW.fun_ (h:IW n home T R c) {k:Rc} {a b:Nat} (ha:R k a) (hb:R k b):a=b:=by
 obtain ⟨i,hi,hTi⟩:=(h.r k a).1 ha
 obtain ⟨j,hj,hTj⟩:=(h.r k b).1 hb
 have:=h.lp.uniq i j hi hj (by unfold occ;rw [hTi]) (by unfold occ;rw [hTj]) (by unfold key;rw [hTi,hTj])
 subst this
 rw [hTi] at hTj
 simp at hTj
 exact hTj
theorem IW.find_in (h:IW n home T R c) {k:Rc} {id:Nat} (hk:R k id):probe T n k n (home k) < n∧T (probe T n k n (home k))=(k,id,true):=by
 obtain ⟨i,hi,hT⟩:=(h.r k id).1 hk
 have h1:=h.lp.find_in hi (by unfold occ;rw [hT])
 have h2:key T i=k:=by unfold key;rw [hT]
 rw [h2] at h1
 rw [h1]
 exact ⟨hi,hT⟩
theorem IW.find_out (h:IW n home T R c) (hn:c < n) {k:Rc} (hk:∀id,¬R k id):
 probe T n k n (home k) < n∧occ T (probe T n k n (home k))=false∧∀id,id≤4294967295→∀R':Rc→Nat→Prop,(∀k' id',R' k' id'↔(k'=k∧id'=id)∨(k'≠k∧R k' id'))→IW n home (put1 T (probe T n k n (home k)) (k,id,true)) R' (c+1):=by
 have hne:∀i,i < n→occ T i=true→key T i≠k:=fun i hi ho e=>hk (T i).2.1 ((h.r _ _).2 ⟨i,hi,by
  have h1:T i=((T i).1,(T i).2.1,(T i).2.2):=rfl
  unfold occ at ho;unfold key at e
  rw [h1,ho,e]⟩)
 obtain ⟨t,ht,hp,he,hw⟩:=h.lp.find_out hne (cnt_empty (by rw [h.c];exact hn))
 have hpn:(home k+t) % n < n:=Nat.mod_lt _ (by omega)
 rw [hp]
 refine ⟨hpn,he,fun id hid R' hR'=>⟨h.lp.insert hne ht he hw,?_,fun k' id'=>?_,fun i hi ho=>?_⟩⟩
 ·have h1:=cnt_put1 T ((home k+t) % n) (k,id,true) n
  rw [he] at h1
  simp [hpn] at h1
  rw [h1,h.c]
 ·rw [hR',h.r]
  constructor
  ·rintro (⟨rfl,rfl⟩ | ⟨hkk,i,hi,hT⟩)
   ·exact ⟨_,hpn,by unfold put1;rw [if_pos rfl]⟩
   ·refine ⟨i,hi,?_⟩
    unfold put1
    rw [if_neg]
    ·exact hT
    ·intro e;subst e;unfold occ at he;rw [hT] at he;simp at he
  ·rintro ⟨i,hi,hT⟩
   unfold put1 at hT
   by_cases e:i=(home k+t) % n
   ·rw [if_pos e] at hT
    simp at hT
    exact .inl ⟨hT.1.symm,hT.2.symm⟩
   ·rw [if_neg e] at hT
    refine .inr ⟨fun e2=>hne i hi (by unfold occ;rw [hT]) (by unfold key;rw [hT];exact e2),i,hi,hT⟩
 ·unfold key occ at *
  by_cases e:i=(home k+t) % n
  ·rw [show put1 T ((home k+t) % n) (k,id,true) i=(k,id,true) from if_pos e];exact hid
  ·rw [show put1 T ((home k+t) % n) (k,id,true) i=T i from if_neg e] at ho ⊢;exact h.kb i hi ho
theorem IW.empty (hh:∀k,home k < n):IW n home (fun _=>(rc0,0,false)) (fun _ _=>False) 0:=by
 have h0:∀n,cnt (fun _=>(rc0,0,false)) n=0:=by
  intro n;induction n with
  | zero=>rfl
  | succ n ih=>unfold cnt;rw [ih];simp [occ]
 refine ⟨⟨hh,fun i _ ho=>by simp [occ] at ho,fun i j _ _ ho=>by simp [occ] at ho⟩,h0 n,fun k id=>by simp,fun i _ ho=>by simp [occ] at ho⟩
theorem IW.congr (h:IW n home T R c) {R':Rc→Nat→Prop} (e:∀k id,R' k id↔R k id):IW n home T R' c:=
 ⟨h.lp,h.c,fun k id=>(e k id).trans (h.r k id),h.kb⟩
theorem IW.stops (h:IW n home T R c) (hn:c < n) (k:Rc):stops T k (probe T n k n (home k)):=by
 by_cases hk:∃id,R k id
 ·obtain ⟨id,hid⟩:=hk
  have:=(h.find_in hid).2
  exact .inr (by unfold key;rw [this])
 ·exact .inl (h.find_out hn (fun id hid=>hk ⟨id,hid⟩)).2.1
end
open Go.RowKit
theorem eqIn_ed (d:Nat) (a b:Ed) (w:World):(Op.equalIn (d+2) 66 (edv a) (edv b)).run Tryz.prog w=.ok (decide (a=b)) w:=by
 obtain ⟨at_,aa⟩:=a
 obtain ⟨bt,ba⟩:=b
 have u5:=Tryz.underlying5
 have u60:=Tryz.underlying64
 have a5:=Tryz.isAgg5
 have a60:=Tryz.isAgg64
 have z5:=Tryz.sizeOf5
 have z60:=Tryz.sizeOf64
 have hS:Tryz.prog.underlying 66=some (.struct (Tryz.prog.fieldsOf 66)):=by kernel_rfl
 unfold edv
 rw [run_equalIn_agg w (d+1) 66 _ _ hS (by kernel_rfl)]
 simp only [Program.fieldsOf,Tryz.underlying66]
 go_simp
 by_cases h1:at_=bt<;>by_cases h2:aa=ba<;>simp [h1,h2,Int.natCast_inj]
theorem eqIn_rc (d:Nat) (a b:Rc) (w:World):(Op.equalIn (d+3) 108 (rcv a) (rcv b)).run Tryz.prog w=.ok (decide (a=b)) w:=by
 obtain ⟨af,at_,ab,al,ah⟩:=a
 obtain ⟨bf,bt,bb,bl,bh⟩:=b
 have u5:=Tryz.underlying5
 have a5:=Tryz.isAgg5
 have z5:=Tryz.sizeOf5
 have u48:=Tryz.underlying25
 have a48:=Tryz.isAgg25
 have z48:=Tryz.sizeOf25
 have a62:=Tryz.isAgg66
 have z62:=Tryz.sizeOf66
 have e1:=fun w=>eqIn_ed d al bl w
 have e2:=fun w=>eqIn_ed d ah bh w
 have hS:Tryz.prog.underlying 108=some (.struct (Tryz.prog.fieldsOf 108)):=by kernel_rfl
 unfold rcv
 unfold edv at e1 e2
 obtain ⟨alt,ala⟩:=al
 obtain ⟨blt,bla⟩:=bl
 obtain ⟨aht,aha⟩:=ah
 obtain ⟨bht,bha⟩:=bh
 simp only at e1 e2 ⊢
 generalize hd1:decide ((⟨alt,ala⟩:Ed)=⟨blt,bla⟩)=d1 at *
 generalize hd2:decide ((⟨aht,aha⟩:Ed)=⟨bht,bha⟩)=d2 at *
 have hd:decide ((⟨af,at_,ab,⟨alt,ala⟩,⟨aht,aha⟩⟩:Rc)=⟨bf,bt,bb,⟨blt,bla⟩,⟨bht,bha⟩⟩)=(decide (af=bf) && (decide (at_=bt) && (decide (ab=bb) && (d1 && d2)))):=by
  rw [←hd1,←hd2]
  simp [Bool.and_assoc]
 rw [hd]
 clear hd hd1 hd2
 rw [run_equalIn_agg w (d+2) 108 _ _ hS (by kernel_rfl)]
 simp only [Program.fieldsOf,Tryz.underlying108]
 go_simp
 by_cases h1:af=bf<;>by_cases h2:at_=bt<;>by_cases h3:ab=bb<;>cases d1<;>cases d2<;>simp [h1,h2,h3,Int.natCast_inj]
theorem eqIn_key (d:Nat) (a b:Rc) (w:World):(Op.equalIn (d+4) 112 (rcv a) (rcv b)).run Tryz.prog w=.ok (decide (a=b)) w:=by
 have e1:=fun w=>eqIn_rc d a b w
 have a62:=Tryz.isAgg108
 have z62:=Tryz.sizeOf108
 have hS:Tryz.prog.underlying 112=some (.struct (Tryz.prog.fieldsOf 112)):=by kernel_rfl
 generalize decide (a=b)=q at *
 unfold rcv at *
 rw [run_equalIn_agg w (d+3) 112 _ _ hS (by kernel_rfl)]
 simp only [Program.fieldsOf,Tryz.underlying112]
 go_simp
 cases q<;>simp
inductive Ex where
 | con (b:Bool)
 | var (v:Nat)
 | not (x:Ex)
 | bin (op:Nat) (a b:Ex)
 | bnd (each:Bool) (l:List Nat) (x:Ex)
structure Tk where
 k:Nat
 n:Nat
 at_:Nat
def rkOf (k:Nat):Nat:=if k=61 then 1 else if k=62 then 2 else if k=94 then 3 else if k=124 then 4 else if k=38 then 5 else 0
mutual
inductive Un:List Tk→Ex→Prop
 | con (t:Tk):t.k=48∨t.k=49→Un [t] (.con (decide (t.k=49)))
 | var (t:Tk):t.k=118→Un [t] (.var t.n)
 | not (t:Tk) {ts:List Tk} {x:Ex}:t.k=33→Un ts x→Un (t::ts) (.not x)
 | par (t:Tk) {ts:List Tk} (t':Tk) {x:Ex}:t.k=40→t'.k=41→Fl 1 ts x→Un (t::(ts++[t'])) x
 | bnd (t:Tk) (v:Tk) (vs:List Tk) (d:Tk) {ts:List Tk} {x:Ex}:t.k=115∨t.k=101→v.k=118→(∀u∈vs,u.k=118)→d.k=46→Un ts x→
  Un (t::v::(vs++d::ts)) (.bnd (decide (t.k=101)) (v.n::vs.map Tk.n) x)
inductive Fl:Nat→List Tk→Ex→Prop
 | unit {ts:List Tk} {x:Ex}:Un ts x→Fl 6 ts x
 | up {r:Nat} {ts:List Tk} {x:Ex}:r < 6→0 < r→Fl (r+1) ts x→Fl r ts x
 | left {r:Nat} {ts1 ts2:List Tk} {t:Tk} {a b:Ex}:0 < r→r < 6→r≠2→rkOf t.k=r→Fl r ts1 a→Fl (r+1) ts2 b→Fl r (ts1++t::ts2) (.bin t.k a b)
 | right {ts1 ts2:List Tk} {t:Tk} {a b:Ex}:t.k=62→Fl 3 ts1 a→Fl 2 ts2 b→Fl 2 (ts1++t::ts2) (.bin t.k a b)
end
theorem Fl.le {r:Nat} {ts:List Tk} {x:Ex} (h:Fl r ts x):r≤6:=by
 cases h with
 | unit=>omega
 | up a b c=>omega
 | left a b c=>omega
 | right a b c=>omega
theorem Fl.down {x:Ex} {ts:List Tk}:∀d q,Fl (q+d) ts x→0 < q→Fl q ts x:=by
 intro d
 induction d with
 | zero=>intro q h _;exact h
 | succ d ih=>
  intro q h h0
  have:=h.le
  exact .up (by omega) h0 (ih (q+1) (by rw [show q+1+d=q+(d+1) by omega];exact h) (by omega))
inductive Flat:List Tk→Prop
 | one {ts:List Tk} {x:Ex}:Un ts x→Flat ts
 | more {ts1 ts2:List Tk} {t:Tk} {x:Ex}:Un ts1 x→0 < rkOf t.k→Flat ts2→Flat (ts1++t::ts2)
inductive FlR (r:Nat):Nat→List Tk→Prop
 | one {ts:List Tk} {x:Ex}:Un ts x→FlR r 0 ts
 | more {n:Nat} {ts1 ts2:List Tk} {t:Tk} {x:Ex}:Un ts1 x→r≤rkOf t.k→0 < rkOf t.k→FlR r n ts2→FlR r (n+1) (ts1++t::ts2)
theorem FlR.app {r n m:Nat} {ts1 ts2:List Tk} {t:Tk} (h:FlR r n ts1) (hr:r≤rkOf t.k) (h0:0 < rkOf t.k) (k:FlR r m ts2):FlR r (n+m+1) (ts1++t::ts2):=by
 induction h with
 | one u=>rw [show 0+m+1=m+1 by omega];exact .more u hr h0 k
 | more u hr' h0' _ ih=>rw [List.append_assoc,List.cons_append,show ∀n:Nat,n+1+m+1=(n+m+1)+1 by omega];exact .more u hr' h0' ih
theorem FlR.first {r n:Nat} {ts:List Tk} (h:FlR r n ts):FlR (r+1) n ts∨∃ts1 t ts2 n1 n2,ts=ts1++t::ts2∧rkOf t.k=r∧0 < r∧FlR (r+1) n1 ts1∧FlR r n2 ts2∧n1+n2 < n:=by
 induction h with
 | one u=>exact .inl (.one u)
 | @more n ts1 ts2 t x u hr h0 k ih=>
  by_cases e:rkOf t.k=r
  ·exact .inr ⟨ts1,t,ts2,0,n,rfl,e,by omega,.one u,k,by omega⟩
  ·rcases ih with ih | ⟨a,s,b,n1,n2,rfl,e1,e0,h1,h2,hn⟩
   ·exact .inl (.more u (by omega) h0 ih)
   ·exact .inr ⟨ts1++t::a,s,b,n1+1,n2,by simp,e1,e0,.more u (by omega) h0 h1,h2,by omega⟩
theorem FlR.last {r n:Nat} {ts:List Tk} (h:FlR r n ts):FlR (r+1) n ts∨∃ts1 t ts2 n1 n2,ts=ts1++t::ts2∧rkOf t.k=r∧0 < r∧FlR r n1 ts1∧FlR (r+1) n2 ts2∧n1+n2 < n:=by
 induction h with
 | one u=>exact .inl (.one u)
 | @more n ts1 ts2 t x u hr h0 k ih=>
  rcases ih with ih | ⟨a,s,b,n1,n2,rfl,e1,e0,h1,h2,hn⟩
  ·by_cases e:rkOf t.k=r
   ·exact .inr ⟨ts1,t,ts2,0,n,rfl,e,by omega,.one u,ih,by omega⟩
   ·exact .inl (.more u (by omega) h0 ih)
  ·exact .inr ⟨ts1++t::a,s,b,n1+1,n2,by simp,e1,e0,.more u hr h0 h1,h2,by omega⟩
theorem rkOf_62 {k:Nat} (h:rkOf k=2):k=62:=by
 unfold rkOf at h;repeat' split at h
 all_goals first | assumption | omega
theorem rkOf_cases (k:Nat) (h:0 < rkOf k):k=61∨k=62∨k=94∨k=124∨k=38:=by
 unfold rkOf at h;repeat' split at h
 all_goals omega
theorem rkOf_inj {k k':Nat} (h:0 < rkOf k) (e:rkOf k=rkOf k'):k=k':=by
 have h':0 < rkOf k':=by omega
 rcases rkOf_cases k h with rfl | rfl | rfl | rfl | rfl<;>rcases rkOf_cases k' h' with rfl | rfl | rfl | rfl | rfl<;>first | rfl | (exact absurd e (by decide))
theorem Fl.split {r:Nat} {ts:List Tk} {x:Ex} (h:Fl r ts x):Un ts x∨∃ts1 t ts2 a b,ts=ts1++t::ts2∧x=.bin t.k a b∧r≤rkOf t.k∧0 < rkOf t.k∧
 ((t.k≠62∧Fl (rkOf t.k) ts1 a∧Fl (rkOf t.k+1) ts2 b)∨(t.k=62∧Fl 3 ts1 a∧Fl 2 ts2 b)):=by
 have key:∀n r ts x,6 - r≤n→Fl r ts x→Un ts x∨∃ts1 t ts2 a b,ts=ts1++t::ts2∧x=.bin t.k a b∧r≤rkOf t.k∧0 < rkOf t.k∧
  ((t.k≠62∧Fl (rkOf t.k) ts1 a∧Fl (rkOf t.k+1) ts2 b)∨(t.k=62∧Fl 3 ts1 a∧Fl 2 ts2 b)):=by
  intro n
  induction n with
  | zero=>
   intro r ts x hn h
   cases h with
   | unit u=>exact .inl u
   | up h6 h0 u=>omega
   | left h0 h6 h2 hk u v=>omega
   | right hk u v=>omega
  | succ n ih=>
   intro r ts x hn h
   cases h with
   | unit u=>exact .inl u
   | up h6 h0 u=>
    rcases ih (r+1) ts x (by omega) u with h | ⟨ts1,t,ts2,a,b,e,ex,hr,h0,h⟩
    ·exact .inl h
    ·exact .inr ⟨ts1,t,ts2,a,b,e,ex,by omega,h0,h⟩
   | @left _ ts1 ts2 t _ _ h0 h6 h2 hk u v=>
    refine .inr ⟨_,_,_,_,_,rfl,rfl,by omega,by omega,.inl ⟨?_,by rw [hk];exact u,by rw [hk];exact v⟩⟩
    rintro e
    rw [e] at hk
    exact h2 (by rw [←hk];decide)
   | right hk u v=>exact .inr ⟨_,_,_,_,_,rfl,rfl,by rw [hk];decide,by rw [hk];decide,.inr ⟨hk,u,v⟩⟩
 exact key _ r ts x (Nat.le_refl _) h
def lfold (op:Nat):List Ex→Ex
 | []=>.con false
 | x::l=>l.foldl (fun a b=>.bin op a b) x
def rfold (op:Nat):List Ex→Ex
 | []=>.con false
 | [x]=>x
 | x::l=>.bin op x (rfold op l)
inductive Gp (r:Nat):List Tk→List Ex→Prop
 | one {ts:List Tk} {x:Ex}:Fl (r+1) ts x→Gp r ts [x]
 | more {ts1 ts2:List Tk} {t:Tk} {x:Ex} {l:List Ex}:Fl (r+1) ts1 x→rkOf t.k=r→Gp r ts2 l→Gp r (ts1++t::ts2) (x::l)
theorem Gp.ne {r:Nat} {ts:List Tk} {l:List Ex} (h:Gp r ts l):l≠[]:=by cases h<;>simp
theorem Gp.snoc {r:Nat} {ts1 ts2:List Tk} {l:List Ex} {t:Tk} {x:Ex} (h:Gp r ts1 l) (hr:rkOf t.k=r) (hx:Fl (r+1) ts2 x):Gp r (ts1++t::ts2) (l++[x]):=by
 induction h with
 | one u=>exact .more u hr (.one hx)
 | more u hr' _ ih=>rw [List.append_assoc,List.cons_append];exact .more u hr' ih
theorem Fl.groups {r:Nat} {ts:List Tk} {x:Ex} (h:Fl r ts x) (h6:r < 6) (h0:0 < r) (op:Nat) (hop:rkOf op=r):∃l,Gp r ts l∧x=if r=2 then rfold op l else lfold op l:=by
 have key:∀n ts x,ts.length≤n→Fl r ts x→∃l,Gp r ts l∧x=if r=2 then rfold op l else lfold op l:=by
  intro n
  induction n with
  | zero=>
   intro ts x hl hf
   cases hf with
   | unit u=>omega
   | up h6 h0 u=>exact ⟨[x],.one u,by split<;>rfl⟩
   | left h0' h6 h2 hk u v=>simp at hl
   | right hk u v=>simp at hl
  | succ n ih=>
   intro ts x hl hf
   cases hf with
   | unit u=>omega
   | up h6 h0 u=>exact ⟨[x],.one u,by split<;>rfl⟩
   | @left _ us1 us2 s a b h0' h6 h2 hk u v=>
    simp at hl
    obtain ⟨l,hg,rfl⟩:=ih us1 _ (by omega) u
    refine ⟨l++[b],hg.snoc hk v,?_⟩
    rw [if_neg h2,if_neg h2]
    have hs:s.k=op:=rkOf_inj (by omega) (hk.trans hop.symm)
    cases l with
    | nil=>exact absurd rfl hg.ne
    | cons q l=>simp [lfold,hs]
   | @right us1 us2 s a b hk u v=>
    simp at hl
    obtain ⟨l,hg,rfl⟩:=ih us2 _ (by omega) v
    refine ⟨a::l,.more u (by rw [hk];decide) hg,?_⟩
    have hs:s.k=op:=by rw [hk];exact (rkOf_62 hop).symm
    cases l with
    | nil=>exact absurd rfl hg.ne
    | cons q l=>simp [rfold,hs]
 exact key _ ts x (Nat.le_refl _) h
def setB (x v:Nat) (b:Bool):Nat:=if x.testBit v=b then x else x ^^^ 2 ^ v
theorem setB_bit (x v:Nat) (b:Bool) (u:Nat):(setB x v b).testBit u=if u=v then b else x.testBit u:=by
 unfold setB
 by_cases h:x.testBit v=b
 ·rw [if_pos h]
  split
  ·rename_i e;rw [e,h]
  ·rfl
 ·rw [if_neg h,Nat.testBit_xor,Nat.testBit_two_pow]
  by_cases q:u=v
  ·subst q;cases b<;>simp_all
  ·have q':¬v=u:=fun e=>q e.symm
   simp [q,q']
def agree (n:Nat) (l:List Nat) (y z:Nat):Prop:=∀v,v < n→v∉l→z.testBit v=y.testBit v
def QuS (n:Nat) (l:List Nat) (g:Nat→Bool) (y:Nat):Prop:=∃z,z < 2 ^ n∧agree n l y z∧g z=true
def QuE (n:Nat) (l:List Nat) (g:Nat→Bool) (y:Nat):Prop:=∀z,z < 2 ^ n→agree n l y z→g z=true
def Qu (each:Bool) (n:Nat) (l:List Nat) (g:Nat→Bool) (y:Nat):Prop:=if each then QuE n l g y else QuS n l g y
theorem low_eq {n y z:Nat} (hy:y < 2 ^ n) (hz:z < 2 ^ n) (h:∀v,v < n→z.testBit v=y.testBit v):z=y:=by
 apply Nat.eq_of_testBit_eq
 intro i
 by_cases q:i < n
 ·exact h i q
 ·rw [Nat.testBit_lt_two_pow (Nat.lt_of_lt_of_le hz (Nat.pow_le_pow_right (by omega) (by omega))),Nat.testBit_lt_two_pow (Nat.lt_of_lt_of_le hy (Nat.pow_le_pow_right (by omega) (by omega)))]
theorem Qu.nil {each:Bool} {n:Nat} {g:Nat→Bool} {y:Nat} (hy:y < 2 ^ n):Qu each n [] g y↔g y=true:=by
 have key:∀z,z < 2 ^ n→agree n [] y z→z=y:=fun z hz h=>low_eq hy hz fun v hv=>h v hv (by simp)
 unfold Qu QuE QuS
 cases each with
 | true=>
  rw [if_pos rfl]
  exact ⟨fun h=>h y hy (fun v _ _=>rfl),fun h z hz ha=>by rw [key z hz ha];exact h⟩
 | false=>
  rw [if_neg (by simp)]
  exact ⟨fun ⟨z,hz,ha,hg⟩=>by rw [←key z hz ha];exact hg,fun h=>⟨y,hy,fun v _ _=>rfl,h⟩⟩
theorem agree_set {n:Nat} {l:List Nat} {v:Nat} {y z:Nat} (hv:v < n):agree n (v::l) y z↔∃b,agree n l (setB y v b) z:=by
 constructor
 ·intro h
  refine ⟨z.testBit v,fun u hu hm=>?_⟩
  rw [setB_bit]
  split
  ·rename_i e;rw [e]
  ·rename_i e;exact h u hu (by simp [e,hm])
 ·rintro ⟨b,h⟩ u hu hm
  have:=h u hu (by simp at hm;exact hm.2)
  rw [this,setB_bit,if_neg (by simp at hm;exact hm.1)]
theorem Qu.one {each:Bool} {n:Nat} {l:List Nat} {g:Nat→Bool} {v y:Nat} (hv:v < n):Qu each n (v::l) g y↔(if each then Qu each n l g (setB y v false)∧Qu each n l g (setB y v true) else Qu each n l g (setB y v false)∨Qu each n l g (setB y v true)):=by
 unfold Qu QuE QuS
 cases each with
 | true=>
  simp only [if_true]
  constructor
  ·intro h
   exact ⟨fun z hz ha=>h z hz ((agree_set hv).2 ⟨_,ha⟩),fun z hz ha=>h z hz ((agree_set hv).2 ⟨_,ha⟩)⟩
  ·rintro ⟨h0,h1⟩ z hz ha
   obtain ⟨b,ha⟩:=(agree_set hv).1 ha
   cases b with
   | false=>exact h0 z hz ha
   | true=>exact h1 z hz ha
 | false=>
  simp only [Bool.false_eq_true,if_false]
  constructor
  ·rintro ⟨z,hz,ha,hg⟩
   obtain ⟨b,ha⟩:=(agree_set hv).1 ha
   cases b with
   | false=>exact .inl ⟨z,hz,ha,hg⟩
   | true=>exact .inr ⟨z,hz,ha,hg⟩
  ·rintro (⟨z,hz,ha,hg⟩ | ⟨z,hz,ha,hg⟩)
   ·exact ⟨z,hz,(agree_set hv).2 ⟨_,ha⟩,hg⟩
   ·exact ⟨z,hz,(agree_set hv).2 ⟨_,ha⟩,hg⟩
theorem agree_congr {n:Nat} {l l':List Nat} (h:∀v,v < n→(v∈l↔v∈l')) {y z:Nat}:agree n l y z↔agree n l' y z:=
 ⟨fun a v hv hm=>a v hv (fun q=>hm ((h v hv).1 q)),fun a v hv hm=>a v hv (fun q=>hm ((h v hv).2 q))⟩
theorem Qu.congr {each:Bool} {n:Nat} {l l':List Nat} {g g':Nat→Bool} {y:Nat} (h:∀v,v < n→(v∈l↔v∈l')) (hg:∀z,z < 2 ^ n→g z=g' z):Qu each n l g y↔Qu each n l' g' y:=by
 unfold Qu QuE QuS
 split
 ·exact ⟨fun q z hz ha=>by rw [←hg z hz];exact q z hz ((agree_congr h).2 ha),fun q z hz ha=>by rw [hg z hz];exact q z hz ((agree_congr h).1 ha)⟩
 ·exact ⟨fun ⟨z,hz,ha,q⟩=>⟨z,hz,(agree_congr h).1 ha,by rw [←hg z hz];exact q⟩,fun ⟨z,hz,ha,q⟩=>⟨z,hz,(agree_congr h).2 ha,by rw [hg z hz];exact q⟩⟩
def vl (b:Nat):List Nat→Nat
 | []=>0
 | x::l=>x+b *vl b l
theorem vl_append (b:Nat) (l l':List Nat):vl b (l++l')=vl b l+b ^ l.length *vl b l':=by
 induction l with
 | nil=>simp [vl]
 | cons x l ih=>simp only [List.cons_append,vl,ih,List.length_cons,Nat.pow_succ,Nat.mul_add];rw [←Nat.mul_assoc,Nat.mul_comm b (b ^ l.length)];omega
theorem vl_snoc (b:Nat) (l:List Nat) (x:Nat):vl b (l++[x])=vl b l+b ^ l.length *x:=by rw [vl_append];simp [vl]
theorem vl_lt {b:Nat} {l:List Nat} (h:∀x∈l,x < b):vl b l < b ^ l.length:=by
 induction l with
 | nil=>simp [vl]
 | cons x l ih=>
  have h1:=ih (fun y hy=>h y (by simp [hy]))
  have h2:=h x (by simp)
  have h3:b *(vl b l+1)≤b *b ^ l.length:=Nat.mul_le_mul_left b h1
  rw [Nat.mul_add] at h3
  simp only [vl,List.length_cons,Nat.pow_succ]
  rw [Nat.mul_comm (b ^ l.length) b]
  omega
theorem vl_zero (b n:Nat):vl b (List.replicate n 0)=0:=by
 induction n with
 | zero=>rfl
 | succ n ih=>simp [List.replicate_succ,vl,ih]
theorem vl_zeros (b:Nat) (l:List Nat) (n:Nat):vl b (l++List.replicate n 0)=vl b l:=by rw [vl_append,vl_zero];simp
theorem vl_take_succ (b:Nat) (l:List Nat) {i:Nat} (h:i < l.length):vl b (l.take (i+1))=vl b (l.take i)+b ^ i *l[i]:=by
 rw [List.take_succ_eq_append_getElem h,vl_snoc,List.length_take,Nat.min_eq_left (by omega)]
structure Can (b:Nat) (l:List Nat) (n:Nat):Prop where
 lt:∀x∈l,x < b
 val:vl b l=n
 last:∀x,l.getLast? =some x→x≠0
theorem Can.nil (b:Nat):Can b [] 0:=⟨by simp,rfl,by simp⟩
theorem Can.upper {b:Nat} {l:List Nat} {n:Nat} (h:Can b l n):n < b ^ l.length:=by rw [←h.val];exact vl_lt h.lt
theorem Can.lower {b:Nat} {l:List Nat} {n:Nat} (h:Can b l n) (hl:l≠[]):b ^ (l.length - 1)≤n:=by
 rcases List.eq_nil_or_concat l with rfl | ⟨p,x,rfl⟩
 ·exact absurd rfl hl
 ·rw [List.concat_eq_append] at *
  have hx:=h.last x (by simp)
  rw [←h.val,vl_snoc,List.length_append]
  have h1:b ^ p.length *1≤b ^ p.length *x:=Nat.mul_le_mul_left _ (by omega)
  simp
  omega
theorem Can.pos {b:Nat} {l:List Nat} {n:Nat} (hb:0 < b) (h:Can b l n) (hl:l≠[]):0 < n:=
 Nat.lt_of_lt_of_le (Nat.pow_pos hb) (h.lower hl)
theorem Can.zero {b:Nat} {l:List Nat} (hb:0 < b) (h:Can b l 0):l=[]:=by
 by_cases hl:l=[]
 ·exact hl
 ·have:=h.pos hb hl;omega
theorem Can.nil_val {b:Nat} {n:Nat} (h:Can b [] n):n=0:=h.val.symm
theorem Can.fits {b:Nat} {l:List Nat} {n:Nat} (hb:1 < b) (h:Can b l n) (k:Nat):l.length≤k↔n < b ^ k:=by
 constructor
 ·intro q
  exact Nat.lt_of_lt_of_le h.upper (Nat.pow_le_pow_right (by omega) q)
 ·intro q
  rcases Nat.lt_or_ge k l.length with q2 | q2
  ·have hl:l≠[]:=by intro e;rw [e] at q2;simp at q2
   have h1:=h.lower hl
   have h2:b ^ k≤b ^ (l.length - 1):=Nat.pow_le_pow_right (by omega) (by omega)
   omega
  ·exact q2
theorem Can.tail {b x:Nat} {l:List Nat} {n:Nat} (h:Can b (x::l) n):Can b l (vl b l):=
 ⟨fun y hy=>h.lt y (by simp [hy]),rfl,fun y hy=>h.last y (by
  cases l with
  | nil=>simp at hy
  | cons z t=>rw [List.getLast?_cons_cons];exact hy)⟩
theorem Can.uniq {b:Nat} (hb:1 < b):∀{l l':List Nat} {n:Nat},Can b l n→Can b l' n→l=l':=by
 intro l
 induction l with
 | nil=>
  intro l' n h h'
  obtain rfl:=h.nil_val
  exact (h'.zero (by omega)).symm
 | cons x l ih=>
  intro l' n h h'
  cases l' with
  | nil=>
   obtain rfl:=h'.nil_val
   exact h.zero (by omega)
  | cons y t=>
   have e:x+b *vl b l=y+b *vl b t:=h.val.trans h'.val.symm
   have hx:=h.lt x (by simp)
   have hy:=h'.lt y (by simp)
   have e1:x=y:=by
    have:=congrArg (· % b) e
    simpa [Nat.add_mul_mod_self_left,Nat.mod_eq_of_lt hx,Nat.mod_eq_of_lt hy] using this
   subst e1
   have e2:vl b l=vl b t:=Nat.eq_of_mul_eq_mul_left (show 0 < b by omega) (by omega)
   have h2:=h'.tail
   rw [←e2] at h2
   rw [ih h.tail h2]
theorem Can.norm {b:Nat} {l:List Nat} (h:∀x∈l,x < b) {n:Nat} (hn:n≤l.length) (hv:vl b (l.take n)=vl b l) (hz:n=0∨∃h:n - 1 < l.length,l[n - 1]≠0):Can b (l.take n) (vl b l):=by
 refine ⟨fun x hx=>h x (List.mem_of_mem_take hx),hv,fun x hx=>?_⟩
 rcases hz with rfl | ⟨h1,h2⟩
 ·simp at hx
 ·by_cases h0:n=0
  ·subst h0;simp at hx
  ·rw [List.getLast?_eq_getElem?,List.length_take,Nat.min_eq_left hn,List.getElem?_take,if_pos (by omega),List.getElem?_eq_getElem h1] at hx
   simp at hx
   rw [←hx];exact h2
theorem norm_step {b:Nat} {l:List Nat} {n:Nat} (hn:n < l.length) (hv:vl b (l.take (n+1))=vl b l) (h0:l[n]=0):vl b (l.take n)=vl b l:=by
 rw [←hv,vl_take_succ b l hn,h0];simp
end Go.Proofs.YtlafpknoiihaaaaGreatDoor
