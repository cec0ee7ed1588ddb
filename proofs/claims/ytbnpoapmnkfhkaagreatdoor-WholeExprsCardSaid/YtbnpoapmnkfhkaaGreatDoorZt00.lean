/- 00 -/
import Derived.Test.YtbnpoapmnkfhkaaGreatDoorRows
set_option linter.unusedVariables false
namespace Go.Proofs.YtbnpoapmnkfhkaaGreatDoor
theorem zc {p:Prop} (h:p:=by omega):p:=h
theorem ze {p:Prop} (h:p:=by simp):p:=h
theorem zg {p:Prop} (h:p:=by exact yK7):p:=h
theorem zh {p:Prop} (h:p:=by first | assumption | (simp;done)):p:=h
theorem zi {p:Prop} (h:p:=by decide):p:=h
theorem zj {p:Prop} (h:p:=by simp;omega):p:=h
theorem zk {p:Prop} (h:p:=by simp [hgk]):p:=h
theorem zm {p:Prop} (h:p:=by assumption):p:=h
theorem zn {p:Prop} (h:p:=by simp [h]):p:=h
theorem zo {p:Prop} (h:p:=by rw [beq_eq_false_iff_ne];omega):p:=h
theorem zp {p:Prop} (h:p:=by first | trivial | rfl):p:=h
theorem zq {p:Prop} (h:p:=by intro k _ h;simp at h):p:=h
theorem zr {p:Prop} (h:p:=by simp [intOf]):p:=h
theorem zu {p:Prop} (h:p:=by intro k h h2;simp at h2;omega):p:=h
theorem zv {p:Prop} (h:p:=by intro k _ h;simp at h;simp [h]):p:=h
theorem zw {p:Prop} (h:p:=by have:=HLT.out _ h;omega):p:=h
theorem zx {p:Prop} (h:p:=by unfold maxLen;omega):p:=h
theorem zy {p:Prop} (h:p:=by first | assumption | exact Mod.refl _ _ | exact Mod.drew (by assumption) | exact yK7):p:=h
theorem zC {p:Prop} (h:p:=by simp [hk]):p:=h
theorem zD {p:Prop} (h:p:=by intro k _ h;exact h):p:=h
theorem zE {p:Prop} (h:p:=by rfl):p:=h
theorem zF {p:Prop} (h:p:=by have:=Nat.pow_le_pow_right (n:=2) (by omega) hn;omega):p:=h
theorem zG {p:Prop} (h:p:=by simp at h;omega):p:=h
theorem zH {p:Prop} (h:p:=by have:=hbF k hk;omega):p:=h
theorem zI {p:Prop} (h:p:=by intro i hi h;simp at h;omega):p:=h
theorem zJ {p:Prop} (h:p:=by simp [q]):p:=h
theorem zK {p:Prop} (h:p:=by first | assumption | exact Mod.refl _ _ | exact Mod.drew (by assumption) | exact Mod.drew (Mod.refl _ _)):p:=h
theorem zL {p:Prop} (h:p:=by decide+kernel):p:=h
theorem zM {p:Prop} (h:p:=by intro j u hu;exact yA2 _ _ _ _ (by simp) j u hu):p:=h
theorem zN {p:Prop} (h:p:=by simp;exact ⟨fun h=>hF1 (h▸hk),fun h=>hF2 (h▸hk)⟩):p:=h
theorem zO {p:Prop} (h:p:=by rcases Nat.lt_or_ge (k+1) n with q | q;exact q;exact absurd (HLAST.out (by omega)) (by decide)):p:=h
theorem zP {p:Prop} (h:p:=by simp at q;omega):p:=h
theorem zQ {p:Prop} (h:p:=by rw [HN.out];exact hlt):p:=h
theorem zR {p:Prop} (h:p:=by simp [intOf];omega):p:=h
theorem zS {p:Prop} (h:p:=by have:=LT.out _ h;omega):p:=h
theorem zT {p:Prop} (h:p:=by rintro e w' ⟨rfl,m2⟩;exact ⟨rfl,m.trans' m2⟩):p:=h
theorem zU {p:Prop} (h:p:=by cases h):p:=h
theorem zV {p:Prop} (h:p:=by unfold B64;omega):p:=h
theorem zW {p:Prop} (h:p:=by rw [List.length_take];omega):p:=h
theorem zX {p:Prop} (h:p:=by show Mod _ _ _;exact yK7):p:=h
theorem zY {p:Prop} (h:p:=by simp [hu]):p:=h
theorem zZ {p:Prop} (h:p:=by simp only;omega):p:=h
theorem yb {p:Prop} (h:p:=by unfold mkP;rw [hs,hr];rfl):p:=h
theorem yc {p:Prop} (h:p:=by show _≤_;omega):p:=h
theorem yd {p:Prop} (h:p:=by simp at hl;omega):p:=h
theorem ye {p:Prop} (h:p:=by rw [hz2];omega):p:=h
theorem yf {p:Prop} (h:p:=by simpa using n5):p:=h
theorem yg {p:Prop} (h:p:=by simp [hy]):p:=h
theorem yh {p:Prop} (h:p:=by have:=hp.len;omega):p:=h
theorem yi {p:Prop} (h:p:=by intro u hu;simp at hu;subst hu;rfl):p:=h
theorem yj {p:Prop} (h:p:=by rw [hb.cell];rfl):p:=h
theorem yk {p:Prop} (h:p:=by rw [Int.natCast_ediv];simp):p:=h
theorem ym {p:Prop} (h:p:=by simp at hk;omega):p:=h
theorem yn {p:Prop} (h:p:=by simpa using n8):p:=h
theorem yo {p:Prop} (h:p:=by simp [hgb]):p:=h
theorem yp {p:Prop} (h:p:=by rw [List.length_drop];omega):p:=h
theorem yq {p:Prop} (h:p:=by have:=HG.out;simp;omega):p:=h
theorem yr {p:Prop} (h:p:=by rw [bne_iff_ne];omega):p:=h
theorem yu {p:Prop} (h:p:=by rw [HT.out];omega):p:=h
theorem yv {p:Prop} (h:p:=by rw [HMM.out];omega):p:=h
theorem yw {p:Prop} (h:p:=by first | rfl | (simp;try omega)):p:=h
theorem yx {p:Prop} (h:p:=by first | exact (Mod.refl _ _).drew | exact Mod.refl _ _ | assumption | exact Mod.drew (by assumption)):p:=h
theorem yy {p:Prop} (h:p:=by first | exact MN | exact MN.drew | exact MN.drewN _):p:=h
theorem yz {p:Prop} (h:p:=by rw [List.length_append];omega):p:=h
theorem yA {p:Prop} (h:p:=by simp [e]):p:=h
theorem yB {p:Prop} (h:p:=by simp [hgj]):p:=h
theorem yC {p:Prop} (h:p:=by rw [hS]):p:=h
theorem yD {p:Prop} (h:p:=by (rw [hS];try simp)):p:=h
theorem yE {p:Prop} (h:p:=by simpa using n6):p:=h
theorem yF {p:Prop} (h:p:=by simp [Xn]):p:=h
theorem yG {p:Prop} (h:p:=by left;omega):p:=h
theorem yH {p:Prop} (h:p:=by rw [e];rfl):p:=h
theorem yI {p:Prop} (h:p:=by rw [acc0];simpa using h):p:=h
theorem yJ {p:Prop} (h:p:=by simp [hs]):p:=h
theorem yK {p:Prop} (h:p:=by simpa using hx):p:=h
theorem yL {p:Prop} (h:p:=by simp;exact ⟨hjl,hjh⟩):p:=h
theorem yM {p:Prop} (h:p:=by simp;exact ⟨hrl,hrh⟩):p:=h
theorem yN {p:Prop} (h:p:=by intro i hi h;simp at h;have:=HGW.out;omega):p:=h
theorem yO {p:Prop} (h:p:=by have:=LT _ h;omega):p:=h
theorem yP {p:Prop} (h:p:=by simp at hk;simp [hk]):p:=h
theorem yQ {p:Prop} (h:p:=by intro i hi hm;simp at hm;omega):p:=h
theorem yR {p:Prop} (h:p:=by show _=_;simp):p:=h
theorem yS {p:Prop} (h:p:=by rw [acc1];simpa using h):p:=h
theorem yT {p:Prop} (h:p:=by simp;rintro rfl;exact hFg hk):p:=h
theorem yU {p:Prop} (h:p:=by rw [←BA.out];rfl):p:=h
theorem yV {p:Prop} (h:p:=by first | rfl | simp):p:=h
theorem yW {p:Prop} (h:p:=by intro k hk h;simp at h;rcases h with rfl | rfl<;>first | (exfalso;omega) | simp):p:=h
theorem yX {p:Prop} (h:p:=by have:=LTn.out _ h;omega):p:=h
theorem yY {p:Prop} (h:p:=by have:=SPn.out.gr.size;omega):p:=h
theorem yZ {p:Prop} (h:p:=by have:=PJn.out.blk.lt;omega):p:=h
theorem xd {p:Prop} (h:p:=by have:=PRn.out.blk.lt;omega):p:=h
theorem xe {p:Prop} (h:p:=by rw [List.append_nil];exact SW.out.eng):p:=h
theorem xg {p:Prop} (h:p:=by have:=LT.out _ q;omega):p:=h
theorem xh {p:Prop} (h:p:=by simp at h ⊢;rcases h with h | h | h<;>simp [h]):p:=h
theorem xi {p:Prop} (h:p:=by rw [List.getD_eq_getElem?_getD,List.getElem?_eq_getElem];rfl):p:=h
theorem xj {p:Prop} (h:p:=by rw [hlen];omega):p:=h
theorem xk {p:Prop} (h:p:=by simp [hg]):p:=h
theorem xl {p:Prop} (h:p:=by rw [HN.out];omega):p:=h
theorem xm {p:Prop} (h:p:=by rw [he];decide):p:=h
theorem xn {p:Prop} (h:p:=by intro u hu;simp at hu;rcases hu with rfl;rfl):p:=h
theorem xo {p:Prop} (h:p:=by have:=Nat.pow_le_pow_right (n:=2) (by omega) hn;simpa using this):p:=h
theorem xp {p:Prop} (h:p:=by rw [hn];exact Nat.pow_le_pow_right (by omega) hj):p:=h
theorem xq {p:Prop} (h:p:=by simpa using gs3):p:=h
theorem xr {p:Prop} (h:p:=by have:=hlt k hk;omega):p:=h
theorem xu {p:Prop} (h:p:=by rw [decide_eq_false heq]):p:=h
theorem xv {p:Prop} (h:p:=by first | rfl | trivial):p:=h
theorem xw {p:Prop} (h:p:=by unfold YO;simp):p:=h
theorem xx {p:Prop} (h:p:=by rcases hg.right.ch with h | h | h<;>omega):p:=h
theorem xy {p:Prop} (h:p:=by simp [f5]):p:=h
theorem xz {p:Prop} (h:p:=by have:=hg.right.bn;omega):p:=h
theorem xA {p:Prop} (h:p:=by rw [Nat.pow_succ];omega):p:=h
theorem xB {p:Prop} (h:p:=by rw [XR,if_neg (by omega)]):p:=h
theorem xC {p:Prop} (h:p:=by have:=HB10.out.lt;omega):p:=h
theorem xD {p:Prop} (h:p:=by simp at h;subst h;exact HH.out.1 hk):p:=h
theorem xE {p:Prop} (h:p:=by simp;have:=B10.out.lt;omega):p:=h
theorem xF {p:Prop} (h:p:=by intro k hk;simp at hk;rcases hk with rfl | rfl;exact PL.out.new;exact PH.out.new):p:=h
theorem xG {p:Prop} (h:p:=by intro k hk;simp at hk;rcases hk with rfl | rfl;exact PL2.no;exact PH2.no):p:=h
theorem xH {p:Prop} (h:p:=by intro k hk;simp at hk;omega):p:=h
theorem xI {p:Prop} (h:p:=by intro k hk;simp at hk;subst hk;exact PRF.new):p:=h
theorem xJ {p:Prop} (h:p:=by intro k hk;simp at hk;subst hk;exact PRF.no):p:=h
theorem xK {p:Prop} (h:p:=by rw [hlen] at hcap;omega):p:=h
theorem xL {p:Prop} (h:p:=by have:=HE.mak.lt;omega):p:=h
theorem xM {p:Prop} (h:p:=by have:=HB.out.1;omega):p:=h
theorem xN {p:Prop} (h:p:=by have:=HB.out.2;omega):p:=h
theorem xO {p:Prop} (h:p:=by intro u hu;simp at hu;rcases hu with rfl | rfl | rfl<;>rfl):p:=h
theorem xP {p:Prop} (h:p:=by rw [List.length_append];simp;omega):p:=h
theorem xQ {p:Prop} (h:p:=by simpa using h):p:=h
theorem xR {p:Prop} (h:p:=by have:=HA.out;unfold Arnd at this;rw [HMM.out] at this;exact this.mod (S:=[]) (by exact yK7) (by simp)):p:=h
theorem xS {p:Prop} (h:p:=by have:=HG.out i h;omega):p:=h
theorem xU {p:Prop} (h:p:=by have:=HM.out.size;simp at h;omega):p:=h
theorem xV {p:Prop} (h:p:=by rw [List.length_cons,HMM.out];omega):p:=h
theorem xW {p:Prop} (h:p:=by have:=yK6 S;omega):p:=h
theorem xX {p:Prop} (h:p:=by rw [HE.out];rfl):p:=h
theorem xY {p:Prop} (h:p:=by first | exact MM.out | exact MM.out.drew | exact MM.out.drewN _):p:=h
theorem xZ {p:Prop} (h:p:=by unfold mkP Xd;simp [heq]):p:=h
theorem qd {p:Prop} (h:p:=by unfold za6;split<;>simp):p:=h
theorem qe {p:Prop} (h:p:=by rintro e w' ⟨rfl,rfl⟩;exact ⟨rfl,Mod.refl _ _⟩):p:=h
theorem qg {p:Prop} (h:p:=by unfold YG;rw [if_neg (by simp)];simp only [hr];unfold zD3;simp):p:=h
theorem qh {p:Prop} (h:p:=by unfold YG;rw [if_neg (by simp)];simp only [hr,if_pos hlt];unfold zD3;simp):p:=h
theorem qi {p:Prop} (h:p:=by unfold YG;rw [if_neg (by simp)];simp only [hr,if_neg hlt,if_pos htb]):p:=h
theorem qj {p:Prop} (h:p:=by rw [Xl];exact Nat.le_refl _):p:=h
theorem qm {p:Prop} (h:p:=by have:=HGK.out;simp at h;omega):p:=h
theorem qo {p:Prop} (h:p:=by have:=M1.out.size;omega):p:=h
theorem qp {p:Prop} (h:p:=by have:=M_w1.size;omega):p:=h
theorem qq {p:Prop} (h:p:=by have:=M0.out.size;omega):p:=h
theorem qr {p:Prop} (h:p:=by simpa using hrbm):p:=h
theorem qs {p:Prop} (h:p:=by have:=HBM.out k hk;simp;exact this):p:=h
theorem qu {p:Prop} (h:p:=by simp [tsz];omega):p:=h
theorem qv {p:Prop} (h:p:=by show _=_;rw [SD.out,ON.out];rfl):p:=h
theorem qw {p:Prop} (h:p:=by rw [hs.out];rfl):p:=h
theorem qx {p:Prop} (h:p:=by rw [List.length_take,List.length_take];omega):p:=h
theorem qy {p:Prop} (h:p:=by simp at h;subst h;exact NF'.out hk):p:=h
theorem qz {p:Prop} (h:p:=by have:=LB.out;omega):p:=h
theorem qC {p:Prop} (h:p:=by have:=LB.out;rw [List.length_append];omega):p:=h
theorem qD {p:Prop} (h:p:=by have:=PLn.out.blk.lt;omega):p:=h
theorem qE {p:Prop} (h:p:=by have:=PHn.out.blk.lt;omega):p:=h
theorem qF {p:Prop} (h:p:=by intro k hk;simp at hk;subst hk;exact PR.out.new):p:=h
theorem qG {p:Prop} (h:p:=by intro k hk;simp at hk;subst hk;exact PR6.no):p:=h
theorem qH {p:Prop} (h:p:=by simp [List.append_assoc]):p:=h
theorem qI {p:Prop} (h:p:=by simpa using fun h=>NBC.out.1 h.symm):p:=h
theorem qJ {p:Prop} (h:p:=by have:=LT.out _ (mem7.2 h);omega):p:=h
theorem qK {p:Prop} (h:p:=by have:=hgw.out;omega):p:=h
theorem qL {p:Prop} (h:p:=by have:=yc4 hn;omega):p:=h
theorem qM {p:Prop} (h:p:=by rw [Xt];omega):p:=h
theorem qN {p:Prop} (h:p:=by simp [h.len];omega):p:=h
theorem qO {p:Prop} (h:p:=by have:=X2.out;omega):p:=h
theorem qP {p:Prop} (h:p:=by have:=HP.out;omega):p:=h
theorem qQ {p:Prop} (h:p:=by simpa using hfr):p:=h
theorem qR {p:Prop} (h:p:=by have:=hseq.1 k hk;omega):p:=h
theorem qS {p:Prop} (h:p:=by have:=b1.lt;omega):p:=h
theorem qT {p:Prop} (h:p:=by rintro e w' ⟨et,ea,L2,F',rfl,s,gr,ex,hl⟩;exact ⟨et,ea,L2,F',rfl,s,(Grow.of_mod m).trans gr,ex,by show _≤_;omega⟩):p:=h
theorem qU {p:Prop} (h:p:=by have:=HAA.out.2.2.2.2.1;have:=Q12.out.1;omega):p:=h
theorem qV {p:Prop} (h:p:=by have:=HBB.out.2.2.2.2.1;have:=Q12.out.2;omega):p:=h
theorem qW {p:Prop} (h:p:=by simp at hl';omega):p:=h
theorem qX {p:Prop} (h:p:=by simp [Value.ownBlock] at hk):p:=h
theorem qY {p:Prop} (h:p:=by unfold Addr.add;split<;>simp_all):p:=h
theorem qZ {p:Prop} (h:p:=by rw [List.length_map];exact hk1):p:=h
theorem jc {p:Prop} (h:p:=by have:=HG.out;omega):p:=h
theorem jd {p:Prop} (h:p:=by simp [occ] at ho):p:=h
theorem je {p:Prop} (h:p:=by show _=_;rw [HP.out,TK.out,List.append_assoc];rfl):p:=h
theorem jf {p:Prop} (h:p:=by rw [HMM.out];exact hSk):p:=h
theorem jg {p:Prop} (h:p:=by unfold zj8;omega):p:=h
theorem jh {p:Prop} (h:p:=by rw [hn];exact Nat.one_le_two_pow):p:=h
theorem ji {p:Prop} (h:p:=by intro j u hu;first | exact yA2 _ _ _ _ (by simp) j u hu | exact zO8 _ _ _ _ (by simp) j u hu):p:=h
theorem jj {p:Prop} (h:p:=by rw [h1.cell];rfl):p:=h
theorem jk {p:Prop} (h:p:=by have:=hR.bn;omega):p:=h
theorem jl {p:Prop} (h:p:=by rintro ⟨h,_⟩;omega):p:=h
theorem jm {p:Prop} (h:p:=by rw [hv];exact ⟨rfl,rep⟩):p:=h
theorem jn {p:Prop} (h:p:=by rw [List.getD_eq_getElem?_getD,hi];rfl):p:=h
theorem jo {p:Prop} (h:p:=by have:=Nat.two_pow_pos (2 ^ n);omega):p:=h
theorem jp {p:Prop} (h:p:=by first | assumption | exact Mod.drew (by assumption) | exact Mod.drewN (by assumption) _):p:=h
theorem jq {p:Prop} (h:p:=by have:=FL.out _ h;omega):p:=h
theorem jr {p:Prop} (h:p:=by have:=HMD.out.size;simp at h;omega):p:=h
theorem js {p:Prop} (h:p:=by have:=S2.out.lt _ h;omega):p:=h
theorem jt {p:Prop} (h:p:=by have:=HMD.out.size;omega):p:=h
theorem ju {p:Prop} (h:p:=by have:=MG.out.2.2.2;omega):p:=h
theorem jv {p:Prop} (h:p:=by have:=M1.out.size;simp at h;omega):p:=h
theorem jw {p:Prop} (h:p:=by have:=Xh (hO.mod m (by simp));rw [hp] at this;exact this):p:=h
theorem jx {p:Prop} (h:p:=by have:=HSL.out _ h;omega):p:=h
theorem jy {p:Prop} (h:p:=by rw [List.append_nil];exact HX.out.mod0 MW.out):p:=h
theorem jz {p:Prop} (h:p:=by first | exact (Mod.refl _ _).drew | exact Mod.refl _ _ | assumption | exact Mod.drew (by assumption) | exact yK7):p:=h
theorem jA {p:Prop} (h:p:=by simp at q;subst q;exact (List.mem_cons.1 hk).elim (fun e=>HN.out.1 (by simp [e])) NN.out):p:=h
theorem jB {p:Prop} (h:p:=by simp at hk;subst hk;exact HN.out.2):p:=h
theorem jC {p:Prop} (h:p:=by first | exact E6.out | (rw [hea];exact E6.out)):p:=h
theorem jD {p:Prop} (h:p:=by rw [hp.len];omega):p:=h
theorem jE {p:Prop} (h:p:=by first | exact MZ.out | exact MZ.out.drewN _):p:=h
theorem jF {p:Prop} (h:p:=by first | exact M2.out | exact M2.out.drewN _):p:=h
theorem jG {p:Prop} (h:p:=by have BA:=Blk.new' w #[.int .i64 ((a+1:Nat):Int)] 3 g hgz.symm;have:=BA.cell 0;simpa using this):p:=h
theorem jH {p:Prop} (h:p:=by rw [h2.cell];rfl):p:=h
theorem jI {p:Prop} (h:p:=by have:=E1.out;omega):p:=h
theorem jJ {p:Prop} (h:p:=by rw [List.mem_singleton] at hk;omega):p:=h
theorem jK {p:Prop} (h:p:=by have:=B1.out.lt;omega):p:=h
theorem jL {p:Prop} (h:p:=by first | assumption | exact Mod.refl _ _ | exact Mod.drew (by assumption) | exact Mod.alloc (by assumption) _ | exact Mod.alloc (Mod.drew (by assumption)) _ | exact Mod.alloc (Mod.refl _ _) _ | exact Mod.drew (Mod.refl _ _) | exact Mod.alloc (Mod.drew (Mod.refl _ _)) _ | exact Mod.drew (Mod.alloc (by assumption) _) | exact Mod.drew (Mod.alloc (Mod.refl _ _) _)):p:=h
theorem jM {p:Prop} (h:p:=by simp at hk;subst hk;exact .inr (Nat.le_refl _)):p:=h
theorem jN {p:Prop} (h:p:=by first | exact M.out.drewN _ | exact M.out.drew | exact M.out):p:=h
theorem jO {p:Prop} (h:p:=by rw [zY6,HEX.out k j (by omega),HLE.out]):p:=h
theorem jP {p:Prop} (h:p:=by have:=ye5 a;have:=ye5 b;simp [Xk];omega):p:=h
theorem jQ {p:Prop} (h:p:=by have:=N5.out;show NewV _ _ _ _ _;rw [List.range_succ,List.map_append,List.map_append,List.map_cons,List.map_nil,List.map_cons,List.map_nil,FK.out];exact this):p:=h
theorem jR {p:Prop} (h:p:=by simp at hu;subst hu;exact yl8 ha):p:=h
theorem jS {p:Prop} (h:p:=by unfold Xd;simp only [if_neg (show ¬((5:Nat)=2∨(5:Nat)=4) by omega),if_neg heq];simp;omega):p:=h
theorem jT {p:Prop} (h:p:=by rcases HLO.out.at_ with h | ⟨r,hr,_⟩;simp only at h;omega;rw [hx] at hr;simp at hr):p:=h
theorem jU {p:Prop} (h:p:=by unfold Xd;simp only [if_neg (show ¬((3:Nat)=2∨(3:Nat)=4) by omega),if_neg heq];simp):p:=h
theorem jV {p:Prop} (h:p:=by have:=hxn.2.2.2;simp only at this;omega):p:=h
theorem jW {p:Prop} (h:p:=by have:=hxg.bn;simp only at this;omega):p:=h
theorem jX {p:Prop} (h:p:=by rw [List.length_map,hp.len];omega):p:=h
theorem jY {p:Prop} (h:p:=by have h7:=this.1;have h8:=this.2;omega):p:=h
theorem jZ {p:Prop} (h:p:=by unfold YG;rw [if_neg (by simp)];simp only [hr,if_neg hlt,if_neg htb];simp):p:=h
theorem j9 {p:Prop} (h:p:=by intro k hk h;simp at h;subst h;exact hF31 hk):p:=h
theorem vh {p:Prop} (h:p:=by simp at h;rcases h with rfl | rfl;exact hF31 hk;exact hF32 hk):p:=h
theorem vi {p:Prop} (h:p:=by have:=HF.out _ h;have:=HGK.out;omega):p:=h
theorem vj {p:Prop} (h:p:=by have h1:=K2.out.2.2.2.2.2.2;have h2:=hr1'.out;have h3:=len5;simp only [List.length_append];omega):p:=h
theorem vm {p:Prop} (h:p:=by rw [hj2,Nat.add_assoc,Nat.add_sub_cancel_left];omega):p:=h
theorem vn {p:Prop} (h:p:=by rw [hm];have:=BA.cell 0;simpa using this):p:=h
theorem vr {p:Prop} (h:p:=by have:=hF k hk;have:=M1.out.size;omega):p:=h
theorem vu {p:Prop} (h:p:=by simp at q;have:=HF.out k hk;omega):p:=h
theorem vv {p:Prop} (h:p:=by have:=BND.out;simp [tsz] at this;omega):p:=h
theorem vC {p:Prop} (h:p:=by have:=BND.out;have:=HN3.out;simp [tsz] at *;omega):p:=h
theorem vD {p:Prop} (h:p:=by have:=HN3.out;have:=HN4.out;simp [tsz];omega):p:=h
theorem vE {p:Prop} (h:p:=by have:=Nat.pow_lt_pow_right (a:=2) (by omega) (show v < 5 by omega);omega):p:=h
theorem vF {p:Prop} (h:p:=by rw [zV5,←hl v hv];exact ⟨fun h=>h.2,fun h=>⟨hv,h⟩⟩):p:=h
theorem vG {p:Prop} (h:p:=by rw [←Nat.succ_mul];exact Nat.mul_le_mul_right m hi):p:=h
theorem vH {p:Prop} (h:p:=by obtain ⟨hi,mi,h⟩:=HB0.out;exact h.cell 1):p:=h
theorem vI {p:Prop} (h:p:=by simp at h;subst h;exact HN.out.2 hk):p:=h
theorem vJ {p:Prop} (h:p:=by simp at h;subst h;exact HAF.out hk):p:=h
theorem vK {p:Prop} (h:p:=by simp [IntKind.wrap,IntKind.bits,IntKind.signed]):p:=h
theorem vL {p:Prop} (h:p:=by simp at hk;have:=M1.out.size;omega):p:=h
theorem vM {p:Prop} (h:p:=by simp at q;subst q;exact h.no.2.1 hk):p:=h
theorem vN {p:Prop} (h:p:=by simp at q;subst q;exact h.no.2.2 hk):p:=h
theorem vO {p:Prop} (h:p:=by simp at q;have:=LT.out k hk;omega):p:=h
theorem vP {p:Prop} (h:p:=by have:=LB.out;rw [List.length_append,List.length_append];omega):p:=h
theorem vQ {p:Prop} (h:p:=by rw [beq_eq_false_iff_ne];exact hne):p:=h
theorem vR {p:Prop} (h:p:=by intro k hk;simp at hk;subst hk;exact NBC.out.2.2.2.2.2):p:=h
theorem vS {p:Prop} (h:p:=by simpa using fun h=>NBC.out.2.1 h.symm):p:=h
theorem vU {p:Prop} (h:p:=by intro k hk;simp at hk;subst hk;exact ngs):p:=h
theorem vV {p:Prop} (h:p:=by simpa using fun h=>NBC.out.2.2.1 h.symm):p:=h
theorem vW {p:Prop} (h:p:=by simpa using fun h=>NBC.out.2.2.2.1 h.symm):p:=h
theorem vX {p:Prop} (h:p:=by simpa using fun h=>PX.out.no (by simp [h])):p:=h
theorem vY {p:Prop} (h:p:=by intro k hk;simp at hk;subst hk;exact PXx.out.new):p:=h
theorem vZ {p:Prop} (h:p:=by intro k hk;simp at hk;subst hk;exact PX2.no):p:=h
theorem we {p:Prop} (h:p:=by intro k hk;simp at hk;subst hk;exact PXy.out.new):p:=h
theorem wg {p:Prop} (h:p:=by intro k hk;simp at hk;subst hk;exact PXy.out.no):p:=h
theorem wh {p:Prop} (h:p:=by rw [beq_eq_false_iff_ne];have:=HB.out;omega):p:=h
theorem wj {p:Prop} (h:p:=by rw [List.mem_singleton] at q;rw [q] at hk;exact no6 HN.out (yn8 NX2.out) hk):p:=h
theorem wk {p:Prop} (h:p:=by rw [List.length_append,hi.len];rfl):p:=h
theorem wl {p:Prop} (h:p:=by rw [List.length_append,hi.len];simp;omega):p:=h
theorem wm {p:Prop} (h:p:=by rw [List.length_map,HN1.out];exact hkA):p:=h
theorem wn {p:Prop} (h:p:=by intro i hi hm;simp at hm;have:=HG.out;omega):p:=h
theorem ws {p:Prop} (h:p:=by first | exact M0.out | exact M0.out.drewN _):p:=h
theorem wt {p:Prop} (h:p:=by have:=B8R.out.lt;show _ < _;omega):p:=h
theorem wu {p:Prop} (h:p:=by show _≤_;have:=M1.out.size;omega):p:=h
theorem wB {p:Prop} (h:p:=by have:=Nat.pow_lt_pow_right (a:=2) (by omega) hk;exact this):p:=h
theorem wC {p:Prop} (h:p:=by rintro e' w' ⟨ga,rfl,bg,hg,m2⟩;exact ⟨ga,rfl,bg.cell 0,m.trans' m2,m2,bg.lt⟩):p:=h
theorem wD {p:Prop} (h:p:=by show _≤_;have:=M0.out.size;omega):p:=h
theorem wE {p:Prop} (h:p:=by obtain ⟨A,p,e,-⟩:=r1.1.shape;exact ⟨A,_,p,e⟩):p:=h
theorem wF {p:Prop} (h:p:=by obtain ⟨A,p,e,-⟩:=r2.1.shape;exact ⟨A,_,p,e⟩):p:=h
theorem wG {p:Prop} (h:p:=by first | exact MX.out | exact MX.out.drewN _):p:=h
theorem wH {p:Prop} (h:p:=by first | exact MA.out | exact MA.out.drewN _):p:=h
theorem wI {p:Prop} (h:p:=by first | exact M3.out | exact M3.out.drewN _):p:=h
theorem wJ {p:Prop} (h:p:=by obtain ⟨fv,_,_,m,_⟩:=r1;exact m):p:=h
theorem wK {p:Prop} (h:p:=by obtain ⟨p,v,h1,h2,h3,h4⟩:=h;exact h4):p:=h
theorem wL {p:Prop} (h:p:=by show _=_;rw [List.length_map,hp.len]):p:=h
theorem wM {p:Prop} (h:p:=by simp at ha;exact ⟨ha.1.symm,ha.2.symm⟩):p:=h
theorem wN {p:Prop} (h:p:=by rw [List.mem_singleton] at q;rw [q] at hk;exact hn2 hk):p:=h
theorem wO {p:Prop} (h:p:=by rintro e w' ⟨et,ea,L2,F',rfl,s,gr,ex,hl⟩;exact ⟨et,ea,L2,F',rfl,s,(Grow.of_mod m).trans gr,ex,hl⟩):p:=h
theorem wP {p:Prop} (h:p:=by show (Xk X+1) *kcN n=_;rw [Nat.succ_mul]):p:=h
theorem wQ {p:Prop} (h:p:=by rintro e w' ⟨g,rfl,bg,hg,m2⟩;exact ⟨g,rfl,bg.cell 0,bg.lt,m.trans' m2,m2⟩):p:=h
theorem wR {p:Prop} (h:p:=by first | exact Mod.refl _ _ | exact Mod.alloc (Mod.refl _ _) _ | exact Mod.drew (Mod.refl _ _) | exact Mod.alloc (Mod.drew (Mod.refl _ _)) _):p:=h
theorem wS {p:Prop} (h:p:=by rintro e w' ⟨rfl,m2⟩;exact ⟨rfl,m.trans' m2,m2⟩):p:=h
theorem wT {p:Prop} (h:p:=by simpa using (List.mem_filter.1 hk).2):p:=h
theorem wU {p:Prop} (h:p:=by have:=budget hn IA.out.2.2;simp;omega):p:=h
theorem wV {p:Prop} (h:p:=by have:=budget hn IB.out.2.2;have:=budget hn IA.out.2.2;have:=LL10.out;simp;omega):p:=h
theorem wW {p:Prop} (h:p:=by rintro e w' ⟨v',rfl,nv⟩;exact ⟨v',rfl,nv.after m,m.trans' nv.mod,nv.mod⟩):p:=h
end Go.Proofs.YtbnpoapmnkfhkaaGreatDoor
