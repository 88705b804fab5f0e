/- Part 3 of the proofs over this seat: what its theorems say holds for every input that they name. -/
import Derived.Test.YtclibalpdhhhfaaGreatDoorBF2
namespace Go.Proofs.YtclibalpdhhhfaaGreatDoor
open Go Go.Eng Go.RowKit
open Go.Eng renaming bP→U, cE→W, bK→Zr, og→Zk, wG→Zt, lB→Zb, xC→Zx, gg→Yi, IH→Yb, sE→Ys, Ra→Yp, Qt→Yt, IG→Yu, BN→Wi, DD→Wb, vV→Ws, Ri→Wp, vU→Wt, zf→Zf, Rg→Xi, I0→Xa, IZ→Xb, IY→Xs, PA→Kt, LQ→N, jc→ZT, gQ→ZF
open Go.Proofs.Tryz renaming prog→aa
open _root_.List renaming mem_of_getElem?→ab,length_set→ae,mem_cons_of_mem→ai,getElem?_eq_getElem→aj,getElem?_set_self→al,mem_append→ap,replicate→aq,mem_singleton→ar,mem_cons→av,length_append→ay,mem_cons_self→az,mem_or_eq_of_mem_set→aA,append_assoc→aB,sublist_append_left→aC,length_take→aD,getElem?_eq_some_iff→aE,getElem?_map→aI,mem_iff_getElem?→aN,findIdx?_eq_some_iff_getElem→aP,append_nil→aZ,length_map→bc,mem_nil_iff→bd,map_append→bk,mem_map→bD,mem_map_of_mem→bF,take_length→bJ,eq_nil_of_length_eq_zero→bO,getElem?_eq_none→bX,sublist_append_right→bZ,getElem?_append_right→cG,length_singleton→cH,findIdx?_eq_none_iff→cL,map_set→cU,length_drop→cZ,length→da,getElem?_take→di,getElem?_drop→dk,ext_getElem?→dZ,mem_singleton_self→d9,drop_of_length_le→er,pairwise_cons→eD,map_cons→eU,drop_length→fC,set_set→fR,perm_append_comm_assoc→gj,take_append_drop→g8,mem_append_left→iB,filter_append→jn,set_append_right→jo,nodup_cons→jz,pairwise_map→jD,filter_eq_self→j7,filter_cons_of_pos→kc,drop_drop→ke,nil_append→li,mem_filter→lj,getElem?_set→lI,pairwise_append→ml,drop_zero→mn,pairwise_iff_getElem→nc,headD_eq_head?_getD→nD,filter_cons_of_neg→ph,map_nil→pL,map_map→pM,head?_eq_getElem?→pN,cons_append→qQ,drop_set_of_lt→sV,any_eq_false→uV,filter_eq_nil_iff→wQ,take_zero→zn,take_set_of_le→zZ,drop_succ_cons→z0,findIdx?_map→DK
open _root_.List.Perm renaming swap→ak
open _root_.Nat renaming le_refl→ao,le_trans→aV,min_eq_left→bB,zero_le→bN,zero_add→cF,add_mul→cN,mul_le_mul_right→dq,one_mul→gh,lt_or_ge→iZ,le_of_lt→mF,add_zero→pJ,zero_mul→wO
open _root_.List.Sublist renaming refl→au,cons_cons→pP
open _root_.Bool renaming and_eq_true→aQ,true_and→ig,not_eq_true'→pQ,eq_iff_iff→xV
open _root_.Option.some renaming inj→aY,injEq→lH
open _root_.Array renaming length_toList→bY
open _root_.Option renaming map_some→eQ,bind_some→fB,map_eq_some_iff→iY
open _root_.Int renaming le_refl→fl
open _root_.List.Mem renaming head→ie,tail→rb
set_option maxHeartbeats 4000000
set_option maxRecDepth 20000
set_option linter.unusedSimpArgs false
set_option linter.unusedVariables false
set_option linter.unusedSectionVars false
theorem Gx (p t:Tx) (b:Nat) (w:World) (hx:w.heap[b]? =some (.cells t.c.toArray dH (0,0))):
  dt aa sO [p.v,.pointer (Qd b)] w fun v w2=>v=.bool (decide (p.name=t.name)||decide (p.pid=t.pid))/\Below w.heap.size w w2:=by
 refine aG xw Z Z ?_
 have H:=Hp.start w
 have hb:=bV hx
 refine W<|Zr<|gY H Z Z fun w1 b2 H=>G (Wb Z)<|U<|W<|Zr<|G (Zf oO Z)<|G (Zd ba H 0 Z Z Z)<|G (Zf oO Z)<|G (bi ba Z ((H.below.cell (p:=⟨b,_,none⟩) hb).trans (aJ (j:=0) hx Z))) ?_
 refine du (wg Z Z) Z Z Z (fun h8=> ?_) (fun h8=> ?_)
 refine G (Yb Z)<|ZN<|ZN<|ZN<|ZN<|ZN<|G (Kt Z Z)<|G (Wb Z)<|U<|Zt ?_
 have hv:(decide (p.name=t.name)||decide (p.pid=t.pid))=true:=by simp[h8]
 exact cn (v:=.bool true) Z Z ⟨by rw[hv],H.below⟩
 refine G (Yb Z)<|ZG<|G (Zf lz Z)<|ZG<|G (Zd am H 0 Z Z Z)<|ZG<|G (Zf lz Z)<|ZG<|G (bi am Z ((H.below.cell (p:=⟨b,_,none⟩) hb).trans (aJ (j:=1) hx Z)))<|ZG ?_
 refine du (bv Z Z) Z Z Z (fun h14=> ?_) (fun h14=> ?_)
 refine G (N Z Z)<|G (Wb Z)<|U<|Zt ?_
 have hv:(decide (p.name=t.name)||decide (p.pid=t.pid))=true:=by simp[h8,h14]
 exact cn (v:=.bool true) Z Z ⟨by rw[hv],H.below⟩
 refine G (N Z Z)<|G (Wb Z)<|U<|Zt ?_
 have hv:(decide (p.name=t.name)||decide (p.pid=t.pid))=false:=by simp[h8,h14]
 exact cn (v:=.bool false) Z Z ⟨by rw[hv],H.below⟩
theorem nS (p:Tx) (s:ByteArray) (b:Nat) (w:World) (hx:w.heap[b]? =some (.cells #[.string s] pd (0,0))):
  dt aa g9 [p.v,.pointer (Qd b)] w fun v w2=>v=.bool (decide (p.name=s))/\Below w.heap.size w w2:=by
 refine aG yB Z Z ?_
 have H:=Hp.start w
 have hb:=bV hx
 refine W<|Zr<|gY H Z Z fun w1 b2 H=>G (Wb Z)<|U<|W<|Zr<|G (Zf oO Z)<|G (Zd ba H 0 Z Z Z)<|G (bi ba Z ((H.below.cell (p:=⟨b,_,none⟩) hb).trans (aJ (j:=0) hx Z)))<|G (wg Z Z)<|G (Wb Z)<|U<|Zt ?_
 exact cn Z Z ⟨rfl,H.below⟩
theorem Gs (n:Int) (w:World) (h1:1<=n) (h2:n<=1000):dt aa FU [J n] w fun v w2=>v=.tuple #[.agg #[J 0,J 1,J n,.slice none 0 0],J 0]/\Below w.heap.size w w2:=by
 refine aG EG Z Z ?_
 have H:=Hp.start w
 refine W<|Zr<|fc H cI Z fun w1 b2 H=>G (Wi Z)<|U<|W<|W<|Zr<|G (Yi Z)<|G (dp Z Z I)<|G (Yb Z)<|ZG<|G (Yi Z)<|ZG<|G (eB Z Z I)<|G (N Z Z)<|U<|ZF Z<|Zk<|W<|Zr<|G (Yi Z)<|G (bC (cs:= #[J 0,J 1,J n,.slice none 0 0]) fH cI N)<|bA H 0 (#[J 0,J 1,J n,.slice none 0 0]) aF Z Z Z Z Z N N fun w2 H=>G (Wi Z)<|U<|Zt ?_
 exact ch (cs0:= #[J 0,J 1,J n,.slice none 0 0]) (v1:=J 0) Z ax Z (H.ent (i:=0) Z) Z Z ⟨rfl,H.below⟩
theorem Pf (ck nx wt:Int) (At:Option Addr) (n ct:Nat) (t:Tx) (w:World) (hr:Rd bS 0 w.heap.size t.A t.parts w) (hpl:t.parts.length<=1000000):
  dt aa FT [.agg #[J ck,J nx,J wt,.slice At n ct],t.v] w fun v w2=>v=.bool (fQ ck nx t)/\Below w.heap.size w w2:=by
 refine aG EF Z Z ?_
 have H:=Hp.startRd hr
 refine W<|Zr<|gY H Z Z fun w1 b2 H=>gY H Z Z fun w2 b3 H=>G (Wb Z)<|U<|W<|W<|Zr<|G (Zf oO Z)<|G (Zd ba H 0 Z Z Z)<|cu sj (Ec t.name _) Z Z ?_
 rintro _ w3 ⟨rfl,hb⟩;replace H:=H.later hb;clear hb
 refine G (ee Z)<|G (Yb Z) ?_
 refine nK 11 Z (fun h11=> ?_) (fun h11=> ?_)
 refine ZN<|ZN<|ZN<|G (Kt Z Z)<|G (Yb Z)<|ZN<|ZN<|ZN<|ZN<|ZN<|G (Kt Z Z)<|G (Yb Z)<|ZN<|ZN<|ZN<|ZN<|G (Kt Z Z)<|G (Yb Z)<|ZN<|ZN<|ZN<|G (Kt Z Z)<|G (Yb Z)<|ZN<|ZN<|ZN<|G (Kt Z Z)<|G (Yb Z)<|ZN<|ZN<|ZN<|G (Kt Z Z)<|G (Yb Z)<|ZN<|ZN<|ZN<|ZN<|ZN<|G (Kt Z Z)<|G (Yb Z) ?_
 refine ZN<|ZN<|ZN<|ZN<|ZN<|ZN<|ZN<|ZN<|ZN<|ZN<|ZN<|ZN<|ZN<|G (Kt Z Z)<|U<|ZT Z<|W<|Zr<|G (Wb Z)<|U<|Zt ?_
 have hv:fQ ck nx t=false:=by
  cases hh:fQ ck nx t
  rfl
  obtain⟨a1,a2,a3,a4,a5,a6,a7,a8,a9,a10,a11⟩:=cd.1 hh
  exfalso
  first|omega|simp_all
 exact cn (v:=.bool false) Z Z ⟨by rw[hv],H.below⟩
 refine ZG<|G (Zf lz Z)<|ZG<|G (Zd am H 0 Z Z Z)<|ZG ?_
 refine du (cO Z Z) Z Z Z (fun h14=> ?_) (fun h14=> ?_)
 refine G (N Z Z)<|G (Yb Z)<|ZN<|ZN<|ZN<|ZN<|ZN<|G (Kt Z Z)<|G (Yb Z)<|ZN<|ZN<|ZN<|ZN<|G (Kt Z Z)<|G (Yb Z)<|ZN<|ZN<|ZN<|G (Kt Z Z)<|G (Yb Z)<|ZN<|ZN<|ZN<|G (Kt Z Z)<|G (Yb Z)<|ZN<|ZN<|ZN<|G (Kt Z Z)<|G (Yb Z)<|ZN<|ZN<|ZN<|ZN<|ZN<|G (Kt Z Z)<|G (Yb Z)<|ZN<|ZN<|ZN ?_
 refine ZN<|ZN<|ZN<|ZN<|ZN<|ZN<|ZN<|ZN<|ZN<|ZN<|G (Kt Z Z)<|U<|ZT Z<|W<|Zr<|G (Wb Z)<|U<|Zt ?_
 have hv:fQ ck nx t=false:=by
  cases hh:fQ ck nx t
  rfl
  obtain⟨a1,a2,a3,a4,a5,a6,a7,a8,a9,a10,a11⟩:=cd.1 hh
  exfalso
  first|omega|simp_all
 exact cn (v:=.bool false) Z Z ⟨by rw[hv],H.below⟩
 refine G (N Z Z)<|G (Yb Z)<|ZG<|G (Zf lz Z)<|ZG<|G (Zd am H 0 Z Z Z)<|ZG<|G (Zf kE Z)<|ZG<|G (Zd am H 1 Z Z Z)<|ZG ?_
 refine du (ku Z Z) Z Z Z (fun h21=> ?_) (fun h21=> ?_)
 refine G (N Z Z)<|G (Yb Z)<|ZN<|ZN<|ZN<|ZN<|G (Kt Z Z)<|G (Yb Z)<|ZN<|ZN<|ZN<|G (Kt Z Z)<|G (Yb Z)<|ZN<|ZN<|ZN<|G (Kt Z Z)<|G (Yb Z)<|ZN<|ZN<|ZN<|G (Kt Z Z)<|G (Yb Z)<|ZN<|ZN<|ZN<|ZN<|ZN<|G (Kt Z Z)<|G (Yb Z)<|ZN<|ZN<|ZN<|ZN<|ZN<|ZN<|ZN<|ZN<|ZN<|ZN ?_
 refine ZN<|ZN<|ZN<|G (Kt Z Z)<|U<|ZT Z<|W<|Zr<|G (Wb Z)<|U<|Zt ?_
 have hv:fQ ck nx t=false:=by
  cases hh:fQ ck nx t
  rfl
  obtain⟨a1,a2,a3,a4,a5,a6,a7,a8,a9,a10,a11⟩:=cd.1 hh
  exfalso
  first|omega|simp_all
 exact cn (v:=.bool false) Z Z ⟨by rw[hv],H.below⟩
 refine G (N Z Z)<|G (Yb Z)<|ZG<|G (Zf gN Z)<|ZG<|G (Zd am H 0 Z Z Z)<|ZG<|cu tV (BH t.ver _) Z Z ?_
 rintro _ w4 ⟨rfl,hb⟩;replace H:=H.later hb;clear hb
 refine ZG<|G (ee Z)<|G (N Z Z)<|G (Yb Z) ?_
 refine nK 29 Z (fun h29=> ?_) (fun h29=> ?_)
 refine ZN<|ZN<|ZN<|G (Kt Z Z)<|G (Yb Z)<|ZN<|ZN<|ZN<|G (Kt Z Z)<|G (Yb Z)<|ZN<|ZN<|ZN<|G (Kt Z Z)<|G (Yb Z)<|ZN<|ZN<|ZN<|ZN<|ZN<|G (Kt Z Z)<|G (Yb Z)<|ZN<|ZN<|ZN<|ZN<|ZN<|ZN<|ZN<|ZN<|ZN<|ZN<|ZN<|ZN<|ZN<|G (Kt Z Z)<|U<|ZT Z<|W<|Zr ?_
 refine G (Wb Z)<|U<|Zt ?_
 have hv:fQ ck nx t=false:=by
  cases hh:fQ ck nx t
  rfl
  obtain⟨a1,a2,a3,a4,a5,a6,a7,a8,a9,a10,a11⟩:=cd.1 hh
  exfalso
  first|omega|simp_all
 exact cn (v:=.bool false) Z Z ⟨by rw[hv],H.below⟩
 refine ZG<|G (Zf cV Z)<|ZG<|G (Zd am H 0 Z Z Z)<|ZG ?_
 refine du (cO Z Z) Z Z Z (fun h32=> ?_) (fun h32=> ?_)
 refine G (N Z Z)<|G (Yb Z)<|ZN<|ZN<|ZN<|G (Kt Z Z)<|G (Yb Z)<|ZN<|ZN<|ZN<|G (Kt Z Z)<|G (Yb Z)<|ZN<|ZN<|ZN<|ZN<|ZN<|G (Kt Z Z)<|G (Yb Z)<|ZN<|ZN<|ZN<|ZN<|ZN<|ZN<|ZN<|ZN<|ZN<|ZN<|ZN<|ZN<|ZN<|G (Kt Z Z)<|U<|ZT Z<|W<|Zr<|G (Wb Z)<|U<|Zt ?_
 have hv:fQ ck nx t=false:=by
  cases hh:fQ ck nx t
  rfl
  obtain⟨a1,a2,a3,a4,a5,a6,a7,a8,a9,a10,a11⟩:=cd.1 hh
  exfalso
  first|omega|simp_all
 exact cn (v:=.bool false) Z Z ⟨by rw[hv],H.below⟩
 refine G (N Z Z)<|G (Yb Z)<|ZG<|G (Zf cV Z)<|ZG<|G (Zd am H 0 Z Z Z)<|ZG ?_
 refine du (lf Z Z) Z Z Z (fun h37=> ?_) (fun h37=> ?_)
 refine G (N Z Z)<|G (Yb Z)<|ZN<|ZN<|ZN<|G (Kt Z Z)<|G (Yb Z)<|ZN<|ZN<|ZN<|ZN<|ZN<|G (Kt Z Z)<|G (Yb Z)<|ZN<|ZN<|ZN<|ZN<|ZN<|ZN<|ZN<|ZN<|ZN<|ZN<|ZN<|ZN<|ZN<|G (Kt Z Z)<|U<|ZT Z<|W<|Zr<|G (Wb Z)<|U<|Zt ?_
 have hv:fQ ck nx t=false:=by
  cases hh:fQ ck nx t
  rfl
  obtain⟨a1,a2,a3,a4,a5,a6,a7,a8,a9,a10,a11⟩:=cd.1 hh
  exfalso
  first|omega|simp_all
 exact cn (v:=.bool false) Z Z ⟨by rw[hv],H.below⟩
 refine G (N Z Z)<|G (Yb Z)<|ZG<|G (Zf uD Z)<|ZG<|G (Zd am H 0 Z Z Z)<|ZG ?_
 refine du (cO Z Z) Z Z Z (fun h42=> ?_) (fun h42=> ?_)
 refine G (N Z Z)<|G (Yb Z)<|ZN<|ZN<|ZN<|ZN<|ZN<|G (Kt Z Z)<|G (Yb Z)<|ZN<|ZN<|ZN<|ZN<|ZN<|ZN<|ZN<|ZN<|ZN<|ZN<|ZN<|ZN<|ZN<|G (Kt Z Z)<|U<|ZT Z<|W<|Zr<|G (Wb Z)<|U<|Zt ?_
 have hv:fQ ck nx t=false:=by
  cases hh:fQ ck nx t
  rfl
  obtain⟨a1,a2,a3,a4,a5,a6,a7,a8,a9,a10,a11⟩:=cd.1 hh
  exfalso
  first|omega|simp_all
 exact cn (v:=.bool false) Z Z ⟨by rw[hv],H.below⟩
 refine G (N Z Z)<|G (Yb Z)<|ZG<|G (Zf uD Z)<|ZG<|G (Zd am H 0 Z Z Z)<|ZG<|G (Zf kF Z)<|ZG<|G (Zd am H 1 Z Z Z)<|ZG ?_
 refine du (lf Z Z) Z Z Z (fun h49=> ?_) (fun h49=> ?_)
 refine G (N Z Z)<|G (Yb Z)<|ZN<|ZN<|ZN<|ZN<|ZN<|ZN<|ZN<|ZN<|ZN<|ZN<|ZN<|ZN<|ZN<|G (Kt Z Z)<|U<|ZT Z<|W<|Zr<|G (Wb Z)<|U<|Zt ?_
 have hv:fQ ck nx t=false:=by
  cases hh:fQ ck nx t
  rfl
  obtain⟨a1,a2,a3,a4,a5,a6,a7,a8,a9,a10,a11⟩:=cd.1 hh
  exfalso
  first|omega|simp_all
 exact cn (v:=.bool false) Z Z ⟨by rw[hv],H.below⟩
 refine G (N Z Z)<|G (Yb Z)<|ZG<|G (Zf jw Z)<|ZG<|G (Zd am H 0 Z Z Z)<|ZG ?_
 refine rM (jk Z Z) Z Z Z (fun h54=> ?_) (fun h54=> ?_)
 refine ZG<|G (Yb Z)<|ZG<|G (Zf jw Z)<|ZG<|G (Zd am H 0 Z Z Z)<|ZG ?_
 refine rM (jk Z Z) Z Z Z (fun h58=> ?_) (fun h58=> ?_)
 refine ZG<|G (Kt Z Z)<|ZG<|G (Yb Z)<|ZG<|G (Zf jw Z)<|ZG<|G (Zd am H 0 Z Z Z)<|ZG ?_
 refine rM (jk Z Z) Z Z Z (fun h63=> ?_) (fun h63=> ?_)
 refine ZG<|G (Kt Z Z)<|G (N Z Z)<|U<|ZT Z<|W<|Zr<|G (Wb Z)<|U<|Zt ?_
 have hv:fQ ck nx t=false:=by
  cases hh:fQ ck nx t
  rfl
  obtain⟨a1,a2,a3,a4,a5,a6,a7,a8,a9,a10,a11⟩:=cd.1 hh
  exfalso
  first|omega|simp_all
 exact cn (v:=.bool false) Z Z ⟨by rw[hv],H.below⟩
 refine ZG<|G (Kt Z Z)<|G (N Z Z)<|U<|ZF Z<|Zk<|W<|W<|Zr<|G (Zf dD Z)<|G (Zd cB H 0 Z Z Z)<|G (bh eT Z)<|G (Yi Z)<|U<|Zb ?_
 refine cf (τ:=Nat×Int) [4,5,6,69,70,71,72,73,74,75,76,77,78,79,80,81,82,83,84,85,86,87,88,89,90,91,92,93,94] (fun(k,_)=>[(69,J (k:Nat))]) (fun(k,last) w'=>k<=t.parts.length/\cW (-1) t.parts=cW last (t.parts.drop k)/\(k=0->last= -1)/\(∀ j,k=j+1->t.parts[j]? =some last)/\ -1<=last/\Hp w w' [(b3,.cells t.c.toArray dH (0,0))] [ey bS 0 w.heap.size t.A t.parts]) (fun(k,_)=>t.parts.length-k) (0,-1) ⟨by omega,by rw[mn],fun _=>rfl,fun j hj=>by omega,by omega,H.forget (pP _ (.cons _ (au _))) (fun _ h=>h)⟩ (dR Z) ?_
 rintro⟨k,last⟩ ρ1 w5 ⟨hk,hpo,hl0,hl1,hl2,H⟩
 show CW _ _ _ _ (dK (ia _ _ ρ1) [(69,J (k:Nat))]) w5
 refine W<|Zr ?_
 refine du (cO Z Z) Z Z Z (fun h70=> ?_) (fun h70=> ?_)
 refine U<|W<|ZT Z<|Zk<|W<|Zb<|W<|Zr<|G (Yi Z)<|qg H 0 Z bj Z Z I I Z fun b6 o6 x6 e6=> ?_
 have hxk:=e6.at_
 have hdrop:=cM hxk
 refine G (bi am Z (e6.cl 0 _ Z))<|G (Wi Z)<|G (Wi Z)<|U<|W<|Zr<|G (Yi Z) ?_
 refine du (cO Z Z) Z Z Z (fun h75=> ?_) (fun h75=> ?_)
 refine G (Yb Z)<|ZN<|ZN<|G (Kt Z Z)<|G (Yb Z)<|ZN<|ZN<|ZN<|ZN<|ZN<|ZN<|ZN<|ZN<|ZN<|ZN<|ZN<|ZN<|G (Kt Z Z)<|U<|ZT Z<|W<|Zr<|G (Wb Z)<|U<|Zt ?_
 have hv:fQ ck nx t=false:=by
  cases hh:fQ ck nx t
  rfl
  obtain⟨a1,a2,a3,a4,a5,a6,a7,a8,a9,a10,a11⟩:=cd.1 hh
  exfalso
  rw[hpo,hdrop]at a10
  simp only[cW,aQ,decide_eq_true_eq]at a10
  obtain⟨⟨q1,q2⟩,-⟩:=a10
  omega
 exact cn (v:=.bool false) Z Z ⟨by rw[hv],H.below⟩
 refine G (Yb Z)<|ZG<|G (Yi Z)<|ZG ?_
 refine du (ku Z Z) Z Z Z (fun h78=> ?_) (fun h78=> ?_)
 refine G (N Z Z)<|G (Yb Z)<|ZN<|ZN<|ZN<|ZN<|ZN<|ZN<|ZN<|ZN<|ZN<|ZN<|ZN<|ZN<|G (Kt Z Z)<|U<|ZT Z<|W<|Zr<|G (Wb Z)<|U<|Zt ?_
 have hv:fQ ck nx t=false:=by
  cases hh:fQ ck nx t
  rfl
  obtain⟨a1,a2,a3,a4,a5,a6,a7,a8,a9,a10,a11⟩:=cd.1 hh
  exfalso
  rw[hpo,hdrop]at a10
  simp only[cW,aQ,decide_eq_true_eq]at a10
  obtain⟨⟨q1,q2⟩,-⟩:=a10
  omega
 exact cn (v:=.bool false) Z Z ⟨by rw[hv],H.below⟩
 refine G (N Z Z)<|G (Yb Z)<|ZG<|G (Yi Z)<|ZG ?_
 refine du (lf Z Z) Z Z Z (fun h82=> ?_) (fun h82=> ?_)
 refine ZG<|G (Yb Z)<|ZG<|G (Zf dD Z)<|ZG<|G (Zd cB H 0 Z Z Z)<|ZG<|G (Yi Z)<|ZG<|G (lX Z Z I I) ?_
 rw[show(k:Int)-1=((k-1:Nat):Int) by omega]
 refine ZG<|qg H 0 Z bj Z Z I I Z fun b7 o7 x7 e7=> ?_
 have hprev:=e7.at_
 refine ZG<|G (bi am Z (e7.cl 0 _ Z))<|ZG<|G (Yi Z)<|ZG ?_
 refine du (ku Z Z) Z Z Z (fun h91=> ?_) (fun h91=> ?_)
 refine ZG<|G (Kt Z Z)<|G (N Z Z)<|U<|ZT Z<|W<|Zr<|G (Wb Z)<|U<|Zt ?_
 have hv:fQ ck nx t=false:=by
  cases hh:fQ ck nx t
  rfl
  obtain⟨a1,a2,a3,a4,a5,a6,a7,a8,a9,a10,a11⟩:=cd.1 hh
  exfalso
  rw[hpo,hdrop]at a10
  simp only[cW,aQ,decide_eq_true_eq]at a10
  obtain⟨⟨q1,q2⟩,-⟩:=a10
  obtain⟨j,rfl⟩: ∃ j,k=j+1:=⟨k-1,by omega⟩;have:=hl1 j Z;rw[show j+1-1=j by omega,this]at hprev;injection hprev with hprev;omega
 exact cn (v:=.bool false) Z Z ⟨by rw[hv],H.below⟩
 refine ZG<|G (Kt Z Z)<|G (N Z Z)<|U<|ZF Z<|Zk<|Zr<|G (bp Z Z I I)<|G (Yi Z)<|U ?_
 have hlt:last<x6:=by
  obtain⟨j,rfl⟩: ∃ j,k=j+1:=⟨k-1,by omega⟩
  have h1:=hl1 j Z
  rw[show j+1-1=j by omega,h1]at hprev
  injection hprev with hprev
  omega
 have h4:x6<4:=by omega
 refine⟨(k+1,x6),⟨by omega,?_,fun h=>by omega,fun j hj=> ?_,by omega,H⟩,dR Z,Qg,by show t.parts.length- (k+1)<t.parts.length-k;omega⟩
 rw[hpo,hdrop];simp only[cW,decide_eq_true hlt,decide_eq_true h4,ig]
 obtain rfl:j=k:=by omega
 exact hxk
 refine ZG<|G (Yb Z)<|ZN<|ZN<|ZN<|ZN<|ZN<|ZN<|ZN<|ZN<|ZG<|G (N Z Z)<|G (N Z Z)<|U<|ZF Z<|Zk<|Zr<|G (bp Z Z I I)<|G (Yi Z)<|U ?_
 have hlt:last<x6:=by
  have:=hl0 I
  omega
 have h4:x6<4:=by omega
 refine⟨(k+1,x6),⟨by omega,?_,fun h=>by omega,fun j hj=> ?_,by omega,H⟩,dR Z,Qg,by show t.parts.length- (k+1)<t.parts.length-k;omega⟩
 rw[hpo,hdrop];simp only[cW,decide_eq_true hlt,decide_eq_true h4,ig]
 obtain rfl:j=k:=by omega
 exact hxk
 have hke:k=t.parts.length:=by omega
 have hall:cW (-1) t.parts=true:=by rw[hpo,hke,fC];rfl
 refine U<|W<|ZF Z<|Zx<|W<|Zr<|G (Zf cV Z)<|G (Zd am H 0 Z Z Z)<|G (bv Z Z)<|G (Zf dD Z)<|G (Zd cB H 0 Z Z Z)<|G (bh eT Z)<|G (bv Z Z)<|G (EU wU Z Z)<|G (Wb Z)<|U<|Zt ?_
 have hv:fQ ck nx t=(decide (t.state=1)==decide ((t.parts.length:Int)=0)):=by
  rw[xV,cd,beq_iff_eq,decide_eq_decide]
  constructor
  rintro⟨-,-,-,-,-,-,-,-,-,-,h⟩
  exact h.trans ⟨fun x=>by omega,fun x=>by omega⟩
  intro h
  exact⟨by simpa using h11,by omega,by omega,by simpa using h29,by omega,by omega,by omega,by omega,by omega,hall,h.trans ⟨fun x=>by omega,fun x=>by omega⟩⟩
 exact cn (v:=.bool (decide (t.state=1)==decide ((t.parts.length:Int)=0))) Z Z ⟨by rw[hv],H.below⟩
 refine ZG<|G (Kt Z Z)<|ZG<|G (Yb Z)<|ZN<|ZN<|ZN<|ZG<|G (N Z Z)<|G (N Z Z)<|U<|ZF Z<|Zk<|W<|W<|Zr<|G (Zf dD Z)<|G (Zd cB H 0 Z Z Z)<|G (bh eT Z)<|G (Yi Z)<|U<|Zb ?_
 refine cf (τ:=Nat×Int) [4,5,6,69,70,71,72,73,74,75,76,77,78,79,80,81,82,83,84,85,86,87,88,89,90,91,92,93,94] (fun(k,_)=>[(69,J (k:Nat))]) (fun(k,last) w'=>k<=t.parts.length/\cW (-1) t.parts=cW last (t.parts.drop k)/\(k=0->last= -1)/\(∀ j,k=j+1->t.parts[j]? =some last)/\ -1<=last/\Hp w w' [(b3,.cells t.c.toArray dH (0,0))] [ey bS 0 w.heap.size t.A t.parts]) (fun(k,_)=>t.parts.length-k) (0,-1) ⟨by omega,by rw[mn],fun _=>rfl,fun j hj=>by omega,by omega,H.forget (pP _ (.cons _ (au _))) (fun _ h=>h)⟩ (dR Z) ?_
 rintro⟨k,last⟩ ρ1 w8 ⟨hk,hpo,hl0,hl1,hl2,H⟩
 show CW _ _ _ _ (dK (ia _ _ ρ1) [(69,J (k:Nat))]) w8
 refine W<|Zr ?_
 refine du (cO Z Z) Z Z Z (fun h70=> ?_) (fun h70=> ?_)
 refine U<|W<|ZT Z<|Zk<|W<|Zb<|W<|Zr<|G (Yi Z)<|qg H 0 Z bj Z Z I I Z fun b9 o9 x9 e9=> ?_
 have hxk:=e9.at_
 have hdrop:=cM hxk
 refine G (bi am Z (e9.cl 0 _ Z))<|G (Wi Z)<|G (Wi Z)<|U<|W<|Zr<|G (Yi Z) ?_
 refine du (cO Z Z) Z Z Z (fun h75=> ?_) (fun h75=> ?_)
 refine G (Yb Z)<|ZN<|ZN<|G (Kt Z Z)<|G (Yb Z)<|ZN<|ZN<|ZN<|ZN<|ZN<|ZN<|ZN<|ZN<|ZN<|ZN<|ZN<|ZN<|G (Kt Z Z)<|U<|ZT Z<|W<|Zr<|G (Wb Z)<|U<|Zt ?_
 have hv:fQ ck nx t=false:=by
  cases hh:fQ ck nx t
  rfl
  obtain⟨a1,a2,a3,a4,a5,a6,a7,a8,a9,a10,a11⟩:=cd.1 hh
  exfalso
  rw[hpo,hdrop]at a10
  simp only[cW,aQ,decide_eq_true_eq]at a10
  obtain⟨⟨q1,q2⟩,-⟩:=a10
  omega
 exact cn (v:=.bool false) Z Z ⟨by rw[hv],H.below⟩
 refine G (Yb Z)<|ZG<|G (Yi Z)<|ZG ?_
 refine du (ku Z Z) Z Z Z (fun h78=> ?_) (fun h78=> ?_)
 refine G (N Z Z)<|G (Yb Z)<|ZN<|ZN<|ZN<|ZN<|ZN<|ZN<|ZN<|ZN<|ZN<|ZN<|ZN<|ZN<|G (Kt Z Z)<|U<|ZT Z<|W<|Zr<|G (Wb Z)<|U<|Zt ?_
 have hv:fQ ck nx t=false:=by
  cases hh:fQ ck nx t
  rfl
  obtain⟨a1,a2,a3,a4,a5,a6,a7,a8,a9,a10,a11⟩:=cd.1 hh
  exfalso
  rw[hpo,hdrop]at a10
  simp only[cW,aQ,decide_eq_true_eq]at a10
  obtain⟨⟨q1,q2⟩,-⟩:=a10
  omega
 exact cn (v:=.bool false) Z Z ⟨by rw[hv],H.below⟩
 refine G (N Z Z)<|G (Yb Z)<|ZG<|G (Yi Z)<|ZG ?_
 refine du (lf Z Z) Z Z Z (fun h82=> ?_) (fun h82=> ?_)
 refine ZG<|G (Yb Z)<|ZG<|G (Zf dD Z)<|ZG<|G (Zd cB H 0 Z Z Z)<|ZG<|G (Yi Z)<|ZG<|G (lX Z Z I I) ?_
 rw[show(k:Int)-1=((k-1:Nat):Int) by omega]
 refine ZG<|qg H 0 Z bj Z Z I I Z fun b10 o10 x10 e10=> ?_
 have hprev:=e10.at_
 refine ZG<|G (bi am Z (e10.cl 0 _ Z))<|ZG<|G (Yi Z)<|ZG ?_
 refine du (ku Z Z) Z Z Z (fun h91=> ?_) (fun h91=> ?_)
 refine ZG<|G (Kt Z Z)<|G (N Z Z)<|U<|ZT Z<|W<|Zr<|G (Wb Z)<|U<|Zt ?_
 have hv:fQ ck nx t=false:=by
  cases hh:fQ ck nx t
  rfl
  obtain⟨a1,a2,a3,a4,a5,a6,a7,a8,a9,a10,a11⟩:=cd.1 hh
  exfalso
  rw[hpo,hdrop]at a10
  simp only[cW,aQ,decide_eq_true_eq]at a10
  obtain⟨⟨q1,q2⟩,-⟩:=a10
  obtain⟨j,rfl⟩: ∃ j,k=j+1:=⟨k-1,by omega⟩;have:=hl1 j Z;rw[show j+1-1=j by omega,this]at hprev;injection hprev with hprev;omega
 exact cn (v:=.bool false) Z Z ⟨by rw[hv],H.below⟩
 refine ZG<|G (Kt Z Z)<|G (N Z Z)<|U<|ZF Z<|Zk<|Zr<|G (bp Z Z I I)<|G (Yi Z)<|U ?_
 have hlt:last<x9:=by
  obtain⟨j,rfl⟩: ∃ j,k=j+1:=⟨k-1,by omega⟩
  have h1:=hl1 j Z
  rw[show j+1-1=j by omega,h1]at hprev
  injection hprev with hprev
  omega
 have h4:x9<4:=by omega
 refine⟨(k+1,x9),⟨by omega,?_,fun h=>by omega,fun j hj=> ?_,by omega,H⟩,dR Z,Qg,by show t.parts.length- (k+1)<t.parts.length-k;omega⟩
 rw[hpo,hdrop];simp only[cW,decide_eq_true hlt,decide_eq_true h4,ig]
 obtain rfl:j=k:=by omega
 exact hxk
 refine ZG<|G (Yb Z)<|ZN<|ZN<|ZN<|ZN<|ZN<|ZN<|ZN<|ZN<|ZG<|G (N Z Z)<|G (N Z Z)<|U<|ZF Z<|Zk<|Zr<|G (bp Z Z I I)<|G (Yi Z)<|U ?_
 have hlt:last<x9:=by
  have:=hl0 I
  omega
 have h4:x9<4:=by omega
 refine⟨(k+1,x9),⟨by omega,?_,fun h=>by omega,fun j hj=> ?_,by omega,H⟩,dR Z,Qg,by show t.parts.length- (k+1)<t.parts.length-k;omega⟩
 rw[hpo,hdrop];simp only[cW,decide_eq_true hlt,decide_eq_true h4,ig]
 obtain rfl:j=k:=by omega
 exact hxk
 have hke:k=t.parts.length:=by omega
 have hall:cW (-1) t.parts=true:=by rw[hpo,hke,fC];rfl
 refine U<|W<|ZF Z<|Zx<|W<|Zr<|G (Zf cV Z)<|G (Zd am H 0 Z Z Z)<|G (bv Z Z)<|G (Zf dD Z)<|G (Zd cB H 0 Z Z Z)<|G (bh eT Z)<|G (bv Z Z)<|G (EU wU Z Z)<|G (Wb Z)<|U<|Zt ?_
 have hv:fQ ck nx t=(decide (t.state=1)==decide ((t.parts.length:Int)=0)):=by
  rw[xV,cd,beq_iff_eq,decide_eq_decide]
  constructor
  rintro⟨-,-,-,-,-,-,-,-,-,-,h⟩
  exact h.trans ⟨fun x=>by omega,fun x=>by omega⟩
  intro h
  exact⟨by simpa using h11,by omega,by omega,by simpa using h29,by omega,by omega,by omega,by omega,by omega,hall,h.trans ⟨fun x=>by omega,fun x=>by omega⟩⟩
 exact cn (v:=.bool (decide (t.state=1)==decide ((t.parts.length:Int)=0))) Z Z ⟨by rw[hv],H.below⟩
 refine ZG<|G (Yb Z)<|ZN<|ZN<|ZN<|ZG<|G (N Z Z)<|ZG<|G (Yb Z)<|ZN<|ZN<|ZN<|ZG<|G (N Z Z)<|G (N Z Z)<|U<|ZF Z<|Zk<|W<|W<|Zr<|G (Zf dD Z)<|G (Zd cB H 0 Z Z Z)<|G (bh eT Z)<|G (Yi Z)<|U<|Zb ?_
 refine cf (τ:=Nat×Int) [4,5,6,69,70,71,72,73,74,75,76,77,78,79,80,81,82,83,84,85,86,87,88,89,90,91,92,93,94] (fun(k,_)=>[(69,J (k:Nat))]) (fun(k,last) w'=>k<=t.parts.length/\cW (-1) t.parts=cW last (t.parts.drop k)/\(k=0->last= -1)/\(∀ j,k=j+1->t.parts[j]? =some last)/\ -1<=last/\Hp w w' [(b3,.cells t.c.toArray dH (0,0))] [ey bS 0 w.heap.size t.A t.parts]) (fun(k,_)=>t.parts.length-k) (0,-1) ⟨by omega,by rw[mn],fun _=>rfl,fun j hj=>by omega,by omega,H.forget (pP _ (.cons _ (au _))) (fun _ h=>h)⟩ (dR Z) ?_
 rintro⟨k,last⟩ ρ1 w11 ⟨hk,hpo,hl0,hl1,hl2,H⟩
 show CW _ _ _ _ (dK (ia _ _ ρ1) [(69,J (k:Nat))]) w11
 refine W<|Zr ?_
 refine du (cO Z Z) Z Z Z (fun h70=> ?_) (fun h70=> ?_)
 refine U<|W<|ZT Z<|Zk<|W<|Zb<|W<|Zr<|G (Yi Z)<|qg H 0 Z bj Z Z I I Z fun b12 o12 x12 e12=> ?_
 have hxk:=e12.at_
 have hdrop:=cM hxk
 refine G (bi am Z (e12.cl 0 _ Z))<|G (Wi Z)<|G (Wi Z)<|U<|W<|Zr<|G (Yi Z) ?_
 refine du (cO Z Z) Z Z Z (fun h75=> ?_) (fun h75=> ?_)
 refine G (Yb Z)<|ZN<|ZN<|G (Kt Z Z)<|G (Yb Z)<|ZN<|ZN<|ZN<|ZN<|ZN<|ZN<|ZN<|ZN<|ZN<|ZN<|ZN<|ZN<|G (Kt Z Z)<|U<|ZT Z<|W<|Zr<|G (Wb Z)<|U<|Zt ?_
 have hv:fQ ck nx t=false:=by
  cases hh:fQ ck nx t
  rfl
  obtain⟨a1,a2,a3,a4,a5,a6,a7,a8,a9,a10,a11⟩:=cd.1 hh
  exfalso
  rw[hpo,hdrop]at a10
  simp only[cW,aQ,decide_eq_true_eq]at a10
  obtain⟨⟨q1,q2⟩,-⟩:=a10
  omega
 exact cn (v:=.bool false) Z Z ⟨by rw[hv],H.below⟩
 refine G (Yb Z)<|ZG<|G (Yi Z)<|ZG ?_
 refine du (ku Z Z) Z Z Z (fun h78=> ?_) (fun h78=> ?_)
 refine G (N Z Z)<|G (Yb Z)<|ZN<|ZN<|ZN<|ZN<|ZN<|ZN<|ZN<|ZN<|ZN<|ZN<|ZN<|ZN<|G (Kt Z Z)<|U<|ZT Z<|W<|Zr<|G (Wb Z)<|U<|Zt ?_
 have hv:fQ ck nx t=false:=by
  cases hh:fQ ck nx t
  rfl
  obtain⟨a1,a2,a3,a4,a5,a6,a7,a8,a9,a10,a11⟩:=cd.1 hh
  exfalso
  rw[hpo,hdrop]at a10
  simp only[cW,aQ,decide_eq_true_eq]at a10
  obtain⟨⟨q1,q2⟩,-⟩:=a10
  omega
 exact cn (v:=.bool false) Z Z ⟨by rw[hv],H.below⟩
 refine G (N Z Z)<|G (Yb Z)<|ZG<|G (Yi Z)<|ZG ?_
 refine du (lf Z Z) Z Z Z (fun h82=> ?_) (fun h82=> ?_)
 refine ZG<|G (Yb Z)<|ZG<|G (Zf dD Z)<|ZG<|G (Zd cB H 0 Z Z Z)<|ZG<|G (Yi Z)<|ZG<|G (lX Z Z I I) ?_
 rw[show(k:Int)-1=((k-1:Nat):Int) by omega]
 refine ZG<|qg H 0 Z bj Z Z I I Z fun b13 o13 x13 e13=> ?_
 have hprev:=e13.at_
 refine ZG<|G (bi am Z (e13.cl 0 _ Z))<|ZG<|G (Yi Z)<|ZG ?_
 refine du (ku Z Z) Z Z Z (fun h91=> ?_) (fun h91=> ?_)
 refine ZG<|G (Kt Z Z)<|G (N Z Z)<|U<|ZT Z<|W<|Zr<|G (Wb Z)<|U<|Zt ?_
 have hv:fQ ck nx t=false:=by
  cases hh:fQ ck nx t
  rfl
  obtain⟨a1,a2,a3,a4,a5,a6,a7,a8,a9,a10,a11⟩:=cd.1 hh
  exfalso
  rw[hpo,hdrop]at a10
  simp only[cW,aQ,decide_eq_true_eq]at a10
  obtain⟨⟨q1,q2⟩,-⟩:=a10
  obtain⟨j,rfl⟩: ∃ j,k=j+1:=⟨k-1,by omega⟩;have:=hl1 j Z;rw[show j+1-1=j by omega,this]at hprev;injection hprev with hprev;omega
 exact cn (v:=.bool false) Z Z ⟨by rw[hv],H.below⟩
 refine ZG<|G (Kt Z Z)<|G (N Z Z)<|U<|ZF Z<|Zk<|Zr<|G (bp Z Z I I)<|G (Yi Z)<|U ?_
 have hlt:last<x12:=by
  obtain⟨j,rfl⟩: ∃ j,k=j+1:=⟨k-1,by omega⟩
  have h1:=hl1 j Z
  rw[show j+1-1=j by omega,h1]at hprev
  injection hprev with hprev
  omega
 have h4:x12<4:=by omega
 refine⟨(k+1,x12),⟨by omega,?_,fun h=>by omega,fun j hj=> ?_,by omega,H⟩,dR Z,Qg,by show t.parts.length- (k+1)<t.parts.length-k;omega⟩
 rw[hpo,hdrop];simp only[cW,decide_eq_true hlt,decide_eq_true h4,ig]
 obtain rfl:j=k:=by omega
 exact hxk
 refine ZG<|G (Yb Z)<|ZN<|ZN<|ZN<|ZN<|ZN<|ZN<|ZN<|ZN<|ZG<|G (N Z Z)<|G (N Z Z)<|U<|ZF Z<|Zk<|Zr<|G (bp Z Z I I)<|G (Yi Z)<|U ?_
 have hlt:last<x12:=by
  have:=hl0 I
  omega
 have h4:x12<4:=by omega
 refine⟨(k+1,x12),⟨by omega,?_,fun h=>by omega,fun j hj=> ?_,by omega,H⟩,dR Z,Qg,by show t.parts.length- (k+1)<t.parts.length-k;omega⟩
 rw[hpo,hdrop];simp only[cW,decide_eq_true hlt,decide_eq_true h4,ig]
 obtain rfl:j=k:=by omega
 exact hxk
 have hke:k=t.parts.length:=by omega
 have hall:cW (-1) t.parts=true:=by rw[hpo,hke,fC];rfl
 refine U<|W<|ZF Z<|Zx<|W<|Zr<|G (Zf cV Z)<|G (Zd am H 0 Z Z Z)<|G (bv Z Z)<|G (Zf dD Z)<|G (Zd cB H 0 Z Z Z)<|G (bh eT Z)<|G (bv Z Z)<|G (EU wU Z Z)<|G (Wb Z)<|U<|Zt ?_
 have hv:fQ ck nx t=(decide (t.state=1)==decide ((t.parts.length:Int)=0)):=by
  rw[xV,cd,beq_iff_eq,decide_eq_decide]
  constructor
  rintro⟨-,-,-,-,-,-,-,-,-,-,h⟩
  exact h.trans ⟨fun x=>by omega,fun x=>by omega⟩
  intro h
  exact⟨by simpa using h11,by omega,by omega,by simpa using h29,by omega,by omega,by omega,by omega,by omega,hall,h.trans ⟨fun x=>by omega,fun x=>by omega⟩⟩
 exact cn (v:=.bool (decide (t.state=1)==decide ((t.parts.length:Int)=0))) Z Z ⟨by rw[hv],H.below⟩
/-- a coordinator, and where its rows lie -/
structure Co where
 clock:Int
 next:Int
 wait:Int
 txs:List Tx
 A:Option Addr
 cap:Nat
def Co.c (c:Co):List Value:=[J c.clock,J c.next,J c.wait,.slice c.A c.txs.length c.cap]
abbrev Co.v (c:Co):Value:=.agg c.c.toArray
def iU (lo hi:Nat) (txs:List Tx):ce:=⟨lo,hi,fun w=> ∀ t∈txs,Rd bS lo hi t.A t.parts w,fun _ _ hk h t ht=>(h t ht).st hk⟩
theorem fF {w0 w:World} {L:List (Nat×Obj)} {F:List ce} {lo hi:Nat} {txs:List Tx} (H:Hp w0 w L F) (i:Nat) (hF:F[i]? =some (iU lo hi txs)) {t:Tx} (ht:t∈txs):Rd bS 0 w.heap.size t.A t.parts w:=
 Rd.mono ((H.fact hF) t ht) (bN _) (H.facts _ (ab hF)).2.1
def tb (t:Tx) (p:Tx):Bool:=decide (p.name=t.name)||decide (p.pid=t.pid)
def oq (ck nx:Int):List Tx->List Tx->Bool
 |_,[]=>true
 |pre,t::l=>fQ ck nx t&&!(pre.any (tb t))&&oq ck nx (pre++[t]) l
def gU (c:Co):Bool:=iP c.clock&&decide (1<=c.next)&&decide (c.next<=1073741824)&&decide (1<=c.wait)&&decide (c.wait<=1000)&&decide ((c.txs.length:Int)<=8)&&oq c.clock c.next [] c.txs
theorem je {c:Co}:gU c=true↔iP c.clock=true/\1<=c.next/\c.next<=1073741824/\1<=c.wait/\c.wait<=1000/\(c.txs.length:Int)<=8/\oq c.clock c.next [] c.txs=true:=by
 unfold gU
 simp only[aQ,decide_eq_true_eq,and_assoc]
structure Co.rd (c:Co) (lo hi:Nat) (w:World):Prop where
 row:Rd sr lo hi c.A c.txs w
 parts: ∀ t∈c.txs,Rd bS lo hi t.A t.parts w
 cap:c.txs.length<=c.cap
 few:c.txs.length<=1000000
 fewP: ∀ t∈c.txs,t.parts.length<=1000000/\t.parts.length<=t.cap
theorem Hp.startCo {c:Co} {w:World} (h:c.rd 0 w.heap.size w):Hp w w [] [ey sr 0 w.heap.size c.A c.txs,iU 0 w.heap.size c.txs]:=
 ((Hp.start w).learnOld (iU 0 w.heap.size c.txs) h.parts (ao _)).learnOld (ey sr 0 w.heap.size c.A c.txs) h.row (ao _)
theorem qE (c:Co) (w:World) (h:c.rd 0 w.heap.size w):dt aa Cj [c.v] w fun v w2=>v=J (if gU c then 0 else 12)/\Below w.heap.size w w2:=by
 refine aG Bt Z Z ?_
 have hcap:=h.cap
 have hfew:=h.few
 have hfp:=h.fewP
 have H:=Hp.startCo h
 obtain⟨ck,nx,wt,txs,cA,cc⟩:=c
 dsimp only at hcap hfew hfp H
 show CW _ _ _ _ (args [.agg #[J ck,J nx,J wt,.slice cA txs.length cc]]) w
 refine W<|Zr<|gY H Z Z fun w1 b1 H=>G (Wi Z)<|U<|W<|W<|Zr<|G (Zf kF Z)<|G (Zd am H 0 Z Z Z)<|cu tV (BH ck _) Z Z ?_
 rintro _ w2 ⟨rfl,hb⟩;replace H:=H.later hb;clear hb
 refine G (ee Z)<|G (Yb Z) ?_
 refine nK 9 Z (fun h9=> ?_) (fun h9=> ?_)
 refine ZN<|ZN<|ZN<|G (Kt Z Z)<|G (Yb Z)<|ZN<|ZN<|ZN<|G (Kt Z Z)<|G (Yb Z)<|ZN<|ZN<|ZN<|G (Kt Z Z)<|G (Yb Z)<|ZN<|ZN<|ZN<|G (Kt Z Z)<|G (Yb Z)<|ZN<|ZN<|ZN<|ZN<|G (Kt Z Z)<|U<|ZT Z<|W<|Zr<|G (Wi Z)<|U<|Zt ?_
 have hv:gU ⟨ck,nx,wt,txs,cA,cc⟩=false:=by
  cases hh:gU ⟨ck,nx,wt,txs,cA,cc⟩
  rfl
  obtain⟨a1,a2,a3,a4,a5,a6,a7⟩:=je.1 hh
  dsimp only at a1 a2 a3 a4 a5 a6 a7
  exfalso
  first|omega|simp_all
 exact cn (v:=J 12) Z Z ⟨by rw[hv];rfl,H.below⟩
 refine ZG<|G (Zf kE Z)<|ZG<|G (Zd am H 0 Z Z Z)<|ZG ?_
 refine du (cO Z Z) Z Z Z (fun h12=> ?_) (fun h12=> ?_)
 refine G (N Z Z)<|G (Yb Z)<|ZN<|ZN<|ZN<|G (Kt Z Z)<|G (Yb Z)<|ZN<|ZN<|ZN<|G (Kt Z Z)<|G (Yb Z)<|ZN<|ZN<|ZN<|G (Kt Z Z)<|G (Yb Z)<|ZN<|ZN<|ZN<|ZN<|G (Kt Z Z)<|U<|ZT Z<|W<|Zr<|G (Wi Z)<|U<|Zt ?_
 have hv:gU ⟨ck,nx,wt,txs,cA,cc⟩=false:=by
  cases hh:gU ⟨ck,nx,wt,txs,cA,cc⟩
  rfl
  obtain⟨a1,a2,a3,a4,a5,a6,a7⟩:=je.1 hh
  dsimp only at a1 a2 a3 a4 a5 a6 a7
  exfalso
  first|omega|simp_all
 exact cn (v:=J 12) Z Z ⟨by rw[hv];rfl,H.below⟩
 refine G (N Z Z)<|G (Yb Z)<|ZG<|G (Zf kE Z)<|ZG<|G (Zd am H 0 Z Z Z)<|ZG ?_
 refine du (lf Z Z) Z Z Z (fun h17=> ?_) (fun h17=> ?_)
 refine G (N Z Z)<|G (Yb Z)<|ZN<|ZN<|ZN<|G (Kt Z Z)<|G (Yb Z)<|ZN<|ZN<|ZN<|G (Kt Z Z)<|G (Yb Z)<|ZN<|ZN<|ZN<|ZN<|G (Kt Z Z)<|U<|ZT Z<|W<|Zr<|G (Wi Z)<|U<|Zt ?_
 have hv:gU ⟨ck,nx,wt,txs,cA,cc⟩=false:=by
  cases hh:gU ⟨ck,nx,wt,txs,cA,cc⟩
  rfl
  obtain⟨a1,a2,a3,a4,a5,a6,a7⟩:=je.1 hh
  dsimp only at a1 a2 a3 a4 a5 a6 a7
  exfalso
  first|omega|simp_all
 exact cn (v:=J 12) Z Z ⟨by rw[hv];rfl,H.below⟩
 refine G (N Z Z)<|G (Yb Z)<|ZG<|G (Zf wE Z)<|ZG<|G (Zd am H 0 Z Z Z)<|ZG ?_
 refine du (cO Z Z) Z Z Z (fun h22=> ?_) (fun h22=> ?_)
 refine G (N Z Z)<|G (Yb Z)<|ZN<|ZN<|ZN<|G (Kt Z Z)<|G (Yb Z)<|ZN<|ZN<|ZN<|ZN<|G (Kt Z Z)<|U<|ZT Z<|W<|Zr<|G (Wi Z)<|U<|Zt ?_
 have hv:gU ⟨ck,nx,wt,txs,cA,cc⟩=false:=by
  cases hh:gU ⟨ck,nx,wt,txs,cA,cc⟩
  rfl
  obtain⟨a1,a2,a3,a4,a5,a6,a7⟩:=je.1 hh
  dsimp only at a1 a2 a3 a4 a5 a6 a7
  exfalso
  first|omega|simp_all
 exact cn (v:=J 12) Z Z ⟨by rw[hv];rfl,H.below⟩
 refine G (N Z Z)<|G (Yb Z)<|ZG<|G (Zf wE Z)<|ZG<|G (Zd am H 0 Z Z Z)<|ZG ?_
 refine du (lf Z Z) Z Z Z (fun h27=> ?_) (fun h27=> ?_)
 refine G (N Z Z)<|G (Yb Z)<|ZN<|ZN<|ZN<|ZN<|G (Kt Z Z)<|U<|ZT Z<|W<|Zr<|G (Wi Z)<|U<|Zt ?_
 have hv:gU ⟨ck,nx,wt,txs,cA,cc⟩=false:=by
  cases hh:gU ⟨ck,nx,wt,txs,cA,cc⟩
  rfl
  obtain⟨a1,a2,a3,a4,a5,a6,a7⟩:=je.1 hh
  dsimp only at a1 a2 a3 a4 a5 a6 a7
  exfalso
  first|omega|simp_all
 exact cn (v:=J 12) Z Z ⟨by rw[hv];rfl,H.below⟩
 refine G (N Z Z)<|G (Yb Z)<|ZG<|G (Zf cP Z)<|ZG<|G (Zd dN H 0 Z Z Z)<|ZG<|G (bh lx Z)<|ZG ?_
 refine du (lf Z Z) Z Z Z (fun h33=> ?_) (fun h33=> ?_)
 refine G (N Z Z)<|U<|ZT Z<|W<|Zr<|G (Wi Z)<|U<|Zt ?_
 have hv:gU ⟨ck,nx,wt,txs,cA,cc⟩=false:=by
  cases hh:gU ⟨ck,nx,wt,txs,cA,cc⟩
  rfl
  obtain⟨a1,a2,a3,a4,a5,a6,a7⟩:=je.1 hh
  dsimp only at a1 a2 a3 a4 a5 a6 a7
  exfalso
  first|omega|simp_all
 exact cn (v:=J 12) Z Z ⟨by rw[hv];rfl,H.below⟩
 refine G (N Z Z)<|U<|ZF Z<|Zk<|W<|W<|Zr<|G (Zf cP Z)<|G (Zd dN H 0 Z Z Z)<|G (bh lx Z)<|G (Yi Z)<|U<|Zb ?_
 refine cf (τ:=Nat) [2,3,4,38,39,40,41,42,43,44,45,46,47,48,49,50,51,52,53,54,55] (fun k=>[(38,J (k:Nat))]) (fun k w'=>k<=txs.length/\oq ck nx [] txs=oq ck nx (txs.take k) (txs.drop k)/\Hp w w' [(b1,.cells #[J ck,J nx,J wt,.slice cA txs.length cc] aX (0,0))] [ey sr 0 w.heap.size cA txs,iU 0 w.heap.size txs]) (fun k=>txs.length-k) 0 ⟨by omega,by rw[mn,zn],H⟩ (dR Z) ?_
 rintro k ρ1 w3 ⟨hk,hto,H⟩
 show CW _ _ _ _ (dK (ia _ _ ρ1) [(38,J (k:Nat))]) w3
 refine W<|Zr ?_
 refine du (cO Z Z) Z Z Z (fun h39=> ?_) (fun h39=> ?_)
 refine U<|W<|ZT Z<|Zk<|W<|Zb<|W<|Zr<|G (Yi Z)<|qg H 0 Z gW Z Z I I Z fun b4 o4 x4 e4=> ?_
 have hxk:=e4.at_
 have hdrop:=cM hxk
 refine G (ka (xs:=Tx.c x4) zY Z Z e4.cl)<|fc H Ij Z fun w5 b4 H=>G (Wi Z)<|Lj H 0 Ir Z Z Z Z Z Z fun w6 H=>U<|W<|Zr<|G (Zw ax H 1 Z Z Z)<|G (Zw zY H 0 Z Z Z)<|cu EQ (Pf ck nx wt cA txs.length cc x4 _ (fF H 1 Z (ab hxk)) (hfp _ (ab hxk)).1) Z Z ?_
 rintro _ w7 ⟨rfl,hb⟩;replace H:=H.later hb;clear hb
 refine G (ee Z)<|G (Yb Z) ?_
 refine nK 47 Z (fun h47=> ?_) (fun h47=> ?_)
 refine ZN<|ZN<|ZN<|ZN<|ZN<|ZN<|G (Kt Z Z)<|U<|ZT Z<|W<|Zr<|G (Wi Z)<|U<|Zt ?_
 have hv:gU ⟨ck,nx,wt,txs,cA,cc⟩=false:=by
  cases hh:gU ⟨ck,nx,wt,txs,cA,cc⟩
  rfl
  obtain⟨a1,a2,a3,a4,a5,a6,a7⟩:=je.1 hh
  dsimp only at a1 a2 a3 a4 a5 a6 a7
  exfalso
  rw[hto,hdrop]at a7
  simp only[oq,aQ]at a7
  obtain⟨⟨q1,q2⟩,-⟩:=a7
  rw[pQ]at q2
  first|(rw[q2]at hc54;cases hc54)|simp_all
 exact cn (v:=J 12) Z Z ⟨by rw[hv];rfl,H.below⟩
 refine ZG<|G (Zf cP Z)<|ZG<|G (Zd dN H 1 Z Z Z)<|ZG<|G (Yi Z)<|ZG<|wd (k:=k) H 0 Z gW Z Z hcap I Z fun A51 H=> ?_
 have htl:(txs.take k).length=k:=by rw[aD];omega
 refine ZG<|G (AE Z)<|ZG ?_
 have hC:=fun q=>vx (txs.take k) A51 q _ (H.rd0 0 Z) I sO [.pointer (Qd b4)] xJ (tb x4) (fun e w2 _ hw2=>Gx e x4 b4 w2 ((hw2.block _ (bV (H.ent (i:=0) Z))).trans (H.ent (i:=0) Z)))
 rw[htl]at hC
 replace hC:=hC cc
 refine cu nu (hC) Z Z ?_
 rintro _ w8 ⟨rfl,hb⟩;replace H:=H.later hb;clear hb
 refine G (N Z Z)<|U ?_
 refine kI Z (fun hc54=> ?_) (fun hc54=> ?_)
 refine W<|Zr<|G (Wi Z)<|U<|Zt ?_
 have hv:gU ⟨ck,nx,wt,txs,cA,cc⟩=false:=by
  cases hh:gU ⟨ck,nx,wt,txs,cA,cc⟩
  rfl
  obtain⟨a1,a2,a3,a4,a5,a6,a7⟩:=je.1 hh
  dsimp only at a1 a2 a3 a4 a5 a6 a7
  exfalso
  rw[hto,hdrop]at a7
  simp only[oq,aQ]at a7
  obtain⟨⟨q1,q2⟩,-⟩:=a7
  rw[pQ]at q2
  first|(rw[q2]at hc54;cases hc54)|simp_all
 exact cn (v:=J 12) Z Z ⟨by rw[hv];rfl,H.below⟩
 refine Zk<|Zr<|G (bp Z Z I I)<|G (Yi Z)<|U ?_
 refine⟨k+1,⟨by omega,?_,H.forget (.cons _ (au _)) (fun _ h=>ai _ h)⟩,dR Z,Qg,by show txs.length- (k+1)<txs.length-k;omega⟩
 rw[hto,hdrop,d6 hxk]
 simp only[oq]
 simp_all
 have hke:k=txs.length:=by omega
 have hall:oq ck nx [] txs=true:=by rw[hto,hke,fC];rfl
 refine U<|W<|ZF Z<|Zx<|W<|Zr<|G (Wi Z)<|U<|Zt ?_
 have hv:gU ⟨ck,nx,wt,txs,cA,cc⟩=true:=je.2 ⟨by simpa using h9,by dsimp only;omega,by dsimp only;omega,by dsimp only;omega,by dsimp only;omega,by dsimp only;omega,hall⟩
 exact cn (v:=J 0) Z Z ⟨by rw[hv];rfl,H.below⟩
def Tx.a (t:Tx):Tx:={t with A:=none,cap:=0}
theorem i4 {α:Type} {l:List α} {k:Nat} {a:α} (h:l[k]? =some a):l.set k a=l:=by
 apply dZ
 intro i
 rw[lI]
 split
 rename_i hi
 subst hi
 split
 exact h.symm
 rename_i h2;rw[bX I]
 rfl
theorem K7 {α:Type} {l:List α} {k:Nat} (h:k<l.length) (a:α):(l.set k a).take (k+1)=l.take k++[a]:=by
 rw[d6 (e:=a) (by rw[al h]),zZ (ao k)]
theorem Dz {out txs:List Tx} {k:Nat} {x x':Tx} (hx:out[k]? =some x) (hma:out.map Tx.a=txs.map Tx.a) (hdr:out.drop k=txs.drop k) (ha:x'.a=x.a):(out.set k x').map Tx.a=txs.map Tx.a/\(out.set k x').drop (k+1)=txs.drop (k+1)/\(out.set k x').take (k+1)=out.take k++[x']:=by
 refine⟨?_,?_,K7 (cy hx).1 x'⟩
 rw[cU,ha,<-hma]
 exact i4 (by rw[aI,hx];rfl)
 rw[sV I]
 have:=congrArg (List.drop 1) hdr
 rwa[ke,ke]at this
def Co.a (c:Co):Co:={c with txs:=c.txs.map Tx.a,A:=none,cap:=0}
theorem Hp.joinParts {w0 w:World} {L:List (Nat×Obj)} {F:List ce} {a b lo hi:Nat} {ts:List Tx} {t:Tx} (H:Hp w0 w L (ey bS a b t.A t.parts::iU lo hi ts::F)) (hL: ∀ e∈L,e.1<lo) (hlo:lo<=a) (hhi:hi<=b):Hp w0 w L (iU lo b (ts++[t])::F):=by
 refine⟨H.below,H.ents,H.nodup,fun f hf=> ?_⟩
 rcases av.1 hf with rfl|hf
 have h1:=H.facts _ (az ..)
 have h2:=H.facts _ (ai _ (az ..))
 refine⟨fun x hx=> ?_,h1.2.1,fun e he=> .inl (hL e he)⟩
 rcases ap.1 hx with hx|hx
 exact Rd.mono (h2.1 x hx) (ao _) hhi
 rw[ar.1 hx]
 exact Rd.mono (lo':=lo) (hi':=b) (show Rd bS a b t.A t.parts w from h1.1) hlo (ao _)
 exact H.facts f (ai _ (ai _ hf))
theorem JI {w0 w:World} {L:List (Nat×Obj)} {F:List ce} (H:Hp w0 w L F) (lo:Nat) (hlo: ∀ e∈L,e.1<lo) (h:lo<=w.heap.size):Hp w0 w L (iU lo lo []::F):=by
 refine⟨H.below,H.ents,H.nodup,fun f hf=> ?_⟩
 rcases av.1 hf with rfl|hf
 exact⟨fun x hx=>absurd hx (by simp),h,fun e he=> .inl (hlo e he)⟩
 exact H.facts f hf
theorem xF (es:List Tx) (A:Option Addr) (c:Nat) (w:World) (hr:Rd sr 0 w.heap.size A es w) (hb:es.length*80<=140737488355328):
  dt aa sK [.slice A es.length c] w fun v w2=> ∃ A' c' L',v=.slice A' es.length c'/\es.length<=c'/\c'<=maxLen/\gG sr (.slice A' es.length c') dH es L'/\Hp w w2 L' []:=by
 refine aG rY Z Z ?_
 have H:=Hp.startRd hr
 refine W<|Zr<|G (Ws Z)<|U<|W<|W<|Zr<|G (Ys Z) ?_
 refine zS (pU lx Z) Z Z Z (fun h4=> ?_) (fun h4=> ?_)
 refine U<|ZT Z<|W<|Zr<|G (Ws Z)<|U<|Zt ?_
 have he:es=[]:=by
  cases es with
  |nil=>rfl
  |cons e es=>obtain⟨b,o,hA,_⟩:=hr (by simp);subst hA;cases h4
 subst he
 exact cn Z Z ⟨none,0,[],rfl,by simp,by decide,gG.nil,H.forget (by simp) (by simp)⟩
 refine U<|ZF Z<|Zk<|W<|Zr<|OL H gW Z fun w1 b5 H=>G (Ys Z)<|wN (Y:=sr) I7 (K:=[]) (L:=[(b5,_)]) (M:=[]) H (sm.lit (by decide) (by rfl)) (es:=[]) (news:=es) Z Z Z (Rd.src (H.fact (i:=0) Z)) (by simpa using hb) Z ?_
 intro A3 c3 w3 L3 h3a h3b ho3 H
 refine G (Ws Z)<|U<|Zt ?_
 exact cn Z Z ⟨A3,c3,L3,rfl,h3a,h3b,ho3,H.forget (by simp) (by simp)⟩
theorem yH (c:Co) (w:World) (h:c.rd 0 w.heap.size w):dt aa xp [c.v] w fun v w2=> ∃ (c':Co) (L':List (Nat×Obj)) (lo hi:Nat),v=c'.v/\c'.a=c.a/\gG sr (.slice c'.A c'.txs.length c'.cap) dH c'.txs L'/\c'.txs.length<=c'.cap/\(∀ t∈c'.txs,t.parts.length<=t.cap)/\w.heap.size<=lo/\Hp w w2 L' [iU lo hi c'.txs]:=by
 refine aG vM Z Z ?_
 have hcap:=h.cap
 have hfew:=h.few
 have hfp:=h.fewP
 have H:=Hp.startCo h
 obtain⟨ck,nx,wt,txs,cA,cc⟩:=c
 dsimp only at hcap hfew hfp H
 show CW _ _ _ _ (args [.agg #[J ck,J nx,J wt,.slice cA txs.length cc]]) w
 refine W<|Zr<|gY H Z Z fun w1 b1 H=>fc H cI Z fun w2 b2 H=>U<|W<|Zr<|G (Zf cP Z)<|G (Zd dN H 1 Z Z Z)<|cu lE (xF txs cA cc _ (H.rd0 0 Z) I) Z Z ?_
 rintro _ w3 ⟨A6,c6,L6,rfl,hc6,hm6,ho6,hj6⟩;replace H:=H.joinR hj6;clear hj6
 refine G (Zf cP Z)<|bA H 1 (#[J ck,J nx,J wt,.slice A6 txs.length c6]) Ak Z Z Z Z Z N N fun w4 H=>U<|W<|W ?_
 have hlt0:=H.ltAll
 obtain⟨lo,hlo⟩: ∃ lo,lo=w4.heap.size:=⟨_,rfl⟩
 rw[<-hlo]at hlt0
 have hlow:w.heap.size<=lo:=by rw[hlo];exact H.size
 replace H:=JI H lo hlt0 I
 have hb1:b1<lo:=hlt0 (b1,_) (rb _ (ie _))
 have hb2:b2<lo:=hlt0 (b2,_) (ie _)
 have hL6: ∀ e∈L6,e.1<lo:=fun e he=>hlt0 e (rb _ (rb _ (iB _ he)))
 refine Zr<|G (Zf cP Z)<|G (Zd dN H 1 Z Z Z)<|G (bh lx Z)<|G (Yi Z)<|U<|Zb ?_
 refine cf (τ:=Nat×List Tx×Option Addr×Nat×Nat) [3,11,12,13,14,15,16,17,18,19,20,21,22,23,24,25,26] (fun(k,_)=>[(11,J (k:Nat))]) (fun(k,out,A1,c1,hi) w'=>k<=out.length/\out.length=txs.length/\out.length<=c1/\out.map Tx.a=txs.map Tx.a/\out.drop k=txs.drop k/\(∀ t∈out.take k,t.parts.length<=t.cap)/\lo<=w'.heap.size/\ ∃ L',gG sr (.slice A1 out.length c1) dH out L'/\(∀ e∈L',e.1<lo)/\Hp w w' ([(b2,.cells #[J 0,J 0,J 0,.slice none 0 0] aX (0,0)),(b1,.cells #[J ck,J nx,J wt,.slice A1 out.length c1] aX (0,0))]++L'++[]) [iU lo hi (out.take k),ey sr 0 w.heap.size cA txs,iU 0 w.heap.size txs]) (fun(k,out,_)=>out.length-k) (0,txs,A6,c6,lo) ⟨by omega,rfl,hc6,rfl,rfl,by simp,by omega,L6,ho6,hL6,H⟩ (dR Z) ?_
 rintro⟨k,out,A1,c1,hi⟩ ρ1 w5 ⟨hk,hol,hoc,hma,hdr,hpc,hlw,L1,ho,hL1,H⟩
 show CW _ _ _ _ (dK (ia _ _ ρ1) [(11,J (k:Nat))]) w5
 refine W<|Zr ?_
 refine du (cO Z Z) Z Z Z (fun h12=> ?_) (fun h12=> ?_)
 refine U<|W<|ZT Z<|Zk<|W<|Zb<|W ?_
 obtain⟨x,hx⟩: ∃ x,out[k]? =some x:=⟨_,aj I⟩
 have hxt:txs[k]? =some x:=by have:=congrArg (fun l=>l[0]?) hdr;simp only[dk,pJ]at this;rw[<-this];exact hx
 have hmem:=ab hxt
 have hfx:=(hfp x hmem).1
 obtain⟨g,cur,rfl,rfl,row⟩:=ho.row I
 have hg:g<lo:=hL1 (g,_) (d9 _)
 refine Zr<|G (Yi Z)<|G (Wi Z)<|U ?_
 have hhi5:=(H.facts _ (ie _)).2.1
 refine bL cD [0,1,2,3,4,5,6,7,8,9,10,11] [12] [9] [0,2,3,5,6,7,10,11] (sp [(9,Sp.row w5.heap.size bS x.parts)]) N N N N Nq (cQ _) ?_
 refine aw Z Z Z Z Z (fun w' hw'=>Zf cP Z)<|aw Z Z Z Z Z (fun w' hw'=>bi dN Z (aJ ((H.later hw').ent (i:=1) Z) Z))<|aw Z Z Z Z Z (fun w' hw'=>Yi Z)<|aw Z Z Z Z Z (fun w' hw'=>Zf cP Z)<|aw Z Z Z Z Z (fun w' hw'=>bi dN Z (aJ ((H.later hw').ent (i:=1) Z) Z))<|aw Z Z Z Z Z (fun w' hw'=>Yi Z)<|aw Z Z Z Z Z (fun w' hw'=>cR gW Z Z I)<|aw Z Z Z Z Z (fun w' hw'=>Zf dD Z)<|aw Z Z Z Z Z (fun w' hw'=>bU cB row hx 4 Z ((H.later hw').ent (i:=2) Z) Z)<|DB gD Z Z Z Z Z (fun w' hw'=>hw'.size) (fun w' hw'=>xE x.parts _ _ w' (fF (H.later hw') 2 Z hmem) I) Z fun A23 c23 hc23=>aw Z Z Z Z Z (fun w' hw'=>cR gW Z Z I)<|aw Z Z Z Z Z (fun w' hw'=>Zf dD Z)<|aU ?_
 intro w6 hw' hF
 have hsz:=hw'.size
 obtain⟨hF,Aq,cq,eq,hcq,hrw23⟩:=hF;cases eq;clear hcq
 replace H:=H.learnRd hw' hrw23
 clear hw' hF
 refine ni H 2 ({x with A:=A23,cap:=c23}) jQ row hx 4 Z Z Z Z Z Z N fun w8 cur7 row7 H=>U<|Zr<|G (bp Z Z I I)<|G (Yi Z)<|U ?_
 obtain⟨z1,z2,z3⟩:=Dz (x':={x with A:=A23,cap:=c23}) hx hma hdr Z
 have hb5:=(H.facts _ (ie _)).2.1
 dsimp only[ey]at hb5
 have HJ:=Hp.joinParts (t:={x with A:=A23,cap:=c23}) H (fun e he=>by rcases av.1 he with rfl|he;exact hb2;rcases av.1 he with rfl|he;exact hb1;rw[ar.1 he];exact hg) hlw (aV hhi5 hsz)
 rw[<-z3]at HJ
 refine⟨(k+1,out.set k {x with A:=A23,cap:=c23},some ⟨g,0,none⟩,c1,w6.heap.size),⟨by rw[ae];omega,by rw[ae];exact hol,by rw[ae];exact hoc,z1,z2,?_,by omega,_,d7.own row7,fun e he=>by rw[ar.1 he];exact hg,?_⟩,dR Z,Qg,by show(out.set k _).length- (k+1)<out.length-k;rw[ae];omega⟩
 rw[z3];intro t ht;rcases ap.1 ht with ht|ht;exact hpc t ht;rw[ar.1 ht];exact hc23
 rw[ae];exact HJ
 have hke:k=out.length:=by omega
 rw[hke,bJ]at H hpc
 refine U<|W<|ZF Z<|Zx<|W<|Zr<|G (Zw ax H 1 Z Z Z)<|bA H 0 (#[J ck,J nx,J wt,.slice A1 out.length c1]) aF Z Z Z Z Z N N fun w9 H=>U<|Zt ?_
 exact eW (cs0:= #[J ck,J nx,J wt,.slice A1 out.length c1]) Z ax Z (H.ent (i:=0) Z) Z ⟨⟨ck,nx,wt,out,A1,c1⟩,L1,lo,hi,rfl,by unfold Co.a;dsimp only;rw[hma],ho,hoc,hpc,hlow,H.forget (.cons _ (.cons _ (aC _ _))) (by simp)⟩
theorem Hp.joinF {w0 w w':World} {L L':List (Nat×Obj)} {F F':List ce} (H:Hp w0 w L F) (H':Hp w w' L' F') (hf': ∀ f∈F',w.heap.size<=f.lo):Hp w0 w' (L++L'++[]) (F'++F):=by
 have HJ:=H.joinR (H'.forget (au _) (F':=[]) (by simp))
 refine⟨HJ.below,HJ.ents,HJ.nodup,fun f hf=> ?_⟩
 rcases ap.1 hf with hf|hf
 obtain⟨h1,h2,h3⟩:=H'.facts f hf
 refine⟨h1,h2,fun e he=> ?_⟩
 rw[aZ]at he
 rcases ap.1 he with he|he
 have:=H.ltAll e he
 have:=hf' f hf
 omega
 exact h3 e he
 exact HJ.facts f hf
def fW (c:Co) (s:ByteArray):Int:=lO (c.txs.findIdx? fun p=>decide (p.name=s))
def Nv (w w2:World) (c c':Co) (L':List (Nat×Obj)) (lo hi:Nat):Prop:=c'.a=c/\gG sr (.slice c'.A c'.txs.length c'.cap) dH c'.txs L'/\c'.txs.length<=c'.cap/\(∀ t∈c'.txs,t.parts.length<=t.cap)/\w.heap.size<=lo/\Hp w w2 L' [iU lo hi c'.txs]
theorem Kr (c:Co) (s:ByteArray) (w:World) (h:c.rd 0 w.heap.size w) (hok:gU c=true) (hn:bu s=true):dt aa xm [c.v,.string s] w fun v w2=> ∃ (c':Co) (L':List (Nat×Obj)) (lo hi:Nat),v=.tuple #[c'.v,J (fW c s),J 0]/\Nv w w2 c.a c' L' lo hi:=by
 refine aG vK Z Z ?_
 have hcap:=h.cap
 have hfew:=h.few
 have hfp:=h.fewP
 have H:=Hp.startCo h
 obtain⟨ck,nx,wt,txs,cA,cc⟩:=c
 dsimp only at hcap hfew hfp H
 show CW _ _ _ _ (args [.agg #[J ck,J nx,J wt,.slice cA txs.length cc],.string s]) w
 refine W<|Zr<|gY H Z Z fun w1 b2 H=>Q7 H Z Z fun w2 b3 H=>fc H cI Z fun w3 b4 H=>G (Wi Z)<|G (Wi Z)<|U<|W<|W<|Zr<|G (Zw ax H 2 Z Z Z)<|cu kJ (qE ⟨ck,nx,wt,txs,cA,cc⟩ _ ⟨H.rd0 0 Z,fun t ht=>fF H 1 Z ht,hcap,hfew,hfp⟩) Z Z ?_
 rw[hok]
 rintro _ w4 ⟨rfl,hb⟩;replace H:=H.later hb;clear hb
 refine G (Wi Z)<|U<|W<|Zr<|G (Yi Z)<|G (cv Z Z Z)<|U<|ZF Z<|Zk<|W<|W<|Zr<|G (Zd ba H 1 Z Z Z)<|cu sj (Ec s _) Z Z ?_
 rw[hn]
 rintro _ w5 ⟨rfl,hb⟩;replace H:=H.later hb;clear hb
 refine G (ee Z)<|U<|ZF Z<|Zk<|W ?_
 refine rz cD [2,4] [0,1,3,5,6,7,8] [2,4] 7 N N N Nq ?_
 refine aw Z Z Z Z Z (fun w' hw'=>Zf cP Z)<|aw Z Z Z Z Z (fun w' hw'=>AE Z)<|aU ?_
 intro w6 hw';replace H:=H.later hw';clear hw'
 refine uj 0 3 N Z Z ?_ ?_
 refine G (Zw ax H 2 Z Z Z)<|U ?_
 refine uj 1 3 N Z Z ?_ ?_
 refine cu ji (yH ⟨ck,nx,wt,txs,cA,cc⟩ _ ⟨H.rd0 0 Z,fun t ht=>fF H 1 Z ht,hcap,hfew,hfp⟩) Z Z ?_
 have hsz0:=H.size
 rintro _ w7 ⟨⟨ck2,nx2,wt2,tx2,A2,c2⟩,L2,lo2,hi2,rfl,ha2,ho2,hoc2,hpc2,hlo2,hj2⟩
 replace H:=Hp.joinF H hj2 (by intro f hf;rw[ar.1 hf];exact hlo2);clear hj2
 simp only[Co.a,Co.mk.injEq]at ha2
 obtain⟨e1,e2,e3,hma,-,-⟩:=ha2
 obtain rfl:ck=ck2:=e1.symm
 obtain rfl:nx=nx2:=e2.symm
 obtain rfl:wt=wt2:=e3.symm
 dsimp only at ho2 hoc2 hpc2 H
 refine U<|df 3 N Z<|G (Zd dN H 2 Z Z Z)<|U<|df 5 N Z<|cu dG (gu txs cA cc _ (H.rd0 1 Z) I g9 [.pointer (Qd b3)] iD (fun p=>decide (p.name=s)) (fun e w2 _ hw2=>nS e s b3 w2 ((hw2.block _ (bV (H.ent (i:=1) Z))).trans (H.ent (i:=1) Z)))) Z Z ?_
 rintro _ w8 ⟨rfl,hb⟩;replace H:=H.later hb;clear hb
 refine U<|df 6 N Z<|bA H 0 (#[J ck,J nx,J wt,.slice A2 tx2.length c2]) aF Z Z Z Z Z N N fun w9 H=>U<|df 7 N Z<|G (Wi Z)<|U<|df 8 N Z<|G (Wi Z)<|U<|cj N<|Zt ?_
 exact gM (cs0:= #[J ck,J nx,J wt,.slice A2 tx2.length c2]) (v1:=J (lO (txs.findIdx? fun p=>decide (p.name=s)))) (v2:=J 0) Z ax Z (H.ent (i:=0) Z) Z Z Z ⟨⟨ck,nx,wt,tx2,A2,c2⟩,L2,lo2,hi2,rfl,by unfold Co.a;dsimp only;rw[hma],ho2,hoc2,hpc2,aV hsz0 hlo2,H.forget (.cons _ (.cons _ (.cons _ (aC _ _)))) (by simp)⟩
 refine G (Zd dN H 2 Z Z Z)<|U<|df 1 N Z<|cu ji (yH ⟨ck,nx,wt,txs,cA,cc⟩ _ ⟨H.rd0 0 Z,fun t ht=>fF H 1 Z ht,hcap,hfew,hfp⟩) Z Z ?_
 have hsz0:=H.size
 rintro _ w10 ⟨⟨ck2,nx2,wt2,tx2,A2,c2⟩,L2,lo2,hi2,rfl,ha2,ho2,hoc2,hpc2,hlo2,hj2⟩
 replace H:=Hp.joinF H hj2 (by intro f hf;rw[ar.1 hf];exact hlo2);clear hj2
 simp only[Co.a,Co.mk.injEq]at ha2
 obtain⟨e1,e2,e3,hma,-,-⟩:=ha2
 obtain rfl:ck=ck2:=e1.symm
 obtain rfl:nx=nx2:=e2.symm
 obtain rfl:wt=wt2:=e3.symm
 dsimp only at ho2 hoc2 hpc2 H
 refine U<|df 5 N Z<|cu dG (gu txs cA cc _ (H.rd0 1 Z) I g9 [.pointer (Qd b3)] iD (fun p=>decide (p.name=s)) (fun e w2 _ hw2=>nS e s b3 w2 ((hw2.block _ (bV (H.ent (i:=1) Z))).trans (H.ent (i:=1) Z)))) Z Z ?_
 rintro _ w11 ⟨rfl,hb⟩;replace H:=H.later hb;clear hb
 refine U<|df 6 N Z<|bA H 0 (#[J ck,J nx,J wt,.slice A2 tx2.length c2]) aF Z Z Z Z Z N N fun w12 H=>U<|df 7 N Z<|G (Wi Z)<|U<|df 8 N Z<|G (Wi Z)<|U<|cj N<|Zt ?_
 exact gM (cs0:= #[J ck,J nx,J wt,.slice A2 tx2.length c2]) (v1:=J (lO (txs.findIdx? fun p=>decide (p.name=s)))) (v2:=J 0) Z ax Z (H.ent (i:=0) Z) Z Z Z ⟨⟨ck,nx,wt,tx2,A2,c2⟩,L2,lo2,hi2,rfl,by unfold Co.a;dsimp only;rw[hma],ho2,hoc2,hpc2,aV hsz0 hlo2,H.forget (.cons _ (.cons _ (.cons _ (aC _ _)))) (by simp)⟩
 refine G (Zd dN H 2 Z Z Z)<|U<|df 0 N Z<|G (Zw ax H 2 Z Z Z)<|U<|df 1 N Z<|cu ji (yH ⟨ck,nx,wt,txs,cA,cc⟩ _ ⟨H.rd0 0 Z,fun t ht=>fF H 1 Z ht,hcap,hfew,hfp⟩) Z Z ?_
 have hsz0:=H.size
 rintro _ w13 ⟨⟨ck2,nx2,wt2,tx2,A2,c2⟩,L2,lo2,hi2,rfl,ha2,ho2,hoc2,hpc2,hlo2,hj2⟩
 replace H:=Hp.joinF H hj2 (by intro f hf;rw[ar.1 hf];exact hlo2);clear hj2
 simp only[Co.a,Co.mk.injEq]at ha2
 obtain⟨e1,e2,e3,hma,-,-⟩:=ha2
 obtain rfl:ck=ck2:=e1.symm
 obtain rfl:nx=nx2:=e2.symm
 obtain rfl:wt=wt2:=e3.symm
 dsimp only at ho2 hoc2 hpc2 H
 refine U<|df 5 N Z<|cu dG (gu txs cA cc _ (H.rd0 1 Z) I g9 [.pointer (Qd b3)] iD (fun p=>decide (p.name=s)) (fun e w2 _ hw2=>nS e s b3 w2 ((hw2.block _ (bV (H.ent (i:=1) Z))).trans (H.ent (i:=1) Z)))) Z Z ?_
 rintro _ w14 ⟨rfl,hb⟩;replace H:=H.later hb;clear hb
 refine U<|df 6 N Z<|bA H 0 (#[J ck,J nx,J wt,.slice A2 tx2.length c2]) aF Z Z Z Z Z N N fun w15 H=>U<|df 7 N Z<|G (Wi Z)<|U<|df 8 N Z<|G (Wi Z)<|U<|cj N<|Zt ?_
 exact gM (cs0:= #[J ck,J nx,J wt,.slice A2 tx2.length c2]) (v1:=J (lO (txs.findIdx? fun p=>decide (p.name=s)))) (v2:=J 0) Z ax Z (H.ent (i:=0) Z) Z Z Z ⟨⟨ck,nx,wt,tx2,A2,c2⟩,L2,lo2,hi2,rfl,by unfold Co.a;dsimp only;rw[hma],ho2,hoc2,hpc2,aV hsz0 hlo2,H.forget (.cons _ (.cons _ (.cons _ (aC _ _)))) (by simp)⟩
def i7 (s:ByteArray) (pid:Int):Tx:=⟨s,pid,0,1,[],0,0,none,0⟩
def mZ (c:Co) (s:ByteArray):Co:={c with next:=c.next+1,txs:=c.txs++[i7 s c.next]}
theorem Gu (c:Co) (s:ByteArray) (w:World) (h:c.rd 0 w.heap.size w) (hok:gU c=true) (hn:bu s=true) (hi:fW c s<0) (hf:c.txs.length=8):dt aa mT [c.v,.string s] w fun v w2=>v=.tuple #[.agg #[J 0,J 0,J 0,.slice none 0 0],J 0,J 0,J 16]/\Below w.heap.size w w2:=by
 refine aG oe Z Z ?_
 have hcap:=h.cap
 have hfew:=h.few
 have hfp:=h.fewP
 have H:=Hp.startCo h
 obtain⟨ck,nx,wt,txs,cA,cc⟩:=c
 dsimp only at hcap hfew hfp H
 show CW _ _ _ _ (args [.agg #[J ck,J nx,J wt,.slice cA txs.length cc],.string s]) w
 dsimp only at hf
 refine W<|Zr<|gY H Z Z fun w1 b2 H=>fc H cI Z fun w2 b4 H=>G (Wi Z)<|G (Wi Z)<|G (Wi Z)<|U<|W<|Zr<|G (Zw ax H 1 Z Z Z)<|G (Yt Z)<|cu iz (Kr ⟨ck,nx,wt,txs,cA,cc⟩ s _ ⟨H.rd0 0 Z,fun t ht=>fF H 1 Z ht,hcap,hfew,hfp⟩ hok hn) Z Z ?_
 have hsz0:=H.size
 rintro _ w3 ⟨⟨ck2,nx2,wt2,tx2,A2,c2⟩,L2,lo2,hi2,rfl,ha2,ho2,hoc2,hpc2,hlo2,hj2⟩
 replace H:=Hp.joinF H hj2 (by intro f hf;rw[ar.1 hf];exact hlo2);clear hj2
 simp only[Co.a,Co.mk.injEq]at ha2
 obtain⟨e1,e2,e3,hma,-,-⟩:=ha2
 obtain rfl:ck=ck2:=e1.symm
 obtain rfl:nx=nx2:=e2.symm
 obtain rfl:wt=wt2:=e3.symm
 dsimp only at ho2 hoc2 hpc2 H
 have hlen2:tx2.length=txs.length:=by have:=congrArg da hma;simpa using this
 obtain⟨b1,b2_,b3_,b4_,b5_,b6_,b7_⟩:=je.1 hok
 dsimp only at b2_ b3_ b6_
 refine G (Yu Z)<|G (Xa Z Z)<|G (Xi Z Z)<|G (Xi Z Z)<|bA H 1 (#[J ck,J nx,J wt,.slice A2 tx2.length c2]) aF Z Z Z Z Z N N fun w4 H=>G (Wi Z)<|G (Wi Z)<|U<|W<|W<|Zr<|G (Yi Z)<|G (cv Z Z Z)<|U<|ZF Z<|Zk<|W<|W<|Zr<|G (Yi Z)<|G (wr Z Z hi)<|U<|ZT Z<|W<|W<|Zr<|G (Zf cP Z)<|G (Zd dN H 1 Z Z Z)<|G (bh lx Z)<|G (se Z Z I)<|G (Yb Z)<|ZN<|ZN<|ZN<|G (Kt Z Z)<|U<|ZT Z<|W<|Zr<|G (bC (cs:= #[J 0,J 0,J 0,.slice none 0 0]) fH cI N) ?_
 refine bA H 0 (#[J 0,J 0,J 0,.slice none 0 0]) aF Z Z Z Z Z N N fun w5 H=>G (Wi Z)<|G (Wi Z)<|G (Wi Z)<|U<|Zt ?_
 exact mX (cs0:= #[J 0,J 0,J 0,.slice none 0 0]) (v1:=J 0) (v2:=J 0) (v3:=J 16) Z ax Z (H.ent (i:=0) Z) Z Z Z Z ⟨rfl,H.below⟩
theorem Io (ck nx:Int): ∀ (l pre:List Tx),oq ck nx pre l=oq ck nx (pre.map Tx.a) (l.map Tx.a)
 |[],_=>rfl
 |t::l,pre=>by
  rw[eU]
  unfold oq
  have e1:(pre.map Tx.a).any (tb t.a)=pre.any (tb t):=by rw[List.any_map];rfl
  have e2:=Io ck nx l (pre++[t])
  rw[bk]at e2
  rw[e1,e2]
  rfl
theorem tF (c:Co):gU c=gU c.a:=by
 unfold gU
 have:=Io c.clock c.next c.txs []
 rw[this]
 unfold Co.a
 simp
theorem Hp.learnAlsoF {w0 w w':World} {L:List (Nat×Obj)} {F F0:List ce} (H0:Hp w0 w L F0) (H:Hp w0 w' L F) (f:ce) (hf:f.p w') (hlo:w.heap.size<=f.lo) (hhi:f.hi<=w'.heap.size):Hp w0 w' L (f::F):=by
 refine⟨H.below,H.ents,H.nodup,fun g hg=> ?_⟩
 rcases av.1 hg with rfl|hg
 exact⟨hf,hhi,fun e he=> .inl (by have:=H0.ltAll e he;omega)⟩
 exact H.facts g hg
structure Ih (w w2:World) (c:Co):Prop where
 below:Below w.heap.size w w2
 row:Rd sr w.heap.size w2.heap.size c.A c.txs w2
 parts: ∀ t∈c.txs,Rd bS w.heap.size w2.heap.size t.A t.parts w2
 cap:c.txs.length<=c.cap
 caps: ∀ t∈c.txs,t.parts.length<=t.cap
theorem Nv.rd {w w2:World} {ca c':Co} {L':List (Nat×Obj)} {lo hi:Nat} (h:Nv w w2 ca c' L' lo hi):Ih w w2 c':=by
 obtain⟨h1,ho,hc,hcs,hlo,hj⟩:=h
 have hf:=hj.facts _ (az ..)
 have hj0:Hp w w2 L' []:=hj.forget (au _) (by simp)
 refine⟨hj.below,ho.rd (K:=[]) (M:=[]) (by simpa using hj0),fun t ht=>Rd.mono (hf.1 t ht) hlo hf.2.1,hc,hcs⟩
theorem Ih.learn {w0 w w2:World} {L:List (Nat×Obj)} {F:List ce} {c:Co} (h:Ih w w2 c) (H:Hp w0 w L F):Hp w0 w2 L (iU w.heap.size w2.heap.size c.txs::ey sr w.heap.size w2.heap.size c.A c.txs::F):=
 Hp.learnAlsoF H (H.learnRd h.below h.row) (iU w.heap.size w2.heap.size c.txs) h.parts (ao _) (ao _)
def zp:Co:=⟨0,0,0,[],none,0⟩
theorem Pb {w w2:World} (hb:Below w.heap.size w w2):Ih w w2 zp:=⟨hb,Rd.nil,(by intro t ht;cases ht),ao _,(by intro t ht;cases ht)⟩
/-- the parts of each producer lie in blocks of the call's own -/
def eK:List Tx->List (Nat×Obj)->Prop
 |[],L=>L=[]
 |t::ts,L=> ∃ L1 L2,L=L1++L2/\gG bS (.slice t.A t.parts.length t.cap) dg t.parts L1/\eK ts L2
theorem eK.snoc {t:Tx} {L':List (Nat×Obj)} (ht:gG bS (.slice t.A t.parts.length t.cap) dg t.parts L'): ∀ {ts:List Tx} {L:List (Nat×Obj)},eK ts L->eK (ts++[t]) (L++L')
 |[],_,h=>⟨L',[],by rw[show _=[]from h];simp,ht,rfl⟩
 |_::_,_,⟨L1,L2,h1,h2,h3⟩=>⟨L1,L2++L',by rw[h1,aB],h2,eK.snoc ht h3⟩
theorem eK.at_: ∀ {ts:List Tx} {L:List (Nat×Obj)} {i:Nat} {t:Tx},eK ts L->ts[i]? =some t-> ∃ La Lt Lb,L=La++Lt++Lb/\gG bS (.slice t.A t.parts.length t.cap) dg t.parts Lt/\ ∀ (t':Tx) (Lt':List (Nat×Obj)),gG bS (.slice t'.A t'.parts.length t'.cap) dg t'.parts Lt'->eK (ts.set i t') (La++Lt'++Lb)
 |x::ts,L,0,t,⟨L1,L2,h1,h2,h3⟩,hi=>by
  cases hi
  exact⟨[],L1,L2,by simpa using h1,h2,fun t' Lt' h'=>⟨Lt',L2,by simp,h',h3⟩⟩
 |x::ts,L,i+1,t,⟨L1,L2,h1,h2,h3⟩,hi=>by
  obtain⟨La,Lt,Lb,e,ho,hs⟩:=eK.at_ h3 (show ts[i]? =some t from hi)
  exact⟨L1++La,Lt,Lb,by rw[h1,e];simp[aB],ho,fun t' Lt' h'=>⟨L1,La++Lt'++Lb,by simp[aB],h2,hs t' Lt' h'⟩⟩
theorem eK.rd {w0 w:World} {ts:List Tx} {L:List (Nat×Obj)} (h:eK ts L) (H:Hp w0 w L []) {t:Tx} (ht:t∈ts):Rd bS w0.heap.size w.heap.size t.A t.parts w:=by
 obtain⟨i,hi⟩:=aN.1 ht
 obtain⟨La,Lt,Lb,rfl,ho,-⟩:=h.at_ hi
 exact ho.rd (K:=La) (M:=Lb) H
def qM (w w2:World) (ca c':Co) (Lr Lp:List (Nat×Obj)):Prop:=c'.a=ca/\gG sr (.slice c'.A c'.txs.length c'.cap) dH c'.txs Lr/\eK c'.txs Lp/\c'.txs.length<=c'.cap/\(∀ t∈c'.txs,t.parts.length<=t.cap)/\Hp w w2 (Lr++Lp) []
theorem qM.read {w w2:World} {ca c':Co} {Lr Lp:List (Nat×Obj)} (h:qM w w2 ca c' Lr Lp):Ih w w2 c':=by
 obtain⟨_,h2,h3,h4,h5,h6⟩:=h
 refine⟨h6.below,h2.rd (K:=[]) (M:=Lp) (by simpa using h6),fun t ht=>h3.rd (h6.forget (bZ _ _) (by simp)) ht,h4,h5⟩
theorem tG (c:Co) (w:World) (h:c.rd 0 w.heap.size w):dt aa xp [c.v] w fun v w2=> ∃ (c':Co) (Lr Lp:List (Nat×Obj)),v=c'.v/\qM w w2 c.a c' Lr Lp:=by
 refine aG vM Z Z ?_
 have hcap:=h.cap
 have hfew:=h.few
 have hfp:=h.fewP
 have H:=Hp.startCo h
 obtain⟨ck,nx,wt,txs,cA,cc⟩:=c
 dsimp only at hcap hfew hfp H
 show CW _ _ _ _ (args [.agg #[J ck,J nx,J wt,.slice cA txs.length cc]]) w
 refine W<|Zr<|gY H Z Z fun w1 b1 H=>fc H cI Z fun w2 b2 H=>U<|W<|Zr<|G (Zf cP Z)<|G (Zd dN H 1 Z Z Z)<|cu lE (xF txs cA cc _ (H.rd0 0 Z) I) Z Z ?_
 rintro _ w3 ⟨A6,c6,L6,rfl,hc6,hm6,ho6,hj6⟩;replace H:=H.joinR hj6;clear hj6
 refine G (Zf cP Z)<|bA H 1 (#[J ck,J nx,J wt,.slice A6 txs.length c6]) Ak Z Z Z Z Z N N fun w4 H=>U<|W<|W<|Zr<|G (Zf cP Z)<|G (Zd dN H 1 Z Z Z)<|G (bh lx Z)<|G (Yi Z)<|U<|Zb ?_
 refine cf (τ:=Nat×List Tx×Option Addr×Nat×List (Nat×Obj)) [3,11,12,13,14,15,16,17,18,19,20,21,22,23,24,25,26] (fun(k,_)=>[(11,J (k:Nat))]) (fun(k,out,A1,c1,Lp) w'=>k<=out.length/\out.length=txs.length/\out.length<=c1/\out.map Tx.a=txs.map Tx.a/\out.drop k=txs.drop k/\(∀ t∈out.take k,t.parts.length<=t.cap)/\eK (out.take k) Lp/\ ∃ L',gG sr (.slice A1 out.length c1) dH out L'/\Hp w w' ([(b2,.cells #[J 0,J 0,J 0,.slice none 0 0] aX (0,0)),(b1,.cells #[J ck,J nx,J wt,.slice A1 out.length c1] aX (0,0))]++L'++Lp) [ey sr 0 w.heap.size cA txs,iU 0 w.heap.size txs]) (fun(k,out,_)=>out.length-k) (0,txs,A6,c6,[]) ⟨by omega,rfl,hc6,rfl,rfl,by simp,rfl,L6,ho6,H⟩ (dR Z) ?_
 rintro⟨k,out,A1,c1,Lp⟩ ρ1 w5 ⟨hk,hol,hoc,hma,hdr,hpc,hpp,L1,ho,H⟩
 show CW _ _ _ _ (dK (ia _ _ ρ1) [(11,J (k:Nat))]) w5
 refine W<|Zr ?_
 refine du (cO Z Z) Z Z Z (fun h12=> ?_) (fun h12=> ?_)
 refine U<|W<|ZT Z<|Zk<|W<|Zb<|W ?_
 obtain⟨x,hx⟩: ∃ x,out[k]? =some x:=⟨_,aj I⟩
 have hxt:txs[k]? =some x:=by have:=congrArg (fun l=>l[0]?) hdr;simp only[dk,pJ]at this;rw[<-this];exact hx
 have hmem:=ab hxt
 have hfx:=(hfp x hmem).1
 obtain⟨g,cur,rfl,rfl,row⟩:=ho.row I
 refine Zr<|G (Yi Z)<|G (Wi Z)<|U ?_
 refine bL cD [0,1,2,3,4,5,6,7,8,9,10,11] [12] [9] [0,2,3,5,6,7,10,11] (sp [(9,Sp.orow w5.heap.size bS dg x.parts)]) N N N N Nq (cQ _) ?_
 refine aw Z Z Z Z Z (fun w' hw'=>Zf cP Z)<|aw Z Z Z Z Z (fun w' hw'=>bi dN Z (aJ ((H.later hw').ent (i:=1) Z) Z))<|aw Z Z Z Z Z (fun w' hw'=>Yi Z)<|aw Z Z Z Z Z (fun w' hw'=>Zf cP Z)<|aw Z Z Z Z Z (fun w' hw'=>bi dN Z (aJ ((H.later hw').ent (i:=1) Z) Z))<|aw Z Z Z Z Z (fun w' hw'=>Yi Z)<|aw Z Z Z Z Z (fun w' hw'=>cR gW Z Z I)<|aw Z Z Z Z Z (fun w' hw'=>Zf dD Z)<|aw Z Z Z Z Z (fun w' hw'=>bU cB row hx 4 Z ((H.later hw').ent (i:=2) Z) Z)<|yO gD Z Z Z Z Z (fun w' hw'=>hw'.size) (fun w' hw'=>tH x.parts _ _ w' (fF (H.later hw') 1 Z hmem) I) Z fun A23 c23 hc23=>aw Z Z Z Z Z (fun w' hw'=>cR gW Z Z I)<|aw Z Z Z Z Z (fun w' hw'=>Zf dD Z)<|aU ?_
 intro w6 hw' hF
 obtain⟨hF,Aq,cq,L23,eq,hcq,hm23,ho23,he23,hn23⟩:=hF;cases eq;clear hcq
 replace H:=H.joinR (Hp.ofNew hw' he23 hn23)
 clear hw' hF
 refine ni H 2 ({x with A:=A23,cap:=c23}) jQ row hx 4 Z Z Z Z Z Z N fun w8 cur7 row7 H=>U<|Zr<|G (bp Z Z I I)<|G (Yi Z)<|U ?_
 obtain⟨z1,z2,z3⟩:=Dz (x':={x with A:=A23,cap:=c23}) hx hma hdr Z
 refine⟨(k+1,out.set k {x with A:=A23,cap:=c23},some ⟨g,0,none⟩,c1,Lp++L23),⟨by rw[ae];omega,by rw[ae];exact hol,by rw[ae];exact hoc,z1,z2,?_,by rw[z3];exact hpp.snoc ho23,_,d7.own row7,?_⟩,dR Z,Qg,by show(out.set k _).length- (k+1)<out.length-k;rw[ae];omega⟩
 rw[z3];intro t ht;rcases ap.1 ht with ht|ht;exact hpc t ht;rw[ar.1 ht];exact hc23
 rw[ae];simpa using H
 have hke:k=out.length:=by omega
 rw[hke,bJ]at hpp hpc
 refine U<|W<|ZF Z<|Zx<|W<|Zr<|G (Zw ax H 1 Z Z Z)<|bA H 0 (#[J ck,J nx,J wt,.slice A1 out.length c1]) aF Z Z Z Z Z N N fun w9 H=>U<|Zt ?_
 exact eW (cs0:= #[J ck,J nx,J wt,.slice A1 out.length c1]) Z ax Z (H.ent (i:=0) Z) Z ⟨⟨ck,nx,wt,out,A1,c1⟩,L1,Lp,rfl,by unfold Co.a;dsimp only;rw[hma],ho,hpp,hoc,hpc,H.forget (.cons _ (.cons _ (au _))) (by simp)⟩
theorem rL {txs tx2:List Tx} (h:tx2.map Tx.a=txs.map Tx.a) {i:Nat} {t:Tx} (ht:txs[i]? =some t): ∃ t2,tx2[i]? =some t2/\t2.a=t.a:=by
 have h1:=congrArg (fun l=>l[i]?) h
 simp only[aI,ht,eQ]at h1
 cases h2:tx2[i]? with
 |none=>rw[h2]at h1;cases h1
 |some t2=>rw[h2]at h1;exact⟨t2,rfl,by simpa using h1⟩
theorem lT (c:Co) (s:ByteArray) (w:World) (h:c.rd 0 w.heap.size w) (hok:gU c=true) (hn:bu s=true):dt aa xm [c.v,.string s] w fun v w2=> ∃ (c':Co) (Lr Lp:List (Nat×Obj)),v=.tuple #[c'.v,J (fW c s),J 0]/\qM w w2 c.a c' Lr Lp:=by
 refine aG vK Z Z ?_
 have hcap:=h.cap
 have hfew:=h.few
 have hfp:=h.fewP
 have H:=Hp.startCo h
 obtain⟨ck,nx,wt,txs,cA,cc⟩:=c
 dsimp only at hcap hfew hfp H
 show CW _ _ _ _ (args [.agg #[J ck,J nx,J wt,.slice cA txs.length cc],.string s]) w
 refine W<|Zr<|gY H Z Z fun w1 b2 H=>Q7 H Z Z fun w2 b3 H=>fc H cI Z fun w3 b4 H=>G (Wi Z)<|G (Wi Z)<|U<|W<|W<|Zr<|G (Zw ax H 2 Z Z Z)<|cu kJ (qE ⟨ck,nx,wt,txs,cA,cc⟩ _ ⟨H.rd0 0 Z,fun t ht=>fF H 1 Z ht,hcap,hfew,hfp⟩) Z Z ?_
 rw[hok]
 rintro _ w4 ⟨rfl,hb⟩;replace H:=H.later hb;clear hb
 refine G (Wi Z)<|U<|W<|Zr<|G (Yi Z)<|G (cv Z Z Z)<|U<|ZF Z<|Zk<|W<|W<|Zr<|G (Zd ba H 1 Z Z Z)<|cu sj (Ec s _) Z Z ?_
 rw[hn]
 rintro _ w5 ⟨rfl,hb⟩;replace H:=H.later hb;clear hb
 refine G (ee Z)<|U<|ZF Z<|Zk<|W ?_
 refine rz cD [2,4] [0,1,3,5,6,7,8] [2,4] 7 N N N Nq ?_
 refine aw Z Z Z Z Z (fun w' hw'=>Zf cP Z)<|aw Z Z Z Z Z (fun w' hw'=>AE Z)<|aU ?_
 intro w6 hw';replace H:=H.later hw';clear hw'
 refine uj 0 3 N Z Z ?_ ?_
 refine G (Zw ax H 2 Z Z Z)<|U ?_
 refine uj 1 3 N Z Z ?_ ?_
 refine cu ji (tG ⟨ck,nx,wt,txs,cA,cc⟩ _ ⟨H.rd0 0 Z,fun t ht=>fF H 1 Z ht,hcap,hfew,hfp⟩) Z Z ?_
 rintro _ w7 ⟨⟨ck2,nx2,wt2,tx2,A2,c2⟩,Lr,Lp,rfl,ha2,ho2,hp2,hoc2,hpc2,hj2⟩
 replace H:=H.joinR hj2;clear hj2
 simp only[Co.a,Co.mk.injEq]at ha2
 obtain⟨e1,e2,e3,hma,-,-⟩:=ha2
 obtain rfl:ck=ck2:=e1.symm
 obtain rfl:nx=nx2:=e2.symm
 obtain rfl:wt=wt2:=e3.symm
 dsimp only at ho2 hp2 hoc2 hpc2 H
 refine U<|df 3 N Z<|G (Zd dN H 2 Z Z Z)<|U<|df 5 N Z<|cu dG (gu txs cA cc _ (H.rd0 0 Z) I g9 [.pointer (Qd b3)] iD (fun p=>decide (p.name=s)) (fun e w2 _ hw2=>nS e s b3 w2 ((hw2.block _ (bV (H.ent (i:=1) Z))).trans (H.ent (i:=1) Z)))) Z Z ?_
 rintro _ w8 ⟨rfl,hb⟩;replace H:=H.later hb;clear hb
 refine U<|df 6 N Z<|bA H 0 (#[J ck,J nx,J wt,.slice A2 tx2.length c2]) aF Z Z Z Z Z N N fun w9 H=>U<|df 7 N Z<|G (Wi Z)<|U<|df 8 N Z<|G (Wi Z)<|U<|cj N<|Zt ?_
 exact gM (cs0:= #[J ck,J nx,J wt,.slice A2 tx2.length c2]) (v1:=J (lO (txs.findIdx? fun p=>decide (p.name=s)))) (v2:=J 0) Z ax Z (H.ent (i:=0) Z) Z Z Z ⟨⟨ck,nx,wt,tx2,A2,c2⟩,Lr,Lp,rfl,by unfold Co.a;dsimp only;rw[hma],ho2,hp2,hoc2,hpc2,H.forget (.cons _ (.cons _ (.cons _ (aC _ _)))) (by simp)⟩
 refine G (Zd dN H 2 Z Z Z)<|U<|df 1 N Z<|cu ji (tG ⟨ck,nx,wt,txs,cA,cc⟩ _ ⟨H.rd0 0 Z,fun t ht=>fF H 1 Z ht,hcap,hfew,hfp⟩) Z Z ?_
 rintro _ w10 ⟨⟨ck2,nx2,wt2,tx2,A2,c2⟩,Lr,Lp,rfl,ha2,ho2,hp2,hoc2,hpc2,hj2⟩
 replace H:=H.joinR hj2;clear hj2
 simp only[Co.a,Co.mk.injEq]at ha2
 obtain⟨e1,e2,e3,hma,-,-⟩:=ha2
 obtain rfl:ck=ck2:=e1.symm
 obtain rfl:nx=nx2:=e2.symm
 obtain rfl:wt=wt2:=e3.symm
 dsimp only at ho2 hp2 hoc2 hpc2 H
 refine U<|df 5 N Z<|cu dG (gu txs cA cc _ (H.rd0 0 Z) I g9 [.pointer (Qd b3)] iD (fun p=>decide (p.name=s)) (fun e w2 _ hw2=>nS e s b3 w2 ((hw2.block _ (bV (H.ent (i:=1) Z))).trans (H.ent (i:=1) Z)))) Z Z ?_
 rintro _ w11 ⟨rfl,hb⟩;replace H:=H.later hb;clear hb
 refine U<|df 6 N Z<|bA H 0 (#[J ck,J nx,J wt,.slice A2 tx2.length c2]) aF Z Z Z Z Z N N fun w12 H=>U<|df 7 N Z<|G (Wi Z)<|U<|df 8 N Z<|G (Wi Z)<|U<|cj N<|Zt ?_
 exact gM (cs0:= #[J ck,J nx,J wt,.slice A2 tx2.length c2]) (v1:=J (lO (txs.findIdx? fun p=>decide (p.name=s)))) (v2:=J 0) Z ax Z (H.ent (i:=0) Z) Z Z Z ⟨⟨ck,nx,wt,tx2,A2,c2⟩,Lr,Lp,rfl,by unfold Co.a;dsimp only;rw[hma],ho2,hp2,hoc2,hpc2,H.forget (.cons _ (.cons _ (.cons _ (aC _ _)))) (by simp)⟩
 refine G (Zd dN H 2 Z Z Z)<|U<|df 0 N Z<|G (Zw ax H 2 Z Z Z)<|U<|df 1 N Z<|cu ji (tG ⟨ck,nx,wt,txs,cA,cc⟩ _ ⟨H.rd0 0 Z,fun t ht=>fF H 1 Z ht,hcap,hfew,hfp⟩) Z Z ?_
 rintro _ w13 ⟨⟨ck2,nx2,wt2,tx2,A2,c2⟩,Lr,Lp,rfl,ha2,ho2,hp2,hoc2,hpc2,hj2⟩
 replace H:=H.joinR hj2;clear hj2
 simp only[Co.a,Co.mk.injEq]at ha2
 obtain⟨e1,e2,e3,hma,-,-⟩:=ha2
 obtain rfl:ck=ck2:=e1.symm
 obtain rfl:nx=nx2:=e2.symm
 obtain rfl:wt=wt2:=e3.symm
 dsimp only at ho2 hp2 hoc2 hpc2 H
 refine U<|df 5 N Z<|cu dG (gu txs cA cc _ (H.rd0 0 Z) I g9 [.pointer (Qd b3)] iD (fun p=>decide (p.name=s)) (fun e w2 _ hw2=>nS e s b3 w2 ((hw2.block _ (bV (H.ent (i:=1) Z))).trans (H.ent (i:=1) Z)))) Z Z ?_
 rintro _ w14 ⟨rfl,hb⟩;replace H:=H.later hb;clear hb
 refine U<|df 6 N Z<|bA H 0 (#[J ck,J nx,J wt,.slice A2 tx2.length c2]) aF Z Z Z Z Z N N fun w15 H=>U<|df 7 N Z<|G (Wi Z)<|U<|df 8 N Z<|G (Wi Z)<|U<|cj N<|Zt ?_
 exact gM (cs0:= #[J ck,J nx,J wt,.slice A2 tx2.length c2]) (v1:=J (lO (txs.findIdx? fun p=>decide (p.name=s)))) (v2:=J 0) Z ax Z (H.ent (i:=0) Z) Z Z Z ⟨⟨ck,nx,wt,tx2,A2,c2⟩,Lr,Lp,rfl,by unfold Co.a;dsimp only;rw[hma],ho2,hp2,hoc2,hpc2,H.forget (.cons _ (.cons _ (.cons _ (aC _ _)))) (by simp)⟩
theorem AV (c:Co) (s:ByteArray) (ver:Int) (w:World) (h:c.rd 0 w.heap.size w) (hok:gU c=true) (hn:bu s=true) (hi:fW c s= -1):dt aa rT [c.v,.string s,J ver] w fun v w2=>v=.tuple #[.agg #[J 0,J 0,J 0,.slice none 0 0],J 0,J 5]/\Below w.heap.size w w2:=by
 refine aG qC Z Z ?_
 have hcap:=h.cap
 have hfew:=h.few
 have hfp:=h.fewP
 have H:=Hp.startCo h
 obtain⟨ck,nx,wt,txs,cA,cc⟩:=c
 dsimp only at hcap hfew hfp H
 show CW _ _ _ _ (args [.agg #[J ck,J nx,J wt,.slice cA txs.length cc],.string s,J ver]) w
 refine W<|Zr<|gY H Z Z fun w1 b3 H=>fc H cI Z fun w2 b6 H=>G (Wi Z)<|G (Wi Z)<|U<|W<|Zr<|G (Zw ax H 1 Z Z Z)<|G (Yt Z)<|cu iz (lT ⟨ck,nx,wt,txs,cA,cc⟩ s _ ⟨H.rd0 0 Z,fun t ht=>fF H 1 Z ht,hcap,hfew,hfp⟩ hok hn) Z Z ?_
 rintro _ w3 ⟨⟨ck2,nx2,wt2,tx2,A2,c2⟩,Lr,Lp,rfl,ha2,ho2,hp2,hoc2,hpc2,hj2⟩
 replace H:=H.joinR hj2;clear hj2
 simp only[Co.a,Co.mk.injEq]at ha2
 obtain⟨e1,e2,e3,hma,-,-⟩:=ha2
 obtain rfl:ck=ck2:=e1.symm
 obtain rfl:nx=nx2:=e2.symm
 obtain rfl:wt=wt2:=e3.symm
 dsimp only at ho2 hp2 hoc2 hpc2 H
 rw[hi]
 refine G (Yu Z)<|G (Xa Z Z)<|G (Xi Z Z)<|G (Xi Z Z)<|bA H 1 (#[J ck,J nx,J wt,.slice A2 tx2.length c2]) aF Z Z Z Z Z N N fun w4 H=>G (Wi Z)<|G (Wi Z)<|U<|W<|Zb<|W<|Zr<|G (Yi Z)<|G (cv Z Z Z)<|G (Wb Z)<|U<|ZF Z<|W<|Zr<|G (Yi Z)<|G (wr Z Z (by decide))<|G (Wb Z)<|U<|ZT Z<|W<|Zr<|G (bC (cs:= #[J 0,J 0,J 0,.slice none 0 0]) fH cI N)<|bA H 0 (#[J 0,J 0,J 0,.slice none 0 0]) aF Z Z Z Z Z N N fun w5 H=>G (Wi Z)<|G (Wi Z)<|U<|Zt ?_
 exact gM (cs0:= #[J 0,J 0,J 0,.slice none 0 0]) (v1:=J 0) (v2:=J 5) Z ax Z (H.ent (i:=0) Z) Z Z Z ⟨rfl,H.below⟩
theorem y9 (c:Co) (s:ByteArray) (ver:Int) (i:Nat) (t:Tx) (w:World) (h:c.rd 0 w.heap.size w) (hok:gU c=true) (hn:bu s=true) (hi:fW c s=i) (ht:c.txs[i]? =some t) (hv:t.ver≠ver):dt aa rT [c.v,.string s,J ver] w fun v w2=>v=.tuple #[.agg #[J 0,J 0,J 0,.slice none 0 0],J 0,J 10]/\Below w.heap.size w w2:=by
 refine aG qC Z Z ?_
 have hcap:=h.cap
 have hfew:=h.few
 have hfp:=h.fewP
 have H:=Hp.startCo h
 obtain⟨ck,nx,wt,txs,cA,cc⟩:=c
 dsimp only at hcap hfew hfp H
 show CW _ _ _ _ (args [.agg #[J ck,J nx,J wt,.slice cA txs.length cc],.string s,J ver]) w
 dsimp only at ht
 refine W<|Zr<|gY H Z Z fun w1 b3 H=>fc H cI Z fun w2 b6 H=>G (Wi Z)<|G (Wi Z)<|U<|W<|Zr<|G (Zw ax H 1 Z Z Z)<|G (Yt Z)<|cu iz (lT ⟨ck,nx,wt,txs,cA,cc⟩ s _ ⟨H.rd0 0 Z,fun t ht=>fF H 1 Z ht,hcap,hfew,hfp⟩ hok hn) Z Z ?_
 rintro _ w3 ⟨⟨ck2,nx2,wt2,tx2,A2,c2⟩,Lr,Lp,rfl,ha2,ho2,hp2,hoc2,hpc2,hj2⟩
 replace H:=H.joinR hj2;clear hj2
 simp only[Co.a,Co.mk.injEq]at ha2
 obtain⟨e1,e2,e3,hma,-,-⟩:=ha2
 obtain rfl:ck=ck2:=e1.symm
 obtain rfl:nx=nx2:=e2.symm
 obtain rfl:wt=wt2:=e3.symm
 dsimp only at ho2 hp2 hoc2 hpc2 H
 rw[hi]
 refine G (Yu Z)<|G (Xa Z Z)<|G (Xi Z Z)<|G (Xi Z Z)<|bA H 1 (#[J ck,J nx,J wt,.slice A2 tx2.length c2]) aF Z Z Z Z Z N N fun w4 H=>G (Wi Z)<|G (Wi Z)<|U<|W<|Zb<|W<|Zr<|G (Yi Z)<|G (cv Z Z Z)<|G (Wb Z)<|U<|ZF Z<|W<|Zr<|G (Yi Z)<|G (dp Z Z I)<|G (Wb Z)<|U<|ZF Z<|W ?_
 obtain⟨t2,ht2,hta⟩:=rL hma ht
 have hl2:=(cy ht2).1
 obtain⟨g,cur,rfl,rfl,row⟩:=ho2.row I
 have hver:t2.ver=t.ver:=by show t2.a.ver=t.a.ver;rw[hta]
 refine Zr<|G (Zf cP Z)<|G (Zd dN H 1 Z Z Z)<|G (Yi Z)<|G (cR gW Z Z I)<|G (Zf gN Z)<|G (bU am row ht2 2 Z (H.ent (i:=2) Z) Z)<|G (Yi Z)<|G (lN Z Z I)<|G (Wb Z)<|U<|ZT Z<|W<|Zr<|G (bC (cs:= #[J 0,J 0,J 0,.slice none 0 0]) fH cI N)<|bA H 0 (#[J 0,J 0,J 0,.slice none 0 0]) aF Z Z Z Z Z N N fun w5 H=>G (Wi Z)<|G (Wi Z)<|U<|Zt ?_
 exact gM (cs0:= #[J 0,J 0,J 0,.slice none 0 0]) (v1:=J 0) (v2:=J 10) Z ax Z (H.ent (i:=0) Z) Z Z Z ⟨rfl,H.below⟩
theorem xe (c:Co) (s:ByteArray) (ver:Int) (i:Nat) (t:Tx) (w:World) (h:c.rd 0 w.heap.size w) (hok:gU c=true) (hn:bu s=true) (hi:fW c s=i) (ht:c.txs[i]? =some t) (hv:t.ver=ver):dt aa rT [c.v,.string s,J ver] w fun v w2=> ∃ (c':Co) (Lr Lp:List (Nat×Obj)),v=.tuple #[c'.v,J (i:Nat),J 0]/\qM w w2 c.a c' Lr Lp:=by
 refine aG qC Z Z ?_
 have hcap:=h.cap
 have hfew:=h.few
 have hfp:=h.fewP
 have H:=Hp.startCo h
 obtain⟨ck,nx,wt,txs,cA,cc⟩:=c
 dsimp only at hcap hfew hfp H
 show CW _ _ _ _ (args [.agg #[J ck,J nx,J wt,.slice cA txs.length cc],.string s,J ver]) w
 dsimp only at ht
 refine W<|Zr<|gY H Z Z fun w1 b3 H=>fc H cI Z fun w2 b6 H=>G (Wi Z)<|G (Wi Z)<|U<|W<|Zr<|G (Zw ax H 1 Z Z Z)<|G (Yt Z)<|cu iz (lT ⟨ck,nx,wt,txs,cA,cc⟩ s _ ⟨H.rd0 0 Z,fun t ht=>fF H 1 Z ht,hcap,hfew,hfp⟩ hok hn) Z Z ?_
 rintro _ w3 ⟨⟨ck2,nx2,wt2,tx2,A2,c2⟩,Lr,Lp,rfl,ha2,ho2,hp2,hoc2,hpc2,hj2⟩
 replace H:=H.joinR hj2;clear hj2
 simp only[Co.a,Co.mk.injEq]at ha2
 obtain⟨e1,e2,e3,hma,-,-⟩:=ha2
 obtain rfl:ck=ck2:=e1.symm
 obtain rfl:nx=nx2:=e2.symm
 obtain rfl:wt=wt2:=e3.symm
 dsimp only at ho2 hp2 hoc2 hpc2 H
 rw[hi]
 refine G (Yu Z)<|G (Xa Z Z)<|G (Xi Z Z)<|G (Xi Z Z)<|bA H 1 (#[J ck,J nx,J wt,.slice A2 tx2.length c2]) aF Z Z Z Z Z N N fun w4 H=>G (Wi Z)<|G (Wi Z)<|U<|W<|Zb<|W<|Zr<|G (Yi Z)<|G (cv Z Z Z)<|G (Wb Z)<|U<|ZF Z<|W<|Zr<|G (Yi Z)<|G (dp Z Z I)<|G (Wb Z)<|U<|ZF Z<|W ?_
 obtain⟨t2,ht2,hta⟩:=rL hma ht
 have hl2:=(cy ht2).1
 obtain⟨g,cur,rfl,rfl,row⟩:=ho2.row I
 have hver:t2.ver=t.ver:=by show t2.a.ver=t.a.ver;rw[hta]
 refine Zr<|G (Zf cP Z)<|G (Zd dN H 1 Z Z Z)<|G (Yi Z)<|G (cR gW Z Z I)<|G (Zf gN Z)<|G (bU am row ht2 2 Z (H.ent (i:=2) Z) Z)<|G (Yi Z)<|G (cv Z Z I)<|G (Wb Z)<|U<|ZF Z<|Zk<|W<|Zr<|G (Zw ax H 1 Z Z Z)<|G (Yi Z)<|bA H 0 (#[J ck,J nx,J wt,.slice (Qd g) tx2.length c2]) aF Z Z Z Z Z N N fun w5 H=>G (Wi Z)<|G (Wi Z)<|U<|Zt ?_
 exact gM (cs0:= #[J ck,J nx,J wt,.slice (Qd g) tx2.length c2]) (v1:=J (i:Nat)) (v2:=J 0) Z ax Z (H.ent (i:=0) Z) Z Z Z ⟨⟨ck,nx,wt,tx2,some ⟨g,0,none⟩,c2⟩,[(g,.cells cur dH (0,0))],Lp,rfl,by unfold Co.a;dsimp only;rw[hma],d7.own row,hp2,hoc2,hpc2,H.forget (.cons _ (.cons _ (aC _ _))) (by simp)⟩
/-- P5.5 -/
def eJ (want:Int) (t:Tx):Option Tx:=if t.state=2 then some {t with state:=want}else if t.state=1/\t.done=0 then some {t with done:=want}else if t.state=want∨(t.state=1/\t.done=want)then some t else none
def v8 (commit:Bool):Int:=if commit then 3 else 4
theorem eK.same {ts:List Tx} {L:List (Nat×Obj)} {i:Nat} {t t':Tx} (h:eK ts L) (hi:ts[i]? =some t) (h1:t'.A=t.A) (h2:t'.parts=t.parts) (h3:t'.cap=t.cap):eK (ts.set i t') L:=by
 obtain⟨La,Lt,Lb,rfl,ho,hs⟩:=h.at_ hi
 exact hs t' Lt (by rw[h1,h2,h3];exact ho)
theorem Jb {t t':Tx} (h:t'.a=t.a) (v:Int):({t' with state:=v}:Tx).a=({t with state:=v}:Tx).a:=congrArg (fun x:Tx=>({x with state:=v}:Tx)) h
theorem Ns {t t':Tx} (h:t'.a=t.a) (v:Int):({t' with done:=v}:Tx).a=({t with done:=v}:Tx).a:=congrArg (fun x:Tx=>({x with done:=v}:Tx)) h
theorem pG {txs tx2:List Tx} (h:tx2.map Tx.a=txs.map Tx.a) (i:Nat) {t t':Tx} (ht:t'.a=t.a):(tx2.set i t').map Tx.a=(txs.set i t).map Tx.a:=by rw[cU,cU,h,ht]
theorem sS {ts:List Tx} (h: ∀ t∈ts,t.parts.length<=t.cap) {i:Nat} {t t':Tx} (hi:ts[i]? =some t) (h2:t'.parts=t.parts) (h3:t'.cap=t.cap): ∀ x∈ts.set i t',x.parts.length<=x.cap:=fun x hx=>by
 rcases aA hx with hx|rfl
 exact h x hx
 rw[h2,h3];exact h t (ab hi)
theorem MV (c:Co) (s:ByteArray) (ver:Int) (i:Nat) (t:Tx) (w:World) (h:c.rd 0 w.heap.size w) (hok:gU c=true) (hn:bu s=true) (hi:fW c s=i) (ht:c.txs[i]? =some t) (hv:t.ver=ver):dt aa mb [c.v,.string s,J ver,.bool true] w fun v w2=>match eJ 3 t with|none=>v=.tuple #[.agg #[J 0,J 0,J 0,.slice none 0 0],J 12]/\Below w.heap.size w w2|some t'=> ∃ (c':Co) (Lr Lp:List (Nat×Obj)),v=.tuple #[c'.v,J 0]/\qM w w2 (Co.a {c with txs:=c.txs.set i t'}) c' Lr Lp:=by
 refine aG qa Z Z ?_
 have hcap:=h.cap
 have hfew:=h.few
 have hfp:=h.fewP
 have H:=Hp.startCo h
 obtain⟨ck,nx,wt,txs,cA,cc⟩:=c
 dsimp only at hcap hfew hfp H
 show CW _ _ _ _ (args [.agg #[J ck,J nx,J wt,.slice cA txs.length cc],.string s,J ver,.bool true]) w
 dsimp only at ht⊢
 refine W<|Zr<|gY H Z Z fun w1 b4 H=>fc H cI Z fun w2 b8 H=>G (Wi Z)<|U<|W<|Zr<|G (Zw ax H 1 Z Z Z)<|G (Yt Z)<|G (Yi Z)<|cu gT (xe ⟨ck,nx,wt,txs,cA,cc⟩ s ver i t _ ⟨H.rd0 0 Z,fun t ht=>fF H 1 Z ht,hcap,hfew,hfp⟩ hok hn hi ht hv) Z Z ?_
 rintro _ w3 ⟨⟨ck2,nx2,wt2,tx2,A2,c2⟩,Lr,Lp,rfl,ha2,ho2,hp2,hoc2,hpc2,hj2⟩
 replace H:=H.joinR hj2;clear hj2
 simp only[Co.a,Co.mk.injEq]at ha2
 obtain⟨e1,e2,e3,hma,-,-⟩:=ha2
 obtain rfl:ck=ck2:=e1.symm
 obtain rfl:nx=nx2:=e2.symm
 obtain rfl:wt=wt2:=e3.symm
 dsimp only at ho2 hp2 hoc2 hpc2 H
 refine G (Yu Z)<|G (Xa Z Z)<|G (Xi Z Z)<|G (Xi Z Z)<|bA H 1 (#[J ck,J nx,J wt,.slice A2 tx2.length c2]) aF Z Z Z Z Z N N fun w4 H=>G (Wi Z)<|G (Wi Z)<|U<|W<|W<|Zr<|G (Yi Z)<|G (cv Z Z Z)<|U<|ZF Z<|Zk<|W<|Zr<|G (Wi Z)<|U<|W<|W<|Zr<|G (Yb Z)<|U<|ZT Z<|Zr<|G (Wi Z)<|U<|W<|W ?_
 obtain⟨t2,ht2,hta⟩:=rL hma ht
 have hl2:=(cy ht2).1
 obtain⟨g,cur,rfl,rfl,row⟩:=ho2.row I
 have hst:t2.state=t.state:=by show t2.a.state=t.a.state;rw[hta]
 have hdn:t2.done=t.done:=by show t2.a.done=t.a.done;rw[hta]
 refine Zr<|G (Zf cP Z)<|G (Zd dN H 1 Z Z Z)<|G (Yi Z)<|G (cR gW Z Z I)<|G (Wp Z)<|U<|Zb<|W<|Zr<|G (Yp Z)<|G (aH Z)<|G (Zf cV Z)<|G (bU am row ht2 3 Z (H.ent (i:=2) Z) Z) ?_
 refine du (bv Z Z) Z Z Z (fun h37=> ?_) (fun h37=> ?_)
 refine G (Wb Z)<|U<|ZT Z<|Zr<|G (Yp Z)<|G (Yi Z)<|G (aH Z)<|G (Zf cV Z)<|ni H 2 ({t2 with state:=3}) bQ row ht2 3 Z Z Z Z Z Z N fun w6 cur5 row5 H=>U<|W<|Zr<|G (Zw ax H 1 Z Z Z)<|bA H 0 (#[J ck,J nx,J wt,.slice (Qd g) tx2.length c2]) aF Z Z Z Z Z N N fun w7 H=>G (Wi Z)<|U<|Zt ?_
 have hE:eJ 3 t=some {t with state:=3}:=by unfold eJ;rw[if_pos I]
 rw[hE]
 dsimp only
 exact ch (cs0:= #[J ck,J nx,J wt,.slice (Qd g) tx2.length c2]) (v1:=J 0) Z ax Z (H.ent (i:=0) Z) Z Z ⟨⟨ck,nx,wt,(tx2.set i {t2 with state:=3}),some ⟨g,0,none⟩,c2⟩,[(g,.cells cur5 dH (0,0))],Lp,by unfold Co.v Co.c;dsimp only;rw[ae],by unfold Co.a;dsimp only;rw[pG hma i (Jb hta _)],d7.own row5,hp2.same ht2 Z Z Z,by dsimp only;rw[ae];exact hoc2,sS hpc2 ht2 Z Z,H.forget (.cons _ (.cons _ (aC _ _))) (by simp)⟩
 refine G (Wb Z)<|U<|ZF Z<|W<|Zr<|G (Yp Z)<|G (aH Z)<|G (Zf cV Z)<|G (bU am row ht2 3 Z (H.ent (i:=2) Z) Z) ?_
 refine du (bv Z Z) Z Z Z (fun h47=> ?_) (fun h47=> ?_)
 refine G (Yb Z)<|ZG<|G (Yp Z)<|ZG<|G (aH Z)<|ZG<|G (Zf jw Z)<|ZG<|G (bU am row ht2 6 Z (H.ent (i:=2) Z) Z)<|ZG ?_
 refine du (bv Z Z) Z Z Z (fun h53=> ?_) (fun h53=> ?_)
 refine G (Kt Z Z)<|G (Wb Z)<|U<|ZT Z<|Zr<|G (Yp Z)<|G (Yi Z)<|G (aH Z)<|G (Zf jw Z)<|ni H 2 ({t2 with done:=3}) bQ row ht2 6 Z Z Z Z Z Z N fun w9 cur8 row8 H=>U<|W<|Zr<|G (Zw ax H 1 Z Z Z)<|bA H 0 (#[J ck,J nx,J wt,.slice (Qd g) tx2.length c2]) aF Z Z Z Z Z N N fun w10 H=>G (Wi Z)<|U<|Zt ?_
 have hE:eJ 3 t=some {t with done:=3}:=by unfold eJ;rw[if_neg I,if_pos I]
 rw[hE]
 dsimp only
 exact ch (cs0:= #[J ck,J nx,J wt,.slice (Qd g) tx2.length c2]) (v1:=J 0) Z ax Z (H.ent (i:=0) Z) Z Z ⟨⟨ck,nx,wt,(tx2.set i {t2 with done:=3}),some ⟨g,0,none⟩,c2⟩,[(g,.cells cur8 dH (0,0))],Lp,by unfold Co.v Co.c;dsimp only;rw[ae],by unfold Co.a;dsimp only;rw[pG hma i (Ns hta _)],d7.own row8,hp2.same ht2 Z Z Z,by dsimp only;rw[ae];exact hoc2,sS hpc2 ht2 Z Z,H.forget (.cons _ (.cons _ (aC _ _))) (by simp)⟩
 refine G (Kt Z Z)<|G (Wb Z)<|U<|ZF Z<|W<|W<|Zr<|G (Yp Z)<|G (aH Z)<|G (Zf cV Z)<|G (bU am row ht2 3 Z (H.ent (i:=2) Z) Z)<|G (Yi Z) ?_
 refine du (bv Z Z) Z Z Z (fun h65=> ?_) (fun h65=> ?_)
 refine G (Wb Z)<|U<|ZT Z<|Zk<|ZT Z<|Zk<|W<|Zr<|G (Zw ax H 1 Z Z Z)<|bA H 0 (#[J ck,J nx,J wt,.slice (Qd g) tx2.length c2]) aF Z Z Z Z Z N N fun w11 H=>G (Wi Z)<|U<|Zt ?_
 have hE:eJ 3 t=some t:=by unfold eJ;rw[if_neg I,if_neg I,if_pos I]
 rw[hE]
 dsimp only
 exact ch (cs0:= #[J ck,J nx,J wt,.slice (Qd g) tx2.length c2]) (v1:=J 0) Z ax Z (H.ent (i:=0) Z) Z Z ⟨⟨ck,nx,wt,tx2,some ⟨g,0,none⟩,c2⟩,[(g,.cells cur dH (0,0))],Lp,rfl,by unfold Co.a;dsimp only;rw[i4 ht,hma],d7.own row,hp2,hoc2,hpc2,H.forget (.cons _ (.cons _ (aC _ _))) (by simp)⟩
 refine G (Wb Z)<|U<|ZF Z<|Zr<|G (Yp Z)<|G (aH Z)<|G (Zf cV Z)<|G (bU am row ht2 3 Z (H.ent (i:=2) Z) Z) ?_
 refine du (bv Z Z) Z Z Z (fun h70=> ?_) (fun h70=> ?_)
 refine G (Yb Z)<|ZG<|G (Yp Z)<|ZG<|G (aH Z)<|ZG<|G (Zf jw Z)<|ZG<|G (bU am row ht2 6 Z (H.ent (i:=2) Z) Z)<|ZG<|G (Yi Z)<|ZG ?_
 refine du (bv Z Z) Z Z Z (fun h77=> ?_) (fun h77=> ?_)
 refine G (Kt Z Z)<|G (Wb Z)<|U<|ZT Z<|Zk<|W<|Zr<|G (Zw ax H 1 Z Z Z)<|bA H 0 (#[J ck,J nx,J wt,.slice (Qd g) tx2.length c2]) aF Z Z Z Z Z N N fun w12 H=>G (Wi Z)<|U<|Zt ?_
 have hE:eJ 3 t=some t:=by unfold eJ;rw[if_neg I,if_neg I,if_pos I]
 rw[hE]
 dsimp only
 exact ch (cs0:= #[J ck,J nx,J wt,.slice (Qd g) tx2.length c2]) (v1:=J 0) Z ax Z (H.ent (i:=0) Z) Z Z ⟨⟨ck,nx,wt,tx2,some ⟨g,0,none⟩,c2⟩,[(g,.cells cur dH (0,0))],Lp,rfl,by unfold Co.a;dsimp only;rw[i4 ht,hma],d7.own row,hp2,hoc2,hpc2,H.forget (.cons _ (.cons _ (aC _ _))) (by simp)⟩
 refine G (Kt Z Z)<|G (Wb Z)<|U<|ZF Z<|W<|Zr<|G (bC (cs:= #[J 0,J 0,J 0,.slice none 0 0]) fH cI N)<|bA H 0 (#[J 0,J 0,J 0,.slice none 0 0]) aF Z Z Z Z Z N N fun w13 H=>G (Wi Z)<|U<|Zt ?_
 have hE:eJ 3 t=none:=by unfold eJ;rw[if_neg I,if_neg I,if_neg I]
 rw[hE]
 dsimp only
 exact ch (cs0:= #[J 0,J 0,J 0,.slice none 0 0]) (v1:=J 12) Z ax Z (H.ent (i:=0) Z) Z Z ⟨rfl,H.below⟩
 refine G (Yb Z)<|ZN<|ZN<|ZN<|ZN<|ZN<|ZN<|G (N Z Z)<|G (Wb Z)<|U<|ZF Z<|W<|Zr<|G (bC (cs:= #[J 0,J 0,J 0,.slice none 0 0]) fH cI N)<|bA H 0 (#[J 0,J 0,J 0,.slice none 0 0]) aF Z Z Z Z Z N N fun w14 H=>G (Wi Z)<|U<|Zt ?_
 have hE:eJ 3 t=none:=by unfold eJ;rw[if_neg I,if_neg I,if_neg I]
 rw[hE]
 dsimp only
 exact ch (cs0:= #[J 0,J 0,J 0,.slice none 0 0]) (v1:=J 12) Z ax Z (H.ent (i:=0) Z) Z Z ⟨rfl,H.below⟩
 refine G (Yb Z)<|ZN<|ZN<|ZN<|ZN<|ZN<|G (N Z Z)<|G (Wb Z)<|U<|ZF Z<|W<|W<|Zr<|G (Yp Z)<|G (aH Z)<|G (Zf cV Z)<|G (bU am row ht2 3 Z (H.ent (i:=2) Z) Z)<|G (Yi Z) ?_
 refine du (bv Z Z) Z Z Z (fun h65=> ?_) (fun h65=> ?_)
 refine G (Wb Z)<|U<|ZT Z<|Zk<|ZT Z<|Zk<|W<|Zr<|G (Zw ax H 1 Z Z Z)<|bA H 0 (#[J ck,J nx,J wt,.slice (Qd g) tx2.length c2]) aF Z Z Z Z Z N N fun w15 H=>G (Wi Z)<|U<|Zt ?_
 have hE:eJ 3 t=some t:=by unfold eJ;rw[if_neg I,if_neg I,if_pos I]
 rw[hE]
 dsimp only
 exact ch (cs0:= #[J ck,J nx,J wt,.slice (Qd g) tx2.length c2]) (v1:=J 0) Z ax Z (H.ent (i:=0) Z) Z Z ⟨⟨ck,nx,wt,tx2,some ⟨g,0,none⟩,c2⟩,[(g,.cells cur dH (0,0))],Lp,rfl,by unfold Co.a;dsimp only;rw[i4 ht,hma],d7.own row,hp2,hoc2,hpc2,H.forget (.cons _ (.cons _ (aC _ _))) (by simp)⟩
 refine G (Wb Z)<|U<|ZF Z<|Zr<|G (Yp Z)<|G (aH Z)<|G (Zf cV Z)<|G (bU am row ht2 3 Z (H.ent (i:=2) Z) Z) ?_
 refine du (bv Z Z) Z Z Z (fun h70=> ?_) (fun h70=> ?_)
 refine G (Yb Z)<|ZG<|G (Yp Z)<|ZG<|G (aH Z)<|ZG<|G (Zf jw Z)<|ZG<|G (bU am row ht2 6 Z (H.ent (i:=2) Z) Z)<|ZG<|G (Yi Z)<|ZG ?_
 refine du (bv Z Z) Z Z Z (fun h77=> ?_) (fun h77=> ?_)
 refine G (Kt Z Z)<|G (Wb Z)<|U<|ZT Z<|Zk<|W<|Zr<|G (Zw ax H 1 Z Z Z)<|bA H 0 (#[J ck,J nx,J wt,.slice (Qd g) tx2.length c2]) aF Z Z Z Z Z N N fun w16 H=>G (Wi Z)<|U<|Zt ?_
 have hE:eJ 3 t=some t:=by unfold eJ;rw[if_neg I,if_neg I,if_pos I]
 rw[hE]
 dsimp only
 exact ch (cs0:= #[J ck,J nx,J wt,.slice (Qd g) tx2.length c2]) (v1:=J 0) Z ax Z (H.ent (i:=0) Z) Z Z ⟨⟨ck,nx,wt,tx2,some ⟨g,0,none⟩,c2⟩,[(g,.cells cur dH (0,0))],Lp,rfl,by unfold Co.a;dsimp only;rw[i4 ht,hma],d7.own row,hp2,hoc2,hpc2,H.forget (.cons _ (.cons _ (aC _ _))) (by simp)⟩
 refine G (Kt Z Z)<|G (Wb Z)<|U<|ZF Z<|W<|Zr<|G (bC (cs:= #[J 0,J 0,J 0,.slice none 0 0]) fH cI N)<|bA H 0 (#[J 0,J 0,J 0,.slice none 0 0]) aF Z Z Z Z Z N N fun w17 H=>G (Wi Z)<|U<|Zt ?_
 have hE:eJ 3 t=none:=by unfold eJ;rw[if_neg I,if_neg I,if_neg I]
 rw[hE]
 dsimp only
 exact ch (cs0:= #[J 0,J 0,J 0,.slice none 0 0]) (v1:=J 12) Z ax Z (H.ent (i:=0) Z) Z Z ⟨rfl,H.below⟩
 refine G (Yb Z)<|ZN<|ZN<|ZN<|ZN<|ZN<|ZN<|G (N Z Z)<|G (Wb Z)<|U<|ZF Z<|W<|Zr<|G (bC (cs:= #[J 0,J 0,J 0,.slice none 0 0]) fH cI N)<|bA H 0 (#[J 0,J 0,J 0,.slice none 0 0]) aF Z Z Z Z Z N N fun w18 H=>G (Wi Z)<|U<|Zt ?_
 have hE:eJ 3 t=none:=by unfold eJ;rw[if_neg I,if_neg I,if_neg I]
 rw[hE]
 dsimp only
 exact ch (cs0:= #[J 0,J 0,J 0,.slice none 0 0]) (v1:=J 12) Z ax Z (H.ent (i:=0) Z) Z Z ⟨rfl,H.below⟩
theorem Kj (c:Co) (s:ByteArray) (ver:Int) (i:Nat) (t:Tx) (w:World) (h:c.rd 0 w.heap.size w) (hok:gU c=true) (hn:bu s=true) (hi:fW c s=i) (ht:c.txs[i]? =some t) (hv:t.ver=ver):dt aa mb [c.v,.string s,J ver,.bool false] w fun v w2=>match eJ 4 t with|none=>v=.tuple #[.agg #[J 0,J 0,J 0,.slice none 0 0],J 12]/\Below w.heap.size w w2|some t'=> ∃ (c':Co) (Lr Lp:List (Nat×Obj)),v=.tuple #[c'.v,J 0]/\qM w w2 (Co.a {c with txs:=c.txs.set i t'}) c' Lr Lp:=by
 refine aG qa Z Z ?_
 have hcap:=h.cap
 have hfew:=h.few
 have hfp:=h.fewP
 have H:=Hp.startCo h
 obtain⟨ck,nx,wt,txs,cA,cc⟩:=c
 dsimp only at hcap hfew hfp H
 show CW _ _ _ _ (args [.agg #[J ck,J nx,J wt,.slice cA txs.length cc],.string s,J ver,.bool false]) w
 dsimp only at ht⊢
 refine W<|Zr<|gY H Z Z fun w1 b4 H=>fc H cI Z fun w2 b8 H=>G (Wi Z)<|U<|W<|Zr<|G (Zw ax H 1 Z Z Z)<|G (Yt Z)<|G (Yi Z)<|cu gT (xe ⟨ck,nx,wt,txs,cA,cc⟩ s ver i t _ ⟨H.rd0 0 Z,fun t ht=>fF H 1 Z ht,hcap,hfew,hfp⟩ hok hn hi ht hv) Z Z ?_
 rintro _ w3 ⟨⟨ck2,nx2,wt2,tx2,A2,c2⟩,Lr,Lp,rfl,ha2,ho2,hp2,hoc2,hpc2,hj2⟩
 replace H:=H.joinR hj2;clear hj2
 simp only[Co.a,Co.mk.injEq]at ha2
 obtain⟨e1,e2,e3,hma,-,-⟩:=ha2
 obtain rfl:ck=ck2:=e1.symm
 obtain rfl:nx=nx2:=e2.symm
 obtain rfl:wt=wt2:=e3.symm
 dsimp only at ho2 hp2 hoc2 hpc2 H
 refine G (Yu Z)<|G (Xa Z Z)<|G (Xi Z Z)<|G (Xi Z Z)<|bA H 1 (#[J ck,J nx,J wt,.slice A2 tx2.length c2]) aF Z Z Z Z Z N N fun w4 H=>G (Wi Z)<|G (Wi Z)<|U<|W<|W<|Zr<|G (Yi Z)<|G (cv Z Z Z)<|U<|ZF Z<|Zk<|W<|Zr<|G (Wi Z)<|U<|W<|W<|Zr<|G (Yb Z)<|U<|ZF Z<|Zk<|W<|W ?_
 obtain⟨t2,ht2,hta⟩:=rL hma ht
 have hl2:=(cy ht2).1
 obtain⟨g,cur,rfl,rfl,row⟩:=ho2.row I
 have hst:t2.state=t.state:=by show t2.a.state=t.a.state;rw[hta]
 have hdn:t2.done=t.done:=by show t2.a.done=t.a.done;rw[hta]
 refine Zr<|G (Zf cP Z)<|G (Zd dN H 1 Z Z Z)<|G (Yi Z)<|G (cR gW Z Z I)<|G (Wp Z)<|U<|Zb<|W<|Zr<|G (Yp Z)<|G (aH Z)<|G (Zf cV Z)<|G (bU am row ht2 3 Z (H.ent (i:=2) Z) Z) ?_
 refine du (bv Z Z) Z Z Z (fun h37=> ?_) (fun h37=> ?_)
 refine G (Wb Z)<|U<|ZT Z<|Zr<|G (Yp Z)<|G (Yi Z)<|G (aH Z)<|G (Zf cV Z)<|ni H 2 ({t2 with state:=4}) bQ row ht2 3 Z Z Z Z Z Z N fun w6 cur5 row5 H=>U<|W<|Zr<|G (Zw ax H 1 Z Z Z)<|bA H 0 (#[J ck,J nx,J wt,.slice (Qd g) tx2.length c2]) aF Z Z Z Z Z N N fun w7 H=>G (Wi Z)<|U<|Zt ?_
 have hE:eJ 4 t=some {t with state:=4}:=by unfold eJ;rw[if_pos I]
 rw[hE]
 dsimp only
 exact ch (cs0:= #[J ck,J nx,J wt,.slice (Qd g) tx2.length c2]) (v1:=J 0) Z ax Z (H.ent (i:=0) Z) Z Z ⟨⟨ck,nx,wt,(tx2.set i {t2 with state:=4}),some ⟨g,0,none⟩,c2⟩,[(g,.cells cur5 dH (0,0))],Lp,by unfold Co.v Co.c;dsimp only;rw[ae],by unfold Co.a;dsimp only;rw[pG hma i (Jb hta _)],d7.own row5,hp2.same ht2 Z Z Z,by dsimp only;rw[ae];exact hoc2,sS hpc2 ht2 Z Z,H.forget (.cons _ (.cons _ (aC _ _))) (by simp)⟩
 refine G (Wb Z)<|U<|ZF Z<|W<|Zr<|G (Yp Z)<|G (aH Z)<|G (Zf cV Z)<|G (bU am row ht2 3 Z (H.ent (i:=2) Z) Z) ?_
 refine du (bv Z Z) Z Z Z (fun h47=> ?_) (fun h47=> ?_)
 refine G (Yb Z)<|ZG<|G (Yp Z)<|ZG<|G (aH Z)<|ZG<|G (Zf jw Z)<|ZG<|G (bU am row ht2 6 Z (H.ent (i:=2) Z) Z)<|ZG ?_
 refine du (bv Z Z) Z Z Z (fun h53=> ?_) (fun h53=> ?_)
 refine G (Kt Z Z)<|G (Wb Z)<|U<|ZT Z<|Zr<|G (Yp Z)<|G (Yi Z)<|G (aH Z)<|G (Zf jw Z)<|ni H 2 ({t2 with done:=4}) bQ row ht2 6 Z Z Z Z Z Z N fun w9 cur8 row8 H=>U<|W<|Zr<|G (Zw ax H 1 Z Z Z)<|bA H 0 (#[J ck,J nx,J wt,.slice (Qd g) tx2.length c2]) aF Z Z Z Z Z N N fun w10 H=>G (Wi Z)<|U<|Zt ?_
 have hE:eJ 4 t=some {t with done:=4}:=by unfold eJ;rw[if_neg I,if_pos I]
 rw[hE]
 dsimp only
 exact ch (cs0:= #[J ck,J nx,J wt,.slice (Qd g) tx2.length c2]) (v1:=J 0) Z ax Z (H.ent (i:=0) Z) Z Z ⟨⟨ck,nx,wt,(tx2.set i {t2 with done:=4}),some ⟨g,0,none⟩,c2⟩,[(g,.cells cur8 dH (0,0))],Lp,by unfold Co.v Co.c;dsimp only;rw[ae],by unfold Co.a;dsimp only;rw[pG hma i (Ns hta _)],d7.own row8,hp2.same ht2 Z Z Z,by dsimp only;rw[ae];exact hoc2,sS hpc2 ht2 Z Z,H.forget (.cons _ (.cons _ (aC _ _))) (by simp)⟩
 refine G (Kt Z Z)<|G (Wb Z)<|U<|ZF Z<|W<|W<|Zr<|G (Yp Z)<|G (aH Z)<|G (Zf cV Z)<|G (bU am row ht2 3 Z (H.ent (i:=2) Z) Z)<|G (Yi Z) ?_
 refine du (bv Z Z) Z Z Z (fun h65=> ?_) (fun h65=> ?_)
 refine G (Wb Z)<|U<|ZT Z<|Zk<|ZT Z<|Zk<|W<|Zr<|G (Zw ax H 1 Z Z Z)<|bA H 0 (#[J ck,J nx,J wt,.slice (Qd g) tx2.length c2]) aF Z Z Z Z Z N N fun w11 H=>G (Wi Z)<|U<|Zt ?_
 have hE:eJ 4 t=some t:=by unfold eJ;rw[if_neg I,if_neg I,if_pos I]
 rw[hE]
 dsimp only
 exact ch (cs0:= #[J ck,J nx,J wt,.slice (Qd g) tx2.length c2]) (v1:=J 0) Z ax Z (H.ent (i:=0) Z) Z Z ⟨⟨ck,nx,wt,tx2,some ⟨g,0,none⟩,c2⟩,[(g,.cells cur dH (0,0))],Lp,rfl,by unfold Co.a;dsimp only;rw[i4 ht,hma],d7.own row,hp2,hoc2,hpc2,H.forget (.cons _ (.cons _ (aC _ _))) (by simp)⟩
 refine G (Wb Z)<|U<|ZF Z<|Zr<|G (Yp Z)<|G (aH Z)<|G (Zf cV Z)<|G (bU am row ht2 3 Z (H.ent (i:=2) Z) Z) ?_
 refine du (bv Z Z) Z Z Z (fun h70=> ?_) (fun h70=> ?_)
 refine G (Yb Z)<|ZG<|G (Yp Z)<|ZG<|G (aH Z)<|ZG<|G (Zf jw Z)<|ZG<|G (bU am row ht2 6 Z (H.ent (i:=2) Z) Z)<|ZG<|G (Yi Z)<|ZG ?_
 refine du (bv Z Z) Z Z Z (fun h77=> ?_) (fun h77=> ?_)
 refine G (Kt Z Z)<|G (Wb Z)<|U<|ZT Z<|Zk<|W<|Zr<|G (Zw ax H 1 Z Z Z)<|bA H 0 (#[J ck,J nx,J wt,.slice (Qd g) tx2.length c2]) aF Z Z Z Z Z N N fun w12 H=>G (Wi Z)<|U<|Zt ?_
 have hE:eJ 4 t=some t:=by unfold eJ;rw[if_neg I,if_neg I,if_pos I]
 rw[hE]
 dsimp only
 exact ch (cs0:= #[J ck,J nx,J wt,.slice (Qd g) tx2.length c2]) (v1:=J 0) Z ax Z (H.ent (i:=0) Z) Z Z ⟨⟨ck,nx,wt,tx2,some ⟨g,0,none⟩,c2⟩,[(g,.cells cur dH (0,0))],Lp,rfl,by unfold Co.a;dsimp only;rw[i4 ht,hma],d7.own row,hp2,hoc2,hpc2,H.forget (.cons _ (.cons _ (aC _ _))) (by simp)⟩
 refine G (Kt Z Z)<|G (Wb Z)<|U<|ZF Z<|W<|Zr<|G (bC (cs:= #[J 0,J 0,J 0,.slice none 0 0]) fH cI N)<|bA H 0 (#[J 0,J 0,J 0,.slice none 0 0]) aF Z Z Z Z Z N N fun w13 H=>G (Wi Z)<|U<|Zt ?_
 have hE:eJ 4 t=none:=by unfold eJ;rw[if_neg I,if_neg I,if_neg I]
 rw[hE]
 dsimp only
 exact ch (cs0:= #[J 0,J 0,J 0,.slice none 0 0]) (v1:=J 12) Z ax Z (H.ent (i:=0) Z) Z Z ⟨rfl,H.below⟩
 refine G (Yb Z)<|ZN<|ZN<|ZN<|ZN<|ZN<|ZN<|G (N Z Z)<|G (Wb Z)<|U<|ZF Z<|W<|Zr<|G (bC (cs:= #[J 0,J 0,J 0,.slice none 0 0]) fH cI N)<|bA H 0 (#[J 0,J 0,J 0,.slice none 0 0]) aF Z Z Z Z Z N N fun w14 H=>G (Wi Z)<|U<|Zt ?_
 have hE:eJ 4 t=none:=by unfold eJ;rw[if_neg I,if_neg I,if_neg I]
 rw[hE]
 dsimp only
 exact ch (cs0:= #[J 0,J 0,J 0,.slice none 0 0]) (v1:=J 12) Z ax Z (H.ent (i:=0) Z) Z Z ⟨rfl,H.below⟩
 refine G (Yb Z)<|ZN<|ZN<|ZN<|ZN<|ZN<|G (N Z Z)<|G (Wb Z)<|U<|ZF Z<|W<|W<|Zr<|G (Yp Z)<|G (aH Z)<|G (Zf cV Z)<|G (bU am row ht2 3 Z (H.ent (i:=2) Z) Z)<|G (Yi Z) ?_
 refine du (bv Z Z) Z Z Z (fun h65=> ?_) (fun h65=> ?_)
 refine G (Wb Z)<|U<|ZT Z<|Zk<|ZT Z<|Zk<|W<|Zr<|G (Zw ax H 1 Z Z Z)<|bA H 0 (#[J ck,J nx,J wt,.slice (Qd g) tx2.length c2]) aF Z Z Z Z Z N N fun w15 H=>G (Wi Z)<|U<|Zt ?_
 have hE:eJ 4 t=some t:=by unfold eJ;rw[if_neg I,if_neg I,if_pos I]
 rw[hE]
 dsimp only
 exact ch (cs0:= #[J ck,J nx,J wt,.slice (Qd g) tx2.length c2]) (v1:=J 0) Z ax Z (H.ent (i:=0) Z) Z Z ⟨⟨ck,nx,wt,tx2,some ⟨g,0,none⟩,c2⟩,[(g,.cells cur dH (0,0))],Lp,rfl,by unfold Co.a;dsimp only;rw[i4 ht,hma],d7.own row,hp2,hoc2,hpc2,H.forget (.cons _ (.cons _ (aC _ _))) (by simp)⟩
 refine G (Wb Z)<|U<|ZF Z<|Zr<|G (Yp Z)<|G (aH Z)<|G (Zf cV Z)<|G (bU am row ht2 3 Z (H.ent (i:=2) Z) Z) ?_
 refine du (bv Z Z) Z Z Z (fun h70=> ?_) (fun h70=> ?_)
 refine G (Yb Z)<|ZG<|G (Yp Z)<|ZG<|G (aH Z)<|ZG<|G (Zf jw Z)<|ZG<|G (bU am row ht2 6 Z (H.ent (i:=2) Z) Z)<|ZG<|G (Yi Z)<|ZG ?_
 refine du (bv Z Z) Z Z Z (fun h77=> ?_) (fun h77=> ?_)
 refine G (Kt Z Z)<|G (Wb Z)<|U<|ZT Z<|Zk<|W<|Zr<|G (Zw ax H 1 Z Z Z)<|bA H 0 (#[J ck,J nx,J wt,.slice (Qd g) tx2.length c2]) aF Z Z Z Z Z N N fun w16 H=>G (Wi Z)<|U<|Zt ?_
 have hE:eJ 4 t=some t:=by unfold eJ;rw[if_neg I,if_neg I,if_pos I]
 rw[hE]
 dsimp only
 exact ch (cs0:= #[J ck,J nx,J wt,.slice (Qd g) tx2.length c2]) (v1:=J 0) Z ax Z (H.ent (i:=0) Z) Z Z ⟨⟨ck,nx,wt,tx2,some ⟨g,0,none⟩,c2⟩,[(g,.cells cur dH (0,0))],Lp,rfl,by unfold Co.a;dsimp only;rw[i4 ht,hma],d7.own row,hp2,hoc2,hpc2,H.forget (.cons _ (.cons _ (aC _ _))) (by simp)⟩
 refine G (Kt Z Z)<|G (Wb Z)<|U<|ZF Z<|W<|Zr<|G (bC (cs:= #[J 0,J 0,J 0,.slice none 0 0]) fH cI N)<|bA H 0 (#[J 0,J 0,J 0,.slice none 0 0]) aF Z Z Z Z Z N N fun w17 H=>G (Wi Z)<|U<|Zt ?_
 have hE:eJ 4 t=none:=by unfold eJ;rw[if_neg I,if_neg I,if_neg I]
 rw[hE]
 dsimp only
 exact ch (cs0:= #[J 0,J 0,J 0,.slice none 0 0]) (v1:=J 12) Z ax Z (H.ent (i:=0) Z) Z Z ⟨rfl,H.below⟩
 refine G (Yb Z)<|ZN<|ZN<|ZN<|ZN<|ZN<|ZN<|G (N Z Z)<|G (Wb Z)<|U<|ZF Z<|W<|Zr<|G (bC (cs:= #[J 0,J 0,J 0,.slice none 0 0]) fH cI N)<|bA H 0 (#[J 0,J 0,J 0,.slice none 0 0]) aF Z Z Z Z Z N N fun w18 H=>G (Wi Z)<|U<|Zt ?_
 have hE:eJ 4 t=none:=by unfold eJ;rw[if_neg I,if_neg I,if_neg I]
 rw[hE]
 dsimp only
 exact ch (cs0:= #[J 0,J 0,J 0,.slice none 0 0]) (v1:=J 12) Z ax Z (H.ent (i:=0) Z) Z Z ⟨rfl,H.below⟩
/-- P5.7: what a tick does to one producer's transaction -/
def fy (clock wait:Int) (t:Tx):Tx:=if t.state=2/\wait<=clock-t.since/\t.ver<1073741824 then{t with state:=4,ver:=t.ver+1}else t
theorem K5 (ck wt:Int) (t:Tx):(fy ck wt t).a=fy ck wt t.a:=by
 unfold fy
 by_cases h:t.state=2/\wt<=ck-t.since/\t.ver<1073741824
 rw[if_pos h,if_pos (show t.a.state=2/\wt<=ck-t.a.since/\t.a.ver<1073741824 from h)];rfl
 rw[if_neg h,if_neg (show¬ (t.a.state=2/\wt<=ck-t.a.since/\t.a.ver<1073741824)from h)]
theorem C0 (ck wt:Int) (t:Tx):(fy ck wt t).A=t.A/\(fy ck wt t).parts=t.parts/\(fy ck wt t).cap=t.cap:=by
 unfold fy
 split<;>exact⟨rfl,rfl,rfl⟩
theorem eK.tick (ck wt:Int): ∀ {ts:List Tx} {L:List (Nat×Obj)},eK ts L->eK (ts.map (fy ck wt)) L
 |[],_,h=>h
 |t::_,_,⟨L1,L2,h1,h2,h3⟩=>⟨L1,L2,h1,by obtain⟨a,b,c⟩:=C0 ck wt t;rw[a,b,c];exact h2,eK.tick ck wt h3⟩
def mI (ck wt:Int) (ts:List Tx) (k:Nat):List Tx:=(ts.take k).map (fy ck wt)++ts.drop k
theorem Ac (ck wt:Int) (ts:List Tx) (k:Nat):(mI ck wt ts k).length=ts.length:=by
 unfold mI;simp;omega
theorem Jn {ck wt:Int} {ts:List Tx} {k:Nat} {x:Tx} (h:ts[k]? =some x):(mI ck wt ts k)[k]? =some x:=by
 have:=(cy h).1
 unfold mI
 rw[cG (by simp;omega)]
 simp
 rw[show k-min k ts.length=0 by omega]
 simpa using h
theorem s6 {ck wt:Int} {ts:List Tx} {k:Nat} {x:Tx} (h:ts[k]? =some x):(mI ck wt ts k).set k (fy ck wt x)=mI ck wt ts (k+1):=by
 have hl:=(cy h).1
 unfold mI
 rw[d6 h,cM h,bk,jo _ _ (by simp;omega)]
 simp
 rw[show k-min k ts.length=0 by omega]
 simp
theorem uZ {ck nx:Int}: ∀ {l pre:List Tx},oq ck nx pre l=true-> ∀ t∈l,fQ ck nx t=true
 |[],_,_,_,ht=>by cases ht
 |x::l,pre,h,t,ht=>by
  unfold oq at h
  simp only[aQ]at h
  rcases av.1 ht with rfl|ht
  exact h.1.1
  exact uZ h.2 t ht
def v9 (c:Co) (n:Int):Co:={c with clock:=c.clock+n,txs:=c.txs.map (fy (c.clock+n) c.wait)}
theorem NB (c:Co) (n:Int) (w:World) (h:c.rd 0 w.heap.size w) (hok:gU c=true) (hn0:0<=n) (hn1:n<=1000) (hcl:c.clock+n<=1073741824):dt aa tm [c.v,J n] w fun v w2=> ∃ (c':Co) (Lr Lp:List (Nat×Obj)),v=.tuple #[c'.v,J 0]/\qM w w2 (v9 c.a n) c' Lr Lp:=by
 refine aG vL Z Z ?_
 have hcap:=h.cap
 have hfew:=h.few
 have hfp:=h.fewP
 have H:=Hp.startCo h
 obtain⟨ck,nx,wt,txs,cA,cc⟩:=c
 dsimp only at hcap hfew hfp H
 show CW _ _ _ _ (args [.agg #[J ck,J nx,J wt,.slice cA txs.length cc],J n]) w
 dsimp only at hcl
 obtain⟨q1,q2,q3,q4,q5,q6,q7⟩:=je.1 hok
 dsimp only at q1 q2 q3 q4 q5 q6
 obtain⟨q8,q9⟩:=vh q1
 refine W<|Zr<|gY H Z Z fun w1 b2 H=>fc H cI Z fun w2 b4 H=>G (Wi Z)<|U<|W<|W<|Zr<|G (Zw ax H 1 Z Z Z)<|cu kJ (qE ⟨ck,nx,wt,txs,cA,cc⟩ _ ⟨H.rd0 0 Z,fun t ht=>fF H 1 Z ht,hcap,hfew,hfp⟩) Z Z ?_
 rw[hok]
 rintro _ w3 ⟨rfl,hb⟩;replace H:=H.later hb;clear hb
 refine G (Wi Z)<|U<|W<|Zr<|G (Yi Z)<|G (cv Z Z Z)<|U<|ZF Z<|Zk<|W<|W<|Zr<|G (Yi Z)<|G (dp Z Z I)<|G (Yb Z)<|ZG<|G (Yi Z)<|ZG<|G (eB Z Z I)<|G (N Z Z)<|G (Yb Z)<|ZG<|G (Zf kF Z)<|ZG<|G (Zd am H 1 Z Z Z)<|ZG<|G (Yi Z)<|ZG<|G (bp Z Z I I)<|ZG<|G (eB Z Z I)<|G (N Z Z)<|U<|ZF Z<|Zk<|W<|Zr<|G (Zw ax H 1 Z Z Z)<|cu ji (tG ⟨ck,nx,wt,txs,cA,cc⟩ _ ⟨H.rd0 0 Z,fun t ht=>fF H 1 Z ht,hcap,hfew,hfp⟩) Z Z ?_
 rintro _ w4 ⟨⟨ck2,nx2,wt2,tx2,A2,c2⟩,Lr,Lp,rfl,ha2,ho2,hp2,hoc2,hpc2,hj2⟩
 replace H:=H.joinR hj2;clear hj2
 simp only[Co.a,Co.mk.injEq]at ha2
 obtain⟨e1,e2,e3,hma,-,-⟩:=ha2
 obtain rfl:ck=ck2:=e1.symm
 obtain rfl:nx=nx2:=e2.symm
 obtain rfl:wt=wt2:=e3.symm
 dsimp only at ho2 hp2 hoc2 hpc2 H
 have hlen2:tx2.length=txs.length:=by have:=congrArg da hma;simpa using this
 refine bA H 1 (#[J ck,J nx,J wt,.slice A2 tx2.length c2]) aF Z Z Z Z Z N N fun w5 H=>U<|W<|Zr<|G (Zf kF Z)<|G (Zd am H 1 Z Z Z)<|G (Yi Z)<|G (bp Z Z I I)<|G (Zf kF Z)<|bA H 1 (#[J (ck+n),J nx,J wt,.slice A2 tx2.length c2]) bQ Z Z Z Z Z N N fun w6 H=>U<|W<|W<|Zr<|G (Zf cP Z)<|G (Zd dN H 1 Z Z Z)<|G (bh lx Z)<|G (Yi Z)<|U<|Zb ?_
 refine cf (τ:=Nat×Option Addr) [7,8,39,40,41,42,43,44,45,46,47,48,49,50,51,52,53,54,55,56,57,58,59,60,61,62,63,64,65,66,67,68,69,70,71,72,73,74,75,76,77,78,79,80] (fun(k,_)=>[(39,J (k:Nat))]) (fun(k,A2) w'=>k<=tx2.length/\ ∃ L',gG sr (.slice A2 (mI (ck+n) wt tx2 k).length c2) dH (mI (ck+n) wt tx2 k) L'/\Hp w w' ([(b4,.cells #[J 0,J 0,J 0,.slice none 0 0] aX (0,0)),(b2,.cells #[J (ck+n),J nx,J wt,.slice A2 tx2.length c2] aX (0,0))]++L'++(Lp++[])) [ey sr 0 w.heap.size cA txs,iU 0 w.heap.size txs]) (fun(k,_)=>tx2.length-k) (0,A2) ⟨by omega,Lr,by unfold mI;simpa using ho2,by show Hp w _ (_::_::(Lr++(Lp++[]))) _;rw[<-aB];exact H⟩ (dR Z) ?_
 rintro⟨k,A2⟩ ρ1 w7 ⟨hk,L1,ho,H⟩
 show CW _ _ _ _ (dK (ia _ _ ρ1) [(39,J (k:Nat))]) w7
 refine W<|Zr ?_
 refine du (cO Z Z) Z Z Z (fun h40=> ?_) (fun h40=> ?_)
 refine U<|W<|ZT Z<|Zk<|W<|Zb<|W ?_
 obtain⟨x,hxt⟩: ∃ x,tx2[k]? =some x:=⟨_,aj I⟩
 have hx:=Jn (ck:=ck+n) (wt:=wt) hxt
 have htl:=Ac (ck+n) wt tx2 k
 obtain⟨g,cur,rfl,rfl,row⟩:=ho.row I
 obtain⟨t,ht,hta⟩:=rL hma.symm hxt
 have hxo:fQ ck nx x=true:=by have h1:fQ ck nx t.a=true:=uZ q7 t (ab ht);rw[hta]at h1;exact h1
 obtain⟨a1,a2,a3,a4,a5,a6,a7,a8,a9,a10,a11⟩:=cd.1 hxo
 obtain⟨v1,v2⟩:=vh a4
 refine Zr<|G (Yi Z)<|G (Wi Z)<|U<|W<|Zr<|G (Zf cP Z)<|G (Zd dN H 1 Z Z Z)<|G (Yi Z)<|G (cR gW Z Z I)<|G (Wp Z)<|U<|W ?_
 refine bL cD [0,1,2,3,4,5,6,7,8,9,10,11,12,13,14,15,16,17,18,19,20,21,22,23] [] [] [0,1,2,4,5,6,8,9,10,12,13,15,16,17,18,19,20,22,23] (sp []) N N N N Nq (cQ _) ?_
 refine aw Z Z Z Z Z (fun w' hw'=>Yp Z)<|aw Z Z Z Z Z (fun w' hw'=>aH Z)<|aw Z Z Z Z Z (fun w' hw'=>Zf cV Z)<|aw Z Z Z Z Z (fun w' hw'=>bU am row hx 3 Z ((H.later hw').ent (i:=2) Z) Z) ?_
 refine CN Z Z Z Z Z (fun w' hw'=>bv Z Z) (fun h50=> ?_) (fun h50=> ?_)
 refine aw Z Z Z Z Z (fun w' hw'=>Yb Z)<|aw Z Z Z Z Z (fun w' hw'=>Zf kF Z)<|aw Z Z Z Z Z (fun w' hw'=>bi am Z (aJ ((H.later hw').ent (i:=1) Z) Z))<|aw Z Z Z Z Z (fun w' hw'=>Yp Z)<|aw Z Z Z Z Z (fun w' hw'=>aH Z)<|aw Z Z Z Z Z (fun w' hw'=>Zf uD Z)<|aw Z Z Z Z Z (fun w' hw'=>bU am row hx 5 Z ((H.later hw').ent (i:=2) Z) Z)<|aw Z Z Z Z Z (fun w' hw'=>lX Z Z I I)<|aw Z Z Z Z Z (fun w' hw'=>Zf wE Z)<|aw Z Z Z Z Z (fun w' hw'=>bi am Z (aJ ((H.later hw').ent (i:=1) Z) Z)) ?_
 refine CN Z Z Z Z Z (fun w' hw'=>ku Z Z) (fun h61=> ?_) (fun h61=> ?_)
 refine aw Z Z Z Z Z (fun w' hw'=>Kt Z Z)<|aw Z Z Z Z Z (fun w' hw'=>Yb Z)<|aw Z Z Z Z Z (fun w' hw'=>Yp Z)<|aw Z Z Z Z Z (fun w' hw'=>aH Z)<|aw Z Z Z Z Z (fun w' hw'=>Zf gN Z)<|aw Z Z Z Z Z (fun w' hw'=>bU am row hx 2 Z ((H.later hw').ent (i:=2) Z) Z) ?_
 refine CN Z Z Z Z Z (fun w' hw'=>cO Z Z) (fun h68=> ?_) (fun h68=> ?_)
 refine aw Z Z Z Z Z (fun w' hw'=>Kt Z Z)<|aU ?_
 intro w8 hw' hF
 replace H:=H.later hw';clear hw' hF
 refine U<|ZT Z<|W<|Zr<|G (Yp Z)<|G (aH Z)<|G (Zf cV Z)<|ni H 2 ({x with state:=4}) bQ row hx 3 Z Z Z Z Z Z N fun w10 cur9 row9 H=>U ?_
 have hx2:((mI (ck+n) wt tx2 k).set k {x with state:=4})[k]? =some {x with state:=4}:=al I
 have hv2:({x with state:=4}:Tx).ver=x.ver:=rfl
 refine Zr<|G (Yp Z)<|G (aH Z)<|G (Zf gN Z)<|G (bU am row9 hx2 2 Z (H.ent (i:=2) Z) Z)<|G (bp Z Z I I)<|G (aH Z)<|G (Zf gN Z)<|ni H 2 ({x with state:=4,ver:=x.ver+1}) bQ row9 hx2 2 Z Z Z Z Z Z N fun w12 cur11 row11 H=>U<|Zr<|G (bp Z Z I I)<|G (Yi Z)<|U ?_
 have hT:fy (ck+n) wt x={x with state:=4,ver:=x.ver+1}:=by unfold fy;rw[if_pos I]
 have hS:=s6 (ck:=ck+n) (wt:=wt) hxt
 rw[hT]at hS
 refine⟨(k+1,some ⟨g,0,none⟩),⟨by omega,_,by rw[<-hS];exact d7.own (by have:=row11;rwa[fR]at this),H⟩,dR Z,Qg,by show tx2.length- (k+1)<tx2.length-k;omega⟩
 refine aw Z Z Z Z Z (fun w' hw'=>Kt Z Z)<|aU ?_
 intro w13 hw' hF
 replace H:=H.later hw';clear hw' hF
 refine U<|ZF Z<|Zk<|Zr<|G (bp Z Z I I)<|G (Yi Z)<|U ?_
 have hT:fy (ck+n) wt x=x:=by unfold fy;rw[if_neg I]
 have hS:=s6 (ck:=ck+n) (wt:=wt) hxt
 rw[hT]at hS
 refine⟨(k+1,some ⟨g,0,none⟩),⟨by omega,_,by rw[<-hS];exact d7.own (by rw[i4 hx];exact row),H⟩,dR Z,Qg,by show tx2.length- (k+1)<tx2.length-k;omega⟩
 refine aw Z Z Z Z Z (fun w' hw'=>Kt Z Z)<|aw Z Z Z Z Z (fun w' hw'=>Yb Z)<|eZ Z Z Z Z<|eZ Z Z Z Z<|eZ Z Z Z Z<|eZ Z Z Z Z<|eZ Z Z Z Z<|aw Z Z Z Z Z (fun w' hw'=>N Z Z)<|aU ?_
 intro w14 hw' hF
 replace H:=H.later hw';clear hw' hF
 refine U<|ZF Z<|Zk<|Zr<|G (bp Z Z I I)<|G (Yi Z)<|U ?_
 have hT:fy (ck+n) wt x=x:=by unfold fy;rw[if_neg I]
 have hS:=s6 (ck:=ck+n) (wt:=wt) hxt
 rw[hT]at hS
 refine⟨(k+1,some ⟨g,0,none⟩),⟨by omega,_,by rw[<-hS];exact d7.own (by rw[i4 hx];exact row),H⟩,dR Z,Qg,by show tx2.length- (k+1)<tx2.length-k;omega⟩
 refine aw Z Z Z Z Z (fun w' hw'=>Yb Z)<|eZ Z Z Z Z<|eZ Z Z Z Z<|eZ Z Z Z Z<|eZ Z Z Z Z<|eZ Z Z Z Z<|eZ Z Z Z Z<|eZ Z Z Z Z<|eZ Z Z Z Z<|eZ Z Z Z Z<|eZ Z Z Z Z<|aw Z Z Z Z Z (fun w' hw'=>N Z Z)<|aw Z Z Z Z Z (fun w' hw'=>Yb Z)<|eZ Z Z Z Z<|eZ Z Z Z Z<|eZ Z Z Z Z<|eZ Z Z Z Z<|eZ Z Z Z Z<|aw Z Z Z Z Z (fun w' hw'=>N Z Z)<|aU ?_
 intro w15 hw' hF
 replace H:=H.later hw';clear hw' hF
 refine U<|ZF Z<|Zk<|Zr<|G (bp Z Z I I)<|G (Yi Z)<|U ?_
 have hT:fy (ck+n) wt x=x:=by unfold fy;rw[if_neg I]
 have hS:=s6 (ck:=ck+n) (wt:=wt) hxt
 rw[hT]at hS
 refine⟨(k+1,some ⟨g,0,none⟩),⟨by omega,_,by rw[<-hS];exact d7.own (by rw[i4 hx];exact row),H⟩,dR Z,Qg,by show tx2.length- (k+1)<tx2.length-k;omega⟩
 have hke:k=tx2.length:=by omega
 have hfin:mI (ck+n) wt tx2 k=tx2.map (fy (ck+n) wt):=by unfold mI;rw[hke,bJ,fC,aZ]
 have hfl:(mI (ck+n) wt tx2 k).length=tx2.length:=Ac _ _ _ _
 rw[hfin]at ho hfl
 have hTa:(tx2.map (fy (ck+n) wt)).map Tx.a=(txs.map Tx.a).map (fy (ck+n) wt):=by rw[<-hma,pM,pM];congr 1;funext t;exact K5 _ _ t
 refine U<|W<|ZF Z<|Zx<|W<|Zr<|G (Zw ax H 1 Z Z Z)<|bA H 0 (#[J (ck+n),J nx,J wt,.slice A2 tx2.length c2]) aF Z Z Z Z Z N N fun w16 H=>G (Wi Z)<|U<|Zt ?_
 exact ch (cs0:= #[J (ck+n),J nx,J wt,.slice A2 tx2.length c2]) (v1:=J 0) Z ax Z (H.ent (i:=0) Z) Z Z ⟨⟨ck+n,nx,wt,tx2.map (fy (ck+n) wt),A2,c2⟩,L1,Lp,by unfold Co.v Co.c;dsimp only;rw[bc],by unfold Co.a v9;dsimp only;rw[hTa],ho,hp2.tick _ _,by dsimp only;rw[bc];exact hoc2,by intro t ht;obtain⟨y,hy,rfl⟩:=bD.1 ht;obtain⟨a,b,c⟩:=C0 (ck+n) wt y;rw[b,c];exact hpc2 y hy,by simpa using H.forget (.cons _ (.cons _ (au _))) (F':=[]) (by simp)⟩
/-- P5.3: a producer that was there: its version rises, what is under way is aborted -/
def jf (t:Tx):Tx:=if t.state=2 then{t with state:=4,ver:=t.ver+1}else{t with ver:=t.ver+1}
theorem Mv {t t':Tx} (h:t'.a=t.a):(jf t').a=(jf t).a:=by
 have h1:t'.state=t.state:=by show t'.a.state=t.a.state;rw[h]
 unfold jf
 by_cases hs:t.state=2
 rw[if_pos (h1.trans hs),if_pos hs]
 exact congrArg (fun x:Tx=>({x with state:=4,ver:=x.ver+1}:Tx)) h
 rw[if_neg (fun q=>hs (h1.symm.trans q)),if_neg hs]
 exact congrArg (fun x:Tx=>({x with ver:=x.ver+1}:Tx)) h
theorem Hx (c:Co) (s:ByteArray) (i:Nat) (t:Tx) (w:World) (h:c.rd 0 w.heap.size w) (hok:gU c=true) (hn:bu s=true) (hi:fW c s=i) (ht:c.txs[i]? =some t) (h3:t.state≠3) (h4:t.state≠4) (hv0:0<=t.ver) (hv:t.ver<1073741824):dt aa mT [c.v,.string s] w fun v w2=> ∃ (c':Co) (Lr Lp:List (Nat×Obj)),v=.tuple #[c'.v,J t.pid,J (t.ver+1),J 0]/\qM w w2 (Co.a {c with txs:=c.txs.set i (jf t)}) c' Lr Lp:=by
 refine aG oe Z Z ?_
 have hcap:=h.cap
 have hfew:=h.few
 have hfp:=h.fewP
 have H:=Hp.startCo h
 obtain⟨ck,nx,wt,txs,cA,cc⟩:=c
 dsimp only at hcap hfew hfp H
 show CW _ _ _ _ (args [.agg #[J ck,J nx,J wt,.slice cA txs.length cc],.string s]) w
 dsimp only at ht⊢
 refine W<|Zr<|gY H Z Z fun w1 b2 H=>fc H cI Z fun w2 b4 H=>G (Wi Z)<|G (Wi Z)<|G (Wi Z)<|U<|W<|Zr<|G (Zw ax H 1 Z Z Z)<|G (Yt Z)<|cu iz (lT ⟨ck,nx,wt,txs,cA,cc⟩ s _ ⟨H.rd0 0 Z,fun t ht=>fF H 1 Z ht,hcap,hfew,hfp⟩ hok hn) Z Z ?_
 rintro _ w3 ⟨⟨ck2,nx2,wt2,tx2,A2,c2⟩,Lr,Lp,rfl,ha2,ho2,hp2,hoc2,hpc2,hj2⟩
 replace H:=H.joinR hj2;clear hj2
 simp only[Co.a,Co.mk.injEq]at ha2
 obtain⟨e1,e2,e3,hma,-,-⟩:=ha2
 obtain rfl:ck=ck2:=e1.symm
 obtain rfl:nx=nx2:=e2.symm
 obtain rfl:wt=wt2:=e3.symm
 dsimp only at ho2 hp2 hoc2 hpc2 H
 rw[hi]
 refine G (Yu Z)<|G (Xa Z Z)<|G (Xi Z Z)<|G (Xi Z Z)<|bA H 1 (#[J ck,J nx,J wt,.slice A2 tx2.length c2]) aF Z Z Z Z Z N N fun w4 H=>G (Wi Z)<|G (Wi Z)<|U<|W<|W<|Zr<|G (Yi Z)<|G (cv Z Z Z)<|U<|ZF Z<|Zk<|W<|W<|Zr<|G (Yi Z)<|G (dp Z Z I)<|U<|ZF Z<|Zk<|W ?_
 obtain⟨t2,ht2,hta⟩:=rL hma ht
 have hl2:=(cy ht2).1
 obtain⟨g,cur,rfl,rfl,row⟩:=ho2.row I
 have hst:t2.state=t.state:=by show t2.a.state=t.a.state;rw[hta]
 have hdn:t2.done=t.done:=by show t2.a.done=t.a.done;rw[hta]
 have hver:t2.ver=t.ver:=by show t2.a.ver=t.a.ver;rw[hta]
 have hpid:t2.pid=t.pid:=by show t2.a.pid=t.a.pid;rw[hta]
 refine Zr<|G (Zf cP Z)<|G (Zd dN H 1 Z Z Z)<|G (Yi Z)<|G (cR gW Z Z (by first|omega|(simp only[ae];omega)))<|G (Wp Z)<|U<|W<|Zb<|W<|Zr<|G (Yp Z)<|G (aH Z)<|G (Zf cV Z)<|G (bU am row ht2 3 Z (H.ent (i:=2) Z) Z)<|G (lS Z Z I)<|G (Yb Z)<|ZG<|G (Yp Z)<|ZG<|G (aH Z)<|ZG<|G (Zf cV Z)<|ZG<|G (bU am row ht2 3 Z (H.ent (i:=2) Z) Z)<|ZG<|G (lS Z Z I)<|G (N Z Z)<|G (Wb Z)<|U<|ZF Z<|W<|Zr<|G (Yp Z)<|G (aH Z)<|G (Zf gN Z)<|G (bU am row ht2 2 Z (H.ent (i:=2) Z) Z)<|G (lS Z Z I)<|G (Wb Z)<|U ?_
 refine ZF Z<|W<|Zr<|G (Yp Z)<|G (aH Z)<|G (Zf cV Z)<|G (bU am row ht2 3 Z (H.ent (i:=2) Z) Z) ?_
 refine du (bv Z Z) Z Z Z (fun h81=> ?_) (fun h81=> ?_)
 refine G (Wb Z)<|U<|ZT Z<|Zr<|G (Yp Z)<|G (aH Z)<|G (Zf cV Z)<|ni H 2 ({t2 with state:=4}) bQ row ht2 3 Z Z Z Z Z Z N fun w6 cur5 row5 H=>U<|W ?_
 have ht3:(tx2.set i {t2 with state:=4})[i]? =some {t2 with state:=4}:=al hl2
 have hv3:({t2 with state:=4}:Tx).ver=t2.ver:=rfl
 refine Zr<|G (Yp Z)<|G (aH Z)<|G (Zf gN Z)<|G (bU am row5 ht3 2 Z (H.ent (i:=2) Z) Z)<|G (bp Z Z I I)<|G (aH Z)<|G (Zf gN Z)<|ni H 2 ({t2 with state:=4,ver:=t2.ver+1}) bQ row5 ht3 2 Z Z Z Z Z Z N fun w8 cur7 row7 H=>U<|W ?_
 have ht4:(tx2.set i {t2 with state:=4,ver:=t2.ver+1})[i]? =some {t2 with state:=4,ver:=t2.ver+1}:=al hl2
 rw[fR]at row7
 refine tC cD (fun w'=>w'.heap[b2]? =some (.cells #[J ck,J nx,J wt,.slice (Qd g) tx2.length c2] aX (0,0))/\w'.heap[g]? =some (.cells cur7 dH (0,0))) ?_
 intro w9 hw';replace H:=H.later hw';clear hw'
 refine bn 0 N N N Z Z Z Z Nq ⟨H.ent (i:=1) Z,H.ent (i:=2) Z⟩ (fun _ hS=>jR ax Z hS.1 Z)<|bn 1 N N N Z Z Z Z Nq ⟨H.ent (i:=1) Z,H.ent (i:=2) Z⟩ (fun _ hS=>Yp Z)<|bn 2 N N N Z Z Z Z Nq ⟨H.ent (i:=1) Z,H.ent (i:=2) Z⟩ (fun _ hS=>aH Z)<|bn 3 N N N Z Z Z Z Nq ⟨H.ent (i:=1) Z,H.ent (i:=2) Z⟩ (fun _ hS=>Zf lz Z)<|bn 4 N N N Z Z Z Z Nq ⟨H.ent (i:=1) Z,H.ent (i:=2) Z⟩ (fun _ hS=>bU am row7 ht4 1 Z hS.2 Z)<|bn 5 N N N Z Z Z Z Nq ⟨H.ent (i:=1) Z,H.ent (i:=2) Z⟩ (fun _ hS=>Yp Z)<|bn 6 N N N Z Z Z Z Nq ⟨H.ent (i:=1) Z,H.ent (i:=2) Z⟩ (fun _ hS=>aH Z)<|bn 7 N N N Z Z Z Z Nq ⟨H.ent (i:=1) Z,H.ent (i:=2) Z⟩ (fun _ hS=>Zf gN Z)<|bn 8 N N N Z Z Z Z Nq ⟨H.ent (i:=1) Z,H.ent (i:=2) Z⟩ (fun _ hS=>bU am row7 ht4 2 Z hS.2 Z)<|z6 9 N Z<|bA H 0 (#[J ck,J nx,J wt,.slice (Qd g) tx2.length c2]) aF Z Z Z Z Z N N fun w10 H=>U ?_
 refine⟨⟨H.ent (i:=1) Z,H.ent (i:=2) Z⟩,?_⟩
 refine bn 10 N N N Z Z Z Z Nq ⟨H.ent (i:=1) Z,H.ent (i:=2) Z⟩ (fun _ hS=>Wi Z)<|bn 11 N N N Z Z Z Z Nq ⟨H.ent (i:=1) Z,H.ent (i:=2) Z⟩ (fun _ hS=>Wi Z)<|bn 12 N N N Z Z Z Z Nq ⟨H.ent (i:=1) Z,H.ent (i:=2) Z⟩ (fun _ hS=>Wi Z)<|rI N<|Zt ?_
 have hI:jf t2={t2 with state:=4,ver:=t2.ver+1}:=by unfold jf;rw[if_pos I]
 exact mX (cs0:= #[J ck,J nx,J wt,.slice (Qd g) tx2.length c2]) (v1:=J t2.pid) (v2:=J (t2.ver+1)) (v3:=J 0) Z ax Z (H.ent (i:=0) Z) Z Z Z Z ⟨⟨ck,nx,wt,tx2.set i ({t2 with state:=4,ver:=t2.ver+1}),some ⟨g,0,none⟩,c2⟩,[(g,.cells cur7 dH (0,0))],Lp,by unfold Co.v Co.c;dsimp only;rw[ae,hpid,hver],by unfold Co.a;dsimp only;rw[pG hma i (show Tx.a ({t2 with state:=4,ver:=t2.ver+1})=(jf t).a by rw[<-hI];exact Mv hta)],by dsimp only;exact d7.own row7,hp2.same ht2 Z Z Z,by dsimp only;rw[ae];exact hoc2,sS hpc2 ht2 Z Z,H.forget (.cons _ (.cons _ (aC _ _))) (by simp)⟩
 refine G (Wb Z)<|U<|ZF Z<|Zk<|W<|Zr<|G (Yp Z)<|G (aH Z)<|G (Zf gN Z)<|G (bU am row ht2 2 Z (H.ent (i:=2) Z) Z)<|G (bp Z Z I I)<|G (aH Z)<|G (Zf gN Z)<|ni H 2 ({t2 with ver:=t2.ver+1}) bQ row ht2 2 Z Z Z Z Z Z N fun w12 cur11 row11 H=>U<|W ?_
 have ht4:(tx2.set i {t2 with ver:=t2.ver+1})[i]? =some {t2 with ver:=t2.ver+1}:=al hl2
 refine tC cD (fun w'=>w'.heap[b2]? =some (.cells #[J ck,J nx,J wt,.slice (Qd g) tx2.length c2] aX (0,0))/\w'.heap[g]? =some (.cells cur11 dH (0,0))) ?_
 intro w13 hw';replace H:=H.later hw';clear hw'
 refine bn 0 N N N Z Z Z Z Nq ⟨H.ent (i:=1) Z,H.ent (i:=2) Z⟩ (fun _ hS=>jR ax Z hS.1 Z)<|bn 1 N N N Z Z Z Z Nq ⟨H.ent (i:=1) Z,H.ent (i:=2) Z⟩ (fun _ hS=>Yp Z)<|bn 2 N N N Z Z Z Z Nq ⟨H.ent (i:=1) Z,H.ent (i:=2) Z⟩ (fun _ hS=>aH Z)<|bn 3 N N N Z Z Z Z Nq ⟨H.ent (i:=1) Z,H.ent (i:=2) Z⟩ (fun _ hS=>Zf lz Z)<|bn 4 N N N Z Z Z Z Nq ⟨H.ent (i:=1) Z,H.ent (i:=2) Z⟩ (fun _ hS=>bU am row11 ht4 1 Z hS.2 Z)<|bn 5 N N N Z Z Z Z Nq ⟨H.ent (i:=1) Z,H.ent (i:=2) Z⟩ (fun _ hS=>Yp Z)<|bn 6 N N N Z Z Z Z Nq ⟨H.ent (i:=1) Z,H.ent (i:=2) Z⟩ (fun _ hS=>aH Z)<|bn 7 N N N Z Z Z Z Nq ⟨H.ent (i:=1) Z,H.ent (i:=2) Z⟩ (fun _ hS=>Zf gN Z)<|bn 8 N N N Z Z Z Z Nq ⟨H.ent (i:=1) Z,H.ent (i:=2) Z⟩ (fun _ hS=>bU am row11 ht4 2 Z hS.2 Z)<|z6 9 N Z<|bA H 0 (#[J ck,J nx,J wt,.slice (Qd g) tx2.length c2]) aF Z Z Z Z Z N N fun w14 H=>U ?_
 refine⟨⟨H.ent (i:=1) Z,H.ent (i:=2) Z⟩,?_⟩
 refine bn 10 N N N Z Z Z Z Nq ⟨H.ent (i:=1) Z,H.ent (i:=2) Z⟩ (fun _ hS=>Wi Z)<|bn 11 N N N Z Z Z Z Nq ⟨H.ent (i:=1) Z,H.ent (i:=2) Z⟩ (fun _ hS=>Wi Z)<|bn 12 N N N Z Z Z Z Nq ⟨H.ent (i:=1) Z,H.ent (i:=2) Z⟩ (fun _ hS=>Wi Z)<|rI N<|Zt ?_
 have hI:jf t2={t2 with ver:=t2.ver+1}:=by unfold jf;rw[if_neg I]
 exact mX (cs0:= #[J ck,J nx,J wt,.slice (Qd g) tx2.length c2]) (v1:=J t2.pid) (v2:=J (t2.ver+1)) (v3:=J 0) Z ax Z (H.ent (i:=0) Z) Z Z Z Z ⟨⟨ck,nx,wt,tx2.set i ({t2 with ver:=t2.ver+1}),some ⟨g,0,none⟩,c2⟩,[(g,.cells cur11 dH (0,0))],Lp,by unfold Co.v Co.c;dsimp only;rw[ae,hpid,hver],by unfold Co.a;dsimp only;rw[pG hma i (show Tx.a ({t2 with ver:=t2.ver+1})=(jf t).a by rw[<-hI];exact Mv hta)],by dsimp only;exact d7.own row11,hp2.same ht2 Z Z Z,by dsimp only;rw[ae];exact hoc2,sS hpc2 ht2 Z Z,H.forget (.cons _ (.cons _ (aC _ _))) (by simp)⟩
theorem LI {w0 w:World} {F:List ce} {a b:Nat×Obj} (Lr Lp:List (Nat×Obj)) (H:Hp w0 w (a::b::((Lr++Lp)++[])) F):Hp w0 w ([a,b]++Lr++Lp) F:=by
 rw[aZ]at H
 exact H
theorem J6 (c:Co) (s:ByteArray) (w:World) (h:c.rd 0 w.heap.size w) (hok:gU c=true) (hn:bu s=true) (hi:fW c s<0) (hf:c.txs.length≠8) (hx:c.next≠1073741824):dt aa mT [c.v,.string s] w fun v w2=> ∃ (c':Co) (Lr Lp:List (Nat×Obj)),v=.tuple #[c'.v,J c.next,J 0,J 0]/\qM w w2 (mZ c.a s) c' Lr Lp:=by
 refine aG oe Z Z ?_
 have hcap:=h.cap
 have hfew:=h.few
 have hfp:=h.fewP
 have H:=Hp.startCo h
 obtain⟨ck,nx,wt,txs,cA,cc⟩:=c
 dsimp only at hcap hfew hfp H
 show CW _ _ _ _ (args [.agg #[J ck,J nx,J wt,.slice cA txs.length cc],.string s]) w
 dsimp only at hf hx⊢
 obtain⟨q1,q2,q3,q4,q5,q6,q7⟩:=je.1 hok
 dsimp only at q2 q3 q6
 refine W<|Zr<|gY H Z Z fun w1 b2 H=>fc H cI Z fun w2 b4 H=>G (Wi Z)<|G (Wi Z)<|G (Wi Z)<|U<|W<|Zr<|G (Zw ax H 1 Z Z Z)<|G (Yt Z)<|cu iz (lT ⟨ck,nx,wt,txs,cA,cc⟩ s _ ⟨H.rd0 0 Z,fun t ht=>fF H 1 Z ht,hcap,hfew,hfp⟩ hok hn) Z Z ?_
 rintro _ w3 ⟨⟨ck2,nx2,wt2,tx2,A2,c2⟩,Lr,Lp,rfl,ha2,ho2,hp2,hoc2,hpc2,hj2⟩
 replace H:=H.joinR hj2;clear hj2
 simp only[Co.a,Co.mk.injEq]at ha2
 obtain⟨e1,e2,e3,hma,-,-⟩:=ha2
 obtain rfl:ck=ck2:=e1.symm
 obtain rfl:nx=nx2:=e2.symm
 obtain rfl:wt=wt2:=e3.symm
 dsimp only at ho2 hp2 hoc2 hpc2 H
 have hlen2:tx2.length=txs.length:=by have:=congrArg da hma;simpa using this
 refine G (Yu Z)<|G (Xa Z Z)<|G (Xi Z Z)<|G (Xi Z Z)<|bA H 1 (#[J ck,J nx,J wt,.slice A2 tx2.length c2]) aF Z Z Z Z Z N N fun w4 H=>G (Wi Z)<|G (Wi Z)<|U<|W<|W<|Zr<|G (Yi Z)<|G (cv Z Z Z)<|U<|ZF Z<|Zk<|W<|W<|Zr<|G (Yi Z)<|G (wr Z Z hi)<|U<|ZT Z<|W<|W<|Zr<|G (Zf cP Z)<|G (Zd dN H 1 Z Z Z)<|G (bh lx Z)<|G (lS Z Z I)<|G (Yb Z)<|ZG<|G (Zf kE Z)<|ZG<|G (Zd am H 1 Z Z Z)<|ZG<|G (lS Z Z I)<|G (N Z Z)<|U<|ZF Z ?_
 refine Zk<|W ?_
 replace H:=LI Lr Lp H
 refine Zr<|G (Zf cP Z)<|G (Zd dN H 1 Z Z Z)<|G (Yt Z)<|G (Zf kE Z)<|G (Zd am H 1 Z Z Z)<|G (bC (cs:= #[.string s,J nx,J 0,J 1,.slice none 0 0,J 0,J 0]) Pj Ij N)<|uO (vs:=[.agg #[.string s,J nx,J 0,J 1,.slice none 0 0,J 0,J 0]]) H gW Ij Z Z Z Z Z Z fun w5 b40 H=>wN (Y:=sr) I7 (K:=[(b40,_),(b4,_),(b2,_)]) (L:=Lr) (M:=Lp) H ho2 (news:=[i7 s nx]) Z Z Z (zk.row (m:=1) (sz:=sr.sz) (H.ent (i:=0) Z) Z) (by simp only[cH];omega) Z ?_
 intro A41 c41 w6 L41 h41 _ ho41 H
 refine G (Zf cP Z)<|bA H 2 (#[J ck,J nx,J wt,.slice A41 (tx2++[i7 s nx]).length c41]) Ak Z Z Z Z Z N N fun w7 H=>U<|W<|Zr<|G (Zf kE Z)<|G (Zd am H 2 Z Z Z)<|G (bp Z Z I I)<|G (Zf kE Z)<|bA H 2 (#[J ck,J (nx+1),J wt,.slice A41 (tx2++[i7 s nx]).length c41]) bQ Z Z Z Z Z N N fun w8 H=>U<|W ?_
 refine rz cD [1] [0,2,3,4,5,6,7] [1] 7 N N N Nq ?_
 refine aw Z Z Z Z Z (fun w' hw'=>Zf kE Z)<|aU ?_
 intro w9 hw';replace H:=H.later hw';clear hw'
 refine uj 0 2 N Z Z ?_ ?_
 refine G (Zw ax H 2 Z Z Z)<|U ?_
 refine uj 2 4 N Z Z ?_ ?_
 refine G (Zd am H 2 Z Z Z)<|U ?_
 refine uj 3 4 N Z Z ?_ ?_
 refine G (lX Z Z I I)<|U<|df 4 N Z<|bA H 1 (#[J ck,J (nx+1),J wt,.slice A41 (tx2++[i7 s nx]).length c41]) aF Z Z Z Z Z N N fun w10 H=>U<|df 5 N Z<|G (Wi Z)<|U<|df 6 N Z<|G (Wi Z)<|U<|df 7 N Z<|G (Wi Z)<|U<|cj N<|Zt ?_
 exact mX (cs0:= #[J ck,J (nx+1),J wt,.slice A41 (tx2++[i7 s nx]).length c41]) (v1:=J (nx+1-1)) (v2:=J 0) (v3:=J 0) Z ax Z (H.ent (i:=1) Z) Z Z Z Z ⟨⟨ck,nx+1,wt,tx2++[i7 s nx],A41,c41⟩,L41,Lp,by rw[show nx+1-1=nx by omega];rfl,by unfold Co.a mZ;dsimp only;rw[bk,hma];rfl,ho41,by have:=eK.snoc (t:=i7 s nx) (L':=[]) gG.nil hp2;rwa[aZ]at this,h41,by intro t ht;rcases ap.1 ht with ht|ht;exact hpc2 t ht;rw[ar.1 ht];exact ao _,H.forget (.cons _ (.cons _ (.cons _ (au _)))) (by simp)⟩
 refine bA H 1 (#[J ck,J (nx+1),J wt,.slice A41 (tx2++[i7 s nx]).length c41]) aF Z Z Z Z Z N N fun w11 H=>U<|df 3 N Z<|G (lX Z Z I I)<|U<|df 5 N Z<|G (Wi Z)<|U<|df 6 N Z<|G (Wi Z)<|U<|df 7 N Z<|G (Wi Z)<|U<|cj N<|Zt ?_
 exact mX (cs0:= #[J ck,J (nx+1),J wt,.slice A41 (tx2++[i7 s nx]).length c41]) (v1:=J (nx+1-1)) (v2:=J 0) (v3:=J 0) Z ax Z (H.ent (i:=1) Z) Z Z Z Z ⟨⟨ck,nx+1,wt,tx2++[i7 s nx],A41,c41⟩,L41,Lp,by rw[show nx+1-1=nx by omega];rfl,by unfold Co.a mZ;dsimp only;rw[bk,hma];rfl,ho41,by have:=eK.snoc (t:=i7 s nx) (L':=[]) gG.nil hp2;rwa[aZ]at this,h41,by intro t ht;rcases ap.1 ht with ht|ht;exact hpc2 t ht;rw[ar.1 ht];exact ao _,H.forget (.cons _ (.cons _ (.cons _ (au _)))) (by simp)⟩
 refine bA H 1 (#[J ck,J (nx+1),J wt,.slice A41 (tx2++[i7 s nx]).length c41]) aF Z Z Z Z Z N N fun w12 H=>U<|df 2 N Z<|G (Zd am H 2 Z Z Z)<|U<|df 3 N Z<|G (lX Z Z I I)<|U<|df 5 N Z<|G (Wi Z)<|U<|df 6 N Z<|G (Wi Z)<|U<|df 7 N Z<|G (Wi Z)<|U<|cj N<|Zt ?_
 exact mX (cs0:= #[J ck,J (nx+1),J wt,.slice A41 (tx2++[i7 s nx]).length c41]) (v1:=J (nx+1-1)) (v2:=J 0) (v3:=J 0) Z ax Z (H.ent (i:=1) Z) Z Z Z Z ⟨⟨ck,nx+1,wt,tx2++[i7 s nx],A41,c41⟩,L41,Lp,by rw[show nx+1-1=nx by omega];rfl,by unfold Co.a mZ;dsimp only;rw[bk,hma];rfl,ho41,by have:=eK.snoc (t:=i7 s nx) (L':=[]) gG.nil hp2;rwa[aZ]at this,h41,by intro t ht;rcases ap.1 ht with ht|ht;exact hpc2 t ht;rw[ar.1 ht];exact ao _,H.forget (.cons _ (.cons _ (.cons _ (au _)))) (by simp)⟩
 refine G (Zd am H 2 Z Z Z)<|U ?_
 refine uj 0 3 N Z Z ?_ ?_
 refine G (Zw ax H 2 Z Z Z)<|U ?_
 refine uj 3 4 N Z Z ?_ ?_
 refine G (lX Z Z I I)<|U<|df 4 N Z<|bA H 1 (#[J ck,J (nx+1),J wt,.slice A41 (tx2++[i7 s nx]).length c41]) aF Z Z Z Z Z N N fun w13 H=>U<|df 5 N Z<|G (Wi Z)<|U<|df 6 N Z<|G (Wi Z)<|U<|df 7 N Z<|G (Wi Z)<|U<|cj N<|Zt ?_
 exact mX (cs0:= #[J ck,J (nx+1),J wt,.slice A41 (tx2++[i7 s nx]).length c41]) (v1:=J (nx+1-1)) (v2:=J 0) (v3:=J 0) Z ax Z (H.ent (i:=1) Z) Z Z Z Z ⟨⟨ck,nx+1,wt,tx2++[i7 s nx],A41,c41⟩,L41,Lp,by rw[show nx+1-1=nx by omega];rfl,by unfold Co.a mZ;dsimp only;rw[bk,hma];rfl,ho41,by have:=eK.snoc (t:=i7 s nx) (L':=[]) gG.nil hp2;rwa[aZ]at this,h41,by intro t ht;rcases ap.1 ht with ht|ht;exact hpc2 t ht;rw[ar.1 ht];exact ao _,H.forget (.cons _ (.cons _ (.cons _ (au _)))) (by simp)⟩
 refine bA H 1 (#[J ck,J (nx+1),J wt,.slice A41 (tx2++[i7 s nx]).length c41]) aF Z Z Z Z Z N N fun w14 H=>U<|df 3 N Z<|G (lX Z Z I I)<|U<|df 5 N Z<|G (Wi Z)<|U<|df 6 N Z<|G (Wi Z)<|U<|df 7 N Z<|G (Wi Z)<|U<|cj N<|Zt ?_
 exact mX (cs0:= #[J ck,J (nx+1),J wt,.slice A41 (tx2++[i7 s nx]).length c41]) (v1:=J (nx+1-1)) (v2:=J 0) (v3:=J 0) Z ax Z (H.ent (i:=1) Z) Z Z Z Z ⟨⟨ck,nx+1,wt,tx2++[i7 s nx],A41,c41⟩,L41,Lp,by rw[show nx+1-1=nx by omega];rfl,by unfold Co.a mZ;dsimp only;rw[bk,hma];rfl,ho41,by have:=eK.snoc (t:=i7 s nx) (L':=[]) gG.nil hp2;rwa[aZ]at this,h41,by intro t ht;rcases ap.1 ht with ht|ht;exact hpc2 t ht;rw[ar.1 ht];exact ao _,H.forget (.cons _ (.cons _ (.cons _ (au _)))) (by simp)⟩
 refine G (lX Z Z I I)<|U<|df 0 N Z<|G (Zw ax H 2 Z Z Z)<|U<|df 4 N Z<|bA H 1 (#[J ck,J (nx+1),J wt,.slice A41 (tx2++[i7 s nx]).length c41]) aF Z Z Z Z Z N N fun w15 H=>U<|df 5 N Z<|G (Wi Z)<|U<|df 6 N Z<|G (Wi Z)<|U<|df 7 N Z<|G (Wi Z)<|U<|cj N<|Zt ?_
 exact mX (cs0:= #[J ck,J (nx+1),J wt,.slice A41 (tx2++[i7 s nx]).length c41]) (v1:=J (nx+1-1)) (v2:=J 0) (v3:=J 0) Z ax Z (H.ent (i:=1) Z) Z Z Z Z ⟨⟨ck,nx+1,wt,tx2++[i7 s nx],A41,c41⟩,L41,Lp,by rw[show nx+1-1=nx by omega];rfl,by unfold Co.a mZ;dsimp only;rw[bk,hma];rfl,ho41,by have:=eK.snoc (t:=i7 s nx) (L':=[]) gG.nil hp2;rwa[aZ]at this,h41,by intro t ht;rcases ap.1 ht with ht|ht;exact hpc2 t ht;rw[ar.1 ht];exact ao _,H.forget (.cons _ (.cons _ (.cons _ (au _)))) (by simp)⟩
theorem Eg (n:Int) (w:World):dt aa zx [J n] w fun v w2=>v=.bool false/\Below w.heap.size w w2:=by
 refine aG yC Z Z ?_
 have H:=Hp.start w
 refine W<|Zr<|G (Wb Z)<|U<|W<|Zr<|G (Yi Z)<|G (Yi Z)<|G (cv Z Z Z)<|G (Wb Z)<|U<|Zt ?_
 exact cn (v:=.bool false) Z Z ⟨rfl,H.below⟩
theorem FK (a b:Int) (w:World):dt aa Bh [J a,J b] w fun v w2=>v=.bool (decide (a<b))/\Below w.heap.size w w2:=by
 refine aG zC Z Z ?_
 have H:=Hp.start w
 refine W<|Zr<|G (Wb Z)<|U<|W<|Zr<|G (Yi Z)<|cu yM (Eg a _) Z Z ?_
 rintro _ w1 ⟨rfl,hb⟩;replace H:=H.later hb;clear hb
 refine G (Yb Z)<|ZN<|ZN<|ZN<|G (N Z Z)<|G (Yb Z)<|ZG<|G (Yi Z)<|ZG<|G (Yi Z)<|ZG ?_
 refine du (cO Z Z) Z Z Z (fun h15=> ?_) (fun h15=> ?_)
 refine G (N Z Z)<|G (Wb Z)<|U<|Zt ?_
 exact cn (v:=.bool true) Z Z ⟨by rw[decide_eq_true h15],H.below⟩
 refine G (N Z Z)<|G (Wb Z)<|U<|Zt ?_
 exact cn (v:=.bool false) Z Z ⟨by rw[decide_eq_false h15],H.below⟩
theorem tu:aa.funcs[(144:Nat)]? =some Tryz.f144:=Tryz.func144
theorem tj {w0 w:World} {K M Lt:List (Nat×Obj)} {F:List ce} {es:List Int} {x:Int} {i c vb:Nat} {A:Option Addr} (H:Hp w0 w (((vb,.cells (bS.f x).toArray 3 (0,0))::K)++Lt++M) F) (ho:gG bS (.slice A es.length c) 3 es Lt) (hi:i<=es.length) (hb:(es.length+1)*8<=140737488355328):
  dt aa rP [.slice A es.length c,J (i:Nat),.slice (Qd vb) ((1:Nat)) 1] w fun v w2=> ∃ A' c' L',v=.slice A' (es.take i++[x]++es.drop i).length c'/\gG bS (.slice A' (es.take i++[x]++es.drop i).length c') 3 (es.take i++[x]++es.drop i) L'/\Hp w0 w2 (((vb,.cells (bS.f x).toArray 3 (0,0))::K)++L'++M) F:=by
 refine aG qT Z Z ?_
 show CW _ _ _ _ (args [.slice A es.length c,J (i:Nat),.slice (Qd vb) ((1:Nat)) 1]) w
 have hc0:es.length<=c:=by
  obtain⟨_,c',he,hc,_⟩:=ho.form
  injection he with _ _ he
  omega
 have hxs:(bS.f x).length=bS.sz:=bS.len x
 have hx1: ∀ u∈bS.f x,u.oneCell'=true:=fun u hu=>bS.one x u hu
 have hsv: ∀ {w2:World} {K2:List (Nat×Obj)},Hp w0 w2 ((vb,.cells (bS.f x).toArray 3 (0,0))::K2) F->zk w2 (Qd vb) 1 bS.sz (bS.all [x]):=fun h=>⟨by rw[fA.length];rfl,fun _=>⟨_,rfl,fun j u hj=>by rw[all_one]at hj;rw[Addr.add_lit,cF];exact aJ (h.ent (i:=0) Z) (by simpa using hj)⟩⟩
 refine W<|Zr<|vz Z Z<|U<|W<|Zr<|mD Z Z<|iN Z Z<|tP bj Z Z I I I Z fun A12 hA12=>U<|W<|Zr<|mD Z Z<|vt eT Z Z<|pF Z Z<|U<|W<|W<|Zr<|iN Z Z<|G (lS Z Z (by decide))<|U<|ZF Z<|Zk<|W<|Zr<|mD Z Z<|vt eT Z Z<|pF Z Z<|U<|W<|W<|Zr<|iN Z Z<|iN Z Z ?_
 refine MS Z Z Z (fun h22=> ?_) (fun h22=> ?_)
 ·refine bP ?_
  refine ZT Z<|W<|Zr<|mD Z Z<|mD Z Z<|wN (Y:=bS) (es:=es) (news:=[x]) zX H ho Z Z Z (hsv H) (by show(es.length+1)*8<=_;omega) Z fun A25 c25 w25 L25 h25 h25b ho25 H25=>vz Z Z<|U<|Zt<|cn Z Z ?_
  have hi:i=es.length:=by omega
  subst hi
  have he:es.take es.length++[x]++es.drop es.length=es++[x]:=by rw[bJ,fC,aZ]
  rw[he]
  exact⟨A25,c25,L25,rfl,ho25,H25⟩
 refine U<|ZF Z<|Zk ?_
 have hlt:i<es.length:=by omega
 obtain⟨g,cur,rfl,rfl,row⟩:=ho.row I
 have hgE:w.heap[g]? =some (.cells cur 3 (0,0)):=H.ent (i:=((vb,.cells (bS.f x).toArray 3 (0,0))::K:List (Nat×Obj)).length) (by simp)
 have hle:=row.le
 have hmx:=row.max
 have hlen:=vf (x:=x) (mF hlt)
 have hfit:=row.fit hle
 have hif:=row.fit (i:=i) I
 have hdr:(bS.all (es.drop i)).length=(es.length-i)*bS.sz:=by rw[fA.length,cZ]
 have hsm:(i+1)*bS.sz+(es.length-i)*bS.sz=(es.length+1)*bS.sz:=by rw[<-cN];congr 1;omega
 have hi3:(i+1)*bS.sz=i*bS.sz+bS.sz:=by rw[cN,gh]
 refine W<|W<|Zr<|iN Z Z<|iN Z Z<|add Z Z I I Z<|mD Z Z<|G (ET eT Z) ?_
 refine J9 Z Z Z (fun h31=> ?_) (fun h31=> ?_)
 ·refine bP ?_
  refine ZT Z<|W<|Zr<|mD Z Z<|iN Z Z<|Ah bj Z Z I I Z fun A34 hA34=> ?_
  obtain rfl:=hA34 I
  refine iN Z Z<|iN Z Z<|add Z Z I I Z<|iN Z Z<|sub Z Z I I Z ?_
  refine Rj (m:=es.length+1-i) zX i8 H Z (kd:=.i64) (show _=Value.int _ _ from congrArg (Value.int _) (show((es.length:Int)+((1:Nat):Int))- (i:Nat)=((es.length+1-i:Nat):Int) by omega)) (olds:=bS.all (es.take i)) (by rw[fA.length,aD,bB I];rfl) (fun j u hj=>by rw[Addr.add_lit,cF];rw[<-row.pre I,di]at hj;split at hj;exact aJ hgE (by simpa using hj);cases hj) I I (by show(((i:Nat):Int).toNat+(es.length+1-i))*8<=_;omega) Z ?_
  intro w1 g2 c2 cur2 hs2 hge2 hmx2 hp2 H
  have hs2':cur2.size=c2*bS.sz:=hs2
  have hc2:(es.length+1)*bS.sz<=cur2.size:=by rw[hs2'];exact dq _ I
  have hg2:(pw cur2 (i*bS.sz) (bS.f x)).size=cur2.size:=jS (by rw[hxs];omega)
  refine vz Z Z<|U<|W<|Zr<|mD Z Z<|iN Z Z<|tP bj Z Z I I I Z fun A43 hA43=>mD Z Z ?_
  have hsrc:=hsv (H.perm (ak _ _ _))
  refine O6 (K:=[]) (m:=1) (o:=i*bS.sz) bj H Z Z (Di Z I) (fun _=>wL.at0 hA43 I) hsrc (by rw[all_one];exact hx1) (by rw[all_one,hxs];omega) Z ?_
  rw[all_one]
  intro w2 H
  refine U<|W ?_
  refine bL cD [0,1,2,3,4,5,6,7] [8] [] [0,1,2,3,4,5,6,7] (sp []) N N N N Nq (cQ _) ?_
  refine aw Z Z Z Z Z (fun _ _=>iH Z)<|aw Z Z Z Z Z (fun _ _=>iH Z)<|aw Z Z Z Z Z (fun _ _=>iH Z)<|aw Z Z Z Z Z (fun _ _=>bp Z Z I I)<|aw Z Z Z Z Z (fun _ _=>pV bj Z Z I I)<|aw Z Z Z Z Z (fun _ _=>iH Z)<|aw Z Z Z Z Z (fun _ _=>iH Z)<|aw Z Z Z Z Z (fun _ _=>pV bj Z Z I I)<|aU ?_
  intro w' hw' _;replace H:=H.later hw';clear hw'
  have hgE2:w'.heap[g]? =some (.cells cur 3 (0,0)):=(H.ents (g,.cells cur 3 (0,0)) (by simp)).1
  refine O6 (K:=[]) (m:=es.length-i) (o:=(i+1)*bS.sz) bj H Z Z (Di I I) (fun _=>BG I) (row.srcFrom hgE2 I (sQ (ao _)) I) (fA.all_one _) (by rw[hdr,hg2];omega) Z ?_
  intro w3 H
  refine U<|W<|Zr<|mD Z Z<|vz Z Z<|U<|Zt<|cn Z Z ?_
  exact⟨some ⟨g2,0,none⟩,c2,_,by rw[hlen];show Value.slice _ (((i:Nat):Int).toNat+(es.length+1-i)) _=_;congr 1;omega,d7.own (d7.insNew hs2' hmx2 hp2 (mF hlt) I),H.swapRow⟩
 refine U<|ZF Z<|Zk ?_
 have hroom:es.length+1<=c:=by omega
 have hfr:=row.fit hroom
 refine W<|Zr<|mD Z Z<|iN Z Z<|iN Z Z<|add Z Z I I Z<|Ah bj Z Z I I Z fun A60 hA60=> ?_
 obtain rfl:=hA60 I
 refine vz Z Z<|U<|W<|W<|Zr<|mD Z Z<|mD Z Z<|iN Z Z<|iN Z Z<|add Z Z I I Z<|tP bj Z Z I I I Z fun A66 hA66=> ?_
 have hA:=wL.at0 hA66 I
 have hvE:w.heap[vb]? =some (.cells (bS.f x).toArray 3 (0,0)):=H.ent (i:=0) Z
 have hne:vb≠g:=fun he=>by
  have:=H.nodup
  simp only[bk,eU,qQ,jz,ap]at this
  exact this.1 (.inl (.inr (by rw[he];exact az)))
 have hov: ∀ lb cb,(callFunc ua #[.slice (Qd vb) 1 1,.slice A66 lb cb]).run aa w=.ok (.value (.bool false)) w:=fun lb cb=>by
  rw[hA,run_callFunc_extern tu N N N (e:=Extern.SlicesOverlaps.overlaps #[yS,yS] #[j6]) N,
   Lib.run_overlaps_apart w yS j6 dg (ff bj).1 bS.sz (by obtain⟨_,j,h1,h2⟩:=ff bj;exact fun w=>by rw[fT h1,h2];rfl) ⟨vb,0,none⟩ _ 1 1 lb cb hne dg dg (bS.f x).length cur.size (by simp[World.shape?,hvE]) (by simp[World.shape?,hgE]) (by have:=bS.pos;have:=row.fit (i:=1) I;omega) (by simp[World.frozen?,hvE]) (by simp[World.frozen?,hvE])]
  rfl
 refine QF (hov _ _) Z Z<|not Z Z<|U<|ZT Z<|W ?_
 refine bL cD [0,1,2,3,4,5,6,7] [8] [] [0,1,2,3,4,5,6,7] (sp []) N N N N Nq (cQ _) ?_
 refine aw Z Z Z Z Z (fun _ _=>iH Z)<|aw Z Z Z Z Z (fun _ _=>iH Z)<|aw Z Z Z Z Z (fun _ _=>iH Z)<|aw Z Z Z Z Z (fun _ _=>bp Z Z I I)<|aw Z Z Z Z Z (fun _ _=>pV bj Z Z I I)<|aw Z Z Z Z Z (fun _ _=>iH Z)<|aw Z Z Z Z Z (fun _ _=>iH Z)<|aw Z Z Z Z Z (fun _ _=>pV bj Z Z I I)<|aU ?_
 intro w' hw' _;replace H:=H.later hw';clear hw'
 have hgE2:w'.heap[g]? =some (.cells cur 3 (0,0)):=(H.ents (g,.cells cur 3 (0,0)) (by simp)).1
 have hz1:(pw cur ((i+1)*bS.sz) (bS.all (es.drop i))).size=cur.size:=jS (by rw[hdr];omega)
 refine O6 (m:=es.length-i) (o:=(i+1)*bS.sz) bj H Z Z (O1 I I) (fun _=>BG I) (row.srcFrom hgE2 I (sQ (ao _)) I) (fA.all_one _) (by rw[hdr];omega) Z ?_
 intro w2 H
 refine U<|W<|Zr<|mD Z Z<|iN Z Z<|tP bj Z Z I I I Z fun A80 hA80=>mD Z Z ?_
 have hsrc:=hsv H
 refine O6 (m:=1) (o:=i*bS.sz) bj H Z Z (Di Z I) (fun _=>wL.at0 hA80 I) hsrc (by rw[all_one];exact hx1) (by rw[all_one,hxs,hz1];omega) Z ?_
 rw[all_one]
 intro w3 H
 refine U<|W<|Zr<|mD Z Z<|vz Z Z<|U<|Zt<|cn Z Z ?_
 exact⟨some ⟨g,0,none⟩,c,_,by rw[hlen];show Value.slice _ ((es.length:Int)+((1:Nat):Int)).toNat _=_;congr 1,d7.own (row.insIn (mF hlt) hroom),H⟩
theorem xA {w0 w:World} {K M Lt:List (Nat×Obj)} {F:List ce} {es:List Int} {i j c:Nat} {A:Option Addr} (H:Hp w0 w (K++Lt++M) F) (ho:gG bS (.slice A es.length c) 3 es Lt) (hij:i<=j) (hj:j<=es.length) (hb:es.length*8<=140737488355328):
  dt aa rR [.slice A es.length c,J (i:Nat),J (j:Nat)] w fun v w2=> ∃ A' c' L',v=.slice A' (es.take i++es.drop j).length c'/\gG bS (.slice A' (es.take i++es.drop j).length c') 3 (es.take i++es.drop j) L'/\Hp w0 w2 (K++L'++M) F:=by
 refine aG qV Z Z ?_
 show CW _ _ _ _ (args [.slice A es.length c,J (i:Nat),J (j:Nat)]) w
 have hc0:es.length<=c:=by
  obtain⟨_,c',he,hc,_⟩:=ho.form
  injection he with _ _ he
  omega
 refine W<|Zr<|vz Z Z<|U<|W<|Zr<|mD Z Z<|iN Z Z<|iN Z Z<|mD Z Z<|vt eT Z Z<|QZ bj Z Z Z Z ⟨by omega,by omega⟩ I I Z fun A13 l13 c13=>U<|W<|W<|Zr<|iN Z Z<|iN Z Z ?_
 refine MS Z Z Z (fun h16=> ?_) (fun h16=> ?_)
 refine U<|ZT Z<|W<|Zr<|mD Z Z<|vz Z Z<|U<|Zt<|cn Z Z ?_
 have hij:i=j:=by omega
 subst hij
 rw[g8]
 exact⟨A,c,Lt,rfl,ho,H⟩
 refine U<|ZF Z<|Zk ?_
 have hlt:i<j:=by omega
 obtain⟨g,cur,rfl,rfl,row⟩:=ho.row I
 have hle:=row.le
 have hmx:=row.max
 have hlen:=EK hij hj
 have hfit:=row.fit hle
 have hif:=row.fit (i:=i) I
 have hdr:(bS.all (es.drop j)).length=(es.length-j)*bS.sz:=by rw[fA.length,cZ]
 refine W<|Zr<|mD Z Z<|vt eT Z Z<|pF Z Z<|U<|W ?_
 refine bL cD [0,1,2,3,4,5] [6,7] [] [0,1,2,3,4,5] (sp []) N N N N Nq (cQ _) ?_
 refine aw Z Z Z Z Z (fun _ _=>iH Z)<|aw Z Z Z Z Z (fun _ _=>iH Z)<|aw Z Z Z Z Z (fun _ _=>D1 bj Z Z I I)<|aw Z Z Z Z Z (fun _ _=>iH Z)<|aw Z Z Z Z Z (fun _ _=>iH Z)<|aw Z Z Z Z Z (fun _ _=>pV bj Z Z I I)<|aU ?_
 intro w' hw' _;replace H:=H.later hw';clear hw'
 have hgE2:w'.heap[g]? =some (.cells cur 3 (0,0)):=(H.ents (g,.cells cur 3 (0,0)) (by simp)).1
 have hs1:i*bS.sz+(bS.all (es.drop j)).length=(i+(es.length-j))*bS.sz:=by rw[hdr,<-cN]
 have hs2:=row.fit (i:=i+(es.length-j)) I
 have hz1:(pw cur (i*bS.sz) (bS.all (es.drop j))).size=cur.size:=jS I
 refine RH (k:=i) (c:=c) (m:=es.length-j) bj H (show _=Value.slice _ _ _ by show Value.slice (cut _ c 0 _) _ _=_;rw[BG I,wO];rfl) Z (row.srcFrom hgE2 hj (sQ hc0) I) (fA.all_one _) I (by show i*bS.sz+_<=_;omega) Z ?_
 intro w1 H
 replace H:Hp w0 w1 (K++[(g,.cells (pw cur (i*bS.sz) (bS.all (es.drop j))) 3 (0,0))]++M) F:=H
 refine vz Z Z<|U<|W<|Zr<|mD Z Z<|mD Z Z<|vt eT Z Z<|iN Z Z<|OW bj Z Z Z I I I Z fun A31 hA31=> ?_
 have hzc:(((es.length:Nat):Int).toNat- ((i+(es.length-j):Nat):Int).toNat)*bS.sz+(i+(es.length-j))*bS.sz=es.length*bS.sz:=by rw[<-cN];congr 1;omega
 refine Rh (o:=(i+(es.length-j))*bS.sz) (z:=J 0) bj N Z Z H Z (fun _=>wL.at0 hA31 I) (by rw[hz1];show _+(((es.length:Nat):Int).toNat- ((i+(es.length-j):Nat):Int).toNat)*bS.sz<=_;omega) ?_
 intro w2 H
 refine U<|W<|Zr<|mD Z Z<|vz Z Z<|U<|Zt<|cn Z Z ?_
 have hzl: ∀ m,(Builtin.zeroCells (Value.cells (J 0)) m).toList.length=m*bS.sz:=fun m=>by rw[bY,size_zeroCells];rfl
 have hr:=row.del hij hj (ao ((i+(es.length-j))*bS.sz)) (zs:=(Builtin.zeroCells (Value.cells (J 0)) (((es.length:Nat):Int).toNat- ((i+(es.length-j):Nat):Int).toNat)).toList) (by
  rw[hzl]
  show _+(((es.length:Nat):Int).toNat- ((i+(es.length-j):Nat):Int).toNat)*bS.sz<=_
  omega)
 exact⟨some ⟨g,0,none⟩,c,_,by rw[hlen];rfl,d7.own hr,H⟩
theorem Po {P:Program} {ρ:gV} {w:World} {t:TypeId} {p:String} {af:Array Edge} {g:Option (Nat×Bool)} {dst:Option Nat} {x y:Operand} {ty ty':TypeId} {a b:Nat} {k:IntKind} (hx:ev ρ x=.int .u64 a) (hy:ev ρ y=.int k b) (hb:b<=64):(execOp (ev ρ) (Og dst (.binOp .shr ty x y ty') t p af g)).run P w=.ok (.value (.int .u64 (a/2 ^ b:Nat))) w:=by
 have e:(a:Int).fdiv (2 ^ b)=((a/2 ^ b:Nat):Int):=by
  rw[Int.fdiv_eq_ediv_of_nonneg _ (Int.le_of_lt (Int.pow_pos (by decide)))]
  simp
 simp only[execOp,hx,hy,eqGuard,binOp,Op.shift,Sem.run_bind,Sem.run_pure]
 simp[e,bB (show b<=IntKind.u64.bits from hb)]
 intro h;omega
theorem Qm {n:Nat} (h:n<=9000000000000000000):IntKind.u64.wrap (n:Int)=n:=by
 simp only[IntKind.wrap,IntKind.bits,IntKind.signed]
 simp
 omega
theorem rises {es:List Int} (h:es.Pairwise (· < ·)) {i j:Nat} {a b:Int} (hi:es[i]? =some a) (hj:es[j]? =some b) (hij:i<=j):a<=b:=by
 obtain⟨h1,rfl⟩:=aE.1 hi
 obtain⟨h2,rfl⟩:=aE.1 hj
 rcases iZ i j with h3|h3
 exact Int.le_of_lt (nc.1 h i j h1 h2 h3)
 have:i=j:=by omega
 subst this
 exact fl _
theorem B6 (n:Int) (w:World):dt aa wx [J n] w fun v w2=>v=.bool false/\Below w.heap.size w w2:=by
 refine aG vw Z Z ?_
 have H:=Hp.start w
 refine W<|Zr<|G (Wb Z)<|U<|W<|Zr<|G (Yi Z)<|G (Yi Z)<|G (cv Z Z Z)<|G (Wb Z)<|U<|Zt ?_
 exact cn (v:=.bool false) Z Z ⟨rfl,H.below⟩
theorem qH (es:List Int) (t:Int) (A:Option Addr) (c:Nat) (w:World) (hr:Rd bS 0 w.heap.size A es w) (hb:es.length<=1000000) (hp:es.Pairwise (· < ·)):
  dt aa nN [.slice A es.length c,J t] w fun v w2=> ∃ i:Nat,v=.tuple #[J (i:Nat),.bool (decide (es[i]? =some t))]/\i<=es.length/\(∀ k y,es[k]? =some y->k<i->y<t)/\(∀ k y,es[k]? =some y->i<=k->t<=y)/\Below w.heap.size w w2:=by
 refine aG nt Z Z ?_
 have H:=Hp.startRd hr
 show CW _ _ _ _ (args [.slice A es.length c,J t]) w
 refine W<|Zr<|G (Wi Z)<|G (Wb Z)<|U<|W<|Zr<|G (Ys Z)<|G (bh eT Z)<|G (Wi Z)<|U<|W<|Zr<|G (Yi Z)<|G (Wi Z)<|G (Wi Z)<|U<|W<|Zb ?_
 refine cf (τ:=Nat×Nat) [7,8,9,13,14,15,16,17,18,19,20,21,22,23,24,25,26,27,28,29,30] (fun(l,r)=>[(7,J (l:Nat)),(8,J (r:Nat))]) (fun(l,r) w'=>l<=r/\r<=es.length/\(∀ k y,es[k]? =some y->k<l->y<t)/\(∀ k y,es[k]? =some y->r<=k->t<=y)/\Hp w w' [] [ey bS 0 w.heap.size A es]) (fun(l,r)=>r-l) (0,es.length) ⟨by omega,by omega,by intro k y _ h;omega,by intro k y h1 h2;have:=(cy h1).1;omega,H⟩ (mK Z Z) ?_
 rintro⟨l,r⟩ ρ1 w1 ⟨hlr,hrn,hlo,hhi,H⟩
 show CW _ _ _ _ (dK (ia _ _ ρ1) [(7,J (l:Nat)),(8,J (r:Nat))]) w1
 refine W<|W<|Zr<|G (Yi Z)<|G (Yi Z) ?_
 refine du (cO Z Z) Z Z Z (fun h15=> ?_) (fun h15=> ?_)
 refine U<|ZT Z<|Zk<|Zb<|W<|Zr<|G (Yi Z)<|G (Yi Z)<|G (bp Z Z I I) ?_
 rw[show((l:Nat):Int)+((r:Nat):Int)=((l+r:Nat):Int) by omega]
 refine G (Gq i8 FN Z (Qm I))<|G (Po Z (b:=1) Z I) ?_
 obtain⟨m,hm,hm1,hm2⟩: ∃ m:Nat,(l+r)/2 ^ 1=m/\l<=m/\m<r:=⟨(l+r)/2,rfl,by omega,by omega⟩
 rw[hm]
 refine G (Gq FN i8 Z (vB I))<|G (Wi Z)<|U<|W<|Zr<|G (Ys Z)<|G (Yi Z)<|qg H 0 Z bj Z Z I I Z fun b2 o2 x2 e2=>G (bi am Z (e2.cl 0 _ Z))<|G (Yi Z)<|cu zK (FK x2 t _) Z Z ?_
 rintro _ w3 ⟨rfl,hb⟩;replace H:=H.later hb;clear hb
 refine U ?_
 refine kI Z (fun hc27=> ?_) (fun hc27=> ?_)
 refine Zr<|G (Yi Z)<|G (bp Z Z I I)<|G (Wi Z)<|U ?_
 refine⟨(m+1,r),⟨by omega,hrn,fun k y h1 h2=>Int.lt_of_le_of_lt (rises hp h1 e2.at_ I) (of_decide_eq_true hc27),hhi,H⟩,mK Z Z,Qg,by show r- (m+1)<r-l;omega⟩
 refine Zr<|G (Yi Z)<|G (Wi Z)<|U ?_
 refine⟨(l,m),⟨hm1,by omega,hlo,fun k y h1 h2=>by have h3:=rises hp e2.at_ h1 h2;have h4:=of_decide_eq_false hc27;omega,H⟩,mK Z Z,Qg,by show m-l<r-l;omega⟩
 refine U<|ZF Z<|Zx<|W<|Zr<|G (Yi Z)<|G (Yi Z)<|G (Yi Z) ?_
 refine du (cO Z Z) Z Z Z (fun h34=> ?_) (fun h34=> ?_)
 refine G (Yb Z)<|ZG<|G (Ys Z)<|ZG<|G (Yi Z)<|ZG<|qg H 0 Z bj Z Z I I Z fun b4 o4 x4 e4=>ZG<|G (bi am Z (e4.cl 0 _ Z))<|ZG<|G (Yi Z)<|ZG ?_
 refine du (bv Z Z) Z Z Z (fun h41=> ?_) (fun h41=> ?_)
 refine ZG<|G (Yb Z)<|ZN<|ZN<|ZN<|ZN<|ZN<|ZN<|ZN<|ZN<|ZN<|ZG<|G (Kt Z Z)<|G (Kt Z Z)<|G (Wi Z)<|G (Wb Z)<|U<|Zt ?_
 have hd:decide (es[l]? =some t)=true:=by rw[e4.at_,h41];exact decide_eq_true Z
 exact my Z Z Z ⟨l,by rw[hd];rfl,by omega,hlo,by intro k y h1 h2;exact hhi k y h1 I,H.below⟩
 refine ZG<|G (Yb Z)<|ZG<|G (Ys Z)<|ZG<|G (Yi Z)<|ZG<|qg H 0 Z bj Z Z I I Z fun b5 o5 x5 e5=>ZG<|G (bi am Z (e5.cl 0 _ Z))<|ZG<|cu vy (B6 _ _) Z Z ?_
 rintro _ w6 ⟨rfl,hb⟩;replace H:=H.later hb;clear hb
 refine ZG<|G (Yb Z)<|ZN<|ZN<|ZG<|G (N Z Z)<|ZG<|G (N Z Z)<|G (Kt Z Z)<|G (Wi Z)<|G (Wb Z)<|U<|Zt ?_
 have hd:decide (es[l]? =some t)=false:=by rw[e4.at_];exact decide_eq_false (fun h=>h41 (aY h))
 exact my Z Z Z ⟨l,by rw[hd];rfl,by omega,hlo,by intro k y h1 h2;exact hhi k y h1 I,H.below⟩
 refine G (Yb Z)<|ZN<|ZN<|ZN<|ZN<|ZN<|ZN<|ZN<|ZN<|ZN<|ZN<|ZN<|ZN<|ZN<|ZN<|ZN<|ZN<|ZN<|G (N Z Z)<|G (Wi Z)<|G (Wb Z)<|U<|Zt ?_
 have hd:decide (es[l]? =some t)=false:=by rw[bX I];rfl
 exact my Z Z Z ⟨l,by rw[hd];rfl,by omega,hlo,by intro k y h1 h2;exact hhi k y h1 I,H.below⟩
/-- a part more, in its place -/
def kM (l:List Int) (p:Int):List Int:=if p∈l then l else l.filter (fun q=>decide (q<p))++[p]++l.filter (fun q=>decide (p<=q))
def iR (ck:Int) (p:Int) (t:Tx):Tx:=if t.state=1 then{t with state:=2,since:=ck,parts:=kM t.parts p}else{t with parts:=kM t.parts p}
theorem PX {l:List Int} {p:Int} {i:Nat} (h1: ∀ k y,l[k]? =some y->k<i->y<p) (h2: ∀ k y,l[k]? =some y->i<=k->p<=y):l.take i=l.filter (fun q=>decide (q<p))/\l.drop i=l.filter (fun q=>decide (p<=q)):=by
 have ha: ∀ y∈l.take i,y<p:=fun y hy=>by
  obtain⟨k,hk⟩:=aN.1 hy
  rw[di]at hk
  split at hk
  exact h1 k y hk ‹_›
  cases hk
 have hb: ∀ y∈l.drop i,p<=y:=fun y hy=>by
  obtain⟨k,hk⟩:=aN.1 hy
  rw[dk]at hk
  exact h2 _ y hk I
 have e1:l.filter (fun q=>decide (q<p))=(l.take i).filter (fun q=>decide (q<p))++(l.drop i).filter (fun q=>decide (q<p)):=by rw[<-jn,g8]
 have e2:l.filter (fun q=>decide (p<=q))=(l.take i).filter (fun q=>decide (p<=q))++(l.drop i).filter (fun q=>decide (p<=q)):=by rw[<-jn,g8]
 rw[e1,e2,j7.2 (fun y hy=>decide_eq_true (ha y hy)),wQ.2 (fun y hy=>by have:=hb y hy;simpa using this),
  wQ.2 (fun y hy=>by have:=ha y hy;simpa using this),j7.2 (fun y hy=>decide_eq_true (hb y hy))]
 simp
theorem EY {l:List Int} {p:Int} {i:Nat} (h1: ∀ k y,l[k]? =some y->k<i->y<p) (h2: ∀ k y,l[k]? =some y->i<=k->p<=y) (hp:l.Pairwise (· < ·)) (hn: ¬ l[i]? =some p):l.take i++[p]++l.drop i=kM l p:=by
 obtain⟨e1,e2⟩:=PX h1 h2
 have hm:p∉l:=fun hm=>by
  obtain⟨k,hk⟩:=aN.1 hm
  by_cases hki:k<i
  have:=h1 k p hk hki;omega
  have hki:i<=k:=by omega
  have hl:=(cy hk).1
  obtain⟨x,hx⟩: ∃ x,l[i]? =some x:=⟨_,aj I⟩
  have h3:=rises hp hx hk hki
  have h4:=h2 i x hx (ao _)
  exact hn (by rw[hx];congr 1;omega)
 unfold kM
 rw[if_neg hm,e1,e2]
theorem yR {l:List Int} {p:Int} {i:Nat} (h:l[i]? =some p):kM l p=l:=if_pos (ab h)
theorem vJ {w0 w:World} {F:List ce} (X A B C:List (Nat×Obj)) (H:Hp w0 w (X++((A++B++C)++[])) F):Hp w0 w ((X++A)++B++C) F:=by simpa using H
theorem Bj {w0 w:World} {F:List ce} (X A B C:List (Nat×Obj)) (H:Hp w0 w ((X++A)++B++C) F):Hp w0 w (X++((A++B++C)++[])) F:=by simpa using H
theorem DE {ck p:Int} {t t':Tx} (h:t'.a=t.a):(iR ck p t').a=(iR ck p t).a:=by
 have e: ∀ t:Tx,(iR ck p t).a=iR ck p t.a:=fun t=>by
  unfold iR
  by_cases h:t.state=1
  rw[if_pos h,if_pos (show t.a.state=1 from h)];rfl
  rw[if_neg h,if_neg (show¬ t.a.state=1 from h)];rfl
 rw[e,e,h]
theorem jZ {ts:List Tx} (h: ∀ t∈ts,t.parts.length<=t.cap) (i:Nat) {t':Tx} (h2:t'.parts.length<=t'.cap): ∀ x∈ts.set i t',x.parts.length<=x.cap:=fun x hx=>by
 rcases aA hx with hx|rfl
 exact h x hx
 exact h2
theorem Nj (c:Co) (s:ByteArray) (ver p:Int) (w:World) (h:c.rd 0 w.heap.size w) (hok:gU c=true) (hn:bu s=true) (hi:fW c s= -1):dt aa oI [c.v,.string s,J ver,J p] w fun v w2=>v=.tuple #[.agg #[J 0,J 0,J 0,.slice none 0 0],J 5]/\Below w.heap.size w w2:=by
 refine aG qb Z Z ?_
 have hcap:=h.cap
 have hfew:=h.few
 have hfp:=h.fewP
 have H:=Hp.startCo h
 obtain⟨ck,nx,wt,txs,cA,cc⟩:=c
 dsimp only at hcap hfew hfp H
 show CW _ _ _ _ (args [.agg #[J ck,J nx,J wt,.slice cA txs.length cc],.string s,J ver,J p]) w
 refine W<|Zr<|gY H Z Z fun w1 b4 H=>fc H cI Z fun w2 b8 H=>G (Wi Z)<|U<|W<|Zr<|G (Zw ax H 1 Z Z Z)<|G (Yt Z)<|G (Yi Z)<|cu gT (AV ⟨ck,nx,wt,txs,cA,cc⟩ s ver _ ⟨H.rd0 0 Z,fun t ht=>fF H 1 Z ht,hcap,hfew,hfp⟩ hok hn hi) Z Z ?_
 rintro _ w3 ⟨rfl,hb⟩;replace H:=H.later hb;clear hb
 refine G (Yu Z)<|G (Xa Z Z)<|G (Xi Z Z)<|G (Xi Z Z)<|bA H 1 (#[J (0),J (0),J (0),.slice none 0 0]) aF Z Z Z Z Z N N fun w4 H=>G (Wi Z)<|G (Wi Z)<|U<|W<|W<|Zr<|G (Yi Z)<|G (lN Z Z (by decide))<|U<|ZT Z<|W<|Zr<|G (bC (cs:= #[J (0),J (0),J (0),.slice none 0 0]) fH cI N)<|G (Yi Z)<|bA H 0 (#[J (0),J (0),J (0),.slice none 0 0]) aF Z Z Z Z Z N N fun w5 H=>G (Wi Z)<|U<|Zt ?_
 exact ch (cs0:= #[J 0,J 0,J 0,.slice none 0 0]) (v1:=J 5) Z ax Z (H.ent (i:=0) Z) Z Z ⟨rfl,H.below⟩
theorem KD (c:Co) (s:ByteArray) (ver p:Int) (i:Nat) (t:Tx) (w:World) (h:c.rd 0 w.heap.size w) (hok:gU c=true) (hn:bu s=true) (hi:fW c s=i) (ht:c.txs[i]? =some t) (hv:t.ver≠ver):dt aa oI [c.v,.string s,J ver,J p] w fun v w2=>v=.tuple #[.agg #[J 0,J 0,J 0,.slice none 0 0],J 10]/\Below w.heap.size w w2:=by
 refine aG qb Z Z ?_
 have hcap:=h.cap
 have hfew:=h.few
 have hfp:=h.fewP
 have H:=Hp.startCo h
 obtain⟨ck,nx,wt,txs,cA,cc⟩:=c
 dsimp only at hcap hfew hfp H
 show CW _ _ _ _ (args [.agg #[J ck,J nx,J wt,.slice cA txs.length cc],.string s,J ver,J p]) w
 dsimp only at ht
 refine W<|Zr<|gY H Z Z fun w1 b4 H=>fc H cI Z fun w2 b8 H=>G (Wi Z)<|U<|W<|Zr<|G (Zw ax H 1 Z Z Z)<|G (Yt Z)<|G (Yi Z)<|cu gT (y9 ⟨ck,nx,wt,txs,cA,cc⟩ s ver i t _ ⟨H.rd0 0 Z,fun t ht=>fF H 1 Z ht,hcap,hfew,hfp⟩ hok hn hi ht hv) Z Z ?_
 rintro _ w3 ⟨rfl,hb⟩;replace H:=H.later hb;clear hb
 refine G (Yu Z)<|G (Xa Z Z)<|G (Xi Z Z)<|G (Xi Z Z)<|bA H 1 (#[J (0),J (0),J (0),.slice none 0 0]) aF Z Z Z Z Z N N fun w4 H=>G (Wi Z)<|G (Wi Z)<|U<|W<|W<|Zr<|G (Yi Z)<|G (lN Z Z (by decide))<|U<|ZT Z<|W<|Zr<|G (bC (cs:= #[J (0),J (0),J (0),.slice none 0 0]) fH cI N)<|G (Yi Z)<|bA H 0 (#[J (0),J (0),J (0),.slice none 0 0]) aF Z Z Z Z Z N N fun w5 H=>G (Wi Z)<|U<|Zt ?_
 exact ch (cs0:= #[J 0,J 0,J 0,.slice none 0 0]) (v1:=J 10) Z ax Z (H.ent (i:=0) Z) Z Z ⟨rfl,H.below⟩
theorem KC (c:Co) (s:ByteArray) (ver p:Int) (i:Nat) (t:Tx) (w:World) (h:c.rd 0 w.heap.size w) (hok:gU c=true) (hn:bu s=true) (hi:fW c s=i) (ht:c.txs[i]? =some t) (hv:t.ver=ver) (hp0:0<=p) (hp3:p<4) (h1:t.state≠1) (h2:t.state≠2):dt aa oI [c.v,.string s,J ver,J p] w fun v w2=>v=.tuple #[.agg #[J 0,J 0,J 0,.slice none 0 0],J 12]/\Below w.heap.size w w2:=by
 refine aG qb Z Z ?_
 have hcap:=h.cap
 have hfew:=h.few
 have hfp:=h.fewP
 have H:=Hp.startCo h
 obtain⟨ck,nx,wt,txs,cA,cc⟩:=c
 dsimp only at hcap hfew hfp H
 show CW _ _ _ _ (args [.agg #[J ck,J nx,J wt,.slice cA txs.length cc],.string s,J ver,J p]) w
 dsimp only at ht
 refine W<|Zr<|gY H Z Z fun w1 b4 H=>fc H cI Z fun w2 b8 H=>G (Wi Z)<|U<|W<|Zr<|G (Zw ax H 1 Z Z Z)<|G (Yt Z)<|G (Yi Z)<|cu gT (xe ⟨ck,nx,wt,txs,cA,cc⟩ s ver i t _ ⟨H.rd0 0 Z,fun t ht=>fF H 1 Z ht,hcap,hfew,hfp⟩ hok hn hi ht hv) Z Z ?_
 rintro _ w3 ⟨⟨ck2,nx2,wt2,tx2,A2,c2⟩,Lr,Lp,rfl,ha2,ho2,hp2,hoc2,hpc2,hj2⟩
 replace H:=H.joinR hj2;clear hj2
 simp only[Co.a,Co.mk.injEq]at ha2
 obtain⟨e1,e2,e3,hma,-,-⟩:=ha2
 obtain rfl:ck=ck2:=e1.symm
 obtain rfl:nx=nx2:=e2.symm
 obtain rfl:wt=wt2:=e3.symm
 dsimp only at ho2 hp2 hoc2 hpc2 H
 obtain⟨t2,ht2,hta⟩:=rL hma ht
 have hl2:=(cy ht2).1
 obtain⟨g,cur,rfl,rfl,row⟩:=ho2.row I
 have hst:t2.state=t.state:=by show t2.a.state=t.a.state;rw[hta]
 have hdn:t2.done=t.done:=by show t2.a.done=t.a.done;rw[hta]
 have hpt:t2.parts=t.parts:=by show t2.a.parts=t.a.parts;rw[hta]
 refine G (Yu Z)<|G (Xa Z Z)<|G (Xi Z Z)<|G (Xi Z Z)<|bA H 1 (#[J (ck),J (nx),J (wt),.slice (Qd g) tx2.length c2]) aF Z Z Z Z Z N N fun w4 H=>G (Wi Z)<|G (Wi Z)<|U<|W<|W<|Zr<|G (Yi Z)<|G (cv Z Z Z)<|U<|ZF Z<|Zk<|W<|W<|Zr<|G (Yi Z)<|G (dp Z Z I)<|G (Yb Z)<|ZG<|G (Yi Z)<|ZG<|G (rU Z Z I)<|G (N Z Z)<|U<|ZF Z<|Zk<|W<|Zr<|G (Zf cP Z)<|G (Zd dN H 1 Z Z Z)<|G (Yi Z)<|G (cR gW Z Z (by first|omega|(simp only[ae];omega)))<|G (Wp Z)<|U<|W<|W ?_
 refine Zr<|G (Yp Z)<|G (aH Z)<|G (Zf cV Z)<|G (bU am row ht2 3 Z (H.ent (i:=2) Z) Z)<|U<|Zb<|W<|Zr<|G (lS Z Z I)<|G (Wb Z)<|U<|ZF Z<|W<|Zr<|G (lS Z Z I)<|G (Wb Z)<|U<|ZF Z<|W<|Zr<|G (bC (cs:= #[J (0),J (0),J (0),.slice none 0 0]) fH cI N)<|bA H 0 (#[J (0),J (0),J (0),.slice none 0 0]) aF Z Z Z Z Z N N fun w5 H=>G (Wi Z)<|U<|Zt ?_
 exact ch (cs0:= #[J 0,J 0,J 0,.slice none 0 0]) (v1:=J 12) Z ax Z (H.ent (i:=0) Z) Z Z ⟨rfl,H.below⟩
theorem P6 (c:Co) (s:ByteArray) (ver p:Int) (i:Nat) (t:Tx) (w:World) (h:c.rd 0 w.heap.size w) (hok:gU c=true) (hn:bu s=true) (hi:fW c s=i) (ht:c.txs[i]? =some t) (hv:t.ver=ver) (hp0:0<=p) (hp3:p<4) (h12:t.state=1∨t.state=2) (hpo:cW (-1) t.parts=true):dt aa oI [c.v,.string s,J ver,J p] w fun v w2=> ∃ (c':Co) (Lr Lp:List (Nat×Obj)),v=.tuple #[c'.v,J 0]/\qM w w2 (Co.a {c with txs:=c.txs.set i (iR c.clock p t)}) c' Lr Lp:=by
 refine aG qb Z Z ?_
 have hcap:=h.cap
 have hfew:=h.few
 have hfp:=h.fewP
 have H:=Hp.startCo h
 obtain⟨ck,nx,wt,txs,cA,cc⟩:=c
 dsimp only at hcap hfew hfp H
 show CW _ _ _ _ (args [.agg #[J ck,J nx,J wt,.slice cA txs.length cc],.string s,J ver,J p]) w
 dsimp only at ht⊢
 refine W<|Zr<|gY H Z Z fun w1 b4 H=>fc H cI Z fun w2 b8 H=>G (Wi Z)<|U<|W<|Zr<|G (Zw ax H 1 Z Z Z)<|G (Yt Z)<|G (Yi Z)<|cu gT (xe ⟨ck,nx,wt,txs,cA,cc⟩ s ver i t _ ⟨H.rd0 0 Z,fun t ht=>fF H 1 Z ht,hcap,hfew,hfp⟩ hok hn hi ht hv) Z Z ?_
 rintro _ w3 ⟨⟨ck2,nx2,wt2,tx2,A2,c2⟩,Lr,Lp,rfl,ha2,ho2,hp2,hoc2,hpc2,hj2⟩
 replace H:=H.joinR hj2;clear hj2
 simp only[Co.a,Co.mk.injEq]at ha2
 obtain⟨e1,e2,e3,hma,-,-⟩:=ha2
 obtain rfl:ck=ck2:=e1.symm
 obtain rfl:nx=nx2:=e2.symm
 obtain rfl:wt=wt2:=e3.symm
 dsimp only at ho2 hp2 hoc2 hpc2 H
 obtain⟨t2,ht2,hta⟩:=rL hma ht
 have hl2:=(cy ht2).1
 obtain⟨g,cur,rfl,rfl,row⟩:=ho2.row I
 have hst:t2.state=t.state:=by show t2.a.state=t.a.state;rw[hta]
 have hdn:t2.done=t.done:=by show t2.a.done=t.a.done;rw[hta]
 have hpt:t2.parts=t.parts:=by show t2.a.parts=t.a.parts;rw[hta]
 refine G (Yu Z)<|G (Xa Z Z)<|G (Xi Z Z)<|G (Xi Z Z)<|bA H 1 (#[J (ck),J (nx),J (wt),.slice (Qd g) tx2.length c2]) aF Z Z Z Z Z N N fun w4 H=>G (Wi Z)<|G (Wi Z)<|U<|W<|W<|Zr<|G (Yi Z)<|G (cv Z Z Z)<|U<|ZF Z<|Zk<|W<|W<|Zr<|G (Yi Z)<|G (dp Z Z I)<|G (Yb Z)<|ZG<|G (Yi Z)<|ZG<|G (rU Z Z I)<|G (N Z Z)<|U<|ZF Z<|Zk<|W<|Zr<|G (Zf cP Z)<|G (Zd dN H 1 Z Z Z)<|G (Yi Z)<|G (cR gW Z Z (by first|omega|(simp only[ae];omega)))<|G (Wp Z)<|U<|W<|W ?_
 refine Zr<|G (Yp Z)<|G (aH Z)<|G (Zf cV Z)<|G (bU am row ht2 3 Z (H.ent (i:=2) Z) Z)<|U<|Zb<|W<|Zr ?_
 refine du (bv Z Z) Z Z Z (fun h44=> ?_) (fun h44=> ?_)
 refine G (Wb Z)<|U<|ZT Z ?_
 refine rz cD [0,1,2,4,5] [3,6,7,8,9] [0,1,2,4,5] 5 N N N Nq ?_
 refine aw Z Z Z Z Z (fun w' hw'=>Yp Z)<|aw Z Z Z Z Z (fun w' hw'=>Yp Z)<|aw Z Z Z Z Z (fun w' hw'=>Zf kF Z)<|aw Z Z Z Z Z (fun w' hw'=>aH Z)<|aw Z Z Z Z Z (fun w' hw'=>Zf cV Z)<|aU ?_
 intro w5 hw';replace H:=H.later hw';clear hw'
 refine uj 3 6 N Z Z ?_ ?_
 refine G (Zd am H 1 Z Z Z)<|U<|df 6 N Z<|ni H 2 ({t2 with state:=2}) bQ row ht2 3 Z Z Z Z Z Z N fun w7 cur6 row6 H=> ?_
 have hs8:(tx2.set i ({t2 with state:=2}))[i]? =some ({t2 with state:=2}):=al (cy ht2).1
 refine U<|df 7 N Z<|G (aH Z)<|U<|df 8 N Z<|G (Zf uD Z)<|U<|df 9 N Z<|ni H 2 ({({t2 with state:=2})with since:=ck}) bQ row6 hs8 5 Z Z Z Z Z Z N fun w10 cur9 row9 H=> ?_
 have hs11:((tx2.set i ({t2 with state:=2})).set i ({({t2 with state:=2})with since:=ck}))[i]? =some ({({t2 with state:=2})with since:=ck}):=al (cy hs8).1
 refine U<|cj N<|W<|W ?_
 have hrise:=(fV hpo).1
 have hfw:=mM hpo
 rw[<-hpt]at hrise hfw
 obtain⟨La,Lt,Lb,rfl,hot,hset⟩:=hp2.at_ ht2
 refine Zr<|G (Yp Z)<|G (aH Z)<|G (Zf dD Z)<|G (bU cB row9 hs11 4 Z (H.ent (i:=2) Z) Z)<|G (Yi Z)<|cu ef (qH t2.parts p t2.A t2.cap _ ((hot.rd (K:=[(b8,.cells #[J (0),J (0),J (0),.slice none 0 0] aX (0,0)),(b4,.cells #[J (ck),J (nx),J (wt),.slice (Qd g) tx2.length c2] aX (0,0)),(g,.cells cur9 dH (0,0))]++La) (M:=Lb) (vJ [(b8,.cells #[J (0),J (0),J (0),.slice none 0 0] aX (0,0)),(b4,.cells #[J (ck),J (nx),J (wt),.slice (Qd g) tx2.length c2] aX (0,0)),(g,.cells cur9 dH (0,0))] La Lt Lb H)).mono (bN _) (ao _)) I hrise) Z Z ?_
 rintro _ w12 ⟨j,rfl,hjl,hj1,hj2,hb⟩;replace H:=H.later hb;clear hb
 refine G (Yu Z)<|G (Xi Z Z)<|G (Xb Z Z) ?_
 refine nK 63 Z (fun h63=> ?_) (fun h63=> ?_)
 refine G (Wi Z)<|G (Wb Z)<|U<|W<|Zr<|G (Yb Z)<|G (ee Z)<|U<|ZF Z<|Zk<|W<|Zr<|G (Zw ax H 1 Z Z Z)<|bA H 0 (#[J (ck),J (nx),J (wt),.slice (Qd g) tx2.length c2]) aF Z Z Z Z Z N N fun w13 H=>G (Wi Z)<|U<|Zt ?_
 have hpp:kM t2.parts p=t2.parts:=yR (of_decide_eq_true h63)
 have hX:Tx.a ({t2 with state:=2,since:=ck})=(iR ck p t).a:=by rw[<-DE hta];unfold iR;rw[if_pos I];rw[hpp]
 have hrow:d7 sr (tx2.set i ({t2 with state:=2,since:=ck})) c2 cur9:=by have hr:=row9;simp only[fR]at hr;exact hr
 exact ch (cs0:= #[J ck,J nx,J wt,.slice (Qd g) tx2.length c2]) (v1:=J 0) Z ax Z (H.ent (i:=0) Z) Z Z ⟨⟨ck,nx,wt,tx2.set i ({t2 with state:=2,since:=ck}),some ⟨g,0,none⟩,c2⟩,[(g,.cells cur9 dH (0,0))],(La++Lt++Lb),by unfold Co.v Co.c;dsimp only;rw[ae],by unfold Co.a;dsimp only;rw[pG hma i hX],d7.own hrow,hset {t2 with state:=2,since:=ck} Lt hot,by dsimp only;rw[ae];exact hoc2,jZ hpc2 i (by exact hpc2 t2 (ab ht2)),H.forget (.cons _ (.cons _ (aC _ _))) (by simp)⟩
 refine G (Wi Z)<|G (Wb Z)<|U<|W<|Zr<|G (Yb Z)<|G (ee Z)<|U<|ZT Z<|Zr<|G (Yp Z)<|G (Yp Z)<|G (aH Z)<|G (Zf dD Z)<|G (bU cB row9 hs11 4 Z (H.ent (i:=2) Z) Z)<|G (Yi Z)<|G (Yi Z)<|uO (vs:=[J (p)]) H bj CP Z Z Z Z Z Z fun w14 b73 H=>cu iT (tj (K:=[(b8,.cells #[J (0),J (0),J (0),.slice none 0 0] aX (0,0)),(b4,.cells #[J (ck),J (nx),J (wt),.slice (Qd g) tx2.length c2] aX (0,0)),(g,.cells cur9 dH (0,0))]++La) (Lt:=Lt) (M:=Lb) (vJ [(b73,.cells #[J (p)] dg (0,0)),(b8,.cells #[J (0),J (0),J (0),.slice none 0 0] aX (0,0)),(b4,.cells #[J (ck),J (nx),J (wt),.slice (Qd g) tx2.length c2] aX (0,0)),(g,.cells cur9 dH (0,0))] La Lt Lb H) hot hjl I) Z Z ?_
 rintro _ w15 ⟨A9,c9,L9,rfl,ho9,HI⟩;replace H:Hp w w15 ([(b73,.cells #[J (p)] dg (0,0)),(b8,.cells #[J (0),J (0),J (0),.slice none 0 0] aX (0,0)),(b4,.cells #[J (ck),J (nx),J (wt),.slice (Qd g) tx2.length c2] aX (0,0)),(g,.cells cur9 dH (0,0))]++((La++L9++Lb)++[])) [ey sr 0 w.heap.size cA txs,iU 0 w.heap.size txs]:=Bj [(b73,.cells #[J (p)] dg (0,0)),(b8,.cells #[J (0),J (0),J (0),.slice none 0 0] aX (0,0)),(b4,.cells #[J (ck),J (nx),J (wt),.slice (Qd g) tx2.length c2] aX (0,0)),(g,.cells cur9 dH (0,0))] La L9 Lb HI
 have hc9:(t2.parts.take j++[p]++t2.parts.drop j).length<=c9:=by obtain⟨_,_,e,h,_⟩:=ho9.form;injection e with _ _ e;rw[e];exact h
 refine G (aH Z)<|G (Zf dD Z)<|ni H 3 ({{t2 with state:=2,since:=ck}with parts:=t2.parts.take j++[p]++t2.parts.drop j,A:=A9,cap:=c9}) jQ row9 hs11 4 Z Z Z Z Z Z N fun w17 cur16 row16 H=> ?_
 have hs18:(((tx2.set i ({t2 with state:=2})).set i ({({t2 with state:=2})with since:=ck})).set i ({{t2 with state:=2,since:=ck}with parts:=t2.parts.take j++[p]++t2.parts.drop j,A:=A9,cap:=c9}))[i]? =some ({{t2 with state:=2,since:=ck}with parts:=t2.parts.take j++[p]++t2.parts.drop j,A:=A9,cap:=c9}):=al (cy hs11).1
 refine U<|W<|Zr<|G (Zw ax H 2 Z Z Z)<|bA H 1 (#[J (ck),J (nx),J (wt),.slice (Qd g) tx2.length c2]) aF Z Z Z Z Z N N fun w19 H=>G (Wi Z)<|U<|Zt ?_
 have hpp:=EY hj1 hj2 hrise (of_decide_eq_false h63)
 have hX:Tx.a ({t2 with state:=2,since:=ck,parts:=t2.parts.take j++[p]++t2.parts.drop j,A:=A9,cap:=c9})=(iR ck p t).a:=by rw[<-DE hta];unfold iR;rw[if_pos I];rw[<-hpp];rfl
 have hrow:d7 sr (tx2.set i ({t2 with state:=2,since:=ck,parts:=t2.parts.take j++[p]++t2.parts.drop j,A:=A9,cap:=c9})) c2 cur16:=by have hr:=row16;simp only[fR]at hr;exact hr
 exact ch (cs0:= #[J ck,J nx,J wt,.slice (Qd g) tx2.length c2]) (v1:=J 0) Z ax Z (H.ent (i:=1) Z) Z Z ⟨⟨ck,nx,wt,tx2.set i ({t2 with state:=2,since:=ck,parts:=t2.parts.take j++[p]++t2.parts.drop j,A:=A9,cap:=c9}),some ⟨g,0,none⟩,c2⟩,[(g,.cells cur16 dH (0,0))],(La++L9++Lb),by unfold Co.v Co.c;dsimp only;rw[ae],by unfold Co.a;dsimp only;rw[pG hma i hX],d7.own hrow,hset {t2 with state:=2,since:=ck,parts:=t2.parts.take j++[p]++t2.parts.drop j,A:=A9,cap:=c9} L9 ho9,by dsimp only;rw[ae];exact hoc2,jZ hpc2 i (by exact hc9),H.forget (.cons _ (.cons _ (.cons _ (aC _ _)))) (by simp)⟩
 refine ni H 2 ({t2 with state:=2}) bQ row ht2 3 Z Z Z Z Z Z N fun w21 cur20 row20 H=> ?_
 have hs22:(tx2.set i ({t2 with state:=2}))[i]? =some ({t2 with state:=2}):=al (cy ht2).1
 refine U<|df 3 N Z<|G (Zd am H 1 Z Z Z)<|U<|df 7 N Z<|G (aH Z)<|U<|df 8 N Z<|G (Zf uD Z)<|U<|df 9 N Z<|ni H 2 ({({t2 with state:=2})with since:=ck}) bQ row20 hs22 5 Z Z Z Z Z Z N fun w24 cur23 row23 H=> ?_
 have hs25:((tx2.set i ({t2 with state:=2})).set i ({({t2 with state:=2})with since:=ck}))[i]? =some ({({t2 with state:=2})with since:=ck}):=al (cy hs22).1
 refine U<|cj N<|W<|W ?_
 have hrise:=(fV hpo).1
 have hfw:=mM hpo
 rw[<-hpt]at hrise hfw
 obtain⟨La,Lt,Lb,rfl,hot,hset⟩:=hp2.at_ ht2
 refine Zr<|G (Yp Z)<|G (aH Z)<|G (Zf dD Z)<|G (bU cB row23 hs25 4 Z (H.ent (i:=2) Z) Z)<|G (Yi Z)<|cu ef (qH t2.parts p t2.A t2.cap _ ((hot.rd (K:=[(b8,.cells #[J (0),J (0),J (0),.slice none 0 0] aX (0,0)),(b4,.cells #[J (ck),J (nx),J (wt),.slice (Qd g) tx2.length c2] aX (0,0)),(g,.cells cur23 dH (0,0))]++La) (M:=Lb) (vJ [(b8,.cells #[J (0),J (0),J (0),.slice none 0 0] aX (0,0)),(b4,.cells #[J (ck),J (nx),J (wt),.slice (Qd g) tx2.length c2] aX (0,0)),(g,.cells cur23 dH (0,0))] La Lt Lb H)).mono (bN _) (ao _)) I hrise) Z Z ?_
 rintro _ w26 ⟨j,rfl,hjl,hj1,hj2,hb⟩;replace H:=H.later hb;clear hb
 refine G (Yu Z)<|G (Xi Z Z)<|G (Xb Z Z) ?_
 refine nK 63 Z (fun h63=> ?_) (fun h63=> ?_)
 refine G (Wi Z)<|G (Wb Z)<|U<|W<|Zr<|G (Yb Z)<|G (ee Z)<|U<|ZF Z<|Zk<|W<|Zr<|G (Zw ax H 1 Z Z Z)<|bA H 0 (#[J (ck),J (nx),J (wt),.slice (Qd g) tx2.length c2]) aF Z Z Z Z Z N N fun w27 H=>G (Wi Z)<|U<|Zt ?_
 have hpp:kM t2.parts p=t2.parts:=yR (of_decide_eq_true h63)
 have hX:Tx.a ({t2 with state:=2,since:=ck})=(iR ck p t).a:=by rw[<-DE hta];unfold iR;rw[if_pos I];rw[hpp]
 have hrow:d7 sr (tx2.set i ({t2 with state:=2,since:=ck})) c2 cur23:=by have hr:=row23;simp only[fR]at hr;exact hr
 exact ch (cs0:= #[J ck,J nx,J wt,.slice (Qd g) tx2.length c2]) (v1:=J 0) Z ax Z (H.ent (i:=0) Z) Z Z ⟨⟨ck,nx,wt,tx2.set i ({t2 with state:=2,since:=ck}),some ⟨g,0,none⟩,c2⟩,[(g,.cells cur23 dH (0,0))],(La++Lt++Lb),by unfold Co.v Co.c;dsimp only;rw[ae],by unfold Co.a;dsimp only;rw[pG hma i hX],d7.own hrow,hset {t2 with state:=2,since:=ck} Lt hot,by dsimp only;rw[ae];exact hoc2,jZ hpc2 i (by exact hpc2 t2 (ab ht2)),H.forget (.cons _ (.cons _ (aC _ _))) (by simp)⟩
 refine G (Wi Z)<|G (Wb Z)<|U<|W<|Zr<|G (Yb Z)<|G (ee Z)<|U<|ZT Z<|Zr<|G (Yp Z)<|G (Yp Z)<|G (aH Z)<|G (Zf dD Z)<|G (bU cB row23 hs25 4 Z (H.ent (i:=2) Z) Z)<|G (Yi Z)<|G (Yi Z)<|uO (vs:=[J (p)]) H bj CP Z Z Z Z Z Z fun w28 b73 H=>cu iT (tj (K:=[(b8,.cells #[J (0),J (0),J (0),.slice none 0 0] aX (0,0)),(b4,.cells #[J (ck),J (nx),J (wt),.slice (Qd g) tx2.length c2] aX (0,0)),(g,.cells cur23 dH (0,0))]++La) (Lt:=Lt) (M:=Lb) (vJ [(b73,.cells #[J (p)] dg (0,0)),(b8,.cells #[J (0),J (0),J (0),.slice none 0 0] aX (0,0)),(b4,.cells #[J (ck),J (nx),J (wt),.slice (Qd g) tx2.length c2] aX (0,0)),(g,.cells cur23 dH (0,0))] La Lt Lb H) hot hjl I) Z Z ?_
 rintro _ w29 ⟨A9,c9,L9,rfl,ho9,HI⟩;replace H:Hp w w29 ([(b73,.cells #[J (p)] dg (0,0)),(b8,.cells #[J (0),J (0),J (0),.slice none 0 0] aX (0,0)),(b4,.cells #[J (ck),J (nx),J (wt),.slice (Qd g) tx2.length c2] aX (0,0)),(g,.cells cur23 dH (0,0))]++((La++L9++Lb)++[])) [ey sr 0 w.heap.size cA txs,iU 0 w.heap.size txs]:=Bj [(b73,.cells #[J (p)] dg (0,0)),(b8,.cells #[J (0),J (0),J (0),.slice none 0 0] aX (0,0)),(b4,.cells #[J (ck),J (nx),J (wt),.slice (Qd g) tx2.length c2] aX (0,0)),(g,.cells cur23 dH (0,0))] La L9 Lb HI
 have hc9:(t2.parts.take j++[p]++t2.parts.drop j).length<=c9:=by obtain⟨_,_,e,h,_⟩:=ho9.form;injection e with _ _ e;rw[e];exact h
 refine G (aH Z)<|G (Zf dD Z)<|ni H 3 ({{t2 with state:=2,since:=ck}with parts:=t2.parts.take j++[p]++t2.parts.drop j,A:=A9,cap:=c9}) jQ row23 hs25 4 Z Z Z Z Z Z N fun w31 cur30 row30 H=> ?_
 have hs32:(((tx2.set i ({t2 with state:=2})).set i ({({t2 with state:=2})with since:=ck})).set i ({{t2 with state:=2,since:=ck}with parts:=t2.parts.take j++[p]++t2.parts.drop j,A:=A9,cap:=c9}))[i]? =some ({{t2 with state:=2,since:=ck}with parts:=t2.parts.take j++[p]++t2.parts.drop j,A:=A9,cap:=c9}):=al (cy hs25).1
 refine U<|W<|Zr<|G (Zw ax H 2 Z Z Z)<|bA H 1 (#[J (ck),J (nx),J (wt),.slice (Qd g) tx2.length c2]) aF Z Z Z Z Z N N fun w33 H=>G (Wi Z)<|U<|Zt ?_
 have hpp:=EY hj1 hj2 hrise (of_decide_eq_false h63)
 have hX:Tx.a ({t2 with state:=2,since:=ck,parts:=t2.parts.take j++[p]++t2.parts.drop j,A:=A9,cap:=c9})=(iR ck p t).a:=by rw[<-DE hta];unfold iR;rw[if_pos I];rw[<-hpp];rfl
 have hrow:d7 sr (tx2.set i ({t2 with state:=2,since:=ck,parts:=t2.parts.take j++[p]++t2.parts.drop j,A:=A9,cap:=c9})) c2 cur30:=by have hr:=row30;simp only[fR]at hr;exact hr
 exact ch (cs0:= #[J ck,J nx,J wt,.slice (Qd g) tx2.length c2]) (v1:=J 0) Z ax Z (H.ent (i:=1) Z) Z Z ⟨⟨ck,nx,wt,tx2.set i ({t2 with state:=2,since:=ck,parts:=t2.parts.take j++[p]++t2.parts.drop j,A:=A9,cap:=c9}),some ⟨g,0,none⟩,c2⟩,[(g,.cells cur30 dH (0,0))],(La++L9++Lb),by unfold Co.v Co.c;dsimp only;rw[ae],by unfold Co.a;dsimp only;rw[pG hma i hX],d7.own hrow,hset {t2 with state:=2,since:=ck,parts:=t2.parts.take j++[p]++t2.parts.drop j,A:=A9,cap:=c9} L9 ho9,by dsimp only;rw[ae];exact hoc2,jZ hpc2 i (by exact hc9),H.forget (.cons _ (.cons _ (.cons _ (aC _ _)))) (by simp)⟩
 refine G (Wb Z)<|U<|ZF Z<|W<|Zr<|G (se Z Z I)<|G (Wb Z)<|U<|ZT Z<|Zk<|W<|W ?_
 have hrise:=(fV hpo).1
 have hfw:=mM hpo
 rw[<-hpt]at hrise hfw
 obtain⟨La,Lt,Lb,rfl,hot,hset⟩:=hp2.at_ ht2
 refine Zr<|G (Yp Z)<|G (aH Z)<|G (Zf dD Z)<|G (bU cB row ht2 4 Z (H.ent (i:=2) Z) Z)<|G (Yi Z)<|cu ef (qH t2.parts p t2.A t2.cap _ ((hot.rd (K:=[(b8,.cells #[J (0),J (0),J (0),.slice none 0 0] aX (0,0)),(b4,.cells #[J (ck),J (nx),J (wt),.slice (Qd g) tx2.length c2] aX (0,0)),(g,.cells cur dH (0,0))]++La) (M:=Lb) (vJ [(b8,.cells #[J (0),J (0),J (0),.slice none 0 0] aX (0,0)),(b4,.cells #[J (ck),J (nx),J (wt),.slice (Qd g) tx2.length c2] aX (0,0)),(g,.cells cur dH (0,0))] La Lt Lb H)).mono (bN _) (ao _)) I hrise) Z Z ?_
 rintro _ w34 ⟨j,rfl,hjl,hj1,hj2,hb⟩;replace H:=H.later hb;clear hb
 refine G (Yu Z)<|G (Xi Z Z)<|G (Xb Z Z) ?_
 refine nK 63 Z (fun h63=> ?_) (fun h63=> ?_)
 refine G (Wi Z)<|G (Wb Z)<|U<|W<|Zr<|G (Yb Z)<|G (ee Z)<|U<|ZF Z<|Zk<|W<|Zr<|G (Zw ax H 1 Z Z Z)<|bA H 0 (#[J (ck),J (nx),J (wt),.slice (Qd g) tx2.length c2]) aF Z Z Z Z Z N N fun w35 H=>G (Wi Z)<|U<|Zt ?_
 have hpp:kM t2.parts p=t2.parts:=yR (of_decide_eq_true h63)
 have hX:Tx.a (t2)=(iR ck p t).a:=by rw[<-DE hta];unfold iR;rw[if_neg I];rw[hpp]
 have hrow:d7 sr (tx2.set i (t2)) c2 cur:=by rw[i4 ht2];exact row
 exact ch (cs0:= #[J ck,J nx,J wt,.slice (Qd g) tx2.length c2]) (v1:=J 0) Z ax Z (H.ent (i:=0) Z) Z Z ⟨⟨ck,nx,wt,tx2.set i (t2),some ⟨g,0,none⟩,c2⟩,[(g,.cells cur dH (0,0))],(La++Lt++Lb),by unfold Co.v Co.c;dsimp only;rw[ae],by unfold Co.a;dsimp only;rw[pG hma i hX],d7.own hrow,hset t2 Lt hot,by dsimp only;rw[ae];exact hoc2,jZ hpc2 i (by exact hpc2 t2 (ab ht2)),H.forget (.cons _ (.cons _ (aC _ _))) (by simp)⟩
 refine G (Wi Z)<|G (Wb Z)<|U<|W<|Zr<|G (Yb Z)<|G (ee Z)<|U<|ZT Z<|Zr<|G (Yp Z)<|G (Yp Z)<|G (aH Z)<|G (Zf dD Z)<|G (bU cB row ht2 4 Z (H.ent (i:=2) Z) Z)<|G (Yi Z)<|G (Yi Z)<|uO (vs:=[J (p)]) H bj CP Z Z Z Z Z Z fun w36 b73 H=>cu iT (tj (K:=[(b8,.cells #[J (0),J (0),J (0),.slice none 0 0] aX (0,0)),(b4,.cells #[J (ck),J (nx),J (wt),.slice (Qd g) tx2.length c2] aX (0,0)),(g,.cells cur dH (0,0))]++La) (Lt:=Lt) (M:=Lb) (vJ [(b73,.cells #[J (p)] dg (0,0)),(b8,.cells #[J (0),J (0),J (0),.slice none 0 0] aX (0,0)),(b4,.cells #[J (ck),J (nx),J (wt),.slice (Qd g) tx2.length c2] aX (0,0)),(g,.cells cur dH (0,0))] La Lt Lb H) hot hjl I) Z Z ?_
 rintro _ w37 ⟨A9,c9,L9,rfl,ho9,HI⟩;replace H:Hp w w37 ([(b73,.cells #[J (p)] dg (0,0)),(b8,.cells #[J (0),J (0),J (0),.slice none 0 0] aX (0,0)),(b4,.cells #[J (ck),J (nx),J (wt),.slice (Qd g) tx2.length c2] aX (0,0)),(g,.cells cur dH (0,0))]++((La++L9++Lb)++[])) [ey sr 0 w.heap.size cA txs,iU 0 w.heap.size txs]:=Bj [(b73,.cells #[J (p)] dg (0,0)),(b8,.cells #[J (0),J (0),J (0),.slice none 0 0] aX (0,0)),(b4,.cells #[J (ck),J (nx),J (wt),.slice (Qd g) tx2.length c2] aX (0,0)),(g,.cells cur dH (0,0))] La L9 Lb HI
 have hc9:(t2.parts.take j++[p]++t2.parts.drop j).length<=c9:=by obtain⟨_,_,e,h,_⟩:=ho9.form;injection e with _ _ e;rw[e];exact h
 refine G (aH Z)<|G (Zf dD Z)<|ni H 3 ({t2 with parts:=t2.parts.take j++[p]++t2.parts.drop j,A:=A9,cap:=c9}) jQ row ht2 4 Z Z Z Z Z Z N fun w39 cur38 row38 H=> ?_
 have hs40:(tx2.set i ({t2 with parts:=t2.parts.take j++[p]++t2.parts.drop j,A:=A9,cap:=c9}))[i]? =some ({t2 with parts:=t2.parts.take j++[p]++t2.parts.drop j,A:=A9,cap:=c9}):=al (cy ht2).1
 refine U<|W<|Zr<|G (Zw ax H 2 Z Z Z)<|bA H 1 (#[J (ck),J (nx),J (wt),.slice (Qd g) tx2.length c2]) aF Z Z Z Z Z N N fun w41 H=>G (Wi Z)<|U<|Zt ?_
 have hpp:=EY hj1 hj2 hrise (of_decide_eq_false h63)
 have hX:Tx.a ({t2 with parts:=t2.parts.take j++[p]++t2.parts.drop j,A:=A9,cap:=c9})=(iR ck p t).a:=by rw[<-DE hta];unfold iR;rw[if_neg I];rw[<-hpp];rfl
 have hrow:d7 sr (tx2.set i ({t2 with parts:=t2.parts.take j++[p]++t2.parts.drop j,A:=A9,cap:=c9})) c2 cur38:=by exact row38
 exact ch (cs0:= #[J ck,J nx,J wt,.slice (Qd g) tx2.length c2]) (v1:=J 0) Z ax Z (H.ent (i:=1) Z) Z Z ⟨⟨ck,nx,wt,tx2.set i ({t2 with parts:=t2.parts.take j++[p]++t2.parts.drop j,A:=A9,cap:=c9}),some ⟨g,0,none⟩,c2⟩,[(g,.cells cur38 dH (0,0))],(La++L9++Lb),by unfold Co.v Co.c;dsimp only;rw[ae],by unfold Co.a;dsimp only;rw[pG hma i hX],d7.own hrow,hset {t2 with parts:=t2.parts.take j++[p]++t2.parts.drop j,A:=A9,cap:=c9} L9 ho9,by dsimp only;rw[ae];exact hoc2,jZ hpc2 i (by exact hc9),H.forget (.cons _ (.cons _ (.cons _ (aC _ _)))) (by simp)⟩
def hM (t:Tx):Bool:=decide (t.state=3)||decide (t.state=4)
def ij (txs:List Tx) (n:Nat):Option Tx:=(txs.filter hM)[n]?
def AP (t:Tx):Value:=.agg #[J 0,J t.pid,J t.ver,J 0,J (if t.state=4 then 3 else 2),.bool true,.string ⟨#[]⟩]
def y5 (o:Option Tx):Value:=match o with
 |none=> .tuple #[.string ⟨#[]⟩,J 0,.agg #[J 0,J 0,J 0,J 0,J 0,.bool false,.string ⟨#[]⟩],J 15]
 |some t=> .tuple #[.string t.name,J (t.parts.headD 0),AP t,J 0]
theorem Hp.partRow {w0 w:World} {L:List (Nat×Obj)} {F:List ce} {lo hi:Nat} {txs:List Tx} (H:Hp w0 w L F) (i:Nat) (hF:F[i]? =some (iU lo hi txs)) {t:Tx} (ht:t∈txs):Hp w0 w L (ey bS lo hi t.A t.parts::F):=by
 refine⟨H.below,H.ents,H.nodup,fun f hf=> ?_⟩
 rcases av.1 hf with rfl|hf
 obtain⟨h1,h2,h3⟩:=H.facts _ (ab hF)
 exact⟨h1 t ht,h2,h3⟩
 exact H.facts f hf
theorem Ma {txs:List Tx} {k m:Nat} {x:Tx} (hx:txs[k]? =some x) (he:hM x=false):((txs.drop k).filter hM)[m]? =((txs.drop (k+1)).filter hM)[m]? :=by
 rw[cM hx,ph (by rw[he];decide)]
theorem IE {txs:List Tx} {k:Nat} {x:Tx} (hx:txs[k]? =some x) (he:hM x=true):((txs.drop k).filter hM)[0]? =some x:=by
 rw[cM hx,kc he];rfl
theorem FB {txs:List Tx} {k m:Nat} {x:Tx} (hx:txs[k]? =some x) (he:hM x=true) (hm:1<=m):((txs.drop k).filter hM)[m]? =((txs.drop (k+1)).filter hM)[m-1]? :=by
 obtain⟨m,rfl⟩: ∃ j,m=j+1:=⟨m-1,by omega⟩
 rw[cM hx,kc he];rfl
theorem N4 {txs:List Tx} {k m:Nat} (h:txs.length<=k):((txs.drop k).filter hM)[m]? =none:=by
 rw[er h];rfl
theorem N9 (c:Co) (n:Nat) (w:World) (h:c.rd 0 w.heap.size w) (hok:gU c=true) (hn:n<=1000):dt aa xn [c.v,J (n:Nat)] w fun v w2=>v=y5 (ij c.txs n)/\Below w.heap.size w w2:=by
 refine aG Cz Z Z ?_
 have hcap:=h.cap
 have hfew:=h.few
 have hfp:=h.fewP
 have H:=Hp.startCo h
 obtain⟨ck,nx,wt,txs,cA,cc⟩:=c
 dsimp only at hcap hfew hfp H
 show CW _ _ _ _ (args [.agg #[J ck,J nx,J wt,.slice cA txs.length cc],J (n:Nat)]) w
 obtain⟨q1,q2,q3,q4,q5,q6,q7⟩:=je.1 hok
 dsimp only at q6 q7⊢
 refine W<|Zr<|gY H Z Z fun w1 b2 H=>G (Wt Z)<|G (Wi Z)<|fc H gB Z fun w2 b6 H=>G (Wi Z)<|U<|W<|W<|Zr<|G (Zw ax H 1 Z Z Z)<|cu kJ (qE ⟨ck,nx,wt,txs,cA,cc⟩ _ ⟨H.rd0 0 Z,fun t ht=>fF H 1 Z ht,hcap,hfew,hfp⟩) Z Z ?_
 rw[hok]
 rintro _ w3 ⟨rfl,hb⟩;replace H:=H.later hb;clear hb
 refine G (Wi Z)<|U<|W<|Zr<|G (Yi Z)<|G (cv Z Z Z)<|U<|ZF Z<|Zk<|W<|W<|Zr<|G (Zf cP Z)<|G (Zd dN H 1 Z Z Z)<|G (bh lx Z)<|G (Yi Z)<|U<|Zb ?_
 refine cf (τ:=Nat×Nat) [1,4,5,7,10,11,21,22,23,24,25,26,27,28,29,30,31,32,33,34,35,36,37,38,39,40,41,42,43,44,45,46,47,48,49,50,51,52] (fun(k,m)=>[(21,J (k:Nat)),(1,J (m:Nat))]) (fun(k,m) w'=>k<=txs.length/\m<=1000/\(txs.filter hM)[n]? =((txs.drop k).filter hM)[m]? /\Hp w w' [(b6,.cells (.agg #[J 0,J 0,J 0,J 0,J 0,.bool false,.string ⟨#[]⟩]:Value).cells dA (0,0)),(b2,.cells #[J (ck),J (nx),J (wt),.slice cA txs.length cc] aX (0,0))] [ey sr 0 w.heap.size cA txs,iU 0 w.heap.size txs]) (fun(k,_)=>txs.length-k) (0,n) ⟨by omega,hn,by rw[mn],H⟩ (mK Z Z) ?_
 rintro⟨k,m⟩ ρ1 w4 ⟨hk,hm1,hm,H⟩
 show CW _ _ _ _ (dK (ia _ _ ρ1) [(21,J (k:Nat)),(1,J (m:Nat))]) w4
 refine W<|Zr ?_
 refine du (cO Z Z) Z Z Z (fun h22=> ?_) (fun h22=> ?_)
 refine U<|W<|ZT Z<|Zk<|W<|Zb<|W ?_
 obtain⟨x,hxk⟩: ∃ x,txs[k]? =some x:=⟨_,aj I⟩
 refine Zr<|qg H 0 Z gW Z Z I I Z fun b5 o5 x5 e5=> ?_
 obtain rfl:x=x5:=by have:=e5.at_;rw[hxk]at this;exact aY this
 refine G (ka (xs:=Tx.c x) zY Z Z e5.cl)<|fc H Ij Z fun w6 b10 H=>bA H 0 (#[.string (x.name),J (x.pid),J (x.ver),J (x.state),.slice x.A x.parts.length x.cap,J (x.since),J (x.done)]) Ir Z Z Z Z Z N N fun w7 H=>U<|W<|W<|Zr<|G (Zf cV Z)<|G (Zd am H 0 Z Z Z) ?_
 refine rM (jk Z Z) Z Z Z (fun h27=> ?_) (fun h27=> ?_)
 refine G (Yb Z)<|ZG<|G (Zf cV Z)<|ZG<|G (Zd am H 0 Z Z Z)<|ZG ?_
 refine rM (jk Z Z) Z Z Z (fun h31=> ?_) (fun h31=> ?_)
 refine G (Kt Z Z)<|U<|ZT Z<|Zx<|Zr<|G (bp Z Z I I)<|G (Yi Z)<|U ?_
 have hen:hM x=false:=by unfold hM;rw[decide_eq_false I,decide_eq_false I];rfl
 refine⟨(k+1,m),⟨by omega,hm1,by rw[hm];exact Ma hxk hen,H.forget (.cons _ (au _)) (fun _ h=>h)⟩,mK Z Z,Qg,by show txs.length- (k+1)<txs.length-k;omega⟩
 refine G (Kt Z Z)<|U<|ZF Z<|Zk<|W<|W ?_
 have hen:hM x=true:=by unfold hM;simp;omega
 have hxo:fQ ck nx x=true:=uZ q7 x (ab hxk)
 obtain⟨a1,a2,a3,a4,a5,a6,a7,a8,a9,a10,a11⟩:=cd.1 hxo
 have hpl:x.parts.length≠0:=fun h=>by have:=a11.2 h;unfold hM at hen;simp[this]at hen
 refine Zr<|G (Yi Z) ?_
 refine du (bv Z Z) Z Z Z (fun h34=> ?_) (fun h34=> ?_)
 obtain rfl:m=0:=by omega
 have hnth:ij txs n=some x:=by unfold ij;rw[hm];exact IE hxk hen
 obtain⟨p0,hp0⟩: ∃ p,x.parts[0]? =some p:=⟨_,aj I⟩
 refine U<|ZT Z<|W<|Zr<|G (Wi Z)<|U<|W<|W<|Zr<|G (Zf cV Z)<|G (Zd am H 0 Z Z Z) ?_
 refine du (bv Z Z) Z Z Z (fun h37=> ?_) (fun h37=> ?_)
 refine U<|ZT Z<|Zr<|G (Wi Z)<|U<|W ?_
 replace H:=Hp.partRow H 1 Z (ab hxk)
 refine bL cD [0,1,2,3,4,5,6,7,8,9,10,11,12,13] [14,15] [] [0,2,4,6,8,10,11,12,13] (sp []) N N N N Nq (cQ _) ?_
 refine aw Z Z Z Z Z (fun w' hw'=>Zf oO Z)<|aw Z Z Z Z Z (fun w' hw'=>bi ba Z (aJ ((H.later hw').ent (i:=0) Z) Z))<|aw Z Z Z Z Z (fun w' hw'=>Zf dD Z)<|aw Z Z Z Z Z (fun w' hw'=>bi cB Z (aJ ((H.later hw').ent (i:=0) Z) Z))<|qI (k:=0) H 0 Z Z Z Z Z bj Z Z I I fun b8 o8 x8 e8=> ?_
 obtain rfl:p0=x8:=by have:=e8.at_;rw[hp0]at this;exact aY this
 refine aw Z Z Z Z Z (fun w' hw'=>bi am Z (e8.later hw' 0 _ Z))<|aw Z Z Z Z Z (fun w' hw'=>Zf lz Z)<|aw Z Z Z Z Z (fun w' hw'=>bi am Z (aJ ((H.later hw').ent (i:=0) Z) Z))<|aw Z Z Z Z Z (fun w' hw'=>Zf gN Z)<|aw Z Z Z Z Z (fun w' hw'=>bi am Z (aJ ((H.later hw').ent (i:=0) Z) Z))<|aw Z Z Z Z Z (fun w' hw'=>Yi Z)<|aw Z Z Z Z Z (fun w' hw'=>bC (cs:= #[J (0),J (x.pid),J (x.ver),J (0),J (3),.bool (true),.string (⟨#[]⟩)]) ot gB N)<|aw Z Z Z Z Z (fun w' hw'=>Wt Z)<|aw Z Z Z Z Z (fun w' hw'=>Wi Z)<|aU ?_
 intro w9 hw' hF
 replace H:=H.later hw';clear hw' hF
 refine bA H 1 (#[J (0),J (x.pid),J (x.ver),J (0),J (3),.bool (true),.string (⟨#[]⟩)]) fa Z Z Z Z Z N N fun w10 H=>G (Wi Z)<|U<|Zt ?_
 rw[hnth]
 have hk2:(if x.state=4 then(3:Int)else 2)=3:=by rw[if_pos I]
 have hh:x.parts.headD 0=p0:=by rw[nD,pN,hp0];rfl
 exact xz (v0:=.string x.name) (v1:=J p0) (cs2:= #[J 0,J x.pid,J x.ver,J 0,J 3,.bool true,.string ⟨#[]⟩]) (v3:=J 0) Z Z Z dJ Z (H.ent (i:=1) Z) Z Z ⟨by unfold y5 AP;dsimp only;rw[hk2,hh],H.below⟩
 refine U<|ZF Z<|Zk<|W ?_
 replace H:=Hp.partRow H 1 Z (ab hxk)
 refine bL cD [0,1,2,3,4,5,6,7,8,9,10,11,12,13] [14,15] [] [0,2,4,6,8,10,11,12,13] (sp []) N N N N Nq (cQ _) ?_
 refine aw Z Z Z Z Z (fun w' hw'=>Zf oO Z)<|aw Z Z Z Z Z (fun w' hw'=>bi ba Z (aJ ((H.later hw').ent (i:=0) Z) Z))<|aw Z Z Z Z Z (fun w' hw'=>Zf dD Z)<|aw Z Z Z Z Z (fun w' hw'=>bi cB Z (aJ ((H.later hw').ent (i:=0) Z) Z))<|qI (k:=0) H 0 Z Z Z Z Z bj Z Z I I fun b11 o11 x11 e11=> ?_
 obtain rfl:p0=x11:=by have:=e11.at_;rw[hp0]at this;exact aY this
 refine aw Z Z Z Z Z (fun w' hw'=>bi am Z (e11.later hw' 0 _ Z))<|aw Z Z Z Z Z (fun w' hw'=>Zf lz Z)<|aw Z Z Z Z Z (fun w' hw'=>bi am Z (aJ ((H.later hw').ent (i:=0) Z) Z))<|aw Z Z Z Z Z (fun w' hw'=>Zf gN Z)<|aw Z Z Z Z Z (fun w' hw'=>bi am Z (aJ ((H.later hw').ent (i:=0) Z) Z))<|aw Z Z Z Z Z (fun w' hw'=>Yi Z)<|aw Z Z Z Z Z (fun w' hw'=>bC (cs:= #[J (0),J (x.pid),J (x.ver),J (0),J (2),.bool (true),.string (⟨#[]⟩)]) ot gB N)<|aw Z Z Z Z Z (fun w' hw'=>Wt Z)<|aw Z Z Z Z Z (fun w' hw'=>Wi Z)<|aU ?_
 intro w12 hw' hF
 replace H:=H.later hw';clear hw' hF
 refine bA H 1 (#[J (0),J (x.pid),J (x.ver),J (0),J (2),.bool (true),.string (⟨#[]⟩)]) fa Z Z Z Z Z N N fun w13 H=>G (Wi Z)<|U<|Zt ?_
 rw[hnth]
 have hk2:(if x.state=4 then(3:Int)else 2)=2:=by rw[if_neg I]
 have hh:x.parts.headD 0=p0:=by rw[nD,pN,hp0];rfl
 exact xz (v0:=.string x.name) (v1:=J p0) (cs2:= #[J 0,J x.pid,J x.ver,J 0,J 2,.bool true,.string ⟨#[]⟩]) (v3:=J 0) Z Z Z dJ Z (H.ent (i:=1) Z) Z Z ⟨by unfold y5 AP;dsimp only;rw[hk2,hh],H.below⟩
 refine U<|ZF Z<|Zk<|Zr<|G (Yi Z)<|G (lX Z Z I I)<|G (Wi Z)<|U<|Zr<|G (bp Z Z I I)<|G (Yi Z)<|U ?_
 refine⟨(k+1,m-1),⟨by omega,by omega,by rw[hm];exact FB hxk hen I,H.forget (.cons _ (au _)) (fun _ h=>h)⟩,mK Z (by show Value.int .i64 _=Value.int .i64 _;congr 1;omega),Qg,by show txs.length- (k+1)<txs.length-k;omega⟩
 refine G (Yb Z)<|ZN<|ZN<|ZN<|G (N Z Z)<|U<|ZF Z<|Zk<|W<|W ?_
 have hen:hM x=true:=by unfold hM;simp;omega
 have hxo:fQ ck nx x=true:=uZ q7 x (ab hxk)
 obtain⟨a1,a2,a3,a4,a5,a6,a7,a8,a9,a10,a11⟩:=cd.1 hxo
 have hpl:x.parts.length≠0:=fun h=>by have:=a11.2 h;unfold hM at hen;simp[this]at hen
 refine Zr<|G (Yi Z) ?_
 refine du (bv Z Z) Z Z Z (fun h34=> ?_) (fun h34=> ?_)
 obtain rfl:m=0:=by omega
 have hnth:ij txs n=some x:=by unfold ij;rw[hm];exact IE hxk hen
 obtain⟨p0,hp0⟩: ∃ p,x.parts[0]? =some p:=⟨_,aj I⟩
 refine U<|ZT Z<|W<|Zr<|G (Wi Z)<|U<|W<|W<|Zr<|G (Zf cV Z)<|G (Zd am H 0 Z Z Z) ?_
 refine du (bv Z Z) Z Z Z (fun h37=> ?_) (fun h37=> ?_)
 refine U<|ZT Z<|Zr<|G (Wi Z)<|U<|W ?_
 replace H:=Hp.partRow H 1 Z (ab hxk)
 refine bL cD [0,1,2,3,4,5,6,7,8,9,10,11,12,13] [14,15] [] [0,2,4,6,8,10,11,12,13] (sp []) N N N N Nq (cQ _) ?_
 refine aw Z Z Z Z Z (fun w' hw'=>Zf oO Z)<|aw Z Z Z Z Z (fun w' hw'=>bi ba Z (aJ ((H.later hw').ent (i:=0) Z) Z))<|aw Z Z Z Z Z (fun w' hw'=>Zf dD Z)<|aw Z Z Z Z Z (fun w' hw'=>bi cB Z (aJ ((H.later hw').ent (i:=0) Z) Z))<|qI (k:=0) H 0 Z Z Z Z Z bj Z Z I I fun b14 o14 x14 e14=> ?_
 obtain rfl:p0=x14:=by have:=e14.at_;rw[hp0]at this;exact aY this
 refine aw Z Z Z Z Z (fun w' hw'=>bi am Z (e14.later hw' 0 _ Z))<|aw Z Z Z Z Z (fun w' hw'=>Zf lz Z)<|aw Z Z Z Z Z (fun w' hw'=>bi am Z (aJ ((H.later hw').ent (i:=0) Z) Z))<|aw Z Z Z Z Z (fun w' hw'=>Zf gN Z)<|aw Z Z Z Z Z (fun w' hw'=>bi am Z (aJ ((H.later hw').ent (i:=0) Z) Z))<|aw Z Z Z Z Z (fun w' hw'=>Yi Z)<|aw Z Z Z Z Z (fun w' hw'=>bC (cs:= #[J (0),J (x.pid),J (x.ver),J (0),J (3),.bool (true),.string (⟨#[]⟩)]) ot gB N)<|aw Z Z Z Z Z (fun w' hw'=>Wt Z)<|aw Z Z Z Z Z (fun w' hw'=>Wi Z)<|aU ?_
 intro w15 hw' hF
 replace H:=H.later hw';clear hw' hF
 refine bA H 1 (#[J (0),J (x.pid),J (x.ver),J (0),J (3),.bool (true),.string (⟨#[]⟩)]) fa Z Z Z Z Z N N fun w16 H=>G (Wi Z)<|U<|Zt ?_
 rw[hnth]
 have hk2:(if x.state=4 then(3:Int)else 2)=3:=by rw[if_pos I]
 have hh:x.parts.headD 0=p0:=by rw[nD,pN,hp0];rfl
 exact xz (v0:=.string x.name) (v1:=J p0) (cs2:= #[J 0,J x.pid,J x.ver,J 0,J 3,.bool true,.string ⟨#[]⟩]) (v3:=J 0) Z Z Z dJ Z (H.ent (i:=1) Z) Z Z ⟨by unfold y5 AP;dsimp only;rw[hk2,hh],H.below⟩
 refine U<|ZF Z<|Zk<|W ?_
 replace H:=Hp.partRow H 1 Z (ab hxk)
 refine bL cD [0,1,2,3,4,5,6,7,8,9,10,11,12,13] [14,15] [] [0,2,4,6,8,10,11,12,13] (sp []) N N N N Nq (cQ _) ?_
 refine aw Z Z Z Z Z (fun w' hw'=>Zf oO Z)<|aw Z Z Z Z Z (fun w' hw'=>bi ba Z (aJ ((H.later hw').ent (i:=0) Z) Z))<|aw Z Z Z Z Z (fun w' hw'=>Zf dD Z)<|aw Z Z Z Z Z (fun w' hw'=>bi cB Z (aJ ((H.later hw').ent (i:=0) Z) Z))<|qI (k:=0) H 0 Z Z Z Z Z bj Z Z I I fun b17 o17 x17 e17=> ?_
 obtain rfl:p0=x17:=by have:=e17.at_;rw[hp0]at this;exact aY this
 refine aw Z Z Z Z Z (fun w' hw'=>bi am Z (e17.later hw' 0 _ Z))<|aw Z Z Z Z Z (fun w' hw'=>Zf lz Z)<|aw Z Z Z Z Z (fun w' hw'=>bi am Z (aJ ((H.later hw').ent (i:=0) Z) Z))<|aw Z Z Z Z Z (fun w' hw'=>Zf gN Z)<|aw Z Z Z Z Z (fun w' hw'=>bi am Z (aJ ((H.later hw').ent (i:=0) Z) Z))<|aw Z Z Z Z Z (fun w' hw'=>Yi Z)<|aw Z Z Z Z Z (fun w' hw'=>bC (cs:= #[J (0),J (x.pid),J (x.ver),J (0),J (2),.bool (true),.string (⟨#[]⟩)]) ot gB N)<|aw Z Z Z Z Z (fun w' hw'=>Wt Z)<|aw Z Z Z Z Z (fun w' hw'=>Wi Z)<|aU ?_
 intro w18 hw' hF
 replace H:=H.later hw';clear hw' hF
 refine bA H 1 (#[J (0),J (x.pid),J (x.ver),J (0),J (2),.bool (true),.string (⟨#[]⟩)]) fa Z Z Z Z Z N N fun w19 H=>G (Wi Z)<|U<|Zt ?_
 rw[hnth]
 have hk2:(if x.state=4 then(3:Int)else 2)=2:=by rw[if_neg I]
 have hh:x.parts.headD 0=p0:=by rw[nD,pN,hp0];rfl
 exact xz (v0:=.string x.name) (v1:=J p0) (cs2:= #[J 0,J x.pid,J x.ver,J 0,J 2,.bool true,.string ⟨#[]⟩]) (v3:=J 0) Z Z Z dJ Z (H.ent (i:=1) Z) Z Z ⟨by unfold y5 AP;dsimp only;rw[hk2,hh],H.below⟩
 refine U<|ZF Z<|Zk<|Zr<|G (Yi Z)<|G (lX Z Z I I)<|G (Wi Z)<|U<|Zr<|G (bp Z Z I I)<|G (Yi Z)<|U ?_
 refine⟨(k+1,m-1),⟨by omega,by omega,by rw[hm];exact FB hxk hen I,H.forget (.cons _ (au _)) (fun _ h=>h)⟩,mK Z (by show Value.int .i64 _=Value.int .i64 _;congr 1;omega),Qg,by show txs.length- (k+1)<txs.length-k;omega⟩
 refine U<|W<|ZF Z<|Zx<|W<|Zr<|G (bC (cs:= #[J (0),J (0),J (0),J (0),J (0),.bool (false),.string (⟨#[]⟩)]) ot gB N)<|G (Wt Z)<|G (Wi Z)<|bA H 0 (#[J (0),J (0),J (0),J (0),J (0),.bool (false),.string (⟨#[]⟩)]) fa Z Z Z Z Z N N fun w20 H=>G (Wi Z)<|U<|Zt ?_
 rw[show ij txs n=none by unfold ij;rw[hm];exact N4 I]
 exact xz (v0:=.string ⟨#[]⟩) (v1:=J 0) (cs2:= #[J 0,J 0,J 0,J 0,J 0,.bool false,.string ⟨#[]⟩]) (v3:=J 15) Z Z Z dJ Z (H.ent (i:=0) Z) Z Z ⟨rfl,H.below⟩
/-- P5.6: a part whose marker is kept -/
def gO (p:Int) (t:Tx):Tx:=if(t.parts.filter fun q=>decide (q≠p)).length=0 then{t with parts:=[],done:=t.state,state:=1}else{t with parts:=t.parts.filter fun q=>decide (q≠p)}
theorem EJ {p:Int} {t t':Tx} (h:t'.a=t.a):(gO p t').a=(gO p t).a:=by
 have e: ∀ t:Tx,(gO p t).a=gO p t.a:=fun t=>by
  unfold gO
  by_cases h:(t.parts.filter fun q=>decide (q≠p)).length=0
  rw[if_pos h,if_pos (show(t.a.parts.filter fun q=>decide (q≠p)).length=0 from h)];rfl
  rw[if_neg h,if_neg (show¬ (t.a.parts.filter fun q=>decide (q≠p)).length=0 from h)];rfl
 rw[e,e,h]
theorem HR: ∀ {l:List Int} {p:Int} {j:Nat},l.Pairwise (· < ·)->l[j]? =some p->l.take j++l.drop (j+1)=l.filter fun q=>decide (q≠p)
 |[],_,_,_,h=>by cases h
 |x::l,p,0,hp,h=>by
  cases h
  obtain⟨h1,-⟩:=eD.1 hp
  rw[ph (by simp)]
  simp only[zn,li,z0,mn]
  exact(j7.2 fun y hy=>decide_eq_true (by have:=h1 y hy;omega)).symm
 |x::l,p,j+1,hp,h=>by
  obtain⟨h1,h2⟩:=eD.1 hp
  have hm:p∈l:=ab (show l[j]? =some p from h)
  have:=h1 p hm
  rw[kc (by simp;omega),<-HR h2 (show l[j]? =some p from h)]
  rfl
theorem there {l:List Int} {p:Int} {i:Nat} (h2: ∀ k y,l[k]? =some y->i<=k->p<=y) (h1: ∀ k y,l[k]? =some y->k<i->y<p) (hp:l.Pairwise (· < ·)) (hm:p∈l):l[i]? =some p:=by
 obtain⟨k,hk⟩:=aN.1 hm
 by_cases hki:k<i
 have:=h1 k p hk hki;omega
 obtain⟨x,hx⟩: ∃ x,l[i]? =some x:=⟨_,aj (by have:=(cy hk).1;omega)⟩
 have h3:=rises hp hx hk I
 have h4:=h2 i x hx (ao _)
 rw[hx];congr 1;omega
theorem OE (c:Co) (s:ByteArray) (p:Int) (i:Nat) (t:Tx) (w:World) (h:c.rd 0 w.heap.size w) (hok:gU c=true) (hn:bu s=true) (hi:fW c s=i) (ht:c.txs[i]? =some t) (h34:t.state=3∨t.state=4) (hpm:p∈t.parts) (hpo:cW (-1) t.parts=true):dt aa xo [c.v,.string s,J p] w fun v w2=> ∃ (c':Co) (Lr Lp:List (Nat×Obj)),v=.tuple #[c'.v,J 0]/\qM w w2 (Co.a {c with txs:=c.txs.set i (gO p t)}) c' Lr Lp:=by
 refine aG CA Z Z ?_
 have hcap:=h.cap
 have hfew:=h.few
 have hfp:=h.fewP
 have H:=Hp.startCo h
 obtain⟨ck,nx,wt,txs,cA,cc⟩:=c
 dsimp only at hcap hfew hfp H
 show CW _ _ _ _ (args [.agg #[J ck,J nx,J wt,.slice cA txs.length cc],.string s,J p]) w
 dsimp only at ht⊢
 refine W<|Zr<|gY H Z Z fun w1 b3 H=>fc H cI Z fun w2 b6 H=>G (Wi Z)<|U<|W<|Zr<|G (Zw ax H 1 Z Z Z)<|G (Yt Z)<|cu iz (lT ⟨ck,nx,wt,txs,cA,cc⟩ s _ ⟨H.rd0 0 Z,fun t ht=>fF H 1 Z ht,hcap,hfew,hfp⟩ hok hn) Z Z ?_
 rintro _ w3 ⟨⟨ck2,nx2,wt2,tx2,A2,c2⟩,Lr,Lp,rfl,ha2,ho2,hp2,hoc2,hpc2,hj2⟩
 replace H:=H.joinR hj2;clear hj2
 simp only[Co.a,Co.mk.injEq]at ha2
 obtain⟨e1,e2,e3,hma,-,-⟩:=ha2
 obtain rfl:ck=ck2:=e1.symm
 obtain rfl:nx=nx2:=e2.symm
 obtain rfl:wt=wt2:=e3.symm
 dsimp only at ho2 hp2 hoc2 hpc2 H
 obtain⟨t2,ht2,hta⟩:=rL hma ht
 have hl2:=(cy ht2).1
 obtain⟨g,cur,rfl,rfl,row⟩:=ho2.row I
 have hst:t2.state=t.state:=by show t2.a.state=t.a.state;rw[hta]
 have hdn:t2.done=t.done:=by show t2.a.done=t.a.done;rw[hta]
 have hpt:t2.parts=t.parts:=by show t2.a.parts=t.a.parts;rw[hta]
 rw[hi]
 refine G (Yu Z)<|G (Xa Z Z)<|G (Xi Z Z)<|G (Xi Z Z)<|bA H 1 (#[J (ck),J (nx),J (wt),.slice (Qd g) tx2.length c2]) aF Z Z Z Z Z N N fun w4 H=>G (Wi Z)<|G (Wi Z)<|U<|W<|W<|Zr<|G (Yi Z)<|G (cv Z Z Z)<|U<|ZF Z<|Zk<|W<|W<|Zr<|G (Yi Z)<|G (dp Z Z I)<|U<|ZF Z<|Zk<|W<|Zr<|G (Zf cP Z)<|G (Zd dN H 1 Z Z Z)<|G (Yi Z)<|G (cR gW Z Z (by first|omega|(simp only[ae];omega)))<|G (Wp Z)<|U<|W<|W<|Zr<|G (Yp Z)<|G (aH Z)<|G (Zf cV Z)<|G (bU am row ht2 3 Z (H.ent (i:=2) Z) Z)<|G (jk Z Z) ?_
 refine nK 35 Z (fun h35=> ?_) (fun h35=> ?_)
 refine G (Yb Z)<|ZG<|G (Yp Z)<|ZG<|G (aH Z)<|ZG<|G (Zf cV Z)<|ZG<|G (bU am row ht2 3 Z (H.ent (i:=2) Z) Z)<|ZG<|G (cv Z Z (by simp at h35;omega))<|G (Kt Z Z)<|U<|ZF Z<|Zk<|W ?_
 have hrise:=(fV hpo).1
 have hfw:=mM hpo
 rw[<-hpt]at hrise hfw hpm
 obtain⟨La,Lt,Lb,rfl,hot,hset⟩:=hp2.at_ ht2
 refine Zr<|G (Yp Z)<|G (aH Z)<|G (Zf dD Z)<|G (bU cB row ht2 4 Z (H.ent (i:=2) Z) Z)<|G (Yi Z)<|cu ef (qH t2.parts p t2.A t2.cap _ ((hot.rd (K:=[(b6,.cells #[J (0),J (0),J (0),.slice none 0 0] aX (0,0)),(b3,.cells #[J (ck),J (nx),J (wt),.slice (Qd g) tx2.length c2] aX (0,0)),(g,.cells cur dH (0,0))]++La) (M:=Lb) (vJ [(b6,.cells #[J (0),J (0),J (0),.slice none 0 0] aX (0,0)),(b3,.cells #[J (ck),J (nx),J (wt),.slice (Qd g) tx2.length c2] aX (0,0)),(g,.cells cur dH (0,0))] La Lt Lb H)).mono (bN _) (ao _)) I hrise) Z Z ?_
 rintro _ w5 ⟨j,rfl,hjl,hj1,hj2,hb⟩;replace H:=H.later hb;clear hb
 have hjp:=there hj2 hj1 hrise hpm
 rw[show decide (t2.parts[j]? =some p)=true from decide_eq_true hjp]
 have hdl:=HR hrise hjp
 have hjl2:=(cy hjp).1
 refine G (Yu Z)<|G (Xi Z Z)<|G (Xb Z Z)<|G (Wi Z)<|G (Wb Z)<|U<|W<|W<|Zr<|G (Yb Z)<|G (ee Z)<|U<|ZF Z<|Zk<|W<|Zr<|G (Yp Z)<|G (Yp Z)<|G (aH Z)<|G (Zf dD Z)<|G (bU cB row ht2 4 Z (H.ent (i:=2) Z) Z)<|G (Yi Z)<|G (Yi Z)<|G (bp Z Z I I)<|cu lg (xA (K:=[(b6,.cells #[J (0),J (0),J (0),.slice none 0 0] aX (0,0)),(b3,.cells #[J (ck),J (nx),J (wt),.slice (Qd g) tx2.length c2] aX (0,0)),(g,.cells cur dH (0,0))]++La) (Lt:=Lt) (M:=Lb) (i:=j) (j:=j+1) (vJ [(b6,.cells #[J (0),J (0),J (0),.slice none 0 0] aX (0,0)),(b3,.cells #[J (ck),J (nx),J (wt),.slice (Qd g) tx2.length c2] aX (0,0)),(g,.cells cur dH (0,0))] La Lt Lb H) hot I hjl2 I) Z Z ?_
 rintro _ w6 ⟨A9,c9,L9,rfl,ho9,HI⟩;replace H:Hp w w6 ([(b6,.cells #[J (0),J (0),J (0),.slice none 0 0] aX (0,0)),(b3,.cells #[J (ck),J (nx),J (wt),.slice (Qd g) tx2.length c2] aX (0,0)),(g,.cells cur dH (0,0))]++((La++L9++Lb)++[])) [ey sr 0 w.heap.size cA txs,iU 0 w.heap.size txs]:=Bj [(b6,.cells #[J (0),J (0),J (0),.slice none 0 0] aX (0,0)),(b3,.cells #[J (ck),J (nx),J (wt),.slice (Qd g) tx2.length c2] aX (0,0)),(g,.cells cur dH (0,0))] La L9 Lb HI
 have hc9:(t2.parts.take j++t2.parts.drop (j+1)).length<=c9:=by obtain⟨_,_,e,h,_⟩:=ho9.form;injection e with _ _ e;rw[e];exact h
 refine G (aH Z)<|G (Zf dD Z)<|ni H 2 ({t2 with parts:=t2.parts.take j++t2.parts.drop (j+1),A:=A9,cap:=c9}) jQ row ht2 4 Z Z Z Z Z Z N fun w8 cur7 row7 H=> ?_
 have hs9:(tx2.set i ({t2 with parts:=t2.parts.take j++t2.parts.drop (j+1),A:=A9,cap:=c9}))[i]? =some ({t2 with parts:=t2.parts.take j++t2.parts.drop (j+1),A:=A9,cap:=c9}):=al (cy ht2).1
 refine U<|W<|W<|Zr<|G (Yp Z)<|G (aH Z)<|G (Zf dD Z)<|G (bU cB row7 hs9 4 Z (H.ent (i:=2) Z) Z)<|G (bh eT Z) ?_
 refine du (bv Z Z) Z Z Z (fun h72=> ?_) (fun h72=> ?_)
 refine U<|ZT Z<|Zr<|G (Yp Z)<|G (Yp Z)<|G (Yp Z)<|G (aH Z)<|G (Zf cV Z)<|G (bU am row7 hs9 3 Z (H.ent (i:=2) Z) Z)<|G (aH Z)<|G (Zf cV Z)<|ni H 2 ({({t2 with parts:=t2.parts.take j++t2.parts.drop (j+1),A:=A9,cap:=c9})with state:=1}) bQ row7 hs9 3 Z Z Z Z Z Z N fun w11 cur10 row10 H=> ?_
 have hs12:((tx2.set i ({t2 with parts:=t2.parts.take j++t2.parts.drop (j+1),A:=A9,cap:=c9})).set i ({({t2 with parts:=t2.parts.take j++t2.parts.drop (j+1),A:=A9,cap:=c9})with state:=1}))[i]? =some ({({t2 with parts:=t2.parts.take j++t2.parts.drop (j+1),A:=A9,cap:=c9})with state:=1}):=al (cy hs9).1
 refine G (aH Z)<|G (Zf jw Z)<|ni H 2 ({({({t2 with parts:=t2.parts.take j++t2.parts.drop (j+1),A:=A9,cap:=c9})with state:=1})with done:=({t2 with parts:=t2.parts.take j++t2.parts.drop (j+1),A:=A9,cap:=c9}).state}) bQ row10 hs12 6 Z Z Z Z Z Z N fun w14 cur13 row13 H=> ?_
 have hs15:(((tx2.set i ({t2 with parts:=t2.parts.take j++t2.parts.drop (j+1),A:=A9,cap:=c9})).set i ({({t2 with parts:=t2.parts.take j++t2.parts.drop (j+1),A:=A9,cap:=c9})with state:=1})).set i ({({({t2 with parts:=t2.parts.take j++t2.parts.drop (j+1),A:=A9,cap:=c9})with state:=1})with done:=({t2 with parts:=t2.parts.take j++t2.parts.drop (j+1),A:=A9,cap:=c9}).state}))[i]? =some ({({({t2 with parts:=t2.parts.take j++t2.parts.drop (j+1),A:=A9,cap:=c9})with state:=1})with done:=({t2 with parts:=t2.parts.take j++t2.parts.drop (j+1),A:=A9,cap:=c9}).state}):=al (cy hs12).1
 refine U<|W<|Zr<|G (Zw ax H 1 Z Z Z)<|bA H 0 (#[J (ck),J (nx),J (wt),.slice (Qd g) tx2.length c2]) aF Z Z Z Z Z N N fun w16 H=>G (Wi Z)<|U<|Zt ?_
 have h72b:((t2.parts.take j++t2.parts.drop (j+1)).length:Int)=0:=h72
 have hX:Tx.a ({t2 with parts:=t2.parts.take j++t2.parts.drop (j+1),A:=A9,cap:=c9,done:=t2.state,state:=1})=(gO p t).a:=by rw[<-EJ hta];unfold gO;rw[<-hdl];rw[if_pos I,bO (show(t2.parts.take j++t2.parts.drop (j+1)).length=0 by omega)];rfl
 have hrow:d7 sr (tx2.set i ({t2 with parts:=t2.parts.take j++t2.parts.drop (j+1),A:=A9,cap:=c9,done:=t2.state,state:=1})) c2 cur13:=by have hr:=row13;simp only[fR]at hr;exact hr
 exact ch (cs0:= #[J ck,J nx,J wt,.slice (Qd g) tx2.length c2]) (v1:=J 0) Z ax Z (H.ent (i:=0) Z) Z Z ⟨⟨ck,nx,wt,tx2.set i ({t2 with parts:=t2.parts.take j++t2.parts.drop (j+1),A:=A9,cap:=c9,done:=t2.state,state:=1}),some ⟨g,0,none⟩,c2⟩,[(g,.cells cur13 dH (0,0))],(La++L9++Lb),by unfold Co.v Co.c;dsimp only;rw[ae],by unfold Co.a;dsimp only;rw[pG hma i hX],d7.own hrow,hset {t2 with parts:=t2.parts.take j++t2.parts.drop (j+1),A:=A9,cap:=c9,done:=t2.state,state:=1} L9 ho9,by dsimp only;rw[ae];exact hoc2,jZ hpc2 i (by exact hc9),H.forget (.cons _ (.cons _ (aC _ _))) (by simp)⟩
 refine U<|ZF Z<|Zk<|W<|Zr<|G (Zw ax H 1 Z Z Z)<|bA H 0 (#[J (ck),J (nx),J (wt),.slice (Qd g) tx2.length c2]) aF Z Z Z Z Z N N fun w17 H=>G (Wi Z)<|U<|Zt ?_
 have h72b: ¬ ((t2.parts.take j++t2.parts.drop (j+1)).length:Int)=0:=h72
 have hX:Tx.a ({t2 with parts:=t2.parts.take j++t2.parts.drop (j+1),A:=A9,cap:=c9})=(gO p t).a:=by rw[<-EJ hta];unfold gO;rw[<-hdl];rw[if_neg I];rfl
 have hrow:d7 sr (tx2.set i ({t2 with parts:=t2.parts.take j++t2.parts.drop (j+1),A:=A9,cap:=c9})) c2 cur7:=by exact row7
 exact ch (cs0:= #[J ck,J nx,J wt,.slice (Qd g) tx2.length c2]) (v1:=J 0) Z ax Z (H.ent (i:=0) Z) Z Z ⟨⟨ck,nx,wt,tx2.set i ({t2 with parts:=t2.parts.take j++t2.parts.drop (j+1),A:=A9,cap:=c9}),some ⟨g,0,none⟩,c2⟩,[(g,.cells cur7 dH (0,0))],(La++L9++Lb),by unfold Co.v Co.c;dsimp only;rw[ae],by unfold Co.a;dsimp only;rw[pG hma i hX],d7.own hrow,hset {t2 with parts:=t2.parts.take j++t2.parts.drop (j+1),A:=A9,cap:=c9} L9 ho9,by dsimp only;rw[ae];exact hoc2,jZ hpc2 i (by exact hc9),H.forget (.cons _ (.cons _ (aC _ _))) (by simp)⟩
 refine G (Yb Z)<|ZN<|ZN<|ZN<|ZN<|ZN<|G (N Z Z)<|U<|ZF Z<|Zk<|W ?_
 have hrise:=(fV hpo).1
 have hfw:=mM hpo
 rw[<-hpt]at hrise hfw hpm
 obtain⟨La,Lt,Lb,rfl,hot,hset⟩:=hp2.at_ ht2
 refine Zr<|G (Yp Z)<|G (aH Z)<|G (Zf dD Z)<|G (bU cB row ht2 4 Z (H.ent (i:=2) Z) Z)<|G (Yi Z)<|cu ef (qH t2.parts p t2.A t2.cap _ ((hot.rd (K:=[(b6,.cells #[J (0),J (0),J (0),.slice none 0 0] aX (0,0)),(b3,.cells #[J (ck),J (nx),J (wt),.slice (Qd g) tx2.length c2] aX (0,0)),(g,.cells cur dH (0,0))]++La) (M:=Lb) (vJ [(b6,.cells #[J (0),J (0),J (0),.slice none 0 0] aX (0,0)),(b3,.cells #[J (ck),J (nx),J (wt),.slice (Qd g) tx2.length c2] aX (0,0)),(g,.cells cur dH (0,0))] La Lt Lb H)).mono (bN _) (ao _)) I hrise) Z Z ?_
 rintro _ w18 ⟨j,rfl,hjl,hj1,hj2,hb⟩;replace H:=H.later hb;clear hb
 have hjp:=there hj2 hj1 hrise hpm
 rw[show decide (t2.parts[j]? =some p)=true from decide_eq_true hjp]
 have hdl:=HR hrise hjp
 have hjl2:=(cy hjp).1
 refine G (Yu Z)<|G (Xi Z Z)<|G (Xb Z Z)<|G (Wi Z)<|G (Wb Z)<|U<|W<|W<|Zr<|G (Yb Z)<|G (ee Z)<|U<|ZF Z<|Zk<|W<|Zr<|G (Yp Z)<|G (Yp Z)<|G (aH Z)<|G (Zf dD Z)<|G (bU cB row ht2 4 Z (H.ent (i:=2) Z) Z)<|G (Yi Z)<|G (Yi Z)<|G (bp Z Z I I)<|cu lg (xA (K:=[(b6,.cells #[J (0),J (0),J (0),.slice none 0 0] aX (0,0)),(b3,.cells #[J (ck),J (nx),J (wt),.slice (Qd g) tx2.length c2] aX (0,0)),(g,.cells cur dH (0,0))]++La) (Lt:=Lt) (M:=Lb) (i:=j) (j:=j+1) (vJ [(b6,.cells #[J (0),J (0),J (0),.slice none 0 0] aX (0,0)),(b3,.cells #[J (ck),J (nx),J (wt),.slice (Qd g) tx2.length c2] aX (0,0)),(g,.cells cur dH (0,0))] La Lt Lb H) hot I hjl2 I) Z Z ?_
 rintro _ w19 ⟨A9,c9,L9,rfl,ho9,HI⟩;replace H:Hp w w19 ([(b6,.cells #[J (0),J (0),J (0),.slice none 0 0] aX (0,0)),(b3,.cells #[J (ck),J (nx),J (wt),.slice (Qd g) tx2.length c2] aX (0,0)),(g,.cells cur dH (0,0))]++((La++L9++Lb)++[])) [ey sr 0 w.heap.size cA txs,iU 0 w.heap.size txs]:=Bj [(b6,.cells #[J (0),J (0),J (0),.slice none 0 0] aX (0,0)),(b3,.cells #[J (ck),J (nx),J (wt),.slice (Qd g) tx2.length c2] aX (0,0)),(g,.cells cur dH (0,0))] La L9 Lb HI
 have hc9:(t2.parts.take j++t2.parts.drop (j+1)).length<=c9:=by obtain⟨_,_,e,h,_⟩:=ho9.form;injection e with _ _ e;rw[e];exact h
 refine G (aH Z)<|G (Zf dD Z)<|ni H 2 ({t2 with parts:=t2.parts.take j++t2.parts.drop (j+1),A:=A9,cap:=c9}) jQ row ht2 4 Z Z Z Z Z Z N fun w21 cur20 row20 H=> ?_
 have hs22:(tx2.set i ({t2 with parts:=t2.parts.take j++t2.parts.drop (j+1),A:=A9,cap:=c9}))[i]? =some ({t2 with parts:=t2.parts.take j++t2.parts.drop (j+1),A:=A9,cap:=c9}):=al (cy ht2).1
 refine U<|W<|W<|Zr<|G (Yp Z)<|G (aH Z)<|G (Zf dD Z)<|G (bU cB row20 hs22 4 Z (H.ent (i:=2) Z) Z)<|G (bh eT Z) ?_
 refine du (bv Z Z) Z Z Z (fun h72=> ?_) (fun h72=> ?_)
 refine U<|ZT Z<|Zr<|G (Yp Z)<|G (Yp Z)<|G (Yp Z)<|G (aH Z)<|G (Zf cV Z)<|G (bU am row20 hs22 3 Z (H.ent (i:=2) Z) Z)<|G (aH Z)<|G (Zf cV Z)<|ni H 2 ({({t2 with parts:=t2.parts.take j++t2.parts.drop (j+1),A:=A9,cap:=c9})with state:=1}) bQ row20 hs22 3 Z Z Z Z Z Z N fun w24 cur23 row23 H=> ?_
 have hs25:((tx2.set i ({t2 with parts:=t2.parts.take j++t2.parts.drop (j+1),A:=A9,cap:=c9})).set i ({({t2 with parts:=t2.parts.take j++t2.parts.drop (j+1),A:=A9,cap:=c9})with state:=1}))[i]? =some ({({t2 with parts:=t2.parts.take j++t2.parts.drop (j+1),A:=A9,cap:=c9})with state:=1}):=al (cy hs22).1
 refine G (aH Z)<|G (Zf jw Z)<|ni H 2 ({({({t2 with parts:=t2.parts.take j++t2.parts.drop (j+1),A:=A9,cap:=c9})with state:=1})with done:=({t2 with parts:=t2.parts.take j++t2.parts.drop (j+1),A:=A9,cap:=c9}).state}) bQ row23 hs25 6 Z Z Z Z Z Z N fun w27 cur26 row26 H=> ?_
 have hs28:(((tx2.set i ({t2 with parts:=t2.parts.take j++t2.parts.drop (j+1),A:=A9,cap:=c9})).set i ({({t2 with parts:=t2.parts.take j++t2.parts.drop (j+1),A:=A9,cap:=c9})with state:=1})).set i ({({({t2 with parts:=t2.parts.take j++t2.parts.drop (j+1),A:=A9,cap:=c9})with state:=1})with done:=({t2 with parts:=t2.parts.take j++t2.parts.drop (j+1),A:=A9,cap:=c9}).state}))[i]? =some ({({({t2 with parts:=t2.parts.take j++t2.parts.drop (j+1),A:=A9,cap:=c9})with state:=1})with done:=({t2 with parts:=t2.parts.take j++t2.parts.drop (j+1),A:=A9,cap:=c9}).state}):=al (cy hs25).1
 refine U<|W<|Zr<|G (Zw ax H 1 Z Z Z)<|bA H 0 (#[J (ck),J (nx),J (wt),.slice (Qd g) tx2.length c2]) aF Z Z Z Z Z N N fun w29 H=>G (Wi Z)<|U<|Zt ?_
 have h72b:((t2.parts.take j++t2.parts.drop (j+1)).length:Int)=0:=h72
 have hX:Tx.a ({t2 with parts:=t2.parts.take j++t2.parts.drop (j+1),A:=A9,cap:=c9,done:=t2.state,state:=1})=(gO p t).a:=by rw[<-EJ hta];unfold gO;rw[<-hdl];rw[if_pos I,bO (show(t2.parts.take j++t2.parts.drop (j+1)).length=0 by omega)];rfl
 have hrow:d7 sr (tx2.set i ({t2 with parts:=t2.parts.take j++t2.parts.drop (j+1),A:=A9,cap:=c9,done:=t2.state,state:=1})) c2 cur26:=by have hr:=row26;simp only[fR]at hr;exact hr
 exact ch (cs0:= #[J ck,J nx,J wt,.slice (Qd g) tx2.length c2]) (v1:=J 0) Z ax Z (H.ent (i:=0) Z) Z Z ⟨⟨ck,nx,wt,tx2.set i ({t2 with parts:=t2.parts.take j++t2.parts.drop (j+1),A:=A9,cap:=c9,done:=t2.state,state:=1}),some ⟨g,0,none⟩,c2⟩,[(g,.cells cur26 dH (0,0))],(La++L9++Lb),by unfold Co.v Co.c;dsimp only;rw[ae],by unfold Co.a;dsimp only;rw[pG hma i hX],d7.own hrow,hset {t2 with parts:=t2.parts.take j++t2.parts.drop (j+1),A:=A9,cap:=c9,done:=t2.state,state:=1} L9 ho9,by dsimp only;rw[ae];exact hoc2,jZ hpc2 i (by exact hc9),H.forget (.cons _ (.cons _ (aC _ _))) (by simp)⟩
 refine U<|ZF Z<|Zk<|W<|Zr<|G (Zw ax H 1 Z Z Z)<|bA H 0 (#[J (ck),J (nx),J (wt),.slice (Qd g) tx2.length c2]) aF Z Z Z Z Z N N fun w30 H=>G (Wi Z)<|U<|Zt ?_
 have h72b: ¬ ((t2.parts.take j++t2.parts.drop (j+1)).length:Int)=0:=h72
 have hX:Tx.a ({t2 with parts:=t2.parts.take j++t2.parts.drop (j+1),A:=A9,cap:=c9})=(gO p t).a:=by rw[<-EJ hta];unfold gO;rw[<-hdl];rw[if_neg I];rfl
 have hrow:d7 sr (tx2.set i ({t2 with parts:=t2.parts.take j++t2.parts.drop (j+1),A:=A9,cap:=c9})) c2 cur20:=by exact row20
 exact ch (cs0:= #[J ck,J nx,J wt,.slice (Qd g) tx2.length c2]) (v1:=J 0) Z ax Z (H.ent (i:=0) Z) Z Z ⟨⟨ck,nx,wt,tx2.set i ({t2 with parts:=t2.parts.take j++t2.parts.drop (j+1),A:=A9,cap:=c9}),some ⟨g,0,none⟩,c2⟩,[(g,.cells cur20 dH (0,0))],(La++L9++Lb),by unfold Co.v Co.c;dsimp only;rw[ae],by unfold Co.a;dsimp only;rw[pG hma i hX],d7.own hrow,hset {t2 with parts:=t2.parts.take j++t2.parts.drop (j+1),A:=A9,cap:=c9} L9 ho9,by dsimp only;rw[ae];exact hoc2,jZ hpc2 i (by exact hc9),H.forget (.cons _ (.cons _ (aC _ _))) (by simp)⟩
theorem Hw (c:Co) (s:ByteArray) (i:Nat) (t:Tx) (w:World) (h:c.rd 0 w.heap.size w) (hok:gU c=true) (hn:bu s=true) (hi:fW c s=i) (ht:c.txs[i]? =some t) (h34:t.state=3∨t.state=4):dt aa mT [c.v,.string s] w fun v w2=>v=.tuple #[.agg #[J 0,J 0,J 0,.slice none 0 0],J 0,J 0,J 12]/\Below w.heap.size w w2:=by
 refine aG oe Z Z ?_
 have hcap:=h.cap
 have hfew:=h.few
 have hfp:=h.fewP
 have H:=Hp.startCo h
 obtain⟨ck,nx,wt,txs,cA,cc⟩:=c
 dsimp only at hcap hfew hfp H
 show CW _ _ _ _ (args [.agg #[J ck,J nx,J wt,.slice cA txs.length cc],.string s]) w
 dsimp only at ht
 refine W<|Zr<|gY H Z Z fun w1 b2 H=>fc H cI Z fun w2 b4 H=>G (Wi Z)<|G (Wi Z)<|G (Wi Z)<|U<|W<|Zr<|G (Zw ax H 1 Z Z Z)<|G (Yt Z)<|cu iz (lT ⟨ck,nx,wt,txs,cA,cc⟩ s _ ⟨H.rd0 0 Z,fun t ht=>fF H 1 Z ht,hcap,hfew,hfp⟩ hok hn) Z Z ?_
 rintro _ w3 ⟨⟨ck2,nx2,wt2,tx2,A2,c2⟩,Lr,Lp,rfl,ha2,ho2,hp2,hoc2,hpc2,hj2⟩
 replace H:=H.joinR hj2;clear hj2
 simp only[Co.a,Co.mk.injEq]at ha2
 obtain⟨e1,e2,e3,hma,-,-⟩:=ha2
 obtain rfl:ck=ck2:=e1.symm
 obtain rfl:nx=nx2:=e2.symm
 obtain rfl:wt=wt2:=e3.symm
 dsimp only at ho2 hp2 hoc2 hpc2 H
 obtain⟨t2,ht2,hta⟩:=rL hma ht
 have hl2:=(cy ht2).1
 obtain⟨g,cur,rfl,rfl,row⟩:=ho2.row I
 have hst:t2.state=t.state:=by show t2.a.state=t.a.state;rw[hta]
 have hdn:t2.done=t.done:=by show t2.a.done=t.a.done;rw[hta]
 have hpt:t2.parts=t.parts:=by show t2.a.parts=t.a.parts;rw[hta]
 rw[hi]
 refine G (Yu Z)<|G (Xa Z Z)<|G (Xi Z Z)<|G (Xi Z Z)<|bA H 1 (#[J (ck),J (nx),J (wt),.slice (Qd g) tx2.length c2]) aF Z Z Z Z Z N N fun w4 H=>G (Wi Z)<|G (Wi Z)<|U<|W<|W<|Zr<|G (Yi Z)<|G (cv Z Z Z)<|U<|ZF Z<|Zk<|W<|W<|Zr<|G (Yi Z)<|G (dp Z Z I)<|U<|ZF Z<|Zk<|W<|Zr<|G (Zf cP Z)<|G (Zd dN H 1 Z Z Z)<|G (Yi Z)<|G (cR gW Z Z (by first|omega|(simp only[ae];omega)))<|G (Wp Z)<|U<|W<|Zb<|W<|Zr<|G (Yp Z)<|G (aH Z)<|G (Zf cV Z)<|G (bU am row ht2 3 Z (H.ent (i:=2) Z) Z) ?_
 refine du (bv Z Z) Z Z Z (fun h60=> ?_) (fun h60=> ?_)
 refine G (Yb Z)<|ZN<|ZN<|ZN<|ZN<|ZN<|G (Kt Z Z)<|G (Wb Z)<|U<|ZT Z<|W<|Zr<|G (bC (cs:= #[J (0),J (0),J (0),.slice none 0 0]) fH cI N)<|bA H 0 (#[J (0),J (0),J (0),.slice none 0 0]) aF Z Z Z Z Z N N fun w5 H=>G (Wi Z)<|G (Wi Z)<|G (Wi Z)<|U<|Zt ?_
 exact mX (cs0:= #[J 0,J 0,J 0,.slice none 0 0]) (v1:=J 0) (v2:=J 0) (v3:=J 12) Z ax Z (H.ent (i:=0) Z) Z Z Z Z ⟨rfl,H.below⟩
 refine G (Yb Z)<|ZG<|G (Yp Z)<|ZG<|G (aH Z)<|ZG<|G (Zf cV Z)<|ZG<|G (bU am row ht2 3 Z (H.ent (i:=2) Z) Z)<|ZG<|G (se Z Z I)<|G (N Z Z)<|G (Wb Z)<|U<|ZT Z<|W<|Zr<|G (bC (cs:= #[J (0),J (0),J (0),.slice none 0 0]) fH cI N)<|bA H 0 (#[J (0),J (0),J (0),.slice none 0 0]) aF Z Z Z Z Z N N fun w6 H=>G (Wi Z)<|G (Wi Z)<|G (Wi Z)<|U<|Zt ?_
 exact mX (cs0:= #[J 0,J 0,J 0,.slice none 0 0]) (v1:=J 0) (v2:=J 0) (v3:=J 12) Z ax Z (H.ent (i:=0) Z) Z Z Z Z ⟨rfl,H.below⟩
theorem MW (c:Co) (s:ByteArray) (ver:Int) (b:Bool) (w:World) (h:c.rd 0 w.heap.size w) (hok:gU c=true) (hn:bu s=true) (hi:fW c s= -1):dt aa mb [c.v,.string s,J ver,.bool b] w fun v w2=>v=.tuple #[.agg #[J 0,J 0,J 0,.slice none 0 0],J 5]/\Below w.heap.size w w2:=by
 refine aG qa Z Z ?_
 have hcap:=h.cap
 have hfew:=h.few
 have hfp:=h.fewP
 have H:=Hp.startCo h
 obtain⟨ck,nx,wt,txs,cA,cc⟩:=c
 dsimp only at hcap hfew hfp H
 show CW _ _ _ _ (args [.agg #[J ck,J nx,J wt,.slice cA txs.length cc],.string s,J ver,.bool b]) w
 refine W<|Zr<|gY H Z Z fun w1 b4 H=>fc H cI Z fun w2 b8 H=>G (Wi Z)<|U<|W<|Zr<|G (Zw ax H 1 Z Z Z)<|G (Yt Z)<|G (Yi Z)<|cu gT (AV ⟨ck,nx,wt,txs,cA,cc⟩ s ver _ ⟨H.rd0 0 Z,fun t ht=>fF H 1 Z ht,hcap,hfew,hfp⟩ hok hn hi) Z Z ?_
 rintro _ w3 ⟨rfl,hb⟩;replace H:=H.later hb;clear hb
 refine G (Yu Z)<|G (Xa Z Z)<|G (Xi Z Z)<|G (Xi Z Z)<|bA H 1 (#[J (0),J (0),J (0),.slice none 0 0]) aF Z Z Z Z Z N N fun w4 H=>G (Wi Z)<|G (Wi Z)<|U<|W<|W<|Zr<|G (Yi Z)<|G (lN Z Z (by decide))<|U<|ZT Z<|W<|Zr<|G (bC (cs:= #[J (0),J (0),J (0),.slice none 0 0]) fH cI N)<|G (Yi Z)<|bA H 0 (#[J (0),J (0),J (0),.slice none 0 0]) aF Z Z Z Z Z N N fun w5 H=>G (Wi Z)<|U<|Zt ?_
 exact ch (cs0:= #[J 0,J 0,J 0,.slice none 0 0]) (v1:=J 5) Z ax Z (H.ent (i:=0) Z) Z Z ⟨rfl,H.below⟩
theorem Ki (c:Co) (s:ByteArray) (ver:Int) (b:Bool) (i:Nat) (t:Tx) (w:World) (h:c.rd 0 w.heap.size w) (hok:gU c=true) (hn:bu s=true) (hi:fW c s=i) (ht:c.txs[i]? =some t) (hv:t.ver≠ver):dt aa mb [c.v,.string s,J ver,.bool b] w fun v w2=>v=.tuple #[.agg #[J 0,J 0,J 0,.slice none 0 0],J 10]/\Below w.heap.size w w2:=by
 refine aG qa Z Z ?_
 have hcap:=h.cap
 have hfew:=h.few
 have hfp:=h.fewP
 have H:=Hp.startCo h
 obtain⟨ck,nx,wt,txs,cA,cc⟩:=c
 dsimp only at hcap hfew hfp H
 show CW _ _ _ _ (args [.agg #[J ck,J nx,J wt,.slice cA txs.length cc],.string s,J ver,.bool b]) w
 dsimp only at ht
 refine W<|Zr<|gY H Z Z fun w1 b4 H=>fc H cI Z fun w2 b8 H=>G (Wi Z)<|U<|W<|Zr<|G (Zw ax H 1 Z Z Z)<|G (Yt Z)<|G (Yi Z)<|cu gT (y9 ⟨ck,nx,wt,txs,cA,cc⟩ s ver i t _ ⟨H.rd0 0 Z,fun t ht=>fF H 1 Z ht,hcap,hfew,hfp⟩ hok hn hi ht hv) Z Z ?_
 rintro _ w3 ⟨rfl,hb⟩;replace H:=H.later hb;clear hb
 refine G (Yu Z)<|G (Xa Z Z)<|G (Xi Z Z)<|G (Xi Z Z)<|bA H 1 (#[J (0),J (0),J (0),.slice none 0 0]) aF Z Z Z Z Z N N fun w4 H=>G (Wi Z)<|G (Wi Z)<|U<|W<|W<|Zr<|G (Yi Z)<|G (lN Z Z (by decide))<|U<|ZT Z<|W<|Zr<|G (bC (cs:= #[J (0),J (0),J (0),.slice none 0 0]) fH cI N)<|G (Yi Z)<|bA H 0 (#[J (0),J (0),J (0),.slice none 0 0]) aF Z Z Z Z Z N N fun w5 H=>G (Wi Z)<|U<|Zt ?_
 exact ch (cs0:= #[J 0,J 0,J 0,.slice none 0 0]) (v1:=J 10) Z ax Z (H.ent (i:=0) Z) Z Z ⟨rfl,H.below⟩
theorem K0 (c:Co) (n:Int) (w:World) (h:c.rd 0 w.heap.size w) (hok:gU c=true) (hn:1000<n):dt aa tm [c.v,J n] w fun v w2=>v=.tuple #[.agg #[J 0,J 0,J 0,.slice none 0 0],J 2]/\Below w.heap.size w w2:=by
 refine aG vL Z Z ?_
 have hcap:=h.cap
 have hfew:=h.few
 have hfp:=h.fewP
 have H:=Hp.startCo h
 obtain⟨ck,nx,wt,txs,cA,cc⟩:=c
 dsimp only at hcap hfew hfp H
 show CW _ _ _ _ (args [.agg #[J ck,J nx,J wt,.slice cA txs.length cc],J n]) w
 refine W<|Zr<|gY H Z Z fun w1 b2 H=>fc H cI Z fun w2 b4 H=>G (Wi Z)<|U<|W<|W<|Zr<|G (Zw ax H 1 Z Z Z)<|cu kJ (qE ⟨ck,nx,wt,txs,cA,cc⟩ _ ⟨H.rd0 0 Z,fun t ht=>fF H 1 Z ht,hcap,hfew,hfp⟩) Z Z ?_
 rw[hok]
 rintro _ w3 ⟨rfl,hb⟩;replace H:=H.later hb;clear hb
 refine G (Wi Z)<|U<|W<|Zr<|G (Yi Z)<|G (cv Z Z Z)<|U<|ZF Z<|Zk<|W<|W<|Zr<|G (Yi Z)<|G (dp Z Z I)<|G (Yb Z)<|ZG<|G (Yi Z)<|ZG<|G (HD Z Z I)<|G (N Z Z)<|G (Yb Z)<|ZN<|ZN<|ZN<|ZN<|ZN<|G (Kt Z Z)<|U<|ZT Z<|W<|Zr<|G (bC (cs:= #[J (0),J (0),J (0),.slice none 0 0]) fH cI N)<|bA H 0 (#[J (0),J (0),J (0),.slice none 0 0]) aF Z Z Z Z Z N N fun w4 H=>G (Wi Z)<|U<|Zt ?_
 exact ch (cs0:= #[J 0,J 0,J 0,.slice none 0 0]) (v1:=J 2) Z ax Z (H.ent (i:=0) Z) Z Z ⟨rfl,H.below⟩
theorem Co.rd.st {c:Co} {lo hi:Nat} {w w':World} (hk: ∀ k,lo<=k->k<hi->w'.heap[k]? =w.heap[k]?) (h:c.rd lo hi w):c.rd lo hi w':=
 ⟨h.row.st hk,fun t ht=>(h.parts t ht).st hk,h.cap,h.few,h.fewP⟩
theorem Co.rd.mono {c:Co} {lo hi lo' hi':Nat} {w:World} (h:c.rd lo hi w) (hl:lo'<=lo) (hh:hi<=hi'):c.rd lo' hi' w:=
 ⟨h.row.mono hl hh,fun t ht=>(h.parts t ht).mono hl hh,h.cap,h.few,h.fewP⟩
def RL (lo hi:Nat) (c:Co):ce:=⟨lo,hi,c.rd lo hi,fun _ _ hk h=>h.st hk⟩
theorem Hp.co {w0 w:World} {L:List (Nat×Obj)} {F:List ce} {lo hi:Nat} {c:Co} (H:Hp w0 w L F) (i:Nat) (hF:F[i]? =some (RL lo hi c)):c.rd 0 w.heap.size w:=
 Co.rd.mono (H.fact hF) (bN _) (H.facts _ (ab hF)).2.1
def uU (w w2:World) (c:Co):Prop:=c.rd w.heap.size w2.heap.size w2/\Below w.heap.size w w2
theorem Ih.new {w w2:World} {c:Co} (h:Ih w w2 c) (h1:c.txs.length<=8) (h2: ∀ t∈c.txs,t.parts.length<=4):uU w w2 c:=
 ⟨⟨h.row,h.parts,h.cap,by omega,fun t ht=>⟨by have:=h2 t ht;omega,h.caps t ht⟩⟩,h.below⟩
theorem pT {w w2:World} (h:Below w.heap.size w w2):uU w w2 zp:=(Pb h).new (by simp[zp]) (by simp[zp])
theorem Ft {l:List Int} (h:cW (-1) l=true):l.length<=4:=by have:=mM h;omega
theorem CZ {ck nx:Int}: ∀ {l pre:List Tx},oq ck nx pre l=true↔(∀ t∈l,fQ ck nx t=true)/\(∀ t∈l,∀ p∈pre,tb t p=false)/\l.Pairwise (fun p t=>tb t p=false)
 |[],pre=>by simp[oq]
 |t::l,pre=>by
  unfold oq
  rw[aQ,aQ,CZ,eD]
  simp only[av,ap,ar,forall_eq_or_imp,pQ,uV]
  constructor
  rintro⟨⟨h1,h2⟩,h3,h4,h5⟩
  exact⟨⟨h1,h3⟩,⟨fun p hp=>by simpa using h2 p hp,fun a ha p hp=>h4 a ha p (.inl hp)⟩,fun a ha=>h4 a ha t (by simp),h5⟩
  rintro⟨⟨h1,h3⟩,⟨h2,h4⟩,h5,h6⟩
  exact⟨⟨h1,fun p hp=>by simpa using h2 p hp⟩,h3,fun a ha p hp=>hp.elim (h4 a ha p) (fun h=>by have:=h5 a ha;simp at h;rwa[h]),h6⟩
def v7 (l:List Tx):Prop:=(l.map fun t=>(t.name,t.pid)).Pairwise fun p t=>p.1≠t.1/\p.2≠t.2
theorem Kz {l:List Tx}:v7 l↔l.Pairwise (fun p t=>tb t p=false):=by
 unfold v7
 rw[jD]
 constructor<;>intro h<;>refine h.imp fun{a b} hab=> ?_
 simpa [tb]using hab
 simpa [tb]using hab
theorem gb {c:Co}:gU c=true↔(iP c.clock=true/\1<=c.next/\c.next<=1073741824/\1<=c.wait/\c.wait<=1000/\(c.txs.length:Int)<=8)/\(∀ t∈c.txs,fQ c.clock c.next t=true)/\v7 c.txs:=by
 rw[je,CZ,Kz]
 constructor
 rintro⟨h1,h2,h3,h4,h5,h6,h7,h8,h9⟩;exact⟨⟨h1,h2,h3,h4,h5,h6⟩,h7,h9⟩
 rintro⟨⟨h1,h2,h3,h4,h5,h6⟩,h7,h9⟩;exact⟨h1,h2,h3,h4,h5,h6,h7,by simp,h9⟩
theorem HT {c:Co} (h:gU c=true):c.txs.length<=8/\ ∀ t∈c.txs,t.parts.length<=4:=by
 obtain⟨⟨_,_,_,_,_,h6⟩,h7,_⟩:=gb.1 h
 exact⟨by omega,fun t ht=>Ft (cd.1 (h7 t ht)).2.2.2.2.2.2.2.2.2.1⟩
theorem qM.new {w w2:World} {ca c':Co} {Lr Lp:List (Nat×Obj)} (h:qM w w2 ca c' Lr Lp) (hok:gU ca=true):uU w w2 c':=by
 have h1:gU c'=true:=by rw[tF,h.1];exact hok
 obtain⟨h2,h3⟩:=HT h1
 exact h.read.new h2 h3
def fY (c:Co) (s:ByteArray):Option (Nat×Tx):=(c.txs.findIdx? fun p=>decide (p.name=s)).bind fun i=>c.txs[i]?.map fun t=>(i,t)
def qn (c:Co) (i:Nat) (t:Tx):Co:={c with txs:=c.txs.set i t}
theorem vj {c:Co} {s:ByteArray} (h:fY c s=none):fW c s= -1:=by
 unfold fY at h
 unfold fW
 cases hi:c.txs.findIdx? fun p=>decide (p.name=s)with
 |none=>rfl
 |some i=>
  obtain⟨hl,-⟩:=aP.1 hi
  rw[hi]at h
  simp[aj hl]at h
theorem gw {c:Co} {s:ByteArray} {i:Nat} {t:Tx} (h:fY c s=some (i,t)):fW c s=i/\c.txs[i]? =some t/\t.name=s:=by
 unfold fY at h
 unfold fW
 cases hi:c.txs.findIdx? fun p=>decide (p.name=s)with
 |none=>rw[hi]at h;cases h
 |some j=>
  obtain⟨hl,hn,-⟩:=aP.1 hi
  rw[hi]at h
  simp only[fB,aj hl,eQ,lH,Prod.mk.injEq]at h
  obtain⟨rfl,rfl⟩:=h
  exact⟨rfl,aj hl,by simpa using hn⟩
theorem Bz (c:Co) (s:ByteArray):fY c.a s=(fY c s).map fun(i,t)=>(i,t.a):=by
 have e:c.a.txs.findIdx? (fun p=>decide (p.name=s))=c.txs.findIdx? fun p=>decide (p.name=s):=by
  show(c.txs.map Tx.a).findIdx? _=_
  rw[DK]
  rfl
 unfold fY
 rw[e]
 cases c.txs.findIdx? fun p=>decide (p.name=s)with
 |none=>rfl
 |some i=>
  show(c.txs.map Tx.a)[i]?.map _=(c.txs[i]?.map _).map _
  rw[aI]
  cases c.txs[i]? <;>rfl
theorem zO (c:Co) (i:Nat) (t:Tx):(qn c i t).a=qn c.a i t.a:=by
 unfold qn Co.a
 simp only[cU]
theorem Kq (c:Co) (s:ByteArray):(mZ c s).a=mZ c.a s:=by
 unfold mZ Co.a
 simp only[bk,eU,pL]
 rfl
def bw (c:Co) (s:ByteArray):Co×Int×Int×Int:=match fY c s with
 |none=>if c.txs.length=8 then(zp,0,0,16)else(mZ c s,c.next,0,0)
 |some (i,t)=>if t.state=3∨t.state=4 then(zp,0,0,12)else(qn c i (jf t),t.pid,t.ver+1,0)
def na (c:Co) (s:ByteArray) (ver p:Int):Co×Int:=match fY c s with
 |none=>(zp,5)
 |some (i,t)=>if t.ver≠ver then(zp,10)else if t.state=1∨t.state=2 then(qn c i (iR c.clock p t),0)else(zp,12)
def jy (c:Co) (s:ByteArray) (ver:Int) (b:Bool):Co×Int:=match fY c s with
 |none=>(zp,5)
 |some (i,t)=>if t.ver≠ver then(zp,10)else match eJ (v8 b) t with
  |none=>(zp,12)
  |some t'=>(qn c i t',0)
def oU (c:Co) (s:ByteArray) (p:Int):Co×Int:=match fY c s with
 |none=>(zp,5)
 |some (i,t)=>if t.state=3∨t.state=4 then if p∈t.parts then(qn c i (gO p t),0)else(zp,5)else(zp,12)
def ip (c:Co) (n:Int):Co×Int:=if 1000<n then(zp,2)else(v9 c n,0)
structure pi (k:Nat) (c:Co):Prop where
 ok:gU c=true
 clock:c.clock<=1000*k
 next:c.next<=k+1
 ver: ∀ t∈c.txs,t.ver<=k
theorem pi.more {k m:Nat} {c:Co} (h:pi k c) (hm:k<=m):pi m c:=⟨h.ok,by have:=h.clock;omega,by have:=h.next;omega,fun t ht=>by have:=h.ver t ht;omega⟩
theorem Ee {α:Type} {l:List α} {i:Nat} {a x:α} (h:x∈l.set i a):x∈l∨x=a:=aA h
theorem Ky {l:List Tx} {i:Nat} {t t':Tx} (h:v7 l) (hi:l[i]? =some t) (hn:t'.name=t.name) (hp:t'.pid=t.pid):v7 (l.set i t'):=by
 unfold v7 at h⊢
 rw[cU,hn,hp,i4 (by rw[aI,hi];rfl)]
 exact h
theorem pi.set {k:Nat} {c:Co} {i:Nat} {t t':Tx} (h:pi k c) (hi:c.txs[i]? =some t) (hn:t'.name=t.name) (hp:t'.pid=t.pid) (hok:fQ c.clock c.next t'=true) (hv:t'.ver<=k+1):pi (k+1) (qn c i t'):=by
 obtain⟨h1,h2,h3⟩:=gb.1 h.ok
 refine⟨gb.2 ⟨?_,fun x hx=> ?_,Ky h3 hi hn hp⟩,?_,?_,fun x hx=> ?_⟩
 simpa [qn]using h1
 rcases Ee hx with hx|rfl
 exact h2 x hx
 exact hok
 have:=h.clock;show c.clock<=_;omega
 have:=h.next;show c.next<=_;omega
 rcases Ee hx with hx|rfl
 have:=h.ver x hx;omega
 omega
theorem Qw:(1:Int)<=1:=by decide
theorem Q4:(1:Int)<=2:=by decide
theorem Ok:(1:Int)<=4:=by decide
theorem Q3:(2:Int)<=4:=by decide
theorem Qv:(4:Int)<=4:=by decide
theorem Qx:(1:Int)=1↔([]:List Int).length=0:=by decide
theorem jW {n:Int}:iP n=true↔0<=n/\n<=1073741824:=by unfold iP;simp
theorem IQ {k:Nat} {c:Co} {s:ByteArray} (h:pi k c) (hk:k<=1000) (hn:bu s=true) (h0:(bw c s).2.2.2=0):pi (k+1) (bw c s).1:=by
 have hb:=h
 obtain⟨⟨h1,h2,h3,h4,h5,h6⟩,h7,h8⟩:=gb.1 h.ok
 unfold bw at h0⊢
 cases hf:fY c s with
 |none=>
  rw[hf]at h0
  dsimp only at h0⊢
  by_cases hl:c.txs.length=8
  rw[if_pos hl]at h0;cases h0
  rw[if_neg hl]at h0⊢
  have hnx:=h.next
  have hck:=h.clock
  have hni:=vj hf
  refine⟨gb.2 ⟨⟨h1,?_,?_,h4,h5,?_⟩,fun t ht=> ?_,?_⟩,?_,?_,fun t ht=> ?_⟩
  show 1<=c.next+1;omega
  show c.next+1<=_;omega
  show((c.txs++[_]).length:Int)<=8
  rw[ay,cH];omega
  rcases ap.1 ht with ht|ht
  have:=cd.1 (h7 t ht)
  exact cd.2 ⟨this.1,this.2.1,by show t.pid<c.next+1;have:=this.2.2.1;omega,this.2.2.2⟩
  rw[ar.1 ht]
  exact cd.2 ⟨hn,h2,by show c.next<c.next+1;omega,by kernel_rfl,Qw,Ok,by show(0:Int)<=0;omega,by show(0:Int)<=c.clock;exact(jW.1 h1).1,.inl Z,rfl,Qx⟩
  unfold v7 at h8⊢
  show((c.txs++[i7 s c.next]).map _).Pairwise _
  rw[bk,ml]
  refine⟨h8,by simp,fun a ha b hb=> ?_⟩
  obtain⟨t,ht,rfl⟩:=bD.1 ha
  simp only[eU,pL,ar]at hb
  subst hb
  refine⟨fun he=> ?_,fun he=> ?_⟩
  have:(c.txs.findIdx? fun p=>decide (p.name=s))=none:=by
   cases hi:c.txs.findIdx? fun p=>decide (p.name=s)with
   |none=>rfl
   |some j=>unfold fW at hni;rw[hi]at hni;simp[lO]at hni
  rw[cL]at this
  have:=this t ht
  simp[show t.name=s from he]at this
  have:=(cd.1 (h7 t ht)).2.2.1
  have he':t.pid=c.next:=he
  omega
  show c.clock<=_;omega
  show c.next+1<=_;omega
  rcases ap.1 ht with ht|ht
  have:=h.ver t ht;omega
  rw[ar.1 ht];show(0:Int)<=_;omega
 |some x=>
  obtain⟨i,t⟩:=x
  rw[hf]at h0
  dsimp only at h0⊢
  obtain⟨hi,ht,-⟩:=gw hf
  by_cases hs:t.state=3∨t.state=4
  rw[if_pos hs]at h0;cases h0
  rw[if_neg hs]at h0⊢
  have hm:=ab ht
  have hv:=h.ver t hm
  obtain⟨a1,a2,a3,a4,a5,a6,a7,a8,a9,a10,a11⟩:=cd.1 (h7 t hm)
  have hv0:=(jW.1 a4).1
  refine h.set ht ?_ ?_ ?_ ?_
  unfold jf;split<;>rfl
  unfold jf;split<;>rfl
  unfold jf
  split
  rename_i h2'
  exact cd.2 ⟨a1,a2,a3,jW.2 ⟨by show 0<=t.ver+1;omega,by show t.ver+1<=_;omega⟩,Ok,Qv,a7,a8,a9,a10,by constructor;intro h;cases h;intro h;have:=a11.2 h;omega⟩
  exact cd.2 ⟨a1,a2,a3,jW.2 ⟨by show 0<=t.ver+1;omega,by show t.ver+1<=_;omega⟩,a5,a6,a7,a8,a9,a10,a11⟩
  unfold jf;split<;>(show t.ver+1<=_;omega)
theorem GD {l:List Int} {p:Int} (h:cW (-1) l=true) (h0:0<=p) (h3:p<4):cW (-1) (kM l p)=true/\(kM l p).length≠0:=by
 have key: ∀ (l:List Int) (a:Int),l.Pairwise (· < ·)->(∀ q∈l,a<q/\q<4)->cW a l=true:=by
  intro l
  induction l with
  |nil=>intro a _ _;rfl
  |cons x l ih=>
   intro a hp hq
   obtain⟨h1,h2⟩:=eD.1 hp
   unfold cW
   have:=hq x (az ..)
   rw[ih x h2 fun q hq'=>⟨h1 q hq',(hq q (ai _ hq')).2⟩]
   simp[this.1,this.2]
 obtain⟨hp,hq⟩:=fV h
 unfold kM
 split
 rename_i hm
 refine⟨h,fun h0=> ?_⟩
 rw[bO h0]at hm;cases hm
 rename_i hm
 refine⟨key _ _ ?_ ?_,by simp⟩
 rw[aB,ml]
 refine⟨hp.filter _,?_,?_⟩
 rw[ml]
 refine⟨by simp,hp.filter _,fun a ha b hb=> ?_⟩
 rw[ar.1 ha]
 simp only[lj,decide_eq_true_eq]at hb
 have:b≠p:=fun h=>hm (h▸hb.1)
 omega
 intro a ha b hb
 simp only[lj,decide_eq_true_eq]at ha
 rcases ap.1 hb with hb|hb
 rw[ar.1 hb];exact ha.2
 simp only[lj,decide_eq_true_eq]at hb;omega
 intro q hq'
 simp only[ap,lj,ar,decide_eq_true_eq]at hq'
 rcases hq' with(hq'|rfl)|hq'
 exact hq q hq'.1
 omega
 exact hq q hq'.1
theorem Nl {ck nx p:Int} {t:Tx} (h:fQ ck nx t=true) (hc:iP ck=true) (h0:0<=p) (h3:p<4):fQ ck nx (iR ck p t)=true:=by
 obtain⟨a1,a2,a3,a4,a5,a6,a7,a8,a9,a10,a11⟩:=cd.1 h
 obtain⟨b1,b2⟩:=GD a10 h0 h3
 have hc0:=(jW.1 hc).1
 unfold iR
 split
 exact cd.2 ⟨a1,a2,a3,a4,Q4,Q3,hc0,fl _,a9,b1,by constructor;intro h;cases h;intro h;exact absurd h b2⟩
 rename_i h1
 exact cd.2 ⟨a1,a2,a3,a4,a5,a6,a7,a8,a9,b1,by constructor;intro h;exact absurd h h1;intro h;exact absurd h b2⟩
theorem Ja {k:Nat} {c:Co} {s:ByteArray} {ver p:Int} (h:pi k c) (h0:0<=p) (h3:p<4) (he:(na c s ver p).2=0):pi (k+1) (na c s ver p).1:=by
 obtain⟨⟨h1,-⟩,h7,-⟩:=gb.1 h.ok
 unfold na at he⊢
 cases hf:fY c s with
 |none=>rw[hf]at he;cases he
 |some x=>
  obtain⟨i,t⟩:=x
  rw[hf]at he
  dsimp only at he⊢
  obtain⟨-,ht,-⟩:=gw hf
  split at he
  cases he
  rename_i hv
  rw[if_neg hv]
  split at he
  rename_i hs
  rw[if_pos hs]
  have hm:=ab ht
  refine h.set ht ?_ ?_ (Nl (h7 t hm) h1 h0 h3) ?_
  unfold iR;split<;>rfl
  unfold iR;split<;>rfl
  have:=h.ver t hm
  unfold iR;split<;>(show t.ver<=_;omega)
  cases he
theorem MX {ck nx w:Int} {t t':Tx} (h:fQ ck nx t=true) (hw:w=3∨w=4) (he:eJ w t=some t'):fQ ck nx t'=true/\t'.name=t.name/\t'.pid=t.pid/\t'.ver=t.ver:=by
 obtain⟨a1,a2,a3,a4,a5,a6,a7,a8,a9,a10,a11⟩:=cd.1 h
 unfold eJ at he
 split at he
 injection he with he;subst he
 refine⟨cd.2 ⟨a1,a2,a3,a4,by show 1<=w;omega,by show w<=4;omega,a7,a8,a9,a10,?_⟩,rfl,rfl,rfl⟩
 constructor
 intro h;have h':w=1:=h;omega
 intro h;have:=a11.2 h;omega
 split at he
 injection he with he;subst he
 exact⟨cd.2 ⟨a1,a2,a3,a4,a5,a6,a7,a8,.inr hw,a10,a11⟩,rfl,rfl,rfl⟩
 split at he
 injection he with he;subst he
 exact⟨h,rfl,rfl,rfl⟩
 cases he
theorem Jk (b:Bool):v8 b=3∨v8 b=4:=by cases b<;>simp[v8]
theorem I1 {k:Nat} {c:Co} {s:ByteArray} {ver:Int} {b:Bool} (h:pi k c) (he:(jy c s ver b).2=0):pi (k+1) (jy c s ver b).1:=by
 obtain⟨-,h7,-⟩:=gb.1 h.ok
 unfold jy at he⊢
 cases hf:fY c s with
 |none=>rw[hf]at he;cases he
 |some x=>
  obtain⟨i,t⟩:=x
  rw[hf]at he
  dsimp only at he⊢
  obtain⟨-,ht,-⟩:=gw hf
  split at he
  cases he
  rename_i hv
  rw[if_neg hv]
  have hm:=ab ht
  cases hx:eJ (v8 b) t with
  |none=>rw[hx]at he;cases he
  |some t'=>
   obtain⟨b1,b2,b3,b4⟩:=MX (h7 t hm) (Jk b) hx
   refine h.set ht b2 b3 b1 ?_
   have:=h.ver t hm;omega
theorem Ax {l:List Int} (h:cW (-1) l=true) (f:Int->Bool):cW (-1) (l.filter f)=true:=by
 have key: ∀ (l:List Int) (a:Int),l.Pairwise (· < ·)->(∀ q∈l,a<q/\q<4)->cW a l=true:=by
  intro l
  induction l with
  |nil=>intro a _ _;rfl
  |cons x l ih=>
   intro a hp hq
   obtain⟨h1,h2⟩:=eD.1 hp
   unfold cW
   have:=hq x (az ..)
   rw[ih x h2 fun q hq'=>⟨h1 q hq',(hq q (ai _ hq')).2⟩]
   simp[this.1,this.2]
 obtain⟨hp,hq⟩:=fV h
 exact key _ _ (hp.filter _) fun q hq'=>hq q ((lj.1 hq').1)
theorem Km {ck nx p:Int} {t:Tx} (h:fQ ck nx t=true) (hs:t.state=3∨t.state=4):fQ ck nx (gO p t)=true/\(gO p t).name=t.name/\(gO p t).pid=t.pid/\(gO p t).ver=t.ver:=by
 obtain⟨a1,a2,a3,a4,a5,a6,a7,a8,a9,a10,a11⟩:=cd.1 h
 unfold gO
 split
 exact⟨cd.2 ⟨a1,a2,a3,a4,Qw,Ok,a7,a8,.inr hs,rfl,Qx⟩,rfl,rfl,rfl⟩
 rename_i hl
 refine⟨cd.2 ⟨a1,a2,a3,a4,a5,a6,a7,a8,a9,Ax a10 _,?_⟩,rfl,rfl,rfl⟩
 constructor
 intro h;have h':t.state=1:=h;omega
 intro h;exact absurd h hl
theorem Gn {k:Nat} {c:Co} {s:ByteArray} {p:Int} (h:pi k c) (he:(oU c s p).2=0):pi (k+1) (oU c s p).1:=by
 obtain⟨-,h7,-⟩:=gb.1 h.ok
 unfold oU at he⊢
 cases hf:fY c s with
 |none=>rw[hf]at he;cases he
 |some x=>
  obtain⟨i,t⟩:=x
  rw[hf]at he
  dsimp only at he⊢
  obtain⟨-,ht,-⟩:=gw hf
  split at he
  rename_i hs
  rw[if_pos hs]
  split at he
  rename_i hp
  rw[if_pos hp]
  have hm:=ab ht
  obtain⟨b1,b2,b3,b4⟩:=Km (p:=p) (h7 t hm) hs
  refine h.set ht b2 b3 b1 ?_
  have:=h.ver t hm;omega
  cases he
  cases he
theorem ya {ck ck2 nx wt:Int} {t:Tx} (h:fQ ck nx t=true) (hc:ck<=ck2):fQ ck2 nx (fy ck2 wt t)=true/\(fy ck2 wt t).name=t.name/\(fy ck2 wt t).pid=t.pid/\(fy ck2 wt t).ver<=t.ver+1:=by
 obtain⟨a1,a2,a3,a4,a5,a6,a7,a8,a9,a10,a11⟩:=cd.1 h
 have hv:=jW.1 a4
 unfold fy
 split
 rename_i h2
 refine⟨cd.2 ⟨a1,a2,a3,jW.2 ⟨by show 0<=t.ver+1;omega,by show t.ver+1<=_;omega⟩,Ok,Qv,a7,by show t.since<=ck2;omega,a9,a10,?_⟩,rfl,rfl,fl _⟩
 constructor
 intro h;cases h
 intro h;have:=a11.2 h;omega
 exact⟨cd.2 ⟨a1,a2,a3,a4,a5,a6,a7,by omega,a9,a10,a11⟩,rfl,rfl,by omega⟩
theorem E7 {k:Nat} {c:Co} {n:Int} (h:pi k c) (hk:k<=1000) (hn:0<=n) (he:(ip c n).2=0):pi (k+1) (ip c n).1:=by
 obtain⟨⟨h1,h2,h3,h4,h5,h6⟩,h7,h8⟩:=gb.1 h.ok
 have hck:=h.clock
 have hc0:=(jW.1 h1).1
 unfold ip at he⊢
 split at he
 cases he
 rename_i hn1
 rw[if_neg hn1]
 unfold v9
 refine⟨gb.2 ⟨⟨jW.2 ⟨by show 0<=c.clock+n;omega,by show c.clock+n<=_;omega⟩,h2,h3,h4,h5,by simpa using h6⟩,fun t ht=> ?_,?_⟩,by show c.clock+n<=1000*((k+1:Nat):Int);omega,by have:=h.next;show c.next<=_;omega,fun t ht=> ?_⟩
 obtain⟨x,hx,rfl⟩:=bD.1 ht
 exact(ya (h7 x hx) (show c.clock<=c.clock+n by omega)).1
 unfold v7 at h8⊢
 dsimp only
 rw[pM]
 rw[List.map_congr_left (g:=fun t=>(t.name,t.pid)) fun t ht=>by
  obtain⟨-,e1,e2,-⟩:=ya (ck2:=c.clock+n) (wt:=c.wait) (h7 t ht) I
  show((fy _ _ t).name,(fy _ _ t).pid)=_
  rw[e1,e2]]
 exact h8
 obtain⟨x,hx,rfl⟩:=bD.1 ht
 obtain⟨-,-,-,e3⟩:=ya (ck2:=c.clock+n) (wt:=c.wait) (h7 x hx) I
 have:=h.ver x hx
 omega
theorem pi.a {k:Nat} {c:Co} (h:pi k c):pi k c.a:=⟨by rw[<-tF];exact h.ok,h.clock,h.next,fun t ht=>by
 obtain⟨x,hx,rfl⟩:=bD.1 (show t∈c.txs.map Tx.a from ht)
 exact h.ver x hx⟩
theorem pi.of_a {k:Nat} {c:Co} (h:pi k c.a):pi k c:=⟨by rw[tF];exact h.ok,h.clock,h.next,fun t ht=>h.ver t.a (bF (f:=Tx.a) ht)⟩
theorem pi.at_ {k:Nat} {c:Co} (h:pi k c) {i:Nat} {t:Tx} (ht:c.txs[i]? =some t):fQ c.clock c.next t=true:=(gb.1 h.ok).2.1 t (ab ht)
theorem DZ {c:Co} {s:ByteArray} {i:Nat} {t:Tx} (h:fY c s=some (i,t)):fY c.a s=some (i,t.a):=by rw[Bz,h];rfl
theorem Hh {c:Co} {s:ByteArray} (h:fY c s=none):fY c.a s=none:=by rw[Bz,h];rfl
theorem Mx (t:Tx):jf t.a=(jf t).a:=by
 unfold jf
 by_cases h:t.state=2
 rw[if_pos (show t.a.state=2 from h),if_pos h];rfl
 rw[if_neg (show¬ t.a.state=2 from h),if_neg h];rfl
theorem xg (c:Co) (s:ByteArray) (k:Nat) (w:World) (h:c.rd 0 w.heap.size w) (hb:pi k c) (hk:k<=1000) (hn:bu s=true):dt aa mT [c.v,.string s] w fun v w2=> ∃ c':Co,v=.tuple #[c'.v,J (bw c.a s).2.1,J (bw c.a s).2.2.1,J (bw c.a s).2.2.2]/\c'.a=(bw c.a s).1/\uU w w2 c':=by
 have hnx:=hb.next
 have hpost:(bw c s).2.2.2=0->pi (k+1) (bw c s).1:=IQ hb hk hn
 cases hf:fY c s with
 |none=>
  have hi:=vj hf
  have ha:=Hh hf
  unfold bw at hpost⊢
  rw[ha]
  rw[hf]at hpost
  dsimp only at hpost⊢
  by_cases hl:c.txs.length=8
  rw[if_pos (show c.a.txs.length=8 by simpa [Co.a]using hl)]
  exact(Gu c s w h hb.ok hn I hl).mono fun v w2 ⟨h1,h2⟩=>⟨zp,h1,rfl,pT h2⟩
  rw[if_neg (show¬ c.a.txs.length=8 by simpa [Co.a]using hl)]
  rw[if_neg hl]at hpost
  exact(J6 c s w h hb.ok hn I hl I).mono fun v w2 ⟨c',Lr,Lp,h1,h2⟩=>⟨c',h1,h2.1,h2.new (by rw[<-Kq,<-tF];exact(hpost Z).ok)⟩
 |some x=>
  obtain⟨i,t⟩:=x
  obtain⟨hi,ht,-⟩:=gw hf
  have ha:=DZ hf
  have hm:=ab ht
  have hv0:=jW.1 (cd.1 (hb.at_ ht)).2.2.2.1
  have hv:=hb.ver t hm
  unfold bw at hpost⊢
  rw[ha]
  rw[hf]at hpost
  dsimp only at hpost⊢
  by_cases hs:t.state=3∨t.state=4
  rw[if_pos (show t.a.state=3∨t.a.state=4 from hs)]
  exact(Hw c s i t w h hb.ok hn hi ht hs).mono fun v w2 ⟨h1,h2⟩=>⟨zp,h1,rfl,pT h2⟩
  rw[if_neg (show¬ (t.a.state=3∨t.a.state=4)from hs)]
  rw[if_neg hs]at hpost
  exact(Hx c s i t w h hb.ok hn hi ht (fun h=>hs (.inl h)) (fun h=>hs (.inr h)) hv0.1 I).mono fun v w2 ⟨c',Lr,Lp,h1,h2⟩=>⟨c',h1,h2.1.trans (by rw[show({c with txs:=c.txs.set i (jf t)}:Co)=qn c i (jf t)from rfl,zO,Mx]),h2.new (by rw[<-tF];exact(hpost Z).ok)⟩
theorem Nm (ck p:Int) (t:Tx):iR ck p t.a=(iR ck p t).a:=by
 unfold iR
 by_cases h:t.state=1
 rw[if_pos (show t.a.state=1 from h),if_pos h];rfl
 rw[if_neg (show¬ t.a.state=1 from h),if_neg h];rfl
theorem GC (c:Co) (s:ByteArray) (ver p:Int) (k:Nat) (w:World) (h:c.rd 0 w.heap.size w) (hb:pi k c) (hn:bu s=true) (h0:0<=p) (h3:p<4):dt aa oI [c.v,.string s,J ver,J p] w fun v w2=> ∃ c':Co,v=.tuple #[c'.v,J (na c.a s ver p).2]/\c'.a=(na c.a s ver p).1/\uU w w2 c':=by
 have hpost:(na c s ver p).2=0->pi (k+1) (na c s ver p).1:=Ja hb h0 h3
 cases hf:fY c s with
 |none=>
  have hi:=vj hf
  have ha:=Hh hf
  unfold na
  rw[ha]
  exact(Nj c s ver p w h hb.ok hn hi).mono fun v w2 ⟨h1,h2⟩=>⟨zp,h1,rfl,pT h2⟩
 |some x=>
  obtain⟨i,t⟩:=x
  obtain⟨hi,ht,-⟩:=gw hf
  have ha:=DZ hf
  unfold na at hpost⊢
  rw[ha]
  rw[hf]at hpost
  dsimp only at hpost⊢
  by_cases hv:t.ver=ver
  rw[if_neg (show¬ t.a.ver≠ver from fun h=>h hv)]
  rw[if_neg (fun h=>h hv)]at hpost
  by_cases hs:t.state=1∨t.state=2
  rw[if_pos (show t.a.state=1∨t.a.state=2 from hs)]
  rw[if_pos hs]at hpost
  exact(P6 c s ver p i t w h hb.ok hn hi ht hv h0 h3 hs (cd.1 (hb.at_ ht)).2.2.2.2.2.2.2.2.2.1).mono fun v w2 ⟨c',Lr,Lp,h1,h2⟩=>⟨c',h1,h2.1.trans (by rw[show({c with txs:=c.txs.set i (iR c.clock p t)}:Co)=qn c i (iR c.clock p t)from rfl,zO,Nm];rfl),h2.new (by rw[<-tF];exact(hpost Z).ok)⟩
  rw[if_neg (show¬ (t.a.state=1∨t.a.state=2)from hs)]
  exact(KC c s ver p i t w h hb.ok hn hi ht hv h0 h3 (fun h=>hs (.inl h)) (fun h=>hs (.inr h))).mono fun v w2 ⟨h1,h2⟩=>⟨zp,h1,rfl,pT h2⟩
  rw[if_pos (show t.a.ver≠ver from hv)]
  exact(KD c s ver p i t w h hb.ok hn hi ht hv).mono fun v w2 ⟨h1,h2⟩=>⟨zp,h1,rfl,pT h2⟩
theorem OD (w:Int) (t:Tx):eJ w t.a=(eJ w t).map Tx.a:=by
 unfold eJ
 by_cases h1:t.state=2
 rw[if_pos (show t.a.state=2 from h1),if_pos h1];rfl
 rw[if_neg (show¬ t.a.state=2 from h1),if_neg h1]
 by_cases h2:t.state=1/\t.done=0
 rw[if_pos (show t.a.state=1/\t.a.done=0 from h2),if_pos h2];rfl
 rw[if_neg (show¬ (t.a.state=1/\t.a.done=0)from h2),if_neg h2]
 by_cases h3:t.state=w∨(t.state=1/\t.done=w)
 rw[if_pos (show t.a.state=w∨(t.a.state=1/\t.a.done=w)from h3),if_pos h3];rfl
 rw[if_neg (show¬ (t.a.state=w∨(t.a.state=1/\t.a.done=w))from h3),if_neg h3];rfl
theorem Gj (c:Co) (s:ByteArray) (ver:Int) (b:Bool) (k:Nat) (w:World) (h:c.rd 0 w.heap.size w) (hb:pi k c) (hn:bu s=true):dt aa mb [c.v,.string s,J ver,.bool b] w fun v w2=> ∃ c':Co,v=.tuple #[c'.v,J (jy c.a s ver b).2]/\c'.a=(jy c.a s ver b).1/\uU w w2 c':=by
 have hpost:(jy c s ver b).2=0->pi (k+1) (jy c s ver b).1:=I1 hb
 cases hf:fY c s with
 |none=>
  have hi:=vj hf
  have ha:=Hh hf
  unfold jy
  rw[ha]
  exact(MW c s ver b w h hb.ok hn hi).mono fun v w2 ⟨h1,h2⟩=>⟨zp,h1,rfl,pT h2⟩
 |some x=>
  obtain⟨i,t⟩:=x
  obtain⟨hi,ht,-⟩:=gw hf
  have ha:=DZ hf
  unfold jy at hpost⊢
  rw[ha]
  rw[hf]at hpost
  dsimp only at hpost⊢
  by_cases hv:t.ver=ver
  rw[if_neg (show¬ t.a.ver≠ver from fun h=>h hv),OD]
  rw[if_neg (fun h=>h hv)]at hpost
  have main:dt aa mb [c.v,.string s,J ver,.bool b] w fun v w2=>match eJ (v8 b) t with|none=>v=.tuple #[.agg #[J 0,J 0,J 0,.slice none 0 0],J 12]/\Below w.heap.size w w2|some t'=> ∃ (c':Co) (Lr Lp:List (Nat×Obj)),v=.tuple #[c'.v,J 0]/\qM w w2 (Co.a {c with txs:=c.txs.set i t'}) c' Lr Lp:=by
   cases b
   exact Kj c s ver i t w h hb.ok hn hi ht hv
   exact MV c s ver i t w h hb.ok hn hi ht hv
  cases hx:eJ (v8 b) t with
  |none=>
   rw[hx]at main
   exact main.mono fun v w2 ⟨h1,h2⟩=>⟨zp,h1,rfl,pT h2⟩
  |some t'=>
   rw[hx]at main hpost
   exact main.mono fun v w2 ⟨c',Lr,Lp,h1,h2⟩=>⟨c',h1,h2.1.trans (by rw[show({c with txs:=c.txs.set i t'}:Co)=qn c i t' from rfl,zO];rfl),h2.new (by rw[<-tF];exact(hpost Z).ok)⟩
  rw[if_pos (show t.a.ver≠ver from hv)]
  exact(Ki c s ver b i t w h hb.ok hn hi ht hv).mono fun v w2 ⟨h1,h2⟩=>⟨zp,h1,rfl,pT h2⟩
theorem M1 (p:Int) (t:Tx):gO p t.a=(gO p t).a:=by
 unfold gO
 by_cases h:(t.parts.filter fun q=>decide (q≠p)).length=0
 rw[if_pos (show(t.a.parts.filter fun q=>decide (q≠p)).length=0 from h),if_pos h];rfl
 rw[if_neg (show¬ (t.a.parts.filter fun q=>decide (q≠p)).length=0 from h),if_neg h];rfl
theorem Ko (c:Co) (s:ByteArray) (p:Int) (k i:Nat) (t:Tx) (w:World) (h:c.rd 0 w.heap.size w) (hb:pi k c) (hn:bu s=true) (hf:fY c.a s=some (i,t)) (h34:t.state=3∨t.state=4) (hp:p∈t.parts):dt aa xo [c.v,.string s,J p] w fun v w2=> ∃ c':Co,v=.tuple #[c'.v,J 0]/\c'.a=(oU c.a s p).1/\uU w w2 c':=by
 have hpost:(oU c s p).2=0->pi (k+1) (oU c s p).1:=Gn hb
 rw[Bz]at hf
 obtain⟨⟨j,x⟩,hg,he⟩:=iY.1 hf
 clear hf
 simp only[Prod.mk.injEq]at he
 obtain⟨rfl,rfl⟩:=he
 obtain⟨hi,ht,-⟩:=gw hg
 have ha:=DZ hg
 unfold oU at hpost⊢
 rw[ha]
 rw[hg]at hpost
 dsimp only at hpost⊢
 rw[if_pos h34,if_pos hp]
 rw[if_pos (show x.state=3∨x.state=4 from h34),if_pos (show p∈x.parts from hp)]at hpost
 exact(OE c s p i x w h hb.ok hn hi ht h34 hp (cd.1 (hb.at_ ht)).2.2.2.2.2.2.2.2.2.1).mono fun v w2 ⟨c',Lr,Lp,h1,h2⟩=>⟨c',h1,h2.1.trans (by rw[show({c with txs:=c.txs.set i (gO p x)}:Co)=qn c i (gO p x)from rfl,zO,M1]),h2.new (by rw[<-tF];exact(hpost Z).ok)⟩
theorem MU (t:Tx):hM t.a=hM t:=rfl
theorem Mb (l:List Tx) (n:Nat):ij (l.map Tx.a) n=(ij l n).map Tx.a:=by
 unfold ij
 rw[List.filter_map,show(hM∘Tx.a)=hM from funext MU,aI]
theorem FC (c:Co) (n:Nat) (w:World) (h:c.rd 0 w.heap.size w) (hok:gU c=true) (hn:n<=1000):dt aa xn [c.v,J (n:Nat)] w fun v w2=>v=y5 (ij c.a.txs n)/\Below w.heap.size w w2:=by
 refine(N9 c n w h hok hn).mono fun v w2 ⟨h1,h2⟩=>⟨?_,h2⟩
 rw[h1,show c.a.txs=c.txs.map Tx.a from rfl,Mb]
 cases ij c.txs n<;>rfl
theorem Jp (c:Co) (n:Int):(v9 c n).a=v9 c.a n:=by
 unfold v9 Co.a
 simp only[pM]
 congr 1
 exact List.map_congr_left fun t _=>K5 _ _ t
theorem C1 (c:Co) (n:Int) (k:Nat) (w:World) (h:c.rd 0 w.heap.size w) (hb:pi k c) (hk:k<=1000) (hn:0<=n):dt aa tm [c.v,J n] w fun v w2=> ∃ c':Co,v=.tuple #[c'.v,J (ip c.a n).2]/\c'.a=(ip c.a n).1/\uU w w2 c':=by
 have hpost:(ip c n).2=0->pi (k+1) (ip c n).1:=E7 hb hk hn
 have hck:=hb.clock
 unfold ip at hpost⊢
 by_cases hf:1000<n
 rw[if_pos hf]
 exact(K0 c n w h hb.ok hf).mono fun v w2 ⟨h1,h2⟩=>⟨zp,h1,rfl,pT h2⟩
 rw[if_neg hf]
 rw[if_neg hf]at hpost
 exact(NB c n w h hb.ok hn I I).mono fun v w2 ⟨c',Lr,Lp,h1,h2⟩=>⟨c',h1,h2.1,h2.new (by rw[<-Jp,<-tF];exact(hpost Z).ok)⟩
theorem G6 (es:List cr) (A:Option Addr) (c n a most:Nat) (w:World) (hr:Rd hJ 0 w.heap.size A es w) (hc:es.length<=c) (hb:es.length<=1000000) (hn:n<=es.length) (ha:es.length<a):
  dt aa zb [.slice A es.length c,J (n:Nat),J (a:Nat),J (most:Nat)] w fun v w2=>v=.tuple #[.slice none 0 0,J 0,J 2]/\Below w.heap.size w w2:=by
 refine aG xt Z Z ?_
 have H:=Hp.startRd hr
 refine W<|Zr<|G (Ws Z)<|G (Wi Z)<|G (Wi Z)<|U<|W<|Zr<|G (Ys Z)<|G (Yi Z)<|cu uK (C6 es _ _ n _ (H.rd0 0 Z) hc hb hn) Z Z ?_
 rintro _ w1 ⟨st,hst,rfl,hb2⟩;replace H:=H.later hb2;clear hb2
 refine G (Yu Z)<|G (Xi Z Z)<|G (Xi Z Z)<|G (Wi Z)<|G (Wi Z)<|U<|W<|W<|Zr<|G (Yi Z)<|G (cv Z Z Z)<|U<|ZF Z<|Zk<|W<|W<|Zr<|G (Yi Z)<|G (dp Z Z I)<|G (Yb Z)<|ZG<|G (Yi Z)<|ZG<|G (Ys Z)<|ZG<|G (bh eN Z)<|ZG<|G (HD Z Z I)<|G (N Z Z)<|G (Yb Z)<|ZN<|ZN<|G (Kt Z Z)<|G (Yb Z)<|ZN<|ZN<|G (Kt Z Z)<|U<|ZT Z<|W ?_
 refine Zr<|G (Ws Z)<|G (Wi Z)<|G (Wi Z)<|U<|Zt ?_
 exact HM Z Z Z Z ⟨rfl,H.below⟩
theorem Fu (p:Pa) (a most l:Nat) (r:gm) (w:World) (h:p.rd 0 w.heap.size w) (hok:p.a.ok) (hld:p.leader=l) (hr:p.reps[l]? =some r) (ha:r.es.length<a):dt aa uz [p.v,J (a:Nat),J (most:Nat)] w fun v w2=>v=.tuple #[.slice none 0 0,J 0,J 2]/\Below w.heap.size w w2:=by
 refine aG tv Z Z ?_
 obtain⟨hn1,hn2,hil,hkl,hf1,hf2,he0,he1,hl0,hl1,hb0,hb1,hsm⟩:=Pa.facts hok
 have hkn:=hok.known
 have hiC:=h.iC
 have hkC:=h.kC
 have hrC:=h.rC
 have hfew:=h.few
 have H:=Hp.startPa h
 obtain⟨ep,ld,isr,iA,iC,kn,kA,kC,reps,rA,rC,fw,bs⟩:=p
 simp only[Pa.a]at hkn
 dsimp only at H hn1 hn2 hil hkl hf1 hf2 he0 he1 hl0 hl1 hb0 hb1 hsm hiC hkC hrC hfew
 dsimp only at hld hr
 have hll:=(cy hr).1
 show CW _ _ _ _ (args [.agg #[J (ep),J (ld),.slice iA isr.length iC,.slice kA kn.length kC,.slice rA reps.length rC,J (fw),J (bs)],J (((a:Nat):Int)),J (((most:Nat):Int))]) w
 refine W<|Zr<|gY H Z Z fun w1 b3 H=>G (Ws Z)<|G (Wi Z)<|G (Wi Z)<|U<|W<|W<|Zr<|G (Zw bo H 0 Z Z Z)<|cu lF (sD ⟨ep,ld,isr,iA,iC,kn,kA,kC,reps,rA,rC,fw,bs⟩ _ (Hp.pa H 0 Z) hok) Z Z ?_
 rintro _ w2 ⟨rfl,hb⟩;replace H:=H.later hb;clear hb
 refine G (Wi Z)<|U<|W<|Zr<|G (Yi Z)<|G (cv Z Z Z)<|U<|ZF Z<|Zk<|W<|W<|Zr<|G (Zf eC Z)<|G (Zd am H 0 Z Z Z)<|G (dp Z Z I)<|U<|ZF Z<|Zk<|W<|Zr<|G (Zf dQ Z)<|G (Zd cJ H 0 Z Z Z)<|G (Zf eC Z)<|G (Zd am H 0 Z Z Z)<|qg (k:=l) H 3 Z bM Z (congrArg (Value.int .i64) hld) I I Z fun bq3 o3 x3 e3=> ?_
 obtain rfl:x3=r:=by have:=e3.at_;rw[hr]at this;exact(aY this).symm
 obtain⟨n,hnn⟩: ∃ n:Nat,x3.high=n:=⟨x3.high.toNat,by have:=(Pa.repOk hok (i:=l) hr).2.1;omega⟩
 refine G (ka (xs:=gm.c x3) pb Z Z e3.cl)<|fc H sv Z fun w4 b10 H=>bA H 0 (#[.bool (x3.up),.slice x3.A ((bG x3.es).length) x3.cap,J (((iS x3.es x3.s:Nat):Int)),J (x3.high)]) ou Z Z Z Z Z N N fun w5 H=>U<|W<|Zr<|G (Zf dU Z)<|G (j9 1 [.slice x3.A ((bG x3.es).length) x3.cap,J (((iS x3.es x3.s:Nat):Int))] fE Z Z (H.ent (i:=0) Z) Z)<|cu gR (iq x3.A x3.cap x3.es x3.s _ (Pa.log (Hp.pa H 0 Z) hok (i:=l) hr)) Z Z ?_
 have hloen:=H.size
 rintro _ w6 ⟨Aen,cen,rfl,hren,hcen,hben⟩;replace H:=H.learnRd hben hren;clear hren hben
 refine G (Yu Z)<|G (Xs Z Z)<|G (Xi Z Z)<|G (Xi Z Z)<|G (Ws Z)<|G (Wi Z)<|G (Wi Z)<|U<|W<|Zr<|G (Ys Z)<|G (Zf eX Z)<|G (Zd am H 0 Z Z Z)<|G (Yi Z)<|G (Yi Z)<|cu xG ((by have hA:=G6 x3.es Aen cen n a most _ (H.rd0 0 Z) hcen (by have:=(Pa.repOk hok (i:=l) hr).1.len;omega) (by have:=(Pa.repOk hok (i:=l) hr).2.2;omega) ha;rw[<-hnn]at hA;exact hA)) Z Z ?_
 rintro _ w7 ⟨rfl,hb⟩;replace H:=H.later hb;clear hb
 refine G (Xs Z Z)<|G (Xi Z Z)<|G (Xi Z Z)<|G (Ws Z)<|G (Wi Z)<|G (Wi Z)<|U<|Zt ?_
 exact HM Z Z Z Z ⟨rfl,H.below⟩

/-- an act of a script -/
structure Act where
 kind:Int
 name:ByteArray
 part:Int
 n:Int
 m:Int
 text:ByteArray
 lost:Int
def Act.c (a:Act):List Value:=[J a.kind,.string a.name,J a.part,J a.n,J a.m,.string a.text,J a.lost]
abbrev Act.v (a:Act):Value:=.agg a.c.toArray
def ra:fA Act:=⟨Act.c,7,fun _=>rfl,by decide,fun a u hu=>by
 simp only[Act.c,av,bd,or_false]at hu
 rcases hu with h|h|h|h|h|h|h<;>subst h<;>rfl⟩
structure An where
 code:Int
 n:Int
 texts:List ByteArray
structure Sn where
 name:ByteArray
 pid:Int
 ver:Int
 inn:Bool
 seqs:List Int
 sA:Option Addr
 sC:Nat
 last:List cr
 lA:Option Addr
 lC:Nat
def Sn.c (s:Sn):List Value:=[.string s.name,J s.pid,J s.ver,.bool s.inn,.slice s.sA s.seqs.length s.sC,.slice s.lA s.last.length s.lC]
def Af:fA Sn:=⟨Sn.c,6,fun _=>rfl,by decide,fun a u hu=>by
 simp only[Sn.c,av,bd,or_false]at hu
 rcases hu with h|h|h|h|h|h<;>subst h<;>rfl⟩
def Sn.a (s:Sn):Sn:={s with sA:=none,sC:=0,lA:=none,lC:=0}
structure Pq where
 p:Pa
 lo:Nat
 hi:Nat
def Fr:fA Pq:=⟨fun q=>q.p.c,7,fun _=>rfl,by decide,fun a u hu=>by
 simp only[Pa.c,av,bd,or_false]at hu
 rcases hu with h|h|h|h|h|h|h<;>subst h<;>rfl⟩
structure Bk where
 ps:List Pq
 pA:Option Addr
 pC:Nat
 co:Co
 clo:Nat
 chi:Nat
 gr:Gr
 glo:Nat
 ghi:Nat
 sns:List Sn
 snA:Option Addr
 snC:Nat
def Bk.c (b:Bk):List Value:=[.slice b.pA b.ps.length b.pC,J b.co.clock,J b.co.next,J b.co.wait,.slice b.co.A b.co.txs.length b.co.cap,J b.gr.clock,J b.gr.wait,J b.gr.gen,.slice b.gr.mA b.gr.ms.length b.gr.mC,.slice b.gr.oA b.gr.os.length b.gr.oC,.slice b.snA b.sns.length b.snC]
structure Wa where
 ps:List f3
 co:Co
 gr:Gr
 sns:List Sn
def Bk.a (b:Bk):Wa:=⟨b.ps.map fun q=>q.p.a,b.co.a,b.gr.a,b.sns.map Sn.a⟩
def qL:List Sn->List (Nat×Obj)->Prop
 |[],L=>L=[]
 |s::l,L=> ∃ gq uq gl ul L',s.sA=some ⟨gq,0,none⟩/\s.lA=some ⟨gl,0,none⟩/\d7 bS s.seqs s.sC uq/\d7 hJ s.last s.lC ul/\L=(gq,.cells uq dg (0,0))::(gl,.cells ul dA (0,0))::L'/\qL l L'
theorem qL.at_: ∀ {l:List Sn} {L:List (Nat×Obj)} {i:Nat} {s:Sn},qL l L->l[i]? =some s-> ∃ gq uq gl ul La Lb,s.sA=some ⟨gq,0,none⟩/\s.lA=some ⟨gl,0,none⟩/\d7 bS s.seqs s.sC uq/\d7 hJ s.last s.lC ul/\L=La++((gq,.cells uq dg (0,0))::(gl,.cells ul dA (0,0))::Lb)/\ ∀ (s':Sn) (gq':Nat) (uq':Array Value) (gl':Nat) (ul':Array Value),s'.sA=some ⟨gq',0,none⟩->s'.lA=some ⟨gl',0,none⟩->d7 bS s'.seqs s'.sC uq'->d7 hJ s'.last s'.lC ul'->qL (l.set i s') (La++((gq',.cells uq' dg (0,0))::(gl',.cells ul' dA (0,0))::Lb))
 |[],_,_,_,_,h=>by simp at h
 |x::l,L,0,s,h,hi=>by
  obtain⟨gq,uq,gl,ul,L',h1,h2,h3,h4,rfl,h6⟩:=h
  have:x=s:=by simpa using hi
  subst this
  exact⟨gq,uq,gl,ul,[],L',h1,h2,h3,h4,rfl,fun s' gq' uq' gl' ul' a1 a2 a3 a4=>⟨gq',uq',gl',ul',L',a1,a2,a3,a4,rfl,h6⟩⟩
 |x::l,L,i+1,s,h,hi=>by
  obtain⟨gq,uq,gl,ul,L',h1,h2,h3,h4,rfl,h6⟩:=h
  obtain⟨kq,vq,kl,vl,La,Lb,b1,b2,b3,b4,rfl,b6⟩:=qL.at_ (i:=i) h6 (by simpa using hi)
  exact⟨kq,vq,kl,vl,(gq,.cells uq dg (0,0))::(gl,.cells ul dA (0,0))::La,Lb,b1,b2,b3,b4,rfl,fun s' gq' uq' gl' ul' a1 a2 a3 a4=>⟨gq,uq,gl,ul,_,h1,h2,h3,h4,rfl,b6 s' gq' uq' gl' ul' a1 a2 a3 a4⟩⟩
theorem qL.snoc: ∀ {l:List Sn} {L:List (Nat×Obj)} {s:Sn} {gq gl:Nat} {uq ul:Array Value},qL l L->s.sA=some ⟨gq,0,none⟩->s.lA=some ⟨gl,0,none⟩->d7 bS s.seqs s.sC uq->d7 hJ s.last s.lC ul->qL (l++[s]) (L++[(gq,.cells uq dg (0,0)),(gl,.cells ul dA (0,0))])
 |[],L,s,gq,gl,uq,ul,h,a1,a2,a3,a4=>by
  have:L=[]:=h
  subst this
  exact⟨gq,uq,gl,ul,[],a1,a2,a3,a4,rfl,rfl⟩
 |x::l,L,s,gq,gl,uq,ul,h,a1,a2,a3,a4=>by
  obtain⟨kq,vq,kl,vl,L',h1,h2,h3,h4,rfl,h6⟩:=h
  exact⟨kq,vq,kl,vl,_,h1,h2,h3,h4,rfl,h6.snoc a1 a2 a3 a4⟩
def xT (w0:World) (lo hi:Nat) (c:Co):ce:=⟨lo,hi,fun w=>w0.heap.size<=lo/\c.rd lo hi w,fun _ _ hk h=>⟨h.1,h.2.st hk⟩⟩
def KJ (w0:World) (lo hi:Nat) (g:Gr):ce:=⟨lo,hi,fun w=>w0.heap.size<=lo/\g.rd lo hi w,fun _ _ hk h=>⟨h.1,h.2.st hk⟩⟩
def wM (w0:World) (lo hi:Nat) (p:Pa):ce:=⟨lo,hi,fun w=>w0.heap.size<=lo/\p.rd lo hi w,fun _ _ hk h=>⟨h.1,h.2.st hk⟩⟩
structure Bw (w0 w:World) (bb:Nat) (b:Bk) (gP:Nat) (uP:Array Value) (Ls Lo K:List (Nat×Obj)) (F:List ce):Prop where
 pA:b.pA=some ⟨gP,0,none⟩
 row:d7 Fr b.ps b.pC uP
 sn:gG Af (.slice b.snA b.sns.length b.snC) fK b.sns Ls
 own:qL b.sns Lo
 co:xT w0 b.clo b.chi b.co∈F
 gr:KJ w0 b.glo b.ghi b.gr∈F
 ps: ∀ q∈b.ps,wM w0 q.lo q.hi q.p∈F
 H:Hp w0 w ((bb,.cells b.c.toArray bE (0,0))::(gP,.cells uP bI (0,0))::(Ls++(Lo++K))) F
def xU (w0 w:World) (bb:Nat) (b:Bk) (K:List (Nat×Obj)) (F:List ce):Prop:= ∃ gP uP Ls Lo F',Bw w0 w bb b gP uP Ls Lo K F'/\ ∀ f∈F,f∈F'
theorem Hp.coM {w1 w0 w:World} {L:List (Nat×Obj)} {F:List ce} {lo hi:Nat} {c:Co} (H:Hp w0 w L F) (h:xT w1 lo hi c∈F):c.rd 0 w.heap.size w:=by
 obtain⟨h1,h2,-⟩:=H.facts _ h
 exact Co.rd.mono h1.2 (bN _) h2
theorem Hp.grM {w1 w0 w:World} {L:List (Nat×Obj)} {F:List ce} {lo hi:Nat} {g:Gr} (H:Hp w0 w L F) (h:KJ w1 lo hi g∈F):g.rd 0 w.heap.size w:=by
 obtain⟨h1,h2,-⟩:=H.facts _ h
 exact Gr.rd.mono h1.2 (bN _) h2
theorem Hp.paM {w1 w0 w:World} {L:List (Nat×Obj)} {F:List ce} {lo hi:Nat} {p:Pa} (H:Hp w0 w L F) (h:wM w1 lo hi p∈F):p.rd 0 w.heap.size w:=by
 obtain⟨h1,h2,-⟩:=H.facts _ h
 exact Pa.rd.mono h1.2 (bN _) h2
def pn (x:An) (v:Value) (w:World):Prop:= ∃ A c,v=.agg #[J x.code,J x.n,.slice A x.texts.length c]/\x.texts.length<=c/\Rd mq 0 w.heap.size A x.texts w
theorem pn.plain (e n:Int) (w:World):pn ⟨e,n,[]⟩ (.agg #[J e,J n,.slice none 0 0]) w:=⟨none,0,rfl,ao _,Rd.nil⟩
def kf (w:Wa) (e:Int):Wa×An:=(w,⟨e,0,[]⟩)
def fP (a:Act) (x:An):An:=if a.lost=0 then x else⟨14,0,[]⟩
def eR (l:List Sn) (s:ByteArray):Option Nat:=l.findIdx? fun x=>decide (x.name=s)
def jP:cr:=⟨0,0,0,0,0,false,⟨#[]⟩⟩
def rh (s:ByteArray) (pid ver:Int) (np:Nat):Sn:=⟨s,pid,ver,false,aq np 0,none,0,aq np jP,none,0⟩
def vF (l:List Sn) (s:Sn):List Sn:=match eR l s.name with
 |none=>l++[s]
 |some i=>l.set i s
def l9 (w:Wa) (a:Act):Wa×An:=if(bw w.co a.name).2.2.2=0 then({w with co:=(bw w.co a.name).1,sns:=vF w.sns (rh a.name (bw w.co a.name).2.1 (bw w.co a.name).2.2.1 w.ps.length)},⟨0,(bw w.co a.name).2.2.1,[]⟩)else kf w (bw w.co a.name).2.2.2
def kL (w:Wa) (a:Act):Wa×An:=match (eR w.sns a.name).bind fun i=>w.sns[i]?.map fun s=>(i,s)with
 |none=>kf w 5
 |some (i,s)=>if s.inn then kf w 6 else({w with sns:=w.sns.set i {s with inn:=true}},⟨0,0,[]⟩)
def lk (w:Wa) (n:Nat) (x:cr):Wa×An:=match w.ps[n]? with
 |none=>kf w 5
 |some p=>if(eu p x).2.2=0 then({w with ps:=w.ps.set n (eu p x).1},⟨0,(eu p x).2.1,[]⟩)else kf w (eu p x).2.2
def oa (w:Wa) (s:Sn) (n:Nat) (x:cr):Co×Int:=if x.txn then na w.co s.name x.ver n else(w.co,0)
def dE (w:Wa) (s:Sn) (n:Nat):Wa×An:=match s.last[n]? with
 |none=>kf w 5
 |some x=>if(oa w s n x).2=0 then lk {w with co:=(oa w s n x).1} n x else kf w (oa w s n x).2
def eM (s:Sn) (n:Nat) (t:ByteArray):Sn:={s with last:=s.last.set n ⟨0,s.pid,s.ver,s.seqs.getD n 0,1,s.inn,t⟩,seqs:=s.seqs.set n (s.seqs.getD n 0+1)}
def gX (w:Wa) (a:Act) (again:Bool):Wa×An:=match (eR w.sns a.name).bind fun i=>w.sns[i]?.map fun s=>(i,s)with
 |none=>kf w 5
 |some (i,s)=>if again=true/\(s.last.getD a.part.toNat jP).kind=0 then kf w 15 else
  let s1:=if again then s else eM s a.part.toNat a.text
  let w1:={w with sns:=w.sns.set i s1}
  if a.lost=1 then kf w1 14 else((dE w1 s1 a.part.toNat).1,fP a (dE w1 s1 a.part.toNat).2)
def tB (s:Sn):Sn:={s with inn:=false,last:=s.last.map fun e=>if e.txn then jP else e}
def jK (w:Wa) (a:Act):Wa×An:=match (eR w.sns a.name).bind fun i=>w.sns[i]?.map fun s=>(i,s)with
 |none=>kf w 5
 |some (i,s)=>if s.inn=false then kf w 12 else if a.lost=1 then kf w 14 else
  if(jy w.co s.name s.ver (decide (a.n=1))).2=0 then({w with co:=(jy w.co s.name s.ver (decide (a.n=1))).1,sns:=if a.lost=0 then w.sns.set i (tB s)else w.sns},fP a ⟨0,0,[]⟩)else(w,fP a ⟨(jy w.co s.name s.ver (decide (a.n=1))).2,0,[]⟩)
def de (t:Tx):cr:=⟨0,t.pid,t.ver,0,if t.state=4 then 3 else 2,true,⟨#[]⟩⟩
def nw (w:Wa) (a:Act):Wa×An:=match ij w.co.txs a.n.toNat with
 |none=>kf w 15
 |some t=>if(lk w (t.parts.headD 0).toNat (de t)).2.code=0 then({(lk w (t.parts.headD 0).toNat (de t)).1 with co:=(oU w.co t.name (t.parts.headD 0)).1},(lk w (t.parts.headD 0).toNat (de t)).2)else lk w (t.parts.headD 0).toNat (de t)
def wV (w:Wa) (a:Act):Wa×An:=({w with co:=(ip w.co a.n).1,gr:=ql w.gr a.n w.ps.length},⟨0,(ip w.co a.n).1.clock,[]⟩)
def jj (p:f3) (a:Act):f3×Int×Int:=
 if a.kind=8 then gx p a.n.toNat else if a.kind=9 then((jq p a.n.toNat).1,0,(jq p a.n.toNat).2)else((fq p a.n.toNat).1,0,(fq p a.n.toNat).2)
def lY (w:Wa) (a:Act):Wa×An:=match w.ps[a.part.toNat]? with
 |none=>kf w 5
 |some p=>if(jj p a).2.2=0 then({w with ps:=w.ps.set a.part.toNat (jj p a).1},⟨0,(jj p a).2.1,[]⟩)else kf w (jj p a).2.2
inductive DG (p:f3) (a most:Nat):An->Prop
 |none:p.leader<0->DG p a most ⟨8,0,[]⟩
 |range (l:Nat) (r:RA):p.leader=l->p.reps[l]? =some r->r.es.length<a->DG p a most ⟨2,0,[]⟩
 |ok (l:Nat) (r:RA) (st:Nat) (out:List ByteArray) (b:Nat):p.leader=l->p.reps[l]? =some r->a<=r.es.length->rN (r.es.take r.high.toNat) st->xS r.es r.high.toNat st a most out b->DG p a most ⟨0,(b:Nat),out⟩
inductive rE (w:Wa) (a:Act):An->Prop
 |no:(ez w.gr a.name a.part).2≠0->rE w a ⟨(ez w.gr a.name a.part).2,0,[]⟩
 |yes (p:f3) (x:An):(ez w.gr a.name a.part).2=0->w.ps[a.part.toNat]? =some p->DG p (ez w.gr a.name a.part).1.toNat a.n.toNat x->rE w a x
def AL (w:Wa) (a:Act):Gr×Int:=if a.kind=16 then ro w.gr a.name w.ps.length else if a.kind=18 then xN w.gr a.name a.n else qm w.gr a.name a.n a.part a.m
def wn (w:Wa) (a:Act):Wa×An:=if(AL w a).2=0 then({w with gr:=(AL w a).1},⟨0,(AL w a).1.gen,[]⟩)else kf w (AL w a).2
theorem GW {l:List Sn} {s:ByteArray} {i:Nat} (h:eR l s=some i): ∃ x,l[i]? =some x/\x.name=s:=by
 obtain⟨hl,h1,-⟩:=aP.1 h
 exact⟨_,aj hl,by simpa using h1⟩
theorem Lv {l:List Sn} {s:ByteArray} {i:Nat} {x:Sn} (hx:l[i]? =some x) (hn:x.name=s) (hno: ∀ y∈l.take i,y.name≠s):eR l s=some i:=by
 unfold eR
 obtain⟨hl,rfl⟩:=cy hx
 rw[aP]
 refine⟨hl,by simpa using hn,fun j hj=> ?_⟩
 have:=hno l[j] (List.mem_take_iff_getElem.2 ⟨j,by omega,rfl⟩)
 simpa using this
theorem GX {l:List Sn} {s:ByteArray} (hno: ∀ y∈l,y.name≠s):eR l s=none:=by
 unfold eR
 rw[cL]
 intro x hx
 simpa using hno x hx
def Qo (g:Nat):Option Nat->Value
 |none=> .pointer none
 |some i=> .pointer (some ⟨g,i*Af.sz,none⟩)
theorem dS (e:Int) (w:World):dt aa yv [J e] w fun v w2=>v=.agg #[J e,J 0,.slice none 0 0]/\Below w.heap.size w w2:=by
 refine aG xx Z Z ?_
 have H:=Hp.start w
 refine W<|Zr<|fc H dn Z fun w1 b2 H=>U<|W<|Zr<|G (Yi Z)<|G (bC (cs:= #[J (e),J (0),.slice none 0 0]) iV dn N)<|bA H 0 (#[J (e),J (0),.slice none 0 0]) aL Z Z Z Z Z N N fun w2 H=>U<|Zt ?_
 exact eW (cs0:= #[J e,J 0,.slice none 0 0]) Z aK Z (H.ent (i:=0) Z) Z ⟨rfl,H.below⟩
theorem DV (a:Act) (c n:Int) (A:Option Addr) (l k:Nat) (w:World):dt aa vI [a.v,.agg #[J c,J n,.slice A l k]] w fun v w2=>v=(if a.lost=0 then .agg #[J c,J n,.slice A l k]else .agg #[J 14,J 0,.slice none 0 0])/\Below w.heap.size w w2:=by
 refine aG Bu Z Z ?_
 have H:=Hp.start w
 show CW _ _ _ _ (args [.agg #[J (a.kind),.string (a.name),J (a.part),J (a.n),J (a.m),.string (a.text),J (a.lost)],.agg #[J c,J n,.slice A l k]]) w
 refine W<|Zr<|gY H Z Z fun w1 b2 H=>gY H Z Z fun w2 b3 H=>fc H dn Z fun w3 b4 H=>U<|W<|W<|Zr<|G (Zf kG Z)<|G (Zd am H 2 Z Z Z) ?_
 refine rM (jk Z Z) Z Z Z (fun h7=> ?_) (fun h7=> ?_)
 refine U<|ZT Z<|W<|Zr<|cu bH (dS 14 _) Z Z ?_
 rintro _ w4 ⟨rfl,hb⟩;replace H:=H.later hb;clear hb
 refine bA H 0 (#[J (14),J (0),.slice none 0 0]) aL Z Z Z Z Z N N fun w5 H=>U<|Zt ?_
 exact eW (cs0:= #[J 14,J 0,.slice none 0 0]) Z aK Z (H.ent (i:=0) Z) Z ⟨(if_neg h7).symm,H.below⟩
 refine U<|ZF Z<|Zk<|W<|Zr<|G (Zw aK H 1 Z Z Z)<|bA H 0 (#[J (c),J (n),.slice A l k]) aL Z Z Z Z Z N N fun w6 H=>U<|Zt ?_
 exact eW (cs0:= #[J c,J n,.slice A l k]) Z aK Z (H.ent (i:=0) Z) Z ⟨(if_pos (by simpa using h7)).symm,H.below⟩
theorem oz (bb:Nat) (b:Bk) (n:Int) (w:World) (hb:w.heap[bb]? =some (.cells b.c.toArray bE (0,0))):dt aa ub [.pointer (Qd bb),J n] w fun v w2=>v=.bool (decide (0<=n/\n<(b.ps.length:Int)))/\Below w.heap.size w w2:=by
 refine aG tw Z Z ?_
 have H:=Hp.start w
 have hbl:=bV hb
 refine W<|Zr<|G (Wb Z)<|U<|W<|Zr<|G (Yi Z) ?_
 refine du (ku Z Z) Z Z Z (fun h6=> ?_) (fun h6=> ?_)
 refine G (Yb Z)<|ZG<|G (Yi Z)<|ZG<|G (Yp Z)<|ZG<|G (aH Z)<|ZG<|G (Zf aS Z)<|ZG<|G (Zf dL Z)<|ZG<|G (bi eA Z ((H.below.cell (p:=⟨bb,_,none⟩) hbl).trans (aJ (j:=0) hb Z)))<|ZG<|G (bh l8 Z)<|ZG ?_
 refine du (cO Z Z) Z Z Z (fun h15=> ?_) (fun h15=> ?_)
 refine G (Kt Z Z)<|G (Wb Z)<|U<|Zt ?_
 exact cn (v:=.bool true) Z Z ⟨by congr 1;simp only[Bool.true_eq,Bool.false_eq,decide_eq_true_eq,decide_eq_false_iff_not];omega,H.below⟩
 refine G (Kt Z Z)<|G (Wb Z)<|U<|Zt ?_
 exact cn (v:=.bool false) Z Z ⟨by congr 1;simp only[Bool.true_eq,Bool.false_eq,decide_eq_true_eq,decide_eq_false_iff_not];omega,H.below⟩
 refine G (Yb Z)<|ZN<|ZN<|ZN<|ZN<|ZN<|ZN<|ZN<|ZN<|G (N Z Z)<|G (Wb Z)<|U<|Zt ?_
 exact cn (v:=.bool false) Z Z ⟨by congr 1;simp only[Bool.true_eq,Bool.false_eq,decide_eq_true_eq,decide_eq_false_iff_not];omega,H.below⟩
theorem G0 (bb:Nat) (b:Bk) (s:ByteArray) (w:World) (hb:w.heap[bb]? =some (.cells b.c.toArray bE (0,0))) (h0:b.sns=[]):dt aa jI [.pointer (Qd bb),.string s] w fun v w2=>v=.pointer none/\Below w.heap.size w w2:=by
 refine aG me Z Z ?_
 have H:=Hp.start w
 have hbl:=bV hb
 have hl0:b.sns.length=0:=by rw[h0];rfl
 refine W<|Zr<|G (Wp Z)<|U<|W<|W<|Zr<|G (Yp Z)<|G (aH Z)<|G (Zf aS Z)<|G (Zf kB Z)<|G (bi ko Z ((H.below.cell (p:=⟨bb,_,none⟩) hbl).trans (aJ (j:=10) hb Z)))<|G (bh uw Z)<|G (Yi Z)<|U<|Zb ?_
 refine cf (τ:=Unit) [4,5,12,13,14,15,16,17,18,19,20,21,22,23,24,25,26,27,28,29,30,31,32,33] (fun _=>[(12,J 0)]) (fun _ w'=>Hp w w' [] []) (fun _=>0) () H (dR Z) ?_
 rintro _ ρ1 w1 H
 show CW _ _ _ _ (dK (ia _ _ ρ1) [(12,J 0)]) w1
 refine W<|Zr<|G (dp Z Z I)<|U<|W<|ZF Z<|Zx<|W<|Zr<|G (Wp Z)<|U<|Zt ?_
 exact cn (v:=.pointer none) Z Z ⟨rfl,H.below⟩
theorem Jw (bb:Nat) (b:Bk) (s:ByteArray) (g:Nat) (u:Array Value) (w:World) (hb:w.heap[bb]? =some (.cells b.c.toArray bE (0,0))) (hA:b.snA=some ⟨g,0,none⟩) (row:d7 Af b.sns b.snC u) (hg:w.heap[g]? =some (.cells u fK (0,0))) (hl:b.sns.length<=1000000):dt aa jI [.pointer (Qd bb),.string s] w fun v w2=>v=Qo g (eR b.sns s)/\Below w.heap.size w w2:=by
 refine aG me Z Z ?_
 have H:=Hp.start w
 have hbl:=bV hb
 have hgl:=bV hg
 obtain⟨ps,pA,pC,co,clo,chi,gr,glo,ghi,sns,snA,snC⟩:=b
 dsimp only at hA row hl
 subst hA
 replace hb:w.heap[bb]? =some (.cells #[.slice pA ps.length pC,J (co.clock),J (co.next),J (co.wait),.slice co.A co.txs.length co.cap,J (gr.clock),J (gr.wait),J (gr.gen),.slice gr.mA gr.ms.length gr.mC,.slice gr.oA gr.os.length gr.oC,.slice (Qd g) sns.length snC] bE (0,0)):=hb
 refine W<|Zr<|G (Wp Z)<|U<|W<|W<|Zr<|G (Yp Z)<|G (aH Z)<|G (Zf aS Z)<|G (Zf kB Z)<|G (bi ko Z ((H.below.cell (p:=⟨bb,_,none⟩) hbl).trans (aJ (j:=10) hb Z)))<|G (bh uw Z)<|G (Yi Z)<|U<|Zb ?_
 refine cf (τ:=Nat) [4,5,12,13,14,15,16,17,18,19,20,21,22,23,24,25,26,27,28,29,30,31,32,33] (fun i=>[(12,J (i:Nat))]) (fun i w'=>i<=sns.length/\(∀ y∈sns.take i,y.name≠s)/\Hp w w' [] []) (fun i=>sns.length-i) 0 ⟨by omega,by simp,H⟩ (dR Z) ?_
 rintro i ρ1 w1 ⟨hi,hno,H⟩
 show CW _ _ _ _ (dK (ia _ _ ρ1) [(12,J (i:Nat))]) w1
 refine W<|Zr ?_
 refine du (cO Z Z) Z Z Z (fun h13=> ?_) (fun h13=> ?_)
 refine U<|W<|ZT Z<|Zk<|W<|Zb<|W ?_
 obtain⟨x,hx⟩: ∃ x,sns[i]? =some x:=⟨_,aj I⟩
 refine Zr<|G (Yi Z)<|G (Wi Z)<|U<|W<|Zr<|G (Yp Z)<|G (aH Z)<|G (Zf aS Z)<|G (Zf kB Z)<|G (bi ko Z ((H.below.cell (p:=⟨bb,_,none⟩) hbl).trans (aJ (j:=10) hb Z)))<|G (Yi Z)<|G (cR s8 Z Z I)<|G (Zf oQ Z)<|G (bU ba row hx 0 Z ((H.below.block _ hgl).trans hg) Z)<|G (Yt Z) ?_
 refine du (wg Z Z) Z Z Z (fun h25=> ?_) (fun h25=> ?_)
 refine U<|ZT Z<|W<|Zr<|G (Yp Z)<|G (aH Z)<|G (Zf aS Z)<|G (Zf kB Z)<|G (bi ko Z ((H.below.cell (p:=⟨bb,_,none⟩) hbl).trans (aJ (j:=10) hb Z)))<|G (Yi Z)<|G (cR s8 Z Z I)<|G (Wp Z)<|U<|Zt ?_
 exact cn (v:=.pointer (some ⟨g,i*Af.sz,none⟩)) Z Z ⟨by dsimp only;rw[Lv hx h25 hno];rfl,H.below⟩
 refine U<|ZF Z<|Zk<|Zr<|G (bp Z Z I I)<|G (Yi Z)<|U ?_
 refine⟨i+1,⟨by omega,fun y hy=> ?_,H⟩,dR Z,Qg,by show sns.length- (i+1)<sns.length-i;omega⟩
 rw[d6 hx]at hy
 rcases ap.1 hy with hy|hy
 exact hno y hy
 rw[ar.1 hy];exact h25
 refine U<|W<|ZF Z<|Zx<|W<|Zr<|G (Wp Z)<|U<|Zt ?_
 obtain rfl:i=sns.length:=by omega
 rw[bJ]at hno
 exact cn (v:=.pointer none) Z Z ⟨by dsimp only;rw[GX hno];rfl,H.below⟩
def QH:Option Addr->Nat
 |some A=>A.block
 |none=>0
theorem jF (bb:Nat) (b:Bk) (s:ByteArray) (Ls:List (Nat×Obj)) (w:World) (hb:w.heap[bb]? =some (.cells b.c.toArray bE (0,0))) (hsn:gG Af (.slice b.snA b.sns.length b.snC) fK b.sns Ls) (hLs: ∀ q∈Ls,w.heap[q.1]? =some q.2) (hl:b.sns.length<=1000000):dt aa jI [.pointer (Qd bb),.string s] w fun v w2=>v=Qo (QH b.snA) (eR b.sns s)/\Below w.heap.size w w2:=by
 by_cases h0:b.sns=[]
 refine(G0 bb b s w hb h0).mono fun v w2 ⟨h1,h2⟩=>⟨?_,h2⟩
 rw[h1,h0];rfl
 obtain⟨g,u,hA,hL,row⟩:=hsn.row (List.length_pos_iff.2 h0)
 subst hL
 refine(Jw bb b s g u w hb hA row (hLs _ (ar.2 Z)) hl).mono fun v w2 ⟨h1,h2⟩=>⟨?_,h2⟩
 rw[h1,hA];rfl
theorem Dq (X:List (Nat×Obj)) (a b:Nat×Obj) (La Lb K:List (Nat×Obj)):(X++(a::b::(La++(Lb++K)))).Perm (X++((La++(a::b::Lb))++K)):=by
 refine List.Perm.append_left _ ?_
 rw[show(La++(a::b::Lb))++K=La++([a,b]++(Lb++K)) by simp]
 exact gj [a,b] La (Lb++K)
theorem Bw.close {w0 w':World} {bb gP gS gq gl pC snC clo chi glo ghi i:Nat} {uP uS uq ul:Array Value} {La Lb K X:List (Nat×Obj)} {F0 F':List ce} {ps:List Pq} {co:Co} {gr:Gr} {sns:List Sn} {s:Sn} {C:Array Value} (row:d7 Fr ps pC uP) (rowS:d7 Af (sns.set i s) snC uS) (hset: ∀ (s':Sn) (gq':Nat) (uq':Array Value) (gl':Nat) (ul':Array Value),s'.sA=some ⟨gq',0,none⟩->s'.lA=some ⟨gl',0,none⟩->d7 bS s'.seqs s'.sC uq'->d7 hJ s'.last s'.lC ul'->qL (sns.set i s') (La++((gq',.cells uq' dg (0,0))::(gl',.cells ul' dA (0,0))::Lb)))
  (hsA:s.sA=some ⟨gq,0,none⟩) (hlA:s.lA=some ⟨gl,0,none⟩) (rowq:d7 bS s.seqs s.sC uq) (rowl:d7 hJ s.last s.lC ul) (hco:xT w0 clo chi co∈F') (hgr:KJ w0 glo ghi gr∈F') (hps: ∀ q∈ps,wM w0 q.lo q.hi q.p∈F') (hF: ∀ f∈F0,f∈F')
  (H:Hp w0 w' (X++((bb,.cells C bE (0,0))::(gP,.cells uP bI (0,0))::(gS,.cells uS fK (0,0))::(gq,.cells uq dg (0,0))::(gl,.cells ul dA (0,0))::(La++(Lb++K)))) F') (hC:C=(Bk.mk ps (Qd gP) pC co clo chi gr glo ghi (sns.set i s) (Qd gS) snC).c.toArray):xU w0 w' bb ⟨ps,some ⟨gP,0,none⟩,pC,co,clo,chi,gr,glo,ghi,sns.set i s,some ⟨gS,0,none⟩,snC⟩ K F0:=by
 subst hC
 refine⟨gP,uP,_,_,F',⟨rfl,row,d7.own rowS,hset s gq uq gl ul hsA hlA rowq rowl,hco,hgr,hps,?_⟩,hF⟩
 have H1:=H.forget (bZ X _) (fun _ h=>h)
 exact H1.perm (Dq [(bb,_),(gP,_),(gS,_)] _ _ La Lb K).symm
theorem zN (l:List Sn) (s:ByteArray):eR (l.map Sn.a) s=eR l s:=by
 unfold eR
 rw[DK]
 rfl
theorem wW {l:List Sn} {s:ByteArray} {i:Nat} {x:Sn} (hix:eR l s=some i) (hx:l[i]? =some x):((eR (l.map Sn.a) s).bind fun i=>(l.map Sn.a)[i]?.map fun s=>(i,s))=some (i,x.a):=by
 rw[zN,hix]
 simp[hx]
theorem D0 {l:List Sn} {s:ByteArray} (hix:eR l s=none):((eR (l.map Sn.a) s).bind fun i=>(l.map Sn.a)[i]?.map fun s=>(i,s))=none:=by
 rw[zN,hix]
 rfl
theorem Bw.shut {w0 w':World} {bb gP pC snC clo chi glo ghi:Nat} {uP:Array Value} {Ls Lo K X:List (Nat×Obj)} {F0 F':List ce} {ps:List Pq} {co:Co} {gr:Gr} {sns:List Sn} {snA:Option Addr} {C:Array Value} (row:d7 Fr ps pC uP) (hsn:gG Af (.slice snA sns.length snC) fK sns Ls) (hown:qL sns Lo) (hco:xT w0 clo chi co∈F') (hgr:KJ w0 glo ghi gr∈F') (hps: ∀ q∈ps,wM w0 q.lo q.hi q.p∈F') (hF: ∀ f∈F0,f∈F')
  (H:Hp w0 w' (X++((bb,.cells C bE (0,0))::(gP,.cells uP bI (0,0))::(Ls++(Lo++K)))) F') (hC:C=(Bk.mk ps (Qd gP) pC co clo chi gr glo ghi sns snA snC).c.toArray):xU w0 w' bb ⟨ps,some ⟨gP,0,none⟩,pC,co,clo,chi,gr,glo,ghi,sns,snA,snC⟩ K F0:=by
 subst hC
 exact⟨gP,uP,_,_,F',⟨rfl,row,hsn,hown,hco,hgr,hps,H.forget (bZ X _) (fun _ h=>h)⟩,hF⟩
theorem xL {b:Bk} {a:Act} {i:Nat} {x:Sn} (hix:eR b.sns a.name=some i) (hx:b.sns[i]? =some x) (h:x.inn=true):kL b.a a=(b.a,⟨6,0,[]⟩):=by
 unfold kL
 rw[show b.a.sns=b.sns.map Sn.a from rfl,wW hix hx]
 dsimp only
 rw[if_pos (show x.a.inn=true from h)]
 rfl
theorem DA {b:Bk} {a:Act} {i:Nat} {x:Sn} (hix:eR b.sns a.name=some i) (hx:b.sns[i]? =some x) (h:x.inn=false):kL b.a a=({b.a with sns:=(b.sns.set i {x with inn:=true}).map Sn.a},⟨0,0,[]⟩):=by
 unfold kL
 rw[show b.a.sns=b.sns.map Sn.a from rfl,wW hix hx]
 dsimp only
 rw[if_neg (show¬ x.a.inn=true by show¬ x.inn=true;rw[h];decide),cU]
 rfl
theorem zh {b:Bk} {a:Act} (hix:eR b.sns a.name=none):kL b.a a=(b.a,⟨5,0,[]⟩):=by
 unfold kL
 rw[show b.a.sns=b.sns.map Sn.a from rfl,D0 hix]
 rfl
theorem fh {α:Type} {l:List α} {k:Nat} {a:α} (h:l[k]? =some a):l.set k a=l:=by
 apply dZ
 intro j
 rw[lI]
 split
 rename_i hj
 subst hj
 split
 exact h.symm
 rename_i hl
 rw[bX I]at h;cases h
 rfl
theorem HX {w0 w:World} {bb:Nat} {b:Bk} {gP:Nat} {uP:Array Value} {Ls Lo K:List (Nat×Obj)} {F:List ce} (a:Act) (B:Bw w0 w bb b gP uP Ls Lo K F) (hsl:b.sns.length<=1000000) (hix:eR b.sns a.name=none):dt aa j4 [.pointer (Qd bb),a.v] w fun v w2=> ∃ b':Bk,pn (kL b.a a).2 v w2/\b'.a=(kL b.a a).1/\xU w0 w2 bb b' K F:=by
 refine aG mW Z Z ?_
 obtain⟨ps,pA,pC,co,clo,chi,gr,glo,ghi,sns,snA,snC⟩:=b
 obtain⟨hpA,row,hsn,hown,hco,hgr,hps,H⟩:=B
 dsimp only at hpA row hsn hown hco hgr hps
 subst hpA
 replace H:Hp w0 w ((bb,.cells #[.slice (Qd gP) ps.length pC,J (co.clock),J (co.next),J (co.wait),.slice co.A co.txs.length co.cap,J (gr.clock),J (gr.wait),J (gr.gen),.slice gr.mA gr.ms.length gr.mC,.slice gr.oA gr.os.length gr.oC,.slice snA sns.length snC] bE (0,0))::(gP,.cells uP bI (0,0))::(Ls++(Lo++K))) F:=H
 dsimp only at hix hsl
 show CW _ _ _ _ (args [.pointer (Qd bb),.agg #[J (a.kind),.string (a.name),J (a.part),J (a.n),J (a.m),.string (a.text),J (a.lost)]]) w
 refine W<|Zr<|gY H Z Z fun w1 b3 H=>fc H dn Z fun w2 b4 H=>U<|W<|Zr<|G (Yp Z)<|G (Zf fu Z)<|G (Zd ba H 1 Z Z Z)<|cu dF (jF bb ⟨ps,some ⟨gP,0,none⟩,pC,co,clo,chi,gr,glo,ghi,sns,snA,snC⟩ (a.name) Ls _ (H.ent (i:=2) Z) hsn (fun q hq=>(H.ents q (by simp only[av,ap];grind)).1) hsl) Z Z ?_
 rintro _ w3 ⟨rfl,hb⟩;replace H:=H.later hb;clear hb
 rw[hix]
 refine G (Wp Z)<|U<|W<|Zb<|W<|Zr<|G (Yp Z)<|G (yg i6 Z)<|G (Wb Z)<|U<|ZT Z<|W<|Zr<|cu bH (dS 5 _) Z Z ?_
 rintro _ w4 ⟨rfl,hb⟩;replace H:=H.later hb;clear hb
 refine bA H 0 (#[J (5),J (0),.slice none 0 0]) aL Z Z Z Z Z N N fun w5 H=>U<|Zt ?_
 exact eW (cs0:= #[J (5),J (0),.slice none 0 0]) Z aK Z (H.ent (i:=0) Z) Z ⟨⟨ps,some ⟨gP,0,none⟩,pC,co,clo,chi,gr,glo,ghi,sns,snA,snC⟩,by rw[zh hix];exact pn.plain _ _ _,by rw[zh hix],Bw.shut (X:=[(b4,_),(b3,_)]) row hsn hown hco hgr hps (fun _ h=>h) H Z⟩
theorem HW {w0 w:World} {bb:Nat} {b:Bk} {gP:Nat} {uP:Array Value} {Ls Lo K:List (Nat×Obj)} {F:List ce} (a:Act) (B:Bw w0 w bb b gP uP Ls Lo K F) (hsl:b.sns.length<=1000000) {i:Nat} {x:Sn} (hix:eR b.sns a.name=some i) (hx:b.sns[i]? =some x):dt aa j4 [.pointer (Qd bb),a.v] w fun v w2=> ∃ b':Bk,pn (kL b.a a).2 v w2/\b'.a=(kL b.a a).1/\xU w0 w2 bb b' K F:=by
 refine aG mW Z Z ?_
 obtain⟨ps,pA,pC,co,clo,chi,gr,glo,ghi,sns,snA,snC⟩:=b
 obtain⟨hpA,row,hsn,hown,hco,hgr,hps,H⟩:=B
 dsimp only at hpA row hsn hown hco hgr hps
 subst hpA
 dsimp only at hix hx
 obtain⟨gS,uS,hgS,hLs,rowS⟩:=hsn.row (by have:=(cy hx).1;omega)
 subst hgS;subst hLs
 obtain⟨gq,uq,gl,ul,La,Lb,hsA,hlA,rowq,rowl,hLo,hset⟩:=hown.at_ hx
 subst hLo
 replace H:Hp w0 w ((bb,.cells #[.slice (Qd gP) ps.length pC,J (co.clock),J (co.next),J (co.wait),.slice co.A co.txs.length co.cap,J (gr.clock),J (gr.wait),J (gr.gen),.slice gr.mA gr.ms.length gr.mC,.slice gr.oA gr.os.length gr.oC,.slice (Qd gS) sns.length snC] bE (0,0))::(gP,.cells uP bI (0,0))::(gS,.cells uS fK (0,0))::(gq,.cells uq dg (0,0))::(gl,.cells ul dA (0,0))::(La++(Lb++K))) F:=H.perm (Dq [(bb,_),(gP,_),(gS,_)] _ _ La Lb K)
 dsimp only at hsl
 show CW _ _ _ _ (args [.pointer (Qd bb),.agg #[J (a.kind),.string (a.name),J (a.part),J (a.n),J (a.m),.string (a.text),J (a.lost)]]) w
 refine W<|Zr<|gY H Z Z fun w1 b3 H=>fc H dn Z fun w2 b4 H=>U<|W<|Zr<|G (Yp Z)<|G (Zf fu Z)<|G (Zd ba H 1 Z Z Z)<|cu dF (jF bb ⟨ps,some ⟨gP,0,none⟩,pC,co,clo,chi,gr,glo,ghi,sns,some ⟨gS,0,none⟩,snC⟩ (a.name) _ _ (H.ent (i:=2) Z) (d7.own rowS) (fun q hq=>by rw[ar.1 hq];exact(H.ent (i:=4) Z)) hsl) Z Z ?_
 rintro _ w3 ⟨rfl,hb⟩;replace H:=H.later hb;clear hb
 rw[hix]
 refine G (Wp Z)<|U<|W<|Zb<|W<|Zr<|G (Yp Z)<|G (wk i6 Z)<|G (Wb Z)<|U<|ZF Z<|W<|Zr<|G (Yp Z)<|G (aH Z)<|G (Zf oP Z) ?_
 refine zS (bU eS rowS hx 3 Z (H.ent (i:=4) Z) Z) Z Z Z (fun h18=> ?_) (fun h18=> ?_)
 refine G (Wb Z)<|U<|ZT Z<|W<|Zr<|cu bH (dS 6 _) Z Z ?_
 rintro _ w4 ⟨rfl,hb⟩;replace H:=H.later hb;clear hb
 refine bA H 0 (#[J (6),J (0),.slice none 0 0]) aL Z Z Z Z Z N N fun w5 H=>U<|Zt ?_
 exact eW (cs0:= #[J (6),J (0),.slice none 0 0]) Z aK Z (H.ent (i:=0) Z) Z ⟨⟨ps,some ⟨gP,0,none⟩,pC,co,clo,chi,gr,glo,ghi,sns.set i x,some ⟨gS,0,none⟩,snC⟩,by rw[xL hix hx h18];exact pn.plain _ _ _,by rw[xL hix hx h18,fh hx],Bw.close (X:=[(b4,_),(b3,_)]) row (by rw[fh hx];exact rowS) hset hsA hlA rowq rowl hco hgr hps (fun _ h=>h) H (by rw[fh hx];rfl)⟩
 refine G (Wb Z)<|U<|ZF Z<|Zk<|W<|Zr<|G (Yp Z)<|G (aH Z)<|G (Zf oP Z)<|ni H 4 ({x with inn:=true}) mL rowS hx 3 Z Z Z Z Z Z N fun w7 cur6 row6 H=> ?_
 have hs8:(sns.set i ({x with inn:=true}))[i]? =some ({x with inn:=true}):=al (cy hx).1
 refine U<|W<|Zr<|G (bC (cs:= #[J (0),J (0),.slice none 0 0]) iV dn N)<|bA H 0 (#[J (0),J (0),.slice none 0 0]) aL Z Z Z Z Z N N fun w9 H=>U<|Zt ?_
 exact eW (cs0:= #[J (0),J (0),.slice none 0 0]) Z aK Z (H.ent (i:=0) Z) Z ⟨⟨ps,some ⟨gP,0,none⟩,pC,co,clo,chi,gr,glo,ghi,sns.set i {x with inn:=true},some ⟨gS,0,none⟩,snC⟩,by rw[DA hix hx h18];exact pn.plain _ _ _,by rw[DA hix hx h18];rfl,Bw.close (X:=[(b4,_),(b3,_)]) row row6 hset hsA hlA rowq rowl hco hgr hps (fun _ h=>h) H (by simp only[Bk.c,ae])⟩
def Ny:Nw Co:=⟨fun c=>c.rd,fun _ _ _ _ _ hk h=>h.st hk,fun _ _ _ _ _ _ h h1 h2=>h.mono h1 h2⟩
def eH:Nat->ByteArray
 |0=>⟨#[97,110,110]⟩
 |1=>⟨#[98,111,98]⟩
 |_=>⟨#[99,121]⟩
theorem N8:bu ⟨#[97,110,110]⟩=true:=by kernel_rfl
theorem N7:bu ⟨#[98,111,98]⟩=true:=by kernel_rfl
theorem N6:bu ⟨#[99,121]⟩=true:=by kernel_rfl
theorem AC: ∀ m:Nat,bu (eH m)=true
 |0=>N8
 |1=>N7
 |_+2=>N6
def wR (P:ByteArray->Prop) (wt:Int) (c:Co):Prop:=c.wait=wt/\ ∀ t∈c.txs,P t.name
theorem wR.set {P:ByteArray->Prop} {wt:Int} {c:Co} {i:Nat} {t t':Tx} (h:wR P wt c) (hi:c.txs[i]? =some t) (hn:t'.name=t.name):wR P wt (qn c i t'):=⟨h.1,fun x hx=>by
 rcases Ee hx with hx|rfl
 exact h.2 x hx
 rw[hn];exact h.2 t (ab hi)⟩
theorem wR.init {P:ByteArray->Prop} {wt:Int} {c:Co} {s:ByteArray} (h:wR P wt c) (hs:P s) (he:(bw c s).2.2.2=0):wR P wt (bw c s).1:=by
 unfold bw at he⊢
 split
 rename_i hf
 rw[hf]at he
 dsimp only at he
 split at he
 cases he
 rename_i hl
 rw[if_neg hl]
 refine⟨h.1,fun t ht=> ?_⟩
 rcases ap.1 ht with ht|ht
 exact h.2 t ht
 rw[ar.1 ht];exact hs
 rename_i i t hf
 rw[hf]at he
 dsimp only at he
 split at he
 cases he
 rename_i hl
 rw[if_neg hl]
 exact h.set (gw hf).2.1 (by unfold jf;split<;>rfl)
theorem wR.add {P:ByteArray->Prop} {wt:Int} {c:Co} {s:ByteArray} {ver p:Int} (h:wR P wt c) (he:(na c s ver p).2=0):wR P wt (na c s ver p).1:=by
 unfold na at he⊢
 split
 rename_i hf;rw[hf]at he;cases he
 rename_i i t hf
 rw[hf]at he
 dsimp only at he
 split at he
 cases he
 rename_i hv
 rw[if_neg hv]
 split at he
 rename_i h1
 rw[if_pos h1]
 exact h.set (gw hf).2.1 (by unfold iR;split<;>rfl)
 cases he
theorem HP {w:Int} {t t':Tx} (h:eJ w t=some t'):t'.name=t.name:=by
 unfold eJ at h
 split at h
 injection h with h;subst h;rfl
 split at h
 injection h with h;subst h;rfl
 split at h
 injection h with h;subst h;rfl
 cases h
theorem wR.end_ {P:ByteArray->Prop} {wt:Int} {c:Co} {s:ByteArray} {ver:Int} {b:Bool} (h:wR P wt c) (he:(jy c s ver b).2=0):wR P wt (jy c s ver b).1:=by
 unfold jy at he⊢
 split
 rename_i hf;rw[hf]at he;cases he
 rename_i i t hf
 rw[hf]at he
 dsimp only at he
 split at he
 cases he
 rename_i hv
 rw[if_neg hv]
 split at he
 cases he
 rename_i t' hx
 exact h.set (gw hf).2.1 (HP hx)
theorem wR.done {P:ByteArray->Prop} {wt:Int} {c:Co} {s:ByteArray} {p:Int} (h:wR P wt c) (he:(oU c s p).2=0):wR P wt (oU c s p).1:=by
 unfold oU at he⊢
 split
 rename_i hf;rw[hf]at he;cases he
 rename_i i t hf
 rw[hf]at he
 dsimp only at he
 split at he
 rename_i h1
 rw[if_pos h1]
 split at he
 rename_i h2
 rw[if_pos h2]
 exact h.set (gw hf).2.1 (by unfold gO;split<;>rfl)
 cases he
 cases he
theorem wR.tick {P:ByteArray->Prop} {wt:Int} {c:Co} {n:Int} (h:wR P wt c) (he:(ip c n).2=0):wR P wt (ip c n).1:=by
 unfold ip at he⊢
 split at he
 cases he
 rename_i h1
 rw[if_neg h1]
 refine⟨h.1,fun t ht=> ?_⟩
 obtain⟨x,hx,rfl⟩:=bD.1 (show t∈c.txs.map _ from ht)
 have:(fy (c.clock+n) c.wait x).name=x.name:=by unfold fy;split<;>rfl
 rw[this];exact h.2 x hx
theorem wR.a {P:ByteArray->Prop} {wt:Int} {c:Co} (h:wR P wt c):wR P wt c.a:=⟨h.1,fun t ht=>by
 obtain⟨x,hx,rfl⟩:=bD.1 (show t∈c.txs.map Tx.a from ht)
 exact h.2 x hx⟩
theorem wR.of_a {P:ByteArray->Prop} {wt:Int} {c:Co} (h:wR P wt c.a):wR P wt c:=⟨h.1,fun t ht=>h.2 t.a (bF (f:=Tx.a) ht)⟩
def OT (s:ByteArray):Prop:= ∃ m,s=eH m
def Rk (k:Nat) (c:Co):Prop:=pi k c/\wR OT 10 c
theorem Rk.next {k:Nat} {r:Co×Int} {c':Co} (h1:r.2=0->pi (k+1) r.1) (h2:r.2=0->wR OT 10 r.1) (ha:c'.a=r.1):r.2=0->Rk (k+1) c':=fun h=>⟨pi.of_a (ha▸h1 h),wR.of_a (ha▸h2 h)⟩
theorem Iz {w:Wa} {n:Nat} {x:cr} {p:f3} (h:w.ps[n]? =some p):lk w n x=if(eu p x).2.2=0 then({w with ps:=w.ps.set n (eu p x).1},⟨0,(eu p x).2.1,[]⟩)else kf w (eu p x).2.2:=by
 unfold lk
 rw[h]
theorem AG {ps:List Pq} {n:Nat} {q y:Pq} (h:y∈ps.set n q):y∈ps∨y=q:=aA h
theorem BF {w0 w:World} {bb gP gS gq gl pC snC clo chi k i n:Nat} {uP uS uq ul:Array Value} {R:List (Nat×Obj)} {F:List ce} {ps:List Pq} {co:Co} {gr:Gr} {sns:List Sn} {x:Sn} (H:Hp w0 w ((bb,.cells #[.slice (Qd gP) ps.length pC,J (co.clock),J (co.next),J (co.wait),.slice co.A co.txs.length co.cap,J (gr.clock),J (gr.wait),J (gr.gen),.slice gr.mA gr.ms.length gr.mC,.slice gr.oA gr.os.length gr.oC,.slice (Qd gS) sns.length snC] bE (0,0))::(gP,.cells uP bI (0,0))::(gS,.cells uS fK (0,0))::(gq,.cells uq dg (0,0))::(gl,.cells ul dA (0,0))::R) F) (row:d7 Fr ps pC uP) (rowS:d7 Af sns snC uS) (rowl:d7 hJ x.last x.lC ul) (hx:sns[i]? =some x) (hlA:x.lA=some ⟨gl,0,none⟩) (hco:xT w0 clo chi co∈F) (hps: ∀ q∈ps,wM w0 q.lo q.hi q.p∈F) (hn:n<x.last.length) (hnp:n<ps.length) (hn4:n<4) (hnm:bu x.name=true) (hcb:pi k co) (hpk: ∀ q∈ps,q.p.a.ok/\ ∀ (l:Nat) (y:gm),q.p.leader=l->q.p.reps[l]? =some y->y.es.length<400):dt aa sP [.pointer (Qd bb),.pointer (some ⟨gS,i*Af.sz,none⟩),J (n:Nat)] w fun v w2=> ∃ (ps':List Pq) (uP':Array Value) (co':Co) (clo' chi':Nat) (F':List ce),pn (dE (Wa.mk (ps.map fun q=>q.p.a) co.a gr.a (sns.map Sn.a)) x.a n).2 v w2/\(dE (Wa.mk (ps.map fun q=>q.p.a) co.a gr.a (sns.map Sn.a)) x.a n).1=Wa.mk (ps'.map fun q=>q.p.a) co'.a gr.a (sns.map Sn.a)/\d7 Fr ps' pC uP'/\ps'.length=ps.length/\xT w0 clo' chi' co'∈F'/\(∀ q∈ps',wM w0 q.lo q.hi q.p∈F')/\(∀ f∈F,f∈F')/\Hp w0 w2 ((bb,.cells #[.slice (Qd gP) ps'.length pC,J (co'.clock),J (co'.next),J (co'.wait),.slice co'.A co'.txs.length co'.cap,J (gr.clock),J (gr.wait),J (gr.gen),.slice gr.mA gr.ms.length gr.mC,.slice gr.oA gr.os.length gr.oC,.slice (Qd gS) sns.length snC] bE (0,0))::(gP,.cells uP' bI (0,0))::(gS,.cells uS fK (0,0))::(gq,.cells uq dg (0,0))::(gl,.cells ul dA (0,0))::R) F':=by
 refine aG sd Z Z ?_
 obtain⟨e,he⟩: ∃ e,x.last[n]? =some e:=⟨_,aj hn⟩
 have hl5:(Af.f x)[5]? =some (.slice (some ⟨gl,0,none⟩) x.last.length x.lC):=by rw[<-hlA];rfl
 obtain⟨q,hq⟩: ∃ q,ps[n]? =some q:=⟨_,aj hnp⟩
 have hqm:=ab hq
 have hpC:=row.le
 have hD:dE (Wa.mk (ps.map fun q=>q.p.a) co.a gr.a (sns.map Sn.a)) x.a n=if(oa (Wa.mk (ps.map fun q=>q.p.a) co.a gr.a (sns.map Sn.a)) x.a n e).2=0 then lk (Wa.mk (ps.map fun q=>q.p.a) (oa (Wa.mk (ps.map fun q=>q.p.a) co.a gr.a (sns.map Sn.a)) x.a n e).1 gr.a (sns.map Sn.a)) n e else kf (Wa.mk (ps.map fun q=>q.p.a) co.a gr.a (sns.map Sn.a)) (oa (Wa.mk (ps.map fun q=>q.p.a) co.a gr.a (sns.map Sn.a)) x.a n e).2:=by unfold dE;rw[show x.a.last[n]? =some e from he]
 rw[hD]
 have hP:=Iz (w:=Wa.mk (ps.map fun q=>q.p.a) (oa (Wa.mk (ps.map fun q=>q.p.a) co.a gr.a (sns.map Sn.a)) x.a n e).1 gr.a (sns.map Sn.a)) (n:=n) (x:=e) (p:=q.p.a) (by rw[aI,hq];rfl)
 refine W<|Zr<|fc H dn Z fun w1 b6 H=>U<|W<|Zr<|G (Yp Z)<|G (aH Z)<|G (Zf mh Z)<|G (bU nG rowS hx 5 Z (H.ent (i:=3) Z) hl5)<|G (Yi Z)<|G (cR dW Z Z (by first|omega|(simp only[ae];omega)))<|G (pq dJ rowl he Z Z (H.ent (i:=5) Z))<|fc H gB Z fun w2 b7 H=>bA H 0 (#[J (e.epoch),J (e.pid),J (e.ver),J (e.seq),J (e.kind),.bool (e.txn),.string (e.text)]) fa Z Z Z Z Z N N fun w3 H=>U<|W<|W<|Zr<|G (Zf jh Z)<|G (Zd eS H 0 Z Z Z)<|U ?_
 refine ft (τ:=Co×Nat×Nat×List ce) [8,9,22,23,24,25,26,27,28,29,30,31,32,33,34,35,36,37,38,39,40,41,42,43,44,45,46] (fun _=>[]) (fun(c2,l2,h2,F2) w'=>c2.a=(oa (Wa.mk (ps.map fun q=>q.p.a) co.a gr.a (sns.map Sn.a)) x.a n e).1/\(oa (Wa.mk (ps.map fun q=>q.p.a) co.a gr.a (sns.map Sn.a)) x.a n e).2=0/\xT w0 l2 h2 c2∈F2/\(∀ f∈F,f∈F2)/\Hp w0 w' ((b7,.cells #[J (e.epoch),J (e.pid),J (e.ver),J (e.seq),J (e.kind),.bool (e.txn),.string (e.text)] dA (0,0))::(b6,.cells #[J (0),J (0),.slice none 0 0] eh (0,0))::(bb,.cells #[.slice (Qd gP) ps.length pC,J (c2.clock),J (c2.next),J (c2.wait),.slice c2.A c2.txs.length c2.cap,J (gr.clock),J (gr.wait),J (gr.gen),.slice gr.mA gr.ms.length gr.mC,.slice gr.oA gr.os.length gr.oC,.slice (Qd gS) sns.length snC] bE (0,0))::(gP,.cells uP bI (0,0))::(gS,.cells uS fK (0,0))::(gq,.cells uq dg (0,0))::(gl,.cells ul dA (0,0))::R) F2) ?_ ?_
 refine kI Z (fun hc21=> ?_) (fun hc21=> ?_)
 refine W ?_
 refine ft (τ:=Co×Nat×Nat×Nat) [8,9,22,23,24,25,26,27,28,29,30,31,32,33,34,35,36,37] (fun(_,b8,_,_)=>[(8,.pointer (Qd b8)),(9,J (na co.a x.name e.ver n).2)]) (fun(c3,b8,lo,hi) w'=>c3.a=(na co.a x.name e.ver n).1/\Hp w0 w' ((b8,.cells #[J (c3.clock),J (c3.next),J (c3.wait),.slice c3.A c3.txs.length c3.cap] aX (0,0))::(b7,.cells #[J (e.epoch),J (e.pid),J (e.ver),J (e.seq),J (e.kind),.bool (e.txn),.string (e.text)] dA (0,0))::(b6,.cells #[J (0),J (0),.slice none 0 0] eh (0,0))::(bb,.cells #[.slice (Qd gP) ps.length pC,J (co.clock),J (co.next),J (co.wait),.slice co.A co.txs.length co.cap,J (gr.clock),J (gr.wait),J (gr.gen),.slice gr.mA gr.ms.length gr.mC,.slice gr.oA gr.os.length gr.oC,.slice (Qd gS) sns.length snC] bE (0,0))::(gP,.cells uP bI (0,0))::(gS,.cells uS fK (0,0))::(gq,.cells uq dg (0,0))::(gl,.cells ul dA (0,0))::R) (xT w0 lo hi c3::F)) ?_ ?_
 refine oV cD 16 12 [12,13,14,15,17,18] [16] [0,1,2,3,5,6,7,9,11] [16,17,18] [12] [0,1,2,3,5,6,7,9,11,13,14,15] (sp [(16,Sp.blk w3.heap.size (.agg #[J 0,J 0,J 0,.slice none 0 0]) aX)]) (sp [(12,Sp.deep w3.heap.size Ny (fun c:Co=>c.c.toArray) (fun cs=> .tuple #[.agg cs,J (na co.a x.name e.ver n).2]) (fun cq:Co=>cq.a=(na co.a x.name e.ver n).1))]) N N N N (cQ _) (cQ _) ?_ ?_
 refine jN [0,1,2,3,4,5,6,7,8,9,10,11,16] [12,13,14,15,17,18] [16] [0,1,2,3,5,6,7,9,11] 5 (sp [(16,Sp.blk w3.heap.size (.agg #[J 0,J 0,J 0,.slice none 0 0]) aX)]) N N N Nq<|aw Z Z Z Z Z (fun w' hw'=>Yp Z)<|aw Z Z Z Z Z (fun w' hw'=>aH Z)<|aw Z Z Z Z Z (fun w' hw'=>Zf aS Z)<|aw Z Z Z Z Z (fun w' hw'=>Zf eO Z)<|aw Z Z Z Z Z (fun w' hw'=>j9 1 [J (co.clock),J (co.next),J (co.wait),.slice co.A co.txs.length co.cap] ax Z Z ((H.later hw').ent (i:=2) Z) Z)<|aw Z Z Z Z Z (fun w' hw'=>Yp Z)<|aw Z Z Z Z Z (fun w' hw'=>aH Z)<|aw Z Z Z Z Z (fun w' hw'=>Zf oQ Z)<|aw Z Z Z Z Z (fun w' hw'=>bU ba rowS hx 0 Z ((H.later hw').ent (i:=4) Z) Z)<|aw Z Z Z Z Z (fun w' hw'=>Zf eP Z)<|aw Z Z Z Z Z (fun w' hw'=>bi am Z (aJ ((H.later hw').ent (i:=0) Z) Z))<|aw Z Z Z Z Z (fun w' hw'=>Yi Z)<|yP cI Z Z Z Z Z (fun w' hw'=>hw'.size) fun b8=>aU ?_
 intro w4 hw' hF
 obtain⟨hF,bq,eq,hge8,hbl8⟩:=hF;cases eq
 replace H:=H.adoptNew hw' hbl8 hge8
 clear hw' hF
 refine df 12 N Z<|cu xK (GC co x.name e.ver n k _ (Hp.coM H hco) hcb hnm I I) Z Z ?_
 rintro _ w5 ⟨c3,rfl,hac3,hnc3⟩;replace H:=H.learn hnc3.2 (xT w0 w4.heap.size w5.heap.size c3) ⟨H.size,hnc3.1⟩ (ao _) (ao _);clear hnc3
 refine U<|br 13 N N N Z Z Z Z Nq (fun _=>Yu Z)<|br 14 N N N Z Z Z Z Nq (fun _=>Xa Z Z)<|br 15 N N N Z Z Z Z Nq (fun _=>Xi Z Z)<|df 17 N Z<|bA H 0 (#[J (c3.clock),J (c3.next),J (c3.wait),.slice c3.A c3.txs.length c3.cap]) aF Z Z Z Z Z N N fun w6 H=>U<|br 18 N N N Z Z Z Z Nq (fun _=>Wi Z)<|cj N ?_
 exact⟨(c3,b8,_,_),⟨hac3,H⟩,mK Z Z,Qg⟩
 refine jN [0,1,2,3,4,5,6,7,8,9,10,11,12,13,14,15] [16,17,18] [12] [0,1,2,3,5,6,7,9,11,13,14,15] 2 (sp [(12,Sp.deep w3.heap.size Ny (fun c:Co=>c.c.toArray) (fun cs=> .tuple #[.agg cs,J (na co.a x.name e.ver n).2]) (fun cq:Co=>cq.a=(na co.a x.name e.ver n).1))]) N N N Nq<|aw Z Z Z Z Z (fun w' hw'=>Yp Z)<|aw Z Z Z Z Z (fun w' hw'=>aH Z)<|aw Z Z Z Z Z (fun w' hw'=>Zf aS Z)<|aw Z Z Z Z Z (fun w' hw'=>Zf eO Z)<|aw Z Z Z Z Z (fun w' hw'=>j9 1 [J (co.clock),J (co.next),J (co.wait),.slice co.A co.txs.length co.cap] ax Z Z ((H.later hw').ent (i:=2) Z) Z)<|aw Z Z Z Z Z (fun w' hw'=>Yp Z)<|aw Z Z Z Z Z (fun w' hw'=>aH Z)<|aw Z Z Z Z Z (fun w' hw'=>Zf oQ Z)<|aw Z Z Z Z Z (fun w' hw'=>bU ba rowS hx 0 Z ((H.later hw').ent (i:=4) Z) Z)<|aw Z Z Z Z Z (fun w' hw'=>Zf eP Z)<|aw Z Z Z Z Z (fun w' hw'=>bi am Z (aJ ((H.later hw').ent (i:=0) Z) Z))<|aw Z Z Z Z Z (fun w' hw'=>Yi Z)<|tK (gv:=(fun cs=> .tuple #[.agg cs,J (na co.a x.name e.ver n).2])) xK Z Z Z Z Z (fun w' hw'=>hw'.size) (fun w' hw'=>GC co x.name e.ver n k w' (Hp.coM (H.later hw') hco) hcb hnm I I) Z fun cs35=>aw Z Z Z Z Z (fun w' hw'=>Yu Z)<|aw Z Z Z Z Z (fun w' hw'=>Xa Z Z)<|aw Z Z Z Z Z (fun w' hw'=>Xi Z Z)<|aU ?_
 intro w7 hw' hF
 obtain⟨hF,c3,eq,hac3,hrd35⟩:=hF;cases eq
 replace H:=H.learn hw' (xT w0 w3.heap.size w7.heap.size c3) ⟨H.size,hrd35⟩ (ao _) (ao _)
 clear hw' hF
 refine df 16 N Z<|fc H cI Z fun w8 b8 H=>U<|df 17 N Z<|bA H 0 (#[J (c3.clock),J (c3.next),J (c3.wait),.slice c3.A c3.txs.length c3.cap]) aF Z Z Z Z Z N N fun w9 H=>U<|br 18 N N N Z Z Z Z Nq (fun _=>Wi Z)<|cj N ?_
 exact⟨(c3,b8,_,_),⟨hac3,H⟩,mK Z Z,Qg⟩
 rintro⟨c3,b8,lo,hi⟩ ρ1 w10 ⟨hac3,H⟩
 show CW _ _ _ _ (dK (ia _ _ ρ1) [(8,.pointer (Qd b8)),(9,J (na co.a x.name e.ver n).2)]) w10
 refine W<|W<|Zr<|G (Yi Z) ?_
 refine rM (jk Z Z) Z Z Z (fun h39=> ?_) (fun h39=> ?_)
 have hadd: ¬ (oa (Wa.mk (ps.map fun q=>q.p.a) co.a gr.a (sns.map Sn.a)) x.a n e).2=0:=by unfold oa;rw[if_pos hc21];exact h39
 have hadd2:(oa (Wa.mk (ps.map fun q=>q.p.a) co.a gr.a (sns.map Sn.a)) x.a n e).2=(na co.a x.name e.ver n).2:=by unfold oa;rw[if_pos hc21];rfl
 refine U<|ZT Z<|W<|Zr<|G (Yi Z)<|cu bH (dS (na co.a x.name e.ver n).2 _) Z Z ?_
 rintro _ w11 ⟨rfl,hb⟩;replace H:=H.later hb;clear hb
 refine bA H 2 (#[J ((na co.a x.name e.ver n).2),J (0),.slice none 0 0]) aL Z Z Z Z Z N N fun w12 H=>U<|Zt ?_
 exact eW (cs0:= #[J ((na co.a x.name e.ver n).2),J (0),.slice none 0 0]) Z aK Z (H.ent (i:=2) Z) Z ⟨ps,uP,co,clo,chi,xT w0 lo hi c3::F,by rw[if_neg hadd,hadd2];exact pn.plain _ _ _,by rw[if_neg hadd];rfl,row,rfl,ai _ hco,fun q hq=>ai _ (hps q hq),fun f hf=>ai _ hf,H.forget (bZ [(b8,_),(b7,_),(b6,_)] _) (fun _ h=>h)⟩
 refine U<|ZF Z<|Zk<|Zr<|G (Yp Z)<|G (Zw ax H 0 Z Z Z)<|G (aH Z)<|G (Zf aS Z)<|G (Zf eO Z)<|bA H 3 (#[.slice (Qd gP) ps.length pC,J (c3.clock),J (c3.next),J (c3.wait),.slice c3.A c3.txs.length c3.cap,J (gr.clock),J (gr.wait),J (gr.gen),.slice gr.mA gr.ms.length gr.mC,.slice gr.oA gr.os.length gr.oC,.slice (Qd gS) sns.length snC]) aF Z Z Z Z Z N N fun w13 H=>U ?_
 exact⟨(c3,_,_,_),⟨by rw[hac3];unfold oa;rw[if_pos hc21];rfl,by unfold oa;rw[if_pos hc21];exact(by simpa using h39:(na co.a x.name e.ver n).2=0),az ..,fun f hf=>ai _ hf,H.forget (.cons _ (au _)) (fun _ h=>h)⟩,Pn,Qg⟩
 refine Zk ?_
 exact⟨(co,clo,chi,F),⟨by unfold oa;rw[if_neg (by rw[hc21];decide)],by unfold oa;rw[if_neg (by rw[hc21];decide)],hco,fun _ h=>h,H⟩,Pn,Qg⟩
 rintro⟨c2,l2,h2,F2⟩ ρ1 w14 ⟨hc2,hok2,hco2,hF2,H⟩
 show CW _ _ _ _ (dK (ia _ _ ρ1) []) w14
 refine W ?_
 refine ft (τ:=Pa×Nat×Nat×Nat) [10,11,12,47,48,49,50,51,52,53,54,55,56,57,58,59,60] (fun(_,b10,_,_)=>[(10,.pointer (Qd b10)),(11,J (eu q.p.a e).2.1),(12,J (eu q.p.a e).2.2)]) (fun(p2,b10,lo,hi) w'=>p2.a=(eu q.p.a e).1/\Hp w0 w' ((b10,.cells #[J (p2.epoch),J (p2.leader),.slice p2.iA p2.isr.length p2.iC,.slice p2.kA p2.known.length p2.kC,.slice p2.rA p2.reps.length p2.rC,J (p2.few),J (p2.base)] bI (0,0))::(b7,.cells #[J (e.epoch),J (e.pid),J (e.ver),J (e.seq),J (e.kind),.bool (e.txn),.string (e.text)] dA (0,0))::(b6,.cells #[J (0),J (0),.slice none 0 0] eh (0,0))::(bb,.cells #[.slice (Qd gP) ps.length pC,J (c2.clock),J (c2.next),J (c2.wait),.slice c2.A c2.txs.length c2.cap,J (gr.clock),J (gr.wait),J (gr.gen),.slice gr.mA gr.ms.length gr.mC,.slice gr.oA gr.os.length gr.oC,.slice (Qd gS) sns.length snC] bE (0,0))::(gP,.cells uP bI (0,0))::(gS,.cells uS fK (0,0))::(gq,.cells uq dg (0,0))::(gl,.cells ul dA (0,0))::R) (wM w0 lo hi p2::F2)) ?_ ?_
 refine oV cD 14 9 [9,10,11,12,13,15,16,17] [14] [0,1,2,3,5,6] [14,15,16,17] [9] [0,1,2,3,5,6,10,11,12,13] (sp [(14,Sp.blk w14.heap.size (.agg #[J 0,J 0,.slice none 0 0,.slice none 0 0,.slice none 0 0,J 0,J 0]) bI)]) (sp [(9,Sp.deep w14.heap.size QT (fun p:Pa=>p.c.toArray) (fun cs=> .tuple #[.agg cs,J (eu q.p.a e).2.1,J (eu q.p.a e).2.2]) (fun cq:Pa=>cq.a=(eu q.p.a e).1))]) N N N N (cQ _) (cQ _) ?_ ?_
 refine jN [0,1,2,3,4,5,6,7,8,14] [9,10,11,12,13,15,16,17] [14] [0,1,2,3,5,6] 7 (sp [(14,Sp.blk w14.heap.size (.agg #[J 0,J 0,.slice none 0 0,.slice none 0 0,.slice none 0 0,J 0,J 0]) bI)]) N N N Nq<|aw Z Z Z Z Z (fun w' hw'=>Yp Z)<|aw Z Z Z Z Z (fun w' hw'=>aH Z)<|aw Z Z Z Z Z (fun w' hw'=>Zf aS Z)<|aw Z Z Z Z Z (fun w' hw'=>Zf dL Z)<|aw Z Z Z Z Z (fun w' hw'=>bi eA Z (aJ ((H.later hw').ent (i:=2) Z) Z))<|aw Z Z Z Z Z (fun w' hw'=>Yi Z)<|aw Z Z Z Z Z (fun w' hw'=>cR iE Z Z (by first|omega|(simp only[ae];omega)))<|aw Z Z Z Z Z (fun w' hw'=>pq bo row hq Z Z ((H.later hw').ent (i:=3) Z))<|aw Z Z Z Z Z (fun w' hw'=>jR dJ Z ((H.later hw').ent (i:=0) Z) Z)<|yP bR Z Z Z Z Z (fun w' hw'=>hw'.size) fun b10=>aU ?_
 intro w15 hw' hF
 obtain⟨hF,bq,eq,hge10,hbl10⟩:=hF;cases eq
 replace H:=H.adoptNew hw' hbl10 hge10
 clear hw' hF
 refine df 9 N Z<|cu rB (zQ q.p e _ (Hp.paM H (hF2 _ (hps q hqm))) (hpk q hqm).1 (hpk q hqm).2) Z Z ?_
 rintro _ w16 ⟨p2,rfl,hap2,hnp2⟩;replace H:=H.learn hnp2.2 (wM w0 w15.heap.size w16.heap.size p2) ⟨H.size,hnp2.1⟩ (ao _) (ao _);clear hnp2
 refine U<|br 10 N N N Z Z Z Z Nq (fun _=>Yu Z)<|br 11 N N N Z Z Z Z Nq (fun _=>Xa Z Z)<|br 12 N N N Z Z Z Z Nq (fun _=>Xi Z Z)<|br 13 N N N Z Z Z Z Nq (fun _=>Xi Z Z)<|df 15 N Z<|bA H 0 (#[J (p2.epoch),J (p2.leader),.slice p2.iA p2.isr.length p2.iC,.slice p2.kA p2.known.length p2.kC,.slice p2.rA p2.reps.length p2.rC,J (p2.few),J (p2.base)]) bl Z Z Z Z Z N N fun w17 H=>U<|br 16 N N N Z Z Z Z Nq (fun _=>Wi Z)<|br 17 N N N Z Z Z Z Nq (fun _=>Wi Z)<|cj N ?_
 exact⟨(p2,b10,_,_),⟨hap2,H⟩,Ly Z Z Z,Qg⟩
 refine jN [0,1,2,3,4,5,6,7,8,9,10,11,12,13] [14,15,16,17] [9] [0,1,2,3,5,6,10,11,12,13] 3 (sp [(9,Sp.deep w14.heap.size QT (fun p:Pa=>p.c.toArray) (fun cs=> .tuple #[.agg cs,J (eu q.p.a e).2.1,J (eu q.p.a e).2.2]) (fun cq:Pa=>cq.a=(eu q.p.a e).1))]) N N N Nq<|aw Z Z Z Z Z (fun w' hw'=>Yp Z)<|aw Z Z Z Z Z (fun w' hw'=>aH Z)<|aw Z Z Z Z Z (fun w' hw'=>Zf aS Z)<|aw Z Z Z Z Z (fun w' hw'=>Zf dL Z)<|aw Z Z Z Z Z (fun w' hw'=>bi eA Z (aJ ((H.later hw').ent (i:=2) Z) Z))<|aw Z Z Z Z Z (fun w' hw'=>Yi Z)<|aw Z Z Z Z Z (fun w' hw'=>cR iE Z Z (by first|omega|(simp only[ae];omega)))<|aw Z Z Z Z Z (fun w' hw'=>pq bo row hq Z Z ((H.later hw').ent (i:=3) Z))<|aw Z Z Z Z Z (fun w' hw'=>jR dJ Z ((H.later hw').ent (i:=0) Z) Z)<|tK (gv:=(fun cs=> .tuple #[.agg cs,J (eu q.p.a e).2.1,J (eu q.p.a e).2.2])) rB Z Z Z Z Z (fun w' hw'=>hw'.size) (fun w' hw'=>zQ q.p e w' (Hp.paM (H.later hw') (hF2 _ (hps q hqm))) (hpk q hqm).1 (hpk q hqm).2) Z fun cs57=>aw Z Z Z Z Z (fun w' hw'=>Yu Z)<|aw Z Z Z Z Z (fun w' hw'=>Xa Z Z)<|aw Z Z Z Z Z (fun w' hw'=>Xi Z Z)<|aw Z Z Z Z Z (fun w' hw'=>Xi Z Z)<|aU ?_
 intro w18 hw' hF
 obtain⟨hF,p2,eq,hap2,hrd57⟩:=hF;cases eq
 replace H:=H.learn hw' (wM w0 w14.heap.size w18.heap.size p2) ⟨H.size,hrd57⟩ (ao _) (ao _)
 clear hw' hF
 refine df 14 N Z<|fc H bR Z fun w19 b10 H=>U<|df 15 N Z<|bA H 0 (#[J (p2.epoch),J (p2.leader),.slice p2.iA p2.isr.length p2.iC,.slice p2.kA p2.known.length p2.kC,.slice p2.rA p2.reps.length p2.rC,J (p2.few),J (p2.base)]) bl Z Z Z Z Z N N fun w20 H=>U<|br 16 N N N Z Z Z Z Nq (fun _=>Wi Z)<|br 17 N N N Z Z Z Z Nq (fun _=>Wi Z)<|cj N ?_
 exact⟨(p2,b10,_,_),⟨hap2,H⟩,Ly Z Z Z,Qg⟩
 rintro⟨p2,b10,lo,hi⟩ ρ1 w21 ⟨hap2,H⟩
 show CW _ _ _ _ (dK (ia _ _ ρ1) [(10,.pointer (Qd b10)),(11,J (eu q.p.a e).2.1),(12,J (eu q.p.a e).2.2)]) w21
 refine W<|W<|Zr<|G (Yi Z) ?_
 refine rM (jk Z Z) Z Z Z (fun h62=> ?_) (fun h62=> ?_)
 refine U<|ZT Z<|W<|Zr<|G (Yi Z)<|cu bH (dS (eu q.p.a e).2.2 _) Z Z ?_
 rintro _ w22 ⟨rfl,hb⟩;replace H:=H.later hb;clear hb
 refine bA H 2 (#[J ((eu q.p.a e).2.2),J (0),.slice none 0 0]) aL Z Z Z Z Z N N fun w23 H=>U<|Zt ?_
 exact eW (cs0:= #[J ((eu q.p.a e).2.2),J (0),.slice none 0 0]) Z aK Z (H.ent (i:=2) Z) Z ⟨ps,uP,c2,l2,h2,wM w0 lo hi p2::F2,by rw[if_pos hok2,hP,if_neg h62];exact pn.plain _ _ _,by rw[if_pos hok2,hP,if_neg h62,<-hc2];rfl,row,rfl,ai _ hco2,fun q hq=>ai _ (hF2 _ (hps q hq)),fun f hf=>ai _ (hF2 f hf),H.forget (bZ [(b10,_),(b7,_),(b6,_)] _) (fun _ h=>h)⟩
 refine U<|ZF Z<|Zk<|W ?_
 refine bL cD [0,1,2,3,4,5,6,7] [8] [] [0,1,2,3,5,7] (sp []) N N N N Nq (cQ _) ?_
 refine aw Z Z Z Z Z (fun w' hw'=>Yp Z)<|aw Z Z Z Z Z (fun w' hw'=>aH Z)<|aw Z Z Z Z Z (fun w' hw'=>Zf aS Z)<|aw Z Z Z Z Z (fun w' hw'=>Zf dL Z)<|aw Z Z Z Z Z (fun w' hw'=>bi eA Z (aJ ((H.later hw').ent (i:=3) Z) Z))<|aw Z Z Z Z Z (fun w' hw'=>Yi Z)<|aw Z Z Z Z Z (fun w' hw'=>jR bo Z ((H.later hw').ent (i:=0) Z) Z)<|aw Z Z Z Z Z (fun w' hw'=>cR iE Z Z (by first|omega|(simp only[ae];omega)))<|aU ?_
 intro w24 hw' hF
 replace H:=H.later hw';clear hw' hF
 refine ni H 4 (⟨p2,lo,hi⟩) bl row hq 0 Z Z Z Z Z Z N fun w26 cur25 row25 H=> ?_
 have hs27:(ps.set n (⟨p2,lo,hi⟩))[n]? =some (⟨p2,lo,hi⟩):=al (cy hq).1
 refine U<|W<|Zr<|G (Yi Z)<|G (bC (cs:= #[J (0),J ((eu q.p.a e).2.1),.slice none 0 0]) iV dn N)<|bA H 2 (#[J (0),J ((eu q.p.a e).2.1),.slice none 0 0]) aL Z Z Z Z Z N N fun w28 H=>U<|Zt ?_
 have hz:(eu q.p.a e).2.2=0:=by simpa using h62
 have hz2:=hz
 exact eW (cs0:= #[J (0),J ((eu q.p.a e).2.1),.slice none 0 0]) Z aK Z (H.ent (i:=2) Z) Z ⟨ps.set n ⟨p2,lo,hi⟩,_,c2,l2,h2,wM w0 lo hi p2::F2,by rw[if_pos hok2,hP,if_pos hz];exact pn.plain _ _ _,by rw[if_pos hok2,hP,if_pos hz,<-hc2];simp only[cU,hap2],row25,ae ..,ai _ hco2,fun y hy=>by rcases AG hy with hy|hy;exact ai _ (hF2 _ (hps y hy));rw[hy];exact az ..,fun f hf=>ai _ (hF2 f hf),by rw[ae];exact H.forget (bZ [(b10,_),(b7,_),(b6,_)] _) (fun _ h=>h)⟩
end Go.Proofs.YtclibalpdhhhfaaGreatDoor
