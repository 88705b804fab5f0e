/- Part 3 of the proofs over this seat: what its theorems say holds for every input that they name. -/
import Derived.Test.YtclibalpdhhhfaaGreatDoorAF2
namespace Go.Proofs.YtclibalpdhhhfaaGreatDoor
open Go Go.Eng Go.RowKit
open Go.Eng renaming bL→U, bD→W, ba→Zr, jl→Zk, ur→Zt, g8→Zb, p5→Zx, eM→Yi, Af→Yb, qf→Ys, QF→Yp, Ox→Yt, Is→Yu, pz→Wi, Gj→Wb, vI→Ws, QK→Wp, uC→Wt, FY→Zf, IH→Xi, OF→Xa, OE→Xb, IG→Xs, GW→Kt, GX→N, gL→ZT, eS→ZF
open Go.Proofs.Tryz renaming prog→aa
open _root_.List renaming mem_of_getElem?→ab,length_set→ae,getElem?_eq_getElem→ai,mem_cons_of_mem→aj,getElem?_set_self→am,replicate→ap,mem_append→aq,mem_singleton→ar,mem_cons→av,length_append→ax,mem_cons_self→az,getElem?_eq_some_iff→aA,append_assoc→aB,mem_or_eq_of_mem_set→aC,sublist_append_left→aD,length_take→aF,getElem?_map→aH,mem_iff_getElem?→aM,findIdx?_eq_some_iff_getElem→aP,append_nil→aW,map_append→bh,length_map→bl,mem_nil_iff→bu,mem_map_of_mem→bG,take_length→bM,eq_nil_of_length_eq_zero→bR,mem_map→bS,sublist_append_right→bZ,getElem?_append_right→cj,length_singleton→cF,getElem?_eq_none→cG,map_set→cT,findIdx?_eq_none_iff→cZ,length_drop→db,length→di,getElem?_drop→dk,getElem?_take→dA,mem_singleton_self→d6,ext_getElem?→ei,drop_of_length_le→ej,pairwise_cons→eo,map_cons→eN,drop_length→fz,set_set→fL,perm_append_comm_assoc→gf,take_append_drop→gQ,mem_append_left→ir,filter_append→jh,drop_zero→ji,set_append_right→jj,nodup_cons→jq,pairwise_map→jv,filter_eq_self→jZ,filter_cons_of_pos→j6,drop_drop→j7,nil_append→kZ,mem_filter→k9,getElem?_set→lx,pairwise_append→mb,cons_append→mr,pairwise_iff_getElem→mZ,headD_eq_head?_getD→nu,filter_cons_of_neg→oV,map_nil→pE,map_map→pF,head?_eq_getElem?→pG,drop_set_of_lt→sD,any_eq_false→uH,filter_eq_nil_iff→wD,take_zero→y7,take_set_of_le→zI,drop_succ_cons→zJ,findIdx?_map→Dr
open _root_.List.Perm renaming swap→ak
open _root_.Nat renaming le_refl→ao,le_trans→aX,zero_le→bx,min_eq_left→bB,zero_add→cE,add_mul→cN,mul_le_mul_right→dp,one_mul→f8,lt_or_ge→iS,le_of_lt→mq,add_zero→pB,zero_mul→wB
open _root_.List.Sublist renaming refl→au,cons_cons→pI
open _root_.Bool renaming and_eq_true→aQ,true_and→hZ,not_eq_true'→pJ,eq_iff_iff→xG
open _root_.Option.some renaming inj→aT,injEq→lv
open _root_.Array renaming length_toList→bY
open _root_.Option renaming map_some→eJ,bind_some→fy,map_eq_some_iff→iR
open _root_.Int renaming le_refl→ff
open _root_.List.Mem renaming head→hM,tail→qP
set_option maxHeartbeats 4000000
set_option maxRecDepth 20000
set_option linter.unusedSimpArgs false
set_option linter.unusedVariables false
set_option linter.unusedSectionVars false
theorem Gf (p t:Tx) (b:Nat) (w:World) (hx:w.heap[b]? =some (.cells t.c.toArray dG (0,0))):
  dt aa sr [p.v,.pointer (Qd b)] w fun v w2=>v=.bool (decide (p.name=t.name)||decide (p.pid=t.pid))/\Below w.heap.size w w2:=by
 refine aG xh Z Z ?_
 have H:=Hp.start w
 have hb:=bU hx
 refine W<|Zr<|gM H Z Z fun w1 b2 H=>G (Wb Z)<|U<|W<|Zr<|G (Zf oB Z)<|G (Zd aZ H 0 Z Z Z)<|G (Zf oB Z)<|G (bf aZ Z ((H.below.cell (p:=⟨b,_,none⟩) hb).trans (aJ (j:=0) hx Z))) ?_
 refine dq (vV Z Z) Z Z Z (fun h8=> ?_) (fun h8=> ?_)
 refine G (Yb Z)<|ZN<|ZN<|ZN<|ZN<|ZN<|G (Kt Z Z)<|G (Wb Z)<|U<|Zt ?_
 have hv:(decide (p.name=t.name)||decide (p.pid=t.pid))=true:=by simp[h8]
 exact cn (v:=.bool true) Z Z ⟨by rw[hv],H.below⟩
 refine G (Yb Z)<|ZG<|G (Zf lp Z)<|ZG<|G (Zd al H 0 Z Z Z)<|ZG<|G (Zf lp Z)<|ZG<|G (bf al Z ((H.below.cell (p:=⟨b,_,none⟩) hb).trans (aJ (j:=1) hx Z)))<|ZG ?_
 refine dq (br Z Z) Z Z Z (fun h14=> ?_) (fun h14=> ?_)
 refine G (N Z Z)<|G (Wb Z)<|U<|Zt ?_
 have hv:(decide (p.name=t.name)||decide (p.pid=t.pid))=true:=by simp[h8,h14]
 exact cn (v:=.bool true) Z Z ⟨by rw[hv],H.below⟩
 refine G (N Z Z)<|G (Wb Z)<|U<|Zt ?_
 have hv:(decide (p.name=t.name)||decide (p.pid=t.pid))=false:=by simp[h8,h14]
 exact cn (v:=.bool false) Z Z ⟨by rw[hv],H.below⟩
theorem nJ (p:Tx) (s:ByteArray) (b:Nat) (w:World) (hx:w.heap[b]? =some (.cells #[.string s] qA (0,0))):
  dt aa gU [p.v,.pointer (Qd b)] w fun v w2=>v=.bool (decide (p.name=s))/\Below w.heap.size w w2:=by
 refine aG ym Z Z ?_
 have H:=Hp.start w
 have hb:=bU hx
 refine W<|Zr<|gM H Z Z fun w1 b2 H=>G (Wb Z)<|U<|W<|Zr<|G (Zf oB Z)<|G (Zd aZ H 0 Z Z Z)<|G (bf aZ Z ((H.below.cell (p:=⟨b,_,none⟩) hb).trans (aJ (j:=0) hx Z)))<|G (vV Z Z)<|G (Wb Z)<|U<|Zt ?_
 exact cn Z Z ⟨rfl,H.below⟩
theorem Ga (n:Int) (w:World) (h1:1<=n) (h2:n<=1000):dt aa FH [J n] w fun v w2=>v=.tuple #[.agg #[J 0,J 1,J n,.slice none 0 0],J 0]/\Below w.heap.size w w2:=by
 refine aG Es Z Z ?_
 have H:=Hp.start w
 refine W<|Zr<|fg H cH Z fun w1 b2 H=>G (Wi Z)<|U<|W<|W<|Zr<|G (Yi Z)<|G (dn Z Z I)<|G (Yb Z)<|ZG<|G (Yi Z)<|ZG<|G (eu Z Z I)<|G (N Z Z)<|U<|ZF Z<|Zk<|W<|Zr<|G (Yi Z)<|G (bE (cs:= #[J 0,J 1,J n,.slice none 0 0]) fD cH N)<|bC H 0 (#[J 0,J 1,J n,.slice none 0 0]) aE Z Z Z Z Z N N fun w2 H=>G (Wi Z)<|U<|Zt ?_
 exact ci (cs0:= #[J 0,J 1,J n,.slice none 0 0]) (v1:=J 0) Z ay Z (H.ent (i:=0) Z) Z Z ⟨rfl,H.below⟩
theorem ON (ck nx wt:Int) (At:Option Addr) (n ct:Nat) (t:Tx) (w:World) (hr:Rd bN 0 w.heap.size t.A t.parts w) (hpl:t.parts.length<=1000000):
  dt aa FG [.agg #[J ck,J nx,J wt,.slice At n ct],t.v] w fun v w2=>v=.bool (fK ck nx t)/\Below w.heap.size w w2:=by
 refine aG Er Z Z ?_
 have H:=Hp.startRd hr
 refine W<|Zr<|gM H Z Z fun w1 b2 H=>gM H Z Z fun w2 b3 H=>G (Wb Z)<|U<|W<|W<|Zr<|G (Zf oB Z)<|G (Zd aZ H 0 Z Z Z)<|cz rU (DW t.name _) Z Z ?_
 rintro _ w3 ⟨rfl,hb⟩;replace H:=H.later hb;clear hb
 refine G (d7 Z)<|G (Yb Z) ?_
 refine nB 11 Z (fun h11=> ?_) (fun h11=> ?_)
 refine ZN<|ZN<|ZN<|G (Kt Z Z)<|G (Yb Z)<|ZN<|ZN<|ZN<|ZN<|ZN<|G (Kt Z Z)<|G (Yb Z)<|ZN<|ZN<|ZN<|ZN<|G (Kt Z Z)<|G (Yb Z)<|ZN<|ZN<|ZN<|G (Kt Z Z)<|G (Yb Z)<|ZN<|ZN<|ZN<|G (Kt Z Z)<|G (Yb Z)<|ZN<|ZN<|ZN<|G (Kt Z Z)<|G (Yb Z)<|ZN<|ZN<|ZN<|ZN<|ZN<|G (Kt Z Z)<|G (Yb Z) ?_
 refine ZN<|ZN<|ZN<|ZN<|ZN<|ZN<|ZN<|ZN<|ZN<|ZN<|ZN<|ZN<|ZN<|G (Kt Z Z)<|U<|ZT Z<|W<|Zr<|G (Wb Z)<|U<|Zt ?_
 have hv:fK ck nx t=false:=by
  cases hh:fK ck nx t
  rfl
  obtain⟨a1,a2,a3,a4,a5,a6,a7,a8,a9,a10,a11⟩:=ce.1 hh
  exfalso
  first|omega|simp_all
 exact cn (v:=.bool false) Z Z ⟨by rw[hv],H.below⟩
 refine ZG<|G (Zf lp Z)<|ZG<|G (Zd al H 0 Z Z Z)<|ZG ?_
 refine dq (cL Z Z) Z Z Z (fun h14=> ?_) (fun h14=> ?_)
 refine G (N Z Z)<|G (Yb Z)<|ZN<|ZN<|ZN<|ZN<|ZN<|G (Kt Z Z)<|G (Yb Z)<|ZN<|ZN<|ZN<|ZN<|G (Kt Z Z)<|G (Yb Z)<|ZN<|ZN<|ZN<|G (Kt Z Z)<|G (Yb Z)<|ZN<|ZN<|ZN<|G (Kt Z Z)<|G (Yb Z)<|ZN<|ZN<|ZN<|G (Kt Z Z)<|G (Yb Z)<|ZN<|ZN<|ZN<|ZN<|ZN<|G (Kt Z Z)<|G (Yb Z)<|ZN<|ZN<|ZN ?_
 refine ZN<|ZN<|ZN<|ZN<|ZN<|ZN<|ZN<|ZN<|ZN<|ZN<|G (Kt Z Z)<|U<|ZT Z<|W<|Zr<|G (Wb Z)<|U<|Zt ?_
 have hv:fK ck nx t=false:=by
  cases hh:fK ck nx t
  rfl
  obtain⟨a1,a2,a3,a4,a5,a6,a7,a8,a9,a10,a11⟩:=ce.1 hh
  exfalso
  first|omega|simp_all
 exact cn (v:=.bool false) Z Z ⟨by rw[hv],H.below⟩
 refine G (N Z Z)<|G (Yb Z)<|ZG<|G (Zf lp Z)<|ZG<|G (Zd al H 0 Z Z Z)<|ZG<|G (Zf ku Z)<|ZG<|G (Zd al H 1 Z Z Z)<|ZG ?_
 refine dq (kk Z Z) Z Z Z (fun h21=> ?_) (fun h21=> ?_)
 refine G (N Z Z)<|G (Yb Z)<|ZN<|ZN<|ZN<|ZN<|G (Kt Z Z)<|G (Yb Z)<|ZN<|ZN<|ZN<|G (Kt Z Z)<|G (Yb Z)<|ZN<|ZN<|ZN<|G (Kt Z Z)<|G (Yb Z)<|ZN<|ZN<|ZN<|G (Kt Z Z)<|G (Yb Z)<|ZN<|ZN<|ZN<|ZN<|ZN<|G (Kt Z Z)<|G (Yb Z)<|ZN<|ZN<|ZN<|ZN<|ZN<|ZN<|ZN<|ZN<|ZN<|ZN ?_
 refine ZN<|ZN<|ZN<|G (Kt Z Z)<|U<|ZT Z<|W<|Zr<|G (Wb Z)<|U<|Zt ?_
 have hv:fK ck nx t=false:=by
  cases hh:fK ck nx t
  rfl
  obtain⟨a1,a2,a3,a4,a5,a6,a7,a8,a9,a10,a11⟩:=ce.1 hh
  exfalso
  first|omega|simp_all
 exact cn (v:=.bool false) Z Z ⟨by rw[hv],H.below⟩
 refine G (N Z Z)<|G (Yb Z)<|ZG<|G (Zf gD Z)<|ZG<|G (Zd al H 0 Z Z Z)<|ZG<|cz tD (Bo t.ver _) Z Z ?_
 rintro _ w4 ⟨rfl,hb⟩;replace H:=H.later hb;clear hb
 refine ZG<|G (d7 Z)<|G (N Z Z)<|G (Yb Z) ?_
 refine nB 29 Z (fun h29=> ?_) (fun h29=> ?_)
 refine ZN<|ZN<|ZN<|G (Kt Z Z)<|G (Yb Z)<|ZN<|ZN<|ZN<|G (Kt Z Z)<|G (Yb Z)<|ZN<|ZN<|ZN<|G (Kt Z Z)<|G (Yb Z)<|ZN<|ZN<|ZN<|ZN<|ZN<|G (Kt Z Z)<|G (Yb Z)<|ZN<|ZN<|ZN<|ZN<|ZN<|ZN<|ZN<|ZN<|ZN<|ZN<|ZN<|ZN<|ZN<|G (Kt Z Z)<|U<|ZT Z<|W<|Zr ?_
 refine G (Wb Z)<|U<|Zt ?_
 have hv:fK ck nx t=false:=by
  cases hh:fK ck nx t
  rfl
  obtain⟨a1,a2,a3,a4,a5,a6,a7,a8,a9,a10,a11⟩:=ce.1 hh
  exfalso
  first|omega|simp_all
 exact cn (v:=.bool false) Z Z ⟨by rw[hv],H.below⟩
 refine ZG<|G (Zf cU Z)<|ZG<|G (Zd al H 0 Z Z Z)<|ZG ?_
 refine dq (cL Z Z) Z Z Z (fun h32=> ?_) (fun h32=> ?_)
 refine G (N Z Z)<|G (Yb Z)<|ZN<|ZN<|ZN<|G (Kt Z Z)<|G (Yb Z)<|ZN<|ZN<|ZN<|G (Kt Z Z)<|G (Yb Z)<|ZN<|ZN<|ZN<|ZN<|ZN<|G (Kt Z Z)<|G (Yb Z)<|ZN<|ZN<|ZN<|ZN<|ZN<|ZN<|ZN<|ZN<|ZN<|ZN<|ZN<|ZN<|ZN<|G (Kt Z Z)<|U<|ZT Z<|W<|Zr<|G (Wb Z)<|U<|Zt ?_
 have hv:fK ck nx t=false:=by
  cases hh:fK ck nx t
  rfl
  obtain⟨a1,a2,a3,a4,a5,a6,a7,a8,a9,a10,a11⟩:=ce.1 hh
  exfalso
  first|omega|simp_all
 exact cn (v:=.bool false) Z Z ⟨by rw[hv],H.below⟩
 refine G (N Z Z)<|G (Yb Z)<|ZG<|G (Zf cU Z)<|ZG<|G (Zd al H 0 Z Z Z)<|ZG ?_
 refine dq (kj Z Z) Z Z Z (fun h37=> ?_) (fun h37=> ?_)
 refine G (N Z Z)<|G (Yb Z)<|ZN<|ZN<|ZN<|G (Kt Z Z)<|G (Yb Z)<|ZN<|ZN<|ZN<|ZN<|ZN<|G (Kt Z Z)<|G (Yb Z)<|ZN<|ZN<|ZN<|ZN<|ZN<|ZN<|ZN<|ZN<|ZN<|ZN<|ZN<|ZN<|ZN<|G (Kt Z Z)<|U<|ZT Z<|W<|Zr<|G (Wb Z)<|U<|Zt ?_
 have hv:fK ck nx t=false:=by
  cases hh:fK ck nx t
  rfl
  obtain⟨a1,a2,a3,a4,a5,a6,a7,a8,a9,a10,a11⟩:=ce.1 hh
  exfalso
  first|omega|simp_all
 exact cn (v:=.bool false) Z Z ⟨by rw[hv],H.below⟩
 refine G (N Z Z)<|G (Yb Z)<|ZG<|G (Zf uk Z)<|ZG<|G (Zd al H 0 Z Z Z)<|ZG ?_
 refine dq (cL Z Z) Z Z Z (fun h42=> ?_) (fun h42=> ?_)
 refine G (N Z Z)<|G (Yb Z)<|ZN<|ZN<|ZN<|ZN<|ZN<|G (Kt Z Z)<|G (Yb Z)<|ZN<|ZN<|ZN<|ZN<|ZN<|ZN<|ZN<|ZN<|ZN<|ZN<|ZN<|ZN<|ZN<|G (Kt Z Z)<|U<|ZT Z<|W<|Zr<|G (Wb Z)<|U<|Zt ?_
 have hv:fK ck nx t=false:=by
  cases hh:fK ck nx t
  rfl
  obtain⟨a1,a2,a3,a4,a5,a6,a7,a8,a9,a10,a11⟩:=ce.1 hh
  exfalso
  first|omega|simp_all
 exact cn (v:=.bool false) Z Z ⟨by rw[hv],H.below⟩
 refine G (N Z Z)<|G (Yb Z)<|ZG<|G (Zf uk Z)<|ZG<|G (Zd al H 0 Z Z Z)<|ZG<|G (Zf kw Z)<|ZG<|G (Zd al H 1 Z Z Z)<|ZG ?_
 refine dq (kj Z Z) Z Z Z (fun h49=> ?_) (fun h49=> ?_)
 refine G (N Z Z)<|G (Yb Z)<|ZN<|ZN<|ZN<|ZN<|ZN<|ZN<|ZN<|ZN<|ZN<|ZN<|ZN<|ZN<|ZN<|G (Kt Z Z)<|U<|ZT Z<|W<|Zr<|G (Wb Z)<|U<|Zt ?_
 have hv:fK ck nx t=false:=by
  cases hh:fK ck nx t
  rfl
  obtain⟨a1,a2,a3,a4,a5,a6,a7,a8,a9,a10,a11⟩:=ce.1 hh
  exfalso
  first|omega|simp_all
 exact cn (v:=.bool false) Z Z ⟨by rw[hv],H.below⟩
 refine G (N Z Z)<|G (Yb Z)<|ZG<|G (Zf jo Z)<|ZG<|G (Zd al H 0 Z Z Z)<|ZG ?_
 refine rq (je Z Z) Z Z Z (fun h54=> ?_) (fun h54=> ?_)
 refine ZG<|G (Yb Z)<|ZG<|G (Zf jo Z)<|ZG<|G (Zd al H 0 Z Z Z)<|ZG ?_
 refine rq (je Z Z) Z Z Z (fun h58=> ?_) (fun h58=> ?_)
 refine ZG<|G (Kt Z Z)<|ZG<|G (Yb Z)<|ZG<|G (Zf jo Z)<|ZG<|G (Zd al H 0 Z Z Z)<|ZG ?_
 refine rq (je Z Z) Z Z Z (fun h63=> ?_) (fun h63=> ?_)
 refine ZG<|G (Kt Z Z)<|G (N Z Z)<|U<|ZT Z<|W<|Zr<|G (Wb Z)<|U<|Zt ?_
 have hv:fK ck nx t=false:=by
  cases hh:fK ck nx t
  rfl
  obtain⟨a1,a2,a3,a4,a5,a6,a7,a8,a9,a10,a11⟩:=ce.1 hh
  exfalso
  first|omega|simp_all
 exact cn (v:=.bool false) Z Z ⟨by rw[hv],H.below⟩
 refine ZG<|G (Kt Z Z)<|G (N Z Z)<|U<|ZF Z<|Zk<|W<|W<|Zr<|G (Zf dC Z)<|G (Zd cC H 0 Z Z Z)<|G (bj eA Z)<|G (Yi Z)<|U<|Zb ?_
 refine bW (τ:=Nat×Int) [4,5,6,69,70,71,72,73,74,75,76,77,78,79,80,81,82,83,84,85,86,87,88,89,90,91,92,93,94] (fun(k,_)=>[(69,J (k:Nat))]) (fun(k,last) w'=>k<=t.parts.length/\cV (-1) t.parts=cV last (t.parts.drop k)/\(k=0->last= -1)/\(∀ j,k=j+1->t.parts[j]? =some last)/\ -1<=last/\Hp w w' [(b3,.cells t.c.toArray dG (0,0))] [d4 bN 0 w.heap.size t.A t.parts]) (fun(k,_)=>t.parts.length-k) (0,-1) ⟨by omega,by rw[ji],fun _=>rfl,fun j hj=>by omega,by omega,H.forget (pI _ (.cons _ (au _))) (fun _ h=>h)⟩ (dO Z) ?_
 rintro⟨k,last⟩ ρ1 w5 ⟨hk,hpo,hl0,hl1,hl2,H⟩
 show CW _ _ _ _ (dH (gT _ _ ρ1) [(69,J (k:Nat))]) w5
 refine W<|Zr ?_
 refine dq (cL Z Z) Z Z Z (fun h70=> ?_) (fun h70=> ?_)
 refine U<|W<|ZT Z<|Zk<|W<|Zb<|W<|Zr<|G (Yi Z)<|px H 0 Z bd Z Z I I Z fun b6 o6 x6 e6=> ?_
 have hxk:=e6.at_
 have hdrop:=cM hxk
 refine G (bf al Z (e6.cl 0 _ Z))<|G (Wi Z)<|G (Wi Z)<|U<|W<|Zr<|G (Yi Z) ?_
 refine dq (cL Z Z) Z Z Z (fun h75=> ?_) (fun h75=> ?_)
 refine G (Yb Z)<|ZN<|ZN<|G (Kt Z Z)<|G (Yb Z)<|ZN<|ZN<|ZN<|ZN<|ZN<|ZN<|ZN<|ZN<|ZN<|ZN<|ZN<|ZN<|G (Kt Z Z)<|U<|ZT Z<|W<|Zr<|G (Wb Z)<|U<|Zt ?_
 have hv:fK ck nx t=false:=by
  cases hh:fK ck nx t
  rfl
  obtain⟨a1,a2,a3,a4,a5,a6,a7,a8,a9,a10,a11⟩:=ce.1 hh
  exfalso
  rw[hpo,hdrop]at a10
  simp only[cV,aQ,decide_eq_true_eq]at a10
  obtain⟨⟨q1,q2⟩,-⟩:=a10
  omega
 exact cn (v:=.bool false) Z Z ⟨by rw[hv],H.below⟩
 refine G (Yb Z)<|ZG<|G (Yi Z)<|ZG ?_
 refine dq (kk Z Z) Z Z Z (fun h78=> ?_) (fun h78=> ?_)
 refine G (N Z Z)<|G (Yb Z)<|ZN<|ZN<|ZN<|ZN<|ZN<|ZN<|ZN<|ZN<|ZN<|ZN<|ZN<|ZN<|G (Kt Z Z)<|U<|ZT Z<|W<|Zr<|G (Wb Z)<|U<|Zt ?_
 have hv:fK ck nx t=false:=by
  cases hh:fK ck nx t
  rfl
  obtain⟨a1,a2,a3,a4,a5,a6,a7,a8,a9,a10,a11⟩:=ce.1 hh
  exfalso
  rw[hpo,hdrop]at a10
  simp only[cV,aQ,decide_eq_true_eq]at a10
  obtain⟨⟨q1,q2⟩,-⟩:=a10
  omega
 exact cn (v:=.bool false) Z Z ⟨by rw[hv],H.below⟩
 refine G (N Z Z)<|G (Yb Z)<|ZG<|G (Yi Z)<|ZG ?_
 refine dq (kj Z Z) Z Z Z (fun h82=> ?_) (fun h82=> ?_)
 refine ZG<|G (Yb Z)<|ZG<|G (Zf dC Z)<|ZG<|G (Zd cC H 0 Z Z Z)<|ZG<|G (Yi Z)<|ZG<|G (ng Z Z I I) ?_
 rw[show(k:Int)-1=((k-1:Nat):Int) by omega]
 refine ZG<|px H 0 Z bd Z Z I I Z fun b7 o7 x7 e7=> ?_
 have hprev:=e7.at_
 refine ZG<|G (bf al Z (e7.cl 0 _ Z))<|ZG<|G (Yi Z)<|ZG ?_
 refine dq (kk Z Z) Z Z Z (fun h91=> ?_) (fun h91=> ?_)
 refine ZG<|G (Kt Z Z)<|G (N Z Z)<|U<|ZT Z<|W<|Zr<|G (Wb Z)<|U<|Zt ?_
 have hv:fK ck nx t=false:=by
  cases hh:fK ck nx t
  rfl
  obtain⟨a1,a2,a3,a4,a5,a6,a7,a8,a9,a10,a11⟩:=ce.1 hh
  exfalso
  rw[hpo,hdrop]at a10
  simp only[cV,aQ,decide_eq_true_eq]at a10
  obtain⟨⟨q1,q2⟩,-⟩:=a10
  obtain⟨j,rfl⟩: ∃ j,k=j+1:=⟨k-1,by omega⟩;have:=hl1 j Z;rw[show j+1-1=j by omega,this]at hprev;injection hprev with hprev;omega
 exact cn (v:=.bool false) Z Z ⟨by rw[hv],H.below⟩
 refine ZG<|G (Kt Z Z)<|G (N Z Z)<|U<|ZF Z<|Zk<|Zr<|G (bn Z Z I I)<|G (Yi Z)<|U ?_
 have hlt:last<x6:=by
  obtain⟨j,rfl⟩: ∃ j,k=j+1:=⟨k-1,by omega⟩
  have h1:=hl1 j Z
  rw[show j+1-1=j by omega,h1]at hprev
  injection hprev with hprev
  omega
 have h4:x6<4:=by omega
 refine⟨(k+1,x6),⟨by omega,?_,fun h=>by omega,fun j hj=> ?_,by omega,H⟩,dO Z,Qg,by show t.parts.length- (k+1)<t.parts.length-k;omega⟩
 rw[hpo,hdrop];simp only[cV,decide_eq_true hlt,decide_eq_true h4,hZ]
 obtain rfl:j=k:=by omega
 exact hxk
 refine ZG<|G (Yb Z)<|ZN<|ZN<|ZN<|ZN<|ZN<|ZN<|ZN<|ZN<|ZG<|G (N Z Z)<|G (N Z Z)<|U<|ZF Z<|Zk<|Zr<|G (bn Z Z I I)<|G (Yi Z)<|U ?_
 have hlt:last<x6:=by
  have:=hl0 I
  omega
 have h4:x6<4:=by omega
 refine⟨(k+1,x6),⟨by omega,?_,fun h=>by omega,fun j hj=> ?_,by omega,H⟩,dO Z,Qg,by show t.parts.length- (k+1)<t.parts.length-k;omega⟩
 rw[hpo,hdrop];simp only[cV,decide_eq_true hlt,decide_eq_true h4,hZ]
 obtain rfl:j=k:=by omega
 exact hxk
 have hke:k=t.parts.length:=by omega
 have hall:cV (-1) t.parts=true:=by rw[hpo,hke,fz];rfl
 refine U<|W<|ZF Z<|Zx<|W<|Zr<|G (Zf cU Z)<|G (Zd al H 0 Z Z Z)<|G (br Z Z)<|G (Zf dC Z)<|G (Zd cC H 0 Z Z Z)<|G (bj eA Z)<|G (br Z Z)<|G (EG wI Z Z)<|G (Wb Z)<|U<|Zt ?_
 have hv:fK ck nx t=(decide (t.state=1)==decide ((t.parts.length:Int)=0)):=by
  rw[xG,ce,beq_iff_eq,decide_eq_decide]
  constructor
  rintro⟨-,-,-,-,-,-,-,-,-,-,h⟩
  exact h.trans ⟨fun x=>by omega,fun x=>by omega⟩
  intro h
  exact⟨by simpa using h11,by omega,by omega,by simpa using h29,by omega,by omega,by omega,by omega,by omega,hall,h.trans ⟨fun x=>by omega,fun x=>by omega⟩⟩
 exact cn (v:=.bool (decide (t.state=1)==decide ((t.parts.length:Int)=0))) Z Z ⟨by rw[hv],H.below⟩
 refine ZG<|G (Kt Z Z)<|ZG<|G (Yb Z)<|ZN<|ZN<|ZN<|ZG<|G (N Z Z)<|G (N Z Z)<|U<|ZF Z<|Zk<|W<|W<|Zr<|G (Zf dC Z)<|G (Zd cC H 0 Z Z Z)<|G (bj eA Z)<|G (Yi Z)<|U<|Zb ?_
 refine bW (τ:=Nat×Int) [4,5,6,69,70,71,72,73,74,75,76,77,78,79,80,81,82,83,84,85,86,87,88,89,90,91,92,93,94] (fun(k,_)=>[(69,J (k:Nat))]) (fun(k,last) w'=>k<=t.parts.length/\cV (-1) t.parts=cV last (t.parts.drop k)/\(k=0->last= -1)/\(∀ j,k=j+1->t.parts[j]? =some last)/\ -1<=last/\Hp w w' [(b3,.cells t.c.toArray dG (0,0))] [d4 bN 0 w.heap.size t.A t.parts]) (fun(k,_)=>t.parts.length-k) (0,-1) ⟨by omega,by rw[ji],fun _=>rfl,fun j hj=>by omega,by omega,H.forget (pI _ (.cons _ (au _))) (fun _ h=>h)⟩ (dO Z) ?_
 rintro⟨k,last⟩ ρ1 w8 ⟨hk,hpo,hl0,hl1,hl2,H⟩
 show CW _ _ _ _ (dH (gT _ _ ρ1) [(69,J (k:Nat))]) w8
 refine W<|Zr ?_
 refine dq (cL Z Z) Z Z Z (fun h70=> ?_) (fun h70=> ?_)
 refine U<|W<|ZT Z<|Zk<|W<|Zb<|W<|Zr<|G (Yi Z)<|px H 0 Z bd Z Z I I Z fun b9 o9 x9 e9=> ?_
 have hxk:=e9.at_
 have hdrop:=cM hxk
 refine G (bf al Z (e9.cl 0 _ Z))<|G (Wi Z)<|G (Wi Z)<|U<|W<|Zr<|G (Yi Z) ?_
 refine dq (cL Z Z) Z Z Z (fun h75=> ?_) (fun h75=> ?_)
 refine G (Yb Z)<|ZN<|ZN<|G (Kt Z Z)<|G (Yb Z)<|ZN<|ZN<|ZN<|ZN<|ZN<|ZN<|ZN<|ZN<|ZN<|ZN<|ZN<|ZN<|G (Kt Z Z)<|U<|ZT Z<|W<|Zr<|G (Wb Z)<|U<|Zt ?_
 have hv:fK ck nx t=false:=by
  cases hh:fK ck nx t
  rfl
  obtain⟨a1,a2,a3,a4,a5,a6,a7,a8,a9,a10,a11⟩:=ce.1 hh
  exfalso
  rw[hpo,hdrop]at a10
  simp only[cV,aQ,decide_eq_true_eq]at a10
  obtain⟨⟨q1,q2⟩,-⟩:=a10
  omega
 exact cn (v:=.bool false) Z Z ⟨by rw[hv],H.below⟩
 refine G (Yb Z)<|ZG<|G (Yi Z)<|ZG ?_
 refine dq (kk Z Z) Z Z Z (fun h78=> ?_) (fun h78=> ?_)
 refine G (N Z Z)<|G (Yb Z)<|ZN<|ZN<|ZN<|ZN<|ZN<|ZN<|ZN<|ZN<|ZN<|ZN<|ZN<|ZN<|G (Kt Z Z)<|U<|ZT Z<|W<|Zr<|G (Wb Z)<|U<|Zt ?_
 have hv:fK ck nx t=false:=by
  cases hh:fK ck nx t
  rfl
  obtain⟨a1,a2,a3,a4,a5,a6,a7,a8,a9,a10,a11⟩:=ce.1 hh
  exfalso
  rw[hpo,hdrop]at a10
  simp only[cV,aQ,decide_eq_true_eq]at a10
  obtain⟨⟨q1,q2⟩,-⟩:=a10
  omega
 exact cn (v:=.bool false) Z Z ⟨by rw[hv],H.below⟩
 refine G (N Z Z)<|G (Yb Z)<|ZG<|G (Yi Z)<|ZG ?_
 refine dq (kj Z Z) Z Z Z (fun h82=> ?_) (fun h82=> ?_)
 refine ZG<|G (Yb Z)<|ZG<|G (Zf dC Z)<|ZG<|G (Zd cC H 0 Z Z Z)<|ZG<|G (Yi Z)<|ZG<|G (ng Z Z I I) ?_
 rw[show(k:Int)-1=((k-1:Nat):Int) by omega]
 refine ZG<|px H 0 Z bd Z Z I I Z fun b10 o10 x10 e10=> ?_
 have hprev:=e10.at_
 refine ZG<|G (bf al Z (e10.cl 0 _ Z))<|ZG<|G (Yi Z)<|ZG ?_
 refine dq (kk Z Z) Z Z Z (fun h91=> ?_) (fun h91=> ?_)
 refine ZG<|G (Kt Z Z)<|G (N Z Z)<|U<|ZT Z<|W<|Zr<|G (Wb Z)<|U<|Zt ?_
 have hv:fK ck nx t=false:=by
  cases hh:fK ck nx t
  rfl
  obtain⟨a1,a2,a3,a4,a5,a6,a7,a8,a9,a10,a11⟩:=ce.1 hh
  exfalso
  rw[hpo,hdrop]at a10
  simp only[cV,aQ,decide_eq_true_eq]at a10
  obtain⟨⟨q1,q2⟩,-⟩:=a10
  obtain⟨j,rfl⟩: ∃ j,k=j+1:=⟨k-1,by omega⟩;have:=hl1 j Z;rw[show j+1-1=j by omega,this]at hprev;injection hprev with hprev;omega
 exact cn (v:=.bool false) Z Z ⟨by rw[hv],H.below⟩
 refine ZG<|G (Kt Z Z)<|G (N Z Z)<|U<|ZF Z<|Zk<|Zr<|G (bn Z Z I I)<|G (Yi Z)<|U ?_
 have hlt:last<x9:=by
  obtain⟨j,rfl⟩: ∃ j,k=j+1:=⟨k-1,by omega⟩
  have h1:=hl1 j Z
  rw[show j+1-1=j by omega,h1]at hprev
  injection hprev with hprev
  omega
 have h4:x9<4:=by omega
 refine⟨(k+1,x9),⟨by omega,?_,fun h=>by omega,fun j hj=> ?_,by omega,H⟩,dO Z,Qg,by show t.parts.length- (k+1)<t.parts.length-k;omega⟩
 rw[hpo,hdrop];simp only[cV,decide_eq_true hlt,decide_eq_true h4,hZ]
 obtain rfl:j=k:=by omega
 exact hxk
 refine ZG<|G (Yb Z)<|ZN<|ZN<|ZN<|ZN<|ZN<|ZN<|ZN<|ZN<|ZG<|G (N Z Z)<|G (N Z Z)<|U<|ZF Z<|Zk<|Zr<|G (bn Z Z I I)<|G (Yi Z)<|U ?_
 have hlt:last<x9:=by
  have:=hl0 I
  omega
 have h4:x9<4:=by omega
 refine⟨(k+1,x9),⟨by omega,?_,fun h=>by omega,fun j hj=> ?_,by omega,H⟩,dO Z,Qg,by show t.parts.length- (k+1)<t.parts.length-k;omega⟩
 rw[hpo,hdrop];simp only[cV,decide_eq_true hlt,decide_eq_true h4,hZ]
 obtain rfl:j=k:=by omega
 exact hxk
 have hke:k=t.parts.length:=by omega
 have hall:cV (-1) t.parts=true:=by rw[hpo,hke,fz];rfl
 refine U<|W<|ZF Z<|Zx<|W<|Zr<|G (Zf cU Z)<|G (Zd al H 0 Z Z Z)<|G (br Z Z)<|G (Zf dC Z)<|G (Zd cC H 0 Z Z Z)<|G (bj eA Z)<|G (br Z Z)<|G (EG wI Z Z)<|G (Wb Z)<|U<|Zt ?_
 have hv:fK ck nx t=(decide (t.state=1)==decide ((t.parts.length:Int)=0)):=by
  rw[xG,ce,beq_iff_eq,decide_eq_decide]
  constructor
  rintro⟨-,-,-,-,-,-,-,-,-,-,h⟩
  exact h.trans ⟨fun x=>by omega,fun x=>by omega⟩
  intro h
  exact⟨by simpa using h11,by omega,by omega,by simpa using h29,by omega,by omega,by omega,by omega,by omega,hall,h.trans ⟨fun x=>by omega,fun x=>by omega⟩⟩
 exact cn (v:=.bool (decide (t.state=1)==decide ((t.parts.length:Int)=0))) Z Z ⟨by rw[hv],H.below⟩
 refine ZG<|G (Yb Z)<|ZN<|ZN<|ZN<|ZG<|G (N Z Z)<|ZG<|G (Yb Z)<|ZN<|ZN<|ZN<|ZG<|G (N Z Z)<|G (N Z Z)<|U<|ZF Z<|Zk<|W<|W<|Zr<|G (Zf dC Z)<|G (Zd cC H 0 Z Z Z)<|G (bj eA Z)<|G (Yi Z)<|U<|Zb ?_
 refine bW (τ:=Nat×Int) [4,5,6,69,70,71,72,73,74,75,76,77,78,79,80,81,82,83,84,85,86,87,88,89,90,91,92,93,94] (fun(k,_)=>[(69,J (k:Nat))]) (fun(k,last) w'=>k<=t.parts.length/\cV (-1) t.parts=cV last (t.parts.drop k)/\(k=0->last= -1)/\(∀ j,k=j+1->t.parts[j]? =some last)/\ -1<=last/\Hp w w' [(b3,.cells t.c.toArray dG (0,0))] [d4 bN 0 w.heap.size t.A t.parts]) (fun(k,_)=>t.parts.length-k) (0,-1) ⟨by omega,by rw[ji],fun _=>rfl,fun j hj=>by omega,by omega,H.forget (pI _ (.cons _ (au _))) (fun _ h=>h)⟩ (dO Z) ?_
 rintro⟨k,last⟩ ρ1 w11 ⟨hk,hpo,hl0,hl1,hl2,H⟩
 show CW _ _ _ _ (dH (gT _ _ ρ1) [(69,J (k:Nat))]) w11
 refine W<|Zr ?_
 refine dq (cL Z Z) Z Z Z (fun h70=> ?_) (fun h70=> ?_)
 refine U<|W<|ZT Z<|Zk<|W<|Zb<|W<|Zr<|G (Yi Z)<|px H 0 Z bd Z Z I I Z fun b12 o12 x12 e12=> ?_
 have hxk:=e12.at_
 have hdrop:=cM hxk
 refine G (bf al Z (e12.cl 0 _ Z))<|G (Wi Z)<|G (Wi Z)<|U<|W<|Zr<|G (Yi Z) ?_
 refine dq (cL Z Z) Z Z Z (fun h75=> ?_) (fun h75=> ?_)
 refine G (Yb Z)<|ZN<|ZN<|G (Kt Z Z)<|G (Yb Z)<|ZN<|ZN<|ZN<|ZN<|ZN<|ZN<|ZN<|ZN<|ZN<|ZN<|ZN<|ZN<|G (Kt Z Z)<|U<|ZT Z<|W<|Zr<|G (Wb Z)<|U<|Zt ?_
 have hv:fK ck nx t=false:=by
  cases hh:fK ck nx t
  rfl
  obtain⟨a1,a2,a3,a4,a5,a6,a7,a8,a9,a10,a11⟩:=ce.1 hh
  exfalso
  rw[hpo,hdrop]at a10
  simp only[cV,aQ,decide_eq_true_eq]at a10
  obtain⟨⟨q1,q2⟩,-⟩:=a10
  omega
 exact cn (v:=.bool false) Z Z ⟨by rw[hv],H.below⟩
 refine G (Yb Z)<|ZG<|G (Yi Z)<|ZG ?_
 refine dq (kk Z Z) Z Z Z (fun h78=> ?_) (fun h78=> ?_)
 refine G (N Z Z)<|G (Yb Z)<|ZN<|ZN<|ZN<|ZN<|ZN<|ZN<|ZN<|ZN<|ZN<|ZN<|ZN<|ZN<|G (Kt Z Z)<|U<|ZT Z<|W<|Zr<|G (Wb Z)<|U<|Zt ?_
 have hv:fK ck nx t=false:=by
  cases hh:fK ck nx t
  rfl
  obtain⟨a1,a2,a3,a4,a5,a6,a7,a8,a9,a10,a11⟩:=ce.1 hh
  exfalso
  rw[hpo,hdrop]at a10
  simp only[cV,aQ,decide_eq_true_eq]at a10
  obtain⟨⟨q1,q2⟩,-⟩:=a10
  omega
 exact cn (v:=.bool false) Z Z ⟨by rw[hv],H.below⟩
 refine G (N Z Z)<|G (Yb Z)<|ZG<|G (Yi Z)<|ZG ?_
 refine dq (kj Z Z) Z Z Z (fun h82=> ?_) (fun h82=> ?_)
 refine ZG<|G (Yb Z)<|ZG<|G (Zf dC Z)<|ZG<|G (Zd cC H 0 Z Z Z)<|ZG<|G (Yi Z)<|ZG<|G (ng Z Z I I) ?_
 rw[show(k:Int)-1=((k-1:Nat):Int) by omega]
 refine ZG<|px H 0 Z bd Z Z I I Z fun b13 o13 x13 e13=> ?_
 have hprev:=e13.at_
 refine ZG<|G (bf al Z (e13.cl 0 _ Z))<|ZG<|G (Yi Z)<|ZG ?_
 refine dq (kk Z Z) Z Z Z (fun h91=> ?_) (fun h91=> ?_)
 refine ZG<|G (Kt Z Z)<|G (N Z Z)<|U<|ZT Z<|W<|Zr<|G (Wb Z)<|U<|Zt ?_
 have hv:fK ck nx t=false:=by
  cases hh:fK ck nx t
  rfl
  obtain⟨a1,a2,a3,a4,a5,a6,a7,a8,a9,a10,a11⟩:=ce.1 hh
  exfalso
  rw[hpo,hdrop]at a10
  simp only[cV,aQ,decide_eq_true_eq]at a10
  obtain⟨⟨q1,q2⟩,-⟩:=a10
  obtain⟨j,rfl⟩: ∃ j,k=j+1:=⟨k-1,by omega⟩;have:=hl1 j Z;rw[show j+1-1=j by omega,this]at hprev;injection hprev with hprev;omega
 exact cn (v:=.bool false) Z Z ⟨by rw[hv],H.below⟩
 refine ZG<|G (Kt Z Z)<|G (N Z Z)<|U<|ZF Z<|Zk<|Zr<|G (bn Z Z I I)<|G (Yi Z)<|U ?_
 have hlt:last<x12:=by
  obtain⟨j,rfl⟩: ∃ j,k=j+1:=⟨k-1,by omega⟩
  have h1:=hl1 j Z
  rw[show j+1-1=j by omega,h1]at hprev
  injection hprev with hprev
  omega
 have h4:x12<4:=by omega
 refine⟨(k+1,x12),⟨by omega,?_,fun h=>by omega,fun j hj=> ?_,by omega,H⟩,dO Z,Qg,by show t.parts.length- (k+1)<t.parts.length-k;omega⟩
 rw[hpo,hdrop];simp only[cV,decide_eq_true hlt,decide_eq_true h4,hZ]
 obtain rfl:j=k:=by omega
 exact hxk
 refine ZG<|G (Yb Z)<|ZN<|ZN<|ZN<|ZN<|ZN<|ZN<|ZN<|ZN<|ZG<|G (N Z Z)<|G (N Z Z)<|U<|ZF Z<|Zk<|Zr<|G (bn Z Z I I)<|G (Yi Z)<|U ?_
 have hlt:last<x12:=by
  have:=hl0 I
  omega
 have h4:x12<4:=by omega
 refine⟨(k+1,x12),⟨by omega,?_,fun h=>by omega,fun j hj=> ?_,by omega,H⟩,dO Z,Qg,by show t.parts.length- (k+1)<t.parts.length-k;omega⟩
 rw[hpo,hdrop];simp only[cV,decide_eq_true hlt,decide_eq_true h4,hZ]
 obtain rfl:j=k:=by omega
 exact hxk
 have hke:k=t.parts.length:=by omega
 have hall:cV (-1) t.parts=true:=by rw[hpo,hke,fz];rfl
 refine U<|W<|ZF Z<|Zx<|W<|Zr<|G (Zf cU Z)<|G (Zd al H 0 Z Z Z)<|G (br Z Z)<|G (Zf dC Z)<|G (Zd cC H 0 Z Z Z)<|G (bj eA Z)<|G (br Z Z)<|G (EG wI Z Z)<|G (Wb Z)<|U<|Zt ?_
 have hv:fK ck nx t=(decide (t.state=1)==decide ((t.parts.length:Int)=0)):=by
  rw[xG,ce,beq_iff_eq,decide_eq_decide]
  constructor
  rintro⟨-,-,-,-,-,-,-,-,-,-,h⟩
  exact h.trans ⟨fun x=>by omega,fun x=>by omega⟩
  intro h
  exact⟨by simpa using h11,by omega,by omega,by simpa using h29,by omega,by omega,by omega,by omega,by omega,hall,h.trans ⟨fun x=>by omega,fun x=>by omega⟩⟩
 exact cn (v:=.bool (decide (t.state=1)==decide ((t.parts.length:Int)=0))) Z Z ⟨by rw[hv],H.below⟩
/-- a coordinator, and where its rows lie -/
structure Co where
 clock:Int
 next:Int
 wait:Int
 txs:List Tx
 A:Option Addr
 cap:Nat
def Co.c (c:Co):List Value:=[J c.clock,J c.next,J c.wait,.slice c.A c.txs.length c.cap]
abbrev Co.v (c:Co):Value:=.agg c.c.toArray
def iM (lo hi:Nat) (txs:List Tx):cf:=⟨lo,hi,fun w=> ∀ t∈txs,Rd bN lo hi t.A t.parts w,fun _ _ hk h t ht=>(h t ht).st hk⟩
theorem fB {w0 w:World} {L:List (Nat×Obj)} {F:List cf} {lo hi:Nat} {txs:List Tx} (H:Hp w0 w L F) (i:Nat) (hF:F[i]? =some (iM lo hi txs)) {t:Tx} (ht:t∈txs):Rd bN 0 w.heap.size t.A t.parts w:=
 Rd.mono ((H.fact hF) t ht) (bx _) (H.facts _ (ab hF)).2.1
def sQ (t:Tx) (p:Tx):Bool:=decide (p.name=t.name)||decide (p.pid=t.pid)
def oa (ck nx:Int):List Tx->List Tx->Bool
 |_,[]=>true
 |pre,t::l=>fK ck nx t&&!(pre.any (sQ t))&&oa ck nx (pre++[t]) l
def gI (c:Co):Bool:=iH c.clock&&decide (1<=c.next)&&decide (c.next<=1073741824)&&decide (1<=c.wait)&&decide (c.wait<=1000)&&decide ((c.txs.length:Int)<=8)&&oa c.clock c.next [] c.txs
theorem i7 {c:Co}:gI c=true↔iH c.clock=true/\1<=c.next/\c.next<=1073741824/\1<=c.wait/\c.wait<=1000/\(c.txs.length:Int)<=8/\oa c.clock c.next [] c.txs=true:=by
 unfold gI
 simp only[aQ,decide_eq_true_eq,and_assoc]
structure Co.rd (c:Co) (lo hi:Nat) (w:World):Prop where
 row:Rd rX lo hi c.A c.txs w
 parts: ∀ t∈c.txs,Rd bN lo hi t.A t.parts w
 cap:c.txs.length<=c.cap
 few:c.txs.length<=1000000
 fewP: ∀ t∈c.txs,t.parts.length<=1000000/\t.parts.length<=t.cap
theorem Hp.startCo {c:Co} {w:World} (h:c.rd 0 w.heap.size w):Hp w w [] [d4 rX 0 w.heap.size c.A c.txs,iM 0 w.heap.size c.txs]:=
 ((Hp.start w).learnOld (iM 0 w.heap.size c.txs) h.parts (ao _)).learnOld (d4 rX 0 w.heap.size c.A c.txs) h.row (ao _)
theorem qu (c:Co) (w:World) (h:c.rd 0 w.heap.size w):dt aa B1 [c.v] w fun v w2=>v=J (if gI c then 0 else 12)/\Below w.heap.size w w2:=by
 refine aG Ba Z Z ?_
 have hcap:=h.cap
 have hfew:=h.few
 have hfp:=h.fewP
 have H:=Hp.startCo h
 obtain⟨ck,nx,wt,txs,cA,cc⟩:=c
 dsimp only at hcap hfew hfp H
 show CW _ _ _ _ (args [.agg #[J ck,J nx,J wt,.slice cA txs.length cc]]) w
 refine W<|Zr<|gM H Z Z fun w1 b1 H=>G (Wi Z)<|U<|W<|W<|Zr<|G (Zf kw Z)<|G (Zd al H 0 Z Z Z)<|cz tD (Bo ck _) Z Z ?_
 rintro _ w2 ⟨rfl,hb⟩;replace H:=H.later hb;clear hb
 refine G (d7 Z)<|G (Yb Z) ?_
 refine nB 9 Z (fun h9=> ?_) (fun h9=> ?_)
 refine ZN<|ZN<|ZN<|G (Kt Z Z)<|G (Yb Z)<|ZN<|ZN<|ZN<|G (Kt Z Z)<|G (Yb Z)<|ZN<|ZN<|ZN<|G (Kt Z Z)<|G (Yb Z)<|ZN<|ZN<|ZN<|G (Kt Z Z)<|G (Yb Z)<|ZN<|ZN<|ZN<|ZN<|G (Kt Z Z)<|U<|ZT Z<|W<|Zr<|G (Wi Z)<|U<|Zt ?_
 have hv:gI ⟨ck,nx,wt,txs,cA,cc⟩=false:=by
  cases hh:gI ⟨ck,nx,wt,txs,cA,cc⟩
  rfl
  obtain⟨a1,a2,a3,a4,a5,a6,a7⟩:=i7.1 hh
  dsimp only at a1 a2 a3 a4 a5 a6 a7
  exfalso
  first|omega|simp_all
 exact cn (v:=J 12) Z Z ⟨by rw[hv];rfl,H.below⟩
 refine ZG<|G (Zf ku Z)<|ZG<|G (Zd al H 0 Z Z Z)<|ZG ?_
 refine dq (cL Z Z) Z Z Z (fun h12=> ?_) (fun h12=> ?_)
 refine G (N Z Z)<|G (Yb Z)<|ZN<|ZN<|ZN<|G (Kt Z Z)<|G (Yb Z)<|ZN<|ZN<|ZN<|G (Kt Z Z)<|G (Yb Z)<|ZN<|ZN<|ZN<|G (Kt Z Z)<|G (Yb Z)<|ZN<|ZN<|ZN<|ZN<|G (Kt Z Z)<|U<|ZT Z<|W<|Zr<|G (Wi Z)<|U<|Zt ?_
 have hv:gI ⟨ck,nx,wt,txs,cA,cc⟩=false:=by
  cases hh:gI ⟨ck,nx,wt,txs,cA,cc⟩
  rfl
  obtain⟨a1,a2,a3,a4,a5,a6,a7⟩:=i7.1 hh
  dsimp only at a1 a2 a3 a4 a5 a6 a7
  exfalso
  first|omega|simp_all
 exact cn (v:=J 12) Z Z ⟨by rw[hv];rfl,H.below⟩
 refine G (N Z Z)<|G (Yb Z)<|ZG<|G (Zf ku Z)<|ZG<|G (Zd al H 0 Z Z Z)<|ZG ?_
 refine dq (kj Z Z) Z Z Z (fun h17=> ?_) (fun h17=> ?_)
 refine G (N Z Z)<|G (Yb Z)<|ZN<|ZN<|ZN<|G (Kt Z Z)<|G (Yb Z)<|ZN<|ZN<|ZN<|G (Kt Z Z)<|G (Yb Z)<|ZN<|ZN<|ZN<|ZN<|G (Kt Z Z)<|U<|ZT Z<|W<|Zr<|G (Wi Z)<|U<|Zt ?_
 have hv:gI ⟨ck,nx,wt,txs,cA,cc⟩=false:=by
  cases hh:gI ⟨ck,nx,wt,txs,cA,cc⟩
  rfl
  obtain⟨a1,a2,a3,a4,a5,a6,a7⟩:=i7.1 hh
  dsimp only at a1 a2 a3 a4 a5 a6 a7
  exfalso
  first|omega|simp_all
 exact cn (v:=J 12) Z Z ⟨by rw[hv];rfl,H.below⟩
 refine G (N Z Z)<|G (Yb Z)<|ZG<|G (Zf wq Z)<|ZG<|G (Zd al H 0 Z Z Z)<|ZG ?_
 refine dq (cL Z Z) Z Z Z (fun h22=> ?_) (fun h22=> ?_)
 refine G (N Z Z)<|G (Yb Z)<|ZN<|ZN<|ZN<|G (Kt Z Z)<|G (Yb Z)<|ZN<|ZN<|ZN<|ZN<|G (Kt Z Z)<|U<|ZT Z<|W<|Zr<|G (Wi Z)<|U<|Zt ?_
 have hv:gI ⟨ck,nx,wt,txs,cA,cc⟩=false:=by
  cases hh:gI ⟨ck,nx,wt,txs,cA,cc⟩
  rfl
  obtain⟨a1,a2,a3,a4,a5,a6,a7⟩:=i7.1 hh
  dsimp only at a1 a2 a3 a4 a5 a6 a7
  exfalso
  first|omega|simp_all
 exact cn (v:=J 12) Z Z ⟨by rw[hv];rfl,H.below⟩
 refine G (N Z Z)<|G (Yb Z)<|ZG<|G (Zf wq Z)<|ZG<|G (Zd al H 0 Z Z Z)<|ZG ?_
 refine dq (kj Z Z) Z Z Z (fun h27=> ?_) (fun h27=> ?_)
 refine G (N Z Z)<|G (Yb Z)<|ZN<|ZN<|ZN<|ZN<|G (Kt Z Z)<|U<|ZT Z<|W<|Zr<|G (Wi Z)<|U<|Zt ?_
 have hv:gI ⟨ck,nx,wt,txs,cA,cc⟩=false:=by
  cases hh:gI ⟨ck,nx,wt,txs,cA,cc⟩
  rfl
  obtain⟨a1,a2,a3,a4,a5,a6,a7⟩:=i7.1 hh
  dsimp only at a1 a2 a3 a4 a5 a6 a7
  exfalso
  first|omega|simp_all
 exact cn (v:=J 12) Z Z ⟨by rw[hv];rfl,H.below⟩
 refine G (N Z Z)<|G (Yb Z)<|ZG<|G (Zf cP Z)<|ZG<|G (Zd dK H 0 Z Z Z)<|ZG<|G (bj lk Z)<|ZG ?_
 refine dq (kj Z Z) Z Z Z (fun h33=> ?_) (fun h33=> ?_)
 refine G (N Z Z)<|U<|ZT Z<|W<|Zr<|G (Wi Z)<|U<|Zt ?_
 have hv:gI ⟨ck,nx,wt,txs,cA,cc⟩=false:=by
  cases hh:gI ⟨ck,nx,wt,txs,cA,cc⟩
  rfl
  obtain⟨a1,a2,a3,a4,a5,a6,a7⟩:=i7.1 hh
  dsimp only at a1 a2 a3 a4 a5 a6 a7
  exfalso
  first|omega|simp_all
 exact cn (v:=J 12) Z Z ⟨by rw[hv];rfl,H.below⟩
 refine G (N Z Z)<|U<|ZF Z<|Zk<|W<|W<|Zr<|G (Zf cP Z)<|G (Zd dK H 0 Z Z Z)<|G (bj lk Z)<|G (Yi Z)<|U<|Zb ?_
 refine bW (τ:=Nat) [2,3,4,38,39,40,41,42,43,44,45,46,47,48,49,50,51,52,53,54,55] (fun k=>[(38,J (k:Nat))]) (fun k w'=>k<=txs.length/\oa ck nx [] txs=oa ck nx (txs.take k) (txs.drop k)/\Hp w w' [(b1,.cells #[J ck,J nx,J wt,.slice cA txs.length cc] bc (0,0))] [d4 rX 0 w.heap.size cA txs,iM 0 w.heap.size txs]) (fun k=>txs.length-k) 0 ⟨by omega,by rw[ji,y7],H⟩ (dO Z) ?_
 rintro k ρ1 w3 ⟨hk,hto,H⟩
 show CW _ _ _ _ (dH (gT _ _ ρ1) [(38,J (k:Nat))]) w3
 refine W<|Zr ?_
 refine dq (cL Z Z) Z Z Z (fun h39=> ?_) (fun h39=> ?_)
 refine U<|W<|ZT Z<|Zk<|W<|Zb<|W<|Zr<|G (Yi Z)<|px H 0 Z gK Z Z I I Z fun b4 o4 x4 e4=> ?_
 have hxk:=e4.at_
 have hdrop:=cM hxk
 refine G (jL (xs:=Tx.c x4) zH Z Z e4.cl)<|fg H HV Z fun w5 b4 H=>G (Wi Z)<|KT H 0 Ic Z Z Z Z Z Z fun w6 H=>U<|W<|Zr<|G (Zw ay H 1 Z Z Z)<|G (Zw zH H 0 Z Z Z)<|cz EC (ON ck nx wt cA txs.length cc x4 _ (fB H 1 Z (ab hxk)) (hfp _ (ab hxk)).1) Z Z ?_
 rintro _ w7 ⟨rfl,hb⟩;replace H:=H.later hb;clear hb
 refine G (d7 Z)<|G (Yb Z) ?_
 refine nB 47 Z (fun h47=> ?_) (fun h47=> ?_)
 refine ZN<|ZN<|ZN<|ZN<|ZN<|ZN<|G (Kt Z Z)<|U<|ZT Z<|W<|Zr<|G (Wi Z)<|U<|Zt ?_
 have hv:gI ⟨ck,nx,wt,txs,cA,cc⟩=false:=by
  cases hh:gI ⟨ck,nx,wt,txs,cA,cc⟩
  rfl
  obtain⟨a1,a2,a3,a4,a5,a6,a7⟩:=i7.1 hh
  dsimp only at a1 a2 a3 a4 a5 a6 a7
  exfalso
  rw[hto,hdrop]at a7
  simp only[oa,aQ]at a7
  obtain⟨⟨q1,q2⟩,-⟩:=a7
  rw[pJ]at q2
  first|(rw[q2]at hc54;cases hc54)|simp_all
 exact cn (v:=J 12) Z Z ⟨by rw[hv];rfl,H.below⟩
 refine ZG<|G (Zf cP Z)<|ZG<|G (Zd dK H 1 Z Z Z)<|ZG<|G (Yi Z)<|ZG<|vU (k:=k) H 0 Z gK Z Z hcap I Z fun A51 H=> ?_
 have htl:(txs.take k).length=k:=by rw[aF];omega
 refine ZG<|G (Ai Z)<|ZG ?_
 have hC:=fun q=>vh (txs.take k) A51 q _ (H.rd0 0 Z) I sr [.pointer (Qd b4)] xu (sQ x4) (fun e w2 _ hw2=>Gf e x4 b4 w2 ((hw2.block _ (bU (H.ent (i:=0) Z))).trans (H.ent (i:=0) Z)))
 rw[htl]at hC
 replace hC:=hC cc
 refine cz nb (hC) Z Z ?_
 rintro _ w8 ⟨rfl,hb⟩;replace H:=H.later hb;clear hb
 refine G (N Z Z)<|U ?_
 refine kD Z (fun hc54=> ?_) (fun hc54=> ?_)
 refine W<|Zr<|G (Wi Z)<|U<|Zt ?_
 have hv:gI ⟨ck,nx,wt,txs,cA,cc⟩=false:=by
  cases hh:gI ⟨ck,nx,wt,txs,cA,cc⟩
  rfl
  obtain⟨a1,a2,a3,a4,a5,a6,a7⟩:=i7.1 hh
  dsimp only at a1 a2 a3 a4 a5 a6 a7
  exfalso
  rw[hto,hdrop]at a7
  simp only[oa,aQ]at a7
  obtain⟨⟨q1,q2⟩,-⟩:=a7
  rw[pJ]at q2
  first|(rw[q2]at hc54;cases hc54)|simp_all
 exact cn (v:=J 12) Z Z ⟨by rw[hv];rfl,H.below⟩
 refine Zk<|Zr<|G (bn Z Z I I)<|G (Yi Z)<|U ?_
 refine⟨k+1,⟨by omega,?_,H.forget (.cons _ (au _)) (fun _ h=>aj _ h)⟩,dO Z,Qg,by show txs.length- (k+1)<txs.length-k;omega⟩
 rw[hto,hdrop,dY hxk]
 simp only[oa]
 simp_all
 have hke:k=txs.length:=by omega
 have hall:oa ck nx [] txs=true:=by rw[hto,hke,fz];rfl
 refine U<|W<|ZF Z<|Zx<|W<|Zr<|G (Wi Z)<|U<|Zt ?_
 have hv:gI ⟨ck,nx,wt,txs,cA,cc⟩=true:=i7.2 ⟨by simpa using h9,by dsimp only;omega,by dsimp only;omega,by dsimp only;omega,by dsimp only;omega,by dsimp only;omega,hall⟩
 exact cn (v:=J 0) Z Z ⟨by rw[hv];rfl,H.below⟩
def Tx.a (t:Tx):Tx:={t with A:=none,cap:=0}
theorem iT {α:Type} {l:List α} {k:Nat} {a:α} (h:l[k]? =some a):l.set k a=l:=by
 apply ei
 intro i
 rw[lx]
 split
 rename_i hi
 subst hi
 split
 exact h.symm
 rename_i h2;rw[cG I]
 rfl
theorem KL {α:Type} {l:List α} {k:Nat} (h:k<l.length) (a:α):(l.set k a).take (k+1)=l.take k++[a]:=by
 rw[dY (e:=a) (by rw[am h]),zI (ao k)]
theorem Dh {out txs:List Tx} {k:Nat} {x x':Tx} (hx:out[k]? =some x) (hma:out.map Tx.a=txs.map Tx.a) (hdr:out.drop k=txs.drop k) (ha:x'.a=x.a):(out.set k x').map Tx.a=txs.map Tx.a/\(out.set k x').drop (k+1)=txs.drop (k+1)/\(out.set k x').take (k+1)=out.take k++[x']:=by
 refine⟨?_,?_,KL (cu hx).1 x'⟩
 rw[cT,ha,<-hma]
 exact iT (by rw[aH,hx];rfl)
 rw[sD I]
 have:=congrArg (List.drop 1) hdr
 rwa[j7,j7]at this
def Co.a (c:Co):Co:={c with txs:=c.txs.map Tx.a,A:=none,cap:=0}
theorem Hp.joinParts {w0 w:World} {L:List (Nat×Obj)} {F:List cf} {a b lo hi:Nat} {ts:List Tx} {t:Tx} (H:Hp w0 w L (d4 bN a b t.A t.parts::iM lo hi ts::F)) (hL: ∀ e∈L,e.1<lo) (hlo:lo<=a) (hhi:hi<=b):Hp w0 w L (iM lo b (ts++[t])::F):=by
 refine⟨H.below,H.ents,H.nodup,fun f hf=> ?_⟩
 rcases av.1 hf with rfl|hf
 have h1:=H.facts _ (az ..)
 have h2:=H.facts _ (aj _ (az ..))
 refine⟨fun x hx=> ?_,h1.2.1,fun e he=> .inl (hL e he)⟩
 rcases aq.1 hx with hx|hx
 exact Rd.mono (h2.1 x hx) (ao _) hhi
 rw[ar.1 hx]
 exact Rd.mono (lo':=lo) (hi':=b) (show Rd bN a b t.A t.parts w from h1.1) hlo (ao _)
 exact H.facts f (aj _ (aj _ hf))
theorem Jq {w0 w:World} {L:List (Nat×Obj)} {F:List cf} (H:Hp w0 w L F) (lo:Nat) (hlo: ∀ e∈L,e.1<lo) (h:lo<=w.heap.size):Hp w0 w L (iM lo lo []::F):=by
 refine⟨H.below,H.ents,H.nodup,fun f hf=> ?_⟩
 rcases av.1 hf with rfl|hf
 exact⟨fun x hx=>absurd hx (by simp),h,fun e he=> .inl (hlo e he)⟩
 exact H.facts f hf
theorem xp (es:List Tx) (A:Option Addr) (c:Nat) (w:World) (hr:Rd rX 0 w.heap.size A es w) (hb:es.length*80<=140737488355328):
  dt aa si [.slice A es.length c] w fun v w2=> ∃ A' c' L',v=.slice A' es.length c'/\es.length<=c'/\c'<=maxLen/\gH rX (.slice A' es.length c') dG es L'/\Hp w w2 L' []:=by
 refine aG rH Z Z ?_
 have H:=Hp.startRd hr
 refine W<|Zr<|G (Ws Z)<|U<|W<|W<|Zr<|G (Ys Z) ?_
 refine zB (pO lk Z) Z Z Z (fun h4=> ?_) (fun h4=> ?_)
 refine U<|ZT Z<|W<|Zr<|G (Ws Z)<|U<|Zt ?_
 have he:es=[]:=by
  cases es with
  |nil=>rfl
  |cons e es=>obtain⟨b,o,hA,_⟩:=hr (by simp);subst hA;cases h4
 subst he
 exact cn Z Z ⟨none,0,[],rfl,by simp,by decide,gH.nil,H.forget (by simp) (by simp)⟩
 refine U<|ZF Z<|Zk<|W<|Zr<|Od H gK Z fun w1 b5 H=>G (Ys Z)<|xA (Y:=rX) IP (K:=[]) (L:=[(b5,_)]) (M:=[]) H (rV.lit (by decide) (by rfl)) (es:=[]) (news:=es) Z Z Z (Rd.src (H.fact (i:=0) Z)) (by simpa using hb) Z ?_
 intro A3 c3 w3 L3 h3a h3b ho3 H
 refine G (Ws Z)<|U<|Zt ?_
 exact cn Z Z ⟨A3,c3,L3,rfl,h3a,h3b,ho3,H.forget (by simp) (by simp)⟩
theorem yt (c:Co) (w:World) (h:c.rd 0 w.heap.size w):dt aa xb [c.v] w fun v w2=> ∃ (c':Co) (L':List (Nat×Obj)) (lo hi:Nat),v=c'.v/\c'.a=c.a/\gH rX (.slice c'.A c'.txs.length c'.cap) dG c'.txs L'/\c'.txs.length<=c'.cap/\(∀ t∈c'.txs,t.parts.length<=t.cap)/\w.heap.size<=lo/\Hp w w2 L' [iM lo hi c'.txs]:=by
 refine aG vA Z Z ?_
 have hcap:=h.cap
 have hfew:=h.few
 have hfp:=h.fewP
 have H:=Hp.startCo h
 obtain⟨ck,nx,wt,txs,cA,cc⟩:=c
 dsimp only at hcap hfew hfp H
 show CW _ _ _ _ (args [.agg #[J ck,J nx,J wt,.slice cA txs.length cc]]) w
 refine W<|Zr<|gM H Z Z fun w1 b1 H=>fg H cH Z fun w2 b2 H=>U<|W<|Zr<|G (Zf cP Z)<|G (Zd dK H 1 Z Z Z)<|cz lr (xp txs cA cc _ (H.rd0 0 Z) I) Z Z ?_
 rintro _ w3 ⟨A6,c6,L6,rfl,hc6,hm6,ho6,hj6⟩;replace H:=H.joinR hj6;clear hj6
 refine G (Zf cP Z)<|bC H 1 (#[J ck,J nx,J wt,.slice A6 txs.length c6]) zZ Z Z Z Z Z N N fun w4 H=>U<|W<|W ?_
 have hlt0:=H.ltAll
 obtain⟨lo,hlo⟩: ∃ lo,lo=w4.heap.size:=⟨_,rfl⟩
 rw[<-hlo]at hlt0
 have hlow:w.heap.size<=lo:=by rw[hlo];exact H.size
 replace H:=Jq H lo hlt0 I
 have hb1:b1<lo:=hlt0 (b1,_) (qP _ (hM _))
 have hb2:b2<lo:=hlt0 (b2,_) (hM _)
 have hL6: ∀ e∈L6,e.1<lo:=fun e he=>hlt0 e (qP _ (qP _ (ir _ he)))
 refine Zr<|G (Zf cP Z)<|G (Zd dK H 1 Z Z Z)<|G (bj lk Z)<|G (Yi Z)<|U<|Zb ?_
 refine bW (τ:=Nat×List Tx×Option Addr×Nat×Nat) [3,11,12,13,14,15,16,17,18,19,20,21,22,23,24,25,26] (fun(k,_)=>[(11,J (k:Nat))]) (fun(k,out,A1,c1,hi) w'=>k<=out.length/\out.length=txs.length/\out.length<=c1/\out.map Tx.a=txs.map Tx.a/\out.drop k=txs.drop k/\(∀ t∈out.take k,t.parts.length<=t.cap)/\lo<=w'.heap.size/\ ∃ L',gH rX (.slice A1 out.length c1) dG out L'/\(∀ e∈L',e.1<lo)/\Hp w w' ([(b2,.cells #[J 0,J 0,J 0,.slice none 0 0] bc (0,0)),(b1,.cells #[J ck,J nx,J wt,.slice A1 out.length c1] bc (0,0))]++L'++[]) [iM lo hi (out.take k),d4 rX 0 w.heap.size cA txs,iM 0 w.heap.size txs]) (fun(k,out,_)=>out.length-k) (0,txs,A6,c6,lo) ⟨by omega,rfl,hc6,rfl,rfl,by simp,by omega,L6,ho6,hL6,H⟩ (dO Z) ?_
 rintro⟨k,out,A1,c1,hi⟩ ρ1 w5 ⟨hk,hol,hoc,hma,hdr,hpc,hlw,L1,ho,hL1,H⟩
 show CW _ _ _ _ (dH (gT _ _ ρ1) [(11,J (k:Nat))]) w5
 refine W<|Zr ?_
 refine dq (cL Z Z) Z Z Z (fun h12=> ?_) (fun h12=> ?_)
 refine U<|W<|ZT Z<|Zk<|W<|Zb<|W ?_
 obtain⟨x,hx⟩: ∃ x,out[k]? =some x:=⟨_,ai I⟩
 have hxt:txs[k]? =some x:=by have:=congrArg (fun l=>l[0]?) hdr;simp only[dk,pB]at this;rw[<-this];exact hx
 have hmem:=ab hxt
 have hfx:=(hfp x hmem).1
 obtain⟨g,cur,rfl,rfl,row⟩:=ho.row I
 have hg:g<lo:=hL1 (g,_) (d6 _)
 refine Zr<|G (Yi Z)<|G (Wi Z)<|U ?_
 have hhi5:=(H.facts _ (hM _)).2.1
 refine bP cD [0,1,2,3,4,5,6,7,8,9,10,11] [12] [9] [0,2,3,5,6,7,10,11] (sp [(9,Sp.row w5.heap.size bN x.parts)]) N N N N Nq (cO _) ?_
 refine aw Z Z Z Z Z (fun w' hw'=>Zf cP Z)<|aw Z Z Z Z Z (fun w' hw'=>bf dK Z (aJ ((H.later hw').ent (i:=1) Z) Z))<|aw Z Z Z Z Z (fun w' hw'=>Yi Z)<|aw Z Z Z Z Z (fun w' hw'=>Zf cP Z)<|aw Z Z Z Z Z (fun w' hw'=>bf dK Z (aJ ((H.later hw').ent (i:=1) Z) Z))<|aw Z Z Z Z Z (fun w' hw'=>Yi Z)<|aw Z Z Z Z Z (fun w' hw'=>cQ gK Z Z I)<|aw Z Z Z Z Z (fun w' hw'=>Zf dC Z)<|aw Z Z Z Z Z (fun w' hw'=>bX cC row hx 4 Z ((H.later hw').ent (i:=2) Z) Z)<|Dj gu Z Z Z Z Z (fun w' hw'=>hw'.size) (fun w' hw'=>xo x.parts _ _ w' (fB (H.later hw') 2 Z hmem) I) Z fun A23 c23 hc23=>aw Z Z Z Z Z (fun w' hw'=>cQ gK Z Z I)<|aw Z Z Z Z Z (fun w' hw'=>Zf dC Z)<|aU ?_
 intro w6 hw' hF
 have hsz:=hw'.size
 obtain⟨hF,Aq,cq,eq,hcq,hrw23⟩:=hF;cases eq;clear hcq
 replace H:=H.learnRd hw' hrw23
 clear hw' hF
 refine m5 H 2 ({x with A:=A23,cap:=c23}) jK row hx 4 Z Z Z Z Z Z N fun w8 cur7 row7 H=>U<|Zr<|G (bn Z Z I I)<|G (Yi Z)<|U ?_
 obtain⟨z1,z2,z3⟩:=Dh (x':={x with A:=A23,cap:=c23}) hx hma hdr Z
 have hb5:=(H.facts _ (hM _)).2.1
 dsimp only[d4]at hb5
 have HJ:=Hp.joinParts (t:={x with A:=A23,cap:=c23}) H (fun e he=>by rcases av.1 he with rfl|he;exact hb2;rcases av.1 he with rfl|he;exact hb1;rw[ar.1 he];exact hg) hlw (aX hhi5 hsz)
 rw[<-z3]at HJ
 refine⟨(k+1,out.set k {x with A:=A23,cap:=c23},some ⟨g,0,none⟩,c1,w6.heap.size),⟨by rw[ae];omega,by rw[ae];exact hol,by rw[ae];exact hoc,z1,z2,?_,by omega,_,d3.own row7,fun e he=>by rw[ar.1 he];exact hg,?_⟩,dO Z,Qg,by show(out.set k _).length- (k+1)<out.length-k;rw[ae];omega⟩
 rw[z3];intro t ht;rcases aq.1 ht with ht|ht;exact hpc t ht;rw[ar.1 ht];exact hc23
 rw[ae];exact HJ
 have hke:k=out.length:=by omega
 rw[hke,bM]at H hpc
 refine U<|W<|ZF Z<|Zx<|W<|Zr<|G (Zw ay H 1 Z Z Z)<|bC H 0 (#[J ck,J nx,J wt,.slice A1 out.length c1]) aE Z Z Z Z Z N N fun w9 H=>U<|Zt ?_
 exact eQ (cs0:= #[J ck,J nx,J wt,.slice A1 out.length c1]) Z ay Z (H.ent (i:=0) Z) Z ⟨⟨ck,nx,wt,out,A1,c1⟩,L1,lo,hi,rfl,by unfold Co.a;dsimp only;rw[hma],ho,hoc,hpc,hlow,H.forget (.cons _ (.cons _ (aD _ _))) (by simp)⟩
theorem Hp.joinF {w0 w w':World} {L L':List (Nat×Obj)} {F F':List cf} (H:Hp w0 w L F) (H':Hp w w' L' F') (hf': ∀ f∈F',w.heap.size<=f.lo):Hp w0 w' (L++L'++[]) (F'++F):=by
 have HJ:=H.joinR (H'.forget (au _) (F':=[]) (by simp))
 refine⟨HJ.below,HJ.ents,HJ.nodup,fun f hf=> ?_⟩
 rcases aq.1 hf with hf|hf
 obtain⟨h1,h2,h3⟩:=H'.facts f hf
 refine⟨h1,h2,fun e he=> ?_⟩
 rw[aW]at he
 rcases aq.1 he with he|he
 have:=H.ltAll e he
 have:=hf' f hf
 omega
 exact h3 e he
 exact HJ.facts f hf
def fQ (c:Co) (s:ByteArray):Int:=lI (c.txs.findIdx? fun p=>decide (p.name=s))
def M1 (w w2:World) (c c':Co) (L':List (Nat×Obj)) (lo hi:Nat):Prop:=c'.a=c/\gH rX (.slice c'.A c'.txs.length c'.cap) dG c'.txs L'/\c'.txs.length<=c'.cap/\(∀ t∈c'.txs,t.parts.length<=t.cap)/\w.heap.size<=lo/\Hp w w2 L' [iM lo hi c'.txs]
theorem J9 (c:Co) (s:ByteArray) (w:World) (h:c.rd 0 w.heap.size w) (hok:gI c=true) (hn:bo s=true):dt aa wY [c.v,.string s] w fun v w2=> ∃ (c':Co) (L':List (Nat×Obj)) (lo hi:Nat),v=.tuple #[c'.v,J (fQ c s),J 0]/\M1 w w2 c.a c' L' lo hi:=by
 refine aG vy Z Z ?_
 have hcap:=h.cap
 have hfew:=h.few
 have hfp:=h.fewP
 have H:=Hp.startCo h
 obtain⟨ck,nx,wt,txs,cA,cc⟩:=c
 dsimp only at hcap hfew hfp H
 show CW _ _ _ _ (args [.agg #[J ck,J nx,J wt,.slice cA txs.length cc],.string s]) w
 refine W<|Zr<|gM H Z Z fun w1 b2 H=>QC H Z Z fun w2 b3 H=>fg H cH Z fun w3 b4 H=>G (Wi Z)<|G (Wi Z)<|U<|W<|W<|Zr<|G (Zw ay H 2 Z Z Z)<|cz kE (qu ⟨ck,nx,wt,txs,cA,cc⟩ _ ⟨H.rd0 0 Z,fun t ht=>fB H 1 Z ht,hcap,hfew,hfp⟩) Z Z ?_
 rw[hok]
 rintro _ w4 ⟨rfl,hb⟩;replace H:=H.later hb;clear hb
 refine G (Wi Z)<|U<|W<|Zr<|G (Yi Z)<|G (ch Z Z Z)<|U<|ZF Z<|Zk<|W<|W<|Zr<|G (Zd aZ H 1 Z Z Z)<|cz rU (DW s _) Z Z ?_
 rw[hn]
 rintro _ w5 ⟨rfl,hb⟩;replace H:=H.later hb;clear hb
 refine G (d7 Z)<|U<|ZF Z<|Zk<|W ?_
 refine ra cD [2,4] [0,1,3,5,6,7,8] [2,4] 7 N N N Nq ?_
 refine aw Z Z Z Z Z (fun w' hw'=>Zf cP Z)<|aw Z Z Z Z Z (fun w' hw'=>Ai Z)<|aU ?_
 intro w6 hw';replace H:=H.later hw';clear hw'
 refine t0 0 3 N Z Z ?_ ?_
 refine G (Zw ay H 2 Z Z Z)<|U ?_
 refine t0 1 3 N Z Z ?_ ?_
 refine cz jc (yt ⟨ck,nx,wt,txs,cA,cc⟩ _ ⟨H.rd0 0 Z,fun t ht=>fB H 1 Z ht,hcap,hfew,hfp⟩) Z Z ?_
 have hsz0:=H.size
 rintro _ w7 ⟨⟨ck2,nx2,wt2,tx2,A2,c2⟩,L2,lo2,hi2,rfl,ha2,ho2,hoc2,hpc2,hlo2,hj2⟩
 replace H:=Hp.joinF H hj2 (by intro f hf;rw[ar.1 hf];exact hlo2);clear hj2
 simp only[Co.a,Co.mk.injEq]at ha2
 obtain⟨e1,e2,e3,hma,-,-⟩:=ha2
 obtain rfl:ck=ck2:=e1.symm
 obtain rfl:nx=nx2:=e2.symm
 obtain rfl:wt=wt2:=e3.symm
 dsimp only at ho2 hoc2 hpc2 H
 refine U<|dg 3 N Z<|G (Zd dK H 2 Z Z Z)<|U<|dg 5 N Z<|cz dF (gi txs cA cc _ (H.rd0 1 Z) I gU [.pointer (Qd b3)] iu (fun p=>decide (p.name=s)) (fun e w2 _ hw2=>nJ e s b3 w2 ((hw2.block _ (bU (H.ent (i:=1) Z))).trans (H.ent (i:=1) Z)))) Z Z ?_
 rintro _ w8 ⟨rfl,hb⟩;replace H:=H.later hb;clear hb
 refine U<|dg 6 N Z<|bC H 0 (#[J ck,J nx,J wt,.slice A2 tx2.length c2]) aE Z Z Z Z Z N N fun w9 H=>U<|dg 7 N Z<|G (Wi Z)<|U<|dg 8 N Z<|G (Wi Z)<|U<|cr N<|Zt ?_
 exact gC (cs0:= #[J ck,J nx,J wt,.slice A2 tx2.length c2]) (v1:=J (lI (txs.findIdx? fun p=>decide (p.name=s)))) (v2:=J 0) Z ay Z (H.ent (i:=0) Z) Z Z Z ⟨⟨ck,nx,wt,tx2,A2,c2⟩,L2,lo2,hi2,rfl,by unfold Co.a;dsimp only;rw[hma],ho2,hoc2,hpc2,aX hsz0 hlo2,H.forget (.cons _ (.cons _ (.cons _ (aD _ _)))) (by simp)⟩
 refine G (Zd dK H 2 Z Z Z)<|U<|dg 1 N Z<|cz jc (yt ⟨ck,nx,wt,txs,cA,cc⟩ _ ⟨H.rd0 0 Z,fun t ht=>fB H 1 Z ht,hcap,hfew,hfp⟩) Z Z ?_
 have hsz0:=H.size
 rintro _ w10 ⟨⟨ck2,nx2,wt2,tx2,A2,c2⟩,L2,lo2,hi2,rfl,ha2,ho2,hoc2,hpc2,hlo2,hj2⟩
 replace H:=Hp.joinF H hj2 (by intro f hf;rw[ar.1 hf];exact hlo2);clear hj2
 simp only[Co.a,Co.mk.injEq]at ha2
 obtain⟨e1,e2,e3,hma,-,-⟩:=ha2
 obtain rfl:ck=ck2:=e1.symm
 obtain rfl:nx=nx2:=e2.symm
 obtain rfl:wt=wt2:=e3.symm
 dsimp only at ho2 hoc2 hpc2 H
 refine U<|dg 5 N Z<|cz dF (gi txs cA cc _ (H.rd0 1 Z) I gU [.pointer (Qd b3)] iu (fun p=>decide (p.name=s)) (fun e w2 _ hw2=>nJ e s b3 w2 ((hw2.block _ (bU (H.ent (i:=1) Z))).trans (H.ent (i:=1) Z)))) Z Z ?_
 rintro _ w11 ⟨rfl,hb⟩;replace H:=H.later hb;clear hb
 refine U<|dg 6 N Z<|bC H 0 (#[J ck,J nx,J wt,.slice A2 tx2.length c2]) aE Z Z Z Z Z N N fun w12 H=>U<|dg 7 N Z<|G (Wi Z)<|U<|dg 8 N Z<|G (Wi Z)<|U<|cr N<|Zt ?_
 exact gC (cs0:= #[J ck,J nx,J wt,.slice A2 tx2.length c2]) (v1:=J (lI (txs.findIdx? fun p=>decide (p.name=s)))) (v2:=J 0) Z ay Z (H.ent (i:=0) Z) Z Z Z ⟨⟨ck,nx,wt,tx2,A2,c2⟩,L2,lo2,hi2,rfl,by unfold Co.a;dsimp only;rw[hma],ho2,hoc2,hpc2,aX hsz0 hlo2,H.forget (.cons _ (.cons _ (.cons _ (aD _ _)))) (by simp)⟩
 refine G (Zd dK H 2 Z Z Z)<|U<|dg 0 N Z<|G (Zw ay H 2 Z Z Z)<|U<|dg 1 N Z<|cz jc (yt ⟨ck,nx,wt,txs,cA,cc⟩ _ ⟨H.rd0 0 Z,fun t ht=>fB H 1 Z ht,hcap,hfew,hfp⟩) Z Z ?_
 have hsz0:=H.size
 rintro _ w13 ⟨⟨ck2,nx2,wt2,tx2,A2,c2⟩,L2,lo2,hi2,rfl,ha2,ho2,hoc2,hpc2,hlo2,hj2⟩
 replace H:=Hp.joinF H hj2 (by intro f hf;rw[ar.1 hf];exact hlo2);clear hj2
 simp only[Co.a,Co.mk.injEq]at ha2
 obtain⟨e1,e2,e3,hma,-,-⟩:=ha2
 obtain rfl:ck=ck2:=e1.symm
 obtain rfl:nx=nx2:=e2.symm
 obtain rfl:wt=wt2:=e3.symm
 dsimp only at ho2 hoc2 hpc2 H
 refine U<|dg 5 N Z<|cz dF (gi txs cA cc _ (H.rd0 1 Z) I gU [.pointer (Qd b3)] iu (fun p=>decide (p.name=s)) (fun e w2 _ hw2=>nJ e s b3 w2 ((hw2.block _ (bU (H.ent (i:=1) Z))).trans (H.ent (i:=1) Z)))) Z Z ?_
 rintro _ w14 ⟨rfl,hb⟩;replace H:=H.later hb;clear hb
 refine U<|dg 6 N Z<|bC H 0 (#[J ck,J nx,J wt,.slice A2 tx2.length c2]) aE Z Z Z Z Z N N fun w15 H=>U<|dg 7 N Z<|G (Wi Z)<|U<|dg 8 N Z<|G (Wi Z)<|U<|cr N<|Zt ?_
 exact gC (cs0:= #[J ck,J nx,J wt,.slice A2 tx2.length c2]) (v1:=J (lI (txs.findIdx? fun p=>decide (p.name=s)))) (v2:=J 0) Z ay Z (H.ent (i:=0) Z) Z Z Z ⟨⟨ck,nx,wt,tx2,A2,c2⟩,L2,lo2,hi2,rfl,by unfold Co.a;dsimp only;rw[hma],ho2,hoc2,hpc2,aX hsz0 hlo2,H.forget (.cons _ (.cons _ (.cons _ (aD _ _)))) (by simp)⟩
def iW (s:ByteArray) (pid:Int):Tx:=⟨s,pid,0,1,[],0,0,none,0⟩
def mQ (c:Co) (s:ByteArray):Co:={c with next:=c.next+1,txs:=c.txs++[iW s c.next]}
theorem Gb (c:Co) (s:ByteArray) (w:World) (h:c.rd 0 w.heap.size w) (hok:gI c=true) (hn:bo s=true) (hi:fQ c s<0) (hf:c.txs.length=8):dt aa mL [c.v,.string s] w fun v w2=>v=.tuple #[.agg #[J 0,J 0,J 0,.slice none 0 0],J 0,J 0,J 16]/\Below w.heap.size w w2:=by
 refine aG nZ Z Z ?_
 have hcap:=h.cap
 have hfew:=h.few
 have hfp:=h.fewP
 have H:=Hp.startCo h
 obtain⟨ck,nx,wt,txs,cA,cc⟩:=c
 dsimp only at hcap hfew hfp H
 show CW _ _ _ _ (args [.agg #[J ck,J nx,J wt,.slice cA txs.length cc],.string s]) w
 dsimp only at hf
 refine W<|Zr<|gM H Z Z fun w1 b2 H=>fg H cH Z fun w2 b4 H=>G (Wi Z)<|G (Wi Z)<|G (Wi Z)<|U<|W<|Zr<|G (Zw ay H 1 Z Z Z)<|G (Yt Z)<|cz iq (J9 ⟨ck,nx,wt,txs,cA,cc⟩ s _ ⟨H.rd0 0 Z,fun t ht=>fB H 1 Z ht,hcap,hfew,hfp⟩ hok hn) Z Z ?_
 have hsz0:=H.size
 rintro _ w3 ⟨⟨ck2,nx2,wt2,tx2,A2,c2⟩,L2,lo2,hi2,rfl,ha2,ho2,hoc2,hpc2,hlo2,hj2⟩
 replace H:=Hp.joinF H hj2 (by intro f hf;rw[ar.1 hf];exact hlo2);clear hj2
 simp only[Co.a,Co.mk.injEq]at ha2
 obtain⟨e1,e2,e3,hma,-,-⟩:=ha2
 obtain rfl:ck=ck2:=e1.symm
 obtain rfl:nx=nx2:=e2.symm
 obtain rfl:wt=wt2:=e3.symm
 dsimp only at ho2 hoc2 hpc2 H
 have hlen2:tx2.length=txs.length:=by have:=congrArg di hma;simpa using this
 obtain⟨b1,b2_,b3_,b4_,b5_,b6_,b7_⟩:=i7.1 hok
 dsimp only at b2_ b3_ b6_
 refine G (Yu Z)<|G (Xa Z Z)<|G (Xi Z Z)<|G (Xi Z Z)<|bC H 1 (#[J ck,J nx,J wt,.slice A2 tx2.length c2]) aE Z Z Z Z Z N N fun w4 H=>G (Wi Z)<|G (Wi Z)<|U<|W<|W<|Zr<|G (Yi Z)<|G (ch Z Z Z)<|U<|ZF Z<|Zk<|W<|W<|Zr<|G (Yi Z)<|G (v7 Z Z hi)<|U<|ZT Z<|W<|W<|Zr<|G (Zf cP Z)<|G (Zd dK H 1 Z Z Z)<|G (bj lk Z)<|G (rP Z Z I)<|G (Yb Z)<|ZN<|ZN<|ZN<|G (Kt Z Z)<|U<|ZT Z<|W<|Zr<|G (bE (cs:= #[J 0,J 0,J 0,.slice none 0 0]) fD cH N) ?_
 refine bC H 0 (#[J 0,J 0,J 0,.slice none 0 0]) aE Z Z Z Z Z N N fun w5 H=>G (Wi Z)<|G (Wi Z)<|G (Wi Z)<|U<|Zt ?_
 exact mP (cs0:= #[J 0,J 0,J 0,.slice none 0 0]) (v1:=J 0) (v2:=J 0) (v3:=J 16) Z ay Z (H.ent (i:=0) Z) Z Z Z Z ⟨rfl,H.below⟩
theorem HZ (ck nx:Int): ∀ (l pre:List Tx),oa ck nx pre l=oa ck nx (pre.map Tx.a) (l.map Tx.a)
 |[],_=>rfl
 |t::l,pre=>by
  rw[eN]
  unfold oa
  have e1:(pre.map Tx.a).any (sQ t.a)=pre.any (sQ t):=by rw[List.any_map];rfl
  have e2:=HZ ck nx l (pre++[t])
  rw[bh]at e2
  rw[e1,e2]
  rfl
theorem tf (c:Co):gI c=gI c.a:=by
 unfold gI
 have:=HZ c.clock c.next c.txs []
 rw[this]
 unfold Co.a
 simp
theorem Hp.learnAlsoF {w0 w w':World} {L:List (Nat×Obj)} {F F0:List cf} (H0:Hp w0 w L F0) (H:Hp w0 w' L F) (f:cf) (hf:f.p w') (hlo:w.heap.size<=f.lo) (hhi:f.hi<=w'.heap.size):Hp w0 w' L (f::F):=by
 refine⟨H.below,H.ents,H.nodup,fun g hg=> ?_⟩
 rcases av.1 hg with rfl|hg
 exact⟨hf,hhi,fun e he=> .inl (by have:=H0.ltAll e he;omega)⟩
 exact H.facts g hg
structure HU (w w2:World) (c:Co):Prop where
 below:Below w.heap.size w w2
 row:Rd rX w.heap.size w2.heap.size c.A c.txs w2
 parts: ∀ t∈c.txs,Rd bN w.heap.size w2.heap.size t.A t.parts w2
 cap:c.txs.length<=c.cap
 caps: ∀ t∈c.txs,t.parts.length<=t.cap
theorem M1.rd {w w2:World} {ca c':Co} {L':List (Nat×Obj)} {lo hi:Nat} (h:M1 w w2 ca c' L' lo hi):HU w w2 c':=by
 obtain⟨h1,ho,hc,hcs,hlo,hj⟩:=h
 have hf:=hj.facts _ (az ..)
 have hj0:Hp w w2 L' []:=hj.forget (au _) (by simp)
 refine⟨hj.below,ho.rd (K:=[]) (M:=[]) (by simpa using hj0),fun t ht=>Rd.mono (hf.1 t ht) hlo hf.2.1,hc,hcs⟩
theorem HU.learn {w0 w w2:World} {L:List (Nat×Obj)} {F:List cf} {c:Co} (h:HU w w2 c) (H:Hp w0 w L F):Hp w0 w2 L (iM w.heap.size w2.heap.size c.txs::d4 rX w.heap.size w2.heap.size c.A c.txs::F):=
 Hp.learnAlsoF H (H.learnRd h.below h.row) (iM w.heap.size w2.heap.size c.txs) h.parts (ao _) (ao _)
def za:Co:=⟨0,0,0,[],none,0⟩
theorem OK {w w2:World} (hb:Below w.heap.size w w2):HU w w2 za:=⟨hb,Rd.nil,(by intro t ht;cases ht),ao _,(by intro t ht;cases ht)⟩
/-- the parts of each producer lie in blocks of the call's own -/
def eD:List Tx->List (Nat×Obj)->Prop
 |[],L=>L=[]
 |t::ts,L=> ∃ L1 L2,L=L1++L2/\gH bN (.slice t.A t.parts.length t.cap) da t.parts L1/\eD ts L2
theorem eD.snoc {t:Tx} {L':List (Nat×Obj)} (ht:gH bN (.slice t.A t.parts.length t.cap) da t.parts L'): ∀ {ts:List Tx} {L:List (Nat×Obj)},eD ts L->eD (ts++[t]) (L++L')
 |[],_,h=>⟨L',[],by rw[show _=[]from h];simp,ht,rfl⟩
 |_::_,_,⟨L1,L2,h1,h2,h3⟩=>⟨L1,L2++L',by rw[h1,aB],h2,eD.snoc ht h3⟩
theorem eD.at_: ∀ {ts:List Tx} {L:List (Nat×Obj)} {i:Nat} {t:Tx},eD ts L->ts[i]? =some t-> ∃ La Lt Lb,L=La++Lt++Lb/\gH bN (.slice t.A t.parts.length t.cap) da t.parts Lt/\ ∀ (t':Tx) (Lt':List (Nat×Obj)),gH bN (.slice t'.A t'.parts.length t'.cap) da t'.parts Lt'->eD (ts.set i t') (La++Lt'++Lb)
 |x::ts,L,0,t,⟨L1,L2,h1,h2,h3⟩,hi=>by
  cases hi
  exact⟨[],L1,L2,by simpa using h1,h2,fun t' Lt' h'=>⟨Lt',L2,by simp,h',h3⟩⟩
 |x::ts,L,i+1,t,⟨L1,L2,h1,h2,h3⟩,hi=>by
  obtain⟨La,Lt,Lb,e,ho,hs⟩:=eD.at_ h3 (show ts[i]? =some t from hi)
  exact⟨L1++La,Lt,Lb,by rw[h1,e];simp[aB],ho,fun t' Lt' h'=>⟨L1,La++Lt'++Lb,by simp[aB],h2,hs t' Lt' h'⟩⟩
theorem eD.rd {w0 w:World} {ts:List Tx} {L:List (Nat×Obj)} (h:eD ts L) (H:Hp w0 w L []) {t:Tx} (ht:t∈ts):Rd bN w0.heap.size w.heap.size t.A t.parts w:=by
 obtain⟨i,hi⟩:=aM.1 ht
 obtain⟨La,Lt,Lb,rfl,ho,-⟩:=h.at_ hi
 exact ho.rd (K:=La) (M:=Lb) H
def qC (w w2:World) (ca c':Co) (Lr Lp:List (Nat×Obj)):Prop:=c'.a=ca/\gH rX (.slice c'.A c'.txs.length c'.cap) dG c'.txs Lr/\eD c'.txs Lp/\c'.txs.length<=c'.cap/\(∀ t∈c'.txs,t.parts.length<=t.cap)/\Hp w w2 (Lr++Lp) []
theorem qC.read {w w2:World} {ca c':Co} {Lr Lp:List (Nat×Obj)} (h:qC w w2 ca c' Lr Lp):HU w w2 c':=by
 obtain⟨_,h2,h3,h4,h5,h6⟩:=h
 refine⟨h6.below,h2.rd (K:=[]) (M:=Lp) (by simpa using h6),fun t ht=>h3.rd (h6.forget (bZ _ _) (by simp)) ht,h4,h5⟩
theorem tg (c:Co) (w:World) (h:c.rd 0 w.heap.size w):dt aa xb [c.v] w fun v w2=> ∃ (c':Co) (Lr Lp:List (Nat×Obj)),v=c'.v/\qC w w2 c.a c' Lr Lp:=by
 refine aG vA Z Z ?_
 have hcap:=h.cap
 have hfew:=h.few
 have hfp:=h.fewP
 have H:=Hp.startCo h
 obtain⟨ck,nx,wt,txs,cA,cc⟩:=c
 dsimp only at hcap hfew hfp H
 show CW _ _ _ _ (args [.agg #[J ck,J nx,J wt,.slice cA txs.length cc]]) w
 refine W<|Zr<|gM H Z Z fun w1 b1 H=>fg H cH Z fun w2 b2 H=>U<|W<|Zr<|G (Zf cP Z)<|G (Zd dK H 1 Z Z Z)<|cz lr (xp txs cA cc _ (H.rd0 0 Z) I) Z Z ?_
 rintro _ w3 ⟨A6,c6,L6,rfl,hc6,hm6,ho6,hj6⟩;replace H:=H.joinR hj6;clear hj6
 refine G (Zf cP Z)<|bC H 1 (#[J ck,J nx,J wt,.slice A6 txs.length c6]) zZ Z Z Z Z Z N N fun w4 H=>U<|W<|W<|Zr<|G (Zf cP Z)<|G (Zd dK H 1 Z Z Z)<|G (bj lk Z)<|G (Yi Z)<|U<|Zb ?_
 refine bW (τ:=Nat×List Tx×Option Addr×Nat×List (Nat×Obj)) [3,11,12,13,14,15,16,17,18,19,20,21,22,23,24,25,26] (fun(k,_)=>[(11,J (k:Nat))]) (fun(k,out,A1,c1,Lp) w'=>k<=out.length/\out.length=txs.length/\out.length<=c1/\out.map Tx.a=txs.map Tx.a/\out.drop k=txs.drop k/\(∀ t∈out.take k,t.parts.length<=t.cap)/\eD (out.take k) Lp/\ ∃ L',gH rX (.slice A1 out.length c1) dG out L'/\Hp w w' ([(b2,.cells #[J 0,J 0,J 0,.slice none 0 0] bc (0,0)),(b1,.cells #[J ck,J nx,J wt,.slice A1 out.length c1] bc (0,0))]++L'++Lp) [d4 rX 0 w.heap.size cA txs,iM 0 w.heap.size txs]) (fun(k,out,_)=>out.length-k) (0,txs,A6,c6,[]) ⟨by omega,rfl,hc6,rfl,rfl,by simp,rfl,L6,ho6,H⟩ (dO Z) ?_
 rintro⟨k,out,A1,c1,Lp⟩ ρ1 w5 ⟨hk,hol,hoc,hma,hdr,hpc,hpp,L1,ho,H⟩
 show CW _ _ _ _ (dH (gT _ _ ρ1) [(11,J (k:Nat))]) w5
 refine W<|Zr ?_
 refine dq (cL Z Z) Z Z Z (fun h12=> ?_) (fun h12=> ?_)
 refine U<|W<|ZT Z<|Zk<|W<|Zb<|W ?_
 obtain⟨x,hx⟩: ∃ x,out[k]? =some x:=⟨_,ai I⟩
 have hxt:txs[k]? =some x:=by have:=congrArg (fun l=>l[0]?) hdr;simp only[dk,pB]at this;rw[<-this];exact hx
 have hmem:=ab hxt
 have hfx:=(hfp x hmem).1
 obtain⟨g,cur,rfl,rfl,row⟩:=ho.row I
 refine Zr<|G (Yi Z)<|G (Wi Z)<|U ?_
 refine bP cD [0,1,2,3,4,5,6,7,8,9,10,11] [12] [9] [0,2,3,5,6,7,10,11] (sp [(9,Sp.orow w5.heap.size bN da x.parts)]) N N N N Nq (cO _) ?_
 refine aw Z Z Z Z Z (fun w' hw'=>Zf cP Z)<|aw Z Z Z Z Z (fun w' hw'=>bf dK Z (aJ ((H.later hw').ent (i:=1) Z) Z))<|aw Z Z Z Z Z (fun w' hw'=>Yi Z)<|aw Z Z Z Z Z (fun w' hw'=>Zf cP Z)<|aw Z Z Z Z Z (fun w' hw'=>bf dK Z (aJ ((H.later hw').ent (i:=1) Z) Z))<|aw Z Z Z Z Z (fun w' hw'=>Yi Z)<|aw Z Z Z Z Z (fun w' hw'=>cQ gK Z Z I)<|aw Z Z Z Z Z (fun w' hw'=>Zf dC Z)<|aw Z Z Z Z Z (fun w' hw'=>bX cC row hx 4 Z ((H.later hw').ent (i:=2) Z) Z)<|yA gu Z Z Z Z Z (fun w' hw'=>hw'.size) (fun w' hw'=>tj x.parts _ _ w' (fB (H.later hw') 1 Z hmem) I) Z fun A23 c23 hc23=>aw Z Z Z Z Z (fun w' hw'=>cQ gK Z Z I)<|aw Z Z Z Z Z (fun w' hw'=>Zf dC Z)<|aU ?_
 intro w6 hw' hF
 obtain⟨hF,Aq,cq,L23,eq,hcq,hm23,ho23,he23,hn23⟩:=hF;cases eq;clear hcq
 replace H:=H.joinR (Hp.ofNew hw' he23 hn23)
 clear hw' hF
 refine m5 H 2 ({x with A:=A23,cap:=c23}) jK row hx 4 Z Z Z Z Z Z N fun w8 cur7 row7 H=>U<|Zr<|G (bn Z Z I I)<|G (Yi Z)<|U ?_
 obtain⟨z1,z2,z3⟩:=Dh (x':={x with A:=A23,cap:=c23}) hx hma hdr Z
 refine⟨(k+1,out.set k {x with A:=A23,cap:=c23},some ⟨g,0,none⟩,c1,Lp++L23),⟨by rw[ae];omega,by rw[ae];exact hol,by rw[ae];exact hoc,z1,z2,?_,by rw[z3];exact hpp.snoc ho23,_,d3.own row7,?_⟩,dO Z,Qg,by show(out.set k _).length- (k+1)<out.length-k;rw[ae];omega⟩
 rw[z3];intro t ht;rcases aq.1 ht with ht|ht;exact hpc t ht;rw[ar.1 ht];exact hc23
 rw[ae];simpa using H
 have hke:k=out.length:=by omega
 rw[hke,bM]at hpp hpc
 refine U<|W<|ZF Z<|Zx<|W<|Zr<|G (Zw ay H 1 Z Z Z)<|bC H 0 (#[J ck,J nx,J wt,.slice A1 out.length c1]) aE Z Z Z Z Z N N fun w9 H=>U<|Zt ?_
 exact eQ (cs0:= #[J ck,J nx,J wt,.slice A1 out.length c1]) Z ay Z (H.ent (i:=0) Z) Z ⟨⟨ck,nx,wt,out,A1,c1⟩,L1,Lp,rfl,by unfold Co.a;dsimp only;rw[hma],ho,hpp,hoc,hpc,H.forget (.cons _ (.cons _ (au _))) (by simp)⟩
theorem ro {txs tx2:List Tx} (h:tx2.map Tx.a=txs.map Tx.a) {i:Nat} {t:Tx} (ht:txs[i]? =some t): ∃ t2,tx2[i]? =some t2/\t2.a=t.a:=by
 have h1:=congrArg (fun l=>l[i]?) h
 simp only[aH,ht,eJ]at h1
 cases h2:tx2[i]? with
 |none=>rw[h2]at h1;cases h1
 |some t2=>rw[h2]at h1;exact⟨t2,rfl,by simpa using h1⟩
theorem lN (c:Co) (s:ByteArray) (w:World) (h:c.rd 0 w.heap.size w) (hok:gI c=true) (hn:bo s=true):dt aa wY [c.v,.string s] w fun v w2=> ∃ (c':Co) (Lr Lp:List (Nat×Obj)),v=.tuple #[c'.v,J (fQ c s),J 0]/\qC w w2 c.a c' Lr Lp:=by
 refine aG vy Z Z ?_
 have hcap:=h.cap
 have hfew:=h.few
 have hfp:=h.fewP
 have H:=Hp.startCo h
 obtain⟨ck,nx,wt,txs,cA,cc⟩:=c
 dsimp only at hcap hfew hfp H
 show CW _ _ _ _ (args [.agg #[J ck,J nx,J wt,.slice cA txs.length cc],.string s]) w
 refine W<|Zr<|gM H Z Z fun w1 b2 H=>QC H Z Z fun w2 b3 H=>fg H cH Z fun w3 b4 H=>G (Wi Z)<|G (Wi Z)<|U<|W<|W<|Zr<|G (Zw ay H 2 Z Z Z)<|cz kE (qu ⟨ck,nx,wt,txs,cA,cc⟩ _ ⟨H.rd0 0 Z,fun t ht=>fB H 1 Z ht,hcap,hfew,hfp⟩) Z Z ?_
 rw[hok]
 rintro _ w4 ⟨rfl,hb⟩;replace H:=H.later hb;clear hb
 refine G (Wi Z)<|U<|W<|Zr<|G (Yi Z)<|G (ch Z Z Z)<|U<|ZF Z<|Zk<|W<|W<|Zr<|G (Zd aZ H 1 Z Z Z)<|cz rU (DW s _) Z Z ?_
 rw[hn]
 rintro _ w5 ⟨rfl,hb⟩;replace H:=H.later hb;clear hb
 refine G (d7 Z)<|U<|ZF Z<|Zk<|W ?_
 refine ra cD [2,4] [0,1,3,5,6,7,8] [2,4] 7 N N N Nq ?_
 refine aw Z Z Z Z Z (fun w' hw'=>Zf cP Z)<|aw Z Z Z Z Z (fun w' hw'=>Ai Z)<|aU ?_
 intro w6 hw';replace H:=H.later hw';clear hw'
 refine t0 0 3 N Z Z ?_ ?_
 refine G (Zw ay H 2 Z Z Z)<|U ?_
 refine t0 1 3 N Z Z ?_ ?_
 refine cz jc (tg ⟨ck,nx,wt,txs,cA,cc⟩ _ ⟨H.rd0 0 Z,fun t ht=>fB H 1 Z ht,hcap,hfew,hfp⟩) Z Z ?_
 rintro _ w7 ⟨⟨ck2,nx2,wt2,tx2,A2,c2⟩,Lr,Lp,rfl,ha2,ho2,hp2,hoc2,hpc2,hj2⟩
 replace H:=H.joinR hj2;clear hj2
 simp only[Co.a,Co.mk.injEq]at ha2
 obtain⟨e1,e2,e3,hma,-,-⟩:=ha2
 obtain rfl:ck=ck2:=e1.symm
 obtain rfl:nx=nx2:=e2.symm
 obtain rfl:wt=wt2:=e3.symm
 dsimp only at ho2 hp2 hoc2 hpc2 H
 refine U<|dg 3 N Z<|G (Zd dK H 2 Z Z Z)<|U<|dg 5 N Z<|cz dF (gi txs cA cc _ (H.rd0 0 Z) I gU [.pointer (Qd b3)] iu (fun p=>decide (p.name=s)) (fun e w2 _ hw2=>nJ e s b3 w2 ((hw2.block _ (bU (H.ent (i:=1) Z))).trans (H.ent (i:=1) Z)))) Z Z ?_
 rintro _ w8 ⟨rfl,hb⟩;replace H:=H.later hb;clear hb
 refine U<|dg 6 N Z<|bC H 0 (#[J ck,J nx,J wt,.slice A2 tx2.length c2]) aE Z Z Z Z Z N N fun w9 H=>U<|dg 7 N Z<|G (Wi Z)<|U<|dg 8 N Z<|G (Wi Z)<|U<|cr N<|Zt ?_
 exact gC (cs0:= #[J ck,J nx,J wt,.slice A2 tx2.length c2]) (v1:=J (lI (txs.findIdx? fun p=>decide (p.name=s)))) (v2:=J 0) Z ay Z (H.ent (i:=0) Z) Z Z Z ⟨⟨ck,nx,wt,tx2,A2,c2⟩,Lr,Lp,rfl,by unfold Co.a;dsimp only;rw[hma],ho2,hp2,hoc2,hpc2,H.forget (.cons _ (.cons _ (.cons _ (aD _ _)))) (by simp)⟩
 refine G (Zd dK H 2 Z Z Z)<|U<|dg 1 N Z<|cz jc (tg ⟨ck,nx,wt,txs,cA,cc⟩ _ ⟨H.rd0 0 Z,fun t ht=>fB H 1 Z ht,hcap,hfew,hfp⟩) Z Z ?_
 rintro _ w10 ⟨⟨ck2,nx2,wt2,tx2,A2,c2⟩,Lr,Lp,rfl,ha2,ho2,hp2,hoc2,hpc2,hj2⟩
 replace H:=H.joinR hj2;clear hj2
 simp only[Co.a,Co.mk.injEq]at ha2
 obtain⟨e1,e2,e3,hma,-,-⟩:=ha2
 obtain rfl:ck=ck2:=e1.symm
 obtain rfl:nx=nx2:=e2.symm
 obtain rfl:wt=wt2:=e3.symm
 dsimp only at ho2 hp2 hoc2 hpc2 H
 refine U<|dg 5 N Z<|cz dF (gi txs cA cc _ (H.rd0 0 Z) I gU [.pointer (Qd b3)] iu (fun p=>decide (p.name=s)) (fun e w2 _ hw2=>nJ e s b3 w2 ((hw2.block _ (bU (H.ent (i:=1) Z))).trans (H.ent (i:=1) Z)))) Z Z ?_
 rintro _ w11 ⟨rfl,hb⟩;replace H:=H.later hb;clear hb
 refine U<|dg 6 N Z<|bC H 0 (#[J ck,J nx,J wt,.slice A2 tx2.length c2]) aE Z Z Z Z Z N N fun w12 H=>U<|dg 7 N Z<|G (Wi Z)<|U<|dg 8 N Z<|G (Wi Z)<|U<|cr N<|Zt ?_
 exact gC (cs0:= #[J ck,J nx,J wt,.slice A2 tx2.length c2]) (v1:=J (lI (txs.findIdx? fun p=>decide (p.name=s)))) (v2:=J 0) Z ay Z (H.ent (i:=0) Z) Z Z Z ⟨⟨ck,nx,wt,tx2,A2,c2⟩,Lr,Lp,rfl,by unfold Co.a;dsimp only;rw[hma],ho2,hp2,hoc2,hpc2,H.forget (.cons _ (.cons _ (.cons _ (aD _ _)))) (by simp)⟩
 refine G (Zd dK H 2 Z Z Z)<|U<|dg 0 N Z<|G (Zw ay H 2 Z Z Z)<|U<|dg 1 N Z<|cz jc (tg ⟨ck,nx,wt,txs,cA,cc⟩ _ ⟨H.rd0 0 Z,fun t ht=>fB H 1 Z ht,hcap,hfew,hfp⟩) Z Z ?_
 rintro _ w13 ⟨⟨ck2,nx2,wt2,tx2,A2,c2⟩,Lr,Lp,rfl,ha2,ho2,hp2,hoc2,hpc2,hj2⟩
 replace H:=H.joinR hj2;clear hj2
 simp only[Co.a,Co.mk.injEq]at ha2
 obtain⟨e1,e2,e3,hma,-,-⟩:=ha2
 obtain rfl:ck=ck2:=e1.symm
 obtain rfl:nx=nx2:=e2.symm
 obtain rfl:wt=wt2:=e3.symm
 dsimp only at ho2 hp2 hoc2 hpc2 H
 refine U<|dg 5 N Z<|cz dF (gi txs cA cc _ (H.rd0 0 Z) I gU [.pointer (Qd b3)] iu (fun p=>decide (p.name=s)) (fun e w2 _ hw2=>nJ e s b3 w2 ((hw2.block _ (bU (H.ent (i:=1) Z))).trans (H.ent (i:=1) Z)))) Z Z ?_
 rintro _ w14 ⟨rfl,hb⟩;replace H:=H.later hb;clear hb
 refine U<|dg 6 N Z<|bC H 0 (#[J ck,J nx,J wt,.slice A2 tx2.length c2]) aE Z Z Z Z Z N N fun w15 H=>U<|dg 7 N Z<|G (Wi Z)<|U<|dg 8 N Z<|G (Wi Z)<|U<|cr N<|Zt ?_
 exact gC (cs0:= #[J ck,J nx,J wt,.slice A2 tx2.length c2]) (v1:=J (lI (txs.findIdx? fun p=>decide (p.name=s)))) (v2:=J 0) Z ay Z (H.ent (i:=0) Z) Z Z Z ⟨⟨ck,nx,wt,tx2,A2,c2⟩,Lr,Lp,rfl,by unfold Co.a;dsimp only;rw[hma],ho2,hp2,hoc2,hpc2,H.forget (.cons _ (.cons _ (.cons _ (aD _ _)))) (by simp)⟩
theorem AD (c:Co) (s:ByteArray) (ver:Int) (w:World) (h:c.rd 0 w.heap.size w) (hok:gI c=true) (hn:bo s=true) (hi:fQ c s= -1):dt aa rD [c.v,.string s,J ver] w fun v w2=>v=.tuple #[.agg #[J 0,J 0,J 0,.slice none 0 0],J 0,J 5]/\Below w.heap.size w w2:=by
 refine aG qr Z Z ?_
 have hcap:=h.cap
 have hfew:=h.few
 have hfp:=h.fewP
 have H:=Hp.startCo h
 obtain⟨ck,nx,wt,txs,cA,cc⟩:=c
 dsimp only at hcap hfew hfp H
 show CW _ _ _ _ (args [.agg #[J ck,J nx,J wt,.slice cA txs.length cc],.string s,J ver]) w
 refine W<|Zr<|gM H Z Z fun w1 b3 H=>fg H cH Z fun w2 b6 H=>G (Wi Z)<|G (Wi Z)<|U<|W<|Zr<|G (Zw ay H 1 Z Z Z)<|G (Yt Z)<|cz iq (lN ⟨ck,nx,wt,txs,cA,cc⟩ s _ ⟨H.rd0 0 Z,fun t ht=>fB H 1 Z ht,hcap,hfew,hfp⟩ hok hn) Z Z ?_
 rintro _ w3 ⟨⟨ck2,nx2,wt2,tx2,A2,c2⟩,Lr,Lp,rfl,ha2,ho2,hp2,hoc2,hpc2,hj2⟩
 replace H:=H.joinR hj2;clear hj2
 simp only[Co.a,Co.mk.injEq]at ha2
 obtain⟨e1,e2,e3,hma,-,-⟩:=ha2
 obtain rfl:ck=ck2:=e1.symm
 obtain rfl:nx=nx2:=e2.symm
 obtain rfl:wt=wt2:=e3.symm
 dsimp only at ho2 hp2 hoc2 hpc2 H
 rw[hi]
 refine G (Yu Z)<|G (Xa Z Z)<|G (Xi Z Z)<|G (Xi Z Z)<|bC H 1 (#[J ck,J nx,J wt,.slice A2 tx2.length c2]) aE Z Z Z Z Z N N fun w4 H=>G (Wi Z)<|G (Wi Z)<|U<|W<|Zb<|W<|Zr<|G (Yi Z)<|G (ch Z Z Z)<|G (Wb Z)<|U<|ZF Z<|W<|Zr<|G (Yi Z)<|G (v7 Z Z (by decide))<|G (Wb Z)<|U<|ZT Z<|W<|Zr<|G (bE (cs:= #[J 0,J 0,J 0,.slice none 0 0]) fD cH N)<|bC H 0 (#[J 0,J 0,J 0,.slice none 0 0]) aE Z Z Z Z Z N N fun w5 H=>G (Wi Z)<|G (Wi Z)<|U<|Zt ?_
 exact gC (cs0:= #[J 0,J 0,J 0,.slice none 0 0]) (v1:=J 0) (v2:=J 5) Z ay Z (H.ent (i:=0) Z) Z Z Z ⟨rfl,H.below⟩
theorem yS (c:Co) (s:ByteArray) (ver:Int) (i:Nat) (t:Tx) (w:World) (h:c.rd 0 w.heap.size w) (hok:gI c=true) (hn:bo s=true) (hi:fQ c s=i) (ht:c.txs[i]? =some t) (hv:t.ver≠ver):dt aa rD [c.v,.string s,J ver] w fun v w2=>v=.tuple #[.agg #[J 0,J 0,J 0,.slice none 0 0],J 0,J 10]/\Below w.heap.size w w2:=by
 refine aG qr Z Z ?_
 have hcap:=h.cap
 have hfew:=h.few
 have hfp:=h.fewP
 have H:=Hp.startCo h
 obtain⟨ck,nx,wt,txs,cA,cc⟩:=c
 dsimp only at hcap hfew hfp H
 show CW _ _ _ _ (args [.agg #[J ck,J nx,J wt,.slice cA txs.length cc],.string s,J ver]) w
 dsimp only at ht
 refine W<|Zr<|gM H Z Z fun w1 b3 H=>fg H cH Z fun w2 b6 H=>G (Wi Z)<|G (Wi Z)<|U<|W<|Zr<|G (Zw ay H 1 Z Z Z)<|G (Yt Z)<|cz iq (lN ⟨ck,nx,wt,txs,cA,cc⟩ s _ ⟨H.rd0 0 Z,fun t ht=>fB H 1 Z ht,hcap,hfew,hfp⟩ hok hn) Z Z ?_
 rintro _ w3 ⟨⟨ck2,nx2,wt2,tx2,A2,c2⟩,Lr,Lp,rfl,ha2,ho2,hp2,hoc2,hpc2,hj2⟩
 replace H:=H.joinR hj2;clear hj2
 simp only[Co.a,Co.mk.injEq]at ha2
 obtain⟨e1,e2,e3,hma,-,-⟩:=ha2
 obtain rfl:ck=ck2:=e1.symm
 obtain rfl:nx=nx2:=e2.symm
 obtain rfl:wt=wt2:=e3.symm
 dsimp only at ho2 hp2 hoc2 hpc2 H
 rw[hi]
 refine G (Yu Z)<|G (Xa Z Z)<|G (Xi Z Z)<|G (Xi Z Z)<|bC H 1 (#[J ck,J nx,J wt,.slice A2 tx2.length c2]) aE Z Z Z Z Z N N fun w4 H=>G (Wi Z)<|G (Wi Z)<|U<|W<|Zb<|W<|Zr<|G (Yi Z)<|G (ch Z Z Z)<|G (Wb Z)<|U<|ZF Z<|W<|Zr<|G (Yi Z)<|G (dn Z Z I)<|G (Wb Z)<|U<|ZF Z<|W ?_
 obtain⟨t2,ht2,hta⟩:=ro hma ht
 have hl2:=(cu ht2).1
 obtain⟨g,cur,rfl,rfl,row⟩:=ho2.row I
 have hver:t2.ver=t.ver:=by show t2.a.ver=t.a.ver;rw[hta]
 refine Zr<|G (Zf cP Z)<|G (Zd dK H 1 Z Z Z)<|G (Yi Z)<|G (cQ gK Z Z I)<|G (Zf gD Z)<|G (bX al row ht2 2 Z (H.ent (i:=2) Z) Z)<|G (Yi Z)<|G (lH Z Z I)<|G (Wb Z)<|U<|ZT Z<|W<|Zr<|G (bE (cs:= #[J 0,J 0,J 0,.slice none 0 0]) fD cH N)<|bC H 0 (#[J 0,J 0,J 0,.slice none 0 0]) aE Z Z Z Z Z N N fun w5 H=>G (Wi Z)<|G (Wi Z)<|U<|Zt ?_
 exact gC (cs0:= #[J 0,J 0,J 0,.slice none 0 0]) (v1:=J 0) (v2:=J 10) Z ay Z (H.ent (i:=0) Z) Z Z Z ⟨rfl,H.below⟩
theorem wR (c:Co) (s:ByteArray) (ver:Int) (i:Nat) (t:Tx) (w:World) (h:c.rd 0 w.heap.size w) (hok:gI c=true) (hn:bo s=true) (hi:fQ c s=i) (ht:c.txs[i]? =some t) (hv:t.ver=ver):dt aa rD [c.v,.string s,J ver] w fun v w2=> ∃ (c':Co) (Lr Lp:List (Nat×Obj)),v=.tuple #[c'.v,J (i:Nat),J 0]/\qC w w2 c.a c' Lr Lp:=by
 refine aG qr Z Z ?_
 have hcap:=h.cap
 have hfew:=h.few
 have hfp:=h.fewP
 have H:=Hp.startCo h
 obtain⟨ck,nx,wt,txs,cA,cc⟩:=c
 dsimp only at hcap hfew hfp H
 show CW _ _ _ _ (args [.agg #[J ck,J nx,J wt,.slice cA txs.length cc],.string s,J ver]) w
 dsimp only at ht
 refine W<|Zr<|gM H Z Z fun w1 b3 H=>fg H cH Z fun w2 b6 H=>G (Wi Z)<|G (Wi Z)<|U<|W<|Zr<|G (Zw ay H 1 Z Z Z)<|G (Yt Z)<|cz iq (lN ⟨ck,nx,wt,txs,cA,cc⟩ s _ ⟨H.rd0 0 Z,fun t ht=>fB H 1 Z ht,hcap,hfew,hfp⟩ hok hn) Z Z ?_
 rintro _ w3 ⟨⟨ck2,nx2,wt2,tx2,A2,c2⟩,Lr,Lp,rfl,ha2,ho2,hp2,hoc2,hpc2,hj2⟩
 replace H:=H.joinR hj2;clear hj2
 simp only[Co.a,Co.mk.injEq]at ha2
 obtain⟨e1,e2,e3,hma,-,-⟩:=ha2
 obtain rfl:ck=ck2:=e1.symm
 obtain rfl:nx=nx2:=e2.symm
 obtain rfl:wt=wt2:=e3.symm
 dsimp only at ho2 hp2 hoc2 hpc2 H
 rw[hi]
 refine G (Yu Z)<|G (Xa Z Z)<|G (Xi Z Z)<|G (Xi Z Z)<|bC H 1 (#[J ck,J nx,J wt,.slice A2 tx2.length c2]) aE Z Z Z Z Z N N fun w4 H=>G (Wi Z)<|G (Wi Z)<|U<|W<|Zb<|W<|Zr<|G (Yi Z)<|G (ch Z Z Z)<|G (Wb Z)<|U<|ZF Z<|W<|Zr<|G (Yi Z)<|G (dn Z Z I)<|G (Wb Z)<|U<|ZF Z<|W ?_
 obtain⟨t2,ht2,hta⟩:=ro hma ht
 have hl2:=(cu ht2).1
 obtain⟨g,cur,rfl,rfl,row⟩:=ho2.row I
 have hver:t2.ver=t.ver:=by show t2.a.ver=t.a.ver;rw[hta]
 refine Zr<|G (Zf cP Z)<|G (Zd dK H 1 Z Z Z)<|G (Yi Z)<|G (cQ gK Z Z I)<|G (Zf gD Z)<|G (bX al row ht2 2 Z (H.ent (i:=2) Z) Z)<|G (Yi Z)<|G (ch Z Z I)<|G (Wb Z)<|U<|ZF Z<|Zk<|W<|Zr<|G (Zw ay H 1 Z Z Z)<|G (Yi Z)<|bC H 0 (#[J ck,J nx,J wt,.slice (Qd g) tx2.length c2]) aE Z Z Z Z Z N N fun w5 H=>G (Wi Z)<|G (Wi Z)<|U<|Zt ?_
 exact gC (cs0:= #[J ck,J nx,J wt,.slice (Qd g) tx2.length c2]) (v1:=J (i:Nat)) (v2:=J 0) Z ay Z (H.ent (i:=0) Z) Z Z Z ⟨⟨ck,nx,wt,tx2,some ⟨g,0,none⟩,c2⟩,[(g,.cells cur dG (0,0))],Lp,rfl,by unfold Co.a;dsimp only;rw[hma],d3.own row,hp2,hoc2,hpc2,H.forget (.cons _ (.cons _ (aD _ _))) (by simp)⟩
/-- P5.5 -/
def eC (want:Int) (t:Tx):Option Tx:=if t.state=2 then some {t with state:=want}else if t.state=1/\t.done=0 then some {t with done:=want}else if t.state=want∨(t.state=1/\t.done=want)then some t else none
def vQ (commit:Bool):Int:=if commit then 3 else 4
theorem eD.same {ts:List Tx} {L:List (Nat×Obj)} {i:Nat} {t t':Tx} (h:eD ts L) (hi:ts[i]? =some t) (h1:t'.A=t.A) (h2:t'.parts=t.parts) (h3:t'.cap=t.cap):eD (ts.set i t') L:=by
 obtain⟨La,Lt,Lb,rfl,ho,hs⟩:=h.at_ hi
 exact hs t' Lt (by rw[h1,h2,h3];exact ho)
theorem IT {t t':Tx} (h:t'.a=t.a) (v:Int):({t' with state:=v}:Tx).a=({t with state:=v}:Tx).a:=congrArg (fun x:Tx=>({x with state:=v}:Tx)) h
theorem MY {t t':Tx} (h:t'.a=t.a) (v:Int):({t' with done:=v}:Tx).a=({t with done:=v}:Tx).a:=congrArg (fun x:Tx=>({x with done:=v}:Tx)) h
theorem pq {txs tx2:List Tx} (h:tx2.map Tx.a=txs.map Tx.a) (i:Nat) {t t':Tx} (ht:t'.a=t.a):(tx2.set i t').map Tx.a=(txs.set i t).map Tx.a:=by rw[cT,cT,h,ht]
theorem sx {ts:List Tx} (h: ∀ t∈ts,t.parts.length<=t.cap) {i:Nat} {t t':Tx} (hi:ts[i]? =some t) (h2:t'.parts=t.parts) (h3:t'.cap=t.cap): ∀ x∈ts.set i t',x.parts.length<=x.cap:=fun x hx=>by
 rcases aC hx with hx|rfl
 exact h x hx
 rw[h2,h3];exact h t (ab hi)
theorem Mu (c:Co) (s:ByteArray) (ver:Int) (i:Nat) (t:Tx) (w:World) (h:c.rd 0 w.heap.size w) (hok:gI c=true) (hn:bo s=true) (hi:fQ c s=i) (ht:c.txs[i]? =some t) (hv:t.ver=ver):dt aa lY [c.v,.string s,J ver,.bool true] w fun v w2=>match eC 3 t with|none=>v=.tuple #[.agg #[J 0,J 0,J 0,.slice none 0 0],J 12]/\Below w.heap.size w w2|some t'=> ∃ (c':Co) (Lr Lp:List (Nat×Obj)),v=.tuple #[c'.v,J 0]/\qC w w2 (Co.a {c with txs:=c.txs.set i t'}) c' Lr Lp:=by
 refine aG pY Z Z ?_
 have hcap:=h.cap
 have hfew:=h.few
 have hfp:=h.fewP
 have H:=Hp.startCo h
 obtain⟨ck,nx,wt,txs,cA,cc⟩:=c
 dsimp only at hcap hfew hfp H
 show CW _ _ _ _ (args [.agg #[J ck,J nx,J wt,.slice cA txs.length cc],.string s,J ver,.bool true]) w
 dsimp only at ht⊢
 refine W<|Zr<|gM H Z Z fun w1 b4 H=>fg H cH Z fun w2 b8 H=>G (Wi Z)<|U<|W<|Zr<|G (Zw ay H 1 Z Z Z)<|G (Yt Z)<|G (Yi Z)<|cz gG (wR ⟨ck,nx,wt,txs,cA,cc⟩ s ver i t _ ⟨H.rd0 0 Z,fun t ht=>fB H 1 Z ht,hcap,hfew,hfp⟩ hok hn hi ht hv) Z Z ?_
 rintro _ w3 ⟨⟨ck2,nx2,wt2,tx2,A2,c2⟩,Lr,Lp,rfl,ha2,ho2,hp2,hoc2,hpc2,hj2⟩
 replace H:=H.joinR hj2;clear hj2
 simp only[Co.a,Co.mk.injEq]at ha2
 obtain⟨e1,e2,e3,hma,-,-⟩:=ha2
 obtain rfl:ck=ck2:=e1.symm
 obtain rfl:nx=nx2:=e2.symm
 obtain rfl:wt=wt2:=e3.symm
 dsimp only at ho2 hp2 hoc2 hpc2 H
 refine G (Yu Z)<|G (Xa Z Z)<|G (Xi Z Z)<|G (Xi Z Z)<|bC H 1 (#[J ck,J nx,J wt,.slice A2 tx2.length c2]) aE Z Z Z Z Z N N fun w4 H=>G (Wi Z)<|G (Wi Z)<|U<|W<|W<|Zr<|G (Yi Z)<|G (ch Z Z Z)<|U<|ZF Z<|Zk<|W<|Zr<|G (Wi Z)<|U<|W<|W<|Zr<|G (Yb Z)<|U<|ZT Z<|Zr<|G (Wi Z)<|U<|W<|W ?_
 obtain⟨t2,ht2,hta⟩:=ro hma ht
 have hl2:=(cu ht2).1
 obtain⟨g,cur,rfl,rfl,row⟩:=ho2.row I
 have hst:t2.state=t.state:=by show t2.a.state=t.a.state;rw[hta]
 have hdn:t2.done=t.done:=by show t2.a.done=t.a.done;rw[hta]
 refine Zr<|G (Zf cP Z)<|G (Zd dK H 1 Z Z Z)<|G (Yi Z)<|G (cQ gK Z Z I)<|G (Wp Z)<|U<|Zb<|W<|Zr<|G (Yp Z)<|G (aI Z)<|G (Zf cU Z)<|G (bX al row ht2 3 Z (H.ent (i:=2) Z) Z) ?_
 refine dq (br Z Z) Z Z Z (fun h37=> ?_) (fun h37=> ?_)
 refine G (Wb Z)<|U<|ZT Z<|Zr<|G (Yp Z)<|G (Yi Z)<|G (aI Z)<|G (Zf cU Z)<|m5 H 2 ({t2 with state:=3}) bV row ht2 3 Z Z Z Z Z Z N fun w6 cur5 row5 H=>U<|W<|Zr<|G (Zw ay H 1 Z Z Z)<|bC H 0 (#[J ck,J nx,J wt,.slice (Qd g) tx2.length c2]) aE Z Z Z Z Z N N fun w7 H=>G (Wi Z)<|U<|Zt ?_
 have hE:eC 3 t=some {t with state:=3}:=by unfold eC;rw[if_pos I]
 rw[hE]
 dsimp only
 exact ci (cs0:= #[J ck,J nx,J wt,.slice (Qd g) tx2.length c2]) (v1:=J 0) Z ay Z (H.ent (i:=0) Z) Z Z ⟨⟨ck,nx,wt,(tx2.set i {t2 with state:=3}),some ⟨g,0,none⟩,c2⟩,[(g,.cells cur5 dG (0,0))],Lp,by unfold Co.v Co.c;dsimp only;rw[ae],by unfold Co.a;dsimp only;rw[pq hma i (IT hta _)],d3.own row5,hp2.same ht2 Z Z Z,by dsimp only;rw[ae];exact hoc2,sx hpc2 ht2 Z Z,H.forget (.cons _ (.cons _ (aD _ _))) (by simp)⟩
 refine G (Wb Z)<|U<|ZF Z<|W<|Zr<|G (Yp Z)<|G (aI Z)<|G (Zf cU Z)<|G (bX al row ht2 3 Z (H.ent (i:=2) Z) Z) ?_
 refine dq (br Z Z) Z Z Z (fun h47=> ?_) (fun h47=> ?_)
 refine G (Yb Z)<|ZG<|G (Yp Z)<|ZG<|G (aI Z)<|ZG<|G (Zf jo Z)<|ZG<|G (bX al row ht2 6 Z (H.ent (i:=2) Z) Z)<|ZG ?_
 refine dq (br Z Z) Z Z Z (fun h53=> ?_) (fun h53=> ?_)
 refine G (Kt Z Z)<|G (Wb Z)<|U<|ZT Z<|Zr<|G (Yp Z)<|G (Yi Z)<|G (aI Z)<|G (Zf jo Z)<|m5 H 2 ({t2 with done:=3}) bV row ht2 6 Z Z Z Z Z Z N fun w9 cur8 row8 H=>U<|W<|Zr<|G (Zw ay H 1 Z Z Z)<|bC H 0 (#[J ck,J nx,J wt,.slice (Qd g) tx2.length c2]) aE Z Z Z Z Z N N fun w10 H=>G (Wi Z)<|U<|Zt ?_
 have hE:eC 3 t=some {t with done:=3}:=by unfold eC;rw[if_neg I,if_pos I]
 rw[hE]
 dsimp only
 exact ci (cs0:= #[J ck,J nx,J wt,.slice (Qd g) tx2.length c2]) (v1:=J 0) Z ay Z (H.ent (i:=0) Z) Z Z ⟨⟨ck,nx,wt,(tx2.set i {t2 with done:=3}),some ⟨g,0,none⟩,c2⟩,[(g,.cells cur8 dG (0,0))],Lp,by unfold Co.v Co.c;dsimp only;rw[ae],by unfold Co.a;dsimp only;rw[pq hma i (MY hta _)],d3.own row8,hp2.same ht2 Z Z Z,by dsimp only;rw[ae];exact hoc2,sx hpc2 ht2 Z Z,H.forget (.cons _ (.cons _ (aD _ _))) (by simp)⟩
 refine G (Kt Z Z)<|G (Wb Z)<|U<|ZF Z<|W<|W<|Zr<|G (Yp Z)<|G (aI Z)<|G (Zf cU Z)<|G (bX al row ht2 3 Z (H.ent (i:=2) Z) Z)<|G (Yi Z) ?_
 refine dq (br Z Z) Z Z Z (fun h65=> ?_) (fun h65=> ?_)
 refine G (Wb Z)<|U<|ZT Z<|Zk<|ZT Z<|Zk<|W<|Zr<|G (Zw ay H 1 Z Z Z)<|bC H 0 (#[J ck,J nx,J wt,.slice (Qd g) tx2.length c2]) aE Z Z Z Z Z N N fun w11 H=>G (Wi Z)<|U<|Zt ?_
 have hE:eC 3 t=some t:=by unfold eC;rw[if_neg I,if_neg I,if_pos I]
 rw[hE]
 dsimp only
 exact ci (cs0:= #[J ck,J nx,J wt,.slice (Qd g) tx2.length c2]) (v1:=J 0) Z ay Z (H.ent (i:=0) Z) Z Z ⟨⟨ck,nx,wt,tx2,some ⟨g,0,none⟩,c2⟩,[(g,.cells cur dG (0,0))],Lp,rfl,by unfold Co.a;dsimp only;rw[iT ht,hma],d3.own row,hp2,hoc2,hpc2,H.forget (.cons _ (.cons _ (aD _ _))) (by simp)⟩
 refine G (Wb Z)<|U<|ZF Z<|Zr<|G (Yp Z)<|G (aI Z)<|G (Zf cU Z)<|G (bX al row ht2 3 Z (H.ent (i:=2) Z) Z) ?_
 refine dq (br Z Z) Z Z Z (fun h70=> ?_) (fun h70=> ?_)
 refine G (Yb Z)<|ZG<|G (Yp Z)<|ZG<|G (aI Z)<|ZG<|G (Zf jo Z)<|ZG<|G (bX al row ht2 6 Z (H.ent (i:=2) Z) Z)<|ZG<|G (Yi Z)<|ZG ?_
 refine dq (br Z Z) Z Z Z (fun h77=> ?_) (fun h77=> ?_)
 refine G (Kt Z Z)<|G (Wb Z)<|U<|ZT Z<|Zk<|W<|Zr<|G (Zw ay H 1 Z Z Z)<|bC H 0 (#[J ck,J nx,J wt,.slice (Qd g) tx2.length c2]) aE Z Z Z Z Z N N fun w12 H=>G (Wi Z)<|U<|Zt ?_
 have hE:eC 3 t=some t:=by unfold eC;rw[if_neg I,if_neg I,if_pos I]
 rw[hE]
 dsimp only
 exact ci (cs0:= #[J ck,J nx,J wt,.slice (Qd g) tx2.length c2]) (v1:=J 0) Z ay Z (H.ent (i:=0) Z) Z Z ⟨⟨ck,nx,wt,tx2,some ⟨g,0,none⟩,c2⟩,[(g,.cells cur dG (0,0))],Lp,rfl,by unfold Co.a;dsimp only;rw[iT ht,hma],d3.own row,hp2,hoc2,hpc2,H.forget (.cons _ (.cons _ (aD _ _))) (by simp)⟩
 refine G (Kt Z Z)<|G (Wb Z)<|U<|ZF Z<|W<|Zr<|G (bE (cs:= #[J 0,J 0,J 0,.slice none 0 0]) fD cH N)<|bC H 0 (#[J 0,J 0,J 0,.slice none 0 0]) aE Z Z Z Z Z N N fun w13 H=>G (Wi Z)<|U<|Zt ?_
 have hE:eC 3 t=none:=by unfold eC;rw[if_neg I,if_neg I,if_neg I]
 rw[hE]
 dsimp only
 exact ci (cs0:= #[J 0,J 0,J 0,.slice none 0 0]) (v1:=J 12) Z ay Z (H.ent (i:=0) Z) Z Z ⟨rfl,H.below⟩
 refine G (Yb Z)<|ZN<|ZN<|ZN<|ZN<|ZN<|ZN<|G (N Z Z)<|G (Wb Z)<|U<|ZF Z<|W<|Zr<|G (bE (cs:= #[J 0,J 0,J 0,.slice none 0 0]) fD cH N)<|bC H 0 (#[J 0,J 0,J 0,.slice none 0 0]) aE Z Z Z Z Z N N fun w14 H=>G (Wi Z)<|U<|Zt ?_
 have hE:eC 3 t=none:=by unfold eC;rw[if_neg I,if_neg I,if_neg I]
 rw[hE]
 dsimp only
 exact ci (cs0:= #[J 0,J 0,J 0,.slice none 0 0]) (v1:=J 12) Z ay Z (H.ent (i:=0) Z) Z Z ⟨rfl,H.below⟩
 refine G (Yb Z)<|ZN<|ZN<|ZN<|ZN<|ZN<|G (N Z Z)<|G (Wb Z)<|U<|ZF Z<|W<|W<|Zr<|G (Yp Z)<|G (aI Z)<|G (Zf cU Z)<|G (bX al row ht2 3 Z (H.ent (i:=2) Z) Z)<|G (Yi Z) ?_
 refine dq (br Z Z) Z Z Z (fun h65=> ?_) (fun h65=> ?_)
 refine G (Wb Z)<|U<|ZT Z<|Zk<|ZT Z<|Zk<|W<|Zr<|G (Zw ay H 1 Z Z Z)<|bC H 0 (#[J ck,J nx,J wt,.slice (Qd g) tx2.length c2]) aE Z Z Z Z Z N N fun w15 H=>G (Wi Z)<|U<|Zt ?_
 have hE:eC 3 t=some t:=by unfold eC;rw[if_neg I,if_neg I,if_pos I]
 rw[hE]
 dsimp only
 exact ci (cs0:= #[J ck,J nx,J wt,.slice (Qd g) tx2.length c2]) (v1:=J 0) Z ay Z (H.ent (i:=0) Z) Z Z ⟨⟨ck,nx,wt,tx2,some ⟨g,0,none⟩,c2⟩,[(g,.cells cur dG (0,0))],Lp,rfl,by unfold Co.a;dsimp only;rw[iT ht,hma],d3.own row,hp2,hoc2,hpc2,H.forget (.cons _ (.cons _ (aD _ _))) (by simp)⟩
 refine G (Wb Z)<|U<|ZF Z<|Zr<|G (Yp Z)<|G (aI Z)<|G (Zf cU Z)<|G (bX al row ht2 3 Z (H.ent (i:=2) Z) Z) ?_
 refine dq (br Z Z) Z Z Z (fun h70=> ?_) (fun h70=> ?_)
 refine G (Yb Z)<|ZG<|G (Yp Z)<|ZG<|G (aI Z)<|ZG<|G (Zf jo Z)<|ZG<|G (bX al row ht2 6 Z (H.ent (i:=2) Z) Z)<|ZG<|G (Yi Z)<|ZG ?_
 refine dq (br Z Z) Z Z Z (fun h77=> ?_) (fun h77=> ?_)
 refine G (Kt Z Z)<|G (Wb Z)<|U<|ZT Z<|Zk<|W<|Zr<|G (Zw ay H 1 Z Z Z)<|bC H 0 (#[J ck,J nx,J wt,.slice (Qd g) tx2.length c2]) aE Z Z Z Z Z N N fun w16 H=>G (Wi Z)<|U<|Zt ?_
 have hE:eC 3 t=some t:=by unfold eC;rw[if_neg I,if_neg I,if_pos I]
 rw[hE]
 dsimp only
 exact ci (cs0:= #[J ck,J nx,J wt,.slice (Qd g) tx2.length c2]) (v1:=J 0) Z ay Z (H.ent (i:=0) Z) Z Z ⟨⟨ck,nx,wt,tx2,some ⟨g,0,none⟩,c2⟩,[(g,.cells cur dG (0,0))],Lp,rfl,by unfold Co.a;dsimp only;rw[iT ht,hma],d3.own row,hp2,hoc2,hpc2,H.forget (.cons _ (.cons _ (aD _ _))) (by simp)⟩
 refine G (Kt Z Z)<|G (Wb Z)<|U<|ZF Z<|W<|Zr<|G (bE (cs:= #[J 0,J 0,J 0,.slice none 0 0]) fD cH N)<|bC H 0 (#[J 0,J 0,J 0,.slice none 0 0]) aE Z Z Z Z Z N N fun w17 H=>G (Wi Z)<|U<|Zt ?_
 have hE:eC 3 t=none:=by unfold eC;rw[if_neg I,if_neg I,if_neg I]
 rw[hE]
 dsimp only
 exact ci (cs0:= #[J 0,J 0,J 0,.slice none 0 0]) (v1:=J 12) Z ay Z (H.ent (i:=0) Z) Z Z ⟨rfl,H.below⟩
 refine G (Yb Z)<|ZN<|ZN<|ZN<|ZN<|ZN<|ZN<|G (N Z Z)<|G (Wb Z)<|U<|ZF Z<|W<|Zr<|G (bE (cs:= #[J 0,J 0,J 0,.slice none 0 0]) fD cH N)<|bC H 0 (#[J 0,J 0,J 0,.slice none 0 0]) aE Z Z Z Z Z N N fun w18 H=>G (Wi Z)<|U<|Zt ?_
 have hE:eC 3 t=none:=by unfold eC;rw[if_neg I,if_neg I,if_neg I]
 rw[hE]
 dsimp only
 exact ci (cs0:= #[J 0,J 0,J 0,.slice none 0 0]) (v1:=J 12) Z ay Z (H.ent (i:=0) Z) Z Z ⟨rfl,H.below⟩
theorem J1 (c:Co) (s:ByteArray) (ver:Int) (i:Nat) (t:Tx) (w:World) (h:c.rd 0 w.heap.size w) (hok:gI c=true) (hn:bo s=true) (hi:fQ c s=i) (ht:c.txs[i]? =some t) (hv:t.ver=ver):dt aa lY [c.v,.string s,J ver,.bool false] w fun v w2=>match eC 4 t with|none=>v=.tuple #[.agg #[J 0,J 0,J 0,.slice none 0 0],J 12]/\Below w.heap.size w w2|some t'=> ∃ (c':Co) (Lr Lp:List (Nat×Obj)),v=.tuple #[c'.v,J 0]/\qC w w2 (Co.a {c with txs:=c.txs.set i t'}) c' Lr Lp:=by
 refine aG pY Z Z ?_
 have hcap:=h.cap
 have hfew:=h.few
 have hfp:=h.fewP
 have H:=Hp.startCo h
 obtain⟨ck,nx,wt,txs,cA,cc⟩:=c
 dsimp only at hcap hfew hfp H
 show CW _ _ _ _ (args [.agg #[J ck,J nx,J wt,.slice cA txs.length cc],.string s,J ver,.bool false]) w
 dsimp only at ht⊢
 refine W<|Zr<|gM H Z Z fun w1 b4 H=>fg H cH Z fun w2 b8 H=>G (Wi Z)<|U<|W<|Zr<|G (Zw ay H 1 Z Z Z)<|G (Yt Z)<|G (Yi Z)<|cz gG (wR ⟨ck,nx,wt,txs,cA,cc⟩ s ver i t _ ⟨H.rd0 0 Z,fun t ht=>fB H 1 Z ht,hcap,hfew,hfp⟩ hok hn hi ht hv) Z Z ?_
 rintro _ w3 ⟨⟨ck2,nx2,wt2,tx2,A2,c2⟩,Lr,Lp,rfl,ha2,ho2,hp2,hoc2,hpc2,hj2⟩
 replace H:=H.joinR hj2;clear hj2
 simp only[Co.a,Co.mk.injEq]at ha2
 obtain⟨e1,e2,e3,hma,-,-⟩:=ha2
 obtain rfl:ck=ck2:=e1.symm
 obtain rfl:nx=nx2:=e2.symm
 obtain rfl:wt=wt2:=e3.symm
 dsimp only at ho2 hp2 hoc2 hpc2 H
 refine G (Yu Z)<|G (Xa Z Z)<|G (Xi Z Z)<|G (Xi Z Z)<|bC H 1 (#[J ck,J nx,J wt,.slice A2 tx2.length c2]) aE Z Z Z Z Z N N fun w4 H=>G (Wi Z)<|G (Wi Z)<|U<|W<|W<|Zr<|G (Yi Z)<|G (ch Z Z Z)<|U<|ZF Z<|Zk<|W<|Zr<|G (Wi Z)<|U<|W<|W<|Zr<|G (Yb Z)<|U<|ZF Z<|Zk<|W<|W ?_
 obtain⟨t2,ht2,hta⟩:=ro hma ht
 have hl2:=(cu ht2).1
 obtain⟨g,cur,rfl,rfl,row⟩:=ho2.row I
 have hst:t2.state=t.state:=by show t2.a.state=t.a.state;rw[hta]
 have hdn:t2.done=t.done:=by show t2.a.done=t.a.done;rw[hta]
 refine Zr<|G (Zf cP Z)<|G (Zd dK H 1 Z Z Z)<|G (Yi Z)<|G (cQ gK Z Z I)<|G (Wp Z)<|U<|Zb<|W<|Zr<|G (Yp Z)<|G (aI Z)<|G (Zf cU Z)<|G (bX al row ht2 3 Z (H.ent (i:=2) Z) Z) ?_
 refine dq (br Z Z) Z Z Z (fun h37=> ?_) (fun h37=> ?_)
 refine G (Wb Z)<|U<|ZT Z<|Zr<|G (Yp Z)<|G (Yi Z)<|G (aI Z)<|G (Zf cU Z)<|m5 H 2 ({t2 with state:=4}) bV row ht2 3 Z Z Z Z Z Z N fun w6 cur5 row5 H=>U<|W<|Zr<|G (Zw ay H 1 Z Z Z)<|bC H 0 (#[J ck,J nx,J wt,.slice (Qd g) tx2.length c2]) aE Z Z Z Z Z N N fun w7 H=>G (Wi Z)<|U<|Zt ?_
 have hE:eC 4 t=some {t with state:=4}:=by unfold eC;rw[if_pos I]
 rw[hE]
 dsimp only
 exact ci (cs0:= #[J ck,J nx,J wt,.slice (Qd g) tx2.length c2]) (v1:=J 0) Z ay Z (H.ent (i:=0) Z) Z Z ⟨⟨ck,nx,wt,(tx2.set i {t2 with state:=4}),some ⟨g,0,none⟩,c2⟩,[(g,.cells cur5 dG (0,0))],Lp,by unfold Co.v Co.c;dsimp only;rw[ae],by unfold Co.a;dsimp only;rw[pq hma i (IT hta _)],d3.own row5,hp2.same ht2 Z Z Z,by dsimp only;rw[ae];exact hoc2,sx hpc2 ht2 Z Z,H.forget (.cons _ (.cons _ (aD _ _))) (by simp)⟩
 refine G (Wb Z)<|U<|ZF Z<|W<|Zr<|G (Yp Z)<|G (aI Z)<|G (Zf cU Z)<|G (bX al row ht2 3 Z (H.ent (i:=2) Z) Z) ?_
 refine dq (br Z Z) Z Z Z (fun h47=> ?_) (fun h47=> ?_)
 refine G (Yb Z)<|ZG<|G (Yp Z)<|ZG<|G (aI Z)<|ZG<|G (Zf jo Z)<|ZG<|G (bX al row ht2 6 Z (H.ent (i:=2) Z) Z)<|ZG ?_
 refine dq (br Z Z) Z Z Z (fun h53=> ?_) (fun h53=> ?_)
 refine G (Kt Z Z)<|G (Wb Z)<|U<|ZT Z<|Zr<|G (Yp Z)<|G (Yi Z)<|G (aI Z)<|G (Zf jo Z)<|m5 H 2 ({t2 with done:=4}) bV row ht2 6 Z Z Z Z Z Z N fun w9 cur8 row8 H=>U<|W<|Zr<|G (Zw ay H 1 Z Z Z)<|bC H 0 (#[J ck,J nx,J wt,.slice (Qd g) tx2.length c2]) aE Z Z Z Z Z N N fun w10 H=>G (Wi Z)<|U<|Zt ?_
 have hE:eC 4 t=some {t with done:=4}:=by unfold eC;rw[if_neg I,if_pos I]
 rw[hE]
 dsimp only
 exact ci (cs0:= #[J ck,J nx,J wt,.slice (Qd g) tx2.length c2]) (v1:=J 0) Z ay Z (H.ent (i:=0) Z) Z Z ⟨⟨ck,nx,wt,(tx2.set i {t2 with done:=4}),some ⟨g,0,none⟩,c2⟩,[(g,.cells cur8 dG (0,0))],Lp,by unfold Co.v Co.c;dsimp only;rw[ae],by unfold Co.a;dsimp only;rw[pq hma i (MY hta _)],d3.own row8,hp2.same ht2 Z Z Z,by dsimp only;rw[ae];exact hoc2,sx hpc2 ht2 Z Z,H.forget (.cons _ (.cons _ (aD _ _))) (by simp)⟩
 refine G (Kt Z Z)<|G (Wb Z)<|U<|ZF Z<|W<|W<|Zr<|G (Yp Z)<|G (aI Z)<|G (Zf cU Z)<|G (bX al row ht2 3 Z (H.ent (i:=2) Z) Z)<|G (Yi Z) ?_
 refine dq (br Z Z) Z Z Z (fun h65=> ?_) (fun h65=> ?_)
 refine G (Wb Z)<|U<|ZT Z<|Zk<|ZT Z<|Zk<|W<|Zr<|G (Zw ay H 1 Z Z Z)<|bC H 0 (#[J ck,J nx,J wt,.slice (Qd g) tx2.length c2]) aE Z Z Z Z Z N N fun w11 H=>G (Wi Z)<|U<|Zt ?_
 have hE:eC 4 t=some t:=by unfold eC;rw[if_neg I,if_neg I,if_pos I]
 rw[hE]
 dsimp only
 exact ci (cs0:= #[J ck,J nx,J wt,.slice (Qd g) tx2.length c2]) (v1:=J 0) Z ay Z (H.ent (i:=0) Z) Z Z ⟨⟨ck,nx,wt,tx2,some ⟨g,0,none⟩,c2⟩,[(g,.cells cur dG (0,0))],Lp,rfl,by unfold Co.a;dsimp only;rw[iT ht,hma],d3.own row,hp2,hoc2,hpc2,H.forget (.cons _ (.cons _ (aD _ _))) (by simp)⟩
 refine G (Wb Z)<|U<|ZF Z<|Zr<|G (Yp Z)<|G (aI Z)<|G (Zf cU Z)<|G (bX al row ht2 3 Z (H.ent (i:=2) Z) Z) ?_
 refine dq (br Z Z) Z Z Z (fun h70=> ?_) (fun h70=> ?_)
 refine G (Yb Z)<|ZG<|G (Yp Z)<|ZG<|G (aI Z)<|ZG<|G (Zf jo Z)<|ZG<|G (bX al row ht2 6 Z (H.ent (i:=2) Z) Z)<|ZG<|G (Yi Z)<|ZG ?_
 refine dq (br Z Z) Z Z Z (fun h77=> ?_) (fun h77=> ?_)
 refine G (Kt Z Z)<|G (Wb Z)<|U<|ZT Z<|Zk<|W<|Zr<|G (Zw ay H 1 Z Z Z)<|bC H 0 (#[J ck,J nx,J wt,.slice (Qd g) tx2.length c2]) aE Z Z Z Z Z N N fun w12 H=>G (Wi Z)<|U<|Zt ?_
 have hE:eC 4 t=some t:=by unfold eC;rw[if_neg I,if_neg I,if_pos I]
 rw[hE]
 dsimp only
 exact ci (cs0:= #[J ck,J nx,J wt,.slice (Qd g) tx2.length c2]) (v1:=J 0) Z ay Z (H.ent (i:=0) Z) Z Z ⟨⟨ck,nx,wt,tx2,some ⟨g,0,none⟩,c2⟩,[(g,.cells cur dG (0,0))],Lp,rfl,by unfold Co.a;dsimp only;rw[iT ht,hma],d3.own row,hp2,hoc2,hpc2,H.forget (.cons _ (.cons _ (aD _ _))) (by simp)⟩
 refine G (Kt Z Z)<|G (Wb Z)<|U<|ZF Z<|W<|Zr<|G (bE (cs:= #[J 0,J 0,J 0,.slice none 0 0]) fD cH N)<|bC H 0 (#[J 0,J 0,J 0,.slice none 0 0]) aE Z Z Z Z Z N N fun w13 H=>G (Wi Z)<|U<|Zt ?_
 have hE:eC 4 t=none:=by unfold eC;rw[if_neg I,if_neg I,if_neg I]
 rw[hE]
 dsimp only
 exact ci (cs0:= #[J 0,J 0,J 0,.slice none 0 0]) (v1:=J 12) Z ay Z (H.ent (i:=0) Z) Z Z ⟨rfl,H.below⟩
 refine G (Yb Z)<|ZN<|ZN<|ZN<|ZN<|ZN<|ZN<|G (N Z Z)<|G (Wb Z)<|U<|ZF Z<|W<|Zr<|G (bE (cs:= #[J 0,J 0,J 0,.slice none 0 0]) fD cH N)<|bC H 0 (#[J 0,J 0,J 0,.slice none 0 0]) aE Z Z Z Z Z N N fun w14 H=>G (Wi Z)<|U<|Zt ?_
 have hE:eC 4 t=none:=by unfold eC;rw[if_neg I,if_neg I,if_neg I]
 rw[hE]
 dsimp only
 exact ci (cs0:= #[J 0,J 0,J 0,.slice none 0 0]) (v1:=J 12) Z ay Z (H.ent (i:=0) Z) Z Z ⟨rfl,H.below⟩
 refine G (Yb Z)<|ZN<|ZN<|ZN<|ZN<|ZN<|G (N Z Z)<|G (Wb Z)<|U<|ZF Z<|W<|W<|Zr<|G (Yp Z)<|G (aI Z)<|G (Zf cU Z)<|G (bX al row ht2 3 Z (H.ent (i:=2) Z) Z)<|G (Yi Z) ?_
 refine dq (br Z Z) Z Z Z (fun h65=> ?_) (fun h65=> ?_)
 refine G (Wb Z)<|U<|ZT Z<|Zk<|ZT Z<|Zk<|W<|Zr<|G (Zw ay H 1 Z Z Z)<|bC H 0 (#[J ck,J nx,J wt,.slice (Qd g) tx2.length c2]) aE Z Z Z Z Z N N fun w15 H=>G (Wi Z)<|U<|Zt ?_
 have hE:eC 4 t=some t:=by unfold eC;rw[if_neg I,if_neg I,if_pos I]
 rw[hE]
 dsimp only
 exact ci (cs0:= #[J ck,J nx,J wt,.slice (Qd g) tx2.length c2]) (v1:=J 0) Z ay Z (H.ent (i:=0) Z) Z Z ⟨⟨ck,nx,wt,tx2,some ⟨g,0,none⟩,c2⟩,[(g,.cells cur dG (0,0))],Lp,rfl,by unfold Co.a;dsimp only;rw[iT ht,hma],d3.own row,hp2,hoc2,hpc2,H.forget (.cons _ (.cons _ (aD _ _))) (by simp)⟩
 refine G (Wb Z)<|U<|ZF Z<|Zr<|G (Yp Z)<|G (aI Z)<|G (Zf cU Z)<|G (bX al row ht2 3 Z (H.ent (i:=2) Z) Z) ?_
 refine dq (br Z Z) Z Z Z (fun h70=> ?_) (fun h70=> ?_)
 refine G (Yb Z)<|ZG<|G (Yp Z)<|ZG<|G (aI Z)<|ZG<|G (Zf jo Z)<|ZG<|G (bX al row ht2 6 Z (H.ent (i:=2) Z) Z)<|ZG<|G (Yi Z)<|ZG ?_
 refine dq (br Z Z) Z Z Z (fun h77=> ?_) (fun h77=> ?_)
 refine G (Kt Z Z)<|G (Wb Z)<|U<|ZT Z<|Zk<|W<|Zr<|G (Zw ay H 1 Z Z Z)<|bC H 0 (#[J ck,J nx,J wt,.slice (Qd g) tx2.length c2]) aE Z Z Z Z Z N N fun w16 H=>G (Wi Z)<|U<|Zt ?_
 have hE:eC 4 t=some t:=by unfold eC;rw[if_neg I,if_neg I,if_pos I]
 rw[hE]
 dsimp only
 exact ci (cs0:= #[J ck,J nx,J wt,.slice (Qd g) tx2.length c2]) (v1:=J 0) Z ay Z (H.ent (i:=0) Z) Z Z ⟨⟨ck,nx,wt,tx2,some ⟨g,0,none⟩,c2⟩,[(g,.cells cur dG (0,0))],Lp,rfl,by unfold Co.a;dsimp only;rw[iT ht,hma],d3.own row,hp2,hoc2,hpc2,H.forget (.cons _ (.cons _ (aD _ _))) (by simp)⟩
 refine G (Kt Z Z)<|G (Wb Z)<|U<|ZF Z<|W<|Zr<|G (bE (cs:= #[J 0,J 0,J 0,.slice none 0 0]) fD cH N)<|bC H 0 (#[J 0,J 0,J 0,.slice none 0 0]) aE Z Z Z Z Z N N fun w17 H=>G (Wi Z)<|U<|Zt ?_
 have hE:eC 4 t=none:=by unfold eC;rw[if_neg I,if_neg I,if_neg I]
 rw[hE]
 dsimp only
 exact ci (cs0:= #[J 0,J 0,J 0,.slice none 0 0]) (v1:=J 12) Z ay Z (H.ent (i:=0) Z) Z Z ⟨rfl,H.below⟩
 refine G (Yb Z)<|ZN<|ZN<|ZN<|ZN<|ZN<|ZN<|G (N Z Z)<|G (Wb Z)<|U<|ZF Z<|W<|Zr<|G (bE (cs:= #[J 0,J 0,J 0,.slice none 0 0]) fD cH N)<|bC H 0 (#[J 0,J 0,J 0,.slice none 0 0]) aE Z Z Z Z Z N N fun w18 H=>G (Wi Z)<|U<|Zt ?_
 have hE:eC 4 t=none:=by unfold eC;rw[if_neg I,if_neg I,if_neg I]
 rw[hE]
 dsimp only
 exact ci (cs0:= #[J 0,J 0,J 0,.slice none 0 0]) (v1:=J 12) Z ay Z (H.ent (i:=0) Z) Z Z ⟨rfl,H.below⟩
/-- P5.7: what a tick does to one producer's transaction -/
def fu (clock wait:Int) (t:Tx):Tx:=if t.state=2/\wait<=clock-t.since/\t.ver<1073741824 then{t with state:=4,ver:=t.ver+1}else t
theorem KJ (ck wt:Int) (t:Tx):(fu ck wt t).a=fu ck wt t.a:=by
 unfold fu
 by_cases h:t.state=2/\wt<=ck-t.since/\t.ver<1073741824
 rw[if_pos h,if_pos (show t.a.state=2/\wt<=ck-t.a.since/\t.a.ver<1073741824 from h)];rfl
 rw[if_neg h,if_neg (show¬ (t.a.state=2/\wt<=ck-t.a.since/\t.a.ver<1073741824)from h)]
theorem CI (ck wt:Int) (t:Tx):(fu ck wt t).A=t.A/\(fu ck wt t).parts=t.parts/\(fu ck wt t).cap=t.cap:=by
 unfold fu
 split<;>exact⟨rfl,rfl,rfl⟩
theorem eD.tick (ck wt:Int): ∀ {ts:List Tx} {L:List (Nat×Obj)},eD ts L->eD (ts.map (fu ck wt)) L
 |[],_,h=>h
 |t::_,_,⟨L1,L2,h1,h2,h3⟩=>⟨L1,L2,h1,by obtain⟨a,b,c⟩:=CI ck wt t;rw[a,b,c];exact h2,eD.tick ck wt h3⟩
def mu (ck wt:Int) (ts:List Tx) (k:Nat):List Tx:=(ts.take k).map (fu ck wt)++ts.drop k
theorem zR (ck wt:Int) (ts:List Tx) (k:Nat):(mu ck wt ts k).length=ts.length:=by
 unfold mu;simp;omega
theorem I5 {ck wt:Int} {ts:List Tx} {k:Nat} {x:Tx} (h:ts[k]? =some x):(mu ck wt ts k)[k]? =some x:=by
 have:=(cu h).1
 unfold mu
 rw[cj (by simp;omega)]
 simp
 rw[show k-min k ts.length=0 by omega]
 simpa using h
theorem sK {ck wt:Int} {ts:List Tx} {k:Nat} {x:Tx} (h:ts[k]? =some x):(mu ck wt ts k).set k (fu ck wt x)=mu ck wt ts (k+1):=by
 have hl:=(cu h).1
 unfold mu
 rw[dY h,cM h,bh,jj _ _ (by simp;omega)]
 simp
 rw[show k-min k ts.length=0 by omega]
 simp
theorem uK {ck nx:Int}: ∀ {l pre:List Tx},oa ck nx pre l=true-> ∀ t∈l,fK ck nx t=true
 |[],_,_,_,ht=>by cases ht
 |x::l,pre,h,t,ht=>by
  unfold oa at h
  simp only[aQ]at h
  rcases av.1 ht with rfl|ht
  exact h.1.1
  exact uK h.2 t ht
def vR (c:Co) (n:Int):Co:={c with clock:=c.clock+n,txs:=c.txs.map (fu (c.clock+n) c.wait)}
theorem M8 (c:Co) (n:Int) (w:World) (h:c.rd 0 w.heap.size w) (hok:gI c=true) (hn0:0<=n) (hn1:n<=1000) (hcl:c.clock+n<=1073741824):dt aa sY [c.v,J n] w fun v w2=> ∃ (c':Co) (Lr Lp:List (Nat×Obj)),v=.tuple #[c'.v,J 0]/\qC w w2 (vR c.a n) c' Lr Lp:=by
 refine aG vz Z Z ?_
 have hcap:=h.cap
 have hfew:=h.few
 have hfp:=h.fewP
 have H:=Hp.startCo h
 obtain⟨ck,nx,wt,txs,cA,cc⟩:=c
 dsimp only at hcap hfew hfp H
 show CW _ _ _ _ (args [.agg #[J ck,J nx,J wt,.slice cA txs.length cc],J n]) w
 dsimp only at hcl
 obtain⟨q1,q2,q3,q4,q5,q6,q7⟩:=i7.1 hok
 dsimp only at q1 q2 q3 q4 q5 q6
 obtain⟨q8,q9⟩:=uW q1
 refine W<|Zr<|gM H Z Z fun w1 b2 H=>fg H cH Z fun w2 b4 H=>G (Wi Z)<|U<|W<|W<|Zr<|G (Zw ay H 1 Z Z Z)<|cz kE (qu ⟨ck,nx,wt,txs,cA,cc⟩ _ ⟨H.rd0 0 Z,fun t ht=>fB H 1 Z ht,hcap,hfew,hfp⟩) Z Z ?_
 rw[hok]
 rintro _ w3 ⟨rfl,hb⟩;replace H:=H.later hb;clear hb
 refine G (Wi Z)<|U<|W<|Zr<|G (Yi Z)<|G (ch Z Z Z)<|U<|ZF Z<|Zk<|W<|W<|Zr<|G (Yi Z)<|G (dn Z Z I)<|G (Yb Z)<|ZG<|G (Yi Z)<|ZG<|G (eu Z Z I)<|G (N Z Z)<|G (Yb Z)<|ZG<|G (Zf kw Z)<|ZG<|G (Zd al H 1 Z Z Z)<|ZG<|G (Yi Z)<|ZG<|G (bn Z Z I I)<|ZG<|G (eu Z Z I)<|G (N Z Z)<|U<|ZF Z<|Zk<|W<|Zr<|G (Zw ay H 1 Z Z Z)<|cz jc (tg ⟨ck,nx,wt,txs,cA,cc⟩ _ ⟨H.rd0 0 Z,fun t ht=>fB H 1 Z ht,hcap,hfew,hfp⟩) Z Z ?_
 rintro _ w4 ⟨⟨ck2,nx2,wt2,tx2,A2,c2⟩,Lr,Lp,rfl,ha2,ho2,hp2,hoc2,hpc2,hj2⟩
 replace H:=H.joinR hj2;clear hj2
 simp only[Co.a,Co.mk.injEq]at ha2
 obtain⟨e1,e2,e3,hma,-,-⟩:=ha2
 obtain rfl:ck=ck2:=e1.symm
 obtain rfl:nx=nx2:=e2.symm
 obtain rfl:wt=wt2:=e3.symm
 dsimp only at ho2 hp2 hoc2 hpc2 H
 have hlen2:tx2.length=txs.length:=by have:=congrArg di hma;simpa using this
 refine bC H 1 (#[J ck,J nx,J wt,.slice A2 tx2.length c2]) aE Z Z Z Z Z N N fun w5 H=>U<|W<|Zr<|G (Zf kw Z)<|G (Zd al H 1 Z Z Z)<|G (Yi Z)<|G (bn Z Z I I)<|G (Zf kw Z)<|bC H 1 (#[J (ck+n),J nx,J wt,.slice A2 tx2.length c2]) bV Z Z Z Z Z N N fun w6 H=>U<|W<|W<|Zr<|G (Zf cP Z)<|G (Zd dK H 1 Z Z Z)<|G (bj lk Z)<|G (Yi Z)<|U<|Zb ?_
 refine bW (τ:=Nat×Option Addr) [7,8,39,40,41,42,43,44,45,46,47,48,49,50,51,52,53,54,55,56,57,58,59,60,61,62,63,64,65,66,67,68,69,70,71,72,73,74,75,76,77,78,79,80] (fun(k,_)=>[(39,J (k:Nat))]) (fun(k,A2) w'=>k<=tx2.length/\ ∃ L',gH rX (.slice A2 (mu (ck+n) wt tx2 k).length c2) dG (mu (ck+n) wt tx2 k) L'/\Hp w w' ([(b4,.cells #[J 0,J 0,J 0,.slice none 0 0] bc (0,0)),(b2,.cells #[J (ck+n),J nx,J wt,.slice A2 tx2.length c2] bc (0,0))]++L'++(Lp++[])) [d4 rX 0 w.heap.size cA txs,iM 0 w.heap.size txs]) (fun(k,_)=>tx2.length-k) (0,A2) ⟨by omega,Lr,by unfold mu;simpa using ho2,by show Hp w _ (_::_::(Lr++(Lp++[]))) _;rw[<-aB];exact H⟩ (dO Z) ?_
 rintro⟨k,A2⟩ ρ1 w7 ⟨hk,L1,ho,H⟩
 show CW _ _ _ _ (dH (gT _ _ ρ1) [(39,J (k:Nat))]) w7
 refine W<|Zr ?_
 refine dq (cL Z Z) Z Z Z (fun h40=> ?_) (fun h40=> ?_)
 refine U<|W<|ZT Z<|Zk<|W<|Zb<|W ?_
 obtain⟨x,hxt⟩: ∃ x,tx2[k]? =some x:=⟨_,ai I⟩
 have hx:=I5 (ck:=ck+n) (wt:=wt) hxt
 have htl:=zR (ck+n) wt tx2 k
 obtain⟨g,cur,rfl,rfl,row⟩:=ho.row I
 obtain⟨t,ht,hta⟩:=ro hma.symm hxt
 have hxo:fK ck nx x=true:=by have h1:fK ck nx t.a=true:=uK q7 t (ab ht);rw[hta]at h1;exact h1
 obtain⟨a1,a2,a3,a4,a5,a6,a7,a8,a9,a10,a11⟩:=ce.1 hxo
 obtain⟨v1,v2⟩:=uW a4
 refine Zr<|G (Yi Z)<|G (Wi Z)<|U<|W<|Zr<|G (Zf cP Z)<|G (Zd dK H 1 Z Z Z)<|G (Yi Z)<|G (cQ gK Z Z I)<|G (Wp Z)<|U<|W ?_
 refine bP cD [0,1,2,3,4,5,6,7,8,9,10,11,12,13,14,15,16,17,18,19,20,21,22,23] [] [] [0,1,2,4,5,6,8,9,10,12,13,15,16,17,18,19,20,22,23] (sp []) N N N N Nq (cO _) ?_
 refine aw Z Z Z Z Z (fun w' hw'=>Yp Z)<|aw Z Z Z Z Z (fun w' hw'=>aI Z)<|aw Z Z Z Z Z (fun w' hw'=>Zf cU Z)<|aw Z Z Z Z Z (fun w' hw'=>bX al row hx 3 Z ((H.later hw').ent (i:=2) Z) Z) ?_
 refine Cv Z Z Z Z Z (fun w' hw'=>br Z Z) (fun h50=> ?_) (fun h50=> ?_)
 refine aw Z Z Z Z Z (fun w' hw'=>Yb Z)<|aw Z Z Z Z Z (fun w' hw'=>Zf kw Z)<|aw Z Z Z Z Z (fun w' hw'=>bf al Z (aJ ((H.later hw').ent (i:=1) Z) Z))<|aw Z Z Z Z Z (fun w' hw'=>Yp Z)<|aw Z Z Z Z Z (fun w' hw'=>aI Z)<|aw Z Z Z Z Z (fun w' hw'=>Zf uk Z)<|aw Z Z Z Z Z (fun w' hw'=>bX al row hx 5 Z ((H.later hw').ent (i:=2) Z) Z)<|aw Z Z Z Z Z (fun w' hw'=>ng Z Z I I)<|aw Z Z Z Z Z (fun w' hw'=>Zf wq Z)<|aw Z Z Z Z Z (fun w' hw'=>bf al Z (aJ ((H.later hw').ent (i:=1) Z) Z)) ?_
 refine Cv Z Z Z Z Z (fun w' hw'=>kk Z Z) (fun h61=> ?_) (fun h61=> ?_)
 refine aw Z Z Z Z Z (fun w' hw'=>Kt Z Z)<|aw Z Z Z Z Z (fun w' hw'=>Yb Z)<|aw Z Z Z Z Z (fun w' hw'=>Yp Z)<|aw Z Z Z Z Z (fun w' hw'=>aI Z)<|aw Z Z Z Z Z (fun w' hw'=>Zf gD Z)<|aw Z Z Z Z Z (fun w' hw'=>bX al row hx 2 Z ((H.later hw').ent (i:=2) Z) Z) ?_
 refine Cv Z Z Z Z Z (fun w' hw'=>cL Z Z) (fun h68=> ?_) (fun h68=> ?_)
 refine aw Z Z Z Z Z (fun w' hw'=>Kt Z Z)<|aU ?_
 intro w8 hw' hF
 replace H:=H.later hw';clear hw' hF
 refine U<|ZT Z<|W<|Zr<|G (Yp Z)<|G (aI Z)<|G (Zf cU Z)<|m5 H 2 ({x with state:=4}) bV row hx 3 Z Z Z Z Z Z N fun w10 cur9 row9 H=>U ?_
 have hx2:((mu (ck+n) wt tx2 k).set k {x with state:=4})[k]? =some {x with state:=4}:=am I
 have hv2:({x with state:=4}:Tx).ver=x.ver:=rfl
 refine Zr<|G (Yp Z)<|G (aI Z)<|G (Zf gD Z)<|G (bX al row9 hx2 2 Z (H.ent (i:=2) Z) Z)<|G (bn Z Z I I)<|G (aI Z)<|G (Zf gD Z)<|m5 H 2 ({x with state:=4,ver:=x.ver+1}) bV row9 hx2 2 Z Z Z Z Z Z N fun w12 cur11 row11 H=>U<|Zr<|G (bn Z Z I I)<|G (Yi Z)<|U ?_
 have hT:fu (ck+n) wt x={x with state:=4,ver:=x.ver+1}:=by unfold fu;rw[if_pos I]
 have hS:=sK (ck:=ck+n) (wt:=wt) hxt
 rw[hT]at hS
 refine⟨(k+1,some ⟨g,0,none⟩),⟨by omega,_,by rw[<-hS];exact d3.own (by have:=row11;rwa[fL]at this),H⟩,dO Z,Qg,by show tx2.length- (k+1)<tx2.length-k;omega⟩
 refine aw Z Z Z Z Z (fun w' hw'=>Kt Z Z)<|aU ?_
 intro w13 hw' hF
 replace H:=H.later hw';clear hw' hF
 refine U<|ZF Z<|Zk<|Zr<|G (bn Z Z I I)<|G (Yi Z)<|U ?_
 have hT:fu (ck+n) wt x=x:=by unfold fu;rw[if_neg I]
 have hS:=sK (ck:=ck+n) (wt:=wt) hxt
 rw[hT]at hS
 refine⟨(k+1,some ⟨g,0,none⟩),⟨by omega,_,by rw[<-hS];exact d3.own (by rw[iT hx];exact row),H⟩,dO Z,Qg,by show tx2.length- (k+1)<tx2.length-k;omega⟩
 refine aw Z Z Z Z Z (fun w' hw'=>Kt Z Z)<|aw Z Z Z Z Z (fun w' hw'=>Yb Z)<|eU Z Z Z Z<|eU Z Z Z Z<|eU Z Z Z Z<|eU Z Z Z Z<|eU Z Z Z Z<|aw Z Z Z Z Z (fun w' hw'=>N Z Z)<|aU ?_
 intro w14 hw' hF
 replace H:=H.later hw';clear hw' hF
 refine U<|ZF Z<|Zk<|Zr<|G (bn Z Z I I)<|G (Yi Z)<|U ?_
 have hT:fu (ck+n) wt x=x:=by unfold fu;rw[if_neg I]
 have hS:=sK (ck:=ck+n) (wt:=wt) hxt
 rw[hT]at hS
 refine⟨(k+1,some ⟨g,0,none⟩),⟨by omega,_,by rw[<-hS];exact d3.own (by rw[iT hx];exact row),H⟩,dO Z,Qg,by show tx2.length- (k+1)<tx2.length-k;omega⟩
 refine aw Z Z Z Z Z (fun w' hw'=>Yb Z)<|eU Z Z Z Z<|eU Z Z Z Z<|eU Z Z Z Z<|eU Z Z Z Z<|eU Z Z Z Z<|eU Z Z Z Z<|eU Z Z Z Z<|eU Z Z Z Z<|eU Z Z Z Z<|eU Z Z Z Z<|aw Z Z Z Z Z (fun w' hw'=>N Z Z)<|aw Z Z Z Z Z (fun w' hw'=>Yb Z)<|eU Z Z Z Z<|eU Z Z Z Z<|eU Z Z Z Z<|eU Z Z Z Z<|eU Z Z Z Z<|aw Z Z Z Z Z (fun w' hw'=>N Z Z)<|aU ?_
 intro w15 hw' hF
 replace H:=H.later hw';clear hw' hF
 refine U<|ZF Z<|Zk<|Zr<|G (bn Z Z I I)<|G (Yi Z)<|U ?_
 have hT:fu (ck+n) wt x=x:=by unfold fu;rw[if_neg I]
 have hS:=sK (ck:=ck+n) (wt:=wt) hxt
 rw[hT]at hS
 refine⟨(k+1,some ⟨g,0,none⟩),⟨by omega,_,by rw[<-hS];exact d3.own (by rw[iT hx];exact row),H⟩,dO Z,Qg,by show tx2.length- (k+1)<tx2.length-k;omega⟩
 have hke:k=tx2.length:=by omega
 have hfin:mu (ck+n) wt tx2 k=tx2.map (fu (ck+n) wt):=by unfold mu;rw[hke,bM,fz,aW]
 have hfl:(mu (ck+n) wt tx2 k).length=tx2.length:=zR _ _ _ _
 rw[hfin]at ho hfl
 have hTa:(tx2.map (fu (ck+n) wt)).map Tx.a=(txs.map Tx.a).map (fu (ck+n) wt):=by rw[<-hma,pF,pF];congr 1;funext t;exact KJ _ _ t
 refine U<|W<|ZF Z<|Zx<|W<|Zr<|G (Zw ay H 1 Z Z Z)<|bC H 0 (#[J (ck+n),J nx,J wt,.slice A2 tx2.length c2]) aE Z Z Z Z Z N N fun w16 H=>G (Wi Z)<|U<|Zt ?_
 exact ci (cs0:= #[J (ck+n),J nx,J wt,.slice A2 tx2.length c2]) (v1:=J 0) Z ay Z (H.ent (i:=0) Z) Z Z ⟨⟨ck+n,nx,wt,tx2.map (fu (ck+n) wt),A2,c2⟩,L1,Lp,by unfold Co.v Co.c;dsimp only;rw[bl],by unfold Co.a vR;dsimp only;rw[hTa],ho,hp2.tick _ _,by dsimp only;rw[bl];exact hoc2,by intro t ht;obtain⟨y,hy,rfl⟩:=bS.1 ht;obtain⟨a,b,c⟩:=CI (ck+n) wt y;rw[b,c];exact hpc2 y hy,by simpa using H.forget (.cons _ (.cons _ (au _))) (F':=[]) (by simp)⟩
/-- P5.3: a producer that was there: its version rises, what is under way is aborted -/
def i9 (t:Tx):Tx:=if t.state=2 then{t with state:=4,ver:=t.ver+1}else{t with ver:=t.ver+1}
theorem L7 {t t':Tx} (h:t'.a=t.a):(i9 t').a=(i9 t).a:=by
 have h1:t'.state=t.state:=by show t'.a.state=t.a.state;rw[h]
 unfold i9
 by_cases hs:t.state=2
 rw[if_pos (h1.trans hs),if_pos hs]
 exact congrArg (fun x:Tx=>({x with state:=4,ver:=x.ver+1}:Tx)) h
 rw[if_neg (fun q=>hs (h1.symm.trans q)),if_neg hs]
 exact congrArg (fun x:Tx=>({x with ver:=x.ver+1}:Tx)) h
theorem Hl (c:Co) (s:ByteArray) (i:Nat) (t:Tx) (w:World) (h:c.rd 0 w.heap.size w) (hok:gI c=true) (hn:bo s=true) (hi:fQ c s=i) (ht:c.txs[i]? =some t) (h3:t.state≠3) (h4:t.state≠4) (hv0:0<=t.ver) (hv:t.ver<1073741824):dt aa mL [c.v,.string s] w fun v w2=> ∃ (c':Co) (Lr Lp:List (Nat×Obj)),v=.tuple #[c'.v,J t.pid,J (t.ver+1),J 0]/\qC w w2 (Co.a {c with txs:=c.txs.set i (i9 t)}) c' Lr Lp:=by
 refine aG nZ Z Z ?_
 have hcap:=h.cap
 have hfew:=h.few
 have hfp:=h.fewP
 have H:=Hp.startCo h
 obtain⟨ck,nx,wt,txs,cA,cc⟩:=c
 dsimp only at hcap hfew hfp H
 show CW _ _ _ _ (args [.agg #[J ck,J nx,J wt,.slice cA txs.length cc],.string s]) w
 dsimp only at ht⊢
 refine W<|Zr<|gM H Z Z fun w1 b2 H=>fg H cH Z fun w2 b4 H=>G (Wi Z)<|G (Wi Z)<|G (Wi Z)<|U<|W<|Zr<|G (Zw ay H 1 Z Z Z)<|G (Yt Z)<|cz iq (lN ⟨ck,nx,wt,txs,cA,cc⟩ s _ ⟨H.rd0 0 Z,fun t ht=>fB H 1 Z ht,hcap,hfew,hfp⟩ hok hn) Z Z ?_
 rintro _ w3 ⟨⟨ck2,nx2,wt2,tx2,A2,c2⟩,Lr,Lp,rfl,ha2,ho2,hp2,hoc2,hpc2,hj2⟩
 replace H:=H.joinR hj2;clear hj2
 simp only[Co.a,Co.mk.injEq]at ha2
 obtain⟨e1,e2,e3,hma,-,-⟩:=ha2
 obtain rfl:ck=ck2:=e1.symm
 obtain rfl:nx=nx2:=e2.symm
 obtain rfl:wt=wt2:=e3.symm
 dsimp only at ho2 hp2 hoc2 hpc2 H
 rw[hi]
 refine G (Yu Z)<|G (Xa Z Z)<|G (Xi Z Z)<|G (Xi Z Z)<|bC H 1 (#[J ck,J nx,J wt,.slice A2 tx2.length c2]) aE Z Z Z Z Z N N fun w4 H=>G (Wi Z)<|G (Wi Z)<|U<|W<|W<|Zr<|G (Yi Z)<|G (ch Z Z Z)<|U<|ZF Z<|Zk<|W<|W<|Zr<|G (Yi Z)<|G (dn Z Z I)<|U<|ZF Z<|Zk<|W ?_
 obtain⟨t2,ht2,hta⟩:=ro hma ht
 have hl2:=(cu ht2).1
 obtain⟨g,cur,rfl,rfl,row⟩:=ho2.row I
 have hst:t2.state=t.state:=by show t2.a.state=t.a.state;rw[hta]
 have hdn:t2.done=t.done:=by show t2.a.done=t.a.done;rw[hta]
 have hver:t2.ver=t.ver:=by show t2.a.ver=t.a.ver;rw[hta]
 have hpid:t2.pid=t.pid:=by show t2.a.pid=t.a.pid;rw[hta]
 refine Zr<|G (Zf cP Z)<|G (Zd dK H 1 Z Z Z)<|G (Yi Z)<|G (cQ gK Z Z (by first|omega|(simp only[ae];omega)))<|G (Wp Z)<|U<|W<|Zb<|W<|Zr<|G (Yp Z)<|G (aI Z)<|G (Zf cU Z)<|G (bX al row ht2 3 Z (H.ent (i:=2) Z) Z)<|G (lM Z Z I)<|G (Yb Z)<|ZG<|G (Yp Z)<|ZG<|G (aI Z)<|ZG<|G (Zf cU Z)<|ZG<|G (bX al row ht2 3 Z (H.ent (i:=2) Z) Z)<|ZG<|G (lM Z Z I)<|G (N Z Z)<|G (Wb Z)<|U<|ZF Z<|W<|Zr<|G (Yp Z)<|G (aI Z)<|G (Zf gD Z)<|G (bX al row ht2 2 Z (H.ent (i:=2) Z) Z)<|G (lM Z Z I)<|G (Wb Z)<|U ?_
 refine ZF Z<|W<|Zr<|G (Yp Z)<|G (aI Z)<|G (Zf cU Z)<|G (bX al row ht2 3 Z (H.ent (i:=2) Z) Z) ?_
 refine dq (br Z Z) Z Z Z (fun h81=> ?_) (fun h81=> ?_)
 refine G (Wb Z)<|U<|ZT Z<|Zr<|G (Yp Z)<|G (aI Z)<|G (Zf cU Z)<|m5 H 2 ({t2 with state:=4}) bV row ht2 3 Z Z Z Z Z Z N fun w6 cur5 row5 H=>U<|W ?_
 have ht3:(tx2.set i {t2 with state:=4})[i]? =some {t2 with state:=4}:=am hl2
 have hv3:({t2 with state:=4}:Tx).ver=t2.ver:=rfl
 refine Zr<|G (Yp Z)<|G (aI Z)<|G (Zf gD Z)<|G (bX al row5 ht3 2 Z (H.ent (i:=2) Z) Z)<|G (bn Z Z I I)<|G (aI Z)<|G (Zf gD Z)<|m5 H 2 ({t2 with state:=4,ver:=t2.ver+1}) bV row5 ht3 2 Z Z Z Z Z Z N fun w8 cur7 row7 H=>U<|W ?_
 have ht4:(tx2.set i {t2 with state:=4,ver:=t2.ver+1})[i]? =some {t2 with state:=4,ver:=t2.ver+1}:=am hl2
 rw[fL]at row7
 refine u6 cD (fun w'=>w'.heap[b2]? =some (.cells #[J ck,J nx,J wt,.slice (Qd g) tx2.length c2] bc (0,0))/\w'.heap[g]? =some (.cells cur7 dG (0,0))) ?_
 intro w9 hw';replace H:=H.later hw';clear hw'
 refine cI 0 N N N Z Z Z Z Nq ⟨H.ent (i:=1) Z,H.ent (i:=2) Z⟩ (fun _ hS=>js ay Z hS.1 Z)<|cI 1 N N N Z Z Z Z Nq ⟨H.ent (i:=1) Z,H.ent (i:=2) Z⟩ (fun _ hS=>Yp Z)<|cI 2 N N N Z Z Z Z Nq ⟨H.ent (i:=1) Z,H.ent (i:=2) Z⟩ (fun _ hS=>aI Z)<|cI 3 N N N Z Z Z Z Nq ⟨H.ent (i:=1) Z,H.ent (i:=2) Z⟩ (fun _ hS=>Zf lp Z)<|cI 4 N N N Z Z Z Z Nq ⟨H.ent (i:=1) Z,H.ent (i:=2) Z⟩ (fun _ hS=>bX al row7 ht4 1 Z hS.2 Z)<|cI 5 N N N Z Z Z Z Nq ⟨H.ent (i:=1) Z,H.ent (i:=2) Z⟩ (fun _ hS=>Yp Z)<|cI 6 N N N Z Z Z Z Nq ⟨H.ent (i:=1) Z,H.ent (i:=2) Z⟩ (fun _ hS=>aI Z)<|cI 7 N N N Z Z Z Z Nq ⟨H.ent (i:=1) Z,H.ent (i:=2) Z⟩ (fun _ hS=>Zf gD Z)<|cI 8 N N N Z Z Z Z Nq ⟨H.ent (i:=1) Z,H.ent (i:=2) Z⟩ (fun _ hS=>bX al row7 ht4 2 Z hS.2 Z)<|Ku 9 N Z<|bC H 0 (#[J ck,J nx,J wt,.slice (Qd g) tx2.length c2]) aE Z Z Z Z Z N N fun w10 H=>U ?_
 refine⟨⟨H.ent (i:=1) Z,H.ent (i:=2) Z⟩,?_⟩
 refine cI 10 N N N Z Z Z Z Nq ⟨H.ent (i:=1) Z,H.ent (i:=2) Z⟩ (fun _ hS=>Wi Z)<|cI 11 N N N Z Z Z Z Nq ⟨H.ent (i:=1) Z,H.ent (i:=2) Z⟩ (fun _ hS=>Wi Z)<|cI 12 N N N Z Z Z Z Nq ⟨H.ent (i:=1) Z,H.ent (i:=2) Z⟩ (fun _ hS=>Wi Z)<|xJ N<|Zt ?_
 have hI:i9 t2={t2 with state:=4,ver:=t2.ver+1}:=by unfold i9;rw[if_pos I]
 exact mP (cs0:= #[J ck,J nx,J wt,.slice (Qd g) tx2.length c2]) (v1:=J t2.pid) (v2:=J (t2.ver+1)) (v3:=J 0) Z ay Z (H.ent (i:=0) Z) Z Z Z Z ⟨⟨ck,nx,wt,tx2.set i ({t2 with state:=4,ver:=t2.ver+1}),some ⟨g,0,none⟩,c2⟩,[(g,.cells cur7 dG (0,0))],Lp,by unfold Co.v Co.c;dsimp only;rw[ae,hpid,hver],by unfold Co.a;dsimp only;rw[pq hma i (show Tx.a ({t2 with state:=4,ver:=t2.ver+1})=(i9 t).a by rw[<-hI];exact L7 hta)],by dsimp only;exact d3.own row7,hp2.same ht2 Z Z Z,by dsimp only;rw[ae];exact hoc2,sx hpc2 ht2 Z Z,H.forget (.cons _ (.cons _ (aD _ _))) (by simp)⟩
 refine G (Wb Z)<|U<|ZF Z<|Zk<|W<|Zr<|G (Yp Z)<|G (aI Z)<|G (Zf gD Z)<|G (bX al row ht2 2 Z (H.ent (i:=2) Z) Z)<|G (bn Z Z I I)<|G (aI Z)<|G (Zf gD Z)<|m5 H 2 ({t2 with ver:=t2.ver+1}) bV row ht2 2 Z Z Z Z Z Z N fun w12 cur11 row11 H=>U<|W ?_
 have ht4:(tx2.set i {t2 with ver:=t2.ver+1})[i]? =some {t2 with ver:=t2.ver+1}:=am hl2
 refine u6 cD (fun w'=>w'.heap[b2]? =some (.cells #[J ck,J nx,J wt,.slice (Qd g) tx2.length c2] bc (0,0))/\w'.heap[g]? =some (.cells cur11 dG (0,0))) ?_
 intro w13 hw';replace H:=H.later hw';clear hw'
 refine cI 0 N N N Z Z Z Z Nq ⟨H.ent (i:=1) Z,H.ent (i:=2) Z⟩ (fun _ hS=>js ay Z hS.1 Z)<|cI 1 N N N Z Z Z Z Nq ⟨H.ent (i:=1) Z,H.ent (i:=2) Z⟩ (fun _ hS=>Yp Z)<|cI 2 N N N Z Z Z Z Nq ⟨H.ent (i:=1) Z,H.ent (i:=2) Z⟩ (fun _ hS=>aI Z)<|cI 3 N N N Z Z Z Z Nq ⟨H.ent (i:=1) Z,H.ent (i:=2) Z⟩ (fun _ hS=>Zf lp Z)<|cI 4 N N N Z Z Z Z Nq ⟨H.ent (i:=1) Z,H.ent (i:=2) Z⟩ (fun _ hS=>bX al row11 ht4 1 Z hS.2 Z)<|cI 5 N N N Z Z Z Z Nq ⟨H.ent (i:=1) Z,H.ent (i:=2) Z⟩ (fun _ hS=>Yp Z)<|cI 6 N N N Z Z Z Z Nq ⟨H.ent (i:=1) Z,H.ent (i:=2) Z⟩ (fun _ hS=>aI Z)<|cI 7 N N N Z Z Z Z Nq ⟨H.ent (i:=1) Z,H.ent (i:=2) Z⟩ (fun _ hS=>Zf gD Z)<|cI 8 N N N Z Z Z Z Nq ⟨H.ent (i:=1) Z,H.ent (i:=2) Z⟩ (fun _ hS=>bX al row11 ht4 2 Z hS.2 Z)<|Ku 9 N Z<|bC H 0 (#[J ck,J nx,J wt,.slice (Qd g) tx2.length c2]) aE Z Z Z Z Z N N fun w14 H=>U ?_
 refine⟨⟨H.ent (i:=1) Z,H.ent (i:=2) Z⟩,?_⟩
 refine cI 10 N N N Z Z Z Z Nq ⟨H.ent (i:=1) Z,H.ent (i:=2) Z⟩ (fun _ hS=>Wi Z)<|cI 11 N N N Z Z Z Z Nq ⟨H.ent (i:=1) Z,H.ent (i:=2) Z⟩ (fun _ hS=>Wi Z)<|cI 12 N N N Z Z Z Z Nq ⟨H.ent (i:=1) Z,H.ent (i:=2) Z⟩ (fun _ hS=>Wi Z)<|xJ N<|Zt ?_
 have hI:i9 t2={t2 with ver:=t2.ver+1}:=by unfold i9;rw[if_neg I]
 exact mP (cs0:= #[J ck,J nx,J wt,.slice (Qd g) tx2.length c2]) (v1:=J t2.pid) (v2:=J (t2.ver+1)) (v3:=J 0) Z ay Z (H.ent (i:=0) Z) Z Z Z Z ⟨⟨ck,nx,wt,tx2.set i ({t2 with ver:=t2.ver+1}),some ⟨g,0,none⟩,c2⟩,[(g,.cells cur11 dG (0,0))],Lp,by unfold Co.v Co.c;dsimp only;rw[ae,hpid,hver],by unfold Co.a;dsimp only;rw[pq hma i (show Tx.a ({t2 with ver:=t2.ver+1})=(i9 t).a by rw[<-hI];exact L7 hta)],by dsimp only;exact d3.own row11,hp2.same ht2 Z Z Z,by dsimp only;rw[ae];exact hoc2,sx hpc2 ht2 Z Z,H.forget (.cons _ (.cons _ (aD _ _))) (by simp)⟩
theorem Lh {w0 w:World} {F:List cf} {a b:Nat×Obj} (Lr Lp:List (Nat×Obj)) (H:Hp w0 w (a::b::((Lr++Lp)++[])) F):Hp w0 w ([a,b]++Lr++Lp) F:=by
 rw[aW]at H
 exact H
theorem JP (c:Co) (s:ByteArray) (w:World) (h:c.rd 0 w.heap.size w) (hok:gI c=true) (hn:bo s=true) (hi:fQ c s<0) (hf:c.txs.length≠8) (hx:c.next≠1073741824):dt aa mL [c.v,.string s] w fun v w2=> ∃ (c':Co) (Lr Lp:List (Nat×Obj)),v=.tuple #[c'.v,J c.next,J 0,J 0]/\qC w w2 (mQ c.a s) c' Lr Lp:=by
 refine aG nZ Z Z ?_
 have hcap:=h.cap
 have hfew:=h.few
 have hfp:=h.fewP
 have H:=Hp.startCo h
 obtain⟨ck,nx,wt,txs,cA,cc⟩:=c
 dsimp only at hcap hfew hfp H
 show CW _ _ _ _ (args [.agg #[J ck,J nx,J wt,.slice cA txs.length cc],.string s]) w
 dsimp only at hf hx⊢
 obtain⟨q1,q2,q3,q4,q5,q6,q7⟩:=i7.1 hok
 dsimp only at q2 q3 q6
 refine W<|Zr<|gM H Z Z fun w1 b2 H=>fg H cH Z fun w2 b4 H=>G (Wi Z)<|G (Wi Z)<|G (Wi Z)<|U<|W<|Zr<|G (Zw ay H 1 Z Z Z)<|G (Yt Z)<|cz iq (lN ⟨ck,nx,wt,txs,cA,cc⟩ s _ ⟨H.rd0 0 Z,fun t ht=>fB H 1 Z ht,hcap,hfew,hfp⟩ hok hn) Z Z ?_
 rintro _ w3 ⟨⟨ck2,nx2,wt2,tx2,A2,c2⟩,Lr,Lp,rfl,ha2,ho2,hp2,hoc2,hpc2,hj2⟩
 replace H:=H.joinR hj2;clear hj2
 simp only[Co.a,Co.mk.injEq]at ha2
 obtain⟨e1,e2,e3,hma,-,-⟩:=ha2
 obtain rfl:ck=ck2:=e1.symm
 obtain rfl:nx=nx2:=e2.symm
 obtain rfl:wt=wt2:=e3.symm
 dsimp only at ho2 hp2 hoc2 hpc2 H
 have hlen2:tx2.length=txs.length:=by have:=congrArg di hma;simpa using this
 refine G (Yu Z)<|G (Xa Z Z)<|G (Xi Z Z)<|G (Xi Z Z)<|bC H 1 (#[J ck,J nx,J wt,.slice A2 tx2.length c2]) aE Z Z Z Z Z N N fun w4 H=>G (Wi Z)<|G (Wi Z)<|U<|W<|W<|Zr<|G (Yi Z)<|G (ch Z Z Z)<|U<|ZF Z<|Zk<|W<|W<|Zr<|G (Yi Z)<|G (v7 Z Z hi)<|U<|ZT Z<|W<|W<|Zr<|G (Zf cP Z)<|G (Zd dK H 1 Z Z Z)<|G (bj lk Z)<|G (lM Z Z I)<|G (Yb Z)<|ZG<|G (Zf ku Z)<|ZG<|G (Zd al H 1 Z Z Z)<|ZG<|G (lM Z Z I)<|G (N Z Z)<|U<|ZF Z ?_
 refine Zk<|W ?_
 replace H:=Lh Lr Lp H
 refine Zr<|G (Zf cP Z)<|G (Zd dK H 1 Z Z Z)<|G (Yt Z)<|G (Zf ku Z)<|G (Zd al H 1 Z Z Z)<|G (bE (cs:= #[.string s,J nx,J 0,J 1,.slice none 0 0,J 0,J 0]) OQ HV N)<|uA (vs:=[.agg #[.string s,J nx,J 0,J 1,.slice none 0 0,J 0,J 0]]) H gK HV Z Z Z Z Z Z fun w5 b40 H=>xA (Y:=rX) IP (K:=[(b40,_),(b4,_),(b2,_)]) (L:=Lr) (M:=Lp) H ho2 (news:=[iW s nx]) Z Z Z (y3.row (m:=1) (sz:=rX.sz) (H.ent (i:=0) Z) Z) (by simp only[cF];omega) Z ?_
 intro A41 c41 w6 L41 h41 _ ho41 H
 refine G (Zf cP Z)<|bC H 2 (#[J ck,J nx,J wt,.slice A41 (tx2++[iW s nx]).length c41]) zZ Z Z Z Z Z N N fun w7 H=>U<|W<|Zr<|G (Zf ku Z)<|G (Zd al H 2 Z Z Z)<|G (bn Z Z I I)<|G (Zf ku Z)<|bC H 2 (#[J ck,J (nx+1),J wt,.slice A41 (tx2++[iW s nx]).length c41]) bV Z Z Z Z Z N N fun w8 H=>U<|W ?_
 refine ra cD [1] [0,2,3,4,5,6,7] [1] 7 N N N Nq ?_
 refine aw Z Z Z Z Z (fun w' hw'=>Zf ku Z)<|aU ?_
 intro w9 hw';replace H:=H.later hw';clear hw'
 refine t0 0 2 N Z Z ?_ ?_
 refine G (Zw ay H 2 Z Z Z)<|U ?_
 refine t0 2 4 N Z Z ?_ ?_
 refine G (Zd al H 2 Z Z Z)<|U ?_
 refine t0 3 4 N Z Z ?_ ?_
 refine G (ng Z Z I I)<|U<|dg 4 N Z<|bC H 1 (#[J ck,J (nx+1),J wt,.slice A41 (tx2++[iW s nx]).length c41]) aE Z Z Z Z Z N N fun w10 H=>U<|dg 5 N Z<|G (Wi Z)<|U<|dg 6 N Z<|G (Wi Z)<|U<|dg 7 N Z<|G (Wi Z)<|U<|cr N<|Zt ?_
 exact mP (cs0:= #[J ck,J (nx+1),J wt,.slice A41 (tx2++[iW s nx]).length c41]) (v1:=J (nx+1-1)) (v2:=J 0) (v3:=J 0) Z ay Z (H.ent (i:=1) Z) Z Z Z Z ⟨⟨ck,nx+1,wt,tx2++[iW s nx],A41,c41⟩,L41,Lp,by rw[show nx+1-1=nx by omega];rfl,by unfold Co.a mQ;dsimp only;rw[bh,hma];rfl,ho41,by have:=eD.snoc (t:=iW s nx) (L':=[]) gH.nil hp2;rwa[aW]at this,h41,by intro t ht;rcases aq.1 ht with ht|ht;exact hpc2 t ht;rw[ar.1 ht];exact ao _,H.forget (.cons _ (.cons _ (.cons _ (au _)))) (by simp)⟩
 refine bC H 1 (#[J ck,J (nx+1),J wt,.slice A41 (tx2++[iW s nx]).length c41]) aE Z Z Z Z Z N N fun w11 H=>U<|dg 3 N Z<|G (ng Z Z I I)<|U<|dg 5 N Z<|G (Wi Z)<|U<|dg 6 N Z<|G (Wi Z)<|U<|dg 7 N Z<|G (Wi Z)<|U<|cr N<|Zt ?_
 exact mP (cs0:= #[J ck,J (nx+1),J wt,.slice A41 (tx2++[iW s nx]).length c41]) (v1:=J (nx+1-1)) (v2:=J 0) (v3:=J 0) Z ay Z (H.ent (i:=1) Z) Z Z Z Z ⟨⟨ck,nx+1,wt,tx2++[iW s nx],A41,c41⟩,L41,Lp,by rw[show nx+1-1=nx by omega];rfl,by unfold Co.a mQ;dsimp only;rw[bh,hma];rfl,ho41,by have:=eD.snoc (t:=iW s nx) (L':=[]) gH.nil hp2;rwa[aW]at this,h41,by intro t ht;rcases aq.1 ht with ht|ht;exact hpc2 t ht;rw[ar.1 ht];exact ao _,H.forget (.cons _ (.cons _ (.cons _ (au _)))) (by simp)⟩
 refine bC H 1 (#[J ck,J (nx+1),J wt,.slice A41 (tx2++[iW s nx]).length c41]) aE Z Z Z Z Z N N fun w12 H=>U<|dg 2 N Z<|G (Zd al H 2 Z Z Z)<|U<|dg 3 N Z<|G (ng Z Z I I)<|U<|dg 5 N Z<|G (Wi Z)<|U<|dg 6 N Z<|G (Wi Z)<|U<|dg 7 N Z<|G (Wi Z)<|U<|cr N<|Zt ?_
 exact mP (cs0:= #[J ck,J (nx+1),J wt,.slice A41 (tx2++[iW s nx]).length c41]) (v1:=J (nx+1-1)) (v2:=J 0) (v3:=J 0) Z ay Z (H.ent (i:=1) Z) Z Z Z Z ⟨⟨ck,nx+1,wt,tx2++[iW s nx],A41,c41⟩,L41,Lp,by rw[show nx+1-1=nx by omega];rfl,by unfold Co.a mQ;dsimp only;rw[bh,hma];rfl,ho41,by have:=eD.snoc (t:=iW s nx) (L':=[]) gH.nil hp2;rwa[aW]at this,h41,by intro t ht;rcases aq.1 ht with ht|ht;exact hpc2 t ht;rw[ar.1 ht];exact ao _,H.forget (.cons _ (.cons _ (.cons _ (au _)))) (by simp)⟩
 refine G (Zd al H 2 Z Z Z)<|U ?_
 refine t0 0 3 N Z Z ?_ ?_
 refine G (Zw ay H 2 Z Z Z)<|U ?_
 refine t0 3 4 N Z Z ?_ ?_
 refine G (ng Z Z I I)<|U<|dg 4 N Z<|bC H 1 (#[J ck,J (nx+1),J wt,.slice A41 (tx2++[iW s nx]).length c41]) aE Z Z Z Z Z N N fun w13 H=>U<|dg 5 N Z<|G (Wi Z)<|U<|dg 6 N Z<|G (Wi Z)<|U<|dg 7 N Z<|G (Wi Z)<|U<|cr N<|Zt ?_
 exact mP (cs0:= #[J ck,J (nx+1),J wt,.slice A41 (tx2++[iW s nx]).length c41]) (v1:=J (nx+1-1)) (v2:=J 0) (v3:=J 0) Z ay Z (H.ent (i:=1) Z) Z Z Z Z ⟨⟨ck,nx+1,wt,tx2++[iW s nx],A41,c41⟩,L41,Lp,by rw[show nx+1-1=nx by omega];rfl,by unfold Co.a mQ;dsimp only;rw[bh,hma];rfl,ho41,by have:=eD.snoc (t:=iW s nx) (L':=[]) gH.nil hp2;rwa[aW]at this,h41,by intro t ht;rcases aq.1 ht with ht|ht;exact hpc2 t ht;rw[ar.1 ht];exact ao _,H.forget (.cons _ (.cons _ (.cons _ (au _)))) (by simp)⟩
 refine bC H 1 (#[J ck,J (nx+1),J wt,.slice A41 (tx2++[iW s nx]).length c41]) aE Z Z Z Z Z N N fun w14 H=>U<|dg 3 N Z<|G (ng Z Z I I)<|U<|dg 5 N Z<|G (Wi Z)<|U<|dg 6 N Z<|G (Wi Z)<|U<|dg 7 N Z<|G (Wi Z)<|U<|cr N<|Zt ?_
 exact mP (cs0:= #[J ck,J (nx+1),J wt,.slice A41 (tx2++[iW s nx]).length c41]) (v1:=J (nx+1-1)) (v2:=J 0) (v3:=J 0) Z ay Z (H.ent (i:=1) Z) Z Z Z Z ⟨⟨ck,nx+1,wt,tx2++[iW s nx],A41,c41⟩,L41,Lp,by rw[show nx+1-1=nx by omega];rfl,by unfold Co.a mQ;dsimp only;rw[bh,hma];rfl,ho41,by have:=eD.snoc (t:=iW s nx) (L':=[]) gH.nil hp2;rwa[aW]at this,h41,by intro t ht;rcases aq.1 ht with ht|ht;exact hpc2 t ht;rw[ar.1 ht];exact ao _,H.forget (.cons _ (.cons _ (.cons _ (au _)))) (by simp)⟩
 refine G (ng Z Z I I)<|U<|dg 0 N Z<|G (Zw ay H 2 Z Z Z)<|U<|dg 4 N Z<|bC H 1 (#[J ck,J (nx+1),J wt,.slice A41 (tx2++[iW s nx]).length c41]) aE Z Z Z Z Z N N fun w15 H=>U<|dg 5 N Z<|G (Wi Z)<|U<|dg 6 N Z<|G (Wi Z)<|U<|dg 7 N Z<|G (Wi Z)<|U<|cr N<|Zt ?_
 exact mP (cs0:= #[J ck,J (nx+1),J wt,.slice A41 (tx2++[iW s nx]).length c41]) (v1:=J (nx+1-1)) (v2:=J 0) (v3:=J 0) Z ay Z (H.ent (i:=1) Z) Z Z Z Z ⟨⟨ck,nx+1,wt,tx2++[iW s nx],A41,c41⟩,L41,Lp,by rw[show nx+1-1=nx by omega];rfl,by unfold Co.a mQ;dsimp only;rw[bh,hma];rfl,ho41,by have:=eD.snoc (t:=iW s nx) (L':=[]) gH.nil hp2;rwa[aW]at this,h41,by intro t ht;rcases aq.1 ht with ht|ht;exact hpc2 t ht;rw[ar.1 ht];exact ao _,H.forget (.cons _ (.cons _ (.cons _ (au _)))) (by simp)⟩
theorem D2 (n:Int) (w:World):dt aa zg [J n] w fun v w2=>v=.bool false/\Below w.heap.size w w2:=by
 refine aG yn Z Z ?_
 have H:=Hp.start w
 refine W<|Zr<|G (Wb Z)<|U<|W<|Zr<|G (Yi Z)<|G (Yi Z)<|G (ch Z Z Z)<|G (Wb Z)<|U<|Zt ?_
 exact cn (v:=.bool false) Z Z ⟨rfl,H.below⟩
theorem Fv (a b:Int) (w:World):dt aa AN [J a,J b] w fun v w2=>v=.bool (decide (a<b))/\Below w.heap.size w w2:=by
 refine aG zl Z Z ?_
 have H:=Hp.start w
 refine W<|Zr<|G (Wb Z)<|U<|W<|Zr<|G (Yi Z)<|cz yy (D2 a _) Z Z ?_
 rintro _ w1 ⟨rfl,hb⟩;replace H:=H.later hb;clear hb
 refine G (Yb Z)<|ZN<|ZN<|ZN<|G (N Z Z)<|G (Yb Z)<|ZG<|G (Yi Z)<|ZG<|G (Yi Z)<|ZG ?_
 refine dq (cL Z Z) Z Z Z (fun h15=> ?_) (fun h15=> ?_)
 refine G (N Z Z)<|G (Wb Z)<|U<|Zt ?_
 exact cn (v:=.bool true) Z Z ⟨by rw[decide_eq_true h15],H.below⟩
 refine G (N Z Z)<|G (Wb Z)<|U<|Zt ?_
 exact cn (v:=.bool false) Z Z ⟨by rw[decide_eq_false h15],H.below⟩
theorem s8:aa.funcs[(144:Nat)]? =some Tryz.f144:=Tryz.func144
theorem sV {w0 w:World} {K M Lt:List (Nat×Obj)} {F:List cf} {es:List Int} {x:Int} {i c vb:Nat} {A:Option Addr} (H:Hp w0 w (((vb,.cells (bN.f x).toArray 3 (0,0))::K)++Lt++M) F) (ho:gH bN (.slice A es.length c) 3 es Lt) (hi:i<=es.length) (hb:(es.length+1)*8<=140737488355328):
  dt aa rx [.slice A es.length c,J (i:Nat),.slice (Qd vb) ((1:Nat)) 1] w fun v w2=> ∃ A' c' L',v=.slice A' (es.take i++[x]++es.drop i).length c'/\gH bN (.slice A' (es.take i++[x]++es.drop i).length c') 3 (es.take i++[x]++es.drop i) L'/\Hp w0 w2 (((vb,.cells (bN.f x).toArray 3 (0,0))::K)++L'++M) F:=by
 refine aG qI Z Z ?_
 show CW _ _ _ _ (args [.slice A es.length c,J (i:Nat),.slice (Qd vb) ((1:Nat)) 1]) w
 have hc0:es.length<=c:=by
  obtain⟨_,c',he,hc,_⟩:=ho.form
  injection he with _ _ he
  omega
 have hxs:(bN.f x).length=bN.sz:=bN.len x
 have hx1: ∀ u∈bN.f x,u.oneCell'=true:=fun u hu=>bN.one x u hu
 have hsv: ∀ {w2:World} {K2:List (Nat×Obj)},Hp w0 w2 ((vb,.cells (bN.f x).toArray 3 (0,0))::K2) F->y3 w2 (Qd vb) 1 bN.sz (bN.all [x]):=fun h=>⟨by rw[fq.length];rfl,fun _=>⟨_,rfl,fun j u hj=>by rw[all_one]at hj;rw[Addr.add_lit,cE];exact aJ (h.ent (i:=0) Z) (by simpa using hj)⟩⟩
 refine W<|Zr<|vj Z Z<|U<|W<|Zr<|mn Z Z<|iF Z Z<|tu bd Z Z I I I Z fun A12 hA12=>U<|W<|Zr<|mn Z Z<|vd eA Z Z<|pn Z Z<|U<|W<|W<|Zr<|iF Z Z<|G (lM Z Z (by decide))<|U<|ZF Z<|Zk<|W<|Zr<|mn Z Z<|vd eA Z Z<|pn Z Z<|U<|W<|W<|Zr<|iF Z Z<|iF Z Z ?_
 refine Mr Z Z Z (fun h22=> ?_) (fun h22=> ?_)
 ·refine bL ?_
  refine ZT Z<|W<|Zr<|mn Z Z<|mn Z Z<|xA (Y:=bN) (es:=es) (news:=[x]) zG H ho Z Z Z (hsv H) (by show(es.length+1)*8<=_;omega) Z fun A25 c25 w25 L25 h25 h25b ho25 H25=>vj Z Z<|U<|Zt<|cn Z Z ?_
  have hi:i=es.length:=by omega
  subst hi
  have he:es.take es.length++[x]++es.drop es.length=es++[x]:=by rw[bM,fz,aW]
  rw[he]
  exact⟨A25,c25,L25,rfl,ho25,H25⟩
 refine U<|ZF Z<|Zk ?_
 have hlt:i<es.length:=by omega
 obtain⟨g,cur,rfl,rfl,row⟩:=ho.row I
 have hgE:w.heap[g]? =some (.cells cur 3 (0,0)):=H.ent (i:=((vb,.cells (bN.f x).toArray 3 (0,0))::K:List (Nat×Obj)).length) (by simp)
 have hle:=row.le
 have hmx:=row.max
 have hlen:=uU (x:=x) (mq hlt)
 have hfit:=row.fit hle
 have hif:=row.fit (i:=i) I
 have hdr:(bN.all (es.drop i)).length=(es.length-i)*bN.sz:=by rw[fq.length,db]
 have hsm:(i+1)*bN.sz+(es.length-i)*bN.sz=(es.length+1)*bN.sz:=by rw[<-cN];congr 1;omega
 have hi3:(i+1)*bN.sz=i*bN.sz+bN.sz:=by rw[cN,f8]
 refine W<|W<|Zr<|iF Z Z<|iF Z Z<|add Z Z I I Z<|mn Z Z<|G (EF eA Z) ?_
 refine JS Z Z Z (fun h31=> ?_) (fun h31=> ?_)
 ·refine bL ?_
  refine ZT Z<|W<|Zr<|mn Z Z<|iF Z Z<|zW bd Z Z I I Z fun A34 hA34=> ?_
  obtain rfl:=hA34 I
  refine iF Z Z<|iF Z Z<|add Z Z I I Z<|iF Z Z<|sub Z Z I I Z ?_
  refine QL (m:=es.length+1-i) zG iY H Z (kd:=.i64) (show _=Value.int _ _ from congrArg (Value.int _) (show((es.length:Int)+((1:Nat):Int))- (i:Nat)=((es.length+1-i:Nat):Int) by omega)) (olds:=bN.all (es.take i)) (by rw[fq.length,aF,bB I];rfl) (fun j u hj=>by rw[Addr.add_lit,cE];rw[<-row.pre I,dA]at hj;split at hj;exact aJ hgE (by simpa using hj);cases hj) I I (by show(((i:Nat):Int).toNat+(es.length+1-i))*8<=_;omega) Z ?_
  intro w1 g2 c2 cur2 hs2 hge2 hmx2 hp2 H
  have hs2':cur2.size=c2*bN.sz:=hs2
  have hc2:(es.length+1)*bN.sz<=cur2.size:=by rw[hs2'];exact dp _ I
  have hg2:(pb cur2 (i*bN.sz) (bN.f x)).size=cur2.size:=jM (by rw[hxs];omega)
  refine vj Z Z<|U<|W<|Zr<|mn Z Z<|iF Z Z<|tu bd Z Z I I I Z fun A43 hA43=>mn Z Z ?_
  have hsrc:=hsv (H.perm (ak _ _ _))
  refine OG (K:=[]) (m:=1) (o:=i*bN.sz) bd H Z Z (C1 Z I) (fun _=>wz.at0 hA43 I) hsrc (by rw[all_one];exact hx1) (by rw[all_one,hxs];omega) Z ?_
  rw[all_one]
  intro w2 H
  refine U<|W ?_
  refine bP cD [0,1,2,3,4,5,6,7] [8] [] [0,1,2,3,4,5,6,7] (sp []) N N N N Nq (cO _) ?_
  refine aw Z Z Z Z Z (fun _ _=>iv Z)<|aw Z Z Z Z Z (fun _ _=>iv Z)<|aw Z Z Z Z Z (fun _ _=>iv Z)<|aw Z Z Z Z Z (fun _ _=>bn Z Z I I)<|aw Z Z Z Z Z (fun _ _=>pP bd Z Z I I)<|aw Z Z Z Z Z (fun _ _=>iv Z)<|aw Z Z Z Z Z (fun _ _=>iv Z)<|aw Z Z Z Z Z (fun _ _=>pP bd Z Z I I)<|aU ?_
  intro w' hw' _;replace H:=H.later hw';clear hw'
  have hgE2:w'.heap[g]? =some (.cells cur 3 (0,0)):=(H.ents (g,.cells cur 3 (0,0)) (by simp)).1
  refine OG (K:=[]) (m:=es.length-i) (o:=(i+1)*bN.sz) bd H Z Z (C1 I I) (fun _=>Bn I) (row.srcFrom hgE2 I (sv (ao _)) I) (fq.all_one _) (by rw[hdr,hg2];omega) Z ?_
  intro w3 H
  refine U<|W<|Zr<|mn Z Z<|vj Z Z<|U<|Zt<|cn Z Z ?_
  exact⟨some ⟨g2,0,none⟩,c2,_,by rw[hlen];show Value.slice _ (((i:Nat):Int).toNat+(es.length+1-i)) _=_;congr 1;omega,d3.own (d3.insNew hs2' hmx2 hp2 (mq hlt) I),H.swapRow⟩
 refine U<|ZF Z<|Zk ?_
 have hroom:es.length+1<=c:=by omega
 have hfr:=row.fit hroom
 refine W<|Zr<|mn Z Z<|iF Z Z<|iF Z Z<|add Z Z I I Z<|zW bd Z Z I I Z fun A60 hA60=> ?_
 obtain rfl:=hA60 I
 refine vj Z Z<|U<|W<|W<|Zr<|mn Z Z<|mn Z Z<|iF Z Z<|iF Z Z<|add Z Z I I Z<|tu bd Z Z I I I Z fun A66 hA66=> ?_
 have hA:=wz.at0 hA66 I
 have hvE:w.heap[vb]? =some (.cells (bN.f x).toArray 3 (0,0)):=H.ent (i:=0) Z
 have hne:vb≠g:=fun he=>by
  have:=H.nodup
  simp only[bh,eN,mr,jq,aq]at this
  exact this.1 (.inl (.inr (by rw[he];exact az)))
 have hov: ∀ lb cb,(callFunc tP #[.slice (Qd vb) 1 1,.slice A66 lb cb]).run aa w=.ok (.value (.bool false)) w:=fun lb cb=>by
  rw[hA,run_callFunc_extern s8 N N N (e:=Extern.SlicesOverlaps.overlaps #[yE,yE] #[jX]) N,
   Lib.run_overlaps_apart w yE jX da (eZ bd).1 bN.sz (by obtain⟨_,j,h1,h2⟩:=eZ bd;exact fun w=>by rw[fN h1,h2];rfl) ⟨vb,0,none⟩ _ 1 1 lb cb hne da da (bN.f x).length cur.size (by simp[World.shape?,hvE]) (by simp[World.shape?,hgE]) (by have:=bN.pos;have:=row.fit (i:=1) I;omega) (by simp[World.frozen?,hvE]) (by simp[World.frozen?,hvE])]
  rfl
 refine P9 (hov _ _) Z Z<|not Z Z<|U<|ZT Z<|W ?_
 refine bP cD [0,1,2,3,4,5,6,7] [8] [] [0,1,2,3,4,5,6,7] (sp []) N N N N Nq (cO _) ?_
 refine aw Z Z Z Z Z (fun _ _=>iv Z)<|aw Z Z Z Z Z (fun _ _=>iv Z)<|aw Z Z Z Z Z (fun _ _=>iv Z)<|aw Z Z Z Z Z (fun _ _=>bn Z Z I I)<|aw Z Z Z Z Z (fun _ _=>pP bd Z Z I I)<|aw Z Z Z Z Z (fun _ _=>iv Z)<|aw Z Z Z Z Z (fun _ _=>iv Z)<|aw Z Z Z Z Z (fun _ _=>pP bd Z Z I I)<|aU ?_
 intro w' hw' _;replace H:=H.later hw';clear hw'
 have hgE2:w'.heap[g]? =some (.cells cur 3 (0,0)):=(H.ents (g,.cells cur 3 (0,0)) (by simp)).1
 have hz1:(pb cur ((i+1)*bN.sz) (bN.all (es.drop i))).size=cur.size:=jM (by rw[hdr];omega)
 refine OG (m:=es.length-i) (o:=(i+1)*bN.sz) bd H Z Z (Oz I I) (fun _=>Bn I) (row.srcFrom hgE2 I (sv (ao _)) I) (fq.all_one _) (by rw[hdr];omega) Z ?_
 intro w2 H
 refine U<|W<|Zr<|mn Z Z<|iF Z Z<|tu bd Z Z I I I Z fun A80 hA80=>mn Z Z ?_
 have hsrc:=hsv H
 refine OG (m:=1) (o:=i*bN.sz) bd H Z Z (C1 Z I) (fun _=>wz.at0 hA80 I) hsrc (by rw[all_one];exact hx1) (by rw[all_one,hxs,hz1];omega) Z ?_
 rw[all_one]
 intro w3 H
 refine U<|W<|Zr<|mn Z Z<|vj Z Z<|U<|Zt<|cn Z Z ?_
 exact⟨some ⟨g,0,none⟩,c,_,by rw[hlen];show Value.slice _ ((es.length:Int)+((1:Nat):Int)).toNat _=_;congr 1,d3.own (row.insIn (mq hlt) hroom),H⟩
theorem xl {w0 w:World} {K M Lt:List (Nat×Obj)} {F:List cf} {es:List Int} {i j c:Nat} {A:Option Addr} (H:Hp w0 w (K++Lt++M) F) (ho:gH bN (.slice A es.length c) 3 es Lt) (hij:i<=j) (hj:j<=es.length) (hb:es.length*8<=140737488355328):
  dt aa rz [.slice A es.length c,J (i:Nat),J (j:Nat)] w fun v w2=> ∃ A' c' L',v=.slice A' (es.take i++es.drop j).length c'/\gH bN (.slice A' (es.take i++es.drop j).length c') 3 (es.take i++es.drop j) L'/\Hp w0 w2 (K++L'++M) F:=by
 refine aG qK Z Z ?_
 show CW _ _ _ _ (args [.slice A es.length c,J (i:Nat),J (j:Nat)]) w
 have hc0:es.length<=c:=by
  obtain⟨_,c',he,hc,_⟩:=ho.form
  injection he with _ _ he
  omega
 refine W<|Zr<|vj Z Z<|U<|W<|Zr<|mn Z Z<|iF Z Z<|iF Z Z<|mn Z Z<|vd eA Z Z<|Qu bd Z Z Z Z ⟨by omega,by omega⟩ I I Z fun A13 l13 c13=>U<|W<|W<|Zr<|iF Z Z<|iF Z Z ?_
 refine Mr Z Z Z (fun h16=> ?_) (fun h16=> ?_)
 refine U<|ZT Z<|W<|Zr<|mn Z Z<|vj Z Z<|U<|Zt<|cn Z Z ?_
 have hij:i=j:=by omega
 subst hij
 rw[gQ]
 exact⟨A,c,Lt,rfl,ho,H⟩
 refine U<|ZF Z<|Zk ?_
 have hlt:i<j:=by omega
 obtain⟨g,cur,rfl,rfl,row⟩:=ho.row I
 have hle:=row.le
 have hmx:=row.max
 have hlen:=Ew hij hj
 have hfit:=row.fit hle
 have hif:=row.fit (i:=i) I
 have hdr:(bN.all (es.drop j)).length=(es.length-j)*bN.sz:=by rw[fq.length,db]
 refine W<|Zr<|mn Z Z<|vd eA Z Z<|pn Z Z<|U<|W ?_
 refine bP cD [0,1,2,3,4,5] [6,7] [] [0,1,2,3,4,5] (sp []) N N N N Nq (cO _) ?_
 refine aw Z Z Z Z Z (fun _ _=>iv Z)<|aw Z Z Z Z Z (fun _ _=>iv Z)<|aw Z Z Z Z Z (fun _ _=>DJ bd Z Z I I)<|aw Z Z Z Z Z (fun _ _=>iv Z)<|aw Z Z Z Z Z (fun _ _=>iv Z)<|aw Z Z Z Z Z (fun _ _=>pP bd Z Z I I)<|aU ?_
 intro w' hw' _;replace H:=H.later hw';clear hw'
 have hgE2:w'.heap[g]? =some (.cells cur 3 (0,0)):=(H.ents (g,.cells cur 3 (0,0)) (by simp)).1
 have hs1:i*bN.sz+(bN.all (es.drop j)).length=(i+(es.length-j))*bN.sz:=by rw[hdr,<-cN]
 have hs2:=row.fit (i:=i+(es.length-j)) I
 have hz1:(pb cur (i*bN.sz) (bN.all (es.drop j))).size=cur.size:=jM I
 refine Q6 (k:=i) (c:=c) (m:=es.length-j) bd H (show _=Value.slice _ _ _ by show Value.slice (cut _ c 0 _) _ _=_;rw[Bn I,wB];rfl) Z (row.srcFrom hgE2 hj (sv hc0) I) (fq.all_one _) I (by show i*bN.sz+_<=_;omega) Z ?_
 intro w1 H
 replace H:Hp w0 w1 (K++[(g,.cells (pb cur (i*bN.sz) (bN.all (es.drop j))) 3 (0,0))]++M) F:=H
 refine vj Z Z<|U<|W<|Zr<|mn Z Z<|mn Z Z<|vd eA Z Z<|iF Z Z<|Oq bd Z Z Z I I I Z fun A31 hA31=> ?_
 have hzc:(((es.length:Nat):Int).toNat- ((i+(es.length-j):Nat):Int).toNat)*bN.sz+(i+(es.length-j))*bN.sz=es.length*bN.sz:=by rw[<-cN];congr 1;omega
 refine QJ (o:=(i+(es.length-j))*bN.sz) (z:=J 0) bd N Z Z H Z (fun _=>wz.at0 hA31 I) (by rw[hz1];show _+(((es.length:Nat):Int).toNat- ((i+(es.length-j):Nat):Int).toNat)*bN.sz<=_;omega) ?_
 intro w2 H
 refine U<|W<|Zr<|mn Z Z<|vj Z Z<|U<|Zt<|cn Z Z ?_
 have hzl: ∀ m,(Builtin.zeroCells (Value.cells (J 0)) m).toList.length=m*bN.sz:=fun m=>by rw[bY,size_zeroCells];rfl
 have hr:=row.del hij hj (ao ((i+(es.length-j))*bN.sz)) (zs:=(Builtin.zeroCells (Value.cells (J 0)) (((es.length:Nat):Int).toNat- ((i+(es.length-j):Nat):Int).toNat)).toList) (by
  rw[hzl]
  show _+(((es.length:Nat):Int).toNat- ((i+(es.length-j):Nat):Int).toNat)*bN.sz<=_
  omega)
 exact⟨some ⟨g,0,none⟩,c,_,by rw[hlen];rfl,d3.own hr,H⟩
theorem OW {P:Program} {ρ:gJ} {w:World} {t:TypeId} {p:String} {af:Array Edge} {g:Option (Nat×Bool)} {dst:Option Nat} {x y:Operand} {ty ty':TypeId} {a b:Nat} {k:IntKind} (hx:ev ρ x=.int .u64 a) (hy:ev ρ y=.int k b) (hb:b<=64):(execOp (ev ρ) (Og dst (.binOp .shr ty x y ty') t p af g)).run P w=.ok (.value (.int .u64 (a/2 ^ b:Nat))) w:=by
 have e:(a:Int).fdiv (2 ^ b)=((a/2 ^ b:Nat):Int):=by
  rw[Int.fdiv_eq_ediv_of_nonneg _ (Int.le_of_lt (Int.pow_pos (by decide)))]
  simp
 simp only[execOp,hx,hy,eqGuard,binOp,Op.shift,Sem.run_bind,Sem.run_pure]
 simp[e,bB (show b<=IntKind.u64.bits from hb)]
 intro h;omega
theorem PN {n:Nat} (h:n<=9000000000000000000):IntKind.u64.wrap (n:Int)=n:=by
 simp only[IntKind.wrap,IntKind.bits,IntKind.signed]
 simp
 omega
theorem rises {es:List Int} (h:es.Pairwise (· < ·)) {i j:Nat} {a b:Int} (hi:es[i]? =some a) (hj:es[j]? =some b) (hij:i<=j):a<=b:=by
 obtain⟨h1,rfl⟩:=aA.1 hi
 obtain⟨h2,rfl⟩:=aA.1 hj
 rcases iS i j with h3|h3
 exact Int.le_of_lt (mZ.1 h i j h1 h2 h3)
 have:i=j:=by omega
 subst this
 exact ff _
theorem BP (n:Int) (w:World):dt aa wd [J n] w fun v w2=>v=.bool false/\Below w.heap.size w w2:=by
 refine aG vg Z Z ?_
 have H:=Hp.start w
 refine W<|Zr<|G (Wb Z)<|U<|W<|Zr<|G (Yi Z)<|G (Yi Z)<|G (ch Z Z Z)<|G (Wb Z)<|U<|Zt ?_
 exact cn (v:=.bool false) Z Z ⟨rfl,H.below⟩
theorem qy (es:List Int) (t:Int) (A:Option Addr) (c:Nat) (w:World) (hr:Rd bN 0 w.heap.size A es w) (hb:es.length<=1000000) (hp:es.Pairwise (· < ·)):
  dt aa nE [.slice A es.length c,J t] w fun v w2=> ∃ i:Nat,v=.tuple #[J (i:Nat),.bool (decide (es[i]? =some t))]/\i<=es.length/\(∀ k y,es[k]? =some y->k<i->y<t)/\(∀ k y,es[k]? =some y->i<=k->t<=y)/\Below w.heap.size w w2:=by
 refine aG na Z Z ?_
 have H:=Hp.startRd hr
 show CW _ _ _ _ (args [.slice A es.length c,J t]) w
 refine W<|Zr<|G (Wi Z)<|G (Wb Z)<|U<|W<|Zr<|G (Ys Z)<|G (bj eA Z)<|G (Wi Z)<|U<|W<|Zr<|G (Yi Z)<|G (Wi Z)<|G (Wi Z)<|U<|W<|Zb ?_
 refine bW (τ:=Nat×Nat) [7,8,9,13,14,15,16,17,18,19,20,21,22,23,24,25,26,27,28,29,30] (fun(l,r)=>[(7,J (l:Nat)),(8,J (r:Nat))]) (fun(l,r) w'=>l<=r/\r<=es.length/\(∀ k y,es[k]? =some y->k<l->y<t)/\(∀ k y,es[k]? =some y->r<=k->t<=y)/\Hp w w' [] [d4 bN 0 w.heap.size A es]) (fun(l,r)=>r-l) (0,es.length) ⟨by omega,by omega,by intro k y _ h;omega,by intro k y h1 h2;have:=(cu h1).1;omega,H⟩ (lE Z Z) ?_
 rintro⟨l,r⟩ ρ1 w1 ⟨hlr,hrn,hlo,hhi,H⟩
 show CW _ _ _ _ (dH (gT _ _ ρ1) [(7,J (l:Nat)),(8,J (r:Nat))]) w1
 refine W<|W<|Zr<|G (Yi Z)<|G (Yi Z) ?_
 refine dq (cL Z Z) Z Z Z (fun h15=> ?_) (fun h15=> ?_)
 refine U<|ZT Z<|Zk<|Zb<|W<|Zr<|G (Yi Z)<|G (Yi Z)<|G (bn Z Z I I) ?_
 rw[show((l:Nat):Int)+((r:Nat):Int)=((l+r:Nat):Int) by omega]
 refine G (F8 iY Fz Z (PN I))<|G (OW Z (b:=1) Z I) ?_
 obtain⟨m,hm,hm1,hm2⟩: ∃ m:Nat,(l+r)/2 ^ 1=m/\l<=m/\m<r:=⟨(l+r)/2,rfl,by omega,by omega⟩
 rw[hm]
 refine G (F8 Fz iY Z (vm I))<|G (Wi Z)<|U<|W<|Zr<|G (Ys Z)<|G (Yi Z)<|px H 0 Z bd Z Z I I Z fun b2 o2 x2 e2=>G (bf al Z (e2.cl 0 _ Z))<|G (Yi Z)<|cz zu (Fv x2 t _) Z Z ?_
 rintro _ w3 ⟨rfl,hb⟩;replace H:=H.later hb;clear hb
 refine U ?_
 refine kD Z (fun hc27=> ?_) (fun hc27=> ?_)
 refine Zr<|G (Yi Z)<|G (bn Z Z I I)<|G (Wi Z)<|U ?_
 refine⟨(m+1,r),⟨by omega,hrn,fun k y h1 h2=>Int.lt_of_le_of_lt (rises hp h1 e2.at_ I) (of_decide_eq_true hc27),hhi,H⟩,lE Z Z,Qg,by show r- (m+1)<r-l;omega⟩
 refine Zr<|G (Yi Z)<|G (Wi Z)<|U ?_
 refine⟨(l,m),⟨hm1,by omega,hlo,fun k y h1 h2=>by have h3:=rises hp e2.at_ h1 h2;have h4:=of_decide_eq_false hc27;omega,H⟩,lE Z Z,Qg,by show m-l<r-l;omega⟩
 refine U<|ZF Z<|Zx<|W<|Zr<|G (Yi Z)<|G (Yi Z)<|G (Yi Z) ?_
 refine dq (cL Z Z) Z Z Z (fun h34=> ?_) (fun h34=> ?_)
 refine G (Yb Z)<|ZG<|G (Ys Z)<|ZG<|G (Yi Z)<|ZG<|px H 0 Z bd Z Z I I Z fun b4 o4 x4 e4=>ZG<|G (bf al Z (e4.cl 0 _ Z))<|ZG<|G (Yi Z)<|ZG ?_
 refine dq (br Z Z) Z Z Z (fun h41=> ?_) (fun h41=> ?_)
 refine ZG<|G (Yb Z)<|ZN<|ZN<|ZN<|ZN<|ZN<|ZN<|ZN<|ZN<|ZN<|ZG<|G (Kt Z Z)<|G (Kt Z Z)<|G (Wi Z)<|G (Wb Z)<|U<|Zt ?_
 have hd:decide (es[l]? =some t)=true:=by rw[e4.at_,h41];exact decide_eq_true Z
 exact mi Z Z Z ⟨l,by rw[hd];rfl,by omega,hlo,by intro k y h1 h2;exact hhi k y h1 I,H.below⟩
 refine ZG<|G (Yb Z)<|ZG<|G (Ys Z)<|ZG<|G (Yi Z)<|ZG<|px H 0 Z bd Z Z I I Z fun b5 o5 x5 e5=>ZG<|G (bf al Z (e5.cl 0 _ Z))<|ZG<|cz vi (BP _ _) Z Z ?_
 rintro _ w6 ⟨rfl,hb⟩;replace H:=H.later hb;clear hb
 refine ZG<|G (Yb Z)<|ZN<|ZN<|ZG<|G (N Z Z)<|ZG<|G (N Z Z)<|G (Kt Z Z)<|G (Wi Z)<|G (Wb Z)<|U<|Zt ?_
 have hd:decide (es[l]? =some t)=false:=by rw[e4.at_];exact decide_eq_false (fun h=>h41 (aT h))
 exact mi Z Z Z ⟨l,by rw[hd];rfl,by omega,hlo,by intro k y h1 h2;exact hhi k y h1 I,H.below⟩
 refine G (Yb Z)<|ZN<|ZN<|ZN<|ZN<|ZN<|ZN<|ZN<|ZN<|ZN<|ZN<|ZN<|ZN<|ZN<|ZN<|ZN<|ZN<|ZN<|G (N Z Z)<|G (Wi Z)<|G (Wb Z)<|U<|Zt ?_
 have hd:decide (es[l]? =some t)=false:=by rw[cG I];rfl
 exact mi Z Z Z ⟨l,by rw[hd];rfl,by omega,hlo,by intro k y h1 h2;exact hhi k y h1 I,H.below⟩
/-- a part more, in its place -/
def kH (l:List Int) (p:Int):List Int:=if p∈l then l else l.filter (fun q=>decide (q<p))++[p]++l.filter (fun q=>decide (p<=q))
def iJ (ck:Int) (p:Int) (t:Tx):Tx:=if t.state=1 then{t with state:=2,since:=ck,parts:=kH t.parts p}else{t with parts:=kH t.parts p}
theorem Pt {l:List Int} {p:Int} {i:Nat} (h1: ∀ k y,l[k]? =some y->k<i->y<p) (h2: ∀ k y,l[k]? =some y->i<=k->p<=y):l.take i=l.filter (fun q=>decide (q<p))/\l.drop i=l.filter (fun q=>decide (p<=q)):=by
 have ha: ∀ y∈l.take i,y<p:=fun y hy=>by
  obtain⟨k,hk⟩:=aM.1 hy
  rw[dA]at hk
  split at hk
  exact h1 k y hk ‹_›
  cases hk
 have hb: ∀ y∈l.drop i,p<=y:=fun y hy=>by
  obtain⟨k,hk⟩:=aM.1 hy
  rw[dk]at hk
  exact h2 _ y hk I
 have e1:l.filter (fun q=>decide (q<p))=(l.take i).filter (fun q=>decide (q<p))++(l.drop i).filter (fun q=>decide (q<p)):=by rw[<-jh,gQ]
 have e2:l.filter (fun q=>decide (p<=q))=(l.take i).filter (fun q=>decide (p<=q))++(l.drop i).filter (fun q=>decide (p<=q)):=by rw[<-jh,gQ]
 rw[e1,e2,jZ.2 (fun y hy=>decide_eq_true (ha y hy)),wD.2 (fun y hy=>by have:=hb y hy;simpa using this),
  wD.2 (fun y hy=>by have:=ha y hy;simpa using this),jZ.2 (fun y hy=>decide_eq_true (hb y hy))]
 simp
theorem EJ {l:List Int} {p:Int} {i:Nat} (h1: ∀ k y,l[k]? =some y->k<i->y<p) (h2: ∀ k y,l[k]? =some y->i<=k->p<=y) (hp:l.Pairwise (· < ·)) (hn: ¬ l[i]? =some p):l.take i++[p]++l.drop i=kH l p:=by
 obtain⟨e1,e2⟩:=Pt h1 h2
 have hm:p∉l:=fun hm=>by
  obtain⟨k,hk⟩:=aM.1 hm
  by_cases hki:k<i
  have:=h1 k p hk hki;omega
  have hki:i<=k:=by omega
  have hl:=(cu hk).1
  obtain⟨x,hx⟩: ∃ x,l[i]? =some x:=⟨_,ai I⟩
  have h3:=rises hp hx hk hki
  have h4:=h2 i x hx (ao _)
  exact hn (by rw[hx];congr 1;omega)
 unfold kH
 rw[if_neg hm,e1,e2]
theorem yD {l:List Int} {p:Int} {i:Nat} (h:l[i]? =some p):kH l p=l:=if_pos (ab h)
theorem vx {w0 w:World} {F:List cf} (X A B C:List (Nat×Obj)) (H:Hp w0 w (X++((A++B++C)++[])) F):Hp w0 w ((X++A)++B++C) F:=by simpa using H
theorem AP {w0 w:World} {F:List cf} (X A B C:List (Nat×Obj)) (H:Hp w0 w ((X++A)++B++C) F):Hp w0 w (X++((A++B++C)++[])) F:=by simpa using H
theorem Dl {ck p:Int} {t t':Tx} (h:t'.a=t.a):(iJ ck p t').a=(iJ ck p t).a:=by
 have e: ∀ t:Tx,(iJ ck p t).a=iJ ck p t.a:=fun t=>by
  unfold iJ
  by_cases h:t.state=1
  rw[if_pos h,if_pos (show t.a.state=1 from h)];rfl
  rw[if_neg h,if_neg (show¬ t.a.state=1 from h)];rfl
 rw[e,e,h]
theorem jS {ts:List Tx} (h: ∀ t∈ts,t.parts.length<=t.cap) (i:Nat) {t':Tx} (h2:t'.parts.length<=t'.cap): ∀ x∈ts.set i t',x.parts.length<=x.cap:=fun x hx=>by
 rcases aC hx with hx|rfl
 exact h x hx
 exact h2
theorem MR (c:Co) (s:ByteArray) (ver p:Int) (w:World) (h:c.rd 0 w.heap.size w) (hok:gI c=true) (hn:bo s=true) (hi:fQ c s= -1):dt aa ov [c.v,.string s,J ver,J p] w fun v w2=>v=.tuple #[.agg #[J 0,J 0,J 0,.slice none 0 0],J 5]/\Below w.heap.size w w2:=by
 refine aG pZ Z Z ?_
 have hcap:=h.cap
 have hfew:=h.few
 have hfp:=h.fewP
 have H:=Hp.startCo h
 obtain⟨ck,nx,wt,txs,cA,cc⟩:=c
 dsimp only at hcap hfew hfp H
 show CW _ _ _ _ (args [.agg #[J ck,J nx,J wt,.slice cA txs.length cc],.string s,J ver,J p]) w
 refine W<|Zr<|gM H Z Z fun w1 b4 H=>fg H cH Z fun w2 b8 H=>G (Wi Z)<|U<|W<|Zr<|G (Zw ay H 1 Z Z Z)<|G (Yt Z)<|G (Yi Z)<|cz gG (AD ⟨ck,nx,wt,txs,cA,cc⟩ s ver _ ⟨H.rd0 0 Z,fun t ht=>fB H 1 Z ht,hcap,hfew,hfp⟩ hok hn hi) Z Z ?_
 rintro _ w3 ⟨rfl,hb⟩;replace H:=H.later hb;clear hb
 refine G (Yu Z)<|G (Xa Z Z)<|G (Xi Z Z)<|G (Xi Z Z)<|bC H 1 (#[J (0),J (0),J (0),.slice none 0 0]) aE Z Z Z Z Z N N fun w4 H=>G (Wi Z)<|G (Wi Z)<|U<|W<|W<|Zr<|G (Yi Z)<|G (lH Z Z (by decide))<|U<|ZT Z<|W<|Zr<|G (bE (cs:= #[J (0),J (0),J (0),.slice none 0 0]) fD cH N)<|G (Yi Z)<|bC H 0 (#[J (0),J (0),J (0),.slice none 0 0]) aE Z Z Z Z Z N N fun w5 H=>G (Wi Z)<|U<|Zt ?_
 exact ci (cs0:= #[J 0,J 0,J 0,.slice none 0 0]) (v1:=J 5) Z ay Z (H.ent (i:=0) Z) Z Z ⟨rfl,H.below⟩
theorem Kl (c:Co) (s:ByteArray) (ver p:Int) (i:Nat) (t:Tx) (w:World) (h:c.rd 0 w.heap.size w) (hok:gI c=true) (hn:bo s=true) (hi:fQ c s=i) (ht:c.txs[i]? =some t) (hv:t.ver≠ver):dt aa ov [c.v,.string s,J ver,J p] w fun v w2=>v=.tuple #[.agg #[J 0,J 0,J 0,.slice none 0 0],J 10]/\Below w.heap.size w w2:=by
 refine aG pZ Z Z ?_
 have hcap:=h.cap
 have hfew:=h.few
 have hfp:=h.fewP
 have H:=Hp.startCo h
 obtain⟨ck,nx,wt,txs,cA,cc⟩:=c
 dsimp only at hcap hfew hfp H
 show CW _ _ _ _ (args [.agg #[J ck,J nx,J wt,.slice cA txs.length cc],.string s,J ver,J p]) w
 dsimp only at ht
 refine W<|Zr<|gM H Z Z fun w1 b4 H=>fg H cH Z fun w2 b8 H=>G (Wi Z)<|U<|W<|Zr<|G (Zw ay H 1 Z Z Z)<|G (Yt Z)<|G (Yi Z)<|cz gG (yS ⟨ck,nx,wt,txs,cA,cc⟩ s ver i t _ ⟨H.rd0 0 Z,fun t ht=>fB H 1 Z ht,hcap,hfew,hfp⟩ hok hn hi ht hv) Z Z ?_
 rintro _ w3 ⟨rfl,hb⟩;replace H:=H.later hb;clear hb
 refine G (Yu Z)<|G (Xa Z Z)<|G (Xi Z Z)<|G (Xi Z Z)<|bC H 1 (#[J (0),J (0),J (0),.slice none 0 0]) aE Z Z Z Z Z N N fun w4 H=>G (Wi Z)<|G (Wi Z)<|U<|W<|W<|Zr<|G (Yi Z)<|G (lH Z Z (by decide))<|U<|ZT Z<|W<|Zr<|G (bE (cs:= #[J (0),J (0),J (0),.slice none 0 0]) fD cH N)<|G (Yi Z)<|bC H 0 (#[J (0),J (0),J (0),.slice none 0 0]) aE Z Z Z Z Z N N fun w5 H=>G (Wi Z)<|U<|Zt ?_
 exact ci (cs0:= #[J 0,J 0,J 0,.slice none 0 0]) (v1:=J 10) Z ay Z (H.ent (i:=0) Z) Z Z ⟨rfl,H.below⟩
theorem Kk (c:Co) (s:ByteArray) (ver p:Int) (i:Nat) (t:Tx) (w:World) (h:c.rd 0 w.heap.size w) (hok:gI c=true) (hn:bo s=true) (hi:fQ c s=i) (ht:c.txs[i]? =some t) (hv:t.ver=ver) (hp0:0<=p) (hp3:p<4) (h1:t.state≠1) (h2:t.state≠2):dt aa ov [c.v,.string s,J ver,J p] w fun v w2=>v=.tuple #[.agg #[J 0,J 0,J 0,.slice none 0 0],J 12]/\Below w.heap.size w w2:=by
 refine aG pZ Z Z ?_
 have hcap:=h.cap
 have hfew:=h.few
 have hfp:=h.fewP
 have H:=Hp.startCo h
 obtain⟨ck,nx,wt,txs,cA,cc⟩:=c
 dsimp only at hcap hfew hfp H
 show CW _ _ _ _ (args [.agg #[J ck,J nx,J wt,.slice cA txs.length cc],.string s,J ver,J p]) w
 dsimp only at ht
 refine W<|Zr<|gM H Z Z fun w1 b4 H=>fg H cH Z fun w2 b8 H=>G (Wi Z)<|U<|W<|Zr<|G (Zw ay H 1 Z Z Z)<|G (Yt Z)<|G (Yi Z)<|cz gG (wR ⟨ck,nx,wt,txs,cA,cc⟩ s ver i t _ ⟨H.rd0 0 Z,fun t ht=>fB H 1 Z ht,hcap,hfew,hfp⟩ hok hn hi ht hv) Z Z ?_
 rintro _ w3 ⟨⟨ck2,nx2,wt2,tx2,A2,c2⟩,Lr,Lp,rfl,ha2,ho2,hp2,hoc2,hpc2,hj2⟩
 replace H:=H.joinR hj2;clear hj2
 simp only[Co.a,Co.mk.injEq]at ha2
 obtain⟨e1,e2,e3,hma,-,-⟩:=ha2
 obtain rfl:ck=ck2:=e1.symm
 obtain rfl:nx=nx2:=e2.symm
 obtain rfl:wt=wt2:=e3.symm
 dsimp only at ho2 hp2 hoc2 hpc2 H
 obtain⟨t2,ht2,hta⟩:=ro hma ht
 have hl2:=(cu ht2).1
 obtain⟨g,cur,rfl,rfl,row⟩:=ho2.row I
 have hst:t2.state=t.state:=by show t2.a.state=t.a.state;rw[hta]
 have hdn:t2.done=t.done:=by show t2.a.done=t.a.done;rw[hta]
 have hpt:t2.parts=t.parts:=by show t2.a.parts=t.a.parts;rw[hta]
 refine G (Yu Z)<|G (Xa Z Z)<|G (Xi Z Z)<|G (Xi Z Z)<|bC H 1 (#[J (ck),J (nx),J (wt),.slice (Qd g) tx2.length c2]) aE Z Z Z Z Z N N fun w4 H=>G (Wi Z)<|G (Wi Z)<|U<|W<|W<|Zr<|G (Yi Z)<|G (ch Z Z Z)<|U<|ZF Z<|Zk<|W<|W<|Zr<|G (Yi Z)<|G (dn Z Z I)<|G (Yb Z)<|ZG<|G (Yi Z)<|ZG<|G (rE Z Z I)<|G (N Z Z)<|U<|ZF Z<|Zk<|W<|Zr<|G (Zf cP Z)<|G (Zd dK H 1 Z Z Z)<|G (Yi Z)<|G (cQ gK Z Z (by first|omega|(simp only[ae];omega)))<|G (Wp Z)<|U<|W<|W ?_
 refine Zr<|G (Yp Z)<|G (aI Z)<|G (Zf cU Z)<|G (bX al row ht2 3 Z (H.ent (i:=2) Z) Z)<|U<|Zb<|W<|Zr<|G (lM Z Z I)<|G (Wb Z)<|U<|ZF Z<|W<|Zr<|G (lM Z Z I)<|G (Wb Z)<|U<|ZF Z<|W<|Zr<|G (bE (cs:= #[J (0),J (0),J (0),.slice none 0 0]) fD cH N)<|bC H 0 (#[J (0),J (0),J (0),.slice none 0 0]) aE Z Z Z Z Z N N fun w5 H=>G (Wi Z)<|U<|Zt ?_
 exact ci (cs0:= #[J 0,J 0,J 0,.slice none 0 0]) (v1:=J 12) Z ay Z (H.ent (i:=0) Z) Z Z ⟨rfl,H.below⟩
theorem Pz (c:Co) (s:ByteArray) (ver p:Int) (i:Nat) (t:Tx) (w:World) (h:c.rd 0 w.heap.size w) (hok:gI c=true) (hn:bo s=true) (hi:fQ c s=i) (ht:c.txs[i]? =some t) (hv:t.ver=ver) (hp0:0<=p) (hp3:p<4) (h12:t.state=1∨t.state=2) (hpo:cV (-1) t.parts=true):dt aa ov [c.v,.string s,J ver,J p] w fun v w2=> ∃ (c':Co) (Lr Lp:List (Nat×Obj)),v=.tuple #[c'.v,J 0]/\qC w w2 (Co.a {c with txs:=c.txs.set i (iJ c.clock p t)}) c' Lr Lp:=by
 refine aG pZ Z Z ?_
 have hcap:=h.cap
 have hfew:=h.few
 have hfp:=h.fewP
 have H:=Hp.startCo h
 obtain⟨ck,nx,wt,txs,cA,cc⟩:=c
 dsimp only at hcap hfew hfp H
 show CW _ _ _ _ (args [.agg #[J ck,J nx,J wt,.slice cA txs.length cc],.string s,J ver,J p]) w
 dsimp only at ht⊢
 refine W<|Zr<|gM H Z Z fun w1 b4 H=>fg H cH Z fun w2 b8 H=>G (Wi Z)<|U<|W<|Zr<|G (Zw ay H 1 Z Z Z)<|G (Yt Z)<|G (Yi Z)<|cz gG (wR ⟨ck,nx,wt,txs,cA,cc⟩ s ver i t _ ⟨H.rd0 0 Z,fun t ht=>fB H 1 Z ht,hcap,hfew,hfp⟩ hok hn hi ht hv) Z Z ?_
 rintro _ w3 ⟨⟨ck2,nx2,wt2,tx2,A2,c2⟩,Lr,Lp,rfl,ha2,ho2,hp2,hoc2,hpc2,hj2⟩
 replace H:=H.joinR hj2;clear hj2
 simp only[Co.a,Co.mk.injEq]at ha2
 obtain⟨e1,e2,e3,hma,-,-⟩:=ha2
 obtain rfl:ck=ck2:=e1.symm
 obtain rfl:nx=nx2:=e2.symm
 obtain rfl:wt=wt2:=e3.symm
 dsimp only at ho2 hp2 hoc2 hpc2 H
 obtain⟨t2,ht2,hta⟩:=ro hma ht
 have hl2:=(cu ht2).1
 obtain⟨g,cur,rfl,rfl,row⟩:=ho2.row I
 have hst:t2.state=t.state:=by show t2.a.state=t.a.state;rw[hta]
 have hdn:t2.done=t.done:=by show t2.a.done=t.a.done;rw[hta]
 have hpt:t2.parts=t.parts:=by show t2.a.parts=t.a.parts;rw[hta]
 refine G (Yu Z)<|G (Xa Z Z)<|G (Xi Z Z)<|G (Xi Z Z)<|bC H 1 (#[J (ck),J (nx),J (wt),.slice (Qd g) tx2.length c2]) aE Z Z Z Z Z N N fun w4 H=>G (Wi Z)<|G (Wi Z)<|U<|W<|W<|Zr<|G (Yi Z)<|G (ch Z Z Z)<|U<|ZF Z<|Zk<|W<|W<|Zr<|G (Yi Z)<|G (dn Z Z I)<|G (Yb Z)<|ZG<|G (Yi Z)<|ZG<|G (rE Z Z I)<|G (N Z Z)<|U<|ZF Z<|Zk<|W<|Zr<|G (Zf cP Z)<|G (Zd dK H 1 Z Z Z)<|G (Yi Z)<|G (cQ gK Z Z (by first|omega|(simp only[ae];omega)))<|G (Wp Z)<|U<|W<|W ?_
 refine Zr<|G (Yp Z)<|G (aI Z)<|G (Zf cU Z)<|G (bX al row ht2 3 Z (H.ent (i:=2) Z) Z)<|U<|Zb<|W<|Zr ?_
 refine dq (br Z Z) Z Z Z (fun h44=> ?_) (fun h44=> ?_)
 refine G (Wb Z)<|U<|ZT Z ?_
 refine ra cD [0,1,2,4,5] [3,6,7,8,9] [0,1,2,4,5] 5 N N N Nq ?_
 refine aw Z Z Z Z Z (fun w' hw'=>Yp Z)<|aw Z Z Z Z Z (fun w' hw'=>Yp Z)<|aw Z Z Z Z Z (fun w' hw'=>Zf kw Z)<|aw Z Z Z Z Z (fun w' hw'=>aI Z)<|aw Z Z Z Z Z (fun w' hw'=>Zf cU Z)<|aU ?_
 intro w5 hw';replace H:=H.later hw';clear hw'
 refine t0 3 6 N Z Z ?_ ?_
 refine G (Zd al H 1 Z Z Z)<|U<|dg 6 N Z<|m5 H 2 ({t2 with state:=2}) bV row ht2 3 Z Z Z Z Z Z N fun w7 cur6 row6 H=> ?_
 have hs8:(tx2.set i ({t2 with state:=2}))[i]? =some ({t2 with state:=2}):=am (cu ht2).1
 refine U<|dg 7 N Z<|G (aI Z)<|U<|dg 8 N Z<|G (Zf uk Z)<|U<|dg 9 N Z<|m5 H 2 ({({t2 with state:=2})with since:=ck}) bV row6 hs8 5 Z Z Z Z Z Z N fun w10 cur9 row9 H=> ?_
 have hs11:((tx2.set i ({t2 with state:=2})).set i ({({t2 with state:=2})with since:=ck}))[i]? =some ({({t2 with state:=2})with since:=ck}):=am (cu hs8).1
 refine U<|cr N<|W<|W ?_
 have hrise:=(fP hpo).1
 have hfw:=mB hpo
 rw[<-hpt]at hrise hfw
 obtain⟨La,Lt,Lb,rfl,hot,hset⟩:=hp2.at_ ht2
 refine Zr<|G (Yp Z)<|G (aI Z)<|G (Zf dC Z)<|G (bX cC row9 hs11 4 Z (H.ent (i:=2) Z) Z)<|G (Yi Z)<|cz ec (qy t2.parts p t2.A t2.cap _ ((hot.rd (K:=[(b8,.cells #[J (0),J (0),J (0),.slice none 0 0] bc (0,0)),(b4,.cells #[J (ck),J (nx),J (wt),.slice (Qd g) tx2.length c2] bc (0,0)),(g,.cells cur9 dG (0,0))]++La) (M:=Lb) (vx [(b8,.cells #[J (0),J (0),J (0),.slice none 0 0] bc (0,0)),(b4,.cells #[J (ck),J (nx),J (wt),.slice (Qd g) tx2.length c2] bc (0,0)),(g,.cells cur9 dG (0,0))] La Lt Lb H)).mono (bx _) (ao _)) I hrise) Z Z ?_
 rintro _ w12 ⟨j,rfl,hjl,hj1,hj2,hb⟩;replace H:=H.later hb;clear hb
 refine G (Yu Z)<|G (Xi Z Z)<|G (Xb Z Z) ?_
 refine nB 63 Z (fun h63=> ?_) (fun h63=> ?_)
 refine G (Wi Z)<|G (Wb Z)<|U<|W<|Zr<|G (Yb Z)<|G (d7 Z)<|U<|ZF Z<|Zk<|W<|Zr<|G (Zw ay H 1 Z Z Z)<|bC H 0 (#[J (ck),J (nx),J (wt),.slice (Qd g) tx2.length c2]) aE Z Z Z Z Z N N fun w13 H=>G (Wi Z)<|U<|Zt ?_
 have hpp:kH t2.parts p=t2.parts:=yD (of_decide_eq_true h63)
 have hX:Tx.a ({t2 with state:=2,since:=ck})=(iJ ck p t).a:=by rw[<-Dl hta];unfold iJ;rw[if_pos I];rw[hpp]
 have hrow:d3 rX (tx2.set i ({t2 with state:=2,since:=ck})) c2 cur9:=by have hr:=row9;simp only[fL]at hr;exact hr
 exact ci (cs0:= #[J ck,J nx,J wt,.slice (Qd g) tx2.length c2]) (v1:=J 0) Z ay Z (H.ent (i:=0) Z) Z Z ⟨⟨ck,nx,wt,tx2.set i ({t2 with state:=2,since:=ck}),some ⟨g,0,none⟩,c2⟩,[(g,.cells cur9 dG (0,0))],(La++Lt++Lb),by unfold Co.v Co.c;dsimp only;rw[ae],by unfold Co.a;dsimp only;rw[pq hma i hX],d3.own hrow,hset {t2 with state:=2,since:=ck} Lt hot,by dsimp only;rw[ae];exact hoc2,jS hpc2 i (by exact hpc2 t2 (ab ht2)),H.forget (.cons _ (.cons _ (aD _ _))) (by simp)⟩
 refine G (Wi Z)<|G (Wb Z)<|U<|W<|Zr<|G (Yb Z)<|G (d7 Z)<|U<|ZT Z<|Zr<|G (Yp Z)<|G (Yp Z)<|G (aI Z)<|G (Zf dC Z)<|G (bX cC row9 hs11 4 Z (H.ent (i:=2) Z) Z)<|G (Yi Z)<|G (Yi Z)<|uA (vs:=[J (p)]) H bd Cy Z Z Z Z Z Z fun w14 b73 H=>cz iL (sV (K:=[(b8,.cells #[J (0),J (0),J (0),.slice none 0 0] bc (0,0)),(b4,.cells #[J (ck),J (nx),J (wt),.slice (Qd g) tx2.length c2] bc (0,0)),(g,.cells cur9 dG (0,0))]++La) (Lt:=Lt) (M:=Lb) (vx [(b73,.cells #[J (p)] da (0,0)),(b8,.cells #[J (0),J (0),J (0),.slice none 0 0] bc (0,0)),(b4,.cells #[J (ck),J (nx),J (wt),.slice (Qd g) tx2.length c2] bc (0,0)),(g,.cells cur9 dG (0,0))] La Lt Lb H) hot hjl I) Z Z ?_
 rintro _ w15 ⟨A9,c9,L9,rfl,ho9,HI⟩;replace H:Hp w w15 ([(b73,.cells #[J (p)] da (0,0)),(b8,.cells #[J (0),J (0),J (0),.slice none 0 0] bc (0,0)),(b4,.cells #[J (ck),J (nx),J (wt),.slice (Qd g) tx2.length c2] bc (0,0)),(g,.cells cur9 dG (0,0))]++((La++L9++Lb)++[])) [d4 rX 0 w.heap.size cA txs,iM 0 w.heap.size txs]:=AP [(b73,.cells #[J (p)] da (0,0)),(b8,.cells #[J (0),J (0),J (0),.slice none 0 0] bc (0,0)),(b4,.cells #[J (ck),J (nx),J (wt),.slice (Qd g) tx2.length c2] bc (0,0)),(g,.cells cur9 dG (0,0))] La L9 Lb HI
 have hc9:(t2.parts.take j++[p]++t2.parts.drop j).length<=c9:=by obtain⟨_,_,e,h,_⟩:=ho9.form;injection e with _ _ e;rw[e];exact h
 refine G (aI Z)<|G (Zf dC Z)<|m5 H 3 ({{t2 with state:=2,since:=ck}with parts:=t2.parts.take j++[p]++t2.parts.drop j,A:=A9,cap:=c9}) jK row9 hs11 4 Z Z Z Z Z Z N fun w17 cur16 row16 H=> ?_
 have hs18:(((tx2.set i ({t2 with state:=2})).set i ({({t2 with state:=2})with since:=ck})).set i ({{t2 with state:=2,since:=ck}with parts:=t2.parts.take j++[p]++t2.parts.drop j,A:=A9,cap:=c9}))[i]? =some ({{t2 with state:=2,since:=ck}with parts:=t2.parts.take j++[p]++t2.parts.drop j,A:=A9,cap:=c9}):=am (cu hs11).1
 refine U<|W<|Zr<|G (Zw ay H 2 Z Z Z)<|bC H 1 (#[J (ck),J (nx),J (wt),.slice (Qd g) tx2.length c2]) aE Z Z Z Z Z N N fun w19 H=>G (Wi Z)<|U<|Zt ?_
 have hpp:=EJ hj1 hj2 hrise (of_decide_eq_false h63)
 have hX:Tx.a ({t2 with state:=2,since:=ck,parts:=t2.parts.take j++[p]++t2.parts.drop j,A:=A9,cap:=c9})=(iJ ck p t).a:=by rw[<-Dl hta];unfold iJ;rw[if_pos I];rw[<-hpp];rfl
 have hrow:d3 rX (tx2.set i ({t2 with state:=2,since:=ck,parts:=t2.parts.take j++[p]++t2.parts.drop j,A:=A9,cap:=c9})) c2 cur16:=by have hr:=row16;simp only[fL]at hr;exact hr
 exact ci (cs0:= #[J ck,J nx,J wt,.slice (Qd g) tx2.length c2]) (v1:=J 0) Z ay Z (H.ent (i:=1) Z) Z Z ⟨⟨ck,nx,wt,tx2.set i ({t2 with state:=2,since:=ck,parts:=t2.parts.take j++[p]++t2.parts.drop j,A:=A9,cap:=c9}),some ⟨g,0,none⟩,c2⟩,[(g,.cells cur16 dG (0,0))],(La++L9++Lb),by unfold Co.v Co.c;dsimp only;rw[ae],by unfold Co.a;dsimp only;rw[pq hma i hX],d3.own hrow,hset {t2 with state:=2,since:=ck,parts:=t2.parts.take j++[p]++t2.parts.drop j,A:=A9,cap:=c9} L9 ho9,by dsimp only;rw[ae];exact hoc2,jS hpc2 i (by exact hc9),H.forget (.cons _ (.cons _ (.cons _ (aD _ _)))) (by simp)⟩
 refine m5 H 2 ({t2 with state:=2}) bV row ht2 3 Z Z Z Z Z Z N fun w21 cur20 row20 H=> ?_
 have hs22:(tx2.set i ({t2 with state:=2}))[i]? =some ({t2 with state:=2}):=am (cu ht2).1
 refine U<|dg 3 N Z<|G (Zd al H 1 Z Z Z)<|U<|dg 7 N Z<|G (aI Z)<|U<|dg 8 N Z<|G (Zf uk Z)<|U<|dg 9 N Z<|m5 H 2 ({({t2 with state:=2})with since:=ck}) bV row20 hs22 5 Z Z Z Z Z Z N fun w24 cur23 row23 H=> ?_
 have hs25:((tx2.set i ({t2 with state:=2})).set i ({({t2 with state:=2})with since:=ck}))[i]? =some ({({t2 with state:=2})with since:=ck}):=am (cu hs22).1
 refine U<|cr N<|W<|W ?_
 have hrise:=(fP hpo).1
 have hfw:=mB hpo
 rw[<-hpt]at hrise hfw
 obtain⟨La,Lt,Lb,rfl,hot,hset⟩:=hp2.at_ ht2
 refine Zr<|G (Yp Z)<|G (aI Z)<|G (Zf dC Z)<|G (bX cC row23 hs25 4 Z (H.ent (i:=2) Z) Z)<|G (Yi Z)<|cz ec (qy t2.parts p t2.A t2.cap _ ((hot.rd (K:=[(b8,.cells #[J (0),J (0),J (0),.slice none 0 0] bc (0,0)),(b4,.cells #[J (ck),J (nx),J (wt),.slice (Qd g) tx2.length c2] bc (0,0)),(g,.cells cur23 dG (0,0))]++La) (M:=Lb) (vx [(b8,.cells #[J (0),J (0),J (0),.slice none 0 0] bc (0,0)),(b4,.cells #[J (ck),J (nx),J (wt),.slice (Qd g) tx2.length c2] bc (0,0)),(g,.cells cur23 dG (0,0))] La Lt Lb H)).mono (bx _) (ao _)) I hrise) Z Z ?_
 rintro _ w26 ⟨j,rfl,hjl,hj1,hj2,hb⟩;replace H:=H.later hb;clear hb
 refine G (Yu Z)<|G (Xi Z Z)<|G (Xb Z Z) ?_
 refine nB 63 Z (fun h63=> ?_) (fun h63=> ?_)
 refine G (Wi Z)<|G (Wb Z)<|U<|W<|Zr<|G (Yb Z)<|G (d7 Z)<|U<|ZF Z<|Zk<|W<|Zr<|G (Zw ay H 1 Z Z Z)<|bC H 0 (#[J (ck),J (nx),J (wt),.slice (Qd g) tx2.length c2]) aE Z Z Z Z Z N N fun w27 H=>G (Wi Z)<|U<|Zt ?_
 have hpp:kH t2.parts p=t2.parts:=yD (of_decide_eq_true h63)
 have hX:Tx.a ({t2 with state:=2,since:=ck})=(iJ ck p t).a:=by rw[<-Dl hta];unfold iJ;rw[if_pos I];rw[hpp]
 have hrow:d3 rX (tx2.set i ({t2 with state:=2,since:=ck})) c2 cur23:=by have hr:=row23;simp only[fL]at hr;exact hr
 exact ci (cs0:= #[J ck,J nx,J wt,.slice (Qd g) tx2.length c2]) (v1:=J 0) Z ay Z (H.ent (i:=0) Z) Z Z ⟨⟨ck,nx,wt,tx2.set i ({t2 with state:=2,since:=ck}),some ⟨g,0,none⟩,c2⟩,[(g,.cells cur23 dG (0,0))],(La++Lt++Lb),by unfold Co.v Co.c;dsimp only;rw[ae],by unfold Co.a;dsimp only;rw[pq hma i hX],d3.own hrow,hset {t2 with state:=2,since:=ck} Lt hot,by dsimp only;rw[ae];exact hoc2,jS hpc2 i (by exact hpc2 t2 (ab ht2)),H.forget (.cons _ (.cons _ (aD _ _))) (by simp)⟩
 refine G (Wi Z)<|G (Wb Z)<|U<|W<|Zr<|G (Yb Z)<|G (d7 Z)<|U<|ZT Z<|Zr<|G (Yp Z)<|G (Yp Z)<|G (aI Z)<|G (Zf dC Z)<|G (bX cC row23 hs25 4 Z (H.ent (i:=2) Z) Z)<|G (Yi Z)<|G (Yi Z)<|uA (vs:=[J (p)]) H bd Cy Z Z Z Z Z Z fun w28 b73 H=>cz iL (sV (K:=[(b8,.cells #[J (0),J (0),J (0),.slice none 0 0] bc (0,0)),(b4,.cells #[J (ck),J (nx),J (wt),.slice (Qd g) tx2.length c2] bc (0,0)),(g,.cells cur23 dG (0,0))]++La) (Lt:=Lt) (M:=Lb) (vx [(b73,.cells #[J (p)] da (0,0)),(b8,.cells #[J (0),J (0),J (0),.slice none 0 0] bc (0,0)),(b4,.cells #[J (ck),J (nx),J (wt),.slice (Qd g) tx2.length c2] bc (0,0)),(g,.cells cur23 dG (0,0))] La Lt Lb H) hot hjl I) Z Z ?_
 rintro _ w29 ⟨A9,c9,L9,rfl,ho9,HI⟩;replace H:Hp w w29 ([(b73,.cells #[J (p)] da (0,0)),(b8,.cells #[J (0),J (0),J (0),.slice none 0 0] bc (0,0)),(b4,.cells #[J (ck),J (nx),J (wt),.slice (Qd g) tx2.length c2] bc (0,0)),(g,.cells cur23 dG (0,0))]++((La++L9++Lb)++[])) [d4 rX 0 w.heap.size cA txs,iM 0 w.heap.size txs]:=AP [(b73,.cells #[J (p)] da (0,0)),(b8,.cells #[J (0),J (0),J (0),.slice none 0 0] bc (0,0)),(b4,.cells #[J (ck),J (nx),J (wt),.slice (Qd g) tx2.length c2] bc (0,0)),(g,.cells cur23 dG (0,0))] La L9 Lb HI
 have hc9:(t2.parts.take j++[p]++t2.parts.drop j).length<=c9:=by obtain⟨_,_,e,h,_⟩:=ho9.form;injection e with _ _ e;rw[e];exact h
 refine G (aI Z)<|G (Zf dC Z)<|m5 H 3 ({{t2 with state:=2,since:=ck}with parts:=t2.parts.take j++[p]++t2.parts.drop j,A:=A9,cap:=c9}) jK row23 hs25 4 Z Z Z Z Z Z N fun w31 cur30 row30 H=> ?_
 have hs32:(((tx2.set i ({t2 with state:=2})).set i ({({t2 with state:=2})with since:=ck})).set i ({{t2 with state:=2,since:=ck}with parts:=t2.parts.take j++[p]++t2.parts.drop j,A:=A9,cap:=c9}))[i]? =some ({{t2 with state:=2,since:=ck}with parts:=t2.parts.take j++[p]++t2.parts.drop j,A:=A9,cap:=c9}):=am (cu hs25).1
 refine U<|W<|Zr<|G (Zw ay H 2 Z Z Z)<|bC H 1 (#[J (ck),J (nx),J (wt),.slice (Qd g) tx2.length c2]) aE Z Z Z Z Z N N fun w33 H=>G (Wi Z)<|U<|Zt ?_
 have hpp:=EJ hj1 hj2 hrise (of_decide_eq_false h63)
 have hX:Tx.a ({t2 with state:=2,since:=ck,parts:=t2.parts.take j++[p]++t2.parts.drop j,A:=A9,cap:=c9})=(iJ ck p t).a:=by rw[<-Dl hta];unfold iJ;rw[if_pos I];rw[<-hpp];rfl
 have hrow:d3 rX (tx2.set i ({t2 with state:=2,since:=ck,parts:=t2.parts.take j++[p]++t2.parts.drop j,A:=A9,cap:=c9})) c2 cur30:=by have hr:=row30;simp only[fL]at hr;exact hr
 exact ci (cs0:= #[J ck,J nx,J wt,.slice (Qd g) tx2.length c2]) (v1:=J 0) Z ay Z (H.ent (i:=1) Z) Z Z ⟨⟨ck,nx,wt,tx2.set i ({t2 with state:=2,since:=ck,parts:=t2.parts.take j++[p]++t2.parts.drop j,A:=A9,cap:=c9}),some ⟨g,0,none⟩,c2⟩,[(g,.cells cur30 dG (0,0))],(La++L9++Lb),by unfold Co.v Co.c;dsimp only;rw[ae],by unfold Co.a;dsimp only;rw[pq hma i hX],d3.own hrow,hset {t2 with state:=2,since:=ck,parts:=t2.parts.take j++[p]++t2.parts.drop j,A:=A9,cap:=c9} L9 ho9,by dsimp only;rw[ae];exact hoc2,jS hpc2 i (by exact hc9),H.forget (.cons _ (.cons _ (.cons _ (aD _ _)))) (by simp)⟩
 refine G (Wb Z)<|U<|ZF Z<|W<|Zr<|G (rP Z Z I)<|G (Wb Z)<|U<|ZT Z<|Zk<|W<|W ?_
 have hrise:=(fP hpo).1
 have hfw:=mB hpo
 rw[<-hpt]at hrise hfw
 obtain⟨La,Lt,Lb,rfl,hot,hset⟩:=hp2.at_ ht2
 refine Zr<|G (Yp Z)<|G (aI Z)<|G (Zf dC Z)<|G (bX cC row ht2 4 Z (H.ent (i:=2) Z) Z)<|G (Yi Z)<|cz ec (qy t2.parts p t2.A t2.cap _ ((hot.rd (K:=[(b8,.cells #[J (0),J (0),J (0),.slice none 0 0] bc (0,0)),(b4,.cells #[J (ck),J (nx),J (wt),.slice (Qd g) tx2.length c2] bc (0,0)),(g,.cells cur dG (0,0))]++La) (M:=Lb) (vx [(b8,.cells #[J (0),J (0),J (0),.slice none 0 0] bc (0,0)),(b4,.cells #[J (ck),J (nx),J (wt),.slice (Qd g) tx2.length c2] bc (0,0)),(g,.cells cur dG (0,0))] La Lt Lb H)).mono (bx _) (ao _)) I hrise) Z Z ?_
 rintro _ w34 ⟨j,rfl,hjl,hj1,hj2,hb⟩;replace H:=H.later hb;clear hb
 refine G (Yu Z)<|G (Xi Z Z)<|G (Xb Z Z) ?_
 refine nB 63 Z (fun h63=> ?_) (fun h63=> ?_)
 refine G (Wi Z)<|G (Wb Z)<|U<|W<|Zr<|G (Yb Z)<|G (d7 Z)<|U<|ZF Z<|Zk<|W<|Zr<|G (Zw ay H 1 Z Z Z)<|bC H 0 (#[J (ck),J (nx),J (wt),.slice (Qd g) tx2.length c2]) aE Z Z Z Z Z N N fun w35 H=>G (Wi Z)<|U<|Zt ?_
 have hpp:kH t2.parts p=t2.parts:=yD (of_decide_eq_true h63)
 have hX:Tx.a (t2)=(iJ ck p t).a:=by rw[<-Dl hta];unfold iJ;rw[if_neg I];rw[hpp]
 have hrow:d3 rX (tx2.set i (t2)) c2 cur:=by rw[iT ht2];exact row
 exact ci (cs0:= #[J ck,J nx,J wt,.slice (Qd g) tx2.length c2]) (v1:=J 0) Z ay Z (H.ent (i:=0) Z) Z Z ⟨⟨ck,nx,wt,tx2.set i (t2),some ⟨g,0,none⟩,c2⟩,[(g,.cells cur dG (0,0))],(La++Lt++Lb),by unfold Co.v Co.c;dsimp only;rw[ae],by unfold Co.a;dsimp only;rw[pq hma i hX],d3.own hrow,hset t2 Lt hot,by dsimp only;rw[ae];exact hoc2,jS hpc2 i (by exact hpc2 t2 (ab ht2)),H.forget (.cons _ (.cons _ (aD _ _))) (by simp)⟩
 refine G (Wi Z)<|G (Wb Z)<|U<|W<|Zr<|G (Yb Z)<|G (d7 Z)<|U<|ZT Z<|Zr<|G (Yp Z)<|G (Yp Z)<|G (aI Z)<|G (Zf dC Z)<|G (bX cC row ht2 4 Z (H.ent (i:=2) Z) Z)<|G (Yi Z)<|G (Yi Z)<|uA (vs:=[J (p)]) H bd Cy Z Z Z Z Z Z fun w36 b73 H=>cz iL (sV (K:=[(b8,.cells #[J (0),J (0),J (0),.slice none 0 0] bc (0,0)),(b4,.cells #[J (ck),J (nx),J (wt),.slice (Qd g) tx2.length c2] bc (0,0)),(g,.cells cur dG (0,0))]++La) (Lt:=Lt) (M:=Lb) (vx [(b73,.cells #[J (p)] da (0,0)),(b8,.cells #[J (0),J (0),J (0),.slice none 0 0] bc (0,0)),(b4,.cells #[J (ck),J (nx),J (wt),.slice (Qd g) tx2.length c2] bc (0,0)),(g,.cells cur dG (0,0))] La Lt Lb H) hot hjl I) Z Z ?_
 rintro _ w37 ⟨A9,c9,L9,rfl,ho9,HI⟩;replace H:Hp w w37 ([(b73,.cells #[J (p)] da (0,0)),(b8,.cells #[J (0),J (0),J (0),.slice none 0 0] bc (0,0)),(b4,.cells #[J (ck),J (nx),J (wt),.slice (Qd g) tx2.length c2] bc (0,0)),(g,.cells cur dG (0,0))]++((La++L9++Lb)++[])) [d4 rX 0 w.heap.size cA txs,iM 0 w.heap.size txs]:=AP [(b73,.cells #[J (p)] da (0,0)),(b8,.cells #[J (0),J (0),J (0),.slice none 0 0] bc (0,0)),(b4,.cells #[J (ck),J (nx),J (wt),.slice (Qd g) tx2.length c2] bc (0,0)),(g,.cells cur dG (0,0))] La L9 Lb HI
 have hc9:(t2.parts.take j++[p]++t2.parts.drop j).length<=c9:=by obtain⟨_,_,e,h,_⟩:=ho9.form;injection e with _ _ e;rw[e];exact h
 refine G (aI Z)<|G (Zf dC Z)<|m5 H 3 ({t2 with parts:=t2.parts.take j++[p]++t2.parts.drop j,A:=A9,cap:=c9}) jK row ht2 4 Z Z Z Z Z Z N fun w39 cur38 row38 H=> ?_
 have hs40:(tx2.set i ({t2 with parts:=t2.parts.take j++[p]++t2.parts.drop j,A:=A9,cap:=c9}))[i]? =some ({t2 with parts:=t2.parts.take j++[p]++t2.parts.drop j,A:=A9,cap:=c9}):=am (cu ht2).1
 refine U<|W<|Zr<|G (Zw ay H 2 Z Z Z)<|bC H 1 (#[J (ck),J (nx),J (wt),.slice (Qd g) tx2.length c2]) aE Z Z Z Z Z N N fun w41 H=>G (Wi Z)<|U<|Zt ?_
 have hpp:=EJ hj1 hj2 hrise (of_decide_eq_false h63)
 have hX:Tx.a ({t2 with parts:=t2.parts.take j++[p]++t2.parts.drop j,A:=A9,cap:=c9})=(iJ ck p t).a:=by rw[<-Dl hta];unfold iJ;rw[if_neg I];rw[<-hpp];rfl
 have hrow:d3 rX (tx2.set i ({t2 with parts:=t2.parts.take j++[p]++t2.parts.drop j,A:=A9,cap:=c9})) c2 cur38:=by exact row38
 exact ci (cs0:= #[J ck,J nx,J wt,.slice (Qd g) tx2.length c2]) (v1:=J 0) Z ay Z (H.ent (i:=1) Z) Z Z ⟨⟨ck,nx,wt,tx2.set i ({t2 with parts:=t2.parts.take j++[p]++t2.parts.drop j,A:=A9,cap:=c9}),some ⟨g,0,none⟩,c2⟩,[(g,.cells cur38 dG (0,0))],(La++L9++Lb),by unfold Co.v Co.c;dsimp only;rw[ae],by unfold Co.a;dsimp only;rw[pq hma i hX],d3.own hrow,hset {t2 with parts:=t2.parts.take j++[p]++t2.parts.drop j,A:=A9,cap:=c9} L9 ho9,by dsimp only;rw[ae];exact hoc2,jS hpc2 i (by exact hc9),H.forget (.cons _ (.cons _ (.cons _ (aD _ _)))) (by simp)⟩
def gW (t:Tx):Bool:=decide (t.state=3)||decide (t.state=4)
def ia (txs:List Tx) (n:Nat):Option Tx:=(txs.filter gW)[n]?
def Ax (t:Tx):Value:=.agg #[J 0,J t.pid,J t.ver,J 0,J (if t.state=4 then 3 else 2),.bool true,.string ⟨#[]⟩]
def yO (o:Option Tx):Value:=match o with
 |none=> .tuple #[.string ⟨#[]⟩,J 0,.agg #[J 0,J 0,J 0,J 0,J 0,.bool false,.string ⟨#[]⟩],J 15]
 |some t=> .tuple #[.string t.name,J (t.parts.headD 0),Ax t,J 0]
theorem Hp.partRow {w0 w:World} {L:List (Nat×Obj)} {F:List cf} {lo hi:Nat} {txs:List Tx} (H:Hp w0 w L F) (i:Nat) (hF:F[i]? =some (iM lo hi txs)) {t:Tx} (ht:t∈txs):Hp w0 w L (d4 bN lo hi t.A t.parts::F):=by
 refine⟨H.below,H.ents,H.nodup,fun f hf=> ?_⟩
 rcases av.1 hf with rfl|hf
 obtain⟨h1,h2,h3⟩:=H.facts _ (ab hF)
 exact⟨h1 t ht,h2,h3⟩
 exact H.facts f hf
theorem LF {txs:List Tx} {k m:Nat} {x:Tx} (hx:txs[k]? =some x) (he:gW x=false):((txs.drop k).filter gW)[m]? =((txs.drop (k+1)).filter gW)[m]? :=by
 rw[cM hx,oV (by rw[he];decide)]
theorem Ir {txs:List Tx} {k:Nat} {x:Tx} (hx:txs[k]? =some x) (he:gW x=true):((txs.drop k).filter gW)[0]? =some x:=by
 rw[cM hx,j6 he];rfl
theorem Fl {txs:List Tx} {k m:Nat} {x:Tx} (hx:txs[k]? =some x) (he:gW x=true) (hm:1<=m):((txs.drop k).filter gW)[m]? =((txs.drop (k+1)).filter gW)[m-1]? :=by
 obtain⟨m,rfl⟩: ∃ j,m=j+1:=⟨m-1,by omega⟩
 rw[cM hx,j6 he];rfl
theorem ND {txs:List Tx} {k m:Nat} (h:txs.length<=k):((txs.drop k).filter gW)[m]? =none:=by
 rw[ej h];rfl
theorem NI (c:Co) (n:Nat) (w:World) (h:c.rd 0 w.heap.size w) (hok:gI c=true) (hn:n<=1000):dt aa wZ [c.v,J (n:Nat)] w fun v w2=>v=yO (ia c.txs n)/\Below w.heap.size w w2:=by
 refine aG Cf Z Z ?_
 have hcap:=h.cap
 have hfew:=h.few
 have hfp:=h.fewP
 have H:=Hp.startCo h
 obtain⟨ck,nx,wt,txs,cA,cc⟩:=c
 dsimp only at hcap hfew hfp H
 show CW _ _ _ _ (args [.agg #[J ck,J nx,J wt,.slice cA txs.length cc],J (n:Nat)]) w
 obtain⟨q1,q2,q3,q4,q5,q6,q7⟩:=i7.1 hok
 dsimp only at q6 q7⊢
 refine W<|Zr<|gM H Z Z fun w1 b2 H=>G (Wt Z)<|G (Wi Z)<|fg H gp Z fun w2 b6 H=>G (Wi Z)<|U<|W<|W<|Zr<|G (Zw ay H 1 Z Z Z)<|cz kE (qu ⟨ck,nx,wt,txs,cA,cc⟩ _ ⟨H.rd0 0 Z,fun t ht=>fB H 1 Z ht,hcap,hfew,hfp⟩) Z Z ?_
 rw[hok]
 rintro _ w3 ⟨rfl,hb⟩;replace H:=H.later hb;clear hb
 refine G (Wi Z)<|U<|W<|Zr<|G (Yi Z)<|G (ch Z Z Z)<|U<|ZF Z<|Zk<|W<|W<|Zr<|G (Zf cP Z)<|G (Zd dK H 1 Z Z Z)<|G (bj lk Z)<|G (Yi Z)<|U<|Zb ?_
 refine bW (τ:=Nat×Nat) [1,4,5,7,10,11,21,22,23,24,25,26,27,28,29,30,31,32,33,34,35,36,37,38,39,40,41,42,43,44,45,46,47,48,49,50,51,52] (fun(k,m)=>[(21,J (k:Nat)),(1,J (m:Nat))]) (fun(k,m) w'=>k<=txs.length/\m<=1000/\(txs.filter gW)[n]? =((txs.drop k).filter gW)[m]? /\Hp w w' [(b6,.cells (.agg #[J 0,J 0,J 0,J 0,J 0,.bool false,.string ⟨#[]⟩]:Value).cells dz (0,0)),(b2,.cells #[J (ck),J (nx),J (wt),.slice cA txs.length cc] bc (0,0))] [d4 rX 0 w.heap.size cA txs,iM 0 w.heap.size txs]) (fun(k,_)=>txs.length-k) (0,n) ⟨by omega,hn,by rw[ji],H⟩ (lE Z Z) ?_
 rintro⟨k,m⟩ ρ1 w4 ⟨hk,hm1,hm,H⟩
 show CW _ _ _ _ (dH (gT _ _ ρ1) [(21,J (k:Nat)),(1,J (m:Nat))]) w4
 refine W<|Zr ?_
 refine dq (cL Z Z) Z Z Z (fun h22=> ?_) (fun h22=> ?_)
 refine U<|W<|ZT Z<|Zk<|W<|Zb<|W ?_
 obtain⟨x,hxk⟩: ∃ x,txs[k]? =some x:=⟨_,ai I⟩
 refine Zr<|px H 0 Z gK Z Z I I Z fun b5 o5 x5 e5=> ?_
 obtain rfl:x=x5:=by have:=e5.at_;rw[hxk]at this;exact aT this
 refine G (jL (xs:=Tx.c x) zH Z Z e5.cl)<|fg H HV Z fun w6 b10 H=>bC H 0 (#[.string (x.name),J (x.pid),J (x.ver),J (x.state),.slice x.A x.parts.length x.cap,J (x.since),J (x.done)]) Ic Z Z Z Z Z N N fun w7 H=>U<|W<|W<|Zr<|G (Zf cU Z)<|G (Zd al H 0 Z Z Z) ?_
 refine rq (je Z Z) Z Z Z (fun h27=> ?_) (fun h27=> ?_)
 refine G (Yb Z)<|ZG<|G (Zf cU Z)<|ZG<|G (Zd al H 0 Z Z Z)<|ZG ?_
 refine rq (je Z Z) Z Z Z (fun h31=> ?_) (fun h31=> ?_)
 refine G (Kt Z Z)<|U<|ZT Z<|Zx<|Zr<|G (bn Z Z I I)<|G (Yi Z)<|U ?_
 have hen:gW x=false:=by unfold gW;rw[decide_eq_false I,decide_eq_false I];rfl
 refine⟨(k+1,m),⟨by omega,hm1,by rw[hm];exact LF hxk hen,H.forget (.cons _ (au _)) (fun _ h=>h)⟩,lE Z Z,Qg,by show txs.length- (k+1)<txs.length-k;omega⟩
 refine G (Kt Z Z)<|U<|ZF Z<|Zk<|W<|W ?_
 have hen:gW x=true:=by unfold gW;simp;omega
 have hxo:fK ck nx x=true:=uK q7 x (ab hxk)
 obtain⟨a1,a2,a3,a4,a5,a6,a7,a8,a9,a10,a11⟩:=ce.1 hxo
 have hpl:x.parts.length≠0:=fun h=>by have:=a11.2 h;unfold gW at hen;simp[this]at hen
 refine Zr<|G (Yi Z) ?_
 refine dq (br Z Z) Z Z Z (fun h34=> ?_) (fun h34=> ?_)
 obtain rfl:m=0:=by omega
 have hnth:ia txs n=some x:=by unfold ia;rw[hm];exact Ir hxk hen
 obtain⟨p0,hp0⟩: ∃ p,x.parts[0]? =some p:=⟨_,ai I⟩
 refine U<|ZT Z<|W<|Zr<|G (Wi Z)<|U<|W<|W<|Zr<|G (Zf cU Z)<|G (Zd al H 0 Z Z Z) ?_
 refine dq (br Z Z) Z Z Z (fun h37=> ?_) (fun h37=> ?_)
 refine U<|ZT Z<|Zr<|G (Wi Z)<|U<|W ?_
 replace H:=Hp.partRow H 1 Z (ab hxk)
 refine bP cD [0,1,2,3,4,5,6,7,8,9,10,11,12,13] [14,15] [] [0,2,4,6,8,10,11,12,13] (sp []) N N N N Nq (cO _) ?_
 refine aw Z Z Z Z Z (fun w' hw'=>Zf oB Z)<|aw Z Z Z Z Z (fun w' hw'=>bf aZ Z (aJ ((H.later hw').ent (i:=0) Z) Z))<|aw Z Z Z Z Z (fun w' hw'=>Zf dC Z)<|aw Z Z Z Z Z (fun w' hw'=>bf cC Z (aJ ((H.later hw').ent (i:=0) Z) Z))<|py (k:=0) H 0 Z Z Z Z Z bd Z Z I I fun b8 o8 x8 e8=> ?_
 obtain rfl:p0=x8:=by have:=e8.at_;rw[hp0]at this;exact aT this
 refine aw Z Z Z Z Z (fun w' hw'=>bf al Z (e8.later hw' 0 _ Z))<|aw Z Z Z Z Z (fun w' hw'=>Zf lp Z)<|aw Z Z Z Z Z (fun w' hw'=>bf al Z (aJ ((H.later hw').ent (i:=0) Z) Z))<|aw Z Z Z Z Z (fun w' hw'=>Zf gD Z)<|aw Z Z Z Z Z (fun w' hw'=>bf al Z (aJ ((H.later hw').ent (i:=0) Z) Z))<|aw Z Z Z Z Z (fun w' hw'=>Yi Z)<|aw Z Z Z Z Z (fun w' hw'=>bE (cs:= #[J (0),J (x.pid),J (x.ver),J (0),J (3),.bool (true),.string (⟨#[]⟩)]) ob gp N)<|aw Z Z Z Z Z (fun w' hw'=>Wt Z)<|aw Z Z Z Z Z (fun w' hw'=>Wi Z)<|aU ?_
 intro w9 hw' hF
 replace H:=H.later hw';clear hw' hF
 refine bC H 1 (#[J (0),J (x.pid),J (x.ver),J (0),J (3),.bool (true),.string (⟨#[]⟩)]) eV Z Z Z Z Z N N fun w10 H=>G (Wi Z)<|U<|Zt ?_
 rw[hnth]
 have hk2:(if x.state=4 then(3:Int)else 2)=3:=by rw[if_pos I]
 have hh:x.parts.headD 0=p0:=by rw[nu,pG,hp0];rfl
 exact xk (v0:=.string x.name) (v1:=J p0) (cs2:= #[J 0,J x.pid,J x.ver,J 0,J 3,.bool true,.string ⟨#[]⟩]) (v3:=J 0) Z Z Z dI Z (H.ent (i:=1) Z) Z Z ⟨by unfold yO Ax;dsimp only;rw[hk2,hh],H.below⟩
 refine U<|ZF Z<|Zk<|W ?_
 replace H:=Hp.partRow H 1 Z (ab hxk)
 refine bP cD [0,1,2,3,4,5,6,7,8,9,10,11,12,13] [14,15] [] [0,2,4,6,8,10,11,12,13] (sp []) N N N N Nq (cO _) ?_
 refine aw Z Z Z Z Z (fun w' hw'=>Zf oB Z)<|aw Z Z Z Z Z (fun w' hw'=>bf aZ Z (aJ ((H.later hw').ent (i:=0) Z) Z))<|aw Z Z Z Z Z (fun w' hw'=>Zf dC Z)<|aw Z Z Z Z Z (fun w' hw'=>bf cC Z (aJ ((H.later hw').ent (i:=0) Z) Z))<|py (k:=0) H 0 Z Z Z Z Z bd Z Z I I fun b11 o11 x11 e11=> ?_
 obtain rfl:p0=x11:=by have:=e11.at_;rw[hp0]at this;exact aT this
 refine aw Z Z Z Z Z (fun w' hw'=>bf al Z (e11.later hw' 0 _ Z))<|aw Z Z Z Z Z (fun w' hw'=>Zf lp Z)<|aw Z Z Z Z Z (fun w' hw'=>bf al Z (aJ ((H.later hw').ent (i:=0) Z) Z))<|aw Z Z Z Z Z (fun w' hw'=>Zf gD Z)<|aw Z Z Z Z Z (fun w' hw'=>bf al Z (aJ ((H.later hw').ent (i:=0) Z) Z))<|aw Z Z Z Z Z (fun w' hw'=>Yi Z)<|aw Z Z Z Z Z (fun w' hw'=>bE (cs:= #[J (0),J (x.pid),J (x.ver),J (0),J (2),.bool (true),.string (⟨#[]⟩)]) ob gp N)<|aw Z Z Z Z Z (fun w' hw'=>Wt Z)<|aw Z Z Z Z Z (fun w' hw'=>Wi Z)<|aU ?_
 intro w12 hw' hF
 replace H:=H.later hw';clear hw' hF
 refine bC H 1 (#[J (0),J (x.pid),J (x.ver),J (0),J (2),.bool (true),.string (⟨#[]⟩)]) eV Z Z Z Z Z N N fun w13 H=>G (Wi Z)<|U<|Zt ?_
 rw[hnth]
 have hk2:(if x.state=4 then(3:Int)else 2)=2:=by rw[if_neg I]
 have hh:x.parts.headD 0=p0:=by rw[nu,pG,hp0];rfl
 exact xk (v0:=.string x.name) (v1:=J p0) (cs2:= #[J 0,J x.pid,J x.ver,J 0,J 2,.bool true,.string ⟨#[]⟩]) (v3:=J 0) Z Z Z dI Z (H.ent (i:=1) Z) Z Z ⟨by unfold yO Ax;dsimp only;rw[hk2,hh],H.below⟩
 refine U<|ZF Z<|Zk<|Zr<|G (Yi Z)<|G (ng Z Z I I)<|G (Wi Z)<|U<|Zr<|G (bn Z Z I I)<|G (Yi Z)<|U ?_
 refine⟨(k+1,m-1),⟨by omega,by omega,by rw[hm];exact Fl hxk hen I,H.forget (.cons _ (au _)) (fun _ h=>h)⟩,lE Z (by show Value.int .i64 _=Value.int .i64 _;congr 1;omega),Qg,by show txs.length- (k+1)<txs.length-k;omega⟩
 refine G (Yb Z)<|ZN<|ZN<|ZN<|G (N Z Z)<|U<|ZF Z<|Zk<|W<|W ?_
 have hen:gW x=true:=by unfold gW;simp;omega
 have hxo:fK ck nx x=true:=uK q7 x (ab hxk)
 obtain⟨a1,a2,a3,a4,a5,a6,a7,a8,a9,a10,a11⟩:=ce.1 hxo
 have hpl:x.parts.length≠0:=fun h=>by have:=a11.2 h;unfold gW at hen;simp[this]at hen
 refine Zr<|G (Yi Z) ?_
 refine dq (br Z Z) Z Z Z (fun h34=> ?_) (fun h34=> ?_)
 obtain rfl:m=0:=by omega
 have hnth:ia txs n=some x:=by unfold ia;rw[hm];exact Ir hxk hen
 obtain⟨p0,hp0⟩: ∃ p,x.parts[0]? =some p:=⟨_,ai I⟩
 refine U<|ZT Z<|W<|Zr<|G (Wi Z)<|U<|W<|W<|Zr<|G (Zf cU Z)<|G (Zd al H 0 Z Z Z) ?_
 refine dq (br Z Z) Z Z Z (fun h37=> ?_) (fun h37=> ?_)
 refine U<|ZT Z<|Zr<|G (Wi Z)<|U<|W ?_
 replace H:=Hp.partRow H 1 Z (ab hxk)
 refine bP cD [0,1,2,3,4,5,6,7,8,9,10,11,12,13] [14,15] [] [0,2,4,6,8,10,11,12,13] (sp []) N N N N Nq (cO _) ?_
 refine aw Z Z Z Z Z (fun w' hw'=>Zf oB Z)<|aw Z Z Z Z Z (fun w' hw'=>bf aZ Z (aJ ((H.later hw').ent (i:=0) Z) Z))<|aw Z Z Z Z Z (fun w' hw'=>Zf dC Z)<|aw Z Z Z Z Z (fun w' hw'=>bf cC Z (aJ ((H.later hw').ent (i:=0) Z) Z))<|py (k:=0) H 0 Z Z Z Z Z bd Z Z I I fun b14 o14 x14 e14=> ?_
 obtain rfl:p0=x14:=by have:=e14.at_;rw[hp0]at this;exact aT this
 refine aw Z Z Z Z Z (fun w' hw'=>bf al Z (e14.later hw' 0 _ Z))<|aw Z Z Z Z Z (fun w' hw'=>Zf lp Z)<|aw Z Z Z Z Z (fun w' hw'=>bf al Z (aJ ((H.later hw').ent (i:=0) Z) Z))<|aw Z Z Z Z Z (fun w' hw'=>Zf gD Z)<|aw Z Z Z Z Z (fun w' hw'=>bf al Z (aJ ((H.later hw').ent (i:=0) Z) Z))<|aw Z Z Z Z Z (fun w' hw'=>Yi Z)<|aw Z Z Z Z Z (fun w' hw'=>bE (cs:= #[J (0),J (x.pid),J (x.ver),J (0),J (3),.bool (true),.string (⟨#[]⟩)]) ob gp N)<|aw Z Z Z Z Z (fun w' hw'=>Wt Z)<|aw Z Z Z Z Z (fun w' hw'=>Wi Z)<|aU ?_
 intro w15 hw' hF
 replace H:=H.later hw';clear hw' hF
 refine bC H 1 (#[J (0),J (x.pid),J (x.ver),J (0),J (3),.bool (true),.string (⟨#[]⟩)]) eV Z Z Z Z Z N N fun w16 H=>G (Wi Z)<|U<|Zt ?_
 rw[hnth]
 have hk2:(if x.state=4 then(3:Int)else 2)=3:=by rw[if_pos I]
 have hh:x.parts.headD 0=p0:=by rw[nu,pG,hp0];rfl
 exact xk (v0:=.string x.name) (v1:=J p0) (cs2:= #[J 0,J x.pid,J x.ver,J 0,J 3,.bool true,.string ⟨#[]⟩]) (v3:=J 0) Z Z Z dI Z (H.ent (i:=1) Z) Z Z ⟨by unfold yO Ax;dsimp only;rw[hk2,hh],H.below⟩
 refine U<|ZF Z<|Zk<|W ?_
 replace H:=Hp.partRow H 1 Z (ab hxk)
 refine bP cD [0,1,2,3,4,5,6,7,8,9,10,11,12,13] [14,15] [] [0,2,4,6,8,10,11,12,13] (sp []) N N N N Nq (cO _) ?_
 refine aw Z Z Z Z Z (fun w' hw'=>Zf oB Z)<|aw Z Z Z Z Z (fun w' hw'=>bf aZ Z (aJ ((H.later hw').ent (i:=0) Z) Z))<|aw Z Z Z Z Z (fun w' hw'=>Zf dC Z)<|aw Z Z Z Z Z (fun w' hw'=>bf cC Z (aJ ((H.later hw').ent (i:=0) Z) Z))<|py (k:=0) H 0 Z Z Z Z Z bd Z Z I I fun b17 o17 x17 e17=> ?_
 obtain rfl:p0=x17:=by have:=e17.at_;rw[hp0]at this;exact aT this
 refine aw Z Z Z Z Z (fun w' hw'=>bf al Z (e17.later hw' 0 _ Z))<|aw Z Z Z Z Z (fun w' hw'=>Zf lp Z)<|aw Z Z Z Z Z (fun w' hw'=>bf al Z (aJ ((H.later hw').ent (i:=0) Z) Z))<|aw Z Z Z Z Z (fun w' hw'=>Zf gD Z)<|aw Z Z Z Z Z (fun w' hw'=>bf al Z (aJ ((H.later hw').ent (i:=0) Z) Z))<|aw Z Z Z Z Z (fun w' hw'=>Yi Z)<|aw Z Z Z Z Z (fun w' hw'=>bE (cs:= #[J (0),J (x.pid),J (x.ver),J (0),J (2),.bool (true),.string (⟨#[]⟩)]) ob gp N)<|aw Z Z Z Z Z (fun w' hw'=>Wt Z)<|aw Z Z Z Z Z (fun w' hw'=>Wi Z)<|aU ?_
 intro w18 hw' hF
 replace H:=H.later hw';clear hw' hF
 refine bC H 1 (#[J (0),J (x.pid),J (x.ver),J (0),J (2),.bool (true),.string (⟨#[]⟩)]) eV Z Z Z Z Z N N fun w19 H=>G (Wi Z)<|U<|Zt ?_
 rw[hnth]
 have hk2:(if x.state=4 then(3:Int)else 2)=2:=by rw[if_neg I]
 have hh:x.parts.headD 0=p0:=by rw[nu,pG,hp0];rfl
 exact xk (v0:=.string x.name) (v1:=J p0) (cs2:= #[J 0,J x.pid,J x.ver,J 0,J 2,.bool true,.string ⟨#[]⟩]) (v3:=J 0) Z Z Z dI Z (H.ent (i:=1) Z) Z Z ⟨by unfold yO Ax;dsimp only;rw[hk2,hh],H.below⟩
 refine U<|ZF Z<|Zk<|Zr<|G (Yi Z)<|G (ng Z Z I I)<|G (Wi Z)<|U<|Zr<|G (bn Z Z I I)<|G (Yi Z)<|U ?_
 refine⟨(k+1,m-1),⟨by omega,by omega,by rw[hm];exact Fl hxk hen I,H.forget (.cons _ (au _)) (fun _ h=>h)⟩,lE Z (by show Value.int .i64 _=Value.int .i64 _;congr 1;omega),Qg,by show txs.length- (k+1)<txs.length-k;omega⟩
 refine U<|W<|ZF Z<|Zx<|W<|Zr<|G (bE (cs:= #[J (0),J (0),J (0),J (0),J (0),.bool (false),.string (⟨#[]⟩)]) ob gp N)<|G (Wt Z)<|G (Wi Z)<|bC H 0 (#[J (0),J (0),J (0),J (0),J (0),.bool (false),.string (⟨#[]⟩)]) eV Z Z Z Z Z N N fun w20 H=>G (Wi Z)<|U<|Zt ?_
 rw[show ia txs n=none by unfold ia;rw[hm];exact ND I]
 exact xk (v0:=.string ⟨#[]⟩) (v1:=J 0) (cs2:= #[J 0,J 0,J 0,J 0,J 0,.bool false,.string ⟨#[]⟩]) (v3:=J 15) Z Z Z dI Z (H.ent (i:=0) Z) Z Z ⟨rfl,H.below⟩
/-- P5.6: a part whose marker is kept -/
def gE (p:Int) (t:Tx):Tx:=if(t.parts.filter fun q=>decide (q≠p)).length=0 then{t with parts:=[],done:=t.state,state:=1}else{t with parts:=t.parts.filter fun q=>decide (q≠p)}
theorem Ev {p:Int} {t t':Tx} (h:t'.a=t.a):(gE p t').a=(gE p t).a:=by
 have e: ∀ t:Tx,(gE p t).a=gE p t.a:=fun t=>by
  unfold gE
  by_cases h:(t.parts.filter fun q=>decide (q≠p)).length=0
  rw[if_pos h,if_pos (show(t.a.parts.filter fun q=>decide (q≠p)).length=0 from h)];rfl
  rw[if_neg h,if_neg (show¬ (t.a.parts.filter fun q=>decide (q≠p)).length=0 from h)];rfl
 rw[e,e,h]
theorem HD: ∀ {l:List Int} {p:Int} {j:Nat},l.Pairwise (· < ·)->l[j]? =some p->l.take j++l.drop (j+1)=l.filter fun q=>decide (q≠p)
 |[],_,_,_,h=>by cases h
 |x::l,p,0,hp,h=>by
  cases h
  obtain⟨h1,-⟩:=eo.1 hp
  rw[oV (by simp)]
  simp only[y7,kZ,zJ,ji]
  exact(jZ.2 fun y hy=>decide_eq_true (by have:=h1 y hy;omega)).symm
 |x::l,p,j+1,hp,h=>by
  obtain⟨h1,h2⟩:=eo.1 hp
  have hm:p∈l:=ab (show l[j]? =some p from h)
  have:=h1 p hm
  rw[j6 (by simp;omega),<-HD h2 (show l[j]? =some p from h)]
  rfl
theorem there {l:List Int} {p:Int} {i:Nat} (h2: ∀ k y,l[k]? =some y->i<=k->p<=y) (h1: ∀ k y,l[k]? =some y->k<i->y<p) (hp:l.Pairwise (· < ·)) (hm:p∈l):l[i]? =some p:=by
 obtain⟨k,hk⟩:=aM.1 hm
 by_cases hki:k<i
 have:=h1 k p hk hki;omega
 obtain⟨x,hx⟩: ∃ x,l[i]? =some x:=⟨_,ai (by have:=(cu hk).1;omega)⟩
 have h3:=rises hp hx hk I
 have h4:=h2 i x hx (ao _)
 rw[hx];congr 1;omega
theorem N6 (c:Co) (s:ByteArray) (p:Int) (i:Nat) (t:Tx) (w:World) (h:c.rd 0 w.heap.size w) (hok:gI c=true) (hn:bo s=true) (hi:fQ c s=i) (ht:c.txs[i]? =some t) (h34:t.state=3∨t.state=4) (hpm:p∈t.parts) (hpo:cV (-1) t.parts=true):dt aa xa [c.v,.string s,J p] w fun v w2=> ∃ (c':Co) (Lr Lp:List (Nat×Obj)),v=.tuple #[c'.v,J 0]/\qC w w2 (Co.a {c with txs:=c.txs.set i (gE p t)}) c' Lr Lp:=by
 refine aG Cg Z Z ?_
 have hcap:=h.cap
 have hfew:=h.few
 have hfp:=h.fewP
 have H:=Hp.startCo h
 obtain⟨ck,nx,wt,txs,cA,cc⟩:=c
 dsimp only at hcap hfew hfp H
 show CW _ _ _ _ (args [.agg #[J ck,J nx,J wt,.slice cA txs.length cc],.string s,J p]) w
 dsimp only at ht⊢
 refine W<|Zr<|gM H Z Z fun w1 b3 H=>fg H cH Z fun w2 b6 H=>G (Wi Z)<|U<|W<|Zr<|G (Zw ay H 1 Z Z Z)<|G (Yt Z)<|cz iq (lN ⟨ck,nx,wt,txs,cA,cc⟩ s _ ⟨H.rd0 0 Z,fun t ht=>fB H 1 Z ht,hcap,hfew,hfp⟩ hok hn) Z Z ?_
 rintro _ w3 ⟨⟨ck2,nx2,wt2,tx2,A2,c2⟩,Lr,Lp,rfl,ha2,ho2,hp2,hoc2,hpc2,hj2⟩
 replace H:=H.joinR hj2;clear hj2
 simp only[Co.a,Co.mk.injEq]at ha2
 obtain⟨e1,e2,e3,hma,-,-⟩:=ha2
 obtain rfl:ck=ck2:=e1.symm
 obtain rfl:nx=nx2:=e2.symm
 obtain rfl:wt=wt2:=e3.symm
 dsimp only at ho2 hp2 hoc2 hpc2 H
 obtain⟨t2,ht2,hta⟩:=ro hma ht
 have hl2:=(cu ht2).1
 obtain⟨g,cur,rfl,rfl,row⟩:=ho2.row I
 have hst:t2.state=t.state:=by show t2.a.state=t.a.state;rw[hta]
 have hdn:t2.done=t.done:=by show t2.a.done=t.a.done;rw[hta]
 have hpt:t2.parts=t.parts:=by show t2.a.parts=t.a.parts;rw[hta]
 rw[hi]
 refine G (Yu Z)<|G (Xa Z Z)<|G (Xi Z Z)<|G (Xi Z Z)<|bC H 1 (#[J (ck),J (nx),J (wt),.slice (Qd g) tx2.length c2]) aE Z Z Z Z Z N N fun w4 H=>G (Wi Z)<|G (Wi Z)<|U<|W<|W<|Zr<|G (Yi Z)<|G (ch Z Z Z)<|U<|ZF Z<|Zk<|W<|W<|Zr<|G (Yi Z)<|G (dn Z Z I)<|U<|ZF Z<|Zk<|W<|Zr<|G (Zf cP Z)<|G (Zd dK H 1 Z Z Z)<|G (Yi Z)<|G (cQ gK Z Z (by first|omega|(simp only[ae];omega)))<|G (Wp Z)<|U<|W<|W<|Zr<|G (Yp Z)<|G (aI Z)<|G (Zf cU Z)<|G (bX al row ht2 3 Z (H.ent (i:=2) Z) Z)<|G (je Z Z) ?_
 refine nB 35 Z (fun h35=> ?_) (fun h35=> ?_)
 refine G (Yb Z)<|ZG<|G (Yp Z)<|ZG<|G (aI Z)<|ZG<|G (Zf cU Z)<|ZG<|G (bX al row ht2 3 Z (H.ent (i:=2) Z) Z)<|ZG<|G (ch Z Z (by simp at h35;omega))<|G (Kt Z Z)<|U<|ZF Z<|Zk<|W ?_
 have hrise:=(fP hpo).1
 have hfw:=mB hpo
 rw[<-hpt]at hrise hfw hpm
 obtain⟨La,Lt,Lb,rfl,hot,hset⟩:=hp2.at_ ht2
 refine Zr<|G (Yp Z)<|G (aI Z)<|G (Zf dC Z)<|G (bX cC row ht2 4 Z (H.ent (i:=2) Z) Z)<|G (Yi Z)<|cz ec (qy t2.parts p t2.A t2.cap _ ((hot.rd (K:=[(b6,.cells #[J (0),J (0),J (0),.slice none 0 0] bc (0,0)),(b3,.cells #[J (ck),J (nx),J (wt),.slice (Qd g) tx2.length c2] bc (0,0)),(g,.cells cur dG (0,0))]++La) (M:=Lb) (vx [(b6,.cells #[J (0),J (0),J (0),.slice none 0 0] bc (0,0)),(b3,.cells #[J (ck),J (nx),J (wt),.slice (Qd g) tx2.length c2] bc (0,0)),(g,.cells cur dG (0,0))] La Lt Lb H)).mono (bx _) (ao _)) I hrise) Z Z ?_
 rintro _ w5 ⟨j,rfl,hjl,hj1,hj2,hb⟩;replace H:=H.later hb;clear hb
 have hjp:=there hj2 hj1 hrise hpm
 rw[show decide (t2.parts[j]? =some p)=true from decide_eq_true hjp]
 have hdl:=HD hrise hjp
 have hjl2:=(cu hjp).1
 refine G (Yu Z)<|G (Xi Z Z)<|G (Xb Z Z)<|G (Wi Z)<|G (Wb Z)<|U<|W<|W<|Zr<|G (Yb Z)<|G (d7 Z)<|U<|ZF Z<|Zk<|W<|Zr<|G (Yp Z)<|G (Yp Z)<|G (aI Z)<|G (Zf dC Z)<|G (bX cC row ht2 4 Z (H.ent (i:=2) Z) Z)<|G (Yi Z)<|G (Yi Z)<|G (bn Z Z I I)<|cz kX (xl (K:=[(b6,.cells #[J (0),J (0),J (0),.slice none 0 0] bc (0,0)),(b3,.cells #[J (ck),J (nx),J (wt),.slice (Qd g) tx2.length c2] bc (0,0)),(g,.cells cur dG (0,0))]++La) (Lt:=Lt) (M:=Lb) (i:=j) (j:=j+1) (vx [(b6,.cells #[J (0),J (0),J (0),.slice none 0 0] bc (0,0)),(b3,.cells #[J (ck),J (nx),J (wt),.slice (Qd g) tx2.length c2] bc (0,0)),(g,.cells cur dG (0,0))] La Lt Lb H) hot I hjl2 I) Z Z ?_
 rintro _ w6 ⟨A9,c9,L9,rfl,ho9,HI⟩;replace H:Hp w w6 ([(b6,.cells #[J (0),J (0),J (0),.slice none 0 0] bc (0,0)),(b3,.cells #[J (ck),J (nx),J (wt),.slice (Qd g) tx2.length c2] bc (0,0)),(g,.cells cur dG (0,0))]++((La++L9++Lb)++[])) [d4 rX 0 w.heap.size cA txs,iM 0 w.heap.size txs]:=AP [(b6,.cells #[J (0),J (0),J (0),.slice none 0 0] bc (0,0)),(b3,.cells #[J (ck),J (nx),J (wt),.slice (Qd g) tx2.length c2] bc (0,0)),(g,.cells cur dG (0,0))] La L9 Lb HI
 have hc9:(t2.parts.take j++t2.parts.drop (j+1)).length<=c9:=by obtain⟨_,_,e,h,_⟩:=ho9.form;injection e with _ _ e;rw[e];exact h
 refine G (aI Z)<|G (Zf dC Z)<|m5 H 2 ({t2 with parts:=t2.parts.take j++t2.parts.drop (j+1),A:=A9,cap:=c9}) jK row ht2 4 Z Z Z Z Z Z N fun w8 cur7 row7 H=> ?_
 have hs9:(tx2.set i ({t2 with parts:=t2.parts.take j++t2.parts.drop (j+1),A:=A9,cap:=c9}))[i]? =some ({t2 with parts:=t2.parts.take j++t2.parts.drop (j+1),A:=A9,cap:=c9}):=am (cu ht2).1
 refine U<|W<|W<|Zr<|G (Yp Z)<|G (aI Z)<|G (Zf dC Z)<|G (bX cC row7 hs9 4 Z (H.ent (i:=2) Z) Z)<|G (bj eA Z) ?_
 refine dq (br Z Z) Z Z Z (fun h72=> ?_) (fun h72=> ?_)
 refine U<|ZT Z<|Zr<|G (Yp Z)<|G (Yp Z)<|G (Yp Z)<|G (aI Z)<|G (Zf cU Z)<|G (bX al row7 hs9 3 Z (H.ent (i:=2) Z) Z)<|G (aI Z)<|G (Zf cU Z)<|m5 H 2 ({({t2 with parts:=t2.parts.take j++t2.parts.drop (j+1),A:=A9,cap:=c9})with state:=1}) bV row7 hs9 3 Z Z Z Z Z Z N fun w11 cur10 row10 H=> ?_
 have hs12:((tx2.set i ({t2 with parts:=t2.parts.take j++t2.parts.drop (j+1),A:=A9,cap:=c9})).set i ({({t2 with parts:=t2.parts.take j++t2.parts.drop (j+1),A:=A9,cap:=c9})with state:=1}))[i]? =some ({({t2 with parts:=t2.parts.take j++t2.parts.drop (j+1),A:=A9,cap:=c9})with state:=1}):=am (cu hs9).1
 refine G (aI Z)<|G (Zf jo Z)<|m5 H 2 ({({({t2 with parts:=t2.parts.take j++t2.parts.drop (j+1),A:=A9,cap:=c9})with state:=1})with done:=({t2 with parts:=t2.parts.take j++t2.parts.drop (j+1),A:=A9,cap:=c9}).state}) bV row10 hs12 6 Z Z Z Z Z Z N fun w14 cur13 row13 H=> ?_
 have hs15:(((tx2.set i ({t2 with parts:=t2.parts.take j++t2.parts.drop (j+1),A:=A9,cap:=c9})).set i ({({t2 with parts:=t2.parts.take j++t2.parts.drop (j+1),A:=A9,cap:=c9})with state:=1})).set i ({({({t2 with parts:=t2.parts.take j++t2.parts.drop (j+1),A:=A9,cap:=c9})with state:=1})with done:=({t2 with parts:=t2.parts.take j++t2.parts.drop (j+1),A:=A9,cap:=c9}).state}))[i]? =some ({({({t2 with parts:=t2.parts.take j++t2.parts.drop (j+1),A:=A9,cap:=c9})with state:=1})with done:=({t2 with parts:=t2.parts.take j++t2.parts.drop (j+1),A:=A9,cap:=c9}).state}):=am (cu hs12).1
 refine U<|W<|Zr<|G (Zw ay H 1 Z Z Z)<|bC H 0 (#[J (ck),J (nx),J (wt),.slice (Qd g) tx2.length c2]) aE Z Z Z Z Z N N fun w16 H=>G (Wi Z)<|U<|Zt ?_
 have h72b:((t2.parts.take j++t2.parts.drop (j+1)).length:Int)=0:=h72
 have hX:Tx.a ({t2 with parts:=t2.parts.take j++t2.parts.drop (j+1),A:=A9,cap:=c9,done:=t2.state,state:=1})=(gE p t).a:=by rw[<-Ev hta];unfold gE;rw[<-hdl];rw[if_pos I,bR (show(t2.parts.take j++t2.parts.drop (j+1)).length=0 by omega)];rfl
 have hrow:d3 rX (tx2.set i ({t2 with parts:=t2.parts.take j++t2.parts.drop (j+1),A:=A9,cap:=c9,done:=t2.state,state:=1})) c2 cur13:=by have hr:=row13;simp only[fL]at hr;exact hr
 exact ci (cs0:= #[J ck,J nx,J wt,.slice (Qd g) tx2.length c2]) (v1:=J 0) Z ay Z (H.ent (i:=0) Z) Z Z ⟨⟨ck,nx,wt,tx2.set i ({t2 with parts:=t2.parts.take j++t2.parts.drop (j+1),A:=A9,cap:=c9,done:=t2.state,state:=1}),some ⟨g,0,none⟩,c2⟩,[(g,.cells cur13 dG (0,0))],(La++L9++Lb),by unfold Co.v Co.c;dsimp only;rw[ae],by unfold Co.a;dsimp only;rw[pq hma i hX],d3.own hrow,hset {t2 with parts:=t2.parts.take j++t2.parts.drop (j+1),A:=A9,cap:=c9,done:=t2.state,state:=1} L9 ho9,by dsimp only;rw[ae];exact hoc2,jS hpc2 i (by exact hc9),H.forget (.cons _ (.cons _ (aD _ _))) (by simp)⟩
 refine U<|ZF Z<|Zk<|W<|Zr<|G (Zw ay H 1 Z Z Z)<|bC H 0 (#[J (ck),J (nx),J (wt),.slice (Qd g) tx2.length c2]) aE Z Z Z Z Z N N fun w17 H=>G (Wi Z)<|U<|Zt ?_
 have h72b: ¬ ((t2.parts.take j++t2.parts.drop (j+1)).length:Int)=0:=h72
 have hX:Tx.a ({t2 with parts:=t2.parts.take j++t2.parts.drop (j+1),A:=A9,cap:=c9})=(gE p t).a:=by rw[<-Ev hta];unfold gE;rw[<-hdl];rw[if_neg I];rfl
 have hrow:d3 rX (tx2.set i ({t2 with parts:=t2.parts.take j++t2.parts.drop (j+1),A:=A9,cap:=c9})) c2 cur7:=by exact row7
 exact ci (cs0:= #[J ck,J nx,J wt,.slice (Qd g) tx2.length c2]) (v1:=J 0) Z ay Z (H.ent (i:=0) Z) Z Z ⟨⟨ck,nx,wt,tx2.set i ({t2 with parts:=t2.parts.take j++t2.parts.drop (j+1),A:=A9,cap:=c9}),some ⟨g,0,none⟩,c2⟩,[(g,.cells cur7 dG (0,0))],(La++L9++Lb),by unfold Co.v Co.c;dsimp only;rw[ae],by unfold Co.a;dsimp only;rw[pq hma i hX],d3.own hrow,hset {t2 with parts:=t2.parts.take j++t2.parts.drop (j+1),A:=A9,cap:=c9} L9 ho9,by dsimp only;rw[ae];exact hoc2,jS hpc2 i (by exact hc9),H.forget (.cons _ (.cons _ (aD _ _))) (by simp)⟩
 refine G (Yb Z)<|ZN<|ZN<|ZN<|ZN<|ZN<|G (N Z Z)<|U<|ZF Z<|Zk<|W ?_
 have hrise:=(fP hpo).1
 have hfw:=mB hpo
 rw[<-hpt]at hrise hfw hpm
 obtain⟨La,Lt,Lb,rfl,hot,hset⟩:=hp2.at_ ht2
 refine Zr<|G (Yp Z)<|G (aI Z)<|G (Zf dC Z)<|G (bX cC row ht2 4 Z (H.ent (i:=2) Z) Z)<|G (Yi Z)<|cz ec (qy t2.parts p t2.A t2.cap _ ((hot.rd (K:=[(b6,.cells #[J (0),J (0),J (0),.slice none 0 0] bc (0,0)),(b3,.cells #[J (ck),J (nx),J (wt),.slice (Qd g) tx2.length c2] bc (0,0)),(g,.cells cur dG (0,0))]++La) (M:=Lb) (vx [(b6,.cells #[J (0),J (0),J (0),.slice none 0 0] bc (0,0)),(b3,.cells #[J (ck),J (nx),J (wt),.slice (Qd g) tx2.length c2] bc (0,0)),(g,.cells cur dG (0,0))] La Lt Lb H)).mono (bx _) (ao _)) I hrise) Z Z ?_
 rintro _ w18 ⟨j,rfl,hjl,hj1,hj2,hb⟩;replace H:=H.later hb;clear hb
 have hjp:=there hj2 hj1 hrise hpm
 rw[show decide (t2.parts[j]? =some p)=true from decide_eq_true hjp]
 have hdl:=HD hrise hjp
 have hjl2:=(cu hjp).1
 refine G (Yu Z)<|G (Xi Z Z)<|G (Xb Z Z)<|G (Wi Z)<|G (Wb Z)<|U<|W<|W<|Zr<|G (Yb Z)<|G (d7 Z)<|U<|ZF Z<|Zk<|W<|Zr<|G (Yp Z)<|G (Yp Z)<|G (aI Z)<|G (Zf dC Z)<|G (bX cC row ht2 4 Z (H.ent (i:=2) Z) Z)<|G (Yi Z)<|G (Yi Z)<|G (bn Z Z I I)<|cz kX (xl (K:=[(b6,.cells #[J (0),J (0),J (0),.slice none 0 0] bc (0,0)),(b3,.cells #[J (ck),J (nx),J (wt),.slice (Qd g) tx2.length c2] bc (0,0)),(g,.cells cur dG (0,0))]++La) (Lt:=Lt) (M:=Lb) (i:=j) (j:=j+1) (vx [(b6,.cells #[J (0),J (0),J (0),.slice none 0 0] bc (0,0)),(b3,.cells #[J (ck),J (nx),J (wt),.slice (Qd g) tx2.length c2] bc (0,0)),(g,.cells cur dG (0,0))] La Lt Lb H) hot I hjl2 I) Z Z ?_
 rintro _ w19 ⟨A9,c9,L9,rfl,ho9,HI⟩;replace H:Hp w w19 ([(b6,.cells #[J (0),J (0),J (0),.slice none 0 0] bc (0,0)),(b3,.cells #[J (ck),J (nx),J (wt),.slice (Qd g) tx2.length c2] bc (0,0)),(g,.cells cur dG (0,0))]++((La++L9++Lb)++[])) [d4 rX 0 w.heap.size cA txs,iM 0 w.heap.size txs]:=AP [(b6,.cells #[J (0),J (0),J (0),.slice none 0 0] bc (0,0)),(b3,.cells #[J (ck),J (nx),J (wt),.slice (Qd g) tx2.length c2] bc (0,0)),(g,.cells cur dG (0,0))] La L9 Lb HI
 have hc9:(t2.parts.take j++t2.parts.drop (j+1)).length<=c9:=by obtain⟨_,_,e,h,_⟩:=ho9.form;injection e with _ _ e;rw[e];exact h
 refine G (aI Z)<|G (Zf dC Z)<|m5 H 2 ({t2 with parts:=t2.parts.take j++t2.parts.drop (j+1),A:=A9,cap:=c9}) jK row ht2 4 Z Z Z Z Z Z N fun w21 cur20 row20 H=> ?_
 have hs22:(tx2.set i ({t2 with parts:=t2.parts.take j++t2.parts.drop (j+1),A:=A9,cap:=c9}))[i]? =some ({t2 with parts:=t2.parts.take j++t2.parts.drop (j+1),A:=A9,cap:=c9}):=am (cu ht2).1
 refine U<|W<|W<|Zr<|G (Yp Z)<|G (aI Z)<|G (Zf dC Z)<|G (bX cC row20 hs22 4 Z (H.ent (i:=2) Z) Z)<|G (bj eA Z) ?_
 refine dq (br Z Z) Z Z Z (fun h72=> ?_) (fun h72=> ?_)
 refine U<|ZT Z<|Zr<|G (Yp Z)<|G (Yp Z)<|G (Yp Z)<|G (aI Z)<|G (Zf cU Z)<|G (bX al row20 hs22 3 Z (H.ent (i:=2) Z) Z)<|G (aI Z)<|G (Zf cU Z)<|m5 H 2 ({({t2 with parts:=t2.parts.take j++t2.parts.drop (j+1),A:=A9,cap:=c9})with state:=1}) bV row20 hs22 3 Z Z Z Z Z Z N fun w24 cur23 row23 H=> ?_
 have hs25:((tx2.set i ({t2 with parts:=t2.parts.take j++t2.parts.drop (j+1),A:=A9,cap:=c9})).set i ({({t2 with parts:=t2.parts.take j++t2.parts.drop (j+1),A:=A9,cap:=c9})with state:=1}))[i]? =some ({({t2 with parts:=t2.parts.take j++t2.parts.drop (j+1),A:=A9,cap:=c9})with state:=1}):=am (cu hs22).1
 refine G (aI Z)<|G (Zf jo Z)<|m5 H 2 ({({({t2 with parts:=t2.parts.take j++t2.parts.drop (j+1),A:=A9,cap:=c9})with state:=1})with done:=({t2 with parts:=t2.parts.take j++t2.parts.drop (j+1),A:=A9,cap:=c9}).state}) bV row23 hs25 6 Z Z Z Z Z Z N fun w27 cur26 row26 H=> ?_
 have hs28:(((tx2.set i ({t2 with parts:=t2.parts.take j++t2.parts.drop (j+1),A:=A9,cap:=c9})).set i ({({t2 with parts:=t2.parts.take j++t2.parts.drop (j+1),A:=A9,cap:=c9})with state:=1})).set i ({({({t2 with parts:=t2.parts.take j++t2.parts.drop (j+1),A:=A9,cap:=c9})with state:=1})with done:=({t2 with parts:=t2.parts.take j++t2.parts.drop (j+1),A:=A9,cap:=c9}).state}))[i]? =some ({({({t2 with parts:=t2.parts.take j++t2.parts.drop (j+1),A:=A9,cap:=c9})with state:=1})with done:=({t2 with parts:=t2.parts.take j++t2.parts.drop (j+1),A:=A9,cap:=c9}).state}):=am (cu hs25).1
 refine U<|W<|Zr<|G (Zw ay H 1 Z Z Z)<|bC H 0 (#[J (ck),J (nx),J (wt),.slice (Qd g) tx2.length c2]) aE Z Z Z Z Z N N fun w29 H=>G (Wi Z)<|U<|Zt ?_
 have h72b:((t2.parts.take j++t2.parts.drop (j+1)).length:Int)=0:=h72
 have hX:Tx.a ({t2 with parts:=t2.parts.take j++t2.parts.drop (j+1),A:=A9,cap:=c9,done:=t2.state,state:=1})=(gE p t).a:=by rw[<-Ev hta];unfold gE;rw[<-hdl];rw[if_pos I,bR (show(t2.parts.take j++t2.parts.drop (j+1)).length=0 by omega)];rfl
 have hrow:d3 rX (tx2.set i ({t2 with parts:=t2.parts.take j++t2.parts.drop (j+1),A:=A9,cap:=c9,done:=t2.state,state:=1})) c2 cur26:=by have hr:=row26;simp only[fL]at hr;exact hr
 exact ci (cs0:= #[J ck,J nx,J wt,.slice (Qd g) tx2.length c2]) (v1:=J 0) Z ay Z (H.ent (i:=0) Z) Z Z ⟨⟨ck,nx,wt,tx2.set i ({t2 with parts:=t2.parts.take j++t2.parts.drop (j+1),A:=A9,cap:=c9,done:=t2.state,state:=1}),some ⟨g,0,none⟩,c2⟩,[(g,.cells cur26 dG (0,0))],(La++L9++Lb),by unfold Co.v Co.c;dsimp only;rw[ae],by unfold Co.a;dsimp only;rw[pq hma i hX],d3.own hrow,hset {t2 with parts:=t2.parts.take j++t2.parts.drop (j+1),A:=A9,cap:=c9,done:=t2.state,state:=1} L9 ho9,by dsimp only;rw[ae];exact hoc2,jS hpc2 i (by exact hc9),H.forget (.cons _ (.cons _ (aD _ _))) (by simp)⟩
 refine U<|ZF Z<|Zk<|W<|Zr<|G (Zw ay H 1 Z Z Z)<|bC H 0 (#[J (ck),J (nx),J (wt),.slice (Qd g) tx2.length c2]) aE Z Z Z Z Z N N fun w30 H=>G (Wi Z)<|U<|Zt ?_
 have h72b: ¬ ((t2.parts.take j++t2.parts.drop (j+1)).length:Int)=0:=h72
 have hX:Tx.a ({t2 with parts:=t2.parts.take j++t2.parts.drop (j+1),A:=A9,cap:=c9})=(gE p t).a:=by rw[<-Ev hta];unfold gE;rw[<-hdl];rw[if_neg I];rfl
 have hrow:d3 rX (tx2.set i ({t2 with parts:=t2.parts.take j++t2.parts.drop (j+1),A:=A9,cap:=c9})) c2 cur20:=by exact row20
 exact ci (cs0:= #[J ck,J nx,J wt,.slice (Qd g) tx2.length c2]) (v1:=J 0) Z ay Z (H.ent (i:=0) Z) Z Z ⟨⟨ck,nx,wt,tx2.set i ({t2 with parts:=t2.parts.take j++t2.parts.drop (j+1),A:=A9,cap:=c9}),some ⟨g,0,none⟩,c2⟩,[(g,.cells cur20 dG (0,0))],(La++L9++Lb),by unfold Co.v Co.c;dsimp only;rw[ae],by unfold Co.a;dsimp only;rw[pq hma i hX],d3.own hrow,hset {t2 with parts:=t2.parts.take j++t2.parts.drop (j+1),A:=A9,cap:=c9} L9 ho9,by dsimp only;rw[ae];exact hoc2,jS hpc2 i (by exact hc9),H.forget (.cons _ (.cons _ (aD _ _))) (by simp)⟩
theorem Hk (c:Co) (s:ByteArray) (i:Nat) (t:Tx) (w:World) (h:c.rd 0 w.heap.size w) (hok:gI c=true) (hn:bo s=true) (hi:fQ c s=i) (ht:c.txs[i]? =some t) (h34:t.state=3∨t.state=4):dt aa mL [c.v,.string s] w fun v w2=>v=.tuple #[.agg #[J 0,J 0,J 0,.slice none 0 0],J 0,J 0,J 12]/\Below w.heap.size w w2:=by
 refine aG nZ Z Z ?_
 have hcap:=h.cap
 have hfew:=h.few
 have hfp:=h.fewP
 have H:=Hp.startCo h
 obtain⟨ck,nx,wt,txs,cA,cc⟩:=c
 dsimp only at hcap hfew hfp H
 show CW _ _ _ _ (args [.agg #[J ck,J nx,J wt,.slice cA txs.length cc],.string s]) w
 dsimp only at ht
 refine W<|Zr<|gM H Z Z fun w1 b2 H=>fg H cH Z fun w2 b4 H=>G (Wi Z)<|G (Wi Z)<|G (Wi Z)<|U<|W<|Zr<|G (Zw ay H 1 Z Z Z)<|G (Yt Z)<|cz iq (lN ⟨ck,nx,wt,txs,cA,cc⟩ s _ ⟨H.rd0 0 Z,fun t ht=>fB H 1 Z ht,hcap,hfew,hfp⟩ hok hn) Z Z ?_
 rintro _ w3 ⟨⟨ck2,nx2,wt2,tx2,A2,c2⟩,Lr,Lp,rfl,ha2,ho2,hp2,hoc2,hpc2,hj2⟩
 replace H:=H.joinR hj2;clear hj2
 simp only[Co.a,Co.mk.injEq]at ha2
 obtain⟨e1,e2,e3,hma,-,-⟩:=ha2
 obtain rfl:ck=ck2:=e1.symm
 obtain rfl:nx=nx2:=e2.symm
 obtain rfl:wt=wt2:=e3.symm
 dsimp only at ho2 hp2 hoc2 hpc2 H
 obtain⟨t2,ht2,hta⟩:=ro hma ht
 have hl2:=(cu ht2).1
 obtain⟨g,cur,rfl,rfl,row⟩:=ho2.row I
 have hst:t2.state=t.state:=by show t2.a.state=t.a.state;rw[hta]
 have hdn:t2.done=t.done:=by show t2.a.done=t.a.done;rw[hta]
 have hpt:t2.parts=t.parts:=by show t2.a.parts=t.a.parts;rw[hta]
 rw[hi]
 refine G (Yu Z)<|G (Xa Z Z)<|G (Xi Z Z)<|G (Xi Z Z)<|bC H 1 (#[J (ck),J (nx),J (wt),.slice (Qd g) tx2.length c2]) aE Z Z Z Z Z N N fun w4 H=>G (Wi Z)<|G (Wi Z)<|U<|W<|W<|Zr<|G (Yi Z)<|G (ch Z Z Z)<|U<|ZF Z<|Zk<|W<|W<|Zr<|G (Yi Z)<|G (dn Z Z I)<|U<|ZF Z<|Zk<|W<|Zr<|G (Zf cP Z)<|G (Zd dK H 1 Z Z Z)<|G (Yi Z)<|G (cQ gK Z Z (by first|omega|(simp only[ae];omega)))<|G (Wp Z)<|U<|W<|Zb<|W<|Zr<|G (Yp Z)<|G (aI Z)<|G (Zf cU Z)<|G (bX al row ht2 3 Z (H.ent (i:=2) Z) Z) ?_
 refine dq (br Z Z) Z Z Z (fun h60=> ?_) (fun h60=> ?_)
 refine G (Yb Z)<|ZN<|ZN<|ZN<|ZN<|ZN<|G (Kt Z Z)<|G (Wb Z)<|U<|ZT Z<|W<|Zr<|G (bE (cs:= #[J (0),J (0),J (0),.slice none 0 0]) fD cH N)<|bC H 0 (#[J (0),J (0),J (0),.slice none 0 0]) aE Z Z Z Z Z N N fun w5 H=>G (Wi Z)<|G (Wi Z)<|G (Wi Z)<|U<|Zt ?_
 exact mP (cs0:= #[J 0,J 0,J 0,.slice none 0 0]) (v1:=J 0) (v2:=J 0) (v3:=J 12) Z ay Z (H.ent (i:=0) Z) Z Z Z Z ⟨rfl,H.below⟩
 refine G (Yb Z)<|ZG<|G (Yp Z)<|ZG<|G (aI Z)<|ZG<|G (Zf cU Z)<|ZG<|G (bX al row ht2 3 Z (H.ent (i:=2) Z) Z)<|ZG<|G (rP Z Z I)<|G (N Z Z)<|G (Wb Z)<|U<|ZT Z<|W<|Zr<|G (bE (cs:= #[J (0),J (0),J (0),.slice none 0 0]) fD cH N)<|bC H 0 (#[J (0),J (0),J (0),.slice none 0 0]) aE Z Z Z Z Z N N fun w6 H=>G (Wi Z)<|G (Wi Z)<|G (Wi Z)<|U<|Zt ?_
 exact mP (cs0:= #[J 0,J 0,J 0,.slice none 0 0]) (v1:=J 0) (v2:=J 0) (v3:=J 12) Z ay Z (H.ent (i:=0) Z) Z Z Z Z ⟨rfl,H.below⟩
theorem Mv (c:Co) (s:ByteArray) (ver:Int) (b:Bool) (w:World) (h:c.rd 0 w.heap.size w) (hok:gI c=true) (hn:bo s=true) (hi:fQ c s= -1):dt aa lY [c.v,.string s,J ver,.bool b] w fun v w2=>v=.tuple #[.agg #[J 0,J 0,J 0,.slice none 0 0],J 5]/\Below w.heap.size w w2:=by
 refine aG pY Z Z ?_
 have hcap:=h.cap
 have hfew:=h.few
 have hfp:=h.fewP
 have H:=Hp.startCo h
 obtain⟨ck,nx,wt,txs,cA,cc⟩:=c
 dsimp only at hcap hfew hfp H
 show CW _ _ _ _ (args [.agg #[J ck,J nx,J wt,.slice cA txs.length cc],.string s,J ver,.bool b]) w
 refine W<|Zr<|gM H Z Z fun w1 b4 H=>fg H cH Z fun w2 b8 H=>G (Wi Z)<|U<|W<|Zr<|G (Zw ay H 1 Z Z Z)<|G (Yt Z)<|G (Yi Z)<|cz gG (AD ⟨ck,nx,wt,txs,cA,cc⟩ s ver _ ⟨H.rd0 0 Z,fun t ht=>fB H 1 Z ht,hcap,hfew,hfp⟩ hok hn hi) Z Z ?_
 rintro _ w3 ⟨rfl,hb⟩;replace H:=H.later hb;clear hb
 refine G (Yu Z)<|G (Xa Z Z)<|G (Xi Z Z)<|G (Xi Z Z)<|bC H 1 (#[J (0),J (0),J (0),.slice none 0 0]) aE Z Z Z Z Z N N fun w4 H=>G (Wi Z)<|G (Wi Z)<|U<|W<|W<|Zr<|G (Yi Z)<|G (lH Z Z (by decide))<|U<|ZT Z<|W<|Zr<|G (bE (cs:= #[J (0),J (0),J (0),.slice none 0 0]) fD cH N)<|G (Yi Z)<|bC H 0 (#[J (0),J (0),J (0),.slice none 0 0]) aE Z Z Z Z Z N N fun w5 H=>G (Wi Z)<|U<|Zt ?_
 exact ci (cs0:= #[J 0,J 0,J 0,.slice none 0 0]) (v1:=J 5) Z ay Z (H.ent (i:=0) Z) Z Z ⟨rfl,H.below⟩
theorem J0 (c:Co) (s:ByteArray) (ver:Int) (b:Bool) (i:Nat) (t:Tx) (w:World) (h:c.rd 0 w.heap.size w) (hok:gI c=true) (hn:bo s=true) (hi:fQ c s=i) (ht:c.txs[i]? =some t) (hv:t.ver≠ver):dt aa lY [c.v,.string s,J ver,.bool b] w fun v w2=>v=.tuple #[.agg #[J 0,J 0,J 0,.slice none 0 0],J 10]/\Below w.heap.size w w2:=by
 refine aG pY Z Z ?_
 have hcap:=h.cap
 have hfew:=h.few
 have hfp:=h.fewP
 have H:=Hp.startCo h
 obtain⟨ck,nx,wt,txs,cA,cc⟩:=c
 dsimp only at hcap hfew hfp H
 show CW _ _ _ _ (args [.agg #[J ck,J nx,J wt,.slice cA txs.length cc],.string s,J ver,.bool b]) w
 dsimp only at ht
 refine W<|Zr<|gM H Z Z fun w1 b4 H=>fg H cH Z fun w2 b8 H=>G (Wi Z)<|U<|W<|Zr<|G (Zw ay H 1 Z Z Z)<|G (Yt Z)<|G (Yi Z)<|cz gG (yS ⟨ck,nx,wt,txs,cA,cc⟩ s ver i t _ ⟨H.rd0 0 Z,fun t ht=>fB H 1 Z ht,hcap,hfew,hfp⟩ hok hn hi ht hv) Z Z ?_
 rintro _ w3 ⟨rfl,hb⟩;replace H:=H.later hb;clear hb
 refine G (Yu Z)<|G (Xa Z Z)<|G (Xi Z Z)<|G (Xi Z Z)<|bC H 1 (#[J (0),J (0),J (0),.slice none 0 0]) aE Z Z Z Z Z N N fun w4 H=>G (Wi Z)<|G (Wi Z)<|U<|W<|W<|Zr<|G (Yi Z)<|G (lH Z Z (by decide))<|U<|ZT Z<|W<|Zr<|G (bE (cs:= #[J (0),J (0),J (0),.slice none 0 0]) fD cH N)<|G (Yi Z)<|bC H 0 (#[J (0),J (0),J (0),.slice none 0 0]) aE Z Z Z Z Z N N fun w5 H=>G (Wi Z)<|U<|Zt ?_
 exact ci (cs0:= #[J 0,J 0,J 0,.slice none 0 0]) (v1:=J 10) Z ay Z (H.ent (i:=0) Z) Z Z ⟨rfl,H.below⟩
theorem KH (c:Co) (n:Int) (w:World) (h:c.rd 0 w.heap.size w) (hok:gI c=true) (hn:1000<n):dt aa sY [c.v,J n] w fun v w2=>v=.tuple #[.agg #[J 0,J 0,J 0,.slice none 0 0],J 2]/\Below w.heap.size w w2:=by
 refine aG vz Z Z ?_
 have hcap:=h.cap
 have hfew:=h.few
 have hfp:=h.fewP
 have H:=Hp.startCo h
 obtain⟨ck,nx,wt,txs,cA,cc⟩:=c
 dsimp only at hcap hfew hfp H
 show CW _ _ _ _ (args [.agg #[J ck,J nx,J wt,.slice cA txs.length cc],J n]) w
 refine W<|Zr<|gM H Z Z fun w1 b2 H=>fg H cH Z fun w2 b4 H=>G (Wi Z)<|U<|W<|W<|Zr<|G (Zw ay H 1 Z Z Z)<|cz kE (qu ⟨ck,nx,wt,txs,cA,cc⟩ _ ⟨H.rd0 0 Z,fun t ht=>fB H 1 Z ht,hcap,hfew,hfp⟩) Z Z ?_
 rw[hok]
 rintro _ w3 ⟨rfl,hb⟩;replace H:=H.later hb;clear hb
 refine G (Wi Z)<|U<|W<|Zr<|G (Yi Z)<|G (ch Z Z Z)<|U<|ZF Z<|Zk<|W<|W<|Zr<|G (Yi Z)<|G (dn Z Z I)<|G (Yb Z)<|ZG<|G (Yi Z)<|ZG<|G (Hs Z Z I)<|G (N Z Z)<|G (Yb Z)<|ZN<|ZN<|ZN<|ZN<|ZN<|G (Kt Z Z)<|U<|ZT Z<|W<|Zr<|G (bE (cs:= #[J (0),J (0),J (0),.slice none 0 0]) fD cH N)<|bC H 0 (#[J (0),J (0),J (0),.slice none 0 0]) aE Z Z Z Z Z N N fun w4 H=>G (Wi Z)<|U<|Zt ?_
 exact ci (cs0:= #[J 0,J 0,J 0,.slice none 0 0]) (v1:=J 2) Z ay Z (H.ent (i:=0) Z) Z Z ⟨rfl,H.below⟩
theorem Co.rd.st {c:Co} {lo hi:Nat} {w w':World} (hk: ∀ k,lo<=k->k<hi->w'.heap[k]? =w.heap[k]?) (h:c.rd lo hi w):c.rd lo hi w':=
 ⟨h.row.st hk,fun t ht=>(h.parts t ht).st hk,h.cap,h.few,h.fewP⟩
theorem Co.rd.mono {c:Co} {lo hi lo' hi':Nat} {w:World} (h:c.rd lo hi w) (hl:lo'<=lo) (hh:hi<=hi'):c.rd lo' hi' w:=
 ⟨h.row.mono hl hh,fun t ht=>(h.parts t ht).mono hl hh,h.cap,h.few,h.fewP⟩
def Ra (lo hi:Nat) (c:Co):cf:=⟨lo,hi,c.rd lo hi,fun _ _ hk h=>h.st hk⟩
theorem Hp.co {w0 w:World} {L:List (Nat×Obj)} {F:List cf} {lo hi:Nat} {c:Co} (H:Hp w0 w L F) (i:Nat) (hF:F[i]? =some (Ra lo hi c)):c.rd 0 w.heap.size w:=
 Co.rd.mono (H.fact hF) (bx _) (H.facts _ (ab hF)).2.1
def uG (w w2:World) (c:Co):Prop:=c.rd w.heap.size w2.heap.size w2/\Below w.heap.size w w2
theorem HU.new {w w2:World} {c:Co} (h:HU w w2 c) (h1:c.txs.length<=8) (h2: ∀ t∈c.txs,t.parts.length<=4):uG w w2 c:=
 ⟨⟨h.row,h.parts,h.cap,by omega,fun t ht=>⟨by have:=h2 t ht;omega,h.caps t ht⟩⟩,h.below⟩
theorem pN {w w2:World} (h:Below w.heap.size w w2):uG w w2 za:=(OK h).new (by simp[za]) (by simp[za])
theorem Fb {l:List Int} (h:cV (-1) l=true):l.length<=4:=by have:=mB h;omega
theorem CH {ck nx:Int}: ∀ {l pre:List Tx},oa ck nx pre l=true↔(∀ t∈l,fK ck nx t=true)/\(∀ t∈l,∀ p∈pre,sQ t p=false)/\l.Pairwise (fun p t=>sQ t p=false)
 |[],pre=>by simp[oa]
 |t::l,pre=>by
  unfold oa
  rw[aQ,aQ,CH,eo]
  simp only[av,aq,ar,forall_eq_or_imp,pJ,uH]
  constructor
  rintro⟨⟨h1,h2⟩,h3,h4,h5⟩
  exact⟨⟨h1,h3⟩,⟨fun p hp=>by simpa using h2 p hp,fun a ha p hp=>h4 a ha p (.inl hp)⟩,fun a ha=>h4 a ha t (by simp),h5⟩
  rintro⟨⟨h1,h3⟩,⟨h2,h4⟩,h5,h6⟩
  exact⟨⟨h1,fun p hp=>by simpa using h2 p hp⟩,h3,fun a ha p hp=>hp.elim (h4 a ha p) (fun h=>by have:=h5 a ha;simp at h;rwa[h]),h6⟩
def vP (l:List Tx):Prop:=(l.map fun t=>(t.name,t.pid)).Pairwise fun p t=>p.1≠t.1/\p.2≠t.2
theorem Kh {l:List Tx}:vP l↔l.Pairwise (fun p t=>sQ t p=false):=by
 unfold vP
 rw[jv]
 constructor<;>intro h<;>refine h.imp fun{a b} hab=> ?_
 simpa [sQ]using hab
 simpa [sQ]using hab
theorem f0 {c:Co}:gI c=true↔(iH c.clock=true/\1<=c.next/\c.next<=1073741824/\1<=c.wait/\c.wait<=1000/\(c.txs.length:Int)<=8)/\(∀ t∈c.txs,fK c.clock c.next t=true)/\vP c.txs:=by
 rw[i7,CH,Kh]
 constructor
 rintro⟨h1,h2,h3,h4,h5,h6,h7,h8,h9⟩;exact⟨⟨h1,h2,h3,h4,h5,h6⟩,h7,h9⟩
 rintro⟨⟨h1,h2,h3,h4,h5,h6⟩,h7,h9⟩;exact⟨h1,h2,h3,h4,h5,h6,h7,by simp,h9⟩
theorem HF {c:Co} (h:gI c=true):c.txs.length<=8/\ ∀ t∈c.txs,t.parts.length<=4:=by
 obtain⟨⟨_,_,_,_,_,h6⟩,h7,_⟩:=f0.1 h
 exact⟨by omega,fun t ht=>Fb (ce.1 (h7 t ht)).2.2.2.2.2.2.2.2.2.1⟩
theorem qC.new {w w2:World} {ca c':Co} {Lr Lp:List (Nat×Obj)} (h:qC w w2 ca c' Lr Lp) (hok:gI ca=true):uG w w2 c':=by
 have h1:gI c'=true:=by rw[tf,h.1];exact hok
 obtain⟨h2,h3⟩:=HF h1
 exact h.read.new h2 h3
def fS (c:Co) (s:ByteArray):Option (Nat×Tx):=(c.txs.findIdx? fun p=>decide (p.name=s)).bind fun i=>c.txs[i]?.map fun t=>(i,t)
def qc (c:Co) (i:Nat) (t:Tx):Co:={c with txs:=c.txs.set i t}
theorem uY {c:Co} {s:ByteArray} (h:fS c s=none):fQ c s= -1:=by
 unfold fS at h
 unfold fQ
 cases hi:c.txs.findIdx? fun p=>decide (p.name=s)with
 |none=>rfl
 |some i=>
  obtain⟨hl,-⟩:=aP.1 hi
  rw[hi]at h
  simp[ai hl]at h
theorem gj {c:Co} {s:ByteArray} {i:Nat} {t:Tx} (h:fS c s=some (i,t)):fQ c s=i/\c.txs[i]? =some t/\t.name=s:=by
 unfold fS at h
 unfold fQ
 cases hi:c.txs.findIdx? fun p=>decide (p.name=s)with
 |none=>rw[hi]at h;cases h
 |some j=>
  obtain⟨hl,hn,-⟩:=aP.1 hi
  rw[hi]at h
  simp only[fy,ai hl,eJ,lv,Prod.mk.injEq]at h
  obtain⟨rfl,rfl⟩:=h
  exact⟨rfl,ai hl,by simpa using hn⟩
theorem Bf (c:Co) (s:ByteArray):fS c.a s=(fS c s).map fun(i,t)=>(i,t.a):=by
 have e:c.a.txs.findIdx? (fun p=>decide (p.name=s))=c.txs.findIdx? fun p=>decide (p.name=s):=by
  show(c.txs.map Tx.a).findIdx? _=_
  rw[Dr]
  rfl
 unfold fS
 rw[e]
 cases c.txs.findIdx? fun p=>decide (p.name=s)with
 |none=>rfl
 |some i=>
  show(c.txs.map Tx.a)[i]?.map _=(c.txs[i]?.map _).map _
  rw[aH]
  cases c.txs[i]? <;>rfl
theorem zx (c:Co) (i:Nat) (t:Tx):(qc c i t).a=qc c.a i t.a:=by
 unfold qc Co.a
 simp only[cT]
theorem J8 (c:Co) (s:ByteArray):(mQ c s).a=mQ c.a s:=by
 unfold mQ Co.a
 simp only[bh,eN,pE]
 rfl
def bw (c:Co) (s:ByteArray):Co×Int×Int×Int:=match fS c s with
 |none=>if c.txs.length=8 then(za,0,0,16)else(mQ c s,c.next,0,0)
 |some (i,t)=>if t.state=3∨t.state=4 then(za,0,0,12)else(qc c i (i9 t),t.pid,t.ver+1,0)
def mX (c:Co) (s:ByteArray) (ver p:Int):Co×Int:=match fS c s with
 |none=>(za,5)
 |some (i,t)=>if t.ver≠ver then(za,10)else if t.state=1∨t.state=2 then(qc c i (iJ c.clock p t),0)else(za,12)
def jp (c:Co) (s:ByteArray) (ver:Int) (b:Bool):Co×Int:=match fS c s with
 |none=>(za,5)
 |some (i,t)=>if t.ver≠ver then(za,10)else match eC (vQ b) t with
  |none=>(za,12)
  |some t'=>(qc c i t',0)
def oI (c:Co) (s:ByteArray) (p:Int):Co×Int:=match fS c s with
 |none=>(za,5)
 |some (i,t)=>if t.state=3∨t.state=4 then if p∈t.parts then(qc c i (gE p t),0)else(za,5)else(za,12)
def ig (c:Co) (n:Int):Co×Int:=if 1000<n then(za,2)else(vR c n,0)
structure oW (k:Nat) (c:Co):Prop where
 ok:gI c=true
 clock:c.clock<=1000*k
 next:c.next<=k+1
 ver: ∀ t∈c.txs,t.ver<=k
theorem oW.more {k m:Nat} {c:Co} (h:oW k c) (hm:k<=m):oW m c:=⟨h.ok,by have:=h.clock;omega,by have:=h.next;omega,fun t ht=>by have:=h.ver t ht;omega⟩
theorem DZ {α:Type} {l:List α} {i:Nat} {a x:α} (h:x∈l.set i a):x∈l∨x=a:=aC h
theorem Kg {l:List Tx} {i:Nat} {t t':Tx} (h:vP l) (hi:l[i]? =some t) (hn:t'.name=t.name) (hp:t'.pid=t.pid):vP (l.set i t'):=by
 unfold vP at h⊢
 rw[cT,hn,hp,iT (by rw[aH,hi];rfl)]
 exact h
theorem oW.set {k:Nat} {c:Co} {i:Nat} {t t':Tx} (h:oW k c) (hi:c.txs[i]? =some t) (hn:t'.name=t.name) (hp:t'.pid=t.pid) (hok:fK c.clock c.next t'=true) (hv:t'.ver<=k+1):oW (k+1) (qc c i t'):=by
 obtain⟨h1,h2,h3⟩:=f0.1 h.ok
 refine⟨f0.2 ⟨?_,fun x hx=> ?_,Kg h3 hi hn hp⟩,?_,?_,fun x hx=> ?_⟩
 simpa [qc]using h1
 rcases DZ hx with hx|rfl
 exact h2 x hx
 exact hok
 have:=h.clock;show c.clock<=_;omega
 have:=h.next;show c.next<=_;omega
 rcases DZ hx with hx|rfl
 have:=h.ver x hx;omega
 omega
theorem PX:(1:Int)<=1:=by decide
theorem Qz:(1:Int)<=2:=by decide
theorem NS:(1:Int)<=4:=by decide
theorem Qy:(2:Int)<=4:=by decide
theorem PW:(4:Int)<=4:=by decide
theorem PY:(1:Int)=1↔([]:List Int).length=0:=by decide
theorem jP {n:Int}:iH n=true↔0<=n/\n<=1073741824:=by unfold iH;simp
theorem Iz {k:Nat} {c:Co} {s:ByteArray} (h:oW k c) (hk:k<=1000) (hn:bo s=true) (h0:(bw c s).2.2.2=0):oW (k+1) (bw c s).1:=by
 have hb:=h
 obtain⟨⟨h1,h2,h3,h4,h5,h6⟩,h7,h8⟩:=f0.1 h.ok
 unfold bw at h0⊢
 cases hf:fS c s with
 |none=>
  rw[hf]at h0
  dsimp only at h0⊢
  by_cases hl:c.txs.length=8
  rw[if_pos hl]at h0;cases h0
  rw[if_neg hl]at h0⊢
  have hnx:=h.next
  have hck:=h.clock
  have hni:=uY hf
  refine⟨f0.2 ⟨⟨h1,?_,?_,h4,h5,?_⟩,fun t ht=> ?_,?_⟩,?_,?_,fun t ht=> ?_⟩
  show 1<=c.next+1;omega
  show c.next+1<=_;omega
  show((c.txs++[_]).length:Int)<=8
  rw[ax,cF];omega
  rcases aq.1 ht with ht|ht
  have:=ce.1 (h7 t ht)
  exact ce.2 ⟨this.1,this.2.1,by show t.pid<c.next+1;have:=this.2.2.1;omega,this.2.2.2⟩
  rw[ar.1 ht]
  exact ce.2 ⟨hn,h2,by show c.next<c.next+1;omega,by kernel_rfl,PX,NS,by show(0:Int)<=0;omega,by show(0:Int)<=c.clock;exact(jP.1 h1).1,.inl Z,rfl,PY⟩
  unfold vP at h8⊢
  show((c.txs++[iW s c.next]).map _).Pairwise _
  rw[bh,mb]
  refine⟨h8,by simp,fun a ha b hb=> ?_⟩
  obtain⟨t,ht,rfl⟩:=bS.1 ha
  simp only[eN,pE,ar]at hb
  subst hb
  refine⟨fun he=> ?_,fun he=> ?_⟩
  have:(c.txs.findIdx? fun p=>decide (p.name=s))=none:=by
   cases hi:c.txs.findIdx? fun p=>decide (p.name=s)with
   |none=>rfl
   |some j=>unfold fQ at hni;rw[hi]at hni;simp[lI]at hni
  rw[cZ]at this
  have:=this t ht
  simp[show t.name=s from he]at this
  have:=(ce.1 (h7 t ht)).2.2.1
  have he':t.pid=c.next:=he
  omega
  show c.clock<=_;omega
  show c.next+1<=_;omega
  rcases aq.1 ht with ht|ht
  have:=h.ver t ht;omega
  rw[ar.1 ht];show(0:Int)<=_;omega
 |some x=>
  obtain⟨i,t⟩:=x
  rw[hf]at h0
  dsimp only at h0⊢
  obtain⟨hi,ht,-⟩:=gj hf
  by_cases hs:t.state=3∨t.state=4
  rw[if_pos hs]at h0;cases h0
  rw[if_neg hs]at h0⊢
  have hm:=ab ht
  have hv:=h.ver t hm
  obtain⟨a1,a2,a3,a4,a5,a6,a7,a8,a9,a10,a11⟩:=ce.1 (h7 t hm)
  have hv0:=(jP.1 a4).1
  refine h.set ht ?_ ?_ ?_ ?_
  unfold i9;split<;>rfl
  unfold i9;split<;>rfl
  unfold i9
  split
  rename_i h2'
  exact ce.2 ⟨a1,a2,a3,jP.2 ⟨by show 0<=t.ver+1;omega,by show t.ver+1<=_;omega⟩,NS,PW,a7,a8,a9,a10,by constructor;intro h;cases h;intro h;have:=a11.2 h;omega⟩
  exact ce.2 ⟨a1,a2,a3,jP.2 ⟨by show 0<=t.ver+1;omega,by show t.ver+1<=_;omega⟩,a5,a6,a7,a8,a9,a10,a11⟩
  unfold i9;split<;>(show t.ver+1<=_;omega)
theorem Gm {l:List Int} {p:Int} (h:cV (-1) l=true) (h0:0<=p) (h3:p<4):cV (-1) (kH l p)=true/\(kH l p).length≠0:=by
 have key: ∀ (l:List Int) (a:Int),l.Pairwise (· < ·)->(∀ q∈l,a<q/\q<4)->cV a l=true:=by
  intro l
  induction l with
  |nil=>intro a _ _;rfl
  |cons x l ih=>
   intro a hp hq
   obtain⟨h1,h2⟩:=eo.1 hp
   unfold cV
   have:=hq x (az ..)
   rw[ih x h2 fun q hq'=>⟨h1 q hq',(hq q (aj _ hq')).2⟩]
   simp[this.1,this.2]
 obtain⟨hp,hq⟩:=fP h
 unfold kH
 split
 rename_i hm
 refine⟨h,fun h0=> ?_⟩
 rw[bR h0]at hm;cases hm
 rename_i hm
 refine⟨key _ _ ?_ ?_,by simp⟩
 rw[aB,mb]
 refine⟨hp.filter _,?_,?_⟩
 rw[mb]
 refine⟨by simp,hp.filter _,fun a ha b hb=> ?_⟩
 rw[ar.1 ha]
 simp only[k9,decide_eq_true_eq]at hb
 have:b≠p:=fun h=>hm (h▸hb.1)
 omega
 intro a ha b hb
 simp only[k9,decide_eq_true_eq]at ha
 rcases aq.1 hb with hb|hb
 rw[ar.1 hb];exact ha.2
 simp only[k9,decide_eq_true_eq]at hb;omega
 intro q hq'
 simp only[aq,k9,ar,decide_eq_true_eq]at hq'
 rcases hq' with(hq'|rfl)|hq'
 exact hq q hq'.1
 omega
 exact hq q hq'.1
theorem MT {ck nx p:Int} {t:Tx} (h:fK ck nx t=true) (hc:iH ck=true) (h0:0<=p) (h3:p<4):fK ck nx (iJ ck p t)=true:=by
 obtain⟨a1,a2,a3,a4,a5,a6,a7,a8,a9,a10,a11⟩:=ce.1 h
 obtain⟨b1,b2⟩:=Gm a10 h0 h3
 have hc0:=(jP.1 hc).1
 unfold iJ
 split
 exact ce.2 ⟨a1,a2,a3,a4,Qz,Qy,hc0,ff _,a9,b1,by constructor;intro h;cases h;intro h;exact absurd h b2⟩
 rename_i h1
 exact ce.2 ⟨a1,a2,a3,a4,a5,a6,a7,a8,a9,b1,by constructor;intro h;exact absurd h h1;intro h;exact absurd h b2⟩
theorem IS {k:Nat} {c:Co} {s:ByteArray} {ver p:Int} (h:oW k c) (h0:0<=p) (h3:p<4) (he:(mX c s ver p).2=0):oW (k+1) (mX c s ver p).1:=by
 obtain⟨⟨h1,-⟩,h7,-⟩:=f0.1 h.ok
 unfold mX at he⊢
 cases hf:fS c s with
 |none=>rw[hf]at he;cases he
 |some x=>
  obtain⟨i,t⟩:=x
  rw[hf]at he
  dsimp only at he⊢
  obtain⟨-,ht,-⟩:=gj hf
  split at he
  cases he
  rename_i hv
  rw[if_neg hv]
  split at he
  rename_i hs
  rw[if_pos hs]
  have hm:=ab ht
  refine h.set ht ?_ ?_ (MT (h7 t hm) h1 h0 h3) ?_
  unfold iJ;split<;>rfl
  unfold iJ;split<;>rfl
  have:=h.ver t hm
  unfold iJ;split<;>(show t.ver<=_;omega)
  cases he
theorem Mx {ck nx w:Int} {t t':Tx} (h:fK ck nx t=true) (hw:w=3∨w=4) (he:eC w t=some t'):fK ck nx t'=true/\t'.name=t.name/\t'.pid=t.pid/\t'.ver=t.ver:=by
 obtain⟨a1,a2,a3,a4,a5,a6,a7,a8,a9,a10,a11⟩:=ce.1 h
 unfold eC at he
 split at he
 injection he with he;subst he
 refine⟨ce.2 ⟨a1,a2,a3,a4,by show 1<=w;omega,by show w<=4;omega,a7,a8,a9,a10,?_⟩,rfl,rfl,rfl⟩
 constructor
 intro h;have h':w=1:=h;omega
 intro h;have:=a11.2 h;omega
 split at he
 injection he with he;subst he
 exact⟨ce.2 ⟨a1,a2,a3,a4,a5,a6,a7,a8,.inr hw,a10,a11⟩,rfl,rfl,rfl⟩
 split at he
 injection he with he;subst he
 exact⟨h,rfl,rfl,rfl⟩
 cases he
theorem I2 (b:Bool):vQ b=3∨vQ b=4:=by cases b<;>simp[vQ]
theorem II {k:Nat} {c:Co} {s:ByteArray} {ver:Int} {b:Bool} (h:oW k c) (he:(jp c s ver b).2=0):oW (k+1) (jp c s ver b).1:=by
 obtain⟨-,h7,-⟩:=f0.1 h.ok
 unfold jp at he⊢
 cases hf:fS c s with
 |none=>rw[hf]at he;cases he
 |some x=>
  obtain⟨i,t⟩:=x
  rw[hf]at he
  dsimp only at he⊢
  obtain⟨-,ht,-⟩:=gj hf
  split at he
  cases he
  rename_i hv
  rw[if_neg hv]
  have hm:=ab ht
  cases hx:eC (vQ b) t with
  |none=>rw[hx]at he;cases he
  |some t'=>
   obtain⟨b1,b2,b3,b4⟩:=Mx (h7 t hm) (I2 b) hx
   refine h.set ht b2 b3 b1 ?_
   have:=h.ver t hm;omega
theorem Aa {l:List Int} (h:cV (-1) l=true) (f:Int->Bool):cV (-1) (l.filter f)=true:=by
 have key: ∀ (l:List Int) (a:Int),l.Pairwise (· < ·)->(∀ q∈l,a<q/\q<4)->cV a l=true:=by
  intro l
  induction l with
  |nil=>intro a _ _;rfl
  |cons x l ih=>
   intro a hp hq
   obtain⟨h1,h2⟩:=eo.1 hp
   unfold cV
   have:=hq x (az ..)
   rw[ih x h2 fun q hq'=>⟨h1 q hq',(hq q (aj _ hq')).2⟩]
   simp[this.1,this.2]
 obtain⟨hp,hq⟩:=fP h
 exact key _ _ (hp.filter _) fun q hq'=>hq q ((k9.1 hq').1)
theorem J4 {ck nx p:Int} {t:Tx} (h:fK ck nx t=true) (hs:t.state=3∨t.state=4):fK ck nx (gE p t)=true/\(gE p t).name=t.name/\(gE p t).pid=t.pid/\(gE p t).ver=t.ver:=by
 obtain⟨a1,a2,a3,a4,a5,a6,a7,a8,a9,a10,a11⟩:=ce.1 h
 unfold gE
 split
 exact⟨ce.2 ⟨a1,a2,a3,a4,PX,NS,a7,a8,.inr hs,rfl,PY⟩,rfl,rfl,rfl⟩
 rename_i hl
 refine⟨ce.2 ⟨a1,a2,a3,a4,a5,a6,a7,a8,a9,Aa a10 _,?_⟩,rfl,rfl,rfl⟩
 constructor
 intro h;have h':t.state=1:=h;omega
 intro h;exact absurd h hl
theorem F7 {k:Nat} {c:Co} {s:ByteArray} {p:Int} (h:oW k c) (he:(oI c s p).2=0):oW (k+1) (oI c s p).1:=by
 obtain⟨-,h7,-⟩:=f0.1 h.ok
 unfold oI at he⊢
 cases hf:fS c s with
 |none=>rw[hf]at he;cases he
 |some x=>
  obtain⟨i,t⟩:=x
  rw[hf]at he
  dsimp only at he⊢
  obtain⟨-,ht,-⟩:=gj hf
  split at he
  rename_i hs
  rw[if_pos hs]
  split at he
  rename_i hp
  rw[if_pos hp]
  have hm:=ab ht
  obtain⟨b1,b2,b3,b4⟩:=J4 (p:=p) (h7 t hm) hs
  refine h.set ht b2 b3 b1 ?_
  have:=h.ver t hm;omega
  cases he
  cases he
theorem xM {ck ck2 nx wt:Int} {t:Tx} (h:fK ck nx t=true) (hc:ck<=ck2):fK ck2 nx (fu ck2 wt t)=true/\(fu ck2 wt t).name=t.name/\(fu ck2 wt t).pid=t.pid/\(fu ck2 wt t).ver<=t.ver+1:=by
 obtain⟨a1,a2,a3,a4,a5,a6,a7,a8,a9,a10,a11⟩:=ce.1 h
 have hv:=jP.1 a4
 unfold fu
 split
 rename_i h2
 refine⟨ce.2 ⟨a1,a2,a3,jP.2 ⟨by show 0<=t.ver+1;omega,by show t.ver+1<=_;omega⟩,NS,PW,a7,by show t.since<=ck2;omega,a9,a10,?_⟩,rfl,rfl,ff _⟩
 constructor
 intro h;cases h
 intro h;have:=a11.2 h;omega
 exact⟨ce.2 ⟨a1,a2,a3,a4,a5,a6,a7,by omega,a9,a10,a11⟩,rfl,rfl,by omega⟩
theorem ET {k:Nat} {c:Co} {n:Int} (h:oW k c) (hk:k<=1000) (hn:0<=n) (he:(ig c n).2=0):oW (k+1) (ig c n).1:=by
 obtain⟨⟨h1,h2,h3,h4,h5,h6⟩,h7,h8⟩:=f0.1 h.ok
 have hck:=h.clock
 have hc0:=(jP.1 h1).1
 unfold ig at he⊢
 split at he
 cases he
 rename_i hn1
 rw[if_neg hn1]
 unfold vR
 refine⟨f0.2 ⟨⟨jP.2 ⟨by show 0<=c.clock+n;omega,by show c.clock+n<=_;omega⟩,h2,h3,h4,h5,by simpa using h6⟩,fun t ht=> ?_,?_⟩,by show c.clock+n<=1000*((k+1:Nat):Int);omega,by have:=h.next;show c.next<=_;omega,fun t ht=> ?_⟩
 obtain⟨x,hx,rfl⟩:=bS.1 ht
 exact(xM (h7 x hx) (show c.clock<=c.clock+n by omega)).1
 unfold vP at h8⊢
 dsimp only
 rw[pF]
 rw[List.map_congr_left (g:=fun t=>(t.name,t.pid)) fun t ht=>by
  obtain⟨-,e1,e2,-⟩:=xM (ck2:=c.clock+n) (wt:=c.wait) (h7 t ht) I
  show((fu _ _ t).name,(fu _ _ t).pid)=_
  rw[e1,e2]]
 exact h8
 obtain⟨x,hx,rfl⟩:=bS.1 ht
 obtain⟨-,-,-,e3⟩:=xM (ck2:=c.clock+n) (wt:=c.wait) (h7 x hx) I
 have:=h.ver x hx
 omega
theorem oW.a {k:Nat} {c:Co} (h:oW k c):oW k c.a:=⟨by rw[<-tf];exact h.ok,h.clock,h.next,fun t ht=>by
 obtain⟨x,hx,rfl⟩:=bS.1 (show t∈c.txs.map Tx.a from ht)
 exact h.ver x hx⟩
theorem oW.of_a {k:Nat} {c:Co} (h:oW k c.a):oW k c:=⟨by rw[tf];exact h.ok,h.clock,h.next,fun t ht=>h.ver t.a (bG (f:=Tx.a) ht)⟩
theorem oW.at_ {k:Nat} {c:Co} (h:oW k c) {i:Nat} {t:Tx} (ht:c.txs[i]? =some t):fK c.clock c.next t=true:=(f0.1 h.ok).2.1 t (ab ht)
theorem DG {c:Co} {s:ByteArray} {i:Nat} {t:Tx} (h:fS c s=some (i,t)):fS c.a s=some (i,t.a):=by rw[Bf,h];rfl
theorem G3 {c:Co} {s:ByteArray} (h:fS c s=none):fS c.a s=none:=by rw[Bf,h];rfl
theorem Ma (t:Tx):i9 t.a=(i9 t).a:=by
 unfold i9
 by_cases h:t.state=2
 rw[if_pos (show t.a.state=2 from h),if_pos h];rfl
 rw[if_neg (show¬ t.a.state=2 from h),if_neg h];rfl
theorem wT (c:Co) (s:ByteArray) (k:Nat) (w:World) (h:c.rd 0 w.heap.size w) (hb:oW k c) (hk:k<=1000) (hn:bo s=true):dt aa mL [c.v,.string s] w fun v w2=> ∃ c':Co,v=.tuple #[c'.v,J (bw c.a s).2.1,J (bw c.a s).2.2.1,J (bw c.a s).2.2.2]/\c'.a=(bw c.a s).1/\uG w w2 c':=by
 have hnx:=hb.next
 have hpost:(bw c s).2.2.2=0->oW (k+1) (bw c s).1:=Iz hb hk hn
 cases hf:fS c s with
 |none=>
  have hi:=uY hf
  have ha:=G3 hf
  unfold bw at hpost⊢
  rw[ha]
  rw[hf]at hpost
  dsimp only at hpost⊢
  by_cases hl:c.txs.length=8
  rw[if_pos (show c.a.txs.length=8 by simpa [Co.a]using hl)]
  exact(Gb c s w h hb.ok hn I hl).mono fun v w2 ⟨h1,h2⟩=>⟨za,h1,rfl,pN h2⟩
  rw[if_neg (show¬ c.a.txs.length=8 by simpa [Co.a]using hl)]
  rw[if_neg hl]at hpost
  exact(JP c s w h hb.ok hn I hl I).mono fun v w2 ⟨c',Lr,Lp,h1,h2⟩=>⟨c',h1,h2.1,h2.new (by rw[<-J8,<-tf];exact(hpost Z).ok)⟩
 |some x=>
  obtain⟨i,t⟩:=x
  obtain⟨hi,ht,-⟩:=gj hf
  have ha:=DG hf
  have hm:=ab ht
  have hv0:=jP.1 (ce.1 (hb.at_ ht)).2.2.2.1
  have hv:=hb.ver t hm
  unfold bw at hpost⊢
  rw[ha]
  rw[hf]at hpost
  dsimp only at hpost⊢
  by_cases hs:t.state=3∨t.state=4
  rw[if_pos (show t.a.state=3∨t.a.state=4 from hs)]
  exact(Hk c s i t w h hb.ok hn hi ht hs).mono fun v w2 ⟨h1,h2⟩=>⟨za,h1,rfl,pN h2⟩
  rw[if_neg (show¬ (t.a.state=3∨t.a.state=4)from hs)]
  rw[if_neg hs]at hpost
  exact(Hl c s i t w h hb.ok hn hi ht (fun h=>hs (.inl h)) (fun h=>hs (.inr h)) hv0.1 I).mono fun v w2 ⟨c',Lr,Lp,h1,h2⟩=>⟨c',h1,h2.1.trans (by rw[show({c with txs:=c.txs.set i (i9 t)}:Co)=qc c i (i9 t)from rfl,zx,Ma]),h2.new (by rw[<-tf];exact(hpost Z).ok)⟩
theorem MU (ck p:Int) (t:Tx):iJ ck p t.a=(iJ ck p t).a:=by
 unfold iJ
 by_cases h:t.state=1
 rw[if_pos (show t.a.state=1 from h),if_pos h];rfl
 rw[if_neg (show¬ t.a.state=1 from h),if_neg h];rfl
theorem Gl (c:Co) (s:ByteArray) (ver p:Int) (k:Nat) (w:World) (h:c.rd 0 w.heap.size w) (hb:oW k c) (hn:bo s=true) (h0:0<=p) (h3:p<4):dt aa ov [c.v,.string s,J ver,J p] w fun v w2=> ∃ c':Co,v=.tuple #[c'.v,J (mX c.a s ver p).2]/\c'.a=(mX c.a s ver p).1/\uG w w2 c':=by
 have hpost:(mX c s ver p).2=0->oW (k+1) (mX c s ver p).1:=IS hb h0 h3
 cases hf:fS c s with
 |none=>
  have hi:=uY hf
  have ha:=G3 hf
  unfold mX
  rw[ha]
  exact(MR c s ver p w h hb.ok hn hi).mono fun v w2 ⟨h1,h2⟩=>⟨za,h1,rfl,pN h2⟩
 |some x=>
  obtain⟨i,t⟩:=x
  obtain⟨hi,ht,-⟩:=gj hf
  have ha:=DG hf
  unfold mX at hpost⊢
  rw[ha]
  rw[hf]at hpost
  dsimp only at hpost⊢
  by_cases hv:t.ver=ver
  rw[if_neg (show¬ t.a.ver≠ver from fun h=>h hv)]
  rw[if_neg (fun h=>h hv)]at hpost
  by_cases hs:t.state=1∨t.state=2
  rw[if_pos (show t.a.state=1∨t.a.state=2 from hs)]
  rw[if_pos hs]at hpost
  exact(Pz c s ver p i t w h hb.ok hn hi ht hv h0 h3 hs (ce.1 (hb.at_ ht)).2.2.2.2.2.2.2.2.2.1).mono fun v w2 ⟨c',Lr,Lp,h1,h2⟩=>⟨c',h1,h2.1.trans (by rw[show({c with txs:=c.txs.set i (iJ c.clock p t)}:Co)=qc c i (iJ c.clock p t)from rfl,zx,MU];rfl),h2.new (by rw[<-tf];exact(hpost Z).ok)⟩
  rw[if_neg (show¬ (t.a.state=1∨t.a.state=2)from hs)]
  exact(Kk c s ver p i t w h hb.ok hn hi ht hv h0 h3 (fun h=>hs (.inl h)) (fun h=>hs (.inr h))).mono fun v w2 ⟨h1,h2⟩=>⟨za,h1,rfl,pN h2⟩
  rw[if_pos (show t.a.ver≠ver from hv)]
  exact(Kl c s ver p i t w h hb.ok hn hi ht hv).mono fun v w2 ⟨h1,h2⟩=>⟨za,h1,rfl,pN h2⟩
theorem N5 (w:Int) (t:Tx):eC w t.a=(eC w t).map Tx.a:=by
 unfold eC
 by_cases h1:t.state=2
 rw[if_pos (show t.a.state=2 from h1),if_pos h1];rfl
 rw[if_neg (show¬ t.a.state=2 from h1),if_neg h1]
 by_cases h2:t.state=1/\t.done=0
 rw[if_pos (show t.a.state=1/\t.a.done=0 from h2),if_pos h2];rfl
 rw[if_neg (show¬ (t.a.state=1/\t.a.done=0)from h2),if_neg h2]
 by_cases h3:t.state=w∨(t.state=1/\t.done=w)
 rw[if_pos (show t.a.state=w∨(t.a.state=1/\t.a.done=w)from h3),if_pos h3];rfl
 rw[if_neg (show¬ (t.a.state=w∨(t.a.state=1/\t.a.done=w))from h3),if_neg h3];rfl
theorem F3 (c:Co) (s:ByteArray) (ver:Int) (b:Bool) (k:Nat) (w:World) (h:c.rd 0 w.heap.size w) (hb:oW k c) (hn:bo s=true):dt aa lY [c.v,.string s,J ver,.bool b] w fun v w2=> ∃ c':Co,v=.tuple #[c'.v,J (jp c.a s ver b).2]/\c'.a=(jp c.a s ver b).1/\uG w w2 c':=by
 have hpost:(jp c s ver b).2=0->oW (k+1) (jp c s ver b).1:=II hb
 cases hf:fS c s with
 |none=>
  have hi:=uY hf
  have ha:=G3 hf
  unfold jp
  rw[ha]
  exact(Mv c s ver b w h hb.ok hn hi).mono fun v w2 ⟨h1,h2⟩=>⟨za,h1,rfl,pN h2⟩
 |some x=>
  obtain⟨i,t⟩:=x
  obtain⟨hi,ht,-⟩:=gj hf
  have ha:=DG hf
  unfold jp at hpost⊢
  rw[ha]
  rw[hf]at hpost
  dsimp only at hpost⊢
  by_cases hv:t.ver=ver
  rw[if_neg (show¬ t.a.ver≠ver from fun h=>h hv),N5]
  rw[if_neg (fun h=>h hv)]at hpost
  have main:dt aa lY [c.v,.string s,J ver,.bool b] w fun v w2=>match eC (vQ b) t with|none=>v=.tuple #[.agg #[J 0,J 0,J 0,.slice none 0 0],J 12]/\Below w.heap.size w w2|some t'=> ∃ (c':Co) (Lr Lp:List (Nat×Obj)),v=.tuple #[c'.v,J 0]/\qC w w2 (Co.a {c with txs:=c.txs.set i t'}) c' Lr Lp:=by
   cases b
   exact J1 c s ver i t w h hb.ok hn hi ht hv
   exact Mu c s ver i t w h hb.ok hn hi ht hv
  cases hx:eC (vQ b) t with
  |none=>
   rw[hx]at main
   exact main.mono fun v w2 ⟨h1,h2⟩=>⟨za,h1,rfl,pN h2⟩
  |some t'=>
   rw[hx]at main hpost
   exact main.mono fun v w2 ⟨c',Lr,Lp,h1,h2⟩=>⟨c',h1,h2.1.trans (by rw[show({c with txs:=c.txs.set i t'}:Co)=qc c i t' from rfl,zx];rfl),h2.new (by rw[<-tf];exact(hpost Z).ok)⟩
  rw[if_pos (show t.a.ver≠ver from hv)]
  exact(J0 c s ver b i t w h hb.ok hn hi ht hv).mono fun v w2 ⟨h1,h2⟩=>⟨za,h1,rfl,pN h2⟩
theorem MB (p:Int) (t:Tx):gE p t.a=(gE p t).a:=by
 unfold gE
 by_cases h:(t.parts.filter fun q=>decide (q≠p)).length=0
 rw[if_pos (show(t.a.parts.filter fun q=>decide (q≠p)).length=0 from h),if_pos h];rfl
 rw[if_neg (show¬ (t.a.parts.filter fun q=>decide (q≠p)).length=0 from h),if_neg h];rfl
theorem J6 (c:Co) (s:ByteArray) (p:Int) (k i:Nat) (t:Tx) (w:World) (h:c.rd 0 w.heap.size w) (hb:oW k c) (hn:bo s=true) (hf:fS c.a s=some (i,t)) (h34:t.state=3∨t.state=4) (hp:p∈t.parts):dt aa xa [c.v,.string s,J p] w fun v w2=> ∃ c':Co,v=.tuple #[c'.v,J 0]/\c'.a=(oI c.a s p).1/\uG w w2 c':=by
 have hpost:(oI c s p).2=0->oW (k+1) (oI c s p).1:=F7 hb
 rw[Bf]at hf
 obtain⟨⟨j,x⟩,hg,he⟩:=iR.1 hf
 clear hf
 simp only[Prod.mk.injEq]at he
 obtain⟨rfl,rfl⟩:=he
 obtain⟨hi,ht,-⟩:=gj hg
 have ha:=DG hg
 unfold oI at hpost⊢
 rw[ha]
 rw[hg]at hpost
 dsimp only at hpost⊢
 rw[if_pos h34,if_pos hp]
 rw[if_pos (show x.state=3∨x.state=4 from h34),if_pos (show p∈x.parts from hp)]at hpost
 exact(N6 c s p i x w h hb.ok hn hi ht h34 hp (ce.1 (hb.at_ ht)).2.2.2.2.2.2.2.2.2.1).mono fun v w2 ⟨c',Lr,Lp,h1,h2⟩=>⟨c',h1,h2.1.trans (by rw[show({c with txs:=c.txs.set i (gE p x)}:Co)=qc c i (gE p x)from rfl,zx,MB]),h2.new (by rw[<-tf];exact(hpost Z).ok)⟩
theorem Mt (t:Tx):gW t.a=gW t:=rfl
theorem LG (l:List Tx) (n:Nat):ia (l.map Tx.a) n=(ia l n).map Tx.a:=by
 unfold ia
 rw[List.filter_map,show(gW∘Tx.a)=gW from funext Mt,aH]
theorem Fm (c:Co) (n:Nat) (w:World) (h:c.rd 0 w.heap.size w) (hok:gI c=true) (hn:n<=1000):dt aa wZ [c.v,J (n:Nat)] w fun v w2=>v=yO (ia c.a.txs n)/\Below w.heap.size w w2:=by
 refine(NI c n w h hok hn).mono fun v w2 ⟨h1,h2⟩=>⟨?_,h2⟩
 rw[h1,show c.a.txs=c.txs.map Tx.a from rfl,LG]
 cases ia c.txs n<;>rfl
theorem I7 (c:Co) (n:Int):(vR c n).a=vR c.a n:=by
 unfold vR Co.a
 simp only[pF]
 congr 1
 exact List.map_congr_left fun t _=>KJ _ _ t
theorem CJ (c:Co) (n:Int) (k:Nat) (w:World) (h:c.rd 0 w.heap.size w) (hb:oW k c) (hk:k<=1000) (hn:0<=n):dt aa sY [c.v,J n] w fun v w2=> ∃ c':Co,v=.tuple #[c'.v,J (ig c.a n).2]/\c'.a=(ig c.a n).1/\uG w w2 c':=by
 have hpost:(ig c n).2=0->oW (k+1) (ig c n).1:=ET hb hk hn
 have hck:=hb.clock
 unfold ig at hpost⊢
 by_cases hf:1000<n
 rw[if_pos hf]
 exact(KH c n w h hb.ok hf).mono fun v w2 ⟨h1,h2⟩=>⟨za,h1,rfl,pN h2⟩
 rw[if_neg hf]
 rw[if_neg hf]at hpost
 exact(M8 c n w h hb.ok hn I I).mono fun v w2 ⟨c',Lr,Lp,h1,h2⟩=>⟨c',h1,h2.1,h2.new (by rw[<-I7,<-tf];exact(hpost Z).ok)⟩
theorem GS (es:List cv) (A:Option Addr) (c n a most:Nat) (w:World) (hr:Rd gV 0 w.heap.size A es w) (hc:es.length<=c) (hb:es.length<=1000000) (hn:n<=es.length) (ha:es.length<a):
  dt aa yU [.slice A es.length c,J (n:Nat),J (a:Nat),J (most:Nat)] w fun v w2=>v=.tuple #[.slice none 0 0,J 0,J 2]/\Below w.heap.size w w2:=by
 refine aG xe Z Z ?_
 have H:=Hp.startRd hr
 refine W<|Zr<|G (Ws Z)<|G (Wi Z)<|G (Wi Z)<|U<|W<|Zr<|G (Ys Z)<|G (Yi Z)<|cz uw (CO es _ _ n _ (H.rd0 0 Z) hc hb hn) Z Z ?_
 rintro _ w1 ⟨st,hst,rfl,hb2⟩;replace H:=H.later hb2;clear hb2
 refine G (Yu Z)<|G (Xi Z Z)<|G (Xi Z Z)<|G (Wi Z)<|G (Wi Z)<|U<|W<|W<|Zr<|G (Yi Z)<|G (ch Z Z Z)<|U<|ZF Z<|Zk<|W<|W<|Zr<|G (Yi Z)<|G (dn Z Z I)<|G (Yb Z)<|ZG<|G (Yi Z)<|ZG<|G (Ys Z)<|ZG<|G (bj eG Z)<|ZG<|G (Hs Z Z I)<|G (N Z Z)<|G (Yb Z)<|ZN<|ZN<|G (Kt Z Z)<|G (Yb Z)<|ZN<|ZN<|G (Kt Z Z)<|U<|ZT Z<|W ?_
 refine Zr<|G (Ws Z)<|G (Wi Z)<|G (Wi Z)<|U<|Zt ?_
 exact Hy Z Z Z Z ⟨rfl,H.below⟩
theorem Fd (p:Pa) (a most l:Nat) (r:f5) (w:World) (h:p.rd 0 w.heap.size w) (hok:p.a.ok) (hld:p.leader=l) (hr:p.reps[l]? =some r) (ha:r.es.length<a):dt aa ug [p.v,J (a:Nat),J (most:Nat)] w fun v w2=>v=.tuple #[.slice none 0 0,J 0,J 2]/\Below w.heap.size w w2:=by
 refine aG s9 Z Z ?_
 obtain⟨hn1,hn2,hil,hkl,hf1,hf2,he0,he1,hl0,hl1,hb0,hb1,hsm⟩:=Pa.facts hok
 have hkn:=hok.known
 have hiC:=h.iC
 have hkC:=h.kC
 have hrC:=h.rC
 have hfew:=h.few
 have H:=Hp.startPa h
 obtain⟨ep,ld,isr,iA,iC,kn,kA,kC,reps,rA,rC,fw,bs⟩:=p
 simp only[Pa.a]at hkn
 dsimp only at H hn1 hn2 hil hkl hf1 hf2 he0 he1 hl0 hl1 hb0 hb1 hsm hiC hkC hrC hfew
 dsimp only at hld hr
 have hll:=(cu hr).1
 show CW _ _ _ _ (args [.agg #[J (ep),J (ld),.slice iA isr.length iC,.slice kA kn.length kC,.slice rA reps.length rC,J (fw),J (bs)],J (((a:Nat):Int)),J (((most:Nat):Int))]) w
 refine W<|Zr<|gM H Z Z fun w1 b3 H=>G (Ws Z)<|G (Wi Z)<|G (Wi Z)<|U<|W<|W<|Zr<|G (Zw bk H 0 Z Z Z)<|cz ls (sa ⟨ep,ld,isr,iA,iC,kn,kA,kC,reps,rA,rC,fw,bs⟩ _ (Hp.pa H 0 Z) hok) Z Z ?_
 rintro _ w2 ⟨rfl,hb⟩;replace H:=H.later hb;clear hb
 refine G (Wi Z)<|U<|W<|Zr<|G (Yi Z)<|G (ch Z Z Z)<|U<|ZF Z<|Zk<|W<|W<|Zr<|G (Zf en Z)<|G (Zd al H 0 Z Z Z)<|G (dn Z Z I)<|U<|ZF Z<|Zk<|W<|Zr<|G (Zf dP Z)<|G (Zd cJ H 0 Z Z Z)<|G (Zf en Z)<|G (Zd al H 0 Z Z Z)<|px (k:=l) H 3 Z bQ Z (congrArg (Value.int .i64) hld) I I Z fun bq3 o3 x3 e3=> ?_
 obtain rfl:x3=r:=by have:=e3.at_;rw[hr]at this;exact(aT this).symm
 obtain⟨n,hnn⟩: ∃ n:Nat,x3.high=n:=⟨x3.high.toNat,by have:=(Pa.repOk hok (i:=l) hr).2.1;omega⟩
 refine G (jL (xs:=f5.c x3) oR Z Z e3.cl)<|fg H rZ Z fun w4 b10 H=>bC H 0 (#[.bool (x3.up),.slice x3.A ((bH x3.es).length) x3.cap,J (((iK x3.es x3.s:Nat):Int)),J (x3.high)]) oc Z Z Z Z Z N N fun w5 H=>U<|W<|Zr<|G (Zf dT Z)<|G (j4 1 [.slice x3.A ((bH x3.es).length) x3.cap,J (((iK x3.es x3.s:Nat):Int))] fA Z Z (H.ent (i:=0) Z) Z)<|cz gF (ij x3.A x3.cap x3.es x3.s _ (Pa.log (Hp.pa H 0 Z) hok (i:=l) hr)) Z Z ?_
 have hloen:=H.size
 rintro _ w6 ⟨Aen,cen,rfl,hren,hcen,hben⟩;replace H:=H.learnRd hben hren;clear hren hben
 refine G (Yu Z)<|G (Xs Z Z)<|G (Xi Z Z)<|G (Xi Z Z)<|G (Ws Z)<|G (Wi Z)<|G (Wi Z)<|U<|W<|Zr<|G (Ys Z)<|G (Zf eR Z)<|G (Zd al H 0 Z Z Z)<|G (Yi Z)<|G (Yi Z)<|cz xq ((by have hA:=GS x3.es Aen cen n a most _ (H.rd0 0 Z) hcen (by have:=(Pa.repOk hok (i:=l) hr).1.len;omega) (by have:=(Pa.repOk hok (i:=l) hr).2.2;omega) ha;rw[<-hnn]at hA;exact hA)) Z Z ?_
 rintro _ w7 ⟨rfl,hb⟩;replace H:=H.later hb;clear hb
 refine G (Xs Z Z)<|G (Xi Z Z)<|G (Xi Z Z)<|G (Ws Z)<|G (Wi Z)<|G (Wi Z)<|U<|Zt ?_
 exact Hy Z Z Z Z ⟨rfl,H.below⟩

/-- an act of a script -/
structure Act where
 kind:Int
 name:ByteArray
 part:Int
 n:Int
 m:Int
 text:ByteArray
 lost:Int
def Act.c (a:Act):List Value:=[J a.kind,.string a.name,J a.part,J a.n,J a.m,.string a.text,J a.lost]
abbrev Act.v (a:Act):Value:=.agg a.c.toArray
def qz:fq Act:=⟨Act.c,7,fun _=>rfl,by decide,fun a u hu=>by
 simp only[Act.c,av,bu,or_false]at hu
 rcases hu with h|h|h|h|h|h|h<;>subst h<;>rfl⟩
structure An where
 code:Int
 n:Int
 texts:List ByteArray
structure Sn where
 name:ByteArray
 pid:Int
 ver:Int
 inn:Bool
 seqs:List Int
 sA:Option Addr
 sC:Nat
 last:List cv
 lA:Option Addr
 lC:Nat
def Sn.c (s:Sn):List Value:=[.string s.name,J s.pid,J s.ver,.bool s.inn,.slice s.sA s.seqs.length s.sC,.slice s.lA s.last.length s.lC]
def zV:fq Sn:=⟨Sn.c,6,fun _=>rfl,by decide,fun a u hu=>by
 simp only[Sn.c,av,bu,or_false]at hu
 rcases hu with h|h|h|h|h|h<;>subst h<;>rfl⟩
def Sn.a (s:Sn):Sn:={s with sA:=none,sC:=0,lA:=none,lC:=0}
structure Pq where
 p:Pa
 lo:Nat
 hi:Nat
def CV:fq Pq:=⟨fun q=>q.p.c,7,fun _=>rfl,by decide,fun a u hu=>by
 simp only[Pa.c,av,bu,or_false]at hu
 rcases hu with h|h|h|h|h|h|h<;>subst h<;>rfl⟩
structure Bk where
 ps:List Pq
 pA:Option Addr
 pC:Nat
 co:Co
 clo:Nat
 chi:Nat
 gr:Gr
 glo:Nat
 ghi:Nat
 sns:List Sn
 snA:Option Addr
 snC:Nat
def Bk.c (b:Bk):List Value:=[.slice b.pA b.ps.length b.pC,J b.co.clock,J b.co.next,J b.co.wait,.slice b.co.A b.co.txs.length b.co.cap,J b.gr.clock,J b.gr.wait,J b.gr.gen,.slice b.gr.mA b.gr.ms.length b.gr.mC,.slice b.gr.oA b.gr.os.length b.gr.oC,.slice b.snA b.sns.length b.snC]
structure Wa where
 ps:List fX
 co:Co
 gr:Gr
 sns:List Sn
def Bk.a (b:Bk):Wa:=⟨b.ps.map fun q=>q.p.a,b.co.a,b.gr.a,b.sns.map Sn.a⟩
def qB:List Sn->List (Nat×Obj)->Prop
 |[],L=>L=[]
 |s::l,L=> ∃ gq uq gl ul L',s.sA=some ⟨gq,0,none⟩/\s.lA=some ⟨gl,0,none⟩/\d3 bN s.seqs s.sC uq/\d3 gV s.last s.lC ul/\L=(gq,.cells uq da (0,0))::(gl,.cells ul dz (0,0))::L'/\qB l L'
theorem qB.at_: ∀ {l:List Sn} {L:List (Nat×Obj)} {i:Nat} {s:Sn},qB l L->l[i]? =some s-> ∃ gq uq gl ul La Lb,s.sA=some ⟨gq,0,none⟩/\s.lA=some ⟨gl,0,none⟩/\d3 bN s.seqs s.sC uq/\d3 gV s.last s.lC ul/\L=La++((gq,.cells uq da (0,0))::(gl,.cells ul dz (0,0))::Lb)/\ ∀ (s':Sn) (gq':Nat) (uq':Array Value) (gl':Nat) (ul':Array Value),s'.sA=some ⟨gq',0,none⟩->s'.lA=some ⟨gl',0,none⟩->d3 bN s'.seqs s'.sC uq'->d3 gV s'.last s'.lC ul'->qB (l.set i s') (La++((gq',.cells uq' da (0,0))::(gl',.cells ul' dz (0,0))::Lb))
 |[],_,_,_,_,h=>by simp at h
 |x::l,L,0,s,h,hi=>by
  obtain⟨gq,uq,gl,ul,L',h1,h2,h3,h4,rfl,h6⟩:=h
  have:x=s:=by simpa using hi
  subst this
  exact⟨gq,uq,gl,ul,[],L',h1,h2,h3,h4,rfl,fun s' gq' uq' gl' ul' a1 a2 a3 a4=>⟨gq',uq',gl',ul',L',a1,a2,a3,a4,rfl,h6⟩⟩
 |x::l,L,i+1,s,h,hi=>by
  obtain⟨gq,uq,gl,ul,L',h1,h2,h3,h4,rfl,h6⟩:=h
  obtain⟨kq,vq,kl,vl,La,Lb,b1,b2,b3,b4,rfl,b6⟩:=qB.at_ (i:=i) h6 (by simpa using hi)
  exact⟨kq,vq,kl,vl,(gq,.cells uq da (0,0))::(gl,.cells ul dz (0,0))::La,Lb,b1,b2,b3,b4,rfl,fun s' gq' uq' gl' ul' a1 a2 a3 a4=>⟨gq,uq,gl,ul,_,h1,h2,h3,h4,rfl,b6 s' gq' uq' gl' ul' a1 a2 a3 a4⟩⟩
theorem qB.snoc: ∀ {l:List Sn} {L:List (Nat×Obj)} {s:Sn} {gq gl:Nat} {uq ul:Array Value},qB l L->s.sA=some ⟨gq,0,none⟩->s.lA=some ⟨gl,0,none⟩->d3 bN s.seqs s.sC uq->d3 gV s.last s.lC ul->qB (l++[s]) (L++[(gq,.cells uq da (0,0)),(gl,.cells ul dz (0,0))])
 |[],L,s,gq,gl,uq,ul,h,a1,a2,a3,a4=>by
  have:L=[]:=h
  subst this
  exact⟨gq,uq,gl,ul,[],a1,a2,a3,a4,rfl,rfl⟩
 |x::l,L,s,gq,gl,uq,ul,h,a1,a2,a3,a4=>by
  obtain⟨kq,vq,kl,vl,L',h1,h2,h3,h4,rfl,h6⟩:=h
  exact⟨kq,vq,kl,vl,_,h1,h2,h3,h4,rfl,h6.snoc a1 a2 a3 a4⟩
def xE (w0:World) (lo hi:Nat) (c:Co):cf:=⟨lo,hi,fun w=>w0.heap.size<=lo/\c.rd lo hi w,fun _ _ hk h=>⟨h.1,h.2.st hk⟩⟩
def Kr (w0:World) (lo hi:Nat) (g:Gr):cf:=⟨lo,hi,fun w=>w0.heap.size<=lo/\g.rd lo hi w,fun _ _ hk h=>⟨h.1,h.2.st hk⟩⟩
def wA (w0:World) (lo hi:Nat) (p:Pa):cf:=⟨lo,hi,fun w=>w0.heap.size<=lo/\p.rd lo hi w,fun _ _ hk h=>⟨h.1,h.2.st hk⟩⟩
structure Bw (w0 w:World) (bb:Nat) (b:Bk) (gP:Nat) (uP:Array Value) (Ls Lo K:List (Nat×Obj)) (F:List cf):Prop where
 pA:b.pA=some ⟨gP,0,none⟩
 row:d3 CV b.ps b.pC uP
 sn:gH zV (.slice b.snA b.sns.length b.snC) fF b.sns Ls
 own:qB b.sns Lo
 co:xE w0 b.clo b.chi b.co∈F
 gr:Kr w0 b.glo b.ghi b.gr∈F
 ps: ∀ q∈b.ps,wA w0 q.lo q.hi q.p∈F
 H:Hp w0 w ((bb,.cells b.c.toArray bF (0,0))::(gP,.cells uP bK (0,0))::(Ls++(Lo++K))) F
def xF (w0 w:World) (bb:Nat) (b:Bk) (K:List (Nat×Obj)) (F:List cf):Prop:= ∃ gP uP Ls Lo F',Bw w0 w bb b gP uP Ls Lo K F'/\ ∀ f∈F,f∈F'
theorem Hp.coM {w1 w0 w:World} {L:List (Nat×Obj)} {F:List cf} {lo hi:Nat} {c:Co} (H:Hp w0 w L F) (h:xE w1 lo hi c∈F):c.rd 0 w.heap.size w:=by
 obtain⟨h1,h2,-⟩:=H.facts _ h
 exact Co.rd.mono h1.2 (bx _) h2
theorem Hp.grM {w1 w0 w:World} {L:List (Nat×Obj)} {F:List cf} {lo hi:Nat} {g:Gr} (H:Hp w0 w L F) (h:Kr w1 lo hi g∈F):g.rd 0 w.heap.size w:=by
 obtain⟨h1,h2,-⟩:=H.facts _ h
 exact Gr.rd.mono h1.2 (bx _) h2
theorem Hp.paM {w1 w0 w:World} {L:List (Nat×Obj)} {F:List cf} {lo hi:Nat} {p:Pa} (H:Hp w0 w L F) (h:wA w1 lo hi p∈F):p.rd 0 w.heap.size w:=by
 obtain⟨h1,h2,-⟩:=H.facts _ h
 exact Pa.rd.mono h1.2 (bx _) h2
def oY (x:An) (v:Value) (w:World):Prop:= ∃ A c,v=.agg #[J x.code,J x.n,.slice A x.texts.length c]/\x.texts.length<=c/\Rd my 0 w.heap.size A x.texts w
theorem oY.plain (e n:Int) (w:World):oY ⟨e,n,[]⟩ (.agg #[J e,J n,.slice none 0 0]) w:=⟨none,0,rfl,ao _,Rd.nil⟩
def lF (w:Wa) (e:Int):Wa×An:=(w,⟨e,0,[]⟩)
def fJ (a:Act) (x:An):An:=if a.lost=0 then x else⟨14,0,[]⟩
def eK (l:List Sn) (s:ByteArray):Option Nat:=l.findIdx? fun x=>decide (x.name=s)
def jJ:cv:=⟨0,0,0,0,0,false,⟨#[]⟩⟩
def qT (s:ByteArray) (pid ver:Int) (np:Nat):Sn:=⟨s,pid,ver,false,ap np 0,none,0,ap np jJ,none,0⟩
def vt (l:List Sn) (s:Sn):List Sn:=match eK l s.name with
 |none=>l++[s]
 |some i=>l.set i s
def mI (w:Wa) (a:Act):Wa×An:=if(bw w.co a.name).2.2.2=0 then({w with co:=(bw w.co a.name).1,sns:=vt w.sns (qT a.name (bw w.co a.name).2.1 (bw w.co a.name).2.2.1 w.ps.length)},⟨0,(bw w.co a.name).2.2.1,[]⟩)else lF w (bw w.co a.name).2.2.2
def kG (w:Wa) (a:Act):Wa×An:=match (eK w.sns a.name).bind fun i=>w.sns[i]?.map fun s=>(i,s)with
 |none=>lF w 5
 |some (i,s)=>if s.inn then lF w 6 else({w with sns:=w.sns.set i {s with inn:=true}},⟨0,0,[]⟩)
def lG (w:Wa) (n:Nat) (x:cv):Wa×An:=match w.ps[n]? with
 |none=>lF w 5
 |some p=>if(ek p x).2.2=0 then({w with ps:=w.ps.set n (ek p x).1},⟨0,(ek p x).2.1,[]⟩)else lF w (ek p x).2.2
def nV (w:Wa) (s:Sn) (n:Nat) (x:cv):Co×Int:=if x.txn then mX w.co s.name x.ver n else(w.co,0)
def dL (w:Wa) (s:Sn) (n:Nat):Wa×An:=match s.last[n]? with
 |none=>lF w 5
 |some x=>if(nV w s n x).2=0 then lG {w with co:=(nV w s n x).1} n x else lF w (nV w s n x).2
def eF (s:Sn) (n:Nat) (t:ByteArray):Sn:={s with last:=s.last.set n ⟨0,s.pid,s.ver,s.seqs.getD n 0,1,s.inn,t⟩,seqs:=s.seqs.set n (s.seqs.getD n 0+1)}
def gY (w:Wa) (a:Act) (again:Bool):Wa×An:=match (eK w.sns a.name).bind fun i=>w.sns[i]?.map fun s=>(i,s)with
 |none=>lF w 5
 |some (i,s)=>if again=true/\(s.last.getD a.part.toNat jJ).kind=0 then lF w 15 else
  let s1:=if again then s else eF s a.part.toNat a.text
  let w1:={w with sns:=w.sns.set i s1}
  if a.lost=1 then lF w1 14 else((dL w1 s1 a.part.toNat).1,fJ a (dL w1 s1 a.part.toNat).2)
def tc (s:Sn):Sn:={s with inn:=false,last:=s.last.map fun e=>if e.txn then jJ else e}
def jC (w:Wa) (a:Act):Wa×An:=match (eK w.sns a.name).bind fun i=>w.sns[i]?.map fun s=>(i,s)with
 |none=>lF w 5
 |some (i,s)=>if s.inn=false then lF w 12 else if a.lost=1 then lF w 14 else
  if(jp w.co s.name s.ver (decide (a.n=1))).2=0 then({w with co:=(jp w.co s.name s.ver (decide (a.n=1))).1,sns:=if a.lost=0 then w.sns.set i (tc s)else w.sns},fJ a ⟨0,0,[]⟩)else(w,fJ a ⟨(jp w.co s.name s.ver (decide (a.n=1))).2,0,[]⟩)
def df (t:Tx):cv:=⟨0,t.pid,t.ver,0,if t.state=4 then 3 else 2,true,⟨#[]⟩⟩
def nh (w:Wa) (a:Act):Wa×An:=match ia w.co.txs a.n.toNat with
 |none=>lF w 15
 |some t=>if(lG w (t.parts.headD 0).toNat (df t)).2.code=0 then({(lG w (t.parts.headD 0).toNat (df t)).1 with co:=(oI w.co t.name (t.parts.headD 0)).1},(lG w (t.parts.headD 0).toNat (df t)).2)else lG w (t.parts.headD 0).toNat (df t)
def wJ (w:Wa) (a:Act):Wa×An:=({w with co:=(ig w.co a.n).1,gr:=qb w.gr a.n w.ps.length},⟨0,(ig w.co a.n).1.clock,[]⟩)
def jd (p:fX) (a:Act):fX×Int×Int:=
 if a.kind=8 then gk p a.n.toNat else if a.kind=9 then((jm p a.n.toNat).1,0,(jm p a.n.toNat).2)else((fk p a.n.toNat).1,0,(fk p a.n.toNat).2)
def mD (w:Wa) (a:Act):Wa×An:=match w.ps[a.part.toNat]? with
 |none=>lF w 5
 |some p=>if(jd p a).2.2=0 then({w with ps:=w.ps.set a.part.toNat (jd p a).1},⟨0,(jd p a).2.1,[]⟩)else lF w (jd p a).2.2
inductive Dn (p:fX) (a most:Nat):An->Prop
 |none:p.leader<0->Dn p a most ⟨8,0,[]⟩
 |range (l:Nat) (r:RA):p.leader=l->p.reps[l]? =some r->r.es.length<a->Dn p a most ⟨2,0,[]⟩
 |ok (l:Nat) (r:RA) (st:Nat) (out:List ByteArray) (b:Nat):p.leader=l->p.reps[l]? =some r->a<=r.es.length->ru (r.es.take r.high.toNat) st->y4 r.es r.high.toNat st a most out b->Dn p a most ⟨0,(b:Nat),out⟩
inductive re (w:Wa) (a:Act):An->Prop
 |no:(eP w.gr a.name a.part).2≠0->re w a ⟨(eP w.gr a.name a.part).2,0,[]⟩
 |yes (p:fX) (x:An):(eP w.gr a.name a.part).2=0->w.ps[a.part.toNat]? =some p->Dn p (eP w.gr a.name a.part).1.toNat a.n.toNat x->re w a x
def G7 (w:Wa) (a:Act):Gr×Int:=if a.kind=16 then tz w.gr a.name w.ps.length else if a.kind=18 then xy w.gr a.name a.n else sM w.gr a.name a.n a.part a.m
def Ar (w:Wa) (a:Act):Wa×An:=if(G7 w a).2=0 then({w with gr:=(G7 w a).1},⟨0,(G7 w a).1.gen,[]⟩)else lF w (G7 w a).2
theorem GI {l:List Sn} {s:ByteArray} {i:Nat} (h:eK l s=some i): ∃ x,l[i]? =some x/\x.name=s:=by
 obtain⟨hl,h1,-⟩:=aP.1 h
 exact⟨_,ai hl,by simpa using h1⟩
theorem KX {l:List Sn} {s:ByteArray} {i:Nat} {x:Sn} (hx:l[i]? =some x) (hn:x.name=s) (hno: ∀ y∈l.take i,y.name≠s):eK l s=some i:=by
 unfold eK
 obtain⟨hl,rfl⟩:=cu hx
 rw[aP]
 refine⟨hl,by simpa using hn,fun j hj=> ?_⟩
 have:=hno l[j] (List.mem_take_iff_getElem.2 ⟨j,by omega,rfl⟩)
 simpa using this
theorem GJ {l:List Sn} {s:ByteArray} (hno: ∀ y∈l,y.name≠s):eK l s=none:=by
 unfold eK
 rw[cZ]
 intro x hx
 simpa using hno x hx
def PP (g:Nat):Option Nat->Value
 |none=> .pointer none
 |some i=> .pointer (some ⟨g,i*zV.sz,none⟩)
theorem dQ (e:Int) (w:World):dt aa yf [J e] w fun v w2=>v=.agg #[J e,J 0,.slice none 0 0]/\Below w.heap.size w w2:=by
 refine aG xi Z Z ?_
 have H:=Hp.start w
 refine W<|Zr<|fg H du Z fun w1 b2 H=>U<|W<|Zr<|G (Yi Z)<|G (bE (cs:= #[J (e),J (0),.slice none 0 0]) iN du N)<|bC H 0 (#[J (e),J (0),.slice none 0 0]) aN Z Z Z Z Z N N fun w2 H=>U<|Zt ?_
 exact eQ (cs0:= #[J e,J 0,.slice none 0 0]) Z aK Z (H.ent (i:=0) Z) Z ⟨rfl,H.below⟩
theorem DB (a:Act) (c n:Int) (A:Option Addr) (l k:Nat) (w:World):dt aa vw [a.v,.agg #[J c,J n,.slice A l k]] w fun v w2=>v=(if a.lost=0 then .agg #[J c,J n,.slice A l k]else .agg #[J 14,J 0,.slice none 0 0])/\Below w.heap.size w w2:=by
 refine aG Bb Z Z ?_
 have H:=Hp.start w
 show CW _ _ _ _ (args [.agg #[J (a.kind),.string (a.name),J (a.part),J (a.n),J (a.m),.string (a.text),J (a.lost)],.agg #[J c,J n,.slice A l k]]) w
 refine W<|Zr<|gM H Z Z fun w1 b2 H=>gM H Z Z fun w2 b3 H=>fg H du Z fun w3 b4 H=>U<|W<|W<|Zr<|G (Zf kz Z)<|G (Zd al H 2 Z Z Z) ?_
 refine rq (je Z Z) Z Z Z (fun h7=> ?_) (fun h7=> ?_)
 refine U<|ZT Z<|W<|Zr<|cz bJ (dQ 14 _) Z Z ?_
 rintro _ w4 ⟨rfl,hb⟩;replace H:=H.later hb;clear hb
 refine bC H 0 (#[J (14),J (0),.slice none 0 0]) aN Z Z Z Z Z N N fun w5 H=>U<|Zt ?_
 exact eQ (cs0:= #[J 14,J 0,.slice none 0 0]) Z aK Z (H.ent (i:=0) Z) Z ⟨(if_neg h7).symm,H.below⟩
 refine U<|ZF Z<|Zk<|W<|Zr<|G (Zw aK H 1 Z Z Z)<|bC H 0 (#[J (c),J (n),.slice A l k]) aN Z Z Z Z Z N N fun w6 H=>U<|Zt ?_
 exact eQ (cs0:= #[J c,J n,.slice A l k]) Z aK Z (H.ent (i:=0) Z) Z ⟨(if_pos (by simpa using h7)).symm,H.below⟩
theorem oh (bb:Nat) (b:Bk) (n:Int) (w:World) (hb:w.heap[bb]? =some (.cells b.c.toArray bF (0,0))):dt aa tQ [.pointer (Qd bb),J n] w fun v w2=>v=.bool (decide (0<=n/\n<(b.ps.length:Int)))/\Below w.heap.size w w2:=by
 refine aG ta Z Z ?_
 have H:=Hp.start w
 have hbl:=bU hb
 refine W<|Zr<|G (Wb Z)<|U<|W<|Zr<|G (Yi Z) ?_
 refine dq (kk Z Z) Z Z Z (fun h6=> ?_) (fun h6=> ?_)
 refine G (Yb Z)<|ZG<|G (Yi Z)<|ZG<|G (Yp Z)<|ZG<|G (aI Z)<|ZG<|G (Zf aS Z)<|ZG<|G (Zf dx Z)<|ZG<|G (bf dZ Z ((H.below.cell (p:=⟨bb,_,none⟩) hbl).trans (aJ (j:=0) hb Z)))<|ZG<|G (bj lW Z)<|ZG ?_
 refine dq (cL Z Z) Z Z Z (fun h15=> ?_) (fun h15=> ?_)
 refine G (Kt Z Z)<|G (Wb Z)<|U<|Zt ?_
 exact cn (v:=.bool true) Z Z ⟨by congr 1;simp only[Bool.true_eq,Bool.false_eq,decide_eq_true_eq,decide_eq_false_iff_not];omega,H.below⟩
 refine G (Kt Z Z)<|G (Wb Z)<|U<|Zt ?_
 exact cn (v:=.bool false) Z Z ⟨by congr 1;simp only[Bool.true_eq,Bool.false_eq,decide_eq_true_eq,decide_eq_false_iff_not];omega,H.below⟩
 refine G (Yb Z)<|ZN<|ZN<|ZN<|ZN<|ZN<|ZN<|ZN<|ZN<|G (N Z Z)<|G (Wb Z)<|U<|Zt ?_
 exact cn (v:=.bool false) Z Z ⟨by congr 1;simp only[Bool.true_eq,Bool.false_eq,decide_eq_true_eq,decide_eq_false_iff_not];omega,H.below⟩
theorem GN (bb:Nat) (b:Bk) (s:ByteArray) (w:World) (hb:w.heap[bb]? =some (.cells b.c.toArray bF (0,0))) (h0:b.sns=[]):dt aa jA [.pointer (Qd bb),.string s] w fun v w2=>v=.pointer none/\Below w.heap.size w w2:=by
 refine aG l5 Z Z ?_
 have H:=Hp.start w
 have hbl:=bU hb
 have hl0:b.sns.length=0:=by rw[h0];rfl
 refine W<|Zr<|G (Wp Z)<|U<|W<|W<|Zr<|G (Yp Z)<|G (aI Z)<|G (Zf aS Z)<|G (Zf kr Z)<|G (bf ke Z ((H.below.cell (p:=⟨bb,_,none⟩) hbl).trans (aJ (j:=10) hb Z)))<|G (bj ud Z)<|G (Yi Z)<|U<|Zb ?_
 refine bW (τ:=Unit) [4,5,12,13,14,15,16,17,18,19,20,21,22,23,24,25,26,27,28,29,30,31,32,33] (fun _=>[(12,J 0)]) (fun _ w'=>Hp w w' [] []) (fun _=>0) () H (dO Z) ?_
 rintro _ ρ1 w1 H
 show CW _ _ _ _ (dH (gT _ _ ρ1) [(12,J 0)]) w1
 refine W<|Zr<|G (dn Z Z I)<|U<|W<|ZF Z<|Zx<|W<|Zr<|G (Wp Z)<|U<|Zt ?_
 exact cn (v:=.pointer none) Z Z ⟨rfl,H.below⟩
theorem Je (bb:Nat) (b:Bk) (s:ByteArray) (g:Nat) (u:Array Value) (w:World) (hb:w.heap[bb]? =some (.cells b.c.toArray bF (0,0))) (hA:b.snA=some ⟨g,0,none⟩) (row:d3 zV b.sns b.snC u) (hg:w.heap[g]? =some (.cells u fF (0,0))) (hl:b.sns.length<=1000000):dt aa jA [.pointer (Qd bb),.string s] w fun v w2=>v=PP g (eK b.sns s)/\Below w.heap.size w w2:=by
 refine aG l5 Z Z ?_
 have H:=Hp.start w
 have hbl:=bU hb
 have hgl:=bU hg
 obtain⟨ps,pA,pC,co,clo,chi,gr,glo,ghi,sns,snA,snC⟩:=b
 dsimp only at hA row hl
 subst hA
 replace hb:w.heap[bb]? =some (.cells #[.slice pA ps.length pC,J (co.clock),J (co.next),J (co.wait),.slice co.A co.txs.length co.cap,J (gr.clock),J (gr.wait),J (gr.gen),.slice gr.mA gr.ms.length gr.mC,.slice gr.oA gr.os.length gr.oC,.slice (Qd g) sns.length snC] bF (0,0)):=hb
 refine W<|Zr<|G (Wp Z)<|U<|W<|W<|Zr<|G (Yp Z)<|G (aI Z)<|G (Zf aS Z)<|G (Zf kr Z)<|G (bf ke Z ((H.below.cell (p:=⟨bb,_,none⟩) hbl).trans (aJ (j:=10) hb Z)))<|G (bj ud Z)<|G (Yi Z)<|U<|Zb ?_
 refine bW (τ:=Nat) [4,5,12,13,14,15,16,17,18,19,20,21,22,23,24,25,26,27,28,29,30,31,32,33] (fun i=>[(12,J (i:Nat))]) (fun i w'=>i<=sns.length/\(∀ y∈sns.take i,y.name≠s)/\Hp w w' [] []) (fun i=>sns.length-i) 0 ⟨by omega,by simp,H⟩ (dO Z) ?_
 rintro i ρ1 w1 ⟨hi,hno,H⟩
 show CW _ _ _ _ (dH (gT _ _ ρ1) [(12,J (i:Nat))]) w1
 refine W<|Zr ?_
 refine dq (cL Z Z) Z Z Z (fun h13=> ?_) (fun h13=> ?_)
 refine U<|W<|ZT Z<|Zk<|W<|Zb<|W ?_
 obtain⟨x,hx⟩: ∃ x,sns[i]? =some x:=⟨_,ai I⟩
 refine Zr<|G (Yi Z)<|G (Wi Z)<|U<|W<|Zr<|G (Yp Z)<|G (aI Z)<|G (Zf aS Z)<|G (Zf kr Z)<|G (bf ke Z ((H.below.cell (p:=⟨bb,_,none⟩) hbl).trans (aJ (j:=10) hb Z)))<|G (Yi Z)<|G (cQ sO Z Z I)<|G (Zf oE Z)<|G (bX aZ row hx 0 Z ((H.below.block _ hgl).trans hg) Z)<|G (Yt Z) ?_
 refine dq (vV Z Z) Z Z Z (fun h25=> ?_) (fun h25=> ?_)
 refine U<|ZT Z<|W<|Zr<|G (Yp Z)<|G (aI Z)<|G (Zf aS Z)<|G (Zf kr Z)<|G (bf ke Z ((H.below.cell (p:=⟨bb,_,none⟩) hbl).trans (aJ (j:=10) hb Z)))<|G (Yi Z)<|G (cQ sO Z Z I)<|G (Wp Z)<|U<|Zt ?_
 exact cn (v:=.pointer (some ⟨g,i*zV.sz,none⟩)) Z Z ⟨by dsimp only;rw[KX hx h25 hno];rfl,H.below⟩
 refine U<|ZF Z<|Zk<|Zr<|G (bn Z Z I I)<|G (Yi Z)<|U ?_
 refine⟨i+1,⟨by omega,fun y hy=> ?_,H⟩,dO Z,Qg,by show sns.length- (i+1)<sns.length-i;omega⟩
 rw[dY hx]at hy
 rcases aq.1 hy with hy|hy
 exact hno y hy
 rw[ar.1 hy];exact h25
 refine U<|W<|ZF Z<|Zx<|W<|Zr<|G (Wp Z)<|U<|Zt ?_
 obtain rfl:i=sns.length:=by omega
 rw[bM]at hno
 exact cn (v:=.pointer none) Z Z ⟨by dsimp only;rw[GJ hno];rfl,H.below⟩
def Qb:Option Addr->Nat
 |some A=>A.block
 |none=>0
theorem jx (bb:Nat) (b:Bk) (s:ByteArray) (Ls:List (Nat×Obj)) (w:World) (hb:w.heap[bb]? =some (.cells b.c.toArray bF (0,0))) (hsn:gH zV (.slice b.snA b.sns.length b.snC) fF b.sns Ls) (hLs: ∀ q∈Ls,w.heap[q.1]? =some q.2) (hl:b.sns.length<=1000000):dt aa jA [.pointer (Qd bb),.string s] w fun v w2=>v=PP (Qb b.snA) (eK b.sns s)/\Below w.heap.size w w2:=by
 by_cases h0:b.sns=[]
 refine(GN bb b s w hb h0).mono fun v w2 ⟨h1,h2⟩=>⟨?_,h2⟩
 rw[h1,h0];rfl
 obtain⟨g,u,hA,hL,row⟩:=hsn.row (List.length_pos_iff.2 h0)
 subst hL
 refine(Je bb b s g u w hb hA row (hLs _ (ar.2 Z)) hl).mono fun v w2 ⟨h1,h2⟩=>⟨?_,h2⟩
 rw[h1,hA];rfl
theorem C9 (X:List (Nat×Obj)) (a b:Nat×Obj) (La Lb K:List (Nat×Obj)):(X++(a::b::(La++(Lb++K)))).Perm (X++((La++(a::b::Lb))++K)):=by
 refine List.Perm.append_left _ ?_
 rw[show(La++(a::b::Lb))++K=La++([a,b]++(Lb++K)) by simp]
 exact gf [a,b] La (Lb++K)
theorem Bw.close {w0 w':World} {bb gP gS gq gl pC snC clo chi glo ghi i:Nat} {uP uS uq ul:Array Value} {La Lb K X:List (Nat×Obj)} {F0 F':List cf} {ps:List Pq} {co:Co} {gr:Gr} {sns:List Sn} {s:Sn} {C:Array Value} (row:d3 CV ps pC uP) (rowS:d3 zV (sns.set i s) snC uS) (hset: ∀ (s':Sn) (gq':Nat) (uq':Array Value) (gl':Nat) (ul':Array Value),s'.sA=some ⟨gq',0,none⟩->s'.lA=some ⟨gl',0,none⟩->d3 bN s'.seqs s'.sC uq'->d3 gV s'.last s'.lC ul'->qB (sns.set i s') (La++((gq',.cells uq' da (0,0))::(gl',.cells ul' dz (0,0))::Lb)))
  (hsA:s.sA=some ⟨gq,0,none⟩) (hlA:s.lA=some ⟨gl,0,none⟩) (rowq:d3 bN s.seqs s.sC uq) (rowl:d3 gV s.last s.lC ul) (hco:xE w0 clo chi co∈F') (hgr:Kr w0 glo ghi gr∈F') (hps: ∀ q∈ps,wA w0 q.lo q.hi q.p∈F') (hF: ∀ f∈F0,f∈F')
  (H:Hp w0 w' (X++((bb,.cells C bF (0,0))::(gP,.cells uP bK (0,0))::(gS,.cells uS fF (0,0))::(gq,.cells uq da (0,0))::(gl,.cells ul dz (0,0))::(La++(Lb++K)))) F') (hC:C=(Bk.mk ps (Qd gP) pC co clo chi gr glo ghi (sns.set i s) (Qd gS) snC).c.toArray):xF w0 w' bb ⟨ps,some ⟨gP,0,none⟩,pC,co,clo,chi,gr,glo,ghi,sns.set i s,some ⟨gS,0,none⟩,snC⟩ K F0:=by
 subst hC
 refine⟨gP,uP,_,_,F',⟨rfl,row,d3.own rowS,hset s gq uq gl ul hsA hlA rowq rowl,hco,hgr,hps,?_⟩,hF⟩
 have H1:=H.forget (bZ X _) (fun _ h=>h)
 exact H1.perm (C9 [(bb,_),(gP,_),(gS,_)] _ _ La Lb K).symm
theorem zw (l:List Sn) (s:ByteArray):eK (l.map Sn.a) s=eK l s:=by
 unfold eK
 rw[Dr]
 rfl
theorem wK {l:List Sn} {s:ByteArray} {i:Nat} {x:Sn} (hix:eK l s=some i) (hx:l[i]? =some x):((eK (l.map Sn.a) s).bind fun i=>(l.map Sn.a)[i]?.map fun s=>(i,s))=some (i,x.a):=by
 rw[zw,hix]
 simp[hx]
theorem DI {l:List Sn} {s:ByteArray} (hix:eK l s=none):((eK (l.map Sn.a) s).bind fun i=>(l.map Sn.a)[i]?.map fun s=>(i,s))=none:=by
 rw[zw,hix]
 rfl
theorem Bw.shut {w0 w':World} {bb gP pC snC clo chi glo ghi:Nat} {uP:Array Value} {Ls Lo K X:List (Nat×Obj)} {F0 F':List cf} {ps:List Pq} {co:Co} {gr:Gr} {sns:List Sn} {snA:Option Addr} {C:Array Value} (row:d3 CV ps pC uP) (hsn:gH zV (.slice snA sns.length snC) fF sns Ls) (hown:qB sns Lo) (hco:xE w0 clo chi co∈F') (hgr:Kr w0 glo ghi gr∈F') (hps: ∀ q∈ps,wA w0 q.lo q.hi q.p∈F') (hF: ∀ f∈F0,f∈F')
  (H:Hp w0 w' (X++((bb,.cells C bF (0,0))::(gP,.cells uP bK (0,0))::(Ls++(Lo++K)))) F') (hC:C=(Bk.mk ps (Qd gP) pC co clo chi gr glo ghi sns snA snC).c.toArray):xF w0 w' bb ⟨ps,some ⟨gP,0,none⟩,pC,co,clo,chi,gr,glo,ghi,sns,snA,snC⟩ K F0:=by
 subst hC
 exact⟨gP,uP,_,_,F',⟨rfl,row,hsn,hown,hco,hgr,hps,H.forget (bZ X _) (fun _ h=>h)⟩,hF⟩
theorem xw {b:Bk} {a:Act} {i:Nat} {x:Sn} (hix:eK b.sns a.name=some i) (hx:b.sns[i]? =some x) (h:x.inn=true):kG b.a a=(b.a,⟨6,0,[]⟩):=by
 unfold kG
 rw[show b.a.sns=b.sns.map Sn.a from rfl,wK hix hx]
 dsimp only
 rw[if_pos (show x.a.inn=true from h)]
 rfl
theorem Di {b:Bk} {a:Act} {i:Nat} {x:Sn} (hix:eK b.sns a.name=some i) (hx:b.sns[i]? =some x) (h:x.inn=false):kG b.a a=({b.a with sns:=(b.sns.set i {x with inn:=true}).map Sn.a},⟨0,0,[]⟩):=by
 unfold kG
 rw[show b.a.sns=b.sns.map Sn.a from rfl,wK hix hx]
 dsimp only
 rw[if_neg (show¬ x.a.inn=true by show¬ x.inn=true;rw[h];decide),cT]
 rfl
theorem y0 {b:Bk} {a:Act} (hix:eK b.sns a.name=none):kG b.a a=(b.a,⟨5,0,[]⟩):=by
 unfold kG
 rw[show b.a.sns=b.sns.map Sn.a from rfl,DI hix]
 rfl
theorem fb {α:Type} {l:List α} {k:Nat} {a:α} (h:l[k]? =some a):l.set k a=l:=by
 apply ei
 intro j
 rw[lx]
 split
 rename_i hj
 subst hj
 split
 exact h.symm
 rename_i hl
 rw[cG I]at h;cases h
 rfl
theorem HK {w0 w:World} {bb:Nat} {b:Bk} {gP:Nat} {uP:Array Value} {Ls Lo K:List (Nat×Obj)} {F:List cf} (a:Act) (B:Bw w0 w bb b gP uP Ls Lo K F) (hsl:b.sns.length<=1000000) (hix:eK b.sns a.name=none):dt aa jU [.pointer (Qd bb),a.v] w fun v w2=> ∃ b':Bk,oY (kG b.a a).2 v w2/\b'.a=(kG b.a a).1/\xF w0 w2 bb b' K F:=by
 refine aG mO Z Z ?_
 obtain⟨ps,pA,pC,co,clo,chi,gr,glo,ghi,sns,snA,snC⟩:=b
 obtain⟨hpA,row,hsn,hown,hco,hgr,hps,H⟩:=B
 dsimp only at hpA row hsn hown hco hgr hps
 subst hpA
 replace H:Hp w0 w ((bb,.cells #[.slice (Qd gP) ps.length pC,J (co.clock),J (co.next),J (co.wait),.slice co.A co.txs.length co.cap,J (gr.clock),J (gr.wait),J (gr.gen),.slice gr.mA gr.ms.length gr.mC,.slice gr.oA gr.os.length gr.oC,.slice snA sns.length snC] bF (0,0))::(gP,.cells uP bK (0,0))::(Ls++(Lo++K))) F:=H
 dsimp only at hix hsl
 show CW _ _ _ _ (args [.pointer (Qd bb),.agg #[J (a.kind),.string (a.name),J (a.part),J (a.n),J (a.m),.string (a.text),J (a.lost)]]) w
 refine W<|Zr<|gM H Z Z fun w1 b3 H=>fg H du Z fun w2 b4 H=>U<|W<|Zr<|G (Yp Z)<|G (Zf fl Z)<|G (Zd aZ H 1 Z Z Z)<|cz dD (jx bb ⟨ps,some ⟨gP,0,none⟩,pC,co,clo,chi,gr,glo,ghi,sns,snA,snC⟩ (a.name) Ls _ (H.ent (i:=2) Z) hsn (fun q hq=>(H.ents q (by simp only[av,aq];grind)).1) hsl) Z Z ?_
 rintro _ w3 ⟨rfl,hb⟩;replace H:=H.later hb;clear hb
 rw[hix]
 refine G (Wp Z)<|U<|W<|Zb<|W<|Zr<|G (Yp Z)<|G (xS iV Z)<|G (Wb Z)<|U<|ZT Z<|W<|Zr<|cz bJ (dQ 5 _) Z Z ?_
 rintro _ w4 ⟨rfl,hb⟩;replace H:=H.later hb;clear hb
 refine bC H 0 (#[J (5),J (0),.slice none 0 0]) aN Z Z Z Z Z N N fun w5 H=>U<|Zt ?_
 exact eQ (cs0:= #[J (5),J (0),.slice none 0 0]) Z aK Z (H.ent (i:=0) Z) Z ⟨⟨ps,some ⟨gP,0,none⟩,pC,co,clo,chi,gr,glo,ghi,sns,snA,snC⟩,by rw[y0 hix];exact oY.plain _ _ _,by rw[y0 hix],Bw.shut (X:=[(b4,_),(b3,_)]) row hsn hown hco hgr hps (fun _ h=>h) H Z⟩
theorem HH {w0 w:World} {bb:Nat} {b:Bk} {gP:Nat} {uP:Array Value} {Ls Lo K:List (Nat×Obj)} {F:List cf} (a:Act) (B:Bw w0 w bb b gP uP Ls Lo K F) (hsl:b.sns.length<=1000000) {i:Nat} {x:Sn} (hix:eK b.sns a.name=some i) (hx:b.sns[i]? =some x):dt aa jU [.pointer (Qd bb),a.v] w fun v w2=> ∃ b':Bk,oY (kG b.a a).2 v w2/\b'.a=(kG b.a a).1/\xF w0 w2 bb b' K F:=by
 refine aG mO Z Z ?_
 obtain⟨ps,pA,pC,co,clo,chi,gr,glo,ghi,sns,snA,snC⟩:=b
 obtain⟨hpA,row,hsn,hown,hco,hgr,hps,H⟩:=B
 dsimp only at hpA row hsn hown hco hgr hps
 subst hpA
 dsimp only at hix hx
 obtain⟨gS,uS,hgS,hLs,rowS⟩:=hsn.row (by have:=(cu hx).1;omega)
 subst hgS;subst hLs
 obtain⟨gq,uq,gl,ul,La,Lb,hsA,hlA,rowq,rowl,hLo,hset⟩:=hown.at_ hx
 subst hLo
 replace H:Hp w0 w ((bb,.cells #[.slice (Qd gP) ps.length pC,J (co.clock),J (co.next),J (co.wait),.slice co.A co.txs.length co.cap,J (gr.clock),J (gr.wait),J (gr.gen),.slice gr.mA gr.ms.length gr.mC,.slice gr.oA gr.os.length gr.oC,.slice (Qd gS) sns.length snC] bF (0,0))::(gP,.cells uP bK (0,0))::(gS,.cells uS fF (0,0))::(gq,.cells uq da (0,0))::(gl,.cells ul dz (0,0))::(La++(Lb++K))) F:=H.perm (C9 [(bb,_),(gP,_),(gS,_)] _ _ La Lb K)
 dsimp only at hsl
 show CW _ _ _ _ (args [.pointer (Qd bb),.agg #[J (a.kind),.string (a.name),J (a.part),J (a.n),J (a.m),.string (a.text),J (a.lost)]]) w
 refine W<|Zr<|gM H Z Z fun w1 b3 H=>fg H du Z fun w2 b4 H=>U<|W<|Zr<|G (Yp Z)<|G (Zf fl Z)<|G (Zd aZ H 1 Z Z Z)<|cz dD (jx bb ⟨ps,some ⟨gP,0,none⟩,pC,co,clo,chi,gr,glo,ghi,sns,some ⟨gS,0,none⟩,snC⟩ (a.name) _ _ (H.ent (i:=2) Z) (d3.own rowS) (fun q hq=>by rw[ar.1 hq];exact(H.ent (i:=4) Z)) hsl) Z Z ?_
 rintro _ w3 ⟨rfl,hb⟩;replace H:=H.later hb;clear hb
 rw[hix]
 refine G (Wp Z)<|U<|W<|Zb<|W<|Zr<|G (Yp Z)<|G (vY iV Z)<|G (Wb Z)<|U<|ZF Z<|W<|Zr<|G (Yp Z)<|G (aI Z)<|G (Zf oD Z) ?_
 refine zB (bX eL rowS hx 3 Z (H.ent (i:=4) Z) Z) Z Z Z (fun h18=> ?_) (fun h18=> ?_)
 refine G (Wb Z)<|U<|ZT Z<|W<|Zr<|cz bJ (dQ 6 _) Z Z ?_
 rintro _ w4 ⟨rfl,hb⟩;replace H:=H.later hb;clear hb
 refine bC H 0 (#[J (6),J (0),.slice none 0 0]) aN Z Z Z Z Z N N fun w5 H=>U<|Zt ?_
 exact eQ (cs0:= #[J (6),J (0),.slice none 0 0]) Z aK Z (H.ent (i:=0) Z) Z ⟨⟨ps,some ⟨gP,0,none⟩,pC,co,clo,chi,gr,glo,ghi,sns.set i x,some ⟨gS,0,none⟩,snC⟩,by rw[xw hix hx h18];exact oY.plain _ _ _,by rw[xw hix hx h18,fb hx],Bw.close (X:=[(b4,_),(b3,_)]) row (by rw[fb hx];exact rowS) hset hsA hlA rowq rowl hco hgr hps (fun _ h=>h) H (by rw[fb hx];rfl)⟩
 refine G (Wb Z)<|U<|ZF Z<|Zk<|W<|Zr<|G (Yp Z)<|G (aI Z)<|G (Zf oD Z)<|m5 H 4 ({x with inn:=true}) mz rowS hx 3 Z Z Z Z Z Z N fun w7 cur6 row6 H=> ?_
 have hs8:(sns.set i ({x with inn:=true}))[i]? =some ({x with inn:=true}):=am (cu hx).1
 refine U<|W<|Zr<|G (bE (cs:= #[J (0),J (0),.slice none 0 0]) iN du N)<|bC H 0 (#[J (0),J (0),.slice none 0 0]) aN Z Z Z Z Z N N fun w9 H=>U<|Zt ?_
 exact eQ (cs0:= #[J (0),J (0),.slice none 0 0]) Z aK Z (H.ent (i:=0) Z) Z ⟨⟨ps,some ⟨gP,0,none⟩,pC,co,clo,chi,gr,glo,ghi,sns.set i {x with inn:=true},some ⟨gS,0,none⟩,snC⟩,by rw[Di hix hx h18];exact oY.plain _ _ _,by rw[Di hix hx h18];rfl,Bw.close (X:=[(b4,_),(b3,_)]) row row6 hset hsA hlA rowq rowl hco hgr hps (fun _ h=>h) H (by simp only[Bk.c,ae])⟩
def M4:Deep Co:=⟨fun c=>c.rd,fun _ _ _ _ _ hk h=>h.st hk,fun _ _ _ _ _ _ h h1 h2=>h.mono h1 h2⟩
def iO:Nat->ByteArray
 |0=>⟨#[97,110,110]⟩
 |1=>⟨#[98,111,98]⟩
 |_=>⟨#[99,121]⟩
theorem NH:bo ⟨#[97,110,110]⟩=true:=by kernel_rfl
theorem NG:bo ⟨#[98,111,98]⟩=true:=by kernel_rfl
theorem NF:bo ⟨#[99,121]⟩=true:=by kernel_rfl
theorem G4: ∀ m:Nat,bo (iO m)=true
 |0=>NH
 |1=>NG
 |_+2=>NF
def wE (P:ByteArray->Prop) (wt:Int) (c:Co):Prop:=c.wait=wt/\ ∀ t∈c.txs,P t.name
theorem wE.set {P:ByteArray->Prop} {wt:Int} {c:Co} {i:Nat} {t t':Tx} (h:wE P wt c) (hi:c.txs[i]? =some t) (hn:t'.name=t.name):wE P wt (qc c i t'):=⟨h.1,fun x hx=>by
 rcases DZ hx with hx|rfl
 exact h.2 x hx
 rw[hn];exact h.2 t (ab hi)⟩
theorem wE.init {P:ByteArray->Prop} {wt:Int} {c:Co} {s:ByteArray} (h:wE P wt c) (hs:P s) (he:(bw c s).2.2.2=0):wE P wt (bw c s).1:=by
 unfold bw at he⊢
 split
 rename_i hf
 rw[hf]at he
 dsimp only at he
 split at he
 cases he
 rename_i hl
 rw[if_neg hl]
 refine⟨h.1,fun t ht=> ?_⟩
 rcases aq.1 ht with ht|ht
 exact h.2 t ht
 rw[ar.1 ht];exact hs
 rename_i i t hf
 rw[hf]at he
 dsimp only at he
 split at he
 cases he
 rename_i hl
 rw[if_neg hl]
 exact h.set (gj hf).2.1 (by unfold i9;split<;>rfl)
theorem wE.add {P:ByteArray->Prop} {wt:Int} {c:Co} {s:ByteArray} {ver p:Int} (h:wE P wt c) (he:(mX c s ver p).2=0):wE P wt (mX c s ver p).1:=by
 unfold mX at he⊢
 split
 rename_i hf;rw[hf]at he;cases he
 rename_i i t hf
 rw[hf]at he
 dsimp only at he
 split at he
 cases he
 rename_i hv
 rw[if_neg hv]
 split at he
 rename_i h1
 rw[if_pos h1]
 exact h.set (gj hf).2.1 (by unfold iJ;split<;>rfl)
 cases he
theorem HB {w:Int} {t t':Tx} (h:eC w t=some t'):t'.name=t.name:=by
 unfold eC at h
 split at h
 injection h with h;subst h;rfl
 split at h
 injection h with h;subst h;rfl
 split at h
 injection h with h;subst h;rfl
 cases h
theorem wE.end_ {P:ByteArray->Prop} {wt:Int} {c:Co} {s:ByteArray} {ver:Int} {b:Bool} (h:wE P wt c) (he:(jp c s ver b).2=0):wE P wt (jp c s ver b).1:=by
 unfold jp at he⊢
 split
 rename_i hf;rw[hf]at he;cases he
 rename_i i t hf
 rw[hf]at he
 dsimp only at he
 split at he
 cases he
 rename_i hv
 rw[if_neg hv]
 split at he
 cases he
 rename_i t' hx
 exact h.set (gj hf).2.1 (HB hx)
theorem wE.done {P:ByteArray->Prop} {wt:Int} {c:Co} {s:ByteArray} {p:Int} (h:wE P wt c) (he:(oI c s p).2=0):wE P wt (oI c s p).1:=by
 unfold oI at he⊢
 split
 rename_i hf;rw[hf]at he;cases he
 rename_i i t hf
 rw[hf]at he
 dsimp only at he
 split at he
 rename_i h1
 rw[if_pos h1]
 split at he
 rename_i h2
 rw[if_pos h2]
 exact h.set (gj hf).2.1 (by unfold gE;split<;>rfl)
 cases he
 cases he
theorem wE.tick {P:ByteArray->Prop} {wt:Int} {c:Co} {n:Int} (h:wE P wt c) (he:(ig c n).2=0):wE P wt (ig c n).1:=by
 unfold ig at he⊢
 split at he
 cases he
 rename_i h1
 rw[if_neg h1]
 refine⟨h.1,fun t ht=> ?_⟩
 obtain⟨x,hx,rfl⟩:=bS.1 (show t∈c.txs.map _ from ht)
 have:(fu (c.clock+n) c.wait x).name=x.name:=by unfold fu;split<;>rfl
 rw[this];exact h.2 x hx
theorem wE.a {P:ByteArray->Prop} {wt:Int} {c:Co} (h:wE P wt c):wE P wt c.a:=⟨h.1,fun t ht=>by
 obtain⟨x,hx,rfl⟩:=bS.1 (show t∈c.txs.map Tx.a from ht)
 exact h.2 x hx⟩
theorem wE.of_a {P:ByteArray->Prop} {wt:Int} {c:Co} (h:wE P wt c.a):wE P wt c:=⟨h.1,fun t ht=>h.2 t.a (bG (f:=Tx.a) ht)⟩
def Ol (s:ByteArray):Prop:= ∃ m,s=iO m
def QM (k:Nat) (c:Co):Prop:=oW k c/\wE Ol 10 c
theorem QM.next {k:Nat} {r:Co×Int} {c':Co} (h1:r.2=0->oW (k+1) r.1) (h2:r.2=0->wE Ol 10 r.1) (ha:c'.a=r.1):r.2=0->QM (k+1) c':=fun h=>⟨oW.of_a (ha▸h1 h),wE.of_a (ha▸h2 h)⟩
theorem Im {w:Wa} {n:Nat} {x:cv} {p:fX} (h:w.ps[n]? =some p):lG w n x=if(ek p x).2.2=0 then({w with ps:=w.ps.set n (ek p x).1},⟨0,(ek p x).2.1,[]⟩)else lF w (ek p x).2.2:=by
 unfold lG
 rw[h]
theorem Ak {ps:List Pq} {n:Nat} {q y:Pq} (h:y∈ps.set n q):y∈ps∨y=q:=aC h
theorem Bm {w0 w:World} {bb gP gS gq gl pC snC clo chi k i n:Nat} {uP uS uq ul:Array Value} {R:List (Nat×Obj)} {F:List cf} {ps:List Pq} {co:Co} {gr:Gr} {sns:List Sn} {x:Sn} (H:Hp w0 w ((bb,.cells #[.slice (Qd gP) ps.length pC,J (co.clock),J (co.next),J (co.wait),.slice co.A co.txs.length co.cap,J (gr.clock),J (gr.wait),J (gr.gen),.slice gr.mA gr.ms.length gr.mC,.slice gr.oA gr.os.length gr.oC,.slice (Qd gS) sns.length snC] bF (0,0))::(gP,.cells uP bK (0,0))::(gS,.cells uS fF (0,0))::(gq,.cells uq da (0,0))::(gl,.cells ul dz (0,0))::R) F) (row:d3 CV ps pC uP) (rowS:d3 zV sns snC uS) (rowl:d3 gV x.last x.lC ul) (hx:sns[i]? =some x) (hlA:x.lA=some ⟨gl,0,none⟩) (hco:xE w0 clo chi co∈F) (hps: ∀ q∈ps,wA w0 q.lo q.hi q.p∈F) (hn:n<x.last.length) (hnp:n<ps.length) (hn4:n<4) (hnm:bo x.name=true) (hcb:oW k co) (hpk: ∀ q∈ps,q.p.a.ok/\ ∀ (l:Nat) (y:f5),q.p.leader=l->q.p.reps[l]? =some y->y.es.length<400):dt aa ss [.pointer (Qd bb),.pointer (some ⟨gS,i*zV.sz,none⟩),J (n:Nat)] w fun v w2=> ∃ (ps':List Pq) (uP':Array Value) (co':Co) (clo' chi':Nat) (F':List cf),oY (dL (Wa.mk (ps.map fun q=>q.p.a) co.a gr.a (sns.map Sn.a)) x.a n).2 v w2/\(dL (Wa.mk (ps.map fun q=>q.p.a) co.a gr.a (sns.map Sn.a)) x.a n).1=Wa.mk (ps'.map fun q=>q.p.a) co'.a gr.a (sns.map Sn.a)/\d3 CV ps' pC uP'/\ps'.length=ps.length/\xE w0 clo' chi' co'∈F'/\(∀ q∈ps',wA w0 q.lo q.hi q.p∈F')/\(∀ f∈F,f∈F')/\Hp w0 w2 ((bb,.cells #[.slice (Qd gP) ps'.length pC,J (co'.clock),J (co'.next),J (co'.wait),.slice co'.A co'.txs.length co'.cap,J (gr.clock),J (gr.wait),J (gr.gen),.slice gr.mA gr.ms.length gr.mC,.slice gr.oA gr.os.length gr.oC,.slice (Qd gS) sns.length snC] bF (0,0))::(gP,.cells uP' bK (0,0))::(gS,.cells uS fF (0,0))::(gq,.cells uq da (0,0))::(gl,.cells ul dz (0,0))::R) F':=by
 refine aG rO Z Z ?_
 obtain⟨e,he⟩: ∃ e,x.last[n]? =some e:=⟨_,ai hn⟩
 have hl5:(zV.f x)[5]? =some (.slice (some ⟨gl,0,none⟩) x.last.length x.lC):=by rw[<-hlA];rfl
 obtain⟨q,hq⟩: ∃ q,ps[n]? =some q:=⟨_,ai hnp⟩
 have hqm:=ab hq
 have hpC:=row.le
 have hD:dL (Wa.mk (ps.map fun q=>q.p.a) co.a gr.a (sns.map Sn.a)) x.a n=if(nV (Wa.mk (ps.map fun q=>q.p.a) co.a gr.a (sns.map Sn.a)) x.a n e).2=0 then lG (Wa.mk (ps.map fun q=>q.p.a) (nV (Wa.mk (ps.map fun q=>q.p.a) co.a gr.a (sns.map Sn.a)) x.a n e).1 gr.a (sns.map Sn.a)) n e else lF (Wa.mk (ps.map fun q=>q.p.a) co.a gr.a (sns.map Sn.a)) (nV (Wa.mk (ps.map fun q=>q.p.a) co.a gr.a (sns.map Sn.a)) x.a n e).2:=by unfold dL;rw[show x.a.last[n]? =some e from he]
 rw[hD]
 have hP:=Im (w:=Wa.mk (ps.map fun q=>q.p.a) (nV (Wa.mk (ps.map fun q=>q.p.a) co.a gr.a (sns.map Sn.a)) x.a n e).1 gr.a (sns.map Sn.a)) (n:=n) (x:=e) (p:=q.p.a) (by rw[aH,hq];rfl)
 refine W<|Zr<|fg H du Z fun w1 b6 H=>U<|W<|Zr<|G (Yp Z)<|G (aI Z)<|G (Zf l8 Z)<|G (bX ny rowS hx 5 Z (H.ent (i:=3) Z) hl5)<|G (Yi Z)<|G (cQ dV Z Z (by first|omega|(simp only[ae];omega)))<|G (o0 dI rowl he Z Z (H.ent (i:=5) Z))<|fg H gp Z fun w2 b7 H=>bC H 0 (#[J (e.epoch),J (e.pid),J (e.ver),J (e.seq),J (e.kind),.bool (e.txn),.string (e.text)]) eV Z Z Z Z Z N N fun w3 H=>U<|W<|W<|Zr<|G (Zf jb Z)<|G (Zd eL H 0 Z Z Z)<|U ?_
 refine fp (τ:=Co×Nat×Nat×List cf) [8,9,22,23,24,25,26,27,28,29,30,31,32,33,34,35,36,37,38,39,40,41,42,43,44,45,46] (fun _=>[]) (fun(c2,l2,h2,F2) w'=>c2.a=(nV (Wa.mk (ps.map fun q=>q.p.a) co.a gr.a (sns.map Sn.a)) x.a n e).1/\(nV (Wa.mk (ps.map fun q=>q.p.a) co.a gr.a (sns.map Sn.a)) x.a n e).2=0/\xE w0 l2 h2 c2∈F2/\(∀ f∈F,f∈F2)/\Hp w0 w' ((b7,.cells #[J (e.epoch),J (e.pid),J (e.ver),J (e.seq),J (e.kind),.bool (e.txn),.string (e.text)] dz (0,0))::(b6,.cells #[J (0),J (0),.slice none 0 0] ee (0,0))::(bb,.cells #[.slice (Qd gP) ps.length pC,J (c2.clock),J (c2.next),J (c2.wait),.slice c2.A c2.txs.length c2.cap,J (gr.clock),J (gr.wait),J (gr.gen),.slice gr.mA gr.ms.length gr.mC,.slice gr.oA gr.os.length gr.oC,.slice (Qd gS) sns.length snC] bF (0,0))::(gP,.cells uP bK (0,0))::(gS,.cells uS fF (0,0))::(gq,.cells uq da (0,0))::(gl,.cells ul dz (0,0))::R) F2) ?_ ?_
 refine kD Z (fun hc21=> ?_) (fun hc21=> ?_)
 refine W ?_
 refine fp (τ:=Co×Nat×Nat×Nat) [8,9,22,23,24,25,26,27,28,29,30,31,32,33,34,35,36,37] (fun(_,b8,_,_)=>[(8,.pointer (Qd b8)),(9,J (mX co.a x.name e.ver n).2)]) (fun(c3,b8,lo,hi) w'=>c3.a=(mX co.a x.name e.ver n).1/\Hp w0 w' ((b8,.cells #[J (c3.clock),J (c3.next),J (c3.wait),.slice c3.A c3.txs.length c3.cap] bc (0,0))::(b7,.cells #[J (e.epoch),J (e.pid),J (e.ver),J (e.seq),J (e.kind),.bool (e.txn),.string (e.text)] dz (0,0))::(b6,.cells #[J (0),J (0),.slice none 0 0] ee (0,0))::(bb,.cells #[.slice (Qd gP) ps.length pC,J (co.clock),J (co.next),J (co.wait),.slice co.A co.txs.length co.cap,J (gr.clock),J (gr.wait),J (gr.gen),.slice gr.mA gr.ms.length gr.mC,.slice gr.oA gr.os.length gr.oC,.slice (Qd gS) sns.length snC] bF (0,0))::(gP,.cells uP bK (0,0))::(gS,.cells uS fF (0,0))::(gq,.cells uq da (0,0))::(gl,.cells ul dz (0,0))::R) (xE w0 lo hi c3::F)) ?_ ?_
 refine oJ cD 16 12 [12,13,14,15,17,18] [16] [0,1,2,3,5,6,7,9,11] [16,17,18] [12] [0,1,2,3,5,6,7,9,11,13,14,15] (sp [(16,Sp.blk w3.heap.size (.agg #[J 0,J 0,J 0,.slice none 0 0]) bc)]) (sp [(12,Sp.deep w3.heap.size M4 (fun c:Co=>c.c.toArray) (fun cs=> .tuple #[.agg cs,J (mX co.a x.name e.ver n).2]) (fun cq:Co=>cq.a=(mX co.a x.name e.ver n).1))]) N N N N (cO _) (cO _) ?_ ?_
 refine jF [0,1,2,3,4,5,6,7,8,9,10,11,16] [12,13,14,15,17,18] [16] [0,1,2,3,5,6,7,9,11] 5 (sp [(16,Sp.blk w3.heap.size (.agg #[J 0,J 0,J 0,.slice none 0 0]) bc)]) N N N Nq<|aw Z Z Z Z Z (fun w' hw'=>Yp Z)<|aw Z Z Z Z Z (fun w' hw'=>aI Z)<|aw Z Z Z Z Z (fun w' hw'=>Zf aS Z)<|aw Z Z Z Z Z (fun w' hw'=>Zf eH Z)<|aw Z Z Z Z Z (fun w' hw'=>j4 1 [J (co.clock),J (co.next),J (co.wait),.slice co.A co.txs.length co.cap] ay Z Z ((H.later hw').ent (i:=2) Z) Z)<|aw Z Z Z Z Z (fun w' hw'=>Yp Z)<|aw Z Z Z Z Z (fun w' hw'=>aI Z)<|aw Z Z Z Z Z (fun w' hw'=>Zf oE Z)<|aw Z Z Z Z Z (fun w' hw'=>bX aZ rowS hx 0 Z ((H.later hw').ent (i:=4) Z) Z)<|aw Z Z Z Z Z (fun w' hw'=>Zf eI Z)<|aw Z Z Z Z Z (fun w' hw'=>bf al Z (aJ ((H.later hw').ent (i:=0) Z) Z))<|aw Z Z Z Z Z (fun w' hw'=>Yi Z)<|yB cH Z Z Z Z Z (fun w' hw'=>hw'.size) fun b8=>aU ?_
 intro w4 hw' hF
 obtain⟨hF,bq,eq,hge8,hbl8⟩:=hF;cases eq
 replace H:=H.adoptNew hw' hbl8 hge8
 clear hw' hF
 refine dg 12 N Z<|cz xv (Gl co x.name e.ver n k _ (Hp.coM H hco) hcb hnm I I) Z Z ?_
 rintro _ w5 ⟨c3,rfl,hac3,hnc3⟩;replace H:=H.learn hnc3.2 (xE w0 w4.heap.size w5.heap.size c3) ⟨H.size,hnc3.1⟩ (ao _) (ao _);clear hnc3
 refine U<|bp 13 N N N Z Z Z Z Nq (fun _=>Yu Z)<|bp 14 N N N Z Z Z Z Nq (fun _=>Xa Z Z)<|bp 15 N N N Z Z Z Z Nq (fun _=>Xi Z Z)<|dg 17 N Z<|bC H 0 (#[J (c3.clock),J (c3.next),J (c3.wait),.slice c3.A c3.txs.length c3.cap]) aE Z Z Z Z Z N N fun w6 H=>U<|bp 18 N N N Z Z Z Z Nq (fun _=>Wi Z)<|cr N ?_
 exact⟨(c3,b8,_,_),⟨hac3,H⟩,lE Z Z,Qg⟩
 refine jF [0,1,2,3,4,5,6,7,8,9,10,11,12,13,14,15] [16,17,18] [12] [0,1,2,3,5,6,7,9,11,13,14,15] 2 (sp [(12,Sp.deep w3.heap.size M4 (fun c:Co=>c.c.toArray) (fun cs=> .tuple #[.agg cs,J (mX co.a x.name e.ver n).2]) (fun cq:Co=>cq.a=(mX co.a x.name e.ver n).1))]) N N N Nq<|aw Z Z Z Z Z (fun w' hw'=>Yp Z)<|aw Z Z Z Z Z (fun w' hw'=>aI Z)<|aw Z Z Z Z Z (fun w' hw'=>Zf aS Z)<|aw Z Z Z Z Z (fun w' hw'=>Zf eH Z)<|aw Z Z Z Z Z (fun w' hw'=>j4 1 [J (co.clock),J (co.next),J (co.wait),.slice co.A co.txs.length co.cap] ay Z Z ((H.later hw').ent (i:=2) Z) Z)<|aw Z Z Z Z Z (fun w' hw'=>Yp Z)<|aw Z Z Z Z Z (fun w' hw'=>aI Z)<|aw Z Z Z Z Z (fun w' hw'=>Zf oE Z)<|aw Z Z Z Z Z (fun w' hw'=>bX aZ rowS hx 0 Z ((H.later hw').ent (i:=4) Z) Z)<|aw Z Z Z Z Z (fun w' hw'=>Zf eI Z)<|aw Z Z Z Z Z (fun w' hw'=>bf al Z (aJ ((H.later hw').ent (i:=0) Z) Z))<|aw Z Z Z Z Z (fun w' hw'=>Yi Z)<|tm (gv:=(fun cs=> .tuple #[.agg cs,J (mX co.a x.name e.ver n).2])) xv Z Z Z Z Z (fun w' hw'=>hw'.size) (fun w' hw'=>Gl co x.name e.ver n k w' (Hp.coM (H.later hw') hco) hcb hnm I I) Z fun cs35=>aw Z Z Z Z Z (fun w' hw'=>Yu Z)<|aw Z Z Z Z Z (fun w' hw'=>Xa Z Z)<|aw Z Z Z Z Z (fun w' hw'=>Xi Z Z)<|aU ?_
 intro w7 hw' hF
 obtain⟨hF,c3,eq,hac3,hrd35⟩:=hF;cases eq
 replace H:=H.learn hw' (xE w0 w3.heap.size w7.heap.size c3) ⟨H.size,hrd35⟩ (ao _) (ao _)
 clear hw' hF
 refine dg 16 N Z<|fg H cH Z fun w8 b8 H=>U<|dg 17 N Z<|bC H 0 (#[J (c3.clock),J (c3.next),J (c3.wait),.slice c3.A c3.txs.length c3.cap]) aE Z Z Z Z Z N N fun w9 H=>U<|bp 18 N N N Z Z Z Z Nq (fun _=>Wi Z)<|cr N ?_
 exact⟨(c3,b8,_,_),⟨hac3,H⟩,lE Z Z,Qg⟩
 rintro⟨c3,b8,lo,hi⟩ ρ1 w10 ⟨hac3,H⟩
 show CW _ _ _ _ (dH (gT _ _ ρ1) [(8,.pointer (Qd b8)),(9,J (mX co.a x.name e.ver n).2)]) w10
 refine W<|W<|Zr<|G (Yi Z) ?_
 refine rq (je Z Z) Z Z Z (fun h39=> ?_) (fun h39=> ?_)
 have hadd: ¬ (nV (Wa.mk (ps.map fun q=>q.p.a) co.a gr.a (sns.map Sn.a)) x.a n e).2=0:=by unfold nV;rw[if_pos hc21];exact h39
 have hadd2:(nV (Wa.mk (ps.map fun q=>q.p.a) co.a gr.a (sns.map Sn.a)) x.a n e).2=(mX co.a x.name e.ver n).2:=by unfold nV;rw[if_pos hc21];rfl
 refine U<|ZT Z<|W<|Zr<|G (Yi Z)<|cz bJ (dQ (mX co.a x.name e.ver n).2 _) Z Z ?_
 rintro _ w11 ⟨rfl,hb⟩;replace H:=H.later hb;clear hb
 refine bC H 2 (#[J ((mX co.a x.name e.ver n).2),J (0),.slice none 0 0]) aN Z Z Z Z Z N N fun w12 H=>U<|Zt ?_
 exact eQ (cs0:= #[J ((mX co.a x.name e.ver n).2),J (0),.slice none 0 0]) Z aK Z (H.ent (i:=2) Z) Z ⟨ps,uP,co,clo,chi,xE w0 lo hi c3::F,by rw[if_neg hadd,hadd2];exact oY.plain _ _ _,by rw[if_neg hadd];rfl,row,rfl,aj _ hco,fun q hq=>aj _ (hps q hq),fun f hf=>aj _ hf,H.forget (bZ [(b8,_),(b7,_),(b6,_)] _) (fun _ h=>h)⟩
 refine U<|ZF Z<|Zk<|Zr<|G (Yp Z)<|G (Zw ay H 0 Z Z Z)<|G (aI Z)<|G (Zf aS Z)<|G (Zf eH Z)<|bC H 3 (#[.slice (Qd gP) ps.length pC,J (c3.clock),J (c3.next),J (c3.wait),.slice c3.A c3.txs.length c3.cap,J (gr.clock),J (gr.wait),J (gr.gen),.slice gr.mA gr.ms.length gr.mC,.slice gr.oA gr.os.length gr.oC,.slice (Qd gS) sns.length snC]) aE Z Z Z Z Z N N fun w13 H=>U ?_
 exact⟨(c3,_,_,_),⟨by rw[hac3];unfold nV;rw[if_pos hc21];rfl,by unfold nV;rw[if_pos hc21];exact(by simpa using h39:(mX co.a x.name e.ver n).2=0),az ..,fun f hf=>aj _ hf,H.forget (.cons _ (au _)) (fun _ h=>h)⟩,OV,Qg⟩
 refine Zk ?_
 exact⟨(co,clo,chi,F),⟨by unfold nV;rw[if_neg (by rw[hc21];decide)],by unfold nV;rw[if_neg (by rw[hc21];decide)],hco,fun _ h=>h,H⟩,OV,Qg⟩
 rintro⟨c2,l2,h2,F2⟩ ρ1 w14 ⟨hc2,hok2,hco2,hF2,H⟩
 show CW _ _ _ _ (dH (gT _ _ ρ1) []) w14
 refine W ?_
 refine fp (τ:=Pa×Nat×Nat×Nat) [10,11,12,47,48,49,50,51,52,53,54,55,56,57,58,59,60] (fun(_,b10,_,_)=>[(10,.pointer (Qd b10)),(11,J (ek q.p.a e).2.1),(12,J (ek q.p.a e).2.2)]) (fun(p2,b10,lo,hi) w'=>p2.a=(ek q.p.a e).1/\Hp w0 w' ((b10,.cells #[J (p2.epoch),J (p2.leader),.slice p2.iA p2.isr.length p2.iC,.slice p2.kA p2.known.length p2.kC,.slice p2.rA p2.reps.length p2.rC,J (p2.few),J (p2.base)] bK (0,0))::(b7,.cells #[J (e.epoch),J (e.pid),J (e.ver),J (e.seq),J (e.kind),.bool (e.txn),.string (e.text)] dz (0,0))::(b6,.cells #[J (0),J (0),.slice none 0 0] ee (0,0))::(bb,.cells #[.slice (Qd gP) ps.length pC,J (c2.clock),J (c2.next),J (c2.wait),.slice c2.A c2.txs.length c2.cap,J (gr.clock),J (gr.wait),J (gr.gen),.slice gr.mA gr.ms.length gr.mC,.slice gr.oA gr.os.length gr.oC,.slice (Qd gS) sns.length snC] bF (0,0))::(gP,.cells uP bK (0,0))::(gS,.cells uS fF (0,0))::(gq,.cells uq da (0,0))::(gl,.cells ul dz (0,0))::R) (wA w0 lo hi p2::F2)) ?_ ?_
 refine oJ cD 14 9 [9,10,11,12,13,15,16,17] [14] [0,1,2,3,5,6] [14,15,16,17] [9] [0,1,2,3,5,6,10,11,12,13] (sp [(14,Sp.blk w14.heap.size (.agg #[J 0,J 0,.slice none 0 0,.slice none 0 0,.slice none 0 0,J 0,J 0]) bK)]) (sp [(9,Sp.deep w14.heap.size Qo (fun p:Pa=>p.c.toArray) (fun cs=> .tuple #[.agg cs,J (ek q.p.a e).2.1,J (ek q.p.a e).2.2]) (fun cq:Pa=>cq.a=(ek q.p.a e).1))]) N N N N (cO _) (cO _) ?_ ?_
 refine jF [0,1,2,3,4,5,6,7,8,14] [9,10,11,12,13,15,16,17] [14] [0,1,2,3,5,6] 7 (sp [(14,Sp.blk w14.heap.size (.agg #[J 0,J 0,.slice none 0 0,.slice none 0 0,.slice none 0 0,J 0,J 0]) bK)]) N N N Nq<|aw Z Z Z Z Z (fun w' hw'=>Yp Z)<|aw Z Z Z Z Z (fun w' hw'=>aI Z)<|aw Z Z Z Z Z (fun w' hw'=>Zf aS Z)<|aw Z Z Z Z Z (fun w' hw'=>Zf dx Z)<|aw Z Z Z Z Z (fun w' hw'=>bf dZ Z (aJ ((H.later hw').ent (i:=2) Z) Z))<|aw Z Z Z Z Z (fun w' hw'=>Yi Z)<|aw Z Z Z Z Z (fun w' hw'=>cQ gx Z Z (by first|omega|(simp only[ae];omega)))<|aw Z Z Z Z Z (fun w' hw'=>o0 bk row hq Z Z ((H.later hw').ent (i:=3) Z))<|aw Z Z Z Z Z (fun w' hw'=>js dI Z ((H.later hw').ent (i:=0) Z) Z)<|yB bT Z Z Z Z Z (fun w' hw'=>hw'.size) fun b10=>aU ?_
 intro w15 hw' hF
 obtain⟨hF,bq,eq,hge10,hbl10⟩:=hF;cases eq
 replace H:=H.adoptNew hw' hbl10 hge10
 clear hw' hF
 refine dg 9 N Z<|cz rb (zz q.p e _ (Hp.paM H (hF2 _ (hps q hqm))) (hpk q hqm).1 (hpk q hqm).2) Z Z ?_
 rintro _ w16 ⟨p2,rfl,hap2,hnp2⟩;replace H:=H.learn hnp2.2 (wA w0 w15.heap.size w16.heap.size p2) ⟨H.size,hnp2.1⟩ (ao _) (ao _);clear hnp2
 refine U<|bp 10 N N N Z Z Z Z Nq (fun _=>Yu Z)<|bp 11 N N N Z Z Z Z Nq (fun _=>Xa Z Z)<|bp 12 N N N Z Z Z Z Nq (fun _=>Xi Z Z)<|bp 13 N N N Z Z Z Z Nq (fun _=>Xi Z Z)<|dg 15 N Z<|bC H 0 (#[J (p2.epoch),J (p2.leader),.slice p2.iA p2.isr.length p2.iC,.slice p2.kA p2.known.length p2.kC,.slice p2.rA p2.reps.length p2.rC,J (p2.few),J (p2.base)]) bi Z Z Z Z Z N N fun w17 H=>U<|bp 16 N N N Z Z Z Z Nq (fun _=>Wi Z)<|bp 17 N N N Z Z Z Z Nq (fun _=>Wi Z)<|cr N ?_
 exact⟨(p2,b10,_,_),⟨hap2,H⟩,OU Z Z Z,Qg⟩
 refine jF [0,1,2,3,4,5,6,7,8,9,10,11,12,13] [14,15,16,17] [9] [0,1,2,3,5,6,10,11,12,13] 3 (sp [(9,Sp.deep w14.heap.size Qo (fun p:Pa=>p.c.toArray) (fun cs=> .tuple #[.agg cs,J (ek q.p.a e).2.1,J (ek q.p.a e).2.2]) (fun cq:Pa=>cq.a=(ek q.p.a e).1))]) N N N Nq<|aw Z Z Z Z Z (fun w' hw'=>Yp Z)<|aw Z Z Z Z Z (fun w' hw'=>aI Z)<|aw Z Z Z Z Z (fun w' hw'=>Zf aS Z)<|aw Z Z Z Z Z (fun w' hw'=>Zf dx Z)<|aw Z Z Z Z Z (fun w' hw'=>bf dZ Z (aJ ((H.later hw').ent (i:=2) Z) Z))<|aw Z Z Z Z Z (fun w' hw'=>Yi Z)<|aw Z Z Z Z Z (fun w' hw'=>cQ gx Z Z (by first|omega|(simp only[ae];omega)))<|aw Z Z Z Z Z (fun w' hw'=>o0 bk row hq Z Z ((H.later hw').ent (i:=3) Z))<|aw Z Z Z Z Z (fun w' hw'=>js dI Z ((H.later hw').ent (i:=0) Z) Z)<|tm (gv:=(fun cs=> .tuple #[.agg cs,J (ek q.p.a e).2.1,J (ek q.p.a e).2.2])) rb Z Z Z Z Z (fun w' hw'=>hw'.size) (fun w' hw'=>zz q.p e w' (Hp.paM (H.later hw') (hF2 _ (hps q hqm))) (hpk q hqm).1 (hpk q hqm).2) Z fun cs57=>aw Z Z Z Z Z (fun w' hw'=>Yu Z)<|aw Z Z Z Z Z (fun w' hw'=>Xa Z Z)<|aw Z Z Z Z Z (fun w' hw'=>Xi Z Z)<|aw Z Z Z Z Z (fun w' hw'=>Xi Z Z)<|aU ?_
 intro w18 hw' hF
 obtain⟨hF,p2,eq,hap2,hrd57⟩:=hF;cases eq
 replace H:=H.learn hw' (wA w0 w14.heap.size w18.heap.size p2) ⟨H.size,hrd57⟩ (ao _) (ao _)
 clear hw' hF
 refine dg 14 N Z<|fg H bT Z fun w19 b10 H=>U<|dg 15 N Z<|bC H 0 (#[J (p2.epoch),J (p2.leader),.slice p2.iA p2.isr.length p2.iC,.slice p2.kA p2.known.length p2.kC,.slice p2.rA p2.reps.length p2.rC,J (p2.few),J (p2.base)]) bi Z Z Z Z Z N N fun w20 H=>U<|bp 16 N N N Z Z Z Z Nq (fun _=>Wi Z)<|bp 17 N N N Z Z Z Z Nq (fun _=>Wi Z)<|cr N ?_
 exact⟨(p2,b10,_,_),⟨hap2,H⟩,OU Z Z Z,Qg⟩
 rintro⟨p2,b10,lo,hi⟩ ρ1 w21 ⟨hap2,H⟩
 show CW _ _ _ _ (dH (gT _ _ ρ1) [(10,.pointer (Qd b10)),(11,J (ek q.p.a e).2.1),(12,J (ek q.p.a e).2.2)]) w21
 refine W<|W<|Zr<|G (Yi Z) ?_
 refine rq (je Z Z) Z Z Z (fun h62=> ?_) (fun h62=> ?_)
 refine U<|ZT Z<|W<|Zr<|G (Yi Z)<|cz bJ (dQ (ek q.p.a e).2.2 _) Z Z ?_
 rintro _ w22 ⟨rfl,hb⟩;replace H:=H.later hb;clear hb
 refine bC H 2 (#[J ((ek q.p.a e).2.2),J (0),.slice none 0 0]) aN Z Z Z Z Z N N fun w23 H=>U<|Zt ?_
 exact eQ (cs0:= #[J ((ek q.p.a e).2.2),J (0),.slice none 0 0]) Z aK Z (H.ent (i:=2) Z) Z ⟨ps,uP,c2,l2,h2,wA w0 lo hi p2::F2,by rw[if_pos hok2,hP,if_neg h62];exact oY.plain _ _ _,by rw[if_pos hok2,hP,if_neg h62,<-hc2];rfl,row,rfl,aj _ hco2,fun q hq=>aj _ (hF2 _ (hps q hq)),fun f hf=>aj _ (hF2 f hf),H.forget (bZ [(b10,_),(b7,_),(b6,_)] _) (fun _ h=>h)⟩
 refine U<|ZF Z<|Zk<|W ?_
 refine bP cD [0,1,2,3,4,5,6,7] [8] [] [0,1,2,3,5,7] (sp []) N N N N Nq (cO _) ?_
 refine aw Z Z Z Z Z (fun w' hw'=>Yp Z)<|aw Z Z Z Z Z (fun w' hw'=>aI Z)<|aw Z Z Z Z Z (fun w' hw'=>Zf aS Z)<|aw Z Z Z Z Z (fun w' hw'=>Zf dx Z)<|aw Z Z Z Z Z (fun w' hw'=>bf dZ Z (aJ ((H.later hw').ent (i:=3) Z) Z))<|aw Z Z Z Z Z (fun w' hw'=>Yi Z)<|aw Z Z Z Z Z (fun w' hw'=>js bk Z ((H.later hw').ent (i:=0) Z) Z)<|aw Z Z Z Z Z (fun w' hw'=>cQ gx Z Z (by first|omega|(simp only[ae];omega)))<|aU ?_
 intro w24 hw' hF
 replace H:=H.later hw';clear hw' hF
 refine m5 H 4 (⟨p2,lo,hi⟩) bi row hq 0 Z Z Z Z Z Z N fun w26 cur25 row25 H=> ?_
 have hs27:(ps.set n (⟨p2,lo,hi⟩))[n]? =some (⟨p2,lo,hi⟩):=am (cu hq).1
 refine U<|W<|Zr<|G (Yi Z)<|G (bE (cs:= #[J (0),J ((ek q.p.a e).2.1),.slice none 0 0]) iN du N)<|bC H 2 (#[J (0),J ((ek q.p.a e).2.1),.slice none 0 0]) aN Z Z Z Z Z N N fun w28 H=>U<|Zt ?_
 have hz:(ek q.p.a e).2.2=0:=by simpa using h62
 have hz2:=hz
 exact eQ (cs0:= #[J (0),J ((ek q.p.a e).2.1),.slice none 0 0]) Z aK Z (H.ent (i:=2) Z) Z ⟨ps.set n ⟨p2,lo,hi⟩,_,c2,l2,h2,wA w0 lo hi p2::F2,by rw[if_pos hok2,hP,if_pos hz];exact oY.plain _ _ _,by rw[if_pos hok2,hP,if_pos hz,<-hc2];simp only[cT,hap2],row25,ae ..,aj _ hco2,fun y hy=>by rcases Ak hy with hy|hy;exact aj _ (hF2 _ (hps y hy));rw[hy];exact az ..,fun f hf=>aj _ (hF2 f hf),by rw[ae];exact H.forget (bZ [(b10,_),(b7,_),(b6,_)] _) (fun _ h=>h)⟩
end Go.Proofs.YtclibalpdhhhfaaGreatDoor
