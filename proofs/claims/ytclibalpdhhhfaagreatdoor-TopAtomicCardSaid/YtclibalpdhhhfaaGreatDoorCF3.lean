/- Part 3 of the proofs over this seat: what its theorems say holds for every input that they name. -/
import Derived.Test.YtclibalpdhhhfaaGreatDoorCF2
namespace Go.Proofs.YtclibalpdhhhfaaGreatDoor
open Go Go.Eng Go.RowKit
open Go.Eng renaming nL→U, C6→W, MC→Zr, Q6→Zk, TK→Zt, S9→Zb, Ts→Zx, TS→Yi, TU→Yb, TQ→Ys, TR→Yp, TP→Yt, TO→Yu, Ub→Wi, Uc→Wb, T9→Ws, Ua→Wp, T8→Wt, TY→Zf, T4→Xi, T6→Xa, T5→Xb, T3→Xs, TB→Kt, TC→N, qg→ZT, oY→ZF
open Go.Proofs.Tryz renaming prog→aa
open _root_.List renaming mem_of_getElem?→ab,length_set→ae,getElem?_eq_getElem→ai,mem_cons_of_mem→aj,getElem?_set_self→ak,replicate→ao,mem_singleton→aq,mem_append→ar,length_append→av,mem_cons→ay,mem_cons_self→aA,append_assoc→aB,getElem?_eq_some_iff→aC,mem_or_eq_of_mem_set→aD,sublist_append_left→aE,findIdx?_eq_some_iff_getElem→aF,length_take→aI,getElem?_map→aJ,mem_iff_getElem?→aN,append_nil→aP,map_append→bi,take_length→br,mem_nil_iff→bu,length_singleton→bv,length_map→bF,mem_map→bK,getElem?_eq_none→bL,mem_map_of_mem→bM,eq_nil_of_length_eq_zero→bS,sublist_append_right→ci,getElem?_append_right→cy,findIdx?_eq_none_iff→cD,map_set→cO,getD_eq_getElem?_getD→cS,length→cY,getElem?_drop→df,ext_getElem?→dg,getElem?_take→dz,map_cons→dB,length_drop→dL,pairwise_cons→ec,mem_singleton_self→eh,drop_of_length_le→eE,pairwise_map→eQ,pairwise_iff_getElem→fF,set_set→fS,mem_append_left→gk,perm_append_comm_assoc→gu,mem_filter→gT,take_append_drop→g7,filter_append→jr,set_append_right→jt,nodup_cons→jB,nil_append→jC,filter_eq_self→ke,filter_cons_of_pos→kj,drop_length→kk,drop_drop→km,getElem?_set→lQ,pairwise_append→mE,map_nil→mT,headD_eq_head?_getD→nF,filter_cons_of_neg→pj,head?_eq_getElem?→pS,cons_append→qZ,drop_set_of_lt→tj,map_map→tu,findIdx?_map→vT,any_eq_false→vU,filter_eq_nil_iff→ya,take_zero→AJ,take_set_of_le→BG,map_congr_left→BH,drop_succ_cons→BJ
open _root_.List.Perm renaming cons→ah,swap→am
open _root_.Nat renaming le_refl→ap,zero_le→aV,le_trans→aW,min_eq_left→bE,zero_add→cC,mul_le_mul_right→cN,add_mul→cW,lt_or_ge→fC,one_mul→gj,le_of_lt→mR,add_zero→mS,zero_mul→xY
open _root_.List.Sublist renaming refl→au
open _root_.Option.some renaming inj→aZ,injEq→jI
open _root_.Bool renaming and_eq_true→bg,not_eq_true'→vV
open _root_.Array renaming length_toList→ch
open _root_.Option renaming bind_some→cQ,map_some→dA,map_eq_some_iff→i4
open _root_.Int renaming le_refl→fj
open _root_.List.Mem renaming head→ik,tail→ru
set_option maxHeartbeats 4000000
set_option maxRecDepth 20000
set_option linter.unusedSimpArgs false
set_option linter.unusedVariables false
set_option linter.unusedSectionVars false
theorem Iq (p t:Tx) (b:Nat) (w:World) (hx:w.heap[b]? =some (.cells t.c.toArray dH (0,0))):
  di aa s6 [p.v,.pointer (Qd b)] w fun v w2=>v=.bool (decide (p.name=t.name)||decide (p.pid=t.pid))/\Below w.heap.size w w2:=by
 refine aG yI Z Z ?_
 have H:=Hp.start w
 have hb:=bX hx
 refine W<|Zr<|gU H Z Z fun w1 b2 H=>G (Wb Z)<|U<|W<|Zr<|G (Zf oQ Z)<|G (Zd aY H 0 Z Z Z)<|G (Zf oQ Z)<|G (bd aY Z ((H.below.cell (p:=⟨b,_,none⟩) hb).trans (aK (j:=0) hx Z))) ?_
 refine dZ (uZ Z Z) Z Z Z (fun h8=> ?_) (fun h8=> ?_)
 refine G (Yb Z)<|ZN<|ZN<|ZN<|ZN<|ZN<|G (Kt Z Z)<|G (Wb Z)<|U<|Zt ?_
 have hv:(decide (p.name=t.name)||decide (p.pid=t.pid))=true:=by simp[h8]
 exact cU (v:=.bool true) Z Z ⟨by rw[hv],H.below⟩
 refine G (Yb Z)<|ZG<|G (Zf lJ Z)<|ZG<|G (Zd al H 0 Z Z Z)<|ZG<|G (Zf lJ Z)<|ZG<|G (bd al Z ((H.below.cell (p:=⟨b,_,none⟩) hb).trans (aK (j:=1) hx Z)))<|ZG ?_
 refine dZ (cr Z Z) Z Z Z (fun h14=> ?_) (fun h14=> ?_)
 refine G (N Z Z)<|G (Wb Z)<|U<|Zt ?_
 have hv:(decide (p.name=t.name)||decide (p.pid=t.pid))=true:=by simp[h8,h14]
 exact cU (v:=.bool true) Z Z ⟨by rw[hv],H.below⟩
 refine G (N Z Z)<|G (Wb Z)<|U<|Zt ?_
 have hv:(decide (p.name=t.name)||decide (p.pid=t.pid))=false:=by simp[h8,h14]
 exact cU (v:=.bool false) Z Z ⟨by rw[hv],H.below⟩
theorem nU (p:Tx) (s:ByteArray) (b:Nat) (w:World) (hx:w.heap[b]? =some (.cells #[.string s] lP (0,0))):
  di aa hM [p.v,.pointer (Qd b)] w fun v w2=>v=.bool (decide (p.name=s))/\Below w.heap.size w w2:=by
 refine aG zG Z Z ?_
 have H:=Hp.start w
 have hb:=bX hx
 refine W<|Zr<|gU H Z Z fun w1 b2 H=>G (Wb Z)<|U<|W<|Zr<|G (Zf oQ Z)<|G (Zd aY H 0 Z Z Z)<|G (bd aY Z ((H.below.cell (p:=⟨b,_,none⟩) hb).trans (aK (j:=0) hx Z)))<|G (uZ Z Z)<|G (Wb Z)<|U<|Zt ?_
 exact cU Z Z ⟨rfl,H.below⟩
theorem Ik (n:Int) (w:World) (h1:1<=n) (h2:n<=1000):di aa HK [J n] w fun v w2=>v=.tuple #[.agg #[J 0,J 1,J n,.slice none 0 0],J 0]/\Below w.heap.size w w2:=by
 refine aG Gn Z Z ?_
 have H:=Hp.start w
 refine W<|Zr<|fc H cH Z fun w1 b2 H=>G (Wi Z)<|U<|W<|W<|Zr<|G (Yi Z)<|G (cV Z Z I)<|G (Yb Z)<|ZG<|G (Yi Z)<|ZG<|G (dX Z Z I)<|G (N Z Z)<|U<|ZF Z<|Zk<|W<|Zr<|G (Yi Z)<|G (bp (cs:= #[J 0,J 1,J n,.slice none 0 0]) fI cH N)<|bI H 0 (#[J 0,J 1,J n,.slice none 0 0]) aH Z Z Z Z Z N N fun w2 H=>G (Wi Z)<|U<|Zt ?_
 exact cu (cs0:= #[J 0,J 1,J n,.slice none 0 0]) (v1:=J 0) Z az Z (H.ent (i:=0) Z) Z Z ⟨rfl,H.below⟩
theorem Nj: ∀ {l:List Int} {a:Int} {k:Nat} {x:Int},fa a l=true->l[k]? =some x->a<x/\x<4/\ ∀ y,0<k->l[k-1]? =some y->y<x
 |[],_,_,_,_,h=>by simp at h
 |p::l,a,0,x,h,hx=>by
  obtain rfl:p=x:=by simpa using hx
  unfold fa at h
  simp only[bg,decide_eq_true_eq]at h
  exact⟨h.1.1,h.1.2,fun y h0=>by omega⟩
 |p::l,a,k+1,x,h,hx=>by
  unfold fa at h
  simp only[bg,decide_eq_true_eq]at h
  obtain⟨h1,h2,h3⟩:=Nj (k:=k) h.2 (by simpa using hx)
  refine⟨by omega,h2,fun y _ hy=> ?_⟩
  cases k with
  |zero=>
   obtain rfl:p=y:=by simpa using hy
   exact h1
  |succ k=>exact h3 y I (by simpa using hy)
theorem RS (ck nx wt:Int) (At:Option Addr) (n ct:Nat) (t:Tx) (w:World) (hr:Rd bR 0 w.heap.size t.A t.parts w) (hpl:t.parts.length<=1000000) (hok:ra ck nx t=true):
  di aa HH [.agg #[J ck,J nx,J wt,.slice At n ct],t.v] w fun v w2=>v=.bool true/\Below w.heap.size w w2:=by
 refine aG Gm Z Z ?_
 have H:=Hp.startRd hr
 obtain⟨a1,a2,a3,a4,a5,a6,a7,a8,a9,a10,a11⟩:=dp.1 hok
 refine W<|Zr<|gU H Z Z fun w1 b2 H=>gU H Z Z fun w2 b3 H=>G (Wb Z)<|U<|W<|W ?_
 refine gp (τ:=Unit) [7,8,9,10,11,12,13,14,15,16,17,18,19,20,21,22,23,24,25,26,27,28,29,30,31,32,33,34,35,36,37,38,39,40,41,42,43,44,45,46,47,48,49,50,51,52,53,54,55,56,57,58,59,60,61,62,63,64,65] (fun _=>[(65,.bool false)]) (fun _ w'=>Hp w w' [(b3,.cells #[.string (t.name),J (t.pid),J (t.ver),J (t.state),.slice t.A t.parts.length t.cap,J (t.since),J (t.done)] dH (0,0)),(b2,.cells #[J (ck),J (nx),J (wt),.slice At n ct] aX (0,0))] ([ee bR 0 w.heap.size t.A t.parts])) ?_ ?_
 refine Zr<|G (Zf oQ Z)<|G (Zd aY H 0 Z Z Z)<|cE sF ((by have hA:=FP t.name w2;rw[a1]at hA;exact hA)) Z Z ?_
 rintro _ w3 ⟨rfl,hb⟩;replace H:=H.later hb;clear hb
 refine G (d9 Z)<|G (Yb Z)<|ZG<|G (Zf lJ Z)<|ZG<|G (Zd al H 0 Z Z Z)<|ZG<|G (cV Z Z I)<|G (N Z Z)<|G (Yb Z)<|ZG<|G (Zf lJ Z)<|ZG<|G (Zd al H 0 Z Z Z)<|ZG<|G (Zf kJ Z)<|ZG<|G (Zd al H 1 Z Z Z)<|ZG<|G (nP Z Z I)<|G (N Z Z)<|G (Yb Z)<|ZG<|G (Zf gN Z)<|ZG<|G (Zd al H 0 Z Z Z)<|ZG<|cE uo ((by have hA:=C8 t.ver w3;rw[a4]at hA;exact hA)) Z Z ?_
 rintro _ w4 ⟨rfl,hb⟩;replace H:=H.later hb;clear hb
 refine ZG<|G (d9 Z)<|G (N Z Z)<|G (Yb Z)<|ZG<|G (Zf dd Z)<|ZG<|G (Zd al H 0 Z Z Z)<|ZG<|G (cV Z Z I)<|G (N Z Z)<|G (Yb Z)<|ZG<|G (Zf dd Z)<|ZG<|G (Zd al H 0 Z Z Z)<|ZG<|G (dX Z Z I)<|G (N Z Z)<|G (Yb Z)<|ZG<|G (Zf vx Z)<|ZG<|G (Zd al H 0 Z Z Z)<|ZG<|G (cV Z Z I)<|G (N Z Z)<|G (Yb Z)<|ZG<|G (Zf vx Z)<|ZG<|G (Zd al H 0 Z Z Z)<|ZG<|G (Zf kK Z)<|ZG<|G (Zd al H 1 Z Z Z)<|ZG<|G (dX Z Z I)<|G (N Z Z)<|G (Yb Z) ?_
 refine ZG<|G (Zf jx Z)<|ZG<|G (Zd al H 0 Z Z Z)<|ZG ?_
 refine sU (jv Z Z) Z Z Z (fun h54=> ?_) (fun h54=> ?_)
 refine ZG<|G (Yb Z)<|ZG<|G (Zf jx Z)<|ZG<|G (Zd al H 0 Z Z Z)<|ZG ?_
 refine sU (jv Z Z) Z Z Z (fun h58=> ?_) (fun h58=> ?_)
 refine ZG<|G (Kt Z Z)<|ZG<|G (Yb Z)<|ZG<|G (Zf jx Z)<|ZG<|G (Zd al H 0 Z Z Z)<|ZG<|G (cj Z Z I)<|ZG<|G (Kt Z Z)<|G (N Z Z)<|U ?_
 exact⟨(),H,ef Z,Qg⟩
 refine ZG<|G (Kt Z Z)<|ZG<|G (Yb Z)<|ZN<|ZN<|ZN<|ZG<|G (N Z Z)<|G (N Z Z)<|U ?_
 exact⟨(),H,ef Z,Qg⟩
 refine ZG<|G (Yb Z)<|ZN<|ZN<|ZN<|ZG<|G (N Z Z)<|ZG<|G (Yb Z)<|ZN<|ZN<|ZN<|ZG<|G (N Z Z)<|G (N Z Z)<|U ?_
 exact⟨(),H,ef Z,Qg⟩
 rintro _ ρ1 w5 H
 show CW _ _ _ _ (dO (ij _ _ ρ1) [(65,.bool false)]) w5
 refine ZF Z<|Zk<|W<|W<|Zr<|G (Zf ey Z)<|G (Zd cP H 0 Z Z Z)<|G (bl fp Z)<|G (Yi Z)<|U<|Zb ?_
 refine bV (τ:=Nat) [4,5,6,69,70,71,72,73,74,75,76,77,78,79,80,81,82,83,84,85,86,87,88,89,90,91,92,93,94] (fun k=>[(69,J (k:Nat))]) (fun k w'=>k<=t.parts.length/\Hp w w' [(b3,.cells #[.string (t.name),J (t.pid),J (t.ver),J (t.state),.slice t.A t.parts.length t.cap,J (t.since),J (t.done)] dH (0,0)),(b2,.cells #[J (ck),J (nx),J (wt),.slice At n ct] aX (0,0))] ([ee bR 0 w.heap.size t.A t.parts])) (fun k=>t.parts.length-k) 0 ⟨aV _,H⟩ (ef Z) ?_
 rintro k ρ1 w6 ⟨hk,H⟩
 show CW _ _ _ _ (dO (ij _ _ ρ1) [(69,J (k:Nat))]) w6
 refine W<|Zr ?_
 refine dZ (cI Z Z) Z Z Z (fun h70=> ?_) (fun h70=> ?_)
 refine U<|W<|ZT Z<|Zk<|W<|Zb<|W ?_
 obtain⟨x,hxk⟩: ∃ x,t.parts[k]? =some x:=⟨_,ai I⟩
 refine Zr<|G (Yi Z)<|rE H 0 Z bj Z Z I I Z fun bq7 o7 x7 e7=> ?_
 obtain rfl:x=x7:=by have:=e7.at_;rw[hxk]at this;exact aZ this
 refine G (bd al Z (e7.cl 0 _ Z))<|G (Wi Z)<|G (Wi Z)<|U<|W ?_
 refine gp (τ:=Unit) [74,75,76,77,78,79,80,81,82,83,84,85,86,87,88,89,90,91,92,93] (fun _=>[(93,.bool false)]) (fun _ w'=>Hp w w' [(b3,.cells #[.string (t.name),J (t.pid),J (t.ver),J (t.state),.slice t.A t.parts.length t.cap,J (t.since),J (t.done)] dH (0,0)),(b2,.cells #[J (ck),J (nx),J (wt),.slice At n ct] aX (0,0))] ([ee bR 0 w.heap.size t.A t.parts])) ?_ ?_
 have hx:=Nj a10 hxk
 refine Zr<|G (Yi Z)<|G (cV Z Z I)<|G (Yb Z)<|ZG<|G (Yi Z)<|ZG<|G (nP Z Z I)<|G (N Z Z)<|G (Yb Z)<|ZG<|G (Yi Z)<|ZG ?_
 refine dZ (nC Z Z) Z Z Z (fun h82=> ?_) (fun h82=> ?_)
 obtain⟨y,hyk⟩: ∃ y,t.parts[k-1]? =some y:=⟨_,ai I⟩
 have hyx:=hx.2.2 y I hyk
 refine ZG<|G (Yb Z)<|ZG<|G (Zf ey Z)<|ZG<|G (Zd cP H 0 Z Z Z)<|ZG<|G (Yi Z)<|ZG<|G (qt Z Z I I) ?_
 rw[show(k:Int)-1=((k-1:Nat):Int) by omega]
 refine ZG<|rE H 0 Z bj Z Z I I Z fun bq8 o8 x8 e8=> ?_
 obtain rfl:y=x8:=by have:=e8.at_;rw[hyk]at this;exact aZ this
 refine ZG<|G (bd al Z (e8.cl 0 _ Z))<|ZG<|G (Yi Z)<|ZG<|G (nP Z Z I)<|ZG<|G (Kt Z Z)<|G (N Z Z)<|U ?_
 exact⟨(),H,ef Z,Qg⟩
 refine ZG<|G (Yb Z)<|ZN<|ZN<|ZN<|ZN<|ZN<|ZN<|ZN<|ZN<|ZG<|G (N Z Z)<|G (N Z Z)<|U ?_
 exact⟨(),H,ef Z,Qg⟩
 rintro _ ρ1 w9 H
 show CW _ _ _ _ (dO (ij _ _ ρ1) [(93,.bool false)]) w9
 refine ZF Z<|Zk<|Zr<|G (bn Z Z I I)<|G (Yi Z)<|U ?_
 exact⟨k+1,⟨by omega,H⟩,ef Z,Qg,by show t.parts.length- (k+1)<t.parts.length-k;omega⟩
 refine U<|W<|ZF Z<|Zx<|W<|Zr<|G (Zf dd Z)<|G (Zd al H 0 Z Z Z)<|G (cr Z Z)<|G (Zf ey Z)<|G (Zd cP H 0 Z Z Z)<|G (bl fp Z)<|G (cr Z Z)<|G (Po GR Z Z)<|G (Wb Z)<|U<|Zt ?_
 have hv:(decide (t.state=1)==decide ((t.parts.length:Int)=0))=true:=by rw[beq_iff_eq,decide_eq_decide];exact a11.trans ⟨fun x=>by omega,fun x=>by omega⟩
 exact cU (v:=.bool (decide (t.state=1)==decide ((t.parts.length:Int)=0))) Z Z ⟨by rw[hv],H.below⟩
/-- a coordinator, and where its rows lie -/
structure Co where
 clock:Int
 next:Int
 wait:Int
 txs:List Tx
 A:Option Addr
 cap:Nat
def Co.c (c:Co):List Value:=[J c.clock,J c.next,J c.wait,.slice c.A c.txs.length c.cap]
abbrev Co.v (c:Co):Value:=.agg c.c.toArray
def iW (lo hi:Nat) (txs:List Tx):cf:=⟨lo,hi,fun w=> ∀ t∈txs,Rd bR lo hi t.A t.parts w,fun _ _ hk h t ht=>(h t ht).st hk⟩
theorem fG {w0 w:World} {L:List (Nat×Obj)} {F:List cf} {lo hi:Nat} {txs:List Tx} (H:Hp w0 w L F) (i:Nat) (hF:F[i]? =some (iW lo hi txs)) {t:Tx} (ht:t∈txs):Rd bR 0 w.heap.size t.A t.parts w:=
 Rd.mono ((H.fact hF) t ht) (aV _) (H.facts _ (ab hF)).2.1
def qu (t:Tx) (p:Tx):Bool:=decide (p.name=t.name)||decide (p.pid=t.pid)
def rz (ck nx:Int):List Tx->List Tx->Bool
 |_,[]=>true
 |pre,t::l=>ra ck nx t&&!(pre.any (qu t))&&rz ck nx (pre++[t]) l
def iD (c:Co):Bool:=iu c.clock&&decide (1<=c.next)&&decide (c.next<=1073741824)&&decide (1<=c.wait)&&decide (c.wait<=1000)&&decide ((c.txs.length:Int)<=8)&&rz c.clock c.next [] c.txs
theorem ta {c:Co}:iD c=true↔iu c.clock=true/\1<=c.next/\c.next<=1073741824/\1<=c.wait/\c.wait<=1000/\(c.txs.length:Int)<=8/\rz c.clock c.next [] c.txs=true:=by
 unfold iD
 simp only[bg,decide_eq_true_eq,and_assoc]
structure Co.rd (c:Co) (lo hi:Nat) (w:World):Prop where
 row:Rd sJ lo hi c.A c.txs w
 parts: ∀ t∈c.txs,Rd bR lo hi t.A t.parts w
 cap:c.txs.length<=c.cap
 few:c.txs.length<=1000000
 fewP: ∀ t∈c.txs,t.parts.length<=1000000/\t.parts.length<=t.cap
theorem Hp.startCo {c:Co} {w:World} (h:c.rd 0 w.heap.size w):Hp w w [] [ee sJ 0 w.heap.size c.A c.txs,iW 0 w.heap.size c.txs]:=
 ((Hp.start w).learnOld (iW 0 w.heap.size c.txs) h.parts (ap _)).learnOld (ee sJ 0 w.heap.size c.A c.txs) h.row (ap _)
theorem GS {ck nx:Int}: ∀ {l pre:List Tx} {k:Nat} {t:Tx},rz ck nx pre l=true->l[k]? =some t->ra ck nx t=true/\(pre++l.take k).any (qu t)=false
 |[],_,_,_,_,h=>by simp at h
 |x::l,pre,0,t,h,ht=>by
  obtain rfl:x=t:=by simpa using ht
  unfold rz at h
  simp only[bg,vV]at h
  exact⟨h.1.1,by rw[AJ,aP];exact h.1.2⟩
 |x::l,pre,k+1,t,h,ht=>by
  unfold rz at h
  simp only[bg]at h
  have:=GS (k:=k) h.2 (by simpa using ht)
  rw[aB]at this
  exact this
theorem qM (c:Co) (w:World) (h:c.rd 0 w.heap.size w) (hok:iD c=true):di aa DO [c.v] w fun v w2=>v=J (if iD c then 0 else 12)/\Below w.heap.size w w2:=by
 refine aG CT Z Z ?_
 have hcap:=h.cap
 have hfew:=h.few
 have hfp:=h.fewP
 have H:=Hp.startCo h
 obtain⟨ck,nx,wt,txs,cA,cc⟩:=c
 dsimp only at hcap hfew hfp H
 obtain⟨a1,a2,a3,a4,a5,a6,a7⟩:=ta.1 hok
 dsimp only at a1 a2 a3 a4 a5 a6 a7
 show CW _ _ _ _ (args [.agg #[J ck,J nx,J wt,.slice cA txs.length cc]]) w
 refine W<|Zr<|gU H Z Z fun w1 b1 H=>G (Wi Z)<|U<|W<|W<|Zr<|G (Zf kK Z)<|G (Zd al H 0 Z Z Z)<|cE uo ((by have hA:=C8 ck w1;rw[a1]at hA;exact hA)) Z Z ?_
 rintro _ w2 ⟨rfl,hb⟩;replace H:=H.later hb;clear hb
 refine G (d9 Z)<|G (Yb Z)<|ZG<|G (Zf kJ Z)<|ZG<|G (Zd al H 0 Z Z Z)<|ZG<|G (cV Z Z I)<|G (N Z Z)<|G (Yb Z)<|ZG<|G (Zf kJ Z)<|ZG<|G (Zd al H 0 Z Z Z)<|ZG<|G (dX Z Z I)<|G (N Z Z)<|G (Yb Z)<|ZG<|G (Zf xO Z)<|ZG<|G (Zd al H 0 Z Z Z)<|ZG<|G (cV Z Z I)<|G (N Z Z)<|G (Yb Z)<|ZG<|G (Zf xO Z)<|ZG<|G (Zd al H 0 Z Z Z)<|ZG<|G (dX Z Z I)<|G (N Z Z)<|G (Yb Z)<|ZG<|G (Zf cR Z)<|ZG<|G (Zd dP H 0 Z Z Z)<|ZG<|G (bl lG Z) ?_
 refine ZG<|G (dX Z Z I)<|G (N Z Z)<|U<|ZF Z<|Zk<|W<|W<|Zr<|G (Zf cR Z)<|G (Zd dP H 0 Z Z Z)<|G (bl lG Z)<|G (Yi Z)<|U<|Zb ?_
 refine bV (τ:=Nat) [2,3,4,38,39,40,41,42,43,44,45,46,47,48,49,50,51,52,53,54,55] (fun k=>[(38,J (k:Nat))]) (fun k w'=>k<=txs.length/\Hp w w' [(b1,.cells #[J (ck),J (nx),J (wt),.slice cA txs.length cc] aX (0,0))] ([ee sJ 0 w.heap.size cA txs,iW 0 w.heap.size txs])) (fun k=>txs.length-k) 0 ⟨aV _,H⟩ (ef Z) ?_
 rintro k ρ1 w3 ⟨hk,H⟩
 show CW _ _ _ _ (dO (ij _ _ ρ1) [(38,J (k:Nat))]) w3
 refine W<|Zr ?_
 refine dZ (cI Z Z) Z Z Z (fun h39=> ?_) (fun h39=> ?_)
 refine U<|W<|ZT Z<|Zk<|W<|Zb<|W ?_
 obtain⟨t,hxk⟩: ∃ t,txs[k]? =some t:=⟨_,ai I⟩
 have htk:=GS a7 hxk
 refine Zr<|G (Yi Z)<|rE H 0 Z gY Z Z I I Z fun bq4 o4 x4 e4=> ?_
 obtain rfl:t=x4:=by have:=e4.at_;rw[hxk]at this;exact aZ this
 refine G (jF (xs:=Tx.c t) BD Z Z e4.cl)<|fc H J6 Z fun w5 b4 H=>G (Wi Z)<|bI H 0 (#[.string (t.name),J (t.pid),J (t.ver),J (t.state),.slice t.A t.parts.length t.cap,J (t.since),J (t.done)]) Kb Z Z Z Z Z N N fun w6 H=>U<|W<|Zr<|G (Zw az H 1 Z Z Z)<|G (Zw BD H 0 Z Z Z)<|cE GC ((RS ck nx wt cA txs.length cc t _ (fG H 1 Z (ab hxk)) (hfp _ (ab hxk)).1 htk.1)) Z Z ?_
 rintro _ w7 ⟨rfl,hb⟩;replace H:=H.later hb;clear hb
 refine G (d9 Z)<|G (Yb Z)<|ZG<|G (Zf cR Z)<|ZG<|G (Zd dP H 1 Z Z Z)<|ZG<|G (Yi Z)<|ZG<|xu (k:=k) H 0 Z gY Z Z hcap I Z fun A51 H=> ?_
 have htl:(txs.take k).length=k:=by rw[aI];omega
 refine ZG<|G (Ce Z)<|ZG ?_
 have hC:=fun q=>wI (txs.take k) A51 q _ (H.rd0 0 Z) I s6 [.pointer (Qd b4)] yW (qu t) (fun e w2 _ hw2=>Iq e t b4 w2 ((hw2.block _ (bX (H.ent (i:=0) Z))).trans (H.ent (i:=0) Z)))
 rw[htl,show(txs.take k).any (qu t)=false from htk.2]at hC
 replace hC:=hC cc
 refine cE nA (hC) Z Z ?_
 rintro _ w8 ⟨rfl,hb⟩;replace H:=H.later hb;clear hb
 refine G (N Z Z)<|U<|ZF Z<|Zk<|Zr<|G (bn Z Z I I)<|G (Yi Z)<|U ?_
 exact⟨k+1,⟨by omega,H.forget (.cons _ (au _)) (fun _ h=>aj _ h)⟩,ef Z,Qg,by show txs.length- (k+1)<txs.length-k;omega⟩
 refine U<|W<|ZF Z<|Zx<|W<|Zr<|G (Wi Z)<|U<|Zt ?_
 exact cU Z Z ⟨by rw[hok];rfl,H.below⟩
def Tx.a (t:Tx):Tx:={t with A:=none,cap:=0}
theorem i5 {α:Type} {l:List α} {k:Nat} {a:α} (h:l[k]? =some a):l.set k a=l:=by
 apply dg
 intro i
 rw[lQ]
 split
 rename_i hi
 subst hi
 split
 exact h.symm
 rename_i h2;rw[bL I]
 rfl
theorem Nh {α:Type} {l:List α} {k:Nat} (h:k<l.length) (a:α):(l.set k a).take (k+1)=l.take k++[a]:=by
 rw[ed (e:=a) (by rw[ak h]),BG (ap k)]
theorem E6 {out txs:List Tx} {k:Nat} {x x':Tx} (hx:out[k]? =some x) (hma:out.map Tx.a=txs.map Tx.a) (hdr:out.drop k=txs.drop k) (ha:x'.a=x.a):(out.set k x').map Tx.a=txs.map Tx.a/\(out.set k x').drop (k+1)=txs.drop (k+1)/\(out.set k x').take (k+1)=out.take k++[x']:=by
 refine⟨?_,?_,Nh (bZ hx).1 x'⟩
 rw[cO,ha,<-hma]
 exact i5 (by rw[aJ,hx];rfl)
 rw[tj I]
 have:=congrArg (List.drop 1) hdr
 rwa[km,km]at this
def Co.a (c:Co):Co:={c with txs:=c.txs.map Tx.a,A:=none,cap:=0}
theorem Hp.joinParts {w0 w:World} {L:List (Nat×Obj)} {F:List cf} {a b lo hi:Nat} {ts:List Tx} {t:Tx} (H:Hp w0 w L (ee bR a b t.A t.parts::iW lo hi ts::F)) (hL: ∀ e∈L,e.1<lo) (hlo:lo<=a) (hhi:hi<=b):Hp w0 w L (iW lo b (ts++[t])::F):=by
 refine⟨H.below,H.ents,H.nodup,fun f hf=> ?_⟩
 rcases ay.1 hf with rfl|hf
 have h1:=H.facts _ (aA ..)
 have h2:=H.facts _ (aj _ (aA ..))
 refine⟨fun x hx=> ?_,h1.2.1,fun e he=> .inl (hL e he)⟩
 rcases ar.1 hx with hx|hx
 exact Rd.mono (h2.1 x hx) (ap _) hhi
 rw[aq.1 hx]
 exact Rd.mono (lo':=lo) (hi':=b) (show Rd bR a b t.A t.parts w from h1.1) hlo (ap _)
 exact H.facts f (aj _ (aj _ hf))
theorem LE {w0 w:World} {L:List (Nat×Obj)} {F:List cf} (H:Hp w0 w L F) (lo:Nat) (hlo: ∀ e∈L,e.1<lo) (h:lo<=w.heap.size):Hp w0 w L (iW lo lo []::F):=by
 refine⟨H.below,H.ents,H.nodup,fun f hf=> ?_⟩
 rcases ay.1 hf with rfl|hf
 exact⟨fun x hx=>absurd hx (by simp),h,fun e he=> .inl (hlo e he)⟩
 exact H.facts f hf
theorem yT (es:List Tx) (A:Option Addr) (c:Nat) (w:World) (hr:Rd sJ 0 w.heap.size A es w) (hb:es.length*80<=140737488355328):
  di aa sY [.slice A es.length c] w fun v w2=> ∃ A' c' L',v=.slice A' es.length c'/\es.length<=c'/\c'<=maxLen/\gb sJ (.slice A' es.length c') dH es L'/\Hp w w2 L' []:=by
 refine aG si Z Z ?_
 have H:=Hp.startRd hr
 refine W<|Zr<|G (Ws Z)<|U<|W<|W<|Zr<|G (Ys Z) ?_
 refine By (pX lG Z) Z Z Z (fun h4=> ?_) (fun h4=> ?_)
 refine U<|ZT Z<|W<|Zr<|G (Ws Z)<|U<|Zt ?_
 have he:es=[]:=by
  cases es with
  |nil=>rfl
  |cons e es=>obtain⟨b,o,hA,_⟩:=hr (by simp);subst hA;cases h4
 subst he
 exact cU Z Z ⟨none,0,[],rfl,by simp,by decide,gb.nil,H.forget (by simp) (by simp)⟩
 refine U<|ZF Z<|Zk<|W<|Zr<|Rg H gY Z fun w1 b5 H=>G (Ys Z)<|uO (Y:=sJ) KK (K:=[]) (L:=[(b5,_)]) (M:=[]) H (sI.lit (by decide) (by rfl)) (es:=[]) (news:=es) Z Z Z (Rd.src (H.fact (i:=0) Z)) (by simpa using hb) Z ?_
 intro A3 c3 w3 L3 h3a h3b ho3 H
 refine G (Ws Z)<|U<|Zt ?_
 exact cU Z Z ⟨A3,c3,L3,rfl,h3a,h3b,ho3,H.forget (by simp) (by simp)⟩
theorem zM (c:Co) (w:World) (h:c.rd 0 w.heap.size w):di aa yC [c.v] w fun v w2=> ∃ (c':Co) (L':List (Nat×Obj)) (lo hi:Nat),v=c'.v/\c'.a=c.a/\gb sJ (.slice c'.A c'.txs.length c'.cap) dH c'.txs L'/\c'.txs.length<=c'.cap/\(∀ t∈c'.txs,t.parts.length<=t.cap)/\w.heap.size<=lo/\Hp w w2 L' [iW lo hi c'.txs]:=by
 refine aG xb Z Z ?_
 have hcap:=h.cap
 have hfew:=h.few
 have hfp:=h.fewP
 have H:=Hp.startCo h
 obtain⟨ck,nx,wt,txs,cA,cc⟩:=c
 dsimp only at hcap hfew hfp H
 show CW _ _ _ _ (args [.agg #[J ck,J nx,J wt,.slice cA txs.length cc]]) w
 refine W<|Zr<|gU H Z Z fun w1 b1 H=>fc H cH Z fun w2 b2 H=>U<|W<|Zr<|G (Zf cR Z)<|G (Zd dP H 1 Z Z Z)<|cE lL (yT txs cA cc _ (H.rd0 0 Z) I) Z Z ?_
 rintro _ w3 ⟨A6,c6,L6,rfl,hc6,hm6,ho6,hj6⟩;replace H:=H.joinR hj6;clear hj6
 refine G (Zf cR Z)<|bI H 1 (#[J ck,J nx,J wt,.slice A6 txs.length c6]) BW Z Z Z Z Z N N fun w4 H=>U<|W<|W ?_
 have hlt0:=H.ltAll
 obtain⟨lo,hlo⟩: ∃ lo,lo=w4.heap.size:=⟨_,rfl⟩
 rw[<-hlo]at hlt0
 have hlow:w.heap.size<=lo:=by rw[hlo];exact H.size
 replace H:=LE H lo hlt0 I
 have hb1:b1<lo:=hlt0 (b1,_) (ru _ (ik _))
 have hb2:b2<lo:=hlt0 (b2,_) (ik _)
 have hL6: ∀ e∈L6,e.1<lo:=fun e he=>hlt0 e (ru _ (ru _ (gk _ he)))
 refine Zr<|G (Zf cR Z)<|G (Zd dP H 1 Z Z Z)<|G (bl lG Z)<|G (Yi Z)<|U<|Zb ?_
 refine bV (τ:=Nat×List Tx×Option Addr×Nat×Nat) [3,11,12,13,14,15,16,17,18,19,20,21,22,23,24,25,26] (fun(k,_)=>[(11,J (k:Nat))]) (fun(k,out,A1,c1,hi) w'=>k<=out.length/\out.length=txs.length/\out.length<=c1/\out.map Tx.a=txs.map Tx.a/\out.drop k=txs.drop k/\(∀ t∈out.take k,t.parts.length<=t.cap)/\lo<=w'.heap.size/\ ∃ L',gb sJ (.slice A1 out.length c1) dH out L'/\(∀ e∈L',e.1<lo)/\Hp w w' ([(b2,.cells #[J 0,J 0,J 0,.slice none 0 0] aX (0,0)),(b1,.cells #[J ck,J nx,J wt,.slice A1 out.length c1] aX (0,0))]++L'++[]) [iW lo hi (out.take k),ee sJ 0 w.heap.size cA txs,iW 0 w.heap.size txs]) (fun(k,out,_)=>out.length-k) (0,txs,A6,c6,lo) ⟨by omega,rfl,hc6,rfl,rfl,by simp,by omega,L6,ho6,hL6,H⟩ (ef Z) ?_
 rintro⟨k,out,A1,c1,hi⟩ ρ1 w5 ⟨hk,hol,hoc,hma,hdr,hpc,hlw,L1,ho,hL1,H⟩
 show CW _ _ _ _ (dO (ij _ _ ρ1) [(11,J (k:Nat))]) w5
 refine W<|Zr ?_
 refine dZ (cI Z Z) Z Z Z (fun h12=> ?_) (fun h12=> ?_)
 refine U<|W<|ZT Z<|Zk<|W<|Zb<|W ?_
 obtain⟨x,hx⟩: ∃ x,out[k]? =some x:=⟨_,ai I⟩
 have hxt:txs[k]? =some x:=by have:=congrArg (fun l=>l[0]?) hdr;simp only[df,mS]at this;rw[<-this];exact hx
 have hmem:=ab hxt
 have hfx:=(hfp x hmem).1
 obtain⟨g,cur,rfl,rfl,row⟩:=ho.row I
 have hg:g<lo:=hL1 (g,_) (eh _)
 refine Zr<|G (Yi Z)<|G (Wi Z)<|U ?_
 have hhi5:=(H.facts _ (ik _)).2.1
 refine bG cv [0,1,2,3,4,5,6,7,8,9,10,11] [12] [9] [0,2,3,5,6,7,10,11] (sp [(9,Sp.row w5.heap.size bR x.parts)]) N N N N Nq (cG _) ?_
 refine aw Z Z Z Z Z (fun w' hw'=>Zf cR Z)<|aw Z Z Z Z Z (fun w' hw'=>bd dP Z (aK ((H.later hw').ent (i:=1) Z) Z))<|aw Z Z Z Z Z (fun w' hw'=>Yi Z)<|aw Z Z Z Z Z (fun w' hw'=>Zf cR Z)<|aw Z Z Z Z Z (fun w' hw'=>bd dP Z (aK ((H.later hw').ent (i:=1) Z) Z))<|aw Z Z Z Z Z (fun w' hw'=>Yi Z)<|aw Z Z Z Z Z (fun w' hw'=>cL gY Z Z I)<|aw Z Z Z Z Z (fun w' hw'=>Zf ey Z)<|aw Z Z Z Z Z (fun w' hw'=>bW cP row hx 4 Z ((H.later hw').ent (i:=2) Z) Z)<|E8 gD Z Z Z Z Z (fun w' hw'=>hw'.size) (fun w' hw'=>yS x.parts _ _ w' (fG (H.later hw') 2 Z hmem) I) Z fun A23 c23 hc23=>aw Z Z Z Z Z (fun w' hw'=>cL gY Z Z I)<|aw Z Z Z Z Z (fun w' hw'=>Zf ey Z)<|aT ?_
 intro w6 hw' hF
 have hsz:=hw'.size
 obtain⟨hF,Aq,cq,eq,hcq,hrw23⟩:=hF;cases eq;clear hcq
 replace H:=H.learnRd hw' hrw23
 clear hw' hF
 refine nt H 2 ({x with A:=A23,cap:=c23}) jV row hx 4 Z Z Z Z Z Z N fun w8 cur7 row7 H=>U<|Zr<|G (bn Z Z I I)<|G (Yi Z)<|U ?_
 obtain⟨z1,z2,z3⟩:=E6 (x':={x with A:=A23,cap:=c23}) hx hma hdr Z
 have hb5:=(H.facts _ (ik _)).2.1
 dsimp only[ee]at hb5
 have HJ:=Hp.joinParts (t:={x with A:=A23,cap:=c23}) H (fun e he=>by rcases ay.1 he with rfl|he;exact hb2;rcases ay.1 he with rfl|he;exact hb1;rw[aq.1 he];exact hg) hlw (aW hhi5 hsz)
 rw[<-z3]at HJ
 refine⟨(k+1,out.set k {x with A:=A23,cap:=c23},some ⟨g,0,none⟩,c1,w6.heap.size),⟨by rw[ae];omega,by rw[ae];exact hol,by rw[ae];exact hoc,z1,z2,?_,by omega,_,d8.own row7,fun e he=>by rw[aq.1 he];exact hg,?_⟩,ef Z,Qg,by show(out.set k _).length- (k+1)<out.length-k;rw[ae];omega⟩
 rw[z3];intro t ht;rcases ar.1 ht with ht|ht;exact hpc t ht;rw[aq.1 ht];exact hc23
 rw[ae];exact HJ
 have hke:k=out.length:=by omega
 rw[hke,br]at H hpc
 refine U<|W<|ZF Z<|Zx<|W<|Zr<|G (Zw az H 1 Z Z Z)<|bI H 0 (#[J ck,J nx,J wt,.slice A1 out.length c1]) aH Z Z Z Z Z N N fun w9 H=>U<|Zt ?_
 exact gB (cs0:= #[J ck,J nx,J wt,.slice A1 out.length c1]) Z az Z (H.ent (i:=0) Z) Z ⟨⟨ck,nx,wt,out,A1,c1⟩,L1,lo,hi,rfl,by unfold Co.a;dsimp only;rw[hma],ho,hoc,hpc,hlow,H.forget (.cons _ (.cons _ (aE _ _))) (by simp)⟩
theorem Hp.joinF {w0 w w':World} {L L':List (Nat×Obj)} {F F':List cf} (H:Hp w0 w L F) (H':Hp w w' L' F') (hf': ∀ f∈F',w.heap.size<=f.lo):Hp w0 w' (L++L'++[]) (F'++F):=by
 have HJ:=H.joinR (H'.forget (au _) (F':=[]) (by simp))
 refine⟨HJ.below,HJ.ents,HJ.nodup,fun f hf=> ?_⟩
 rcases ar.1 hf with hf|hf
 obtain⟨h1,h2,h3⟩:=H'.facts f hf
 refine⟨h1,h2,fun e he=> ?_⟩
 rw[aP]at he
 rcases ar.1 he with he|he
 have:=H.ltAll e he
 have:=hf' f hf
 omega
 exact h3 e he
 exact HJ.facts f hf
def fN (c:Co) (s:ByteArray):Int:=lH (c.txs.findIdx? fun p=>decide (p.name=s))
def PN (w w2:World) (c c':Co) (L':List (Nat×Obj)) (lo hi:Nat):Prop:=c'.a=c/\gb sJ (.slice c'.A c'.txs.length c'.cap) dH c'.txs L'/\c'.txs.length<=c'.cap/\(∀ t∈c'.txs,t.parts.length<=t.cap)/\w.heap.size<=lo/\Hp w w2 L' [iW lo hi c'.txs]
theorem ME (c:Co) (s:ByteArray) (w:World) (h:c.rd 0 w.heap.size w) (hok:iD c=true) (hn:bC s=true):di aa yz [c.v,.string s] w fun v w2=> ∃ (c':Co) (L':List (Nat×Obj)) (lo hi:Nat),v=.tuple #[c'.v,J (fN c s),J 0]/\PN w w2 c.a c' L' lo hi:=by
 refine aG wZ Z Z ?_
 have hcap:=h.cap
 have hfew:=h.few
 have hfp:=h.fewP
 have H:=Hp.startCo h
 obtain⟨ck,nx,wt,txs,cA,cc⟩:=c
 dsimp only at hcap hfew hfp H
 show CW _ _ _ _ (args [.agg #[J ck,J nx,J wt,.slice cA txs.length cc],.string s]) w
 refine W<|Zr<|gU H Z Z fun w1 b2 H=>TL H Z Z fun w2 b3 H=>fc H cH Z fun w3 b4 H=>G (Wi Z)<|G (Wi Z)<|U<|W<|W<|Zr<|G (Zw az H 2 Z Z Z)<|cE kO (qM ⟨ck,nx,wt,txs,cA,cc⟩ _ ⟨H.rd0 0 Z,fun t ht=>fG H 1 Z ht,hcap,hfew,hfp⟩ hok) Z Z ?_
 rw[hok]
 rintro _ w4 ⟨rfl,hb⟩;replace H:=H.later hb;clear hb
 refine G (Wi Z)<|U<|W<|Zr<|G (Yi Z)<|G (cj Z Z Z)<|U<|ZF Z<|Zk<|W<|W<|Zr<|G (Zd aY H 1 Z Z Z)<|cE sF (FP s _) Z Z ?_
 rw[hn]
 rintro _ w5 ⟨rfl,hb⟩;replace H:=H.later hb;clear hb
 refine G (d9 Z)<|U<|ZF Z<|Zk<|W ?_
 refine rL cv [2,4] [0,1,3,5,6,7,8] [2,4] 7 N N N Nq ?_
 refine aw Z Z Z Z Z (fun w' hw'=>Zf cR Z)<|aw Z Z Z Z Z (fun w' hw'=>Ce Z)<|aT ?_
 intro w6 hw';replace H:=H.later hw';clear hw'
 refine uN 0 3 N Z Z ?_ ?_
 refine G (Zw az H 2 Z Z Z)<|U ?_
 refine uN 1 3 N Z Z ?_ ?_
 refine cE jm (zM ⟨ck,nx,wt,txs,cA,cc⟩ _ ⟨H.rd0 0 Z,fun t ht=>fG H 1 Z ht,hcap,hfew,hfp⟩) Z Z ?_
 have hsz0:=H.size
 rintro _ w7 ⟨⟨ck2,nx2,wt2,tx2,A2,c2⟩,L2,lo2,hi2,rfl,ha2,ho2,hoc2,hpc2,hlo2,hj2⟩
 replace H:=Hp.joinF H hj2 (by intro f hf;rw[aq.1 hf];exact hlo2);clear hj2
 simp only[Co.a,Co.mk.injEq]at ha2
 obtain⟨e1,e2,e3,hma,-,-⟩:=ha2
 obtain rfl:ck=ck2:=e1.symm
 obtain rfl:nx=nx2:=e2.symm
 obtain rfl:wt=wt2:=e3.symm
 dsimp only at ho2 hoc2 hpc2 H
 refine U<|db 3 N Z<|G (Zd dP H 2 Z Z Z)<|U<|db 5 N Z<|cE dG (gx txs cA cc _ (H.rd0 1 Z) I hM [.pointer (Qd b3)] iE (fun p=>decide (p.name=s)) (fun e w2 _ hw2=>nU e s b3 w2 ((hw2.block _ (bX (H.ent (i:=1) Z))).trans (H.ent (i:=1) Z)))) Z Z ?_
 rintro _ w8 ⟨rfl,hb⟩;replace H:=H.later hb;clear hb
 refine U<|db 6 N Z<|bI H 0 (#[J ck,J nx,J wt,.slice A2 tx2.length c2]) aH Z Z Z Z Z N N fun w9 H=>U<|db 7 N Z<|G (Wi Z)<|U<|db 8 N Z<|G (Wi Z)<|U<|cz N<|Zt ?_
 exact gM (cs0:= #[J ck,J nx,J wt,.slice A2 tx2.length c2]) (v1:=J (lH (txs.findIdx? fun p=>decide (p.name=s)))) (v2:=J 0) Z az Z (H.ent (i:=0) Z) Z Z Z ⟨⟨ck,nx,wt,tx2,A2,c2⟩,L2,lo2,hi2,rfl,by unfold Co.a;dsimp only;rw[hma],ho2,hoc2,hpc2,aW hsz0 hlo2,H.forget (.cons _ (.cons _ (.cons _ (aE _ _)))) (by simp)⟩
 refine G (Zd dP H 2 Z Z Z)<|U<|db 1 N Z<|cE jm (zM ⟨ck,nx,wt,txs,cA,cc⟩ _ ⟨H.rd0 0 Z,fun t ht=>fG H 1 Z ht,hcap,hfew,hfp⟩) Z Z ?_
 have hsz0:=H.size
 rintro _ w10 ⟨⟨ck2,nx2,wt2,tx2,A2,c2⟩,L2,lo2,hi2,rfl,ha2,ho2,hoc2,hpc2,hlo2,hj2⟩
 replace H:=Hp.joinF H hj2 (by intro f hf;rw[aq.1 hf];exact hlo2);clear hj2
 simp only[Co.a,Co.mk.injEq]at ha2
 obtain⟨e1,e2,e3,hma,-,-⟩:=ha2
 obtain rfl:ck=ck2:=e1.symm
 obtain rfl:nx=nx2:=e2.symm
 obtain rfl:wt=wt2:=e3.symm
 dsimp only at ho2 hoc2 hpc2 H
 refine U<|db 5 N Z<|cE dG (gx txs cA cc _ (H.rd0 1 Z) I hM [.pointer (Qd b3)] iE (fun p=>decide (p.name=s)) (fun e w2 _ hw2=>nU e s b3 w2 ((hw2.block _ (bX (H.ent (i:=1) Z))).trans (H.ent (i:=1) Z)))) Z Z ?_
 rintro _ w11 ⟨rfl,hb⟩;replace H:=H.later hb;clear hb
 refine U<|db 6 N Z<|bI H 0 (#[J ck,J nx,J wt,.slice A2 tx2.length c2]) aH Z Z Z Z Z N N fun w12 H=>U<|db 7 N Z<|G (Wi Z)<|U<|db 8 N Z<|G (Wi Z)<|U<|cz N<|Zt ?_
 exact gM (cs0:= #[J ck,J nx,J wt,.slice A2 tx2.length c2]) (v1:=J (lH (txs.findIdx? fun p=>decide (p.name=s)))) (v2:=J 0) Z az Z (H.ent (i:=0) Z) Z Z Z ⟨⟨ck,nx,wt,tx2,A2,c2⟩,L2,lo2,hi2,rfl,by unfold Co.a;dsimp only;rw[hma],ho2,hoc2,hpc2,aW hsz0 hlo2,H.forget (.cons _ (.cons _ (.cons _ (aE _ _)))) (by simp)⟩
 refine G (Zd dP H 2 Z Z Z)<|U<|db 0 N Z<|G (Zw az H 2 Z Z Z)<|U<|db 1 N Z<|cE jm (zM ⟨ck,nx,wt,txs,cA,cc⟩ _ ⟨H.rd0 0 Z,fun t ht=>fG H 1 Z ht,hcap,hfew,hfp⟩) Z Z ?_
 have hsz0:=H.size
 rintro _ w13 ⟨⟨ck2,nx2,wt2,tx2,A2,c2⟩,L2,lo2,hi2,rfl,ha2,ho2,hoc2,hpc2,hlo2,hj2⟩
 replace H:=Hp.joinF H hj2 (by intro f hf;rw[aq.1 hf];exact hlo2);clear hj2
 simp only[Co.a,Co.mk.injEq]at ha2
 obtain⟨e1,e2,e3,hma,-,-⟩:=ha2
 obtain rfl:ck=ck2:=e1.symm
 obtain rfl:nx=nx2:=e2.symm
 obtain rfl:wt=wt2:=e3.symm
 dsimp only at ho2 hoc2 hpc2 H
 refine U<|db 5 N Z<|cE dG (gx txs cA cc _ (H.rd0 1 Z) I hM [.pointer (Qd b3)] iE (fun p=>decide (p.name=s)) (fun e w2 _ hw2=>nU e s b3 w2 ((hw2.block _ (bX (H.ent (i:=1) Z))).trans (H.ent (i:=1) Z)))) Z Z ?_
 rintro _ w14 ⟨rfl,hb⟩;replace H:=H.later hb;clear hb
 refine U<|db 6 N Z<|bI H 0 (#[J ck,J nx,J wt,.slice A2 tx2.length c2]) aH Z Z Z Z Z N N fun w15 H=>U<|db 7 N Z<|G (Wi Z)<|U<|db 8 N Z<|G (Wi Z)<|U<|cz N<|Zt ?_
 exact gM (cs0:= #[J ck,J nx,J wt,.slice A2 tx2.length c2]) (v1:=J (lH (txs.findIdx? fun p=>decide (p.name=s)))) (v2:=J 0) Z az Z (H.ent (i:=0) Z) Z Z Z ⟨⟨ck,nx,wt,tx2,A2,c2⟩,L2,lo2,hi2,rfl,by unfold Co.a;dsimp only;rw[hma],ho2,hoc2,hpc2,aW hsz0 hlo2,H.forget (.cons _ (.cons _ (.cons _ (aE _ _)))) (by simp)⟩
def gH (s:ByteArray) (pid:Int):Tx:=⟨s,pid,0,1,[],0,0,none,0⟩
def kN (c:Co) (s:ByteArray):Co:={c with next:=c.next+1,txs:=c.txs++[gH s c.next]}
theorem Im (c:Co) (s:ByteArray) (w:World) (h:c.rd 0 w.heap.size w) (hok:iD c=true) (hn:bC s=true) (hi:fN c s<0) (hf:c.txs.length=8):di aa m4 [c.v,.string s] w fun v w2=>v=.tuple #[.agg #[J 0,J 0,J 0,.slice none 0 0],J 0,J 0,J 16]/\Below w.heap.size w w2:=by
 refine aG oq Z Z ?_
 have hcap:=h.cap
 have hfew:=h.few
 have hfp:=h.fewP
 have H:=Hp.startCo h
 obtain⟨ck,nx,wt,txs,cA,cc⟩:=c
 dsimp only at hcap hfew hfp H
 show CW _ _ _ _ (args [.agg #[J ck,J nx,J wt,.slice cA txs.length cc],.string s]) w
 dsimp only at hf
 refine W<|Zr<|gU H Z Z fun w1 b2 H=>fc H cH Z fun w2 b4 H=>G (Wi Z)<|G (Wi Z)<|G (Wi Z)<|U<|W<|Zr<|G (Zw az H 1 Z Z Z)<|G (Yt Z)<|cE iz (ME ⟨ck,nx,wt,txs,cA,cc⟩ s _ ⟨H.rd0 0 Z,fun t ht=>fG H 1 Z ht,hcap,hfew,hfp⟩ hok hn) Z Z ?_
 have hsz0:=H.size
 rintro _ w3 ⟨⟨ck2,nx2,wt2,tx2,A2,c2⟩,L2,lo2,hi2,rfl,ha2,ho2,hoc2,hpc2,hlo2,hj2⟩
 replace H:=Hp.joinF H hj2 (by intro f hf;rw[aq.1 hf];exact hlo2);clear hj2
 simp only[Co.a,Co.mk.injEq]at ha2
 obtain⟨e1,e2,e3,hma,-,-⟩:=ha2
 obtain rfl:ck=ck2:=e1.symm
 obtain rfl:nx=nx2:=e2.symm
 obtain rfl:wt=wt2:=e3.symm
 dsimp only at ho2 hoc2 hpc2 H
 have hlen2:tx2.length=txs.length:=by have:=congrArg cY hma;simpa using this
 obtain⟨b1,b2_,b3_,b4_,b5_,b6_,b7_⟩:=ta.1 hok
 dsimp only at b2_ b3_ b6_
 refine G (Yu Z)<|G (Xa Z Z)<|G (Xi Z Z)<|G (Xi Z Z)<|bI H 1 (#[J ck,J nx,J wt,.slice A2 tx2.length c2]) aH Z Z Z Z Z N N fun w4 H=>G (Wi Z)<|G (Wi Z)<|U<|W<|W<|Zr<|G (Yi Z)<|G (cj Z Z Z)<|U<|ZF Z<|Zk<|W<|W<|Zr<|G (Yi Z)<|G (xB Z Z hi)<|U<|ZT Z<|W<|W<|Zr<|G (Zf cR Z)<|G (Zd dP H 1 Z Z Z)<|G (bl lG Z)<|G (sw Z Z I)<|G (Yb Z)<|ZN<|ZN<|ZN<|G (Kt Z Z)<|U<|ZT Z<|W<|Zr<|G (bp (cs:= #[J 0,J 0,J 0,.slice none 0 0]) fI cH N) ?_
 refine bI H 0 (#[J 0,J 0,J 0,.slice none 0 0]) aH Z Z Z Z Z N N fun w5 H=>G (Wi Z)<|G (Wi Z)<|G (Wi Z)<|U<|Zt ?_
 exact na (cs0:= #[J 0,J 0,J 0,.slice none 0 0]) (v1:=J 0) (v2:=J 0) (v3:=J 16) Z az Z (H.ent (i:=0) Z) Z Z Z Z ⟨rfl,H.below⟩
theorem J9 (ck nx:Int): ∀ (l pre:List Tx),rz ck nx pre l=rz ck nx (pre.map Tx.a) (l.map Tx.a)
 |[],_=>rfl
 |t::l,pre=>by
  rw[dB]
  unfold rz
  have e1:(pre.map Tx.a).any (qu t.a)=pre.any (qu t):=by rw[List.any_map];rfl
  have e2:=J9 ck nx l (pre++[t])
  rw[bi]at e2
  rw[e1,e2]
  rfl
theorem t5 (c:Co):iD c=iD c.a:=by
 unfold iD
 have:=J9 c.clock c.next c.txs []
 rw[this]
 unfold Co.a
 simp
theorem Hp.learnAlsoF {w0 w w':World} {L:List (Nat×Obj)} {F F0:List cf} (H0:Hp w0 w L F0) (H:Hp w0 w' L F) (f:cf) (hf:f.p w') (hlo:w.heap.size<=f.lo) (hhi:f.hi<=w'.heap.size):Hp w0 w' L (f::F):=by
 refine⟨H.below,H.ents,H.nodup,fun g hg=> ?_⟩
 rcases ay.1 hg with rfl|hg
 exact⟨hf,hhi,fun e he=> .inl (by have:=H0.ltAll e he;omega)⟩
 exact H.facts g hg
structure J4 (w w2:World) (c:Co):Prop where
 below:Below w.heap.size w w2
 row:Rd sJ w.heap.size w2.heap.size c.A c.txs w2
 parts: ∀ t∈c.txs,Rd bR w.heap.size w2.heap.size t.A t.parts w2
 cap:c.txs.length<=c.cap
 caps: ∀ t∈c.txs,t.parts.length<=t.cap
theorem PN.rd {w w2:World} {ca c':Co} {L':List (Nat×Obj)} {lo hi:Nat} (h:PN w w2 ca c' L' lo hi):J4 w w2 c':=by
 obtain⟨h1,ho,hc,hcs,hlo,hj⟩:=h
 have hf:=hj.facts _ (aA ..)
 have hj0:Hp w w2 L' []:=hj.forget (au _) (by simp)
 refine⟨hj.below,ho.rd (K:=[]) (M:=[]) (by simpa using hj0),fun t ht=>Rd.mono (hf.1 t ht) hlo hf.2.1,hc,hcs⟩
theorem J4.learn {w0 w w2:World} {L:List (Nat×Obj)} {F:List cf} {c:Co} (h:J4 w w2 c) (H:Hp w0 w L F):Hp w0 w2 L (iW w.heap.size w2.heap.size c.txs::ee sJ w.heap.size w2.heap.size c.A c.txs::F):=
 Hp.learnAlsoF H (H.learnRd h.below h.row) (iW w.heap.size w2.heap.size c.txs) h.parts (ap _) (ap _)
def AN:Co:=⟨0,0,0,[],none,0⟩
theorem RO {w w2:World} (hb:Below w.heap.size w w2):J4 w w2 AN:=⟨hb,Rd.nil,(by intro t ht;cases ht),ap _,(by intro t ht;cases ht)⟩
/-- the parts of each producer lie in blocks of the call's own -/
def eL:List Tx->List (Nat×Obj)->Prop
 |[],L=>L=[]
 |t::ts,L=> ∃ L1 L2,L=L1++L2/\gb bR (.slice t.A t.parts.length t.cap) cM t.parts L1/\eL ts L2
theorem eL.snoc {t:Tx} {L':List (Nat×Obj)} (ht:gb bR (.slice t.A t.parts.length t.cap) cM t.parts L'): ∀ {ts:List Tx} {L:List (Nat×Obj)},eL ts L->eL (ts++[t]) (L++L')
 |[],_,h=>⟨L',[],by rw[show _=[]from h];simp,ht,rfl⟩
 |_::_,_,⟨L1,L2,h1,h2,h3⟩=>⟨L1,L2++L',by rw[h1,aB],h2,eL.snoc ht h3⟩
theorem eL.at_: ∀ {ts:List Tx} {L:List (Nat×Obj)} {i:Nat} {t:Tx},eL ts L->ts[i]? =some t-> ∃ La Lt Lb,L=La++Lt++Lb/\gb bR (.slice t.A t.parts.length t.cap) cM t.parts Lt/\ ∀ (t':Tx) (Lt':List (Nat×Obj)),gb bR (.slice t'.A t'.parts.length t'.cap) cM t'.parts Lt'->eL (ts.set i t') (La++Lt'++Lb)
 |x::ts,L,0,t,⟨L1,L2,h1,h2,h3⟩,hi=>by
  cases hi
  exact⟨[],L1,L2,by simpa using h1,h2,fun t' Lt' h'=>⟨Lt',L2,by simp,h',h3⟩⟩
 |x::ts,L,i+1,t,⟨L1,L2,h1,h2,h3⟩,hi=>by
  obtain⟨La,Lt,Lb,e,ho,hs⟩:=eL.at_ h3 (show ts[i]? =some t from hi)
  exact⟨L1++La,Lt,Lb,by rw[h1,e];simp[aB],ho,fun t' Lt' h'=>⟨L1,La++Lt'++Lb,by simp[aB],h2,hs t' Lt' h'⟩⟩
theorem eL.rd {w0 w:World} {ts:List Tx} {L:List (Nat×Obj)} (h:eL ts L) (H:Hp w0 w L []) {t:Tx} (ht:t∈ts):Rd bR w0.heap.size w.heap.size t.A t.parts w:=by
 obtain⟨i,hi⟩:=aN.1 ht
 obtain⟨La,Lt,Lb,rfl,ho,-⟩:=h.at_ hi
 exact ho.rd (K:=La) (M:=Lb) H
def qT (w w2:World) (ca c':Co) (Lr Lp:List (Nat×Obj)):Prop:=c'.a=ca/\gb sJ (.slice c'.A c'.txs.length c'.cap) dH c'.txs Lr/\eL c'.txs Lp/\c'.txs.length<=c'.cap/\(∀ t∈c'.txs,t.parts.length<=t.cap)/\Hp w w2 (Lr++Lp) []
theorem qT.read {w w2:World} {ca c':Co} {Lr Lp:List (Nat×Obj)} (h:qT w w2 ca c' Lr Lp):J4 w w2 c':=by
 obtain⟨_,h2,h3,h4,h5,h6⟩:=h
 refine⟨h6.below,h2.rd (K:=[]) (M:=Lp) (by simpa using h6),fun t ht=>h3.rd (h6.forget (ci _ _) (by simp)) ht,h4,h5⟩
theorem t6 (c:Co) (w:World) (h:c.rd 0 w.heap.size w):di aa yC [c.v] w fun v w2=> ∃ (c':Co) (Lr Lp:List (Nat×Obj)),v=c'.v/\qT w w2 c.a c' Lr Lp:=by
 refine aG xb Z Z ?_
 have hcap:=h.cap
 have hfew:=h.few
 have hfp:=h.fewP
 have H:=Hp.startCo h
 obtain⟨ck,nx,wt,txs,cA,cc⟩:=c
 dsimp only at hcap hfew hfp H
 show CW _ _ _ _ (args [.agg #[J ck,J nx,J wt,.slice cA txs.length cc]]) w
 refine W<|Zr<|gU H Z Z fun w1 b1 H=>fc H cH Z fun w2 b2 H=>U<|W<|Zr<|G (Zf cR Z)<|G (Zd dP H 1 Z Z Z)<|cE lL (yT txs cA cc _ (H.rd0 0 Z) I) Z Z ?_
 rintro _ w3 ⟨A6,c6,L6,rfl,hc6,hm6,ho6,hj6⟩;replace H:=H.joinR hj6;clear hj6
 refine G (Zf cR Z)<|bI H 1 (#[J ck,J nx,J wt,.slice A6 txs.length c6]) BW Z Z Z Z Z N N fun w4 H=>U<|W<|W<|Zr<|G (Zf cR Z)<|G (Zd dP H 1 Z Z Z)<|G (bl lG Z)<|G (Yi Z)<|U<|Zb ?_
 refine bV (τ:=Nat×List Tx×Option Addr×Nat×List (Nat×Obj)) [3,11,12,13,14,15,16,17,18,19,20,21,22,23,24,25,26] (fun(k,_)=>[(11,J (k:Nat))]) (fun(k,out,A1,c1,Lp) w'=>k<=out.length/\out.length=txs.length/\out.length<=c1/\out.map Tx.a=txs.map Tx.a/\out.drop k=txs.drop k/\(∀ t∈out.take k,t.parts.length<=t.cap)/\eL (out.take k) Lp/\ ∃ L',gb sJ (.slice A1 out.length c1) dH out L'/\Hp w w' ([(b2,.cells #[J 0,J 0,J 0,.slice none 0 0] aX (0,0)),(b1,.cells #[J ck,J nx,J wt,.slice A1 out.length c1] aX (0,0))]++L'++Lp) [ee sJ 0 w.heap.size cA txs,iW 0 w.heap.size txs]) (fun(k,out,_)=>out.length-k) (0,txs,A6,c6,[]) ⟨by omega,rfl,hc6,rfl,rfl,by simp,rfl,L6,ho6,H⟩ (ef Z) ?_
 rintro⟨k,out,A1,c1,Lp⟩ ρ1 w5 ⟨hk,hol,hoc,hma,hdr,hpc,hpp,L1,ho,H⟩
 show CW _ _ _ _ (dO (ij _ _ ρ1) [(11,J (k:Nat))]) w5
 refine W<|Zr ?_
 refine dZ (cI Z Z) Z Z Z (fun h12=> ?_) (fun h12=> ?_)
 refine U<|W<|ZT Z<|Zk<|W<|Zb<|W ?_
 obtain⟨x,hx⟩: ∃ x,out[k]? =some x:=⟨_,ai I⟩
 have hxt:txs[k]? =some x:=by have:=congrArg (fun l=>l[0]?) hdr;simp only[df,mS]at this;rw[<-this];exact hx
 have hmem:=ab hxt
 have hfx:=(hfp x hmem).1
 obtain⟨g,cur,rfl,rfl,row⟩:=ho.row I
 refine Zr<|G (Yi Z)<|G (Wi Z)<|U ?_
 refine bG cv [0,1,2,3,4,5,6,7,8,9,10,11] [12] [9] [0,2,3,5,6,7,10,11] (sp [(9,Sp.orow w5.heap.size bR cM x.parts)]) N N N N Nq (cG _) ?_
 refine aw Z Z Z Z Z (fun w' hw'=>Zf cR Z)<|aw Z Z Z Z Z (fun w' hw'=>bd dP Z (aK ((H.later hw').ent (i:=1) Z) Z))<|aw Z Z Z Z Z (fun w' hw'=>Yi Z)<|aw Z Z Z Z Z (fun w' hw'=>Zf cR Z)<|aw Z Z Z Z Z (fun w' hw'=>bd dP Z (aK ((H.later hw').ent (i:=1) Z) Z))<|aw Z Z Z Z Z (fun w' hw'=>Yi Z)<|aw Z Z Z Z Z (fun w' hw'=>cL gY Z Z I)<|aw Z Z Z Z Z (fun w' hw'=>Zf ey Z)<|aw Z Z Z Z Z (fun w' hw'=>bW cP row hx 4 Z ((H.later hw').ent (i:=2) Z) Z)<|zW gD Z Z Z Z Z (fun w' hw'=>hw'.size) (fun w' hw'=>t8 x.parts _ _ w' (fG (H.later hw') 1 Z hmem) I) Z fun A23 c23 hc23=>aw Z Z Z Z Z (fun w' hw'=>cL gY Z Z I)<|aw Z Z Z Z Z (fun w' hw'=>Zf ey Z)<|aT ?_
 intro w6 hw' hF
 obtain⟨hF,Aq,cq,L23,eq,hcq,hm23,ho23,he23,hn23⟩:=hF;cases eq;clear hcq
 replace H:=H.joinR (Hp.ofNew hw' he23 hn23)
 clear hw' hF
 refine nt H 2 ({x with A:=A23,cap:=c23}) jV row hx 4 Z Z Z Z Z Z N fun w8 cur7 row7 H=>U<|Zr<|G (bn Z Z I I)<|G (Yi Z)<|U ?_
 obtain⟨z1,z2,z3⟩:=E6 (x':={x with A:=A23,cap:=c23}) hx hma hdr Z
 refine⟨(k+1,out.set k {x with A:=A23,cap:=c23},some ⟨g,0,none⟩,c1,Lp++L23),⟨by rw[ae];omega,by rw[ae];exact hol,by rw[ae];exact hoc,z1,z2,?_,by rw[z3];exact hpp.snoc ho23,_,d8.own row7,?_⟩,ef Z,Qg,by show(out.set k _).length- (k+1)<out.length-k;rw[ae];omega⟩
 rw[z3];intro t ht;rcases ar.1 ht with ht|ht;exact hpc t ht;rw[aq.1 ht];exact hc23
 rw[ae];simpa using H
 have hke:k=out.length:=by omega
 rw[hke,br]at hpp hpc
 refine U<|W<|ZF Z<|Zx<|W<|Zr<|G (Zw az H 1 Z Z Z)<|bI H 0 (#[J ck,J nx,J wt,.slice A1 out.length c1]) aH Z Z Z Z Z N N fun w9 H=>U<|Zt ?_
 exact gB (cs0:= #[J ck,J nx,J wt,.slice A1 out.length c1]) Z az Z (H.ent (i:=0) Z) Z ⟨⟨ck,nx,wt,out,A1,c1⟩,L1,Lp,rfl,by unfold Co.a;dsimp only;rw[hma],ho,hpp,hoc,hpc,H.forget (.cons _ (.cons _ (au _))) (by simp)⟩
theorem rV {txs tx2:List Tx} (h:tx2.map Tx.a=txs.map Tx.a) {i:Nat} {t:Tx} (ht:txs[i]? =some t): ∃ t2,tx2[i]? =some t2/\t2.a=t.a:=by
 have h1:=congrArg (fun l=>l[i]?) h
 simp only[aJ,ht,dA]at h1
 cases h2:tx2[i]? with
 |none=>rw[h2]at h1;cases h1
 |some t2=>rw[h2]at h1;exact⟨t2,rfl,by simpa using h1⟩
theorem mf (c:Co) (s:ByteArray) (w:World) (h:c.rd 0 w.heap.size w) (hok:iD c=true) (hn:bC s=true):di aa yz [c.v,.string s] w fun v w2=> ∃ (c':Co) (Lr Lp:List (Nat×Obj)),v=.tuple #[c'.v,J (fN c s),J 0]/\qT w w2 c.a c' Lr Lp:=by
 refine aG wZ Z Z ?_
 have hcap:=h.cap
 have hfew:=h.few
 have hfp:=h.fewP
 have H:=Hp.startCo h
 obtain⟨ck,nx,wt,txs,cA,cc⟩:=c
 dsimp only at hcap hfew hfp H
 show CW _ _ _ _ (args [.agg #[J ck,J nx,J wt,.slice cA txs.length cc],.string s]) w
 refine W<|Zr<|gU H Z Z fun w1 b2 H=>TL H Z Z fun w2 b3 H=>fc H cH Z fun w3 b4 H=>G (Wi Z)<|G (Wi Z)<|U<|W<|W<|Zr<|G (Zw az H 2 Z Z Z)<|cE kO (qM ⟨ck,nx,wt,txs,cA,cc⟩ _ ⟨H.rd0 0 Z,fun t ht=>fG H 1 Z ht,hcap,hfew,hfp⟩ hok) Z Z ?_
 rw[hok]
 rintro _ w4 ⟨rfl,hb⟩;replace H:=H.later hb;clear hb
 refine G (Wi Z)<|U<|W<|Zr<|G (Yi Z)<|G (cj Z Z Z)<|U<|ZF Z<|Zk<|W<|W<|Zr<|G (Zd aY H 1 Z Z Z)<|cE sF (FP s _) Z Z ?_
 rw[hn]
 rintro _ w5 ⟨rfl,hb⟩;replace H:=H.later hb;clear hb
 refine G (d9 Z)<|U<|ZF Z<|Zk<|W ?_
 refine rL cv [2,4] [0,1,3,5,6,7,8] [2,4] 7 N N N Nq ?_
 refine aw Z Z Z Z Z (fun w' hw'=>Zf cR Z)<|aw Z Z Z Z Z (fun w' hw'=>Ce Z)<|aT ?_
 intro w6 hw';replace H:=H.later hw';clear hw'
 refine uN 0 3 N Z Z ?_ ?_
 refine G (Zw az H 2 Z Z Z)<|U ?_
 refine uN 1 3 N Z Z ?_ ?_
 refine cE jm (t6 ⟨ck,nx,wt,txs,cA,cc⟩ _ ⟨H.rd0 0 Z,fun t ht=>fG H 1 Z ht,hcap,hfew,hfp⟩) Z Z ?_
 rintro _ w7 ⟨⟨ck2,nx2,wt2,tx2,A2,c2⟩,Lr,Lp,rfl,ha2,ho2,hp2,hoc2,hpc2,hj2⟩
 replace H:=H.joinR hj2;clear hj2
 simp only[Co.a,Co.mk.injEq]at ha2
 obtain⟨e1,e2,e3,hma,-,-⟩:=ha2
 obtain rfl:ck=ck2:=e1.symm
 obtain rfl:nx=nx2:=e2.symm
 obtain rfl:wt=wt2:=e3.symm
 dsimp only at ho2 hp2 hoc2 hpc2 H
 refine U<|db 3 N Z<|G (Zd dP H 2 Z Z Z)<|U<|db 5 N Z<|cE dG (gx txs cA cc _ (H.rd0 0 Z) I hM [.pointer (Qd b3)] iE (fun p=>decide (p.name=s)) (fun e w2 _ hw2=>nU e s b3 w2 ((hw2.block _ (bX (H.ent (i:=1) Z))).trans (H.ent (i:=1) Z)))) Z Z ?_
 rintro _ w8 ⟨rfl,hb⟩;replace H:=H.later hb;clear hb
 refine U<|db 6 N Z<|bI H 0 (#[J ck,J nx,J wt,.slice A2 tx2.length c2]) aH Z Z Z Z Z N N fun w9 H=>U<|db 7 N Z<|G (Wi Z)<|U<|db 8 N Z<|G (Wi Z)<|U<|cz N<|Zt ?_
 exact gM (cs0:= #[J ck,J nx,J wt,.slice A2 tx2.length c2]) (v1:=J (lH (txs.findIdx? fun p=>decide (p.name=s)))) (v2:=J 0) Z az Z (H.ent (i:=0) Z) Z Z Z ⟨⟨ck,nx,wt,tx2,A2,c2⟩,Lr,Lp,rfl,by unfold Co.a;dsimp only;rw[hma],ho2,hp2,hoc2,hpc2,H.forget (.cons _ (.cons _ (.cons _ (aE _ _)))) (by simp)⟩
 refine G (Zd dP H 2 Z Z Z)<|U<|db 1 N Z<|cE jm (t6 ⟨ck,nx,wt,txs,cA,cc⟩ _ ⟨H.rd0 0 Z,fun t ht=>fG H 1 Z ht,hcap,hfew,hfp⟩) Z Z ?_
 rintro _ w10 ⟨⟨ck2,nx2,wt2,tx2,A2,c2⟩,Lr,Lp,rfl,ha2,ho2,hp2,hoc2,hpc2,hj2⟩
 replace H:=H.joinR hj2;clear hj2
 simp only[Co.a,Co.mk.injEq]at ha2
 obtain⟨e1,e2,e3,hma,-,-⟩:=ha2
 obtain rfl:ck=ck2:=e1.symm
 obtain rfl:nx=nx2:=e2.symm
 obtain rfl:wt=wt2:=e3.symm
 dsimp only at ho2 hp2 hoc2 hpc2 H
 refine U<|db 5 N Z<|cE dG (gx txs cA cc _ (H.rd0 0 Z) I hM [.pointer (Qd b3)] iE (fun p=>decide (p.name=s)) (fun e w2 _ hw2=>nU e s b3 w2 ((hw2.block _ (bX (H.ent (i:=1) Z))).trans (H.ent (i:=1) Z)))) Z Z ?_
 rintro _ w11 ⟨rfl,hb⟩;replace H:=H.later hb;clear hb
 refine U<|db 6 N Z<|bI H 0 (#[J ck,J nx,J wt,.slice A2 tx2.length c2]) aH Z Z Z Z Z N N fun w12 H=>U<|db 7 N Z<|G (Wi Z)<|U<|db 8 N Z<|G (Wi Z)<|U<|cz N<|Zt ?_
 exact gM (cs0:= #[J ck,J nx,J wt,.slice A2 tx2.length c2]) (v1:=J (lH (txs.findIdx? fun p=>decide (p.name=s)))) (v2:=J 0) Z az Z (H.ent (i:=0) Z) Z Z Z ⟨⟨ck,nx,wt,tx2,A2,c2⟩,Lr,Lp,rfl,by unfold Co.a;dsimp only;rw[hma],ho2,hp2,hoc2,hpc2,H.forget (.cons _ (.cons _ (.cons _ (aE _ _)))) (by simp)⟩
 refine G (Zd dP H 2 Z Z Z)<|U<|db 0 N Z<|G (Zw az H 2 Z Z Z)<|U<|db 1 N Z<|cE jm (t6 ⟨ck,nx,wt,txs,cA,cc⟩ _ ⟨H.rd0 0 Z,fun t ht=>fG H 1 Z ht,hcap,hfew,hfp⟩) Z Z ?_
 rintro _ w13 ⟨⟨ck2,nx2,wt2,tx2,A2,c2⟩,Lr,Lp,rfl,ha2,ho2,hp2,hoc2,hpc2,hj2⟩
 replace H:=H.joinR hj2;clear hj2
 simp only[Co.a,Co.mk.injEq]at ha2
 obtain⟨e1,e2,e3,hma,-,-⟩:=ha2
 obtain rfl:ck=ck2:=e1.symm
 obtain rfl:nx=nx2:=e2.symm
 obtain rfl:wt=wt2:=e3.symm
 dsimp only at ho2 hp2 hoc2 hpc2 H
 refine U<|db 5 N Z<|cE dG (gx txs cA cc _ (H.rd0 0 Z) I hM [.pointer (Qd b3)] iE (fun p=>decide (p.name=s)) (fun e w2 _ hw2=>nU e s b3 w2 ((hw2.block _ (bX (H.ent (i:=1) Z))).trans (H.ent (i:=1) Z)))) Z Z ?_
 rintro _ w14 ⟨rfl,hb⟩;replace H:=H.later hb;clear hb
 refine U<|db 6 N Z<|bI H 0 (#[J ck,J nx,J wt,.slice A2 tx2.length c2]) aH Z Z Z Z Z N N fun w15 H=>U<|db 7 N Z<|G (Wi Z)<|U<|db 8 N Z<|G (Wi Z)<|U<|cz N<|Zt ?_
 exact gM (cs0:= #[J ck,J nx,J wt,.slice A2 tx2.length c2]) (v1:=J (lH (txs.findIdx? fun p=>decide (p.name=s)))) (v2:=J 0) Z az Z (H.ent (i:=0) Z) Z Z Z ⟨⟨ck,nx,wt,tx2,A2,c2⟩,Lr,Lp,rfl,by unfold Co.a;dsimp only;rw[hma],ho2,hp2,hoc2,hpc2,H.forget (.cons _ (.cons _ (.cons _ (aE _ _)))) (by simp)⟩
theorem Cx (c:Co) (s:ByteArray) (ver:Int) (w:World) (h:c.rd 0 w.heap.size w) (hok:iD c=true) (hn:bC s=true) (hi:fN c s= -1):di aa se [c.v,.string s,J ver] w fun v w2=>v=.tuple #[.agg #[J 0,J 0,J 0,.slice none 0 0],J 0,J 5]/\Below w.heap.size w w2:=by
 refine aG qI Z Z ?_
 have hcap:=h.cap
 have hfew:=h.few
 have hfp:=h.fewP
 have H:=Hp.startCo h
 obtain⟨ck,nx,wt,txs,cA,cc⟩:=c
 dsimp only at hcap hfew hfp H
 show CW _ _ _ _ (args [.agg #[J ck,J nx,J wt,.slice cA txs.length cc],.string s,J ver]) w
 refine W<|Zr<|gU H Z Z fun w1 b3 H=>fc H cH Z fun w2 b6 H=>G (Wi Z)<|G (Wi Z)<|U<|W<|Zr<|G (Zw az H 1 Z Z Z)<|G (Yt Z)<|cE iz (mf ⟨ck,nx,wt,txs,cA,cc⟩ s _ ⟨H.rd0 0 Z,fun t ht=>fG H 1 Z ht,hcap,hfew,hfp⟩ hok hn) Z Z ?_
 rintro _ w3 ⟨⟨ck2,nx2,wt2,tx2,A2,c2⟩,Lr,Lp,rfl,ha2,ho2,hp2,hoc2,hpc2,hj2⟩
 replace H:=H.joinR hj2;clear hj2
 simp only[Co.a,Co.mk.injEq]at ha2
 obtain⟨e1,e2,e3,hma,-,-⟩:=ha2
 obtain rfl:ck=ck2:=e1.symm
 obtain rfl:nx=nx2:=e2.symm
 obtain rfl:wt=wt2:=e3.symm
 dsimp only at ho2 hp2 hoc2 hpc2 H
 rw[hi]
 refine G (Yu Z)<|G (Xa Z Z)<|G (Xi Z Z)<|G (Xi Z Z)<|bI H 1 (#[J ck,J nx,J wt,.slice A2 tx2.length c2]) aH Z Z Z Z Z N N fun w4 H=>G (Wi Z)<|G (Wi Z)<|U<|W<|Zb<|W<|Zr<|G (Yi Z)<|G (cj Z Z Z)<|G (Wb Z)<|U<|ZF Z<|W<|Zr<|G (Yi Z)<|G (xB Z Z (by decide))<|G (Wb Z)<|U<|ZT Z<|W<|Zr<|G (bp (cs:= #[J 0,J 0,J 0,.slice none 0 0]) fI cH N)<|bI H 0 (#[J 0,J 0,J 0,.slice none 0 0]) aH Z Z Z Z Z N N fun w5 H=>G (Wi Z)<|G (Wi Z)<|U<|Zt ?_
 exact gM (cs0:= #[J 0,J 0,J 0,.slice none 0 0]) (v1:=J 0) (v2:=J 5) Z az Z (H.ent (i:=0) Z) Z Z Z ⟨rfl,H.below⟩
theorem Ao (c:Co) (s:ByteArray) (ver:Int) (i:Nat) (t:Tx) (w:World) (h:c.rd 0 w.heap.size w) (hok:iD c=true) (hn:bC s=true) (hi:fN c s=i) (ht:c.txs[i]? =some t) (hv:t.ver≠ver):di aa se [c.v,.string s,J ver] w fun v w2=>v=.tuple #[.agg #[J 0,J 0,J 0,.slice none 0 0],J 0,J 10]/\Below w.heap.size w w2:=by
 refine aG qI Z Z ?_
 have hcap:=h.cap
 have hfew:=h.few
 have hfp:=h.fewP
 have H:=Hp.startCo h
 obtain⟨ck,nx,wt,txs,cA,cc⟩:=c
 dsimp only at hcap hfew hfp H
 show CW _ _ _ _ (args [.agg #[J ck,J nx,J wt,.slice cA txs.length cc],.string s,J ver]) w
 dsimp only at ht
 refine W<|Zr<|gU H Z Z fun w1 b3 H=>fc H cH Z fun w2 b6 H=>G (Wi Z)<|G (Wi Z)<|U<|W<|Zr<|G (Zw az H 1 Z Z Z)<|G (Yt Z)<|cE iz (mf ⟨ck,nx,wt,txs,cA,cc⟩ s _ ⟨H.rd0 0 Z,fun t ht=>fG H 1 Z ht,hcap,hfew,hfp⟩ hok hn) Z Z ?_
 rintro _ w3 ⟨⟨ck2,nx2,wt2,tx2,A2,c2⟩,Lr,Lp,rfl,ha2,ho2,hp2,hoc2,hpc2,hj2⟩
 replace H:=H.joinR hj2;clear hj2
 simp only[Co.a,Co.mk.injEq]at ha2
 obtain⟨e1,e2,e3,hma,-,-⟩:=ha2
 obtain rfl:ck=ck2:=e1.symm
 obtain rfl:nx=nx2:=e2.symm
 obtain rfl:wt=wt2:=e3.symm
 dsimp only at ho2 hp2 hoc2 hpc2 H
 rw[hi]
 refine G (Yu Z)<|G (Xa Z Z)<|G (Xi Z Z)<|G (Xi Z Z)<|bI H 1 (#[J ck,J nx,J wt,.slice A2 tx2.length c2]) aH Z Z Z Z Z N N fun w4 H=>G (Wi Z)<|G (Wi Z)<|U<|W<|Zb<|W<|Zr<|G (Yi Z)<|G (cj Z Z Z)<|G (Wb Z)<|U<|ZF Z<|W<|Zr<|G (Yi Z)<|G (cV Z Z I)<|G (Wb Z)<|U<|ZF Z<|W ?_
 obtain⟨t2,ht2,hta⟩:=rV hma ht
 have hl2:=(bZ ht2).1
 obtain⟨g,cur,rfl,rfl,row⟩:=ho2.row I
 have hver:t2.ver=t.ver:=by show t2.a.ver=t.a.ver;rw[hta]
 refine Zr<|G (Zf cR Z)<|G (Zd dP H 1 Z Z Z)<|G (Yi Z)<|G (cL gY Z Z I)<|G (Zf gN Z)<|G (bW al row ht2 2 Z (H.ent (i:=2) Z) Z)<|G (Yi Z)<|G (l9 Z Z I)<|G (Wb Z)<|U<|ZT Z<|W<|Zr<|G (bp (cs:= #[J 0,J 0,J 0,.slice none 0 0]) fI cH N)<|bI H 0 (#[J 0,J 0,J 0,.slice none 0 0]) aH Z Z Z Z Z N N fun w5 H=>G (Wi Z)<|G (Wi Z)<|U<|Zt ?_
 exact gM (cs0:= #[J 0,J 0,J 0,.slice none 0 0]) (v1:=J 0) (v2:=J 10) Z az Z (H.ent (i:=0) Z) Z Z Z ⟨rfl,H.below⟩
theorem yq (c:Co) (s:ByteArray) (ver:Int) (i:Nat) (t:Tx) (w:World) (h:c.rd 0 w.heap.size w) (hok:iD c=true) (hn:bC s=true) (hi:fN c s=i) (ht:c.txs[i]? =some t) (hv:t.ver=ver):di aa se [c.v,.string s,J ver] w fun v w2=> ∃ (c':Co) (Lr Lp:List (Nat×Obj)),v=.tuple #[c'.v,J (i:Nat),J 0]/\qT w w2 c.a c' Lr Lp:=by
 refine aG qI Z Z ?_
 have hcap:=h.cap
 have hfew:=h.few
 have hfp:=h.fewP
 have H:=Hp.startCo h
 obtain⟨ck,nx,wt,txs,cA,cc⟩:=c
 dsimp only at hcap hfew hfp H
 show CW _ _ _ _ (args [.agg #[J ck,J nx,J wt,.slice cA txs.length cc],.string s,J ver]) w
 dsimp only at ht
 refine W<|Zr<|gU H Z Z fun w1 b3 H=>fc H cH Z fun w2 b6 H=>G (Wi Z)<|G (Wi Z)<|U<|W<|Zr<|G (Zw az H 1 Z Z Z)<|G (Yt Z)<|cE iz (mf ⟨ck,nx,wt,txs,cA,cc⟩ s _ ⟨H.rd0 0 Z,fun t ht=>fG H 1 Z ht,hcap,hfew,hfp⟩ hok hn) Z Z ?_
 rintro _ w3 ⟨⟨ck2,nx2,wt2,tx2,A2,c2⟩,Lr,Lp,rfl,ha2,ho2,hp2,hoc2,hpc2,hj2⟩
 replace H:=H.joinR hj2;clear hj2
 simp only[Co.a,Co.mk.injEq]at ha2
 obtain⟨e1,e2,e3,hma,-,-⟩:=ha2
 obtain rfl:ck=ck2:=e1.symm
 obtain rfl:nx=nx2:=e2.symm
 obtain rfl:wt=wt2:=e3.symm
 dsimp only at ho2 hp2 hoc2 hpc2 H
 rw[hi]
 refine G (Yu Z)<|G (Xa Z Z)<|G (Xi Z Z)<|G (Xi Z Z)<|bI H 1 (#[J ck,J nx,J wt,.slice A2 tx2.length c2]) aH Z Z Z Z Z N N fun w4 H=>G (Wi Z)<|G (Wi Z)<|U<|W<|Zb<|W<|Zr<|G (Yi Z)<|G (cj Z Z Z)<|G (Wb Z)<|U<|ZF Z<|W<|Zr<|G (Yi Z)<|G (cV Z Z I)<|G (Wb Z)<|U<|ZF Z<|W ?_
 obtain⟨t2,ht2,hta⟩:=rV hma ht
 have hl2:=(bZ ht2).1
 obtain⟨g,cur,rfl,rfl,row⟩:=ho2.row I
 have hver:t2.ver=t.ver:=by show t2.a.ver=t.a.ver;rw[hta]
 refine Zr<|G (Zf cR Z)<|G (Zd dP H 1 Z Z Z)<|G (Yi Z)<|G (cL gY Z Z I)<|G (Zf gN Z)<|G (bW al row ht2 2 Z (H.ent (i:=2) Z) Z)<|G (Yi Z)<|G (cj Z Z I)<|G (Wb Z)<|U<|ZF Z<|Zk<|W<|Zr<|G (Zw az H 1 Z Z Z)<|G (Yi Z)<|bI H 0 (#[J ck,J nx,J wt,.slice (Qd g) tx2.length c2]) aH Z Z Z Z Z N N fun w5 H=>G (Wi Z)<|G (Wi Z)<|U<|Zt ?_
 exact gM (cs0:= #[J ck,J nx,J wt,.slice (Qd g) tx2.length c2]) (v1:=J (i:Nat)) (v2:=J 0) Z az Z (H.ent (i:=0) Z) Z Z Z ⟨⟨ck,nx,wt,tx2,some ⟨g,0,none⟩,c2⟩,[(g,.cells cur dH (0,0))],Lp,rfl,by unfold Co.a;dsimp only;rw[hma],d8.own row,hp2,hoc2,hpc2,H.forget (.cons _ (.cons _ (aE _ _))) (by simp)⟩
/-- P5.5 -/
def ej (want:Int) (t:Tx):Option Tx:=if t.state=2 then some {t with state:=want}else if t.state=1/\t.done=0 then some {t with done:=want}else if t.state=want∨(t.state=1/\t.done=want)then some t else none
def lq (commit:Bool):Int:=if commit then 3 else 4
theorem eL.same {ts:List Tx} {L:List (Nat×Obj)} {i:Nat} {t t':Tx} (h:eL ts L) (hi:ts[i]? =some t) (h1:t'.A=t.A) (h2:t'.parts=t.parts) (h3:t'.cap=t.cap):eL (ts.set i t') L:=by
 obtain⟨La,Lt,Lb,rfl,ho,hs⟩:=h.at_ hi
 exact hs t' Lt (by rw[h1,h2,h3];exact ho)
theorem KN {t t':Tx} (h:t'.a=t.a) (v:Int):({t' with state:=v}:Tx).a=({t with state:=v}:Tx).a:=congrArg (fun x:Tx=>({x with state:=v}:Tx)) h
theorem PK {t t':Tx} (h:t'.a=t.a) (v:Int):({t' with done:=v}:Tx).a=({t with done:=v}:Tx).a:=congrArg (fun x:Tx=>({x with done:=v}:Tx)) h
theorem pL {txs tx2:List Tx} (h:tx2.map Tx.a=txs.map Tx.a) (i:Nat) {t t':Tx} (ht:t'.a=t.a):(tx2.set i t').map Tx.a=(txs.set i t).map Tx.a:=by rw[cO,cO,h,ht]
theorem td {ts:List Tx} (h: ∀ t∈ts,t.parts.length<=t.cap) {i:Nat} {t t':Tx} (hi:ts[i]? =some t) (h2:t'.parts=t.parts) (h3:t'.cap=t.cap): ∀ x∈ts.set i t',x.parts.length<=x.cap:=fun x hx=>by
 rcases aD hx with hx|rfl
 exact h x hx
 rw[h2,h3];exact h t (ab hi)
theorem O5 (c:Co) (s:ByteArray) (ver:Int) (i:Nat) (t:Tx) (w:World) (h:c.rd 0 w.heap.size w) (hok:iD c=true) (hn:bC s=true) (hi:fN c s=i) (ht:c.txs[i]? =some t) (hv:t.ver=ver):di aa mr [c.v,.string s,J ver,.bool true] w fun v w2=>match ej 3 t with|none=>v=.tuple #[.agg #[J 0,J 0,J 0,.slice none 0 0],J 12]/\Below w.heap.size w w2|some t'=> ∃ (c':Co) (Lr Lp:List (Nat×Obj)),v=.tuple #[c'.v,J 0]/\qT w w2 (Co.a {c with txs:=c.txs.set i t'}) c' Lr Lp:=by
 refine aG qd Z Z ?_
 have hcap:=h.cap
 have hfew:=h.few
 have hfp:=h.fewP
 have H:=Hp.startCo h
 obtain⟨ck,nx,wt,txs,cA,cc⟩:=c
 dsimp only at hcap hfew hfp H
 show CW _ _ _ _ (args [.agg #[J ck,J nx,J wt,.slice cA txs.length cc],.string s,J ver,.bool true]) w
 dsimp only at ht⊢
 refine W<|Zr<|gU H Z Z fun w1 b4 H=>fc H cH Z fun w2 b8 H=>G (Wi Z)<|U<|W<|Zr<|G (Zw az H 1 Z Z Z)<|G (Yt Z)<|G (Yi Z)<|cE gO (yq ⟨ck,nx,wt,txs,cA,cc⟩ s ver i t _ ⟨H.rd0 0 Z,fun t ht=>fG H 1 Z ht,hcap,hfew,hfp⟩ hok hn hi ht hv) Z Z ?_
 rintro _ w3 ⟨⟨ck2,nx2,wt2,tx2,A2,c2⟩,Lr,Lp,rfl,ha2,ho2,hp2,hoc2,hpc2,hj2⟩
 replace H:=H.joinR hj2;clear hj2
 simp only[Co.a,Co.mk.injEq]at ha2
 obtain⟨e1,e2,e3,hma,-,-⟩:=ha2
 obtain rfl:ck=ck2:=e1.symm
 obtain rfl:nx=nx2:=e2.symm
 obtain rfl:wt=wt2:=e3.symm
 dsimp only at ho2 hp2 hoc2 hpc2 H
 refine G (Yu Z)<|G (Xa Z Z)<|G (Xi Z Z)<|G (Xi Z Z)<|bI H 1 (#[J ck,J nx,J wt,.slice A2 tx2.length c2]) aH Z Z Z Z Z N N fun w4 H=>G (Wi Z)<|G (Wi Z)<|U<|W<|W<|Zr<|G (Yi Z)<|G (cj Z Z Z)<|U<|ZF Z<|Zk<|W<|Zr<|G (Wi Z)<|U<|W<|W<|Zr<|G (Yb Z)<|U<|ZT Z<|Zr<|G (Wi Z)<|U<|W<|W ?_
 obtain⟨t2,ht2,hta⟩:=rV hma ht
 have hl2:=(bZ ht2).1
 obtain⟨g,cur,rfl,rfl,row⟩:=ho2.row I
 have hst:t2.state=t.state:=by show t2.a.state=t.a.state;rw[hta]
 have hdn:t2.done=t.done:=by show t2.a.done=t.a.done;rw[hta]
 refine Zr<|G (Zf cR Z)<|G (Zd dP H 1 Z Z Z)<|G (Yi Z)<|G (cL gY Z Z I)<|G (Wp Z)<|U<|Zb<|W<|Zr<|G (Yp Z)<|G (aM Z)<|G (Zf dd Z)<|G (bW al row ht2 3 Z (H.ent (i:=2) Z) Z) ?_
 refine dZ (cr Z Z) Z Z Z (fun h37=> ?_) (fun h37=> ?_)
 refine G (Wb Z)<|U<|ZT Z<|Zr<|G (Yp Z)<|G (Yi Z)<|G (aM Z)<|G (Zf dd Z)<|nt H 2 ({t2 with state:=3}) bN row ht2 3 Z Z Z Z Z Z N fun w6 cur5 row5 H=>U<|W<|Zr<|G (Zw az H 1 Z Z Z)<|bI H 0 (#[J ck,J nx,J wt,.slice (Qd g) tx2.length c2]) aH Z Z Z Z Z N N fun w7 H=>G (Wi Z)<|U<|Zt ?_
 have hE:ej 3 t=some {t with state:=3}:=by unfold ej;rw[if_pos I]
 rw[hE]
 dsimp only
 exact cu (cs0:= #[J ck,J nx,J wt,.slice (Qd g) tx2.length c2]) (v1:=J 0) Z az Z (H.ent (i:=0) Z) Z Z ⟨⟨ck,nx,wt,(tx2.set i {t2 with state:=3}),some ⟨g,0,none⟩,c2⟩,[(g,.cells cur5 dH (0,0))],Lp,by unfold Co.v Co.c;dsimp only;rw[ae],by unfold Co.a;dsimp only;rw[pL hma i (KN hta _)],d8.own row5,hp2.same ht2 Z Z Z,by dsimp only;rw[ae];exact hoc2,td hpc2 ht2 Z Z,H.forget (.cons _ (.cons _ (aE _ _))) (by simp)⟩
 refine G (Wb Z)<|U<|ZF Z<|W<|Zr<|G (Yp Z)<|G (aM Z)<|G (Zf dd Z)<|G (bW al row ht2 3 Z (H.ent (i:=2) Z) Z) ?_
 refine dZ (cr Z Z) Z Z Z (fun h47=> ?_) (fun h47=> ?_)
 refine G (Yb Z)<|ZG<|G (Yp Z)<|ZG<|G (aM Z)<|ZG<|G (Zf jx Z)<|ZG<|G (bW al row ht2 6 Z (H.ent (i:=2) Z) Z)<|ZG ?_
 refine dZ (cr Z Z) Z Z Z (fun h53=> ?_) (fun h53=> ?_)
 refine G (Kt Z Z)<|G (Wb Z)<|U<|ZT Z<|Zr<|G (Yp Z)<|G (Yi Z)<|G (aM Z)<|G (Zf jx Z)<|nt H 2 ({t2 with done:=3}) bN row ht2 6 Z Z Z Z Z Z N fun w9 cur8 row8 H=>U<|W<|Zr<|G (Zw az H 1 Z Z Z)<|bI H 0 (#[J ck,J nx,J wt,.slice (Qd g) tx2.length c2]) aH Z Z Z Z Z N N fun w10 H=>G (Wi Z)<|U<|Zt ?_
 have hE:ej 3 t=some {t with done:=3}:=by unfold ej;rw[if_neg I,if_pos I]
 rw[hE]
 dsimp only
 exact cu (cs0:= #[J ck,J nx,J wt,.slice (Qd g) tx2.length c2]) (v1:=J 0) Z az Z (H.ent (i:=0) Z) Z Z ⟨⟨ck,nx,wt,(tx2.set i {t2 with done:=3}),some ⟨g,0,none⟩,c2⟩,[(g,.cells cur8 dH (0,0))],Lp,by unfold Co.v Co.c;dsimp only;rw[ae],by unfold Co.a;dsimp only;rw[pL hma i (PK hta _)],d8.own row8,hp2.same ht2 Z Z Z,by dsimp only;rw[ae];exact hoc2,td hpc2 ht2 Z Z,H.forget (.cons _ (.cons _ (aE _ _))) (by simp)⟩
 refine G (Kt Z Z)<|G (Wb Z)<|U<|ZF Z<|W<|W<|Zr<|G (Yp Z)<|G (aM Z)<|G (Zf dd Z)<|G (bW al row ht2 3 Z (H.ent (i:=2) Z) Z)<|G (Yi Z) ?_
 refine dZ (cr Z Z) Z Z Z (fun h65=> ?_) (fun h65=> ?_)
 refine G (Wb Z)<|U<|ZT Z<|Zk<|ZT Z<|Zk<|W<|Zr<|G (Zw az H 1 Z Z Z)<|bI H 0 (#[J ck,J nx,J wt,.slice (Qd g) tx2.length c2]) aH Z Z Z Z Z N N fun w11 H=>G (Wi Z)<|U<|Zt ?_
 have hE:ej 3 t=some t:=by unfold ej;rw[if_neg I,if_neg I,if_pos I]
 rw[hE]
 dsimp only
 exact cu (cs0:= #[J ck,J nx,J wt,.slice (Qd g) tx2.length c2]) (v1:=J 0) Z az Z (H.ent (i:=0) Z) Z Z ⟨⟨ck,nx,wt,tx2,some ⟨g,0,none⟩,c2⟩,[(g,.cells cur dH (0,0))],Lp,rfl,by unfold Co.a;dsimp only;rw[i5 ht,hma],d8.own row,hp2,hoc2,hpc2,H.forget (.cons _ (.cons _ (aE _ _))) (by simp)⟩
 refine G (Wb Z)<|U<|ZF Z<|Zr<|G (Yp Z)<|G (aM Z)<|G (Zf dd Z)<|G (bW al row ht2 3 Z (H.ent (i:=2) Z) Z) ?_
 refine dZ (cr Z Z) Z Z Z (fun h70=> ?_) (fun h70=> ?_)
 refine G (Yb Z)<|ZG<|G (Yp Z)<|ZG<|G (aM Z)<|ZG<|G (Zf jx Z)<|ZG<|G (bW al row ht2 6 Z (H.ent (i:=2) Z) Z)<|ZG<|G (Yi Z)<|ZG ?_
 refine dZ (cr Z Z) Z Z Z (fun h77=> ?_) (fun h77=> ?_)
 refine G (Kt Z Z)<|G (Wb Z)<|U<|ZT Z<|Zk<|W<|Zr<|G (Zw az H 1 Z Z Z)<|bI H 0 (#[J ck,J nx,J wt,.slice (Qd g) tx2.length c2]) aH Z Z Z Z Z N N fun w12 H=>G (Wi Z)<|U<|Zt ?_
 have hE:ej 3 t=some t:=by unfold ej;rw[if_neg I,if_neg I,if_pos I]
 rw[hE]
 dsimp only
 exact cu (cs0:= #[J ck,J nx,J wt,.slice (Qd g) tx2.length c2]) (v1:=J 0) Z az Z (H.ent (i:=0) Z) Z Z ⟨⟨ck,nx,wt,tx2,some ⟨g,0,none⟩,c2⟩,[(g,.cells cur dH (0,0))],Lp,rfl,by unfold Co.a;dsimp only;rw[i5 ht,hma],d8.own row,hp2,hoc2,hpc2,H.forget (.cons _ (.cons _ (aE _ _))) (by simp)⟩
 refine G (Kt Z Z)<|G (Wb Z)<|U<|ZF Z<|W<|Zr<|G (bp (cs:= #[J 0,J 0,J 0,.slice none 0 0]) fI cH N)<|bI H 0 (#[J 0,J 0,J 0,.slice none 0 0]) aH Z Z Z Z Z N N fun w13 H=>G (Wi Z)<|U<|Zt ?_
 have hE:ej 3 t=none:=by unfold ej;rw[if_neg I,if_neg I,if_neg I]
 rw[hE]
 dsimp only
 exact cu (cs0:= #[J 0,J 0,J 0,.slice none 0 0]) (v1:=J 12) Z az Z (H.ent (i:=0) Z) Z Z ⟨rfl,H.below⟩
 refine G (Yb Z)<|ZN<|ZN<|ZN<|ZN<|ZN<|ZN<|G (N Z Z)<|G (Wb Z)<|U<|ZF Z<|W<|Zr<|G (bp (cs:= #[J 0,J 0,J 0,.slice none 0 0]) fI cH N)<|bI H 0 (#[J 0,J 0,J 0,.slice none 0 0]) aH Z Z Z Z Z N N fun w14 H=>G (Wi Z)<|U<|Zt ?_
 have hE:ej 3 t=none:=by unfold ej;rw[if_neg I,if_neg I,if_neg I]
 rw[hE]
 dsimp only
 exact cu (cs0:= #[J 0,J 0,J 0,.slice none 0 0]) (v1:=J 12) Z az Z (H.ent (i:=0) Z) Z Z ⟨rfl,H.below⟩
 refine G (Yb Z)<|ZN<|ZN<|ZN<|ZN<|ZN<|G (N Z Z)<|G (Wb Z)<|U<|ZF Z<|W<|W<|Zr<|G (Yp Z)<|G (aM Z)<|G (Zf dd Z)<|G (bW al row ht2 3 Z (H.ent (i:=2) Z) Z)<|G (Yi Z) ?_
 refine dZ (cr Z Z) Z Z Z (fun h65=> ?_) (fun h65=> ?_)
 refine G (Wb Z)<|U<|ZT Z<|Zk<|ZT Z<|Zk<|W<|Zr<|G (Zw az H 1 Z Z Z)<|bI H 0 (#[J ck,J nx,J wt,.slice (Qd g) tx2.length c2]) aH Z Z Z Z Z N N fun w15 H=>G (Wi Z)<|U<|Zt ?_
 have hE:ej 3 t=some t:=by unfold ej;rw[if_neg I,if_neg I,if_pos I]
 rw[hE]
 dsimp only
 exact cu (cs0:= #[J ck,J nx,J wt,.slice (Qd g) tx2.length c2]) (v1:=J 0) Z az Z (H.ent (i:=0) Z) Z Z ⟨⟨ck,nx,wt,tx2,some ⟨g,0,none⟩,c2⟩,[(g,.cells cur dH (0,0))],Lp,rfl,by unfold Co.a;dsimp only;rw[i5 ht,hma],d8.own row,hp2,hoc2,hpc2,H.forget (.cons _ (.cons _ (aE _ _))) (by simp)⟩
 refine G (Wb Z)<|U<|ZF Z<|Zr<|G (Yp Z)<|G (aM Z)<|G (Zf dd Z)<|G (bW al row ht2 3 Z (H.ent (i:=2) Z) Z) ?_
 refine dZ (cr Z Z) Z Z Z (fun h70=> ?_) (fun h70=> ?_)
 refine G (Yb Z)<|ZG<|G (Yp Z)<|ZG<|G (aM Z)<|ZG<|G (Zf jx Z)<|ZG<|G (bW al row ht2 6 Z (H.ent (i:=2) Z) Z)<|ZG<|G (Yi Z)<|ZG ?_
 refine dZ (cr Z Z) Z Z Z (fun h77=> ?_) (fun h77=> ?_)
 refine G (Kt Z Z)<|G (Wb Z)<|U<|ZT Z<|Zk<|W<|Zr<|G (Zw az H 1 Z Z Z)<|bI H 0 (#[J ck,J nx,J wt,.slice (Qd g) tx2.length c2]) aH Z Z Z Z Z N N fun w16 H=>G (Wi Z)<|U<|Zt ?_
 have hE:ej 3 t=some t:=by unfold ej;rw[if_neg I,if_neg I,if_pos I]
 rw[hE]
 dsimp only
 exact cu (cs0:= #[J ck,J nx,J wt,.slice (Qd g) tx2.length c2]) (v1:=J 0) Z az Z (H.ent (i:=0) Z) Z Z ⟨⟨ck,nx,wt,tx2,some ⟨g,0,none⟩,c2⟩,[(g,.cells cur dH (0,0))],Lp,rfl,by unfold Co.a;dsimp only;rw[i5 ht,hma],d8.own row,hp2,hoc2,hpc2,H.forget (.cons _ (.cons _ (aE _ _))) (by simp)⟩
 refine G (Kt Z Z)<|G (Wb Z)<|U<|ZF Z<|W<|Zr<|G (bp (cs:= #[J 0,J 0,J 0,.slice none 0 0]) fI cH N)<|bI H 0 (#[J 0,J 0,J 0,.slice none 0 0]) aH Z Z Z Z Z N N fun w17 H=>G (Wi Z)<|U<|Zt ?_
 have hE:ej 3 t=none:=by unfold ej;rw[if_neg I,if_neg I,if_neg I]
 rw[hE]
 dsimp only
 exact cu (cs0:= #[J 0,J 0,J 0,.slice none 0 0]) (v1:=J 12) Z az Z (H.ent (i:=0) Z) Z Z ⟨rfl,H.below⟩
 refine G (Yb Z)<|ZN<|ZN<|ZN<|ZN<|ZN<|ZN<|G (N Z Z)<|G (Wb Z)<|U<|ZF Z<|W<|Zr<|G (bp (cs:= #[J 0,J 0,J 0,.slice none 0 0]) fI cH N)<|bI H 0 (#[J 0,J 0,J 0,.slice none 0 0]) aH Z Z Z Z Z N N fun w18 H=>G (Wi Z)<|U<|Zt ?_
 have hE:ej 3 t=none:=by unfold ej;rw[if_neg I,if_neg I,if_neg I]
 rw[hE]
 dsimp only
 exact cu (cs0:= #[J 0,J 0,J 0,.slice none 0 0]) (v1:=J 12) Z az Z (H.ent (i:=0) Z) Z Z ⟨rfl,H.below⟩
theorem Mt (c:Co) (s:ByteArray) (ver:Int) (i:Nat) (t:Tx) (w:World) (h:c.rd 0 w.heap.size w) (hok:iD c=true) (hn:bC s=true) (hi:fN c s=i) (ht:c.txs[i]? =some t) (hv:t.ver=ver):di aa mr [c.v,.string s,J ver,.bool false] w fun v w2=>match ej 4 t with|none=>v=.tuple #[.agg #[J 0,J 0,J 0,.slice none 0 0],J 12]/\Below w.heap.size w w2|some t'=> ∃ (c':Co) (Lr Lp:List (Nat×Obj)),v=.tuple #[c'.v,J 0]/\qT w w2 (Co.a {c with txs:=c.txs.set i t'}) c' Lr Lp:=by
 refine aG qd Z Z ?_
 have hcap:=h.cap
 have hfew:=h.few
 have hfp:=h.fewP
 have H:=Hp.startCo h
 obtain⟨ck,nx,wt,txs,cA,cc⟩:=c
 dsimp only at hcap hfew hfp H
 show CW _ _ _ _ (args [.agg #[J ck,J nx,J wt,.slice cA txs.length cc],.string s,J ver,.bool false]) w
 dsimp only at ht⊢
 refine W<|Zr<|gU H Z Z fun w1 b4 H=>fc H cH Z fun w2 b8 H=>G (Wi Z)<|U<|W<|Zr<|G (Zw az H 1 Z Z Z)<|G (Yt Z)<|G (Yi Z)<|cE gO (yq ⟨ck,nx,wt,txs,cA,cc⟩ s ver i t _ ⟨H.rd0 0 Z,fun t ht=>fG H 1 Z ht,hcap,hfew,hfp⟩ hok hn hi ht hv) Z Z ?_
 rintro _ w3 ⟨⟨ck2,nx2,wt2,tx2,A2,c2⟩,Lr,Lp,rfl,ha2,ho2,hp2,hoc2,hpc2,hj2⟩
 replace H:=H.joinR hj2;clear hj2
 simp only[Co.a,Co.mk.injEq]at ha2
 obtain⟨e1,e2,e3,hma,-,-⟩:=ha2
 obtain rfl:ck=ck2:=e1.symm
 obtain rfl:nx=nx2:=e2.symm
 obtain rfl:wt=wt2:=e3.symm
 dsimp only at ho2 hp2 hoc2 hpc2 H
 refine G (Yu Z)<|G (Xa Z Z)<|G (Xi Z Z)<|G (Xi Z Z)<|bI H 1 (#[J ck,J nx,J wt,.slice A2 tx2.length c2]) aH Z Z Z Z Z N N fun w4 H=>G (Wi Z)<|G (Wi Z)<|U<|W<|W<|Zr<|G (Yi Z)<|G (cj Z Z Z)<|U<|ZF Z<|Zk<|W<|Zr<|G (Wi Z)<|U<|W<|W<|Zr<|G (Yb Z)<|U<|ZF Z<|Zk<|W<|W ?_
 obtain⟨t2,ht2,hta⟩:=rV hma ht
 have hl2:=(bZ ht2).1
 obtain⟨g,cur,rfl,rfl,row⟩:=ho2.row I
 have hst:t2.state=t.state:=by show t2.a.state=t.a.state;rw[hta]
 have hdn:t2.done=t.done:=by show t2.a.done=t.a.done;rw[hta]
 refine Zr<|G (Zf cR Z)<|G (Zd dP H 1 Z Z Z)<|G (Yi Z)<|G (cL gY Z Z I)<|G (Wp Z)<|U<|Zb<|W<|Zr<|G (Yp Z)<|G (aM Z)<|G (Zf dd Z)<|G (bW al row ht2 3 Z (H.ent (i:=2) Z) Z) ?_
 refine dZ (cr Z Z) Z Z Z (fun h37=> ?_) (fun h37=> ?_)
 refine G (Wb Z)<|U<|ZT Z<|Zr<|G (Yp Z)<|G (Yi Z)<|G (aM Z)<|G (Zf dd Z)<|nt H 2 ({t2 with state:=4}) bN row ht2 3 Z Z Z Z Z Z N fun w6 cur5 row5 H=>U<|W<|Zr<|G (Zw az H 1 Z Z Z)<|bI H 0 (#[J ck,J nx,J wt,.slice (Qd g) tx2.length c2]) aH Z Z Z Z Z N N fun w7 H=>G (Wi Z)<|U<|Zt ?_
 have hE:ej 4 t=some {t with state:=4}:=by unfold ej;rw[if_pos I]
 rw[hE]
 dsimp only
 exact cu (cs0:= #[J ck,J nx,J wt,.slice (Qd g) tx2.length c2]) (v1:=J 0) Z az Z (H.ent (i:=0) Z) Z Z ⟨⟨ck,nx,wt,(tx2.set i {t2 with state:=4}),some ⟨g,0,none⟩,c2⟩,[(g,.cells cur5 dH (0,0))],Lp,by unfold Co.v Co.c;dsimp only;rw[ae],by unfold Co.a;dsimp only;rw[pL hma i (KN hta _)],d8.own row5,hp2.same ht2 Z Z Z,by dsimp only;rw[ae];exact hoc2,td hpc2 ht2 Z Z,H.forget (.cons _ (.cons _ (aE _ _))) (by simp)⟩
 refine G (Wb Z)<|U<|ZF Z<|W<|Zr<|G (Yp Z)<|G (aM Z)<|G (Zf dd Z)<|G (bW al row ht2 3 Z (H.ent (i:=2) Z) Z) ?_
 refine dZ (cr Z Z) Z Z Z (fun h47=> ?_) (fun h47=> ?_)
 refine G (Yb Z)<|ZG<|G (Yp Z)<|ZG<|G (aM Z)<|ZG<|G (Zf jx Z)<|ZG<|G (bW al row ht2 6 Z (H.ent (i:=2) Z) Z)<|ZG ?_
 refine dZ (cr Z Z) Z Z Z (fun h53=> ?_) (fun h53=> ?_)
 refine G (Kt Z Z)<|G (Wb Z)<|U<|ZT Z<|Zr<|G (Yp Z)<|G (Yi Z)<|G (aM Z)<|G (Zf jx Z)<|nt H 2 ({t2 with done:=4}) bN row ht2 6 Z Z Z Z Z Z N fun w9 cur8 row8 H=>U<|W<|Zr<|G (Zw az H 1 Z Z Z)<|bI H 0 (#[J ck,J nx,J wt,.slice (Qd g) tx2.length c2]) aH Z Z Z Z Z N N fun w10 H=>G (Wi Z)<|U<|Zt ?_
 have hE:ej 4 t=some {t with done:=4}:=by unfold ej;rw[if_neg I,if_pos I]
 rw[hE]
 dsimp only
 exact cu (cs0:= #[J ck,J nx,J wt,.slice (Qd g) tx2.length c2]) (v1:=J 0) Z az Z (H.ent (i:=0) Z) Z Z ⟨⟨ck,nx,wt,(tx2.set i {t2 with done:=4}),some ⟨g,0,none⟩,c2⟩,[(g,.cells cur8 dH (0,0))],Lp,by unfold Co.v Co.c;dsimp only;rw[ae],by unfold Co.a;dsimp only;rw[pL hma i (PK hta _)],d8.own row8,hp2.same ht2 Z Z Z,by dsimp only;rw[ae];exact hoc2,td hpc2 ht2 Z Z,H.forget (.cons _ (.cons _ (aE _ _))) (by simp)⟩
 refine G (Kt Z Z)<|G (Wb Z)<|U<|ZF Z<|W<|W<|Zr<|G (Yp Z)<|G (aM Z)<|G (Zf dd Z)<|G (bW al row ht2 3 Z (H.ent (i:=2) Z) Z)<|G (Yi Z) ?_
 refine dZ (cr Z Z) Z Z Z (fun h65=> ?_) (fun h65=> ?_)
 refine G (Wb Z)<|U<|ZT Z<|Zk<|ZT Z<|Zk<|W<|Zr<|G (Zw az H 1 Z Z Z)<|bI H 0 (#[J ck,J nx,J wt,.slice (Qd g) tx2.length c2]) aH Z Z Z Z Z N N fun w11 H=>G (Wi Z)<|U<|Zt ?_
 have hE:ej 4 t=some t:=by unfold ej;rw[if_neg I,if_neg I,if_pos I]
 rw[hE]
 dsimp only
 exact cu (cs0:= #[J ck,J nx,J wt,.slice (Qd g) tx2.length c2]) (v1:=J 0) Z az Z (H.ent (i:=0) Z) Z Z ⟨⟨ck,nx,wt,tx2,some ⟨g,0,none⟩,c2⟩,[(g,.cells cur dH (0,0))],Lp,rfl,by unfold Co.a;dsimp only;rw[i5 ht,hma],d8.own row,hp2,hoc2,hpc2,H.forget (.cons _ (.cons _ (aE _ _))) (by simp)⟩
 refine G (Wb Z)<|U<|ZF Z<|Zr<|G (Yp Z)<|G (aM Z)<|G (Zf dd Z)<|G (bW al row ht2 3 Z (H.ent (i:=2) Z) Z) ?_
 refine dZ (cr Z Z) Z Z Z (fun h70=> ?_) (fun h70=> ?_)
 refine G (Yb Z)<|ZG<|G (Yp Z)<|ZG<|G (aM Z)<|ZG<|G (Zf jx Z)<|ZG<|G (bW al row ht2 6 Z (H.ent (i:=2) Z) Z)<|ZG<|G (Yi Z)<|ZG ?_
 refine dZ (cr Z Z) Z Z Z (fun h77=> ?_) (fun h77=> ?_)
 refine G (Kt Z Z)<|G (Wb Z)<|U<|ZT Z<|Zk<|W<|Zr<|G (Zw az H 1 Z Z Z)<|bI H 0 (#[J ck,J nx,J wt,.slice (Qd g) tx2.length c2]) aH Z Z Z Z Z N N fun w12 H=>G (Wi Z)<|U<|Zt ?_
 have hE:ej 4 t=some t:=by unfold ej;rw[if_neg I,if_neg I,if_pos I]
 rw[hE]
 dsimp only
 exact cu (cs0:= #[J ck,J nx,J wt,.slice (Qd g) tx2.length c2]) (v1:=J 0) Z az Z (H.ent (i:=0) Z) Z Z ⟨⟨ck,nx,wt,tx2,some ⟨g,0,none⟩,c2⟩,[(g,.cells cur dH (0,0))],Lp,rfl,by unfold Co.a;dsimp only;rw[i5 ht,hma],d8.own row,hp2,hoc2,hpc2,H.forget (.cons _ (.cons _ (aE _ _))) (by simp)⟩
 refine G (Kt Z Z)<|G (Wb Z)<|U<|ZF Z<|W<|Zr<|G (bp (cs:= #[J 0,J 0,J 0,.slice none 0 0]) fI cH N)<|bI H 0 (#[J 0,J 0,J 0,.slice none 0 0]) aH Z Z Z Z Z N N fun w13 H=>G (Wi Z)<|U<|Zt ?_
 have hE:ej 4 t=none:=by unfold ej;rw[if_neg I,if_neg I,if_neg I]
 rw[hE]
 dsimp only
 exact cu (cs0:= #[J 0,J 0,J 0,.slice none 0 0]) (v1:=J 12) Z az Z (H.ent (i:=0) Z) Z Z ⟨rfl,H.below⟩
 refine G (Yb Z)<|ZN<|ZN<|ZN<|ZN<|ZN<|ZN<|G (N Z Z)<|G (Wb Z)<|U<|ZF Z<|W<|Zr<|G (bp (cs:= #[J 0,J 0,J 0,.slice none 0 0]) fI cH N)<|bI H 0 (#[J 0,J 0,J 0,.slice none 0 0]) aH Z Z Z Z Z N N fun w14 H=>G (Wi Z)<|U<|Zt ?_
 have hE:ej 4 t=none:=by unfold ej;rw[if_neg I,if_neg I,if_neg I]
 rw[hE]
 dsimp only
 exact cu (cs0:= #[J 0,J 0,J 0,.slice none 0 0]) (v1:=J 12) Z az Z (H.ent (i:=0) Z) Z Z ⟨rfl,H.below⟩
 refine G (Yb Z)<|ZN<|ZN<|ZN<|ZN<|ZN<|G (N Z Z)<|G (Wb Z)<|U<|ZF Z<|W<|W<|Zr<|G (Yp Z)<|G (aM Z)<|G (Zf dd Z)<|G (bW al row ht2 3 Z (H.ent (i:=2) Z) Z)<|G (Yi Z) ?_
 refine dZ (cr Z Z) Z Z Z (fun h65=> ?_) (fun h65=> ?_)
 refine G (Wb Z)<|U<|ZT Z<|Zk<|ZT Z<|Zk<|W<|Zr<|G (Zw az H 1 Z Z Z)<|bI H 0 (#[J ck,J nx,J wt,.slice (Qd g) tx2.length c2]) aH Z Z Z Z Z N N fun w15 H=>G (Wi Z)<|U<|Zt ?_
 have hE:ej 4 t=some t:=by unfold ej;rw[if_neg I,if_neg I,if_pos I]
 rw[hE]
 dsimp only
 exact cu (cs0:= #[J ck,J nx,J wt,.slice (Qd g) tx2.length c2]) (v1:=J 0) Z az Z (H.ent (i:=0) Z) Z Z ⟨⟨ck,nx,wt,tx2,some ⟨g,0,none⟩,c2⟩,[(g,.cells cur dH (0,0))],Lp,rfl,by unfold Co.a;dsimp only;rw[i5 ht,hma],d8.own row,hp2,hoc2,hpc2,H.forget (.cons _ (.cons _ (aE _ _))) (by simp)⟩
 refine G (Wb Z)<|U<|ZF Z<|Zr<|G (Yp Z)<|G (aM Z)<|G (Zf dd Z)<|G (bW al row ht2 3 Z (H.ent (i:=2) Z) Z) ?_
 refine dZ (cr Z Z) Z Z Z (fun h70=> ?_) (fun h70=> ?_)
 refine G (Yb Z)<|ZG<|G (Yp Z)<|ZG<|G (aM Z)<|ZG<|G (Zf jx Z)<|ZG<|G (bW al row ht2 6 Z (H.ent (i:=2) Z) Z)<|ZG<|G (Yi Z)<|ZG ?_
 refine dZ (cr Z Z) Z Z Z (fun h77=> ?_) (fun h77=> ?_)
 refine G (Kt Z Z)<|G (Wb Z)<|U<|ZT Z<|Zk<|W<|Zr<|G (Zw az H 1 Z Z Z)<|bI H 0 (#[J ck,J nx,J wt,.slice (Qd g) tx2.length c2]) aH Z Z Z Z Z N N fun w16 H=>G (Wi Z)<|U<|Zt ?_
 have hE:ej 4 t=some t:=by unfold ej;rw[if_neg I,if_neg I,if_pos I]
 rw[hE]
 dsimp only
 exact cu (cs0:= #[J ck,J nx,J wt,.slice (Qd g) tx2.length c2]) (v1:=J 0) Z az Z (H.ent (i:=0) Z) Z Z ⟨⟨ck,nx,wt,tx2,some ⟨g,0,none⟩,c2⟩,[(g,.cells cur dH (0,0))],Lp,rfl,by unfold Co.a;dsimp only;rw[i5 ht,hma],d8.own row,hp2,hoc2,hpc2,H.forget (.cons _ (.cons _ (aE _ _))) (by simp)⟩
 refine G (Kt Z Z)<|G (Wb Z)<|U<|ZF Z<|W<|Zr<|G (bp (cs:= #[J 0,J 0,J 0,.slice none 0 0]) fI cH N)<|bI H 0 (#[J 0,J 0,J 0,.slice none 0 0]) aH Z Z Z Z Z N N fun w17 H=>G (Wi Z)<|U<|Zt ?_
 have hE:ej 4 t=none:=by unfold ej;rw[if_neg I,if_neg I,if_neg I]
 rw[hE]
 dsimp only
 exact cu (cs0:= #[J 0,J 0,J 0,.slice none 0 0]) (v1:=J 12) Z az Z (H.ent (i:=0) Z) Z Z ⟨rfl,H.below⟩
 refine G (Yb Z)<|ZN<|ZN<|ZN<|ZN<|ZN<|ZN<|G (N Z Z)<|G (Wb Z)<|U<|ZF Z<|W<|Zr<|G (bp (cs:= #[J 0,J 0,J 0,.slice none 0 0]) fI cH N)<|bI H 0 (#[J 0,J 0,J 0,.slice none 0 0]) aH Z Z Z Z Z N N fun w18 H=>G (Wi Z)<|U<|Zt ?_
 have hE:ej 4 t=none:=by unfold ej;rw[if_neg I,if_neg I,if_neg I]
 rw[hE]
 dsimp only
 exact cu (cs0:= #[J 0,J 0,J 0,.slice none 0 0]) (v1:=J 12) Z az Z (H.ent (i:=0) Z) Z Z ⟨rfl,H.below⟩
/-- P5.7: what a tick does to one producer's transaction -/
def fm (clock wait:Int) (t:Tx):Tx:=if t.state=2/\wait<=clock-t.since/\t.ver<1073741824 then{t with state:=4,ver:=t.ver+1}else t
theorem Nf (ck wt:Int) (t:Tx):(fm ck wt t).a=fm ck wt t.a:=by
 unfold fm
 by_cases h:t.state=2/\wt<=ck-t.since/\t.ver<1073741824
 rw[if_pos h,if_pos (show t.a.state=2/\wt<=ck-t.a.since/\t.a.ver<1073741824 from h)];rfl
 rw[if_neg h,if_neg (show¬ (t.a.state=2/\wt<=ck-t.a.since/\t.a.ver<1073741824)from h)]
theorem Et (ck wt:Int) (t:Tx):(fm ck wt t).A=t.A/\(fm ck wt t).parts=t.parts/\(fm ck wt t).cap=t.cap:=by
 unfold fm
 split<;>exact⟨rfl,rfl,rfl⟩
theorem eL.tick (ck wt:Int): ∀ {ts:List Tx} {L:List (Nat×Obj)},eL ts L->eL (ts.map (fm ck wt)) L
 |[],_,h=>h
 |t::_,_,⟨L1,L2,h1,h2,h3⟩=>⟨L1,L2,h1,by obtain⟨a,b,c⟩:=Et ck wt t;rw[a,b,c];exact h2,eL.tick ck wt h3⟩
def mU (ck wt:Int) (ts:List Tx) (k:Nat):List Tx:=(ts.take k).map (fm ck wt)++ts.drop k
theorem BQ (ck wt:Int) (ts:List Tx) (k:Nat):(mU ck wt ts k).length=ts.length:=by
 unfold mU;simp;omega
theorem KY {ck wt:Int} {ts:List Tx} {k:Nat} {x:Tx} (h:ts[k]? =some x):(mU ck wt ts k)[k]? =some x:=by
 have:=(bZ h).1
 unfold mU
 rw[cy (by simp;omega)]
 simp
 rw[show k-min k ts.length=0 by omega]
 simpa using h
theorem tB {ck wt:Int} {ts:List Tx} {k:Nat} {x:Tx} (h:ts[k]? =some x):(mU ck wt ts k).set k (fm ck wt x)=mU ck wt ts (k+1):=by
 have hl:=(bZ h).1
 unfold mU
 rw[ed h,du h,bi,jt _ _ (by simp;omega)]
 simp
 rw[show k-min k ts.length=0 by omega]
 simp
theorem vX {ck nx:Int}: ∀ {l pre:List Tx},rz ck nx pre l=true-> ∀ t∈l,ra ck nx t=true
 |[],_,_,_,ht=>by cases ht
 |x::l,pre,h,t,ht=>by
  unfold rz at h
  simp only[bg]at h
  rcases ay.1 ht with rfl|ht
  exact h.1.1
  exact vX h.2 t ht
def uV (c:Co) (n:Int):Co:={c with clock:=c.clock+n,txs:=c.txs.map (fm (c.clock+n) c.wait)}
theorem PZ (c:Co) (n:Int) (w:World) (h:c.rd 0 w.heap.size w) (hok:iD c=true) (hn0:0<=n) (hn1:n<=1000) (hcl:c.clock+n<=1073741824):di aa tN [c.v,J n] w fun v w2=> ∃ (c':Co) (Lr Lp:List (Nat×Obj)),v=.tuple #[c'.v,J 0]/\qT w w2 (uV c.a n) c' Lr Lp:=by
 refine aG xa Z Z ?_
 have hcap:=h.cap
 have hfew:=h.few
 have hfp:=h.fewP
 have H:=Hp.startCo h
 obtain⟨ck,nx,wt,txs,cA,cc⟩:=c
 dsimp only at hcap hfew hfp H
 show CW _ _ _ _ (args [.agg #[J ck,J nx,J wt,.slice cA txs.length cc],J n]) w
 dsimp only at hcl
 obtain⟨q1,q2,q3,q4,q5,q6,q7⟩:=ta.1 hok
 dsimp only at q1 q2 q3 q4 q5 q6
 obtain⟨q8,q9⟩:=wn q1
 refine W<|Zr<|gU H Z Z fun w1 b2 H=>fc H cH Z fun w2 b4 H=>G (Wi Z)<|U<|W<|W<|Zr<|G (Zw az H 1 Z Z Z)<|cE kO (qM ⟨ck,nx,wt,txs,cA,cc⟩ _ ⟨H.rd0 0 Z,fun t ht=>fG H 1 Z ht,hcap,hfew,hfp⟩ hok) Z Z ?_
 rw[hok]
 rintro _ w3 ⟨rfl,hb⟩;replace H:=H.later hb;clear hb
 refine G (Wi Z)<|U<|W<|Zr<|G (Yi Z)<|G (cj Z Z Z)<|U<|ZF Z<|Zk<|W<|W<|Zr<|G (Yi Z)<|G (cV Z Z I)<|G (Yb Z)<|ZG<|G (Yi Z)<|ZG<|G (dX Z Z I)<|G (N Z Z)<|G (Yb Z)<|ZG<|G (Zf kK Z)<|ZG<|G (Zd al H 1 Z Z Z)<|ZG<|G (Yi Z)<|ZG<|G (bn Z Z I I)<|ZG<|G (dX Z Z I)<|G (N Z Z)<|U<|ZF Z<|Zk<|W<|Zr<|G (Zw az H 1 Z Z Z)<|cE jm (t6 ⟨ck,nx,wt,txs,cA,cc⟩ _ ⟨H.rd0 0 Z,fun t ht=>fG H 1 Z ht,hcap,hfew,hfp⟩) Z Z ?_
 rintro _ w4 ⟨⟨ck2,nx2,wt2,tx2,A2,c2⟩,Lr,Lp,rfl,ha2,ho2,hp2,hoc2,hpc2,hj2⟩
 replace H:=H.joinR hj2;clear hj2
 simp only[Co.a,Co.mk.injEq]at ha2
 obtain⟨e1,e2,e3,hma,-,-⟩:=ha2
 obtain rfl:ck=ck2:=e1.symm
 obtain rfl:nx=nx2:=e2.symm
 obtain rfl:wt=wt2:=e3.symm
 dsimp only at ho2 hp2 hoc2 hpc2 H
 have hlen2:tx2.length=txs.length:=by have:=congrArg cY hma;simpa using this
 refine bI H 1 (#[J ck,J nx,J wt,.slice A2 tx2.length c2]) aH Z Z Z Z Z N N fun w5 H=>U<|W<|Zr<|G (Zf kK Z)<|G (Zd al H 1 Z Z Z)<|G (Yi Z)<|G (bn Z Z I I)<|G (Zf kK Z)<|bI H 1 (#[J (ck+n),J nx,J wt,.slice A2 tx2.length c2]) bN Z Z Z Z Z N N fun w6 H=>U<|W<|W<|Zr<|G (Zf cR Z)<|G (Zd dP H 1 Z Z Z)<|G (bl lG Z)<|G (Yi Z)<|U<|Zb ?_
 refine bV (τ:=Nat×Option Addr) [7,8,39,40,41,42,43,44,45,46,47,48,49,50,51,52,53,54,55,56,57,58,59,60,61,62,63,64,65,66,67,68,69,70,71,72,73,74,75,76,77,78,79,80] (fun(k,_)=>[(39,J (k:Nat))]) (fun(k,A2) w'=>k<=tx2.length/\ ∃ L',gb sJ (.slice A2 (mU (ck+n) wt tx2 k).length c2) dH (mU (ck+n) wt tx2 k) L'/\Hp w w' ([(b4,.cells #[J 0,J 0,J 0,.slice none 0 0] aX (0,0)),(b2,.cells #[J (ck+n),J nx,J wt,.slice A2 tx2.length c2] aX (0,0))]++L'++(Lp++[])) [ee sJ 0 w.heap.size cA txs,iW 0 w.heap.size txs]) (fun(k,_)=>tx2.length-k) (0,A2) ⟨by omega,Lr,by unfold mU;simpa using ho2,by show Hp w _ (_::_::(Lr++(Lp++[]))) _;rw[<-aB];exact H⟩ (ef Z) ?_
 rintro⟨k,A2⟩ ρ1 w7 ⟨hk,L1,ho,H⟩
 show CW _ _ _ _ (dO (ij _ _ ρ1) [(39,J (k:Nat))]) w7
 refine W<|Zr ?_
 refine dZ (cI Z Z) Z Z Z (fun h40=> ?_) (fun h40=> ?_)
 refine U<|W<|ZT Z<|Zk<|W<|Zb<|W ?_
 obtain⟨x,hxt⟩: ∃ x,tx2[k]? =some x:=⟨_,ai I⟩
 have hx:=KY (ck:=ck+n) (wt:=wt) hxt
 have htl:=BQ (ck+n) wt tx2 k
 obtain⟨g,cur,rfl,rfl,row⟩:=ho.row I
 obtain⟨t,ht,hta⟩:=rV hma.symm hxt
 have hxo:ra ck nx x=true:=by have h1:ra ck nx t.a=true:=vX q7 t (ab ht);rw[hta]at h1;exact h1
 obtain⟨a1,a2,a3,a4,a5,a6,a7,a8,a9,a10,a11⟩:=dp.1 hxo
 obtain⟨v1,v2⟩:=wn a4
 refine Zr<|G (Yi Z)<|G (Wi Z)<|U<|W<|Zr<|G (Zf cR Z)<|G (Zd dP H 1 Z Z Z)<|G (Yi Z)<|G (cL gY Z Z I)<|G (Wp Z)<|U<|W ?_
 refine bG cv [0,1,2,3,4,5,6,7,8,9,10,11,12,13,14,15,16,17,18,19,20,21,22,23] [] [] [0,1,2,4,5,6,8,9,10,12,13,15,16,17,18,19,20,22,23] (sp []) N N N N Nq (cG _) ?_
 refine aw Z Z Z Z Z (fun w' hw'=>Yp Z)<|aw Z Z Z Z Z (fun w' hw'=>aM Z)<|aw Z Z Z Z Z (fun w' hw'=>Zf dd Z)<|aw Z Z Z Z Z (fun w' hw'=>bW al row hx 3 Z ((H.later hw').ent (i:=2) Z) Z) ?_
 refine Ef Z Z Z Z Z (fun w' hw'=>cr Z Z) (fun h50=> ?_) (fun h50=> ?_)
 refine aw Z Z Z Z Z (fun w' hw'=>Yb Z)<|aw Z Z Z Z Z (fun w' hw'=>Zf kK Z)<|aw Z Z Z Z Z (fun w' hw'=>bd al Z (aK ((H.later hw').ent (i:=1) Z) Z))<|aw Z Z Z Z Z (fun w' hw'=>Yp Z)<|aw Z Z Z Z Z (fun w' hw'=>aM Z)<|aw Z Z Z Z Z (fun w' hw'=>Zf vx Z)<|aw Z Z Z Z Z (fun w' hw'=>bW al row hx 5 Z ((H.later hw').ent (i:=2) Z) Z)<|aw Z Z Z Z Z (fun w' hw'=>qt Z Z I I)<|aw Z Z Z Z Z (fun w' hw'=>Zf xO Z)<|aw Z Z Z Z Z (fun w' hw'=>bd al Z (aK ((H.later hw').ent (i:=1) Z) Z)) ?_
 refine Ef Z Z Z Z Z (fun w' hw'=>pN Z Z) (fun h61=> ?_) (fun h61=> ?_)
 refine aw Z Z Z Z Z (fun w' hw'=>Kt Z Z)<|aw Z Z Z Z Z (fun w' hw'=>Yb Z)<|aw Z Z Z Z Z (fun w' hw'=>Yp Z)<|aw Z Z Z Z Z (fun w' hw'=>aM Z)<|aw Z Z Z Z Z (fun w' hw'=>Zf gN Z)<|aw Z Z Z Z Z (fun w' hw'=>bW al row hx 2 Z ((H.later hw').ent (i:=2) Z) Z) ?_
 refine Ef Z Z Z Z Z (fun w' hw'=>cI Z Z) (fun h68=> ?_) (fun h68=> ?_)
 refine aw Z Z Z Z Z (fun w' hw'=>Kt Z Z)<|aT ?_
 intro w8 hw' hF
 replace H:=H.later hw';clear hw' hF
 refine U<|ZT Z<|W<|Zr<|G (Yp Z)<|G (aM Z)<|G (Zf dd Z)<|nt H 2 ({x with state:=4}) bN row hx 3 Z Z Z Z Z Z N fun w10 cur9 row9 H=>U ?_
 have hx2:((mU (ck+n) wt tx2 k).set k {x with state:=4})[k]? =some {x with state:=4}:=ak I
 have hv2:({x with state:=4}:Tx).ver=x.ver:=rfl
 refine Zr<|G (Yp Z)<|G (aM Z)<|G (Zf gN Z)<|G (bW al row9 hx2 2 Z (H.ent (i:=2) Z) Z)<|G (bn Z Z I I)<|G (aM Z)<|G (Zf gN Z)<|nt H 2 ({x with state:=4,ver:=x.ver+1}) bN row9 hx2 2 Z Z Z Z Z Z N fun w12 cur11 row11 H=>U<|Zr<|G (bn Z Z I I)<|G (Yi Z)<|U ?_
 have hT:fm (ck+n) wt x={x with state:=4,ver:=x.ver+1}:=by unfold fm;rw[if_pos I]
 have hS:=tB (ck:=ck+n) (wt:=wt) hxt
 rw[hT]at hS
 refine⟨(k+1,some ⟨g,0,none⟩),⟨by omega,_,by rw[<-hS];exact d8.own (by have:=row11;rwa[fS]at this),H⟩,ef Z,Qg,by show tx2.length- (k+1)<tx2.length-k;omega⟩
 refine aw Z Z Z Z Z (fun w' hw'=>Kt Z Z)<|aT ?_
 intro w13 hw' hF
 replace H:=H.later hw';clear hw' hF
 refine U<|ZF Z<|Zk<|Zr<|G (bn Z Z I I)<|G (Yi Z)<|U ?_
 have hT:fm (ck+n) wt x=x:=by unfold fm;rw[if_neg I]
 have hS:=tB (ck:=ck+n) (wt:=wt) hxt
 rw[hT]at hS
 refine⟨(k+1,some ⟨g,0,none⟩),⟨by omega,_,by rw[<-hS];exact d8.own (by rw[i5 hx];exact row),H⟩,ef Z,Qg,by show tx2.length- (k+1)<tx2.length-k;omega⟩
 refine aw Z Z Z Z Z (fun w' hw'=>Kt Z Z)<|aw Z Z Z Z Z (fun w' hw'=>Yb Z)<|eW Z Z Z Z<|eW Z Z Z Z<|eW Z Z Z Z<|eW Z Z Z Z<|eW Z Z Z Z<|aw Z Z Z Z Z (fun w' hw'=>N Z Z)<|aT ?_
 intro w14 hw' hF
 replace H:=H.later hw';clear hw' hF
 refine U<|ZF Z<|Zk<|Zr<|G (bn Z Z I I)<|G (Yi Z)<|U ?_
 have hT:fm (ck+n) wt x=x:=by unfold fm;rw[if_neg I]
 have hS:=tB (ck:=ck+n) (wt:=wt) hxt
 rw[hT]at hS
 refine⟨(k+1,some ⟨g,0,none⟩),⟨by omega,_,by rw[<-hS];exact d8.own (by rw[i5 hx];exact row),H⟩,ef Z,Qg,by show tx2.length- (k+1)<tx2.length-k;omega⟩
 refine aw Z Z Z Z Z (fun w' hw'=>Yb Z)<|eW Z Z Z Z<|eW Z Z Z Z<|eW Z Z Z Z<|eW Z Z Z Z<|eW Z Z Z Z<|eW Z Z Z Z<|eW Z Z Z Z<|eW Z Z Z Z<|eW Z Z Z Z<|eW Z Z Z Z<|aw Z Z Z Z Z (fun w' hw'=>N Z Z)<|aw Z Z Z Z Z (fun w' hw'=>Yb Z)<|eW Z Z Z Z<|eW Z Z Z Z<|eW Z Z Z Z<|eW Z Z Z Z<|eW Z Z Z Z<|aw Z Z Z Z Z (fun w' hw'=>N Z Z)<|aT ?_
 intro w15 hw' hF
 replace H:=H.later hw';clear hw' hF
 refine U<|ZF Z<|Zk<|Zr<|G (bn Z Z I I)<|G (Yi Z)<|U ?_
 have hT:fm (ck+n) wt x=x:=by unfold fm;rw[if_neg I]
 have hS:=tB (ck:=ck+n) (wt:=wt) hxt
 rw[hT]at hS
 refine⟨(k+1,some ⟨g,0,none⟩),⟨by omega,_,by rw[<-hS];exact d8.own (by rw[i5 hx];exact row),H⟩,ef Z,Qg,by show tx2.length- (k+1)<tx2.length-k;omega⟩
 have hke:k=tx2.length:=by omega
 have hfin:mU (ck+n) wt tx2 k=tx2.map (fm (ck+n) wt):=by unfold mU;rw[hke,br,kk,aP]
 have hfl:(mU (ck+n) wt tx2 k).length=tx2.length:=BQ _ _ _ _
 rw[hfin]at ho hfl
 have hTa:(tx2.map (fm (ck+n) wt)).map Tx.a=(txs.map Tx.a).map (fm (ck+n) wt):=by rw[<-hma,tu,tu];congr 1;funext t;exact Nf _ _ t
 refine U<|W<|ZF Z<|Zx<|W<|Zr<|G (Zw az H 1 Z Z Z)<|bI H 0 (#[J (ck+n),J nx,J wt,.slice A2 tx2.length c2]) aH Z Z Z Z Z N N fun w16 H=>G (Wi Z)<|U<|Zt ?_
 exact cu (cs0:= #[J (ck+n),J nx,J wt,.slice A2 tx2.length c2]) (v1:=J 0) Z az Z (H.ent (i:=0) Z) Z Z ⟨⟨ck+n,nx,wt,tx2.map (fm (ck+n) wt),A2,c2⟩,L1,Lp,by unfold Co.v Co.c;dsimp only;rw[bF],by unfold Co.a uV;dsimp only;rw[hTa],ho,hp2.tick _ _,by dsimp only;rw[bF];exact hoc2,by intro t ht;obtain⟨y,hy,rfl⟩:=bK.1 ht;obtain⟨a,b,c⟩:=Et (ck+n) wt y;rw[b,c];exact hpc2 y hy,by simpa using H.forget (.cons _ (.cons _ (au _))) (F':=[]) (by simp)⟩
/-- P5.3: a producer that was there: its version rises, what is under way is aborted -/
def ji (t:Tx):Tx:=if t.state=2 then{t with state:=4,ver:=t.ver+1}else{t with ver:=t.ver+1}
theorem OH {t t':Tx} (h:t'.a=t.a):(ji t').a=(ji t).a:=by
 have h1:t'.state=t.state:=by show t'.a.state=t.a.state;rw[h]
 unfold ji
 by_cases hs:t.state=2
 rw[if_pos (h1.trans hs),if_pos hs]
 exact congrArg (fun x:Tx=>({x with state:=4,ver:=x.ver+1}:Tx)) h
 rw[if_neg (fun q=>hs (h1.symm.trans q)),if_neg hs]
 exact congrArg (fun x:Tx=>({x with ver:=x.ver+1}:Tx)) h
theorem Jt (c:Co) (s:ByteArray) (i:Nat) (t:Tx) (w:World) (h:c.rd 0 w.heap.size w) (hok:iD c=true) (hn:bC s=true) (hi:fN c s=i) (ht:c.txs[i]? =some t) (h3:t.state≠3) (h4:t.state≠4) (hv0:0<=t.ver) (hv:t.ver<1073741824):di aa m4 [c.v,.string s] w fun v w2=> ∃ (c':Co) (Lr Lp:List (Nat×Obj)),v=.tuple #[c'.v,J t.pid,J (t.ver+1),J 0]/\qT w w2 (Co.a {c with txs:=c.txs.set i (ji t)}) c' Lr Lp:=by
 refine aG oq Z Z ?_
 have hcap:=h.cap
 have hfew:=h.few
 have hfp:=h.fewP
 have H:=Hp.startCo h
 obtain⟨ck,nx,wt,txs,cA,cc⟩:=c
 dsimp only at hcap hfew hfp H
 show CW _ _ _ _ (args [.agg #[J ck,J nx,J wt,.slice cA txs.length cc],.string s]) w
 dsimp only at ht⊢
 refine W<|Zr<|gU H Z Z fun w1 b2 H=>fc H cH Z fun w2 b4 H=>G (Wi Z)<|G (Wi Z)<|G (Wi Z)<|U<|W<|Zr<|G (Zw az H 1 Z Z Z)<|G (Yt Z)<|cE iz (mf ⟨ck,nx,wt,txs,cA,cc⟩ s _ ⟨H.rd0 0 Z,fun t ht=>fG H 1 Z ht,hcap,hfew,hfp⟩ hok hn) Z Z ?_
 rintro _ w3 ⟨⟨ck2,nx2,wt2,tx2,A2,c2⟩,Lr,Lp,rfl,ha2,ho2,hp2,hoc2,hpc2,hj2⟩
 replace H:=H.joinR hj2;clear hj2
 simp only[Co.a,Co.mk.injEq]at ha2
 obtain⟨e1,e2,e3,hma,-,-⟩:=ha2
 obtain rfl:ck=ck2:=e1.symm
 obtain rfl:nx=nx2:=e2.symm
 obtain rfl:wt=wt2:=e3.symm
 dsimp only at ho2 hp2 hoc2 hpc2 H
 rw[hi]
 refine G (Yu Z)<|G (Xa Z Z)<|G (Xi Z Z)<|G (Xi Z Z)<|bI H 1 (#[J ck,J nx,J wt,.slice A2 tx2.length c2]) aH Z Z Z Z Z N N fun w4 H=>G (Wi Z)<|G (Wi Z)<|U<|W<|W<|Zr<|G (Yi Z)<|G (cj Z Z Z)<|U<|ZF Z<|Zk<|W<|W<|Zr<|G (Yi Z)<|G (cV Z Z I)<|U<|ZF Z<|Zk<|W ?_
 obtain⟨t2,ht2,hta⟩:=rV hma ht
 have hl2:=(bZ ht2).1
 obtain⟨g,cur,rfl,rfl,row⟩:=ho2.row I
 have hst:t2.state=t.state:=by show t2.a.state=t.a.state;rw[hta]
 have hdn:t2.done=t.done:=by show t2.a.done=t.a.done;rw[hta]
 have hver:t2.ver=t.ver:=by show t2.a.ver=t.a.ver;rw[hta]
 have hpid:t2.pid=t.pid:=by show t2.a.pid=t.a.pid;rw[hta]
 refine Zr<|G (Zf cR Z)<|G (Zd dP H 1 Z Z Z)<|G (Yi Z)<|G (cL gY Z Z (by first|omega|(simp only[ae];omega)))<|G (Wp Z)<|U<|W<|Zb<|W<|Zr<|G (Yp Z)<|G (aM Z)<|G (Zf dd Z)<|G (bW al row ht2 3 Z (H.ent (i:=2) Z) Z)<|G (me Z Z I)<|G (Yb Z)<|ZG<|G (Yp Z)<|ZG<|G (aM Z)<|ZG<|G (Zf dd Z)<|ZG<|G (bW al row ht2 3 Z (H.ent (i:=2) Z) Z)<|ZG<|G (me Z Z I)<|G (N Z Z)<|G (Wb Z)<|U<|ZF Z<|W<|Zr<|G (Yp Z)<|G (aM Z)<|G (Zf gN Z)<|G (bW al row ht2 2 Z (H.ent (i:=2) Z) Z)<|G (me Z Z I)<|G (Wb Z)<|U ?_
 refine ZF Z<|W<|Zr<|G (Yp Z)<|G (aM Z)<|G (Zf dd Z)<|G (bW al row ht2 3 Z (H.ent (i:=2) Z) Z) ?_
 refine dZ (cr Z Z) Z Z Z (fun h81=> ?_) (fun h81=> ?_)
 refine G (Wb Z)<|U<|ZT Z<|Zr<|G (Yp Z)<|G (aM Z)<|G (Zf dd Z)<|nt H 2 ({t2 with state:=4}) bN row ht2 3 Z Z Z Z Z Z N fun w6 cur5 row5 H=>U<|W ?_
 have ht3:(tx2.set i {t2 with state:=4})[i]? =some {t2 with state:=4}:=ak hl2
 have hv3:({t2 with state:=4}:Tx).ver=t2.ver:=rfl
 refine Zr<|G (Yp Z)<|G (aM Z)<|G (Zf gN Z)<|G (bW al row5 ht3 2 Z (H.ent (i:=2) Z) Z)<|G (bn Z Z I I)<|G (aM Z)<|G (Zf gN Z)<|nt H 2 ({t2 with state:=4,ver:=t2.ver+1}) bN row5 ht3 2 Z Z Z Z Z Z N fun w8 cur7 row7 H=>U<|W ?_
 have ht4:(tx2.set i {t2 with state:=4,ver:=t2.ver+1})[i]? =some {t2 with state:=4,ver:=t2.ver+1}:=ak hl2
 rw[fS]at row7
 refine wv cv (fun w'=>w'.heap[b2]? =some (.cells #[J ck,J nx,J wt,.slice (Qd g) tx2.length c2] aX (0,0))/\w'.heap[g]? =some (.cells cur7 dH (0,0))) ?_
 intro w9 hw';replace H:=H.later hw';clear hw'
 refine cJ 0 N N N Z Z Z Z Nq ⟨H.ent (i:=1) Z,H.ent (i:=2) Z⟩ (fun _ hS=>kh az Z hS.1 Z)<|cJ 1 N N N Z Z Z Z Nq ⟨H.ent (i:=1) Z,H.ent (i:=2) Z⟩ (fun _ hS=>Yp Z)<|cJ 2 N N N Z Z Z Z Nq ⟨H.ent (i:=1) Z,H.ent (i:=2) Z⟩ (fun _ hS=>aM Z)<|cJ 3 N N N Z Z Z Z Nq ⟨H.ent (i:=1) Z,H.ent (i:=2) Z⟩ (fun _ hS=>Zf lJ Z)<|cJ 4 N N N Z Z Z Z Nq ⟨H.ent (i:=1) Z,H.ent (i:=2) Z⟩ (fun _ hS=>bW al row7 ht4 1 Z hS.2 Z)<|cJ 5 N N N Z Z Z Z Nq ⟨H.ent (i:=1) Z,H.ent (i:=2) Z⟩ (fun _ hS=>Yp Z)<|cJ 6 N N N Z Z Z Z Nq ⟨H.ent (i:=1) Z,H.ent (i:=2) Z⟩ (fun _ hS=>aM Z)<|cJ 7 N N N Z Z Z Z Nq ⟨H.ent (i:=1) Z,H.ent (i:=2) Z⟩ (fun _ hS=>Zf gN Z)<|cJ 8 N N N Z Z Z Z Nq ⟨H.ent (i:=1) Z,H.ent (i:=2) Z⟩ (fun _ hS=>bW al row7 ht4 2 Z hS.2 Z)<|MY 9 N Z<|bI H 0 (#[J ck,J nx,J wt,.slice (Qd g) tx2.length c2]) aH Z Z Z Z Z N N fun w10 H=>U ?_
 refine⟨⟨H.ent (i:=1) Z,H.ent (i:=2) Z⟩,?_⟩
 refine cJ 10 N N N Z Z Z Z Nq ⟨H.ent (i:=1) Z,H.ent (i:=2) Z⟩ (fun _ hS=>Wi Z)<|cJ 11 N N N Z Z Z Z Nq ⟨H.ent (i:=1) Z,H.ent (i:=2) Z⟩ (fun _ hS=>Wi Z)<|cJ 12 N N N Z Z Z Z Nq ⟨H.ent (i:=1) Z,H.ent (i:=2) Z⟩ (fun _ hS=>Wi Z)<|y9 N<|Zt ?_
 have hI:ji t2={t2 with state:=4,ver:=t2.ver+1}:=by unfold ji;rw[if_pos I]
 exact na (cs0:= #[J ck,J nx,J wt,.slice (Qd g) tx2.length c2]) (v1:=J t2.pid) (v2:=J (t2.ver+1)) (v3:=J 0) Z az Z (H.ent (i:=0) Z) Z Z Z Z ⟨⟨ck,nx,wt,tx2.set i ({t2 with state:=4,ver:=t2.ver+1}),some ⟨g,0,none⟩,c2⟩,[(g,.cells cur7 dH (0,0))],Lp,by unfold Co.v Co.c;dsimp only;rw[ae,hpid,hver],by unfold Co.a;dsimp only;rw[pL hma i (show Tx.a ({t2 with state:=4,ver:=t2.ver+1})=(ji t).a by rw[<-hI];exact OH hta)],by dsimp only;exact d8.own row7,hp2.same ht2 Z Z Z,by dsimp only;rw[ae];exact hoc2,td hpc2 ht2 Z Z,H.forget (.cons _ (.cons _ (aE _ _))) (by simp)⟩
 refine G (Wb Z)<|U<|ZF Z<|Zk<|W<|Zr<|G (Yp Z)<|G (aM Z)<|G (Zf gN Z)<|G (bW al row ht2 2 Z (H.ent (i:=2) Z) Z)<|G (bn Z Z I I)<|G (aM Z)<|G (Zf gN Z)<|nt H 2 ({t2 with ver:=t2.ver+1}) bN row ht2 2 Z Z Z Z Z Z N fun w12 cur11 row11 H=>U<|W ?_
 have ht4:(tx2.set i {t2 with ver:=t2.ver+1})[i]? =some {t2 with ver:=t2.ver+1}:=ak hl2
 refine wv cv (fun w'=>w'.heap[b2]? =some (.cells #[J ck,J nx,J wt,.slice (Qd g) tx2.length c2] aX (0,0))/\w'.heap[g]? =some (.cells cur11 dH (0,0))) ?_
 intro w13 hw';replace H:=H.later hw';clear hw'
 refine cJ 0 N N N Z Z Z Z Nq ⟨H.ent (i:=1) Z,H.ent (i:=2) Z⟩ (fun _ hS=>kh az Z hS.1 Z)<|cJ 1 N N N Z Z Z Z Nq ⟨H.ent (i:=1) Z,H.ent (i:=2) Z⟩ (fun _ hS=>Yp Z)<|cJ 2 N N N Z Z Z Z Nq ⟨H.ent (i:=1) Z,H.ent (i:=2) Z⟩ (fun _ hS=>aM Z)<|cJ 3 N N N Z Z Z Z Nq ⟨H.ent (i:=1) Z,H.ent (i:=2) Z⟩ (fun _ hS=>Zf lJ Z)<|cJ 4 N N N Z Z Z Z Nq ⟨H.ent (i:=1) Z,H.ent (i:=2) Z⟩ (fun _ hS=>bW al row11 ht4 1 Z hS.2 Z)<|cJ 5 N N N Z Z Z Z Nq ⟨H.ent (i:=1) Z,H.ent (i:=2) Z⟩ (fun _ hS=>Yp Z)<|cJ 6 N N N Z Z Z Z Nq ⟨H.ent (i:=1) Z,H.ent (i:=2) Z⟩ (fun _ hS=>aM Z)<|cJ 7 N N N Z Z Z Z Nq ⟨H.ent (i:=1) Z,H.ent (i:=2) Z⟩ (fun _ hS=>Zf gN Z)<|cJ 8 N N N Z Z Z Z Nq ⟨H.ent (i:=1) Z,H.ent (i:=2) Z⟩ (fun _ hS=>bW al row11 ht4 2 Z hS.2 Z)<|MY 9 N Z<|bI H 0 (#[J ck,J nx,J wt,.slice (Qd g) tx2.length c2]) aH Z Z Z Z Z N N fun w14 H=>U ?_
 refine⟨⟨H.ent (i:=1) Z,H.ent (i:=2) Z⟩,?_⟩
 refine cJ 10 N N N Z Z Z Z Nq ⟨H.ent (i:=1) Z,H.ent (i:=2) Z⟩ (fun _ hS=>Wi Z)<|cJ 11 N N N Z Z Z Z Nq ⟨H.ent (i:=1) Z,H.ent (i:=2) Z⟩ (fun _ hS=>Wi Z)<|cJ 12 N N N Z Z Z Z Nq ⟨H.ent (i:=1) Z,H.ent (i:=2) Z⟩ (fun _ hS=>Wi Z)<|y9 N<|Zt ?_
 have hI:ji t2={t2 with ver:=t2.ver+1}:=by unfold ji;rw[if_neg I]
 exact na (cs0:= #[J ck,J nx,J wt,.slice (Qd g) tx2.length c2]) (v1:=J t2.pid) (v2:=J (t2.ver+1)) (v3:=J 0) Z az Z (H.ent (i:=0) Z) Z Z Z Z ⟨⟨ck,nx,wt,tx2.set i ({t2 with ver:=t2.ver+1}),some ⟨g,0,none⟩,c2⟩,[(g,.cells cur11 dH (0,0))],Lp,by unfold Co.v Co.c;dsimp only;rw[ae,hpid,hver],by unfold Co.a;dsimp only;rw[pL hma i (show Tx.a ({t2 with ver:=t2.ver+1})=(ji t).a by rw[<-hI];exact OH hta)],by dsimp only;exact d8.own row11,hp2.same ht2 Z Z Z,by dsimp only;rw[ae];exact hoc2,td hpc2 ht2 Z Z,H.forget (.cons _ (.cons _ (aE _ _))) (by simp)⟩
theorem NO {w0 w:World} {F:List cf} {a b:Nat×Obj} (Lr Lp:List (Nat×Obj)) (H:Hp w0 w (a::b::((Lr++Lp)++[])) F):Hp w0 w ([a,b]++Lr++Lp) F:=by
 rw[aP]at H
 exact H
theorem Md (c:Co) (s:ByteArray) (w:World) (h:c.rd 0 w.heap.size w) (hok:iD c=true) (hn:bC s=true) (hi:fN c s<0) (hf:c.txs.length≠8) (hx:c.next≠1073741824):di aa m4 [c.v,.string s] w fun v w2=> ∃ (c':Co) (Lr Lp:List (Nat×Obj)),v=.tuple #[c'.v,J c.next,J 0,J 0]/\qT w w2 (kN c.a s) c' Lr Lp:=by
 refine aG oq Z Z ?_
 have hcap:=h.cap
 have hfew:=h.few
 have hfp:=h.fewP
 have H:=Hp.startCo h
 obtain⟨ck,nx,wt,txs,cA,cc⟩:=c
 dsimp only at hcap hfew hfp H
 show CW _ _ _ _ (args [.agg #[J ck,J nx,J wt,.slice cA txs.length cc],.string s]) w
 dsimp only at hf hx⊢
 obtain⟨q1,q2,q3,q4,q5,q6,q7⟩:=ta.1 hok
 dsimp only at q2 q3 q6
 refine W<|Zr<|gU H Z Z fun w1 b2 H=>fc H cH Z fun w2 b4 H=>G (Wi Z)<|G (Wi Z)<|G (Wi Z)<|U<|W<|Zr<|G (Zw az H 1 Z Z Z)<|G (Yt Z)<|cE iz (mf ⟨ck,nx,wt,txs,cA,cc⟩ s _ ⟨H.rd0 0 Z,fun t ht=>fG H 1 Z ht,hcap,hfew,hfp⟩ hok hn) Z Z ?_
 rintro _ w3 ⟨⟨ck2,nx2,wt2,tx2,A2,c2⟩,Lr,Lp,rfl,ha2,ho2,hp2,hoc2,hpc2,hj2⟩
 replace H:=H.joinR hj2;clear hj2
 simp only[Co.a,Co.mk.injEq]at ha2
 obtain⟨e1,e2,e3,hma,-,-⟩:=ha2
 obtain rfl:ck=ck2:=e1.symm
 obtain rfl:nx=nx2:=e2.symm
 obtain rfl:wt=wt2:=e3.symm
 dsimp only at ho2 hp2 hoc2 hpc2 H
 have hlen2:tx2.length=txs.length:=by have:=congrArg cY hma;simpa using this
 refine G (Yu Z)<|G (Xa Z Z)<|G (Xi Z Z)<|G (Xi Z Z)<|bI H 1 (#[J ck,J nx,J wt,.slice A2 tx2.length c2]) aH Z Z Z Z Z N N fun w4 H=>G (Wi Z)<|G (Wi Z)<|U<|W<|W<|Zr<|G (Yi Z)<|G (cj Z Z Z)<|U<|ZF Z<|Zk<|W<|W<|Zr<|G (Yi Z)<|G (xB Z Z hi)<|U<|ZT Z<|W<|W<|Zr<|G (Zf cR Z)<|G (Zd dP H 1 Z Z Z)<|G (bl lG Z)<|G (me Z Z I)<|G (Yb Z)<|ZG<|G (Zf kJ Z)<|ZG<|G (Zd al H 1 Z Z Z)<|ZG<|G (me Z Z I)<|G (N Z Z)<|U<|ZF Z ?_
 refine Zk<|W ?_
 replace H:=NO Lr Lp H
 refine Zr<|G (Zf cR Z)<|G (Zd dP H 1 Z Z Z)<|G (Yt Z)<|G (Zf kJ Z)<|G (Zd al H 1 Z Z Z)<|G (bp (cs:= #[.string s,J nx,J 0,J 1,.slice none 0 0,J 0,J 0]) RV J6 N)<|sK (vs:=[.agg #[.string s,J nx,J 0,J 1,.slice none 0 0,J 0,J 0]]) H gY J6 Z Z Z Z Z Z fun w5 b40 H=>uO (Y:=sJ) KK (K:=[(b40,_),(b4,_),(b2,_)]) (L:=Lr) (M:=Lp) H ho2 (news:=[gH s nx]) Z Z Z (wL.row (m:=1) (sz:=sJ.sz) (H.ent (i:=0) Z) Z) (by simp only[bv];omega) Z ?_
 intro A41 c41 w6 L41 h41 _ ho41 H
 refine G (Zf cR Z)<|bI H 2 (#[J ck,J nx,J wt,.slice A41 (tx2++[gH s nx]).length c41]) BW Z Z Z Z Z N N fun w7 H=>U<|W<|Zr<|G (Zf kJ Z)<|G (Zd al H 2 Z Z Z)<|G (bn Z Z I I)<|G (Zf kJ Z)<|bI H 2 (#[J ck,J (nx+1),J wt,.slice A41 (tx2++[gH s nx]).length c41]) bN Z Z Z Z Z N N fun w8 H=>U<|W ?_
 refine rL cv [1] [0,2,3,4,5,6,7] [1] 7 N N N Nq ?_
 refine aw Z Z Z Z Z (fun w' hw'=>Zf kJ Z)<|aT ?_
 intro w9 hw';replace H:=H.later hw';clear hw'
 refine uN 0 2 N Z Z ?_ ?_
 refine G (Zw az H 2 Z Z Z)<|U ?_
 refine uN 2 4 N Z Z ?_ ?_
 refine G (Zd al H 2 Z Z Z)<|U ?_
 refine uN 3 4 N Z Z ?_ ?_
 refine G (qt Z Z I I)<|U<|db 4 N Z<|bI H 1 (#[J ck,J (nx+1),J wt,.slice A41 (tx2++[gH s nx]).length c41]) aH Z Z Z Z Z N N fun w10 H=>U<|db 5 N Z<|G (Wi Z)<|U<|db 6 N Z<|G (Wi Z)<|U<|db 7 N Z<|G (Wi Z)<|U<|cz N<|Zt ?_
 exact na (cs0:= #[J ck,J (nx+1),J wt,.slice A41 (tx2++[gH s nx]).length c41]) (v1:=J (nx+1-1)) (v2:=J 0) (v3:=J 0) Z az Z (H.ent (i:=1) Z) Z Z Z Z ⟨⟨ck,nx+1,wt,tx2++[gH s nx],A41,c41⟩,L41,Lp,by rw[show nx+1-1=nx by omega];rfl,by unfold Co.a kN;dsimp only;rw[bi,hma];rfl,ho41,by have:=eL.snoc (t:=gH s nx) (L':=[]) gb.nil hp2;rwa[aP]at this,h41,by intro t ht;rcases ar.1 ht with ht|ht;exact hpc2 t ht;rw[aq.1 ht];exact ap _,H.forget (.cons _ (.cons _ (.cons _ (au _)))) (by simp)⟩
 refine bI H 1 (#[J ck,J (nx+1),J wt,.slice A41 (tx2++[gH s nx]).length c41]) aH Z Z Z Z Z N N fun w11 H=>U<|db 3 N Z<|G (qt Z Z I I)<|U<|db 5 N Z<|G (Wi Z)<|U<|db 6 N Z<|G (Wi Z)<|U<|db 7 N Z<|G (Wi Z)<|U<|cz N<|Zt ?_
 exact na (cs0:= #[J ck,J (nx+1),J wt,.slice A41 (tx2++[gH s nx]).length c41]) (v1:=J (nx+1-1)) (v2:=J 0) (v3:=J 0) Z az Z (H.ent (i:=1) Z) Z Z Z Z ⟨⟨ck,nx+1,wt,tx2++[gH s nx],A41,c41⟩,L41,Lp,by rw[show nx+1-1=nx by omega];rfl,by unfold Co.a kN;dsimp only;rw[bi,hma];rfl,ho41,by have:=eL.snoc (t:=gH s nx) (L':=[]) gb.nil hp2;rwa[aP]at this,h41,by intro t ht;rcases ar.1 ht with ht|ht;exact hpc2 t ht;rw[aq.1 ht];exact ap _,H.forget (.cons _ (.cons _ (.cons _ (au _)))) (by simp)⟩
 refine bI H 1 (#[J ck,J (nx+1),J wt,.slice A41 (tx2++[gH s nx]).length c41]) aH Z Z Z Z Z N N fun w12 H=>U<|db 2 N Z<|G (Zd al H 2 Z Z Z)<|U<|db 3 N Z<|G (qt Z Z I I)<|U<|db 5 N Z<|G (Wi Z)<|U<|db 6 N Z<|G (Wi Z)<|U<|db 7 N Z<|G (Wi Z)<|U<|cz N<|Zt ?_
 exact na (cs0:= #[J ck,J (nx+1),J wt,.slice A41 (tx2++[gH s nx]).length c41]) (v1:=J (nx+1-1)) (v2:=J 0) (v3:=J 0) Z az Z (H.ent (i:=1) Z) Z Z Z Z ⟨⟨ck,nx+1,wt,tx2++[gH s nx],A41,c41⟩,L41,Lp,by rw[show nx+1-1=nx by omega];rfl,by unfold Co.a kN;dsimp only;rw[bi,hma];rfl,ho41,by have:=eL.snoc (t:=gH s nx) (L':=[]) gb.nil hp2;rwa[aP]at this,h41,by intro t ht;rcases ar.1 ht with ht|ht;exact hpc2 t ht;rw[aq.1 ht];exact ap _,H.forget (.cons _ (.cons _ (.cons _ (au _)))) (by simp)⟩
 refine G (Zd al H 2 Z Z Z)<|U ?_
 refine uN 0 3 N Z Z ?_ ?_
 refine G (Zw az H 2 Z Z Z)<|U ?_
 refine uN 3 4 N Z Z ?_ ?_
 refine G (qt Z Z I I)<|U<|db 4 N Z<|bI H 1 (#[J ck,J (nx+1),J wt,.slice A41 (tx2++[gH s nx]).length c41]) aH Z Z Z Z Z N N fun w13 H=>U<|db 5 N Z<|G (Wi Z)<|U<|db 6 N Z<|G (Wi Z)<|U<|db 7 N Z<|G (Wi Z)<|U<|cz N<|Zt ?_
 exact na (cs0:= #[J ck,J (nx+1),J wt,.slice A41 (tx2++[gH s nx]).length c41]) (v1:=J (nx+1-1)) (v2:=J 0) (v3:=J 0) Z az Z (H.ent (i:=1) Z) Z Z Z Z ⟨⟨ck,nx+1,wt,tx2++[gH s nx],A41,c41⟩,L41,Lp,by rw[show nx+1-1=nx by omega];rfl,by unfold Co.a kN;dsimp only;rw[bi,hma];rfl,ho41,by have:=eL.snoc (t:=gH s nx) (L':=[]) gb.nil hp2;rwa[aP]at this,h41,by intro t ht;rcases ar.1 ht with ht|ht;exact hpc2 t ht;rw[aq.1 ht];exact ap _,H.forget (.cons _ (.cons _ (.cons _ (au _)))) (by simp)⟩
 refine bI H 1 (#[J ck,J (nx+1),J wt,.slice A41 (tx2++[gH s nx]).length c41]) aH Z Z Z Z Z N N fun w14 H=>U<|db 3 N Z<|G (qt Z Z I I)<|U<|db 5 N Z<|G (Wi Z)<|U<|db 6 N Z<|G (Wi Z)<|U<|db 7 N Z<|G (Wi Z)<|U<|cz N<|Zt ?_
 exact na (cs0:= #[J ck,J (nx+1),J wt,.slice A41 (tx2++[gH s nx]).length c41]) (v1:=J (nx+1-1)) (v2:=J 0) (v3:=J 0) Z az Z (H.ent (i:=1) Z) Z Z Z Z ⟨⟨ck,nx+1,wt,tx2++[gH s nx],A41,c41⟩,L41,Lp,by rw[show nx+1-1=nx by omega];rfl,by unfold Co.a kN;dsimp only;rw[bi,hma];rfl,ho41,by have:=eL.snoc (t:=gH s nx) (L':=[]) gb.nil hp2;rwa[aP]at this,h41,by intro t ht;rcases ar.1 ht with ht|ht;exact hpc2 t ht;rw[aq.1 ht];exact ap _,H.forget (.cons _ (.cons _ (.cons _ (au _)))) (by simp)⟩
 refine G (qt Z Z I I)<|U<|db 0 N Z<|G (Zw az H 2 Z Z Z)<|U<|db 4 N Z<|bI H 1 (#[J ck,J (nx+1),J wt,.slice A41 (tx2++[gH s nx]).length c41]) aH Z Z Z Z Z N N fun w15 H=>U<|db 5 N Z<|G (Wi Z)<|U<|db 6 N Z<|G (Wi Z)<|U<|db 7 N Z<|G (Wi Z)<|U<|cz N<|Zt ?_
 exact na (cs0:= #[J ck,J (nx+1),J wt,.slice A41 (tx2++[gH s nx]).length c41]) (v1:=J (nx+1-1)) (v2:=J 0) (v3:=J 0) Z az Z (H.ent (i:=1) Z) Z Z Z Z ⟨⟨ck,nx+1,wt,tx2++[gH s nx],A41,c41⟩,L41,Lp,by rw[show nx+1-1=nx by omega];rfl,by unfold Co.a kN;dsimp only;rw[bi,hma];rfl,ho41,by have:=eL.snoc (t:=gH s nx) (L':=[]) gb.nil hp2;rwa[aP]at this,h41,by intro t ht;rcases ar.1 ht with ht|ht;exact hpc2 t ht;rw[aq.1 ht];exact ap _,H.forget (.cons _ (.cons _ (.cons _ (au _)))) (by simp)⟩
theorem FU (n:Int) (w:World):di aa AV [J n] w fun v w2=>v=.bool false/\Below w.heap.size w w2:=by
 refine aG zH Z Z ?_
 have H:=Hp.start w
 refine W<|Zr<|G (Wb Z)<|U<|W<|Zr<|G (Yi Z)<|G (Yi Z)<|G (cj Z Z Z)<|G (Wb Z)<|U<|Zt ?_
 exact cU (v:=.bool false) Z Z ⟨rfl,H.below⟩
theorem Hv (a b:Int) (w:World):di aa CH [J a,J b] w fun v w2=>v=.bool (decide (a<b))/\Below w.heap.size w w2:=by
 refine aG Bc Z Z ?_
 have H:=Hp.start w
 refine W<|Zr<|G (Wb Z)<|U<|W<|Zr<|G (Yi Z)<|cE zU (FU a _) Z Z ?_
 rintro _ w1 ⟨rfl,hb⟩;replace H:=H.later hb;clear hb
 refine G (Yb Z)<|ZN<|ZN<|ZN<|G (N Z Z)<|G (Yb Z)<|ZG<|G (Yi Z)<|ZG<|G (Yi Z)<|ZG ?_
 refine dZ (cI Z Z) Z Z Z (fun h15=> ?_) (fun h15=> ?_)
 refine G (N Z Z)<|G (Wb Z)<|U<|Zt ?_
 exact cU (v:=.bool true) Z Z ⟨by rw[decide_eq_true h15],H.below⟩
 refine G (N Z Z)<|G (Wb Z)<|U<|Zt ?_
 exact cU (v:=.bool false) Z Z ⟨by rw[decide_eq_false h15],H.below⟩
theorem tR:aa.funcs[(144:Nat)]? =some Tryz.f144:=Tryz.func144
theorem tL {w0 w:World} {K M Lt:List (Nat×Obj)} {F:List cf} {es:List Int} {x:Int} {i c vb:Nat} {A:Option Addr} (H:Hp w0 w (((vb,.cells (bR.f x).toArray 3 (0,0))::K)++Lt++M) F) (ho:gb bR (.slice A es.length c) 3 es Lt) (hi:i<=es.length) (hb:(es.length+1)*8<=140737488355328):
  di aa rY [.slice A es.length c,J (i:Nat),.slice (Qd vb) ((1:Nat)) 1] w fun v w2=> ∃ A' c' L',v=.slice A' (es.take i++[x]++es.drop i).length c'/\gb bR (.slice A' (es.take i++[x]++es.drop i).length c') 3 (es.take i++[x]++es.drop i) L'/\Hp w0 w2 (((vb,.cells (bR.f x).toArray 3 (0,0))::K)++L'++M) F:=by
 refine aG re Z Z ?_
 show CW _ _ _ _ (args [.slice A es.length c,J (i:Nat),.slice (Qd vb) ((1:Nat)) 1]) w
 have hc0:es.length<=c:=by
  obtain⟨_,c',he,hc,_⟩:=ho.form
  injection he with _ _ he
  omega
 have hxs:(bR.f x).length=bR.sz:=bR.len x
 have hx1: ∀ u∈bR.f x,u.oneCell'=true:=fun u hu=>bR.one x u hu
 have hsv: ∀ {w2:World} {K2:List (Nat×Obj)},Hp w0 w2 ((vb,.cells (bR.f x).toArray 3 (0,0))::K2) F->wL w2 (Qd vb) 1 bR.sz (bR.all [x]):=fun h=>⟨by rw[fu.length];rfl,fun _=>⟨_,rfl,fun j u hj=>by rw[all_one]at hj;rw[Addr.add_lit,cC];exact aK (h.ent (i:=0) Z) (by simpa using hj)⟩⟩
 refine W<|Zr<|wK Z Z<|U<|W<|Zr<|mO Z Z<|iN Z Z<|ui bj Z Z I I I Z fun A12 hA12=>U<|W<|Zr<|mO Z Z<|wA fp Z Z<|pK Z Z<|U<|W<|W<|Zr<|iN Z Z<|G (me Z Z (by decide))<|U<|ZF Z<|Zk<|W<|Zr<|mO Z Z<|wA fp Z Z<|pK Z Z<|U<|W<|W<|Zr<|iN Z Z<|iN Z Z ?_
 refine O2 Z Z Z (fun h22=> ?_) (fun h22=> ?_)
 ·refine nL ?_
  refine ZT Z<|W<|Zr<|mO Z Z<|mO Z Z<|uO (Y:=bR) (es:=es) (news:=[x]) BC H ho Z Z Z (hsv H) (by show(es.length+1)*8<=_;omega) Z fun A25 c25 w25 L25 h25 h25b ho25 H25=>wK Z Z<|U<|Zt<|cU Z Z ?_
  have hi:i=es.length:=by omega
  subst hi
  have he:es.take es.length++[x]++es.drop es.length=es++[x]:=by rw[br,kk,aP]
  rw[he]
  exact⟨A25,c25,L25,rfl,ho25,H25⟩
 refine U<|ZF Z<|Zk ?_
 have hlt:i<es.length:=by omega
 obtain⟨g,cur,rfl,rfl,row⟩:=ho.row I
 have hgE:w.heap[g]? =some (.cells cur 3 (0,0)):=H.ent (i:=((vb,.cells (bR.f x).toArray 3 (0,0))::K:List (Nat×Obj)).length) (by simp)
 have hle:=row.le
 have hmx:=row.max
 have hlen:=wk (x:=x) (mR hlt)
 have hfit:=row.fit hle
 have hif:=row.fit (i:=i) I
 have hdr:(bR.all (es.drop i)).length=(es.length-i)*bR.sz:=by rw[fu.length,dL]
 have hsm:(i+1)*bR.sz+(es.length-i)*bR.sz=(es.length+1)*bR.sz:=by rw[<-cW];congr 1;omega
 have hi3:(i+1)*bR.sz=i*bR.sz+bR.sz:=by rw[cW,gj]
 refine W<|W<|Zr<|iN Z Z<|iN Z Z<|add Z Z I I Z<|mO Z Z<|G (GF fp Z) ?_
 refine Mh Z Z Z (fun h31=> ?_) (fun h31=> ?_)
 ·refine nL ?_
  refine ZT Z<|W<|Zr<|mO Z Z<|iN Z Z<|BS bj Z Z I I Z fun A34 hA34=> ?_
  obtain rfl:=hA34 I
  refine iN Z Z<|iN Z Z<|add Z Z I I Z<|iN Z Z<|sub Z Z I I Z ?_
  refine Ud (m:=es.length+1-i) BC iK H Z (kd:=.i64) (show _=Value.int _ _ from congrArg (Value.int _) (show((es.length:Int)+((1:Nat):Int))- (i:Nat)=((es.length+1-i:Nat):Int) by omega)) (olds:=bR.all (es.take i)) (by rw[fu.length,aI,bE I];rfl) (fun j u hj=>by rw[Addr.add_lit,cC];rw[<-row.pre I,dz]at hj;split at hj;exact aK hgE (by simpa using hj);cases hj) I I (by show(((i:Nat):Int).toNat+(es.length+1-i))*8<=_;omega) Z ?_
  intro w1 g2 c2 cur2 hs2 hge2 hmx2 hp2 H
  have hs2':cur2.size=c2*bR.sz:=hs2
  have hc2:(es.length+1)*bR.sz<=cur2.size:=by rw[hs2'];exact cN _ I
  have hg2:(pz cur2 (i*bR.sz) (bR.f x)).size=cur2.size:=jX (by rw[hxs];omega)
  refine wK Z Z<|U<|W<|Zr<|mO Z Z<|iN Z Z<|ui bj Z Z I I I Z fun A43 hA43=>mO Z Z ?_
  have hsrc:=hsv (H.perm (am _ _ _))
  refine RJ (K:=[]) (m:=1) (o:=i*bR.sz) bj H Z Z (EM Z I) (fun _=>xW.at0 hA43 I) hsrc (by rw[all_one];exact hx1) (by rw[all_one,hxs];omega) Z ?_
  rw[all_one]
  intro w2 H
  refine U<|W ?_
  refine bG cv [0,1,2,3,4,5,6,7] [8] [] [0,1,2,3,4,5,6,7] (sp []) N N N N Nq (cG _) ?_
  refine aw Z Z Z Z Z (fun _ _=>iG Z)<|aw Z Z Z Z Z (fun _ _=>iG Z)<|aw Z Z Z Z Z (fun _ _=>iG Z)<|aw Z Z Z Z Z (fun _ _=>bn Z Z I I)<|aw Z Z Z Z Z (fun _ _=>pY bj Z Z I I)<|aw Z Z Z Z Z (fun _ _=>iG Z)<|aw Z Z Z Z Z (fun _ _=>iG Z)<|aw Z Z Z Z Z (fun _ _=>pY bj Z Z I I)<|aT ?_
  intro w' hw' _;replace H:=H.later hw';clear hw'
  have hgE2:w'.heap[g]? =some (.cells cur 3 (0,0)):=(H.ents (g,.cells cur 3 (0,0)) (by simp)).1
  refine RJ (K:=[]) (m:=es.length-i) (o:=(i+1)*bR.sz) bj H Z Z (EM I I) (fun _=>C7 I) (row.srcFrom hgE2 I (s9 (ap _)) I) (fu.all_one _) (by rw[hdr,hg2];omega) Z ?_
  intro w3 H
  refine U<|W<|Zr<|mO Z Z<|wK Z Z<|U<|Zt<|cU Z Z ?_
  exact⟨some ⟨g2,0,none⟩,c2,_,by rw[hlen];show Value.slice _ (((i:Nat):Int).toNat+(es.length+1-i)) _=_;congr 1;omega,d8.own (d8.insNew hs2' hmx2 hp2 (mR hlt) I),H.swapRow⟩
 refine U<|ZF Z<|Zk ?_
 have hroom:es.length+1<=c:=by omega
 have hfr:=row.fit hroom
 refine W<|Zr<|mO Z Z<|iN Z Z<|iN Z Z<|add Z Z I I Z<|BS bj Z Z I I Z fun A60 hA60=> ?_
 obtain rfl:=hA60 I
 refine wK Z Z<|U<|W<|W<|Zr<|mO Z Z<|mO Z Z<|iN Z Z<|iN Z Z<|add Z Z I I Z<|ui bj Z Z I I I Z fun A66 hA66=> ?_
 have hA:=xW.at0 hA66 I
 have hvE:w.heap[vb]? =some (.cells (bR.f x).toArray 3 (0,0)):=H.ent (i:=0) Z
 have hne:vb≠g:=fun he=>by
  have:=H.nodup
  simp only[bi,dB,qZ,jB,ar]at this
  exact this.1 (.inl (.inr (by rw[he];exact aA)))
 have hov: ∀ lb cb,(callFunc uA #[.slice (Qd vb) 1 1,.slice A66 lb cb]).run aa w=.ok (.value (.bool false)) w:=fun lb cb=>by
  rw[hA,run_callFunc_extern tR N N N (e:=Extern.SlicesOverlaps.overlaps #[zZ,zZ] #[kb]) N,
   Lib.run_overlaps_apart w zZ kb cM (fe bj).1 bR.sz (by obtain⟨_,j,h1,h2⟩:=fe bj;exact fun w=>by rw[fV h1,h2];rfl) ⟨vb,0,none⟩ _ 1 1 lb cb hne cM cM (bR.f x).length cur.size (by simp[World.shape?,hvE]) (by simp[World.shape?,hgE]) (by have:=bR.pos;have:=row.fit (i:=1) I;omega) (by simp[World.frozen?,hvE]) (by simp[World.frozen?,hvE])]
  rfl
 refine Td (hov _ _) Z Z<|not Z Z<|U<|ZT Z<|W ?_
 refine bG cv [0,1,2,3,4,5,6,7] [8] [] [0,1,2,3,4,5,6,7] (sp []) N N N N Nq (cG _) ?_
 refine aw Z Z Z Z Z (fun _ _=>iG Z)<|aw Z Z Z Z Z (fun _ _=>iG Z)<|aw Z Z Z Z Z (fun _ _=>iG Z)<|aw Z Z Z Z Z (fun _ _=>bn Z Z I I)<|aw Z Z Z Z Z (fun _ _=>pY bj Z Z I I)<|aw Z Z Z Z Z (fun _ _=>iG Z)<|aw Z Z Z Z Z (fun _ _=>iG Z)<|aw Z Z Z Z Z (fun _ _=>pY bj Z Z I I)<|aT ?_
 intro w' hw' _;replace H:=H.later hw';clear hw'
 have hgE2:w'.heap[g]? =some (.cells cur 3 (0,0)):=(H.ents (g,.cells cur 3 (0,0)) (by simp)).1
 have hz1:(pz cur ((i+1)*bR.sz) (bR.all (es.drop i))).size=cur.size:=jX (by rw[hdr];omega)
 refine RJ (m:=es.length-i) (o:=(i+1)*bR.sz) bj H Z Z (RE I I) (fun _=>C7 I) (row.srcFrom hgE2 I (s9 (ap _)) I) (fu.all_one _) (by rw[hdr];omega) Z ?_
 intro w2 H
 refine U<|W<|Zr<|mO Z Z<|iN Z Z<|ui bj Z Z I I I Z fun A80 hA80=>mO Z Z ?_
 have hsrc:=hsv H
 refine RJ (m:=1) (o:=i*bR.sz) bj H Z Z (EM Z I) (fun _=>xW.at0 hA80 I) hsrc (by rw[all_one];exact hx1) (by rw[all_one,hxs,hz1];omega) Z ?_
 rw[all_one]
 intro w3 H
 refine U<|W<|Zr<|mO Z Z<|wK Z Z<|U<|Zt<|cU Z Z ?_
 exact⟨some ⟨g,0,none⟩,c,_,by rw[hlen];show Value.slice _ ((es.length:Int)+((1:Nat):Int)).toNat _=_;congr 1,d8.own (row.insIn (mR hlt) hroom),H⟩
theorem yN {w0 w:World} {K M Lt:List (Nat×Obj)} {F:List cf} {es:List Int} {i j c:Nat} {A:Option Addr} (H:Hp w0 w (K++Lt++M) F) (ho:gb bR (.slice A es.length c) 3 es Lt) (hij:i<=j) (hj:j<=es.length) (hb:es.length*8<=140737488355328):
  di aa sa [.slice A es.length c,J (i:Nat),J (j:Nat)] w fun v w2=> ∃ A' c' L',v=.slice A' (es.take i++es.drop j).length c'/\gb bR (.slice A' (es.take i++es.drop j).length c') 3 (es.take i++es.drop j) L'/\Hp w0 w2 (K++L'++M) F:=by
 refine aG rh Z Z ?_
 show CW _ _ _ _ (args [.slice A es.length c,J (i:Nat),J (j:Nat)]) w
 have hc0:es.length<=c:=by
  obtain⟨_,c',he,hc,_⟩:=ho.form
  injection he with _ _ he
  omega
 refine W<|Zr<|wK Z Z<|U<|W<|Zr<|mO Z Z<|iN Z Z<|iN Z Z<|mO Z Z<|wA fp Z Z<|Tz bj Z Z Z Z ⟨by omega,by omega⟩ I I Z fun A13 l13 c13=>U<|W<|W<|Zr<|iN Z Z<|iN Z Z ?_
 refine O2 Z Z Z (fun h16=> ?_) (fun h16=> ?_)
 refine U<|ZT Z<|W<|Zr<|mO Z Z<|wK Z Z<|U<|Zt<|cU Z Z ?_
 have hij:i=j:=by omega
 subst hij
 rw[g7]
 exact⟨A,c,Lt,rfl,ho,H⟩
 refine U<|ZF Z<|Zk ?_
 have hlt:i<j:=by omega
 obtain⟨g,cur,rfl,rfl,row⟩:=ho.row I
 have hle:=row.le
 have hmx:=row.max
 have hlen:=Gv hij hj
 have hfit:=row.fit hle
 have hif:=row.fit (i:=i) I
 have hdr:(bR.all (es.drop j)).length=(es.length-j)*bR.sz:=by rw[fu.length,dL]
 refine W<|Zr<|mO Z Z<|wA fp Z Z<|pK Z Z<|U<|W ?_
 refine bG cv [0,1,2,3,4,5] [6,7] [] [0,1,2,3,4,5] (sp []) N N N N Nq (cG _) ?_
 refine aw Z Z Z Z Z (fun _ _=>iG Z)<|aw Z Z Z Z Z (fun _ _=>iG Z)<|aw Z Z Z Z Z (fun _ _=>FA bj Z Z I I)<|aw Z Z Z Z Z (fun _ _=>iG Z)<|aw Z Z Z Z Z (fun _ _=>iG Z)<|aw Z Z Z Z Z (fun _ _=>pY bj Z Z I I)<|aT ?_
 intro w' hw' _;replace H:=H.later hw';clear hw'
 have hgE2:w'.heap[g]? =some (.cells cur 3 (0,0)):=(H.ents (g,.cells cur 3 (0,0)) (by simp)).1
 have hs1:i*bR.sz+(bR.all (es.drop j)).length=(i+(es.length-j))*bR.sz:=by rw[hdr,<-cW]
 have hs2:=row.fit (i:=i+(es.length-j)) I
 have hz1:(pz cur (i*bR.sz) (bR.all (es.drop j))).size=cur.size:=jX I
 refine UB (k:=i) (c:=c) (m:=es.length-j) bj H (show _=Value.slice _ _ _ by show Value.slice (cut _ c 0 _) _ _=_;rw[C7 I,xY];rfl) Z (row.srcFrom hgE2 hj (s9 hc0) I) (fu.all_one _) I (by show i*bR.sz+_<=_;omega) Z ?_
 intro w1 H
 replace H:Hp w0 w1 (K++[(g,.cells (pz cur (i*bR.sz) (bR.all (es.drop j))) 3 (0,0))]++M) F:=H
 refine wK Z Z<|U<|W<|Zr<|mO Z Z<|mO Z Z<|wA fp Z Z<|iN Z Z<|Rw bj Z Z Z I I I Z fun A31 hA31=> ?_
 have hzc:(((es.length:Nat):Int).toNat- ((i+(es.length-j):Nat):Int).toNat)*bR.sz+(i+(es.length-j))*bR.sz=es.length*bR.sz:=by rw[<-cW];congr 1;omega
 refine T7 (o:=(i+(es.length-j))*bR.sz) (z:=J 0) bj N Z Z H Z (fun _=>xW.at0 hA31 I) (by rw[hz1];show _+(((es.length:Nat):Int).toNat- ((i+(es.length-j):Nat):Int).toNat)*bR.sz<=_;omega) ?_
 intro w2 H
 refine U<|W<|Zr<|mO Z Z<|wK Z Z<|U<|Zt<|cU Z Z ?_
 have hzl: ∀ m,(Builtin.zeroCells (Value.cells (J 0)) m).toList.length=m*bR.sz:=fun m=>by rw[ch,size_zeroCells];rfl
 have hr:=row.del hij hj (ap ((i+(es.length-j))*bR.sz)) (zs:=(Builtin.zeroCells (Value.cells (J 0)) (((es.length:Nat):Int).toNat- ((i+(es.length-j):Nat):Int).toNat)).toList) (by
  rw[hzl]
  show _+(((es.length:Nat):Int).toNat- ((i+(es.length-j):Nat):Int).toNat)*bR.sz<=_
  omega)
 exact⟨some ⟨g,0,none⟩,c,_,by rw[hlen];rfl,d8.own hr,H⟩
theorem RZ {P:Program} {ρ:gV} {w:World} {t:TypeId} {p:String} {af:Array Edge} {g:Option (Nat×Bool)} {dst:Option Nat} {x y:Operand} {ty ty':TypeId} {a b:Nat} {k:IntKind} (hx:ev ρ x=.int .u64 a) (hy:ev ρ y=.int k b) (hb:b<=64):(execOp (ev ρ) (Og dst (.binOp .shr ty x y ty') t p af g)).run P w=.ok (.value (.int .u64 (a/2 ^ b:Nat))) w:=by
 have e:(a:Int).fdiv (2 ^ b)=((a/2 ^ b:Nat):Int):=by
  rw[Int.fdiv_eq_ediv_of_nonneg _ (Int.le_of_lt (Int.pow_pos (by decide)))]
  simp
 simp only[execOp,hx,hy,eqGuard,binOp,Op.shift,Sem.run_bind,Sem.run_pure]
 simp[e,bE (show b<=IntKind.u64.bits from hb)]
 intro h;omega
theorem SQ {n:Nat} (h:n<=9000000000000000000):IntKind.u64.wrap (n:Int)=n:=by
 simp only[IntKind.wrap,IntKind.bits,IntKind.signed]
 simp
 omega
theorem rises {es:List Int} (h:es.Pairwise (· < ·)) {i j:Nat} {a b:Int} (hi:es[i]? =some a) (hj:es[j]? =some b) (hij:i<=j):a<=b:=by
 obtain⟨h1,rfl⟩:=aC.1 hi
 obtain⟨h2,rfl⟩:=aC.1 hj
 rcases fC i j with h3|h3
 exact Int.le_of_lt (fF.1 h i j h1 h2 h3)
 have:i=j:=by omega
 subst this
 exact fj _
theorem DB (n:Int) (w:World):di aa xH [J n] w fun v w2=>v=.bool false/\Below w.heap.size w w2:=by
 refine aG wH Z Z ?_
 have H:=Hp.start w
 refine W<|Zr<|G (Wb Z)<|U<|W<|Zr<|G (Yi Z)<|G (Yi Z)<|G (cj Z Z Z)<|G (Wb Z)<|U<|Zt ?_
 exact cU (v:=.bool false) Z Z ⟨rfl,H.below⟩
theorem qQ (es:List Int) (t:Int) (A:Option Addr) (c:Nat) (w:World) (hr:Rd bR 0 w.heap.size A es w) (hb:es.length<=1000000) (hp:es.Pairwise (· < ·)):
  di aa nO [.slice A es.length c,J t] w fun v w2=> ∃ i:Nat,v=.tuple #[J (i:Nat),.bool (decide (es[i]? =some t))]/\i<=es.length/\(∀ k y,es[k]? =some y->k<i->y<t)/\(∀ k y,es[k]? =some y->i<=k->t<=y)/\Below w.heap.size w w2:=by
 refine aG nz Z Z ?_
 have H:=Hp.startRd hr
 show CW _ _ _ _ (args [.slice A es.length c,J t]) w
 refine W<|Zr<|G (Wi Z)<|G (Wb Z)<|U<|W<|Zr<|G (Ys Z)<|G (bl fp Z)<|G (Wi Z)<|U<|W<|Zr<|G (Yi Z)<|G (Wi Z)<|G (Wi Z)<|U<|W<|Zb ?_
 refine bV (τ:=Nat×Nat) [7,8,9,13,14,15,16,17,18,19,20,21,22,23,24,25,26,27,28,29,30] (fun(l,r)=>[(7,J (l:Nat)),(8,J (r:Nat))]) (fun(l,r) w'=>l<=r/\r<=es.length/\(∀ k y,es[k]? =some y->k<l->y<t)/\(∀ k y,es[k]? =some y->r<=k->t<=y)/\Hp w w' [] [ee bR 0 w.heap.size A es]) (fun(l,r)=>r-l) (0,es.length) ⟨by omega,by omega,by intro k y _ h;omega,by intro k y h1 h2;have:=(bZ h1).1;omega,H⟩ (jT Z Z) ?_
 rintro⟨l,r⟩ ρ1 w1 ⟨hlr,hrn,hlo,hhi,H⟩
 show CW _ _ _ _ (dO (ij _ _ ρ1) [(7,J (l:Nat)),(8,J (r:Nat))]) w1
 refine W<|W<|Zr<|G (Yi Z)<|G (Yi Z) ?_
 refine dZ (cI Z Z) Z Z Z (fun h15=> ?_) (fun h15=> ?_)
 refine U<|ZT Z<|Zk<|Zb<|W<|Zr<|G (Yi Z)<|G (Yi Z)<|G (bn Z Z I I) ?_
 rw[show((l:Nat):Int)+((r:Nat):Int)=((l+r:Nat):Int) by omega]
 refine G (E5 iK Hz Z (SQ I))<|G (RZ Z (b:=1) Z I) ?_
 obtain⟨m,hm,hm1,hm2⟩: ∃ m:Nat,(l+r)/2 ^ 1=m/\l<=m/\m<r:=⟨(l+r)/2,rfl,by omega,by omega⟩
 rw[hm]
 refine G (E5 Hz iK Z (wN I))<|G (Wi Z)<|U<|W<|Zr<|G (Ys Z)<|G (Yi Z)<|rE H 0 Z bj Z Z I I Z fun b2 o2 x2 e2=>G (bd al Z (e2.cl 0 _ Z))<|G (Yi Z)<|cE Bm (Hv x2 t _) Z Z ?_
 rintro _ w3 ⟨rfl,hb⟩;replace H:=H.later hb;clear hb
 refine U ?_
 refine qL Z (fun hc27=> ?_) (fun hc27=> ?_)
 refine Zr<|G (Yi Z)<|G (bn Z Z I I)<|G (Wi Z)<|U ?_
 refine⟨(m+1,r),⟨by omega,hrn,fun k y h1 h2=>Int.lt_of_le_of_lt (rises hp h1 e2.at_ I) (of_decide_eq_true hc27),hhi,H⟩,jT Z Z,Qg,by show r- (m+1)<r-l;omega⟩
 refine Zr<|G (Yi Z)<|G (Wi Z)<|U ?_
 refine⟨(l,m),⟨hm1,by omega,hlo,fun k y h1 h2=>by have h3:=rises hp e2.at_ h1 h2;have h4:=of_decide_eq_false hc27;omega,H⟩,jT Z Z,Qg,by show m-l<r-l;omega⟩
 refine U<|ZF Z<|Zx<|W<|Zr<|G (Yi Z)<|G (Yi Z)<|G (Yi Z) ?_
 refine dZ (cI Z Z) Z Z Z (fun h34=> ?_) (fun h34=> ?_)
 refine G (Yb Z)<|ZG<|G (Ys Z)<|ZG<|G (Yi Z)<|ZG<|rE H 0 Z bj Z Z I I Z fun b4 o4 x4 e4=>ZG<|G (bd al Z (e4.cl 0 _ Z))<|ZG<|G (Yi Z)<|ZG ?_
 refine dZ (cr Z Z) Z Z Z (fun h41=> ?_) (fun h41=> ?_)
 refine ZG<|G (Yb Z)<|ZN<|ZN<|ZN<|ZN<|ZN<|ZN<|ZN<|ZN<|ZN<|ZG<|G (Kt Z Z)<|G (Kt Z Z)<|G (Wi Z)<|G (Wb Z)<|U<|Zt ?_
 have hd:decide (es[l]? =some t)=true:=by rw[e4.at_,h41];exact decide_eq_true Z
 exact mK Z Z Z ⟨l,by rw[hd];rfl,by omega,hlo,by intro k y h1 h2;exact hhi k y h1 I,H.below⟩
 refine ZG<|G (Yb Z)<|ZG<|G (Ys Z)<|ZG<|G (Yi Z)<|ZG<|rE H 0 Z bj Z Z I I Z fun b5 o5 x5 e5=>ZG<|G (bd al Z (e5.cl 0 _ Z))<|ZG<|cE wJ (DB _ _) Z Z ?_
 rintro _ w6 ⟨rfl,hb⟩;replace H:=H.later hb;clear hb
 refine ZG<|G (Yb Z)<|ZN<|ZN<|ZG<|G (N Z Z)<|ZG<|G (N Z Z)<|G (Kt Z Z)<|G (Wi Z)<|G (Wb Z)<|U<|Zt ?_
 have hd:decide (es[l]? =some t)=false:=by rw[e4.at_];exact decide_eq_false (fun h=>h41 (aZ h))
 exact mK Z Z Z ⟨l,by rw[hd];rfl,by omega,hlo,by intro k y h1 h2;exact hhi k y h1 I,H.below⟩
 refine G (Yb Z)<|ZN<|ZN<|ZN<|ZN<|ZN<|ZN<|ZN<|ZN<|ZN<|ZN<|ZN<|ZN<|ZN<|ZN<|ZN<|ZN<|ZN<|G (N Z Z)<|G (Wi Z)<|G (Wb Z)<|U<|Zt ?_
 have hd:decide (es[l]? =some t)=false:=by rw[bL I];rfl
 exact mK Z Z Z ⟨l,by rw[hd];rfl,by omega,hlo,by intro k y h1 h2;exact hhi k y h1 I,H.below⟩
/-- a part more, in its place -/
def je (l:List Int) (p:Int):List Int:=if p∈l then l else l.filter (fun q=>decide (q<p))++[p]++l.filter (fun q=>decide (p<=q))
def fy (ck:Int) (p:Int) (t:Tx):Tx:=if t.state=1 then{t with state:=2,since:=ck,parts:=je t.parts p}else{t with parts:=je t.parts p}
theorem Sw {l:List Int} {p:Int} {i:Nat} (h1: ∀ k y,l[k]? =some y->k<i->y<p) (h2: ∀ k y,l[k]? =some y->i<=k->p<=y):l.take i=l.filter (fun q=>decide (q<p))/\l.drop i=l.filter (fun q=>decide (p<=q)):=by
 have ha: ∀ y∈l.take i,y<p:=fun y hy=>by
  obtain⟨k,hk⟩:=aN.1 hy
  rw[dz]at hk
  split at hk
  exact h1 k y hk ‹_›
  cases hk
 have hb: ∀ y∈l.drop i,p<=y:=fun y hy=>by
  obtain⟨k,hk⟩:=aN.1 hy
  rw[df]at hk
  exact h2 _ y hk I
 have e1:l.filter (fun q=>decide (q<p))=(l.take i).filter (fun q=>decide (q<p))++(l.drop i).filter (fun q=>decide (q<p)):=by rw[<-jr,g7]
 have e2:l.filter (fun q=>decide (p<=q))=(l.take i).filter (fun q=>decide (p<=q))++(l.drop i).filter (fun q=>decide (p<=q)):=by rw[<-jr,g7]
 rw[e1,e2,ke.2 (fun y hy=>decide_eq_true (ha y hy)),ya.2 (fun y hy=>by have:=hb y hy;simpa using this),
  ya.2 (fun y hy=>by have:=ha y hy;simpa using this),ke.2 (fun y hy=>decide_eq_true (hb y hy))]
 simp
theorem GI {l:List Int} {p:Int} {i:Nat} (h1: ∀ k y,l[k]? =some y->k<i->y<p) (h2: ∀ k y,l[k]? =some y->i<=k->p<=y) (hp:l.Pairwise (· < ·)) (hn: ¬ l[i]? =some p):l.take i++[p]++l.drop i=je l p:=by
 obtain⟨e1,e2⟩:=Sw h1 h2
 have hm:p∉l:=fun hm=>by
  obtain⟨k,hk⟩:=aN.1 hm
  by_cases hki:k<i
  have:=h1 k p hk hki;omega
  have hki:i<=k:=by omega
  have hl:=(bZ hk).1
  obtain⟨x,hx⟩: ∃ x,l[i]? =some x:=⟨_,ai I⟩
  have h3:=rises hp hx hk hki
  have h4:=h2 i x hx (ap _)
  exact hn (by rw[hx];congr 1;omega)
 unfold je
 rw[if_neg hm,e1,e2]
theorem zY {l:List Int} {p:Int} {i:Nat} (h:l[i]? =some p):je l p=l:=if_pos (ab h)
theorem wY {w0 w:World} {F:List cf} (X A B C:List (Nat×Obj)) (H:Hp w0 w (X++((A++B++C)++[])) F):Hp w0 w ((X++A)++B++C) F:=by simpa using H
theorem CJ {w0 w:World} {F:List cf} (X A B C:List (Nat×Obj)) (H:Hp w0 w ((X++A)++B++C) F):Hp w0 w (X++((A++B++C)++[])) F:=by simpa using H
theorem Fa {ck p:Int} {t t':Tx} (h:t'.a=t.a):(fy ck p t').a=(fy ck p t).a:=by
 have e: ∀ t:Tx,(fy ck p t).a=fy ck p t.a:=fun t=>by
  unfold fy
  by_cases h:t.state=1
  rw[if_pos h,if_pos (show t.a.state=1 from h)];rfl
  rw[if_neg h,if_neg (show¬ t.a.state=1 from h)];rfl
 rw[e,e,h]
theorem j7 {ts:List Tx} (h: ∀ t∈ts,t.parts.length<=t.cap) (i:Nat) {t':Tx} (h2:t'.parts.length<=t'.cap): ∀ x∈ts.set i t',x.parts.length<=x.cap:=fun x hx=>by
 rcases aD hx with hx|rfl
 exact h x hx
 exact h2
theorem PE (c:Co) (s:ByteArray) (ver p:Int) (w:World) (h:c.rd 0 w.heap.size w) (hok:iD c=true) (hn:bC s=true) (hi:fN c s= -1):di aa oK [c.v,.string s,J ver,J p] w fun v w2=>v=.tuple #[.agg #[J 0,J 0,J 0,.slice none 0 0],J 5]/\Below w.heap.size w w2:=by
 refine aG qe Z Z ?_
 have hcap:=h.cap
 have hfew:=h.few
 have hfp:=h.fewP
 have H:=Hp.startCo h
 obtain⟨ck,nx,wt,txs,cA,cc⟩:=c
 dsimp only at hcap hfew hfp H
 show CW _ _ _ _ (args [.agg #[J ck,J nx,J wt,.slice cA txs.length cc],.string s,J ver,J p]) w
 refine W<|Zr<|gU H Z Z fun w1 b4 H=>fc H cH Z fun w2 b8 H=>G (Wi Z)<|U<|W<|Zr<|G (Zw az H 1 Z Z Z)<|G (Yt Z)<|G (Yi Z)<|cE gO (Cx ⟨ck,nx,wt,txs,cA,cc⟩ s ver _ ⟨H.rd0 0 Z,fun t ht=>fG H 1 Z ht,hcap,hfew,hfp⟩ hok hn hi) Z Z ?_
 rintro _ w3 ⟨rfl,hb⟩;replace H:=H.later hb;clear hb
 refine G (Yu Z)<|G (Xa Z Z)<|G (Xi Z Z)<|G (Xi Z Z)<|bI H 1 (#[J (0),J (0),J (0),.slice none 0 0]) aH Z Z Z Z Z N N fun w4 H=>G (Wi Z)<|G (Wi Z)<|U<|W<|W<|Zr<|G (Yi Z)<|G (l9 Z Z (by decide))<|U<|ZT Z<|W<|Zr<|G (bp (cs:= #[J (0),J (0),J (0),.slice none 0 0]) fI cH N)<|G (Yi Z)<|bI H 0 (#[J (0),J (0),J (0),.slice none 0 0]) aH Z Z Z Z Z N N fun w5 H=>G (Wi Z)<|U<|Zt ?_
 exact cu (cs0:= #[J 0,J 0,J 0,.slice none 0 0]) (v1:=J 5) Z az Z (H.ent (i:=0) Z) Z Z ⟨rfl,H.below⟩
theorem MP (c:Co) (s:ByteArray) (ver p:Int) (i:Nat) (t:Tx) (w:World) (h:c.rd 0 w.heap.size w) (hok:iD c=true) (hn:bC s=true) (hi:fN c s=i) (ht:c.txs[i]? =some t) (hv:t.ver≠ver):di aa oK [c.v,.string s,J ver,J p] w fun v w2=>v=.tuple #[.agg #[J 0,J 0,J 0,.slice none 0 0],J 10]/\Below w.heap.size w w2:=by
 refine aG qe Z Z ?_
 have hcap:=h.cap
 have hfew:=h.few
 have hfp:=h.fewP
 have H:=Hp.startCo h
 obtain⟨ck,nx,wt,txs,cA,cc⟩:=c
 dsimp only at hcap hfew hfp H
 show CW _ _ _ _ (args [.agg #[J ck,J nx,J wt,.slice cA txs.length cc],.string s,J ver,J p]) w
 dsimp only at ht
 refine W<|Zr<|gU H Z Z fun w1 b4 H=>fc H cH Z fun w2 b8 H=>G (Wi Z)<|U<|W<|Zr<|G (Zw az H 1 Z Z Z)<|G (Yt Z)<|G (Yi Z)<|cE gO (Ao ⟨ck,nx,wt,txs,cA,cc⟩ s ver i t _ ⟨H.rd0 0 Z,fun t ht=>fG H 1 Z ht,hcap,hfew,hfp⟩ hok hn hi ht hv) Z Z ?_
 rintro _ w3 ⟨rfl,hb⟩;replace H:=H.later hb;clear hb
 refine G (Yu Z)<|G (Xa Z Z)<|G (Xi Z Z)<|G (Xi Z Z)<|bI H 1 (#[J (0),J (0),J (0),.slice none 0 0]) aH Z Z Z Z Z N N fun w4 H=>G (Wi Z)<|G (Wi Z)<|U<|W<|W<|Zr<|G (Yi Z)<|G (l9 Z Z (by decide))<|U<|ZT Z<|W<|Zr<|G (bp (cs:= #[J (0),J (0),J (0),.slice none 0 0]) fI cH N)<|G (Yi Z)<|bI H 0 (#[J (0),J (0),J (0),.slice none 0 0]) aH Z Z Z Z Z N N fun w5 H=>G (Wi Z)<|U<|Zt ?_
 exact cu (cs0:= #[J 0,J 0,J 0,.slice none 0 0]) (v1:=J 10) Z az Z (H.ent (i:=0) Z) Z Z ⟨rfl,H.below⟩
theorem MO (c:Co) (s:ByteArray) (ver p:Int) (i:Nat) (t:Tx) (w:World) (h:c.rd 0 w.heap.size w) (hok:iD c=true) (hn:bC s=true) (hi:fN c s=i) (ht:c.txs[i]? =some t) (hv:t.ver=ver) (hp0:0<=p) (hp3:p<4) (h1:t.state≠1) (h2:t.state≠2):di aa oK [c.v,.string s,J ver,J p] w fun v w2=>v=.tuple #[.agg #[J 0,J 0,J 0,.slice none 0 0],J 12]/\Below w.heap.size w w2:=by
 refine aG qe Z Z ?_
 have hcap:=h.cap
 have hfew:=h.few
 have hfp:=h.fewP
 have H:=Hp.startCo h
 obtain⟨ck,nx,wt,txs,cA,cc⟩:=c
 dsimp only at hcap hfew hfp H
 show CW _ _ _ _ (args [.agg #[J ck,J nx,J wt,.slice cA txs.length cc],.string s,J ver,J p]) w
 dsimp only at ht
 refine W<|Zr<|gU H Z Z fun w1 b4 H=>fc H cH Z fun w2 b8 H=>G (Wi Z)<|U<|W<|Zr<|G (Zw az H 1 Z Z Z)<|G (Yt Z)<|G (Yi Z)<|cE gO (yq ⟨ck,nx,wt,txs,cA,cc⟩ s ver i t _ ⟨H.rd0 0 Z,fun t ht=>fG H 1 Z ht,hcap,hfew,hfp⟩ hok hn hi ht hv) Z Z ?_
 rintro _ w3 ⟨⟨ck2,nx2,wt2,tx2,A2,c2⟩,Lr,Lp,rfl,ha2,ho2,hp2,hoc2,hpc2,hj2⟩
 replace H:=H.joinR hj2;clear hj2
 simp only[Co.a,Co.mk.injEq]at ha2
 obtain⟨e1,e2,e3,hma,-,-⟩:=ha2
 obtain rfl:ck=ck2:=e1.symm
 obtain rfl:nx=nx2:=e2.symm
 obtain rfl:wt=wt2:=e3.symm
 dsimp only at ho2 hp2 hoc2 hpc2 H
 obtain⟨t2,ht2,hta⟩:=rV hma ht
 have hl2:=(bZ ht2).1
 obtain⟨g,cur,rfl,rfl,row⟩:=ho2.row I
 have hst:t2.state=t.state:=by show t2.a.state=t.a.state;rw[hta]
 have hdn:t2.done=t.done:=by show t2.a.done=t.a.done;rw[hta]
 have hpt:t2.parts=t.parts:=by show t2.a.parts=t.a.parts;rw[hta]
 refine G (Yu Z)<|G (Xa Z Z)<|G (Xi Z Z)<|G (Xi Z Z)<|bI H 1 (#[J (ck),J (nx),J (wt),.slice (Qd g) tx2.length c2]) aH Z Z Z Z Z N N fun w4 H=>G (Wi Z)<|G (Wi Z)<|U<|W<|W<|Zr<|G (Yi Z)<|G (cj Z Z Z)<|U<|ZF Z<|Zk<|W<|W<|Zr<|G (Yi Z)<|G (cV Z Z I)<|G (Yb Z)<|ZG<|G (Yi Z)<|ZG<|G (nP Z Z I)<|G (N Z Z)<|U<|ZF Z<|Zk<|W<|Zr<|G (Zf cR Z)<|G (Zd dP H 1 Z Z Z)<|G (Yi Z)<|G (cL gY Z Z (by first|omega|(simp only[ae];omega)))<|G (Wp Z)<|U<|W<|W ?_
 refine Zr<|G (Yp Z)<|G (aM Z)<|G (Zf dd Z)<|G (bW al row ht2 3 Z (H.ent (i:=2) Z) Z)<|U<|Zb<|W<|Zr<|G (me Z Z I)<|G (Wb Z)<|U<|ZF Z<|W<|Zr<|G (me Z Z I)<|G (Wb Z)<|U<|ZF Z<|W<|Zr<|G (bp (cs:= #[J (0),J (0),J (0),.slice none 0 0]) fI cH N)<|bI H 0 (#[J (0),J (0),J (0),.slice none 0 0]) aH Z Z Z Z Z N N fun w5 H=>G (Wi Z)<|U<|Zt ?_
 exact cu (cs0:= #[J 0,J 0,J 0,.slice none 0 0]) (v1:=J 12) Z az Z (H.ent (i:=0) Z) Z Z ⟨rfl,H.below⟩
theorem SD (c:Co) (s:ByteArray) (ver p:Int) (i:Nat) (t:Tx) (w:World) (h:c.rd 0 w.heap.size w) (hok:iD c=true) (hn:bC s=true) (hi:fN c s=i) (ht:c.txs[i]? =some t) (hv:t.ver=ver) (hp0:0<=p) (hp3:p<4) (h12:t.state=1∨t.state=2) (hpo:fa (-1) t.parts=true):di aa oK [c.v,.string s,J ver,J p] w fun v w2=> ∃ (c':Co) (Lr Lp:List (Nat×Obj)),v=.tuple #[c'.v,J 0]/\qT w w2 (Co.a {c with txs:=c.txs.set i (fy c.clock p t)}) c' Lr Lp:=by
 refine aG qe Z Z ?_
 have hcap:=h.cap
 have hfew:=h.few
 have hfp:=h.fewP
 have H:=Hp.startCo h
 obtain⟨ck,nx,wt,txs,cA,cc⟩:=c
 dsimp only at hcap hfew hfp H
 show CW _ _ _ _ (args [.agg #[J ck,J nx,J wt,.slice cA txs.length cc],.string s,J ver,J p]) w
 dsimp only at ht⊢
 refine W<|Zr<|gU H Z Z fun w1 b4 H=>fc H cH Z fun w2 b8 H=>G (Wi Z)<|U<|W<|Zr<|G (Zw az H 1 Z Z Z)<|G (Yt Z)<|G (Yi Z)<|cE gO (yq ⟨ck,nx,wt,txs,cA,cc⟩ s ver i t _ ⟨H.rd0 0 Z,fun t ht=>fG H 1 Z ht,hcap,hfew,hfp⟩ hok hn hi ht hv) Z Z ?_
 rintro _ w3 ⟨⟨ck2,nx2,wt2,tx2,A2,c2⟩,Lr,Lp,rfl,ha2,ho2,hp2,hoc2,hpc2,hj2⟩
 replace H:=H.joinR hj2;clear hj2
 simp only[Co.a,Co.mk.injEq]at ha2
 obtain⟨e1,e2,e3,hma,-,-⟩:=ha2
 obtain rfl:ck=ck2:=e1.symm
 obtain rfl:nx=nx2:=e2.symm
 obtain rfl:wt=wt2:=e3.symm
 dsimp only at ho2 hp2 hoc2 hpc2 H
 obtain⟨t2,ht2,hta⟩:=rV hma ht
 have hl2:=(bZ ht2).1
 obtain⟨g,cur,rfl,rfl,row⟩:=ho2.row I
 have hst:t2.state=t.state:=by show t2.a.state=t.a.state;rw[hta]
 have hdn:t2.done=t.done:=by show t2.a.done=t.a.done;rw[hta]
 have hpt:t2.parts=t.parts:=by show t2.a.parts=t.a.parts;rw[hta]
 refine G (Yu Z)<|G (Xa Z Z)<|G (Xi Z Z)<|G (Xi Z Z)<|bI H 1 (#[J (ck),J (nx),J (wt),.slice (Qd g) tx2.length c2]) aH Z Z Z Z Z N N fun w4 H=>G (Wi Z)<|G (Wi Z)<|U<|W<|W<|Zr<|G (Yi Z)<|G (cj Z Z Z)<|U<|ZF Z<|Zk<|W<|W<|Zr<|G (Yi Z)<|G (cV Z Z I)<|G (Yb Z)<|ZG<|G (Yi Z)<|ZG<|G (nP Z Z I)<|G (N Z Z)<|U<|ZF Z<|Zk<|W<|Zr<|G (Zf cR Z)<|G (Zd dP H 1 Z Z Z)<|G (Yi Z)<|G (cL gY Z Z (by first|omega|(simp only[ae];omega)))<|G (Wp Z)<|U<|W<|W ?_
 refine Zr<|G (Yp Z)<|G (aM Z)<|G (Zf dd Z)<|G (bW al row ht2 3 Z (H.ent (i:=2) Z) Z)<|U<|Zb<|W<|Zr ?_
 refine dZ (cr Z Z) Z Z Z (fun h44=> ?_) (fun h44=> ?_)
 refine G (Wb Z)<|U<|ZT Z ?_
 refine rL cv [0,1,2,4,5] [3,6,7,8,9] [0,1,2,4,5] 5 N N N Nq ?_
 refine aw Z Z Z Z Z (fun w' hw'=>Yp Z)<|aw Z Z Z Z Z (fun w' hw'=>Yp Z)<|aw Z Z Z Z Z (fun w' hw'=>Zf kK Z)<|aw Z Z Z Z Z (fun w' hw'=>aM Z)<|aw Z Z Z Z Z (fun w' hw'=>Zf dd Z)<|aT ?_
 intro w5 hw';replace H:=H.later hw';clear hw'
 refine uN 3 6 N Z Z ?_ ?_
 refine G (Zd al H 1 Z Z Z)<|U<|db 6 N Z<|nt H 2 ({t2 with state:=2}) bN row ht2 3 Z Z Z Z Z Z N fun w7 cur6 row6 H=> ?_
 have hs8:(tx2.set i ({t2 with state:=2}))[i]? =some ({t2 with state:=2}):=ak (bZ ht2).1
 refine U<|db 7 N Z<|G (aM Z)<|U<|db 8 N Z<|G (Zf vx Z)<|U<|db 9 N Z<|nt H 2 ({({t2 with state:=2})with since:=ck}) bN row6 hs8 5 Z Z Z Z Z Z N fun w10 cur9 row9 H=> ?_
 have hs11:((tx2.set i ({t2 with state:=2})).set i ({({t2 with state:=2})with since:=ck}))[i]? =some ({({t2 with state:=2})with since:=ck}):=ak (bZ hs8).1
 refine U<|cz N<|W<|W ?_
 have hrise:=(fE hpo).1
 have hfw:=mX hpo
 rw[<-hpt]at hrise hfw
 obtain⟨La,Lt,Lb,rfl,hot,hset⟩:=hp2.at_ ht2
 refine Zr<|G (Yp Z)<|G (aM Z)<|G (Zf ey Z)<|G (bW cP row9 hs11 4 Z (H.ent (i:=2) Z) Z)<|G (Yi Z)<|cE eB (qQ t2.parts p t2.A t2.cap _ ((hot.rd (K:=[(b8,.cells #[J (0),J (0),J (0),.slice none 0 0] aX (0,0)),(b4,.cells #[J (ck),J (nx),J (wt),.slice (Qd g) tx2.length c2] aX (0,0)),(g,.cells cur9 dH (0,0))]++La) (M:=Lb) (wY [(b8,.cells #[J (0),J (0),J (0),.slice none 0 0] aX (0,0)),(b4,.cells #[J (ck),J (nx),J (wt),.slice (Qd g) tx2.length c2] aX (0,0)),(g,.cells cur9 dH (0,0))] La Lt Lb H)).mono (aV _) (ap _)) I hrise) Z Z ?_
 rintro _ w12 ⟨j,rfl,hjl,hj1,hj2,hb⟩;replace H:=H.later hb;clear hb
 refine G (Yu Z)<|G (Xi Z Z)<|G (Xb Z Z) ?_
 refine px 63 Z (fun h63=> ?_) (fun h63=> ?_)
 refine G (Wi Z)<|G (Wb Z)<|U<|W<|Zr<|G (Yb Z)<|G (d9 Z)<|U<|ZF Z<|Zk<|W<|Zr<|G (Zw az H 1 Z Z Z)<|bI H 0 (#[J (ck),J (nx),J (wt),.slice (Qd g) tx2.length c2]) aH Z Z Z Z Z N N fun w13 H=>G (Wi Z)<|U<|Zt ?_
 have hpp:je t2.parts p=t2.parts:=zY (of_decide_eq_true h63)
 have hX:Tx.a ({t2 with state:=2,since:=ck})=(fy ck p t).a:=by rw[<-Fa hta];unfold fy;rw[if_pos I];rw[hpp]
 have hrow:d8 sJ (tx2.set i ({t2 with state:=2,since:=ck})) c2 cur9:=by have hr:=row9;simp only[fS]at hr;exact hr
 exact cu (cs0:= #[J ck,J nx,J wt,.slice (Qd g) tx2.length c2]) (v1:=J 0) Z az Z (H.ent (i:=0) Z) Z Z ⟨⟨ck,nx,wt,tx2.set i ({t2 with state:=2,since:=ck}),some ⟨g,0,none⟩,c2⟩,[(g,.cells cur9 dH (0,0))],(La++Lt++Lb),by unfold Co.v Co.c;dsimp only;rw[ae],by unfold Co.a;dsimp only;rw[pL hma i hX],d8.own hrow,hset {t2 with state:=2,since:=ck} Lt hot,by dsimp only;rw[ae];exact hoc2,j7 hpc2 i (by exact hpc2 t2 (ab ht2)),H.forget (.cons _ (.cons _ (aE _ _))) (by simp)⟩
 refine G (Wi Z)<|G (Wb Z)<|U<|W<|Zr<|G (Yb Z)<|G (d9 Z)<|U<|ZT Z<|Zr<|G (Yp Z)<|G (Yp Z)<|G (aM Z)<|G (Zf ey Z)<|G (bW cP row9 hs11 4 Z (H.ent (i:=2) Z) Z)<|G (Yi Z)<|G (Yi Z)<|sK (vs:=[J (p)]) H bj Eh Z Z Z Z Z Z fun w14 b73 H=>cE iV (tL (K:=[(b8,.cells #[J (0),J (0),J (0),.slice none 0 0] aX (0,0)),(b4,.cells #[J (ck),J (nx),J (wt),.slice (Qd g) tx2.length c2] aX (0,0)),(g,.cells cur9 dH (0,0))]++La) (Lt:=Lt) (M:=Lb) (wY [(b73,.cells #[J (p)] cM (0,0)),(b8,.cells #[J (0),J (0),J (0),.slice none 0 0] aX (0,0)),(b4,.cells #[J (ck),J (nx),J (wt),.slice (Qd g) tx2.length c2] aX (0,0)),(g,.cells cur9 dH (0,0))] La Lt Lb H) hot hjl I) Z Z ?_
 rintro _ w15 ⟨A9,c9,L9,rfl,ho9,HI⟩;replace H:Hp w w15 ([(b73,.cells #[J (p)] cM (0,0)),(b8,.cells #[J (0),J (0),J (0),.slice none 0 0] aX (0,0)),(b4,.cells #[J (ck),J (nx),J (wt),.slice (Qd g) tx2.length c2] aX (0,0)),(g,.cells cur9 dH (0,0))]++((La++L9++Lb)++[])) [ee sJ 0 w.heap.size cA txs,iW 0 w.heap.size txs]:=CJ [(b73,.cells #[J (p)] cM (0,0)),(b8,.cells #[J (0),J (0),J (0),.slice none 0 0] aX (0,0)),(b4,.cells #[J (ck),J (nx),J (wt),.slice (Qd g) tx2.length c2] aX (0,0)),(g,.cells cur9 dH (0,0))] La L9 Lb HI
 have hc9:(t2.parts.take j++[p]++t2.parts.drop j).length<=c9:=by obtain⟨_,_,e,h,_⟩:=ho9.form;injection e with _ _ e;rw[e];exact h
 refine G (aM Z)<|G (Zf ey Z)<|nt H 3 ({{t2 with state:=2,since:=ck}with parts:=t2.parts.take j++[p]++t2.parts.drop j,A:=A9,cap:=c9}) jV row9 hs11 4 Z Z Z Z Z Z N fun w17 cur16 row16 H=> ?_
 have hs18:(((tx2.set i ({t2 with state:=2})).set i ({({t2 with state:=2})with since:=ck})).set i ({{t2 with state:=2,since:=ck}with parts:=t2.parts.take j++[p]++t2.parts.drop j,A:=A9,cap:=c9}))[i]? =some ({{t2 with state:=2,since:=ck}with parts:=t2.parts.take j++[p]++t2.parts.drop j,A:=A9,cap:=c9}):=ak (bZ hs11).1
 refine U<|W<|Zr<|G (Zw az H 2 Z Z Z)<|bI H 1 (#[J (ck),J (nx),J (wt),.slice (Qd g) tx2.length c2]) aH Z Z Z Z Z N N fun w19 H=>G (Wi Z)<|U<|Zt ?_
 have hpp:=GI hj1 hj2 hrise (of_decide_eq_false h63)
 have hX:Tx.a ({t2 with state:=2,since:=ck,parts:=t2.parts.take j++[p]++t2.parts.drop j,A:=A9,cap:=c9})=(fy ck p t).a:=by rw[<-Fa hta];unfold fy;rw[if_pos I];rw[<-hpp];rfl
 have hrow:d8 sJ (tx2.set i ({t2 with state:=2,since:=ck,parts:=t2.parts.take j++[p]++t2.parts.drop j,A:=A9,cap:=c9})) c2 cur16:=by have hr:=row16;simp only[fS]at hr;exact hr
 exact cu (cs0:= #[J ck,J nx,J wt,.slice (Qd g) tx2.length c2]) (v1:=J 0) Z az Z (H.ent (i:=1) Z) Z Z ⟨⟨ck,nx,wt,tx2.set i ({t2 with state:=2,since:=ck,parts:=t2.parts.take j++[p]++t2.parts.drop j,A:=A9,cap:=c9}),some ⟨g,0,none⟩,c2⟩,[(g,.cells cur16 dH (0,0))],(La++L9++Lb),by unfold Co.v Co.c;dsimp only;rw[ae],by unfold Co.a;dsimp only;rw[pL hma i hX],d8.own hrow,hset {t2 with state:=2,since:=ck,parts:=t2.parts.take j++[p]++t2.parts.drop j,A:=A9,cap:=c9} L9 ho9,by dsimp only;rw[ae];exact hoc2,j7 hpc2 i (by exact hc9),H.forget (.cons _ (.cons _ (.cons _ (aE _ _)))) (by simp)⟩
 refine nt H 2 ({t2 with state:=2}) bN row ht2 3 Z Z Z Z Z Z N fun w21 cur20 row20 H=> ?_
 have hs22:(tx2.set i ({t2 with state:=2}))[i]? =some ({t2 with state:=2}):=ak (bZ ht2).1
 refine U<|db 3 N Z<|G (Zd al H 1 Z Z Z)<|U<|db 7 N Z<|G (aM Z)<|U<|db 8 N Z<|G (Zf vx Z)<|U<|db 9 N Z<|nt H 2 ({({t2 with state:=2})with since:=ck}) bN row20 hs22 5 Z Z Z Z Z Z N fun w24 cur23 row23 H=> ?_
 have hs25:((tx2.set i ({t2 with state:=2})).set i ({({t2 with state:=2})with since:=ck}))[i]? =some ({({t2 with state:=2})with since:=ck}):=ak (bZ hs22).1
 refine U<|cz N<|W<|W ?_
 have hrise:=(fE hpo).1
 have hfw:=mX hpo
 rw[<-hpt]at hrise hfw
 obtain⟨La,Lt,Lb,rfl,hot,hset⟩:=hp2.at_ ht2
 refine Zr<|G (Yp Z)<|G (aM Z)<|G (Zf ey Z)<|G (bW cP row23 hs25 4 Z (H.ent (i:=2) Z) Z)<|G (Yi Z)<|cE eB (qQ t2.parts p t2.A t2.cap _ ((hot.rd (K:=[(b8,.cells #[J (0),J (0),J (0),.slice none 0 0] aX (0,0)),(b4,.cells #[J (ck),J (nx),J (wt),.slice (Qd g) tx2.length c2] aX (0,0)),(g,.cells cur23 dH (0,0))]++La) (M:=Lb) (wY [(b8,.cells #[J (0),J (0),J (0),.slice none 0 0] aX (0,0)),(b4,.cells #[J (ck),J (nx),J (wt),.slice (Qd g) tx2.length c2] aX (0,0)),(g,.cells cur23 dH (0,0))] La Lt Lb H)).mono (aV _) (ap _)) I hrise) Z Z ?_
 rintro _ w26 ⟨j,rfl,hjl,hj1,hj2,hb⟩;replace H:=H.later hb;clear hb
 refine G (Yu Z)<|G (Xi Z Z)<|G (Xb Z Z) ?_
 refine px 63 Z (fun h63=> ?_) (fun h63=> ?_)
 refine G (Wi Z)<|G (Wb Z)<|U<|W<|Zr<|G (Yb Z)<|G (d9 Z)<|U<|ZF Z<|Zk<|W<|Zr<|G (Zw az H 1 Z Z Z)<|bI H 0 (#[J (ck),J (nx),J (wt),.slice (Qd g) tx2.length c2]) aH Z Z Z Z Z N N fun w27 H=>G (Wi Z)<|U<|Zt ?_
 have hpp:je t2.parts p=t2.parts:=zY (of_decide_eq_true h63)
 have hX:Tx.a ({t2 with state:=2,since:=ck})=(fy ck p t).a:=by rw[<-Fa hta];unfold fy;rw[if_pos I];rw[hpp]
 have hrow:d8 sJ (tx2.set i ({t2 with state:=2,since:=ck})) c2 cur23:=by have hr:=row23;simp only[fS]at hr;exact hr
 exact cu (cs0:= #[J ck,J nx,J wt,.slice (Qd g) tx2.length c2]) (v1:=J 0) Z az Z (H.ent (i:=0) Z) Z Z ⟨⟨ck,nx,wt,tx2.set i ({t2 with state:=2,since:=ck}),some ⟨g,0,none⟩,c2⟩,[(g,.cells cur23 dH (0,0))],(La++Lt++Lb),by unfold Co.v Co.c;dsimp only;rw[ae],by unfold Co.a;dsimp only;rw[pL hma i hX],d8.own hrow,hset {t2 with state:=2,since:=ck} Lt hot,by dsimp only;rw[ae];exact hoc2,j7 hpc2 i (by exact hpc2 t2 (ab ht2)),H.forget (.cons _ (.cons _ (aE _ _))) (by simp)⟩
 refine G (Wi Z)<|G (Wb Z)<|U<|W<|Zr<|G (Yb Z)<|G (d9 Z)<|U<|ZT Z<|Zr<|G (Yp Z)<|G (Yp Z)<|G (aM Z)<|G (Zf ey Z)<|G (bW cP row23 hs25 4 Z (H.ent (i:=2) Z) Z)<|G (Yi Z)<|G (Yi Z)<|sK (vs:=[J (p)]) H bj Eh Z Z Z Z Z Z fun w28 b73 H=>cE iV (tL (K:=[(b8,.cells #[J (0),J (0),J (0),.slice none 0 0] aX (0,0)),(b4,.cells #[J (ck),J (nx),J (wt),.slice (Qd g) tx2.length c2] aX (0,0)),(g,.cells cur23 dH (0,0))]++La) (Lt:=Lt) (M:=Lb) (wY [(b73,.cells #[J (p)] cM (0,0)),(b8,.cells #[J (0),J (0),J (0),.slice none 0 0] aX (0,0)),(b4,.cells #[J (ck),J (nx),J (wt),.slice (Qd g) tx2.length c2] aX (0,0)),(g,.cells cur23 dH (0,0))] La Lt Lb H) hot hjl I) Z Z ?_
 rintro _ w29 ⟨A9,c9,L9,rfl,ho9,HI⟩;replace H:Hp w w29 ([(b73,.cells #[J (p)] cM (0,0)),(b8,.cells #[J (0),J (0),J (0),.slice none 0 0] aX (0,0)),(b4,.cells #[J (ck),J (nx),J (wt),.slice (Qd g) tx2.length c2] aX (0,0)),(g,.cells cur23 dH (0,0))]++((La++L9++Lb)++[])) [ee sJ 0 w.heap.size cA txs,iW 0 w.heap.size txs]:=CJ [(b73,.cells #[J (p)] cM (0,0)),(b8,.cells #[J (0),J (0),J (0),.slice none 0 0] aX (0,0)),(b4,.cells #[J (ck),J (nx),J (wt),.slice (Qd g) tx2.length c2] aX (0,0)),(g,.cells cur23 dH (0,0))] La L9 Lb HI
 have hc9:(t2.parts.take j++[p]++t2.parts.drop j).length<=c9:=by obtain⟨_,_,e,h,_⟩:=ho9.form;injection e with _ _ e;rw[e];exact h
 refine G (aM Z)<|G (Zf ey Z)<|nt H 3 ({{t2 with state:=2,since:=ck}with parts:=t2.parts.take j++[p]++t2.parts.drop j,A:=A9,cap:=c9}) jV row23 hs25 4 Z Z Z Z Z Z N fun w31 cur30 row30 H=> ?_
 have hs32:(((tx2.set i ({t2 with state:=2})).set i ({({t2 with state:=2})with since:=ck})).set i ({{t2 with state:=2,since:=ck}with parts:=t2.parts.take j++[p]++t2.parts.drop j,A:=A9,cap:=c9}))[i]? =some ({{t2 with state:=2,since:=ck}with parts:=t2.parts.take j++[p]++t2.parts.drop j,A:=A9,cap:=c9}):=ak (bZ hs25).1
 refine U<|W<|Zr<|G (Zw az H 2 Z Z Z)<|bI H 1 (#[J (ck),J (nx),J (wt),.slice (Qd g) tx2.length c2]) aH Z Z Z Z Z N N fun w33 H=>G (Wi Z)<|U<|Zt ?_
 have hpp:=GI hj1 hj2 hrise (of_decide_eq_false h63)
 have hX:Tx.a ({t2 with state:=2,since:=ck,parts:=t2.parts.take j++[p]++t2.parts.drop j,A:=A9,cap:=c9})=(fy ck p t).a:=by rw[<-Fa hta];unfold fy;rw[if_pos I];rw[<-hpp];rfl
 have hrow:d8 sJ (tx2.set i ({t2 with state:=2,since:=ck,parts:=t2.parts.take j++[p]++t2.parts.drop j,A:=A9,cap:=c9})) c2 cur30:=by have hr:=row30;simp only[fS]at hr;exact hr
 exact cu (cs0:= #[J ck,J nx,J wt,.slice (Qd g) tx2.length c2]) (v1:=J 0) Z az Z (H.ent (i:=1) Z) Z Z ⟨⟨ck,nx,wt,tx2.set i ({t2 with state:=2,since:=ck,parts:=t2.parts.take j++[p]++t2.parts.drop j,A:=A9,cap:=c9}),some ⟨g,0,none⟩,c2⟩,[(g,.cells cur30 dH (0,0))],(La++L9++Lb),by unfold Co.v Co.c;dsimp only;rw[ae],by unfold Co.a;dsimp only;rw[pL hma i hX],d8.own hrow,hset {t2 with state:=2,since:=ck,parts:=t2.parts.take j++[p]++t2.parts.drop j,A:=A9,cap:=c9} L9 ho9,by dsimp only;rw[ae];exact hoc2,j7 hpc2 i (by exact hc9),H.forget (.cons _ (.cons _ (.cons _ (aE _ _)))) (by simp)⟩
 refine G (Wb Z)<|U<|ZF Z<|W<|Zr<|G (sw Z Z I)<|G (Wb Z)<|U<|ZT Z<|Zk<|W<|W ?_
 have hrise:=(fE hpo).1
 have hfw:=mX hpo
 rw[<-hpt]at hrise hfw
 obtain⟨La,Lt,Lb,rfl,hot,hset⟩:=hp2.at_ ht2
 refine Zr<|G (Yp Z)<|G (aM Z)<|G (Zf ey Z)<|G (bW cP row ht2 4 Z (H.ent (i:=2) Z) Z)<|G (Yi Z)<|cE eB (qQ t2.parts p t2.A t2.cap _ ((hot.rd (K:=[(b8,.cells #[J (0),J (0),J (0),.slice none 0 0] aX (0,0)),(b4,.cells #[J (ck),J (nx),J (wt),.slice (Qd g) tx2.length c2] aX (0,0)),(g,.cells cur dH (0,0))]++La) (M:=Lb) (wY [(b8,.cells #[J (0),J (0),J (0),.slice none 0 0] aX (0,0)),(b4,.cells #[J (ck),J (nx),J (wt),.slice (Qd g) tx2.length c2] aX (0,0)),(g,.cells cur dH (0,0))] La Lt Lb H)).mono (aV _) (ap _)) I hrise) Z Z ?_
 rintro _ w34 ⟨j,rfl,hjl,hj1,hj2,hb⟩;replace H:=H.later hb;clear hb
 refine G (Yu Z)<|G (Xi Z Z)<|G (Xb Z Z) ?_
 refine px 63 Z (fun h63=> ?_) (fun h63=> ?_)
 refine G (Wi Z)<|G (Wb Z)<|U<|W<|Zr<|G (Yb Z)<|G (d9 Z)<|U<|ZF Z<|Zk<|W<|Zr<|G (Zw az H 1 Z Z Z)<|bI H 0 (#[J (ck),J (nx),J (wt),.slice (Qd g) tx2.length c2]) aH Z Z Z Z Z N N fun w35 H=>G (Wi Z)<|U<|Zt ?_
 have hpp:je t2.parts p=t2.parts:=zY (of_decide_eq_true h63)
 have hX:Tx.a (t2)=(fy ck p t).a:=by rw[<-Fa hta];unfold fy;rw[if_neg I];rw[hpp]
 have hrow:d8 sJ (tx2.set i (t2)) c2 cur:=by rw[i5 ht2];exact row
 exact cu (cs0:= #[J ck,J nx,J wt,.slice (Qd g) tx2.length c2]) (v1:=J 0) Z az Z (H.ent (i:=0) Z) Z Z ⟨⟨ck,nx,wt,tx2.set i (t2),some ⟨g,0,none⟩,c2⟩,[(g,.cells cur dH (0,0))],(La++Lt++Lb),by unfold Co.v Co.c;dsimp only;rw[ae],by unfold Co.a;dsimp only;rw[pL hma i hX],d8.own hrow,hset t2 Lt hot,by dsimp only;rw[ae];exact hoc2,j7 hpc2 i (by exact hpc2 t2 (ab ht2)),H.forget (.cons _ (.cons _ (aE _ _))) (by simp)⟩
 refine G (Wi Z)<|G (Wb Z)<|U<|W<|Zr<|G (Yb Z)<|G (d9 Z)<|U<|ZT Z<|Zr<|G (Yp Z)<|G (Yp Z)<|G (aM Z)<|G (Zf ey Z)<|G (bW cP row ht2 4 Z (H.ent (i:=2) Z) Z)<|G (Yi Z)<|G (Yi Z)<|sK (vs:=[J (p)]) H bj Eh Z Z Z Z Z Z fun w36 b73 H=>cE iV (tL (K:=[(b8,.cells #[J (0),J (0),J (0),.slice none 0 0] aX (0,0)),(b4,.cells #[J (ck),J (nx),J (wt),.slice (Qd g) tx2.length c2] aX (0,0)),(g,.cells cur dH (0,0))]++La) (Lt:=Lt) (M:=Lb) (wY [(b73,.cells #[J (p)] cM (0,0)),(b8,.cells #[J (0),J (0),J (0),.slice none 0 0] aX (0,0)),(b4,.cells #[J (ck),J (nx),J (wt),.slice (Qd g) tx2.length c2] aX (0,0)),(g,.cells cur dH (0,0))] La Lt Lb H) hot hjl I) Z Z ?_
 rintro _ w37 ⟨A9,c9,L9,rfl,ho9,HI⟩;replace H:Hp w w37 ([(b73,.cells #[J (p)] cM (0,0)),(b8,.cells #[J (0),J (0),J (0),.slice none 0 0] aX (0,0)),(b4,.cells #[J (ck),J (nx),J (wt),.slice (Qd g) tx2.length c2] aX (0,0)),(g,.cells cur dH (0,0))]++((La++L9++Lb)++[])) [ee sJ 0 w.heap.size cA txs,iW 0 w.heap.size txs]:=CJ [(b73,.cells #[J (p)] cM (0,0)),(b8,.cells #[J (0),J (0),J (0),.slice none 0 0] aX (0,0)),(b4,.cells #[J (ck),J (nx),J (wt),.slice (Qd g) tx2.length c2] aX (0,0)),(g,.cells cur dH (0,0))] La L9 Lb HI
 have hc9:(t2.parts.take j++[p]++t2.parts.drop j).length<=c9:=by obtain⟨_,_,e,h,_⟩:=ho9.form;injection e with _ _ e;rw[e];exact h
 refine G (aM Z)<|G (Zf ey Z)<|nt H 3 ({t2 with parts:=t2.parts.take j++[p]++t2.parts.drop j,A:=A9,cap:=c9}) jV row ht2 4 Z Z Z Z Z Z N fun w39 cur38 row38 H=> ?_
 have hs40:(tx2.set i ({t2 with parts:=t2.parts.take j++[p]++t2.parts.drop j,A:=A9,cap:=c9}))[i]? =some ({t2 with parts:=t2.parts.take j++[p]++t2.parts.drop j,A:=A9,cap:=c9}):=ak (bZ ht2).1
 refine U<|W<|Zr<|G (Zw az H 2 Z Z Z)<|bI H 1 (#[J (ck),J (nx),J (wt),.slice (Qd g) tx2.length c2]) aH Z Z Z Z Z N N fun w41 H=>G (Wi Z)<|U<|Zt ?_
 have hpp:=GI hj1 hj2 hrise (of_decide_eq_false h63)
 have hX:Tx.a ({t2 with parts:=t2.parts.take j++[p]++t2.parts.drop j,A:=A9,cap:=c9})=(fy ck p t).a:=by rw[<-Fa hta];unfold fy;rw[if_neg I];rw[<-hpp];rfl
 have hrow:d8 sJ (tx2.set i ({t2 with parts:=t2.parts.take j++[p]++t2.parts.drop j,A:=A9,cap:=c9})) c2 cur38:=by exact row38
 exact cu (cs0:= #[J ck,J nx,J wt,.slice (Qd g) tx2.length c2]) (v1:=J 0) Z az Z (H.ent (i:=1) Z) Z Z ⟨⟨ck,nx,wt,tx2.set i ({t2 with parts:=t2.parts.take j++[p]++t2.parts.drop j,A:=A9,cap:=c9}),some ⟨g,0,none⟩,c2⟩,[(g,.cells cur38 dH (0,0))],(La++L9++Lb),by unfold Co.v Co.c;dsimp only;rw[ae],by unfold Co.a;dsimp only;rw[pL hma i hX],d8.own hrow,hset {t2 with parts:=t2.parts.take j++[p]++t2.parts.drop j,A:=A9,cap:=c9} L9 ho9,by dsimp only;rw[ae];exact hoc2,j7 hpc2 i (by exact hc9),H.forget (.cons _ (.cons _ (.cons _ (aE _ _)))) (by simp)⟩
def fZ (t:Tx):Bool:=decide (t.state=3)||decide (t.state=4)
def fW (txs:List Tx) (n:Nat):Option Tx:=(txs.filter fZ)[n]?
def Cq (t:Tx):Value:=.agg #[J 0,J t.pid,J t.ver,J 0,J (if t.state=4 then 3 else 2),.bool true,.string ⟨#[]⟩]
def Aj (o:Option Tx):Value:=match o with
 |none=> .tuple #[.string ⟨#[]⟩,J 0,.agg #[J 0,J 0,J 0,J 0,J 0,.bool false,.string ⟨#[]⟩],J 15]
 |some t=> .tuple #[.string t.name,J (t.parts.headD 0),Cq t,J 0]
theorem Hp.partRow {w0 w:World} {L:List (Nat×Obj)} {F:List cf} {lo hi:Nat} {txs:List Tx} (H:Hp w0 w L F) (i:Nat) (hF:F[i]? =some (iW lo hi txs)) {t:Tx} (ht:t∈txs):Hp w0 w L (ee bR lo hi t.A t.parts::F):=by
 refine⟨H.below,H.ents,H.nodup,fun f hf=> ?_⟩
 rcases ay.1 hf with rfl|hf
 obtain⟨h1,h2,h3⟩:=H.facts _ (ab hF)
 exact⟨h1 t ht,h2,h3⟩
 exact H.facts f hf
theorem N8 {txs:List Tx} {k m:Nat} {x:Tx} (hx:txs[k]? =some x) (he:fZ x=false):((txs.drop k).filter fZ)[m]? =((txs.drop (k+1)).filter fZ)[m]? :=by
 rw[du hx,pj (by rw[he];decide)]
theorem Kq {txs:List Tx} {k:Nat} {x:Tx} (hx:txs[k]? =some x) (he:fZ x=true):((txs.drop k).filter fZ)[0]? =some x:=by
 rw[du hx,kj he];rfl
theorem Hm {txs:List Tx} {k m:Nat} {x:Tx} (hx:txs[k]? =some x) (he:fZ x=true) (hm:1<=m):((txs.drop k).filter fZ)[m]? =((txs.drop (k+1)).filter fZ)[m-1]? :=by
 obtain⟨m,rfl⟩: ∃ j,m=j+1:=⟨m-1,by omega⟩
 rw[du hx,kj he];rfl
theorem Qy {txs:List Tx} {k m:Nat} (h:txs.length<=k):((txs.drop k).filter fZ)[m]? =none:=by
 rw[eE h];rfl
theorem QD (c:Co) (n:Nat) (w:World) (h:c.rd 0 w.heap.size w) (hok:iD c=true) (hn:n<=1000):di aa yA [c.v,J (n:Nat)] w fun v w2=>v=Aj (fW c.txs n)/\Below w.heap.size w w2:=by
 refine aG D1 Z Z ?_
 have hcap:=h.cap
 have hfew:=h.few
 have hfp:=h.fewP
 have H:=Hp.startCo h
 obtain⟨ck,nx,wt,txs,cA,cc⟩:=c
 dsimp only at hcap hfew hfp H
 show CW _ _ _ _ (args [.agg #[J ck,J nx,J wt,.slice cA txs.length cc],J (n:Nat)]) w
 obtain⟨q1,q2,q3,q4,q5,q6,q7⟩:=ta.1 hok
 dsimp only at q6 q7⊢
 refine W<|Zr<|gU H Z Z fun w1 b2 H=>G (Wt Z)<|G (Wi Z)<|fc H gz Z fun w2 b6 H=>G (Wi Z)<|U<|W<|W<|Zr<|G (Zw az H 1 Z Z Z)<|cE kO (qM ⟨ck,nx,wt,txs,cA,cc⟩ _ ⟨H.rd0 0 Z,fun t ht=>fG H 1 Z ht,hcap,hfew,hfp⟩ hok) Z Z ?_
 rw[hok]
 rintro _ w3 ⟨rfl,hb⟩;replace H:=H.later hb;clear hb
 refine G (Wi Z)<|U<|W<|Zr<|G (Yi Z)<|G (cj Z Z Z)<|U<|ZF Z<|Zk<|W<|W<|Zr<|G (Zf cR Z)<|G (Zd dP H 1 Z Z Z)<|G (bl lG Z)<|G (Yi Z)<|U<|Zb ?_
 refine bV (τ:=Nat×Nat) [1,4,5,7,10,11,21,22,23,24,25,26,27,28,29,30,31,32,33,34,35,36,37,38,39,40,41,42,43,44,45,46,47,48,49,50,51,52] (fun(k,m)=>[(21,J (k:Nat)),(1,J (m:Nat))]) (fun(k,m) w'=>k<=txs.length/\m<=1000/\(txs.filter fZ)[n]? =((txs.drop k).filter fZ)[m]? /\Hp w w' [(b6,.cells (.agg #[J 0,J 0,J 0,J 0,J 0,.bool false,.string ⟨#[]⟩]:Value).cells dy (0,0)),(b2,.cells #[J (ck),J (nx),J (wt),.slice cA txs.length cc] aX (0,0))] [ee sJ 0 w.heap.size cA txs,iW 0 w.heap.size txs]) (fun(k,_)=>txs.length-k) (0,n) ⟨by omega,hn,by rw[List.drop_zero],H⟩ (jT Z Z) ?_
 rintro⟨k,m⟩ ρ1 w4 ⟨hk,hm1,hm,H⟩
 show CW _ _ _ _ (dO (ij _ _ ρ1) [(21,J (k:Nat)),(1,J (m:Nat))]) w4
 refine W<|Zr ?_
 refine dZ (cI Z Z) Z Z Z (fun h22=> ?_) (fun h22=> ?_)
 refine U<|W<|ZT Z<|Zk<|W<|Zb<|W ?_
 obtain⟨x,hxk⟩: ∃ x,txs[k]? =some x:=⟨_,ai I⟩
 refine Zr<|rE H 0 Z gY Z Z I I Z fun b5 o5 x5 e5=> ?_
 obtain rfl:x=x5:=by have:=e5.at_;rw[hxk]at this;exact aZ this
 refine G (jF (xs:=Tx.c x) BD Z Z e5.cl)<|fc H J6 Z fun w6 b10 H=>bI H 0 (#[.string (x.name),J (x.pid),J (x.ver),J (x.state),.slice x.A x.parts.length x.cap,J (x.since),J (x.done)]) Kb Z Z Z Z Z N N fun w7 H=>U<|W<|W<|Zr<|G (Zf dd Z)<|G (Zd al H 0 Z Z Z) ?_
 refine sU (jv Z Z) Z Z Z (fun h27=> ?_) (fun h27=> ?_)
 refine G (Yb Z)<|ZG<|G (Zf dd Z)<|ZG<|G (Zd al H 0 Z Z Z)<|ZG ?_
 refine sU (jv Z Z) Z Z Z (fun h31=> ?_) (fun h31=> ?_)
 refine G (Kt Z Z)<|U<|ZT Z<|Zx<|Zr<|G (bn Z Z I I)<|G (Yi Z)<|U ?_
 have hen:fZ x=false:=by unfold fZ;rw[decide_eq_false I,decide_eq_false I];rfl
 refine⟨(k+1,m),⟨by omega,hm1,by rw[hm];exact N8 hxk hen,H.forget (.cons _ (au _)) (fun _ h=>h)⟩,jT Z Z,Qg,by show txs.length- (k+1)<txs.length-k;omega⟩
 refine G (Kt Z Z)<|U<|ZF Z<|Zk<|W<|W ?_
 have hen:fZ x=true:=by unfold fZ;simp;omega
 have hxo:ra ck nx x=true:=vX q7 x (ab hxk)
 obtain⟨a1,a2,a3,a4,a5,a6,a7,a8,a9,a10,a11⟩:=dp.1 hxo
 have hpl:x.parts.length≠0:=fun h=>by have:=a11.2 h;unfold fZ at hen;simp[this]at hen
 refine Zr<|G (Yi Z) ?_
 refine dZ (cr Z Z) Z Z Z (fun h34=> ?_) (fun h34=> ?_)
 obtain rfl:m=0:=by omega
 have hnth:fW txs n=some x:=by unfold fW;rw[hm];exact Kq hxk hen
 obtain⟨p0,hp0⟩: ∃ p,x.parts[0]? =some p:=⟨_,ai I⟩
 refine U<|ZT Z<|W<|Zr<|G (Wi Z)<|U<|W<|W<|Zr<|G (Zf dd Z)<|G (Zd al H 0 Z Z Z) ?_
 refine dZ (cr Z Z) Z Z Z (fun h37=> ?_) (fun h37=> ?_)
 refine U<|ZT Z<|Zr<|G (Wi Z)<|U<|W ?_
 replace H:=Hp.partRow H 1 Z (ab hxk)
 refine bG cv [0,1,2,3,4,5,6,7,8,9,10,11,12,13] [14,15] [] [0,2,4,6,8,10,11,12,13] (sp []) N N N N Nq (cG _) ?_
 refine aw Z Z Z Z Z (fun w' hw'=>Zf oQ Z)<|aw Z Z Z Z Z (fun w' hw'=>bd aY Z (aK ((H.later hw').ent (i:=0) Z) Z))<|aw Z Z Z Z Z (fun w' hw'=>Zf ey Z)<|aw Z Z Z Z Z (fun w' hw'=>bd cP Z (aK ((H.later hw').ent (i:=0) Z) Z))<|pP (k:=0) H 0 Z Z Z Z Z bj Z Z I I fun b8 o8 x8 e8=> ?_
 obtain rfl:p0=x8:=by have:=e8.at_;rw[hp0]at this;exact aZ this
 refine aw Z Z Z Z Z (fun w' hw'=>bd al Z (e8.later hw' 0 _ Z))<|aw Z Z Z Z Z (fun w' hw'=>Zf lJ Z)<|aw Z Z Z Z Z (fun w' hw'=>bd al Z (aK ((H.later hw').ent (i:=0) Z) Z))<|aw Z Z Z Z Z (fun w' hw'=>Zf gN Z)<|aw Z Z Z Z Z (fun w' hw'=>bd al Z (aK ((H.later hw').ent (i:=0) Z) Z))<|aw Z Z Z Z Z (fun w' hw'=>Yi Z)<|aw Z Z Z Z Z (fun w' hw'=>bp (cs:= #[J (0),J (x.pid),J (x.ver),J (0),J (3),.bool (true),.string (⟨#[]⟩)]) ow gz N)<|aw Z Z Z Z Z (fun w' hw'=>Wt Z)<|aw Z Z Z Z Z (fun w' hw'=>Wi Z)<|aT ?_
 intro w9 hw' hF
 replace H:=H.later hw';clear hw' hF
 refine bI H 1 (#[J (0),J (x.pid),J (x.ver),J (0),J (3),.bool (true),.string (⟨#[]⟩)]) eX Z Z Z Z Z N N fun w10 H=>G (Wi Z)<|U<|Zt ?_
 rw[hnth]
 have hk2:(if x.state=4 then(3:Int)else 2)=3:=by rw[if_pos I]
 have hh:x.parts.headD 0=p0:=by rw[nF,pS,hp0];rfl
 exact yM (v0:=.string x.name) (v1:=J p0) (cs2:= #[J 0,J x.pid,J x.ver,J 0,J 3,.bool true,.string ⟨#[]⟩]) (v3:=J 0) Z Z Z dJ Z (H.ent (i:=1) Z) Z Z ⟨by unfold Aj Cq;dsimp only;rw[hk2,hh],H.below⟩
 refine U<|ZF Z<|Zk<|W ?_
 replace H:=Hp.partRow H 1 Z (ab hxk)
 refine bG cv [0,1,2,3,4,5,6,7,8,9,10,11,12,13] [14,15] [] [0,2,4,6,8,10,11,12,13] (sp []) N N N N Nq (cG _) ?_
 refine aw Z Z Z Z Z (fun w' hw'=>Zf oQ Z)<|aw Z Z Z Z Z (fun w' hw'=>bd aY Z (aK ((H.later hw').ent (i:=0) Z) Z))<|aw Z Z Z Z Z (fun w' hw'=>Zf ey Z)<|aw Z Z Z Z Z (fun w' hw'=>bd cP Z (aK ((H.later hw').ent (i:=0) Z) Z))<|pP (k:=0) H 0 Z Z Z Z Z bj Z Z I I fun b11 o11 x11 e11=> ?_
 obtain rfl:p0=x11:=by have:=e11.at_;rw[hp0]at this;exact aZ this
 refine aw Z Z Z Z Z (fun w' hw'=>bd al Z (e11.later hw' 0 _ Z))<|aw Z Z Z Z Z (fun w' hw'=>Zf lJ Z)<|aw Z Z Z Z Z (fun w' hw'=>bd al Z (aK ((H.later hw').ent (i:=0) Z) Z))<|aw Z Z Z Z Z (fun w' hw'=>Zf gN Z)<|aw Z Z Z Z Z (fun w' hw'=>bd al Z (aK ((H.later hw').ent (i:=0) Z) Z))<|aw Z Z Z Z Z (fun w' hw'=>Yi Z)<|aw Z Z Z Z Z (fun w' hw'=>bp (cs:= #[J (0),J (x.pid),J (x.ver),J (0),J (2),.bool (true),.string (⟨#[]⟩)]) ow gz N)<|aw Z Z Z Z Z (fun w' hw'=>Wt Z)<|aw Z Z Z Z Z (fun w' hw'=>Wi Z)<|aT ?_
 intro w12 hw' hF
 replace H:=H.later hw';clear hw' hF
 refine bI H 1 (#[J (0),J (x.pid),J (x.ver),J (0),J (2),.bool (true),.string (⟨#[]⟩)]) eX Z Z Z Z Z N N fun w13 H=>G (Wi Z)<|U<|Zt ?_
 rw[hnth]
 have hk2:(if x.state=4 then(3:Int)else 2)=2:=by rw[if_neg I]
 have hh:x.parts.headD 0=p0:=by rw[nF,pS,hp0];rfl
 exact yM (v0:=.string x.name) (v1:=J p0) (cs2:= #[J 0,J x.pid,J x.ver,J 0,J 2,.bool true,.string ⟨#[]⟩]) (v3:=J 0) Z Z Z dJ Z (H.ent (i:=1) Z) Z Z ⟨by unfold Aj Cq;dsimp only;rw[hk2,hh],H.below⟩
 refine U<|ZF Z<|Zk<|Zr<|G (Yi Z)<|G (qt Z Z I I)<|G (Wi Z)<|U<|Zr<|G (bn Z Z I I)<|G (Yi Z)<|U ?_
 refine⟨(k+1,m-1),⟨by omega,by omega,by rw[hm];exact Hm hxk hen I,H.forget (.cons _ (au _)) (fun _ h=>h)⟩,jT Z (by show Value.int .i64 _=Value.int .i64 _;congr 1;omega),Qg,by show txs.length- (k+1)<txs.length-k;omega⟩
 refine G (Yb Z)<|ZN<|ZN<|ZN<|G (N Z Z)<|U<|ZF Z<|Zk<|W<|W ?_
 have hen:fZ x=true:=by unfold fZ;simp;omega
 have hxo:ra ck nx x=true:=vX q7 x (ab hxk)
 obtain⟨a1,a2,a3,a4,a5,a6,a7,a8,a9,a10,a11⟩:=dp.1 hxo
 have hpl:x.parts.length≠0:=fun h=>by have:=a11.2 h;unfold fZ at hen;simp[this]at hen
 refine Zr<|G (Yi Z) ?_
 refine dZ (cr Z Z) Z Z Z (fun h34=> ?_) (fun h34=> ?_)
 obtain rfl:m=0:=by omega
 have hnth:fW txs n=some x:=by unfold fW;rw[hm];exact Kq hxk hen
 obtain⟨p0,hp0⟩: ∃ p,x.parts[0]? =some p:=⟨_,ai I⟩
 refine U<|ZT Z<|W<|Zr<|G (Wi Z)<|U<|W<|W<|Zr<|G (Zf dd Z)<|G (Zd al H 0 Z Z Z) ?_
 refine dZ (cr Z Z) Z Z Z (fun h37=> ?_) (fun h37=> ?_)
 refine U<|ZT Z<|Zr<|G (Wi Z)<|U<|W ?_
 replace H:=Hp.partRow H 1 Z (ab hxk)
 refine bG cv [0,1,2,3,4,5,6,7,8,9,10,11,12,13] [14,15] [] [0,2,4,6,8,10,11,12,13] (sp []) N N N N Nq (cG _) ?_
 refine aw Z Z Z Z Z (fun w' hw'=>Zf oQ Z)<|aw Z Z Z Z Z (fun w' hw'=>bd aY Z (aK ((H.later hw').ent (i:=0) Z) Z))<|aw Z Z Z Z Z (fun w' hw'=>Zf ey Z)<|aw Z Z Z Z Z (fun w' hw'=>bd cP Z (aK ((H.later hw').ent (i:=0) Z) Z))<|pP (k:=0) H 0 Z Z Z Z Z bj Z Z I I fun b14 o14 x14 e14=> ?_
 obtain rfl:p0=x14:=by have:=e14.at_;rw[hp0]at this;exact aZ this
 refine aw Z Z Z Z Z (fun w' hw'=>bd al Z (e14.later hw' 0 _ Z))<|aw Z Z Z Z Z (fun w' hw'=>Zf lJ Z)<|aw Z Z Z Z Z (fun w' hw'=>bd al Z (aK ((H.later hw').ent (i:=0) Z) Z))<|aw Z Z Z Z Z (fun w' hw'=>Zf gN Z)<|aw Z Z Z Z Z (fun w' hw'=>bd al Z (aK ((H.later hw').ent (i:=0) Z) Z))<|aw Z Z Z Z Z (fun w' hw'=>Yi Z)<|aw Z Z Z Z Z (fun w' hw'=>bp (cs:= #[J (0),J (x.pid),J (x.ver),J (0),J (3),.bool (true),.string (⟨#[]⟩)]) ow gz N)<|aw Z Z Z Z Z (fun w' hw'=>Wt Z)<|aw Z Z Z Z Z (fun w' hw'=>Wi Z)<|aT ?_
 intro w15 hw' hF
 replace H:=H.later hw';clear hw' hF
 refine bI H 1 (#[J (0),J (x.pid),J (x.ver),J (0),J (3),.bool (true),.string (⟨#[]⟩)]) eX Z Z Z Z Z N N fun w16 H=>G (Wi Z)<|U<|Zt ?_
 rw[hnth]
 have hk2:(if x.state=4 then(3:Int)else 2)=3:=by rw[if_pos I]
 have hh:x.parts.headD 0=p0:=by rw[nF,pS,hp0];rfl
 exact yM (v0:=.string x.name) (v1:=J p0) (cs2:= #[J 0,J x.pid,J x.ver,J 0,J 3,.bool true,.string ⟨#[]⟩]) (v3:=J 0) Z Z Z dJ Z (H.ent (i:=1) Z) Z Z ⟨by unfold Aj Cq;dsimp only;rw[hk2,hh],H.below⟩
 refine U<|ZF Z<|Zk<|W ?_
 replace H:=Hp.partRow H 1 Z (ab hxk)
 refine bG cv [0,1,2,3,4,5,6,7,8,9,10,11,12,13] [14,15] [] [0,2,4,6,8,10,11,12,13] (sp []) N N N N Nq (cG _) ?_
 refine aw Z Z Z Z Z (fun w' hw'=>Zf oQ Z)<|aw Z Z Z Z Z (fun w' hw'=>bd aY Z (aK ((H.later hw').ent (i:=0) Z) Z))<|aw Z Z Z Z Z (fun w' hw'=>Zf ey Z)<|aw Z Z Z Z Z (fun w' hw'=>bd cP Z (aK ((H.later hw').ent (i:=0) Z) Z))<|pP (k:=0) H 0 Z Z Z Z Z bj Z Z I I fun b17 o17 x17 e17=> ?_
 obtain rfl:p0=x17:=by have:=e17.at_;rw[hp0]at this;exact aZ this
 refine aw Z Z Z Z Z (fun w' hw'=>bd al Z (e17.later hw' 0 _ Z))<|aw Z Z Z Z Z (fun w' hw'=>Zf lJ Z)<|aw Z Z Z Z Z (fun w' hw'=>bd al Z (aK ((H.later hw').ent (i:=0) Z) Z))<|aw Z Z Z Z Z (fun w' hw'=>Zf gN Z)<|aw Z Z Z Z Z (fun w' hw'=>bd al Z (aK ((H.later hw').ent (i:=0) Z) Z))<|aw Z Z Z Z Z (fun w' hw'=>Yi Z)<|aw Z Z Z Z Z (fun w' hw'=>bp (cs:= #[J (0),J (x.pid),J (x.ver),J (0),J (2),.bool (true),.string (⟨#[]⟩)]) ow gz N)<|aw Z Z Z Z Z (fun w' hw'=>Wt Z)<|aw Z Z Z Z Z (fun w' hw'=>Wi Z)<|aT ?_
 intro w18 hw' hF
 replace H:=H.later hw';clear hw' hF
 refine bI H 1 (#[J (0),J (x.pid),J (x.ver),J (0),J (2),.bool (true),.string (⟨#[]⟩)]) eX Z Z Z Z Z N N fun w19 H=>G (Wi Z)<|U<|Zt ?_
 rw[hnth]
 have hk2:(if x.state=4 then(3:Int)else 2)=2:=by rw[if_neg I]
 have hh:x.parts.headD 0=p0:=by rw[nF,pS,hp0];rfl
 exact yM (v0:=.string x.name) (v1:=J p0) (cs2:= #[J 0,J x.pid,J x.ver,J 0,J 2,.bool true,.string ⟨#[]⟩]) (v3:=J 0) Z Z Z dJ Z (H.ent (i:=1) Z) Z Z ⟨by unfold Aj Cq;dsimp only;rw[hk2,hh],H.below⟩
 refine U<|ZF Z<|Zk<|Zr<|G (Yi Z)<|G (qt Z Z I I)<|G (Wi Z)<|U<|Zr<|G (bn Z Z I I)<|G (Yi Z)<|U ?_
 refine⟨(k+1,m-1),⟨by omega,by omega,by rw[hm];exact Hm hxk hen I,H.forget (.cons _ (au _)) (fun _ h=>h)⟩,jT Z (by show Value.int .i64 _=Value.int .i64 _;congr 1;omega),Qg,by show txs.length- (k+1)<txs.length-k;omega⟩
 refine U<|W<|ZF Z<|Zx<|W<|Zr<|G (bp (cs:= #[J (0),J (0),J (0),J (0),J (0),.bool (false),.string (⟨#[]⟩)]) ow gz N)<|G (Wt Z)<|G (Wi Z)<|bI H 0 (#[J (0),J (0),J (0),J (0),J (0),.bool (false),.string (⟨#[]⟩)]) eX Z Z Z Z Z N N fun w20 H=>G (Wi Z)<|U<|Zt ?_
 rw[show fW txs n=none by unfold fW;rw[hm];exact Qy I]
 exact yM (v0:=.string ⟨#[]⟩) (v1:=J 0) (cs2:= #[J 0,J 0,J 0,J 0,J 0,.bool false,.string ⟨#[]⟩]) (v3:=J 15) Z Z Z dJ Z (H.ent (i:=0) Z) Z Z ⟨rfl,H.below⟩
/-- P5.6: a part whose marker is kept -/
def eH (p:Int) (t:Tx):Tx:=if(t.parts.filter fun q=>decide (q≠p)).length=0 then{t with parts:=[],done:=t.state,state:=1}else{t with parts:=t.parts.filter fun q=>decide (q≠p)}
theorem Gu {p:Int} {t t':Tx} (h:t'.a=t.a):(eH p t').a=(eH p t).a:=by
 have e: ∀ t:Tx,(eH p t).a=eH p t.a:=fun t=>by
  unfold eH
  by_cases h:(t.parts.filter fun q=>decide (q≠p)).length=0
  rw[if_pos h,if_pos (show(t.a.parts.filter fun q=>decide (q≠p)).length=0 from h)];rfl
  rw[if_neg h,if_neg (show¬ (t.a.parts.filter fun q=>decide (q≠p)).length=0 from h)];rfl
 rw[e,e,h]
theorem JN: ∀ {l:List Int} {p:Int} {j:Nat},l.Pairwise (· < ·)->l[j]? =some p->l.take j++l.drop (j+1)=l.filter fun q=>decide (q≠p)
 |[],_,_,_,h=>by cases h
 |x::l,p,0,hp,h=>by
  cases h
  obtain⟨h1,-⟩:=ec.1 hp
  rw[pj (by simp)]
  simp only[AJ,jC,BJ,List.drop_zero]
  exact(ke.2 fun y hy=>decide_eq_true (by have:=h1 y hy;omega)).symm
 |x::l,p,j+1,hp,h=>by
  obtain⟨h1,h2⟩:=ec.1 hp
  have hm:p∈l:=ab (show l[j]? =some p from h)
  have:=h1 p hm
  rw[kj (by simp;omega),<-JN h2 (show l[j]? =some p from h)]
  rfl
theorem there {l:List Int} {p:Int} {i:Nat} (h2: ∀ k y,l[k]? =some y->i<=k->p<=y) (h1: ∀ k y,l[k]? =some y->k<i->y<p) (hp:l.Pairwise (· < ·)) (hm:p∈l):l[i]? =some p:=by
 obtain⟨k,hk⟩:=aN.1 hm
 by_cases hki:k<i
 have:=h1 k p hk hki;omega
 obtain⟨x,hx⟩: ∃ x,l[i]? =some x:=⟨_,ai (by have:=(bZ hk).1;omega)⟩
 have h3:=rises hp hx hk I
 have h4:=h2 i x hx (ap _)
 rw[hx];congr 1;omega
theorem Q4 (c:Co) (s:ByteArray) (p:Int) (i:Nat) (t:Tx) (w:World) (h:c.rd 0 w.heap.size w) (hok:iD c=true) (hn:bC s=true) (hi:fN c s=i) (ht:c.txs[i]? =some t) (h34:t.state=3∨t.state=4) (hpm:p∈t.parts) (hpo:fa (-1) t.parts=true):di aa yB [c.v,.string s,J p] w fun v w2=> ∃ (c':Co) (Lr Lp:List (Nat×Obj)),v=.tuple #[c'.v,J 0]/\qT w w2 (Co.a {c with txs:=c.txs.set i (eH p t)}) c' Lr Lp:=by
 refine aG D2 Z Z ?_
 have hcap:=h.cap
 have hfew:=h.few
 have hfp:=h.fewP
 have H:=Hp.startCo h
 obtain⟨ck,nx,wt,txs,cA,cc⟩:=c
 dsimp only at hcap hfew hfp H
 show CW _ _ _ _ (args [.agg #[J ck,J nx,J wt,.slice cA txs.length cc],.string s,J p]) w
 dsimp only at ht⊢
 refine W<|Zr<|gU H Z Z fun w1 b3 H=>fc H cH Z fun w2 b6 H=>G (Wi Z)<|U<|W<|Zr<|G (Zw az H 1 Z Z Z)<|G (Yt Z)<|cE iz (mf ⟨ck,nx,wt,txs,cA,cc⟩ s _ ⟨H.rd0 0 Z,fun t ht=>fG H 1 Z ht,hcap,hfew,hfp⟩ hok hn) Z Z ?_
 rintro _ w3 ⟨⟨ck2,nx2,wt2,tx2,A2,c2⟩,Lr,Lp,rfl,ha2,ho2,hp2,hoc2,hpc2,hj2⟩
 replace H:=H.joinR hj2;clear hj2
 simp only[Co.a,Co.mk.injEq]at ha2
 obtain⟨e1,e2,e3,hma,-,-⟩:=ha2
 obtain rfl:ck=ck2:=e1.symm
 obtain rfl:nx=nx2:=e2.symm
 obtain rfl:wt=wt2:=e3.symm
 dsimp only at ho2 hp2 hoc2 hpc2 H
 obtain⟨t2,ht2,hta⟩:=rV hma ht
 have hl2:=(bZ ht2).1
 obtain⟨g,cur,rfl,rfl,row⟩:=ho2.row I
 have hst:t2.state=t.state:=by show t2.a.state=t.a.state;rw[hta]
 have hdn:t2.done=t.done:=by show t2.a.done=t.a.done;rw[hta]
 have hpt:t2.parts=t.parts:=by show t2.a.parts=t.a.parts;rw[hta]
 rw[hi]
 refine G (Yu Z)<|G (Xa Z Z)<|G (Xi Z Z)<|G (Xi Z Z)<|bI H 1 (#[J (ck),J (nx),J (wt),.slice (Qd g) tx2.length c2]) aH Z Z Z Z Z N N fun w4 H=>G (Wi Z)<|G (Wi Z)<|U<|W<|W<|Zr<|G (Yi Z)<|G (cj Z Z Z)<|U<|ZF Z<|Zk<|W<|W<|Zr<|G (Yi Z)<|G (cV Z Z I)<|U<|ZF Z<|Zk<|W<|Zr<|G (Zf cR Z)<|G (Zd dP H 1 Z Z Z)<|G (Yi Z)<|G (cL gY Z Z (by first|omega|(simp only[ae];omega)))<|G (Wp Z)<|U<|W<|W<|Zr<|G (Yp Z)<|G (aM Z)<|G (Zf dd Z)<|G (bW al row ht2 3 Z (H.ent (i:=2) Z) Z)<|G (jv Z Z) ?_
 refine px 35 Z (fun h35=> ?_) (fun h35=> ?_)
 refine G (Yb Z)<|ZG<|G (Yp Z)<|ZG<|G (aM Z)<|ZG<|G (Zf dd Z)<|ZG<|G (bW al row ht2 3 Z (H.ent (i:=2) Z) Z)<|ZG<|G (cj Z Z (by simp at h35;omega))<|G (Kt Z Z)<|U<|ZF Z<|Zk<|W ?_
 have hrise:=(fE hpo).1
 have hfw:=mX hpo
 rw[<-hpt]at hrise hfw hpm
 obtain⟨La,Lt,Lb,rfl,hot,hset⟩:=hp2.at_ ht2
 refine Zr<|G (Yp Z)<|G (aM Z)<|G (Zf ey Z)<|G (bW cP row ht2 4 Z (H.ent (i:=2) Z) Z)<|G (Yi Z)<|cE eB (qQ t2.parts p t2.A t2.cap _ ((hot.rd (K:=[(b6,.cells #[J (0),J (0),J (0),.slice none 0 0] aX (0,0)),(b3,.cells #[J (ck),J (nx),J (wt),.slice (Qd g) tx2.length c2] aX (0,0)),(g,.cells cur dH (0,0))]++La) (M:=Lb) (wY [(b6,.cells #[J (0),J (0),J (0),.slice none 0 0] aX (0,0)),(b3,.cells #[J (ck),J (nx),J (wt),.slice (Qd g) tx2.length c2] aX (0,0)),(g,.cells cur dH (0,0))] La Lt Lb H)).mono (aV _) (ap _)) I hrise) Z Z ?_
 rintro _ w5 ⟨j,rfl,hjl,hj1,hj2,hb⟩;replace H:=H.later hb;clear hb
 have hjp:=there hj2 hj1 hrise hpm
 rw[show decide (t2.parts[j]? =some p)=true from decide_eq_true hjp]
 have hdl:=JN hrise hjp
 have hjl2:=(bZ hjp).1
 refine G (Yu Z)<|G (Xi Z Z)<|G (Xb Z Z)<|G (Wi Z)<|G (Wb Z)<|U<|W<|W<|Zr<|G (Yb Z)<|G (d9 Z)<|U<|ZF Z<|Zk<|W<|Zr<|G (Yp Z)<|G (Yp Z)<|G (aM Z)<|G (Zf ey Z)<|G (bW cP row ht2 4 Z (H.ent (i:=2) Z) Z)<|G (Yi Z)<|G (Yi Z)<|G (bn Z Z I I)<|cE lp (yN (K:=[(b6,.cells #[J (0),J (0),J (0),.slice none 0 0] aX (0,0)),(b3,.cells #[J (ck),J (nx),J (wt),.slice (Qd g) tx2.length c2] aX (0,0)),(g,.cells cur dH (0,0))]++La) (Lt:=Lt) (M:=Lb) (i:=j) (j:=j+1) (wY [(b6,.cells #[J (0),J (0),J (0),.slice none 0 0] aX (0,0)),(b3,.cells #[J (ck),J (nx),J (wt),.slice (Qd g) tx2.length c2] aX (0,0)),(g,.cells cur dH (0,0))] La Lt Lb H) hot I hjl2 I) Z Z ?_
 rintro _ w6 ⟨A9,c9,L9,rfl,ho9,HI⟩;replace H:Hp w w6 ([(b6,.cells #[J (0),J (0),J (0),.slice none 0 0] aX (0,0)),(b3,.cells #[J (ck),J (nx),J (wt),.slice (Qd g) tx2.length c2] aX (0,0)),(g,.cells cur dH (0,0))]++((La++L9++Lb)++[])) [ee sJ 0 w.heap.size cA txs,iW 0 w.heap.size txs]:=CJ [(b6,.cells #[J (0),J (0),J (0),.slice none 0 0] aX (0,0)),(b3,.cells #[J (ck),J (nx),J (wt),.slice (Qd g) tx2.length c2] aX (0,0)),(g,.cells cur dH (0,0))] La L9 Lb HI
 have hc9:(t2.parts.take j++t2.parts.drop (j+1)).length<=c9:=by obtain⟨_,_,e,h,_⟩:=ho9.form;injection e with _ _ e;rw[e];exact h
 refine G (aM Z)<|G (Zf ey Z)<|nt H 2 ({t2 with parts:=t2.parts.take j++t2.parts.drop (j+1),A:=A9,cap:=c9}) jV row ht2 4 Z Z Z Z Z Z N fun w8 cur7 row7 H=> ?_
 have hs9:(tx2.set i ({t2 with parts:=t2.parts.take j++t2.parts.drop (j+1),A:=A9,cap:=c9}))[i]? =some ({t2 with parts:=t2.parts.take j++t2.parts.drop (j+1),A:=A9,cap:=c9}):=ak (bZ ht2).1
 refine U<|W<|W<|Zr<|G (Yp Z)<|G (aM Z)<|G (Zf ey Z)<|G (bW cP row7 hs9 4 Z (H.ent (i:=2) Z) Z)<|G (bl fp Z) ?_
 refine dZ (cr Z Z) Z Z Z (fun h72=> ?_) (fun h72=> ?_)
 refine U<|ZT Z<|Zr<|G (Yp Z)<|G (Yp Z)<|G (Yp Z)<|G (aM Z)<|G (Zf dd Z)<|G (bW al row7 hs9 3 Z (H.ent (i:=2) Z) Z)<|G (aM Z)<|G (Zf dd Z)<|nt H 2 ({({t2 with parts:=t2.parts.take j++t2.parts.drop (j+1),A:=A9,cap:=c9})with state:=1}) bN row7 hs9 3 Z Z Z Z Z Z N fun w11 cur10 row10 H=> ?_
 have hs12:((tx2.set i ({t2 with parts:=t2.parts.take j++t2.parts.drop (j+1),A:=A9,cap:=c9})).set i ({({t2 with parts:=t2.parts.take j++t2.parts.drop (j+1),A:=A9,cap:=c9})with state:=1}))[i]? =some ({({t2 with parts:=t2.parts.take j++t2.parts.drop (j+1),A:=A9,cap:=c9})with state:=1}):=ak (bZ hs9).1
 refine G (aM Z)<|G (Zf jx Z)<|nt H 2 ({({({t2 with parts:=t2.parts.take j++t2.parts.drop (j+1),A:=A9,cap:=c9})with state:=1})with done:=({t2 with parts:=t2.parts.take j++t2.parts.drop (j+1),A:=A9,cap:=c9}).state}) bN row10 hs12 6 Z Z Z Z Z Z N fun w14 cur13 row13 H=> ?_
 have hs15:(((tx2.set i ({t2 with parts:=t2.parts.take j++t2.parts.drop (j+1),A:=A9,cap:=c9})).set i ({({t2 with parts:=t2.parts.take j++t2.parts.drop (j+1),A:=A9,cap:=c9})with state:=1})).set i ({({({t2 with parts:=t2.parts.take j++t2.parts.drop (j+1),A:=A9,cap:=c9})with state:=1})with done:=({t2 with parts:=t2.parts.take j++t2.parts.drop (j+1),A:=A9,cap:=c9}).state}))[i]? =some ({({({t2 with parts:=t2.parts.take j++t2.parts.drop (j+1),A:=A9,cap:=c9})with state:=1})with done:=({t2 with parts:=t2.parts.take j++t2.parts.drop (j+1),A:=A9,cap:=c9}).state}):=ak (bZ hs12).1
 refine U<|W<|Zr<|G (Zw az H 1 Z Z Z)<|bI H 0 (#[J (ck),J (nx),J (wt),.slice (Qd g) tx2.length c2]) aH Z Z Z Z Z N N fun w16 H=>G (Wi Z)<|U<|Zt ?_
 have h72b:((t2.parts.take j++t2.parts.drop (j+1)).length:Int)=0:=h72
 have hX:Tx.a ({t2 with parts:=t2.parts.take j++t2.parts.drop (j+1),A:=A9,cap:=c9,done:=t2.state,state:=1})=(eH p t).a:=by rw[<-Gu hta];unfold eH;rw[<-hdl];rw[if_pos I,bS (show(t2.parts.take j++t2.parts.drop (j+1)).length=0 by omega)];rfl
 have hrow:d8 sJ (tx2.set i ({t2 with parts:=t2.parts.take j++t2.parts.drop (j+1),A:=A9,cap:=c9,done:=t2.state,state:=1})) c2 cur13:=by have hr:=row13;simp only[fS]at hr;exact hr
 exact cu (cs0:= #[J ck,J nx,J wt,.slice (Qd g) tx2.length c2]) (v1:=J 0) Z az Z (H.ent (i:=0) Z) Z Z ⟨⟨ck,nx,wt,tx2.set i ({t2 with parts:=t2.parts.take j++t2.parts.drop (j+1),A:=A9,cap:=c9,done:=t2.state,state:=1}),some ⟨g,0,none⟩,c2⟩,[(g,.cells cur13 dH (0,0))],(La++L9++Lb),by unfold Co.v Co.c;dsimp only;rw[ae],by unfold Co.a;dsimp only;rw[pL hma i hX],d8.own hrow,hset {t2 with parts:=t2.parts.take j++t2.parts.drop (j+1),A:=A9,cap:=c9,done:=t2.state,state:=1} L9 ho9,by dsimp only;rw[ae];exact hoc2,j7 hpc2 i (by exact hc9),H.forget (.cons _ (.cons _ (aE _ _))) (by simp)⟩
 refine U<|ZF Z<|Zk<|W<|Zr<|G (Zw az H 1 Z Z Z)<|bI H 0 (#[J (ck),J (nx),J (wt),.slice (Qd g) tx2.length c2]) aH Z Z Z Z Z N N fun w17 H=>G (Wi Z)<|U<|Zt ?_
 have h72b: ¬ ((t2.parts.take j++t2.parts.drop (j+1)).length:Int)=0:=h72
 have hX:Tx.a ({t2 with parts:=t2.parts.take j++t2.parts.drop (j+1),A:=A9,cap:=c9})=(eH p t).a:=by rw[<-Gu hta];unfold eH;rw[<-hdl];rw[if_neg I];rfl
 have hrow:d8 sJ (tx2.set i ({t2 with parts:=t2.parts.take j++t2.parts.drop (j+1),A:=A9,cap:=c9})) c2 cur7:=by exact row7
 exact cu (cs0:= #[J ck,J nx,J wt,.slice (Qd g) tx2.length c2]) (v1:=J 0) Z az Z (H.ent (i:=0) Z) Z Z ⟨⟨ck,nx,wt,tx2.set i ({t2 with parts:=t2.parts.take j++t2.parts.drop (j+1),A:=A9,cap:=c9}),some ⟨g,0,none⟩,c2⟩,[(g,.cells cur7 dH (0,0))],(La++L9++Lb),by unfold Co.v Co.c;dsimp only;rw[ae],by unfold Co.a;dsimp only;rw[pL hma i hX],d8.own hrow,hset {t2 with parts:=t2.parts.take j++t2.parts.drop (j+1),A:=A9,cap:=c9} L9 ho9,by dsimp only;rw[ae];exact hoc2,j7 hpc2 i (by exact hc9),H.forget (.cons _ (.cons _ (aE _ _))) (by simp)⟩
 refine G (Yb Z)<|ZN<|ZN<|ZN<|ZN<|ZN<|G (N Z Z)<|U<|ZF Z<|Zk<|W ?_
 have hrise:=(fE hpo).1
 have hfw:=mX hpo
 rw[<-hpt]at hrise hfw hpm
 obtain⟨La,Lt,Lb,rfl,hot,hset⟩:=hp2.at_ ht2
 refine Zr<|G (Yp Z)<|G (aM Z)<|G (Zf ey Z)<|G (bW cP row ht2 4 Z (H.ent (i:=2) Z) Z)<|G (Yi Z)<|cE eB (qQ t2.parts p t2.A t2.cap _ ((hot.rd (K:=[(b6,.cells #[J (0),J (0),J (0),.slice none 0 0] aX (0,0)),(b3,.cells #[J (ck),J (nx),J (wt),.slice (Qd g) tx2.length c2] aX (0,0)),(g,.cells cur dH (0,0))]++La) (M:=Lb) (wY [(b6,.cells #[J (0),J (0),J (0),.slice none 0 0] aX (0,0)),(b3,.cells #[J (ck),J (nx),J (wt),.slice (Qd g) tx2.length c2] aX (0,0)),(g,.cells cur dH (0,0))] La Lt Lb H)).mono (aV _) (ap _)) I hrise) Z Z ?_
 rintro _ w18 ⟨j,rfl,hjl,hj1,hj2,hb⟩;replace H:=H.later hb;clear hb
 have hjp:=there hj2 hj1 hrise hpm
 rw[show decide (t2.parts[j]? =some p)=true from decide_eq_true hjp]
 have hdl:=JN hrise hjp
 have hjl2:=(bZ hjp).1
 refine G (Yu Z)<|G (Xi Z Z)<|G (Xb Z Z)<|G (Wi Z)<|G (Wb Z)<|U<|W<|W<|Zr<|G (Yb Z)<|G (d9 Z)<|U<|ZF Z<|Zk<|W<|Zr<|G (Yp Z)<|G (Yp Z)<|G (aM Z)<|G (Zf ey Z)<|G (bW cP row ht2 4 Z (H.ent (i:=2) Z) Z)<|G (Yi Z)<|G (Yi Z)<|G (bn Z Z I I)<|cE lp (yN (K:=[(b6,.cells #[J (0),J (0),J (0),.slice none 0 0] aX (0,0)),(b3,.cells #[J (ck),J (nx),J (wt),.slice (Qd g) tx2.length c2] aX (0,0)),(g,.cells cur dH (0,0))]++La) (Lt:=Lt) (M:=Lb) (i:=j) (j:=j+1) (wY [(b6,.cells #[J (0),J (0),J (0),.slice none 0 0] aX (0,0)),(b3,.cells #[J (ck),J (nx),J (wt),.slice (Qd g) tx2.length c2] aX (0,0)),(g,.cells cur dH (0,0))] La Lt Lb H) hot I hjl2 I) Z Z ?_
 rintro _ w19 ⟨A9,c9,L9,rfl,ho9,HI⟩;replace H:Hp w w19 ([(b6,.cells #[J (0),J (0),J (0),.slice none 0 0] aX (0,0)),(b3,.cells #[J (ck),J (nx),J (wt),.slice (Qd g) tx2.length c2] aX (0,0)),(g,.cells cur dH (0,0))]++((La++L9++Lb)++[])) [ee sJ 0 w.heap.size cA txs,iW 0 w.heap.size txs]:=CJ [(b6,.cells #[J (0),J (0),J (0),.slice none 0 0] aX (0,0)),(b3,.cells #[J (ck),J (nx),J (wt),.slice (Qd g) tx2.length c2] aX (0,0)),(g,.cells cur dH (0,0))] La L9 Lb HI
 have hc9:(t2.parts.take j++t2.parts.drop (j+1)).length<=c9:=by obtain⟨_,_,e,h,_⟩:=ho9.form;injection e with _ _ e;rw[e];exact h
 refine G (aM Z)<|G (Zf ey Z)<|nt H 2 ({t2 with parts:=t2.parts.take j++t2.parts.drop (j+1),A:=A9,cap:=c9}) jV row ht2 4 Z Z Z Z Z Z N fun w21 cur20 row20 H=> ?_
 have hs22:(tx2.set i ({t2 with parts:=t2.parts.take j++t2.parts.drop (j+1),A:=A9,cap:=c9}))[i]? =some ({t2 with parts:=t2.parts.take j++t2.parts.drop (j+1),A:=A9,cap:=c9}):=ak (bZ ht2).1
 refine U<|W<|W<|Zr<|G (Yp Z)<|G (aM Z)<|G (Zf ey Z)<|G (bW cP row20 hs22 4 Z (H.ent (i:=2) Z) Z)<|G (bl fp Z) ?_
 refine dZ (cr Z Z) Z Z Z (fun h72=> ?_) (fun h72=> ?_)
 refine U<|ZT Z<|Zr<|G (Yp Z)<|G (Yp Z)<|G (Yp Z)<|G (aM Z)<|G (Zf dd Z)<|G (bW al row20 hs22 3 Z (H.ent (i:=2) Z) Z)<|G (aM Z)<|G (Zf dd Z)<|nt H 2 ({({t2 with parts:=t2.parts.take j++t2.parts.drop (j+1),A:=A9,cap:=c9})with state:=1}) bN row20 hs22 3 Z Z Z Z Z Z N fun w24 cur23 row23 H=> ?_
 have hs25:((tx2.set i ({t2 with parts:=t2.parts.take j++t2.parts.drop (j+1),A:=A9,cap:=c9})).set i ({({t2 with parts:=t2.parts.take j++t2.parts.drop (j+1),A:=A9,cap:=c9})with state:=1}))[i]? =some ({({t2 with parts:=t2.parts.take j++t2.parts.drop (j+1),A:=A9,cap:=c9})with state:=1}):=ak (bZ hs22).1
 refine G (aM Z)<|G (Zf jx Z)<|nt H 2 ({({({t2 with parts:=t2.parts.take j++t2.parts.drop (j+1),A:=A9,cap:=c9})with state:=1})with done:=({t2 with parts:=t2.parts.take j++t2.parts.drop (j+1),A:=A9,cap:=c9}).state}) bN row23 hs25 6 Z Z Z Z Z Z N fun w27 cur26 row26 H=> ?_
 have hs28:(((tx2.set i ({t2 with parts:=t2.parts.take j++t2.parts.drop (j+1),A:=A9,cap:=c9})).set i ({({t2 with parts:=t2.parts.take j++t2.parts.drop (j+1),A:=A9,cap:=c9})with state:=1})).set i ({({({t2 with parts:=t2.parts.take j++t2.parts.drop (j+1),A:=A9,cap:=c9})with state:=1})with done:=({t2 with parts:=t2.parts.take j++t2.parts.drop (j+1),A:=A9,cap:=c9}).state}))[i]? =some ({({({t2 with parts:=t2.parts.take j++t2.parts.drop (j+1),A:=A9,cap:=c9})with state:=1})with done:=({t2 with parts:=t2.parts.take j++t2.parts.drop (j+1),A:=A9,cap:=c9}).state}):=ak (bZ hs25).1
 refine U<|W<|Zr<|G (Zw az H 1 Z Z Z)<|bI H 0 (#[J (ck),J (nx),J (wt),.slice (Qd g) tx2.length c2]) aH Z Z Z Z Z N N fun w29 H=>G (Wi Z)<|U<|Zt ?_
 have h72b:((t2.parts.take j++t2.parts.drop (j+1)).length:Int)=0:=h72
 have hX:Tx.a ({t2 with parts:=t2.parts.take j++t2.parts.drop (j+1),A:=A9,cap:=c9,done:=t2.state,state:=1})=(eH p t).a:=by rw[<-Gu hta];unfold eH;rw[<-hdl];rw[if_pos I,bS (show(t2.parts.take j++t2.parts.drop (j+1)).length=0 by omega)];rfl
 have hrow:d8 sJ (tx2.set i ({t2 with parts:=t2.parts.take j++t2.parts.drop (j+1),A:=A9,cap:=c9,done:=t2.state,state:=1})) c2 cur26:=by have hr:=row26;simp only[fS]at hr;exact hr
 exact cu (cs0:= #[J ck,J nx,J wt,.slice (Qd g) tx2.length c2]) (v1:=J 0) Z az Z (H.ent (i:=0) Z) Z Z ⟨⟨ck,nx,wt,tx2.set i ({t2 with parts:=t2.parts.take j++t2.parts.drop (j+1),A:=A9,cap:=c9,done:=t2.state,state:=1}),some ⟨g,0,none⟩,c2⟩,[(g,.cells cur26 dH (0,0))],(La++L9++Lb),by unfold Co.v Co.c;dsimp only;rw[ae],by unfold Co.a;dsimp only;rw[pL hma i hX],d8.own hrow,hset {t2 with parts:=t2.parts.take j++t2.parts.drop (j+1),A:=A9,cap:=c9,done:=t2.state,state:=1} L9 ho9,by dsimp only;rw[ae];exact hoc2,j7 hpc2 i (by exact hc9),H.forget (.cons _ (.cons _ (aE _ _))) (by simp)⟩
 refine U<|ZF Z<|Zk<|W<|Zr<|G (Zw az H 1 Z Z Z)<|bI H 0 (#[J (ck),J (nx),J (wt),.slice (Qd g) tx2.length c2]) aH Z Z Z Z Z N N fun w30 H=>G (Wi Z)<|U<|Zt ?_
 have h72b: ¬ ((t2.parts.take j++t2.parts.drop (j+1)).length:Int)=0:=h72
 have hX:Tx.a ({t2 with parts:=t2.parts.take j++t2.parts.drop (j+1),A:=A9,cap:=c9})=(eH p t).a:=by rw[<-Gu hta];unfold eH;rw[<-hdl];rw[if_neg I];rfl
 have hrow:d8 sJ (tx2.set i ({t2 with parts:=t2.parts.take j++t2.parts.drop (j+1),A:=A9,cap:=c9})) c2 cur20:=by exact row20
 exact cu (cs0:= #[J ck,J nx,J wt,.slice (Qd g) tx2.length c2]) (v1:=J 0) Z az Z (H.ent (i:=0) Z) Z Z ⟨⟨ck,nx,wt,tx2.set i ({t2 with parts:=t2.parts.take j++t2.parts.drop (j+1),A:=A9,cap:=c9}),some ⟨g,0,none⟩,c2⟩,[(g,.cells cur20 dH (0,0))],(La++L9++Lb),by unfold Co.v Co.c;dsimp only;rw[ae],by unfold Co.a;dsimp only;rw[pL hma i hX],d8.own hrow,hset {t2 with parts:=t2.parts.take j++t2.parts.drop (j+1),A:=A9,cap:=c9} L9 ho9,by dsimp only;rw[ae];exact hoc2,j7 hpc2 i (by exact hc9),H.forget (.cons _ (.cons _ (aE _ _))) (by simp)⟩
theorem Js (c:Co) (s:ByteArray) (i:Nat) (t:Tx) (w:World) (h:c.rd 0 w.heap.size w) (hok:iD c=true) (hn:bC s=true) (hi:fN c s=i) (ht:c.txs[i]? =some t) (h34:t.state=3∨t.state=4):di aa m4 [c.v,.string s] w fun v w2=>v=.tuple #[.agg #[J 0,J 0,J 0,.slice none 0 0],J 0,J 0,J 12]/\Below w.heap.size w w2:=by
 refine aG oq Z Z ?_
 have hcap:=h.cap
 have hfew:=h.few
 have hfp:=h.fewP
 have H:=Hp.startCo h
 obtain⟨ck,nx,wt,txs,cA,cc⟩:=c
 dsimp only at hcap hfew hfp H
 show CW _ _ _ _ (args [.agg #[J ck,J nx,J wt,.slice cA txs.length cc],.string s]) w
 dsimp only at ht
 refine W<|Zr<|gU H Z Z fun w1 b2 H=>fc H cH Z fun w2 b4 H=>G (Wi Z)<|G (Wi Z)<|G (Wi Z)<|U<|W<|Zr<|G (Zw az H 1 Z Z Z)<|G (Yt Z)<|cE iz (mf ⟨ck,nx,wt,txs,cA,cc⟩ s _ ⟨H.rd0 0 Z,fun t ht=>fG H 1 Z ht,hcap,hfew,hfp⟩ hok hn) Z Z ?_
 rintro _ w3 ⟨⟨ck2,nx2,wt2,tx2,A2,c2⟩,Lr,Lp,rfl,ha2,ho2,hp2,hoc2,hpc2,hj2⟩
 replace H:=H.joinR hj2;clear hj2
 simp only[Co.a,Co.mk.injEq]at ha2
 obtain⟨e1,e2,e3,hma,-,-⟩:=ha2
 obtain rfl:ck=ck2:=e1.symm
 obtain rfl:nx=nx2:=e2.symm
 obtain rfl:wt=wt2:=e3.symm
 dsimp only at ho2 hp2 hoc2 hpc2 H
 obtain⟨t2,ht2,hta⟩:=rV hma ht
 have hl2:=(bZ ht2).1
 obtain⟨g,cur,rfl,rfl,row⟩:=ho2.row I
 have hst:t2.state=t.state:=by show t2.a.state=t.a.state;rw[hta]
 have hdn:t2.done=t.done:=by show t2.a.done=t.a.done;rw[hta]
 have hpt:t2.parts=t.parts:=by show t2.a.parts=t.a.parts;rw[hta]
 rw[hi]
 refine G (Yu Z)<|G (Xa Z Z)<|G (Xi Z Z)<|G (Xi Z Z)<|bI H 1 (#[J (ck),J (nx),J (wt),.slice (Qd g) tx2.length c2]) aH Z Z Z Z Z N N fun w4 H=>G (Wi Z)<|G (Wi Z)<|U<|W<|W<|Zr<|G (Yi Z)<|G (cj Z Z Z)<|U<|ZF Z<|Zk<|W<|W<|Zr<|G (Yi Z)<|G (cV Z Z I)<|U<|ZF Z<|Zk<|W<|Zr<|G (Zf cR Z)<|G (Zd dP H 1 Z Z Z)<|G (Yi Z)<|G (cL gY Z Z (by first|omega|(simp only[ae];omega)))<|G (Wp Z)<|U<|W<|Zb<|W<|Zr<|G (Yp Z)<|G (aM Z)<|G (Zf dd Z)<|G (bW al row ht2 3 Z (H.ent (i:=2) Z) Z) ?_
 refine dZ (cr Z Z) Z Z Z (fun h60=> ?_) (fun h60=> ?_)
 refine G (Yb Z)<|ZN<|ZN<|ZN<|ZN<|ZN<|G (Kt Z Z)<|G (Wb Z)<|U<|ZT Z<|W<|Zr<|G (bp (cs:= #[J (0),J (0),J (0),.slice none 0 0]) fI cH N)<|bI H 0 (#[J (0),J (0),J (0),.slice none 0 0]) aH Z Z Z Z Z N N fun w5 H=>G (Wi Z)<|G (Wi Z)<|G (Wi Z)<|U<|Zt ?_
 exact na (cs0:= #[J 0,J 0,J 0,.slice none 0 0]) (v1:=J 0) (v2:=J 0) (v3:=J 12) Z az Z (H.ent (i:=0) Z) Z Z Z Z ⟨rfl,H.below⟩
 refine G (Yb Z)<|ZG<|G (Yp Z)<|ZG<|G (aM Z)<|ZG<|G (Zf dd Z)<|ZG<|G (bW al row ht2 3 Z (H.ent (i:=2) Z) Z)<|ZG<|G (sw Z Z I)<|G (N Z Z)<|G (Wb Z)<|U<|ZT Z<|W<|Zr<|G (bp (cs:= #[J (0),J (0),J (0),.slice none 0 0]) fI cH N)<|bI H 0 (#[J (0),J (0),J (0),.slice none 0 0]) aH Z Z Z Z Z N N fun w6 H=>G (Wi Z)<|G (Wi Z)<|G (Wi Z)<|U<|Zt ?_
 exact na (cs0:= #[J 0,J 0,J 0,.slice none 0 0]) (v1:=J 0) (v2:=J 0) (v3:=J 12) Z az Z (H.ent (i:=0) Z) Z Z Z Z ⟨rfl,H.below⟩
theorem O6 (c:Co) (s:ByteArray) (ver:Int) (b:Bool) (w:World) (h:c.rd 0 w.heap.size w) (hok:iD c=true) (hn:bC s=true) (hi:fN c s= -1):di aa mr [c.v,.string s,J ver,.bool b] w fun v w2=>v=.tuple #[.agg #[J 0,J 0,J 0,.slice none 0 0],J 5]/\Below w.heap.size w w2:=by
 refine aG qd Z Z ?_
 have hcap:=h.cap
 have hfew:=h.few
 have hfp:=h.fewP
 have H:=Hp.startCo h
 obtain⟨ck,nx,wt,txs,cA,cc⟩:=c
 dsimp only at hcap hfew hfp H
 show CW _ _ _ _ (args [.agg #[J ck,J nx,J wt,.slice cA txs.length cc],.string s,J ver,.bool b]) w
 refine W<|Zr<|gU H Z Z fun w1 b4 H=>fc H cH Z fun w2 b8 H=>G (Wi Z)<|U<|W<|Zr<|G (Zw az H 1 Z Z Z)<|G (Yt Z)<|G (Yi Z)<|cE gO (Cx ⟨ck,nx,wt,txs,cA,cc⟩ s ver _ ⟨H.rd0 0 Z,fun t ht=>fG H 1 Z ht,hcap,hfew,hfp⟩ hok hn hi) Z Z ?_
 rintro _ w3 ⟨rfl,hb⟩;replace H:=H.later hb;clear hb
 refine G (Yu Z)<|G (Xa Z Z)<|G (Xi Z Z)<|G (Xi Z Z)<|bI H 1 (#[J (0),J (0),J (0),.slice none 0 0]) aH Z Z Z Z Z N N fun w4 H=>G (Wi Z)<|G (Wi Z)<|U<|W<|W<|Zr<|G (Yi Z)<|G (l9 Z Z (by decide))<|U<|ZT Z<|W<|Zr<|G (bp (cs:= #[J (0),J (0),J (0),.slice none 0 0]) fI cH N)<|G (Yi Z)<|bI H 0 (#[J (0),J (0),J (0),.slice none 0 0]) aH Z Z Z Z Z N N fun w5 H=>G (Wi Z)<|U<|Zt ?_
 exact cu (cs0:= #[J 0,J 0,J 0,.slice none 0 0]) (v1:=J 5) Z az Z (H.ent (i:=0) Z) Z Z ⟨rfl,H.below⟩
theorem Ms (c:Co) (s:ByteArray) (ver:Int) (b:Bool) (i:Nat) (t:Tx) (w:World) (h:c.rd 0 w.heap.size w) (hok:iD c=true) (hn:bC s=true) (hi:fN c s=i) (ht:c.txs[i]? =some t) (hv:t.ver≠ver):di aa mr [c.v,.string s,J ver,.bool b] w fun v w2=>v=.tuple #[.agg #[J 0,J 0,J 0,.slice none 0 0],J 10]/\Below w.heap.size w w2:=by
 refine aG qd Z Z ?_
 have hcap:=h.cap
 have hfew:=h.few
 have hfp:=h.fewP
 have H:=Hp.startCo h
 obtain⟨ck,nx,wt,txs,cA,cc⟩:=c
 dsimp only at hcap hfew hfp H
 show CW _ _ _ _ (args [.agg #[J ck,J nx,J wt,.slice cA txs.length cc],.string s,J ver,.bool b]) w
 dsimp only at ht
 refine W<|Zr<|gU H Z Z fun w1 b4 H=>fc H cH Z fun w2 b8 H=>G (Wi Z)<|U<|W<|Zr<|G (Zw az H 1 Z Z Z)<|G (Yt Z)<|G (Yi Z)<|cE gO (Ao ⟨ck,nx,wt,txs,cA,cc⟩ s ver i t _ ⟨H.rd0 0 Z,fun t ht=>fG H 1 Z ht,hcap,hfew,hfp⟩ hok hn hi ht hv) Z Z ?_
 rintro _ w3 ⟨rfl,hb⟩;replace H:=H.later hb;clear hb
 refine G (Yu Z)<|G (Xa Z Z)<|G (Xi Z Z)<|G (Xi Z Z)<|bI H 1 (#[J (0),J (0),J (0),.slice none 0 0]) aH Z Z Z Z Z N N fun w4 H=>G (Wi Z)<|G (Wi Z)<|U<|W<|W<|Zr<|G (Yi Z)<|G (l9 Z Z (by decide))<|U<|ZT Z<|W<|Zr<|G (bp (cs:= #[J (0),J (0),J (0),.slice none 0 0]) fI cH N)<|G (Yi Z)<|bI H 0 (#[J (0),J (0),J (0),.slice none 0 0]) aH Z Z Z Z Z N N fun w5 H=>G (Wi Z)<|U<|Zt ?_
 exact cu (cs0:= #[J 0,J 0,J 0,.slice none 0 0]) (v1:=J 10) Z az Z (H.ent (i:=0) Z) Z Z ⟨rfl,H.below⟩
theorem Nb (c:Co) (n:Int) (w:World) (h:c.rd 0 w.heap.size w) (hok:iD c=true) (hn:1000<n):di aa tN [c.v,J n] w fun v w2=>v=.tuple #[.agg #[J 0,J 0,J 0,.slice none 0 0],J 2]/\Below w.heap.size w w2:=by
 refine aG xa Z Z ?_
 have hcap:=h.cap
 have hfew:=h.few
 have hfp:=h.fewP
 have H:=Hp.startCo h
 obtain⟨ck,nx,wt,txs,cA,cc⟩:=c
 dsimp only at hcap hfew hfp H
 show CW _ _ _ _ (args [.agg #[J ck,J nx,J wt,.slice cA txs.length cc],J n]) w
 refine W<|Zr<|gU H Z Z fun w1 b2 H=>fc H cH Z fun w2 b4 H=>G (Wi Z)<|U<|W<|W<|Zr<|G (Zw az H 1 Z Z Z)<|cE kO (qM ⟨ck,nx,wt,txs,cA,cc⟩ _ ⟨H.rd0 0 Z,fun t ht=>fG H 1 Z ht,hcap,hfew,hfp⟩ hok) Z Z ?_
 rw[hok]
 rintro _ w3 ⟨rfl,hb⟩;replace H:=H.later hb;clear hb
 refine G (Wi Z)<|U<|W<|Zr<|G (Yi Z)<|G (cj Z Z Z)<|U<|ZF Z<|Zk<|W<|W<|Zr<|G (Yi Z)<|G (cV Z Z I)<|G (Yb Z)<|ZG<|G (Yi Z)<|ZG<|G (Jz Z Z I)<|G (N Z Z)<|G (Yb Z)<|ZN<|ZN<|ZN<|ZN<|ZN<|G (Kt Z Z)<|U<|ZT Z<|W<|Zr<|G (bp (cs:= #[J (0),J (0),J (0),.slice none 0 0]) fI cH N)<|bI H 0 (#[J (0),J (0),J (0),.slice none 0 0]) aH Z Z Z Z Z N N fun w4 H=>G (Wi Z)<|U<|Zt ?_
 exact cu (cs0:= #[J 0,J 0,J 0,.slice none 0 0]) (v1:=J 2) Z az Z (H.ent (i:=0) Z) Z Z ⟨rfl,H.below⟩
theorem Co.rd.st {c:Co} {lo hi:Nat} {w w':World} (hk: ∀ k,lo<=k->k<hi->w'.heap[k]? =w.heap[k]?) (h:c.rd lo hi w):c.rd lo hi w':=
 ⟨h.row.st hk,fun t ht=>(h.parts t ht).st hk,h.cap,h.few,h.fewP⟩
theorem Co.rd.mono {c:Co} {lo hi lo' hi':Nat} {w:World} (h:c.rd lo hi w) (hl:lo'<=lo) (hh:hi<=hi'):c.rd lo' hi' w:=
 ⟨h.row.mono hl hh,fun t ht=>(h.parts t ht).mono hl hh,h.cap,h.few,h.fewP⟩
def UF (lo hi:Nat) (c:Co):cf:=⟨lo,hi,c.rd lo hi,fun _ _ hk h=>h.st hk⟩
theorem Hp.co {w0 w:World} {L:List (Nat×Obj)} {F:List cf} {lo hi:Nat} {c:Co} (H:Hp w0 w L F) (i:Nat) (hF:F[i]? =some (UF lo hi c)):c.rd 0 w.heap.size w:=
 Co.rd.mono (H.fact hF) (aV _) (H.facts _ (ab hF)).2.1
def vR (w w2:World) (c:Co):Prop:=c.rd w.heap.size w2.heap.size w2/\Below w.heap.size w w2
theorem J4.new {w w2:World} {c:Co} (h:J4 w w2 c) (h1:c.txs.length<=8) (h2: ∀ t∈c.txs,t.parts.length<=4):vR w w2 c:=
 ⟨⟨h.row,h.parts,h.cap,by omega,fun t ht=>⟨by have:=h2 t ht;omega,h.caps t ht⟩⟩,h.below⟩
theorem pW {w w2:World} (h:Below w.heap.size w w2):vR w w2 AN:=(RO h).new (by simp[AN]) (by simp[AN])
theorem Hf {l:List Int} (h:fa (-1) l=true):l.length<=4:=by have:=mX h;omega
theorem Es {ck nx:Int}: ∀ {l pre:List Tx},rz ck nx pre l=true↔(∀ t∈l,ra ck nx t=true)/\(∀ t∈l,∀ p∈pre,qu t p=false)/\l.Pairwise (fun p t=>qu t p=false)
 |[],pre=>by simp[rz]
 |t::l,pre=>by
  unfold rz
  rw[bg,bg,Es,ec]
  simp only[ay,ar,aq,forall_eq_or_imp,vV,vU]
  constructor
  rintro⟨⟨h1,h2⟩,h3,h4,h5⟩
  exact⟨⟨h1,h3⟩,⟨fun p hp=>by simpa using h2 p hp,fun a ha p hp=>h4 a ha p (.inl hp)⟩,fun a ha=>h4 a ha t (by simp),h5⟩
  rintro⟨⟨h1,h3⟩,⟨h2,h4⟩,h5,h6⟩
  exact⟨⟨h1,fun p hp=>by simpa using h2 p hp⟩,h3,fun a ha p hp=>hp.elim (h4 a ha p) (fun h=>by have:=h5 a ha;simp at h;rwa[h]),h6⟩
def rS (l:List Tx):Prop:=(l.map fun t=>(t.name,t.pid)).Pairwise fun p t=>p.1≠t.1/\p.2≠t.2
theorem ML {l:List Tx}:rS l↔l.Pairwise (fun p t=>qu t p=false):=by
 unfold rS
 rw[eQ]
 constructor<;>intro h<;>refine h.imp fun{a b} hab=> ?_
 simpa [qu]using hab
 simpa [qu]using hab
theorem dS {c:Co}:iD c=true↔(iu c.clock=true/\1<=c.next/\c.next<=1073741824/\1<=c.wait/\c.wait<=1000/\(c.txs.length:Int)<=8)/\(∀ t∈c.txs,ra c.clock c.next t=true)/\rS c.txs:=by
 rw[ta,Es,ML]
 constructor
 rintro⟨h1,h2,h3,h4,h5,h6,h7,h8,h9⟩;exact⟨⟨h1,h2,h3,h4,h5,h6⟩,h7,h9⟩
 rintro⟨⟨h1,h2,h3,h4,h5,h6⟩,h7,h9⟩;exact⟨h1,h2,h3,h4,h5,h6,h7,by simp,h9⟩
theorem JP {c:Co} (h:iD c=true):c.txs.length<=8/\ ∀ t∈c.txs,t.parts.length<=4:=by
 obtain⟨⟨_,_,_,_,_,h6⟩,h7,_⟩:=dS.1 h
 exact⟨by omega,fun t ht=>Hf (dp.1 (h7 t ht)).2.2.2.2.2.2.2.2.2.1⟩
theorem qT.new {w w2:World} {ca c':Co} {Lr Lp:List (Nat×Obj)} (h:qT w w2 ca c' Lr Lp) (hok:iD ca=true):vR w w2 c':=by
 have h1:iD c'=true:=by rw[t5,h.1];exact hok
 obtain⟨h2,h3⟩:=JP h1
 exact h.read.new h2 h3
def d6 (c:Co) (s:ByteArray):Option (Nat×Tx):=(c.txs.findIdx? fun p=>decide (p.name=s)).bind fun i=>c.txs[i]?.map fun t=>(i,t)
def gF (c:Co) (i:Nat) (t:Tx):Co:={c with txs:=c.txs.set i t}
theorem s8 {c:Co} {s:ByteArray} (h:d6 c s=none):fN c s= -1:=by
 unfold d6 at h
 unfold fN
 cases hi:c.txs.findIdx? fun p=>decide (p.name=s)with
 |none=>rfl
 |some i=>
  obtain⟨hl,-⟩:=aF.1 hi
  rw[hi]at h
  simp[ai hl]at h
theorem dR {c:Co} {s:ByteArray} {i:Nat} {t:Tx} (h:d6 c s=some (i,t)):fN c s=i/\c.txs[i]? =some t/\t.name=s:=by
 unfold d6 at h
 unfold fN
 cases hi:c.txs.findIdx? fun p=>decide (p.name=s)with
 |none=>rw[hi]at h;cases h
 |some j=>
  obtain⟨hl,hn,-⟩:=aF.1 hi
  rw[hi]at h
  simp only[cQ,ai hl,dA,jI,Prod.mk.injEq]at h
  obtain⟨rfl,rfl⟩:=h
  exact⟨rfl,ai hl,by simpa using hn⟩
theorem CY (c:Co) (s:ByteArray):d6 c.a s=(d6 c s).map fun(i,t)=>(i,t.a):=by
 have e:c.a.txs.findIdx? (fun p=>decide (p.name=s))=c.txs.findIdx? fun p=>decide (p.name=s):=by
  show(c.txs.map Tx.a).findIdx? _=_
  rw[vT]
  rfl
 unfold d6
 rw[e]
 cases c.txs.findIdx? fun p=>decide (p.name=s)with
 |none=>rfl
 |some i=>
  show(c.txs.map Tx.a)[i]?.map _=(c.txs[i]?.map _).map _
  rw[aJ]
  cases c.txs[i]? <;>rfl
theorem Bq (c:Co) (i:Nat) (t:Tx):(gF c i t).a=gF c.a i t.a:=by
 unfold gF Co.a
 simp only[cO]
theorem MD (c:Co) (s:ByteArray):(kN c s).a=kN c.a s:=by
 unfold kN Co.a
 simp only[bi,dB,mT]
 rfl
def bB (c:Co) (s:ByteArray):Co×Int×Int×Int:=match d6 c s with
 |none=>if c.txs.length=8 then(AN,0,0,16)else(kN c s,c.next,0,0)
 |some (i,t)=>if t.state=3∨t.state=4 then(AN,0,0,12)else(gF c i (ji t),t.pid,t.ver+1,0)
def lw (c:Co) (s:ByteArray) (ver p:Int):Co×Int:=match d6 c s with
 |none=>(AN,5)
 |some (i,t)=>if t.ver≠ver then(AN,10)else if t.state=1∨t.state=2 then(gF c i (fy c.clock p t),0)else(AN,12)
def jl (c:Co) (s:ByteArray) (ver:Int) (b:Bool):Co×Int:=match d6 c s with
 |none=>(AN,5)
 |some (i,t)=>if t.ver≠ver then(AN,10)else match ej (lq b) t with
  |none=>(AN,12)
  |some t'=>(gF c i t',0)
def nb (c:Co) (s:ByteArray) (p:Int):Co×Int:=match d6 c s with
 |none=>(AN,5)
 |some (i,t)=>if t.state=3∨t.state=4 then if p∈t.parts then(gF c i (eH p t),0)else(AN,5)else(AN,12)
def gX (c:Co) (n:Int):Co×Int:=if 1000<n then(AN,2)else(uV c n,0)
structure pn (k:Nat) (c:Co):Prop where
 ok:iD c=true
 clock:c.clock<=1000*k
 next:c.next<=k+1
 ver: ∀ t∈c.txs,t.ver<=k
theorem pn.more {k m:Nat} {c:Co} (h:pn k c) (hm:k<=m):pn m c:=⟨h.ok,by have:=h.clock;omega,by have:=h.next;omega,fun t ht=>by have:=h.ver t ht;omega⟩
theorem om {α:Type} {l:List α} {i:Nat} {a x:α} (h:x∈l.set i a):x∈l∨x=a:=aD h
theorem MK {l:List Tx} {i:Nat} {t t':Tx} (h:rS l) (hi:l[i]? =some t) (hn:t'.name=t.name) (hp:t'.pid=t.pid):rS (l.set i t'):=by
 unfold rS at h⊢
 rw[cO,hn,hp,i5 (by rw[aJ,hi];rfl)]
 exact h
theorem pn.set {k:Nat} {c:Co} {i:Nat} {t t':Tx} (h:pn k c) (hi:c.txs[i]? =some t) (hn:t'.name=t.name) (hp:t'.pid=t.pid) (hok:ra c.clock c.next t'=true) (hv:t'.ver<=k+1):pn (k+1) (gF c i t'):=by
 obtain⟨h1,h2,h3⟩:=dS.1 h.ok
 refine⟨dS.2 ⟨?_,fun x hx=> ?_,MK h3 hi hn hp⟩,?_,?_,fun x hx=> ?_⟩
 simpa [gF]using h1
 rcases om hx with hx|rfl
 exact h2 x hx
 exact hok
 have:=h.clock;show c.clock<=_;omega
 have:=h.next;show c.next<=_;omega
 rcases om hx with hx|rfl
 have:=h.ver x hx;omega
 omega
theorem S3:(1:Int)<=1:=by decide
theorem TH:(1:Int)<=2:=by decide
theorem QQ:(1:Int)<=4:=by decide
theorem TG:(2:Int)<=4:=by decide
theorem S0:(4:Int)<=4:=by decide
theorem S5:(1:Int)=1↔([]:List Int).length=0:=by decide
theorem j4 {n:Int}:iu n=true↔0<=n/\n<=1073741824:=by unfold iu;simp
theorem Kx {k:Nat} {c:Co} {s:ByteArray} (h:pn k c) (hk:k<=1000) (hn:bC s=true) (h0:(bB c s).2.2.2=0):pn (k+1) (bB c s).1:=by
 have hb:=h
 obtain⟨⟨h1,h2,h3,h4,h5,h6⟩,h7,h8⟩:=dS.1 h.ok
 unfold bB at h0⊢
 cases hf:d6 c s with
 |none=>
  rw[hf]at h0
  dsimp only at h0⊢
  by_cases hl:c.txs.length=8
  rw[if_pos hl]at h0;cases h0
  rw[if_neg hl]at h0⊢
  have hnx:=h.next
  have hck:=h.clock
  have hni:=s8 hf
  refine⟨dS.2 ⟨⟨h1,?_,?_,h4,h5,?_⟩,fun t ht=> ?_,?_⟩,?_,?_,fun t ht=> ?_⟩
  show 1<=c.next+1;omega
  show c.next+1<=_;omega
  show((c.txs++[_]).length:Int)<=8
  rw[av,bv];omega
  rcases ar.1 ht with ht|ht
  have:=dp.1 (h7 t ht)
  exact dp.2 ⟨this.1,this.2.1,by show t.pid<c.next+1;have:=this.2.2.1;omega,this.2.2.2⟩
  rw[aq.1 ht]
  exact dp.2 ⟨hn,h2,by show c.next<c.next+1;omega,by kernel_rfl,S3,QQ,by show(0:Int)<=0;omega,by show(0:Int)<=c.clock;exact(j4.1 h1).1,.inl Z,rfl,S5⟩
  unfold rS at h8⊢
  show((c.txs++[gH s c.next]).map _).Pairwise _
  rw[bi,mE]
  refine⟨h8,by simp,fun a ha b hb=> ?_⟩
  obtain⟨t,ht,rfl⟩:=bK.1 ha
  simp only[dB,mT,aq]at hb
  subst hb
  refine⟨fun he=> ?_,fun he=> ?_⟩
  have:(c.txs.findIdx? fun p=>decide (p.name=s))=none:=by
   cases hi:c.txs.findIdx? fun p=>decide (p.name=s)with
   |none=>rfl
   |some j=>unfold fN at hni;rw[hi]at hni;simp[lH]at hni
  rw[cD]at this
  have:=this t ht
  simp[show t.name=s from he]at this
  have:=(dp.1 (h7 t ht)).2.2.1
  have he':t.pid=c.next:=he
  omega
  show c.clock<=_;omega
  show c.next+1<=_;omega
  rcases ar.1 ht with ht|ht
  have:=h.ver t ht;omega
  rw[aq.1 ht];show(0:Int)<=_;omega
 |some x=>
  obtain⟨i,t⟩:=x
  rw[hf]at h0
  dsimp only at h0⊢
  obtain⟨hi,ht,-⟩:=dR hf
  by_cases hs:t.state=3∨t.state=4
  rw[if_pos hs]at h0;cases h0
  rw[if_neg hs]at h0⊢
  have hm:=ab ht
  have hv:=h.ver t hm
  obtain⟨a1,a2,a3,a4,a5,a6,a7,a8,a9,a10,a11⟩:=dp.1 (h7 t hm)
  have hv0:=(j4.1 a4).1
  refine h.set ht ?_ ?_ ?_ ?_
  unfold ji;split<;>rfl
  unfold ji;split<;>rfl
  unfold ji
  split
  rename_i h2'
  exact dp.2 ⟨a1,a2,a3,j4.2 ⟨by show 0<=t.ver+1;omega,by show t.ver+1<=_;omega⟩,QQ,S0,a7,a8,a9,a10,by constructor;intro h;cases h;intro h;have:=a11.2 h;omega⟩
  exact dp.2 ⟨a1,a2,a3,j4.2 ⟨by show 0<=t.ver+1;omega,by show t.ver+1<=_;omega⟩,a5,a6,a7,a8,a9,a10,a11⟩
  unfold ji;split<;>(show t.ver+1<=_;omega)
theorem Iz {l:List Int} {p:Int} (h:fa (-1) l=true) (h0:0<=p) (h3:p<4):fa (-1) (je l p)=true/\(je l p).length≠0:=by
 have key: ∀ (l:List Int) (a:Int),l.Pairwise (· < ·)->(∀ q∈l,a<q/\q<4)->fa a l=true:=by
  intro l
  induction l with
  |nil=>intro a _ _;rfl
  |cons x l ih=>
   intro a hp hq
   obtain⟨h1,h2⟩:=ec.1 hp
   unfold fa
   have:=hq x (aA ..)
   rw[ih x h2 fun q hq'=>⟨h1 q hq',(hq q (aj _ hq')).2⟩]
   simp[this.1,this.2]
 obtain⟨hp,hq⟩:=fE h
 unfold je
 split
 rename_i hm
 refine⟨h,fun h0=> ?_⟩
 rw[bS h0]at hm;cases hm
 rename_i hm
 refine⟨key _ _ ?_ ?_,by simp⟩
 rw[aB,mE]
 refine⟨hp.filter _,?_,?_⟩
 rw[mE]
 refine⟨by simp,hp.filter _,fun a ha b hb=> ?_⟩
 rw[aq.1 ha]
 simp only[gT,decide_eq_true_eq]at hb
 have:b≠p:=fun h=>hm (h▸hb.1)
 omega
 intro a ha b hb
 simp only[gT,decide_eq_true_eq]at ha
 rcases ar.1 hb with hb|hb
 rw[aq.1 hb];exact ha.2
 simp only[gT,decide_eq_true_eq]at hb;omega
 intro q hq'
 simp only[ar,gT,aq,decide_eq_true_eq]at hq'
 rcases hq' with(hq'|rfl)|hq'
 exact hq q hq'.1
 omega
 exact hq q hq'.1
theorem PG {ck nx p:Int} {t:Tx} (h:ra ck nx t=true) (hc:iu ck=true) (h0:0<=p) (h3:p<4):ra ck nx (fy ck p t)=true:=by
 obtain⟨a1,a2,a3,a4,a5,a6,a7,a8,a9,a10,a11⟩:=dp.1 h
 obtain⟨b1,b2⟩:=Iz a10 h0 h3
 have hc0:=(j4.1 hc).1
 unfold fy
 split
 exact dp.2 ⟨a1,a2,a3,a4,TH,TG,hc0,fj _,a9,b1,by constructor;intro h;cases h;intro h;exact absurd h b2⟩
 rename_i h1
 exact dp.2 ⟨a1,a2,a3,a4,a5,a6,a7,a8,a9,b1,by constructor;intro h;exact absurd h h1;intro h;exact absurd h b2⟩
theorem KM {k:Nat} {c:Co} {s:ByteArray} {ver p:Int} (h:pn k c) (h0:0<=p) (h3:p<4) (he:(lw c s ver p).2=0):pn (k+1) (lw c s ver p).1:=by
 obtain⟨⟨h1,-⟩,h7,-⟩:=dS.1 h.ok
 unfold lw at he⊢
 cases hf:d6 c s with
 |none=>rw[hf]at he;cases he
 |some x=>
  obtain⟨i,t⟩:=x
  rw[hf]at he
  dsimp only at he⊢
  obtain⟨-,ht,-⟩:=dR hf
  split at he
  cases he
  rename_i hv
  rw[if_neg hv]
  split at he
  rename_i hs
  rw[if_pos hs]
  have hm:=ab ht
  refine h.set ht ?_ ?_ (PG (h7 t hm) h1 h0 h3) ?_
  unfold fy;split<;>rfl
  unfold fy;split<;>rfl
  have:=h.ver t hm
  unfold fy;split<;>(show t.ver<=_;omega)
  cases he
theorem O7 {ck nx w:Int} {t t':Tx} (h:ra ck nx t=true) (hw:w=3∨w=4) (he:ej w t=some t'):ra ck nx t'=true/\t'.name=t.name/\t'.pid=t.pid/\t'.ver=t.ver:=by
 obtain⟨a1,a2,a3,a4,a5,a6,a7,a8,a9,a10,a11⟩:=dp.1 h
 unfold ej at he
 split at he
 injection he with he;subst he
 refine⟨dp.2 ⟨a1,a2,a3,a4,by show 1<=w;omega,by show w<=4;omega,a7,a8,a9,a10,?_⟩,rfl,rfl,rfl⟩
 constructor
 intro h;have h':w=1:=h;omega
 intro h;have:=a11.2 h;omega
 split at he
 injection he with he;subst he
 exact⟨dp.2 ⟨a1,a2,a3,a4,a5,a6,a7,a8,.inr hw,a10,a11⟩,rfl,rfl,rfl⟩
 split at he
 injection he with he;subst he
 exact⟨h,rfl,rfl,rfl⟩
 cases he
theorem KU (b:Bool):lq b=3∨lq b=4:=by cases b<;>simp[lq]
theorem KD {k:Nat} {c:Co} {s:ByteArray} {ver:Int} {b:Bool} (h:pn k c) (he:(jl c s ver b).2=0):pn (k+1) (jl c s ver b).1:=by
 obtain⟨-,h7,-⟩:=dS.1 h.ok
 unfold jl at he⊢
 cases hf:d6 c s with
 |none=>rw[hf]at he;cases he
 |some x=>
  obtain⟨i,t⟩:=x
  rw[hf]at he
  dsimp only at he⊢
  obtain⟨-,ht,-⟩:=dR hf
  split at he
  cases he
  rename_i hv
  rw[if_neg hv]
  have hm:=ab ht
  cases hx:ej (lq b) t with
  |none=>rw[hx]at he;cases he
  |some t'=>
   obtain⟨b1,b2,b3,b4⟩:=O7 (h7 t hm) (KU b) hx
   refine h.set ht b2 b3 b1 ?_
   have:=h.ver t hm;omega
theorem B7 {l:List Int} (h:fa (-1) l=true) (f:Int->Bool):fa (-1) (l.filter f)=true:=by
 have key: ∀ (l:List Int) (a:Int),l.Pairwise (· < ·)->(∀ q∈l,a<q/\q<4)->fa a l=true:=by
  intro l
  induction l with
  |nil=>intro a _ _;rfl
  |cons x l ih=>
   intro a hp hq
   obtain⟨h1,h2⟩:=ec.1 hp
   unfold fa
   have:=hq x (aA ..)
   rw[ih x h2 fun q hq'=>⟨h1 q hq',(hq q (aj _ hq')).2⟩]
   simp[this.1,this.2]
 obtain⟨hp,hq⟩:=fE h
 exact key _ _ (hp.filter _) fun q hq'=>hq q ((gT.1 hq').1)
theorem My {ck nx p:Int} {t:Tx} (h:ra ck nx t=true) (hs:t.state=3∨t.state=4):ra ck nx (eH p t)=true/\(eH p t).name=t.name/\(eH p t).pid=t.pid/\(eH p t).ver=t.ver:=by
 obtain⟨a1,a2,a3,a4,a5,a6,a7,a8,a9,a10,a11⟩:=dp.1 h
 unfold eH
 split
 exact⟨dp.2 ⟨a1,a2,a3,a4,S3,QQ,a7,a8,.inr hs,rfl,S5⟩,rfl,rfl,rfl⟩
 rename_i hl
 refine⟨dp.2 ⟨a1,a2,a3,a4,a5,a6,a7,a8,a9,B7 a10 _,?_⟩,rfl,rfl,rfl⟩
 constructor
 intro h;have h':t.state=1:=h;omega
 intro h;exact absurd h hl
theorem Ig {k:Nat} {c:Co} {s:ByteArray} {p:Int} (h:pn k c) (he:(nb c s p).2=0):pn (k+1) (nb c s p).1:=by
 obtain⟨-,h7,-⟩:=dS.1 h.ok
 unfold nb at he⊢
 cases hf:d6 c s with
 |none=>rw[hf]at he;cases he
 |some x=>
  obtain⟨i,t⟩:=x
  rw[hf]at he
  dsimp only at he⊢
  obtain⟨-,ht,-⟩:=dR hf
  split at he
  rename_i hs
  rw[if_pos hs]
  split at he
  rename_i hp
  rw[if_pos hp]
  have hm:=ab ht
  obtain⟨b1,b2,b3,b4⟩:=My (p:=p) (h7 t hm) hs
  refine h.set ht b2 b3 b1 ?_
  have:=h.ver t hm;omega
  cases he
  cases he
theorem zd {ck ck2 nx wt:Int} {t:Tx} (h:ra ck nx t=true) (hc:ck<=ck2):ra ck2 nx (fm ck2 wt t)=true/\(fm ck2 wt t).name=t.name/\(fm ck2 wt t).pid=t.pid/\(fm ck2 wt t).ver<=t.ver+1:=by
 obtain⟨a1,a2,a3,a4,a5,a6,a7,a8,a9,a10,a11⟩:=dp.1 h
 have hv:=j4.1 a4
 unfold fm
 split
 rename_i h2
 refine⟨dp.2 ⟨a1,a2,a3,j4.2 ⟨by show 0<=t.ver+1;omega,by show t.ver+1<=_;omega⟩,QQ,S0,a7,by show t.since<=ck2;omega,a9,a10,?_⟩,rfl,rfl,fj _⟩
 constructor
 intro h;cases h
 intro h;have:=a11.2 h;omega
 exact⟨dp.2 ⟨a1,a2,a3,a4,a5,a6,a7,by omega,a9,a10,a11⟩,rfl,rfl,by omega⟩
theorem GT {k:Nat} {c:Co} {n:Int} (h:pn k c) (hk:k<=1000) (hn:0<=n) (he:(gX c n).2=0):pn (k+1) (gX c n).1:=by
 obtain⟨⟨h1,h2,h3,h4,h5,h6⟩,h7,h8⟩:=dS.1 h.ok
 have hck:=h.clock
 have hc0:=(j4.1 h1).1
 unfold gX at he⊢
 split at he
 cases he
 rename_i hn1
 rw[if_neg hn1]
 unfold uV
 refine⟨dS.2 ⟨⟨j4.2 ⟨by show 0<=c.clock+n;omega,by show c.clock+n<=_;omega⟩,h2,h3,h4,h5,by simpa using h6⟩,fun t ht=> ?_,?_⟩,by show c.clock+n<=1000*((k+1:Nat):Int);omega,by have:=h.next;show c.next<=_;omega,fun t ht=> ?_⟩
 obtain⟨x,hx,rfl⟩:=bK.1 ht
 exact(zd (h7 x hx) (show c.clock<=c.clock+n by omega)).1
 unfold rS at h8⊢
 dsimp only
 rw[tu]
 rw[BH (g:=fun t=>(t.name,t.pid)) fun t ht=>by
  obtain⟨-,e1,e2,-⟩:=zd (ck2:=c.clock+n) (wt:=c.wait) (h7 t ht) I
  show((fm _ _ t).name,(fm _ _ t).pid)=_
  rw[e1,e2]]
 exact h8
 obtain⟨x,hx,rfl⟩:=bK.1 ht
 obtain⟨-,-,-,e3⟩:=zd (ck2:=c.clock+n) (wt:=c.wait) (h7 x hx) I
 have:=h.ver x hx
 omega
theorem pn.a {k:Nat} {c:Co} (h:pn k c):pn k c.a:=⟨by rw[<-t5];exact h.ok,h.clock,h.next,fun t ht=>by
 obtain⟨x,hx,rfl⟩:=bK.1 (show t∈c.txs.map Tx.a from ht)
 exact h.ver x hx⟩
theorem pn.of_a {k:Nat} {c:Co} (h:pn k c.a):pn k c:=⟨by rw[t5];exact h.ok,h.clock,h.next,fun t ht=>h.ver t.a (bM (f:=Tx.a) ht)⟩
theorem pn.at_ {k:Nat} {c:Co} (h:pn k c) {i:Nat} {t:Tx} (ht:c.txs[i]? =some t):ra c.clock c.next t=true:=(dS.1 h.ok).2.1 t (ab ht)
theorem Fy {c:Co} {s:ByteArray} {i:Nat} {t:Tx} (h:d6 c s=some (i,t)):d6 c.a s=some (i,t.a):=by rw[CY,h];rfl
theorem Jd {c:Co} {s:ByteArray} (h:d6 c s=none):d6 c.a s=none:=by rw[CY,h];rfl
theorem OI (t:Tx):ji t.a=(ji t).a:=by
 unfold ji
 by_cases h:t.state=2
 rw[if_pos (show t.a.state=2 from h),if_pos h];rfl
 rw[if_neg (show¬ t.a.state=2 from h),if_neg h];rfl
theorem yu (c:Co) (s:ByteArray) (k:Nat) (w:World) (h:c.rd 0 w.heap.size w) (hb:pn k c) (hk:k<=1000) (hn:bC s=true):di aa m4 [c.v,.string s] w fun v w2=> ∃ c':Co,v=.tuple #[c'.v,J (bB c.a s).2.1,J (bB c.a s).2.2.1,J (bB c.a s).2.2.2]/\c'.a=(bB c.a s).1/\vR w w2 c':=by
 have hnx:=hb.next
 have hpost:(bB c s).2.2.2=0->pn (k+1) (bB c s).1:=Kx hb hk hn
 cases hf:d6 c s with
 |none=>
  have hi:=s8 hf
  have ha:=Jd hf
  unfold bB at hpost⊢
  rw[ha]
  rw[hf]at hpost
  dsimp only at hpost⊢
  by_cases hl:c.txs.length=8
  rw[if_pos (show c.a.txs.length=8 by simpa [Co.a]using hl)]
  exact(Im c s w h hb.ok hn I hl).mono fun v w2 ⟨h1,h2⟩=>⟨AN,h1,rfl,pW h2⟩
  rw[if_neg (show¬ c.a.txs.length=8 by simpa [Co.a]using hl)]
  rw[if_neg hl]at hpost
  exact(Md c s w h hb.ok hn I hl I).mono fun v w2 ⟨c',Lr,Lp,h1,h2⟩=>⟨c',h1,h2.1,h2.new (by rw[<-MD,<-t5];exact(hpost Z).ok)⟩
 |some x=>
  obtain⟨i,t⟩:=x
  obtain⟨hi,ht,-⟩:=dR hf
  have ha:=Fy hf
  have hm:=ab ht
  have hv0:=j4.1 (dp.1 (hb.at_ ht)).2.2.2.1
  have hv:=hb.ver t hm
  unfold bB at hpost⊢
  rw[ha]
  rw[hf]at hpost
  dsimp only at hpost⊢
  by_cases hs:t.state=3∨t.state=4
  rw[if_pos (show t.a.state=3∨t.a.state=4 from hs)]
  exact(Js c s i t w h hb.ok hn hi ht hs).mono fun v w2 ⟨h1,h2⟩=>⟨AN,h1,rfl,pW h2⟩
  rw[if_neg (show¬ (t.a.state=3∨t.a.state=4)from hs)]
  rw[if_neg hs]at hpost
  exact(Jt c s i t w h hb.ok hn hi ht (fun h=>hs (.inl h)) (fun h=>hs (.inr h)) hv0.1 I).mono fun v w2 ⟨c',Lr,Lp,h1,h2⟩=>⟨c',h1,h2.1.trans (by rw[show({c with txs:=c.txs.set i (ji t)}:Co)=gF c i (ji t)from rfl,Bq,OI]),h2.new (by rw[<-t5];exact(hpost Z).ok)⟩
theorem PH (ck p:Int) (t:Tx):fy ck p t.a=(fy ck p t).a:=by
 unfold fy
 by_cases h:t.state=1
 rw[if_pos (show t.a.state=1 from h),if_pos h];rfl
 rw[if_neg (show¬ t.a.state=1 from h),if_neg h];rfl
theorem Iy (c:Co) (s:ByteArray) (ver p:Int) (k:Nat) (w:World) (h:c.rd 0 w.heap.size w) (hb:pn k c) (hn:bC s=true) (h0:0<=p) (h3:p<4):di aa oK [c.v,.string s,J ver,J p] w fun v w2=> ∃ c':Co,v=.tuple #[c'.v,J (lw c.a s ver p).2]/\c'.a=(lw c.a s ver p).1/\vR w w2 c':=by
 have hpost:(lw c s ver p).2=0->pn (k+1) (lw c s ver p).1:=KM hb h0 h3
 cases hf:d6 c s with
 |none=>
  have hi:=s8 hf
  have ha:=Jd hf
  unfold lw
  rw[ha]
  exact(PE c s ver p w h hb.ok hn hi).mono fun v w2 ⟨h1,h2⟩=>⟨AN,h1,rfl,pW h2⟩
 |some x=>
  obtain⟨i,t⟩:=x
  obtain⟨hi,ht,-⟩:=dR hf
  have ha:=Fy hf
  unfold lw at hpost⊢
  rw[ha]
  rw[hf]at hpost
  dsimp only at hpost⊢
  by_cases hv:t.ver=ver
  rw[if_neg (show¬ t.a.ver≠ver from fun h=>h hv)]
  rw[if_neg (fun h=>h hv)]at hpost
  by_cases hs:t.state=1∨t.state=2
  rw[if_pos (show t.a.state=1∨t.a.state=2 from hs)]
  rw[if_pos hs]at hpost
  exact(SD c s ver p i t w h hb.ok hn hi ht hv h0 h3 hs (dp.1 (hb.at_ ht)).2.2.2.2.2.2.2.2.2.1).mono fun v w2 ⟨c',Lr,Lp,h1,h2⟩=>⟨c',h1,h2.1.trans (by rw[show({c with txs:=c.txs.set i (fy c.clock p t)}:Co)=gF c i (fy c.clock p t)from rfl,Bq,PH];rfl),h2.new (by rw[<-t5];exact(hpost Z).ok)⟩
  rw[if_neg (show¬ (t.a.state=1∨t.a.state=2)from hs)]
  exact(MO c s ver p i t w h hb.ok hn hi ht hv h0 h3 (fun h=>hs (.inl h)) (fun h=>hs (.inr h))).mono fun v w2 ⟨h1,h2⟩=>⟨AN,h1,rfl,pW h2⟩
  rw[if_pos (show t.a.ver≠ver from hv)]
  exact(MP c s ver p i t w h hb.ok hn hi ht hv).mono fun v w2 ⟨h1,h2⟩=>⟨AN,h1,rfl,pW h2⟩
theorem Q3 (w:Int) (t:Tx):ej w t.a=(ej w t).map Tx.a:=by
 unfold ej
 by_cases h1:t.state=2
 rw[if_pos (show t.a.state=2 from h1),if_pos h1];rfl
 rw[if_neg (show¬ t.a.state=2 from h1),if_neg h1]
 by_cases h2:t.state=1/\t.done=0
 rw[if_pos (show t.a.state=1/\t.a.done=0 from h2),if_pos h2];rfl
 rw[if_neg (show¬ (t.a.state=1/\t.a.done=0)from h2),if_neg h2]
 by_cases h3:t.state=w∨(t.state=1/\t.done=w)
 rw[if_pos (show t.a.state=w∨(t.a.state=1/\t.a.done=w)from h3),if_pos h3];rfl
 rw[if_neg (show¬ (t.a.state=w∨(t.a.state=1/\t.a.done=w))from h3),if_neg h3];rfl
theorem Ia (c:Co) (s:ByteArray) (ver:Int) (b:Bool) (k:Nat) (w:World) (h:c.rd 0 w.heap.size w) (hb:pn k c) (hn:bC s=true):di aa mr [c.v,.string s,J ver,.bool b] w fun v w2=> ∃ c':Co,v=.tuple #[c'.v,J (jl c.a s ver b).2]/\c'.a=(jl c.a s ver b).1/\vR w w2 c':=by
 have hpost:(jl c s ver b).2=0->pn (k+1) (jl c s ver b).1:=KD hb
 cases hf:d6 c s with
 |none=>
  have hi:=s8 hf
  have ha:=Jd hf
  unfold jl
  rw[ha]
  exact(O6 c s ver b w h hb.ok hn hi).mono fun v w2 ⟨h1,h2⟩=>⟨AN,h1,rfl,pW h2⟩
 |some x=>
  obtain⟨i,t⟩:=x
  obtain⟨hi,ht,-⟩:=dR hf
  have ha:=Fy hf
  unfold jl at hpost⊢
  rw[ha]
  rw[hf]at hpost
  dsimp only at hpost⊢
  by_cases hv:t.ver=ver
  rw[if_neg (show¬ t.a.ver≠ver from fun h=>h hv),Q3]
  rw[if_neg (fun h=>h hv)]at hpost
  have main:di aa mr [c.v,.string s,J ver,.bool b] w fun v w2=>match ej (lq b) t with|none=>v=.tuple #[.agg #[J 0,J 0,J 0,.slice none 0 0],J 12]/\Below w.heap.size w w2|some t'=> ∃ (c':Co) (Lr Lp:List (Nat×Obj)),v=.tuple #[c'.v,J 0]/\qT w w2 (Co.a {c with txs:=c.txs.set i t'}) c' Lr Lp:=by
   cases b
   exact Mt c s ver i t w h hb.ok hn hi ht hv
   exact O5 c s ver i t w h hb.ok hn hi ht hv
  cases hx:ej (lq b) t with
  |none=>
   rw[hx]at main
   exact main.mono fun v w2 ⟨h1,h2⟩=>⟨AN,h1,rfl,pW h2⟩
  |some t'=>
   rw[hx]at main hpost
   exact main.mono fun v w2 ⟨c',Lr,Lp,h1,h2⟩=>⟨c',h1,h2.1.trans (by rw[show({c with txs:=c.txs.set i t'}:Co)=gF c i t' from rfl,Bq];rfl),h2.new (by rw[<-t5];exact(hpost Z).ok)⟩
  rw[if_pos (show t.a.ver≠ver from hv)]
  exact(Ms c s ver b i t w h hb.ok hn hi ht hv).mono fun v w2 ⟨h1,h2⟩=>⟨AN,h1,rfl,pW h2⟩
theorem Pe (p:Int) (t:Tx):eH p t.a=(eH p t).a:=by
 unfold eH
 by_cases h:(t.parts.filter fun q=>decide (q≠p)).length=0
 rw[if_pos (show(t.a.parts.filter fun q=>decide (q≠p)).length=0 from h),if_pos h];rfl
 rw[if_neg (show¬ (t.a.parts.filter fun q=>decide (q≠p)).length=0 from h),if_neg h];rfl
theorem MA (c:Co) (s:ByteArray) (p:Int) (k i:Nat) (t:Tx) (w:World) (h:c.rd 0 w.heap.size w) (hb:pn k c) (hn:bC s=true) (hf:d6 c.a s=some (i,t)) (h34:t.state=3∨t.state=4) (hp:p∈t.parts):di aa yB [c.v,.string s,J p] w fun v w2=> ∃ c':Co,v=.tuple #[c'.v,J 0]/\c'.a=(nb c.a s p).1/\vR w w2 c':=by
 have hpost:(nb c s p).2=0->pn (k+1) (nb c s p).1:=Ig hb
 rw[CY]at hf
 obtain⟨⟨j,x⟩,hg,he⟩:=i4.1 hf
 clear hf
 simp only[Prod.mk.injEq]at he
 obtain⟨rfl,rfl⟩:=he
 obtain⟨hi,ht,-⟩:=dR hg
 have ha:=Fy hg
 unfold nb at hpost⊢
 rw[ha]
 rw[hg]at hpost
 dsimp only at hpost⊢
 rw[if_pos h34,if_pos hp]
 rw[if_pos (show x.state=3∨x.state=4 from h34),if_pos (show p∈x.parts from hp)]at hpost
 exact(Q4 c s p i x w h hb.ok hn hi ht h34 hp (dp.1 (hb.at_ ht)).2.2.2.2.2.2.2.2.2.1).mono fun v w2 ⟨c',Lr,Lp,h1,h2⟩=>⟨c',h1,h2.1.trans (by rw[show({c with txs:=c.txs.set i (eH p x)}:Co)=gF c i (eH p x)from rfl,Bq,Pe]),h2.new (by rw[<-t5];exact(hpost Z).ok)⟩
theorem O4 (t:Tx):fZ t.a=fZ t:=rfl
theorem N9 (l:List Tx) (n:Nat):fW (l.map Tx.a) n=(fW l n).map Tx.a:=by
 unfold fW
 rw[List.filter_map,show(fZ∘Tx.a)=fZ from funext O4,aJ]
theorem Hn (c:Co) (n:Nat) (w:World) (h:c.rd 0 w.heap.size w) (hok:iD c=true) (hn:n<=1000):di aa yA [c.v,J (n:Nat)] w fun v w2=>v=Aj (fW c.a.txs n)/\Below w.heap.size w w2:=by
 refine(QD c n w h hok hn).mono fun v w2 ⟨h1,h2⟩=>⟨?_,h2⟩
 rw[h1,show c.a.txs=c.txs.map Tx.a from rfl,N9]
 cases fW c.txs n<;>rfl
theorem K0 (c:Co) (n:Int):(uV c n).a=uV c.a n:=by
 unfold uV Co.a
 simp only[tu]
 congr 1
 exact BH fun t _=>Nf _ _ t
theorem Eu (c:Co) (n:Int) (k:Nat) (w:World) (h:c.rd 0 w.heap.size w) (hb:pn k c) (hk:k<=1000) (hn:0<=n):di aa tN [c.v,J n] w fun v w2=> ∃ c':Co,v=.tuple #[c'.v,J (gX c.a n).2]/\c'.a=(gX c.a n).1/\vR w w2 c':=by
 have hpost:(gX c n).2=0->pn (k+1) (gX c n).1:=GT hb hk hn
 have hck:=hb.clock
 unfold gX at hpost⊢
 by_cases hf:1000<n
 rw[if_pos hf]
 exact(Nb c n w h hb.ok hf).mono fun v w2 ⟨h1,h2⟩=>⟨AN,h1,rfl,pW h2⟩
 rw[if_neg hf]
 rw[if_neg hf]at hpost
 exact(PZ c n w h hb.ok hn I I).mono fun v w2 ⟨c',Lr,Lp,h1,h2⟩=>⟨c',h1,h2.1,h2.new (by rw[<-K0,<-t5];exact(hpost Z).ok)⟩
theorem I1 (es:List cd) (A:Option Addr) (c n a most:Nat) (w:World) (hr:Rd gC 0 w.heap.size A es w) (hc:es.length<=c) (hb:es.length<=1000000) (hn:n<=es.length) (ha:es.length<a):
  di aa Ar [.slice A es.length c,J (n:Nat),J (a:Nat),J (most:Nat)] w fun v w2=>v=.tuple #[.slice none 0 0,J 0,J 2]/\Below w.heap.size w w2:=by
 refine aG yF Z Z ?_
 have H:=Hp.startRd hr
 refine W<|Zr<|G (Ws Z)<|G (Wi Z)<|G (Wi Z)<|U<|W<|Zr<|G (Ys Z)<|G (Yi Z)<|cE qN (zg es _ _ n _ (H.rd0 0 Z) hc hb hn) Z Z ?_
 rintro _ w1 ⟨st,hst,rfl,hb2⟩;replace H:=H.later hb2;clear hb2
 refine G (Yu Z)<|G (Xi Z Z)<|G (Xi Z Z)<|G (Wi Z)<|G (Wi Z)<|U<|W<|W<|Zr<|G (Yi Z)<|G (cj Z Z Z)<|U<|ZF Z<|Zk<|W<|W<|Zr<|G (Yi Z)<|G (cV Z Z I)<|G (Yb Z)<|ZG<|G (Yi Z)<|ZG<|G (Ys Z)<|ZG<|G (bl dW Z)<|ZG<|G (Jz Z Z I)<|G (N Z Z)<|G (Yb Z)<|ZN<|ZN<|G (Kt Z Z)<|G (Yb Z)<|ZN<|ZN<|G (Kt Z Z)<|U<|ZT Z<|W ?_
 refine Zr<|G (Ws Z)<|G (Wi Z)<|G (Wi Z)<|U<|Zt ?_
 exact JH Z Z Z Z ⟨rfl,H.below⟩
theorem Hg (p:Pa) (a most l:Nat) (r:gh) (w:World) (h:p.rd 0 w.heap.size w) (hok:p.a.ok) (hld:p.leader=l) (hr:p.reps[l]? =some r) (ha:r.es.length<a):di aa vm [p.v,J (a:Nat),J (most:Nat)] w fun v w2=>v=.tuple #[.slice none 0 0,J 0,J 2]/\Below w.heap.size w w2:=by
 refine aG tS Z Z ?_
 obtain⟨hn1,hn2,hil,hkl,hf1,hf2,he0,he1,hl0,hl1,hb0,hb1,hsm⟩:=Pa.facts hok
 have hkn:=hok.known
 have hiC:=h.iC
 have hkC:=h.kC
 have hrC:=h.rC
 have hfew:=h.few
 have H:=Hp.startPa h
 obtain⟨ep,ld,isr,iA,iC,kn,kA,kC,reps,rA,rC,fw,bs⟩:=p
 simp only[Pa.a]at hkn
 dsimp only at H hn1 hn2 hil hkl hf1 hf2 he0 he1 hl0 hl1 hb0 hb1 hsm hiC hkC hrC hfew
 dsimp only at hld hr
 have hll:=(bZ hr).1
 show CW _ _ _ _ (args [.agg #[J (ep),J (ld),.slice iA isr.length iC,.slice kA kn.length kC,.slice rA reps.length rC,J (fw),J (bs)],J (((a:Nat):Int)),J (((most:Nat):Int))]) w
 refine W<|Zr<|gU H Z Z fun w1 b3 H=>G (Ws Z)<|G (Wi Z)<|G (Wi Z)<|U<|W<|W<|Zr<|G (Zw bo H 0 Z Z Z)<|cE lM (sQ ⟨ep,ld,isr,iA,iC,kn,kA,kC,reps,rA,rC,fw,bs⟩ _ (Hp.pa H 0 Z) hok) Z Z ?_
 rintro _ w2 ⟨rfl,hb⟩;replace H:=H.later hb;clear hb
 refine G (Wi Z)<|U<|W<|Zr<|G (Yi Z)<|G (cj Z Z Z)<|U<|ZF Z<|Zk<|W<|W<|Zr<|G (Zf eu Z)<|G (Zd al H 0 Z Z Z)<|G (cV Z Z I)<|U<|ZF Z<|Zk<|W<|Zr<|G (Zf dI Z)<|G (Zd cF H 0 Z Z Z)<|G (Zf eu Z)<|G (Zd al H 0 Z Z Z)<|rE (k:=l) H 3 Z bQ Z (congrArg (Value.int .i64) hld) I I Z fun bq3 o3 x3 e3=> ?_
 obtain rfl:x3=r:=by have:=e3.at_;rw[hr]at this;exact(aZ this).symm
 obtain⟨n,hnn⟩: ∃ n:Nat,x3.high=n:=⟨x3.high.toNat,by have:=(Pa.repOk hok (i:=l) hr).2.1;omega⟩
 refine G (jF (xs:=gh.c x3) mB Z Z e3.cl)<|fc H ql Z fun w4 b10 H=>bI H 0 (#[.bool (x3.up),.slice x3.A ((bJ x3.es).length) x3.cap,J (((iF x3.es x3.s:Nat):Int)),J (x3.high)]) mj Z Z Z Z Z N N fun w5 H=>U<|W<|Zr<|G (Zf dM Z)<|G (jW 1 [.slice x3.A ((bJ x3.es).length) x3.cap,J (((iF x3.es x3.s:Nat):Int))] fx Z Z (H.ent (i:=0) Z) Z)<|cE f5 (gA x3.A x3.cap x3.es x3.s _ (Pa.log (Hp.pa H 0 Z) hok (i:=l) hr)) Z Z ?_
 have hloen:=H.size
 rintro _ w6 ⟨Aen,cen,rfl,hren,hcen,hben⟩;replace H:=H.learnRd hben hren;clear hren hben
 refine G (Yu Z)<|G (Xs Z Z)<|G (Xi Z Z)<|G (Xi Z Z)<|G (Ws Z)<|G (Wi Z)<|G (Wi Z)<|U<|W<|Zr<|G (Ys Z)<|G (Zf eU Z)<|G (Zd al H 0 Z Z Z)<|G (Yi Z)<|G (Yi Z)<|cE t9 ((by have hA:=I1 x3.es Aen cen n a most _ (H.rd0 0 Z) hcen (by have:=(Pa.repOk hok (i:=l) hr).1.len;omega) (by have:=(Pa.repOk hok (i:=l) hr).2.2;omega) ha;rw[<-hnn]at hA;exact hA)) Z Z ?_
 rintro _ w7 ⟨rfl,hb⟩;replace H:=H.later hb;clear hb
 refine G (Xs Z Z)<|G (Xi Z Z)<|G (Xi Z Z)<|G (Ws Z)<|G (Wi Z)<|G (Wi Z)<|U<|Zt ?_
 exact JH Z Z Z Z ⟨rfl,H.below⟩

/-- an act of a script -/
structure Act where
 kind:Int
 name:ByteArray
 part:Int
 n:Int
 m:Int
 text:ByteArray
 lost:Int
def Act.c (a:Act):List Value:=[J a.kind,.string a.name,J a.part,J a.n,J a.m,.string a.text,J a.lost]
abbrev Act.v (a:Act):Value:=.agg a.c.toArray
def jo:fu Act:=⟨Act.c,7,fun _=>rfl,by decide,fun a u hu=>by
 simp only[Act.c,ay,bu,or_false]at hu
 rcases hu with h|h|h|h|h|h|h<;>subst h<;>rfl⟩
structure An where
 code:Int
 n:Int
 texts:List ByteArray
structure Sn where
 name:ByteArray
 pid:Int
 ver:Int
 inn:Bool
 seqs:List Int
 sA:Option Addr
 sC:Nat
 last:List cd
 lA:Option Addr
 lC:Nat
def Sn.c (s:Sn):List Value:=[.string s.name,J s.pid,J s.ver,.bool s.inn,.slice s.sA s.seqs.length s.sC,.slice s.lA s.last.length s.lC]
def BR:fu Sn:=⟨Sn.c,6,fun _=>rfl,by decide,fun a u hu=>by
 simp only[Sn.c,ay,bu,or_false]at hu
 rcases hu with h|h|h|h|h|h<;>subst h<;>rfl⟩
def Sn.a (s:Sn):Sn:={s with sA:=none,sC:=0,lA:=none,lC:=0}
structure Pq where
 p:Pa
 lo:Nat
 hi:Nat
def Dv:fu Pq:=⟨fun q=>q.p.c,7,fun _=>rfl,by decide,fun a u hu=>by
 simp only[Pa.c,ay,bu,or_false]at hu
 rcases hu with h|h|h|h|h|h|h<;>subst h<;>rfl⟩
structure Bk where
 ps:List Pq
 pA:Option Addr
 pC:Nat
 co:Co
 clo:Nat
 chi:Nat
 gr:Gr
 glo:Nat
 ghi:Nat
 sns:List Sn
 snA:Option Addr
 snC:Nat
def Bk.c (b:Bk):List Value:=[.slice b.pA b.ps.length b.pC,J b.co.clock,J b.co.next,J b.co.wait,.slice b.co.A b.co.txs.length b.co.cap,J b.gr.clock,J b.gr.wait,J b.gr.gen,.slice b.gr.mA b.gr.ms.length b.gr.mC,.slice b.gr.oA b.gr.os.length b.gr.oC,.slice b.snA b.sns.length b.snC]
structure Wa where
 ps:List gi
 co:Co
 gr:Gr
 sns:List Sn
def Bk.a (b:Bk):Wa:=⟨b.ps.map fun q=>q.p.a,b.co.a,b.gr.a,b.sns.map Sn.a⟩
def qS:List Sn->List (Nat×Obj)->Prop
 |[],L=>L=[]
 |s::l,L=> ∃ gq uq gl ul L',s.sA=some ⟨gq,0,none⟩/\s.lA=some ⟨gl,0,none⟩/\d8 bR s.seqs s.sC uq/\d8 gC s.last s.lC ul/\L=(gq,.cells uq cM (0,0))::(gl,.cells ul dy (0,0))::L'/\qS l L'
theorem qS.at_: ∀ {l:List Sn} {L:List (Nat×Obj)} {i:Nat} {s:Sn},qS l L->l[i]? =some s-> ∃ gq uq gl ul La Lb,s.sA=some ⟨gq,0,none⟩/\s.lA=some ⟨gl,0,none⟩/\d8 bR s.seqs s.sC uq/\d8 gC s.last s.lC ul/\L=La++((gq,.cells uq cM (0,0))::(gl,.cells ul dy (0,0))::Lb)/\ ∀ (s':Sn) (gq':Nat) (uq':Array Value) (gl':Nat) (ul':Array Value),s'.sA=some ⟨gq',0,none⟩->s'.lA=some ⟨gl',0,none⟩->d8 bR s'.seqs s'.sC uq'->d8 gC s'.last s'.lC ul'->qS (l.set i s') (La++((gq',.cells uq' cM (0,0))::(gl',.cells ul' dy (0,0))::Lb))
 |[],_,_,_,_,h=>by simp at h
 |x::l,L,0,s,h,hi=>by
  obtain⟨gq,uq,gl,ul,L',h1,h2,h3,h4,rfl,h6⟩:=h
  have:x=s:=by simpa using hi
  subst this
  exact⟨gq,uq,gl,ul,[],L',h1,h2,h3,h4,rfl,fun s' gq' uq' gl' ul' a1 a2 a3 a4=>⟨gq',uq',gl',ul',L',a1,a2,a3,a4,rfl,h6⟩⟩
 |x::l,L,i+1,s,h,hi=>by
  obtain⟨gq,uq,gl,ul,L',h1,h2,h3,h4,rfl,h6⟩:=h
  obtain⟨kq,vq,kl,vl,La,Lb,b1,b2,b3,b4,rfl,b6⟩:=qS.at_ (i:=i) h6 (by simpa using hi)
  exact⟨kq,vq,kl,vl,(gq,.cells uq cM (0,0))::(gl,.cells ul dy (0,0))::La,Lb,b1,b2,b3,b4,rfl,fun s' gq' uq' gl' ul' a1 a2 a3 a4=>⟨gq,uq,gl,ul,_,h1,h2,h3,h4,rfl,b6 s' gq' uq' gl' ul' a1 a2 a3 a4⟩⟩
theorem qS.snoc: ∀ {l:List Sn} {L:List (Nat×Obj)} {s:Sn} {gq gl:Nat} {uq ul:Array Value},qS l L->s.sA=some ⟨gq,0,none⟩->s.lA=some ⟨gl,0,none⟩->d8 bR s.seqs s.sC uq->d8 gC s.last s.lC ul->qS (l++[s]) (L++[(gq,.cells uq cM (0,0)),(gl,.cells ul dy (0,0))])
 |[],L,s,gq,gl,uq,ul,h,a1,a2,a3,a4=>by
  have:L=[]:=h
  subst this
  exact⟨gq,uq,gl,ul,[],a1,a2,a3,a4,rfl,rfl⟩
 |x::l,L,s,gq,gl,uq,ul,h,a1,a2,a3,a4=>by
  obtain⟨kq,vq,kl,vl,L',h1,h2,h3,h4,rfl,h6⟩:=h
  exact⟨kq,vq,kl,vl,_,h1,h2,h3,h4,rfl,h6.snoc a1 a2 a3 a4⟩
def y3 (w0:World) (lo hi:Nat) (c:Co):cf:=⟨lo,hi,fun w=>w0.heap.size<=lo/\c.rd lo hi w,fun _ _ hk h=>⟨h.1,h.2.st hk⟩⟩
def MW (w0:World) (lo hi:Nat) (g:Gr):cf:=⟨lo,hi,fun w=>w0.heap.size<=lo/\g.rd lo hi w,fun _ _ hk h=>⟨h.1,h.2.st hk⟩⟩
def xX (w0:World) (lo hi:Nat) (p:Pa):cf:=⟨lo,hi,fun w=>w0.heap.size<=lo/\p.rd lo hi w,fun _ _ hk h=>⟨h.1,h.2.st hk⟩⟩
structure Bw (w0 w:World) (bb:Nat) (b:Bk) (gP:Nat) (uP:Array Value) (Ls Lo K:List (Nat×Obj)) (F:List cf):Prop where
 pA:b.pA=some ⟨gP,0,none⟩
 row:d8 Dv b.ps b.pC uP
 sn:gb BR (.slice b.snA b.sns.length b.snC) fK b.sns Ls
 own:qS b.sns Lo
 co:y3 w0 b.clo b.chi b.co∈F
 gr:MW w0 b.glo b.ghi b.gr∈F
 ps: ∀ q∈b.ps,xX w0 q.lo q.hi q.p∈F
 H:Hp w0 w ((bb,.cells b.c.toArray cB (0,0))::(gP,.cells uP bY (0,0))::(Ls++(Lo++K))) F
def y4 (w0 w:World) (bb:Nat) (b:Bk) (K:List (Nat×Obj)) (F:List cf):Prop:= ∃ gP uP Ls Lo F',Bw w0 w bb b gP uP Ls Lo K F'/\ ∀ f∈F,f∈F'
theorem Hp.coM {w1 w0 w:World} {L:List (Nat×Obj)} {F:List cf} {lo hi:Nat} {c:Co} (H:Hp w0 w L F) (h:y3 w1 lo hi c∈F):c.rd 0 w.heap.size w:=by
 obtain⟨h1,h2,-⟩:=H.facts _ h
 exact Co.rd.mono h1.2 (aV _) h2
theorem Hp.grM {w1 w0 w:World} {L:List (Nat×Obj)} {F:List cf} {lo hi:Nat} {g:Gr} (H:Hp w0 w L F) (h:MW w1 lo hi g∈F):g.rd 0 w.heap.size w:=by
 obtain⟨h1,h2,-⟩:=H.facts _ h
 exact Gr.rd.mono h1.2 (aV _) h2
theorem Hp.paM {w1 w0 w:World} {L:List (Nat×Obj)} {F:List cf} {lo hi:Nat} {p:Pa} (H:Hp w0 w L F) (h:xX w1 lo hi p∈F):p.rd 0 w.heap.size w:=by
 obtain⟨h1,h2,-⟩:=H.facts _ h
 exact Pa.rd.mono h1.2 (aV _) h2
def pq (x:An) (v:Value) (w:World):Prop:= ∃ A c,v=.agg #[J x.code,J x.n,.slice A x.texts.length c]/\x.texts.length<=c/\Rd nu 0 w.heap.size A x.texts w
theorem pq.plain (e n:Int) (w:World):pq ⟨e,n,[]⟩ (.agg #[J e,J n,.slice none 0 0]) w:=⟨none,0,rfl,ap _,Rd.nil⟩
def lY (w:Wa) (e:Int):Wa×An:=(w,⟨e,0,[]⟩)
def fR (a:Act) (x:An):An:=if a.lost=0 then x else⟨14,0,[]⟩
def dT (l:List Sn) (s:ByteArray):Option Nat:=l.findIdx? fun x=>decide (x.name=s)
def jJ:cd:=⟨0,0,0,0,0,false,⟨#[]⟩⟩
def rB (s:ByteArray) (pid ver:Int) (np:Nat):Sn:=⟨s,pid,ver,false,ao np 0,none,0,ao np jJ,none,0⟩
def qv (l:List Sn) (s:Sn):List Sn:=match dT l s.name with
 |none=>l++[s]
 |some i=>l.set i s
def mp (w:Wa) (a:Act):Wa×An:=if(bB w.co a.name).2.2.2=0 then({w with co:=(bB w.co a.name).1,sns:=qv w.sns (rB a.name (bB w.co a.name).2.1 (bB w.co a.name).2.2.1 w.ps.length)},⟨0,(bB w.co a.name).2.2.1,[]⟩)else lY w (bB w.co a.name).2.2.2
def jn (w:Wa) (a:Act):Wa×An:=match (dT w.sns a.name).bind fun i=>w.sns[i]?.map fun s=>(i,s)with
 |none=>lY w 5
 |some (i,s)=>if s.inn then lY w 6 else({w with sns:=w.sns.set i {s with inn:=true}},⟨0,0,[]⟩)
def ib (w:Wa) (n:Nat) (x:cd):Wa×An:=match w.ps[n]? with
 |none=>lY w 5
 |some p=>if(eF p x).2.2=0 then({w with ps:=w.ps.set n (eF p x).1},⟨0,(eF p x).2.1,[]⟩)else lY w (eF p x).2.2
def lv (w:Wa) (s:Sn) (n:Nat) (x:cd):Co×Int:=if x.txn then lw w.co s.name x.ver n else(w.co,0)
def dw (w:Wa) (s:Sn) (n:Nat):Wa×An:=match s.last[n]? with
 |none=>lY w 5
 |some x=>if(lv w s n x).2=0 then ib {w with co:=(lv w s n x).1} n x else lY w (lv w s n x).2
def dk (s:Sn) (n:Nat) (t:ByteArray):Sn:={s with last:=s.last.set n ⟨0,s.pid,s.ver,s.seqs.getD n 0,1,s.inn,t⟩,seqs:=s.seqs.set n (s.seqs.getD n 0+1)}
def gw (w:Wa) (a:Act) (again:Bool):Wa×An:=match (dT w.sns a.name).bind fun i=>w.sns[i]?.map fun s=>(i,s)with
 |none=>lY w 5
 |some (i,s)=>if again=true/\(s.last.getD a.part.toNat jJ).kind=0 then lY w 15 else
  let s1:=if again then s else dk s a.part.toNat a.text
  let w1:={w with sns:=w.sns.set i s1}
  if a.lost=1 then lY w1 14 else((dw w1 s1 a.part.toNat).1,fR a (dw w1 s1 a.part.toNat).2)
def pH (s:Sn):Sn:={s with inn:=false,last:=s.last.map fun e=>if e.txn then jJ else e}
def fO (w:Wa) (a:Act):Wa×An:=match (dT w.sns a.name).bind fun i=>w.sns[i]?.map fun s=>(i,s)with
 |none=>lY w 5
 |some (i,s)=>if s.inn=false then lY w 12 else if a.lost=1 then lY w 14 else
  if(jl w.co s.name s.ver (decide (a.n=1))).2=0 then({w with co:=(jl w.co s.name s.ver (decide (a.n=1))).1,sns:=if a.lost=0 then w.sns.set i (pH s)else w.sns},fR a ⟨0,0,[]⟩)else(w,fR a ⟨(jl w.co s.name s.ver (decide (a.n=1))).2,0,[]⟩)
def bP (t:Tx):cd:=⟨0,t.pid,t.ver,0,if t.state=4 then 3 else 2,true,⟨#[]⟩⟩
def kg (w:Wa) (a:Act):Wa×An:=match fW w.co.txs a.n.toNat with
 |none=>lY w 15
 |some t=>if(ib w (t.parts.headD 0).toNat (bP t)).2.code=0 then({(ib w (t.parts.headD 0).toNat (bP t)).1 with co:=(nb w.co t.name (t.parts.headD 0)).1},(ib w (t.parts.headD 0).toNat (bP t)).2)else ib w (t.parts.headD 0).toNat (bP t)
def uU (w:Wa) (a:Act):Wa×An:=({w with co:=(gX w.co a.n).1,gr:=qo w.gr a.n w.ps.length},⟨0,(gX w.co a.n).1.clock,[]⟩)
def jp (p:gi) (a:Act):gi×Int×Int:=
 if a.kind=8 then iU p a.n.toNat else if a.kind=9 then((mi p a.n.toNat).1,0,(mi p a.n.toNat).2)else((fo p a.n.toNat).1,0,(fo p a.n.toNat).2)
def oz (w:Wa) (a:Act):Wa×An:=match w.ps[a.part.toNat]? with
 |none=>lY w 5
 |some p=>if(jp p a).2.2=0 then({w with ps:=w.ps.set a.part.toNat (jp p a).1},⟨0,(jp p a).2.1,[]⟩)else lY w (jp p a).2.2
inductive Fb (p:gi) (a most:Nat):An->Prop
 |none:p.leader<0->Fb p a most ⟨8,0,[]⟩
 |range (l:Nat) (r:RA):p.leader=l->p.reps[l]? =some r->r.es.length<a->Fb p a most ⟨2,0,[]⟩
 |ok (l:Nat) (r:RA) (st:Nat) (out:List ByteArray) (b:Nat):p.leader=l->p.reps[l]? =some r->a<=r.es.length->rW (r.es.take r.high.toNat) st->Do r.es r.high.toNat st a most out b->Fb p a most ⟨0,(b:Nat),out⟩
inductive rO (w:Wa) (a:Act):An->Prop
 |no:(eS w.gr a.name a.part).2≠0->rO w a ⟨(eS w.gr a.name a.part).2,0,[]⟩
 |yes (p:gi) (x:An):(eS w.gr a.name a.part).2=0->w.ps[a.part.toNat]? =some p->Fb p (eS w.gr a.name a.part).1.toNat a.n.toNat x->rO w a x
def Jg (w:Wa) (a:Act):Gr×Int:=if a.kind=16 then uk w.gr a.name w.ps.length else if a.kind=18 then y0 w.gr a.name a.n else tC w.gr a.name a.n a.part a.m
def AS (w:Wa) (a:Act):Wa×An:=if(Jg w a).2=0 then({w with gr:=(Jg w a).1},⟨0,(Jg w a).1.gen,[]⟩)else lY w (Jg w a).2
theorem IT {l:List Sn} {s:ByteArray} {i:Nat} (h:dT l s=some i): ∃ x,l[i]? =some x/\x.name=s:=by
 obtain⟨hl,h1,-⟩:=aF.1 h
 exact⟨_,ai hl,by simpa using h1⟩
theorem Nw {l:List Sn} {s:ByteArray} {i:Nat} {x:Sn} (hx:l[i]? =some x) (hn:x.name=s) (hno: ∀ y∈l.take i,y.name≠s):dT l s=some i:=by
 unfold dT
 obtain⟨hl,rfl⟩:=bZ hx
 rw[aF]
 refine⟨hl,by simpa using hn,fun j hj=> ?_⟩
 have:=hno l[j] (List.mem_take_iff_getElem.2 ⟨j,by omega,rfl⟩)
 simpa using this
theorem IU {l:List Sn} {s:ByteArray} (hno: ∀ y∈l,y.name≠s):dT l s=none:=by
 unfold dT
 rw[cD]
 intro x hx
 simpa using hno x hx
def SS (g:Nat):Option Nat->Value
 |none=> .pointer none
 |some i=> .pointer (some ⟨g,i*BR.sz,none⟩)
theorem dU (e:Int) (w:World):di aa zz [J e] w fun v w2=>v=.agg #[J e,J 0,.slice none 0 0]/\Below w.heap.size w w2:=by
 refine aG yJ Z Z ?_
 have H:=Hp.start w
 refine W<|Zr<|fc H dn Z fun w1 b2 H=>U<|W<|Zr<|G (Yi Z)<|G (bp (cs:= #[J (e),J (0),.slice none 0 0]) iX dn N)<|bI H 0 (#[J (e),J (0),.slice none 0 0]) bA Z Z Z Z Z N N fun w2 H=>U<|Zt ?_
 exact gB (cs0:= #[J e,J 0,.slice none 0 0]) Z bx Z (H.ent (i:=0) Z) Z ⟨rfl,H.below⟩
theorem Ft (a:Act) (c n:Int) (A:Option Addr) (l k:Nat) (w:World):di aa wX [a.v,.agg #[J c,J n,.slice A l k]] w fun v w2=>v=(if a.lost=0 then .agg #[J c,J n,.slice A l k]else .agg #[J 14,J 0,.slice none 0 0])/\Below w.heap.size w w2:=by
 refine aG CU Z Z ?_
 have H:=Hp.start w
 show CW _ _ _ _ (args [.agg #[J (a.kind),.string (a.name),J (a.part),J (a.n),J (a.m),.string (a.text),J (a.lost)],.agg #[J c,J n,.slice A l k]]) w
 refine W<|Zr<|gU H Z Z fun w1 b2 H=>gU H Z Z fun w2 b3 H=>fc H dn Z fun w3 b4 H=>U<|W<|W<|Zr<|G (Zf kL Z)<|G (Zd al H 2 Z Z Z) ?_
 refine sU (jv Z Z) Z Z Z (fun h7=> ?_) (fun h7=> ?_)
 refine U<|ZT Z<|W<|Zr<|cE bO (dU 14 _) Z Z ?_
 rintro _ w4 ⟨rfl,hb⟩;replace H:=H.later hb;clear hb
 refine bI H 0 (#[J (14),J (0),.slice none 0 0]) bA Z Z Z Z Z N N fun w5 H=>U<|Zt ?_
 exact gB (cs0:= #[J 14,J 0,.slice none 0 0]) Z bx Z (H.ent (i:=0) Z) Z ⟨(if_neg h7).symm,H.below⟩
 refine U<|ZF Z<|Zk<|W<|Zr<|G (Zw bx H 1 Z Z Z)<|bI H 0 (#[J (c),J (n),.slice A l k]) bA Z Z Z Z Z N N fun w6 H=>U<|Zt ?_
 exact gB (cs0:= #[J c,J n,.slice A l k]) Z bx Z (H.ent (i:=0) Z) Z ⟨(if_pos (by simpa using h7)).symm,H.below⟩
theorem oD (bb:Nat) (b:Bk) (n:Int) (w:World) (hb:w.heap[bb]? =some (.cells b.c.toArray cB (0,0))):di aa uB [.pointer (Qd bb),J n] w fun v w2=>v=.bool (decide (0<=n/\n<(b.ps.length:Int)))/\Below w.heap.size w w2:=by
 refine aG tT Z Z ?_
 have H:=Hp.start w
 have hbl:=bX hb
 refine W<|Zr<|G (Wb Z)<|U<|W<|Zr<|G (Yi Z) ?_
 refine dZ (pN Z Z) Z Z Z (fun h6=> ?_) (fun h6=> ?_)
 refine G (Yb Z)<|ZG<|G (Yi Z)<|ZG<|G (Yp Z)<|ZG<|G (aM Z)<|ZG<|G (Zf aU Z)<|ZG<|G (Zf dF Z)<|ZG<|G (bd er Z ((H.below.cell (p:=⟨bb,_,none⟩) hbl).trans (aK (j:=0) hb Z)))<|ZG<|G (bl kW Z)<|ZG ?_
 refine dZ (cI Z Z) Z Z Z (fun h15=> ?_) (fun h15=> ?_)
 refine G (Kt Z Z)<|G (Wb Z)<|U<|Zt ?_
 exact cU (v:=.bool true) Z Z ⟨by congr 1;simp only[Bool.true_eq,Bool.false_eq,decide_eq_true_eq,decide_eq_false_iff_not];omega,H.below⟩
 refine G (Kt Z Z)<|G (Wb Z)<|U<|Zt ?_
 exact cU (v:=.bool false) Z Z ⟨by congr 1;simp only[Bool.true_eq,Bool.false_eq,decide_eq_true_eq,decide_eq_false_iff_not];omega,H.below⟩
 refine G (Yb Z)<|ZN<|ZN<|ZN<|ZN<|ZN<|ZN<|ZN<|ZN<|G (N Z Z)<|G (Wb Z)<|U<|Zt ?_
 exact cU (v:=.bool false) Z Z ⟨by congr 1;simp only[Bool.true_eq,Bool.false_eq,decide_eq_true_eq,decide_eq_false_iff_not];omega,H.below⟩
theorem IW (bb:Nat) (b:Bk) (s:ByteArray) (w:World) (hb:w.heap[bb]? =some (.cells b.c.toArray cB (0,0))) (h0:b.sns=[]):di aa jO [.pointer (Qd bb),.string s] w fun v w2=>v=.pointer none/\Below w.heap.size w w2:=by
 refine aG mu Z Z ?_
 have H:=Hp.start w
 have hbl:=bX hb
 have hl0:b.sns.length=0:=by rw[h0];rfl
 refine W<|Zr<|G (Wp Z)<|U<|W<|W<|Zr<|G (Yp Z)<|G (aM Z)<|G (Zf aU Z)<|G (Zf kG Z)<|G (bd ks Z ((H.below.cell (p:=⟨bb,_,none⟩) hbl).trans (aK (j:=10) hb Z)))<|G (bl vf Z)<|G (Yi Z)<|U<|Zb ?_
 refine bV (τ:=Unit) [4,5,12,13,14,15,16,17,18,19,20,21,22,23,24,25,26,27,28,29,30,31,32,33] (fun _=>[(12,J 0)]) (fun _ w'=>Hp w w' [] []) (fun _=>0) () H (ef Z) ?_
 rintro _ ρ1 w1 H
 show CW _ _ _ _ (dO (ij _ _ ρ1) [(12,J 0)]) w1
 refine W<|Zr<|G (cV Z Z I)<|U<|W<|ZF Z<|Zx<|W<|Zr<|G (Wp Z)<|U<|Zt ?_
 exact cU (v:=.pointer none) Z Z ⟨rfl,H.below⟩
theorem Lg (bb:Nat) (b:Bk) (s:ByteArray) (g:Nat) (u:Array Value) (w:World) (hb:w.heap[bb]? =some (.cells b.c.toArray cB (0,0))) (hA:b.snA=some ⟨g,0,none⟩) (row:d8 BR b.sns b.snC u) (hg:w.heap[g]? =some (.cells u fK (0,0))) (hl:b.sns.length<=1000000):di aa jO [.pointer (Qd bb),.string s] w fun v w2=>v=SS g (dT b.sns s)/\Below w.heap.size w w2:=by
 refine aG mu Z Z ?_
 have H:=Hp.start w
 have hbl:=bX hb
 have hgl:=bX hg
 obtain⟨ps,pA,pC,co,clo,chi,gr,glo,ghi,sns,snA,snC⟩:=b
 dsimp only at hA row hl
 subst hA
 replace hb:w.heap[bb]? =some (.cells #[.slice pA ps.length pC,J (co.clock),J (co.next),J (co.wait),.slice co.A co.txs.length co.cap,J (gr.clock),J (gr.wait),J (gr.gen),.slice gr.mA gr.ms.length gr.mC,.slice gr.oA gr.os.length gr.oC,.slice (Qd g) sns.length snC] cB (0,0)):=hb
 refine W<|Zr<|G (Wp Z)<|U<|W<|W<|Zr<|G (Yp Z)<|G (aM Z)<|G (Zf aU Z)<|G (Zf kG Z)<|G (bd ks Z ((H.below.cell (p:=⟨bb,_,none⟩) hbl).trans (aK (j:=10) hb Z)))<|G (bl vf Z)<|G (Yi Z)<|U<|Zb ?_
 refine bV (τ:=Nat) [4,5,12,13,14,15,16,17,18,19,20,21,22,23,24,25,26,27,28,29,30,31,32,33] (fun i=>[(12,J (i:Nat))]) (fun i w'=>i<=sns.length/\(∀ y∈sns.take i,y.name≠s)/\Hp w w' [] []) (fun i=>sns.length-i) 0 ⟨by omega,by simp,H⟩ (ef Z) ?_
 rintro i ρ1 w1 ⟨hi,hno,H⟩
 show CW _ _ _ _ (dO (ij _ _ ρ1) [(12,J (i:Nat))]) w1
 refine W<|Zr ?_
 refine dZ (cI Z Z) Z Z Z (fun h13=> ?_) (fun h13=> ?_)
 refine U<|W<|ZT Z<|Zk<|W<|Zb<|W ?_
 obtain⟨x,hx⟩: ∃ x,sns[i]? =some x:=⟨_,ai I⟩
 refine Zr<|G (Yi Z)<|G (Wi Z)<|U<|W<|Zr<|G (Yp Z)<|G (aM Z)<|G (Zf aU Z)<|G (Zf kG Z)<|G (bd ks Z ((H.below.cell (p:=⟨bb,_,none⟩) hbl).trans (aK (j:=10) hb Z)))<|G (Yi Z)<|G (cL tE Z Z I)<|G (Zf oS Z)<|G (bW aY row hx 0 Z ((H.below.block _ hgl).trans hg) Z)<|G (Yt Z) ?_
 refine dZ (uZ Z Z) Z Z Z (fun h25=> ?_) (fun h25=> ?_)
 refine U<|ZT Z<|W<|Zr<|G (Yp Z)<|G (aM Z)<|G (Zf aU Z)<|G (Zf kG Z)<|G (bd ks Z ((H.below.cell (p:=⟨bb,_,none⟩) hbl).trans (aK (j:=10) hb Z)))<|G (Yi Z)<|G (cL tE Z Z I)<|G (Wp Z)<|U<|Zt ?_
 exact cU (v:=.pointer (some ⟨g,i*BR.sz,none⟩)) Z Z ⟨by dsimp only;rw[Nw hx h25 hno];rfl,H.below⟩
 refine U<|ZF Z<|Zk<|Zr<|G (bn Z Z I I)<|G (Yi Z)<|U ?_
 refine⟨i+1,⟨by omega,fun y hy=> ?_,H⟩,ef Z,Qg,by show sns.length- (i+1)<sns.length-i;omega⟩
 rw[ed hx]at hy
 rcases ar.1 hy with hy|hy
 exact hno y hy
 rw[aq.1 hy];exact h25
 refine U<|W<|ZF Z<|Zx<|W<|Zr<|G (Wp Z)<|U<|Zt ?_
 obtain rfl:i=sns.length:=by omega
 rw[br]at hno
 exact cU (v:=.pointer none) Z Z ⟨by dsimp only;rw[IU hno];rfl,H.below⟩
def Tf:Option Addr->Nat
 |some A=>A.block
 |none=>0
theorem jK (bb:Nat) (b:Bk) (s:ByteArray) (Ls:List (Nat×Obj)) (w:World) (hb:w.heap[bb]? =some (.cells b.c.toArray cB (0,0))) (hsn:gb BR (.slice b.snA b.sns.length b.snC) fK b.sns Ls) (hLs: ∀ q∈Ls,w.heap[q.1]? =some q.2) (hl:b.sns.length<=1000000):di aa jO [.pointer (Qd bb),.string s] w fun v w2=>v=SS (Tf b.snA) (dT b.sns s)/\Below w.heap.size w w2:=by
 by_cases h0:b.sns=[]
 refine(IW bb b s w hb h0).mono fun v w2 ⟨h1,h2⟩=>⟨?_,h2⟩
 rw[h1,h0];rfl
 obtain⟨g,u,hA,hL,row⟩:=hsn.row (List.length_pos_iff.2 h0)
 subst hL
 refine(Lg bb b s g u w hb hA row (hLs _ (aq.2 Z)) hl).mono fun v w2 ⟨h1,h2⟩=>⟨?_,h2⟩
 rw[h1,hA];rfl
theorem EW (X:List (Nat×Obj)) (a b:Nat×Obj) (La Lb K:List (Nat×Obj)):(X++(a::b::(La++(Lb++K)))).Perm (X++((La++(a::b::Lb))++K)):=by
 refine List.Perm.append_left _ ?_
 rw[show(La++(a::b::Lb))++K=La++([a,b]++(Lb++K)) by simp]
 exact gu [a,b] La (Lb++K)
theorem Bw.close {w0 w':World} {bb gP gS gq gl pC snC clo chi glo ghi i:Nat} {uP uS uq ul:Array Value} {La Lb K X:List (Nat×Obj)} {F0 F':List cf} {ps:List Pq} {co:Co} {gr:Gr} {sns:List Sn} {s:Sn} {C:Array Value} (row:d8 Dv ps pC uP) (rowS:d8 BR (sns.set i s) snC uS) (hset: ∀ (s':Sn) (gq':Nat) (uq':Array Value) (gl':Nat) (ul':Array Value),s'.sA=some ⟨gq',0,none⟩->s'.lA=some ⟨gl',0,none⟩->d8 bR s'.seqs s'.sC uq'->d8 gC s'.last s'.lC ul'->qS (sns.set i s') (La++((gq',.cells uq' cM (0,0))::(gl',.cells ul' dy (0,0))::Lb)))
  (hsA:s.sA=some ⟨gq,0,none⟩) (hlA:s.lA=some ⟨gl,0,none⟩) (rowq:d8 bR s.seqs s.sC uq) (rowl:d8 gC s.last s.lC ul) (hco:y3 w0 clo chi co∈F') (hgr:MW w0 glo ghi gr∈F') (hps: ∀ q∈ps,xX w0 q.lo q.hi q.p∈F') (hF: ∀ f∈F0,f∈F')
  (H:Hp w0 w' (X++((bb,.cells C cB (0,0))::(gP,.cells uP bY (0,0))::(gS,.cells uS fK (0,0))::(gq,.cells uq cM (0,0))::(gl,.cells ul dy (0,0))::(La++(Lb++K)))) F') (hC:C=(Bk.mk ps (Qd gP) pC co clo chi gr glo ghi (sns.set i s) (Qd gS) snC).c.toArray):y4 w0 w' bb ⟨ps,some ⟨gP,0,none⟩,pC,co,clo,chi,gr,glo,ghi,sns.set i s,some ⟨gS,0,none⟩,snC⟩ K F0:=by
 subst hC
 refine⟨gP,uP,_,_,F',⟨rfl,row,d8.own rowS,hset s gq uq gl ul hsA hlA rowq rowl,hco,hgr,hps,?_⟩,hF⟩
 have H1:=H.forget (ci X _) (fun _ h=>h)
 exact H1.perm (EW [(bb,_),(gP,_),(gS,_)] _ _ La Lb K).symm
theorem Bp (l:List Sn) (s:ByteArray):dT (l.map Sn.a) s=dT l s:=by
 unfold dT
 rw[vT]
 rfl
theorem yi {l:List Sn} {s:ByteArray} {i:Nat} {x:Sn} (hix:dT l s=some i) (hx:l[i]? =some x):((dT (l.map Sn.a) s).bind fun i=>(l.map Sn.a)[i]?.map fun s=>(i,s))=some (i,x.a):=by
 rw[Bp,hix]
 simp[hx]
theorem Fz {l:List Sn} {s:ByteArray} (hix:dT l s=none):((dT (l.map Sn.a) s).bind fun i=>(l.map Sn.a)[i]?.map fun s=>(i,s))=none:=by
 rw[Bp,hix]
 rfl
theorem Bw.shut {w0 w':World} {bb gP pC snC clo chi glo ghi:Nat} {uP:Array Value} {Ls Lo K X:List (Nat×Obj)} {F0 F':List cf} {ps:List Pq} {co:Co} {gr:Gr} {sns:List Sn} {snA:Option Addr} {C:Array Value} (row:d8 Dv ps pC uP) (hsn:gb BR (.slice snA sns.length snC) fK sns Ls) (hown:qS sns Lo) (hco:y3 w0 clo chi co∈F') (hgr:MW w0 glo ghi gr∈F') (hps: ∀ q∈ps,xX w0 q.lo q.hi q.p∈F') (hF: ∀ f∈F0,f∈F')
  (H:Hp w0 w' (X++((bb,.cells C cB (0,0))::(gP,.cells uP bY (0,0))::(Ls++(Lo++K)))) F') (hC:C=(Bk.mk ps (Qd gP) pC co clo chi gr glo ghi sns snA snC).c.toArray):y4 w0 w' bb ⟨ps,some ⟨gP,0,none⟩,pC,co,clo,chi,gr,glo,ghi,sns,snA,snC⟩ K F0:=by
 subst hC
 exact⟨gP,uP,_,_,F',⟨rfl,row,hsn,hown,hco,hgr,hps,H.forget (ci X _) (fun _ h=>h)⟩,hF⟩
theorem yY {b:Bk} {a:Act} {i:Nat} {x:Sn} (hix:dT b.sns a.name=some i) (hx:b.sns[i]? =some x) (h:x.inn=true):jn b.a a=(b.a,⟨6,0,[]⟩):=by
 unfold jn
 rw[show b.a.sns=b.sns.map Sn.a from rfl,yi hix hx]
 dsimp only
 rw[if_pos (show x.a.inn=true from h)]
 rfl
theorem E7 {b:Bk} {a:Act} {i:Nat} {x:Sn} (hix:dT b.sns a.name=some i) (hx:b.sns[i]? =some x) (h:x.inn=false):jn b.a a=({b.a with sns:=(b.sns.set i {x with inn:=true}).map Sn.a},⟨0,0,[]⟩):=by
 unfold jn
 rw[show b.a.sns=b.sns.map Sn.a from rfl,yi hix hx]
 dsimp only
 rw[if_neg (show¬ x.a.inn=true by show¬ x.inn=true;rw[h];decide),cO]
 rfl
theorem AD {b:Bk} {a:Act} (hix:dT b.sns a.name=none):jn b.a a=(b.a,⟨5,0,[]⟩):=by
 unfold jn
 rw[show b.a.sns=b.sns.map Sn.a from rfl,Fz hix]
 rfl
theorem fg {α:Type} {l:List α} {k:Nat} {a:α} (h:l[k]? =some a):l.set k a=l:=by
 apply dg
 intro j
 rw[lQ]
 split
 rename_i hj
 subst hj
 split
 exact h.symm
 rename_i hl
 rw[bL I]at h;cases h
 rfl
theorem JS {w0 w:World} {bb:Nat} {b:Bk} {gP:Nat} {uP:Array Value} {Ls Lo K:List (Nat×Obj)} {F:List cf} (a:Act) (B:Bw w0 w bb b gP uP Ls Lo K F) (hsl:b.sns.length<=1000000) (hix:dT b.sns a.name=none):di aa j9 [.pointer (Qd bb),a.v] w fun v w2=> ∃ b':Bk,pq (jn b.a a).2 v w2/\b'.a=(jn b.a a).1/\y4 w0 w2 bb b' K F:=by
 refine aG m7 Z Z ?_
 obtain⟨ps,pA,pC,co,clo,chi,gr,glo,ghi,sns,snA,snC⟩:=b
 obtain⟨hpA,row,hsn,hown,hco,hgr,hps,H⟩:=B
 dsimp only at hpA row hsn hown hco hgr hps
 subst hpA
 replace H:Hp w0 w ((bb,.cells #[.slice (Qd gP) ps.length pC,J (co.clock),J (co.next),J (co.wait),.slice co.A co.txs.length co.cap,J (gr.clock),J (gr.wait),J (gr.gen),.slice gr.mA gr.ms.length gr.mC,.slice gr.oA gr.os.length gr.oC,.slice snA sns.length snC] cB (0,0))::(gP,.cells uP bY (0,0))::(Ls++(Lo++K))) F:=H
 dsimp only at hix hsl
 show CW _ _ _ _ (args [.pointer (Qd bb),.agg #[J (a.kind),.string (a.name),J (a.part),J (a.n),J (a.m),.string (a.text),J (a.lost)]]) w
 refine W<|Zr<|gU H Z Z fun w1 b3 H=>fc H dn Z fun w2 b4 H=>U<|W<|Zr<|G (Yp Z)<|G (Zf fq Z)<|G (Zd aY H 1 Z Z Z)<|cE dD (jK bb ⟨ps,some ⟨gP,0,none⟩,pC,co,clo,chi,gr,glo,ghi,sns,snA,snC⟩ (a.name) Ls _ (H.ent (i:=2) Z) hsn (fun q hq=>(H.ents q (by simp only[ay,ar];grind)).1) hsl) Z Z ?_
 rintro _ w3 ⟨rfl,hb⟩;replace H:=H.later hb;clear hb
 rw[hix]
 refine G (Wp Z)<|U<|W<|Zb<|W<|Zr<|G (Yp Z)<|G (zl i7 Z)<|G (Wb Z)<|U<|ZT Z<|W<|Zr<|cE bO (dU 5 _) Z Z ?_
 rintro _ w4 ⟨rfl,hb⟩;replace H:=H.later hb;clear hb
 refine bI H 0 (#[J (5),J (0),.slice none 0 0]) bA Z Z Z Z Z N N fun w5 H=>U<|Zt ?_
 exact gB (cs0:= #[J (5),J (0),.slice none 0 0]) Z bx Z (H.ent (i:=0) Z) Z ⟨⟨ps,some ⟨gP,0,none⟩,pC,co,clo,chi,gr,glo,ghi,sns,snA,snC⟩,by rw[AD hix];exact pq.plain _ _ _,by rw[AD hix],Bw.shut (X:=[(b4,_),(b3,_)]) row hsn hown hco hgr hps (fun _ h=>h) H Z⟩
theorem JR {w0 w:World} {bb:Nat} {b:Bk} {gP:Nat} {uP:Array Value} {Ls Lo K:List (Nat×Obj)} {F:List cf} (a:Act) (B:Bw w0 w bb b gP uP Ls Lo K F) (hsl:b.sns.length<=1000000) {i:Nat} {x:Sn} (hix:dT b.sns a.name=some i) (hx:b.sns[i]? =some x):di aa j9 [.pointer (Qd bb),a.v] w fun v w2=> ∃ b':Bk,pq (jn b.a a).2 v w2/\b'.a=(jn b.a a).1/\y4 w0 w2 bb b' K F:=by
 refine aG m7 Z Z ?_
 obtain⟨ps,pA,pC,co,clo,chi,gr,glo,ghi,sns,snA,snC⟩:=b
 obtain⟨hpA,row,hsn,hown,hco,hgr,hps,H⟩:=B
 dsimp only at hpA row hsn hown hco hgr hps
 subst hpA
 dsimp only at hix hx
 obtain⟨gS,uS,hgS,hLs,rowS⟩:=hsn.row (by have:=(bZ hx).1;omega)
 subst hgS;subst hLs
 obtain⟨gq,uq,gl,ul,La,Lb,hsA,hlA,rowq,rowl,hLo,hset⟩:=hown.at_ hx
 subst hLo
 replace H:Hp w0 w ((bb,.cells #[.slice (Qd gP) ps.length pC,J (co.clock),J (co.next),J (co.wait),.slice co.A co.txs.length co.cap,J (gr.clock),J (gr.wait),J (gr.gen),.slice gr.mA gr.ms.length gr.mC,.slice gr.oA gr.os.length gr.oC,.slice (Qd gS) sns.length snC] cB (0,0))::(gP,.cells uP bY (0,0))::(gS,.cells uS fK (0,0))::(gq,.cells uq cM (0,0))::(gl,.cells ul dy (0,0))::(La++(Lb++K))) F:=H.perm (EW [(bb,_),(gP,_),(gS,_)] _ _ La Lb K)
 dsimp only at hsl
 show CW _ _ _ _ (args [.pointer (Qd bb),.agg #[J (a.kind),.string (a.name),J (a.part),J (a.n),J (a.m),.string (a.text),J (a.lost)]]) w
 refine W<|Zr<|gU H Z Z fun w1 b3 H=>fc H dn Z fun w2 b4 H=>U<|W<|Zr<|G (Yp Z)<|G (Zf fq Z)<|G (Zd aY H 1 Z Z Z)<|cE dD (jK bb ⟨ps,some ⟨gP,0,none⟩,pC,co,clo,chi,gr,glo,ghi,sns,some ⟨gS,0,none⟩,snC⟩ (a.name) _ _ (H.ent (i:=2) Z) (d8.own rowS) (fun q hq=>by rw[aq.1 hq];exact(H.ent (i:=4) Z)) hsl) Z Z ?_
 rintro _ w3 ⟨rfl,hb⟩;replace H:=H.later hb;clear hb
 rw[hix]
 refine G (Wp Z)<|U<|W<|Zb<|W<|Zr<|G (Yp Z)<|G (xw i7 Z)<|G (Wb Z)<|U<|ZF Z<|W<|Zr<|G (Yp Z)<|G (aM Z)<|G (Zf oR Z) ?_
 refine By (bW eP rowS hx 3 Z (H.ent (i:=4) Z) Z) Z Z Z (fun h18=> ?_) (fun h18=> ?_)
 refine G (Wb Z)<|U<|ZT Z<|W<|Zr<|cE bO (dU 6 _) Z Z ?_
 rintro _ w4 ⟨rfl,hb⟩;replace H:=H.later hb;clear hb
 refine bI H 0 (#[J (6),J (0),.slice none 0 0]) bA Z Z Z Z Z N N fun w5 H=>U<|Zt ?_
 exact gB (cs0:= #[J (6),J (0),.slice none 0 0]) Z bx Z (H.ent (i:=0) Z) Z ⟨⟨ps,some ⟨gP,0,none⟩,pC,co,clo,chi,gr,glo,ghi,sns.set i x,some ⟨gS,0,none⟩,snC⟩,by rw[yY hix hx h18];exact pq.plain _ _ _,by rw[yY hix hx h18,fg hx],Bw.close (X:=[(b4,_),(b3,_)]) row (by rw[fg hx];exact rowS) hset hsA hlA rowq rowl hco hgr hps (fun _ h=>h) H (by rw[fg hx];rfl)⟩
 refine G (Wb Z)<|U<|ZF Z<|Zk<|W<|Zr<|G (Yp Z)<|G (aM Z)<|G (Zf oR Z)<|nt H 4 ({x with inn:=true}) mW rowS hx 3 Z Z Z Z Z Z N fun w7 cur6 row6 H=> ?_
 have hs8:(sns.set i ({x with inn:=true}))[i]? =some ({x with inn:=true}):=ak (bZ hx).1
 refine U<|W<|Zr<|G (bp (cs:= #[J (0),J (0),.slice none 0 0]) iX dn N)<|bI H 0 (#[J (0),J (0),.slice none 0 0]) bA Z Z Z Z Z N N fun w9 H=>U<|Zt ?_
 exact gB (cs0:= #[J (0),J (0),.slice none 0 0]) Z bx Z (H.ent (i:=0) Z) Z ⟨⟨ps,some ⟨gP,0,none⟩,pC,co,clo,chi,gr,glo,ghi,sns.set i {x with inn:=true},some ⟨gS,0,none⟩,snC⟩,by rw[E7 hix hx h18];exact pq.plain _ _ _,by rw[E7 hix hx h18];rfl,Bw.close (X:=[(b4,_),(b3,_)]) row row6 hset hsA hlA rowq rowl hco hgr hps (fun _ h=>h) H (by simp only[Bk.c,ae])⟩
def PR:Deep Co:=⟨fun c=>c.rd,fun _ _ _ _ _ hk h=>h.st hk,fun _ _ _ _ _ _ h h1 h2=>h.mono h1 h2⟩
def mN:Nat->ByteArray
 |0=>⟨#[97,110,110]⟩
 |1=>⟨#[98,111,98]⟩
 |_=>⟨#[99,121]⟩
theorem QC:bC ⟨#[97,110,110]⟩=true:=by kernel_rfl
theorem QB:bC ⟨#[98,111,98]⟩=true:=by kernel_rfl
theorem Bu:bC ⟨#[99,121]⟩=true:=by kernel_rfl
theorem u7: ∀ m:Nat,bC (mN m)=true
 |0=>QC
 |1=>QB
 |_+2=>Bu
theorem Oe {m:Nat} (h:m<3):(rF [.string ⟨#[97,110,110]⟩,.string ⟨#[98,111,98]⟩,.string ⟨#[99,121]⟩]).toArray[0+((m:Nat):Int).toNat*1]? =some (.string (mN m)):=by
 match m,h with
 |0,_=>rfl
 |1,_=>rfl
 |2,_=>rfl
def yb (P:ByteArray->Prop) (wt:Int) (c:Co):Prop:=c.wait=wt/\ ∀ t∈c.txs,P t.name
theorem yb.set {P:ByteArray->Prop} {wt:Int} {c:Co} {i:Nat} {t t':Tx} (h:yb P wt c) (hi:c.txs[i]? =some t) (hn:t'.name=t.name):yb P wt (gF c i t'):=⟨h.1,fun x hx=>by
 rcases om hx with hx|rfl
 exact h.2 x hx
 rw[hn];exact h.2 t (ab hi)⟩
theorem yb.init {P:ByteArray->Prop} {wt:Int} {c:Co} {s:ByteArray} (h:yb P wt c) (hs:P s) (he:(bB c s).2.2.2=0):yb P wt (bB c s).1:=by
 unfold bB at he⊢
 split
 rename_i hf
 rw[hf]at he
 dsimp only at he
 split at he
 cases he
 rename_i hl
 rw[if_neg hl]
 refine⟨h.1,fun t ht=> ?_⟩
 rcases ar.1 ht with ht|ht
 exact h.2 t ht
 rw[aq.1 ht];exact hs
 rename_i i t hf
 rw[hf]at he
 dsimp only at he
 split at he
 cases he
 rename_i hl
 rw[if_neg hl]
 exact h.set (dR hf).2.1 (by unfold ji;split<;>rfl)
theorem yb.add {P:ByteArray->Prop} {wt:Int} {c:Co} {s:ByteArray} {ver p:Int} (h:yb P wt c) (he:(lw c s ver p).2=0):yb P wt (lw c s ver p).1:=by
 unfold lw at he⊢
 split
 rename_i hf;rw[hf]at he;cases he
 rename_i i t hf
 rw[hf]at he
 dsimp only at he
 split at he
 cases he
 rename_i hv
 rw[if_neg hv]
 split at he
 rename_i h1
 rw[if_pos h1]
 exact h.set (dR hf).2.1 (by unfold fy;split<;>rfl)
 cases he
theorem JL {w:Int} {t t':Tx} (h:ej w t=some t'):t'.name=t.name:=by
 unfold ej at h
 split at h
 injection h with h;subst h;rfl
 split at h
 injection h with h;subst h;rfl
 split at h
 injection h with h;subst h;rfl
 cases h
theorem yb.end_ {P:ByteArray->Prop} {wt:Int} {c:Co} {s:ByteArray} {ver:Int} {b:Bool} (h:yb P wt c) (he:(jl c s ver b).2=0):yb P wt (jl c s ver b).1:=by
 unfold jl at he⊢
 split
 rename_i hf;rw[hf]at he;cases he
 rename_i i t hf
 rw[hf]at he
 dsimp only at he
 split at he
 cases he
 rename_i hv
 rw[if_neg hv]
 split at he
 cases he
 rename_i t' hx
 exact h.set (dR hf).2.1 (JL hx)
theorem yb.done {P:ByteArray->Prop} {wt:Int} {c:Co} {s:ByteArray} {p:Int} (h:yb P wt c) (he:(nb c s p).2=0):yb P wt (nb c s p).1:=by
 unfold nb at he⊢
 split
 rename_i hf;rw[hf]at he;cases he
 rename_i i t hf
 rw[hf]at he
 dsimp only at he
 split at he
 rename_i h1
 rw[if_pos h1]
 split at he
 rename_i h2
 rw[if_pos h2]
 exact h.set (dR hf).2.1 (by unfold eH;split<;>rfl)
 cases he
 cases he
theorem yb.tick {P:ByteArray->Prop} {wt:Int} {c:Co} {n:Int} (h:yb P wt c) (he:(gX c n).2=0):yb P wt (gX c n).1:=by
 unfold gX at he⊢
 split at he
 cases he
 rename_i h1
 rw[if_neg h1]
 refine⟨h.1,fun t ht=> ?_⟩
 obtain⟨x,hx,rfl⟩:=bK.1 (show t∈c.txs.map _ from ht)
 have:(fm (c.clock+n) c.wait x).name=x.name:=by unfold fm;split<;>rfl
 rw[this];exact h.2 x hx
theorem yb.a {P:ByteArray->Prop} {wt:Int} {c:Co} (h:yb P wt c):yb P wt c.a:=⟨h.1,fun t ht=>by
 obtain⟨x,hx,rfl⟩:=bK.1 (show t∈c.txs.map Tx.a from ht)
 exact h.2 x hx⟩
theorem yb.of_a {P:ByteArray->Prop} {wt:Int} {c:Co} (h:yb P wt c.a):yb P wt c:=⟨h.1,fun t ht=>h.2 t.a (bM (f:=Tx.a) ht)⟩
def Rt (s:ByteArray):Prop:= ∃ m,s=mN m
def Ug (k:Nat) (c:Co):Prop:=pn k c/\yb Rt 10 c
theorem Ug.next {k:Nat} {r:Co×Int} {c':Co} (h1:r.2=0->pn (k+1) r.1) (h2:r.2=0->yb Rt 10 r.1) (ha:c'.a=r.1):r.2=0->Ug (k+1) c':=fun h=>⟨pn.of_a (ha▸h1 h),yb.of_a (ha▸h2 h)⟩
theorem OD (n:Int) (w:World) (hn:i64 n):di aa wC [J n] w fun v w2=>v=.string (mN (pk n 3))/\Below w.heap.size w w2:=by
 refine aG vp Z Z ?_
 have H:=Hp.start w
 refine W<|Zr<|G (Wt Z)<|U<|W<|Zr<|sK (vs:=[.string ⟨#[97,110,110]⟩,.string ⟨#[98,111,98]⟩,.string ⟨#[99,121]⟩]) H g9 yc Z Z Z Z Z Z fun w1 b3 H=>G (Yi Z)<|cE bH (fz n 3 _ hn.1 hn.2 I I) Z Z ?_
 rintro _ w2 ⟨rfl,hb⟩;replace H:=H.later hb;clear hb
 have hm:=lE n (show 0<3 by omega)
 refine G (yr g9 Z Z I I)<|G (bd aY Z (aK (H.ent (i:=0) Z) (Oe hm)))<|G (Wt Z)<|U<|Zt ?_
 exact cU Z Z ⟨rfl,H.below⟩
theorem Kl {w:Wa} {n:Nat} {x:cd} {p:gi} (h:w.ps[n]? =some p):ib w n x=if(eF p x).2.2=0 then({w with ps:=w.ps.set n (eF p x).1},⟨0,(eF p x).2.1,[]⟩)else lY w (eF p x).2.2:=by
 unfold ib
 rw[h]
theorem Cg {ps:List Pq} {n:Nat} {q y:Pq} (h:y∈ps.set n q):y∈ps∨y=q:=aD h
theorem C5 {w0 w:World} {bb gP gS gq gl pC snC clo chi k i n:Nat} {uP uS uq ul:Array Value} {R:List (Nat×Obj)} {F:List cf} {ps:List Pq} {co:Co} {gr:Gr} {sns:List Sn} {x:Sn} (H:Hp w0 w ((bb,.cells #[.slice (Qd gP) ps.length pC,J (co.clock),J (co.next),J (co.wait),.slice co.A co.txs.length co.cap,J (gr.clock),J (gr.wait),J (gr.gen),.slice gr.mA gr.ms.length gr.mC,.slice gr.oA gr.os.length gr.oC,.slice (Qd gS) sns.length snC] cB (0,0))::(gP,.cells uP bY (0,0))::(gS,.cells uS fK (0,0))::(gq,.cells uq cM (0,0))::(gl,.cells ul dy (0,0))::R) F) (row:d8 Dv ps pC uP) (rowS:d8 BR sns snC uS) (rowl:d8 gC x.last x.lC ul) (hx:sns[i]? =some x) (hlA:x.lA=some ⟨gl,0,none⟩) (hco:y3 w0 clo chi co∈F) (hps: ∀ q∈ps,xX w0 q.lo q.hi q.p∈F) (hn:n<x.last.length) (hnp:n<ps.length) (hn4:n<4) (hnm:bC x.name=true) (hcb:pn k co) (hpk: ∀ q∈ps,q.p.a.ok/\ ∀ (l:Nat) (y:gh),q.p.leader=l->q.p.reps[l]? =some y->y.es.length<400):di aa s7 [.pointer (Qd bb),.pointer (some ⟨gS,i*BR.sz,none⟩),J (n:Nat)] w fun v w2=> ∃ (ps':List Pq) (uP':Array Value) (co':Co) (clo' chi':Nat) (F':List cf),pq (dw (Wa.mk (ps.map fun q=>q.p.a) co.a gr.a (sns.map Sn.a)) x.a n).2 v w2/\(dw (Wa.mk (ps.map fun q=>q.p.a) co.a gr.a (sns.map Sn.a)) x.a n).1=Wa.mk (ps'.map fun q=>q.p.a) co'.a gr.a (sns.map Sn.a)/\d8 Dv ps' pC uP'/\ps'.length=ps.length/\y3 w0 clo' chi' co'∈F'/\(∀ q∈ps',xX w0 q.lo q.hi q.p∈F')/\(∀ f∈F,f∈F')/\Hp w0 w2 ((bb,.cells #[.slice (Qd gP) ps'.length pC,J (co'.clock),J (co'.next),J (co'.wait),.slice co'.A co'.txs.length co'.cap,J (gr.clock),J (gr.wait),J (gr.gen),.slice gr.mA gr.ms.length gr.mC,.slice gr.oA gr.os.length gr.oC,.slice (Qd gS) sns.length snC] cB (0,0))::(gP,.cells uP' bY (0,0))::(gS,.cells uS fK (0,0))::(gq,.cells uq cM (0,0))::(gl,.cells ul dy (0,0))::R) F':=by
 refine aG sv Z Z ?_
 obtain⟨e,he⟩: ∃ e,x.last[n]? =some e:=⟨_,ai hn⟩
 have hl5:(BR.f x)[5]? =some (.slice (some ⟨gl,0,none⟩) x.last.length x.lC):=by rw[<-hlA];rfl
 obtain⟨q,hq⟩: ∃ q,ps[n]? =some q:=⟨_,ai hnp⟩
 have hqm:=ab hq
 have hpC:=row.le
 have hD:dw (Wa.mk (ps.map fun q=>q.p.a) co.a gr.a (sns.map Sn.a)) x.a n=if(lv (Wa.mk (ps.map fun q=>q.p.a) co.a gr.a (sns.map Sn.a)) x.a n e).2=0 then ib (Wa.mk (ps.map fun q=>q.p.a) (lv (Wa.mk (ps.map fun q=>q.p.a) co.a gr.a (sns.map Sn.a)) x.a n e).1 gr.a (sns.map Sn.a)) n e else lY (Wa.mk (ps.map fun q=>q.p.a) co.a gr.a (sns.map Sn.a)) (lv (Wa.mk (ps.map fun q=>q.p.a) co.a gr.a (sns.map Sn.a)) x.a n e).2:=by unfold dw;rw[show x.a.last[n]? =some e from he]
 rw[hD]
 have hP:=Kl (w:=Wa.mk (ps.map fun q=>q.p.a) (lv (Wa.mk (ps.map fun q=>q.p.a) co.a gr.a (sns.map Sn.a)) x.a n e).1 gr.a (sns.map Sn.a)) (n:=n) (x:=e) (p:=q.p.a) (by rw[aJ,hq];rfl)
 refine W<|Zr<|fc H dn Z fun w1 b6 H=>U<|W<|Zr<|G (Yp Z)<|G (aM Z)<|G (Zf mz Z)<|G (bW nI rowS hx 5 Z (H.ent (i:=3) Z) hl5)<|G (Yi Z)<|G (cL dY Z Z (by first|omega|(simp only[ae];omega)))<|G (py dJ rowl he Z Z (H.ent (i:=5) Z))<|fc H gz Z fun w2 b7 H=>bI H 0 (#[J (e.epoch),J (e.pid),J (e.ver),J (e.seq),J (e.kind),.bool (e.txn),.string (e.text)]) eX Z Z Z Z Z N N fun w3 H=>U<|W<|W<|Zr<|G (Zf jk Z)<|G (Zd eP H 0 Z Z Z)<|U ?_
 refine gp (τ:=Co×Nat×Nat×List cf) [8,9,22,23,24,25,26,27,28,29,30,31,32,33,34,35,36,37,38,39,40,41,42,43,44,45,46] (fun _=>[]) (fun(c2,l2,h2,F2) w'=>c2.a=(lv (Wa.mk (ps.map fun q=>q.p.a) co.a gr.a (sns.map Sn.a)) x.a n e).1/\(lv (Wa.mk (ps.map fun q=>q.p.a) co.a gr.a (sns.map Sn.a)) x.a n e).2=0/\y3 w0 l2 h2 c2∈F2/\(∀ f∈F,f∈F2)/\Hp w0 w' ((b7,.cells #[J (e.epoch),J (e.pid),J (e.ver),J (e.seq),J (e.kind),.bool (e.txn),.string (e.text)] dy (0,0))::(b6,.cells #[J (0),J (0),.slice none 0 0] gR (0,0))::(bb,.cells #[.slice (Qd gP) ps.length pC,J (c2.clock),J (c2.next),J (c2.wait),.slice c2.A c2.txs.length c2.cap,J (gr.clock),J (gr.wait),J (gr.gen),.slice gr.mA gr.ms.length gr.mC,.slice gr.oA gr.os.length gr.oC,.slice (Qd gS) sns.length snC] cB (0,0))::(gP,.cells uP bY (0,0))::(gS,.cells uS fK (0,0))::(gq,.cells uq cM (0,0))::(gl,.cells ul dy (0,0))::R) F2) ?_ ?_
 refine qL Z (fun hc21=> ?_) (fun hc21=> ?_)
 refine W ?_
 refine gp (τ:=Co×Nat×Nat×Nat) [8,9,22,23,24,25,26,27,28,29,30,31,32,33,34,35,36,37] (fun(_,b8,_,_)=>[(8,.pointer (Qd b8)),(9,J (lw co.a x.name e.ver n).2)]) (fun(c3,b8,lo,hi) w'=>c3.a=(lw co.a x.name e.ver n).1/\Hp w0 w' ((b8,.cells #[J (c3.clock),J (c3.next),J (c3.wait),.slice c3.A c3.txs.length c3.cap] aX (0,0))::(b7,.cells #[J (e.epoch),J (e.pid),J (e.ver),J (e.seq),J (e.kind),.bool (e.txn),.string (e.text)] dy (0,0))::(b6,.cells #[J (0),J (0),.slice none 0 0] gR (0,0))::(bb,.cells #[.slice (Qd gP) ps.length pC,J (co.clock),J (co.next),J (co.wait),.slice co.A co.txs.length co.cap,J (gr.clock),J (gr.wait),J (gr.gen),.slice gr.mA gr.ms.length gr.mC,.slice gr.oA gr.os.length gr.oC,.slice (Qd gS) sns.length snC] cB (0,0))::(gP,.cells uP bY (0,0))::(gS,.cells uS fK (0,0))::(gq,.cells uq cM (0,0))::(gl,.cells ul dy (0,0))::R) (y3 w0 lo hi c3::F)) ?_ ?_
 refine oX cv 16 12 [12,13,14,15,17,18] [16] [0,1,2,3,5,6,7,9,11] [16,17,18] [12] [0,1,2,3,5,6,7,9,11,13,14,15] (sp [(16,Sp.blk w3.heap.size (.agg #[J 0,J 0,J 0,.slice none 0 0]) aX)]) (sp [(12,Sp.deep w3.heap.size PR (fun c:Co=>c.c.toArray) (fun cs=> .tuple #[.agg cs,J (lw co.a x.name e.ver n).2]) (fun cq:Co=>cq.a=(lw co.a x.name e.ver n).1))]) N N N N (cG _) (cG _) ?_ ?_
 refine jS [0,1,2,3,4,5,6,7,8,9,10,11,16] [12,13,14,15,17,18] [16] [0,1,2,3,5,6,7,9,11] 5 (sp [(16,Sp.blk w3.heap.size (.agg #[J 0,J 0,J 0,.slice none 0 0]) aX)]) N N N Nq<|aw Z Z Z Z Z (fun w' hw'=>Yp Z)<|aw Z Z Z Z Z (fun w' hw'=>aM Z)<|aw Z Z Z Z Z (fun w' hw'=>Zf aU Z)<|aw Z Z Z Z Z (fun w' hw'=>Zf eN Z)<|aw Z Z Z Z Z (fun w' hw'=>jW 1 [J (co.clock),J (co.next),J (co.wait),.slice co.A co.txs.length co.cap] az Z Z ((H.later hw').ent (i:=2) Z) Z)<|aw Z Z Z Z Z (fun w' hw'=>Yp Z)<|aw Z Z Z Z Z (fun w' hw'=>aM Z)<|aw Z Z Z Z Z (fun w' hw'=>Zf oS Z)<|aw Z Z Z Z Z (fun w' hw'=>bW aY rowS hx 0 Z ((H.later hw').ent (i:=4) Z) Z)<|aw Z Z Z Z Z (fun w' hw'=>Zf eO Z)<|aw Z Z Z Z Z (fun w' hw'=>bd al Z (aK ((H.later hw').ent (i:=0) Z) Z))<|aw Z Z Z Z Z (fun w' hw'=>Yi Z)<|y1 cH Z Z Z Z Z (fun w' hw'=>hw'.size) fun b8=>aT ?_
 intro w4 hw' hF
 obtain⟨hF,bq,eq,hge8,hbl8⟩:=hF;cases eq
 replace H:=H.adoptNew hw' hbl8 hge8
 clear hw' hF
 refine db 12 N Z<|cE yX (Iy co x.name e.ver n k _ (Hp.coM H hco) hcb hnm I I) Z Z ?_
 rintro _ w5 ⟨c3,rfl,hac3,hnc3⟩;replace H:=H.learn hnc3.2 (y3 w0 w4.heap.size w5.heap.size c3) ⟨H.size,hnc3.1⟩ (ap _) (ap _);clear hnc3
 refine U<|bw 13 N N N Z Z Z Z Nq (fun _=>Yu Z)<|bw 14 N N N Z Z Z Z Nq (fun _=>Xa Z Z)<|bw 15 N N N Z Z Z Z Nq (fun _=>Xi Z Z)<|db 17 N Z<|bI H 0 (#[J (c3.clock),J (c3.next),J (c3.wait),.slice c3.A c3.txs.length c3.cap]) aH Z Z Z Z Z N N fun w6 H=>U<|bw 18 N N N Z Z Z Z Nq (fun _=>Wi Z)<|cz N ?_
 exact⟨(c3,b8,_,_),⟨hac3,H⟩,jT Z Z,Qg⟩
 refine jS [0,1,2,3,4,5,6,7,8,9,10,11,12,13,14,15] [16,17,18] [12] [0,1,2,3,5,6,7,9,11,13,14,15] 2 (sp [(12,Sp.deep w3.heap.size PR (fun c:Co=>c.c.toArray) (fun cs=> .tuple #[.agg cs,J (lw co.a x.name e.ver n).2]) (fun cq:Co=>cq.a=(lw co.a x.name e.ver n).1))]) N N N Nq<|aw Z Z Z Z Z (fun w' hw'=>Yp Z)<|aw Z Z Z Z Z (fun w' hw'=>aM Z)<|aw Z Z Z Z Z (fun w' hw'=>Zf aU Z)<|aw Z Z Z Z Z (fun w' hw'=>Zf eN Z)<|aw Z Z Z Z Z (fun w' hw'=>jW 1 [J (co.clock),J (co.next),J (co.wait),.slice co.A co.txs.length co.cap] az Z Z ((H.later hw').ent (i:=2) Z) Z)<|aw Z Z Z Z Z (fun w' hw'=>Yp Z)<|aw Z Z Z Z Z (fun w' hw'=>aM Z)<|aw Z Z Z Z Z (fun w' hw'=>Zf oS Z)<|aw Z Z Z Z Z (fun w' hw'=>bW aY rowS hx 0 Z ((H.later hw').ent (i:=4) Z) Z)<|aw Z Z Z Z Z (fun w' hw'=>Zf eO Z)<|aw Z Z Z Z Z (fun w' hw'=>bd al Z (aK ((H.later hw').ent (i:=0) Z) Z))<|aw Z Z Z Z Z (fun w' hw'=>Yi Z)<|ud (gv:=(fun cs=> .tuple #[.agg cs,J (lw co.a x.name e.ver n).2])) yX Z Z Z Z Z (fun w' hw'=>hw'.size) (fun w' hw'=>Iy co x.name e.ver n k w' (Hp.coM (H.later hw') hco) hcb hnm I I) Z fun cs35=>aw Z Z Z Z Z (fun w' hw'=>Yu Z)<|aw Z Z Z Z Z (fun w' hw'=>Xa Z Z)<|aw Z Z Z Z Z (fun w' hw'=>Xi Z Z)<|aT ?_
 intro w7 hw' hF
 obtain⟨hF,c3,eq,hac3,hrd35⟩:=hF;cases eq
 replace H:=H.learn hw' (y3 w0 w3.heap.size w7.heap.size c3) ⟨H.size,hrd35⟩ (ap _) (ap _)
 clear hw' hF
 refine db 16 N Z<|fc H cH Z fun w8 b8 H=>U<|db 17 N Z<|bI H 0 (#[J (c3.clock),J (c3.next),J (c3.wait),.slice c3.A c3.txs.length c3.cap]) aH Z Z Z Z Z N N fun w9 H=>U<|bw 18 N N N Z Z Z Z Nq (fun _=>Wi Z)<|cz N ?_
 exact⟨(c3,b8,_,_),⟨hac3,H⟩,jT Z Z,Qg⟩
 rintro⟨c3,b8,lo,hi⟩ ρ1 w10 ⟨hac3,H⟩
 show CW _ _ _ _ (dO (ij _ _ ρ1) [(8,.pointer (Qd b8)),(9,J (lw co.a x.name e.ver n).2)]) w10
 refine W<|W<|Zr<|G (Yi Z) ?_
 refine sU (jv Z Z) Z Z Z (fun h39=> ?_) (fun h39=> ?_)
 have hadd: ¬ (lv (Wa.mk (ps.map fun q=>q.p.a) co.a gr.a (sns.map Sn.a)) x.a n e).2=0:=by unfold lv;rw[if_pos hc21];exact h39
 have hadd2:(lv (Wa.mk (ps.map fun q=>q.p.a) co.a gr.a (sns.map Sn.a)) x.a n e).2=(lw co.a x.name e.ver n).2:=by unfold lv;rw[if_pos hc21];rfl
 refine U<|ZT Z<|W<|Zr<|G (Yi Z)<|cE bO (dU (lw co.a x.name e.ver n).2 _) Z Z ?_
 rintro _ w11 ⟨rfl,hb⟩;replace H:=H.later hb;clear hb
 refine bI H 2 (#[J ((lw co.a x.name e.ver n).2),J (0),.slice none 0 0]) bA Z Z Z Z Z N N fun w12 H=>U<|Zt ?_
 exact gB (cs0:= #[J ((lw co.a x.name e.ver n).2),J (0),.slice none 0 0]) Z bx Z (H.ent (i:=2) Z) Z ⟨ps,uP,co,clo,chi,y3 w0 lo hi c3::F,by rw[if_neg hadd,hadd2];exact pq.plain _ _ _,by rw[if_neg hadd];rfl,row,rfl,aj _ hco,fun q hq=>aj _ (hps q hq),fun f hf=>aj _ hf,H.forget (ci [(b8,_),(b7,_),(b6,_)] _) (fun _ h=>h)⟩
 refine U<|ZF Z<|Zk<|Zr<|G (Yp Z)<|G (Zw az H 0 Z Z Z)<|G (aM Z)<|G (Zf aU Z)<|G (Zf eN Z)<|bI H 3 (#[.slice (Qd gP) ps.length pC,J (c3.clock),J (c3.next),J (c3.wait),.slice c3.A c3.txs.length c3.cap,J (gr.clock),J (gr.wait),J (gr.gen),.slice gr.mA gr.ms.length gr.mC,.slice gr.oA gr.os.length gr.oC,.slice (Qd gS) sns.length snC]) aH Z Z Z Z Z N N fun w13 H=>U ?_
 exact⟨(c3,_,_,_),⟨by rw[hac3];unfold lv;rw[if_pos hc21];rfl,by unfold lv;rw[if_pos hc21];exact(by simpa using h39:(lw co.a x.name e.ver n).2=0),aA ..,fun f hf=>aj _ hf,H.forget (.cons _ (au _)) (fun _ h=>h)⟩,FB,Qg⟩
 refine Zk ?_
 exact⟨(co,clo,chi,F),⟨by unfold lv;rw[if_neg (by rw[hc21];decide)],by unfold lv;rw[if_neg (by rw[hc21];decide)],hco,fun _ h=>h,H⟩,FB,Qg⟩
 rintro⟨c2,l2,h2,F2⟩ ρ1 w14 ⟨hc2,hok2,hco2,hF2,H⟩
 show CW _ _ _ _ (dO (ij _ _ ρ1) []) w14
 refine W ?_
 refine gp (τ:=Pa×Nat×Nat×Nat) [10,11,12,47,48,49,50,51,52,53,54,55,56,57,58,59,60] (fun(_,b10,_,_)=>[(10,.pointer (Qd b10)),(11,J (eF q.p.a e).2.1),(12,J (eF q.p.a e).2.2)]) (fun(p2,b10,lo,hi) w'=>p2.a=(eF q.p.a e).1/\Hp w0 w' ((b10,.cells #[J (p2.epoch),J (p2.leader),.slice p2.iA p2.isr.length p2.iC,.slice p2.kA p2.known.length p2.kC,.slice p2.rA p2.reps.length p2.rC,J (p2.few),J (p2.base)] bY (0,0))::(b7,.cells #[J (e.epoch),J (e.pid),J (e.ver),J (e.seq),J (e.kind),.bool (e.txn),.string (e.text)] dy (0,0))::(b6,.cells #[J (0),J (0),.slice none 0 0] gR (0,0))::(bb,.cells #[.slice (Qd gP) ps.length pC,J (c2.clock),J (c2.next),J (c2.wait),.slice c2.A c2.txs.length c2.cap,J (gr.clock),J (gr.wait),J (gr.gen),.slice gr.mA gr.ms.length gr.mC,.slice gr.oA gr.os.length gr.oC,.slice (Qd gS) sns.length snC] cB (0,0))::(gP,.cells uP bY (0,0))::(gS,.cells uS fK (0,0))::(gq,.cells uq cM (0,0))::(gl,.cells ul dy (0,0))::R) (xX w0 lo hi p2::F2)) ?_ ?_
 refine oX cv 14 9 [9,10,11,12,13,15,16,17] [14] [0,1,2,3,5,6] [14,15,16,17] [9] [0,1,2,3,5,6,10,11,12,13] (sp [(14,Sp.blk w14.heap.size (.agg #[J 0,J 0,.slice none 0 0,.slice none 0 0,.slice none 0 0,J 0,J 0]) bY)]) (sp [(9,Sp.deep w14.heap.size Tr (fun p:Pa=>p.c.toArray) (fun cs=> .tuple #[.agg cs,J (eF q.p.a e).2.1,J (eF q.p.a e).2.2]) (fun cq:Pa=>cq.a=(eF q.p.a e).1))]) N N N N (cG _) (cG _) ?_ ?_
 refine jS [0,1,2,3,4,5,6,7,8,14] [9,10,11,12,13,15,16,17] [14] [0,1,2,3,5,6] 7 (sp [(14,Sp.blk w14.heap.size (.agg #[J 0,J 0,.slice none 0 0,.slice none 0 0,.slice none 0 0,J 0,J 0]) bY)]) N N N Nq<|aw Z Z Z Z Z (fun w' hw'=>Yp Z)<|aw Z Z Z Z Z (fun w' hw'=>aM Z)<|aw Z Z Z Z Z (fun w' hw'=>Zf aU Z)<|aw Z Z Z Z Z (fun w' hw'=>Zf dF Z)<|aw Z Z Z Z Z (fun w' hw'=>bd er Z (aK ((H.later hw').ent (i:=2) Z) Z))<|aw Z Z Z Z Z (fun w' hw'=>Yi Z)<|aw Z Z Z Z Z (fun w' hw'=>cL ia Z Z (by first|omega|(simp only[ae];omega)))<|aw Z Z Z Z Z (fun w' hw'=>py bo row hq Z Z ((H.later hw').ent (i:=3) Z))<|aw Z Z Z Z Z (fun w' hw'=>kh dJ Z ((H.later hw').ent (i:=0) Z) Z)<|y1 bT Z Z Z Z Z (fun w' hw'=>hw'.size) fun b10=>aT ?_
 intro w15 hw' hF
 obtain⟨hF,bq,eq,hge10,hbl10⟩:=hF;cases eq
 replace H:=H.adoptNew hw' hbl10 hge10
 clear hw' hF
 refine db 9 N Z<|cE rM (Bt q.p e _ (Hp.paM H (hF2 _ (hps q hqm))) (hpk q hqm).1 (hpk q hqm).2) Z Z ?_
 rintro _ w16 ⟨p2,rfl,hap2,hnp2⟩;replace H:=H.learn hnp2.2 (xX w0 w15.heap.size w16.heap.size p2) ⟨H.size,hnp2.1⟩ (ap _) (ap _);clear hnp2
 refine U<|bw 10 N N N Z Z Z Z Nq (fun _=>Yu Z)<|bw 11 N N N Z Z Z Z Nq (fun _=>Xa Z Z)<|bw 12 N N N Z Z Z Z Nq (fun _=>Xi Z Z)<|bw 13 N N N Z Z Z Z Nq (fun _=>Xi Z Z)<|db 15 N Z<|bI H 0 (#[J (p2.epoch),J (p2.leader),.slice p2.iA p2.isr.length p2.iC,.slice p2.kA p2.known.length p2.kC,.slice p2.rA p2.reps.length p2.rC,J (p2.few),J (p2.base)]) bk Z Z Z Z Z N N fun w17 H=>U<|bw 16 N N N Z Z Z Z Nq (fun _=>Wi Z)<|bw 17 N N N Z Z Z Z Nq (fun _=>Wi Z)<|cz N ?_
 exact⟨(p2,b10,_,_),⟨hap2,H⟩,SU Z Z Z,Qg⟩
 refine jS [0,1,2,3,4,5,6,7,8,9,10,11,12,13] [14,15,16,17] [9] [0,1,2,3,5,6,10,11,12,13] 3 (sp [(9,Sp.deep w14.heap.size Tr (fun p:Pa=>p.c.toArray) (fun cs=> .tuple #[.agg cs,J (eF q.p.a e).2.1,J (eF q.p.a e).2.2]) (fun cq:Pa=>cq.a=(eF q.p.a e).1))]) N N N Nq<|aw Z Z Z Z Z (fun w' hw'=>Yp Z)<|aw Z Z Z Z Z (fun w' hw'=>aM Z)<|aw Z Z Z Z Z (fun w' hw'=>Zf aU Z)<|aw Z Z Z Z Z (fun w' hw'=>Zf dF Z)<|aw Z Z Z Z Z (fun w' hw'=>bd er Z (aK ((H.later hw').ent (i:=2) Z) Z))<|aw Z Z Z Z Z (fun w' hw'=>Yi Z)<|aw Z Z Z Z Z (fun w' hw'=>cL ia Z Z (by first|omega|(simp only[ae];omega)))<|aw Z Z Z Z Z (fun w' hw'=>py bo row hq Z Z ((H.later hw').ent (i:=3) Z))<|aw Z Z Z Z Z (fun w' hw'=>kh dJ Z ((H.later hw').ent (i:=0) Z) Z)<|ud (gv:=(fun cs=> .tuple #[.agg cs,J (eF q.p.a e).2.1,J (eF q.p.a e).2.2])) rM Z Z Z Z Z (fun w' hw'=>hw'.size) (fun w' hw'=>Bt q.p e w' (Hp.paM (H.later hw') (hF2 _ (hps q hqm))) (hpk q hqm).1 (hpk q hqm).2) Z fun cs57=>aw Z Z Z Z Z (fun w' hw'=>Yu Z)<|aw Z Z Z Z Z (fun w' hw'=>Xa Z Z)<|aw Z Z Z Z Z (fun w' hw'=>Xi Z Z)<|aw Z Z Z Z Z (fun w' hw'=>Xi Z Z)<|aT ?_
 intro w18 hw' hF
 obtain⟨hF,p2,eq,hap2,hrd57⟩:=hF;cases eq
 replace H:=H.learn hw' (xX w0 w14.heap.size w18.heap.size p2) ⟨H.size,hrd57⟩ (ap _) (ap _)
 clear hw' hF
 refine db 14 N Z<|fc H bT Z fun w19 b10 H=>U<|db 15 N Z<|bI H 0 (#[J (p2.epoch),J (p2.leader),.slice p2.iA p2.isr.length p2.iC,.slice p2.kA p2.known.length p2.kC,.slice p2.rA p2.reps.length p2.rC,J (p2.few),J (p2.base)]) bk Z Z Z Z Z N N fun w20 H=>U<|bw 16 N N N Z Z Z Z Nq (fun _=>Wi Z)<|bw 17 N N N Z Z Z Z Nq (fun _=>Wi Z)<|cz N ?_
 exact⟨(p2,b10,_,_),⟨hap2,H⟩,SU Z Z Z,Qg⟩
 rintro⟨p2,b10,lo,hi⟩ ρ1 w21 ⟨hap2,H⟩
 show CW _ _ _ _ (dO (ij _ _ ρ1) [(10,.pointer (Qd b10)),(11,J (eF q.p.a e).2.1),(12,J (eF q.p.a e).2.2)]) w21
 refine W<|W<|Zr<|G (Yi Z) ?_
 refine sU (jv Z Z) Z Z Z (fun h62=> ?_) (fun h62=> ?_)
 refine U<|ZT Z<|W<|Zr<|G (Yi Z)<|cE bO (dU (eF q.p.a e).2.2 _) Z Z ?_
 rintro _ w22 ⟨rfl,hb⟩;replace H:=H.later hb;clear hb
 refine bI H 2 (#[J ((eF q.p.a e).2.2),J (0),.slice none 0 0]) bA Z Z Z Z Z N N fun w23 H=>U<|Zt ?_
 exact gB (cs0:= #[J ((eF q.p.a e).2.2),J (0),.slice none 0 0]) Z bx Z (H.ent (i:=2) Z) Z ⟨ps,uP,c2,l2,h2,xX w0 lo hi p2::F2,by rw[if_pos hok2,hP,if_neg h62];exact pq.plain _ _ _,by rw[if_pos hok2,hP,if_neg h62,<-hc2];rfl,row,rfl,aj _ hco2,fun q hq=>aj _ (hF2 _ (hps q hq)),fun f hf=>aj _ (hF2 f hf),H.forget (ci [(b10,_),(b7,_),(b6,_)] _) (fun _ h=>h)⟩
 refine U<|ZF Z<|Zk<|W ?_
 refine bG cv [0,1,2,3,4,5,6,7] [8] [] [0,1,2,3,5,7] (sp []) N N N N Nq (cG _) ?_
 refine aw Z Z Z Z Z (fun w' hw'=>Yp Z)<|aw Z Z Z Z Z (fun w' hw'=>aM Z)<|aw Z Z Z Z Z (fun w' hw'=>Zf aU Z)<|aw Z Z Z Z Z (fun w' hw'=>Zf dF Z)<|aw Z Z Z Z Z (fun w' hw'=>bd er Z (aK ((H.later hw').ent (i:=3) Z) Z))<|aw Z Z Z Z Z (fun w' hw'=>Yi Z)<|aw Z Z Z Z Z (fun w' hw'=>kh bo Z ((H.later hw').ent (i:=0) Z) Z)<|aw Z Z Z Z Z (fun w' hw'=>cL ia Z Z (by first|omega|(simp only[ae];omega)))<|aT ?_
 intro w24 hw' hF
 replace H:=H.later hw';clear hw' hF
 refine nt H 4 (⟨p2,lo,hi⟩) bk row hq 0 Z Z Z Z Z Z N fun w26 cur25 row25 H=> ?_
 have hs27:(ps.set n (⟨p2,lo,hi⟩))[n]? =some (⟨p2,lo,hi⟩):=ak (bZ hq).1
 refine U<|W<|Zr<|G (Yi Z)<|G (bp (cs:= #[J (0),J ((eF q.p.a e).2.1),.slice none 0 0]) iX dn N)<|bI H 2 (#[J (0),J ((eF q.p.a e).2.1),.slice none 0 0]) bA Z Z Z Z Z N N fun w28 H=>U<|Zt ?_
 have hz:(eF q.p.a e).2.2=0:=by simpa using h62
 have hz2:=hz
 exact gB (cs0:= #[J (0),J ((eF q.p.a e).2.1),.slice none 0 0]) Z bx Z (H.ent (i:=2) Z) Z ⟨ps.set n ⟨p2,lo,hi⟩,_,c2,l2,h2,xX w0 lo hi p2::F2,by rw[if_pos hok2,hP,if_pos hz];exact pq.plain _ _ _,by rw[if_pos hok2,hP,if_pos hz,<-hc2];simp only[cO,hap2],row25,ae ..,aj _ hco2,fun y hy=>by rcases Cg hy with hy|hy;exact aj _ (hF2 _ (hps y hy));rw[hy];exact aA ..,fun f hf=>aj _ (hF2 f hf),by rw[ae];exact H.forget (ci [(b10,_),(b7,_),(b6,_)] _) (fun _ h=>h)⟩
/-- an answer without texts -/
def Tk (x:An) (v:Value):Prop:=x.texts=[]/\v=.agg #[J x.code,J x.n,.slice none 0 0]
theorem Tk.r {x:An} {v:Value} (h:Tk x v) (w:World):pq x v w:=by
 obtain⟨c,n,t⟩:=x
 obtain⟨h1,rfl⟩:=h
 dsimp only at h1
 subst h1
 exact pq.plain c n w
theorem IM (a:Act) (x:An) (w:World):di aa wX [a.v,.agg #[J x.code,J x.n,.slice none 0 0]] w fun v w2=>v=.agg #[J (fR a x).code,J (fR a x).n,.slice none 0 0]/\Below w.heap.size w w2:=
 (Ft a x.code x.n none 0 0 w).mono fun v w2 ⟨h1,h2⟩=>⟨by rw[h1];unfold fR;split<;>rfl,h2⟩
theorem lX (a:Act) {x:An} (hx:x.texts=[]):(fR a x).texts=[]:=by
 unfold fR
 split
 exact hx
 rfl
theorem B4 (w:Wa) (n:Nat) (x:cd):(ib w n x).2.texts=[]:=by
 unfold ib
 split
 rfl
 split<;>rfl
theorem kM (w:Wa) (s:Sn) (n:Nat):(dw w s n).2.texts=[]:=by
 unfold dw
 split
 rfl
 split
 exact B4 ..
 rfl
theorem pq.p {x:An} {v:Value} {w:World} (h:pq x v w) (hx:x.texts=[]): ∃ A c,v=.agg #[J x.code,J x.n,.slice A 0 c]:=by
 obtain⟨A,c,h1,-,-⟩:=h
 rw[hx]at h1
 exact⟨A,c,h1⟩
theorem BZ {b:Bk} {a:Act} {ag:Bool} (hix:dT b.sns a.name=none):gw b.a a ag=(b.a,⟨5,0,[]⟩):=by
 unfold gw
 rw[show b.a.sns=b.sns.map Sn.a from rfl,Fz hix]
 rfl
theorem B0 {b:Bk} {a:Act} {i:Nat} {x:Sn} {e:cd} (hix:dT b.sns a.name=some i) (hx:b.sns[i]? =some x) (he:x.last[a.part.toNat]? =some e) (hk:e.kind=0):gw b.a a true=(b.a,⟨15,0,[]⟩):=by
 unfold gw
 rw[show b.a.sns=b.sns.map Sn.a from rfl,yi hix hx]
 dsimp only
 rw[if_pos ⟨rfl,by rw[cS,show x.a.last=x.last from rfl,he];exact hk⟩]
 rfl
theorem oy {b:Bk} {a:Act} {i:Nat} {x:Sn} {ag:Bool} (hix:dT b.sns a.name=some i) (hx:b.sns[i]? =some x) (hk:ag=true-> ∃ e,x.last[a.part.toNat]? =some e/\e.kind≠0) (s1:Sn) (hs:(if ag then x else dk x a.part.toNat a.text)=s1):gw b.a a ag=if a.lost=1 then({b.a with sns:=(b.sns.set i s1).map Sn.a},⟨14,0,[]⟩)else((dw {b.a with sns:=(b.sns.set i s1).map Sn.a} s1.a a.part.toNat).1,fR a (dw {b.a with sns:=(b.sns.set i s1).map Sn.a} s1.a a.part.toNat).2):=by
 subst hs
 unfold gw
 rw[show b.a.sns=b.sns.map Sn.a from rfl,yi hix hx]
 dsimp only
 rw[if_neg (fun h=>by
  obtain⟨e,he,hne⟩:=hk h.1
  have h2:=h.2
  rw[cS,show x.a.last=x.last from rfl,he]at h2
  exact hne h2)]
 have:(if ag=true then x.a else dk x.a a.part.toNat a.text)=(if ag=true then x else dk x a.part.toNat a.text).a:=by split<;>rfl
 rw[this,cO]
 rfl
theorem wc {x:Sn} {n:Nat} {q:Int} (h:x.seqs[n]? =some q) (t:ByteArray):dk x n t={x with last:=x.last.set n ⟨0,x.pid,x.ver,q,1,x.inn,t⟩,seqs:=x.seqs.set n (q+1)}:=by
 unfold dk
 rw[cS,h]
 rfl
theorem d8.same {α:Type} {Y:fu α} {es:List α} {c k:Nat} {cur:Array Value} {e e':α} (h:d8 Y es c cur) (hk:es[k]? =some e) (he:Y.f e'=Y.f e):d8 Y (es.set k e') c cur:=by
 refine⟨h.size,?_,by rw[ae];exact h.le,h.max⟩
 rw[ae,h.all]
 unfold fu.all
 have:(es.set k e').map Y.f=es.map Y.f:=by rw[cO,he];exact fg (by rw[aJ,hk];rfl)
 simp only[List.flatMap_def,this]
theorem Lh {w0 w:World} {bb:Nat} {b:Bk} {gP:Nat} {uP:Array Value} {Ls Lo K:List (Nat×Obj)} {F:List cf} (a:Act) (B:Bw w0 w bb b gP uP Ls Lo K F) (hsl:b.sns.length<=1000000) (ag:Bool) (hix:dT b.sns a.name=none):di aa i8 [.pointer (Qd bb),a.v,.bool ag] w fun v w2=> ∃ b':Bk,pq (gw b.a a ag).2 v w2/\b'.a=(gw b.a a ag).1/\y4 w0 w2 bb b' K F:=by
 refine aG ka Z Z ?_
 obtain⟨ps,pA,pC,co,clo,chi,gr,glo,ghi,sns,snA,snC⟩:=b
 obtain⟨hpA,row,hsn,hown,hco,hgr,hps,H⟩:=B
 dsimp only at hpA row hsn hown hco hgr hps
 subst hpA
 replace H:Hp w0 w ((bb,.cells #[.slice (Qd gP) ps.length pC,J (co.clock),J (co.next),J (co.wait),.slice co.A co.txs.length co.cap,J (gr.clock),J (gr.wait),J (gr.gen),.slice gr.mA gr.ms.length gr.mC,.slice gr.oA gr.os.length gr.oC,.slice snA sns.length snC] cB (0,0))::(gP,.cells uP bY (0,0))::(Ls++(Lo++K))) F:=H
 dsimp only at hix hsl
 show CW _ _ _ _ (args [.pointer (Qd bb),.agg #[J (a.kind),.string (a.name),J (a.part),J (a.n),J (a.m),.string (a.text),J (a.lost)],.bool ag]) w
 refine W<|Zr<|gU H Z Z fun w1 b4 H=>fc H dn Z fun w2 b6 H=>U<|W<|Zr<|G (Yp Z)<|G (Zf fq Z)<|G (Zd aY H 1 Z Z Z)<|cE dD (jK bb ⟨ps,some ⟨gP,0,none⟩,pC,co,clo,chi,gr,glo,ghi,sns,snA,snC⟩ (a.name) Ls _ (H.ent (i:=2) Z) hsn (fun q hq=>(H.ents q (by simp only[ay,ar];grind)).1) hsl) Z Z ?_
 rintro _ w3 ⟨rfl,hb⟩;replace H:=H.later hb;clear hb
 rw[hix]
 refine G (Wp Z)<|U<|W<|Zb<|W<|Zr<|G (Yp Z)<|G (zl i7 Z)<|G (Yb Z)<|ZN<|ZN<|ZN<|ZN<|ZN<|G (Kt Z Z)<|G (Wb Z)<|U<|ZT Z<|W<|Zr<|cE bO (dU 5 _) Z Z ?_
 rintro _ w4 ⟨rfl,hb⟩;replace H:=H.later hb;clear hb
 refine bI H 0 (#[J (5),J (0),.slice none 0 0]) bA Z Z Z Z Z N N fun w5 H=>U<|Zt ?_
 exact gB (cs0:= #[J (5),J (0),.slice none 0 0]) Z bx Z (H.ent (i:=0) Z) Z ⟨⟨ps,some ⟨gP,0,none⟩,pC,co,clo,chi,gr,glo,ghi,sns,snA,snC⟩,by rw[BZ hix];exact pq.plain _ _ _,by rw[BZ hix],Bw.shut (X:=[(b6,_),(b4,_)]) row hsn hown hco hgr hps (fun _ h=>h) H Z⟩
theorem Na {a:Act} {x:An} {A:Option Addr} {c:Nat} {v:Value} (h:v=if a.lost=0 then .agg #[J x.code,J x.n,.slice A 0 c]else .agg #[J 14,J 0,.slice none 0 0]): ∃ A2 c2,v=.agg #[J (fR a x).code,J (fR a x).n,.slice A2 0 c2]:=by
 unfold fR
 split at h
 rename_i h0;rw[if_pos h0];exact⟨_,_,h⟩
 rename_i h0;rw[if_neg h0];exact⟨_,_,h⟩
theorem pq.of {x:An} {A:Option Addr} {c:Nat} {w:World} (hx:x.texts=[]):pq x (.agg #[J x.code,J x.n,.slice A 0 c]) w:=⟨A,c,by rw[hx];rfl,by rw[hx];exact aV _,by rw[hx];exact Rd.nil⟩
theorem IX {w0 w:World} {bb:Nat} {b:Bk} {gP:Nat} {uP:Array Value} {Ls Lo K:List (Nat×Obj)} {F:List cf} (a:Act) (B:Bw w0 w bb b gP uP Ls Lo K F) (hsl:b.sns.length<=1000000) {k i:Nat} {x:Sn} (hix:dT b.sns a.name=some i) (hx:b.sns[i]? =some x) (hpn:0<=a.part/\a.part<b.ps.length) (hlo:0<=a.lost/\a.lost<=2) (hll:x.last.length=b.ps.length) (hsq:x.seqs.length=b.ps.length) (h4:b.ps.length<=4) (hnm:bC x.name=true) (hcb:pn k b.co) (hpk: ∀ q∈b.ps,q.p.a.ok/\ ∀ (l:Nat) (y:gh),q.p.leader=l->q.p.reps[l]? =some y->y.es.length<400):di aa i8 [.pointer (Qd bb),a.v,.bool true] w fun v w2=> ∃ b':Bk,pq (gw b.a a true).2 v w2/\b'.a=(gw b.a a true).1/\y4 w0 w2 bb b' K F:=by
 refine aG ka Z Z ?_
 obtain⟨ps,pA,pC,co,clo,chi,gr,glo,ghi,sns,snA,snC⟩:=b
 obtain⟨hpA,row,hsn,hown,hco,hgr,hps,H⟩:=B
 dsimp only at hpA row hsn hown hco hgr hps
 subst hpA
 dsimp only at hix hx
 obtain⟨gS,uS,hgS,hLs,rowS⟩:=hsn.row (by have:=(bZ hx).1;omega)
 subst hgS;subst hLs
 obtain⟨gq,uq,gl,ul,La,Lb,hsA,hlA,rowq,rowl,hLo,hset⟩:=hown.at_ hx
 subst hLo
 replace H:Hp w0 w ((bb,.cells #[.slice (Qd gP) ps.length pC,J (co.clock),J (co.next),J (co.wait),.slice co.A co.txs.length co.cap,J (gr.clock),J (gr.wait),J (gr.gen),.slice gr.mA gr.ms.length gr.mC,.slice gr.oA gr.os.length gr.oC,.slice (Qd gS) sns.length snC] cB (0,0))::(gP,.cells uP bY (0,0))::(gS,.cells uS fK (0,0))::(gq,.cells uq cM (0,0))::(gl,.cells ul dy (0,0))::(La++(Lb++K))) F:=H.perm (EW [(bb,_),(gP,_),(gS,_)] _ _ La Lb K)
 dsimp only at hsl hpn hll hsq h4 hcb hpk
 obtain⟨n,hna⟩: ∃ n:Nat,a.part=(n:Int):=⟨a.part.toNat,by omega⟩
 have htn:a.part.toNat=n:=by omega
 have hl5:(BR.f x)[5]? =some (.slice (some ⟨gl,0,none⟩) x.last.length x.lC):=by rw[<-hlA];rfl
 have hl4:(BR.f x)[4]? =some (.slice (some ⟨gq,0,none⟩) x.seqs.length x.sC):=by rw[<-hsA];rfl
 obtain⟨e,he⟩: ∃ e,x.last[n]? =some e:=⟨_,ai I⟩
 have rS2:d8 BR (sns.set i x) snC uS:=by rw[fg hx];exact rowS
 show CW _ _ _ _ (args [.pointer (Qd bb),.agg #[J (a.kind),.string (a.name),J (a.part),J (a.n),J (a.m),.string (a.text),J (a.lost)],.bool true]) w
 refine W<|Zr<|gU H Z Z fun w1 b4 H=>fc H dn Z fun w2 b6 H=>U<|W<|Zr<|G (Yp Z)<|G (Zf fq Z)<|G (Zd aY H 1 Z Z Z)<|cE dD (jK bb ⟨ps,some ⟨gP,0,none⟩,pC,co,clo,chi,gr,glo,ghi,sns,some ⟨gS,0,none⟩,snC⟩ (a.name) _ _ (H.ent (i:=2) Z) (d8.own rowS) (fun q hq=>by rw[aq.1 hq];exact(H.ent (i:=4) Z)) hsl) Z Z ?_
 rintro _ w3 ⟨rfl,hb⟩;replace H:=H.later hb;clear hb
 rw[hix]
 refine G (Wp Z)<|U<|W<|Zb<|W<|Zr<|G (Yp Z)<|G (xw i7 Z)<|G (Yb Z)<|ZG<|G (Yp Z)<|ZG<|G (Zf ez Z)<|ZG<|G (Zd al H 1 Z Z Z)<|ZG<|cE eg (oD bb ⟨ps,some ⟨gP,0,none⟩,pC,co,clo,chi,gr,glo,ghi,sns,some ⟨gS,0,none⟩,snC⟩ a.part _ (H.ent (i:=2) Z)) Z Z ?_
 rintro _ w4 ⟨rfl,hb⟩;replace H:=H.later hb;clear hb
 rw[decide_eq_true hpn]
 refine ZG<|G (d9 Z)<|G (N Z Z)<|G (Wb Z)<|U<|ZF Z<|W<|Zr<|G (Zf kL Z)<|G (Zd al H 1 Z Z Z)<|G (cV Z Z I)<|G (Yb Z)<|ZG<|G (Zf kL Z)<|ZG<|G (Zd al H 1 Z Z Z)<|ZG<|G (dX Z Z I)<|G (N Z Z)<|G (Wb Z)<|U<|ZF Z<|W ?_
 refine bG cv [0,1,2,3,4,5,6,7,8,9,10,11,12,13] [] [] [0,1,2,3,4,6,8,9,11,12,13] (sp []) N N N N Nq (cG _) ?_
 refine aw Z Z Z Z Z (fun w' hw'=>Yb Z)<|aw Z Z Z Z Z (fun w' hw'=>Yb Z)<|aw Z Z Z Z Z (fun w' hw'=>Yp Z)<|aw Z Z Z Z Z (fun w' hw'=>aM Z)<|aw Z Z Z Z Z (fun w' hw'=>Zf mz Z)<|aw Z Z Z Z Z (fun w' hw'=>bW nI rowS hx 5 Z ((H.later hw').ent (i:=4) Z) hl5)<|aw Z Z Z Z Z (fun w' hw'=>Zf ez Z)<|aw Z Z Z Z Z (fun w' hw'=>bd al Z (aK ((H.later hw').ent (i:=1) Z) Z))<|aw Z Z Z Z Z (fun w' hw'=>cL (k:=n) dY Z (congrArg (Value.int .i64) hna) (by first|omega|(simp only[ae];omega)))<|aw Z Z Z Z Z (fun w' hw'=>Zf fh Z)<|aw Z Z Z Z Z (fun w' hw'=>bW al rowl he 4 Z ((H.later hw').ent (i:=6) Z) Z) ?_
 refine Ef Z Z Z Z Z (fun w' hw'=>cr Z Z) (fun h45=> ?_) (fun h45=> ?_)
 ·
  refine aw Z Z Z Z Z (fun w' hw'=>Kt Z Z)<|aw Z Z Z Z Z (fun w' hw'=>Wb Z)<|aT ?_
  intro w5 hw' hF
  replace H:=H.later hw';clear hw' hF
  refine U<|ZT Z<|W<|Zr<|cE bO (dU 15 _) Z Z ?_
  rintro _ w6 ⟨rfl,hb⟩;replace H:=H.later hb;clear hb
  refine bI H 0 (#[J (15),J (0),.slice none 0 0]) bA Z Z Z Z Z N N fun w7 H=>U<|Zt ?_
  rw[<-htn]at he
  exact gB (cs0:= #[J (15),J (0),.slice none 0 0]) Z bx Z (H.ent (i:=0) Z) Z ⟨⟨ps,some ⟨gP,0,none⟩,pC,co,clo,chi,gr,glo,ghi,sns.set i x,some ⟨gS,0,none⟩,snC⟩,by rw[B0 hix hx he h45];exact pq.plain _ _ _,by rw[B0 hix hx he h45,fg hx],Bw.close (X:=[(b6,_),(b4,_)]) row (by rw[fg hx];exact rowS) hset hsA hlA rowq rowl hco hgr hps (fun _ h=>h) H (by rw[fg hx];rfl)⟩
 ·
  refine aw Z Z Z Z Z (fun w' hw'=>Kt Z Z)<|aw Z Z Z Z Z (fun w' hw'=>Wb Z)<|aT ?_
  intro w8 hw' hF
  replace H:=H.later hw';clear hw' hF
  refine U<|ZF Z<|W<|Zr<|G (Yb Z)<|G (d9 Z)<|G (Yb Z)<|ZN<|ZN<|ZN<|ZN<|G (N Z Z)<|G (Wb Z)<|U<|ZF Z<|Zk<|W<|W<|Zr<|G (Yb Z)<|G (d9 Z)<|U<|ZF Z<|Zk<|W<|W<|Zr<|G (Zf kL Z)<|G (Zd al H 1 Z Z Z) ?_
  refine dZ (cr Z Z) Z Z Z (fun h102=> ?_) (fun h102=> ?_)
  ·
   refine U<|ZT Z<|W<|Zr<|cE bO (dU 14 _) Z Z ?_
   rintro _ w9 ⟨rfl,hb⟩;replace H:=H.later hb;clear hb
   refine bI H 0 (#[J (14),J (0),.slice none 0 0]) bA Z Z Z Z Z N N fun w10 H=>U<|Zt ?_
   exact gB (cs0:= #[J (14),J (0),.slice none 0 0]) Z bx Z (H.ent (i:=0) Z) Z ⟨⟨ps,some ⟨gP,0,none⟩,pC,co,clo,chi,gr,glo,ghi,sns.set i x,some ⟨gS,0,none⟩,snC⟩,by rw[oy hix hx (fun _=>⟨e,by rw[htn];exact he,h45⟩) x Z,if_pos h102];exact pq.plain _ _ _,by rw[oy hix hx (fun _=>⟨e,by rw[htn];exact he,h45⟩) x Z,if_pos h102];rfl,Bw.close (X:=[(b6,_),(b4,_)]) row rS2 hset hsA hlA rowq rowl hco hgr hps (fun _ h=>h) H (by simp only[Bk.c,ae])⟩
  ·
   refine U<|ZF Z<|Zk<|W ?_
   refine wv cv (fun w'=>w'.heap[b4]? =some (.cells #[J (a.kind),.string (a.name),J (a.part),J (a.n),J (a.m),.string (a.text),J (a.lost)] iR (0,0))) ?_
   intro w11 hw';replace H:=H.later hw';clear hw'
   refine cJ 0 N N N Z Z Z Z Nq (H.ent (i:=1) Z) (fun _ hS=>kh jd Z hS Z)<|cJ 1 N N N Z Z Z Z Nq (H.ent (i:=1) Z) (fun _ hS=>Yp Z)<|cJ 2 N N N Z Z Z Z Nq (H.ent (i:=1) Z) (fun _ hS=>Yp Z)<|cJ 3 N N N Z Z Z Z Nq (H.ent (i:=1) Z) (fun _ hS=>Zf ez Z)<|cJ 4 N N N Z Z Z Z Nq (H.ent (i:=1) Z) (fun _ hS=>bd al Z (aK hS Z))<|MY 5 N Z ?_
   refine cE lN ((by have hA:=C5 (i:=i) (n:=n) (k:=k) (sns:=sns.set i x) (x:=x) (by simp only[ae];exact H.perm ((ah _ (ah _ (ah _ (ah _ (am _ _ _))))).trans ((ah _ (ah _ (ah _ (am _ _ _)))).trans ((ah _ (ah _ (am _ _ _))).trans ((ah _ (am _ _ _)).trans ((am _ _ _).trans ((ah _ (ah _ (ah _ (ah _ (ah _ (am _ _ _)))))).trans ((ah _ (ah _ (ah _ (ah _ (am _ _ _))))).trans ((ah _ (ah _ (ah _ (am _ _ _)))).trans ((ah _ (ah _ (am _ _ _))).trans (ah _ (am _ _ _)))))))))))) row rS2 rowl (ak (bZ hx).1) hlA hco hps I I I hnm hcb hpk;rw[<-hna]at hA;exact hA)) Z Z ?_
   rintro _ w12 ⟨ps',uP',co',clo',chi',F',hAn,hW,row',hlen',hco',hps',hF',H⟩
   replace H:=H.perm ((ah _ (am _ _ _)).trans ((am _ _ _).trans ((ah _ (ah _ (am _ _ _))).trans ((ah _ (am _ _ _)).trans ((ah _ (ah _ (ah _ (am _ _ _)))).trans ((ah _ (ah _ (am _ _ _))).trans ((ah _ (ah _ (ah _ (ah _ (am _ _ _))))).trans ((ah _ (ah _ (ah _ (am _ _ _)))).trans ((ah _ (ah _ (ah _ (ah _ (ah _ (am _ _ _)))))).trans (ah _ (ah _ (ah _ (ah _ (am _ _ _))))))))))))))
   obtain⟨A1,c1,rfl⟩:=hAn.p (kM ..)
   refine U ?_
   refine⟨(H.ent (i:=1) Z),?_⟩
   refine MY 6 N Z<|cE kP (Ft a (dw (Wa.mk (ps.map fun q=>q.p.a) co.a gr.a ((sns.set i x).map Sn.a)) x.a n).2.code (dw (Wa.mk (ps.map fun q=>q.p.a) co.a gr.a ((sns.set i x).map Sn.a)) x.a n).2.n A1 0 c1 _) Z Z ?_
   rintro _ w13 ⟨ht,hb⟩;replace H:=H.later hb;clear hb
   obtain⟨A2,c2,rfl⟩:=Na ht
   refine U ?_
   refine⟨(H.ent (i:=1) Z),?_⟩
   refine MY 7 N Z<|bI H 0 (#[J ((fR a (dw (Wa.mk (ps.map fun q=>q.p.a) co.a gr.a ((sns.set i x).map Sn.a)) x.a n).2).code),J ((fR a (dw (Wa.mk (ps.map fun q=>q.p.a) co.a gr.a ((sns.set i x).map Sn.a)) x.a n).2).n),.slice A2 0 c2]) bA Z Z Z Z Z N N fun w14 H=>U ?_
   refine⟨(H.ent (i:=1) Z),?_⟩
   refine y9 N<|Zt ?_
   exact gB (cs0:= #[J ((fR a (dw (Wa.mk (ps.map fun q=>q.p.a) co.a gr.a ((sns.set i x).map Sn.a)) x.a n).2).code),J ((fR a (dw (Wa.mk (ps.map fun q=>q.p.a) co.a gr.a ((sns.set i x).map Sn.a)) x.a n).2).n),.slice A2 0 c2]) Z bx Z (H.ent (i:=0) Z) Z ⟨⟨ps',some ⟨gP,0,none⟩,pC,co',clo',chi',gr,glo,ghi,sns.set i x,some ⟨gS,0,none⟩,snC⟩,by rw[oy hix hx (fun _=>⟨e,by rw[htn];exact he,h45⟩) x Z,if_neg h102,htn];exact pq.of (lX _ (kM ..)),by rw[oy hix hx (fun _=>⟨e,by rw[htn];exact he,h45⟩) x Z,if_neg h102,htn];exact hW.symm,Bw.close (X:=[(b6,_),(b4,_)]) row' rS2 hset hsA hlA rowq rowl hco' (hF' _ hgr) hps' hF' H (by simp only[Bk.c,ae])⟩
theorem NC {w0 w:World} {bb:Nat} {b:Bk} {gP:Nat} {uP:Array Value} {Ls Lo K:List (Nat×Obj)} {F:List cf} (a:Act) (B:Bw w0 w bb b gP uP Ls Lo K F) (hsl:b.sns.length<=1000000) {k i:Nat} {x:Sn} (hix:dT b.sns a.name=some i) (hx:b.sns[i]? =some x) (hpn:0<=a.part/\a.part<b.ps.length) (hlo:0<=a.lost/\a.lost<=2) (hll:x.last.length=b.ps.length) (hsq:x.seqs.length=b.ps.length) (h4:b.ps.length<=4) (hnm:bC x.name=true) (hcb:pn k b.co) (hpk: ∀ q∈b.ps,q.p.a.ok/\ ∀ (l:Nat) (y:gh),q.p.leader=l->q.p.reps[l]? =some y->y.es.length<400) (htx:a.text.size<=40) (hsb: ∀ q∈x.seqs,0<=q/\q<=400):di aa i8 [.pointer (Qd bb),a.v,.bool false] w fun v w2=> ∃ b':Bk,pq (gw b.a a false).2 v w2/\b'.a=(gw b.a a false).1/\y4 w0 w2 bb b' K F:=by
 refine aG ka Z Z ?_
 obtain⟨ps,pA,pC,co,clo,chi,gr,glo,ghi,sns,snA,snC⟩:=b
 obtain⟨hpA,row,hsn,hown,hco,hgr,hps,H⟩:=B
 dsimp only at hpA row hsn hown hco hgr hps
 subst hpA
 dsimp only at hix hx
 obtain⟨gS,uS,hgS,hLs,rowS⟩:=hsn.row (by have:=(bZ hx).1;omega)
 subst hgS;subst hLs
 obtain⟨gq,uq,gl,ul,La,Lb,hsA,hlA,rowq,rowl,hLo,hset⟩:=hown.at_ hx
 subst hLo
 replace H:Hp w0 w ((bb,.cells #[.slice (Qd gP) ps.length pC,J (co.clock),J (co.next),J (co.wait),.slice co.A co.txs.length co.cap,J (gr.clock),J (gr.wait),J (gr.gen),.slice gr.mA gr.ms.length gr.mC,.slice gr.oA gr.os.length gr.oC,.slice (Qd gS) sns.length snC] cB (0,0))::(gP,.cells uP bY (0,0))::(gS,.cells uS fK (0,0))::(gq,.cells uq cM (0,0))::(gl,.cells ul dy (0,0))::(La++(Lb++K))) F:=H.perm (EW [(bb,_),(gP,_),(gS,_)] _ _ La Lb K)
 dsimp only at hsl hpn hll hsq h4 hcb hpk
 obtain⟨n,hna⟩: ∃ n:Nat,a.part=(n:Int):=⟨a.part.toNat,by omega⟩
 have htn:a.part.toNat=n:=by omega
 have hl5:(BR.f x)[5]? =some (.slice (some ⟨gl,0,none⟩) x.last.length x.lC):=by rw[<-hlA];rfl
 have hl4:(BR.f x)[4]? =some (.slice (some ⟨gq,0,none⟩) x.seqs.length x.sC):=by rw[<-hsA];rfl
 obtain⟨e,he⟩: ∃ e,x.last[n]? =some e:=⟨_,ai I⟩
 obtain⟨q,hq0⟩: ∃ q,x.seqs[n]? =some q:=⟨_,ai I⟩
 have hqb:=hsb q (ab hq0)
 show CW _ _ _ _ (args [.pointer (Qd bb),.agg #[J (a.kind),.string (a.name),J (a.part),J (a.n),J (a.m),.string (a.text),J (a.lost)],.bool false]) w
 refine W<|Zr<|gU H Z Z fun w1 b4 H=>fc H dn Z fun w2 b6 H=>U<|W<|Zr<|G (Yp Z)<|G (Zf fq Z)<|G (Zd aY H 1 Z Z Z)<|cE dD (jK bb ⟨ps,some ⟨gP,0,none⟩,pC,co,clo,chi,gr,glo,ghi,sns,some ⟨gS,0,none⟩,snC⟩ (a.name) _ _ (H.ent (i:=2) Z) (d8.own rowS) (fun q hq=>by rw[aq.1 hq];exact(H.ent (i:=4) Z)) hsl) Z Z ?_
 rintro _ w3 ⟨rfl,hb⟩;replace H:=H.later hb;clear hb
 rw[hix]
 refine G (Wp Z)<|U<|W<|Zb<|W<|Zr<|G (Yp Z)<|G (xw i7 Z)<|G (Yb Z)<|ZG<|G (Yp Z)<|ZG<|G (Zf ez Z)<|ZG<|G (Zd al H 1 Z Z Z)<|ZG<|cE eg (oD bb ⟨ps,some ⟨gP,0,none⟩,pC,co,clo,chi,gr,glo,ghi,sns,some ⟨gS,0,none⟩,snC⟩ a.part _ (H.ent (i:=2) Z)) Z Z ?_
 rintro _ w4 ⟨rfl,hb⟩;replace H:=H.later hb;clear hb
 rw[decide_eq_true hpn]
 refine ZG<|G (d9 Z)<|G (N Z Z)<|G (Wb Z)<|U<|ZF Z<|W<|Zr<|G (Zf kL Z)<|G (Zd al H 1 Z Z Z)<|G (cV Z Z I)<|G (Yb Z)<|ZG<|G (Zf kL Z)<|ZG<|G (Zd al H 1 Z Z Z)<|ZG<|G (dX Z Z I)<|G (N Z Z)<|G (Wb Z)<|U<|ZF Z<|W ?_
 refine bG cv [0,1,2,3,4,5,6,7,8,9,10,11,12,13] [] [] [0,1,2,3,4,6,8,9,11,12,13] (sp []) N N N N Nq (cG _) ?_
 refine aw Z Z Z Z Z (fun w' hw'=>Yb Z)<|aw Z Z Z Z Z (fun w' hw'=>Yb Z)<|eW Z Z Z Z<|eW Z Z Z Z<|eW Z Z Z Z<|eW Z Z Z Z<|eW Z Z Z Z<|eW Z Z Z Z<|eW Z Z Z Z<|eW Z Z Z Z<|eW Z Z Z Z<|eW Z Z Z Z<|aw Z Z Z Z Z (fun w' hw'=>N Z Z)<|aw Z Z Z Z Z (fun w' hw'=>Wb Z)<|aT ?_
 intro w5 hw' hF
 replace H:=H.later hw';clear hw' hF
 refine U<|ZF Z<|W<|Zr<|G (Yb Z)<|G (d9 Z)<|G (Yb Z)<|ZG<|G (Zf C0 Z)<|ZG<|G (Zd aY H 1 Z Z Z)<|ZG<|G (FT jf Z)<|ZG<|G (dX Z Z I)<|G (Kt Z Z)<|G (Wb Z)<|U<|ZF Z<|Zk<|W<|W<|Zr<|G (Yb Z)<|G (d9 Z)<|U<|ZT Z<|W ?_
 refine bG cv [0,1,2,3,4,5,6,7,8,9,10,11,12,13,14,15,16,17,18,19,20,21,22,23,24,25,26,27,28,29] [30] [] [0,1,2,4,6,7,8,10,11,12,14,15,16,18,20,22,23,24,26,28,29] (sp []) N N N N Nq (cG _) ?_
 refine aw Z Z Z Z Z (fun w' hw'=>Yp Z)<|aw Z Z Z Z Z (fun w' hw'=>aM Z)<|aw Z Z Z Z Z (fun w' hw'=>Zf mz Z)<|aw Z Z Z Z Z (fun w' hw'=>bW nI rowS hx 5 Z ((H.later hw').ent (i:=4) Z) hl5)<|aw Z Z Z Z Z (fun w' hw'=>Zf ez Z)<|aw Z Z Z Z Z (fun w' hw'=>bd al Z (aK ((H.later hw').ent (i:=1) Z) Z))<|aw Z Z Z Z Z (fun w' hw'=>Yp Z)<|aw Z Z Z Z Z (fun w' hw'=>aM Z)<|aw Z Z Z Z Z (fun w' hw'=>Zf HY Z)<|aw Z Z Z Z Z (fun w' hw'=>bW al rowS hx 1 Z ((H.later hw').ent (i:=4) Z) Z)<|aw Z Z Z Z Z (fun w' hw'=>Yp Z)<|aw Z Z Z Z Z (fun w' hw'=>aM Z)<|aw Z Z Z Z Z (fun w' hw'=>Zf vy Z)<|aw Z Z Z Z Z (fun w' hw'=>bW al rowS hx 2 Z ((H.later hw').ent (i:=4) Z) Z)<|aw Z Z Z Z Z (fun w' hw'=>Yp Z)<|aw Z Z Z Z Z (fun w' hw'=>aM Z)<|aw Z Z Z Z Z (fun w' hw'=>Zf Av Z)<|aw Z Z Z Z Z (fun w' hw'=>bW cP rowS hx 4 Z ((H.later hw').ent (i:=4) Z) hl4)<|aw Z Z Z Z Z (fun w' hw'=>Zf ez Z)<|aw Z Z Z Z Z (fun w' hw'=>bd al Z (aK ((H.later hw').ent (i:=1) Z) Z))<|aw Z Z Z Z Z (fun w' hw'=>cL (k:=n) bj Z (congrArg (Value.int .i64) hna) (by first|omega|(simp only[ae];omega)))<|aw Z Z Z Z Z (fun w' hw'=>bW al rowq hq0 0 Z ((H.later hw').ent (i:=5) Z) Z)<|aw Z Z Z Z Z (fun w' hw'=>Yp Z)<|aw Z Z Z Z Z (fun w' hw'=>aM Z)<|aw Z Z Z Z Z (fun w' hw'=>Zf oR Z)<|aw Z Z Z Z Z (fun w' hw'=>bW eP rowS hx 3 Z ((H.later hw').ent (i:=4) Z) Z)<|aw Z Z Z Z Z (fun w' hw'=>Zf C0 Z)<|aw Z Z Z Z Z (fun w' hw'=>bd aY Z (aK ((H.later hw').ent (i:=1) Z) Z))<|aw Z Z Z Z Z (fun w' hw'=>bp (cs:= #[J (0),J (x.pid),J (x.ver),J (q),J (1),.bool (x.inn),.string (a.text)]) ow gz N)<|aw Z Z Z Z Z (fun w' hw'=>cL (k:=n) dY Z (congrArg (Value.int .i64) hna) (by first|omega|(simp only[ae];omega)))<|aT ?_
 intro w6 hw' hF
 replace H:=H.later hw';clear hw' hF
 refine nt H 6 (⟨0,x.pid,x.ver,q,1,x.inn,a.text⟩) eX rowl he 0 Z Z Z Z Z Z N fun w8 cur7 row7 H=> ?_
 have hs9:(x.last.set n (⟨0,x.pid,x.ver,q,1,x.inn,a.text⟩))[n]? =some (⟨0,x.pid,x.ver,q,1,x.inn,a.text⟩):=ak (bZ he).1
 refine U ?_
 refine bG cv [0,1,2,3,4,5,6,7,8,9] [10] [] [0,1,2,4,6,8,9] (sp []) N N N N Nq (cG _) ?_
 refine aw Z Z Z Z Z (fun w' hw'=>Yp Z)<|aw Z Z Z Z Z (fun w' hw'=>aM Z)<|aw Z Z Z Z Z (fun w' hw'=>Zf Av Z)<|aw Z Z Z Z Z (fun w' hw'=>bW cP rowS hx 4 Z ((H.later hw').ent (i:=4) Z) hl4)<|aw Z Z Z Z Z (fun w' hw'=>Zf ez Z)<|aw Z Z Z Z Z (fun w' hw'=>bd al Z (aK ((H.later hw').ent (i:=1) Z) Z))<|aw Z Z Z Z Z (fun w' hw'=>cL (k:=n) bj Z (congrArg (Value.int .i64) hna) (by first|omega|(simp only[ae];omega)))<|aw Z Z Z Z Z (fun w' hw'=>bW al rowq hq0 0 Z ((H.later hw').ent (i:=5) Z) Z)<|aw Z Z Z Z Z (fun w' hw'=>bn Z Z I I)<|aw Z Z Z Z Z (fun w' hw'=>cL (k:=n) bj Z (congrArg (Value.int .i64) hna) (by first|omega|(simp only[ae];omega)))<|aT ?_
 intro w10 hw' hF
 replace H:=H.later hw';clear hw' hF
 refine nt H 5 ((q+1)) bN rowq hq0 0 Z Z Z Z Z Z N fun w12 cur11 row11 H=> ?_
 have hs13:(x.seqs.set n ((q+1)))[n]? =some ((q+1)):=ak (bZ hq0).1
 refine U<|W<|W ?_
 obtain⟨x1,hx1⟩: ∃ x1:Sn,{x with last:=x.last.set n ⟨0,x.pid,x.ver,q,1,x.inn,a.text⟩,seqs:=x.seqs.set n (q+1)}=x1:=⟨_,rfl⟩
 have hsA1:x1.sA=some ⟨gq,0,none⟩:=by rw[<-hx1];exact hsA
 have hlA1:x1.lA=some ⟨gl,0,none⟩:=by rw[<-hx1];exact hlA
 have rowq1:d8 bR x1.seqs x1.sC cur11:=by rw[<-hx1];exact row11
 have rowl1:d8 gC x1.last x1.lC cur7:=by rw[<-hx1];exact row7
 have rowS1:d8 BR (sns.set i x1) snC uS:=d8.same rowS hx (by rw[<-hx1];simp only[BR,Sn.c,ae])
 have hll1:x1.last.length=ps.length:=by rw[<-hx1];simp only[ae];exact hll
 have hnm1:bC x1.name=true:=by rw[<-hx1];exact hnm
 refine Zr<|G (Zf kL Z)<|G (Zd al H 1 Z Z Z) ?_
 refine dZ (cr Z Z) Z Z Z (fun h102=> ?_) (fun h102=> ?_)
 ·
  refine U<|ZT Z<|W<|Zr<|cE bO (dU 14 _) Z Z ?_
  rintro _ w14 ⟨rfl,hb⟩;replace H:=H.later hb;clear hb
  refine bI H 0 (#[J (14),J (0),.slice none 0 0]) bA Z Z Z Z Z N N fun w15 H=>U<|Zt ?_
  exact gB (cs0:= #[J (14),J (0),.slice none 0 0]) Z bx Z (H.ent (i:=0) Z) Z ⟨⟨ps,some ⟨gP,0,none⟩,pC,co,clo,chi,gr,glo,ghi,sns.set i x1,some ⟨gS,0,none⟩,snC⟩,by rw[oy hix hx (fun h=>by cases h) x1 (by rw[htn];exact(wc hq0 _).trans hx1),if_pos h102];exact pq.plain _ _ _,by rw[oy hix hx (fun h=>by cases h) x1 (by rw[htn];exact(wc hq0 _).trans hx1),if_pos h102];rfl,Bw.close (X:=[(b6,_),(b4,_)]) row rowS1 hset hsA1 hlA1 rowq1 rowl1 hco hgr hps (fun _ h=>h) H (by simp only[Bk.c,ae])⟩
 ·
  refine U<|ZF Z<|Zk<|W ?_
  refine wv cv (fun w'=>w'.heap[b4]? =some (.cells #[J (a.kind),.string (a.name),J (a.part),J (a.n),J (a.m),.string (a.text),J (a.lost)] iR (0,0))) ?_
  intro w16 hw';replace H:=H.later hw';clear hw'
  refine cJ 0 N N N Z Z Z Z Nq (H.ent (i:=1) Z) (fun _ hS=>kh jd Z hS Z)<|cJ 1 N N N Z Z Z Z Nq (H.ent (i:=1) Z) (fun _ hS=>Yp Z)<|cJ 2 N N N Z Z Z Z Nq (H.ent (i:=1) Z) (fun _ hS=>Yp Z)<|cJ 3 N N N Z Z Z Z Nq (H.ent (i:=1) Z) (fun _ hS=>Zf ez Z)<|cJ 4 N N N Z Z Z Z Nq (H.ent (i:=1) Z) (fun _ hS=>bd al Z (aK hS Z))<|MY 5 N Z ?_
  refine cE lN ((by have hA:=C5 (i:=i) (n:=n) (k:=k) (sns:=sns.set i x1) (x:=x1) (by simp only[ae];exact H.perm ((ah _ (ah _ (ah _ (ah _ (am _ _ _))))).trans ((ah _ (ah _ (ah _ (am _ _ _)))).trans ((ah _ (ah _ (am _ _ _))).trans ((ah _ (am _ _ _)).trans ((am _ _ _).trans ((ah _ (ah _ (ah _ (ah _ (ah _ (am _ _ _)))))).trans ((ah _ (ah _ (ah _ (ah _ (am _ _ _))))).trans ((ah _ (ah _ (ah _ (am _ _ _)))).trans ((ah _ (ah _ (am _ _ _))).trans (ah _ (am _ _ _)))))))))))) row rowS1 rowl1 (ak (bZ hx).1) hlA1 hco hps I I I hnm1 hcb hpk;rw[<-hna]at hA;exact hA)) Z Z ?_
  rintro _ w17 ⟨ps',uP',co',clo',chi',F',hAn,hW,row',hlen',hco',hps',hF',H⟩
  replace H:=H.perm ((ah _ (am _ _ _)).trans ((am _ _ _).trans ((ah _ (ah _ (am _ _ _))).trans ((ah _ (am _ _ _)).trans ((ah _ (ah _ (ah _ (am _ _ _)))).trans ((ah _ (ah _ (am _ _ _))).trans ((ah _ (ah _ (ah _ (ah _ (am _ _ _))))).trans ((ah _ (ah _ (ah _ (am _ _ _)))).trans ((ah _ (ah _ (ah _ (ah _ (ah _ (am _ _ _)))))).trans (ah _ (ah _ (ah _ (ah _ (am _ _ _))))))))))))))
  obtain⟨A1,c1,rfl⟩:=hAn.p (kM ..)
  refine U ?_
  refine⟨(H.ent (i:=1) Z),?_⟩
  refine MY 6 N Z<|cE kP (Ft a (dw (Wa.mk (ps.map fun q=>q.p.a) co.a gr.a ((sns.set i x1).map Sn.a)) x1.a n).2.code (dw (Wa.mk (ps.map fun q=>q.p.a) co.a gr.a ((sns.set i x1).map Sn.a)) x1.a n).2.n A1 0 c1 _) Z Z ?_
  rintro _ w18 ⟨ht,hb⟩;replace H:=H.later hb;clear hb
  obtain⟨A2,c2,rfl⟩:=Na ht
  refine U ?_
  refine⟨(H.ent (i:=1) Z),?_⟩
  refine MY 7 N Z<|bI H 0 (#[J ((fR a (dw (Wa.mk (ps.map fun q=>q.p.a) co.a gr.a ((sns.set i x1).map Sn.a)) x1.a n).2).code),J ((fR a (dw (Wa.mk (ps.map fun q=>q.p.a) co.a gr.a ((sns.set i x1).map Sn.a)) x1.a n).2).n),.slice A2 0 c2]) bA Z Z Z Z Z N N fun w19 H=>U ?_
  refine⟨(H.ent (i:=1) Z),?_⟩
  refine y9 N<|Zt ?_
  exact gB (cs0:= #[J ((fR a (dw (Wa.mk (ps.map fun q=>q.p.a) co.a gr.a ((sns.set i x1).map Sn.a)) x1.a n).2).code),J ((fR a (dw (Wa.mk (ps.map fun q=>q.p.a) co.a gr.a ((sns.set i x1).map Sn.a)) x1.a n).2).n),.slice A2 0 c2]) Z bx Z (H.ent (i:=0) Z) Z ⟨⟨ps',some ⟨gP,0,none⟩,pC,co',clo',chi',gr,glo,ghi,sns.set i x1,some ⟨gS,0,none⟩,snC⟩,by rw[oy hix hx (fun h=>by cases h) x1 (by rw[htn];exact(wc hq0 _).trans hx1),if_neg h102,htn];exact pq.of (lX _ (kM ..)),by rw[oy hix hx (fun h=>by cases h) x1 (by rw[htn];exact(wc hq0 _).trans hx1),if_neg h102,htn];exact hW.symm,Bw.close (X:=[(b6,_),(b4,_)]) row' rowS1 hset hsA1 hlA1 rowq1 rowl1 hco' (hF' _ hgr) hps' hF' H (by simp only[Bk.c,ae])⟩
end Go.Proofs.YtclibalpdhhhfaaGreatDoor
