/- Part 4 of the proofs over this seat: what its theorems say holds for every input that they name. -/
import Derived.Test.YtclibalpdhhhfaaGreatF3
namespace Go.Proofs.YtclibalpdhhhfaaGreat
open Go Go.Eng Go.RowKit
open Go.Eng renaming nf→U, AD→W, Je→Zr, MU→Zk, Pc→Zt, OD→Zb, OU→Zx, Pk→Yi, Pm→Yb, Pi→Ys, Pj→Yp, Ph→Yt, Pg→Yu, PA→Wi, PC→Wb, Py→Ws, Pz→Wp, Px→Wt, Pp→Zf, Pt→Xi, Pv→Xa, Pu→Xb, Ps→Xs, O2→Kt, O3→N, pE→ZT, ov→ZF
open _root_.List renaming length_set→aa,getElem?_set_self→ae,mem_of_getElem?→ah,getElem?_eq_getElem→ai,mem_cons_of_mem→al,sublist_append_left→ap,mem_singleton→au,replicate→av,mem_append→ax,mem_cons→ay,length_append→az,mem_cons_self→aC,append_assoc→aE,length_take→aI,getElem?_map→aL,mem_iff_getElem?→aU,append_nil→aY,findIdx?_eq_some_iff_getElem→bh,map_append→bo,mem_map→bB,mem_or_eq_of_mem_set→bH,length_map→bI,mem_map_of_mem→bP,length_cons→bS,length_singleton→bU,eq_nil_of_length_eq_zero→bY,take_length→bZ,mem_nil_iff→cd,getD_eq_getElem?_getD→cf,length_replicate→cn,sublist_append_right→cu,getElem?_append_right→cC,map_set→cD,getElem?_eq_none→cL,findIdx?_eq_none_iff→dq,set_set→dK,getElem?_drop→dO,mem_singleton_self→d6,pairwise_cons→ex,map_cons→eM,ext_getElem?→eN,prefix_refl→fu,drop_length→fv,eq_of_mem_replicate→fF,getElem?_replicate→fU,perm_append_comm_assoc→fX,set_append_right→jc,pairwise_map→jq,filter_eq_self→jU,filter_cons_of_pos→jZ,nil_append→kR,mem_filter→kS,getElem?_set→lw,pairwise_append→lY,drop_zero→lZ,map_nil→mh,pairwise_iff_getElem→mM,drop_eq_getElem_cons→mN,filter_cons_of_neg→oG,map_map→r5,getElem_mem→vo,take_zero→yy,drop_succ_cons→zc,set_cons_zero→AZ,findIdx?_map→CN,any_eq_false→CO
open Go.Proofs.Tryz renaming prog→ab
open _root_.List.Perm renaming cons→aj,swap→am
open _root_.Nat renaming le_refl→ao,le_trans→aS,min_eq_left→bA,le_succ→bE,zero_le→bK,add_assoc→kZ,sub_self→mf,le_of_lt→mg,add_comm→r4
open _root_.List.Sublist renaming refl→ar
open _root_.Bool renaming and_eq_true→aR,not_eq_true'→pb
open _root_.Option.some renaming inj→bN,injEq→lv
open _root_.Option renaming map_some→eX,bind_some→fT,map_eq_some_iff→iK
open _root_.Int renaming le_refl→iX
set_option maxHeartbeats 4000000
set_option maxRecDepth 20000
set_option linter.unusedSimpArgs false
set_option linter.unusedVariables false
set_option linter.unusedSectionVars false
/-- P5.6: a part whose marker is kept -/
def gB (p:Int) (t:Tx):Tx:=if(t.parts.filter fun q=>decide (q≠p)).length=0 then{t with parts:=[],done:=t.state,state:=1}else{t with parts:=t.parts.filter fun q=>decide (q≠p)}
theorem DO {p:Int} {t t':Tx} (h:t'.a=t.a):(gB p t').a=(gB p t).a:=by
 have e: ∀ t:Tx,(gB p t).a=gB p t.a:=fun t=>by
  unfold gB
  by_cases h:(t.parts.filter fun q=>decide (q≠p)).length=0
  rw[if_pos h,if_pos (show(t.a.parts.filter fun q=>decide (q≠p)).length=0 from h)];rfl
  rw[if_neg h,if_neg (show¬ (t.a.parts.filter fun q=>decide (q≠p)).length=0 from h)];rfl
 rw[e,e,h]
theorem GX: ∀ {l:List Int} {p:Int} {j:Nat},l.Pairwise (· < ·)->l[j]? =some p->l.take j++l.drop (j+1)=l.filter fun q=>decide (q≠p)
 |[],_,_,_,h=>by cases h
 |x::l,p,0,hp,h=>by
  cases h
  obtain⟨h1,-⟩:=ex.1 hp
  rw[oG (by simp)]
  simp only[yy,kR,zc,lZ]
  exact(jU.2 fun y hy=>decide_eq_true (by have:=h1 y hy;omega)).symm
 |x::l,p,j+1,hp,h=>by
  obtain⟨h1,h2⟩:=ex.1 hp
  have hm:p∈l:=ah (show l[j]? =some p from h)
  have:=h1 p hm
  rw[jZ (by simp;omega),<-GX h2 (show l[j]? =some p from h)]
  rfl
theorem there {l:List Int} {p:Int} {i:Nat} (h2: ∀ k y,l[k]? =some y->i<=k->p<=y) (h1: ∀ k y,l[k]? =some y->k<i->y<p) (hp:l.Pairwise (· < ·)) (hm:p∈l):l[i]? =some p:=by
 obtain⟨k,hk⟩:=aU.1 hm
 by_cases hki:k<i
 have:=h1 k p hk hki;omega
 obtain⟨x,hx⟩: ∃ x,l[i]? =some x:=⟨_,ai (by have:=(bT hk).1;omega)⟩
 have h3:=rises hp hx hk I
 have h4:=h2 i x hx (ao _)
 rw[hx];congr 1;omega
theorem MS (c:Co) (s:ByteArray) (p:Int) (i:Nat) (t:Tx) (w:World) (h:c.rd 0 w.heap.size w) (hok:gi c=true) (hn:bQ s=true) (hi:fL c s=i) (ht:c.txs[i]? =some t) (h34:t.state=3∨t.state=4) (hpm:p∈t.parts) (hpo:cU (-1) t.parts=true):dg ab wy [c.v,.string s,J p] w fun v w2=> ∃ (c':Co) (Lr Lp:List (Nat×Obj)),v=.tuple #[c'.v,J 0]/\qi w w2 (Co.a {c with txs:=c.txs.set i (gB p t)}) c' Lr Lp:=by
 refine aF BI Z Z ?_
 have hcap:=h.cap
 have hfew:=h.few
 have hfp:=h.fewP
 have H:=Hp.startCo h
 obtain⟨ck,nx,wt,txs,cA,cc⟩:=c
 dsimp only at hcap hfew hfp H
 show CW _ _ _ _ (args [.agg #[J ck,J nx,J wt,.slice cA txs.length cc],.string s,J p]) w
 dsimp only at ht⊢
 refine W<|Zr<|fW H Z Z fun w1 b3 H=>eI H cM Z fun w2 b6 H=>G (Wi Z)<|U<|W<|Zr<|G (Zw aq H 1 Z Z Z)<|G (Yt Z)<|ch ie (lI ⟨ck,nx,wt,txs,cA,cc⟩ s _ ⟨H.rd0 0 Z,fun t ht=>fx H 1 Z ht,hcap,hfew,hfp⟩ hok hn) Z Z ?_
 rintro _ w3 ⟨⟨ck2,nx2,wt2,tx2,A2,c2⟩,Lr,Lp,rfl,ha2,ho2,hp2,hoc2,hpc2,hj2⟩
 replace H:=H.joinR hj2;clear hj2
 simp only[Co.a,Co.mk.injEq]at ha2
 obtain⟨e1,e2,e3,hma,-,-⟩:=ha2
 obtain rfl:ck=ck2:=e1.symm
 obtain rfl:nx=nx2:=e2.symm
 obtain rfl:wt=wt2:=e3.symm
 dsimp only at ho2 hp2 hoc2 hpc2 H
 obtain⟨t2,ht2,hta⟩:=qU hma ht
 have hl2:=(bT ht2).1
 obtain⟨g,cur,rfl,rfl,row⟩:=ho2.row I
 have hst:t2.state=t.state:=by show t2.a.state=t.a.state;rw[hta]
 have hdn:t2.done=t.done:=by show t2.a.done=t.a.done;rw[hta]
 have hpt:t2.parts=t.parts:=by show t2.a.parts=t.a.parts;rw[hta]
 rw[hi]
 refine G (Yu Z)<|G (Xa Z Z)<|G (Xi Z Z)<|G (Xi Z Z)<|bg H 1 (#[J (ck),J (nx),J (wt),.slice (Qd g) tx2.length c2]) aA Z Z Z Z Z N N fun w4 H=>G (Wi Z)<|G (Wi Z)<|U<|W<|W<|Zr<|G (Yi Z)<|G (ce Z Z Z)<|U<|ZF Z<|Zk<|W<|W<|Zr<|G (Yi Z)<|G (dd Z Z I)<|U<|ZF Z<|Zk<|W<|Zr<|G (Zf cR Z)<|G (Zd dP H 1 Z Z Z)<|G (Yi Z)<|G (bV gH Z Z (by first|omega|(simp only[aa];omega)))<|G (Wp Z)<|U<|W<|W<|Zr<|G (Yp Z)<|G (aG Z)<|G (Zf cT Z)<|G (bf ak row ht2 3 Z (H.ent (i:=2) Z) Z)<|G (ja Z Z) ?_
 refine mq 35 Z (fun h35=> ?_) (fun h35=> ?_)
 refine G (Yb Z)<|ZG<|G (Yp Z)<|ZG<|G (aG Z)<|ZG<|G (Zf cT Z)<|ZG<|G (bf ak row ht2 3 Z (H.ent (i:=2) Z) Z)<|ZG<|G (ce Z Z (by simp at h35;omega))<|G (Kt Z Z)<|U<|ZF Z<|Zk<|W ?_
 have hrise:=(fK hpo).1
 have hfw:=ml hpo
 rw[<-hpt]at hrise hfw hpm
 obtain⟨La,Lt,Lb,rfl,hot,hset⟩:=hp2.at_ ht2
 refine Zr<|G (Yp Z)<|G (aG Z)<|G (Zf dB Z)<|G (bf bL row ht2 4 Z (H.ent (i:=2) Z) Z)<|G (Yi Z)<|ch ee (qf t2.parts p t2.A t2.cap _ ((hot.rd (K:=[(b6,.cells #[J (0),J (0),J (0),.slice none 0 0] bk (0,0)),(b3,.cells #[J (ck),J (nx),J (wt),.slice (Qd g) tx2.length c2] bk (0,0)),(g,.cells cur cI (0,0))]++La) (M:=Lb) (u5 [(b6,.cells #[J (0),J (0),J (0),.slice none 0 0] bk (0,0)),(b3,.cells #[J (ck),J (nx),J (wt),.slice (Qd g) tx2.length c2] bk (0,0)),(g,.cells cur cI (0,0))] La Lt Lb H)).mono (bK _) (ao _)) I hrise) Z Z ?_
 rintro _ w5 ⟨j,rfl,hjl,hj1,hj2,hb⟩;replace H:=H.later hb;clear hb
 have hjp:=there hj2 hj1 hrise hpm
 rw[show decide (t2.parts[j]? =some p)=true from decide_eq_true hjp]
 have hdl:=GX hrise hjp
 have hjl2:=(bT hjp).1
 refine G (Yu Z)<|G (Xi Z Z)<|G (Xb Z Z)<|G (Wi Z)<|G (Wb Z)<|U<|W<|W<|Zr<|G (Yb Z)<|G (dR Z)<|U<|ZF Z<|Zk<|W<|Zr<|G (Yp Z)<|G (Yp Z)<|G (aG Z)<|G (Zf dB Z)<|G (bf bL row ht2 4 Z (H.ent (i:=2) Z) Z)<|G (Yi Z)<|G (Yi Z)<|G (bz Z Z I I)<|ch kP (wJ (K:=[(b6,.cells #[J (0),J (0),J (0),.slice none 0 0] bk (0,0)),(b3,.cells #[J (ck),J (nx),J (wt),.slice (Qd g) tx2.length c2] bk (0,0)),(g,.cells cur cI (0,0))]++La) (Lt:=Lt) (M:=Lb) (i:=j) (j:=j+1) (u5 [(b6,.cells #[J (0),J (0),J (0),.slice none 0 0] bk (0,0)),(b3,.cells #[J (ck),J (nx),J (wt),.slice (Qd g) tx2.length c2] bk (0,0)),(g,.cells cur cI (0,0))] La Lt Lb H) hot I hjl2 I) Z Z ?_
 rintro _ w6 ⟨A9,c9,L9,rfl,ho9,HI⟩;replace H:Hp w w6 ([(b6,.cells #[J (0),J (0),J (0),.slice none 0 0] bk (0,0)),(b3,.cells #[J (ck),J (nx),J (wt),.slice (Qd g) tx2.length c2] bk (0,0)),(g,.cells cur cI (0,0))]++((La++L9++Lb)++[])) [dT rB 0 w.heap.size cA txs,iH 0 w.heap.size txs]:=Ae [(b6,.cells #[J (0),J (0),J (0),.slice none 0 0] bk (0,0)),(b3,.cells #[J (ck),J (nx),J (wt),.slice (Qd g) tx2.length c2] bk (0,0)),(g,.cells cur cI (0,0))] La L9 Lb HI
 have hc9:(t2.parts.take j++t2.parts.drop (j+1)).length<=c9:=by obtain⟨_,_,e,h,_⟩:=ho9.form;injection e with _ _ e;rw[e];exact h
 refine G (aG Z)<|G (Zf dB Z)<|im H 2 ({t2 with parts:=t2.parts.take j++t2.parts.drop (j+1),A:=A9,cap:=c9}) jE row ht2 4 Z Z Z Z Z Z N fun w8 cur7 row7 H=> ?_
 have hs9:(tx2.set i ({t2 with parts:=t2.parts.take j++t2.parts.drop (j+1),A:=A9,cap:=c9}))[i]? =some ({t2 with parts:=t2.parts.take j++t2.parts.drop (j+1),A:=A9,cap:=c9}):=ae (bT ht2).1
 refine U<|W<|W<|Zr<|G (Yp Z)<|G (aG Z)<|G (Zf dB Z)<|G (bf bL row7 hs9 4 Z (H.ent (i:=2) Z) Z)<|G (br eJ Z) ?_
 refine cW (bp Z Z) Z Z Z (fun h72=> ?_) (fun h72=> ?_)
 refine U<|ZT Z<|Zr<|G (Yp Z)<|G (Yp Z)<|G (Yp Z)<|G (aG Z)<|G (Zf cT Z)<|G (bf ak row7 hs9 3 Z (H.ent (i:=2) Z) Z)<|G (aG Z)<|G (Zf cT Z)<|im H 2 ({({t2 with parts:=t2.parts.take j++t2.parts.drop (j+1),A:=A9,cap:=c9})with state:=1}) bw row7 hs9 3 Z Z Z Z Z Z N fun w11 cur10 row10 H=> ?_
 have hs12:((tx2.set i ({t2 with parts:=t2.parts.take j++t2.parts.drop (j+1),A:=A9,cap:=c9})).set i ({({t2 with parts:=t2.parts.take j++t2.parts.drop (j+1),A:=A9,cap:=c9})with state:=1}))[i]? =some ({({t2 with parts:=t2.parts.take j++t2.parts.drop (j+1),A:=A9,cap:=c9})with state:=1}):=ae (bT hs9).1
 refine G (aG Z)<|G (Zf jg Z)<|im H 2 ({({({t2 with parts:=t2.parts.take j++t2.parts.drop (j+1),A:=A9,cap:=c9})with state:=1})with done:=({t2 with parts:=t2.parts.take j++t2.parts.drop (j+1),A:=A9,cap:=c9}).state}) bw row10 hs12 6 Z Z Z Z Z Z N fun w14 cur13 row13 H=> ?_
 have hs15:(((tx2.set i ({t2 with parts:=t2.parts.take j++t2.parts.drop (j+1),A:=A9,cap:=c9})).set i ({({t2 with parts:=t2.parts.take j++t2.parts.drop (j+1),A:=A9,cap:=c9})with state:=1})).set i ({({({t2 with parts:=t2.parts.take j++t2.parts.drop (j+1),A:=A9,cap:=c9})with state:=1})with done:=({t2 with parts:=t2.parts.take j++t2.parts.drop (j+1),A:=A9,cap:=c9}).state}))[i]? =some ({({({t2 with parts:=t2.parts.take j++t2.parts.drop (j+1),A:=A9,cap:=c9})with state:=1})with done:=({t2 with parts:=t2.parts.take j++t2.parts.drop (j+1),A:=A9,cap:=c9}).state}):=ae (bT hs12).1
 refine U<|W<|Zr<|G (Zw aq H 1 Z Z Z)<|bg H 0 (#[J (ck),J (nx),J (wt),.slice (Qd g) tx2.length c2]) aA Z Z Z Z Z N N fun w16 H=>G (Wi Z)<|U<|Zt ?_
 have h72b:((t2.parts.take j++t2.parts.drop (j+1)).length:Int)=0:=h72
 have hX:Tx.a ({t2 with parts:=t2.parts.take j++t2.parts.drop (j+1),A:=A9,cap:=c9,done:=t2.state,state:=1})=(gB p t).a:=by rw[<-DO hta];unfold gB;rw[<-hdl];rw[if_pos I,bY (show(t2.parts.take j++t2.parts.drop (j+1)).length=0 by omega)];rfl
 have hrow:dz rB (tx2.set i ({t2 with parts:=t2.parts.take j++t2.parts.drop (j+1),A:=A9,cap:=c9,done:=t2.state,state:=1})) c2 cur13:=by have hr:=row13;simp only[dK]at hr;exact hr
 exact bG (cs0:= #[J ck,J nx,J wt,.slice (Qd g) tx2.length c2]) (v1:=J 0) Z aq Z (H.ent (i:=0) Z) Z Z ⟨⟨ck,nx,wt,tx2.set i ({t2 with parts:=t2.parts.take j++t2.parts.drop (j+1),A:=A9,cap:=c9,done:=t2.state,state:=1}),some ⟨g,0,none⟩,c2⟩,[(g,.cells cur13 cI (0,0))],(La++L9++Lb),by unfold Co.v Co.c;dsimp only;rw[aa],by unfold Co.a;dsimp only;rw[fm hma i hX],dz.own hrow,hset {t2 with parts:=t2.parts.take j++t2.parts.drop (j+1),A:=A9,cap:=c9,done:=t2.state,state:=1} L9 ho9,by dsimp only;rw[aa];exact hoc2,jP hpc2 i (by exact hc9),H.forget (.cons _ (.cons _ (ap _ _))) (by simp)⟩
 refine U<|ZF Z<|Zk<|W<|Zr<|G (Zw aq H 1 Z Z Z)<|bg H 0 (#[J (ck),J (nx),J (wt),.slice (Qd g) tx2.length c2]) aA Z Z Z Z Z N N fun w17 H=>G (Wi Z)<|U<|Zt ?_
 have h72b: ¬ ((t2.parts.take j++t2.parts.drop (j+1)).length:Int)=0:=h72
 have hX:Tx.a ({t2 with parts:=t2.parts.take j++t2.parts.drop (j+1),A:=A9,cap:=c9})=(gB p t).a:=by rw[<-DO hta];unfold gB;rw[<-hdl];rw[if_neg I];rfl
 have hrow:dz rB (tx2.set i ({t2 with parts:=t2.parts.take j++t2.parts.drop (j+1),A:=A9,cap:=c9})) c2 cur7:=by exact row7
 exact bG (cs0:= #[J ck,J nx,J wt,.slice (Qd g) tx2.length c2]) (v1:=J 0) Z aq Z (H.ent (i:=0) Z) Z Z ⟨⟨ck,nx,wt,tx2.set i ({t2 with parts:=t2.parts.take j++t2.parts.drop (j+1),A:=A9,cap:=c9}),some ⟨g,0,none⟩,c2⟩,[(g,.cells cur7 cI (0,0))],(La++L9++Lb),by unfold Co.v Co.c;dsimp only;rw[aa],by unfold Co.a;dsimp only;rw[fm hma i hX],dz.own hrow,hset {t2 with parts:=t2.parts.take j++t2.parts.drop (j+1),A:=A9,cap:=c9} L9 ho9,by dsimp only;rw[aa];exact hoc2,jP hpc2 i (by exact hc9),H.forget (.cons _ (.cons _ (ap _ _))) (by simp)⟩
 refine G (Yb Z)<|ZN<|ZN<|ZN<|ZN<|ZN<|G (N Z Z)<|U<|ZF Z<|Zk<|W ?_
 have hrise:=(fK hpo).1
 have hfw:=ml hpo
 rw[<-hpt]at hrise hfw hpm
 obtain⟨La,Lt,Lb,rfl,hot,hset⟩:=hp2.at_ ht2
 refine Zr<|G (Yp Z)<|G (aG Z)<|G (Zf dB Z)<|G (bf bL row ht2 4 Z (H.ent (i:=2) Z) Z)<|G (Yi Z)<|ch ee (qf t2.parts p t2.A t2.cap _ ((hot.rd (K:=[(b6,.cells #[J (0),J (0),J (0),.slice none 0 0] bk (0,0)),(b3,.cells #[J (ck),J (nx),J (wt),.slice (Qd g) tx2.length c2] bk (0,0)),(g,.cells cur cI (0,0))]++La) (M:=Lb) (u5 [(b6,.cells #[J (0),J (0),J (0),.slice none 0 0] bk (0,0)),(b3,.cells #[J (ck),J (nx),J (wt),.slice (Qd g) tx2.length c2] bk (0,0)),(g,.cells cur cI (0,0))] La Lt Lb H)).mono (bK _) (ao _)) I hrise) Z Z ?_
 rintro _ w18 ⟨j,rfl,hjl,hj1,hj2,hb⟩;replace H:=H.later hb;clear hb
 have hjp:=there hj2 hj1 hrise hpm
 rw[show decide (t2.parts[j]? =some p)=true from decide_eq_true hjp]
 have hdl:=GX hrise hjp
 have hjl2:=(bT hjp).1
 refine G (Yu Z)<|G (Xi Z Z)<|G (Xb Z Z)<|G (Wi Z)<|G (Wb Z)<|U<|W<|W<|Zr<|G (Yb Z)<|G (dR Z)<|U<|ZF Z<|Zk<|W<|Zr<|G (Yp Z)<|G (Yp Z)<|G (aG Z)<|G (Zf dB Z)<|G (bf bL row ht2 4 Z (H.ent (i:=2) Z) Z)<|G (Yi Z)<|G (Yi Z)<|G (bz Z Z I I)<|ch kP (wJ (K:=[(b6,.cells #[J (0),J (0),J (0),.slice none 0 0] bk (0,0)),(b3,.cells #[J (ck),J (nx),J (wt),.slice (Qd g) tx2.length c2] bk (0,0)),(g,.cells cur cI (0,0))]++La) (Lt:=Lt) (M:=Lb) (i:=j) (j:=j+1) (u5 [(b6,.cells #[J (0),J (0),J (0),.slice none 0 0] bk (0,0)),(b3,.cells #[J (ck),J (nx),J (wt),.slice (Qd g) tx2.length c2] bk (0,0)),(g,.cells cur cI (0,0))] La Lt Lb H) hot I hjl2 I) Z Z ?_
 rintro _ w19 ⟨A9,c9,L9,rfl,ho9,HI⟩;replace H:Hp w w19 ([(b6,.cells #[J (0),J (0),J (0),.slice none 0 0] bk (0,0)),(b3,.cells #[J (ck),J (nx),J (wt),.slice (Qd g) tx2.length c2] bk (0,0)),(g,.cells cur cI (0,0))]++((La++L9++Lb)++[])) [dT rB 0 w.heap.size cA txs,iH 0 w.heap.size txs]:=Ae [(b6,.cells #[J (0),J (0),J (0),.slice none 0 0] bk (0,0)),(b3,.cells #[J (ck),J (nx),J (wt),.slice (Qd g) tx2.length c2] bk (0,0)),(g,.cells cur cI (0,0))] La L9 Lb HI
 have hc9:(t2.parts.take j++t2.parts.drop (j+1)).length<=c9:=by obtain⟨_,_,e,h,_⟩:=ho9.form;injection e with _ _ e;rw[e];exact h
 refine G (aG Z)<|G (Zf dB Z)<|im H 2 ({t2 with parts:=t2.parts.take j++t2.parts.drop (j+1),A:=A9,cap:=c9}) jE row ht2 4 Z Z Z Z Z Z N fun w21 cur20 row20 H=> ?_
 have hs22:(tx2.set i ({t2 with parts:=t2.parts.take j++t2.parts.drop (j+1),A:=A9,cap:=c9}))[i]? =some ({t2 with parts:=t2.parts.take j++t2.parts.drop (j+1),A:=A9,cap:=c9}):=ae (bT ht2).1
 refine U<|W<|W<|Zr<|G (Yp Z)<|G (aG Z)<|G (Zf dB Z)<|G (bf bL row20 hs22 4 Z (H.ent (i:=2) Z) Z)<|G (br eJ Z) ?_
 refine cW (bp Z Z) Z Z Z (fun h72=> ?_) (fun h72=> ?_)
 refine U<|ZT Z<|Zr<|G (Yp Z)<|G (Yp Z)<|G (Yp Z)<|G (aG Z)<|G (Zf cT Z)<|G (bf ak row20 hs22 3 Z (H.ent (i:=2) Z) Z)<|G (aG Z)<|G (Zf cT Z)<|im H 2 ({({t2 with parts:=t2.parts.take j++t2.parts.drop (j+1),A:=A9,cap:=c9})with state:=1}) bw row20 hs22 3 Z Z Z Z Z Z N fun w24 cur23 row23 H=> ?_
 have hs25:((tx2.set i ({t2 with parts:=t2.parts.take j++t2.parts.drop (j+1),A:=A9,cap:=c9})).set i ({({t2 with parts:=t2.parts.take j++t2.parts.drop (j+1),A:=A9,cap:=c9})with state:=1}))[i]? =some ({({t2 with parts:=t2.parts.take j++t2.parts.drop (j+1),A:=A9,cap:=c9})with state:=1}):=ae (bT hs22).1
 refine G (aG Z)<|G (Zf jg Z)<|im H 2 ({({({t2 with parts:=t2.parts.take j++t2.parts.drop (j+1),A:=A9,cap:=c9})with state:=1})with done:=({t2 with parts:=t2.parts.take j++t2.parts.drop (j+1),A:=A9,cap:=c9}).state}) bw row23 hs25 6 Z Z Z Z Z Z N fun w27 cur26 row26 H=> ?_
 have hs28:(((tx2.set i ({t2 with parts:=t2.parts.take j++t2.parts.drop (j+1),A:=A9,cap:=c9})).set i ({({t2 with parts:=t2.parts.take j++t2.parts.drop (j+1),A:=A9,cap:=c9})with state:=1})).set i ({({({t2 with parts:=t2.parts.take j++t2.parts.drop (j+1),A:=A9,cap:=c9})with state:=1})with done:=({t2 with parts:=t2.parts.take j++t2.parts.drop (j+1),A:=A9,cap:=c9}).state}))[i]? =some ({({({t2 with parts:=t2.parts.take j++t2.parts.drop (j+1),A:=A9,cap:=c9})with state:=1})with done:=({t2 with parts:=t2.parts.take j++t2.parts.drop (j+1),A:=A9,cap:=c9}).state}):=ae (bT hs25).1
 refine U<|W<|Zr<|G (Zw aq H 1 Z Z Z)<|bg H 0 (#[J (ck),J (nx),J (wt),.slice (Qd g) tx2.length c2]) aA Z Z Z Z Z N N fun w29 H=>G (Wi Z)<|U<|Zt ?_
 have h72b:((t2.parts.take j++t2.parts.drop (j+1)).length:Int)=0:=h72
 have hX:Tx.a ({t2 with parts:=t2.parts.take j++t2.parts.drop (j+1),A:=A9,cap:=c9,done:=t2.state,state:=1})=(gB p t).a:=by rw[<-DO hta];unfold gB;rw[<-hdl];rw[if_pos I,bY (show(t2.parts.take j++t2.parts.drop (j+1)).length=0 by omega)];rfl
 have hrow:dz rB (tx2.set i ({t2 with parts:=t2.parts.take j++t2.parts.drop (j+1),A:=A9,cap:=c9,done:=t2.state,state:=1})) c2 cur26:=by have hr:=row26;simp only[dK]at hr;exact hr
 exact bG (cs0:= #[J ck,J nx,J wt,.slice (Qd g) tx2.length c2]) (v1:=J 0) Z aq Z (H.ent (i:=0) Z) Z Z ⟨⟨ck,nx,wt,tx2.set i ({t2 with parts:=t2.parts.take j++t2.parts.drop (j+1),A:=A9,cap:=c9,done:=t2.state,state:=1}),some ⟨g,0,none⟩,c2⟩,[(g,.cells cur26 cI (0,0))],(La++L9++Lb),by unfold Co.v Co.c;dsimp only;rw[aa],by unfold Co.a;dsimp only;rw[fm hma i hX],dz.own hrow,hset {t2 with parts:=t2.parts.take j++t2.parts.drop (j+1),A:=A9,cap:=c9,done:=t2.state,state:=1} L9 ho9,by dsimp only;rw[aa];exact hoc2,jP hpc2 i (by exact hc9),H.forget (.cons _ (.cons _ (ap _ _))) (by simp)⟩
 refine U<|ZF Z<|Zk<|W<|Zr<|G (Zw aq H 1 Z Z Z)<|bg H 0 (#[J (ck),J (nx),J (wt),.slice (Qd g) tx2.length c2]) aA Z Z Z Z Z N N fun w30 H=>G (Wi Z)<|U<|Zt ?_
 have h72b: ¬ ((t2.parts.take j++t2.parts.drop (j+1)).length:Int)=0:=h72
 have hX:Tx.a ({t2 with parts:=t2.parts.take j++t2.parts.drop (j+1),A:=A9,cap:=c9})=(gB p t).a:=by rw[<-DO hta];unfold gB;rw[<-hdl];rw[if_neg I];rfl
 have hrow:dz rB (tx2.set i ({t2 with parts:=t2.parts.take j++t2.parts.drop (j+1),A:=A9,cap:=c9})) c2 cur20:=by exact row20
 exact bG (cs0:= #[J ck,J nx,J wt,.slice (Qd g) tx2.length c2]) (v1:=J 0) Z aq Z (H.ent (i:=0) Z) Z Z ⟨⟨ck,nx,wt,tx2.set i ({t2 with parts:=t2.parts.take j++t2.parts.drop (j+1),A:=A9,cap:=c9}),some ⟨g,0,none⟩,c2⟩,[(g,.cells cur20 cI (0,0))],(La++L9++Lb),by unfold Co.v Co.c;dsimp only;rw[aa],by unfold Co.a;dsimp only;rw[fm hma i hX],dz.own hrow,hset {t2 with parts:=t2.parts.take j++t2.parts.drop (j+1),A:=A9,cap:=c9} L9 ho9,by dsimp only;rw[aa];exact hoc2,jP hpc2 i (by exact hc9),H.forget (.cons _ (.cons _ (ap _ _))) (by simp)⟩
theorem GG (c:Co) (s:ByteArray) (i:Nat) (t:Tx) (w:World) (h:c.rd 0 w.heap.size w) (hok:gi c=true) (hn:bQ s=true) (hi:fL c s=i) (ht:c.txs[i]? =some t) (h34:t.state=3∨t.state=4):dg ab mu [c.v,.string s] w fun v w2=>v=.tuple #[.agg #[J 0,J 0,J 0,.slice none 0 0],J 0,J 0,J 12]/\Below w.heap.size w w2:=by
 refine aF nP Z Z ?_
 have hcap:=h.cap
 have hfew:=h.few
 have hfp:=h.fewP
 have H:=Hp.startCo h
 obtain⟨ck,nx,wt,txs,cA,cc⟩:=c
 dsimp only at hcap hfew hfp H
 show CW _ _ _ _ (args [.agg #[J ck,J nx,J wt,.slice cA txs.length cc],.string s]) w
 dsimp only at ht
 refine W<|Zr<|fW H Z Z fun w1 b2 H=>eI H cM Z fun w2 b4 H=>G (Wi Z)<|G (Wi Z)<|G (Wi Z)<|U<|W<|Zr<|G (Zw aq H 1 Z Z Z)<|G (Yt Z)<|ch ie (lI ⟨ck,nx,wt,txs,cA,cc⟩ s _ ⟨H.rd0 0 Z,fun t ht=>fx H 1 Z ht,hcap,hfew,hfp⟩ hok hn) Z Z ?_
 rintro _ w3 ⟨⟨ck2,nx2,wt2,tx2,A2,c2⟩,Lr,Lp,rfl,ha2,ho2,hp2,hoc2,hpc2,hj2⟩
 replace H:=H.joinR hj2;clear hj2
 simp only[Co.a,Co.mk.injEq]at ha2
 obtain⟨e1,e2,e3,hma,-,-⟩:=ha2
 obtain rfl:ck=ck2:=e1.symm
 obtain rfl:nx=nx2:=e2.symm
 obtain rfl:wt=wt2:=e3.symm
 dsimp only at ho2 hp2 hoc2 hpc2 H
 obtain⟨t2,ht2,hta⟩:=qU hma ht
 have hl2:=(bT ht2).1
 obtain⟨g,cur,rfl,rfl,row⟩:=ho2.row I
 have hst:t2.state=t.state:=by show t2.a.state=t.a.state;rw[hta]
 have hdn:t2.done=t.done:=by show t2.a.done=t.a.done;rw[hta]
 have hpt:t2.parts=t.parts:=by show t2.a.parts=t.a.parts;rw[hta]
 rw[hi]
 refine G (Yu Z)<|G (Xa Z Z)<|G (Xi Z Z)<|G (Xi Z Z)<|bg H 1 (#[J (ck),J (nx),J (wt),.slice (Qd g) tx2.length c2]) aA Z Z Z Z Z N N fun w4 H=>G (Wi Z)<|G (Wi Z)<|U<|W<|W<|Zr<|G (Yi Z)<|G (ce Z Z Z)<|U<|ZF Z<|Zk<|W<|W<|Zr<|G (Yi Z)<|G (dd Z Z I)<|U<|ZF Z<|Zk<|W<|Zr<|G (Zf cR Z)<|G (Zd dP H 1 Z Z Z)<|G (Yi Z)<|G (bV gH Z Z (by first|omega|(simp only[aa];omega)))<|G (Wp Z)<|U<|W<|Zb<|W<|Zr<|G (Yp Z)<|G (aG Z)<|G (Zf cT Z)<|G (bf ak row ht2 3 Z (H.ent (i:=2) Z) Z) ?_
 refine cW (bp Z Z) Z Z Z (fun h60=> ?_) (fun h60=> ?_)
 refine G (Yb Z)<|ZN<|ZN<|ZN<|ZN<|ZN<|G (Kt Z Z)<|G (Wb Z)<|U<|ZT Z<|W<|Zr<|G (bn (cs:= #[J (0),J (0),J (0),.slice none 0 0]) fz cM N)<|bg H 0 (#[J (0),J (0),J (0),.slice none 0 0]) aA Z Z Z Z Z N N fun w5 H=>G (Wi Z)<|G (Wi Z)<|G (Wi Z)<|U<|Zt ?_
 exact dM (cs0:= #[J 0,J 0,J 0,.slice none 0 0]) (v1:=J 0) (v2:=J 0) (v3:=J 12) Z aq Z (H.ent (i:=0) Z) Z Z Z Z ⟨rfl,H.below⟩
 refine G (Yb Z)<|ZG<|G (Yp Z)<|ZG<|G (aG Z)<|ZG<|G (Zf cT Z)<|ZG<|G (bf ak row ht2 3 Z (H.ent (i:=2) Z) Z)<|ZG<|G (qa Z Z I)<|G (N Z Z)<|G (Wb Z)<|U<|ZT Z<|W<|Zr<|G (bn (cs:= #[J (0),J (0),J (0),.slice none 0 0]) fz cM N)<|bg H 0 (#[J (0),J (0),J (0),.slice none 0 0]) aA Z Z Z Z Z N N fun w6 H=>G (Wi Z)<|G (Wi Z)<|G (Wi Z)<|U<|Zt ?_
 exact dM (cs0:= #[J 0,J 0,J 0,.slice none 0 0]) (v1:=J 0) (v2:=J 0) (v3:=J 12) Z aq Z (H.ent (i:=0) Z) Z Z Z Z ⟨rfl,H.below⟩
theorem K9 (c:Co) (s:ByteArray) (ver:Int) (b:Bool) (w:World) (h:c.rd 0 w.heap.size w) (hok:gi c=true) (hn:bQ s=true) (hi:fL c s= -1):dg ab lQ [c.v,.string s,J ver,.bool b] w fun v w2=>v=.tuple #[.agg #[J 0,J 0,J 0,.slice none 0 0],J 5]/\Below w.heap.size w w2:=by
 refine aF pz Z Z ?_
 have hcap:=h.cap
 have hfew:=h.few
 have hfp:=h.fewP
 have H:=Hp.startCo h
 obtain⟨ck,nx,wt,txs,cA,cc⟩:=c
 dsimp only at hcap hfew hfp H
 show CW _ _ _ _ (args [.agg #[J ck,J nx,J wt,.slice cA txs.length cc],.string s,J ver,.bool b]) w
 refine W<|Zr<|fW H Z Z fun w1 b4 H=>eI H cM Z fun w2 b8 H=>G (Wi Z)<|U<|W<|Zr<|G (Zw aq H 1 Z Z Z)<|G (Yt Z)<|G (Yi Z)<|ch gD (zY ⟨ck,nx,wt,txs,cA,cc⟩ s ver _ ⟨H.rd0 0 Z,fun t ht=>fx H 1 Z ht,hcap,hfew,hfp⟩ hok hn hi) Z Z ?_
 rintro _ w3 ⟨rfl,hb⟩;replace H:=H.later hb;clear hb
 refine G (Yu Z)<|G (Xa Z Z)<|G (Xi Z Z)<|G (Xi Z Z)<|bg H 1 (#[J (0),J (0),J (0),.slice none 0 0]) aA Z Z Z Z Z N N fun w4 H=>G (Wi Z)<|G (Wi Z)<|U<|W<|W<|Zr<|G (Yi Z)<|G (j9 Z Z (by decide))<|U<|ZT Z<|W<|Zr<|G (bn (cs:= #[J (0),J (0),J (0),.slice none 0 0]) fz cM N)<|G (Yi Z)<|bg H 0 (#[J (0),J (0),J (0),.slice none 0 0]) aA Z Z Z Z Z N N fun w5 H=>G (Wi Z)<|U<|Zt ?_
 exact bG (cs0:= #[J 0,J 0,J 0,.slice none 0 0]) (v1:=J 5) Z aq Z (H.ent (i:=0) Z) Z Z ⟨rfl,H.below⟩
theorem I5 (c:Co) (s:ByteArray) (ver:Int) (b:Bool) (i:Nat) (t:Tx) (w:World) (h:c.rd 0 w.heap.size w) (hok:gi c=true) (hn:bQ s=true) (hi:fL c s=i) (ht:c.txs[i]? =some t) (hv:t.ver≠ver):dg ab lQ [c.v,.string s,J ver,.bool b] w fun v w2=>v=.tuple #[.agg #[J 0,J 0,J 0,.slice none 0 0],J 10]/\Below w.heap.size w w2:=by
 refine aF pz Z Z ?_
 have hcap:=h.cap
 have hfew:=h.few
 have hfp:=h.fewP
 have H:=Hp.startCo h
 obtain⟨ck,nx,wt,txs,cA,cc⟩:=c
 dsimp only at hcap hfew hfp H
 show CW _ _ _ _ (args [.agg #[J ck,J nx,J wt,.slice cA txs.length cc],.string s,J ver,.bool b]) w
 dsimp only at ht
 refine W<|Zr<|fW H Z Z fun w1 b4 H=>eI H cM Z fun w2 b8 H=>G (Wi Z)<|U<|W<|Zr<|G (Zw aq H 1 Z Z Z)<|G (Yt Z)<|G (Yi Z)<|ch gD (yi ⟨ck,nx,wt,txs,cA,cc⟩ s ver i t _ ⟨H.rd0 0 Z,fun t ht=>fx H 1 Z ht,hcap,hfew,hfp⟩ hok hn hi ht hv) Z Z ?_
 rintro _ w3 ⟨rfl,hb⟩;replace H:=H.later hb;clear hb
 refine G (Yu Z)<|G (Xa Z Z)<|G (Xi Z Z)<|G (Xi Z Z)<|bg H 1 (#[J (0),J (0),J (0),.slice none 0 0]) aA Z Z Z Z Z N N fun w4 H=>G (Wi Z)<|G (Wi Z)<|U<|W<|W<|Zr<|G (Yi Z)<|G (j9 Z Z (by decide))<|U<|ZT Z<|W<|Zr<|G (bn (cs:= #[J (0),J (0),J (0),.slice none 0 0]) fz cM N)<|G (Yi Z)<|bg H 0 (#[J (0),J (0),J (0),.slice none 0 0]) aA Z Z Z Z Z N N fun w5 H=>G (Wi Z)<|U<|Zt ?_
 exact bG (cs0:= #[J 0,J 0,J 0,.slice none 0 0]) (v1:=J 10) Z aq Z (H.ent (i:=0) Z) Z Z ⟨rfl,H.below⟩
theorem JK (c:Co) (n:Int) (w:World) (h:c.rd 0 w.heap.size w) (hok:gi c=true) (hn:1000<n):dg ab su [c.v,J n] w fun v w2=>v=.tuple #[.agg #[J 0,J 0,J 0,.slice none 0 0],J 2]/\Below w.heap.size w w2:=by
 refine aF u7 Z Z ?_
 have hcap:=h.cap
 have hfew:=h.few
 have hfp:=h.fewP
 have H:=Hp.startCo h
 obtain⟨ck,nx,wt,txs,cA,cc⟩:=c
 dsimp only at hcap hfew hfp H
 show CW _ _ _ _ (args [.agg #[J ck,J nx,J wt,.slice cA txs.length cc],J n]) w
 refine W<|Zr<|fW H Z Z fun w1 b2 H=>eI H cM Z fun w2 b4 H=>G (Wi Z)<|U<|W<|W<|Zr<|G (Zw aq H 1 Z Z Z)<|ch jh (nB ⟨ck,nx,wt,txs,cA,cc⟩ _ ⟨H.rd0 0 Z,fun t ht=>fx H 1 Z ht,hcap,hfew,hfp⟩) Z Z ?_
 rw[hok]
 rintro _ w3 ⟨rfl,hb⟩;replace H:=H.later hb;clear hb
 refine G (Wi Z)<|U<|W<|Zr<|G (Yi Z)<|G (ce Z Z Z)<|U<|ZF Z<|Zk<|W<|W<|Zr<|G (Yi Z)<|G (dd Z Z I)<|G (Yb Z)<|ZG<|G (Yi Z)<|ZG<|G (GO Z Z I)<|G (N Z Z)<|G (Yb Z)<|ZN<|ZN<|ZN<|ZN<|ZN<|G (Kt Z Z)<|U<|ZT Z<|W<|Zr<|G (bn (cs:= #[J (0),J (0),J (0),.slice none 0 0]) fz cM N)<|bg H 0 (#[J (0),J (0),J (0),.slice none 0 0]) aA Z Z Z Z Z N N fun w4 H=>G (Wi Z)<|U<|Zt ?_
 exact bG (cs0:= #[J 0,J 0,J 0,.slice none 0 0]) (v1:=J 2) Z aq Z (H.ent (i:=0) Z) Z Z ⟨rfl,H.below⟩
theorem Co.rd.st {c:Co} {lo hi:Nat} {w w':World} (hk: ∀ k,lo<=k->k<hi->w'.heap[k]? =w.heap[k]?) (h:c.rd lo hi w):c.rd lo hi w':=
 ⟨h.row.st hk,fun t ht=>(h.parts t ht).st hk,h.cap,h.few,h.fewP⟩
theorem Co.rd.mono {c:Co} {lo hi lo' hi':Nat} {w:World} (h:c.rd lo hi w) (hl:lo'<=lo) (hh:hi<=hi'):c.rd lo' hi' w:=
 ⟨h.row.mono hl hh,fun t ht=>(h.parts t ht).mono hl hh,h.cap,h.few,h.fewP⟩
def P6 (lo hi:Nat) (c:Co):cz:=⟨lo,hi,c.rd lo hi,fun _ _ hk h=>h.st hk⟩
theorem Hp.co {w0 w:World} {L:List (Nat×Obj)} {F:List cz} {lo hi:Nat} {c:Co} (H:Hp w0 w L F) (i:Nat) (hF:F[i]? =some (P6 lo hi c)):c.rd 0 w.heap.size w:=
 Co.rd.mono (H.fact hF) (bK _) (H.facts _ (ah hF)).2.1
def t7 (w w2:World) (c:Co):Prop:=c.rd w.heap.size w2.heap.size w2/\Below w.heap.size w w2
theorem Hd.new {w w2:World} {c:Co} (h:Hd w w2 c) (h1:c.txs.length<=8) (h2: ∀ t∈c.txs,t.parts.length<=4):t7 w w2 c:=
 ⟨⟨h.row,h.parts,h.cap,by omega,fun t ht=>⟨by have:=h2 t ht;omega,h.caps t ht⟩⟩,h.below⟩
theorem pf {w w2:World} (h:Below w.heap.size w w2):t7 w w2 yA:=(Nt h).new (by simp[yA]) (by simp[yA])
theorem EE {l:List Int} (h:cU (-1) l=true):l.length<=4:=by have:=ml h;omega
theorem B3 {ck nx:Int}: ∀ {l pre:List Tx},nT ck nx pre l=true↔(∀ t∈l,fH ck nx t=true)/\(∀ t∈l,∀ p∈pre,sg t p=false)/\l.Pairwise (fun p t=>sg t p=false)
 |[],pre=>by simp[nT]
 |t::l,pre=>by
  unfold nT
  rw[aR,aR,B3,ex]
  simp only[ay,ax,au,forall_eq_or_imp,pb,CO]
  constructor
  rintro⟨⟨h1,h2⟩,h3,h4,h5⟩
  exact⟨⟨h1,h3⟩,⟨fun p hp=>by simpa using h2 p hp,fun a ha p hp=>h4 a ha p (.inl hp)⟩,fun a ha=>h4 a ha t (by simp),h5⟩
  rintro⟨⟨h1,h3⟩,⟨h2,h4⟩,h5,h6⟩
  exact⟨⟨h1,fun p hp=>by simpa using h2 p hp⟩,h3,fun a ha p hp=>hp.elim (h4 a ha p) (fun h=>by have:=h5 a ha;simp at h;rwa[h]),h6⟩
def vr (l:List Tx):Prop:=(l.map fun t=>(t.name,t.pid)).Pairwise fun p t=>p.1≠t.1/\p.2≠t.2
theorem Jo {l:List Tx}:vr l↔l.Pairwise (fun p t=>sg t p=false):=by
 unfold vr
 rw[jq]
 constructor<;>intro h<;>refine h.imp fun{a b} hab=> ?_
 simpa [sg]using hab
 simpa [sg]using hab
theorem gK {c:Co}:gi c=true↔(iS c.clock=true/\1<=c.next/\c.next<=1073741824/\1<=c.wait/\c.wait<=1000/\(c.txs.length:Int)<=8)/\(∀ t∈c.txs,fH c.clock c.next t=true)/\vr c.txs:=by
 rw[iW,B3,Jo]
 constructor
 rintro⟨h1,h2,h3,h4,h5,h6,h7,h8,h9⟩;exact⟨⟨h1,h2,h3,h4,h5,h6⟩,h7,h9⟩
 rintro⟨⟨h1,h2,h3,h4,h5,h6⟩,h7,h9⟩;exact⟨h1,h2,h3,h4,h5,h6,h7,by simp,h9⟩
theorem GZ {c:Co} (h:gi c=true):c.txs.length<=8/\ ∀ t∈c.txs,t.parts.length<=4:=by
 obtain⟨⟨_,_,_,_,_,h6⟩,h7,_⟩:=gK.1 h
 exact⟨by omega,fun t ht=>EE (cF.1 (h7 t ht)).2.2.2.2.2.2.2.2.2.1⟩
theorem qi.new {w w2:World} {ca c':Co} {Lr Lp:List (Nat×Obj)} (h:qi w w2 ca c' Lr Lp) (hok:gi ca=true):t7 w w2 c':=by
 have h1:gi c'=true:=by rw[ru,h.1];exact hok
 obtain⟨h2,h3⟩:=GZ h1
 exact h.read.new h2 h3
def f5 (c:Co) (s:ByteArray):Option (Nat×Tx):=(c.txs.findIdx? fun p=>decide (p.name=s)).bind fun i=>c.txs[i]?.map fun t=>(i,t)
def qC (c:Co) (i:Nat) (t:Tx):Co:={c with txs:=c.txs.set i t}
theorem uu {c:Co} {s:ByteArray} (h:f5 c s=none):fL c s= -1:=by
 unfold f5 at h
 unfold fL
 cases hi:c.txs.findIdx? fun p=>decide (p.name=s)with
 |none=>rfl
 |some i=>
  obtain⟨hl,-⟩:=bh.1 hi
  rw[hi]at h
  simp[ai hl]at h
theorem jf {c:Co} {s:ByteArray} {i:Nat} {t:Tx} (h:f5 c s=some (i,t)):fL c s=i/\c.txs[i]? =some t/\t.name=s:=by
 unfold f5 at h
 unfold fL
 cases hi:c.txs.findIdx? fun p=>decide (p.name=s)with
 |none=>rw[hi]at h;cases h
 |some j=>
  obtain⟨hl,hn,-⟩:=bh.1 hi
  rw[hi]at h
  simp only[fT,ai hl,eX,lv,Prod.mk.injEq]at h
  obtain⟨rfl,rfl⟩:=h
  exact⟨rfl,ai hl,by simpa using hn⟩
theorem Aw (c:Co) (s:ByteArray):f5 c.a s=(f5 c s).map fun(i,t)=>(i,t.a):=by
 have e:c.a.txs.findIdx? (fun p=>decide (p.name=s))=c.txs.findIdx? fun p=>decide (p.name=s):=by
  show(c.txs.map Tx.a).findIdx? _=_
  rw[CN]
  rfl
 unfold f5
 rw[e]
 cases c.txs.findIdx? fun p=>decide (p.name=s)with
 |none=>rfl
 |some i=>
  show(c.txs.map Tx.a)[i]?.map _=(c.txs[i]?.map _).map _
  rw[aL]
  cases c.txs[i]? <;>rfl
theorem yW (c:Co) (i:Nat) (t:Tx):(qC c i t).a=qC c.a i t.a:=by
 unfold qC Co.a
 simp only[cD]
theorem Jg (c:Co) (s:ByteArray):(qb c s).a=qb c.a s:=by
 unfold qb Co.a
 simp only[bo,eM,mh]
 rfl
def bX (c:Co) (s:ByteArray):Co×Int×Int×Int:=match f5 c s with
 |none=>if c.txs.length=8 then(yA,0,0,16)else(qb c s,c.next,0,0)
 |some (i,t)=>if t.state=3∨t.state=4 then(yA,0,0,12)else(qC c i (bx t),t.pid,t.ver+1,0)
def oD (c:Co) (s:ByteArray) (ver p:Int):Co×Int:=match f5 c s with
 |none=>(yA,5)
 |some (i,t)=>if t.ver≠ver then(yA,10)else if t.state=1∨t.state=2 then(qC c i (iE c.clock p t),0)else(yA,12)
def kW (c:Co) (s:ByteArray) (ver:Int) (b:Bool):Co×Int:=match f5 c s with
 |none=>(yA,5)
 |some (i,t)=>if t.ver≠ver then(yA,10)else match eL (vu b) t with
  |none=>(yA,12)
  |some t'=>(qC c i t',0)
def qJ (c:Co) (s:ByteArray) (p:Int):Co×Int:=match f5 c s with
 |none=>(yA,5)
 |some (i,t)=>if t.state=3∨t.state=4 then if p∈t.parts then(qC c i (gB p t),0)else(yA,5)else(yA,12)
def je (c:Co) (n:Int):Co×Int:=if 1000<n then(yA,2)else(vv c n,0)
structure oI (k:Nat) (c:Co):Prop where
 ok:gi c=true
 clock:c.clock<=1000*k
 next:c.next<=k+1
 ver: ∀ t∈c.txs,t.ver<=k
theorem oI.more {k m:Nat} {c:Co} (h:oI k c) (hm:k<=m):oI m c:=⟨h.ok,by have:=h.clock;omega,by have:=h.next;omega,fun t ht=>by have:=h.ver t ht;omega⟩
theorem Dh {α:Type} {l:List α} {i:Nat} {a x:α} (h:x∈l.set i a):x∈l∨x=a:=bH h
theorem Jn {l:List Tx} {i:Nat} {t t':Tx} (h:vr l) (hi:l[i]? =some t) (hn:t'.name=t.name) (hp:t'.pid=t.pid):vr (l.set i t'):=by
 unfold vr at h⊢
 rw[cD,hn,hp,iO (by rw[aL,hi];rfl)]
 exact h
theorem oI.set {k:Nat} {c:Co} {i:Nat} {t t':Tx} (h:oI k c) (hi:c.txs[i]? =some t) (hn:t'.name=t.name) (hp:t'.pid=t.pid) (hok:fH c.clock c.next t'=true) (hv:t'.ver<=k+1):oI (k+1) (qC c i t'):=by
 obtain⟨h1,h2,h3⟩:=gK.1 h.ok
 refine⟨gK.2 ⟨?_,fun x hx=> ?_,Jn h3 hi hn hp⟩,?_,?_,fun x hx=> ?_⟩
 simpa [qC]using h1
 rcases Dh hx with hx|rfl
 exact h2 x hx
 exact hok
 have:=h.clock;show c.clock<=_;omega
 have:=h.next;show c.next<=_;omega
 rcases Dh hx with hx|rfl
 have:=h.ver x hx;omega
 omega
theorem Oy:(1:Int)<=1:=by decide
theorem O8:(1:Int)<=2:=by decide
theorem MG:(1:Int)<=4:=by decide
theorem O7:(2:Int)<=4:=by decide
theorem Ox:(4:Int)<=4:=by decide
theorem Oz:(1:Int)=1↔([]:List Int).length=0:=by decide
theorem jL {n:Int}:iS n=true↔0<=n/\n<=1073741824:=by unfold iS;simp
theorem Hz {k:Nat} {c:Co} {s:ByteArray} (h:oI k c) (hk:k<=1000) (hn:bQ s=true) (h0:(bX c s).2.2.2=0):oI (k+1) (bX c s).1:=by
 have hb:=h
 obtain⟨⟨h1,h2,h3,h4,h5,h6⟩,h7,h8⟩:=gK.1 h.ok
 unfold bX at h0⊢
 cases hf:f5 c s with
 |none=>
  rw[hf]at h0
  dsimp only at h0⊢
  by_cases hl:c.txs.length=8
  rw[if_pos hl]at h0;cases h0
  rw[if_neg hl]at h0⊢
  have hnx:=h.next
  have hck:=h.clock
  have hni:=uu hf
  refine⟨gK.2 ⟨⟨h1,?_,?_,h4,h5,?_⟩,fun t ht=> ?_,?_⟩,?_,?_,fun t ht=> ?_⟩
  show 1<=c.next+1;omega
  show c.next+1<=_;omega
  show((c.txs++[_]).length:Int)<=8
  rw[az,bU];omega
  rcases ax.1 ht with ht|ht
  have:=cF.1 (h7 t ht)
  exact cF.2 ⟨this.1,this.2.1,by show t.pid<c.next+1;have:=this.2.2.1;omega,this.2.2.2⟩
  rw[au.1 ht]
  exact cF.2 ⟨hn,h2,by show c.next<c.next+1;omega,by kernel_rfl,Oy,MG,by show(0:Int)<=0;omega,by show(0:Int)<=c.clock;exact(jL.1 h1).1,.inl Z,rfl,Oz⟩
  unfold vr at h8⊢
  show((c.txs++[iR s c.next]).map _).Pairwise _
  rw[bo,lY]
  refine⟨h8,by simp,fun a ha b hb=> ?_⟩
  obtain⟨t,ht,rfl⟩:=bB.1 ha
  simp only[eM,mh,au]at hb
  subst hb
  refine⟨fun he=> ?_,fun he=> ?_⟩
  have:(c.txs.findIdx? fun p=>decide (p.name=s))=none:=by
   cases hi:c.txs.findIdx? fun p=>decide (p.name=s)with
   |none=>rfl
   |some j=>unfold fL at hni;rw[hi]at hni;simp[lE]at hni
  rw[dq]at this
  have:=this t ht
  simp[show t.name=s from he]at this
  have:=(cF.1 (h7 t ht)).2.2.1
  have he':t.pid=c.next:=he
  omega
  show c.clock<=_;omega
  show c.next+1<=_;omega
  rcases ax.1 ht with ht|ht
  have:=h.ver t ht;omega
  rw[au.1 ht];show(0:Int)<=_;omega
 |some x=>
  obtain⟨i,t⟩:=x
  rw[hf]at h0
  dsimp only at h0⊢
  obtain⟨hi,ht,-⟩:=jf hf
  by_cases hs:t.state=3∨t.state=4
  rw[if_pos hs]at h0;cases h0
  rw[if_neg hs]at h0⊢
  have hm:=ah ht
  have hv:=h.ver t hm
  obtain⟨a1,a2,a3,a4,a5,a6,a7,a8,a9,a10,a11⟩:=cF.1 (h7 t hm)
  have hv0:=(jL.1 a4).1
  refine h.set ht ?_ ?_ ?_ ?_
  unfold bx;split<;>rfl
  unfold bx;split<;>rfl
  unfold bx
  split
  rename_i h2'
  exact cF.2 ⟨a1,a2,a3,jL.2 ⟨by show 0<=t.ver+1;omega,by show t.ver+1<=_;omega⟩,MG,Ox,a7,a8,a9,a10,by constructor;intro h;cases h;intro h;have:=a11.2 h;omega⟩
  exact cF.2 ⟨a1,a2,a3,jL.2 ⟨by show 0<=t.ver+1;omega,by show t.ver+1<=_;omega⟩,a5,a6,a7,a8,a9,a10,a11⟩
  unfold bx;split<;>(show t.ver+1<=_;omega)
theorem FJ {l:List Int} {p:Int} (h:cU (-1) l=true) (h0:0<=p) (h3:p<4):cU (-1) (kB l p)=true/\(kB l p).length≠0:=by
 have key: ∀ (l:List Int) (a:Int),l.Pairwise (· < ·)->(∀ q∈l,a<q/\q<4)->cU a l=true:=by
  intro l
  induction l with
  |nil=>intro a _ _;rfl
  |cons x l ih=>
   intro a hp hq
   obtain⟨h1,h2⟩:=ex.1 hp
   unfold cU
   have:=hq x (aC ..)
   rw[ih x h2 fun q hq'=>⟨h1 q hq',(hq q (al _ hq')).2⟩]
   simp[this.1,this.2]
 obtain⟨hp,hq⟩:=fK h
 unfold kB
 split
 rename_i hm
 refine⟨h,fun h0=> ?_⟩
 rw[bY h0]at hm;cases hm
 rename_i hm
 refine⟨key _ _ ?_ ?_,by simp⟩
 rw[aE,lY]
 refine⟨hp.filter _,?_,?_⟩
 rw[lY]
 refine⟨by simp,hp.filter _,fun a ha b hb=> ?_⟩
 rw[au.1 ha]
 simp only[kS,decide_eq_true_eq]at hb
 have:b≠p:=fun h=>hm (h▸hb.1)
 omega
 intro a ha b hb
 simp only[kS,decide_eq_true_eq]at ha
 rcases ax.1 hb with hb|hb
 rw[au.1 hb];exact ha.2
 simp only[kS,decide_eq_true_eq]at hb;omega
 intro q hq'
 simp only[ax,kS,au,decide_eq_true_eq]at hq'
 rcases hq' with(hq'|rfl)|hq'
 exact hq q hq'.1
 omega
 exact hq q hq'.1
theorem LD {ck nx p:Int} {t:Tx} (h:fH ck nx t=true) (hc:iS ck=true) (h0:0<=p) (h3:p<4):fH ck nx (iE ck p t)=true:=by
 obtain⟨a1,a2,a3,a4,a5,a6,a7,a8,a9,a10,a11⟩:=cF.1 h
 obtain⟨b1,b2⟩:=FJ a10 h0 h3
 have hc0:=(jL.1 hc).1
 unfold iE
 split
 exact cF.2 ⟨a1,a2,a3,a4,O8,O7,hc0,iX _,a9,b1,by constructor;intro h;cases h;intro h;exact absurd h b2⟩
 rename_i h1
 exact cF.2 ⟨a1,a2,a3,a4,a5,a6,a7,a8,a9,b1,by constructor;intro h;exact absurd h h1;intro h;exact absurd h b2⟩
theorem HO {k:Nat} {c:Co} {s:ByteArray} {ver p:Int} (h:oI k c) (h0:0<=p) (h3:p<4) (he:(oD c s ver p).2=0):oI (k+1) (oD c s ver p).1:=by
 obtain⟨⟨h1,-⟩,h7,-⟩:=gK.1 h.ok
 unfold oD at he⊢
 cases hf:f5 c s with
 |none=>rw[hf]at he;cases he
 |some x=>
  obtain⟨i,t⟩:=x
  rw[hf]at he
  dsimp only at he⊢
  obtain⟨-,ht,-⟩:=jf hf
  split at he
  cases he
  rename_i hv
  rw[if_neg hv]
  split at he
  rename_i hs
  rw[if_pos hs]
  have hm:=ah ht
  refine h.set ht ?_ ?_ (LD (h7 t hm) h1 h0 h3) ?_
  unfold iE;split<;>rfl
  unfold iE;split<;>rfl
  have:=h.ver t hm
  unfold iE;split<;>(show t.ver<=_;omega)
  cases he
theorem Lc {ck nx w:Int} {t t':Tx} (h:fH ck nx t=true) (hw:w=3∨w=4) (he:eL w t=some t'):fH ck nx t'=true/\t'.name=t.name/\t'.pid=t.pid/\t'.ver=t.ver:=by
 obtain⟨a1,a2,a3,a4,a5,a6,a7,a8,a9,a10,a11⟩:=cF.1 h
 unfold eL at he
 split at he
 injection he with he;subst he
 refine⟨cF.2 ⟨a1,a2,a3,a4,by show 1<=w;omega,by show w<=4;omega,a7,a8,a9,a10,?_⟩,rfl,rfl,rfl⟩
 constructor
 intro h;have h':w=1:=h;omega
 intro h;have:=a11.2 h;omega
 split at he
 injection he with he;subst he
 exact⟨cF.2 ⟨a1,a2,a3,a4,a5,a6,a7,a8,.inr hw,a10,a11⟩,rfl,rfl,rfl⟩
 split at he
 injection he with he;subst he
 exact⟨h,rfl,rfl,rfl⟩
 cases he
theorem HX (b:Bool):vu b=3∨vu b=4:=by cases b<;>simp[vu]
theorem HE {k:Nat} {c:Co} {s:ByteArray} {ver:Int} {b:Bool} (h:oI k c) (he:(kW c s ver b).2=0):oI (k+1) (kW c s ver b).1:=by
 obtain⟨-,h7,-⟩:=gK.1 h.ok
 unfold kW at he⊢
 cases hf:f5 c s with
 |none=>rw[hf]at he;cases he
 |some x=>
  obtain⟨i,t⟩:=x
  rw[hf]at he
  dsimp only at he⊢
  obtain⟨-,ht,-⟩:=jf hf
  split at he
  cases he
  rename_i hv
  rw[if_neg hv]
  have hm:=ah ht
  cases hx:eL (vu b) t with
  |none=>rw[hx]at he;cases he
  |some t'=>
   obtain⟨b1,b2,b3,b4⟩:=Lc (h7 t hm) (HX b) hx
   refine h.set ht b2 b3 b1 ?_
   have:=h.ver t hm;omega
theorem zC {l:List Int} (h:cU (-1) l=true) (f:Int->Bool):cU (-1) (l.filter f)=true:=by
 have key: ∀ (l:List Int) (a:Int),l.Pairwise (· < ·)->(∀ q∈l,a<q/\q<4)->cU a l=true:=by
  intro l
  induction l with
  |nil=>intro a _ _;rfl
  |cons x l ih=>
   intro a hp hq
   obtain⟨h1,h2⟩:=ex.1 hp
   unfold cU
   have:=hq x (aC ..)
   rw[ih x h2 fun q hq'=>⟨h1 q hq',(hq q (al _ hq')).2⟩]
   simp[this.1,this.2]
 obtain⟨hp,hq⟩:=fK h
 exact key _ _ (hp.filter _) fun q hq'=>hq q ((kS.1 hq').1)
theorem Ja {ck nx p:Int} {t:Tx} (h:fH ck nx t=true) (hs:t.state=3∨t.state=4):fH ck nx (gB p t)=true/\(gB p t).name=t.name/\(gB p t).pid=t.pid/\(gB p t).ver=t.ver:=by
 obtain⟨a1,a2,a3,a4,a5,a6,a7,a8,a9,a10,a11⟩:=cF.1 h
 unfold gB
 split
 exact⟨cF.2 ⟨a1,a2,a3,a4,Oy,MG,a7,a8,.inr hs,rfl,Oz⟩,rfl,rfl,rfl⟩
 rename_i hl
 refine⟨cF.2 ⟨a1,a2,a3,a4,a5,a6,a7,a8,a9,zC a10 _,?_⟩,rfl,rfl,rfl⟩
 constructor
 intro h;have h':t.state=1:=h;omega
 intro h;exact absurd h hl
theorem Fy {k:Nat} {c:Co} {s:ByteArray} {p:Int} (h:oI k c) (he:(qJ c s p).2=0):oI (k+1) (qJ c s p).1:=by
 obtain⟨-,h7,-⟩:=gK.1 h.ok
 unfold qJ at he⊢
 cases hf:f5 c s with
 |none=>rw[hf]at he;cases he
 |some x=>
  obtain⟨i,t⟩:=x
  rw[hf]at he
  dsimp only at he⊢
  obtain⟨-,ht,-⟩:=jf hf
  split at he
  rename_i hs
  rw[if_pos hs]
  split at he
  rename_i hp
  rw[if_pos hp]
  have hm:=ah ht
  obtain⟨b1,b2,b3,b4⟩:=Ja (p:=p) (h7 t hm) hs
  refine h.set ht b2 b3 b1 ?_
  have:=h.ver t hm;omega
  cases he
  cases he
theorem xk {ck ck2 nx wt:Int} {t:Tx} (h:fH ck nx t=true) (hc:ck<=ck2):fH ck2 nx (fp ck2 wt t)=true/\(fp ck2 wt t).name=t.name/\(fp ck2 wt t).pid=t.pid/\(fp ck2 wt t).ver<=t.ver+1:=by
 obtain⟨a1,a2,a3,a4,a5,a6,a7,a8,a9,a10,a11⟩:=cF.1 h
 have hv:=jL.1 a4
 unfold fp
 split
 rename_i h2
 refine⟨cF.2 ⟨a1,a2,a3,jL.2 ⟨by show 0<=t.ver+1;omega,by show t.ver+1<=_;omega⟩,MG,Ox,a7,by show t.since<=ck2;omega,a9,a10,?_⟩,rfl,rfl,iX _⟩
 constructor
 intro h;cases h
 intro h;have:=a11.2 h;omega
 exact⟨cF.2 ⟨a1,a2,a3,a4,a5,a6,a7,by omega,a9,a10,a11⟩,rfl,rfl,by omega⟩
theorem Ei {k:Nat} {c:Co} {n:Int} (h:oI k c) (hk:k<=1000) (hn:0<=n) (he:(je c n).2=0):oI (k+1) (je c n).1:=by
 obtain⟨⟨h1,h2,h3,h4,h5,h6⟩,h7,h8⟩:=gK.1 h.ok
 have hck:=h.clock
 have hc0:=(jL.1 h1).1
 unfold je at he⊢
 split at he
 cases he
 rename_i hn1
 rw[if_neg hn1]
 unfold vv
 refine⟨gK.2 ⟨⟨jL.2 ⟨by show 0<=c.clock+n;omega,by show c.clock+n<=_;omega⟩,h2,h3,h4,h5,by simpa using h6⟩,fun t ht=> ?_,?_⟩,by show c.clock+n<=1000*((k+1:Nat):Int);omega,by have:=h.next;show c.next<=_;omega,fun t ht=> ?_⟩
 obtain⟨x,hx,rfl⟩:=bB.1 ht
 exact(xk (h7 x hx) (show c.clock<=c.clock+n by omega)).1
 unfold vr at h8⊢
 dsimp only
 rw[r5]
 rw[List.map_congr_left (g:=fun t=>(t.name,t.pid)) fun t ht=>by
  obtain⟨-,e1,e2,-⟩:=xk (ck2:=c.clock+n) (wt:=c.wait) (h7 t ht) I
  show((fp _ _ t).name,(fp _ _ t).pid)=_
  rw[e1,e2]]
 exact h8
 obtain⟨x,hx,rfl⟩:=bB.1 ht
 obtain⟨-,-,-,e3⟩:=xk (ck2:=c.clock+n) (wt:=c.wait) (h7 x hx) I
 have:=h.ver x hx
 omega
theorem oI.a {k:Nat} {c:Co} (h:oI k c):oI k c.a:=⟨by rw[<-ru];exact h.ok,h.clock,h.next,fun t ht=>by
 obtain⟨x,hx,rfl⟩:=bB.1 (show t∈c.txs.map Tx.a from ht)
 exact h.ver x hx⟩
theorem oI.of_a {k:Nat} {c:Co} (h:oI k c.a):oI k c:=⟨by rw[ru];exact h.ok,h.clock,h.next,fun t ht=>h.ver t.a (bP (f:=Tx.a) ht)⟩
theorem oI.at_ {k:Nat} {c:Co} (h:oI k c) {i:Nat} {t:Tx} (ht:c.txs[i]? =some t):fH c.clock c.next t=true:=(gK.1 h.ok).2.1 t (ah ht)
theorem C2 {c:Co} {s:ByteArray} {i:Nat} {t:Tx} (h:f5 c s=some (i,t)):f5 c.a s=some (i,t.a):=by rw[Aw,h];rfl
theorem Gp {c:Co} {s:ByteArray} (h:f5 c s=none):f5 c.a s=none:=by rw[Aw,h];rfl
theorem KL (t:Tx):bx t.a=(bx t).a:=by
 unfold bx
 by_cases h:t.state=2
 rw[if_pos (show t.a.state=2 from h),if_pos h];rfl
 rw[if_neg (show¬ t.a.state=2 from h),if_neg h];rfl
theorem wq (c:Co) (s:ByteArray) (k:Nat) (w:World) (h:c.rd 0 w.heap.size w) (hb:oI k c) (hk:k<=1000) (hn:bQ s=true):dg ab mu [c.v,.string s] w fun v w2=> ∃ c':Co,v=.tuple #[c'.v,J (bX c.a s).2.1,J (bX c.a s).2.2.1,J (bX c.a s).2.2.2]/\c'.a=(bX c.a s).1/\t7 w w2 c':=by
 have hnx:=hb.next
 have hpost:(bX c s).2.2.2=0->oI (k+1) (bX c s).1:=Hz hb hk hn
 cases hf:f5 c s with
 |none=>
  have hi:=uu hf
  have ha:=Gp hf
  unfold bX at hpost⊢
  rw[ha]
  rw[hf]at hpost
  dsimp only at hpost⊢
  by_cases hl:c.txs.length=8
  rw[if_pos (show c.a.txs.length=8 by simpa [Co.a]using hl)]
  exact(FB c s w h hb.ok hn I hl).mono fun v w2 ⟨h1,h2⟩=>⟨yA,h1,rfl,pf h2⟩
  rw[if_neg (show¬ c.a.txs.length=8 by simpa [Co.a]using hl)]
  rw[if_neg hl]at hpost
  exact(IV c s w h hb.ok hn I hl I).mono fun v w2 ⟨c',Lr,Lp,h1,h2⟩=>⟨c',h1,h2.1,h2.new (by rw[<-Jg,<-ru];exact(hpost Z).ok)⟩
 |some x=>
  obtain⟨i,t⟩:=x
  obtain⟨hi,ht,-⟩:=jf hf
  have ha:=C2 hf
  have hm:=ah ht
  have hv0:=jL.1 (cF.1 (hb.at_ ht)).2.2.2.1
  have hv:=hb.ver t hm
  unfold bX at hpost⊢
  rw[ha]
  rw[hf]at hpost
  dsimp only at hpost⊢
  by_cases hs:t.state=3∨t.state=4
  rw[if_pos (show t.a.state=3∨t.a.state=4 from hs)]
  exact(GG c s i t w h hb.ok hn hi ht hs).mono fun v w2 ⟨h1,h2⟩=>⟨yA,h1,rfl,pf h2⟩
  rw[if_neg (show¬ (t.a.state=3∨t.a.state=4)from hs)]
  rw[if_neg hs]at hpost
  exact(GH c s i t w h hb.ok hn hi ht (fun h=>hs (.inl h)) (fun h=>hs (.inr h)) hv0.1 I).mono fun v w2 ⟨c',Lr,Lp,h1,h2⟩=>⟨c',h1,h2.1.trans (by rw[show({c with txs:=c.txs.set i (bx t)}:Co)=qC c i (bx t)from rfl,yW,KL]),h2.new (by rw[<-ru];exact(hpost Z).ok)⟩
theorem LE (ck p:Int) (t:Tx):iE ck p t.a=(iE ck p t).a:=by
 unfold iE
 by_cases h:t.state=1
 rw[if_pos (show t.a.state=1 from h),if_pos h];rfl
 rw[if_neg (show¬ t.a.state=1 from h),if_neg h];rfl
theorem FI (c:Co) (s:ByteArray) (ver p:Int) (k:Nat) (w:World) (h:c.rd 0 w.heap.size w) (hb:oI k c) (hn:bQ s=true) (h0:0<=p) (h3:p<4):dg ab od [c.v,.string s,J ver,J p] w fun v w2=> ∃ c':Co,v=.tuple #[c'.v,J (oD c.a s ver p).2]/\c'.a=(oD c.a s ver p).1/\t7 w w2 c':=by
 have hpost:(oD c s ver p).2=0->oI (k+1) (oD c s ver p).1:=HO hb h0 h3
 cases hf:f5 c s with
 |none=>
  have hi:=uu hf
  have ha:=Gp hf
  unfold oD
  rw[ha]
  exact(LC c s ver p w h hb.ok hn hi).mono fun v w2 ⟨h1,h2⟩=>⟨yA,h1,rfl,pf h2⟩
 |some x=>
  obtain⟨i,t⟩:=x
  obtain⟨hi,ht,-⟩:=jf hf
  have ha:=C2 hf
  unfold oD at hpost⊢
  rw[ha]
  rw[hf]at hpost
  dsimp only at hpost⊢
  by_cases hv:t.ver=ver
  rw[if_neg (show¬ t.a.ver≠ver from fun h=>h hv)]
  rw[if_neg (fun h=>h hv)]at hpost
  by_cases hs:t.state=1∨t.state=2
  rw[if_pos (show t.a.state=1∨t.a.state=2 from hs)]
  rw[if_pos hs]at hpost
  exact(N9 c s ver p i t w h hb.ok hn hi ht hv h0 h3 hs (cF.1 (hb.at_ ht)).2.2.2.2.2.2.2.2.2.1).mono fun v w2 ⟨c',Lr,Lp,h1,h2⟩=>⟨c',h1,h2.1.trans (by rw[show({c with txs:=c.txs.set i (iE c.clock p t)}:Co)=qC c i (iE c.clock p t)from rfl,yW,LE];rfl),h2.new (by rw[<-ru];exact(hpost Z).ok)⟩
  rw[if_neg (show¬ (t.a.state=1∨t.a.state=2)from hs)]
  exact(Jr c s ver p i t w h hb.ok hn hi ht hv h0 h3 (fun h=>hs (.inl h)) (fun h=>hs (.inr h))).mono fun v w2 ⟨h1,h2⟩=>⟨yA,h1,rfl,pf h2⟩
  rw[if_pos (show t.a.ver≠ver from hv)]
  exact(Js c s ver p i t w h hb.ok hn hi ht hv).mono fun v w2 ⟨h1,h2⟩=>⟨yA,h1,rfl,pf h2⟩
theorem MR (w:Int) (t:Tx):eL w t.a=(eL w t).map Tx.a:=by
 unfold eL
 by_cases h1:t.state=2
 rw[if_pos (show t.a.state=2 from h1),if_pos h1];rfl
 rw[if_neg (show¬ t.a.state=2 from h1),if_neg h1]
 by_cases h2:t.state=1/\t.done=0
 rw[if_pos (show t.a.state=1/\t.a.done=0 from h2),if_pos h2];rfl
 rw[if_neg (show¬ (t.a.state=1/\t.a.done=0)from h2),if_neg h2]
 by_cases h3:t.state=w∨(t.state=1/\t.done=w)
 rw[if_pos (show t.a.state=w∨(t.a.state=1/\t.a.done=w)from h3),if_pos h3];rfl
 rw[if_neg (show¬ (t.a.state=w∨(t.a.state=1/\t.a.done=w))from h3),if_neg h3];rfl
theorem Fu (c:Co) (s:ByteArray) (ver:Int) (b:Bool) (k:Nat) (w:World) (h:c.rd 0 w.heap.size w) (hb:oI k c) (hn:bQ s=true):dg ab lQ [c.v,.string s,J ver,.bool b] w fun v w2=> ∃ c':Co,v=.tuple #[c'.v,J (kW c.a s ver b).2]/\c'.a=(kW c.a s ver b).1/\t7 w w2 c':=by
 have hpost:(kW c s ver b).2=0->oI (k+1) (kW c s ver b).1:=HE hb
 cases hf:f5 c s with
 |none=>
  have hi:=uu hf
  have ha:=Gp hf
  unfold kW
  rw[ha]
  exact(K9 c s ver b w h hb.ok hn hi).mono fun v w2 ⟨h1,h2⟩=>⟨yA,h1,rfl,pf h2⟩
 |some x=>
  obtain⟨i,t⟩:=x
  obtain⟨hi,ht,-⟩:=jf hf
  have ha:=C2 hf
  unfold kW at hpost⊢
  rw[ha]
  rw[hf]at hpost
  dsimp only at hpost⊢
  by_cases hv:t.ver=ver
  rw[if_neg (show¬ t.a.ver≠ver from fun h=>h hv),MR]
  rw[if_neg (fun h=>h hv)]at hpost
  have main:dg ab lQ [c.v,.string s,J ver,.bool b] w fun v w2=>match eL (vu b) t with|none=>v=.tuple #[.agg #[J 0,J 0,J 0,.slice none 0 0],J 12]/\Below w.heap.size w w2|some t'=> ∃ (c':Co) (Lr Lp:List (Nat×Obj)),v=.tuple #[c'.v,J 0]/\qi w w2 (Co.a {c with txs:=c.txs.set i t'}) c' Lr Lp:=by
   cases b
   exact I6 c s ver i t w h hb.ok hn hi ht hv
   exact K8 c s ver i t w h hb.ok hn hi ht hv
  cases hx:eL (vu b) t with
  |none=>
   rw[hx]at main
   exact main.mono fun v w2 ⟨h1,h2⟩=>⟨yA,h1,rfl,pf h2⟩
  |some t'=>
   rw[hx]at main hpost
   exact main.mono fun v w2 ⟨c',Lr,Lp,h1,h2⟩=>⟨c',h1,h2.1.trans (by rw[show({c with txs:=c.txs.set i t'}:Co)=qC c i t' from rfl,yW];rfl),h2.new (by rw[<-ru];exact(hpost Z).ok)⟩
  rw[if_pos (show t.a.ver≠ver from hv)]
  exact(I5 c s ver b i t w h hb.ok hn hi ht hv).mono fun v w2 ⟨h1,h2⟩=>⟨yA,h1,rfl,pf h2⟩
theorem Le (p:Int) (t:Tx):gB p t.a=(gB p t).a:=by
 unfold gB
 by_cases h:(t.parts.filter fun q=>decide (q≠p)).length=0
 rw[if_pos (show(t.a.parts.filter fun q=>decide (q≠p)).length=0 from h),if_pos h];rfl
 rw[if_neg (show¬ (t.a.parts.filter fun q=>decide (q≠p)).length=0 from h),if_neg h];rfl
theorem Jc (c:Co) (s:ByteArray) (p:Int) (k i:Nat) (t:Tx) (w:World) (h:c.rd 0 w.heap.size w) (hb:oI k c) (hn:bQ s=true) (hf:f5 c.a s=some (i,t)) (h34:t.state=3∨t.state=4) (hp:p∈t.parts):dg ab wy [c.v,.string s,J p] w fun v w2=> ∃ c':Co,v=.tuple #[c'.v,J 0]/\c'.a=(qJ c.a s p).1/\t7 w w2 c':=by
 have hpost:(qJ c s p).2=0->oI (k+1) (qJ c s p).1:=Fy hb
 rw[Aw]at hf
 obtain⟨⟨j,x⟩,hg,he⟩:=iK.1 hf
 clear hf
 simp only[Prod.mk.injEq]at he
 obtain⟨rfl,rfl⟩:=he
 obtain⟨hi,ht,-⟩:=jf hg
 have ha:=C2 hg
 unfold qJ at hpost⊢
 rw[ha]
 rw[hg]at hpost
 dsimp only at hpost⊢
 rw[if_pos h34,if_pos hp]
 rw[if_pos (show x.state=3∨x.state=4 from h34),if_pos (show p∈x.parts from hp)]at hpost
 exact(MS c s p i x w h hb.ok hn hi ht h34 hp (cF.1 (hb.at_ ht)).2.2.2.2.2.2.2.2.2.1).mono fun v w2 ⟨c',Lr,Lp,h1,h2⟩=>⟨c',h1,h2.1.trans (by rw[show({c with txs:=c.txs.set i (gB p x)}:Co)=qC c i (gB p x)from rfl,yW,Le]),h2.new (by rw[<-ru];exact(hpost Z).ok)⟩
theorem K7 (t:Tx):gR t.a=gR t:=rfl
theorem Kq (l:List Tx) (n:Nat):g8 (l.map Tx.a) n=(g8 l n).map Tx.a:=by
 unfold g8
 rw[List.filter_map,show(gR∘Tx.a)=gR from funext K7,aL]
theorem EQ (c:Co) (n:Nat) (w:World) (h:c.rd 0 w.heap.size w) (hok:gi c=true) (hn:n<=1000):dg ab wx [c.v,J (n:Nat)] w fun v w2=>v=ye (g8 c.a.txs n)/\Below w.heap.size w w2:=by
 refine(Mw c n w h hok hn).mono fun v w2 ⟨h1,h2⟩=>⟨?_,h2⟩
 rw[h1,show c.a.txs=c.txs.map Tx.a from rfl,Kq]
 cases g8 c.txs n<;>rfl
theorem Ib (c:Co) (n:Int):(vv c n).a=vv c.a n:=by
 unfold vv Co.a
 simp only[r5]
 congr 1
 exact List.map_congr_left fun t _=>JM _ _ t
theorem B5 (c:Co) (n:Int) (k:Nat) (w:World) (h:c.rd 0 w.heap.size w) (hb:oI k c) (hk:k<=1000) (hn:0<=n):dg ab su [c.v,J n] w fun v w2=> ∃ c':Co,v=.tuple #[c'.v,J (je c.a n).2]/\c'.a=(je c.a n).1/\t7 w w2 c':=by
 have hpost:(je c n).2=0->oI (k+1) (je c n).1:=Ei hb hk hn
 have hck:=hb.clock
 unfold je at hpost⊢
 by_cases hf:1000<n
 rw[if_pos hf]
 exact(JK c n w h hb.ok hf).mono fun v w2 ⟨h1,h2⟩=>⟨yA,h1,rfl,pf h2⟩
 rw[if_neg hf]
 rw[if_neg hf]at hpost
 exact(LT c n w h hb.ok hn I I).mono fun v w2 ⟨c',Lr,Lp,h1,h2⟩=>⟨c',h1,h2.1,h2.new (by rw[<-Ib,<-ru];exact(hpost Z).ok)⟩
theorem Gb (es:List cQ) (A:Option Addr) (c n a most:Nat) (w:World) (hr:Rd gQ 0 w.heap.size A es w) (hc:es.length<=c) (hb:es.length<=1000000) (hn:n<=es.length) (ha:es.length<a):
  dg ab yl [.slice A es.length c,J (n:Nat),J (a:Nat),J (most:Nat)] w fun v w2=>v=.tuple #[.slice none 0 0,J 0,J 2]/\Below w.heap.size w w2:=by
 refine aF wC Z Z ?_
 have H:=Hp.startRd hr
 refine W<|Zr<|G (Ws Z)<|G (Wi Z)<|G (Wi Z)<|U<|W<|Zr<|G (Ys Z)<|G (Yi Z)<|ch tV (Ca es _ _ n _ (H.rd0 0 Z) hc hb hn) Z Z ?_
 rintro _ w1 ⟨st,hst,rfl,hb2⟩;replace H:=H.later hb2;clear hb2
 refine G (Yu Z)<|G (Xi Z Z)<|G (Xi Z Z)<|G (Wi Z)<|G (Wi Z)<|U<|W<|W<|Zr<|G (Yi Z)<|G (ce Z Z Z)<|U<|ZF Z<|Zk<|W<|W<|Zr<|G (Yi Z)<|G (dd Z Z I)<|G (Yb Z)<|ZG<|G (Yi Z)<|ZG<|G (Ys Z)<|ZG<|G (br eE Z)<|ZG<|G (GO Z Z I)<|G (N Z Z)<|G (Yb Z)<|ZN<|ZN<|G (Kt Z Z)<|G (Yb Z)<|ZN<|ZN<|G (Kt Z Z)<|U<|ZT Z<|W ?_
 refine Zr<|G (Ws Z)<|G (Wi Z)<|G (Wi Z)<|U<|Zt ?_
 exact GS Z Z Z Z ⟨rfl,H.below⟩
theorem EH (p:Pa) (a most l:Nat) (r:fg) (w:World) (h:p.rd 0 w.heap.size w) (hok:p.a.ok) (hld:p.leader=l) (hr:p.reps[l]? =some r) (ha:r.es.length<a):dg ab tH [p.v,J (a:Nat),J (most:Nat)] w fun v w2=>v=.tuple #[.slice none 0 0,J 0,J 2]/\Below w.heap.size w w2:=by
 refine aF sB Z Z ?_
 obtain⟨hn1,hn2,hil,hkl,hf1,hf2,he0,he1,hl0,hl1,hb0,hb1,hsm⟩:=Pa.facts hok
 have hkn:=hok.known
 have hiC:=h.iC
 have hkC:=h.kC
 have hrC:=h.rC
 have hfew:=h.few
 have H:=Hp.startPa h
 obtain⟨ep,ld,isr,iA,iC,kn,kA,kC,reps,rA,rC,fw,bs⟩:=p
 simp only[Pa.a]at hkn
 dsimp only at H hn1 hn2 hil hkl hf1 hf2 he0 he1 hl0 hl1 hb0 hb1 hsm hiC hkC hrC hfew
 dsimp only at hld hr
 have hll:=(bT hr).1
 show CW _ _ _ _ (args [.agg #[J (ep),J (ld),.slice iA isr.length iC,.slice kA kn.length kC,.slice rA reps.length rC,J (fw),J (bs)],J (((a:Nat):Int)),J (((most:Nat):Int))]) w
 refine W<|Zr<|fW H Z Z fun w1 b3 H=>G (Ws Z)<|G (Wi Z)<|G (Wi Z)<|U<|W<|W<|Zr<|G (Zw aH H 0 Z Z Z)<|ch jO (pI ⟨ep,ld,isr,iA,iC,kn,kA,kC,reps,rA,rC,fw,bs⟩ _ (Hp.pa H 0 Z) hok) Z Z ?_
 rintro _ w2 ⟨rfl,hb⟩;replace H:=H.later hb;clear hb
 refine G (Wi Z)<|U<|W<|Zr<|G (Yi Z)<|G (ce Z Z Z)<|U<|ZF Z<|Zk<|W<|W<|Zr<|G (Zf du Z)<|G (Zd ak H 0 Z Z Z)<|G (dd Z Z I)<|U<|ZF Z<|Zk<|W<|Zr<|G (Zf cV Z)<|G (Zd bJ H 0 Z Z Z)<|G (Zf du Z)<|G (Zd ak H 0 Z Z Z)<|ql (k:=l) H 3 Z bj Z (congrArg (Value.int .i64) hld) I I Z fun bq3 o3 x3 e3=> ?_
 obtain rfl:x3=r:=by have:=e3.at_;rw[hr]at this;exact(bN this).symm
 obtain⟨n,hnn⟩: ∃ n:Nat,x3.high=n:=⟨x3.high.toNat,by have:=(Pa.repOk hok (i:=l) hr).2.1;omega⟩
 refine G (jF (xs:=fg.c x3) oB Z Z e3.cl)<|eI H pH Z fun w4 b10 H=>bg H 0 (#[.bool (x3.up),.slice x3.A ((bi x3.es).length) x3.cap,J (((fR x3.es x3.s:Nat):Int)),J (x3.high)]) iM Z Z Z Z Z N N fun w5 H=>U<|W<|Zr<|G (Zf da Z)<|G (jl 1 [.slice x3.A ((bi x3.es).length) x3.cap,J (((fR x3.es x3.s:Nat):Int))] eO Z Z (H.ent (i:=0) Z) Z)<|ch gC (hN x3.A x3.cap x3.es x3.s _ (Pa.log (Hp.pa H 0 Z) hok (i:=l) hr)) Z Z ?_
 have hloen:=H.size
 rintro _ w6 ⟨Aen,cen,rfl,hren,hcen,hben⟩;replace H:=H.learnRd hben hren;clear hren hben
 refine G (Yu Z)<|G (Xs Z Z)<|G (Xi Z Z)<|G (Xi Z Z)<|G (Ws Z)<|G (Wi Z)<|G (Wi Z)<|U<|W<|Zr<|G (Ys Z)<|G (Zf d4 Z)<|G (Zd ak H 0 Z Z Z)<|G (Yi Z)<|G (Yi Z)<|ch wO ((by have hA:=Gb x3.es Aen cen n a most _ (H.rd0 0 Z) hcen (by have:=(Pa.repOk hok (i:=l) hr).1.len;omega) (by have:=(Pa.repOk hok (i:=l) hr).2.2;omega) ha;rw[<-hnn]at hA;exact hA)) Z Z ?_
 rintro _ w7 ⟨rfl,hb⟩;replace H:=H.later hb;clear hb
 refine G (Xs Z Z)<|G (Xi Z Z)<|G (Xi Z Z)<|G (Ws Z)<|G (Wi Z)<|G (Wi Z)<|U<|Zt ?_
 exact GS Z Z Z Z ⟨rfl,H.below⟩

/-- an act of a script -/
structure Act where
 kind:Int
 name:ByteArray
 part:Int
 n:Int
 m:Int
 text:ByteArray
 lost:Int
def Act.c (a:Act):List Value:=[J a.kind,.string a.name,J a.part,J a.n,J a.m,.string a.text,J a.lost]
abbrev Act.v (a:Act):Value:=.agg a.c.toArray
def te:fo Act:=⟨Act.c,7,fun _=>rfl,by decide,fun a u hu=>by
 simp only[Act.c,ay,cd,or_false]at hu
 rcases hu with h|h|h|h|h|h|h<;>subst h<;>rfl⟩
structure An where
 code:Int
 n:Int
 texts:List ByteArray
structure Sn where
 name:ByteArray
 pid:Int
 ver:Int
 inn:Bool
 seqs:List Int
 sA:Option Addr
 sC:Nat
 last:List cQ
 lA:Option Addr
 lC:Nat
def Sn.c (s:Sn):List Value:=[.string s.name,J s.pid,J s.ver,.bool s.inn,.slice s.sA s.seqs.length s.sC,.slice s.lA s.last.length s.lC]
def zn:fo Sn:=⟨Sn.c,6,fun _=>rfl,by decide,fun a u hu=>by
 simp only[Sn.c,ay,cd,or_false]at hu
 rcases hu with h|h|h|h|h|h<;>subst h<;>rfl⟩
def Sn.a (s:Sn):Sn:={s with sA:=none,sC:=0,lA:=none,lC:=0}
structure Pq where
 p:Pa
 lo:Nat
 hi:Nat
def C9:fo Pq:=⟨fun q=>q.p.c,7,fun _=>rfl,by decide,fun a u hu=>by
 simp only[Pa.c,ay,cd,or_false]at hu
 rcases hu with h|h|h|h|h|h|h<;>subst h<;>rfl⟩
structure Bk where
 ps:List Pq
 pA:Option Addr
 pC:Nat
 co:Co
 clo:Nat
 chi:Nat
 gr:Gr
 glo:Nat
 ghi:Nat
 sns:List Sn
 snA:Option Addr
 snC:Nat
def Bk.c (b:Bk):List Value:=[.slice b.pA b.ps.length b.pC,J b.co.clock,J b.co.next,J b.co.wait,.slice b.co.A b.co.txs.length b.co.cap,J b.gr.clock,J b.gr.wait,J b.gr.gen,.slice b.gr.mA b.gr.ms.length b.gr.mC,.slice b.gr.oA b.gr.os.length b.gr.oC,.slice b.snA b.sns.length b.snC]
structure Wa where
 ps:List gE
 co:Co
 gr:Gr
 sns:List Sn
def Bk.a (b:Bk):Wa:=⟨b.ps.map fun q=>q.p.a,b.co.a,b.gr.a,b.sns.map Sn.a⟩
def qh:List Sn->List (Nat×Obj)->Prop
 |[],L=>L=[]
 |s::l,L=> ∃ gq uq gl ul L',s.sA=some ⟨gq,0,none⟩/\s.lA=some ⟨gl,0,none⟩/\dz bW s.seqs s.sC uq/\dz gQ s.last s.lC ul/\L=(gq,.cells uq db (0,0))::(gl,.cells ul dy (0,0))::L'/\qh l L'
theorem qh.at_: ∀ {l:List Sn} {L:List (Nat×Obj)} {i:Nat} {s:Sn},qh l L->l[i]? =some s-> ∃ gq uq gl ul La Lb,s.sA=some ⟨gq,0,none⟩/\s.lA=some ⟨gl,0,none⟩/\dz bW s.seqs s.sC uq/\dz gQ s.last s.lC ul/\L=La++((gq,.cells uq db (0,0))::(gl,.cells ul dy (0,0))::Lb)/\ ∀ (s':Sn) (gq':Nat) (uq':Array Value) (gl':Nat) (ul':Array Value),s'.sA=some ⟨gq',0,none⟩->s'.lA=some ⟨gl',0,none⟩->dz bW s'.seqs s'.sC uq'->dz gQ s'.last s'.lC ul'->qh (l.set i s') (La++((gq',.cells uq' db (0,0))::(gl',.cells ul' dy (0,0))::Lb))
 |[],_,_,_,_,h=>by simp at h
 |x::l,L,0,s,h,hi=>by
  obtain⟨gq,uq,gl,ul,L',h1,h2,h3,h4,rfl,h6⟩:=h
  have:x=s:=by simpa using hi
  subst this
  exact⟨gq,uq,gl,ul,[],L',h1,h2,h3,h4,rfl,fun s' gq' uq' gl' ul' a1 a2 a3 a4=>⟨gq',uq',gl',ul',L',a1,a2,a3,a4,rfl,h6⟩⟩
 |x::l,L,i+1,s,h,hi=>by
  obtain⟨gq,uq,gl,ul,L',h1,h2,h3,h4,rfl,h6⟩:=h
  obtain⟨kq,vq,kl,vl,La,Lb,b1,b2,b3,b4,rfl,b6⟩:=qh.at_ (i:=i) h6 (by simpa using hi)
  exact⟨kq,vq,kl,vl,(gq,.cells uq db (0,0))::(gl,.cells ul dy (0,0))::La,Lb,b1,b2,b3,b4,rfl,fun s' gq' uq' gl' ul' a1 a2 a3 a4=>⟨gq,uq,gl,ul,_,h1,h2,h3,h4,rfl,b6 s' gq' uq' gl' ul' a1 a2 a3 a4⟩⟩
theorem qh.snoc: ∀ {l:List Sn} {L:List (Nat×Obj)} {s:Sn} {gq gl:Nat} {uq ul:Array Value},qh l L->s.sA=some ⟨gq,0,none⟩->s.lA=some ⟨gl,0,none⟩->dz bW s.seqs s.sC uq->dz gQ s.last s.lC ul->qh (l++[s]) (L++[(gq,.cells uq db (0,0)),(gl,.cells ul dy (0,0))])
 |[],L,s,gq,gl,uq,ul,h,a1,a2,a3,a4=>by
  have:L=[]:=h
  subst this
  exact⟨gq,uq,gl,ul,[],a1,a2,a3,a4,rfl,rfl⟩
 |x::l,L,s,gq,gl,uq,ul,h,a1,a2,a3,a4=>by
  obtain⟨kq,vq,kl,vl,L',h1,h2,h3,h4,rfl,h6⟩:=h
  exact⟨kq,vq,kl,vl,_,h1,h2,h3,h4,rfl,h6.snoc a1 a2 a3 a4⟩
def xa (w0:World) (lo hi:Nat) (c:Co):cz:=⟨lo,hi,fun w=>w0.heap.size<=lo/\c.rd lo hi w,fun _ _ hk h=>⟨h.1,h.2.st hk⟩⟩
def Jv (w0:World) (lo hi:Nat) (g:Gr):cz:=⟨lo,hi,fun w=>w0.heap.size<=lo/\g.rd lo hi w,fun _ _ hk h=>⟨h.1,h.2.st hk⟩⟩
def tf (w0:World) (lo hi:Nat) (p:Pa):cz:=⟨lo,hi,fun w=>w0.heap.size<=lo/\p.rd lo hi w,fun _ _ hk h=>⟨h.1,h.2.st hk⟩⟩
structure Bw (w0 w:World) (bb:Nat) (b:Bk) (gP:Nat) (uP:Array Value) (Ls Lo K:List (Nat×Obj)) (F:List cz):Prop where
 pA:b.pA=some ⟨gP,0,none⟩
 row:dz C9 b.ps b.pC uP
 sn:gm zn (.slice b.snA b.sns.length b.snC) fA b.sns Ls
 own:qh b.sns Lo
 co:xa w0 b.clo b.chi b.co∈F
 gr:Jv w0 b.glo b.ghi b.gr∈F
 ps: ∀ q∈b.ps,tf w0 q.lo q.hi q.p∈F
 H:Hp w0 w ((bb,.cells b.c.toArray bO (0,0))::(gP,.cells uP bM (0,0))::(Ls++(Lo++K))) F
def xb (w0 w:World) (bb:Nat) (b:Bk) (K:List (Nat×Obj)) (F:List cz):Prop:= ∃ gP uP Ls Lo F',Bw w0 w bb b gP uP Ls Lo K F'/\ ∀ f∈F,f∈F'
theorem Hp.coM {w1 w0 w:World} {L:List (Nat×Obj)} {F:List cz} {lo hi:Nat} {c:Co} (H:Hp w0 w L F) (h:xa w1 lo hi c∈F):c.rd 0 w.heap.size w:=by
 obtain⟨h1,h2,-⟩:=H.facts _ h
 exact Co.rd.mono h1.2 (bK _) h2
theorem Hp.grM {w1 w0 w:World} {L:List (Nat×Obj)} {F:List cz} {lo hi:Nat} {g:Gr} (H:Hp w0 w L F) (h:Jv w1 lo hi g∈F):g.rd 0 w.heap.size w:=by
 obtain⟨h1,h2,-⟩:=H.facts _ h
 exact Gr.rd.mono h1.2 (bK _) h2
theorem Hp.paM {w1 w0 w:World} {L:List (Nat×Obj)} {F:List cz} {lo hi:Nat} {p:Pa} (H:Hp w0 w L F) (h:tf w1 lo hi p∈F):p.rd 0 w.heap.size w:=by
 obtain⟨h1,h2,-⟩:=H.facts _ h
 exact Pa.rd.mono h1.2 (bK _) h2
def oJ (x:An) (v:Value) (w:World):Prop:= ∃ A c,v=.agg #[J x.code,J x.n,.slice A x.texts.length c]/\x.texts.length<=c/\Rd m6 0 w.heap.size A x.texts w
theorem oJ.plain (e n:Int) (w:World):oJ ⟨e,n,[]⟩ (.agg #[J e,J n,.slice none 0 0]) w:=⟨none,0,rfl,ao _,Rd.nil⟩
def l5 (w:Wa) (e:Int):Wa×An:=(w,⟨e,0,[]⟩)
def gb (a:Act) (x:An):An:=if a.lost=0 then x else⟨14,0,[]⟩
def fl (l:List Sn) (s:ByteArray):Option Nat:=l.findIdx? fun x=>decide (x.name=s)
def mQ:cQ:=⟨0,0,0,0,0,false,⟨#[]⟩⟩
def uW (s:ByteArray) (pid ver:Int) (np:Nat):Sn:=⟨s,pid,ver,false,av np 0,none,0,av np mQ,none,0⟩
def EB (l:List Sn) (s:Sn):List Sn:=match fl l s.name with
 |none=>l++[s]
 |some i=>l.set i s
def oV (w:Wa) (a:Act):Wa×An:=if(bX w.co a.name).2.2.2=0 then({w with co:=(bX w.co a.name).1,sns:=EB w.sns (uW a.name (bX w.co a.name).2.1 (bX w.co a.name).2.2.1 w.ps.length)},⟨0,(bX w.co a.name).2.2.1,[]⟩)else l5 w (bX w.co a.name).2.2.2
def kY (w:Wa) (a:Act):Wa×An:=match (fl w.sns a.name).bind fun i=>w.sns[i]?.map fun s=>(i,s)with
 |none=>l5 w 5
 |some (i,s)=>if s.inn then l5 w 6 else({w with sns:=w.sns.set i {s with inn:=true}},⟨0,0,[]⟩)
def uA (w:Wa) (n:Nat) (x:cQ):Wa×An:=match w.ps[n]? with
 |none=>l5 w 5
 |some p=>if(eH p x).2.2=0 then({w with ps:=w.ps.set n (eH p x).1},⟨0,(eH p x).2.1,[]⟩)else l5 w (eH p x).2.2
def rS (w:Wa) (s:Sn) (n:Nat) (x:cQ):Co×Int:=if x.txn then oD w.co s.name x.ver n else(w.co,0)
def eu (w:Wa) (s:Sn) (n:Nat):Wa×An:=match s.last[n]? with
 |none=>l5 w 5
 |some x=>if(rS w s n x).2=0 then uA {w with co:=(rS w s n x).1} n x else l5 w (rS w s n x).2
def pS (s:Sn) (n:Nat) (t:ByteArray):Sn:={s with last:=s.last.set n ⟨0,s.pid,s.ver,s.seqs.getD n 0,1,s.inn,t⟩,seqs:=s.seqs.set n (s.seqs.getD n 0+1)}
def mX (w:Wa) (a:Act) (again:Bool):Wa×An:=match (fl w.sns a.name).bind fun i=>w.sns[i]?.map fun s=>(i,s)with
 |none=>l5 w 5
 |some (i,s)=>if again=true/\(s.last.getD a.part.toNat mQ).kind=0 then l5 w 15 else
  let s1:=if again then s else pS s a.part.toNat a.text
  let w1:={w with sns:=w.sns.set i s1}
  if a.lost=1 then l5 w1 14 else((eu w1 s1 a.part.toNat).1,gb a (eu w1 s1 a.part.toNat).2)
def vM (s:Sn):Sn:={s with inn:=false,last:=s.last.map fun e=>if e.txn then mQ else e}
def jX (w:Wa) (a:Act):Wa×An:=match (fl w.sns a.name).bind fun i=>w.sns[i]?.map fun s=>(i,s)with
 |none=>l5 w 5
 |some (i,s)=>if s.inn=false then l5 w 12 else if a.lost=1 then l5 w 14 else
  if(kW w.co s.name s.ver (decide (a.n=1))).2=0 then({w with co:=(kW w.co s.name s.ver (decide (a.n=1))).1,sns:=if a.lost=0 then w.sns.set i (vM s)else w.sns},gb a ⟨0,0,[]⟩)else(w,gb a ⟨(kW w.co s.name s.ver (decide (a.n=1))).2,0,[]⟩)
def de (t:Tx):cQ:=⟨0,t.pid,t.ver,0,if t.state=4 then 3 else 2,true,⟨#[]⟩⟩
def n7 (w:Wa) (a:Act):Wa×An:=match g8 w.co.txs a.n.toNat with
 |none=>l5 w 15
 |some t=>if(uA w (t.parts.headD 0).toNat (de t)).2.code=0 then({(uA w (t.parts.headD 0).toNat (de t)).1 with co:=(qJ w.co t.name (t.parts.headD 0)).1},(uA w (t.parts.headD 0).toNat (de t)).2)else uA w (t.parts.headD 0).toNat (de t)
def xW (w:Wa) (a:Act):Wa×An:=({w with co:=(je w.co a.n).1,gr:=pN w.gr a.n w.ps.length},⟨0,(je w.co a.n).1.clock,[]⟩)
def lL (p:gE) (a:Act):gE×Int×Int:=
 if a.kind=8 then i4 p a.n.toNat else if a.kind=9 then((nU p a.n.toNat).1,0,(nU p a.n.toNat).2)else if a.kind=10 then((ks p a.n.toNat a.m.toNat).1,0,(ks p a.n.toNat a.m.toNat).2)else
 if a.kind=11 then((pO p a.n.toNat).1,0,(pO p a.n.toNat).2)else if a.kind=12 then((nS p a.n.toNat).1,0,(nS p a.n.toNat).2)else if a.kind=13 then((i7 p a.n.toNat).1,0,(i7 p a.n.toNat).2)else
 if a.kind=14 then((g7 p a.n.toNat).1,0,(g7 p a.n.toNat).2)else((fM p a.n.toNat).1,0,(fM p a.n.toNat).2)
def uV (w:Wa) (a:Act):Wa×An:=match w.ps[a.part.toNat]? with
 |none=>l5 w 5
 |some p=>if(lL p a).2.2=0 then({w with ps:=w.ps.set a.part.toNat (lL p a).1},⟨0,(lL p a).2.1,[]⟩)else l5 w (lL p a).2.2
inductive CK (p:gE) (a most:Nat):An->Prop
 |none:p.leader<0->CK p a most ⟨8,0,[]⟩
 |range (l:Nat) (r:RA):p.leader=l->p.reps[l]? =some r->r.es.length<a->CK p a most ⟨2,0,[]⟩
 |ok (l:Nat) (r:RA) (st:Nat) (out:List ByteArray) (b:Nat):p.leader=l->p.reps[l]? =some r->a<=r.es.length->tE (r.es.take r.high.toNat) st->AS r.es r.high.toNat st a most out b->CK p a most ⟨0,(b:Nat),out⟩
inductive qN (w:Wa) (a:Act):An->Prop
 |no:(eR w.gr a.name a.part).2≠0->qN w a ⟨(eR w.gr a.name a.part).2,0,[]⟩
 |yes (p:gE) (x:An):(eR w.gr a.name a.part).2=0->w.ps[a.part.toNat]? =some p->CK p (eR w.gr a.name a.part).1.toNat a.n.toNat x->qN w a x
def Gu (w:Wa) (a:Act):Gr×Int:=if a.kind=16 then sR w.gr a.name w.ps.length else if a.kind=18 then wV w.gr a.name a.n else sa w.gr a.name a.n a.part a.m
def Bj (w:Wa) (a:Act):Wa×An:=if(Gu w a).2=0 then({w with gr:=(Gu w a).1},⟨0,(Gu w a).1.gen,[]⟩)else l5 w (Gu w a).2
theorem FZ {l:List Sn} {s:ByteArray} {i:Nat} (h:fl l s=some i): ∃ x,l[i]? =some x/\x.name=s:=by
 obtain⟨hl,h1,-⟩:=bh.1 h
 exact⟨_,ai hl,by simpa using h1⟩
theorem JY {l:List Sn} {s:ByteArray} {i:Nat} {x:Sn} (hx:l[i]? =some x) (hn:x.name=s) (hno: ∀ y∈l.take i,y.name≠s):fl l s=some i:=by
 unfold fl
 obtain⟨hl,rfl⟩:=bT hx
 rw[bh]
 refine⟨hl,by simpa using hn,fun j hj=> ?_⟩
 have:=hno l[j] (List.mem_take_iff_getElem.2 ⟨j,by omega,rfl⟩)
 simpa using this
theorem F3 {l:List Sn} {s:ByteArray} (hno: ∀ y∈l,y.name≠s):fl l s=none:=by
 unfold fl
 rw[dq]
 intro x hx
 simpa using hno x hx
def Oo (g:Nat):Option Nat->Value
 |none=> .pointer none
 |some i=> .pointer (some ⟨g,i*zn.sz,none⟩)
theorem dU (e:Int) (w:World):dg ab xz [J e] w fun v w2=>v=.agg #[J e,J 0,.slice none 0 0]/\Below w.heap.size w w2:=by
 refine aF wG Z Z ?_
 have H:=Hp.start w
 refine W<|Zr<|eI H dp Z fun w1 b2 H=>U<|W<|Zr<|G (Yi Z)<|G (bn (cs:= #[J (e),J (0),.slice none 0 0]) iI dp N)<|bg H 0 (#[J (e),J (0),.slice none 0 0]) aP Z Z Z Z Z N N fun w2 H=>U<|Zt ?_
 exact eS (cs0:= #[J e,J 0,.slice none 0 0]) Z aM Z (H.ent (i:=0) Z) Z ⟨rfl,H.below⟩
theorem CZ (a:Act) (c n:Int) (A:Option Addr) (l k:Nat) (w:World):dg ab uZ [a.v,.agg #[J c,J n,.slice A l k]] w fun v w2=>v=(if a.lost=0 then .agg #[J c,J n,.slice A l k]else .agg #[J 14,J 0,.slice none 0 0])/\Below w.heap.size w w2:=by
 refine aF As Z Z ?_
 have H:=Hp.start w
 show CW _ _ _ _ (args [.agg #[J (a.kind),.string (a.name),J (a.part),J (a.n),J (a.m),.string (a.text),J (a.lost)],.agg #[J c,J n,.slice A l k]]) w
 refine W<|Zr<|fW H Z Z fun w1 b2 H=>fW H Z Z fun w2 b3 H=>eI H dp Z fun w3 b4 H=>U<|W<|W<|Zr<|G (Zf jH Z)<|G (Zd ak H 2 Z Z Z) ?_
 refine qV (ja Z Z) Z Z Z (fun h7=> ?_) (fun h7=> ?_)
 refine U<|ZT Z<|W<|Zr<|ch bR (dU 14 _) Z Z ?_
 rintro _ w4 ⟨rfl,hb⟩;replace H:=H.later hb;clear hb
 refine bg H 0 (#[J (14),J (0),.slice none 0 0]) aP Z Z Z Z Z N N fun w5 H=>U<|Zt ?_
 exact eS (cs0:= #[J 14,J 0,.slice none 0 0]) Z aM Z (H.ent (i:=0) Z) Z ⟨(if_neg h7).symm,H.below⟩
 refine U<|ZF Z<|Zk<|W<|Zr<|G (Zw aM H 1 Z Z Z)<|bg H 0 (#[J (c),J (n),.slice A l k]) aP Z Z Z Z Z N N fun w6 H=>U<|Zt ?_
 exact eS (cs0:= #[J c,J n,.slice A l k]) Z aM Z (H.ent (i:=0) Z) Z ⟨(if_pos (by simpa using h7)).symm,H.below⟩
theorem nZ (bb:Nat) (b:Bk) (n:Int) (w:World) (hb:w.heap[bb]? =some (.cells b.c.toArray bO (0,0))):dg ab s8 [.pointer (Qd bb),J n] w fun v w2=>v=.bool (decide (0<=n/\n<(b.ps.length:Int)))/\Below w.heap.size w w2:=by
 refine aF sD Z Z ?_
 have H:=Hp.start w
 have hbl:=cj hb
 refine W<|Zr<|G (Wb Z)<|U<|W<|Zr<|G (Yi Z) ?_
 refine cW (kf Z Z) Z Z Z (fun h6=> ?_) (fun h6=> ?_)
 refine G (Yb Z)<|ZG<|G (Yi Z)<|ZG<|G (Yp Z)<|ZG<|G (aG Z)<|ZG<|G (Zf aV Z)<|ZG<|G (Zf dx Z)<|ZG<|G (aX d3 Z ((H.below.cell (p:=⟨bb,_,none⟩) hbl).trans (aD (j:=0) hb Z)))<|ZG<|G (br jK Z)<|ZG ?_
 refine cW (cK Z Z) Z Z Z (fun h15=> ?_) (fun h15=> ?_)
 refine G (Kt Z Z)<|G (Wb Z)<|U<|Zt ?_
 exact cH (v:=.bool true) Z Z ⟨by congr 1;simp only[Bool.true_eq,Bool.false_eq,decide_eq_true_eq,decide_eq_false_iff_not];omega,H.below⟩
 refine G (Kt Z Z)<|G (Wb Z)<|U<|Zt ?_
 exact cH (v:=.bool false) Z Z ⟨by congr 1;simp only[Bool.true_eq,Bool.false_eq,decide_eq_true_eq,decide_eq_false_iff_not];omega,H.below⟩
 refine G (Yb Z)<|ZN<|ZN<|ZN<|ZN<|ZN<|ZN<|ZN<|ZN<|G (N Z Z)<|G (Wb Z)<|U<|Zt ?_
 exact cH (v:=.bool false) Z Z ⟨by congr 1;simp only[Bool.true_eq,Bool.false_eq,decide_eq_true_eq,decide_eq_false_iff_not];omega,H.below⟩
theorem F5 (bb:Nat) (b:Bk) (s:ByteArray) (w:World) (hb:w.heap[bb]? =some (.cells b.c.toArray bO (0,0))) (h0:b.sns=[]):dg ab jw [.pointer (Qd bb),.string s] w fun v w2=>v=.pointer none/\Below w.heap.size w w2:=by
 refine aF lS Z Z ?_
 have H:=Hp.start w
 have hbl:=cj hb
 have hl0:b.sns.length=0:=by rw[h0];rfl
 refine W<|Zr<|G (Wp Z)<|U<|W<|W<|Zr<|G (Yp Z)<|G (aG Z)<|G (Zf aV Z)<|G (Zf kj Z)<|G (aX j8 Z ((H.below.cell (p:=⟨bb,_,none⟩) hbl).trans (aD (j:=10) hb Z)))<|G (br tA Z)<|G (Yi Z)<|U<|Zb ?_
 refine cy (τ:=Unit) [4,5,12,13,14,15,16,17,18,19,20,21,22,23,24,25,26,27,28,29,30,31,32,33] (fun _=>[(12,J 0)]) (fun _ w'=>Hp w w' [] []) (fun _=>0) () H (dJ Z) ?_
 rintro _ ρ1 w1 H
 show CW _ _ _ _ (dH (gJ _ _ ρ1) [(12,J 0)]) w1
 refine W<|Zr<|G (dd Z Z I)<|U<|W<|ZF Z<|Zx<|W<|Zr<|G (Wp Z)<|U<|Zt ?_
 exact cH (v:=.pointer none) Z Z ⟨rfl,H.below⟩
theorem Im (bb:Nat) (b:Bk) (s:ByteArray) (g:Nat) (u:Array Value) (w:World) (hb:w.heap[bb]? =some (.cells b.c.toArray bO (0,0))) (hA:b.snA=some ⟨g,0,none⟩) (row:dz zn b.sns b.snC u) (hg:w.heap[g]? =some (.cells u fA (0,0))) (hl:b.sns.length<=1000000):dg ab jw [.pointer (Qd bb),.string s] w fun v w2=>v=Oo g (fl b.sns s)/\Below w.heap.size w w2:=by
 refine aF lS Z Z ?_
 have H:=Hp.start w
 have hbl:=cj hb
 have hgl:=cj hg
 obtain⟨ps,pA,pC,co,clo,chi,gr,glo,ghi,sns,snA,snC⟩:=b
 dsimp only at hA row hl
 subst hA
 replace hb:w.heap[bb]? =some (.cells #[.slice pA ps.length pC,J (co.clock),J (co.next),J (co.wait),.slice co.A co.txs.length co.cap,J (gr.clock),J (gr.wait),J (gr.gen),.slice gr.mA gr.ms.length gr.mC,.slice gr.oA gr.os.length gr.oC,.slice (Qd g) sns.length snC] bO (0,0)):=hb
 refine W<|Zr<|G (Wp Z)<|U<|W<|W<|Zr<|G (Yp Z)<|G (aG Z)<|G (Zf aV Z)<|G (Zf kj Z)<|G (aX j8 Z ((H.below.cell (p:=⟨bb,_,none⟩) hbl).trans (aD (j:=10) hb Z)))<|G (br tA Z)<|G (Yi Z)<|U<|Zb ?_
 refine cy (τ:=Nat) [4,5,12,13,14,15,16,17,18,19,20,21,22,23,24,25,26,27,28,29,30,31,32,33] (fun i=>[(12,J (i:Nat))]) (fun i w'=>i<=sns.length/\(∀ y∈sns.take i,y.name≠s)/\Hp w w' [] []) (fun i=>sns.length-i) 0 ⟨by omega,by simp,H⟩ (dJ Z) ?_
 rintro i ρ1 w1 ⟨hi,hno,H⟩
 show CW _ _ _ _ (dH (gJ _ _ ρ1) [(12,J (i:Nat))]) w1
 refine W<|Zr ?_
 refine cW (cK Z Z) Z Z Z (fun h13=> ?_) (fun h13=> ?_)
 refine U<|W<|ZT Z<|Zk<|W<|Zb<|W ?_
 obtain⟨x,hx⟩: ∃ x,sns[i]? =some x:=⟨_,ai I⟩
 refine Zr<|G (Yi Z)<|G (Wi Z)<|U<|W<|Zr<|G (Yp Z)<|G (aG Z)<|G (Zf aV Z)<|G (Zf kj Z)<|G (aX j8 Z ((H.below.cell (p:=⟨bb,_,none⟩) hbl).trans (aD (j:=10) hb Z)))<|G (Yi Z)<|G (bV se Z Z I)<|G (Zf oo Z)<|G (bf bc row hx 0 Z ((H.below.block _ hgl).trans hg) Z)<|G (Yt Z) ?_
 refine cW (vx Z Z) Z Z Z (fun h25=> ?_) (fun h25=> ?_)
 refine U<|ZT Z<|W<|Zr<|G (Yp Z)<|G (aG Z)<|G (Zf aV Z)<|G (Zf kj Z)<|G (aX j8 Z ((H.below.cell (p:=⟨bb,_,none⟩) hbl).trans (aD (j:=10) hb Z)))<|G (Yi Z)<|G (bV se Z Z I)<|G (Wp Z)<|U<|Zt ?_
 exact cH (v:=.pointer (some ⟨g,i*zn.sz,none⟩)) Z Z ⟨by dsimp only;rw[JY hx h25 hno];rfl,H.below⟩
 refine U<|ZF Z<|Zk<|Zr<|G (bz Z Z I I)<|G (Yi Z)<|U ?_
 refine⟨i+1,⟨by omega,fun y hy=> ?_,H⟩,dJ Z,Qg,by show sns.length- (i+1)<sns.length-i;omega⟩
 rw[fi hx]at hy
 rcases ax.1 hy with hy|hy
 exact hno y hy
 rw[au.1 hy];exact h25
 refine U<|W<|ZF Z<|Zx<|W<|Zr<|G (Wp Z)<|U<|Zt ?_
 obtain rfl:i=sns.length:=by omega
 rw[bZ]at hno
 exact cH (v:=.pointer none) Z Z ⟨by dsimp only;rw[F3 hno];rfl,H.below⟩
def OJ:Option Addr->Nat
 |some A=>A.block
 |none=>0
theorem jt (bb:Nat) (b:Bk) (s:ByteArray) (Ls:List (Nat×Obj)) (w:World) (hb:w.heap[bb]? =some (.cells b.c.toArray bO (0,0))) (hsn:gm zn (.slice b.snA b.sns.length b.snC) fA b.sns Ls) (hLs: ∀ q∈Ls,w.heap[q.1]? =some q.2) (hl:b.sns.length<=1000000):dg ab jw [.pointer (Qd bb),.string s] w fun v w2=>v=Oo (OJ b.snA) (fl b.sns s)/\Below w.heap.size w w2:=by
 by_cases h0:b.sns=[]
 refine(F5 bb b s w hb h0).mono fun v w2 ⟨h1,h2⟩=>⟨?_,h2⟩
 rw[h1,h0];rfl
 obtain⟨g,u,hA,hL,row⟩:=hsn.row (List.length_pos_iff.2 h0)
 subst hL
 refine(Im bb b s g u w hb hA row (hLs _ (au.2 Z)) hl).mono fun v w2 ⟨h1,h2⟩=>⟨?_,h2⟩
 rw[h1,hA];rfl
theorem Cs (X:List (Nat×Obj)) (a b:Nat×Obj) (La Lb K:List (Nat×Obj)):(X++(a::b::(La++(Lb++K)))).Perm (X++((La++(a::b::Lb))++K)):=by
 refine List.Perm.append_left _ ?_
 rw[show(La++(a::b::Lb))++K=La++([a,b]++(Lb++K)) by simp]
 exact fX [a,b] La (Lb++K)
theorem Bw.close {w0 w':World} {bb gP gS gq gl pC snC clo chi glo ghi i:Nat} {uP uS uq ul:Array Value} {La Lb K X:List (Nat×Obj)} {F0 F':List cz} {ps:List Pq} {co:Co} {gr:Gr} {sns:List Sn} {s:Sn} {C:Array Value} (row:dz C9 ps pC uP) (rowS:dz zn (sns.set i s) snC uS) (hset: ∀ (s':Sn) (gq':Nat) (uq':Array Value) (gl':Nat) (ul':Array Value),s'.sA=some ⟨gq',0,none⟩->s'.lA=some ⟨gl',0,none⟩->dz bW s'.seqs s'.sC uq'->dz gQ s'.last s'.lC ul'->qh (sns.set i s') (La++((gq',.cells uq' db (0,0))::(gl',.cells ul' dy (0,0))::Lb)))
  (hsA:s.sA=some ⟨gq,0,none⟩) (hlA:s.lA=some ⟨gl,0,none⟩) (rowq:dz bW s.seqs s.sC uq) (rowl:dz gQ s.last s.lC ul) (hco:xa w0 clo chi co∈F') (hgr:Jv w0 glo ghi gr∈F') (hps: ∀ q∈ps,tf w0 q.lo q.hi q.p∈F') (hF: ∀ f∈F0,f∈F')
  (H:Hp w0 w' (X++((bb,.cells C bO (0,0))::(gP,.cells uP bM (0,0))::(gS,.cells uS fA (0,0))::(gq,.cells uq db (0,0))::(gl,.cells ul dy (0,0))::(La++(Lb++K)))) F') (hC:C=(Bk.mk ps (Qd gP) pC co clo chi gr glo ghi (sns.set i s) (Qd gS) snC).c.toArray):xb w0 w' bb ⟨ps,some ⟨gP,0,none⟩,pC,co,clo,chi,gr,glo,ghi,sns.set i s,some ⟨gS,0,none⟩,snC⟩ K F0:=by
 subst hC
 refine⟨gP,uP,_,_,F',⟨rfl,row,dz.own rowS,hset s gq uq gl ul hsA hlA rowq rowl,hco,hgr,hps,?_⟩,hF⟩
 have H1:=H.forget (cu X _) (fun _ h=>h)
 exact H1.perm (Cs [(bb,_),(gP,_),(gS,_)] _ _ La Lb K).symm
theorem yV (l:List Sn) (s:ByteArray):fl (l.map Sn.a) s=fl l s:=by
 unfold fl
 rw[CN]
 rfl
theorem v8 {l:List Sn} {s:ByteArray} {i:Nat} {x:Sn} (hix:fl l s=some i) (hx:l[i]? =some x):((fl (l.map Sn.a) s).bind fun i=>(l.map Sn.a)[i]?.map fun s=>(i,s))=some (i,x.a):=by
 rw[yV,hix]
 simp[hx]
theorem C3 {l:List Sn} {s:ByteArray} (hix:fl l s=none):((fl (l.map Sn.a) s).bind fun i=>(l.map Sn.a)[i]?.map fun s=>(i,s))=none:=by
 rw[yV,hix]
 rfl
theorem Bw.shut {w0 w':World} {bb gP pC snC clo chi glo ghi:Nat} {uP:Array Value} {Ls Lo K X:List (Nat×Obj)} {F0 F':List cz} {ps:List Pq} {co:Co} {gr:Gr} {sns:List Sn} {snA:Option Addr} {C:Array Value} (row:dz C9 ps pC uP) (hsn:gm zn (.slice snA sns.length snC) fA sns Ls) (hown:qh sns Lo) (hco:xa w0 clo chi co∈F') (hgr:Jv w0 glo ghi gr∈F') (hps: ∀ q∈ps,tf w0 q.lo q.hi q.p∈F') (hF: ∀ f∈F0,f∈F')
  (H:Hp w0 w' (X++((bb,.cells C bO (0,0))::(gP,.cells uP bM (0,0))::(Ls++(Lo++K)))) F') (hC:C=(Bk.mk ps (Qd gP) pC co clo chi gr glo ghi sns snA snC).c.toArray):xb w0 w' bb ⟨ps,some ⟨gP,0,none⟩,pC,co,clo,chi,gr,glo,ghi,sns,snA,snC⟩ K F0:=by
 subst hC
 exact⟨gP,uP,_,_,F',⟨rfl,row,hsn,hown,hco,hgr,hps,H.forget (cu X _) (fun _ h=>h)⟩,hF⟩
theorem wT {b:Bk} {a:Act} {i:Nat} {x:Sn} (hix:fl b.sns a.name=some i) (hx:b.sns[i]? =some x) (h:x.inn=true):kY b.a a=(b.a,⟨6,0,[]⟩):=by
 unfold kY
 rw[show b.a.sns=b.sns.map Sn.a from rfl,v8 hix hx]
 dsimp only
 rw[if_pos (show x.a.inn=true from h)]
 rfl
theorem CE {b:Bk} {a:Act} {i:Nat} {x:Sn} (hix:fl b.sns a.name=some i) (hx:b.sns[i]? =some x) (h:x.inn=false):kY b.a a=({b.a with sns:=(b.sns.set i {x with inn:=true}).map Sn.a},⟨0,0,[]⟩):=by
 unfold kY
 rw[show b.a.sns=b.sns.map Sn.a from rfl,v8 hix hx]
 dsimp only
 rw[if_neg (show¬ x.a.inn=true by show¬ x.inn=true;rw[h];decide),cD]
 rfl
theorem yt {b:Bk} {a:Act} (hix:fl b.sns a.name=none):kY b.a a=(b.a,⟨5,0,[]⟩):=by
 unfold kY
 rw[show b.a.sns=b.sns.map Sn.a from rfl,C3 hix]
 rfl
theorem fb {α:Type} {l:List α} {k:Nat} {a:α} (h:l[k]? =some a):l.set k a=l:=by
 apply eN
 intro j
 rw[lw]
 split
 rename_i hj
 subst hj
 split
 exact h.symm
 rename_i hl
 rw[cL I]at h;cases h
 rfl
theorem G2 {w0 w:World} {bb:Nat} {b:Bk} {gP:Nat} {uP:Array Value} {Ls Lo K:List (Nat×Obj)} {F:List cz} (a:Act) (B:Bw w0 w bb b gP uP Ls Lo K F) (hsl:b.sns.length<=1000000) (hix:fl b.sns a.name=none):dg ab jR [.pointer (Qd bb),a.v] w fun v w2=> ∃ b':Bk,oJ (kY b.a a).2 v w2/\b'.a=(kY b.a a).1/\xb w0 w2 bb b' K F:=by
 refine aF mz Z Z ?_
 obtain⟨ps,pA,pC,co,clo,chi,gr,glo,ghi,sns,snA,snC⟩:=b
 obtain⟨hpA,row,hsn,hown,hco,hgr,hps,H⟩:=B
 dsimp only at hpA row hsn hown hco hgr hps
 subst hpA
 replace H:Hp w0 w ((bb,.cells #[.slice (Qd gP) ps.length pC,J (co.clock),J (co.next),J (co.wait),.slice co.A co.txs.length co.cap,J (gr.clock),J (gr.wait),J (gr.gen),.slice gr.mA gr.ms.length gr.mC,.slice gr.oA gr.os.length gr.oC,.slice snA sns.length snC] bO (0,0))::(gP,.cells uP bM (0,0))::(Ls++(Lo++K))) F:=H
 dsimp only at hix hsl
 show CW _ _ _ _ (args [.pointer (Qd bb),.agg #[J (a.kind),.string (a.name),J (a.part),J (a.n),J (a.m),.string (a.text),J (a.lost)]]) w
 refine W<|Zr<|fW H Z Z fun w1 b3 H=>eI H dp Z fun w2 b4 H=>U<|W<|Zr<|G (Yp Z)<|G (Zf fe Z)<|G (Zd bc H 1 Z Z Z)<|ch dC (jt bb ⟨ps,some ⟨gP,0,none⟩,pC,co,clo,chi,gr,glo,ghi,sns,snA,snC⟩ (a.name) Ls _ (H.ent (i:=2) Z) hsn (fun q hq=>(H.ents q (by simp only[ay,ax];grind)).1) hsl) Z Z ?_
 rintro _ w3 ⟨rfl,hb⟩;replace H:=H.later hb;clear hb
 rw[hix]
 refine G (Wp Z)<|U<|W<|Zb<|W<|Zr<|G (Yp Z)<|G (xn iQ Z)<|G (Wb Z)<|U<|ZT Z<|W<|Zr<|ch bR (dU 5 _) Z Z ?_
 rintro _ w4 ⟨rfl,hb⟩;replace H:=H.later hb;clear hb
 refine bg H 0 (#[J (5),J (0),.slice none 0 0]) aP Z Z Z Z Z N N fun w5 H=>U<|Zt ?_
 exact eS (cs0:= #[J (5),J (0),.slice none 0 0]) Z aM Z (H.ent (i:=0) Z) Z ⟨⟨ps,some ⟨gP,0,none⟩,pC,co,clo,chi,gr,glo,ghi,sns,snA,snC⟩,by rw[yt hix];exact oJ.plain _ _ _,by rw[yt hix],Bw.shut (X:=[(b4,_),(b3,_)]) row hsn hown hco hgr hps (fun _ h=>h) H Z⟩
theorem G1 {w0 w:World} {bb:Nat} {b:Bk} {gP:Nat} {uP:Array Value} {Ls Lo K:List (Nat×Obj)} {F:List cz} (a:Act) (B:Bw w0 w bb b gP uP Ls Lo K F) (hsl:b.sns.length<=1000000) {i:Nat} {x:Sn} (hix:fl b.sns a.name=some i) (hx:b.sns[i]? =some x):dg ab jR [.pointer (Qd bb),a.v] w fun v w2=> ∃ b':Bk,oJ (kY b.a a).2 v w2/\b'.a=(kY b.a a).1/\xb w0 w2 bb b' K F:=by
 refine aF mz Z Z ?_
 obtain⟨ps,pA,pC,co,clo,chi,gr,glo,ghi,sns,snA,snC⟩:=b
 obtain⟨hpA,row,hsn,hown,hco,hgr,hps,H⟩:=B
 dsimp only at hpA row hsn hown hco hgr hps
 subst hpA
 dsimp only at hix hx
 obtain⟨gS,uS,hgS,hLs,rowS⟩:=hsn.row (by have:=(bT hx).1;omega)
 subst hgS;subst hLs
 obtain⟨gq,uq,gl,ul,La,Lb,hsA,hlA,rowq,rowl,hLo,hset⟩:=hown.at_ hx
 subst hLo
 replace H:Hp w0 w ((bb,.cells #[.slice (Qd gP) ps.length pC,J (co.clock),J (co.next),J (co.wait),.slice co.A co.txs.length co.cap,J (gr.clock),J (gr.wait),J (gr.gen),.slice gr.mA gr.ms.length gr.mC,.slice gr.oA gr.os.length gr.oC,.slice (Qd gS) sns.length snC] bO (0,0))::(gP,.cells uP bM (0,0))::(gS,.cells uS fA (0,0))::(gq,.cells uq db (0,0))::(gl,.cells ul dy (0,0))::(La++(Lb++K))) F:=H.perm (Cs [(bb,_),(gP,_),(gS,_)] _ _ La Lb K)
 dsimp only at hsl
 show CW _ _ _ _ (args [.pointer (Qd bb),.agg #[J (a.kind),.string (a.name),J (a.part),J (a.n),J (a.m),.string (a.text),J (a.lost)]]) w
 refine W<|Zr<|fW H Z Z fun w1 b3 H=>eI H dp Z fun w2 b4 H=>U<|W<|Zr<|G (Yp Z)<|G (Zf fe Z)<|G (Zd bc H 1 Z Z Z)<|ch dC (jt bb ⟨ps,some ⟨gP,0,none⟩,pC,co,clo,chi,gr,glo,ghi,sns,some ⟨gS,0,none⟩,snC⟩ (a.name) _ _ (H.ent (i:=2) Z) (dz.own rowS) (fun q hq=>by rw[au.1 hq];exact(H.ent (i:=4) Z)) hsl) Z Z ?_
 rintro _ w3 ⟨rfl,hb⟩;replace H:=H.later hb;clear hb
 rw[hix]
 refine G (Wp Z)<|U<|W<|Zb<|W<|Zr<|G (Yp Z)<|G (vz iQ Z)<|G (Wb Z)<|U<|ZF Z<|W<|Zr<|G (Yp Z)<|G (aG Z)<|G (Zf om Z) ?_
 refine wl (bf dV rowS hx 3 Z (H.ent (i:=4) Z) Z) Z Z Z (fun h18=> ?_) (fun h18=> ?_)
 refine G (Wb Z)<|U<|ZT Z<|W<|Zr<|ch bR (dU 6 _) Z Z ?_
 rintro _ w4 ⟨rfl,hb⟩;replace H:=H.later hb;clear hb
 refine bg H 0 (#[J (6),J (0),.slice none 0 0]) aP Z Z Z Z Z N N fun w5 H=>U<|Zt ?_
 exact eS (cs0:= #[J (6),J (0),.slice none 0 0]) Z aM Z (H.ent (i:=0) Z) Z ⟨⟨ps,some ⟨gP,0,none⟩,pC,co,clo,chi,gr,glo,ghi,sns.set i x,some ⟨gS,0,none⟩,snC⟩,by rw[wT hix hx h18];exact oJ.plain _ _ _,by rw[wT hix hx h18,fb hx],Bw.close (X:=[(b4,_),(b3,_)]) row (by rw[fb hx];exact rowS) hset hsA hlA rowq rowl hco hgr hps (fun _ h=>h) H (by rw[fb hx];rfl)⟩
 refine G (Wb Z)<|U<|ZF Z<|Zk<|W<|Zr<|G (Yp Z)<|G (aG Z)<|G (Zf om Z)<|im H 4 ({x with inn:=true}) eo rowS hx 3 Z Z Z Z Z Z N fun w7 cur6 row6 H=> ?_
 have hs8:(sns.set i ({x with inn:=true}))[i]? =some ({x with inn:=true}):=ae (bT hx).1
 refine U<|W<|Zr<|G (bn (cs:= #[J (0),J (0),.slice none 0 0]) iI dp N)<|bg H 0 (#[J (0),J (0),.slice none 0 0]) aP Z Z Z Z Z N N fun w9 H=>U<|Zt ?_
 exact eS (cs0:= #[J (0),J (0),.slice none 0 0]) Z aM Z (H.ent (i:=0) Z) Z ⟨⟨ps,some ⟨gP,0,none⟩,pC,co,clo,chi,gr,glo,ghi,sns.set i {x with inn:=true},some ⟨gS,0,none⟩,snC⟩,by rw[CE hix hx h18];exact oJ.plain _ _ _,by rw[CE hix hx h18];rfl,Bw.close (X:=[(b4,_),(b3,_)]) row row6 hset hsA hlA rowq rowl hco hgr hps (fun _ h=>h) H (by simp only[Bk.c,aa])⟩
def LL:Deep Co:=⟨fun c=>c.rd,fun _ _ _ _ _ hk h=>h.st hk,fun _ _ _ _ _ _ h h1 h2=>h.mono h1 h2⟩
def pR:Nat->ByteArray
 |0=>⟨#[97,110,110]⟩
 |1=>⟨#[98,111,98]⟩
 |_=>⟨#[99,121]⟩
theorem Mv:bQ ⟨#[97,110,110]⟩=true:=by kernel_rfl
theorem Mu:bQ ⟨#[98,111,98]⟩=true:=by kernel_rfl
theorem y0:bQ ⟨#[99,121]⟩=true:=by kernel_rfl
theorem qT: ∀ m:Nat,bQ (pR m)=true
 |0=>Mv
 |1=>Mu
 |_+2=>y0
theorem Kw {m:Nat} (h:m<3):(p8 [.string ⟨#[97,110,110]⟩,.string ⟨#[98,111,98]⟩,.string ⟨#[99,121]⟩]).toArray[0+((m:Nat):Int).toNat*1]? =some (.string (pR m)):=by
 match m,h with
 |0,_=>rfl
 |1,_=>rfl
 |2,_=>rfl
def BW (P:ByteArray->Prop) (wt:Int) (c:Co):Prop:=c.wait=wt/\ ∀ t∈c.txs,P t.name
theorem BW.set {P:ByteArray->Prop} {wt:Int} {c:Co} {i:Nat} {t t':Tx} (h:BW P wt c) (hi:c.txs[i]? =some t) (hn:t'.name=t.name):BW P wt (qC c i t'):=⟨h.1,fun x hx=>by
 rcases Dh hx with hx|rfl
 exact h.2 x hx
 rw[hn];exact h.2 t (ah hi)⟩
theorem BW.add {P:ByteArray->Prop} {wt:Int} {c:Co} {s:ByteArray} {ver p:Int} (h:BW P wt c) (he:(oD c s ver p).2=0):BW P wt (oD c s ver p).1:=by
 unfold oD at he⊢
 split
 rename_i hf;rw[hf]at he;cases he
 rename_i i t hf
 rw[hf]at he
 dsimp only at he
 split at he
 cases he
 rename_i hv
 rw[if_neg hv]
 split at he
 rename_i h1
 rw[if_pos h1]
 exact h.set (jf hf).2.1 (by unfold iE;split<;>rfl)
 cases he
theorem BW.done {P:ByteArray->Prop} {wt:Int} {c:Co} {s:ByteArray} {p:Int} (h:BW P wt c) (he:(qJ c s p).2=0):BW P wt (qJ c s p).1:=by
 unfold qJ at he⊢
 split
 rename_i hf;rw[hf]at he;cases he
 rename_i i t hf
 rw[hf]at he
 dsimp only at he
 split at he
 rename_i h1
 rw[if_pos h1]
 split at he
 rename_i h2
 rw[if_pos h2]
 exact h.set (jf hf).2.1 (by unfold gB;split<;>rfl)
 cases he
 cases he
theorem BW.tick {P:ByteArray->Prop} {wt:Int} {c:Co} {n:Int} (h:BW P wt c) (he:(je c n).2=0):BW P wt (je c n).1:=by
 unfold je at he⊢
 split at he
 cases he
 rename_i h1
 rw[if_neg h1]
 refine⟨h.1,fun t ht=> ?_⟩
 obtain⟨x,hx,rfl⟩:=bB.1 (show t∈c.txs.map _ from ht)
 have:(fp (c.clock+n) c.wait x).name=x.name:=by unfold fp;split<;>rfl
 rw[this];exact h.2 x hx
theorem BW.a {P:ByteArray->Prop} {wt:Int} {c:Co} (h:BW P wt c):BW P wt c.a:=⟨h.1,fun t ht=>by
 obtain⟨x,hx,rfl⟩:=bB.1 (show t∈c.txs.map Tx.a from ht)
 exact h.2 x hx⟩
theorem BW.of_a {P:ByteArray->Prop} {wt:Int} {c:Co} (h:BW P wt c.a):BW P wt c:=⟨h.1,fun t ht=>h.2 t.a (bP (f:=Tx.a) ht)⟩
def M8 (s:ByteArray):Prop:= ∃ m,s=pR m
def PE (k:Nat) (c:Co):Prop:=oI k c/\BW M8 10 c
theorem PE.next {k:Nat} {r:Co×Int} {c':Co} (h1:r.2=0->oI (k+1) r.1) (h2:r.2=0->BW M8 10 r.1) (ha:c'.a=r.1):r.2=0->PE (k+1) c':=fun h=>⟨oI.of_a (ha▸h1 h),BW.of_a (ha▸h2 h)⟩
theorem KI (n:Int) (w:World) (hn:i64 n):dg ab uE [J n] w fun v w2=>v=.string (pR (pk n 3))/\Below w.heap.size w w2:=by
 refine aF tK Z Z ?_
 have H:=Hp.start w
 refine W<|Zr<|G (Wt Z)<|U<|W<|Zr<|sW (vs:=[.string ⟨#[97,110,110]⟩,.string ⟨#[98,111,98]⟩,.string ⟨#[99,121]⟩]) H ip vW Z Z Z Z Z Z fun w1 b3 H=>G (Yi Z)<|ch aJ (dm n 3 _ hn.1 hn.2 I I) Z Z ?_
 rintro _ w2 ⟨rfl,hb⟩;replace H:=H.later hb;clear hb
 have hm:=i9 n (show 0<3 by omega)
 refine G (sS ip Z Z I I)<|G (aX bc Z (aD (H.ent (i:=0) Z) (Kw hm)))<|G (Wt Z)<|U<|Zt ?_
 exact cH Z Z ⟨rfl,H.below⟩
theorem Hn {w:Wa} {n:Nat} {x:cQ} {p:gE} (h:w.ps[n]? =some p):uA w n x=if(eH p x).2.2=0 then({w with ps:=w.ps.set n (eH p x).1},⟨0,(eH p x).2.1,[]⟩)else l5 w (eH p x).2.2:=by
 unfold uA
 rw[h]
theorem zJ {ps:List Pq} {n:Nat} {q y:Pq} (h:y∈ps.set n q):y∈ps∨y=q:=bH h
theorem AC {w0 w:World} {bb gP gS gq gl pC snC clo chi k i n:Nat} {uP uS uq ul:Array Value} {R:List (Nat×Obj)} {F:List cz} {ps:List Pq} {co:Co} {gr:Gr} {sns:List Sn} {x:Sn} (H:Hp w0 w ((bb,.cells #[.slice (Qd gP) ps.length pC,J (co.clock),J (co.next),J (co.wait),.slice co.A co.txs.length co.cap,J (gr.clock),J (gr.wait),J (gr.gen),.slice gr.mA gr.ms.length gr.mC,.slice gr.oA gr.os.length gr.oC,.slice (Qd gS) sns.length snC] bO (0,0))::(gP,.cells uP bM (0,0))::(gS,.cells uS fA (0,0))::(gq,.cells uq db (0,0))::(gl,.cells ul dy (0,0))::R) F) (row:dz C9 ps pC uP) (rowS:dz zn sns snC uS) (rowl:dz gQ x.last x.lC ul) (hx:sns[i]? =some x) (hlA:x.lA=some ⟨gl,0,none⟩) (hco:xa w0 clo chi co∈F) (hps: ∀ q∈ps,tf w0 q.lo q.hi q.p∈F) (hn:n<x.last.length) (hnp:n<ps.length) (hn4:n<4) (hnm:bQ x.name=true) (hcb:oI k co) (hpk: ∀ q∈ps,q.p.a.ok/\ ∀ (l:Nat) (y:fg),q.p.leader=l->q.p.reps[l]? =some y->y.es.length<400):dg ab rM [.pointer (Qd bb),.pointer (some ⟨gS,i*zn.sz,none⟩),J (n:Nat)] w fun v w2=> ∃ (ps':List Pq) (uP':Array Value) (co':Co) (clo' chi':Nat) (F':List cz),oJ (eu (Wa.mk (ps.map fun q=>q.p.a) co.a gr.a (sns.map Sn.a)) x.a n).2 v w2/\(eu (Wa.mk (ps.map fun q=>q.p.a) co.a gr.a (sns.map Sn.a)) x.a n).1=Wa.mk (ps'.map fun q=>q.p.a) co'.a gr.a (sns.map Sn.a)/\dz C9 ps' pC uP'/\ps'.length=ps.length/\xa w0 clo' chi' co'∈F'/\(∀ q∈ps',tf w0 q.lo q.hi q.p∈F')/\(∀ f∈F,f∈F')/\Hp w0 w2 ((bb,.cells #[.slice (Qd gP) ps'.length pC,J (co'.clock),J (co'.next),J (co'.wait),.slice co'.A co'.txs.length co'.cap,J (gr.clock),J (gr.wait),J (gr.gen),.slice gr.mA gr.ms.length gr.mC,.slice gr.oA gr.os.length gr.oC,.slice (Qd gS) sns.length snC] bO (0,0))::(gP,.cells uP' bM (0,0))::(gS,.cells uS fA (0,0))::(gq,.cells uq db (0,0))::(gl,.cells ul dy (0,0))::R) F':=by
 refine aF rt Z Z ?_
 obtain⟨e,he⟩: ∃ e,x.last[n]? =some e:=⟨_,ai hn⟩
 have hl5:(zn.f x)[5]? =some (.slice (some ⟨gl,0,none⟩) x.last.length x.lC):=by rw[<-hlA];rfl
 obtain⟨q,hq⟩: ∃ q,ps[n]? =some q:=⟨_,ai hnp⟩
 have hqm:=ah hq
 have hpC:=row.le
 have hD:eu (Wa.mk (ps.map fun q=>q.p.a) co.a gr.a (sns.map Sn.a)) x.a n=if(rS (Wa.mk (ps.map fun q=>q.p.a) co.a gr.a (sns.map Sn.a)) x.a n e).2=0 then uA (Wa.mk (ps.map fun q=>q.p.a) (rS (Wa.mk (ps.map fun q=>q.p.a) co.a gr.a (sns.map Sn.a)) x.a n e).1 gr.a (sns.map Sn.a)) n e else l5 (Wa.mk (ps.map fun q=>q.p.a) co.a gr.a (sns.map Sn.a)) (rS (Wa.mk (ps.map fun q=>q.p.a) co.a gr.a (sns.map Sn.a)) x.a n e).2:=by unfold eu;rw[show x.a.last[n]? =some e from he]
 rw[hD]
 have hP:=Hn (w:=Wa.mk (ps.map fun q=>q.p.a) (rS (Wa.mk (ps.map fun q=>q.p.a) co.a gr.a (sns.map Sn.a)) x.a n e).1 gr.a (sns.map Sn.a)) (n:=n) (x:=e) (p:=q.p.a) (by rw[aL,hq];rfl)
 refine W<|Zr<|eI H dp Z fun w1 b6 H=>U<|W<|Zr<|G (Yp Z)<|G (aG Z)<|G (Zf lV Z)<|G (bf m9 rowS hx 5 Z (H.ent (i:=3) Z) hl5)<|G (Yi Z)<|G (bV dX Z Z (by first|omega|(simp only[aa];omega)))<|G (oM dI rowl he Z Z (H.ent (i:=5) Z))<|eI H gh Z fun w2 b7 H=>bg H 0 (#[J (e.epoch),J (e.pid),J (e.ver),J (e.seq),J (e.kind),.bool (e.txn),.string (e.text)]) eV Z Z Z Z Z N N fun w3 H=>U<|W<|W<|Zr<|G (Zf i6 Z)<|G (Zd dV H 0 Z Z Z)<|U ?_
 refine eG (τ:=Co×Nat×Nat×List cz) [8,9,22,23,24,25,26,27,28,29,30,31,32,33,34,35,36,37,38,39,40,41,42,43,44,45,46] (fun _=>[]) (fun(c2,l2,h2,F2) w'=>c2.a=(rS (Wa.mk (ps.map fun q=>q.p.a) co.a gr.a (sns.map Sn.a)) x.a n e).1/\(rS (Wa.mk (ps.map fun q=>q.p.a) co.a gr.a (sns.map Sn.a)) x.a n e).2=0/\xa w0 l2 h2 c2∈F2/\(∀ f∈F,f∈F2)/\Hp w0 w' ((b7,.cells #[J (e.epoch),J (e.pid),J (e.ver),J (e.seq),J (e.kind),.bool (e.txn),.string (e.text)] dy (0,0))::(b6,.cells #[J (0),J (0),.slice none 0 0] eg (0,0))::(bb,.cells #[.slice (Qd gP) ps.length pC,J (c2.clock),J (c2.next),J (c2.wait),.slice c2.A c2.txs.length c2.cap,J (gr.clock),J (gr.wait),J (gr.gen),.slice gr.mA gr.ms.length gr.mC,.slice gr.oA gr.os.length gr.oC,.slice (Qd gS) sns.length snC] bO (0,0))::(gP,.cells uP bM (0,0))::(gS,.cells uS fA (0,0))::(gq,.cells uq db (0,0))::(gl,.cells ul dy (0,0))::R) F2) ?_ ?_
 refine jo Z (fun hc21=> ?_) (fun hc21=> ?_)
 refine W ?_
 refine eG (τ:=Co×Nat×Nat×Nat) [8,9,22,23,24,25,26,27,28,29,30,31,32,33,34,35,36,37] (fun(_,b8,_,_)=>[(8,.pointer (Qd b8)),(9,J (oD co.a x.name e.ver n).2)]) (fun(c3,b8,lo,hi) w'=>c3.a=(oD co.a x.name e.ver n).1/\Hp w0 w' ((b8,.cells #[J (c3.clock),J (c3.next),J (c3.wait),.slice c3.A c3.txs.length c3.cap] bk (0,0))::(b7,.cells #[J (e.epoch),J (e.pid),J (e.ver),J (e.seq),J (e.kind),.bool (e.txn),.string (e.text)] dy (0,0))::(b6,.cells #[J (0),J (0),.slice none 0 0] eg (0,0))::(bb,.cells #[.slice (Qd gP) ps.length pC,J (co.clock),J (co.next),J (co.wait),.slice co.A co.txs.length co.cap,J (gr.clock),J (gr.wait),J (gr.gen),.slice gr.mA gr.ms.length gr.mC,.slice gr.oA gr.os.length gr.oC,.slice (Qd gS) sns.length snC] bO (0,0))::(gP,.cells uP bM (0,0))::(gS,.cells uS fA (0,0))::(gq,.cells uq db (0,0))::(gl,.cells ul dy (0,0))::R) (xa w0 lo hi c3::F)) ?_ ?_
 refine ou ci 16 12 [12,13,14,15,17,18] [16] [0,1,2,3,5,6,7,9,11] [16,17,18] [12] [0,1,2,3,5,6,7,9,11,13,14,15] (sp [(16,Sp.blk w3.heap.size (.agg #[J 0,J 0,J 0,.slice none 0 0]) bk)]) (sp [(12,Sp.deep w3.heap.size LL (fun c:Co=>c.c.toArray) (fun cs=> .tuple #[.agg cs,J (oD co.a x.name e.ver n).2]) (fun cq:Co=>cq.a=(oD co.a x.name e.ver n).1))]) N N N N (cJ _) (cJ _) ?_ ?_
 refine jz [0,1,2,3,4,5,6,7,8,9,10,11,16] [12,13,14,15,17,18] [16] [0,1,2,3,5,6,7,9,11] 5 (sp [(16,Sp.blk w3.heap.size (.agg #[J 0,J 0,J 0,.slice none 0 0]) bk)]) N N N Nq<|aw Z Z Z Z Z (fun w' hw'=>Yp Z)<|aw Z Z Z Z Z (fun w' hw'=>aG Z)<|aw Z Z Z Z Z (fun w' hw'=>Zf aV Z)<|aw Z Z Z Z Z (fun w' hw'=>Zf er Z)<|aw Z Z Z Z Z (fun w' hw'=>jl 1 [J (co.clock),J (co.next),J (co.wait),.slice co.A co.txs.length co.cap] aq Z Z ((H.later hw').ent (i:=2) Z) Z)<|aw Z Z Z Z Z (fun w' hw'=>Yp Z)<|aw Z Z Z Z Z (fun w' hw'=>aG Z)<|aw Z Z Z Z Z (fun w' hw'=>Zf oo Z)<|aw Z Z Z Z Z (fun w' hw'=>bf bc rowS hx 0 Z ((H.later hw').ent (i:=4) Z) Z)<|aw Z Z Z Z Z (fun w' hw'=>Zf eF Z)<|aw Z Z Z Z Z (fun w' hw'=>aX ak Z (aD ((H.later hw').ent (i:=0) Z) Z))<|aw Z Z Z Z Z (fun w' hw'=>Yi Z)<|wW cM Z Z Z Z Z (fun w' hw'=>hw'.size) fun b8=>aQ ?_
 intro w4 hw' hF
 obtain⟨hF,bq,eq,hge8,hbl8⟩:=hF;cases eq
 replace H:=H.adoptNew hw' hbl8 hge8
 clear hw' hF
 refine bu 12 N Z<|ch wS (FI co x.name e.ver n k _ (Hp.coM H hco) hcb hnm I I) Z Z ?_
 rintro _ w5 ⟨c3,rfl,hac3,hnc3⟩;replace H:=H.learn hnc3.2 (xa w0 w4.heap.size w5.heap.size c3) ⟨H.size,hnc3.1⟩ (ao _) (ao _);clear hnc3
 refine U<|bC 13 N N N Z Z Z Z Nq (fun _=>Yu Z)<|bC 14 N N N Z Z Z Z Nq (fun _=>Xa Z Z)<|bC 15 N N N Z Z Z Z Nq (fun _=>Xi Z Z)<|bu 17 N Z<|bg H 0 (#[J (c3.clock),J (c3.next),J (c3.wait),.slice c3.A c3.txs.length c3.cap]) aA Z Z Z Z Z N N fun w6 H=>U<|bC 18 N N N Z Z Z Z Nq (fun _=>Wi Z)<|aZ N ?_
 exact⟨(c3,b8,_,_),⟨hac3,H⟩,la Z Z,Qg⟩
 refine jz [0,1,2,3,4,5,6,7,8,9,10,11,12,13,14,15] [16,17,18] [12] [0,1,2,3,5,6,7,9,11,13,14,15] 2 (sp [(12,Sp.deep w3.heap.size LL (fun c:Co=>c.c.toArray) (fun cs=> .tuple #[.agg cs,J (oD co.a x.name e.ver n).2]) (fun cq:Co=>cq.a=(oD co.a x.name e.ver n).1))]) N N N Nq<|aw Z Z Z Z Z (fun w' hw'=>Yp Z)<|aw Z Z Z Z Z (fun w' hw'=>aG Z)<|aw Z Z Z Z Z (fun w' hw'=>Zf aV Z)<|aw Z Z Z Z Z (fun w' hw'=>Zf er Z)<|aw Z Z Z Z Z (fun w' hw'=>jl 1 [J (co.clock),J (co.next),J (co.wait),.slice co.A co.txs.length co.cap] aq Z Z ((H.later hw').ent (i:=2) Z) Z)<|aw Z Z Z Z Z (fun w' hw'=>Yp Z)<|aw Z Z Z Z Z (fun w' hw'=>aG Z)<|aw Z Z Z Z Z (fun w' hw'=>Zf oo Z)<|aw Z Z Z Z Z (fun w' hw'=>bf bc rowS hx 0 Z ((H.later hw').ent (i:=4) Z) Z)<|aw Z Z Z Z Z (fun w' hw'=>Zf eF Z)<|aw Z Z Z Z Z (fun w' hw'=>aX ak Z (aD ((H.later hw').ent (i:=0) Z) Z))<|aw Z Z Z Z Z (fun w' hw'=>Yi Z)<|sL (gv:=(fun cs=> .tuple #[.agg cs,J (oD co.a x.name e.ver n).2])) wS Z Z Z Z Z (fun w' hw'=>hw'.size) (fun w' hw'=>FI co x.name e.ver n k w' (Hp.coM (H.later hw') hco) hcb hnm I I) Z fun cs35=>aw Z Z Z Z Z (fun w' hw'=>Yu Z)<|aw Z Z Z Z Z (fun w' hw'=>Xa Z Z)<|aw Z Z Z Z Z (fun w' hw'=>Xi Z Z)<|aQ ?_
 intro w7 hw' hF
 obtain⟨hF,c3,eq,hac3,hrd35⟩:=hF;cases eq
 replace H:=H.learn hw' (xa w0 w3.heap.size w7.heap.size c3) ⟨H.size,hrd35⟩ (ao _) (ao _)
 clear hw' hF
 refine bu 16 N Z<|eI H cM Z fun w8 b8 H=>U<|bu 17 N Z<|bg H 0 (#[J (c3.clock),J (c3.next),J (c3.wait),.slice c3.A c3.txs.length c3.cap]) aA Z Z Z Z Z N N fun w9 H=>U<|bC 18 N N N Z Z Z Z Nq (fun _=>Wi Z)<|aZ N ?_
 exact⟨(c3,b8,_,_),⟨hac3,H⟩,la Z Z,Qg⟩
 rintro⟨c3,b8,lo,hi⟩ ρ1 w10 ⟨hac3,H⟩
 show CW _ _ _ _ (dH (gJ _ _ ρ1) [(8,.pointer (Qd b8)),(9,J (oD co.a x.name e.ver n).2)]) w10
 refine W<|W<|Zr<|G (Yi Z) ?_
 refine qV (ja Z Z) Z Z Z (fun h39=> ?_) (fun h39=> ?_)
 have hadd: ¬ (rS (Wa.mk (ps.map fun q=>q.p.a) co.a gr.a (sns.map Sn.a)) x.a n e).2=0:=by unfold rS;rw[if_pos hc21];exact h39
 have hadd2:(rS (Wa.mk (ps.map fun q=>q.p.a) co.a gr.a (sns.map Sn.a)) x.a n e).2=(oD co.a x.name e.ver n).2:=by unfold rS;rw[if_pos hc21];rfl
 refine U<|ZT Z<|W<|Zr<|G (Yi Z)<|ch bR (dU (oD co.a x.name e.ver n).2 _) Z Z ?_
 rintro _ w11 ⟨rfl,hb⟩;replace H:=H.later hb;clear hb
 refine bg H 2 (#[J ((oD co.a x.name e.ver n).2),J (0),.slice none 0 0]) aP Z Z Z Z Z N N fun w12 H=>U<|Zt ?_
 exact eS (cs0:= #[J ((oD co.a x.name e.ver n).2),J (0),.slice none 0 0]) Z aM Z (H.ent (i:=2) Z) Z ⟨ps,uP,co,clo,chi,xa w0 lo hi c3::F,by rw[if_neg hadd,hadd2];exact oJ.plain _ _ _,by rw[if_neg hadd];rfl,row,rfl,al _ hco,fun q hq=>al _ (hps q hq),fun f hf=>al _ hf,H.forget (cu [(b8,_),(b7,_),(b6,_)] _) (fun _ h=>h)⟩
 refine U<|ZF Z<|Zk<|Zr<|G (Yp Z)<|G (Zw aq H 0 Z Z Z)<|G (aG Z)<|G (Zf aV Z)<|G (Zf er Z)<|bg H 3 (#[.slice (Qd gP) ps.length pC,J (c3.clock),J (c3.next),J (c3.wait),.slice c3.A c3.txs.length c3.cap,J (gr.clock),J (gr.wait),J (gr.gen),.slice gr.mA gr.ms.length gr.mC,.slice gr.oA gr.os.length gr.oC,.slice (Qd gS) sns.length snC]) aA Z Z Z Z Z N N fun w13 H=>U ?_
 exact⟨(c3,_,_,_),⟨by rw[hac3];unfold rS;rw[if_pos hc21];rfl,by unfold rS;rw[if_pos hc21];exact(by simpa using h39:(oD co.a x.name e.ver n).2=0),aC ..,fun f hf=>al _ hf,H.forget (.cons _ (ar _)) (fun _ h=>h)⟩,rX,Qg⟩
 refine Zk ?_
 exact⟨(co,clo,chi,F),⟨by unfold rS;rw[if_neg (by rw[hc21];decide)],by unfold rS;rw[if_neg (by rw[hc21];decide)],hco,fun _ h=>h,H⟩,rX,Qg⟩
 rintro⟨c2,l2,h2,F2⟩ ρ1 w14 ⟨hc2,hok2,hco2,hF2,H⟩
 show CW _ _ _ _ (dH (gJ _ _ ρ1) []) w14
 refine W ?_
 refine eG (τ:=Pa×Nat×Nat×Nat) [10,11,12,47,48,49,50,51,52,53,54,55,56,57,58,59,60] (fun(_,b10,_,_)=>[(10,.pointer (Qd b10)),(11,J (eH q.p.a e).2.1),(12,J (eH q.p.a e).2.2)]) (fun(p2,b10,lo,hi) w'=>p2.a=(eH q.p.a e).1/\Hp w0 w' ((b10,.cells #[J (p2.epoch),J (p2.leader),.slice p2.iA p2.isr.length p2.iC,.slice p2.kA p2.known.length p2.kC,.slice p2.rA p2.reps.length p2.rC,J (p2.few),J (p2.base)] bM (0,0))::(b7,.cells #[J (e.epoch),J (e.pid),J (e.ver),J (e.seq),J (e.kind),.bool (e.txn),.string (e.text)] dy (0,0))::(b6,.cells #[J (0),J (0),.slice none 0 0] eg (0,0))::(bb,.cells #[.slice (Qd gP) ps.length pC,J (c2.clock),J (c2.next),J (c2.wait),.slice c2.A c2.txs.length c2.cap,J (gr.clock),J (gr.wait),J (gr.gen),.slice gr.mA gr.ms.length gr.mC,.slice gr.oA gr.os.length gr.oC,.slice (Qd gS) sns.length snC] bO (0,0))::(gP,.cells uP bM (0,0))::(gS,.cells uS fA (0,0))::(gq,.cells uq db (0,0))::(gl,.cells ul dy (0,0))::R) (tf w0 lo hi p2::F2)) ?_ ?_
 refine ou ci 14 9 [9,10,11,12,13,15,16,17] [14] [0,1,2,3,5,6] [14,15,16,17] [9] [0,1,2,3,5,6,10,11,12,13] (sp [(14,Sp.blk w14.heap.size (.agg #[J 0,J 0,.slice none 0 0,.slice none 0 0,.slice none 0 0,J 0,J 0]) bM)]) (sp [(9,Sp.deep w14.heap.size OT (fun p:Pa=>p.c.toArray) (fun cs=> .tuple #[.agg cs,J (eH q.p.a e).2.1,J (eH q.p.a e).2.2]) (fun cq:Pa=>cq.a=(eH q.p.a e).1))]) N N N N (cJ _) (cJ _) ?_ ?_
 refine jz [0,1,2,3,4,5,6,7,8,14] [9,10,11,12,13,15,16,17] [14] [0,1,2,3,5,6] 7 (sp [(14,Sp.blk w14.heap.size (.agg #[J 0,J 0,.slice none 0 0,.slice none 0 0,.slice none 0 0,J 0,J 0]) bM)]) N N N Nq<|aw Z Z Z Z Z (fun w' hw'=>Yp Z)<|aw Z Z Z Z Z (fun w' hw'=>aG Z)<|aw Z Z Z Z Z (fun w' hw'=>Zf aV Z)<|aw Z Z Z Z Z (fun w' hw'=>Zf dx Z)<|aw Z Z Z Z Z (fun w' hw'=>aX d3 Z (aD ((H.later hw').ent (i:=2) Z) Z))<|aw Z Z Z Z Z (fun w' hw'=>Yi Z)<|aw Z Z Z Z Z (fun w' hw'=>bV gV Z Z (by first|omega|(simp only[aa];omega)))<|aw Z Z Z Z Z (fun w' hw'=>oM aH row hq Z Z ((H.later hw').ent (i:=3) Z))<|aw Z Z Z Z Z (fun w' hw'=>jW dI Z ((H.later hw').ent (i:=0) Z) Z)<|wW bv Z Z Z Z Z (fun w' hw'=>hw'.size) fun b10=>aQ ?_
 intro w15 hw' hF
 obtain⟨hF,bq,eq,hge10,hbl10⟩:=hF;cases eq
 replace H:=H.adoptNew hw' hbl10 hge10
 clear hw' hF
 refine bu 9 N Z<|ch qL (yY q.p e _ (Hp.paM H (hF2 _ (hps q hqm))) (hpk q hqm).1 (hpk q hqm).2) Z Z ?_
 rintro _ w16 ⟨p2,rfl,hap2,hnp2⟩;replace H:=H.learn hnp2.2 (tf w0 w15.heap.size w16.heap.size p2) ⟨H.size,hnp2.1⟩ (ao _) (ao _);clear hnp2
 refine U<|bC 10 N N N Z Z Z Z Nq (fun _=>Yu Z)<|bC 11 N N N Z Z Z Z Nq (fun _=>Xa Z Z)<|bC 12 N N N Z Z Z Z Nq (fun _=>Xi Z Z)<|bC 13 N N N Z Z Z Z Nq (fun _=>Xi Z Z)<|bu 15 N Z<|bg H 0 (#[J (p2.epoch),J (p2.leader),.slice p2.iA p2.isr.length p2.iC,.slice p2.kA p2.known.length p2.kC,.slice p2.rA p2.reps.length p2.rC,J (p2.few),J (p2.base)]) aK Z Z Z Z Z N N fun w17 H=>U<|bC 16 N N N Z Z Z Z Nq (fun _=>Wi Z)<|bC 17 N N N Z Z Z Z Nq (fun _=>Wi Z)<|aZ N ?_
 exact⟨(p2,b10,_,_),⟨hap2,H⟩,Nb Z Z Z,Qg⟩
 refine jz [0,1,2,3,4,5,6,7,8,9,10,11,12,13] [14,15,16,17] [9] [0,1,2,3,5,6,10,11,12,13] 3 (sp [(9,Sp.deep w14.heap.size OT (fun p:Pa=>p.c.toArray) (fun cs=> .tuple #[.agg cs,J (eH q.p.a e).2.1,J (eH q.p.a e).2.2]) (fun cq:Pa=>cq.a=(eH q.p.a e).1))]) N N N Nq<|aw Z Z Z Z Z (fun w' hw'=>Yp Z)<|aw Z Z Z Z Z (fun w' hw'=>aG Z)<|aw Z Z Z Z Z (fun w' hw'=>Zf aV Z)<|aw Z Z Z Z Z (fun w' hw'=>Zf dx Z)<|aw Z Z Z Z Z (fun w' hw'=>aX d3 Z (aD ((H.later hw').ent (i:=2) Z) Z))<|aw Z Z Z Z Z (fun w' hw'=>Yi Z)<|aw Z Z Z Z Z (fun w' hw'=>bV gV Z Z (by first|omega|(simp only[aa];omega)))<|aw Z Z Z Z Z (fun w' hw'=>oM aH row hq Z Z ((H.later hw').ent (i:=3) Z))<|aw Z Z Z Z Z (fun w' hw'=>jW dI Z ((H.later hw').ent (i:=0) Z) Z)<|sL (gv:=(fun cs=> .tuple #[.agg cs,J (eH q.p.a e).2.1,J (eH q.p.a e).2.2])) qL Z Z Z Z Z (fun w' hw'=>hw'.size) (fun w' hw'=>yY q.p e w' (Hp.paM (H.later hw') (hF2 _ (hps q hqm))) (hpk q hqm).1 (hpk q hqm).2) Z fun cs57=>aw Z Z Z Z Z (fun w' hw'=>Yu Z)<|aw Z Z Z Z Z (fun w' hw'=>Xa Z Z)<|aw Z Z Z Z Z (fun w' hw'=>Xi Z Z)<|aw Z Z Z Z Z (fun w' hw'=>Xi Z Z)<|aQ ?_
 intro w18 hw' hF
 obtain⟨hF,p2,eq,hap2,hrd57⟩:=hF;cases eq
 replace H:=H.learn hw' (tf w0 w14.heap.size w18.heap.size p2) ⟨H.size,hrd57⟩ (ao _) (ao _)
 clear hw' hF
 refine bu 14 N Z<|eI H bv Z fun w19 b10 H=>U<|bu 15 N Z<|bg H 0 (#[J (p2.epoch),J (p2.leader),.slice p2.iA p2.isr.length p2.iC,.slice p2.kA p2.known.length p2.kC,.slice p2.rA p2.reps.length p2.rC,J (p2.few),J (p2.base)]) aK Z Z Z Z Z N N fun w20 H=>U<|bC 16 N N N Z Z Z Z Nq (fun _=>Wi Z)<|bC 17 N N N Z Z Z Z Nq (fun _=>Wi Z)<|aZ N ?_
 exact⟨(p2,b10,_,_),⟨hap2,H⟩,Nb Z Z Z,Qg⟩
 rintro⟨p2,b10,lo,hi⟩ ρ1 w21 ⟨hap2,H⟩
 show CW _ _ _ _ (dH (gJ _ _ ρ1) [(10,.pointer (Qd b10)),(11,J (eH q.p.a e).2.1),(12,J (eH q.p.a e).2.2)]) w21
 refine W<|W<|Zr<|G (Yi Z) ?_
 refine qV (ja Z Z) Z Z Z (fun h62=> ?_) (fun h62=> ?_)
 refine U<|ZT Z<|W<|Zr<|G (Yi Z)<|ch bR (dU (eH q.p.a e).2.2 _) Z Z ?_
 rintro _ w22 ⟨rfl,hb⟩;replace H:=H.later hb;clear hb
 refine bg H 2 (#[J ((eH q.p.a e).2.2),J (0),.slice none 0 0]) aP Z Z Z Z Z N N fun w23 H=>U<|Zt ?_
 exact eS (cs0:= #[J ((eH q.p.a e).2.2),J (0),.slice none 0 0]) Z aM Z (H.ent (i:=2) Z) Z ⟨ps,uP,c2,l2,h2,tf w0 lo hi p2::F2,by rw[if_pos hok2,hP,if_neg h62];exact oJ.plain _ _ _,by rw[if_pos hok2,hP,if_neg h62,<-hc2];rfl,row,rfl,al _ hco2,fun q hq=>al _ (hF2 _ (hps q hq)),fun f hf=>al _ (hF2 f hf),H.forget (cu [(b10,_),(b7,_),(b6,_)] _) (fun _ h=>h)⟩
 refine U<|ZF Z<|Zk<|W ?_
 refine bD ci [0,1,2,3,4,5,6,7] [8] [] [0,1,2,3,5,7] (sp []) N N N N Nq (cJ _) ?_
 refine aw Z Z Z Z Z (fun w' hw'=>Yp Z)<|aw Z Z Z Z Z (fun w' hw'=>aG Z)<|aw Z Z Z Z Z (fun w' hw'=>Zf aV Z)<|aw Z Z Z Z Z (fun w' hw'=>Zf dx Z)<|aw Z Z Z Z Z (fun w' hw'=>aX d3 Z (aD ((H.later hw').ent (i:=3) Z) Z))<|aw Z Z Z Z Z (fun w' hw'=>Yi Z)<|aw Z Z Z Z Z (fun w' hw'=>jW aH Z ((H.later hw').ent (i:=0) Z) Z)<|aw Z Z Z Z Z (fun w' hw'=>bV gV Z Z (by first|omega|(simp only[aa];omega)))<|aQ ?_
 intro w24 hw' hF
 replace H:=H.later hw';clear hw' hF
 refine im H 4 (⟨p2,lo,hi⟩) aK row hq 0 Z Z Z Z Z Z N fun w26 cur25 row25 H=> ?_
 have hs27:(ps.set n (⟨p2,lo,hi⟩))[n]? =some (⟨p2,lo,hi⟩):=ae (bT hq).1
 refine U<|W<|Zr<|G (Yi Z)<|G (bn (cs:= #[J (0),J ((eH q.p.a e).2.1),.slice none 0 0]) iI dp N)<|bg H 2 (#[J (0),J ((eH q.p.a e).2.1),.slice none 0 0]) aP Z Z Z Z Z N N fun w28 H=>U<|Zt ?_
 have hz:(eH q.p.a e).2.2=0:=by simpa using h62
 have hz2:=hz
 exact eS (cs0:= #[J (0),J ((eH q.p.a e).2.1),.slice none 0 0]) Z aM Z (H.ent (i:=2) Z) Z ⟨ps.set n ⟨p2,lo,hi⟩,_,c2,l2,h2,tf w0 lo hi p2::F2,by rw[if_pos hok2,hP,if_pos hz];exact oJ.plain _ _ _,by rw[if_pos hok2,hP,if_pos hz,<-hc2];simp only[cD,hap2],row25,aa ..,al _ hco2,fun y hy=>by rcases zJ hy with hy|hy;exact al _ (hF2 _ (hps y hy));rw[hy];exact aC ..,fun f hf=>al _ (hF2 f hf),by rw[aa];exact H.forget (cu [(b10,_),(b7,_),(b6,_)] _) (fun _ h=>h)⟩
/-- an answer without texts -/
def ON (x:An) (v:Value):Prop:=x.texts=[]/\v=.agg #[J x.code,J x.n,.slice none 0 0]
theorem ON.r {x:An} {v:Value} (h:ON x v) (w:World):oJ x v w:=by
 obtain⟨c,n,t⟩:=x
 obtain⟨h1,rfl⟩:=h
 dsimp only at h1
 subst h1
 exact oJ.plain c n w
theorem FS (a:Act) (x:An) (w:World):dg ab uZ [a.v,.agg #[J x.code,J x.n,.slice none 0 0]] w fun v w2=>v=.agg #[J (gb a x).code,J (gb a x).n,.slice none 0 0]/\Below w.heap.size w w2:=
 (CZ a x.code x.n none 0 0 w).mono fun v w2 ⟨h1,h2⟩=>⟨by rw[h1];unfold gb;split<;>rfl,h2⟩
theorem lD (a:Act) {x:An} (hx:x.texts=[]):(gb a x).texts=[]:=by
 unfold gb
 split
 exact hx
 rfl
theorem zz (w:Wa) (n:Nat) (x:cQ):(uA w n x).2.texts=[]:=by
 unfold uA
 split
 rfl
 split<;>rfl
theorem kr (w:Wa) (s:Sn) (n:Nat):(eu w s n).2.texts=[]:=by
 unfold eu
 split
 rfl
 split
 exact zz ..
 rfl
theorem oJ.p {x:An} {v:Value} {w:World} (h:oJ x v w) (hx:x.texts=[]): ∃ A c,v=.agg #[J x.code,J x.n,.slice A 0 c]:=by
 obtain⟨A,c,h1,-,-⟩:=h
 rw[hx]at h1
 exact⟨A,c,h1⟩
theorem zw {b:Bk} {a:Act} {ag:Bool} (hix:fl b.sns a.name=none):mX b.a a ag=(b.a,⟨5,0,[]⟩):=by
 unfold mX
 rw[show b.a.sns=b.sns.map Sn.a from rfl,C3 hix]
 rfl
theorem zx {b:Bk} {a:Act} {i:Nat} {x:Sn} {e:cQ} (hix:fl b.sns a.name=some i) (hx:b.sns[i]? =some x) (he:x.last[a.part.toNat]? =some e) (hk:e.kind=0):mX b.a a true=(b.a,⟨15,0,[]⟩):=by
 unfold mX
 rw[show b.a.sns=b.sns.map Sn.a from rfl,v8 hix hx]
 dsimp only
 rw[if_pos ⟨rfl,by rw[cf,show x.a.last=x.last from rfl,he];exact hk⟩]
 rfl
theorem nX {b:Bk} {a:Act} {i:Nat} {x:Sn} {ag:Bool} (hix:fl b.sns a.name=some i) (hx:b.sns[i]? =some x) (hk:ag=true-> ∃ e,x.last[a.part.toNat]? =some e/\e.kind≠0) (s1:Sn) (hs:(if ag then x else pS x a.part.toNat a.text)=s1):mX b.a a ag=if a.lost=1 then({b.a with sns:=(b.sns.set i s1).map Sn.a},⟨14,0,[]⟩)else((eu {b.a with sns:=(b.sns.set i s1).map Sn.a} s1.a a.part.toNat).1,gb a (eu {b.a with sns:=(b.sns.set i s1).map Sn.a} s1.a a.part.toNat).2):=by
 subst hs
 unfold mX
 rw[show b.a.sns=b.sns.map Sn.a from rfl,v8 hix hx]
 dsimp only
 rw[if_neg (fun h=>by
  obtain⟨e,he,hne⟩:=hk h.1
  have h2:=h.2
  rw[cf,show x.a.last=x.last from rfl,he]at h2
  exact hne h2)]
 have:(if ag=true then x.a else pS x.a a.part.toNat a.text)=(if ag=true then x else pS x a.part.toNat a.text).a:=by split<;>rfl
 rw[this,cD]
 rfl
theorem uj {x:Sn} {n:Nat} {q:Int} (h:x.seqs[n]? =some q) (t:ByteArray):pS x n t={x with last:=x.last.set n ⟨0,x.pid,x.ver,q,1,x.inn,t⟩,seqs:=x.seqs.set n (q+1)}:=by
 unfold pS
 rw[cf,h]
 rfl
theorem dz.same {α:Type} {Y:fo α} {es:List α} {c k:Nat} {cur:Array Value} {e e':α} (h:dz Y es c cur) (hk:es[k]? =some e) (he:Y.f e'=Y.f e):dz Y (es.set k e') c cur:=by
 refine⟨h.size,?_,by rw[aa];exact h.le,h.max⟩
 rw[aa,h.all]
 unfold fo.all
 have:(es.set k e').map Y.f=es.map Y.f:=by rw[cD,he];exact fb (by rw[aL,hk];rfl)
 simp only[List.flatMap_def,this]
theorem In {w0 w:World} {bb:Nat} {b:Bk} {gP:Nat} {uP:Array Value} {Ls Lo K:List (Nat×Obj)} {F:List cz} (a:Act) (B:Bw w0 w bb b gP uP Ls Lo K F) (hsl:b.sns.length<=1000000) (ag:Bool) (hix:fl b.sns a.name=none):dg ab iT [.pointer (Qd bb),a.v,.bool ag] w fun v w2=> ∃ b':Bk,oJ (mX b.a a ag).2 v w2/\b'.a=(mX b.a a ag).1/\xb w0 w2 bb b' K F:=by
 refine aF jS Z Z ?_
 obtain⟨ps,pA,pC,co,clo,chi,gr,glo,ghi,sns,snA,snC⟩:=b
 obtain⟨hpA,row,hsn,hown,hco,hgr,hps,H⟩:=B
 dsimp only at hpA row hsn hown hco hgr hps
 subst hpA
 replace H:Hp w0 w ((bb,.cells #[.slice (Qd gP) ps.length pC,J (co.clock),J (co.next),J (co.wait),.slice co.A co.txs.length co.cap,J (gr.clock),J (gr.wait),J (gr.gen),.slice gr.mA gr.ms.length gr.mC,.slice gr.oA gr.os.length gr.oC,.slice snA sns.length snC] bO (0,0))::(gP,.cells uP bM (0,0))::(Ls++(Lo++K))) F:=H
 dsimp only at hix hsl
 show CW _ _ _ _ (args [.pointer (Qd bb),.agg #[J (a.kind),.string (a.name),J (a.part),J (a.n),J (a.m),.string (a.text),J (a.lost)],.bool ag]) w
 refine W<|Zr<|fW H Z Z fun w1 b4 H=>eI H dp Z fun w2 b6 H=>U<|W<|Zr<|G (Yp Z)<|G (Zf fe Z)<|G (Zd bc H 1 Z Z Z)<|ch dC (jt bb ⟨ps,some ⟨gP,0,none⟩,pC,co,clo,chi,gr,glo,ghi,sns,snA,snC⟩ (a.name) Ls _ (H.ent (i:=2) Z) hsn (fun q hq=>(H.ents q (by simp only[ay,ax];grind)).1) hsl) Z Z ?_
 rintro _ w3 ⟨rfl,hb⟩;replace H:=H.later hb;clear hb
 rw[hix]
 refine G (Wp Z)<|U<|W<|Zb<|W<|Zr<|G (Yp Z)<|G (xn iQ Z)<|G (Yb Z)<|ZN<|ZN<|ZN<|ZN<|ZN<|G (Kt Z Z)<|G (Wb Z)<|U<|ZT Z<|W<|Zr<|ch bR (dU 5 _) Z Z ?_
 rintro _ w4 ⟨rfl,hb⟩;replace H:=H.later hb;clear hb
 refine bg H 0 (#[J (5),J (0),.slice none 0 0]) aP Z Z Z Z Z N N fun w5 H=>U<|Zt ?_
 exact eS (cs0:= #[J (5),J (0),.slice none 0 0]) Z aM Z (H.ent (i:=0) Z) Z ⟨⟨ps,some ⟨gP,0,none⟩,pC,co,clo,chi,gr,glo,ghi,sns,snA,snC⟩,by rw[zw hix];exact oJ.plain _ _ _,by rw[zw hix],Bw.shut (X:=[(b6,_),(b4,_)]) row hsn hown hco hgr hps (fun _ h=>h) H Z⟩
theorem JJ {a:Act} {x:An} {A:Option Addr} {c:Nat} {v:Value} (h:v=if a.lost=0 then .agg #[J x.code,J x.n,.slice A 0 c]else .agg #[J 14,J 0,.slice none 0 0]): ∃ A2 c2,v=.agg #[J (gb a x).code,J (gb a x).n,.slice A2 0 c2]:=by
 unfold gb
 split at h
 rename_i h0;rw[if_pos h0];exact⟨_,_,h⟩
 rename_i h0;rw[if_neg h0];exact⟨_,_,h⟩
theorem oJ.of {x:An} {A:Option Addr} {c:Nat} {w:World} (hx:x.texts=[]):oJ x (.agg #[J x.code,J x.n,.slice A 0 c]) w:=⟨A,c,by rw[hx];rfl,by rw[hx];exact bK _,by rw[hx];exact Rd.nil⟩
theorem F6 {w0 w:World} {bb:Nat} {b:Bk} {gP:Nat} {uP:Array Value} {Ls Lo K:List (Nat×Obj)} {F:List cz} (a:Act) (B:Bw w0 w bb b gP uP Ls Lo K F) (hsl:b.sns.length<=1000000) {k i:Nat} {x:Sn} (hix:fl b.sns a.name=some i) (hx:b.sns[i]? =some x) (hpn:0<=a.part/\a.part<b.ps.length) (hlo:0<=a.lost/\a.lost<=2) (hll:x.last.length=b.ps.length) (hsq:x.seqs.length=b.ps.length) (h4:b.ps.length<=4) (hnm:bQ x.name=true) (hcb:oI k b.co) (hpk: ∀ q∈b.ps,q.p.a.ok/\ ∀ (l:Nat) (y:fg),q.p.leader=l->q.p.reps[l]? =some y->y.es.length<400):dg ab iT [.pointer (Qd bb),a.v,.bool true] w fun v w2=> ∃ b':Bk,oJ (mX b.a a true).2 v w2/\b'.a=(mX b.a a true).1/\xb w0 w2 bb b' K F:=by
 refine aF jS Z Z ?_
 obtain⟨ps,pA,pC,co,clo,chi,gr,glo,ghi,sns,snA,snC⟩:=b
 obtain⟨hpA,row,hsn,hown,hco,hgr,hps,H⟩:=B
 dsimp only at hpA row hsn hown hco hgr hps
 subst hpA
 dsimp only at hix hx
 obtain⟨gS,uS,hgS,hLs,rowS⟩:=hsn.row (by have:=(bT hx).1;omega)
 subst hgS;subst hLs
 obtain⟨gq,uq,gl,ul,La,Lb,hsA,hlA,rowq,rowl,hLo,hset⟩:=hown.at_ hx
 subst hLo
 replace H:Hp w0 w ((bb,.cells #[.slice (Qd gP) ps.length pC,J (co.clock),J (co.next),J (co.wait),.slice co.A co.txs.length co.cap,J (gr.clock),J (gr.wait),J (gr.gen),.slice gr.mA gr.ms.length gr.mC,.slice gr.oA gr.os.length gr.oC,.slice (Qd gS) sns.length snC] bO (0,0))::(gP,.cells uP bM (0,0))::(gS,.cells uS fA (0,0))::(gq,.cells uq db (0,0))::(gl,.cells ul dy (0,0))::(La++(Lb++K))) F:=H.perm (Cs [(bb,_),(gP,_),(gS,_)] _ _ La Lb K)
 dsimp only at hsl hpn hll hsq h4 hcb hpk
 obtain⟨n,hna⟩: ∃ n:Nat,a.part=(n:Int):=⟨a.part.toNat,by omega⟩
 have htn:a.part.toNat=n:=by omega
 have hl5:(zn.f x)[5]? =some (.slice (some ⟨gl,0,none⟩) x.last.length x.lC):=by rw[<-hlA];rfl
 have hl4:(zn.f x)[4]? =some (.slice (some ⟨gq,0,none⟩) x.seqs.length x.sC):=by rw[<-hsA];rfl
 obtain⟨e,he⟩: ∃ e,x.last[n]? =some e:=⟨_,ai I⟩
 have rS2:dz zn (sns.set i x) snC uS:=by rw[fb hx];exact rowS
 show CW _ _ _ _ (args [.pointer (Qd bb),.agg #[J (a.kind),.string (a.name),J (a.part),J (a.n),J (a.m),.string (a.text),J (a.lost)],.bool true]) w
 refine W<|Zr<|fW H Z Z fun w1 b4 H=>eI H dp Z fun w2 b6 H=>U<|W<|Zr<|G (Yp Z)<|G (Zf fe Z)<|G (Zd bc H 1 Z Z Z)<|ch dC (jt bb ⟨ps,some ⟨gP,0,none⟩,pC,co,clo,chi,gr,glo,ghi,sns,some ⟨gS,0,none⟩,snC⟩ (a.name) _ _ (H.ent (i:=2) Z) (dz.own rowS) (fun q hq=>by rw[au.1 hq];exact(H.ent (i:=4) Z)) hsl) Z Z ?_
 rintro _ w3 ⟨rfl,hb⟩;replace H:=H.later hb;clear hb
 rw[hix]
 refine G (Wp Z)<|U<|W<|Zb<|W<|Zr<|G (Yp Z)<|G (vz iQ Z)<|G (Yb Z)<|ZG<|G (Yp Z)<|ZG<|G (Zf dW Z)<|ZG<|G (Zd ak H 1 Z Z Z)<|ZG<|ch d5 (nZ bb ⟨ps,some ⟨gP,0,none⟩,pC,co,clo,chi,gr,glo,ghi,sns,some ⟨gS,0,none⟩,snC⟩ a.part _ (H.ent (i:=2) Z)) Z Z ?_
 rintro _ w4 ⟨rfl,hb⟩;replace H:=H.later hb;clear hb
 rw[decide_eq_true hpn]
 refine ZG<|G (dR Z)<|G (N Z Z)<|G (Wb Z)<|U<|ZF Z<|W<|Zr<|G (Zf jH Z)<|G (Zd ak H 1 Z Z Z)<|G (dd Z Z I)<|G (Yb Z)<|ZG<|G (Zf jH Z)<|ZG<|G (Zd ak H 1 Z Z Z)<|ZG<|G (eA Z Z I)<|G (N Z Z)<|G (Wb Z)<|U<|ZF Z<|W ?_
 refine bD ci [0,1,2,3,4,5,6,7,8,9,10,11,12,13] [] [] [0,1,2,3,4,6,8,9,11,12,13] (sp []) N N N N Nq (cJ _) ?_
 refine aw Z Z Z Z Z (fun w' hw'=>Yb Z)<|aw Z Z Z Z Z (fun w' hw'=>Yb Z)<|aw Z Z Z Z Z (fun w' hw'=>Yp Z)<|aw Z Z Z Z Z (fun w' hw'=>aG Z)<|aw Z Z Z Z Z (fun w' hw'=>Zf lV Z)<|aw Z Z Z Z Z (fun w' hw'=>bf m9 rowS hx 5 Z ((H.later hw').ent (i:=4) Z) hl5)<|aw Z Z Z Z Z (fun w' hw'=>Zf dW Z)<|aw Z Z Z Z Z (fun w' hw'=>aX ak Z (aD ((H.later hw').ent (i:=1) Z) Z))<|aw Z Z Z Z Z (fun w' hw'=>bV (k:=n) dX Z (congrArg (Value.int .i64) hna) (by first|omega|(simp only[aa];omega)))<|aw Z Z Z Z Z (fun w' hw'=>Zf fc Z)<|aw Z Z Z Z Z (fun w' hw'=>bf ak rowl he 4 Z ((H.later hw').ent (i:=6) Z) Z) ?_
 refine AY Z Z Z Z Z (fun w' hw'=>bp Z Z) (fun h45=> ?_) (fun h45=> ?_)
 ·
  refine aw Z Z Z Z Z (fun w' hw'=>Kt Z Z)<|aw Z Z Z Z Z (fun w' hw'=>Wb Z)<|aQ ?_
  intro w5 hw' hF
  replace H:=H.later hw';clear hw' hF
  refine U<|ZT Z<|W<|Zr<|ch bR (dU 15 _) Z Z ?_
  rintro _ w6 ⟨rfl,hb⟩;replace H:=H.later hb;clear hb
  refine bg H 0 (#[J (15),J (0),.slice none 0 0]) aP Z Z Z Z Z N N fun w7 H=>U<|Zt ?_
  rw[<-htn]at he
  exact eS (cs0:= #[J (15),J (0),.slice none 0 0]) Z aM Z (H.ent (i:=0) Z) Z ⟨⟨ps,some ⟨gP,0,none⟩,pC,co,clo,chi,gr,glo,ghi,sns.set i x,some ⟨gS,0,none⟩,snC⟩,by rw[zx hix hx he h45];exact oJ.plain _ _ _,by rw[zx hix hx he h45,fb hx],Bw.close (X:=[(b6,_),(b4,_)]) row (by rw[fb hx];exact rowS) hset hsA hlA rowq rowl hco hgr hps (fun _ h=>h) H (by rw[fb hx];rfl)⟩
 ·
  refine aw Z Z Z Z Z (fun w' hw'=>Kt Z Z)<|aw Z Z Z Z Z (fun w' hw'=>Wb Z)<|aQ ?_
  intro w8 hw' hF
  replace H:=H.later hw';clear hw' hF
  refine U<|ZF Z<|W<|Zr<|G (Yb Z)<|G (dR Z)<|G (Yb Z)<|ZN<|ZN<|ZN<|ZN<|G (N Z Z)<|G (Wb Z)<|U<|ZF Z<|Zk<|W<|W<|Zr<|G (Yb Z)<|G (dR Z)<|U<|ZF Z<|Zk<|W<|W<|Zr<|G (Zf jH Z)<|G (Zd ak H 1 Z Z Z) ?_
  refine cW (bp Z Z) Z Z Z (fun h102=> ?_) (fun h102=> ?_)
  ·
   refine U<|ZT Z<|W<|Zr<|ch bR (dU 14 _) Z Z ?_
   rintro _ w9 ⟨rfl,hb⟩;replace H:=H.later hb;clear hb
   refine bg H 0 (#[J (14),J (0),.slice none 0 0]) aP Z Z Z Z Z N N fun w10 H=>U<|Zt ?_
   exact eS (cs0:= #[J (14),J (0),.slice none 0 0]) Z aM Z (H.ent (i:=0) Z) Z ⟨⟨ps,some ⟨gP,0,none⟩,pC,co,clo,chi,gr,glo,ghi,sns.set i x,some ⟨gS,0,none⟩,snC⟩,by rw[nX hix hx (fun _=>⟨e,by rw[htn];exact he,h45⟩) x Z,if_pos h102];exact oJ.plain _ _ _,by rw[nX hix hx (fun _=>⟨e,by rw[htn];exact he,h45⟩) x Z,if_pos h102];rfl,Bw.close (X:=[(b6,_),(b4,_)]) row rS2 hset hsA hlA rowq rowl hco hgr hps (fun _ h=>h) H (by simp only[Bk.c,aa])⟩
  ·
   refine U<|ZF Z<|Zk<|W ?_
   refine wL ci (fun w'=>w'.heap[b4]? =some (.cells #[J (a.kind),.string (a.name),J (a.part),J (a.n),J (a.m),.string (a.text),J (a.lost)] gd (0,0))) ?_
   intro w11 hw';replace H:=H.later hw';clear hw'
   refine cE 0 N N N Z Z Z Z Nq (H.ent (i:=1) Z) (fun _ hS=>jW dS Z hS Z)<|cE 1 N N N Z Z Z Z Nq (H.ent (i:=1) Z) (fun _ hS=>Yp Z)<|cE 2 N N N Z Z Z Z Nq (H.ent (i:=1) Z) (fun _ hS=>Yp Z)<|cE 3 N N N Z Z Z Z Nq (H.ent (i:=1) Z) (fun _ hS=>Zf dW Z)<|cE 4 N N N Z Z Z Z Nq (H.ent (i:=1) Z) (fun _ hS=>aX ak Z (aD hS Z))<|xf 5 N Z ?_
   refine ch ls ((by have hA:=AC (i:=i) (n:=n) (k:=k) (sns:=sns.set i x) (x:=x) (by simp only[aa];exact H.perm ((aj _ (aj _ (aj _ (aj _ (am _ _ _))))).trans ((aj _ (aj _ (aj _ (am _ _ _)))).trans ((aj _ (aj _ (am _ _ _))).trans ((aj _ (am _ _ _)).trans ((am _ _ _).trans ((aj _ (aj _ (aj _ (aj _ (aj _ (am _ _ _)))))).trans ((aj _ (aj _ (aj _ (aj _ (am _ _ _))))).trans ((aj _ (aj _ (aj _ (am _ _ _)))).trans ((aj _ (aj _ (am _ _ _))).trans (aj _ (am _ _ _)))))))))))) row rS2 rowl (ae (bT hx).1) hlA hco hps I I I hnm hcb hpk;rw[<-hna]at hA;exact hA)) Z Z ?_
   rintro _ w12 ⟨ps',uP',co',clo',chi',F',hAn,hW,row',hlen',hco',hps',hF',H⟩
   replace H:=H.perm ((aj _ (am _ _ _)).trans ((am _ _ _).trans ((aj _ (aj _ (am _ _ _))).trans ((aj _ (am _ _ _)).trans ((aj _ (aj _ (aj _ (am _ _ _)))).trans ((aj _ (aj _ (am _ _ _))).trans ((aj _ (aj _ (aj _ (aj _ (am _ _ _))))).trans ((aj _ (aj _ (aj _ (am _ _ _)))).trans ((aj _ (aj _ (aj _ (aj _ (aj _ (am _ _ _)))))).trans (aj _ (aj _ (aj _ (aj _ (am _ _ _))))))))))))))
   obtain⟨A1,c1,rfl⟩:=hAn.p (kr ..)
   refine U ?_
   refine⟨(H.ent (i:=1) Z),?_⟩
   refine xf 6 N Z<|ch kz (CZ a (eu (Wa.mk (ps.map fun q=>q.p.a) co.a gr.a ((sns.set i x).map Sn.a)) x.a n).2.code (eu (Wa.mk (ps.map fun q=>q.p.a) co.a gr.a ((sns.set i x).map Sn.a)) x.a n).2.n A1 0 c1 _) Z Z ?_
   rintro _ w13 ⟨ht,hb⟩;replace H:=H.later hb;clear hb
   obtain⟨A2,c2,rfl⟩:=JJ ht
   refine U ?_
   refine⟨(H.ent (i:=1) Z),?_⟩
   refine xf 7 N Z<|bg H 0 (#[J ((gb a (eu (Wa.mk (ps.map fun q=>q.p.a) co.a gr.a ((sns.set i x).map Sn.a)) x.a n).2).code),J ((gb a (eu (Wa.mk (ps.map fun q=>q.p.a) co.a gr.a ((sns.set i x).map Sn.a)) x.a n).2).n),.slice A2 0 c2]) aP Z Z Z Z Z N N fun w14 H=>U ?_
   refine⟨(H.ent (i:=1) Z),?_⟩
   refine pL N<|Zt ?_
   exact eS (cs0:= #[J ((gb a (eu (Wa.mk (ps.map fun q=>q.p.a) co.a gr.a ((sns.set i x).map Sn.a)) x.a n).2).code),J ((gb a (eu (Wa.mk (ps.map fun q=>q.p.a) co.a gr.a ((sns.set i x).map Sn.a)) x.a n).2).n),.slice A2 0 c2]) Z aM Z (H.ent (i:=0) Z) Z ⟨⟨ps',some ⟨gP,0,none⟩,pC,co',clo',chi',gr,glo,ghi,sns.set i x,some ⟨gS,0,none⟩,snC⟩,by rw[nX hix hx (fun _=>⟨e,by rw[htn];exact he,h45⟩) x Z,if_neg h102,htn];exact oJ.of (lD _ (kr ..)),by rw[nX hix hx (fun _=>⟨e,by rw[htn];exact he,h45⟩) x Z,if_neg h102,htn];exact hW.symm,Bw.close (X:=[(b6,_),(b4,_)]) row' rS2 hset hsA hlA rowq rowl hco' (hF' _ hgr) hps' hF' H (by simp only[Bk.c,aa])⟩
theorem J1 {w0 w:World} {bb:Nat} {b:Bk} {gP:Nat} {uP:Array Value} {Ls Lo K:List (Nat×Obj)} {F:List cz} (a:Act) (B:Bw w0 w bb b gP uP Ls Lo K F) (hsl:b.sns.length<=1000000) {k i:Nat} {x:Sn} (hix:fl b.sns a.name=some i) (hx:b.sns[i]? =some x) (hpn:0<=a.part/\a.part<b.ps.length) (hlo:0<=a.lost/\a.lost<=2) (hll:x.last.length=b.ps.length) (hsq:x.seqs.length=b.ps.length) (h4:b.ps.length<=4) (hnm:bQ x.name=true) (hcb:oI k b.co) (hpk: ∀ q∈b.ps,q.p.a.ok/\ ∀ (l:Nat) (y:fg),q.p.leader=l->q.p.reps[l]? =some y->y.es.length<400) (htx:a.text.size<=40) (hsb: ∀ q∈x.seqs,0<=q/\q<=400):dg ab iT [.pointer (Qd bb),a.v,.bool false] w fun v w2=> ∃ b':Bk,oJ (mX b.a a false).2 v w2/\b'.a=(mX b.a a false).1/\xb w0 w2 bb b' K F:=by
 refine aF jS Z Z ?_
 obtain⟨ps,pA,pC,co,clo,chi,gr,glo,ghi,sns,snA,snC⟩:=b
 obtain⟨hpA,row,hsn,hown,hco,hgr,hps,H⟩:=B
 dsimp only at hpA row hsn hown hco hgr hps
 subst hpA
 dsimp only at hix hx
 obtain⟨gS,uS,hgS,hLs,rowS⟩:=hsn.row (by have:=(bT hx).1;omega)
 subst hgS;subst hLs
 obtain⟨gq,uq,gl,ul,La,Lb,hsA,hlA,rowq,rowl,hLo,hset⟩:=hown.at_ hx
 subst hLo
 replace H:Hp w0 w ((bb,.cells #[.slice (Qd gP) ps.length pC,J (co.clock),J (co.next),J (co.wait),.slice co.A co.txs.length co.cap,J (gr.clock),J (gr.wait),J (gr.gen),.slice gr.mA gr.ms.length gr.mC,.slice gr.oA gr.os.length gr.oC,.slice (Qd gS) sns.length snC] bO (0,0))::(gP,.cells uP bM (0,0))::(gS,.cells uS fA (0,0))::(gq,.cells uq db (0,0))::(gl,.cells ul dy (0,0))::(La++(Lb++K))) F:=H.perm (Cs [(bb,_),(gP,_),(gS,_)] _ _ La Lb K)
 dsimp only at hsl hpn hll hsq h4 hcb hpk
 obtain⟨n,hna⟩: ∃ n:Nat,a.part=(n:Int):=⟨a.part.toNat,by omega⟩
 have htn:a.part.toNat=n:=by omega
 have hl5:(zn.f x)[5]? =some (.slice (some ⟨gl,0,none⟩) x.last.length x.lC):=by rw[<-hlA];rfl
 have hl4:(zn.f x)[4]? =some (.slice (some ⟨gq,0,none⟩) x.seqs.length x.sC):=by rw[<-hsA];rfl
 obtain⟨e,he⟩: ∃ e,x.last[n]? =some e:=⟨_,ai I⟩
 obtain⟨q,hq0⟩: ∃ q,x.seqs[n]? =some q:=⟨_,ai I⟩
 have hqb:=hsb q (ah hq0)
 show CW _ _ _ _ (args [.pointer (Qd bb),.agg #[J (a.kind),.string (a.name),J (a.part),J (a.n),J (a.m),.string (a.text),J (a.lost)],.bool false]) w
 refine W<|Zr<|fW H Z Z fun w1 b4 H=>eI H dp Z fun w2 b6 H=>U<|W<|Zr<|G (Yp Z)<|G (Zf fe Z)<|G (Zd bc H 1 Z Z Z)<|ch dC (jt bb ⟨ps,some ⟨gP,0,none⟩,pC,co,clo,chi,gr,glo,ghi,sns,some ⟨gS,0,none⟩,snC⟩ (a.name) _ _ (H.ent (i:=2) Z) (dz.own rowS) (fun q hq=>by rw[au.1 hq];exact(H.ent (i:=4) Z)) hsl) Z Z ?_
 rintro _ w3 ⟨rfl,hb⟩;replace H:=H.later hb;clear hb
 rw[hix]
 refine G (Wp Z)<|U<|W<|Zb<|W<|Zr<|G (Yp Z)<|G (vz iQ Z)<|G (Yb Z)<|ZG<|G (Yp Z)<|ZG<|G (Zf dW Z)<|ZG<|G (Zd ak H 1 Z Z Z)<|ZG<|ch d5 (nZ bb ⟨ps,some ⟨gP,0,none⟩,pC,co,clo,chi,gr,glo,ghi,sns,some ⟨gS,0,none⟩,snC⟩ a.part _ (H.ent (i:=2) Z)) Z Z ?_
 rintro _ w4 ⟨rfl,hb⟩;replace H:=H.later hb;clear hb
 rw[decide_eq_true hpn]
 refine ZG<|G (dR Z)<|G (N Z Z)<|G (Wb Z)<|U<|ZF Z<|W<|Zr<|G (Zf jH Z)<|G (Zd ak H 1 Z Z Z)<|G (dd Z Z I)<|G (Yb Z)<|ZG<|G (Zf jH Z)<|ZG<|G (Zd ak H 1 Z Z Z)<|ZG<|G (eA Z Z I)<|G (N Z Z)<|G (Wb Z)<|U<|ZF Z<|W ?_
 refine bD ci [0,1,2,3,4,5,6,7,8,9,10,11,12,13] [] [] [0,1,2,3,4,6,8,9,11,12,13] (sp []) N N N N Nq (cJ _) ?_
 refine aw Z Z Z Z Z (fun w' hw'=>Yb Z)<|aw Z Z Z Z Z (fun w' hw'=>Yb Z)<|eU Z Z Z Z<|eU Z Z Z Z<|eU Z Z Z Z<|eU Z Z Z Z<|eU Z Z Z Z<|eU Z Z Z Z<|eU Z Z Z Z<|eU Z Z Z Z<|eU Z Z Z Z<|eU Z Z Z Z<|aw Z Z Z Z Z (fun w' hw'=>N Z Z)<|aw Z Z Z Z Z (fun w' hw'=>Wb Z)<|aQ ?_
 intro w5 hw' hF
 replace H:=H.later hw';clear hw' hF
 refine U<|ZF Z<|W<|Zr<|G (Yb Z)<|G (dR Z)<|G (Yb Z)<|ZG<|G (Zf Ay Z)<|ZG<|G (Zd bc H 1 Z Z Z)<|ZG<|G (GA jr Z)<|ZG<|G (eA Z Z I)<|G (Kt Z Z)<|G (Wb Z)<|U<|ZF Z<|Zk<|W<|W<|Zr<|G (Yb Z)<|G (dR Z)<|U<|ZT Z<|W ?_
 refine bD ci [0,1,2,3,4,5,6,7,8,9,10,11,12,13,14,15,16,17,18,19,20,21,22,23,24,25,26,27,28,29] [30] [] [0,1,2,4,6,7,8,10,11,12,14,15,16,18,20,22,23,24,26,28,29] (sp []) N N N N Nq (cJ _) ?_
 refine aw Z Z Z Z Z (fun w' hw'=>Yp Z)<|aw Z Z Z Z Z (fun w' hw'=>aG Z)<|aw Z Z Z Z Z (fun w' hw'=>Zf lV Z)<|aw Z Z Z Z Z (fun w' hw'=>bf m9 rowS hx 5 Z ((H.later hw').ent (i:=4) Z) hl5)<|aw Z Z Z Z Z (fun w' hw'=>Zf dW Z)<|aw Z Z Z Z Z (fun w' hw'=>aX ak Z (aD ((H.later hw').ent (i:=1) Z) Z))<|aw Z Z Z Z Z (fun w' hw'=>Yp Z)<|aw Z Z Z Z Z (fun w' hw'=>aG Z)<|aw Z Z Z Z Z (fun w' hw'=>Zf Fs Z)<|aw Z Z Z Z Z (fun w' hw'=>bf ak rowS hx 1 Z ((H.later hw').ent (i:=4) Z) Z)<|aw Z Z Z Z Z (fun w' hw'=>Yp Z)<|aw Z Z Z Z Z (fun w' hw'=>aG Z)<|aw Z Z Z Z Z (fun w' hw'=>Zf tR Z)<|aw Z Z Z Z Z (fun w' hw'=>bf ak rowS hx 2 Z ((H.later hw').ent (i:=4) Z) Z)<|aw Z Z Z Z Z (fun w' hw'=>Yp Z)<|aw Z Z Z Z Z (fun w' hw'=>aG Z)<|aw Z Z Z Z Z (fun w' hw'=>Zf yp Z)<|aw Z Z Z Z Z (fun w' hw'=>bf bL rowS hx 4 Z ((H.later hw').ent (i:=4) Z) hl4)<|aw Z Z Z Z Z (fun w' hw'=>Zf dW Z)<|aw Z Z Z Z Z (fun w' hw'=>aX ak Z (aD ((H.later hw').ent (i:=1) Z) Z))<|aw Z Z Z Z Z (fun w' hw'=>bV (k:=n) aT Z (congrArg (Value.int .i64) hna) (by first|omega|(simp only[aa];omega)))<|aw Z Z Z Z Z (fun w' hw'=>bf ak rowq hq0 0 Z ((H.later hw').ent (i:=5) Z) Z)<|aw Z Z Z Z Z (fun w' hw'=>Yp Z)<|aw Z Z Z Z Z (fun w' hw'=>aG Z)<|aw Z Z Z Z Z (fun w' hw'=>Zf om Z)<|aw Z Z Z Z Z (fun w' hw'=>bf dV rowS hx 3 Z ((H.later hw').ent (i:=4) Z) Z)<|aw Z Z Z Z Z (fun w' hw'=>Zf Ay Z)<|aw Z Z Z Z Z (fun w' hw'=>aX bc Z (aD ((H.later hw').ent (i:=1) Z) Z))<|aw Z Z Z Z Z (fun w' hw'=>bn (cs:= #[J (0),J (x.pid),J (x.ver),J (q),J (1),.bool (x.inn),.string (a.text)]) nV gh N)<|aw Z Z Z Z Z (fun w' hw'=>bV (k:=n) dX Z (congrArg (Value.int .i64) hna) (by first|omega|(simp only[aa];omega)))<|aQ ?_
 intro w6 hw' hF
 replace H:=H.later hw';clear hw' hF
 refine im H 6 (⟨0,x.pid,x.ver,q,1,x.inn,a.text⟩) eV rowl he 0 Z Z Z Z Z Z N fun w8 cur7 row7 H=> ?_
 have hs9:(x.last.set n (⟨0,x.pid,x.ver,q,1,x.inn,a.text⟩))[n]? =some (⟨0,x.pid,x.ver,q,1,x.inn,a.text⟩):=ae (bT he).1
 refine U ?_
 refine bD ci [0,1,2,3,4,5,6,7,8,9] [10] [] [0,1,2,4,6,8,9] (sp []) N N N N Nq (cJ _) ?_
 refine aw Z Z Z Z Z (fun w' hw'=>Yp Z)<|aw Z Z Z Z Z (fun w' hw'=>aG Z)<|aw Z Z Z Z Z (fun w' hw'=>Zf yp Z)<|aw Z Z Z Z Z (fun w' hw'=>bf bL rowS hx 4 Z ((H.later hw').ent (i:=4) Z) hl4)<|aw Z Z Z Z Z (fun w' hw'=>Zf dW Z)<|aw Z Z Z Z Z (fun w' hw'=>aX ak Z (aD ((H.later hw').ent (i:=1) Z) Z))<|aw Z Z Z Z Z (fun w' hw'=>bV (k:=n) aT Z (congrArg (Value.int .i64) hna) (by first|omega|(simp only[aa];omega)))<|aw Z Z Z Z Z (fun w' hw'=>bf ak rowq hq0 0 Z ((H.later hw').ent (i:=5) Z) Z)<|aw Z Z Z Z Z (fun w' hw'=>bz Z Z I I)<|aw Z Z Z Z Z (fun w' hw'=>bV (k:=n) aT Z (congrArg (Value.int .i64) hna) (by first|omega|(simp only[aa];omega)))<|aQ ?_
 intro w10 hw' hF
 replace H:=H.later hw';clear hw' hF
 refine im H 5 ((q+1)) bw rowq hq0 0 Z Z Z Z Z Z N fun w12 cur11 row11 H=> ?_
 have hs13:(x.seqs.set n ((q+1)))[n]? =some ((q+1)):=ae (bT hq0).1
 refine U<|W<|W ?_
 obtain⟨x1,hx1⟩: ∃ x1:Sn,{x with last:=x.last.set n ⟨0,x.pid,x.ver,q,1,x.inn,a.text⟩,seqs:=x.seqs.set n (q+1)}=x1:=⟨_,rfl⟩
 have hsA1:x1.sA=some ⟨gq,0,none⟩:=by rw[<-hx1];exact hsA
 have hlA1:x1.lA=some ⟨gl,0,none⟩:=by rw[<-hx1];exact hlA
 have rowq1:dz bW x1.seqs x1.sC cur11:=by rw[<-hx1];exact row11
 have rowl1:dz gQ x1.last x1.lC cur7:=by rw[<-hx1];exact row7
 have rowS1:dz zn (sns.set i x1) snC uS:=dz.same rowS hx (by rw[<-hx1];simp only[zn,Sn.c,aa])
 have hll1:x1.last.length=ps.length:=by rw[<-hx1];simp only[aa];exact hll
 have hnm1:bQ x1.name=true:=by rw[<-hx1];exact hnm
 refine Zr<|G (Zf jH Z)<|G (Zd ak H 1 Z Z Z) ?_
 refine cW (bp Z Z) Z Z Z (fun h102=> ?_) (fun h102=> ?_)
 ·
  refine U<|ZT Z<|W<|Zr<|ch bR (dU 14 _) Z Z ?_
  rintro _ w14 ⟨rfl,hb⟩;replace H:=H.later hb;clear hb
  refine bg H 0 (#[J (14),J (0),.slice none 0 0]) aP Z Z Z Z Z N N fun w15 H=>U<|Zt ?_
  exact eS (cs0:= #[J (14),J (0),.slice none 0 0]) Z aM Z (H.ent (i:=0) Z) Z ⟨⟨ps,some ⟨gP,0,none⟩,pC,co,clo,chi,gr,glo,ghi,sns.set i x1,some ⟨gS,0,none⟩,snC⟩,by rw[nX hix hx (fun h=>by cases h) x1 (by rw[htn];exact(uj hq0 _).trans hx1),if_pos h102];exact oJ.plain _ _ _,by rw[nX hix hx (fun h=>by cases h) x1 (by rw[htn];exact(uj hq0 _).trans hx1),if_pos h102];rfl,Bw.close (X:=[(b6,_),(b4,_)]) row rowS1 hset hsA1 hlA1 rowq1 rowl1 hco hgr hps (fun _ h=>h) H (by simp only[Bk.c,aa])⟩
 ·
  refine U<|ZF Z<|Zk<|W ?_
  refine wL ci (fun w'=>w'.heap[b4]? =some (.cells #[J (a.kind),.string (a.name),J (a.part),J (a.n),J (a.m),.string (a.text),J (a.lost)] gd (0,0))) ?_
  intro w16 hw';replace H:=H.later hw';clear hw'
  refine cE 0 N N N Z Z Z Z Nq (H.ent (i:=1) Z) (fun _ hS=>jW dS Z hS Z)<|cE 1 N N N Z Z Z Z Nq (H.ent (i:=1) Z) (fun _ hS=>Yp Z)<|cE 2 N N N Z Z Z Z Nq (H.ent (i:=1) Z) (fun _ hS=>Yp Z)<|cE 3 N N N Z Z Z Z Nq (H.ent (i:=1) Z) (fun _ hS=>Zf dW Z)<|cE 4 N N N Z Z Z Z Nq (H.ent (i:=1) Z) (fun _ hS=>aX ak Z (aD hS Z))<|xf 5 N Z ?_
  refine ch ls ((by have hA:=AC (i:=i) (n:=n) (k:=k) (sns:=sns.set i x1) (x:=x1) (by simp only[aa];exact H.perm ((aj _ (aj _ (aj _ (aj _ (am _ _ _))))).trans ((aj _ (aj _ (aj _ (am _ _ _)))).trans ((aj _ (aj _ (am _ _ _))).trans ((aj _ (am _ _ _)).trans ((am _ _ _).trans ((aj _ (aj _ (aj _ (aj _ (aj _ (am _ _ _)))))).trans ((aj _ (aj _ (aj _ (aj _ (am _ _ _))))).trans ((aj _ (aj _ (aj _ (am _ _ _)))).trans ((aj _ (aj _ (am _ _ _))).trans (aj _ (am _ _ _)))))))))))) row rowS1 rowl1 (ae (bT hx).1) hlA1 hco hps I I I hnm1 hcb hpk;rw[<-hna]at hA;exact hA)) Z Z ?_
  rintro _ w17 ⟨ps',uP',co',clo',chi',F',hAn,hW,row',hlen',hco',hps',hF',H⟩
  replace H:=H.perm ((aj _ (am _ _ _)).trans ((am _ _ _).trans ((aj _ (aj _ (am _ _ _))).trans ((aj _ (am _ _ _)).trans ((aj _ (aj _ (aj _ (am _ _ _)))).trans ((aj _ (aj _ (am _ _ _))).trans ((aj _ (aj _ (aj _ (aj _ (am _ _ _))))).trans ((aj _ (aj _ (aj _ (am _ _ _)))).trans ((aj _ (aj _ (aj _ (aj _ (aj _ (am _ _ _)))))).trans (aj _ (aj _ (aj _ (aj _ (am _ _ _))))))))))))))
  obtain⟨A1,c1,rfl⟩:=hAn.p (kr ..)
  refine U ?_
  refine⟨(H.ent (i:=1) Z),?_⟩
  refine xf 6 N Z<|ch kz (CZ a (eu (Wa.mk (ps.map fun q=>q.p.a) co.a gr.a ((sns.set i x1).map Sn.a)) x1.a n).2.code (eu (Wa.mk (ps.map fun q=>q.p.a) co.a gr.a ((sns.set i x1).map Sn.a)) x1.a n).2.n A1 0 c1 _) Z Z ?_
  rintro _ w18 ⟨ht,hb⟩;replace H:=H.later hb;clear hb
  obtain⟨A2,c2,rfl⟩:=JJ ht
  refine U ?_
  refine⟨(H.ent (i:=1) Z),?_⟩
  refine xf 7 N Z<|bg H 0 (#[J ((gb a (eu (Wa.mk (ps.map fun q=>q.p.a) co.a gr.a ((sns.set i x1).map Sn.a)) x1.a n).2).code),J ((gb a (eu (Wa.mk (ps.map fun q=>q.p.a) co.a gr.a ((sns.set i x1).map Sn.a)) x1.a n).2).n),.slice A2 0 c2]) aP Z Z Z Z Z N N fun w19 H=>U ?_
  refine⟨(H.ent (i:=1) Z),?_⟩
  refine pL N<|Zt ?_
  exact eS (cs0:= #[J ((gb a (eu (Wa.mk (ps.map fun q=>q.p.a) co.a gr.a ((sns.set i x1).map Sn.a)) x1.a n).2).code),J ((gb a (eu (Wa.mk (ps.map fun q=>q.p.a) co.a gr.a ((sns.set i x1).map Sn.a)) x1.a n).2).n),.slice A2 0 c2]) Z aM Z (H.ent (i:=0) Z) Z ⟨⟨ps',some ⟨gP,0,none⟩,pC,co',clo',chi',gr,glo,ghi,sns.set i x1,some ⟨gS,0,none⟩,snC⟩,by rw[nX hix hx (fun h=>by cases h) x1 (by rw[htn];exact(uj hq0 _).trans hx1),if_neg h102,htn];exact oJ.of (lD _ (kr ..)),by rw[nX hix hx (fun h=>by cases h) x1 (by rw[htn];exact(uj hq0 _).trans hx1),if_neg h102,htn];exact hW.symm,Bw.close (X:=[(b6,_),(b4,_)]) row' rowS1 hset hsA1 hlA1 rowq1 rowl1 hco' (hF' _ hgr) hps' hF' H (by simp only[Bk.c,aa])⟩
theorem wH {b:Bk} {a:Act} (hix:fl b.sns a.name=none):jX b.a a=(b.a,⟨5,0,[]⟩):=by
 unfold jX
 rw[show b.a.sns=b.sns.map Sn.a from rfl,C3 hix]
 rfl
theorem iZ {b:Bk} {a:Act} {i:Nat} {x:Sn} (hix:fl b.sns a.name=some i) (hx:b.sns[i]? =some x):jX b.a a=if x.inn=false then l5 b.a 12 else if a.lost=1 then l5 b.a 14 else
  if(kW b.co.a x.name x.ver (decide (a.n=1))).2=0 then({b.a with co:=(kW b.co.a x.name x.ver (decide (a.n=1))).1,sns:=if a.lost=0 then(b.sns.set i (vM x)).map Sn.a else b.sns.map Sn.a},gb a ⟨0,0,[]⟩)else(b.a,gb a ⟨(kW b.co.a x.name x.ver (decide (a.n=1))).2,0,[]⟩):=by
 unfold jX
 rw[show b.a.sns=b.sns.map Sn.a from rfl,v8 hix hx,cD]
 rfl
def zT (e:cQ):cQ:=if e.txn then mQ else e
theorem Jb (x:Sn):vM x={x with inn:=false,last:=x.last.map zT}:=rfl
theorem JD {l:List cQ} {i:Nat} {e:cQ} (he:l[i]? =some e):((l.take i).map zT++l.drop i).set i (zT e)=(l.take (i+1)).map zT++l.drop (i+1):=by
 have hi:=(bT he).1
 have h1:((l.take i).map zT).length=i:=by simp;omega
 rw[jc _ _ I,h1,mf,fi he,bo,aE]
 congr 1
 rw[mN hi]
 rfl
theorem CT {l:List cQ} {i:Nat} {e:cQ} (he:l[i]? =some e):((l.take i).map zT++l.drop i)[i]? =some e:=by
 have hi:=(bT he).1
 rw[cC (by simp;omega)]
 simp only[bI,aI,bA (mg hi),mf]
 rw[dO]
 exact he
theorem Fp {w0 w:World} {bb:Nat} {b:Bk} {gP:Nat} {uP:Array Value} {Ls Lo K:List (Nat×Obj)} {F:List cz} (a:Act) (B:Bw w0 w bb b gP uP Ls Lo K F) (hsl:b.sns.length<=1000000) (hix:fl b.sns a.name=none):dg ab jx [.pointer (Qd bb),a.v] w fun v w2=> ∃ b':Bk,oJ (jX b.a a).2 v w2/\b'.a=(jX b.a a).1/\xb w0 w2 bb b' K F:=by
 refine aF lT Z Z ?_
 obtain⟨ps,pA,pC,co,clo,chi,gr,glo,ghi,sns,snA,snC⟩:=b
 obtain⟨hpA,row,hsn,hown,hco,hgr,hps,H⟩:=B
 dsimp only at hpA row hsn hown hco hgr hps
 subst hpA
 replace H:Hp w0 w ((bb,.cells #[.slice (Qd gP) ps.length pC,J (co.clock),J (co.next),J (co.wait),.slice co.A co.txs.length co.cap,J (gr.clock),J (gr.wait),J (gr.gen),.slice gr.mA gr.ms.length gr.mC,.slice gr.oA gr.os.length gr.oC,.slice snA sns.length snC] bO (0,0))::(gP,.cells uP bM (0,0))::(Ls++(Lo++K))) F:=H
 dsimp only at hix hsl
 show CW _ _ _ _ (args [.pointer (Qd bb),.agg #[J (a.kind),.string (a.name),J (a.part),J (a.n),J (a.m),.string (a.text),J (a.lost)]]) w
 refine W<|Zr<|fW H Z Z fun w1 b3 H=>eI H dp Z fun w2 b4 H=>U<|W<|Zr<|G (Yp Z)<|G (Zf fe Z)<|G (Zd bc H 1 Z Z Z)<|ch dC (jt bb ⟨ps,some ⟨gP,0,none⟩,pC,co,clo,chi,gr,glo,ghi,sns,snA,snC⟩ (a.name) Ls _ (H.ent (i:=2) Z) hsn (fun q hq=>(H.ents q (by simp only[ay,ax];grind)).1) hsl) Z Z ?_
 rintro _ w3 ⟨rfl,hb⟩;replace H:=H.later hb;clear hb
 rw[hix]
 refine G (Wp Z)<|U<|W<|Zb<|W<|Zr<|G (Yp Z)<|G (xn iQ Z)<|G (Wb Z)<|U<|ZT Z<|W<|Zr<|ch bR (dU 5 _) Z Z ?_
 rintro _ w4 ⟨rfl,hb⟩;replace H:=H.later hb;clear hb
 refine bg H 0 (#[J (5),J (0),.slice none 0 0]) aP Z Z Z Z Z N N fun w5 H=>U<|Zt ?_
 exact eS (cs0:= #[J (5),J (0),.slice none 0 0]) Z aM Z (H.ent (i:=0) Z) Z ⟨⟨ps,some ⟨gP,0,none⟩,pC,co,clo,chi,gr,glo,ghi,sns,snA,snC⟩,by rw[wH hix];exact oJ.plain _ _ _,by rw[wH hix],Bw.shut (X:=[(b4,_),(b3,_)]) row hsn hown hco hgr hps (fun _ h=>h) H Z⟩
theorem Fo {w0 w:World} {bb:Nat} {b:Bk} {gP:Nat} {uP:Array Value} {Ls Lo K:List (Nat×Obj)} {F:List cz} (a:Act) (B:Bw w0 w bb b gP uP Ls Lo K F) (hsl:b.sns.length<=1000000) {k i:Nat} {x:Sn} (hix:fl b.sns a.name=some i) (hx:b.sns[i]? =some x) (hlo:0<=a.lost/\a.lost<=2) (hn1:0<=a.n/\a.n<=1) (hll:x.last.length<=4) (hnm:bQ x.name=true) (hcb:oI k b.co):dg ab jx [.pointer (Qd bb),a.v] w fun v w2=> ∃ b':Bk,oJ (jX b.a a).2 v w2/\b'.a=(jX b.a a).1/\xb w0 w2 bb b' K F:=by
 refine aF lT Z Z ?_
 obtain⟨ps,pA,pC,co,clo,chi,gr,glo,ghi,sns,snA,snC⟩:=b
 obtain⟨hpA,row,hsn,hown,hco,hgr,hps,H⟩:=B
 dsimp only at hpA row hsn hown hco hgr hps
 subst hpA
 dsimp only at hix hx
 obtain⟨gS,uS,hgS,hLs,rowS⟩:=hsn.row (by have:=(bT hx).1;omega)
 subst hgS;subst hLs
 obtain⟨gq,uq,gl,ul,La,Lb,hsA,hlA,rowq,rowl,hLo,hset⟩:=hown.at_ hx
 subst hLo
 replace H:Hp w0 w ((bb,.cells #[.slice (Qd gP) ps.length pC,J (co.clock),J (co.next),J (co.wait),.slice co.A co.txs.length co.cap,J (gr.clock),J (gr.wait),J (gr.gen),.slice gr.mA gr.ms.length gr.mC,.slice gr.oA gr.os.length gr.oC,.slice (Qd gS) sns.length snC] bO (0,0))::(gP,.cells uP bM (0,0))::(gS,.cells uS fA (0,0))::(gq,.cells uq db (0,0))::(gl,.cells ul dy (0,0))::(La++(Lb++K))) F:=H.perm (Cs [(bb,_),(gP,_),(gS,_)] _ _ La Lb K)
 dsimp only at hsl hcb
 have hl5:(zn.f x)[5]? =some (.slice (some ⟨gl,0,none⟩) x.last.length x.lC):=by rw[<-hlA];rfl
 show CW _ _ _ _ (args [.pointer (Qd bb),.agg #[J (a.kind),.string (a.name),J (a.part),J (a.n),J (a.m),.string (a.text),J (a.lost)]]) w
 refine W<|Zr<|fW H Z Z fun w1 b3 H=>eI H dp Z fun w2 b4 H=>U<|W<|Zr<|G (Yp Z)<|G (Zf fe Z)<|G (Zd bc H 1 Z Z Z)<|ch dC (jt bb ⟨ps,some ⟨gP,0,none⟩,pC,co,clo,chi,gr,glo,ghi,sns,some ⟨gS,0,none⟩,snC⟩ (a.name) _ _ (H.ent (i:=2) Z) (dz.own rowS) (fun q hq=>by rw[au.1 hq];exact(H.ent (i:=4) Z)) hsl) Z Z ?_
 rintro _ w3 ⟨rfl,hb⟩;replace H:=H.later hb;clear hb
 rw[hix]
 refine G (Wp Z)<|U<|W<|Zb<|W<|Zr<|G (Yp Z)<|G (vz iQ Z)<|G (Wb Z)<|U<|ZF Z<|W<|Zr<|G (Zf jH Z)<|G (Zd ak H 1 Z Z Z)<|G (dd Z Z I)<|G (Yb Z)<|ZG<|G (Zf jH Z)<|ZG<|G (Zd ak H 1 Z Z Z)<|ZG<|G (eA Z Z I)<|G (N Z Z)<|G (Yb Z)<|ZG<|G (Zf eT Z)<|ZG<|G (Zd ak H 1 Z Z Z)<|ZG<|G (dd Z Z I)<|G (N Z Z)<|G (Yb Z)<|ZG<|G (Zf eT Z)<|ZG<|G (Zd ak H 1 Z Z Z)<|ZG<|G (eA Z Z I)<|G (N Z Z) ?_
 refine G (Wb Z)<|U<|ZF Z<|W<|Zr<|G (Yp Z)<|G (aG Z)<|G (Zf om Z) ?_
 refine wl (bf dV rowS hx 3 Z (H.ent (i:=4) Z) Z) Z Z Z (fun h41=> ?_) (fun h41=> ?_)
 refine G (dR Z)<|G (Wb Z)<|U<|ZF Z<|W<|Zr<|G (Zf jH Z)<|G (Zd ak H 1 Z Z Z) ?_
 refine cW (bp Z Z) Z Z Z (fun h47=> ?_) (fun h47=> ?_)
 refine G (Wb Z)<|U<|ZT Z<|W<|Zr<|ch bR (dU 14 _) Z Z ?_
 rintro _ w4 ⟨rfl,hb⟩;replace H:=H.later hb;clear hb
 refine bg H 0 (#[J (14),J (0),.slice none 0 0]) aP Z Z Z Z Z N N fun w5 H=>U<|Zt ?_
 exact eS (cs0:= #[J (14),J (0),.slice none 0 0]) Z aM Z (H.ent (i:=0) Z) Z ⟨⟨ps,some ⟨gP,0,none⟩,pC,co,clo,chi,gr,glo,ghi,sns.set i x,some ⟨gS,0,none⟩,snC⟩,by rw[iZ hix hx,if_neg (by rw[h41];decide),if_pos h47];exact oJ.plain _ _ _,by rw[iZ hix hx,if_neg (by rw[h41];decide),if_pos h47,fb hx];rfl,Bw.close (X:=[(b4,_),(b3,_)]) row (by rw[fb hx];exact rowS) hset hsA hlA rowq rowl hco hgr hps (fun _ h=>h) H (by rw[fb hx];rfl)⟩
 refine G (Wb Z)<|U<|ZF Z<|Zk<|W ?_
 refine eG (τ:=Co×Nat×Nat×Nat) [6,7,49,50,51,52,53,54,55,56,57,58,59,60,61,62,63,64,65,66,67,68] (fun(_,b6,_,_)=>[(6,.pointer (Qd b6)),(7,J (kW co.a x.name x.ver (decide (a.n=1))).2)]) (fun(c3,b6,lo,hi) w'=>c3.a=(kW co.a x.name x.ver (decide (a.n=1))).1/\Hp w0 w' ((b6,.cells #[J (c3.clock),J (c3.next),J (c3.wait),.slice c3.A c3.txs.length c3.cap] bk (0,0))::(b4,.cells #[J (0),J (0),.slice none 0 0] eg (0,0))::(b3,.cells #[J (a.kind),.string (a.name),J (a.part),J (a.n),J (a.m),.string (a.text),J (a.lost)] gd (0,0))::(bb,.cells #[.slice (Qd gP) ps.length pC,J (co.clock),J (co.next),J (co.wait),.slice co.A co.txs.length co.cap,J (gr.clock),J (gr.wait),J (gr.gen),.slice gr.mA gr.ms.length gr.mC,.slice gr.oA gr.os.length gr.oC,.slice (Qd gS) sns.length snC] bO (0,0))::(gP,.cells uP bM (0,0))::(gS,.cells uS fA (0,0))::(gq,.cells uq db (0,0))::(gl,.cells ul dy (0,0))::La++(Lb++K)) (xa w0 lo hi c3::F)) ?_ ?_
 refine ou ci 20 16 [16,17,18,19,21,22] [20] [0,1,2,3,5,6,7,9,10,11,13,15] [20,21,22] [16] [0,1,2,3,5,6,7,9,10,11,13,15,17,18,19] (sp [(20,Sp.blk w3.heap.size (.agg #[J 0,J 0,J 0,.slice none 0 0]) bk)]) (sp [(16,Sp.deep w3.heap.size LL (fun c:Co=>c.c.toArray) (fun cs=> .tuple #[.agg cs,J (kW co.a x.name x.ver (decide (a.n=1))).2]) (fun cq:Co=>cq.a=(kW co.a x.name x.ver (decide (a.n=1))).1))]) N N N N (cJ _) (cJ _) ?_ ?_
 refine jz [0,1,2,3,4,5,6,7,8,9,10,11,12,13,14,15,20] [16,17,18,19,21,22] [20] [0,1,2,3,5,6,7,9,10,11,13,15] 5 (sp [(20,Sp.blk w3.heap.size (.agg #[J 0,J 0,J 0,.slice none 0 0]) bk)]) N N N Nq<|aw Z Z Z Z Z (fun w' hw'=>Yp Z)<|aw Z Z Z Z Z (fun w' hw'=>aG Z)<|aw Z Z Z Z Z (fun w' hw'=>Zf aV Z)<|aw Z Z Z Z Z (fun w' hw'=>Zf er Z)<|aw Z Z Z Z Z (fun w' hw'=>jl 1 [J (co.clock),J (co.next),J (co.wait),.slice co.A co.txs.length co.cap] aq Z Z ((H.later hw').ent (i:=2) Z) Z)<|aw Z Z Z Z Z (fun w' hw'=>Yp Z)<|aw Z Z Z Z Z (fun w' hw'=>aG Z)<|aw Z Z Z Z Z (fun w' hw'=>Zf oo Z)<|aw Z Z Z Z Z (fun w' hw'=>bf bc rowS hx 0 Z ((H.later hw').ent (i:=4) Z) Z)<|aw Z Z Z Z Z (fun w' hw'=>Yp Z)<|aw Z Z Z Z Z (fun w' hw'=>aG Z)<|aw Z Z Z Z Z (fun w' hw'=>Zf tR Z)<|aw Z Z Z Z Z (fun w' hw'=>bf ak rowS hx 2 Z ((H.later hw').ent (i:=4) Z) Z)<|aw Z Z Z Z Z (fun w' hw'=>Zf eT Z)<|aw Z Z Z Z Z (fun w' hw'=>aX ak Z (aD ((H.later hw').ent (i:=1) Z) Z))<|aw Z Z Z Z Z (fun w' hw'=>bp Z Z)<|wW cM Z Z Z Z Z (fun w' hw'=>hw'.size) fun b6=>aQ ?_
 intro w6 hw' hF
 obtain⟨hF,bq,eq,hge6,hbl6⟩:=hF;cases eq
 replace H:=H.adoptNew hw' hbl6 hge6
 clear hw' hF
 refine bu 16 N Z<|ch wQ (Fu co x.name x.ver (decide (a.n=1)) k _ (Hp.coM H hco) hcb hnm) Z Z ?_
 rintro _ w7 ⟨c3,rfl,hac3,hnc3⟩;replace H:=H.learn hnc3.2 (xa w0 w6.heap.size w7.heap.size c3) ⟨H.size,hnc3.1⟩ (ao _) (ao _);clear hnc3
 refine U<|bC 17 N N N Z Z Z Z Nq (fun _=>Yu Z)<|bC 18 N N N Z Z Z Z Nq (fun _=>Xa Z Z)<|bC 19 N N N Z Z Z Z Nq (fun _=>Xi Z Z)<|bu 21 N Z<|bg H 0 (#[J (c3.clock),J (c3.next),J (c3.wait),.slice c3.A c3.txs.length c3.cap]) aA Z Z Z Z Z N N fun w8 H=>U<|bC 22 N N N Z Z Z Z Nq (fun _=>Wi Z)<|aZ N ?_
 exact⟨(c3,b6,_,_),⟨hac3,H⟩,la Z Z,Qg⟩
 refine jz [0,1,2,3,4,5,6,7,8,9,10,11,12,13,14,15,16,17,18,19] [20,21,22] [16] [0,1,2,3,5,6,7,9,10,11,13,15,17,18,19] 2 (sp [(16,Sp.deep w3.heap.size LL (fun c:Co=>c.c.toArray) (fun cs=> .tuple #[.agg cs,J (kW co.a x.name x.ver (decide (a.n=1))).2]) (fun cq:Co=>cq.a=(kW co.a x.name x.ver (decide (a.n=1))).1))]) N N N Nq<|aw Z Z Z Z Z (fun w' hw'=>Yp Z)<|aw Z Z Z Z Z (fun w' hw'=>aG Z)<|aw Z Z Z Z Z (fun w' hw'=>Zf aV Z)<|aw Z Z Z Z Z (fun w' hw'=>Zf er Z)<|aw Z Z Z Z Z (fun w' hw'=>jl 1 [J (co.clock),J (co.next),J (co.wait),.slice co.A co.txs.length co.cap] aq Z Z ((H.later hw').ent (i:=2) Z) Z)<|aw Z Z Z Z Z (fun w' hw'=>Yp Z)<|aw Z Z Z Z Z (fun w' hw'=>aG Z)<|aw Z Z Z Z Z (fun w' hw'=>Zf oo Z)<|aw Z Z Z Z Z (fun w' hw'=>bf bc rowS hx 0 Z ((H.later hw').ent (i:=4) Z) Z)<|aw Z Z Z Z Z (fun w' hw'=>Yp Z)<|aw Z Z Z Z Z (fun w' hw'=>aG Z)<|aw Z Z Z Z Z (fun w' hw'=>Zf tR Z)<|aw Z Z Z Z Z (fun w' hw'=>bf ak rowS hx 2 Z ((H.later hw').ent (i:=4) Z) Z)<|aw Z Z Z Z Z (fun w' hw'=>Zf eT Z)<|aw Z Z Z Z Z (fun w' hw'=>aX ak Z (aD ((H.later hw').ent (i:=1) Z) Z))<|aw Z Z Z Z Z (fun w' hw'=>bp Z Z)<|sL (gv:=(fun cs=> .tuple #[.agg cs,J (kW co.a x.name x.ver (decide (a.n=1))).2])) wQ Z Z Z Z Z (fun w' hw'=>hw'.size) (fun w' hw'=>Fu co x.name x.ver (decide (a.n=1)) k w' (Hp.coM (H.later hw') hco) hcb hnm) Z fun cs66=>aw Z Z Z Z Z (fun w' hw'=>Yu Z)<|aw Z Z Z Z Z (fun w' hw'=>Xa Z Z)<|aw Z Z Z Z Z (fun w' hw'=>Xi Z Z)<|aQ ?_
 intro w9 hw' hF
 obtain⟨hF,c3,eq,hac3,hrd66⟩:=hF;cases eq
 replace H:=H.learn hw' (xa w0 w3.heap.size w9.heap.size c3) ⟨H.size,hrd66⟩ (ao _) (ao _)
 clear hw' hF
 refine bu 20 N Z<|eI H cM Z fun w10 b6 H=>U<|bu 21 N Z<|bg H 0 (#[J (c3.clock),J (c3.next),J (c3.wait),.slice c3.A c3.txs.length c3.cap]) aA Z Z Z Z Z N N fun w11 H=>U<|bC 22 N N N Z Z Z Z Nq (fun _=>Wi Z)<|aZ N ?_
 exact⟨(c3,b6,_,_),⟨hac3,H⟩,la Z Z,Qg⟩
 rintro⟨c3,b6,lo,hi⟩ ρ1 w12 ⟨hac3,H⟩
 show CW _ _ _ _ (dH (gJ _ _ ρ1) [(6,.pointer (Qd b6)),(7,J (kW co.a x.name x.ver (decide (a.n=1))).2)]) w12
 refine W<|W<|Zr<|G (Yi Z) ?_
 refine qV (ja Z Z) Z Z Z (fun h70=> ?_) (fun h70=> ?_)
 refine U<|ZT Z<|W ?_
 refine bD ci [0,1,2,3] [4] [2,3] [1] (sp [(2,Sp.one (.agg #[J (kW co.a x.name x.ver (decide (a.n=1))).2,J 0,.slice none 0 0])),(3,Sp.one (.agg #[J (gb a ⟨(kW co.a x.name x.ver (decide (a.n=1))).2,0,[]⟩).code,J (gb a ⟨(kW co.a x.name x.ver (decide (a.n=1))).2,0,[]⟩).n,.slice none 0 0]))]) N N N N Nq (cJ _) ?_
 refine aw Z Z Z Z Z (fun w' hw'=>jW dS Z ((H.later hw').ent (i:=2) Z) Z)<|aw Z Z Z Z Z (fun w' hw'=>Yi Z)<|hJ bR Z Z Z Z Z (fun w' hw'=>dU (kW co.a x.name x.ver (decide (a.n=1))).2 w') Z<|hJ kz Z Z Z Z Z (fun w' hw'=>FS a ⟨(kW co.a x.name x.ver (decide (a.n=1))).2,0,[]⟩ w') Z<|aQ ?_
 intro w13 hw' hF
 replace H:=H.later hw';clear hw' hF
 refine bg H 1 (#[J ((gb a ⟨(kW co.a x.name x.ver (decide (a.n=1))).2,0,[]⟩).code),J ((gb a ⟨(kW co.a x.name x.ver (decide (a.n=1))).2,0,[]⟩).n),.slice none 0 0]) aP Z Z Z Z Z N N fun w14 H=>U<|Zt ?_
 exact eS (cs0:= #[J ((gb a ⟨(kW co.a x.name x.ver (decide (a.n=1))).2,0,[]⟩).code),J ((gb a ⟨(kW co.a x.name x.ver (decide (a.n=1))).2,0,[]⟩).n),.slice none 0 0]) Z aM Z (H.ent (i:=1) Z) Z ⟨⟨ps,some ⟨gP,0,none⟩,pC,co,clo,chi,gr,glo,ghi,sns.set i x,some ⟨gS,0,none⟩,snC⟩,by rw[iZ hix hx,if_neg (by rw[h41];decide),if_neg h47,if_neg h70];exact ON.r ⟨lD _ Z,rfl⟩ _,by rw[iZ hix hx,if_neg (by rw[h41];decide),if_neg h47,if_neg h70,fb hx],Bw.close (X:=[(b6,_),(b4,_),(b3,_)]) row (by rw[fb hx];exact rowS) hset hsA hlA rowq rowl (al _ hco) (al _ hgr) (fun q hq=>al _ (hps q hq)) (fun f hf=>al _ hf) H (by rw[fb hx];rfl)⟩
 refine U<|ZF Z<|Zk<|W ?_
 have hok3:(kW co.a x.name x.ver (decide (a.n=1))).2=0:=by simpa using h70
 refine Zr<|G (Yp Z)<|G (Zw aq H 0 Z Z Z)<|G (aG Z)<|G (Zf aV Z)<|G (Zf er Z)<|bg H 3 (#[.slice (Qd gP) ps.length pC,J (c3.clock),J (c3.next),J (c3.wait),.slice c3.A c3.txs.length c3.cap,J (gr.clock),J (gr.wait),J (gr.gen),.slice gr.mA gr.ms.length gr.mC,.slice gr.oA gr.os.length gr.oC,.slice (Qd gS) sns.length snC]) aA Z Z Z Z Z N N fun w15 H=>U<|W<|W<|Zr<|G (Zf jH Z)<|G (Zd ak H 2 Z Z Z) ?_
 refine cW (bp Z Z) Z Z Z (fun h82=> ?_) (fun h82=> ?_)
 refine U<|ZT Z<|W<|Zr<|G (Yp Z)<|G (aG Z)<|G (Zf om Z)<|im H 5 ({x with inn:=false}) eo rowS hx 3 Z Z Z Z Z Z N fun w17 cur16 row16 H=> ?_
 have hs18:(sns.set i ({x with inn:=false}))[i]? =some ({x with inn:=false}):=ae (bT hx).1
 refine U<|W<|Zr<|G (Yp Z)<|G (aG Z)<|G (Zf lV Z)<|G (bf m9 row16 hs18 5 Z (H.ent (i:=5) Z) hl5)<|G (br eE Z)<|G (Yi Z)<|U<|Zb ?_
 refine cy (τ:=Nat×Array Value) [8,91,92,93,94,95,96,97,98,99,100,101,102,103,104,105,106,107,108,109] (fun(j,_)=>[(91,J (j:Nat))]) (fun(j,u) w'=>j<=x.last.length/\dz gQ ((x.last.take j).map zT++x.last.drop j) x.lC u/\Hp w0 w' ((b6,.cells #[J (c3.clock),J (c3.next),J (c3.wait),.slice c3.A c3.txs.length c3.cap] bk (0,0))::(b4,.cells #[J (0),J (0),.slice none 0 0] eg (0,0))::(b3,.cells #[J (a.kind),.string (a.name),J (a.part),J (a.n),J (a.m),.string (a.text),J (a.lost)] gd (0,0))::(bb,.cells #[.slice (Qd gP) ps.length pC,J (c3.clock),J (c3.next),J (c3.wait),.slice c3.A c3.txs.length c3.cap,J (gr.clock),J (gr.wait),J (gr.gen),.slice gr.mA gr.ms.length gr.mC,.slice gr.oA gr.os.length gr.oC,.slice (Qd gS) sns.length snC] bO (0,0))::(gP,.cells uP bM (0,0))::(gS,.cells cur16 fA (0,0))::(gq,.cells uq db (0,0))::(gl,.cells u dy (0,0))::La++(Lb++K)) (xa w0 lo hi c3::F)) (fun(j,_)=>x.last.length-j) (0,_) ⟨bK _,(by simpa using rowl),H⟩ (dJ Z) ?_
 rintro⟨j,u⟩ ρ1 w19 ⟨hj,rowu,H⟩
 show CW _ _ _ _ (dH (gJ _ _ ρ1) [(91,J (j:Nat))]) w19
 refine W<|Zr ?_
 refine cW (cK Z Z) Z Z Z (fun h92=> ?_) (fun h92=> ?_)
 refine U<|W<|ZT Z<|Zk<|W<|Zb<|W<|Zr<|G (Yi Z)<|G (Wi Z)<|U<|W ?_
 obtain⟨e,he⟩: ∃ e,x.last[j]? =some e:=⟨_,ai I⟩
 refine Zr<|G (Yp Z)<|G (aG Z)<|G (Zf lV Z)<|G (bf m9 row16 hs18 5 Z (H.ent (i:=5) Z) hl5)<|G (Yi Z)<|G (bV dX Z Z (by first|omega|(simp only[aa];omega)))<|G (Zf i6 Z) ?_
 refine wl (bf dV rowu (CT he) 5 Z (H.ent (i:=7) Z) Z) Z Z Z (fun h101=> ?_) (fun h101=> ?_)
 refine U<|ZT Z<|Zr<|G (Yp Z)<|G (aG Z)<|G (Zf lV Z)<|G (bf m9 row16 hs18 5 Z (H.ent (i:=5) Z) hl5)<|G (Yi Z)<|G (bn (cs:= #[J (0),J (0),J (0),J (0),J (0),.bool (false),.string (⟨#[]⟩)]) nV gh N)<|G (bV dX Z Z (by first|omega|(simp only[aa];omega)))<|im H 7 (mQ) eV rowu (CT he) 0 Z Z Z Z Z Z N fun w21 cur20 row20 H=> ?_
 have hs22:((((x.last.take j).map zT++x.last.drop j)).set j (mQ))[j]? =some (mQ):=ae (bT (CT he)).1
 refine U<|Zr<|G (bz Z Z I I)<|G (Yi Z)<|U ?_
 refine⟨(j+1,_),⟨by omega,?_,H⟩,dJ Z,Qg,by show x.last.length- (j+1)<x.last.length-j;omega⟩
 rw[<-JD he]
 have hz:zT e=mQ:=by unfold zT;rw[if_pos h101]
 rw[hz]
 exact row20
 refine U<|ZF Z<|Zk<|Zr<|G (bz Z Z I I)<|G (Yi Z)<|U ?_
 refine⟨(j+1,_),⟨by omega,?_,H⟩,dJ Z,Qg,by show x.last.length- (j+1)<x.last.length-j;omega⟩
 rw[<-JD he]
 have hz:zT e=e:=by unfold zT;rw[if_neg (by rw[h101];decide)]
 rw[hz,fb (CT he)]
 exact rowu
 refine U<|W<|ZF Z<|Zx<|W ?_
 obtain rfl:j=x.last.length:=by omega
 rw[bZ,fv,aY]at rowu
 obtain⟨x1,hx1⟩: ∃ x1:Sn,{x with inn:=false,last:=x.last.map zT}=x1:=⟨_,rfl⟩
 have hsA1:x1.sA=some ⟨gq,0,none⟩:=by rw[<-hx1];exact hsA
 have hlA1:x1.lA=some ⟨gl,0,none⟩:=by rw[<-hx1];exact hlA
 have rowq1:dz bW x1.seqs x1.sC uq:=by rw[<-hx1];exact rowq
 have rowl1:dz gQ x1.last x1.lC u:=by rw[<-hx1];exact rowu
 have rowS1:dz zn (sns.set i x1) snC cur16:=by have:=dz.same (e':=x1) row16 hs18 (by rw[<-hx1];simp only[zn,Sn.c,bI]);rwa[dK]at this
 have hsn1:(if a.lost=0 then(sns.set i (vM x)).map Sn.a else sns.map Sn.a)=(sns.set i x1).map Sn.a:=by rw[if_pos h82,<-hx1,Jb]
 refine Zr<|G (Zw dS H 2 Z Z Z)<|G (bn (cs:= #[J (0),J (0),.slice none 0 0]) iI dp N)<|ch kz (FS a ⟨0,0,[]⟩ _) Z Z ?_
 rintro _ w23 ⟨rfl,hb⟩;replace H:=H.later hb;clear hb
 refine bg H 1 (#[J ((gb a ⟨0,0,[]⟩).code),J ((gb a ⟨0,0,[]⟩).n),.slice none 0 0]) aP Z Z Z Z Z N N fun w24 H=>U<|Zt ?_
 exact eS (cs0:= #[J ((gb a ⟨0,0,[]⟩).code),J ((gb a ⟨0,0,[]⟩).n),.slice none 0 0]) Z aM Z (H.ent (i:=1) Z) Z ⟨⟨ps,some ⟨gP,0,none⟩,pC,c3,lo,hi,gr,glo,ghi,sns.set i x1,some ⟨gS,0,none⟩,snC⟩,by rw[iZ hix hx,if_neg (by rw[h41];decide),if_neg h47,if_pos hok3];exact ON.r ⟨lD _ Z,rfl⟩ _,by rw[iZ hix hx,if_neg (by rw[h41];decide),if_neg h47,if_pos hok3,<-hac3];show _=Wa.mk _ _ _ (if a.lost=0 then _ else _);rw[hsn1];rfl,Bw.close (X:=[(b6,_),(b4,_),(b3,_)]) row rowS1 hset hsA1 hlA1 rowq1 rowl1 (aC ..) (al _ hgr) (fun q hq=>al _ (hps q hq)) (fun f hf=>al _ hf) H (by simp only[Bk.c,aa])⟩
 refine U<|ZF Z<|Zk<|W ?_
 obtain⟨x1,hx1⟩: ∃ x1:Sn,x=x1:=⟨_,rfl⟩
 have hsA1:x1.sA=some ⟨gq,0,none⟩:=by rw[<-hx1];exact hsA
 have hlA1:x1.lA=some ⟨gl,0,none⟩:=by rw[<-hx1];exact hlA
 have rowq1:dz bW x1.seqs x1.sC uq:=by rw[<-hx1];exact rowq
 have rowl1:dz gQ x1.last x1.lC ul:=by rw[<-hx1];exact rowl
 have rowS1:dz zn (sns.set i x1) snC uS:=by rw[<-hx1,fb hx];exact rowS
 have hsn1:(if a.lost=0 then(sns.set i (vM x)).map Sn.a else sns.map Sn.a)=(sns.set i x1).map Sn.a:=by rw[if_neg h82,<-hx1,fb hx]
 refine Zr<|G (Zw dS H 2 Z Z Z)<|G (bn (cs:= #[J (0),J (0),.slice none 0 0]) iI dp N)<|ch kz (FS a ⟨0,0,[]⟩ _) Z Z ?_
 rintro _ w25 ⟨rfl,hb⟩;replace H:=H.later hb;clear hb
 refine bg H 1 (#[J ((gb a ⟨0,0,[]⟩).code),J ((gb a ⟨0,0,[]⟩).n),.slice none 0 0]) aP Z Z Z Z Z N N fun w26 H=>U<|Zt ?_
 exact eS (cs0:= #[J ((gb a ⟨0,0,[]⟩).code),J ((gb a ⟨0,0,[]⟩).n),.slice none 0 0]) Z aM Z (H.ent (i:=1) Z) Z ⟨⟨ps,some ⟨gP,0,none⟩,pC,c3,lo,hi,gr,glo,ghi,sns.set i x1,some ⟨gS,0,none⟩,snC⟩,by rw[iZ hix hx,if_neg (by rw[h41];decide),if_neg h47,if_pos hok3];exact ON.r ⟨lD _ Z,rfl⟩ _,by rw[iZ hix hx,if_neg (by rw[h41];decide),if_neg h47,if_pos hok3,<-hac3];show _=Wa.mk _ _ _ (if a.lost=0 then _ else _);rw[hsn1];rfl,Bw.close (X:=[(b6,_),(b4,_),(b3,_)]) row rowS1 hset hsA1 hlA1 rowq1 rowl1 (aC ..) (al _ hgr) (fun q hq=>al _ (hps q hq)) (fun f hf=>al _ hf) H (by simp only[Bk.c,aa])⟩
 refine G (dR Z)<|G (Wb Z)<|U<|ZT Z<|W<|Zr<|ch bR (dU 12 _) Z Z ?_
 rintro _ w27 ⟨rfl,hb⟩;replace H:=H.later hb;clear hb
 refine bg H 0 (#[J (12),J (0),.slice none 0 0]) aP Z Z Z Z Z N N fun w28 H=>U<|Zt ?_
 exact eS (cs0:= #[J (12),J (0),.slice none 0 0]) Z aM Z (H.ent (i:=0) Z) Z ⟨⟨ps,some ⟨gP,0,none⟩,pC,co,clo,chi,gr,glo,ghi,sns.set i x,some ⟨gS,0,none⟩,snC⟩,by rw[iZ hix hx,if_pos h41];exact oJ.plain _ _ _,by rw[iZ hix hx,if_pos h41,fb hx];rfl,Bw.close (X:=[(b4,_),(b3,_)]) row (by rw[fb hx];exact rowS) hset hsA hlA rowq rowl hco hgr hps (fun _ h=>h) H (by rw[fb hx];rfl)⟩
theorem uo {w:Wa} {a:Act} (h:(bX w.co a.name).2.2.2≠0):oV w a=l5 w (bX w.co a.name).2.2.2:=by
 unfold oV
 rw[if_neg h]
theorem Cq {b:Bk} {a:Act} (hix:fl b.sns a.name=none) (h:(bX b.co.a a.name).2.2.2=0):oV b.a a=({b.a with co:=(bX b.co.a a.name).1,sns:=b.sns.map Sn.a++[uW a.name (bX b.co.a a.name).2.1 (bX b.co.a a.name).2.2.1 b.ps.length]},⟨0,(bX b.co.a a.name).2.2.1,[]⟩):=by
 unfold oV EB
 rw[if_pos (show(bX b.a.co a.name).2.2.2=0 from h),show b.a.sns=b.sns.map Sn.a from rfl]
 dsimp only[uW]
 rw[yV,hix,show b.a.ps.length=b.ps.length by show(b.ps.map _).length=_;rw[bI]]
 rfl
theorem Cp {b:Bk} {a:Act} {i:Nat} (hix:fl b.sns a.name=some i) (h:(bX b.co.a a.name).2.2.2=0):oV b.a a=({b.a with co:=(bX b.co.a a.name).1,sns:=(b.sns.map Sn.a).set i (uW a.name (bX b.co.a a.name).2.1 (bX b.co.a a.name).2.2.1 b.ps.length)},⟨0,(bX b.co.a a.name).2.2.1,[]⟩):=by
 unfold oV EB
 rw[if_pos (show(bX b.a.co a.name).2.2.2=0 from h),show b.a.sns=b.sns.map Sn.a from rfl]
 dsimp only[uW]
 rw[yV,hix,show b.a.ps.length=b.ps.length by show(b.ps.map _).length=_;rw[bI]]
 rfl
theorem MM (A Q Lo K:List (Nat×Obj)):(A++((Lo++Q)++K)).Perm (Q++(A++(Lo++K))):=by
 rw[show A++((Lo++Q)++K)=(A++Lo)++(Q++K) by simp,show A++(Lo++K)=(A++Lo)++K by simp]
 exact fX (A++Lo) Q K
def OX:Sn:=⟨⟨#[]⟩,0,0,false,[],none,0,[],none,0⟩
theorem Hv:(ab.info? 3).map (fun i=>(i.zero,i.size,i.bytes))=some (some (J 0),bW.sz,8):=by kernel_rfl
theorem Cj:(ab.info? 59).map (fun i=>(i.zero,i.size,i.bytes))=some (some (.agg #[J 0,J 0,J 0,J 0,J 0,.bool false,.string ⟨#[]⟩]),gQ.sz,64):=by kernel_rfl
theorem IU {w0 w:World} {bb:Nat} {b:Bk} {gP:Nat} {uP:Array Value} {Ls Lo K:List (Nat×Obj)} {F:List cz} (a:Act) (B:Bw w0 w bb b gP uP Ls Lo K F) (hsl:b.sns.length<=1000000) {k:Nat} (hnm:bQ a.name=true) (hcb:oI k b.co) (hk:k<=1000) (hnp:0<b.ps.length) (hp4:b.ps.length<=4) (hix:fl b.sns a.name=none):dg ab kc [.pointer (Qd bb),a.v] w fun v w2=> ∃ b':Bk,oJ (oV b.a a).2 v w2/\b'.a=(oV b.a a).1/\xb w0 w2 bb b' K F:=by
 refine aF m0 Z Z ?_
 obtain⟨ps,pA,pC,co,clo,chi,gr,glo,ghi,sns,snA,snC⟩:=b
 obtain⟨hpA,row,hsn,hown,hco,hgr,hps,H⟩:=B
 dsimp only at hpA row hsn hown hco hgr hps
 subst hpA
 replace H:Hp w0 w ((bb,.cells #[.slice (Qd gP) ps.length pC,J (co.clock),J (co.next),J (co.wait),.slice co.A co.txs.length co.cap,J (gr.clock),J (gr.wait),J (gr.gen),.slice gr.mA gr.ms.length gr.mC,.slice gr.oA gr.os.length gr.oC,.slice snA sns.length snC] bO (0,0))::(gP,.cells uP bM (0,0))::(Ls++(Lo++K))) F:=H
 dsimp only at hix hsl hcb hnp hp4
 show CW _ _ _ _ (args [.pointer (Qd bb),.agg #[J (a.kind),.string (a.name),J (a.part),J (a.n),J (a.m),.string (a.text),J (a.lost)]]) w
 refine W<|Zr<|fW H Z Z fun w1 b3 H=>eI H dp Z fun w2 b4 H=>U<|W ?_
 refine eG (τ:=Co×Nat×Nat×Nat) [5,6,7,8,10,11,12,13,14,15,16,17,18,19,20,21,22] (fun(_,b5,_,_)=>[(5,.pointer (Qd b5)),(6,J (bX co.a a.name).2.1),(7,J (bX co.a a.name).2.2.1),(8,J (bX co.a a.name).2.2.2)]) (fun(c3,b5,lo,hi) w'=>c3.a=(bX co.a a.name).1/\Hp w0 w' ((b5,.cells #[J (c3.clock),J (c3.next),J (c3.wait),.slice c3.A c3.txs.length c3.cap] bk (0,0))::(b4,.cells #[J (0),J (0),.slice none 0 0] eg (0,0))::(b3,.cells #[J (a.kind),.string (a.name),J (a.part),J (a.n),J (a.m),.string (a.text),J (a.lost)] gd (0,0))::(bb,.cells #[.slice (Qd gP) ps.length pC,J (co.clock),J (co.next),J (co.wait),.slice co.A co.txs.length co.cap,J (gr.clock),J (gr.wait),J (gr.gen),.slice gr.mA gr.ms.length gr.mC,.slice gr.oA gr.os.length gr.oC,.slice snA sns.length snC] bO (0,0))::(gP,.cells uP bM (0,0))::(Ls++(Lo++K))) (xa w0 lo hi c3::F)) ?_ ?_
 refine ou ci 13 7 [7,8,9,10,11,12,14,15,16,17] [13] [0,1,2,3,5] [13,14,15,16,17] [7] [0,1,2,3,5,8,9,10,11,12] (sp [(13,Sp.blk w2.heap.size (.agg #[J 0,J 0,J 0,.slice none 0 0]) bk)]) (sp [(7,Sp.deep w2.heap.size LL (fun c:Co=>c.c.toArray) (fun cs=> .tuple #[.agg cs,J (bX co.a a.name).2.1,J (bX co.a a.name).2.2.1,J (bX co.a a.name).2.2.2]) (fun cq:Co=>cq.a=(bX co.a a.name).1))]) N N N N (cJ _) (cJ _) ?_ ?_
 refine jz [0,1,2,3,4,5,6,13] [7,8,9,10,11,12,14,15,16,17] [13] [0,1,2,3,5] 9 (sp [(13,Sp.blk w2.heap.size (.agg #[J 0,J 0,J 0,.slice none 0 0]) bk)]) N N N Nq<|aw Z Z Z Z Z (fun w' hw'=>Yp Z)<|aw Z Z Z Z Z (fun w' hw'=>aG Z)<|aw Z Z Z Z Z (fun w' hw'=>Zf aV Z)<|aw Z Z Z Z Z (fun w' hw'=>Zf er Z)<|aw Z Z Z Z Z (fun w' hw'=>jl 1 [J (co.clock),J (co.next),J (co.wait),.slice co.A co.txs.length co.cap] aq Z Z ((H.later hw').ent (i:=2) Z) Z)<|aw Z Z Z Z Z (fun w' hw'=>Zf fe Z)<|aw Z Z Z Z Z (fun w' hw'=>aX bc Z (aD ((H.later hw').ent (i:=1) Z) Z))<|wW cM Z Z Z Z Z (fun w' hw'=>hw'.size) fun b5=>aQ ?_
 intro w3 hw' hF
 obtain⟨hF,bq,eq,hge5,hbl5⟩:=hF;cases eq
 replace H:=H.adoptNew hw' hbl5 hge5
 clear hw' hF
 refine bu 7 N Z<|ch nR (wq co a.name k _ (Hp.coM H hco) hcb hk hnm) Z Z ?_
 rintro _ w4 ⟨c3,rfl,hac3,hnc3⟩;replace H:=H.learn hnc3.2 (xa w0 w3.heap.size w4.heap.size c3) ⟨H.size,hnc3.1⟩ (ao _) (ao _);clear hnc3
 refine U<|bC 8 N N N Z Z Z Z Nq (fun _=>Yu Z)<|bC 9 N N N Z Z Z Z Nq (fun _=>Xa Z Z)<|bC 10 N N N Z Z Z Z Nq (fun _=>Xi Z Z)<|bC 11 N N N Z Z Z Z Nq (fun _=>Xi Z Z)<|bC 12 N N N Z Z Z Z Nq (fun _=>Xi Z Z)<|bu 14 N Z<|bg H 0 (#[J (c3.clock),J (c3.next),J (c3.wait),.slice c3.A c3.txs.length c3.cap]) aA Z Z Z Z Z N N fun w5 H=>U<|bC 15 N N N Z Z Z Z Nq (fun _=>Wi Z)<|bC 16 N N N Z Z Z Z Nq (fun _=>Wi Z)<|bC 17 N N N Z Z Z Z Nq (fun _=>Wi Z)<|aZ N ?_
 exact⟨(c3,b5,_,_),⟨hac3,H⟩,OS Z Z Z Z,Qg⟩
 refine jz [0,1,2,3,4,5,6,7,8,9,10,11,12] [13,14,15,16,17] [7] [0,1,2,3,5,8,9,10,11,12] 4 (sp [(7,Sp.deep w2.heap.size LL (fun c:Co=>c.c.toArray) (fun cs=> .tuple #[.agg cs,J (bX co.a a.name).2.1,J (bX co.a a.name).2.2.1,J (bX co.a a.name).2.2.2]) (fun cq:Co=>cq.a=(bX co.a a.name).1))]) N N N Nq<|aw Z Z Z Z Z (fun w' hw'=>Yp Z)<|aw Z Z Z Z Z (fun w' hw'=>aG Z)<|aw Z Z Z Z Z (fun w' hw'=>Zf aV Z)<|aw Z Z Z Z Z (fun w' hw'=>Zf er Z)<|aw Z Z Z Z Z (fun w' hw'=>jl 1 [J (co.clock),J (co.next),J (co.wait),.slice co.A co.txs.length co.cap] aq Z Z ((H.later hw').ent (i:=2) Z) Z)<|aw Z Z Z Z Z (fun w' hw'=>Zf fe Z)<|aw Z Z Z Z Z (fun w' hw'=>aX bc Z (aD ((H.later hw').ent (i:=1) Z) Z))<|sL (gv:=(fun cs=> .tuple #[.agg cs,J (bX co.a a.name).2.1,J (bX co.a a.name).2.2.1,J (bX co.a a.name).2.2.2])) nR Z Z Z Z Z (fun w' hw'=>hw'.size) (fun w' hw'=>wq co a.name k w' (Hp.coM (H.later hw') hco) hcb hk hnm) Z fun cs18=>aw Z Z Z Z Z (fun w' hw'=>Yu Z)<|aw Z Z Z Z Z (fun w' hw'=>Xa Z Z)<|aw Z Z Z Z Z (fun w' hw'=>Xi Z Z)<|aw Z Z Z Z Z (fun w' hw'=>Xi Z Z)<|aw Z Z Z Z Z (fun w' hw'=>Xi Z Z)<|aQ ?_
 intro w6 hw' hF
 obtain⟨hF,c3,eq,hac3,hrd18⟩:=hF;cases eq
 replace H:=H.learn hw' (xa w0 w2.heap.size w6.heap.size c3) ⟨H.size,hrd18⟩ (ao _) (ao _)
 clear hw' hF
 refine bu 13 N Z<|eI H cM Z fun w7 b5 H=>U<|bu 14 N Z<|bg H 0 (#[J (c3.clock),J (c3.next),J (c3.wait),.slice c3.A c3.txs.length c3.cap]) aA Z Z Z Z Z N N fun w8 H=>U<|bC 15 N N N Z Z Z Z Nq (fun _=>Wi Z)<|bC 16 N N N Z Z Z Z Nq (fun _=>Wi Z)<|bC 17 N N N Z Z Z Z Nq (fun _=>Wi Z)<|aZ N ?_
 exact⟨(c3,b5,_,_),⟨hac3,H⟩,OS Z Z Z Z,Qg⟩
 rintro⟨c3,b5,lo,hi⟩ ρ1 w9 ⟨hac3,H⟩
 show CW _ _ _ _ (dH (gJ _ _ ρ1) [(5,.pointer (Qd b5)),(6,J (bX co.a a.name).2.1),(7,J (bX co.a a.name).2.2.1),(8,J (bX co.a a.name).2.2.2)]) w9
 refine W<|W<|Zr<|G (Yi Z) ?_
 refine qV (ja Z Z) Z Z Z (fun h24=> ?_) (fun h24=> ?_)
 refine U<|ZT Z<|W<|Zr<|G (Yi Z)<|ch bR (dU (bX co.a a.name).2.2.2 _) Z Z ?_
 rintro _ w10 ⟨rfl,hb⟩;replace H:=H.later hb;clear hb
 refine bg H 1 (#[J ((bX co.a a.name).2.2.2),J (0),.slice none 0 0]) aP Z Z Z Z Z N N fun w11 H=>U<|Zt ?_
 exact eS (cs0:= #[J ((bX co.a a.name).2.2.2),J (0),.slice none 0 0]) Z aM Z (H.ent (i:=1) Z) Z ⟨⟨ps,some ⟨gP,0,none⟩,pC,co,clo,chi,gr,glo,ghi,sns,snA,snC⟩,by rw[uo h24];exact oJ.plain _ _ _,by rw[uo h24];rfl,Bw.shut (X:=[(b5,_),(b4,_),(b3,_)]) row hsn hown (al _ hco) (al _ hgr) (fun q hq=>al _ (hps q hq)) (fun f hf=>al _ hf) H Z⟩
 refine U<|ZF Z<|Zk<|W ?_
 have hok3:(bX co.a a.name).2.2.2=0:=by simpa using h24
 refine Zr<|G (Yp Z)<|G (Zw aq H 0 Z Z Z)<|G (aG Z)<|G (Zf aV Z)<|G (Zf er Z)<|bg H 3 (#[.slice (Qd gP) ps.length pC,J (c3.clock),J (c3.next),J (c3.wait),.slice c3.A c3.txs.length c3.cap,J (gr.clock),J (gr.wait),J (gr.gen),.slice gr.mA gr.ms.length gr.mC,.slice gr.oA gr.os.length gr.oC,.slice snA sns.length snC]) aA Z Z Z Z Z N N fun w12 H=>U<|W<|Zr<|G (Yp Z)<|G (Zf fe Z)<|G (Zd bc H 2 Z Z Z)<|ch dC (jt bb ⟨ps,some ⟨gP,0,none⟩,pC,c3,lo,hi,gr,glo,ghi,sns,snA,snC⟩ a.name Ls _ (H.ent (i:=3) Z) hsn (fun q hq=>(H.ents q (by simp only[List.set_cons_succ,AZ,ay,ax];grind)).1) hsl) Z Z ?_
 rintro _ w13 ⟨rfl,hb⟩;replace H:=H.later hb;clear hb
 rw[hix]
 refine G (Wp Z)<|U<|W<|W<|Zr<|G (Yp Z)<|G (xn iQ Z)<|U<|ZT Z<|W<|Zr<|G (Yp Z)<|G (Yp Z)<|G (aG Z)<|G (Zf aV Z)<|G (Zf kj Z)<|G (Zd j8 H 3 Z Z Z)<|G (bn (cs:= #[.string (⟨#[]⟩),J (0),J (0),.bool (false),.slice none 0 0,.slice none 0 0]) xm vY N)<|sW (vs:=[.agg #[.string (⟨#[]⟩),J (0),J (0),.bool (false),.slice none 0 0,.slice none 0 0]]) H se vY Z Z Z Z Z Z fun w14 b45 H=>vQ (Y:=zn) G8 (K:=[(b45,_),(b5,_),(b4,_),(b3,_),(bb,_),(gP,_)]) (L:=Ls) (M:=Lo++K) H hsn (es:=sns) (news:=[OX]) Z Z Z (vT.row (m:=1) (sz:=zn.sz) (H.ent (i:=0) Z) Z) (by simp only[bU];omega) Z ?_
 intro A46 c46 w15 L46 h46 _ ho46 H
 obtain⟨sn2,hsn2⟩: ∃ l,sns++[OX]=l:=⟨_,rfl⟩
 rw[hsn2]at ho46 h46⊢
 have hl2:sn2.length=sns.length+1:=by rw[<-hsn2];simp
 have hx2:sn2[sns.length]? =some OX:=by rw[<-hsn2];simp
 have hlen2:((sn2.length:Nat):Int)-1=((sns.length:Nat):Int):=by omega
 obtain⟨gS,uS,rfl,rfl,rowS⟩:=ho46.row I
 replace H:Hp w0 w15 ((b45,.cells #[.string (⟨#[]⟩),J (0),J (0),.bool (false),.slice none 0 0,.slice none 0 0] fA (0,0))::(b5,.cells #[J (c3.clock),J (c3.next),J (c3.wait),.slice c3.A c3.txs.length c3.cap] bk (0,0))::(b4,.cells #[J (0),J (0),.slice none 0 0] eg (0,0))::(b3,.cells #[J (a.kind),.string (a.name),J (a.part),J (a.n),J (a.m),.string (a.text),J (a.lost)] gd (0,0))::(bb,.cells #[.slice (Qd gP) ps.length pC,J (c3.clock),J (c3.next),J (c3.wait),.slice c3.A c3.txs.length c3.cap,J (gr.clock),J (gr.wait),J (gr.gen),.slice gr.mA gr.ms.length gr.mC,.slice gr.oA gr.os.length gr.oC,.slice snA sns.length snC] bO (0,0))::(gP,.cells uP bM (0,0))::(gS,.cells uS fA (0,0))::(Lo++K)) (xa w0 lo hi c3::F):=H
 refine G (aG Z)<|G (Zf aV Z)<|G (Zf kj Z)<|bg H 4 (#[.slice (Qd gP) ps.length pC,J (c3.clock),J (c3.next),J (c3.wait),.slice c3.A c3.txs.length c3.cap,J (gr.clock),J (gr.wait),J (gr.gen),.slice gr.mA gr.ms.length gr.mC,.slice gr.oA gr.os.length gr.oC,.slice (Qd gS) sn2.length c46]) Et Z Z Z Z Z N N fun w16 H=>U ?_
 refine bD ci [0,1,2,3,4,5,6,7,8,9,10,11,12,13] [] [] [0,1,2,3,5,6,7,8,10,11,12,13] (sp []) N N N N Nq (cJ _) ?_
 refine aw Z Z Z Z Z (fun w' hw'=>Yp Z)<|aw Z Z Z Z Z (fun w' hw'=>aG Z)<|aw Z Z Z Z Z (fun w' hw'=>Zf aV Z)<|aw Z Z Z Z Z (fun w' hw'=>Zf kj Z)<|aw Z Z Z Z Z (fun w' hw'=>aX j8 Z (aD ((H.later hw').ent (i:=4) Z) Z))<|aw Z Z Z Z Z (fun w' hw'=>Yp Z)<|aw Z Z Z Z Z (fun w' hw'=>aG Z)<|aw Z Z Z Z Z (fun w' hw'=>Zf aV Z)<|aw Z Z Z Z Z (fun w' hw'=>Zf kj Z)<|aw Z Z Z Z Z (fun w' hw'=>aX j8 Z (aD ((H.later hw').ent (i:=4) Z) Z))<|aw Z Z Z Z Z (fun w' hw'=>br tA Z)<|aw Z Z Z Z Z (fun w' hw'=>mW Z Z I I)<|aw Z Z Z Z Z (fun w' hw'=>bV (k:=sns.length) se Z (congrArg (Value.int .i64) hlen2) (by first|omega|(simp only[aa];omega)))<|aw Z Z Z Z Z (fun w' hw'=>Wp Z)<|aQ ?_
 intro w17 hw' hF
 replace H:=H.later hw';clear hw' hF
 refine U<|W ?_
 refine bD ci [0,1,2,3,4,5,6,7,8,9,10,12,13,14,15,16,17,11,18,19,20] [21] [11,18] [0,1,3,4,5,6,7,8,10,12,13,14,15,17,19,20] (sp [(11,Sp.orow w17.heap.size bW db (av ps.length (0:Int))),(18,Sp.orow w17.heap.size gQ dy (av ps.length mQ))]) N N N N Nq (cJ _) ?_
 refine aw Z Z Z Z Z (fun w' hw'=>Yp Z)<|aw Z Z Z Z Z (fun w' hw'=>Zf fe Z)<|aw Z Z Z Z Z (fun w' hw'=>aX bc Z (aD ((H.later hw').ent (i:=3) Z) Z))<|aw Z Z Z Z Z (fun w' hw'=>Yi Z)<|aw Z Z Z Z Z (fun w' hw'=>Yi Z)<|aw Z Z Z Z Z (fun w' hw'=>Yp Z)<|aw Z Z Z Z Z (fun w' hw'=>aG Z)<|aw Z Z Z Z Z (fun w' hw'=>Zf aV Z)<|aw Z Z Z Z Z (fun w' hw'=>Zf dx Z)<|aw Z Z Z Z Z (fun w' hw'=>aX d3 Z (aD ((H.later hw').ent (i:=4) Z) Z))<|aw Z Z Z Z Z (fun w' hw'=>br jK Z)<|aw Z Z Z Z Z (fun w' hw'=>Yp Z)<|aw Z Z Z Z Z (fun w' hw'=>aG Z)<|aw Z Z Z Z Z (fun w' hw'=>Zf aV Z)<|aw Z Z Z Z Z (fun w' hw'=>Zf dx Z)<|aw Z Z Z Z Z (fun w' hw'=>aX d3 Z (aD ((H.later hw').ent (i:=4) Z) Z))<|aw Z Z Z Z Z (fun w' hw'=>br jK Z)<|HH (Y:=bW) ((0:Int)) ps.length aT Hv Z Z Z Z Z Z (fun w' hw'=>hw'.size) Z Z I I fun A74 c74 hc74=>HH (Y:=gQ) (mQ) ps.length dX Cj Z Z Z Z Z Z (fun w' hw'=>hw'.size) Z Z I I fun A81 c81 hc81=>aw Z Z Z Z Z (fun w' hw'=>bn (cs:= #[.string (a.name),J ((bX co.a a.name).2.1),J ((bX co.a a.name).2.2.1),.bool (false),.slice A74 (((av ps.length (0:Int))).length) c74,.slice A81 ((av ps.length mQ).length) c81]) xm vY N)<|aw Z Z Z Z Z (fun w' hw'=>aG Z)<|aQ ?_
 intro w18 hw' hF
 obtain⟨hF,Aq,cq,L81,eq,hcq,hm81,ho81,he81,hn81⟩:=hF;cases eq;clear hcq
 obtain⟨hF,Aq,cq,L74,eq,hcq,hm74,ho74,he74,hn74⟩:=hF;cases eq;clear hcq
 obtain⟨nq,curq,rfl,rfl,rowq9⟩:=ho74.row (by simp only[cn];exact hnp)
 obtain⟨nl,curl,rfl,rfl,rowl9⟩:=ho81.row (by simp only[cn];exact hnp)
 have e74:=he74 _ (d6 _)
 have e81:=he81 _ (d6 _)
 replace H:=H.adopt2 hw' e74 e81 (rQ e74.1 e81.1 Z)
 clear hw' hF
 refine im H 8 (⟨a.name,(bX co.a a.name).2.1,(bX co.a a.name).2.2.1,false,av ps.length 0,some ⟨nq,0,none⟩,c74,av ps.length mQ,some ⟨nl,0,none⟩,c81⟩) zq rowS hx2 0 Z Z Z Z Z Z N fun w20 cur19 row19 H=> ?_
 have hs21:(sn2.set sns.length (⟨a.name,(bX co.a a.name).2.1,(bX co.a a.name).2.2.1,false,av ps.length 0,some ⟨nq,0,none⟩,c74,av ps.length mQ,some ⟨nl,0,none⟩,c81⟩))[sns.length]? =some (⟨a.name,(bX co.a a.name).2.1,(bX co.a a.name).2.2.1,false,av ps.length 0,some ⟨nq,0,none⟩,c74,av ps.length mQ,some ⟨nl,0,none⟩,c81⟩):=ae (bT hx2).1
 refine U<|W<|Zr<|G (Yi Z)<|G (bn (cs:= #[J (0),J ((bX co.a a.name).2.2.1),.slice none 0 0]) iI dp N)<|bg H 4 (#[J (0),J ((bX co.a a.name).2.2.1),.slice none 0 0]) aP Z Z Z Z Z N N fun w22 H=>U<|Zt ?_
 have hn7:=hown.snoc (s:=(⟨a.name,(bX co.a a.name).2.1,(bX co.a a.name).2.2.1,false,av ps.length 0,some ⟨nq,0,none⟩,c74,av ps.length mQ,some ⟨nl,0,none⟩,c81⟩:Sn)) Z Z rowq9 rowl9
 have hs7:sn2.set sns.length (⟨a.name,(bX co.a a.name).2.1,(bX co.a a.name).2.2.1,false,av ps.length 0,some ⟨nq,0,none⟩,c74,av ps.length mQ,some ⟨nl,0,none⟩,c81⟩:Sn)=sns++[⟨a.name,(bX co.a a.name).2.1,(bX co.a a.name).2.2.1,false,av ps.length 0,some ⟨nq,0,none⟩,c74,av ps.length mQ,some ⟨nl,0,none⟩,c81⟩]:=by rw[<-hsn2,jc _ _ (ao _),mf];rfl
 have row7:=row19
 rw[hs7]at row7
 refine eS (cs0:= #[J (0),J ((bX co.a a.name).2.2.1),.slice none 0 0]) Z aM Z (H.ent (i:=4) Z) Z ⟨⟨ps,some ⟨gP,0,none⟩,pC,c3,lo,hi,gr,glo,ghi,sns++[⟨a.name,(bX co.a a.name).2.1,(bX co.a a.name).2.2.1,false,av ps.length 0,some ⟨nq,0,none⟩,c74,av ps.length mQ,some ⟨nl,0,none⟩,c81⟩],some ⟨gS,0,none⟩,c46⟩,by rw[Cq hix hok3];exact oJ.plain _ _ _,by rw[Cq hix hok3,<-hac3];unfold Bk.a;rw[bo];rfl,⟨gP,uP,_,_,_,⟨rfl,row,dz.own row7,hn7,(aC ..),(al _ hgr),(fun q hq=>al _ (hps q hq)),?_⟩,(fun f hf=>al _ hf)⟩⟩
 have H7:=H.forget (L':=(nq,_)::(nl,_)::(bb,_)::(gP,_)::(gS,_)::(Lo++K)) (.cons_cons _ (.cons_cons _ (cu [(b45,_),(b5,_),(b4,_),(b3,_)] _))) (fun _ h=>h)
 have hl7:sn2.length=(sns++[(⟨a.name,(bX co.a a.name).2.1,(bX co.a a.name).2.2.1,false,av ps.length 0,some ⟨nq,0,none⟩,c74,av ps.length mQ,some ⟨nl,0,none⟩,c81⟩:Sn)]).length:=by rw[hl2,az];rfl
 rw[hl7]at H7
 exact H7.perm (MM [(bb,_),(gP,_),(gS,_)] [(nq,_),(nl,_)] Lo K)
theorem IT {w0 w:World} {bb:Nat} {b:Bk} {gP:Nat} {uP:Array Value} {Ls Lo K:List (Nat×Obj)} {F:List cz} (a:Act) (B:Bw w0 w bb b gP uP Ls Lo K F) (hsl:b.sns.length<=1000000) {k:Nat} (hnm:bQ a.name=true) (hcb:oI k b.co) (hk:k<=1000) (hnp:0<b.ps.length) (hp4:b.ps.length<=4) {i:Nat} {x:Sn} (hix:fl b.sns a.name=some i) (hx:b.sns[i]? =some x):dg ab kc [.pointer (Qd bb),a.v] w fun v w2=> ∃ b':Bk,oJ (oV b.a a).2 v w2/\b'.a=(oV b.a a).1/\xb w0 w2 bb b' K F:=by
 refine aF m0 Z Z ?_
 obtain⟨ps,pA,pC,co,clo,chi,gr,glo,ghi,sns,snA,snC⟩:=b
 obtain⟨hpA,row,hsn,hown,hco,hgr,hps,H⟩:=B
 dsimp only at hpA row hsn hown hco hgr hps
 subst hpA
 dsimp only at hix hx
 obtain⟨gS,uS,hgS,hLs,rowS⟩:=hsn.row (by have:=(bT hx).1;omega)
 subst hgS;subst hLs
 obtain⟨gq,uq,gl,ul,La,Lb,hsA,hlA,rowq,rowl,hLo,hset⟩:=hown.at_ hx
 subst hLo
 replace H:Hp w0 w ((bb,.cells #[.slice (Qd gP) ps.length pC,J (co.clock),J (co.next),J (co.wait),.slice co.A co.txs.length co.cap,J (gr.clock),J (gr.wait),J (gr.gen),.slice gr.mA gr.ms.length gr.mC,.slice gr.oA gr.os.length gr.oC,.slice (Qd gS) sns.length snC] bO (0,0))::(gP,.cells uP bM (0,0))::(gS,.cells uS fA (0,0))::(gq,.cells uq db (0,0))::(gl,.cells ul dy (0,0))::(La++(Lb++K))) F:=H.perm (Cs [(bb,_),(gP,_),(gS,_)] _ _ La Lb K)
 dsimp only at hsl hcb hnp hp4
 show CW _ _ _ _ (args [.pointer (Qd bb),.agg #[J (a.kind),.string (a.name),J (a.part),J (a.n),J (a.m),.string (a.text),J (a.lost)]]) w
 refine W<|Zr<|fW H Z Z fun w1 b3 H=>eI H dp Z fun w2 b4 H=>U<|W ?_
 refine eG (τ:=Co×Nat×Nat×Nat) [5,6,7,8,10,11,12,13,14,15,16,17,18,19,20,21,22] (fun(_,b5,_,_)=>[(5,.pointer (Qd b5)),(6,J (bX co.a a.name).2.1),(7,J (bX co.a a.name).2.2.1),(8,J (bX co.a a.name).2.2.2)]) (fun(c3,b5,lo,hi) w'=>c3.a=(bX co.a a.name).1/\Hp w0 w' ((b5,.cells #[J (c3.clock),J (c3.next),J (c3.wait),.slice c3.A c3.txs.length c3.cap] bk (0,0))::(b4,.cells #[J (0),J (0),.slice none 0 0] eg (0,0))::(b3,.cells #[J (a.kind),.string (a.name),J (a.part),J (a.n),J (a.m),.string (a.text),J (a.lost)] gd (0,0))::(bb,.cells #[.slice (Qd gP) ps.length pC,J (co.clock),J (co.next),J (co.wait),.slice co.A co.txs.length co.cap,J (gr.clock),J (gr.wait),J (gr.gen),.slice gr.mA gr.ms.length gr.mC,.slice gr.oA gr.os.length gr.oC,.slice (Qd gS) sns.length snC] bO (0,0))::(gP,.cells uP bM (0,0))::(gS,.cells uS fA (0,0))::(gq,.cells uq db (0,0))::(gl,.cells ul dy (0,0))::La++(Lb++K)) (xa w0 lo hi c3::F)) ?_ ?_
 refine ou ci 13 7 [7,8,9,10,11,12,14,15,16,17] [13] [0,1,2,3,5] [13,14,15,16,17] [7] [0,1,2,3,5,8,9,10,11,12] (sp [(13,Sp.blk w2.heap.size (.agg #[J 0,J 0,J 0,.slice none 0 0]) bk)]) (sp [(7,Sp.deep w2.heap.size LL (fun c:Co=>c.c.toArray) (fun cs=> .tuple #[.agg cs,J (bX co.a a.name).2.1,J (bX co.a a.name).2.2.1,J (bX co.a a.name).2.2.2]) (fun cq:Co=>cq.a=(bX co.a a.name).1))]) N N N N (cJ _) (cJ _) ?_ ?_
 refine jz [0,1,2,3,4,5,6,13] [7,8,9,10,11,12,14,15,16,17] [13] [0,1,2,3,5] 9 (sp [(13,Sp.blk w2.heap.size (.agg #[J 0,J 0,J 0,.slice none 0 0]) bk)]) N N N Nq<|aw Z Z Z Z Z (fun w' hw'=>Yp Z)<|aw Z Z Z Z Z (fun w' hw'=>aG Z)<|aw Z Z Z Z Z (fun w' hw'=>Zf aV Z)<|aw Z Z Z Z Z (fun w' hw'=>Zf er Z)<|aw Z Z Z Z Z (fun w' hw'=>jl 1 [J (co.clock),J (co.next),J (co.wait),.slice co.A co.txs.length co.cap] aq Z Z ((H.later hw').ent (i:=2) Z) Z)<|aw Z Z Z Z Z (fun w' hw'=>Zf fe Z)<|aw Z Z Z Z Z (fun w' hw'=>aX bc Z (aD ((H.later hw').ent (i:=1) Z) Z))<|wW cM Z Z Z Z Z (fun w' hw'=>hw'.size) fun b5=>aQ ?_
 intro w3 hw' hF
 obtain⟨hF,bq,eq,hge5,hbl5⟩:=hF;cases eq
 replace H:=H.adoptNew hw' hbl5 hge5
 clear hw' hF
 refine bu 7 N Z<|ch nR (wq co a.name k _ (Hp.coM H hco) hcb hk hnm) Z Z ?_
 rintro _ w4 ⟨c3,rfl,hac3,hnc3⟩;replace H:=H.learn hnc3.2 (xa w0 w3.heap.size w4.heap.size c3) ⟨H.size,hnc3.1⟩ (ao _) (ao _);clear hnc3
 refine U<|bC 8 N N N Z Z Z Z Nq (fun _=>Yu Z)<|bC 9 N N N Z Z Z Z Nq (fun _=>Xa Z Z)<|bC 10 N N N Z Z Z Z Nq (fun _=>Xi Z Z)<|bC 11 N N N Z Z Z Z Nq (fun _=>Xi Z Z)<|bC 12 N N N Z Z Z Z Nq (fun _=>Xi Z Z)<|bu 14 N Z<|bg H 0 (#[J (c3.clock),J (c3.next),J (c3.wait),.slice c3.A c3.txs.length c3.cap]) aA Z Z Z Z Z N N fun w5 H=>U<|bC 15 N N N Z Z Z Z Nq (fun _=>Wi Z)<|bC 16 N N N Z Z Z Z Nq (fun _=>Wi Z)<|bC 17 N N N Z Z Z Z Nq (fun _=>Wi Z)<|aZ N ?_
 exact⟨(c3,b5,_,_),⟨hac3,H⟩,OS Z Z Z Z,Qg⟩
 refine jz [0,1,2,3,4,5,6,7,8,9,10,11,12] [13,14,15,16,17] [7] [0,1,2,3,5,8,9,10,11,12] 4 (sp [(7,Sp.deep w2.heap.size LL (fun c:Co=>c.c.toArray) (fun cs=> .tuple #[.agg cs,J (bX co.a a.name).2.1,J (bX co.a a.name).2.2.1,J (bX co.a a.name).2.2.2]) (fun cq:Co=>cq.a=(bX co.a a.name).1))]) N N N Nq<|aw Z Z Z Z Z (fun w' hw'=>Yp Z)<|aw Z Z Z Z Z (fun w' hw'=>aG Z)<|aw Z Z Z Z Z (fun w' hw'=>Zf aV Z)<|aw Z Z Z Z Z (fun w' hw'=>Zf er Z)<|aw Z Z Z Z Z (fun w' hw'=>jl 1 [J (co.clock),J (co.next),J (co.wait),.slice co.A co.txs.length co.cap] aq Z Z ((H.later hw').ent (i:=2) Z) Z)<|aw Z Z Z Z Z (fun w' hw'=>Zf fe Z)<|aw Z Z Z Z Z (fun w' hw'=>aX bc Z (aD ((H.later hw').ent (i:=1) Z) Z))<|sL (gv:=(fun cs=> .tuple #[.agg cs,J (bX co.a a.name).2.1,J (bX co.a a.name).2.2.1,J (bX co.a a.name).2.2.2])) nR Z Z Z Z Z (fun w' hw'=>hw'.size) (fun w' hw'=>wq co a.name k w' (Hp.coM (H.later hw') hco) hcb hk hnm) Z fun cs18=>aw Z Z Z Z Z (fun w' hw'=>Yu Z)<|aw Z Z Z Z Z (fun w' hw'=>Xa Z Z)<|aw Z Z Z Z Z (fun w' hw'=>Xi Z Z)<|aw Z Z Z Z Z (fun w' hw'=>Xi Z Z)<|aw Z Z Z Z Z (fun w' hw'=>Xi Z Z)<|aQ ?_
 intro w6 hw' hF
 obtain⟨hF,c3,eq,hac3,hrd18⟩:=hF;cases eq
 replace H:=H.learn hw' (xa w0 w2.heap.size w6.heap.size c3) ⟨H.size,hrd18⟩ (ao _) (ao _)
 clear hw' hF
 refine bu 13 N Z<|eI H cM Z fun w7 b5 H=>U<|bu 14 N Z<|bg H 0 (#[J (c3.clock),J (c3.next),J (c3.wait),.slice c3.A c3.txs.length c3.cap]) aA Z Z Z Z Z N N fun w8 H=>U<|bC 15 N N N Z Z Z Z Nq (fun _=>Wi Z)<|bC 16 N N N Z Z Z Z Nq (fun _=>Wi Z)<|bC 17 N N N Z Z Z Z Nq (fun _=>Wi Z)<|aZ N ?_
 exact⟨(c3,b5,_,_),⟨hac3,H⟩,OS Z Z Z Z,Qg⟩
 rintro⟨c3,b5,lo,hi⟩ ρ1 w9 ⟨hac3,H⟩
 show CW _ _ _ _ (dH (gJ _ _ ρ1) [(5,.pointer (Qd b5)),(6,J (bX co.a a.name).2.1),(7,J (bX co.a a.name).2.2.1),(8,J (bX co.a a.name).2.2.2)]) w9
 refine W<|W<|Zr<|G (Yi Z) ?_
 refine qV (ja Z Z) Z Z Z (fun h24=> ?_) (fun h24=> ?_)
 refine U<|ZT Z<|W<|Zr<|G (Yi Z)<|ch bR (dU (bX co.a a.name).2.2.2 _) Z Z ?_
 rintro _ w10 ⟨rfl,hb⟩;replace H:=H.later hb;clear hb
 refine bg H 1 (#[J ((bX co.a a.name).2.2.2),J (0),.slice none 0 0]) aP Z Z Z Z Z N N fun w11 H=>U<|Zt ?_
 exact eS (cs0:= #[J ((bX co.a a.name).2.2.2),J (0),.slice none 0 0]) Z aM Z (H.ent (i:=1) Z) Z ⟨⟨ps,some ⟨gP,0,none⟩,pC,co,clo,chi,gr,glo,ghi,sns.set i x,some ⟨gS,0,none⟩,snC⟩,by rw[uo h24];exact oJ.plain _ _ _,by rw[uo h24,fb hx];rfl,Bw.close (X:=[(b5,_),(b4,_),(b3,_)]) row (by rw[fb hx];exact rowS) hset hsA hlA rowq rowl (al _ hco) (al _ hgr) (fun q hq=>al _ (hps q hq)) (fun f hf=>al _ hf) H (by rw[fb hx];rfl)⟩
 refine U<|ZF Z<|Zk<|W ?_
 have hok3:(bX co.a a.name).2.2.2=0:=by simpa using h24
 refine Zr<|G (Yp Z)<|G (Zw aq H 0 Z Z Z)<|G (aG Z)<|G (Zf aV Z)<|G (Zf er Z)<|bg H 3 (#[.slice (Qd gP) ps.length pC,J (c3.clock),J (c3.next),J (c3.wait),.slice c3.A c3.txs.length c3.cap,J (gr.clock),J (gr.wait),J (gr.gen),.slice gr.mA gr.ms.length gr.mC,.slice gr.oA gr.os.length gr.oC,.slice (Qd gS) sns.length snC]) aA Z Z Z Z Z N N fun w12 H=>U<|W<|Zr<|G (Yp Z)<|G (Zf fe Z)<|G (Zd bc H 2 Z Z Z)<|ch dC (jt bb ⟨ps,some ⟨gP,0,none⟩,pC,c3,lo,hi,gr,glo,ghi,sns,some ⟨gS,0,none⟩,snC⟩ a.name _ _ (H.ent (i:=3) Z) (dz.own rowS) (fun q hq=>by rw[au.1 hq];exact(H.ent (i:=5) Z)) hsl) Z Z ?_
 rintro _ w13 ⟨rfl,hb⟩;replace H:=H.later hb;clear hb
 rw[hix]
 refine G (Wp Z)<|U<|W<|W<|Zr<|G (Yp Z)<|G (vz iQ Z)<|U<|ZF Z<|Zk<|W ?_
 refine bD ci [0,1,2,3,4,5,6,7,8,9,10,12,13,14,15,16,17,11,18,19,20] [21] [11,18] [0,1,3,4,5,6,7,8,10,12,13,14,15,17,19,20] (sp [(11,Sp.orow w13.heap.size bW db (av ps.length (0:Int))),(18,Sp.orow w13.heap.size gQ dy (av ps.length mQ))]) N N N N Nq (cJ _) ?_
 refine aw Z Z Z Z Z (fun w' hw'=>Yp Z)<|aw Z Z Z Z Z (fun w' hw'=>Zf fe Z)<|aw Z Z Z Z Z (fun w' hw'=>aX bc Z (aD ((H.later hw').ent (i:=2) Z) Z))<|aw Z Z Z Z Z (fun w' hw'=>Yi Z)<|aw Z Z Z Z Z (fun w' hw'=>Yi Z)<|aw Z Z Z Z Z (fun w' hw'=>Yp Z)<|aw Z Z Z Z Z (fun w' hw'=>aG Z)<|aw Z Z Z Z Z (fun w' hw'=>Zf aV Z)<|aw Z Z Z Z Z (fun w' hw'=>Zf dx Z)<|aw Z Z Z Z Z (fun w' hw'=>aX d3 Z (aD ((H.later hw').ent (i:=3) Z) Z))<|aw Z Z Z Z Z (fun w' hw'=>br jK Z)<|aw Z Z Z Z Z (fun w' hw'=>Yp Z)<|aw Z Z Z Z Z (fun w' hw'=>aG Z)<|aw Z Z Z Z Z (fun w' hw'=>Zf aV Z)<|aw Z Z Z Z Z (fun w' hw'=>Zf dx Z)<|aw Z Z Z Z Z (fun w' hw'=>aX d3 Z (aD ((H.later hw').ent (i:=3) Z) Z))<|aw Z Z Z Z Z (fun w' hw'=>br jK Z)<|HH (Y:=bW) ((0:Int)) ps.length aT Hv Z Z Z Z Z Z (fun w' hw'=>hw'.size) Z Z I I fun A74 c74 hc74=>HH (Y:=gQ) (mQ) ps.length dX Cj Z Z Z Z Z Z (fun w' hw'=>hw'.size) Z Z I I fun A81 c81 hc81=>aw Z Z Z Z Z (fun w' hw'=>bn (cs:= #[.string (a.name),J ((bX co.a a.name).2.1),J ((bX co.a a.name).2.2.1),.bool (false),.slice A74 (((av ps.length (0:Int))).length) c74,.slice A81 ((av ps.length mQ).length) c81]) xm vY N)<|aw Z Z Z Z Z (fun w' hw'=>aG Z)<|aQ ?_
 intro w14 hw' hF
 obtain⟨hF,Aq,cq,L81,eq,hcq,hm81,ho81,he81,hn81⟩:=hF;cases eq;clear hcq
 obtain⟨hF,Aq,cq,L74,eq,hcq,hm74,ho74,he74,hn74⟩:=hF;cases eq;clear hcq
 obtain⟨nq,curq,rfl,rfl,rowq9⟩:=ho74.row (by simp only[cn];exact hnp)
 obtain⟨nl,curl,rfl,rfl,rowl9⟩:=ho81.row (by simp only[cn];exact hnp)
 have e74:=he74 _ (d6 _)
 have e81:=he81 _ (d6 _)
 replace H:=H.adopt2 hw' e74 e81 (rQ e74.1 e81.1 Z)
 clear hw' hF
 refine im H 7 (⟨a.name,(bX co.a a.name).2.1,(bX co.a a.name).2.2.1,false,av ps.length 0,some ⟨nq,0,none⟩,c74,av ps.length mQ,some ⟨nl,0,none⟩,c81⟩) zq rowS hx 0 Z Z Z Z Z Z N fun w16 cur15 row15 H=> ?_
 have hs17:(sns.set i (⟨a.name,(bX co.a a.name).2.1,(bX co.a a.name).2.2.1,false,av ps.length 0,some ⟨nq,0,none⟩,c74,av ps.length mQ,some ⟨nl,0,none⟩,c81⟩))[i]? =some (⟨a.name,(bX co.a a.name).2.1,(bX co.a a.name).2.2.1,false,av ps.length 0,some ⟨nq,0,none⟩,c74,av ps.length mQ,some ⟨nl,0,none⟩,c81⟩):=ae (bT hx).1
 refine U<|W<|Zr<|G (Yi Z)<|G (bn (cs:= #[J (0),J ((bX co.a a.name).2.2.1),.slice none 0 0]) iI dp N)<|bg H 3 (#[J (0),J ((bX co.a a.name).2.2.1),.slice none 0 0]) aP Z Z Z Z Z N N fun w18 H=>U<|Zt ?_
 have H7:=H.forget (L':=(nq,_)::(nl,_)::(bb,_)::(gP,_)::(gS,_)::(La++(Lb++K))) (.cons_cons _ (.cons_cons _ ((ar _).trans (.trans (.cons_cons _ (.cons_cons _ (.cons_cons _ (.cons _ (.cons _ (ar _)))))) (cu [(b5,_),(b4,_),(b3,_)] _))))) (fun _ h=>h)
 have hm7:(sns.set i (⟨a.name,(bX co.a a.name).2.1,(bX co.a a.name).2.2.1,false,av ps.length 0,some ⟨nq,0,none⟩,c74,av ps.length mQ,some ⟨nl,0,none⟩,c81⟩:Sn)).map Sn.a=(sns.map Sn.a).set i (uW a.name (bX co.a a.name).2.1 (bX co.a a.name).2.2.1 ps.length):=by rw[cD];rfl
 replace H7:=H7.perm (fX [(bb,_),(gP,_),(gS,_)] [(nq,_),(nl,_)] _)
 exact eS (cs0:= #[J (0),J ((bX co.a a.name).2.2.1),.slice none 0 0]) Z aM Z (H.ent (i:=3) Z) Z ⟨⟨ps,some ⟨gP,0,none⟩,pC,c3,lo,hi,gr,glo,ghi,sns.set i ⟨a.name,(bX co.a a.name).2.1,(bX co.a a.name).2.2.1,false,av ps.length 0,some ⟨nq,0,none⟩,c74,av ps.length mQ,some ⟨nl,0,none⟩,c81⟩,some ⟨gS,0,none⟩,snC⟩,by rw[Cp hix hok3];exact oJ.plain _ _ _,by rw[Cp hix hok3,<-hac3];show Wa.mk _ _ _ ((sns.set i ⟨a.name,(bX co.a a.name).2.1,(bX co.a a.name).2.2.1,false,av ps.length 0,some ⟨nq,0,none⟩,c74,av ps.length mQ,some ⟨nl,0,none⟩,c81⟩).map Sn.a)=Wa.mk _ _ _ _;rw[hm7];rfl,Bw.close (X:=[]) row row15 hset Z Z rowq9 rowl9 (aC ..) (al _ hgr) (fun q hq=>al _ (hps q hq)) (fun f hf=>al _ hf) H7 (by simp only[Bk.c,aa])⟩
theorem KS {c:Co} (h:gi c=true) {t:Tx} (ht:t∈c.txs): ∃ i,f5 c t.name=some (i,t):=by
 obtain⟨-,-,h3⟩:=gK.1 h
 obtain⟨i,hi⟩:=aU.1 ht
 obtain⟨hl,he⟩:=bT hi
 have:(c.txs.findIdx? fun p=>decide (p.name=t.name))=some i:=by
  rw[bh]
  refine⟨hl,by rw[he];simp,fun j hj=> ?_⟩
  unfold vr at h3
  rw[jq,mM]at h3
  have:=(h3 j i I hl hj).1
  rw[he]at this
  simpa using this
 exact⟨i,by unfold f5;rw[this];simp[hi]⟩
theorem Ci {c:Co} (h:gi c=true) {n:Nat} {t:Tx} (ht:g8 c.txs n=some t):(∃ i,f5 c t.name=some (i,t))/\(t.state=3∨t.state=4)/\t.parts.headD 0∈t.parts/\0<=t.parts.headD 0/\t.parts.headD 0<4:=by
 unfold g8 at ht
 obtain⟨hm,he⟩:=kS.1 (ah ht)
 have hs:t.state=3∨t.state=4:=by unfold gR at he;simpa using he
 have hx:=cF.1 ((gK.1 h).2.1 t hm)
 have hp:t.parts.headD 0∈t.parts:=by
  cases hp:t.parts with
  |nil=>have:=hx.2.2.2.2.2.2.2.2.2.2.2 (by rw[hp];rfl);omega
  |cons a l=>simp
 exact⟨KS h hm,hs,hp,by have:=(fK hx.2.2.2.2.2.2.2.2.2.1).2 _ hp;omega⟩
theorem GW {c:Co} {s:ByteArray} {p:Int} {i:Nat} {t:Tx} (hf:f5 c s=some (i,t)) (h34:t.state=3∨t.state=4) (hp:p∈t.parts):(qJ c s p).2=0:=by
 unfold qJ
 rw[hf]
 dsimp only
 rw[if_pos h34,if_pos hp]
theorem Gw {w:Wa} {a:Act} (h:g8 w.co.txs a.n.toNat=none):n7 w a=l5 w 15:=by
 unfold n7
 rw[h]
theorem KA {w:Wa} {a:Act} {t:Tx} {n:Nat} {p:gE} (h:g8 w.co.txs a.n.toNat=some t) (hn:t.parts.headD 0=(n:Nat)) (hp:w.ps[n]? =some p):n7 w a=if(eH p (de t)).2.2=0 then({w with ps:=w.ps.set n (eH p (de t)).1,co:=(qJ w.co t.name (t.parts.headD 0)).1},⟨0,(eH p (de t)).2.1,[]⟩)else l5 w (eH p (de t)).2.2:=by
 unfold n7
 rw[h]
 dsimp only
 rw[show(t.parts.headD 0).toNat=n by omega,Hn hp]
 split
 rename_i h0
 rw[if_pos (by rfl)]
 rename_i h0
 rw[if_neg (show¬ (l5 w (eH p (de t)).2.2).2.code=0 from h0)]
theorem IL {w:Wa} {a:Act} {t:Tx} {n:Nat} (h:g8 w.co.txs a.n.toNat=some t) (hn:t.parts.headD 0=(n:Nat)) (hp:w.ps[n]? =none):n7 w a=l5 w 5:=by
 unfold n7 uA
 rw[h]
 dsimp only
 rw[show(t.parts.headD 0).toNat=n by omega,hp]
 dsimp only
 rw[if_neg (by show¬ (5:Int)=0;decide)]
theorem IK {w0 w:World} {bb:Nat} {b:Bk} {gP:Nat} {uP:Array Value} {Ls Lo K:List (Nat×Obj)} {F:List cz} (a:Act) (B:Bw w0 w bb b gP uP Ls Lo K F) {k:Nat} (hcb:oI k b.co) (hn:0<=a.n/\a.n<=1000) (hne:g8 b.co.a.txs a.n.toNat=none):dg ab kb [.pointer (Qd bb),a.v] w fun v w2=> ∃ b':Bk,oJ (n7 b.a a).2 v w2/\b'.a=(n7 b.a a).1/\xb w0 w2 bb b' K F:=by
 refine aF mZ Z Z ?_
 have hsp:=Gw (w:=b.a) hne
 obtain⟨ps,pA,pC,co,clo,chi,gr,glo,ghi,sns,snA,snC⟩:=b
 obtain⟨hpA,row,hsn,hown,hco,hgr,hps,H⟩:=B
 dsimp only at hpA row hsn hown hco hgr hps
 subst hpA
 replace H:Hp w0 w ((bb,.cells #[.slice (Qd gP) ps.length pC,J (co.clock),J (co.next),J (co.wait),.slice co.A co.txs.length co.cap,J (gr.clock),J (gr.wait),J (gr.gen),.slice gr.mA gr.ms.length gr.mC,.slice gr.oA gr.os.length gr.oC,.slice snA sns.length snC] bO (0,0))::(gP,.cells uP bM (0,0))::(Ls++(Lo++K))) F:=H
 dsimp only at hcb hne
 obtain⟨m,hnm⟩: ∃ m:Nat,a.n=(m:Int):=⟨a.n.toNat,by omega⟩
 have htm:a.n.toNat=m:=by omega
 rw[htm]at hne
 show CW _ _ _ _ (args [.pointer (Qd bb),.agg #[J (a.kind),.string (a.name),J (a.part),J (a.n),J (a.m),.string (a.text),J (a.lost)]]) w
 refine W<|Zr<|fW H Z Z fun w1 b3 H=>eI H dp Z fun w2 b4 H=>U<|W ?_
 refine bD ci [0,1,2,3,4,5,6,7,8,9,10,11,12,13,14,15] [16,17] [7,13] [0,1,2,3,5,8,9,10,11,12,14,15] (sp [(7,Sp.one (ye none)),(13,Sp.blk w2.heap.size (.agg #[J 0,J 0,J 0,J 0,J 0,.bool false,.string ⟨#[]⟩]) dy)]) N N N N Nq (cJ _) ?_
 refine aw Z Z Z Z Z (fun w' hw'=>Yp Z)<|aw Z Z Z Z Z (fun w' hw'=>aG Z)<|aw Z Z Z Z Z (fun w' hw'=>Zf aV Z)<|aw Z Z Z Z Z (fun w' hw'=>Zf er Z)<|aw Z Z Z Z Z (fun w' hw'=>jl 1 [J (co.clock),J (co.next),J (co.wait),.slice co.A co.txs.length co.cap] aq Z Z ((H.later hw').ent (i:=2) Z) Z)<|aw Z Z Z Z Z (fun w' hw'=>Zf eT Z)<|aw Z Z Z Z Z (fun w' hw'=>aX ak Z (aD ((H.later hw').ent (i:=1) Z) Z))<|hJ vi Z Z Z Z Z (fun w' hw'=>(by have hA:=EQ co m w' (Hp.coM (H.later hw') hco) hcb.ok I;rw[show g8 co.a.txs m=_ from hne,<-hnm]at hA;exact hA)) Z<|aw Z Z Z Z Z (fun w' hw'=>Yu Z)<|aw Z Z Z Z Z (fun w' hw'=>Nl Z Z)<|aw Z Z Z Z Z (fun w' hw'=>Xi Z Z)<|aw Z Z Z Z Z (fun w' hw'=>Xa Z Z)<|aw Z Z Z Z Z (fun w' hw'=>Xi Z Z)<|wW gh Z Z Z Z Z (fun w' hw'=>hw'.size) fun b7=>aw Z Z Z Z Z (fun w' hw'=>Wt Z)<|aw Z Z Z Z Z (fun w' hw'=>Wi Z)<|aQ ?_
 intro w3 hw' hF
 obtain⟨hF,bq,eq,hge7,hbl7⟩:=hF;cases eq
 obtain⟨hF,-⟩:=hF
 have Hb:=H
 replace H:=H.adoptNew hw' hbl7 hge7
 clear hw' hF
 refine bg H 0 (#[J (0),J (0),J (0),J (0),J (0),.bool (false),.string (⟨#[]⟩)]) eV Z Z Z Z Z N N fun w4 H=>G (Wi Z)<|U<|W<|W<|Zr<|G (Yi Z)<|G (j9 Z Z (by decide))<|U<|ZT Z<|W<|Zr<|G (Yi Z)<|ch bR (dU 15 _) Z Z ?_
 rintro _ w5 ⟨rfl,hb⟩;replace H:=H.later hb;clear hb
 refine bg H 1 (#[J (15),J (0),.slice none 0 0]) aP Z Z Z Z Z N N fun w6 H=>U<|Zt ?_
 exact eS (cs0:= #[J (15),J (0),.slice none 0 0]) Z aM Z (H.ent (i:=1) Z) Z ⟨⟨ps,some ⟨gP,0,none⟩,pC,co,clo,chi,gr,glo,ghi,sns,snA,snC⟩,by rw[hsp];exact oJ.plain _ _ _,by rw[hsp];rfl,Bw.shut (X:=[(b7,_),(b4,_),(b3,_)]) row hsn hown hco hgr hps (fun _ h=>h) H Z⟩
theorem IJ {w0 w:World} {bb:Nat} {b:Bk} {gP:Nat} {uP:Array Value} {Ls Lo K:List (Nat×Obj)} {F:List cz} (a:Act) (B:Bw w0 w bb b gP uP Ls Lo K F) {k:Nat} (hcb:oI k b.co) (hn:0<=a.n/\a.n<=1000) (hpk: ∀ q∈b.ps,q.p.a.ok/\ ∀ (l:Nat) (y:fg),q.p.leader=l->q.p.reps[l]? =some y->y.es.length<400) {t:Tx} (hne:g8 b.co.a.txs a.n.toNat=some t):dg ab kb [.pointer (Qd bb),a.v] w fun v w2=> ∃ b':Bk,oJ (n7 b.a a).2 v w2/\b'.a=(n7 b.a a).1/\xb w0 w2 bb b' K F:=by
 refine aF mZ Z Z ?_
 have hne0:g8 b.a.co.txs a.n.toNat=some t:=hne
 obtain⟨⟨ti,hf⟩,h34,hpt,hp0,hp4⟩:=Ci hcb.a.ok hne
 have hnmt:=(cF.1 (hcb.a.at_ (jf hf).2.1)).1
 obtain⟨n,hpn⟩: ∃ n:Nat,t.parts.headD 0=(n:Int):=⟨(t.parts.headD 0).toNat,by omega⟩
 have hn4:n<4:=by omega
 have hout:decide (0<=t.parts.headD 0/\t.parts.headD 0<(b.ps.length:Int))=false->n7 b.a a=l5 b.a 5:=fun h=>IL hne0 hpn (by rw[show b.a.ps=b.ps.map fun q=>q.p.a from rfl,aL,cL (by have:=of_decide_eq_false h;omega)];rfl)
 obtain⟨ps,pA,pC,co,clo,chi,gr,glo,ghi,sns,snA,snC⟩:=b
 obtain⟨hpA,row,hsn,hown,hco,hgr,hps,H⟩:=B
 dsimp only at hpA row hsn hown hco hgr hps
 subst hpA
 replace H:Hp w0 w ((bb,.cells #[.slice (Qd gP) ps.length pC,J (co.clock),J (co.next),J (co.wait),.slice co.A co.txs.length co.cap,J (gr.clock),J (gr.wait),J (gr.gen),.slice gr.mA gr.ms.length gr.mC,.slice gr.oA gr.os.length gr.oC,.slice snA sns.length snC] bO (0,0))::(gP,.cells uP bM (0,0))::(Ls++(Lo++K))) F:=H
 dsimp only at hcb hne hf hpk hout
 obtain⟨m,hnm⟩: ∃ m:Nat,a.n=(m:Int):=⟨a.n.toNat,by omega⟩
 have htm:a.n.toNat=m:=by omega
 rw[htm]at hne
 show CW _ _ _ _ (args [.pointer (Qd bb),.agg #[J (a.kind),.string (a.name),J (a.part),J (a.n),J (a.m),.string (a.text),J (a.lost)]]) w
 refine W<|Zr<|fW H Z Z fun w1 b3 H=>eI H dp Z fun w2 b4 H=>U<|W ?_
 refine bD ci [0,1,2,3,4,5,6,7,8,9,10,11,12,13,14,15] [16,17] [7,13] [0,1,2,3,5,8,9,10,11,12,14,15] (sp [(7,Sp.one (ye (some t))),(13,Sp.blk w2.heap.size (.agg #[J 0,J 0,J 0,J 0,J 0,.bool false,.string ⟨#[]⟩]) dy)]) N N N N Nq (cJ _) ?_
 refine aw Z Z Z Z Z (fun w' hw'=>Yp Z)<|aw Z Z Z Z Z (fun w' hw'=>aG Z)<|aw Z Z Z Z Z (fun w' hw'=>Zf aV Z)<|aw Z Z Z Z Z (fun w' hw'=>Zf er Z)<|aw Z Z Z Z Z (fun w' hw'=>jl 1 [J (co.clock),J (co.next),J (co.wait),.slice co.A co.txs.length co.cap] aq Z Z ((H.later hw').ent (i:=2) Z) Z)<|aw Z Z Z Z Z (fun w' hw'=>Zf eT Z)<|aw Z Z Z Z Z (fun w' hw'=>aX ak Z (aD ((H.later hw').ent (i:=1) Z) Z))<|hJ vi Z Z Z Z Z (fun w' hw'=>(by have hA:=EQ co m w' (Hp.coM (H.later hw') hco) hcb.ok I;rw[show g8 co.a.txs m=_ from hne,<-hnm]at hA;exact hA)) Z<|aw Z Z Z Z Z (fun w' hw'=>Yu Z)<|aw Z Z Z Z Z (fun w' hw'=>Nl Z Z)<|aw Z Z Z Z Z (fun w' hw'=>Xi Z Z)<|aw Z Z Z Z Z (fun w' hw'=>Xa Z Z)<|aw Z Z Z Z Z (fun w' hw'=>Xi Z Z)<|wW gh Z Z Z Z Z (fun w' hw'=>hw'.size) fun b7=>aw Z Z Z Z Z (fun w' hw'=>Wt Z)<|aw Z Z Z Z Z (fun w' hw'=>Wi Z)<|aQ ?_
 intro w3 hw' hF
 obtain⟨hF,bq,eq,hge7,hbl7⟩:=hF;cases eq
 obtain⟨hF,-⟩:=hF
 have Hb:=H
 replace H:=H.adoptNew hw' hbl7 hge7
 clear hw' hF
 refine bg H 0 (#[J ((de t).epoch),J ((de t).pid),J ((de t).ver),J ((de t).seq),J ((de t).kind),.bool ((de t).txn),.string ((de t).text)]) eV Z Z Z Z Z N N fun w4 H=>G (Wi Z)<|U<|W<|W<|Zr<|G (Yi Z)<|G (ce Z Z (by decide))<|U<|ZF Z<|Zk<|W<|W<|Zr<|G (Yp Z)<|G (Yi Z)<|ch d5 (nZ bb ⟨ps,some ⟨gP,0,none⟩,pC,co,clo,chi,gr,glo,ghi,sns,snA,snC⟩ (t.parts.headD 0) _ (H.ent (i:=3) Z)) Z Z ?_
 rintro _ w5 ⟨rfl,hb⟩;replace H:=H.later hb;clear hb
 refine mq 30 Z (fun h30=> ?_) (fun h30=> ?_)
 have hnp:n<ps.length:=by have:=of_decide_eq_true h30;dsimp only at this;omega
 obtain⟨q,hq⟩: ∃ q,ps[n]? =some q:=⟨_,ai hnp⟩
 have hqm:=ah hq
 have hsp:=KA hne0 hpn (p:=q.p.a) (by show(ps.map fun q=>q.p.a)[n]? =_;rw[aL,hq];rfl)
 refine G (dR Z)<|U<|ZF Z<|Zk<|W ?_
 refine eG (τ:=Pa×Nat×Nat×Nat) [8,9,10,33,34,35,36,37,38,39,40,41,42,43,44,45,46] (fun(_,b9,_,_)=>[(9,.pointer (Qd b9)),(10,J (eH q.p.a (de t)).2.1),(8,J (eH q.p.a (de t)).2.2)]) (fun(p2,b9,lo,hi) w'=>p2.a=(eH q.p.a (de t)).1/\Hp w0 w' ((b9,.cells #[J (p2.epoch),J (p2.leader),.slice p2.iA p2.isr.length p2.iC,.slice p2.kA p2.known.length p2.kC,.slice p2.rA p2.reps.length p2.rC,J (p2.few),J (p2.base)] bM (0,0))::(b7,.cells #[J ((de t).epoch),J ((de t).pid),J ((de t).ver),J ((de t).seq),J ((de t).kind),.bool ((de t).txn),.string ((de t).text)] dy (0,0))::(b4,.cells #[J (0),J (0),.slice none 0 0] eg (0,0))::(b3,.cells #[J (a.kind),.string (a.name),J (a.part),J (a.n),J (a.m),.string (a.text),J (a.lost)] gd (0,0))::(bb,.cells #[.slice (Qd gP) ps.length pC,J (co.clock),J (co.next),J (co.wait),.slice co.A co.txs.length co.cap,J (gr.clock),J (gr.wait),J (gr.gen),.slice gr.mA gr.ms.length gr.mC,.slice gr.oA gr.os.length gr.oC,.slice snA sns.length snC] bO (0,0))::(gP,.cells uP bM (0,0))::(Ls++(Lo++K))) (tf w0 lo hi p2::F)) ?_ ?_
 refine ou ci 14 9 [9,10,11,12,13,15,16,17] [14] [0,1,2,3,5,6] [14,15,16,17] [9] [0,1,2,3,5,6,10,11,12,13] (sp [(14,Sp.blk w5.heap.size (.agg #[J 0,J 0,.slice none 0 0,.slice none 0 0,.slice none 0 0,J 0,J 0]) bM)]) (sp [(9,Sp.deep w5.heap.size OT (fun p:Pa=>p.c.toArray) (fun cs=> .tuple #[.agg cs,J (eH q.p.a (de t)).2.1,J (eH q.p.a (de t)).2.2]) (fun cq:Pa=>cq.a=(eH q.p.a (de t)).1))]) N N N N (cJ _) (cJ _) ?_ ?_
 refine jz [0,1,2,3,4,5,6,7,8,14] [9,10,11,12,13,15,16,17] [14] [0,1,2,3,5,6] 7 (sp [(14,Sp.blk w5.heap.size (.agg #[J 0,J 0,.slice none 0 0,.slice none 0 0,.slice none 0 0,J 0,J 0]) bM)]) N N N Nq<|aw Z Z Z Z Z (fun w' hw'=>Yp Z)<|aw Z Z Z Z Z (fun w' hw'=>aG Z)<|aw Z Z Z Z Z (fun w' hw'=>Zf aV Z)<|aw Z Z Z Z Z (fun w' hw'=>Zf dx Z)<|aw Z Z Z Z Z (fun w' hw'=>aX d3 Z (aD ((H.later hw').ent (i:=3) Z) Z))<|aw Z Z Z Z Z (fun w' hw'=>Yi Z)<|aw Z Z Z Z Z (fun w' hw'=>bV (k:=n) gV Z (congrArg (Value.int .i64) hpn) (by first|omega|(simp only[aa];omega)))<|aw Z Z Z Z Z (fun w' hw'=>oM aH row hq Z Z ((H.later hw').ent (i:=4) Z))<|aw Z Z Z Z Z (fun w' hw'=>jW dI Z ((H.later hw').ent (i:=0) Z) Z)<|wW bv Z Z Z Z Z (fun w' hw'=>hw'.size) fun b9=>aQ ?_
 intro w6 hw' hF
 obtain⟨hF,bq,eq,hge9,hbl9⟩:=hF;cases eq
 replace H:=H.adoptNew hw' hbl9 hge9
 clear hw' hF
 refine bu 9 N Z<|ch qL (yY q.p (de t) _ (Hp.paM H (hps q hqm)) (hpk q hqm).1 (hpk q hqm).2) Z Z ?_
 rintro _ w7 ⟨p2,rfl,hap2,hnp2⟩;replace H:=H.learn hnp2.2 (tf w0 w6.heap.size w7.heap.size p2) ⟨H.size,hnp2.1⟩ (ao _) (ao _);clear hnp2
 refine U<|bC 10 N N N Z Z Z Z Nq (fun _=>Yu Z)<|bC 11 N N N Z Z Z Z Nq (fun _=>Xa Z Z)<|bC 12 N N N Z Z Z Z Nq (fun _=>Xi Z Z)<|bC 13 N N N Z Z Z Z Nq (fun _=>Xi Z Z)<|bu 15 N Z<|bg H 0 (#[J (p2.epoch),J (p2.leader),.slice p2.iA p2.isr.length p2.iC,.slice p2.kA p2.known.length p2.kC,.slice p2.rA p2.reps.length p2.rC,J (p2.few),J (p2.base)]) aK Z Z Z Z Z N N fun w8 H=>U<|bC 16 N N N Z Z Z Z Nq (fun _=>Wi Z)<|bC 17 N N N Z Z Z Z Nq (fun _=>Wi Z)<|aZ N ?_
 exact⟨(p2,b9,_,_),⟨hap2,H⟩,Nb Z Z Z,Qg⟩
 refine jz [0,1,2,3,4,5,6,7,8,9,10,11,12,13] [14,15,16,17] [9] [0,1,2,3,5,6,10,11,12,13] 3 (sp [(9,Sp.deep w5.heap.size OT (fun p:Pa=>p.c.toArray) (fun cs=> .tuple #[.agg cs,J (eH q.p.a (de t)).2.1,J (eH q.p.a (de t)).2.2]) (fun cq:Pa=>cq.a=(eH q.p.a (de t)).1))]) N N N Nq<|aw Z Z Z Z Z (fun w' hw'=>Yp Z)<|aw Z Z Z Z Z (fun w' hw'=>aG Z)<|aw Z Z Z Z Z (fun w' hw'=>Zf aV Z)<|aw Z Z Z Z Z (fun w' hw'=>Zf dx Z)<|aw Z Z Z Z Z (fun w' hw'=>aX d3 Z (aD ((H.later hw').ent (i:=3) Z) Z))<|aw Z Z Z Z Z (fun w' hw'=>Yi Z)<|aw Z Z Z Z Z (fun w' hw'=>bV (k:=n) gV Z (congrArg (Value.int .i64) hpn) (by first|omega|(simp only[aa];omega)))<|aw Z Z Z Z Z (fun w' hw'=>oM aH row hq Z Z ((H.later hw').ent (i:=4) Z))<|aw Z Z Z Z Z (fun w' hw'=>jW dI Z ((H.later hw').ent (i:=0) Z) Z)<|sL (gv:=(fun cs=> .tuple #[.agg cs,J (eH q.p.a (de t)).2.1,J (eH q.p.a (de t)).2.2])) qL Z Z Z Z Z (fun w' hw'=>hw'.size) (fun w' hw'=>yY q.p (de t) w' (Hp.paM (H.later hw') (hps q hqm)) (hpk q hqm).1 (hpk q hqm).2) Z fun cs43=>aw Z Z Z Z Z (fun w' hw'=>Yu Z)<|aw Z Z Z Z Z (fun w' hw'=>Xa Z Z)<|aw Z Z Z Z Z (fun w' hw'=>Xi Z Z)<|aw Z Z Z Z Z (fun w' hw'=>Xi Z Z)<|aQ ?_
 intro w9 hw' hF
 obtain⟨hF,p2,eq,hap2,hrd43⟩:=hF;cases eq
 replace H:=H.learn hw' (tf w0 w5.heap.size w9.heap.size p2) ⟨H.size,hrd43⟩ (ao _) (ao _)
 clear hw' hF
 refine bu 14 N Z<|eI H bv Z fun w10 b9 H=>U<|bu 15 N Z<|bg H 0 (#[J (p2.epoch),J (p2.leader),.slice p2.iA p2.isr.length p2.iC,.slice p2.kA p2.known.length p2.kC,.slice p2.rA p2.reps.length p2.rC,J (p2.few),J (p2.base)]) aK Z Z Z Z Z N N fun w11 H=>U<|bC 16 N N N Z Z Z Z Nq (fun _=>Wi Z)<|bC 17 N N N Z Z Z Z Nq (fun _=>Wi Z)<|aZ N ?_
 exact⟨(p2,b9,_,_),⟨hap2,H⟩,Nb Z Z Z,Qg⟩
 rintro⟨p2,b9,lo,hi⟩ ρ1 w12 ⟨hap2,H⟩
 show CW _ _ _ _ (dH (gJ _ _ ρ1) [(9,.pointer (Qd b9)),(10,J (eH q.p.a (de t)).2.1),(8,J (eH q.p.a (de t)).2.2)]) w12
 refine W<|W<|Zr<|G (Yi Z) ?_
 refine qV (ja Z Z) Z Z Z (fun h48=> ?_) (fun h48=> ?_)
 refine U<|ZT Z<|W<|Zr<|G (Yi Z)<|ch bR (dU (eH q.p.a (de t)).2.2 _) Z Z ?_
 rintro _ w13 ⟨rfl,hb⟩;replace H:=H.later hb;clear hb
 refine bg H 2 (#[J ((eH q.p.a (de t)).2.2),J (0),.slice none 0 0]) aP Z Z Z Z Z N N fun w14 H=>U<|Zt ?_
 exact eS (cs0:= #[J ((eH q.p.a (de t)).2.2),J (0),.slice none 0 0]) Z aM Z (H.ent (i:=2) Z) Z ⟨⟨ps,some ⟨gP,0,none⟩,pC,co,clo,chi,gr,glo,ghi,sns,snA,snC⟩,by rw[hsp,if_neg h48];exact oJ.plain _ _ _,by rw[hsp,if_neg h48];rfl,Bw.shut (X:=[(b9,_),(b7,_),(b4,_),(b3,_)]) row hsn hown (al _ hco) (al _ hgr) (fun q hq=>al _ (hps q hq)) (fun f hf=>al _ hf) H Z⟩
 refine U<|ZF Z<|Zk<|W ?_
 refine bD ci [0,1,2,3,4,5,6,7] [8] [] [0,1,2,3,5,7] (sp []) N N N N Nq (cJ _) ?_
 refine aw Z Z Z Z Z (fun w' hw'=>Yp Z)<|aw Z Z Z Z Z (fun w' hw'=>aG Z)<|aw Z Z Z Z Z (fun w' hw'=>Zf aV Z)<|aw Z Z Z Z Z (fun w' hw'=>Zf dx Z)<|aw Z Z Z Z Z (fun w' hw'=>aX d3 Z (aD ((H.later hw').ent (i:=4) Z) Z))<|aw Z Z Z Z Z (fun w' hw'=>Yi Z)<|aw Z Z Z Z Z (fun w' hw'=>jW aH Z ((H.later hw').ent (i:=0) Z) Z)<|aw Z Z Z Z Z (fun w' hw'=>bV (k:=n) gV Z (congrArg (Value.int .i64) hpn) (by first|omega|(simp only[aa];omega)))<|aQ ?_
 intro w15 hw' hF
 replace H:=H.later hw';clear hw' hF
 refine im H 5 (⟨p2,lo,hi⟩) aK row hq 0 Z Z Z Z Z Z N fun w17 cur16 row16 H=> ?_
 have hs18:(ps.set n (⟨p2,lo,hi⟩))[n]? =some (⟨p2,lo,hi⟩):=ae (bT hq).1
 refine U<|W<|Zr<|G (Yp Z)<|G (Yp Z)<|G (aG Z)<|G (Zf aV Z)<|G (Zf er Z)<|G (jl 1 [J (co.clock),J (co.next),J (co.wait),.slice co.A co.txs.length co.cap] aq Z Z (H.ent (i:=4) Z) Z)<|G (Yt Z)<|G (Yi Z)<|ch BS (Jc co t.name (t.parts.headD 0) k ti t _ (Hp.coM H (al _ hco)) hcb hnmt hf h34 hpt) Z Z ?_
 rintro _ w19 ⟨c4,rfl,hac4,hnc4⟩;replace H:=H.learn hnc4.2 (xa w0 w17.heap.size w19.heap.size c4) ⟨H.size,hnc4.1⟩ (ao _) (ao _);clear hnc4
 refine G (Yu Z)<|G (Xa Z Z)<|G (Xi Z Z)<|G (aG Z)<|G (Zf aV Z)<|G (Zf er Z)<|bg H 4 (#[.slice (Qd gP) ps.length pC,J (c4.clock),J (c4.next),J (c4.wait),.slice c4.A c4.txs.length c4.cap,J (gr.clock),J (gr.wait),J (gr.gen),.slice gr.mA gr.ms.length gr.mC,.slice gr.oA gr.os.length gr.oC,.slice snA sns.length snC]) aA Z Z Z Z Z N N fun w20 H=>U<|W<|Zr<|G (Yi Z)<|G (bn (cs:= #[J (0),J ((eH q.p.a (de t)).2.1),.slice none 0 0]) iI dp N)<|bg H 2 (#[J (0),J ((eH q.p.a (de t)).2.1),.slice none 0 0]) aP Z Z Z Z Z N N fun w21 H=>U<|Zt ?_
 have hz:(eH q.p.a (de t)).2.2=0:=by simpa using h48
 exact eS (cs0:= #[J (0),J ((eH q.p.a (de t)).2.1),.slice none 0 0]) Z aM Z (H.ent (i:=2) Z) Z ⟨⟨ps.set n ⟨p2,lo,hi⟩,some ⟨gP,0,none⟩,pC,c4,w17.heap.size,w19.heap.size,gr,glo,ghi,sns,snA,snC⟩,by rw[hsp,if_pos hz];exact oJ.plain _ _ _,by rw[hsp,if_pos hz];unfold Bk.a;simp only[cD,hap2,hac4],Bw.shut (X:=[(b9,_),(b7,_),(b4,_),(b3,_)]) row16 hsn hown (aC ..) (al _ (al _ hgr)) (fun y hy=>by rcases zJ hy with hy|hy;exact al _ (al _ (hps y hy));rw[hy];exact al _ (aC ..)) (fun f hf=>al _ (al _ hf)) H (by simp only[Bk.c,aa])⟩
 refine G (dR Z)<|U<|ZT Z<|W<|Zr<|ch bR (dU 5 _) Z Z ?_
 rintro _ w22 ⟨rfl,hb⟩;replace H:=H.later hb;clear hb
 refine bg H 1 (#[J (5),J (0),.slice none 0 0]) aP Z Z Z Z Z N N fun w23 H=>U<|Zt ?_
 exact eS (cs0:= #[J (5),J (0),.slice none 0 0]) Z aM Z (H.ent (i:=1) Z) Z ⟨⟨ps,some ⟨gP,0,none⟩,pC,co,clo,chi,gr,glo,ghi,sns,snA,snC⟩,by rw[hout h30];exact oJ.plain _ _ _,by rw[hout h30];rfl,Bw.shut (X:=[(b7,_),(b4,_),(b3,_)]) row hsn hown hco hgr hps (fun _ h=>h) H Z⟩
theorem JN (b:Bk) (a:Act):xW b.a a=({b.a with co:=(je b.co.a a.n).1,gr:=pN b.gr.a a.n b.ps.length},⟨0,(je b.co.a a.n).1.clock,[]⟩):=by
 unfold xW
 rw[show b.a.ps.length=b.ps.length by show(b.ps.map _).length=_;rw[bI]]
 rfl
theorem JL {w0 w:World} {bb:Nat} {b:Bk} {gP:Nat} {uP:Array Value} {Ls Lo K:List (Nat×Obj)} {F:List cz} (a:Act) (B:Bw w0 w bb b gP uP Ls Lo K F) {k np:Nat} {wt:Int} (hcb:oI k b.co) (hk:k<=1000) (hn:0<=a.n/\a.n<=1000) (hgi:qQ (fun _=>True) wt np k b.gr) (hp4:b.ps.length<=4):dg ab oe [.pointer (Qd bb),a.v] w fun v w2=> ∃ b':Bk,oJ (xW b.a a).2 v w2/\b'.a=(xW b.a a).1/\xb w0 w2 bb b' K F:=by
 refine aF tb Z Z ?_
 have hsp:=JN b a
 obtain⟨ps,pA,pC,co,clo,chi,gr,glo,ghi,sns,snA,snC⟩:=b
 obtain⟨hpA,row,hsn,hown,hco,hgr,hps,H⟩:=B
 dsimp only at hpA row hsn hown hco hgr hps
 subst hpA
 replace H:Hp w0 w ((bb,.cells #[.slice (Qd gP) ps.length pC,J (co.clock),J (co.next),J (co.wait),.slice co.A co.txs.length co.cap,J (gr.clock),J (gr.wait),J (gr.gen),.slice gr.mA gr.ms.length gr.mC,.slice gr.oA gr.os.length gr.oC,.slice snA sns.length snC] bO (0,0))::(gP,.cells uP bM (0,0))::(Ls++(Lo++K))) F:=H
 dsimp only at hcb hgi hp4 hsp
 have h2z:(je co.a a.n).2=0:=by unfold je;rw[if_neg I]
 show CW _ _ _ _ (args [.pointer (Qd bb),.agg #[J (a.kind),.string (a.name),J (a.part),J (a.n),J (a.m),.string (a.text),J (a.lost)]]) w
 refine W<|Zr<|fW H Z Z fun w1 b3 H=>eI H dp Z fun w2 b4 H=>U<|W ?_
 refine eG (τ:=Co×Nat×Nat×Nat) [5,6,8,9,10,11,12,13,14,15,16,17,18] (fun(_,b5,_,_)=>[(5,.pointer (Qd b5)),(6,J (je co.a a.n).2)]) (fun(c3,b5,lo,hi) w'=>c3.a=(je co.a a.n).1/\Hp w0 w' ((b5,.cells #[J (c3.clock),J (c3.next),J (c3.wait),.slice c3.A c3.txs.length c3.cap] bk (0,0))::(b4,.cells #[J (0),J (0),.slice none 0 0] eg (0,0))::(b3,.cells #[J (a.kind),.string (a.name),J (a.part),J (a.n),J (a.m),.string (a.text),J (a.lost)] gd (0,0))::(bb,.cells #[.slice (Qd gP) ps.length pC,J (co.clock),J (co.next),J (co.wait),.slice co.A co.txs.length co.cap,J (gr.clock),J (gr.wait),J (gr.gen),.slice gr.mA gr.ms.length gr.mC,.slice gr.oA gr.os.length gr.oC,.slice snA sns.length snC] bO (0,0))::(gP,.cells uP bM (0,0))::(Ls++(Lo++K))) (xa w0 lo hi c3::F)) ?_ ?_
 refine ou ci 11 7 [7,8,9,10,12,13] [11] [0,1,2,3,5] [11,12,13] [7] [0,1,2,3,5,8,9,10] (sp [(11,Sp.blk w2.heap.size (.agg #[J 0,J 0,J 0,.slice none 0 0]) bk)]) (sp [(7,Sp.deep w2.heap.size LL (fun c:Co=>c.c.toArray) (fun cs=> .tuple #[.agg cs,J (je co.a a.n).2]) (fun cq:Co=>cq.a=(je co.a a.n).1))]) N N N N (cJ _) (cJ _) ?_ ?_
 refine jz [0,1,2,3,4,5,6,11] [7,8,9,10,12,13] [11] [0,1,2,3,5] 5 (sp [(11,Sp.blk w2.heap.size (.agg #[J 0,J 0,J 0,.slice none 0 0]) bk)]) N N N Nq<|aw Z Z Z Z Z (fun w' hw'=>Yp Z)<|aw Z Z Z Z Z (fun w' hw'=>aG Z)<|aw Z Z Z Z Z (fun w' hw'=>Zf aV Z)<|aw Z Z Z Z Z (fun w' hw'=>Zf er Z)<|aw Z Z Z Z Z (fun w' hw'=>jl 1 [J (co.clock),J (co.next),J (co.wait),.slice co.A co.txs.length co.cap] aq Z Z ((H.later hw').ent (i:=2) Z) Z)<|aw Z Z Z Z Z (fun w' hw'=>Zf eT Z)<|aw Z Z Z Z Z (fun w' hw'=>aX ak Z (aD ((H.later hw').ent (i:=1) Z) Z))<|wW cM Z Z Z Z Z (fun w' hw'=>hw'.size) fun b5=>aQ ?_
 intro w3 hw' hF
 obtain⟨hF,bq,eq,hge5,hbl5⟩:=hF;cases eq
 replace H:=H.adoptNew hw' hbl5 hge5
 clear hw' hF
 refine bu 7 N Z<|ch vh (B5 co a.n k _ (Hp.coM H hco) hcb hk hn.1) Z Z ?_
 rintro _ w4 ⟨c3,rfl,hac3,hnc3⟩;replace H:=H.learn hnc3.2 (xa w0 w3.heap.size w4.heap.size c3) ⟨H.size,hnc3.1⟩ (ao _) (ao _);clear hnc3
 refine U<|bC 8 N N N Z Z Z Z Nq (fun _=>Yu Z)<|bC 9 N N N Z Z Z Z Nq (fun _=>Xa Z Z)<|bC 10 N N N Z Z Z Z Nq (fun _=>Xi Z Z)<|bu 12 N Z<|bg H 0 (#[J (c3.clock),J (c3.next),J (c3.wait),.slice c3.A c3.txs.length c3.cap]) aA Z Z Z Z Z N N fun w5 H=>U<|bC 13 N N N Z Z Z Z Nq (fun _=>Wi Z)<|aZ N ?_
 exact⟨(c3,b5,_,_),⟨hac3,H⟩,la Z Z,Qg⟩
 refine jz [0,1,2,3,4,5,6,7,8,9,10] [11,12,13] [7] [0,1,2,3,5,8,9,10] 2 (sp [(7,Sp.deep w2.heap.size LL (fun c:Co=>c.c.toArray) (fun cs=> .tuple #[.agg cs,J (je co.a a.n).2]) (fun cq:Co=>cq.a=(je co.a a.n).1))]) N N N Nq<|aw Z Z Z Z Z (fun w' hw'=>Yp Z)<|aw Z Z Z Z Z (fun w' hw'=>aG Z)<|aw Z Z Z Z Z (fun w' hw'=>Zf aV Z)<|aw Z Z Z Z Z (fun w' hw'=>Zf er Z)<|aw Z Z Z Z Z (fun w' hw'=>jl 1 [J (co.clock),J (co.next),J (co.wait),.slice co.A co.txs.length co.cap] aq Z Z ((H.later hw').ent (i:=2) Z) Z)<|aw Z Z Z Z Z (fun w' hw'=>Zf eT Z)<|aw Z Z Z Z Z (fun w' hw'=>aX ak Z (aD ((H.later hw').ent (i:=1) Z) Z))<|sL (gv:=(fun cs=> .tuple #[.agg cs,J (je co.a a.n).2])) vh Z Z Z Z Z (fun w' hw'=>hw'.size) (fun w' hw'=>B5 co a.n k w' (Hp.coM (H.later hw') hco) hcb hk hn.1) Z fun cs16=>aw Z Z Z Z Z (fun w' hw'=>Yu Z)<|aw Z Z Z Z Z (fun w' hw'=>Xa Z Z)<|aw Z Z Z Z Z (fun w' hw'=>Xi Z Z)<|aQ ?_
 intro w6 hw' hF
 obtain⟨hF,c3,eq,hac3,hrd16⟩:=hF;cases eq
 replace H:=H.learn hw' (xa w0 w2.heap.size w6.heap.size c3) ⟨H.size,hrd16⟩ (ao _) (ao _)
 clear hw' hF
 refine bu 11 N Z<|eI H cM Z fun w7 b5 H=>U<|bu 12 N Z<|bg H 0 (#[J (c3.clock),J (c3.next),J (c3.wait),.slice c3.A c3.txs.length c3.cap]) aA Z Z Z Z Z N N fun w8 H=>U<|bC 13 N N N Z Z Z Z Nq (fun _=>Wi Z)<|aZ N ?_
 exact⟨(c3,b5,_,_),⟨hac3,H⟩,la Z Z,Qg⟩
 rintro⟨c3,b5,lo,hi⟩ ρ1 w9 ⟨hac3,H⟩
 show CW _ _ _ _ (dH (gJ _ _ ρ1) [(5,.pointer (Qd b5)),(6,J (je co.a a.n).2)]) w9
 refine W<|W<|Zr<|G (Yi Z)<|G (ce Z Z I)<|U<|ZF Z<|Zk<|W ?_
 refine eG (τ:=Gr×Nat×Nat×Nat) [6,7,23,24,25,26,27,28,29,30,31,32,33,34,35,36,37,38,39] (fun(_,b7,_,_)=>[(7,.pointer (Qd b7)),(6,J 0)]) (fun(g3,b7,lo2,hi2) w'=>g3.a=((pN gr.a a.n ps.length,(0:Int))).1/\Hp w0 w' ((b7,.cells #[J (g3.clock),J (g3.wait),J (g3.gen),.slice g3.mA g3.ms.length g3.mC,.slice g3.oA g3.os.length g3.oC] cO (0,0))::(b5,.cells #[J (c3.clock),J (c3.next),J (c3.wait),.slice c3.A c3.txs.length c3.cap] bk (0,0))::(b4,.cells #[J (0),J (0),.slice none 0 0] eg (0,0))::(b3,.cells #[J (a.kind),.string (a.name),J (a.part),J (a.n),J (a.m),.string (a.text),J (a.lost)] gd (0,0))::(bb,.cells #[.slice (Qd gP) ps.length pC,J (co.clock),J (co.next),J (co.wait),.slice co.A co.txs.length co.cap,J (gr.clock),J (gr.wait),J (gr.gen),.slice gr.mA gr.ms.length gr.mC,.slice gr.oA gr.os.length gr.oC,.slice snA sns.length snC] bO (0,0))::(gP,.cells uP bM (0,0))::(Ls++(Lo++K))) (Jv w0 lo2 hi2 g3::xa w0 lo hi c3::F)) ?_ ?_
 refine ou ci 17 13 [13,14,15,16,18,19] [17] [0,1,2,3,5,7,8,9,10,12] [17,18,19] [13] [0,1,2,3,5,7,8,9,10,12,14,15,16] (sp [(17,Sp.blk w9.heap.size (.agg #[J 0,J 0,J 0,.slice none 0 0,.slice none 0 0]) cO)]) (sp [(13,Sp.deep w9.heap.size Pb (fun g:Gr=>g.c.toArray) (fun cs=> .tuple #[.agg cs,J ((pN gr.a a.n ps.length,(0:Int))).2]) (fun cq:Gr=>cq.a=((pN gr.a a.n ps.length,(0:Int))).1))]) N N N N (cJ _) (cJ _) ?_ ?_
 refine jz [0,1,2,3,4,5,6,7,8,9,10,11,12,17] [13,14,15,16,18,19] [17] [0,1,2,3,5,7,8,9,10,12] 5 (sp [(17,Sp.blk w9.heap.size (.agg #[J 0,J 0,J 0,.slice none 0 0,.slice none 0 0]) cO)]) N N N Nq<|aw Z Z Z Z Z (fun w' hw'=>Yp Z)<|aw Z Z Z Z Z (fun w' hw'=>aG Z)<|aw Z Z Z Z Z (fun w' hw'=>Zf aV Z)<|aw Z Z Z Z Z (fun w' hw'=>Zf i5 Z)<|aw Z Z Z Z Z (fun w' hw'=>jl 5 [J (gr.clock),J (gr.wait),J (gr.gen),.slice gr.mA gr.ms.length gr.mC,.slice gr.oA gr.os.length gr.oC] aN Z Z ((H.later hw').ent (i:=3) Z) Z)<|aw Z Z Z Z Z (fun w' hw'=>Zf eT Z)<|aw Z Z Z Z Z (fun w' hw'=>aX ak Z (aD ((H.later hw').ent (i:=2) Z) Z))<|aw Z Z Z Z Z (fun w' hw'=>Yp Z)<|aw Z Z Z Z Z (fun w' hw'=>aG Z)<|aw Z Z Z Z Z (fun w' hw'=>Zf aV Z)<|aw Z Z Z Z Z (fun w' hw'=>Zf dx Z)<|aw Z Z Z Z Z (fun w' hw'=>aX d3 Z (aD ((H.later hw').ent (i:=3) Z) Z))<|aw Z Z Z Z Z (fun w' hw'=>br jK Z)<|wW d9 Z Z Z Z Z (fun w' hw'=>hw'.size) fun b7=>aQ ?_
 intro w10 hw' hF
 obtain⟨hF,bq,eq,hge7,hbl7⟩:=hF;cases eq
 replace H:=H.adoptNew hw' hbl7 hge7
 clear hw' hF
 refine bu 13 N Z<|ch vg (Fe gr a.n ps.length _ (Hp.grM H (al _ hgr)) hgi.ok hp4 (by have:=hgi.gen;omega) hn.1 hn.2 (by have:=hgi.clock;omega)) Z Z ?_
 rintro _ w11 ⟨g3,rfl,hag3,hng3⟩;replace H:=H.learn hng3.2 (Jv w0 w10.heap.size w11.heap.size g3) ⟨H.size,hng3.1⟩ (ao _) (ao _);clear hng3
 refine U<|bC 14 N N N Z Z Z Z Nq (fun _=>Yu Z)<|bC 15 N N N Z Z Z Z Nq (fun _=>Xa Z Z)<|bC 16 N N N Z Z Z Z Nq (fun _=>Xi Z Z)<|bu 18 N Z<|bg H 0 (#[J (g3.clock),J (g3.wait),J (g3.gen),.slice g3.mA g3.ms.length g3.mC,.slice g3.oA g3.os.length g3.oC]) bF Z Z Z Z Z N N fun w12 H=>U<|bC 19 N N N Z Z Z Z Nq (fun _=>Wi Z)<|aZ N ?_
 exact⟨(g3,b7,_,_),⟨hag3,H⟩,la Z Z,Qg⟩
 refine jz [0,1,2,3,4,5,6,7,8,9,10,11,12,13,14,15,16] [17,18,19] [13] [0,1,2,3,5,7,8,9,10,12,14,15,16] 2 (sp [(13,Sp.deep w9.heap.size Pb (fun g:Gr=>g.c.toArray) (fun cs=> .tuple #[.agg cs,J ((pN gr.a a.n ps.length,(0:Int))).2]) (fun cq:Gr=>cq.a=((pN gr.a a.n ps.length,(0:Int))).1))]) N N N Nq<|aw Z Z Z Z Z (fun w' hw'=>Yp Z)<|aw Z Z Z Z Z (fun w' hw'=>aG Z)<|aw Z Z Z Z Z (fun w' hw'=>Zf aV Z)<|aw Z Z Z Z Z (fun w' hw'=>Zf i5 Z)<|aw Z Z Z Z Z (fun w' hw'=>jl 5 [J (gr.clock),J (gr.wait),J (gr.gen),.slice gr.mA gr.ms.length gr.mC,.slice gr.oA gr.os.length gr.oC] aN Z Z ((H.later hw').ent (i:=3) Z) Z)<|aw Z Z Z Z Z (fun w' hw'=>Zf eT Z)<|aw Z Z Z Z Z (fun w' hw'=>aX ak Z (aD ((H.later hw').ent (i:=2) Z) Z))<|aw Z Z Z Z Z (fun w' hw'=>Yp Z)<|aw Z Z Z Z Z (fun w' hw'=>aG Z)<|aw Z Z Z Z Z (fun w' hw'=>Zf aV Z)<|aw Z Z Z Z Z (fun w' hw'=>Zf dx Z)<|aw Z Z Z Z Z (fun w' hw'=>aX d3 Z (aD ((H.later hw').ent (i:=3) Z) Z))<|aw Z Z Z Z Z (fun w' hw'=>br jK Z)<|sL (gv:=(fun cs=> .tuple #[.agg cs,J ((pN gr.a a.n ps.length,(0:Int))).2])) vg Z Z Z Z Z (fun w' hw'=>hw'.size) (fun w' hw'=>Fe gr a.n ps.length w' (Hp.grM (H.later hw') (al _ hgr)) hgi.ok hp4 (by have:=hgi.gen;omega) hn.1 hn.2 (by have:=hgi.clock;omega)) Z fun cs37=>aw Z Z Z Z Z (fun w' hw'=>Yu Z)<|aw Z Z Z Z Z (fun w' hw'=>Xa Z Z)<|aw Z Z Z Z Z (fun w' hw'=>Xi Z Z)<|aQ ?_
 intro w13 hw' hF
 obtain⟨hF,g3,eq,hag3,hrd37⟩:=hF;cases eq
 replace H:=H.learn hw' (Jv w0 w9.heap.size w13.heap.size g3) ⟨H.size,hrd37⟩ (ao _) (ao _)
 clear hw' hF
 refine bu 17 N Z<|eI H d9 Z fun w14 b7 H=>U<|bu 18 N Z<|bg H 0 (#[J (g3.clock),J (g3.wait),J (g3.gen),.slice g3.mA g3.ms.length g3.mC,.slice g3.oA g3.os.length g3.oC]) bF Z Z Z Z Z N N fun w15 H=>U<|bC 19 N N N Z Z Z Z Nq (fun _=>Wi Z)<|aZ N ?_
 exact⟨(g3,b7,_,_),⟨hag3,H⟩,la Z Z,Qg⟩
 rintro⟨g3,b7,lo2,hi2⟩ ρ1 w16 ⟨hag3,H⟩
 show CW _ _ _ _ (dH (gJ _ _ ρ1) [(7,.pointer (Qd b7)),(6,J 0)]) w16
 refine W<|W<|Zr<|G (Yi Z)<|G (ce Z Z (by decide))<|U<|ZF Z<|Zk<|W ?_
 refine wL ci (fun w'=>w'.heap[b5]? =some (.cells #[J (c3.clock),J (c3.next),J (c3.wait),.slice c3.A c3.txs.length c3.cap] bk (0,0))/\w'.heap[b7]? =some (.cells #[J (g3.clock),J (g3.wait),J (g3.gen),.slice g3.mA g3.ms.length g3.mC,.slice g3.oA g3.os.length g3.oC] cO (0,0))) ?_
 intro w17 hw';replace H:=H.later hw';clear hw'
 refine cE 0 N N N Z Z Z Z Nq ⟨H.ent (i:=1) Z,H.ent (i:=0) Z⟩ (fun _ hS=>Yp Z)<|cE 1 N N N Z Z Z Z Nq ⟨H.ent (i:=1) Z,H.ent (i:=0) Z⟩ (fun _ hS=>Yp Z)<|cE 2 N N N Z Z Z Z Nq ⟨H.ent (i:=1) Z,H.ent (i:=0) Z⟩ (fun _ hS=>jW aq Z hS.1 Z)<|cE 3 N N N Z Z Z Z Nq ⟨H.ent (i:=1) Z,H.ent (i:=0) Z⟩ (fun _ hS=>jW aN Z hS.2 Z)<|cE 4 N N N Z Z Z Z Nq ⟨H.ent (i:=1) Z,H.ent (i:=0) Z⟩ (fun _ hS=>aG Z)<|cE 5 N N N Z Z Z Z Nq ⟨H.ent (i:=1) Z,H.ent (i:=0) Z⟩ (fun _ hS=>Zf aV Z)<|cE 6 N N N Z Z Z Z Nq ⟨H.ent (i:=1) Z,H.ent (i:=0) Z⟩ (fun _ hS=>Zf er Z)<|xf 7 N Z<|bg H 4 (#[.slice (Qd gP) ps.length pC,J (c3.clock),J (c3.next),J (c3.wait),.slice c3.A c3.txs.length c3.cap,J (gr.clock),J (gr.wait),J (gr.gen),.slice gr.mA gr.ms.length gr.mC,.slice gr.oA gr.os.length gr.oC,.slice snA sns.length snC]) aA Z Z Z Z Z N N fun w18 H=>U ?_
 refine⟨⟨H.ent (i:=1) Z,H.ent (i:=0) Z⟩,?_⟩
 refine cE 8 N N N Z Z Z Z Nq ⟨H.ent (i:=1) Z,H.ent (i:=0) Z⟩ (fun _ hS=>aG Z)<|cE 9 N N N Z Z Z Z Nq ⟨H.ent (i:=1) Z,H.ent (i:=0) Z⟩ (fun _ hS=>Zf aV Z)<|cE 10 N N N Z Z Z Z Nq ⟨H.ent (i:=1) Z,H.ent (i:=0) Z⟩ (fun _ hS=>Zf i5 Z)<|xf 11 N Z<|bg H 4 (#[.slice (Qd gP) ps.length pC,J (c3.clock),J (c3.next),J (c3.wait),.slice c3.A c3.txs.length c3.cap,J (g3.clock),J (g3.wait),J (g3.gen),.slice g3.mA g3.ms.length g3.mC,.slice g3.oA g3.os.length g3.oC,.slice snA sns.length snC]) bF Z Z Z Z Z N N fun w19 H=>U ?_
 refine⟨⟨H.ent (i:=1) Z,H.ent (i:=0) Z⟩,?_⟩
 refine pL N<|W<|Zr<|G (Zf ko Z)<|G (Zd ak H 1 Z Z Z)<|G (bn (cs:= #[J (0),J (c3.clock),.slice none 0 0]) iI dp N)<|bg H 2 (#[J (0),J (c3.clock),.slice none 0 0]) aP Z Z Z Z Z N N fun w20 H=>U<|Zt ?_
 have hck:c3.clock=(je co.a a.n).1.clock:=by rw[<-hac3];rfl
 exact eS (cs0:= #[J (0),J (c3.clock),.slice none 0 0]) Z aM Z (H.ent (i:=2) Z) Z ⟨⟨ps,some ⟨gP,0,none⟩,pC,c3,lo,hi,g3,lo2,hi2,sns,snA,snC⟩,by rw[hsp,<-hck];exact oJ.plain _ _ _,by rw[hsp,<-hac3];unfold Bk.a;rw[hag3],Bw.shut (X:=[(b7,_),(b5,_),(b4,_),(b3,_)]) row hsn hown (al _ (aC ..)) (aC ..) (fun q hq=>al _ (al _ (hps q hq))) (fun f hf=>al _ (al _ hf)) H Z⟩
theorem J6 {w:Wa} {a:Act} {p:gE} (hp:w.ps[a.part.toNat]? =some p):uV w a=if(lL p a).2.2=0 then({w with ps:=w.ps.set a.part.toNat (lL p a).1},⟨0,(lL p a).2.1,[]⟩)else l5 w (lL p a).2.2:=by
 unfold uV
 rw[hp]
theorem J5 {w0 w:World} {bb:Nat} {b:Bk} {gP:Nat} {uP:Array Value} {Ls Lo K:List (Nat×Obj)} {F:List cz} (a:Act) (B:Bw w0 w bb b gP uP Ls Lo K F) (hpn:0<=a.part/\a.part<b.ps.length) (hn:0<=a.n/\ ∀ q∈b.ps,a.n<q.p.reps.length) (hm:0<=a.m/\a.m<=1000) (hpk: ∀ q∈b.ps,q.p.a.ok):dg ab li [.pointer (Qd bb),a.v] w fun v w2=> ∃ b':Bk,oJ (uV b.a a).2 v w2/\b'.a=(uV b.a a).1/\xb w0 w2 bb b' K F:=by
 refine aF qw Z Z ?_
 obtain⟨n,hna⟩: ∃ n:Nat,a.part=(n:Int):=⟨a.part.toNat,by omega⟩
 have htn:a.part.toNat=n:=by omega
 obtain⟨r,hnr⟩: ∃ r:Nat,a.n=(r:Int):=⟨a.n.toNat,by omega⟩
 have htr:a.n.toNat=r:=by omega
 obtain⟨mm,hmm⟩: ∃ r:Nat,a.m=(r:Int):=⟨a.m.toNat,by omega⟩
 have htm:a.m.toNat=mm:=by omega
 obtain⟨q,hq⟩: ∃ q,b.ps[n]? =some q:=⟨_,ai I⟩
 have hqm:=ah hq
 have hok:=hpk q hqm
 have hr:r<q.p.reps.length:=by have:=hn.2 q hqm;omega
 have hsp:=J6 (w:=b.a) (a:=a) (p:=q.p.a) (by rw[htn];show(b.ps.map fun q=>q.p.a)[n]? =_;rw[aL,hq];rfl)
 obtain⟨z,hz⟩: ∃ z,lL q.p.a a=z:=⟨_,rfl⟩
 obtain⟨ps,pA,pC,co,clo,chi,gr,glo,ghi,sns,snA,snC⟩:=b
 obtain⟨hpA,row,hsn,hown,hco,hgr,hps,H⟩:=B
 dsimp only at hpA row hsn hown hco hgr hps
 subst hpA
 replace H:Hp w0 w ((bb,.cells #[.slice (Qd gP) ps.length pC,J (co.clock),J (co.next),J (co.wait),.slice co.A co.txs.length co.cap,J (gr.clock),J (gr.wait),J (gr.gen),.slice gr.mA gr.ms.length gr.mC,.slice gr.oA gr.os.length gr.oC,.slice snA sns.length snC] bO (0,0))::(gP,.cells uP bM (0,0))::(Ls++(Lo++K))) F:=H
 dsimp only at hpn hq hqm
 show CW _ _ _ _ (args [.pointer (Qd bb),.agg #[J (a.kind),.string (a.name),J (a.part),J (a.n),J (a.m),.string (a.text),J (a.lost)]]) w
 refine W<|Zr<|fW H Z Z fun w1 b3 H=>eI H dp Z fun w2 b4 H=>U<|W<|W<|Zr<|G (Yp Z)<|G (Zf dW Z)<|G (Zd ak H 1 Z Z Z)<|ch d5 (nZ bb ⟨ps,some ⟨gP,0,none⟩,pC,co,clo,chi,gr,glo,ghi,sns,snA,snC⟩ a.part _ (H.ent (i:=2) Z)) Z Z ?_
 rintro _ w3 ⟨rfl,hb⟩;replace H:=H.later hb;clear hb
 rw[decide_eq_true hpn]
 refine G (dR Z)<|U<|ZF Z<|Zk<|W ?_
 refine bD ci [0,1,2,3,4,5,6,7,8,9] [10] [9] [0,1,2,3,5,7] (sp [(9,Sp.blk w3.heap.size (.agg #[J 0,J 0,.slice none 0 0,.slice none 0 0,.slice none 0 0,J 0,J 0]) bM)]) N N N N Nq (cJ _) ?_
 refine aw Z Z Z Z Z (fun w' hw'=>Yp Z)<|aw Z Z Z Z Z (fun w' hw'=>aG Z)<|aw Z Z Z Z Z (fun w' hw'=>Zf aV Z)<|aw Z Z Z Z Z (fun w' hw'=>Zf dx Z)<|aw Z Z Z Z Z (fun w' hw'=>aX d3 Z (aD ((H.later hw').ent (i:=2) Z) Z))<|aw Z Z Z Z Z (fun w' hw'=>Zf dW Z)<|aw Z Z Z Z Z (fun w' hw'=>aX ak Z (aD ((H.later hw').ent (i:=1) Z) Z))<|aw Z Z Z Z Z (fun w' hw'=>bV (k:=n) gV Z (congrArg (Value.int .i64) hna) (by first|omega|(simp only[aa];omega)))<|aw Z Z Z Z Z (fun w' hw'=>oM aH row hq Z Z ((H.later hw').ent (i:=3) Z))<|wW bv Z Z Z Z Z (fun w' hw'=>hw'.size) fun b5=>aQ ?_
 intro w4 hw' hF
 obtain⟨hF,bq,eq,hge5,hbl5⟩:=hF;cases eq
 have Hb:=H
 replace H:=H.adoptNew hw' hbl5 hge5
 clear hw' hF
 refine bg H 0 (#[J (q.p.epoch),J (q.p.leader),.slice q.p.iA q.p.isr.length q.p.iC,.slice q.p.kA q.p.known.length q.p.kC,.slice q.p.rA q.p.reps.length q.p.rC,J (q.p.few),J (q.p.base)]) aK Z Z Z Z Z N N fun w5 H=>U<|W<|Zr<|G (Wi Z)<|U<|W<|Zr<|G (Wi Z)<|U<|W<|W<|Zr<|G (Zf mD Z)<|G (Zd ak H 2 Z Z Z)<|U ?_
 refine eG (τ:=Pa×Nat×Nat) [6,7,25,26,27,28,29,30,31,32,33,34,35,36,37,38,39,40,41,42,43,44,45,46,47,48,49,50,51,52,53,54,55,56,57,58,59,60,61,62,63,64,65,66,67,68,69,70,71,72,73,74,75,76,77,78,79,80,81,82,83,84,85,86,87,88,89,90,91,92,93,94,95,96,97] (fun _=>[(6,J z.2.1),(7,J z.2.2)]) (fun(p2,lo,hi) w'=>p2.a=z.1/\Hp w0 w' ((b5,.cells #[J (p2.epoch),J (p2.leader),.slice p2.iA p2.isr.length p2.iC,.slice p2.kA p2.known.length p2.kC,.slice p2.rA p2.reps.length p2.rC,J (p2.few),J (p2.base)] bM (0,0))::(b4,.cells #[J (0),J (0),.slice none 0 0] eg (0,0))::(b3,.cells #[J (a.kind),.string (a.name),J (a.part),J (a.n),J (a.m),.string (a.text),J (a.lost)] gd (0,0))::(bb,.cells #[.slice (Qd gP) ps.length pC,J (co.clock),J (co.next),J (co.wait),.slice co.A co.txs.length co.cap,J (gr.clock),J (gr.wait),J (gr.gen),.slice gr.mA gr.ms.length gr.mC,.slice gr.oA gr.os.length gr.oC,.slice snA sns.length snC] bO (0,0))::(gP,.cells uP bM (0,0))::(Ls++(Lo++K))) (tf w0 lo hi p2::F)) ?_ ?_
 refine Zb<|W<|Zr ?_
 refine cW (bp Z Z) Z Z Z (fun h33=> ?_) (fun h33=> ?_)
 refine G (Wb Z)<|U<|ZT Z<|Zr<|G (Zw aH H 0 Z Z Z)<|G (Zf eT Z)<|G (Zd ak H 2 Z Z Z)<|ch BN ((by have hA:=IB q.p r _ (Hp.paM H (hps q hqm)) hok hr;rw[<-hnr]at hA;exact hA)) Z Z ?_
 rintro _ w6 ⟨p2,rfl,hap2,hnp2⟩;replace H:=H.learn hnp2.2 (tf w0 w5.heap.size w6.heap.size p2) ⟨H.size,hnp2.1⟩ (ao _) (ao _);clear hnp2
 refine G (Yu Z)<|G (Xa Z Z)<|G (Xi Z Z)<|G (Xi Z Z)<|bg H 0 (#[J (p2.epoch),J (p2.leader),.slice p2.iA p2.isr.length p2.iC,.slice p2.kA p2.known.length p2.kC,.slice p2.rA p2.reps.length p2.rC,J (p2.few),J (p2.base)]) aK Z Z Z Z Z N N fun w7 H=>G (Wi Z)<|G (Wi Z)<|U ?_
 obtain rfl:z=i4 q.p.a r:=by rw[<-hz];unfold lL;rw[if_pos h33,htr]
 exact⟨(p2,_,_),⟨hap2,H⟩,la Z Z,Qg⟩
 refine G (Wb Z)<|U<|ZF Z<|W<|Zr ?_
 refine cW (bp Z Z) Z Z Z (fun h43=> ?_) (fun h43=> ?_)
 refine G (Wb Z)<|U<|ZT Z<|Zr<|G (Zw aH H 0 Z Z Z)<|G (Zf eT Z)<|G (Zd ak H 2 Z Z Z)<|ch DV ((by have hA:=Kg q.p r _ (Hp.paM H (hps q hqm)) hok hr;rw[<-hnr]at hA;exact hA)) Z Z ?_
 rintro _ w8 ⟨p2,rfl,hap2,hnp2⟩;replace H:=H.learn hnp2.2 (tf w0 w5.heap.size w8.heap.size p2) ⟨H.size,hnp2.1⟩ (ao _) (ao _);clear hnp2
 refine G (Yu Z)<|G (Xa Z Z)<|G (Xi Z Z)<|bg H 0 (#[J (p2.epoch),J (p2.leader),.slice p2.iA p2.isr.length p2.iC,.slice p2.kA p2.known.length p2.kC,.slice p2.rA p2.reps.length p2.rC,J (p2.few),J (p2.base)]) aK Z Z Z Z Z N N fun w9 H=>G (Wi Z)<|U ?_
 obtain rfl:z=((nU q.p.a r).1,0,(nU q.p.a r).2):=by rw[<-hz];unfold lL;rw[if_neg h33,if_pos h43,htr]
 exact⟨(p2,_,_),⟨hap2,H⟩,la Z Z,Qg⟩
 refine G (Wb Z)<|U<|ZF Z<|W<|Zr ?_
 refine cW (bp Z Z) Z Z Z (fun h52=> ?_) (fun h52=> ?_)
 refine G (Wb Z)<|U<|ZT Z<|Zr<|G (Zw aH H 0 Z Z Z)<|G (Zf eT Z)<|G (Zd ak H 2 Z Z Z)<|G (Zf Ft Z)<|G (Zd ak H 2 Z Z Z)<|ch BP ((by have hA:=ID q.p r mm _ (Hp.paM H (hps q hqm)) hok hr I;rw[<-hnr,<-hmm]at hA;exact hA)) Z Z ?_
 rintro _ w10 ⟨p2,rfl,hap2,hnp2⟩;replace H:=H.learn hnp2.2 (tf w0 w5.heap.size w10.heap.size p2) ⟨H.size,hnp2.1⟩ (ao _) (ao _);clear hnp2
 refine G (Yu Z)<|G (Xa Z Z)<|G (Xi Z Z)<|bg H 0 (#[J (p2.epoch),J (p2.leader),.slice p2.iA p2.isr.length p2.iC,.slice p2.kA p2.known.length p2.kC,.slice p2.rA p2.reps.length p2.rC,J (p2.few),J (p2.base)]) aK Z Z Z Z Z N N fun w11 H=>G (Wi Z)<|U ?_
 obtain rfl:z=((ks q.p.a r mm).1,0,(ks q.p.a r mm).2):=by rw[<-hz];unfold lL;rw[if_neg h33,if_neg h43,if_pos h52,htr,htm]
 exact⟨(p2,_,_),⟨hap2,H⟩,la Z Z,Qg⟩
 refine G (Wb Z)<|U<|ZF Z<|W<|Zr ?_
 refine cW (bp Z Z) Z Z Z (fun h63=> ?_) (fun h63=> ?_)
 refine G (Wb Z)<|U<|ZT Z<|Zr<|G (Zw aH H 0 Z Z Z)<|G (Zf eT Z)<|G (Zd ak H 2 Z Z Z)<|ch DW ((by have hA:=Kh q.p r _ (Hp.paM H (hps q hqm)) hok hr;rw[<-hnr]at hA;exact hA)) Z Z ?_
 rintro _ w12 ⟨p2,rfl,hap2,hnp2⟩;replace H:=H.learn hnp2.2 (tf w0 w5.heap.size w12.heap.size p2) ⟨H.size,hnp2.1⟩ (ao _) (ao _);clear hnp2
 refine G (Yu Z)<|G (Xa Z Z)<|G (Xi Z Z)<|bg H 0 (#[J (p2.epoch),J (p2.leader),.slice p2.iA p2.isr.length p2.iC,.slice p2.kA p2.known.length p2.kC,.slice p2.rA p2.reps.length p2.rC,J (p2.few),J (p2.base)]) aK Z Z Z Z Z N N fun w13 H=>G (Wi Z)<|U ?_
 obtain rfl:z=((pO q.p.a r).1,0,(pO q.p.a r).2):=by rw[<-hz];unfold lL;rw[if_neg h33,if_neg h43,if_neg h52,if_pos h63,htr]
 exact⟨(p2,_,_),⟨hap2,H⟩,la Z Z,Qg⟩
 refine G (Wb Z)<|U<|ZF Z<|W<|Zr ?_
 refine cW (bp Z Z) Z Z Z (fun h72=> ?_) (fun h72=> ?_)
 refine G (Wb Z)<|U<|ZT Z<|Zr<|G (Zw aH H 0 Z Z Z)<|G (Zf eT Z)<|G (Zd ak H 2 Z Z Z)<|ch DU ((by have hA:=Ke q.p r _ (Hp.paM H (hps q hqm)) hok hr;rw[<-hnr]at hA;exact hA)) Z Z ?_
 rintro _ w14 ⟨p2,rfl,hap2,hnp2⟩;replace H:=H.learn hnp2.2 (tf w0 w5.heap.size w14.heap.size p2) ⟨H.size,hnp2.1⟩ (ao _) (ao _);clear hnp2
 refine G (Yu Z)<|G (Xa Z Z)<|G (Xi Z Z)<|bg H 0 (#[J (p2.epoch),J (p2.leader),.slice p2.iA p2.isr.length p2.iC,.slice p2.kA p2.known.length p2.kC,.slice p2.rA p2.reps.length p2.rC,J (p2.few),J (p2.base)]) aK Z Z Z Z Z N N fun w15 H=>G (Wi Z)<|U ?_
 obtain rfl:z=((nS q.p.a r).1,0,(nS q.p.a r).2):=by rw[<-hz];unfold lL;rw[if_neg h33,if_neg h43,if_neg h52,if_neg h63,if_pos h72,htr]
 exact⟨(p2,_,_),⟨hap2,H⟩,la Z Z,Qg⟩
 refine G (Wb Z)<|U<|ZF Z<|W<|Zr ?_
 refine cW (bp Z Z) Z Z Z (fun h81=> ?_) (fun h81=> ?_)
 refine G (Wb Z)<|U<|ZT Z<|Zr<|G (Zw aH H 0 Z Z Z)<|G (Zf eT Z)<|G (Zd ak H 2 Z Z Z)<|ch BO ((by have hA:=IC q.p r _ (Hp.paM H (hps q hqm)) hok hr;rw[<-hnr]at hA;exact hA)) Z Z ?_
 rintro _ w16 ⟨p2,rfl,hap2,hnp2⟩;replace H:=H.learn hnp2.2 (tf w0 w5.heap.size w16.heap.size p2) ⟨H.size,hnp2.1⟩ (ao _) (ao _);clear hnp2
 refine G (Yu Z)<|G (Xa Z Z)<|G (Xi Z Z)<|bg H 0 (#[J (p2.epoch),J (p2.leader),.slice p2.iA p2.isr.length p2.iC,.slice p2.kA p2.known.length p2.kC,.slice p2.rA p2.reps.length p2.rC,J (p2.few),J (p2.base)]) aK Z Z Z Z Z N N fun w17 H=>G (Wi Z)<|U ?_
 obtain rfl:z=((i7 q.p.a r).1,0,(i7 q.p.a r).2):=by rw[<-hz];unfold lL;rw[if_neg h33,if_neg h43,if_neg h52,if_neg h63,if_neg h72,if_pos h81,htr]
 exact⟨(p2,_,_),⟨hap2,H⟩,la Z Z,Qg⟩
 refine G (Wb Z)<|U<|ZF Z<|W<|Zr ?_
 refine cW (bp Z Z) Z Z Z (fun h90=> ?_) (fun h90=> ?_)
 refine G (Wb Z)<|U<|ZT Z<|Zr<|G (Zw aH H 0 Z Z Z)<|G (Zf eT Z)<|G (Zd ak H 2 Z Z Z)<|ch AH ((by have hA:=Gi q.p r _ (Hp.paM H (hps q hqm)) hok hr;rw[<-hnr]at hA;exact hA)) Z Z ?_
 rintro _ w18 ⟨p2,rfl,hap2,hnp2⟩;replace H:=H.learn hnp2.2 (tf w0 w5.heap.size w18.heap.size p2) ⟨H.size,hnp2.1⟩ (ao _) (ao _);clear hnp2
 refine G (Yu Z)<|G (Xa Z Z)<|G (Xi Z Z)<|bg H 0 (#[J (p2.epoch),J (p2.leader),.slice p2.iA p2.isr.length p2.iC,.slice p2.kA p2.known.length p2.kC,.slice p2.rA p2.reps.length p2.rC,J (p2.few),J (p2.base)]) aK Z Z Z Z Z N N fun w19 H=>G (Wi Z)<|U ?_
 obtain rfl:z=((g7 q.p.a r).1,0,(g7 q.p.a r).2):=by rw[<-hz];unfold lL;rw[if_neg h33,if_neg h43,if_neg h52,if_neg h63,if_neg h72,if_neg h81,if_pos h90,htr]
 exact⟨(p2,_,_),⟨hap2,H⟩,la Z Z,Qg⟩
 refine G (Wb Z)<|U<|ZF Z<|Zr<|G (Zw aH H 0 Z Z Z)<|G (Zf eT Z)<|G (Zd ak H 2 Z Z Z)<|ch AI ((by have hA:=Gk q.p r _ (Hp.paM H (hps q hqm)) hok hr;rw[<-hnr]at hA;exact hA)) Z Z ?_
 rintro _ w20 ⟨p2,rfl,hap2,hnp2⟩;replace H:=H.learn hnp2.2 (tf w0 w5.heap.size w20.heap.size p2) ⟨H.size,hnp2.1⟩ (ao _) (ao _);clear hnp2
 refine G (Yu Z)<|G (Xa Z Z)<|G (Xi Z Z)<|bg H 0 (#[J (p2.epoch),J (p2.leader),.slice p2.iA p2.isr.length p2.iC,.slice p2.kA p2.known.length p2.kC,.slice p2.rA p2.reps.length p2.rC,J (p2.few),J (p2.base)]) aK Z Z Z Z Z N N fun w21 H=>G (Wi Z)<|U ?_
 obtain rfl:z=((fM q.p.a r).1,0,(fM q.p.a r).2):=by rw[<-hz];unfold lL;rw[if_neg h33,if_neg h43,if_neg h52,if_neg h63,if_neg h72,if_neg h81,if_neg h90,htr]
 exact⟨(p2,_,_),⟨hap2,H⟩,la Z Z,Qg⟩
 rintro⟨p2,lo,hi⟩ ρ1 w22 ⟨hap2,H⟩
 show CW _ _ _ _ (dH (gJ _ _ ρ1) [(6,J z.2.1),(7,J z.2.2)]) w22
 refine W<|W<|Zr<|G (Yi Z) ?_
 refine qV (ja Z Z) Z Z Z (fun h99=> ?_) (fun h99=> ?_)
 refine U<|ZT Z<|W<|Zr<|G (Yi Z)<|ch bR (dU z.2.2 _) Z Z ?_
 rintro _ w23 ⟨rfl,hb⟩;replace H:=H.later hb;clear hb
 refine bg H 1 (#[J (z.2.2),J (0),.slice none 0 0]) aP Z Z Z Z Z N N fun w24 H=>U<|Zt ?_
 exact eS (cs0:= #[J (z.2.2),J (0),.slice none 0 0]) Z aM Z (H.ent (i:=1) Z) Z ⟨⟨ps,some ⟨gP,0,none⟩,pC,co,clo,chi,gr,glo,ghi,sns,snA,snC⟩,by rw[hsp,hz,if_neg h99];exact oJ.plain _ _ _,by rw[hsp,hz,if_neg h99];rfl,Bw.shut (X:=[(b5,_),(b4,_),(b3,_)]) row hsn hown (al _ hco) (al _ hgr) (fun q hq=>al _ (hps q hq)) (fun f hf=>al _ hf) H Z⟩
 refine U<|ZF Z<|Zk<|W ?_
 refine bD ci [0,1,2,3,4,5,6,7,8] [9] [] [0,1,2,3,5,8] (sp []) N N N N Nq (cJ _) ?_
 refine aw Z Z Z Z Z (fun w' hw'=>Yp Z)<|aw Z Z Z Z Z (fun w' hw'=>aG Z)<|aw Z Z Z Z Z (fun w' hw'=>Zf aV Z)<|aw Z Z Z Z Z (fun w' hw'=>Zf dx Z)<|aw Z Z Z Z Z (fun w' hw'=>aX d3 Z (aD ((H.later hw').ent (i:=3) Z) Z))<|aw Z Z Z Z Z (fun w' hw'=>Zf dW Z)<|aw Z Z Z Z Z (fun w' hw'=>aX ak Z (aD ((H.later hw').ent (i:=2) Z) Z))<|aw Z Z Z Z Z (fun w' hw'=>jW aH Z ((H.later hw').ent (i:=0) Z) Z)<|aw Z Z Z Z Z (fun w' hw'=>bV (k:=n) gV Z (congrArg (Value.int .i64) hna) (by first|omega|(simp only[aa];omega)))<|aQ ?_
 intro w25 hw' hF
 replace H:=H.later hw';clear hw' hF
 refine im H 4 (⟨p2,lo,hi⟩) aK row hq 0 Z Z Z Z Z Z N fun w27 cur26 row26 H=> ?_
 have hs28:(ps.set n (⟨p2,lo,hi⟩))[n]? =some (⟨p2,lo,hi⟩):=ae (bT hq).1
 refine U<|W<|Zr<|G (Yi Z)<|G (bn (cs:= #[J (0),J (z.2.1),.slice none 0 0]) iI dp N)<|bg H 1 (#[J (0),J (z.2.1),.slice none 0 0]) aP Z Z Z Z Z N N fun w29 H=>U<|Zt ?_
 have hz0:z.2.2=0:=by simpa using h99
 exact eS (cs0:= #[J (0),J (z.2.1),.slice none 0 0]) Z aM Z (H.ent (i:=1) Z) Z ⟨⟨ps.set n ⟨p2,lo,hi⟩,some ⟨gP,0,none⟩,pC,co,clo,chi,gr,glo,ghi,sns,snA,snC⟩,by rw[hsp,hz,if_pos hz0];exact oJ.plain _ _ _,by rw[hsp,hz,if_pos hz0,htn];unfold Bk.a;simp only[cD,hap2],Bw.shut (X:=[(b5,_),(b4,_),(b3,_)]) row26 hsn hown (al _ hco) (al _ hgr) (fun y hy=>by rcases zJ hy with hy|hy;exact al _ (hps y hy);rw[hy];exact aC ..) (fun f hf=>al _ hf) H (by simp only[Bk.c,aa])⟩
theorem MA {b:Bk} {a:Act} {z:Gr×Int} (hz:(if a.kind=16 then sR b.gr.a a.name b.ps.length else if a.kind=18 then wV b.gr.a a.name a.n else sa b.gr.a a.name a.n a.part a.m)=z):Bj b.a a=if z.2=0 then({b.a with gr:=z.1},⟨0,z.1.gen,[]⟩)else l5 b.a z.2:=by
 subst hz
 unfold Bj Gu
 rw[show b.a.ps.length=b.ps.length by show(b.ps.map _).length=_;rw[bI]]
 rfl
theorem Mz {w0 w:World} {bb:Nat} {b:Bk} {gP:Nat} {uP:Array Value} {Ls Lo K:List (Nat×Obj)} {F:List cz} (a:Act) (B:Bw w0 w bb b gP uP Ls Lo K F) {k np:Nat} {wt:Int} (hk:k<=1000) (h17:a.kind≠17) (hnm:bQ a.name=true) (hm:0<=a.m/\a.m<=1000) (hgi:qQ (fun _=>True) wt np k b.gr) (hp4:b.ps.length<=4):dg ab lR [.pointer (Qd bb),a.v] w fun v w2=> ∃ b':Bk,oJ (Bj b.a a).2 v w2/\b'.a=(Bj b.a a).1/\xb w0 w2 bb b' K F:=by
 refine aF rq Z Z ?_
 obtain⟨z,hz⟩: ∃ z,(if a.kind=16 then sR b.gr.a a.name b.ps.length else if a.kind=18 then wV b.gr.a a.name a.n else sa b.gr.a a.name a.n a.part a.m)=z:=⟨_,rfl⟩
 have hsp:=MA hz
 obtain⟨ps,pA,pC,co,clo,chi,gr,glo,ghi,sns,snA,snC⟩:=b
 obtain⟨hpA,row,hsn,hown,hco,hgr,hps,H⟩:=B
 dsimp only at hpA row hsn hown hco hgr hps
 subst hpA
 replace H:Hp w0 w ((bb,.cells #[.slice (Qd gP) ps.length pC,J (co.clock),J (co.next),J (co.wait),.slice co.A co.txs.length co.cap,J (gr.clock),J (gr.wait),J (gr.gen),.slice gr.mA gr.ms.length gr.mC,.slice gr.oA gr.os.length gr.oC,.slice snA sns.length snC] bO (0,0))::(gP,.cells uP bM (0,0))::(Ls++(Lo++K))) F:=H
 dsimp only at hgi hp4 hz
 show CW _ _ _ _ (args [.pointer (Qd bb),.agg #[J (a.kind),.string (a.name),J (a.part),J (a.n),J (a.m),.string (a.text),J (a.lost)]]) w
 refine W<|Zr<|fW H Z Z fun w1 b3 H=>eI H dp Z fun w2 b4 H=>U<|W<|Zr<|G (Yp Z)<|G (aG Z)<|G (Zf aV Z)<|G (Zf i5 Z)<|G (jl 5 [J (gr.clock),J (gr.wait),J (gr.gen),.slice gr.mA gr.ms.length gr.mC,.slice gr.oA gr.os.length gr.oC] aN Z Z (H.ent (i:=2) Z) Z)<|eI H d9 Z fun w3 b5 H=>bg H 0 (#[J (gr.clock),J (gr.wait),J (gr.gen),.slice gr.mA gr.ms.length gr.mC,.slice gr.oA gr.os.length gr.oC]) bF Z Z Z Z Z N N fun w4 H=>U<|W<|Zr<|G (Wi Z)<|U<|W<|W<|Zr<|G (Zf mD Z)<|G (Zd ak H 2 Z Z Z)<|U ?_
 refine eG (τ:=Gr×Nat×Nat) [6,14,15,16,17,18,19,20,21,22,23,24,25,26,27,28,29,30,31,32,33,34,35,36,37,38,39,40,41,42,43,44,45,46,47,48,49,50,51,52,53,54,55,56,57,58,59,60,61,62,63,64,65,66,67] (fun _=>[(6,J z.2)]) (fun(g3,lo,hi) w'=>g3.a=z.1/\Hp w0 w' ((b5,.cells #[J (g3.clock),J (g3.wait),J (g3.gen),.slice g3.mA g3.ms.length g3.mC,.slice g3.oA g3.os.length g3.oC] cO (0,0))::(b4,.cells #[J (0),J (0),.slice none 0 0] eg (0,0))::(b3,.cells #[J (a.kind),.string (a.name),J (a.part),J (a.n),J (a.m),.string (a.text),J (a.lost)] gd (0,0))::(bb,.cells #[.slice (Qd gP) ps.length pC,J (co.clock),J (co.next),J (co.wait),.slice co.A co.txs.length co.cap,J (gr.clock),J (gr.wait),J (gr.gen),.slice gr.mA gr.ms.length gr.mC,.slice gr.oA gr.os.length gr.oC,.slice snA sns.length snC] bO (0,0))::(gP,.cells uP bM (0,0))::(Ls++(Lo++K))) (Jv w0 lo hi g3::F)) ?_ ?_
 refine Zb<|W<|Zr ?_
 refine cW (bp Z Z) Z Z Z (fun h28=> ?_) (fun h28=> ?_)
 refine G (Wb Z)<|U<|ZT Z ?_
 refine bD ci [0,1,2,3,4,5,6,7,8,9,10,11,12] [13,14] [9] [1,3,4,5,6,8,10,11,12] (sp [(9,Sp.deep w4.heap.size Pb (fun g:Gr=>g.c.toArray) (fun cs=> .tuple #[.agg cs,J (sR gr.a a.name ps.length).2]) (fun cq:Gr=>cq.a=(sR gr.a a.name ps.length).1))]) N N N N Nq (cJ _) ?_
 refine aw Z Z Z Z Z (fun w' hw'=>jW aN Z ((H.later hw').ent (i:=0) Z) Z)<|aw Z Z Z Z Z (fun w' hw'=>Zf fe Z)<|aw Z Z Z Z Z (fun w' hw'=>aX bc Z (aD ((H.later hw').ent (i:=2) Z) Z))<|aw Z Z Z Z Z (fun w' hw'=>Yp Z)<|aw Z Z Z Z Z (fun w' hw'=>aG Z)<|aw Z Z Z Z Z (fun w' hw'=>Zf aV Z)<|aw Z Z Z Z Z (fun w' hw'=>Zf dx Z)<|aw Z Z Z Z Z (fun w' hw'=>aX d3 Z (aD ((H.later hw').ent (i:=3) Z) Z))<|aw Z Z Z Z Z (fun w' hw'=>br jK Z)<|sL (gv:=(fun cs=> .tuple #[.agg cs,J (sR gr.a a.name ps.length).2])) BQ Z Z Z Z Z (fun w' hw'=>hw'.size) (fun w' hw'=>IQ gr a.name ps.length w' (Hp.grM (H.later hw') hgr) hgi.ok hnm hp4 (by have:=hgi.gen;omega)) Z fun cs39=>aw Z Z Z Z Z (fun w' hw'=>Yu Z)<|aw Z Z Z Z Z (fun w' hw'=>Xa Z Z)<|aw Z Z Z Z Z (fun w' hw'=>Xi Z Z)<|aQ ?_
 intro w5 hw' hF
 obtain⟨hF,g3,eq,hag3,hrd39⟩:=hF;cases eq
 replace H:=H.learn hw' (Jv w0 w4.heap.size w5.heap.size g3) ⟨H.size,hrd39⟩ (ao _) (ao _)
 clear hw' hF
 refine bg H 0 (#[J (g3.clock),J (g3.wait),J (g3.gen),.slice g3.mA g3.ms.length g3.mC,.slice g3.oA g3.os.length g3.oC]) bF Z Z Z Z Z N N fun w6 H=>G (Wi Z)<|U ?_
 obtain rfl:z=sR gr.a a.name ps.length:=by rw[<-hz,if_pos h28]
 exact⟨(g3,_,_),⟨hag3,H⟩,dJ Z,Qg⟩
 refine G (Wb Z)<|U<|ZF Z<|W<|Zr<|G (nA Z Z h17)<|G (Wb Z)<|U<|ZF Z<|W<|Zr ?_
 refine cW (bp Z Z) Z Z Z (fun h58=> ?_) (fun h58=> ?_)
 refine G (Wb Z)<|U<|ZT Z<|Zr<|G (Zw aN H 0 Z Z Z)<|G (Zf fe Z)<|G (Zd bc H 2 Z Z Z)<|G (Zf eT Z)<|G (Zd ak H 2 Z Z Z)<|ch BR (Jk gr a.name a.n _ (Hp.grM H hgr) hgi.ok hnm) Z Z ?_
 rintro _ w7 ⟨g3,rfl,hag3,hng3⟩;replace H:=H.learn hng3.2 (Jv w0 w4.heap.size w7.heap.size g3) ⟨H.size,hng3.1⟩ (ao _) (ao _);clear hng3
 refine G (Yu Z)<|G (Xa Z Z)<|G (Xi Z Z)<|bg H 0 (#[J (g3.clock),J (g3.wait),J (g3.gen),.slice g3.mA g3.ms.length g3.mC,.slice g3.oA g3.os.length g3.oC]) bF Z Z Z Z Z N N fun w8 H=>G (Wi Z)<|U ?_
 obtain rfl:z=wV gr.a a.name a.n:=by rw[<-hz,if_neg h28,if_pos h58]
 exact⟨(g3,_,_),⟨hag3,H⟩,dJ Z,Qg⟩
 refine G (Wb Z)<|U<|ZF Z<|Zr<|G (Zw aN H 0 Z Z Z)<|G (Zf fe Z)<|G (Zd bc H 2 Z Z Z)<|G (Zf eT Z)<|G (Zd ak H 2 Z Z Z)<|G (Zf dW Z)<|G (Zd ak H 2 Z Z Z)<|G (Zf Ft Z)<|G (Zd ak H 2 Z Z Z)<|ch AJ (FX gr a.name a.n a.part a.m _ (Hp.grM H hgr) hgi.ok hnm hm.1) Z Z ?_
 rintro _ w9 ⟨g3,rfl,hag3,hng3⟩;replace H:=H.learn hng3.2 (Jv w0 w4.heap.size w9.heap.size g3) ⟨H.size,hng3.1⟩ (ao _) (ao _);clear hng3
 refine G (Yu Z)<|G (Xa Z Z)<|G (Xi Z Z)<|bg H 0 (#[J (g3.clock),J (g3.wait),J (g3.gen),.slice g3.mA g3.ms.length g3.mC,.slice g3.oA g3.os.length g3.oC]) bF Z Z Z Z Z N N fun w10 H=>G (Wi Z)<|U ?_
 obtain rfl:z=sa gr.a a.name a.n a.part a.m:=by rw[<-hz,if_neg h28,if_neg h58]
 exact⟨(g3,_,_),⟨hag3,H⟩,dJ Z,Qg⟩
 rintro⟨g3,lo,hi⟩ ρ1 w11 ⟨hag3,H⟩
 show CW _ _ _ _ (dH (gJ _ _ ρ1) [(6,J z.2)]) w11
 refine W<|W<|Zr<|G (Yi Z) ?_
 refine qV (ja Z Z) Z Z Z (fun h69=> ?_) (fun h69=> ?_)
 refine U<|ZT Z<|W<|Zr<|G (Yi Z)<|ch bR (dU z.2 _) Z Z ?_
 rintro _ w12 ⟨rfl,hb⟩;replace H:=H.later hb;clear hb
 refine bg H 1 (#[J (z.2),J (0),.slice none 0 0]) aP Z Z Z Z Z N N fun w13 H=>U<|Zt ?_
 exact eS (cs0:= #[J (z.2),J (0),.slice none 0 0]) Z aM Z (H.ent (i:=1) Z) Z ⟨⟨ps,some ⟨gP,0,none⟩,pC,co,clo,chi,gr,glo,ghi,sns,snA,snC⟩,by rw[hsp,if_neg h69];exact oJ.plain _ _ _,by rw[hsp,if_neg h69];rfl,Bw.shut (X:=[(b5,_),(b4,_),(b3,_)]) row hsn hown (al _ hco) (al _ hgr) (fun q hq=>al _ (hps q hq)) (fun f hf=>al _ hf) H Z⟩
 refine U<|ZF Z<|Zk<|W<|Zr<|G (Yp Z)<|G (Zw aN H 0 Z Z Z)<|G (aG Z)<|G (Zf aV Z)<|G (Zf i5 Z)<|bg H 3 (#[.slice (Qd gP) ps.length pC,J (co.clock),J (co.next),J (co.wait),.slice co.A co.txs.length co.cap,J (g3.clock),J (g3.wait),J (g3.gen),.slice g3.mA g3.ms.length g3.mC,.slice g3.oA g3.os.length g3.oC,.slice snA sns.length snC]) bF Z Z Z Z Z N N fun w14 H=>U<|W<|Zr<|G (Zf kk Z)<|G (Zd ak H 0 Z Z Z)<|G (bn (cs:= #[J (0),J (g3.gen),.slice none 0 0]) iI dp N)<|bg H 1 (#[J (0),J (g3.gen),.slice none 0 0]) aP Z Z Z Z Z N N fun w15 H=>U<|Zt ?_
 have hz0:z.2=0:=by simpa using h69
 have hgn:z.1.gen=g3.gen:=by rw[<-hag3];rfl
 exact eS (cs0:= #[J (0),J (g3.gen),.slice none 0 0]) Z aM Z (H.ent (i:=1) Z) Z ⟨⟨ps,some ⟨gP,0,none⟩,pC,co,clo,chi,g3,lo,hi,sns,snA,snC⟩,by rw[hsp,if_pos hz0,hgn];exact oJ.plain _ _ _,by rw[hsp,if_pos hz0,<-hag3];rfl,Bw.shut (X:=[(b5,_),(b4,_),(b3,_)]) row hsn hown (al _ hco) (aC ..) (fun q hq=>al _ (hps q hq)) (fun f hf=>al _ hf) H Z⟩
theorem xb.nil {w0 w:World} {bb:Nat} {b:Bk} {K:List (Nat×Obj)} {F:List cz} (h:xb w0 w bb b K F) (A:Option Addr):xb w0 w bb b K (dT m6 0 0 A []::F):=by
 obtain⟨gP,uP,Ls,Lo,F',B,hF⟩:=h
 exact⟨gP,uP,Ls,Lo,dT m6 0 0 A []::F',⟨B.pA,B.row,B.sn,B.own,al _ B.co,al _ B.gr,fun q hq=>al _ (B.ps q hq),B.H.learnNil 0 (bK _) A⟩,fun f hf=>by
  rcases ay.1 hf with rfl|hf
  exact aC ..
  exact al _ (hF f hf)⟩
theorem B0 {g:Gr} (h:kV g=true) (s:ByteArray) (p:Int):0<=(eR g s p).1:=by
 unfold eR
 split
 exact iX 0
 split
 show 0<=tk g.os p
 unfold tk
 split
 rename_i o ho
 exact((dA.1 h).2.2.1 o (List.mem_of_find?_eq_some ho)).2.2.1
 exact iX 0
 exact iX 0
theorem Ml {w0 w:World} {bb:Nat} {b:Bk} {gP:Nat} {uP:Array Value} {Ls Lo K:List (Nat×Obj)} {F:List cz} (a:Act) (B:Bw w0 w bb b gP uP Ls Lo K F) (hnm:bQ a.name=true) (hpn:0<=a.part/\a.part<b.ps.length) {k np:Nat} {wt:Int} (hgi:qQ (fun _=>True) wt np k b.gr) (hw:(eR b.gr.a a.name a.part).2≠0):dg ab gx [.pointer (Qd bb),a.v] w fun v w2=> ∃ (x:An) (A:Option Addr) (c lo hi:Nat),qN b.a a x/\v=.agg #[J x.code,J x.n,.slice A x.texts.length c]/\x.texts.length<=c/\xb w0 w2 bb b K (dT m6 lo hi A x.texts::F):=by
 refine aF iw Z Z ?_
 have hP:qN b.a a _:=.no hw
 obtain⟨ps,pA,pC,co,clo,chi,gr,glo,ghi,sns,snA,snC⟩:=b
 obtain⟨hpA,row,hsn,hown,hco,hgr,hps,H⟩:=B
 dsimp only at hpA row hsn hown hco hgr hps
 subst hpA
 replace H:Hp w0 w ((bb,.cells #[.slice (Qd gP) ps.length pC,J (co.clock),J (co.next),J (co.wait),.slice co.A co.txs.length co.cap,J (gr.clock),J (gr.wait),J (gr.gen),.slice gr.mA gr.ms.length gr.mC,.slice gr.oA gr.os.length gr.oC,.slice snA sns.length snC] bO (0,0))::(gP,.cells uP bM (0,0))::(Ls++(Lo++K))) F:=H
 dsimp only at hpn hgi hw
 show CW _ _ _ _ (args [.pointer (Qd bb),.agg #[J (a.kind),.string (a.name),J (a.part),J (a.n),J (a.m),.string (a.text),J (a.lost)]]) w
 refine W<|Zr<|fW H Z Z fun w1 b3 H=>eI H dp Z fun w2 b4 H=>U<|W<|W<|Zr<|G (Yp Z)<|G (Zf dW Z)<|G (Zd ak H 1 Z Z Z)<|ch d5 (nZ bb ⟨ps,some ⟨gP,0,none⟩,pC,co,clo,chi,gr,glo,ghi,sns,snA,snC⟩ a.part _ (H.ent (i:=2) Z)) Z Z ?_
 rintro _ w3 ⟨rfl,hb⟩;replace H:=H.later hb;clear hb
 rw[decide_eq_true hpn]
 refine G (dR Z)<|U<|ZF Z<|Zk<|W ?_
 refine bD ci [0,1,2,3,4,5,6,7,8,9,10,11,12,13,14] [] [9] [0,1,2,3,5,7,10,11,12,13,14] (sp [(9,Sp.one (.tuple #[J (eR gr.a a.name a.part).1,J (eR gr.a a.name a.part).2]))]) N N N N Nq (cJ _) ?_
 refine aw Z Z Z Z Z (fun w' hw'=>Yp Z)<|aw Z Z Z Z Z (fun w' hw'=>aG Z)<|aw Z Z Z Z Z (fun w' hw'=>Zf aV Z)<|aw Z Z Z Z Z (fun w' hw'=>Zf i5 Z)<|aw Z Z Z Z Z (fun w' hw'=>jl 5 [J (gr.clock),J (gr.wait),J (gr.gen),.slice gr.mA gr.ms.length gr.mC,.slice gr.oA gr.os.length gr.oC] aN Z Z ((H.later hw').ent (i:=2) Z) Z)<|aw Z Z Z Z Z (fun w' hw'=>Zf fe Z)<|aw Z Z Z Z Z (fun w' hw'=>aX bc Z (aD ((H.later hw').ent (i:=1) Z) Z))<|aw Z Z Z Z Z (fun w' hw'=>Zf dW Z)<|aw Z Z Z Z Z (fun w' hw'=>aX ak Z (aD ((H.later hw').ent (i:=1) Z) Z))<|hJ mH Z Z Z Z Z (fun w' hw'=>r8 gr a.name a.part w' (Hp.grM (H.later hw') hgr) hgi.ok hnm) Z<|aw Z Z Z Z Z (fun w' hw'=>Yu Z)<|aw Z Z Z Z Z (fun w' hw'=>Xi Z Z)<|aw Z Z Z Z Z (fun w' hw'=>Xi Z Z)<|aw Z Z Z Z Z (fun w' hw'=>Wi Z)<|aw Z Z Z Z Z (fun w' hw'=>Wi Z)<|aQ ?_
 intro w4 hw' hF
 replace H:=H.later hw';clear hw' hF
 refine U<|W<|W<|Zr<|G (Yi Z)<|G (j9 Z Z hw)<|U<|ZT Z<|W<|Zr<|G (Yi Z)<|ch bR (dU (eR gr.a a.name a.part).2 _) Z Z ?_
 rintro _ w5 ⟨rfl,hb⟩;replace H:=H.later hb;clear hb
 refine bg H 0 (#[J ((eR gr.a a.name a.part).2),J (0),.slice none 0 0]) aP Z Z Z Z Z N N fun w6 H=>U<|Zt ?_
 exact eS (cs0:= #[J ((eR gr.a a.name a.part).2),J (0),.slice none 0 0]) Z aM Z (H.ent (i:=0) Z) Z ⟨_,none,0,0,0,hP,rfl,ao _,xb.nil (Bw.shut (X:=[(b4,_),(b3,_)]) row hsn hown hco hgr hps (fun _ h=>h) H Z) none⟩
theorem Ix {w0 w:World} {bb:Nat} {b:Bk} {gP:Nat} {uP:Array Value} {Ls Lo K:List (Nat×Obj)} {F:List cz} (a:Act) (B:Bw w0 w bb b gP uP Ls Lo K F) (hnm:bQ a.name=true) (hpn:0<=a.part/\a.part<b.ps.length) (hn:1<=a.n/\a.n<=20) {k np:Nat} {wt:Int} (hgi:qQ (fun _=>True) wt np k b.gr) (hpk: ∀ q∈b.ps,q.p.a.ok) (hw:(eR b.gr.a a.name a.part).2=0) (hl: ∀ q,b.ps[a.part.toNat]? =some q->q.p.leader<0):dg ab gx [.pointer (Qd bb),a.v] w fun v w2=> ∃ (x:An) (A:Option Addr) (c lo hi:Nat),qN b.a a x/\v=.agg #[J x.code,J x.n,.slice A x.texts.length c]/\x.texts.length<=c/\xb w0 w2 bb b K (dT m6 lo hi A x.texts::F):=by
 refine aF iw Z Z ?_
 obtain⟨n,hna⟩: ∃ n:Nat,a.part=(n:Int):=⟨a.part.toNat,by omega⟩
 have htn:a.part.toNat=n:=by omega
 obtain⟨m,hnm2⟩: ∃ m:Nat,a.n=(m:Int):=⟨a.n.toNat,by omega⟩
 have htm:a.n.toNat=m:=by omega
 obtain⟨q,hq⟩: ∃ q,b.ps[n]? =some q:=⟨_,ai I⟩
 have hqm:=ah hq
 have hok:=hpk q hqm
 have hqa:b.a.ps[a.part.toNat]? =some q.p.a:=by rw[htn];show(b.ps.map fun q=>q.p.a)[n]? =_;rw[aL,hq];rfl
 have hlq:=hl q (by rw[htn];exact hq)
 have hP:qN b.a a _:=.yes q.p.a _ hw hqa (.none hlq)
 obtain⟨ps,pA,pC,co,clo,chi,gr,glo,ghi,sns,snA,snC⟩:=b
 obtain⟨hpA,row,hsn,hown,hco,hgr,hps,H⟩:=B
 dsimp only at hpA row hsn hown hco hgr hps
 subst hpA
 replace H:Hp w0 w ((bb,.cells #[.slice (Qd gP) ps.length pC,J (co.clock),J (co.next),J (co.wait),.slice co.A co.txs.length co.cap,J (gr.clock),J (gr.wait),J (gr.gen),.slice gr.mA gr.ms.length gr.mC,.slice gr.oA gr.os.length gr.oC,.slice snA sns.length snC] bO (0,0))::(gP,.cells uP bM (0,0))::(Ls++(Lo++K))) F:=H
 dsimp only at hpn hgi hw hq hqm
 show CW _ _ _ _ (args [.pointer (Qd bb),.agg #[J (a.kind),.string (a.name),J (a.part),J (a.n),J (a.m),.string (a.text),J (a.lost)]]) w
 refine W<|Zr<|fW H Z Z fun w1 b3 H=>eI H dp Z fun w2 b4 H=>U<|W<|W<|Zr<|G (Yp Z)<|G (Zf dW Z)<|G (Zd ak H 1 Z Z Z)<|ch d5 (nZ bb ⟨ps,some ⟨gP,0,none⟩,pC,co,clo,chi,gr,glo,ghi,sns,snA,snC⟩ a.part _ (H.ent (i:=2) Z)) Z Z ?_
 rintro _ w3 ⟨rfl,hb⟩;replace H:=H.later hb;clear hb
 rw[decide_eq_true hpn]
 refine G (dR Z)<|U<|ZF Z<|Zk<|W ?_
 refine bD ci [0,1,2,3,4,5,6,7,8,9,10,11,12,13,14] [] [9] [0,1,2,3,5,7,10,11,12,13,14] (sp [(9,Sp.one (.tuple #[J (eR gr.a a.name a.part).1,J (eR gr.a a.name a.part).2]))]) N N N N Nq (cJ _) ?_
 refine aw Z Z Z Z Z (fun w' hw'=>Yp Z)<|aw Z Z Z Z Z (fun w' hw'=>aG Z)<|aw Z Z Z Z Z (fun w' hw'=>Zf aV Z)<|aw Z Z Z Z Z (fun w' hw'=>Zf i5 Z)<|aw Z Z Z Z Z (fun w' hw'=>jl 5 [J (gr.clock),J (gr.wait),J (gr.gen),.slice gr.mA gr.ms.length gr.mC,.slice gr.oA gr.os.length gr.oC] aN Z Z ((H.later hw').ent (i:=2) Z) Z)<|aw Z Z Z Z Z (fun w' hw'=>Zf fe Z)<|aw Z Z Z Z Z (fun w' hw'=>aX bc Z (aD ((H.later hw').ent (i:=1) Z) Z))<|aw Z Z Z Z Z (fun w' hw'=>Zf dW Z)<|aw Z Z Z Z Z (fun w' hw'=>aX ak Z (aD ((H.later hw').ent (i:=1) Z) Z))<|hJ mH Z Z Z Z Z (fun w' hw'=>r8 gr a.name a.part w' (Hp.grM (H.later hw') hgr) hgi.ok hnm) Z<|aw Z Z Z Z Z (fun w' hw'=>Yu Z)<|aw Z Z Z Z Z (fun w' hw'=>Xi Z Z)<|aw Z Z Z Z Z (fun w' hw'=>Xi Z Z)<|aw Z Z Z Z Z (fun w' hw'=>Wi Z)<|aw Z Z Z Z Z (fun w' hw'=>Wi Z)<|aQ ?_
 intro w4 hw' hF
 replace H:=H.later hw';clear hw' hF
 refine U<|W<|W<|Zr<|G (Yi Z)<|G (ce Z Z I)<|U<|ZF Z<|Zk<|W ?_
 refine GY ci [12,13,14,15,16,17,18,19] [] [0,1,2,3,5,7,9,10]<|jz [0,1,2,3,4,5,6,7,8,9,10,11] [12,13,14,15,16,17,18,19] [] [0,1,2,3,5,7,9,10] 7 _ N N N Nq<|aw Z Z Z Z Z (fun w' hw'=>Yp Z)<|aw Z Z Z Z Z (fun w' hw'=>aG Z)<|aw Z Z Z Z Z (fun w' hw'=>Zf aV Z)<|aw Z Z Z Z Z (fun w' hw'=>Zf dx Z)<|aw Z Z Z Z Z (fun w' hw'=>aX d3 Z (aD ((H.later hw').ent (i:=2) Z) Z))<|aw Z Z Z Z Z (fun w' hw'=>Zf dW Z)<|aw Z Z Z Z Z (fun w' hw'=>aX ak Z (aD ((H.later hw').ent (i:=1) Z) Z))<|aw Z Z Z Z Z (fun w' hw'=>bV (k:=n) gV Z (congrArg (Value.int .i64) hna) (by first|omega|(simp only[aa];omega)))<|aw Z Z Z Z Z (fun w' hw'=>oM aH row hq Z Z ((H.later hw').ent (i:=3) Z))<|aw Z Z Z Z Z (fun w' hw'=>Yi Z)<|aw Z Z Z Z Z (fun w' hw'=>Zf eT Z)<|aw Z Z Z Z Z (fun w' hw'=>aX ak Z (aD ((H.later hw').ent (i:=1) Z) Z))<|aQ ?_
 intro w5 hw' _;replace H:=H.later hw';clear hw'
 refine bu 12 N Z<|ch sJ (Gj q.p (eR gr.a a.name a.part).1 a.n _ (Hp.paM H (hps q hqm)) hok hlq) Z Z ?_
 rintro _ w6 ⟨rfl,hb⟩;replace H:=H.later hb;clear hb
 refine U<|bC 13 N N N Z Z Z Z Nq (fun _=>Yu Z)<|bC 14 N N N Z Z Z Z Nq (fun _=>Xs Z Z)<|bC 15 N N N Z Z Z Z Nq (fun _=>Xi Z Z)<|bC 16 N N N Z Z Z Z Nq (fun _=>Xi Z Z)<|bC 17 N N N Z Z Z Z Nq (fun _=>Ws Z)<|bC 18 N N N Z Z Z Z Nq (fun _=>Wi Z)<|bC 19 N N N Z Z Z Z Nq (fun _=>Wi Z)<|aZ N<|W<|W<|Zr<|G (Yi Z)<|G (j9 Z Z (by decide))<|U<|ZT Z<|W<|Zr<|G (Yi Z)<|ch bR (dU 8 _) Z Z ?_
 rintro _ w7 ⟨rfl,hb⟩;replace H:=H.later hb;clear hb
 refine bg H 0 (#[J (8),J (0),.slice none 0 0]) aP Z Z Z Z Z N N fun w8 H=>U<|Zt ?_
 exact eS (cs0:= #[J (8),J (0),.slice none 0 0]) Z aM Z (H.ent (i:=0) Z) Z ⟨_,none,0,0,0,hP,rfl,ao _,xb.nil (Bw.shut (X:=[(b4,_),(b3,_)]) row hsn hown hco hgr hps (fun _ h=>h) H Z) none⟩
theorem Gf {w0 w:World} {bb:Nat} {b:Bk} {gP:Nat} {uP:Array Value} {Ls Lo K:List (Nat×Obj)} {F:List cz} (a:Act) (B:Bw w0 w bb b gP uP Ls Lo K F) (hnm:bQ a.name=true) (hpn:0<=a.part/\a.part<b.ps.length) (hn:1<=a.n/\a.n<=20) {k np:Nat} {wt:Int} (hgi:qQ (fun _=>True) wt np k b.gr) (hpk: ∀ q∈b.ps,q.p.a.ok) (hw:(eR b.gr.a a.name a.part).2=0) {l:Nat} {r:fg} (hld: ∀ q,b.ps[a.part.toNat]? =some q->q.p.leader=l/\q.p.reps[l]? =some r) (hr:r.es.length<(eR b.gr.a a.name a.part).1.toNat):dg ab gx [.pointer (Qd bb),a.v] w fun v w2=> ∃ (x:An) (A:Option Addr) (c lo hi:Nat),qN b.a a x/\v=.agg #[J x.code,J x.n,.slice A x.texts.length c]/\x.texts.length<=c/\xb w0 w2 bb b K (dT m6 lo hi A x.texts::F):=by
 refine aF iw Z Z ?_
 obtain⟨n,hna⟩: ∃ n:Nat,a.part=(n:Int):=⟨a.part.toNat,by omega⟩
 have htn:a.part.toNat=n:=by omega
 obtain⟨m,hnm2⟩: ∃ m:Nat,a.n=(m:Int):=⟨a.n.toNat,by omega⟩
 have htm:a.n.toNat=m:=by omega
 obtain⟨q,hq⟩: ∃ q,b.ps[n]? =some q:=⟨_,ai I⟩
 have hqm:=ah hq
 have hok:=hpk q hqm
 have hqa:b.a.ps[a.part.toNat]? =some q.p.a:=by rw[htn];show(b.ps.map fun q=>q.p.a)[n]? =_;rw[aL,hq];rfl
 obtain⟨hl1,hl2⟩:=hld q (by rw[htn];exact hq)
 have hra:q.p.a.reps[l]? =some r.a:=by show(q.p.reps.map fg.a)[l]? =_;rw[aL,hl2];rfl
 obtain⟨fr,hfr⟩: ∃ f:Nat,(eR b.gr.a a.name a.part).1=(f:Int):=⟨(eR b.gr.a a.name a.part).1.toNat,by have:=B0 (g:=b.gr.a) ((Ah _).2 hgi.ok) a.name a.part;omega⟩
 have htf:(eR b.a.gr a.name a.part).1.toNat=fr:=by show(eR b.gr.a a.name a.part).1.toNat=fr;omega
 have hP:qN b.a a _:=.yes q.p.a _ hw hqa (.range l r.a hl1 hra hr)
 obtain⟨ps,pA,pC,co,clo,chi,gr,glo,ghi,sns,snA,snC⟩:=b
 obtain⟨hpA,row,hsn,hown,hco,hgr,hps,H⟩:=B
 dsimp only at hpA row hsn hown hco hgr hps
 subst hpA
 replace H:Hp w0 w ((bb,.cells #[.slice (Qd gP) ps.length pC,J (co.clock),J (co.next),J (co.wait),.slice co.A co.txs.length co.cap,J (gr.clock),J (gr.wait),J (gr.gen),.slice gr.mA gr.ms.length gr.mC,.slice gr.oA gr.os.length gr.oC,.slice snA sns.length snC] bO (0,0))::(gP,.cells uP bM (0,0))::(Ls++(Lo++K))) F:=H
 dsimp only at hpn hgi hw hq hqm hfr hr
 show CW _ _ _ _ (args [.pointer (Qd bb),.agg #[J (a.kind),.string (a.name),J (a.part),J (a.n),J (a.m),.string (a.text),J (a.lost)]]) w
 refine W<|Zr<|fW H Z Z fun w1 b3 H=>eI H dp Z fun w2 b4 H=>U<|W<|W<|Zr<|G (Yp Z)<|G (Zf dW Z)<|G (Zd ak H 1 Z Z Z)<|ch d5 (nZ bb ⟨ps,some ⟨gP,0,none⟩,pC,co,clo,chi,gr,glo,ghi,sns,snA,snC⟩ a.part _ (H.ent (i:=2) Z)) Z Z ?_
 rintro _ w3 ⟨rfl,hb⟩;replace H:=H.later hb;clear hb
 rw[decide_eq_true hpn]
 refine G (dR Z)<|U<|ZF Z<|Zk<|W ?_
 refine bD ci [0,1,2,3,4,5,6,7,8,9,10,11,12,13,14] [] [9] [0,1,2,3,5,7,10,11,12,13,14] (sp [(9,Sp.one (.tuple #[J (eR gr.a a.name a.part).1,J (eR gr.a a.name a.part).2]))]) N N N N Nq (cJ _) ?_
 refine aw Z Z Z Z Z (fun w' hw'=>Yp Z)<|aw Z Z Z Z Z (fun w' hw'=>aG Z)<|aw Z Z Z Z Z (fun w' hw'=>Zf aV Z)<|aw Z Z Z Z Z (fun w' hw'=>Zf i5 Z)<|aw Z Z Z Z Z (fun w' hw'=>jl 5 [J (gr.clock),J (gr.wait),J (gr.gen),.slice gr.mA gr.ms.length gr.mC,.slice gr.oA gr.os.length gr.oC] aN Z Z ((H.later hw').ent (i:=2) Z) Z)<|aw Z Z Z Z Z (fun w' hw'=>Zf fe Z)<|aw Z Z Z Z Z (fun w' hw'=>aX bc Z (aD ((H.later hw').ent (i:=1) Z) Z))<|aw Z Z Z Z Z (fun w' hw'=>Zf dW Z)<|aw Z Z Z Z Z (fun w' hw'=>aX ak Z (aD ((H.later hw').ent (i:=1) Z) Z))<|hJ mH Z Z Z Z Z (fun w' hw'=>r8 gr a.name a.part w' (Hp.grM (H.later hw') hgr) hgi.ok hnm) Z<|aw Z Z Z Z Z (fun w' hw'=>Yu Z)<|aw Z Z Z Z Z (fun w' hw'=>Xi Z Z)<|aw Z Z Z Z Z (fun w' hw'=>Xi Z Z)<|aw Z Z Z Z Z (fun w' hw'=>Wi Z)<|aw Z Z Z Z Z (fun w' hw'=>Wi Z)<|aQ ?_
 intro w4 hw' hF
 replace H:=H.later hw';clear hw' hF
 refine U<|W<|W<|Zr<|G (Yi Z)<|G (ce Z Z I)<|U<|ZF Z<|Zk<|W ?_
 refine GY ci [12,13,14,15,16,17,18,19] [] [0,1,2,3,5,7,9,10]<|jz [0,1,2,3,4,5,6,7,8,9,10,11] [12,13,14,15,16,17,18,19] [] [0,1,2,3,5,7,9,10] 7 _ N N N Nq<|aw Z Z Z Z Z (fun w' hw'=>Yp Z)<|aw Z Z Z Z Z (fun w' hw'=>aG Z)<|aw Z Z Z Z Z (fun w' hw'=>Zf aV Z)<|aw Z Z Z Z Z (fun w' hw'=>Zf dx Z)<|aw Z Z Z Z Z (fun w' hw'=>aX d3 Z (aD ((H.later hw').ent (i:=2) Z) Z))<|aw Z Z Z Z Z (fun w' hw'=>Zf dW Z)<|aw Z Z Z Z Z (fun w' hw'=>aX ak Z (aD ((H.later hw').ent (i:=1) Z) Z))<|aw Z Z Z Z Z (fun w' hw'=>bV (k:=n) gV Z (congrArg (Value.int .i64) hna) (by first|omega|(simp only[aa];omega)))<|aw Z Z Z Z Z (fun w' hw'=>oM aH row hq Z Z ((H.later hw').ent (i:=3) Z))<|aw Z Z Z Z Z (fun w' hw'=>Yi Z)<|aw Z Z Z Z Z (fun w' hw'=>Zf eT Z)<|aw Z Z Z Z Z (fun w' hw'=>aX ak Z (aD ((H.later hw').ent (i:=1) Z) Z))<|aQ ?_
 intro w5 hw' _;replace H:=H.later hw';clear hw'
 refine bu 12 N Z<|ch sJ ((by have hA:=EH q.p fr m l r _ (Hp.paM H (hps q hqm)) hok hl1 hl2 I;rw[<-hfr,<-hnm2]at hA;exact hA)) Z Z ?_
 rintro _ w6 ⟨rfl,hb⟩;replace H:=H.later hb;clear hb
 refine U<|bC 13 N N N Z Z Z Z Nq (fun _=>Yu Z)<|bC 14 N N N Z Z Z Z Nq (fun _=>Xs Z Z)<|bC 15 N N N Z Z Z Z Nq (fun _=>Xi Z Z)<|bC 16 N N N Z Z Z Z Nq (fun _=>Xi Z Z)<|bC 17 N N N Z Z Z Z Nq (fun _=>Ws Z)<|bC 18 N N N Z Z Z Z Nq (fun _=>Wi Z)<|bC 19 N N N Z Z Z Z Nq (fun _=>Wi Z)<|aZ N<|W<|W<|Zr<|G (Yi Z)<|G (j9 Z Z (by decide))<|U<|ZT Z<|W<|Zr<|G (Yi Z)<|ch bR (dU 2 _) Z Z ?_
 rintro _ w7 ⟨rfl,hb⟩;replace H:=H.later hb;clear hb
 refine bg H 0 (#[J (2),J (0),.slice none 0 0]) aP Z Z Z Z Z N N fun w8 H=>U<|Zt ?_
 exact eS (cs0:= #[J (2),J (0),.slice none 0 0]) Z aM Z (H.ent (i:=0) Z) Z ⟨_,none,0,0,0,hP,rfl,ao _,xb.nil (Bw.shut (X:=[(b4,_),(b3,_)]) row hsn hown hco hgr hps (fun _ h=>h) H Z) none⟩
theorem Mk {w0 w:World} {bb:Nat} {b:Bk} {gP:Nat} {uP:Array Value} {Ls Lo K:List (Nat×Obj)} {F:List cz} (a:Act) (B:Bw w0 w bb b gP uP Ls Lo K F) (hnm:bQ a.name=true) (hpn:0<=a.part/\a.part<b.ps.length) (hn:1<=a.n/\a.n<=20) {k np:Nat} {wt:Int} (hgi:qQ (fun _=>True) wt np k b.gr) (hpk: ∀ q∈b.ps,q.p.a.ok) (hw:(eR b.gr.a a.name a.part).2=0) {l:Nat} {r:fg} (hld: ∀ q,b.ps[a.part.toNat]? =some q->q.p.leader=l/\q.p.reps[l]? =some r) (hr:(eR b.gr.a a.name a.part).1.toNat<=r.es.length):dg ab gx [.pointer (Qd bb),a.v] w fun v w2=> ∃ (x:An) (A:Option Addr) (c lo hi:Nat),qN b.a a x/\v=.agg #[J x.code,J x.n,.slice A x.texts.length c]/\x.texts.length<=c/\xb w0 w2 bb b K (dT m6 lo hi A x.texts::F):=by
 refine aF iw Z Z ?_
 obtain⟨n,hna⟩: ∃ n:Nat,a.part=(n:Int):=⟨a.part.toNat,by omega⟩
 have htn:a.part.toNat=n:=by omega
 obtain⟨m,hnm2⟩: ∃ m:Nat,a.n=(m:Int):=⟨a.n.toNat,by omega⟩
 have htm:a.n.toNat=m:=by omega
 obtain⟨q,hq⟩: ∃ q,b.ps[n]? =some q:=⟨_,ai I⟩
 have hqm:=ah hq
 have hok:=hpk q hqm
 have hqa:b.a.ps[a.part.toNat]? =some q.p.a:=by rw[htn];show(b.ps.map fun q=>q.p.a)[n]? =_;rw[aL,hq];rfl
 obtain⟨hl1,hl2⟩:=hld q (by rw[htn];exact hq)
 have hra:q.p.a.reps[l]? =some r.a:=by show(q.p.reps.map fg.a)[l]? =_;rw[aL,hl2];rfl
 obtain⟨fr,hfr⟩: ∃ f:Nat,(eR b.gr.a a.name a.part).1=(f:Int):=⟨(eR b.gr.a a.name a.part).1.toNat,by have:=B0 (g:=b.gr.a) ((Ah _).2 hgi.ok) a.name a.part;omega⟩
 have htf:(eR b.a.gr a.name a.part).1.toNat=fr:=by show(eR b.gr.a a.name a.part).1.toNat=fr;omega
 have hP: ∀ st out bt,tE (r.es.take r.high.toNat) st->AS r.es r.high.toNat st fr m out bt->qN b.a a ⟨0,(bt:Nat),out⟩:=fun st out bt h1 h2=> .yes q.p.a _ hw hqa (.ok l r.a st out bt hl1 hra (by rw[htf];show fr<=r.es.length;omega) h1 (by rw[htf,htm];exact h2))
 obtain⟨ps,pA,pC,co,clo,chi,gr,glo,ghi,sns,snA,snC⟩:=b
 obtain⟨hpA,row,hsn,hown,hco,hgr,hps,H⟩:=B
 dsimp only at hpA row hsn hown hco hgr hps
 subst hpA
 replace H:Hp w0 w ((bb,.cells #[.slice (Qd gP) ps.length pC,J (co.clock),J (co.next),J (co.wait),.slice co.A co.txs.length co.cap,J (gr.clock),J (gr.wait),J (gr.gen),.slice gr.mA gr.ms.length gr.mC,.slice gr.oA gr.os.length gr.oC,.slice snA sns.length snC] bO (0,0))::(gP,.cells uP bM (0,0))::(Ls++(Lo++K))) F:=H
 dsimp only at hpn hgi hw hq hqm hfr hr hP
 show CW _ _ _ _ (args [.pointer (Qd bb),.agg #[J (a.kind),.string (a.name),J (a.part),J (a.n),J (a.m),.string (a.text),J (a.lost)]]) w
 refine W<|Zr<|fW H Z Z fun w1 b3 H=>eI H dp Z fun w2 b4 H=>U<|W<|W<|Zr<|G (Yp Z)<|G (Zf dW Z)<|G (Zd ak H 1 Z Z Z)<|ch d5 (nZ bb ⟨ps,some ⟨gP,0,none⟩,pC,co,clo,chi,gr,glo,ghi,sns,snA,snC⟩ a.part _ (H.ent (i:=2) Z)) Z Z ?_
 rintro _ w3 ⟨rfl,hb⟩;replace H:=H.later hb;clear hb
 rw[decide_eq_true hpn]
 refine G (dR Z)<|U<|ZF Z<|Zk<|W ?_
 refine bD ci [0,1,2,3,4,5,6,7,8,9,10,11,12,13,14] [] [9] [0,1,2,3,5,7,10,11,12,13,14] (sp [(9,Sp.one (.tuple #[J (eR gr.a a.name a.part).1,J (eR gr.a a.name a.part).2]))]) N N N N Nq (cJ _) ?_
 refine aw Z Z Z Z Z (fun w' hw'=>Yp Z)<|aw Z Z Z Z Z (fun w' hw'=>aG Z)<|aw Z Z Z Z Z (fun w' hw'=>Zf aV Z)<|aw Z Z Z Z Z (fun w' hw'=>Zf i5 Z)<|aw Z Z Z Z Z (fun w' hw'=>jl 5 [J (gr.clock),J (gr.wait),J (gr.gen),.slice gr.mA gr.ms.length gr.mC,.slice gr.oA gr.os.length gr.oC] aN Z Z ((H.later hw').ent (i:=2) Z) Z)<|aw Z Z Z Z Z (fun w' hw'=>Zf fe Z)<|aw Z Z Z Z Z (fun w' hw'=>aX bc Z (aD ((H.later hw').ent (i:=1) Z) Z))<|aw Z Z Z Z Z (fun w' hw'=>Zf dW Z)<|aw Z Z Z Z Z (fun w' hw'=>aX ak Z (aD ((H.later hw').ent (i:=1) Z) Z))<|hJ mH Z Z Z Z Z (fun w' hw'=>r8 gr a.name a.part w' (Hp.grM (H.later hw') hgr) hgi.ok hnm) Z<|aw Z Z Z Z Z (fun w' hw'=>Yu Z)<|aw Z Z Z Z Z (fun w' hw'=>Xi Z Z)<|aw Z Z Z Z Z (fun w' hw'=>Xi Z Z)<|aw Z Z Z Z Z (fun w' hw'=>Wi Z)<|aw Z Z Z Z Z (fun w' hw'=>Wi Z)<|aQ ?_
 intro w4 hw' hF
 replace H:=H.later hw';clear hw' hF
 refine U<|W<|W<|Zr<|G (Yi Z)<|G (ce Z Z I)<|U<|ZF Z<|Zk<|W ?_
 refine GY ci [12,13,14,15,16,17,18,19] [] [0,1,2,3,5,7,9,10]<|jz [0,1,2,3,4,5,6,7,8,9,10,11] [12,13,14,15,16,17,18,19] [] [0,1,2,3,5,7,9,10] 7 _ N N N Nq<|aw Z Z Z Z Z (fun w' hw'=>Yp Z)<|aw Z Z Z Z Z (fun w' hw'=>aG Z)<|aw Z Z Z Z Z (fun w' hw'=>Zf aV Z)<|aw Z Z Z Z Z (fun w' hw'=>Zf dx Z)<|aw Z Z Z Z Z (fun w' hw'=>aX d3 Z (aD ((H.later hw').ent (i:=2) Z) Z))<|aw Z Z Z Z Z (fun w' hw'=>Zf dW Z)<|aw Z Z Z Z Z (fun w' hw'=>aX ak Z (aD ((H.later hw').ent (i:=1) Z) Z))<|aw Z Z Z Z Z (fun w' hw'=>bV (k:=n) gV Z (congrArg (Value.int .i64) hna) (by first|omega|(simp only[aa];omega)))<|aw Z Z Z Z Z (fun w' hw'=>oM aH row hq Z Z ((H.later hw').ent (i:=3) Z))<|aw Z Z Z Z Z (fun w' hw'=>Yi Z)<|aw Z Z Z Z Z (fun w' hw'=>Zf eT Z)<|aw Z Z Z Z Z (fun w' hw'=>aX ak Z (aD ((H.later hw').ent (i:=1) Z) Z))<|aQ ?_
 intro w5 hw' _;replace H:=H.later hw';clear hw'
 refine bu 12 N Z<|ch sJ ((by have hA:=Ki q.p fr m l r _ (Hp.paM H (hps q hqm)) hok hl1 hl2 I I I;rw[<-hfr,<-hnm2]at hA;exact hA)) Z Z ?_
 rintro _ w6 ⟨sb,out,bt,A7,c7,hst7,hrd7,rfl,hr7,hc7,hb7⟩;replace H:=H.learnRd hb7 hr7;clear hr7 hb7
 refine U<|bC 13 N N N Z Z Z Z Nq (fun _=>Yu Z)<|bC 14 N N N Z Z Z Z Nq (fun _=>Xs Z Z)<|bC 15 N N N Z Z Z Z Nq (fun _=>Xi Z Z)<|bC 16 N N N Z Z Z Z Nq (fun _=>Xi Z Z)<|bC 17 N N N Z Z Z Z Nq (fun _=>Ws Z)<|bC 18 N N N Z Z Z Z Nq (fun _=>Wi Z)<|bC 19 N N N Z Z Z Z Nq (fun _=>Wi Z)<|aZ N<|W<|W<|Zr<|G (Yi Z)<|G (ce Z Z (by decide))<|U<|ZF Z<|Zk<|W<|Zr<|G (Yi Z)<|G (Ys Z)<|G (bn (cs:= #[J (0),J ((bt:Nat)),.slice A7 out.length c7]) iI dp N)<|bg H 0 (#[J (0),J ((bt:Nat)),.slice A7 out.length c7]) aP Z Z Z Z Z N N fun w7 H=>U<|Zt ?_
 exact eS (cs0:= #[J (0),J ((bt:Nat)),.slice A7 out.length c7]) Z aM Z (H.ent (i:=0) Z) Z ⟨_,A7,c7,_,_,hP _ _ _ hst7 hrd7,rfl,hc7,Bw.shut (X:=[(b4,_),(b3,_)]) row hsn hown (al _ hco) (al _ hgr) (fun q hq=>al _ (hps q hq)) (fun _ h=>h) H Z⟩
section
/-- an act that the laws play -/
structure ua (np nr:Nat) (a:Act):Prop where
 kind:1<=a.kind/\a.kind<=20/\a.kind≠17
 name:a.kind=1∨a.kind=16∨a.kind=18∨a.kind=19∨a.kind=20->bQ a.name=true
 part:0<=a.part/\a.part<np
 n:0<=a.n/\a.n<=1000
 rep:8<=a.kind->a.kind<=15->a.n<nr
 fin:a.kind=5->a.n<=1
 poll:a.kind=19->1<=a.n/\a.n<=20
 m:0<=a.m/\a.m<=1000
 text:a.text.size<=40
 lost:0<=a.lost/\a.lost<=2
def wZ (w:Wa) (a:Act):Wa×An:=
 if a.kind=1 then oV w a else if a.kind=2 then kY w a else if a.kind=3∨a.kind=4 then mX w a (decide (a.kind=4))else if a.kind=5 then jX w a else
 if a.kind=6 then n7 w a else if a.kind=7 then xW w a else if a.kind<=15 then uV w a else Bj w a
inductive D9 (w:Wa) (a:Act):Wa->An->Prop
 |poll (x:An):a.kind=19->qN w a x->D9 w a w x
 |other:a.kind≠19->D9 w a (wZ w a).1 (wZ w a).2
def Jz (p:gE):Prop:= ∀ (i:Nat) (x:RA),p.reps[i]? =some x->FL x.es
theorem Jz.set {p:gE} (h:Jz p) {r:Nat} {x':RA} (hx:FL x'.es):Jz {p with reps:=p.reps.set r x'}:=fun i y hy=>by
 rcases eY hy with⟨_,rfl⟩|⟨_,hy⟩
 exact hx
 exact h i y hy
theorem Jz.adv {p:gE} (h:Jz p):Jz (nJ p):=fun i y hy=>by
 obtain⟨z,hz,he,-,-⟩:=D5 hy
 rw[he];exact h i z hz
def Gt (K:List cQ) (m n:Nat) (few:Int) (p:gE):Prop:=Gd (fun _=>True) K m n few p/\Jz p
theorem Gv {K:List cQ} {p:gE} (h:yU K p) {i j:Nat} {x y:RA} (hx:p.reps[i]? =some x) (hy:p.reps[j]? =some y):x.es.take (ei x.es y.es)=y.es.take (ei x.es y.es):=by
 cases hc:ei x.es y.es with
 |zero=>simp
 |succ c=>
  obtain⟨e,f,h1,h2,h3⟩:=vB (a:=x.es) (b:=y.es) (k:=c) I
  exact h.lm i j x y c e f hx hy h1 h2 h3
theorem I2 {K:List cQ} {p:gE} {r:Nat} (hp:p.ok) (hi:yU K p) (h:Jz p) (he:(i4 p r).2.2=0):Jz (i4 p r).1:=by
 obtain⟨x,y,l,hx,hl,hne,hu,hy⟩:=Cw hp he
 rw[uv hx hl hne hu hy]
 have hm:=Gv hi hx hy
 intro i z hz
 rcases eY hz with⟨_,rfl⟩|⟨_,hz⟩
 unfold jY
 split
 rename_i z hz
 dsimp only
 rw[hm,<-fi hz];exact(h l y hy).take _
 dsimp only
 exact(h r x hx).take _
 rcases eY hz with⟨_,rfl⟩|⟨_,hz⟩
 exact h l y hy
 exact h i z hz
variable {K:List cQ} {m n:Nat} {few:Int} {p:gE} {r:Nat}
theorem NG {e:cQ} (h:Gt K m n few p) (hm:m<400) (he:(eH p e).2.2=0): ∃ K',K<+:K'/\Gt K' (m+1) n few (eH p e).1:=by
 obtain⟨K',h1,h2⟩:=NH h.1 trivial hm he
 refine⟨K',h1,h2,?_⟩
 obtain⟨x,l,hl,hx,hg,hv,hS⟩:=Hm he
 rcases hS with⟨-,hS,-⟩|⟨hv1,-,hS,-⟩
 rw[hS];exact h.2
 rw[hS];exact h.2.set (.snoc (h.2 l x hx) hv hv1)
theorem Mf {a:Act} (h:Gt K m n few p) (he:(lL p a).2.2=0): ∃ K',K<+:K'/\Gt K' m n few (lL p a).1:=by
 unfold lL at he⊢
 split at he
 rename_i c;rw[if_pos c]
 obtain⟨K',h1,h2⟩:=KX h.1 he
 exact⟨K',h1,h2,I2 h.1.ok h.1.inv h.2 he⟩
 rename_i c;rw[if_neg c];clear c
 split at he
 rename_i c;rw[if_pos c]
 obtain⟨K',h1,h2⟩:=LU h.1 he
 refine⟨K',h1,h2,?_⟩
 obtain⟨x,hx,hu,hS⟩:=Ej he
 dsimp only at hS⊢
 rw[hS]
 have:=h.2 _ x hx
 split
 exact Jz.adv (fun i y hy=>by
  rcases eY hy with⟨_,rfl⟩|⟨_,hy⟩
  exact this
  exact h.2 i y hy)
 exact h.2.set this
 rename_i c;rw[if_neg c];clear c
 split at he
 rename_i c;rw[if_pos c]
 obtain⟨K',h1,h2⟩:=Li h.1 he
 refine⟨K',h1,h2,?_⟩
 obtain⟨x,hx,hu,hS⟩:=CB he
 dsimp only at hS⊢
 rw[hS]
 intro i y hy
 rcases eY hy with⟨_,rfl⟩|⟨_,hy⟩
 exact(h.2 _ x hx).take _
 exact h.2 i y hy
 rename_i c;rw[if_neg c];clear c
 split at he
 rename_i c;rw[if_pos c]
 obtain⟨K',h1,h2⟩:=Md h.1 he
 refine⟨K',h1,h2,?_⟩
 obtain⟨x,hx,hu,hS⟩:=EA he
 dsimp only at hS⊢
 rw[hS]
 exact h.2.set (h.2 _ x hx)
 rename_i c;rw[if_neg c];clear c
 split at he
 rename_i c;rw[if_pos c]
 obtain⟨K',h1,h2⟩:=LO h.1 he
 refine⟨K',h1,h2,?_⟩
 obtain⟨x,hx,hu,-,hS⟩:=Ea he
 dsimp only at hS⊢
 rw[hS]
 intro i y hy
 rcases eY hy with⟨_,rfl⟩|⟨_,hy⟩
 exact .nil
 exact h.2 i y hy
 rename_i c;rw[if_neg c];clear c
 split at he
 rename_i c;rw[if_pos c]
 obtain⟨K',h1,h2⟩:=Ld h.1 he
 refine⟨K',h1,h2,?_⟩
 obtain⟨x,hx,-,-,-,-,hS⟩:=Cz h.1.ok.isrl he
 dsimp only at hS⊢
 rw[hS]
 exact Jz.adv fun i y hy=>h.2 i y hy
 rename_i c;rw[if_neg c];clear c
 split at he
 rename_i c;rw[if_pos c]
 obtain⟨K',h1,h2⟩:=Ih h.1 he
 refine⟨K',h1,h2,?_⟩
 obtain⟨-,-,hS⟩:=zv he
 dsimp only at hS⊢
 rw[hS]
 exact Jz.adv fun i y hy=>h.2 i y hy
 rename_i c;rw[if_neg c]
 obtain⟨K',h1,h2⟩:=I3 h.1 he
 refine⟨K',h1,h2,?_⟩
 obtain⟨x,-,-,-,-,-,hS⟩:=Az he
 dsimp only at hS⊢
 rw[hS]
 exact fun i y hy=>h.2 i y hy
structure LI (np nr:Nat) (few:Int) (k:Nat) (K:Nat->List cQ) (ps:List gE):Prop where
 len:ps.length=np
 gt: ∀ (n:Nat) (p:gE),ps[n]? =some p->Gt (K n) k nr few p
theorem Gt.mono (h:Gt K m n few p) {m':Nat} (hm:m<=m'):Gt K m' n few p:=⟨h.1.mono hm,h.2⟩
theorem LI.more {np nr k k':Nat} {few:Int} {K:Nat->List cQ} {ps:List gE} (h:LI np nr few k K ps) (hk:k<=k'):LI np nr few k' K ps:=⟨h.len,fun n p hp=>(h.gt n p hp).mono hk⟩
def Up (K K':Nat->List cQ):Prop:= ∀ n,K n<+:K' n
theorem Up.refl (K:Nat->List cQ):Up K K:=fun _=>fu _
theorem Up.trans {K K' K2:Nat->List cQ} (h:Up K K') (h':Up K' K2):Up K K2:=fun n=>(h n).trans (h' n)
theorem LI.set {np nr k:Nat} {few:Int} {K:Nat->List cQ} {ps:List gE} (h:LI np nr few k K ps) {n:Nat} {p':gE} (hg: ∃ K',K n<+:K'/\Gt K' k nr few p'): ∃ K',Up K K'/\LI np nr few k K' (ps.set n p'):=by
 obtain⟨K1,h1,h2⟩:=hg
 refine⟨fun i=>if i=n then K1 else K i,fun i=> ?_,by rw[aa];exact h.len,fun i q hq=> ?_⟩
 dsimp only
 split
 rename_i hi;rw[hi];exact h1
 exact fu _
 rcases eY hq with⟨rfl,rfl⟩|⟨hi,hq⟩
 rw[if_pos Z];exact h2
 rw[if_neg hi];exact h.gt i q hq
structure JA (np k:Nat) (s:Sn):Prop where
 nm:bQ s.name=true
 sl:s.seqs.length=np
 ll:s.last.length=np
 sq: ∀ q∈s.seqs,0<=q/\q<=k
structure BV (np k:Nat) (l:List Sn):Prop where
 each: ∀ s∈l,JA np k s
 few:l.length<=k
theorem JA.more {np k k':Nat} {s:Sn} (h:JA np k s) (hk:k<=k'):JA np k' s:=⟨h.nm,h.sl,h.ll,fun q hq=>by have:=h.sq q hq;omega⟩
theorem BV.more {np k k':Nat} {l:List Sn} (h:BV np k l) (hk:k<=k'):BV np k' l:=⟨fun s hs=>(h.each s hs).more hk,aS h.few hk⟩
theorem BV.set {np k i:Nat} {l:List Sn} {s:Sn} (h:BV np k l) (hs:JA np k s):BV np k (l.set i s):=⟨fun x hx=>by
 rcases bH hx with hx|rfl
 exact h.each x hx
 exact hs,by rw[aa];exact h.few⟩
structure WI (np nr:Nat) (few wt:Int) (k:Nat) (K:Nat->List cQ) (w:Wa):Prop where
 ps:LI np nr few k K w.ps
 co:oI k w.co
 gr:qQ (fun _=>True) wt np k w.gr
 sns:BV np k w.sns
theorem WI.more {np nr k k':Nat} {few wt:Int} {K:Nat->List cQ} {w:Wa} (h:WI np nr few wt k K w) (hk:k<=k'):WI np nr few wt k' K w:=⟨h.ps.more hk,h.co.more hk,h.gr.more hk,h.sns.more hk⟩
theorem DM {l:List Sn} {s:ByteArray} {i:Nat} {x:Sn} (h:((fl l s).bind fun i=>l[i]?.map fun s=>(i,s))=some (i,x)):l[i]? =some x/\x.name=s:=by
 cases hf:fl l s with
 |none=>rw[hf]at h;cases h
 |some j=>
  rw[hf]at h
  obtain⟨hl,h1,-⟩:=bh.1 hf
  simp only[fT,ai hl,eX,lv,Prod.mk.injEq]at h
  obtain⟨rfl,rfl⟩:=h
  exact⟨ai hl,by simpa using h1⟩
end
abbrev PU:ByteArray:=⟨#[100,101,101]⟩
def wt2 (k:Nat):Co:=⟨0,2,k,[⟨PU,1,0,2,[1],0,0,none,0⟩],none,0⟩
section
variable {np nr k:Nat} {few wt:Int} {K:Nat->List cQ} {w:Wa} {a:Act}
theorem Mx {s:ByteArray} (h:bQ s=true) (pid ver:Int) (np k:Nat):JA np k (uW s pid ver np):=⟨h,by simp[uW],by simp[uW],fun q hq=>by
 have:q=0:=by
  unfold uW at hq
  exact fF hq
 omega⟩
theorem Mi {l:List Sn} {s:Sn} (h:BV np k l) (hs:JA np (k+1) s):BV np (k+1) (EB l s):=by
 unfold EB
 split
 refine⟨fun x hx=> ?_,by have:=h.few;simp;omega⟩
 rcases ax.1 hx with hx|hx
 exact(h.each x hx).more (bE k)
 rw[au.1 hx];exact hs
 exact(h.more (bE k)).set hs
theorem oK (h:WI np nr few wt k K w) (e:Int): ∃ K',Up K K'/\WI np nr few wt (k+1) K' (l5 w e).1:=⟨K,Up.refl K,h.more (bE k)⟩
theorem MK (h:WI np nr few wt k K w) (hk:k<400) (hn:bQ a.name=true): ∃ K',Up K K'/\WI np nr few wt (k+1) K' (oV w a).1:=by
 unfold oV
 split
 rename_i h0
 exact⟨K,Up.refl K,h.ps.more (bE k),Hz h.co I hn h0,h.gr.more (bE k),Mi h.sns (by rw[h.ps.len];exact Mx hn ..)⟩
 exact oK h _
theorem Lk (h:WI np nr few wt k K w): ∃ K',Up K K'/\WI np nr few wt (k+1) K' (kY w a).1:=by
 unfold kY
 split
 exact oK h _
 rename_i i s hf
 split
 exact oK h _
 have hs:=h.sns.each s (ah (DM hf).1)
 exact⟨K,Up.refl K,h.ps.more (bE k),h.co.more (bE k),h.gr.more (bE k),(h.sns.set (s:={s with inn:=true}) ⟨hs.nm,hs.sl,hs.ll,hs.sq⟩).more (bE k)⟩
theorem Ka (h:LI np nr few k K w.ps) (hk:k<400) (n:Nat) (x:cQ):(∃ K',Up K K'/\LI np nr few (k+1) K' (uA w n x).1.ps)/\(uA w n x).1.co=w.co/\(uA w n x).1.gr=w.gr/\(uA w n x).1.sns=w.sns:=by
 unfold uA
 split
 exact⟨⟨K,Up.refl K,h.more (bE k)⟩,rfl,rfl,rfl⟩
 rename_i p hp
 split
 rename_i h0
 exact⟨(h.more (bE k)).set (NG (h.gt n p hp) hk h0),rfl,rfl,rfl⟩
 exact⟨⟨K,Up.refl K,h.more (bE k)⟩,rfl,rfl,rfl⟩
theorem Jd (h:LI np nr few k K w.ps) (hc:oI k w.co) (hk:k<400) (s:Sn) {n:Nat} (hn:n<4):(∃ K',Up K K'/\LI np nr few (k+1) K' (eu w s n).1.ps)/\oI (k+1) (eu w s n).1.co/\(eu w s n).1.gr=w.gr/\(eu w s n).1.sns=w.sns:=by
 unfold eu
 split
 exact⟨⟨K,Up.refl K,h.more (bE k)⟩,hc.more (bE k),rfl,rfl⟩
 rename_i x hx
 split
 rename_i h0
 obtain⟨h1,h2,h3,h4⟩:=Ka (w:={w with co:=(rS w s n x).1}) h hk n x
 refine⟨h1,?_,h3,h4⟩
 rw[h2]
 show oI (k+1) (rS w s n x).1
 unfold rS at h0⊢
 split
 rename_i ht
 rw[if_pos ht]at h0
 exact HO hc I I h0
 exact hc.more (bE k)
 exact⟨⟨K,Up.refl K,h.more (bE k)⟩,hc.more (bE k),rfl,rfl⟩
theorem Ky {s:Sn} (h:JA np k s) (n:Nat) (t:ByteArray):JA np (k+1) (pS s n t):=⟨h.nm,by unfold pS;simp[h.sl],by unfold pS;simp[h.ll],fun q hq=>by
 rcases bH hq with hq|rfl
 have:=h.sq q hq;omega
 by_cases hn:n<s.seqs.length
 have:=h.sq (s.seqs.getD n 0) (by rw[cf,ai hn];exact vo hn);omega
 have:s.seqs.getD n 0=0:=by rw[cf,cL I];rfl
 omega⟩
theorem Mb (h:WI np nr few wt k K w) (hk:k<400) (hp:0<=a.part/\a.part<np) (h4:np<=4) (again:Bool): ∃ K',Up K K'/\WI np nr few wt (k+1) K' (mX w a again).1:=by
 unfold mX
 split
 exact oK h _
 rename_i i s hf
 split
 exact oK h _
 have hs:=h.sns.each s (ah (DM hf).1)
 have hs1:JA np (k+1) (if again then s else pS s a.part.toNat a.text):=by
  split
  exact hs.more (bE k)
  exact Ky hs _ _
 generalize (if again then s else pS s a.part.toNat a.text)=s1 at hs1
 have hl:BV np (k+1) (w.sns.set i s1):=(h.sns.more (bE k)).set hs1
 dsimp only
 split
 exact⟨K,Up.refl K,h.ps.more (bE k),h.co.more (bE k),h.gr.more (bE k),hl⟩
 obtain⟨⟨K',h1,h2⟩,h3,h5,h6⟩:=Jd (w:={w with sns:=w.sns.set i s1}) h.ps h.co hk s1 (n:=a.part.toNat) I
 exact⟨K',h1,h2,h3,by rw[h5];exact h.gr.more (bE k),by rw[h6];exact hl⟩
theorem Lf {s:Sn} (h:JA np k s):JA np k (vM s):=⟨h.nm,h.sl,by unfold vM;simp[h.ll],h.sq⟩
theorem I1 (h:WI np nr few wt k K w): ∃ K',Up K K'/\WI np nr few wt (k+1) K' (jX w a).1:=by
 unfold jX
 split
 exact oK h _
 rename_i i s hf
 split
 exact oK h _
 split
 exact oK h _
 have hs:=h.sns.each s (ah (DM hf).1)
 split
 rename_i h0
 refine⟨K,Up.refl K,h.ps.more (bE k),HE h.co h0,h.gr.more (bE k),?_⟩
 dsimp only
 split
 exact(h.sns.set (Lf hs)).more (bE k)
 exact h.sns.more (bE k)
 exact⟨K,Up.refl K,h.more (bE k)⟩
theorem MB (h:WI np nr few wt k K w) (hk:k<400): ∃ K',Up K K'/\WI np nr few wt (k+1) K' (n7 w a).1:=by
 unfold n7
 split
 exact oK h _
 rename_i t ht
 obtain⟨⟨i,hf⟩,h34,hp,h0,h4⟩:=Ci h.co.ok ht
 obtain⟨⟨K',h1,h2⟩,h3,h5,h6⟩:=Ka h.ps hk (t.parts.headD 0).toNat (de t)
 split
 exact⟨K',h1,h2,Fy h.co (GW hf h34 hp),by rw[h5];exact h.gr.more (bE k),by rw[h6];exact h.sns.more (bE k)⟩
 exact⟨K',h1,h2,by rw[h3];exact h.co.more (bE k),by rw[h5];exact h.gr.more (bE k),by rw[h6];exact h.sns.more (bE k)⟩
theorem LS (h:WI np nr few wt k K w) (hk:k<400) (h4:np<=4) (hn:0<=a.n/\a.n<=1000): ∃ K',Up K K'/\WI np nr few wt (k+1) K' (xW w a).1:=by
 unfold xW
 exact⟨K,Up.refl K,h.ps.more (bE k),Ei h.co I hn.1 (by unfold je;rw[if_neg I]),by dsimp only;rw[h.ps.len];exact h.gr.tick h4 I hn.1 hn.2,h.sns.more (bE k)⟩
theorem Me (h:WI np nr few wt k K w): ∃ K',Up K K'/\WI np nr few wt (k+1) K' (uV w a).1:=by
 unfold uV
 split
 exact oK h _
 rename_i p hp
 split
 rename_i h0
 obtain⟨K',h1,h2⟩:=h.ps.set (Mf (h.ps.gt _ p hp) h0)
 exact⟨K',h1,h2.more (bE k),h.co.more (bE k),h.gr.more (bE k),h.sns.more (bE k)⟩
 exact oK h _
theorem NO (h:WI np nr few wt k K w) (hk:k<400) (h4:np<=4) (hn:a.kind=16->bQ a.name=true) (hm:0<=a.m): ∃ K',Up K K'/\WI np nr few wt (k+1) K' (Bj w a).1:=by
 unfold Bj
 split
 rename_i h0
 refine⟨K,Up.refl K,h.ps.more (bE k),h.co.more (bE k),?_,h.sns.more (bE k)⟩
 show qQ _ wt np (k+1) (Gu w a).1
 unfold Gu at h0⊢
 rw[h.ps.len]at h0⊢
 split
 rename_i c
 rw[if_pos c]at h0
 exact h.gr.join h4 I (hn c) trivial h0
 rename_i c;rw[if_neg c]at h0
 split
 rename_i c2
 rw[if_pos c2]at h0
 exact h.gr.beat h0
 rename_i c2
 rw[if_neg c2]at h0
 exact h.gr.store hm h0
 exact oK h _
theorem Ob (h:WI np nr few wt k K w) (hk:k<400) (h4:np<=4) (g:ua np nr a) {w':Wa} {x:An} (hA:D9 w a w' x): ∃ K',Up K K'/\WI np nr few wt (k+1) K' w':=by
 cases hA with
 |poll x h19 hp=>exact⟨K,Up.refl K,h.more (bE k)⟩
 |other h19=>
  unfold wZ
  split
  rename_i c;exact MK h hk (g.name (.inl c))
  split
  exact Lk h
  split
  exact Mb h hk g.part h4 _
  split
  exact I1 h
  split
  exact MB h hk
  split
  exact LS h hk h4 g.n
  split
  exact Me h
  exact NO h hk h4 (fun c=>g.name (.inr (.inl c))) g.m.1
def sk (np nr:Nat) (few wt:Int):Wa:=⟨av np (na nr few.toNat),⟨0,1,wt,[],none,0⟩,⟨0,wt,0,[],none,0,[],none,0⟩,[]⟩
theorem Hu {few:Nat} (n1:1<=nr) (n5:nr<=5) (f1:1<=few) (f2:few<=nr) (w1:1<=wt) (w2:wt<=1000):WI np nr few wt 0 (fun _=>[]) (sk np nr few wt):=by
 refine⟨⟨by simp[sk],fun n p hp=> ?_⟩,⟨gK.2 ⟨⟨(by decide:iS 0=true),by simp[sk],by simp[sk],w1,w2,by simp[sk]⟩,by simp[sk],by simp[sk,vr]⟩,by simp[sk],by simp[sk],by simp[sk]⟩,My _ np w1 w2,⟨by simp[sk],by simp[sk]⟩⟩
 have hpe:p=na nr few:=by
  unfold sk at hp
  simp only[fU]at hp
  split at hp
  cases hp;simp
  cases hp
 rw[hpe]
 refine⟨Dd n1 n5 f1 f2,?_⟩
 intro i x hx
 unfold na at hx
 simp only[fU]at hx
 split at hx
 cases hx;exact .nil
 cases hx
end
section
theorem Ir {es:List cQ} {n st a most b b':Nat} {out out':List ByteArray} (h:AS es n st a most out b) (h':AS es n st a most out' b'):out=out'/\b=b':=by
 obtain⟨h1,h2,h3,h4,h5,h6⟩:=h
 obtain⟨g1,g2,g3,g4,g5,g6⟩:=h'
 have hb:b=b':=by
  rcases Nat.lt_trichotomy b b' with hlt|he|hlt
  have:=g6 b h1 hlt
  rw[<-h3]at this
  omega
  exact he
  have:=h6 b' g1 hlt
  rw[<-g3]at this
  omega
 subst hb
 exact⟨h3.trans g3.symm,rfl⟩
theorem Is {p:gE} {a most:Nat} {x y:An} (h:CK p a most x) (h':CK p a most y):x=y:=by
 cases h with
 |none h1=>
  cases h' with
  |none=>rfl
  |range l r g1=>omega
  |ok l r st out b g1=>omega
 |range l r h1 h2 h3=>
  cases h' with
  |none g1=>omega
  |range=>rfl
  |ok l' r' st out b g1 g2 g3=>
   have:l'=l:=by omega
   subst this
   rw[h2]at g2;cases g2;omega
 |ok l r st out b h1 h2 h3 h4 h5=>
  cases h' with
  |none g1=>omega
  |range l' r' g1 g2 g3=>
   have:l'=l:=by omega
   subst this
   rw[h2]at g2;cases g2;omega
  |ok l' r' st' out' b' g1 g2 g3 g4 g5=>
   have:l'=l:=by omega
   subst this
   rw[h2]at g2;cases g2
   have:=GE h4 g4
   subst this
   obtain⟨rfl,rfl⟩:=Ir h5 g5
   rfl
theorem Iy {w:Wa} {a:Act} {x y:An} (h:qN w a x) (h':qN w a y):x=y:=by
 cases h with
 |no h1=>
  cases h' with
  |no=>rfl
  |yes p x g1=>exact absurd g1 h1
 |yes p x h1 h2 h3=>
  cases h' with
  |no g1=>exact absurd h1 g1
  |yes p' y g1 g2 g3=>
   rw[h2]at g2;cases g2
   exact Is h3 g3
theorem LG {w:Wa} {a:Act} {w1 w2:Wa} {x y:An} (h:D9 w a w1 x) (h':D9 w a w2 y):w1=w2/\x=y:=by
 cases h with
 |poll x h1 h2=>
  cases h' with
  |poll y g1 g2=>exact⟨rfl,Iy h2 g2⟩
  |other g1=>exact absurd h1 g1
 |other h1=>
  cases h' with
  |poll y g1 g2=>exact absurd g1 h1
  |other g1=>exact⟨rfl,rfl⟩
inductive nK:Wa->List Act->List An->Wa->Prop
 |nil (w:Wa):nK w [] [] w
 |cons {w w1 w2:Wa} {a:Act} {x:An} {l:List Act} {xs:List An}:D9 w a w1 x->nK w1 l xs w2->nK w (a::l) (x::xs) w2
theorem nK.app {w w1 w2:Wa} {l m:List Act} {xs ys:List An} (h:nK w l xs w1) (h':nK w1 m ys w2):nK w (l++m) (xs++ys) w2:=by
 induction h with
 |nil=>exact h'
 |cons h1 _ ih=>exact .cons h1 (ih h')
theorem nK.snoc {w w1 w2:Wa} {l:List Act} {a:Act} {xs:List An} {x:An} (h:nK w l xs w1) (h':D9 w1 a w2 x):nK w (l++[a]) (xs++[x]) w2:=h.app (.cons h' (.nil _))
theorem nK.len {w w1:Wa} {l:List Act} {xs:List An} (h:nK w l xs w1):xs.length=l.length:=by
 induction h with
 |nil=>rfl
 |cons _ _ ih=>simp[ih]
theorem nK.det {w w1 w2:Wa} {l:List Act} {xs ys:List An} (h:nK w l xs w1) (h':nK w l ys w2):xs=ys/\w1=w2:=by
 induction h generalizing ys w2 with
 |nil=>cases h';exact⟨rfl,rfl⟩
 |cons h1 _ ih=>
  cases h' with
  |cons g1 g2=>
   obtain⟨rfl,rfl⟩:=LG h1 g1
   obtain⟨rfl,rfl⟩:=ih g2
   exact⟨rfl,rfl⟩
theorem nK.split {w w2:Wa} {l m:List Act} {xs:List An} (h:nK w (l++m) xs w2): ∃ ys zs w1,xs=ys++zs/\nK w l ys w1/\nK w1 m zs w2:=by
 induction l generalizing w xs with
 |nil=>exact⟨[],xs,w,rfl,.nil w,h⟩
 |cons a l ih=>
  cases h with
  |cons h1 h2=>
   obtain⟨ys,zs,w1,rfl,h3,h4⟩:=ih h2
   exact⟨_::ys,zs,w1,rfl,.cons h1 h3,h4⟩
theorem nK.later {w w1 w2:Wa} {l m:List Act} {xs ys:List An} (h:nK w l xs w1) (h':nK w (l++m) ys w2): ∃ zs,ys=xs++zs:=by
 obtain⟨us,zs,w3,rfl,h1,h2⟩:=h'.split
 obtain⟨rfl,-⟩:=h.det h1
 exact⟨zs,rfl⟩
variable {np nr k:Nat} {few wt:Int} {K:Nat->List cQ} {w:Wa}
theorem J2 {w w1:Wa} {l:List Act} {xs:List An} (h:nK w l xs w1): ∀ {k:Nat} {K:Nat->List cQ},WI np nr few wt k K w->k+l.length<=400->np<=4->(∀ a∈l,ua np nr a)-> ∃ K',Up K K'/\WI np nr few wt (k+l.length) K' w1:=by
 induction h with
 |nil=>intro k K hw _ _ _;exact⟨K,Up.refl K,hw⟩
 |@cons w wa wb a x l xs h1 _ ih=>
  intro k K hw hk h4 hg
  simp only[bS]at hk
  obtain⟨K1,u1,i1⟩:=Ob hw I h4 (hg a (aC ..)) h1
  obtain⟨K2,u2,i2⟩:=ih i1 I h4 fun b hb=>hg b (al _ hb)
  exact⟨K2,u1.trans u2,by simpa [kZ,r4 1]using i2⟩
theorem LP (h:WI np nr few wt k K w):(∀ p∈w.ps,p.ok)/\w.ps.length=np/\gi w.co=true/\kV w.gr=true:=
 ⟨fun p hp=>by obtain⟨n,hn⟩:=aU.1 hp;exact(h.ps.gt n p hn).1.ok,h.ps.len,h.co.ok,h.gr.ok⟩
end
section
/-- what an act yields -/
def AU (b:Bk) (a:Act) (w0:World) (bb:Nat) (K:List (Nat×Obj)) (F:List cz) (v:Value) (w2:World):Prop:=
 ∃ (b':Bk) (x:An) (A:Option Addr) (c lo hi:Nat),D9 b.a a b'.a x/\v=.agg #[J x.code,J x.n,.slice A x.texts.length c]/\x.texts.length<=c/\xb w0 w2 bb b' K (dT m6 lo hi A x.texts::F)
theorem t5 {b:Bk} {a:Act} {w0 w:World} {bb:Nat} {K:List (Nat×Obj)} {F:List cz} {f:FuncId} {args:List Value} {s:Wa×An} (h19:a.kind≠19) (hs:wZ b.a a=s) (ht:s.2.texts=[]) (h:dg ab f args w fun v w2=> ∃ b':Bk,oJ s.2 v w2/\b'.a=s.1/\xb w0 w2 bb b' K F):dg ab f args w (AU b a w0 bb K F):=
 h.mono fun v w2 ⟨b',⟨A,c,h1,h2,_⟩,h4,h5⟩=>⟨b',s.2,A,c,0,0,by rw[h4,<-hs];exact .other h19,h1,h2,by rw[ht];exact h5.nil A⟩
variable {w0 w:World} {bb gP:Nat} {b:Bk} {uP:Array Value} {Ls Lo K:List (Nat×Obj)} {F:List cz} {np nr k:Nat} {few wt:Int} {M:Nat->List cQ} {a:Act}
theorem Bw.facts (_:Bw w0 w bb b gP uP Ls Lo K F) (hw:WI np nr few wt k M b.a) (hk:k<400):b.ps.length=np/\b.sns.length<=1000000/\oI k b.co/\qQ (fun _=>True) wt np k b.gr/\ ∀ q∈b.ps,q.p.a.ok/\q.p.reps.length=nr/\ ∀ (l:Nat) (y:fg),q.p.leader=l->q.p.reps[l]? =some y->y.es.length<400:=by
 have h1:=hw.ps.len
 have h2:=hw.sns.few
 rw[show b.a.ps=b.ps.map fun q=>q.p.a from rfl,bI]at h1
 rw[show b.a.sns=b.sns.map Sn.a from rfl,bI]at h2
 refine⟨h1,by omega,oI.of_a hw.co,qQ.of_a hw.gr,fun q hq=> ?_⟩
 obtain⟨n,hn⟩:=aU.1 hq
 have hg:=(hw.ps.gt n q.p.a (by rw[show b.a.ps=b.ps.map fun q=>q.p.a from rfl,aL,hn];rfl)).1
 refine⟨hg.ok,by have:=hg.len;rwa[show q.p.a.reps=q.p.reps.map fg.a from rfl,bI]at this,fun l y _ hy=> ?_⟩
 have:=hg.small l y.a (by rw[show q.p.a.reps=q.p.reps.map fg.a from rfl,aL,hy];rfl)
 have:y.es.length<=k:=this
 omega
theorem Bw.sender (hw:WI np nr few wt k M b.a) {i:Nat} {x:Sn} (hx:b.sns[i]? =some x):bQ x.name=true/\x.seqs.length=np/\x.last.length=np/\ ∀ q∈x.seqs,0<=q/\q<=k:=by
 have h:=hw.sns.each x.a (bP (f:=Sn.a) (ah hx))
 exact⟨h.nm,h.sl,h.ll,h.sq⟩
theorem yk (w:Wa) (a:Act):(oV w a).2.texts=[]:=by unfold oV;split<;>rfl
theorem wU (w:Wa) (a:Act):(kY w a).2.texts=[]:=by
 unfold kY
 split
 rfl
 split<;>rfl
theorem xY (w:Wa) (a:Act) (ag:Bool):(mX w a ag).2.texts=[]:=by
 unfold mX
 split
 rfl
 split
 rfl
 dsimp only
 split
 rfl
 exact lD _ (kr ..)
theorem vc (w:Wa) (a:Act):(jX w a).2.texts=[]:=by
 unfold jX
 split
 rfl
 split
 rfl
 split
 rfl
 split<;>exact lD _ Z
theorem yg (w:Wa) (a:Act):(n7 w a).2.texts=[]:=by
 unfold n7
 split
 rfl
 split<;>exact zz ..
theorem yb (w:Wa) (a:Act):(uV w a).2.texts=[]:=by
 unfold uV
 split
 rfl
 split<;>rfl
theorem zN (w:Wa) (a:Act):(Bj w a).2.texts=[]:=by unfold Bj;split<;>rfl
theorem pG (a:Act) (w:Wa):(a.kind=1->wZ w a=oV w a)/\(a.kind=2->wZ w a=kY w a)/\(a.kind=3∨a.kind=4->wZ w a=mX w a (decide (a.kind=4)))/\(a.kind=5->wZ w a=jX w a)/\(a.kind=6->wZ w a=n7 w a)/\(a.kind=7->wZ w a=xW w a)/\(8<=a.kind/\a.kind<=15->wZ w a=uV w a)/\(16<=a.kind->wZ w a=Bj w a):=by
 unfold wZ
 refine⟨fun h=> ?_,fun h=> ?_,fun h=> ?_,fun h=> ?_,fun h=> ?_,fun h=> ?_,fun h=> ?_,fun h=> ?_⟩<;>(repeat (first|rw[if_pos I]|rw[if_neg I]))
theorem NS (A B C X K:List (Nat×Obj)):(A++(B++(C++(X++K)))).Perm (X++(A++(B++(C++K)))):=by
 rw[show A++(B++(C++(X++K)))=(A++B++C)++(X++K) by simp,show A++(B++(C++K))=(A++B++C)++K by simp]
 exact fX (A++B++C) X K
theorem Bw.into {w2:World} (B:Bw w0 w bb b gP uP Ls Lo K F) (X:List (Nat×Obj)) (H:Hp w0 w2 (X++((bb,.cells b.c.toArray bO (0,0))::(gP,.cells uP bM (0,0))::(Ls++(Lo++K)))) F):Bw w0 w2 bb b gP uP Ls Lo (X++K) F:=
 ⟨B.pA,B.row,B.sn,B.own,B.co,B.gr,B.ps,H.perm (NS [(bb,_),(gP,_)] Ls Lo X K)⟩
theorem Bw.out {X:List (Nat×Obj)} (B:Bw w0 w bb b gP uP Ls Lo (X++K) F):Hp w0 w (X++((bb,.cells b.c.toArray bO (0,0))::(gP,.cells uP bM (0,0))::(Ls++(Lo++K)))) F:=B.H.perm (NS [(bb,_),(gP,_)] Ls Lo X K).symm
theorem Bw.at_ {w2:World} {K1:List (Nat×Obj)} (B:Bw w0 w bb b gP uP Ls Lo K1 F) (X:List (Nat×Obj)) (H:Hp w0 w2 (X++((bb,.cells b.c.toArray bO (0,0))::(gP,.cells uP bM (0,0))::(Ls++(Lo++K)))) F):Bw w0 w2 bb b gP uP Ls Lo K F:=
 ⟨B.pA,B.row,B.sn,B.own,B.co,B.gr,B.ps,H.forget (cu X _) (fun _ h=>h)⟩
theorem y4 {l:List Sn} {s:ByteArray} {i:Nat} (h:fl l s=some i): ∃ x,l[i]? =some x:=by
 obtain⟨x,h1,-⟩:=FZ h
 exact⟨x,h1⟩
theorem KK (B:Bw w0 w bb b gP uP Ls Lo K F) (hw:WI np nr few wt k M b.a) (hk:k<400) (h4:np<=4) (g:ua np nr a) (h1:1<=np) (hkd:a.kind=1):dg ab kc [.pointer (Qd bb),a.v] w (AU b a w0 bb K F):=by
 obtain⟨hln,hsl,hcb,hgi,hpk⟩:=B.facts hw hk
 refine t5 I ((pG a b.a).1 hkd) (yk ..) ?_
 cases hix:fl b.sns a.name with
 |none=>exact IU a B hsl (g.name (.inl hkd)) hcb I I I hix
 |some i=>
  obtain⟨x,hx⟩:=y4 hix
  exact IT a B hsl (g.name (.inl hkd)) hcb I I I hix hx
theorem Ji (B:Bw w0 w bb b gP uP Ls Lo K F) (hw:WI np nr few wt k M b.a) (hk:k<400) (_:np<=4) (_:ua np nr a) (hkd:a.kind=2):dg ab jR [.pointer (Qd bb),a.v] w (AU b a w0 bb K F):=by
 obtain⟨-,hsl,-⟩:=B.facts hw hk
 refine t5 I ((pG a b.a).2.1 hkd) (wU ..) ?_
 cases hix:fl b.sns a.name with
 |none=>exact G2 a B hsl hix
 |some i=>
  obtain⟨x,hx⟩:=y4 hix
  exact G1 a B hsl hix hx
theorem Ew (B:Bw w0 w bb b gP uP Ls Lo K F) (hw:WI np nr few wt k M b.a) (hk:k<400) (h4:np<=4) (g:ua np nr a) (hkd:a.kind=3∨a.kind=4):dg ab iT [.pointer (Qd bb),a.v,.bool (decide (a.kind=4))] w (AU b a w0 bb K F):=by
 obtain⟨hln,hsl,hcb,-,hpk⟩:=B.facts hw hk
 refine t5 I ((pG a b.a).2.2.1 hkd) (xY ..) ?_
 have hpn:=g.part
 cases hix:fl b.sns a.name with
 |none=>exact In a B hsl (decide (a.kind=4)) hix
 |some i=>
  obtain⟨x,hx⟩:=y4 hix
  obtain⟨s1,s2,s3,s4⟩:=Bw.sender hw hx
  have hpk2:=fun(q:Pq) hq=>(⟨(hpk q hq).1,(hpk q hq).2.2⟩:q.p.a.ok/\ ∀ (l:Nat) (y:fg),q.p.leader=(l:Int)->q.p.reps[l]? =some y->y.es.length<400)
  by_cases h4k:a.kind=4
  rw[decide_eq_true h4k]
  exact F6 a B hsl hix hx I g.lost I I I s1 hcb hpk2
  rw[decide_eq_false h4k]
  exact J1 a B hsl hix hx I g.lost I I I s1 hcb hpk2 g.text (fun q hq=>by have:=s4 q hq;omega)
theorem Au (B:Bw w0 w bb b gP uP Ls Lo K F) (hw:WI np nr few wt k M b.a) (hk:k<400) (h4:np<=4) (g:ua np nr a) (hkd:a.kind=5):dg ab jx [.pointer (Qd bb),a.v] w (AU b a w0 bb K F):=by
 obtain⟨-,hsl,hcb,-⟩:=B.facts hw hk
 refine t5 I ((pG a b.a).2.2.2.1 hkd) (vc ..) ?_
 cases hix:fl b.sns a.name with
 |none=>exact Fp a B hsl hix
 |some i=>
  obtain⟨x,hx⟩:=y4 hix
  obtain⟨s1,-,s3,-⟩:=Bw.sender hw hx
  exact Fo a B hsl hix hx g.lost ⟨g.n.1,g.fin hkd⟩ I s1 hcb
theorem EU (B:Bw w0 w bb b gP uP Ls Lo K F) (hw:WI np nr few wt k M b.a) (hk:k<400) (_:np<=4) (g:ua np nr a) (hkd:a.kind=6):dg ab kb [.pointer (Qd bb),a.v] w (AU b a w0 bb K F):=by
 obtain⟨-,-,hcb,-,hpk⟩:=B.facts hw hk
 refine t5 I ((pG a b.a).2.2.2.2.1 hkd) (yg ..) ?_
 have hpk2:=fun(q:Pq) hq=>(⟨(hpk q hq).1,(hpk q hq).2.2⟩:q.p.a.ok/\ ∀ (l:Nat) (y:fg),q.p.leader=(l:Int)->q.p.reps[l]? =some y->y.es.length<400)
 cases hne:g8 b.co.a.txs a.n.toNat with
 |none=>exact IK a B hcb g.n hne
 |some t=>exact IJ a B hcb g.n hpk2 hne
theorem Eh (B:Bw w0 w bb b gP uP Ls Lo K F) (hw:WI np nr few wt k M b.a) (hk:k<400) (h4:np<=4) (g:ua np nr a) (hkd:a.kind=7):dg ab oe [.pointer (Qd bb),a.v] w (AU b a w0 bb K F):=by
 obtain⟨hln,-,hcb,hgi,-⟩:=B.facts hw hk
 refine t5 I ((pG a b.a).2.2.2.2.2.1 hkd) Z ?_
 exact JL a B hcb I g.n hgi I
theorem wg (B:Bw w0 w bb b gP uP Ls Lo K F) (hw:WI np nr few wt k M b.a) (hk:k<400) (_:np<=4) (g:ua np nr a) (hkd:8<=a.kind/\a.kind<=15):dg ab li [.pointer (Qd bb),a.v] w (AU b a w0 bb K F):=by
 obtain⟨hln,-,-,-,hpk⟩:=B.facts hw hk
 refine t5 I ((pG a b.a).2.2.2.2.2.2.1 hkd) (yb ..) ?_
 have hpn:=g.part
 exact J5 a B I ⟨g.n.1,fun q hq=>by have:=g.rep hkd.1 hkd.2;have:=(hpk q hq).2.1;omega⟩ g.m (fun q hq=>(hpk q hq).1)
theorem qE (B:Bw w0 w bb b gP uP Ls Lo K F) (hw:WI np nr few wt k M b.a) (hk:k<400) (h4:np<=4) (g:ua np nr a) (hkd:a.kind=16∨a.kind=18∨a.kind=20):dg ab lR [.pointer (Qd bb),a.v] w (AU b a w0 bb K F):=by
 obtain⟨hln,-,-,hgi,-⟩:=B.facts hw hk
 refine t5 I ((pG a b.a).2.2.2.2.2.2.2 I) (zN ..) ?_
 exact Mz a B I I (g.name I) g.m hgi I
theorem nY (B:Bw w0 w bb b gP uP Ls Lo K F) (hw:WI np nr few wt k M b.a) (hk:k<400) (_:np<=4) (g:ua np nr a) (hkd:a.kind=19):dg ab gx [.pointer (Qd bb),a.v] w (AU b a w0 bb K F):=by
 obtain⟨hln,-,-,hgi,hpk⟩:=B.facts hw hk
 have hpn:=g.part
 have hnm:=g.name I
 have hpo:=fun q hq=>(hpk q hq).1
 have hq: ∃ q,b.ps[a.part.toNat]? =some q:=⟨_,ai I⟩
 obtain⟨q,hq⟩:=hq
 refine dg.mono (R:=fun v w2=> ∃ (x:An) (A:Option Addr) (c lo hi:Nat),qN b.a a x/\v=.agg #[J x.code,J x.n,.slice A x.texts.length c]/\x.texts.length<=c/\xb w0 w2 bb b K (dT m6 lo hi A x.texts::F)) ?_ fun v w2 ⟨x,A,c,lo,hi,h1,h2,h3,h4⟩=>⟨b,x,A,c,lo,hi,.poll x hkd h1,h2,h3,h4⟩
 by_cases hw0:(eR b.gr.a a.name a.part).2=0
 have hqok:=(hpk q (ah hq)).1
 by_cases hl:q.p.leader<0
 exact Ix a B hnm I (g.poll hkd) hgi hpo hw0 (fun q' h=>by rw[hq]at h;cases h;exact hl)
 obtain⟨l,hl2⟩: ∃ l:Nat,q.p.leader=l:=⟨q.p.leader.toNat,by omega⟩
 have hld1:q.p.leader<((q.p.reps.map fg.a).length:Nat):=hqok.ld1
 rw[bI]at hld1
 obtain⟨y,hy⟩: ∃ y,q.p.reps[l]? =some y:=⟨_,ai I⟩
 have hld: ∀ q',b.ps[a.part.toNat]? =some q'->q'.p.leader=l/\q'.p.reps[l]? =some y:=fun q' h=>by rw[hq]at h;cases h;exact⟨hl2,hy⟩
 by_cases hle:(eR b.gr.a a.name a.part).1.toNat<=y.es.length
 exact Mk a B hnm I (g.poll hkd) hgi hpo hw0 hld hle
 exact Gf a B hnm I (g.poll hkd) hgi hpo hw0 hld I
 exact Ml a B hnm I hgi hw0
end
end Go.Proofs.YtclibalpdhhhfaaGreat
