/- Part 3 of the proofs over this seat: what its theorems say holds for every input that they name. -/
import Derived.Test.YtclibalpdhhhfaaGreatFF2
namespace Go.Proofs.YtclibalpdhhhfaaGreat
open Go Go.Eng Go.RowKit
open Go.Eng renaming nG→U, BH→W, KA→Zr, OL→Zk, Rh→Zt, QD→Zb, QW→Zx, Rr→Yi, Rs→Yb, Rp→Ys, Rq→Yp, Ro→Yt, Rm→Yu, RH→Wi, RI→Wb, RF→Ws, RG→Wp, RE→Wt, Rv→Zf, Ry→Xi, RC→Xa, Rz→Xb, Q3→Kt, Q4→N, pV→ZT, oQ→ZF
open Go.Proofs.Tryz renaming prog→aa
open _root_.List renaming mem_of_getElem?→ab,length_set→ae,getElem?_eq_getElem→ah,mem_cons_of_mem→aj,getElem?_set_self→al,mem_append→ap,mem_singleton→aq,mem_cons→ax,length_append→ay,mem_cons_self→az,getElem?_eq_some_iff→aA,sublist_append_left→aC,append_assoc→aD,length_take→aI,getElem?_map→aL,mem_or_eq_of_mem_set→aM,findIdx?_eq_some_iff_getElem→aS,mem_iff_getElem?→aT,append_nil→aZ,map_append→bl,mem_map→bp,length_map→bJ,take_length→bN,length_singleton→bO,mem_map_of_mem→bS,eq_nil_of_length_eq_zero→bT,length_cons→bV,getElem?_append_right→bX,length→ci,mem_append_right→cj,sublist_append_right→cr,map_set→cE,getElem?_eq_none→cL,findIdx?_eq_none_iff→cV,getElem?_take→dm,getElem?_drop→dx,length_drop→dI,pairwise_cons→dY,mem_singleton_self→d5,all_eq_true→eh,ext_getElem?→en,drop_of_length_le→eo,map_cons→ey,set_set→fy,drop_length→fA,perm_append_comm_assoc→gb,pairwise_map→gm,take_append_drop→gQ,mem_append_left→iv,filter_append→jj,set_append_right→jk,filter_eq_self→j4,filter_cons_of_pos→ka,drop_drop→kb,nodup_cons→kX,nil_append→kY,mem_filter→kZ,getElem?_set→lD,pairwise_append→mj,drop_zero→ml,map_nil→mB,pairwise_iff_getElem→m8,headD_eq_head?_getD→nw,filter_cons_of_neg→oX,head?_eq_getElem?→py,getElem?_zipWith→qx,perm_middle→qz,cons_append→qA,drop_set_of_lt→sk,map_map→sw,filter_eq_nil_iff→wF,take_zero→zh,mem_of_mem_take→zi,take_set_of_le→zS,getElem?_range→zU,drop_succ_cons→zV,find?_eq_none→B5,findIdx?_map→DK
open _root_.List.Perm renaming swap→am
open _root_.Nat renaming le_refl→ao,le_trans→aU,min_eq_left→bu,zero_le→bG,zero_add→cJ,add_mul→cR,mul_le_mul_right→dp,one_mul→gL,lt_or_ge→iT,le_of_lt→mz,add_zero→su,zero_mul→wD
open _root_.List.Sublist renaming refl→ar,cons_cons→pB
open _root_.Bool renaming and_eq_true→aR,true_and→hJ,not_eq_true'→pD,eq_iff_iff→xO
open _root_.Option.some renaming inj→ba,injEq→lB
open _root_.Array renaming length_toList→cn
open _root_.Option renaming map_some→eY,bind_some→fx,map_eq_some_iff→iS
open _root_.Int renaming le_refl→fj
open _root_.List.Mem renaming head→fM,tail→qK
set_option maxHeartbeats 4000000
set_option maxRecDepth 20000
set_option linter.unusedSimpArgs false
set_option linter.unusedVariables false
set_option linter.unusedSectionVars false
theorem sL {β:Type} (X A C:List β):(X++A++C).Perm (A++(X++C)):=by
 rw[aD]
 exact gb X A C
theorem sM (l:List Mem):(l.map Mem.a).map Mem.name=l.map Mem.name:=by rw[sw];rfl
theorem Nd (ms:List Mem) (p:Nat):(pn ms p).map Mem.a=pn (ms.map Mem.a) p:=by
 unfold pn
 rw[sM,List.map_zipWith,List.zipWith_map_left]
 rfl
theorem BP (ms:List Mem) (p:Nat):(pn ms p).length=ms.length:=by
 unfold pn
 rw[List.length_zipWith,oS,bJ];omega
theorem BO {ms:List Mem} {p:Nat} {m:Mem} (h:m∈pn ms p): ∃ i,m.parts=mI (ms.map Mem.name) p i:=by
 obtain⟨i,hi⟩:=aT.1 h
 have hl:=(cC hi).1
 rw[BP]at hl
 obtain⟨x,hx⟩: ∃ x,ms[i]? =some x:=⟨_,ah hl⟩
 have hp:(gO (ms.map Mem.name) p)[i]? =some (mI (ms.map Mem.name) p i):=by
  unfold gO
  rw[aL,bJ,zU hl];rfl
 rw[Nc hx hp]at hi
 injection hi with hi
 exact⟨i,by rw[<-hi]⟩
def IA (g:Gr) (p:Nat):Gr:={g with gen:=g.gen+1,ms:=pn g.ms p}
def Eg (s:ByteArray) (ck:Int):Mem:=⟨s,ck,[],none,0,0,0⟩
theorem Je {w w2:World} {ck wt gn:Int} {ms' l:List Mem} {mA oA:Option Addr} {mC oC p:Nat} {os:List mw} {Lm Lo:List (Nat×Obj)} (ha:ms'.map Mem.a=pn (l.map Mem.a) p) (hl:l.length<=6) (hp:p<=4) (hol:os.length<=4) (ho:gz jW (.slice mA ms'.length mC) df ms' Lm) (hoo:gz f6 (.slice oA os.length oC) ef os Lo) (hoc:os.length<=oC) (hc: ∀ m∈ms',m.parts.length<=m.cap/\w.heap.size<=m.lo) (H:Hp w w2 (Lm++Lo) (ms'.map nE)):zf w w2 ⟨ck,wt,gn,ms',mA,mC,os,oA,oC⟩:=by
 have hml:ms'.length=l.length:=by have:=congrArg ci ha;rw[BP]at this;simpa using this
 have hmc:ms'.length<=mC:=by
  obtain⟨_,c,e,h,_⟩:=ho.form
  injection e with _ _ e
  rw[e];exact h
 refine rc.new (ga:=Gr.a ⟨ck,wt,gn,ms',mA,mC,os,oA,oC⟩) ⟨rfl,ho,hoo,hmc,hoc,hc,H⟩ (by dsimp only;omega) (by dsimp only;omega) fun m hm=> ?_
 have h1:m.a∈pn (l.map Mem.a) p:=ha▸bS hm
 obtain⟨i,hi⟩:=BO h1
 have h2:m.parts=mI ((l.map Mem.a).map Mem.name) p i:=hi
 rw[h2]
 have:=yP ((l.map Mem.a).map Mem.name) p i
 omega
theorem HS (g:Gr) (s:ByteArray) (p:Nat) (w:World) (h:g.rd 0 w.heap.size w) (hok:lM g=true) (hn:bL s=true) (hp:p<=4) (hg1:g.gen<1073741824) (i:Nat) (hi:qg g s=i):dh aa pN [g.v,.string s,J (p:Nat)] w fun v w2=>v=.tuple #[.agg #[J 0,J 0,J 0,.slice none 0 0,.slice none 0 0],J 6]/\Below w.heap.size w w2:=by
 refine aE rI Z Z ?_
 have hmC:=h.mC
 have hoC:=h.oC
 have hfew:=h.few
 have hfp:=h.fewP
 have H:=Hp.startGr h
 obtain⟨ck,wt,gn,ms,mA,mC,os,oA,oC⟩:=g
 dsimp only at hmC hoC hfew hfp H
 show CW _ _ _ _ (args [.agg #[J (ck),J (wt),J (gn),.slice mA ms.length mC,.slice oA os.length oC],.string (s),J (((p:Nat):Int))]) w
 obtain⟨⟨⟨k1,k2⟩,k3,k4,⟨k5,k6⟩,k7,k8⟩,⟨hmo,hap⟩,hof,hor⟩:=dy.1 hok
 dsimp only at k1 k2 k3 k4 k5 k6 k7 k8 hg1
 refine W<|Zr<|f7 H Z Z fun w1 b3 H=>eP H d8 Z fun w2 b6 H=>G (Wi Z)<|U<|W<|Zr<|G (Zw aQ H 1 Z Z Z)<|G (Yt Z)<|ch gy (mR ⟨ck,wt,gn,ms,mA,mC,os,oA,oC⟩ s _ ⟨H.rd0 0 Z,fun m hm=>zL H 1 Z hm,H.rd0 2 Z,hmC,hoC,hfew,hfp⟩ hok hn) Z Z ?_
 rintro _ w3 ⟨⟨ck2,wt2,gn2,ms2,mA2,mC2,os2,oA2,oC2⟩,Lm,Lo,rfl,ha2,ho2,hoo2,hmc2,hoc2,hpc2,hj2⟩
 have hlo2:=H.size
 replace H:=Hp.joinG H hj2 (fun m hm=>(hpc2 m hm).2);clear hj2
 simp only[Gr.a,Gr.mk.injEq]at ha2
 obtain⟨e1,e2,e3,hma,-,-,e4,-,-⟩:=ha2
 obtain rfl:ck=ck2:=e1.symm
 obtain rfl:wt=wt2:=e2.symm
 obtain rfl:gn=gn2:=e3.symm
 obtain rfl:os=os2:=e4.symm
 dsimp only at ho2 hoo2 hmc2 hoc2 hpc2 H
 replace hpc2: ∀ m∈ms2,m.parts.length<=m.cap/\w.heap.size<=m.lo:=fun m hm=>⟨(hpc2 m hm).1,aU hlo2 (hpc2 m hm).2⟩
 have hml2:ms2.length=ms.length:=by have:=congrArg ci hma;simpa using this
 rw[hi]
 refine G (Yu Z)<|G (Xa Z Z)<|G (Xi Z Z)<|G (Xi Z Z)<|bo H 1 (#[J (ck),J (wt),J (gn),.slice mA2 ms2.length mC2,.slice oA2 os.length oC2]) bD Z Z Z Z Z N N fun w4 H=>G (Wi Z)<|G (Wi Z)<|U<|W<|Zb<|W<|Zr<|G (Yi Z)<|G (bZ Z Z Z)<|G (Wb Z)<|U<|ZF Z<|W<|Zr<|G (Zw aQ H 1 Z Z Z)<|G (Yi Z)<|ch kS (sY ⟨ck,wt,gn,ms2,mA2,mC2,os,oA2,oC2⟩ p _) Z Z ?_
 rw[show i7 ⟨ck,wt,gn,ms2,mA2,mC2,os,oA2,oC2⟩ p=true by unfold i7;simp;omega]
 rintro _ w5 ⟨rfl,hb⟩;replace H:=H.later hb;clear hb
 refine G (dM Z)<|G (Wb Z)<|U<|ZF Z<|W<|Zr<|G (Yi Z)<|G (PV Z Z I)<|G (Wb Z)<|U<|ZT Z<|W<|Zr<|G (bg (cs:= #[J (0),J (0),J (0),.slice none 0 0,.slice none 0 0]) kc d8 N)<|bo H 0 (#[J (0),J (0),J (0),.slice none 0 0,.slice none 0 0]) bD Z Z Z Z Z N N fun w6 H=>G (Wi Z)<|U<|Zt ?_
 exact bE (cs0:= #[J 0,J 0,J 0,.slice none 0 0,.slice none 0 0]) (v1:=J 6) Z aQ Z (H.ent (i:=0) Z) Z Z ⟨rfl,H.below⟩
theorem J8 (g:Gr) (s:ByteArray) (p:Nat) (w:World) (h:g.rd 0 w.heap.size w) (hok:lM g=true) (hn:bL s=true) (hp:p<=4) (hg1:g.gen<1073741824) (hi:qg g s= -1) (hf:g.ms.length=6):dh aa pN [g.v,.string s,J (p:Nat)] w fun v w2=>v=.tuple #[.agg #[J 0,J 0,J 0,.slice none 0 0,.slice none 0 0],J 16]/\Below w.heap.size w w2:=by
 refine aE rI Z Z ?_
 have hmC:=h.mC
 have hoC:=h.oC
 have hfew:=h.few
 have hfp:=h.fewP
 have H:=Hp.startGr h
 obtain⟨ck,wt,gn,ms,mA,mC,os,oA,oC⟩:=g
 dsimp only at hmC hoC hfew hfp H
 show CW _ _ _ _ (args [.agg #[J (ck),J (wt),J (gn),.slice mA ms.length mC,.slice oA os.length oC],.string (s),J (((p:Nat):Int))]) w
 obtain⟨⟨⟨k1,k2⟩,k3,k4,⟨k5,k6⟩,k7,k8⟩,⟨hmo,hap⟩,hof,hor⟩:=dy.1 hok
 dsimp only at k1 k2 k3 k4 k5 k6 k7 k8 hg1
 dsimp only at hf
 refine W<|Zr<|f7 H Z Z fun w1 b3 H=>eP H d8 Z fun w2 b6 H=>G (Wi Z)<|U<|W<|Zr<|G (Zw aQ H 1 Z Z Z)<|G (Yt Z)<|ch gy (mR ⟨ck,wt,gn,ms,mA,mC,os,oA,oC⟩ s _ ⟨H.rd0 0 Z,fun m hm=>zL H 1 Z hm,H.rd0 2 Z,hmC,hoC,hfew,hfp⟩ hok hn) Z Z ?_
 rintro _ w3 ⟨⟨ck2,wt2,gn2,ms2,mA2,mC2,os2,oA2,oC2⟩,Lm,Lo,rfl,ha2,ho2,hoo2,hmc2,hoc2,hpc2,hj2⟩
 have hlo2:=H.size
 replace H:=Hp.joinG H hj2 (fun m hm=>(hpc2 m hm).2);clear hj2
 simp only[Gr.a,Gr.mk.injEq]at ha2
 obtain⟨e1,e2,e3,hma,-,-,e4,-,-⟩:=ha2
 obtain rfl:ck=ck2:=e1.symm
 obtain rfl:wt=wt2:=e2.symm
 obtain rfl:gn=gn2:=e3.symm
 obtain rfl:os=os2:=e4.symm
 dsimp only at ho2 hoo2 hmc2 hoc2 hpc2 H
 replace hpc2: ∀ m∈ms2,m.parts.length<=m.cap/\w.heap.size<=m.lo:=fun m hm=>⟨(hpc2 m hm).1,aU hlo2 (hpc2 m hm).2⟩
 have hml2:ms2.length=ms.length:=by have:=congrArg ci hma;simpa using this
 rw[hi]
 refine G (Yu Z)<|G (Xa Z Z)<|G (Xi Z Z)<|G (Xi Z Z)<|bo H 1 (#[J (ck),J (wt),J (gn),.slice mA2 ms2.length mC2,.slice oA2 os.length oC2]) bD Z Z Z Z Z N N fun w4 H=>G (Wi Z)<|G (Wi Z)<|U<|W<|Zb<|W<|Zr<|G (Yi Z)<|G (bZ Z Z Z)<|G (Wb Z)<|U<|ZF Z<|W<|Zr<|G (Zw aQ H 1 Z Z Z)<|G (Yi Z)<|ch kS (sY ⟨ck,wt,gn,ms2,mA2,mC2,os,oA2,oC2⟩ p _) Z Z ?_
 rw[show i7 ⟨ck,wt,gn,ms2,mA2,mC2,os,oA2,oC2⟩ p=true by unfold i7;simp;omega]
 rintro _ w5 ⟨rfl,hb⟩;replace H:=H.later hb;clear hb
 refine G (dM Z)<|G (Wb Z)<|U<|ZF Z<|W<|Zr<|G (Yi Z)<|G (rD Z Z (by decide))<|G (Wb Z)<|U<|ZF Z<|W<|Zr<|G (Zf dK Z)<|G (Zd du H 1 Z Z Z)<|G (br gB Z)<|G (lQ Z Z I)<|G (Wb Z)<|U<|ZT Z<|W<|Zr<|G (bg (cs:= #[J (0),J (0),J (0),.slice none 0 0,.slice none 0 0]) kc d8 N)<|bo H 0 (#[J (0),J (0),J (0),.slice none 0 0,.slice none 0 0]) bD Z Z Z Z Z N N fun w6 H=>G (Wi Z)<|U<|Zt ?_
 exact bE (cs0:= #[J 0,J 0,J 0,.slice none 0 0,.slice none 0 0]) (v1:=J 16) Z aQ Z (H.ent (i:=0) Z) Z Z ⟨rfl,H.below⟩
theorem Oz (g:Gr) (s:ByteArray) (p:Nat) (w:World) (h:g.rd 0 w.heap.size w) (hok:lM g=true) (hn:bL s=true) (hp:p<=4) (hg1:g.gen<1073741824) (hi:qg g s= -1) (hf:g.ms.length≠6):dh aa pN [g.v,.string s,J (p:Nat)] w fun v w2=> ∃ g':Gr,v=.tuple #[g'.v,J 0]/\g'.a=IA {g.a with ms:=g.a.ms++[Eg s g.clock]} p/\zf w w2 g':=by
 refine aE rI Z Z ?_
 have hmC:=h.mC
 have hoC:=h.oC
 have hfew:=h.few
 have hfp:=h.fewP
 have H:=Hp.startGr h
 obtain⟨ck,wt,gn,ms,mA,mC,os,oA,oC⟩:=g
 dsimp only at hmC hoC hfew hfp H
 show CW _ _ _ _ (args [.agg #[J (ck),J (wt),J (gn),.slice mA ms.length mC,.slice oA os.length oC],.string (s),J (((p:Nat):Int))]) w
 obtain⟨⟨⟨k1,k2⟩,k3,k4,⟨k5,k6⟩,k7,k8⟩,⟨hmo,hap⟩,hof,hor⟩:=dy.1 hok
 dsimp only at k1 k2 k3 k4 k5 k6 k7 k8 hg1
 dsimp only at hf
 refine W<|Zr<|f7 H Z Z fun w1 b3 H=>eP H d8 Z fun w2 b6 H=>G (Wi Z)<|U<|W<|Zr<|G (Zw aQ H 1 Z Z Z)<|G (Yt Z)<|ch gy (mR ⟨ck,wt,gn,ms,mA,mC,os,oA,oC⟩ s _ ⟨H.rd0 0 Z,fun m hm=>zL H 1 Z hm,H.rd0 2 Z,hmC,hoC,hfew,hfp⟩ hok hn) Z Z ?_
 rintro _ w3 ⟨⟨ck2,wt2,gn2,ms2,mA2,mC2,os2,oA2,oC2⟩,Lm,Lo,rfl,ha2,ho2,hoo2,hmc2,hoc2,hpc2,hj2⟩
 have hlo2:=H.size
 replace H:=Hp.joinG H hj2 (fun m hm=>(hpc2 m hm).2);clear hj2
 simp only[Gr.a,Gr.mk.injEq]at ha2
 obtain⟨e1,e2,e3,hma,-,-,e4,-,-⟩:=ha2
 obtain rfl:ck=ck2:=e1.symm
 obtain rfl:wt=wt2:=e2.symm
 obtain rfl:gn=gn2:=e3.symm
 obtain rfl:os=os2:=e4.symm
 dsimp only at ho2 hoo2 hmc2 hoc2 hpc2 H
 replace hpc2: ∀ m∈ms2,m.parts.length<=m.cap/\w.heap.size<=m.lo:=fun m hm=>⟨(hpc2 m hm).1,aU hlo2 (hpc2 m hm).2⟩
 have hml2:ms2.length=ms.length:=by have:=congrArg ci hma;simpa using this
 rw[hi]
 refine G (Yu Z)<|G (Xa Z Z)<|G (Xi Z Z)<|G (Xi Z Z)<|bo H 1 (#[J (ck),J (wt),J (gn),.slice mA2 ms2.length mC2,.slice oA2 os.length oC2]) bD Z Z Z Z Z N N fun w4 H=>G (Wi Z)<|G (Wi Z)<|U<|W<|Zb<|W<|Zr<|G (Yi Z)<|G (bZ Z Z Z)<|G (Wb Z)<|U<|ZF Z<|W<|Zr<|G (Zw aQ H 1 Z Z Z)<|G (Yi Z)<|ch kS (sY ⟨ck,wt,gn,ms2,mA2,mC2,os,oA2,oC2⟩ p _) Z Z ?_
 rw[show i7 ⟨ck,wt,gn,ms2,mA2,mC2,os,oA2,oC2⟩ p=true by unfold i7;simp;omega]
 rintro _ w5 ⟨rfl,hb⟩;replace H:=H.later hb;clear hb
 refine G (dM Z)<|G (Wb Z)<|U<|ZF Z<|W<|Zr<|G (Yi Z)<|G (rD Z Z (by decide))<|G (Wb Z)<|U<|ZF Z<|W<|Zr<|G (Zf dK Z)<|G (Zd du H 1 Z Z Z)<|G (br gB Z)<|G (nS Z Z I)<|G (Wb Z)<|U<|ZF Z<|Zk<|W<|Zr<|G (Zf dK Z)<|G (Zd du H 1 Z Z Z)<|G (Yt Z)<|G (Zf jG Z)<|G (Zd ak H 1 Z Z Z)<|G (bg (cs:= #[.string (s),J (ck),.slice none 0 0]) JA tJ N)<|s9 (vs:=[.agg #[.string (s),J (ck),.slice none 0 0]]) H eG tJ Z Z Z Z Z Z fun w6 b44 H=>vP (Y:=jW) BS (K:=[(b44,.cells #[.string (s),J (ck),.slice none 0 0] df (0,0)),(b6,.cells #[J (0),J (0),J (0),.slice none 0 0,.slice none 0 0] cO (0,0)),(b3,.cells #[J (ck),J (wt),J (gn),.slice mA2 ms2.length mC2,.slice oA2 os.length oC2] cO (0,0))]) (L:=Lm) (M:=Lo) H ho2 (news:=[Eg s ck]) Z Z Z (wz.row (m:=1) (sz:=jW.sz) (H.ent (i:=0) Z) Z) (show(ms2.length+1)*48<=140737488355328 by omega) Z ?_
 intro A9 c9 w7 L9 h9 _ ho9 H
 have hl9:(ms2++[Eg s ck]).length<=6:=by rw[ay,bO];omega
 refine G (Zf dK Z)<|bo H 2 (#[J (ck),J (wt),J (gn),.slice A9 ((ms2++[Eg s ck]).length) c9,.slice oA2 os.length oC2]) tO Z Z Z Z Z N N fun w8 H=>U<|W<|Zr<|G (Zw aQ H 2 Z Z Z)<|G (Yi Z)<|ch qZ (ze ck wt gn (ms2++[Eg s ck]) A9 c9 os oA2 oC2 p (H.perm (sL [(b44,.cells #[.string (s),J (ck),.slice none 0 0] df (0,0)),(b6,.cells #[J (0),J (0),J (0),.slice none 0 0,.slice none 0 0] cO (0,0)),(b3,.cells #[J (ck),J (wt),J (gn),.slice A9 ((ms2++[Eg s ck]).length) c9,.slice oA2 os.length oC2] cO (0,0))] L9 Lo).symm) ho9 I hp I I) Z Z ?_
 rintro _ w9 ⟨ms4,L4,rfl,ha4,ho4,hc4,H⟩
 replace H:=H.perm (sL [(b44,.cells #[.string (s),J (ck),.slice none 0 0] df (0,0)),(b6,.cells #[J (0),J (0),J (0),.slice none 0 0,.slice none 0 0] cO (0,0)),(b3,.cells #[J (ck),J (wt),J (gn),.slice A9 ((ms2++[Eg s ck]).length) c9,.slice oA2 os.length oC2] cO (0,0))] L4 Lo)
 rw[Nd]at ha4
 refine bo H 1 (#[J (ck),J (wt),J (gn+1),.slice A9 ms4.length c9,.slice oA2 os.length oC2]) bD Z Z Z Z Z N N fun w10 H=>G (Wi Z)<|U<|Zt ?_
 exact bE (cs0:= #[J (ck),J (wt),J (gn+1),.slice A9 ms4.length c9,.slice oA2 os.length oC2]) (v1:=J 0) Z aQ Z (H.ent (i:=1) Z) Z Z ⟨⟨ck,wt,gn+1,ms4,A9,c9,os,oA2,oC2⟩,rfl,by unfold Gr.a IA;dsimp only;rw[ha4,bl,hma];rfl,Je ha4 hl9 hp I ho4 hoo2 hoc2 hc4 (H.forget (by rw[aD];exact .cons _ (.cons _ (.cons _ (ar _)))) (fun f hf=>by simp only[ax,ap];grind))⟩
def tP (g:Gr) (n:Int) (m:Mem):Bool:=decide (g.wait<=g.clock+n-m.heard)
def p7 (g:Gr) (n:Int) (p:Nat):Gr:=if(g.ms.filter fun m=>!tP g n m).length=g.ms.length then{g with clock:=g.clock+n}else IA {g with clock:=g.clock+n,ms:=g.ms.filter fun m=>!tP g n m} p
theorem iR {ck:Int} {l l2:List Mem} (ha:l2.map Mem.a=l.map Mem.a) (hm: ∀ m∈l,vB ck m=true): ∀ m∈l2,m.parts.length<=4:=fun m hm2=>by
 have h1:m.a∈l.map Mem.a:=ha▸bS hm2
 obtain⟨x,hx,he⟩:=bp.1 h1
 have h2:=(jQ.1 (hm x hx)).2.2.2
 have h3:m.parts=x.parts:=(congrArg Mem.parts he).symm
 have:=mG h2
 rw[h3];omega
theorem MI {ck:Int} {l l2:List Mem} (ha:l2.map Mem.a=l.map Mem.a) (hm: ∀ m∈l,vB ck m=true): ∀ m∈l2,0<=m.heard/\m.heard<=ck:=fun m hm2=>by
 have h1:m.a∈l.map Mem.a:=ha▸bS hm2
 obtain⟨x,hx,he⟩:=bp.1 h1
 obtain⟨_,h2,h3,_⟩:=jQ.1 (hm x hx)
 have h4:m.heard=x.heard:=(congrArg Mem.heard he).symm
 rw[h4];exact⟨h2,h3⟩
theorem GE (l:List Mem) (f:Mem->Bool) (hf: ∀ m,f m.a=f m):(l.filter f).map Mem.a=(l.map Mem.a).filter f:=by
 rw[List.filter_map,show f∘Mem.a=f from funext hf]
theorem Im {α:Type} {l:List α} {f:α->Bool} (h:(l.filter f).length=l.length):l.filter f=l:=j4.2 (List.length_filter_eq_length_iff.1 h)
theorem Hf (m:Mem) (b:Nat) (ck wt gn:Int) (v3 v4:Value) (w:World) (hx:w.heap[b]? =some (.cells #[J ck,J wt,J gn,v3,v4] cO (0,0))) (h0:0<=m.heard) (h1:m.heard<=1073741824) (h2:0<=ck) (h3:ck<=1073741824):
  dh aa zo [.agg m.c.toArray,.pointer (Qd b)] w fun v w2=>v=.bool (decide (wt<=ck-m.heard))/\Below w.heap.size w w2:=by
 refine aE yp Z Z ?_
 have H:=Hp.start w
 have hb:=ce hx
 refine W<|Zr<|f7 H Z Z fun w1 b2 H=>G (Wb Z)<|U<|W<|Zr<|G (Zf jG Z)<|G (aW ak Z ((H.below.cell (p:=⟨b,_,none⟩) hb).trans (aB (j:=0) hx Z)))<|G (Zf qT Z)<|G (Zd ak H 0 Z Z Z)<|G (jf Z Z I I)<|G (Zf wq Z)<|G (aW ak Z ((H.below.cell (p:=⟨b,_,none⟩) hb).trans (aB (j:=1) hx Z)))<|G (ko Z Z)<|G (Wb Z)<|U<|Zt ?_
 exact cH Z Z ⟨rfl,H.below⟩
theorem M6 (A:Option Addr) (c:Nat) (w:World) {f:FuncId} {cap:List Value} (hf:bk aa f=true):dh aa fF [.slice A 0 c,.func (.func f) #[] cap.toArray] w fun v w2=>v=.slice A 0 c/\Below w.heap.size w w2:=by
 refine aE io Z Z ?_
 have H:=Hp.start w
 refine W<|Zr<|G (Ws Z)<|U<|W<|Zr<|G (Ys Z)<|G (tg Z)<|ch dq (fY [] A c _ Rd.nil (by simp) f cap hf (fun _=>false) (fun e w2 he _=>absurd he (by simp))) Z Z ?_
 rintro _ w1 ⟨rfl,hb⟩;replace H:=H.later hb;clear hb
 refine G (Wi Z)<|U<|W<|W<|Zr<|G (Yi Z)<|G (lQ Z Z Z)<|U<|ZT Z<|W<|Zr<|G (Ys Z)<|G (Ws Z)<|U<|Zt ?_
 exact cH (v:=.slice A 0 c) Z Z ⟨rfl,H.below⟩
theorem M7 {w0 w:World} {K M Lt:List (Nat×Obj)} {F:List cB} {ms:List Mem} {c:Nat} {A:Option Addr} (H:Hp w0 w (K++Lt++M) F) (ho:gz jW (.slice A ms.length c) df ms Lt) (h12:ms.length<=1000) {f:FuncId} {cap:List Value} (hf:bk aa f=true) (pred:Mem->Bool)
  (hp: ∀ e∈ms,∀ (w':World) (L':List (Nat×Obj)),Hp w0 w' (K++L'++M) F->dh aa f (.agg e.c.toArray::cap) w' fun v w2=>v=.bool (pred e)/\Below w'.heap.size w' w2):
  dh aa fF [.slice A ms.length c,.func (.func f) #[] cap.toArray] w fun v w2=> ∃ L',v=.slice A (ms.filter fun m=>!pred m).length c/\gz jW (.slice A (ms.filter fun m=>!pred m).length c) df (ms.filter fun m=>!pred m) L'/\Hp w0 w2 (K++L'++M) F:=by
 by_cases h0:ms.length=0
 have:=bT h0
 subst this
 exact(M6 A c w hf).mono fun v w2 ⟨h1,h2⟩=>⟨Lt,h1,ho,H.later h2⟩
 obtain⟨g,cur,rfl,rfl,row⟩:=ho.row I
 have hpm: ∀ u:Array Value,(K++[(g,Obj.cells u df (0,0))]++M).Perm ((g,Obj.cells u df (0,0))::(K++M)):=fun u=>by rw[aD];exact qz
 exact(OK ms c (H.perm (hpm cur).symm) row Z h12 hf pred fun e he w' u' H'=>hp e he w' _ (H'.perm (hpm u'))).mono fun v w2 ⟨u2,h1,h2,h3⟩=>⟨_,h1,dX.own (g:=g) (e:=df) h2,h3.perm (hpm u2)⟩
theorem Gq (g:Gr) (n:Int) (p:Nat) (w:World) (h:g.rd 0 w.heap.size w) (hok:lM g=true) (hp:p<=4) (hg1:g.gen<1073741824) (hn0:0<=n) (hn1:n<=1000) (hcl:g.clock+n<=1073741824):dh aa Ex [g.v,J n,J (p:Nat)] w fun v w2=> ∃ g':Gr,v=.tuple #[g'.v,J 0]/\g'.a=p7 g.a n p/\zf w w2 g':=by
 refine aE Cz Z Z ?_
 have hmC:=h.mC
 have hoC:=h.oC
 have hfew:=h.few
 have hfp:=h.fewP
 have H:=Hp.startGr h
 obtain⟨ck,wt,gn,ms,mA,mC,os,oA,oC⟩:=g
 dsimp only at hmC hoC hfew hfp H
 show CW _ _ _ _ (args [.agg #[J (ck),J (wt),J (gn),.slice mA ms.length mC,.slice oA os.length oC],J (n),J (((p:Nat):Int))]) w
 obtain⟨⟨⟨k1,k2⟩,k3,k4,⟨k5,k6⟩,k7,k8⟩,⟨hmo,hap⟩,hof,hor⟩:=dy.1 hok
 dsimp only at k1 k2 k3 k4 k5 k6 k7 k8 hmo
 dsimp only at hg1 hcl
 refine W<|Zr<|f7 H Z Z fun w1 b3 H=>eP H d8 Z fun w2 b6 H=>G (Wi Z)<|U<|W<|W<|Zr<|G (Zw aQ H 1 Z Z Z)<|ch uw (Dq ⟨ck,wt,gn,ms,mA,mC,os,oA,oC⟩ _ ⟨H.rd0 0 Z,fun m hm=>zL H 1 Z hm,H.rd0 2 Z,hmC,hoC,hfew,hfp⟩ hok) Z Z ?_
 rintro _ w3 ⟨rfl,hb⟩;replace H:=H.later hb;clear hb
 refine G (Wi Z)<|U<|W<|Zr<|G (Yi Z)<|G (bZ Z Z Z)<|U<|ZF Z<|Zk<|W<|W<|Zr<|G (Yi Z)<|G (dd Z Z I)<|G (Yb Z)<|ZG<|G (Yi Z)<|ZG<|G (eB Z Z I)<|G (N Z Z)<|G (Yb Z)<|ZG<|G (Zf jG Z)<|ZG<|G (Zd ak H 1 Z Z Z)<|ZG<|G (Yi Z)<|ZG<|G (bw Z Z I I)<|ZG<|G (eB Z Z I)<|G (N Z Z)<|G (Yb Z)<|ZG<|G (Zw aQ H 1 Z Z Z)<|ZG<|G (Yi Z)<|ZG<|ch kS (sY ⟨ck,wt,gn,ms,mA,mC,os,oA,oC⟩ p _) Z Z ?_
 rw[show i7 ⟨ck,wt,gn,ms,mA,mC,os,oA,oC⟩ p=true by unfold i7;simp;omega]
 rintro _ w4 ⟨rfl,hb⟩;replace H:=H.later hb;clear hb
 refine ZG<|G (dM Z)<|G (N Z Z)<|U<|ZF Z<|Zk<|W<|Zr<|G (Zw aQ H 1 Z Z Z)<|ch oc (xk ⟨ck,wt,gn,ms,mA,mC,os,oA,oC⟩ _ ⟨H.rd0 0 Z,fun m hm=>zL H 1 Z hm,H.rd0 2 Z,hmC,hoC,hfew,hfp⟩) Z Z ?_
 rintro _ w5 ⟨⟨ck2,wt2,gn2,ms2,mA2,mC2,os2,oA2,oC2⟩,Lm,Lo,rfl,ha2,ho2,hoo2,hmc2,hoc2,hpc2,hj2⟩
 have hlo2:=H.size
 replace H:=Hp.joinG H hj2 (fun m hm=>(hpc2 m hm).2);clear hj2
 simp only[Gr.a,Gr.mk.injEq]at ha2
 obtain⟨e1,e2,e3,hma,-,-,e4,-,-⟩:=ha2
 obtain rfl:ck=ck2:=e1.symm
 obtain rfl:wt=wt2:=e2.symm
 obtain rfl:gn=gn2:=e3.symm
 obtain rfl:os=os2:=e4.symm
 dsimp only at ho2 hoo2 hmc2 hoc2 hpc2 H
 replace hpc2: ∀ m∈ms2,m.parts.length<=m.cap/\w.heap.size<=m.lo:=fun m hm=>⟨(hpc2 m hm).1,aU hlo2 (hpc2 m hm).2⟩
 have hml2:ms2.length=ms.length:=by have:=congrArg ci hma;simpa using this
 have hhd:=MI hma hmo
 refine bo H 1 (#[J (ck),J (wt),J (gn),.slice mA2 ms2.length mC2,.slice oA2 os.length oC2]) bD Z Z Z Z Z N N fun w6 H=>U<|W<|Zr<|G (Zf jG Z)<|G (Zd ak H 1 Z Z Z)<|G (Yi Z)<|G (bw Z Z I I)<|G (Zf jG Z)<|bo H 1 (#[J (ck+n),J (wt),J (gn),.slice mA2 ms2.length mC2,.slice oA2 os.length oC2]) bH Z Z Z Z Z N N fun w7 H=>U<|W<|Zr<|G (Zf dK Z)<|G (Zd du H 1 Z Z Z)<|G (br gB Z)<|G (Wi Z)<|U<|W<|Zr<|G (Zf dK Z)<|G (Zd du H 1 Z Z Z)<|G (AB Z)<|ch lv (M7 (K:=[(b6,.cells #[J (0),J (0),J (0),.slice none 0 0,.slice none 0 0] cO (0,0)),(b3,.cells #[J (ck+n),J (wt),J (gn),.slice mA2 ms2.length mC2,.slice oA2 os.length oC2] cO (0,0))]) (Lt:=Lm) (M:=Lo) H ho2 I (cap:=[.pointer (Qd b3)]) yz (fun m=>decide (wt<=(ck+n)-m.heard)) (fun e he w' L' H'=>Hf e b3 (ck+n) wt gn _ _ w' (H'.ent (i:=1) Z) (hhd e he).1 (by have:=(hhd e he).2;omega) I hcl)) Z Z ?_
 rintro _ w8 ⟨L9,rfl,ho9,H⟩
 have hl9:(ms2.filter fun m=>!decide (wt<=(ck+n)-m.heard)).length<=6:=by have:=List.length_filter_le (fun m:Mem=>!decide (wt<=(ck+n)-m.heard)) ms2;omega
 refine G (Zf dK Z)<|bo H 1 (#[J (ck+n),J (wt),J (gn),.slice mA2 ((ms2.filter fun m=>!decide (wt<=(ck+n)-m.heard)).length) mC2,.slice oA2 os.length oC2]) tO Z Z Z Z Z N N fun w9 H=>U<|W<|W<|Zr<|G (Zf dK Z)<|G (Zd du H 1 Z Z Z)<|G (br gB Z)<|G (Yi Z) ?_
 refine cW (bn Z Z) Z Z Z (fun h55=> ?_) (fun h55=> ?_)
 have hall:(ms2.filter fun m=>!decide (wt<=(ck+n)-m.heard))=ms2:=Im I
 have hsl:((ms2.filter fun m=>!decide (wt<=(ck+n)-m.heard)).map Mem.a)=(ms.map Mem.a).filter fun m=>!tP (Gr.a ⟨ck,wt,gn,ms,mA,mC,os,oA,oC⟩) n m:=by rw[GE _ _ (fun _=>rfl),hma];rfl
 refine U<|ZT Z<|W<|Zr<|G (Zw aQ H 1 Z Z Z)<|bo H 0 (#[J (ck+n),J (wt),J (gn),.slice mA2 ((ms2.filter fun m=>!decide (wt<=(ck+n)-m.heard)).length) mC2,.slice oA2 os.length oC2]) bD Z Z Z Z Z N N fun w10 H=>G (Wi Z)<|U<|Zt ?_
 have hT:p7 (Gr.a ⟨ck,wt,gn,ms,mA,mC,os,oA,oC⟩) n p={Gr.a ⟨ck,wt,gn,ms,mA,mC,os,oA,oC⟩with clock:=ck+n}:=by unfold p7;rw[if_pos (by show((ms.map Mem.a).filter _).length=(ms.map Mem.a).length;rw[<-hsl,bJ,bJ];omega)];rfl
 rw[hT]
 rw[hall]at ho9
 exact bE (cs0:= #[J (ck+n),J (wt),J (gn),.slice mA2 (((ms2.filter fun m=>!decide (wt<=(ck+n)-m.heard))).length) mC2,.slice oA2 os.length oC2]) (v1:=J 0) Z aQ Z (H.ent (i:=0) Z) Z Z ⟨⟨ck+n,wt,gn,ms2,mA2,mC2,os,oA2,oC2⟩,by rw[hall];rfl,by unfold Gr.a;dsimp only;rw[hma],rc.new (ga:=Gr.a ⟨ck+n,wt,gn,ms2,mA2,mC2,os,oA2,oC2⟩) ⟨rfl,ho9,hoo2,hmc2,hoc2,hpc2,H.forget (by rw[aD];exact .cons _ (.cons _ (ar _))) (fun f hf=>by simp only[ax,ap];grind)⟩ (by dsimp only;omega) (by dsimp only;omega) (iR hma hmo)⟩
 have hsl:((ms2.filter fun m=>!decide (wt<=(ck+n)-m.heard)).map Mem.a)=(ms.map Mem.a).filter fun m=>!tP (Gr.a ⟨ck,wt,gn,ms,mA,mC,os,oA,oC⟩) n m:=by rw[GE _ _ (fun _=>rfl),hma];rfl
 refine U<|ZF Z<|Zk<|W<|Zr<|G (Zw aQ H 1 Z Z Z)<|G (Yi Z)<|ch qZ (ze (ck+n) wt gn (ms2.filter fun m=>!decide (wt<=(ck+n)-m.heard)) mA2 mC2 os oA2 oC2 p (H.perm (sL [(b6,.cells #[J (0),J (0),J (0),.slice none 0 0,.slice none 0 0] cO (0,0)),(b3,.cells #[J (ck+n),J (wt),J (gn),.slice mA2 ((ms2.filter fun m=>!decide (wt<=(ck+n)-m.heard)).length) mC2,.slice oA2 os.length oC2] cO (0,0))] L9 Lo).symm) ho9 I hp I I) Z Z ?_
 rintro _ w11 ⟨ms4,L4,rfl,ha4,ho4,hc4,H⟩
 replace H:=H.perm (sL [(b6,.cells #[J (0),J (0),J (0),.slice none 0 0,.slice none 0 0] cO (0,0)),(b3,.cells #[J (ck+n),J (wt),J (gn),.slice mA2 ((ms2.filter fun m=>!decide (wt<=(ck+n)-m.heard)).length) mC2,.slice oA2 os.length oC2] cO (0,0))] L4 Lo)
 rw[Nd]at ha4
 refine bo H 0 (#[J (ck+n),J (wt),J (gn+1),.slice mA2 ms4.length mC2,.slice oA2 os.length oC2]) bD Z Z Z Z Z N N fun w12 H=>G (Wi Z)<|U<|Zt ?_
 have hT:p7 (Gr.a ⟨ck,wt,gn,ms,mA,mC,os,oA,oC⟩) n p=IA {Gr.a ⟨ck,wt,gn,ms,mA,mC,os,oA,oC⟩with clock:=ck+n,ms:=(ms.map Mem.a).filter fun m=>!tP (Gr.a ⟨ck,wt,gn,ms,mA,mC,os,oA,oC⟩) n m} p:=by unfold p7;rw[if_neg (by show¬ ((ms.map Mem.a).filter _).length=(ms.map Mem.a).length;rw[<-hsl,bJ,bJ];omega)];rfl
 rw[hT]
 exact bE (cs0:= #[J (ck+n),J (wt),J (gn+1),.slice mA2 ms4.length mC2,.slice oA2 os.length oC2]) (v1:=J 0) Z aQ Z (H.ent (i:=0) Z) Z Z ⟨⟨ck+n,wt,gn+1,ms4,mA2,mC2,os,oA2,oC2⟩,rfl,by unfold Gr.a IA;dsimp only;rw[ha4,hsl];rfl,Je ha4 hl9 hp I ho4 hoo2 hoc2 hc4 (H.forget (by rw[aD];exact .cons _ (.cons _ (ar _))) (fun f hf=>by simp only[ax,ap];grind))⟩
theorem lX {α:Type} {Y:fq α} {w0 w:World} {L:List (Nat×Obj)} {F:List cB} {lo hi:Nat} {A:Option Addr} {es:List α} (H:Hp w0 w L F) (hf:dU Y lo hi A es∈F):Rd Y 0 w.heap.size A es w:=by
 obtain⟨h1,h2,-⟩:=H.facts _ hf
 exact Rd.mono h1 (bG _) h2
def Nb (g:Gr) (i:Nat) (t:Mem):Gr:={g with ms:=g.ms.set i {t with heard:=g.clock}}
def tL (os:List mw) (part:Int):Int:=match os.find? fun o=>decide (o.part=part)with|some o=>o.at_|none=>0
def mK (os:List mw) (part:Int):Nat:=(os.takeWhile fun o=>decide (o.part<part)).length
def gT (os:List mw) (part at_:Int):List mw:=
 if(os[mK os part]?).map mw.part=some part then os.set (mK os part) ⟨part,at_⟩else os.take (mK os part)++[⟨part,at_⟩]++os.drop (mK os part)
theorem z0 {α:Type} {f:α->Bool}: ∀ {l:List α} {k:Nat},(∀ x∈l.take k,f x=true)->(∀ x,l[k]? =some x->f x=false)->k<=l.length->(l.takeWhile f).length=k
 |[],k,_,_,h=>by simp at h;simp[h]
 |x::l,0,_,h2,_=>by rw[List.takeWhile_cons_of_neg (by rw[h2 x Z];decide)];rfl
 |x::l,k+1,h1,h2,h3=>by
  rw[List.takeWhile_cons_of_pos (h1 x (by simp)),bV,z0 (k:=k) (fun y hy=>h1 y (by simp[hy])) h2 (by simpa using h3)]
theorem En (es:List Int) (v:Int) (A:Option Addr) (c:Nat) (w:World) (hr:Rd bR 0 w.heap.size A es w) (hb:es.length<=1000000):dh aa rX [.slice A es.length c,J v] w fun r w2=>(∃ k:Int,r=J k/\(v∈es↔0<=k)/\ -1<=k/\k<=1000000)/\Below w.heap.size w w2:=by
 refine aE rE Z Z ?_
 have H:=Hp.startRd hr
 refine W<|Zr<|G (Wi Z)<|U<|W<|W<|Zr<|G (Ys Z)<|G (br eM Z)<|G (Yi Z)<|U<|Zb ?_
 refine cD (τ:=Nat) [4,5,8,9,10,11,12,13,14,15,16,17,18] (fun k=>[(8,J (k:Nat))]) (fun k w'=>k<=es.length/\v∉es.take k/\Hp w w' [] [dU bR 0 w.heap.size A es]) (fun k=>es.length-k) 0 ⟨by omega,by simp,H⟩ (dP Z) ?_
 rintro k ρ1 w1 ⟨hk,hno,H⟩
 show CW _ _ _ _ (dH (gZ _ _ ρ1) [(8,J (k:Nat))]) w1
 refine W<|Zr ?_
 refine cW (cK Z Z) Z Z Z (fun h9=> ?_) (fun h9=> ?_)
 obtain⟨x,hx⟩: ∃ x,es[k]? =some x:=⟨_,ah I⟩
 refine U<|W<|ZT Z<|Zk<|W<|Zb<|W<|Zr<|G (Yi Z)<|G (Wi Z)<|U<|W<|Zr<|G (Yi Z)<|G (Ys Z)<|G (Yi Z)<|qB H 0 Z bc Z Z I I Z fun bq2 o2 x2 e2=> ?_
 obtain rfl:x=x2:=by have:=e2.at_;rw[hx]at this;exact ba this
 refine G (aW ak Z (e2.cl 0 _ Z)) ?_
 refine cW (bn Z Z) Z Z Z (fun h16=> ?_) (fun h16=> ?_)
 refine U<|ZT Z<|W<|Zr<|G (Yi Z)<|G (Wi Z)<|U<|Zt ?_
 exact cH (v:=J (k:Nat)) Z Z ⟨⟨(k:Nat),rfl,⟨fun _=>by omega,fun _=>by rw[h16];exact ab hx⟩,by omega,by omega⟩,H.below⟩
 refine U<|ZF Z<|Zk<|Zr<|G (bw Z Z I I)<|G (Yi Z)<|U ?_
 exact⟨k+1,⟨by omega,by rw[eu hx];simp only[ap,aq];rintro(h|h);exact hno h;exact h16 h,H⟩,dP Z,Qg,by show es.length- (k+1)<es.length-k;omega⟩
 refine U<|W<|ZF Z<|Zx<|W<|Zr<|G (Wi Z)<|U<|Zt ?_
 have hke:k=es.length:=by omega
 rw[hke,bN]at hno
 exact cH (v:=J (-1)) Z Z ⟨⟨-1,rfl,⟨fun h=>absurd h hno,fun h=>absurd h (by decide)⟩,by omega,by omega⟩,H.below⟩
theorem lF (es:List Int) (v:Int) (A:Option Addr) (c:Nat) (w:World) (hr:Rd bR 0 w.heap.size A es w) (hb:es.length<=1000000):dh aa qe [.slice A es.length c,J v] w fun r w2=>r=.bool (decide (v∈es))/\Below w.heap.size w w2:=by
 refine aE pQ Z Z ?_
 have H:=Hp.startRd hr
 refine W<|Zr<|G (Wb Z)<|U<|W<|Zr<|G (Ys Z)<|G (Yi Z)<|ch rN (En es v A c _ (H.rd0 0 Z) hb) Z Z ?_
 rintro _ w1 ⟨⟨k,rfl,hk,-,-⟩,hb2⟩;replace H:=H.later hb2;clear hb2
 refine G (ko Z Z)<|G (Wb Z)<|U<|Zt ?_
 exact cH (v:=.bool (decide (0<=k))) Z Z ⟨by rw[decide_eq_decide.2 hk.symm],H.below⟩
theorem KF (g:Gr) (s:ByteArray) (gn_:Int) (w:World) (h:g.rd 0 w.heap.size w) (hok:lM g=true) (hn:bL s=true) (hi:qg g s= -1):dh aa pO [g.v,.string s,J gn_] w fun v w2=>v=.tuple #[.agg #[J 0,J 0,J 0,.slice none 0 0,.slice none 0 0],J 5]/\Below w.heap.size w w2:=by
 refine aE rJ Z Z ?_
 have hmC:=h.mC
 have hoC:=h.oC
 have hfew:=h.few
 have hfp:=h.fewP
 have H:=Hp.startGr h
 obtain⟨ck,wt,gn,ms,mA,mC,os,oA,oC⟩:=g
 dsimp only at hmC hoC hfew hfp H
 show CW _ _ _ _ (args [.agg #[J (ck),J (wt),J (gn),.slice mA ms.length mC,.slice oA os.length oC],.string (s),J (gn_)]) w
 obtain⟨⟨⟨k1,k2⟩,k3,k4,⟨k5,k6⟩,k7,k8⟩,⟨hmo,hap⟩,hof,hor⟩:=dy.1 hok
 dsimp only at k1 k2 k3 k4 k5 k6 k7 k8 hmo
 refine W<|Zr<|f7 H Z Z fun w1 b3 H=>eP H d8 Z fun w2 b6 H=>G (Wi Z)<|U<|W<|Zr<|G (Zw aQ H 1 Z Z Z)<|G (Yt Z)<|G (Yi Z)<|ch iq (Dp ⟨ck,wt,gn,ms,mA,mC,os,oA,oC⟩ s gn_ _ ⟨H.rd0 0 Z,fun m hm=>zL H 1 Z hm,H.rd0 2 Z,hmC,hoC,hfew,hfp⟩ hok hn hi) Z Z ?_
 rintro _ w3 ⟨rfl,hb⟩;replace H:=H.later hb;clear hb
 refine G (Yu Z)<|G (Xa Z Z)<|G (Xi Z Z)<|G (Xi Z Z)<|bo H 1 (#[J (0),J (0),J (0),.slice none 0 0,.slice none 0 0]) bD Z Z Z Z Z N N fun w4 H=>G (Wi Z)<|G (Wi Z)<|U<|W<|W<|Zr<|G (Yi Z)<|G (kh Z Z (by decide))<|U<|ZT Z<|W<|Zr<|G (bg (cs:= #[J (0),J (0),J (0),.slice none 0 0,.slice none 0 0]) kc d8 N)<|G (Yi Z)<|bo H 0 (#[J (0),J (0),J (0),.slice none 0 0,.slice none 0 0]) bD Z Z Z Z Z N N fun w5 H=>G (Wi Z)<|U<|Zt ?_
 exact bE (cs0:= #[J 0,J 0,J 0,.slice none 0 0,.slice none 0 0]) (v1:=J 5) Z aQ Z (H.ent (i:=0) Z) Z Z ⟨rfl,H.below⟩
theorem Iy (g:Gr) (s:ByteArray) (gn_:Int) (w:World) (h:g.rd 0 w.heap.size w) (hok:lM g=true) (hn:bL s=true) (i:Nat) (hi:qg g s=i) (hg:g.gen≠gn_):dh aa pO [g.v,.string s,J gn_] w fun v w2=>v=.tuple #[.agg #[J 0,J 0,J 0,.slice none 0 0,.slice none 0 0],J 10]/\Below w.heap.size w w2:=by
 refine aE rJ Z Z ?_
 have hmC:=h.mC
 have hoC:=h.oC
 have hfew:=h.few
 have hfp:=h.fewP
 have H:=Hp.startGr h
 obtain⟨ck,wt,gn,ms,mA,mC,os,oA,oC⟩:=g
 dsimp only at hmC hoC hfew hfp H
 show CW _ _ _ _ (args [.agg #[J (ck),J (wt),J (gn),.slice mA ms.length mC,.slice oA os.length oC],.string (s),J (gn_)]) w
 obtain⟨⟨⟨k1,k2⟩,k3,k4,⟨k5,k6⟩,k7,k8⟩,⟨hmo,hap⟩,hof,hor⟩:=dy.1 hok
 dsimp only at k1 k2 k3 k4 k5 k6 k7 k8 hmo
 refine W<|Zr<|f7 H Z Z fun w1 b3 H=>eP H d8 Z fun w2 b6 H=>G (Wi Z)<|U<|W<|Zr<|G (Zw aQ H 1 Z Z Z)<|G (Yt Z)<|G (Yi Z)<|ch iq (Bi ⟨ck,wt,gn,ms,mA,mC,os,oA,oC⟩ s gn_ _ ⟨H.rd0 0 Z,fun m hm=>zL H 1 Z hm,H.rd0 2 Z,hmC,hoC,hfew,hfp⟩ hok hn i hi hg) Z Z ?_
 rintro _ w3 ⟨rfl,hb⟩;replace H:=H.later hb;clear hb
 refine G (Yu Z)<|G (Xa Z Z)<|G (Xi Z Z)<|G (Xi Z Z)<|bo H 1 (#[J (0),J (0),J (0),.slice none 0 0,.slice none 0 0]) bD Z Z Z Z Z N N fun w4 H=>G (Wi Z)<|G (Wi Z)<|U<|W<|W<|Zr<|G (Yi Z)<|G (kh Z Z (by decide))<|U<|ZT Z<|W<|Zr<|G (bg (cs:= #[J (0),J (0),J (0),.slice none 0 0,.slice none 0 0]) kc d8 N)<|G (Yi Z)<|bo H 0 (#[J (0),J (0),J (0),.slice none 0 0,.slice none 0 0]) bD Z Z Z Z Z N N fun w5 H=>G (Wi Z)<|U<|Zt ?_
 exact bE (cs0:= #[J 0,J 0,J 0,.slice none 0 0,.slice none 0 0]) (v1:=J 10) Z aQ Z (H.ent (i:=0) Z) Z Z ⟨rfl,H.below⟩
theorem OS (g:Gr) (s:ByteArray) (gn_:Int) (w:World) (h:g.rd 0 w.heap.size w) (hok:lM g=true) (hn:bL s=true) (i:Nat) (t:Mem) (hi:qg g s=i) (ht:g.ms[i]? =some t) (hg:g.gen=gn_):dh aa pO [g.v,.string s,J gn_] w fun v w2=> ∃ g':Gr,v=.tuple #[g'.v,J 0]/\g'.a=Nb g.a i t.a/\zf w w2 g':=by
 refine aE rJ Z Z ?_
 have hmC:=h.mC
 have hoC:=h.oC
 have hfew:=h.few
 have hfp:=h.fewP
 have H:=Hp.startGr h
 obtain⟨ck,wt,gn,ms,mA,mC,os,oA,oC⟩:=g
 dsimp only at hmC hoC hfew hfp H
 show CW _ _ _ _ (args [.agg #[J (ck),J (wt),J (gn),.slice mA ms.length mC,.slice oA os.length oC],.string (s),J (gn_)]) w
 obtain⟨⟨⟨k1,k2⟩,k3,k4,⟨k5,k6⟩,k7,k8⟩,⟨hmo,hap⟩,hof,hor⟩:=dy.1 hok
 dsimp only at k1 k2 k3 k4 k5 k6 k7 k8 hmo
 dsimp only at ht
 refine W<|Zr<|f7 H Z Z fun w1 b3 H=>eP H d8 Z fun w2 b6 H=>G (Wi Z)<|U<|W<|Zr<|G (Zw aQ H 1 Z Z Z)<|G (Yt Z)<|G (Yi Z)<|ch iq (zM ⟨ck,wt,gn,ms,mA,mC,os,oA,oC⟩ s gn_ _ ⟨H.rd0 0 Z,fun m hm=>zL H 1 Z hm,H.rd0 2 Z,hmC,hoC,hfew,hfp⟩ hok hn i hi hg) Z Z ?_
 rintro _ w3 ⟨⟨ck2,wt2,gn2,ms2,mA2,mC2,os2,oA2,oC2⟩,Lm,Lo,rfl,ha2,ho2,hoo2,hmc2,hoc2,hpc2,hj2⟩
 have hlo2:=H.size
 replace H:=Hp.joinG H hj2 (fun m hm=>(hpc2 m hm).2);clear hj2
 simp only[Gr.a,Gr.mk.injEq]at ha2
 obtain⟨e1,e2,e3,hma,-,-,e4,-,-⟩:=ha2
 obtain rfl:ck=ck2:=e1.symm
 obtain rfl:wt=wt2:=e2.symm
 obtain rfl:gn=gn2:=e3.symm
 obtain rfl:os=os2:=e4.symm
 dsimp only at ho2 hoo2 hmc2 hoc2 hpc2 H
 replace hpc2: ∀ m∈ms2,m.parts.length<=m.cap/\w.heap.size<=m.lo:=fun m hm=>⟨(hpc2 m hm).1,aU hlo2 (hpc2 m hm).2⟩
 have hml2:ms2.length=ms.length:=by have:=congrArg ci hma;simpa using this
 refine G (Yu Z)<|G (Xa Z Z)<|G (Xi Z Z)<|G (Xi Z Z)<|bo H 1 (#[J (ck),J (wt),J (gn),.slice mA2 ms2.length mC2,.slice oA2 os.length oC2]) bD Z Z Z Z Z N N fun w4 H=>G (Wi Z)<|G (Wi Z)<|U<|W<|W<|Zr<|G (Yi Z)<|G (bZ Z Z Z)<|U<|ZF Z<|Zk<|W ?_
 obtain⟨t2,ht2,hta⟩:=AG hma ht
 have hl2:=(cC ht2).1
 obtain⟨g,cur,rfl,rfl,row⟩:=ho2.row I
 refine Zr<|G (Zf dK Z)<|G (Zd du H 1 Z Z Z)<|G (Yi Z)<|G (Zf jG Z)<|G (Zd ak H 1 Z Z Z)<|G (cG eG Z Z (by first|omega|(simp only[ae];omega)))<|G (Zf qT Z)<|k9 H 2 ({t2 with heard:=ck}) bH row ht2 1 Z Z Z Z Z Z N fun w6 cur5 row5 H=> ?_
 have hs7:(ms2.set i ({t2 with heard:=ck}))[i]? =some ({t2 with heard:=ck}):=al (cC ht2).1
 refine U<|W<|Zr<|G (Zw aQ H 1 Z Z Z)<|bo H 0 (#[J (ck),J (wt),J (gn),.slice (Qd g) ms2.length mC2,.slice oA2 os.length oC2]) bD Z Z Z Z Z N N fun w8 H=>G (Wi Z)<|U<|Zt ?_
 have hmf:(ms2.set i {t2 with heard:=ck}).map nE=ms2.map nE:=by rw[cE];apply en;intro j;rw[lD];split;(rename_i hj;subst hj;rw[aL,ht2,if_pos (by simpa using hl2)];rfl);rfl
 have hma3:(ms2.set i {t2 with heard:=ck}).map Mem.a=(ms.map Mem.a).set i {t.a with heard:=ck}:=by rw[cE,hma];congr 1;exact congrArg (fun x:Mem=>({x with heard:=ck}:Mem)) hta
 have hpl:=iR hma hmo
 have hown:=dX.own (g:=g) (e:=df) row5
 exact bE (cs0:= #[J (ck),J (wt),J (gn),.slice (Qd g) ms2.length mC2,.slice oA2 os.length oC2]) (v1:=J 0) Z aQ Z (H.ent (i:=0) Z) Z Z ⟨⟨ck,wt,gn,ms2.set i {t2 with heard:=ck},some ⟨g,0,none⟩,mC2,os,oA2,oC2⟩,by unfold Gr.v Gr.c;dsimp only;rw[ae],by unfold Gr.a Nb;dsimp only;rw[hma3],rc.new (ga:=Gr.a ⟨ck,wt,gn,ms2.set i {t2 with heard:=ck},some ⟨g,0,none⟩,mC2,os,oA2,oC2⟩) ⟨rfl,hown,hoo2,by dsimp only;rw[ae];exact hmc2,hoc2,fun m hm=>(by rcases aM hm with hm|rfl;exact hpc2 m hm;exact hpc2 t2 (ab ht2)),H.forget (.cons _ (.cons _ (ar _))) (fun f hf=>by dsimp only at hf;rw[hmf]at hf;exact cj _ hf)⟩ (by dsimp only;rw[ae];omega) (by dsimp only;omega) (fun m hm=>(by rcases aM hm with hm|rfl;exact hpl m hm;exact hpl t2 (ab ht2)))⟩
theorem Jp {os:List mw} {part:Int} {k:Nat} {o:mw} (ho:os[k]? =some o) (hp:o.part=part) (hno: ∀ x∈os.take k,x.part≠part):tL os part=o.at_:=by
 have:(os.find? fun o=>decide (o.part=part))=some o:=by
  rw[<-gQ k os,List.find?_append,B5.2 fun x hx=>by simpa using hno x hx,cP ho,List.find?_cons_of_pos (by simpa using hp)]
  rfl
 unfold tL
 rw[this]
theorem G9 {os:List mw} {part:Int} (hno: ∀ x∈os,x.part≠part):tL os part=0:=by
 unfold tL
 rw[B5.2 fun x hx=>by simpa using hno x hx]
theorem nB (os:List mw) (part at_:Int):(gT os part at_).length<=os.length+1:=by
 unfold gT
 split
 rw[ae];omega
 rw[ay,ay,aI,dI,bO];omega
theorem G8 (g:Gr) (s:ByteArray) (part:Int) (w:World) (h:g.rd 0 w.heap.size w) (hok:lM g=true) (hn:bL s=true) (hi:qg g s= -1):dh aa oa [g.v,.string s,J part] w fun v w2=>v=.tuple #[J 0,J 5]/\Below w.heap.size w w2:=by
 refine aE qk Z Z ?_
 have hmC:=h.mC
 have hoC:=h.oC
 have hfew:=h.few
 have hfp:=h.fewP
 have H:=Hp.startGr h
 obtain⟨ck,wt,gn,ms,mA,mC,os,oA,oC⟩:=g
 dsimp only at hmC hoC hfew hfp H
 show CW _ _ _ _ (args [.agg #[J (ck),J (wt),J (gn),.slice mA ms.length mC,.slice oA os.length oC],.string (s),J (part)]) w
 obtain⟨⟨⟨k1,k2⟩,k3,k4,⟨k5,k6⟩,k7,k8⟩,⟨hmo,hap⟩,hof,hor⟩:=dy.1 hok
 dsimp only at k1 k2 k3 k4 k5 k6 k7 k8 hmo
 refine W<|Zr<|f7 H Z Z fun w1 b3 H=>G (Wi Z)<|G (Wi Z)<|U<|W<|Zr<|G (Zw aQ H 0 Z Z Z)<|G (Yt Z)<|ch gy (mR ⟨ck,wt,gn,ms,mA,mC,os,oA,oC⟩ s _ ⟨H.rd0 0 Z,fun m hm=>zL H 1 Z hm,H.rd0 2 Z,hmC,hoC,hfew,hfp⟩ hok hn) Z Z ?_
 rintro _ w2 ⟨⟨ck2,wt2,gn2,ms2,mA2,mC2,os2,oA2,oC2⟩,Lm,Lo,rfl,ha2,ho2,hoo2,hmc2,hoc2,hpc2,hj2⟩
 have hlo2:=H.size
 replace H:=Hp.joinG H hj2 (fun m hm=>(hpc2 m hm).2);clear hj2
 simp only[Gr.a,Gr.mk.injEq]at ha2
 obtain⟨e1,e2,e3,hma,-,-,e4,-,-⟩:=ha2
 obtain rfl:ck=ck2:=e1.symm
 obtain rfl:wt=wt2:=e2.symm
 obtain rfl:gn=gn2:=e3.symm
 obtain rfl:os=os2:=e4.symm
 dsimp only at ho2 hoo2 hmc2 hoc2 hpc2 H
 replace hpc2: ∀ m∈ms2,m.parts.length<=m.cap/\w.heap.size<=m.lo:=fun m hm=>⟨(hpc2 m hm).1,aU hlo2 (hpc2 m hm).2⟩
 have hml2:ms2.length=ms.length:=by have:=congrArg ci hma;simpa using this
 rw[hi]
 refine G (Yu Z)<|G (Xa Z Z)<|G (Xi Z Z)<|G (Xi Z Z)<|bo H 0 (#[J (ck),J (wt),J (gn),.slice mA2 ms2.length mC2,.slice oA2 os.length oC2]) bD Z Z Z Z Z N N fun w3 H=>G (Wi Z)<|G (Wi Z)<|U<|W<|Zb<|W<|Zr<|G (Yi Z)<|G (bZ Z Z Z)<|G (Wb Z)<|U<|ZF Z<|W<|Zr<|G (Yi Z)<|G (yg Z Z (by decide))<|G (Wb Z)<|U<|ZT Z<|W<|Zr<|G (Wi Z)<|G (Wi Z)<|U<|Zt ?_
 exact mr (v:=J 0) (v2:=J 5) Z Z Z ⟨rfl,H.below⟩
theorem Fg (g:Gr) (s:ByteArray) (part:Int) (w:World) (h:g.rd 0 w.heap.size w) (hok:lM g=true) (hn:bL s=true) (i:Nat) (t:Mem) (hi:qg g s=i) (ht:g.ms[i]? =some t) (hpt:part∉t.parts):dh aa oa [g.v,.string s,J part] w fun v w2=>v=.tuple #[J 0,J 12]/\Below w.heap.size w w2:=by
 refine aE qk Z Z ?_
 have hmC:=h.mC
 have hoC:=h.oC
 have hfew:=h.few
 have hfp:=h.fewP
 have H:=Hp.startGr h
 obtain⟨ck,wt,gn,ms,mA,mC,os,oA,oC⟩:=g
 dsimp only at hmC hoC hfew hfp H
 show CW _ _ _ _ (args [.agg #[J (ck),J (wt),J (gn),.slice mA ms.length mC,.slice oA os.length oC],.string (s),J (part)]) w
 obtain⟨⟨⟨k1,k2⟩,k3,k4,⟨k5,k6⟩,k7,k8⟩,⟨hmo,hap⟩,hof,hor⟩:=dy.1 hok
 dsimp only at k1 k2 k3 k4 k5 k6 k7 k8 hmo
 dsimp only at ht
 refine W<|Zr<|f7 H Z Z fun w1 b3 H=>G (Wi Z)<|G (Wi Z)<|U<|W<|Zr<|G (Zw aQ H 0 Z Z Z)<|G (Yt Z)<|ch gy (mR ⟨ck,wt,gn,ms,mA,mC,os,oA,oC⟩ s _ ⟨H.rd0 0 Z,fun m hm=>zL H 1 Z hm,H.rd0 2 Z,hmC,hoC,hfew,hfp⟩ hok hn) Z Z ?_
 rintro _ w2 ⟨⟨ck2,wt2,gn2,ms2,mA2,mC2,os2,oA2,oC2⟩,Lm,Lo,rfl,ha2,ho2,hoo2,hmc2,hoc2,hpc2,hj2⟩
 have hlo2:=H.size
 replace H:=Hp.joinG H hj2 (fun m hm=>(hpc2 m hm).2);clear hj2
 simp only[Gr.a,Gr.mk.injEq]at ha2
 obtain⟨e1,e2,e3,hma,-,-,e4,-,-⟩:=ha2
 obtain rfl:ck=ck2:=e1.symm
 obtain rfl:wt=wt2:=e2.symm
 obtain rfl:gn=gn2:=e3.symm
 obtain rfl:os=os2:=e4.symm
 dsimp only at ho2 hoo2 hmc2 hoc2 hpc2 H
 replace hpc2: ∀ m∈ms2,m.parts.length<=m.cap/\w.heap.size<=m.lo:=fun m hm=>⟨(hpc2 m hm).1,aU hlo2 (hpc2 m hm).2⟩
 have hml2:ms2.length=ms.length:=by have:=congrArg ci hma;simpa using this
 rw[hi]
 refine G (Yu Z)<|G (Xa Z Z)<|G (Xi Z Z)<|G (Xi Z Z)<|bo H 0 (#[J (ck),J (wt),J (gn),.slice mA2 ms2.length mC2,.slice oA2 os.length oC2]) bD Z Z Z Z Z N N fun w3 H=>G (Wi Z)<|G (Wi Z)<|U<|W<|Zb<|W<|Zr<|G (Yi Z)<|G (bZ Z Z Z)<|G (Wb Z)<|U<|ZF Z<|W<|Zr<|G (Yi Z)<|G (dd Z Z I)<|G (Wb Z)<|U<|ZF Z<|W ?_
 obtain⟨t2,ht2,hta⟩:=AG hma ht
 have hl2:=(cC ht2).1
 obtain⟨g,cur,rfl,rfl,row⟩:=ho2.row I
 have htp:t2.parts=t.parts:=(congrArg Mem.parts hta:t2.a.parts=t.a.parts)
 have hpl:=iR hma hmo t2 (ab ht2)
 have hrp:=lX H (show nE t2∈_ from cj _ (bS (ab ht2)))
 refine Zr<|G (Zf dK Z)<|G (Zd du H 0 Z Z Z)<|G (Yi Z)<|G (cG eG Z Z (by first|omega|(simp only[ae];omega)))<|G (Zf i6 Z)<|G (bP cy row ht2 2 Z (H.ent (i:=1) Z) Z)<|G (Yi Z)<|ch fJ (lF t2.parts part t2.A t2.cap _ (lX H (show nE t2∈_ from by first|exact cj _ (bS (ab ht2))|simp[ab ht2])) I) Z Z ?_
 rw[htp,decide_eq_false hpt]
 rintro _ w4 ⟨rfl,hb⟩;replace H:=H.later hb;clear hb
 refine G (dM Z)<|G (Wb Z)<|U<|ZT Z<|W<|Zr<|G (Wi Z)<|G (Wi Z)<|U<|Zt ?_
 exact mr (v:=J 0) (v2:=J 12) Z Z Z ⟨rfl,H.below⟩
theorem K8 (g:Gr) (s:ByteArray) (part:Int) (w:World) (h:g.rd 0 w.heap.size w) (hok:lM g=true) (hn:bL s=true) (i:Nat) (t:Mem) (hi:qg g s=i) (ht:g.ms[i]? =some t) (hpt:part∈t.parts):dh aa oa [g.v,.string s,J part] w fun v w2=>v=.tuple #[J (tL g.os part),J 0]/\Below w.heap.size w w2:=by
 refine aE qk Z Z ?_
 have hmC:=h.mC
 have hoC:=h.oC
 have hfew:=h.few
 have hfp:=h.fewP
 have H:=Hp.startGr h
 obtain⟨ck,wt,gn,ms,mA,mC,os,oA,oC⟩:=g
 dsimp only at hmC hoC hfew hfp H
 show CW _ _ _ _ (args [.agg #[J (ck),J (wt),J (gn),.slice mA ms.length mC,.slice oA os.length oC],.string (s),J (part)]) w
 obtain⟨⟨⟨k1,k2⟩,k3,k4,⟨k5,k6⟩,k7,k8⟩,⟨hmo,hap⟩,hof,hor⟩:=dy.1 hok
 dsimp only at k1 k2 k3 k4 k5 k6 k7 k8 hmo
 dsimp only at ht
 refine W<|Zr<|f7 H Z Z fun w1 b3 H=>G (Wi Z)<|G (Wi Z)<|U<|W<|Zr<|G (Zw aQ H 0 Z Z Z)<|G (Yt Z)<|ch gy (mR ⟨ck,wt,gn,ms,mA,mC,os,oA,oC⟩ s _ ⟨H.rd0 0 Z,fun m hm=>zL H 1 Z hm,H.rd0 2 Z,hmC,hoC,hfew,hfp⟩ hok hn) Z Z ?_
 rintro _ w2 ⟨⟨ck2,wt2,gn2,ms2,mA2,mC2,os2,oA2,oC2⟩,Lm,Lo,rfl,ha2,ho2,hoo2,hmc2,hoc2,hpc2,hj2⟩
 have hlo2:=H.size
 replace H:=Hp.joinG H hj2 (fun m hm=>(hpc2 m hm).2);clear hj2
 simp only[Gr.a,Gr.mk.injEq]at ha2
 obtain⟨e1,e2,e3,hma,-,-,e4,-,-⟩:=ha2
 obtain rfl:ck=ck2:=e1.symm
 obtain rfl:wt=wt2:=e2.symm
 obtain rfl:gn=gn2:=e3.symm
 obtain rfl:os=os2:=e4.symm
 dsimp only at ho2 hoo2 hmc2 hoc2 hpc2 H
 replace hpc2: ∀ m∈ms2,m.parts.length<=m.cap/\w.heap.size<=m.lo:=fun m hm=>⟨(hpc2 m hm).1,aU hlo2 (hpc2 m hm).2⟩
 have hml2:ms2.length=ms.length:=by have:=congrArg ci hma;simpa using this
 rw[hi]
 refine G (Yu Z)<|G (Xa Z Z)<|G (Xi Z Z)<|G (Xi Z Z)<|bo H 0 (#[J (ck),J (wt),J (gn),.slice mA2 ms2.length mC2,.slice oA2 os.length oC2]) bD Z Z Z Z Z N N fun w3 H=>G (Wi Z)<|G (Wi Z)<|U<|W<|Zb<|W<|Zr<|G (Yi Z)<|G (bZ Z Z Z)<|G (Wb Z)<|U<|ZF Z<|W<|Zr<|G (Yi Z)<|G (dd Z Z I)<|G (Wb Z)<|U<|ZF Z<|W ?_
 obtain⟨t2,ht2,hta⟩:=AG hma ht
 have hl2:=(cC ht2).1
 obtain⟨g,cur,rfl,rfl,row⟩:=ho2.row I
 have htp:t2.parts=t.parts:=(congrArg Mem.parts hta:t2.a.parts=t.a.parts)
 have hpl:=iR hma hmo t2 (ab ht2)
 have hrp:=lX H (show nE t2∈_ from cj _ (bS (ab ht2)))
 refine Zr<|G (Zf dK Z)<|G (Zd du H 0 Z Z Z)<|G (Yi Z)<|G (cG eG Z Z (by first|omega|(simp only[ae];omega)))<|G (Zf i6 Z)<|G (bP cy row ht2 2 Z (H.ent (i:=1) Z) Z)<|G (Yi Z)<|ch fJ (lF t2.parts part t2.A t2.cap _ (lX H (show nE t2∈_ from by first|exact cj _ (bS (ab ht2))|simp[ab ht2])) I) Z Z ?_
 rw[htp,decide_eq_true hpt]
 rintro _ w4 ⟨rfl,hb⟩;replace H:=H.later hb;clear hb
 refine G (dM Z)<|G (Wb Z)<|U<|ZF Z<|Zk<|W<|W ?_
 obtain⟨lo3,hi3,H⟩:=Hp.sealO (K:=[(b3,.cells #[J (ck),J (wt),J (gn),.slice (Qd g) ms2.length mC2,.slice oA2 os.length oC2] cO (0,0)),(g,.cells cur df (0,0))]) (M:=[]) (by simpa using H) hoo2
 rw[aZ]at H
 refine Zr<|G (Zf dW Z)<|G (Zd eC H 0 Z Z Z)<|G (br im Z)<|G (Yi Z)<|U<|Zb ?_
 refine cD (τ:=Nat) [6,7,11,39,40,41,42,43,44,45,46,47,48,49] (fun k=>[(39,J (k:Nat))]) (fun k w'=>k<=os.length/\(∀ x∈os.take k,x.part≠part)/\Hp w w' [(b3,.cells #[J (ck),J (wt),J (gn),.slice (Qd g) ms2.length mC2,.slice oA2 os.length oC2] cO (0,0)),(g,.cells cur df (0,0))] (dU f6 lo3 hi3 oA2 os::([dU jW 0 w.heap.size mA ms,Jl 0 w.heap.size ms,dU f6 0 w.heap.size oA os]++ms2.map nE))) (fun k=>os.length-k) 0 ⟨by omega,by simp,H⟩ (dP Z) ?_
 rintro k ρ1 w5 ⟨hk,hno,H⟩
 show CW _ _ _ _ (dH (gZ _ _ ρ1) [(39,J (k:Nat))]) w5
 refine W<|Zr ?_
 refine cW (cK Z Z) Z Z Z (fun h40=> ?_) (fun h40=> ?_)
 obtain⟨o,ho⟩: ∃ o,os[k]? =some o:=⟨_,ah I⟩
 refine U<|W<|ZT Z<|Zk<|W<|Zb<|W<|Zr<|qB H 0 Z cZ Z Z I I Z fun bq6 o6 x6 e6=> ?_
 obtain rfl:o=x6:=by have:=e6.at_;rw[ho]at this;exact ba this
 refine G (j7 (xs:=mw.c o) BU Z Z e6.cl)<|eP H lj Z fun w7 b11 H=>bo H 0 (#[J (o.part),J (o.at_)]) Ai Z Z Z Z Z N N fun w8 H=>U<|W<|Zr<|G (Zf jv Z)<|G (Zd ak H 0 Z Z Z)<|G (Yi Z) ?_
 refine cW (bn Z Z) Z Z Z (fun h46=> ?_) (fun h46=> ?_)
 refine U<|ZT Z<|W<|Zr<|G (Zf oM Z)<|G (Zd ak H 0 Z Z Z)<|G (Wi Z)<|G (Wi Z)<|U<|Zt ?_
 exact mr (v:=J o.at_) (v2:=J 0) Z Z Z ⟨by rw[Jp ho h46 hno],H.below⟩
 refine U<|ZF Z<|Zk<|Zr<|G (bw Z Z I I)<|G (Yi Z)<|U ?_
 exact⟨k+1,⟨by omega,by rw[eu ho];intro x hx;rcases ap.1 hx with hx|hx;exact hno x hx;rw[aq.1 hx];exact h46,H.forget (.cons _ (ar _)) (fun _ h=>h)⟩,dP Z,Qg,by show os.length- (k+1)<os.length-k;omega⟩
 refine U<|W<|ZF Z<|Zx<|W<|Zr<|G (Wi Z)<|G (Wi Z)<|U<|Zt ?_
 rw[show k=os.length by omega,bN]at hno
 exact mr (v:=J 0) (v2:=J 0) Z Z Z ⟨by rw[G9 hno],H.below⟩
theorem Hh (g:Gr) (s:ByteArray) (gn_ part at_:Int) (w:World) (h:g.rd 0 w.heap.size w) (hok:lM g=true) (hn:bL s=true) (hi:qg g s= -1):dh aa jS [g.v,.string s,J gn_,J part,J at_] w fun v w2=>v=.tuple #[.agg #[J 0,J 0,J 0,.slice none 0 0,.slice none 0 0],J 5]/\Below w.heap.size w w2:=by
 refine aE kp Z Z ?_
 have hmC:=h.mC
 have hoC:=h.oC
 have hfew:=h.few
 have hfp:=h.fewP
 have H:=Hp.startGr h
 obtain⟨ck,wt,gn,ms,mA,mC,os,oA,oC⟩:=g
 dsimp only at hmC hoC hfew hfp H
 show CW _ _ _ _ (args [.agg #[J (ck),J (wt),J (gn),.slice mA ms.length mC,.slice oA os.length oC],.string (s),J (gn_),J (part),J (at_)]) w
 obtain⟨⟨⟨k1,k2⟩,k3,k4,⟨k5,k6⟩,k7,k8⟩,⟨hmo,hap⟩,hof,hor⟩:=dy.1 hok
 dsimp only at k1 k2 k3 k4 k5 k6 k7 k8 hmo
 refine W<|Zr<|f7 H Z Z fun w1 b5 H=>eP H d8 Z fun w2 b10 H=>G (Wi Z)<|U<|W<|Zr<|G (Zw aQ H 1 Z Z Z)<|G (Yt Z)<|G (Yi Z)<|ch iq (Dp ⟨ck,wt,gn,ms,mA,mC,os,oA,oC⟩ s gn_ _ ⟨H.rd0 0 Z,fun m hm=>zL H 1 Z hm,H.rd0 2 Z,hmC,hoC,hfew,hfp⟩ hok hn hi) Z Z ?_
 rintro _ w3 ⟨rfl,hb⟩;replace H:=H.later hb;clear hb
 refine G (Yu Z)<|G (Xa Z Z)<|G (Xi Z Z)<|G (Xi Z Z)<|bo H 1 (#[J (0),J (0),J (0),.slice none 0 0,.slice none 0 0]) bD Z Z Z Z Z N N fun w4 H=>G (Wi Z)<|G (Wi Z)<|U<|W<|Zb<|W<|Zr<|G (Yi Z)<|G (kh Z Z (by decide))<|G (Wb Z)<|U<|ZT Z<|W<|Zr<|G (bg (cs:= #[J (0),J (0),J (0),.slice none 0 0,.slice none 0 0]) kc d8 N)<|G (Yi Z)<|bo H 0 (#[J (0),J (0),J (0),.slice none 0 0,.slice none 0 0]) bD Z Z Z Z Z N N fun w5 H=>G (Wi Z)<|U<|Zt ?_
 exact bE (cs0:= #[J 0,J 0,J 0,.slice none 0 0,.slice none 0 0]) (v1:=J 5) Z aQ Z (H.ent (i:=0) Z) Z Z ⟨rfl,H.below⟩
theorem Fs (g:Gr) (s:ByteArray) (gn_ part at_:Int) (w:World) (h:g.rd 0 w.heap.size w) (hok:lM g=true) (hn:bL s=true) (i:Nat) (hi:qg g s=i) (hg:g.gen≠gn_):dh aa jS [g.v,.string s,J gn_,J part,J at_] w fun v w2=>v=.tuple #[.agg #[J 0,J 0,J 0,.slice none 0 0,.slice none 0 0],J 10]/\Below w.heap.size w w2:=by
 refine aE kp Z Z ?_
 have hmC:=h.mC
 have hoC:=h.oC
 have hfew:=h.few
 have hfp:=h.fewP
 have H:=Hp.startGr h
 obtain⟨ck,wt,gn,ms,mA,mC,os,oA,oC⟩:=g
 dsimp only at hmC hoC hfew hfp H
 show CW _ _ _ _ (args [.agg #[J (ck),J (wt),J (gn),.slice mA ms.length mC,.slice oA os.length oC],.string (s),J (gn_),J (part),J (at_)]) w
 obtain⟨⟨⟨k1,k2⟩,k3,k4,⟨k5,k6⟩,k7,k8⟩,⟨hmo,hap⟩,hof,hor⟩:=dy.1 hok
 dsimp only at k1 k2 k3 k4 k5 k6 k7 k8 hmo
 refine W<|Zr<|f7 H Z Z fun w1 b5 H=>eP H d8 Z fun w2 b10 H=>G (Wi Z)<|U<|W<|Zr<|G (Zw aQ H 1 Z Z Z)<|G (Yt Z)<|G (Yi Z)<|ch iq (Bi ⟨ck,wt,gn,ms,mA,mC,os,oA,oC⟩ s gn_ _ ⟨H.rd0 0 Z,fun m hm=>zL H 1 Z hm,H.rd0 2 Z,hmC,hoC,hfew,hfp⟩ hok hn i hi hg) Z Z ?_
 rintro _ w3 ⟨rfl,hb⟩;replace H:=H.later hb;clear hb
 refine G (Yu Z)<|G (Xa Z Z)<|G (Xi Z Z)<|G (Xi Z Z)<|bo H 1 (#[J (0),J (0),J (0),.slice none 0 0,.slice none 0 0]) bD Z Z Z Z Z N N fun w4 H=>G (Wi Z)<|G (Wi Z)<|U<|W<|Zb<|W<|Zr<|G (Yi Z)<|G (kh Z Z (by decide))<|G (Wb Z)<|U<|ZT Z<|W<|Zr<|G (bg (cs:= #[J (0),J (0),J (0),.slice none 0 0,.slice none 0 0]) kc d8 N)<|G (Yi Z)<|bo H 0 (#[J (0),J (0),J (0),.slice none 0 0,.slice none 0 0]) bD Z Z Z Z Z N N fun w5 H=>G (Wi Z)<|U<|Zt ?_
 exact bE (cs0:= #[J 0,J 0,J 0,.slice none 0 0,.slice none 0 0]) (v1:=J 10) Z aQ Z (H.ent (i:=0) Z) Z Z ⟨rfl,H.below⟩
theorem Fr (g:Gr) (s:ByteArray) (gn_ part at_:Int) (w:World) (h:g.rd 0 w.heap.size w) (hok:lM g=true) (hn:bL s=true) (i:Nat) (hi:qg g s=i) (hg:g.gen=gn_) (hat:400<at_):dh aa jS [g.v,.string s,J gn_,J part,J at_] w fun v w2=>v=.tuple #[.agg #[J 0,J 0,J 0,.slice none 0 0,.slice none 0 0],J 2]/\Below w.heap.size w w2:=by
 refine aE kp Z Z ?_
 have hmC:=h.mC
 have hoC:=h.oC
 have hfew:=h.few
 have hfp:=h.fewP
 have H:=Hp.startGr h
 obtain⟨ck,wt,gn,ms,mA,mC,os,oA,oC⟩:=g
 dsimp only at hmC hoC hfew hfp H
 show CW _ _ _ _ (args [.agg #[J (ck),J (wt),J (gn),.slice mA ms.length mC,.slice oA os.length oC],.string (s),J (gn_),J (part),J (at_)]) w
 obtain⟨⟨⟨k1,k2⟩,k3,k4,⟨k5,k6⟩,k7,k8⟩,⟨hmo,hap⟩,hof,hor⟩:=dy.1 hok
 dsimp only at k1 k2 k3 k4 k5 k6 k7 k8 hmo
 refine W<|Zr<|f7 H Z Z fun w1 b5 H=>eP H d8 Z fun w2 b10 H=>G (Wi Z)<|U<|W<|Zr<|G (Zw aQ H 1 Z Z Z)<|G (Yt Z)<|G (Yi Z)<|ch iq (zM ⟨ck,wt,gn,ms,mA,mC,os,oA,oC⟩ s gn_ _ ⟨H.rd0 0 Z,fun m hm=>zL H 1 Z hm,H.rd0 2 Z,hmC,hoC,hfew,hfp⟩ hok hn i hi hg) Z Z ?_
 rintro _ w3 ⟨⟨ck2,wt2,gn2,ms2,mA2,mC2,os2,oA2,oC2⟩,Lm,Lo,rfl,ha2,ho2,hoo2,hmc2,hoc2,hpc2,hj2⟩
 have hlo2:=H.size
 replace H:=Hp.joinG H hj2 (fun m hm=>(hpc2 m hm).2);clear hj2
 simp only[Gr.a,Gr.mk.injEq]at ha2
 obtain⟨e1,e2,e3,hma,-,-,e4,-,-⟩:=ha2
 obtain rfl:ck=ck2:=e1.symm
 obtain rfl:wt=wt2:=e2.symm
 obtain rfl:gn=gn2:=e3.symm
 obtain rfl:os=os2:=e4.symm
 dsimp only at ho2 hoo2 hmc2 hoc2 hpc2 H
 replace hpc2: ∀ m∈ms2,m.parts.length<=m.cap/\w.heap.size<=m.lo:=fun m hm=>⟨(hpc2 m hm).1,aU hlo2 (hpc2 m hm).2⟩
 have hml2:ms2.length=ms.length:=by have:=congrArg ci hma;simpa using this
 refine G (Yu Z)<|G (Xa Z Z)<|G (Xi Z Z)<|G (Xi Z Z)<|bo H 1 (#[J (ck),J (wt),J (gn),.slice mA2 ms2.length mC2,.slice oA2 os.length oC2]) bD Z Z Z Z Z N N fun w4 H=>G (Wi Z)<|G (Wi Z)<|U<|W<|Zb<|W<|Zr<|G (Yi Z)<|G (bZ Z Z Z)<|G (Wb Z)<|U<|ZF Z<|W<|Zr<|G (Yi Z)<|G (dd Z Z I)<|G (Yb Z)<|ZG<|G (Yi Z)<|ZG<|G (Ie Z Z I)<|G (N Z Z)<|G (Wb Z)<|U<|ZT Z<|W<|Zr<|G (bg (cs:= #[J (0),J (0),J (0),.slice none 0 0,.slice none 0 0]) kc d8 N)<|bo H 0 (#[J (0),J (0),J (0),.slice none 0 0,.slice none 0 0]) bD Z Z Z Z Z N N fun w5 H=>G (Wi Z)<|U<|Zt ?_
 exact bE (cs0:= #[J 0,J 0,J 0,.slice none 0 0,.slice none 0 0]) (v1:=J 2) Z aQ Z (H.ent (i:=0) Z) Z Z ⟨rfl,H.below⟩
theorem Fq (g:Gr) (s:ByteArray) (gn_ part at_:Int) (w:World) (h:g.rd 0 w.heap.size w) (hok:lM g=true) (hn:bL s=true) (i:Nat) (t:Mem) (hi:qg g s=i) (ht:g.ms[i]? =some t) (hg:g.gen=gn_) (hat0:0<=at_) (hat:at_<=400) (hpt:part∉t.parts):dh aa jS [g.v,.string s,J gn_,J part,J at_] w fun v w2=>v=.tuple #[.agg #[J 0,J 0,J 0,.slice none 0 0,.slice none 0 0],J 12]/\Below w.heap.size w w2:=by
 refine aE kp Z Z ?_
 have hmC:=h.mC
 have hoC:=h.oC
 have hfew:=h.few
 have hfp:=h.fewP
 have H:=Hp.startGr h
 obtain⟨ck,wt,gn,ms,mA,mC,os,oA,oC⟩:=g
 dsimp only at hmC hoC hfew hfp H
 show CW _ _ _ _ (args [.agg #[J (ck),J (wt),J (gn),.slice mA ms.length mC,.slice oA os.length oC],.string (s),J (gn_),J (part),J (at_)]) w
 obtain⟨⟨⟨k1,k2⟩,k3,k4,⟨k5,k6⟩,k7,k8⟩,⟨hmo,hap⟩,hof,hor⟩:=dy.1 hok
 dsimp only at k1 k2 k3 k4 k5 k6 k7 k8 hmo
 dsimp only at ht
 refine W<|Zr<|f7 H Z Z fun w1 b5 H=>eP H d8 Z fun w2 b10 H=>G (Wi Z)<|U<|W<|Zr<|G (Zw aQ H 1 Z Z Z)<|G (Yt Z)<|G (Yi Z)<|ch iq (zM ⟨ck,wt,gn,ms,mA,mC,os,oA,oC⟩ s gn_ _ ⟨H.rd0 0 Z,fun m hm=>zL H 1 Z hm,H.rd0 2 Z,hmC,hoC,hfew,hfp⟩ hok hn i hi hg) Z Z ?_
 rintro _ w3 ⟨⟨ck2,wt2,gn2,ms2,mA2,mC2,os2,oA2,oC2⟩,Lm,Lo,rfl,ha2,ho2,hoo2,hmc2,hoc2,hpc2,hj2⟩
 have hlo2:=H.size
 replace H:=Hp.joinG H hj2 (fun m hm=>(hpc2 m hm).2);clear hj2
 simp only[Gr.a,Gr.mk.injEq]at ha2
 obtain⟨e1,e2,e3,hma,-,-,e4,-,-⟩:=ha2
 obtain rfl:ck=ck2:=e1.symm
 obtain rfl:wt=wt2:=e2.symm
 obtain rfl:gn=gn2:=e3.symm
 obtain rfl:os=os2:=e4.symm
 dsimp only at ho2 hoo2 hmc2 hoc2 hpc2 H
 replace hpc2: ∀ m∈ms2,m.parts.length<=m.cap/\w.heap.size<=m.lo:=fun m hm=>⟨(hpc2 m hm).1,aU hlo2 (hpc2 m hm).2⟩
 have hml2:ms2.length=ms.length:=by have:=congrArg ci hma;simpa using this
 refine G (Yu Z)<|G (Xa Z Z)<|G (Xi Z Z)<|G (Xi Z Z)<|bo H 1 (#[J (ck),J (wt),J (gn),.slice mA2 ms2.length mC2,.slice oA2 os.length oC2]) bD Z Z Z Z Z N N fun w4 H=>G (Wi Z)<|G (Wi Z)<|U<|W<|Zb<|W<|Zr<|G (Yi Z)<|G (bZ Z Z Z)<|G (Wb Z)<|U<|ZF Z<|W<|Zr<|G (Yi Z)<|G (dd Z Z I)<|G (Yb Z)<|ZG<|G (Yi Z)<|ZG<|G (eB Z Z I)<|G (N Z Z)<|G (Wb Z)<|U<|ZF Z<|W ?_
 obtain⟨t2,ht2,hta⟩:=AG hma ht
 have hl2:=(cC ht2).1
 obtain⟨g,cur,rfl,rfl,row⟩:=ho2.row I
 have htp:t2.parts=t.parts:=(congrArg Mem.parts hta:t2.a.parts=t.a.parts)
 have hpl:=iR hma hmo t2 (ab ht2)
 have hrp:=lX H (show nE t2∈_ from cj _ (bS (ab ht2)))
 refine Zr<|G (Zf dK Z)<|G (Zd du H 1 Z Z Z)<|G (Yi Z)<|G (cG eG Z Z (by first|omega|(simp only[ae];omega)))<|G (Zf i6 Z)<|G (bP cy row ht2 2 Z (H.ent (i:=2) Z) Z)<|G (Yi Z)<|ch fJ (lF t2.parts part t2.A t2.cap _ (lX H (show nE t2∈_ from by first|exact cj _ (bS (ab ht2))|simp[ab ht2])) I) Z Z ?_
 rw[htp,decide_eq_false hpt]
 rintro _ w5 ⟨rfl,hb⟩;replace H:=H.later hb;clear hb
 refine G (dM Z)<|G (Wb Z)<|U<|ZT Z<|W<|Zr<|G (bg (cs:= #[J (0),J (0),J (0),.slice none 0 0,.slice none 0 0]) kc d8 N)<|bo H 0 (#[J (0),J (0),J (0),.slice none 0 0,.slice none 0 0]) bD Z Z Z Z Z N N fun w6 H=>G (Wi Z)<|U<|Zt ?_
 exact bE (cs0:= #[J 0,J 0,J 0,.slice none 0 0,.slice none 0 0]) (v1:=J 12) Z aQ Z (H.ent (i:=0) Z) Z Z ⟨rfl,H.below⟩
theorem Lj (g:Gr) (s:ByteArray) (gn_ part at_:Int) (w:World) (h:g.rd 0 w.heap.size w) (hok:lM g=true) (hn:bL s=true) (i:Nat) (t:Mem) (hi:qg g s=i) (ht:g.ms[i]? =some t) (hg:g.gen=gn_) (hat0:0<=at_) (hat:at_<=400) (hpt:part∈t.parts):dh aa jS [g.v,.string s,J gn_,J part,J at_] w fun v w2=> ∃ g':Gr,v=.tuple #[g'.v,J 0]/\g'.a={g.a with os:=gT g.os part at_}/\zf w w2 g':=by
 refine aE kp Z Z ?_
 have hmC:=h.mC
 have hoC:=h.oC
 have hfew:=h.few
 have hfp:=h.fewP
 have H:=Hp.startGr h
 obtain⟨ck,wt,gn,ms,mA,mC,os,oA,oC⟩:=g
 dsimp only at hmC hoC hfew hfp H
 show CW _ _ _ _ (args [.agg #[J (ck),J (wt),J (gn),.slice mA ms.length mC,.slice oA os.length oC],.string (s),J (gn_),J (part),J (at_)]) w
 obtain⟨⟨⟨k1,k2⟩,k3,k4,⟨k5,k6⟩,k7,k8⟩,⟨hmo,hap⟩,hof,hor⟩:=dy.1 hok
 dsimp only at k1 k2 k3 k4 k5 k6 k7 k8 hmo
 dsimp only at ht
 refine W<|Zr<|f7 H Z Z fun w1 b5 H=>eP H d8 Z fun w2 b10 H=>G (Wi Z)<|U<|W<|Zr<|G (Zw aQ H 1 Z Z Z)<|G (Yt Z)<|G (Yi Z)<|ch iq (zM ⟨ck,wt,gn,ms,mA,mC,os,oA,oC⟩ s gn_ _ ⟨H.rd0 0 Z,fun m hm=>zL H 1 Z hm,H.rd0 2 Z,hmC,hoC,hfew,hfp⟩ hok hn i hi hg) Z Z ?_
 rintro _ w3 ⟨⟨ck2,wt2,gn2,ms2,mA2,mC2,os2,oA2,oC2⟩,Lm,Lo,rfl,ha2,ho2,hoo2,hmc2,hoc2,hpc2,hj2⟩
 have hlo2:=H.size
 replace H:=Hp.joinG H hj2 (fun m hm=>(hpc2 m hm).2);clear hj2
 simp only[Gr.a,Gr.mk.injEq]at ha2
 obtain⟨e1,e2,e3,hma,-,-,e4,-,-⟩:=ha2
 obtain rfl:ck=ck2:=e1.symm
 obtain rfl:wt=wt2:=e2.symm
 obtain rfl:gn=gn2:=e3.symm
 obtain rfl:os=os2:=e4.symm
 dsimp only at ho2 hoo2 hmc2 hoc2 hpc2 H
 replace hpc2: ∀ m∈ms2,m.parts.length<=m.cap/\w.heap.size<=m.lo:=fun m hm=>⟨(hpc2 m hm).1,aU hlo2 (hpc2 m hm).2⟩
 have hml2:ms2.length=ms.length:=by have:=congrArg ci hma;simpa using this
 refine G (Yu Z)<|G (Xa Z Z)<|G (Xi Z Z)<|G (Xi Z Z)<|bo H 1 (#[J (ck),J (wt),J (gn),.slice mA2 ms2.length mC2,.slice oA2 os.length oC2]) bD Z Z Z Z Z N N fun w4 H=>G (Wi Z)<|G (Wi Z)<|U<|W<|Zb<|W<|Zr<|G (Yi Z)<|G (bZ Z Z Z)<|G (Wb Z)<|U<|ZF Z<|W<|Zr<|G (Yi Z)<|G (dd Z Z I)<|G (Yb Z)<|ZG<|G (Yi Z)<|ZG<|G (eB Z Z I)<|G (N Z Z)<|G (Wb Z)<|U<|ZF Z<|W ?_
 obtain⟨t2,ht2,hta⟩:=AG hma ht
 have hl2:=(cC ht2).1
 obtain⟨g,cur,rfl,rfl,row⟩:=ho2.row I
 have htp:t2.parts=t.parts:=(congrArg Mem.parts hta:t2.a.parts=t.a.parts)
 have hpl:=iR hma hmo t2 (ab ht2)
 have hrp:=lX H (show nE t2∈_ from cj _ (bS (ab ht2)))
 refine Zr<|G (Zf dK Z)<|G (Zd du H 1 Z Z Z)<|G (Yi Z)<|G (cG eG Z Z (by first|omega|(simp only[ae];omega)))<|G (Zf i6 Z)<|G (bP cy row ht2 2 Z (H.ent (i:=2) Z) Z)<|G (Yi Z)<|ch fJ (lF t2.parts part t2.A t2.cap _ (lX H (show nE t2∈_ from by first|exact cj _ (bS (ab ht2))|simp[ab ht2])) I) Z Z ?_
 rw[htp,decide_eq_true hpt]
 rintro _ w5 ⟨rfl,hb⟩;replace H:=H.later hb;clear hb
 refine G (dM Z)<|G (Wb Z)<|U<|ZF Z<|Zk<|W<|Zr<|G (Wi Z)<|U<|W<|Zb ?_
 refine cD (τ:=Nat) [14,47,48,49,50,51,52,53,54,55,56,57,58,59,60,61,62,63] (fun k=>[(14,J (k:Nat))]) (fun k w'=>k<=os.length/\(∀ x∈os.take k,x.part<part)/\Hp w w' ([(b10,.cells #[J 0,J 0,J 0,.slice none 0 0,.slice none 0 0] cO (0,0)),(b5,.cells #[J (ck),J (wt),J (gn),.slice (Qd g) ms2.length mC2,.slice oA2 os.length oC2] cO (0,0)),(g,.cells cur df (0,0))]++Lo) ([dU jW 0 w.heap.size mA ms,Jl 0 w.heap.size ms,dU f6 0 w.heap.size oA os]++ms2.map nE)) (fun k=>os.length-k) 0 ⟨by omega,by simp,H⟩ (dP Z) ?_
 rintro k ρ1 w6 ⟨hk,hwh,H⟩
 show CW _ _ _ _ (dH (gZ _ _ ρ1) [(14,J (k:Nat))]) w6
 refine W<|W<|Zr<|G (Yi Z)<|G (Zf dW Z)<|G (Zd eC H 1 Z Z Z)<|G (br im Z) ?_
 refine cW (cK Z Z) Z Z Z (fun h51=> ?_) (fun h51=> ?_)
 obtain⟨g2,cur2,rfl,rfl,row2⟩:=hoo2.row I
 obtain⟨o,ho⟩: ∃ o,os[k]? =some o:=⟨_,ah I⟩
 refine G (Yb Z)<|ZG<|G (Zf dW Z)<|ZG<|G (Zd eC H 1 Z Z Z)<|ZG<|G (Yi Z)<|ZG<|G (cG cZ Z Z (by first|omega|(simp only[ae];omega)))<|ZG<|G (Zf jv Z)<|ZG<|G (bP ak row2 ho 0 Z (H.ent (i:=3) Z) Z)<|ZG<|G (Yi Z)<|ZG ?_
 refine cW (cK Z Z) Z Z Z (fun h60=> ?_) (fun h60=> ?_)
 refine G (Kt Z Z)<|U<|ZT Z<|Zk<|Zb<|Zr<|G (Yi Z)<|G (bw Z Z I I)<|G (Wi Z)<|U ?_
 exact⟨k+1,⟨by omega,by rw[eu ho];intro x hx;rcases ap.1 hx with hx|hx;exact hwh x hx;rw[aq.1 hx];exact h60,H⟩,dP Z,Qg,by show os.length- (k+1)<os.length-k;omega⟩
 refine G (Kt Z Z)<|U<|ZF Z<|Zx<|W<|W ?_
 have hkl:mK os part=k:=z0 (fun x hx=>by simpa using hwh x hx) (fun x hx=>by rw[ho]at hx;injection hx with hx;subst hx;simpa using h60) hk
 refine Zr<|G (Yi Z)<|G (Zf dW Z)<|G (Zd eC H 1 Z Z Z)<|G (br im Z) ?_
 refine cW (cK Z Z) Z Z Z (fun h68=> ?_) (fun h68=> ?_)
 refine G (Yb Z)<|ZG<|G (Zf dW Z)<|ZG<|G (Zd eC H 1 Z Z Z)<|ZG<|G (Yi Z)<|ZG<|G (cG cZ Z Z (by first|omega|(simp only[ae];omega)))<|ZG<|G (Zf jv Z)<|ZG<|G (bP ak row2 ho 0 Z (H.ent (i:=3) Z) Z)<|ZG<|G (Yi Z)<|ZG ?_
 refine cW (bn Z Z) Z Z Z (fun h77=> ?_) (fun h77=> ?_)
 refine G (Kt Z Z)<|U<|ZT Z ?_
 have hput:gT os part at_=os.set k {o with at_:=at_}:=by unfold gT;rw[hkl,ho];rw[if_pos (show Option.map mw.part (some o)=some part from congrArg some h77)];subst h77;rfl
 refine Zr<|G (Zf dW Z)<|G (Zd eC H 1 Z Z Z)<|G (Yi Z)<|G (Yi Z)<|G (cG cZ Z Z (by first|omega|(simp only[ae];omega)))<|G (Zf oM Z)<|k9 H 3 ({o with at_:=at_}) bH row2 ho 1 Z Z Z Z Z Z N fun w8 cur7 row7 H=> ?_
 have hs9:(os.set k ({o with at_:=at_}))[k]? =some ({o with at_:=at_}):=al (cC ho).1
 refine U<|W<|Zr<|G (Zw aQ H 1 Z Z Z)<|bo H 0 (#[J (ck),J (wt),J (gn),.slice (Qd g) ms2.length mC2,.slice (Qd g2) os.length oC2]) bD Z Z Z Z Z N N fun w10 H=>G (Wi Z)<|U<|Zt ?_
 exact bE (cs0:= #[J (ck),J (wt),J (gn),.slice (Qd g) ms2.length mC2,.slice (Qd g2) os.length oC2]) (v1:=J 0) Z aQ Z (H.ent (i:=0) Z) Z Z ⟨⟨ck,wt,gn,ms2,some ⟨g,0,none⟩,mC2,os.set k {o with at_:=at_},some ⟨g2,0,none⟩,oC2⟩,by unfold Gr.v Gr.c;dsimp only;rw[ae],by unfold Gr.a;dsimp only;rw[hma];show _=({Gr.a ⟨ck,wt,gn,ms,mA,mC,os,oA,oC⟩with os:=gT os part at_}:Gr);rw[hput];rfl,rc.new (ga:=Gr.a ⟨ck,wt,gn,ms2,some ⟨g,0,none⟩,mC2,os.set k {o with at_:=at_},some ⟨g2,0,none⟩,oC2⟩) ⟨rfl,dX.own row,by dsimp only;rw[ae];have hO:=dX.own (g:=g2) (e:=ef) row7;rw[ae]at hO;exact hO,hmc2,by dsimp only;rw[ae];exact hoc2,hpc2,H.forget (.cons _ (.cons _ (ar _))) (fun f hf=>by simp only[ax,ap];grind)⟩ (by dsimp only;omega) (by dsimp only;rw[<-hput];have:=nB os part at_;omega) (iR hma hmo)⟩
 refine G (Kt Z Z)<|U<|ZF Z ?_
 have hput:gT os part at_=os.take k++[⟨part,at_⟩]++os.drop k:=by unfold gT;rw[hkl];rw[if_neg (by rw[ho];intro hx;exact h77 (ba hx))]
 refine Zr<|G (Zf dW Z)<|G (Zd eC H 1 Z Z Z)<|G (Yi Z)<|G (Yi Z)<|G (Yi Z)<|G (bg (cs:= #[J (part),J (at_)]) uJ lj N)<|s9 (vs:=[.agg #[J (part),J (at_)]]) H cZ lj Z Z Z Z Z Z fun w11 b91 H=>ch fa (jB (K:=[(b10,.cells #[J (0),J (0),J (0),.slice none 0 0,.slice none 0 0] cO (0,0)),(b5,.cells #[J (ck),J (wt),J (gn),.slice (Qd g) ms2.length mC2,.slice (Qd g2) os.length oC2] cO (0,0)),(g,.cells cur df (0,0))]) (Lt:=[(g2,.cells cur2 ef (0,0))]) (M:=[]) (x:=⟨part,at_⟩) (i:=k) (by rw[aZ];exact H) hoo2 I I) Z Z ?_
 rintro _ w12 ⟨A9,c9,L9,rfl,ho9,HI⟩
 replace H:Hp w w12 ([(b91,.cells #[J (part),J (at_)] ef (0,0)),(b10,.cells #[J (0),J (0),J (0),.slice none 0 0,.slice none 0 0] cO (0,0)),(b5,.cells #[J (ck),J (wt),J (gn),.slice (Qd g) ms2.length mC2,.slice (Qd g2) os.length oC2] cO (0,0)),(g,.cells cur df (0,0))]++L9) ([dU jW 0 w.heap.size mA ms,Jl 0 w.heap.size ms,dU f6 0 w.heap.size oA os]++ms2.map nE):=by rw[aZ]at HI;exact HI
 clear HI
 have hc9:(os.take k++[(⟨part,at_⟩:mw)]++os.drop k).length<=c9:=by obtain⟨_,_,e,h,_⟩:=ho9.form;injection e with _ _ e;rw[e];exact h
 refine G (Zf dW Z)<|bo H 2 (#[J (ck),J (wt),J (gn),.slice (Qd g) ms2.length mC2,.slice A9 ((os.take k++[(⟨part,at_⟩:mw)]++os.drop k).length) c9]) om Z Z Z Z Z N N fun w13 H=>U<|W<|Zr<|G (Zw aQ H 2 Z Z Z)<|bo H 1 (#[J (ck),J (wt),J (gn),.slice (Qd g) ms2.length mC2,.slice A9 ((os.take k++[(⟨part,at_⟩:mw)]++os.drop k).length) c9]) bD Z Z Z Z Z N N fun w14 H=>G (Wi Z)<|U<|Zt ?_
 exact bE (cs0:= #[J (ck),J (wt),J (gn),.slice (Qd g) ms2.length mC2,.slice A9 (((os.take k++[(⟨part,at_⟩:mw)]++os.drop k)).length) c9]) (v1:=J 0) Z aQ Z (H.ent (i:=1) Z) Z Z ⟨⟨ck,wt,gn,ms2,some ⟨g,0,none⟩,mC2,os.take k++[(⟨part,at_⟩:mw)]++os.drop k,A9,c9⟩,rfl,by unfold Gr.a;dsimp only;rw[hma];show _=({Gr.a ⟨ck,wt,gn,ms,mA,mC,os,oA,oC⟩with os:=gT os part at_}:Gr);rw[hput];rfl,rc.new (ga:=Gr.a ⟨ck,wt,gn,ms2,some ⟨g,0,none⟩,mC2,os.take k++[(⟨part,at_⟩:mw)]++os.drop k,A9,c9⟩) ⟨rfl,dX.own row,ho9,hmc2,hc9,hpc2,H.forget (.cons _ (.cons _ (.cons _ (ar _)))) (fun f hf=>by simp only[ax,ap];grind)⟩ (by dsimp only;omega) (by dsimp only;rw[<-hput];have:=nB os part at_;omega) (iR hma hmo)⟩
 refine G (Yb Z)<|ZN<|ZN<|ZN<|ZN<|ZN<|ZN<|ZN<|ZN<|G (N Z Z)<|U<|ZF Z ?_
 have hput:gT os part at_=os.take k++[⟨part,at_⟩]++os.drop k:=by unfold gT;rw[hkl];rw[if_neg (by rw[cL I];simp)]
 refine Zr<|G (Zf dW Z)<|G (Zd eC H 1 Z Z Z)<|G (Yi Z)<|G (Yi Z)<|G (Yi Z)<|G (bg (cs:= #[J (part),J (at_)]) uJ lj N)<|s9 (vs:=[.agg #[J (part),J (at_)]]) H cZ lj Z Z Z Z Z Z fun w15 b91 H=>ch fa (jB (K:=[(b10,.cells #[J (0),J (0),J (0),.slice none 0 0,.slice none 0 0] cO (0,0)),(b5,.cells #[J (ck),J (wt),J (gn),.slice (Qd g) ms2.length mC2,.slice (Qd g2) os.length oC2] cO (0,0)),(g,.cells cur df (0,0))]) (Lt:=[(g2,.cells cur2 ef (0,0))]) (M:=[]) (x:=⟨part,at_⟩) (i:=k) (by rw[aZ];exact H) hoo2 I I) Z Z ?_
 rintro _ w16 ⟨A9,c9,L9,rfl,ho9,HI⟩
 replace H:Hp w w16 ([(b91,.cells #[J (part),J (at_)] ef (0,0)),(b10,.cells #[J (0),J (0),J (0),.slice none 0 0,.slice none 0 0] cO (0,0)),(b5,.cells #[J (ck),J (wt),J (gn),.slice (Qd g) ms2.length mC2,.slice (Qd g2) os.length oC2] cO (0,0)),(g,.cells cur df (0,0))]++L9) ([dU jW 0 w.heap.size mA ms,Jl 0 w.heap.size ms,dU f6 0 w.heap.size oA os]++ms2.map nE):=by rw[aZ]at HI;exact HI
 clear HI
 have hc9:(os.take k++[(⟨part,at_⟩:mw)]++os.drop k).length<=c9:=by obtain⟨_,_,e,h,_⟩:=ho9.form;injection e with _ _ e;rw[e];exact h
 refine G (Zf dW Z)<|bo H 2 (#[J (ck),J (wt),J (gn),.slice (Qd g) ms2.length mC2,.slice A9 ((os.take k++[(⟨part,at_⟩:mw)]++os.drop k).length) c9]) om Z Z Z Z Z N N fun w17 H=>U<|W<|Zr<|G (Zw aQ H 2 Z Z Z)<|bo H 1 (#[J (ck),J (wt),J (gn),.slice (Qd g) ms2.length mC2,.slice A9 ((os.take k++[(⟨part,at_⟩:mw)]++os.drop k).length) c9]) bD Z Z Z Z Z N N fun w18 H=>G (Wi Z)<|U<|Zt ?_
 exact bE (cs0:= #[J (ck),J (wt),J (gn),.slice (Qd g) ms2.length mC2,.slice A9 (((os.take k++[(⟨part,at_⟩:mw)]++os.drop k)).length) c9]) (v1:=J 0) Z aQ Z (H.ent (i:=1) Z) Z Z ⟨⟨ck,wt,gn,ms2,some ⟨g,0,none⟩,mC2,os.take k++[(⟨part,at_⟩:mw)]++os.drop k,A9,c9⟩,rfl,by unfold Gr.a;dsimp only;rw[hma];show _=({Gr.a ⟨ck,wt,gn,ms,mA,mC,os,oA,oC⟩with os:=gT os part at_}:Gr);rw[hput];rfl,rc.new (ga:=Gr.a ⟨ck,wt,gn,ms2,some ⟨g,0,none⟩,mC2,os.take k++[(⟨part,at_⟩:mw)]++os.drop k,A9,c9⟩) ⟨rfl,dX.own row,ho9,hmc2,hc9,hpc2,H.forget (.cons _ (.cons _ (.cons _ (ar _)))) (fun f hf=>by simp only[ax,ap];grind)⟩ (by dsimp only;omega) (by dsimp only;rw[<-hput];have:=nB os part at_;omega) (iR hma hmo)⟩
 refine G (Yb Z)<|ZN<|ZN<|ZN<|ZN<|ZN<|ZN<|ZN<|ZN<|G (N Z Z)<|U<|ZF Z<|Zx<|W<|W ?_
 have hkl:mK os part=k:=z0 (fun x hx=>by simpa using hwh x hx) (fun x hx=>absurd (cC hx).1 I) hk
 refine Zr<|G (Yi Z)<|G (Zf dW Z)<|G (Zd eC H 1 Z Z Z)<|G (br im Z) ?_
 refine cW (cK Z Z) Z Z Z (fun h68=> ?_) (fun h68=> ?_)
 obtain⟨g2,cur2,rfl,rfl,row2⟩:=hoo2.row I
 obtain⟨o,ho⟩: ∃ o,os[k]? =some o:=⟨_,ah I⟩
 refine G (Yb Z)<|ZG<|G (Zf dW Z)<|ZG<|G (Zd eC H 1 Z Z Z)<|ZG<|G (Yi Z)<|ZG<|G (cG cZ Z Z (by first|omega|(simp only[ae];omega)))<|ZG<|G (Zf jv Z)<|ZG<|G (bP ak row2 ho 0 Z (H.ent (i:=3) Z) Z)<|ZG<|G (Yi Z)<|ZG ?_
 refine cW (bn Z Z) Z Z Z (fun h77=> ?_) (fun h77=> ?_)
 refine G (Kt Z Z)<|U<|ZT Z ?_
 have hput:gT os part at_=os.set k {o with at_:=at_}:=by unfold gT;rw[hkl,ho];rw[if_pos (show Option.map mw.part (some o)=some part from congrArg some h77)];subst h77;rfl
 refine Zr<|G (Zf dW Z)<|G (Zd eC H 1 Z Z Z)<|G (Yi Z)<|G (Yi Z)<|G (cG cZ Z Z (by first|omega|(simp only[ae];omega)))<|G (Zf oM Z)<|k9 H 3 ({o with at_:=at_}) bH row2 ho 1 Z Z Z Z Z Z N fun w20 cur19 row19 H=> ?_
 have hs21:(os.set k ({o with at_:=at_}))[k]? =some ({o with at_:=at_}):=al (cC ho).1
 refine U<|W<|Zr<|G (Zw aQ H 1 Z Z Z)<|bo H 0 (#[J (ck),J (wt),J (gn),.slice (Qd g) ms2.length mC2,.slice (Qd g2) os.length oC2]) bD Z Z Z Z Z N N fun w22 H=>G (Wi Z)<|U<|Zt ?_
 exact bE (cs0:= #[J (ck),J (wt),J (gn),.slice (Qd g) ms2.length mC2,.slice (Qd g2) os.length oC2]) (v1:=J 0) Z aQ Z (H.ent (i:=0) Z) Z Z ⟨⟨ck,wt,gn,ms2,some ⟨g,0,none⟩,mC2,os.set k {o with at_:=at_},some ⟨g2,0,none⟩,oC2⟩,by unfold Gr.v Gr.c;dsimp only;rw[ae],by unfold Gr.a;dsimp only;rw[hma];show _=({Gr.a ⟨ck,wt,gn,ms,mA,mC,os,oA,oC⟩with os:=gT os part at_}:Gr);rw[hput];rfl,rc.new (ga:=Gr.a ⟨ck,wt,gn,ms2,some ⟨g,0,none⟩,mC2,os.set k {o with at_:=at_},some ⟨g2,0,none⟩,oC2⟩) ⟨rfl,dX.own row,by dsimp only;rw[ae];have hO:=dX.own (g:=g2) (e:=ef) row19;rw[ae]at hO;exact hO,hmc2,by dsimp only;rw[ae];exact hoc2,hpc2,H.forget (.cons _ (.cons _ (ar _))) (fun f hf=>by simp only[ax,ap];grind)⟩ (by dsimp only;omega) (by dsimp only;rw[<-hput];have:=nB os part at_;omega) (iR hma hmo)⟩
 refine G (Kt Z Z)<|U<|ZF Z ?_
 have hput:gT os part at_=os.take k++[⟨part,at_⟩]++os.drop k:=by unfold gT;rw[hkl];rw[if_neg (by rw[ho];intro hx;exact h77 (ba hx))]
 refine Zr<|G (Zf dW Z)<|G (Zd eC H 1 Z Z Z)<|G (Yi Z)<|G (Yi Z)<|G (Yi Z)<|G (bg (cs:= #[J (part),J (at_)]) uJ lj N)<|s9 (vs:=[.agg #[J (part),J (at_)]]) H cZ lj Z Z Z Z Z Z fun w23 b91 H=>ch fa (jB (K:=[(b10,.cells #[J (0),J (0),J (0),.slice none 0 0,.slice none 0 0] cO (0,0)),(b5,.cells #[J (ck),J (wt),J (gn),.slice (Qd g) ms2.length mC2,.slice (Qd g2) os.length oC2] cO (0,0)),(g,.cells cur df (0,0))]) (Lt:=[(g2,.cells cur2 ef (0,0))]) (M:=[]) (x:=⟨part,at_⟩) (i:=k) (by rw[aZ];exact H) hoo2 I I) Z Z ?_
 rintro _ w24 ⟨A9,c9,L9,rfl,ho9,HI⟩
 replace H:Hp w w24 ([(b91,.cells #[J (part),J (at_)] ef (0,0)),(b10,.cells #[J (0),J (0),J (0),.slice none 0 0,.slice none 0 0] cO (0,0)),(b5,.cells #[J (ck),J (wt),J (gn),.slice (Qd g) ms2.length mC2,.slice (Qd g2) os.length oC2] cO (0,0)),(g,.cells cur df (0,0))]++L9) ([dU jW 0 w.heap.size mA ms,Jl 0 w.heap.size ms,dU f6 0 w.heap.size oA os]++ms2.map nE):=by rw[aZ]at HI;exact HI
 clear HI
 have hc9:(os.take k++[(⟨part,at_⟩:mw)]++os.drop k).length<=c9:=by obtain⟨_,_,e,h,_⟩:=ho9.form;injection e with _ _ e;rw[e];exact h
 refine G (Zf dW Z)<|bo H 2 (#[J (ck),J (wt),J (gn),.slice (Qd g) ms2.length mC2,.slice A9 ((os.take k++[(⟨part,at_⟩:mw)]++os.drop k).length) c9]) om Z Z Z Z Z N N fun w25 H=>U<|W<|Zr<|G (Zw aQ H 2 Z Z Z)<|bo H 1 (#[J (ck),J (wt),J (gn),.slice (Qd g) ms2.length mC2,.slice A9 ((os.take k++[(⟨part,at_⟩:mw)]++os.drop k).length) c9]) bD Z Z Z Z Z N N fun w26 H=>G (Wi Z)<|U<|Zt ?_
 exact bE (cs0:= #[J (ck),J (wt),J (gn),.slice (Qd g) ms2.length mC2,.slice A9 (((os.take k++[(⟨part,at_⟩:mw)]++os.drop k)).length) c9]) (v1:=J 0) Z aQ Z (H.ent (i:=1) Z) Z Z ⟨⟨ck,wt,gn,ms2,some ⟨g,0,none⟩,mC2,os.take k++[(⟨part,at_⟩:mw)]++os.drop k,A9,c9⟩,rfl,by unfold Gr.a;dsimp only;rw[hma];show _=({Gr.a ⟨ck,wt,gn,ms,mA,mC,os,oA,oC⟩with os:=gT os part at_}:Gr);rw[hput];rfl,rc.new (ga:=Gr.a ⟨ck,wt,gn,ms2,some ⟨g,0,none⟩,mC2,os.take k++[(⟨part,at_⟩:mw)]++os.drop k,A9,c9⟩) ⟨rfl,dX.own row,ho9,hmc2,hc9,hpc2,H.forget (.cons _ (.cons _ (.cons _ (ar _)))) (fun f hf=>by simp only[ax,ap];grind)⟩ (by dsimp only;omega) (by dsimp only;rw[<-hput];have:=nB os part at_;omega) (iR hma hmo)⟩
 refine G (Yb Z)<|ZN<|ZN<|ZN<|ZN<|ZN<|ZN<|ZN<|ZN<|G (N Z Z)<|U<|ZF Z ?_
 have hput:gT os part at_=os.take k++[⟨part,at_⟩]++os.drop k:=by unfold gT;rw[hkl];rw[if_neg (by rw[cL I];simp)]
 refine Zr<|G (Zf dW Z)<|G (Zd eC H 1 Z Z Z)<|G (Yi Z)<|G (Yi Z)<|G (Yi Z)<|G (bg (cs:= #[J (part),J (at_)]) uJ lj N)<|s9 (vs:=[.agg #[J (part),J (at_)]]) H cZ lj Z Z Z Z Z Z fun w27 b91 H=>ch fa (jB (K:=[(b10,.cells #[J (0),J (0),J (0),.slice none 0 0,.slice none 0 0] cO (0,0)),(b5,.cells #[J (ck),J (wt),J (gn),.slice (Qd g) ms2.length mC2,.slice oA2 os.length oC2] cO (0,0)),(g,.cells cur df (0,0))]) (Lt:=Lo) (M:=[]) (x:=⟨part,at_⟩) (i:=k) (by rw[aZ];exact H) hoo2 I I) Z Z ?_
 rintro _ w28 ⟨A9,c9,L9,rfl,ho9,HI⟩
 replace H:Hp w w28 ([(b91,.cells #[J (part),J (at_)] ef (0,0)),(b10,.cells #[J (0),J (0),J (0),.slice none 0 0,.slice none 0 0] cO (0,0)),(b5,.cells #[J (ck),J (wt),J (gn),.slice (Qd g) ms2.length mC2,.slice oA2 os.length oC2] cO (0,0)),(g,.cells cur df (0,0))]++L9) ([dU jW 0 w.heap.size mA ms,Jl 0 w.heap.size ms,dU f6 0 w.heap.size oA os]++ms2.map nE):=by rw[aZ]at HI;exact HI
 clear HI
 have hc9:(os.take k++[(⟨part,at_⟩:mw)]++os.drop k).length<=c9:=by obtain⟨_,_,e,h,_⟩:=ho9.form;injection e with _ _ e;rw[e];exact h
 refine G (Zf dW Z)<|bo H 2 (#[J (ck),J (wt),J (gn),.slice (Qd g) ms2.length mC2,.slice A9 ((os.take k++[(⟨part,at_⟩:mw)]++os.drop k).length) c9]) om Z Z Z Z Z N N fun w29 H=>U<|W<|Zr<|G (Zw aQ H 2 Z Z Z)<|bo H 1 (#[J (ck),J (wt),J (gn),.slice (Qd g) ms2.length mC2,.slice A9 ((os.take k++[(⟨part,at_⟩:mw)]++os.drop k).length) c9]) bD Z Z Z Z Z N N fun w30 H=>G (Wi Z)<|U<|Zt ?_
 exact bE (cs0:= #[J (ck),J (wt),J (gn),.slice (Qd g) ms2.length mC2,.slice A9 (((os.take k++[(⟨part,at_⟩:mw)]++os.drop k)).length) c9]) (v1:=J 0) Z aQ Z (H.ent (i:=1) Z) Z Z ⟨⟨ck,wt,gn,ms2,some ⟨g,0,none⟩,mC2,os.take k++[(⟨part,at_⟩:mw)]++os.drop k,A9,c9⟩,rfl,by unfold Gr.a;dsimp only;rw[hma];show _=({Gr.a ⟨ck,wt,gn,ms,mA,mC,os,oA,oC⟩with os:=gT os part at_}:Gr);rw[hput];rfl,rc.new (ga:=Gr.a ⟨ck,wt,gn,ms2,some ⟨g,0,none⟩,mC2,os.take k++[(⟨part,at_⟩:mw)]++os.drop k,A9,c9⟩) ⟨rfl,dX.own row,ho9,hmc2,hc9,hpc2,H.forget (.cons _ (.cons _ (.cons _ (ar _)))) (fun f hf=>by simp only[ax,ap];grind)⟩ (by dsimp only;omega) (by dsimp only;rw[<-hput];have:=nB os part at_;omega) (iR hma hmo)⟩
theorem uM {α:Type} {l:List α} {k:Nat} {a:α} (h:l[k]? =some a):l.set k a=l:=by
 apply en
 intro i
 rw[lD]
 split
 rename_i hi
 subst hi
 split
 exact h.symm
 rename_i hl
 rw[cL I]at h;cases h
 rfl
def kr (g:Gr) (s:ByteArray):Option (Nat×Mem):=(g.ms.findIdx? fun p=>decide (p.name=s)).bind fun i=>g.ms[i]?.map fun t=>(i,t)
theorem nQ {g:Gr} {s:ByteArray} (h:kr g s=none):qg g s= -1:=by
 unfold kr at h
 unfold qg
 cases hi:g.ms.findIdx? fun p=>decide (p.name=s)with
 |none=>rfl
 |some i=>
  obtain⟨hl,-⟩:=aS.1 hi
  rw[hi]at h
  simp[ah hl]at h
theorem nP {g:Gr} {s:ByteArray} {i:Nat} {t:Mem} (h:kr g s=some (i,t)):qg g s=i/\g.ms[i]? =some t/\t.name=s:=by
 unfold kr at h
 unfold qg
 cases hi:g.ms.findIdx? fun p=>decide (p.name=s)with
 |none=>rw[hi]at h;cases h
 |some j=>
  obtain⟨hl,hn,-⟩:=aS.1 hi
  rw[hi]at h
  simp only[fx,ah hl,eY,lB,Prod.mk.injEq]at h
  obtain⟨rfl,rfl⟩:=h
  exact⟨rfl,ah hl,by simpa using hn⟩
theorem I8 (g:Gr) (s:ByteArray):kr g.a s=(kr g s).map fun(i,t)=>(i,t.a):=by
 have e:g.a.ms.findIdx? (fun p=>decide (p.name=s))=g.ms.findIdx? fun p=>decide (p.name=s):=by
  show(g.ms.map Mem.a).findIdx? _=_
  rw[DK]
  rfl
 unfold kr
 rw[e]
 cases g.ms.findIdx? fun p=>decide (p.name=s)with
 |none=>rfl
 |some i=>
  show(g.ms.map Mem.a)[i]?.map _=(g.ms[i]?.map _).map _
  rw[aL]
  cases g.ms[i]? <;>rfl
theorem Mm {g:Gr} {s:ByteArray} (h:kr g s=none): ∀ t∈g.ms,t.name≠s:=by
 have:=nQ h
 unfold qg at this
 cases hi:g.ms.findIdx? fun p=>decide (p.name=s)with
 |none=>rw[cV]at hi;intro t ht;simpa using hi t ht
 |some i=>rw[hi]at this;simp[lL]at this
def tj (g:Gr) (s:ByteArray) (p:Nat):Gr×Int:=match kr g s with
 |some _=>(B0,6)
 |none=>if g.ms.length=6 then(B0,16)else(IA {g with ms:=g.ms++[Eg s g.clock]} p,0)
def xF (g:Gr) (s:ByteArray) (gn:Int):Gr×Int:=match kr g s with
 |none=>(B0,5)
 |some (i,t)=>if g.gen=gn then(Nb g i t,0)else(B0,10)
def sE (g:Gr) (s:ByteArray) (gn part at_:Int):Gr×Int:=match kr g s with
 |none=>(B0,5)
 |some (_,t)=>if g.gen=gn then if 400<at_ then(B0,2)else if part∈t.parts then({g with os:=gT g.os part at_},0)else(B0,12)else(B0,10)
def eR (g:Gr) (s:ByteArray) (part:Int):Int×Int:=match kr g s with
 |none=>(0,5)
 |some (_,t)=>if part∈t.parts then(tL g.os part,0)else(0,12)
theorem Nh (l:List Mem):lh (l.map Mem.a)↔lh l:=by
 unfold lh
 rw[sM]
theorem EB (g:Gr):lM g.a=true↔lM g=true:=by
 rw[dy,dy]
 show(_/\_/\_/\_/\((g.ms.map Mem.a).length:Int)<=6/\_)/\((∀ m∈g.ms.map Mem.a,vB g.clock m=true)/\lh (g.ms.map Mem.a))/\_/\_↔_
 rw[bJ,Nh]
 have:(∀ m∈g.ms.map Mem.a,vB g.clock m=true)↔ ∀ m∈g.ms,vB g.clock m=true:=by
  constructor
  intro h m hm;exact h m.a (bS hm)
  intro h m hm
  obtain⟨x,hx,rfl⟩:=bp.1 hm
  exact h x hx
 rw[this]
 exact Iff.rfl
structure rf (P:ByteArray->Prop) (wt:Int) (p k:Nat) (g:Gr):Prop where
 ok:lM g=true
 clock:g.clock<=1000*k
 gen:g.gen<=k
 wait:g.wait=wt
 names: ∀ m∈g.ms,P m.name
 asg:g.ms.map Mem.parts=gO (g.ms.map Mem.name) p
theorem rf.more {P:ByteArray->Prop} {wt:Int} {p k m:Nat} {g:Gr} (h:rf P wt p k g) (hm:k<=m):rf P wt p m g:=⟨h.ok,by have:=h.clock;omega,by have:=h.gen;omega,h.wait,h.names,h.asg⟩
theorem yR (l:List Mem):(l.map Mem.a).map Mem.parts=l.map Mem.parts:=by rw[sw];rfl
theorem rf.a_iff {P:ByteArray->Prop} {wt:Int} {p k:Nat} {g:Gr}:rf P wt p k g.a↔rf P wt p k g:=by
 constructor
 rintro⟨h1,h2,h3,h4,h5,h6⟩
 refine⟨(EB g).1 h1,h2,h3,h4,fun m hm=>h5 m.a (bS hm),?_⟩
 have h6:(g.ms.map Mem.a).map Mem.parts=gO ((g.ms.map Mem.a).map Mem.name) p:=h6
 rw[sM,yR]at h6
 exact h6
 rintro⟨h1,h2,h3,h4,h5,h6⟩
 refine⟨(EB g).2 h1,h2,h3,h4,fun m hm=> ?_,?_⟩
 obtain⟨x,hx,rfl⟩:=bp.1 (show m∈g.ms.map Mem.a from hm)
 exact h5 x hx
 show(g.ms.map Mem.a).map Mem.parts=gO ((g.ms.map Mem.a).map Mem.name) p
 rw[sM,yR]
 exact h6
theorem rf.a {P:ByteArray->Prop} {wt:Int} {p k:Nat} {g:Gr} (h:rf P wt p k g):rf P wt p k g.a:=rf.a_iff.2 h
theorem rf.of_a {P:ByteArray->Prop} {wt:Int} {p k:Nat} {g:Gr} (h:rf P wt p k g.a):rf P wt p k g:=rf.a_iff.1 h
theorem wc: ∀ (l:List Int) (a:Int),l.Pairwise (· < ·)->(∀ q∈l,a<q/\q<4)->cT a l=true
 |[],_,_,_=>rfl
 |x::l,a,hp,hq=>by
  obtain⟨h1,h2⟩:=dY.1 hp
  unfold cT
  have:=hq x (az ..)
  rw[wc l x h2 fun q hq'=>⟨h1 q hq',(hq q (aj _ hq')).2⟩]
  simp[this.1,this.2]
theorem Js (n:Nat):(rg n).Pairwise (· < ·):=by
 unfold rg
 rw[gm]
 exact List.pairwise_lt_range.imp fun h=>by omega
theorem Hx {names:List ByteArray} {p i:Nat} (hp:p<=4):cT (-1) (mI names p i)=true:=by
 refine wc _ _ ((Js p).filter _) fun q hq=> ?_
 obtain⟨j,hj,rfl⟩:=wM.1 (kZ.1 hq).1
 omega
theorem DD (ms:List Mem) (p:Nat):(pn ms p).map Mem.name=ms.map Mem.name:=by
 unfold pn
 rw[List.map_zipWith]
 refine en fun i=> ?_
 rw[qx,aL]
 unfold gO
 rw[aL,bJ]
 cases h:ms[i]? with
 |none=>rfl
 |some m=>
  have:=(cC h).1
  rw[zU this]
  rfl
theorem GW (ms:List Mem) (p:Nat):(pn ms p).map Mem.parts=gO (ms.map Mem.name) p:=by
 unfold pn
 rw[List.map_zipWith]
 refine en fun i=> ?_
 rw[qx]
 cases h:ms[i]? with
 |none=>
  have:ms.length<=i:=by simpa using h
  rw[cL (by rw[oS,bJ];exact this)]
 |some m=>
  have:=(cC h).1
  have hl:i<(gO (ms.map Mem.name) p).length:=by rw[oS,bJ];exact this
  rw[ah hl]
theorem BQ {ms:List Mem} {p:Nat} {m:Mem} (h:m∈pn ms p): ∃ x∈ms,m.name=x.name/\m.heard=x.heard:=by
 obtain⟨i,hi⟩:=aT.1 h
 unfold pn at hi
 rw[qx]at hi
 split at hi
 rename_i x l hx hl
 injection hi with hi
 exact⟨x,ab hx,by rw[<-hi],by rw[<-hi]⟩
 cases hi
theorem Nf {P:ByteArray->Prop} {wt:Int} {p k:Nat} {g:Gr} (hp:p<=4) (hk:k<=100000) (hc:0<=g.clock/\g.clock<=1000*(k+1)) (hw:g.wait=wt) (hw1:1<=g.wait/\g.wait<=1000) (hg:0<=g.gen/\g.gen<=k) (hl:(g.ms.length:Int)<=6) (hol:(g.os.length:Int)<=4) (hm: ∀ m∈g.ms,bL m.name=true/\P m.name/\0<=m.heard/\m.heard<=g.clock) (ha:lh g.ms) (ho:(∀ o∈g.os,0<=o.part/\o.part<4/\0<=o.at_/\o.at_<=400)/\g.os.Pairwise (fun a b=>a.part<b.part)):rf P wt p (k+1) (IA g p):=by
 refine⟨dy.2 ⟨⟨⟨hc.1,by show g.clock<=_;omega⟩,hw1.1,hw1.2,⟨by show 0<=g.gen+1;omega,by show g.gen+1<=_;omega⟩,by show((pn g.ms p).length:Int)<=6;rw[BP];exact hl,hol⟩,⟨fun m hm2=> ?_,?_⟩,ho⟩,by show g.clock<=_;omega,by show g.gen+1<=_;omega,hw,fun m hm2=> ?_,?_⟩
 obtain⟨x,hx,e1,e2⟩:=BQ hm2
 obtain⟨i,hi⟩:=BO hm2
 obtain⟨a1,a2,a3,a4⟩:=hm x hx
 exact jQ.2 ⟨by rw[e1];exact a1,by rw[e2];exact a3,by rw[e2];exact a4,by rw[hi];exact Hx hp⟩
 unfold lh
 show((pn g.ms p).map _).Pairwise _
 rw[DD];exact ha
 obtain⟨x,hx,e1,-⟩:=BQ hm2
 rw[e1];exact(hm x hx).2.1
 show(pn g.ms p).map _=gO ((pn g.ms p).map _) p
 rw[DD,GW]
theorem rf.mems {P:ByteArray->Prop} {wt:Int} {p k:Nat} {g:Gr} (h:rf P wt p k g): ∀ m∈g.ms,bL m.name=true/\P m.name/\0<=m.heard/\m.heard<=g.clock:=fun m hm=>by
 obtain⟨-,⟨h2,-⟩,-⟩:=dy.1 h.ok
 obtain⟨a1,a2,a3,-⟩:=jQ.1 (h2 m hm)
 exact⟨a1,h.names m hm,a2,a3⟩
theorem rf.join {P:ByteArray->Prop} {wt:Int} {p k:Nat} {g:Gr} {s:ByteArray} (h:rf P wt p k g) (hp:p<=4) (hk:k<=100000) (hn:bL s=true) (hs:P s) (he:(tj g s p).2=0):rf P wt p (k+1) (tj g s p).1:=by
 obtain⟨⟨h1,h2,h3,h4,h5,h6⟩,⟨h7,h8⟩,h9⟩:=dy.1 h.ok
 unfold tj at he⊢
 cases hf:kr g s with
 |some x=>rw[hf]at he;cases he
 |none=>
  rw[hf]at he
  dsimp only at he⊢
  by_cases hl:g.ms.length=6
  rw[if_pos hl]at he;cases he
  rw[if_neg hl]
  have hno:=Mm hf
  have hck:=h.clock
  refine Nf hp hk ⟨h1.1,by show g.clock<=_;omega⟩ h.wait ⟨h2,h3⟩ ⟨h4.1,h.gen⟩ ?_ h6 (fun m hm=> ?_) ?_ h9
  show((g.ms++[_]).length:Int)<=6
  rw[ay,bO];omega
  rcases ap.1 hm with hm|hm
  exact h.mems m hm
  rw[aq.1 hm]
  exact⟨hn,hs,h1.1,fj _⟩
  unfold lh at h8⊢
  show((g.ms++[Eg s g.clock]).map _).Pairwise _
  rw[bl,mj]
  refine⟨h8,by simp,fun a ha b hb=> ?_⟩
  obtain⟨t,ht,rfl⟩:=bp.1 ha
  simp only[ey,mB,aq]at hb
  subst hb
  exact hno t ht
theorem IC {l:List Mem} {i:Nat} {t t':Mem} (h:lh l) (hi:l[i]? =some t) (hn:t'.name=t.name):lh (l.set i t'):=by
 unfold lh at h⊢
 rw[cE,hn,uM (by rw[aL,hi];rfl)]
 exact h
theorem rf.beat {P:ByteArray->Prop} {wt:Int} {p k:Nat} {g:Gr} {s:ByteArray} {gn:Int} (h:rf P wt p k g) (he:(xF g s gn).2=0):rf P wt p (k+1) (xF g s gn).1:=by
 obtain⟨⟨h1,h2,h3,h4,h5,h6⟩,⟨h7,h8⟩,h9⟩:=dy.1 h.ok
 unfold xF at he⊢
 cases hf:kr g s with
 |none=>rw[hf]at he;cases he
 |some x=>
  obtain⟨i,t⟩:=x
  rw[hf]at he
  dsimp only at he⊢
  obtain⟨-,ht,-⟩:=nP hf
  have hm:=ab ht
  have hck:=h.clock
  have hgn:=h.gen
  by_cases hg:g.gen=gn
  rw[if_pos hg]
  refine⟨dy.2 ⟨⟨h1,h2,h3,h4,?_,h6⟩,⟨fun m hm2=> ?_,IC h8 ht Z⟩,h9⟩,?_,?_,h.wait,fun m hm2=> ?_,?_⟩
  show((g.ms.set i _).length:Int)<=6
  rw[ae];exact h5
  rcases aM hm2 with hm2|rfl
  exact h7 m hm2
  have:=jQ.1 (h7 t hm)
  exact jQ.2 ⟨this.1,h1.1,fj _,this.2.2.2⟩
  show g.clock<=_;omega
  show g.gen<=_;omega
  rcases aM hm2 with hm2|rfl
  exact h.names m hm2
  exact h.names t hm
  show(g.ms.set i _).map _=gO ((g.ms.set i _).map _) p
  rw[cE,cE]
  rw[uM (by rw[aL,ht];rfl),uM (by rw[aL,ht];rfl)]
  exact h.asg
  rw[if_neg hg]at he;cases he
theorem HD {os:List mw} {part:Int}: ∀ o∈os.take (mK os part),o.part<part:=by
 unfold mK
 intro o ho
 rw[<-List.prefix_iff_eq_take.1 (List.takeWhile_prefix _)]at ho
 have:=eh.1 (List.all_takeWhile (p:=fun o:mw=>decide (o.part<part)) (l:=os)) o ho
 simpa using this
theorem Az {os:List mw} {part:Int} (h:os.Pairwise (fun a b=>a.part<b.part)): ∀ o∈os.drop (mK os part),part<=o.part:=by
 induction os with
 |nil=>intro o ho;simp at ho
 |cons x l ih=>
  obtain⟨h1,h2⟩:=dY.1 h
  intro o ho
  by_cases hx:x.part<part
  have e:mK (x::l) part=mK l part+1:=by unfold mK;rw[List.takeWhile_cons_of_pos (by simpa using hx)];rfl
  rw[e,zV]at ho
  exact ih h2 o ho
  have e:mK (x::l) part=0:=by unfold mK;rw[List.takeWhile_cons_of_neg (by simpa using hx)];rfl
  rw[e,ml]at ho
  rcases ax.1 ho with rfl|ho
  omega
  have:=h1 o ho;omega
theorem Mg {os:List mw} (h:os.Pairwise (fun a b=>a.part<b.part)) (hb: ∀ o∈os,0<=o.part/\o.part<4):(os.length:Int)<=4:=by
 have h1:cT (-1) (os.map mw.part)=true:=wc _ _ (gm.2 h) fun q hq=>by
  obtain⟨o,ho,rfl⟩:=bp.1 hq
  have:=hb o ho;omega
 have:=mG h1
 rw[bJ]at this
 omega
theorem JO {os:List mw} {part at_:Int} (h0:0<=part) (h3:part<4) (ha0:0<=at_) (ha:at_<=400) (ho:(∀ o∈os,0<=o.part/\o.part<4/\0<=o.at_/\o.at_<=400)/\os.Pairwise (fun a b=>a.part<b.part)):((∀ o∈gT os part at_,0<=o.part/\o.part<4/\0<=o.at_/\o.at_<=400)/\(gT os part at_).Pairwise (fun a b=>a.part<b.part)):=by
 obtain⟨h1,h2⟩:=ho
 unfold gT
 split
 rename_i hp
 obtain⟨o,hx,hxp⟩:=iS.1 hp
 refine⟨fun y hy=> ?_,?_⟩
 rcases aM hy with hy|rfl
 exact h1 y hy
 exact⟨h0,h3,ha0,ha⟩
 have:(os.set (mK os part) ⟨part,at_⟩).map mw.part=os.map mw.part:=by
  rw[cE,uM (by rw[aL,hx];show some o.part=some part;rw[hxp])]
 rw[<-gm (f:=mw.part) (R:=fun a b:Int=>a<b),this,gm]
 exact h2
 rename_i hp
 refine⟨fun y hy=> ?_,?_⟩
 simp only[ap,aq]at hy
 rcases hy with(hy|rfl)|hy
 exact h1 y (zi hy)
 exact⟨h0,h3,ha0,ha⟩
 exact h1 y (List.mem_of_mem_drop hy)
 have hd: ∀ o∈os.drop (mK os part),part<o.part:=fun o ho=>by
  have h4:=Az h2 o ho
  rcases Int.lt_or_eq_of_le h4 with h5|h5
  exact h5
  exfalso
  obtain⟨j,hj⟩:=aT.1 ho
  cases hd:os.drop (mK os part)with
  |nil=>rw[hd]at hj;simp at hj
  |cons y l=>
   have hy:os[mK os part]? =some y:=by
    have:=congrArg (fun l=>l[0]?) hd
    simpa [dx]using this
   have hyp:y.part≠part:=fun h=>hp (by rw[hy];exact congrArg some h)
   have hy1:=Az h2 y (by rw[hd];exact az ..)
   have hpw:(y::l).Pairwise (fun a b=>a.part<b.part):=hd▸h2.sublist (List.drop_sublist _ _)
   rw[hd]at ho
   rcases ax.1 ho with rfl|ho
   exact hyp h5.symm
   have:=(dY.1 hpw).1 o ho;omega
 rw[aD,mj]
 refine⟨h2.sublist (List.take_sublist _ _),?_,fun a ha b hb=> ?_⟩
 show(_::os.drop (mK os part)).Pairwise _
 exact dY.2 ⟨hd,h2.sublist (List.drop_sublist _ _)⟩
 have h5:=HD a ha
 rcases ap.1 hb with hb|hb
 rw[aq.1 hb];exact h5
 have:=hd b hb;omega
theorem rf.store {P:ByteArray->Prop} {wt:Int} {p k:Nat} {g:Gr} {s:ByteArray} {gn part at_:Int} (h:rf P wt p k g) (ha0:0<=at_) (he:(sE g s gn part at_).2=0):rf P wt p (k+1) (sE g s gn part at_).1:=by
 obtain⟨⟨h1,h2,h3,h4,h5,h6⟩,⟨h7,h8⟩,h9⟩:=dy.1 h.ok
 unfold sE at he⊢
 cases hf:kr g s with
 |none=>rw[hf]at he;cases he
 |some x=>
  obtain⟨i,t⟩:=x
  rw[hf]at he
  dsimp only at he⊢
  obtain⟨-,ht,-⟩:=nP hf
  have hm:=ab ht
  have hck:=h.clock
  have hgn:=h.gen
  by_cases hg:g.gen=gn
  rw[if_pos hg]at he⊢
  by_cases hat:400<at_
  rw[if_pos hat]at he;cases he
  rw[if_neg hat]at he⊢
  by_cases hpt:part∈t.parts
  rw[if_pos hpt]
  have hp4:=(fQ (jQ.1 (h7 t hm)).2.2.2).2 part hpt
  have ho:=JO I hp4.2 ha0 I h9
  exact⟨dy.2 ⟨⟨h1,h2,h3,h4,h5,Mg ho.2 fun o hx=>⟨(ho.1 o hx).1,(ho.1 o hx).2.1⟩⟩,⟨h7,h8⟩,ho⟩,by show g.clock<=_;omega,by show g.gen<=_;omega,h.wait,h.names,h.asg⟩
  rw[if_neg hpt]at he;cases he
  rw[if_neg hg]at he;cases he
theorem rf.tick {P:ByteArray->Prop} {wt:Int} {p k:Nat} {g:Gr} {n:Int} (h:rf P wt p k g) (hp:p<=4) (hk:k<=100000) (hn0:0<=n) (hn:n<=1000):rf P wt p (k+1) (p7 g n p):=by
 obtain⟨⟨h1,h2,h3,h4,h5,h6⟩,⟨h7,h8⟩,h9⟩:=dy.1 h.ok
 have hck:=h.clock
 have hgn:=h.gen
 unfold p7
 by_cases hl:(g.ms.filter fun m=>!tP g n m).length=g.ms.length
 rw[if_pos hl]
 refine⟨dy.2 ⟨⟨⟨by show 0<=g.clock+n;omega,by show g.clock+n<=_;omega⟩,h2,h3,h4,h5,h6⟩,⟨fun m hm=> ?_,h8⟩,h9⟩,by show g.clock+n<=_;omega,by show g.gen<=_;omega,h.wait,h.names,h.asg⟩
 obtain⟨a1,a2,a3,a4⟩:=jQ.1 (h7 m hm)
 exact jQ.2 ⟨a1,a2,by show m.heard<=g.clock+n;omega,a4⟩
 rw[if_neg hl]
 have hsub:(g.ms.filter fun m=>!tP g n m).Sublist g.ms:=List.filter_sublist
 refine Nf hp hk ⟨by show 0<=g.clock+n;omega,by show g.clock+n<=_;omega⟩ h.wait ⟨h2,h3⟩ ⟨h4.1,h.gen⟩ ?_ h6 (fun m hm=> ?_) ?_ h9
 have:=hsub.length_le
 show((g.ms.filter fun m=>!tP g n m).length:Int)<=6
 omega
 obtain⟨a1,a2,a3,a4⟩:=h.mems m (hsub.subset hm)
 exact⟨a1,a2,a3,by show m.heard<=g.clock+n;omega⟩
 unfold lh at h8⊢
 exact h8.sublist (hsub.map _)
theorem qR {g:Gr} {s:ByteArray} {i:Nat} {t:Mem} (h:kr g s=some (i,t)):kr g.a s=some (i,t.a):=by rw[I8,h];rfl
theorem qS {g:Gr} {s:ByteArray} (h:kr g s=none):kr g.a s=none:=by rw[I8,h];rfl
abbrev DL (f:FuncId) (args:List Value) (w:World) (x:Gr×Int):Prop:=dh aa f args w fun v w2=> ∃ g':Gr,v=.tuple #[g'.v,J x.2]/\g'.a=x.1/\zf w w2 g'
theorem J9 (g:Gr) (s:ByteArray) (p:Nat) (w:World) (h:g.rd 0 w.heap.size w) (hok:lM g=true) (hn:bL s=true) (hp:p<=4) (hg1:g.gen<1073741824):DL pN [g.v,.string s,J (p:Nat)] w (tj g.a s p):=by
 unfold DL tj
 cases hf:kr g s with
 |none=>
  rw[qS hf]
  dsimp only
  by_cases hl:g.ms.length=6
  rw[if_pos (show g.a.ms.length=6 by simpa [Gr.a]using hl)]
  exact(J8 g s p w h hok hn hp hg1 (nQ hf) hl).mono fun v w2 ⟨h1,h2⟩=>⟨B0,h1,rfl,qN h2⟩
  rw[if_neg (show¬ g.a.ms.length=6 by simpa [Gr.a]using hl)]
  exact Oz g s p w h hok hn hp hg1 (nQ hf) hl
 |some x=>
  obtain⟨i,t⟩:=x
  rw[qR hf]
  exact(HS g s p w h hok hn hp hg1 i (nP hf).1).mono fun v w2 ⟨h1,h2⟩=>⟨B0,h1,rfl,qN h2⟩
theorem KG (g:Gr) (s:ByteArray) (gn:Int) (w:World) (h:g.rd 0 w.heap.size w) (hok:lM g=true) (hn:bL s=true):DL pO [g.v,.string s,J gn] w (xF g.a s gn):=by
 unfold DL xF
 cases hf:kr g s with
 |none=>
  rw[qS hf]
  exact(KF g s gn w h hok hn (nQ hf)).mono fun v w2 ⟨h1,h2⟩=>⟨B0,h1,rfl,qN h2⟩
 |some x=>
  obtain⟨i,t⟩:=x
  rw[qR hf]
  obtain⟨hi,ht,-⟩:=nP hf
  dsimp only
  by_cases hg:g.gen=gn
  rw[if_pos (show g.a.gen=gn from hg)]
  exact OS g s gn w h hok hn i t hi ht hg
  rw[if_neg (show¬ g.a.gen=gn from hg)]
  exact(Iy g s gn w h hok hn i hi hg).mono fun v w2 ⟨h1,h2⟩=>⟨B0,h1,rfl,qN h2⟩
theorem Hi (g:Gr) (s:ByteArray) (gn part at_:Int) (w:World) (h:g.rd 0 w.heap.size w) (hok:lM g=true) (hn:bL s=true) (ha:0<=at_):DL jS [g.v,.string s,J gn,J part,J at_] w (sE g.a s gn part at_):=by
 unfold DL sE
 cases hf:kr g s with
 |none=>
  rw[qS hf]
  exact(Hh g s gn part at_ w h hok hn (nQ hf)).mono fun v w2 ⟨h1,h2⟩=>⟨B0,h1,rfl,qN h2⟩
 |some x=>
  obtain⟨i,t⟩:=x
  rw[qR hf]
  obtain⟨hi,ht,-⟩:=nP hf
  dsimp only
  by_cases hg:g.gen=gn
  rw[if_pos (show g.a.gen=gn from hg)]
  by_cases hat:400<at_
  rw[if_pos hat]
  exact(Fr g s gn part at_ w h hok hn i hi hg hat).mono fun v w2 ⟨h1,h2⟩=>⟨B0,h1,rfl,qN h2⟩
  rw[if_neg hat]
  by_cases hp:part∈t.parts
  rw[if_pos (show part∈t.a.parts from hp)]
  exact Lj g s gn part at_ w h hok hn i t hi ht hg ha I hp
  rw[if_neg (show¬ part∈t.a.parts from hp)]
  exact(Fq g s gn part at_ w h hok hn i t hi ht hg ha I hp).mono fun v w2 ⟨h1,h2⟩=>⟨B0,h1,rfl,qN h2⟩
  rw[if_neg (show¬ g.a.gen=gn from hg)]
  exact(Fs g s gn part at_ w h hok hn i hi hg).mono fun v w2 ⟨h1,h2⟩=>⟨B0,h1,rfl,qN h2⟩
theorem sB (g:Gr) (s:ByteArray) (part:Int) (w:World) (h:g.rd 0 w.heap.size w) (hok:lM g=true) (hn:bL s=true):dh aa oa [g.v,.string s,J part] w fun v w2=>v=.tuple #[J (eR g.a s part).1,J (eR g.a s part).2]/\Below w.heap.size w w2:=by
 unfold eR
 cases hf:kr g s with
 |none=>
  rw[qS hf]
  exact G8 g s part w h hok hn (nQ hf)
 |some x=>
  obtain⟨i,t⟩:=x
  rw[qR hf]
  obtain⟨hi,ht,-⟩:=nP hf
  dsimp only
  by_cases hp:part∈t.parts
  rw[if_pos (show part∈t.a.parts from hp)]
  exact K8 g s part w h hok hn i t hi ht hp
  rw[if_neg (show¬ part∈t.a.parts from hp)]
  exact Fg g s part w h hok hn i t hi ht hp
def Rc:Deep Gr:=⟨fun g=>g.rd,fun _ _ _ _ _ hk h=>h.st hk,fun _ _ _ _ _ _ h h1 h2=>h.mono h1 h2⟩
theorem Oj (P:ByteArray->Prop) {wt:Int} (p:Nat) (h1:1<=wt) (h2:wt<=1000):rf P wt p 0 ⟨0,wt,0,[],none,0,[],none,0⟩:=⟨dy.2 ⟨⟨⟨by simp,by simp⟩,h1,h2,⟨by simp,by simp⟩,by simp,by simp⟩,⟨by simp,by simp[lh]⟩,by simp,by simp⟩,by simp,by simp,rfl,by simp,by simp[gO]⟩
theorem rf.next {P:ByteArray->Prop} {wt:Int} {p k:Nat} {q:Gr} {r:Gr×Int} (h:r.2=0->rf P wt p (k+1) r.1) (ha:q.a=r.1):r.2=0->rf P wt p (k+1) q:=fun h0=>rf.of_a (ha▸h h0)
theorem GT (p t:Tx) (b:Nat) (w:World) (hx:w.heap[b]? =some (.cells t.c.toArray dF (0,0))):
  dh aa r6 [p.v,.pointer (Qd b)] w fun v w2=>v=.bool (decide (p.name=t.name)||decide (p.pid=t.pid))/\Below w.heap.size w w2:=by
 refine aE xo Z Z ?_
 have H:=Hp.start w
 have hb:=ce hx
 refine W<|Zr<|f7 H Z Z fun w1 b2 H=>G (Wb Z)<|U<|W<|Zr<|G (Zf oI Z)<|G (Zd bd H 0 Z Z Z)<|G (Zf oI Z)<|G (aW bd Z ((H.below.cell (p:=⟨b,_,none⟩) hb).trans (aB (j:=0) hx Z))) ?_
 refine cW (v7 Z Z) Z Z Z (fun h8=> ?_) (fun h8=> ?_)
 refine G (Yb Z)<|ZN<|ZN<|ZN<|ZN<|ZN<|G (Kt Z Z)<|G (Wb Z)<|U<|Zt ?_
 have hv:(decide (p.name=t.name)||decide (p.pid=t.pid))=true:=by simp[h8]
 exact cH (v:=.bool true) Z Z ⟨by rw[hv],H.below⟩
 refine G (Yb Z)<|ZG<|G (Zf lq Z)<|ZG<|G (Zd ak H 0 Z Z Z)<|ZG<|G (Zf lq Z)<|ZG<|G (aW ak Z ((H.below.cell (p:=⟨b,_,none⟩) hb).trans (aB (j:=1) hx Z)))<|ZG ?_
 refine cW (bn Z Z) Z Z Z (fun h14=> ?_) (fun h14=> ?_)
 refine G (N Z Z)<|G (Wb Z)<|U<|Zt ?_
 have hv:(decide (p.name=t.name)||decide (p.pid=t.pid))=true:=by simp[h8,h14]
 exact cH (v:=.bool true) Z Z ⟨by rw[hv],H.below⟩
 refine G (N Z Z)<|G (Wb Z)<|U<|Zt ?_
 have hv:(decide (p.name=t.name)||decide (p.pid=t.pid))=false:=by simp[h8,h14]
 exact cH (v:=.bool false) Z Z ⟨by rw[hv],H.below⟩
theorem nO (p:Tx) (s:ByteArray) (b:Nat) (w:World) (hx:w.heap[b]? =some (.cells #[.string s] kL (0,0))):
  dh aa gU [p.v,.pointer (Qd b)] w fun v w2=>v=.bool (decide (p.name=s))/\Below w.heap.size w w2:=by
 refine aE yr Z Z ?_
 have H:=Hp.start w
 have hb:=ce hx
 refine W<|Zr<|f7 H Z Z fun w1 b2 H=>G (Wb Z)<|U<|W<|Zr<|G (Zf oI Z)<|G (Zd bd H 0 Z Z Z)<|G (aW bd Z ((H.below.cell (p:=⟨b,_,none⟩) hb).trans (aB (j:=0) hx Z)))<|G (v7 Z Z)<|G (Wb Z)<|U<|Zt ?_
 exact cH Z Z ⟨rfl,H.below⟩
theorem GP (n:Int) (w:World) (h1:1<=n) (h2:n<=1000):dh aa Gp [J n] w fun v w2=>v=.tuple #[.agg #[J 0,J 1,J n,.slice none 0 0],J 0]/\Below w.heap.size w w2:=by
 refine aE EO Z Z ?_
 have H:=Hp.start w
 refine W<|Zr<|eP H cM Z fun w1 b2 H=>G (Wi Z)<|U<|W<|W<|Zr<|G (Yi Z)<|G (dd Z Z I)<|G (Yb Z)<|ZG<|G (Yi Z)<|ZG<|G (eB Z Z I)<|G (N Z Z)<|U<|ZF Z<|Zk<|W<|Zr<|G (Yi Z)<|G (bg (cs:= #[J 0,J 1,J n,.slice none 0 0]) fG cM N)<|bo H 0 (#[J 0,J 1,J n,.slice none 0 0]) aF Z Z Z Z Z N N fun w2 H=>G (Wi Z)<|U<|Zt ?_
 exact bE (cs0:= #[J 0,J 1,J n,.slice none 0 0]) (v1:=J 0) Z av Z (H.ent (i:=0) Z) Z Z ⟨rfl,H.below⟩
theorem Pn (ck nx wt:Int) (At:Option Addr) (n ct:Nat) (t:Tx) (w:World) (hr:Rd bR 0 w.heap.size t.A t.parts w) (hpl:t.parts.length<=1000000):
  dh aa Gn [.agg #[J ck,J nx,J wt,.slice At n ct],t.v] w fun v w2=>v=.bool (fN ck nx t)/\Below w.heap.size w w2:=by
 refine aE EN Z Z ?_
 have H:=Hp.startRd hr
 refine W<|Zr<|f7 H Z Z fun w1 b2 H=>f7 H Z Z fun w2 b3 H=>G (Wb Z)<|U<|W<|W<|Zr<|G (Zf oI Z)<|G (Zd bd H 0 Z Z Z)<|ch rO (Eh t.name _) Z Z ?_
 rintro _ w3 ⟨rfl,hb⟩;replace H:=H.later hb;clear hb
 refine G (dM Z)<|G (Yb Z) ?_
 refine mM 11 Z (fun h11=> ?_) (fun h11=> ?_)
 refine ZN<|ZN<|ZN<|G (Kt Z Z)<|G (Yb Z)<|ZN<|ZN<|ZN<|ZN<|ZN<|G (Kt Z Z)<|G (Yb Z)<|ZN<|ZN<|ZN<|ZN<|G (Kt Z Z)<|G (Yb Z)<|ZN<|ZN<|ZN<|G (Kt Z Z)<|G (Yb Z)<|ZN<|ZN<|ZN<|G (Kt Z Z)<|G (Yb Z)<|ZN<|ZN<|ZN<|G (Kt Z Z)<|G (Yb Z)<|ZN<|ZN<|ZN<|ZN<|ZN<|G (Kt Z Z)<|G (Yb Z) ?_
 refine ZN<|ZN<|ZN<|ZN<|ZN<|ZN<|ZN<|ZN<|ZN<|ZN<|ZN<|ZN<|ZN<|G (Kt Z Z)<|U<|ZT Z<|W<|Zr<|G (Wb Z)<|U<|Zt ?_
 have hv:fN ck nx t=false:=by
  cases hh:fN ck nx t
  rfl
  obtain⟨a1,a2,a3,a4,a5,a6,a7,a8,a9,a10,a11⟩:=cv.1 hh
  exfalso
  first|omega|simp_all
 exact cH (v:=.bool false) Z Z ⟨by rw[hv],H.below⟩
 refine ZG<|G (Zf lq Z)<|ZG<|G (Zd ak H 0 Z Z Z)<|ZG ?_
 refine cW (cK Z Z) Z Z Z (fun h14=> ?_) (fun h14=> ?_)
 refine G (N Z Z)<|G (Yb Z)<|ZN<|ZN<|ZN<|ZN<|ZN<|G (Kt Z Z)<|G (Yb Z)<|ZN<|ZN<|ZN<|ZN<|G (Kt Z Z)<|G (Yb Z)<|ZN<|ZN<|ZN<|G (Kt Z Z)<|G (Yb Z)<|ZN<|ZN<|ZN<|G (Kt Z Z)<|G (Yb Z)<|ZN<|ZN<|ZN<|G (Kt Z Z)<|G (Yb Z)<|ZN<|ZN<|ZN<|ZN<|ZN<|G (Kt Z Z)<|G (Yb Z)<|ZN<|ZN<|ZN ?_
 refine ZN<|ZN<|ZN<|ZN<|ZN<|ZN<|ZN<|ZN<|ZN<|ZN<|G (Kt Z Z)<|U<|ZT Z<|W<|Zr<|G (Wb Z)<|U<|Zt ?_
 have hv:fN ck nx t=false:=by
  cases hh:fN ck nx t
  rfl
  obtain⟨a1,a2,a3,a4,a5,a6,a7,a8,a9,a10,a11⟩:=cv.1 hh
  exfalso
  first|omega|simp_all
 exact cH (v:=.bool false) Z Z ⟨by rw[hv],H.below⟩
 refine G (N Z Z)<|G (Yb Z)<|ZG<|G (Zf lq Z)<|ZG<|G (Zd ak H 0 Z Z Z)<|ZG<|G (Zf kz Z)<|ZG<|G (Zd ak H 1 Z Z Z)<|ZG ?_
 refine cW (ko Z Z) Z Z Z (fun h21=> ?_) (fun h21=> ?_)
 refine G (N Z Z)<|G (Yb Z)<|ZN<|ZN<|ZN<|ZN<|G (Kt Z Z)<|G (Yb Z)<|ZN<|ZN<|ZN<|G (Kt Z Z)<|G (Yb Z)<|ZN<|ZN<|ZN<|G (Kt Z Z)<|G (Yb Z)<|ZN<|ZN<|ZN<|G (Kt Z Z)<|G (Yb Z)<|ZN<|ZN<|ZN<|ZN<|ZN<|G (Kt Z Z)<|G (Yb Z)<|ZN<|ZN<|ZN<|ZN<|ZN<|ZN<|ZN<|ZN<|ZN<|ZN ?_
 refine ZN<|ZN<|ZN<|G (Kt Z Z)<|U<|ZT Z<|W<|Zr<|G (Wb Z)<|U<|Zt ?_
 have hv:fN ck nx t=false:=by
  cases hh:fN ck nx t
  rfl
  obtain⟨a1,a2,a3,a4,a5,a6,a7,a8,a9,a10,a11⟩:=cv.1 hh
  exfalso
  first|omega|simp_all
 exact cH (v:=.bool false) Z Z ⟨by rw[hv],H.below⟩
 refine G (N Z Z)<|G (Yb Z)<|ZG<|G (Zf gF Z)<|ZG<|G (Zd ak H 0 Z Z Z)<|ZG<|ch tp (BJ t.ver _) Z Z ?_
 rintro _ w4 ⟨rfl,hb⟩;replace H:=H.later hb;clear hb
 refine ZG<|G (dM Z)<|G (N Z Z)<|G (Yb Z) ?_
 refine mM 29 Z (fun h29=> ?_) (fun h29=> ?_)
 refine ZN<|ZN<|ZN<|G (Kt Z Z)<|G (Yb Z)<|ZN<|ZN<|ZN<|G (Kt Z Z)<|G (Yb Z)<|ZN<|ZN<|ZN<|G (Kt Z Z)<|G (Yb Z)<|ZN<|ZN<|ZN<|ZN<|ZN<|G (Kt Z Z)<|G (Yb Z)<|ZN<|ZN<|ZN<|ZN<|ZN<|ZN<|ZN<|ZN<|ZN<|ZN<|ZN<|ZN<|ZN<|G (Kt Z Z)<|U<|ZT Z<|W<|Zr ?_
 refine G (Wb Z)<|U<|Zt ?_
 have hv:fN ck nx t=false:=by
  cases hh:fN ck nx t
  rfl
  obtain⟨a1,a2,a3,a4,a5,a6,a7,a8,a9,a10,a11⟩:=cv.1 hh
  exfalso
  first|omega|simp_all
 exact cH (v:=.bool false) Z Z ⟨by rw[hv],H.below⟩
 refine ZG<|G (Zf cS Z)<|ZG<|G (Zd ak H 0 Z Z Z)<|ZG ?_
 refine cW (cK Z Z) Z Z Z (fun h32=> ?_) (fun h32=> ?_)
 refine G (N Z Z)<|G (Yb Z)<|ZN<|ZN<|ZN<|G (Kt Z Z)<|G (Yb Z)<|ZN<|ZN<|ZN<|G (Kt Z Z)<|G (Yb Z)<|ZN<|ZN<|ZN<|ZN<|ZN<|G (Kt Z Z)<|G (Yb Z)<|ZN<|ZN<|ZN<|ZN<|ZN<|ZN<|ZN<|ZN<|ZN<|ZN<|ZN<|ZN<|ZN<|G (Kt Z Z)<|U<|ZT Z<|W<|Zr<|G (Wb Z)<|U<|Zt ?_
 have hv:fN ck nx t=false:=by
  cases hh:fN ck nx t
  rfl
  obtain⟨a1,a2,a3,a4,a5,a6,a7,a8,a9,a10,a11⟩:=cv.1 hh
  exfalso
  first|omega|simp_all
 exact cH (v:=.bool false) Z Z ⟨by rw[hv],H.below⟩
 refine G (N Z Z)<|G (Yb Z)<|ZG<|G (Zf cS Z)<|ZG<|G (Zd ak H 0 Z Z Z)<|ZG ?_
 refine cW (km Z Z) Z Z Z (fun h37=> ?_) (fun h37=> ?_)
 refine G (N Z Z)<|G (Yb Z)<|ZN<|ZN<|ZN<|G (Kt Z Z)<|G (Yb Z)<|ZN<|ZN<|ZN<|ZN<|ZN<|G (Kt Z Z)<|G (Yb Z)<|ZN<|ZN<|ZN<|ZN<|ZN<|ZN<|ZN<|ZN<|ZN<|ZN<|ZN<|ZN<|ZN<|G (Kt Z Z)<|U<|ZT Z<|W<|Zr<|G (Wb Z)<|U<|Zt ?_
 have hv:fN ck nx t=false:=by
  cases hh:fN ck nx t
  rfl
  obtain⟨a1,a2,a3,a4,a5,a6,a7,a8,a9,a10,a11⟩:=cv.1 hh
  exfalso
  first|omega|simp_all
 exact cH (v:=.bool false) Z Z ⟨by rw[hv],H.below⟩
 refine G (N Z Z)<|G (Yb Z)<|ZG<|G (Zf ui Z)<|ZG<|G (Zd ak H 0 Z Z Z)<|ZG ?_
 refine cW (cK Z Z) Z Z Z (fun h42=> ?_) (fun h42=> ?_)
 refine G (N Z Z)<|G (Yb Z)<|ZN<|ZN<|ZN<|ZN<|ZN<|G (Kt Z Z)<|G (Yb Z)<|ZN<|ZN<|ZN<|ZN<|ZN<|ZN<|ZN<|ZN<|ZN<|ZN<|ZN<|ZN<|ZN<|G (Kt Z Z)<|U<|ZT Z<|W<|Zr<|G (Wb Z)<|U<|Zt ?_
 have hv:fN ck nx t=false:=by
  cases hh:fN ck nx t
  rfl
  obtain⟨a1,a2,a3,a4,a5,a6,a7,a8,a9,a10,a11⟩:=cv.1 hh
  exfalso
  first|omega|simp_all
 exact cH (v:=.bool false) Z Z ⟨by rw[hv],H.below⟩
 refine G (N Z Z)<|G (Yb Z)<|ZG<|G (Zf ui Z)<|ZG<|G (Zd ak H 0 Z Z Z)<|ZG<|G (Zf kB Z)<|ZG<|G (Zd ak H 1 Z Z Z)<|ZG ?_
 refine cW (km Z Z) Z Z Z (fun h49=> ?_) (fun h49=> ?_)
 refine G (N Z Z)<|G (Yb Z)<|ZN<|ZN<|ZN<|ZN<|ZN<|ZN<|ZN<|ZN<|ZN<|ZN<|ZN<|ZN<|ZN<|G (Kt Z Z)<|U<|ZT Z<|W<|Zr<|G (Wb Z)<|U<|Zt ?_
 have hv:fN ck nx t=false:=by
  cases hh:fN ck nx t
  rfl
  obtain⟨a1,a2,a3,a4,a5,a6,a7,a8,a9,a10,a11⟩:=cv.1 hh
  exfalso
  first|omega|simp_all
 exact cH (v:=.bool false) Z Z ⟨by rw[hv],H.below⟩
 refine G (N Z Z)<|G (Yb Z)<|ZG<|G (Zf jq Z)<|ZG<|G (Zd ak H 0 Z Z Z)<|ZG ?_
 refine ro (jh Z Z) Z Z Z (fun h54=> ?_) (fun h54=> ?_)
 refine ZG<|G (Yb Z)<|ZG<|G (Zf jq Z)<|ZG<|G (Zd ak H 0 Z Z Z)<|ZG ?_
 refine ro (jh Z Z) Z Z Z (fun h58=> ?_) (fun h58=> ?_)
 refine ZG<|G (Kt Z Z)<|ZG<|G (Yb Z)<|ZG<|G (Zf jq Z)<|ZG<|G (Zd ak H 0 Z Z Z)<|ZG ?_
 refine ro (jh Z Z) Z Z Z (fun h63=> ?_) (fun h63=> ?_)
 refine ZG<|G (Kt Z Z)<|G (N Z Z)<|U<|ZT Z<|W<|Zr<|G (Wb Z)<|U<|Zt ?_
 have hv:fN ck nx t=false:=by
  cases hh:fN ck nx t
  rfl
  obtain⟨a1,a2,a3,a4,a5,a6,a7,a8,a9,a10,a11⟩:=cv.1 hh
  exfalso
  first|omega|simp_all
 exact cH (v:=.bool false) Z Z ⟨by rw[hv],H.below⟩
 refine ZG<|G (Kt Z Z)<|G (N Z Z)<|U<|ZF Z<|Zk<|W<|W<|Zr<|G (Zf dz Z)<|G (Zd cy H 0 Z Z Z)<|G (br eM Z)<|G (Yi Z)<|U<|Zb ?_
 refine cD (τ:=Nat×Int) [4,5,6,69,70,71,72,73,74,75,76,77,78,79,80,81,82,83,84,85,86,87,88,89,90,91,92,93,94] (fun(k,_)=>[(69,J (k:Nat))]) (fun(k,last) w'=>k<=t.parts.length/\cT (-1) t.parts=cT last (t.parts.drop k)/\(k=0->last= -1)/\(∀ j,k=j+1->t.parts[j]? =some last)/\ -1<=last/\Hp w w' [(b3,.cells t.c.toArray dF (0,0))] [dU bR 0 w.heap.size t.A t.parts]) (fun(k,_)=>t.parts.length-k) (0,-1) ⟨by omega,by rw[ml],fun _=>rfl,fun j hj=>by omega,by omega,H.forget (pB _ (.cons _ (ar _))) (fun _ h=>h)⟩ (dP Z) ?_
 rintro⟨k,last⟩ ρ1 w5 ⟨hk,hpo,hl0,hl1,hl2,H⟩
 show CW _ _ _ _ (dH (gZ _ _ ρ1) [(69,J (k:Nat))]) w5
 refine W<|Zr ?_
 refine cW (cK Z Z) Z Z Z (fun h70=> ?_) (fun h70=> ?_)
 refine U<|W<|ZT Z<|Zk<|W<|Zb<|W<|Zr<|G (Yi Z)<|qB H 0 Z bc Z Z I I Z fun b6 o6 x6 e6=> ?_
 have hxk:=e6.at_
 have hdrop:=cP hxk
 refine G (aW ak Z (e6.cl 0 _ Z))<|G (Wi Z)<|G (Wi Z)<|U<|W<|Zr<|G (Yi Z) ?_
 refine cW (cK Z Z) Z Z Z (fun h75=> ?_) (fun h75=> ?_)
 refine G (Yb Z)<|ZN<|ZN<|G (Kt Z Z)<|G (Yb Z)<|ZN<|ZN<|ZN<|ZN<|ZN<|ZN<|ZN<|ZN<|ZN<|ZN<|ZN<|ZN<|G (Kt Z Z)<|U<|ZT Z<|W<|Zr<|G (Wb Z)<|U<|Zt ?_
 have hv:fN ck nx t=false:=by
  cases hh:fN ck nx t
  rfl
  obtain⟨a1,a2,a3,a4,a5,a6,a7,a8,a9,a10,a11⟩:=cv.1 hh
  exfalso
  rw[hpo,hdrop]at a10
  simp only[cT,aR,decide_eq_true_eq]at a10
  obtain⟨⟨q1,q2⟩,-⟩:=a10
  omega
 exact cH (v:=.bool false) Z Z ⟨by rw[hv],H.below⟩
 refine G (Yb Z)<|ZG<|G (Yi Z)<|ZG ?_
 refine cW (ko Z Z) Z Z Z (fun h78=> ?_) (fun h78=> ?_)
 refine G (N Z Z)<|G (Yb Z)<|ZN<|ZN<|ZN<|ZN<|ZN<|ZN<|ZN<|ZN<|ZN<|ZN<|ZN<|ZN<|G (Kt Z Z)<|U<|ZT Z<|W<|Zr<|G (Wb Z)<|U<|Zt ?_
 have hv:fN ck nx t=false:=by
  cases hh:fN ck nx t
  rfl
  obtain⟨a1,a2,a3,a4,a5,a6,a7,a8,a9,a10,a11⟩:=cv.1 hh
  exfalso
  rw[hpo,hdrop]at a10
  simp only[cT,aR,decide_eq_true_eq]at a10
  obtain⟨⟨q1,q2⟩,-⟩:=a10
  omega
 exact cH (v:=.bool false) Z Z ⟨by rw[hv],H.below⟩
 refine G (N Z Z)<|G (Yb Z)<|ZG<|G (Yi Z)<|ZG ?_
 refine cW (km Z Z) Z Z Z (fun h82=> ?_) (fun h82=> ?_)
 refine ZG<|G (Yb Z)<|ZG<|G (Zf dz Z)<|ZG<|G (Zd cy H 0 Z Z Z)<|ZG<|G (Yi Z)<|ZG<|G (jf Z Z I I) ?_
 rw[show(k:Int)-1=((k-1:Nat):Int) by omega]
 refine ZG<|qB H 0 Z bc Z Z I I Z fun b7 o7 x7 e7=> ?_
 have hprev:=e7.at_
 refine ZG<|G (aW ak Z (e7.cl 0 _ Z))<|ZG<|G (Yi Z)<|ZG ?_
 refine cW (ko Z Z) Z Z Z (fun h91=> ?_) (fun h91=> ?_)
 refine ZG<|G (Kt Z Z)<|G (N Z Z)<|U<|ZT Z<|W<|Zr<|G (Wb Z)<|U<|Zt ?_
 have hv:fN ck nx t=false:=by
  cases hh:fN ck nx t
  rfl
  obtain⟨a1,a2,a3,a4,a5,a6,a7,a8,a9,a10,a11⟩:=cv.1 hh
  exfalso
  rw[hpo,hdrop]at a10
  simp only[cT,aR,decide_eq_true_eq]at a10
  obtain⟨⟨q1,q2⟩,-⟩:=a10
  obtain⟨j,rfl⟩: ∃ j,k=j+1:=⟨k-1,by omega⟩;have:=hl1 j Z;rw[show j+1-1=j by omega,this]at hprev;injection hprev with hprev;omega
 exact cH (v:=.bool false) Z Z ⟨by rw[hv],H.below⟩
 refine ZG<|G (Kt Z Z)<|G (N Z Z)<|U<|ZF Z<|Zk<|Zr<|G (bw Z Z I I)<|G (Yi Z)<|U ?_
 have hlt:last<x6:=by
  obtain⟨j,rfl⟩: ∃ j,k=j+1:=⟨k-1,by omega⟩
  have h1:=hl1 j Z
  rw[show j+1-1=j by omega,h1]at hprev
  injection hprev with hprev
  omega
 have h4:x6<4:=by omega
 refine⟨(k+1,x6),⟨by omega,?_,fun h=>by omega,fun j hj=> ?_,by omega,H⟩,dP Z,Qg,by show t.parts.length- (k+1)<t.parts.length-k;omega⟩
 rw[hpo,hdrop];simp only[cT,decide_eq_true hlt,decide_eq_true h4,hJ]
 obtain rfl:j=k:=by omega
 exact hxk
 refine ZG<|G (Yb Z)<|ZN<|ZN<|ZN<|ZN<|ZN<|ZN<|ZN<|ZN<|ZG<|G (N Z Z)<|G (N Z Z)<|U<|ZF Z<|Zk<|Zr<|G (bw Z Z I I)<|G (Yi Z)<|U ?_
 have hlt:last<x6:=by
  have:=hl0 I
  omega
 have h4:x6<4:=by omega
 refine⟨(k+1,x6),⟨by omega,?_,fun h=>by omega,fun j hj=> ?_,by omega,H⟩,dP Z,Qg,by show t.parts.length- (k+1)<t.parts.length-k;omega⟩
 rw[hpo,hdrop];simp only[cT,decide_eq_true hlt,decide_eq_true h4,hJ]
 obtain rfl:j=k:=by omega
 exact hxk
 have hke:k=t.parts.length:=by omega
 have hall:cT (-1) t.parts=true:=by rw[hpo,hke,fA];rfl
 refine U<|W<|ZF Z<|Zx<|W<|Zr<|G (Zf cS Z)<|G (Zd ak H 0 Z Z Z)<|G (bn Z Z)<|G (Zf dz Z)<|G (Zd cy H 0 Z Z Z)<|G (br eM Z)<|G (bn Z Z)<|G (E3 wN Z Z)<|G (Wb Z)<|U<|Zt ?_
 have hv:fN ck nx t=(decide (t.state=1)==decide ((t.parts.length:Int)=0)):=by
  rw[xO,cv,beq_iff_eq,decide_eq_decide]
  constructor
  rintro⟨-,-,-,-,-,-,-,-,-,-,h⟩
  exact h.trans ⟨fun x=>by omega,fun x=>by omega⟩
  intro h
  exact⟨by simpa using h11,by omega,by omega,by simpa using h29,by omega,by omega,by omega,by omega,by omega,hall,h.trans ⟨fun x=>by omega,fun x=>by omega⟩⟩
 exact cH (v:=.bool (decide (t.state=1)==decide ((t.parts.length:Int)=0))) Z Z ⟨by rw[hv],H.below⟩
 refine ZG<|G (Kt Z Z)<|ZG<|G (Yb Z)<|ZN<|ZN<|ZN<|ZG<|G (N Z Z)<|G (N Z Z)<|U<|ZF Z<|Zk<|W<|W<|Zr<|G (Zf dz Z)<|G (Zd cy H 0 Z Z Z)<|G (br eM Z)<|G (Yi Z)<|U<|Zb ?_
 refine cD (τ:=Nat×Int) [4,5,6,69,70,71,72,73,74,75,76,77,78,79,80,81,82,83,84,85,86,87,88,89,90,91,92,93,94] (fun(k,_)=>[(69,J (k:Nat))]) (fun(k,last) w'=>k<=t.parts.length/\cT (-1) t.parts=cT last (t.parts.drop k)/\(k=0->last= -1)/\(∀ j,k=j+1->t.parts[j]? =some last)/\ -1<=last/\Hp w w' [(b3,.cells t.c.toArray dF (0,0))] [dU bR 0 w.heap.size t.A t.parts]) (fun(k,_)=>t.parts.length-k) (0,-1) ⟨by omega,by rw[ml],fun _=>rfl,fun j hj=>by omega,by omega,H.forget (pB _ (.cons _ (ar _))) (fun _ h=>h)⟩ (dP Z) ?_
 rintro⟨k,last⟩ ρ1 w8 ⟨hk,hpo,hl0,hl1,hl2,H⟩
 show CW _ _ _ _ (dH (gZ _ _ ρ1) [(69,J (k:Nat))]) w8
 refine W<|Zr ?_
 refine cW (cK Z Z) Z Z Z (fun h70=> ?_) (fun h70=> ?_)
 refine U<|W<|ZT Z<|Zk<|W<|Zb<|W<|Zr<|G (Yi Z)<|qB H 0 Z bc Z Z I I Z fun b9 o9 x9 e9=> ?_
 have hxk:=e9.at_
 have hdrop:=cP hxk
 refine G (aW ak Z (e9.cl 0 _ Z))<|G (Wi Z)<|G (Wi Z)<|U<|W<|Zr<|G (Yi Z) ?_
 refine cW (cK Z Z) Z Z Z (fun h75=> ?_) (fun h75=> ?_)
 refine G (Yb Z)<|ZN<|ZN<|G (Kt Z Z)<|G (Yb Z)<|ZN<|ZN<|ZN<|ZN<|ZN<|ZN<|ZN<|ZN<|ZN<|ZN<|ZN<|ZN<|G (Kt Z Z)<|U<|ZT Z<|W<|Zr<|G (Wb Z)<|U<|Zt ?_
 have hv:fN ck nx t=false:=by
  cases hh:fN ck nx t
  rfl
  obtain⟨a1,a2,a3,a4,a5,a6,a7,a8,a9,a10,a11⟩:=cv.1 hh
  exfalso
  rw[hpo,hdrop]at a10
  simp only[cT,aR,decide_eq_true_eq]at a10
  obtain⟨⟨q1,q2⟩,-⟩:=a10
  omega
 exact cH (v:=.bool false) Z Z ⟨by rw[hv],H.below⟩
 refine G (Yb Z)<|ZG<|G (Yi Z)<|ZG ?_
 refine cW (ko Z Z) Z Z Z (fun h78=> ?_) (fun h78=> ?_)
 refine G (N Z Z)<|G (Yb Z)<|ZN<|ZN<|ZN<|ZN<|ZN<|ZN<|ZN<|ZN<|ZN<|ZN<|ZN<|ZN<|G (Kt Z Z)<|U<|ZT Z<|W<|Zr<|G (Wb Z)<|U<|Zt ?_
 have hv:fN ck nx t=false:=by
  cases hh:fN ck nx t
  rfl
  obtain⟨a1,a2,a3,a4,a5,a6,a7,a8,a9,a10,a11⟩:=cv.1 hh
  exfalso
  rw[hpo,hdrop]at a10
  simp only[cT,aR,decide_eq_true_eq]at a10
  obtain⟨⟨q1,q2⟩,-⟩:=a10
  omega
 exact cH (v:=.bool false) Z Z ⟨by rw[hv],H.below⟩
 refine G (N Z Z)<|G (Yb Z)<|ZG<|G (Yi Z)<|ZG ?_
 refine cW (km Z Z) Z Z Z (fun h82=> ?_) (fun h82=> ?_)
 refine ZG<|G (Yb Z)<|ZG<|G (Zf dz Z)<|ZG<|G (Zd cy H 0 Z Z Z)<|ZG<|G (Yi Z)<|ZG<|G (jf Z Z I I) ?_
 rw[show(k:Int)-1=((k-1:Nat):Int) by omega]
 refine ZG<|qB H 0 Z bc Z Z I I Z fun b10 o10 x10 e10=> ?_
 have hprev:=e10.at_
 refine ZG<|G (aW ak Z (e10.cl 0 _ Z))<|ZG<|G (Yi Z)<|ZG ?_
 refine cW (ko Z Z) Z Z Z (fun h91=> ?_) (fun h91=> ?_)
 refine ZG<|G (Kt Z Z)<|G (N Z Z)<|U<|ZT Z<|W<|Zr<|G (Wb Z)<|U<|Zt ?_
 have hv:fN ck nx t=false:=by
  cases hh:fN ck nx t
  rfl
  obtain⟨a1,a2,a3,a4,a5,a6,a7,a8,a9,a10,a11⟩:=cv.1 hh
  exfalso
  rw[hpo,hdrop]at a10
  simp only[cT,aR,decide_eq_true_eq]at a10
  obtain⟨⟨q1,q2⟩,-⟩:=a10
  obtain⟨j,rfl⟩: ∃ j,k=j+1:=⟨k-1,by omega⟩;have:=hl1 j Z;rw[show j+1-1=j by omega,this]at hprev;injection hprev with hprev;omega
 exact cH (v:=.bool false) Z Z ⟨by rw[hv],H.below⟩
 refine ZG<|G (Kt Z Z)<|G (N Z Z)<|U<|ZF Z<|Zk<|Zr<|G (bw Z Z I I)<|G (Yi Z)<|U ?_
 have hlt:last<x9:=by
  obtain⟨j,rfl⟩: ∃ j,k=j+1:=⟨k-1,by omega⟩
  have h1:=hl1 j Z
  rw[show j+1-1=j by omega,h1]at hprev
  injection hprev with hprev
  omega
 have h4:x9<4:=by omega
 refine⟨(k+1,x9),⟨by omega,?_,fun h=>by omega,fun j hj=> ?_,by omega,H⟩,dP Z,Qg,by show t.parts.length- (k+1)<t.parts.length-k;omega⟩
 rw[hpo,hdrop];simp only[cT,decide_eq_true hlt,decide_eq_true h4,hJ]
 obtain rfl:j=k:=by omega
 exact hxk
 refine ZG<|G (Yb Z)<|ZN<|ZN<|ZN<|ZN<|ZN<|ZN<|ZN<|ZN<|ZG<|G (N Z Z)<|G (N Z Z)<|U<|ZF Z<|Zk<|Zr<|G (bw Z Z I I)<|G (Yi Z)<|U ?_
 have hlt:last<x9:=by
  have:=hl0 I
  omega
 have h4:x9<4:=by omega
 refine⟨(k+1,x9),⟨by omega,?_,fun h=>by omega,fun j hj=> ?_,by omega,H⟩,dP Z,Qg,by show t.parts.length- (k+1)<t.parts.length-k;omega⟩
 rw[hpo,hdrop];simp only[cT,decide_eq_true hlt,decide_eq_true h4,hJ]
 obtain rfl:j=k:=by omega
 exact hxk
 have hke:k=t.parts.length:=by omega
 have hall:cT (-1) t.parts=true:=by rw[hpo,hke,fA];rfl
 refine U<|W<|ZF Z<|Zx<|W<|Zr<|G (Zf cS Z)<|G (Zd ak H 0 Z Z Z)<|G (bn Z Z)<|G (Zf dz Z)<|G (Zd cy H 0 Z Z Z)<|G (br eM Z)<|G (bn Z Z)<|G (E3 wN Z Z)<|G (Wb Z)<|U<|Zt ?_
 have hv:fN ck nx t=(decide (t.state=1)==decide ((t.parts.length:Int)=0)):=by
  rw[xO,cv,beq_iff_eq,decide_eq_decide]
  constructor
  rintro⟨-,-,-,-,-,-,-,-,-,-,h⟩
  exact h.trans ⟨fun x=>by omega,fun x=>by omega⟩
  intro h
  exact⟨by simpa using h11,by omega,by omega,by simpa using h29,by omega,by omega,by omega,by omega,by omega,hall,h.trans ⟨fun x=>by omega,fun x=>by omega⟩⟩
 exact cH (v:=.bool (decide (t.state=1)==decide ((t.parts.length:Int)=0))) Z Z ⟨by rw[hv],H.below⟩
 refine ZG<|G (Yb Z)<|ZN<|ZN<|ZN<|ZG<|G (N Z Z)<|ZG<|G (Yb Z)<|ZN<|ZN<|ZN<|ZG<|G (N Z Z)<|G (N Z Z)<|U<|ZF Z<|Zk<|W<|W<|Zr<|G (Zf dz Z)<|G (Zd cy H 0 Z Z Z)<|G (br eM Z)<|G (Yi Z)<|U<|Zb ?_
 refine cD (τ:=Nat×Int) [4,5,6,69,70,71,72,73,74,75,76,77,78,79,80,81,82,83,84,85,86,87,88,89,90,91,92,93,94] (fun(k,_)=>[(69,J (k:Nat))]) (fun(k,last) w'=>k<=t.parts.length/\cT (-1) t.parts=cT last (t.parts.drop k)/\(k=0->last= -1)/\(∀ j,k=j+1->t.parts[j]? =some last)/\ -1<=last/\Hp w w' [(b3,.cells t.c.toArray dF (0,0))] [dU bR 0 w.heap.size t.A t.parts]) (fun(k,_)=>t.parts.length-k) (0,-1) ⟨by omega,by rw[ml],fun _=>rfl,fun j hj=>by omega,by omega,H.forget (pB _ (.cons _ (ar _))) (fun _ h=>h)⟩ (dP Z) ?_
 rintro⟨k,last⟩ ρ1 w11 ⟨hk,hpo,hl0,hl1,hl2,H⟩
 show CW _ _ _ _ (dH (gZ _ _ ρ1) [(69,J (k:Nat))]) w11
 refine W<|Zr ?_
 refine cW (cK Z Z) Z Z Z (fun h70=> ?_) (fun h70=> ?_)
 refine U<|W<|ZT Z<|Zk<|W<|Zb<|W<|Zr<|G (Yi Z)<|qB H 0 Z bc Z Z I I Z fun b12 o12 x12 e12=> ?_
 have hxk:=e12.at_
 have hdrop:=cP hxk
 refine G (aW ak Z (e12.cl 0 _ Z))<|G (Wi Z)<|G (Wi Z)<|U<|W<|Zr<|G (Yi Z) ?_
 refine cW (cK Z Z) Z Z Z (fun h75=> ?_) (fun h75=> ?_)
 refine G (Yb Z)<|ZN<|ZN<|G (Kt Z Z)<|G (Yb Z)<|ZN<|ZN<|ZN<|ZN<|ZN<|ZN<|ZN<|ZN<|ZN<|ZN<|ZN<|ZN<|G (Kt Z Z)<|U<|ZT Z<|W<|Zr<|G (Wb Z)<|U<|Zt ?_
 have hv:fN ck nx t=false:=by
  cases hh:fN ck nx t
  rfl
  obtain⟨a1,a2,a3,a4,a5,a6,a7,a8,a9,a10,a11⟩:=cv.1 hh
  exfalso
  rw[hpo,hdrop]at a10
  simp only[cT,aR,decide_eq_true_eq]at a10
  obtain⟨⟨q1,q2⟩,-⟩:=a10
  omega
 exact cH (v:=.bool false) Z Z ⟨by rw[hv],H.below⟩
 refine G (Yb Z)<|ZG<|G (Yi Z)<|ZG ?_
 refine cW (ko Z Z) Z Z Z (fun h78=> ?_) (fun h78=> ?_)
 refine G (N Z Z)<|G (Yb Z)<|ZN<|ZN<|ZN<|ZN<|ZN<|ZN<|ZN<|ZN<|ZN<|ZN<|ZN<|ZN<|G (Kt Z Z)<|U<|ZT Z<|W<|Zr<|G (Wb Z)<|U<|Zt ?_
 have hv:fN ck nx t=false:=by
  cases hh:fN ck nx t
  rfl
  obtain⟨a1,a2,a3,a4,a5,a6,a7,a8,a9,a10,a11⟩:=cv.1 hh
  exfalso
  rw[hpo,hdrop]at a10
  simp only[cT,aR,decide_eq_true_eq]at a10
  obtain⟨⟨q1,q2⟩,-⟩:=a10
  omega
 exact cH (v:=.bool false) Z Z ⟨by rw[hv],H.below⟩
 refine G (N Z Z)<|G (Yb Z)<|ZG<|G (Yi Z)<|ZG ?_
 refine cW (km Z Z) Z Z Z (fun h82=> ?_) (fun h82=> ?_)
 refine ZG<|G (Yb Z)<|ZG<|G (Zf dz Z)<|ZG<|G (Zd cy H 0 Z Z Z)<|ZG<|G (Yi Z)<|ZG<|G (jf Z Z I I) ?_
 rw[show(k:Int)-1=((k-1:Nat):Int) by omega]
 refine ZG<|qB H 0 Z bc Z Z I I Z fun b13 o13 x13 e13=> ?_
 have hprev:=e13.at_
 refine ZG<|G (aW ak Z (e13.cl 0 _ Z))<|ZG<|G (Yi Z)<|ZG ?_
 refine cW (ko Z Z) Z Z Z (fun h91=> ?_) (fun h91=> ?_)
 refine ZG<|G (Kt Z Z)<|G (N Z Z)<|U<|ZT Z<|W<|Zr<|G (Wb Z)<|U<|Zt ?_
 have hv:fN ck nx t=false:=by
  cases hh:fN ck nx t
  rfl
  obtain⟨a1,a2,a3,a4,a5,a6,a7,a8,a9,a10,a11⟩:=cv.1 hh
  exfalso
  rw[hpo,hdrop]at a10
  simp only[cT,aR,decide_eq_true_eq]at a10
  obtain⟨⟨q1,q2⟩,-⟩:=a10
  obtain⟨j,rfl⟩: ∃ j,k=j+1:=⟨k-1,by omega⟩;have:=hl1 j Z;rw[show j+1-1=j by omega,this]at hprev;injection hprev with hprev;omega
 exact cH (v:=.bool false) Z Z ⟨by rw[hv],H.below⟩
 refine ZG<|G (Kt Z Z)<|G (N Z Z)<|U<|ZF Z<|Zk<|Zr<|G (bw Z Z I I)<|G (Yi Z)<|U ?_
 have hlt:last<x12:=by
  obtain⟨j,rfl⟩: ∃ j,k=j+1:=⟨k-1,by omega⟩
  have h1:=hl1 j Z
  rw[show j+1-1=j by omega,h1]at hprev
  injection hprev with hprev
  omega
 have h4:x12<4:=by omega
 refine⟨(k+1,x12),⟨by omega,?_,fun h=>by omega,fun j hj=> ?_,by omega,H⟩,dP Z,Qg,by show t.parts.length- (k+1)<t.parts.length-k;omega⟩
 rw[hpo,hdrop];simp only[cT,decide_eq_true hlt,decide_eq_true h4,hJ]
 obtain rfl:j=k:=by omega
 exact hxk
 refine ZG<|G (Yb Z)<|ZN<|ZN<|ZN<|ZN<|ZN<|ZN<|ZN<|ZN<|ZG<|G (N Z Z)<|G (N Z Z)<|U<|ZF Z<|Zk<|Zr<|G (bw Z Z I I)<|G (Yi Z)<|U ?_
 have hlt:last<x12:=by
  have:=hl0 I
  omega
 have h4:x12<4:=by omega
 refine⟨(k+1,x12),⟨by omega,?_,fun h=>by omega,fun j hj=> ?_,by omega,H⟩,dP Z,Qg,by show t.parts.length- (k+1)<t.parts.length-k;omega⟩
 rw[hpo,hdrop];simp only[cT,decide_eq_true hlt,decide_eq_true h4,hJ]
 obtain rfl:j=k:=by omega
 exact hxk
 have hke:k=t.parts.length:=by omega
 have hall:cT (-1) t.parts=true:=by rw[hpo,hke,fA];rfl
 refine U<|W<|ZF Z<|Zx<|W<|Zr<|G (Zf cS Z)<|G (Zd ak H 0 Z Z Z)<|G (bn Z Z)<|G (Zf dz Z)<|G (Zd cy H 0 Z Z Z)<|G (br eM Z)<|G (bn Z Z)<|G (E3 wN Z Z)<|G (Wb Z)<|U<|Zt ?_
 have hv:fN ck nx t=(decide (t.state=1)==decide ((t.parts.length:Int)=0)):=by
  rw[xO,cv,beq_iff_eq,decide_eq_decide]
  constructor
  rintro⟨-,-,-,-,-,-,-,-,-,-,h⟩
  exact h.trans ⟨fun x=>by omega,fun x=>by omega⟩
  intro h
  exact⟨by simpa using h11,by omega,by omega,by simpa using h29,by omega,by omega,by omega,by omega,by omega,hall,h.trans ⟨fun x=>by omega,fun x=>by omega⟩⟩
 exact cH (v:=.bool (decide (t.state=1)==decide ((t.parts.length:Int)=0))) Z Z ⟨by rw[hv],H.below⟩
/-- a coordinator, and where its rows lie -/
structure Co where
 clock:Int
 next:Int
 wait:Int
 txs:List Tx
 A:Option Addr
 cap:Nat
def Co.c (c:Co):List Value:=[J c.clock,J c.next,J c.wait,.slice c.A c.txs.length c.cap]
abbrev Co.v (c:Co):Value:=.agg c.c.toArray
def iP (lo hi:Nat) (txs:List Tx):cB:=⟨lo,hi,fun w=> ∀ t∈txs,Rd bR lo hi t.A t.parts w,fun _ _ hk h t ht=>(h t ht).st hk⟩
theorem fE {w0 w:World} {L:List (Nat×Obj)} {F:List cB} {lo hi:Nat} {txs:List Tx} (H:Hp w0 w L F) (i:Nat) (hF:F[i]? =some (iP lo hi txs)) {t:Tx} (ht:t∈txs):Rd bR 0 w.heap.size t.A t.parts w:=
 Rd.mono ((H.fact hF) t ht) (bG _) (H.facts _ (ab hF)).2.1
def sI (t:Tx) (p:Tx):Bool:=decide (p.name=t.name)||decide (p.pid=t.pid)
def og (ck nx:Int):List Tx->List Tx->Bool
 |_,[]=>true
 |pre,t::l=>fN ck nx t&&!(pre.any (sI t))&&og ck nx (pre++[t]) l
def gI (c:Co):Bool:=iK c.clock&&decide (1<=c.next)&&decide (c.next<=1073741824)&&decide (1<=c.wait)&&decide (c.wait<=1000)&&decide ((c.txs.length:Int)<=8)&&og c.clock c.next [] c.txs
theorem i8 {c:Co}:gI c=true↔iK c.clock=true/\1<=c.next/\c.next<=1073741824/\1<=c.wait/\c.wait<=1000/\(c.txs.length:Int)<=8/\og c.clock c.next [] c.txs=true:=by
 unfold gI
 simp only[aR,decide_eq_true_eq,and_assoc]
structure Co.rd (c:Co) (lo hi:Nat) (w:World):Prop where
 row:Rd rP lo hi c.A c.txs w
 parts: ∀ t∈c.txs,Rd bR lo hi t.A t.parts w
 cap:c.txs.length<=c.cap
 few:c.txs.length<=1000000
 fewP: ∀ t∈c.txs,t.parts.length<=1000000/\t.parts.length<=t.cap
theorem Hp.startCo {c:Co} {w:World} (h:c.rd 0 w.heap.size w):Hp w w [] [dU rP 0 w.heap.size c.A c.txs,iP 0 w.heap.size c.txs]:=
 ((Hp.start w).learnOld (iP 0 w.heap.size c.txs) h.parts (ao _)).learnOld (dU rP 0 w.heap.size c.A c.txs) h.row (ao _)
theorem qp (c:Co) (w:World) (h:c.rd 0 w.heap.size w):dh aa Cl [c.v] w fun v w2=>v=J (if gI c then 0 else 12)/\Below w.heap.size w w2:=by
 refine aE Br Z Z ?_
 have hcap:=h.cap
 have hfew:=h.few
 have hfp:=h.fewP
 have H:=Hp.startCo h
 obtain⟨ck,nx,wt,txs,cA,cc⟩:=c
 dsimp only at hcap hfew hfp H
 show CW _ _ _ _ (args [.agg #[J ck,J nx,J wt,.slice cA txs.length cc]]) w
 refine W<|Zr<|f7 H Z Z fun w1 b1 H=>G (Wi Z)<|U<|W<|W<|Zr<|G (Zf kB Z)<|G (Zd ak H 0 Z Z Z)<|ch tp (BJ ck _) Z Z ?_
 rintro _ w2 ⟨rfl,hb⟩;replace H:=H.later hb;clear hb
 refine G (dM Z)<|G (Yb Z) ?_
 refine mM 9 Z (fun h9=> ?_) (fun h9=> ?_)
 refine ZN<|ZN<|ZN<|G (Kt Z Z)<|G (Yb Z)<|ZN<|ZN<|ZN<|G (Kt Z Z)<|G (Yb Z)<|ZN<|ZN<|ZN<|G (Kt Z Z)<|G (Yb Z)<|ZN<|ZN<|ZN<|G (Kt Z Z)<|G (Yb Z)<|ZN<|ZN<|ZN<|ZN<|G (Kt Z Z)<|U<|ZT Z<|W<|Zr<|G (Wi Z)<|U<|Zt ?_
 have hv:gI ⟨ck,nx,wt,txs,cA,cc⟩=false:=by
  cases hh:gI ⟨ck,nx,wt,txs,cA,cc⟩
  rfl
  obtain⟨a1,a2,a3,a4,a5,a6,a7⟩:=i8.1 hh
  dsimp only at a1 a2 a3 a4 a5 a6 a7
  exfalso
  first|omega|simp_all
 exact cH (v:=J 12) Z Z ⟨by rw[hv];rfl,H.below⟩
 refine ZG<|G (Zf kz Z)<|ZG<|G (Zd ak H 0 Z Z Z)<|ZG ?_
 refine cW (cK Z Z) Z Z Z (fun h12=> ?_) (fun h12=> ?_)
 refine G (N Z Z)<|G (Yb Z)<|ZN<|ZN<|ZN<|G (Kt Z Z)<|G (Yb Z)<|ZN<|ZN<|ZN<|G (Kt Z Z)<|G (Yb Z)<|ZN<|ZN<|ZN<|G (Kt Z Z)<|G (Yb Z)<|ZN<|ZN<|ZN<|ZN<|G (Kt Z Z)<|U<|ZT Z<|W<|Zr<|G (Wi Z)<|U<|Zt ?_
 have hv:gI ⟨ck,nx,wt,txs,cA,cc⟩=false:=by
  cases hh:gI ⟨ck,nx,wt,txs,cA,cc⟩
  rfl
  obtain⟨a1,a2,a3,a4,a5,a6,a7⟩:=i8.1 hh
  dsimp only at a1 a2 a3 a4 a5 a6 a7
  exfalso
  first|omega|simp_all
 exact cH (v:=J 12) Z Z ⟨by rw[hv];rfl,H.below⟩
 refine G (N Z Z)<|G (Yb Z)<|ZG<|G (Zf kz Z)<|ZG<|G (Zd ak H 0 Z Z Z)<|ZG ?_
 refine cW (km Z Z) Z Z Z (fun h17=> ?_) (fun h17=> ?_)
 refine G (N Z Z)<|G (Yb Z)<|ZN<|ZN<|ZN<|G (Kt Z Z)<|G (Yb Z)<|ZN<|ZN<|ZN<|G (Kt Z Z)<|G (Yb Z)<|ZN<|ZN<|ZN<|ZN<|G (Kt Z Z)<|U<|ZT Z<|W<|Zr<|G (Wi Z)<|U<|Zt ?_
 have hv:gI ⟨ck,nx,wt,txs,cA,cc⟩=false:=by
  cases hh:gI ⟨ck,nx,wt,txs,cA,cc⟩
  rfl
  obtain⟨a1,a2,a3,a4,a5,a6,a7⟩:=i8.1 hh
  dsimp only at a1 a2 a3 a4 a5 a6 a7
  exfalso
  first|omega|simp_all
 exact cH (v:=J 12) Z Z ⟨by rw[hv];rfl,H.below⟩
 refine G (N Z Z)<|G (Yb Z)<|ZG<|G (Zf wr Z)<|ZG<|G (Zd ak H 0 Z Z Z)<|ZG ?_
 refine cW (cK Z Z) Z Z Z (fun h22=> ?_) (fun h22=> ?_)
 refine G (N Z Z)<|G (Yb Z)<|ZN<|ZN<|ZN<|G (Kt Z Z)<|G (Yb Z)<|ZN<|ZN<|ZN<|ZN<|G (Kt Z Z)<|U<|ZT Z<|W<|Zr<|G (Wi Z)<|U<|Zt ?_
 have hv:gI ⟨ck,nx,wt,txs,cA,cc⟩=false:=by
  cases hh:gI ⟨ck,nx,wt,txs,cA,cc⟩
  rfl
  obtain⟨a1,a2,a3,a4,a5,a6,a7⟩:=i8.1 hh
  dsimp only at a1 a2 a3 a4 a5 a6 a7
  exfalso
  first|omega|simp_all
 exact cH (v:=J 12) Z Z ⟨by rw[hv];rfl,H.below⟩
 refine G (N Z Z)<|G (Yb Z)<|ZG<|G (Zf wr Z)<|ZG<|G (Zd ak H 0 Z Z Z)<|ZG ?_
 refine cW (km Z Z) Z Z Z (fun h27=> ?_) (fun h27=> ?_)
 refine G (N Z Z)<|G (Yb Z)<|ZN<|ZN<|ZN<|ZN<|G (Kt Z Z)<|U<|ZT Z<|W<|Zr<|G (Wi Z)<|U<|Zt ?_
 have hv:gI ⟨ck,nx,wt,txs,cA,cc⟩=false:=by
  cases hh:gI ⟨ck,nx,wt,txs,cA,cc⟩
  rfl
  obtain⟨a1,a2,a3,a4,a5,a6,a7⟩:=i8.1 hh
  dsimp only at a1 a2 a3 a4 a5 a6 a7
  exfalso
  first|omega|simp_all
 exact cH (v:=J 12) Z Z ⟨by rw[hv];rfl,H.below⟩
 refine G (N Z Z)<|G (Yb Z)<|ZG<|G (Zf cQ Z)<|ZG<|G (Zd dL H 0 Z Z Z)<|ZG<|G (br ln Z)<|ZG ?_
 refine cW (km Z Z) Z Z Z (fun h33=> ?_) (fun h33=> ?_)
 refine G (N Z Z)<|U<|ZT Z<|W<|Zr<|G (Wi Z)<|U<|Zt ?_
 have hv:gI ⟨ck,nx,wt,txs,cA,cc⟩=false:=by
  cases hh:gI ⟨ck,nx,wt,txs,cA,cc⟩
  rfl
  obtain⟨a1,a2,a3,a4,a5,a6,a7⟩:=i8.1 hh
  dsimp only at a1 a2 a3 a4 a5 a6 a7
  exfalso
  first|omega|simp_all
 exact cH (v:=J 12) Z Z ⟨by rw[hv];rfl,H.below⟩
 refine G (N Z Z)<|U<|ZF Z<|Zk<|W<|W<|Zr<|G (Zf cQ Z)<|G (Zd dL H 0 Z Z Z)<|G (br ln Z)<|G (Yi Z)<|U<|Zb ?_
 refine cD (τ:=Nat) [2,3,4,38,39,40,41,42,43,44,45,46,47,48,49,50,51,52,53,54,55] (fun k=>[(38,J (k:Nat))]) (fun k w'=>k<=txs.length/\og ck nx [] txs=og ck nx (txs.take k) (txs.drop k)/\Hp w w' [(b1,.cells #[J ck,J nx,J wt,.slice cA txs.length cc] bi (0,0))] [dU rP 0 w.heap.size cA txs,iP 0 w.heap.size txs]) (fun k=>txs.length-k) 0 ⟨by omega,by rw[ml,zh],H⟩ (dP Z) ?_
 rintro k ρ1 w3 ⟨hk,hto,H⟩
 show CW _ _ _ _ (dH (gZ _ _ ρ1) [(38,J (k:Nat))]) w3
 refine W<|Zr ?_
 refine cW (cK Z Z) Z Z Z (fun h39=> ?_) (fun h39=> ?_)
 refine U<|W<|ZT Z<|Zk<|W<|Zb<|W<|Zr<|G (Yi Z)<|qB H 0 Z gM Z Z I I Z fun b4 o4 x4 e4=> ?_
 have hxk:=e4.at_
 have hdrop:=cP hxk
 refine G (j7 (xs:=Tx.c x4) zQ Z Z e4.cl)<|eP H IJ Z fun w5 b4 H=>G (Wi Z)<|Lx H 0 IN Z Z Z Z Z Z fun w6 H=>U<|W<|Zr<|G (Zw av H 1 Z Z Z)<|G (Zw zQ H 0 Z Z Z)<|ch EZ (Pn ck nx wt cA txs.length cc x4 _ (fE H 1 Z (ab hxk)) (hfp _ (ab hxk)).1) Z Z ?_
 rintro _ w7 ⟨rfl,hb⟩;replace H:=H.later hb;clear hb
 refine G (dM Z)<|G (Yb Z) ?_
 refine mM 47 Z (fun h47=> ?_) (fun h47=> ?_)
 refine ZN<|ZN<|ZN<|ZN<|ZN<|ZN<|G (Kt Z Z)<|U<|ZT Z<|W<|Zr<|G (Wi Z)<|U<|Zt ?_
 have hv:gI ⟨ck,nx,wt,txs,cA,cc⟩=false:=by
  cases hh:gI ⟨ck,nx,wt,txs,cA,cc⟩
  rfl
  obtain⟨a1,a2,a3,a4,a5,a6,a7⟩:=i8.1 hh
  dsimp only at a1 a2 a3 a4 a5 a6 a7
  exfalso
  rw[hto,hdrop]at a7
  simp only[og,aR]at a7
  obtain⟨⟨q1,q2⟩,-⟩:=a7
  rw[pD]at q2
  first|(rw[q2]at hc54;cases hc54)|simp_all
 exact cH (v:=J 12) Z Z ⟨by rw[hv];rfl,H.below⟩
 refine ZG<|G (Zf cQ Z)<|ZG<|G (Zd dL H 1 Z Z Z)<|ZG<|G (Yi Z)<|ZG<|sF (k:=k) H 0 Z gM Z Z hcap I Z fun A51 H=> ?_
 have htl:(txs.take k).length=k:=by rw[aI];omega
 refine ZG<|G (AB Z)<|ZG ?_
 have hC:=fun q=>vm (txs.take k) A51 q _ (H.rd0 0 Z) I r6 [.pointer (Qd b4)] xB (sI x4) (fun e w2 _ hw2=>GT e x4 b4 w2 ((hw2.block _ (ce (H.ent (i:=0) Z))).trans (H.ent (i:=0) Z)))
 rw[htl]at hC
 replace hC:=hC cc
 refine ch ni (hC) Z Z ?_
 rintro _ w8 ⟨rfl,hb⟩;replace H:=H.later hb;clear hb
 refine G (N Z Z)<|U ?_
 refine jw Z (fun hc54=> ?_) (fun hc54=> ?_)
 refine W<|Zr<|G (Wi Z)<|U<|Zt ?_
 have hv:gI ⟨ck,nx,wt,txs,cA,cc⟩=false:=by
  cases hh:gI ⟨ck,nx,wt,txs,cA,cc⟩
  rfl
  obtain⟨a1,a2,a3,a4,a5,a6,a7⟩:=i8.1 hh
  dsimp only at a1 a2 a3 a4 a5 a6 a7
  exfalso
  rw[hto,hdrop]at a7
  simp only[og,aR]at a7
  obtain⟨⟨q1,q2⟩,-⟩:=a7
  rw[pD]at q2
  first|(rw[q2]at hc54;cases hc54)|simp_all
 exact cH (v:=J 12) Z Z ⟨by rw[hv];rfl,H.below⟩
 refine Zk<|Zr<|G (bw Z Z I I)<|G (Yi Z)<|U ?_
 refine⟨k+1,⟨by omega,?_,H.forget (.cons _ (ar _)) (fun _ h=>aj _ h)⟩,dP Z,Qg,by show txs.length- (k+1)<txs.length-k;omega⟩
 rw[hto,hdrop,eu hxk]
 simp only[og]
 simp_all
 have hke:k=txs.length:=by omega
 have hall:og ck nx [] txs=true:=by rw[hto,hke,fA];rfl
 refine U<|W<|ZF Z<|Zx<|W<|Zr<|G (Wi Z)<|U<|Zt ?_
 have hv:gI ⟨ck,nx,wt,txs,cA,cc⟩=true:=i8.2 ⟨by simpa using h9,by dsimp only;omega,by dsimp only;omega,by dsimp only;omega,by dsimp only;omega,by dsimp only;omega,hall⟩
 exact cH (v:=J 0) Z Z ⟨by rw[hv];rfl,H.below⟩
def Tx.a (t:Tx):Tx:={t with A:=none,cap:=0}
theorem iW {α:Type} {l:List α} {k:Nat} {a:α} (h:l[k]? =some a):l.set k a=l:=by
 apply en
 intro i
 rw[lD]
 split
 rename_i hi
 subst hi
 split
 exact h.symm
 rename_i h2;rw[cL I]
 rfl
theorem Lh {α:Type} {l:List α} {k:Nat} (h:k<l.length) (a:α):(l.set k a).take (k+1)=l.take k++[a]:=by
 rw[eu (e:=a) (by rw[al h]),zS (ao k)]
theorem DA {out txs:List Tx} {k:Nat} {x x':Tx} (hx:out[k]? =some x) (hma:out.map Tx.a=txs.map Tx.a) (hdr:out.drop k=txs.drop k) (ha:x'.a=x.a):(out.set k x').map Tx.a=txs.map Tx.a/\(out.set k x').drop (k+1)=txs.drop (k+1)/\(out.set k x').take (k+1)=out.take k++[x']:=by
 refine⟨?_,?_,Lh (cC hx).1 x'⟩
 rw[cE,ha,<-hma]
 exact iW (by rw[aL,hx];rfl)
 rw[sk I]
 have:=congrArg (List.drop 1) hdr
 rwa[kb,kb]at this
def Co.a (c:Co):Co:={c with txs:=c.txs.map Tx.a,A:=none,cap:=0}
theorem Hp.joinParts {w0 w:World} {L:List (Nat×Obj)} {F:List cB} {a b lo hi:Nat} {ts:List Tx} {t:Tx} (H:Hp w0 w L (dU bR a b t.A t.parts::iP lo hi ts::F)) (hL: ∀ e∈L,e.1<lo) (hlo:lo<=a) (hhi:hi<=b):Hp w0 w L (iP lo b (ts++[t])::F):=by
 refine⟨H.below,H.ents,H.nodup,fun f hf=> ?_⟩
 rcases ax.1 hf with rfl|hf
 have h1:=H.facts _ (az ..)
 have h2:=H.facts _ (aj _ (az ..))
 refine⟨fun x hx=> ?_,h1.2.1,fun e he=> .inl (hL e he)⟩
 rcases ap.1 hx with hx|hx
 exact Rd.mono (h2.1 x hx) (ao _) hhi
 rw[aq.1 hx]
 exact Rd.mono (lo':=lo) (hi':=b) (show Rd bR a b t.A t.parts w from h1.1) hlo (ao _)
 exact H.facts f (aj _ (aj _ hf))
theorem JT {w0 w:World} {L:List (Nat×Obj)} {F:List cB} (H:Hp w0 w L F) (lo:Nat) (hlo: ∀ e∈L,e.1<lo) (h:lo<=w.heap.size):Hp w0 w L (iP lo lo []::F):=by
 refine⟨H.below,H.ents,H.nodup,fun f hf=> ?_⟩
 rcases ax.1 hf with rfl|hf
 exact⟨fun x hx=>absurd hx (by simp),h,fun e he=> .inl (hlo e he)⟩
 exact H.facts f hf
theorem xx (es:List Tx) (A:Option Addr) (c:Nat) (w:World) (hr:Rd rP 0 w.heap.size A es w) (hb:es.length*80<=140737488355328):
  dh aa rY [.slice A es.length c] w fun v w2=> ∃ A' c' L',v=.slice A' es.length c'/\es.length<=c'/\c'<=maxLen/\gz rP (.slice A' es.length c') dF es L'/\Hp w w2 L' []:=by
 refine aE rG Z Z ?_
 have H:=Hp.startRd hr
 refine W<|Zr<|G (Ws Z)<|U<|W<|W<|Zr<|G (Ys Z) ?_
 refine wW (qO ln Z) Z Z Z (fun h4=> ?_) (fun h4=> ?_)
 refine U<|ZT Z<|W<|Zr<|G (Ws Z)<|U<|Zt ?_
 have he:es=[]:=by
  cases es with
  |nil=>rfl
  |cons e es=>obtain⟨b,o,hA,_⟩:=hr (by simp);subst hA;cases h4
 subst he
 exact cH Z Z ⟨none,0,[],rfl,by simp,by decide,gz.nil,H.forget (by simp) (by simp)⟩
 refine U<|ZF Z<|Zk<|W<|Zr<|Pe H gM Z fun w1 b5 H=>G (Ys Z)<|vP (Y:=rP) Jg (K:=[]) (L:=[(b5,_)]) (M:=[]) H (sj.lit (by decide) (by rfl)) (es:=[]) (news:=es) Z Z Z (Rd.src (H.fact (i:=0) Z)) (by simpa using hb) Z ?_
 intro A3 c3 w3 L3 h3a h3b ho3 H
 refine G (Ws Z)<|U<|Zt ?_
 exact cH Z Z ⟨A3,c3,L3,rfl,h3a,h3b,ho3,H.forget (by simp) (by simp)⟩
theorem yw (c:Co) (w:World) (h:c.rd 0 w.heap.size w):dh aa xi [c.v] w fun v w2=> ∃ (c':Co) (L':List (Nat×Obj)) (lo hi:Nat),v=c'.v/\c'.a=c.a/\gz rP (.slice c'.A c'.txs.length c'.cap) dF c'.txs L'/\c'.txs.length<=c'.cap/\(∀ t∈c'.txs,t.parts.length<=t.cap)/\w.heap.size<=lo/\Hp w w2 L' [iP lo hi c'.txs]:=by
 refine aE vH Z Z ?_
 have hcap:=h.cap
 have hfew:=h.few
 have hfp:=h.fewP
 have H:=Hp.startCo h
 obtain⟨ck,nx,wt,txs,cA,cc⟩:=c
 dsimp only at hcap hfew hfp H
 show CW _ _ _ _ (args [.agg #[J ck,J nx,J wt,.slice cA txs.length cc]]) w
 refine W<|Zr<|f7 H Z Z fun w1 b1 H=>eP H cM Z fun w2 b2 H=>U<|W<|Zr<|G (Zf cQ Z)<|G (Zd dL H 1 Z Z Z)<|ch lw (xx txs cA cc _ (H.rd0 0 Z) I) Z Z ?_
 rintro _ w3 ⟨A6,c6,L6,rfl,hc6,hm6,ho6,hj6⟩;replace H:=H.joinR hj6;clear hj6
 refine G (Zf cQ Z)<|bo H 1 (#[J ck,J nx,J wt,.slice A6 txs.length c6]) Aj Z Z Z Z Z N N fun w4 H=>U<|W<|W ?_
 have hlt0:=H.ltAll
 obtain⟨lo,hlo⟩: ∃ lo,lo=w4.heap.size:=⟨_,rfl⟩
 rw[<-hlo]at hlt0
 have hlow:w.heap.size<=lo:=by rw[hlo];exact H.size
 replace H:=JT H lo hlt0 I
 have hb1:b1<lo:=hlt0 (b1,_) (qK _ (fM _))
 have hb2:b2<lo:=hlt0 (b2,_) (fM _)
 have hL6: ∀ e∈L6,e.1<lo:=fun e he=>hlt0 e (qK _ (qK _ (iv _ he)))
 refine Zr<|G (Zf cQ Z)<|G (Zd dL H 1 Z Z Z)<|G (br ln Z)<|G (Yi Z)<|U<|Zb ?_
 refine cD (τ:=Nat×List Tx×Option Addr×Nat×Nat) [3,11,12,13,14,15,16,17,18,19,20,21,22,23,24,25,26] (fun(k,_)=>[(11,J (k:Nat))]) (fun(k,out,A1,c1,hi) w'=>k<=out.length/\out.length=txs.length/\out.length<=c1/\out.map Tx.a=txs.map Tx.a/\out.drop k=txs.drop k/\(∀ t∈out.take k,t.parts.length<=t.cap)/\lo<=w'.heap.size/\ ∃ L',gz rP (.slice A1 out.length c1) dF out L'/\(∀ e∈L',e.1<lo)/\Hp w w' ([(b2,.cells #[J 0,J 0,J 0,.slice none 0 0] bi (0,0)),(b1,.cells #[J ck,J nx,J wt,.slice A1 out.length c1] bi (0,0))]++L'++[]) [iP lo hi (out.take k),dU rP 0 w.heap.size cA txs,iP 0 w.heap.size txs]) (fun(k,out,_)=>out.length-k) (0,txs,A6,c6,lo) ⟨by omega,rfl,hc6,rfl,rfl,by simp,by omega,L6,ho6,hL6,H⟩ (dP Z) ?_
 rintro⟨k,out,A1,c1,hi⟩ ρ1 w5 ⟨hk,hol,hoc,hma,hdr,hpc,hlw,L1,ho,hL1,H⟩
 show CW _ _ _ _ (dH (gZ _ _ ρ1) [(11,J (k:Nat))]) w5
 refine W<|Zr ?_
 refine cW (cK Z Z) Z Z Z (fun h12=> ?_) (fun h12=> ?_)
 refine U<|W<|ZT Z<|Zk<|W<|Zb<|W ?_
 obtain⟨x,hx⟩: ∃ x,out[k]? =some x:=⟨_,ah I⟩
 have hxt:txs[k]? =some x:=by have:=congrArg (fun l=>l[0]?) hdr;simp only[dx,su]at this;rw[<-this];exact hx
 have hmem:=ab hxt
 have hfx:=(hfp x hmem).1
 obtain⟨g,cur,rfl,rfl,row⟩:=ho.row I
 have hg:g<lo:=hL1 (g,_) (d5 _)
 refine Zr<|G (Yi Z)<|G (Wi Z)<|U ?_
 have hhi5:=(H.facts _ (fM _)).2.1
 refine bA cd [0,1,2,3,4,5,6,7,8,9,10,11] [12] [9] [0,2,3,5,6,7,10,11] (sp [(9,Sp.row w5.heap.size bR x.parts)]) N N N N Nq (cI _) ?_
 refine aw Z Z Z Z Z (fun w' hw'=>Zf cQ Z)<|aw Z Z Z Z Z (fun w' hw'=>aW dL Z (aB ((H.later hw').ent (i:=1) Z) Z))<|aw Z Z Z Z Z (fun w' hw'=>Yi Z)<|aw Z Z Z Z Z (fun w' hw'=>Zf cQ Z)<|aw Z Z Z Z Z (fun w' hw'=>aW dL Z (aB ((H.later hw').ent (i:=1) Z) Z))<|aw Z Z Z Z Z (fun w' hw'=>Yi Z)<|aw Z Z Z Z Z (fun w' hw'=>cG gM Z Z I)<|aw Z Z Z Z Z (fun w' hw'=>Zf dz Z)<|aw Z Z Z Z Z (fun w' hw'=>bP cy row hx 4 Z ((H.later hw').ent (i:=2) Z) Z)<|DC gx Z Z Z Z Z (fun w' hw'=>hw'.size) (fun w' hw'=>xw x.parts _ _ w' (fE (H.later hw') 2 Z hmem) I) Z fun A23 c23 hc23=>aw Z Z Z Z Z (fun w' hw'=>cG gM Z Z I)<|aw Z Z Z Z Z (fun w' hw'=>Zf dz Z)<|aV ?_
 intro w6 hw' hF
 have hsz:=hw'.size
 obtain⟨hF,Aq,cq,eq,hcq,hrw23⟩:=hF;cases eq;clear hcq
 replace H:=H.learnRd hw' hrw23
 clear hw' hF
 refine k9 H 2 ({x with A:=A23,cap:=c23}) jK row hx 4 Z Z Z Z Z Z N fun w8 cur7 row7 H=>U<|Zr<|G (bw Z Z I I)<|G (Yi Z)<|U ?_
 obtain⟨z1,z2,z3⟩:=DA (x':={x with A:=A23,cap:=c23}) hx hma hdr Z
 have hb5:=(H.facts _ (fM _)).2.1
 dsimp only[dU]at hb5
 have HJ:=Hp.joinParts (t:={x with A:=A23,cap:=c23}) H (fun e he=>by rcases ax.1 he with rfl|he;exact hb2;rcases ax.1 he with rfl|he;exact hb1;rw[aq.1 he];exact hg) hlw (aU hhi5 hsz)
 rw[<-z3]at HJ
 refine⟨(k+1,out.set k {x with A:=A23,cap:=c23},some ⟨g,0,none⟩,c1,w6.heap.size),⟨by rw[ae];omega,by rw[ae];exact hol,by rw[ae];exact hoc,z1,z2,?_,by omega,_,dX.own row7,fun e he=>by rw[aq.1 he];exact hg,?_⟩,dP Z,Qg,by show(out.set k _).length- (k+1)<out.length-k;rw[ae];omega⟩
 rw[z3];intro t ht;rcases ap.1 ht with ht|ht;exact hpc t ht;rw[aq.1 ht];exact hc23
 rw[ae];exact HJ
 have hke:k=out.length:=by omega
 rw[hke,bN]at H hpc
 refine U<|W<|ZF Z<|Zx<|W<|Zr<|G (Zw av H 1 Z Z Z)<|bo H 0 (#[J ck,J nx,J wt,.slice A1 out.length c1]) aF Z Z Z Z Z N N fun w9 H=>U<|Zt ?_
 exact eS (cs0:= #[J ck,J nx,J wt,.slice A1 out.length c1]) Z av Z (H.ent (i:=0) Z) Z ⟨⟨ck,nx,wt,out,A1,c1⟩,L1,lo,hi,rfl,by unfold Co.a;dsimp only;rw[hma],ho,hoc,hpc,hlow,H.forget (.cons _ (.cons _ (aC _ _))) (by simp)⟩
theorem Hp.joinF {w0 w w':World} {L L':List (Nat×Obj)} {F F':List cB} (H:Hp w0 w L F) (H':Hp w w' L' F') (hf': ∀ f∈F',w.heap.size<=f.lo):Hp w0 w' (L++L'++[]) (F'++F):=by
 have HJ:=H.joinR (H'.forget (ar _) (F':=[]) (by simp))
 refine⟨HJ.below,HJ.ents,HJ.nodup,fun f hf=> ?_⟩
 rcases ap.1 hf with hf|hf
 obtain⟨h1,h2,h3⟩:=H'.facts f hf
 refine⟨h1,h2,fun e he=> ?_⟩
 rw[aZ]at he
 rcases ap.1 he with he|he
 have:=H.ltAll e he
 have:=hf' f hf
 omega
 exact h3 e he
 exact HJ.facts f hf
def fR (c:Co) (s:ByteArray):Int:=lL (c.txs.findIdx? fun p=>decide (p.name=s))
def Nx (w w2:World) (c c':Co) (L':List (Nat×Obj)) (lo hi:Nat):Prop:=c'.a=c/\gz rP (.slice c'.A c'.txs.length c'.cap) dF c'.txs L'/\c'.txs.length<=c'.cap/\(∀ t∈c'.txs,t.parts.length<=t.cap)/\w.heap.size<=lo/\Hp w w2 L' [iP lo hi c'.txs]
theorem KD (c:Co) (s:ByteArray) (w:World) (h:c.rd 0 w.heap.size w) (hok:gI c=true) (hn:bL s=true):dh aa xf [c.v,.string s] w fun v w2=> ∃ (c':Co) (L':List (Nat×Obj)) (lo hi:Nat),v=.tuple #[c'.v,J (fR c s),J 0]/\Nx w w2 c.a c' L' lo hi:=by
 refine aE vF Z Z ?_
 have hcap:=h.cap
 have hfew:=h.few
 have hfp:=h.fewP
 have H:=Hp.startCo h
 obtain⟨ck,nx,wt,txs,cA,cc⟩:=c
 dsimp only at hcap hfew hfp H
 show CW _ _ _ _ (args [.agg #[J ck,J nx,J wt,.slice cA txs.length cc],.string s]) w
 refine W<|Zr<|f7 H Z Z fun w1 b2 H=>Ri H Z Z fun w2 b3 H=>eP H cM Z fun w3 b4 H=>G (Wi Z)<|G (Wi Z)<|U<|W<|W<|Zr<|G (Zw av H 2 Z Z Z)<|ch kH (qp ⟨ck,nx,wt,txs,cA,cc⟩ _ ⟨H.rd0 0 Z,fun t ht=>fE H 1 Z ht,hcap,hfew,hfp⟩) Z Z ?_
 rw[hok]
 rintro _ w4 ⟨rfl,hb⟩;replace H:=H.later hb;clear hb
 refine G (Wi Z)<|U<|W<|Zr<|G (Yi Z)<|G (bZ Z Z Z)<|U<|ZF Z<|Zk<|W<|W<|Zr<|G (Zd bd H 1 Z Z Z)<|ch rO (Eh s _) Z Z ?_
 rw[hn]
 rintro _ w5 ⟨rfl,hb⟩;replace H:=H.later hb;clear hb
 refine G (dM Z)<|U<|ZF Z<|Zk<|W ?_
 refine qW cd [2,4] [0,1,3,5,6,7,8] [2,4] 7 N N N Nq ?_
 refine aw Z Z Z Z Z (fun w' hw'=>Zf cQ Z)<|aw Z Z Z Z Z (fun w' hw'=>AB Z)<|aV ?_
 intro w6 hw';replace H:=H.later hw';clear hw'
 refine tH 0 3 N Z Z ?_ ?_
 refine G (Zw av H 2 Z Z Z)<|U ?_
 refine tH 1 3 N Z Z ?_ ?_
 refine ch je (yw ⟨ck,nx,wt,txs,cA,cc⟩ _ ⟨H.rd0 0 Z,fun t ht=>fE H 1 Z ht,hcap,hfew,hfp⟩) Z Z ?_
 have hsz0:=H.size
 rintro _ w7 ⟨⟨ck2,nx2,wt2,tx2,A2,c2⟩,L2,lo2,hi2,rfl,ha2,ho2,hoc2,hpc2,hlo2,hj2⟩
 replace H:=Hp.joinF H hj2 (by intro f hf;rw[aq.1 hf];exact hlo2);clear hj2
 simp only[Co.a,Co.mk.injEq]at ha2
 obtain⟨e1,e2,e3,hma,-,-⟩:=ha2
 obtain rfl:ck=ck2:=e1.symm
 obtain rfl:nx=nx2:=e2.symm
 obtain rfl:wt=wt2:=e3.symm
 dsimp only at ho2 hoc2 hpc2 H
 refine U<|de 3 N Z<|G (Zd dL H 2 Z Z Z)<|U<|de 5 N Z<|ch dE (gf txs cA cc _ (H.rd0 1 Z) I gU [.pointer (Qd b3)] iw (fun p=>decide (p.name=s)) (fun e w2 _ hw2=>nO e s b3 w2 ((hw2.block _ (ce (H.ent (i:=1) Z))).trans (H.ent (i:=1) Z)))) Z Z ?_
 rintro _ w8 ⟨rfl,hb⟩;replace H:=H.later hb;clear hb
 refine U<|de 6 N Z<|bo H 0 (#[J ck,J nx,J wt,.slice A2 tx2.length c2]) aF Z Z Z Z Z N N fun w9 H=>U<|de 7 N Z<|G (Wi Z)<|U<|de 8 N Z<|G (Wi Z)<|U<|cF N<|Zt ?_
 exact gE (cs0:= #[J ck,J nx,J wt,.slice A2 tx2.length c2]) (v1:=J (lL (txs.findIdx? fun p=>decide (p.name=s)))) (v2:=J 0) Z av Z (H.ent (i:=0) Z) Z Z Z ⟨⟨ck,nx,wt,tx2,A2,c2⟩,L2,lo2,hi2,rfl,by unfold Co.a;dsimp only;rw[hma],ho2,hoc2,hpc2,aU hsz0 hlo2,H.forget (.cons _ (.cons _ (.cons _ (aC _ _)))) (by simp)⟩
 refine G (Zd dL H 2 Z Z Z)<|U<|de 1 N Z<|ch je (yw ⟨ck,nx,wt,txs,cA,cc⟩ _ ⟨H.rd0 0 Z,fun t ht=>fE H 1 Z ht,hcap,hfew,hfp⟩) Z Z ?_
 have hsz0:=H.size
 rintro _ w10 ⟨⟨ck2,nx2,wt2,tx2,A2,c2⟩,L2,lo2,hi2,rfl,ha2,ho2,hoc2,hpc2,hlo2,hj2⟩
 replace H:=Hp.joinF H hj2 (by intro f hf;rw[aq.1 hf];exact hlo2);clear hj2
 simp only[Co.a,Co.mk.injEq]at ha2
 obtain⟨e1,e2,e3,hma,-,-⟩:=ha2
 obtain rfl:ck=ck2:=e1.symm
 obtain rfl:nx=nx2:=e2.symm
 obtain rfl:wt=wt2:=e3.symm
 dsimp only at ho2 hoc2 hpc2 H
 refine U<|de 5 N Z<|ch dE (gf txs cA cc _ (H.rd0 1 Z) I gU [.pointer (Qd b3)] iw (fun p=>decide (p.name=s)) (fun e w2 _ hw2=>nO e s b3 w2 ((hw2.block _ (ce (H.ent (i:=1) Z))).trans (H.ent (i:=1) Z)))) Z Z ?_
 rintro _ w11 ⟨rfl,hb⟩;replace H:=H.later hb;clear hb
 refine U<|de 6 N Z<|bo H 0 (#[J ck,J nx,J wt,.slice A2 tx2.length c2]) aF Z Z Z Z Z N N fun w12 H=>U<|de 7 N Z<|G (Wi Z)<|U<|de 8 N Z<|G (Wi Z)<|U<|cF N<|Zt ?_
 exact gE (cs0:= #[J ck,J nx,J wt,.slice A2 tx2.length c2]) (v1:=J (lL (txs.findIdx? fun p=>decide (p.name=s)))) (v2:=J 0) Z av Z (H.ent (i:=0) Z) Z Z Z ⟨⟨ck,nx,wt,tx2,A2,c2⟩,L2,lo2,hi2,rfl,by unfold Co.a;dsimp only;rw[hma],ho2,hoc2,hpc2,aU hsz0 hlo2,H.forget (.cons _ (.cons _ (.cons _ (aC _ _)))) (by simp)⟩
 refine G (Zd dL H 2 Z Z Z)<|U<|de 0 N Z<|G (Zw av H 2 Z Z Z)<|U<|de 1 N Z<|ch je (yw ⟨ck,nx,wt,txs,cA,cc⟩ _ ⟨H.rd0 0 Z,fun t ht=>fE H 1 Z ht,hcap,hfew,hfp⟩) Z Z ?_
 have hsz0:=H.size
 rintro _ w13 ⟨⟨ck2,nx2,wt2,tx2,A2,c2⟩,L2,lo2,hi2,rfl,ha2,ho2,hoc2,hpc2,hlo2,hj2⟩
 replace H:=Hp.joinF H hj2 (by intro f hf;rw[aq.1 hf];exact hlo2);clear hj2
 simp only[Co.a,Co.mk.injEq]at ha2
 obtain⟨e1,e2,e3,hma,-,-⟩:=ha2
 obtain rfl:ck=ck2:=e1.symm
 obtain rfl:nx=nx2:=e2.symm
 obtain rfl:wt=wt2:=e3.symm
 dsimp only at ho2 hoc2 hpc2 H
 refine U<|de 5 N Z<|ch dE (gf txs cA cc _ (H.rd0 1 Z) I gU [.pointer (Qd b3)] iw (fun p=>decide (p.name=s)) (fun e w2 _ hw2=>nO e s b3 w2 ((hw2.block _ (ce (H.ent (i:=1) Z))).trans (H.ent (i:=1) Z)))) Z Z ?_
 rintro _ w14 ⟨rfl,hb⟩;replace H:=H.later hb;clear hb
 refine U<|de 6 N Z<|bo H 0 (#[J ck,J nx,J wt,.slice A2 tx2.length c2]) aF Z Z Z Z Z N N fun w15 H=>U<|de 7 N Z<|G (Wi Z)<|U<|de 8 N Z<|G (Wi Z)<|U<|cF N<|Zt ?_
 exact gE (cs0:= #[J ck,J nx,J wt,.slice A2 tx2.length c2]) (v1:=J (lL (txs.findIdx? fun p=>decide (p.name=s)))) (v2:=J 0) Z av Z (H.ent (i:=0) Z) Z Z Z ⟨⟨ck,nx,wt,tx2,A2,c2⟩,L2,lo2,hi2,rfl,by unfold Co.a;dsimp only;rw[hma],ho2,hoc2,hpc2,aU hsz0 hlo2,H.forget (.cons _ (.cons _ (.cons _ (aC _ _)))) (by simp)⟩
def i4 (s:ByteArray) (pid:Int):Tx:=⟨s,pid,0,1,[],0,0,none,0⟩
def lR (c:Co) (s:ByteArray):Co:={c with next:=c.next+1,txs:=c.txs++[i4 s c.next]}
theorem GQ (c:Co) (s:ByteArray) (w:World) (h:c.rd 0 w.heap.size w) (hok:gI c=true) (hn:bL s=true) (hi:fR c s<0) (hf:c.txs.length=8):dh aa mQ [c.v,.string s] w fun v w2=>v=.tuple #[.agg #[J 0,J 0,J 0,.slice none 0 0],J 0,J 0,J 16]/\Below w.heap.size w w2:=by
 refine aE ob Z Z ?_
 have hcap:=h.cap
 have hfew:=h.few
 have hfp:=h.fewP
 have H:=Hp.startCo h
 obtain⟨ck,nx,wt,txs,cA,cc⟩:=c
 dsimp only at hcap hfew hfp H
 show CW _ _ _ _ (args [.agg #[J ck,J nx,J wt,.slice cA txs.length cc],.string s]) w
 dsimp only at hf
 refine W<|Zr<|f7 H Z Z fun w1 b2 H=>eP H cM Z fun w2 b4 H=>G (Wi Z)<|G (Wi Z)<|G (Wi Z)<|U<|W<|Zr<|G (Zw av H 1 Z Z Z)<|G (Yt Z)<|ch ir (KD ⟨ck,nx,wt,txs,cA,cc⟩ s _ ⟨H.rd0 0 Z,fun t ht=>fE H 1 Z ht,hcap,hfew,hfp⟩ hok hn) Z Z ?_
 have hsz0:=H.size
 rintro _ w3 ⟨⟨ck2,nx2,wt2,tx2,A2,c2⟩,L2,lo2,hi2,rfl,ha2,ho2,hoc2,hpc2,hlo2,hj2⟩
 replace H:=Hp.joinF H hj2 (by intro f hf;rw[aq.1 hf];exact hlo2);clear hj2
 simp only[Co.a,Co.mk.injEq]at ha2
 obtain⟨e1,e2,e3,hma,-,-⟩:=ha2
 obtain rfl:ck=ck2:=e1.symm
 obtain rfl:nx=nx2:=e2.symm
 obtain rfl:wt=wt2:=e3.symm
 dsimp only at ho2 hoc2 hpc2 H
 have hlen2:tx2.length=txs.length:=by have:=congrArg ci hma;simpa using this
 obtain⟨b1,b2_,b3_,b4_,b5_,b6_,b7_⟩:=i8.1 hok
 dsimp only at b2_ b3_ b6_
 refine G (Yu Z)<|G (Xa Z Z)<|G (Xi Z Z)<|G (Xi Z Z)<|bo H 1 (#[J ck,J nx,J wt,.slice A2 tx2.length c2]) aF Z Z Z Z Z N N fun w4 H=>G (Wi Z)<|G (Wi Z)<|U<|W<|W<|Zr<|G (Yi Z)<|G (bZ Z Z Z)<|U<|ZF Z<|Zk<|W<|W<|Zr<|G (Yi Z)<|G (yg Z Z hi)<|U<|ZT Z<|W<|W<|Zr<|G (Zf cQ Z)<|G (Zd dL H 1 Z Z Z)<|G (br ln Z)<|G (lQ Z Z I)<|G (Yb Z)<|ZN<|ZN<|ZN<|G (Kt Z Z)<|U<|ZT Z<|W<|Zr<|G (bg (cs:= #[J 0,J 0,J 0,.slice none 0 0]) fG cM N) ?_
 refine bo H 0 (#[J 0,J 0,J 0,.slice none 0 0]) aF Z Z Z Z Z N N fun w5 H=>G (Wi Z)<|G (Wi Z)<|G (Wi Z)<|U<|Zt ?_
 exact mU (cs0:= #[J 0,J 0,J 0,.slice none 0 0]) (v1:=J 0) (v2:=J 0) (v3:=J 16) Z av Z (H.ent (i:=0) Z) Z Z Z Z ⟨rfl,H.below⟩
theorem IM (ck nx:Int): ∀ (l pre:List Tx),og ck nx pre l=og ck nx (pre.map Tx.a) (l.map Tx.a)
 |[],_=>rfl
 |t::l,pre=>by
  rw[ey]
  unfold og
  have e1:(pre.map Tx.a).any (sI t.a)=pre.any (sI t):=by rw[List.any_map];rfl
  have e2:=IM ck nx l (pre++[t])
  rw[bl]at e2
  rw[e1,e2]
  rfl
theorem s0 (c:Co):gI c=gI c.a:=by
 unfold gI
 have:=IM c.clock c.next c.txs []
 rw[this]
 unfold Co.a
 simp
theorem Hp.learnAlsoF {w0 w w':World} {L:List (Nat×Obj)} {F F0:List cB} (H0:Hp w0 w L F0) (H:Hp w0 w' L F) (f:cB) (hf:f.p w') (hlo:w.heap.size<=f.lo) (hhi:f.hi<=w'.heap.size):Hp w0 w' L (f::F):=by
 refine⟨H.below,H.ents,H.nodup,fun g hg=> ?_⟩
 rcases ax.1 hg with rfl|hg
 exact⟨hf,hhi,fun e he=> .inl (by have:=H0.ltAll e he;omega)⟩
 exact H.facts g hg
structure IH (w w2:World) (c:Co):Prop where
 below:Below w.heap.size w w2
 row:Rd rP w.heap.size w2.heap.size c.A c.txs w2
 parts: ∀ t∈c.txs,Rd bR w.heap.size w2.heap.size t.A t.parts w2
 cap:c.txs.length<=c.cap
 caps: ∀ t∈c.txs,t.parts.length<=t.cap
theorem Nx.rd {w w2:World} {ca c':Co} {L':List (Nat×Obj)} {lo hi:Nat} (h:Nx w w2 ca c' L' lo hi):IH w w2 c':=by
 obtain⟨h1,ho,hc,hcs,hlo,hj⟩:=h
 have hf:=hj.facts _ (az ..)
 have hj0:Hp w w2 L' []:=hj.forget (ar _) (by simp)
 refine⟨hj.below,ho.rd (K:=[]) (M:=[]) (by simpa using hj0),fun t ht=>Rd.mono (hf.1 t ht) hlo hf.2.1,hc,hcs⟩
theorem IH.learn {w0 w w2:World} {L:List (Nat×Obj)} {F:List cB} {c:Co} (h:IH w w2 c) (H:Hp w0 w L F):Hp w0 w2 L (iP w.heap.size w2.heap.size c.txs::dU rP w.heap.size w2.heap.size c.A c.txs::F):=
 Hp.learnAlsoF H (H.learnRd h.below h.row) (iP w.heap.size w2.heap.size c.txs) h.parts (ao _) (ao _)
def zk:Co:=⟨0,0,0,[],none,0⟩
theorem Ph {w w2:World} (hb:Below w.heap.size w w2):IH w w2 zk:=⟨hb,Rd.nil,(by intro t ht;cases ht),ao _,(by intro t ht;cases ht)⟩
/-- the parts of each producer lie in blocks of the call's own -/
def eF:List Tx->List (Nat×Obj)->Prop
 |[],L=>L=[]
 |t::ts,L=> ∃ L1 L2,L=L1++L2/\gz bR (.slice t.A t.parts.length t.cap) db t.parts L1/\eF ts L2
theorem eF.snoc {t:Tx} {L':List (Nat×Obj)} (ht:gz bR (.slice t.A t.parts.length t.cap) db t.parts L'): ∀ {ts:List Tx} {L:List (Nat×Obj)},eF ts L->eF (ts++[t]) (L++L')
 |[],_,h=>⟨L',[],by rw[show _=[]from h];simp,ht,rfl⟩
 |_::_,_,⟨L1,L2,h1,h2,h3⟩=>⟨L1,L2++L',by rw[h1,aD],h2,eF.snoc ht h3⟩
theorem eF.at_: ∀ {ts:List Tx} {L:List (Nat×Obj)} {i:Nat} {t:Tx},eF ts L->ts[i]? =some t-> ∃ La Lt Lb,L=La++Lt++Lb/\gz bR (.slice t.A t.parts.length t.cap) db t.parts Lt/\ ∀ (t':Tx) (Lt':List (Nat×Obj)),gz bR (.slice t'.A t'.parts.length t'.cap) db t'.parts Lt'->eF (ts.set i t') (La++Lt'++Lb)
 |x::ts,L,0,t,⟨L1,L2,h1,h2,h3⟩,hi=>by
  cases hi
  exact⟨[],L1,L2,by simpa using h1,h2,fun t' Lt' h'=>⟨Lt',L2,by simp,h',h3⟩⟩
 |x::ts,L,i+1,t,⟨L1,L2,h1,h2,h3⟩,hi=>by
  obtain⟨La,Lt,Lb,e,ho,hs⟩:=eF.at_ h3 (show ts[i]? =some t from hi)
  exact⟨L1++La,Lt,Lb,by rw[h1,e];simp[aD],ho,fun t' Lt' h'=>⟨L1,La++Lt'++Lb,by simp[aD],h2,hs t' Lt' h'⟩⟩
theorem eF.rd {w0 w:World} {ts:List Tx} {L:List (Nat×Obj)} (h:eF ts L) (H:Hp w0 w L []) {t:Tx} (ht:t∈ts):Rd bR w0.heap.size w.heap.size t.A t.parts w:=by
 obtain⟨i,hi⟩:=aT.1 ht
 obtain⟨La,Lt,Lb,rfl,ho,-⟩:=h.at_ hi
 exact ho.rd (K:=La) (M:=Lb) H
def qv (w w2:World) (ca c':Co) (Lr Lp:List (Nat×Obj)):Prop:=c'.a=ca/\gz rP (.slice c'.A c'.txs.length c'.cap) dF c'.txs Lr/\eF c'.txs Lp/\c'.txs.length<=c'.cap/\(∀ t∈c'.txs,t.parts.length<=t.cap)/\Hp w w2 (Lr++Lp) []
theorem qv.read {w w2:World} {ca c':Co} {Lr Lp:List (Nat×Obj)} (h:qv w w2 ca c' Lr Lp):IH w w2 c':=by
 obtain⟨_,h2,h3,h4,h5,h6⟩:=h
 refine⟨h6.below,h2.rd (K:=[]) (M:=Lp) (by simpa using h6),fun t ht=>h3.rd (h6.forget (cr _ _) (by simp)) ht,h4,h5⟩
theorem s5 (c:Co) (w:World) (h:c.rd 0 w.heap.size w):dh aa xi [c.v] w fun v w2=> ∃ (c':Co) (Lr Lp:List (Nat×Obj)),v=c'.v/\qv w w2 c.a c' Lr Lp:=by
 refine aE vH Z Z ?_
 have hcap:=h.cap
 have hfew:=h.few
 have hfp:=h.fewP
 have H:=Hp.startCo h
 obtain⟨ck,nx,wt,txs,cA,cc⟩:=c
 dsimp only at hcap hfew hfp H
 show CW _ _ _ _ (args [.agg #[J ck,J nx,J wt,.slice cA txs.length cc]]) w
 refine W<|Zr<|f7 H Z Z fun w1 b1 H=>eP H cM Z fun w2 b2 H=>U<|W<|Zr<|G (Zf cQ Z)<|G (Zd dL H 1 Z Z Z)<|ch lw (xx txs cA cc _ (H.rd0 0 Z) I) Z Z ?_
 rintro _ w3 ⟨A6,c6,L6,rfl,hc6,hm6,ho6,hj6⟩;replace H:=H.joinR hj6;clear hj6
 refine G (Zf cQ Z)<|bo H 1 (#[J ck,J nx,J wt,.slice A6 txs.length c6]) Aj Z Z Z Z Z N N fun w4 H=>U<|W<|W<|Zr<|G (Zf cQ Z)<|G (Zd dL H 1 Z Z Z)<|G (br ln Z)<|G (Yi Z)<|U<|Zb ?_
 refine cD (τ:=Nat×List Tx×Option Addr×Nat×List (Nat×Obj)) [3,11,12,13,14,15,16,17,18,19,20,21,22,23,24,25,26] (fun(k,_)=>[(11,J (k:Nat))]) (fun(k,out,A1,c1,Lp) w'=>k<=out.length/\out.length=txs.length/\out.length<=c1/\out.map Tx.a=txs.map Tx.a/\out.drop k=txs.drop k/\(∀ t∈out.take k,t.parts.length<=t.cap)/\eF (out.take k) Lp/\ ∃ L',gz rP (.slice A1 out.length c1) dF out L'/\Hp w w' ([(b2,.cells #[J 0,J 0,J 0,.slice none 0 0] bi (0,0)),(b1,.cells #[J ck,J nx,J wt,.slice A1 out.length c1] bi (0,0))]++L'++Lp) [dU rP 0 w.heap.size cA txs,iP 0 w.heap.size txs]) (fun(k,out,_)=>out.length-k) (0,txs,A6,c6,[]) ⟨by omega,rfl,hc6,rfl,rfl,by simp,rfl,L6,ho6,H⟩ (dP Z) ?_
 rintro⟨k,out,A1,c1,Lp⟩ ρ1 w5 ⟨hk,hol,hoc,hma,hdr,hpc,hpp,L1,ho,H⟩
 show CW _ _ _ _ (dH (gZ _ _ ρ1) [(11,J (k:Nat))]) w5
 refine W<|Zr ?_
 refine cW (cK Z Z) Z Z Z (fun h12=> ?_) (fun h12=> ?_)
 refine U<|W<|ZT Z<|Zk<|W<|Zb<|W ?_
 obtain⟨x,hx⟩: ∃ x,out[k]? =some x:=⟨_,ah I⟩
 have hxt:txs[k]? =some x:=by have:=congrArg (fun l=>l[0]?) hdr;simp only[dx,su]at this;rw[<-this];exact hx
 have hmem:=ab hxt
 have hfx:=(hfp x hmem).1
 obtain⟨g,cur,rfl,rfl,row⟩:=ho.row I
 refine Zr<|G (Yi Z)<|G (Wi Z)<|U ?_
 refine bA cd [0,1,2,3,4,5,6,7,8,9,10,11] [12] [9] [0,2,3,5,6,7,10,11] (sp [(9,Sp.orow w5.heap.size bR db x.parts)]) N N N N Nq (cI _) ?_
 refine aw Z Z Z Z Z (fun w' hw'=>Zf cQ Z)<|aw Z Z Z Z Z (fun w' hw'=>aW dL Z (aB ((H.later hw').ent (i:=1) Z) Z))<|aw Z Z Z Z Z (fun w' hw'=>Yi Z)<|aw Z Z Z Z Z (fun w' hw'=>Zf cQ Z)<|aw Z Z Z Z Z (fun w' hw'=>aW dL Z (aB ((H.later hw').ent (i:=1) Z) Z))<|aw Z Z Z Z Z (fun w' hw'=>Yi Z)<|aw Z Z Z Z Z (fun w' hw'=>cG gM Z Z I)<|aw Z Z Z Z Z (fun w' hw'=>Zf dz Z)<|aw Z Z Z Z Z (fun w' hw'=>bP cy row hx 4 Z ((H.later hw').ent (i:=2) Z) Z)<|yC gx Z Z Z Z Z (fun w' hw'=>hw'.size) (fun w' hw'=>s6 x.parts _ _ w' (fE (H.later hw') 1 Z hmem) I) Z fun A23 c23 hc23=>aw Z Z Z Z Z (fun w' hw'=>cG gM Z Z I)<|aw Z Z Z Z Z (fun w' hw'=>Zf dz Z)<|aV ?_
 intro w6 hw' hF
 obtain⟨hF,Aq,cq,L23,eq,hcq,hm23,ho23,he23,hn23⟩:=hF;cases eq;clear hcq
 replace H:=H.joinR (Hp.ofNew hw' he23 hn23)
 clear hw' hF
 refine k9 H 2 ({x with A:=A23,cap:=c23}) jK row hx 4 Z Z Z Z Z Z N fun w8 cur7 row7 H=>U<|Zr<|G (bw Z Z I I)<|G (Yi Z)<|U ?_
 obtain⟨z1,z2,z3⟩:=DA (x':={x with A:=A23,cap:=c23}) hx hma hdr Z
 refine⟨(k+1,out.set k {x with A:=A23,cap:=c23},some ⟨g,0,none⟩,c1,Lp++L23),⟨by rw[ae];omega,by rw[ae];exact hol,by rw[ae];exact hoc,z1,z2,?_,by rw[z3];exact hpp.snoc ho23,_,dX.own row7,?_⟩,dP Z,Qg,by show(out.set k _).length- (k+1)<out.length-k;rw[ae];omega⟩
 rw[z3];intro t ht;rcases ap.1 ht with ht|ht;exact hpc t ht;rw[aq.1 ht];exact hc23
 rw[ae];simpa using H
 have hke:k=out.length:=by omega
 rw[hke,bN]at hpp hpc
 refine U<|W<|ZF Z<|Zx<|W<|Zr<|G (Zw av H 1 Z Z Z)<|bo H 0 (#[J ck,J nx,J wt,.slice A1 out.length c1]) aF Z Z Z Z Z N N fun w9 H=>U<|Zt ?_
 exact eS (cs0:= #[J ck,J nx,J wt,.slice A1 out.length c1]) Z av Z (H.ent (i:=0) Z) Z ⟨⟨ck,nx,wt,out,A1,c1⟩,L1,Lp,rfl,by unfold Co.a;dsimp only;rw[hma],ho,hpp,hoc,hpc,H.forget (.cons _ (.cons _ (ar _))) (by simp)⟩
theorem rm {txs tx2:List Tx} (h:tx2.map Tx.a=txs.map Tx.a) {i:Nat} {t:Tx} (ht:txs[i]? =some t): ∃ t2,tx2[i]? =some t2/\t2.a=t.a:=by
 have h1:=congrArg (fun l=>l[i]?) h
 simp only[aL,ht,eY]at h1
 cases h2:tx2[i]? with
 |none=>rw[h2]at h1;cases h1
 |some t2=>rw[h2]at h1;exact⟨t2,rfl,by simpa using h1⟩
theorem lS (c:Co) (s:ByteArray) (w:World) (h:c.rd 0 w.heap.size w) (hok:gI c=true) (hn:bL s=true):dh aa xf [c.v,.string s] w fun v w2=> ∃ (c':Co) (Lr Lp:List (Nat×Obj)),v=.tuple #[c'.v,J (fR c s),J 0]/\qv w w2 c.a c' Lr Lp:=by
 refine aE vF Z Z ?_
 have hcap:=h.cap
 have hfew:=h.few
 have hfp:=h.fewP
 have H:=Hp.startCo h
 obtain⟨ck,nx,wt,txs,cA,cc⟩:=c
 dsimp only at hcap hfew hfp H
 show CW _ _ _ _ (args [.agg #[J ck,J nx,J wt,.slice cA txs.length cc],.string s]) w
 refine W<|Zr<|f7 H Z Z fun w1 b2 H=>Ri H Z Z fun w2 b3 H=>eP H cM Z fun w3 b4 H=>G (Wi Z)<|G (Wi Z)<|U<|W<|W<|Zr<|G (Zw av H 2 Z Z Z)<|ch kH (qp ⟨ck,nx,wt,txs,cA,cc⟩ _ ⟨H.rd0 0 Z,fun t ht=>fE H 1 Z ht,hcap,hfew,hfp⟩) Z Z ?_
 rw[hok]
 rintro _ w4 ⟨rfl,hb⟩;replace H:=H.later hb;clear hb
 refine G (Wi Z)<|U<|W<|Zr<|G (Yi Z)<|G (bZ Z Z Z)<|U<|ZF Z<|Zk<|W<|W<|Zr<|G (Zd bd H 1 Z Z Z)<|ch rO (Eh s _) Z Z ?_
 rw[hn]
 rintro _ w5 ⟨rfl,hb⟩;replace H:=H.later hb;clear hb
 refine G (dM Z)<|U<|ZF Z<|Zk<|W ?_
 refine qW cd [2,4] [0,1,3,5,6,7,8] [2,4] 7 N N N Nq ?_
 refine aw Z Z Z Z Z (fun w' hw'=>Zf cQ Z)<|aw Z Z Z Z Z (fun w' hw'=>AB Z)<|aV ?_
 intro w6 hw';replace H:=H.later hw';clear hw'
 refine tH 0 3 N Z Z ?_ ?_
 refine G (Zw av H 2 Z Z Z)<|U ?_
 refine tH 1 3 N Z Z ?_ ?_
 refine ch je (s5 ⟨ck,nx,wt,txs,cA,cc⟩ _ ⟨H.rd0 0 Z,fun t ht=>fE H 1 Z ht,hcap,hfew,hfp⟩) Z Z ?_
 rintro _ w7 ⟨⟨ck2,nx2,wt2,tx2,A2,c2⟩,Lr,Lp,rfl,ha2,ho2,hp2,hoc2,hpc2,hj2⟩
 replace H:=H.joinR hj2;clear hj2
 simp only[Co.a,Co.mk.injEq]at ha2
 obtain⟨e1,e2,e3,hma,-,-⟩:=ha2
 obtain rfl:ck=ck2:=e1.symm
 obtain rfl:nx=nx2:=e2.symm
 obtain rfl:wt=wt2:=e3.symm
 dsimp only at ho2 hp2 hoc2 hpc2 H
 refine U<|de 3 N Z<|G (Zd dL H 2 Z Z Z)<|U<|de 5 N Z<|ch dE (gf txs cA cc _ (H.rd0 0 Z) I gU [.pointer (Qd b3)] iw (fun p=>decide (p.name=s)) (fun e w2 _ hw2=>nO e s b3 w2 ((hw2.block _ (ce (H.ent (i:=1) Z))).trans (H.ent (i:=1) Z)))) Z Z ?_
 rintro _ w8 ⟨rfl,hb⟩;replace H:=H.later hb;clear hb
 refine U<|de 6 N Z<|bo H 0 (#[J ck,J nx,J wt,.slice A2 tx2.length c2]) aF Z Z Z Z Z N N fun w9 H=>U<|de 7 N Z<|G (Wi Z)<|U<|de 8 N Z<|G (Wi Z)<|U<|cF N<|Zt ?_
 exact gE (cs0:= #[J ck,J nx,J wt,.slice A2 tx2.length c2]) (v1:=J (lL (txs.findIdx? fun p=>decide (p.name=s)))) (v2:=J 0) Z av Z (H.ent (i:=0) Z) Z Z Z ⟨⟨ck,nx,wt,tx2,A2,c2⟩,Lr,Lp,rfl,by unfold Co.a;dsimp only;rw[hma],ho2,hp2,hoc2,hpc2,H.forget (.cons _ (.cons _ (.cons _ (aC _ _)))) (by simp)⟩
 refine G (Zd dL H 2 Z Z Z)<|U<|de 1 N Z<|ch je (s5 ⟨ck,nx,wt,txs,cA,cc⟩ _ ⟨H.rd0 0 Z,fun t ht=>fE H 1 Z ht,hcap,hfew,hfp⟩) Z Z ?_
 rintro _ w10 ⟨⟨ck2,nx2,wt2,tx2,A2,c2⟩,Lr,Lp,rfl,ha2,ho2,hp2,hoc2,hpc2,hj2⟩
 replace H:=H.joinR hj2;clear hj2
 simp only[Co.a,Co.mk.injEq]at ha2
 obtain⟨e1,e2,e3,hma,-,-⟩:=ha2
 obtain rfl:ck=ck2:=e1.symm
 obtain rfl:nx=nx2:=e2.symm
 obtain rfl:wt=wt2:=e3.symm
 dsimp only at ho2 hp2 hoc2 hpc2 H
 refine U<|de 5 N Z<|ch dE (gf txs cA cc _ (H.rd0 0 Z) I gU [.pointer (Qd b3)] iw (fun p=>decide (p.name=s)) (fun e w2 _ hw2=>nO e s b3 w2 ((hw2.block _ (ce (H.ent (i:=1) Z))).trans (H.ent (i:=1) Z)))) Z Z ?_
 rintro _ w11 ⟨rfl,hb⟩;replace H:=H.later hb;clear hb
 refine U<|de 6 N Z<|bo H 0 (#[J ck,J nx,J wt,.slice A2 tx2.length c2]) aF Z Z Z Z Z N N fun w12 H=>U<|de 7 N Z<|G (Wi Z)<|U<|de 8 N Z<|G (Wi Z)<|U<|cF N<|Zt ?_
 exact gE (cs0:= #[J ck,J nx,J wt,.slice A2 tx2.length c2]) (v1:=J (lL (txs.findIdx? fun p=>decide (p.name=s)))) (v2:=J 0) Z av Z (H.ent (i:=0) Z) Z Z Z ⟨⟨ck,nx,wt,tx2,A2,c2⟩,Lr,Lp,rfl,by unfold Co.a;dsimp only;rw[hma],ho2,hp2,hoc2,hpc2,H.forget (.cons _ (.cons _ (.cons _ (aC _ _)))) (by simp)⟩
 refine G (Zd dL H 2 Z Z Z)<|U<|de 0 N Z<|G (Zw av H 2 Z Z Z)<|U<|de 1 N Z<|ch je (s5 ⟨ck,nx,wt,txs,cA,cc⟩ _ ⟨H.rd0 0 Z,fun t ht=>fE H 1 Z ht,hcap,hfew,hfp⟩) Z Z ?_
 rintro _ w13 ⟨⟨ck2,nx2,wt2,tx2,A2,c2⟩,Lr,Lp,rfl,ha2,ho2,hp2,hoc2,hpc2,hj2⟩
 replace H:=H.joinR hj2;clear hj2
 simp only[Co.a,Co.mk.injEq]at ha2
 obtain⟨e1,e2,e3,hma,-,-⟩:=ha2
 obtain rfl:ck=ck2:=e1.symm
 obtain rfl:nx=nx2:=e2.symm
 obtain rfl:wt=wt2:=e3.symm
 dsimp only at ho2 hp2 hoc2 hpc2 H
 refine U<|de 5 N Z<|ch dE (gf txs cA cc _ (H.rd0 0 Z) I gU [.pointer (Qd b3)] iw (fun p=>decide (p.name=s)) (fun e w2 _ hw2=>nO e s b3 w2 ((hw2.block _ (ce (H.ent (i:=1) Z))).trans (H.ent (i:=1) Z)))) Z Z ?_
 rintro _ w14 ⟨rfl,hb⟩;replace H:=H.later hb;clear hb
 refine U<|de 6 N Z<|bo H 0 (#[J ck,J nx,J wt,.slice A2 tx2.length c2]) aF Z Z Z Z Z N N fun w15 H=>U<|de 7 N Z<|G (Wi Z)<|U<|de 8 N Z<|G (Wi Z)<|U<|cF N<|Zt ?_
 exact gE (cs0:= #[J ck,J nx,J wt,.slice A2 tx2.length c2]) (v1:=J (lL (txs.findIdx? fun p=>decide (p.name=s)))) (v2:=J 0) Z av Z (H.ent (i:=0) Z) Z Z Z ⟨⟨ck,nx,wt,tx2,A2,c2⟩,Lr,Lp,rfl,by unfold Co.a;dsimp only;rw[hma],ho2,hp2,hoc2,hpc2,H.forget (.cons _ (.cons _ (.cons _ (aC _ _)))) (by simp)⟩
theorem AS (c:Co) (s:ByteArray) (ver:Int) (w:World) (h:c.rd 0 w.heap.size w) (hok:gI c=true) (hn:bL s=true) (hi:fR c s= -1):dh aa rB [c.v,.string s,J ver] w fun v w2=>v=.tuple #[.agg #[J 0,J 0,J 0,.slice none 0 0],J 0,J 5]/\Below w.heap.size w w2:=by
 refine aE ql Z Z ?_
 have hcap:=h.cap
 have hfew:=h.few
 have hfp:=h.fewP
 have H:=Hp.startCo h
 obtain⟨ck,nx,wt,txs,cA,cc⟩:=c
 dsimp only at hcap hfew hfp H
 show CW _ _ _ _ (args [.agg #[J ck,J nx,J wt,.slice cA txs.length cc],.string s,J ver]) w
 refine W<|Zr<|f7 H Z Z fun w1 b3 H=>eP H cM Z fun w2 b6 H=>G (Wi Z)<|G (Wi Z)<|U<|W<|Zr<|G (Zw av H 1 Z Z Z)<|G (Yt Z)<|ch ir (lS ⟨ck,nx,wt,txs,cA,cc⟩ s _ ⟨H.rd0 0 Z,fun t ht=>fE H 1 Z ht,hcap,hfew,hfp⟩ hok hn) Z Z ?_
 rintro _ w3 ⟨⟨ck2,nx2,wt2,tx2,A2,c2⟩,Lr,Lp,rfl,ha2,ho2,hp2,hoc2,hpc2,hj2⟩
 replace H:=H.joinR hj2;clear hj2
 simp only[Co.a,Co.mk.injEq]at ha2
 obtain⟨e1,e2,e3,hma,-,-⟩:=ha2
 obtain rfl:ck=ck2:=e1.symm
 obtain rfl:nx=nx2:=e2.symm
 obtain rfl:wt=wt2:=e3.symm
 dsimp only at ho2 hp2 hoc2 hpc2 H
 rw[hi]
 refine G (Yu Z)<|G (Xa Z Z)<|G (Xi Z Z)<|G (Xi Z Z)<|bo H 1 (#[J ck,J nx,J wt,.slice A2 tx2.length c2]) aF Z Z Z Z Z N N fun w4 H=>G (Wi Z)<|G (Wi Z)<|U<|W<|Zb<|W<|Zr<|G (Yi Z)<|G (bZ Z Z Z)<|G (Wb Z)<|U<|ZF Z<|W<|Zr<|G (Yi Z)<|G (yg Z Z (by decide))<|G (Wb Z)<|U<|ZT Z<|W<|Zr<|G (bg (cs:= #[J 0,J 0,J 0,.slice none 0 0]) fG cM N)<|bo H 0 (#[J 0,J 0,J 0,.slice none 0 0]) aF Z Z Z Z Z N N fun w5 H=>G (Wi Z)<|G (Wi Z)<|U<|Zt ?_
 exact gE (cs0:= #[J 0,J 0,J 0,.slice none 0 0]) (v1:=J 0) (v2:=J 5) Z av Z (H.ent (i:=0) Z) Z Z Z ⟨rfl,H.below⟩
theorem yV (c:Co) (s:ByteArray) (ver:Int) (i:Nat) (t:Tx) (w:World) (h:c.rd 0 w.heap.size w) (hok:gI c=true) (hn:bL s=true) (hi:fR c s=i) (ht:c.txs[i]? =some t) (hv:t.ver≠ver):dh aa rB [c.v,.string s,J ver] w fun v w2=>v=.tuple #[.agg #[J 0,J 0,J 0,.slice none 0 0],J 0,J 10]/\Below w.heap.size w w2:=by
 refine aE ql Z Z ?_
 have hcap:=h.cap
 have hfew:=h.few
 have hfp:=h.fewP
 have H:=Hp.startCo h
 obtain⟨ck,nx,wt,txs,cA,cc⟩:=c
 dsimp only at hcap hfew hfp H
 show CW _ _ _ _ (args [.agg #[J ck,J nx,J wt,.slice cA txs.length cc],.string s,J ver]) w
 dsimp only at ht
 refine W<|Zr<|f7 H Z Z fun w1 b3 H=>eP H cM Z fun w2 b6 H=>G (Wi Z)<|G (Wi Z)<|U<|W<|Zr<|G (Zw av H 1 Z Z Z)<|G (Yt Z)<|ch ir (lS ⟨ck,nx,wt,txs,cA,cc⟩ s _ ⟨H.rd0 0 Z,fun t ht=>fE H 1 Z ht,hcap,hfew,hfp⟩ hok hn) Z Z ?_
 rintro _ w3 ⟨⟨ck2,nx2,wt2,tx2,A2,c2⟩,Lr,Lp,rfl,ha2,ho2,hp2,hoc2,hpc2,hj2⟩
 replace H:=H.joinR hj2;clear hj2
 simp only[Co.a,Co.mk.injEq]at ha2
 obtain⟨e1,e2,e3,hma,-,-⟩:=ha2
 obtain rfl:ck=ck2:=e1.symm
 obtain rfl:nx=nx2:=e2.symm
 obtain rfl:wt=wt2:=e3.symm
 dsimp only at ho2 hp2 hoc2 hpc2 H
 rw[hi]
 refine G (Yu Z)<|G (Xa Z Z)<|G (Xi Z Z)<|G (Xi Z Z)<|bo H 1 (#[J ck,J nx,J wt,.slice A2 tx2.length c2]) aF Z Z Z Z Z N N fun w4 H=>G (Wi Z)<|G (Wi Z)<|U<|W<|Zb<|W<|Zr<|G (Yi Z)<|G (bZ Z Z Z)<|G (Wb Z)<|U<|ZF Z<|W<|Zr<|G (Yi Z)<|G (dd Z Z I)<|G (Wb Z)<|U<|ZF Z<|W ?_
 obtain⟨t2,ht2,hta⟩:=rm hma ht
 have hl2:=(cC ht2).1
 obtain⟨g,cur,rfl,rfl,row⟩:=ho2.row I
 have hver:t2.ver=t.ver:=by show t2.a.ver=t.a.ver;rw[hta]
 refine Zr<|G (Zf cQ Z)<|G (Zd dL H 1 Z Z Z)<|G (Yi Z)<|G (cG gM Z Z I)<|G (Zf gF Z)<|G (bP ak row ht2 2 Z (H.ent (i:=2) Z) Z)<|G (Yi Z)<|G (kh Z Z I)<|G (Wb Z)<|U<|ZT Z<|W<|Zr<|G (bg (cs:= #[J 0,J 0,J 0,.slice none 0 0]) fG cM N)<|bo H 0 (#[J 0,J 0,J 0,.slice none 0 0]) aF Z Z Z Z Z N N fun w5 H=>G (Wi Z)<|G (Wi Z)<|U<|Zt ?_
 exact gE (cs0:= #[J 0,J 0,J 0,.slice none 0 0]) (v1:=J 0) (v2:=J 10) Z av Z (H.ent (i:=0) Z) Z Z Z ⟨rfl,H.below⟩
theorem wZ (c:Co) (s:ByteArray) (ver:Int) (i:Nat) (t:Tx) (w:World) (h:c.rd 0 w.heap.size w) (hok:gI c=true) (hn:bL s=true) (hi:fR c s=i) (ht:c.txs[i]? =some t) (hv:t.ver=ver):dh aa rB [c.v,.string s,J ver] w fun v w2=> ∃ (c':Co) (Lr Lp:List (Nat×Obj)),v=.tuple #[c'.v,J (i:Nat),J 0]/\qv w w2 c.a c' Lr Lp:=by
 refine aE ql Z Z ?_
 have hcap:=h.cap
 have hfew:=h.few
 have hfp:=h.fewP
 have H:=Hp.startCo h
 obtain⟨ck,nx,wt,txs,cA,cc⟩:=c
 dsimp only at hcap hfew hfp H
 show CW _ _ _ _ (args [.agg #[J ck,J nx,J wt,.slice cA txs.length cc],.string s,J ver]) w
 dsimp only at ht
 refine W<|Zr<|f7 H Z Z fun w1 b3 H=>eP H cM Z fun w2 b6 H=>G (Wi Z)<|G (Wi Z)<|U<|W<|Zr<|G (Zw av H 1 Z Z Z)<|G (Yt Z)<|ch ir (lS ⟨ck,nx,wt,txs,cA,cc⟩ s _ ⟨H.rd0 0 Z,fun t ht=>fE H 1 Z ht,hcap,hfew,hfp⟩ hok hn) Z Z ?_
 rintro _ w3 ⟨⟨ck2,nx2,wt2,tx2,A2,c2⟩,Lr,Lp,rfl,ha2,ho2,hp2,hoc2,hpc2,hj2⟩
 replace H:=H.joinR hj2;clear hj2
 simp only[Co.a,Co.mk.injEq]at ha2
 obtain⟨e1,e2,e3,hma,-,-⟩:=ha2
 obtain rfl:ck=ck2:=e1.symm
 obtain rfl:nx=nx2:=e2.symm
 obtain rfl:wt=wt2:=e3.symm
 dsimp only at ho2 hp2 hoc2 hpc2 H
 rw[hi]
 refine G (Yu Z)<|G (Xa Z Z)<|G (Xi Z Z)<|G (Xi Z Z)<|bo H 1 (#[J ck,J nx,J wt,.slice A2 tx2.length c2]) aF Z Z Z Z Z N N fun w4 H=>G (Wi Z)<|G (Wi Z)<|U<|W<|Zb<|W<|Zr<|G (Yi Z)<|G (bZ Z Z Z)<|G (Wb Z)<|U<|ZF Z<|W<|Zr<|G (Yi Z)<|G (dd Z Z I)<|G (Wb Z)<|U<|ZF Z<|W ?_
 obtain⟨t2,ht2,hta⟩:=rm hma ht
 have hl2:=(cC ht2).1
 obtain⟨g,cur,rfl,rfl,row⟩:=ho2.row I
 have hver:t2.ver=t.ver:=by show t2.a.ver=t.a.ver;rw[hta]
 refine Zr<|G (Zf cQ Z)<|G (Zd dL H 1 Z Z Z)<|G (Yi Z)<|G (cG gM Z Z I)<|G (Zf gF Z)<|G (bP ak row ht2 2 Z (H.ent (i:=2) Z) Z)<|G (Yi Z)<|G (bZ Z Z I)<|G (Wb Z)<|U<|ZF Z<|Zk<|W<|Zr<|G (Zw av H 1 Z Z Z)<|G (Yi Z)<|bo H 0 (#[J ck,J nx,J wt,.slice (Qd g) tx2.length c2]) aF Z Z Z Z Z N N fun w5 H=>G (Wi Z)<|G (Wi Z)<|U<|Zt ?_
 exact gE (cs0:= #[J ck,J nx,J wt,.slice (Qd g) tx2.length c2]) (v1:=J (i:Nat)) (v2:=J 0) Z av Z (H.ent (i:=0) Z) Z Z Z ⟨⟨ck,nx,wt,tx2,some ⟨g,0,none⟩,c2⟩,[(g,.cells cur dF (0,0))],Lp,rfl,by unfold Co.a;dsimp only;rw[hma],dX.own row,hp2,hoc2,hpc2,H.forget (.cons _ (.cons _ (aC _ _))) (by simp)⟩
/-- P5.5 -/
def eE (want:Int) (t:Tx):Option Tx:=if t.state=2 then some {t with state:=want}else if t.state=1/\t.done=0 then some {t with done:=want}else if t.state=want∨(t.state=1/\t.done=want)then some t else none
def vY (commit:Bool):Int:=if commit then 3 else 4
theorem eF.same {ts:List Tx} {L:List (Nat×Obj)} {i:Nat} {t t':Tx} (h:eF ts L) (hi:ts[i]? =some t) (h1:t'.A=t.A) (h2:t'.parts=t.parts) (h3:t'.cap=t.cap):eF (ts.set i t') L:=by
 obtain⟨La,Lt,Lb,rfl,ho,hs⟩:=h.at_ hi
 exact hs t' Lt (by rw[h1,h2,h3];exact ho)
theorem Jj {t t':Tx} (h:t'.a=t.a) (v:Int):({t' with state:=v}:Tx).a=({t with state:=v}:Tx).a:=congrArg (fun x:Tx=>({x with state:=v}:Tx)) h
theorem Nv {t t':Tx} (h:t'.a=t.a) (v:Int):({t' with done:=v}:Tx).a=({t with done:=v}:Tx).a:=congrArg (fun x:Tx=>({x with done:=v}:Tx)) h
theorem pq {txs tx2:List Tx} (h:tx2.map Tx.a=txs.map Tx.a) (i:Nat) {t t':Tx} (ht:t'.a=t.a):(tx2.set i t').map Tx.a=(txs.set i t).map Tx.a:=by rw[cE,cE,h,ht]
theorem sf {ts:List Tx} (h: ∀ t∈ts,t.parts.length<=t.cap) {i:Nat} {t t':Tx} (hi:ts[i]? =some t) (h2:t'.parts=t.parts) (h3:t'.cap=t.cap): ∀ x∈ts.set i t',x.parts.length<=x.cap:=fun x hx=>by
 rcases aM hx with hx|rfl
 exact h x hx
 rw[h2,h3];exact h t (ab hi)
theorem M0 (c:Co) (s:ByteArray) (ver:Int) (i:Nat) (t:Tx) (w:World) (h:c.rd 0 w.heap.size w) (hok:gI c=true) (hn:bL s=true) (hi:fR c s=i) (ht:c.txs[i]? =some t) (hv:t.ver=ver):dh aa l8 [c.v,.string s,J ver,.bool true] w fun v w2=>match eE 3 t with|none=>v=.tuple #[.agg #[J 0,J 0,J 0,.slice none 0 0],J 12]/\Below w.heap.size w w2|some t'=> ∃ (c':Co) (Lr Lp:List (Nat×Obj)),v=.tuple #[c'.v,J 0]/\qv w w2 (Co.a {c with txs:=c.txs.set i t'}) c' Lr Lp:=by
 refine aE pS Z Z ?_
 have hcap:=h.cap
 have hfew:=h.few
 have hfp:=h.fewP
 have H:=Hp.startCo h
 obtain⟨ck,nx,wt,txs,cA,cc⟩:=c
 dsimp only at hcap hfew hfp H
 show CW _ _ _ _ (args [.agg #[J ck,J nx,J wt,.slice cA txs.length cc],.string s,J ver,.bool true]) w
 dsimp only at ht⊢
 refine W<|Zr<|f7 H Z Z fun w1 b4 H=>eP H cM Z fun w2 b8 H=>G (Wi Z)<|U<|W<|Zr<|G (Zw av H 1 Z Z Z)<|G (Yt Z)<|G (Yi Z)<|ch gK (wZ ⟨ck,nx,wt,txs,cA,cc⟩ s ver i t _ ⟨H.rd0 0 Z,fun t ht=>fE H 1 Z ht,hcap,hfew,hfp⟩ hok hn hi ht hv) Z Z ?_
 rintro _ w3 ⟨⟨ck2,nx2,wt2,tx2,A2,c2⟩,Lr,Lp,rfl,ha2,ho2,hp2,hoc2,hpc2,hj2⟩
 replace H:=H.joinR hj2;clear hj2
 simp only[Co.a,Co.mk.injEq]at ha2
 obtain⟨e1,e2,e3,hma,-,-⟩:=ha2
 obtain rfl:ck=ck2:=e1.symm
 obtain rfl:nx=nx2:=e2.symm
 obtain rfl:wt=wt2:=e3.symm
 dsimp only at ho2 hp2 hoc2 hpc2 H
 refine G (Yu Z)<|G (Xa Z Z)<|G (Xi Z Z)<|G (Xi Z Z)<|bo H 1 (#[J ck,J nx,J wt,.slice A2 tx2.length c2]) aF Z Z Z Z Z N N fun w4 H=>G (Wi Z)<|G (Wi Z)<|U<|W<|W<|Zr<|G (Yi Z)<|G (bZ Z Z Z)<|U<|ZF Z<|Zk<|W<|Zr<|G (Wi Z)<|U<|W<|W<|Zr<|G (Yb Z)<|U<|ZT Z<|Zr<|G (Wi Z)<|U<|W<|W ?_
 obtain⟨t2,ht2,hta⟩:=rm hma ht
 have hl2:=(cC ht2).1
 obtain⟨g,cur,rfl,rfl,row⟩:=ho2.row I
 have hst:t2.state=t.state:=by show t2.a.state=t.a.state;rw[hta]
 have hdn:t2.done=t.done:=by show t2.a.done=t.a.done;rw[hta]
 refine Zr<|G (Zf cQ Z)<|G (Zd dL H 1 Z Z Z)<|G (Yi Z)<|G (cG gM Z Z I)<|G (Wp Z)<|U<|Zb<|W<|Zr<|G (Yp Z)<|G (aJ Z)<|G (Zf cS Z)<|G (bP ak row ht2 3 Z (H.ent (i:=2) Z) Z) ?_
 refine cW (bn Z Z) Z Z Z (fun h37=> ?_) (fun h37=> ?_)
 refine G (Wb Z)<|U<|ZT Z<|Zr<|G (Yp Z)<|G (Yi Z)<|G (aJ Z)<|G (Zf cS Z)<|k9 H 2 ({t2 with state:=3}) bH row ht2 3 Z Z Z Z Z Z N fun w6 cur5 row5 H=>U<|W<|Zr<|G (Zw av H 1 Z Z Z)<|bo H 0 (#[J ck,J nx,J wt,.slice (Qd g) tx2.length c2]) aF Z Z Z Z Z N N fun w7 H=>G (Wi Z)<|U<|Zt ?_
 have hE:eE 3 t=some {t with state:=3}:=by unfold eE;rw[if_pos I]
 rw[hE]
 dsimp only
 exact bE (cs0:= #[J ck,J nx,J wt,.slice (Qd g) tx2.length c2]) (v1:=J 0) Z av Z (H.ent (i:=0) Z) Z Z ⟨⟨ck,nx,wt,(tx2.set i {t2 with state:=3}),some ⟨g,0,none⟩,c2⟩,[(g,.cells cur5 dF (0,0))],Lp,by unfold Co.v Co.c;dsimp only;rw[ae],by unfold Co.a;dsimp only;rw[pq hma i (Jj hta _)],dX.own row5,hp2.same ht2 Z Z Z,by dsimp only;rw[ae];exact hoc2,sf hpc2 ht2 Z Z,H.forget (.cons _ (.cons _ (aC _ _))) (by simp)⟩
 refine G (Wb Z)<|U<|ZF Z<|W<|Zr<|G (Yp Z)<|G (aJ Z)<|G (Zf cS Z)<|G (bP ak row ht2 3 Z (H.ent (i:=2) Z) Z) ?_
 refine cW (bn Z Z) Z Z Z (fun h47=> ?_) (fun h47=> ?_)
 refine G (Yb Z)<|ZG<|G (Yp Z)<|ZG<|G (aJ Z)<|ZG<|G (Zf jq Z)<|ZG<|G (bP ak row ht2 6 Z (H.ent (i:=2) Z) Z)<|ZG ?_
 refine cW (bn Z Z) Z Z Z (fun h53=> ?_) (fun h53=> ?_)
 refine G (Kt Z Z)<|G (Wb Z)<|U<|ZT Z<|Zr<|G (Yp Z)<|G (Yi Z)<|G (aJ Z)<|G (Zf jq Z)<|k9 H 2 ({t2 with done:=3}) bH row ht2 6 Z Z Z Z Z Z N fun w9 cur8 row8 H=>U<|W<|Zr<|G (Zw av H 1 Z Z Z)<|bo H 0 (#[J ck,J nx,J wt,.slice (Qd g) tx2.length c2]) aF Z Z Z Z Z N N fun w10 H=>G (Wi Z)<|U<|Zt ?_
 have hE:eE 3 t=some {t with done:=3}:=by unfold eE;rw[if_neg I,if_pos I]
 rw[hE]
 dsimp only
 exact bE (cs0:= #[J ck,J nx,J wt,.slice (Qd g) tx2.length c2]) (v1:=J 0) Z av Z (H.ent (i:=0) Z) Z Z ⟨⟨ck,nx,wt,(tx2.set i {t2 with done:=3}),some ⟨g,0,none⟩,c2⟩,[(g,.cells cur8 dF (0,0))],Lp,by unfold Co.v Co.c;dsimp only;rw[ae],by unfold Co.a;dsimp only;rw[pq hma i (Nv hta _)],dX.own row8,hp2.same ht2 Z Z Z,by dsimp only;rw[ae];exact hoc2,sf hpc2 ht2 Z Z,H.forget (.cons _ (.cons _ (aC _ _))) (by simp)⟩
 refine G (Kt Z Z)<|G (Wb Z)<|U<|ZF Z<|W<|W<|Zr<|G (Yp Z)<|G (aJ Z)<|G (Zf cS Z)<|G (bP ak row ht2 3 Z (H.ent (i:=2) Z) Z)<|G (Yi Z) ?_
 refine cW (bn Z Z) Z Z Z (fun h65=> ?_) (fun h65=> ?_)
 refine G (Wb Z)<|U<|ZT Z<|Zk<|ZT Z<|Zk<|W<|Zr<|G (Zw av H 1 Z Z Z)<|bo H 0 (#[J ck,J nx,J wt,.slice (Qd g) tx2.length c2]) aF Z Z Z Z Z N N fun w11 H=>G (Wi Z)<|U<|Zt ?_
 have hE:eE 3 t=some t:=by unfold eE;rw[if_neg I,if_neg I,if_pos I]
 rw[hE]
 dsimp only
 exact bE (cs0:= #[J ck,J nx,J wt,.slice (Qd g) tx2.length c2]) (v1:=J 0) Z av Z (H.ent (i:=0) Z) Z Z ⟨⟨ck,nx,wt,tx2,some ⟨g,0,none⟩,c2⟩,[(g,.cells cur dF (0,0))],Lp,rfl,by unfold Co.a;dsimp only;rw[iW ht,hma],dX.own row,hp2,hoc2,hpc2,H.forget (.cons _ (.cons _ (aC _ _))) (by simp)⟩
 refine G (Wb Z)<|U<|ZF Z<|Zr<|G (Yp Z)<|G (aJ Z)<|G (Zf cS Z)<|G (bP ak row ht2 3 Z (H.ent (i:=2) Z) Z) ?_
 refine cW (bn Z Z) Z Z Z (fun h70=> ?_) (fun h70=> ?_)
 refine G (Yb Z)<|ZG<|G (Yp Z)<|ZG<|G (aJ Z)<|ZG<|G (Zf jq Z)<|ZG<|G (bP ak row ht2 6 Z (H.ent (i:=2) Z) Z)<|ZG<|G (Yi Z)<|ZG ?_
 refine cW (bn Z Z) Z Z Z (fun h77=> ?_) (fun h77=> ?_)
 refine G (Kt Z Z)<|G (Wb Z)<|U<|ZT Z<|Zk<|W<|Zr<|G (Zw av H 1 Z Z Z)<|bo H 0 (#[J ck,J nx,J wt,.slice (Qd g) tx2.length c2]) aF Z Z Z Z Z N N fun w12 H=>G (Wi Z)<|U<|Zt ?_
 have hE:eE 3 t=some t:=by unfold eE;rw[if_neg I,if_neg I,if_pos I]
 rw[hE]
 dsimp only
 exact bE (cs0:= #[J ck,J nx,J wt,.slice (Qd g) tx2.length c2]) (v1:=J 0) Z av Z (H.ent (i:=0) Z) Z Z ⟨⟨ck,nx,wt,tx2,some ⟨g,0,none⟩,c2⟩,[(g,.cells cur dF (0,0))],Lp,rfl,by unfold Co.a;dsimp only;rw[iW ht,hma],dX.own row,hp2,hoc2,hpc2,H.forget (.cons _ (.cons _ (aC _ _))) (by simp)⟩
 refine G (Kt Z Z)<|G (Wb Z)<|U<|ZF Z<|W<|Zr<|G (bg (cs:= #[J 0,J 0,J 0,.slice none 0 0]) fG cM N)<|bo H 0 (#[J 0,J 0,J 0,.slice none 0 0]) aF Z Z Z Z Z N N fun w13 H=>G (Wi Z)<|U<|Zt ?_
 have hE:eE 3 t=none:=by unfold eE;rw[if_neg I,if_neg I,if_neg I]
 rw[hE]
 dsimp only
 exact bE (cs0:= #[J 0,J 0,J 0,.slice none 0 0]) (v1:=J 12) Z av Z (H.ent (i:=0) Z) Z Z ⟨rfl,H.below⟩
 refine G (Yb Z)<|ZN<|ZN<|ZN<|ZN<|ZN<|ZN<|G (N Z Z)<|G (Wb Z)<|U<|ZF Z<|W<|Zr<|G (bg (cs:= #[J 0,J 0,J 0,.slice none 0 0]) fG cM N)<|bo H 0 (#[J 0,J 0,J 0,.slice none 0 0]) aF Z Z Z Z Z N N fun w14 H=>G (Wi Z)<|U<|Zt ?_
 have hE:eE 3 t=none:=by unfold eE;rw[if_neg I,if_neg I,if_neg I]
 rw[hE]
 dsimp only
 exact bE (cs0:= #[J 0,J 0,J 0,.slice none 0 0]) (v1:=J 12) Z av Z (H.ent (i:=0) Z) Z Z ⟨rfl,H.below⟩
 refine G (Yb Z)<|ZN<|ZN<|ZN<|ZN<|ZN<|G (N Z Z)<|G (Wb Z)<|U<|ZF Z<|W<|W<|Zr<|G (Yp Z)<|G (aJ Z)<|G (Zf cS Z)<|G (bP ak row ht2 3 Z (H.ent (i:=2) Z) Z)<|G (Yi Z) ?_
 refine cW (bn Z Z) Z Z Z (fun h65=> ?_) (fun h65=> ?_)
 refine G (Wb Z)<|U<|ZT Z<|Zk<|ZT Z<|Zk<|W<|Zr<|G (Zw av H 1 Z Z Z)<|bo H 0 (#[J ck,J nx,J wt,.slice (Qd g) tx2.length c2]) aF Z Z Z Z Z N N fun w15 H=>G (Wi Z)<|U<|Zt ?_
 have hE:eE 3 t=some t:=by unfold eE;rw[if_neg I,if_neg I,if_pos I]
 rw[hE]
 dsimp only
 exact bE (cs0:= #[J ck,J nx,J wt,.slice (Qd g) tx2.length c2]) (v1:=J 0) Z av Z (H.ent (i:=0) Z) Z Z ⟨⟨ck,nx,wt,tx2,some ⟨g,0,none⟩,c2⟩,[(g,.cells cur dF (0,0))],Lp,rfl,by unfold Co.a;dsimp only;rw[iW ht,hma],dX.own row,hp2,hoc2,hpc2,H.forget (.cons _ (.cons _ (aC _ _))) (by simp)⟩
 refine G (Wb Z)<|U<|ZF Z<|Zr<|G (Yp Z)<|G (aJ Z)<|G (Zf cS Z)<|G (bP ak row ht2 3 Z (H.ent (i:=2) Z) Z) ?_
 refine cW (bn Z Z) Z Z Z (fun h70=> ?_) (fun h70=> ?_)
 refine G (Yb Z)<|ZG<|G (Yp Z)<|ZG<|G (aJ Z)<|ZG<|G (Zf jq Z)<|ZG<|G (bP ak row ht2 6 Z (H.ent (i:=2) Z) Z)<|ZG<|G (Yi Z)<|ZG ?_
 refine cW (bn Z Z) Z Z Z (fun h77=> ?_) (fun h77=> ?_)
 refine G (Kt Z Z)<|G (Wb Z)<|U<|ZT Z<|Zk<|W<|Zr<|G (Zw av H 1 Z Z Z)<|bo H 0 (#[J ck,J nx,J wt,.slice (Qd g) tx2.length c2]) aF Z Z Z Z Z N N fun w16 H=>G (Wi Z)<|U<|Zt ?_
 have hE:eE 3 t=some t:=by unfold eE;rw[if_neg I,if_neg I,if_pos I]
 rw[hE]
 dsimp only
 exact bE (cs0:= #[J ck,J nx,J wt,.slice (Qd g) tx2.length c2]) (v1:=J 0) Z av Z (H.ent (i:=0) Z) Z Z ⟨⟨ck,nx,wt,tx2,some ⟨g,0,none⟩,c2⟩,[(g,.cells cur dF (0,0))],Lp,rfl,by unfold Co.a;dsimp only;rw[iW ht,hma],dX.own row,hp2,hoc2,hpc2,H.forget (.cons _ (.cons _ (aC _ _))) (by simp)⟩
 refine G (Kt Z Z)<|G (Wb Z)<|U<|ZF Z<|W<|Zr<|G (bg (cs:= #[J 0,J 0,J 0,.slice none 0 0]) fG cM N)<|bo H 0 (#[J 0,J 0,J 0,.slice none 0 0]) aF Z Z Z Z Z N N fun w17 H=>G (Wi Z)<|U<|Zt ?_
 have hE:eE 3 t=none:=by unfold eE;rw[if_neg I,if_neg I,if_neg I]
 rw[hE]
 dsimp only
 exact bE (cs0:= #[J 0,J 0,J 0,.slice none 0 0]) (v1:=J 12) Z av Z (H.ent (i:=0) Z) Z Z ⟨rfl,H.below⟩
 refine G (Yb Z)<|ZN<|ZN<|ZN<|ZN<|ZN<|ZN<|G (N Z Z)<|G (Wb Z)<|U<|ZF Z<|W<|Zr<|G (bg (cs:= #[J 0,J 0,J 0,.slice none 0 0]) fG cM N)<|bo H 0 (#[J 0,J 0,J 0,.slice none 0 0]) aF Z Z Z Z Z N N fun w18 H=>G (Wi Z)<|U<|Zt ?_
 have hE:eE 3 t=none:=by unfold eE;rw[if_neg I,if_neg I,if_neg I]
 rw[hE]
 dsimp only
 exact bE (cs0:= #[J 0,J 0,J 0,.slice none 0 0]) (v1:=J 12) Z av Z (H.ent (i:=0) Z) Z Z ⟨rfl,H.below⟩
theorem Kq (c:Co) (s:ByteArray) (ver:Int) (i:Nat) (t:Tx) (w:World) (h:c.rd 0 w.heap.size w) (hok:gI c=true) (hn:bL s=true) (hi:fR c s=i) (ht:c.txs[i]? =some t) (hv:t.ver=ver):dh aa l8 [c.v,.string s,J ver,.bool false] w fun v w2=>match eE 4 t with|none=>v=.tuple #[.agg #[J 0,J 0,J 0,.slice none 0 0],J 12]/\Below w.heap.size w w2|some t'=> ∃ (c':Co) (Lr Lp:List (Nat×Obj)),v=.tuple #[c'.v,J 0]/\qv w w2 (Co.a {c with txs:=c.txs.set i t'}) c' Lr Lp:=by
 refine aE pS Z Z ?_
 have hcap:=h.cap
 have hfew:=h.few
 have hfp:=h.fewP
 have H:=Hp.startCo h
 obtain⟨ck,nx,wt,txs,cA,cc⟩:=c
 dsimp only at hcap hfew hfp H
 show CW _ _ _ _ (args [.agg #[J ck,J nx,J wt,.slice cA txs.length cc],.string s,J ver,.bool false]) w
 dsimp only at ht⊢
 refine W<|Zr<|f7 H Z Z fun w1 b4 H=>eP H cM Z fun w2 b8 H=>G (Wi Z)<|U<|W<|Zr<|G (Zw av H 1 Z Z Z)<|G (Yt Z)<|G (Yi Z)<|ch gK (wZ ⟨ck,nx,wt,txs,cA,cc⟩ s ver i t _ ⟨H.rd0 0 Z,fun t ht=>fE H 1 Z ht,hcap,hfew,hfp⟩ hok hn hi ht hv) Z Z ?_
 rintro _ w3 ⟨⟨ck2,nx2,wt2,tx2,A2,c2⟩,Lr,Lp,rfl,ha2,ho2,hp2,hoc2,hpc2,hj2⟩
 replace H:=H.joinR hj2;clear hj2
 simp only[Co.a,Co.mk.injEq]at ha2
 obtain⟨e1,e2,e3,hma,-,-⟩:=ha2
 obtain rfl:ck=ck2:=e1.symm
 obtain rfl:nx=nx2:=e2.symm
 obtain rfl:wt=wt2:=e3.symm
 dsimp only at ho2 hp2 hoc2 hpc2 H
 refine G (Yu Z)<|G (Xa Z Z)<|G (Xi Z Z)<|G (Xi Z Z)<|bo H 1 (#[J ck,J nx,J wt,.slice A2 tx2.length c2]) aF Z Z Z Z Z N N fun w4 H=>G (Wi Z)<|G (Wi Z)<|U<|W<|W<|Zr<|G (Yi Z)<|G (bZ Z Z Z)<|U<|ZF Z<|Zk<|W<|Zr<|G (Wi Z)<|U<|W<|W<|Zr<|G (Yb Z)<|U<|ZF Z<|Zk<|W<|W ?_
 obtain⟨t2,ht2,hta⟩:=rm hma ht
 have hl2:=(cC ht2).1
 obtain⟨g,cur,rfl,rfl,row⟩:=ho2.row I
 have hst:t2.state=t.state:=by show t2.a.state=t.a.state;rw[hta]
 have hdn:t2.done=t.done:=by show t2.a.done=t.a.done;rw[hta]
 refine Zr<|G (Zf cQ Z)<|G (Zd dL H 1 Z Z Z)<|G (Yi Z)<|G (cG gM Z Z I)<|G (Wp Z)<|U<|Zb<|W<|Zr<|G (Yp Z)<|G (aJ Z)<|G (Zf cS Z)<|G (bP ak row ht2 3 Z (H.ent (i:=2) Z) Z) ?_
 refine cW (bn Z Z) Z Z Z (fun h37=> ?_) (fun h37=> ?_)
 refine G (Wb Z)<|U<|ZT Z<|Zr<|G (Yp Z)<|G (Yi Z)<|G (aJ Z)<|G (Zf cS Z)<|k9 H 2 ({t2 with state:=4}) bH row ht2 3 Z Z Z Z Z Z N fun w6 cur5 row5 H=>U<|W<|Zr<|G (Zw av H 1 Z Z Z)<|bo H 0 (#[J ck,J nx,J wt,.slice (Qd g) tx2.length c2]) aF Z Z Z Z Z N N fun w7 H=>G (Wi Z)<|U<|Zt ?_
 have hE:eE 4 t=some {t with state:=4}:=by unfold eE;rw[if_pos I]
 rw[hE]
 dsimp only
 exact bE (cs0:= #[J ck,J nx,J wt,.slice (Qd g) tx2.length c2]) (v1:=J 0) Z av Z (H.ent (i:=0) Z) Z Z ⟨⟨ck,nx,wt,(tx2.set i {t2 with state:=4}),some ⟨g,0,none⟩,c2⟩,[(g,.cells cur5 dF (0,0))],Lp,by unfold Co.v Co.c;dsimp only;rw[ae],by unfold Co.a;dsimp only;rw[pq hma i (Jj hta _)],dX.own row5,hp2.same ht2 Z Z Z,by dsimp only;rw[ae];exact hoc2,sf hpc2 ht2 Z Z,H.forget (.cons _ (.cons _ (aC _ _))) (by simp)⟩
 refine G (Wb Z)<|U<|ZF Z<|W<|Zr<|G (Yp Z)<|G (aJ Z)<|G (Zf cS Z)<|G (bP ak row ht2 3 Z (H.ent (i:=2) Z) Z) ?_
 refine cW (bn Z Z) Z Z Z (fun h47=> ?_) (fun h47=> ?_)
 refine G (Yb Z)<|ZG<|G (Yp Z)<|ZG<|G (aJ Z)<|ZG<|G (Zf jq Z)<|ZG<|G (bP ak row ht2 6 Z (H.ent (i:=2) Z) Z)<|ZG ?_
 refine cW (bn Z Z) Z Z Z (fun h53=> ?_) (fun h53=> ?_)
 refine G (Kt Z Z)<|G (Wb Z)<|U<|ZT Z<|Zr<|G (Yp Z)<|G (Yi Z)<|G (aJ Z)<|G (Zf jq Z)<|k9 H 2 ({t2 with done:=4}) bH row ht2 6 Z Z Z Z Z Z N fun w9 cur8 row8 H=>U<|W<|Zr<|G (Zw av H 1 Z Z Z)<|bo H 0 (#[J ck,J nx,J wt,.slice (Qd g) tx2.length c2]) aF Z Z Z Z Z N N fun w10 H=>G (Wi Z)<|U<|Zt ?_
 have hE:eE 4 t=some {t with done:=4}:=by unfold eE;rw[if_neg I,if_pos I]
 rw[hE]
 dsimp only
 exact bE (cs0:= #[J ck,J nx,J wt,.slice (Qd g) tx2.length c2]) (v1:=J 0) Z av Z (H.ent (i:=0) Z) Z Z ⟨⟨ck,nx,wt,(tx2.set i {t2 with done:=4}),some ⟨g,0,none⟩,c2⟩,[(g,.cells cur8 dF (0,0))],Lp,by unfold Co.v Co.c;dsimp only;rw[ae],by unfold Co.a;dsimp only;rw[pq hma i (Nv hta _)],dX.own row8,hp2.same ht2 Z Z Z,by dsimp only;rw[ae];exact hoc2,sf hpc2 ht2 Z Z,H.forget (.cons _ (.cons _ (aC _ _))) (by simp)⟩
 refine G (Kt Z Z)<|G (Wb Z)<|U<|ZF Z<|W<|W<|Zr<|G (Yp Z)<|G (aJ Z)<|G (Zf cS Z)<|G (bP ak row ht2 3 Z (H.ent (i:=2) Z) Z)<|G (Yi Z) ?_
 refine cW (bn Z Z) Z Z Z (fun h65=> ?_) (fun h65=> ?_)
 refine G (Wb Z)<|U<|ZT Z<|Zk<|ZT Z<|Zk<|W<|Zr<|G (Zw av H 1 Z Z Z)<|bo H 0 (#[J ck,J nx,J wt,.slice (Qd g) tx2.length c2]) aF Z Z Z Z Z N N fun w11 H=>G (Wi Z)<|U<|Zt ?_
 have hE:eE 4 t=some t:=by unfold eE;rw[if_neg I,if_neg I,if_pos I]
 rw[hE]
 dsimp only
 exact bE (cs0:= #[J ck,J nx,J wt,.slice (Qd g) tx2.length c2]) (v1:=J 0) Z av Z (H.ent (i:=0) Z) Z Z ⟨⟨ck,nx,wt,tx2,some ⟨g,0,none⟩,c2⟩,[(g,.cells cur dF (0,0))],Lp,rfl,by unfold Co.a;dsimp only;rw[iW ht,hma],dX.own row,hp2,hoc2,hpc2,H.forget (.cons _ (.cons _ (aC _ _))) (by simp)⟩
 refine G (Wb Z)<|U<|ZF Z<|Zr<|G (Yp Z)<|G (aJ Z)<|G (Zf cS Z)<|G (bP ak row ht2 3 Z (H.ent (i:=2) Z) Z) ?_
 refine cW (bn Z Z) Z Z Z (fun h70=> ?_) (fun h70=> ?_)
 refine G (Yb Z)<|ZG<|G (Yp Z)<|ZG<|G (aJ Z)<|ZG<|G (Zf jq Z)<|ZG<|G (bP ak row ht2 6 Z (H.ent (i:=2) Z) Z)<|ZG<|G (Yi Z)<|ZG ?_
 refine cW (bn Z Z) Z Z Z (fun h77=> ?_) (fun h77=> ?_)
 refine G (Kt Z Z)<|G (Wb Z)<|U<|ZT Z<|Zk<|W<|Zr<|G (Zw av H 1 Z Z Z)<|bo H 0 (#[J ck,J nx,J wt,.slice (Qd g) tx2.length c2]) aF Z Z Z Z Z N N fun w12 H=>G (Wi Z)<|U<|Zt ?_
 have hE:eE 4 t=some t:=by unfold eE;rw[if_neg I,if_neg I,if_pos I]
 rw[hE]
 dsimp only
 exact bE (cs0:= #[J ck,J nx,J wt,.slice (Qd g) tx2.length c2]) (v1:=J 0) Z av Z (H.ent (i:=0) Z) Z Z ⟨⟨ck,nx,wt,tx2,some ⟨g,0,none⟩,c2⟩,[(g,.cells cur dF (0,0))],Lp,rfl,by unfold Co.a;dsimp only;rw[iW ht,hma],dX.own row,hp2,hoc2,hpc2,H.forget (.cons _ (.cons _ (aC _ _))) (by simp)⟩
 refine G (Kt Z Z)<|G (Wb Z)<|U<|ZF Z<|W<|Zr<|G (bg (cs:= #[J 0,J 0,J 0,.slice none 0 0]) fG cM N)<|bo H 0 (#[J 0,J 0,J 0,.slice none 0 0]) aF Z Z Z Z Z N N fun w13 H=>G (Wi Z)<|U<|Zt ?_
 have hE:eE 4 t=none:=by unfold eE;rw[if_neg I,if_neg I,if_neg I]
 rw[hE]
 dsimp only
 exact bE (cs0:= #[J 0,J 0,J 0,.slice none 0 0]) (v1:=J 12) Z av Z (H.ent (i:=0) Z) Z Z ⟨rfl,H.below⟩
 refine G (Yb Z)<|ZN<|ZN<|ZN<|ZN<|ZN<|ZN<|G (N Z Z)<|G (Wb Z)<|U<|ZF Z<|W<|Zr<|G (bg (cs:= #[J 0,J 0,J 0,.slice none 0 0]) fG cM N)<|bo H 0 (#[J 0,J 0,J 0,.slice none 0 0]) aF Z Z Z Z Z N N fun w14 H=>G (Wi Z)<|U<|Zt ?_
 have hE:eE 4 t=none:=by unfold eE;rw[if_neg I,if_neg I,if_neg I]
 rw[hE]
 dsimp only
 exact bE (cs0:= #[J 0,J 0,J 0,.slice none 0 0]) (v1:=J 12) Z av Z (H.ent (i:=0) Z) Z Z ⟨rfl,H.below⟩
 refine G (Yb Z)<|ZN<|ZN<|ZN<|ZN<|ZN<|G (N Z Z)<|G (Wb Z)<|U<|ZF Z<|W<|W<|Zr<|G (Yp Z)<|G (aJ Z)<|G (Zf cS Z)<|G (bP ak row ht2 3 Z (H.ent (i:=2) Z) Z)<|G (Yi Z) ?_
 refine cW (bn Z Z) Z Z Z (fun h65=> ?_) (fun h65=> ?_)
 refine G (Wb Z)<|U<|ZT Z<|Zk<|ZT Z<|Zk<|W<|Zr<|G (Zw av H 1 Z Z Z)<|bo H 0 (#[J ck,J nx,J wt,.slice (Qd g) tx2.length c2]) aF Z Z Z Z Z N N fun w15 H=>G (Wi Z)<|U<|Zt ?_
 have hE:eE 4 t=some t:=by unfold eE;rw[if_neg I,if_neg I,if_pos I]
 rw[hE]
 dsimp only
 exact bE (cs0:= #[J ck,J nx,J wt,.slice (Qd g) tx2.length c2]) (v1:=J 0) Z av Z (H.ent (i:=0) Z) Z Z ⟨⟨ck,nx,wt,tx2,some ⟨g,0,none⟩,c2⟩,[(g,.cells cur dF (0,0))],Lp,rfl,by unfold Co.a;dsimp only;rw[iW ht,hma],dX.own row,hp2,hoc2,hpc2,H.forget (.cons _ (.cons _ (aC _ _))) (by simp)⟩
 refine G (Wb Z)<|U<|ZF Z<|Zr<|G (Yp Z)<|G (aJ Z)<|G (Zf cS Z)<|G (bP ak row ht2 3 Z (H.ent (i:=2) Z) Z) ?_
 refine cW (bn Z Z) Z Z Z (fun h70=> ?_) (fun h70=> ?_)
 refine G (Yb Z)<|ZG<|G (Yp Z)<|ZG<|G (aJ Z)<|ZG<|G (Zf jq Z)<|ZG<|G (bP ak row ht2 6 Z (H.ent (i:=2) Z) Z)<|ZG<|G (Yi Z)<|ZG ?_
 refine cW (bn Z Z) Z Z Z (fun h77=> ?_) (fun h77=> ?_)
 refine G (Kt Z Z)<|G (Wb Z)<|U<|ZT Z<|Zk<|W<|Zr<|G (Zw av H 1 Z Z Z)<|bo H 0 (#[J ck,J nx,J wt,.slice (Qd g) tx2.length c2]) aF Z Z Z Z Z N N fun w16 H=>G (Wi Z)<|U<|Zt ?_
 have hE:eE 4 t=some t:=by unfold eE;rw[if_neg I,if_neg I,if_pos I]
 rw[hE]
 dsimp only
 exact bE (cs0:= #[J ck,J nx,J wt,.slice (Qd g) tx2.length c2]) (v1:=J 0) Z av Z (H.ent (i:=0) Z) Z Z ⟨⟨ck,nx,wt,tx2,some ⟨g,0,none⟩,c2⟩,[(g,.cells cur dF (0,0))],Lp,rfl,by unfold Co.a;dsimp only;rw[iW ht,hma],dX.own row,hp2,hoc2,hpc2,H.forget (.cons _ (.cons _ (aC _ _))) (by simp)⟩
 refine G (Kt Z Z)<|G (Wb Z)<|U<|ZF Z<|W<|Zr<|G (bg (cs:= #[J 0,J 0,J 0,.slice none 0 0]) fG cM N)<|bo H 0 (#[J 0,J 0,J 0,.slice none 0 0]) aF Z Z Z Z Z N N fun w17 H=>G (Wi Z)<|U<|Zt ?_
 have hE:eE 4 t=none:=by unfold eE;rw[if_neg I,if_neg I,if_neg I]
 rw[hE]
 dsimp only
 exact bE (cs0:= #[J 0,J 0,J 0,.slice none 0 0]) (v1:=J 12) Z av Z (H.ent (i:=0) Z) Z Z ⟨rfl,H.below⟩
 refine G (Yb Z)<|ZN<|ZN<|ZN<|ZN<|ZN<|ZN<|G (N Z Z)<|G (Wb Z)<|U<|ZF Z<|W<|Zr<|G (bg (cs:= #[J 0,J 0,J 0,.slice none 0 0]) fG cM N)<|bo H 0 (#[J 0,J 0,J 0,.slice none 0 0]) aF Z Z Z Z Z N N fun w18 H=>G (Wi Z)<|U<|Zt ?_
 have hE:eE 4 t=none:=by unfold eE;rw[if_neg I,if_neg I,if_neg I]
 rw[hE]
 dsimp only
 exact bE (cs0:= #[J 0,J 0,J 0,.slice none 0 0]) (v1:=J 12) Z av Z (H.ent (i:=0) Z) Z Z ⟨rfl,H.below⟩
/-- P5.7: what a tick does to one producer's transaction -/
def ft (clock wait:Int) (t:Tx):Tx:=if t.state=2/\wait<=clock-t.since/\t.ver<1073741824 then{t with state:=4,ver:=t.ver+1}else t
theorem Lf (ck wt:Int) (t:Tx):(ft ck wt t).a=ft ck wt t.a:=by
 unfold ft
 by_cases h:t.state=2/\wt<=ck-t.since/\t.ver<1073741824
 rw[if_pos h,if_pos (show t.a.state=2/\wt<=ck-t.a.since/\t.a.ver<1073741824 from h)];rfl
 rw[if_neg h,if_neg (show¬ (t.a.state=2/\wt<=ck-t.a.since/\t.a.ver<1073741824)from h)]
theorem C0 (ck wt:Int) (t:Tx):(ft ck wt t).A=t.A/\(ft ck wt t).parts=t.parts/\(ft ck wt t).cap=t.cap:=by
 unfold ft
 split<;>exact⟨rfl,rfl,rfl⟩
theorem eF.tick (ck wt:Int): ∀ {ts:List Tx} {L:List (Nat×Obj)},eF ts L->eF (ts.map (ft ck wt)) L
 |[],_,h=>h
 |t::_,_,⟨L1,L2,h1,h2,h3⟩=>⟨L1,L2,h1,by obtain⟨a,b,c⟩:=C0 ck wt t;rw[a,b,c];exact h2,eF.tick ck wt h3⟩
def mE (ck wt:Int) (ts:List Tx) (k:Nat):List Tx:=(ts.take k).map (ft ck wt)++ts.drop k
theorem z9 (ck wt:Int) (ts:List Tx) (k:Nat):(mE ck wt ts k).length=ts.length:=by
 unfold mE;simp;omega
theorem Jt {ck wt:Int} {ts:List Tx} {k:Nat} {x:Tx} (h:ts[k]? =some x):(mE ck wt ts k)[k]? =some x:=by
 have:=(cC h).1
 unfold mE
 rw[bX (by simp;omega)]
 simp
 rw[show k-min k ts.length=0 by omega]
 simpa using h
theorem sD {ck wt:Int} {ts:List Tx} {k:Nat} {x:Tx} (h:ts[k]? =some x):(mE ck wt ts k).set k (ft ck wt x)=mE ck wt ts (k+1):=by
 have hl:=(cC h).1
 unfold mE
 rw[eu h,cP h,bl,jk _ _ (by simp;omega)]
 simp
 rw[show k-min k ts.length=0 by omega]
 simp
theorem uH {ck nx:Int}: ∀ {l pre:List Tx},og ck nx pre l=true-> ∀ t∈l,fN ck nx t=true
 |[],_,_,_,ht=>by cases ht
 |x::l,pre,h,t,ht=>by
  unfold og at h
  simp only[aR]at h
  rcases ax.1 ht with rfl|ht
  exact h.1.1
  exact uH h.2 t ht
def vZ (c:Co) (n:Int):Co:={c with clock:=c.clock+n,txs:=c.txs.map (ft (c.clock+n) c.wait)}
theorem NF (c:Co) (n:Int) (w:World) (h:c.rd 0 w.heap.size w) (hok:gI c=true) (hn0:0<=n) (hn1:n<=1000) (hcl:c.clock+n<=1073741824):dh aa sP [c.v,J n] w fun v w2=> ∃ (c':Co) (Lr Lp:List (Nat×Obj)),v=.tuple #[c'.v,J 0]/\qv w w2 (vZ c.a n) c' Lr Lp:=by
 refine aE vG Z Z ?_
 have hcap:=h.cap
 have hfew:=h.few
 have hfp:=h.fewP
 have H:=Hp.startCo h
 obtain⟨ck,nx,wt,txs,cA,cc⟩:=c
 dsimp only at hcap hfew hfp H
 show CW _ _ _ _ (args [.agg #[J ck,J nx,J wt,.slice cA txs.length cc],J n]) w
 dsimp only at hcl
 obtain⟨q1,q2,q3,q4,q5,q6,q7⟩:=i8.1 hok
 dsimp only at q1 q2 q3 q4 q5 q6
 obtain⟨q8,q9⟩:=uX q1
 refine W<|Zr<|f7 H Z Z fun w1 b2 H=>eP H cM Z fun w2 b4 H=>G (Wi Z)<|U<|W<|W<|Zr<|G (Zw av H 1 Z Z Z)<|ch kH (qp ⟨ck,nx,wt,txs,cA,cc⟩ _ ⟨H.rd0 0 Z,fun t ht=>fE H 1 Z ht,hcap,hfew,hfp⟩) Z Z ?_
 rw[hok]
 rintro _ w3 ⟨rfl,hb⟩;replace H:=H.later hb;clear hb
 refine G (Wi Z)<|U<|W<|Zr<|G (Yi Z)<|G (bZ Z Z Z)<|U<|ZF Z<|Zk<|W<|W<|Zr<|G (Yi Z)<|G (dd Z Z I)<|G (Yb Z)<|ZG<|G (Yi Z)<|ZG<|G (eB Z Z I)<|G (N Z Z)<|G (Yb Z)<|ZG<|G (Zf kB Z)<|ZG<|G (Zd ak H 1 Z Z Z)<|ZG<|G (Yi Z)<|ZG<|G (bw Z Z I I)<|ZG<|G (eB Z Z I)<|G (N Z Z)<|U<|ZF Z<|Zk<|W<|Zr<|G (Zw av H 1 Z Z Z)<|ch je (s5 ⟨ck,nx,wt,txs,cA,cc⟩ _ ⟨H.rd0 0 Z,fun t ht=>fE H 1 Z ht,hcap,hfew,hfp⟩) Z Z ?_
 rintro _ w4 ⟨⟨ck2,nx2,wt2,tx2,A2,c2⟩,Lr,Lp,rfl,ha2,ho2,hp2,hoc2,hpc2,hj2⟩
 replace H:=H.joinR hj2;clear hj2
 simp only[Co.a,Co.mk.injEq]at ha2
 obtain⟨e1,e2,e3,hma,-,-⟩:=ha2
 obtain rfl:ck=ck2:=e1.symm
 obtain rfl:nx=nx2:=e2.symm
 obtain rfl:wt=wt2:=e3.symm
 dsimp only at ho2 hp2 hoc2 hpc2 H
 have hlen2:tx2.length=txs.length:=by have:=congrArg ci hma;simpa using this
 refine bo H 1 (#[J ck,J nx,J wt,.slice A2 tx2.length c2]) aF Z Z Z Z Z N N fun w5 H=>U<|W<|Zr<|G (Zf kB Z)<|G (Zd ak H 1 Z Z Z)<|G (Yi Z)<|G (bw Z Z I I)<|G (Zf kB Z)<|bo H 1 (#[J (ck+n),J nx,J wt,.slice A2 tx2.length c2]) bH Z Z Z Z Z N N fun w6 H=>U<|W<|W<|Zr<|G (Zf cQ Z)<|G (Zd dL H 1 Z Z Z)<|G (br ln Z)<|G (Yi Z)<|U<|Zb ?_
 refine cD (τ:=Nat×Option Addr) [7,8,39,40,41,42,43,44,45,46,47,48,49,50,51,52,53,54,55,56,57,58,59,60,61,62,63,64,65,66,67,68,69,70,71,72,73,74,75,76,77,78,79,80] (fun(k,_)=>[(39,J (k:Nat))]) (fun(k,A2) w'=>k<=tx2.length/\ ∃ L',gz rP (.slice A2 (mE (ck+n) wt tx2 k).length c2) dF (mE (ck+n) wt tx2 k) L'/\Hp w w' ([(b4,.cells #[J 0,J 0,J 0,.slice none 0 0] bi (0,0)),(b2,.cells #[J (ck+n),J nx,J wt,.slice A2 tx2.length c2] bi (0,0))]++L'++(Lp++[])) [dU rP 0 w.heap.size cA txs,iP 0 w.heap.size txs]) (fun(k,_)=>tx2.length-k) (0,A2) ⟨by omega,Lr,by unfold mE;simpa using ho2,by show Hp w _ (_::_::(Lr++(Lp++[]))) _;rw[<-aD];exact H⟩ (dP Z) ?_
 rintro⟨k,A2⟩ ρ1 w7 ⟨hk,L1,ho,H⟩
 show CW _ _ _ _ (dH (gZ _ _ ρ1) [(39,J (k:Nat))]) w7
 refine W<|Zr ?_
 refine cW (cK Z Z) Z Z Z (fun h40=> ?_) (fun h40=> ?_)
 refine U<|W<|ZT Z<|Zk<|W<|Zb<|W ?_
 obtain⟨x,hxt⟩: ∃ x,tx2[k]? =some x:=⟨_,ah I⟩
 have hx:=Jt (ck:=ck+n) (wt:=wt) hxt
 have htl:=z9 (ck+n) wt tx2 k
 obtain⟨g,cur,rfl,rfl,row⟩:=ho.row I
 obtain⟨t,ht,hta⟩:=rm hma.symm hxt
 have hxo:fN ck nx x=true:=by have h1:fN ck nx t.a=true:=uH q7 t (ab ht);rw[hta]at h1;exact h1
 obtain⟨a1,a2,a3,a4,a5,a6,a7,a8,a9,a10,a11⟩:=cv.1 hxo
 obtain⟨v1,v2⟩:=uX a4
 refine Zr<|G (Yi Z)<|G (Wi Z)<|U<|W<|Zr<|G (Zf cQ Z)<|G (Zd dL H 1 Z Z Z)<|G (Yi Z)<|G (cG gM Z Z I)<|G (Wp Z)<|U<|W ?_
 refine bA cd [0,1,2,3,4,5,6,7,8,9,10,11,12,13,14,15,16,17,18,19,20,21,22,23] [] [] [0,1,2,4,5,6,8,9,10,12,13,15,16,17,18,19,20,22,23] (sp []) N N N N Nq (cI _) ?_
 refine aw Z Z Z Z Z (fun w' hw'=>Yp Z)<|aw Z Z Z Z Z (fun w' hw'=>aJ Z)<|aw Z Z Z Z Z (fun w' hw'=>Zf cS Z)<|aw Z Z Z Z Z (fun w' hw'=>bP ak row hx 3 Z ((H.later hw').ent (i:=2) Z) Z) ?_
 refine B2 Z Z Z Z Z (fun w' hw'=>bn Z Z) (fun h50=> ?_) (fun h50=> ?_)
 refine aw Z Z Z Z Z (fun w' hw'=>Yb Z)<|aw Z Z Z Z Z (fun w' hw'=>Zf kB Z)<|aw Z Z Z Z Z (fun w' hw'=>aW ak Z (aB ((H.later hw').ent (i:=1) Z) Z))<|aw Z Z Z Z Z (fun w' hw'=>Yp Z)<|aw Z Z Z Z Z (fun w' hw'=>aJ Z)<|aw Z Z Z Z Z (fun w' hw'=>Zf ui Z)<|aw Z Z Z Z Z (fun w' hw'=>bP ak row hx 5 Z ((H.later hw').ent (i:=2) Z) Z)<|aw Z Z Z Z Z (fun w' hw'=>jf Z Z I I)<|aw Z Z Z Z Z (fun w' hw'=>Zf wr Z)<|aw Z Z Z Z Z (fun w' hw'=>aW ak Z (aB ((H.later hw').ent (i:=1) Z) Z)) ?_
 refine B2 Z Z Z Z Z (fun w' hw'=>ko Z Z) (fun h61=> ?_) (fun h61=> ?_)
 refine aw Z Z Z Z Z (fun w' hw'=>Kt Z Z)<|aw Z Z Z Z Z (fun w' hw'=>Yb Z)<|aw Z Z Z Z Z (fun w' hw'=>Yp Z)<|aw Z Z Z Z Z (fun w' hw'=>aJ Z)<|aw Z Z Z Z Z (fun w' hw'=>Zf gF Z)<|aw Z Z Z Z Z (fun w' hw'=>bP ak row hx 2 Z ((H.later hw').ent (i:=2) Z) Z) ?_
 refine B2 Z Z Z Z Z (fun w' hw'=>cK Z Z) (fun h68=> ?_) (fun h68=> ?_)
 refine aw Z Z Z Z Z (fun w' hw'=>Kt Z Z)<|aV ?_
 intro w8 hw' hF
 replace H:=H.later hw';clear hw' hF
 refine U<|ZT Z<|W<|Zr<|G (Yp Z)<|G (aJ Z)<|G (Zf cS Z)<|k9 H 2 ({x with state:=4}) bH row hx 3 Z Z Z Z Z Z N fun w10 cur9 row9 H=>U ?_
 have hx2:((mE (ck+n) wt tx2 k).set k {x with state:=4})[k]? =some {x with state:=4}:=al I
 have hv2:({x with state:=4}:Tx).ver=x.ver:=rfl
 refine Zr<|G (Yp Z)<|G (aJ Z)<|G (Zf gF Z)<|G (bP ak row9 hx2 2 Z (H.ent (i:=2) Z) Z)<|G (bw Z Z I I)<|G (aJ Z)<|G (Zf gF Z)<|k9 H 2 ({x with state:=4,ver:=x.ver+1}) bH row9 hx2 2 Z Z Z Z Z Z N fun w12 cur11 row11 H=>U<|Zr<|G (bw Z Z I I)<|G (Yi Z)<|U ?_
 have hT:ft (ck+n) wt x={x with state:=4,ver:=x.ver+1}:=by unfold ft;rw[if_pos I]
 have hS:=sD (ck:=ck+n) (wt:=wt) hxt
 rw[hT]at hS
 refine⟨(k+1,some ⟨g,0,none⟩),⟨by omega,_,by rw[<-hS];exact dX.own (by have:=row11;rwa[fy]at this),H⟩,dP Z,Qg,by show tx2.length- (k+1)<tx2.length-k;omega⟩
 refine aw Z Z Z Z Z (fun w' hw'=>Kt Z Z)<|aV ?_
 intro w13 hw' hF
 replace H:=H.later hw';clear hw' hF
 refine U<|ZF Z<|Zk<|Zr<|G (bw Z Z I I)<|G (Yi Z)<|U ?_
 have hT:ft (ck+n) wt x=x:=by unfold ft;rw[if_neg I]
 have hS:=sD (ck:=ck+n) (wt:=wt) hxt
 rw[hT]at hS
 refine⟨(k+1,some ⟨g,0,none⟩),⟨by omega,_,by rw[<-hS];exact dX.own (by rw[iW hx];exact row),H⟩,dP Z,Qg,by show tx2.length- (k+1)<tx2.length-k;omega⟩
 refine aw Z Z Z Z Z (fun w' hw'=>Kt Z Z)<|aw Z Z Z Z Z (fun w' hw'=>Yb Z)<|eU Z Z Z Z<|eU Z Z Z Z<|eU Z Z Z Z<|eU Z Z Z Z<|eU Z Z Z Z<|aw Z Z Z Z Z (fun w' hw'=>N Z Z)<|aV ?_
 intro w14 hw' hF
 replace H:=H.later hw';clear hw' hF
 refine U<|ZF Z<|Zk<|Zr<|G (bw Z Z I I)<|G (Yi Z)<|U ?_
 have hT:ft (ck+n) wt x=x:=by unfold ft;rw[if_neg I]
 have hS:=sD (ck:=ck+n) (wt:=wt) hxt
 rw[hT]at hS
 refine⟨(k+1,some ⟨g,0,none⟩),⟨by omega,_,by rw[<-hS];exact dX.own (by rw[iW hx];exact row),H⟩,dP Z,Qg,by show tx2.length- (k+1)<tx2.length-k;omega⟩
 refine aw Z Z Z Z Z (fun w' hw'=>Yb Z)<|eU Z Z Z Z<|eU Z Z Z Z<|eU Z Z Z Z<|eU Z Z Z Z<|eU Z Z Z Z<|eU Z Z Z Z<|eU Z Z Z Z<|eU Z Z Z Z<|eU Z Z Z Z<|eU Z Z Z Z<|aw Z Z Z Z Z (fun w' hw'=>N Z Z)<|aw Z Z Z Z Z (fun w' hw'=>Yb Z)<|eU Z Z Z Z<|eU Z Z Z Z<|eU Z Z Z Z<|eU Z Z Z Z<|eU Z Z Z Z<|aw Z Z Z Z Z (fun w' hw'=>N Z Z)<|aV ?_
 intro w15 hw' hF
 replace H:=H.later hw';clear hw' hF
 refine U<|ZF Z<|Zk<|Zr<|G (bw Z Z I I)<|G (Yi Z)<|U ?_
 have hT:ft (ck+n) wt x=x:=by unfold ft;rw[if_neg I]
 have hS:=sD (ck:=ck+n) (wt:=wt) hxt
 rw[hT]at hS
 refine⟨(k+1,some ⟨g,0,none⟩),⟨by omega,_,by rw[<-hS];exact dX.own (by rw[iW hx];exact row),H⟩,dP Z,Qg,by show tx2.length- (k+1)<tx2.length-k;omega⟩
 have hke:k=tx2.length:=by omega
 have hfin:mE (ck+n) wt tx2 k=tx2.map (ft (ck+n) wt):=by unfold mE;rw[hke,bN,fA,aZ]
 have hfl:(mE (ck+n) wt tx2 k).length=tx2.length:=z9 _ _ _ _
 rw[hfin]at ho hfl
 have hTa:(tx2.map (ft (ck+n) wt)).map Tx.a=(txs.map Tx.a).map (ft (ck+n) wt):=by rw[<-hma,sw,sw];congr 1;funext t;exact Lf _ _ t
 refine U<|W<|ZF Z<|Zx<|W<|Zr<|G (Zw av H 1 Z Z Z)<|bo H 0 (#[J (ck+n),J nx,J wt,.slice A2 tx2.length c2]) aF Z Z Z Z Z N N fun w16 H=>G (Wi Z)<|U<|Zt ?_
 exact bE (cs0:= #[J (ck+n),J nx,J wt,.slice A2 tx2.length c2]) (v1:=J 0) Z av Z (H.ent (i:=0) Z) Z Z ⟨⟨ck+n,nx,wt,tx2.map (ft (ck+n) wt),A2,c2⟩,L1,Lp,by unfold Co.v Co.c;dsimp only;rw[bJ],by unfold Co.a vZ;dsimp only;rw[hTa],ho,hp2.tick _ _,by dsimp only;rw[bJ];exact hoc2,by intro t ht;obtain⟨y,hy,rfl⟩:=bp.1 ht;obtain⟨a,b,c⟩:=C0 (ck+n) wt y;rw[b,c];exact hpc2 y hy,by simpa using H.forget (.cons _ (.cons _ (ar _))) (F':=[]) (by simp)⟩
/-- P5.3: a producer that was there: its version rises, what is under way is aborted -/
def ja (t:Tx):Tx:=if t.state=2 then{t with state:=4,ver:=t.ver+1}else{t with ver:=t.ver+1}
theorem MF {t t':Tx} (h:t'.a=t.a):(ja t').a=(ja t).a:=by
 have h1:t'.state=t.state:=by show t'.a.state=t.a.state;rw[h]
 unfold ja
 by_cases hs:t.state=2
 rw[if_pos (h1.trans hs),if_pos hs]
 exact congrArg (fun x:Tx=>({x with state:=4,ver:=x.ver+1}:Tx)) h
 rw[if_neg (fun q=>hs (h1.symm.trans q)),if_neg hs]
 exact congrArg (fun x:Tx=>({x with ver:=x.ver+1}:Tx)) h
theorem HX (c:Co) (s:ByteArray) (i:Nat) (t:Tx) (w:World) (h:c.rd 0 w.heap.size w) (hok:gI c=true) (hn:bL s=true) (hi:fR c s=i) (ht:c.txs[i]? =some t) (h3:t.state≠3) (h4:t.state≠4) (hv0:0<=t.ver) (hv:t.ver<1073741824):dh aa mQ [c.v,.string s] w fun v w2=> ∃ (c':Co) (Lr Lp:List (Nat×Obj)),v=.tuple #[c'.v,J t.pid,J (t.ver+1),J 0]/\qv w w2 (Co.a {c with txs:=c.txs.set i (ja t)}) c' Lr Lp:=by
 refine aE ob Z Z ?_
 have hcap:=h.cap
 have hfew:=h.few
 have hfp:=h.fewP
 have H:=Hp.startCo h
 obtain⟨ck,nx,wt,txs,cA,cc⟩:=c
 dsimp only at hcap hfew hfp H
 show CW _ _ _ _ (args [.agg #[J ck,J nx,J wt,.slice cA txs.length cc],.string s]) w
 dsimp only at ht⊢
 refine W<|Zr<|f7 H Z Z fun w1 b2 H=>eP H cM Z fun w2 b4 H=>G (Wi Z)<|G (Wi Z)<|G (Wi Z)<|U<|W<|Zr<|G (Zw av H 1 Z Z Z)<|G (Yt Z)<|ch ir (lS ⟨ck,nx,wt,txs,cA,cc⟩ s _ ⟨H.rd0 0 Z,fun t ht=>fE H 1 Z ht,hcap,hfew,hfp⟩ hok hn) Z Z ?_
 rintro _ w3 ⟨⟨ck2,nx2,wt2,tx2,A2,c2⟩,Lr,Lp,rfl,ha2,ho2,hp2,hoc2,hpc2,hj2⟩
 replace H:=H.joinR hj2;clear hj2
 simp only[Co.a,Co.mk.injEq]at ha2
 obtain⟨e1,e2,e3,hma,-,-⟩:=ha2
 obtain rfl:ck=ck2:=e1.symm
 obtain rfl:nx=nx2:=e2.symm
 obtain rfl:wt=wt2:=e3.symm
 dsimp only at ho2 hp2 hoc2 hpc2 H
 rw[hi]
 refine G (Yu Z)<|G (Xa Z Z)<|G (Xi Z Z)<|G (Xi Z Z)<|bo H 1 (#[J ck,J nx,J wt,.slice A2 tx2.length c2]) aF Z Z Z Z Z N N fun w4 H=>G (Wi Z)<|G (Wi Z)<|U<|W<|W<|Zr<|G (Yi Z)<|G (bZ Z Z Z)<|U<|ZF Z<|Zk<|W<|W<|Zr<|G (Yi Z)<|G (dd Z Z I)<|U<|ZF Z<|Zk<|W ?_
 obtain⟨t2,ht2,hta⟩:=rm hma ht
 have hl2:=(cC ht2).1
 obtain⟨g,cur,rfl,rfl,row⟩:=ho2.row I
 have hst:t2.state=t.state:=by show t2.a.state=t.a.state;rw[hta]
 have hdn:t2.done=t.done:=by show t2.a.done=t.a.done;rw[hta]
 have hver:t2.ver=t.ver:=by show t2.a.ver=t.a.ver;rw[hta]
 have hpid:t2.pid=t.pid:=by show t2.a.pid=t.a.pid;rw[hta]
 refine Zr<|G (Zf cQ Z)<|G (Zd dL H 1 Z Z Z)<|G (Yi Z)<|G (cG gM Z Z (by first|omega|(simp only[ae];omega)))<|G (Wp Z)<|U<|W<|Zb<|W<|Zr<|G (Yp Z)<|G (aJ Z)<|G (Zf cS Z)<|G (bP ak row ht2 3 Z (H.ent (i:=2) Z) Z)<|G (nS Z Z I)<|G (Yb Z)<|ZG<|G (Yp Z)<|ZG<|G (aJ Z)<|ZG<|G (Zf cS Z)<|ZG<|G (bP ak row ht2 3 Z (H.ent (i:=2) Z) Z)<|ZG<|G (nS Z Z I)<|G (N Z Z)<|G (Wb Z)<|U<|ZF Z<|W<|Zr<|G (Yp Z)<|G (aJ Z)<|G (Zf gF Z)<|G (bP ak row ht2 2 Z (H.ent (i:=2) Z) Z)<|G (nS Z Z I)<|G (Wb Z)<|U ?_
 refine ZF Z<|W<|Zr<|G (Yp Z)<|G (aJ Z)<|G (Zf cS Z)<|G (bP ak row ht2 3 Z (H.ent (i:=2) Z) Z) ?_
 refine cW (bn Z Z) Z Z Z (fun h81=> ?_) (fun h81=> ?_)
 refine G (Wb Z)<|U<|ZT Z<|Zr<|G (Yp Z)<|G (aJ Z)<|G (Zf cS Z)<|k9 H 2 ({t2 with state:=4}) bH row ht2 3 Z Z Z Z Z Z N fun w6 cur5 row5 H=>U<|W ?_
 have ht3:(tx2.set i {t2 with state:=4})[i]? =some {t2 with state:=4}:=al hl2
 have hv3:({t2 with state:=4}:Tx).ver=t2.ver:=rfl
 refine Zr<|G (Yp Z)<|G (aJ Z)<|G (Zf gF Z)<|G (bP ak row5 ht3 2 Z (H.ent (i:=2) Z) Z)<|G (bw Z Z I I)<|G (aJ Z)<|G (Zf gF Z)<|k9 H 2 ({t2 with state:=4,ver:=t2.ver+1}) bH row5 ht3 2 Z Z Z Z Z Z N fun w8 cur7 row7 H=>U<|W ?_
 have ht4:(tx2.set i {t2 with state:=4,ver:=t2.ver+1})[i]? =some {t2 with state:=4,ver:=t2.ver+1}:=al hl2
 rw[fy]at row7
 refine pW cd (fun w'=>w'.heap[b2]? =some (.cells #[J ck,J nx,J wt,.slice (Qd g) tx2.length c2] bi (0,0))/\w'.heap[g]? =some (.cells cur7 dF (0,0))) ?_
 intro w9 hw';replace H:=H.later hw';clear hw'
 refine bh 0 N N N Z Z Z Z Nq ⟨H.ent (i:=1) Z,H.ent (i:=2) Z⟩ (fun _ hS=>jL av Z hS.1 Z)<|bh 1 N N N Z Z Z Z Nq ⟨H.ent (i:=1) Z,H.ent (i:=2) Z⟩ (fun _ hS=>Yp Z)<|bh 2 N N N Z Z Z Z Nq ⟨H.ent (i:=1) Z,H.ent (i:=2) Z⟩ (fun _ hS=>aJ Z)<|bh 3 N N N Z Z Z Z Nq ⟨H.ent (i:=1) Z,H.ent (i:=2) Z⟩ (fun _ hS=>Zf lq Z)<|bh 4 N N N Z Z Z Z Nq ⟨H.ent (i:=1) Z,H.ent (i:=2) Z⟩ (fun _ hS=>bP ak row7 ht4 1 Z hS.2 Z)<|bh 5 N N N Z Z Z Z Nq ⟨H.ent (i:=1) Z,H.ent (i:=2) Z⟩ (fun _ hS=>Yp Z)<|bh 6 N N N Z Z Z Z Nq ⟨H.ent (i:=1) Z,H.ent (i:=2) Z⟩ (fun _ hS=>aJ Z)<|bh 7 N N N Z Z Z Z Nq ⟨H.ent (i:=1) Z,H.ent (i:=2) Z⟩ (fun _ hS=>Zf gF Z)<|bh 8 N N N Z Z Z Z Nq ⟨H.ent (i:=1) Z,H.ent (i:=2) Z⟩ (fun _ hS=>bP ak row7 ht4 2 Z hS.2 Z)<|wK 9 N Z<|bo H 0 (#[J ck,J nx,J wt,.slice (Qd g) tx2.length c2]) aF Z Z Z Z Z N N fun w10 H=>U ?_
 refine⟨⟨H.ent (i:=1) Z,H.ent (i:=2) Z⟩,?_⟩
 refine bh 10 N N N Z Z Z Z Nq ⟨H.ent (i:=1) Z,H.ent (i:=2) Z⟩ (fun _ hS=>Wi Z)<|bh 11 N N N Z Z Z Z Nq ⟨H.ent (i:=1) Z,H.ent (i:=2) Z⟩ (fun _ hS=>Wi Z)<|bh 12 N N N Z Z Z Z Nq ⟨H.ent (i:=1) Z,H.ent (i:=2) Z⟩ (fun _ hS=>Wi Z)<|ny N<|Zt ?_
 have hI:ja t2={t2 with state:=4,ver:=t2.ver+1}:=by unfold ja;rw[if_pos I]
 exact mU (cs0:= #[J ck,J nx,J wt,.slice (Qd g) tx2.length c2]) (v1:=J t2.pid) (v2:=J (t2.ver+1)) (v3:=J 0) Z av Z (H.ent (i:=0) Z) Z Z Z Z ⟨⟨ck,nx,wt,tx2.set i ({t2 with state:=4,ver:=t2.ver+1}),some ⟨g,0,none⟩,c2⟩,[(g,.cells cur7 dF (0,0))],Lp,by unfold Co.v Co.c;dsimp only;rw[ae,hpid,hver],by unfold Co.a;dsimp only;rw[pq hma i (show Tx.a ({t2 with state:=4,ver:=t2.ver+1})=(ja t).a by rw[<-hI];exact MF hta)],by dsimp only;exact dX.own row7,hp2.same ht2 Z Z Z,by dsimp only;rw[ae];exact hoc2,sf hpc2 ht2 Z Z,H.forget (.cons _ (.cons _ (aC _ _))) (by simp)⟩
 refine G (Wb Z)<|U<|ZF Z<|Zk<|W<|Zr<|G (Yp Z)<|G (aJ Z)<|G (Zf gF Z)<|G (bP ak row ht2 2 Z (H.ent (i:=2) Z) Z)<|G (bw Z Z I I)<|G (aJ Z)<|G (Zf gF Z)<|k9 H 2 ({t2 with ver:=t2.ver+1}) bH row ht2 2 Z Z Z Z Z Z N fun w12 cur11 row11 H=>U<|W ?_
 have ht4:(tx2.set i {t2 with ver:=t2.ver+1})[i]? =some {t2 with ver:=t2.ver+1}:=al hl2
 refine pW cd (fun w'=>w'.heap[b2]? =some (.cells #[J ck,J nx,J wt,.slice (Qd g) tx2.length c2] bi (0,0))/\w'.heap[g]? =some (.cells cur11 dF (0,0))) ?_
 intro w13 hw';replace H:=H.later hw';clear hw'
 refine bh 0 N N N Z Z Z Z Nq ⟨H.ent (i:=1) Z,H.ent (i:=2) Z⟩ (fun _ hS=>jL av Z hS.1 Z)<|bh 1 N N N Z Z Z Z Nq ⟨H.ent (i:=1) Z,H.ent (i:=2) Z⟩ (fun _ hS=>Yp Z)<|bh 2 N N N Z Z Z Z Nq ⟨H.ent (i:=1) Z,H.ent (i:=2) Z⟩ (fun _ hS=>aJ Z)<|bh 3 N N N Z Z Z Z Nq ⟨H.ent (i:=1) Z,H.ent (i:=2) Z⟩ (fun _ hS=>Zf lq Z)<|bh 4 N N N Z Z Z Z Nq ⟨H.ent (i:=1) Z,H.ent (i:=2) Z⟩ (fun _ hS=>bP ak row11 ht4 1 Z hS.2 Z)<|bh 5 N N N Z Z Z Z Nq ⟨H.ent (i:=1) Z,H.ent (i:=2) Z⟩ (fun _ hS=>Yp Z)<|bh 6 N N N Z Z Z Z Nq ⟨H.ent (i:=1) Z,H.ent (i:=2) Z⟩ (fun _ hS=>aJ Z)<|bh 7 N N N Z Z Z Z Nq ⟨H.ent (i:=1) Z,H.ent (i:=2) Z⟩ (fun _ hS=>Zf gF Z)<|bh 8 N N N Z Z Z Z Nq ⟨H.ent (i:=1) Z,H.ent (i:=2) Z⟩ (fun _ hS=>bP ak row11 ht4 2 Z hS.2 Z)<|wK 9 N Z<|bo H 0 (#[J ck,J nx,J wt,.slice (Qd g) tx2.length c2]) aF Z Z Z Z Z N N fun w14 H=>U ?_
 refine⟨⟨H.ent (i:=1) Z,H.ent (i:=2) Z⟩,?_⟩
 refine bh 10 N N N Z Z Z Z Nq ⟨H.ent (i:=1) Z,H.ent (i:=2) Z⟩ (fun _ hS=>Wi Z)<|bh 11 N N N Z Z Z Z Nq ⟨H.ent (i:=1) Z,H.ent (i:=2) Z⟩ (fun _ hS=>Wi Z)<|bh 12 N N N Z Z Z Z Nq ⟨H.ent (i:=1) Z,H.ent (i:=2) Z⟩ (fun _ hS=>Wi Z)<|ny N<|Zt ?_
 have hI:ja t2={t2 with ver:=t2.ver+1}:=by unfold ja;rw[if_neg I]
 exact mU (cs0:= #[J ck,J nx,J wt,.slice (Qd g) tx2.length c2]) (v1:=J t2.pid) (v2:=J (t2.ver+1)) (v3:=J 0) Z av Z (H.ent (i:=0) Z) Z Z Z Z ⟨⟨ck,nx,wt,tx2.set i ({t2 with ver:=t2.ver+1}),some ⟨g,0,none⟩,c2⟩,[(g,.cells cur11 dF (0,0))],Lp,by unfold Co.v Co.c;dsimp only;rw[ae,hpid,hver],by unfold Co.a;dsimp only;rw[pq hma i (show Tx.a ({t2 with ver:=t2.ver+1})=(ja t).a by rw[<-hI];exact MF hta)],by dsimp only;exact dX.own row11,hp2.same ht2 Z Z Z,by dsimp only;rw[ae];exact hoc2,sf hpc2 ht2 Z Z,H.forget (.cons _ (.cons _ (aC _ _))) (by simp)⟩
theorem LN {w0 w:World} {F:List cB} {a b:Nat×Obj} (Lr Lp:List (Nat×Obj)) (H:Hp w0 w (a::b::((Lr++Lp)++[])) F):Hp w0 w ([a,b]++Lr++Lp) F:=by
 rw[aZ]at H
 exact H
theorem Ke (c:Co) (s:ByteArray) (w:World) (h:c.rd 0 w.heap.size w) (hok:gI c=true) (hn:bL s=true) (hi:fR c s<0) (hf:c.txs.length≠8) (hx:c.next≠1073741824):dh aa mQ [c.v,.string s] w fun v w2=> ∃ (c':Co) (Lr Lp:List (Nat×Obj)),v=.tuple #[c'.v,J c.next,J 0,J 0]/\qv w w2 (lR c.a s) c' Lr Lp:=by
 refine aE ob Z Z ?_
 have hcap:=h.cap
 have hfew:=h.few
 have hfp:=h.fewP
 have H:=Hp.startCo h
 obtain⟨ck,nx,wt,txs,cA,cc⟩:=c
 dsimp only at hcap hfew hfp H
 show CW _ _ _ _ (args [.agg #[J ck,J nx,J wt,.slice cA txs.length cc],.string s]) w
 dsimp only at hf hx⊢
 obtain⟨q1,q2,q3,q4,q5,q6,q7⟩:=i8.1 hok
 dsimp only at q2 q3 q6
 refine W<|Zr<|f7 H Z Z fun w1 b2 H=>eP H cM Z fun w2 b4 H=>G (Wi Z)<|G (Wi Z)<|G (Wi Z)<|U<|W<|Zr<|G (Zw av H 1 Z Z Z)<|G (Yt Z)<|ch ir (lS ⟨ck,nx,wt,txs,cA,cc⟩ s _ ⟨H.rd0 0 Z,fun t ht=>fE H 1 Z ht,hcap,hfew,hfp⟩ hok hn) Z Z ?_
 rintro _ w3 ⟨⟨ck2,nx2,wt2,tx2,A2,c2⟩,Lr,Lp,rfl,ha2,ho2,hp2,hoc2,hpc2,hj2⟩
 replace H:=H.joinR hj2;clear hj2
 simp only[Co.a,Co.mk.injEq]at ha2
 obtain⟨e1,e2,e3,hma,-,-⟩:=ha2
 obtain rfl:ck=ck2:=e1.symm
 obtain rfl:nx=nx2:=e2.symm
 obtain rfl:wt=wt2:=e3.symm
 dsimp only at ho2 hp2 hoc2 hpc2 H
 have hlen2:tx2.length=txs.length:=by have:=congrArg ci hma;simpa using this
 refine G (Yu Z)<|G (Xa Z Z)<|G (Xi Z Z)<|G (Xi Z Z)<|bo H 1 (#[J ck,J nx,J wt,.slice A2 tx2.length c2]) aF Z Z Z Z Z N N fun w4 H=>G (Wi Z)<|G (Wi Z)<|U<|W<|W<|Zr<|G (Yi Z)<|G (bZ Z Z Z)<|U<|ZF Z<|Zk<|W<|W<|Zr<|G (Yi Z)<|G (yg Z Z hi)<|U<|ZT Z<|W<|W<|Zr<|G (Zf cQ Z)<|G (Zd dL H 1 Z Z Z)<|G (br ln Z)<|G (nS Z Z I)<|G (Yb Z)<|ZG<|G (Zf kz Z)<|ZG<|G (Zd ak H 1 Z Z Z)<|ZG<|G (nS Z Z I)<|G (N Z Z)<|U<|ZF Z ?_
 refine Zk<|W ?_
 replace H:=LN Lr Lp H
 refine Zr<|G (Zf cQ Z)<|G (Zd dL H 1 Z Z Z)<|G (Yt Z)<|G (Zf kz Z)<|G (Zd ak H 1 Z Z Z)<|G (bg (cs:= #[.string s,J nx,J 0,J 1,.slice none 0 0,J 0,J 0]) Pr IJ N)<|s9 (vs:=[.agg #[.string s,J nx,J 0,J 1,.slice none 0 0,J 0,J 0]]) H gM IJ Z Z Z Z Z Z fun w5 b40 H=>vP (Y:=rP) Jg (K:=[(b40,_),(b4,_),(b2,_)]) (L:=Lr) (M:=Lp) H ho2 (news:=[i4 s nx]) Z Z Z (wz.row (m:=1) (sz:=rP.sz) (H.ent (i:=0) Z) Z) (by simp only[bO];omega) Z ?_
 intro A41 c41 w6 L41 h41 _ ho41 H
 refine G (Zf cQ Z)<|bo H 2 (#[J ck,J nx,J wt,.slice A41 (tx2++[i4 s nx]).length c41]) Aj Z Z Z Z Z N N fun w7 H=>U<|W<|Zr<|G (Zf kz Z)<|G (Zd ak H 2 Z Z Z)<|G (bw Z Z I I)<|G (Zf kz Z)<|bo H 2 (#[J ck,J (nx+1),J wt,.slice A41 (tx2++[i4 s nx]).length c41]) bH Z Z Z Z Z N N fun w8 H=>U<|W ?_
 refine qW cd [1] [0,2,3,4,5,6,7] [1] 7 N N N Nq ?_
 refine aw Z Z Z Z Z (fun w' hw'=>Zf kz Z)<|aV ?_
 intro w9 hw';replace H:=H.later hw';clear hw'
 refine tH 0 2 N Z Z ?_ ?_
 refine G (Zw av H 2 Z Z Z)<|U ?_
 refine tH 2 4 N Z Z ?_ ?_
 refine G (Zd ak H 2 Z Z Z)<|U ?_
 refine tH 3 4 N Z Z ?_ ?_
 refine G (jf Z Z I I)<|U<|de 4 N Z<|bo H 1 (#[J ck,J (nx+1),J wt,.slice A41 (tx2++[i4 s nx]).length c41]) aF Z Z Z Z Z N N fun w10 H=>U<|de 5 N Z<|G (Wi Z)<|U<|de 6 N Z<|G (Wi Z)<|U<|de 7 N Z<|G (Wi Z)<|U<|cF N<|Zt ?_
 exact mU (cs0:= #[J ck,J (nx+1),J wt,.slice A41 (tx2++[i4 s nx]).length c41]) (v1:=J (nx+1-1)) (v2:=J 0) (v3:=J 0) Z av Z (H.ent (i:=1) Z) Z Z Z Z ⟨⟨ck,nx+1,wt,tx2++[i4 s nx],A41,c41⟩,L41,Lp,by rw[show nx+1-1=nx by omega];rfl,by unfold Co.a lR;dsimp only;rw[bl,hma];rfl,ho41,by have:=eF.snoc (t:=i4 s nx) (L':=[]) gz.nil hp2;rwa[aZ]at this,h41,by intro t ht;rcases ap.1 ht with ht|ht;exact hpc2 t ht;rw[aq.1 ht];exact ao _,H.forget (.cons _ (.cons _ (.cons _ (ar _)))) (by simp)⟩
 refine bo H 1 (#[J ck,J (nx+1),J wt,.slice A41 (tx2++[i4 s nx]).length c41]) aF Z Z Z Z Z N N fun w11 H=>U<|de 3 N Z<|G (jf Z Z I I)<|U<|de 5 N Z<|G (Wi Z)<|U<|de 6 N Z<|G (Wi Z)<|U<|de 7 N Z<|G (Wi Z)<|U<|cF N<|Zt ?_
 exact mU (cs0:= #[J ck,J (nx+1),J wt,.slice A41 (tx2++[i4 s nx]).length c41]) (v1:=J (nx+1-1)) (v2:=J 0) (v3:=J 0) Z av Z (H.ent (i:=1) Z) Z Z Z Z ⟨⟨ck,nx+1,wt,tx2++[i4 s nx],A41,c41⟩,L41,Lp,by rw[show nx+1-1=nx by omega];rfl,by unfold Co.a lR;dsimp only;rw[bl,hma];rfl,ho41,by have:=eF.snoc (t:=i4 s nx) (L':=[]) gz.nil hp2;rwa[aZ]at this,h41,by intro t ht;rcases ap.1 ht with ht|ht;exact hpc2 t ht;rw[aq.1 ht];exact ao _,H.forget (.cons _ (.cons _ (.cons _ (ar _)))) (by simp)⟩
 refine bo H 1 (#[J ck,J (nx+1),J wt,.slice A41 (tx2++[i4 s nx]).length c41]) aF Z Z Z Z Z N N fun w12 H=>U<|de 2 N Z<|G (Zd ak H 2 Z Z Z)<|U<|de 3 N Z<|G (jf Z Z I I)<|U<|de 5 N Z<|G (Wi Z)<|U<|de 6 N Z<|G (Wi Z)<|U<|de 7 N Z<|G (Wi Z)<|U<|cF N<|Zt ?_
 exact mU (cs0:= #[J ck,J (nx+1),J wt,.slice A41 (tx2++[i4 s nx]).length c41]) (v1:=J (nx+1-1)) (v2:=J 0) (v3:=J 0) Z av Z (H.ent (i:=1) Z) Z Z Z Z ⟨⟨ck,nx+1,wt,tx2++[i4 s nx],A41,c41⟩,L41,Lp,by rw[show nx+1-1=nx by omega];rfl,by unfold Co.a lR;dsimp only;rw[bl,hma];rfl,ho41,by have:=eF.snoc (t:=i4 s nx) (L':=[]) gz.nil hp2;rwa[aZ]at this,h41,by intro t ht;rcases ap.1 ht with ht|ht;exact hpc2 t ht;rw[aq.1 ht];exact ao _,H.forget (.cons _ (.cons _ (.cons _ (ar _)))) (by simp)⟩
 refine G (Zd ak H 2 Z Z Z)<|U ?_
 refine tH 0 3 N Z Z ?_ ?_
 refine G (Zw av H 2 Z Z Z)<|U ?_
 refine tH 3 4 N Z Z ?_ ?_
 refine G (jf Z Z I I)<|U<|de 4 N Z<|bo H 1 (#[J ck,J (nx+1),J wt,.slice A41 (tx2++[i4 s nx]).length c41]) aF Z Z Z Z Z N N fun w13 H=>U<|de 5 N Z<|G (Wi Z)<|U<|de 6 N Z<|G (Wi Z)<|U<|de 7 N Z<|G (Wi Z)<|U<|cF N<|Zt ?_
 exact mU (cs0:= #[J ck,J (nx+1),J wt,.slice A41 (tx2++[i4 s nx]).length c41]) (v1:=J (nx+1-1)) (v2:=J 0) (v3:=J 0) Z av Z (H.ent (i:=1) Z) Z Z Z Z ⟨⟨ck,nx+1,wt,tx2++[i4 s nx],A41,c41⟩,L41,Lp,by rw[show nx+1-1=nx by omega];rfl,by unfold Co.a lR;dsimp only;rw[bl,hma];rfl,ho41,by have:=eF.snoc (t:=i4 s nx) (L':=[]) gz.nil hp2;rwa[aZ]at this,h41,by intro t ht;rcases ap.1 ht with ht|ht;exact hpc2 t ht;rw[aq.1 ht];exact ao _,H.forget (.cons _ (.cons _ (.cons _ (ar _)))) (by simp)⟩
 refine bo H 1 (#[J ck,J (nx+1),J wt,.slice A41 (tx2++[i4 s nx]).length c41]) aF Z Z Z Z Z N N fun w14 H=>U<|de 3 N Z<|G (jf Z Z I I)<|U<|de 5 N Z<|G (Wi Z)<|U<|de 6 N Z<|G (Wi Z)<|U<|de 7 N Z<|G (Wi Z)<|U<|cF N<|Zt ?_
 exact mU (cs0:= #[J ck,J (nx+1),J wt,.slice A41 (tx2++[i4 s nx]).length c41]) (v1:=J (nx+1-1)) (v2:=J 0) (v3:=J 0) Z av Z (H.ent (i:=1) Z) Z Z Z Z ⟨⟨ck,nx+1,wt,tx2++[i4 s nx],A41,c41⟩,L41,Lp,by rw[show nx+1-1=nx by omega];rfl,by unfold Co.a lR;dsimp only;rw[bl,hma];rfl,ho41,by have:=eF.snoc (t:=i4 s nx) (L':=[]) gz.nil hp2;rwa[aZ]at this,h41,by intro t ht;rcases ap.1 ht with ht|ht;exact hpc2 t ht;rw[aq.1 ht];exact ao _,H.forget (.cons _ (.cons _ (.cons _ (ar _)))) (by simp)⟩
 refine G (jf Z Z I I)<|U<|de 0 N Z<|G (Zw av H 2 Z Z Z)<|U<|de 4 N Z<|bo H 1 (#[J ck,J (nx+1),J wt,.slice A41 (tx2++[i4 s nx]).length c41]) aF Z Z Z Z Z N N fun w15 H=>U<|de 5 N Z<|G (Wi Z)<|U<|de 6 N Z<|G (Wi Z)<|U<|de 7 N Z<|G (Wi Z)<|U<|cF N<|Zt ?_
 exact mU (cs0:= #[J ck,J (nx+1),J wt,.slice A41 (tx2++[i4 s nx]).length c41]) (v1:=J (nx+1-1)) (v2:=J 0) (v3:=J 0) Z av Z (H.ent (i:=1) Z) Z Z Z Z ⟨⟨ck,nx+1,wt,tx2++[i4 s nx],A41,c41⟩,L41,Lp,by rw[show nx+1-1=nx by omega];rfl,by unfold Co.a lR;dsimp only;rw[bl,hma];rfl,ho41,by have:=eF.snoc (t:=i4 s nx) (L':=[]) gz.nil hp2;rwa[aZ]at this,h41,by intro t ht;rcases ap.1 ht with ht|ht;exact hpc2 t ht;rw[aq.1 ht];exact ao _,H.forget (.cons _ (.cons _ (.cons _ (ar _)))) (by simp)⟩
theorem Em (n:Int) (w:World):dh aa zp [J n] w fun v w2=>v=.bool false/\Below w.heap.size w w2:=by
 refine aE yt Z Z ?_
 have H:=Hp.start w
 refine W<|Zr<|G (Wb Z)<|U<|W<|Zr<|G (Yi Z)<|G (Yi Z)<|G (bZ Z Z Z)<|G (Wb Z)<|U<|Zt ?_
 exact cH (v:=.bool false) Z Z ⟨rfl,H.below⟩
theorem Ga (a b:Int) (w:World):dh aa Bf [J a,J b] w fun v w2=>v=.bool (decide (a<b))/\Below w.heap.size w w2:=by
 refine aE zu Z Z ?_
 have H:=Hp.start w
 refine W<|Zr<|G (Wb Z)<|U<|W<|Zr<|G (Yi Z)<|ch yB (Em a _) Z Z ?_
 rintro _ w1 ⟨rfl,hb⟩;replace H:=H.later hb;clear hb
 refine G (Yb Z)<|ZN<|ZN<|ZN<|G (N Z Z)<|G (Yb Z)<|ZG<|G (Yi Z)<|ZG<|G (Yi Z)<|ZG ?_
 refine cW (cK Z Z) Z Z Z (fun h15=> ?_) (fun h15=> ?_)
 refine G (N Z Z)<|G (Wb Z)<|U<|Zt ?_
 exact cH (v:=.bool true) Z Z ⟨by rw[decide_eq_true h15],H.below⟩
 refine G (N Z Z)<|G (Wb Z)<|U<|Zt ?_
 exact cH (v:=.bool false) Z Z ⟨by rw[decide_eq_false h15],H.below⟩
theorem sT:aa.funcs[(136:Nat)]? =some Tryz.f136:=Tryz.func136
theorem sN {w0 w:World} {K M Lt:List (Nat×Obj)} {F:List cB} {es:List Int} {x:Int} {i c vb:Nat} {A:Option Addr} (H:Hp w0 w (((vb,.cells (bR.f x).toArray 3 (0,0))::K)++Lt++M) F) (ho:gz bR (.slice A es.length c) 3 es Lt) (hi:i<=es.length) (hb:(es.length+1)*8<=140737488355328):
  dh aa ru [.slice A es.length c,J (i:Nat),.slice (Qd vb) ((1:Nat)) 1] w fun v w2=> ∃ A' c' L',v=.slice A' (es.take i++[x]++es.drop i).length c'/\gz bR (.slice A' (es.take i++[x]++es.drop i).length c') 3 (es.take i++[x]++es.drop i) L'/\Hp w0 w2 (((vb,.cells (bR.f x).toArray 3 (0,0))::K)++L'++M) F:=by
 refine aE qF Z Z ?_
 show CW _ _ _ _ (args [.slice A es.length c,J (i:Nat),.slice (Qd vb) ((1:Nat)) 1]) w
 have hc0:es.length<=c:=by
  obtain⟨_,c',he,hc,_⟩:=ho.form
  injection he with _ _ he
  omega
 have hxs:(bR.f x).length=bR.sz:=bR.len x
 have hx1: ∀ u∈bR.f x,u.oneCell'=true:=fun u hu=>bR.one x u hu
 have hsv: ∀ {w2:World} {K2:List (Nat×Obj)},Hp w0 w2 ((vb,.cells (bR.f x).toArray 3 (0,0))::K2) F->wz w2 (Qd vb) 1 bR.sz (bR.all [x]):=fun h=>⟨by rw[fq.length];rfl,fun _=>⟨_,rfl,fun j u hj=>by rw[all_one]at hj;rw[Addr.add_lit,cJ];exact aB (h.ent (i:=0) Z) (by simpa using hj)⟩⟩
 refine W<|Zr<|vp Z Z<|U<|W<|Zr<|mu Z Z<|iI Z Z<|td bc Z Z I I I Z fun A12 hA12=>U<|W<|Zr<|mu Z Z<|ve eM Z Z<|pp Z Z<|U<|W<|W<|Zr<|iI Z Z<|G (nS Z Z (by decide))<|U<|ZF Z<|Zk<|W<|Zr<|mu Z Z<|ve eM Z Z<|pp Z Z<|U<|W<|W<|Zr<|iI Z Z<|iI Z Z ?_
 refine MX Z Z Z (fun h22=> ?_) (fun h22=> ?_)
 ·refine nG ?_
  refine ZT Z<|W<|Zr<|mu Z Z<|mu Z Z<|vP (Y:=bR) (es:=es) (news:=[x]) zP H ho Z Z Z (hsv H) (by show(es.length+1)*8<=_;omega) Z fun A25 c25 w25 L25 h25 h25b ho25 H25=>vp Z Z<|U<|Zt<|cH Z Z ?_
  have hi:i=es.length:=by omega
  subst hi
  have he:es.take es.length++[x]++es.drop es.length=es++[x]:=by rw[bN,fA,aZ]
  rw[he]
  exact⟨A25,c25,L25,rfl,ho25,H25⟩
 refine U<|ZF Z<|Zk ?_
 have hlt:i<es.length:=by omega
 obtain⟨g,cur,rfl,rfl,row⟩:=ho.row I
 have hgE:w.heap[g]? =some (.cells cur 3 (0,0)):=H.ent (i:=((vb,.cells (bR.f x).toArray 3 (0,0))::K:List (Nat×Obj)).length) (by simp)
 have hle:=row.le
 have hmx:=row.max
 have hlen:=uV (x:=x) (mz hlt)
 have hfit:=row.fit hle
 have hif:=row.fit (i:=i) I
 have hdr:(bR.all (es.drop i)).length=(es.length-i)*bR.sz:=by rw[fq.length,dI]
 have hsm:(i+1)*bR.sz+(es.length-i)*bR.sz=(es.length+1)*bR.sz:=by rw[<-cR];congr 1;omega
 have hi3:(i+1)*bR.sz=i*bR.sz+bR.sz:=by rw[cR,gL]
 refine W<|W<|Zr<|iI Z Z<|iI Z Z<|add Z Z I I Z<|mu Z Z<|G (E2 eM Z) ?_
 refine Ki Z Z Z (fun h31=> ?_) (fun h31=> ?_)
 ·refine nG ?_
  refine ZT Z<|W<|Zr<|mu Z Z<|iI Z Z<|Ae bc Z Z I I Z fun A34 hA34=> ?_
  obtain rfl:=hA34 I
  refine iI Z Z<|iI Z Z<|add Z Z I I Z<|iI Z Z<|sub Z Z I I Z ?_
  refine RJ (m:=es.length+1-i) zP iF H Z (kd:=.i64) (show _=Value.int _ _ from congrArg (Value.int _) (show((es.length:Int)+((1:Nat):Int))- (i:Nat)=((es.length+1-i:Nat):Int) by omega)) (olds:=bR.all (es.take i)) (by rw[fq.length,aI,bu I];rfl) (fun j u hj=>by rw[Addr.add_lit,cJ];rw[<-row.pre I,dm]at hj;split at hj;exact aB hgE (by simpa using hj);cases hj) I I (by show(((i:Nat):Int).toNat+(es.length+1-i))*8<=_;omega) Z ?_
  intro w1 g2 c2 cur2 hs2 hge2 hmx2 hp2 H
  have hs2':cur2.size=c2*bR.sz:=hs2
  have hc2:(es.length+1)*bR.sz<=cur2.size:=by rw[hs2'];exact dp _ I
  have hg2:(pf cur2 (i*bR.sz) (bR.f x)).size=cur2.size:=jM (by rw[hxs];omega)
  refine vp Z Z<|U<|W<|Zr<|mu Z Z<|iI Z Z<|td bc Z Z I I I Z fun A43 hA43=>mu Z Z ?_
  have hsrc:=hsv (H.perm (am _ _ _))
  refine Pb (K:=[]) (m:=1) (o:=i*bR.sz) bc H Z Z (Dg Z I) (fun _=>wA.at0 hA43 I) hsrc (by rw[all_one];exact hx1) (by rw[all_one,hxs];omega) Z ?_
  rw[all_one]
  intro w2 H
  refine U<|W ?_
  refine bA cd [0,1,2,3,4,5,6,7] [8] [] [0,1,2,3,4,5,6,7] (sp []) N N N N Nq (cI _) ?_
  refine aw Z Z Z Z Z (fun _ _=>iD Z)<|aw Z Z Z Z Z (fun _ _=>iD Z)<|aw Z Z Z Z Z (fun _ _=>iD Z)<|aw Z Z Z Z Z (fun _ _=>bw Z Z I I)<|aw Z Z Z Z Z (fun _ _=>pH bc Z Z I I)<|aw Z Z Z Z Z (fun _ _=>iD Z)<|aw Z Z Z Z Z (fun _ _=>iD Z)<|aw Z Z Z Z Z (fun _ _=>pH bc Z Z I I)<|aV ?_
  intro w' hw' _;replace H:=H.later hw';clear hw'
  have hgE2:w'.heap[g]? =some (.cells cur 3 (0,0)):=(H.ents (g,.cells cur 3 (0,0)) (by simp)).1
  refine Pb (K:=[]) (m:=es.length-i) (o:=(i+1)*bR.sz) bc H Z Z (Dg I I) (fun _=>BI I) (row.srcFrom hgE2 I (sa (ao _)) I) (fq.all_one _) (by rw[hdr,hg2];omega) Z ?_
  intro w3 H
  refine U<|W<|Zr<|mu Z Z<|vp Z Z<|U<|Zt<|cH Z Z ?_
  exact⟨some ⟨g2,0,none⟩,c2,_,by rw[hlen];show Value.slice _ (((i:Nat):Int).toNat+(es.length+1-i)) _=_;congr 1;omega,dX.own (dX.insNew hs2' hmx2 hp2 (mz hlt) I),H.swapRow⟩
 refine U<|ZF Z<|Zk ?_
 have hroom:es.length+1<=c:=by omega
 have hfr:=row.fit hroom
 refine W<|Zr<|mu Z Z<|iI Z Z<|iI Z Z<|add Z Z I I Z<|Ae bc Z Z I I Z fun A60 hA60=> ?_
 obtain rfl:=hA60 I
 refine vp Z Z<|U<|W<|W<|Zr<|mu Z Z<|mu Z Z<|iI Z Z<|iI Z Z<|add Z Z I I Z<|td bc Z Z I I I Z fun A66 hA66=> ?_
 have hA:=wA.at0 hA66 I
 have hvE:w.heap[vb]? =some (.cells (bR.f x).toArray 3 (0,0)):=H.ent (i:=0) Z
 have hne:vb≠g:=fun he=>by
  have:=H.nodup
  simp only[bl,ey,qA,kX,ap]at this
  exact this.1 (.inl (.inr (by rw[he];exact az)))
 have hov: ∀ lb cb,(callFunc tz #[.slice (Qd vb) 1 1,.slice A66 lb cb]).run aa w=.ok (.value (.bool false)) w:=fun lb cb=>by
  rw[hA,run_callFunc_extern sT N N N (e:=Extern.SlicesOverlaps.overlaps #[yF,yF] #[jr]) N,
   Lib.run_overlaps_apart w yF jr db (fd bc).1 bR.sz (by obtain⟨_,j,h1,h2⟩:=fd bc;exact fun w=>by rw[fP h1,h2];rfl) ⟨vb,0,none⟩ _ 1 1 lb cb hne db db (bR.f x).length cur.size (by simp[World.shape?,hvE]) (by simp[World.shape?,hgE]) (by have:=bR.pos;have:=row.fit (i:=1) I;omega) (by simp[World.frozen?,hvE]) (by simp[World.frozen?,hvE])]
  rfl
 refine QH (hov _ _) Z Z<|not Z Z<|U<|ZT Z<|W ?_
 refine bA cd [0,1,2,3,4,5,6,7] [8] [] [0,1,2,3,4,5,6,7] (sp []) N N N N Nq (cI _) ?_
 refine aw Z Z Z Z Z (fun _ _=>iD Z)<|aw Z Z Z Z Z (fun _ _=>iD Z)<|aw Z Z Z Z Z (fun _ _=>iD Z)<|aw Z Z Z Z Z (fun _ _=>bw Z Z I I)<|aw Z Z Z Z Z (fun _ _=>pH bc Z Z I I)<|aw Z Z Z Z Z (fun _ _=>iD Z)<|aw Z Z Z Z Z (fun _ _=>iD Z)<|aw Z Z Z Z Z (fun _ _=>pH bc Z Z I I)<|aV ?_
 intro w' hw' _;replace H:=H.later hw';clear hw'
 have hgE2:w'.heap[g]? =some (.cells cur 3 (0,0)):=(H.ents (g,.cells cur 3 (0,0)) (by simp)).1
 have hz1:(pf cur ((i+1)*bR.sz) (bR.all (es.drop i))).size=cur.size:=jM (by rw[hdr];omega)
 refine Pb (m:=es.length-i) (o:=(i+1)*bR.sz) bc H Z Z (O5 I I) (fun _=>BI I) (row.srcFrom hgE2 I (sa (ao _)) I) (fq.all_one _) (by rw[hdr];omega) Z ?_
 intro w2 H
 refine U<|W<|Zr<|mu Z Z<|iI Z Z<|td bc Z Z I I I Z fun A80 hA80=>mu Z Z ?_
 have hsrc:=hsv H
 refine Pb (m:=1) (o:=i*bR.sz) bc H Z Z (Dg Z I) (fun _=>wA.at0 hA80 I) hsrc (by rw[all_one];exact hx1) (by rw[all_one,hxs,hz1];omega) Z ?_
 rw[all_one]
 intro w3 H
 refine U<|W<|Zr<|mu Z Z<|vp Z Z<|U<|Zt<|cH Z Z ?_
 exact⟨some ⟨g,0,none⟩,c,_,by rw[hlen];show Value.slice _ ((es.length:Int)+((1:Nat):Int)).toNat _=_;congr 1,dX.own (row.insIn (mz hlt) hroom),H⟩
theorem xt {w0 w:World} {K M Lt:List (Nat×Obj)} {F:List cB} {es:List Int} {i j c:Nat} {A:Option Addr} (H:Hp w0 w (K++Lt++M) F) (ho:gz bR (.slice A es.length c) 3 es Lt) (hij:i<=j) (hj:j<=es.length) (hb:es.length*8<=140737488355328):
  dh aa rx [.slice A es.length c,J (i:Nat),J (j:Nat)] w fun v w2=> ∃ A' c' L',v=.slice A' (es.take i++es.drop j).length c'/\gz bR (.slice A' (es.take i++es.drop j).length c') 3 (es.take i++es.drop j) L'/\Hp w0 w2 (K++L'++M) F:=by
 refine aE qH Z Z ?_
 show CW _ _ _ _ (args [.slice A es.length c,J (i:Nat),J (j:Nat)]) w
 have hc0:es.length<=c:=by
  obtain⟨_,c',he,hc,_⟩:=ho.form
  injection he with _ _ he
  omega
 refine W<|Zr<|vp Z Z<|U<|W<|Zr<|mu Z Z<|iI Z Z<|iI Z Z<|mu Z Z<|ve eM Z Z<|Q1 bc Z Z Z Z ⟨by omega,by omega⟩ I I Z fun A13 l13 c13=>U<|W<|W<|Zr<|iI Z Z<|iI Z Z ?_
 refine MX Z Z Z (fun h16=> ?_) (fun h16=> ?_)
 refine U<|ZT Z<|W<|Zr<|mu Z Z<|vp Z Z<|U<|Zt<|cH Z Z ?_
 have hij:i=j:=by omega
 subst hij
 rw[gQ]
 exact⟨A,c,Lt,rfl,ho,H⟩
 refine U<|ZF Z<|Zk ?_
 have hlt:i<j:=by omega
 obtain⟨g,cur,rfl,rfl,row⟩:=ho.row I
 have hle:=row.le
 have hmx:=row.max
 have hlen:=ER hij hj
 have hfit:=row.fit hle
 have hif:=row.fit (i:=i) I
 have hdr:(bR.all (es.drop j)).length=(es.length-j)*bR.sz:=by rw[fq.length,dI]
 refine W<|Zr<|mu Z Z<|ve eM Z Z<|pp Z Z<|U<|W ?_
 refine bA cd [0,1,2,3,4,5] [6,7] [] [0,1,2,3,4,5] (sp []) N N N N Nq (cI _) ?_
 refine aw Z Z Z Z Z (fun _ _=>iD Z)<|aw Z Z Z Z Z (fun _ _=>iD Z)<|aw Z Z Z Z Z (fun _ _=>DY bc Z Z I I)<|aw Z Z Z Z Z (fun _ _=>iD Z)<|aw Z Z Z Z Z (fun _ _=>iD Z)<|aw Z Z Z Z Z (fun _ _=>pH bc Z Z I I)<|aV ?_
 intro w' hw' _;replace H:=H.later hw';clear hw'
 have hgE2:w'.heap[g]? =some (.cells cur 3 (0,0)):=(H.ents (g,.cells cur 3 (0,0)) (by simp)).1
 have hs1:i*bR.sz+(bR.all (es.drop j)).length=(i+(es.length-j))*bR.sz:=by rw[hdr,<-cR]
 have hs2:=row.fit (i:=i+(es.length-j)) I
 have hz1:(pf cur (i*bR.sz) (bR.all (es.drop j))).size=cur.size:=jM I
 refine R4 (k:=i) (c:=c) (m:=es.length-j) bc H (show _=Value.slice _ _ _ by show Value.slice (cut _ c 0 _) _ _=_;rw[BI I,wD];rfl) Z (row.srcFrom hgE2 hj (sa hc0) I) (fq.all_one _) I (by show i*bR.sz+_<=_;omega) Z ?_
 intro w1 H
 replace H:Hp w0 w1 (K++[(g,.cells (pf cur (i*bR.sz) (bR.all (es.drop j))) 3 (0,0))]++M) F:=H
 refine vp Z Z<|U<|W<|Zr<|mu Z Z<|mu Z Z<|ve eM Z Z<|iI Z Z<|O0 bc Z Z Z I I I Z fun A31 hA31=> ?_
 have hzc:(((es.length:Nat):Int).toNat- ((i+(es.length-j):Nat):Int).toNat)*bR.sz+(i+(es.length-j))*bR.sz=es.length*bR.sz:=by rw[<-cR];congr 1;omega
 refine RD (o:=(i+(es.length-j))*bR.sz) (z:=J 0) bc N Z Z H Z (fun _=>wA.at0 hA31 I) (by rw[hz1];show _+(((es.length:Nat):Int).toNat- ((i+(es.length-j):Nat):Int).toNat)*bR.sz<=_;omega) ?_
 intro w2 H
 refine U<|W<|Zr<|mu Z Z<|vp Z Z<|U<|Zt<|cH Z Z ?_
 have hzl: ∀ m,(Builtin.zeroCells (Value.cells (J 0)) m).toList.length=m*bR.sz:=fun m=>by rw[cn,size_zeroCells];rfl
 have hr:=row.del hij hj (ao ((i+(es.length-j))*bR.sz)) (zs:=(Builtin.zeroCells (Value.cells (J 0)) (((es.length:Nat):Int).toNat- ((i+(es.length-j):Nat):Int).toNat)).toList) (by
  rw[hzl]
  show _+(((es.length:Nat):Int).toNat- ((i+(es.length-j):Nat):Int).toNat)*bR.sz<=_
  omega)
 exact⟨some ⟨g,0,none⟩,c,_,by rw[hlen];rfl,dX.own hr,H⟩
theorem Pu {P:Program} {ρ:gY} {w:World} {t:TypeId} {p:String} {af:Array Edge} {g:Option (Nat×Bool)} {dst:Option Nat} {x y:Operand} {ty ty':TypeId} {a b:Nat} {k:IntKind} (hx:ev ρ x=.int .u64 a) (hy:ev ρ y=.int k b) (hb:b<=64):(execOp (ev ρ) (Og dst (.binOp .shr ty x y ty') t p af g)).run P w=.ok (.value (.int .u64 (a/2 ^ b:Nat))) w:=by
 have e:(a:Int).fdiv (2 ^ b)=((a/2 ^ b:Nat):Int):=by
  rw[Int.fdiv_eq_ediv_of_nonneg _ (Int.le_of_lt (Int.pow_pos (by decide)))]
  simp
 simp only[execOp,hx,hy,eqGuard,binOp,Op.shift,Sem.run_bind,Sem.run_pure]
 simp[e,bu (show b<=IntKind.u64.bits from hb)]
 intro h;omega
theorem Qn {n:Nat} (h:n<=9000000000000000000):IntKind.u64.wrap (n:Int)=n:=by
 simp only[IntKind.wrap,IntKind.bits,IntKind.signed]
 simp
 omega
theorem rises {es:List Int} (h:es.Pairwise (· < ·)) {i j:Nat} {a b:Int} (hi:es[i]? =some a) (hj:es[j]? =some b) (hij:i<=j):a<=b:=by
 obtain⟨h1,rfl⟩:=aA.1 hi
 obtain⟨h2,rfl⟩:=aA.1 hj
 rcases iT i j with h3|h3
 exact Int.le_of_lt (m8.1 h i j h1 h2 h3)
 have:i=j:=by omega
 subst this
 exact fj _
theorem B8 (n:Int) (w:World):dh aa wm [J n] w fun v w2=>v=.bool false/\Below w.heap.size w w2:=by
 refine aE vk Z Z ?_
 have H:=Hp.start w
 refine W<|Zr<|G (Wb Z)<|U<|W<|Zr<|G (Yi Z)<|G (Yi Z)<|G (bZ Z Z Z)<|G (Wb Z)<|U<|Zt ?_
 exact cH (v:=.bool false) Z Z ⟨rfl,H.below⟩
theorem qt (es:List Int) (t:Int) (A:Option Addr) (c:Nat) (w:World) (hr:Rd bR 0 w.heap.size A es w) (hb:es.length<=1000000) (hp:es.Pairwise (· < ·)):
  dh aa nJ [.slice A es.length c,J t] w fun v w2=> ∃ i:Nat,v=.tuple #[J (i:Nat),.bool (decide (es[i]? =some t))]/\i<=es.length/\(∀ k y,es[k]? =some y->k<i->y<t)/\(∀ k y,es[k]? =some y->i<=k->t<=y)/\Below w.heap.size w w2:=by
 refine aE nh Z Z ?_
 have H:=Hp.startRd hr
 show CW _ _ _ _ (args [.slice A es.length c,J t]) w
 refine W<|Zr<|G (Wi Z)<|G (Wb Z)<|U<|W<|Zr<|G (Ys Z)<|G (br eM Z)<|G (Wi Z)<|U<|W<|Zr<|G (Yi Z)<|G (Wi Z)<|G (Wi Z)<|U<|W<|Zb ?_
 refine cD (τ:=Nat×Nat) [7,8,9,13,14,15,16,17,18,19,20,21,22,23,24,25,26,27,28,29,30] (fun(l,r)=>[(7,J (l:Nat)),(8,J (r:Nat))]) (fun(l,r) w'=>l<=r/\r<=es.length/\(∀ k y,es[k]? =some y->k<l->y<t)/\(∀ k y,es[k]? =some y->r<=k->t<=y)/\Hp w w' [] [dU bR 0 w.heap.size A es]) (fun(l,r)=>r-l) (0,es.length) ⟨by omega,by omega,by intro k y _ h;omega,by intro k y h1 h2;have:=(cC h1).1;omega,H⟩ (li Z Z) ?_
 rintro⟨l,r⟩ ρ1 w1 ⟨hlr,hrn,hlo,hhi,H⟩
 show CW _ _ _ _ (dH (gZ _ _ ρ1) [(7,J (l:Nat)),(8,J (r:Nat))]) w1
 refine W<|W<|Zr<|G (Yi Z)<|G (Yi Z) ?_
 refine cW (cK Z Z) Z Z Z (fun h15=> ?_) (fun h15=> ?_)
 refine U<|ZT Z<|Zk<|Zb<|W<|Zr<|G (Yi Z)<|G (Yi Z)<|G (bw Z Z I I) ?_
 rw[show((l:Nat):Int)+((r:Nat):Int)=((l+r:Nat):Int) by omega]
 refine G (Dx iF Gc Z (Qn I))<|G (Pu Z (b:=1) Z I) ?_
 obtain⟨m,hm,hm1,hm2⟩: ∃ m:Nat,(l+r)/2 ^ 1=m/\l<=m/\m<r:=⟨(l+r)/2,rfl,by omega,by omega⟩
 rw[hm]
 refine G (Dx Gc iF Z (vu I))<|G (Wi Z)<|U<|W<|Zr<|G (Ys Z)<|G (Yi Z)<|qB H 0 Z bc Z Z I I Z fun b2 o2 x2 e2=>G (aW ak Z (e2.cl 0 _ Z))<|G (Yi Z)<|ch zC (Ga x2 t _) Z Z ?_
 rintro _ w3 ⟨rfl,hb⟩;replace H:=H.later hb;clear hb
 refine U ?_
 refine jw Z (fun hc27=> ?_) (fun hc27=> ?_)
 refine Zr<|G (Yi Z)<|G (bw Z Z I I)<|G (Wi Z)<|U ?_
 refine⟨(m+1,r),⟨by omega,hrn,fun k y h1 h2=>Int.lt_of_le_of_lt (rises hp h1 e2.at_ I) (of_decide_eq_true hc27),hhi,H⟩,li Z Z,Qg,by show r- (m+1)<r-l;omega⟩
 refine Zr<|G (Yi Z)<|G (Wi Z)<|U ?_
 refine⟨(l,m),⟨hm1,by omega,hlo,fun k y h1 h2=>by have h3:=rises hp e2.at_ h1 h2;have h4:=of_decide_eq_false hc27;omega,H⟩,li Z Z,Qg,by show m-l<r-l;omega⟩
 refine U<|ZF Z<|Zx<|W<|Zr<|G (Yi Z)<|G (Yi Z)<|G (Yi Z) ?_
 refine cW (cK Z Z) Z Z Z (fun h34=> ?_) (fun h34=> ?_)
 refine G (Yb Z)<|ZG<|G (Ys Z)<|ZG<|G (Yi Z)<|ZG<|qB H 0 Z bc Z Z I I Z fun b4 o4 x4 e4=>ZG<|G (aW ak Z (e4.cl 0 _ Z))<|ZG<|G (Yi Z)<|ZG ?_
 refine cW (bn Z Z) Z Z Z (fun h41=> ?_) (fun h41=> ?_)
 refine ZG<|G (Yb Z)<|ZN<|ZN<|ZN<|ZN<|ZN<|ZN<|ZN<|ZN<|ZN<|ZG<|G (Kt Z Z)<|G (Kt Z Z)<|G (Wi Z)<|G (Wb Z)<|U<|Zt ?_
 have hd:decide (es[l]? =some t)=true:=by rw[e4.at_,h41];exact decide_eq_true Z
 exact mr Z Z Z ⟨l,by rw[hd];rfl,by omega,hlo,by intro k y h1 h2;exact hhi k y h1 I,H.below⟩
 refine ZG<|G (Yb Z)<|ZG<|G (Ys Z)<|ZG<|G (Yi Z)<|ZG<|qB H 0 Z bc Z Z I I Z fun b5 o5 x5 e5=>ZG<|G (aW ak Z (e5.cl 0 _ Z))<|ZG<|ch vo (B8 _ _) Z Z ?_
 rintro _ w6 ⟨rfl,hb⟩;replace H:=H.later hb;clear hb
 refine ZG<|G (Yb Z)<|ZN<|ZN<|ZG<|G (N Z Z)<|ZG<|G (N Z Z)<|G (Kt Z Z)<|G (Wi Z)<|G (Wb Z)<|U<|Zt ?_
 have hd:decide (es[l]? =some t)=false:=by rw[e4.at_];exact decide_eq_false (fun h=>h41 (ba h))
 exact mr Z Z Z ⟨l,by rw[hd];rfl,by omega,hlo,by intro k y h1 h2;exact hhi k y h1 I,H.below⟩
 refine G (Yb Z)<|ZN<|ZN<|ZN<|ZN<|ZN<|ZN<|ZN<|ZN<|ZN<|ZN<|ZN<|ZN<|ZN<|ZN<|ZN<|ZN<|ZN<|G (N Z Z)<|G (Wi Z)<|G (Wb Z)<|U<|Zt ?_
 have hd:decide (es[l]? =some t)=false:=by rw[cL I];rfl
 exact mr Z Z Z ⟨l,by rw[hd];rfl,by omega,hlo,by intro k y h1 h2;exact hhi k y h1 I,H.below⟩
/-- a part more, in its place -/
def kK (l:List Int) (p:Int):List Int:=if p∈l then l else l.filter (fun q=>decide (q<p))++[p]++l.filter (fun q=>decide (p<=q))
def iM (ck:Int) (p:Int) (t:Tx):Tx:=if t.state=1 then{t with state:=2,since:=ck,parts:=kK t.parts p}else{t with parts:=kK t.parts p}
theorem P1 {l:List Int} {p:Int} {i:Nat} (h1: ∀ k y,l[k]? =some y->k<i->y<p) (h2: ∀ k y,l[k]? =some y->i<=k->p<=y):l.take i=l.filter (fun q=>decide (q<p))/\l.drop i=l.filter (fun q=>decide (p<=q)):=by
 have ha: ∀ y∈l.take i,y<p:=fun y hy=>by
  obtain⟨k,hk⟩:=aT.1 hy
  rw[dm]at hk
  split at hk
  exact h1 k y hk ‹_›
  cases hk
 have hb: ∀ y∈l.drop i,p<=y:=fun y hy=>by
  obtain⟨k,hk⟩:=aT.1 hy
  rw[dx]at hk
  exact h2 _ y hk I
 have e1:l.filter (fun q=>decide (q<p))=(l.take i).filter (fun q=>decide (q<p))++(l.drop i).filter (fun q=>decide (q<p)):=by rw[<-jj,gQ]
 have e2:l.filter (fun q=>decide (p<=q))=(l.take i).filter (fun q=>decide (p<=q))++(l.drop i).filter (fun q=>decide (p<=q)):=by rw[<-jj,gQ]
 rw[e1,e2,j4.2 (fun y hy=>decide_eq_true (ha y hy)),wF.2 (fun y hy=>by have:=hb y hy;simpa using this),
  wF.2 (fun y hy=>by have:=ha y hy;simpa using this),j4.2 (fun y hy=>decide_eq_true (hb y hy))]
 simp
theorem E7 {l:List Int} {p:Int} {i:Nat} (h1: ∀ k y,l[k]? =some y->k<i->y<p) (h2: ∀ k y,l[k]? =some y->i<=k->p<=y) (hp:l.Pairwise (· < ·)) (hn: ¬ l[i]? =some p):l.take i++[p]++l.drop i=kK l p:=by
 obtain⟨e1,e2⟩:=P1 h1 h2
 have hm:p∉l:=fun hm=>by
  obtain⟨k,hk⟩:=aT.1 hm
  by_cases hki:k<i
  have:=h1 k p hk hki;omega
  have hki:i<=k:=by omega
  have hl:=(cC hk).1
  obtain⟨x,hx⟩: ∃ x,l[i]? =some x:=⟨_,ah I⟩
  have h3:=rises hp hx hk hki
  have h4:=h2 i x hx (ao _)
  exact hn (by rw[hx];congr 1;omega)
 unfold kK
 rw[if_neg hm,e1,e2]
theorem yE {l:List Int} {p:Int} {i:Nat} (h:l[i]? =some p):kK l p=l:=if_pos (ab h)
theorem vE {w0 w:World} {F:List cB} (X A B C:List (Nat×Obj)) (H:Hp w0 w (X++((A++B++C)++[])) F):Hp w0 w ((X++A)++B++C) F:=by simpa using H
theorem Bh {w0 w:World} {F:List cB} (X A B C:List (Nat×Obj)) (H:Hp w0 w ((X++A)++B++C) F):Hp w0 w (X++((A++B++C)++[])) F:=by simpa using H
theorem DE {ck p:Int} {t t':Tx} (h:t'.a=t.a):(iM ck p t').a=(iM ck p t).a:=by
 have e: ∀ t:Tx,(iM ck p t).a=iM ck p t.a:=fun t=>by
  unfold iM
  by_cases h:t.state=1
  rw[if_pos h,if_pos (show t.a.state=1 from h)];rfl
  rw[if_neg h,if_neg (show¬ t.a.state=1 from h)];rfl
 rw[e,e,h]
theorem jU {ts:List Tx} (h: ∀ t∈ts,t.parts.length<=t.cap) (i:Nat) {t':Tx} (h2:t'.parts.length<=t'.cap): ∀ x∈ts.set i t',x.parts.length<=x.cap:=fun x hx=>by
 rcases aM hx with hx|rfl
 exact h x hx
 exact h2
theorem Nl (c:Co) (s:ByteArray) (ver p:Int) (w:World) (h:c.rd 0 w.heap.size w) (hok:gI c=true) (hn:bL s=true) (hi:fR c s= -1):dh aa oE [c.v,.string s,J ver,J p] w fun v w2=>v=.tuple #[.agg #[J 0,J 0,J 0,.slice none 0 0],J 5]/\Below w.heap.size w w2:=by
 refine aE pT Z Z ?_
 have hcap:=h.cap
 have hfew:=h.few
 have hfp:=h.fewP
 have H:=Hp.startCo h
 obtain⟨ck,nx,wt,txs,cA,cc⟩:=c
 dsimp only at hcap hfew hfp H
 show CW _ _ _ _ (args [.agg #[J ck,J nx,J wt,.slice cA txs.length cc],.string s,J ver,J p]) w
 refine W<|Zr<|f7 H Z Z fun w1 b4 H=>eP H cM Z fun w2 b8 H=>G (Wi Z)<|U<|W<|Zr<|G (Zw av H 1 Z Z Z)<|G (Yt Z)<|G (Yi Z)<|ch gK (AS ⟨ck,nx,wt,txs,cA,cc⟩ s ver _ ⟨H.rd0 0 Z,fun t ht=>fE H 1 Z ht,hcap,hfew,hfp⟩ hok hn hi) Z Z ?_
 rintro _ w3 ⟨rfl,hb⟩;replace H:=H.later hb;clear hb
 refine G (Yu Z)<|G (Xa Z Z)<|G (Xi Z Z)<|G (Xi Z Z)<|bo H 1 (#[J (0),J (0),J (0),.slice none 0 0]) aF Z Z Z Z Z N N fun w4 H=>G (Wi Z)<|G (Wi Z)<|U<|W<|W<|Zr<|G (Yi Z)<|G (kh Z Z (by decide))<|U<|ZT Z<|W<|Zr<|G (bg (cs:= #[J (0),J (0),J (0),.slice none 0 0]) fG cM N)<|G (Yi Z)<|bo H 0 (#[J (0),J (0),J (0),.slice none 0 0]) aF Z Z Z Z Z N N fun w5 H=>G (Wi Z)<|U<|Zt ?_
 exact bE (cs0:= #[J 0,J 0,J 0,.slice none 0 0]) (v1:=J 5) Z av Z (H.ent (i:=0) Z) Z Z ⟨rfl,H.below⟩
theorem KP (c:Co) (s:ByteArray) (ver p:Int) (i:Nat) (t:Tx) (w:World) (h:c.rd 0 w.heap.size w) (hok:gI c=true) (hn:bL s=true) (hi:fR c s=i) (ht:c.txs[i]? =some t) (hv:t.ver≠ver):dh aa oE [c.v,.string s,J ver,J p] w fun v w2=>v=.tuple #[.agg #[J 0,J 0,J 0,.slice none 0 0],J 10]/\Below w.heap.size w w2:=by
 refine aE pT Z Z ?_
 have hcap:=h.cap
 have hfew:=h.few
 have hfp:=h.fewP
 have H:=Hp.startCo h
 obtain⟨ck,nx,wt,txs,cA,cc⟩:=c
 dsimp only at hcap hfew hfp H
 show CW _ _ _ _ (args [.agg #[J ck,J nx,J wt,.slice cA txs.length cc],.string s,J ver,J p]) w
 dsimp only at ht
 refine W<|Zr<|f7 H Z Z fun w1 b4 H=>eP H cM Z fun w2 b8 H=>G (Wi Z)<|U<|W<|Zr<|G (Zw av H 1 Z Z Z)<|G (Yt Z)<|G (Yi Z)<|ch gK (yV ⟨ck,nx,wt,txs,cA,cc⟩ s ver i t _ ⟨H.rd0 0 Z,fun t ht=>fE H 1 Z ht,hcap,hfew,hfp⟩ hok hn hi ht hv) Z Z ?_
 rintro _ w3 ⟨rfl,hb⟩;replace H:=H.later hb;clear hb
 refine G (Yu Z)<|G (Xa Z Z)<|G (Xi Z Z)<|G (Xi Z Z)<|bo H 1 (#[J (0),J (0),J (0),.slice none 0 0]) aF Z Z Z Z Z N N fun w4 H=>G (Wi Z)<|G (Wi Z)<|U<|W<|W<|Zr<|G (Yi Z)<|G (kh Z Z (by decide))<|U<|ZT Z<|W<|Zr<|G (bg (cs:= #[J (0),J (0),J (0),.slice none 0 0]) fG cM N)<|G (Yi Z)<|bo H 0 (#[J (0),J (0),J (0),.slice none 0 0]) aF Z Z Z Z Z N N fun w5 H=>G (Wi Z)<|U<|Zt ?_
 exact bE (cs0:= #[J 0,J 0,J 0,.slice none 0 0]) (v1:=J 10) Z av Z (H.ent (i:=0) Z) Z Z ⟨rfl,H.below⟩
theorem KO (c:Co) (s:ByteArray) (ver p:Int) (i:Nat) (t:Tx) (w:World) (h:c.rd 0 w.heap.size w) (hok:gI c=true) (hn:bL s=true) (hi:fR c s=i) (ht:c.txs[i]? =some t) (hv:t.ver=ver) (hp0:0<=p) (hp3:p<4) (h1:t.state≠1) (h2:t.state≠2):dh aa oE [c.v,.string s,J ver,J p] w fun v w2=>v=.tuple #[.agg #[J 0,J 0,J 0,.slice none 0 0],J 12]/\Below w.heap.size w w2:=by
 refine aE pT Z Z ?_
 have hcap:=h.cap
 have hfew:=h.few
 have hfp:=h.fewP
 have H:=Hp.startCo h
 obtain⟨ck,nx,wt,txs,cA,cc⟩:=c
 dsimp only at hcap hfew hfp H
 show CW _ _ _ _ (args [.agg #[J ck,J nx,J wt,.slice cA txs.length cc],.string s,J ver,J p]) w
 dsimp only at ht
 refine W<|Zr<|f7 H Z Z fun w1 b4 H=>eP H cM Z fun w2 b8 H=>G (Wi Z)<|U<|W<|Zr<|G (Zw av H 1 Z Z Z)<|G (Yt Z)<|G (Yi Z)<|ch gK (wZ ⟨ck,nx,wt,txs,cA,cc⟩ s ver i t _ ⟨H.rd0 0 Z,fun t ht=>fE H 1 Z ht,hcap,hfew,hfp⟩ hok hn hi ht hv) Z Z ?_
 rintro _ w3 ⟨⟨ck2,nx2,wt2,tx2,A2,c2⟩,Lr,Lp,rfl,ha2,ho2,hp2,hoc2,hpc2,hj2⟩
 replace H:=H.joinR hj2;clear hj2
 simp only[Co.a,Co.mk.injEq]at ha2
 obtain⟨e1,e2,e3,hma,-,-⟩:=ha2
 obtain rfl:ck=ck2:=e1.symm
 obtain rfl:nx=nx2:=e2.symm
 obtain rfl:wt=wt2:=e3.symm
 dsimp only at ho2 hp2 hoc2 hpc2 H
 obtain⟨t2,ht2,hta⟩:=rm hma ht
 have hl2:=(cC ht2).1
 obtain⟨g,cur,rfl,rfl,row⟩:=ho2.row I
 have hst:t2.state=t.state:=by show t2.a.state=t.a.state;rw[hta]
 have hdn:t2.done=t.done:=by show t2.a.done=t.a.done;rw[hta]
 have hpt:t2.parts=t.parts:=by show t2.a.parts=t.a.parts;rw[hta]
 refine G (Yu Z)<|G (Xa Z Z)<|G (Xi Z Z)<|G (Xi Z Z)<|bo H 1 (#[J (ck),J (nx),J (wt),.slice (Qd g) tx2.length c2]) aF Z Z Z Z Z N N fun w4 H=>G (Wi Z)<|G (Wi Z)<|U<|W<|W<|Zr<|G (Yi Z)<|G (bZ Z Z Z)<|U<|ZF Z<|Zk<|W<|W<|Zr<|G (Yi Z)<|G (dd Z Z I)<|G (Yb Z)<|ZG<|G (Yi Z)<|ZG<|G (rD Z Z I)<|G (N Z Z)<|U<|ZF Z<|Zk<|W<|Zr<|G (Zf cQ Z)<|G (Zd dL H 1 Z Z Z)<|G (Yi Z)<|G (cG gM Z Z (by first|omega|(simp only[ae];omega)))<|G (Wp Z)<|U<|W<|W ?_
 refine Zr<|G (Yp Z)<|G (aJ Z)<|G (Zf cS Z)<|G (bP ak row ht2 3 Z (H.ent (i:=2) Z) Z)<|U<|Zb<|W<|Zr<|G (nS Z Z I)<|G (Wb Z)<|U<|ZF Z<|W<|Zr<|G (nS Z Z I)<|G (Wb Z)<|U<|ZF Z<|W<|Zr<|G (bg (cs:= #[J (0),J (0),J (0),.slice none 0 0]) fG cM N)<|bo H 0 (#[J (0),J (0),J (0),.slice none 0 0]) aF Z Z Z Z Z N N fun w5 H=>G (Wi Z)<|U<|Zt ?_
 exact bE (cs0:= #[J 0,J 0,J 0,.slice none 0 0]) (v1:=J 12) Z av Z (H.ent (i:=0) Z) Z Z ⟨rfl,H.below⟩
theorem Qa (c:Co) (s:ByteArray) (ver p:Int) (i:Nat) (t:Tx) (w:World) (h:c.rd 0 w.heap.size w) (hok:gI c=true) (hn:bL s=true) (hi:fR c s=i) (ht:c.txs[i]? =some t) (hv:t.ver=ver) (hp0:0<=p) (hp3:p<4) (h12:t.state=1∨t.state=2) (hpo:cT (-1) t.parts=true):dh aa oE [c.v,.string s,J ver,J p] w fun v w2=> ∃ (c':Co) (Lr Lp:List (Nat×Obj)),v=.tuple #[c'.v,J 0]/\qv w w2 (Co.a {c with txs:=c.txs.set i (iM c.clock p t)}) c' Lr Lp:=by
 refine aE pT Z Z ?_
 have hcap:=h.cap
 have hfew:=h.few
 have hfp:=h.fewP
 have H:=Hp.startCo h
 obtain⟨ck,nx,wt,txs,cA,cc⟩:=c
 dsimp only at hcap hfew hfp H
 show CW _ _ _ _ (args [.agg #[J ck,J nx,J wt,.slice cA txs.length cc],.string s,J ver,J p]) w
 dsimp only at ht⊢
 refine W<|Zr<|f7 H Z Z fun w1 b4 H=>eP H cM Z fun w2 b8 H=>G (Wi Z)<|U<|W<|Zr<|G (Zw av H 1 Z Z Z)<|G (Yt Z)<|G (Yi Z)<|ch gK (wZ ⟨ck,nx,wt,txs,cA,cc⟩ s ver i t _ ⟨H.rd0 0 Z,fun t ht=>fE H 1 Z ht,hcap,hfew,hfp⟩ hok hn hi ht hv) Z Z ?_
 rintro _ w3 ⟨⟨ck2,nx2,wt2,tx2,A2,c2⟩,Lr,Lp,rfl,ha2,ho2,hp2,hoc2,hpc2,hj2⟩
 replace H:=H.joinR hj2;clear hj2
 simp only[Co.a,Co.mk.injEq]at ha2
 obtain⟨e1,e2,e3,hma,-,-⟩:=ha2
 obtain rfl:ck=ck2:=e1.symm
 obtain rfl:nx=nx2:=e2.symm
 obtain rfl:wt=wt2:=e3.symm
 dsimp only at ho2 hp2 hoc2 hpc2 H
 obtain⟨t2,ht2,hta⟩:=rm hma ht
 have hl2:=(cC ht2).1
 obtain⟨g,cur,rfl,rfl,row⟩:=ho2.row I
 have hst:t2.state=t.state:=by show t2.a.state=t.a.state;rw[hta]
 have hdn:t2.done=t.done:=by show t2.a.done=t.a.done;rw[hta]
 have hpt:t2.parts=t.parts:=by show t2.a.parts=t.a.parts;rw[hta]
 refine G (Yu Z)<|G (Xa Z Z)<|G (Xi Z Z)<|G (Xi Z Z)<|bo H 1 (#[J (ck),J (nx),J (wt),.slice (Qd g) tx2.length c2]) aF Z Z Z Z Z N N fun w4 H=>G (Wi Z)<|G (Wi Z)<|U<|W<|W<|Zr<|G (Yi Z)<|G (bZ Z Z Z)<|U<|ZF Z<|Zk<|W<|W<|Zr<|G (Yi Z)<|G (dd Z Z I)<|G (Yb Z)<|ZG<|G (Yi Z)<|ZG<|G (rD Z Z I)<|G (N Z Z)<|U<|ZF Z<|Zk<|W<|Zr<|G (Zf cQ Z)<|G (Zd dL H 1 Z Z Z)<|G (Yi Z)<|G (cG gM Z Z (by first|omega|(simp only[ae];omega)))<|G (Wp Z)<|U<|W<|W ?_
 refine Zr<|G (Yp Z)<|G (aJ Z)<|G (Zf cS Z)<|G (bP ak row ht2 3 Z (H.ent (i:=2) Z) Z)<|U<|Zb<|W<|Zr ?_
 refine cW (bn Z Z) Z Z Z (fun h44=> ?_) (fun h44=> ?_)
 refine G (Wb Z)<|U<|ZT Z ?_
 refine qW cd [0,1,2,4,5] [3,6,7,8,9] [0,1,2,4,5] 5 N N N Nq ?_
 refine aw Z Z Z Z Z (fun w' hw'=>Yp Z)<|aw Z Z Z Z Z (fun w' hw'=>Yp Z)<|aw Z Z Z Z Z (fun w' hw'=>Zf kB Z)<|aw Z Z Z Z Z (fun w' hw'=>aJ Z)<|aw Z Z Z Z Z (fun w' hw'=>Zf cS Z)<|aV ?_
 intro w5 hw';replace H:=H.later hw';clear hw'
 refine tH 3 6 N Z Z ?_ ?_
 refine G (Zd ak H 1 Z Z Z)<|U<|de 6 N Z<|k9 H 2 ({t2 with state:=2}) bH row ht2 3 Z Z Z Z Z Z N fun w7 cur6 row6 H=> ?_
 have hs8:(tx2.set i ({t2 with state:=2}))[i]? =some ({t2 with state:=2}):=al (cC ht2).1
 refine U<|de 7 N Z<|G (aJ Z)<|U<|de 8 N Z<|G (Zf ui Z)<|U<|de 9 N Z<|k9 H 2 ({({t2 with state:=2})with since:=ck}) bH row6 hs8 5 Z Z Z Z Z Z N fun w10 cur9 row9 H=> ?_
 have hs11:((tx2.set i ({t2 with state:=2})).set i ({({t2 with state:=2})with since:=ck}))[i]? =some ({({t2 with state:=2})with since:=ck}):=al (cC hs8).1
 refine U<|cF N<|W<|W ?_
 have hrise:=(fQ hpo).1
 have hfw:=mG hpo
 rw[<-hpt]at hrise hfw
 obtain⟨La,Lt,Lb,rfl,hot,hset⟩:=hp2.at_ ht2
 refine Zr<|G (Yp Z)<|G (aJ Z)<|G (Zf dz Z)<|G (bP cy row9 hs11 4 Z (H.ent (i:=2) Z) Z)<|G (Yi Z)<|ch ee (qt t2.parts p t2.A t2.cap _ ((hot.rd (K:=[(b8,.cells #[J (0),J (0),J (0),.slice none 0 0] bi (0,0)),(b4,.cells #[J (ck),J (nx),J (wt),.slice (Qd g) tx2.length c2] bi (0,0)),(g,.cells cur9 dF (0,0))]++La) (M:=Lb) (vE [(b8,.cells #[J (0),J (0),J (0),.slice none 0 0] bi (0,0)),(b4,.cells #[J (ck),J (nx),J (wt),.slice (Qd g) tx2.length c2] bi (0,0)),(g,.cells cur9 dF (0,0))] La Lt Lb H)).mono (bG _) (ao _)) I hrise) Z Z ?_
 rintro _ w12 ⟨j,rfl,hjl,hj1,hj2,hb⟩;replace H:=H.later hb;clear hb
 refine G (Yu Z)<|G (Xi Z Z)<|G (Xb Z Z) ?_
 refine mM 63 Z (fun h63=> ?_) (fun h63=> ?_)
 refine G (Wi Z)<|G (Wb Z)<|U<|W<|Zr<|G (Yb Z)<|G (dM Z)<|U<|ZF Z<|Zk<|W<|Zr<|G (Zw av H 1 Z Z Z)<|bo H 0 (#[J (ck),J (nx),J (wt),.slice (Qd g) tx2.length c2]) aF Z Z Z Z Z N N fun w13 H=>G (Wi Z)<|U<|Zt ?_
 have hpp:kK t2.parts p=t2.parts:=yE (of_decide_eq_true h63)
 have hX:Tx.a ({t2 with state:=2,since:=ck})=(iM ck p t).a:=by rw[<-DE hta];unfold iM;rw[if_pos I];rw[hpp]
 have hrow:dX rP (tx2.set i ({t2 with state:=2,since:=ck})) c2 cur9:=by have hr:=row9;simp only[fy]at hr;exact hr
 exact bE (cs0:= #[J ck,J nx,J wt,.slice (Qd g) tx2.length c2]) (v1:=J 0) Z av Z (H.ent (i:=0) Z) Z Z ⟨⟨ck,nx,wt,tx2.set i ({t2 with state:=2,since:=ck}),some ⟨g,0,none⟩,c2⟩,[(g,.cells cur9 dF (0,0))],(La++Lt++Lb),by unfold Co.v Co.c;dsimp only;rw[ae],by unfold Co.a;dsimp only;rw[pq hma i hX],dX.own hrow,hset {t2 with state:=2,since:=ck} Lt hot,by dsimp only;rw[ae];exact hoc2,jU hpc2 i (by exact hpc2 t2 (ab ht2)),H.forget (.cons _ (.cons _ (aC _ _))) (by simp)⟩
 refine G (Wi Z)<|G (Wb Z)<|U<|W<|Zr<|G (Yb Z)<|G (dM Z)<|U<|ZT Z<|Zr<|G (Yp Z)<|G (Yp Z)<|G (aJ Z)<|G (Zf dz Z)<|G (bP cy row9 hs11 4 Z (H.ent (i:=2) Z) Z)<|G (Yi Z)<|G (Yi Z)<|s9 (vs:=[J (p)]) H bc wI Z Z Z Z Z Z fun w14 b73 H=>ch iO (sN (K:=[(b8,.cells #[J (0),J (0),J (0),.slice none 0 0] bi (0,0)),(b4,.cells #[J (ck),J (nx),J (wt),.slice (Qd g) tx2.length c2] bi (0,0)),(g,.cells cur9 dF (0,0))]++La) (Lt:=Lt) (M:=Lb) (vE [(b73,.cells #[J (p)] db (0,0)),(b8,.cells #[J (0),J (0),J (0),.slice none 0 0] bi (0,0)),(b4,.cells #[J (ck),J (nx),J (wt),.slice (Qd g) tx2.length c2] bi (0,0)),(g,.cells cur9 dF (0,0))] La Lt Lb H) hot hjl I) Z Z ?_
 rintro _ w15 ⟨A9,c9,L9,rfl,ho9,HI⟩;replace H:Hp w w15 ([(b73,.cells #[J (p)] db (0,0)),(b8,.cells #[J (0),J (0),J (0),.slice none 0 0] bi (0,0)),(b4,.cells #[J (ck),J (nx),J (wt),.slice (Qd g) tx2.length c2] bi (0,0)),(g,.cells cur9 dF (0,0))]++((La++L9++Lb)++[])) [dU rP 0 w.heap.size cA txs,iP 0 w.heap.size txs]:=Bh [(b73,.cells #[J (p)] db (0,0)),(b8,.cells #[J (0),J (0),J (0),.slice none 0 0] bi (0,0)),(b4,.cells #[J (ck),J (nx),J (wt),.slice (Qd g) tx2.length c2] bi (0,0)),(g,.cells cur9 dF (0,0))] La L9 Lb HI
 have hc9:(t2.parts.take j++[p]++t2.parts.drop j).length<=c9:=by obtain⟨_,_,e,h,_⟩:=ho9.form;injection e with _ _ e;rw[e];exact h
 refine G (aJ Z)<|G (Zf dz Z)<|k9 H 3 ({{t2 with state:=2,since:=ck}with parts:=t2.parts.take j++[p]++t2.parts.drop j,A:=A9,cap:=c9}) jK row9 hs11 4 Z Z Z Z Z Z N fun w17 cur16 row16 H=> ?_
 have hs18:(((tx2.set i ({t2 with state:=2})).set i ({({t2 with state:=2})with since:=ck})).set i ({{t2 with state:=2,since:=ck}with parts:=t2.parts.take j++[p]++t2.parts.drop j,A:=A9,cap:=c9}))[i]? =some ({{t2 with state:=2,since:=ck}with parts:=t2.parts.take j++[p]++t2.parts.drop j,A:=A9,cap:=c9}):=al (cC hs11).1
 refine U<|W<|Zr<|G (Zw av H 2 Z Z Z)<|bo H 1 (#[J (ck),J (nx),J (wt),.slice (Qd g) tx2.length c2]) aF Z Z Z Z Z N N fun w19 H=>G (Wi Z)<|U<|Zt ?_
 have hpp:=E7 hj1 hj2 hrise (of_decide_eq_false h63)
 have hX:Tx.a ({t2 with state:=2,since:=ck,parts:=t2.parts.take j++[p]++t2.parts.drop j,A:=A9,cap:=c9})=(iM ck p t).a:=by rw[<-DE hta];unfold iM;rw[if_pos I];rw[<-hpp];rfl
 have hrow:dX rP (tx2.set i ({t2 with state:=2,since:=ck,parts:=t2.parts.take j++[p]++t2.parts.drop j,A:=A9,cap:=c9})) c2 cur16:=by have hr:=row16;simp only[fy]at hr;exact hr
 exact bE (cs0:= #[J ck,J nx,J wt,.slice (Qd g) tx2.length c2]) (v1:=J 0) Z av Z (H.ent (i:=1) Z) Z Z ⟨⟨ck,nx,wt,tx2.set i ({t2 with state:=2,since:=ck,parts:=t2.parts.take j++[p]++t2.parts.drop j,A:=A9,cap:=c9}),some ⟨g,0,none⟩,c2⟩,[(g,.cells cur16 dF (0,0))],(La++L9++Lb),by unfold Co.v Co.c;dsimp only;rw[ae],by unfold Co.a;dsimp only;rw[pq hma i hX],dX.own hrow,hset {t2 with state:=2,since:=ck,parts:=t2.parts.take j++[p]++t2.parts.drop j,A:=A9,cap:=c9} L9 ho9,by dsimp only;rw[ae];exact hoc2,jU hpc2 i (by exact hc9),H.forget (.cons _ (.cons _ (.cons _ (aC _ _)))) (by simp)⟩
 refine k9 H 2 ({t2 with state:=2}) bH row ht2 3 Z Z Z Z Z Z N fun w21 cur20 row20 H=> ?_
 have hs22:(tx2.set i ({t2 with state:=2}))[i]? =some ({t2 with state:=2}):=al (cC ht2).1
 refine U<|de 3 N Z<|G (Zd ak H 1 Z Z Z)<|U<|de 7 N Z<|G (aJ Z)<|U<|de 8 N Z<|G (Zf ui Z)<|U<|de 9 N Z<|k9 H 2 ({({t2 with state:=2})with since:=ck}) bH row20 hs22 5 Z Z Z Z Z Z N fun w24 cur23 row23 H=> ?_
 have hs25:((tx2.set i ({t2 with state:=2})).set i ({({t2 with state:=2})with since:=ck}))[i]? =some ({({t2 with state:=2})with since:=ck}):=al (cC hs22).1
 refine U<|cF N<|W<|W ?_
 have hrise:=(fQ hpo).1
 have hfw:=mG hpo
 rw[<-hpt]at hrise hfw
 obtain⟨La,Lt,Lb,rfl,hot,hset⟩:=hp2.at_ ht2
 refine Zr<|G (Yp Z)<|G (aJ Z)<|G (Zf dz Z)<|G (bP cy row23 hs25 4 Z (H.ent (i:=2) Z) Z)<|G (Yi Z)<|ch ee (qt t2.parts p t2.A t2.cap _ ((hot.rd (K:=[(b8,.cells #[J (0),J (0),J (0),.slice none 0 0] bi (0,0)),(b4,.cells #[J (ck),J (nx),J (wt),.slice (Qd g) tx2.length c2] bi (0,0)),(g,.cells cur23 dF (0,0))]++La) (M:=Lb) (vE [(b8,.cells #[J (0),J (0),J (0),.slice none 0 0] bi (0,0)),(b4,.cells #[J (ck),J (nx),J (wt),.slice (Qd g) tx2.length c2] bi (0,0)),(g,.cells cur23 dF (0,0))] La Lt Lb H)).mono (bG _) (ao _)) I hrise) Z Z ?_
 rintro _ w26 ⟨j,rfl,hjl,hj1,hj2,hb⟩;replace H:=H.later hb;clear hb
 refine G (Yu Z)<|G (Xi Z Z)<|G (Xb Z Z) ?_
 refine mM 63 Z (fun h63=> ?_) (fun h63=> ?_)
 refine G (Wi Z)<|G (Wb Z)<|U<|W<|Zr<|G (Yb Z)<|G (dM Z)<|U<|ZF Z<|Zk<|W<|Zr<|G (Zw av H 1 Z Z Z)<|bo H 0 (#[J (ck),J (nx),J (wt),.slice (Qd g) tx2.length c2]) aF Z Z Z Z Z N N fun w27 H=>G (Wi Z)<|U<|Zt ?_
 have hpp:kK t2.parts p=t2.parts:=yE (of_decide_eq_true h63)
 have hX:Tx.a ({t2 with state:=2,since:=ck})=(iM ck p t).a:=by rw[<-DE hta];unfold iM;rw[if_pos I];rw[hpp]
 have hrow:dX rP (tx2.set i ({t2 with state:=2,since:=ck})) c2 cur23:=by have hr:=row23;simp only[fy]at hr;exact hr
 exact bE (cs0:= #[J ck,J nx,J wt,.slice (Qd g) tx2.length c2]) (v1:=J 0) Z av Z (H.ent (i:=0) Z) Z Z ⟨⟨ck,nx,wt,tx2.set i ({t2 with state:=2,since:=ck}),some ⟨g,0,none⟩,c2⟩,[(g,.cells cur23 dF (0,0))],(La++Lt++Lb),by unfold Co.v Co.c;dsimp only;rw[ae],by unfold Co.a;dsimp only;rw[pq hma i hX],dX.own hrow,hset {t2 with state:=2,since:=ck} Lt hot,by dsimp only;rw[ae];exact hoc2,jU hpc2 i (by exact hpc2 t2 (ab ht2)),H.forget (.cons _ (.cons _ (aC _ _))) (by simp)⟩
 refine G (Wi Z)<|G (Wb Z)<|U<|W<|Zr<|G (Yb Z)<|G (dM Z)<|U<|ZT Z<|Zr<|G (Yp Z)<|G (Yp Z)<|G (aJ Z)<|G (Zf dz Z)<|G (bP cy row23 hs25 4 Z (H.ent (i:=2) Z) Z)<|G (Yi Z)<|G (Yi Z)<|s9 (vs:=[J (p)]) H bc wI Z Z Z Z Z Z fun w28 b73 H=>ch iO (sN (K:=[(b8,.cells #[J (0),J (0),J (0),.slice none 0 0] bi (0,0)),(b4,.cells #[J (ck),J (nx),J (wt),.slice (Qd g) tx2.length c2] bi (0,0)),(g,.cells cur23 dF (0,0))]++La) (Lt:=Lt) (M:=Lb) (vE [(b73,.cells #[J (p)] db (0,0)),(b8,.cells #[J (0),J (0),J (0),.slice none 0 0] bi (0,0)),(b4,.cells #[J (ck),J (nx),J (wt),.slice (Qd g) tx2.length c2] bi (0,0)),(g,.cells cur23 dF (0,0))] La Lt Lb H) hot hjl I) Z Z ?_
 rintro _ w29 ⟨A9,c9,L9,rfl,ho9,HI⟩;replace H:Hp w w29 ([(b73,.cells #[J (p)] db (0,0)),(b8,.cells #[J (0),J (0),J (0),.slice none 0 0] bi (0,0)),(b4,.cells #[J (ck),J (nx),J (wt),.slice (Qd g) tx2.length c2] bi (0,0)),(g,.cells cur23 dF (0,0))]++((La++L9++Lb)++[])) [dU rP 0 w.heap.size cA txs,iP 0 w.heap.size txs]:=Bh [(b73,.cells #[J (p)] db (0,0)),(b8,.cells #[J (0),J (0),J (0),.slice none 0 0] bi (0,0)),(b4,.cells #[J (ck),J (nx),J (wt),.slice (Qd g) tx2.length c2] bi (0,0)),(g,.cells cur23 dF (0,0))] La L9 Lb HI
 have hc9:(t2.parts.take j++[p]++t2.parts.drop j).length<=c9:=by obtain⟨_,_,e,h,_⟩:=ho9.form;injection e with _ _ e;rw[e];exact h
 refine G (aJ Z)<|G (Zf dz Z)<|k9 H 3 ({{t2 with state:=2,since:=ck}with parts:=t2.parts.take j++[p]++t2.parts.drop j,A:=A9,cap:=c9}) jK row23 hs25 4 Z Z Z Z Z Z N fun w31 cur30 row30 H=> ?_
 have hs32:(((tx2.set i ({t2 with state:=2})).set i ({({t2 with state:=2})with since:=ck})).set i ({{t2 with state:=2,since:=ck}with parts:=t2.parts.take j++[p]++t2.parts.drop j,A:=A9,cap:=c9}))[i]? =some ({{t2 with state:=2,since:=ck}with parts:=t2.parts.take j++[p]++t2.parts.drop j,A:=A9,cap:=c9}):=al (cC hs25).1
 refine U<|W<|Zr<|G (Zw av H 2 Z Z Z)<|bo H 1 (#[J (ck),J (nx),J (wt),.slice (Qd g) tx2.length c2]) aF Z Z Z Z Z N N fun w33 H=>G (Wi Z)<|U<|Zt ?_
 have hpp:=E7 hj1 hj2 hrise (of_decide_eq_false h63)
 have hX:Tx.a ({t2 with state:=2,since:=ck,parts:=t2.parts.take j++[p]++t2.parts.drop j,A:=A9,cap:=c9})=(iM ck p t).a:=by rw[<-DE hta];unfold iM;rw[if_pos I];rw[<-hpp];rfl
 have hrow:dX rP (tx2.set i ({t2 with state:=2,since:=ck,parts:=t2.parts.take j++[p]++t2.parts.drop j,A:=A9,cap:=c9})) c2 cur30:=by have hr:=row30;simp only[fy]at hr;exact hr
 exact bE (cs0:= #[J ck,J nx,J wt,.slice (Qd g) tx2.length c2]) (v1:=J 0) Z av Z (H.ent (i:=1) Z) Z Z ⟨⟨ck,nx,wt,tx2.set i ({t2 with state:=2,since:=ck,parts:=t2.parts.take j++[p]++t2.parts.drop j,A:=A9,cap:=c9}),some ⟨g,0,none⟩,c2⟩,[(g,.cells cur30 dF (0,0))],(La++L9++Lb),by unfold Co.v Co.c;dsimp only;rw[ae],by unfold Co.a;dsimp only;rw[pq hma i hX],dX.own hrow,hset {t2 with state:=2,since:=ck,parts:=t2.parts.take j++[p]++t2.parts.drop j,A:=A9,cap:=c9} L9 ho9,by dsimp only;rw[ae];exact hoc2,jU hpc2 i (by exact hc9),H.forget (.cons _ (.cons _ (.cons _ (aC _ _)))) (by simp)⟩
 refine G (Wb Z)<|U<|ZF Z<|W<|Zr<|G (lQ Z Z I)<|G (Wb Z)<|U<|ZT Z<|Zk<|W<|W ?_
 have hrise:=(fQ hpo).1
 have hfw:=mG hpo
 rw[<-hpt]at hrise hfw
 obtain⟨La,Lt,Lb,rfl,hot,hset⟩:=hp2.at_ ht2
 refine Zr<|G (Yp Z)<|G (aJ Z)<|G (Zf dz Z)<|G (bP cy row ht2 4 Z (H.ent (i:=2) Z) Z)<|G (Yi Z)<|ch ee (qt t2.parts p t2.A t2.cap _ ((hot.rd (K:=[(b8,.cells #[J (0),J (0),J (0),.slice none 0 0] bi (0,0)),(b4,.cells #[J (ck),J (nx),J (wt),.slice (Qd g) tx2.length c2] bi (0,0)),(g,.cells cur dF (0,0))]++La) (M:=Lb) (vE [(b8,.cells #[J (0),J (0),J (0),.slice none 0 0] bi (0,0)),(b4,.cells #[J (ck),J (nx),J (wt),.slice (Qd g) tx2.length c2] bi (0,0)),(g,.cells cur dF (0,0))] La Lt Lb H)).mono (bG _) (ao _)) I hrise) Z Z ?_
 rintro _ w34 ⟨j,rfl,hjl,hj1,hj2,hb⟩;replace H:=H.later hb;clear hb
 refine G (Yu Z)<|G (Xi Z Z)<|G (Xb Z Z) ?_
 refine mM 63 Z (fun h63=> ?_) (fun h63=> ?_)
 refine G (Wi Z)<|G (Wb Z)<|U<|W<|Zr<|G (Yb Z)<|G (dM Z)<|U<|ZF Z<|Zk<|W<|Zr<|G (Zw av H 1 Z Z Z)<|bo H 0 (#[J (ck),J (nx),J (wt),.slice (Qd g) tx2.length c2]) aF Z Z Z Z Z N N fun w35 H=>G (Wi Z)<|U<|Zt ?_
 have hpp:kK t2.parts p=t2.parts:=yE (of_decide_eq_true h63)
 have hX:Tx.a (t2)=(iM ck p t).a:=by rw[<-DE hta];unfold iM;rw[if_neg I];rw[hpp]
 have hrow:dX rP (tx2.set i (t2)) c2 cur:=by rw[iW ht2];exact row
 exact bE (cs0:= #[J ck,J nx,J wt,.slice (Qd g) tx2.length c2]) (v1:=J 0) Z av Z (H.ent (i:=0) Z) Z Z ⟨⟨ck,nx,wt,tx2.set i (t2),some ⟨g,0,none⟩,c2⟩,[(g,.cells cur dF (0,0))],(La++Lt++Lb),by unfold Co.v Co.c;dsimp only;rw[ae],by unfold Co.a;dsimp only;rw[pq hma i hX],dX.own hrow,hset t2 Lt hot,by dsimp only;rw[ae];exact hoc2,jU hpc2 i (by exact hpc2 t2 (ab ht2)),H.forget (.cons _ (.cons _ (aC _ _))) (by simp)⟩
 refine G (Wi Z)<|G (Wb Z)<|U<|W<|Zr<|G (Yb Z)<|G (dM Z)<|U<|ZT Z<|Zr<|G (Yp Z)<|G (Yp Z)<|G (aJ Z)<|G (Zf dz Z)<|G (bP cy row ht2 4 Z (H.ent (i:=2) Z) Z)<|G (Yi Z)<|G (Yi Z)<|s9 (vs:=[J (p)]) H bc wI Z Z Z Z Z Z fun w36 b73 H=>ch iO (sN (K:=[(b8,.cells #[J (0),J (0),J (0),.slice none 0 0] bi (0,0)),(b4,.cells #[J (ck),J (nx),J (wt),.slice (Qd g) tx2.length c2] bi (0,0)),(g,.cells cur dF (0,0))]++La) (Lt:=Lt) (M:=Lb) (vE [(b73,.cells #[J (p)] db (0,0)),(b8,.cells #[J (0),J (0),J (0),.slice none 0 0] bi (0,0)),(b4,.cells #[J (ck),J (nx),J (wt),.slice (Qd g) tx2.length c2] bi (0,0)),(g,.cells cur dF (0,0))] La Lt Lb H) hot hjl I) Z Z ?_
 rintro _ w37 ⟨A9,c9,L9,rfl,ho9,HI⟩;replace H:Hp w w37 ([(b73,.cells #[J (p)] db (0,0)),(b8,.cells #[J (0),J (0),J (0),.slice none 0 0] bi (0,0)),(b4,.cells #[J (ck),J (nx),J (wt),.slice (Qd g) tx2.length c2] bi (0,0)),(g,.cells cur dF (0,0))]++((La++L9++Lb)++[])) [dU rP 0 w.heap.size cA txs,iP 0 w.heap.size txs]:=Bh [(b73,.cells #[J (p)] db (0,0)),(b8,.cells #[J (0),J (0),J (0),.slice none 0 0] bi (0,0)),(b4,.cells #[J (ck),J (nx),J (wt),.slice (Qd g) tx2.length c2] bi (0,0)),(g,.cells cur dF (0,0))] La L9 Lb HI
 have hc9:(t2.parts.take j++[p]++t2.parts.drop j).length<=c9:=by obtain⟨_,_,e,h,_⟩:=ho9.form;injection e with _ _ e;rw[e];exact h
 refine G (aJ Z)<|G (Zf dz Z)<|k9 H 3 ({t2 with parts:=t2.parts.take j++[p]++t2.parts.drop j,A:=A9,cap:=c9}) jK row ht2 4 Z Z Z Z Z Z N fun w39 cur38 row38 H=> ?_
 have hs40:(tx2.set i ({t2 with parts:=t2.parts.take j++[p]++t2.parts.drop j,A:=A9,cap:=c9}))[i]? =some ({t2 with parts:=t2.parts.take j++[p]++t2.parts.drop j,A:=A9,cap:=c9}):=al (cC ht2).1
 refine U<|W<|Zr<|G (Zw av H 2 Z Z Z)<|bo H 1 (#[J (ck),J (nx),J (wt),.slice (Qd g) tx2.length c2]) aF Z Z Z Z Z N N fun w41 H=>G (Wi Z)<|U<|Zt ?_
 have hpp:=E7 hj1 hj2 hrise (of_decide_eq_false h63)
 have hX:Tx.a ({t2 with parts:=t2.parts.take j++[p]++t2.parts.drop j,A:=A9,cap:=c9})=(iM ck p t).a:=by rw[<-DE hta];unfold iM;rw[if_neg I];rw[<-hpp];rfl
 have hrow:dX rP (tx2.set i ({t2 with parts:=t2.parts.take j++[p]++t2.parts.drop j,A:=A9,cap:=c9})) c2 cur38:=by exact row38
 exact bE (cs0:= #[J ck,J nx,J wt,.slice (Qd g) tx2.length c2]) (v1:=J 0) Z av Z (H.ent (i:=1) Z) Z Z ⟨⟨ck,nx,wt,tx2.set i ({t2 with parts:=t2.parts.take j++[p]++t2.parts.drop j,A:=A9,cap:=c9}),some ⟨g,0,none⟩,c2⟩,[(g,.cells cur38 dF (0,0))],(La++L9++Lb),by unfold Co.v Co.c;dsimp only;rw[ae],by unfold Co.a;dsimp only;rw[pq hma i hX],dX.own hrow,hset {t2 with parts:=t2.parts.take j++[p]++t2.parts.drop j,A:=A9,cap:=c9} L9 ho9,by dsimp only;rw[ae];exact hoc2,jU hpc2 i (by exact hc9),H.forget (.cons _ (.cons _ (.cons _ (aC _ _)))) (by simp)⟩
def gW (t:Tx):Bool:=decide (t.state=3)||decide (t.state=4)
def ia (txs:List Tx) (n:Nat):Option Tx:=(txs.filter gW)[n]?
def AL (t:Tx):Value:=.agg #[J 0,J t.pid,J t.ver,J 0,J (if t.state=4 then 3 else 2),.bool true,.string ⟨#[]⟩]
def yQ (o:Option Tx):Value:=match o with
 |none=> .tuple #[.string ⟨#[]⟩,J 0,.agg #[J 0,J 0,J 0,J 0,J 0,.bool false,.string ⟨#[]⟩],J 15]
 |some t=> .tuple #[.string t.name,J (t.parts.headD 0),AL t,J 0]
theorem Hp.partRow {w0 w:World} {L:List (Nat×Obj)} {F:List cB} {lo hi:Nat} {txs:List Tx} (H:Hp w0 w L F) (i:Nat) (hF:F[i]? =some (iP lo hi txs)) {t:Tx} (ht:t∈txs):Hp w0 w L (dU bR lo hi t.A t.parts::F):=by
 refine⟨H.below,H.ents,H.nodup,fun f hf=> ?_⟩
 rcases ax.1 hf with rfl|hf
 obtain⟨h1,h2,h3⟩:=H.facts _ (ab hF)
 exact⟨h1 t ht,h2,h3⟩
 exact H.facts f hf
theorem Mh {txs:List Tx} {k m:Nat} {x:Tx} (hx:txs[k]? =some x) (he:gW x=false):((txs.drop k).filter gW)[m]? =((txs.drop (k+1)).filter gW)[m]? :=by
 rw[cP hx,oX (by rw[he];decide)]
theorem IY {txs:List Tx} {k:Nat} {x:Tx} (hx:txs[k]? =some x) (he:gW x=true):((txs.drop k).filter gW)[0]? =some x:=by
 rw[cP hx,ka he];rfl
theorem FV {txs:List Tx} {k m:Nat} {x:Tx} (hx:txs[k]? =some x) (he:gW x=true) (hm:1<=m):((txs.drop k).filter gW)[m]? =((txs.drop (k+1)).filter gW)[m-1]? :=by
 obtain⟨m,rfl⟩: ∃ j,m=j+1:=⟨m-1,by omega⟩
 rw[cP hx,ka he];rfl
theorem Ob {txs:List Tx} {k m:Nat} (h:txs.length<=k):((txs.drop k).filter gW)[m]? =none:=by
 rw[eo h];rfl
theorem Of (c:Co) (n:Nat) (w:World) (h:c.rd 0 w.heap.size w) (hok:gI c=true) (hn:n<=1000):dh aa xg [c.v,J (n:Nat)] w fun v w2=>v=yQ (ia c.txs n)/\Below w.heap.size w w2:=by
 refine aE CC Z Z ?_
 have hcap:=h.cap
 have hfew:=h.few
 have hfp:=h.fewP
 have H:=Hp.startCo h
 obtain⟨ck,nx,wt,txs,cA,cc⟩:=c
 dsimp only at hcap hfew hfp H
 show CW _ _ _ _ (args [.agg #[J ck,J nx,J wt,.slice cA txs.length cc],J (n:Nat)]) w
 obtain⟨q1,q2,q3,q4,q5,q6,q7⟩:=i8.1 hok
 dsimp only at q6 q7⊢
 refine W<|Zr<|f7 H Z Z fun w1 b2 H=>G (Wt Z)<|G (Wi Z)<|eP H gu Z fun w2 b6 H=>G (Wi Z)<|U<|W<|W<|Zr<|G (Zw av H 1 Z Z Z)<|ch kH (qp ⟨ck,nx,wt,txs,cA,cc⟩ _ ⟨H.rd0 0 Z,fun t ht=>fE H 1 Z ht,hcap,hfew,hfp⟩) Z Z ?_
 rw[hok]
 rintro _ w3 ⟨rfl,hb⟩;replace H:=H.later hb;clear hb
 refine G (Wi Z)<|U<|W<|Zr<|G (Yi Z)<|G (bZ Z Z Z)<|U<|ZF Z<|Zk<|W<|W<|Zr<|G (Zf cQ Z)<|G (Zd dL H 1 Z Z Z)<|G (br ln Z)<|G (Yi Z)<|U<|Zb ?_
 refine cD (τ:=Nat×Nat) [1,4,5,7,10,11,21,22,23,24,25,26,27,28,29,30,31,32,33,34,35,36,37,38,39,40,41,42,43,44,45,46,47,48,49,50,51,52] (fun(k,m)=>[(21,J (k:Nat)),(1,J (m:Nat))]) (fun(k,m) w'=>k<=txs.length/\m<=1000/\(txs.filter gW)[n]? =((txs.drop k).filter gW)[m]? /\Hp w w' [(b6,.cells (.agg #[J 0,J 0,J 0,J 0,J 0,.bool false,.string ⟨#[]⟩]:Value).cells dw (0,0)),(b2,.cells #[J (ck),J (nx),J (wt),.slice cA txs.length cc] bi (0,0))] [dU rP 0 w.heap.size cA txs,iP 0 w.heap.size txs]) (fun(k,_)=>txs.length-k) (0,n) ⟨by omega,hn,by rw[ml],H⟩ (li Z Z) ?_
 rintro⟨k,m⟩ ρ1 w4 ⟨hk,hm1,hm,H⟩
 show CW _ _ _ _ (dH (gZ _ _ ρ1) [(21,J (k:Nat)),(1,J (m:Nat))]) w4
 refine W<|Zr ?_
 refine cW (cK Z Z) Z Z Z (fun h22=> ?_) (fun h22=> ?_)
 refine U<|W<|ZT Z<|Zk<|W<|Zb<|W ?_
 obtain⟨x,hxk⟩: ∃ x,txs[k]? =some x:=⟨_,ah I⟩
 refine Zr<|qB H 0 Z gM Z Z I I Z fun b5 o5 x5 e5=> ?_
 obtain rfl:x=x5:=by have:=e5.at_;rw[hxk]at this;exact ba this
 refine G (j7 (xs:=Tx.c x) zQ Z Z e5.cl)<|eP H IJ Z fun w6 b10 H=>bo H 0 (#[.string (x.name),J (x.pid),J (x.ver),J (x.state),.slice x.A x.parts.length x.cap,J (x.since),J (x.done)]) IN Z Z Z Z Z N N fun w7 H=>U<|W<|W<|Zr<|G (Zf cS Z)<|G (Zd ak H 0 Z Z Z) ?_
 refine ro (jh Z Z) Z Z Z (fun h27=> ?_) (fun h27=> ?_)
 refine G (Yb Z)<|ZG<|G (Zf cS Z)<|ZG<|G (Zd ak H 0 Z Z Z)<|ZG ?_
 refine ro (jh Z Z) Z Z Z (fun h31=> ?_) (fun h31=> ?_)
 refine G (Kt Z Z)<|U<|ZT Z<|Zx<|Zr<|G (bw Z Z I I)<|G (Yi Z)<|U ?_
 have hen:gW x=false:=by unfold gW;rw[decide_eq_false I,decide_eq_false I];rfl
 refine⟨(k+1,m),⟨by omega,hm1,by rw[hm];exact Mh hxk hen,H.forget (.cons _ (ar _)) (fun _ h=>h)⟩,li Z Z,Qg,by show txs.length- (k+1)<txs.length-k;omega⟩
 refine G (Kt Z Z)<|U<|ZF Z<|Zk<|W<|W ?_
 have hen:gW x=true:=by unfold gW;simp;omega
 have hxo:fN ck nx x=true:=uH q7 x (ab hxk)
 obtain⟨a1,a2,a3,a4,a5,a6,a7,a8,a9,a10,a11⟩:=cv.1 hxo
 have hpl:x.parts.length≠0:=fun h=>by have:=a11.2 h;unfold gW at hen;simp[this]at hen
 refine Zr<|G (Yi Z) ?_
 refine cW (bn Z Z) Z Z Z (fun h34=> ?_) (fun h34=> ?_)
 obtain rfl:m=0:=by omega
 have hnth:ia txs n=some x:=by unfold ia;rw[hm];exact IY hxk hen
 obtain⟨p0,hp0⟩: ∃ p,x.parts[0]? =some p:=⟨_,ah I⟩
 refine U<|ZT Z<|W<|Zr<|G (Wi Z)<|U<|W<|W<|Zr<|G (Zf cS Z)<|G (Zd ak H 0 Z Z Z) ?_
 refine cW (bn Z Z) Z Z Z (fun h37=> ?_) (fun h37=> ?_)
 refine U<|ZT Z<|Zr<|G (Wi Z)<|U<|W ?_
 replace H:=Hp.partRow H 1 Z (ab hxk)
 refine bA cd [0,1,2,3,4,5,6,7,8,9,10,11,12,13] [14,15] [] [0,2,4,6,8,10,11,12,13] (sp []) N N N N Nq (cI _) ?_
 refine aw Z Z Z Z Z (fun w' hw'=>Zf oI Z)<|aw Z Z Z Z Z (fun w' hw'=>aW bd Z (aB ((H.later hw').ent (i:=0) Z) Z))<|aw Z Z Z Z Z (fun w' hw'=>Zf dz Z)<|aw Z Z Z Z Z (fun w' hw'=>aW cy Z (aB ((H.later hw').ent (i:=0) Z) Z))<|jO (k:=0) H 0 Z Z Z Z Z bc Z Z I I fun b8 o8 x8 e8=> ?_
 obtain rfl:p0=x8:=by have:=e8.at_;rw[hp0]at this;exact ba this
 refine aw Z Z Z Z Z (fun w' hw'=>aW ak Z (e8.later hw' 0 _ Z))<|aw Z Z Z Z Z (fun w' hw'=>Zf lq Z)<|aw Z Z Z Z Z (fun w' hw'=>aW ak Z (aB ((H.later hw').ent (i:=0) Z) Z))<|aw Z Z Z Z Z (fun w' hw'=>Zf gF Z)<|aw Z Z Z Z Z (fun w' hw'=>aW ak Z (aB ((H.later hw').ent (i:=0) Z) Z))<|aw Z Z Z Z Z (fun w' hw'=>Yi Z)<|aw Z Z Z Z Z (fun w' hw'=>bg (cs:= #[J (0),J (x.pid),J (x.ver),J (0),J (3),.bool (true),.string (⟨#[]⟩)]) ol gu N)<|aw Z Z Z Z Z (fun w' hw'=>Wt Z)<|aw Z Z Z Z Z (fun w' hw'=>Wi Z)<|aV ?_
 intro w9 hw' hF
 replace H:=H.later hw';clear hw' hF
 refine bo H 1 (#[J (0),J (x.pid),J (x.ver),J (0),J (3),.bool (true),.string (⟨#[]⟩)]) eW Z Z Z Z Z N N fun w10 H=>G (Wi Z)<|U<|Zt ?_
 rw[hnth]
 have hk2:(if x.state=4 then(3:Int)else 2)=3:=by rw[if_pos I]
 have hh:x.parts.headD 0=p0:=by rw[nw,py,hp0];rfl
 exact xr (v0:=.string x.name) (v1:=J p0) (cs2:= #[J 0,J x.pid,J x.ver,J 0,J 3,.bool true,.string ⟨#[]⟩]) (v3:=J 0) Z Z Z dG Z (H.ent (i:=1) Z) Z Z ⟨by unfold yQ AL;dsimp only;rw[hk2,hh],H.below⟩
 refine U<|ZF Z<|Zk<|W ?_
 replace H:=Hp.partRow H 1 Z (ab hxk)
 refine bA cd [0,1,2,3,4,5,6,7,8,9,10,11,12,13] [14,15] [] [0,2,4,6,8,10,11,12,13] (sp []) N N N N Nq (cI _) ?_
 refine aw Z Z Z Z Z (fun w' hw'=>Zf oI Z)<|aw Z Z Z Z Z (fun w' hw'=>aW bd Z (aB ((H.later hw').ent (i:=0) Z) Z))<|aw Z Z Z Z Z (fun w' hw'=>Zf dz Z)<|aw Z Z Z Z Z (fun w' hw'=>aW cy Z (aB ((H.later hw').ent (i:=0) Z) Z))<|jO (k:=0) H 0 Z Z Z Z Z bc Z Z I I fun b11 o11 x11 e11=> ?_
 obtain rfl:p0=x11:=by have:=e11.at_;rw[hp0]at this;exact ba this
 refine aw Z Z Z Z Z (fun w' hw'=>aW ak Z (e11.later hw' 0 _ Z))<|aw Z Z Z Z Z (fun w' hw'=>Zf lq Z)<|aw Z Z Z Z Z (fun w' hw'=>aW ak Z (aB ((H.later hw').ent (i:=0) Z) Z))<|aw Z Z Z Z Z (fun w' hw'=>Zf gF Z)<|aw Z Z Z Z Z (fun w' hw'=>aW ak Z (aB ((H.later hw').ent (i:=0) Z) Z))<|aw Z Z Z Z Z (fun w' hw'=>Yi Z)<|aw Z Z Z Z Z (fun w' hw'=>bg (cs:= #[J (0),J (x.pid),J (x.ver),J (0),J (2),.bool (true),.string (⟨#[]⟩)]) ol gu N)<|aw Z Z Z Z Z (fun w' hw'=>Wt Z)<|aw Z Z Z Z Z (fun w' hw'=>Wi Z)<|aV ?_
 intro w12 hw' hF
 replace H:=H.later hw';clear hw' hF
 refine bo H 1 (#[J (0),J (x.pid),J (x.ver),J (0),J (2),.bool (true),.string (⟨#[]⟩)]) eW Z Z Z Z Z N N fun w13 H=>G (Wi Z)<|U<|Zt ?_
 rw[hnth]
 have hk2:(if x.state=4 then(3:Int)else 2)=2:=by rw[if_neg I]
 have hh:x.parts.headD 0=p0:=by rw[nw,py,hp0];rfl
 exact xr (v0:=.string x.name) (v1:=J p0) (cs2:= #[J 0,J x.pid,J x.ver,J 0,J 2,.bool true,.string ⟨#[]⟩]) (v3:=J 0) Z Z Z dG Z (H.ent (i:=1) Z) Z Z ⟨by unfold yQ AL;dsimp only;rw[hk2,hh],H.below⟩
 refine U<|ZF Z<|Zk<|Zr<|G (Yi Z)<|G (jf Z Z I I)<|G (Wi Z)<|U<|Zr<|G (bw Z Z I I)<|G (Yi Z)<|U ?_
 refine⟨(k+1,m-1),⟨by omega,by omega,by rw[hm];exact FV hxk hen I,H.forget (.cons _ (ar _)) (fun _ h=>h)⟩,li Z (by show Value.int .i64 _=Value.int .i64 _;congr 1;omega),Qg,by show txs.length- (k+1)<txs.length-k;omega⟩
 refine G (Yb Z)<|ZN<|ZN<|ZN<|G (N Z Z)<|U<|ZF Z<|Zk<|W<|W ?_
 have hen:gW x=true:=by unfold gW;simp;omega
 have hxo:fN ck nx x=true:=uH q7 x (ab hxk)
 obtain⟨a1,a2,a3,a4,a5,a6,a7,a8,a9,a10,a11⟩:=cv.1 hxo
 have hpl:x.parts.length≠0:=fun h=>by have:=a11.2 h;unfold gW at hen;simp[this]at hen
 refine Zr<|G (Yi Z) ?_
 refine cW (bn Z Z) Z Z Z (fun h34=> ?_) (fun h34=> ?_)
 obtain rfl:m=0:=by omega
 have hnth:ia txs n=some x:=by unfold ia;rw[hm];exact IY hxk hen
 obtain⟨p0,hp0⟩: ∃ p,x.parts[0]? =some p:=⟨_,ah I⟩
 refine U<|ZT Z<|W<|Zr<|G (Wi Z)<|U<|W<|W<|Zr<|G (Zf cS Z)<|G (Zd ak H 0 Z Z Z) ?_
 refine cW (bn Z Z) Z Z Z (fun h37=> ?_) (fun h37=> ?_)
 refine U<|ZT Z<|Zr<|G (Wi Z)<|U<|W ?_
 replace H:=Hp.partRow H 1 Z (ab hxk)
 refine bA cd [0,1,2,3,4,5,6,7,8,9,10,11,12,13] [14,15] [] [0,2,4,6,8,10,11,12,13] (sp []) N N N N Nq (cI _) ?_
 refine aw Z Z Z Z Z (fun w' hw'=>Zf oI Z)<|aw Z Z Z Z Z (fun w' hw'=>aW bd Z (aB ((H.later hw').ent (i:=0) Z) Z))<|aw Z Z Z Z Z (fun w' hw'=>Zf dz Z)<|aw Z Z Z Z Z (fun w' hw'=>aW cy Z (aB ((H.later hw').ent (i:=0) Z) Z))<|jO (k:=0) H 0 Z Z Z Z Z bc Z Z I I fun b14 o14 x14 e14=> ?_
 obtain rfl:p0=x14:=by have:=e14.at_;rw[hp0]at this;exact ba this
 refine aw Z Z Z Z Z (fun w' hw'=>aW ak Z (e14.later hw' 0 _ Z))<|aw Z Z Z Z Z (fun w' hw'=>Zf lq Z)<|aw Z Z Z Z Z (fun w' hw'=>aW ak Z (aB ((H.later hw').ent (i:=0) Z) Z))<|aw Z Z Z Z Z (fun w' hw'=>Zf gF Z)<|aw Z Z Z Z Z (fun w' hw'=>aW ak Z (aB ((H.later hw').ent (i:=0) Z) Z))<|aw Z Z Z Z Z (fun w' hw'=>Yi Z)<|aw Z Z Z Z Z (fun w' hw'=>bg (cs:= #[J (0),J (x.pid),J (x.ver),J (0),J (3),.bool (true),.string (⟨#[]⟩)]) ol gu N)<|aw Z Z Z Z Z (fun w' hw'=>Wt Z)<|aw Z Z Z Z Z (fun w' hw'=>Wi Z)<|aV ?_
 intro w15 hw' hF
 replace H:=H.later hw';clear hw' hF
 refine bo H 1 (#[J (0),J (x.pid),J (x.ver),J (0),J (3),.bool (true),.string (⟨#[]⟩)]) eW Z Z Z Z Z N N fun w16 H=>G (Wi Z)<|U<|Zt ?_
 rw[hnth]
 have hk2:(if x.state=4 then(3:Int)else 2)=3:=by rw[if_pos I]
 have hh:x.parts.headD 0=p0:=by rw[nw,py,hp0];rfl
 exact xr (v0:=.string x.name) (v1:=J p0) (cs2:= #[J 0,J x.pid,J x.ver,J 0,J 3,.bool true,.string ⟨#[]⟩]) (v3:=J 0) Z Z Z dG Z (H.ent (i:=1) Z) Z Z ⟨by unfold yQ AL;dsimp only;rw[hk2,hh],H.below⟩
 refine U<|ZF Z<|Zk<|W ?_
 replace H:=Hp.partRow H 1 Z (ab hxk)
 refine bA cd [0,1,2,3,4,5,6,7,8,9,10,11,12,13] [14,15] [] [0,2,4,6,8,10,11,12,13] (sp []) N N N N Nq (cI _) ?_
 refine aw Z Z Z Z Z (fun w' hw'=>Zf oI Z)<|aw Z Z Z Z Z (fun w' hw'=>aW bd Z (aB ((H.later hw').ent (i:=0) Z) Z))<|aw Z Z Z Z Z (fun w' hw'=>Zf dz Z)<|aw Z Z Z Z Z (fun w' hw'=>aW cy Z (aB ((H.later hw').ent (i:=0) Z) Z))<|jO (k:=0) H 0 Z Z Z Z Z bc Z Z I I fun b17 o17 x17 e17=> ?_
 obtain rfl:p0=x17:=by have:=e17.at_;rw[hp0]at this;exact ba this
 refine aw Z Z Z Z Z (fun w' hw'=>aW ak Z (e17.later hw' 0 _ Z))<|aw Z Z Z Z Z (fun w' hw'=>Zf lq Z)<|aw Z Z Z Z Z (fun w' hw'=>aW ak Z (aB ((H.later hw').ent (i:=0) Z) Z))<|aw Z Z Z Z Z (fun w' hw'=>Zf gF Z)<|aw Z Z Z Z Z (fun w' hw'=>aW ak Z (aB ((H.later hw').ent (i:=0) Z) Z))<|aw Z Z Z Z Z (fun w' hw'=>Yi Z)<|aw Z Z Z Z Z (fun w' hw'=>bg (cs:= #[J (0),J (x.pid),J (x.ver),J (0),J (2),.bool (true),.string (⟨#[]⟩)]) ol gu N)<|aw Z Z Z Z Z (fun w' hw'=>Wt Z)<|aw Z Z Z Z Z (fun w' hw'=>Wi Z)<|aV ?_
 intro w18 hw' hF
 replace H:=H.later hw';clear hw' hF
 refine bo H 1 (#[J (0),J (x.pid),J (x.ver),J (0),J (2),.bool (true),.string (⟨#[]⟩)]) eW Z Z Z Z Z N N fun w19 H=>G (Wi Z)<|U<|Zt ?_
 rw[hnth]
 have hk2:(if x.state=4 then(3:Int)else 2)=2:=by rw[if_neg I]
 have hh:x.parts.headD 0=p0:=by rw[nw,py,hp0];rfl
 exact xr (v0:=.string x.name) (v1:=J p0) (cs2:= #[J 0,J x.pid,J x.ver,J 0,J 2,.bool true,.string ⟨#[]⟩]) (v3:=J 0) Z Z Z dG Z (H.ent (i:=1) Z) Z Z ⟨by unfold yQ AL;dsimp only;rw[hk2,hh],H.below⟩
 refine U<|ZF Z<|Zk<|Zr<|G (Yi Z)<|G (jf Z Z I I)<|G (Wi Z)<|U<|Zr<|G (bw Z Z I I)<|G (Yi Z)<|U ?_
 refine⟨(k+1,m-1),⟨by omega,by omega,by rw[hm];exact FV hxk hen I,H.forget (.cons _ (ar _)) (fun _ h=>h)⟩,li Z (by show Value.int .i64 _=Value.int .i64 _;congr 1;omega),Qg,by show txs.length- (k+1)<txs.length-k;omega⟩
 refine U<|W<|ZF Z<|Zx<|W<|Zr<|G (bg (cs:= #[J (0),J (0),J (0),J (0),J (0),.bool (false),.string (⟨#[]⟩)]) ol gu N)<|G (Wt Z)<|G (Wi Z)<|bo H 0 (#[J (0),J (0),J (0),J (0),J (0),.bool (false),.string (⟨#[]⟩)]) eW Z Z Z Z Z N N fun w20 H=>G (Wi Z)<|U<|Zt ?_
 rw[show ia txs n=none by unfold ia;rw[hm];exact Ob I]
 exact xr (v0:=.string ⟨#[]⟩) (v1:=J 0) (cs2:= #[J 0,J 0,J 0,J 0,J 0,.bool false,.string ⟨#[]⟩]) (v3:=J 15) Z Z Z dG Z (H.ent (i:=0) Z) Z Z ⟨rfl,H.below⟩
/-- P5.6: a part whose marker is kept -/
def gH (p:Int) (t:Tx):Tx:=if(t.parts.filter fun q=>decide (q≠p)).length=0 then{t with parts:=[],done:=t.state,state:=1}else{t with parts:=t.parts.filter fun q=>decide (q≠p)}
theorem EQ {p:Int} {t t':Tx} (h:t'.a=t.a):(gH p t').a=(gH p t).a:=by
 have e: ∀ t:Tx,(gH p t).a=gH p t.a:=fun t=>by
  unfold gH
  by_cases h:(t.parts.filter fun q=>decide (q≠p)).length=0
  rw[if_pos h,if_pos (show(t.a.parts.filter fun q=>decide (q≠p)).length=0 from h)];rfl
  rw[if_neg h,if_neg (show¬ (t.a.parts.filter fun q=>decide (q≠p)).length=0 from h)];rfl
 rw[e,e,h]
theorem Iq: ∀ {l:List Int} {p:Int} {j:Nat},l.Pairwise (· < ·)->l[j]? =some p->l.take j++l.drop (j+1)=l.filter fun q=>decide (q≠p)
 |[],_,_,_,h=>by cases h
 |x::l,p,0,hp,h=>by
  cases h
  obtain⟨h1,-⟩:=dY.1 hp
  rw[oX (by simp)]
  simp only[zh,kY,zV,ml]
  exact(j4.2 fun y hy=>decide_eq_true (by have:=h1 y hy;omega)).symm
 |x::l,p,j+1,hp,h=>by
  obtain⟨h1,h2⟩:=dY.1 hp
  have hm:p∈l:=ab (show l[j]? =some p from h)
  have:=h1 p hm
  rw[ka (by simp;omega),<-Iq h2 (show l[j]? =some p from h)]
  rfl
theorem there {l:List Int} {p:Int} {i:Nat} (h2: ∀ k y,l[k]? =some y->i<=k->p<=y) (h1: ∀ k y,l[k]? =some y->k<i->y<p) (hp:l.Pairwise (· < ·)) (hm:p∈l):l[i]? =some p:=by
 obtain⟨k,hk⟩:=aT.1 hm
 by_cases hki:k<i
 have:=h1 k p hk hki;omega
 obtain⟨x,hx⟩: ∃ x,l[i]? =some x:=⟨_,ah (by have:=(cC hk).1;omega)⟩
 have h3:=rises hp hx hk I
 have h4:=h2 i x hx (ao _)
 rw[hx];congr 1;omega
theorem OJ (c:Co) (s:ByteArray) (p:Int) (i:Nat) (t:Tx) (w:World) (h:c.rd 0 w.heap.size w) (hok:gI c=true) (hn:bL s=true) (hi:fR c s=i) (ht:c.txs[i]? =some t) (h34:t.state=3∨t.state=4) (hpm:p∈t.parts) (hpo:cT (-1) t.parts=true):dh aa xh [c.v,.string s,J p] w fun v w2=> ∃ (c':Co) (Lr Lp:List (Nat×Obj)),v=.tuple #[c'.v,J 0]/\qv w w2 (Co.a {c with txs:=c.txs.set i (gH p t)}) c' Lr Lp:=by
 refine aE CD Z Z ?_
 have hcap:=h.cap
 have hfew:=h.few
 have hfp:=h.fewP
 have H:=Hp.startCo h
 obtain⟨ck,nx,wt,txs,cA,cc⟩:=c
 dsimp only at hcap hfew hfp H
 show CW _ _ _ _ (args [.agg #[J ck,J nx,J wt,.slice cA txs.length cc],.string s,J p]) w
 dsimp only at ht⊢
 refine W<|Zr<|f7 H Z Z fun w1 b3 H=>eP H cM Z fun w2 b6 H=>G (Wi Z)<|U<|W<|Zr<|G (Zw av H 1 Z Z Z)<|G (Yt Z)<|ch ir (lS ⟨ck,nx,wt,txs,cA,cc⟩ s _ ⟨H.rd0 0 Z,fun t ht=>fE H 1 Z ht,hcap,hfew,hfp⟩ hok hn) Z Z ?_
 rintro _ w3 ⟨⟨ck2,nx2,wt2,tx2,A2,c2⟩,Lr,Lp,rfl,ha2,ho2,hp2,hoc2,hpc2,hj2⟩
 replace H:=H.joinR hj2;clear hj2
 simp only[Co.a,Co.mk.injEq]at ha2
 obtain⟨e1,e2,e3,hma,-,-⟩:=ha2
 obtain rfl:ck=ck2:=e1.symm
 obtain rfl:nx=nx2:=e2.symm
 obtain rfl:wt=wt2:=e3.symm
 dsimp only at ho2 hp2 hoc2 hpc2 H
 obtain⟨t2,ht2,hta⟩:=rm hma ht
 have hl2:=(cC ht2).1
 obtain⟨g,cur,rfl,rfl,row⟩:=ho2.row I
 have hst:t2.state=t.state:=by show t2.a.state=t.a.state;rw[hta]
 have hdn:t2.done=t.done:=by show t2.a.done=t.a.done;rw[hta]
 have hpt:t2.parts=t.parts:=by show t2.a.parts=t.a.parts;rw[hta]
 rw[hi]
 refine G (Yu Z)<|G (Xa Z Z)<|G (Xi Z Z)<|G (Xi Z Z)<|bo H 1 (#[J (ck),J (nx),J (wt),.slice (Qd g) tx2.length c2]) aF Z Z Z Z Z N N fun w4 H=>G (Wi Z)<|G (Wi Z)<|U<|W<|W<|Zr<|G (Yi Z)<|G (bZ Z Z Z)<|U<|ZF Z<|Zk<|W<|W<|Zr<|G (Yi Z)<|G (dd Z Z I)<|U<|ZF Z<|Zk<|W<|Zr<|G (Zf cQ Z)<|G (Zd dL H 1 Z Z Z)<|G (Yi Z)<|G (cG gM Z Z (by first|omega|(simp only[ae];omega)))<|G (Wp Z)<|U<|W<|W<|Zr<|G (Yp Z)<|G (aJ Z)<|G (Zf cS Z)<|G (bP ak row ht2 3 Z (H.ent (i:=2) Z) Z)<|G (jh Z Z) ?_
 refine mM 35 Z (fun h35=> ?_) (fun h35=> ?_)
 refine G (Yb Z)<|ZG<|G (Yp Z)<|ZG<|G (aJ Z)<|ZG<|G (Zf cS Z)<|ZG<|G (bP ak row ht2 3 Z (H.ent (i:=2) Z) Z)<|ZG<|G (bZ Z Z (by simp at h35;omega))<|G (Kt Z Z)<|U<|ZF Z<|Zk<|W ?_
 have hrise:=(fQ hpo).1
 have hfw:=mG hpo
 rw[<-hpt]at hrise hfw hpm
 obtain⟨La,Lt,Lb,rfl,hot,hset⟩:=hp2.at_ ht2
 refine Zr<|G (Yp Z)<|G (aJ Z)<|G (Zf dz Z)<|G (bP cy row ht2 4 Z (H.ent (i:=2) Z) Z)<|G (Yi Z)<|ch ee (qt t2.parts p t2.A t2.cap _ ((hot.rd (K:=[(b6,.cells #[J (0),J (0),J (0),.slice none 0 0] bi (0,0)),(b3,.cells #[J (ck),J (nx),J (wt),.slice (Qd g) tx2.length c2] bi (0,0)),(g,.cells cur dF (0,0))]++La) (M:=Lb) (vE [(b6,.cells #[J (0),J (0),J (0),.slice none 0 0] bi (0,0)),(b3,.cells #[J (ck),J (nx),J (wt),.slice (Qd g) tx2.length c2] bi (0,0)),(g,.cells cur dF (0,0))] La Lt Lb H)).mono (bG _) (ao _)) I hrise) Z Z ?_
 rintro _ w5 ⟨j,rfl,hjl,hj1,hj2,hb⟩;replace H:=H.later hb;clear hb
 have hjp:=there hj2 hj1 hrise hpm
 rw[show decide (t2.parts[j]? =some p)=true from decide_eq_true hjp]
 have hdl:=Iq hrise hjp
 have hjl2:=(cC hjp).1
 refine G (Yu Z)<|G (Xi Z Z)<|G (Xb Z Z)<|G (Wi Z)<|G (Wb Z)<|U<|W<|W<|Zr<|G (Yb Z)<|G (dM Z)<|U<|ZF Z<|Zk<|W<|Zr<|G (Yp Z)<|G (Yp Z)<|G (aJ Z)<|G (Zf dz Z)<|G (bP cy row ht2 4 Z (H.ent (i:=2) Z) Z)<|G (Yi Z)<|G (Yi Z)<|G (bw Z Z I I)<|ch kW (xt (K:=[(b6,.cells #[J (0),J (0),J (0),.slice none 0 0] bi (0,0)),(b3,.cells #[J (ck),J (nx),J (wt),.slice (Qd g) tx2.length c2] bi (0,0)),(g,.cells cur dF (0,0))]++La) (Lt:=Lt) (M:=Lb) (i:=j) (j:=j+1) (vE [(b6,.cells #[J (0),J (0),J (0),.slice none 0 0] bi (0,0)),(b3,.cells #[J (ck),J (nx),J (wt),.slice (Qd g) tx2.length c2] bi (0,0)),(g,.cells cur dF (0,0))] La Lt Lb H) hot I hjl2 I) Z Z ?_
 rintro _ w6 ⟨A9,c9,L9,rfl,ho9,HI⟩;replace H:Hp w w6 ([(b6,.cells #[J (0),J (0),J (0),.slice none 0 0] bi (0,0)),(b3,.cells #[J (ck),J (nx),J (wt),.slice (Qd g) tx2.length c2] bi (0,0)),(g,.cells cur dF (0,0))]++((La++L9++Lb)++[])) [dU rP 0 w.heap.size cA txs,iP 0 w.heap.size txs]:=Bh [(b6,.cells #[J (0),J (0),J (0),.slice none 0 0] bi (0,0)),(b3,.cells #[J (ck),J (nx),J (wt),.slice (Qd g) tx2.length c2] bi (0,0)),(g,.cells cur dF (0,0))] La L9 Lb HI
 have hc9:(t2.parts.take j++t2.parts.drop (j+1)).length<=c9:=by obtain⟨_,_,e,h,_⟩:=ho9.form;injection e with _ _ e;rw[e];exact h
 refine G (aJ Z)<|G (Zf dz Z)<|k9 H 2 ({t2 with parts:=t2.parts.take j++t2.parts.drop (j+1),A:=A9,cap:=c9}) jK row ht2 4 Z Z Z Z Z Z N fun w8 cur7 row7 H=> ?_
 have hs9:(tx2.set i ({t2 with parts:=t2.parts.take j++t2.parts.drop (j+1),A:=A9,cap:=c9}))[i]? =some ({t2 with parts:=t2.parts.take j++t2.parts.drop (j+1),A:=A9,cap:=c9}):=al (cC ht2).1
 refine U<|W<|W<|Zr<|G (Yp Z)<|G (aJ Z)<|G (Zf dz Z)<|G (bP cy row7 hs9 4 Z (H.ent (i:=2) Z) Z)<|G (br eM Z) ?_
 refine cW (bn Z Z) Z Z Z (fun h72=> ?_) (fun h72=> ?_)
 refine U<|ZT Z<|Zr<|G (Yp Z)<|G (Yp Z)<|G (Yp Z)<|G (aJ Z)<|G (Zf cS Z)<|G (bP ak row7 hs9 3 Z (H.ent (i:=2) Z) Z)<|G (aJ Z)<|G (Zf cS Z)<|k9 H 2 ({({t2 with parts:=t2.parts.take j++t2.parts.drop (j+1),A:=A9,cap:=c9})with state:=1}) bH row7 hs9 3 Z Z Z Z Z Z N fun w11 cur10 row10 H=> ?_
 have hs12:((tx2.set i ({t2 with parts:=t2.parts.take j++t2.parts.drop (j+1),A:=A9,cap:=c9})).set i ({({t2 with parts:=t2.parts.take j++t2.parts.drop (j+1),A:=A9,cap:=c9})with state:=1}))[i]? =some ({({t2 with parts:=t2.parts.take j++t2.parts.drop (j+1),A:=A9,cap:=c9})with state:=1}):=al (cC hs9).1
 refine G (aJ Z)<|G (Zf jq Z)<|k9 H 2 ({({({t2 with parts:=t2.parts.take j++t2.parts.drop (j+1),A:=A9,cap:=c9})with state:=1})with done:=({t2 with parts:=t2.parts.take j++t2.parts.drop (j+1),A:=A9,cap:=c9}).state}) bH row10 hs12 6 Z Z Z Z Z Z N fun w14 cur13 row13 H=> ?_
 have hs15:(((tx2.set i ({t2 with parts:=t2.parts.take j++t2.parts.drop (j+1),A:=A9,cap:=c9})).set i ({({t2 with parts:=t2.parts.take j++t2.parts.drop (j+1),A:=A9,cap:=c9})with state:=1})).set i ({({({t2 with parts:=t2.parts.take j++t2.parts.drop (j+1),A:=A9,cap:=c9})with state:=1})with done:=({t2 with parts:=t2.parts.take j++t2.parts.drop (j+1),A:=A9,cap:=c9}).state}))[i]? =some ({({({t2 with parts:=t2.parts.take j++t2.parts.drop (j+1),A:=A9,cap:=c9})with state:=1})with done:=({t2 with parts:=t2.parts.take j++t2.parts.drop (j+1),A:=A9,cap:=c9}).state}):=al (cC hs12).1
 refine U<|W<|Zr<|G (Zw av H 1 Z Z Z)<|bo H 0 (#[J (ck),J (nx),J (wt),.slice (Qd g) tx2.length c2]) aF Z Z Z Z Z N N fun w16 H=>G (Wi Z)<|U<|Zt ?_
 have h72b:((t2.parts.take j++t2.parts.drop (j+1)).length:Int)=0:=h72
 have hX:Tx.a ({t2 with parts:=t2.parts.take j++t2.parts.drop (j+1),A:=A9,cap:=c9,done:=t2.state,state:=1})=(gH p t).a:=by rw[<-EQ hta];unfold gH;rw[<-hdl];rw[if_pos I,bT (show(t2.parts.take j++t2.parts.drop (j+1)).length=0 by omega)];rfl
 have hrow:dX rP (tx2.set i ({t2 with parts:=t2.parts.take j++t2.parts.drop (j+1),A:=A9,cap:=c9,done:=t2.state,state:=1})) c2 cur13:=by have hr:=row13;simp only[fy]at hr;exact hr
 exact bE (cs0:= #[J ck,J nx,J wt,.slice (Qd g) tx2.length c2]) (v1:=J 0) Z av Z (H.ent (i:=0) Z) Z Z ⟨⟨ck,nx,wt,tx2.set i ({t2 with parts:=t2.parts.take j++t2.parts.drop (j+1),A:=A9,cap:=c9,done:=t2.state,state:=1}),some ⟨g,0,none⟩,c2⟩,[(g,.cells cur13 dF (0,0))],(La++L9++Lb),by unfold Co.v Co.c;dsimp only;rw[ae],by unfold Co.a;dsimp only;rw[pq hma i hX],dX.own hrow,hset {t2 with parts:=t2.parts.take j++t2.parts.drop (j+1),A:=A9,cap:=c9,done:=t2.state,state:=1} L9 ho9,by dsimp only;rw[ae];exact hoc2,jU hpc2 i (by exact hc9),H.forget (.cons _ (.cons _ (aC _ _))) (by simp)⟩
 refine U<|ZF Z<|Zk<|W<|Zr<|G (Zw av H 1 Z Z Z)<|bo H 0 (#[J (ck),J (nx),J (wt),.slice (Qd g) tx2.length c2]) aF Z Z Z Z Z N N fun w17 H=>G (Wi Z)<|U<|Zt ?_
 have h72b: ¬ ((t2.parts.take j++t2.parts.drop (j+1)).length:Int)=0:=h72
 have hX:Tx.a ({t2 with parts:=t2.parts.take j++t2.parts.drop (j+1),A:=A9,cap:=c9})=(gH p t).a:=by rw[<-EQ hta];unfold gH;rw[<-hdl];rw[if_neg I];rfl
 have hrow:dX rP (tx2.set i ({t2 with parts:=t2.parts.take j++t2.parts.drop (j+1),A:=A9,cap:=c9})) c2 cur7:=by exact row7
 exact bE (cs0:= #[J ck,J nx,J wt,.slice (Qd g) tx2.length c2]) (v1:=J 0) Z av Z (H.ent (i:=0) Z) Z Z ⟨⟨ck,nx,wt,tx2.set i ({t2 with parts:=t2.parts.take j++t2.parts.drop (j+1),A:=A9,cap:=c9}),some ⟨g,0,none⟩,c2⟩,[(g,.cells cur7 dF (0,0))],(La++L9++Lb),by unfold Co.v Co.c;dsimp only;rw[ae],by unfold Co.a;dsimp only;rw[pq hma i hX],dX.own hrow,hset {t2 with parts:=t2.parts.take j++t2.parts.drop (j+1),A:=A9,cap:=c9} L9 ho9,by dsimp only;rw[ae];exact hoc2,jU hpc2 i (by exact hc9),H.forget (.cons _ (.cons _ (aC _ _))) (by simp)⟩
 refine G (Yb Z)<|ZN<|ZN<|ZN<|ZN<|ZN<|G (N Z Z)<|U<|ZF Z<|Zk<|W ?_
 have hrise:=(fQ hpo).1
 have hfw:=mG hpo
 rw[<-hpt]at hrise hfw hpm
 obtain⟨La,Lt,Lb,rfl,hot,hset⟩:=hp2.at_ ht2
 refine Zr<|G (Yp Z)<|G (aJ Z)<|G (Zf dz Z)<|G (bP cy row ht2 4 Z (H.ent (i:=2) Z) Z)<|G (Yi Z)<|ch ee (qt t2.parts p t2.A t2.cap _ ((hot.rd (K:=[(b6,.cells #[J (0),J (0),J (0),.slice none 0 0] bi (0,0)),(b3,.cells #[J (ck),J (nx),J (wt),.slice (Qd g) tx2.length c2] bi (0,0)),(g,.cells cur dF (0,0))]++La) (M:=Lb) (vE [(b6,.cells #[J (0),J (0),J (0),.slice none 0 0] bi (0,0)),(b3,.cells #[J (ck),J (nx),J (wt),.slice (Qd g) tx2.length c2] bi (0,0)),(g,.cells cur dF (0,0))] La Lt Lb H)).mono (bG _) (ao _)) I hrise) Z Z ?_
 rintro _ w18 ⟨j,rfl,hjl,hj1,hj2,hb⟩;replace H:=H.later hb;clear hb
 have hjp:=there hj2 hj1 hrise hpm
 rw[show decide (t2.parts[j]? =some p)=true from decide_eq_true hjp]
 have hdl:=Iq hrise hjp
 have hjl2:=(cC hjp).1
 refine G (Yu Z)<|G (Xi Z Z)<|G (Xb Z Z)<|G (Wi Z)<|G (Wb Z)<|U<|W<|W<|Zr<|G (Yb Z)<|G (dM Z)<|U<|ZF Z<|Zk<|W<|Zr<|G (Yp Z)<|G (Yp Z)<|G (aJ Z)<|G (Zf dz Z)<|G (bP cy row ht2 4 Z (H.ent (i:=2) Z) Z)<|G (Yi Z)<|G (Yi Z)<|G (bw Z Z I I)<|ch kW (xt (K:=[(b6,.cells #[J (0),J (0),J (0),.slice none 0 0] bi (0,0)),(b3,.cells #[J (ck),J (nx),J (wt),.slice (Qd g) tx2.length c2] bi (0,0)),(g,.cells cur dF (0,0))]++La) (Lt:=Lt) (M:=Lb) (i:=j) (j:=j+1) (vE [(b6,.cells #[J (0),J (0),J (0),.slice none 0 0] bi (0,0)),(b3,.cells #[J (ck),J (nx),J (wt),.slice (Qd g) tx2.length c2] bi (0,0)),(g,.cells cur dF (0,0))] La Lt Lb H) hot I hjl2 I) Z Z ?_
 rintro _ w19 ⟨A9,c9,L9,rfl,ho9,HI⟩;replace H:Hp w w19 ([(b6,.cells #[J (0),J (0),J (0),.slice none 0 0] bi (0,0)),(b3,.cells #[J (ck),J (nx),J (wt),.slice (Qd g) tx2.length c2] bi (0,0)),(g,.cells cur dF (0,0))]++((La++L9++Lb)++[])) [dU rP 0 w.heap.size cA txs,iP 0 w.heap.size txs]:=Bh [(b6,.cells #[J (0),J (0),J (0),.slice none 0 0] bi (0,0)),(b3,.cells #[J (ck),J (nx),J (wt),.slice (Qd g) tx2.length c2] bi (0,0)),(g,.cells cur dF (0,0))] La L9 Lb HI
 have hc9:(t2.parts.take j++t2.parts.drop (j+1)).length<=c9:=by obtain⟨_,_,e,h,_⟩:=ho9.form;injection e with _ _ e;rw[e];exact h
 refine G (aJ Z)<|G (Zf dz Z)<|k9 H 2 ({t2 with parts:=t2.parts.take j++t2.parts.drop (j+1),A:=A9,cap:=c9}) jK row ht2 4 Z Z Z Z Z Z N fun w21 cur20 row20 H=> ?_
 have hs22:(tx2.set i ({t2 with parts:=t2.parts.take j++t2.parts.drop (j+1),A:=A9,cap:=c9}))[i]? =some ({t2 with parts:=t2.parts.take j++t2.parts.drop (j+1),A:=A9,cap:=c9}):=al (cC ht2).1
 refine U<|W<|W<|Zr<|G (Yp Z)<|G (aJ Z)<|G (Zf dz Z)<|G (bP cy row20 hs22 4 Z (H.ent (i:=2) Z) Z)<|G (br eM Z) ?_
 refine cW (bn Z Z) Z Z Z (fun h72=> ?_) (fun h72=> ?_)
 refine U<|ZT Z<|Zr<|G (Yp Z)<|G (Yp Z)<|G (Yp Z)<|G (aJ Z)<|G (Zf cS Z)<|G (bP ak row20 hs22 3 Z (H.ent (i:=2) Z) Z)<|G (aJ Z)<|G (Zf cS Z)<|k9 H 2 ({({t2 with parts:=t2.parts.take j++t2.parts.drop (j+1),A:=A9,cap:=c9})with state:=1}) bH row20 hs22 3 Z Z Z Z Z Z N fun w24 cur23 row23 H=> ?_
 have hs25:((tx2.set i ({t2 with parts:=t2.parts.take j++t2.parts.drop (j+1),A:=A9,cap:=c9})).set i ({({t2 with parts:=t2.parts.take j++t2.parts.drop (j+1),A:=A9,cap:=c9})with state:=1}))[i]? =some ({({t2 with parts:=t2.parts.take j++t2.parts.drop (j+1),A:=A9,cap:=c9})with state:=1}):=al (cC hs22).1
 refine G (aJ Z)<|G (Zf jq Z)<|k9 H 2 ({({({t2 with parts:=t2.parts.take j++t2.parts.drop (j+1),A:=A9,cap:=c9})with state:=1})with done:=({t2 with parts:=t2.parts.take j++t2.parts.drop (j+1),A:=A9,cap:=c9}).state}) bH row23 hs25 6 Z Z Z Z Z Z N fun w27 cur26 row26 H=> ?_
 have hs28:(((tx2.set i ({t2 with parts:=t2.parts.take j++t2.parts.drop (j+1),A:=A9,cap:=c9})).set i ({({t2 with parts:=t2.parts.take j++t2.parts.drop (j+1),A:=A9,cap:=c9})with state:=1})).set i ({({({t2 with parts:=t2.parts.take j++t2.parts.drop (j+1),A:=A9,cap:=c9})with state:=1})with done:=({t2 with parts:=t2.parts.take j++t2.parts.drop (j+1),A:=A9,cap:=c9}).state}))[i]? =some ({({({t2 with parts:=t2.parts.take j++t2.parts.drop (j+1),A:=A9,cap:=c9})with state:=1})with done:=({t2 with parts:=t2.parts.take j++t2.parts.drop (j+1),A:=A9,cap:=c9}).state}):=al (cC hs25).1
 refine U<|W<|Zr<|G (Zw av H 1 Z Z Z)<|bo H 0 (#[J (ck),J (nx),J (wt),.slice (Qd g) tx2.length c2]) aF Z Z Z Z Z N N fun w29 H=>G (Wi Z)<|U<|Zt ?_
 have h72b:((t2.parts.take j++t2.parts.drop (j+1)).length:Int)=0:=h72
 have hX:Tx.a ({t2 with parts:=t2.parts.take j++t2.parts.drop (j+1),A:=A9,cap:=c9,done:=t2.state,state:=1})=(gH p t).a:=by rw[<-EQ hta];unfold gH;rw[<-hdl];rw[if_pos I,bT (show(t2.parts.take j++t2.parts.drop (j+1)).length=0 by omega)];rfl
 have hrow:dX rP (tx2.set i ({t2 with parts:=t2.parts.take j++t2.parts.drop (j+1),A:=A9,cap:=c9,done:=t2.state,state:=1})) c2 cur26:=by have hr:=row26;simp only[fy]at hr;exact hr
 exact bE (cs0:= #[J ck,J nx,J wt,.slice (Qd g) tx2.length c2]) (v1:=J 0) Z av Z (H.ent (i:=0) Z) Z Z ⟨⟨ck,nx,wt,tx2.set i ({t2 with parts:=t2.parts.take j++t2.parts.drop (j+1),A:=A9,cap:=c9,done:=t2.state,state:=1}),some ⟨g,0,none⟩,c2⟩,[(g,.cells cur26 dF (0,0))],(La++L9++Lb),by unfold Co.v Co.c;dsimp only;rw[ae],by unfold Co.a;dsimp only;rw[pq hma i hX],dX.own hrow,hset {t2 with parts:=t2.parts.take j++t2.parts.drop (j+1),A:=A9,cap:=c9,done:=t2.state,state:=1} L9 ho9,by dsimp only;rw[ae];exact hoc2,jU hpc2 i (by exact hc9),H.forget (.cons _ (.cons _ (aC _ _))) (by simp)⟩
 refine U<|ZF Z<|Zk<|W<|Zr<|G (Zw av H 1 Z Z Z)<|bo H 0 (#[J (ck),J (nx),J (wt),.slice (Qd g) tx2.length c2]) aF Z Z Z Z Z N N fun w30 H=>G (Wi Z)<|U<|Zt ?_
 have h72b: ¬ ((t2.parts.take j++t2.parts.drop (j+1)).length:Int)=0:=h72
 have hX:Tx.a ({t2 with parts:=t2.parts.take j++t2.parts.drop (j+1),A:=A9,cap:=c9})=(gH p t).a:=by rw[<-EQ hta];unfold gH;rw[<-hdl];rw[if_neg I];rfl
 have hrow:dX rP (tx2.set i ({t2 with parts:=t2.parts.take j++t2.parts.drop (j+1),A:=A9,cap:=c9})) c2 cur20:=by exact row20
 exact bE (cs0:= #[J ck,J nx,J wt,.slice (Qd g) tx2.length c2]) (v1:=J 0) Z av Z (H.ent (i:=0) Z) Z Z ⟨⟨ck,nx,wt,tx2.set i ({t2 with parts:=t2.parts.take j++t2.parts.drop (j+1),A:=A9,cap:=c9}),some ⟨g,0,none⟩,c2⟩,[(g,.cells cur20 dF (0,0))],(La++L9++Lb),by unfold Co.v Co.c;dsimp only;rw[ae],by unfold Co.a;dsimp only;rw[pq hma i hX],dX.own hrow,hset {t2 with parts:=t2.parts.take j++t2.parts.drop (j+1),A:=A9,cap:=c9} L9 ho9,by dsimp only;rw[ae];exact hoc2,jU hpc2 i (by exact hc9),H.forget (.cons _ (.cons _ (aC _ _))) (by simp)⟩
theorem HW (c:Co) (s:ByteArray) (i:Nat) (t:Tx) (w:World) (h:c.rd 0 w.heap.size w) (hok:gI c=true) (hn:bL s=true) (hi:fR c s=i) (ht:c.txs[i]? =some t) (h34:t.state=3∨t.state=4):dh aa mQ [c.v,.string s] w fun v w2=>v=.tuple #[.agg #[J 0,J 0,J 0,.slice none 0 0],J 0,J 0,J 12]/\Below w.heap.size w w2:=by
 refine aE ob Z Z ?_
 have hcap:=h.cap
 have hfew:=h.few
 have hfp:=h.fewP
 have H:=Hp.startCo h
 obtain⟨ck,nx,wt,txs,cA,cc⟩:=c
 dsimp only at hcap hfew hfp H
 show CW _ _ _ _ (args [.agg #[J ck,J nx,J wt,.slice cA txs.length cc],.string s]) w
 dsimp only at ht
 refine W<|Zr<|f7 H Z Z fun w1 b2 H=>eP H cM Z fun w2 b4 H=>G (Wi Z)<|G (Wi Z)<|G (Wi Z)<|U<|W<|Zr<|G (Zw av H 1 Z Z Z)<|G (Yt Z)<|ch ir (lS ⟨ck,nx,wt,txs,cA,cc⟩ s _ ⟨H.rd0 0 Z,fun t ht=>fE H 1 Z ht,hcap,hfew,hfp⟩ hok hn) Z Z ?_
 rintro _ w3 ⟨⟨ck2,nx2,wt2,tx2,A2,c2⟩,Lr,Lp,rfl,ha2,ho2,hp2,hoc2,hpc2,hj2⟩
 replace H:=H.joinR hj2;clear hj2
 simp only[Co.a,Co.mk.injEq]at ha2
 obtain⟨e1,e2,e3,hma,-,-⟩:=ha2
 obtain rfl:ck=ck2:=e1.symm
 obtain rfl:nx=nx2:=e2.symm
 obtain rfl:wt=wt2:=e3.symm
 dsimp only at ho2 hp2 hoc2 hpc2 H
 obtain⟨t2,ht2,hta⟩:=rm hma ht
 have hl2:=(cC ht2).1
 obtain⟨g,cur,rfl,rfl,row⟩:=ho2.row I
 have hst:t2.state=t.state:=by show t2.a.state=t.a.state;rw[hta]
 have hdn:t2.done=t.done:=by show t2.a.done=t.a.done;rw[hta]
 have hpt:t2.parts=t.parts:=by show t2.a.parts=t.a.parts;rw[hta]
 rw[hi]
 refine G (Yu Z)<|G (Xa Z Z)<|G (Xi Z Z)<|G (Xi Z Z)<|bo H 1 (#[J (ck),J (nx),J (wt),.slice (Qd g) tx2.length c2]) aF Z Z Z Z Z N N fun w4 H=>G (Wi Z)<|G (Wi Z)<|U<|W<|W<|Zr<|G (Yi Z)<|G (bZ Z Z Z)<|U<|ZF Z<|Zk<|W<|W<|Zr<|G (Yi Z)<|G (dd Z Z I)<|U<|ZF Z<|Zk<|W<|Zr<|G (Zf cQ Z)<|G (Zd dL H 1 Z Z Z)<|G (Yi Z)<|G (cG gM Z Z (by first|omega|(simp only[ae];omega)))<|G (Wp Z)<|U<|W<|Zb<|W<|Zr<|G (Yp Z)<|G (aJ Z)<|G (Zf cS Z)<|G (bP ak row ht2 3 Z (H.ent (i:=2) Z) Z) ?_
 refine cW (bn Z Z) Z Z Z (fun h60=> ?_) (fun h60=> ?_)
 refine G (Yb Z)<|ZN<|ZN<|ZN<|ZN<|ZN<|G (Kt Z Z)<|G (Wb Z)<|U<|ZT Z<|W<|Zr<|G (bg (cs:= #[J (0),J (0),J (0),.slice none 0 0]) fG cM N)<|bo H 0 (#[J (0),J (0),J (0),.slice none 0 0]) aF Z Z Z Z Z N N fun w5 H=>G (Wi Z)<|G (Wi Z)<|G (Wi Z)<|U<|Zt ?_
 exact mU (cs0:= #[J 0,J 0,J 0,.slice none 0 0]) (v1:=J 0) (v2:=J 0) (v3:=J 12) Z av Z (H.ent (i:=0) Z) Z Z Z Z ⟨rfl,H.below⟩
 refine G (Yb Z)<|ZG<|G (Yp Z)<|ZG<|G (aJ Z)<|ZG<|G (Zf cS Z)<|ZG<|G (bP ak row ht2 3 Z (H.ent (i:=2) Z) Z)<|ZG<|G (lQ Z Z I)<|G (N Z Z)<|G (Wb Z)<|U<|ZT Z<|W<|Zr<|G (bg (cs:= #[J (0),J (0),J (0),.slice none 0 0]) fG cM N)<|bo H 0 (#[J (0),J (0),J (0),.slice none 0 0]) aF Z Z Z Z Z N N fun w6 H=>G (Wi Z)<|G (Wi Z)<|G (Wi Z)<|U<|Zt ?_
 exact mU (cs0:= #[J 0,J 0,J 0,.slice none 0 0]) (v1:=J 0) (v2:=J 0) (v3:=J 12) Z av Z (H.ent (i:=0) Z) Z Z Z Z ⟨rfl,H.below⟩
theorem M1 (c:Co) (s:ByteArray) (ver:Int) (b:Bool) (w:World) (h:c.rd 0 w.heap.size w) (hok:gI c=true) (hn:bL s=true) (hi:fR c s= -1):dh aa l8 [c.v,.string s,J ver,.bool b] w fun v w2=>v=.tuple #[.agg #[J 0,J 0,J 0,.slice none 0 0],J 5]/\Below w.heap.size w w2:=by
 refine aE pS Z Z ?_
 have hcap:=h.cap
 have hfew:=h.few
 have hfp:=h.fewP
 have H:=Hp.startCo h
 obtain⟨ck,nx,wt,txs,cA,cc⟩:=c
 dsimp only at hcap hfew hfp H
 show CW _ _ _ _ (args [.agg #[J ck,J nx,J wt,.slice cA txs.length cc],.string s,J ver,.bool b]) w
 refine W<|Zr<|f7 H Z Z fun w1 b4 H=>eP H cM Z fun w2 b8 H=>G (Wi Z)<|U<|W<|Zr<|G (Zw av H 1 Z Z Z)<|G (Yt Z)<|G (Yi Z)<|ch gK (AS ⟨ck,nx,wt,txs,cA,cc⟩ s ver _ ⟨H.rd0 0 Z,fun t ht=>fE H 1 Z ht,hcap,hfew,hfp⟩ hok hn hi) Z Z ?_
 rintro _ w3 ⟨rfl,hb⟩;replace H:=H.later hb;clear hb
 refine G (Yu Z)<|G (Xa Z Z)<|G (Xi Z Z)<|G (Xi Z Z)<|bo H 1 (#[J (0),J (0),J (0),.slice none 0 0]) aF Z Z Z Z Z N N fun w4 H=>G (Wi Z)<|G (Wi Z)<|U<|W<|W<|Zr<|G (Yi Z)<|G (kh Z Z (by decide))<|U<|ZT Z<|W<|Zr<|G (bg (cs:= #[J (0),J (0),J (0),.slice none 0 0]) fG cM N)<|G (Yi Z)<|bo H 0 (#[J (0),J (0),J (0),.slice none 0 0]) aF Z Z Z Z Z N N fun w5 H=>G (Wi Z)<|U<|Zt ?_
 exact bE (cs0:= #[J 0,J 0,J 0,.slice none 0 0]) (v1:=J 5) Z av Z (H.ent (i:=0) Z) Z Z ⟨rfl,H.below⟩
theorem Kp (c:Co) (s:ByteArray) (ver:Int) (b:Bool) (i:Nat) (t:Tx) (w:World) (h:c.rd 0 w.heap.size w) (hok:gI c=true) (hn:bL s=true) (hi:fR c s=i) (ht:c.txs[i]? =some t) (hv:t.ver≠ver):dh aa l8 [c.v,.string s,J ver,.bool b] w fun v w2=>v=.tuple #[.agg #[J 0,J 0,J 0,.slice none 0 0],J 10]/\Below w.heap.size w w2:=by
 refine aE pS Z Z ?_
 have hcap:=h.cap
 have hfew:=h.few
 have hfp:=h.fewP
 have H:=Hp.startCo h
 obtain⟨ck,nx,wt,txs,cA,cc⟩:=c
 dsimp only at hcap hfew hfp H
 show CW _ _ _ _ (args [.agg #[J ck,J nx,J wt,.slice cA txs.length cc],.string s,J ver,.bool b]) w
 dsimp only at ht
 refine W<|Zr<|f7 H Z Z fun w1 b4 H=>eP H cM Z fun w2 b8 H=>G (Wi Z)<|U<|W<|Zr<|G (Zw av H 1 Z Z Z)<|G (Yt Z)<|G (Yi Z)<|ch gK (yV ⟨ck,nx,wt,txs,cA,cc⟩ s ver i t _ ⟨H.rd0 0 Z,fun t ht=>fE H 1 Z ht,hcap,hfew,hfp⟩ hok hn hi ht hv) Z Z ?_
 rintro _ w3 ⟨rfl,hb⟩;replace H:=H.later hb;clear hb
 refine G (Yu Z)<|G (Xa Z Z)<|G (Xi Z Z)<|G (Xi Z Z)<|bo H 1 (#[J (0),J (0),J (0),.slice none 0 0]) aF Z Z Z Z Z N N fun w4 H=>G (Wi Z)<|G (Wi Z)<|U<|W<|W<|Zr<|G (Yi Z)<|G (kh Z Z (by decide))<|U<|ZT Z<|W<|Zr<|G (bg (cs:= #[J (0),J (0),J (0),.slice none 0 0]) fG cM N)<|G (Yi Z)<|bo H 0 (#[J (0),J (0),J (0),.slice none 0 0]) aF Z Z Z Z Z N N fun w5 H=>G (Wi Z)<|U<|Zt ?_
 exact bE (cs0:= #[J 0,J 0,J 0,.slice none 0 0]) (v1:=J 10) Z av Z (H.ent (i:=0) Z) Z Z ⟨rfl,H.below⟩
theorem Lc (c:Co) (n:Int) (w:World) (h:c.rd 0 w.heap.size w) (hok:gI c=true) (hn:1000<n):dh aa sP [c.v,J n] w fun v w2=>v=.tuple #[.agg #[J 0,J 0,J 0,.slice none 0 0],J 2]/\Below w.heap.size w w2:=by
 refine aE vG Z Z ?_
 have hcap:=h.cap
 have hfew:=h.few
 have hfp:=h.fewP
 have H:=Hp.startCo h
 obtain⟨ck,nx,wt,txs,cA,cc⟩:=c
 dsimp only at hcap hfew hfp H
 show CW _ _ _ _ (args [.agg #[J ck,J nx,J wt,.slice cA txs.length cc],J n]) w
 refine W<|Zr<|f7 H Z Z fun w1 b2 H=>eP H cM Z fun w2 b4 H=>G (Wi Z)<|U<|W<|W<|Zr<|G (Zw av H 1 Z Z Z)<|ch kH (qp ⟨ck,nx,wt,txs,cA,cc⟩ _ ⟨H.rd0 0 Z,fun t ht=>fE H 1 Z ht,hcap,hfew,hfp⟩) Z Z ?_
 rw[hok]
 rintro _ w3 ⟨rfl,hb⟩;replace H:=H.later hb;clear hb
 refine G (Wi Z)<|U<|W<|Zr<|G (Yi Z)<|G (bZ Z Z Z)<|U<|ZF Z<|Zk<|W<|W<|Zr<|G (Yi Z)<|G (dd Z Z I)<|G (Yb Z)<|ZG<|G (Yi Z)<|ZG<|G (Ie Z Z I)<|G (N Z Z)<|G (Yb Z)<|ZN<|ZN<|ZN<|ZN<|ZN<|G (Kt Z Z)<|U<|ZT Z<|W<|Zr<|G (bg (cs:= #[J (0),J (0),J (0),.slice none 0 0]) fG cM N)<|bo H 0 (#[J (0),J (0),J (0),.slice none 0 0]) aF Z Z Z Z Z N N fun w4 H=>G (Wi Z)<|U<|Zt ?_
 exact bE (cs0:= #[J 0,J 0,J 0,.slice none 0 0]) (v1:=J 2) Z av Z (H.ent (i:=0) Z) Z Z ⟨rfl,H.below⟩
end Go.Proofs.YtclibalpdhhhfaaGreat
