/- Part 3 of the proofs over this seat: what its theorems say holds for every input that they name. -/
import Derived.Test.YtclibalpdhhhfaaGreatAF2
namespace Go.Proofs.YtclibalpdhhhfaaGreat
open Go Go.Eng Go.RowKit
open Go.Eng renaming m8→U, AG→W, Jj→Zr, M1→Zk, Pm→Zt, OL→Zb, O4→Zx, Pv→Yi, Pw→Yb, Pt→Ys, Pu→Yp, Ps→Yt, Pr→Yu, PK→Wi, PL→Wb, PI→Ws, PJ→Wp, PH→Wt, Pz→Zf, PD→Xi, PF→Xa, PE→Xb, Pc→Kt, Pd→N, pB→ZT, oq→ZF
open Go.Proofs.Tryz renaming prog→aa
open _root_.List renaming length_set→ab,mem_of_getElem?→ae,getElem?_eq_getElem→ah,mem_cons_of_mem→ak,getElem?_set_self→am,mem_singleton→aq,mem_append→au,mem_cons→ax,length_append→ay,mem_cons_self→az,getElem?_eq_some_iff→aA,sublist_append_left→aC,append_assoc→aE,length_take→aH,getElem?_map→aL,mem_iff_getElem?→aW,append_nil→aX,findIdx?_eq_some_iff_getElem→bf,map_append→bk,mem_map→bw,mem_or_eq_of_mem_set→bE,length_map→bF,take_length→bJ,mem_map_of_mem→bL,length_singleton→bO,eq_nil_of_length_eq_zero→bS,length_cons→bV,mem_append_right→ch,sublist_append_right→cj,length→cu,getElem?_append_right→cv,map_set→cw,getElem?_eq_none→cI,getElem?_take→de,findIdx?_eq_none_iff→dm,length_drop→dE,getElem?_drop→dI,mem_singleton_self→dW,all_eq_true→d9,drop_of_length_le→ef,pairwise_cons→ei,map_cons→eF,ext_getElem?→eG,set_set→fk,drop_length→fm,perm_append_comm_assoc→fR,take_append_drop→gG,mem_append_left→hZ,set_append_right→i5,pairwise_map→jh,filter_eq_self→jJ,filter_cons_of_pos→jP,drop_drop→jQ,filter_append→ko,nodup_cons→kE,nil_append→kF,mem_filter→kG,getElem?_set→lh,pairwise_append→lT,drop_zero→lU,map_nil→mb,pairwise_iff_getElem→mH,headD_eq_head?_getD→mZ,filter_cons_of_neg→oB,head?_eq_getElem?→oU,getElem?_zipWith→qh,perm_middle→qj,cons_append→qk,drop_set_of_lt→rU,map_map→r3,take_zero→yD,mem_of_mem_take→yE,take_set_of_le→zd,getElem?_range→zf,drop_succ_cons→zg,find?_eq_none→Bg,findIdx?_map→CT
open _root_.List.Perm renaming swap→al
open _root_.Nat renaming le_refl→ao,le_trans→aS,min_eq_left→bu,zero_le→bG,zero_add→cH,add_mul→cP,mul_le_mul_right→dg,one_mul→gy,lt_or_ge→iE,le_of_lt→ma,add_zero→rY,zero_mul→vY
open _root_.List.Sublist renaming refl→ap,cons_cons→oW
open _root_.Bool renaming and_eq_true→aQ,true_and→gR,not_eq_true'→oX,eq_iff_iff→xh
open _root_.Option.some renaming inj→bj,injEq→lg
open _root_.Array renaming length_toList→ci
open _root_.Option renaming map_some→eS,bind_some→fN,map_eq_some_iff→iD
open _root_.List.Mem renaming head→fA,tail→qw
open _root_.Int renaming le_refl→iS
set_option maxHeartbeats 4000000
set_option maxRecDepth 20000
set_option linter.unusedSimpArgs false
set_option linter.unusedVariables false
set_option linter.unusedSectionVars false
theorem sh {β:Type} (X A C:List β):(X++A++C).Perm (A++(X++C)):=by
 rw[aE]
 exact fR X A C
theorem si (l:List Mem):(l.map Mem.a).map Mem.name=l.map Mem.name:=by rw[r3];rfl
theorem LA (ms:List Mem) (p:Nat):(oO ms p).map Mem.a=oO (ms.map Mem.a) p:=by
 unfold oO
 rw[si,List.map_zipWith,List.zipWith_map_left]
 rfl
theorem AO (ms:List Mem) (p:Nat):(oO ms p).length=ms.length:=by
 unfold oO
 rw[List.length_zipWith,ou,bF];omega
theorem AN {ms:List Mem} {p:Nat} {m:Mem} (h:m∈oO ms p): ∃ i,m.parts=mg (ms.map Mem.name) p i:=by
 obtain⟨i,hi⟩:=aW.1 h
 have hl:=(cE hi).1
 rw[AO]at hl
 obtain⟨x,hx⟩: ∃ x,ms[i]? =some x:=⟨_,ah hl⟩
 have hp:(gF (ms.map Mem.name) p)[i]? =some (mg (ms.map Mem.name) p i):=by
  unfold gF
  rw[aL,bF,zf hl];rfl
 rw[Lz hx hp]at hi
 injection hi with hi
 exact⟨i,by rw[<-hi]⟩
def Hc (g:Gr) (p:Nat):Gr:={g with gen:=g.gen+1,ms:=oO g.ms p}
def Di (s:ByteArray) (ck:Int):Mem:=⟨s,ck,[],none,0,0,0⟩
theorem HP {w w2:World} {ck wt gn:Int} {ms' l:List Mem} {mA oA:Option Addr} {mC oC p:Nat} {os:List l8} {Lm Lo:List (Nat×Obj)} (ha:ms'.map Mem.a=oO (l.map Mem.a) p) (hl:l.length<=6) (hp:p<=4) (hol:os.length<=4) (ho:gd jF (.slice mA ms'.length mC) db ms' Lm) (hoo:gd fP (.slice oA os.length oC) d7 os Lo) (hoc:os.length<=oC) (hc: ∀ m∈ms',m.parts.length<=m.cap/\w.heap.size<=m.lo) (H:Hp w w2 (Lm++Lo) (ms'.map m6)):yB w w2 ⟨ck,wt,gn,ms',mA,mC,os,oA,oC⟩:=by
 have hml:ms'.length=l.length:=by have:=congrArg cu ha;rw[AO]at this;simpa using this
 have hmc:ms'.length<=mC:=by
  obtain⟨_,c,e,h,_⟩:=ho.form
  injection e with _ _ e
  rw[e];exact h
 refine qO.new (ga:=Gr.a ⟨ck,wt,gn,ms',mA,mC,os,oA,oC⟩) ⟨rfl,ho,hoo,hmc,hoc,hc,H⟩ (by dsimp only;omega) (by dsimp only;omega) fun m hm=> ?_
 have h1:m.a∈oO (l.map Mem.a) p:=ha▸bL hm
 obtain⟨i,hi⟩:=AN h1
 have h2:m.parts=mg ((l.map Mem.a).map Mem.name) p i:=hi
 rw[h2]
 have:=yg ((l.map Mem.a).map Mem.name) p i
 omega
theorem GH (g:Gr) (s:ByteArray) (p:Nat) (w:World) (h:g.rd 0 w.heap.size w) (hok:lu g=true) (hn:bM s=true) (hp:p<=4) (hg1:g.gen<1073741824) (i:Nat) (hi:pU g s=i):dd aa pn [g.v,.string s,J (p:Nat)] w fun v w2=>v=.tuple #[.agg #[J 0,J 0,J 0,.slice none 0 0,.slice none 0 0],J 6]/\Below w.heap.size w w2:=by
 refine aD rj Z Z ?_
 have hmC:=h.mC
 have hoC:=h.oC
 have hfew:=h.few
 have hfp:=h.fewP
 have H:=Hp.startGr h
 obtain⟨ck,wt,gn,ms,mA,mC,os,oA,oC⟩:=g
 dsimp only at hmC hoC hfew hfp H
 show CW _ _ _ _ (args [.agg #[J (ck),J (wt),J (gn),.slice mA ms.length mC,.slice oA os.length oC],.string (s),J (((p:Nat):Int))]) w
 obtain⟨⟨⟨k1,k2⟩,k3,k4,⟨k5,k6⟩,k7,k8⟩,⟨hmo,hap⟩,hof,hor⟩:=du.1 hok
 dsimp only at k1 k2 k3 k4 k5 k6 k7 k8 hg1
 refine W<|Zr<|fQ H Z Z fun w1 b3 H=>eH H dZ Z fun w2 b6 H=>G (Wi Z)<|U<|W<|Zr<|G (Zw aP H 1 Z Z Z)<|G (Yt Z)<|cd gb (mp ⟨ck,wt,gn,ms,mA,mC,os,oA,oC⟩ s _ ⟨H.rd0 0 Z,fun m hm=>y5 H 1 Z hm,H.rd0 2 Z,hmC,hoC,hfew,hfp⟩ hok hn) Z Z ?_
 rintro _ w3 ⟨⟨ck2,wt2,gn2,ms2,mA2,mC2,os2,oA2,oC2⟩,Lm,Lo,rfl,ha2,ho2,hoo2,hmc2,hoc2,hpc2,hj2⟩
 have hlo2:=H.size
 replace H:=Hp.joinG H hj2 (fun m hm=>(hpc2 m hm).2);clear hj2
 simp only[Gr.a,Gr.mk.injEq]at ha2
 obtain⟨e1,e2,e3,hma,-,-,e4,-,-⟩:=ha2
 obtain rfl:ck=ck2:=e1.symm
 obtain rfl:wt=wt2:=e2.symm
 obtain rfl:gn=gn2:=e3.symm
 obtain rfl:os=os2:=e4.symm
 dsimp only at ho2 hoo2 hmc2 hoc2 hpc2 H
 replace hpc2: ∀ m∈ms2,m.parts.length<=m.cap/\w.heap.size<=m.lo:=fun m hm=>⟨(hpc2 m hm).1,aS hlo2 (hpc2 m hm).2⟩
 have hml2:ms2.length=ms.length:=by have:=congrArg cu hma;simpa using this
 rw[hi]
 refine G (Yu Z)<|G (Xa Z Z)<|G (Xi Z Z)<|G (Xi Z Z)<|bo H 1 (#[J (ck),J (wt),J (gn),.slice mA2 ms2.length mC2,.slice oA2 os.length oC2]) bB Z Z Z Z Z N N fun w4 H=>G (Wi Z)<|G (Wi Z)<|U<|W<|Zb<|W<|Zr<|G (Yi Z)<|G (bU Z Z Z)<|G (Wb Z)<|U<|ZF Z<|W<|Zr<|G (Zw aP H 1 Z Z Z)<|G (Yi Z)<|cd kz (sD ⟨ck,wt,gn,ms2,mA2,mC2,os,oA2,oC2⟩ p _) Z Z ?_
 rw[show iQ ⟨ck,wt,gn,ms2,mA2,mC2,os,oA2,oC2⟩ p=true by unfold iQ;simp;omega]
 rintro _ w5 ⟨rfl,hb⟩;replace H:=H.later hb;clear hb
 refine G (dK Z)<|G (Wb Z)<|U<|ZF Z<|W<|Zr<|G (Yi Z)<|G (N4 Z Z I)<|G (Wb Z)<|U<|ZT Z<|W<|Zr<|G (bi (cs:= #[J (0),J (0),J (0),.slice none 0 0,.slice none 0 0]) jR dZ N)<|bo H 0 (#[J (0),J (0),J (0),.slice none 0 0,.slice none 0 0]) bB Z Z Z Z Z N N fun w6 H=>G (Wi Z)<|U<|Zt ?_
 exact bC (cs0:= #[J 0,J 0,J 0,.slice none 0 0,.slice none 0 0]) (v1:=J 6) Z aP Z (H.ent (i:=0) Z) Z Z ⟨rfl,H.below⟩
theorem IU (g:Gr) (s:ByteArray) (p:Nat) (w:World) (h:g.rd 0 w.heap.size w) (hok:lu g=true) (hn:bM s=true) (hp:p<=4) (hg1:g.gen<1073741824) (hi:pU g s= -1) (hf:g.ms.length=6):dd aa pn [g.v,.string s,J (p:Nat)] w fun v w2=>v=.tuple #[.agg #[J 0,J 0,J 0,.slice none 0 0,.slice none 0 0],J 16]/\Below w.heap.size w w2:=by
 refine aD rj Z Z ?_
 have hmC:=h.mC
 have hoC:=h.oC
 have hfew:=h.few
 have hfp:=h.fewP
 have H:=Hp.startGr h
 obtain⟨ck,wt,gn,ms,mA,mC,os,oA,oC⟩:=g
 dsimp only at hmC hoC hfew hfp H
 show CW _ _ _ _ (args [.agg #[J (ck),J (wt),J (gn),.slice mA ms.length mC,.slice oA os.length oC],.string (s),J (((p:Nat):Int))]) w
 obtain⟨⟨⟨k1,k2⟩,k3,k4,⟨k5,k6⟩,k7,k8⟩,⟨hmo,hap⟩,hof,hor⟩:=du.1 hok
 dsimp only at k1 k2 k3 k4 k5 k6 k7 k8 hg1
 dsimp only at hf
 refine W<|Zr<|fQ H Z Z fun w1 b3 H=>eH H dZ Z fun w2 b6 H=>G (Wi Z)<|U<|W<|Zr<|G (Zw aP H 1 Z Z Z)<|G (Yt Z)<|cd gb (mp ⟨ck,wt,gn,ms,mA,mC,os,oA,oC⟩ s _ ⟨H.rd0 0 Z,fun m hm=>y5 H 1 Z hm,H.rd0 2 Z,hmC,hoC,hfew,hfp⟩ hok hn) Z Z ?_
 rintro _ w3 ⟨⟨ck2,wt2,gn2,ms2,mA2,mC2,os2,oA2,oC2⟩,Lm,Lo,rfl,ha2,ho2,hoo2,hmc2,hoc2,hpc2,hj2⟩
 have hlo2:=H.size
 replace H:=Hp.joinG H hj2 (fun m hm=>(hpc2 m hm).2);clear hj2
 simp only[Gr.a,Gr.mk.injEq]at ha2
 obtain⟨e1,e2,e3,hma,-,-,e4,-,-⟩:=ha2
 obtain rfl:ck=ck2:=e1.symm
 obtain rfl:wt=wt2:=e2.symm
 obtain rfl:gn=gn2:=e3.symm
 obtain rfl:os=os2:=e4.symm
 dsimp only at ho2 hoo2 hmc2 hoc2 hpc2 H
 replace hpc2: ∀ m∈ms2,m.parts.length<=m.cap/\w.heap.size<=m.lo:=fun m hm=>⟨(hpc2 m hm).1,aS hlo2 (hpc2 m hm).2⟩
 have hml2:ms2.length=ms.length:=by have:=congrArg cu hma;simpa using this
 rw[hi]
 refine G (Yu Z)<|G (Xa Z Z)<|G (Xi Z Z)<|G (Xi Z Z)<|bo H 1 (#[J (ck),J (wt),J (gn),.slice mA2 ms2.length mC2,.slice oA2 os.length oC2]) bB Z Z Z Z Z N N fun w4 H=>G (Wi Z)<|G (Wi Z)<|U<|W<|Zb<|W<|Zr<|G (Yi Z)<|G (bU Z Z Z)<|G (Wb Z)<|U<|ZF Z<|W<|Zr<|G (Zw aP H 1 Z Z Z)<|G (Yi Z)<|cd kz (sD ⟨ck,wt,gn,ms2,mA2,mC2,os,oA2,oC2⟩ p _) Z Z ?_
 rw[show iQ ⟨ck,wt,gn,ms2,mA2,mC2,os,oA2,oC2⟩ p=true by unfold iQ;simp;omega]
 rintro _ w5 ⟨rfl,hb⟩;replace H:=H.later hb;clear hb
 refine G (dK Z)<|G (Wb Z)<|U<|ZF Z<|W<|Zr<|G (Yi Z)<|G (rc Z Z (by decide))<|G (Wb Z)<|U<|ZF Z<|W<|Zr<|G (Zf dH Z)<|G (Zd dq H 1 Z Z Z)<|G (bn gg Z)<|G (tT Z Z I)<|G (Wb Z)<|U<|ZT Z<|W<|Zr<|G (bi (cs:= #[J (0),J (0),J (0),.slice none 0 0,.slice none 0 0]) jR dZ N)<|bo H 0 (#[J (0),J (0),J (0),.slice none 0 0,.slice none 0 0]) bB Z Z Z Z Z N N fun w6 H=>G (Wi Z)<|U<|Zt ?_
 exact bC (cs0:= #[J 0,J 0,J 0,.slice none 0 0,.slice none 0 0]) (v1:=J 16) Z aP Z (H.ent (i:=0) Z) Z Z ⟨rfl,H.below⟩
theorem MQ (g:Gr) (s:ByteArray) (p:Nat) (w:World) (h:g.rd 0 w.heap.size w) (hok:lu g=true) (hn:bM s=true) (hp:p<=4) (hg1:g.gen<1073741824) (hi:pU g s= -1) (hf:g.ms.length≠6):dd aa pn [g.v,.string s,J (p:Nat)] w fun v w2=> ∃ g':Gr,v=.tuple #[g'.v,J 0]/\g'.a=Hc {g.a with ms:=g.a.ms++[Di s g.clock]} p/\yB w w2 g':=by
 refine aD rj Z Z ?_
 have hmC:=h.mC
 have hoC:=h.oC
 have hfew:=h.few
 have hfp:=h.fewP
 have H:=Hp.startGr h
 obtain⟨ck,wt,gn,ms,mA,mC,os,oA,oC⟩:=g
 dsimp only at hmC hoC hfew hfp H
 show CW _ _ _ _ (args [.agg #[J (ck),J (wt),J (gn),.slice mA ms.length mC,.slice oA os.length oC],.string (s),J (((p:Nat):Int))]) w
 obtain⟨⟨⟨k1,k2⟩,k3,k4,⟨k5,k6⟩,k7,k8⟩,⟨hmo,hap⟩,hof,hor⟩:=du.1 hok
 dsimp only at k1 k2 k3 k4 k5 k6 k7 k8 hg1
 dsimp only at hf
 refine W<|Zr<|fQ H Z Z fun w1 b3 H=>eH H dZ Z fun w2 b6 H=>G (Wi Z)<|U<|W<|Zr<|G (Zw aP H 1 Z Z Z)<|G (Yt Z)<|cd gb (mp ⟨ck,wt,gn,ms,mA,mC,os,oA,oC⟩ s _ ⟨H.rd0 0 Z,fun m hm=>y5 H 1 Z hm,H.rd0 2 Z,hmC,hoC,hfew,hfp⟩ hok hn) Z Z ?_
 rintro _ w3 ⟨⟨ck2,wt2,gn2,ms2,mA2,mC2,os2,oA2,oC2⟩,Lm,Lo,rfl,ha2,ho2,hoo2,hmc2,hoc2,hpc2,hj2⟩
 have hlo2:=H.size
 replace H:=Hp.joinG H hj2 (fun m hm=>(hpc2 m hm).2);clear hj2
 simp only[Gr.a,Gr.mk.injEq]at ha2
 obtain⟨e1,e2,e3,hma,-,-,e4,-,-⟩:=ha2
 obtain rfl:ck=ck2:=e1.symm
 obtain rfl:wt=wt2:=e2.symm
 obtain rfl:gn=gn2:=e3.symm
 obtain rfl:os=os2:=e4.symm
 dsimp only at ho2 hoo2 hmc2 hoc2 hpc2 H
 replace hpc2: ∀ m∈ms2,m.parts.length<=m.cap/\w.heap.size<=m.lo:=fun m hm=>⟨(hpc2 m hm).1,aS hlo2 (hpc2 m hm).2⟩
 have hml2:ms2.length=ms.length:=by have:=congrArg cu hma;simpa using this
 rw[hi]
 refine G (Yu Z)<|G (Xa Z Z)<|G (Xi Z Z)<|G (Xi Z Z)<|bo H 1 (#[J (ck),J (wt),J (gn),.slice mA2 ms2.length mC2,.slice oA2 os.length oC2]) bB Z Z Z Z Z N N fun w4 H=>G (Wi Z)<|G (Wi Z)<|U<|W<|Zb<|W<|Zr<|G (Yi Z)<|G (bU Z Z Z)<|G (Wb Z)<|U<|ZF Z<|W<|Zr<|G (Zw aP H 1 Z Z Z)<|G (Yi Z)<|cd kz (sD ⟨ck,wt,gn,ms2,mA2,mC2,os,oA2,oC2⟩ p _) Z Z ?_
 rw[show iQ ⟨ck,wt,gn,ms2,mA2,mC2,os,oA2,oC2⟩ p=true by unfold iQ;simp;omega]
 rintro _ w5 ⟨rfl,hb⟩;replace H:=H.later hb;clear hb
 refine G (dK Z)<|G (Wb Z)<|U<|ZF Z<|W<|Zr<|G (Yi Z)<|G (rc Z Z (by decide))<|G (Wb Z)<|U<|ZF Z<|W<|Zr<|G (Zf dH Z)<|G (Zd dq H 1 Z Z Z)<|G (bn gg Z)<|G (nu Z Z I)<|G (Wb Z)<|U<|ZF Z<|Zk<|W<|Zr<|G (Zf dH Z)<|G (Zd dq H 1 Z Z Z)<|G (Yt Z)<|G (Zf jq Z)<|G (Zd aj H 1 Z Z Z)<|G (bi (cs:= #[.string (s),J (ck),.slice none 0 0]) Ik tj N)<|sW (vs:=[.agg #[.string (s),J (ck),.slice none 0 0]]) H eu tj Z Z Z Z Z Z fun w6 b44 H=>vT (Y:=jF) AR (K:=[(b44,.cells #[.string (s),J (ck),.slice none 0 0] db (0,0)),(b6,.cells #[J (0),J (0),J (0),.slice none 0 0,.slice none 0 0] cL (0,0)),(b3,.cells #[J (ck),J (wt),J (gn),.slice mA2 ms2.length mC2,.slice oA2 os.length oC2] cL (0,0))]) (L:=Lm) (M:=Lo) H ho2 (news:=[Di s ck]) Z Z Z (vX.row (m:=1) (sz:=jF.sz) (H.ent (i:=0) Z) Z) (show(ms2.length+1)*48<=140737488355328 by omega) Z ?_
 intro A9 c9 w7 L9 h9 _ ho9 H
 have hl9:(ms2++[Di s ck]).length<=6:=by rw[ay,bO];omega
 refine G (Zf dH Z)<|bo H 2 (#[J (ck),J (wt),J (gn),.slice A9 ((ms2++[Di s ck]).length) c9,.slice oA2 os.length oC2]) tq Z Z Z Z Z N N fun w8 H=>U<|W<|Zr<|G (Zw aP H 2 Z Z Z)<|G (Yi Z)<|cd qM (yA ck wt gn (ms2++[Di s ck]) A9 c9 os oA2 oC2 p (H.perm (sh [(b44,.cells #[.string (s),J (ck),.slice none 0 0] db (0,0)),(b6,.cells #[J (0),J (0),J (0),.slice none 0 0,.slice none 0 0] cL (0,0)),(b3,.cells #[J (ck),J (wt),J (gn),.slice A9 ((ms2++[Di s ck]).length) c9,.slice oA2 os.length oC2] cL (0,0))] L9 Lo).symm) ho9 I hp I I) Z Z ?_
 rintro _ w9 ⟨ms4,L4,rfl,ha4,ho4,hc4,H⟩
 replace H:=H.perm (sh [(b44,.cells #[.string (s),J (ck),.slice none 0 0] db (0,0)),(b6,.cells #[J (0),J (0),J (0),.slice none 0 0,.slice none 0 0] cL (0,0)),(b3,.cells #[J (ck),J (wt),J (gn),.slice A9 ((ms2++[Di s ck]).length) c9,.slice oA2 os.length oC2] cL (0,0))] L4 Lo)
 rw[LA]at ha4
 refine bo H 1 (#[J (ck),J (wt),J (gn+1),.slice A9 ms4.length c9,.slice oA2 os.length oC2]) bB Z Z Z Z Z N N fun w10 H=>G (Wi Z)<|U<|Zt ?_
 exact bC (cs0:= #[J (ck),J (wt),J (gn+1),.slice A9 ms4.length c9,.slice oA2 os.length oC2]) (v1:=J 0) Z aP Z (H.ent (i:=1) Z) Z Z ⟨⟨ck,wt,gn+1,ms4,A9,c9,os,oA2,oC2⟩,rfl,by unfold Gr.a Hc;dsimp only;rw[ha4,bk,hma];rfl,HP ha4 hl9 hp I ho4 hoo2 hoc2 hc4 (H.forget (by rw[aE];exact .cons _ (.cons _ (.cons _ (ap _)))) (fun f hf=>by simp only[ax,au];grind))⟩
def tr (g:Gr) (n:Int) (m:Mem):Bool:=decide (g.wait<=g.clock+n-m.heard)
def pL (g:Gr) (n:Int) (p:Nat):Gr:=if(g.ms.filter fun m=>!tr g n m).length=g.ms.length then{g with clock:=g.clock+n}else Hc {g with clock:=g.clock+n,ms:=g.ms.filter fun m=>!tr g n m} p
theorem iB {ck:Int} {l l2:List Mem} (ha:l2.map Mem.a=l.map Mem.a) (hm: ∀ m∈l,u5 ck m=true): ∀ m∈l2,m.parts.length<=4:=fun m hm2=>by
 have h1:m.a∈l.map Mem.a:=ha▸bL hm2
 obtain⟨x,hx,he⟩:=bw.1 h1
 have h2:=(jA.1 (hm x hx)).2.2.2
 have h3:m.parts=x.parts:=(congrArg Mem.parts he).symm
 have:=mf h2
 rw[h3];omega
theorem KS {ck:Int} {l l2:List Mem} (ha:l2.map Mem.a=l.map Mem.a) (hm: ∀ m∈l,u5 ck m=true): ∀ m∈l2,0<=m.heard/\m.heard<=ck:=fun m hm2=>by
 have h1:m.a∈l.map Mem.a:=ha▸bL hm2
 obtain⟨x,hx,he⟩:=bw.1 h1
 obtain⟨_,h2,h3,_⟩:=jA.1 (hm x hx)
 have h4:m.heard=x.heard:=(congrArg Mem.heard he).symm
 rw[h4];exact⟨h2,h3⟩
theorem Fv (l:List Mem) (f:Mem->Bool) (hf: ∀ m,f m.a=f m):(l.filter f).map Mem.a=(l.map Mem.a).filter f:=by
 rw[List.filter_map,show f∘Mem.a=f from funext hf]
theorem GY {α:Type} {l:List α} {f:α->Bool} (h:(l.filter f).length=l.length):l.filter f=l:=jJ.2 (List.length_filter_eq_length_iff.1 h)
theorem FZ (m:Mem) (b:Nat) (ck wt gn:Int) (v3 v4:Value) (w:World) (hx:w.heap[b]? =some (.cells #[J ck,J wt,J gn,v3,v4] cL (0,0))) (h0:0<=m.heard) (h1:m.heard<=1073741824) (h2:0<=ck) (h3:ck<=1073741824):
  dd aa yJ [.agg m.c.toArray,.pointer (Qd b)] w fun v w2=>v=.bool (decide (wt<=ck-m.heard))/\Below w.heap.size w w2:=by
 refine aD xH Z Z ?_
 have H:=Hp.start w
 have hb:=bY hx
 refine W<|Zr<|fQ H Z Z fun w1 b2 H=>G (Wb Z)<|U<|W<|Zr<|G (Zf jq Z)<|G (aT aj Z ((H.below.cell (p:=⟨b,_,none⟩) hb).trans (aB (j:=0) hx Z)))<|G (Zf qF Z)<|G (Zd aj H 0 Z Z Z)<|G (mR Z Z I I)<|G (Zf vM Z)<|G (aT aj Z ((H.below.cell (p:=⟨b,_,none⟩) hb).trans (aB (j:=1) hx Z)))<|G (j4 Z Z)<|G (Wb Z)<|U<|Zt ?_
 exact cD Z Z ⟨rfl,H.below⟩
theorem Ll (A:Option Addr) (c:Nat) (w:World) {f:FuncId} {cap:List Value} (hf:bh aa f=true):dd aa fq [.slice A 0 c,.func (.func f) #[] cap.toArray] w fun v w2=>v=.slice A 0 c/\Below w.heap.size w w2:=by
 refine aD g8 Z Z ?_
 have H:=Hp.start w
 refine W<|Zr<|G (Ws Z)<|U<|W<|Zr<|G (Ys Z)<|G (sQ Z)<|cd di (fJ [] A c _ Rd.nil (by simp) f cap hf (fun _=>false) (fun e w2 he _=>absurd he (by simp))) Z Z ?_
 rintro _ w1 ⟨rfl,hb⟩;replace H:=H.later hb;clear hb
 refine G (Wi Z)<|U<|W<|W<|Zr<|G (Yi Z)<|G (tT Z Z Z)<|U<|ZT Z<|W<|Zr<|G (Ys Z)<|G (Ws Z)<|U<|Zt ?_
 exact cD (v:=.slice A 0 c) Z Z ⟨rfl,H.below⟩
theorem Lu {w0 w:World} {K M Lt:List (Nat×Obj)} {F:List cr} {ms:List Mem} {c:Nat} {A:Option Addr} (H:Hp w0 w (K++Lt++M) F) (ho:gd jF (.slice A ms.length c) db ms Lt) (h12:ms.length<=1000) {f:FuncId} {cap:List Value} (hf:bh aa f=true) (pred:Mem->Bool)
  (hp: ∀ e∈ms,∀ (w':World) (L':List (Nat×Obj)),Hp w0 w' (K++L'++M) F->dd aa f (.agg e.c.toArray::cap) w' fun v w2=>v=.bool (pred e)/\Below w'.heap.size w' w2):
  dd aa fq [.slice A ms.length c,.func (.func f) #[] cap.toArray] w fun v w2=> ∃ L',v=.slice A (ms.filter fun m=>!pred m).length c/\gd jF (.slice A (ms.filter fun m=>!pred m).length c) db (ms.filter fun m=>!pred m) L'/\Hp w0 w2 (K++L'++M) F:=by
 by_cases h0:ms.length=0
 have:=bS h0
 subst this
 exact(Ll A c w hf).mono fun v w2 ⟨h1,h2⟩=>⟨Lt,h1,ho,H.later h2⟩
 obtain⟨g,cur,rfl,rfl,row⟩:=ho.row I
 have hpm: ∀ u:Array Value,(K++[(g,Obj.cells u db (0,0))]++M).Perm ((g,Obj.cells u db (0,0))::(K++M)):=fun u=>by rw[aE];exact qj
 exact(M0 ms c (H.perm (hpm cur).symm) row Z h12 hf pred fun e he w' u' H'=>hp e he w' _ (H'.perm (hpm u'))).mono fun v w2 ⟨u2,h1,h2,h3⟩=>⟨_,h1,dT.own (g:=g) (e:=db) h2,h3.perm (hpm u2)⟩
theorem Fj (g:Gr) (n:Int) (p:Nat) (w:World) (h:g.rd 0 w.heap.size w) (hok:lu g=true) (hp:p<=4) (hg1:g.gen<1073741824) (hn0:0<=n) (hn1:n<=1000) (hcl:g.clock+n<=1073741824):dd aa Dx [g.v,J n,J (p:Nat)] w fun v w2=> ∃ g':Gr,v=.tuple #[g'.v,J 0]/\g'.a=pL g.a n p/\yB w w2 g':=by
 refine aD BK Z Z ?_
 have hmC:=h.mC
 have hoC:=h.oC
 have hfew:=h.few
 have hfp:=h.fewP
 have H:=Hp.startGr h
 obtain⟨ck,wt,gn,ms,mA,mC,os,oA,oC⟩:=g
 dsimp only at hmC hoC hfew hfp H
 show CW _ _ _ _ (args [.agg #[J (ck),J (wt),J (gn),.slice mA ms.length mC,.slice oA os.length oC],J (n),J (((p:Nat):Int))]) w
 obtain⟨⟨⟨k1,k2⟩,k3,k4,⟨k5,k6⟩,k7,k8⟩,⟨hmo,hap⟩,hof,hor⟩:=du.1 hok
 dsimp only at k1 k2 k3 k4 k5 k6 k7 k8 hmo
 dsimp only at hg1 hcl
 refine W<|Zr<|fQ H Z Z fun w1 b3 H=>eH H dZ Z fun w2 b6 H=>G (Wi Z)<|U<|W<|W<|Zr<|G (Zw aP H 1 Z Z Z)<|cd t5 (CB ⟨ck,wt,gn,ms,mA,mC,os,oA,oC⟩ _ ⟨H.rd0 0 Z,fun m hm=>y5 H 1 Z hm,H.rd0 2 Z,hmC,hoC,hfew,hfp⟩ hok) Z Z ?_
 rintro _ w3 ⟨rfl,hb⟩;replace H:=H.later hb;clear hb
 refine G (Wi Z)<|U<|W<|Zr<|G (Yi Z)<|G (bU Z Z Z)<|U<|ZF Z<|Zk<|W<|W<|Zr<|G (Yi Z)<|G (cY Z Z I)<|G (Yb Z)<|ZG<|G (Yi Z)<|ZG<|G (en Z Z I)<|G (N Z Z)<|G (Yb Z)<|ZG<|G (Zf jq Z)<|ZG<|G (Zd aj H 1 Z Z Z)<|ZG<|G (Yi Z)<|ZG<|G (br Z Z I I)<|ZG<|G (en Z Z I)<|G (N Z Z)<|G (Yb Z)<|ZG<|G (Zw aP H 1 Z Z Z)<|ZG<|G (Yi Z)<|ZG<|cd kz (sD ⟨ck,wt,gn,ms,mA,mC,os,oA,oC⟩ p _) Z Z ?_
 rw[show iQ ⟨ck,wt,gn,ms,mA,mC,os,oA,oC⟩ p=true by unfold iQ;simp;omega]
 rintro _ w4 ⟨rfl,hb⟩;replace H:=H.later hb;clear hb
 refine ZG<|G (dK Z)<|G (N Z Z)<|U<|ZF Z<|Zk<|W<|Zr<|G (Zw aP H 1 Z Z Z)<|cd nL (wH ⟨ck,wt,gn,ms,mA,mC,os,oA,oC⟩ _ ⟨H.rd0 0 Z,fun m hm=>y5 H 1 Z hm,H.rd0 2 Z,hmC,hoC,hfew,hfp⟩) Z Z ?_
 rintro _ w5 ⟨⟨ck2,wt2,gn2,ms2,mA2,mC2,os2,oA2,oC2⟩,Lm,Lo,rfl,ha2,ho2,hoo2,hmc2,hoc2,hpc2,hj2⟩
 have hlo2:=H.size
 replace H:=Hp.joinG H hj2 (fun m hm=>(hpc2 m hm).2);clear hj2
 simp only[Gr.a,Gr.mk.injEq]at ha2
 obtain⟨e1,e2,e3,hma,-,-,e4,-,-⟩:=ha2
 obtain rfl:ck=ck2:=e1.symm
 obtain rfl:wt=wt2:=e2.symm
 obtain rfl:gn=gn2:=e3.symm
 obtain rfl:os=os2:=e4.symm
 dsimp only at ho2 hoo2 hmc2 hoc2 hpc2 H
 replace hpc2: ∀ m∈ms2,m.parts.length<=m.cap/\w.heap.size<=m.lo:=fun m hm=>⟨(hpc2 m hm).1,aS hlo2 (hpc2 m hm).2⟩
 have hml2:ms2.length=ms.length:=by have:=congrArg cu hma;simpa using this
 have hhd:=KS hma hmo
 refine bo H 1 (#[J (ck),J (wt),J (gn),.slice mA2 ms2.length mC2,.slice oA2 os.length oC2]) bB Z Z Z Z Z N N fun w6 H=>U<|W<|Zr<|G (Zf jq Z)<|G (Zd aj H 1 Z Z Z)<|G (Yi Z)<|G (br Z Z I I)<|G (Zf jq Z)<|bo H 1 (#[J (ck+n),J (wt),J (gn),.slice mA2 ms2.length mC2,.slice oA2 os.length oC2]) bI Z Z Z Z Z N N fun w7 H=>U<|W<|Zr<|G (Zf dH Z)<|G (Zd dq H 1 Z Z Z)<|G (bn gg Z)<|G (Wi Z)<|U<|W<|Zr<|G (Zf dH Z)<|G (Zd dq H 1 Z Z Z)<|G (zL Z)<|cd kY (Lu (K:=[(b6,.cells #[J (0),J (0),J (0),.slice none 0 0,.slice none 0 0] cL (0,0)),(b3,.cells #[J (ck+n),J (wt),J (gn),.slice mA2 ms2.length mC2,.slice oA2 os.length oC2] cL (0,0))]) (Lt:=Lm) (M:=Lo) H ho2 I (cap:=[.pointer (Qd b3)]) xP (fun m=>decide (wt<=(ck+n)-m.heard)) (fun e he w' L' H'=>FZ e b3 (ck+n) wt gn _ _ w' (H'.ent (i:=1) Z) (hhd e he).1 (by have:=(hhd e he).2;omega) I hcl)) Z Z ?_
 rintro _ w8 ⟨L9,rfl,ho9,H⟩
 have hl9:(ms2.filter fun m=>!decide (wt<=(ck+n)-m.heard)).length<=6:=by have:=List.length_filter_le (fun m:Mem=>!decide (wt<=(ck+n)-m.heard)) ms2;omega
 refine G (Zf dH Z)<|bo H 1 (#[J (ck+n),J (wt),J (gn),.slice mA2 ((ms2.filter fun m=>!decide (wt<=(ck+n)-m.heard)).length) mC2,.slice oA2 os.length oC2]) tq Z Z Z Z Z N N fun w9 H=>U<|W<|W<|Zr<|G (Zf dH Z)<|G (Zd dq H 1 Z Z Z)<|G (bn gg Z)<|G (Yi Z) ?_
 refine cT (bl Z Z) Z Z Z (fun h55=> ?_) (fun h55=> ?_)
 have hall:(ms2.filter fun m=>!decide (wt<=(ck+n)-m.heard))=ms2:=GY I
 have hsl:((ms2.filter fun m=>!decide (wt<=(ck+n)-m.heard)).map Mem.a)=(ms.map Mem.a).filter fun m=>!tr (Gr.a ⟨ck,wt,gn,ms,mA,mC,os,oA,oC⟩) n m:=by rw[Fv _ _ (fun _=>rfl),hma];rfl
 refine U<|ZT Z<|W<|Zr<|G (Zw aP H 1 Z Z Z)<|bo H 0 (#[J (ck+n),J (wt),J (gn),.slice mA2 ((ms2.filter fun m=>!decide (wt<=(ck+n)-m.heard)).length) mC2,.slice oA2 os.length oC2]) bB Z Z Z Z Z N N fun w10 H=>G (Wi Z)<|U<|Zt ?_
 have hT:pL (Gr.a ⟨ck,wt,gn,ms,mA,mC,os,oA,oC⟩) n p={Gr.a ⟨ck,wt,gn,ms,mA,mC,os,oA,oC⟩with clock:=ck+n}:=by unfold pL;rw[if_pos (by show((ms.map Mem.a).filter _).length=(ms.map Mem.a).length;rw[<-hsl,bF,bF];omega)];rfl
 rw[hT]
 rw[hall]at ho9
 exact bC (cs0:= #[J (ck+n),J (wt),J (gn),.slice mA2 (((ms2.filter fun m=>!decide (wt<=(ck+n)-m.heard))).length) mC2,.slice oA2 os.length oC2]) (v1:=J 0) Z aP Z (H.ent (i:=0) Z) Z Z ⟨⟨ck+n,wt,gn,ms2,mA2,mC2,os,oA2,oC2⟩,by rw[hall];rfl,by unfold Gr.a;dsimp only;rw[hma],qO.new (ga:=Gr.a ⟨ck+n,wt,gn,ms2,mA2,mC2,os,oA2,oC2⟩) ⟨rfl,ho9,hoo2,hmc2,hoc2,hpc2,H.forget (by rw[aE];exact .cons _ (.cons _ (ap _))) (fun f hf=>by simp only[ax,au];grind)⟩ (by dsimp only;omega) (by dsimp only;omega) (iB hma hmo)⟩
 have hsl:((ms2.filter fun m=>!decide (wt<=(ck+n)-m.heard)).map Mem.a)=(ms.map Mem.a).filter fun m=>!tr (Gr.a ⟨ck,wt,gn,ms,mA,mC,os,oA,oC⟩) n m:=by rw[Fv _ _ (fun _=>rfl),hma];rfl
 refine U<|ZF Z<|Zk<|W<|Zr<|G (Zw aP H 1 Z Z Z)<|G (Yi Z)<|cd qM (yA (ck+n) wt gn (ms2.filter fun m=>!decide (wt<=(ck+n)-m.heard)) mA2 mC2 os oA2 oC2 p (H.perm (sh [(b6,.cells #[J (0),J (0),J (0),.slice none 0 0,.slice none 0 0] cL (0,0)),(b3,.cells #[J (ck+n),J (wt),J (gn),.slice mA2 ((ms2.filter fun m=>!decide (wt<=(ck+n)-m.heard)).length) mC2,.slice oA2 os.length oC2] cL (0,0))] L9 Lo).symm) ho9 I hp I I) Z Z ?_
 rintro _ w11 ⟨ms4,L4,rfl,ha4,ho4,hc4,H⟩
 replace H:=H.perm (sh [(b6,.cells #[J (0),J (0),J (0),.slice none 0 0,.slice none 0 0] cL (0,0)),(b3,.cells #[J (ck+n),J (wt),J (gn),.slice mA2 ((ms2.filter fun m=>!decide (wt<=(ck+n)-m.heard)).length) mC2,.slice oA2 os.length oC2] cL (0,0))] L4 Lo)
 rw[LA]at ha4
 refine bo H 0 (#[J (ck+n),J (wt),J (gn+1),.slice mA2 ms4.length mC2,.slice oA2 os.length oC2]) bB Z Z Z Z Z N N fun w12 H=>G (Wi Z)<|U<|Zt ?_
 have hT:pL (Gr.a ⟨ck,wt,gn,ms,mA,mC,os,oA,oC⟩) n p=Hc {Gr.a ⟨ck,wt,gn,ms,mA,mC,os,oA,oC⟩with clock:=ck+n,ms:=(ms.map Mem.a).filter fun m=>!tr (Gr.a ⟨ck,wt,gn,ms,mA,mC,os,oA,oC⟩) n m} p:=by unfold pL;rw[if_neg (by show¬ ((ms.map Mem.a).filter _).length=(ms.map Mem.a).length;rw[<-hsl,bF,bF];omega)];rfl
 rw[hT]
 exact bC (cs0:= #[J (ck+n),J (wt),J (gn+1),.slice mA2 ms4.length mC2,.slice oA2 os.length oC2]) (v1:=J 0) Z aP Z (H.ent (i:=0) Z) Z Z ⟨⟨ck+n,wt,gn+1,ms4,mA2,mC2,os,oA2,oC2⟩,rfl,by unfold Gr.a Hc;dsimp only;rw[ha4,hsl];rfl,HP ha4 hl9 hp I ho4 hoo2 hoc2 hc4 (H.forget (by rw[aE];exact .cons _ (.cons _ (ap _))) (fun f hf=>by simp only[ax,au];grind))⟩
theorem lH {α:Type} {Y:fg α} {w0 w:World} {L:List (Nat×Obj)} {F:List cr} {lo hi:Nat} {A:Option Addr} {es:List α} (H:Hp w0 w L F) (hf:dM Y lo hi A es∈F):Rd Y 0 w.heap.size A es w:=by
 obtain⟨h1,h2,-⟩:=H.facts _ hf
 exact Rd.mono h1 (bG _) h2
def Ly (g:Gr) (i:Nat) (t:Mem):Gr:={g with ms:=g.ms.set i {t with heard:=g.clock}}
def tl (os:List l8) (part:Int):Int:=match os.find? fun o=>decide (o.part=part)with|some o=>o.at_|none=>0
def mi (os:List l8) (part:Int):Nat:=(os.takeWhile fun o=>decide (o.part<part)).length
def gH (os:List l8) (part at_:Int):List l8:=
 if(os[mi os part]?).map l8.part=some part then os.set (mi os part) ⟨part,at_⟩else os.take (mi os part)++[⟨part,at_⟩]++os.drop (mi os part)
theorem zl {α:Type} {f:α->Bool}: ∀ {l:List α} {k:Nat},(∀ x∈l.take k,f x=true)->(∀ x,l[k]? =some x->f x=false)->k<=l.length->(l.takeWhile f).length=k
 |[],k,_,_,h=>by simp at h;simp[h]
 |x::l,0,_,h2,_=>by rw[List.takeWhile_cons_of_neg (by rw[h2 x Z];decide)];rfl
 |x::l,k+1,h1,h2,h3=>by
  rw[List.takeWhile_cons_of_pos (h1 x (by simp)),bV,zl (k:=k) (fun y hy=>h1 y (by simp[hy])) h2 (by simpa using h3)]
theorem Do (es:List Int) (v:Int) (A:Option Addr) (c:Nat) (w:World) (hr:Rd bQ 0 w.heap.size A es w) (hb:es.length<=1000000):dd aa rG [.slice A es.length c,J v] w fun r w2=>(∃ k:Int,r=J k/\(v∈es↔0<=k)/\ -1<=k/\k<=1000000)/\Below w.heap.size w w2:=by
 refine aD re Z Z ?_
 have H:=Hp.startRd hr
 refine W<|Zr<|G (Wi Z)<|U<|W<|W<|Zr<|G (Ys Z)<|G (bn eB Z)<|G (Yi Z)<|U<|Zb ?_
 refine ce (τ:=Nat) [4,5,8,9,10,11,12,13,14,15,16,17,18] (fun k=>[(8,J (k:Nat))]) (fun k w'=>k<=es.length/\v∉es.take k/\Hp w w' [] [dM bQ 0 w.heap.size A es]) (fun k=>es.length-k) 0 ⟨by omega,by simp,H⟩ (dF Z) ?_
 rintro k ρ1 w1 ⟨hk,hno,H⟩
 show CW _ _ _ _ (dC (gC _ _ ρ1) [(8,J (k:Nat))]) w1
 refine W<|Zr ?_
 refine cT (cG Z Z) Z Z Z (fun h9=> ?_) (fun h9=> ?_)
 obtain⟨x,hx⟩: ∃ x,es[k]? =some x:=⟨_,ah I⟩
 refine U<|W<|ZT Z<|Zk<|W<|Zb<|W<|Zr<|G (Yi Z)<|G (Wi Z)<|U<|W<|Zr<|G (Yi Z)<|G (Ys Z)<|G (Yi Z)<|qn H 0 Z aZ Z Z I I Z fun bq2 o2 x2 e2=> ?_
 obtain rfl:x=x2:=by have:=e2.at_;rw[hx]at this;exact bj this
 refine G (aT aj Z (e2.cl 0 _ Z)) ?_
 refine cT (bl Z Z) Z Z Z (fun h16=> ?_) (fun h16=> ?_)
 refine U<|ZT Z<|W<|Zr<|G (Yi Z)<|G (Wi Z)<|U<|Zt ?_
 exact cD (v:=J (k:Nat)) Z Z ⟨⟨(k:Nat),rfl,⟨fun _=>by omega,fun _=>by rw[h16];exact ae hx⟩,by omega,by omega⟩,H.below⟩
 refine U<|ZF Z<|Zk<|Zr<|G (br Z Z I I)<|G (Yi Z)<|U ?_
 exact⟨k+1,⟨by omega,by rw[eI hx];simp only[au,aq];rintro(h|h);exact hno h;exact h16 h,H⟩,dF Z,Qg,by show es.length- (k+1)<es.length-k;omega⟩
 refine U<|W<|ZF Z<|Zx<|W<|Zr<|G (Wi Z)<|U<|Zt ?_
 have hke:k=es.length:=by omega
 rw[hke,bJ]at hno
 exact cD (v:=J (-1)) Z Z ⟨⟨-1,rfl,⟨fun h=>absurd h hno,fun h=>absurd h (by decide)⟩,by omega,by omega⟩,H.below⟩
theorem lj (es:List Int) (v:Int) (A:Option Addr) (c:Nat) (w:World) (hr:Rd bQ 0 w.heap.size A es w) (hb:es.length<=1000000):dd aa pS [.slice A es.length c,J v] w fun r w2=>r=.bool (decide (v∈es))/\Below w.heap.size w w2:=by
 refine aD pr Z Z ?_
 have H:=Hp.startRd hr
 refine W<|Zr<|G (Wb Z)<|U<|W<|Zr<|G (Ys Z)<|G (Yi Z)<|cd rt (Do es v A c _ (H.rd0 0 Z) hb) Z Z ?_
 rintro _ w1 ⟨⟨k,rfl,hk,-,-⟩,hb2⟩;replace H:=H.later hb2;clear hb2
 refine G (j4 Z Z)<|G (Wb Z)<|U<|Zt ?_
 exact cD (v:=.bool (decide (0<=k))) Z Z ⟨by rw[decide_eq_decide.2 hk.symm],H.below⟩
theorem Jo (g:Gr) (s:ByteArray) (gn_:Int) (w:World) (h:g.rd 0 w.heap.size w) (hok:lu g=true) (hn:bM s=true) (hi:pU g s= -1):dd aa pp [g.v,.string s,J gn_] w fun v w2=>v=.tuple #[.agg #[J 0,J 0,J 0,.slice none 0 0,.slice none 0 0],J 5]/\Below w.heap.size w w2:=by
 refine aD rm Z Z ?_
 have hmC:=h.mC
 have hoC:=h.oC
 have hfew:=h.few
 have hfp:=h.fewP
 have H:=Hp.startGr h
 obtain⟨ck,wt,gn,ms,mA,mC,os,oA,oC⟩:=g
 dsimp only at hmC hoC hfew hfp H
 show CW _ _ _ _ (args [.agg #[J (ck),J (wt),J (gn),.slice mA ms.length mC,.slice oA os.length oC],.string (s),J (gn_)]) w
 obtain⟨⟨⟨k1,k2⟩,k3,k4,⟨k5,k6⟩,k7,k8⟩,⟨hmo,hap⟩,hof,hor⟩:=du.1 hok
 dsimp only at k1 k2 k3 k4 k5 k6 k7 k8 hmo
 refine W<|Zr<|fQ H Z Z fun w1 b3 H=>eH H dZ Z fun w2 b6 H=>G (Wi Z)<|U<|W<|Zr<|G (Zw aP H 1 Z Z Z)<|G (Yt Z)<|G (Yi Z)<|cd hJ (CA ⟨ck,wt,gn,ms,mA,mC,os,oA,oC⟩ s gn_ _ ⟨H.rd0 0 Z,fun m hm=>y5 H 1 Z hm,H.rd0 2 Z,hmC,hoC,hfew,hfp⟩ hok hn hi) Z Z ?_
 rintro _ w3 ⟨rfl,hb⟩;replace H:=H.later hb;clear hb
 refine G (Yu Z)<|G (Xa Z Z)<|G (Xi Z Z)<|G (Xi Z Z)<|bo H 1 (#[J (0),J (0),J (0),.slice none 0 0,.slice none 0 0]) bB Z Z Z Z Z N N fun w4 H=>G (Wi Z)<|G (Wi Z)<|U<|W<|W<|Zr<|G (Yi Z)<|G (jW Z Z (by decide))<|U<|ZT Z<|W<|Zr<|G (bi (cs:= #[J (0),J (0),J (0),.slice none 0 0,.slice none 0 0]) jR dZ N)<|G (Yi Z)<|bo H 0 (#[J (0),J (0),J (0),.slice none 0 0,.slice none 0 0]) bB Z Z Z Z Z N N fun w5 H=>G (Wi Z)<|U<|Zt ?_
 exact bC (cs0:= #[J 0,J 0,J 0,.slice none 0 0,.slice none 0 0]) (v1:=J 5) Z aP Z (H.ent (i:=0) Z) Z Z ⟨rfl,H.below⟩
theorem G9 (g:Gr) (s:ByteArray) (gn_:Int) (w:World) (h:g.rd 0 w.heap.size w) (hok:lu g=true) (hn:bM s=true) (i:Nat) (hi:pU g s=i) (hg:g.gen≠gn_):dd aa pp [g.v,.string s,J gn_] w fun v w2=>v=.tuple #[.agg #[J 0,J 0,J 0,.slice none 0 0,.slice none 0 0],J 10]/\Below w.heap.size w w2:=by
 refine aD rm Z Z ?_
 have hmC:=h.mC
 have hoC:=h.oC
 have hfew:=h.few
 have hfp:=h.fewP
 have H:=Hp.startGr h
 obtain⟨ck,wt,gn,ms,mA,mC,os,oA,oC⟩:=g
 dsimp only at hmC hoC hfew hfp H
 show CW _ _ _ _ (args [.agg #[J (ck),J (wt),J (gn),.slice mA ms.length mC,.slice oA os.length oC],.string (s),J (gn_)]) w
 obtain⟨⟨⟨k1,k2⟩,k3,k4,⟨k5,k6⟩,k7,k8⟩,⟨hmo,hap⟩,hof,hor⟩:=du.1 hok
 dsimp only at k1 k2 k3 k4 k5 k6 k7 k8 hmo
 refine W<|Zr<|fQ H Z Z fun w1 b3 H=>eH H dZ Z fun w2 b6 H=>G (Wi Z)<|U<|W<|Zr<|G (Zw aP H 1 Z Z Z)<|G (Yt Z)<|G (Yi Z)<|cd hJ (Ak ⟨ck,wt,gn,ms,mA,mC,os,oA,oC⟩ s gn_ _ ⟨H.rd0 0 Z,fun m hm=>y5 H 1 Z hm,H.rd0 2 Z,hmC,hoC,hfew,hfp⟩ hok hn i hi hg) Z Z ?_
 rintro _ w3 ⟨rfl,hb⟩;replace H:=H.later hb;clear hb
 refine G (Yu Z)<|G (Xa Z Z)<|G (Xi Z Z)<|G (Xi Z Z)<|bo H 1 (#[J (0),J (0),J (0),.slice none 0 0,.slice none 0 0]) bB Z Z Z Z Z N N fun w4 H=>G (Wi Z)<|G (Wi Z)<|U<|W<|W<|Zr<|G (Yi Z)<|G (jW Z Z (by decide))<|U<|ZT Z<|W<|Zr<|G (bi (cs:= #[J (0),J (0),J (0),.slice none 0 0,.slice none 0 0]) jR dZ N)<|G (Yi Z)<|bo H 0 (#[J (0),J (0),J (0),.slice none 0 0,.slice none 0 0]) bB Z Z Z Z Z N N fun w5 H=>G (Wi Z)<|U<|Zt ?_
 exact bC (cs0:= #[J 0,J 0,J 0,.slice none 0 0,.slice none 0 0]) (v1:=J 10) Z aP Z (H.ent (i:=0) Z) Z Z ⟨rfl,H.below⟩
theorem M8 (g:Gr) (s:ByteArray) (gn_:Int) (w:World) (h:g.rd 0 w.heap.size w) (hok:lu g=true) (hn:bM s=true) (i:Nat) (t:Mem) (hi:pU g s=i) (ht:g.ms[i]? =some t) (hg:g.gen=gn_):dd aa pp [g.v,.string s,J gn_] w fun v w2=> ∃ g':Gr,v=.tuple #[g'.v,J 0]/\g'.a=Ly g.a i t.a/\yB w w2 g':=by
 refine aD rm Z Z ?_
 have hmC:=h.mC
 have hoC:=h.oC
 have hfew:=h.few
 have hfp:=h.fewP
 have H:=Hp.startGr h
 obtain⟨ck,wt,gn,ms,mA,mC,os,oA,oC⟩:=g
 dsimp only at hmC hoC hfew hfp H
 show CW _ _ _ _ (args [.agg #[J (ck),J (wt),J (gn),.slice mA ms.length mC,.slice oA os.length oC],.string (s),J (gn_)]) w
 obtain⟨⟨⟨k1,k2⟩,k3,k4,⟨k5,k6⟩,k7,k8⟩,⟨hmo,hap⟩,hof,hor⟩:=du.1 hok
 dsimp only at k1 k2 k3 k4 k5 k6 k7 k8 hmo
 dsimp only at ht
 refine W<|Zr<|fQ H Z Z fun w1 b3 H=>eH H dZ Z fun w2 b6 H=>G (Wi Z)<|U<|W<|Zr<|G (Zw aP H 1 Z Z Z)<|G (Yt Z)<|G (Yi Z)<|cd hJ (y7 ⟨ck,wt,gn,ms,mA,mC,os,oA,oC⟩ s gn_ _ ⟨H.rd0 0 Z,fun m hm=>y5 H 1 Z hm,H.rd0 2 Z,hmC,hoC,hfew,hfp⟩ hok hn i hi hg) Z Z ?_
 rintro _ w3 ⟨⟨ck2,wt2,gn2,ms2,mA2,mC2,os2,oA2,oC2⟩,Lm,Lo,rfl,ha2,ho2,hoo2,hmc2,hoc2,hpc2,hj2⟩
 have hlo2:=H.size
 replace H:=Hp.joinG H hj2 (fun m hm=>(hpc2 m hm).2);clear hj2
 simp only[Gr.a,Gr.mk.injEq]at ha2
 obtain⟨e1,e2,e3,hma,-,-,e4,-,-⟩:=ha2
 obtain rfl:ck=ck2:=e1.symm
 obtain rfl:wt=wt2:=e2.symm
 obtain rfl:gn=gn2:=e3.symm
 obtain rfl:os=os2:=e4.symm
 dsimp only at ho2 hoo2 hmc2 hoc2 hpc2 H
 replace hpc2: ∀ m∈ms2,m.parts.length<=m.cap/\w.heap.size<=m.lo:=fun m hm=>⟨(hpc2 m hm).1,aS hlo2 (hpc2 m hm).2⟩
 have hml2:ms2.length=ms.length:=by have:=congrArg cu hma;simpa using this
 refine G (Yu Z)<|G (Xa Z Z)<|G (Xi Z Z)<|G (Xi Z Z)<|bo H 1 (#[J (ck),J (wt),J (gn),.slice mA2 ms2.length mC2,.slice oA2 os.length oC2]) bB Z Z Z Z Z N N fun w4 H=>G (Wi Z)<|G (Wi Z)<|U<|W<|W<|Zr<|G (Yi Z)<|G (bU Z Z Z)<|U<|ZF Z<|Zk<|W ?_
 obtain⟨t2,ht2,hta⟩:=zQ hma ht
 have hl2:=(cE ht2).1
 obtain⟨g,cur,rfl,rfl,row⟩:=ho2.row I
 refine Zr<|G (Zf dH Z)<|G (Zd dq H 1 Z Z Z)<|G (Yi Z)<|G (Zf jq Z)<|G (Zd aj H 1 Z Z Z)<|G (cB eu Z Z (by first|omega|(simp only[ab];omega)))<|G (Zf qF Z)<|kH H 2 ({t2 with heard:=ck}) bI row ht2 1 Z Z Z Z Z Z N fun w6 cur5 row5 H=> ?_
 have hs7:(ms2.set i ({t2 with heard:=ck}))[i]? =some ({t2 with heard:=ck}):=am (cE ht2).1
 refine U<|W<|Zr<|G (Zw aP H 1 Z Z Z)<|bo H 0 (#[J (ck),J (wt),J (gn),.slice (Qd g) ms2.length mC2,.slice oA2 os.length oC2]) bB Z Z Z Z Z N N fun w8 H=>G (Wi Z)<|U<|Zt ?_
 have hmf:(ms2.set i {t2 with heard:=ck}).map m6=ms2.map m6:=by rw[cw];apply eG;intro j;rw[lh];split;(rename_i hj;subst hj;rw[aL,ht2,if_pos (by simpa using hl2)];rfl);rfl
 have hma3:(ms2.set i {t2 with heard:=ck}).map Mem.a=(ms.map Mem.a).set i {t.a with heard:=ck}:=by rw[cw,hma];congr 1;exact congrArg (fun x:Mem=>({x with heard:=ck}:Mem)) hta
 have hpl:=iB hma hmo
 have hown:=dT.own (g:=g) (e:=db) row5
 exact bC (cs0:= #[J (ck),J (wt),J (gn),.slice (Qd g) ms2.length mC2,.slice oA2 os.length oC2]) (v1:=J 0) Z aP Z (H.ent (i:=0) Z) Z Z ⟨⟨ck,wt,gn,ms2.set i {t2 with heard:=ck},some ⟨g,0,none⟩,mC2,os,oA2,oC2⟩,by unfold Gr.v Gr.c;dsimp only;rw[ab],by unfold Gr.a Ly;dsimp only;rw[hma3],qO.new (ga:=Gr.a ⟨ck,wt,gn,ms2.set i {t2 with heard:=ck},some ⟨g,0,none⟩,mC2,os,oA2,oC2⟩) ⟨rfl,hown,hoo2,by dsimp only;rw[ab];exact hmc2,hoc2,fun m hm=>(by rcases bE hm with hm|rfl;exact hpc2 m hm;exact hpc2 t2 (ae ht2)),H.forget (.cons _ (.cons _ (ap _))) (fun f hf=>by dsimp only at hf;rw[hmf]at hf;exact ch _ hf)⟩ (by dsimp only;rw[ab];omega) (by dsimp only;omega) (fun m hm=>(by rcases bE hm with hm|rfl;exact hpl m hm;exact hpl t2 (ae ht2)))⟩
theorem Ia {os:List l8} {part:Int} {k:Nat} {o:l8} (ho:os[k]? =some o) (hp:o.part=part) (hno: ∀ x∈os.take k,x.part≠part):tl os part=o.at_:=by
 have:(os.find? fun o=>decide (o.part=part))=some o:=by
  rw[<-gG k os,List.find?_append,Bg.2 fun x hx=>by simpa using hno x hx,cM ho,List.find?_cons_of_pos (by simpa using hp)]
  rfl
 unfold tl
 rw[this]
theorem FW {os:List l8} {part:Int} (hno: ∀ x∈os,x.part≠part):tl os part=0:=by
 unfold tl
 rw[Bg.2 fun x hx=>by simpa using hno x hx]
theorem m1 (os:List l8) (part at_:Int):(gH os part at_).length<=os.length+1:=by
 unfold gH
 split
 rw[ab];omega
 rw[ay,ay,aH,dE,bO];omega
theorem FV (g:Gr) (s:ByteArray) (part:Int) (w:World) (h:g.rd 0 w.heap.size w) (hok:lu g=true) (hn:bM s=true) (hi:pU g s= -1):dd aa nJ [g.v,.string s,J part] w fun v w2=>v=.tuple #[J 0,J 5]/\Below w.heap.size w w2:=by
 refine aD pY Z Z ?_
 have hmC:=h.mC
 have hoC:=h.oC
 have hfew:=h.few
 have hfp:=h.fewP
 have H:=Hp.startGr h
 obtain⟨ck,wt,gn,ms,mA,mC,os,oA,oC⟩:=g
 dsimp only at hmC hoC hfew hfp H
 show CW _ _ _ _ (args [.agg #[J (ck),J (wt),J (gn),.slice mA ms.length mC,.slice oA os.length oC],.string (s),J (part)]) w
 obtain⟨⟨⟨k1,k2⟩,k3,k4,⟨k5,k6⟩,k7,k8⟩,⟨hmo,hap⟩,hof,hor⟩:=du.1 hok
 dsimp only at k1 k2 k3 k4 k5 k6 k7 k8 hmo
 refine W<|Zr<|fQ H Z Z fun w1 b3 H=>G (Wi Z)<|G (Wi Z)<|U<|W<|Zr<|G (Zw aP H 0 Z Z Z)<|G (Yt Z)<|cd gb (mp ⟨ck,wt,gn,ms,mA,mC,os,oA,oC⟩ s _ ⟨H.rd0 0 Z,fun m hm=>y5 H 1 Z hm,H.rd0 2 Z,hmC,hoC,hfew,hfp⟩ hok hn) Z Z ?_
 rintro _ w2 ⟨⟨ck2,wt2,gn2,ms2,mA2,mC2,os2,oA2,oC2⟩,Lm,Lo,rfl,ha2,ho2,hoo2,hmc2,hoc2,hpc2,hj2⟩
 have hlo2:=H.size
 replace H:=Hp.joinG H hj2 (fun m hm=>(hpc2 m hm).2);clear hj2
 simp only[Gr.a,Gr.mk.injEq]at ha2
 obtain⟨e1,e2,e3,hma,-,-,e4,-,-⟩:=ha2
 obtain rfl:ck=ck2:=e1.symm
 obtain rfl:wt=wt2:=e2.symm
 obtain rfl:gn=gn2:=e3.symm
 obtain rfl:os=os2:=e4.symm
 dsimp only at ho2 hoo2 hmc2 hoc2 hpc2 H
 replace hpc2: ∀ m∈ms2,m.parts.length<=m.cap/\w.heap.size<=m.lo:=fun m hm=>⟨(hpc2 m hm).1,aS hlo2 (hpc2 m hm).2⟩
 have hml2:ms2.length=ms.length:=by have:=congrArg cu hma;simpa using this
 rw[hi]
 refine G (Yu Z)<|G (Xa Z Z)<|G (Xi Z Z)<|G (Xi Z Z)<|bo H 0 (#[J (ck),J (wt),J (gn),.slice mA2 ms2.length mC2,.slice oA2 os.length oC2]) bB Z Z Z Z Z N N fun w3 H=>G (Wi Z)<|G (Wi Z)<|U<|W<|Zb<|W<|Zr<|G (Yi Z)<|G (bU Z Z Z)<|G (Wb Z)<|U<|ZF Z<|W<|Zr<|G (Yi Z)<|G (xz Z Z (by decide))<|G (Wb Z)<|U<|ZT Z<|W<|Zr<|G (Wi Z)<|G (Wi Z)<|U<|Zt ?_
 exact l5 (v:=J 0) (v2:=J 5) Z Z Z ⟨rfl,H.below⟩
theorem Eh (g:Gr) (s:ByteArray) (part:Int) (w:World) (h:g.rd 0 w.heap.size w) (hok:lu g=true) (hn:bM s=true) (i:Nat) (t:Mem) (hi:pU g s=i) (ht:g.ms[i]? =some t) (hpt:part∉t.parts):dd aa nJ [g.v,.string s,J part] w fun v w2=>v=.tuple #[J 0,J 12]/\Below w.heap.size w w2:=by
 refine aD pY Z Z ?_
 have hmC:=h.mC
 have hoC:=h.oC
 have hfew:=h.few
 have hfp:=h.fewP
 have H:=Hp.startGr h
 obtain⟨ck,wt,gn,ms,mA,mC,os,oA,oC⟩:=g
 dsimp only at hmC hoC hfew hfp H
 show CW _ _ _ _ (args [.agg #[J (ck),J (wt),J (gn),.slice mA ms.length mC,.slice oA os.length oC],.string (s),J (part)]) w
 obtain⟨⟨⟨k1,k2⟩,k3,k4,⟨k5,k6⟩,k7,k8⟩,⟨hmo,hap⟩,hof,hor⟩:=du.1 hok
 dsimp only at k1 k2 k3 k4 k5 k6 k7 k8 hmo
 dsimp only at ht
 refine W<|Zr<|fQ H Z Z fun w1 b3 H=>G (Wi Z)<|G (Wi Z)<|U<|W<|Zr<|G (Zw aP H 0 Z Z Z)<|G (Yt Z)<|cd gb (mp ⟨ck,wt,gn,ms,mA,mC,os,oA,oC⟩ s _ ⟨H.rd0 0 Z,fun m hm=>y5 H 1 Z hm,H.rd0 2 Z,hmC,hoC,hfew,hfp⟩ hok hn) Z Z ?_
 rintro _ w2 ⟨⟨ck2,wt2,gn2,ms2,mA2,mC2,os2,oA2,oC2⟩,Lm,Lo,rfl,ha2,ho2,hoo2,hmc2,hoc2,hpc2,hj2⟩
 have hlo2:=H.size
 replace H:=Hp.joinG H hj2 (fun m hm=>(hpc2 m hm).2);clear hj2
 simp only[Gr.a,Gr.mk.injEq]at ha2
 obtain⟨e1,e2,e3,hma,-,-,e4,-,-⟩:=ha2
 obtain rfl:ck=ck2:=e1.symm
 obtain rfl:wt=wt2:=e2.symm
 obtain rfl:gn=gn2:=e3.symm
 obtain rfl:os=os2:=e4.symm
 dsimp only at ho2 hoo2 hmc2 hoc2 hpc2 H
 replace hpc2: ∀ m∈ms2,m.parts.length<=m.cap/\w.heap.size<=m.lo:=fun m hm=>⟨(hpc2 m hm).1,aS hlo2 (hpc2 m hm).2⟩
 have hml2:ms2.length=ms.length:=by have:=congrArg cu hma;simpa using this
 rw[hi]
 refine G (Yu Z)<|G (Xa Z Z)<|G (Xi Z Z)<|G (Xi Z Z)<|bo H 0 (#[J (ck),J (wt),J (gn),.slice mA2 ms2.length mC2,.slice oA2 os.length oC2]) bB Z Z Z Z Z N N fun w3 H=>G (Wi Z)<|G (Wi Z)<|U<|W<|Zb<|W<|Zr<|G (Yi Z)<|G (bU Z Z Z)<|G (Wb Z)<|U<|ZF Z<|W<|Zr<|G (Yi Z)<|G (cY Z Z I)<|G (Wb Z)<|U<|ZF Z<|W ?_
 obtain⟨t2,ht2,hta⟩:=zQ hma ht
 have hl2:=(cE ht2).1
 obtain⟨g,cur,rfl,rfl,row⟩:=ho2.row I
 have htp:t2.parts=t.parts:=(congrArg Mem.parts hta:t2.a.parts=t.a.parts)
 have hpl:=iB hma hmo t2 (ae ht2)
 have hrp:=lH H (show m6 t2∈_ from ch _ (bL (ae ht2)))
 refine Zr<|G (Zf dH Z)<|G (Zd dq H 0 Z Z Z)<|G (Yi Z)<|G (cB eu Z Z (by first|omega|(simp only[ab];omega)))<|G (Zf iP Z)<|G (bP cn row ht2 2 Z (H.ent (i:=1) Z) Z)<|G (Yi Z)<|cd fv (lj t2.parts part t2.A t2.cap _ (lH H (show m6 t2∈_ from by first|exact ch _ (bL (ae ht2))|simp[ae ht2])) I) Z Z ?_
 rw[htp,decide_eq_false hpt]
 rintro _ w4 ⟨rfl,hb⟩;replace H:=H.later hb;clear hb
 refine G (dK Z)<|G (Wb Z)<|U<|ZT Z<|W<|Zr<|G (Wi Z)<|G (Wi Z)<|U<|Zt ?_
 exact l5 (v:=J 0) (v2:=J 12) Z Z Z ⟨rfl,H.below⟩
theorem JO (g:Gr) (s:ByteArray) (part:Int) (w:World) (h:g.rd 0 w.heap.size w) (hok:lu g=true) (hn:bM s=true) (i:Nat) (t:Mem) (hi:pU g s=i) (ht:g.ms[i]? =some t) (hpt:part∈t.parts):dd aa nJ [g.v,.string s,J part] w fun v w2=>v=.tuple #[J (tl g.os part),J 0]/\Below w.heap.size w w2:=by
 refine aD pY Z Z ?_
 have hmC:=h.mC
 have hoC:=h.oC
 have hfew:=h.few
 have hfp:=h.fewP
 have H:=Hp.startGr h
 obtain⟨ck,wt,gn,ms,mA,mC,os,oA,oC⟩:=g
 dsimp only at hmC hoC hfew hfp H
 show CW _ _ _ _ (args [.agg #[J (ck),J (wt),J (gn),.slice mA ms.length mC,.slice oA os.length oC],.string (s),J (part)]) w
 obtain⟨⟨⟨k1,k2⟩,k3,k4,⟨k5,k6⟩,k7,k8⟩,⟨hmo,hap⟩,hof,hor⟩:=du.1 hok
 dsimp only at k1 k2 k3 k4 k5 k6 k7 k8 hmo
 dsimp only at ht
 refine W<|Zr<|fQ H Z Z fun w1 b3 H=>G (Wi Z)<|G (Wi Z)<|U<|W<|Zr<|G (Zw aP H 0 Z Z Z)<|G (Yt Z)<|cd gb (mp ⟨ck,wt,gn,ms,mA,mC,os,oA,oC⟩ s _ ⟨H.rd0 0 Z,fun m hm=>y5 H 1 Z hm,H.rd0 2 Z,hmC,hoC,hfew,hfp⟩ hok hn) Z Z ?_
 rintro _ w2 ⟨⟨ck2,wt2,gn2,ms2,mA2,mC2,os2,oA2,oC2⟩,Lm,Lo,rfl,ha2,ho2,hoo2,hmc2,hoc2,hpc2,hj2⟩
 have hlo2:=H.size
 replace H:=Hp.joinG H hj2 (fun m hm=>(hpc2 m hm).2);clear hj2
 simp only[Gr.a,Gr.mk.injEq]at ha2
 obtain⟨e1,e2,e3,hma,-,-,e4,-,-⟩:=ha2
 obtain rfl:ck=ck2:=e1.symm
 obtain rfl:wt=wt2:=e2.symm
 obtain rfl:gn=gn2:=e3.symm
 obtain rfl:os=os2:=e4.symm
 dsimp only at ho2 hoo2 hmc2 hoc2 hpc2 H
 replace hpc2: ∀ m∈ms2,m.parts.length<=m.cap/\w.heap.size<=m.lo:=fun m hm=>⟨(hpc2 m hm).1,aS hlo2 (hpc2 m hm).2⟩
 have hml2:ms2.length=ms.length:=by have:=congrArg cu hma;simpa using this
 rw[hi]
 refine G (Yu Z)<|G (Xa Z Z)<|G (Xi Z Z)<|G (Xi Z Z)<|bo H 0 (#[J (ck),J (wt),J (gn),.slice mA2 ms2.length mC2,.slice oA2 os.length oC2]) bB Z Z Z Z Z N N fun w3 H=>G (Wi Z)<|G (Wi Z)<|U<|W<|Zb<|W<|Zr<|G (Yi Z)<|G (bU Z Z Z)<|G (Wb Z)<|U<|ZF Z<|W<|Zr<|G (Yi Z)<|G (cY Z Z I)<|G (Wb Z)<|U<|ZF Z<|W ?_
 obtain⟨t2,ht2,hta⟩:=zQ hma ht
 have hl2:=(cE ht2).1
 obtain⟨g,cur,rfl,rfl,row⟩:=ho2.row I
 have htp:t2.parts=t.parts:=(congrArg Mem.parts hta:t2.a.parts=t.a.parts)
 have hpl:=iB hma hmo t2 (ae ht2)
 have hrp:=lH H (show m6 t2∈_ from ch _ (bL (ae ht2)))
 refine Zr<|G (Zf dH Z)<|G (Zd dq H 0 Z Z Z)<|G (Yi Z)<|G (cB eu Z Z (by first|omega|(simp only[ab];omega)))<|G (Zf iP Z)<|G (bP cn row ht2 2 Z (H.ent (i:=1) Z) Z)<|G (Yi Z)<|cd fv (lj t2.parts part t2.A t2.cap _ (lH H (show m6 t2∈_ from by first|exact ch _ (bL (ae ht2))|simp[ae ht2])) I) Z Z ?_
 rw[htp,decide_eq_true hpt]
 rintro _ w4 ⟨rfl,hb⟩;replace H:=H.later hb;clear hb
 refine G (dK Z)<|G (Wb Z)<|U<|ZF Z<|Zk<|W<|W ?_
 obtain⟨lo3,hi3,H⟩:=Hp.sealO (K:=[(b3,.cells #[J (ck),J (wt),J (gn),.slice (Qd g) ms2.length mC2,.slice oA2 os.length oC2] cL (0,0)),(g,.cells cur db (0,0))]) (M:=[]) (by simpa using H) hoo2
 rw[aX]at H
 refine Zr<|G (Zf dS Z)<|G (Zd eo H 0 Z Z Z)<|G (bn g7 Z)<|G (Yi Z)<|U<|Zb ?_
 refine ce (τ:=Nat) [6,7,11,39,40,41,42,43,44,45,46,47,48,49] (fun k=>[(39,J (k:Nat))]) (fun k w'=>k<=os.length/\(∀ x∈os.take k,x.part≠part)/\Hp w w' [(b3,.cells #[J (ck),J (wt),J (gn),.slice (Qd g) ms2.length mC2,.slice oA2 os.length oC2] cL (0,0)),(g,.cells cur db (0,0))] (dM fP lo3 hi3 oA2 os::([dM jF 0 w.heap.size mA ms,HW 0 w.heap.size ms,dM fP 0 w.heap.size oA os]++ms2.map m6))) (fun k=>os.length-k) 0 ⟨by omega,by simp,H⟩ (dF Z) ?_
 rintro k ρ1 w5 ⟨hk,hno,H⟩
 show CW _ _ _ _ (dC (gC _ _ ρ1) [(39,J (k:Nat))]) w5
 refine W<|Zr ?_
 refine cT (cG Z Z) Z Z Z (fun h40=> ?_) (fun h40=> ?_)
 obtain⟨o,ho⟩: ∃ o,os[k]? =some o:=⟨_,ah I⟩
 refine U<|W<|ZT Z<|Zk<|W<|Zb<|W<|Zr<|qn H 0 Z cV Z Z I I Z fun bq6 o6 x6 e6=> ?_
 obtain rfl:o=x6:=by have:=e6.at_;rw[ho]at this;exact bj this
 refine G (jM (xs:=l8.c o) AT Z Z e6.cl)<|eH H kP Z fun w7 b11 H=>bo H 0 (#[J (o.part),J (o.at_)]) zw Z Z Z Z Z N N fun w8 H=>U<|W<|Zr<|G (Zf je Z)<|G (Zd aj H 0 Z Z Z)<|G (Yi Z) ?_
 refine cT (bl Z Z) Z Z Z (fun h46=> ?_) (fun h46=> ?_)
 refine U<|ZT Z<|W<|Zr<|G (Zf ol Z)<|G (Zd aj H 0 Z Z Z)<|G (Wi Z)<|G (Wi Z)<|U<|Zt ?_
 exact l5 (v:=J o.at_) (v2:=J 0) Z Z Z ⟨by rw[Ia ho h46 hno],H.below⟩
 refine U<|ZF Z<|Zk<|Zr<|G (br Z Z I I)<|G (Yi Z)<|U ?_
 exact⟨k+1,⟨by omega,by rw[eI ho];intro x hx;rcases au.1 hx with hx|hx;exact hno x hx;rw[aq.1 hx];exact h46,H.forget (.cons _ (ap _)) (fun _ h=>h)⟩,dF Z,Qg,by show os.length- (k+1)<os.length-k;omega⟩
 refine U<|W<|ZF Z<|Zx<|W<|Zr<|G (Wi Z)<|G (Wi Z)<|U<|Zt ?_
 rw[show k=os.length by omega,bJ]at hno
 exact l5 (v:=J 0) (v2:=J 0) Z Z Z ⟨by rw[FW hno],H.below⟩
theorem F4 (g:Gr) (s:ByteArray) (gn_ part at_:Int) (w:World) (h:g.rd 0 w.heap.size w) (hok:lu g=true) (hn:bM s=true) (hi:pU g s= -1):dd aa jC [g.v,.string s,J gn_,J part,J at_] w fun v w2=>v=.tuple #[.agg #[J 0,J 0,J 0,.slice none 0 0,.slice none 0 0],J 5]/\Below w.heap.size w w2:=by
 refine aD j5 Z Z ?_
 have hmC:=h.mC
 have hoC:=h.oC
 have hfew:=h.few
 have hfp:=h.fewP
 have H:=Hp.startGr h
 obtain⟨ck,wt,gn,ms,mA,mC,os,oA,oC⟩:=g
 dsimp only at hmC hoC hfew hfp H
 show CW _ _ _ _ (args [.agg #[J (ck),J (wt),J (gn),.slice mA ms.length mC,.slice oA os.length oC],.string (s),J (gn_),J (part),J (at_)]) w
 obtain⟨⟨⟨k1,k2⟩,k3,k4,⟨k5,k6⟩,k7,k8⟩,⟨hmo,hap⟩,hof,hor⟩:=du.1 hok
 dsimp only at k1 k2 k3 k4 k5 k6 k7 k8 hmo
 refine W<|Zr<|fQ H Z Z fun w1 b5 H=>eH H dZ Z fun w2 b10 H=>G (Wi Z)<|U<|W<|Zr<|G (Zw aP H 1 Z Z Z)<|G (Yt Z)<|G (Yi Z)<|cd hJ (CA ⟨ck,wt,gn,ms,mA,mC,os,oA,oC⟩ s gn_ _ ⟨H.rd0 0 Z,fun m hm=>y5 H 1 Z hm,H.rd0 2 Z,hmC,hoC,hfew,hfp⟩ hok hn hi) Z Z ?_
 rintro _ w3 ⟨rfl,hb⟩;replace H:=H.later hb;clear hb
 refine G (Yu Z)<|G (Xa Z Z)<|G (Xi Z Z)<|G (Xi Z Z)<|bo H 1 (#[J (0),J (0),J (0),.slice none 0 0,.slice none 0 0]) bB Z Z Z Z Z N N fun w4 H=>G (Wi Z)<|G (Wi Z)<|U<|W<|Zb<|W<|Zr<|G (Yi Z)<|G (jW Z Z (by decide))<|G (Wb Z)<|U<|ZT Z<|W<|Zr<|G (bi (cs:= #[J (0),J (0),J (0),.slice none 0 0,.slice none 0 0]) jR dZ N)<|G (Yi Z)<|bo H 0 (#[J (0),J (0),J (0),.slice none 0 0,.slice none 0 0]) bB Z Z Z Z Z N N fun w5 H=>G (Wi Z)<|U<|Zt ?_
 exact bC (cs0:= #[J 0,J 0,J 0,.slice none 0 0,.slice none 0 0]) (v1:=J 5) Z aP Z (H.ent (i:=0) Z) Z Z ⟨rfl,H.below⟩
theorem Eu (g:Gr) (s:ByteArray) (gn_ part at_:Int) (w:World) (h:g.rd 0 w.heap.size w) (hok:lu g=true) (hn:bM s=true) (i:Nat) (hi:pU g s=i) (hg:g.gen≠gn_):dd aa jC [g.v,.string s,J gn_,J part,J at_] w fun v w2=>v=.tuple #[.agg #[J 0,J 0,J 0,.slice none 0 0,.slice none 0 0],J 10]/\Below w.heap.size w w2:=by
 refine aD j5 Z Z ?_
 have hmC:=h.mC
 have hoC:=h.oC
 have hfew:=h.few
 have hfp:=h.fewP
 have H:=Hp.startGr h
 obtain⟨ck,wt,gn,ms,mA,mC,os,oA,oC⟩:=g
 dsimp only at hmC hoC hfew hfp H
 show CW _ _ _ _ (args [.agg #[J (ck),J (wt),J (gn),.slice mA ms.length mC,.slice oA os.length oC],.string (s),J (gn_),J (part),J (at_)]) w
 obtain⟨⟨⟨k1,k2⟩,k3,k4,⟨k5,k6⟩,k7,k8⟩,⟨hmo,hap⟩,hof,hor⟩:=du.1 hok
 dsimp only at k1 k2 k3 k4 k5 k6 k7 k8 hmo
 refine W<|Zr<|fQ H Z Z fun w1 b5 H=>eH H dZ Z fun w2 b10 H=>G (Wi Z)<|U<|W<|Zr<|G (Zw aP H 1 Z Z Z)<|G (Yt Z)<|G (Yi Z)<|cd hJ (Ak ⟨ck,wt,gn,ms,mA,mC,os,oA,oC⟩ s gn_ _ ⟨H.rd0 0 Z,fun m hm=>y5 H 1 Z hm,H.rd0 2 Z,hmC,hoC,hfew,hfp⟩ hok hn i hi hg) Z Z ?_
 rintro _ w3 ⟨rfl,hb⟩;replace H:=H.later hb;clear hb
 refine G (Yu Z)<|G (Xa Z Z)<|G (Xi Z Z)<|G (Xi Z Z)<|bo H 1 (#[J (0),J (0),J (0),.slice none 0 0,.slice none 0 0]) bB Z Z Z Z Z N N fun w4 H=>G (Wi Z)<|G (Wi Z)<|U<|W<|Zb<|W<|Zr<|G (Yi Z)<|G (jW Z Z (by decide))<|G (Wb Z)<|U<|ZT Z<|W<|Zr<|G (bi (cs:= #[J (0),J (0),J (0),.slice none 0 0,.slice none 0 0]) jR dZ N)<|G (Yi Z)<|bo H 0 (#[J (0),J (0),J (0),.slice none 0 0,.slice none 0 0]) bB Z Z Z Z Z N N fun w5 H=>G (Wi Z)<|U<|Zt ?_
 exact bC (cs0:= #[J 0,J 0,J 0,.slice none 0 0,.slice none 0 0]) (v1:=J 10) Z aP Z (H.ent (i:=0) Z) Z Z ⟨rfl,H.below⟩
theorem Et (g:Gr) (s:ByteArray) (gn_ part at_:Int) (w:World) (h:g.rd 0 w.heap.size w) (hok:lu g=true) (hn:bM s=true) (i:Nat) (hi:pU g s=i) (hg:g.gen=gn_) (hat:400<at_):dd aa jC [g.v,.string s,J gn_,J part,J at_] w fun v w2=>v=.tuple #[.agg #[J 0,J 0,J 0,.slice none 0 0,.slice none 0 0],J 2]/\Below w.heap.size w w2:=by
 refine aD j5 Z Z ?_
 have hmC:=h.mC
 have hoC:=h.oC
 have hfew:=h.few
 have hfp:=h.fewP
 have H:=Hp.startGr h
 obtain⟨ck,wt,gn,ms,mA,mC,os,oA,oC⟩:=g
 dsimp only at hmC hoC hfew hfp H
 show CW _ _ _ _ (args [.agg #[J (ck),J (wt),J (gn),.slice mA ms.length mC,.slice oA os.length oC],.string (s),J (gn_),J (part),J (at_)]) w
 obtain⟨⟨⟨k1,k2⟩,k3,k4,⟨k5,k6⟩,k7,k8⟩,⟨hmo,hap⟩,hof,hor⟩:=du.1 hok
 dsimp only at k1 k2 k3 k4 k5 k6 k7 k8 hmo
 refine W<|Zr<|fQ H Z Z fun w1 b5 H=>eH H dZ Z fun w2 b10 H=>G (Wi Z)<|U<|W<|Zr<|G (Zw aP H 1 Z Z Z)<|G (Yt Z)<|G (Yi Z)<|cd hJ (y7 ⟨ck,wt,gn,ms,mA,mC,os,oA,oC⟩ s gn_ _ ⟨H.rd0 0 Z,fun m hm=>y5 H 1 Z hm,H.rd0 2 Z,hmC,hoC,hfew,hfp⟩ hok hn i hi hg) Z Z ?_
 rintro _ w3 ⟨⟨ck2,wt2,gn2,ms2,mA2,mC2,os2,oA2,oC2⟩,Lm,Lo,rfl,ha2,ho2,hoo2,hmc2,hoc2,hpc2,hj2⟩
 have hlo2:=H.size
 replace H:=Hp.joinG H hj2 (fun m hm=>(hpc2 m hm).2);clear hj2
 simp only[Gr.a,Gr.mk.injEq]at ha2
 obtain⟨e1,e2,e3,hma,-,-,e4,-,-⟩:=ha2
 obtain rfl:ck=ck2:=e1.symm
 obtain rfl:wt=wt2:=e2.symm
 obtain rfl:gn=gn2:=e3.symm
 obtain rfl:os=os2:=e4.symm
 dsimp only at ho2 hoo2 hmc2 hoc2 hpc2 H
 replace hpc2: ∀ m∈ms2,m.parts.length<=m.cap/\w.heap.size<=m.lo:=fun m hm=>⟨(hpc2 m hm).1,aS hlo2 (hpc2 m hm).2⟩
 have hml2:ms2.length=ms.length:=by have:=congrArg cu hma;simpa using this
 refine G (Yu Z)<|G (Xa Z Z)<|G (Xi Z Z)<|G (Xi Z Z)<|bo H 1 (#[J (ck),J (wt),J (gn),.slice mA2 ms2.length mC2,.slice oA2 os.length oC2]) bB Z Z Z Z Z N N fun w4 H=>G (Wi Z)<|G (Wi Z)<|U<|W<|Zb<|W<|Zr<|G (Yi Z)<|G (bU Z Z Z)<|G (Wb Z)<|U<|ZF Z<|W<|Zr<|G (Yi Z)<|G (cY Z Z I)<|G (Yb Z)<|ZG<|G (Yi Z)<|ZG<|G (GT Z Z I)<|G (N Z Z)<|G (Wb Z)<|U<|ZT Z<|W<|Zr<|G (bi (cs:= #[J (0),J (0),J (0),.slice none 0 0,.slice none 0 0]) jR dZ N)<|bo H 0 (#[J (0),J (0),J (0),.slice none 0 0,.slice none 0 0]) bB Z Z Z Z Z N N fun w5 H=>G (Wi Z)<|U<|Zt ?_
 exact bC (cs0:= #[J 0,J 0,J 0,.slice none 0 0,.slice none 0 0]) (v1:=J 2) Z aP Z (H.ent (i:=0) Z) Z Z ⟨rfl,H.below⟩
theorem Es (g:Gr) (s:ByteArray) (gn_ part at_:Int) (w:World) (h:g.rd 0 w.heap.size w) (hok:lu g=true) (hn:bM s=true) (i:Nat) (t:Mem) (hi:pU g s=i) (ht:g.ms[i]? =some t) (hg:g.gen=gn_) (hat0:0<=at_) (hat:at_<=400) (hpt:part∉t.parts):dd aa jC [g.v,.string s,J gn_,J part,J at_] w fun v w2=>v=.tuple #[.agg #[J 0,J 0,J 0,.slice none 0 0,.slice none 0 0],J 12]/\Below w.heap.size w w2:=by
 refine aD j5 Z Z ?_
 have hmC:=h.mC
 have hoC:=h.oC
 have hfew:=h.few
 have hfp:=h.fewP
 have H:=Hp.startGr h
 obtain⟨ck,wt,gn,ms,mA,mC,os,oA,oC⟩:=g
 dsimp only at hmC hoC hfew hfp H
 show CW _ _ _ _ (args [.agg #[J (ck),J (wt),J (gn),.slice mA ms.length mC,.slice oA os.length oC],.string (s),J (gn_),J (part),J (at_)]) w
 obtain⟨⟨⟨k1,k2⟩,k3,k4,⟨k5,k6⟩,k7,k8⟩,⟨hmo,hap⟩,hof,hor⟩:=du.1 hok
 dsimp only at k1 k2 k3 k4 k5 k6 k7 k8 hmo
 dsimp only at ht
 refine W<|Zr<|fQ H Z Z fun w1 b5 H=>eH H dZ Z fun w2 b10 H=>G (Wi Z)<|U<|W<|Zr<|G (Zw aP H 1 Z Z Z)<|G (Yt Z)<|G (Yi Z)<|cd hJ (y7 ⟨ck,wt,gn,ms,mA,mC,os,oA,oC⟩ s gn_ _ ⟨H.rd0 0 Z,fun m hm=>y5 H 1 Z hm,H.rd0 2 Z,hmC,hoC,hfew,hfp⟩ hok hn i hi hg) Z Z ?_
 rintro _ w3 ⟨⟨ck2,wt2,gn2,ms2,mA2,mC2,os2,oA2,oC2⟩,Lm,Lo,rfl,ha2,ho2,hoo2,hmc2,hoc2,hpc2,hj2⟩
 have hlo2:=H.size
 replace H:=Hp.joinG H hj2 (fun m hm=>(hpc2 m hm).2);clear hj2
 simp only[Gr.a,Gr.mk.injEq]at ha2
 obtain⟨e1,e2,e3,hma,-,-,e4,-,-⟩:=ha2
 obtain rfl:ck=ck2:=e1.symm
 obtain rfl:wt=wt2:=e2.symm
 obtain rfl:gn=gn2:=e3.symm
 obtain rfl:os=os2:=e4.symm
 dsimp only at ho2 hoo2 hmc2 hoc2 hpc2 H
 replace hpc2: ∀ m∈ms2,m.parts.length<=m.cap/\w.heap.size<=m.lo:=fun m hm=>⟨(hpc2 m hm).1,aS hlo2 (hpc2 m hm).2⟩
 have hml2:ms2.length=ms.length:=by have:=congrArg cu hma;simpa using this
 refine G (Yu Z)<|G (Xa Z Z)<|G (Xi Z Z)<|G (Xi Z Z)<|bo H 1 (#[J (ck),J (wt),J (gn),.slice mA2 ms2.length mC2,.slice oA2 os.length oC2]) bB Z Z Z Z Z N N fun w4 H=>G (Wi Z)<|G (Wi Z)<|U<|W<|Zb<|W<|Zr<|G (Yi Z)<|G (bU Z Z Z)<|G (Wb Z)<|U<|ZF Z<|W<|Zr<|G (Yi Z)<|G (cY Z Z I)<|G (Yb Z)<|ZG<|G (Yi Z)<|ZG<|G (en Z Z I)<|G (N Z Z)<|G (Wb Z)<|U<|ZF Z<|W ?_
 obtain⟨t2,ht2,hta⟩:=zQ hma ht
 have hl2:=(cE ht2).1
 obtain⟨g,cur,rfl,rfl,row⟩:=ho2.row I
 have htp:t2.parts=t.parts:=(congrArg Mem.parts hta:t2.a.parts=t.a.parts)
 have hpl:=iB hma hmo t2 (ae ht2)
 have hrp:=lH H (show m6 t2∈_ from ch _ (bL (ae ht2)))
 refine Zr<|G (Zf dH Z)<|G (Zd dq H 1 Z Z Z)<|G (Yi Z)<|G (cB eu Z Z (by first|omega|(simp only[ab];omega)))<|G (Zf iP Z)<|G (bP cn row ht2 2 Z (H.ent (i:=2) Z) Z)<|G (Yi Z)<|cd fv (lj t2.parts part t2.A t2.cap _ (lH H (show m6 t2∈_ from by first|exact ch _ (bL (ae ht2))|simp[ae ht2])) I) Z Z ?_
 rw[htp,decide_eq_false hpt]
 rintro _ w5 ⟨rfl,hb⟩;replace H:=H.later hb;clear hb
 refine G (dK Z)<|G (Wb Z)<|U<|ZT Z<|W<|Zr<|G (bi (cs:= #[J (0),J (0),J (0),.slice none 0 0,.slice none 0 0]) jR dZ N)<|bo H 0 (#[J (0),J (0),J (0),.slice none 0 0,.slice none 0 0]) bB Z Z Z Z Z N N fun w6 H=>G (Wi Z)<|U<|Zt ?_
 exact bC (cs0:= #[J 0,J 0,J 0,.slice none 0 0,.slice none 0 0]) (v1:=J 12) Z aP Z (H.ent (i:=0) Z) Z Z ⟨rfl,H.below⟩
theorem JW (g:Gr) (s:ByteArray) (gn_ part at_:Int) (w:World) (h:g.rd 0 w.heap.size w) (hok:lu g=true) (hn:bM s=true) (i:Nat) (t:Mem) (hi:pU g s=i) (ht:g.ms[i]? =some t) (hg:g.gen=gn_) (hat0:0<=at_) (hat:at_<=400) (hpt:part∈t.parts):dd aa jC [g.v,.string s,J gn_,J part,J at_] w fun v w2=> ∃ g':Gr,v=.tuple #[g'.v,J 0]/\g'.a={g.a with os:=gH g.os part at_}/\yB w w2 g':=by
 refine aD j5 Z Z ?_
 have hmC:=h.mC
 have hoC:=h.oC
 have hfew:=h.few
 have hfp:=h.fewP
 have H:=Hp.startGr h
 obtain⟨ck,wt,gn,ms,mA,mC,os,oA,oC⟩:=g
 dsimp only at hmC hoC hfew hfp H
 show CW _ _ _ _ (args [.agg #[J (ck),J (wt),J (gn),.slice mA ms.length mC,.slice oA os.length oC],.string (s),J (gn_),J (part),J (at_)]) w
 obtain⟨⟨⟨k1,k2⟩,k3,k4,⟨k5,k6⟩,k7,k8⟩,⟨hmo,hap⟩,hof,hor⟩:=du.1 hok
 dsimp only at k1 k2 k3 k4 k5 k6 k7 k8 hmo
 dsimp only at ht
 refine W<|Zr<|fQ H Z Z fun w1 b5 H=>eH H dZ Z fun w2 b10 H=>G (Wi Z)<|U<|W<|Zr<|G (Zw aP H 1 Z Z Z)<|G (Yt Z)<|G (Yi Z)<|cd hJ (y7 ⟨ck,wt,gn,ms,mA,mC,os,oA,oC⟩ s gn_ _ ⟨H.rd0 0 Z,fun m hm=>y5 H 1 Z hm,H.rd0 2 Z,hmC,hoC,hfew,hfp⟩ hok hn i hi hg) Z Z ?_
 rintro _ w3 ⟨⟨ck2,wt2,gn2,ms2,mA2,mC2,os2,oA2,oC2⟩,Lm,Lo,rfl,ha2,ho2,hoo2,hmc2,hoc2,hpc2,hj2⟩
 have hlo2:=H.size
 replace H:=Hp.joinG H hj2 (fun m hm=>(hpc2 m hm).2);clear hj2
 simp only[Gr.a,Gr.mk.injEq]at ha2
 obtain⟨e1,e2,e3,hma,-,-,e4,-,-⟩:=ha2
 obtain rfl:ck=ck2:=e1.symm
 obtain rfl:wt=wt2:=e2.symm
 obtain rfl:gn=gn2:=e3.symm
 obtain rfl:os=os2:=e4.symm
 dsimp only at ho2 hoo2 hmc2 hoc2 hpc2 H
 replace hpc2: ∀ m∈ms2,m.parts.length<=m.cap/\w.heap.size<=m.lo:=fun m hm=>⟨(hpc2 m hm).1,aS hlo2 (hpc2 m hm).2⟩
 have hml2:ms2.length=ms.length:=by have:=congrArg cu hma;simpa using this
 refine G (Yu Z)<|G (Xa Z Z)<|G (Xi Z Z)<|G (Xi Z Z)<|bo H 1 (#[J (ck),J (wt),J (gn),.slice mA2 ms2.length mC2,.slice oA2 os.length oC2]) bB Z Z Z Z Z N N fun w4 H=>G (Wi Z)<|G (Wi Z)<|U<|W<|Zb<|W<|Zr<|G (Yi Z)<|G (bU Z Z Z)<|G (Wb Z)<|U<|ZF Z<|W<|Zr<|G (Yi Z)<|G (cY Z Z I)<|G (Yb Z)<|ZG<|G (Yi Z)<|ZG<|G (en Z Z I)<|G (N Z Z)<|G (Wb Z)<|U<|ZF Z<|W ?_
 obtain⟨t2,ht2,hta⟩:=zQ hma ht
 have hl2:=(cE ht2).1
 obtain⟨g,cur,rfl,rfl,row⟩:=ho2.row I
 have htp:t2.parts=t.parts:=(congrArg Mem.parts hta:t2.a.parts=t.a.parts)
 have hpl:=iB hma hmo t2 (ae ht2)
 have hrp:=lH H (show m6 t2∈_ from ch _ (bL (ae ht2)))
 refine Zr<|G (Zf dH Z)<|G (Zd dq H 1 Z Z Z)<|G (Yi Z)<|G (cB eu Z Z (by first|omega|(simp only[ab];omega)))<|G (Zf iP Z)<|G (bP cn row ht2 2 Z (H.ent (i:=2) Z) Z)<|G (Yi Z)<|cd fv (lj t2.parts part t2.A t2.cap _ (lH H (show m6 t2∈_ from by first|exact ch _ (bL (ae ht2))|simp[ae ht2])) I) Z Z ?_
 rw[htp,decide_eq_true hpt]
 rintro _ w5 ⟨rfl,hb⟩;replace H:=H.later hb;clear hb
 refine G (dK Z)<|G (Wb Z)<|U<|ZF Z<|Zk<|W<|Zr<|G (Wi Z)<|U<|W<|Zb ?_
 refine ce (τ:=Nat) [14,47,48,49,50,51,52,53,54,55,56,57,58,59,60,61,62,63] (fun k=>[(14,J (k:Nat))]) (fun k w'=>k<=os.length/\(∀ x∈os.take k,x.part<part)/\Hp w w' ([(b10,.cells #[J 0,J 0,J 0,.slice none 0 0,.slice none 0 0] cL (0,0)),(b5,.cells #[J (ck),J (wt),J (gn),.slice (Qd g) ms2.length mC2,.slice oA2 os.length oC2] cL (0,0)),(g,.cells cur db (0,0))]++Lo) ([dM jF 0 w.heap.size mA ms,HW 0 w.heap.size ms,dM fP 0 w.heap.size oA os]++ms2.map m6)) (fun k=>os.length-k) 0 ⟨by omega,by simp,H⟩ (dF Z) ?_
 rintro k ρ1 w6 ⟨hk,hwh,H⟩
 show CW _ _ _ _ (dC (gC _ _ ρ1) [(14,J (k:Nat))]) w6
 refine W<|W<|Zr<|G (Yi Z)<|G (Zf dS Z)<|G (Zd eo H 1 Z Z Z)<|G (bn g7 Z) ?_
 refine cT (cG Z Z) Z Z Z (fun h51=> ?_) (fun h51=> ?_)
 obtain⟨g2,cur2,rfl,rfl,row2⟩:=hoo2.row I
 obtain⟨o,ho⟩: ∃ o,os[k]? =some o:=⟨_,ah I⟩
 refine G (Yb Z)<|ZG<|G (Zf dS Z)<|ZG<|G (Zd eo H 1 Z Z Z)<|ZG<|G (Yi Z)<|ZG<|G (cB cV Z Z (by first|omega|(simp only[ab];omega)))<|ZG<|G (Zf je Z)<|ZG<|G (bP aj row2 ho 0 Z (H.ent (i:=3) Z) Z)<|ZG<|G (Yi Z)<|ZG ?_
 refine cT (cG Z Z) Z Z Z (fun h60=> ?_) (fun h60=> ?_)
 refine G (Kt Z Z)<|U<|ZT Z<|Zk<|Zb<|Zr<|G (Yi Z)<|G (br Z Z I I)<|G (Wi Z)<|U ?_
 exact⟨k+1,⟨by omega,by rw[eI ho];intro x hx;rcases au.1 hx with hx|hx;exact hwh x hx;rw[aq.1 hx];exact h60,H⟩,dF Z,Qg,by show os.length- (k+1)<os.length-k;omega⟩
 refine G (Kt Z Z)<|U<|ZF Z<|Zx<|W<|W ?_
 have hkl:mi os part=k:=zl (fun x hx=>by simpa using hwh x hx) (fun x hx=>by rw[ho]at hx;injection hx with hx;subst hx;simpa using h60) hk
 refine Zr<|G (Yi Z)<|G (Zf dS Z)<|G (Zd eo H 1 Z Z Z)<|G (bn g7 Z) ?_
 refine cT (cG Z Z) Z Z Z (fun h68=> ?_) (fun h68=> ?_)
 refine G (Yb Z)<|ZG<|G (Zf dS Z)<|ZG<|G (Zd eo H 1 Z Z Z)<|ZG<|G (Yi Z)<|ZG<|G (cB cV Z Z (by first|omega|(simp only[ab];omega)))<|ZG<|G (Zf je Z)<|ZG<|G (bP aj row2 ho 0 Z (H.ent (i:=3) Z) Z)<|ZG<|G (Yi Z)<|ZG ?_
 refine cT (bl Z Z) Z Z Z (fun h77=> ?_) (fun h77=> ?_)
 refine G (Kt Z Z)<|U<|ZT Z ?_
 have hput:gH os part at_=os.set k {o with at_:=at_}:=by unfold gH;rw[hkl,ho];rw[if_pos (show Option.map l8.part (some o)=some part from congrArg some h77)];subst h77;rfl
 refine Zr<|G (Zf dS Z)<|G (Zd eo H 1 Z Z Z)<|G (Yi Z)<|G (Yi Z)<|G (cB cV Z Z (by first|omega|(simp only[ab];omega)))<|G (Zf ol Z)<|kH H 3 ({o with at_:=at_}) bI row2 ho 1 Z Z Z Z Z Z N fun w8 cur7 row7 H=> ?_
 have hs9:(os.set k ({o with at_:=at_}))[k]? =some ({o with at_:=at_}):=am (cE ho).1
 refine U<|W<|Zr<|G (Zw aP H 1 Z Z Z)<|bo H 0 (#[J (ck),J (wt),J (gn),.slice (Qd g) ms2.length mC2,.slice (Qd g2) os.length oC2]) bB Z Z Z Z Z N N fun w10 H=>G (Wi Z)<|U<|Zt ?_
 exact bC (cs0:= #[J (ck),J (wt),J (gn),.slice (Qd g) ms2.length mC2,.slice (Qd g2) os.length oC2]) (v1:=J 0) Z aP Z (H.ent (i:=0) Z) Z Z ⟨⟨ck,wt,gn,ms2,some ⟨g,0,none⟩,mC2,os.set k {o with at_:=at_},some ⟨g2,0,none⟩,oC2⟩,by unfold Gr.v Gr.c;dsimp only;rw[ab],by unfold Gr.a;dsimp only;rw[hma];show _=({Gr.a ⟨ck,wt,gn,ms,mA,mC,os,oA,oC⟩with os:=gH os part at_}:Gr);rw[hput];rfl,qO.new (ga:=Gr.a ⟨ck,wt,gn,ms2,some ⟨g,0,none⟩,mC2,os.set k {o with at_:=at_},some ⟨g2,0,none⟩,oC2⟩) ⟨rfl,dT.own row,by dsimp only;rw[ab];have hO:=dT.own (g:=g2) (e:=d7) row7;rw[ab]at hO;exact hO,hmc2,by dsimp only;rw[ab];exact hoc2,hpc2,H.forget (.cons _ (.cons _ (ap _))) (fun f hf=>by simp only[ax,au];grind)⟩ (by dsimp only;omega) (by dsimp only;rw[<-hput];have:=m1 os part at_;omega) (iB hma hmo)⟩
 refine G (Kt Z Z)<|U<|ZF Z ?_
 have hput:gH os part at_=os.take k++[⟨part,at_⟩]++os.drop k:=by unfold gH;rw[hkl];rw[if_neg (by rw[ho];intro hx;exact h77 (bj hx))]
 refine Zr<|G (Zf dS Z)<|G (Zd eo H 1 Z Z Z)<|G (Yi Z)<|G (Yi Z)<|G (Yi Z)<|G (bi (cs:= #[J (part),J (at_)]) uh kP N)<|sW (vs:=[.agg #[J (part),J (at_)]]) H cV kP Z Z Z Z Z Z fun w11 b91 H=>cd eU (jm (K:=[(b10,.cells #[J (0),J (0),J (0),.slice none 0 0,.slice none 0 0] cL (0,0)),(b5,.cells #[J (ck),J (wt),J (gn),.slice (Qd g) ms2.length mC2,.slice (Qd g2) os.length oC2] cL (0,0)),(g,.cells cur db (0,0))]) (Lt:=[(g2,.cells cur2 d7 (0,0))]) (M:=[]) (x:=⟨part,at_⟩) (i:=k) (by rw[aX];exact H) hoo2 I I) Z Z ?_
 rintro _ w12 ⟨A9,c9,L9,rfl,ho9,HI⟩
 replace H:Hp w w12 ([(b91,.cells #[J (part),J (at_)] d7 (0,0)),(b10,.cells #[J (0),J (0),J (0),.slice none 0 0,.slice none 0 0] cL (0,0)),(b5,.cells #[J (ck),J (wt),J (gn),.slice (Qd g) ms2.length mC2,.slice (Qd g2) os.length oC2] cL (0,0)),(g,.cells cur db (0,0))]++L9) ([dM jF 0 w.heap.size mA ms,HW 0 w.heap.size ms,dM fP 0 w.heap.size oA os]++ms2.map m6):=by rw[aX]at HI;exact HI
 clear HI
 have hc9:(os.take k++[(⟨part,at_⟩:l8)]++os.drop k).length<=c9:=by obtain⟨_,_,e,h,_⟩:=ho9.form;injection e with _ _ e;rw[e];exact h
 refine G (Zf dS Z)<|bo H 2 (#[J (ck),J (wt),J (gn),.slice (Qd g) ms2.length mC2,.slice A9 ((os.take k++[(⟨part,at_⟩:l8)]++os.drop k).length) c9]) nS Z Z Z Z Z N N fun w13 H=>U<|W<|Zr<|G (Zw aP H 2 Z Z Z)<|bo H 1 (#[J (ck),J (wt),J (gn),.slice (Qd g) ms2.length mC2,.slice A9 ((os.take k++[(⟨part,at_⟩:l8)]++os.drop k).length) c9]) bB Z Z Z Z Z N N fun w14 H=>G (Wi Z)<|U<|Zt ?_
 exact bC (cs0:= #[J (ck),J (wt),J (gn),.slice (Qd g) ms2.length mC2,.slice A9 (((os.take k++[(⟨part,at_⟩:l8)]++os.drop k)).length) c9]) (v1:=J 0) Z aP Z (H.ent (i:=1) Z) Z Z ⟨⟨ck,wt,gn,ms2,some ⟨g,0,none⟩,mC2,os.take k++[(⟨part,at_⟩:l8)]++os.drop k,A9,c9⟩,rfl,by unfold Gr.a;dsimp only;rw[hma];show _=({Gr.a ⟨ck,wt,gn,ms,mA,mC,os,oA,oC⟩with os:=gH os part at_}:Gr);rw[hput];rfl,qO.new (ga:=Gr.a ⟨ck,wt,gn,ms2,some ⟨g,0,none⟩,mC2,os.take k++[(⟨part,at_⟩:l8)]++os.drop k,A9,c9⟩) ⟨rfl,dT.own row,ho9,hmc2,hc9,hpc2,H.forget (.cons _ (.cons _ (.cons _ (ap _)))) (fun f hf=>by simp only[ax,au];grind)⟩ (by dsimp only;omega) (by dsimp only;rw[<-hput];have:=m1 os part at_;omega) (iB hma hmo)⟩
 refine G (Yb Z)<|ZN<|ZN<|ZN<|ZN<|ZN<|ZN<|ZN<|ZN<|G (N Z Z)<|U<|ZF Z ?_
 have hput:gH os part at_=os.take k++[⟨part,at_⟩]++os.drop k:=by unfold gH;rw[hkl];rw[if_neg (by rw[cI I];simp)]
 refine Zr<|G (Zf dS Z)<|G (Zd eo H 1 Z Z Z)<|G (Yi Z)<|G (Yi Z)<|G (Yi Z)<|G (bi (cs:= #[J (part),J (at_)]) uh kP N)<|sW (vs:=[.agg #[J (part),J (at_)]]) H cV kP Z Z Z Z Z Z fun w15 b91 H=>cd eU (jm (K:=[(b10,.cells #[J (0),J (0),J (0),.slice none 0 0,.slice none 0 0] cL (0,0)),(b5,.cells #[J (ck),J (wt),J (gn),.slice (Qd g) ms2.length mC2,.slice (Qd g2) os.length oC2] cL (0,0)),(g,.cells cur db (0,0))]) (Lt:=[(g2,.cells cur2 d7 (0,0))]) (M:=[]) (x:=⟨part,at_⟩) (i:=k) (by rw[aX];exact H) hoo2 I I) Z Z ?_
 rintro _ w16 ⟨A9,c9,L9,rfl,ho9,HI⟩
 replace H:Hp w w16 ([(b91,.cells #[J (part),J (at_)] d7 (0,0)),(b10,.cells #[J (0),J (0),J (0),.slice none 0 0,.slice none 0 0] cL (0,0)),(b5,.cells #[J (ck),J (wt),J (gn),.slice (Qd g) ms2.length mC2,.slice (Qd g2) os.length oC2] cL (0,0)),(g,.cells cur db (0,0))]++L9) ([dM jF 0 w.heap.size mA ms,HW 0 w.heap.size ms,dM fP 0 w.heap.size oA os]++ms2.map m6):=by rw[aX]at HI;exact HI
 clear HI
 have hc9:(os.take k++[(⟨part,at_⟩:l8)]++os.drop k).length<=c9:=by obtain⟨_,_,e,h,_⟩:=ho9.form;injection e with _ _ e;rw[e];exact h
 refine G (Zf dS Z)<|bo H 2 (#[J (ck),J (wt),J (gn),.slice (Qd g) ms2.length mC2,.slice A9 ((os.take k++[(⟨part,at_⟩:l8)]++os.drop k).length) c9]) nS Z Z Z Z Z N N fun w17 H=>U<|W<|Zr<|G (Zw aP H 2 Z Z Z)<|bo H 1 (#[J (ck),J (wt),J (gn),.slice (Qd g) ms2.length mC2,.slice A9 ((os.take k++[(⟨part,at_⟩:l8)]++os.drop k).length) c9]) bB Z Z Z Z Z N N fun w18 H=>G (Wi Z)<|U<|Zt ?_
 exact bC (cs0:= #[J (ck),J (wt),J (gn),.slice (Qd g) ms2.length mC2,.slice A9 (((os.take k++[(⟨part,at_⟩:l8)]++os.drop k)).length) c9]) (v1:=J 0) Z aP Z (H.ent (i:=1) Z) Z Z ⟨⟨ck,wt,gn,ms2,some ⟨g,0,none⟩,mC2,os.take k++[(⟨part,at_⟩:l8)]++os.drop k,A9,c9⟩,rfl,by unfold Gr.a;dsimp only;rw[hma];show _=({Gr.a ⟨ck,wt,gn,ms,mA,mC,os,oA,oC⟩with os:=gH os part at_}:Gr);rw[hput];rfl,qO.new (ga:=Gr.a ⟨ck,wt,gn,ms2,some ⟨g,0,none⟩,mC2,os.take k++[(⟨part,at_⟩:l8)]++os.drop k,A9,c9⟩) ⟨rfl,dT.own row,ho9,hmc2,hc9,hpc2,H.forget (.cons _ (.cons _ (.cons _ (ap _)))) (fun f hf=>by simp only[ax,au];grind)⟩ (by dsimp only;omega) (by dsimp only;rw[<-hput];have:=m1 os part at_;omega) (iB hma hmo)⟩
 refine G (Yb Z)<|ZN<|ZN<|ZN<|ZN<|ZN<|ZN<|ZN<|ZN<|G (N Z Z)<|U<|ZF Z<|Zx<|W<|W ?_
 have hkl:mi os part=k:=zl (fun x hx=>by simpa using hwh x hx) (fun x hx=>absurd (cE hx).1 I) hk
 refine Zr<|G (Yi Z)<|G (Zf dS Z)<|G (Zd eo H 1 Z Z Z)<|G (bn g7 Z) ?_
 refine cT (cG Z Z) Z Z Z (fun h68=> ?_) (fun h68=> ?_)
 obtain⟨g2,cur2,rfl,rfl,row2⟩:=hoo2.row I
 obtain⟨o,ho⟩: ∃ o,os[k]? =some o:=⟨_,ah I⟩
 refine G (Yb Z)<|ZG<|G (Zf dS Z)<|ZG<|G (Zd eo H 1 Z Z Z)<|ZG<|G (Yi Z)<|ZG<|G (cB cV Z Z (by first|omega|(simp only[ab];omega)))<|ZG<|G (Zf je Z)<|ZG<|G (bP aj row2 ho 0 Z (H.ent (i:=3) Z) Z)<|ZG<|G (Yi Z)<|ZG ?_
 refine cT (bl Z Z) Z Z Z (fun h77=> ?_) (fun h77=> ?_)
 refine G (Kt Z Z)<|U<|ZT Z ?_
 have hput:gH os part at_=os.set k {o with at_:=at_}:=by unfold gH;rw[hkl,ho];rw[if_pos (show Option.map l8.part (some o)=some part from congrArg some h77)];subst h77;rfl
 refine Zr<|G (Zf dS Z)<|G (Zd eo H 1 Z Z Z)<|G (Yi Z)<|G (Yi Z)<|G (cB cV Z Z (by first|omega|(simp only[ab];omega)))<|G (Zf ol Z)<|kH H 3 ({o with at_:=at_}) bI row2 ho 1 Z Z Z Z Z Z N fun w20 cur19 row19 H=> ?_
 have hs21:(os.set k ({o with at_:=at_}))[k]? =some ({o with at_:=at_}):=am (cE ho).1
 refine U<|W<|Zr<|G (Zw aP H 1 Z Z Z)<|bo H 0 (#[J (ck),J (wt),J (gn),.slice (Qd g) ms2.length mC2,.slice (Qd g2) os.length oC2]) bB Z Z Z Z Z N N fun w22 H=>G (Wi Z)<|U<|Zt ?_
 exact bC (cs0:= #[J (ck),J (wt),J (gn),.slice (Qd g) ms2.length mC2,.slice (Qd g2) os.length oC2]) (v1:=J 0) Z aP Z (H.ent (i:=0) Z) Z Z ⟨⟨ck,wt,gn,ms2,some ⟨g,0,none⟩,mC2,os.set k {o with at_:=at_},some ⟨g2,0,none⟩,oC2⟩,by unfold Gr.v Gr.c;dsimp only;rw[ab],by unfold Gr.a;dsimp only;rw[hma];show _=({Gr.a ⟨ck,wt,gn,ms,mA,mC,os,oA,oC⟩with os:=gH os part at_}:Gr);rw[hput];rfl,qO.new (ga:=Gr.a ⟨ck,wt,gn,ms2,some ⟨g,0,none⟩,mC2,os.set k {o with at_:=at_},some ⟨g2,0,none⟩,oC2⟩) ⟨rfl,dT.own row,by dsimp only;rw[ab];have hO:=dT.own (g:=g2) (e:=d7) row19;rw[ab]at hO;exact hO,hmc2,by dsimp only;rw[ab];exact hoc2,hpc2,H.forget (.cons _ (.cons _ (ap _))) (fun f hf=>by simp only[ax,au];grind)⟩ (by dsimp only;omega) (by dsimp only;rw[<-hput];have:=m1 os part at_;omega) (iB hma hmo)⟩
 refine G (Kt Z Z)<|U<|ZF Z ?_
 have hput:gH os part at_=os.take k++[⟨part,at_⟩]++os.drop k:=by unfold gH;rw[hkl];rw[if_neg (by rw[ho];intro hx;exact h77 (bj hx))]
 refine Zr<|G (Zf dS Z)<|G (Zd eo H 1 Z Z Z)<|G (Yi Z)<|G (Yi Z)<|G (Yi Z)<|G (bi (cs:= #[J (part),J (at_)]) uh kP N)<|sW (vs:=[.agg #[J (part),J (at_)]]) H cV kP Z Z Z Z Z Z fun w23 b91 H=>cd eU (jm (K:=[(b10,.cells #[J (0),J (0),J (0),.slice none 0 0,.slice none 0 0] cL (0,0)),(b5,.cells #[J (ck),J (wt),J (gn),.slice (Qd g) ms2.length mC2,.slice (Qd g2) os.length oC2] cL (0,0)),(g,.cells cur db (0,0))]) (Lt:=[(g2,.cells cur2 d7 (0,0))]) (M:=[]) (x:=⟨part,at_⟩) (i:=k) (by rw[aX];exact H) hoo2 I I) Z Z ?_
 rintro _ w24 ⟨A9,c9,L9,rfl,ho9,HI⟩
 replace H:Hp w w24 ([(b91,.cells #[J (part),J (at_)] d7 (0,0)),(b10,.cells #[J (0),J (0),J (0),.slice none 0 0,.slice none 0 0] cL (0,0)),(b5,.cells #[J (ck),J (wt),J (gn),.slice (Qd g) ms2.length mC2,.slice (Qd g2) os.length oC2] cL (0,0)),(g,.cells cur db (0,0))]++L9) ([dM jF 0 w.heap.size mA ms,HW 0 w.heap.size ms,dM fP 0 w.heap.size oA os]++ms2.map m6):=by rw[aX]at HI;exact HI
 clear HI
 have hc9:(os.take k++[(⟨part,at_⟩:l8)]++os.drop k).length<=c9:=by obtain⟨_,_,e,h,_⟩:=ho9.form;injection e with _ _ e;rw[e];exact h
 refine G (Zf dS Z)<|bo H 2 (#[J (ck),J (wt),J (gn),.slice (Qd g) ms2.length mC2,.slice A9 ((os.take k++[(⟨part,at_⟩:l8)]++os.drop k).length) c9]) nS Z Z Z Z Z N N fun w25 H=>U<|W<|Zr<|G (Zw aP H 2 Z Z Z)<|bo H 1 (#[J (ck),J (wt),J (gn),.slice (Qd g) ms2.length mC2,.slice A9 ((os.take k++[(⟨part,at_⟩:l8)]++os.drop k).length) c9]) bB Z Z Z Z Z N N fun w26 H=>G (Wi Z)<|U<|Zt ?_
 exact bC (cs0:= #[J (ck),J (wt),J (gn),.slice (Qd g) ms2.length mC2,.slice A9 (((os.take k++[(⟨part,at_⟩:l8)]++os.drop k)).length) c9]) (v1:=J 0) Z aP Z (H.ent (i:=1) Z) Z Z ⟨⟨ck,wt,gn,ms2,some ⟨g,0,none⟩,mC2,os.take k++[(⟨part,at_⟩:l8)]++os.drop k,A9,c9⟩,rfl,by unfold Gr.a;dsimp only;rw[hma];show _=({Gr.a ⟨ck,wt,gn,ms,mA,mC,os,oA,oC⟩with os:=gH os part at_}:Gr);rw[hput];rfl,qO.new (ga:=Gr.a ⟨ck,wt,gn,ms2,some ⟨g,0,none⟩,mC2,os.take k++[(⟨part,at_⟩:l8)]++os.drop k,A9,c9⟩) ⟨rfl,dT.own row,ho9,hmc2,hc9,hpc2,H.forget (.cons _ (.cons _ (.cons _ (ap _)))) (fun f hf=>by simp only[ax,au];grind)⟩ (by dsimp only;omega) (by dsimp only;rw[<-hput];have:=m1 os part at_;omega) (iB hma hmo)⟩
 refine G (Yb Z)<|ZN<|ZN<|ZN<|ZN<|ZN<|ZN<|ZN<|ZN<|G (N Z Z)<|U<|ZF Z ?_
 have hput:gH os part at_=os.take k++[⟨part,at_⟩]++os.drop k:=by unfold gH;rw[hkl];rw[if_neg (by rw[cI I];simp)]
 refine Zr<|G (Zf dS Z)<|G (Zd eo H 1 Z Z Z)<|G (Yi Z)<|G (Yi Z)<|G (Yi Z)<|G (bi (cs:= #[J (part),J (at_)]) uh kP N)<|sW (vs:=[.agg #[J (part),J (at_)]]) H cV kP Z Z Z Z Z Z fun w27 b91 H=>cd eU (jm (K:=[(b10,.cells #[J (0),J (0),J (0),.slice none 0 0,.slice none 0 0] cL (0,0)),(b5,.cells #[J (ck),J (wt),J (gn),.slice (Qd g) ms2.length mC2,.slice oA2 os.length oC2] cL (0,0)),(g,.cells cur db (0,0))]) (Lt:=Lo) (M:=[]) (x:=⟨part,at_⟩) (i:=k) (by rw[aX];exact H) hoo2 I I) Z Z ?_
 rintro _ w28 ⟨A9,c9,L9,rfl,ho9,HI⟩
 replace H:Hp w w28 ([(b91,.cells #[J (part),J (at_)] d7 (0,0)),(b10,.cells #[J (0),J (0),J (0),.slice none 0 0,.slice none 0 0] cL (0,0)),(b5,.cells #[J (ck),J (wt),J (gn),.slice (Qd g) ms2.length mC2,.slice oA2 os.length oC2] cL (0,0)),(g,.cells cur db (0,0))]++L9) ([dM jF 0 w.heap.size mA ms,HW 0 w.heap.size ms,dM fP 0 w.heap.size oA os]++ms2.map m6):=by rw[aX]at HI;exact HI
 clear HI
 have hc9:(os.take k++[(⟨part,at_⟩:l8)]++os.drop k).length<=c9:=by obtain⟨_,_,e,h,_⟩:=ho9.form;injection e with _ _ e;rw[e];exact h
 refine G (Zf dS Z)<|bo H 2 (#[J (ck),J (wt),J (gn),.slice (Qd g) ms2.length mC2,.slice A9 ((os.take k++[(⟨part,at_⟩:l8)]++os.drop k).length) c9]) nS Z Z Z Z Z N N fun w29 H=>U<|W<|Zr<|G (Zw aP H 2 Z Z Z)<|bo H 1 (#[J (ck),J (wt),J (gn),.slice (Qd g) ms2.length mC2,.slice A9 ((os.take k++[(⟨part,at_⟩:l8)]++os.drop k).length) c9]) bB Z Z Z Z Z N N fun w30 H=>G (Wi Z)<|U<|Zt ?_
 exact bC (cs0:= #[J (ck),J (wt),J (gn),.slice (Qd g) ms2.length mC2,.slice A9 (((os.take k++[(⟨part,at_⟩:l8)]++os.drop k)).length) c9]) (v1:=J 0) Z aP Z (H.ent (i:=1) Z) Z Z ⟨⟨ck,wt,gn,ms2,some ⟨g,0,none⟩,mC2,os.take k++[(⟨part,at_⟩:l8)]++os.drop k,A9,c9⟩,rfl,by unfold Gr.a;dsimp only;rw[hma];show _=({Gr.a ⟨ck,wt,gn,ms,mA,mC,os,oA,oC⟩with os:=gH os part at_}:Gr);rw[hput];rfl,qO.new (ga:=Gr.a ⟨ck,wt,gn,ms2,some ⟨g,0,none⟩,mC2,os.take k++[(⟨part,at_⟩:l8)]++os.drop k,A9,c9⟩) ⟨rfl,dT.own row,ho9,hmc2,hc9,hpc2,H.forget (.cons _ (.cons _ (.cons _ (ap _)))) (fun f hf=>by simp only[ax,au];grind)⟩ (by dsimp only;omega) (by dsimp only;rw[<-hput];have:=m1 os part at_;omega) (iB hma hmo)⟩
theorem uj {α:Type} {l:List α} {k:Nat} {a:α} (h:l[k]? =some a):l.set k a=l:=by
 apply eG
 intro i
 rw[lh]
 split
 rename_i hi
 subst hi
 split
 exact h.symm
 rename_i hl
 rw[cI I]at h;cases h
 rfl
def j6 (g:Gr) (s:ByteArray):Option (Nat×Mem):=(g.ms.findIdx? fun p=>decide (p.name=s)).bind fun i=>g.ms[i]?.map fun t=>(i,t)
theorem nn {g:Gr} {s:ByteArray} (h:j6 g s=none):pU g s= -1:=by
 unfold j6 at h
 unfold pU
 cases hi:g.ms.findIdx? fun p=>decide (p.name=s)with
 |none=>rfl
 |some i=>
  obtain⟨hl,-⟩:=bf.1 hi
  rw[hi]at h
  simp[ah hl]at h
theorem nk {g:Gr} {s:ByteArray} {i:Nat} {t:Mem} (h:j6 g s=some (i,t)):pU g s=i/\g.ms[i]? =some t/\t.name=s:=by
 unfold j6 at h
 unfold pU
 cases hi:g.ms.findIdx? fun p=>decide (p.name=s)with
 |none=>rw[hi]at h;cases h
 |some j=>
  obtain⟨hl,hn,-⟩:=bf.1 hi
  rw[hi]at h
  simp only[fN,ah hl,eS,lg,Prod.mk.injEq]at h
  obtain⟨rfl,rfl⟩:=h
  exact⟨rfl,ah hl,by simpa using hn⟩
theorem HH (g:Gr) (s:ByteArray):j6 g.a s=(j6 g s).map fun(i,t)=>(i,t.a):=by
 have e:g.a.ms.findIdx? (fun p=>decide (p.name=s))=g.ms.findIdx? fun p=>decide (p.name=s):=by
  show(g.ms.map Mem.a).findIdx? _=_
  rw[CT]
  rfl
 unfold j6
 rw[e]
 cases g.ms.findIdx? fun p=>decide (p.name=s)with
 |none=>rfl
 |some i=>
  show(g.ms.map Mem.a)[i]?.map _=(g.ms[i]?.map _).map _
  rw[aL]
  cases g.ms[i]? <;>rfl
theorem Kz {g:Gr} {s:ByteArray} (h:j6 g s=none): ∀ t∈g.ms,t.name≠s:=by
 have:=nn h
 unfold pU at this
 cases hi:g.ms.findIdx? fun p=>decide (p.name=s)with
 |none=>rw[dm]at hi;intro t ht;simpa using hi t ht
 |some i=>rw[hi]at this;simp[ls]at this
def sR (g:Gr) (s:ByteArray) (p:Nat):Gr×Int:=match j6 g s with
 |some _=>(Bc,6)
 |none=>if g.ms.length=6 then(Bc,16)else(Hc {g with ms:=g.ms++[Di s g.clock]} p,0)
def xa (g:Gr) (s:ByteArray) (gn:Int):Gr×Int:=match j6 g s with
 |none=>(Bc,5)
 |some (i,t)=>if g.gen=gn then(Ly g i t,0)else(Bc,10)
def r8 (g:Gr) (s:ByteArray) (gn part at_:Int):Gr×Int:=match j6 g s with
 |none=>(Bc,5)
 |some (_,t)=>if g.gen=gn then if 400<at_ then(Bc,2)else if part∈t.parts then({g with os:=gH g.os part at_},0)else(Bc,12)else(Bc,10)
def eL (g:Gr) (s:ByteArray) (part:Int):Int×Int:=match j6 g s with
 |none=>(0,5)
 |some (_,t)=>if part∈t.parts then(tl g.os part,0)else(0,12)
theorem LD (l:List Mem):kN (l.map Mem.a)↔kN l:=by
 unfold kN
 rw[si]
theorem DB (g:Gr):lu g.a=true↔lu g=true:=by
 rw[du,du]
 show(_/\_/\_/\_/\((g.ms.map Mem.a).length:Int)<=6/\_)/\((∀ m∈g.ms.map Mem.a,u5 g.clock m=true)/\kN (g.ms.map Mem.a))/\_/\_↔_
 rw[bF,LD]
 have:(∀ m∈g.ms.map Mem.a,u5 g.clock m=true)↔ ∀ m∈g.ms,u5 g.clock m=true:=by
  constructor
  intro h m hm;exact h m.a (bL hm)
  intro h m hm
  obtain⟨x,hx,rfl⟩:=bw.1 hm
  exact h x hx
 rw[this]
 exact Iff.rfl
structure qQ (P:ByteArray->Prop) (wt:Int) (p k:Nat) (g:Gr):Prop where
 ok:lu g=true
 clock:g.clock<=1000*k
 gen:g.gen<=k
 wait:g.wait=wt
 names: ∀ m∈g.ms,P m.name
 asg:g.ms.map Mem.parts=gF (g.ms.map Mem.name) p
theorem qQ.more {P:ByteArray->Prop} {wt:Int} {p k m:Nat} {g:Gr} (h:qQ P wt p k g) (hm:k<=m):qQ P wt p m g:=⟨h.ok,by have:=h.clock;omega,by have:=h.gen;omega,h.wait,h.names,h.asg⟩
theorem yi (l:List Mem):(l.map Mem.a).map Mem.parts=l.map Mem.parts:=by rw[r3];rfl
theorem qQ.a_iff {P:ByteArray->Prop} {wt:Int} {p k:Nat} {g:Gr}:qQ P wt p k g.a↔qQ P wt p k g:=by
 constructor
 rintro⟨h1,h2,h3,h4,h5,h6⟩
 refine⟨(DB g).1 h1,h2,h3,h4,fun m hm=>h5 m.a (bL hm),?_⟩
 have h6:(g.ms.map Mem.a).map Mem.parts=gF ((g.ms.map Mem.a).map Mem.name) p:=h6
 rw[si,yi]at h6
 exact h6
 rintro⟨h1,h2,h3,h4,h5,h6⟩
 refine⟨(DB g).2 h1,h2,h3,h4,fun m hm=> ?_,?_⟩
 obtain⟨x,hx,rfl⟩:=bw.1 (show m∈g.ms.map Mem.a from hm)
 exact h5 x hx
 show(g.ms.map Mem.a).map Mem.parts=gF ((g.ms.map Mem.a).map Mem.name) p
 rw[si,yi]
 exact h6
theorem qQ.a {P:ByteArray->Prop} {wt:Int} {p k:Nat} {g:Gr} (h:qQ P wt p k g):qQ P wt p k g.a:=qQ.a_iff.2 h
theorem qQ.of_a {P:ByteArray->Prop} {wt:Int} {p k:Nat} {g:Gr} (h:qQ P wt p k g.a):qQ P wt p k g:=qQ.a_iff.1 h
theorem vD: ∀ (l:List Int) (a:Int),l.Pairwise (· < ·)->(∀ q∈l,a<q/\q<4)->cR a l=true
 |[],_,_,_=>rfl
 |x::l,a,hp,hq=>by
  obtain⟨h1,h2⟩:=ei.1 hp
  unfold cR
  have:=hq x (az ..)
  rw[vD l x h2 fun q hq'=>⟨h1 q hq',(hq q (ak _ hq')).2⟩]
  simp[this.1,this.2]
theorem Id (n:Nat):(qR n).Pairwise (· < ·):=by
 unfold qR
 rw[jh]
 exact List.pairwise_lt_range.imp fun h=>by omega
theorem Gm {names:List ByteArray} {p i:Nat} (hp:p<=4):cR (-1) (mg names p i)=true:=by
 refine vD _ _ ((Id p).filter _) fun q hq=> ?_
 obtain⟨j,hj,rfl⟩:=wc.1 (kG.1 hq).1
 omega
theorem CO (ms:List Mem) (p:Nat):(oO ms p).map Mem.name=ms.map Mem.name:=by
 unfold oO
 rw[List.map_zipWith]
 refine eG fun i=> ?_
 rw[qh,aL]
 unfold gF
 rw[aL,bF]
 cases h:ms[i]? with
 |none=>rfl
 |some m=>
  have:=(cE h).1
  rw[zf this]
  rfl
theorem FL (ms:List Mem) (p:Nat):(oO ms p).map Mem.parts=gF (ms.map Mem.name) p:=by
 unfold oO
 rw[List.map_zipWith]
 refine eG fun i=> ?_
 rw[qh]
 cases h:ms[i]? with
 |none=>
  have:ms.length<=i:=by simpa using h
  rw[cI (by rw[ou,bF];exact this)]
 |some m=>
  have:=(cE h).1
  have hl:i<(gF (ms.map Mem.name) p).length:=by rw[ou,bF];exact this
  rw[ah hl]
theorem AP {ms:List Mem} {p:Nat} {m:Mem} (h:m∈oO ms p): ∃ x∈ms,m.name=x.name/\m.heard=x.heard:=by
 obtain⟨i,hi⟩:=aW.1 h
 unfold oO at hi
 rw[qh]at hi
 split at hi
 rename_i x l hx hl
 injection hi with hi
 exact⟨x,ae hx,by rw[<-hi],by rw[<-hi]⟩
 cases hi
theorem LB {P:ByteArray->Prop} {wt:Int} {p k:Nat} {g:Gr} (hp:p<=4) (hk:k<=100000) (hc:0<=g.clock/\g.clock<=1000*(k+1)) (hw:g.wait=wt) (hw1:1<=g.wait/\g.wait<=1000) (hg:0<=g.gen/\g.gen<=k) (hl:(g.ms.length:Int)<=6) (hol:(g.os.length:Int)<=4) (hm: ∀ m∈g.ms,bM m.name=true/\P m.name/\0<=m.heard/\m.heard<=g.clock) (ha:kN g.ms) (ho:(∀ o∈g.os,0<=o.part/\o.part<4/\0<=o.at_/\o.at_<=400)/\g.os.Pairwise (fun a b=>a.part<b.part)):qQ P wt p (k+1) (Hc g p):=by
 refine⟨du.2 ⟨⟨⟨hc.1,by show g.clock<=_;omega⟩,hw1.1,hw1.2,⟨by show 0<=g.gen+1;omega,by show g.gen+1<=_;omega⟩,by show((oO g.ms p).length:Int)<=6;rw[AO];exact hl,hol⟩,⟨fun m hm2=> ?_,?_⟩,ho⟩,by show g.clock<=_;omega,by show g.gen+1<=_;omega,hw,fun m hm2=> ?_,?_⟩
 obtain⟨x,hx,e1,e2⟩:=AP hm2
 obtain⟨i,hi⟩:=AN hm2
 obtain⟨a1,a2,a3,a4⟩:=hm x hx
 exact jA.2 ⟨by rw[e1];exact a1,by rw[e2];exact a3,by rw[e2];exact a4,by rw[hi];exact Gm hp⟩
 unfold kN
 show((oO g.ms p).map _).Pairwise _
 rw[CO];exact ha
 obtain⟨x,hx,e1,-⟩:=AP hm2
 rw[e1];exact(hm x hx).2.1
 show(oO g.ms p).map _=gF ((oO g.ms p).map _) p
 rw[CO,FL]
theorem qQ.mems {P:ByteArray->Prop} {wt:Int} {p k:Nat} {g:Gr} (h:qQ P wt p k g): ∀ m∈g.ms,bM m.name=true/\P m.name/\0<=m.heard/\m.heard<=g.clock:=fun m hm=>by
 obtain⟨-,⟨h2,-⟩,-⟩:=du.1 h.ok
 obtain⟨a1,a2,a3,-⟩:=jA.1 (h2 m hm)
 exact⟨a1,h.names m hm,a2,a3⟩
theorem qQ.join {P:ByteArray->Prop} {wt:Int} {p k:Nat} {g:Gr} {s:ByteArray} (h:qQ P wt p k g) (hp:p<=4) (hk:k<=100000) (hn:bM s=true) (hs:P s) (he:(sR g s p).2=0):qQ P wt p (k+1) (sR g s p).1:=by
 obtain⟨⟨h1,h2,h3,h4,h5,h6⟩,⟨h7,h8⟩,h9⟩:=du.1 h.ok
 unfold sR at he⊢
 cases hf:j6 g s with
 |some x=>rw[hf]at he;cases he
 |none=>
  rw[hf]at he
  dsimp only at he⊢
  by_cases hl:g.ms.length=6
  rw[if_pos hl]at he;cases he
  rw[if_neg hl]
  have hno:=Kz hf
  have hck:=h.clock
  refine LB hp hk ⟨h1.1,by show g.clock<=_;omega⟩ h.wait ⟨h2,h3⟩ ⟨h4.1,h.gen⟩ ?_ h6 (fun m hm=> ?_) ?_ h9
  show((g.ms++[_]).length:Int)<=6
  rw[ay,bO];omega
  rcases au.1 hm with hm|hm
  exact h.mems m hm
  rw[aq.1 hm]
  exact⟨hn,hs,h1.1,iS _⟩
  unfold kN at h8⊢
  show((g.ms++[Di s g.clock]).map _).Pairwise _
  rw[bk,lT]
  refine⟨h8,by simp,fun a ha b hb=> ?_⟩
  obtain⟨t,ht,rfl⟩:=bw.1 ha
  simp only[eF,mb,aq]at hb
  subst hb
  exact hno t ht
theorem He {l:List Mem} {i:Nat} {t t':Mem} (h:kN l) (hi:l[i]? =some t) (hn:t'.name=t.name):kN (l.set i t'):=by
 unfold kN at h⊢
 rw[cw,hn,uj (by rw[aL,hi];rfl)]
 exact h
theorem qQ.beat {P:ByteArray->Prop} {wt:Int} {p k:Nat} {g:Gr} {s:ByteArray} {gn:Int} (h:qQ P wt p k g) (he:(xa g s gn).2=0):qQ P wt p (k+1) (xa g s gn).1:=by
 obtain⟨⟨h1,h2,h3,h4,h5,h6⟩,⟨h7,h8⟩,h9⟩:=du.1 h.ok
 unfold xa at he⊢
 cases hf:j6 g s with
 |none=>rw[hf]at he;cases he
 |some x=>
  obtain⟨i,t⟩:=x
  rw[hf]at he
  dsimp only at he⊢
  obtain⟨-,ht,-⟩:=nk hf
  have hm:=ae ht
  have hck:=h.clock
  have hgn:=h.gen
  by_cases hg:g.gen=gn
  rw[if_pos hg]
  refine⟨du.2 ⟨⟨h1,h2,h3,h4,?_,h6⟩,⟨fun m hm2=> ?_,He h8 ht Z⟩,h9⟩,?_,?_,h.wait,fun m hm2=> ?_,?_⟩
  show((g.ms.set i _).length:Int)<=6
  rw[ab];exact h5
  rcases bE hm2 with hm2|rfl
  exact h7 m hm2
  have:=jA.1 (h7 t hm)
  exact jA.2 ⟨this.1,h1.1,iS _,this.2.2.2⟩
  show g.clock<=_;omega
  show g.gen<=_;omega
  rcases bE hm2 with hm2|rfl
  exact h.names m hm2
  exact h.names t hm
  show(g.ms.set i _).map _=gF ((g.ms.set i _).map _) p
  rw[cw,cw]
  rw[uj (by rw[aL,ht];rfl),uj (by rw[aL,ht];rfl)]
  exact h.asg
  rw[if_neg hg]at he;cases he
theorem Gv {os:List l8} {part:Int}: ∀ o∈os.take (mi os part),o.part<part:=by
 unfold mi
 intro o ho
 rw[<-List.prefix_iff_eq_take.1 (List.takeWhile_prefix _)]at ho
 have:=d9.1 (List.all_takeWhile (p:=fun o:l8=>decide (o.part<part)) (l:=os)) o ho
 simpa using this
theorem zJ {os:List l8} {part:Int} (h:os.Pairwise (fun a b=>a.part<b.part)): ∀ o∈os.drop (mi os part),part<=o.part:=by
 induction os with
 |nil=>intro o ho;simp at ho
 |cons x l ih=>
  obtain⟨h1,h2⟩:=ei.1 h
  intro o ho
  by_cases hx:x.part<part
  have e:mi (x::l) part=mi l part+1:=by unfold mi;rw[List.takeWhile_cons_of_pos (by simpa using hx)];rfl
  rw[e,zg]at ho
  exact ih h2 o ho
  have e:mi (x::l) part=0:=by unfold mi;rw[List.takeWhile_cons_of_neg (by simpa using hx)];rfl
  rw[e,lU]at ho
  rcases ax.1 ho with rfl|ho
  omega
  have:=h1 o ho;omega
theorem Ks {os:List l8} (h:os.Pairwise (fun a b=>a.part<b.part)) (hb: ∀ o∈os,0<=o.part/\o.part<4):(os.length:Int)<=4:=by
 have h1:cR (-1) (os.map l8.part)=true:=vD _ _ (jh.2 h) fun q hq=>by
  obtain⟨o,ho,rfl⟩:=bw.1 hq
  have:=hb o ho;omega
 have:=mf h1
 rw[bF]at this
 omega
theorem IA {os:List l8} {part at_:Int} (h0:0<=part) (h3:part<4) (ha0:0<=at_) (ha:at_<=400) (ho:(∀ o∈os,0<=o.part/\o.part<4/\0<=o.at_/\o.at_<=400)/\os.Pairwise (fun a b=>a.part<b.part)):((∀ o∈gH os part at_,0<=o.part/\o.part<4/\0<=o.at_/\o.at_<=400)/\(gH os part at_).Pairwise (fun a b=>a.part<b.part)):=by
 obtain⟨h1,h2⟩:=ho
 unfold gH
 split
 rename_i hp
 obtain⟨o,hx,hxp⟩:=iD.1 hp
 refine⟨fun y hy=> ?_,?_⟩
 rcases bE hy with hy|rfl
 exact h1 y hy
 exact⟨h0,h3,ha0,ha⟩
 have:(os.set (mi os part) ⟨part,at_⟩).map l8.part=os.map l8.part:=by
  rw[cw,uj (by rw[aL,hx];show some o.part=some part;rw[hxp])]
 rw[<-jh (f:=l8.part) (R:=fun a b:Int=>a<b),this,jh]
 exact h2
 rename_i hp
 refine⟨fun y hy=> ?_,?_⟩
 simp only[au,aq]at hy
 rcases hy with(hy|rfl)|hy
 exact h1 y (yE hy)
 exact⟨h0,h3,ha0,ha⟩
 exact h1 y (List.mem_of_mem_drop hy)
 have hd: ∀ o∈os.drop (mi os part),part<o.part:=fun o ho=>by
  have h4:=zJ h2 o ho
  rcases Int.lt_or_eq_of_le h4 with h5|h5
  exact h5
  exfalso
  obtain⟨j,hj⟩:=aW.1 ho
  cases hd:os.drop (mi os part)with
  |nil=>rw[hd]at hj;simp at hj
  |cons y l=>
   have hy:os[mi os part]? =some y:=by
    have:=congrArg (fun l=>l[0]?) hd
    simpa [dI]using this
   have hyp:y.part≠part:=fun h=>hp (by rw[hy];exact congrArg some h)
   have hy1:=zJ h2 y (by rw[hd];exact az ..)
   have hpw:(y::l).Pairwise (fun a b=>a.part<b.part):=hd▸h2.sublist (List.drop_sublist _ _)
   rw[hd]at ho
   rcases ax.1 ho with rfl|ho
   exact hyp h5.symm
   have:=(ei.1 hpw).1 o ho;omega
 rw[aE,lT]
 refine⟨h2.sublist (List.take_sublist _ _),?_,fun a ha b hb=> ?_⟩
 show(_::os.drop (mi os part)).Pairwise _
 exact ei.2 ⟨hd,h2.sublist (List.drop_sublist _ _)⟩
 have h5:=Gv a ha
 rcases au.1 hb with hb|hb
 rw[aq.1 hb];exact h5
 have:=hd b hb;omega
theorem qQ.store {P:ByteArray->Prop} {wt:Int} {p k:Nat} {g:Gr} {s:ByteArray} {gn part at_:Int} (h:qQ P wt p k g) (ha0:0<=at_) (he:(r8 g s gn part at_).2=0):qQ P wt p (k+1) (r8 g s gn part at_).1:=by
 obtain⟨⟨h1,h2,h3,h4,h5,h6⟩,⟨h7,h8⟩,h9⟩:=du.1 h.ok
 unfold r8 at he⊢
 cases hf:j6 g s with
 |none=>rw[hf]at he;cases he
 |some x=>
  obtain⟨i,t⟩:=x
  rw[hf]at he
  dsimp only at he⊢
  obtain⟨-,ht,-⟩:=nk hf
  have hm:=ae ht
  have hck:=h.clock
  have hgn:=h.gen
  by_cases hg:g.gen=gn
  rw[if_pos hg]at he⊢
  by_cases hat:400<at_
  rw[if_pos hat]at he;cases he
  rw[if_neg hat]at he⊢
  by_cases hpt:part∈t.parts
  rw[if_pos hpt]
  have hp4:=(fE (jA.1 (h7 t hm)).2.2.2).2 part hpt
  have ho:=IA I hp4.2 ha0 I h9
  exact⟨du.2 ⟨⟨h1,h2,h3,h4,h5,Ks ho.2 fun o hx=>⟨(ho.1 o hx).1,(ho.1 o hx).2.1⟩⟩,⟨h7,h8⟩,ho⟩,by show g.clock<=_;omega,by show g.gen<=_;omega,h.wait,h.names,h.asg⟩
  rw[if_neg hpt]at he;cases he
  rw[if_neg hg]at he;cases he
theorem qQ.tick {P:ByteArray->Prop} {wt:Int} {p k:Nat} {g:Gr} {n:Int} (h:qQ P wt p k g) (hp:p<=4) (hk:k<=100000) (hn0:0<=n) (hn:n<=1000):qQ P wt p (k+1) (pL g n p):=by
 obtain⟨⟨h1,h2,h3,h4,h5,h6⟩,⟨h7,h8⟩,h9⟩:=du.1 h.ok
 have hck:=h.clock
 have hgn:=h.gen
 unfold pL
 by_cases hl:(g.ms.filter fun m=>!tr g n m).length=g.ms.length
 rw[if_pos hl]
 refine⟨du.2 ⟨⟨⟨by show 0<=g.clock+n;omega,by show g.clock+n<=_;omega⟩,h2,h3,h4,h5,h6⟩,⟨fun m hm=> ?_,h8⟩,h9⟩,by show g.clock+n<=_;omega,by show g.gen<=_;omega,h.wait,h.names,h.asg⟩
 obtain⟨a1,a2,a3,a4⟩:=jA.1 (h7 m hm)
 exact jA.2 ⟨a1,a2,by show m.heard<=g.clock+n;omega,a4⟩
 rw[if_neg hl]
 have hsub:(g.ms.filter fun m=>!tr g n m).Sublist g.ms:=List.filter_sublist
 refine LB hp hk ⟨by show 0<=g.clock+n;omega,by show g.clock+n<=_;omega⟩ h.wait ⟨h2,h3⟩ ⟨h4.1,h.gen⟩ ?_ h6 (fun m hm=> ?_) ?_ h9
 have:=hsub.length_le
 show((g.ms.filter fun m=>!tr g n m).length:Int)<=6
 omega
 obtain⟨a1,a2,a3,a4⟩:=h.mems m (hsub.subset hm)
 exact⟨a1,a2,a3,by show m.heard<=g.clock+n;omega⟩
 unfold kN at h8⊢
 exact h8.sublist (hsub.map _)
theorem qD {g:Gr} {s:ByteArray} {i:Nat} {t:Mem} (h:j6 g s=some (i,t)):j6 g.a s=some (i,t.a):=by rw[HH,h];rfl
theorem qE {g:Gr} {s:ByteArray} (h:j6 g s=none):j6 g.a s=none:=by rw[HH,h];rfl
abbrev CV (f:FuncId) (args:List Value) (w:World) (x:Gr×Int):Prop:=dd aa f args w fun v w2=> ∃ g':Gr,v=.tuple #[g'.v,J x.2]/\g'.a=x.1/\yB w w2 g'
theorem IV (g:Gr) (s:ByteArray) (p:Nat) (w:World) (h:g.rd 0 w.heap.size w) (hok:lu g=true) (hn:bM s=true) (hp:p<=4) (hg1:g.gen<1073741824):CV pn [g.v,.string s,J (p:Nat)] w (sR g.a s p):=by
 unfold CV sR
 cases hf:j6 g s with
 |none=>
  rw[qE hf]
  dsimp only
  by_cases hl:g.ms.length=6
  rw[if_pos (show g.a.ms.length=6 by simpa [Gr.a]using hl)]
  exact(IU g s p w h hok hn hp hg1 (nn hf) hl).mono fun v w2 ⟨h1,h2⟩=>⟨Bc,h1,rfl,qy h2⟩
  rw[if_neg (show¬ g.a.ms.length=6 by simpa [Gr.a]using hl)]
  exact MQ g s p w h hok hn hp hg1 (nn hf) hl
 |some x=>
  obtain⟨i,t⟩:=x
  rw[qD hf]
  exact(GH g s p w h hok hn hp hg1 i (nk hf).1).mono fun v w2 ⟨h1,h2⟩=>⟨Bc,h1,rfl,qy h2⟩
theorem Jp (g:Gr) (s:ByteArray) (gn:Int) (w:World) (h:g.rd 0 w.heap.size w) (hok:lu g=true) (hn:bM s=true):CV pp [g.v,.string s,J gn] w (xa g.a s gn):=by
 unfold CV xa
 cases hf:j6 g s with
 |none=>
  rw[qE hf]
  exact(Jo g s gn w h hok hn (nn hf)).mono fun v w2 ⟨h1,h2⟩=>⟨Bc,h1,rfl,qy h2⟩
 |some x=>
  obtain⟨i,t⟩:=x
  rw[qD hf]
  obtain⟨hi,ht,-⟩:=nk hf
  dsimp only
  by_cases hg:g.gen=gn
  rw[if_pos (show g.a.gen=gn from hg)]
  exact M8 g s gn w h hok hn i t hi ht hg
  rw[if_neg (show¬ g.a.gen=gn from hg)]
  exact(G9 g s gn w h hok hn i hi hg).mono fun v w2 ⟨h1,h2⟩=>⟨Bc,h1,rfl,qy h2⟩
theorem F5 (g:Gr) (s:ByteArray) (gn part at_:Int) (w:World) (h:g.rd 0 w.heap.size w) (hok:lu g=true) (hn:bM s=true) (ha:0<=at_):CV jC [g.v,.string s,J gn,J part,J at_] w (r8 g.a s gn part at_):=by
 unfold CV r8
 cases hf:j6 g s with
 |none=>
  rw[qE hf]
  exact(F4 g s gn part at_ w h hok hn (nn hf)).mono fun v w2 ⟨h1,h2⟩=>⟨Bc,h1,rfl,qy h2⟩
 |some x=>
  obtain⟨i,t⟩:=x
  rw[qD hf]
  obtain⟨hi,ht,-⟩:=nk hf
  dsimp only
  by_cases hg:g.gen=gn
  rw[if_pos (show g.a.gen=gn from hg)]
  by_cases hat:400<at_
  rw[if_pos hat]
  exact(Et g s gn part at_ w h hok hn i hi hg hat).mono fun v w2 ⟨h1,h2⟩=>⟨Bc,h1,rfl,qy h2⟩
  rw[if_neg hat]
  by_cases hp:part∈t.parts
  rw[if_pos (show part∈t.a.parts from hp)]
  exact JW g s gn part at_ w h hok hn i t hi ht hg ha I hp
  rw[if_neg (show¬ part∈t.a.parts from hp)]
  exact(Es g s gn part at_ w h hok hn i t hi ht hg ha I hp).mono fun v w2 ⟨h1,h2⟩=>⟨Bc,h1,rfl,qy h2⟩
  rw[if_neg (show¬ g.a.gen=gn from hg)]
  exact(Eu g s gn part at_ w h hok hn i hi hg).mono fun v w2 ⟨h1,h2⟩=>⟨Bc,h1,rfl,qy h2⟩
theorem r6 (g:Gr) (s:ByteArray) (part:Int) (w:World) (h:g.rd 0 w.heap.size w) (hok:lu g=true) (hn:bM s=true):dd aa nJ [g.v,.string s,J part] w fun v w2=>v=.tuple #[J (eL g.a s part).1,J (eL g.a s part).2]/\Below w.heap.size w w2:=by
 unfold eL
 cases hf:j6 g s with
 |none=>
  rw[qE hf]
  exact FV g s part w h hok hn (nn hf)
 |some x=>
  obtain⟨i,t⟩:=x
  rw[qD hf]
  obtain⟨hi,ht,-⟩:=nk hf
  dsimp only
  by_cases hp:part∈t.parts
  rw[if_pos (show part∈t.a.parts from hp)]
  exact JO g s part w h hok hn i t hi ht hp
  rw[if_neg (show¬ part∈t.a.parts from hp)]
  exact Eh g s part w h hok hn i t hi ht hp
def Pk:Deep Gr:=⟨fun g=>g.rd,fun _ _ _ _ _ hk h=>h.st hk,fun _ _ _ _ _ _ h h1 h2=>h.mono h1 h2⟩
theorem MF (P:ByteArray->Prop) {wt:Int} (p:Nat) (h1:1<=wt) (h2:wt<=1000):qQ P wt p 0 ⟨0,wt,0,[],none,0,[],none,0⟩:=⟨du.2 ⟨⟨⟨by simp,by simp⟩,h1,h2,⟨by simp,by simp⟩,by simp,by simp⟩,⟨by simp,by simp[kN]⟩,by simp,by simp⟩,by simp,by simp,rfl,by simp,by simp[gF]⟩
theorem qQ.next {P:ByteArray->Prop} {wt:Int} {p k:Nat} {q:Gr} {r:Gr×Int} (h:r.2=0->qQ P wt p (k+1) r.1) (ha:q.a=r.1):r.2=0->qQ P wt p (k+1) q:=fun h0=>qQ.of_a (ha▸h h0)
theorem FI (p t:Tx) (b:Nat) (w:World) (hx:w.heap[b]? =some (.cells t.c.toArray dB (0,0))):
  dd aa rJ [p.v,.pointer (Qd b)] w fun v w2=>v=.bool (decide (p.name=t.name)||decide (p.pid=t.pid))/\Below w.heap.size w w2:=by
 refine aD wL Z Z ?_
 have H:=Hp.start w
 have hb:=bY hx
 refine W<|Zr<|fQ H Z Z fun w1 b2 H=>G (Wb Z)<|U<|W<|Zr<|G (Zf oe Z)<|G (Zd aY H 0 Z Z Z)<|G (Zf oe Z)<|G (aT aY Z ((H.below.cell (p:=⟨b,_,none⟩) hb).trans (aB (j:=0) hx Z))) ?_
 refine cT (vA Z Z) Z Z Z (fun h8=> ?_) (fun h8=> ?_)
 refine G (Yb Z)<|ZN<|ZN<|ZN<|ZN<|ZN<|G (Kt Z Z)<|G (Wb Z)<|U<|Zt ?_
 have hv:(decide (p.name=t.name)||decide (p.pid=t.pid))=true:=by simp[h8]
 exact cD (v:=.bool true) Z Z ⟨by rw[hv],H.below⟩
 refine G (Yb Z)<|ZG<|G (Zf kU Z)<|ZG<|G (Zd aj H 0 Z Z Z)<|ZG<|G (Zf kU Z)<|ZG<|G (aT aj Z ((H.below.cell (p:=⟨b,_,none⟩) hb).trans (aB (j:=1) hx Z)))<|ZG ?_
 refine cT (bl Z Z) Z Z Z (fun h14=> ?_) (fun h14=> ?_)
 refine G (N Z Z)<|G (Wb Z)<|U<|Zt ?_
 have hv:(decide (p.name=t.name)||decide (p.pid=t.pid))=true:=by simp[h8,h14]
 exact cD (v:=.bool true) Z Z ⟨by rw[hv],H.below⟩
 refine G (N Z Z)<|G (Wb Z)<|U<|Zt ?_
 have hv:(decide (p.name=t.name)||decide (p.pid=t.pid))=false:=by simp[h8,h14]
 exact cD (v:=.bool false) Z Z ⟨by rw[hv],H.below⟩
theorem nj (p:Tx) (s:ByteArray) (b:Nat) (w:World) (hx:w.heap[b]? =some (.cells #[.string s] km (0,0))):
  dd aa gI [p.v,.pointer (Qd b)] w fun v w2=>v=.bool (decide (p.name=s))/\Below w.heap.size w w2:=by
 refine aD xJ Z Z ?_
 have H:=Hp.start w
 have hb:=bY hx
 refine W<|Zr<|fQ H Z Z fun w1 b2 H=>G (Wb Z)<|U<|W<|Zr<|G (Zf oe Z)<|G (Zd aY H 0 Z Z Z)<|G (aT aY Z ((H.below.cell (p:=⟨b,_,none⟩) hb).trans (aB (j:=0) hx Z)))<|G (vA Z Z)<|G (Wb Z)<|U<|Zt ?_
 exact cD Z Z ⟨rfl,H.below⟩
theorem FF (n:Int) (w:World) (h1:1<=n) (h2:n<=1000):dd aa Fi [J n] w fun v w2=>v=.tuple #[.agg #[J 0,J 1,J n,.slice none 0 0],J 0]/\Below w.heap.size w w2:=by
 refine aD DO Z Z ?_
 have H:=Hp.start w
 refine W<|Zr<|eH H cJ Z fun w1 b2 H=>G (Wi Z)<|U<|W<|W<|Zr<|G (Yi Z)<|G (cY Z Z I)<|G (Yb Z)<|ZG<|G (Yi Z)<|ZG<|G (en Z Z I)<|G (N Z Z)<|U<|ZF Z<|Zk<|W<|Zr<|G (Yi Z)<|G (bi (cs:= #[J 0,J 1,J n,.slice none 0 0]) ft cJ N)<|bo H 0 (#[J 0,J 1,J n,.slice none 0 0]) aF Z Z Z Z Z N N fun w2 H=>G (Wi Z)<|U<|Zt ?_
 exact bC (cs0:= #[J 0,J 1,J n,.slice none 0 0]) (v1:=J 0) Z av Z (H.ent (i:=0) Z) Z Z ⟨rfl,H.below⟩
theorem NC (ck nx wt:Int) (At:Option Addr) (n ct:Nat) (t:Tx) (w:World) (hr:Rd bQ 0 w.heap.size t.A t.parts w) (hpl:t.parts.length<=1000000):
  dd aa Fh [.agg #[J ck,J nx,J wt,.slice At n ct],t.v] w fun v w2=>v=.bool (fB ck nx t)/\Below w.heap.size w w2:=by
 refine aD DN Z Z ?_
 have H:=Hp.startRd hr
 refine W<|Zr<|fQ H Z Z fun w1 b2 H=>fQ H Z Z fun w2 b3 H=>G (Wb Z)<|U<|W<|W<|Zr<|G (Zf oe Z)<|G (Zd aY H 0 Z Z Z)<|cd ru (Dj t.name _) Z Z ?_
 rintro _ w3 ⟨rfl,hb⟩;replace H:=H.later hb;clear hb
 refine G (dK Z)<|G (Yb Z) ?_
 refine mj 11 Z (fun h11=> ?_) (fun h11=> ?_)
 refine ZN<|ZN<|ZN<|G (Kt Z Z)<|G (Yb Z)<|ZN<|ZN<|ZN<|ZN<|ZN<|G (Kt Z Z)<|G (Yb Z)<|ZN<|ZN<|ZN<|ZN<|G (Kt Z Z)<|G (Yb Z)<|ZN<|ZN<|ZN<|G (Kt Z Z)<|G (Yb Z)<|ZN<|ZN<|ZN<|G (Kt Z Z)<|G (Yb Z)<|ZN<|ZN<|ZN<|G (Kt Z Z)<|G (Yb Z)<|ZN<|ZN<|ZN<|ZN<|ZN<|G (Kt Z Z)<|G (Yb Z) ?_
 refine ZN<|ZN<|ZN<|ZN<|ZN<|ZN<|ZN<|ZN<|ZN<|ZN<|ZN<|ZN<|ZN<|G (Kt Z Z)<|U<|ZT Z<|W<|Zr<|G (Wb Z)<|U<|Zt ?_
 have hv:fB ck nx t=false:=by
  cases hh:fB ck nx t
  rfl
  obtain⟨a1,a2,a3,a4,a5,a6,a7,a8,a9,a10,a11⟩:=cz.1 hh
  exfalso
  first|omega|simp_all
 exact cD (v:=.bool false) Z Z ⟨by rw[hv],H.below⟩
 refine ZG<|G (Zf kU Z)<|ZG<|G (Zd aj H 0 Z Z Z)<|ZG ?_
 refine cT (cG Z Z) Z Z Z (fun h14=> ?_) (fun h14=> ?_)
 refine G (N Z Z)<|G (Yb Z)<|ZN<|ZN<|ZN<|ZN<|ZN<|G (Kt Z Z)<|G (Yb Z)<|ZN<|ZN<|ZN<|ZN<|G (Kt Z Z)<|G (Yb Z)<|ZN<|ZN<|ZN<|G (Kt Z Z)<|G (Yb Z)<|ZN<|ZN<|ZN<|G (Kt Z Z)<|G (Yb Z)<|ZN<|ZN<|ZN<|G (Kt Z Z)<|G (Yb Z)<|ZN<|ZN<|ZN<|ZN<|ZN<|G (Kt Z Z)<|G (Yb Z)<|ZN<|ZN<|ZN ?_
 refine ZN<|ZN<|ZN<|ZN<|ZN<|ZN<|ZN<|ZN<|ZN<|ZN<|G (Kt Z Z)<|U<|ZT Z<|W<|Zr<|G (Wb Z)<|U<|Zt ?_
 have hv:fB ck nx t=false:=by
  cases hh:fB ck nx t
  rfl
  obtain⟨a1,a2,a3,a4,a5,a6,a7,a8,a9,a10,a11⟩:=cz.1 hh
  exfalso
  first|omega|simp_all
 exact cD (v:=.bool false) Z Z ⟨by rw[hv],H.below⟩
 refine G (N Z Z)<|G (Yb Z)<|ZG<|G (Zf kU Z)<|ZG<|G (Zd aj H 0 Z Z Z)<|ZG<|G (Zf ka Z)<|ZG<|G (Zd aj H 1 Z Z Z)<|ZG ?_
 refine cT (j4 Z Z) Z Z Z (fun h21=> ?_) (fun h21=> ?_)
 refine G (N Z Z)<|G (Yb Z)<|ZN<|ZN<|ZN<|ZN<|G (Kt Z Z)<|G (Yb Z)<|ZN<|ZN<|ZN<|G (Kt Z Z)<|G (Yb Z)<|ZN<|ZN<|ZN<|G (Kt Z Z)<|G (Yb Z)<|ZN<|ZN<|ZN<|G (Kt Z Z)<|G (Yb Z)<|ZN<|ZN<|ZN<|ZN<|ZN<|G (Kt Z Z)<|G (Yb Z)<|ZN<|ZN<|ZN<|ZN<|ZN<|ZN<|ZN<|ZN<|ZN<|ZN ?_
 refine ZN<|ZN<|ZN<|G (Kt Z Z)<|U<|ZT Z<|W<|Zr<|G (Wb Z)<|U<|Zt ?_
 have hv:fB ck nx t=false:=by
  cases hh:fB ck nx t
  rfl
  obtain⟨a1,a2,a3,a4,a5,a6,a7,a8,a9,a10,a11⟩:=cz.1 hh
  exfalso
  first|omega|simp_all
 exact cD (v:=.bool false) Z Z ⟨by rw[hv],H.below⟩
 refine G (N Z Z)<|G (Yb Z)<|ZG<|G (Zf gk Z)<|ZG<|G (Zd aj H 0 Z Z Z)<|ZG<|cd sV (AI t.ver _) Z Z ?_
 rintro _ w4 ⟨rfl,hb⟩;replace H:=H.later hb;clear hb
 refine ZG<|G (dK Z)<|G (N Z Z)<|G (Yb Z) ?_
 refine mj 29 Z (fun h29=> ?_) (fun h29=> ?_)
 refine ZN<|ZN<|ZN<|G (Kt Z Z)<|G (Yb Z)<|ZN<|ZN<|ZN<|G (Kt Z Z)<|G (Yb Z)<|ZN<|ZN<|ZN<|G (Kt Z Z)<|G (Yb Z)<|ZN<|ZN<|ZN<|ZN<|ZN<|G (Kt Z Z)<|G (Yb Z)<|ZN<|ZN<|ZN<|ZN<|ZN<|ZN<|ZN<|ZN<|ZN<|ZN<|ZN<|ZN<|ZN<|G (Kt Z Z)<|U<|ZT Z<|W<|Zr ?_
 refine G (Wb Z)<|U<|Zt ?_
 have hv:fB ck nx t=false:=by
  cases hh:fB ck nx t
  rfl
  obtain⟨a1,a2,a3,a4,a5,a6,a7,a8,a9,a10,a11⟩:=cz.1 hh
  exfalso
  first|omega|simp_all
 exact cD (v:=.bool false) Z Z ⟨by rw[hv],H.below⟩
 refine ZG<|G (Zf cQ Z)<|ZG<|G (Zd aj H 0 Z Z Z)<|ZG ?_
 refine cT (cG Z Z) Z Z Z (fun h32=> ?_) (fun h32=> ?_)
 refine G (N Z Z)<|G (Yb Z)<|ZN<|ZN<|ZN<|G (Kt Z Z)<|G (Yb Z)<|ZN<|ZN<|ZN<|G (Kt Z Z)<|G (Yb Z)<|ZN<|ZN<|ZN<|ZN<|ZN<|G (Kt Z Z)<|G (Yb Z)<|ZN<|ZN<|ZN<|ZN<|ZN<|ZN<|ZN<|ZN<|ZN<|ZN<|ZN<|ZN<|ZN<|G (Kt Z Z)<|U<|ZT Z<|W<|Zr<|G (Wb Z)<|U<|Zt ?_
 have hv:fB ck nx t=false:=by
  cases hh:fB ck nx t
  rfl
  obtain⟨a1,a2,a3,a4,a5,a6,a7,a8,a9,a10,a11⟩:=cz.1 hh
  exfalso
  first|omega|simp_all
 exact cD (v:=.bool false) Z Z ⟨by rw[hv],H.below⟩
 refine G (N Z Z)<|G (Yb Z)<|ZG<|G (Zf cQ Z)<|ZG<|G (Zd aj H 0 Z Z Z)<|ZG ?_
 refine cT (j0 Z Z) Z Z Z (fun h37=> ?_) (fun h37=> ?_)
 refine G (N Z Z)<|G (Yb Z)<|ZN<|ZN<|ZN<|G (Kt Z Z)<|G (Yb Z)<|ZN<|ZN<|ZN<|ZN<|ZN<|G (Kt Z Z)<|G (Yb Z)<|ZN<|ZN<|ZN<|ZN<|ZN<|ZN<|ZN<|ZN<|ZN<|ZN<|ZN<|ZN<|ZN<|G (Kt Z Z)<|U<|ZT Z<|W<|Zr<|G (Wb Z)<|U<|Zt ?_
 have hv:fB ck nx t=false:=by
  cases hh:fB ck nx t
  rfl
  obtain⟨a1,a2,a3,a4,a5,a6,a7,a8,a9,a10,a11⟩:=cz.1 hh
  exfalso
  first|omega|simp_all
 exact cD (v:=.bool false) Z Z ⟨by rw[hv],H.below⟩
 refine G (N Z Z)<|G (Yb Z)<|ZG<|G (Zf tR Z)<|ZG<|G (Zd aj H 0 Z Z Z)<|ZG ?_
 refine cT (cG Z Z) Z Z Z (fun h42=> ?_) (fun h42=> ?_)
 refine G (N Z Z)<|G (Yb Z)<|ZN<|ZN<|ZN<|ZN<|ZN<|G (Kt Z Z)<|G (Yb Z)<|ZN<|ZN<|ZN<|ZN<|ZN<|ZN<|ZN<|ZN<|ZN<|ZN<|ZN<|ZN<|ZN<|G (Kt Z Z)<|U<|ZT Z<|W<|Zr<|G (Wb Z)<|U<|Zt ?_
 have hv:fB ck nx t=false:=by
  cases hh:fB ck nx t
  rfl
  obtain⟨a1,a2,a3,a4,a5,a6,a7,a8,a9,a10,a11⟩:=cz.1 hh
  exfalso
  first|omega|simp_all
 exact cD (v:=.bool false) Z Z ⟨by rw[hv],H.below⟩
 refine G (N Z Z)<|G (Yb Z)<|ZG<|G (Zf tR Z)<|ZG<|G (Zd aj H 0 Z Z Z)<|ZG<|G (Zf kb Z)<|ZG<|G (Zd aj H 1 Z Z Z)<|ZG ?_
 refine cT (j0 Z Z) Z Z Z (fun h49=> ?_) (fun h49=> ?_)
 refine G (N Z Z)<|G (Yb Z)<|ZN<|ZN<|ZN<|ZN<|ZN<|ZN<|ZN<|ZN<|ZN<|ZN<|ZN<|ZN<|ZN<|G (Kt Z Z)<|U<|ZT Z<|W<|Zr<|G (Wb Z)<|U<|Zt ?_
 have hv:fB ck nx t=false:=by
  cases hh:fB ck nx t
  rfl
  obtain⟨a1,a2,a3,a4,a5,a6,a7,a8,a9,a10,a11⟩:=cz.1 hh
  exfalso
  first|omega|simp_all
 exact cD (v:=.bool false) Z Z ⟨by rw[hv],H.below⟩
 refine G (N Z Z)<|G (Yb Z)<|ZG<|G (Zf jb Z)<|ZG<|G (Zd aj H 0 Z Z Z)<|ZG ?_
 refine qm (iL Z Z) Z Z Z (fun h54=> ?_) (fun h54=> ?_)
 refine ZG<|G (Yb Z)<|ZG<|G (Zf jb Z)<|ZG<|G (Zd aj H 0 Z Z Z)<|ZG ?_
 refine qm (iL Z Z) Z Z Z (fun h58=> ?_) (fun h58=> ?_)
 refine ZG<|G (Kt Z Z)<|ZG<|G (Yb Z)<|ZG<|G (Zf jb Z)<|ZG<|G (Zd aj H 0 Z Z Z)<|ZG ?_
 refine qm (iL Z Z) Z Z Z (fun h63=> ?_) (fun h63=> ?_)
 refine ZG<|G (Kt Z Z)<|G (N Z Z)<|U<|ZT Z<|W<|Zr<|G (Wb Z)<|U<|Zt ?_
 have hv:fB ck nx t=false:=by
  cases hh:fB ck nx t
  rfl
  obtain⟨a1,a2,a3,a4,a5,a6,a7,a8,a9,a10,a11⟩:=cz.1 hh
  exfalso
  first|omega|simp_all
 exact cD (v:=.bool false) Z Z ⟨by rw[hv],H.below⟩
 refine ZG<|G (Kt Z Z)<|G (N Z Z)<|U<|ZF Z<|Zk<|W<|W<|Zr<|G (Zf dv Z)<|G (Zd cn H 0 Z Z Z)<|G (bn eB Z)<|G (Yi Z)<|U<|Zb ?_
 refine ce (τ:=Nat×Int) [4,5,6,69,70,71,72,73,74,75,76,77,78,79,80,81,82,83,84,85,86,87,88,89,90,91,92,93,94] (fun(k,_)=>[(69,J (k:Nat))]) (fun(k,last) w'=>k<=t.parts.length/\cR (-1) t.parts=cR last (t.parts.drop k)/\(k=0->last= -1)/\(∀ j,k=j+1->t.parts[j]? =some last)/\ -1<=last/\Hp w w' [(b3,.cells t.c.toArray dB (0,0))] [dM bQ 0 w.heap.size t.A t.parts]) (fun(k,_)=>t.parts.length-k) (0,-1) ⟨by omega,by rw[lU],fun _=>rfl,fun j hj=>by omega,by omega,H.forget (oW _ (.cons _ (ap _))) (fun _ h=>h)⟩ (dF Z) ?_
 rintro⟨k,last⟩ ρ1 w5 ⟨hk,hpo,hl0,hl1,hl2,H⟩
 show CW _ _ _ _ (dC (gC _ _ ρ1) [(69,J (k:Nat))]) w5
 refine W<|Zr ?_
 refine cT (cG Z Z) Z Z Z (fun h70=> ?_) (fun h70=> ?_)
 refine U<|W<|ZT Z<|Zk<|W<|Zb<|W<|Zr<|G (Yi Z)<|qn H 0 Z aZ Z Z I I Z fun b6 o6 x6 e6=> ?_
 have hxk:=e6.at_
 have hdrop:=cM hxk
 refine G (aT aj Z (e6.cl 0 _ Z))<|G (Wi Z)<|G (Wi Z)<|U<|W<|Zr<|G (Yi Z) ?_
 refine cT (cG Z Z) Z Z Z (fun h75=> ?_) (fun h75=> ?_)
 refine G (Yb Z)<|ZN<|ZN<|G (Kt Z Z)<|G (Yb Z)<|ZN<|ZN<|ZN<|ZN<|ZN<|ZN<|ZN<|ZN<|ZN<|ZN<|ZN<|ZN<|G (Kt Z Z)<|U<|ZT Z<|W<|Zr<|G (Wb Z)<|U<|Zt ?_
 have hv:fB ck nx t=false:=by
  cases hh:fB ck nx t
  rfl
  obtain⟨a1,a2,a3,a4,a5,a6,a7,a8,a9,a10,a11⟩:=cz.1 hh
  exfalso
  rw[hpo,hdrop]at a10
  simp only[cR,aQ,decide_eq_true_eq]at a10
  obtain⟨⟨q1,q2⟩,-⟩:=a10
  omega
 exact cD (v:=.bool false) Z Z ⟨by rw[hv],H.below⟩
 refine G (Yb Z)<|ZG<|G (Yi Z)<|ZG ?_
 refine cT (j4 Z Z) Z Z Z (fun h78=> ?_) (fun h78=> ?_)
 refine G (N Z Z)<|G (Yb Z)<|ZN<|ZN<|ZN<|ZN<|ZN<|ZN<|ZN<|ZN<|ZN<|ZN<|ZN<|ZN<|G (Kt Z Z)<|U<|ZT Z<|W<|Zr<|G (Wb Z)<|U<|Zt ?_
 have hv:fB ck nx t=false:=by
  cases hh:fB ck nx t
  rfl
  obtain⟨a1,a2,a3,a4,a5,a6,a7,a8,a9,a10,a11⟩:=cz.1 hh
  exfalso
  rw[hpo,hdrop]at a10
  simp only[cR,aQ,decide_eq_true_eq]at a10
  obtain⟨⟨q1,q2⟩,-⟩:=a10
  omega
 exact cD (v:=.bool false) Z Z ⟨by rw[hv],H.below⟩
 refine G (N Z Z)<|G (Yb Z)<|ZG<|G (Yi Z)<|ZG ?_
 refine cT (j0 Z Z) Z Z Z (fun h82=> ?_) (fun h82=> ?_)
 refine ZG<|G (Yb Z)<|ZG<|G (Zf dv Z)<|ZG<|G (Zd cn H 0 Z Z Z)<|ZG<|G (Yi Z)<|ZG<|G (mR Z Z I I) ?_
 rw[show(k:Int)-1=((k-1:Nat):Int) by omega]
 refine ZG<|qn H 0 Z aZ Z Z I I Z fun b7 o7 x7 e7=> ?_
 have hprev:=e7.at_
 refine ZG<|G (aT aj Z (e7.cl 0 _ Z))<|ZG<|G (Yi Z)<|ZG ?_
 refine cT (j4 Z Z) Z Z Z (fun h91=> ?_) (fun h91=> ?_)
 refine ZG<|G (Kt Z Z)<|G (N Z Z)<|U<|ZT Z<|W<|Zr<|G (Wb Z)<|U<|Zt ?_
 have hv:fB ck nx t=false:=by
  cases hh:fB ck nx t
  rfl
  obtain⟨a1,a2,a3,a4,a5,a6,a7,a8,a9,a10,a11⟩:=cz.1 hh
  exfalso
  rw[hpo,hdrop]at a10
  simp only[cR,aQ,decide_eq_true_eq]at a10
  obtain⟨⟨q1,q2⟩,-⟩:=a10
  obtain⟨j,rfl⟩: ∃ j,k=j+1:=⟨k-1,by omega⟩;have:=hl1 j Z;rw[show j+1-1=j by omega,this]at hprev;injection hprev with hprev;omega
 exact cD (v:=.bool false) Z Z ⟨by rw[hv],H.below⟩
 refine ZG<|G (Kt Z Z)<|G (N Z Z)<|U<|ZF Z<|Zk<|Zr<|G (br Z Z I I)<|G (Yi Z)<|U ?_
 have hlt:last<x6:=by
  obtain⟨j,rfl⟩: ∃ j,k=j+1:=⟨k-1,by omega⟩
  have h1:=hl1 j Z
  rw[show j+1-1=j by omega,h1]at hprev
  injection hprev with hprev
  omega
 have h4:x6<4:=by omega
 refine⟨(k+1,x6),⟨by omega,?_,fun h=>by omega,fun j hj=> ?_,by omega,H⟩,dF Z,Qg,by show t.parts.length- (k+1)<t.parts.length-k;omega⟩
 rw[hpo,hdrop];simp only[cR,decide_eq_true hlt,decide_eq_true h4,gR]
 obtain rfl:j=k:=by omega
 exact hxk
 refine ZG<|G (Yb Z)<|ZN<|ZN<|ZN<|ZN<|ZN<|ZN<|ZN<|ZN<|ZG<|G (N Z Z)<|G (N Z Z)<|U<|ZF Z<|Zk<|Zr<|G (br Z Z I I)<|G (Yi Z)<|U ?_
 have hlt:last<x6:=by
  have:=hl0 I
  omega
 have h4:x6<4:=by omega
 refine⟨(k+1,x6),⟨by omega,?_,fun h=>by omega,fun j hj=> ?_,by omega,H⟩,dF Z,Qg,by show t.parts.length- (k+1)<t.parts.length-k;omega⟩
 rw[hpo,hdrop];simp only[cR,decide_eq_true hlt,decide_eq_true h4,gR]
 obtain rfl:j=k:=by omega
 exact hxk
 have hke:k=t.parts.length:=by omega
 have hall:cR (-1) t.parts=true:=by rw[hpo,hke,fm];rfl
 refine U<|W<|ZF Z<|Zx<|W<|Zr<|G (Zf cQ Z)<|G (Zd aj H 0 Z Z Z)<|G (bl Z Z)<|G (Zf dv Z)<|G (Zd cn H 0 Z Z Z)<|G (bn eB Z)<|G (bl Z Z)<|G (D6 wd Z Z)<|G (Wb Z)<|U<|Zt ?_
 have hv:fB ck nx t=(decide (t.state=1)==decide ((t.parts.length:Int)=0)):=by
  rw[xh,cz,beq_iff_eq,decide_eq_decide]
  constructor
  rintro⟨-,-,-,-,-,-,-,-,-,-,h⟩
  exact h.trans ⟨fun x=>by omega,fun x=>by omega⟩
  intro h
  exact⟨by simpa using h11,by omega,by omega,by simpa using h29,by omega,by omega,by omega,by omega,by omega,hall,h.trans ⟨fun x=>by omega,fun x=>by omega⟩⟩
 exact cD (v:=.bool (decide (t.state=1)==decide ((t.parts.length:Int)=0))) Z Z ⟨by rw[hv],H.below⟩
 refine ZG<|G (Kt Z Z)<|ZG<|G (Yb Z)<|ZN<|ZN<|ZN<|ZG<|G (N Z Z)<|G (N Z Z)<|U<|ZF Z<|Zk<|W<|W<|Zr<|G (Zf dv Z)<|G (Zd cn H 0 Z Z Z)<|G (bn eB Z)<|G (Yi Z)<|U<|Zb ?_
 refine ce (τ:=Nat×Int) [4,5,6,69,70,71,72,73,74,75,76,77,78,79,80,81,82,83,84,85,86,87,88,89,90,91,92,93,94] (fun(k,_)=>[(69,J (k:Nat))]) (fun(k,last) w'=>k<=t.parts.length/\cR (-1) t.parts=cR last (t.parts.drop k)/\(k=0->last= -1)/\(∀ j,k=j+1->t.parts[j]? =some last)/\ -1<=last/\Hp w w' [(b3,.cells t.c.toArray dB (0,0))] [dM bQ 0 w.heap.size t.A t.parts]) (fun(k,_)=>t.parts.length-k) (0,-1) ⟨by omega,by rw[lU],fun _=>rfl,fun j hj=>by omega,by omega,H.forget (oW _ (.cons _ (ap _))) (fun _ h=>h)⟩ (dF Z) ?_
 rintro⟨k,last⟩ ρ1 w8 ⟨hk,hpo,hl0,hl1,hl2,H⟩
 show CW _ _ _ _ (dC (gC _ _ ρ1) [(69,J (k:Nat))]) w8
 refine W<|Zr ?_
 refine cT (cG Z Z) Z Z Z (fun h70=> ?_) (fun h70=> ?_)
 refine U<|W<|ZT Z<|Zk<|W<|Zb<|W<|Zr<|G (Yi Z)<|qn H 0 Z aZ Z Z I I Z fun b9 o9 x9 e9=> ?_
 have hxk:=e9.at_
 have hdrop:=cM hxk
 refine G (aT aj Z (e9.cl 0 _ Z))<|G (Wi Z)<|G (Wi Z)<|U<|W<|Zr<|G (Yi Z) ?_
 refine cT (cG Z Z) Z Z Z (fun h75=> ?_) (fun h75=> ?_)
 refine G (Yb Z)<|ZN<|ZN<|G (Kt Z Z)<|G (Yb Z)<|ZN<|ZN<|ZN<|ZN<|ZN<|ZN<|ZN<|ZN<|ZN<|ZN<|ZN<|ZN<|G (Kt Z Z)<|U<|ZT Z<|W<|Zr<|G (Wb Z)<|U<|Zt ?_
 have hv:fB ck nx t=false:=by
  cases hh:fB ck nx t
  rfl
  obtain⟨a1,a2,a3,a4,a5,a6,a7,a8,a9,a10,a11⟩:=cz.1 hh
  exfalso
  rw[hpo,hdrop]at a10
  simp only[cR,aQ,decide_eq_true_eq]at a10
  obtain⟨⟨q1,q2⟩,-⟩:=a10
  omega
 exact cD (v:=.bool false) Z Z ⟨by rw[hv],H.below⟩
 refine G (Yb Z)<|ZG<|G (Yi Z)<|ZG ?_
 refine cT (j4 Z Z) Z Z Z (fun h78=> ?_) (fun h78=> ?_)
 refine G (N Z Z)<|G (Yb Z)<|ZN<|ZN<|ZN<|ZN<|ZN<|ZN<|ZN<|ZN<|ZN<|ZN<|ZN<|ZN<|G (Kt Z Z)<|U<|ZT Z<|W<|Zr<|G (Wb Z)<|U<|Zt ?_
 have hv:fB ck nx t=false:=by
  cases hh:fB ck nx t
  rfl
  obtain⟨a1,a2,a3,a4,a5,a6,a7,a8,a9,a10,a11⟩:=cz.1 hh
  exfalso
  rw[hpo,hdrop]at a10
  simp only[cR,aQ,decide_eq_true_eq]at a10
  obtain⟨⟨q1,q2⟩,-⟩:=a10
  omega
 exact cD (v:=.bool false) Z Z ⟨by rw[hv],H.below⟩
 refine G (N Z Z)<|G (Yb Z)<|ZG<|G (Yi Z)<|ZG ?_
 refine cT (j0 Z Z) Z Z Z (fun h82=> ?_) (fun h82=> ?_)
 refine ZG<|G (Yb Z)<|ZG<|G (Zf dv Z)<|ZG<|G (Zd cn H 0 Z Z Z)<|ZG<|G (Yi Z)<|ZG<|G (mR Z Z I I) ?_
 rw[show(k:Int)-1=((k-1:Nat):Int) by omega]
 refine ZG<|qn H 0 Z aZ Z Z I I Z fun b10 o10 x10 e10=> ?_
 have hprev:=e10.at_
 refine ZG<|G (aT aj Z (e10.cl 0 _ Z))<|ZG<|G (Yi Z)<|ZG ?_
 refine cT (j4 Z Z) Z Z Z (fun h91=> ?_) (fun h91=> ?_)
 refine ZG<|G (Kt Z Z)<|G (N Z Z)<|U<|ZT Z<|W<|Zr<|G (Wb Z)<|U<|Zt ?_
 have hv:fB ck nx t=false:=by
  cases hh:fB ck nx t
  rfl
  obtain⟨a1,a2,a3,a4,a5,a6,a7,a8,a9,a10,a11⟩:=cz.1 hh
  exfalso
  rw[hpo,hdrop]at a10
  simp only[cR,aQ,decide_eq_true_eq]at a10
  obtain⟨⟨q1,q2⟩,-⟩:=a10
  obtain⟨j,rfl⟩: ∃ j,k=j+1:=⟨k-1,by omega⟩;have:=hl1 j Z;rw[show j+1-1=j by omega,this]at hprev;injection hprev with hprev;omega
 exact cD (v:=.bool false) Z Z ⟨by rw[hv],H.below⟩
 refine ZG<|G (Kt Z Z)<|G (N Z Z)<|U<|ZF Z<|Zk<|Zr<|G (br Z Z I I)<|G (Yi Z)<|U ?_
 have hlt:last<x9:=by
  obtain⟨j,rfl⟩: ∃ j,k=j+1:=⟨k-1,by omega⟩
  have h1:=hl1 j Z
  rw[show j+1-1=j by omega,h1]at hprev
  injection hprev with hprev
  omega
 have h4:x9<4:=by omega
 refine⟨(k+1,x9),⟨by omega,?_,fun h=>by omega,fun j hj=> ?_,by omega,H⟩,dF Z,Qg,by show t.parts.length- (k+1)<t.parts.length-k;omega⟩
 rw[hpo,hdrop];simp only[cR,decide_eq_true hlt,decide_eq_true h4,gR]
 obtain rfl:j=k:=by omega
 exact hxk
 refine ZG<|G (Yb Z)<|ZN<|ZN<|ZN<|ZN<|ZN<|ZN<|ZN<|ZN<|ZG<|G (N Z Z)<|G (N Z Z)<|U<|ZF Z<|Zk<|Zr<|G (br Z Z I I)<|G (Yi Z)<|U ?_
 have hlt:last<x9:=by
  have:=hl0 I
  omega
 have h4:x9<4:=by omega
 refine⟨(k+1,x9),⟨by omega,?_,fun h=>by omega,fun j hj=> ?_,by omega,H⟩,dF Z,Qg,by show t.parts.length- (k+1)<t.parts.length-k;omega⟩
 rw[hpo,hdrop];simp only[cR,decide_eq_true hlt,decide_eq_true h4,gR]
 obtain rfl:j=k:=by omega
 exact hxk
 have hke:k=t.parts.length:=by omega
 have hall:cR (-1) t.parts=true:=by rw[hpo,hke,fm];rfl
 refine U<|W<|ZF Z<|Zx<|W<|Zr<|G (Zf cQ Z)<|G (Zd aj H 0 Z Z Z)<|G (bl Z Z)<|G (Zf dv Z)<|G (Zd cn H 0 Z Z Z)<|G (bn eB Z)<|G (bl Z Z)<|G (D6 wd Z Z)<|G (Wb Z)<|U<|Zt ?_
 have hv:fB ck nx t=(decide (t.state=1)==decide ((t.parts.length:Int)=0)):=by
  rw[xh,cz,beq_iff_eq,decide_eq_decide]
  constructor
  rintro⟨-,-,-,-,-,-,-,-,-,-,h⟩
  exact h.trans ⟨fun x=>by omega,fun x=>by omega⟩
  intro h
  exact⟨by simpa using h11,by omega,by omega,by simpa using h29,by omega,by omega,by omega,by omega,by omega,hall,h.trans ⟨fun x=>by omega,fun x=>by omega⟩⟩
 exact cD (v:=.bool (decide (t.state=1)==decide ((t.parts.length:Int)=0))) Z Z ⟨by rw[hv],H.below⟩
 refine ZG<|G (Yb Z)<|ZN<|ZN<|ZN<|ZG<|G (N Z Z)<|ZG<|G (Yb Z)<|ZN<|ZN<|ZN<|ZG<|G (N Z Z)<|G (N Z Z)<|U<|ZF Z<|Zk<|W<|W<|Zr<|G (Zf dv Z)<|G (Zd cn H 0 Z Z Z)<|G (bn eB Z)<|G (Yi Z)<|U<|Zb ?_
 refine ce (τ:=Nat×Int) [4,5,6,69,70,71,72,73,74,75,76,77,78,79,80,81,82,83,84,85,86,87,88,89,90,91,92,93,94] (fun(k,_)=>[(69,J (k:Nat))]) (fun(k,last) w'=>k<=t.parts.length/\cR (-1) t.parts=cR last (t.parts.drop k)/\(k=0->last= -1)/\(∀ j,k=j+1->t.parts[j]? =some last)/\ -1<=last/\Hp w w' [(b3,.cells t.c.toArray dB (0,0))] [dM bQ 0 w.heap.size t.A t.parts]) (fun(k,_)=>t.parts.length-k) (0,-1) ⟨by omega,by rw[lU],fun _=>rfl,fun j hj=>by omega,by omega,H.forget (oW _ (.cons _ (ap _))) (fun _ h=>h)⟩ (dF Z) ?_
 rintro⟨k,last⟩ ρ1 w11 ⟨hk,hpo,hl0,hl1,hl2,H⟩
 show CW _ _ _ _ (dC (gC _ _ ρ1) [(69,J (k:Nat))]) w11
 refine W<|Zr ?_
 refine cT (cG Z Z) Z Z Z (fun h70=> ?_) (fun h70=> ?_)
 refine U<|W<|ZT Z<|Zk<|W<|Zb<|W<|Zr<|G (Yi Z)<|qn H 0 Z aZ Z Z I I Z fun b12 o12 x12 e12=> ?_
 have hxk:=e12.at_
 have hdrop:=cM hxk
 refine G (aT aj Z (e12.cl 0 _ Z))<|G (Wi Z)<|G (Wi Z)<|U<|W<|Zr<|G (Yi Z) ?_
 refine cT (cG Z Z) Z Z Z (fun h75=> ?_) (fun h75=> ?_)
 refine G (Yb Z)<|ZN<|ZN<|G (Kt Z Z)<|G (Yb Z)<|ZN<|ZN<|ZN<|ZN<|ZN<|ZN<|ZN<|ZN<|ZN<|ZN<|ZN<|ZN<|G (Kt Z Z)<|U<|ZT Z<|W<|Zr<|G (Wb Z)<|U<|Zt ?_
 have hv:fB ck nx t=false:=by
  cases hh:fB ck nx t
  rfl
  obtain⟨a1,a2,a3,a4,a5,a6,a7,a8,a9,a10,a11⟩:=cz.1 hh
  exfalso
  rw[hpo,hdrop]at a10
  simp only[cR,aQ,decide_eq_true_eq]at a10
  obtain⟨⟨q1,q2⟩,-⟩:=a10
  omega
 exact cD (v:=.bool false) Z Z ⟨by rw[hv],H.below⟩
 refine G (Yb Z)<|ZG<|G (Yi Z)<|ZG ?_
 refine cT (j4 Z Z) Z Z Z (fun h78=> ?_) (fun h78=> ?_)
 refine G (N Z Z)<|G (Yb Z)<|ZN<|ZN<|ZN<|ZN<|ZN<|ZN<|ZN<|ZN<|ZN<|ZN<|ZN<|ZN<|G (Kt Z Z)<|U<|ZT Z<|W<|Zr<|G (Wb Z)<|U<|Zt ?_
 have hv:fB ck nx t=false:=by
  cases hh:fB ck nx t
  rfl
  obtain⟨a1,a2,a3,a4,a5,a6,a7,a8,a9,a10,a11⟩:=cz.1 hh
  exfalso
  rw[hpo,hdrop]at a10
  simp only[cR,aQ,decide_eq_true_eq]at a10
  obtain⟨⟨q1,q2⟩,-⟩:=a10
  omega
 exact cD (v:=.bool false) Z Z ⟨by rw[hv],H.below⟩
 refine G (N Z Z)<|G (Yb Z)<|ZG<|G (Yi Z)<|ZG ?_
 refine cT (j0 Z Z) Z Z Z (fun h82=> ?_) (fun h82=> ?_)
 refine ZG<|G (Yb Z)<|ZG<|G (Zf dv Z)<|ZG<|G (Zd cn H 0 Z Z Z)<|ZG<|G (Yi Z)<|ZG<|G (mR Z Z I I) ?_
 rw[show(k:Int)-1=((k-1:Nat):Int) by omega]
 refine ZG<|qn H 0 Z aZ Z Z I I Z fun b13 o13 x13 e13=> ?_
 have hprev:=e13.at_
 refine ZG<|G (aT aj Z (e13.cl 0 _ Z))<|ZG<|G (Yi Z)<|ZG ?_
 refine cT (j4 Z Z) Z Z Z (fun h91=> ?_) (fun h91=> ?_)
 refine ZG<|G (Kt Z Z)<|G (N Z Z)<|U<|ZT Z<|W<|Zr<|G (Wb Z)<|U<|Zt ?_
 have hv:fB ck nx t=false:=by
  cases hh:fB ck nx t
  rfl
  obtain⟨a1,a2,a3,a4,a5,a6,a7,a8,a9,a10,a11⟩:=cz.1 hh
  exfalso
  rw[hpo,hdrop]at a10
  simp only[cR,aQ,decide_eq_true_eq]at a10
  obtain⟨⟨q1,q2⟩,-⟩:=a10
  obtain⟨j,rfl⟩: ∃ j,k=j+1:=⟨k-1,by omega⟩;have:=hl1 j Z;rw[show j+1-1=j by omega,this]at hprev;injection hprev with hprev;omega
 exact cD (v:=.bool false) Z Z ⟨by rw[hv],H.below⟩
 refine ZG<|G (Kt Z Z)<|G (N Z Z)<|U<|ZF Z<|Zk<|Zr<|G (br Z Z I I)<|G (Yi Z)<|U ?_
 have hlt:last<x12:=by
  obtain⟨j,rfl⟩: ∃ j,k=j+1:=⟨k-1,by omega⟩
  have h1:=hl1 j Z
  rw[show j+1-1=j by omega,h1]at hprev
  injection hprev with hprev
  omega
 have h4:x12<4:=by omega
 refine⟨(k+1,x12),⟨by omega,?_,fun h=>by omega,fun j hj=> ?_,by omega,H⟩,dF Z,Qg,by show t.parts.length- (k+1)<t.parts.length-k;omega⟩
 rw[hpo,hdrop];simp only[cR,decide_eq_true hlt,decide_eq_true h4,gR]
 obtain rfl:j=k:=by omega
 exact hxk
 refine ZG<|G (Yb Z)<|ZN<|ZN<|ZN<|ZN<|ZN<|ZN<|ZN<|ZN<|ZG<|G (N Z Z)<|G (N Z Z)<|U<|ZF Z<|Zk<|Zr<|G (br Z Z I I)<|G (Yi Z)<|U ?_
 have hlt:last<x12:=by
  have:=hl0 I
  omega
 have h4:x12<4:=by omega
 refine⟨(k+1,x12),⟨by omega,?_,fun h=>by omega,fun j hj=> ?_,by omega,H⟩,dF Z,Qg,by show t.parts.length- (k+1)<t.parts.length-k;omega⟩
 rw[hpo,hdrop];simp only[cR,decide_eq_true hlt,decide_eq_true h4,gR]
 obtain rfl:j=k:=by omega
 exact hxk
 have hke:k=t.parts.length:=by omega
 have hall:cR (-1) t.parts=true:=by rw[hpo,hke,fm];rfl
 refine U<|W<|ZF Z<|Zx<|W<|Zr<|G (Zf cQ Z)<|G (Zd aj H 0 Z Z Z)<|G (bl Z Z)<|G (Zf dv Z)<|G (Zd cn H 0 Z Z Z)<|G (bn eB Z)<|G (bl Z Z)<|G (D6 wd Z Z)<|G (Wb Z)<|U<|Zt ?_
 have hv:fB ck nx t=(decide (t.state=1)==decide ((t.parts.length:Int)=0)):=by
  rw[xh,cz,beq_iff_eq,decide_eq_decide]
  constructor
  rintro⟨-,-,-,-,-,-,-,-,-,-,h⟩
  exact h.trans ⟨fun x=>by omega,fun x=>by omega⟩
  intro h
  exact⟨by simpa using h11,by omega,by omega,by simpa using h29,by omega,by omega,by omega,by omega,by omega,hall,h.trans ⟨fun x=>by omega,fun x=>by omega⟩⟩
 exact cD (v:=.bool (decide (t.state=1)==decide ((t.parts.length:Int)=0))) Z Z ⟨by rw[hv],H.below⟩
/-- a coordinator, and where its rows lie -/
structure Co where
 clock:Int
 next:Int
 wait:Int
 txs:List Tx
 A:Option Addr
 cap:Nat
def Co.c (c:Co):List Value:=[J c.clock,J c.next,J c.wait,.slice c.A c.txs.length c.cap]
abbrev Co.v (c:Co):Value:=.agg c.c.toArray
def iy (lo hi:Nat) (txs:List Tx):cr:=⟨lo,hi,fun w=> ∀ t∈txs,Rd bQ lo hi t.A t.parts w,fun _ _ hk h t ht=>(h t ht).st hk⟩
theorem fp {w0 w:World} {L:List (Nat×Obj)} {F:List cr} {lo hi:Nat} {txs:List Tx} (H:Hp w0 w L F) (i:Nat) (hF:F[i]? =some (iy lo hi txs)) {t:Tx} (ht:t∈txs):Rd bQ 0 w.heap.size t.A t.parts w:=
 Rd.mono ((H.fact hF) t ht) (bG _) (H.facts _ (ae hF)).2.1
def se (t:Tx) (p:Tx):Bool:=decide (p.name=t.name)||decide (p.pid=t.pid)
def nP (ck nx:Int):List Tx->List Tx->Bool
 |_,[]=>true
 |pre,t::l=>fB ck nx t&&!(pre.any (se t))&&nP ck nx (pre++[t]) l
def gA (c:Co):Bool:=iN c.clock&&decide (1<=c.next)&&decide (c.next<=1073741824)&&decide (1<=c.wait)&&decide (c.wait<=1000)&&decide ((c.txs.length:Int)<=8)&&nP c.clock c.next [] c.txs
theorem iR {c:Co}:gA c=true↔iN c.clock=true/\1<=c.next/\c.next<=1073741824/\1<=c.wait/\c.wait<=1000/\(c.txs.length:Int)<=8/\nP c.clock c.next [] c.txs=true:=by
 unfold gA
 simp only[aQ,decide_eq_true_eq,and_assoc]
structure Co.rd (c:Co) (lo hi:Nat) (w:World):Prop where
 row:Rd rx lo hi c.A c.txs w
 parts: ∀ t∈c.txs,Rd bQ lo hi t.A t.parts w
 cap:c.txs.length<=c.cap
 few:c.txs.length<=1000000
 fewP: ∀ t∈c.txs,t.parts.length<=1000000/\t.parts.length<=t.cap
theorem Hp.startCo {c:Co} {w:World} (h:c.rd 0 w.heap.size w):Hp w w [] [dM rx 0 w.heap.size c.A c.txs,iy 0 w.heap.size c.txs]:=
 ((Hp.start w).learnOld (iy 0 w.heap.size c.txs) h.parts (ao _)).learnOld (dM rx 0 w.heap.size c.A c.txs) h.row (ao _)
theorem p9 (c:Co) (w:World) (h:c.rd 0 w.heap.size w):dd aa Bz [c.v] w fun v w2=>v=J (if gA c then 0 else 12)/\Below w.heap.size w w2:=by
 refine aD Av Z Z ?_
 have hcap:=h.cap
 have hfew:=h.few
 have hfp:=h.fewP
 have H:=Hp.startCo h
 obtain⟨ck,nx,wt,txs,cA,cc⟩:=c
 dsimp only at hcap hfew hfp H
 show CW _ _ _ _ (args [.agg #[J ck,J nx,J wt,.slice cA txs.length cc]]) w
 refine W<|Zr<|fQ H Z Z fun w1 b1 H=>G (Wi Z)<|U<|W<|W<|Zr<|G (Zf kb Z)<|G (Zd aj H 0 Z Z Z)<|cd sV (AI ck _) Z Z ?_
 rintro _ w2 ⟨rfl,hb⟩;replace H:=H.later hb;clear hb
 refine G (dK Z)<|G (Yb Z) ?_
 refine mj 9 Z (fun h9=> ?_) (fun h9=> ?_)
 refine ZN<|ZN<|ZN<|G (Kt Z Z)<|G (Yb Z)<|ZN<|ZN<|ZN<|G (Kt Z Z)<|G (Yb Z)<|ZN<|ZN<|ZN<|G (Kt Z Z)<|G (Yb Z)<|ZN<|ZN<|ZN<|G (Kt Z Z)<|G (Yb Z)<|ZN<|ZN<|ZN<|ZN<|G (Kt Z Z)<|U<|ZT Z<|W<|Zr<|G (Wi Z)<|U<|Zt ?_
 have hv:gA ⟨ck,nx,wt,txs,cA,cc⟩=false:=by
  cases hh:gA ⟨ck,nx,wt,txs,cA,cc⟩
  rfl
  obtain⟨a1,a2,a3,a4,a5,a6,a7⟩:=iR.1 hh
  dsimp only at a1 a2 a3 a4 a5 a6 a7
  exfalso
  first|omega|simp_all
 exact cD (v:=J 12) Z Z ⟨by rw[hv];rfl,H.below⟩
 refine ZG<|G (Zf ka Z)<|ZG<|G (Zd aj H 0 Z Z Z)<|ZG ?_
 refine cT (cG Z Z) Z Z Z (fun h12=> ?_) (fun h12=> ?_)
 refine G (N Z Z)<|G (Yb Z)<|ZN<|ZN<|ZN<|G (Kt Z Z)<|G (Yb Z)<|ZN<|ZN<|ZN<|G (Kt Z Z)<|G (Yb Z)<|ZN<|ZN<|ZN<|G (Kt Z Z)<|G (Yb Z)<|ZN<|ZN<|ZN<|ZN<|G (Kt Z Z)<|U<|ZT Z<|W<|Zr<|G (Wi Z)<|U<|Zt ?_
 have hv:gA ⟨ck,nx,wt,txs,cA,cc⟩=false:=by
  cases hh:gA ⟨ck,nx,wt,txs,cA,cc⟩
  rfl
  obtain⟨a1,a2,a3,a4,a5,a6,a7⟩:=iR.1 hh
  dsimp only at a1 a2 a3 a4 a5 a6 a7
  exfalso
  first|omega|simp_all
 exact cD (v:=J 12) Z Z ⟨by rw[hv];rfl,H.below⟩
 refine G (N Z Z)<|G (Yb Z)<|ZG<|G (Zf ka Z)<|ZG<|G (Zd aj H 0 Z Z Z)<|ZG ?_
 refine cT (j0 Z Z) Z Z Z (fun h17=> ?_) (fun h17=> ?_)
 refine G (N Z Z)<|G (Yb Z)<|ZN<|ZN<|ZN<|G (Kt Z Z)<|G (Yb Z)<|ZN<|ZN<|ZN<|G (Kt Z Z)<|G (Yb Z)<|ZN<|ZN<|ZN<|ZN<|G (Kt Z Z)<|U<|ZT Z<|W<|Zr<|G (Wi Z)<|U<|Zt ?_
 have hv:gA ⟨ck,nx,wt,txs,cA,cc⟩=false:=by
  cases hh:gA ⟨ck,nx,wt,txs,cA,cc⟩
  rfl
  obtain⟨a1,a2,a3,a4,a5,a6,a7⟩:=iR.1 hh
  dsimp only at a1 a2 a3 a4 a5 a6 a7
  exfalso
  first|omega|simp_all
 exact cD (v:=J 12) Z Z ⟨by rw[hv];rfl,H.below⟩
 refine G (N Z Z)<|G (Yb Z)<|ZG<|G (Zf vN Z)<|ZG<|G (Zd aj H 0 Z Z Z)<|ZG ?_
 refine cT (cG Z Z) Z Z Z (fun h22=> ?_) (fun h22=> ?_)
 refine G (N Z Z)<|G (Yb Z)<|ZN<|ZN<|ZN<|G (Kt Z Z)<|G (Yb Z)<|ZN<|ZN<|ZN<|ZN<|G (Kt Z Z)<|U<|ZT Z<|W<|Zr<|G (Wi Z)<|U<|Zt ?_
 have hv:gA ⟨ck,nx,wt,txs,cA,cc⟩=false:=by
  cases hh:gA ⟨ck,nx,wt,txs,cA,cc⟩
  rfl
  obtain⟨a1,a2,a3,a4,a5,a6,a7⟩:=iR.1 hh
  dsimp only at a1 a2 a3 a4 a5 a6 a7
  exfalso
  first|omega|simp_all
 exact cD (v:=J 12) Z Z ⟨by rw[hv];rfl,H.below⟩
 refine G (N Z Z)<|G (Yb Z)<|ZG<|G (Zf vN Z)<|ZG<|G (Zd aj H 0 Z Z Z)<|ZG ?_
 refine cT (j0 Z Z) Z Z Z (fun h27=> ?_) (fun h27=> ?_)
 refine G (N Z Z)<|G (Yb Z)<|ZN<|ZN<|ZN<|ZN<|G (Kt Z Z)<|U<|ZT Z<|W<|Zr<|G (Wi Z)<|U<|Zt ?_
 have hv:gA ⟨ck,nx,wt,txs,cA,cc⟩=false:=by
  cases hh:gA ⟨ck,nx,wt,txs,cA,cc⟩
  rfl
  obtain⟨a1,a2,a3,a4,a5,a6,a7⟩:=iR.1 hh
  dsimp only at a1 a2 a3 a4 a5 a6 a7
  exfalso
  first|omega|simp_all
 exact cD (v:=J 12) Z Z ⟨by rw[hv];rfl,H.below⟩
 refine G (N Z Z)<|G (Yb Z)<|ZG<|G (Zf cO Z)<|ZG<|G (Zd dJ H 0 Z Z Z)<|ZG<|G (bn kS Z)<|ZG ?_
 refine cT (j0 Z Z) Z Z Z (fun h33=> ?_) (fun h33=> ?_)
 refine G (N Z Z)<|U<|ZT Z<|W<|Zr<|G (Wi Z)<|U<|Zt ?_
 have hv:gA ⟨ck,nx,wt,txs,cA,cc⟩=false:=by
  cases hh:gA ⟨ck,nx,wt,txs,cA,cc⟩
  rfl
  obtain⟨a1,a2,a3,a4,a5,a6,a7⟩:=iR.1 hh
  dsimp only at a1 a2 a3 a4 a5 a6 a7
  exfalso
  first|omega|simp_all
 exact cD (v:=J 12) Z Z ⟨by rw[hv];rfl,H.below⟩
 refine G (N Z Z)<|U<|ZF Z<|Zk<|W<|W<|Zr<|G (Zf cO Z)<|G (Zd dJ H 0 Z Z Z)<|G (bn kS Z)<|G (Yi Z)<|U<|Zb ?_
 refine ce (τ:=Nat) [2,3,4,38,39,40,41,42,43,44,45,46,47,48,49,50,51,52,53,54,55] (fun k=>[(38,J (k:Nat))]) (fun k w'=>k<=txs.length/\nP ck nx [] txs=nP ck nx (txs.take k) (txs.drop k)/\Hp w w' [(b1,.cells #[J ck,J nx,J wt,.slice cA txs.length cc] bd (0,0))] [dM rx 0 w.heap.size cA txs,iy 0 w.heap.size txs]) (fun k=>txs.length-k) 0 ⟨by omega,by rw[lU,yD],H⟩ (dF Z) ?_
 rintro k ρ1 w3 ⟨hk,hto,H⟩
 show CW _ _ _ _ (dC (gC _ _ ρ1) [(38,J (k:Nat))]) w3
 refine W<|Zr ?_
 refine cT (cG Z Z) Z Z Z (fun h39=> ?_) (fun h39=> ?_)
 refine U<|W<|ZT Z<|Zk<|W<|Zb<|W<|Zr<|G (Yi Z)<|qn H 0 Z gB Z Z I I Z fun b4 o4 x4 e4=> ?_
 have hxk:=e4.at_
 have hdrop:=cM hxk
 refine G (jM (xs:=Tx.c x4) zc Z Z e4.cl)<|eH H Hk Z fun w5 b4 H=>G (Wi Z)<|J0 H 0 Hq Z Z Z Z Z Z fun w6 H=>U<|W<|Zr<|G (Zw av H 1 Z Z Z)<|G (Zw zc H 0 Z Z Z)<|cd D2 (NC ck nx wt cA txs.length cc x4 _ (fp H 1 Z (ae hxk)) (hfp _ (ae hxk)).1) Z Z ?_
 rintro _ w7 ⟨rfl,hb⟩;replace H:=H.later hb;clear hb
 refine G (dK Z)<|G (Yb Z) ?_
 refine mj 47 Z (fun h47=> ?_) (fun h47=> ?_)
 refine ZN<|ZN<|ZN<|ZN<|ZN<|ZN<|G (Kt Z Z)<|U<|ZT Z<|W<|Zr<|G (Wi Z)<|U<|Zt ?_
 have hv:gA ⟨ck,nx,wt,txs,cA,cc⟩=false:=by
  cases hh:gA ⟨ck,nx,wt,txs,cA,cc⟩
  rfl
  obtain⟨a1,a2,a3,a4,a5,a6,a7⟩:=iR.1 hh
  dsimp only at a1 a2 a3 a4 a5 a6 a7
  exfalso
  rw[hto,hdrop]at a7
  simp only[nP,aQ]at a7
  obtain⟨⟨q1,q2⟩,-⟩:=a7
  rw[oX]at q2
  first|(rw[q2]at hc54;cases hc54)|simp_all
 exact cD (v:=J 12) Z Z ⟨by rw[hv];rfl,H.below⟩
 refine ZG<|G (Zf cO Z)<|ZG<|G (Zd dJ H 1 Z Z Z)<|ZG<|G (Yi Z)<|ZG<|r9 (k:=k) H 0 Z gB Z Z hcap I Z fun A51 H=> ?_
 have htl:(txs.take k).length=k:=by rw[aH];omega
 refine ZG<|G (zL Z)<|ZG ?_
 have hC:=fun q=>uM (txs.take k) A51 q _ (H.rd0 0 Z) I rJ [.pointer (Qd b4)] wW (se x4) (fun e w2 _ hw2=>FI e x4 b4 w2 ((hw2.block _ (bY (H.ent (i:=0) Z))).trans (H.ent (i:=0) Z)))
 rw[htl]at hC
 replace hC:=hC cc
 refine cd mQ (hC) Z Z ?_
 rintro _ w8 ⟨rfl,hb⟩;replace H:=H.later hb;clear hb
 refine G (N Z Z)<|U ?_
 refine jf Z (fun hc54=> ?_) (fun hc54=> ?_)
 refine W<|Zr<|G (Wi Z)<|U<|Zt ?_
 have hv:gA ⟨ck,nx,wt,txs,cA,cc⟩=false:=by
  cases hh:gA ⟨ck,nx,wt,txs,cA,cc⟩
  rfl
  obtain⟨a1,a2,a3,a4,a5,a6,a7⟩:=iR.1 hh
  dsimp only at a1 a2 a3 a4 a5 a6 a7
  exfalso
  rw[hto,hdrop]at a7
  simp only[nP,aQ]at a7
  obtain⟨⟨q1,q2⟩,-⟩:=a7
  rw[oX]at q2
  first|(rw[q2]at hc54;cases hc54)|simp_all
 exact cD (v:=J 12) Z Z ⟨by rw[hv];rfl,H.below⟩
 refine Zk<|Zr<|G (br Z Z I I)<|G (Yi Z)<|U ?_
 refine⟨k+1,⟨by omega,?_,H.forget (.cons _ (ap _)) (fun _ h=>ak _ h)⟩,dF Z,Qg,by show txs.length- (k+1)<txs.length-k;omega⟩
 rw[hto,hdrop,eI hxk]
 simp only[nP]
 simp_all
 have hke:k=txs.length:=by omega
 have hall:nP ck nx [] txs=true:=by rw[hto,hke,fm];rfl
 refine U<|W<|ZF Z<|Zx<|W<|Zr<|G (Wi Z)<|U<|Zt ?_
 have hv:gA ⟨ck,nx,wt,txs,cA,cc⟩=true:=iR.2 ⟨by simpa using h9,by dsimp only;omega,by dsimp only;omega,by dsimp only;omega,by dsimp only;omega,by dsimp only;omega,hall⟩
 exact cD (v:=J 0) Z Z ⟨by rw[hv];rfl,H.below⟩
def Tx.a (t:Tx):Tx:={t with A:=none,cap:=0}
theorem iH {α:Type} {l:List α} {k:Nat} {a:α} (h:l[k]? =some a):l.set k a=l:=by
 apply eG
 intro i
 rw[lh]
 split
 rename_i hi
 subst hi
 split
 exact h.symm
 rename_i h2;rw[cI I]
 rfl
theorem JU {α:Type} {l:List α} {k:Nat} (h:k<l.length) (a:α):(l.set k a).take (k+1)=l.take k++[a]:=by
 rw[eI (e:=a) (by rw[am h]),zd (ao k)]
theorem CL {out txs:List Tx} {k:Nat} {x x':Tx} (hx:out[k]? =some x) (hma:out.map Tx.a=txs.map Tx.a) (hdr:out.drop k=txs.drop k) (ha:x'.a=x.a):(out.set k x').map Tx.a=txs.map Tx.a/\(out.set k x').drop (k+1)=txs.drop (k+1)/\(out.set k x').take (k+1)=out.take k++[x']:=by
 refine⟨?_,?_,JU (cE hx).1 x'⟩
 rw[cw,ha,<-hma]
 exact iH (by rw[aL,hx];rfl)
 rw[rU I]
 have:=congrArg (List.drop 1) hdr
 rwa[jQ,jQ]at this
def Co.a (c:Co):Co:={c with txs:=c.txs.map Tx.a,A:=none,cap:=0}
theorem Hp.joinParts {w0 w:World} {L:List (Nat×Obj)} {F:List cr} {a b lo hi:Nat} {ts:List Tx} {t:Tx} (H:Hp w0 w L (dM bQ a b t.A t.parts::iy lo hi ts::F)) (hL: ∀ e∈L,e.1<lo) (hlo:lo<=a) (hhi:hi<=b):Hp w0 w L (iy lo b (ts++[t])::F):=by
 refine⟨H.below,H.ents,H.nodup,fun f hf=> ?_⟩
 rcases ax.1 hf with rfl|hf
 have h1:=H.facts _ (az ..)
 have h2:=H.facts _ (ak _ (az ..))
 refine⟨fun x hx=> ?_,h1.2.1,fun e he=> .inl (hL e he)⟩
 rcases au.1 hx with hx|hx
 exact Rd.mono (h2.1 x hx) (ao _) hhi
 rw[aq.1 hx]
 exact Rd.mono (lo':=lo) (hi':=b) (show Rd bQ a b t.A t.parts w from h1.1) hlo (ao _)
 exact H.facts f (ak _ (ak _ hf))
theorem IF {w0 w:World} {L:List (Nat×Obj)} {F:List cr} (H:Hp w0 w L F) (lo:Nat) (hlo: ∀ e∈L,e.1<lo) (h:lo<=w.heap.size):Hp w0 w L (iy lo lo []::F):=by
 refine⟨H.below,H.ents,H.nodup,fun f hf=> ?_⟩
 rcases ax.1 hf with rfl|hf
 exact⟨fun x hx=>absurd hx (by simp),h,fun e he=> .inl (hlo e he)⟩
 exact H.facts f hf
theorem wS (es:List Tx) (A:Option Addr) (c:Nat) (w:World) (hr:Rd rx 0 w.heap.size A es w) (hb:es.length*80<=140737488355328):
  dd aa rH [.slice A es.length c] w fun v w2=> ∃ A' c' L',v=.slice A' es.length c'/\es.length<=c'/\c'<=maxLen/\gd rx (.slice A' es.length c') dB es L'/\Hp w w2 L' []:=by
 refine aD rg Z Z ?_
 have H:=Hp.startRd hr
 refine W<|Zr<|G (Ws Z)<|U<|W<|W<|Zr<|G (Ys Z) ?_
 refine wr (qz kS Z) Z Z Z (fun h4=> ?_) (fun h4=> ?_)
 refine U<|ZT Z<|W<|Zr<|G (Ws Z)<|U<|Zt ?_
 have he:es=[]:=by
  cases es with
  |nil=>rfl
  |cons e es=>obtain⟨b,o,hA,_⟩:=hr (by simp);subst hA;cases h4
 subst he
 exact cD Z Z ⟨none,0,[],rfl,by simp,by decide,gd.nil,H.forget (by simp) (by simp)⟩
 refine U<|ZF Z<|Zk<|W<|Zr<|Nw H gB Z fun w1 b5 H=>G (Ys Z)<|vT (Y:=rx) HR (K:=[]) (L:=[(b5,_)]) (M:=[]) H (rT.lit (by decide) (by rfl)) (es:=[]) (news:=es) Z Z Z (Rd.src (H.fact (i:=0) Z)) (by simpa using hb) Z ?_
 intro A3 c3 w3 L3 h3a h3b ho3 H
 refine G (Ws Z)<|U<|Zt ?_
 exact cD Z Z ⟨A3,c3,L3,rfl,h3a,h3b,ho3,H.forget (by simp) (by simp)⟩
theorem xM (c:Co) (w:World) (h:c.rd 0 w.heap.size w):dd aa wF [c.v] w fun v w2=> ∃ (c':Co) (L':List (Nat×Obj)) (lo hi:Nat),v=c'.v/\c'.a=c.a/\gd rx (.slice c'.A c'.txs.length c'.cap) dB c'.txs L'/\c'.txs.length<=c'.cap/\(∀ t∈c'.txs,t.parts.length<=t.cap)/\w.heap.size<=lo/\Hp w w2 L' [iy lo hi c'.txs]:=by
 refine aD ve Z Z ?_
 have hcap:=h.cap
 have hfew:=h.few
 have hfp:=h.fewP
 have H:=Hp.startCo h
 obtain⟨ck,nx,wt,txs,cA,cc⟩:=c
 dsimp only at hcap hfew hfp H
 show CW _ _ _ _ (args [.agg #[J ck,J nx,J wt,.slice cA txs.length cc]]) w
 refine W<|Zr<|fQ H Z Z fun w1 b1 H=>eH H cJ Z fun w2 b2 H=>U<|W<|Zr<|G (Zf cO Z)<|G (Zd dJ H 1 Z Z Z)<|cd kZ (wS txs cA cc _ (H.rd0 0 Z) I) Z Z ?_
 rintro _ w3 ⟨A6,c6,L6,rfl,hc6,hm6,ho6,hj6⟩;replace H:=H.joinR hj6;clear hj6
 refine G (Zf cO Z)<|bo H 1 (#[J ck,J nx,J wt,.slice A6 txs.length c6]) zx Z Z Z Z Z N N fun w4 H=>U<|W<|W ?_
 have hlt0:=H.ltAll
 obtain⟨lo,hlo⟩: ∃ lo,lo=w4.heap.size:=⟨_,rfl⟩
 rw[<-hlo]at hlt0
 have hlow:w.heap.size<=lo:=by rw[hlo];exact H.size
 replace H:=IF H lo hlt0 I
 have hb1:b1<lo:=hlt0 (b1,_) (qw _ (fA _))
 have hb2:b2<lo:=hlt0 (b2,_) (fA _)
 have hL6: ∀ e∈L6,e.1<lo:=fun e he=>hlt0 e (qw _ (qw _ (hZ _ he)))
 refine Zr<|G (Zf cO Z)<|G (Zd dJ H 1 Z Z Z)<|G (bn kS Z)<|G (Yi Z)<|U<|Zb ?_
 refine ce (τ:=Nat×List Tx×Option Addr×Nat×Nat) [3,11,12,13,14,15,16,17,18,19,20,21,22,23,24,25,26] (fun(k,_)=>[(11,J (k:Nat))]) (fun(k,out,A1,c1,hi) w'=>k<=out.length/\out.length=txs.length/\out.length<=c1/\out.map Tx.a=txs.map Tx.a/\out.drop k=txs.drop k/\(∀ t∈out.take k,t.parts.length<=t.cap)/\lo<=w'.heap.size/\ ∃ L',gd rx (.slice A1 out.length c1) dB out L'/\(∀ e∈L',e.1<lo)/\Hp w w' ([(b2,.cells #[J 0,J 0,J 0,.slice none 0 0] bd (0,0)),(b1,.cells #[J ck,J nx,J wt,.slice A1 out.length c1] bd (0,0))]++L'++[]) [iy lo hi (out.take k),dM rx 0 w.heap.size cA txs,iy 0 w.heap.size txs]) (fun(k,out,_)=>out.length-k) (0,txs,A6,c6,lo) ⟨by omega,rfl,hc6,rfl,rfl,by simp,by omega,L6,ho6,hL6,H⟩ (dF Z) ?_
 rintro⟨k,out,A1,c1,hi⟩ ρ1 w5 ⟨hk,hol,hoc,hma,hdr,hpc,hlw,L1,ho,hL1,H⟩
 show CW _ _ _ _ (dC (gC _ _ ρ1) [(11,J (k:Nat))]) w5
 refine W<|Zr ?_
 refine cT (cG Z Z) Z Z Z (fun h12=> ?_) (fun h12=> ?_)
 refine U<|W<|ZT Z<|Zk<|W<|Zb<|W ?_
 obtain⟨x,hx⟩: ∃ x,out[k]? =some x:=⟨_,ah I⟩
 have hxt:txs[k]? =some x:=by have:=congrArg (fun l=>l[0]?) hdr;simp only[dI,rY]at this;rw[<-this];exact hx
 have hmem:=ae hxt
 have hfx:=(hfp x hmem).1
 obtain⟨g,cur,rfl,rfl,row⟩:=ho.row I
 have hg:g<lo:=hL1 (g,_) (dW _)
 refine Zr<|G (Yi Z)<|G (Wi Z)<|U ?_
 have hhi5:=(H.facts _ (fA _)).2.1
 refine bz bX [0,1,2,3,4,5,6,7,8,9,10,11] [12] [9] [0,2,3,5,6,7,10,11] (sp [(9,Sp.row w5.heap.size bQ x.parts)]) N N N N Nq (cF _) ?_
 refine aw Z Z Z Z Z (fun w' hw'=>Zf cO Z)<|aw Z Z Z Z Z (fun w' hw'=>aT dJ Z (aB ((H.later hw').ent (i:=1) Z) Z))<|aw Z Z Z Z Z (fun w' hw'=>Yi Z)<|aw Z Z Z Z Z (fun w' hw'=>Zf cO Z)<|aw Z Z Z Z Z (fun w' hw'=>aT dJ Z (aB ((H.later hw').ent (i:=1) Z) Z))<|aw Z Z Z Z Z (fun w' hw'=>Yi Z)<|aw Z Z Z Z Z (fun w' hw'=>cB gB Z Z I)<|aw Z Z Z Z Z (fun w' hw'=>Zf dv Z)<|aw Z Z Z Z Z (fun w' hw'=>bP cn row hx 4 Z ((H.later hw').ent (i:=2) Z) Z)<|CN f8 Z Z Z Z Z (fun w' hw'=>hw'.size) (fun w' hw'=>wR x.parts _ _ w' (fp (H.later hw') 2 Z hmem) I) Z fun A23 c23 hc23=>aw Z Z Z Z Z (fun w' hw'=>cB gB Z Z I)<|aw Z Z Z Z Z (fun w' hw'=>Zf dv Z)<|aR ?_
 intro w6 hw' hF
 have hsz:=hw'.size
 obtain⟨hF,Aq,cq,eq,hcq,hrw23⟩:=hF;cases eq;clear hcq
 replace H:=H.learnRd hw' hrw23
 clear hw' hF
 refine kH H 2 ({x with A:=A23,cap:=c23}) jv row hx 4 Z Z Z Z Z Z N fun w8 cur7 row7 H=>U<|Zr<|G (br Z Z I I)<|G (Yi Z)<|U ?_
 obtain⟨z1,z2,z3⟩:=CL (x':={x with A:=A23,cap:=c23}) hx hma hdr Z
 have hb5:=(H.facts _ (fA _)).2.1
 dsimp only[dM]at hb5
 have HJ:=Hp.joinParts (t:={x with A:=A23,cap:=c23}) H (fun e he=>by rcases ax.1 he with rfl|he;exact hb2;rcases ax.1 he with rfl|he;exact hb1;rw[aq.1 he];exact hg) hlw (aS hhi5 hsz)
 rw[<-z3]at HJ
 refine⟨(k+1,out.set k {x with A:=A23,cap:=c23},some ⟨g,0,none⟩,c1,w6.heap.size),⟨by rw[ab];omega,by rw[ab];exact hol,by rw[ab];exact hoc,z1,z2,?_,by omega,_,dT.own row7,fun e he=>by rw[aq.1 he];exact hg,?_⟩,dF Z,Qg,by show(out.set k _).length- (k+1)<out.length-k;rw[ab];omega⟩
 rw[z3];intro t ht;rcases au.1 ht with ht|ht;exact hpc t ht;rw[aq.1 ht];exact hc23
 rw[ab];exact HJ
 have hke:k=out.length:=by omega
 rw[hke,bJ]at H hpc
 refine U<|W<|ZF Z<|Zx<|W<|Zr<|G (Zw av H 1 Z Z Z)<|bo H 0 (#[J ck,J nx,J wt,.slice A1 out.length c1]) aF Z Z Z Z Z N N fun w9 H=>U<|Zt ?_
 exact eM (cs0:= #[J ck,J nx,J wt,.slice A1 out.length c1]) Z av Z (H.ent (i:=0) Z) Z ⟨⟨ck,nx,wt,out,A1,c1⟩,L1,lo,hi,rfl,by unfold Co.a;dsimp only;rw[hma],ho,hoc,hpc,hlow,H.forget (.cons _ (.cons _ (aC _ _))) (by simp)⟩
theorem Hp.joinF {w0 w w':World} {L L':List (Nat×Obj)} {F F':List cr} (H:Hp w0 w L F) (H':Hp w w' L' F') (hf': ∀ f∈F',w.heap.size<=f.lo):Hp w0 w' (L++L'++[]) (F'++F):=by
 have HJ:=H.joinR (H'.forget (ap _) (F':=[]) (by simp))
 refine⟨HJ.below,HJ.ents,HJ.nodup,fun f hf=> ?_⟩
 rcases au.1 hf with hf|hf
 obtain⟨h1,h2,h3⟩:=H'.facts f hf
 refine⟨h1,h2,fun e he=> ?_⟩
 rw[aX]at he
 rcases au.1 he with he|he
 have:=H.ltAll e he
 have:=hf' f hf
 omega
 exact h3 e he
 exact HJ.facts f hf
def fF (c:Co) (s:ByteArray):Int:=ls (c.txs.findIdx? fun p=>decide (p.name=s))
def LP (w w2:World) (c c':Co) (L':List (Nat×Obj)) (lo hi:Nat):Prop:=c'.a=c/\gd rx (.slice c'.A c'.txs.length c'.cap) dB c'.txs L'/\c'.txs.length<=c'.cap/\(∀ t∈c'.txs,t.parts.length<=t.cap)/\w.heap.size<=lo/\Hp w w2 L' [iy lo hi c'.txs]
theorem Jm (c:Co) (s:ByteArray) (w:World) (h:c.rd 0 w.heap.size w) (hok:gA c=true) (hn:bM s=true):dd aa wC [c.v,.string s] w fun v w2=> ∃ (c':Co) (L':List (Nat×Obj)) (lo hi:Nat),v=.tuple #[c'.v,J (fF c s),J 0]/\LP w w2 c.a c' L' lo hi:=by
 refine aD vc Z Z ?_
 have hcap:=h.cap
 have hfew:=h.few
 have hfp:=h.fewP
 have H:=Hp.startCo h
 obtain⟨ck,nx,wt,txs,cA,cc⟩:=c
 dsimp only at hcap hfew hfp H
 show CW _ _ _ _ (args [.agg #[J ck,J nx,J wt,.slice cA txs.length cc],.string s]) w
 refine W<|Zr<|fQ H Z Z fun w1 b2 H=>Pn H Z Z fun w2 b3 H=>eH H cJ Z fun w3 b4 H=>G (Wi Z)<|G (Wi Z)<|U<|W<|W<|Zr<|G (Zw av H 2 Z Z Z)<|cd kh (p9 ⟨ck,nx,wt,txs,cA,cc⟩ _ ⟨H.rd0 0 Z,fun t ht=>fp H 1 Z ht,hcap,hfew,hfp⟩) Z Z ?_
 rw[hok]
 rintro _ w4 ⟨rfl,hb⟩;replace H:=H.later hb;clear hb
 refine G (Wi Z)<|U<|W<|Zr<|G (Yi Z)<|G (bU Z Z Z)<|U<|ZF Z<|Zk<|W<|W<|Zr<|G (Zd aY H 1 Z Z Z)<|cd ru (Dj s _) Z Z ?_
 rw[hn]
 rintro _ w5 ⟨rfl,hb⟩;replace H:=H.later hb;clear hb
 refine G (dK Z)<|U<|ZF Z<|Zk<|W ?_
 refine qJ bX [2,4] [0,1,3,5,6,7,8] [2,4] 7 N N N Nq ?_
 refine aw Z Z Z Z Z (fun w' hw'=>Zf cO Z)<|aw Z Z Z Z Z (fun w' hw'=>zL Z)<|aR ?_
 intro w6 hw';replace H:=H.later hw';clear hw'
 refine tf 0 3 N Z Z ?_ ?_
 refine G (Zw av H 2 Z Z Z)<|U ?_
 refine tf 1 3 N Z Z ?_ ?_
 refine cd iY (xM ⟨ck,nx,wt,txs,cA,cc⟩ _ ⟨H.rd0 0 Z,fun t ht=>fp H 1 Z ht,hcap,hfew,hfp⟩) Z Z ?_
 have hsz0:=H.size
 rintro _ w7 ⟨⟨ck2,nx2,wt2,tx2,A2,c2⟩,L2,lo2,hi2,rfl,ha2,ho2,hoc2,hpc2,hlo2,hj2⟩
 replace H:=Hp.joinF H hj2 (by intro f hf;rw[aq.1 hf];exact hlo2);clear hj2
 simp only[Co.a,Co.mk.injEq]at ha2
 obtain⟨e1,e2,e3,hma,-,-⟩:=ha2
 obtain rfl:ck=ck2:=e1.symm
 obtain rfl:nx=nx2:=e2.symm
 obtain rfl:wt=wt2:=e3.symm
 dsimp only at ho2 hoc2 hpc2 H
 refine U<|da 3 N Z<|G (Zd dJ H 2 Z Z Z)<|U<|da 5 N Z<|cd dA (fU txs cA cc _ (H.rd0 1 Z) I gI [.pointer (Qd b3)] ib (fun p=>decide (p.name=s)) (fun e w2 _ hw2=>nj e s b3 w2 ((hw2.block _ (bY (H.ent (i:=1) Z))).trans (H.ent (i:=1) Z)))) Z Z ?_
 rintro _ w8 ⟨rfl,hb⟩;replace H:=H.later hb;clear hb
 refine U<|da 6 N Z<|bo H 0 (#[J ck,J nx,J wt,.slice A2 tx2.length c2]) aF Z Z Z Z Z N N fun w9 H=>U<|da 7 N Z<|G (Wi Z)<|U<|da 8 N Z<|G (Wi Z)<|U<|cy N<|Zt ?_
 exact gj (cs0:= #[J ck,J nx,J wt,.slice A2 tx2.length c2]) (v1:=J (ls (txs.findIdx? fun p=>decide (p.name=s)))) (v2:=J 0) Z av Z (H.ent (i:=0) Z) Z Z Z ⟨⟨ck,nx,wt,tx2,A2,c2⟩,L2,lo2,hi2,rfl,by unfold Co.a;dsimp only;rw[hma],ho2,hoc2,hpc2,aS hsz0 hlo2,H.forget (.cons _ (.cons _ (.cons _ (aC _ _)))) (by simp)⟩
 refine G (Zd dJ H 2 Z Z Z)<|U<|da 1 N Z<|cd iY (xM ⟨ck,nx,wt,txs,cA,cc⟩ _ ⟨H.rd0 0 Z,fun t ht=>fp H 1 Z ht,hcap,hfew,hfp⟩) Z Z ?_
 have hsz0:=H.size
 rintro _ w10 ⟨⟨ck2,nx2,wt2,tx2,A2,c2⟩,L2,lo2,hi2,rfl,ha2,ho2,hoc2,hpc2,hlo2,hj2⟩
 replace H:=Hp.joinF H hj2 (by intro f hf;rw[aq.1 hf];exact hlo2);clear hj2
 simp only[Co.a,Co.mk.injEq]at ha2
 obtain⟨e1,e2,e3,hma,-,-⟩:=ha2
 obtain rfl:ck=ck2:=e1.symm
 obtain rfl:nx=nx2:=e2.symm
 obtain rfl:wt=wt2:=e3.symm
 dsimp only at ho2 hoc2 hpc2 H
 refine U<|da 5 N Z<|cd dA (fU txs cA cc _ (H.rd0 1 Z) I gI [.pointer (Qd b3)] ib (fun p=>decide (p.name=s)) (fun e w2 _ hw2=>nj e s b3 w2 ((hw2.block _ (bY (H.ent (i:=1) Z))).trans (H.ent (i:=1) Z)))) Z Z ?_
 rintro _ w11 ⟨rfl,hb⟩;replace H:=H.later hb;clear hb
 refine U<|da 6 N Z<|bo H 0 (#[J ck,J nx,J wt,.slice A2 tx2.length c2]) aF Z Z Z Z Z N N fun w12 H=>U<|da 7 N Z<|G (Wi Z)<|U<|da 8 N Z<|G (Wi Z)<|U<|cy N<|Zt ?_
 exact gj (cs0:= #[J ck,J nx,J wt,.slice A2 tx2.length c2]) (v1:=J (ls (txs.findIdx? fun p=>decide (p.name=s)))) (v2:=J 0) Z av Z (H.ent (i:=0) Z) Z Z Z ⟨⟨ck,nx,wt,tx2,A2,c2⟩,L2,lo2,hi2,rfl,by unfold Co.a;dsimp only;rw[hma],ho2,hoc2,hpc2,aS hsz0 hlo2,H.forget (.cons _ (.cons _ (.cons _ (aC _ _)))) (by simp)⟩
 refine G (Zd dJ H 2 Z Z Z)<|U<|da 0 N Z<|G (Zw av H 2 Z Z Z)<|U<|da 1 N Z<|cd iY (xM ⟨ck,nx,wt,txs,cA,cc⟩ _ ⟨H.rd0 0 Z,fun t ht=>fp H 1 Z ht,hcap,hfew,hfp⟩) Z Z ?_
 have hsz0:=H.size
 rintro _ w13 ⟨⟨ck2,nx2,wt2,tx2,A2,c2⟩,L2,lo2,hi2,rfl,ha2,ho2,hoc2,hpc2,hlo2,hj2⟩
 replace H:=Hp.joinF H hj2 (by intro f hf;rw[aq.1 hf];exact hlo2);clear hj2
 simp only[Co.a,Co.mk.injEq]at ha2
 obtain⟨e1,e2,e3,hma,-,-⟩:=ha2
 obtain rfl:ck=ck2:=e1.symm
 obtain rfl:nx=nx2:=e2.symm
 obtain rfl:wt=wt2:=e3.symm
 dsimp only at ho2 hoc2 hpc2 H
 refine U<|da 5 N Z<|cd dA (fU txs cA cc _ (H.rd0 1 Z) I gI [.pointer (Qd b3)] ib (fun p=>decide (p.name=s)) (fun e w2 _ hw2=>nj e s b3 w2 ((hw2.block _ (bY (H.ent (i:=1) Z))).trans (H.ent (i:=1) Z)))) Z Z ?_
 rintro _ w14 ⟨rfl,hb⟩;replace H:=H.later hb;clear hb
 refine U<|da 6 N Z<|bo H 0 (#[J ck,J nx,J wt,.slice A2 tx2.length c2]) aF Z Z Z Z Z N N fun w15 H=>U<|da 7 N Z<|G (Wi Z)<|U<|da 8 N Z<|G (Wi Z)<|U<|cy N<|Zt ?_
 exact gj (cs0:= #[J ck,J nx,J wt,.slice A2 tx2.length c2]) (v1:=J (ls (txs.findIdx? fun p=>decide (p.name=s)))) (v2:=J 0) Z av Z (H.ent (i:=0) Z) Z Z Z ⟨⟨ck,nx,wt,tx2,A2,c2⟩,L2,lo2,hi2,rfl,by unfold Co.a;dsimp only;rw[hma],ho2,hoc2,hpc2,aS hsz0 hlo2,H.forget (.cons _ (.cons _ (.cons _ (aC _ _)))) (by simp)⟩
def iK (s:ByteArray) (pid:Int):Tx:=⟨s,pid,0,1,[],0,0,none,0⟩
def p8 (c:Co) (s:ByteArray):Co:={c with next:=c.next+1,txs:=c.txs++[iK s c.next]}
theorem FG (c:Co) (s:ByteArray) (w:World) (h:c.rd 0 w.heap.size w) (hok:gA c=true) (hn:bM s=true) (hi:fF c s<0) (hf:c.txs.length=8):dd aa mo [c.v,.string s] w fun v w2=>v=.tuple #[.agg #[J 0,J 0,J 0,.slice none 0 0],J 0,J 0,J 16]/\Below w.heap.size w w2:=by
 refine aD nK Z Z ?_
 have hcap:=h.cap
 have hfew:=h.few
 have hfp:=h.fewP
 have H:=Hp.startCo h
 obtain⟨ck,nx,wt,txs,cA,cc⟩:=c
 dsimp only at hcap hfew hfp H
 show CW _ _ _ _ (args [.agg #[J ck,J nx,J wt,.slice cA txs.length cc],.string s]) w
 dsimp only at hf
 refine W<|Zr<|fQ H Z Z fun w1 b2 H=>eH H cJ Z fun w2 b4 H=>G (Wi Z)<|G (Wi Z)<|G (Wi Z)<|U<|W<|Zr<|G (Zw av H 1 Z Z Z)<|G (Yt Z)<|cd hM (Jm ⟨ck,nx,wt,txs,cA,cc⟩ s _ ⟨H.rd0 0 Z,fun t ht=>fp H 1 Z ht,hcap,hfew,hfp⟩ hok hn) Z Z ?_
 have hsz0:=H.size
 rintro _ w3 ⟨⟨ck2,nx2,wt2,tx2,A2,c2⟩,L2,lo2,hi2,rfl,ha2,ho2,hoc2,hpc2,hlo2,hj2⟩
 replace H:=Hp.joinF H hj2 (by intro f hf;rw[aq.1 hf];exact hlo2);clear hj2
 simp only[Co.a,Co.mk.injEq]at ha2
 obtain⟨e1,e2,e3,hma,-,-⟩:=ha2
 obtain rfl:ck=ck2:=e1.symm
 obtain rfl:nx=nx2:=e2.symm
 obtain rfl:wt=wt2:=e3.symm
 dsimp only at ho2 hoc2 hpc2 H
 have hlen2:tx2.length=txs.length:=by have:=congrArg cu hma;simpa using this
 obtain⟨b1,b2_,b3_,b4_,b5_,b6_,b7_⟩:=iR.1 hok
 dsimp only at b2_ b3_ b6_
 refine G (Yu Z)<|G (Xa Z Z)<|G (Xi Z Z)<|G (Xi Z Z)<|bo H 1 (#[J ck,J nx,J wt,.slice A2 tx2.length c2]) aF Z Z Z Z Z N N fun w4 H=>G (Wi Z)<|G (Wi Z)<|U<|W<|W<|Zr<|G (Yi Z)<|G (bU Z Z Z)<|U<|ZF Z<|Zk<|W<|W<|Zr<|G (Yi Z)<|G (xz Z Z hi)<|U<|ZT Z<|W<|W<|Zr<|G (Zf cO Z)<|G (Zd dJ H 1 Z Z Z)<|G (bn kS Z)<|G (tT Z Z I)<|G (Yb Z)<|ZN<|ZN<|ZN<|G (Kt Z Z)<|U<|ZT Z<|W<|Zr<|G (bi (cs:= #[J 0,J 0,J 0,.slice none 0 0]) ft cJ N) ?_
 refine bo H 0 (#[J 0,J 0,J 0,.slice none 0 0]) aF Z Z Z Z Z N N fun w5 H=>G (Wi Z)<|G (Wi Z)<|G (Wi Z)<|U<|Zt ?_
 exact mt (cs0:= #[J 0,J 0,J 0,.slice none 0 0]) (v1:=J 0) (v2:=J 0) (v3:=J 16) Z av Z (H.ent (i:=0) Z) Z Z Z Z ⟨rfl,H.below⟩
theorem Hn (ck nx:Int): ∀ (l pre:List Tx),nP ck nx pre l=nP ck nx (pre.map Tx.a) (l.map Tx.a)
 |[],_=>rfl
 |t::l,pre=>by
  rw[eF]
  unfold nP
  have e1:(pre.map Tx.a).any (se t.a)=pre.any (se t):=by rw[List.any_map];rfl
  have e2:=Hn ck nx l (pre++[t])
  rw[bk]at e2
  rw[e1,e2]
  rfl
theorem sF (c:Co):gA c=gA c.a:=by
 unfold gA
 have:=Hn c.clock c.next c.txs []
 rw[this]
 unfold Co.a
 simp
theorem Hp.learnAlsoF {w0 w w':World} {L:List (Nat×Obj)} {F F0:List cr} (H0:Hp w0 w L F0) (H:Hp w0 w' L F) (f:cr) (hf:f.p w') (hlo:w.heap.size<=f.lo) (hhi:f.hi<=w'.heap.size):Hp w0 w' L (f::F):=by
 refine⟨H.below,H.ents,H.nodup,fun g hg=> ?_⟩
 rcases ax.1 hg with rfl|hg
 exact⟨hf,hhi,fun e he=> .inl (by have:=H0.ltAll e he;omega)⟩
 exact H.facts g hg
structure Hi (w w2:World) (c:Co):Prop where
 below:Below w.heap.size w w2
 row:Rd rx w.heap.size w2.heap.size c.A c.txs w2
 parts: ∀ t∈c.txs,Rd bQ w.heap.size w2.heap.size t.A t.parts w2
 cap:c.txs.length<=c.cap
 caps: ∀ t∈c.txs,t.parts.length<=t.cap
theorem LP.rd {w w2:World} {ca c':Co} {L':List (Nat×Obj)} {lo hi:Nat} (h:LP w w2 ca c' L' lo hi):Hi w w2 c':=by
 obtain⟨h1,ho,hc,hcs,hlo,hj⟩:=h
 have hf:=hj.facts _ (az ..)
 have hj0:Hp w w2 L' []:=hj.forget (ap _) (by simp)
 refine⟨hj.below,ho.rd (K:=[]) (M:=[]) (by simpa using hj0),fun t ht=>Rd.mono (hf.1 t ht) hlo hf.2.1,hc,hcs⟩
theorem Hi.learn {w0 w w2:World} {L:List (Nat×Obj)} {F:List cr} {c:Co} (h:Hi w w2 c) (H:Hp w0 w L F):Hp w0 w2 L (iy w.heap.size w2.heap.size c.txs::dM rx w.heap.size w2.heap.size c.A c.txs::F):=
 Hp.learnAlsoF H (H.learnRd h.below h.row) (iy w.heap.size w2.heap.size c.txs) h.parts (ao _) (ao _)
def yF:Co:=⟨0,0,0,[],none,0⟩
theorem Nz {w w2:World} (hb:Below w.heap.size w w2):Hi w w2 yF:=⟨hb,Rd.nil,(by intro t ht;cases ht),ao _,(by intro t ht;cases ht)⟩
/-- the parts of each producer lie in blocks of the call's own -/
def er:List Tx->List (Nat×Obj)->Prop
 |[],L=>L=[]
 |t::ts,L=> ∃ L1 L2,L=L1++L2/\gd bQ (.slice t.A t.parts.length t.cap) cW t.parts L1/\er ts L2
theorem er.snoc {t:Tx} {L':List (Nat×Obj)} (ht:gd bQ (.slice t.A t.parts.length t.cap) cW t.parts L'): ∀ {ts:List Tx} {L:List (Nat×Obj)},er ts L->er (ts++[t]) (L++L')
 |[],_,h=>⟨L',[],by rw[show _=[]from h];simp,ht,rfl⟩
 |_::_,_,⟨L1,L2,h1,h2,h3⟩=>⟨L1,L2++L',by rw[h1,aE],h2,er.snoc ht h3⟩
theorem er.at_: ∀ {ts:List Tx} {L:List (Nat×Obj)} {i:Nat} {t:Tx},er ts L->ts[i]? =some t-> ∃ La Lt Lb,L=La++Lt++Lb/\gd bQ (.slice t.A t.parts.length t.cap) cW t.parts Lt/\ ∀ (t':Tx) (Lt':List (Nat×Obj)),gd bQ (.slice t'.A t'.parts.length t'.cap) cW t'.parts Lt'->er (ts.set i t') (La++Lt'++Lb)
 |x::ts,L,0,t,⟨L1,L2,h1,h2,h3⟩,hi=>by
  cases hi
  exact⟨[],L1,L2,by simpa using h1,h2,fun t' Lt' h'=>⟨Lt',L2,by simp,h',h3⟩⟩
 |x::ts,L,i+1,t,⟨L1,L2,h1,h2,h3⟩,hi=>by
  obtain⟨La,Lt,Lb,e,ho,hs⟩:=er.at_ h3 (show ts[i]? =some t from hi)
  exact⟨L1++La,Lt,Lb,by rw[h1,e];simp[aE],ho,fun t' Lt' h'=>⟨L1,La++Lt'++Lb,by simp[aE],h2,hs t' Lt' h'⟩⟩
theorem er.rd {w0 w:World} {ts:List Tx} {L:List (Nat×Obj)} (h:er ts L) (H:Hp w0 w L []) {t:Tx} (ht:t∈ts):Rd bQ w0.heap.size w.heap.size t.A t.parts w:=by
 obtain⟨i,hi⟩:=aW.1 ht
 obtain⟨La,Lt,Lb,rfl,ho,-⟩:=h.at_ hi
 exact ho.rd (K:=La) (M:=Lb) H
def qf (w w2:World) (ca c':Co) (Lr Lp:List (Nat×Obj)):Prop:=c'.a=ca/\gd rx (.slice c'.A c'.txs.length c'.cap) dB c'.txs Lr/\er c'.txs Lp/\c'.txs.length<=c'.cap/\(∀ t∈c'.txs,t.parts.length<=t.cap)/\Hp w w2 (Lr++Lp) []
theorem qf.read {w w2:World} {ca c':Co} {Lr Lp:List (Nat×Obj)} (h:qf w w2 ca c' Lr Lp):Hi w w2 c':=by
 obtain⟨_,h2,h3,h4,h5,h6⟩:=h
 refine⟨h6.below,h2.rd (K:=[]) (M:=Lp) (by simpa using h6),fun t ht=>h3.rd (h6.forget (cj _ _) (by simp)) ht,h4,h5⟩
theorem sG (c:Co) (w:World) (h:c.rd 0 w.heap.size w):dd aa wF [c.v] w fun v w2=> ∃ (c':Co) (Lr Lp:List (Nat×Obj)),v=c'.v/\qf w w2 c.a c' Lr Lp:=by
 refine aD ve Z Z ?_
 have hcap:=h.cap
 have hfew:=h.few
 have hfp:=h.fewP
 have H:=Hp.startCo h
 obtain⟨ck,nx,wt,txs,cA,cc⟩:=c
 dsimp only at hcap hfew hfp H
 show CW _ _ _ _ (args [.agg #[J ck,J nx,J wt,.slice cA txs.length cc]]) w
 refine W<|Zr<|fQ H Z Z fun w1 b1 H=>eH H cJ Z fun w2 b2 H=>U<|W<|Zr<|G (Zf cO Z)<|G (Zd dJ H 1 Z Z Z)<|cd kZ (wS txs cA cc _ (H.rd0 0 Z) I) Z Z ?_
 rintro _ w3 ⟨A6,c6,L6,rfl,hc6,hm6,ho6,hj6⟩;replace H:=H.joinR hj6;clear hj6
 refine G (Zf cO Z)<|bo H 1 (#[J ck,J nx,J wt,.slice A6 txs.length c6]) zx Z Z Z Z Z N N fun w4 H=>U<|W<|W<|Zr<|G (Zf cO Z)<|G (Zd dJ H 1 Z Z Z)<|G (bn kS Z)<|G (Yi Z)<|U<|Zb ?_
 refine ce (τ:=Nat×List Tx×Option Addr×Nat×List (Nat×Obj)) [3,11,12,13,14,15,16,17,18,19,20,21,22,23,24,25,26] (fun(k,_)=>[(11,J (k:Nat))]) (fun(k,out,A1,c1,Lp) w'=>k<=out.length/\out.length=txs.length/\out.length<=c1/\out.map Tx.a=txs.map Tx.a/\out.drop k=txs.drop k/\(∀ t∈out.take k,t.parts.length<=t.cap)/\er (out.take k) Lp/\ ∃ L',gd rx (.slice A1 out.length c1) dB out L'/\Hp w w' ([(b2,.cells #[J 0,J 0,J 0,.slice none 0 0] bd (0,0)),(b1,.cells #[J ck,J nx,J wt,.slice A1 out.length c1] bd (0,0))]++L'++Lp) [dM rx 0 w.heap.size cA txs,iy 0 w.heap.size txs]) (fun(k,out,_)=>out.length-k) (0,txs,A6,c6,[]) ⟨by omega,rfl,hc6,rfl,rfl,by simp,rfl,L6,ho6,H⟩ (dF Z) ?_
 rintro⟨k,out,A1,c1,Lp⟩ ρ1 w5 ⟨hk,hol,hoc,hma,hdr,hpc,hpp,L1,ho,H⟩
 show CW _ _ _ _ (dC (gC _ _ ρ1) [(11,J (k:Nat))]) w5
 refine W<|Zr ?_
 refine cT (cG Z Z) Z Z Z (fun h12=> ?_) (fun h12=> ?_)
 refine U<|W<|ZT Z<|Zk<|W<|Zb<|W ?_
 obtain⟨x,hx⟩: ∃ x,out[k]? =some x:=⟨_,ah I⟩
 have hxt:txs[k]? =some x:=by have:=congrArg (fun l=>l[0]?) hdr;simp only[dI,rY]at this;rw[<-this];exact hx
 have hmem:=ae hxt
 have hfx:=(hfp x hmem).1
 obtain⟨g,cur,rfl,rfl,row⟩:=ho.row I
 refine Zr<|G (Yi Z)<|G (Wi Z)<|U ?_
 refine bz bX [0,1,2,3,4,5,6,7,8,9,10,11] [12] [9] [0,2,3,5,6,7,10,11] (sp [(9,Sp.orow w5.heap.size bQ cW x.parts)]) N N N N Nq (cF _) ?_
 refine aw Z Z Z Z Z (fun w' hw'=>Zf cO Z)<|aw Z Z Z Z Z (fun w' hw'=>aT dJ Z (aB ((H.later hw').ent (i:=1) Z) Z))<|aw Z Z Z Z Z (fun w' hw'=>Yi Z)<|aw Z Z Z Z Z (fun w' hw'=>Zf cO Z)<|aw Z Z Z Z Z (fun w' hw'=>aT dJ Z (aB ((H.later hw').ent (i:=1) Z) Z))<|aw Z Z Z Z Z (fun w' hw'=>Yi Z)<|aw Z Z Z Z Z (fun w' hw'=>cB gB Z Z I)<|aw Z Z Z Z Z (fun w' hw'=>Zf dv Z)<|aw Z Z Z Z Z (fun w' hw'=>bP cn row hx 4 Z ((H.later hw').ent (i:=2) Z) Z)<|xS f8 Z Z Z Z Z (fun w' hw'=>hw'.size) (fun w' hw'=>sH x.parts _ _ w' (fp (H.later hw') 1 Z hmem) I) Z fun A23 c23 hc23=>aw Z Z Z Z Z (fun w' hw'=>cB gB Z Z I)<|aw Z Z Z Z Z (fun w' hw'=>Zf dv Z)<|aR ?_
 intro w6 hw' hF
 obtain⟨hF,Aq,cq,L23,eq,hcq,hm23,ho23,he23,hn23⟩:=hF;cases eq;clear hcq
 replace H:=H.joinR (Hp.ofNew hw' he23 hn23)
 clear hw' hF
 refine kH H 2 ({x with A:=A23,cap:=c23}) jv row hx 4 Z Z Z Z Z Z N fun w8 cur7 row7 H=>U<|Zr<|G (br Z Z I I)<|G (Yi Z)<|U ?_
 obtain⟨z1,z2,z3⟩:=CL (x':={x with A:=A23,cap:=c23}) hx hma hdr Z
 refine⟨(k+1,out.set k {x with A:=A23,cap:=c23},some ⟨g,0,none⟩,c1,Lp++L23),⟨by rw[ab];omega,by rw[ab];exact hol,by rw[ab];exact hoc,z1,z2,?_,by rw[z3];exact hpp.snoc ho23,_,dT.own row7,?_⟩,dF Z,Qg,by show(out.set k _).length- (k+1)<out.length-k;rw[ab];omega⟩
 rw[z3];intro t ht;rcases au.1 ht with ht|ht;exact hpc t ht;rw[aq.1 ht];exact hc23
 rw[ab];simpa using H
 have hke:k=out.length:=by omega
 rw[hke,bJ]at hpp hpc
 refine U<|W<|ZF Z<|Zx<|W<|Zr<|G (Zw av H 1 Z Z Z)<|bo H 0 (#[J ck,J nx,J wt,.slice A1 out.length c1]) aF Z Z Z Z Z N N fun w9 H=>U<|Zt ?_
 exact eM (cs0:= #[J ck,J nx,J wt,.slice A1 out.length c1]) Z av Z (H.ent (i:=0) Z) Z ⟨⟨ck,nx,wt,out,A1,c1⟩,L1,Lp,rfl,by unfold Co.a;dsimp only;rw[hma],ho,hpp,hoc,hpc,H.forget (.cons _ (.cons _ (ap _))) (by simp)⟩
theorem qU {txs tx2:List Tx} (h:tx2.map Tx.a=txs.map Tx.a) {i:Nat} {t:Tx} (ht:txs[i]? =some t): ∃ t2,tx2[i]? =some t2/\t2.a=t.a:=by
 have h1:=congrArg (fun l=>l[i]?) h
 simp only[aL,ht,eS]at h1
 cases h2:tx2[i]? with
 |none=>rw[h2]at h1;cases h1
 |some t2=>rw[h2]at h1;exact⟨t2,rfl,by simpa using h1⟩
theorem lz (c:Co) (s:ByteArray) (w:World) (h:c.rd 0 w.heap.size w) (hok:gA c=true) (hn:bM s=true):dd aa wC [c.v,.string s] w fun v w2=> ∃ (c':Co) (Lr Lp:List (Nat×Obj)),v=.tuple #[c'.v,J (fF c s),J 0]/\qf w w2 c.a c' Lr Lp:=by
 refine aD vc Z Z ?_
 have hcap:=h.cap
 have hfew:=h.few
 have hfp:=h.fewP
 have H:=Hp.startCo h
 obtain⟨ck,nx,wt,txs,cA,cc⟩:=c
 dsimp only at hcap hfew hfp H
 show CW _ _ _ _ (args [.agg #[J ck,J nx,J wt,.slice cA txs.length cc],.string s]) w
 refine W<|Zr<|fQ H Z Z fun w1 b2 H=>Pn H Z Z fun w2 b3 H=>eH H cJ Z fun w3 b4 H=>G (Wi Z)<|G (Wi Z)<|U<|W<|W<|Zr<|G (Zw av H 2 Z Z Z)<|cd kh (p9 ⟨ck,nx,wt,txs,cA,cc⟩ _ ⟨H.rd0 0 Z,fun t ht=>fp H 1 Z ht,hcap,hfew,hfp⟩) Z Z ?_
 rw[hok]
 rintro _ w4 ⟨rfl,hb⟩;replace H:=H.later hb;clear hb
 refine G (Wi Z)<|U<|W<|Zr<|G (Yi Z)<|G (bU Z Z Z)<|U<|ZF Z<|Zk<|W<|W<|Zr<|G (Zd aY H 1 Z Z Z)<|cd ru (Dj s _) Z Z ?_
 rw[hn]
 rintro _ w5 ⟨rfl,hb⟩;replace H:=H.later hb;clear hb
 refine G (dK Z)<|U<|ZF Z<|Zk<|W ?_
 refine qJ bX [2,4] [0,1,3,5,6,7,8] [2,4] 7 N N N Nq ?_
 refine aw Z Z Z Z Z (fun w' hw'=>Zf cO Z)<|aw Z Z Z Z Z (fun w' hw'=>zL Z)<|aR ?_
 intro w6 hw';replace H:=H.later hw';clear hw'
 refine tf 0 3 N Z Z ?_ ?_
 refine G (Zw av H 2 Z Z Z)<|U ?_
 refine tf 1 3 N Z Z ?_ ?_
 refine cd iY (sG ⟨ck,nx,wt,txs,cA,cc⟩ _ ⟨H.rd0 0 Z,fun t ht=>fp H 1 Z ht,hcap,hfew,hfp⟩) Z Z ?_
 rintro _ w7 ⟨⟨ck2,nx2,wt2,tx2,A2,c2⟩,Lr,Lp,rfl,ha2,ho2,hp2,hoc2,hpc2,hj2⟩
 replace H:=H.joinR hj2;clear hj2
 simp only[Co.a,Co.mk.injEq]at ha2
 obtain⟨e1,e2,e3,hma,-,-⟩:=ha2
 obtain rfl:ck=ck2:=e1.symm
 obtain rfl:nx=nx2:=e2.symm
 obtain rfl:wt=wt2:=e3.symm
 dsimp only at ho2 hp2 hoc2 hpc2 H
 refine U<|da 3 N Z<|G (Zd dJ H 2 Z Z Z)<|U<|da 5 N Z<|cd dA (fU txs cA cc _ (H.rd0 0 Z) I gI [.pointer (Qd b3)] ib (fun p=>decide (p.name=s)) (fun e w2 _ hw2=>nj e s b3 w2 ((hw2.block _ (bY (H.ent (i:=1) Z))).trans (H.ent (i:=1) Z)))) Z Z ?_
 rintro _ w8 ⟨rfl,hb⟩;replace H:=H.later hb;clear hb
 refine U<|da 6 N Z<|bo H 0 (#[J ck,J nx,J wt,.slice A2 tx2.length c2]) aF Z Z Z Z Z N N fun w9 H=>U<|da 7 N Z<|G (Wi Z)<|U<|da 8 N Z<|G (Wi Z)<|U<|cy N<|Zt ?_
 exact gj (cs0:= #[J ck,J nx,J wt,.slice A2 tx2.length c2]) (v1:=J (ls (txs.findIdx? fun p=>decide (p.name=s)))) (v2:=J 0) Z av Z (H.ent (i:=0) Z) Z Z Z ⟨⟨ck,nx,wt,tx2,A2,c2⟩,Lr,Lp,rfl,by unfold Co.a;dsimp only;rw[hma],ho2,hp2,hoc2,hpc2,H.forget (.cons _ (.cons _ (.cons _ (aC _ _)))) (by simp)⟩
 refine G (Zd dJ H 2 Z Z Z)<|U<|da 1 N Z<|cd iY (sG ⟨ck,nx,wt,txs,cA,cc⟩ _ ⟨H.rd0 0 Z,fun t ht=>fp H 1 Z ht,hcap,hfew,hfp⟩) Z Z ?_
 rintro _ w10 ⟨⟨ck2,nx2,wt2,tx2,A2,c2⟩,Lr,Lp,rfl,ha2,ho2,hp2,hoc2,hpc2,hj2⟩
 replace H:=H.joinR hj2;clear hj2
 simp only[Co.a,Co.mk.injEq]at ha2
 obtain⟨e1,e2,e3,hma,-,-⟩:=ha2
 obtain rfl:ck=ck2:=e1.symm
 obtain rfl:nx=nx2:=e2.symm
 obtain rfl:wt=wt2:=e3.symm
 dsimp only at ho2 hp2 hoc2 hpc2 H
 refine U<|da 5 N Z<|cd dA (fU txs cA cc _ (H.rd0 0 Z) I gI [.pointer (Qd b3)] ib (fun p=>decide (p.name=s)) (fun e w2 _ hw2=>nj e s b3 w2 ((hw2.block _ (bY (H.ent (i:=1) Z))).trans (H.ent (i:=1) Z)))) Z Z ?_
 rintro _ w11 ⟨rfl,hb⟩;replace H:=H.later hb;clear hb
 refine U<|da 6 N Z<|bo H 0 (#[J ck,J nx,J wt,.slice A2 tx2.length c2]) aF Z Z Z Z Z N N fun w12 H=>U<|da 7 N Z<|G (Wi Z)<|U<|da 8 N Z<|G (Wi Z)<|U<|cy N<|Zt ?_
 exact gj (cs0:= #[J ck,J nx,J wt,.slice A2 tx2.length c2]) (v1:=J (ls (txs.findIdx? fun p=>decide (p.name=s)))) (v2:=J 0) Z av Z (H.ent (i:=0) Z) Z Z Z ⟨⟨ck,nx,wt,tx2,A2,c2⟩,Lr,Lp,rfl,by unfold Co.a;dsimp only;rw[hma],ho2,hp2,hoc2,hpc2,H.forget (.cons _ (.cons _ (.cons _ (aC _ _)))) (by simp)⟩
 refine G (Zd dJ H 2 Z Z Z)<|U<|da 0 N Z<|G (Zw av H 2 Z Z Z)<|U<|da 1 N Z<|cd iY (sG ⟨ck,nx,wt,txs,cA,cc⟩ _ ⟨H.rd0 0 Z,fun t ht=>fp H 1 Z ht,hcap,hfew,hfp⟩) Z Z ?_
 rintro _ w13 ⟨⟨ck2,nx2,wt2,tx2,A2,c2⟩,Lr,Lp,rfl,ha2,ho2,hp2,hoc2,hpc2,hj2⟩
 replace H:=H.joinR hj2;clear hj2
 simp only[Co.a,Co.mk.injEq]at ha2
 obtain⟨e1,e2,e3,hma,-,-⟩:=ha2
 obtain rfl:ck=ck2:=e1.symm
 obtain rfl:nx=nx2:=e2.symm
 obtain rfl:wt=wt2:=e3.symm
 dsimp only at ho2 hp2 hoc2 hpc2 H
 refine U<|da 5 N Z<|cd dA (fU txs cA cc _ (H.rd0 0 Z) I gI [.pointer (Qd b3)] ib (fun p=>decide (p.name=s)) (fun e w2 _ hw2=>nj e s b3 w2 ((hw2.block _ (bY (H.ent (i:=1) Z))).trans (H.ent (i:=1) Z)))) Z Z ?_
 rintro _ w14 ⟨rfl,hb⟩;replace H:=H.later hb;clear hb
 refine U<|da 6 N Z<|bo H 0 (#[J ck,J nx,J wt,.slice A2 tx2.length c2]) aF Z Z Z Z Z N N fun w15 H=>U<|da 7 N Z<|G (Wi Z)<|U<|da 8 N Z<|G (Wi Z)<|U<|cy N<|Zt ?_
 exact gj (cs0:= #[J ck,J nx,J wt,.slice A2 tx2.length c2]) (v1:=J (ls (txs.findIdx? fun p=>decide (p.name=s)))) (v2:=J 0) Z av Z (H.ent (i:=0) Z) Z Z Z ⟨⟨ck,nx,wt,tx2,A2,c2⟩,Lr,Lp,rfl,by unfold Co.a;dsimp only;rw[hma],ho2,hp2,hoc2,hpc2,H.forget (.cons _ (.cons _ (.cons _ (aC _ _)))) (by simp)⟩
theorem z5 (c:Co) (s:ByteArray) (ver:Int) (w:World) (h:c.rd 0 w.heap.size w) (hok:gA c=true) (hn:bM s=true) (hi:fF c s= -1):dd aa rb [c.v,.string s,J ver] w fun v w2=>v=.tuple #[.agg #[J 0,J 0,J 0,.slice none 0 0],J 0,J 5]/\Below w.heap.size w w2:=by
 refine aD pZ Z Z ?_
 have hcap:=h.cap
 have hfew:=h.few
 have hfp:=h.fewP
 have H:=Hp.startCo h
 obtain⟨ck,nx,wt,txs,cA,cc⟩:=c
 dsimp only at hcap hfew hfp H
 show CW _ _ _ _ (args [.agg #[J ck,J nx,J wt,.slice cA txs.length cc],.string s,J ver]) w
 refine W<|Zr<|fQ H Z Z fun w1 b3 H=>eH H cJ Z fun w2 b6 H=>G (Wi Z)<|G (Wi Z)<|U<|W<|Zr<|G (Zw av H 1 Z Z Z)<|G (Yt Z)<|cd hM (lz ⟨ck,nx,wt,txs,cA,cc⟩ s _ ⟨H.rd0 0 Z,fun t ht=>fp H 1 Z ht,hcap,hfew,hfp⟩ hok hn) Z Z ?_
 rintro _ w3 ⟨⟨ck2,nx2,wt2,tx2,A2,c2⟩,Lr,Lp,rfl,ha2,ho2,hp2,hoc2,hpc2,hj2⟩
 replace H:=H.joinR hj2;clear hj2
 simp only[Co.a,Co.mk.injEq]at ha2
 obtain⟨e1,e2,e3,hma,-,-⟩:=ha2
 obtain rfl:ck=ck2:=e1.symm
 obtain rfl:nx=nx2:=e2.symm
 obtain rfl:wt=wt2:=e3.symm
 dsimp only at ho2 hp2 hoc2 hpc2 H
 rw[hi]
 refine G (Yu Z)<|G (Xa Z Z)<|G (Xi Z Z)<|G (Xi Z Z)<|bo H 1 (#[J ck,J nx,J wt,.slice A2 tx2.length c2]) aF Z Z Z Z Z N N fun w4 H=>G (Wi Z)<|G (Wi Z)<|U<|W<|Zb<|W<|Zr<|G (Yi Z)<|G (bU Z Z Z)<|G (Wb Z)<|U<|ZF Z<|W<|Zr<|G (Yi Z)<|G (xz Z Z (by decide))<|G (Wb Z)<|U<|ZT Z<|W<|Zr<|G (bi (cs:= #[J 0,J 0,J 0,.slice none 0 0]) ft cJ N)<|bo H 0 (#[J 0,J 0,J 0,.slice none 0 0]) aF Z Z Z Z Z N N fun w5 H=>G (Wi Z)<|G (Wi Z)<|U<|Zt ?_
 exact gj (cs0:= #[J 0,J 0,J 0,.slice none 0 0]) (v1:=J 0) (v2:=J 5) Z av Z (H.ent (i:=0) Z) Z Z Z ⟨rfl,H.below⟩
theorem ym (c:Co) (s:ByteArray) (ver:Int) (i:Nat) (t:Tx) (w:World) (h:c.rd 0 w.heap.size w) (hok:gA c=true) (hn:bM s=true) (hi:fF c s=i) (ht:c.txs[i]? =some t) (hv:t.ver≠ver):dd aa rb [c.v,.string s,J ver] w fun v w2=>v=.tuple #[.agg #[J 0,J 0,J 0,.slice none 0 0],J 0,J 10]/\Below w.heap.size w w2:=by
 refine aD pZ Z Z ?_
 have hcap:=h.cap
 have hfew:=h.few
 have hfp:=h.fewP
 have H:=Hp.startCo h
 obtain⟨ck,nx,wt,txs,cA,cc⟩:=c
 dsimp only at hcap hfew hfp H
 show CW _ _ _ _ (args [.agg #[J ck,J nx,J wt,.slice cA txs.length cc],.string s,J ver]) w
 dsimp only at ht
 refine W<|Zr<|fQ H Z Z fun w1 b3 H=>eH H cJ Z fun w2 b6 H=>G (Wi Z)<|G (Wi Z)<|U<|W<|Zr<|G (Zw av H 1 Z Z Z)<|G (Yt Z)<|cd hM (lz ⟨ck,nx,wt,txs,cA,cc⟩ s _ ⟨H.rd0 0 Z,fun t ht=>fp H 1 Z ht,hcap,hfew,hfp⟩ hok hn) Z Z ?_
 rintro _ w3 ⟨⟨ck2,nx2,wt2,tx2,A2,c2⟩,Lr,Lp,rfl,ha2,ho2,hp2,hoc2,hpc2,hj2⟩
 replace H:=H.joinR hj2;clear hj2
 simp only[Co.a,Co.mk.injEq]at ha2
 obtain⟨e1,e2,e3,hma,-,-⟩:=ha2
 obtain rfl:ck=ck2:=e1.symm
 obtain rfl:nx=nx2:=e2.symm
 obtain rfl:wt=wt2:=e3.symm
 dsimp only at ho2 hp2 hoc2 hpc2 H
 rw[hi]
 refine G (Yu Z)<|G (Xa Z Z)<|G (Xi Z Z)<|G (Xi Z Z)<|bo H 1 (#[J ck,J nx,J wt,.slice A2 tx2.length c2]) aF Z Z Z Z Z N N fun w4 H=>G (Wi Z)<|G (Wi Z)<|U<|W<|Zb<|W<|Zr<|G (Yi Z)<|G (bU Z Z Z)<|G (Wb Z)<|U<|ZF Z<|W<|Zr<|G (Yi Z)<|G (cY Z Z I)<|G (Wb Z)<|U<|ZF Z<|W ?_
 obtain⟨t2,ht2,hta⟩:=qU hma ht
 have hl2:=(cE ht2).1
 obtain⟨g,cur,rfl,rfl,row⟩:=ho2.row I
 have hver:t2.ver=t.ver:=by show t2.a.ver=t.a.ver;rw[hta]
 refine Zr<|G (Zf cO Z)<|G (Zd dJ H 1 Z Z Z)<|G (Yi Z)<|G (cB gB Z Z I)<|G (Zf gk Z)<|G (bP aj row ht2 2 Z (H.ent (i:=2) Z) Z)<|G (Yi Z)<|G (jW Z Z I)<|G (Wb Z)<|U<|ZT Z<|W<|Zr<|G (bi (cs:= #[J 0,J 0,J 0,.slice none 0 0]) ft cJ N)<|bo H 0 (#[J 0,J 0,J 0,.slice none 0 0]) aF Z Z Z Z Z N N fun w5 H=>G (Wi Z)<|G (Wi Z)<|U<|Zt ?_
 exact gj (cs0:= #[J 0,J 0,J 0,.slice none 0 0]) (v1:=J 0) (v2:=J 10) Z av Z (H.ent (i:=0) Z) Z Z Z ⟨rfl,H.below⟩
theorem wv (c:Co) (s:ByteArray) (ver:Int) (i:Nat) (t:Tx) (w:World) (h:c.rd 0 w.heap.size w) (hok:gA c=true) (hn:bM s=true) (hi:fF c s=i) (ht:c.txs[i]? =some t) (hv:t.ver=ver):dd aa rb [c.v,.string s,J ver] w fun v w2=> ∃ (c':Co) (Lr Lp:List (Nat×Obj)),v=.tuple #[c'.v,J (i:Nat),J 0]/\qf w w2 c.a c' Lr Lp:=by
 refine aD pZ Z Z ?_
 have hcap:=h.cap
 have hfew:=h.few
 have hfp:=h.fewP
 have H:=Hp.startCo h
 obtain⟨ck,nx,wt,txs,cA,cc⟩:=c
 dsimp only at hcap hfew hfp H
 show CW _ _ _ _ (args [.agg #[J ck,J nx,J wt,.slice cA txs.length cc],.string s,J ver]) w
 dsimp only at ht
 refine W<|Zr<|fQ H Z Z fun w1 b3 H=>eH H cJ Z fun w2 b6 H=>G (Wi Z)<|G (Wi Z)<|U<|W<|Zr<|G (Zw av H 1 Z Z Z)<|G (Yt Z)<|cd hM (lz ⟨ck,nx,wt,txs,cA,cc⟩ s _ ⟨H.rd0 0 Z,fun t ht=>fp H 1 Z ht,hcap,hfew,hfp⟩ hok hn) Z Z ?_
 rintro _ w3 ⟨⟨ck2,nx2,wt2,tx2,A2,c2⟩,Lr,Lp,rfl,ha2,ho2,hp2,hoc2,hpc2,hj2⟩
 replace H:=H.joinR hj2;clear hj2
 simp only[Co.a,Co.mk.injEq]at ha2
 obtain⟨e1,e2,e3,hma,-,-⟩:=ha2
 obtain rfl:ck=ck2:=e1.symm
 obtain rfl:nx=nx2:=e2.symm
 obtain rfl:wt=wt2:=e3.symm
 dsimp only at ho2 hp2 hoc2 hpc2 H
 rw[hi]
 refine G (Yu Z)<|G (Xa Z Z)<|G (Xi Z Z)<|G (Xi Z Z)<|bo H 1 (#[J ck,J nx,J wt,.slice A2 tx2.length c2]) aF Z Z Z Z Z N N fun w4 H=>G (Wi Z)<|G (Wi Z)<|U<|W<|Zb<|W<|Zr<|G (Yi Z)<|G (bU Z Z Z)<|G (Wb Z)<|U<|ZF Z<|W<|Zr<|G (Yi Z)<|G (cY Z Z I)<|G (Wb Z)<|U<|ZF Z<|W ?_
 obtain⟨t2,ht2,hta⟩:=qU hma ht
 have hl2:=(cE ht2).1
 obtain⟨g,cur,rfl,rfl,row⟩:=ho2.row I
 have hver:t2.ver=t.ver:=by show t2.a.ver=t.a.ver;rw[hta]
 refine Zr<|G (Zf cO Z)<|G (Zd dJ H 1 Z Z Z)<|G (Yi Z)<|G (cB gB Z Z I)<|G (Zf gk Z)<|G (bP aj row ht2 2 Z (H.ent (i:=2) Z) Z)<|G (Yi Z)<|G (bU Z Z I)<|G (Wb Z)<|U<|ZF Z<|Zk<|W<|Zr<|G (Zw av H 1 Z Z Z)<|G (Yi Z)<|bo H 0 (#[J ck,J nx,J wt,.slice (Qd g) tx2.length c2]) aF Z Z Z Z Z N N fun w5 H=>G (Wi Z)<|G (Wi Z)<|U<|Zt ?_
 exact gj (cs0:= #[J ck,J nx,J wt,.slice (Qd g) tx2.length c2]) (v1:=J (i:Nat)) (v2:=J 0) Z av Z (H.ent (i:=0) Z) Z Z Z ⟨⟨ck,nx,wt,tx2,some ⟨g,0,none⟩,c2⟩,[(g,.cells cur dB (0,0))],Lp,rfl,by unfold Co.a;dsimp only;rw[hma],dT.own row,hp2,hoc2,hpc2,H.forget (.cons _ (.cons _ (aC _ _))) (by simp)⟩
/-- P5.5 -/
def eD (want:Int) (t:Tx):Option Tx:=if t.state=2 then some {t with state:=want}else if t.state=1/\t.done=0 then some {t with done:=want}else if t.state=want∨(t.state=1/\t.done=want)then some t else none
def vx (commit:Bool):Int:=if commit then 3 else 4
theorem er.same {ts:List Tx} {L:List (Nat×Obj)} {i:Nat} {t t':Tx} (h:er ts L) (hi:ts[i]? =some t) (h1:t'.A=t.A) (h2:t'.parts=t.parts) (h3:t'.cap=t.cap):er (ts.set i t') L:=by
 obtain⟨La,Lt,Lb,rfl,ho,hs⟩:=h.at_ hi
 exact hs t' Lt (by rw[h1,h2,h3];exact ho)
theorem HU {t t':Tx} (h:t'.a=t.a) (v:Int):({t' with state:=v}:Tx).a=({t with state:=v}:Tx).a:=congrArg (fun x:Tx=>({x with state:=v}:Tx)) h
theorem LN {t t':Tx} (h:t'.a=t.a) (v:Int):({t' with done:=v}:Tx).a=({t with done:=v}:Tx).a:=congrArg (fun x:Tx=>({x with done:=v}:Tx)) h
theorem oQ {txs tx2:List Tx} (h:tx2.map Tx.a=txs.map Tx.a) (i:Nat) {t t':Tx} (ht:t'.a=t.a):(tx2.set i t').map Tx.a=(txs.set i t).map Tx.a:=by rw[cw,cw,h,ht]
theorem rQ {ts:List Tx} (h: ∀ t∈ts,t.parts.length<=t.cap) {i:Nat} {t t':Tx} (hi:ts[i]? =some t) (h2:t'.parts=t.parts) (h3:t'.cap=t.cap): ∀ x∈ts.set i t',x.parts.length<=x.cap:=fun x hx=>by
 rcases bE hx with hx|rfl
 exact h x hx
 rw[h2,h3];exact h t (ae hi)
theorem Lf (c:Co) (s:ByteArray) (ver:Int) (i:Nat) (t:Tx) (w:World) (h:c.rd 0 w.heap.size w) (hok:gA c=true) (hn:bM s=true) (hi:fF c s=i) (ht:c.txs[i]? =some t) (hv:t.ver=ver):dd aa lL [c.v,.string s,J ver,.bool true] w fun v w2=>match eD 3 t with|none=>v=.tuple #[.agg #[J 0,J 0,J 0,.slice none 0 0],J 12]/\Below w.heap.size w w2|some t'=> ∃ (c':Co) (Lr Lp:List (Nat×Obj)),v=.tuple #[c'.v,J 0]/\qf w w2 (Co.a {c with txs:=c.txs.set i t'}) c' Lr Lp:=by
 refine aD px Z Z ?_
 have hcap:=h.cap
 have hfew:=h.few
 have hfp:=h.fewP
 have H:=Hp.startCo h
 obtain⟨ck,nx,wt,txs,cA,cc⟩:=c
 dsimp only at hcap hfew hfp H
 show CW _ _ _ _ (args [.agg #[J ck,J nx,J wt,.slice cA txs.length cc],.string s,J ver,.bool true]) w
 dsimp only at ht⊢
 refine W<|Zr<|fQ H Z Z fun w1 b4 H=>eH H cJ Z fun w2 b8 H=>G (Wi Z)<|U<|W<|Zr<|G (Zw av H 1 Z Z Z)<|G (Yt Z)<|G (Yi Z)<|cd gw (wv ⟨ck,nx,wt,txs,cA,cc⟩ s ver i t _ ⟨H.rd0 0 Z,fun t ht=>fp H 1 Z ht,hcap,hfew,hfp⟩ hok hn hi ht hv) Z Z ?_
 rintro _ w3 ⟨⟨ck2,nx2,wt2,tx2,A2,c2⟩,Lr,Lp,rfl,ha2,ho2,hp2,hoc2,hpc2,hj2⟩
 replace H:=H.joinR hj2;clear hj2
 simp only[Co.a,Co.mk.injEq]at ha2
 obtain⟨e1,e2,e3,hma,-,-⟩:=ha2
 obtain rfl:ck=ck2:=e1.symm
 obtain rfl:nx=nx2:=e2.symm
 obtain rfl:wt=wt2:=e3.symm
 dsimp only at ho2 hp2 hoc2 hpc2 H
 refine G (Yu Z)<|G (Xa Z Z)<|G (Xi Z Z)<|G (Xi Z Z)<|bo H 1 (#[J ck,J nx,J wt,.slice A2 tx2.length c2]) aF Z Z Z Z Z N N fun w4 H=>G (Wi Z)<|G (Wi Z)<|U<|W<|W<|Zr<|G (Yi Z)<|G (bU Z Z Z)<|U<|ZF Z<|Zk<|W<|Zr<|G (Wi Z)<|U<|W<|W<|Zr<|G (Yb Z)<|U<|ZT Z<|Zr<|G (Wi Z)<|U<|W<|W ?_
 obtain⟨t2,ht2,hta⟩:=qU hma ht
 have hl2:=(cE ht2).1
 obtain⟨g,cur,rfl,rfl,row⟩:=ho2.row I
 have hst:t2.state=t.state:=by show t2.a.state=t.a.state;rw[hta]
 have hdn:t2.done=t.done:=by show t2.a.done=t.a.done;rw[hta]
 refine Zr<|G (Zf cO Z)<|G (Zd dJ H 1 Z Z Z)<|G (Yi Z)<|G (cB gB Z Z I)<|G (Wp Z)<|U<|Zb<|W<|Zr<|G (Yp Z)<|G (aI Z)<|G (Zf cQ Z)<|G (bP aj row ht2 3 Z (H.ent (i:=2) Z) Z) ?_
 refine cT (bl Z Z) Z Z Z (fun h37=> ?_) (fun h37=> ?_)
 refine G (Wb Z)<|U<|ZT Z<|Zr<|G (Yp Z)<|G (Yi Z)<|G (aI Z)<|G (Zf cQ Z)<|kH H 2 ({t2 with state:=3}) bI row ht2 3 Z Z Z Z Z Z N fun w6 cur5 row5 H=>U<|W<|Zr<|G (Zw av H 1 Z Z Z)<|bo H 0 (#[J ck,J nx,J wt,.slice (Qd g) tx2.length c2]) aF Z Z Z Z Z N N fun w7 H=>G (Wi Z)<|U<|Zt ?_
 have hE:eD 3 t=some {t with state:=3}:=by unfold eD;rw[if_pos I]
 rw[hE]
 dsimp only
 exact bC (cs0:= #[J ck,J nx,J wt,.slice (Qd g) tx2.length c2]) (v1:=J 0) Z av Z (H.ent (i:=0) Z) Z Z ⟨⟨ck,nx,wt,(tx2.set i {t2 with state:=3}),some ⟨g,0,none⟩,c2⟩,[(g,.cells cur5 dB (0,0))],Lp,by unfold Co.v Co.c;dsimp only;rw[ab],by unfold Co.a;dsimp only;rw[oQ hma i (HU hta _)],dT.own row5,hp2.same ht2 Z Z Z,by dsimp only;rw[ab];exact hoc2,rQ hpc2 ht2 Z Z,H.forget (.cons _ (.cons _ (aC _ _))) (by simp)⟩
 refine G (Wb Z)<|U<|ZF Z<|W<|Zr<|G (Yp Z)<|G (aI Z)<|G (Zf cQ Z)<|G (bP aj row ht2 3 Z (H.ent (i:=2) Z) Z) ?_
 refine cT (bl Z Z) Z Z Z (fun h47=> ?_) (fun h47=> ?_)
 refine G (Yb Z)<|ZG<|G (Yp Z)<|ZG<|G (aI Z)<|ZG<|G (Zf jb Z)<|ZG<|G (bP aj row ht2 6 Z (H.ent (i:=2) Z) Z)<|ZG ?_
 refine cT (bl Z Z) Z Z Z (fun h53=> ?_) (fun h53=> ?_)
 refine G (Kt Z Z)<|G (Wb Z)<|U<|ZT Z<|Zr<|G (Yp Z)<|G (Yi Z)<|G (aI Z)<|G (Zf jb Z)<|kH H 2 ({t2 with done:=3}) bI row ht2 6 Z Z Z Z Z Z N fun w9 cur8 row8 H=>U<|W<|Zr<|G (Zw av H 1 Z Z Z)<|bo H 0 (#[J ck,J nx,J wt,.slice (Qd g) tx2.length c2]) aF Z Z Z Z Z N N fun w10 H=>G (Wi Z)<|U<|Zt ?_
 have hE:eD 3 t=some {t with done:=3}:=by unfold eD;rw[if_neg I,if_pos I]
 rw[hE]
 dsimp only
 exact bC (cs0:= #[J ck,J nx,J wt,.slice (Qd g) tx2.length c2]) (v1:=J 0) Z av Z (H.ent (i:=0) Z) Z Z ⟨⟨ck,nx,wt,(tx2.set i {t2 with done:=3}),some ⟨g,0,none⟩,c2⟩,[(g,.cells cur8 dB (0,0))],Lp,by unfold Co.v Co.c;dsimp only;rw[ab],by unfold Co.a;dsimp only;rw[oQ hma i (LN hta _)],dT.own row8,hp2.same ht2 Z Z Z,by dsimp only;rw[ab];exact hoc2,rQ hpc2 ht2 Z Z,H.forget (.cons _ (.cons _ (aC _ _))) (by simp)⟩
 refine G (Kt Z Z)<|G (Wb Z)<|U<|ZF Z<|W<|W<|Zr<|G (Yp Z)<|G (aI Z)<|G (Zf cQ Z)<|G (bP aj row ht2 3 Z (H.ent (i:=2) Z) Z)<|G (Yi Z) ?_
 refine cT (bl Z Z) Z Z Z (fun h65=> ?_) (fun h65=> ?_)
 refine G (Wb Z)<|U<|ZT Z<|Zk<|ZT Z<|Zk<|W<|Zr<|G (Zw av H 1 Z Z Z)<|bo H 0 (#[J ck,J nx,J wt,.slice (Qd g) tx2.length c2]) aF Z Z Z Z Z N N fun w11 H=>G (Wi Z)<|U<|Zt ?_
 have hE:eD 3 t=some t:=by unfold eD;rw[if_neg I,if_neg I,if_pos I]
 rw[hE]
 dsimp only
 exact bC (cs0:= #[J ck,J nx,J wt,.slice (Qd g) tx2.length c2]) (v1:=J 0) Z av Z (H.ent (i:=0) Z) Z Z ⟨⟨ck,nx,wt,tx2,some ⟨g,0,none⟩,c2⟩,[(g,.cells cur dB (0,0))],Lp,rfl,by unfold Co.a;dsimp only;rw[iH ht,hma],dT.own row,hp2,hoc2,hpc2,H.forget (.cons _ (.cons _ (aC _ _))) (by simp)⟩
 refine G (Wb Z)<|U<|ZF Z<|Zr<|G (Yp Z)<|G (aI Z)<|G (Zf cQ Z)<|G (bP aj row ht2 3 Z (H.ent (i:=2) Z) Z) ?_
 refine cT (bl Z Z) Z Z Z (fun h70=> ?_) (fun h70=> ?_)
 refine G (Yb Z)<|ZG<|G (Yp Z)<|ZG<|G (aI Z)<|ZG<|G (Zf jb Z)<|ZG<|G (bP aj row ht2 6 Z (H.ent (i:=2) Z) Z)<|ZG<|G (Yi Z)<|ZG ?_
 refine cT (bl Z Z) Z Z Z (fun h77=> ?_) (fun h77=> ?_)
 refine G (Kt Z Z)<|G (Wb Z)<|U<|ZT Z<|Zk<|W<|Zr<|G (Zw av H 1 Z Z Z)<|bo H 0 (#[J ck,J nx,J wt,.slice (Qd g) tx2.length c2]) aF Z Z Z Z Z N N fun w12 H=>G (Wi Z)<|U<|Zt ?_
 have hE:eD 3 t=some t:=by unfold eD;rw[if_neg I,if_neg I,if_pos I]
 rw[hE]
 dsimp only
 exact bC (cs0:= #[J ck,J nx,J wt,.slice (Qd g) tx2.length c2]) (v1:=J 0) Z av Z (H.ent (i:=0) Z) Z Z ⟨⟨ck,nx,wt,tx2,some ⟨g,0,none⟩,c2⟩,[(g,.cells cur dB (0,0))],Lp,rfl,by unfold Co.a;dsimp only;rw[iH ht,hma],dT.own row,hp2,hoc2,hpc2,H.forget (.cons _ (.cons _ (aC _ _))) (by simp)⟩
 refine G (Kt Z Z)<|G (Wb Z)<|U<|ZF Z<|W<|Zr<|G (bi (cs:= #[J 0,J 0,J 0,.slice none 0 0]) ft cJ N)<|bo H 0 (#[J 0,J 0,J 0,.slice none 0 0]) aF Z Z Z Z Z N N fun w13 H=>G (Wi Z)<|U<|Zt ?_
 have hE:eD 3 t=none:=by unfold eD;rw[if_neg I,if_neg I,if_neg I]
 rw[hE]
 dsimp only
 exact bC (cs0:= #[J 0,J 0,J 0,.slice none 0 0]) (v1:=J 12) Z av Z (H.ent (i:=0) Z) Z Z ⟨rfl,H.below⟩
 refine G (Yb Z)<|ZN<|ZN<|ZN<|ZN<|ZN<|ZN<|G (N Z Z)<|G (Wb Z)<|U<|ZF Z<|W<|Zr<|G (bi (cs:= #[J 0,J 0,J 0,.slice none 0 0]) ft cJ N)<|bo H 0 (#[J 0,J 0,J 0,.slice none 0 0]) aF Z Z Z Z Z N N fun w14 H=>G (Wi Z)<|U<|Zt ?_
 have hE:eD 3 t=none:=by unfold eD;rw[if_neg I,if_neg I,if_neg I]
 rw[hE]
 dsimp only
 exact bC (cs0:= #[J 0,J 0,J 0,.slice none 0 0]) (v1:=J 12) Z av Z (H.ent (i:=0) Z) Z Z ⟨rfl,H.below⟩
 refine G (Yb Z)<|ZN<|ZN<|ZN<|ZN<|ZN<|G (N Z Z)<|G (Wb Z)<|U<|ZF Z<|W<|W<|Zr<|G (Yp Z)<|G (aI Z)<|G (Zf cQ Z)<|G (bP aj row ht2 3 Z (H.ent (i:=2) Z) Z)<|G (Yi Z) ?_
 refine cT (bl Z Z) Z Z Z (fun h65=> ?_) (fun h65=> ?_)
 refine G (Wb Z)<|U<|ZT Z<|Zk<|ZT Z<|Zk<|W<|Zr<|G (Zw av H 1 Z Z Z)<|bo H 0 (#[J ck,J nx,J wt,.slice (Qd g) tx2.length c2]) aF Z Z Z Z Z N N fun w15 H=>G (Wi Z)<|U<|Zt ?_
 have hE:eD 3 t=some t:=by unfold eD;rw[if_neg I,if_neg I,if_pos I]
 rw[hE]
 dsimp only
 exact bC (cs0:= #[J ck,J nx,J wt,.slice (Qd g) tx2.length c2]) (v1:=J 0) Z av Z (H.ent (i:=0) Z) Z Z ⟨⟨ck,nx,wt,tx2,some ⟨g,0,none⟩,c2⟩,[(g,.cells cur dB (0,0))],Lp,rfl,by unfold Co.a;dsimp only;rw[iH ht,hma],dT.own row,hp2,hoc2,hpc2,H.forget (.cons _ (.cons _ (aC _ _))) (by simp)⟩
 refine G (Wb Z)<|U<|ZF Z<|Zr<|G (Yp Z)<|G (aI Z)<|G (Zf cQ Z)<|G (bP aj row ht2 3 Z (H.ent (i:=2) Z) Z) ?_
 refine cT (bl Z Z) Z Z Z (fun h70=> ?_) (fun h70=> ?_)
 refine G (Yb Z)<|ZG<|G (Yp Z)<|ZG<|G (aI Z)<|ZG<|G (Zf jb Z)<|ZG<|G (bP aj row ht2 6 Z (H.ent (i:=2) Z) Z)<|ZG<|G (Yi Z)<|ZG ?_
 refine cT (bl Z Z) Z Z Z (fun h77=> ?_) (fun h77=> ?_)
 refine G (Kt Z Z)<|G (Wb Z)<|U<|ZT Z<|Zk<|W<|Zr<|G (Zw av H 1 Z Z Z)<|bo H 0 (#[J ck,J nx,J wt,.slice (Qd g) tx2.length c2]) aF Z Z Z Z Z N N fun w16 H=>G (Wi Z)<|U<|Zt ?_
 have hE:eD 3 t=some t:=by unfold eD;rw[if_neg I,if_neg I,if_pos I]
 rw[hE]
 dsimp only
 exact bC (cs0:= #[J ck,J nx,J wt,.slice (Qd g) tx2.length c2]) (v1:=J 0) Z av Z (H.ent (i:=0) Z) Z Z ⟨⟨ck,nx,wt,tx2,some ⟨g,0,none⟩,c2⟩,[(g,.cells cur dB (0,0))],Lp,rfl,by unfold Co.a;dsimp only;rw[iH ht,hma],dT.own row,hp2,hoc2,hpc2,H.forget (.cons _ (.cons _ (aC _ _))) (by simp)⟩
 refine G (Kt Z Z)<|G (Wb Z)<|U<|ZF Z<|W<|Zr<|G (bi (cs:= #[J 0,J 0,J 0,.slice none 0 0]) ft cJ N)<|bo H 0 (#[J 0,J 0,J 0,.slice none 0 0]) aF Z Z Z Z Z N N fun w17 H=>G (Wi Z)<|U<|Zt ?_
 have hE:eD 3 t=none:=by unfold eD;rw[if_neg I,if_neg I,if_neg I]
 rw[hE]
 dsimp only
 exact bC (cs0:= #[J 0,J 0,J 0,.slice none 0 0]) (v1:=J 12) Z av Z (H.ent (i:=0) Z) Z Z ⟨rfl,H.below⟩
 refine G (Yb Z)<|ZN<|ZN<|ZN<|ZN<|ZN<|ZN<|G (N Z Z)<|G (Wb Z)<|U<|ZF Z<|W<|Zr<|G (bi (cs:= #[J 0,J 0,J 0,.slice none 0 0]) ft cJ N)<|bo H 0 (#[J 0,J 0,J 0,.slice none 0 0]) aF Z Z Z Z Z N N fun w18 H=>G (Wi Z)<|U<|Zt ?_
 have hE:eD 3 t=none:=by unfold eD;rw[if_neg I,if_neg I,if_neg I]
 rw[hE]
 dsimp only
 exact bC (cs0:= #[J 0,J 0,J 0,.slice none 0 0]) (v1:=J 12) Z av Z (H.ent (i:=0) Z) Z Z ⟨rfl,H.below⟩
theorem Jb (c:Co) (s:ByteArray) (ver:Int) (i:Nat) (t:Tx) (w:World) (h:c.rd 0 w.heap.size w) (hok:gA c=true) (hn:bM s=true) (hi:fF c s=i) (ht:c.txs[i]? =some t) (hv:t.ver=ver):dd aa lL [c.v,.string s,J ver,.bool false] w fun v w2=>match eD 4 t with|none=>v=.tuple #[.agg #[J 0,J 0,J 0,.slice none 0 0],J 12]/\Below w.heap.size w w2|some t'=> ∃ (c':Co) (Lr Lp:List (Nat×Obj)),v=.tuple #[c'.v,J 0]/\qf w w2 (Co.a {c with txs:=c.txs.set i t'}) c' Lr Lp:=by
 refine aD px Z Z ?_
 have hcap:=h.cap
 have hfew:=h.few
 have hfp:=h.fewP
 have H:=Hp.startCo h
 obtain⟨ck,nx,wt,txs,cA,cc⟩:=c
 dsimp only at hcap hfew hfp H
 show CW _ _ _ _ (args [.agg #[J ck,J nx,J wt,.slice cA txs.length cc],.string s,J ver,.bool false]) w
 dsimp only at ht⊢
 refine W<|Zr<|fQ H Z Z fun w1 b4 H=>eH H cJ Z fun w2 b8 H=>G (Wi Z)<|U<|W<|Zr<|G (Zw av H 1 Z Z Z)<|G (Yt Z)<|G (Yi Z)<|cd gw (wv ⟨ck,nx,wt,txs,cA,cc⟩ s ver i t _ ⟨H.rd0 0 Z,fun t ht=>fp H 1 Z ht,hcap,hfew,hfp⟩ hok hn hi ht hv) Z Z ?_
 rintro _ w3 ⟨⟨ck2,nx2,wt2,tx2,A2,c2⟩,Lr,Lp,rfl,ha2,ho2,hp2,hoc2,hpc2,hj2⟩
 replace H:=H.joinR hj2;clear hj2
 simp only[Co.a,Co.mk.injEq]at ha2
 obtain⟨e1,e2,e3,hma,-,-⟩:=ha2
 obtain rfl:ck=ck2:=e1.symm
 obtain rfl:nx=nx2:=e2.symm
 obtain rfl:wt=wt2:=e3.symm
 dsimp only at ho2 hp2 hoc2 hpc2 H
 refine G (Yu Z)<|G (Xa Z Z)<|G (Xi Z Z)<|G (Xi Z Z)<|bo H 1 (#[J ck,J nx,J wt,.slice A2 tx2.length c2]) aF Z Z Z Z Z N N fun w4 H=>G (Wi Z)<|G (Wi Z)<|U<|W<|W<|Zr<|G (Yi Z)<|G (bU Z Z Z)<|U<|ZF Z<|Zk<|W<|Zr<|G (Wi Z)<|U<|W<|W<|Zr<|G (Yb Z)<|U<|ZF Z<|Zk<|W<|W ?_
 obtain⟨t2,ht2,hta⟩:=qU hma ht
 have hl2:=(cE ht2).1
 obtain⟨g,cur,rfl,rfl,row⟩:=ho2.row I
 have hst:t2.state=t.state:=by show t2.a.state=t.a.state;rw[hta]
 have hdn:t2.done=t.done:=by show t2.a.done=t.a.done;rw[hta]
 refine Zr<|G (Zf cO Z)<|G (Zd dJ H 1 Z Z Z)<|G (Yi Z)<|G (cB gB Z Z I)<|G (Wp Z)<|U<|Zb<|W<|Zr<|G (Yp Z)<|G (aI Z)<|G (Zf cQ Z)<|G (bP aj row ht2 3 Z (H.ent (i:=2) Z) Z) ?_
 refine cT (bl Z Z) Z Z Z (fun h37=> ?_) (fun h37=> ?_)
 refine G (Wb Z)<|U<|ZT Z<|Zr<|G (Yp Z)<|G (Yi Z)<|G (aI Z)<|G (Zf cQ Z)<|kH H 2 ({t2 with state:=4}) bI row ht2 3 Z Z Z Z Z Z N fun w6 cur5 row5 H=>U<|W<|Zr<|G (Zw av H 1 Z Z Z)<|bo H 0 (#[J ck,J nx,J wt,.slice (Qd g) tx2.length c2]) aF Z Z Z Z Z N N fun w7 H=>G (Wi Z)<|U<|Zt ?_
 have hE:eD 4 t=some {t with state:=4}:=by unfold eD;rw[if_pos I]
 rw[hE]
 dsimp only
 exact bC (cs0:= #[J ck,J nx,J wt,.slice (Qd g) tx2.length c2]) (v1:=J 0) Z av Z (H.ent (i:=0) Z) Z Z ⟨⟨ck,nx,wt,(tx2.set i {t2 with state:=4}),some ⟨g,0,none⟩,c2⟩,[(g,.cells cur5 dB (0,0))],Lp,by unfold Co.v Co.c;dsimp only;rw[ab],by unfold Co.a;dsimp only;rw[oQ hma i (HU hta _)],dT.own row5,hp2.same ht2 Z Z Z,by dsimp only;rw[ab];exact hoc2,rQ hpc2 ht2 Z Z,H.forget (.cons _ (.cons _ (aC _ _))) (by simp)⟩
 refine G (Wb Z)<|U<|ZF Z<|W<|Zr<|G (Yp Z)<|G (aI Z)<|G (Zf cQ Z)<|G (bP aj row ht2 3 Z (H.ent (i:=2) Z) Z) ?_
 refine cT (bl Z Z) Z Z Z (fun h47=> ?_) (fun h47=> ?_)
 refine G (Yb Z)<|ZG<|G (Yp Z)<|ZG<|G (aI Z)<|ZG<|G (Zf jb Z)<|ZG<|G (bP aj row ht2 6 Z (H.ent (i:=2) Z) Z)<|ZG ?_
 refine cT (bl Z Z) Z Z Z (fun h53=> ?_) (fun h53=> ?_)
 refine G (Kt Z Z)<|G (Wb Z)<|U<|ZT Z<|Zr<|G (Yp Z)<|G (Yi Z)<|G (aI Z)<|G (Zf jb Z)<|kH H 2 ({t2 with done:=4}) bI row ht2 6 Z Z Z Z Z Z N fun w9 cur8 row8 H=>U<|W<|Zr<|G (Zw av H 1 Z Z Z)<|bo H 0 (#[J ck,J nx,J wt,.slice (Qd g) tx2.length c2]) aF Z Z Z Z Z N N fun w10 H=>G (Wi Z)<|U<|Zt ?_
 have hE:eD 4 t=some {t with done:=4}:=by unfold eD;rw[if_neg I,if_pos I]
 rw[hE]
 dsimp only
 exact bC (cs0:= #[J ck,J nx,J wt,.slice (Qd g) tx2.length c2]) (v1:=J 0) Z av Z (H.ent (i:=0) Z) Z Z ⟨⟨ck,nx,wt,(tx2.set i {t2 with done:=4}),some ⟨g,0,none⟩,c2⟩,[(g,.cells cur8 dB (0,0))],Lp,by unfold Co.v Co.c;dsimp only;rw[ab],by unfold Co.a;dsimp only;rw[oQ hma i (LN hta _)],dT.own row8,hp2.same ht2 Z Z Z,by dsimp only;rw[ab];exact hoc2,rQ hpc2 ht2 Z Z,H.forget (.cons _ (.cons _ (aC _ _))) (by simp)⟩
 refine G (Kt Z Z)<|G (Wb Z)<|U<|ZF Z<|W<|W<|Zr<|G (Yp Z)<|G (aI Z)<|G (Zf cQ Z)<|G (bP aj row ht2 3 Z (H.ent (i:=2) Z) Z)<|G (Yi Z) ?_
 refine cT (bl Z Z) Z Z Z (fun h65=> ?_) (fun h65=> ?_)
 refine G (Wb Z)<|U<|ZT Z<|Zk<|ZT Z<|Zk<|W<|Zr<|G (Zw av H 1 Z Z Z)<|bo H 0 (#[J ck,J nx,J wt,.slice (Qd g) tx2.length c2]) aF Z Z Z Z Z N N fun w11 H=>G (Wi Z)<|U<|Zt ?_
 have hE:eD 4 t=some t:=by unfold eD;rw[if_neg I,if_neg I,if_pos I]
 rw[hE]
 dsimp only
 exact bC (cs0:= #[J ck,J nx,J wt,.slice (Qd g) tx2.length c2]) (v1:=J 0) Z av Z (H.ent (i:=0) Z) Z Z ⟨⟨ck,nx,wt,tx2,some ⟨g,0,none⟩,c2⟩,[(g,.cells cur dB (0,0))],Lp,rfl,by unfold Co.a;dsimp only;rw[iH ht,hma],dT.own row,hp2,hoc2,hpc2,H.forget (.cons _ (.cons _ (aC _ _))) (by simp)⟩
 refine G (Wb Z)<|U<|ZF Z<|Zr<|G (Yp Z)<|G (aI Z)<|G (Zf cQ Z)<|G (bP aj row ht2 3 Z (H.ent (i:=2) Z) Z) ?_
 refine cT (bl Z Z) Z Z Z (fun h70=> ?_) (fun h70=> ?_)
 refine G (Yb Z)<|ZG<|G (Yp Z)<|ZG<|G (aI Z)<|ZG<|G (Zf jb Z)<|ZG<|G (bP aj row ht2 6 Z (H.ent (i:=2) Z) Z)<|ZG<|G (Yi Z)<|ZG ?_
 refine cT (bl Z Z) Z Z Z (fun h77=> ?_) (fun h77=> ?_)
 refine G (Kt Z Z)<|G (Wb Z)<|U<|ZT Z<|Zk<|W<|Zr<|G (Zw av H 1 Z Z Z)<|bo H 0 (#[J ck,J nx,J wt,.slice (Qd g) tx2.length c2]) aF Z Z Z Z Z N N fun w12 H=>G (Wi Z)<|U<|Zt ?_
 have hE:eD 4 t=some t:=by unfold eD;rw[if_neg I,if_neg I,if_pos I]
 rw[hE]
 dsimp only
 exact bC (cs0:= #[J ck,J nx,J wt,.slice (Qd g) tx2.length c2]) (v1:=J 0) Z av Z (H.ent (i:=0) Z) Z Z ⟨⟨ck,nx,wt,tx2,some ⟨g,0,none⟩,c2⟩,[(g,.cells cur dB (0,0))],Lp,rfl,by unfold Co.a;dsimp only;rw[iH ht,hma],dT.own row,hp2,hoc2,hpc2,H.forget (.cons _ (.cons _ (aC _ _))) (by simp)⟩
 refine G (Kt Z Z)<|G (Wb Z)<|U<|ZF Z<|W<|Zr<|G (bi (cs:= #[J 0,J 0,J 0,.slice none 0 0]) ft cJ N)<|bo H 0 (#[J 0,J 0,J 0,.slice none 0 0]) aF Z Z Z Z Z N N fun w13 H=>G (Wi Z)<|U<|Zt ?_
 have hE:eD 4 t=none:=by unfold eD;rw[if_neg I,if_neg I,if_neg I]
 rw[hE]
 dsimp only
 exact bC (cs0:= #[J 0,J 0,J 0,.slice none 0 0]) (v1:=J 12) Z av Z (H.ent (i:=0) Z) Z Z ⟨rfl,H.below⟩
 refine G (Yb Z)<|ZN<|ZN<|ZN<|ZN<|ZN<|ZN<|G (N Z Z)<|G (Wb Z)<|U<|ZF Z<|W<|Zr<|G (bi (cs:= #[J 0,J 0,J 0,.slice none 0 0]) ft cJ N)<|bo H 0 (#[J 0,J 0,J 0,.slice none 0 0]) aF Z Z Z Z Z N N fun w14 H=>G (Wi Z)<|U<|Zt ?_
 have hE:eD 4 t=none:=by unfold eD;rw[if_neg I,if_neg I,if_neg I]
 rw[hE]
 dsimp only
 exact bC (cs0:= #[J 0,J 0,J 0,.slice none 0 0]) (v1:=J 12) Z av Z (H.ent (i:=0) Z) Z Z ⟨rfl,H.below⟩
 refine G (Yb Z)<|ZN<|ZN<|ZN<|ZN<|ZN<|G (N Z Z)<|G (Wb Z)<|U<|ZF Z<|W<|W<|Zr<|G (Yp Z)<|G (aI Z)<|G (Zf cQ Z)<|G (bP aj row ht2 3 Z (H.ent (i:=2) Z) Z)<|G (Yi Z) ?_
 refine cT (bl Z Z) Z Z Z (fun h65=> ?_) (fun h65=> ?_)
 refine G (Wb Z)<|U<|ZT Z<|Zk<|ZT Z<|Zk<|W<|Zr<|G (Zw av H 1 Z Z Z)<|bo H 0 (#[J ck,J nx,J wt,.slice (Qd g) tx2.length c2]) aF Z Z Z Z Z N N fun w15 H=>G (Wi Z)<|U<|Zt ?_
 have hE:eD 4 t=some t:=by unfold eD;rw[if_neg I,if_neg I,if_pos I]
 rw[hE]
 dsimp only
 exact bC (cs0:= #[J ck,J nx,J wt,.slice (Qd g) tx2.length c2]) (v1:=J 0) Z av Z (H.ent (i:=0) Z) Z Z ⟨⟨ck,nx,wt,tx2,some ⟨g,0,none⟩,c2⟩,[(g,.cells cur dB (0,0))],Lp,rfl,by unfold Co.a;dsimp only;rw[iH ht,hma],dT.own row,hp2,hoc2,hpc2,H.forget (.cons _ (.cons _ (aC _ _))) (by simp)⟩
 refine G (Wb Z)<|U<|ZF Z<|Zr<|G (Yp Z)<|G (aI Z)<|G (Zf cQ Z)<|G (bP aj row ht2 3 Z (H.ent (i:=2) Z) Z) ?_
 refine cT (bl Z Z) Z Z Z (fun h70=> ?_) (fun h70=> ?_)
 refine G (Yb Z)<|ZG<|G (Yp Z)<|ZG<|G (aI Z)<|ZG<|G (Zf jb Z)<|ZG<|G (bP aj row ht2 6 Z (H.ent (i:=2) Z) Z)<|ZG<|G (Yi Z)<|ZG ?_
 refine cT (bl Z Z) Z Z Z (fun h77=> ?_) (fun h77=> ?_)
 refine G (Kt Z Z)<|G (Wb Z)<|U<|ZT Z<|Zk<|W<|Zr<|G (Zw av H 1 Z Z Z)<|bo H 0 (#[J ck,J nx,J wt,.slice (Qd g) tx2.length c2]) aF Z Z Z Z Z N N fun w16 H=>G (Wi Z)<|U<|Zt ?_
 have hE:eD 4 t=some t:=by unfold eD;rw[if_neg I,if_neg I,if_pos I]
 rw[hE]
 dsimp only
 exact bC (cs0:= #[J ck,J nx,J wt,.slice (Qd g) tx2.length c2]) (v1:=J 0) Z av Z (H.ent (i:=0) Z) Z Z ⟨⟨ck,nx,wt,tx2,some ⟨g,0,none⟩,c2⟩,[(g,.cells cur dB (0,0))],Lp,rfl,by unfold Co.a;dsimp only;rw[iH ht,hma],dT.own row,hp2,hoc2,hpc2,H.forget (.cons _ (.cons _ (aC _ _))) (by simp)⟩
 refine G (Kt Z Z)<|G (Wb Z)<|U<|ZF Z<|W<|Zr<|G (bi (cs:= #[J 0,J 0,J 0,.slice none 0 0]) ft cJ N)<|bo H 0 (#[J 0,J 0,J 0,.slice none 0 0]) aF Z Z Z Z Z N N fun w17 H=>G (Wi Z)<|U<|Zt ?_
 have hE:eD 4 t=none:=by unfold eD;rw[if_neg I,if_neg I,if_neg I]
 rw[hE]
 dsimp only
 exact bC (cs0:= #[J 0,J 0,J 0,.slice none 0 0]) (v1:=J 12) Z av Z (H.ent (i:=0) Z) Z Z ⟨rfl,H.below⟩
 refine G (Yb Z)<|ZN<|ZN<|ZN<|ZN<|ZN<|ZN<|G (N Z Z)<|G (Wb Z)<|U<|ZF Z<|W<|Zr<|G (bi (cs:= #[J 0,J 0,J 0,.slice none 0 0]) ft cJ N)<|bo H 0 (#[J 0,J 0,J 0,.slice none 0 0]) aF Z Z Z Z Z N N fun w18 H=>G (Wi Z)<|U<|Zt ?_
 have hE:eD 4 t=none:=by unfold eD;rw[if_neg I,if_neg I,if_neg I]
 rw[hE]
 dsimp only
 exact bC (cs0:= #[J 0,J 0,J 0,.slice none 0 0]) (v1:=J 12) Z av Z (H.ent (i:=0) Z) Z Z ⟨rfl,H.below⟩
/-- P5.7: what a tick does to one producer's transaction -/
def fh (clock wait:Int) (t:Tx):Tx:=if t.state=2/\wait<=clock-t.since/\t.ver<1073741824 then{t with state:=4,ver:=t.ver+1}else t
theorem JS (ck wt:Int) (t:Tx):(fh ck wt t).a=fh ck wt t.a:=by
 unfold fh
 by_cases h:t.state=2/\wt<=ck-t.since/\t.ver<1073741824
 rw[if_pos h,if_pos (show t.a.state=2/\wt<=ck-t.a.since/\t.a.ver<1073741824 from h)];rfl
 rw[if_neg h,if_neg (show¬ (t.a.state=2/\wt<=ck-t.a.since/\t.a.ver<1073741824)from h)]
theorem Cb (ck wt:Int) (t:Tx):(fh ck wt t).A=t.A/\(fh ck wt t).parts=t.parts/\(fh ck wt t).cap=t.cap:=by
 unfold fh
 split<;>exact⟨rfl,rfl,rfl⟩
theorem er.tick (ck wt:Int): ∀ {ts:List Tx} {L:List (Nat×Obj)},er ts L->er (ts.map (fh ck wt)) L
 |[],_,h=>h
 |t::_,_,⟨L1,L2,h1,h2,h3⟩=>⟨L1,L2,h1,by obtain⟨a,b,c⟩:=Cb ck wt t;rw[a,b,c];exact h2,er.tick ck wt h3⟩
def mc (ck wt:Int) (ts:List Tx) (k:Nat):List Tx:=(ts.take k).map (fh ck wt)++ts.drop k
theorem zp (ck wt:Int) (ts:List Tx) (k:Nat):(mc ck wt ts k).length=ts.length:=by
 unfold mc;simp;omega
theorem Ie {ck wt:Int} {ts:List Tx} {k:Nat} {x:Tx} (h:ts[k]? =some x):(mc ck wt ts k)[k]? =some x:=by
 have:=(cE h).1
 unfold mc
 rw[cv (by simp;omega)]
 simp
 rw[show k-min k ts.length=0 by omega]
 simpa using h
theorem r7 {ck wt:Int} {ts:List Tx} {k:Nat} {x:Tx} (h:ts[k]? =some x):(mc ck wt ts k).set k (fh ck wt x)=mc ck wt ts (k+1):=by
 have hl:=(cE h).1
 unfold mc
 rw[eI h,cM h,bk,i5 _ _ (by simp;omega)]
 simp
 rw[show k-min k ts.length=0 by omega]
 simp
theorem uf {ck nx:Int}: ∀ {l pre:List Tx},nP ck nx pre l=true-> ∀ t∈l,fB ck nx t=true
 |[],_,_,_,ht=>by cases ht
 |x::l,pre,h,t,ht=>by
  unfold nP at h
  simp only[aQ]at h
  rcases ax.1 ht with rfl|ht
  exact h.1.1
  exact uf h.2 t ht
def vy (c:Co) (n:Int):Co:={c with clock:=c.clock+n,txs:=c.txs.map (fh (c.clock+n) c.wait)}
theorem L0 (c:Co) (n:Int) (w:World) (h:c.rd 0 w.heap.size w) (hok:gA c=true) (hn0:0<=n) (hn1:n<=1000) (hcl:c.clock+n<=1073741824):dd aa sr [c.v,J n] w fun v w2=> ∃ (c':Co) (Lr Lp:List (Nat×Obj)),v=.tuple #[c'.v,J 0]/\qf w w2 (vy c.a n) c' Lr Lp:=by
 refine aD vd Z Z ?_
 have hcap:=h.cap
 have hfew:=h.few
 have hfp:=h.fewP
 have H:=Hp.startCo h
 obtain⟨ck,nx,wt,txs,cA,cc⟩:=c
 dsimp only at hcap hfew hfp H
 show CW _ _ _ _ (args [.agg #[J ck,J nx,J wt,.slice cA txs.length cc],J n]) w
 dsimp only at hcl
 obtain⟨q1,q2,q3,q4,q5,q6,q7⟩:=iR.1 hok
 dsimp only at q1 q2 q3 q4 q5 q6
 obtain⟨q8,q9⟩:=uw q1
 refine W<|Zr<|fQ H Z Z fun w1 b2 H=>eH H cJ Z fun w2 b4 H=>G (Wi Z)<|U<|W<|W<|Zr<|G (Zw av H 1 Z Z Z)<|cd kh (p9 ⟨ck,nx,wt,txs,cA,cc⟩ _ ⟨H.rd0 0 Z,fun t ht=>fp H 1 Z ht,hcap,hfew,hfp⟩) Z Z ?_
 rw[hok]
 rintro _ w3 ⟨rfl,hb⟩;replace H:=H.later hb;clear hb
 refine G (Wi Z)<|U<|W<|Zr<|G (Yi Z)<|G (bU Z Z Z)<|U<|ZF Z<|Zk<|W<|W<|Zr<|G (Yi Z)<|G (cY Z Z I)<|G (Yb Z)<|ZG<|G (Yi Z)<|ZG<|G (en Z Z I)<|G (N Z Z)<|G (Yb Z)<|ZG<|G (Zf kb Z)<|ZG<|G (Zd aj H 1 Z Z Z)<|ZG<|G (Yi Z)<|ZG<|G (br Z Z I I)<|ZG<|G (en Z Z I)<|G (N Z Z)<|U<|ZF Z<|Zk<|W<|Zr<|G (Zw av H 1 Z Z Z)<|cd iY (sG ⟨ck,nx,wt,txs,cA,cc⟩ _ ⟨H.rd0 0 Z,fun t ht=>fp H 1 Z ht,hcap,hfew,hfp⟩) Z Z ?_
 rintro _ w4 ⟨⟨ck2,nx2,wt2,tx2,A2,c2⟩,Lr,Lp,rfl,ha2,ho2,hp2,hoc2,hpc2,hj2⟩
 replace H:=H.joinR hj2;clear hj2
 simp only[Co.a,Co.mk.injEq]at ha2
 obtain⟨e1,e2,e3,hma,-,-⟩:=ha2
 obtain rfl:ck=ck2:=e1.symm
 obtain rfl:nx=nx2:=e2.symm
 obtain rfl:wt=wt2:=e3.symm
 dsimp only at ho2 hp2 hoc2 hpc2 H
 have hlen2:tx2.length=txs.length:=by have:=congrArg cu hma;simpa using this
 refine bo H 1 (#[J ck,J nx,J wt,.slice A2 tx2.length c2]) aF Z Z Z Z Z N N fun w5 H=>U<|W<|Zr<|G (Zf kb Z)<|G (Zd aj H 1 Z Z Z)<|G (Yi Z)<|G (br Z Z I I)<|G (Zf kb Z)<|bo H 1 (#[J (ck+n),J nx,J wt,.slice A2 tx2.length c2]) bI Z Z Z Z Z N N fun w6 H=>U<|W<|W<|Zr<|G (Zf cO Z)<|G (Zd dJ H 1 Z Z Z)<|G (bn kS Z)<|G (Yi Z)<|U<|Zb ?_
 refine ce (τ:=Nat×Option Addr) [7,8,39,40,41,42,43,44,45,46,47,48,49,50,51,52,53,54,55,56,57,58,59,60,61,62,63,64,65,66,67,68,69,70,71,72,73,74,75,76,77,78,79,80] (fun(k,_)=>[(39,J (k:Nat))]) (fun(k,A2) w'=>k<=tx2.length/\ ∃ L',gd rx (.slice A2 (mc (ck+n) wt tx2 k).length c2) dB (mc (ck+n) wt tx2 k) L'/\Hp w w' ([(b4,.cells #[J 0,J 0,J 0,.slice none 0 0] bd (0,0)),(b2,.cells #[J (ck+n),J nx,J wt,.slice A2 tx2.length c2] bd (0,0))]++L'++(Lp++[])) [dM rx 0 w.heap.size cA txs,iy 0 w.heap.size txs]) (fun(k,_)=>tx2.length-k) (0,A2) ⟨by omega,Lr,by unfold mc;simpa using ho2,by show Hp w _ (_::_::(Lr++(Lp++[]))) _;rw[<-aE];exact H⟩ (dF Z) ?_
 rintro⟨k,A2⟩ ρ1 w7 ⟨hk,L1,ho,H⟩
 show CW _ _ _ _ (dC (gC _ _ ρ1) [(39,J (k:Nat))]) w7
 refine W<|Zr ?_
 refine cT (cG Z Z) Z Z Z (fun h40=> ?_) (fun h40=> ?_)
 refine U<|W<|ZT Z<|Zk<|W<|Zb<|W ?_
 obtain⟨x,hxt⟩: ∃ x,tx2[k]? =some x:=⟨_,ah I⟩
 have hx:=Ie (ck:=ck+n) (wt:=wt) hxt
 have htl:=zp (ck+n) wt tx2 k
 obtain⟨g,cur,rfl,rfl,row⟩:=ho.row I
 obtain⟨t,ht,hta⟩:=qU hma.symm hxt
 have hxo:fB ck nx x=true:=by have h1:fB ck nx t.a=true:=uf q7 t (ae ht);rw[hta]at h1;exact h1
 obtain⟨a1,a2,a3,a4,a5,a6,a7,a8,a9,a10,a11⟩:=cz.1 hxo
 obtain⟨v1,v2⟩:=uw a4
 refine Zr<|G (Yi Z)<|G (Wi Z)<|U<|W<|Zr<|G (Zf cO Z)<|G (Zd dJ H 1 Z Z Z)<|G (Yi Z)<|G (cB gB Z Z I)<|G (Wp Z)<|U<|W ?_
 refine bz bX [0,1,2,3,4,5,6,7,8,9,10,11,12,13,14,15,16,17,18,19,20,21,22,23] [] [] [0,1,2,4,5,6,8,9,10,12,13,15,16,17,18,19,20,22,23] (sp []) N N N N Nq (cF _) ?_
 refine aw Z Z Z Z Z (fun w' hw'=>Yp Z)<|aw Z Z Z Z Z (fun w' hw'=>aI Z)<|aw Z Z Z Z Z (fun w' hw'=>Zf cQ Z)<|aw Z Z Z Z Z (fun w' hw'=>bP aj row hx 3 Z ((H.later hw').ent (i:=2) Z) Z) ?_
 refine Bd Z Z Z Z Z (fun w' hw'=>bl Z Z) (fun h50=> ?_) (fun h50=> ?_)
 refine aw Z Z Z Z Z (fun w' hw'=>Yb Z)<|aw Z Z Z Z Z (fun w' hw'=>Zf kb Z)<|aw Z Z Z Z Z (fun w' hw'=>aT aj Z (aB ((H.later hw').ent (i:=1) Z) Z))<|aw Z Z Z Z Z (fun w' hw'=>Yp Z)<|aw Z Z Z Z Z (fun w' hw'=>aI Z)<|aw Z Z Z Z Z (fun w' hw'=>Zf tR Z)<|aw Z Z Z Z Z (fun w' hw'=>bP aj row hx 5 Z ((H.later hw').ent (i:=2) Z) Z)<|aw Z Z Z Z Z (fun w' hw'=>mR Z Z I I)<|aw Z Z Z Z Z (fun w' hw'=>Zf vN Z)<|aw Z Z Z Z Z (fun w' hw'=>aT aj Z (aB ((H.later hw').ent (i:=1) Z) Z)) ?_
 refine Bd Z Z Z Z Z (fun w' hw'=>j4 Z Z) (fun h61=> ?_) (fun h61=> ?_)
 refine aw Z Z Z Z Z (fun w' hw'=>Kt Z Z)<|aw Z Z Z Z Z (fun w' hw'=>Yb Z)<|aw Z Z Z Z Z (fun w' hw'=>Yp Z)<|aw Z Z Z Z Z (fun w' hw'=>aI Z)<|aw Z Z Z Z Z (fun w' hw'=>Zf gk Z)<|aw Z Z Z Z Z (fun w' hw'=>bP aj row hx 2 Z ((H.later hw').ent (i:=2) Z) Z) ?_
 refine Bd Z Z Z Z Z (fun w' hw'=>cG Z Z) (fun h68=> ?_) (fun h68=> ?_)
 refine aw Z Z Z Z Z (fun w' hw'=>Kt Z Z)<|aR ?_
 intro w8 hw' hF
 replace H:=H.later hw';clear hw' hF
 refine U<|ZT Z<|W<|Zr<|G (Yp Z)<|G (aI Z)<|G (Zf cQ Z)<|kH H 2 ({x with state:=4}) bI row hx 3 Z Z Z Z Z Z N fun w10 cur9 row9 H=>U ?_
 have hx2:((mc (ck+n) wt tx2 k).set k {x with state:=4})[k]? =some {x with state:=4}:=am I
 have hv2:({x with state:=4}:Tx).ver=x.ver:=rfl
 refine Zr<|G (Yp Z)<|G (aI Z)<|G (Zf gk Z)<|G (bP aj row9 hx2 2 Z (H.ent (i:=2) Z) Z)<|G (br Z Z I I)<|G (aI Z)<|G (Zf gk Z)<|kH H 2 ({x with state:=4,ver:=x.ver+1}) bI row9 hx2 2 Z Z Z Z Z Z N fun w12 cur11 row11 H=>U<|Zr<|G (br Z Z I I)<|G (Yi Z)<|U ?_
 have hT:fh (ck+n) wt x={x with state:=4,ver:=x.ver+1}:=by unfold fh;rw[if_pos I]
 have hS:=r7 (ck:=ck+n) (wt:=wt) hxt
 rw[hT]at hS
 refine⟨(k+1,some ⟨g,0,none⟩),⟨by omega,_,by rw[<-hS];exact dT.own (by have:=row11;rwa[fk]at this),H⟩,dF Z,Qg,by show tx2.length- (k+1)<tx2.length-k;omega⟩
 refine aw Z Z Z Z Z (fun w' hw'=>Kt Z Z)<|aR ?_
 intro w13 hw' hF
 replace H:=H.later hw';clear hw' hF
 refine U<|ZF Z<|Zk<|Zr<|G (br Z Z I I)<|G (Yi Z)<|U ?_
 have hT:fh (ck+n) wt x=x:=by unfold fh;rw[if_neg I]
 have hS:=r7 (ck:=ck+n) (wt:=wt) hxt
 rw[hT]at hS
 refine⟨(k+1,some ⟨g,0,none⟩),⟨by omega,_,by rw[<-hS];exact dT.own (by rw[iH hx];exact row),H⟩,dF Z,Qg,by show tx2.length- (k+1)<tx2.length-k;omega⟩
 refine aw Z Z Z Z Z (fun w' hw'=>Kt Z Z)<|aw Z Z Z Z Z (fun w' hw'=>Yb Z)<|eO Z Z Z Z<|eO Z Z Z Z<|eO Z Z Z Z<|eO Z Z Z Z<|eO Z Z Z Z<|aw Z Z Z Z Z (fun w' hw'=>N Z Z)<|aR ?_
 intro w14 hw' hF
 replace H:=H.later hw';clear hw' hF
 refine U<|ZF Z<|Zk<|Zr<|G (br Z Z I I)<|G (Yi Z)<|U ?_
 have hT:fh (ck+n) wt x=x:=by unfold fh;rw[if_neg I]
 have hS:=r7 (ck:=ck+n) (wt:=wt) hxt
 rw[hT]at hS
 refine⟨(k+1,some ⟨g,0,none⟩),⟨by omega,_,by rw[<-hS];exact dT.own (by rw[iH hx];exact row),H⟩,dF Z,Qg,by show tx2.length- (k+1)<tx2.length-k;omega⟩
 refine aw Z Z Z Z Z (fun w' hw'=>Yb Z)<|eO Z Z Z Z<|eO Z Z Z Z<|eO Z Z Z Z<|eO Z Z Z Z<|eO Z Z Z Z<|eO Z Z Z Z<|eO Z Z Z Z<|eO Z Z Z Z<|eO Z Z Z Z<|eO Z Z Z Z<|aw Z Z Z Z Z (fun w' hw'=>N Z Z)<|aw Z Z Z Z Z (fun w' hw'=>Yb Z)<|eO Z Z Z Z<|eO Z Z Z Z<|eO Z Z Z Z<|eO Z Z Z Z<|eO Z Z Z Z<|aw Z Z Z Z Z (fun w' hw'=>N Z Z)<|aR ?_
 intro w15 hw' hF
 replace H:=H.later hw';clear hw' hF
 refine U<|ZF Z<|Zk<|Zr<|G (br Z Z I I)<|G (Yi Z)<|U ?_
 have hT:fh (ck+n) wt x=x:=by unfold fh;rw[if_neg I]
 have hS:=r7 (ck:=ck+n) (wt:=wt) hxt
 rw[hT]at hS
 refine⟨(k+1,some ⟨g,0,none⟩),⟨by omega,_,by rw[<-hS];exact dT.own (by rw[iH hx];exact row),H⟩,dF Z,Qg,by show tx2.length- (k+1)<tx2.length-k;omega⟩
 have hke:k=tx2.length:=by omega
 have hfin:mc (ck+n) wt tx2 k=tx2.map (fh (ck+n) wt):=by unfold mc;rw[hke,bJ,fm,aX]
 have hfl:(mc (ck+n) wt tx2 k).length=tx2.length:=zp _ _ _ _
 rw[hfin]at ho hfl
 have hTa:(tx2.map (fh (ck+n) wt)).map Tx.a=(txs.map Tx.a).map (fh (ck+n) wt):=by rw[<-hma,r3,r3];congr 1;funext t;exact JS _ _ t
 refine U<|W<|ZF Z<|Zx<|W<|Zr<|G (Zw av H 1 Z Z Z)<|bo H 0 (#[J (ck+n),J nx,J wt,.slice A2 tx2.length c2]) aF Z Z Z Z Z N N fun w16 H=>G (Wi Z)<|U<|Zt ?_
 exact bC (cs0:= #[J (ck+n),J nx,J wt,.slice A2 tx2.length c2]) (v1:=J 0) Z av Z (H.ent (i:=0) Z) Z Z ⟨⟨ck+n,nx,wt,tx2.map (fh (ck+n) wt),A2,c2⟩,L1,Lp,by unfold Co.v Co.c;dsimp only;rw[bF],by unfold Co.a vy;dsimp only;rw[hTa],ho,hp2.tick _ _,by dsimp only;rw[bF];exact hoc2,by intro t ht;obtain⟨y,hy,rfl⟩:=bw.1 ht;obtain⟨a,b,c⟩:=Cb (ck+n) wt y;rw[b,c];exact hpc2 y hy,by simpa using H.forget (.cons _ (.cons _ (ap _))) (F':=[]) (by simp)⟩
/-- P5.3: a producer that was there: its version rises, what is under way is aborted -/
def i9 (t:Tx):Tx:=if t.state=2 then{t with state:=4,ver:=t.ver+1}else{t with ver:=t.ver+1}
theorem KP {t t':Tx} (h:t'.a=t.a):(i9 t').a=(i9 t).a:=by
 have h1:t'.state=t.state:=by show t'.a.state=t.a.state;rw[h]
 unfold i9
 by_cases hs:t.state=2
 rw[if_pos (h1.trans hs),if_pos hs]
 exact congrArg (fun x:Tx=>({x with state:=4,ver:=x.ver+1}:Tx)) h
 rw[if_neg (fun q=>hs (h1.symm.trans q)),if_neg hs]
 exact congrArg (fun x:Tx=>({x with ver:=x.ver+1}:Tx)) h
theorem GN (c:Co) (s:ByteArray) (i:Nat) (t:Tx) (w:World) (h:c.rd 0 w.heap.size w) (hok:gA c=true) (hn:bM s=true) (hi:fF c s=i) (ht:c.txs[i]? =some t) (h3:t.state≠3) (h4:t.state≠4) (hv0:0<=t.ver) (hv:t.ver<1073741824):dd aa mo [c.v,.string s] w fun v w2=> ∃ (c':Co) (Lr Lp:List (Nat×Obj)),v=.tuple #[c'.v,J t.pid,J (t.ver+1),J 0]/\qf w w2 (Co.a {c with txs:=c.txs.set i (i9 t)}) c' Lr Lp:=by
 refine aD nK Z Z ?_
 have hcap:=h.cap
 have hfew:=h.few
 have hfp:=h.fewP
 have H:=Hp.startCo h
 obtain⟨ck,nx,wt,txs,cA,cc⟩:=c
 dsimp only at hcap hfew hfp H
 show CW _ _ _ _ (args [.agg #[J ck,J nx,J wt,.slice cA txs.length cc],.string s]) w
 dsimp only at ht⊢
 refine W<|Zr<|fQ H Z Z fun w1 b2 H=>eH H cJ Z fun w2 b4 H=>G (Wi Z)<|G (Wi Z)<|G (Wi Z)<|U<|W<|Zr<|G (Zw av H 1 Z Z Z)<|G (Yt Z)<|cd hM (lz ⟨ck,nx,wt,txs,cA,cc⟩ s _ ⟨H.rd0 0 Z,fun t ht=>fp H 1 Z ht,hcap,hfew,hfp⟩ hok hn) Z Z ?_
 rintro _ w3 ⟨⟨ck2,nx2,wt2,tx2,A2,c2⟩,Lr,Lp,rfl,ha2,ho2,hp2,hoc2,hpc2,hj2⟩
 replace H:=H.joinR hj2;clear hj2
 simp only[Co.a,Co.mk.injEq]at ha2
 obtain⟨e1,e2,e3,hma,-,-⟩:=ha2
 obtain rfl:ck=ck2:=e1.symm
 obtain rfl:nx=nx2:=e2.symm
 obtain rfl:wt=wt2:=e3.symm
 dsimp only at ho2 hp2 hoc2 hpc2 H
 rw[hi]
 refine G (Yu Z)<|G (Xa Z Z)<|G (Xi Z Z)<|G (Xi Z Z)<|bo H 1 (#[J ck,J nx,J wt,.slice A2 tx2.length c2]) aF Z Z Z Z Z N N fun w4 H=>G (Wi Z)<|G (Wi Z)<|U<|W<|W<|Zr<|G (Yi Z)<|G (bU Z Z Z)<|U<|ZF Z<|Zk<|W<|W<|Zr<|G (Yi Z)<|G (cY Z Z I)<|U<|ZF Z<|Zk<|W ?_
 obtain⟨t2,ht2,hta⟩:=qU hma ht
 have hl2:=(cE ht2).1
 obtain⟨g,cur,rfl,rfl,row⟩:=ho2.row I
 have hst:t2.state=t.state:=by show t2.a.state=t.a.state;rw[hta]
 have hdn:t2.done=t.done:=by show t2.a.done=t.a.done;rw[hta]
 have hver:t2.ver=t.ver:=by show t2.a.ver=t.a.ver;rw[hta]
 have hpid:t2.pid=t.pid:=by show t2.a.pid=t.a.pid;rw[hta]
 refine Zr<|G (Zf cO Z)<|G (Zd dJ H 1 Z Z Z)<|G (Yi Z)<|G (cB gB Z Z (by first|omega|(simp only[ab];omega)))<|G (Wp Z)<|U<|W<|Zb<|W<|Zr<|G (Yp Z)<|G (aI Z)<|G (Zf cQ Z)<|G (bP aj row ht2 3 Z (H.ent (i:=2) Z) Z)<|G (nu Z Z I)<|G (Yb Z)<|ZG<|G (Yp Z)<|ZG<|G (aI Z)<|ZG<|G (Zf cQ Z)<|ZG<|G (bP aj row ht2 3 Z (H.ent (i:=2) Z) Z)<|ZG<|G (nu Z Z I)<|G (N Z Z)<|G (Wb Z)<|U<|ZF Z<|W<|Zr<|G (Yp Z)<|G (aI Z)<|G (Zf gk Z)<|G (bP aj row ht2 2 Z (H.ent (i:=2) Z) Z)<|G (nu Z Z I)<|G (Wb Z)<|U ?_
 refine ZF Z<|W<|Zr<|G (Yp Z)<|G (aI Z)<|G (Zf cQ Z)<|G (bP aj row ht2 3 Z (H.ent (i:=2) Z) Z) ?_
 refine cT (bl Z Z) Z Z Z (fun h81=> ?_) (fun h81=> ?_)
 refine G (Wb Z)<|U<|ZT Z<|Zr<|G (Yp Z)<|G (aI Z)<|G (Zf cQ Z)<|kH H 2 ({t2 with state:=4}) bI row ht2 3 Z Z Z Z Z Z N fun w6 cur5 row5 H=>U<|W ?_
 have ht3:(tx2.set i {t2 with state:=4})[i]? =some {t2 with state:=4}:=am hl2
 have hv3:({t2 with state:=4}:Tx).ver=t2.ver:=rfl
 refine Zr<|G (Yp Z)<|G (aI Z)<|G (Zf gk Z)<|G (bP aj row5 ht3 2 Z (H.ent (i:=2) Z) Z)<|G (br Z Z I I)<|G (aI Z)<|G (Zf gk Z)<|kH H 2 ({t2 with state:=4,ver:=t2.ver+1}) bI row5 ht3 2 Z Z Z Z Z Z N fun w8 cur7 row7 H=>U<|W ?_
 have ht4:(tx2.set i {t2 with state:=4,ver:=t2.ver+1})[i]? =some {t2 with state:=4,ver:=t2.ver+1}:=am hl2
 rw[fk]at row7
 refine pD bX (fun w'=>w'.heap[b2]? =some (.cells #[J ck,J nx,J wt,.slice (Qd g) tx2.length c2] bd (0,0))/\w'.heap[g]? =some (.cells cur7 dB (0,0))) ?_
 intro w9 hw';replace H:=H.later hw';clear hw'
 refine bc 0 N N N Z Z Z Z Nq ⟨H.ent (i:=1) Z,H.ent (i:=2) Z⟩ (fun _ hS=>jw av Z hS.1 Z)<|bc 1 N N N Z Z Z Z Nq ⟨H.ent (i:=1) Z,H.ent (i:=2) Z⟩ (fun _ hS=>Yp Z)<|bc 2 N N N Z Z Z Z Nq ⟨H.ent (i:=1) Z,H.ent (i:=2) Z⟩ (fun _ hS=>aI Z)<|bc 3 N N N Z Z Z Z Nq ⟨H.ent (i:=1) Z,H.ent (i:=2) Z⟩ (fun _ hS=>Zf kU Z)<|bc 4 N N N Z Z Z Z Nq ⟨H.ent (i:=1) Z,H.ent (i:=2) Z⟩ (fun _ hS=>bP aj row7 ht4 1 Z hS.2 Z)<|bc 5 N N N Z Z Z Z Nq ⟨H.ent (i:=1) Z,H.ent (i:=2) Z⟩ (fun _ hS=>Yp Z)<|bc 6 N N N Z Z Z Z Nq ⟨H.ent (i:=1) Z,H.ent (i:=2) Z⟩ (fun _ hS=>aI Z)<|bc 7 N N N Z Z Z Z Nq ⟨H.ent (i:=1) Z,H.ent (i:=2) Z⟩ (fun _ hS=>Zf gk Z)<|bc 8 N N N Z Z Z Z Nq ⟨H.ent (i:=1) Z,H.ent (i:=2) Z⟩ (fun _ hS=>bP aj row7 ht4 2 Z hS.2 Z)<|v8 9 N Z<|bo H 0 (#[J ck,J nx,J wt,.slice (Qd g) tx2.length c2]) aF Z Z Z Z Z N N fun w10 H=>U ?_
 refine⟨⟨H.ent (i:=1) Z,H.ent (i:=2) Z⟩,?_⟩
 refine bc 10 N N N Z Z Z Z Nq ⟨H.ent (i:=1) Z,H.ent (i:=2) Z⟩ (fun _ hS=>Wi Z)<|bc 11 N N N Z Z Z Z Nq ⟨H.ent (i:=1) Z,H.ent (i:=2) Z⟩ (fun _ hS=>Wi Z)<|bc 12 N N N Z Z Z Z Nq ⟨H.ent (i:=1) Z,H.ent (i:=2) Z⟩ (fun _ hS=>Wi Z)<|m0 N<|Zt ?_
 have hI:i9 t2={t2 with state:=4,ver:=t2.ver+1}:=by unfold i9;rw[if_pos I]
 exact mt (cs0:= #[J ck,J nx,J wt,.slice (Qd g) tx2.length c2]) (v1:=J t2.pid) (v2:=J (t2.ver+1)) (v3:=J 0) Z av Z (H.ent (i:=0) Z) Z Z Z Z ⟨⟨ck,nx,wt,tx2.set i ({t2 with state:=4,ver:=t2.ver+1}),some ⟨g,0,none⟩,c2⟩,[(g,.cells cur7 dB (0,0))],Lp,by unfold Co.v Co.c;dsimp only;rw[ab,hpid,hver],by unfold Co.a;dsimp only;rw[oQ hma i (show Tx.a ({t2 with state:=4,ver:=t2.ver+1})=(i9 t).a by rw[<-hI];exact KP hta)],by dsimp only;exact dT.own row7,hp2.same ht2 Z Z Z,by dsimp only;rw[ab];exact hoc2,rQ hpc2 ht2 Z Z,H.forget (.cons _ (.cons _ (aC _ _))) (by simp)⟩
 refine G (Wb Z)<|U<|ZF Z<|Zk<|W<|Zr<|G (Yp Z)<|G (aI Z)<|G (Zf gk Z)<|G (bP aj row ht2 2 Z (H.ent (i:=2) Z) Z)<|G (br Z Z I I)<|G (aI Z)<|G (Zf gk Z)<|kH H 2 ({t2 with ver:=t2.ver+1}) bI row ht2 2 Z Z Z Z Z Z N fun w12 cur11 row11 H=>U<|W ?_
 have ht4:(tx2.set i {t2 with ver:=t2.ver+1})[i]? =some {t2 with ver:=t2.ver+1}:=am hl2
 refine pD bX (fun w'=>w'.heap[b2]? =some (.cells #[J ck,J nx,J wt,.slice (Qd g) tx2.length c2] bd (0,0))/\w'.heap[g]? =some (.cells cur11 dB (0,0))) ?_
 intro w13 hw';replace H:=H.later hw';clear hw'
 refine bc 0 N N N Z Z Z Z Nq ⟨H.ent (i:=1) Z,H.ent (i:=2) Z⟩ (fun _ hS=>jw av Z hS.1 Z)<|bc 1 N N N Z Z Z Z Nq ⟨H.ent (i:=1) Z,H.ent (i:=2) Z⟩ (fun _ hS=>Yp Z)<|bc 2 N N N Z Z Z Z Nq ⟨H.ent (i:=1) Z,H.ent (i:=2) Z⟩ (fun _ hS=>aI Z)<|bc 3 N N N Z Z Z Z Nq ⟨H.ent (i:=1) Z,H.ent (i:=2) Z⟩ (fun _ hS=>Zf kU Z)<|bc 4 N N N Z Z Z Z Nq ⟨H.ent (i:=1) Z,H.ent (i:=2) Z⟩ (fun _ hS=>bP aj row11 ht4 1 Z hS.2 Z)<|bc 5 N N N Z Z Z Z Nq ⟨H.ent (i:=1) Z,H.ent (i:=2) Z⟩ (fun _ hS=>Yp Z)<|bc 6 N N N Z Z Z Z Nq ⟨H.ent (i:=1) Z,H.ent (i:=2) Z⟩ (fun _ hS=>aI Z)<|bc 7 N N N Z Z Z Z Nq ⟨H.ent (i:=1) Z,H.ent (i:=2) Z⟩ (fun _ hS=>Zf gk Z)<|bc 8 N N N Z Z Z Z Nq ⟨H.ent (i:=1) Z,H.ent (i:=2) Z⟩ (fun _ hS=>bP aj row11 ht4 2 Z hS.2 Z)<|v8 9 N Z<|bo H 0 (#[J ck,J nx,J wt,.slice (Qd g) tx2.length c2]) aF Z Z Z Z Z N N fun w14 H=>U ?_
 refine⟨⟨H.ent (i:=1) Z,H.ent (i:=2) Z⟩,?_⟩
 refine bc 10 N N N Z Z Z Z Nq ⟨H.ent (i:=1) Z,H.ent (i:=2) Z⟩ (fun _ hS=>Wi Z)<|bc 11 N N N Z Z Z Z Nq ⟨H.ent (i:=1) Z,H.ent (i:=2) Z⟩ (fun _ hS=>Wi Z)<|bc 12 N N N Z Z Z Z Nq ⟨H.ent (i:=1) Z,H.ent (i:=2) Z⟩ (fun _ hS=>Wi Z)<|m0 N<|Zt ?_
 have hI:i9 t2={t2 with ver:=t2.ver+1}:=by unfold i9;rw[if_neg I]
 exact mt (cs0:= #[J ck,J nx,J wt,.slice (Qd g) tx2.length c2]) (v1:=J t2.pid) (v2:=J (t2.ver+1)) (v3:=J 0) Z av Z (H.ent (i:=0) Z) Z Z Z Z ⟨⟨ck,nx,wt,tx2.set i ({t2 with ver:=t2.ver+1}),some ⟨g,0,none⟩,c2⟩,[(g,.cells cur11 dB (0,0))],Lp,by unfold Co.v Co.c;dsimp only;rw[ab,hpid,hver],by unfold Co.a;dsimp only;rw[oQ hma i (show Tx.a ({t2 with ver:=t2.ver+1})=(i9 t).a by rw[<-hI];exact KP hta)],by dsimp only;exact dT.own row11,hp2.same ht2 Z Z Z,by dsimp only;rw[ab];exact hoc2,rQ hpc2 ht2 Z Z,H.forget (.cons _ (.cons _ (aC _ _))) (by simp)⟩
theorem Kc {w0 w:World} {F:List cr} {a b:Nat×Obj} (Lr Lp:List (Nat×Obj)) (H:Hp w0 w (a::b::((Lr++Lp)++[])) F):Hp w0 w ([a,b]++Lr++Lp) F:=by
 rw[aX]at H
 exact H
theorem I0 (c:Co) (s:ByteArray) (w:World) (h:c.rd 0 w.heap.size w) (hok:gA c=true) (hn:bM s=true) (hi:fF c s<0) (hf:c.txs.length≠8) (hx:c.next≠1073741824):dd aa mo [c.v,.string s] w fun v w2=> ∃ (c':Co) (Lr Lp:List (Nat×Obj)),v=.tuple #[c'.v,J c.next,J 0,J 0]/\qf w w2 (p8 c.a s) c' Lr Lp:=by
 refine aD nK Z Z ?_
 have hcap:=h.cap
 have hfew:=h.few
 have hfp:=h.fewP
 have H:=Hp.startCo h
 obtain⟨ck,nx,wt,txs,cA,cc⟩:=c
 dsimp only at hcap hfew hfp H
 show CW _ _ _ _ (args [.agg #[J ck,J nx,J wt,.slice cA txs.length cc],.string s]) w
 dsimp only at hf hx⊢
 obtain⟨q1,q2,q3,q4,q5,q6,q7⟩:=iR.1 hok
 dsimp only at q2 q3 q6
 refine W<|Zr<|fQ H Z Z fun w1 b2 H=>eH H cJ Z fun w2 b4 H=>G (Wi Z)<|G (Wi Z)<|G (Wi Z)<|U<|W<|Zr<|G (Zw av H 1 Z Z Z)<|G (Yt Z)<|cd hM (lz ⟨ck,nx,wt,txs,cA,cc⟩ s _ ⟨H.rd0 0 Z,fun t ht=>fp H 1 Z ht,hcap,hfew,hfp⟩ hok hn) Z Z ?_
 rintro _ w3 ⟨⟨ck2,nx2,wt2,tx2,A2,c2⟩,Lr,Lp,rfl,ha2,ho2,hp2,hoc2,hpc2,hj2⟩
 replace H:=H.joinR hj2;clear hj2
 simp only[Co.a,Co.mk.injEq]at ha2
 obtain⟨e1,e2,e3,hma,-,-⟩:=ha2
 obtain rfl:ck=ck2:=e1.symm
 obtain rfl:nx=nx2:=e2.symm
 obtain rfl:wt=wt2:=e3.symm
 dsimp only at ho2 hp2 hoc2 hpc2 H
 have hlen2:tx2.length=txs.length:=by have:=congrArg cu hma;simpa using this
 refine G (Yu Z)<|G (Xa Z Z)<|G (Xi Z Z)<|G (Xi Z Z)<|bo H 1 (#[J ck,J nx,J wt,.slice A2 tx2.length c2]) aF Z Z Z Z Z N N fun w4 H=>G (Wi Z)<|G (Wi Z)<|U<|W<|W<|Zr<|G (Yi Z)<|G (bU Z Z Z)<|U<|ZF Z<|Zk<|W<|W<|Zr<|G (Yi Z)<|G (xz Z Z hi)<|U<|ZT Z<|W<|W<|Zr<|G (Zf cO Z)<|G (Zd dJ H 1 Z Z Z)<|G (bn kS Z)<|G (nu Z Z I)<|G (Yb Z)<|ZG<|G (Zf ka Z)<|ZG<|G (Zd aj H 1 Z Z Z)<|ZG<|G (nu Z Z I)<|G (N Z Z)<|U<|ZF Z ?_
 refine Zk<|W ?_
 replace H:=Kc Lr Lp H
 refine Zr<|G (Zf cO Z)<|G (Zd dJ H 1 Z Z Z)<|G (Yt Z)<|G (Zf ka Z)<|G (Zd aj H 1 Z Z Z)<|G (bi (cs:= #[.string s,J nx,J 0,J 1,.slice none 0 0,J 0,J 0]) NF Hk N)<|sW (vs:=[.agg #[.string s,J nx,J 0,J 1,.slice none 0 0,J 0,J 0]]) H gB Hk Z Z Z Z Z Z fun w5 b40 H=>vT (Y:=rx) HR (K:=[(b40,_),(b4,_),(b2,_)]) (L:=Lr) (M:=Lp) H ho2 (news:=[iK s nx]) Z Z Z (vX.row (m:=1) (sz:=rx.sz) (H.ent (i:=0) Z) Z) (by simp only[bO];omega) Z ?_
 intro A41 c41 w6 L41 h41 _ ho41 H
 refine G (Zf cO Z)<|bo H 2 (#[J ck,J nx,J wt,.slice A41 (tx2++[iK s nx]).length c41]) zx Z Z Z Z Z N N fun w7 H=>U<|W<|Zr<|G (Zf ka Z)<|G (Zd aj H 2 Z Z Z)<|G (br Z Z I I)<|G (Zf ka Z)<|bo H 2 (#[J ck,J (nx+1),J wt,.slice A41 (tx2++[iK s nx]).length c41]) bI Z Z Z Z Z N N fun w8 H=>U<|W ?_
 refine qJ bX [1] [0,2,3,4,5,6,7] [1] 7 N N N Nq ?_
 refine aw Z Z Z Z Z (fun w' hw'=>Zf ka Z)<|aR ?_
 intro w9 hw';replace H:=H.later hw';clear hw'
 refine tf 0 2 N Z Z ?_ ?_
 refine G (Zw av H 2 Z Z Z)<|U ?_
 refine tf 2 4 N Z Z ?_ ?_
 refine G (Zd aj H 2 Z Z Z)<|U ?_
 refine tf 3 4 N Z Z ?_ ?_
 refine G (mR Z Z I I)<|U<|da 4 N Z<|bo H 1 (#[J ck,J (nx+1),J wt,.slice A41 (tx2++[iK s nx]).length c41]) aF Z Z Z Z Z N N fun w10 H=>U<|da 5 N Z<|G (Wi Z)<|U<|da 6 N Z<|G (Wi Z)<|U<|da 7 N Z<|G (Wi Z)<|U<|cy N<|Zt ?_
 exact mt (cs0:= #[J ck,J (nx+1),J wt,.slice A41 (tx2++[iK s nx]).length c41]) (v1:=J (nx+1-1)) (v2:=J 0) (v3:=J 0) Z av Z (H.ent (i:=1) Z) Z Z Z Z ⟨⟨ck,nx+1,wt,tx2++[iK s nx],A41,c41⟩,L41,Lp,by rw[show nx+1-1=nx by omega];rfl,by unfold Co.a p8;dsimp only;rw[bk,hma];rfl,ho41,by have:=er.snoc (t:=iK s nx) (L':=[]) gd.nil hp2;rwa[aX]at this,h41,by intro t ht;rcases au.1 ht with ht|ht;exact hpc2 t ht;rw[aq.1 ht];exact ao _,H.forget (.cons _ (.cons _ (.cons _ (ap _)))) (by simp)⟩
 refine bo H 1 (#[J ck,J (nx+1),J wt,.slice A41 (tx2++[iK s nx]).length c41]) aF Z Z Z Z Z N N fun w11 H=>U<|da 3 N Z<|G (mR Z Z I I)<|U<|da 5 N Z<|G (Wi Z)<|U<|da 6 N Z<|G (Wi Z)<|U<|da 7 N Z<|G (Wi Z)<|U<|cy N<|Zt ?_
 exact mt (cs0:= #[J ck,J (nx+1),J wt,.slice A41 (tx2++[iK s nx]).length c41]) (v1:=J (nx+1-1)) (v2:=J 0) (v3:=J 0) Z av Z (H.ent (i:=1) Z) Z Z Z Z ⟨⟨ck,nx+1,wt,tx2++[iK s nx],A41,c41⟩,L41,Lp,by rw[show nx+1-1=nx by omega];rfl,by unfold Co.a p8;dsimp only;rw[bk,hma];rfl,ho41,by have:=er.snoc (t:=iK s nx) (L':=[]) gd.nil hp2;rwa[aX]at this,h41,by intro t ht;rcases au.1 ht with ht|ht;exact hpc2 t ht;rw[aq.1 ht];exact ao _,H.forget (.cons _ (.cons _ (.cons _ (ap _)))) (by simp)⟩
 refine bo H 1 (#[J ck,J (nx+1),J wt,.slice A41 (tx2++[iK s nx]).length c41]) aF Z Z Z Z Z N N fun w12 H=>U<|da 2 N Z<|G (Zd aj H 2 Z Z Z)<|U<|da 3 N Z<|G (mR Z Z I I)<|U<|da 5 N Z<|G (Wi Z)<|U<|da 6 N Z<|G (Wi Z)<|U<|da 7 N Z<|G (Wi Z)<|U<|cy N<|Zt ?_
 exact mt (cs0:= #[J ck,J (nx+1),J wt,.slice A41 (tx2++[iK s nx]).length c41]) (v1:=J (nx+1-1)) (v2:=J 0) (v3:=J 0) Z av Z (H.ent (i:=1) Z) Z Z Z Z ⟨⟨ck,nx+1,wt,tx2++[iK s nx],A41,c41⟩,L41,Lp,by rw[show nx+1-1=nx by omega];rfl,by unfold Co.a p8;dsimp only;rw[bk,hma];rfl,ho41,by have:=er.snoc (t:=iK s nx) (L':=[]) gd.nil hp2;rwa[aX]at this,h41,by intro t ht;rcases au.1 ht with ht|ht;exact hpc2 t ht;rw[aq.1 ht];exact ao _,H.forget (.cons _ (.cons _ (.cons _ (ap _)))) (by simp)⟩
 refine G (Zd aj H 2 Z Z Z)<|U ?_
 refine tf 0 3 N Z Z ?_ ?_
 refine G (Zw av H 2 Z Z Z)<|U ?_
 refine tf 3 4 N Z Z ?_ ?_
 refine G (mR Z Z I I)<|U<|da 4 N Z<|bo H 1 (#[J ck,J (nx+1),J wt,.slice A41 (tx2++[iK s nx]).length c41]) aF Z Z Z Z Z N N fun w13 H=>U<|da 5 N Z<|G (Wi Z)<|U<|da 6 N Z<|G (Wi Z)<|U<|da 7 N Z<|G (Wi Z)<|U<|cy N<|Zt ?_
 exact mt (cs0:= #[J ck,J (nx+1),J wt,.slice A41 (tx2++[iK s nx]).length c41]) (v1:=J (nx+1-1)) (v2:=J 0) (v3:=J 0) Z av Z (H.ent (i:=1) Z) Z Z Z Z ⟨⟨ck,nx+1,wt,tx2++[iK s nx],A41,c41⟩,L41,Lp,by rw[show nx+1-1=nx by omega];rfl,by unfold Co.a p8;dsimp only;rw[bk,hma];rfl,ho41,by have:=er.snoc (t:=iK s nx) (L':=[]) gd.nil hp2;rwa[aX]at this,h41,by intro t ht;rcases au.1 ht with ht|ht;exact hpc2 t ht;rw[aq.1 ht];exact ao _,H.forget (.cons _ (.cons _ (.cons _ (ap _)))) (by simp)⟩
 refine bo H 1 (#[J ck,J (nx+1),J wt,.slice A41 (tx2++[iK s nx]).length c41]) aF Z Z Z Z Z N N fun w14 H=>U<|da 3 N Z<|G (mR Z Z I I)<|U<|da 5 N Z<|G (Wi Z)<|U<|da 6 N Z<|G (Wi Z)<|U<|da 7 N Z<|G (Wi Z)<|U<|cy N<|Zt ?_
 exact mt (cs0:= #[J ck,J (nx+1),J wt,.slice A41 (tx2++[iK s nx]).length c41]) (v1:=J (nx+1-1)) (v2:=J 0) (v3:=J 0) Z av Z (H.ent (i:=1) Z) Z Z Z Z ⟨⟨ck,nx+1,wt,tx2++[iK s nx],A41,c41⟩,L41,Lp,by rw[show nx+1-1=nx by omega];rfl,by unfold Co.a p8;dsimp only;rw[bk,hma];rfl,ho41,by have:=er.snoc (t:=iK s nx) (L':=[]) gd.nil hp2;rwa[aX]at this,h41,by intro t ht;rcases au.1 ht with ht|ht;exact hpc2 t ht;rw[aq.1 ht];exact ao _,H.forget (.cons _ (.cons _ (.cons _ (ap _)))) (by simp)⟩
 refine G (mR Z Z I I)<|U<|da 0 N Z<|G (Zw av H 2 Z Z Z)<|U<|da 4 N Z<|bo H 1 (#[J ck,J (nx+1),J wt,.slice A41 (tx2++[iK s nx]).length c41]) aF Z Z Z Z Z N N fun w15 H=>U<|da 5 N Z<|G (Wi Z)<|U<|da 6 N Z<|G (Wi Z)<|U<|da 7 N Z<|G (Wi Z)<|U<|cy N<|Zt ?_
 exact mt (cs0:= #[J ck,J (nx+1),J wt,.slice A41 (tx2++[iK s nx]).length c41]) (v1:=J (nx+1-1)) (v2:=J 0) (v3:=J 0) Z av Z (H.ent (i:=1) Z) Z Z Z Z ⟨⟨ck,nx+1,wt,tx2++[iK s nx],A41,c41⟩,L41,Lp,by rw[show nx+1-1=nx by omega];rfl,by unfold Co.a p8;dsimp only;rw[bk,hma];rfl,ho41,by have:=er.snoc (t:=iK s nx) (L':=[]) gd.nil hp2;rwa[aX]at this,h41,by intro t ht;rcases au.1 ht with ht|ht;exact hpc2 t ht;rw[aq.1 ht];exact ao _,H.forget (.cons _ (.cons _ (.cons _ (ap _)))) (by simp)⟩
theorem Dn (n:Int) (w:World):dd aa yK [J n] w fun v w2=>v=.bool false/\Below w.heap.size w w2:=by
 refine aD xK Z Z ?_
 have H:=Hp.start w
 refine W<|Zr<|G (Wb Z)<|U<|W<|Zr<|G (Yi Z)<|G (Yi Z)<|G (bU Z Z Z)<|G (Wb Z)<|U<|Zt ?_
 exact cD (v:=.bool false) Z Z ⟨rfl,H.below⟩
theorem E5 (a b:Int) (w:World):dd aa Ah [J a,J b] w fun v w2=>v=.bool (decide (a<b))/\Below w.heap.size w w2:=by
 refine aD yO Z Z ?_
 have H:=Hp.start w
 refine W<|Zr<|G (Wb Z)<|U<|W<|Zr<|G (Yi Z)<|cd xR (Dn a _) Z Z ?_
 rintro _ w1 ⟨rfl,hb⟩;replace H:=H.later hb;clear hb
 refine G (Yb Z)<|ZN<|ZN<|ZN<|G (N Z Z)<|G (Yb Z)<|ZG<|G (Yi Z)<|ZG<|G (Yi Z)<|ZG ?_
 refine cT (cG Z Z) Z Z Z (fun h15=> ?_) (fun h15=> ?_)
 refine G (N Z Z)<|G (Wb Z)<|U<|Zt ?_
 exact cD (v:=.bool true) Z Z ⟨by rw[decide_eq_true h15],H.below⟩
 refine G (N Z Z)<|G (Wb Z)<|U<|Zt ?_
 exact cD (v:=.bool false) Z Z ⟨by rw[decide_eq_false h15],H.below⟩
theorem sw:aa.funcs[(136:Nat)]? =some Tryz.f136:=Tryz.func136
theorem sj {w0 w:World} {K M Lt:List (Nat×Obj)} {F:List cr} {es:List Int} {x:Int} {i c vb:Nat} {A:Option Addr} (H:Hp w0 w (((vb,.cells (bQ.f x).toArray 3 (0,0))::K)++Lt++M) F) (ho:gd bQ (.slice A es.length c) 3 es Lt) (hi:i<=es.length) (hb:(es.length+1)*8<=140737488355328):
  dd aa qW [.slice A es.length c,J (i:Nat),.slice (Qd vb) ((1:Nat)) 1] w fun v w2=> ∃ A' c' L',v=.slice A' (es.take i++[x]++es.drop i).length c'/\gd bQ (.slice A' (es.take i++[x]++es.drop i).length c') 3 (es.take i++[x]++es.drop i) L'/\Hp w0 w2 (((vb,.cells (bQ.f x).toArray 3 (0,0))::K)++L'++M) F:=by
 refine aD qq Z Z ?_
 show CW _ _ _ _ (args [.slice A es.length c,J (i:Nat),.slice (Qd vb) ((1:Nat)) 1]) w
 have hc0:es.length<=c:=by
  obtain⟨_,c',he,hc,_⟩:=ho.form
  injection he with _ _ he
  omega
 have hxs:(bQ.f x).length=bQ.sz:=bQ.len x
 have hx1: ∀ u∈bQ.f x,u.oneCell'=true:=fun u hu=>bQ.one x u hu
 have hsv: ∀ {w2:World} {K2:List (Nat×Obj)},Hp w0 w2 ((vb,.cells (bQ.f x).toArray 3 (0,0))::K2) F->vX w2 (Qd vb) 1 bQ.sz (bQ.all [x]):=fun h=>⟨by rw[fg.length];rfl,fun _=>⟨_,rfl,fun j u hj=>by rw[all_one]at hj;rw[Addr.add_lit,cH];exact aB (h.ent (i:=0) Z) (by simpa using hj)⟩⟩
 refine W<|Zr<|uO Z Z<|U<|W<|Zr<|l7 Z Z<|ip Z Z<|sO aZ Z Z I I I Z fun A12 hA12=>U<|W<|Zr<|l7 Z Z<|uG eB Z Z<|oP Z Z<|U<|W<|W<|Zr<|ip Z Z<|G (nu Z Z (by decide))<|U<|ZF Z<|Zk<|W<|Zr<|l7 Z Z<|uG eB Z Z<|oP Z Z<|U<|W<|W<|Zr<|ip Z Z<|ip Z Z ?_
 refine Lc Z Z Z (fun h22=> ?_) (fun h22=> ?_)
 ·refine m8 ?_
  refine ZT Z<|W<|Zr<|l7 Z Z<|l7 Z Z<|vT (Y:=bQ) (es:=es) (news:=[x]) za H ho Z Z Z (hsv H) (by show(es.length+1)*8<=_;omega) Z fun A25 c25 w25 L25 h25 h25b ho25 H25=>uO Z Z<|U<|Zt<|cD Z Z ?_
  have hi:i=es.length:=by omega
  subst hi
  have he:es.take es.length++[x]++es.drop es.length=es++[x]:=by rw[bJ,fm,aX]
  rw[he]
  exact⟨A25,c25,L25,rfl,ho25,H25⟩
 refine U<|ZF Z<|Zk ?_
 have hlt:i<es.length:=by omega
 obtain⟨g,cur,rfl,rfl,row⟩:=ho.row I
 have hgE:w.heap[g]? =some (.cells cur 3 (0,0)):=H.ent (i:=((vb,.cells (bQ.f x).toArray 3 (0,0))::K:List (Nat×Obj)).length) (by simp)
 have hle:=row.le
 have hmx:=row.max
 have hlen:=uu (x:=x) (ma hlt)
 have hfit:=row.fit hle
 have hif:=row.fit (i:=i) I
 have hdr:(bQ.all (es.drop i)).length=(es.length-i)*bQ.sz:=by rw[fg.length,dE]
 have hsm:(i+1)*bQ.sz+(es.length-i)*bQ.sz=(es.length+1)*bQ.sz:=by rw[<-cP];congr 1;omega
 have hi3:(i+1)*bQ.sz=i*bQ.sz+bQ.sz:=by rw[cP,gy]
 refine W<|W<|Zr<|ip Z Z<|ip Z Z<|add Z Z I I Z<|l7 Z Z<|G (D5 eB Z) ?_
 refine I3 Z Z Z (fun h31=> ?_) (fun h31=> ?_)
 ·refine m8 ?_
  refine ZT Z<|W<|Zr<|l7 Z Z<|ip Z Z<|zt aZ Z Z I I Z fun A34 hA34=> ?_
  obtain rfl:=hA34 I
  refine ip Z Z<|ip Z Z<|add Z Z I I Z<|ip Z Z<|sub Z Z I I Z ?_
  refine PM (m:=es.length+1-i) za ik H Z (kd:=.i64) (show _=Value.int _ _ from congrArg (Value.int _) (show((es.length:Int)+((1:Nat):Int))- (i:Nat)=((es.length+1-i:Nat):Int) by omega)) (olds:=bQ.all (es.take i)) (by rw[fg.length,aH,bu I];rfl) (fun j u hj=>by rw[Addr.add_lit,cH];rw[<-row.pre I,de]at hj;split at hj;exact aB hgE (by simpa using hj);cases hj) I I (by show(((i:Nat):Int).toNat+(es.length+1-i))*8<=_;omega) Z ?_
  intro w1 g2 c2 cur2 hs2 hge2 hmx2 hp2 H
  have hs2':cur2.size=c2*bQ.sz:=hs2
  have hc2:(es.length+1)*bQ.sz<=cur2.size:=by rw[hs2'];exact dg _ I
  have hg2:(oI cur2 (i*bQ.sz) (bQ.f x)).size=cur2.size:=jx (by rw[hxs];omega)
  refine uO Z Z<|U<|W<|Zr<|l7 Z Z<|ip Z Z<|sO aZ Z Z I I I Z fun A43 hA43=>l7 Z Z ?_
  have hsrc:=hsv (H.perm (al _ _ _))
  refine Nu (K:=[]) (m:=1) (o:=i*bQ.sz) aZ H Z Z (Cs Z I) (fun _=>vV.at0 hA43 I) hsrc (by rw[all_one];exact hx1) (by rw[all_one,hxs];omega) Z ?_
  rw[all_one]
  intro w2 H
  refine U<|W ?_
  refine bz bX [0,1,2,3,4,5,6,7] [8] [] [0,1,2,3,4,5,6,7] (sp []) N N N N Nq (cF _) ?_
  refine aw Z Z Z Z Z (fun _ _=>ie Z)<|aw Z Z Z Z Z (fun _ _=>ie Z)<|aw Z Z Z Z Z (fun _ _=>ie Z)<|aw Z Z Z Z Z (fun _ _=>br Z Z I I)<|aw Z Z Z Z Z (fun _ _=>pe aZ Z Z I I)<|aw Z Z Z Z Z (fun _ _=>ie Z)<|aw Z Z Z Z Z (fun _ _=>ie Z)<|aw Z Z Z Z Z (fun _ _=>pe aZ Z Z I I)<|aR ?_
  intro w' hw' _;replace H:=H.later hw';clear hw'
  have hgE2:w'.heap[g]? =some (.cells cur 3 (0,0)):=(H.ents (g,.cells cur 3 (0,0)) (by simp)).1
  refine Nu (K:=[]) (m:=es.length-i) (o:=(i+1)*bQ.sz) aZ H Z Z (Cs I I) (fun _=>AH I) (row.srcFrom hgE2 I (rN (ao _)) I) (fg.all_one _) (by rw[hdr,hg2];omega) Z ?_
  intro w3 H
  refine U<|W<|Zr<|l7 Z Z<|uO Z Z<|U<|Zt<|cD Z Z ?_
  exact⟨some ⟨g2,0,none⟩,c2,_,by rw[hlen];show Value.slice _ (((i:Nat):Int).toNat+(es.length+1-i)) _=_;congr 1;omega,dT.own (dT.insNew hs2' hmx2 hp2 (ma hlt) I),H.swapRow⟩
 refine U<|ZF Z<|Zk ?_
 have hroom:es.length+1<=c:=by omega
 have hfr:=row.fit hroom
 refine W<|Zr<|l7 Z Z<|ip Z Z<|ip Z Z<|add Z Z I I Z<|zt aZ Z Z I I Z fun A60 hA60=> ?_
 obtain rfl:=hA60 I
 refine uO Z Z<|U<|W<|W<|Zr<|l7 Z Z<|l7 Z Z<|ip Z Z<|ip Z Z<|add Z Z I I Z<|sO aZ Z Z I I I Z fun A66 hA66=> ?_
 have hA:=vV.at0 hA66 I
 have hvE:w.heap[vb]? =some (.cells (bQ.f x).toArray 3 (0,0)):=H.ent (i:=0) Z
 have hne:vb≠g:=fun he=>by
  have:=H.nodup
  simp only[bk,eF,qk,kE,au]at this
  exact this.1 (.inl (.inr (by rw[he];exact az)))
 have hov: ∀ lb cb,(callFunc s8 #[.slice (Qd vb) 1 1,.slice A66 lb cb]).run aa w=.ok (.value (.bool false)) w:=fun lb cb=>by
  rw[hA,run_callFunc_extern sw N N N (e:=Extern.SlicesOverlaps.overlaps #[xV,xV] #[jc]) N,
   Lib.run_overlaps_apart w xV jc cW (eV aZ).1 bQ.sz (by obtain⟨_,j,h1,h2⟩:=eV aZ;exact fun w=>by rw[fD h1,h2];rfl) ⟨vb,0,none⟩ _ 1 1 lb cb hne cW cW (bQ.f x).length cur.size (by simp[World.shape?,hvE]) (by simp[World.shape?,hgE]) (by have:=bQ.pos;have:=row.fit (i:=1) I;omega) (by simp[World.frozen?,hvE]) (by simp[World.frozen?,hvE])]
  rfl
 refine OP (hov _ _) Z Z<|not Z Z<|U<|ZT Z<|W ?_
 refine bz bX [0,1,2,3,4,5,6,7] [8] [] [0,1,2,3,4,5,6,7] (sp []) N N N N Nq (cF _) ?_
 refine aw Z Z Z Z Z (fun _ _=>ie Z)<|aw Z Z Z Z Z (fun _ _=>ie Z)<|aw Z Z Z Z Z (fun _ _=>ie Z)<|aw Z Z Z Z Z (fun _ _=>br Z Z I I)<|aw Z Z Z Z Z (fun _ _=>pe aZ Z Z I I)<|aw Z Z Z Z Z (fun _ _=>ie Z)<|aw Z Z Z Z Z (fun _ _=>ie Z)<|aw Z Z Z Z Z (fun _ _=>pe aZ Z Z I I)<|aR ?_
 intro w' hw' _;replace H:=H.later hw';clear hw'
 have hgE2:w'.heap[g]? =some (.cells cur 3 (0,0)):=(H.ents (g,.cells cur 3 (0,0)) (by simp)).1
 have hz1:(oI cur ((i+1)*bQ.sz) (bQ.all (es.drop i))).size=cur.size:=jx (by rw[hdr];omega)
 refine Nu (m:=es.length-i) (o:=(i+1)*bQ.sz) aZ H Z Z (No I I) (fun _=>AH I) (row.srcFrom hgE2 I (rN (ao _)) I) (fg.all_one _) (by rw[hdr];omega) Z ?_
 intro w2 H
 refine U<|W<|Zr<|l7 Z Z<|ip Z Z<|sO aZ Z Z I I I Z fun A80 hA80=>l7 Z Z ?_
 have hsrc:=hsv H
 refine Nu (m:=1) (o:=i*bQ.sz) aZ H Z Z (Cs Z I) (fun _=>vV.at0 hA80 I) hsrc (by rw[all_one];exact hx1) (by rw[all_one,hxs,hz1];omega) Z ?_
 rw[all_one]
 intro w3 H
 refine U<|W<|Zr<|l7 Z Z<|uO Z Z<|U<|Zt<|cD Z Z ?_
 exact⟨some ⟨g,0,none⟩,c,_,by rw[hlen];show Value.slice _ ((es.length:Int)+((1:Nat):Int)).toNat _=_;congr 1,dT.own (row.insIn (ma hlt) hroom),H⟩
theorem wP {w0 w:World} {K M Lt:List (Nat×Obj)} {F:List cr} {es:List Int} {i j c:Nat} {A:Option Addr} (H:Hp w0 w (K++Lt++M) F) (ho:gd bQ (.slice A es.length c) 3 es Lt) (hij:i<=j) (hj:j<=es.length) (hb:es.length*8<=140737488355328):
  dd aa qY [.slice A es.length c,J (i:Nat),J (j:Nat)] w fun v w2=> ∃ A' c' L',v=.slice A' (es.take i++es.drop j).length c'/\gd bQ (.slice A' (es.take i++es.drop j).length c') 3 (es.take i++es.drop j) L'/\Hp w0 w2 (K++L'++M) F:=by
 refine aD qt Z Z ?_
 show CW _ _ _ _ (args [.slice A es.length c,J (i:Nat),J (j:Nat)]) w
 have hc0:es.length<=c:=by
  obtain⟨_,c',he,hc,_⟩:=ho.form
  injection he with _ _ he
  omega
 refine W<|Zr<|uO Z Z<|U<|W<|Zr<|l7 Z Z<|ip Z Z<|ip Z Z<|l7 Z Z<|uG eB Z Z<|O9 aZ Z Z Z Z ⟨by omega,by omega⟩ I I Z fun A13 l13 c13=>U<|W<|W<|Zr<|ip Z Z<|ip Z Z ?_
 refine Lc Z Z Z (fun h16=> ?_) (fun h16=> ?_)
 refine U<|ZT Z<|W<|Zr<|l7 Z Z<|uO Z Z<|U<|Zt<|cD Z Z ?_
 have hij:i=j:=by omega
 subst hij
 rw[gG]
 exact⟨A,c,Lt,rfl,ho,H⟩
 refine U<|ZF Z<|Zk ?_
 have hlt:i<j:=by omega
 obtain⟨g,cur,rfl,rfl,row⟩:=ho.row I
 have hle:=row.le
 have hmx:=row.max
 have hlen:=DU hij hj
 have hfit:=row.fit hle
 have hif:=row.fit (i:=i) I
 have hdr:(bQ.all (es.drop j)).length=(es.length-j)*bQ.sz:=by rw[fg.length,dE]
 refine W<|Zr<|l7 Z Z<|uG eB Z Z<|oP Z Z<|U<|W ?_
 refine bz bX [0,1,2,3,4,5] [6,7] [] [0,1,2,3,4,5] (sp []) N N N N Nq (cF _) ?_
 refine aw Z Z Z Z Z (fun _ _=>ie Z)<|aw Z Z Z Z Z (fun _ _=>ie Z)<|aw Z Z Z Z Z (fun _ _=>C9 aZ Z Z I I)<|aw Z Z Z Z Z (fun _ _=>ie Z)<|aw Z Z Z Z Z (fun _ _=>ie Z)<|aw Z Z Z Z Z (fun _ _=>pe aZ Z Z I I)<|aR ?_
 intro w' hw' _;replace H:=H.later hw';clear hw'
 have hgE2:w'.heap[g]? =some (.cells cur 3 (0,0)):=(H.ents (g,.cells cur 3 (0,0)) (by simp)).1
 have hs1:i*bQ.sz+(bQ.all (es.drop j)).length=(i+(es.length-j))*bQ.sz:=by rw[hdr,<-cP]
 have hs2:=row.fit (i:=i+(es.length-j)) I
 have hz1:(oI cur (i*bQ.sz) (bQ.all (es.drop j))).size=cur.size:=jx I
 refine Qb (k:=i) (c:=c) (m:=es.length-j) aZ H (show _=Value.slice _ _ _ by show Value.slice (cut _ c 0 _) _ _=_;rw[AH I,vY];rfl) Z (row.srcFrom hgE2 hj (rN hc0) I) (fg.all_one _) I (by show i*bQ.sz+_<=_;omega) Z ?_
 intro w1 H
 replace H:Hp w0 w1 (K++[(g,.cells (oI cur (i*bQ.sz) (bQ.all (es.drop j))) 3 (0,0))]++M) F:=H
 refine uO Z Z<|U<|W<|Zr<|l7 Z Z<|l7 Z Z<|uG eB Z Z<|ip Z Z<|Ni aZ Z Z Z I I I Z fun A31 hA31=> ?_
 have hzc:(((es.length:Nat):Int).toNat- ((i+(es.length-j):Nat):Int).toNat)*bQ.sz+(i+(es.length-j))*bQ.sz=es.length*bQ.sz:=by rw[<-cP];congr 1;omega
 refine PG (o:=(i+(es.length-j))*bQ.sz) (z:=J 0) aZ N Z Z H Z (fun _=>vV.at0 hA31 I) (by rw[hz1];show _+(((es.length:Nat):Int).toNat- ((i+(es.length-j):Nat):Int).toNat)*bQ.sz<=_;omega) ?_
 intro w2 H
 refine U<|W<|Zr<|l7 Z Z<|uO Z Z<|U<|Zt<|cD Z Z ?_
 have hzl: ∀ m,(Builtin.zeroCells (Value.cells (J 0)) m).toList.length=m*bQ.sz:=fun m=>by rw[ci,size_zeroCells];rfl
 have hr:=row.del hij hj (ao ((i+(es.length-j))*bQ.sz)) (zs:=(Builtin.zeroCells (Value.cells (J 0)) (((es.length:Nat):Int).toNat- ((i+(es.length-j):Nat):Int).toNat)).toList) (by
  rw[hzl]
  show _+(((es.length:Nat):Int).toNat- ((i+(es.length-j):Nat):Int).toNat)*bQ.sz<=_
  omega)
 exact⟨some ⟨g,0,none⟩,c,_,by rw[hlen];rfl,dT.own hr,H⟩
theorem NI {P:Program} {ρ:gM} {w:World} {t:TypeId} {p:String} {af:Array Edge} {g:Option (Nat×Bool)} {dst:Option Nat} {x y:Operand} {ty ty':TypeId} {a b:Nat} {k:IntKind} (hx:ev ρ x=.int .u64 a) (hy:ev ρ y=.int k b) (hb:b<=64):(execOp (ev ρ) (Og dst (.binOp .shr ty x y ty') t p af g)).run P w=.ok (.value (.int .u64 (a/2 ^ b:Nat))) w:=by
 have e:(a:Int).fdiv (2 ^ b)=((a/2 ^ b:Nat):Int):=by
  rw[Int.fdiv_eq_ediv_of_nonneg _ (Int.le_of_lt (Int.pow_pos (by decide)))]
  simp
 simp only[execOp,hx,hy,eqGuard,binOp,Op.shift,Sem.run_bind,Sem.run_pure]
 simp[e,bu (show b<=IntKind.u64.bits from hb)]
 intro h;omega
theorem Ow {n:Nat} (h:n<=9000000000000000000):IntKind.u64.wrap (n:Int)=n:=by
 simp only[IntKind.wrap,IntKind.bits,IntKind.signed]
 simp
 omega
theorem rises {es:List Int} (h:es.Pairwise (· < ·)) {i j:Nat} {a b:Int} (hi:es[i]? =some a) (hj:es[j]? =some b) (hij:i<=j):a<=b:=by
 obtain⟨h1,rfl⟩:=aA.1 hi
 obtain⟨h2,rfl⟩:=aA.1 hj
 rcases iE i j with h3|h3
 exact Int.le_of_lt (mH.1 h i j h1 h2 h3)
 have:i=j:=by omega
 subst this
 exact iS _
theorem Bj (n:Int) (w:World):dd aa vI [J n] w fun v w2=>v=.bool false/\Below w.heap.size w w2:=by
 refine aD uL Z Z ?_
 have H:=Hp.start w
 refine W<|Zr<|G (Wb Z)<|U<|W<|Zr<|G (Yi Z)<|G (Yi Z)<|G (bU Z Z Z)<|G (Wb Z)<|U<|Zt ?_
 exact cD (v:=.bool false) Z Z ⟨rfl,H.below⟩
theorem qd (es:List Int) (t:Int) (A:Option Addr) (c:Nat) (w:World) (hr:Rd bQ 0 w.heap.size A es w) (hb:es.length<=1000000) (hp:es.Pairwise (· < ·)):
  dd aa nb [.slice A es.length c,J t] w fun v w2=> ∃ i:Nat,v=.tuple #[J (i:Nat),.bool (decide (es[i]? =some t))]/\i<=es.length/\(∀ k y,es[k]? =some y->k<i->y<t)/\(∀ k y,es[k]? =some y->i<=k->t<=y)/\Below w.heap.size w w2:=by
 refine aD mP Z Z ?_
 have H:=Hp.startRd hr
 show CW _ _ _ _ (args [.slice A es.length c,J t]) w
 refine W<|Zr<|G (Wi Z)<|G (Wb Z)<|U<|W<|Zr<|G (Ys Z)<|G (bn eB Z)<|G (Wi Z)<|U<|W<|Zr<|G (Yi Z)<|G (Wi Z)<|G (Wi Z)<|U<|W<|Zb ?_
 refine ce (τ:=Nat×Nat) [7,8,9,13,14,15,16,17,18,19,20,21,22,23,24,25,26,27,28,29,30] (fun(l,r)=>[(7,J (l:Nat)),(8,J (r:Nat))]) (fun(l,r) w'=>l<=r/\r<=es.length/\(∀ k y,es[k]? =some y->k<l->y<t)/\(∀ k y,es[k]? =some y->r<=k->t<=y)/\Hp w w' [] [dM bQ 0 w.heap.size A es]) (fun(l,r)=>r-l) (0,es.length) ⟨by omega,by omega,by intro k y _ h;omega,by intro k y h1 h2;have:=(cE h1).1;omega,H⟩ (kO Z Z) ?_
 rintro⟨l,r⟩ ρ1 w1 ⟨hlr,hrn,hlo,hhi,H⟩
 show CW _ _ _ _ (dC (gC _ _ ρ1) [(7,J (l:Nat)),(8,J (r:Nat))]) w1
 refine W<|W<|Zr<|G (Yi Z)<|G (Yi Z) ?_
 refine cT (cG Z Z) Z Z Z (fun h15=> ?_) (fun h15=> ?_)
 refine U<|ZT Z<|Zk<|Zb<|W<|Zr<|G (Yi Z)<|G (Yi Z)<|G (br Z Z I I) ?_
 rw[show((l:Nat):Int)+((r:Nat):Int)=((l+r:Nat):Int) by omega]
 refine G (CI ik E7 Z (Ow I))<|G (NI Z (b:=1) Z I) ?_
 obtain⟨m,hm,hm1,hm2⟩: ∃ m:Nat,(l+r)/2 ^ 1=m/\l<=m/\m<r:=⟨(l+r)/2,rfl,by omega,by omega⟩
 rw[hm]
 refine G (CI E7 ik Z (uR I))<|G (Wi Z)<|U<|W<|Zr<|G (Ys Z)<|G (Yi Z)<|qn H 0 Z aZ Z Z I I Z fun b2 o2 x2 e2=>G (aT aj Z (e2.cl 0 _ Z))<|G (Yi Z)<|cd yW (E5 x2 t _) Z Z ?_
 rintro _ w3 ⟨rfl,hb⟩;replace H:=H.later hb;clear hb
 refine U ?_
 refine jf Z (fun hc27=> ?_) (fun hc27=> ?_)
 refine Zr<|G (Yi Z)<|G (br Z Z I I)<|G (Wi Z)<|U ?_
 refine⟨(m+1,r),⟨by omega,hrn,fun k y h1 h2=>Int.lt_of_le_of_lt (rises hp h1 e2.at_ I) (of_decide_eq_true hc27),hhi,H⟩,kO Z Z,Qg,by show r- (m+1)<r-l;omega⟩
 refine Zr<|G (Yi Z)<|G (Wi Z)<|U ?_
 refine⟨(l,m),⟨hm1,by omega,hlo,fun k y h1 h2=>by have h3:=rises hp e2.at_ h1 h2;have h4:=of_decide_eq_false hc27;omega,H⟩,kO Z Z,Qg,by show m-l<r-l;omega⟩
 refine U<|ZF Z<|Zx<|W<|Zr<|G (Yi Z)<|G (Yi Z)<|G (Yi Z) ?_
 refine cT (cG Z Z) Z Z Z (fun h34=> ?_) (fun h34=> ?_)
 refine G (Yb Z)<|ZG<|G (Ys Z)<|ZG<|G (Yi Z)<|ZG<|qn H 0 Z aZ Z Z I I Z fun b4 o4 x4 e4=>ZG<|G (aT aj Z (e4.cl 0 _ Z))<|ZG<|G (Yi Z)<|ZG ?_
 refine cT (bl Z Z) Z Z Z (fun h41=> ?_) (fun h41=> ?_)
 refine ZG<|G (Yb Z)<|ZN<|ZN<|ZN<|ZN<|ZN<|ZN<|ZN<|ZN<|ZN<|ZG<|G (Kt Z Z)<|G (Kt Z Z)<|G (Wi Z)<|G (Wb Z)<|U<|Zt ?_
 have hd:decide (es[l]? =some t)=true:=by rw[e4.at_,h41];exact decide_eq_true Z
 exact l5 Z Z Z ⟨l,by rw[hd];rfl,by omega,hlo,by intro k y h1 h2;exact hhi k y h1 I,H.below⟩
 refine ZG<|G (Yb Z)<|ZG<|G (Ys Z)<|ZG<|G (Yi Z)<|ZG<|qn H 0 Z aZ Z Z I I Z fun b5 o5 x5 e5=>ZG<|G (aT aj Z (e5.cl 0 _ Z))<|ZG<|cd uN (Bj _ _) Z Z ?_
 rintro _ w6 ⟨rfl,hb⟩;replace H:=H.later hb;clear hb
 refine ZG<|G (Yb Z)<|ZN<|ZN<|ZG<|G (N Z Z)<|ZG<|G (N Z Z)<|G (Kt Z Z)<|G (Wi Z)<|G (Wb Z)<|U<|Zt ?_
 have hd:decide (es[l]? =some t)=false:=by rw[e4.at_];exact decide_eq_false (fun h=>h41 (bj h))
 exact l5 Z Z Z ⟨l,by rw[hd];rfl,by omega,hlo,by intro k y h1 h2;exact hhi k y h1 I,H.below⟩
 refine G (Yb Z)<|ZN<|ZN<|ZN<|ZN<|ZN<|ZN<|ZN<|ZN<|ZN<|ZN<|ZN<|ZN<|ZN<|ZN<|ZN<|ZN<|ZN<|G (N Z Z)<|G (Wi Z)<|G (Wb Z)<|U<|Zt ?_
 have hd:decide (es[l]? =some t)=false:=by rw[cI I];rfl
 exact l5 Z Z Z ⟨l,by rw[hd];rfl,by omega,hlo,by intro k y h1 h2;exact hhi k y h1 I,H.below⟩
/-- a part more, in its place -/
def kk (l:List Int) (p:Int):List Int:=if p∈l then l else l.filter (fun q=>decide (q<p))++[p]++l.filter (fun q=>decide (p<=q))
def iu (ck:Int) (p:Int) (t:Tx):Tx:=if t.state=1 then{t with state:=2,since:=ck,parts:=kk t.parts p}else{t with parts:=kk t.parts p}
theorem N9 {l:List Int} {p:Int} {i:Nat} (h1: ∀ k y,l[k]? =some y->k<i->y<p) (h2: ∀ k y,l[k]? =some y->i<=k->p<=y):l.take i=l.filter (fun q=>decide (q<p))/\l.drop i=l.filter (fun q=>decide (p<=q)):=by
 have ha: ∀ y∈l.take i,y<p:=fun y hy=>by
  obtain⟨k,hk⟩:=aW.1 hy
  rw[de]at hk
  split at hk
  exact h1 k y hk ‹_›
  cases hk
 have hb: ∀ y∈l.drop i,p<=y:=fun y hy=>by
  obtain⟨k,hk⟩:=aW.1 hy
  rw[dI]at hk
  exact h2 _ y hk I
 have e1:l.filter (fun q=>decide (q<p))=(l.take i).filter (fun q=>decide (q<p))++(l.drop i).filter (fun q=>decide (q<p)):=by rw[<-ko,gG]
 have e2:l.filter (fun q=>decide (p<=q))=(l.take i).filter (fun q=>decide (p<=q))++(l.drop i).filter (fun q=>decide (p<=q)):=by rw[<-ko,gG]
 rw[e1,e2,jJ.2 (fun y hy=>decide_eq_true (ha y hy)),List.filter_eq_nil_iff.2 (fun y hy=>by have:=hb y hy;simpa using this),
  List.filter_eq_nil_iff.2 (fun y hy=>by have:=ha y hy;simpa using this),jJ.2 (fun y hy=>decide_eq_true (hb y hy))]
 simp
theorem Ea {l:List Int} {p:Int} {i:Nat} (h1: ∀ k y,l[k]? =some y->k<i->y<p) (h2: ∀ k y,l[k]? =some y->i<=k->p<=y) (hp:l.Pairwise (· < ·)) (hn: ¬ l[i]? =some p):l.take i++[p]++l.drop i=kk l p:=by
 obtain⟨e1,e2⟩:=N9 h1 h2
 have hm:p∉l:=fun hm=>by
  obtain⟨k,hk⟩:=aW.1 hm
  by_cases hki:k<i
  have:=h1 k p hk hki;omega
  have hki:i<=k:=by omega
  have hl:=(cE hk).1
  obtain⟨x,hx⟩: ∃ x,l[i]? =some x:=⟨_,ah I⟩
  have h3:=rises hp hx hk hki
  have h4:=h2 i x hx (ao _)
  exact hn (by rw[hx];congr 1;omega)
 unfold kk
 rw[if_neg hm,e1,e2]
theorem xU {l:List Int} {p:Int} {i:Nat} (h:l[i]? =some p):kk l p=l:=if_pos (ae h)
theorem va {w0 w:World} {F:List cr} (X A B C:List (Nat×Obj)) (H:Hp w0 w (X++((A++B++C)++[])) F):Hp w0 w ((X++A)++B++C) F:=by simpa using H
theorem Aj {w0 w:World} {F:List cr} (X A B C:List (Nat×Obj)) (H:Hp w0 w ((X++A)++B++C) F):Hp w0 w (X++((A++B++C)++[])) F:=by simpa using H
theorem CP {ck p:Int} {t t':Tx} (h:t'.a=t.a):(iu ck p t').a=(iu ck p t).a:=by
 have e: ∀ t:Tx,(iu ck p t).a=iu ck p t.a:=fun t=>by
  unfold iu
  by_cases h:t.state=1
  rw[if_pos h,if_pos (show t.a.state=1 from h)];rfl
  rw[if_neg h,if_neg (show¬ t.a.state=1 from h)];rfl
 rw[e,e,h]
theorem jE {ts:List Tx} (h: ∀ t∈ts,t.parts.length<=t.cap) (i:Nat) {t':Tx} (h2:t'.parts.length<=t'.cap): ∀ x∈ts.set i t',x.parts.length<=x.cap:=fun x hx=>by
 rcases bE hx with hx|rfl
 exact h x hx
 exact h2
theorem LI (c:Co) (s:ByteArray) (ver p:Int) (w:World) (h:c.rd 0 w.heap.size w) (hok:gA c=true) (hn:bM s=true) (hi:fF c s= -1):dd aa oa [c.v,.string s,J ver,J p] w fun v w2=>v=.tuple #[.agg #[J 0,J 0,J 0,.slice none 0 0],J 5]/\Below w.heap.size w w2:=by
 refine aD py Z Z ?_
 have hcap:=h.cap
 have hfew:=h.few
 have hfp:=h.fewP
 have H:=Hp.startCo h
 obtain⟨ck,nx,wt,txs,cA,cc⟩:=c
 dsimp only at hcap hfew hfp H
 show CW _ _ _ _ (args [.agg #[J ck,J nx,J wt,.slice cA txs.length cc],.string s,J ver,J p]) w
 refine W<|Zr<|fQ H Z Z fun w1 b4 H=>eH H cJ Z fun w2 b8 H=>G (Wi Z)<|U<|W<|Zr<|G (Zw av H 1 Z Z Z)<|G (Yt Z)<|G (Yi Z)<|cd gw (z5 ⟨ck,nx,wt,txs,cA,cc⟩ s ver _ ⟨H.rd0 0 Z,fun t ht=>fp H 1 Z ht,hcap,hfew,hfp⟩ hok hn hi) Z Z ?_
 rintro _ w3 ⟨rfl,hb⟩;replace H:=H.later hb;clear hb
 refine G (Yu Z)<|G (Xa Z Z)<|G (Xi Z Z)<|G (Xi Z Z)<|bo H 1 (#[J (0),J (0),J (0),.slice none 0 0]) aF Z Z Z Z Z N N fun w4 H=>G (Wi Z)<|G (Wi Z)<|U<|W<|W<|Zr<|G (Yi Z)<|G (jW Z Z (by decide))<|U<|ZT Z<|W<|Zr<|G (bi (cs:= #[J (0),J (0),J (0),.slice none 0 0]) ft cJ N)<|G (Yi Z)<|bo H 0 (#[J (0),J (0),J (0),.slice none 0 0]) aF Z Z Z Z Z N N fun w5 H=>G (Wi Z)<|U<|Zt ?_
 exact bC (cs0:= #[J 0,J 0,J 0,.slice none 0 0]) (v1:=J 5) Z av Z (H.ent (i:=0) Z) Z Z ⟨rfl,H.below⟩
theorem Jx (c:Co) (s:ByteArray) (ver p:Int) (i:Nat) (t:Tx) (w:World) (h:c.rd 0 w.heap.size w) (hok:gA c=true) (hn:bM s=true) (hi:fF c s=i) (ht:c.txs[i]? =some t) (hv:t.ver≠ver):dd aa oa [c.v,.string s,J ver,J p] w fun v w2=>v=.tuple #[.agg #[J 0,J 0,J 0,.slice none 0 0],J 10]/\Below w.heap.size w w2:=by
 refine aD py Z Z ?_
 have hcap:=h.cap
 have hfew:=h.few
 have hfp:=h.fewP
 have H:=Hp.startCo h
 obtain⟨ck,nx,wt,txs,cA,cc⟩:=c
 dsimp only at hcap hfew hfp H
 show CW _ _ _ _ (args [.agg #[J ck,J nx,J wt,.slice cA txs.length cc],.string s,J ver,J p]) w
 dsimp only at ht
 refine W<|Zr<|fQ H Z Z fun w1 b4 H=>eH H cJ Z fun w2 b8 H=>G (Wi Z)<|U<|W<|Zr<|G (Zw av H 1 Z Z Z)<|G (Yt Z)<|G (Yi Z)<|cd gw (ym ⟨ck,nx,wt,txs,cA,cc⟩ s ver i t _ ⟨H.rd0 0 Z,fun t ht=>fp H 1 Z ht,hcap,hfew,hfp⟩ hok hn hi ht hv) Z Z ?_
 rintro _ w3 ⟨rfl,hb⟩;replace H:=H.later hb;clear hb
 refine G (Yu Z)<|G (Xa Z Z)<|G (Xi Z Z)<|G (Xi Z Z)<|bo H 1 (#[J (0),J (0),J (0),.slice none 0 0]) aF Z Z Z Z Z N N fun w4 H=>G (Wi Z)<|G (Wi Z)<|U<|W<|W<|Zr<|G (Yi Z)<|G (jW Z Z (by decide))<|U<|ZT Z<|W<|Zr<|G (bi (cs:= #[J (0),J (0),J (0),.slice none 0 0]) ft cJ N)<|G (Yi Z)<|bo H 0 (#[J (0),J (0),J (0),.slice none 0 0]) aF Z Z Z Z Z N N fun w5 H=>G (Wi Z)<|U<|Zt ?_
 exact bC (cs0:= #[J 0,J 0,J 0,.slice none 0 0]) (v1:=J 10) Z av Z (H.ent (i:=0) Z) Z Z ⟨rfl,H.below⟩
theorem Jw (c:Co) (s:ByteArray) (ver p:Int) (i:Nat) (t:Tx) (w:World) (h:c.rd 0 w.heap.size w) (hok:gA c=true) (hn:bM s=true) (hi:fF c s=i) (ht:c.txs[i]? =some t) (hv:t.ver=ver) (hp0:0<=p) (hp3:p<4) (h1:t.state≠1) (h2:t.state≠2):dd aa oa [c.v,.string s,J ver,J p] w fun v w2=>v=.tuple #[.agg #[J 0,J 0,J 0,.slice none 0 0],J 12]/\Below w.heap.size w w2:=by
 refine aD py Z Z ?_
 have hcap:=h.cap
 have hfew:=h.few
 have hfp:=h.fewP
 have H:=Hp.startCo h
 obtain⟨ck,nx,wt,txs,cA,cc⟩:=c
 dsimp only at hcap hfew hfp H
 show CW _ _ _ _ (args [.agg #[J ck,J nx,J wt,.slice cA txs.length cc],.string s,J ver,J p]) w
 dsimp only at ht
 refine W<|Zr<|fQ H Z Z fun w1 b4 H=>eH H cJ Z fun w2 b8 H=>G (Wi Z)<|U<|W<|Zr<|G (Zw av H 1 Z Z Z)<|G (Yt Z)<|G (Yi Z)<|cd gw (wv ⟨ck,nx,wt,txs,cA,cc⟩ s ver i t _ ⟨H.rd0 0 Z,fun t ht=>fp H 1 Z ht,hcap,hfew,hfp⟩ hok hn hi ht hv) Z Z ?_
 rintro _ w3 ⟨⟨ck2,nx2,wt2,tx2,A2,c2⟩,Lr,Lp,rfl,ha2,ho2,hp2,hoc2,hpc2,hj2⟩
 replace H:=H.joinR hj2;clear hj2
 simp only[Co.a,Co.mk.injEq]at ha2
 obtain⟨e1,e2,e3,hma,-,-⟩:=ha2
 obtain rfl:ck=ck2:=e1.symm
 obtain rfl:nx=nx2:=e2.symm
 obtain rfl:wt=wt2:=e3.symm
 dsimp only at ho2 hp2 hoc2 hpc2 H
 obtain⟨t2,ht2,hta⟩:=qU hma ht
 have hl2:=(cE ht2).1
 obtain⟨g,cur,rfl,rfl,row⟩:=ho2.row I
 have hst:t2.state=t.state:=by show t2.a.state=t.a.state;rw[hta]
 have hdn:t2.done=t.done:=by show t2.a.done=t.a.done;rw[hta]
 have hpt:t2.parts=t.parts:=by show t2.a.parts=t.a.parts;rw[hta]
 refine G (Yu Z)<|G (Xa Z Z)<|G (Xi Z Z)<|G (Xi Z Z)<|bo H 1 (#[J (ck),J (nx),J (wt),.slice (Qd g) tx2.length c2]) aF Z Z Z Z Z N N fun w4 H=>G (Wi Z)<|G (Wi Z)<|U<|W<|W<|Zr<|G (Yi Z)<|G (bU Z Z Z)<|U<|ZF Z<|Zk<|W<|W<|Zr<|G (Yi Z)<|G (cY Z Z I)<|G (Yb Z)<|ZG<|G (Yi Z)<|ZG<|G (rc Z Z I)<|G (N Z Z)<|U<|ZF Z<|Zk<|W<|Zr<|G (Zf cO Z)<|G (Zd dJ H 1 Z Z Z)<|G (Yi Z)<|G (cB gB Z Z (by first|omega|(simp only[ab];omega)))<|G (Wp Z)<|U<|W<|W ?_
 refine Zr<|G (Yp Z)<|G (aI Z)<|G (Zf cQ Z)<|G (bP aj row ht2 3 Z (H.ent (i:=2) Z) Z)<|U<|Zb<|W<|Zr<|G (nu Z Z I)<|G (Wb Z)<|U<|ZF Z<|W<|Zr<|G (nu Z Z I)<|G (Wb Z)<|U<|ZF Z<|W<|Zr<|G (bi (cs:= #[J (0),J (0),J (0),.slice none 0 0]) ft cJ N)<|bo H 0 (#[J (0),J (0),J (0),.slice none 0 0]) aF Z Z Z Z Z N N fun w5 H=>G (Wi Z)<|U<|Zt ?_
 exact bC (cs0:= #[J 0,J 0,J 0,.slice none 0 0]) (v1:=J 12) Z av Z (H.ent (i:=0) Z) Z Z ⟨rfl,H.below⟩
theorem Oh (c:Co) (s:ByteArray) (ver p:Int) (i:Nat) (t:Tx) (w:World) (h:c.rd 0 w.heap.size w) (hok:gA c=true) (hn:bM s=true) (hi:fF c s=i) (ht:c.txs[i]? =some t) (hv:t.ver=ver) (hp0:0<=p) (hp3:p<4) (h12:t.state=1∨t.state=2) (hpo:cR (-1) t.parts=true):dd aa oa [c.v,.string s,J ver,J p] w fun v w2=> ∃ (c':Co) (Lr Lp:List (Nat×Obj)),v=.tuple #[c'.v,J 0]/\qf w w2 (Co.a {c with txs:=c.txs.set i (iu c.clock p t)}) c' Lr Lp:=by
 refine aD py Z Z ?_
 have hcap:=h.cap
 have hfew:=h.few
 have hfp:=h.fewP
 have H:=Hp.startCo h
 obtain⟨ck,nx,wt,txs,cA,cc⟩:=c
 dsimp only at hcap hfew hfp H
 show CW _ _ _ _ (args [.agg #[J ck,J nx,J wt,.slice cA txs.length cc],.string s,J ver,J p]) w
 dsimp only at ht⊢
 refine W<|Zr<|fQ H Z Z fun w1 b4 H=>eH H cJ Z fun w2 b8 H=>G (Wi Z)<|U<|W<|Zr<|G (Zw av H 1 Z Z Z)<|G (Yt Z)<|G (Yi Z)<|cd gw (wv ⟨ck,nx,wt,txs,cA,cc⟩ s ver i t _ ⟨H.rd0 0 Z,fun t ht=>fp H 1 Z ht,hcap,hfew,hfp⟩ hok hn hi ht hv) Z Z ?_
 rintro _ w3 ⟨⟨ck2,nx2,wt2,tx2,A2,c2⟩,Lr,Lp,rfl,ha2,ho2,hp2,hoc2,hpc2,hj2⟩
 replace H:=H.joinR hj2;clear hj2
 simp only[Co.a,Co.mk.injEq]at ha2
 obtain⟨e1,e2,e3,hma,-,-⟩:=ha2
 obtain rfl:ck=ck2:=e1.symm
 obtain rfl:nx=nx2:=e2.symm
 obtain rfl:wt=wt2:=e3.symm
 dsimp only at ho2 hp2 hoc2 hpc2 H
 obtain⟨t2,ht2,hta⟩:=qU hma ht
 have hl2:=(cE ht2).1
 obtain⟨g,cur,rfl,rfl,row⟩:=ho2.row I
 have hst:t2.state=t.state:=by show t2.a.state=t.a.state;rw[hta]
 have hdn:t2.done=t.done:=by show t2.a.done=t.a.done;rw[hta]
 have hpt:t2.parts=t.parts:=by show t2.a.parts=t.a.parts;rw[hta]
 refine G (Yu Z)<|G (Xa Z Z)<|G (Xi Z Z)<|G (Xi Z Z)<|bo H 1 (#[J (ck),J (nx),J (wt),.slice (Qd g) tx2.length c2]) aF Z Z Z Z Z N N fun w4 H=>G (Wi Z)<|G (Wi Z)<|U<|W<|W<|Zr<|G (Yi Z)<|G (bU Z Z Z)<|U<|ZF Z<|Zk<|W<|W<|Zr<|G (Yi Z)<|G (cY Z Z I)<|G (Yb Z)<|ZG<|G (Yi Z)<|ZG<|G (rc Z Z I)<|G (N Z Z)<|U<|ZF Z<|Zk<|W<|Zr<|G (Zf cO Z)<|G (Zd dJ H 1 Z Z Z)<|G (Yi Z)<|G (cB gB Z Z (by first|omega|(simp only[ab];omega)))<|G (Wp Z)<|U<|W<|W ?_
 refine Zr<|G (Yp Z)<|G (aI Z)<|G (Zf cQ Z)<|G (bP aj row ht2 3 Z (H.ent (i:=2) Z) Z)<|U<|Zb<|W<|Zr ?_
 refine cT (bl Z Z) Z Z Z (fun h44=> ?_) (fun h44=> ?_)
 refine G (Wb Z)<|U<|ZT Z ?_
 refine qJ bX [0,1,2,4,5] [3,6,7,8,9] [0,1,2,4,5] 5 N N N Nq ?_
 refine aw Z Z Z Z Z (fun w' hw'=>Yp Z)<|aw Z Z Z Z Z (fun w' hw'=>Yp Z)<|aw Z Z Z Z Z (fun w' hw'=>Zf kb Z)<|aw Z Z Z Z Z (fun w' hw'=>aI Z)<|aw Z Z Z Z Z (fun w' hw'=>Zf cQ Z)<|aR ?_
 intro w5 hw';replace H:=H.later hw';clear hw'
 refine tf 3 6 N Z Z ?_ ?_
 refine G (Zd aj H 1 Z Z Z)<|U<|da 6 N Z<|kH H 2 ({t2 with state:=2}) bI row ht2 3 Z Z Z Z Z Z N fun w7 cur6 row6 H=> ?_
 have hs8:(tx2.set i ({t2 with state:=2}))[i]? =some ({t2 with state:=2}):=am (cE ht2).1
 refine U<|da 7 N Z<|G (aI Z)<|U<|da 8 N Z<|G (Zf tR Z)<|U<|da 9 N Z<|kH H 2 ({({t2 with state:=2})with since:=ck}) bI row6 hs8 5 Z Z Z Z Z Z N fun w10 cur9 row9 H=> ?_
 have hs11:((tx2.set i ({t2 with state:=2})).set i ({({t2 with state:=2})with since:=ck}))[i]? =some ({({t2 with state:=2})with since:=ck}):=am (cE hs8).1
 refine U<|cy N<|W<|W ?_
 have hrise:=(fE hpo).1
 have hfw:=mf hpo
 rw[<-hpt]at hrise hfw
 obtain⟨La,Lt,Lb,rfl,hot,hset⟩:=hp2.at_ ht2
 refine Zr<|G (Yp Z)<|G (aI Z)<|G (Zf dv Z)<|G (bP cn row9 hs11 4 Z (H.ent (i:=2) Z) Z)<|G (Yi Z)<|cd d6 (qd t2.parts p t2.A t2.cap _ ((hot.rd (K:=[(b8,.cells #[J (0),J (0),J (0),.slice none 0 0] bd (0,0)),(b4,.cells #[J (ck),J (nx),J (wt),.slice (Qd g) tx2.length c2] bd (0,0)),(g,.cells cur9 dB (0,0))]++La) (M:=Lb) (va [(b8,.cells #[J (0),J (0),J (0),.slice none 0 0] bd (0,0)),(b4,.cells #[J (ck),J (nx),J (wt),.slice (Qd g) tx2.length c2] bd (0,0)),(g,.cells cur9 dB (0,0))] La Lt Lb H)).mono (bG _) (ao _)) I hrise) Z Z ?_
 rintro _ w12 ⟨j,rfl,hjl,hj1,hj2,hb⟩;replace H:=H.later hb;clear hb
 refine G (Yu Z)<|G (Xi Z Z)<|G (Xb Z Z) ?_
 refine mj 63 Z (fun h63=> ?_) (fun h63=> ?_)
 refine G (Wi Z)<|G (Wb Z)<|U<|W<|Zr<|G (Yb Z)<|G (dK Z)<|U<|ZF Z<|Zk<|W<|Zr<|G (Zw av H 1 Z Z Z)<|bo H 0 (#[J (ck),J (nx),J (wt),.slice (Qd g) tx2.length c2]) aF Z Z Z Z Z N N fun w13 H=>G (Wi Z)<|U<|Zt ?_
 have hpp:kk t2.parts p=t2.parts:=xU (of_decide_eq_true h63)
 have hX:Tx.a ({t2 with state:=2,since:=ck})=(iu ck p t).a:=by rw[<-CP hta];unfold iu;rw[if_pos I];rw[hpp]
 have hrow:dT rx (tx2.set i ({t2 with state:=2,since:=ck})) c2 cur9:=by have hr:=row9;simp only[fk]at hr;exact hr
 exact bC (cs0:= #[J ck,J nx,J wt,.slice (Qd g) tx2.length c2]) (v1:=J 0) Z av Z (H.ent (i:=0) Z) Z Z ⟨⟨ck,nx,wt,tx2.set i ({t2 with state:=2,since:=ck}),some ⟨g,0,none⟩,c2⟩,[(g,.cells cur9 dB (0,0))],(La++Lt++Lb),by unfold Co.v Co.c;dsimp only;rw[ab],by unfold Co.a;dsimp only;rw[oQ hma i hX],dT.own hrow,hset {t2 with state:=2,since:=ck} Lt hot,by dsimp only;rw[ab];exact hoc2,jE hpc2 i (by exact hpc2 t2 (ae ht2)),H.forget (.cons _ (.cons _ (aC _ _))) (by simp)⟩
 refine G (Wi Z)<|G (Wb Z)<|U<|W<|Zr<|G (Yb Z)<|G (dK Z)<|U<|ZT Z<|Zr<|G (Yp Z)<|G (Yp Z)<|G (aI Z)<|G (Zf dv Z)<|G (bP cn row9 hs11 4 Z (H.ent (i:=2) Z) Z)<|G (Yi Z)<|G (Yi Z)<|sW (vs:=[J (p)]) H aZ v6 Z Z Z Z Z Z fun w14 b73 H=>cd iw (sj (K:=[(b8,.cells #[J (0),J (0),J (0),.slice none 0 0] bd (0,0)),(b4,.cells #[J (ck),J (nx),J (wt),.slice (Qd g) tx2.length c2] bd (0,0)),(g,.cells cur9 dB (0,0))]++La) (Lt:=Lt) (M:=Lb) (va [(b73,.cells #[J (p)] cW (0,0)),(b8,.cells #[J (0),J (0),J (0),.slice none 0 0] bd (0,0)),(b4,.cells #[J (ck),J (nx),J (wt),.slice (Qd g) tx2.length c2] bd (0,0)),(g,.cells cur9 dB (0,0))] La Lt Lb H) hot hjl I) Z Z ?_
 rintro _ w15 ⟨A9,c9,L9,rfl,ho9,HI⟩;replace H:Hp w w15 ([(b73,.cells #[J (p)] cW (0,0)),(b8,.cells #[J (0),J (0),J (0),.slice none 0 0] bd (0,0)),(b4,.cells #[J (ck),J (nx),J (wt),.slice (Qd g) tx2.length c2] bd (0,0)),(g,.cells cur9 dB (0,0))]++((La++L9++Lb)++[])) [dM rx 0 w.heap.size cA txs,iy 0 w.heap.size txs]:=Aj [(b73,.cells #[J (p)] cW (0,0)),(b8,.cells #[J (0),J (0),J (0),.slice none 0 0] bd (0,0)),(b4,.cells #[J (ck),J (nx),J (wt),.slice (Qd g) tx2.length c2] bd (0,0)),(g,.cells cur9 dB (0,0))] La L9 Lb HI
 have hc9:(t2.parts.take j++[p]++t2.parts.drop j).length<=c9:=by obtain⟨_,_,e,h,_⟩:=ho9.form;injection e with _ _ e;rw[e];exact h
 refine G (aI Z)<|G (Zf dv Z)<|kH H 3 ({{t2 with state:=2,since:=ck}with parts:=t2.parts.take j++[p]++t2.parts.drop j,A:=A9,cap:=c9}) jv row9 hs11 4 Z Z Z Z Z Z N fun w17 cur16 row16 H=> ?_
 have hs18:(((tx2.set i ({t2 with state:=2})).set i ({({t2 with state:=2})with since:=ck})).set i ({{t2 with state:=2,since:=ck}with parts:=t2.parts.take j++[p]++t2.parts.drop j,A:=A9,cap:=c9}))[i]? =some ({{t2 with state:=2,since:=ck}with parts:=t2.parts.take j++[p]++t2.parts.drop j,A:=A9,cap:=c9}):=am (cE hs11).1
 refine U<|W<|Zr<|G (Zw av H 2 Z Z Z)<|bo H 1 (#[J (ck),J (nx),J (wt),.slice (Qd g) tx2.length c2]) aF Z Z Z Z Z N N fun w19 H=>G (Wi Z)<|U<|Zt ?_
 have hpp:=Ea hj1 hj2 hrise (of_decide_eq_false h63)
 have hX:Tx.a ({t2 with state:=2,since:=ck,parts:=t2.parts.take j++[p]++t2.parts.drop j,A:=A9,cap:=c9})=(iu ck p t).a:=by rw[<-CP hta];unfold iu;rw[if_pos I];rw[<-hpp];rfl
 have hrow:dT rx (tx2.set i ({t2 with state:=2,since:=ck,parts:=t2.parts.take j++[p]++t2.parts.drop j,A:=A9,cap:=c9})) c2 cur16:=by have hr:=row16;simp only[fk]at hr;exact hr
 exact bC (cs0:= #[J ck,J nx,J wt,.slice (Qd g) tx2.length c2]) (v1:=J 0) Z av Z (H.ent (i:=1) Z) Z Z ⟨⟨ck,nx,wt,tx2.set i ({t2 with state:=2,since:=ck,parts:=t2.parts.take j++[p]++t2.parts.drop j,A:=A9,cap:=c9}),some ⟨g,0,none⟩,c2⟩,[(g,.cells cur16 dB (0,0))],(La++L9++Lb),by unfold Co.v Co.c;dsimp only;rw[ab],by unfold Co.a;dsimp only;rw[oQ hma i hX],dT.own hrow,hset {t2 with state:=2,since:=ck,parts:=t2.parts.take j++[p]++t2.parts.drop j,A:=A9,cap:=c9} L9 ho9,by dsimp only;rw[ab];exact hoc2,jE hpc2 i (by exact hc9),H.forget (.cons _ (.cons _ (.cons _ (aC _ _)))) (by simp)⟩
 refine kH H 2 ({t2 with state:=2}) bI row ht2 3 Z Z Z Z Z Z N fun w21 cur20 row20 H=> ?_
 have hs22:(tx2.set i ({t2 with state:=2}))[i]? =some ({t2 with state:=2}):=am (cE ht2).1
 refine U<|da 3 N Z<|G (Zd aj H 1 Z Z Z)<|U<|da 7 N Z<|G (aI Z)<|U<|da 8 N Z<|G (Zf tR Z)<|U<|da 9 N Z<|kH H 2 ({({t2 with state:=2})with since:=ck}) bI row20 hs22 5 Z Z Z Z Z Z N fun w24 cur23 row23 H=> ?_
 have hs25:((tx2.set i ({t2 with state:=2})).set i ({({t2 with state:=2})with since:=ck}))[i]? =some ({({t2 with state:=2})with since:=ck}):=am (cE hs22).1
 refine U<|cy N<|W<|W ?_
 have hrise:=(fE hpo).1
 have hfw:=mf hpo
 rw[<-hpt]at hrise hfw
 obtain⟨La,Lt,Lb,rfl,hot,hset⟩:=hp2.at_ ht2
 refine Zr<|G (Yp Z)<|G (aI Z)<|G (Zf dv Z)<|G (bP cn row23 hs25 4 Z (H.ent (i:=2) Z) Z)<|G (Yi Z)<|cd d6 (qd t2.parts p t2.A t2.cap _ ((hot.rd (K:=[(b8,.cells #[J (0),J (0),J (0),.slice none 0 0] bd (0,0)),(b4,.cells #[J (ck),J (nx),J (wt),.slice (Qd g) tx2.length c2] bd (0,0)),(g,.cells cur23 dB (0,0))]++La) (M:=Lb) (va [(b8,.cells #[J (0),J (0),J (0),.slice none 0 0] bd (0,0)),(b4,.cells #[J (ck),J (nx),J (wt),.slice (Qd g) tx2.length c2] bd (0,0)),(g,.cells cur23 dB (0,0))] La Lt Lb H)).mono (bG _) (ao _)) I hrise) Z Z ?_
 rintro _ w26 ⟨j,rfl,hjl,hj1,hj2,hb⟩;replace H:=H.later hb;clear hb
 refine G (Yu Z)<|G (Xi Z Z)<|G (Xb Z Z) ?_
 refine mj 63 Z (fun h63=> ?_) (fun h63=> ?_)
 refine G (Wi Z)<|G (Wb Z)<|U<|W<|Zr<|G (Yb Z)<|G (dK Z)<|U<|ZF Z<|Zk<|W<|Zr<|G (Zw av H 1 Z Z Z)<|bo H 0 (#[J (ck),J (nx),J (wt),.slice (Qd g) tx2.length c2]) aF Z Z Z Z Z N N fun w27 H=>G (Wi Z)<|U<|Zt ?_
 have hpp:kk t2.parts p=t2.parts:=xU (of_decide_eq_true h63)
 have hX:Tx.a ({t2 with state:=2,since:=ck})=(iu ck p t).a:=by rw[<-CP hta];unfold iu;rw[if_pos I];rw[hpp]
 have hrow:dT rx (tx2.set i ({t2 with state:=2,since:=ck})) c2 cur23:=by have hr:=row23;simp only[fk]at hr;exact hr
 exact bC (cs0:= #[J ck,J nx,J wt,.slice (Qd g) tx2.length c2]) (v1:=J 0) Z av Z (H.ent (i:=0) Z) Z Z ⟨⟨ck,nx,wt,tx2.set i ({t2 with state:=2,since:=ck}),some ⟨g,0,none⟩,c2⟩,[(g,.cells cur23 dB (0,0))],(La++Lt++Lb),by unfold Co.v Co.c;dsimp only;rw[ab],by unfold Co.a;dsimp only;rw[oQ hma i hX],dT.own hrow,hset {t2 with state:=2,since:=ck} Lt hot,by dsimp only;rw[ab];exact hoc2,jE hpc2 i (by exact hpc2 t2 (ae ht2)),H.forget (.cons _ (.cons _ (aC _ _))) (by simp)⟩
 refine G (Wi Z)<|G (Wb Z)<|U<|W<|Zr<|G (Yb Z)<|G (dK Z)<|U<|ZT Z<|Zr<|G (Yp Z)<|G (Yp Z)<|G (aI Z)<|G (Zf dv Z)<|G (bP cn row23 hs25 4 Z (H.ent (i:=2) Z) Z)<|G (Yi Z)<|G (Yi Z)<|sW (vs:=[J (p)]) H aZ v6 Z Z Z Z Z Z fun w28 b73 H=>cd iw (sj (K:=[(b8,.cells #[J (0),J (0),J (0),.slice none 0 0] bd (0,0)),(b4,.cells #[J (ck),J (nx),J (wt),.slice (Qd g) tx2.length c2] bd (0,0)),(g,.cells cur23 dB (0,0))]++La) (Lt:=Lt) (M:=Lb) (va [(b73,.cells #[J (p)] cW (0,0)),(b8,.cells #[J (0),J (0),J (0),.slice none 0 0] bd (0,0)),(b4,.cells #[J (ck),J (nx),J (wt),.slice (Qd g) tx2.length c2] bd (0,0)),(g,.cells cur23 dB (0,0))] La Lt Lb H) hot hjl I) Z Z ?_
 rintro _ w29 ⟨A9,c9,L9,rfl,ho9,HI⟩;replace H:Hp w w29 ([(b73,.cells #[J (p)] cW (0,0)),(b8,.cells #[J (0),J (0),J (0),.slice none 0 0] bd (0,0)),(b4,.cells #[J (ck),J (nx),J (wt),.slice (Qd g) tx2.length c2] bd (0,0)),(g,.cells cur23 dB (0,0))]++((La++L9++Lb)++[])) [dM rx 0 w.heap.size cA txs,iy 0 w.heap.size txs]:=Aj [(b73,.cells #[J (p)] cW (0,0)),(b8,.cells #[J (0),J (0),J (0),.slice none 0 0] bd (0,0)),(b4,.cells #[J (ck),J (nx),J (wt),.slice (Qd g) tx2.length c2] bd (0,0)),(g,.cells cur23 dB (0,0))] La L9 Lb HI
 have hc9:(t2.parts.take j++[p]++t2.parts.drop j).length<=c9:=by obtain⟨_,_,e,h,_⟩:=ho9.form;injection e with _ _ e;rw[e];exact h
 refine G (aI Z)<|G (Zf dv Z)<|kH H 3 ({{t2 with state:=2,since:=ck}with parts:=t2.parts.take j++[p]++t2.parts.drop j,A:=A9,cap:=c9}) jv row23 hs25 4 Z Z Z Z Z Z N fun w31 cur30 row30 H=> ?_
 have hs32:(((tx2.set i ({t2 with state:=2})).set i ({({t2 with state:=2})with since:=ck})).set i ({{t2 with state:=2,since:=ck}with parts:=t2.parts.take j++[p]++t2.parts.drop j,A:=A9,cap:=c9}))[i]? =some ({{t2 with state:=2,since:=ck}with parts:=t2.parts.take j++[p]++t2.parts.drop j,A:=A9,cap:=c9}):=am (cE hs25).1
 refine U<|W<|Zr<|G (Zw av H 2 Z Z Z)<|bo H 1 (#[J (ck),J (nx),J (wt),.slice (Qd g) tx2.length c2]) aF Z Z Z Z Z N N fun w33 H=>G (Wi Z)<|U<|Zt ?_
 have hpp:=Ea hj1 hj2 hrise (of_decide_eq_false h63)
 have hX:Tx.a ({t2 with state:=2,since:=ck,parts:=t2.parts.take j++[p]++t2.parts.drop j,A:=A9,cap:=c9})=(iu ck p t).a:=by rw[<-CP hta];unfold iu;rw[if_pos I];rw[<-hpp];rfl
 have hrow:dT rx (tx2.set i ({t2 with state:=2,since:=ck,parts:=t2.parts.take j++[p]++t2.parts.drop j,A:=A9,cap:=c9})) c2 cur30:=by have hr:=row30;simp only[fk]at hr;exact hr
 exact bC (cs0:= #[J ck,J nx,J wt,.slice (Qd g) tx2.length c2]) (v1:=J 0) Z av Z (H.ent (i:=1) Z) Z Z ⟨⟨ck,nx,wt,tx2.set i ({t2 with state:=2,since:=ck,parts:=t2.parts.take j++[p]++t2.parts.drop j,A:=A9,cap:=c9}),some ⟨g,0,none⟩,c2⟩,[(g,.cells cur30 dB (0,0))],(La++L9++Lb),by unfold Co.v Co.c;dsimp only;rw[ab],by unfold Co.a;dsimp only;rw[oQ hma i hX],dT.own hrow,hset {t2 with state:=2,since:=ck,parts:=t2.parts.take j++[p]++t2.parts.drop j,A:=A9,cap:=c9} L9 ho9,by dsimp only;rw[ab];exact hoc2,jE hpc2 i (by exact hc9),H.forget (.cons _ (.cons _ (.cons _ (aC _ _)))) (by simp)⟩
 refine G (Wb Z)<|U<|ZF Z<|W<|Zr<|G (tT Z Z I)<|G (Wb Z)<|U<|ZT Z<|Zk<|W<|W ?_
 have hrise:=(fE hpo).1
 have hfw:=mf hpo
 rw[<-hpt]at hrise hfw
 obtain⟨La,Lt,Lb,rfl,hot,hset⟩:=hp2.at_ ht2
 refine Zr<|G (Yp Z)<|G (aI Z)<|G (Zf dv Z)<|G (bP cn row ht2 4 Z (H.ent (i:=2) Z) Z)<|G (Yi Z)<|cd d6 (qd t2.parts p t2.A t2.cap _ ((hot.rd (K:=[(b8,.cells #[J (0),J (0),J (0),.slice none 0 0] bd (0,0)),(b4,.cells #[J (ck),J (nx),J (wt),.slice (Qd g) tx2.length c2] bd (0,0)),(g,.cells cur dB (0,0))]++La) (M:=Lb) (va [(b8,.cells #[J (0),J (0),J (0),.slice none 0 0] bd (0,0)),(b4,.cells #[J (ck),J (nx),J (wt),.slice (Qd g) tx2.length c2] bd (0,0)),(g,.cells cur dB (0,0))] La Lt Lb H)).mono (bG _) (ao _)) I hrise) Z Z ?_
 rintro _ w34 ⟨j,rfl,hjl,hj1,hj2,hb⟩;replace H:=H.later hb;clear hb
 refine G (Yu Z)<|G (Xi Z Z)<|G (Xb Z Z) ?_
 refine mj 63 Z (fun h63=> ?_) (fun h63=> ?_)
 refine G (Wi Z)<|G (Wb Z)<|U<|W<|Zr<|G (Yb Z)<|G (dK Z)<|U<|ZF Z<|Zk<|W<|Zr<|G (Zw av H 1 Z Z Z)<|bo H 0 (#[J (ck),J (nx),J (wt),.slice (Qd g) tx2.length c2]) aF Z Z Z Z Z N N fun w35 H=>G (Wi Z)<|U<|Zt ?_
 have hpp:kk t2.parts p=t2.parts:=xU (of_decide_eq_true h63)
 have hX:Tx.a (t2)=(iu ck p t).a:=by rw[<-CP hta];unfold iu;rw[if_neg I];rw[hpp]
 have hrow:dT rx (tx2.set i (t2)) c2 cur:=by rw[iH ht2];exact row
 exact bC (cs0:= #[J ck,J nx,J wt,.slice (Qd g) tx2.length c2]) (v1:=J 0) Z av Z (H.ent (i:=0) Z) Z Z ⟨⟨ck,nx,wt,tx2.set i (t2),some ⟨g,0,none⟩,c2⟩,[(g,.cells cur dB (0,0))],(La++Lt++Lb),by unfold Co.v Co.c;dsimp only;rw[ab],by unfold Co.a;dsimp only;rw[oQ hma i hX],dT.own hrow,hset t2 Lt hot,by dsimp only;rw[ab];exact hoc2,jE hpc2 i (by exact hpc2 t2 (ae ht2)),H.forget (.cons _ (.cons _ (aC _ _))) (by simp)⟩
 refine G (Wi Z)<|G (Wb Z)<|U<|W<|Zr<|G (Yb Z)<|G (dK Z)<|U<|ZT Z<|Zr<|G (Yp Z)<|G (Yp Z)<|G (aI Z)<|G (Zf dv Z)<|G (bP cn row ht2 4 Z (H.ent (i:=2) Z) Z)<|G (Yi Z)<|G (Yi Z)<|sW (vs:=[J (p)]) H aZ v6 Z Z Z Z Z Z fun w36 b73 H=>cd iw (sj (K:=[(b8,.cells #[J (0),J (0),J (0),.slice none 0 0] bd (0,0)),(b4,.cells #[J (ck),J (nx),J (wt),.slice (Qd g) tx2.length c2] bd (0,0)),(g,.cells cur dB (0,0))]++La) (Lt:=Lt) (M:=Lb) (va [(b73,.cells #[J (p)] cW (0,0)),(b8,.cells #[J (0),J (0),J (0),.slice none 0 0] bd (0,0)),(b4,.cells #[J (ck),J (nx),J (wt),.slice (Qd g) tx2.length c2] bd (0,0)),(g,.cells cur dB (0,0))] La Lt Lb H) hot hjl I) Z Z ?_
 rintro _ w37 ⟨A9,c9,L9,rfl,ho9,HI⟩;replace H:Hp w w37 ([(b73,.cells #[J (p)] cW (0,0)),(b8,.cells #[J (0),J (0),J (0),.slice none 0 0] bd (0,0)),(b4,.cells #[J (ck),J (nx),J (wt),.slice (Qd g) tx2.length c2] bd (0,0)),(g,.cells cur dB (0,0))]++((La++L9++Lb)++[])) [dM rx 0 w.heap.size cA txs,iy 0 w.heap.size txs]:=Aj [(b73,.cells #[J (p)] cW (0,0)),(b8,.cells #[J (0),J (0),J (0),.slice none 0 0] bd (0,0)),(b4,.cells #[J (ck),J (nx),J (wt),.slice (Qd g) tx2.length c2] bd (0,0)),(g,.cells cur dB (0,0))] La L9 Lb HI
 have hc9:(t2.parts.take j++[p]++t2.parts.drop j).length<=c9:=by obtain⟨_,_,e,h,_⟩:=ho9.form;injection e with _ _ e;rw[e];exact h
 refine G (aI Z)<|G (Zf dv Z)<|kH H 3 ({t2 with parts:=t2.parts.take j++[p]++t2.parts.drop j,A:=A9,cap:=c9}) jv row ht2 4 Z Z Z Z Z Z N fun w39 cur38 row38 H=> ?_
 have hs40:(tx2.set i ({t2 with parts:=t2.parts.take j++[p]++t2.parts.drop j,A:=A9,cap:=c9}))[i]? =some ({t2 with parts:=t2.parts.take j++[p]++t2.parts.drop j,A:=A9,cap:=c9}):=am (cE ht2).1
 refine U<|W<|Zr<|G (Zw av H 2 Z Z Z)<|bo H 1 (#[J (ck),J (nx),J (wt),.slice (Qd g) tx2.length c2]) aF Z Z Z Z Z N N fun w41 H=>G (Wi Z)<|U<|Zt ?_
 have hpp:=Ea hj1 hj2 hrise (of_decide_eq_false h63)
 have hX:Tx.a ({t2 with parts:=t2.parts.take j++[p]++t2.parts.drop j,A:=A9,cap:=c9})=(iu ck p t).a:=by rw[<-CP hta];unfold iu;rw[if_neg I];rw[<-hpp];rfl
 have hrow:dT rx (tx2.set i ({t2 with parts:=t2.parts.take j++[p]++t2.parts.drop j,A:=A9,cap:=c9})) c2 cur38:=by exact row38
 exact bC (cs0:= #[J ck,J nx,J wt,.slice (Qd g) tx2.length c2]) (v1:=J 0) Z av Z (H.ent (i:=1) Z) Z Z ⟨⟨ck,nx,wt,tx2.set i ({t2 with parts:=t2.parts.take j++[p]++t2.parts.drop j,A:=A9,cap:=c9}),some ⟨g,0,none⟩,c2⟩,[(g,.cells cur38 dB (0,0))],(La++L9++Lb),by unfold Co.v Co.c;dsimp only;rw[ab],by unfold Co.a;dsimp only;rw[oQ hma i hX],dT.own hrow,hset {t2 with parts:=t2.parts.take j++[p]++t2.parts.drop j,A:=A9,cap:=c9} L9 ho9,by dsimp only;rw[ab];exact hoc2,jE hpc2 i (by exact hc9),H.forget (.cons _ (.cons _ (.cons _ (aC _ _)))) (by simp)⟩
def gK (t:Tx):Bool:=decide (t.state=3)||decide (t.state=4)
def gV (txs:List Tx) (n:Nat):Option Tx:=(txs.filter gK)[n]?
def zV (t:Tx):Value:=.agg #[J 0,J t.pid,J t.ver,J 0,J (if t.state=4 then 3 else 2),.bool true,.string ⟨#[]⟩]
def yh (o:Option Tx):Value:=match o with
 |none=> .tuple #[.string ⟨#[]⟩,J 0,.agg #[J 0,J 0,J 0,J 0,J 0,.bool false,.string ⟨#[]⟩],J 15]
 |some t=> .tuple #[.string t.name,J (t.parts.headD 0),zV t,J 0]
theorem Hp.partRow {w0 w:World} {L:List (Nat×Obj)} {F:List cr} {lo hi:Nat} {txs:List Tx} (H:Hp w0 w L F) (i:Nat) (hF:F[i]? =some (iy lo hi txs)) {t:Tx} (ht:t∈txs):Hp w0 w L (dM bQ lo hi t.A t.parts::F):=by
 refine⟨H.below,H.ents,H.nodup,fun f hf=> ?_⟩
 rcases ax.1 hf with rfl|hf
 obtain⟨h1,h2,h3⟩:=H.facts _ (ae hF)
 exact⟨h1 t ht,h2,h3⟩
 exact H.facts f hf
theorem Ku {txs:List Tx} {k m:Nat} {x:Tx} (hx:txs[k]? =some x) (he:gK x=false):((txs.drop k).filter gK)[m]? =((txs.drop (k+1)).filter gK)[m]? :=by
 rw[cM hx,oB (by rw[he];decide)]
theorem Hz {txs:List Tx} {k:Nat} {x:Tx} (hx:txs[k]? =some x) (he:gK x=true):((txs.drop k).filter gK)[0]? =some x:=by
 rw[cM hx,jP he];rfl
theorem EV {txs:List Tx} {k m:Nat} {x:Tx} (hx:txs[k]? =some x) (he:gK x=true) (hm:1<=m):((txs.drop k).filter gK)[m]? =((txs.drop (k+1)).filter gK)[m-1]? :=by
 obtain⟨m,rfl⟩: ∃ j,m=j+1:=⟨m-1,by omega⟩
 rw[cM hx,jP he];rfl
theorem My {txs:List Tx} {k m:Nat} (h:txs.length<=k):((txs.drop k).filter gK)[m]? =none:=by
 rw[ef h];rfl
theorem MC (c:Co) (n:Nat) (w:World) (h:c.rd 0 w.heap.size w) (hok:gA c=true) (hn:n<=1000):dd aa wD [c.v,J (n:Nat)] w fun v w2=>v=yh (gV c.txs n)/\Below w.heap.size w w2:=by
 refine aD BN Z Z ?_
 have hcap:=h.cap
 have hfew:=h.few
 have hfp:=h.fewP
 have H:=Hp.startCo h
 obtain⟨ck,nx,wt,txs,cA,cc⟩:=c
 dsimp only at hcap hfew hfp H
 show CW _ _ _ _ (args [.agg #[J ck,J nx,J wt,.slice cA txs.length cc],J (n:Nat)]) w
 obtain⟨q1,q2,q3,q4,q5,q6,q7⟩:=iR.1 hok
 dsimp only at q6 q7⊢
 refine W<|Zr<|fQ H Z Z fun w1 b2 H=>G (Wt Z)<|G (Wi Z)<|eH H f7 Z fun w2 b6 H=>G (Wi Z)<|U<|W<|W<|Zr<|G (Zw av H 1 Z Z Z)<|cd kh (p9 ⟨ck,nx,wt,txs,cA,cc⟩ _ ⟨H.rd0 0 Z,fun t ht=>fp H 1 Z ht,hcap,hfew,hfp⟩) Z Z ?_
 rw[hok]
 rintro _ w3 ⟨rfl,hb⟩;replace H:=H.later hb;clear hb
 refine G (Wi Z)<|U<|W<|Zr<|G (Yi Z)<|G (bU Z Z Z)<|U<|ZF Z<|Zk<|W<|W<|Zr<|G (Zf cO Z)<|G (Zd dJ H 1 Z Z Z)<|G (bn kS Z)<|G (Yi Z)<|U<|Zb ?_
 refine ce (τ:=Nat×Nat) [1,4,5,7,10,11,21,22,23,24,25,26,27,28,29,30,31,32,33,34,35,36,37,38,39,40,41,42,43,44,45,46,47,48,49,50,51,52] (fun(k,m)=>[(21,J (k:Nat)),(1,J (m:Nat))]) (fun(k,m) w'=>k<=txs.length/\m<=1000/\(txs.filter gK)[n]? =((txs.drop k).filter gK)[m]? /\Hp w w' [(b6,.cells (.agg #[J 0,J 0,J 0,J 0,J 0,.bool false,.string ⟨#[]⟩]:Value).cells dt (0,0)),(b2,.cells #[J (ck),J (nx),J (wt),.slice cA txs.length cc] bd (0,0))] [dM rx 0 w.heap.size cA txs,iy 0 w.heap.size txs]) (fun(k,_)=>txs.length-k) (0,n) ⟨by omega,hn,by rw[lU],H⟩ (kO Z Z) ?_
 rintro⟨k,m⟩ ρ1 w4 ⟨hk,hm1,hm,H⟩
 show CW _ _ _ _ (dC (gC _ _ ρ1) [(21,J (k:Nat)),(1,J (m:Nat))]) w4
 refine W<|Zr ?_
 refine cT (cG Z Z) Z Z Z (fun h22=> ?_) (fun h22=> ?_)
 refine U<|W<|ZT Z<|Zk<|W<|Zb<|W ?_
 obtain⟨x,hxk⟩: ∃ x,txs[k]? =some x:=⟨_,ah I⟩
 refine Zr<|qn H 0 Z gB Z Z I I Z fun b5 o5 x5 e5=> ?_
 obtain rfl:x=x5:=by have:=e5.at_;rw[hxk]at this;exact bj this
 refine G (jM (xs:=Tx.c x) zc Z Z e5.cl)<|eH H Hk Z fun w6 b10 H=>bo H 0 (#[.string (x.name),J (x.pid),J (x.ver),J (x.state),.slice x.A x.parts.length x.cap,J (x.since),J (x.done)]) Hq Z Z Z Z Z N N fun w7 H=>U<|W<|W<|Zr<|G (Zf cQ Z)<|G (Zd aj H 0 Z Z Z) ?_
 refine qm (iL Z Z) Z Z Z (fun h27=> ?_) (fun h27=> ?_)
 refine G (Yb Z)<|ZG<|G (Zf cQ Z)<|ZG<|G (Zd aj H 0 Z Z Z)<|ZG ?_
 refine qm (iL Z Z) Z Z Z (fun h31=> ?_) (fun h31=> ?_)
 refine G (Kt Z Z)<|U<|ZT Z<|Zx<|Zr<|G (br Z Z I I)<|G (Yi Z)<|U ?_
 have hen:gK x=false:=by unfold gK;rw[decide_eq_false I,decide_eq_false I];rfl
 refine⟨(k+1,m),⟨by omega,hm1,by rw[hm];exact Ku hxk hen,H.forget (.cons _ (ap _)) (fun _ h=>h)⟩,kO Z Z,Qg,by show txs.length- (k+1)<txs.length-k;omega⟩
 refine G (Kt Z Z)<|U<|ZF Z<|Zk<|W<|W ?_
 have hen:gK x=true:=by unfold gK;simp;omega
 have hxo:fB ck nx x=true:=uf q7 x (ae hxk)
 obtain⟨a1,a2,a3,a4,a5,a6,a7,a8,a9,a10,a11⟩:=cz.1 hxo
 have hpl:x.parts.length≠0:=fun h=>by have:=a11.2 h;unfold gK at hen;simp[this]at hen
 refine Zr<|G (Yi Z) ?_
 refine cT (bl Z Z) Z Z Z (fun h34=> ?_) (fun h34=> ?_)
 obtain rfl:m=0:=by omega
 have hnth:gV txs n=some x:=by unfold gV;rw[hm];exact Hz hxk hen
 obtain⟨p0,hp0⟩: ∃ p,x.parts[0]? =some p:=⟨_,ah I⟩
 refine U<|ZT Z<|W<|Zr<|G (Wi Z)<|U<|W<|W<|Zr<|G (Zf cQ Z)<|G (Zd aj H 0 Z Z Z) ?_
 refine cT (bl Z Z) Z Z Z (fun h37=> ?_) (fun h37=> ?_)
 refine U<|ZT Z<|Zr<|G (Wi Z)<|U<|W ?_
 replace H:=Hp.partRow H 1 Z (ae hxk)
 refine bz bX [0,1,2,3,4,5,6,7,8,9,10,11,12,13] [14,15] [] [0,2,4,6,8,10,11,12,13] (sp []) N N N N Nq (cF _) ?_
 refine aw Z Z Z Z Z (fun w' hw'=>Zf oe Z)<|aw Z Z Z Z Z (fun w' hw'=>aT aY Z (aB ((H.later hw').ent (i:=0) Z) Z))<|aw Z Z Z Z Z (fun w' hw'=>Zf dv Z)<|aw Z Z Z Z Z (fun w' hw'=>aT cn Z (aB ((H.later hw').ent (i:=0) Z) Z))<|kj (k:=0) H 0 Z Z Z Z Z aZ Z Z I I fun b8 o8 x8 e8=> ?_
 obtain rfl:p0=x8:=by have:=e8.at_;rw[hp0]at this;exact bj this
 refine aw Z Z Z Z Z (fun w' hw'=>aT aj Z (e8.later hw' 0 _ Z))<|aw Z Z Z Z Z (fun w' hw'=>Zf kU Z)<|aw Z Z Z Z Z (fun w' hw'=>aT aj Z (aB ((H.later hw').ent (i:=0) Z) Z))<|aw Z Z Z Z Z (fun w' hw'=>Zf gk Z)<|aw Z Z Z Z Z (fun w' hw'=>aT aj Z (aB ((H.later hw').ent (i:=0) Z) Z))<|aw Z Z Z Z Z (fun w' hw'=>Yi Z)<|aw Z Z Z Z Z (fun w' hw'=>bi (cs:= #[J (0),J (x.pid),J (x.ver),J (0),J (3),.bool (true),.string (⟨#[]⟩)]) nR f7 N)<|aw Z Z Z Z Z (fun w' hw'=>Wt Z)<|aw Z Z Z Z Z (fun w' hw'=>Wi Z)<|aR ?_
 intro w9 hw' hF
 replace H:=H.later hw';clear hw' hF
 refine bo H 1 (#[J (0),J (x.pid),J (x.ver),J (0),J (3),.bool (true),.string (⟨#[]⟩)]) eQ Z Z Z Z Z N N fun w10 H=>G (Wi Z)<|U<|Zt ?_
 rw[hnth]
 have hk2:(if x.state=4 then(3:Int)else 2)=3:=by rw[if_pos I]
 have hh:x.parts.headD 0=p0:=by rw[mZ,oU,hp0];rfl
 exact wO (v0:=.string x.name) (v1:=J p0) (cs2:= #[J 0,J x.pid,J x.ver,J 0,J 3,.bool true,.string ⟨#[]⟩]) (v3:=J 0) Z Z Z dD Z (H.ent (i:=1) Z) Z Z ⟨by unfold yh zV;dsimp only;rw[hk2,hh],H.below⟩
 refine U<|ZF Z<|Zk<|W ?_
 replace H:=Hp.partRow H 1 Z (ae hxk)
 refine bz bX [0,1,2,3,4,5,6,7,8,9,10,11,12,13] [14,15] [] [0,2,4,6,8,10,11,12,13] (sp []) N N N N Nq (cF _) ?_
 refine aw Z Z Z Z Z (fun w' hw'=>Zf oe Z)<|aw Z Z Z Z Z (fun w' hw'=>aT aY Z (aB ((H.later hw').ent (i:=0) Z) Z))<|aw Z Z Z Z Z (fun w' hw'=>Zf dv Z)<|aw Z Z Z Z Z (fun w' hw'=>aT cn Z (aB ((H.later hw').ent (i:=0) Z) Z))<|kj (k:=0) H 0 Z Z Z Z Z aZ Z Z I I fun b11 o11 x11 e11=> ?_
 obtain rfl:p0=x11:=by have:=e11.at_;rw[hp0]at this;exact bj this
 refine aw Z Z Z Z Z (fun w' hw'=>aT aj Z (e11.later hw' 0 _ Z))<|aw Z Z Z Z Z (fun w' hw'=>Zf kU Z)<|aw Z Z Z Z Z (fun w' hw'=>aT aj Z (aB ((H.later hw').ent (i:=0) Z) Z))<|aw Z Z Z Z Z (fun w' hw'=>Zf gk Z)<|aw Z Z Z Z Z (fun w' hw'=>aT aj Z (aB ((H.later hw').ent (i:=0) Z) Z))<|aw Z Z Z Z Z (fun w' hw'=>Yi Z)<|aw Z Z Z Z Z (fun w' hw'=>bi (cs:= #[J (0),J (x.pid),J (x.ver),J (0),J (2),.bool (true),.string (⟨#[]⟩)]) nR f7 N)<|aw Z Z Z Z Z (fun w' hw'=>Wt Z)<|aw Z Z Z Z Z (fun w' hw'=>Wi Z)<|aR ?_
 intro w12 hw' hF
 replace H:=H.later hw';clear hw' hF
 refine bo H 1 (#[J (0),J (x.pid),J (x.ver),J (0),J (2),.bool (true),.string (⟨#[]⟩)]) eQ Z Z Z Z Z N N fun w13 H=>G (Wi Z)<|U<|Zt ?_
 rw[hnth]
 have hk2:(if x.state=4 then(3:Int)else 2)=2:=by rw[if_neg I]
 have hh:x.parts.headD 0=p0:=by rw[mZ,oU,hp0];rfl
 exact wO (v0:=.string x.name) (v1:=J p0) (cs2:= #[J 0,J x.pid,J x.ver,J 0,J 2,.bool true,.string ⟨#[]⟩]) (v3:=J 0) Z Z Z dD Z (H.ent (i:=1) Z) Z Z ⟨by unfold yh zV;dsimp only;rw[hk2,hh],H.below⟩
 refine U<|ZF Z<|Zk<|Zr<|G (Yi Z)<|G (mR Z Z I I)<|G (Wi Z)<|U<|Zr<|G (br Z Z I I)<|G (Yi Z)<|U ?_
 refine⟨(k+1,m-1),⟨by omega,by omega,by rw[hm];exact EV hxk hen I,H.forget (.cons _ (ap _)) (fun _ h=>h)⟩,kO Z (by show Value.int .i64 _=Value.int .i64 _;congr 1;omega),Qg,by show txs.length- (k+1)<txs.length-k;omega⟩
 refine G (Yb Z)<|ZN<|ZN<|ZN<|G (N Z Z)<|U<|ZF Z<|Zk<|W<|W ?_
 have hen:gK x=true:=by unfold gK;simp;omega
 have hxo:fB ck nx x=true:=uf q7 x (ae hxk)
 obtain⟨a1,a2,a3,a4,a5,a6,a7,a8,a9,a10,a11⟩:=cz.1 hxo
 have hpl:x.parts.length≠0:=fun h=>by have:=a11.2 h;unfold gK at hen;simp[this]at hen
 refine Zr<|G (Yi Z) ?_
 refine cT (bl Z Z) Z Z Z (fun h34=> ?_) (fun h34=> ?_)
 obtain rfl:m=0:=by omega
 have hnth:gV txs n=some x:=by unfold gV;rw[hm];exact Hz hxk hen
 obtain⟨p0,hp0⟩: ∃ p,x.parts[0]? =some p:=⟨_,ah I⟩
 refine U<|ZT Z<|W<|Zr<|G (Wi Z)<|U<|W<|W<|Zr<|G (Zf cQ Z)<|G (Zd aj H 0 Z Z Z) ?_
 refine cT (bl Z Z) Z Z Z (fun h37=> ?_) (fun h37=> ?_)
 refine U<|ZT Z<|Zr<|G (Wi Z)<|U<|W ?_
 replace H:=Hp.partRow H 1 Z (ae hxk)
 refine bz bX [0,1,2,3,4,5,6,7,8,9,10,11,12,13] [14,15] [] [0,2,4,6,8,10,11,12,13] (sp []) N N N N Nq (cF _) ?_
 refine aw Z Z Z Z Z (fun w' hw'=>Zf oe Z)<|aw Z Z Z Z Z (fun w' hw'=>aT aY Z (aB ((H.later hw').ent (i:=0) Z) Z))<|aw Z Z Z Z Z (fun w' hw'=>Zf dv Z)<|aw Z Z Z Z Z (fun w' hw'=>aT cn Z (aB ((H.later hw').ent (i:=0) Z) Z))<|kj (k:=0) H 0 Z Z Z Z Z aZ Z Z I I fun b14 o14 x14 e14=> ?_
 obtain rfl:p0=x14:=by have:=e14.at_;rw[hp0]at this;exact bj this
 refine aw Z Z Z Z Z (fun w' hw'=>aT aj Z (e14.later hw' 0 _ Z))<|aw Z Z Z Z Z (fun w' hw'=>Zf kU Z)<|aw Z Z Z Z Z (fun w' hw'=>aT aj Z (aB ((H.later hw').ent (i:=0) Z) Z))<|aw Z Z Z Z Z (fun w' hw'=>Zf gk Z)<|aw Z Z Z Z Z (fun w' hw'=>aT aj Z (aB ((H.later hw').ent (i:=0) Z) Z))<|aw Z Z Z Z Z (fun w' hw'=>Yi Z)<|aw Z Z Z Z Z (fun w' hw'=>bi (cs:= #[J (0),J (x.pid),J (x.ver),J (0),J (3),.bool (true),.string (⟨#[]⟩)]) nR f7 N)<|aw Z Z Z Z Z (fun w' hw'=>Wt Z)<|aw Z Z Z Z Z (fun w' hw'=>Wi Z)<|aR ?_
 intro w15 hw' hF
 replace H:=H.later hw';clear hw' hF
 refine bo H 1 (#[J (0),J (x.pid),J (x.ver),J (0),J (3),.bool (true),.string (⟨#[]⟩)]) eQ Z Z Z Z Z N N fun w16 H=>G (Wi Z)<|U<|Zt ?_
 rw[hnth]
 have hk2:(if x.state=4 then(3:Int)else 2)=3:=by rw[if_pos I]
 have hh:x.parts.headD 0=p0:=by rw[mZ,oU,hp0];rfl
 exact wO (v0:=.string x.name) (v1:=J p0) (cs2:= #[J 0,J x.pid,J x.ver,J 0,J 3,.bool true,.string ⟨#[]⟩]) (v3:=J 0) Z Z Z dD Z (H.ent (i:=1) Z) Z Z ⟨by unfold yh zV;dsimp only;rw[hk2,hh],H.below⟩
 refine U<|ZF Z<|Zk<|W ?_
 replace H:=Hp.partRow H 1 Z (ae hxk)
 refine bz bX [0,1,2,3,4,5,6,7,8,9,10,11,12,13] [14,15] [] [0,2,4,6,8,10,11,12,13] (sp []) N N N N Nq (cF _) ?_
 refine aw Z Z Z Z Z (fun w' hw'=>Zf oe Z)<|aw Z Z Z Z Z (fun w' hw'=>aT aY Z (aB ((H.later hw').ent (i:=0) Z) Z))<|aw Z Z Z Z Z (fun w' hw'=>Zf dv Z)<|aw Z Z Z Z Z (fun w' hw'=>aT cn Z (aB ((H.later hw').ent (i:=0) Z) Z))<|kj (k:=0) H 0 Z Z Z Z Z aZ Z Z I I fun b17 o17 x17 e17=> ?_
 obtain rfl:p0=x17:=by have:=e17.at_;rw[hp0]at this;exact bj this
 refine aw Z Z Z Z Z (fun w' hw'=>aT aj Z (e17.later hw' 0 _ Z))<|aw Z Z Z Z Z (fun w' hw'=>Zf kU Z)<|aw Z Z Z Z Z (fun w' hw'=>aT aj Z (aB ((H.later hw').ent (i:=0) Z) Z))<|aw Z Z Z Z Z (fun w' hw'=>Zf gk Z)<|aw Z Z Z Z Z (fun w' hw'=>aT aj Z (aB ((H.later hw').ent (i:=0) Z) Z))<|aw Z Z Z Z Z (fun w' hw'=>Yi Z)<|aw Z Z Z Z Z (fun w' hw'=>bi (cs:= #[J (0),J (x.pid),J (x.ver),J (0),J (2),.bool (true),.string (⟨#[]⟩)]) nR f7 N)<|aw Z Z Z Z Z (fun w' hw'=>Wt Z)<|aw Z Z Z Z Z (fun w' hw'=>Wi Z)<|aR ?_
 intro w18 hw' hF
 replace H:=H.later hw';clear hw' hF
 refine bo H 1 (#[J (0),J (x.pid),J (x.ver),J (0),J (2),.bool (true),.string (⟨#[]⟩)]) eQ Z Z Z Z Z N N fun w19 H=>G (Wi Z)<|U<|Zt ?_
 rw[hnth]
 have hk2:(if x.state=4 then(3:Int)else 2)=2:=by rw[if_neg I]
 have hh:x.parts.headD 0=p0:=by rw[mZ,oU,hp0];rfl
 exact wO (v0:=.string x.name) (v1:=J p0) (cs2:= #[J 0,J x.pid,J x.ver,J 0,J 2,.bool true,.string ⟨#[]⟩]) (v3:=J 0) Z Z Z dD Z (H.ent (i:=1) Z) Z Z ⟨by unfold yh zV;dsimp only;rw[hk2,hh],H.below⟩
 refine U<|ZF Z<|Zk<|Zr<|G (Yi Z)<|G (mR Z Z I I)<|G (Wi Z)<|U<|Zr<|G (br Z Z I I)<|G (Yi Z)<|U ?_
 refine⟨(k+1,m-1),⟨by omega,by omega,by rw[hm];exact EV hxk hen I,H.forget (.cons _ (ap _)) (fun _ h=>h)⟩,kO Z (by show Value.int .i64 _=Value.int .i64 _;congr 1;omega),Qg,by show txs.length- (k+1)<txs.length-k;omega⟩
 refine U<|W<|ZF Z<|Zx<|W<|Zr<|G (bi (cs:= #[J (0),J (0),J (0),J (0),J (0),.bool (false),.string (⟨#[]⟩)]) nR f7 N)<|G (Wt Z)<|G (Wi Z)<|bo H 0 (#[J (0),J (0),J (0),J (0),J (0),.bool (false),.string (⟨#[]⟩)]) eQ Z Z Z Z Z N N fun w20 H=>G (Wi Z)<|U<|Zt ?_
 rw[show gV txs n=none by unfold gV;rw[hm];exact My I]
 exact wO (v0:=.string ⟨#[]⟩) (v1:=J 0) (cs2:= #[J 0,J 0,J 0,J 0,J 0,.bool false,.string ⟨#[]⟩]) (v3:=J 15) Z Z Z dD Z (H.ent (i:=0) Z) Z Z ⟨rfl,H.below⟩
/-- P5.6: a part whose marker is kept -/
def gp (p:Int) (t:Tx):Tx:=if(t.parts.filter fun q=>decide (q≠p)).length=0 then{t with parts:=[],done:=t.state,state:=1}else{t with parts:=t.parts.filter fun q=>decide (q≠p)}
theorem DT {p:Int} {t t':Tx} (h:t'.a=t.a):(gp p t').a=(gp p t).a:=by
 have e: ∀ t:Tx,(gp p t).a=gp p t.a:=fun t=>by
  unfold gp
  by_cases h:(t.parts.filter fun q=>decide (q≠p)).length=0
  rw[if_pos h,if_pos (show(t.a.parts.filter fun q=>decide (q≠p)).length=0 from h)];rfl
  rw[if_neg h,if_neg (show¬ (t.a.parts.filter fun q=>decide (q≠p)).length=0 from h)];rfl
 rw[e,e,h]
theorem G2: ∀ {l:List Int} {p:Int} {j:Nat},l.Pairwise (· < ·)->l[j]? =some p->l.take j++l.drop (j+1)=l.filter fun q=>decide (q≠p)
 |[],_,_,_,h=>by cases h
 |x::l,p,0,hp,h=>by
  cases h
  obtain⟨h1,-⟩:=ei.1 hp
  rw[oB (by simp)]
  simp only[yD,kF,zg,lU]
  exact(jJ.2 fun y hy=>decide_eq_true (by have:=h1 y hy;omega)).symm
 |x::l,p,j+1,hp,h=>by
  obtain⟨h1,h2⟩:=ei.1 hp
  have hm:p∈l:=ae (show l[j]? =some p from h)
  have:=h1 p hm
  rw[jP (by simp;omega),<-G2 h2 (show l[j]? =some p from h)]
  rfl
theorem there {l:List Int} {p:Int} {i:Nat} (h2: ∀ k y,l[k]? =some y->i<=k->p<=y) (h1: ∀ k y,l[k]? =some y->k<i->y<p) (hp:l.Pairwise (· < ·)) (hm:p∈l):l[i]? =some p:=by
 obtain⟨k,hk⟩:=aW.1 hm
 by_cases hki:k<i
 have:=h1 k p hk hki;omega
 obtain⟨x,hx⟩: ∃ x,l[i]? =some x:=⟨_,ah (by have:=(cE hk).1;omega)⟩
 have h3:=rises hp hx hk I
 have h4:=h2 i x hx (ao _)
 rw[hx];congr 1;omega
theorem MZ (c:Co) (s:ByteArray) (p:Int) (i:Nat) (t:Tx) (w:World) (h:c.rd 0 w.heap.size w) (hok:gA c=true) (hn:bM s=true) (hi:fF c s=i) (ht:c.txs[i]? =some t) (h34:t.state=3∨t.state=4) (hpm:p∈t.parts) (hpo:cR (-1) t.parts=true):dd aa wE [c.v,.string s,J p] w fun v w2=> ∃ (c':Co) (Lr Lp:List (Nat×Obj)),v=.tuple #[c'.v,J 0]/\qf w w2 (Co.a {c with txs:=c.txs.set i (gp p t)}) c' Lr Lp:=by
 refine aD BO Z Z ?_
 have hcap:=h.cap
 have hfew:=h.few
 have hfp:=h.fewP
 have H:=Hp.startCo h
 obtain⟨ck,nx,wt,txs,cA,cc⟩:=c
 dsimp only at hcap hfew hfp H
 show CW _ _ _ _ (args [.agg #[J ck,J nx,J wt,.slice cA txs.length cc],.string s,J p]) w
 dsimp only at ht⊢
 refine W<|Zr<|fQ H Z Z fun w1 b3 H=>eH H cJ Z fun w2 b6 H=>G (Wi Z)<|U<|W<|Zr<|G (Zw av H 1 Z Z Z)<|G (Yt Z)<|cd hM (lz ⟨ck,nx,wt,txs,cA,cc⟩ s _ ⟨H.rd0 0 Z,fun t ht=>fp H 1 Z ht,hcap,hfew,hfp⟩ hok hn) Z Z ?_
 rintro _ w3 ⟨⟨ck2,nx2,wt2,tx2,A2,c2⟩,Lr,Lp,rfl,ha2,ho2,hp2,hoc2,hpc2,hj2⟩
 replace H:=H.joinR hj2;clear hj2
 simp only[Co.a,Co.mk.injEq]at ha2
 obtain⟨e1,e2,e3,hma,-,-⟩:=ha2
 obtain rfl:ck=ck2:=e1.symm
 obtain rfl:nx=nx2:=e2.symm
 obtain rfl:wt=wt2:=e3.symm
 dsimp only at ho2 hp2 hoc2 hpc2 H
 obtain⟨t2,ht2,hta⟩:=qU hma ht
 have hl2:=(cE ht2).1
 obtain⟨g,cur,rfl,rfl,row⟩:=ho2.row I
 have hst:t2.state=t.state:=by show t2.a.state=t.a.state;rw[hta]
 have hdn:t2.done=t.done:=by show t2.a.done=t.a.done;rw[hta]
 have hpt:t2.parts=t.parts:=by show t2.a.parts=t.a.parts;rw[hta]
 rw[hi]
 refine G (Yu Z)<|G (Xa Z Z)<|G (Xi Z Z)<|G (Xi Z Z)<|bo H 1 (#[J (ck),J (nx),J (wt),.slice (Qd g) tx2.length c2]) aF Z Z Z Z Z N N fun w4 H=>G (Wi Z)<|G (Wi Z)<|U<|W<|W<|Zr<|G (Yi Z)<|G (bU Z Z Z)<|U<|ZF Z<|Zk<|W<|W<|Zr<|G (Yi Z)<|G (cY Z Z I)<|U<|ZF Z<|Zk<|W<|Zr<|G (Zf cO Z)<|G (Zd dJ H 1 Z Z Z)<|G (Yi Z)<|G (cB gB Z Z (by first|omega|(simp only[ab];omega)))<|G (Wp Z)<|U<|W<|W<|Zr<|G (Yp Z)<|G (aI Z)<|G (Zf cQ Z)<|G (bP aj row ht2 3 Z (H.ent (i:=2) Z) Z)<|G (iL Z Z) ?_
 refine mj 35 Z (fun h35=> ?_) (fun h35=> ?_)
 refine G (Yb Z)<|ZG<|G (Yp Z)<|ZG<|G (aI Z)<|ZG<|G (Zf cQ Z)<|ZG<|G (bP aj row ht2 3 Z (H.ent (i:=2) Z) Z)<|ZG<|G (bU Z Z (by simp at h35;omega))<|G (Kt Z Z)<|U<|ZF Z<|Zk<|W ?_
 have hrise:=(fE hpo).1
 have hfw:=mf hpo
 rw[<-hpt]at hrise hfw hpm
 obtain⟨La,Lt,Lb,rfl,hot,hset⟩:=hp2.at_ ht2
 refine Zr<|G (Yp Z)<|G (aI Z)<|G (Zf dv Z)<|G (bP cn row ht2 4 Z (H.ent (i:=2) Z) Z)<|G (Yi Z)<|cd d6 (qd t2.parts p t2.A t2.cap _ ((hot.rd (K:=[(b6,.cells #[J (0),J (0),J (0),.slice none 0 0] bd (0,0)),(b3,.cells #[J (ck),J (nx),J (wt),.slice (Qd g) tx2.length c2] bd (0,0)),(g,.cells cur dB (0,0))]++La) (M:=Lb) (va [(b6,.cells #[J (0),J (0),J (0),.slice none 0 0] bd (0,0)),(b3,.cells #[J (ck),J (nx),J (wt),.slice (Qd g) tx2.length c2] bd (0,0)),(g,.cells cur dB (0,0))] La Lt Lb H)).mono (bG _) (ao _)) I hrise) Z Z ?_
 rintro _ w5 ⟨j,rfl,hjl,hj1,hj2,hb⟩;replace H:=H.later hb;clear hb
 have hjp:=there hj2 hj1 hrise hpm
 rw[show decide (t2.parts[j]? =some p)=true from decide_eq_true hjp]
 have hdl:=G2 hrise hjp
 have hjl2:=(cE hjp).1
 refine G (Yu Z)<|G (Xi Z Z)<|G (Xb Z Z)<|G (Wi Z)<|G (Wb Z)<|U<|W<|W<|Zr<|G (Yb Z)<|G (dK Z)<|U<|ZF Z<|Zk<|W<|Zr<|G (Yp Z)<|G (Yp Z)<|G (aI Z)<|G (Zf dv Z)<|G (bP cn row ht2 4 Z (H.ent (i:=2) Z) Z)<|G (Yi Z)<|G (Yi Z)<|G (br Z Z I I)<|cd kD (wP (K:=[(b6,.cells #[J (0),J (0),J (0),.slice none 0 0] bd (0,0)),(b3,.cells #[J (ck),J (nx),J (wt),.slice (Qd g) tx2.length c2] bd (0,0)),(g,.cells cur dB (0,0))]++La) (Lt:=Lt) (M:=Lb) (i:=j) (j:=j+1) (va [(b6,.cells #[J (0),J (0),J (0),.slice none 0 0] bd (0,0)),(b3,.cells #[J (ck),J (nx),J (wt),.slice (Qd g) tx2.length c2] bd (0,0)),(g,.cells cur dB (0,0))] La Lt Lb H) hot I hjl2 I) Z Z ?_
 rintro _ w6 ⟨A9,c9,L9,rfl,ho9,HI⟩;replace H:Hp w w6 ([(b6,.cells #[J (0),J (0),J (0),.slice none 0 0] bd (0,0)),(b3,.cells #[J (ck),J (nx),J (wt),.slice (Qd g) tx2.length c2] bd (0,0)),(g,.cells cur dB (0,0))]++((La++L9++Lb)++[])) [dM rx 0 w.heap.size cA txs,iy 0 w.heap.size txs]:=Aj [(b6,.cells #[J (0),J (0),J (0),.slice none 0 0] bd (0,0)),(b3,.cells #[J (ck),J (nx),J (wt),.slice (Qd g) tx2.length c2] bd (0,0)),(g,.cells cur dB (0,0))] La L9 Lb HI
 have hc9:(t2.parts.take j++t2.parts.drop (j+1)).length<=c9:=by obtain⟨_,_,e,h,_⟩:=ho9.form;injection e with _ _ e;rw[e];exact h
 refine G (aI Z)<|G (Zf dv Z)<|kH H 2 ({t2 with parts:=t2.parts.take j++t2.parts.drop (j+1),A:=A9,cap:=c9}) jv row ht2 4 Z Z Z Z Z Z N fun w8 cur7 row7 H=> ?_
 have hs9:(tx2.set i ({t2 with parts:=t2.parts.take j++t2.parts.drop (j+1),A:=A9,cap:=c9}))[i]? =some ({t2 with parts:=t2.parts.take j++t2.parts.drop (j+1),A:=A9,cap:=c9}):=am (cE ht2).1
 refine U<|W<|W<|Zr<|G (Yp Z)<|G (aI Z)<|G (Zf dv Z)<|G (bP cn row7 hs9 4 Z (H.ent (i:=2) Z) Z)<|G (bn eB Z) ?_
 refine cT (bl Z Z) Z Z Z (fun h72=> ?_) (fun h72=> ?_)
 refine U<|ZT Z<|Zr<|G (Yp Z)<|G (Yp Z)<|G (Yp Z)<|G (aI Z)<|G (Zf cQ Z)<|G (bP aj row7 hs9 3 Z (H.ent (i:=2) Z) Z)<|G (aI Z)<|G (Zf cQ Z)<|kH H 2 ({({t2 with parts:=t2.parts.take j++t2.parts.drop (j+1),A:=A9,cap:=c9})with state:=1}) bI row7 hs9 3 Z Z Z Z Z Z N fun w11 cur10 row10 H=> ?_
 have hs12:((tx2.set i ({t2 with parts:=t2.parts.take j++t2.parts.drop (j+1),A:=A9,cap:=c9})).set i ({({t2 with parts:=t2.parts.take j++t2.parts.drop (j+1),A:=A9,cap:=c9})with state:=1}))[i]? =some ({({t2 with parts:=t2.parts.take j++t2.parts.drop (j+1),A:=A9,cap:=c9})with state:=1}):=am (cE hs9).1
 refine G (aI Z)<|G (Zf jb Z)<|kH H 2 ({({({t2 with parts:=t2.parts.take j++t2.parts.drop (j+1),A:=A9,cap:=c9})with state:=1})with done:=({t2 with parts:=t2.parts.take j++t2.parts.drop (j+1),A:=A9,cap:=c9}).state}) bI row10 hs12 6 Z Z Z Z Z Z N fun w14 cur13 row13 H=> ?_
 have hs15:(((tx2.set i ({t2 with parts:=t2.parts.take j++t2.parts.drop (j+1),A:=A9,cap:=c9})).set i ({({t2 with parts:=t2.parts.take j++t2.parts.drop (j+1),A:=A9,cap:=c9})with state:=1})).set i ({({({t2 with parts:=t2.parts.take j++t2.parts.drop (j+1),A:=A9,cap:=c9})with state:=1})with done:=({t2 with parts:=t2.parts.take j++t2.parts.drop (j+1),A:=A9,cap:=c9}).state}))[i]? =some ({({({t2 with parts:=t2.parts.take j++t2.parts.drop (j+1),A:=A9,cap:=c9})with state:=1})with done:=({t2 with parts:=t2.parts.take j++t2.parts.drop (j+1),A:=A9,cap:=c9}).state}):=am (cE hs12).1
 refine U<|W<|Zr<|G (Zw av H 1 Z Z Z)<|bo H 0 (#[J (ck),J (nx),J (wt),.slice (Qd g) tx2.length c2]) aF Z Z Z Z Z N N fun w16 H=>G (Wi Z)<|U<|Zt ?_
 have h72b:((t2.parts.take j++t2.parts.drop (j+1)).length:Int)=0:=h72
 have hX:Tx.a ({t2 with parts:=t2.parts.take j++t2.parts.drop (j+1),A:=A9,cap:=c9,done:=t2.state,state:=1})=(gp p t).a:=by rw[<-DT hta];unfold gp;rw[<-hdl];rw[if_pos I,bS (show(t2.parts.take j++t2.parts.drop (j+1)).length=0 by omega)];rfl
 have hrow:dT rx (tx2.set i ({t2 with parts:=t2.parts.take j++t2.parts.drop (j+1),A:=A9,cap:=c9,done:=t2.state,state:=1})) c2 cur13:=by have hr:=row13;simp only[fk]at hr;exact hr
 exact bC (cs0:= #[J ck,J nx,J wt,.slice (Qd g) tx2.length c2]) (v1:=J 0) Z av Z (H.ent (i:=0) Z) Z Z ⟨⟨ck,nx,wt,tx2.set i ({t2 with parts:=t2.parts.take j++t2.parts.drop (j+1),A:=A9,cap:=c9,done:=t2.state,state:=1}),some ⟨g,0,none⟩,c2⟩,[(g,.cells cur13 dB (0,0))],(La++L9++Lb),by unfold Co.v Co.c;dsimp only;rw[ab],by unfold Co.a;dsimp only;rw[oQ hma i hX],dT.own hrow,hset {t2 with parts:=t2.parts.take j++t2.parts.drop (j+1),A:=A9,cap:=c9,done:=t2.state,state:=1} L9 ho9,by dsimp only;rw[ab];exact hoc2,jE hpc2 i (by exact hc9),H.forget (.cons _ (.cons _ (aC _ _))) (by simp)⟩
 refine U<|ZF Z<|Zk<|W<|Zr<|G (Zw av H 1 Z Z Z)<|bo H 0 (#[J (ck),J (nx),J (wt),.slice (Qd g) tx2.length c2]) aF Z Z Z Z Z N N fun w17 H=>G (Wi Z)<|U<|Zt ?_
 have h72b: ¬ ((t2.parts.take j++t2.parts.drop (j+1)).length:Int)=0:=h72
 have hX:Tx.a ({t2 with parts:=t2.parts.take j++t2.parts.drop (j+1),A:=A9,cap:=c9})=(gp p t).a:=by rw[<-DT hta];unfold gp;rw[<-hdl];rw[if_neg I];rfl
 have hrow:dT rx (tx2.set i ({t2 with parts:=t2.parts.take j++t2.parts.drop (j+1),A:=A9,cap:=c9})) c2 cur7:=by exact row7
 exact bC (cs0:= #[J ck,J nx,J wt,.slice (Qd g) tx2.length c2]) (v1:=J 0) Z av Z (H.ent (i:=0) Z) Z Z ⟨⟨ck,nx,wt,tx2.set i ({t2 with parts:=t2.parts.take j++t2.parts.drop (j+1),A:=A9,cap:=c9}),some ⟨g,0,none⟩,c2⟩,[(g,.cells cur7 dB (0,0))],(La++L9++Lb),by unfold Co.v Co.c;dsimp only;rw[ab],by unfold Co.a;dsimp only;rw[oQ hma i hX],dT.own hrow,hset {t2 with parts:=t2.parts.take j++t2.parts.drop (j+1),A:=A9,cap:=c9} L9 ho9,by dsimp only;rw[ab];exact hoc2,jE hpc2 i (by exact hc9),H.forget (.cons _ (.cons _ (aC _ _))) (by simp)⟩
 refine G (Yb Z)<|ZN<|ZN<|ZN<|ZN<|ZN<|G (N Z Z)<|U<|ZF Z<|Zk<|W ?_
 have hrise:=(fE hpo).1
 have hfw:=mf hpo
 rw[<-hpt]at hrise hfw hpm
 obtain⟨La,Lt,Lb,rfl,hot,hset⟩:=hp2.at_ ht2
 refine Zr<|G (Yp Z)<|G (aI Z)<|G (Zf dv Z)<|G (bP cn row ht2 4 Z (H.ent (i:=2) Z) Z)<|G (Yi Z)<|cd d6 (qd t2.parts p t2.A t2.cap _ ((hot.rd (K:=[(b6,.cells #[J (0),J (0),J (0),.slice none 0 0] bd (0,0)),(b3,.cells #[J (ck),J (nx),J (wt),.slice (Qd g) tx2.length c2] bd (0,0)),(g,.cells cur dB (0,0))]++La) (M:=Lb) (va [(b6,.cells #[J (0),J (0),J (0),.slice none 0 0] bd (0,0)),(b3,.cells #[J (ck),J (nx),J (wt),.slice (Qd g) tx2.length c2] bd (0,0)),(g,.cells cur dB (0,0))] La Lt Lb H)).mono (bG _) (ao _)) I hrise) Z Z ?_
 rintro _ w18 ⟨j,rfl,hjl,hj1,hj2,hb⟩;replace H:=H.later hb;clear hb
 have hjp:=there hj2 hj1 hrise hpm
 rw[show decide (t2.parts[j]? =some p)=true from decide_eq_true hjp]
 have hdl:=G2 hrise hjp
 have hjl2:=(cE hjp).1
 refine G (Yu Z)<|G (Xi Z Z)<|G (Xb Z Z)<|G (Wi Z)<|G (Wb Z)<|U<|W<|W<|Zr<|G (Yb Z)<|G (dK Z)<|U<|ZF Z<|Zk<|W<|Zr<|G (Yp Z)<|G (Yp Z)<|G (aI Z)<|G (Zf dv Z)<|G (bP cn row ht2 4 Z (H.ent (i:=2) Z) Z)<|G (Yi Z)<|G (Yi Z)<|G (br Z Z I I)<|cd kD (wP (K:=[(b6,.cells #[J (0),J (0),J (0),.slice none 0 0] bd (0,0)),(b3,.cells #[J (ck),J (nx),J (wt),.slice (Qd g) tx2.length c2] bd (0,0)),(g,.cells cur dB (0,0))]++La) (Lt:=Lt) (M:=Lb) (i:=j) (j:=j+1) (va [(b6,.cells #[J (0),J (0),J (0),.slice none 0 0] bd (0,0)),(b3,.cells #[J (ck),J (nx),J (wt),.slice (Qd g) tx2.length c2] bd (0,0)),(g,.cells cur dB (0,0))] La Lt Lb H) hot I hjl2 I) Z Z ?_
 rintro _ w19 ⟨A9,c9,L9,rfl,ho9,HI⟩;replace H:Hp w w19 ([(b6,.cells #[J (0),J (0),J (0),.slice none 0 0] bd (0,0)),(b3,.cells #[J (ck),J (nx),J (wt),.slice (Qd g) tx2.length c2] bd (0,0)),(g,.cells cur dB (0,0))]++((La++L9++Lb)++[])) [dM rx 0 w.heap.size cA txs,iy 0 w.heap.size txs]:=Aj [(b6,.cells #[J (0),J (0),J (0),.slice none 0 0] bd (0,0)),(b3,.cells #[J (ck),J (nx),J (wt),.slice (Qd g) tx2.length c2] bd (0,0)),(g,.cells cur dB (0,0))] La L9 Lb HI
 have hc9:(t2.parts.take j++t2.parts.drop (j+1)).length<=c9:=by obtain⟨_,_,e,h,_⟩:=ho9.form;injection e with _ _ e;rw[e];exact h
 refine G (aI Z)<|G (Zf dv Z)<|kH H 2 ({t2 with parts:=t2.parts.take j++t2.parts.drop (j+1),A:=A9,cap:=c9}) jv row ht2 4 Z Z Z Z Z Z N fun w21 cur20 row20 H=> ?_
 have hs22:(tx2.set i ({t2 with parts:=t2.parts.take j++t2.parts.drop (j+1),A:=A9,cap:=c9}))[i]? =some ({t2 with parts:=t2.parts.take j++t2.parts.drop (j+1),A:=A9,cap:=c9}):=am (cE ht2).1
 refine U<|W<|W<|Zr<|G (Yp Z)<|G (aI Z)<|G (Zf dv Z)<|G (bP cn row20 hs22 4 Z (H.ent (i:=2) Z) Z)<|G (bn eB Z) ?_
 refine cT (bl Z Z) Z Z Z (fun h72=> ?_) (fun h72=> ?_)
 refine U<|ZT Z<|Zr<|G (Yp Z)<|G (Yp Z)<|G (Yp Z)<|G (aI Z)<|G (Zf cQ Z)<|G (bP aj row20 hs22 3 Z (H.ent (i:=2) Z) Z)<|G (aI Z)<|G (Zf cQ Z)<|kH H 2 ({({t2 with parts:=t2.parts.take j++t2.parts.drop (j+1),A:=A9,cap:=c9})with state:=1}) bI row20 hs22 3 Z Z Z Z Z Z N fun w24 cur23 row23 H=> ?_
 have hs25:((tx2.set i ({t2 with parts:=t2.parts.take j++t2.parts.drop (j+1),A:=A9,cap:=c9})).set i ({({t2 with parts:=t2.parts.take j++t2.parts.drop (j+1),A:=A9,cap:=c9})with state:=1}))[i]? =some ({({t2 with parts:=t2.parts.take j++t2.parts.drop (j+1),A:=A9,cap:=c9})with state:=1}):=am (cE hs22).1
 refine G (aI Z)<|G (Zf jb Z)<|kH H 2 ({({({t2 with parts:=t2.parts.take j++t2.parts.drop (j+1),A:=A9,cap:=c9})with state:=1})with done:=({t2 with parts:=t2.parts.take j++t2.parts.drop (j+1),A:=A9,cap:=c9}).state}) bI row23 hs25 6 Z Z Z Z Z Z N fun w27 cur26 row26 H=> ?_
 have hs28:(((tx2.set i ({t2 with parts:=t2.parts.take j++t2.parts.drop (j+1),A:=A9,cap:=c9})).set i ({({t2 with parts:=t2.parts.take j++t2.parts.drop (j+1),A:=A9,cap:=c9})with state:=1})).set i ({({({t2 with parts:=t2.parts.take j++t2.parts.drop (j+1),A:=A9,cap:=c9})with state:=1})with done:=({t2 with parts:=t2.parts.take j++t2.parts.drop (j+1),A:=A9,cap:=c9}).state}))[i]? =some ({({({t2 with parts:=t2.parts.take j++t2.parts.drop (j+1),A:=A9,cap:=c9})with state:=1})with done:=({t2 with parts:=t2.parts.take j++t2.parts.drop (j+1),A:=A9,cap:=c9}).state}):=am (cE hs25).1
 refine U<|W<|Zr<|G (Zw av H 1 Z Z Z)<|bo H 0 (#[J (ck),J (nx),J (wt),.slice (Qd g) tx2.length c2]) aF Z Z Z Z Z N N fun w29 H=>G (Wi Z)<|U<|Zt ?_
 have h72b:((t2.parts.take j++t2.parts.drop (j+1)).length:Int)=0:=h72
 have hX:Tx.a ({t2 with parts:=t2.parts.take j++t2.parts.drop (j+1),A:=A9,cap:=c9,done:=t2.state,state:=1})=(gp p t).a:=by rw[<-DT hta];unfold gp;rw[<-hdl];rw[if_pos I,bS (show(t2.parts.take j++t2.parts.drop (j+1)).length=0 by omega)];rfl
 have hrow:dT rx (tx2.set i ({t2 with parts:=t2.parts.take j++t2.parts.drop (j+1),A:=A9,cap:=c9,done:=t2.state,state:=1})) c2 cur26:=by have hr:=row26;simp only[fk]at hr;exact hr
 exact bC (cs0:= #[J ck,J nx,J wt,.slice (Qd g) tx2.length c2]) (v1:=J 0) Z av Z (H.ent (i:=0) Z) Z Z ⟨⟨ck,nx,wt,tx2.set i ({t2 with parts:=t2.parts.take j++t2.parts.drop (j+1),A:=A9,cap:=c9,done:=t2.state,state:=1}),some ⟨g,0,none⟩,c2⟩,[(g,.cells cur26 dB (0,0))],(La++L9++Lb),by unfold Co.v Co.c;dsimp only;rw[ab],by unfold Co.a;dsimp only;rw[oQ hma i hX],dT.own hrow,hset {t2 with parts:=t2.parts.take j++t2.parts.drop (j+1),A:=A9,cap:=c9,done:=t2.state,state:=1} L9 ho9,by dsimp only;rw[ab];exact hoc2,jE hpc2 i (by exact hc9),H.forget (.cons _ (.cons _ (aC _ _))) (by simp)⟩
 refine U<|ZF Z<|Zk<|W<|Zr<|G (Zw av H 1 Z Z Z)<|bo H 0 (#[J (ck),J (nx),J (wt),.slice (Qd g) tx2.length c2]) aF Z Z Z Z Z N N fun w30 H=>G (Wi Z)<|U<|Zt ?_
 have h72b: ¬ ((t2.parts.take j++t2.parts.drop (j+1)).length:Int)=0:=h72
 have hX:Tx.a ({t2 with parts:=t2.parts.take j++t2.parts.drop (j+1),A:=A9,cap:=c9})=(gp p t).a:=by rw[<-DT hta];unfold gp;rw[<-hdl];rw[if_neg I];rfl
 have hrow:dT rx (tx2.set i ({t2 with parts:=t2.parts.take j++t2.parts.drop (j+1),A:=A9,cap:=c9})) c2 cur20:=by exact row20
 exact bC (cs0:= #[J ck,J nx,J wt,.slice (Qd g) tx2.length c2]) (v1:=J 0) Z av Z (H.ent (i:=0) Z) Z Z ⟨⟨ck,nx,wt,tx2.set i ({t2 with parts:=t2.parts.take j++t2.parts.drop (j+1),A:=A9,cap:=c9}),some ⟨g,0,none⟩,c2⟩,[(g,.cells cur20 dB (0,0))],(La++L9++Lb),by unfold Co.v Co.c;dsimp only;rw[ab],by unfold Co.a;dsimp only;rw[oQ hma i hX],dT.own hrow,hset {t2 with parts:=t2.parts.take j++t2.parts.drop (j+1),A:=A9,cap:=c9} L9 ho9,by dsimp only;rw[ab];exact hoc2,jE hpc2 i (by exact hc9),H.forget (.cons _ (.cons _ (aC _ _))) (by simp)⟩
theorem GM (c:Co) (s:ByteArray) (i:Nat) (t:Tx) (w:World) (h:c.rd 0 w.heap.size w) (hok:gA c=true) (hn:bM s=true) (hi:fF c s=i) (ht:c.txs[i]? =some t) (h34:t.state=3∨t.state=4):dd aa mo [c.v,.string s] w fun v w2=>v=.tuple #[.agg #[J 0,J 0,J 0,.slice none 0 0],J 0,J 0,J 12]/\Below w.heap.size w w2:=by
 refine aD nK Z Z ?_
 have hcap:=h.cap
 have hfew:=h.few
 have hfp:=h.fewP
 have H:=Hp.startCo h
 obtain⟨ck,nx,wt,txs,cA,cc⟩:=c
 dsimp only at hcap hfew hfp H
 show CW _ _ _ _ (args [.agg #[J ck,J nx,J wt,.slice cA txs.length cc],.string s]) w
 dsimp only at ht
 refine W<|Zr<|fQ H Z Z fun w1 b2 H=>eH H cJ Z fun w2 b4 H=>G (Wi Z)<|G (Wi Z)<|G (Wi Z)<|U<|W<|Zr<|G (Zw av H 1 Z Z Z)<|G (Yt Z)<|cd hM (lz ⟨ck,nx,wt,txs,cA,cc⟩ s _ ⟨H.rd0 0 Z,fun t ht=>fp H 1 Z ht,hcap,hfew,hfp⟩ hok hn) Z Z ?_
 rintro _ w3 ⟨⟨ck2,nx2,wt2,tx2,A2,c2⟩,Lr,Lp,rfl,ha2,ho2,hp2,hoc2,hpc2,hj2⟩
 replace H:=H.joinR hj2;clear hj2
 simp only[Co.a,Co.mk.injEq]at ha2
 obtain⟨e1,e2,e3,hma,-,-⟩:=ha2
 obtain rfl:ck=ck2:=e1.symm
 obtain rfl:nx=nx2:=e2.symm
 obtain rfl:wt=wt2:=e3.symm
 dsimp only at ho2 hp2 hoc2 hpc2 H
 obtain⟨t2,ht2,hta⟩:=qU hma ht
 have hl2:=(cE ht2).1
 obtain⟨g,cur,rfl,rfl,row⟩:=ho2.row I
 have hst:t2.state=t.state:=by show t2.a.state=t.a.state;rw[hta]
 have hdn:t2.done=t.done:=by show t2.a.done=t.a.done;rw[hta]
 have hpt:t2.parts=t.parts:=by show t2.a.parts=t.a.parts;rw[hta]
 rw[hi]
 refine G (Yu Z)<|G (Xa Z Z)<|G (Xi Z Z)<|G (Xi Z Z)<|bo H 1 (#[J (ck),J (nx),J (wt),.slice (Qd g) tx2.length c2]) aF Z Z Z Z Z N N fun w4 H=>G (Wi Z)<|G (Wi Z)<|U<|W<|W<|Zr<|G (Yi Z)<|G (bU Z Z Z)<|U<|ZF Z<|Zk<|W<|W<|Zr<|G (Yi Z)<|G (cY Z Z I)<|U<|ZF Z<|Zk<|W<|Zr<|G (Zf cO Z)<|G (Zd dJ H 1 Z Z Z)<|G (Yi Z)<|G (cB gB Z Z (by first|omega|(simp only[ab];omega)))<|G (Wp Z)<|U<|W<|Zb<|W<|Zr<|G (Yp Z)<|G (aI Z)<|G (Zf cQ Z)<|G (bP aj row ht2 3 Z (H.ent (i:=2) Z) Z) ?_
 refine cT (bl Z Z) Z Z Z (fun h60=> ?_) (fun h60=> ?_)
 refine G (Yb Z)<|ZN<|ZN<|ZN<|ZN<|ZN<|G (Kt Z Z)<|G (Wb Z)<|U<|ZT Z<|W<|Zr<|G (bi (cs:= #[J (0),J (0),J (0),.slice none 0 0]) ft cJ N)<|bo H 0 (#[J (0),J (0),J (0),.slice none 0 0]) aF Z Z Z Z Z N N fun w5 H=>G (Wi Z)<|G (Wi Z)<|G (Wi Z)<|U<|Zt ?_
 exact mt (cs0:= #[J 0,J 0,J 0,.slice none 0 0]) (v1:=J 0) (v2:=J 0) (v3:=J 12) Z av Z (H.ent (i:=0) Z) Z Z Z Z ⟨rfl,H.below⟩
 refine G (Yb Z)<|ZG<|G (Yp Z)<|ZG<|G (aI Z)<|ZG<|G (Zf cQ Z)<|ZG<|G (bP aj row ht2 3 Z (H.ent (i:=2) Z) Z)<|ZG<|G (tT Z Z I)<|G (N Z Z)<|G (Wb Z)<|U<|ZT Z<|W<|Zr<|G (bi (cs:= #[J (0),J (0),J (0),.slice none 0 0]) ft cJ N)<|bo H 0 (#[J (0),J (0),J (0),.slice none 0 0]) aF Z Z Z Z Z N N fun w6 H=>G (Wi Z)<|G (Wi Z)<|G (Wi Z)<|U<|Zt ?_
 exact mt (cs0:= #[J 0,J 0,J 0,.slice none 0 0]) (v1:=J 0) (v2:=J 0) (v3:=J 12) Z av Z (H.ent (i:=0) Z) Z Z Z Z ⟨rfl,H.below⟩
theorem Lg (c:Co) (s:ByteArray) (ver:Int) (b:Bool) (w:World) (h:c.rd 0 w.heap.size w) (hok:gA c=true) (hn:bM s=true) (hi:fF c s= -1):dd aa lL [c.v,.string s,J ver,.bool b] w fun v w2=>v=.tuple #[.agg #[J 0,J 0,J 0,.slice none 0 0],J 5]/\Below w.heap.size w w2:=by
 refine aD px Z Z ?_
 have hcap:=h.cap
 have hfew:=h.few
 have hfp:=h.fewP
 have H:=Hp.startCo h
 obtain⟨ck,nx,wt,txs,cA,cc⟩:=c
 dsimp only at hcap hfew hfp H
 show CW _ _ _ _ (args [.agg #[J ck,J nx,J wt,.slice cA txs.length cc],.string s,J ver,.bool b]) w
 refine W<|Zr<|fQ H Z Z fun w1 b4 H=>eH H cJ Z fun w2 b8 H=>G (Wi Z)<|U<|W<|Zr<|G (Zw av H 1 Z Z Z)<|G (Yt Z)<|G (Yi Z)<|cd gw (z5 ⟨ck,nx,wt,txs,cA,cc⟩ s ver _ ⟨H.rd0 0 Z,fun t ht=>fp H 1 Z ht,hcap,hfew,hfp⟩ hok hn hi) Z Z ?_
 rintro _ w3 ⟨rfl,hb⟩;replace H:=H.later hb;clear hb
 refine G (Yu Z)<|G (Xa Z Z)<|G (Xi Z Z)<|G (Xi Z Z)<|bo H 1 (#[J (0),J (0),J (0),.slice none 0 0]) aF Z Z Z Z Z N N fun w4 H=>G (Wi Z)<|G (Wi Z)<|U<|W<|W<|Zr<|G (Yi Z)<|G (jW Z Z (by decide))<|U<|ZT Z<|W<|Zr<|G (bi (cs:= #[J (0),J (0),J (0),.slice none 0 0]) ft cJ N)<|G (Yi Z)<|bo H 0 (#[J (0),J (0),J (0),.slice none 0 0]) aF Z Z Z Z Z N N fun w5 H=>G (Wi Z)<|U<|Zt ?_
 exact bC (cs0:= #[J 0,J 0,J 0,.slice none 0 0]) (v1:=J 5) Z av Z (H.ent (i:=0) Z) Z Z ⟨rfl,H.below⟩
theorem Ja (c:Co) (s:ByteArray) (ver:Int) (b:Bool) (i:Nat) (t:Tx) (w:World) (h:c.rd 0 w.heap.size w) (hok:gA c=true) (hn:bM s=true) (hi:fF c s=i) (ht:c.txs[i]? =some t) (hv:t.ver≠ver):dd aa lL [c.v,.string s,J ver,.bool b] w fun v w2=>v=.tuple #[.agg #[J 0,J 0,J 0,.slice none 0 0],J 10]/\Below w.heap.size w w2:=by
 refine aD px Z Z ?_
 have hcap:=h.cap
 have hfew:=h.few
 have hfp:=h.fewP
 have H:=Hp.startCo h
 obtain⟨ck,nx,wt,txs,cA,cc⟩:=c
 dsimp only at hcap hfew hfp H
 show CW _ _ _ _ (args [.agg #[J ck,J nx,J wt,.slice cA txs.length cc],.string s,J ver,.bool b]) w
 dsimp only at ht
 refine W<|Zr<|fQ H Z Z fun w1 b4 H=>eH H cJ Z fun w2 b8 H=>G (Wi Z)<|U<|W<|Zr<|G (Zw av H 1 Z Z Z)<|G (Yt Z)<|G (Yi Z)<|cd gw (ym ⟨ck,nx,wt,txs,cA,cc⟩ s ver i t _ ⟨H.rd0 0 Z,fun t ht=>fp H 1 Z ht,hcap,hfew,hfp⟩ hok hn hi ht hv) Z Z ?_
 rintro _ w3 ⟨rfl,hb⟩;replace H:=H.later hb;clear hb
 refine G (Yu Z)<|G (Xa Z Z)<|G (Xi Z Z)<|G (Xi Z Z)<|bo H 1 (#[J (0),J (0),J (0),.slice none 0 0]) aF Z Z Z Z Z N N fun w4 H=>G (Wi Z)<|G (Wi Z)<|U<|W<|W<|Zr<|G (Yi Z)<|G (jW Z Z (by decide))<|U<|ZT Z<|W<|Zr<|G (bi (cs:= #[J (0),J (0),J (0),.slice none 0 0]) ft cJ N)<|G (Yi Z)<|bo H 0 (#[J (0),J (0),J (0),.slice none 0 0]) aF Z Z Z Z Z N N fun w5 H=>G (Wi Z)<|U<|Zt ?_
 exact bC (cs0:= #[J 0,J 0,J 0,.slice none 0 0]) (v1:=J 10) Z av Z (H.ent (i:=0) Z) Z Z ⟨rfl,H.below⟩
theorem JQ (c:Co) (n:Int) (w:World) (h:c.rd 0 w.heap.size w) (hok:gA c=true) (hn:1000<n):dd aa sr [c.v,J n] w fun v w2=>v=.tuple #[.agg #[J 0,J 0,J 0,.slice none 0 0],J 2]/\Below w.heap.size w w2:=by
 refine aD vd Z Z ?_
 have hcap:=h.cap
 have hfew:=h.few
 have hfp:=h.fewP
 have H:=Hp.startCo h
 obtain⟨ck,nx,wt,txs,cA,cc⟩:=c
 dsimp only at hcap hfew hfp H
 show CW _ _ _ _ (args [.agg #[J ck,J nx,J wt,.slice cA txs.length cc],J n]) w
 refine W<|Zr<|fQ H Z Z fun w1 b2 H=>eH H cJ Z fun w2 b4 H=>G (Wi Z)<|U<|W<|W<|Zr<|G (Zw av H 1 Z Z Z)<|cd kh (p9 ⟨ck,nx,wt,txs,cA,cc⟩ _ ⟨H.rd0 0 Z,fun t ht=>fp H 1 Z ht,hcap,hfew,hfp⟩) Z Z ?_
 rw[hok]
 rintro _ w3 ⟨rfl,hb⟩;replace H:=H.later hb;clear hb
 refine G (Wi Z)<|U<|W<|Zr<|G (Yi Z)<|G (bU Z Z Z)<|U<|ZF Z<|Zk<|W<|W<|Zr<|G (Yi Z)<|G (cY Z Z I)<|G (Yb Z)<|ZG<|G (Yi Z)<|ZG<|G (GT Z Z I)<|G (N Z Z)<|G (Yb Z)<|ZN<|ZN<|ZN<|ZN<|ZN<|G (Kt Z Z)<|U<|ZT Z<|W<|Zr<|G (bi (cs:= #[J (0),J (0),J (0),.slice none 0 0]) ft cJ N)<|bo H 0 (#[J (0),J (0),J (0),.slice none 0 0]) aF Z Z Z Z Z N N fun w4 H=>G (Wi Z)<|U<|Zt ?_
 exact bC (cs0:= #[J 0,J 0,J 0,.slice none 0 0]) (v1:=J 2) Z av Z (H.ent (i:=0) Z) Z Z ⟨rfl,H.below⟩
end Go.Proofs.YtclibalpdhhhfaaGreat
