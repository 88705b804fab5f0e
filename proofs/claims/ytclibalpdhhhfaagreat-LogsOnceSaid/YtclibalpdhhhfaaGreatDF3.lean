/- Part 3 of the proofs over this seat: what its theorems say holds for every input that they name. -/
import Derived.Test.YtclibalpdhhhfaaGreatDF2
namespace Go.Proofs.YtclibalpdhhhfaaGreat
open Go Go.Eng Go.RowKit
open Go.Eng renaming ni→U, AK→W, JA→Zr, Nl→Zk, PV→Zt, Pe→Zb, PA→Zx, P3→Yi, P6→Yb, P1→Ys, P2→Yp, P0→Yt, PZ→Yu, Qm→Wi, Qn→Wb, Qk→Ws, Ql→Wp, Qj→Wt, Qa→Zf, Qe→Xi, Qh→Xa, Qf→Xb, PK→Kt, PL→N, pH→ZT, ox→ZF
open Go.Proofs.Tryz renaming prog→aa
open _root_.List renaming length_set→ab,mem_of_getElem?→ae,getElem?_eq_getElem→ah,mem_cons_of_mem→ak,getElem?_set_self→am,mem_singleton→aq,mem_append→ar,mem_cons→av,length_append→ay,getElem?_eq_some_iff→az,mem_cons_self→aA,sublist_append_left→aC,append_assoc→aD,length_take→aH,mem_iff_getElem?→aK,getElem?_map→aM,append_nil→aY,findIdx?_eq_some_iff_getElem→bg,map_append→bk,mem_map→bv,length_map→bC,mem_or_eq_of_mem_set→bH,mem_map_of_mem→bL,length_cons→bO,length_singleton→bP,eq_nil_of_length_eq_zero→bU,take_length→bV,mem_append_right→bW,sublist_append_right→cm,length→cv,getElem?_append_right→cw,map_set→cy,getElem?_eq_none→cJ,getElem?_take→df,findIdx?_eq_none_iff→dp,mem_singleton_self→dH,length_drop→dI,getElem?_drop→dK,all_eq_true→ec,drop_of_length_le→eg,pairwise_cons→ek,map_cons→eI,ext_getElem?→eJ,set_set→fo,drop_length→fq,mem_append_left→fP,perm_append_comm_assoc→fT,take_append_drop→gL,filter_append→i8,set_append_right→i9,pairwise_map→jp,filter_eq_self→jU,filter_cons_of_pos→jZ,drop_drop→j0,nodup_cons→kN,nil_append→kO,mem_filter→kP,getElem?_set→lu,pairwise_append→lX,drop_zero→lY,map_nil→mg,pairwise_iff_getElem→mN,headD_eq_head?_getD→m6,filter_cons_of_neg→oH,head?_eq_getElem?→pb,getElem?_zipWith→qk,perm_middle→qn,cons_append→qo,drop_set_of_lt→rV,map_map→r4,filter_eq_nil_iff→v6,take_zero→yG,mem_of_mem_take→yH,take_set_of_le→zi,getElem?_range→zk,drop_succ_cons→zl,find?_eq_none→Bm,findIdx?_map→CZ
open _root_.List.Perm renaming swap→al
open _root_.Nat renaming le_refl→ao,le_trans→aT,min_eq_left→br,zero_le→bA,zero_add→cE,add_mul→cQ,mul_le_mul_right→di,one_mul→gE,lt_or_ge→iI,le_of_lt→mf,add_zero→rZ,zero_mul→vZ
open _root_.List.Sublist renaming refl→ap,cons_cons→pe
open _root_.Bool renaming and_eq_true→aS,true_and→gW,not_eq_true'→pf,eq_iff_iff→xk
open _root_.Option.some renaming inj→bB,injEq→jo
open _root_.Array renaming length_toList→cj
open _root_.Option renaming map_some→eD,bind_some→fm,map_eq_some_iff→iH
open _root_.List.Mem renaming head→fF,tail→qx
open _root_.Int renaming le_refl→ic
set_option maxHeartbeats 4000000
set_option maxRecDepth 20000
set_option linter.unusedSimpArgs false
set_option linter.unusedVariables false
set_option linter.unusedSectionVars false
theorem sk {β:Type} (X A C:List β):(X++A++C).Perm (A++(X++C)):=by
 rw[aD]
 exact fT X A C
theorem sr (l:List Mem):(l.map Mem.a).map Mem.name=l.map Mem.name:=by rw[r4];rfl
theorem LY (ms:List Mem) (p:Nat):(oT ms p).map Mem.a=oT (ms.map Mem.a) p:=by
 unfold oT
 rw[sr,List.map_zipWith,List.zipWith_map_left]
 rfl
theorem AS (ms:List Mem) (p:Nat):(oT ms p).length=ms.length:=by
 unfold oT
 rw[List.length_zipWith,oB,bC];omega
theorem AR {ms:List Mem} {p:Nat} {m:Mem} (h:m∈oT ms p): ∃ i,m.parts=mn (ms.map Mem.name) p i:=by
 obtain⟨i,hi⟩:=aK.1 h
 have hl:=(cD hi).1
 rw[AS]at hl
 obtain⟨x,hx⟩: ∃ x,ms[i]? =some x:=⟨_,ah hl⟩
 have hp:(gK (ms.map Mem.name) p)[i]? =some (mn (ms.map Mem.name) p i):=by
  unfold gK
  rw[aM,bC,zk hl];rfl
 rw[LV hx hp]at hi
 injection hi with hi
 exact⟨i,by rw[<-hi]⟩
def Hm (g:Gr) (p:Nat):Gr:={g with gen:=g.gen+1,ms:=oT g.ms p}
def Do (s:ByteArray) (ck:Int):Mem:=⟨s,ck,[],none,0,0,0⟩
theorem Ic {w w2:World} {ck wt gn:Int} {ms' l:List Mem} {mA oA:Option Addr} {mC oC p:Nat} {os:List mc} {Lm Lo:List (Nat×Obj)} (ha:ms'.map Mem.a=oT (l.map Mem.a) p) (hl:l.length<=6) (hp:p<=4) (hol:os.length<=4) (ho:gi jQ (.slice mA ms'.length mC) db ms' Lm) (hoo:gi fR (.slice oA os.length oC) d8 os Lo) (hoc:os.length<=oC) (hc: ∀ m∈ms',m.parts.length<=m.cap/\w.heap.size<=m.lo) (H:Hp w w2 (Lm++Lo) (ms'.map ng)):yE w w2 ⟨ck,wt,gn,ms',mA,mC,os,oA,oC⟩:=by
 have hml:ms'.length=l.length:=by have:=congrArg cv ha;rw[AS]at this;simpa using this
 have hmc:ms'.length<=mC:=by
  obtain⟨_,c,e,h,_⟩:=ho.form
  injection e with _ _ e
  rw[e];exact h
 refine qN.new (ga:=Gr.a ⟨ck,wt,gn,ms',mA,mC,os,oA,oC⟩) ⟨rfl,ho,hoo,hmc,hoc,hc,H⟩ (by dsimp only;omega) (by dsimp only;omega) fun m hm=> ?_
 have h1:m.a∈oT (l.map Mem.a) p:=ha▸bL hm
 obtain⟨i,hi⟩:=AR h1
 have h2:m.parts=mn ((l.map Mem.a).map Mem.name) p i:=hi
 rw[h2]
 have:=yl ((l.map Mem.a).map Mem.name) p i
 omega
theorem GT (g:Gr) (s:ByteArray) (p:Nat) (w:World) (h:g.rd 0 w.heap.size w) (hok:lh g=true) (hn:bM s=true) (hp:p<=4) (hg1:g.gen<1073741824) (i:Nat) (hi:pX g s=i):dd aa px [g.v,.string s,J (p:Nat)] w fun v w2=>v=.tuple #[.agg #[J 0,J 0,J 0,.slice none 0 0,.slice none 0 0],J 6]/\Below w.heap.size w w2:=by
 refine aE rm Z Z ?_
 have hmC:=h.mC
 have hoC:=h.oC
 have hfew:=h.few
 have hfp:=h.fewP
 have H:=Hp.startGr h
 obtain⟨ck,wt,gn,ms,mA,mC,os,oA,oC⟩:=g
 dsimp only at hmC hoC hfew hfp H
 show CW _ _ _ _ (args [.agg #[J (ck),J (wt),J (gn),.slice mA ms.length mC,.slice oA os.length oC],.string (s),J (((p:Nat):Int))]) w
 obtain⟨⟨⟨k1,k2⟩,k3,k4,⟨k5,k6⟩,k7,k8⟩,⟨hmo,hap⟩,hof,hor⟩:=dx.1 hok
 dsimp only at k1 k2 k3 k4 k5 k6 k7 k8 hg1
 refine W<|Zr<|fS H Z Z fun w1 b3 H=>eC H dZ Z fun w2 b6 H=>G (Wi Z)<|U<|W<|Zr<|G (Zw aR H 1 Z Z Z)<|G (Yt Z)<|cd gh (mw ⟨ck,wt,gn,ms,mA,mC,os,oA,oC⟩ s _ ⟨H.rd0 0 Z,fun m hm=>y8 H 1 Z hm,H.rd0 2 Z,hmC,hoC,hfew,hfp⟩ hok hn) Z Z ?_
 rintro _ w3 ⟨⟨ck2,wt2,gn2,ms2,mA2,mC2,os2,oA2,oC2⟩,Lm,Lo,rfl,ha2,ho2,hoo2,hmc2,hoc2,hpc2,hj2⟩
 have hlo2:=H.size
 replace H:=Hp.joinG H hj2 (fun m hm=>(hpc2 m hm).2);clear hj2
 simp only[Gr.a,Gr.mk.injEq]at ha2
 obtain⟨e1,e2,e3,hma,-,-,e4,-,-⟩:=ha2
 obtain rfl:ck=ck2:=e1.symm
 obtain rfl:wt=wt2:=e2.symm
 obtain rfl:gn=gn2:=e3.symm
 obtain rfl:os=os2:=e4.symm
 dsimp only at ho2 hoo2 hmc2 hoc2 hpc2 H
 replace hpc2: ∀ m∈ms2,m.parts.length<=m.cap/\w.heap.size<=m.lo:=fun m hm=>⟨(hpc2 m hm).1,aT hlo2 (hpc2 m hm).2⟩
 have hml2:ms2.length=ms.length:=by have:=congrArg cv hma;simpa using this
 rw[hi]
 refine G (Yu Z)<|G (Xa Z Z)<|G (Xi Z Z)<|G (Xi Z Z)<|bl H 1 (#[J (ck),J (wt),J (gn),.slice mA2 ms2.length mC2,.slice oA2 os.length oC2]) bF Z Z Z Z Z N N fun w4 H=>G (Wi Z)<|G (Wi Z)<|U<|W<|Zb<|W<|Zr<|G (Yi Z)<|G (bX Z Z Z)<|G (Wb Z)<|U<|ZF Z<|W<|Zr<|G (Zw aR H 1 Z Z Z)<|G (Yi Z)<|cd kK (sG ⟨ck,wt,gn,ms2,mA2,mC2,os,oA2,oC2⟩ p _) Z Z ?_
 rw[show iT ⟨ck,wt,gn,ms2,mA2,mC2,os,oA2,oC2⟩ p=true by unfold iT;simp;omega]
 rintro _ w5 ⟨rfl,hb⟩;replace H:=H.later hb;clear hb
 refine G (dO Z)<|G (Wb Z)<|U<|ZF Z<|W<|Zr<|G (Yi Z)<|G (Ou Z Z I)<|G (Wb Z)<|U<|ZT Z<|W<|Zr<|G (bj (cs:= #[J (0),J (0),J (0),.slice none 0 0,.slice none 0 0]) j4 dZ N)<|bl H 0 (#[J (0),J (0),J (0),.slice none 0 0,.slice none 0 0]) bF Z Z Z Z Z N N fun w6 H=>G (Wi Z)<|U<|Zt ?_
 exact bG (cs0:= #[J 0,J 0,J 0,.slice none 0 0,.slice none 0 0]) (v1:=J 6) Z aR Z (H.ent (i:=0) Z) Z Z ⟨rfl,H.below⟩
theorem Jb (g:Gr) (s:ByteArray) (p:Nat) (w:World) (h:g.rd 0 w.heap.size w) (hok:lh g=true) (hn:bM s=true) (hp:p<=4) (hg1:g.gen<1073741824) (hi:pX g s= -1) (hf:g.ms.length=6):dd aa px [g.v,.string s,J (p:Nat)] w fun v w2=>v=.tuple #[.agg #[J 0,J 0,J 0,.slice none 0 0,.slice none 0 0],J 16]/\Below w.heap.size w w2:=by
 refine aE rm Z Z ?_
 have hmC:=h.mC
 have hoC:=h.oC
 have hfew:=h.few
 have hfp:=h.fewP
 have H:=Hp.startGr h
 obtain⟨ck,wt,gn,ms,mA,mC,os,oA,oC⟩:=g
 dsimp only at hmC hoC hfew hfp H
 show CW _ _ _ _ (args [.agg #[J (ck),J (wt),J (gn),.slice mA ms.length mC,.slice oA os.length oC],.string (s),J (((p:Nat):Int))]) w
 obtain⟨⟨⟨k1,k2⟩,k3,k4,⟨k5,k6⟩,k7,k8⟩,⟨hmo,hap⟩,hof,hor⟩:=dx.1 hok
 dsimp only at k1 k2 k3 k4 k5 k6 k7 k8 hg1
 dsimp only at hf
 refine W<|Zr<|fS H Z Z fun w1 b3 H=>eC H dZ Z fun w2 b6 H=>G (Wi Z)<|U<|W<|Zr<|G (Zw aR H 1 Z Z Z)<|G (Yt Z)<|cd gh (mw ⟨ck,wt,gn,ms,mA,mC,os,oA,oC⟩ s _ ⟨H.rd0 0 Z,fun m hm=>y8 H 1 Z hm,H.rd0 2 Z,hmC,hoC,hfew,hfp⟩ hok hn) Z Z ?_
 rintro _ w3 ⟨⟨ck2,wt2,gn2,ms2,mA2,mC2,os2,oA2,oC2⟩,Lm,Lo,rfl,ha2,ho2,hoo2,hmc2,hoc2,hpc2,hj2⟩
 have hlo2:=H.size
 replace H:=Hp.joinG H hj2 (fun m hm=>(hpc2 m hm).2);clear hj2
 simp only[Gr.a,Gr.mk.injEq]at ha2
 obtain⟨e1,e2,e3,hma,-,-,e4,-,-⟩:=ha2
 obtain rfl:ck=ck2:=e1.symm
 obtain rfl:wt=wt2:=e2.symm
 obtain rfl:gn=gn2:=e3.symm
 obtain rfl:os=os2:=e4.symm
 dsimp only at ho2 hoo2 hmc2 hoc2 hpc2 H
 replace hpc2: ∀ m∈ms2,m.parts.length<=m.cap/\w.heap.size<=m.lo:=fun m hm=>⟨(hpc2 m hm).1,aT hlo2 (hpc2 m hm).2⟩
 have hml2:ms2.length=ms.length:=by have:=congrArg cv hma;simpa using this
 rw[hi]
 refine G (Yu Z)<|G (Xa Z Z)<|G (Xi Z Z)<|G (Xi Z Z)<|bl H 1 (#[J (ck),J (wt),J (gn),.slice mA2 ms2.length mC2,.slice oA2 os.length oC2]) bF Z Z Z Z Z N N fun w4 H=>G (Wi Z)<|G (Wi Z)<|U<|W<|Zb<|W<|Zr<|G (Yi Z)<|G (bX Z Z Z)<|G (Wb Z)<|U<|ZF Z<|W<|Zr<|G (Zw aR H 1 Z Z Z)<|G (Yi Z)<|cd kK (sG ⟨ck,wt,gn,ms2,mA2,mC2,os,oA2,oC2⟩ p _) Z Z ?_
 rw[show iT ⟨ck,wt,gn,ms2,mA2,mC2,os,oA2,oC2⟩ p=true by unfold iT;simp;omega]
 rintro _ w5 ⟨rfl,hb⟩;replace H:=H.later hb;clear hb
 refine G (dO Z)<|G (Wb Z)<|U<|ZF Z<|W<|Zr<|G (Yi Z)<|G (rc Z Z (by decide))<|G (Wb Z)<|U<|ZF Z<|W<|Zr<|G (Zf dJ Z)<|G (Zd dt H 1 Z Z Z)<|G (bn gm Z)<|G (tV Z Z I)<|G (Wb Z)<|U<|ZT Z<|W<|Zr<|G (bj (cs:= #[J (0),J (0),J (0),.slice none 0 0,.slice none 0 0]) j4 dZ N)<|bl H 0 (#[J (0),J (0),J (0),.slice none 0 0,.slice none 0 0]) bF Z Z Z Z Z N N fun w6 H=>G (Wi Z)<|U<|Zt ?_
 exact bG (cs0:= #[J 0,J 0,J 0,.slice none 0 0,.slice none 0 0]) (v1:=J 16) Z aR Z (H.ent (i:=0) Z) Z Z ⟨rfl,H.below⟩
theorem M8 (g:Gr) (s:ByteArray) (p:Nat) (w:World) (h:g.rd 0 w.heap.size w) (hok:lh g=true) (hn:bM s=true) (hp:p<=4) (hg1:g.gen<1073741824) (hi:pX g s= -1) (hf:g.ms.length≠6):dd aa px [g.v,.string s,J (p:Nat)] w fun v w2=> ∃ g':Gr,v=.tuple #[g'.v,J 0]/\g'.a=Hm {g.a with ms:=g.a.ms++[Do s g.clock]} p/\yE w w2 g':=by
 refine aE rm Z Z ?_
 have hmC:=h.mC
 have hoC:=h.oC
 have hfew:=h.few
 have hfp:=h.fewP
 have H:=Hp.startGr h
 obtain⟨ck,wt,gn,ms,mA,mC,os,oA,oC⟩:=g
 dsimp only at hmC hoC hfew hfp H
 show CW _ _ _ _ (args [.agg #[J (ck),J (wt),J (gn),.slice mA ms.length mC,.slice oA os.length oC],.string (s),J (((p:Nat):Int))]) w
 obtain⟨⟨⟨k1,k2⟩,k3,k4,⟨k5,k6⟩,k7,k8⟩,⟨hmo,hap⟩,hof,hor⟩:=dx.1 hok
 dsimp only at k1 k2 k3 k4 k5 k6 k7 k8 hg1
 dsimp only at hf
 refine W<|Zr<|fS H Z Z fun w1 b3 H=>eC H dZ Z fun w2 b6 H=>G (Wi Z)<|U<|W<|Zr<|G (Zw aR H 1 Z Z Z)<|G (Yt Z)<|cd gh (mw ⟨ck,wt,gn,ms,mA,mC,os,oA,oC⟩ s _ ⟨H.rd0 0 Z,fun m hm=>y8 H 1 Z hm,H.rd0 2 Z,hmC,hoC,hfew,hfp⟩ hok hn) Z Z ?_
 rintro _ w3 ⟨⟨ck2,wt2,gn2,ms2,mA2,mC2,os2,oA2,oC2⟩,Lm,Lo,rfl,ha2,ho2,hoo2,hmc2,hoc2,hpc2,hj2⟩
 have hlo2:=H.size
 replace H:=Hp.joinG H hj2 (fun m hm=>(hpc2 m hm).2);clear hj2
 simp only[Gr.a,Gr.mk.injEq]at ha2
 obtain⟨e1,e2,e3,hma,-,-,e4,-,-⟩:=ha2
 obtain rfl:ck=ck2:=e1.symm
 obtain rfl:wt=wt2:=e2.symm
 obtain rfl:gn=gn2:=e3.symm
 obtain rfl:os=os2:=e4.symm
 dsimp only at ho2 hoo2 hmc2 hoc2 hpc2 H
 replace hpc2: ∀ m∈ms2,m.parts.length<=m.cap/\w.heap.size<=m.lo:=fun m hm=>⟨(hpc2 m hm).1,aT hlo2 (hpc2 m hm).2⟩
 have hml2:ms2.length=ms.length:=by have:=congrArg cv hma;simpa using this
 rw[hi]
 refine G (Yu Z)<|G (Xa Z Z)<|G (Xi Z Z)<|G (Xi Z Z)<|bl H 1 (#[J (ck),J (wt),J (gn),.slice mA2 ms2.length mC2,.slice oA2 os.length oC2]) bF Z Z Z Z Z N N fun w4 H=>G (Wi Z)<|G (Wi Z)<|U<|W<|Zb<|W<|Zr<|G (Yi Z)<|G (bX Z Z Z)<|G (Wb Z)<|U<|ZF Z<|W<|Zr<|G (Zw aR H 1 Z Z Z)<|G (Yi Z)<|cd kK (sG ⟨ck,wt,gn,ms2,mA2,mC2,os,oA2,oC2⟩ p _) Z Z ?_
 rw[show iT ⟨ck,wt,gn,ms2,mA2,mC2,os,oA2,oC2⟩ p=true by unfold iT;simp;omega]
 rintro _ w5 ⟨rfl,hb⟩;replace H:=H.later hb;clear hb
 refine G (dO Z)<|G (Wb Z)<|U<|ZF Z<|W<|Zr<|G (Yi Z)<|G (rc Z Z (by decide))<|G (Wb Z)<|U<|ZF Z<|W<|Zr<|G (Zf dJ Z)<|G (Zd dt H 1 Z Z Z)<|G (bn gm Z)<|G (nC Z Z I)<|G (Wb Z)<|U<|ZF Z<|Zk<|W<|Zr<|G (Zf dJ Z)<|G (Zd dt H 1 Z Z Z)<|G (Yt Z)<|G (Zf jz Z)<|G (Zd aj H 1 Z Z Z)<|G (bj (cs:= #[.string (s),J (ck),.slice none 0 0]) IC tl N)<|sY (vs:=[.agg #[.string (s),J (ck),.slice none 0 0]]) H ez tl Z Z Z Z Z Z fun w6 b44 H=>vU (Y:=jQ) AV (K:=[(b44,.cells #[.string (s),J (ck),.slice none 0 0] db (0,0)),(b6,.cells #[J (0),J (0),J (0),.slice none 0 0,.slice none 0 0] cM (0,0)),(b3,.cells #[J (ck),J (wt),J (gn),.slice mA2 ms2.length mC2,.slice oA2 os.length oC2] cM (0,0))]) (L:=Lm) (M:=Lo) H ho2 (news:=[Do s ck]) Z Z Z (vY.row (m:=1) (sz:=jQ.sz) (H.ent (i:=0) Z) Z) (show(ms2.length+1)*48<=140737488355328 by omega) Z ?_
 intro A9 c9 w7 L9 h9 _ ho9 H
 have hl9:(ms2++[Do s ck]).length<=6:=by rw[ay,bP];omega
 refine G (Zf dJ Z)<|bl H 2 (#[J (ck),J (wt),J (gn),.slice A9 ((ms2++[Do s ck]).length) c9,.slice oA2 os.length oC2]) tu Z Z Z Z Z N N fun w8 H=>U<|W<|Zr<|G (Zw aR H 2 Z Z Z)<|G (Yi Z)<|cd qL (yD ck wt gn (ms2++[Do s ck]) A9 c9 os oA2 oC2 p (H.perm (sk [(b44,.cells #[.string (s),J (ck),.slice none 0 0] db (0,0)),(b6,.cells #[J (0),J (0),J (0),.slice none 0 0,.slice none 0 0] cM (0,0)),(b3,.cells #[J (ck),J (wt),J (gn),.slice A9 ((ms2++[Do s ck]).length) c9,.slice oA2 os.length oC2] cM (0,0))] L9 Lo).symm) ho9 I hp I I) Z Z ?_
 rintro _ w9 ⟨ms4,L4,rfl,ha4,ho4,hc4,H⟩
 replace H:=H.perm (sk [(b44,.cells #[.string (s),J (ck),.slice none 0 0] db (0,0)),(b6,.cells #[J (0),J (0),J (0),.slice none 0 0,.slice none 0 0] cM (0,0)),(b3,.cells #[J (ck),J (wt),J (gn),.slice A9 ((ms2++[Do s ck]).length) c9,.slice oA2 os.length oC2] cM (0,0))] L4 Lo)
 rw[LY]at ha4
 refine bl H 1 (#[J (ck),J (wt),J (gn+1),.slice A9 ms4.length c9,.slice oA2 os.length oC2]) bF Z Z Z Z Z N N fun w10 H=>G (Wi Z)<|U<|Zt ?_
 exact bG (cs0:= #[J (ck),J (wt),J (gn+1),.slice A9 ms4.length c9,.slice oA2 os.length oC2]) (v1:=J 0) Z aR Z (H.ent (i:=1) Z) Z Z ⟨⟨ck,wt,gn+1,ms4,A9,c9,os,oA2,oC2⟩,rfl,by unfold Gr.a Hm;dsimp only;rw[ha4,bk,hma];rfl,Ic ha4 hl9 hp I ho4 hoo2 hoc2 hc4 (H.forget (by rw[aD];exact .cons _ (.cons _ (.cons _ (ap _)))) (fun f hf=>by simp only[av,ar];grind))⟩
def tv (g:Gr) (n:Int) (m:Mem):Bool:=decide (g.wait<=g.clock+n-m.heard)
def pN (g:Gr) (n:Int) (p:Nat):Gr:=if(g.ms.filter fun m=>!tv g n m).length=g.ms.length then{g with clock:=g.clock+n}else Hm {g with clock:=g.clock+n,ms:=g.ms.filter fun m=>!tv g n m} p
theorem iG {ck:Int} {l l2:List Mem} (ha:l2.map Mem.a=l.map Mem.a) (hm: ∀ m∈l,u6 ck m=true): ∀ m∈l2,m.parts.length<=4:=fun m hm2=>by
 have h1:m.a∈l.map Mem.a:=ha▸bL hm2
 obtain⟨x,hx,he⟩:=bv.1 h1
 have h2:=(jK.1 (hm x hx)).2.2.2
 have h3:m.parts=x.parts:=(congrArg Mem.parts he).symm
 have:=ml h2
 rw[h3];omega
theorem Li {ck:Int} {l l2:List Mem} (ha:l2.map Mem.a=l.map Mem.a) (hm: ∀ m∈l,u6 ck m=true): ∀ m∈l2,0<=m.heard/\m.heard<=ck:=fun m hm2=>by
 have h1:m.a∈l.map Mem.a:=ha▸bL hm2
 obtain⟨x,hx,he⟩:=bv.1 h1
 obtain⟨_,h2,h3,_⟩:=jK.1 (hm x hx)
 have h4:m.heard=x.heard:=(congrArg Mem.heard he).symm
 rw[h4];exact⟨h2,h3⟩
theorem FH (l:List Mem) (f:Mem->Bool) (hf: ∀ m,f m.a=f m):(l.filter f).map Mem.a=(l.map Mem.a).filter f:=by
 rw[List.filter_map,show f∘Mem.a=f from funext hf]
theorem G9 {α:Type} {l:List α} {f:α->Bool} (h:(l.filter f).length=l.length):l.filter f=l:=jU.2 (List.length_filter_eq_length_iff.1 h)
theorem Gf (m:Mem) (b:Nat) (ck wt gn:Int) (v3 v4:Value) (w:World) (hx:w.heap[b]? =some (.cells #[J ck,J wt,J gn,v3,v4] cM (0,0))) (h0:0<=m.heard) (h1:m.heard<=1073741824) (h2:0<=ck) (h3:ck<=1073741824):
  dd aa yM [.agg m.c.toArray,.pointer (Qd b)] w fun v w2=>v=.bool (decide (wt<=ck-m.heard))/\Below w.heap.size w w2:=by
 refine aE xL Z Z ?_
 have H:=Hp.start w
 have hb:=ce hx
 refine W<|Zr<|fS H Z Z fun w1 b2 H=>G (Wb Z)<|U<|W<|Zr<|G (Zf jz Z)<|G (aV aj Z ((H.below.cell (p:=⟨b,_,none⟩) hb).trans (aB (j:=0) hx Z)))<|G (Zf qG Z)<|G (Zd aj H 0 Z Z Z)<|G (mX Z Z I I)<|G (Zf vN Z)<|G (aV aj Z ((H.below.cell (p:=⟨b,_,none⟩) hb).trans (aB (j:=1) hx Z)))<|G (ke Z Z)<|G (Wb Z)<|U<|Zt ?_
 exact cF Z Z ⟨rfl,H.below⟩
theorem LO (A:Option Addr) (c:Nat) (w:World) {f:FuncId} {cap:List Value} (hf:bi aa f=true):dd aa fv [.slice A 0 c,.func (.func f) #[] cap.toArray] w fun v w2=>v=.slice A 0 c/\Below w.heap.size w w2:=by
 refine aE hJ Z Z ?_
 have H:=Hp.start w
 refine W<|Zr<|G (Ws Z)<|U<|W<|Zr<|G (Ys Z)<|G (sS Z)<|cd dm (fN [] A c _ Rd.nil (by simp) f cap hf (fun _=>false) (fun e w2 he _=>absurd he (by simp))) Z Z ?_
 rintro _ w1 ⟨rfl,hb⟩;replace H:=H.later hb;clear hb
 refine G (Wi Z)<|U<|W<|W<|Zr<|G (Yi Z)<|G (tV Z Z Z)<|U<|ZT Z<|W<|Zr<|G (Ys Z)<|G (Ws Z)<|U<|Zt ?_
 exact cF (v:=.slice A 0 c) Z Z ⟨rfl,H.below⟩
theorem LP {w0 w:World} {K M Lt:List (Nat×Obj)} {F:List ci} {ms:List Mem} {c:Nat} {A:Option Addr} (H:Hp w0 w (K++Lt++M) F) (ho:gi jQ (.slice A ms.length c) db ms Lt) (h12:ms.length<=1000) {f:FuncId} {cap:List Value} (hf:bi aa f=true) (pred:Mem->Bool)
  (hp: ∀ e∈ms,∀ (w':World) (L':List (Nat×Obj)),Hp w0 w' (K++L'++M) F->dd aa f (.agg e.c.toArray::cap) w' fun v w2=>v=.bool (pred e)/\Below w'.heap.size w' w2):
  dd aa fv [.slice A ms.length c,.func (.func f) #[] cap.toArray] w fun v w2=> ∃ L',v=.slice A (ms.filter fun m=>!pred m).length c/\gi jQ (.slice A (ms.filter fun m=>!pred m).length c) db (ms.filter fun m=>!pred m) L'/\Hp w0 w2 (K++L'++M) F:=by
 by_cases h0:ms.length=0
 have:=bU h0
 subst this
 exact(LO A c w hf).mono fun v w2 ⟨h1,h2⟩=>⟨Lt,h1,ho,H.later h2⟩
 obtain⟨g,cur,rfl,rfl,row⟩:=ho.row I
 have hpm: ∀ u:Array Value,(K++[(g,Obj.cells u db (0,0))]++M).Perm ((g,Obj.cells u db (0,0))::(K++M)):=fun u=>by rw[aD];exact qn
 exact(Nk ms c (H.perm (hpm cur).symm) row Z h12 hf pred fun e he w' u' H'=>hp e he w' _ (H'.perm (hpm u'))).mono fun v w2 ⟨u2,h1,h2,h3⟩=>⟨_,h1,dU.own (g:=g) (e:=db) h2,h3.perm (hpm u2)⟩
theorem Fw (g:Gr) (n:Int) (p:Nat) (w:World) (h:g.rd 0 w.heap.size w) (hok:lh g=true) (hp:p<=4) (hg1:g.gen<1073741824) (hn0:0<=n) (hn1:n<=1000) (hcl:g.clock+n<=1073741824):dd aa DE [g.v,J n,J (p:Nat)] w fun v w2=> ∃ g':Gr,v=.tuple #[g'.v,J 0]/\g'.a=pN g.a n p/\yE w w2 g':=by
 refine aE BO Z Z ?_
 have hmC:=h.mC
 have hoC:=h.oC
 have hfew:=h.few
 have hfp:=h.fewP
 have H:=Hp.startGr h
 obtain⟨ck,wt,gn,ms,mA,mC,os,oA,oC⟩:=g
 dsimp only at hmC hoC hfew hfp H
 show CW _ _ _ _ (args [.agg #[J (ck),J (wt),J (gn),.slice mA ms.length mC,.slice oA os.length oC],J (n),J (((p:Nat):Int))]) w
 obtain⟨⟨⟨k1,k2⟩,k3,k4,⟨k5,k6⟩,k7,k8⟩,⟨hmo,hap⟩,hof,hor⟩:=dx.1 hok
 dsimp only at k1 k2 k3 k4 k5 k6 k7 k8 hmo
 dsimp only at hg1 hcl
 refine W<|Zr<|fS H Z Z fun w1 b3 H=>eC H dZ Z fun w2 b6 H=>G (Wi Z)<|U<|W<|W<|Zr<|G (Zw aR H 1 Z Z Z)<|cd t6 (CF ⟨ck,wt,gn,ms,mA,mC,os,oA,oC⟩ _ ⟨H.rd0 0 Z,fun m hm=>y8 H 1 Z hm,H.rd0 2 Z,hmC,hoC,hfew,hfp⟩ hok) Z Z ?_
 rintro _ w3 ⟨rfl,hb⟩;replace H:=H.later hb;clear hb
 refine G (Wi Z)<|U<|W<|Zr<|G (Yi Z)<|G (bX Z Z Z)<|U<|ZF Z<|Zk<|W<|W<|Zr<|G (Yi Z)<|G (cY Z Z I)<|G (Yb Z)<|ZG<|G (Yi Z)<|ZG<|G (er Z Z I)<|G (N Z Z)<|G (Yb Z)<|ZG<|G (Zf jz Z)<|ZG<|G (Zd aj H 1 Z Z Z)<|ZG<|G (Yi Z)<|ZG<|G (bp Z Z I I)<|ZG<|G (er Z Z I)<|G (N Z Z)<|G (Yb Z)<|ZG<|G (Zw aR H 1 Z Z Z)<|ZG<|G (Yi Z)<|ZG<|cd kK (sG ⟨ck,wt,gn,ms,mA,mC,os,oA,oC⟩ p _) Z Z ?_
 rw[show iT ⟨ck,wt,gn,ms,mA,mC,os,oA,oC⟩ p=true by unfold iT;simp;omega]
 rintro _ w4 ⟨rfl,hb⟩;replace H:=H.later hb;clear hb
 refine ZG<|G (dO Z)<|G (N Z Z)<|U<|ZF Z<|Zk<|W<|Zr<|G (Zw aR H 1 Z Z Z)<|cd nR (wH ⟨ck,wt,gn,ms,mA,mC,os,oA,oC⟩ _ ⟨H.rd0 0 Z,fun m hm=>y8 H 1 Z hm,H.rd0 2 Z,hmC,hoC,hfew,hfp⟩) Z Z ?_
 rintro _ w5 ⟨⟨ck2,wt2,gn2,ms2,mA2,mC2,os2,oA2,oC2⟩,Lm,Lo,rfl,ha2,ho2,hoo2,hmc2,hoc2,hpc2,hj2⟩
 have hlo2:=H.size
 replace H:=Hp.joinG H hj2 (fun m hm=>(hpc2 m hm).2);clear hj2
 simp only[Gr.a,Gr.mk.injEq]at ha2
 obtain⟨e1,e2,e3,hma,-,-,e4,-,-⟩:=ha2
 obtain rfl:ck=ck2:=e1.symm
 obtain rfl:wt=wt2:=e2.symm
 obtain rfl:gn=gn2:=e3.symm
 obtain rfl:os=os2:=e4.symm
 dsimp only at ho2 hoo2 hmc2 hoc2 hpc2 H
 replace hpc2: ∀ m∈ms2,m.parts.length<=m.cap/\w.heap.size<=m.lo:=fun m hm=>⟨(hpc2 m hm).1,aT hlo2 (hpc2 m hm).2⟩
 have hml2:ms2.length=ms.length:=by have:=congrArg cv hma;simpa using this
 have hhd:=Li hma hmo
 refine bl H 1 (#[J (ck),J (wt),J (gn),.slice mA2 ms2.length mC2,.slice oA2 os.length oC2]) bF Z Z Z Z Z N N fun w6 H=>U<|W<|Zr<|G (Zf jz Z)<|G (Zd aj H 1 Z Z Z)<|G (Yi Z)<|G (bp Z Z I I)<|G (Zf jz Z)<|bl H 1 (#[J (ck+n),J (wt),J (gn),.slice mA2 ms2.length mC2,.slice oA2 os.length oC2]) bI Z Z Z Z Z N N fun w7 H=>U<|W<|Zr<|G (Zf dJ Z)<|G (Zd dt H 1 Z Z Z)<|G (bn gm Z)<|G (Wi Z)<|U<|W<|Zr<|G (Zf dJ Z)<|G (Zd dt H 1 Z Z Z)<|G (zP Z)<|cd lp (LP (K:=[(b6,.cells #[J (0),J (0),J (0),.slice none 0 0,.slice none 0 0] cM (0,0)),(b3,.cells #[J (ck+n),J (wt),J (gn),.slice mA2 ms2.length mC2,.slice oA2 os.length oC2] cM (0,0))]) (Lt:=Lm) (M:=Lo) H ho2 I (cap:=[.pointer (Qd b3)]) xT (fun m=>decide (wt<=(ck+n)-m.heard)) (fun e he w' L' H'=>Gf e b3 (ck+n) wt gn _ _ w' (H'.ent (i:=1) Z) (hhd e he).1 (by have:=(hhd e he).2;omega) I hcl)) Z Z ?_
 rintro _ w8 ⟨L9,rfl,ho9,H⟩
 have hl9:(ms2.filter fun m=>!decide (wt<=(ck+n)-m.heard)).length<=6:=by have:=List.length_filter_le (fun m:Mem=>!decide (wt<=(ck+n)-m.heard)) ms2;omega
 refine G (Zf dJ Z)<|bl H 1 (#[J (ck+n),J (wt),J (gn),.slice mA2 ((ms2.filter fun m=>!decide (wt<=(ck+n)-m.heard)).length) mC2,.slice oA2 os.length oC2]) tu Z Z Z Z Z N N fun w9 H=>U<|W<|W<|Zr<|G (Zf dJ Z)<|G (Zd dt H 1 Z Z Z)<|G (bn gm Z)<|G (Yi Z) ?_
 refine cR (bh Z Z) Z Z Z (fun h55=> ?_) (fun h55=> ?_)
 have hall:(ms2.filter fun m=>!decide (wt<=(ck+n)-m.heard))=ms2:=G9 I
 have hsl:((ms2.filter fun m=>!decide (wt<=(ck+n)-m.heard)).map Mem.a)=(ms.map Mem.a).filter fun m=>!tv (Gr.a ⟨ck,wt,gn,ms,mA,mC,os,oA,oC⟩) n m:=by rw[FH _ _ (fun _=>rfl),hma];rfl
 refine U<|ZT Z<|W<|Zr<|G (Zw aR H 1 Z Z Z)<|bl H 0 (#[J (ck+n),J (wt),J (gn),.slice mA2 ((ms2.filter fun m=>!decide (wt<=(ck+n)-m.heard)).length) mC2,.slice oA2 os.length oC2]) bF Z Z Z Z Z N N fun w10 H=>G (Wi Z)<|U<|Zt ?_
 have hT:pN (Gr.a ⟨ck,wt,gn,ms,mA,mC,os,oA,oC⟩) n p={Gr.a ⟨ck,wt,gn,ms,mA,mC,os,oA,oC⟩with clock:=ck+n}:=by unfold pN;rw[if_pos (by show((ms.map Mem.a).filter _).length=(ms.map Mem.a).length;rw[<-hsl,bC,bC];omega)];rfl
 rw[hT]
 rw[hall]at ho9
 exact bG (cs0:= #[J (ck+n),J (wt),J (gn),.slice mA2 (((ms2.filter fun m=>!decide (wt<=(ck+n)-m.heard))).length) mC2,.slice oA2 os.length oC2]) (v1:=J 0) Z aR Z (H.ent (i:=0) Z) Z Z ⟨⟨ck+n,wt,gn,ms2,mA2,mC2,os,oA2,oC2⟩,by rw[hall];rfl,by unfold Gr.a;dsimp only;rw[hma],qN.new (ga:=Gr.a ⟨ck+n,wt,gn,ms2,mA2,mC2,os,oA2,oC2⟩) ⟨rfl,ho9,hoo2,hmc2,hoc2,hpc2,H.forget (by rw[aD];exact .cons _ (.cons _ (ap _))) (fun f hf=>by simp only[av,ar];grind)⟩ (by dsimp only;omega) (by dsimp only;omega) (iG hma hmo)⟩
 have hsl:((ms2.filter fun m=>!decide (wt<=(ck+n)-m.heard)).map Mem.a)=(ms.map Mem.a).filter fun m=>!tv (Gr.a ⟨ck,wt,gn,ms,mA,mC,os,oA,oC⟩) n m:=by rw[FH _ _ (fun _=>rfl),hma];rfl
 refine U<|ZF Z<|Zk<|W<|Zr<|G (Zw aR H 1 Z Z Z)<|G (Yi Z)<|cd qL (yD (ck+n) wt gn (ms2.filter fun m=>!decide (wt<=(ck+n)-m.heard)) mA2 mC2 os oA2 oC2 p (H.perm (sk [(b6,.cells #[J (0),J (0),J (0),.slice none 0 0,.slice none 0 0] cM (0,0)),(b3,.cells #[J (ck+n),J (wt),J (gn),.slice mA2 ((ms2.filter fun m=>!decide (wt<=(ck+n)-m.heard)).length) mC2,.slice oA2 os.length oC2] cM (0,0))] L9 Lo).symm) ho9 I hp I I) Z Z ?_
 rintro _ w11 ⟨ms4,L4,rfl,ha4,ho4,hc4,H⟩
 replace H:=H.perm (sk [(b6,.cells #[J (0),J (0),J (0),.slice none 0 0,.slice none 0 0] cM (0,0)),(b3,.cells #[J (ck+n),J (wt),J (gn),.slice mA2 ((ms2.filter fun m=>!decide (wt<=(ck+n)-m.heard)).length) mC2,.slice oA2 os.length oC2] cM (0,0))] L4 Lo)
 rw[LY]at ha4
 refine bl H 0 (#[J (ck+n),J (wt),J (gn+1),.slice mA2 ms4.length mC2,.slice oA2 os.length oC2]) bF Z Z Z Z Z N N fun w12 H=>G (Wi Z)<|U<|Zt ?_
 have hT:pN (Gr.a ⟨ck,wt,gn,ms,mA,mC,os,oA,oC⟩) n p=Hm {Gr.a ⟨ck,wt,gn,ms,mA,mC,os,oA,oC⟩with clock:=ck+n,ms:=(ms.map Mem.a).filter fun m=>!tv (Gr.a ⟨ck,wt,gn,ms,mA,mC,os,oA,oC⟩) n m} p:=by unfold pN;rw[if_neg (by show¬ ((ms.map Mem.a).filter _).length=(ms.map Mem.a).length;rw[<-hsl,bC,bC];omega)];rfl
 rw[hT]
 exact bG (cs0:= #[J (ck+n),J (wt),J (gn+1),.slice mA2 ms4.length mC2,.slice oA2 os.length oC2]) (v1:=J 0) Z aR Z (H.ent (i:=0) Z) Z Z ⟨⟨ck+n,wt,gn+1,ms4,mA2,mC2,os,oA2,oC2⟩,rfl,by unfold Gr.a Hm;dsimp only;rw[ha4,hsl];rfl,Ic ha4 hl9 hp I ho4 hoo2 hoc2 hc4 (H.forget (by rw[aD];exact .cons _ (.cons _ (ap _))) (fun f hf=>by simp only[av,ar];grind))⟩
theorem lK {α:Type} {Y:fj α} {w0 w:World} {L:List (Nat×Obj)} {F:List ci} {lo hi:Nat} {A:Option Addr} {es:List α} (H:Hp w0 w L F) (hf:dG Y lo hi A es∈F):Rd Y 0 w.heap.size A es w:=by
 obtain⟨h1,h2,-⟩:=H.facts _ hf
 exact Rd.mono h1 (bA _) h2
def LU (g:Gr) (i:Nat) (t:Mem):Gr:={g with ms:=g.ms.set i {t with heard:=g.clock}}
def tp (os:List mc) (part:Int):Int:=match os.find? fun o=>decide (o.part=part)with|some o=>o.at_|none=>0
def mp (os:List mc) (part:Int):Nat:=(os.takeWhile fun o=>decide (o.part<part)).length
def gN (os:List mc) (part at_:Int):List mc:=
 if(os[mp os part]?).map mc.part=some part then os.set (mp os part) ⟨part,at_⟩else os.take (mp os part)++[⟨part,at_⟩]++os.drop (mp os part)
theorem zq {α:Type} {f:α->Bool}: ∀ {l:List α} {k:Nat},(∀ x∈l.take k,f x=true)->(∀ x,l[k]? =some x->f x=false)->k<=l.length->(l.takeWhile f).length=k
 |[],k,_,_,h=>by simp at h;simp[h]
 |x::l,0,_,h2,_=>by rw[List.takeWhile_cons_of_neg (by rw[h2 x Z];decide)];rfl
 |x::l,k+1,h1,h2,h3=>by
  rw[List.takeWhile_cons_of_pos (h1 x (by simp)),bO,zq (k:=k) (fun y hy=>h1 y (by simp[hy])) h2 (by simpa using h3)]
theorem Dv (es:List Int) (v:Int) (A:Option Addr) (c:Nat) (w:World) (hr:Rd bS 0 w.heap.size A es w) (hb:es.length<=1000000):dd aa rH [.slice A es.length c,J v] w fun r w2=>(∃ k:Int,r=J k/\(v∈es↔0<=k)/\ -1<=k/\k<=1000000)/\Below w.heap.size w w2:=by
 refine aE rf Z Z ?_
 have H:=Hp.startRd hr
 refine W<|Zr<|G (Wi Z)<|U<|W<|W<|Zr<|G (Ys Z)<|G (bn eF Z)<|G (Yi Z)<|U<|Zb ?_
 refine cf (τ:=Nat) [4,5,8,9,10,11,12,13,14,15,16,17,18] (fun k=>[(8,J (k:Nat))]) (fun k w'=>k<=es.length/\v∉es.take k/\Hp w w' [] [dG bS 0 w.heap.size A es]) (fun k=>es.length-k) 0 ⟨by omega,by simp,H⟩ (dF Z) ?_
 rintro k ρ1 w1 ⟨hk,hno,H⟩
 show CW _ _ _ _ (dv (gk _ _ ρ1) [(8,J (k:Nat))]) w1
 refine W<|Zr ?_
 refine cR (cG Z Z) Z Z Z (fun h9=> ?_) (fun h9=> ?_)
 obtain⟨x,hx⟩: ∃ x,es[k]? =some x:=⟨_,ah I⟩
 refine U<|W<|ZT Z<|Zk<|W<|Zb<|W<|Zr<|G (Yi Z)<|G (Wi Z)<|U<|W<|Zr<|G (Yi Z)<|G (Ys Z)<|G (Yi Z)<|pK H 0 Z aZ Z Z I I Z fun bq2 o2 x2 e2=> ?_
 obtain rfl:x=x2:=by have:=e2.at_;rw[hx]at this;exact bB this
 refine G (aV aj Z (e2.cl 0 _ Z)) ?_
 refine cR (bh Z Z) Z Z Z (fun h16=> ?_) (fun h16=> ?_)
 refine U<|ZT Z<|W<|Zr<|G (Yi Z)<|G (Wi Z)<|U<|Zt ?_
 exact cF (v:=J (k:Nat)) Z Z ⟨⟨(k:Nat),rfl,⟨fun _=>by omega,fun _=>by rw[h16];exact ae hx⟩,by omega,by omega⟩,H.below⟩
 refine U<|ZF Z<|Zk<|Zr<|G (bp Z Z I I)<|G (Yi Z)<|U ?_
 exact⟨k+1,⟨by omega,by rw[eL hx];simp only[ar,aq];rintro(h|h);exact hno h;exact h16 h,H⟩,dF Z,Qg,by show es.length- (k+1)<es.length-k;omega⟩
 refine U<|W<|ZF Z<|Zx<|W<|Zr<|G (Wi Z)<|U<|Zt ?_
 have hke:k=es.length:=by omega
 rw[hke,bV]at hno
 exact cF (v:=J (-1)) Z Z ⟨⟨-1,rfl,⟨fun h=>absurd h hno,fun h=>absurd h (by decide)⟩,by omega,by omega⟩,H.below⟩
theorem lw (es:List Int) (v:Int) (A:Option Addr) (c:Nat) (w:World) (hr:Rd bS 0 w.heap.size A es w) (hb:es.length<=1000000):dd aa pV [.slice A es.length c,J v] w fun r w2=>r=.bool (decide (v∈es))/\Below w.heap.size w w2:=by
 refine aE pB Z Z ?_
 have H:=Hp.startRd hr
 refine W<|Zr<|G (Wb Z)<|U<|W<|Zr<|G (Ys Z)<|G (Yi Z)<|cd ru (Dv es v A c _ (H.rd0 0 Z) hb) Z Z ?_
 rintro _ w1 ⟨⟨k,rfl,hk,-,-⟩,hb2⟩;replace H:=H.later hb2;clear hb2
 refine G (ke Z Z)<|G (Wb Z)<|U<|Zt ?_
 exact cF (v:=.bool (decide (0<=k))) Z Z ⟨by rw[decide_eq_decide.2 hk.symm],H.below⟩
theorem JF (g:Gr) (s:ByteArray) (gn_:Int) (w:World) (h:g.rd 0 w.heap.size w) (hok:lh g=true) (hn:bM s=true) (hi:pX g s= -1):dd aa py [g.v,.string s,J gn_] w fun v w2=>v=.tuple #[.agg #[J 0,J 0,J 0,.slice none 0 0,.slice none 0 0],J 5]/\Below w.heap.size w w2:=by
 refine aE ro Z Z ?_
 have hmC:=h.mC
 have hoC:=h.oC
 have hfew:=h.few
 have hfp:=h.fewP
 have H:=Hp.startGr h
 obtain⟨ck,wt,gn,ms,mA,mC,os,oA,oC⟩:=g
 dsimp only at hmC hoC hfew hfp H
 show CW _ _ _ _ (args [.agg #[J (ck),J (wt),J (gn),.slice mA ms.length mC,.slice oA os.length oC],.string (s),J (gn_)]) w
 obtain⟨⟨⟨k1,k2⟩,k3,k4,⟨k5,k6⟩,k7,k8⟩,⟨hmo,hap⟩,hof,hor⟩:=dx.1 hok
 dsimp only at k1 k2 k3 k4 k5 k6 k7 k8 hmo
 refine W<|Zr<|fS H Z Z fun w1 b3 H=>eC H dZ Z fun w2 b6 H=>G (Wi Z)<|U<|W<|Zr<|G (Zw aR H 1 Z Z Z)<|G (Yt Z)<|G (Yi Z)<|cd hZ (CE ⟨ck,wt,gn,ms,mA,mC,os,oA,oC⟩ s gn_ _ ⟨H.rd0 0 Z,fun m hm=>y8 H 1 Z hm,H.rd0 2 Z,hmC,hoC,hfew,hfp⟩ hok hn hi) Z Z ?_
 rintro _ w3 ⟨rfl,hb⟩;replace H:=H.later hb;clear hb
 refine G (Yu Z)<|G (Xa Z Z)<|G (Xi Z Z)<|G (Xi Z Z)<|bl H 1 (#[J (0),J (0),J (0),.slice none 0 0,.slice none 0 0]) bF Z Z Z Z Z N N fun w4 H=>G (Wi Z)<|G (Wi Z)<|U<|W<|W<|Zr<|G (Yi Z)<|G (j9 Z Z (by decide))<|U<|ZT Z<|W<|Zr<|G (bj (cs:= #[J (0),J (0),J (0),.slice none 0 0,.slice none 0 0]) j4 dZ N)<|G (Yi Z)<|bl H 0 (#[J (0),J (0),J (0),.slice none 0 0,.slice none 0 0]) bF Z Z Z Z Z N N fun w5 H=>G (Wi Z)<|U<|Zt ?_
 exact bG (cs0:= #[J 0,J 0,J 0,.slice none 0 0,.slice none 0 0]) (v1:=J 5) Z aR Z (H.ent (i:=0) Z) Z Z ⟨rfl,H.below⟩
theorem Hk (g:Gr) (s:ByteArray) (gn_:Int) (w:World) (h:g.rd 0 w.heap.size w) (hok:lh g=true) (hn:bM s=true) (i:Nat) (hi:pX g s=i) (hg:g.gen≠gn_):dd aa py [g.v,.string s,J gn_] w fun v w2=>v=.tuple #[.agg #[J 0,J 0,J 0,.slice none 0 0,.slice none 0 0],J 10]/\Below w.heap.size w w2:=by
 refine aE ro Z Z ?_
 have hmC:=h.mC
 have hoC:=h.oC
 have hfew:=h.few
 have hfp:=h.fewP
 have H:=Hp.startGr h
 obtain⟨ck,wt,gn,ms,mA,mC,os,oA,oC⟩:=g
 dsimp only at hmC hoC hfew hfp H
 show CW _ _ _ _ (args [.agg #[J (ck),J (wt),J (gn),.slice mA ms.length mC,.slice oA os.length oC],.string (s),J (gn_)]) w
 obtain⟨⟨⟨k1,k2⟩,k3,k4,⟨k5,k6⟩,k7,k8⟩,⟨hmo,hap⟩,hof,hor⟩:=dx.1 hok
 dsimp only at k1 k2 k3 k4 k5 k6 k7 k8 hmo
 refine W<|Zr<|fS H Z Z fun w1 b3 H=>eC H dZ Z fun w2 b6 H=>G (Wi Z)<|U<|W<|Zr<|G (Zw aR H 1 Z Z Z)<|G (Yt Z)<|G (Yi Z)<|cd hZ (Ap ⟨ck,wt,gn,ms,mA,mC,os,oA,oC⟩ s gn_ _ ⟨H.rd0 0 Z,fun m hm=>y8 H 1 Z hm,H.rd0 2 Z,hmC,hoC,hfew,hfp⟩ hok hn i hi hg) Z Z ?_
 rintro _ w3 ⟨rfl,hb⟩;replace H:=H.later hb;clear hb
 refine G (Yu Z)<|G (Xa Z Z)<|G (Xi Z Z)<|G (Xi Z Z)<|bl H 1 (#[J (0),J (0),J (0),.slice none 0 0,.slice none 0 0]) bF Z Z Z Z Z N N fun w4 H=>G (Wi Z)<|G (Wi Z)<|U<|W<|W<|Zr<|G (Yi Z)<|G (j9 Z Z (by decide))<|U<|ZT Z<|W<|Zr<|G (bj (cs:= #[J (0),J (0),J (0),.slice none 0 0,.slice none 0 0]) j4 dZ N)<|G (Yi Z)<|bl H 0 (#[J (0),J (0),J (0),.slice none 0 0,.slice none 0 0]) bF Z Z Z Z Z N N fun w5 H=>G (Wi Z)<|U<|Zt ?_
 exact bG (cs0:= #[J 0,J 0,J 0,.slice none 0 0,.slice none 0 0]) (v1:=J 10) Z aR Z (H.ent (i:=0) Z) Z Z ⟨rfl,H.below⟩
theorem Nu (g:Gr) (s:ByteArray) (gn_:Int) (w:World) (h:g.rd 0 w.heap.size w) (hok:lh g=true) (hn:bM s=true) (i:Nat) (t:Mem) (hi:pX g s=i) (ht:g.ms[i]? =some t) (hg:g.gen=gn_):dd aa py [g.v,.string s,J gn_] w fun v w2=> ∃ g':Gr,v=.tuple #[g'.v,J 0]/\g'.a=LU g.a i t.a/\yE w w2 g':=by
 refine aE ro Z Z ?_
 have hmC:=h.mC
 have hoC:=h.oC
 have hfew:=h.few
 have hfp:=h.fewP
 have H:=Hp.startGr h
 obtain⟨ck,wt,gn,ms,mA,mC,os,oA,oC⟩:=g
 dsimp only at hmC hoC hfew hfp H
 show CW _ _ _ _ (args [.agg #[J (ck),J (wt),J (gn),.slice mA ms.length mC,.slice oA os.length oC],.string (s),J (gn_)]) w
 obtain⟨⟨⟨k1,k2⟩,k3,k4,⟨k5,k6⟩,k7,k8⟩,⟨hmo,hap⟩,hof,hor⟩:=dx.1 hok
 dsimp only at k1 k2 k3 k4 k5 k6 k7 k8 hmo
 dsimp only at ht
 refine W<|Zr<|fS H Z Z fun w1 b3 H=>eC H dZ Z fun w2 b6 H=>G (Wi Z)<|U<|W<|Zr<|G (Zw aR H 1 Z Z Z)<|G (Yt Z)<|G (Yi Z)<|cd hZ (zc ⟨ck,wt,gn,ms,mA,mC,os,oA,oC⟩ s gn_ _ ⟨H.rd0 0 Z,fun m hm=>y8 H 1 Z hm,H.rd0 2 Z,hmC,hoC,hfew,hfp⟩ hok hn i hi hg) Z Z ?_
 rintro _ w3 ⟨⟨ck2,wt2,gn2,ms2,mA2,mC2,os2,oA2,oC2⟩,Lm,Lo,rfl,ha2,ho2,hoo2,hmc2,hoc2,hpc2,hj2⟩
 have hlo2:=H.size
 replace H:=Hp.joinG H hj2 (fun m hm=>(hpc2 m hm).2);clear hj2
 simp only[Gr.a,Gr.mk.injEq]at ha2
 obtain⟨e1,e2,e3,hma,-,-,e4,-,-⟩:=ha2
 obtain rfl:ck=ck2:=e1.symm
 obtain rfl:wt=wt2:=e2.symm
 obtain rfl:gn=gn2:=e3.symm
 obtain rfl:os=os2:=e4.symm
 dsimp only at ho2 hoo2 hmc2 hoc2 hpc2 H
 replace hpc2: ∀ m∈ms2,m.parts.length<=m.cap/\w.heap.size<=m.lo:=fun m hm=>⟨(hpc2 m hm).1,aT hlo2 (hpc2 m hm).2⟩
 have hml2:ms2.length=ms.length:=by have:=congrArg cv hma;simpa using this
 refine G (Yu Z)<|G (Xa Z Z)<|G (Xi Z Z)<|G (Xi Z Z)<|bl H 1 (#[J (ck),J (wt),J (gn),.slice mA2 ms2.length mC2,.slice oA2 os.length oC2]) bF Z Z Z Z Z N N fun w4 H=>G (Wi Z)<|G (Wi Z)<|U<|W<|W<|Zr<|G (Yi Z)<|G (bX Z Z Z)<|U<|ZF Z<|Zk<|W ?_
 obtain⟨t2,ht2,hta⟩:=zV hma ht
 have hl2:=(cD ht2).1
 obtain⟨g,cur,rfl,rfl,row⟩:=ho2.row I
 refine Zr<|G (Zf dJ Z)<|G (Zd dt H 1 Z Z Z)<|G (Yi Z)<|G (Zf jz Z)<|G (Zd aj H 1 Z Z Z)<|G (cC ez Z Z (by first|omega|(simp only[ab];omega)))<|G (Zf qG Z)<|kQ H 2 ({t2 with heard:=ck}) bI row ht2 1 Z Z Z Z Z Z N fun w6 cur5 row5 H=> ?_
 have hs7:(ms2.set i ({t2 with heard:=ck}))[i]? =some ({t2 with heard:=ck}):=am (cD ht2).1
 refine U<|W<|Zr<|G (Zw aR H 1 Z Z Z)<|bl H 0 (#[J (ck),J (wt),J (gn),.slice (Qd g) ms2.length mC2,.slice oA2 os.length oC2]) bF Z Z Z Z Z N N fun w8 H=>G (Wi Z)<|U<|Zt ?_
 have hmf:(ms2.set i {t2 with heard:=ck}).map ng=ms2.map ng:=by rw[cy];apply eJ;intro j;rw[lu];split;(rename_i hj;subst hj;rw[aM,ht2,if_pos (by simpa using hl2)];rfl);rfl
 have hma3:(ms2.set i {t2 with heard:=ck}).map Mem.a=(ms.map Mem.a).set i {t.a with heard:=ck}:=by rw[cy,hma];congr 1;exact congrArg (fun x:Mem=>({x with heard:=ck}:Mem)) hta
 have hpl:=iG hma hmo
 have hown:=dU.own (g:=g) (e:=db) row5
 exact bG (cs0:= #[J (ck),J (wt),J (gn),.slice (Qd g) ms2.length mC2,.slice oA2 os.length oC2]) (v1:=J 0) Z aR Z (H.ent (i:=0) Z) Z Z ⟨⟨ck,wt,gn,ms2.set i {t2 with heard:=ck},some ⟨g,0,none⟩,mC2,os,oA2,oC2⟩,by unfold Gr.v Gr.c;dsimp only;rw[ab],by unfold Gr.a LU;dsimp only;rw[hma3],qN.new (ga:=Gr.a ⟨ck,wt,gn,ms2.set i {t2 with heard:=ck},some ⟨g,0,none⟩,mC2,os,oA2,oC2⟩) ⟨rfl,hown,hoo2,by dsimp only;rw[ab];exact hmc2,hoc2,fun m hm=>(by rcases bH hm with hm|rfl;exact hpc2 m hm;exact hpc2 t2 (ae ht2)),H.forget (.cons _ (.cons _ (ap _))) (fun f hf=>by dsimp only at hf;rw[hmf]at hf;exact bW _ hf)⟩ (by dsimp only;rw[ab];omega) (by dsimp only;omega) (fun m hm=>(by rcases bH hm with hm|rfl;exact hpl m hm;exact hpl t2 (ae ht2)))⟩
theorem Is {os:List mc} {part:Int} {k:Nat} {o:mc} (ho:os[k]? =some o) (hp:o.part=part) (hno: ∀ x∈os.take k,x.part≠part):tp os part=o.at_:=by
 have:(os.find? fun o=>decide (o.part=part))=some o:=by
  rw[<-gL k os,List.find?_append,Bm.2 fun x hx=>by simpa using hno x hx,cN ho,List.find?_cons_of_pos (by simpa using hp)]
  rfl
 unfold tp
 rw[this]
theorem Gb {os:List mc} {part:Int} (hno: ∀ x∈os,x.part≠part):tp os part=0:=by
 unfold tp
 rw[Bm.2 fun x hx=>by simpa using hno x hx]
theorem m9 (os:List mc) (part at_:Int):(gN os part at_).length<=os.length+1:=by
 unfold gN
 split
 rw[ab];omega
 rw[ay,ay,aH,dI,bP];omega
theorem Ga (g:Gr) (s:ByteArray) (part:Int) (w:World) (h:g.rd 0 w.heap.size w) (hok:lh g=true) (hn:bM s=true) (hi:pX g s= -1):dd aa nP [g.v,.string s,J part] w fun v w2=>v=.tuple #[J 0,J 5]/\Below w.heap.size w w2:=by
 refine aE p6 Z Z ?_
 have hmC:=h.mC
 have hoC:=h.oC
 have hfew:=h.few
 have hfp:=h.fewP
 have H:=Hp.startGr h
 obtain⟨ck,wt,gn,ms,mA,mC,os,oA,oC⟩:=g
 dsimp only at hmC hoC hfew hfp H
 show CW _ _ _ _ (args [.agg #[J (ck),J (wt),J (gn),.slice mA ms.length mC,.slice oA os.length oC],.string (s),J (part)]) w
 obtain⟨⟨⟨k1,k2⟩,k3,k4,⟨k5,k6⟩,k7,k8⟩,⟨hmo,hap⟩,hof,hor⟩:=dx.1 hok
 dsimp only at k1 k2 k3 k4 k5 k6 k7 k8 hmo
 refine W<|Zr<|fS H Z Z fun w1 b3 H=>G (Wi Z)<|G (Wi Z)<|U<|W<|Zr<|G (Zw aR H 0 Z Z Z)<|G (Yt Z)<|cd gh (mw ⟨ck,wt,gn,ms,mA,mC,os,oA,oC⟩ s _ ⟨H.rd0 0 Z,fun m hm=>y8 H 1 Z hm,H.rd0 2 Z,hmC,hoC,hfew,hfp⟩ hok hn) Z Z ?_
 rintro _ w2 ⟨⟨ck2,wt2,gn2,ms2,mA2,mC2,os2,oA2,oC2⟩,Lm,Lo,rfl,ha2,ho2,hoo2,hmc2,hoc2,hpc2,hj2⟩
 have hlo2:=H.size
 replace H:=Hp.joinG H hj2 (fun m hm=>(hpc2 m hm).2);clear hj2
 simp only[Gr.a,Gr.mk.injEq]at ha2
 obtain⟨e1,e2,e3,hma,-,-,e4,-,-⟩:=ha2
 obtain rfl:ck=ck2:=e1.symm
 obtain rfl:wt=wt2:=e2.symm
 obtain rfl:gn=gn2:=e3.symm
 obtain rfl:os=os2:=e4.symm
 dsimp only at ho2 hoo2 hmc2 hoc2 hpc2 H
 replace hpc2: ∀ m∈ms2,m.parts.length<=m.cap/\w.heap.size<=m.lo:=fun m hm=>⟨(hpc2 m hm).1,aT hlo2 (hpc2 m hm).2⟩
 have hml2:ms2.length=ms.length:=by have:=congrArg cv hma;simpa using this
 rw[hi]
 refine G (Yu Z)<|G (Xa Z Z)<|G (Xi Z Z)<|G (Xi Z Z)<|bl H 0 (#[J (ck),J (wt),J (gn),.slice mA2 ms2.length mC2,.slice oA2 os.length oC2]) bF Z Z Z Z Z N N fun w3 H=>G (Wi Z)<|G (Wi Z)<|U<|W<|Zb<|W<|Zr<|G (Yi Z)<|G (bX Z Z Z)<|G (Wb Z)<|U<|ZF Z<|W<|Zr<|G (Yi Z)<|G (xD Z Z (by decide))<|G (Wb Z)<|U<|ZT Z<|W<|Zr<|G (Wi Z)<|G (Wi Z)<|U<|Zt ?_
 exact l9 (v:=J 0) (v2:=J 5) Z Z Z ⟨rfl,H.below⟩
theorem Er (g:Gr) (s:ByteArray) (part:Int) (w:World) (h:g.rd 0 w.heap.size w) (hok:lh g=true) (hn:bM s=true) (i:Nat) (t:Mem) (hi:pX g s=i) (ht:g.ms[i]? =some t) (hpt:part∉t.parts):dd aa nP [g.v,.string s,J part] w fun v w2=>v=.tuple #[J 0,J 12]/\Below w.heap.size w w2:=by
 refine aE p6 Z Z ?_
 have hmC:=h.mC
 have hoC:=h.oC
 have hfew:=h.few
 have hfp:=h.fewP
 have H:=Hp.startGr h
 obtain⟨ck,wt,gn,ms,mA,mC,os,oA,oC⟩:=g
 dsimp only at hmC hoC hfew hfp H
 show CW _ _ _ _ (args [.agg #[J (ck),J (wt),J (gn),.slice mA ms.length mC,.slice oA os.length oC],.string (s),J (part)]) w
 obtain⟨⟨⟨k1,k2⟩,k3,k4,⟨k5,k6⟩,k7,k8⟩,⟨hmo,hap⟩,hof,hor⟩:=dx.1 hok
 dsimp only at k1 k2 k3 k4 k5 k6 k7 k8 hmo
 dsimp only at ht
 refine W<|Zr<|fS H Z Z fun w1 b3 H=>G (Wi Z)<|G (Wi Z)<|U<|W<|Zr<|G (Zw aR H 0 Z Z Z)<|G (Yt Z)<|cd gh (mw ⟨ck,wt,gn,ms,mA,mC,os,oA,oC⟩ s _ ⟨H.rd0 0 Z,fun m hm=>y8 H 1 Z hm,H.rd0 2 Z,hmC,hoC,hfew,hfp⟩ hok hn) Z Z ?_
 rintro _ w2 ⟨⟨ck2,wt2,gn2,ms2,mA2,mC2,os2,oA2,oC2⟩,Lm,Lo,rfl,ha2,ho2,hoo2,hmc2,hoc2,hpc2,hj2⟩
 have hlo2:=H.size
 replace H:=Hp.joinG H hj2 (fun m hm=>(hpc2 m hm).2);clear hj2
 simp only[Gr.a,Gr.mk.injEq]at ha2
 obtain⟨e1,e2,e3,hma,-,-,e4,-,-⟩:=ha2
 obtain rfl:ck=ck2:=e1.symm
 obtain rfl:wt=wt2:=e2.symm
 obtain rfl:gn=gn2:=e3.symm
 obtain rfl:os=os2:=e4.symm
 dsimp only at ho2 hoo2 hmc2 hoc2 hpc2 H
 replace hpc2: ∀ m∈ms2,m.parts.length<=m.cap/\w.heap.size<=m.lo:=fun m hm=>⟨(hpc2 m hm).1,aT hlo2 (hpc2 m hm).2⟩
 have hml2:ms2.length=ms.length:=by have:=congrArg cv hma;simpa using this
 rw[hi]
 refine G (Yu Z)<|G (Xa Z Z)<|G (Xi Z Z)<|G (Xi Z Z)<|bl H 0 (#[J (ck),J (wt),J (gn),.slice mA2 ms2.length mC2,.slice oA2 os.length oC2]) bF Z Z Z Z Z N N fun w3 H=>G (Wi Z)<|G (Wi Z)<|U<|W<|Zb<|W<|Zr<|G (Yi Z)<|G (bX Z Z Z)<|G (Wb Z)<|U<|ZF Z<|W<|Zr<|G (Yi Z)<|G (cY Z Z I)<|G (Wb Z)<|U<|ZF Z<|W ?_
 obtain⟨t2,ht2,hta⟩:=zV hma ht
 have hl2:=(cD ht2).1
 obtain⟨g,cur,rfl,rfl,row⟩:=ho2.row I
 have htp:t2.parts=t.parts:=(congrArg Mem.parts hta:t2.a.parts=t.a.parts)
 have hpl:=iG hma hmo t2 (ae ht2)
 have hrp:=lK H (show ng t2∈_ from bW _ (bL (ae ht2)))
 refine Zr<|G (Zf dJ Z)<|G (Zd dt H 0 Z Z Z)<|G (Yi Z)<|G (cC ez Z Z (by first|omega|(simp only[ab];omega)))<|G (Zf iS Z)<|G (bQ cr row ht2 2 Z (H.ent (i:=1) Z) Z)<|G (Yi Z)<|cd fA (lw t2.parts part t2.A t2.cap _ (lK H (show ng t2∈_ from by first|exact bW _ (bL (ae ht2))|simp[ae ht2])) I) Z Z ?_
 rw[htp,decide_eq_false hpt]
 rintro _ w4 ⟨rfl,hb⟩;replace H:=H.later hb;clear hb
 refine G (dO Z)<|G (Wb Z)<|U<|ZT Z<|W<|Zr<|G (Wi Z)<|G (Wi Z)<|U<|Zt ?_
 exact l9 (v:=J 0) (v2:=J 12) Z Z Z ⟨rfl,H.below⟩
theorem J6 (g:Gr) (s:ByteArray) (part:Int) (w:World) (h:g.rd 0 w.heap.size w) (hok:lh g=true) (hn:bM s=true) (i:Nat) (t:Mem) (hi:pX g s=i) (ht:g.ms[i]? =some t) (hpt:part∈t.parts):dd aa nP [g.v,.string s,J part] w fun v w2=>v=.tuple #[J (tp g.os part),J 0]/\Below w.heap.size w w2:=by
 refine aE p6 Z Z ?_
 have hmC:=h.mC
 have hoC:=h.oC
 have hfew:=h.few
 have hfp:=h.fewP
 have H:=Hp.startGr h
 obtain⟨ck,wt,gn,ms,mA,mC,os,oA,oC⟩:=g
 dsimp only at hmC hoC hfew hfp H
 show CW _ _ _ _ (args [.agg #[J (ck),J (wt),J (gn),.slice mA ms.length mC,.slice oA os.length oC],.string (s),J (part)]) w
 obtain⟨⟨⟨k1,k2⟩,k3,k4,⟨k5,k6⟩,k7,k8⟩,⟨hmo,hap⟩,hof,hor⟩:=dx.1 hok
 dsimp only at k1 k2 k3 k4 k5 k6 k7 k8 hmo
 dsimp only at ht
 refine W<|Zr<|fS H Z Z fun w1 b3 H=>G (Wi Z)<|G (Wi Z)<|U<|W<|Zr<|G (Zw aR H 0 Z Z Z)<|G (Yt Z)<|cd gh (mw ⟨ck,wt,gn,ms,mA,mC,os,oA,oC⟩ s _ ⟨H.rd0 0 Z,fun m hm=>y8 H 1 Z hm,H.rd0 2 Z,hmC,hoC,hfew,hfp⟩ hok hn) Z Z ?_
 rintro _ w2 ⟨⟨ck2,wt2,gn2,ms2,mA2,mC2,os2,oA2,oC2⟩,Lm,Lo,rfl,ha2,ho2,hoo2,hmc2,hoc2,hpc2,hj2⟩
 have hlo2:=H.size
 replace H:=Hp.joinG H hj2 (fun m hm=>(hpc2 m hm).2);clear hj2
 simp only[Gr.a,Gr.mk.injEq]at ha2
 obtain⟨e1,e2,e3,hma,-,-,e4,-,-⟩:=ha2
 obtain rfl:ck=ck2:=e1.symm
 obtain rfl:wt=wt2:=e2.symm
 obtain rfl:gn=gn2:=e3.symm
 obtain rfl:os=os2:=e4.symm
 dsimp only at ho2 hoo2 hmc2 hoc2 hpc2 H
 replace hpc2: ∀ m∈ms2,m.parts.length<=m.cap/\w.heap.size<=m.lo:=fun m hm=>⟨(hpc2 m hm).1,aT hlo2 (hpc2 m hm).2⟩
 have hml2:ms2.length=ms.length:=by have:=congrArg cv hma;simpa using this
 rw[hi]
 refine G (Yu Z)<|G (Xa Z Z)<|G (Xi Z Z)<|G (Xi Z Z)<|bl H 0 (#[J (ck),J (wt),J (gn),.slice mA2 ms2.length mC2,.slice oA2 os.length oC2]) bF Z Z Z Z Z N N fun w3 H=>G (Wi Z)<|G (Wi Z)<|U<|W<|Zb<|W<|Zr<|G (Yi Z)<|G (bX Z Z Z)<|G (Wb Z)<|U<|ZF Z<|W<|Zr<|G (Yi Z)<|G (cY Z Z I)<|G (Wb Z)<|U<|ZF Z<|W ?_
 obtain⟨t2,ht2,hta⟩:=zV hma ht
 have hl2:=(cD ht2).1
 obtain⟨g,cur,rfl,rfl,row⟩:=ho2.row I
 have htp:t2.parts=t.parts:=(congrArg Mem.parts hta:t2.a.parts=t.a.parts)
 have hpl:=iG hma hmo t2 (ae ht2)
 have hrp:=lK H (show ng t2∈_ from bW _ (bL (ae ht2)))
 refine Zr<|G (Zf dJ Z)<|G (Zd dt H 0 Z Z Z)<|G (Yi Z)<|G (cC ez Z Z (by first|omega|(simp only[ab];omega)))<|G (Zf iS Z)<|G (bQ cr row ht2 2 Z (H.ent (i:=1) Z) Z)<|G (Yi Z)<|cd fA (lw t2.parts part t2.A t2.cap _ (lK H (show ng t2∈_ from by first|exact bW _ (bL (ae ht2))|simp[ae ht2])) I) Z Z ?_
 rw[htp,decide_eq_true hpt]
 rintro _ w4 ⟨rfl,hb⟩;replace H:=H.later hb;clear hb
 refine G (dO Z)<|G (Wb Z)<|U<|ZF Z<|Zk<|W<|W ?_
 obtain⟨lo3,hi3,H⟩:=Hp.sealO (K:=[(b3,.cells #[J (ck),J (wt),J (gn),.slice (Qd g) ms2.length mC2,.slice oA2 os.length oC2] cM (0,0)),(g,.cells cur db (0,0))]) (M:=[]) (by simpa using H) hoo2
 rw[aY]at H
 refine Zr<|G (Zf dT Z)<|G (Zd ex H 0 Z Z Z)<|G (bn g9 Z)<|G (Yi Z)<|U<|Zb ?_
 refine cf (τ:=Nat) [6,7,11,39,40,41,42,43,44,45,46,47,48,49] (fun k=>[(39,J (k:Nat))]) (fun k w'=>k<=os.length/\(∀ x∈os.take k,x.part≠part)/\Hp w w' [(b3,.cells #[J (ck),J (wt),J (gn),.slice (Qd g) ms2.length mC2,.slice oA2 os.length oC2] cM (0,0)),(g,.cells cur db (0,0))] (dG fR lo3 hi3 oA2 os::([dG jQ 0 w.heap.size mA ms,Io 0 w.heap.size ms,dG fR 0 w.heap.size oA os]++ms2.map ng))) (fun k=>os.length-k) 0 ⟨by omega,by simp,H⟩ (dF Z) ?_
 rintro k ρ1 w5 ⟨hk,hno,H⟩
 show CW _ _ _ _ (dv (gk _ _ ρ1) [(39,J (k:Nat))]) w5
 refine W<|Zr ?_
 refine cR (cG Z Z) Z Z Z (fun h40=> ?_) (fun h40=> ?_)
 obtain⟨o,ho⟩: ∃ o,os[k]? =some o:=⟨_,ah I⟩
 refine U<|W<|ZT Z<|Zk<|W<|Zb<|W<|Zr<|pK H 0 Z cV Z Z I I Z fun bq6 o6 x6 e6=> ?_
 obtain rfl:o=x6:=by have:=e6.at_;rw[ho]at this;exact bB this
 refine G (jd (xs:=mc.c o) AZ Z Z e6.cl)<|eC H k9 Z fun w7 b11 H=>bl H 0 (#[J (o.part),J (o.at_)]) zB Z Z Z Z Z N N fun w8 H=>U<|W<|Zr<|G (Zf jl Z)<|G (Zd aj H 0 Z Z Z)<|G (Yi Z) ?_
 refine cR (bh Z Z) Z Z Z (fun h46=> ?_) (fun h46=> ?_)
 refine U<|ZT Z<|W<|Zr<|G (Zf ot Z)<|G (Zd aj H 0 Z Z Z)<|G (Wi Z)<|G (Wi Z)<|U<|Zt ?_
 exact l9 (v:=J o.at_) (v2:=J 0) Z Z Z ⟨by rw[Is ho h46 hno],H.below⟩
 refine U<|ZF Z<|Zk<|Zr<|G (bp Z Z I I)<|G (Yi Z)<|U ?_
 exact⟨k+1,⟨by omega,by rw[eL ho];intro x hx;rcases ar.1 hx with hx|hx;exact hno x hx;rw[aq.1 hx];exact h46,H.forget (.cons _ (ap _)) (fun _ h=>h)⟩,dF Z,Qg,by show os.length- (k+1)<os.length-k;omega⟩
 refine U<|W<|ZF Z<|Zx<|W<|Zr<|G (Wi Z)<|G (Wi Z)<|U<|Zt ?_
 rw[show k=os.length by omega,bV]at hno
 exact l9 (v:=J 0) (v2:=J 0) Z Z Z ⟨by rw[Gb hno],H.below⟩
theorem Gh (g:Gr) (s:ByteArray) (gn_ part at_:Int) (w:World) (h:g.rd 0 w.heap.size w) (hok:lh g=true) (hn:bM s=true) (hi:pX g s= -1):dd aa jM [g.v,.string s,J gn_,J part,J at_] w fun v w2=>v=.tuple #[.agg #[J 0,J 0,J 0,.slice none 0 0,.slice none 0 0],J 5]/\Below w.heap.size w w2:=by
 refine aE kf Z Z ?_
 have hmC:=h.mC
 have hoC:=h.oC
 have hfew:=h.few
 have hfp:=h.fewP
 have H:=Hp.startGr h
 obtain⟨ck,wt,gn,ms,mA,mC,os,oA,oC⟩:=g
 dsimp only at hmC hoC hfew hfp H
 show CW _ _ _ _ (args [.agg #[J (ck),J (wt),J (gn),.slice mA ms.length mC,.slice oA os.length oC],.string (s),J (gn_),J (part),J (at_)]) w
 obtain⟨⟨⟨k1,k2⟩,k3,k4,⟨k5,k6⟩,k7,k8⟩,⟨hmo,hap⟩,hof,hor⟩:=dx.1 hok
 dsimp only at k1 k2 k3 k4 k5 k6 k7 k8 hmo
 refine W<|Zr<|fS H Z Z fun w1 b5 H=>eC H dZ Z fun w2 b10 H=>G (Wi Z)<|U<|W<|Zr<|G (Zw aR H 1 Z Z Z)<|G (Yt Z)<|G (Yi Z)<|cd hZ (CE ⟨ck,wt,gn,ms,mA,mC,os,oA,oC⟩ s gn_ _ ⟨H.rd0 0 Z,fun m hm=>y8 H 1 Z hm,H.rd0 2 Z,hmC,hoC,hfew,hfp⟩ hok hn hi) Z Z ?_
 rintro _ w3 ⟨rfl,hb⟩;replace H:=H.later hb;clear hb
 refine G (Yu Z)<|G (Xa Z Z)<|G (Xi Z Z)<|G (Xi Z Z)<|bl H 1 (#[J (0),J (0),J (0),.slice none 0 0,.slice none 0 0]) bF Z Z Z Z Z N N fun w4 H=>G (Wi Z)<|G (Wi Z)<|U<|W<|Zb<|W<|Zr<|G (Yi Z)<|G (j9 Z Z (by decide))<|G (Wb Z)<|U<|ZT Z<|W<|Zr<|G (bj (cs:= #[J (0),J (0),J (0),.slice none 0 0,.slice none 0 0]) j4 dZ N)<|G (Yi Z)<|bl H 0 (#[J (0),J (0),J (0),.slice none 0 0,.slice none 0 0]) bF Z Z Z Z Z N N fun w5 H=>G (Wi Z)<|U<|Zt ?_
 exact bG (cs0:= #[J 0,J 0,J 0,.slice none 0 0,.slice none 0 0]) (v1:=J 5) Z aR Z (H.ent (i:=0) Z) Z Z ⟨rfl,H.below⟩
theorem EC (g:Gr) (s:ByteArray) (gn_ part at_:Int) (w:World) (h:g.rd 0 w.heap.size w) (hok:lh g=true) (hn:bM s=true) (i:Nat) (hi:pX g s=i) (hg:g.gen≠gn_):dd aa jM [g.v,.string s,J gn_,J part,J at_] w fun v w2=>v=.tuple #[.agg #[J 0,J 0,J 0,.slice none 0 0,.slice none 0 0],J 10]/\Below w.heap.size w w2:=by
 refine aE kf Z Z ?_
 have hmC:=h.mC
 have hoC:=h.oC
 have hfew:=h.few
 have hfp:=h.fewP
 have H:=Hp.startGr h
 obtain⟨ck,wt,gn,ms,mA,mC,os,oA,oC⟩:=g
 dsimp only at hmC hoC hfew hfp H
 show CW _ _ _ _ (args [.agg #[J (ck),J (wt),J (gn),.slice mA ms.length mC,.slice oA os.length oC],.string (s),J (gn_),J (part),J (at_)]) w
 obtain⟨⟨⟨k1,k2⟩,k3,k4,⟨k5,k6⟩,k7,k8⟩,⟨hmo,hap⟩,hof,hor⟩:=dx.1 hok
 dsimp only at k1 k2 k3 k4 k5 k6 k7 k8 hmo
 refine W<|Zr<|fS H Z Z fun w1 b5 H=>eC H dZ Z fun w2 b10 H=>G (Wi Z)<|U<|W<|Zr<|G (Zw aR H 1 Z Z Z)<|G (Yt Z)<|G (Yi Z)<|cd hZ (Ap ⟨ck,wt,gn,ms,mA,mC,os,oA,oC⟩ s gn_ _ ⟨H.rd0 0 Z,fun m hm=>y8 H 1 Z hm,H.rd0 2 Z,hmC,hoC,hfew,hfp⟩ hok hn i hi hg) Z Z ?_
 rintro _ w3 ⟨rfl,hb⟩;replace H:=H.later hb;clear hb
 refine G (Yu Z)<|G (Xa Z Z)<|G (Xi Z Z)<|G (Xi Z Z)<|bl H 1 (#[J (0),J (0),J (0),.slice none 0 0,.slice none 0 0]) bF Z Z Z Z Z N N fun w4 H=>G (Wi Z)<|G (Wi Z)<|U<|W<|Zb<|W<|Zr<|G (Yi Z)<|G (j9 Z Z (by decide))<|G (Wb Z)<|U<|ZT Z<|W<|Zr<|G (bj (cs:= #[J (0),J (0),J (0),.slice none 0 0,.slice none 0 0]) j4 dZ N)<|G (Yi Z)<|bl H 0 (#[J (0),J (0),J (0),.slice none 0 0,.slice none 0 0]) bF Z Z Z Z Z N N fun w5 H=>G (Wi Z)<|U<|Zt ?_
 exact bG (cs0:= #[J 0,J 0,J 0,.slice none 0 0,.slice none 0 0]) (v1:=J 10) Z aR Z (H.ent (i:=0) Z) Z Z ⟨rfl,H.below⟩
theorem EB (g:Gr) (s:ByteArray) (gn_ part at_:Int) (w:World) (h:g.rd 0 w.heap.size w) (hok:lh g=true) (hn:bM s=true) (i:Nat) (hi:pX g s=i) (hg:g.gen=gn_) (hat:400<at_):dd aa jM [g.v,.string s,J gn_,J part,J at_] w fun v w2=>v=.tuple #[.agg #[J 0,J 0,J 0,.slice none 0 0,.slice none 0 0],J 2]/\Below w.heap.size w w2:=by
 refine aE kf Z Z ?_
 have hmC:=h.mC
 have hoC:=h.oC
 have hfew:=h.few
 have hfp:=h.fewP
 have H:=Hp.startGr h
 obtain⟨ck,wt,gn,ms,mA,mC,os,oA,oC⟩:=g
 dsimp only at hmC hoC hfew hfp H
 show CW _ _ _ _ (args [.agg #[J (ck),J (wt),J (gn),.slice mA ms.length mC,.slice oA os.length oC],.string (s),J (gn_),J (part),J (at_)]) w
 obtain⟨⟨⟨k1,k2⟩,k3,k4,⟨k5,k6⟩,k7,k8⟩,⟨hmo,hap⟩,hof,hor⟩:=dx.1 hok
 dsimp only at k1 k2 k3 k4 k5 k6 k7 k8 hmo
 refine W<|Zr<|fS H Z Z fun w1 b5 H=>eC H dZ Z fun w2 b10 H=>G (Wi Z)<|U<|W<|Zr<|G (Zw aR H 1 Z Z Z)<|G (Yt Z)<|G (Yi Z)<|cd hZ (zc ⟨ck,wt,gn,ms,mA,mC,os,oA,oC⟩ s gn_ _ ⟨H.rd0 0 Z,fun m hm=>y8 H 1 Z hm,H.rd0 2 Z,hmC,hoC,hfew,hfp⟩ hok hn i hi hg) Z Z ?_
 rintro _ w3 ⟨⟨ck2,wt2,gn2,ms2,mA2,mC2,os2,oA2,oC2⟩,Lm,Lo,rfl,ha2,ho2,hoo2,hmc2,hoc2,hpc2,hj2⟩
 have hlo2:=H.size
 replace H:=Hp.joinG H hj2 (fun m hm=>(hpc2 m hm).2);clear hj2
 simp only[Gr.a,Gr.mk.injEq]at ha2
 obtain⟨e1,e2,e3,hma,-,-,e4,-,-⟩:=ha2
 obtain rfl:ck=ck2:=e1.symm
 obtain rfl:wt=wt2:=e2.symm
 obtain rfl:gn=gn2:=e3.symm
 obtain rfl:os=os2:=e4.symm
 dsimp only at ho2 hoo2 hmc2 hoc2 hpc2 H
 replace hpc2: ∀ m∈ms2,m.parts.length<=m.cap/\w.heap.size<=m.lo:=fun m hm=>⟨(hpc2 m hm).1,aT hlo2 (hpc2 m hm).2⟩
 have hml2:ms2.length=ms.length:=by have:=congrArg cv hma;simpa using this
 refine G (Yu Z)<|G (Xa Z Z)<|G (Xi Z Z)<|G (Xi Z Z)<|bl H 1 (#[J (ck),J (wt),J (gn),.slice mA2 ms2.length mC2,.slice oA2 os.length oC2]) bF Z Z Z Z Z N N fun w4 H=>G (Wi Z)<|G (Wi Z)<|U<|W<|Zb<|W<|Zr<|G (Yi Z)<|G (bX Z Z Z)<|G (Wb Z)<|U<|ZF Z<|W<|Zr<|G (Yi Z)<|G (cY Z Z I)<|G (Yb Z)<|ZG<|G (Yi Z)<|ZG<|G (G4 Z Z I)<|G (N Z Z)<|G (Wb Z)<|U<|ZT Z<|W<|Zr<|G (bj (cs:= #[J (0),J (0),J (0),.slice none 0 0,.slice none 0 0]) j4 dZ N)<|bl H 0 (#[J (0),J (0),J (0),.slice none 0 0,.slice none 0 0]) bF Z Z Z Z Z N N fun w5 H=>G (Wi Z)<|U<|Zt ?_
 exact bG (cs0:= #[J 0,J 0,J 0,.slice none 0 0,.slice none 0 0]) (v1:=J 2) Z aR Z (H.ent (i:=0) Z) Z Z ⟨rfl,H.below⟩
theorem EA (g:Gr) (s:ByteArray) (gn_ part at_:Int) (w:World) (h:g.rd 0 w.heap.size w) (hok:lh g=true) (hn:bM s=true) (i:Nat) (t:Mem) (hi:pX g s=i) (ht:g.ms[i]? =some t) (hg:g.gen=gn_) (hat0:0<=at_) (hat:at_<=400) (hpt:part∉t.parts):dd aa jM [g.v,.string s,J gn_,J part,J at_] w fun v w2=>v=.tuple #[.agg #[J 0,J 0,J 0,.slice none 0 0,.slice none 0 0],J 12]/\Below w.heap.size w w2:=by
 refine aE kf Z Z ?_
 have hmC:=h.mC
 have hoC:=h.oC
 have hfew:=h.few
 have hfp:=h.fewP
 have H:=Hp.startGr h
 obtain⟨ck,wt,gn,ms,mA,mC,os,oA,oC⟩:=g
 dsimp only at hmC hoC hfew hfp H
 show CW _ _ _ _ (args [.agg #[J (ck),J (wt),J (gn),.slice mA ms.length mC,.slice oA os.length oC],.string (s),J (gn_),J (part),J (at_)]) w
 obtain⟨⟨⟨k1,k2⟩,k3,k4,⟨k5,k6⟩,k7,k8⟩,⟨hmo,hap⟩,hof,hor⟩:=dx.1 hok
 dsimp only at k1 k2 k3 k4 k5 k6 k7 k8 hmo
 dsimp only at ht
 refine W<|Zr<|fS H Z Z fun w1 b5 H=>eC H dZ Z fun w2 b10 H=>G (Wi Z)<|U<|W<|Zr<|G (Zw aR H 1 Z Z Z)<|G (Yt Z)<|G (Yi Z)<|cd hZ (zc ⟨ck,wt,gn,ms,mA,mC,os,oA,oC⟩ s gn_ _ ⟨H.rd0 0 Z,fun m hm=>y8 H 1 Z hm,H.rd0 2 Z,hmC,hoC,hfew,hfp⟩ hok hn i hi hg) Z Z ?_
 rintro _ w3 ⟨⟨ck2,wt2,gn2,ms2,mA2,mC2,os2,oA2,oC2⟩,Lm,Lo,rfl,ha2,ho2,hoo2,hmc2,hoc2,hpc2,hj2⟩
 have hlo2:=H.size
 replace H:=Hp.joinG H hj2 (fun m hm=>(hpc2 m hm).2);clear hj2
 simp only[Gr.a,Gr.mk.injEq]at ha2
 obtain⟨e1,e2,e3,hma,-,-,e4,-,-⟩:=ha2
 obtain rfl:ck=ck2:=e1.symm
 obtain rfl:wt=wt2:=e2.symm
 obtain rfl:gn=gn2:=e3.symm
 obtain rfl:os=os2:=e4.symm
 dsimp only at ho2 hoo2 hmc2 hoc2 hpc2 H
 replace hpc2: ∀ m∈ms2,m.parts.length<=m.cap/\w.heap.size<=m.lo:=fun m hm=>⟨(hpc2 m hm).1,aT hlo2 (hpc2 m hm).2⟩
 have hml2:ms2.length=ms.length:=by have:=congrArg cv hma;simpa using this
 refine G (Yu Z)<|G (Xa Z Z)<|G (Xi Z Z)<|G (Xi Z Z)<|bl H 1 (#[J (ck),J (wt),J (gn),.slice mA2 ms2.length mC2,.slice oA2 os.length oC2]) bF Z Z Z Z Z N N fun w4 H=>G (Wi Z)<|G (Wi Z)<|U<|W<|Zb<|W<|Zr<|G (Yi Z)<|G (bX Z Z Z)<|G (Wb Z)<|U<|ZF Z<|W<|Zr<|G (Yi Z)<|G (cY Z Z I)<|G (Yb Z)<|ZG<|G (Yi Z)<|ZG<|G (er Z Z I)<|G (N Z Z)<|G (Wb Z)<|U<|ZF Z<|W ?_
 obtain⟨t2,ht2,hta⟩:=zV hma ht
 have hl2:=(cD ht2).1
 obtain⟨g,cur,rfl,rfl,row⟩:=ho2.row I
 have htp:t2.parts=t.parts:=(congrArg Mem.parts hta:t2.a.parts=t.a.parts)
 have hpl:=iG hma hmo t2 (ae ht2)
 have hrp:=lK H (show ng t2∈_ from bW _ (bL (ae ht2)))
 refine Zr<|G (Zf dJ Z)<|G (Zd dt H 1 Z Z Z)<|G (Yi Z)<|G (cC ez Z Z (by first|omega|(simp only[ab];omega)))<|G (Zf iS Z)<|G (bQ cr row ht2 2 Z (H.ent (i:=2) Z) Z)<|G (Yi Z)<|cd fA (lw t2.parts part t2.A t2.cap _ (lK H (show ng t2∈_ from by first|exact bW _ (bL (ae ht2))|simp[ae ht2])) I) Z Z ?_
 rw[htp,decide_eq_false hpt]
 rintro _ w5 ⟨rfl,hb⟩;replace H:=H.later hb;clear hb
 refine G (dO Z)<|G (Wb Z)<|U<|ZT Z<|W<|Zr<|G (bj (cs:= #[J (0),J (0),J (0),.slice none 0 0,.slice none 0 0]) j4 dZ N)<|bl H 0 (#[J (0),J (0),J (0),.slice none 0 0,.slice none 0 0]) bF Z Z Z Z Z N N fun w6 H=>G (Wi Z)<|U<|Zt ?_
 exact bG (cs0:= #[J 0,J 0,J 0,.slice none 0 0,.slice none 0 0]) (v1:=J 12) Z aR Z (H.ent (i:=0) Z) Z Z ⟨rfl,H.below⟩
theorem Kg (g:Gr) (s:ByteArray) (gn_ part at_:Int) (w:World) (h:g.rd 0 w.heap.size w) (hok:lh g=true) (hn:bM s=true) (i:Nat) (t:Mem) (hi:pX g s=i) (ht:g.ms[i]? =some t) (hg:g.gen=gn_) (hat0:0<=at_) (hat:at_<=400) (hpt:part∈t.parts):dd aa jM [g.v,.string s,J gn_,J part,J at_] w fun v w2=> ∃ g':Gr,v=.tuple #[g'.v,J 0]/\g'.a={g.a with os:=gN g.os part at_}/\yE w w2 g':=by
 refine aE kf Z Z ?_
 have hmC:=h.mC
 have hoC:=h.oC
 have hfew:=h.few
 have hfp:=h.fewP
 have H:=Hp.startGr h
 obtain⟨ck,wt,gn,ms,mA,mC,os,oA,oC⟩:=g
 dsimp only at hmC hoC hfew hfp H
 show CW _ _ _ _ (args [.agg #[J (ck),J (wt),J (gn),.slice mA ms.length mC,.slice oA os.length oC],.string (s),J (gn_),J (part),J (at_)]) w
 obtain⟨⟨⟨k1,k2⟩,k3,k4,⟨k5,k6⟩,k7,k8⟩,⟨hmo,hap⟩,hof,hor⟩:=dx.1 hok
 dsimp only at k1 k2 k3 k4 k5 k6 k7 k8 hmo
 dsimp only at ht
 refine W<|Zr<|fS H Z Z fun w1 b5 H=>eC H dZ Z fun w2 b10 H=>G (Wi Z)<|U<|W<|Zr<|G (Zw aR H 1 Z Z Z)<|G (Yt Z)<|G (Yi Z)<|cd hZ (zc ⟨ck,wt,gn,ms,mA,mC,os,oA,oC⟩ s gn_ _ ⟨H.rd0 0 Z,fun m hm=>y8 H 1 Z hm,H.rd0 2 Z,hmC,hoC,hfew,hfp⟩ hok hn i hi hg) Z Z ?_
 rintro _ w3 ⟨⟨ck2,wt2,gn2,ms2,mA2,mC2,os2,oA2,oC2⟩,Lm,Lo,rfl,ha2,ho2,hoo2,hmc2,hoc2,hpc2,hj2⟩
 have hlo2:=H.size
 replace H:=Hp.joinG H hj2 (fun m hm=>(hpc2 m hm).2);clear hj2
 simp only[Gr.a,Gr.mk.injEq]at ha2
 obtain⟨e1,e2,e3,hma,-,-,e4,-,-⟩:=ha2
 obtain rfl:ck=ck2:=e1.symm
 obtain rfl:wt=wt2:=e2.symm
 obtain rfl:gn=gn2:=e3.symm
 obtain rfl:os=os2:=e4.symm
 dsimp only at ho2 hoo2 hmc2 hoc2 hpc2 H
 replace hpc2: ∀ m∈ms2,m.parts.length<=m.cap/\w.heap.size<=m.lo:=fun m hm=>⟨(hpc2 m hm).1,aT hlo2 (hpc2 m hm).2⟩
 have hml2:ms2.length=ms.length:=by have:=congrArg cv hma;simpa using this
 refine G (Yu Z)<|G (Xa Z Z)<|G (Xi Z Z)<|G (Xi Z Z)<|bl H 1 (#[J (ck),J (wt),J (gn),.slice mA2 ms2.length mC2,.slice oA2 os.length oC2]) bF Z Z Z Z Z N N fun w4 H=>G (Wi Z)<|G (Wi Z)<|U<|W<|Zb<|W<|Zr<|G (Yi Z)<|G (bX Z Z Z)<|G (Wb Z)<|U<|ZF Z<|W<|Zr<|G (Yi Z)<|G (cY Z Z I)<|G (Yb Z)<|ZG<|G (Yi Z)<|ZG<|G (er Z Z I)<|G (N Z Z)<|G (Wb Z)<|U<|ZF Z<|W ?_
 obtain⟨t2,ht2,hta⟩:=zV hma ht
 have hl2:=(cD ht2).1
 obtain⟨g,cur,rfl,rfl,row⟩:=ho2.row I
 have htp:t2.parts=t.parts:=(congrArg Mem.parts hta:t2.a.parts=t.a.parts)
 have hpl:=iG hma hmo t2 (ae ht2)
 have hrp:=lK H (show ng t2∈_ from bW _ (bL (ae ht2)))
 refine Zr<|G (Zf dJ Z)<|G (Zd dt H 1 Z Z Z)<|G (Yi Z)<|G (cC ez Z Z (by first|omega|(simp only[ab];omega)))<|G (Zf iS Z)<|G (bQ cr row ht2 2 Z (H.ent (i:=2) Z) Z)<|G (Yi Z)<|cd fA (lw t2.parts part t2.A t2.cap _ (lK H (show ng t2∈_ from by first|exact bW _ (bL (ae ht2))|simp[ae ht2])) I) Z Z ?_
 rw[htp,decide_eq_true hpt]
 rintro _ w5 ⟨rfl,hb⟩;replace H:=H.later hb;clear hb
 refine G (dO Z)<|G (Wb Z)<|U<|ZF Z<|Zk<|W<|Zr<|G (Wi Z)<|U<|W<|Zb ?_
 refine cf (τ:=Nat) [14,47,48,49,50,51,52,53,54,55,56,57,58,59,60,61,62,63] (fun k=>[(14,J (k:Nat))]) (fun k w'=>k<=os.length/\(∀ x∈os.take k,x.part<part)/\Hp w w' ([(b10,.cells #[J 0,J 0,J 0,.slice none 0 0,.slice none 0 0] cM (0,0)),(b5,.cells #[J (ck),J (wt),J (gn),.slice (Qd g) ms2.length mC2,.slice oA2 os.length oC2] cM (0,0)),(g,.cells cur db (0,0))]++Lo) ([dG jQ 0 w.heap.size mA ms,Io 0 w.heap.size ms,dG fR 0 w.heap.size oA os]++ms2.map ng)) (fun k=>os.length-k) 0 ⟨by omega,by simp,H⟩ (dF Z) ?_
 rintro k ρ1 w6 ⟨hk,hwh,H⟩
 show CW _ _ _ _ (dv (gk _ _ ρ1) [(14,J (k:Nat))]) w6
 refine W<|W<|Zr<|G (Yi Z)<|G (Zf dT Z)<|G (Zd ex H 1 Z Z Z)<|G (bn g9 Z) ?_
 refine cR (cG Z Z) Z Z Z (fun h51=> ?_) (fun h51=> ?_)
 obtain⟨g2,cur2,rfl,rfl,row2⟩:=hoo2.row I
 obtain⟨o,ho⟩: ∃ o,os[k]? =some o:=⟨_,ah I⟩
 refine G (Yb Z)<|ZG<|G (Zf dT Z)<|ZG<|G (Zd ex H 1 Z Z Z)<|ZG<|G (Yi Z)<|ZG<|G (cC cV Z Z (by first|omega|(simp only[ab];omega)))<|ZG<|G (Zf jl Z)<|ZG<|G (bQ aj row2 ho 0 Z (H.ent (i:=3) Z) Z)<|ZG<|G (Yi Z)<|ZG ?_
 refine cR (cG Z Z) Z Z Z (fun h60=> ?_) (fun h60=> ?_)
 refine G (Kt Z Z)<|U<|ZT Z<|Zk<|Zb<|Zr<|G (Yi Z)<|G (bp Z Z I I)<|G (Wi Z)<|U ?_
 exact⟨k+1,⟨by omega,by rw[eL ho];intro x hx;rcases ar.1 hx with hx|hx;exact hwh x hx;rw[aq.1 hx];exact h60,H⟩,dF Z,Qg,by show os.length- (k+1)<os.length-k;omega⟩
 refine G (Kt Z Z)<|U<|ZF Z<|Zx<|W<|W ?_
 have hkl:mp os part=k:=zq (fun x hx=>by simpa using hwh x hx) (fun x hx=>by rw[ho]at hx;injection hx with hx;subst hx;simpa using h60) hk
 refine Zr<|G (Yi Z)<|G (Zf dT Z)<|G (Zd ex H 1 Z Z Z)<|G (bn g9 Z) ?_
 refine cR (cG Z Z) Z Z Z (fun h68=> ?_) (fun h68=> ?_)
 refine G (Yb Z)<|ZG<|G (Zf dT Z)<|ZG<|G (Zd ex H 1 Z Z Z)<|ZG<|G (Yi Z)<|ZG<|G (cC cV Z Z (by first|omega|(simp only[ab];omega)))<|ZG<|G (Zf jl Z)<|ZG<|G (bQ aj row2 ho 0 Z (H.ent (i:=3) Z) Z)<|ZG<|G (Yi Z)<|ZG ?_
 refine cR (bh Z Z) Z Z Z (fun h77=> ?_) (fun h77=> ?_)
 refine G (Kt Z Z)<|U<|ZT Z ?_
 have hput:gN os part at_=os.set k {o with at_:=at_}:=by unfold gN;rw[hkl,ho];rw[if_pos (show Option.map mc.part (some o)=some part from congrArg some h77)];subst h77;rfl
 refine Zr<|G (Zf dT Z)<|G (Zd ex H 1 Z Z Z)<|G (Yi Z)<|G (Yi Z)<|G (cC cV Z Z (by first|omega|(simp only[ab];omega)))<|G (Zf ot Z)<|kQ H 3 ({o with at_:=at_}) bI row2 ho 1 Z Z Z Z Z Z N fun w8 cur7 row7 H=> ?_
 have hs9:(os.set k ({o with at_:=at_}))[k]? =some ({o with at_:=at_}):=am (cD ho).1
 refine U<|W<|Zr<|G (Zw aR H 1 Z Z Z)<|bl H 0 (#[J (ck),J (wt),J (gn),.slice (Qd g) ms2.length mC2,.slice (Qd g2) os.length oC2]) bF Z Z Z Z Z N N fun w10 H=>G (Wi Z)<|U<|Zt ?_
 exact bG (cs0:= #[J (ck),J (wt),J (gn),.slice (Qd g) ms2.length mC2,.slice (Qd g2) os.length oC2]) (v1:=J 0) Z aR Z (H.ent (i:=0) Z) Z Z ⟨⟨ck,wt,gn,ms2,some ⟨g,0,none⟩,mC2,os.set k {o with at_:=at_},some ⟨g2,0,none⟩,oC2⟩,by unfold Gr.v Gr.c;dsimp only;rw[ab],by unfold Gr.a;dsimp only;rw[hma];show _=({Gr.a ⟨ck,wt,gn,ms,mA,mC,os,oA,oC⟩with os:=gN os part at_}:Gr);rw[hput];rfl,qN.new (ga:=Gr.a ⟨ck,wt,gn,ms2,some ⟨g,0,none⟩,mC2,os.set k {o with at_:=at_},some ⟨g2,0,none⟩,oC2⟩) ⟨rfl,dU.own row,by dsimp only;rw[ab];have hO:=dU.own (g:=g2) (e:=d8) row7;rw[ab]at hO;exact hO,hmc2,by dsimp only;rw[ab];exact hoc2,hpc2,H.forget (.cons _ (.cons _ (ap _))) (fun f hf=>by simp only[av,ar];grind)⟩ (by dsimp only;omega) (by dsimp only;rw[<-hput];have:=m9 os part at_;omega) (iG hma hmo)⟩
 refine G (Kt Z Z)<|U<|ZF Z ?_
 have hput:gN os part at_=os.take k++[⟨part,at_⟩]++os.drop k:=by unfold gN;rw[hkl];rw[if_neg (by rw[ho];intro hx;exact h77 (bB hx))]
 refine Zr<|G (Zf dT Z)<|G (Zd ex H 1 Z Z Z)<|G (Yi Z)<|G (Yi Z)<|G (Yi Z)<|G (bj (cs:= #[J (part),J (at_)]) uh k9 N)<|sY (vs:=[.agg #[J (part),J (at_)]]) H cV k9 Z Z Z Z Z Z fun w11 b91 H=>cd eY (jv (K:=[(b10,.cells #[J (0),J (0),J (0),.slice none 0 0,.slice none 0 0] cM (0,0)),(b5,.cells #[J (ck),J (wt),J (gn),.slice (Qd g) ms2.length mC2,.slice (Qd g2) os.length oC2] cM (0,0)),(g,.cells cur db (0,0))]) (Lt:=[(g2,.cells cur2 d8 (0,0))]) (M:=[]) (x:=⟨part,at_⟩) (i:=k) (by rw[aY];exact H) hoo2 I I) Z Z ?_
 rintro _ w12 ⟨A9,c9,L9,rfl,ho9,HI⟩
 replace H:Hp w w12 ([(b91,.cells #[J (part),J (at_)] d8 (0,0)),(b10,.cells #[J (0),J (0),J (0),.slice none 0 0,.slice none 0 0] cM (0,0)),(b5,.cells #[J (ck),J (wt),J (gn),.slice (Qd g) ms2.length mC2,.slice (Qd g2) os.length oC2] cM (0,0)),(g,.cells cur db (0,0))]++L9) ([dG jQ 0 w.heap.size mA ms,Io 0 w.heap.size ms,dG fR 0 w.heap.size oA os]++ms2.map ng):=by rw[aY]at HI;exact HI
 clear HI
 have hc9:(os.take k++[(⟨part,at_⟩:mc)]++os.drop k).length<=c9:=by obtain⟨_,_,e,h,_⟩:=ho9.form;injection e with _ _ e;rw[e];exact h
 refine G (Zf dT Z)<|bl H 2 (#[J (ck),J (wt),J (gn),.slice (Qd g) ms2.length mC2,.slice A9 ((os.take k++[(⟨part,at_⟩:mc)]++os.drop k).length) c9]) nX Z Z Z Z Z N N fun w13 H=>U<|W<|Zr<|G (Zw aR H 2 Z Z Z)<|bl H 1 (#[J (ck),J (wt),J (gn),.slice (Qd g) ms2.length mC2,.slice A9 ((os.take k++[(⟨part,at_⟩:mc)]++os.drop k).length) c9]) bF Z Z Z Z Z N N fun w14 H=>G (Wi Z)<|U<|Zt ?_
 exact bG (cs0:= #[J (ck),J (wt),J (gn),.slice (Qd g) ms2.length mC2,.slice A9 (((os.take k++[(⟨part,at_⟩:mc)]++os.drop k)).length) c9]) (v1:=J 0) Z aR Z (H.ent (i:=1) Z) Z Z ⟨⟨ck,wt,gn,ms2,some ⟨g,0,none⟩,mC2,os.take k++[(⟨part,at_⟩:mc)]++os.drop k,A9,c9⟩,rfl,by unfold Gr.a;dsimp only;rw[hma];show _=({Gr.a ⟨ck,wt,gn,ms,mA,mC,os,oA,oC⟩with os:=gN os part at_}:Gr);rw[hput];rfl,qN.new (ga:=Gr.a ⟨ck,wt,gn,ms2,some ⟨g,0,none⟩,mC2,os.take k++[(⟨part,at_⟩:mc)]++os.drop k,A9,c9⟩) ⟨rfl,dU.own row,ho9,hmc2,hc9,hpc2,H.forget (.cons _ (.cons _ (.cons _ (ap _)))) (fun f hf=>by simp only[av,ar];grind)⟩ (by dsimp only;omega) (by dsimp only;rw[<-hput];have:=m9 os part at_;omega) (iG hma hmo)⟩
 refine G (Yb Z)<|ZN<|ZN<|ZN<|ZN<|ZN<|ZN<|ZN<|ZN<|G (N Z Z)<|U<|ZF Z ?_
 have hput:gN os part at_=os.take k++[⟨part,at_⟩]++os.drop k:=by unfold gN;rw[hkl];rw[if_neg (by rw[cJ I];simp)]
 refine Zr<|G (Zf dT Z)<|G (Zd ex H 1 Z Z Z)<|G (Yi Z)<|G (Yi Z)<|G (Yi Z)<|G (bj (cs:= #[J (part),J (at_)]) uh k9 N)<|sY (vs:=[.agg #[J (part),J (at_)]]) H cV k9 Z Z Z Z Z Z fun w15 b91 H=>cd eY (jv (K:=[(b10,.cells #[J (0),J (0),J (0),.slice none 0 0,.slice none 0 0] cM (0,0)),(b5,.cells #[J (ck),J (wt),J (gn),.slice (Qd g) ms2.length mC2,.slice (Qd g2) os.length oC2] cM (0,0)),(g,.cells cur db (0,0))]) (Lt:=[(g2,.cells cur2 d8 (0,0))]) (M:=[]) (x:=⟨part,at_⟩) (i:=k) (by rw[aY];exact H) hoo2 I I) Z Z ?_
 rintro _ w16 ⟨A9,c9,L9,rfl,ho9,HI⟩
 replace H:Hp w w16 ([(b91,.cells #[J (part),J (at_)] d8 (0,0)),(b10,.cells #[J (0),J (0),J (0),.slice none 0 0,.slice none 0 0] cM (0,0)),(b5,.cells #[J (ck),J (wt),J (gn),.slice (Qd g) ms2.length mC2,.slice (Qd g2) os.length oC2] cM (0,0)),(g,.cells cur db (0,0))]++L9) ([dG jQ 0 w.heap.size mA ms,Io 0 w.heap.size ms,dG fR 0 w.heap.size oA os]++ms2.map ng):=by rw[aY]at HI;exact HI
 clear HI
 have hc9:(os.take k++[(⟨part,at_⟩:mc)]++os.drop k).length<=c9:=by obtain⟨_,_,e,h,_⟩:=ho9.form;injection e with _ _ e;rw[e];exact h
 refine G (Zf dT Z)<|bl H 2 (#[J (ck),J (wt),J (gn),.slice (Qd g) ms2.length mC2,.slice A9 ((os.take k++[(⟨part,at_⟩:mc)]++os.drop k).length) c9]) nX Z Z Z Z Z N N fun w17 H=>U<|W<|Zr<|G (Zw aR H 2 Z Z Z)<|bl H 1 (#[J (ck),J (wt),J (gn),.slice (Qd g) ms2.length mC2,.slice A9 ((os.take k++[(⟨part,at_⟩:mc)]++os.drop k).length) c9]) bF Z Z Z Z Z N N fun w18 H=>G (Wi Z)<|U<|Zt ?_
 exact bG (cs0:= #[J (ck),J (wt),J (gn),.slice (Qd g) ms2.length mC2,.slice A9 (((os.take k++[(⟨part,at_⟩:mc)]++os.drop k)).length) c9]) (v1:=J 0) Z aR Z (H.ent (i:=1) Z) Z Z ⟨⟨ck,wt,gn,ms2,some ⟨g,0,none⟩,mC2,os.take k++[(⟨part,at_⟩:mc)]++os.drop k,A9,c9⟩,rfl,by unfold Gr.a;dsimp only;rw[hma];show _=({Gr.a ⟨ck,wt,gn,ms,mA,mC,os,oA,oC⟩with os:=gN os part at_}:Gr);rw[hput];rfl,qN.new (ga:=Gr.a ⟨ck,wt,gn,ms2,some ⟨g,0,none⟩,mC2,os.take k++[(⟨part,at_⟩:mc)]++os.drop k,A9,c9⟩) ⟨rfl,dU.own row,ho9,hmc2,hc9,hpc2,H.forget (.cons _ (.cons _ (.cons _ (ap _)))) (fun f hf=>by simp only[av,ar];grind)⟩ (by dsimp only;omega) (by dsimp only;rw[<-hput];have:=m9 os part at_;omega) (iG hma hmo)⟩
 refine G (Yb Z)<|ZN<|ZN<|ZN<|ZN<|ZN<|ZN<|ZN<|ZN<|G (N Z Z)<|U<|ZF Z<|Zx<|W<|W ?_
 have hkl:mp os part=k:=zq (fun x hx=>by simpa using hwh x hx) (fun x hx=>absurd (cD hx).1 I) hk
 refine Zr<|G (Yi Z)<|G (Zf dT Z)<|G (Zd ex H 1 Z Z Z)<|G (bn g9 Z) ?_
 refine cR (cG Z Z) Z Z Z (fun h68=> ?_) (fun h68=> ?_)
 obtain⟨g2,cur2,rfl,rfl,row2⟩:=hoo2.row I
 obtain⟨o,ho⟩: ∃ o,os[k]? =some o:=⟨_,ah I⟩
 refine G (Yb Z)<|ZG<|G (Zf dT Z)<|ZG<|G (Zd ex H 1 Z Z Z)<|ZG<|G (Yi Z)<|ZG<|G (cC cV Z Z (by first|omega|(simp only[ab];omega)))<|ZG<|G (Zf jl Z)<|ZG<|G (bQ aj row2 ho 0 Z (H.ent (i:=3) Z) Z)<|ZG<|G (Yi Z)<|ZG ?_
 refine cR (bh Z Z) Z Z Z (fun h77=> ?_) (fun h77=> ?_)
 refine G (Kt Z Z)<|U<|ZT Z ?_
 have hput:gN os part at_=os.set k {o with at_:=at_}:=by unfold gN;rw[hkl,ho];rw[if_pos (show Option.map mc.part (some o)=some part from congrArg some h77)];subst h77;rfl
 refine Zr<|G (Zf dT Z)<|G (Zd ex H 1 Z Z Z)<|G (Yi Z)<|G (Yi Z)<|G (cC cV Z Z (by first|omega|(simp only[ab];omega)))<|G (Zf ot Z)<|kQ H 3 ({o with at_:=at_}) bI row2 ho 1 Z Z Z Z Z Z N fun w20 cur19 row19 H=> ?_
 have hs21:(os.set k ({o with at_:=at_}))[k]? =some ({o with at_:=at_}):=am (cD ho).1
 refine U<|W<|Zr<|G (Zw aR H 1 Z Z Z)<|bl H 0 (#[J (ck),J (wt),J (gn),.slice (Qd g) ms2.length mC2,.slice (Qd g2) os.length oC2]) bF Z Z Z Z Z N N fun w22 H=>G (Wi Z)<|U<|Zt ?_
 exact bG (cs0:= #[J (ck),J (wt),J (gn),.slice (Qd g) ms2.length mC2,.slice (Qd g2) os.length oC2]) (v1:=J 0) Z aR Z (H.ent (i:=0) Z) Z Z ⟨⟨ck,wt,gn,ms2,some ⟨g,0,none⟩,mC2,os.set k {o with at_:=at_},some ⟨g2,0,none⟩,oC2⟩,by unfold Gr.v Gr.c;dsimp only;rw[ab],by unfold Gr.a;dsimp only;rw[hma];show _=({Gr.a ⟨ck,wt,gn,ms,mA,mC,os,oA,oC⟩with os:=gN os part at_}:Gr);rw[hput];rfl,qN.new (ga:=Gr.a ⟨ck,wt,gn,ms2,some ⟨g,0,none⟩,mC2,os.set k {o with at_:=at_},some ⟨g2,0,none⟩,oC2⟩) ⟨rfl,dU.own row,by dsimp only;rw[ab];have hO:=dU.own (g:=g2) (e:=d8) row19;rw[ab]at hO;exact hO,hmc2,by dsimp only;rw[ab];exact hoc2,hpc2,H.forget (.cons _ (.cons _ (ap _))) (fun f hf=>by simp only[av,ar];grind)⟩ (by dsimp only;omega) (by dsimp only;rw[<-hput];have:=m9 os part at_;omega) (iG hma hmo)⟩
 refine G (Kt Z Z)<|U<|ZF Z ?_
 have hput:gN os part at_=os.take k++[⟨part,at_⟩]++os.drop k:=by unfold gN;rw[hkl];rw[if_neg (by rw[ho];intro hx;exact h77 (bB hx))]
 refine Zr<|G (Zf dT Z)<|G (Zd ex H 1 Z Z Z)<|G (Yi Z)<|G (Yi Z)<|G (Yi Z)<|G (bj (cs:= #[J (part),J (at_)]) uh k9 N)<|sY (vs:=[.agg #[J (part),J (at_)]]) H cV k9 Z Z Z Z Z Z fun w23 b91 H=>cd eY (jv (K:=[(b10,.cells #[J (0),J (0),J (0),.slice none 0 0,.slice none 0 0] cM (0,0)),(b5,.cells #[J (ck),J (wt),J (gn),.slice (Qd g) ms2.length mC2,.slice (Qd g2) os.length oC2] cM (0,0)),(g,.cells cur db (0,0))]) (Lt:=[(g2,.cells cur2 d8 (0,0))]) (M:=[]) (x:=⟨part,at_⟩) (i:=k) (by rw[aY];exact H) hoo2 I I) Z Z ?_
 rintro _ w24 ⟨A9,c9,L9,rfl,ho9,HI⟩
 replace H:Hp w w24 ([(b91,.cells #[J (part),J (at_)] d8 (0,0)),(b10,.cells #[J (0),J (0),J (0),.slice none 0 0,.slice none 0 0] cM (0,0)),(b5,.cells #[J (ck),J (wt),J (gn),.slice (Qd g) ms2.length mC2,.slice (Qd g2) os.length oC2] cM (0,0)),(g,.cells cur db (0,0))]++L9) ([dG jQ 0 w.heap.size mA ms,Io 0 w.heap.size ms,dG fR 0 w.heap.size oA os]++ms2.map ng):=by rw[aY]at HI;exact HI
 clear HI
 have hc9:(os.take k++[(⟨part,at_⟩:mc)]++os.drop k).length<=c9:=by obtain⟨_,_,e,h,_⟩:=ho9.form;injection e with _ _ e;rw[e];exact h
 refine G (Zf dT Z)<|bl H 2 (#[J (ck),J (wt),J (gn),.slice (Qd g) ms2.length mC2,.slice A9 ((os.take k++[(⟨part,at_⟩:mc)]++os.drop k).length) c9]) nX Z Z Z Z Z N N fun w25 H=>U<|W<|Zr<|G (Zw aR H 2 Z Z Z)<|bl H 1 (#[J (ck),J (wt),J (gn),.slice (Qd g) ms2.length mC2,.slice A9 ((os.take k++[(⟨part,at_⟩:mc)]++os.drop k).length) c9]) bF Z Z Z Z Z N N fun w26 H=>G (Wi Z)<|U<|Zt ?_
 exact bG (cs0:= #[J (ck),J (wt),J (gn),.slice (Qd g) ms2.length mC2,.slice A9 (((os.take k++[(⟨part,at_⟩:mc)]++os.drop k)).length) c9]) (v1:=J 0) Z aR Z (H.ent (i:=1) Z) Z Z ⟨⟨ck,wt,gn,ms2,some ⟨g,0,none⟩,mC2,os.take k++[(⟨part,at_⟩:mc)]++os.drop k,A9,c9⟩,rfl,by unfold Gr.a;dsimp only;rw[hma];show _=({Gr.a ⟨ck,wt,gn,ms,mA,mC,os,oA,oC⟩with os:=gN os part at_}:Gr);rw[hput];rfl,qN.new (ga:=Gr.a ⟨ck,wt,gn,ms2,some ⟨g,0,none⟩,mC2,os.take k++[(⟨part,at_⟩:mc)]++os.drop k,A9,c9⟩) ⟨rfl,dU.own row,ho9,hmc2,hc9,hpc2,H.forget (.cons _ (.cons _ (.cons _ (ap _)))) (fun f hf=>by simp only[av,ar];grind)⟩ (by dsimp only;omega) (by dsimp only;rw[<-hput];have:=m9 os part at_;omega) (iG hma hmo)⟩
 refine G (Yb Z)<|ZN<|ZN<|ZN<|ZN<|ZN<|ZN<|ZN<|ZN<|G (N Z Z)<|U<|ZF Z ?_
 have hput:gN os part at_=os.take k++[⟨part,at_⟩]++os.drop k:=by unfold gN;rw[hkl];rw[if_neg (by rw[cJ I];simp)]
 refine Zr<|G (Zf dT Z)<|G (Zd ex H 1 Z Z Z)<|G (Yi Z)<|G (Yi Z)<|G (Yi Z)<|G (bj (cs:= #[J (part),J (at_)]) uh k9 N)<|sY (vs:=[.agg #[J (part),J (at_)]]) H cV k9 Z Z Z Z Z Z fun w27 b91 H=>cd eY (jv (K:=[(b10,.cells #[J (0),J (0),J (0),.slice none 0 0,.slice none 0 0] cM (0,0)),(b5,.cells #[J (ck),J (wt),J (gn),.slice (Qd g) ms2.length mC2,.slice oA2 os.length oC2] cM (0,0)),(g,.cells cur db (0,0))]) (Lt:=Lo) (M:=[]) (x:=⟨part,at_⟩) (i:=k) (by rw[aY];exact H) hoo2 I I) Z Z ?_
 rintro _ w28 ⟨A9,c9,L9,rfl,ho9,HI⟩
 replace H:Hp w w28 ([(b91,.cells #[J (part),J (at_)] d8 (0,0)),(b10,.cells #[J (0),J (0),J (0),.slice none 0 0,.slice none 0 0] cM (0,0)),(b5,.cells #[J (ck),J (wt),J (gn),.slice (Qd g) ms2.length mC2,.slice oA2 os.length oC2] cM (0,0)),(g,.cells cur db (0,0))]++L9) ([dG jQ 0 w.heap.size mA ms,Io 0 w.heap.size ms,dG fR 0 w.heap.size oA os]++ms2.map ng):=by rw[aY]at HI;exact HI
 clear HI
 have hc9:(os.take k++[(⟨part,at_⟩:mc)]++os.drop k).length<=c9:=by obtain⟨_,_,e,h,_⟩:=ho9.form;injection e with _ _ e;rw[e];exact h
 refine G (Zf dT Z)<|bl H 2 (#[J (ck),J (wt),J (gn),.slice (Qd g) ms2.length mC2,.slice A9 ((os.take k++[(⟨part,at_⟩:mc)]++os.drop k).length) c9]) nX Z Z Z Z Z N N fun w29 H=>U<|W<|Zr<|G (Zw aR H 2 Z Z Z)<|bl H 1 (#[J (ck),J (wt),J (gn),.slice (Qd g) ms2.length mC2,.slice A9 ((os.take k++[(⟨part,at_⟩:mc)]++os.drop k).length) c9]) bF Z Z Z Z Z N N fun w30 H=>G (Wi Z)<|U<|Zt ?_
 exact bG (cs0:= #[J (ck),J (wt),J (gn),.slice (Qd g) ms2.length mC2,.slice A9 (((os.take k++[(⟨part,at_⟩:mc)]++os.drop k)).length) c9]) (v1:=J 0) Z aR Z (H.ent (i:=1) Z) Z Z ⟨⟨ck,wt,gn,ms2,some ⟨g,0,none⟩,mC2,os.take k++[(⟨part,at_⟩:mc)]++os.drop k,A9,c9⟩,rfl,by unfold Gr.a;dsimp only;rw[hma];show _=({Gr.a ⟨ck,wt,gn,ms,mA,mC,os,oA,oC⟩with os:=gN os part at_}:Gr);rw[hput];rfl,qN.new (ga:=Gr.a ⟨ck,wt,gn,ms2,some ⟨g,0,none⟩,mC2,os.take k++[(⟨part,at_⟩:mc)]++os.drop k,A9,c9⟩) ⟨rfl,dU.own row,ho9,hmc2,hc9,hpc2,H.forget (.cons _ (.cons _ (.cons _ (ap _)))) (fun f hf=>by simp only[av,ar];grind)⟩ (by dsimp only;omega) (by dsimp only;rw[<-hput];have:=m9 os part at_;omega) (iG hma hmo)⟩
theorem uj {α:Type} {l:List α} {k:Nat} {a:α} (h:l[k]? =some a):l.set k a=l:=by
 apply eJ
 intro i
 rw[lu]
 split
 rename_i hi
 subst hi
 split
 exact h.symm
 rename_i hl
 rw[cJ I]at h;cases h
 rfl
def kg (g:Gr) (s:ByteArray):Option (Nat×Mem):=(g.ms.findIdx? fun p=>decide (p.name=s)).bind fun i=>g.ms[i]?.map fun t=>(i,t)
theorem nA {g:Gr} {s:ByteArray} (h:kg g s=none):pX g s= -1:=by
 unfold kg at h
 unfold pX
 cases hi:g.ms.findIdx? fun p=>decide (p.name=s)with
 |none=>rfl
 |some i=>
  obtain⟨hl,-⟩:=bg.1 hi
  rw[hi]at h
  simp[ah hl]at h
theorem nz {g:Gr} {s:ByteArray} {i:Nat} {t:Mem} (h:kg g s=some (i,t)):pX g s=i/\g.ms[i]? =some t/\t.name=s:=by
 unfold kg at h
 unfold pX
 cases hi:g.ms.findIdx? fun p=>decide (p.name=s)with
 |none=>rw[hi]at h;cases h
 |some j=>
  obtain⟨hl,hn,-⟩:=bg.1 hi
  rw[hi]at h
  simp only[fm,ah hl,eD,jo,Prod.mk.injEq]at h
  obtain⟨rfl,rfl⟩:=h
  exact⟨rfl,ah hl,by simpa using hn⟩
theorem HW (g:Gr) (s:ByteArray):kg g.a s=(kg g s).map fun(i,t)=>(i,t.a):=by
 have e:g.a.ms.findIdx? (fun p=>decide (p.name=s))=g.ms.findIdx? fun p=>decide (p.name=s):=by
  show(g.ms.map Mem.a).findIdx? _=_
  rw[CZ]
  rfl
 unfold kg
 rw[e]
 cases g.ms.findIdx? fun p=>decide (p.name=s)with
 |none=>rfl
 |some i=>
  show(g.ms.map Mem.a)[i]?.map _=(g.ms[i]?.map _).map _
  rw[aM]
  cases g.ms[i]? <;>rfl
theorem KU {g:Gr} {s:ByteArray} (h:kg g s=none): ∀ t∈g.ms,t.name≠s:=by
 have:=nA h
 unfold pX at this
 cases hi:g.ms.findIdx? fun p=>decide (p.name=s)with
 |none=>rw[dp]at hi;intro t ht;simpa using hi t ht
 |some i=>rw[hi]at this;simp[lB]at this
def sT (g:Gr) (s:ByteArray) (p:Nat):Gr×Int:=match kg g s with
 |some _=>(Bg,6)
 |none=>if g.ms.length=6 then(Bg,16)else(Hm {g with ms:=g.ms++[Do s g.clock]} p,0)
def xc (g:Gr) (s:ByteArray) (gn:Int):Gr×Int:=match kg g s with
 |none=>(Bg,5)
 |some (i,t)=>if g.gen=gn then(LU g i t,0)else(Bg,10)
def sa (g:Gr) (s:ByteArray) (gn part at_:Int):Gr×Int:=match kg g s with
 |none=>(Bg,5)
 |some (_,t)=>if g.gen=gn then if 400<at_ then(Bg,2)else if part∈t.parts then({g with os:=gN g.os part at_},0)else(Bg,12)else(Bg,10)
def eP (g:Gr) (s:ByteArray) (part:Int):Int×Int:=match kg g s with
 |none=>(0,5)
 |some (_,t)=>if part∈t.parts then(tp g.os part,0)else(0,12)
theorem L0 (l:List Mem):kY (l.map Mem.a)↔kY l:=by
 unfold kY
 rw[sr]
theorem DI (g:Gr):lh g.a=true↔lh g=true:=by
 rw[dx,dx]
 show(_/\_/\_/\_/\((g.ms.map Mem.a).length:Int)<=6/\_)/\((∀ m∈g.ms.map Mem.a,u6 g.clock m=true)/\kY (g.ms.map Mem.a))/\_/\_↔_
 rw[bC,L0]
 have:(∀ m∈g.ms.map Mem.a,u6 g.clock m=true)↔ ∀ m∈g.ms,u6 g.clock m=true:=by
  constructor
  intro h m hm;exact h m.a (bL hm)
  intro h m hm
  obtain⟨x,hx,rfl⟩:=bv.1 hm
  exact h x hx
 rw[this]
 exact Iff.rfl
structure qP (P:ByteArray->Prop) (wt:Int) (p k:Nat) (g:Gr):Prop where
 ok:lh g=true
 clock:g.clock<=1000*k
 gen:g.gen<=k
 wait:g.wait=wt
 names: ∀ m∈g.ms,P m.name
 asg:g.ms.map Mem.parts=gK (g.ms.map Mem.name) p
theorem qP.more {P:ByteArray->Prop} {wt:Int} {p k m:Nat} {g:Gr} (h:qP P wt p k g) (hm:k<=m):qP P wt p m g:=⟨h.ok,by have:=h.clock;omega,by have:=h.gen;omega,h.wait,h.names,h.asg⟩
theorem yn (l:List Mem):(l.map Mem.a).map Mem.parts=l.map Mem.parts:=by rw[r4];rfl
theorem qP.a_iff {P:ByteArray->Prop} {wt:Int} {p k:Nat} {g:Gr}:qP P wt p k g.a↔qP P wt p k g:=by
 constructor
 rintro⟨h1,h2,h3,h4,h5,h6⟩
 refine⟨(DI g).1 h1,h2,h3,h4,fun m hm=>h5 m.a (bL hm),?_⟩
 have h6:(g.ms.map Mem.a).map Mem.parts=gK ((g.ms.map Mem.a).map Mem.name) p:=h6
 rw[sr,yn]at h6
 exact h6
 rintro⟨h1,h2,h3,h4,h5,h6⟩
 refine⟨(DI g).2 h1,h2,h3,h4,fun m hm=> ?_,?_⟩
 obtain⟨x,hx,rfl⟩:=bv.1 (show m∈g.ms.map Mem.a from hm)
 exact h5 x hx
 show(g.ms.map Mem.a).map Mem.parts=gK ((g.ms.map Mem.a).map Mem.name) p
 rw[sr,yn]
 exact h6
theorem qP.a {P:ByteArray->Prop} {wt:Int} {p k:Nat} {g:Gr} (h:qP P wt p k g):qP P wt p k g.a:=qP.a_iff.2 h
theorem qP.of_a {P:ByteArray->Prop} {wt:Int} {p k:Nat} {g:Gr} (h:qP P wt p k g.a):qP P wt p k g:=qP.a_iff.1 h
theorem vE: ∀ (l:List Int) (a:Int),l.Pairwise (· < ·)->(∀ q∈l,a<q/\q<4)->cT a l=true
 |[],_,_,_=>rfl
 |x::l,a,hp,hq=>by
  obtain⟨h1,h2⟩:=ek.1 hp
  unfold cT
  have:=hq x (aA ..)
  rw[vE l x h2 fun q hq'=>⟨h1 q hq',(hq q (ak _ hq')).2⟩]
  simp[this.1,this.2]
theorem Iw (n:Nat):(qQ n).Pairwise (· < ·):=by
 unfold qQ
 rw[jp]
 exact List.pairwise_lt_range.imp fun h=>by omega
theorem GA {names:List ByteArray} {p i:Nat} (hp:p<=4):cT (-1) (mn names p i)=true:=by
 refine vE _ _ ((Iw p).filter _) fun q hq=> ?_
 obtain⟨j,hj,rfl⟩:=wd.1 (kP.1 hq).1
 omega
theorem CS (ms:List Mem) (p:Nat):(oT ms p).map Mem.name=ms.map Mem.name:=by
 unfold oT
 rw[List.map_zipWith]
 refine eJ fun i=> ?_
 rw[qk,aM]
 unfold gK
 rw[aM,bC]
 cases h:ms[i]? with
 |none=>rfl
 |some m=>
  have:=(cD h).1
  rw[zk this]
  rfl
theorem FX (ms:List Mem) (p:Nat):(oT ms p).map Mem.parts=gK (ms.map Mem.name) p:=by
 unfold oT
 rw[List.map_zipWith]
 refine eJ fun i=> ?_
 rw[qk]
 cases h:ms[i]? with
 |none=>
  have:ms.length<=i:=by simpa using h
  rw[cJ (by rw[oB,bC];exact this)]
 |some m=>
  have:=(cD h).1
  have hl:i<(gK (ms.map Mem.name) p).length:=by rw[oB,bC];exact this
  rw[ah hl]
theorem AT {ms:List Mem} {p:Nat} {m:Mem} (h:m∈oT ms p): ∃ x∈ms,m.name=x.name/\m.heard=x.heard:=by
 obtain⟨i,hi⟩:=aK.1 h
 unfold oT at hi
 rw[qk]at hi
 split at hi
 rename_i x l hx hl
 injection hi with hi
 exact⟨x,ae hx,by rw[<-hi],by rw[<-hi]⟩
 cases hi
theorem LZ {P:ByteArray->Prop} {wt:Int} {p k:Nat} {g:Gr} (hp:p<=4) (hk:k<=100000) (hc:0<=g.clock/\g.clock<=1000*(k+1)) (hw:g.wait=wt) (hw1:1<=g.wait/\g.wait<=1000) (hg:0<=g.gen/\g.gen<=k) (hl:(g.ms.length:Int)<=6) (hol:(g.os.length:Int)<=4) (hm: ∀ m∈g.ms,bM m.name=true/\P m.name/\0<=m.heard/\m.heard<=g.clock) (ha:kY g.ms) (ho:(∀ o∈g.os,0<=o.part/\o.part<4/\0<=o.at_/\o.at_<=400)/\g.os.Pairwise (fun a b=>a.part<b.part)):qP P wt p (k+1) (Hm g p):=by
 refine⟨dx.2 ⟨⟨⟨hc.1,by show g.clock<=_;omega⟩,hw1.1,hw1.2,⟨by show 0<=g.gen+1;omega,by show g.gen+1<=_;omega⟩,by show((oT g.ms p).length:Int)<=6;rw[AS];exact hl,hol⟩,⟨fun m hm2=> ?_,?_⟩,ho⟩,by show g.clock<=_;omega,by show g.gen+1<=_;omega,hw,fun m hm2=> ?_,?_⟩
 obtain⟨x,hx,e1,e2⟩:=AT hm2
 obtain⟨i,hi⟩:=AR hm2
 obtain⟨a1,a2,a3,a4⟩:=hm x hx
 exact jK.2 ⟨by rw[e1];exact a1,by rw[e2];exact a3,by rw[e2];exact a4,by rw[hi];exact GA hp⟩
 unfold kY
 show((oT g.ms p).map _).Pairwise _
 rw[CS];exact ha
 obtain⟨x,hx,e1,-⟩:=AT hm2
 rw[e1];exact(hm x hx).2.1
 show(oT g.ms p).map _=gK ((oT g.ms p).map _) p
 rw[CS,FX]
theorem qP.mems {P:ByteArray->Prop} {wt:Int} {p k:Nat} {g:Gr} (h:qP P wt p k g): ∀ m∈g.ms,bM m.name=true/\P m.name/\0<=m.heard/\m.heard<=g.clock:=fun m hm=>by
 obtain⟨-,⟨h2,-⟩,-⟩:=dx.1 h.ok
 obtain⟨a1,a2,a3,-⟩:=jK.1 (h2 m hm)
 exact⟨a1,h.names m hm,a2,a3⟩
theorem qP.join {P:ByteArray->Prop} {wt:Int} {p k:Nat} {g:Gr} {s:ByteArray} (h:qP P wt p k g) (hp:p<=4) (hk:k<=100000) (hn:bM s=true) (hs:P s) (he:(sT g s p).2=0):qP P wt p (k+1) (sT g s p).1:=by
 obtain⟨⟨h1,h2,h3,h4,h5,h6⟩,⟨h7,h8⟩,h9⟩:=dx.1 h.ok
 unfold sT at he⊢
 cases hf:kg g s with
 |some x=>rw[hf]at he;cases he
 |none=>
  rw[hf]at he
  dsimp only at he⊢
  by_cases hl:g.ms.length=6
  rw[if_pos hl]at he;cases he
  rw[if_neg hl]
  have hno:=KU hf
  have hck:=h.clock
  refine LZ hp hk ⟨h1.1,by show g.clock<=_;omega⟩ h.wait ⟨h2,h3⟩ ⟨h4.1,h.gen⟩ ?_ h6 (fun m hm=> ?_) ?_ h9
  show((g.ms++[_]).length:Int)<=6
  rw[ay,bP];omega
  rcases ar.1 hm with hm|hm
  exact h.mems m hm
  rw[aq.1 hm]
  exact⟨hn,hs,h1.1,ic _⟩
  unfold kY at h8⊢
  show((g.ms++[Do s g.clock]).map _).Pairwise _
  rw[bk,lX]
  refine⟨h8,by simp,fun a ha b hb=> ?_⟩
  obtain⟨t,ht,rfl⟩:=bv.1 ha
  simp only[eI,mg,aq]at hb
  subst hb
  exact hno t ht
theorem Ho {l:List Mem} {i:Nat} {t t':Mem} (h:kY l) (hi:l[i]? =some t) (hn:t'.name=t.name):kY (l.set i t'):=by
 unfold kY at h⊢
 rw[cy,hn,uj (by rw[aM,hi];rfl)]
 exact h
theorem qP.beat {P:ByteArray->Prop} {wt:Int} {p k:Nat} {g:Gr} {s:ByteArray} {gn:Int} (h:qP P wt p k g) (he:(xc g s gn).2=0):qP P wt p (k+1) (xc g s gn).1:=by
 obtain⟨⟨h1,h2,h3,h4,h5,h6⟩,⟨h7,h8⟩,h9⟩:=dx.1 h.ok
 unfold xc at he⊢
 cases hf:kg g s with
 |none=>rw[hf]at he;cases he
 |some x=>
  obtain⟨i,t⟩:=x
  rw[hf]at he
  dsimp only at he⊢
  obtain⟨-,ht,-⟩:=nz hf
  have hm:=ae ht
  have hck:=h.clock
  have hgn:=h.gen
  by_cases hg:g.gen=gn
  rw[if_pos hg]
  refine⟨dx.2 ⟨⟨h1,h2,h3,h4,?_,h6⟩,⟨fun m hm2=> ?_,Ho h8 ht Z⟩,h9⟩,?_,?_,h.wait,fun m hm2=> ?_,?_⟩
  show((g.ms.set i _).length:Int)<=6
  rw[ab];exact h5
  rcases bH hm2 with hm2|rfl
  exact h7 m hm2
  have:=jK.1 (h7 t hm)
  exact jK.2 ⟨this.1,h1.1,ic _,this.2.2.2⟩
  show g.clock<=_;omega
  show g.gen<=_;omega
  rcases bH hm2 with hm2|rfl
  exact h.names m hm2
  exact h.names t hm
  show(g.ms.set i _).map _=gK ((g.ms.set i _).map _) p
  rw[cy,cy]
  rw[uj (by rw[aM,ht];rfl),uj (by rw[aM,ht];rfl)]
  exact h.asg
  rw[if_neg hg]at he;cases he
theorem GG {os:List mc} {part:Int}: ∀ o∈os.take (mp os part),o.part<part:=by
 unfold mp
 intro o ho
 rw[<-List.prefix_iff_eq_take.1 (List.takeWhile_prefix _)]at ho
 have:=ec.1 (List.all_takeWhile (p:=fun o:mc=>decide (o.part<part)) (l:=os)) o ho
 simpa using this
theorem zN {os:List mc} {part:Int} (h:os.Pairwise (fun a b=>a.part<b.part)): ∀ o∈os.drop (mp os part),part<=o.part:=by
 induction os with
 |nil=>intro o ho;simp at ho
 |cons x l ih=>
  obtain⟨h1,h2⟩:=ek.1 h
  intro o ho
  by_cases hx:x.part<part
  have e:mp (x::l) part=mp l part+1:=by unfold mp;rw[List.takeWhile_cons_of_pos (by simpa using hx)];rfl
  rw[e,zl]at ho
  exact ih h2 o ho
  have e:mp (x::l) part=0:=by unfold mp;rw[List.takeWhile_cons_of_neg (by simpa using hx)];rfl
  rw[e,lY]at ho
  rcases av.1 ho with rfl|ho
  omega
  have:=h1 o ho;omega
theorem KO {os:List mc} (h:os.Pairwise (fun a b=>a.part<b.part)) (hb: ∀ o∈os,0<=o.part/\o.part<4):(os.length:Int)<=4:=by
 have h1:cT (-1) (os.map mc.part)=true:=vE _ _ (jp.2 h) fun q hq=>by
  obtain⟨o,ho,rfl⟩:=bv.1 hq
  have:=hb o ho;omega
 have:=ml h1
 rw[bC]at this
 omega
theorem IS {os:List mc} {part at_:Int} (h0:0<=part) (h3:part<4) (ha0:0<=at_) (ha:at_<=400) (ho:(∀ o∈os,0<=o.part/\o.part<4/\0<=o.at_/\o.at_<=400)/\os.Pairwise (fun a b=>a.part<b.part)):((∀ o∈gN os part at_,0<=o.part/\o.part<4/\0<=o.at_/\o.at_<=400)/\(gN os part at_).Pairwise (fun a b=>a.part<b.part)):=by
 obtain⟨h1,h2⟩:=ho
 unfold gN
 split
 rename_i hp
 obtain⟨o,hx,hxp⟩:=iH.1 hp
 refine⟨fun y hy=> ?_,?_⟩
 rcases bH hy with hy|rfl
 exact h1 y hy
 exact⟨h0,h3,ha0,ha⟩
 have:(os.set (mp os part) ⟨part,at_⟩).map mc.part=os.map mc.part:=by
  rw[cy,uj (by rw[aM,hx];show some o.part=some part;rw[hxp])]
 rw[<-jp (f:=mc.part) (R:=fun a b:Int=>a<b),this,jp]
 exact h2
 rename_i hp
 refine⟨fun y hy=> ?_,?_⟩
 simp only[ar,aq]at hy
 rcases hy with(hy|rfl)|hy
 exact h1 y (yH hy)
 exact⟨h0,h3,ha0,ha⟩
 exact h1 y (List.mem_of_mem_drop hy)
 have hd: ∀ o∈os.drop (mp os part),part<o.part:=fun o ho=>by
  have h4:=zN h2 o ho
  rcases Int.lt_or_eq_of_le h4 with h5|h5
  exact h5
  exfalso
  obtain⟨j,hj⟩:=aK.1 ho
  cases hd:os.drop (mp os part)with
  |nil=>rw[hd]at hj;simp at hj
  |cons y l=>
   have hy:os[mp os part]? =some y:=by
    have:=congrArg (fun l=>l[0]?) hd
    simpa [dK]using this
   have hyp:y.part≠part:=fun h=>hp (by rw[hy];exact congrArg some h)
   have hy1:=zN h2 y (by rw[hd];exact aA ..)
   have hpw:(y::l).Pairwise (fun a b=>a.part<b.part):=hd▸h2.sublist (List.drop_sublist _ _)
   rw[hd]at ho
   rcases av.1 ho with rfl|ho
   exact hyp h5.symm
   have:=(ek.1 hpw).1 o ho;omega
 rw[aD,lX]
 refine⟨h2.sublist (List.take_sublist _ _),?_,fun a ha b hb=> ?_⟩
 show(_::os.drop (mp os part)).Pairwise _
 exact ek.2 ⟨hd,h2.sublist (List.drop_sublist _ _)⟩
 have h5:=GG a ha
 rcases ar.1 hb with hb|hb
 rw[aq.1 hb];exact h5
 have:=hd b hb;omega
theorem qP.store {P:ByteArray->Prop} {wt:Int} {p k:Nat} {g:Gr} {s:ByteArray} {gn part at_:Int} (h:qP P wt p k g) (ha0:0<=at_) (he:(sa g s gn part at_).2=0):qP P wt p (k+1) (sa g s gn part at_).1:=by
 obtain⟨⟨h1,h2,h3,h4,h5,h6⟩,⟨h7,h8⟩,h9⟩:=dx.1 h.ok
 unfold sa at he⊢
 cases hf:kg g s with
 |none=>rw[hf]at he;cases he
 |some x=>
  obtain⟨i,t⟩:=x
  rw[hf]at he
  dsimp only at he⊢
  obtain⟨-,ht,-⟩:=nz hf
  have hm:=ae ht
  have hck:=h.clock
  have hgn:=h.gen
  by_cases hg:g.gen=gn
  rw[if_pos hg]at he⊢
  by_cases hat:400<at_
  rw[if_pos hat]at he;cases he
  rw[if_neg hat]at he⊢
  by_cases hpt:part∈t.parts
  rw[if_pos hpt]
  have hp4:=(fI (jK.1 (h7 t hm)).2.2.2).2 part hpt
  have ho:=IS I hp4.2 ha0 I h9
  exact⟨dx.2 ⟨⟨h1,h2,h3,h4,h5,KO ho.2 fun o hx=>⟨(ho.1 o hx).1,(ho.1 o hx).2.1⟩⟩,⟨h7,h8⟩,ho⟩,by show g.clock<=_;omega,by show g.gen<=_;omega,h.wait,h.names,h.asg⟩
  rw[if_neg hpt]at he;cases he
  rw[if_neg hg]at he;cases he
theorem qP.tick {P:ByteArray->Prop} {wt:Int} {p k:Nat} {g:Gr} {n:Int} (h:qP P wt p k g) (hp:p<=4) (hk:k<=100000) (hn0:0<=n) (hn:n<=1000):qP P wt p (k+1) (pN g n p):=by
 obtain⟨⟨h1,h2,h3,h4,h5,h6⟩,⟨h7,h8⟩,h9⟩:=dx.1 h.ok
 have hck:=h.clock
 have hgn:=h.gen
 unfold pN
 by_cases hl:(g.ms.filter fun m=>!tv g n m).length=g.ms.length
 rw[if_pos hl]
 refine⟨dx.2 ⟨⟨⟨by show 0<=g.clock+n;omega,by show g.clock+n<=_;omega⟩,h2,h3,h4,h5,h6⟩,⟨fun m hm=> ?_,h8⟩,h9⟩,by show g.clock+n<=_;omega,by show g.gen<=_;omega,h.wait,h.names,h.asg⟩
 obtain⟨a1,a2,a3,a4⟩:=jK.1 (h7 m hm)
 exact jK.2 ⟨a1,a2,by show m.heard<=g.clock+n;omega,a4⟩
 rw[if_neg hl]
 have hsub:(g.ms.filter fun m=>!tv g n m).Sublist g.ms:=List.filter_sublist
 refine LZ hp hk ⟨by show 0<=g.clock+n;omega,by show g.clock+n<=_;omega⟩ h.wait ⟨h2,h3⟩ ⟨h4.1,h.gen⟩ ?_ h6 (fun m hm=> ?_) ?_ h9
 have:=hsub.length_le
 show((g.ms.filter fun m=>!tv g n m).length:Int)<=6
 omega
 obtain⟨a1,a2,a3,a4⟩:=h.mems m (hsub.subset hm)
 exact⟨a1,a2,a3,by show m.heard<=g.clock+n;omega⟩
 unfold kY at h8⊢
 exact h8.sublist (hsub.map _)
theorem qE {g:Gr} {s:ByteArray} {i:Nat} {t:Mem} (h:kg g s=some (i,t)):kg g.a s=some (i,t.a):=by rw[HW,h];rfl
theorem qF {g:Gr} {s:ByteArray} (h:kg g s=none):kg g.a s=none:=by rw[HW,h];rfl
abbrev C1 (f:FuncId) (args:List Value) (w:World) (x:Gr×Int):Prop:=dd aa f args w fun v w2=> ∃ g':Gr,v=.tuple #[g'.v,J x.2]/\g'.a=x.1/\yE w w2 g'
theorem Jc (g:Gr) (s:ByteArray) (p:Nat) (w:World) (h:g.rd 0 w.heap.size w) (hok:lh g=true) (hn:bM s=true) (hp:p<=4) (hg1:g.gen<1073741824):C1 px [g.v,.string s,J (p:Nat)] w (sT g.a s p):=by
 unfold C1 sT
 cases hf:kg g s with
 |none=>
  rw[qF hf]
  dsimp only
  by_cases hl:g.ms.length=6
  rw[if_pos (show g.a.ms.length=6 by simpa [Gr.a]using hl)]
  exact(Jb g s p w h hok hn hp hg1 (nA hf) hl).mono fun v w2 ⟨h1,h2⟩=>⟨Bg,h1,rfl,qz h2⟩
  rw[if_neg (show¬ g.a.ms.length=6 by simpa [Gr.a]using hl)]
  exact M8 g s p w h hok hn hp hg1 (nA hf) hl
 |some x=>
  obtain⟨i,t⟩:=x
  rw[qE hf]
  exact(GT g s p w h hok hn hp hg1 i (nz hf).1).mono fun v w2 ⟨h1,h2⟩=>⟨Bg,h1,rfl,qz h2⟩
theorem JG (g:Gr) (s:ByteArray) (gn:Int) (w:World) (h:g.rd 0 w.heap.size w) (hok:lh g=true) (hn:bM s=true):C1 py [g.v,.string s,J gn] w (xc g.a s gn):=by
 unfold C1 xc
 cases hf:kg g s with
 |none=>
  rw[qF hf]
  exact(JF g s gn w h hok hn (nA hf)).mono fun v w2 ⟨h1,h2⟩=>⟨Bg,h1,rfl,qz h2⟩
 |some x=>
  obtain⟨i,t⟩:=x
  rw[qE hf]
  obtain⟨hi,ht,-⟩:=nz hf
  dsimp only
  by_cases hg:g.gen=gn
  rw[if_pos (show g.a.gen=gn from hg)]
  exact Nu g s gn w h hok hn i t hi ht hg
  rw[if_neg (show¬ g.a.gen=gn from hg)]
  exact(Hk g s gn w h hok hn i hi hg).mono fun v w2 ⟨h1,h2⟩=>⟨Bg,h1,rfl,qz h2⟩
theorem Gi (g:Gr) (s:ByteArray) (gn part at_:Int) (w:World) (h:g.rd 0 w.heap.size w) (hok:lh g=true) (hn:bM s=true) (ha:0<=at_):C1 jM [g.v,.string s,J gn,J part,J at_] w (sa g.a s gn part at_):=by
 unfold C1 sa
 cases hf:kg g s with
 |none=>
  rw[qF hf]
  exact(Gh g s gn part at_ w h hok hn (nA hf)).mono fun v w2 ⟨h1,h2⟩=>⟨Bg,h1,rfl,qz h2⟩
 |some x=>
  obtain⟨i,t⟩:=x
  rw[qE hf]
  obtain⟨hi,ht,-⟩:=nz hf
  dsimp only
  by_cases hg:g.gen=gn
  rw[if_pos (show g.a.gen=gn from hg)]
  by_cases hat:400<at_
  rw[if_pos hat]
  exact(EB g s gn part at_ w h hok hn i hi hg hat).mono fun v w2 ⟨h1,h2⟩=>⟨Bg,h1,rfl,qz h2⟩
  rw[if_neg hat]
  by_cases hp:part∈t.parts
  rw[if_pos (show part∈t.a.parts from hp)]
  exact Kg g s gn part at_ w h hok hn i t hi ht hg ha I hp
  rw[if_neg (show¬ part∈t.a.parts from hp)]
  exact(EA g s gn part at_ w h hok hn i t hi ht hg ha I hp).mono fun v w2 ⟨h1,h2⟩=>⟨Bg,h1,rfl,qz h2⟩
  rw[if_neg (show¬ g.a.gen=gn from hg)]
  exact(EC g s gn part at_ w h hok hn i hi hg).mono fun v w2 ⟨h1,h2⟩=>⟨Bg,h1,rfl,qz h2⟩
theorem r8 (g:Gr) (s:ByteArray) (part:Int) (w:World) (h:g.rd 0 w.heap.size w) (hok:lh g=true) (hn:bM s=true):dd aa nP [g.v,.string s,J part] w fun v w2=>v=.tuple #[J (eP g.a s part).1,J (eP g.a s part).2]/\Below w.heap.size w w2:=by
 unfold eP
 cases hf:kg g s with
 |none=>
  rw[qF hf]
  exact Ga g s part w h hok hn (nA hf)
 |some x=>
  obtain⟨i,t⟩:=x
  rw[qE hf]
  obtain⟨hi,ht,-⟩:=nz hf
  dsimp only
  by_cases hp:part∈t.parts
  rw[if_pos (show part∈t.a.parts from hp)]
  exact J6 g s part w h hok hn i t hi ht hp
  rw[if_neg (show¬ part∈t.a.parts from hp)]
  exact Er g s part w h hok hn i t hi ht hp
def PU:Deep Gr:=⟨fun g=>g.rd,fun _ _ _ _ _ hk h=>h.st hk,fun _ _ _ _ _ _ h h1 h2=>h.mono h1 h2⟩
theorem MW (P:ByteArray->Prop) {wt:Int} (p:Nat) (h1:1<=wt) (h2:wt<=1000):qP P wt p 0 ⟨0,wt,0,[],none,0,[],none,0⟩:=⟨dx.2 ⟨⟨⟨by simp,by simp⟩,h1,h2,⟨by simp,by simp⟩,by simp,by simp⟩,⟨by simp,by simp[kY]⟩,by simp,by simp⟩,by simp,by simp,rfl,by simp,by simp[gK]⟩
theorem qP.next {P:ByteArray->Prop} {wt:Int} {p k:Nat} {q:Gr} {r:Gr×Int} (h:r.2=0->qP P wt p (k+1) r.1) (ha:q.a=r.1):r.2=0->qP P wt p (k+1) q:=fun h0=>qP.of_a (ha▸h h0)
theorem FU (p t:Tx) (b:Nat) (w:World) (hx:w.heap[b]? =some (.cells t.c.toArray dE (0,0))):
  dd aa rK [p.v,.pointer (Qd b)] w fun v w2=>v=.bool (decide (p.name=t.name)||decide (p.pid=t.pid))/\Below w.heap.size w w2:=by
 refine aE wL Z Z ?_
 have H:=Hp.start w
 have hb:=ce hx
 refine W<|Zr<|fS H Z Z fun w1 b2 H=>G (Wb Z)<|U<|W<|Zr<|G (Zf om Z)<|G (Zd ba H 0 Z Z Z)<|G (Zf om Z)<|G (aV ba Z ((H.below.cell (p:=⟨b,_,none⟩) hb).trans (aB (j:=0) hx Z))) ?_
 refine cR (vA Z Z) Z Z Z (fun h8=> ?_) (fun h8=> ?_)
 refine G (Yb Z)<|ZN<|ZN<|ZN<|ZN<|ZN<|G (Kt Z Z)<|G (Wb Z)<|U<|Zt ?_
 have hv:(decide (p.name=t.name)||decide (p.pid=t.pid))=true:=by simp[h8]
 exact cF (v:=.bool true) Z Z ⟨by rw[hv],H.below⟩
 refine G (Yb Z)<|ZG<|G (Zf li Z)<|ZG<|G (Zd aj H 0 Z Z Z)<|ZG<|G (Zf li Z)<|ZG<|G (aV aj Z ((H.below.cell (p:=⟨b,_,none⟩) hb).trans (aB (j:=1) hx Z)))<|ZG ?_
 refine cR (bh Z Z) Z Z Z (fun h14=> ?_) (fun h14=> ?_)
 refine G (N Z Z)<|G (Wb Z)<|U<|Zt ?_
 have hv:(decide (p.name=t.name)||decide (p.pid=t.pid))=true:=by simp[h8,h14]
 exact cF (v:=.bool true) Z Z ⟨by rw[hv],H.below⟩
 refine G (N Z Z)<|G (Wb Z)<|U<|Zt ?_
 have hv:(decide (p.name=t.name)||decide (p.pid=t.pid))=false:=by simp[h8,h14]
 exact cF (v:=.bool false) Z Z ⟨by rw[hv],H.below⟩
theorem ny (p:Tx) (s:ByteArray) (b:Nat) (w:World) (hx:w.heap[b]? =some (.cells #[.string s] kD (0,0))):
  dd aa gO [p.v,.pointer (Qd b)] w fun v w2=>v=.bool (decide (p.name=s))/\Below w.heap.size w w2:=by
 refine aE xN Z Z ?_
 have H:=Hp.start w
 have hb:=ce hx
 refine W<|Zr<|fS H Z Z fun w1 b2 H=>G (Wb Z)<|U<|W<|Zr<|G (Zf om Z)<|G (Zd ba H 0 Z Z Z)<|G (aV ba Z ((H.below.cell (p:=⟨b,_,none⟩) hb).trans (aB (j:=0) hx Z)))<|G (vA Z Z)<|G (Wb Z)<|U<|Zt ?_
 exact cF Z Z ⟨rfl,H.below⟩
theorem FR (n:Int) (w:World) (h1:1<=n) (h2:n<=1000):dd aa Fv [J n] w fun v w2=>v=.tuple #[.agg #[J 0,J 1,J n,.slice none 0 0],J 0]/\Below w.heap.size w w2:=by
 refine aE DV Z Z ?_
 have H:=Hp.start w
 refine W<|Zr<|eC H cK Z fun w1 b2 H=>G (Wi Z)<|U<|W<|W<|Zr<|G (Yi Z)<|G (cY Z Z I)<|G (Yb Z)<|ZG<|G (Yi Z)<|ZG<|G (er Z Z I)<|G (N Z Z)<|U<|ZF Z<|Zk<|W<|Zr<|G (Yi Z)<|G (bj (cs:= #[J 0,J 1,J n,.slice none 0 0]) fx cK N)<|bl H 0 (#[J 0,J 1,J n,.slice none 0 0]) aF Z Z Z Z Z N N fun w2 H=>G (Wi Z)<|U<|Zt ?_
 exact bG (cs0:= #[J 0,J 1,J n,.slice none 0 0]) (v1:=J 0) Z ax Z (H.ent (i:=0) Z) Z Z ⟨rfl,H.below⟩
theorem NW (ck nx wt:Int) (At:Option Addr) (n ct:Nat) (t:Tx) (w:World) (hr:Rd bS 0 w.heap.size t.A t.parts w) (hpl:t.parts.length<=1000000):
  dd aa Fu [.agg #[J ck,J nx,J wt,.slice At n ct],t.v] w fun v w2=>v=.bool (fG ck nx t)/\Below w.heap.size w w2:=by
 refine aE DU Z Z ?_
 have H:=Hp.startRd hr
 refine W<|Zr<|fS H Z Z fun w1 b2 H=>fS H Z Z fun w2 b3 H=>G (Wb Z)<|U<|W<|W<|Zr<|G (Zf om Z)<|G (Zd ba H 0 Z Z Z)<|cd rv (Dp t.name _) Z Z ?_
 rintro _ w3 ⟨rfl,hb⟩;replace H:=H.later hb;clear hb
 refine G (dO Z)<|G (Yb Z) ?_
 refine mq 11 Z (fun h11=> ?_) (fun h11=> ?_)
 refine ZN<|ZN<|ZN<|G (Kt Z Z)<|G (Yb Z)<|ZN<|ZN<|ZN<|ZN<|ZN<|G (Kt Z Z)<|G (Yb Z)<|ZN<|ZN<|ZN<|ZN<|G (Kt Z Z)<|G (Yb Z)<|ZN<|ZN<|ZN<|G (Kt Z Z)<|G (Yb Z)<|ZN<|ZN<|ZN<|G (Kt Z Z)<|G (Yb Z)<|ZN<|ZN<|ZN<|G (Kt Z Z)<|G (Yb Z)<|ZN<|ZN<|ZN<|ZN<|ZN<|G (Kt Z Z)<|G (Yb Z) ?_
 refine ZN<|ZN<|ZN<|ZN<|ZN<|ZN<|ZN<|ZN<|ZN<|ZN<|ZN<|ZN<|ZN<|G (Kt Z Z)<|U<|ZT Z<|W<|Zr<|G (Wb Z)<|U<|Zt ?_
 have hv:fG ck nx t=false:=by
  cases hh:fG ck nx t
  rfl
  obtain⟨a1,a2,a3,a4,a5,a6,a7,a8,a9,a10,a11⟩:=cB.1 hh
  exfalso
  first|omega|simp_all
 exact cF (v:=.bool false) Z Z ⟨by rw[hv],H.below⟩
 refine ZG<|G (Zf li Z)<|ZG<|G (Zd aj H 0 Z Z Z)<|ZG ?_
 refine cR (cG Z Z) Z Z Z (fun h14=> ?_) (fun h14=> ?_)
 refine G (N Z Z)<|G (Yb Z)<|ZN<|ZN<|ZN<|ZN<|ZN<|G (Kt Z Z)<|G (Yb Z)<|ZN<|ZN<|ZN<|ZN<|G (Kt Z Z)<|G (Yb Z)<|ZN<|ZN<|ZN<|G (Kt Z Z)<|G (Yb Z)<|ZN<|ZN<|ZN<|G (Kt Z Z)<|G (Yb Z)<|ZN<|ZN<|ZN<|G (Kt Z Z)<|G (Yb Z)<|ZN<|ZN<|ZN<|ZN<|ZN<|G (Kt Z Z)<|G (Yb Z)<|ZN<|ZN<|ZN ?_
 refine ZN<|ZN<|ZN<|ZN<|ZN<|ZN<|ZN<|ZN<|ZN<|ZN<|G (Kt Z Z)<|U<|ZT Z<|W<|Zr<|G (Wb Z)<|U<|Zt ?_
 have hv:fG ck nx t=false:=by
  cases hh:fG ck nx t
  rfl
  obtain⟨a1,a2,a3,a4,a5,a6,a7,a8,a9,a10,a11⟩:=cB.1 hh
  exfalso
  first|omega|simp_all
 exact cF (v:=.bool false) Z Z ⟨by rw[hv],H.below⟩
 refine G (N Z Z)<|G (Yb Z)<|ZG<|G (Zf li Z)<|ZG<|G (Zd aj H 0 Z Z Z)<|ZG<|G (Zf kk Z)<|ZG<|G (Zd aj H 1 Z Z Z)<|ZG ?_
 refine cR (ke Z Z) Z Z Z (fun h21=> ?_) (fun h21=> ?_)
 refine G (N Z Z)<|G (Yb Z)<|ZN<|ZN<|ZN<|ZN<|G (Kt Z Z)<|G (Yb Z)<|ZN<|ZN<|ZN<|G (Kt Z Z)<|G (Yb Z)<|ZN<|ZN<|ZN<|G (Kt Z Z)<|G (Yb Z)<|ZN<|ZN<|ZN<|G (Kt Z Z)<|G (Yb Z)<|ZN<|ZN<|ZN<|ZN<|ZN<|G (Kt Z Z)<|G (Yb Z)<|ZN<|ZN<|ZN<|ZN<|ZN<|ZN<|ZN<|ZN<|ZN<|ZN ?_
 refine ZN<|ZN<|ZN<|G (Kt Z Z)<|U<|ZT Z<|W<|Zr<|G (Wb Z)<|U<|Zt ?_
 have hv:fG ck nx t=false:=by
  cases hh:fG ck nx t
  rfl
  obtain⟨a1,a2,a3,a4,a5,a6,a7,a8,a9,a10,a11⟩:=cB.1 hh
  exfalso
  first|omega|simp_all
 exact cF (v:=.bool false) Z Z ⟨by rw[hv],H.below⟩
 refine G (N Z Z)<|G (Yb Z)<|ZG<|G (Zf gx Z)<|ZG<|G (Zd aj H 0 Z Z Z)<|ZG<|cd sX (AM t.ver _) Z Z ?_
 rintro _ w4 ⟨rfl,hb⟩;replace H:=H.later hb;clear hb
 refine ZG<|G (dO Z)<|G (N Z Z)<|G (Yb Z) ?_
 refine mq 29 Z (fun h29=> ?_) (fun h29=> ?_)
 refine ZN<|ZN<|ZN<|G (Kt Z Z)<|G (Yb Z)<|ZN<|ZN<|ZN<|G (Kt Z Z)<|G (Yb Z)<|ZN<|ZN<|ZN<|G (Kt Z Z)<|G (Yb Z)<|ZN<|ZN<|ZN<|ZN<|ZN<|G (Kt Z Z)<|G (Yb Z)<|ZN<|ZN<|ZN<|ZN<|ZN<|ZN<|ZN<|ZN<|ZN<|ZN<|ZN<|ZN<|ZN<|G (Kt Z Z)<|U<|ZT Z<|W<|Zr ?_
 refine G (Wb Z)<|U<|Zt ?_
 have hv:fG ck nx t=false:=by
  cases hh:fG ck nx t
  rfl
  obtain⟨a1,a2,a3,a4,a5,a6,a7,a8,a9,a10,a11⟩:=cB.1 hh
  exfalso
  first|omega|simp_all
 exact cF (v:=.bool false) Z Z ⟨by rw[hv],H.below⟩
 refine ZG<|G (Zf cS Z)<|ZG<|G (Zd aj H 0 Z Z Z)<|ZG ?_
 refine cR (cG Z Z) Z Z Z (fun h32=> ?_) (fun h32=> ?_)
 refine G (N Z Z)<|G (Yb Z)<|ZN<|ZN<|ZN<|G (Kt Z Z)<|G (Yb Z)<|ZN<|ZN<|ZN<|G (Kt Z Z)<|G (Yb Z)<|ZN<|ZN<|ZN<|ZN<|ZN<|G (Kt Z Z)<|G (Yb Z)<|ZN<|ZN<|ZN<|ZN<|ZN<|ZN<|ZN<|ZN<|ZN<|ZN<|ZN<|ZN<|ZN<|G (Kt Z Z)<|U<|ZT Z<|W<|Zr<|G (Wb Z)<|U<|Zt ?_
 have hv:fG ck nx t=false:=by
  cases hh:fG ck nx t
  rfl
  obtain⟨a1,a2,a3,a4,a5,a6,a7,a8,a9,a10,a11⟩:=cB.1 hh
  exfalso
  first|omega|simp_all
 exact cF (v:=.bool false) Z Z ⟨by rw[hv],H.below⟩
 refine G (N Z Z)<|G (Yb Z)<|ZG<|G (Zf cS Z)<|ZG<|G (Zd aj H 0 Z Z Z)<|ZG ?_
 refine cR (jV Z Z) Z Z Z (fun h37=> ?_) (fun h37=> ?_)
 refine G (N Z Z)<|G (Yb Z)<|ZN<|ZN<|ZN<|G (Kt Z Z)<|G (Yb Z)<|ZN<|ZN<|ZN<|ZN<|ZN<|G (Kt Z Z)<|G (Yb Z)<|ZN<|ZN<|ZN<|ZN<|ZN<|ZN<|ZN<|ZN<|ZN<|ZN<|ZN<|ZN<|ZN<|G (Kt Z Z)<|U<|ZT Z<|W<|Zr<|G (Wb Z)<|U<|Zt ?_
 have hv:fG ck nx t=false:=by
  cases hh:fG ck nx t
  rfl
  obtain⟨a1,a2,a3,a4,a5,a6,a7,a8,a9,a10,a11⟩:=cB.1 hh
  exfalso
  first|omega|simp_all
 exact cF (v:=.bool false) Z Z ⟨by rw[hv],H.below⟩
 refine G (N Z Z)<|G (Yb Z)<|ZG<|G (Zf tT Z)<|ZG<|G (Zd aj H 0 Z Z Z)<|ZG ?_
 refine cR (cG Z Z) Z Z Z (fun h42=> ?_) (fun h42=> ?_)
 refine G (N Z Z)<|G (Yb Z)<|ZN<|ZN<|ZN<|ZN<|ZN<|G (Kt Z Z)<|G (Yb Z)<|ZN<|ZN<|ZN<|ZN<|ZN<|ZN<|ZN<|ZN<|ZN<|ZN<|ZN<|ZN<|ZN<|G (Kt Z Z)<|U<|ZT Z<|W<|Zr<|G (Wb Z)<|U<|Zt ?_
 have hv:fG ck nx t=false:=by
  cases hh:fG ck nx t
  rfl
  obtain⟨a1,a2,a3,a4,a5,a6,a7,a8,a9,a10,a11⟩:=cB.1 hh
  exfalso
  first|omega|simp_all
 exact cF (v:=.bool false) Z Z ⟨by rw[hv],H.below⟩
 refine G (N Z Z)<|G (Yb Z)<|ZG<|G (Zf tT Z)<|ZG<|G (Zd aj H 0 Z Z Z)<|ZG<|G (Zf km Z)<|ZG<|G (Zd aj H 1 Z Z Z)<|ZG ?_
 refine cR (jV Z Z) Z Z Z (fun h49=> ?_) (fun h49=> ?_)
 refine G (N Z Z)<|G (Yb Z)<|ZN<|ZN<|ZN<|ZN<|ZN<|ZN<|ZN<|ZN<|ZN<|ZN<|ZN<|ZN<|ZN<|G (Kt Z Z)<|U<|ZT Z<|W<|Zr<|G (Wb Z)<|U<|Zt ?_
 have hv:fG ck nx t=false:=by
  cases hh:fG ck nx t
  rfl
  obtain⟨a1,a2,a3,a4,a5,a6,a7,a8,a9,a10,a11⟩:=cB.1 hh
  exfalso
  first|omega|simp_all
 exact cF (v:=.bool false) Z Z ⟨by rw[hv],H.below⟩
 refine G (N Z Z)<|G (Yb Z)<|ZG<|G (Zf jg Z)<|ZG<|G (Zd aj H 0 Z Z Z)<|ZG ?_
 refine qU (i6 Z Z) Z Z Z (fun h54=> ?_) (fun h54=> ?_)
 refine ZG<|G (Yb Z)<|ZG<|G (Zf jg Z)<|ZG<|G (Zd aj H 0 Z Z Z)<|ZG ?_
 refine qU (i6 Z Z) Z Z Z (fun h58=> ?_) (fun h58=> ?_)
 refine ZG<|G (Kt Z Z)<|ZG<|G (Yb Z)<|ZG<|G (Zf jg Z)<|ZG<|G (Zd aj H 0 Z Z Z)<|ZG ?_
 refine qU (i6 Z Z) Z Z Z (fun h63=> ?_) (fun h63=> ?_)
 refine ZG<|G (Kt Z Z)<|G (N Z Z)<|U<|ZT Z<|W<|Zr<|G (Wb Z)<|U<|Zt ?_
 have hv:fG ck nx t=false:=by
  cases hh:fG ck nx t
  rfl
  obtain⟨a1,a2,a3,a4,a5,a6,a7,a8,a9,a10,a11⟩:=cB.1 hh
  exfalso
  first|omega|simp_all
 exact cF (v:=.bool false) Z Z ⟨by rw[hv],H.below⟩
 refine ZG<|G (Kt Z Z)<|G (N Z Z)<|U<|ZF Z<|Zk<|W<|W<|Zr<|G (Zf dy Z)<|G (Zd cr H 0 Z Z Z)<|G (bn eF Z)<|G (Yi Z)<|U<|Zb ?_
 refine cf (τ:=Nat×Int) [4,5,6,69,70,71,72,73,74,75,76,77,78,79,80,81,82,83,84,85,86,87,88,89,90,91,92,93,94] (fun(k,_)=>[(69,J (k:Nat))]) (fun(k,last) w'=>k<=t.parts.length/\cT (-1) t.parts=cT last (t.parts.drop k)/\(k=0->last= -1)/\(∀ j,k=j+1->t.parts[j]? =some last)/\ -1<=last/\Hp w w' [(b3,.cells t.c.toArray dE (0,0))] [dG bS 0 w.heap.size t.A t.parts]) (fun(k,_)=>t.parts.length-k) (0,-1) ⟨by omega,by rw[lY],fun _=>rfl,fun j hj=>by omega,by omega,H.forget (pe _ (.cons _ (ap _))) (fun _ h=>h)⟩ (dF Z) ?_
 rintro⟨k,last⟩ ρ1 w5 ⟨hk,hpo,hl0,hl1,hl2,H⟩
 show CW _ _ _ _ (dv (gk _ _ ρ1) [(69,J (k:Nat))]) w5
 refine W<|Zr ?_
 refine cR (cG Z Z) Z Z Z (fun h70=> ?_) (fun h70=> ?_)
 refine U<|W<|ZT Z<|Zk<|W<|Zb<|W<|Zr<|G (Yi Z)<|pK H 0 Z aZ Z Z I I Z fun b6 o6 x6 e6=> ?_
 have hxk:=e6.at_
 have hdrop:=cN hxk
 refine G (aV aj Z (e6.cl 0 _ Z))<|G (Wi Z)<|G (Wi Z)<|U<|W<|Zr<|G (Yi Z) ?_
 refine cR (cG Z Z) Z Z Z (fun h75=> ?_) (fun h75=> ?_)
 refine G (Yb Z)<|ZN<|ZN<|G (Kt Z Z)<|G (Yb Z)<|ZN<|ZN<|ZN<|ZN<|ZN<|ZN<|ZN<|ZN<|ZN<|ZN<|ZN<|ZN<|G (Kt Z Z)<|U<|ZT Z<|W<|Zr<|G (Wb Z)<|U<|Zt ?_
 have hv:fG ck nx t=false:=by
  cases hh:fG ck nx t
  rfl
  obtain⟨a1,a2,a3,a4,a5,a6,a7,a8,a9,a10,a11⟩:=cB.1 hh
  exfalso
  rw[hpo,hdrop]at a10
  simp only[cT,aS,decide_eq_true_eq]at a10
  obtain⟨⟨q1,q2⟩,-⟩:=a10
  omega
 exact cF (v:=.bool false) Z Z ⟨by rw[hv],H.below⟩
 refine G (Yb Z)<|ZG<|G (Yi Z)<|ZG ?_
 refine cR (ke Z Z) Z Z Z (fun h78=> ?_) (fun h78=> ?_)
 refine G (N Z Z)<|G (Yb Z)<|ZN<|ZN<|ZN<|ZN<|ZN<|ZN<|ZN<|ZN<|ZN<|ZN<|ZN<|ZN<|G (Kt Z Z)<|U<|ZT Z<|W<|Zr<|G (Wb Z)<|U<|Zt ?_
 have hv:fG ck nx t=false:=by
  cases hh:fG ck nx t
  rfl
  obtain⟨a1,a2,a3,a4,a5,a6,a7,a8,a9,a10,a11⟩:=cB.1 hh
  exfalso
  rw[hpo,hdrop]at a10
  simp only[cT,aS,decide_eq_true_eq]at a10
  obtain⟨⟨q1,q2⟩,-⟩:=a10
  omega
 exact cF (v:=.bool false) Z Z ⟨by rw[hv],H.below⟩
 refine G (N Z Z)<|G (Yb Z)<|ZG<|G (Yi Z)<|ZG ?_
 refine cR (jV Z Z) Z Z Z (fun h82=> ?_) (fun h82=> ?_)
 refine ZG<|G (Yb Z)<|ZG<|G (Zf dy Z)<|ZG<|G (Zd cr H 0 Z Z Z)<|ZG<|G (Yi Z)<|ZG<|G (mX Z Z I I) ?_
 rw[show(k:Int)-1=((k-1:Nat):Int) by omega]
 refine ZG<|pK H 0 Z aZ Z Z I I Z fun b7 o7 x7 e7=> ?_
 have hprev:=e7.at_
 refine ZG<|G (aV aj Z (e7.cl 0 _ Z))<|ZG<|G (Yi Z)<|ZG ?_
 refine cR (ke Z Z) Z Z Z (fun h91=> ?_) (fun h91=> ?_)
 refine ZG<|G (Kt Z Z)<|G (N Z Z)<|U<|ZT Z<|W<|Zr<|G (Wb Z)<|U<|Zt ?_
 have hv:fG ck nx t=false:=by
  cases hh:fG ck nx t
  rfl
  obtain⟨a1,a2,a3,a4,a5,a6,a7,a8,a9,a10,a11⟩:=cB.1 hh
  exfalso
  rw[hpo,hdrop]at a10
  simp only[cT,aS,decide_eq_true_eq]at a10
  obtain⟨⟨q1,q2⟩,-⟩:=a10
  obtain⟨j,rfl⟩: ∃ j,k=j+1:=⟨k-1,by omega⟩;have:=hl1 j Z;rw[show j+1-1=j by omega,this]at hprev;injection hprev with hprev;omega
 exact cF (v:=.bool false) Z Z ⟨by rw[hv],H.below⟩
 refine ZG<|G (Kt Z Z)<|G (N Z Z)<|U<|ZF Z<|Zk<|Zr<|G (bp Z Z I I)<|G (Yi Z)<|U ?_
 have hlt:last<x6:=by
  obtain⟨j,rfl⟩: ∃ j,k=j+1:=⟨k-1,by omega⟩
  have h1:=hl1 j Z
  rw[show j+1-1=j by omega,h1]at hprev
  injection hprev with hprev
  omega
 have h4:x6<4:=by omega
 refine⟨(k+1,x6),⟨by omega,?_,fun h=>by omega,fun j hj=> ?_,by omega,H⟩,dF Z,Qg,by show t.parts.length- (k+1)<t.parts.length-k;omega⟩
 rw[hpo,hdrop];simp only[cT,decide_eq_true hlt,decide_eq_true h4,gW]
 obtain rfl:j=k:=by omega
 exact hxk
 refine ZG<|G (Yb Z)<|ZN<|ZN<|ZN<|ZN<|ZN<|ZN<|ZN<|ZN<|ZG<|G (N Z Z)<|G (N Z Z)<|U<|ZF Z<|Zk<|Zr<|G (bp Z Z I I)<|G (Yi Z)<|U ?_
 have hlt:last<x6:=by
  have:=hl0 I
  omega
 have h4:x6<4:=by omega
 refine⟨(k+1,x6),⟨by omega,?_,fun h=>by omega,fun j hj=> ?_,by omega,H⟩,dF Z,Qg,by show t.parts.length- (k+1)<t.parts.length-k;omega⟩
 rw[hpo,hdrop];simp only[cT,decide_eq_true hlt,decide_eq_true h4,gW]
 obtain rfl:j=k:=by omega
 exact hxk
 have hke:k=t.parts.length:=by omega
 have hall:cT (-1) t.parts=true:=by rw[hpo,hke,fq];rfl
 refine U<|W<|ZF Z<|Zx<|W<|Zr<|G (Zf cS Z)<|G (Zd aj H 0 Z Z Z)<|G (bh Z Z)<|G (Zf dy Z)<|G (Zd cr H 0 Z Z Z)<|G (bn eF Z)<|G (bh Z Z)<|G (Ed wg Z Z)<|G (Wb Z)<|U<|Zt ?_
 have hv:fG ck nx t=(decide (t.state=1)==decide ((t.parts.length:Int)=0)):=by
  rw[xk,cB,beq_iff_eq,decide_eq_decide]
  constructor
  rintro⟨-,-,-,-,-,-,-,-,-,-,h⟩
  exact h.trans ⟨fun x=>by omega,fun x=>by omega⟩
  intro h
  exact⟨by simpa using h11,by omega,by omega,by simpa using h29,by omega,by omega,by omega,by omega,by omega,hall,h.trans ⟨fun x=>by omega,fun x=>by omega⟩⟩
 exact cF (v:=.bool (decide (t.state=1)==decide ((t.parts.length:Int)=0))) Z Z ⟨by rw[hv],H.below⟩
 refine ZG<|G (Kt Z Z)<|ZG<|G (Yb Z)<|ZN<|ZN<|ZN<|ZG<|G (N Z Z)<|G (N Z Z)<|U<|ZF Z<|Zk<|W<|W<|Zr<|G (Zf dy Z)<|G (Zd cr H 0 Z Z Z)<|G (bn eF Z)<|G (Yi Z)<|U<|Zb ?_
 refine cf (τ:=Nat×Int) [4,5,6,69,70,71,72,73,74,75,76,77,78,79,80,81,82,83,84,85,86,87,88,89,90,91,92,93,94] (fun(k,_)=>[(69,J (k:Nat))]) (fun(k,last) w'=>k<=t.parts.length/\cT (-1) t.parts=cT last (t.parts.drop k)/\(k=0->last= -1)/\(∀ j,k=j+1->t.parts[j]? =some last)/\ -1<=last/\Hp w w' [(b3,.cells t.c.toArray dE (0,0))] [dG bS 0 w.heap.size t.A t.parts]) (fun(k,_)=>t.parts.length-k) (0,-1) ⟨by omega,by rw[lY],fun _=>rfl,fun j hj=>by omega,by omega,H.forget (pe _ (.cons _ (ap _))) (fun _ h=>h)⟩ (dF Z) ?_
 rintro⟨k,last⟩ ρ1 w8 ⟨hk,hpo,hl0,hl1,hl2,H⟩
 show CW _ _ _ _ (dv (gk _ _ ρ1) [(69,J (k:Nat))]) w8
 refine W<|Zr ?_
 refine cR (cG Z Z) Z Z Z (fun h70=> ?_) (fun h70=> ?_)
 refine U<|W<|ZT Z<|Zk<|W<|Zb<|W<|Zr<|G (Yi Z)<|pK H 0 Z aZ Z Z I I Z fun b9 o9 x9 e9=> ?_
 have hxk:=e9.at_
 have hdrop:=cN hxk
 refine G (aV aj Z (e9.cl 0 _ Z))<|G (Wi Z)<|G (Wi Z)<|U<|W<|Zr<|G (Yi Z) ?_
 refine cR (cG Z Z) Z Z Z (fun h75=> ?_) (fun h75=> ?_)
 refine G (Yb Z)<|ZN<|ZN<|G (Kt Z Z)<|G (Yb Z)<|ZN<|ZN<|ZN<|ZN<|ZN<|ZN<|ZN<|ZN<|ZN<|ZN<|ZN<|ZN<|G (Kt Z Z)<|U<|ZT Z<|W<|Zr<|G (Wb Z)<|U<|Zt ?_
 have hv:fG ck nx t=false:=by
  cases hh:fG ck nx t
  rfl
  obtain⟨a1,a2,a3,a4,a5,a6,a7,a8,a9,a10,a11⟩:=cB.1 hh
  exfalso
  rw[hpo,hdrop]at a10
  simp only[cT,aS,decide_eq_true_eq]at a10
  obtain⟨⟨q1,q2⟩,-⟩:=a10
  omega
 exact cF (v:=.bool false) Z Z ⟨by rw[hv],H.below⟩
 refine G (Yb Z)<|ZG<|G (Yi Z)<|ZG ?_
 refine cR (ke Z Z) Z Z Z (fun h78=> ?_) (fun h78=> ?_)
 refine G (N Z Z)<|G (Yb Z)<|ZN<|ZN<|ZN<|ZN<|ZN<|ZN<|ZN<|ZN<|ZN<|ZN<|ZN<|ZN<|G (Kt Z Z)<|U<|ZT Z<|W<|Zr<|G (Wb Z)<|U<|Zt ?_
 have hv:fG ck nx t=false:=by
  cases hh:fG ck nx t
  rfl
  obtain⟨a1,a2,a3,a4,a5,a6,a7,a8,a9,a10,a11⟩:=cB.1 hh
  exfalso
  rw[hpo,hdrop]at a10
  simp only[cT,aS,decide_eq_true_eq]at a10
  obtain⟨⟨q1,q2⟩,-⟩:=a10
  omega
 exact cF (v:=.bool false) Z Z ⟨by rw[hv],H.below⟩
 refine G (N Z Z)<|G (Yb Z)<|ZG<|G (Yi Z)<|ZG ?_
 refine cR (jV Z Z) Z Z Z (fun h82=> ?_) (fun h82=> ?_)
 refine ZG<|G (Yb Z)<|ZG<|G (Zf dy Z)<|ZG<|G (Zd cr H 0 Z Z Z)<|ZG<|G (Yi Z)<|ZG<|G (mX Z Z I I) ?_
 rw[show(k:Int)-1=((k-1:Nat):Int) by omega]
 refine ZG<|pK H 0 Z aZ Z Z I I Z fun b10 o10 x10 e10=> ?_
 have hprev:=e10.at_
 refine ZG<|G (aV aj Z (e10.cl 0 _ Z))<|ZG<|G (Yi Z)<|ZG ?_
 refine cR (ke Z Z) Z Z Z (fun h91=> ?_) (fun h91=> ?_)
 refine ZG<|G (Kt Z Z)<|G (N Z Z)<|U<|ZT Z<|W<|Zr<|G (Wb Z)<|U<|Zt ?_
 have hv:fG ck nx t=false:=by
  cases hh:fG ck nx t
  rfl
  obtain⟨a1,a2,a3,a4,a5,a6,a7,a8,a9,a10,a11⟩:=cB.1 hh
  exfalso
  rw[hpo,hdrop]at a10
  simp only[cT,aS,decide_eq_true_eq]at a10
  obtain⟨⟨q1,q2⟩,-⟩:=a10
  obtain⟨j,rfl⟩: ∃ j,k=j+1:=⟨k-1,by omega⟩;have:=hl1 j Z;rw[show j+1-1=j by omega,this]at hprev;injection hprev with hprev;omega
 exact cF (v:=.bool false) Z Z ⟨by rw[hv],H.below⟩
 refine ZG<|G (Kt Z Z)<|G (N Z Z)<|U<|ZF Z<|Zk<|Zr<|G (bp Z Z I I)<|G (Yi Z)<|U ?_
 have hlt:last<x9:=by
  obtain⟨j,rfl⟩: ∃ j,k=j+1:=⟨k-1,by omega⟩
  have h1:=hl1 j Z
  rw[show j+1-1=j by omega,h1]at hprev
  injection hprev with hprev
  omega
 have h4:x9<4:=by omega
 refine⟨(k+1,x9),⟨by omega,?_,fun h=>by omega,fun j hj=> ?_,by omega,H⟩,dF Z,Qg,by show t.parts.length- (k+1)<t.parts.length-k;omega⟩
 rw[hpo,hdrop];simp only[cT,decide_eq_true hlt,decide_eq_true h4,gW]
 obtain rfl:j=k:=by omega
 exact hxk
 refine ZG<|G (Yb Z)<|ZN<|ZN<|ZN<|ZN<|ZN<|ZN<|ZN<|ZN<|ZG<|G (N Z Z)<|G (N Z Z)<|U<|ZF Z<|Zk<|Zr<|G (bp Z Z I I)<|G (Yi Z)<|U ?_
 have hlt:last<x9:=by
  have:=hl0 I
  omega
 have h4:x9<4:=by omega
 refine⟨(k+1,x9),⟨by omega,?_,fun h=>by omega,fun j hj=> ?_,by omega,H⟩,dF Z,Qg,by show t.parts.length- (k+1)<t.parts.length-k;omega⟩
 rw[hpo,hdrop];simp only[cT,decide_eq_true hlt,decide_eq_true h4,gW]
 obtain rfl:j=k:=by omega
 exact hxk
 have hke:k=t.parts.length:=by omega
 have hall:cT (-1) t.parts=true:=by rw[hpo,hke,fq];rfl
 refine U<|W<|ZF Z<|Zx<|W<|Zr<|G (Zf cS Z)<|G (Zd aj H 0 Z Z Z)<|G (bh Z Z)<|G (Zf dy Z)<|G (Zd cr H 0 Z Z Z)<|G (bn eF Z)<|G (bh Z Z)<|G (Ed wg Z Z)<|G (Wb Z)<|U<|Zt ?_
 have hv:fG ck nx t=(decide (t.state=1)==decide ((t.parts.length:Int)=0)):=by
  rw[xk,cB,beq_iff_eq,decide_eq_decide]
  constructor
  rintro⟨-,-,-,-,-,-,-,-,-,-,h⟩
  exact h.trans ⟨fun x=>by omega,fun x=>by omega⟩
  intro h
  exact⟨by simpa using h11,by omega,by omega,by simpa using h29,by omega,by omega,by omega,by omega,by omega,hall,h.trans ⟨fun x=>by omega,fun x=>by omega⟩⟩
 exact cF (v:=.bool (decide (t.state=1)==decide ((t.parts.length:Int)=0))) Z Z ⟨by rw[hv],H.below⟩
 refine ZG<|G (Yb Z)<|ZN<|ZN<|ZN<|ZG<|G (N Z Z)<|ZG<|G (Yb Z)<|ZN<|ZN<|ZN<|ZG<|G (N Z Z)<|G (N Z Z)<|U<|ZF Z<|Zk<|W<|W<|Zr<|G (Zf dy Z)<|G (Zd cr H 0 Z Z Z)<|G (bn eF Z)<|G (Yi Z)<|U<|Zb ?_
 refine cf (τ:=Nat×Int) [4,5,6,69,70,71,72,73,74,75,76,77,78,79,80,81,82,83,84,85,86,87,88,89,90,91,92,93,94] (fun(k,_)=>[(69,J (k:Nat))]) (fun(k,last) w'=>k<=t.parts.length/\cT (-1) t.parts=cT last (t.parts.drop k)/\(k=0->last= -1)/\(∀ j,k=j+1->t.parts[j]? =some last)/\ -1<=last/\Hp w w' [(b3,.cells t.c.toArray dE (0,0))] [dG bS 0 w.heap.size t.A t.parts]) (fun(k,_)=>t.parts.length-k) (0,-1) ⟨by omega,by rw[lY],fun _=>rfl,fun j hj=>by omega,by omega,H.forget (pe _ (.cons _ (ap _))) (fun _ h=>h)⟩ (dF Z) ?_
 rintro⟨k,last⟩ ρ1 w11 ⟨hk,hpo,hl0,hl1,hl2,H⟩
 show CW _ _ _ _ (dv (gk _ _ ρ1) [(69,J (k:Nat))]) w11
 refine W<|Zr ?_
 refine cR (cG Z Z) Z Z Z (fun h70=> ?_) (fun h70=> ?_)
 refine U<|W<|ZT Z<|Zk<|W<|Zb<|W<|Zr<|G (Yi Z)<|pK H 0 Z aZ Z Z I I Z fun b12 o12 x12 e12=> ?_
 have hxk:=e12.at_
 have hdrop:=cN hxk
 refine G (aV aj Z (e12.cl 0 _ Z))<|G (Wi Z)<|G (Wi Z)<|U<|W<|Zr<|G (Yi Z) ?_
 refine cR (cG Z Z) Z Z Z (fun h75=> ?_) (fun h75=> ?_)
 refine G (Yb Z)<|ZN<|ZN<|G (Kt Z Z)<|G (Yb Z)<|ZN<|ZN<|ZN<|ZN<|ZN<|ZN<|ZN<|ZN<|ZN<|ZN<|ZN<|ZN<|G (Kt Z Z)<|U<|ZT Z<|W<|Zr<|G (Wb Z)<|U<|Zt ?_
 have hv:fG ck nx t=false:=by
  cases hh:fG ck nx t
  rfl
  obtain⟨a1,a2,a3,a4,a5,a6,a7,a8,a9,a10,a11⟩:=cB.1 hh
  exfalso
  rw[hpo,hdrop]at a10
  simp only[cT,aS,decide_eq_true_eq]at a10
  obtain⟨⟨q1,q2⟩,-⟩:=a10
  omega
 exact cF (v:=.bool false) Z Z ⟨by rw[hv],H.below⟩
 refine G (Yb Z)<|ZG<|G (Yi Z)<|ZG ?_
 refine cR (ke Z Z) Z Z Z (fun h78=> ?_) (fun h78=> ?_)
 refine G (N Z Z)<|G (Yb Z)<|ZN<|ZN<|ZN<|ZN<|ZN<|ZN<|ZN<|ZN<|ZN<|ZN<|ZN<|ZN<|G (Kt Z Z)<|U<|ZT Z<|W<|Zr<|G (Wb Z)<|U<|Zt ?_
 have hv:fG ck nx t=false:=by
  cases hh:fG ck nx t
  rfl
  obtain⟨a1,a2,a3,a4,a5,a6,a7,a8,a9,a10,a11⟩:=cB.1 hh
  exfalso
  rw[hpo,hdrop]at a10
  simp only[cT,aS,decide_eq_true_eq]at a10
  obtain⟨⟨q1,q2⟩,-⟩:=a10
  omega
 exact cF (v:=.bool false) Z Z ⟨by rw[hv],H.below⟩
 refine G (N Z Z)<|G (Yb Z)<|ZG<|G (Yi Z)<|ZG ?_
 refine cR (jV Z Z) Z Z Z (fun h82=> ?_) (fun h82=> ?_)
 refine ZG<|G (Yb Z)<|ZG<|G (Zf dy Z)<|ZG<|G (Zd cr H 0 Z Z Z)<|ZG<|G (Yi Z)<|ZG<|G (mX Z Z I I) ?_
 rw[show(k:Int)-1=((k-1:Nat):Int) by omega]
 refine ZG<|pK H 0 Z aZ Z Z I I Z fun b13 o13 x13 e13=> ?_
 have hprev:=e13.at_
 refine ZG<|G (aV aj Z (e13.cl 0 _ Z))<|ZG<|G (Yi Z)<|ZG ?_
 refine cR (ke Z Z) Z Z Z (fun h91=> ?_) (fun h91=> ?_)
 refine ZG<|G (Kt Z Z)<|G (N Z Z)<|U<|ZT Z<|W<|Zr<|G (Wb Z)<|U<|Zt ?_
 have hv:fG ck nx t=false:=by
  cases hh:fG ck nx t
  rfl
  obtain⟨a1,a2,a3,a4,a5,a6,a7,a8,a9,a10,a11⟩:=cB.1 hh
  exfalso
  rw[hpo,hdrop]at a10
  simp only[cT,aS,decide_eq_true_eq]at a10
  obtain⟨⟨q1,q2⟩,-⟩:=a10
  obtain⟨j,rfl⟩: ∃ j,k=j+1:=⟨k-1,by omega⟩;have:=hl1 j Z;rw[show j+1-1=j by omega,this]at hprev;injection hprev with hprev;omega
 exact cF (v:=.bool false) Z Z ⟨by rw[hv],H.below⟩
 refine ZG<|G (Kt Z Z)<|G (N Z Z)<|U<|ZF Z<|Zk<|Zr<|G (bp Z Z I I)<|G (Yi Z)<|U ?_
 have hlt:last<x12:=by
  obtain⟨j,rfl⟩: ∃ j,k=j+1:=⟨k-1,by omega⟩
  have h1:=hl1 j Z
  rw[show j+1-1=j by omega,h1]at hprev
  injection hprev with hprev
  omega
 have h4:x12<4:=by omega
 refine⟨(k+1,x12),⟨by omega,?_,fun h=>by omega,fun j hj=> ?_,by omega,H⟩,dF Z,Qg,by show t.parts.length- (k+1)<t.parts.length-k;omega⟩
 rw[hpo,hdrop];simp only[cT,decide_eq_true hlt,decide_eq_true h4,gW]
 obtain rfl:j=k:=by omega
 exact hxk
 refine ZG<|G (Yb Z)<|ZN<|ZN<|ZN<|ZN<|ZN<|ZN<|ZN<|ZN<|ZG<|G (N Z Z)<|G (N Z Z)<|U<|ZF Z<|Zk<|Zr<|G (bp Z Z I I)<|G (Yi Z)<|U ?_
 have hlt:last<x12:=by
  have:=hl0 I
  omega
 have h4:x12<4:=by omega
 refine⟨(k+1,x12),⟨by omega,?_,fun h=>by omega,fun j hj=> ?_,by omega,H⟩,dF Z,Qg,by show t.parts.length- (k+1)<t.parts.length-k;omega⟩
 rw[hpo,hdrop];simp only[cT,decide_eq_true hlt,decide_eq_true h4,gW]
 obtain rfl:j=k:=by omega
 exact hxk
 have hke:k=t.parts.length:=by omega
 have hall:cT (-1) t.parts=true:=by rw[hpo,hke,fq];rfl
 refine U<|W<|ZF Z<|Zx<|W<|Zr<|G (Zf cS Z)<|G (Zd aj H 0 Z Z Z)<|G (bh Z Z)<|G (Zf dy Z)<|G (Zd cr H 0 Z Z Z)<|G (bn eF Z)<|G (bh Z Z)<|G (Ed wg Z Z)<|G (Wb Z)<|U<|Zt ?_
 have hv:fG ck nx t=(decide (t.state=1)==decide ((t.parts.length:Int)=0)):=by
  rw[xk,cB,beq_iff_eq,decide_eq_decide]
  constructor
  rintro⟨-,-,-,-,-,-,-,-,-,-,h⟩
  exact h.trans ⟨fun x=>by omega,fun x=>by omega⟩
  intro h
  exact⟨by simpa using h11,by omega,by omega,by simpa using h29,by omega,by omega,by omega,by omega,by omega,hall,h.trans ⟨fun x=>by omega,fun x=>by omega⟩⟩
 exact cF (v:=.bool (decide (t.state=1)==decide ((t.parts.length:Int)=0))) Z Z ⟨by rw[hv],H.below⟩
/-- a coordinator, and where its rows lie -/
structure Co where
 clock:Int
 next:Int
 wait:Int
 txs:List Tx
 A:Option Addr
 cap:Nat
def Co.c (c:Co):List Value:=[J c.clock,J c.next,J c.wait,.slice c.A c.txs.length c.cap]
abbrev Co.v (c:Co):Value:=.agg c.c.toArray
def iE (lo hi:Nat) (txs:List Tx):ci:=⟨lo,hi,fun w=> ∀ t∈txs,Rd bS lo hi t.A t.parts w,fun _ _ hk h t ht=>(h t ht).st hk⟩
theorem fu {w0 w:World} {L:List (Nat×Obj)} {F:List ci} {lo hi:Nat} {txs:List Tx} (H:Hp w0 w L F) (i:Nat) (hF:F[i]? =some (iE lo hi txs)) {t:Tx} (ht:t∈txs):Rd bS 0 w.heap.size t.A t.parts w:=
 Rd.mono ((H.fact hF) t ht) (bA _) (H.facts _ (ae hF)).2.1
def sg (t:Tx) (p:Tx):Bool:=decide (p.name=t.name)||decide (p.pid=t.pid)
def nU (ck nx:Int):List Tx->List Tx->Bool
 |_,[]=>true
 |pre,t::l=>fG ck nx t&&!(pre.any (sg t))&&nU ck nx (pre++[t]) l
def gB (c:Co):Bool:=iQ c.clock&&decide (1<=c.next)&&decide (c.next<=1073741824)&&decide (1<=c.wait)&&decide (c.wait<=1000)&&decide ((c.txs.length:Int)<=8)&&nU c.clock c.next [] c.txs
theorem iU {c:Co}:gB c=true↔iQ c.clock=true/\1<=c.next/\c.next<=1073741824/\1<=c.wait/\c.wait<=1000/\(c.txs.length:Int)<=8/\nU c.clock c.next [] c.txs=true:=by
 unfold gB
 simp only[aS,decide_eq_true_eq,and_assoc]
structure Co.rd (c:Co) (lo hi:Nat) (w:World):Prop where
 row:Rd rx lo hi c.A c.txs w
 parts: ∀ t∈c.txs,Rd bS lo hi t.A t.parts w
 cap:c.txs.length<=c.cap
 few:c.txs.length<=1000000
 fewP: ∀ t∈c.txs,t.parts.length<=1000000/\t.parts.length<=t.cap
theorem Hp.startCo {c:Co} {w:World} (h:c.rd 0 w.heap.size w):Hp w w [] [dG rx 0 w.heap.size c.A c.txs,iE 0 w.heap.size c.txs]:=
 ((Hp.start w).learnOld (iE 0 w.heap.size c.txs) h.parts (ao _)).learnOld (dG rx 0 w.heap.size c.A c.txs) h.row (ao _)
theorem qc (c:Co) (w:World) (h:c.rd 0 w.heap.size w):dd aa BD [c.v] w fun v w2=>v=J (if gB c then 0 else 12)/\Below w.heap.size w w2:=by
 refine aE Az Z Z ?_
 have hcap:=h.cap
 have hfew:=h.few
 have hfp:=h.fewP
 have H:=Hp.startCo h
 obtain⟨ck,nx,wt,txs,cA,cc⟩:=c
 dsimp only at hcap hfew hfp H
 show CW _ _ _ _ (args [.agg #[J ck,J nx,J wt,.slice cA txs.length cc]]) w
 refine W<|Zr<|fS H Z Z fun w1 b1 H=>G (Wi Z)<|U<|W<|W<|Zr<|G (Zf km Z)<|G (Zd aj H 0 Z Z Z)<|cd sX (AM ck _) Z Z ?_
 rintro _ w2 ⟨rfl,hb⟩;replace H:=H.later hb;clear hb
 refine G (dO Z)<|G (Yb Z) ?_
 refine mq 9 Z (fun h9=> ?_) (fun h9=> ?_)
 refine ZN<|ZN<|ZN<|G (Kt Z Z)<|G (Yb Z)<|ZN<|ZN<|ZN<|G (Kt Z Z)<|G (Yb Z)<|ZN<|ZN<|ZN<|G (Kt Z Z)<|G (Yb Z)<|ZN<|ZN<|ZN<|G (Kt Z Z)<|G (Yb Z)<|ZN<|ZN<|ZN<|ZN<|G (Kt Z Z)<|U<|ZT Z<|W<|Zr<|G (Wi Z)<|U<|Zt ?_
 have hv:gB ⟨ck,nx,wt,txs,cA,cc⟩=false:=by
  cases hh:gB ⟨ck,nx,wt,txs,cA,cc⟩
  rfl
  obtain⟨a1,a2,a3,a4,a5,a6,a7⟩:=iU.1 hh
  dsimp only at a1 a2 a3 a4 a5 a6 a7
  exfalso
  first|omega|simp_all
 exact cF (v:=J 12) Z Z ⟨by rw[hv];rfl,H.below⟩
 refine ZG<|G (Zf kk Z)<|ZG<|G (Zd aj H 0 Z Z Z)<|ZG ?_
 refine cR (cG Z Z) Z Z Z (fun h12=> ?_) (fun h12=> ?_)
 refine G (N Z Z)<|G (Yb Z)<|ZN<|ZN<|ZN<|G (Kt Z Z)<|G (Yb Z)<|ZN<|ZN<|ZN<|G (Kt Z Z)<|G (Yb Z)<|ZN<|ZN<|ZN<|G (Kt Z Z)<|G (Yb Z)<|ZN<|ZN<|ZN<|ZN<|G (Kt Z Z)<|U<|ZT Z<|W<|Zr<|G (Wi Z)<|U<|Zt ?_
 have hv:gB ⟨ck,nx,wt,txs,cA,cc⟩=false:=by
  cases hh:gB ⟨ck,nx,wt,txs,cA,cc⟩
  rfl
  obtain⟨a1,a2,a3,a4,a5,a6,a7⟩:=iU.1 hh
  dsimp only at a1 a2 a3 a4 a5 a6 a7
  exfalso
  first|omega|simp_all
 exact cF (v:=J 12) Z Z ⟨by rw[hv];rfl,H.below⟩
 refine G (N Z Z)<|G (Yb Z)<|ZG<|G (Zf kk Z)<|ZG<|G (Zd aj H 0 Z Z Z)<|ZG ?_
 refine cR (jV Z Z) Z Z Z (fun h17=> ?_) (fun h17=> ?_)
 refine G (N Z Z)<|G (Yb Z)<|ZN<|ZN<|ZN<|G (Kt Z Z)<|G (Yb Z)<|ZN<|ZN<|ZN<|G (Kt Z Z)<|G (Yb Z)<|ZN<|ZN<|ZN<|ZN<|G (Kt Z Z)<|U<|ZT Z<|W<|Zr<|G (Wi Z)<|U<|Zt ?_
 have hv:gB ⟨ck,nx,wt,txs,cA,cc⟩=false:=by
  cases hh:gB ⟨ck,nx,wt,txs,cA,cc⟩
  rfl
  obtain⟨a1,a2,a3,a4,a5,a6,a7⟩:=iU.1 hh
  dsimp only at a1 a2 a3 a4 a5 a6 a7
  exfalso
  first|omega|simp_all
 exact cF (v:=J 12) Z Z ⟨by rw[hv];rfl,H.below⟩
 refine G (N Z Z)<|G (Yb Z)<|ZG<|G (Zf vO Z)<|ZG<|G (Zd aj H 0 Z Z Z)<|ZG ?_
 refine cR (cG Z Z) Z Z Z (fun h22=> ?_) (fun h22=> ?_)
 refine G (N Z Z)<|G (Yb Z)<|ZN<|ZN<|ZN<|G (Kt Z Z)<|G (Yb Z)<|ZN<|ZN<|ZN<|ZN<|G (Kt Z Z)<|U<|ZT Z<|W<|Zr<|G (Wi Z)<|U<|Zt ?_
 have hv:gB ⟨ck,nx,wt,txs,cA,cc⟩=false:=by
  cases hh:gB ⟨ck,nx,wt,txs,cA,cc⟩
  rfl
  obtain⟨a1,a2,a3,a4,a5,a6,a7⟩:=iU.1 hh
  dsimp only at a1 a2 a3 a4 a5 a6 a7
  exfalso
  first|omega|simp_all
 exact cF (v:=J 12) Z Z ⟨by rw[hv];rfl,H.below⟩
 refine G (N Z Z)<|G (Yb Z)<|ZG<|G (Zf vO Z)<|ZG<|G (Zd aj H 0 Z Z Z)<|ZG ?_
 refine cR (jV Z Z) Z Z Z (fun h27=> ?_) (fun h27=> ?_)
 refine G (N Z Z)<|G (Yb Z)<|ZN<|ZN<|ZN<|ZN<|G (Kt Z Z)<|U<|ZT Z<|W<|Zr<|G (Wi Z)<|U<|Zt ?_
 have hv:gB ⟨ck,nx,wt,txs,cA,cc⟩=false:=by
  cases hh:gB ⟨ck,nx,wt,txs,cA,cc⟩
  rfl
  obtain⟨a1,a2,a3,a4,a5,a6,a7⟩:=iU.1 hh
  dsimp only at a1 a2 a3 a4 a5 a6 a7
  exfalso
  first|omega|simp_all
 exact cF (v:=J 12) Z Z ⟨by rw[hv];rfl,H.below⟩
 refine G (N Z Z)<|G (Yb Z)<|ZG<|G (Zf cO Z)<|ZG<|G (Zd dL H 0 Z Z Z)<|ZG<|G (bn lf Z)<|ZG ?_
 refine cR (jV Z Z) Z Z Z (fun h33=> ?_) (fun h33=> ?_)
 refine G (N Z Z)<|U<|ZT Z<|W<|Zr<|G (Wi Z)<|U<|Zt ?_
 have hv:gB ⟨ck,nx,wt,txs,cA,cc⟩=false:=by
  cases hh:gB ⟨ck,nx,wt,txs,cA,cc⟩
  rfl
  obtain⟨a1,a2,a3,a4,a5,a6,a7⟩:=iU.1 hh
  dsimp only at a1 a2 a3 a4 a5 a6 a7
  exfalso
  first|omega|simp_all
 exact cF (v:=J 12) Z Z ⟨by rw[hv];rfl,H.below⟩
 refine G (N Z Z)<|U<|ZF Z<|Zk<|W<|W<|Zr<|G (Zf cO Z)<|G (Zd dL H 0 Z Z Z)<|G (bn lf Z)<|G (Yi Z)<|U<|Zb ?_
 refine cf (τ:=Nat) [2,3,4,38,39,40,41,42,43,44,45,46,47,48,49,50,51,52,53,54,55] (fun k=>[(38,J (k:Nat))]) (fun k w'=>k<=txs.length/\nU ck nx [] txs=nU ck nx (txs.take k) (txs.drop k)/\Hp w w' [(b1,.cells #[J ck,J nx,J wt,.slice cA txs.length cc] bf (0,0))] [dG rx 0 w.heap.size cA txs,iE 0 w.heap.size txs]) (fun k=>txs.length-k) 0 ⟨by omega,by rw[lY,yG],H⟩ (dF Z) ?_
 rintro k ρ1 w3 ⟨hk,hto,H⟩
 show CW _ _ _ _ (dv (gk _ _ ρ1) [(38,J (k:Nat))]) w3
 refine W<|Zr ?_
 refine cR (cG Z Z) Z Z Z (fun h39=> ?_) (fun h39=> ?_)
 refine U<|W<|ZT Z<|Zk<|W<|Zb<|W<|Zr<|G (Yi Z)<|pK H 0 Z gH Z Z I I Z fun b4 o4 x4 e4=> ?_
 have hxk:=e4.at_
 have hdrop:=cN hxk
 refine G (jd (xs:=Tx.c x4) zh Z Z e4.cl)<|eC H Hx Z fun w5 b4 H=>G (Wi Z)<|Kk H 0 HD Z Z Z Z Z Z fun w6 H=>U<|W<|Zr<|G (Zw ax H 1 Z Z Z)<|G (Zw zh H 0 Z Z Z)<|cd D9 (NW ck nx wt cA txs.length cc x4 _ (fu H 1 Z (ae hxk)) (hfp _ (ae hxk)).1) Z Z ?_
 rintro _ w7 ⟨rfl,hb⟩;replace H:=H.later hb;clear hb
 refine G (dO Z)<|G (Yb Z) ?_
 refine mq 47 Z (fun h47=> ?_) (fun h47=> ?_)
 refine ZN<|ZN<|ZN<|ZN<|ZN<|ZN<|G (Kt Z Z)<|U<|ZT Z<|W<|Zr<|G (Wi Z)<|U<|Zt ?_
 have hv:gB ⟨ck,nx,wt,txs,cA,cc⟩=false:=by
  cases hh:gB ⟨ck,nx,wt,txs,cA,cc⟩
  rfl
  obtain⟨a1,a2,a3,a4,a5,a6,a7⟩:=iU.1 hh
  dsimp only at a1 a2 a3 a4 a5 a6 a7
  exfalso
  rw[hto,hdrop]at a7
  simp only[nU,aS]at a7
  obtain⟨⟨q1,q2⟩,-⟩:=a7
  rw[pf]at q2
  first|(rw[q2]at hc54;cases hc54)|simp_all
 exact cF (v:=J 12) Z Z ⟨by rw[hv];rfl,H.below⟩
 refine ZG<|G (Zf cO Z)<|ZG<|G (Zd dL H 1 Z Z Z)<|ZG<|G (Yi Z)<|ZG<|sd (k:=k) H 0 Z gH Z Z hcap I Z fun A51 H=> ?_
 have htl:(txs.take k).length=k:=by rw[aH];omega
 refine ZG<|G (zP Z)<|ZG ?_
 have hC:=fun q=>uM (txs.take k) A51 q _ (H.rd0 0 Z) I rK [.pointer (Qd b4)] wY (sg x4) (fun e w2 _ hw2=>FU e x4 b4 w2 ((hw2.block _ (ce (H.ent (i:=0) Z))).trans (H.ent (i:=0) Z)))
 rw[htl]at hC
 replace hC:=hC cc
 refine cd mW (hC) Z Z ?_
 rintro _ w8 ⟨rfl,hb⟩;replace H:=H.later hb;clear hb
 refine G (N Z Z)<|U ?_
 refine jm Z (fun hc54=> ?_) (fun hc54=> ?_)
 refine W<|Zr<|G (Wi Z)<|U<|Zt ?_
 have hv:gB ⟨ck,nx,wt,txs,cA,cc⟩=false:=by
  cases hh:gB ⟨ck,nx,wt,txs,cA,cc⟩
  rfl
  obtain⟨a1,a2,a3,a4,a5,a6,a7⟩:=iU.1 hh
  dsimp only at a1 a2 a3 a4 a5 a6 a7
  exfalso
  rw[hto,hdrop]at a7
  simp only[nU,aS]at a7
  obtain⟨⟨q1,q2⟩,-⟩:=a7
  rw[pf]at q2
  first|(rw[q2]at hc54;cases hc54)|simp_all
 exact cF (v:=J 12) Z Z ⟨by rw[hv];rfl,H.below⟩
 refine Zk<|Zr<|G (bp Z Z I I)<|G (Yi Z)<|U ?_
 refine⟨k+1,⟨by omega,?_,H.forget (.cons _ (ap _)) (fun _ h=>ak _ h)⟩,dF Z,Qg,by show txs.length- (k+1)<txs.length-k;omega⟩
 rw[hto,hdrop,eL hxk]
 simp only[nU]
 simp_all
 have hke:k=txs.length:=by omega
 have hall:nU ck nx [] txs=true:=by rw[hto,hke,fq];rfl
 refine U<|W<|ZF Z<|Zx<|W<|Zr<|G (Wi Z)<|U<|Zt ?_
 have hv:gB ⟨ck,nx,wt,txs,cA,cc⟩=true:=iU.2 ⟨by simpa using h9,by dsimp only;omega,by dsimp only;omega,by dsimp only;omega,by dsimp only;omega,by dsimp only;omega,hall⟩
 exact cF (v:=J 0) Z Z ⟨by rw[hv];rfl,H.below⟩
def Tx.a (t:Tx):Tx:={t with A:=none,cap:=0}
theorem iL {α:Type} {l:List α} {k:Nat} {a:α} (h:l[k]? =some a):l.set k a=l:=by
 apply eJ
 intro i
 rw[lu]
 split
 rename_i hi
 subst hi
 split
 exact h.symm
 rename_i h2;rw[cJ I]
 rfl
theorem Kd {α:Type} {l:List α} {k:Nat} (h:k<l.length) (a:α):(l.set k a).take (k+1)=l.take k++[a]:=by
 rw[eL (e:=a) (by rw[am h]),zi (ao k)]
theorem CP {out txs:List Tx} {k:Nat} {x x':Tx} (hx:out[k]? =some x) (hma:out.map Tx.a=txs.map Tx.a) (hdr:out.drop k=txs.drop k) (ha:x'.a=x.a):(out.set k x').map Tx.a=txs.map Tx.a/\(out.set k x').drop (k+1)=txs.drop (k+1)/\(out.set k x').take (k+1)=out.take k++[x']:=by
 refine⟨?_,?_,Kd (cD hx).1 x'⟩
 rw[cy,ha,<-hma]
 exact iL (by rw[aM,hx];rfl)
 rw[rV I]
 have:=congrArg (List.drop 1) hdr
 rwa[j0,j0]at this
def Co.a (c:Co):Co:={c with txs:=c.txs.map Tx.a,A:=none,cap:=0}
theorem Hp.joinParts {w0 w:World} {L:List (Nat×Obj)} {F:List ci} {a b lo hi:Nat} {ts:List Tx} {t:Tx} (H:Hp w0 w L (dG bS a b t.A t.parts::iE lo hi ts::F)) (hL: ∀ e∈L,e.1<lo) (hlo:lo<=a) (hhi:hi<=b):Hp w0 w L (iE lo b (ts++[t])::F):=by
 refine⟨H.below,H.ents,H.nodup,fun f hf=> ?_⟩
 rcases av.1 hf with rfl|hf
 have h1:=H.facts _ (aA ..)
 have h2:=H.facts _ (ak _ (aA ..))
 refine⟨fun x hx=> ?_,h1.2.1,fun e he=> .inl (hL e he)⟩
 rcases ar.1 hx with hx|hx
 exact Rd.mono (h2.1 x hx) (ao _) hhi
 rw[aq.1 hx]
 exact Rd.mono (lo':=lo) (hi':=b) (show Rd bS a b t.A t.parts w from h1.1) hlo (ao _)
 exact H.facts f (ak _ (ak _ hf))
theorem IX {w0 w:World} {L:List (Nat×Obj)} {F:List ci} (H:Hp w0 w L F) (lo:Nat) (hlo: ∀ e∈L,e.1<lo) (h:lo<=w.heap.size):Hp w0 w L (iE lo lo []::F):=by
 refine⟨H.below,H.ents,H.nodup,fun f hf=> ?_⟩
 rcases av.1 hf with rfl|hf
 exact⟨fun x hx=>absurd hx (by simp),h,fun e he=> .inl (hlo e he)⟩
 exact H.facts f hf
theorem wU (es:List Tx) (A:Option Addr) (c:Nat) (w:World) (hr:Rd rx 0 w.heap.size A es w) (hb:es.length*80<=140737488355328):
  dd aa rI [.slice A es.length c] w fun v w2=> ∃ A' c' L',v=.slice A' es.length c'/\es.length<=c'/\c'<=maxLen/\gi rx (.slice A' es.length c') dE es L'/\Hp w w2 L' []:=by
 refine aE rh Z Z ?_
 have H:=Hp.startRd hr
 refine W<|Zr<|G (Ws Z)<|U<|W<|W<|Zr<|G (Ys Z) ?_
 refine wu (qA lf Z) Z Z Z (fun h4=> ?_) (fun h4=> ?_)
 refine U<|ZT Z<|W<|Zr<|G (Ws Z)<|U<|Zt ?_
 have he:es=[]:=by
  cases es with
  |nil=>rfl
  |cons e es=>obtain⟨b,o,hA,_⟩:=hr (by simp);subst hA;cases h4
 subst he
 exact cF Z Z ⟨none,0,[],rfl,by simp,by decide,gi.nil,H.forget (by simp) (by simp)⟩
 refine U<|ZF Z<|Zk<|W<|Zr<|NP H gH Z fun w1 b5 H=>G (Ys Z)<|vU (Y:=rx) Ig (K:=[]) (L:=[(b5,_)]) (M:=[]) H (rU.lit (by decide) (by rfl)) (es:=[]) (news:=es) Z Z Z (Rd.src (H.fact (i:=0) Z)) (by simpa using hb) Z ?_
 intro A3 c3 w3 L3 h3a h3b ho3 H
 refine G (Ws Z)<|U<|Zt ?_
 exact cF Z Z ⟨A3,c3,L3,rfl,h3a,h3b,ho3,H.forget (by simp) (by simp)⟩
theorem xQ (c:Co) (w:World) (h:c.rd 0 w.heap.size w):dd aa wF [c.v] w fun v w2=> ∃ (c':Co) (L':List (Nat×Obj)) (lo hi:Nat),v=c'.v/\c'.a=c.a/\gi rx (.slice c'.A c'.txs.length c'.cap) dE c'.txs L'/\c'.txs.length<=c'.cap/\(∀ t∈c'.txs,t.parts.length<=t.cap)/\w.heap.size<=lo/\Hp w w2 L' [iE lo hi c'.txs]:=by
 refine aE vf Z Z ?_
 have hcap:=h.cap
 have hfew:=h.few
 have hfp:=h.fewP
 have H:=Hp.startCo h
 obtain⟨ck,nx,wt,txs,cA,cc⟩:=c
 dsimp only at hcap hfew hfp H
 show CW _ _ _ _ (args [.agg #[J ck,J nx,J wt,.slice cA txs.length cc]]) w
 refine W<|Zr<|fS H Z Z fun w1 b1 H=>eC H cK Z fun w2 b2 H=>U<|W<|Zr<|G (Zf cO Z)<|G (Zd dL H 1 Z Z Z)<|cd lq (wU txs cA cc _ (H.rd0 0 Z) I) Z Z ?_
 rintro _ w3 ⟨A6,c6,L6,rfl,hc6,hm6,ho6,hj6⟩;replace H:=H.joinR hj6;clear hj6
 refine G (Zf cO Z)<|bl H 1 (#[J ck,J nx,J wt,.slice A6 txs.length c6]) zC Z Z Z Z Z N N fun w4 H=>U<|W<|W ?_
 have hlt0:=H.ltAll
 obtain⟨lo,hlo⟩: ∃ lo,lo=w4.heap.size:=⟨_,rfl⟩
 rw[<-hlo]at hlt0
 have hlow:w.heap.size<=lo:=by rw[hlo];exact H.size
 replace H:=IX H lo hlt0 I
 have hb1:b1<lo:=hlt0 (b1,_) (qx _ (fF _))
 have hb2:b2<lo:=hlt0 (b2,_) (fF _)
 have hL6: ∀ e∈L6,e.1<lo:=fun e he=>hlt0 e (qx _ (qx _ (fP _ he)))
 refine Zr<|G (Zf cO Z)<|G (Zd dL H 1 Z Z Z)<|G (bn lf Z)<|G (Yi Z)<|U<|Zb ?_
 refine cf (τ:=Nat×List Tx×Option Addr×Nat×Nat) [3,11,12,13,14,15,16,17,18,19,20,21,22,23,24,25,26] (fun(k,_)=>[(11,J (k:Nat))]) (fun(k,out,A1,c1,hi) w'=>k<=out.length/\out.length=txs.length/\out.length<=c1/\out.map Tx.a=txs.map Tx.a/\out.drop k=txs.drop k/\(∀ t∈out.take k,t.parts.length<=t.cap)/\lo<=w'.heap.size/\ ∃ L',gi rx (.slice A1 out.length c1) dE out L'/\(∀ e∈L',e.1<lo)/\Hp w w' ([(b2,.cells #[J 0,J 0,J 0,.slice none 0 0] bf (0,0)),(b1,.cells #[J ck,J nx,J wt,.slice A1 out.length c1] bf (0,0))]++L'++[]) [iE lo hi (out.take k),dG rx 0 w.heap.size cA txs,iE 0 w.heap.size txs]) (fun(k,out,_)=>out.length-k) (0,txs,A6,c6,lo) ⟨by omega,rfl,hc6,rfl,rfl,by simp,by omega,L6,ho6,hL6,H⟩ (dF Z) ?_
 rintro⟨k,out,A1,c1,hi⟩ ρ1 w5 ⟨hk,hol,hoc,hma,hdr,hpc,hlw,L1,ho,hL1,H⟩
 show CW _ _ _ _ (dv (gk _ _ ρ1) [(11,J (k:Nat))]) w5
 refine W<|Zr ?_
 refine cR (cG Z Z) Z Z Z (fun h12=> ?_) (fun h12=> ?_)
 refine U<|W<|ZT Z<|Zk<|W<|Zb<|W ?_
 obtain⟨x,hx⟩: ∃ x,out[k]? =some x:=⟨_,ah I⟩
 have hxt:txs[k]? =some x:=by have:=congrArg (fun l=>l[0]?) hdr;simp only[dK,rZ]at this;rw[<-this];exact hx
 have hmem:=ae hxt
 have hfx:=(hfp x hmem).1
 obtain⟨g,cur,rfl,rfl,row⟩:=ho.row I
 have hg:g<lo:=hL1 (g,_) (dH _)
 refine Zr<|G (Yi Z)<|G (Wi Z)<|U ?_
 have hhi5:=(H.facts _ (fF _)).2.1
 refine bD bZ [0,1,2,3,4,5,6,7,8,9,10,11] [12] [9] [0,2,3,5,6,7,10,11] (sp [(9,Sp.row w5.heap.size bS x.parts)]) N N N N Nq (cI _) ?_
 refine aw Z Z Z Z Z (fun w' hw'=>Zf cO Z)<|aw Z Z Z Z Z (fun w' hw'=>aV dL Z (aB ((H.later hw').ent (i:=1) Z) Z))<|aw Z Z Z Z Z (fun w' hw'=>Yi Z)<|aw Z Z Z Z Z (fun w' hw'=>Zf cO Z)<|aw Z Z Z Z Z (fun w' hw'=>aV dL Z (aB ((H.later hw').ent (i:=1) Z) Z))<|aw Z Z Z Z Z (fun w' hw'=>Yi Z)<|aw Z Z Z Z Z (fun w' hw'=>cC gH Z Z I)<|aw Z Z Z Z Z (fun w' hw'=>Zf dy Z)<|aw Z Z Z Z Z (fun w' hw'=>bQ cr row hx 4 Z ((H.later hw').ent (i:=2) Z) Z)<|CR gg Z Z Z Z Z (fun w' hw'=>hw'.size) (fun w' hw'=>wT x.parts _ _ w' (fu (H.later hw') 2 Z hmem) I) Z fun A23 c23 hc23=>aw Z Z Z Z Z (fun w' hw'=>cC gH Z Z I)<|aw Z Z Z Z Z (fun w' hw'=>Zf dy Z)<|aU ?_
 intro w6 hw' hF
 have hsz:=hw'.size
 obtain⟨hF,Aq,cq,eq,hcq,hrw23⟩:=hF;cases eq;clear hcq
 replace H:=H.learnRd hw' hrw23
 clear hw' hF
 refine kQ H 2 ({x with A:=A23,cap:=c23}) jF row hx 4 Z Z Z Z Z Z N fun w8 cur7 row7 H=>U<|Zr<|G (bp Z Z I I)<|G (Yi Z)<|U ?_
 obtain⟨z1,z2,z3⟩:=CP (x':={x with A:=A23,cap:=c23}) hx hma hdr Z
 have hb5:=(H.facts _ (fF _)).2.1
 dsimp only[dG]at hb5
 have HJ:=Hp.joinParts (t:={x with A:=A23,cap:=c23}) H (fun e he=>by rcases av.1 he with rfl|he;exact hb2;rcases av.1 he with rfl|he;exact hb1;rw[aq.1 he];exact hg) hlw (aT hhi5 hsz)
 rw[<-z3]at HJ
 refine⟨(k+1,out.set k {x with A:=A23,cap:=c23},some ⟨g,0,none⟩,c1,w6.heap.size),⟨by rw[ab];omega,by rw[ab];exact hol,by rw[ab];exact hoc,z1,z2,?_,by omega,_,dU.own row7,fun e he=>by rw[aq.1 he];exact hg,?_⟩,dF Z,Qg,by show(out.set k _).length- (k+1)<out.length-k;rw[ab];omega⟩
 rw[z3];intro t ht;rcases ar.1 ht with ht|ht;exact hpc t ht;rw[aq.1 ht];exact hc23
 rw[ab];exact HJ
 have hke:k=out.length:=by omega
 rw[hke,bV]at H hpc
 refine U<|W<|ZF Z<|Zx<|W<|Zr<|G (Zw ax H 1 Z Z Z)<|bl H 0 (#[J ck,J nx,J wt,.slice A1 out.length c1]) aF Z Z Z Z Z N N fun w9 H=>U<|Zt ?_
 exact eQ (cs0:= #[J ck,J nx,J wt,.slice A1 out.length c1]) Z ax Z (H.ent (i:=0) Z) Z ⟨⟨ck,nx,wt,out,A1,c1⟩,L1,lo,hi,rfl,by unfold Co.a;dsimp only;rw[hma],ho,hoc,hpc,hlow,H.forget (.cons _ (.cons _ (aC _ _))) (by simp)⟩
theorem Hp.joinF {w0 w w':World} {L L':List (Nat×Obj)} {F F':List ci} (H:Hp w0 w L F) (H':Hp w w' L' F') (hf': ∀ f∈F',w.heap.size<=f.lo):Hp w0 w' (L++L'++[]) (F'++F):=by
 have HJ:=H.joinR (H'.forget (ap _) (F':=[]) (by simp))
 refine⟨HJ.below,HJ.ents,HJ.nodup,fun f hf=> ?_⟩
 rcases ar.1 hf with hf|hf
 obtain⟨h1,h2,h3⟩:=H'.facts f hf
 refine⟨h1,h2,fun e he=> ?_⟩
 rw[aY]at he
 rcases ar.1 he with he|he
 have:=H.ltAll e he
 have:=hf' f hf
 omega
 exact h3 e he
 exact HJ.facts f hf
def fJ (c:Co) (s:ByteArray):Int:=lB (c.txs.findIdx? fun p=>decide (p.name=s))
def Mj (w w2:World) (c c':Co) (L':List (Nat×Obj)) (lo hi:Nat):Prop:=c'.a=c/\gi rx (.slice c'.A c'.txs.length c'.cap) dE c'.txs L'/\c'.txs.length<=c'.cap/\(∀ t∈c'.txs,t.parts.length<=t.cap)/\w.heap.size<=lo/\Hp w w2 L' [iE lo hi c'.txs]
theorem JD (c:Co) (s:ByteArray) (w:World) (h:c.rd 0 w.heap.size w) (hok:gB c=true) (hn:bM s=true):dd aa wC [c.v,.string s] w fun v w2=> ∃ (c':Co) (L':List (Nat×Obj)) (lo hi:Nat),v=.tuple #[c'.v,J (fJ c s),J 0]/\Mj w w2 c.a c' L' lo hi:=by
 refine aE vd Z Z ?_
 have hcap:=h.cap
 have hfew:=h.few
 have hfp:=h.fewP
 have H:=Hp.startCo h
 obtain⟨ck,nx,wt,txs,cA,cc⟩:=c
 dsimp only at hcap hfew hfp H
 show CW _ _ _ _ (args [.agg #[J ck,J nx,J wt,.slice cA txs.length cc],.string s]) w
 refine W<|Zr<|fS H Z Z fun w1 b2 H=>PW H Z Z fun w2 b3 H=>eC H cK Z fun w3 b4 H=>G (Wi Z)<|G (Wi Z)<|U<|W<|W<|Zr<|G (Zw ax H 2 Z Z Z)<|cd kw (qc ⟨ck,nx,wt,txs,cA,cc⟩ _ ⟨H.rd0 0 Z,fun t ht=>fu H 1 Z ht,hcap,hfew,hfp⟩) Z Z ?_
 rw[hok]
 rintro _ w4 ⟨rfl,hb⟩;replace H:=H.later hb;clear hb
 refine G (Wi Z)<|U<|W<|Zr<|G (Yi Z)<|G (bX Z Z Z)<|U<|ZF Z<|Zk<|W<|W<|Zr<|G (Zd ba H 1 Z Z Z)<|cd rv (Dp s _) Z Z ?_
 rw[hn]
 rintro _ w5 ⟨rfl,hb⟩;replace H:=H.later hb;clear hb
 refine G (dO Z)<|U<|ZF Z<|Zk<|W ?_
 refine qI bZ [2,4] [0,1,3,5,6,7,8] [2,4] 7 N N N Nq ?_
 refine aw Z Z Z Z Z (fun w' hw'=>Zf cO Z)<|aw Z Z Z Z Z (fun w' hw'=>zP Z)<|aU ?_
 intro w6 hw';replace H:=H.later hw';clear hw'
 refine tj 0 3 N Z Z ?_ ?_
 refine G (Zw ax H 2 Z Z Z)<|U ?_
 refine tj 1 3 N Z Z ?_ ?_
 refine cd i4 (xQ ⟨ck,nx,wt,txs,cA,cc⟩ _ ⟨H.rd0 0 Z,fun t ht=>fu H 1 Z ht,hcap,hfew,hfp⟩) Z Z ?_
 have hsz0:=H.size
 rintro _ w7 ⟨⟨ck2,nx2,wt2,tx2,A2,c2⟩,L2,lo2,hi2,rfl,ha2,ho2,hoc2,hpc2,hlo2,hj2⟩
 replace H:=Hp.joinF H hj2 (by intro f hf;rw[aq.1 hf];exact hlo2);clear hj2
 simp only[Co.a,Co.mk.injEq]at ha2
 obtain⟨e1,e2,e3,hma,-,-⟩:=ha2
 obtain rfl:ck=ck2:=e1.symm
 obtain rfl:nx=nx2:=e2.symm
 obtain rfl:wt=wt2:=e3.symm
 dsimp only at ho2 hoc2 hpc2 H
 refine U<|da 3 N Z<|G (Zd dL H 2 Z Z Z)<|U<|da 5 N Z<|cd dD (fW txs cA cc _ (H.rd0 1 Z) I gO [.pointer (Qd b3)] ie (fun p=>decide (p.name=s)) (fun e w2 _ hw2=>ny e s b3 w2 ((hw2.block _ (ce (H.ent (i:=1) Z))).trans (H.ent (i:=1) Z)))) Z Z ?_
 rintro _ w8 ⟨rfl,hb⟩;replace H:=H.later hb;clear hb
 refine U<|da 6 N Z<|bl H 0 (#[J ck,J nx,J wt,.slice A2 tx2.length c2]) aF Z Z Z Z Z N N fun w9 H=>U<|da 7 N Z<|G (Wi Z)<|U<|da 8 N Z<|G (Wi Z)<|U<|cz N<|Zt ?_
 exact gw (cs0:= #[J ck,J nx,J wt,.slice A2 tx2.length c2]) (v1:=J (lB (txs.findIdx? fun p=>decide (p.name=s)))) (v2:=J 0) Z ax Z (H.ent (i:=0) Z) Z Z Z ⟨⟨ck,nx,wt,tx2,A2,c2⟩,L2,lo2,hi2,rfl,by unfold Co.a;dsimp only;rw[hma],ho2,hoc2,hpc2,aT hsz0 hlo2,H.forget (.cons _ (.cons _ (.cons _ (aC _ _)))) (by simp)⟩
 refine G (Zd dL H 2 Z Z Z)<|U<|da 1 N Z<|cd i4 (xQ ⟨ck,nx,wt,txs,cA,cc⟩ _ ⟨H.rd0 0 Z,fun t ht=>fu H 1 Z ht,hcap,hfew,hfp⟩) Z Z ?_
 have hsz0:=H.size
 rintro _ w10 ⟨⟨ck2,nx2,wt2,tx2,A2,c2⟩,L2,lo2,hi2,rfl,ha2,ho2,hoc2,hpc2,hlo2,hj2⟩
 replace H:=Hp.joinF H hj2 (by intro f hf;rw[aq.1 hf];exact hlo2);clear hj2
 simp only[Co.a,Co.mk.injEq]at ha2
 obtain⟨e1,e2,e3,hma,-,-⟩:=ha2
 obtain rfl:ck=ck2:=e1.symm
 obtain rfl:nx=nx2:=e2.symm
 obtain rfl:wt=wt2:=e3.symm
 dsimp only at ho2 hoc2 hpc2 H
 refine U<|da 5 N Z<|cd dD (fW txs cA cc _ (H.rd0 1 Z) I gO [.pointer (Qd b3)] ie (fun p=>decide (p.name=s)) (fun e w2 _ hw2=>ny e s b3 w2 ((hw2.block _ (ce (H.ent (i:=1) Z))).trans (H.ent (i:=1) Z)))) Z Z ?_
 rintro _ w11 ⟨rfl,hb⟩;replace H:=H.later hb;clear hb
 refine U<|da 6 N Z<|bl H 0 (#[J ck,J nx,J wt,.slice A2 tx2.length c2]) aF Z Z Z Z Z N N fun w12 H=>U<|da 7 N Z<|G (Wi Z)<|U<|da 8 N Z<|G (Wi Z)<|U<|cz N<|Zt ?_
 exact gw (cs0:= #[J ck,J nx,J wt,.slice A2 tx2.length c2]) (v1:=J (lB (txs.findIdx? fun p=>decide (p.name=s)))) (v2:=J 0) Z ax Z (H.ent (i:=0) Z) Z Z Z ⟨⟨ck,nx,wt,tx2,A2,c2⟩,L2,lo2,hi2,rfl,by unfold Co.a;dsimp only;rw[hma],ho2,hoc2,hpc2,aT hsz0 hlo2,H.forget (.cons _ (.cons _ (.cons _ (aC _ _)))) (by simp)⟩
 refine G (Zd dL H 2 Z Z Z)<|U<|da 0 N Z<|G (Zw ax H 2 Z Z Z)<|U<|da 1 N Z<|cd i4 (xQ ⟨ck,nx,wt,txs,cA,cc⟩ _ ⟨H.rd0 0 Z,fun t ht=>fu H 1 Z ht,hcap,hfew,hfp⟩) Z Z ?_
 have hsz0:=H.size
 rintro _ w13 ⟨⟨ck2,nx2,wt2,tx2,A2,c2⟩,L2,lo2,hi2,rfl,ha2,ho2,hoc2,hpc2,hlo2,hj2⟩
 replace H:=Hp.joinF H hj2 (by intro f hf;rw[aq.1 hf];exact hlo2);clear hj2
 simp only[Co.a,Co.mk.injEq]at ha2
 obtain⟨e1,e2,e3,hma,-,-⟩:=ha2
 obtain rfl:ck=ck2:=e1.symm
 obtain rfl:nx=nx2:=e2.symm
 obtain rfl:wt=wt2:=e3.symm
 dsimp only at ho2 hoc2 hpc2 H
 refine U<|da 5 N Z<|cd dD (fW txs cA cc _ (H.rd0 1 Z) I gO [.pointer (Qd b3)] ie (fun p=>decide (p.name=s)) (fun e w2 _ hw2=>ny e s b3 w2 ((hw2.block _ (ce (H.ent (i:=1) Z))).trans (H.ent (i:=1) Z)))) Z Z ?_
 rintro _ w14 ⟨rfl,hb⟩;replace H:=H.later hb;clear hb
 refine U<|da 6 N Z<|bl H 0 (#[J ck,J nx,J wt,.slice A2 tx2.length c2]) aF Z Z Z Z Z N N fun w15 H=>U<|da 7 N Z<|G (Wi Z)<|U<|da 8 N Z<|G (Wi Z)<|U<|cz N<|Zt ?_
 exact gw (cs0:= #[J ck,J nx,J wt,.slice A2 tx2.length c2]) (v1:=J (lB (txs.findIdx? fun p=>decide (p.name=s)))) (v2:=J 0) Z ax Z (H.ent (i:=0) Z) Z Z Z ⟨⟨ck,nx,wt,tx2,A2,c2⟩,L2,lo2,hi2,rfl,by unfold Co.a;dsimp only;rw[hma],ho2,hoc2,hpc2,aT hsz0 hlo2,H.forget (.cons _ (.cons _ (.cons _ (aC _ _)))) (by simp)⟩
def iO (s:ByteArray) (pid:Int):Tx:=⟨s,pid,0,1,[],0,0,none,0⟩
def qb (c:Co) (s:ByteArray):Co:={c with next:=c.next+1,txs:=c.txs++[iO s c.next]}
theorem FS (c:Co) (s:ByteArray) (w:World) (h:c.rd 0 w.heap.size w) (hok:gB c=true) (hn:bM s=true) (hi:fJ c s<0) (hf:c.txs.length=8):dd aa mu [c.v,.string s] w fun v w2=>v=.tuple #[.agg #[J 0,J 0,J 0,.slice none 0 0],J 0,J 0,J 16]/\Below w.heap.size w w2:=by
 refine aE nQ Z Z ?_
 have hcap:=h.cap
 have hfew:=h.few
 have hfp:=h.fewP
 have H:=Hp.startCo h
 obtain⟨ck,nx,wt,txs,cA,cc⟩:=c
 dsimp only at hcap hfew hfp H
 show CW _ _ _ _ (args [.agg #[J ck,J nx,J wt,.slice cA txs.length cc],.string s]) w
 dsimp only at hf
 refine W<|Zr<|fS H Z Z fun w1 b2 H=>eC H cK Z fun w2 b4 H=>G (Wi Z)<|G (Wi Z)<|G (Wi Z)<|U<|W<|Zr<|G (Zw ax H 1 Z Z Z)<|G (Yt Z)<|cd ia (JD ⟨ck,nx,wt,txs,cA,cc⟩ s _ ⟨H.rd0 0 Z,fun t ht=>fu H 1 Z ht,hcap,hfew,hfp⟩ hok hn) Z Z ?_
 have hsz0:=H.size
 rintro _ w3 ⟨⟨ck2,nx2,wt2,tx2,A2,c2⟩,L2,lo2,hi2,rfl,ha2,ho2,hoc2,hpc2,hlo2,hj2⟩
 replace H:=Hp.joinF H hj2 (by intro f hf;rw[aq.1 hf];exact hlo2);clear hj2
 simp only[Co.a,Co.mk.injEq]at ha2
 obtain⟨e1,e2,e3,hma,-,-⟩:=ha2
 obtain rfl:ck=ck2:=e1.symm
 obtain rfl:nx=nx2:=e2.symm
 obtain rfl:wt=wt2:=e3.symm
 dsimp only at ho2 hoc2 hpc2 H
 have hlen2:tx2.length=txs.length:=by have:=congrArg cv hma;simpa using this
 obtain⟨b1,b2_,b3_,b4_,b5_,b6_,b7_⟩:=iU.1 hok
 dsimp only at b2_ b3_ b6_
 refine G (Yu Z)<|G (Xa Z Z)<|G (Xi Z Z)<|G (Xi Z Z)<|bl H 1 (#[J ck,J nx,J wt,.slice A2 tx2.length c2]) aF Z Z Z Z Z N N fun w4 H=>G (Wi Z)<|G (Wi Z)<|U<|W<|W<|Zr<|G (Yi Z)<|G (bX Z Z Z)<|U<|ZF Z<|Zk<|W<|W<|Zr<|G (Yi Z)<|G (xD Z Z hi)<|U<|ZT Z<|W<|W<|Zr<|G (Zf cO Z)<|G (Zd dL H 1 Z Z Z)<|G (bn lf Z)<|G (tV Z Z I)<|G (Yb Z)<|ZN<|ZN<|ZN<|G (Kt Z Z)<|U<|ZT Z<|W<|Zr<|G (bj (cs:= #[J 0,J 0,J 0,.slice none 0 0]) fx cK N) ?_
 refine bl H 0 (#[J 0,J 0,J 0,.slice none 0 0]) aF Z Z Z Z Z N N fun w5 H=>G (Wi Z)<|G (Wi Z)<|G (Wi Z)<|U<|Zt ?_
 exact mB (cs0:= #[J 0,J 0,J 0,.slice none 0 0]) (v1:=J 0) (v2:=J 0) (v3:=J 16) Z ax Z (H.ent (i:=0) Z) Z Z Z Z ⟨rfl,H.below⟩
theorem HC (ck nx:Int): ∀ (l pre:List Tx),nU ck nx pre l=nU ck nx (pre.map Tx.a) (l.map Tx.a)
 |[],_=>rfl
 |t::l,pre=>by
  rw[eI]
  unfold nU
  have e1:(pre.map Tx.a).any (sg t.a)=pre.any (sg t):=by rw[List.any_map];rfl
  have e2:=HC ck nx l (pre++[t])
  rw[bk]at e2
  rw[e1,e2]
  rfl
theorem sI (c:Co):gB c=gB c.a:=by
 unfold gB
 have:=HC c.clock c.next c.txs []
 rw[this]
 unfold Co.a
 simp
theorem Hp.learnAlsoF {w0 w w':World} {L:List (Nat×Obj)} {F F0:List ci} (H0:Hp w0 w L F0) (H:Hp w0 w' L F) (f:ci) (hf:f.p w') (hlo:w.heap.size<=f.lo) (hhi:f.hi<=w'.heap.size):Hp w0 w' L (f::F):=by
 refine⟨H.below,H.ents,H.nodup,fun g hg=> ?_⟩
 rcases av.1 hg with rfl|hg
 exact⟨hf,hhi,fun e he=> .inl (by have:=H0.ltAll e he;omega)⟩
 exact H.facts g hg
structure Hv (w w2:World) (c:Co):Prop where
 below:Below w.heap.size w w2
 row:Rd rx w.heap.size w2.heap.size c.A c.txs w2
 parts: ∀ t∈c.txs,Rd bS w.heap.size w2.heap.size t.A t.parts w2
 cap:c.txs.length<=c.cap
 caps: ∀ t∈c.txs,t.parts.length<=t.cap
theorem Mj.rd {w w2:World} {ca c':Co} {L':List (Nat×Obj)} {lo hi:Nat} (h:Mj w w2 ca c' L' lo hi):Hv w w2 c':=by
 obtain⟨h1,ho,hc,hcs,hlo,hj⟩:=h
 have hf:=hj.facts _ (aA ..)
 have hj0:Hp w w2 L' []:=hj.forget (ap _) (by simp)
 refine⟨hj.below,ho.rd (K:=[]) (M:=[]) (by simpa using hj0),fun t ht=>Rd.mono (hf.1 t ht) hlo hf.2.1,hc,hcs⟩
theorem Hv.learn {w0 w w2:World} {L:List (Nat×Obj)} {F:List ci} {c:Co} (h:Hv w w2 c) (H:Hp w0 w L F):Hp w0 w2 L (iE w.heap.size w2.heap.size c.txs::dG rx w.heap.size w2.heap.size c.A c.txs::F):=
 Hp.learnAlsoF H (H.learnRd h.below h.row) (iE w.heap.size w2.heap.size c.txs) h.parts (ao _) (ao _)
def yI:Co:=⟨0,0,0,[],none,0⟩
theorem NS {w w2:World} (hb:Below w.heap.size w w2):Hv w w2 yI:=⟨hb,Rd.nil,(by intro t ht;cases ht),ao _,(by intro t ht;cases ht)⟩
/-- the parts of each producer lie in blocks of the call's own -/
def ey:List Tx->List (Nat×Obj)->Prop
 |[],L=>L=[]
 |t::ts,L=> ∃ L1 L2,L=L1++L2/\gi bS (.slice t.A t.parts.length t.cap) cW t.parts L1/\ey ts L2
theorem ey.snoc {t:Tx} {L':List (Nat×Obj)} (ht:gi bS (.slice t.A t.parts.length t.cap) cW t.parts L'): ∀ {ts:List Tx} {L:List (Nat×Obj)},ey ts L->ey (ts++[t]) (L++L')
 |[],_,h=>⟨L',[],by rw[show _=[]from h];simp,ht,rfl⟩
 |_::_,_,⟨L1,L2,h1,h2,h3⟩=>⟨L1,L2++L',by rw[h1,aD],h2,ey.snoc ht h3⟩
theorem ey.at_: ∀ {ts:List Tx} {L:List (Nat×Obj)} {i:Nat} {t:Tx},ey ts L->ts[i]? =some t-> ∃ La Lt Lb,L=La++Lt++Lb/\gi bS (.slice t.A t.parts.length t.cap) cW t.parts Lt/\ ∀ (t':Tx) (Lt':List (Nat×Obj)),gi bS (.slice t'.A t'.parts.length t'.cap) cW t'.parts Lt'->ey (ts.set i t') (La++Lt'++Lb)
 |x::ts,L,0,t,⟨L1,L2,h1,h2,h3⟩,hi=>by
  cases hi
  exact⟨[],L1,L2,by simpa using h1,h2,fun t' Lt' h'=>⟨Lt',L2,by simp,h',h3⟩⟩
 |x::ts,L,i+1,t,⟨L1,L2,h1,h2,h3⟩,hi=>by
  obtain⟨La,Lt,Lb,e,ho,hs⟩:=ey.at_ h3 (show ts[i]? =some t from hi)
  exact⟨L1++La,Lt,Lb,by rw[h1,e];simp[aD],ho,fun t' Lt' h'=>⟨L1,La++Lt'++Lb,by simp[aD],h2,hs t' Lt' h'⟩⟩
theorem ey.rd {w0 w:World} {ts:List Tx} {L:List (Nat×Obj)} (h:ey ts L) (H:Hp w0 w L []) {t:Tx} (ht:t∈ts):Rd bS w0.heap.size w.heap.size t.A t.parts w:=by
 obtain⟨i,hi⟩:=aK.1 ht
 obtain⟨La,Lt,Lb,rfl,ho,-⟩:=h.at_ hi
 exact ho.rd (K:=La) (M:=Lb) H
def qi (w w2:World) (ca c':Co) (Lr Lp:List (Nat×Obj)):Prop:=c'.a=ca/\gi rx (.slice c'.A c'.txs.length c'.cap) dE c'.txs Lr/\ey c'.txs Lp/\c'.txs.length<=c'.cap/\(∀ t∈c'.txs,t.parts.length<=t.cap)/\Hp w w2 (Lr++Lp) []
theorem qi.read {w w2:World} {ca c':Co} {Lr Lp:List (Nat×Obj)} (h:qi w w2 ca c' Lr Lp):Hv w w2 c':=by
 obtain⟨_,h2,h3,h4,h5,h6⟩:=h
 refine⟨h6.below,h2.rd (K:=[]) (M:=Lp) (by simpa using h6),fun t ht=>h3.rd (h6.forget (cm _ _) (by simp)) ht,h4,h5⟩
theorem sJ (c:Co) (w:World) (h:c.rd 0 w.heap.size w):dd aa wF [c.v] w fun v w2=> ∃ (c':Co) (Lr Lp:List (Nat×Obj)),v=c'.v/\qi w w2 c.a c' Lr Lp:=by
 refine aE vf Z Z ?_
 have hcap:=h.cap
 have hfew:=h.few
 have hfp:=h.fewP
 have H:=Hp.startCo h
 obtain⟨ck,nx,wt,txs,cA,cc⟩:=c
 dsimp only at hcap hfew hfp H
 show CW _ _ _ _ (args [.agg #[J ck,J nx,J wt,.slice cA txs.length cc]]) w
 refine W<|Zr<|fS H Z Z fun w1 b1 H=>eC H cK Z fun w2 b2 H=>U<|W<|Zr<|G (Zf cO Z)<|G (Zd dL H 1 Z Z Z)<|cd lq (wU txs cA cc _ (H.rd0 0 Z) I) Z Z ?_
 rintro _ w3 ⟨A6,c6,L6,rfl,hc6,hm6,ho6,hj6⟩;replace H:=H.joinR hj6;clear hj6
 refine G (Zf cO Z)<|bl H 1 (#[J ck,J nx,J wt,.slice A6 txs.length c6]) zC Z Z Z Z Z N N fun w4 H=>U<|W<|W<|Zr<|G (Zf cO Z)<|G (Zd dL H 1 Z Z Z)<|G (bn lf Z)<|G (Yi Z)<|U<|Zb ?_
 refine cf (τ:=Nat×List Tx×Option Addr×Nat×List (Nat×Obj)) [3,11,12,13,14,15,16,17,18,19,20,21,22,23,24,25,26] (fun(k,_)=>[(11,J (k:Nat))]) (fun(k,out,A1,c1,Lp) w'=>k<=out.length/\out.length=txs.length/\out.length<=c1/\out.map Tx.a=txs.map Tx.a/\out.drop k=txs.drop k/\(∀ t∈out.take k,t.parts.length<=t.cap)/\ey (out.take k) Lp/\ ∃ L',gi rx (.slice A1 out.length c1) dE out L'/\Hp w w' ([(b2,.cells #[J 0,J 0,J 0,.slice none 0 0] bf (0,0)),(b1,.cells #[J ck,J nx,J wt,.slice A1 out.length c1] bf (0,0))]++L'++Lp) [dG rx 0 w.heap.size cA txs,iE 0 w.heap.size txs]) (fun(k,out,_)=>out.length-k) (0,txs,A6,c6,[]) ⟨by omega,rfl,hc6,rfl,rfl,by simp,rfl,L6,ho6,H⟩ (dF Z) ?_
 rintro⟨k,out,A1,c1,Lp⟩ ρ1 w5 ⟨hk,hol,hoc,hma,hdr,hpc,hpp,L1,ho,H⟩
 show CW _ _ _ _ (dv (gk _ _ ρ1) [(11,J (k:Nat))]) w5
 refine W<|Zr ?_
 refine cR (cG Z Z) Z Z Z (fun h12=> ?_) (fun h12=> ?_)
 refine U<|W<|ZT Z<|Zk<|W<|Zb<|W ?_
 obtain⟨x,hx⟩: ∃ x,out[k]? =some x:=⟨_,ah I⟩
 have hxt:txs[k]? =some x:=by have:=congrArg (fun l=>l[0]?) hdr;simp only[dK,rZ]at this;rw[<-this];exact hx
 have hmem:=ae hxt
 have hfx:=(hfp x hmem).1
 obtain⟨g,cur,rfl,rfl,row⟩:=ho.row I
 refine Zr<|G (Yi Z)<|G (Wi Z)<|U ?_
 refine bD bZ [0,1,2,3,4,5,6,7,8,9,10,11] [12] [9] [0,2,3,5,6,7,10,11] (sp [(9,Sp.orow w5.heap.size bS cW x.parts)]) N N N N Nq (cI _) ?_
 refine aw Z Z Z Z Z (fun w' hw'=>Zf cO Z)<|aw Z Z Z Z Z (fun w' hw'=>aV dL Z (aB ((H.later hw').ent (i:=1) Z) Z))<|aw Z Z Z Z Z (fun w' hw'=>Yi Z)<|aw Z Z Z Z Z (fun w' hw'=>Zf cO Z)<|aw Z Z Z Z Z (fun w' hw'=>aV dL Z (aB ((H.later hw').ent (i:=1) Z) Z))<|aw Z Z Z Z Z (fun w' hw'=>Yi Z)<|aw Z Z Z Z Z (fun w' hw'=>cC gH Z Z I)<|aw Z Z Z Z Z (fun w' hw'=>Zf dy Z)<|aw Z Z Z Z Z (fun w' hw'=>bQ cr row hx 4 Z ((H.later hw').ent (i:=2) Z) Z)<|xW gg Z Z Z Z Z (fun w' hw'=>hw'.size) (fun w' hw'=>sK x.parts _ _ w' (fu (H.later hw') 1 Z hmem) I) Z fun A23 c23 hc23=>aw Z Z Z Z Z (fun w' hw'=>cC gH Z Z I)<|aw Z Z Z Z Z (fun w' hw'=>Zf dy Z)<|aU ?_
 intro w6 hw' hF
 obtain⟨hF,Aq,cq,L23,eq,hcq,hm23,ho23,he23,hn23⟩:=hF;cases eq;clear hcq
 replace H:=H.joinR (Hp.ofNew hw' he23 hn23)
 clear hw' hF
 refine kQ H 2 ({x with A:=A23,cap:=c23}) jF row hx 4 Z Z Z Z Z Z N fun w8 cur7 row7 H=>U<|Zr<|G (bp Z Z I I)<|G (Yi Z)<|U ?_
 obtain⟨z1,z2,z3⟩:=CP (x':={x with A:=A23,cap:=c23}) hx hma hdr Z
 refine⟨(k+1,out.set k {x with A:=A23,cap:=c23},some ⟨g,0,none⟩,c1,Lp++L23),⟨by rw[ab];omega,by rw[ab];exact hol,by rw[ab];exact hoc,z1,z2,?_,by rw[z3];exact hpp.snoc ho23,_,dU.own row7,?_⟩,dF Z,Qg,by show(out.set k _).length- (k+1)<out.length-k;rw[ab];omega⟩
 rw[z3];intro t ht;rcases ar.1 ht with ht|ht;exact hpc t ht;rw[aq.1 ht];exact hc23
 rw[ab];simpa using H
 have hke:k=out.length:=by omega
 rw[hke,bV]at hpp hpc
 refine U<|W<|ZF Z<|Zx<|W<|Zr<|G (Zw ax H 1 Z Z Z)<|bl H 0 (#[J ck,J nx,J wt,.slice A1 out.length c1]) aF Z Z Z Z Z N N fun w9 H=>U<|Zt ?_
 exact eQ (cs0:= #[J ck,J nx,J wt,.slice A1 out.length c1]) Z ax Z (H.ent (i:=0) Z) Z ⟨⟨ck,nx,wt,out,A1,c1⟩,L1,Lp,rfl,by unfold Co.a;dsimp only;rw[hma],ho,hpp,hoc,hpc,H.forget (.cons _ (.cons _ (ap _))) (by simp)⟩
theorem qT {txs tx2:List Tx} (h:tx2.map Tx.a=txs.map Tx.a) {i:Nat} {t:Tx} (ht:txs[i]? =some t): ∃ t2,tx2[i]? =some t2/\t2.a=t.a:=by
 have h1:=congrArg (fun l=>l[i]?) h
 simp only[aM,ht,eD]at h1
 cases h2:tx2[i]? with
 |none=>rw[h2]at h1;cases h1
 |some t2=>rw[h2]at h1;exact⟨t2,rfl,by simpa using h1⟩
theorem lG (c:Co) (s:ByteArray) (w:World) (h:c.rd 0 w.heap.size w) (hok:gB c=true) (hn:bM s=true):dd aa wC [c.v,.string s] w fun v w2=> ∃ (c':Co) (Lr Lp:List (Nat×Obj)),v=.tuple #[c'.v,J (fJ c s),J 0]/\qi w w2 c.a c' Lr Lp:=by
 refine aE vd Z Z ?_
 have hcap:=h.cap
 have hfew:=h.few
 have hfp:=h.fewP
 have H:=Hp.startCo h
 obtain⟨ck,nx,wt,txs,cA,cc⟩:=c
 dsimp only at hcap hfew hfp H
 show CW _ _ _ _ (args [.agg #[J ck,J nx,J wt,.slice cA txs.length cc],.string s]) w
 refine W<|Zr<|fS H Z Z fun w1 b2 H=>PW H Z Z fun w2 b3 H=>eC H cK Z fun w3 b4 H=>G (Wi Z)<|G (Wi Z)<|U<|W<|W<|Zr<|G (Zw ax H 2 Z Z Z)<|cd kw (qc ⟨ck,nx,wt,txs,cA,cc⟩ _ ⟨H.rd0 0 Z,fun t ht=>fu H 1 Z ht,hcap,hfew,hfp⟩) Z Z ?_
 rw[hok]
 rintro _ w4 ⟨rfl,hb⟩;replace H:=H.later hb;clear hb
 refine G (Wi Z)<|U<|W<|Zr<|G (Yi Z)<|G (bX Z Z Z)<|U<|ZF Z<|Zk<|W<|W<|Zr<|G (Zd ba H 1 Z Z Z)<|cd rv (Dp s _) Z Z ?_
 rw[hn]
 rintro _ w5 ⟨rfl,hb⟩;replace H:=H.later hb;clear hb
 refine G (dO Z)<|U<|ZF Z<|Zk<|W ?_
 refine qI bZ [2,4] [0,1,3,5,6,7,8] [2,4] 7 N N N Nq ?_
 refine aw Z Z Z Z Z (fun w' hw'=>Zf cO Z)<|aw Z Z Z Z Z (fun w' hw'=>zP Z)<|aU ?_
 intro w6 hw';replace H:=H.later hw';clear hw'
 refine tj 0 3 N Z Z ?_ ?_
 refine G (Zw ax H 2 Z Z Z)<|U ?_
 refine tj 1 3 N Z Z ?_ ?_
 refine cd i4 (sJ ⟨ck,nx,wt,txs,cA,cc⟩ _ ⟨H.rd0 0 Z,fun t ht=>fu H 1 Z ht,hcap,hfew,hfp⟩) Z Z ?_
 rintro _ w7 ⟨⟨ck2,nx2,wt2,tx2,A2,c2⟩,Lr,Lp,rfl,ha2,ho2,hp2,hoc2,hpc2,hj2⟩
 replace H:=H.joinR hj2;clear hj2
 simp only[Co.a,Co.mk.injEq]at ha2
 obtain⟨e1,e2,e3,hma,-,-⟩:=ha2
 obtain rfl:ck=ck2:=e1.symm
 obtain rfl:nx=nx2:=e2.symm
 obtain rfl:wt=wt2:=e3.symm
 dsimp only at ho2 hp2 hoc2 hpc2 H
 refine U<|da 3 N Z<|G (Zd dL H 2 Z Z Z)<|U<|da 5 N Z<|cd dD (fW txs cA cc _ (H.rd0 0 Z) I gO [.pointer (Qd b3)] ie (fun p=>decide (p.name=s)) (fun e w2 _ hw2=>ny e s b3 w2 ((hw2.block _ (ce (H.ent (i:=1) Z))).trans (H.ent (i:=1) Z)))) Z Z ?_
 rintro _ w8 ⟨rfl,hb⟩;replace H:=H.later hb;clear hb
 refine U<|da 6 N Z<|bl H 0 (#[J ck,J nx,J wt,.slice A2 tx2.length c2]) aF Z Z Z Z Z N N fun w9 H=>U<|da 7 N Z<|G (Wi Z)<|U<|da 8 N Z<|G (Wi Z)<|U<|cz N<|Zt ?_
 exact gw (cs0:= #[J ck,J nx,J wt,.slice A2 tx2.length c2]) (v1:=J (lB (txs.findIdx? fun p=>decide (p.name=s)))) (v2:=J 0) Z ax Z (H.ent (i:=0) Z) Z Z Z ⟨⟨ck,nx,wt,tx2,A2,c2⟩,Lr,Lp,rfl,by unfold Co.a;dsimp only;rw[hma],ho2,hp2,hoc2,hpc2,H.forget (.cons _ (.cons _ (.cons _ (aC _ _)))) (by simp)⟩
 refine G (Zd dL H 2 Z Z Z)<|U<|da 1 N Z<|cd i4 (sJ ⟨ck,nx,wt,txs,cA,cc⟩ _ ⟨H.rd0 0 Z,fun t ht=>fu H 1 Z ht,hcap,hfew,hfp⟩) Z Z ?_
 rintro _ w10 ⟨⟨ck2,nx2,wt2,tx2,A2,c2⟩,Lr,Lp,rfl,ha2,ho2,hp2,hoc2,hpc2,hj2⟩
 replace H:=H.joinR hj2;clear hj2
 simp only[Co.a,Co.mk.injEq]at ha2
 obtain⟨e1,e2,e3,hma,-,-⟩:=ha2
 obtain rfl:ck=ck2:=e1.symm
 obtain rfl:nx=nx2:=e2.symm
 obtain rfl:wt=wt2:=e3.symm
 dsimp only at ho2 hp2 hoc2 hpc2 H
 refine U<|da 5 N Z<|cd dD (fW txs cA cc _ (H.rd0 0 Z) I gO [.pointer (Qd b3)] ie (fun p=>decide (p.name=s)) (fun e w2 _ hw2=>ny e s b3 w2 ((hw2.block _ (ce (H.ent (i:=1) Z))).trans (H.ent (i:=1) Z)))) Z Z ?_
 rintro _ w11 ⟨rfl,hb⟩;replace H:=H.later hb;clear hb
 refine U<|da 6 N Z<|bl H 0 (#[J ck,J nx,J wt,.slice A2 tx2.length c2]) aF Z Z Z Z Z N N fun w12 H=>U<|da 7 N Z<|G (Wi Z)<|U<|da 8 N Z<|G (Wi Z)<|U<|cz N<|Zt ?_
 exact gw (cs0:= #[J ck,J nx,J wt,.slice A2 tx2.length c2]) (v1:=J (lB (txs.findIdx? fun p=>decide (p.name=s)))) (v2:=J 0) Z ax Z (H.ent (i:=0) Z) Z Z Z ⟨⟨ck,nx,wt,tx2,A2,c2⟩,Lr,Lp,rfl,by unfold Co.a;dsimp only;rw[hma],ho2,hp2,hoc2,hpc2,H.forget (.cons _ (.cons _ (.cons _ (aC _ _)))) (by simp)⟩
 refine G (Zd dL H 2 Z Z Z)<|U<|da 0 N Z<|G (Zw ax H 2 Z Z Z)<|U<|da 1 N Z<|cd i4 (sJ ⟨ck,nx,wt,txs,cA,cc⟩ _ ⟨H.rd0 0 Z,fun t ht=>fu H 1 Z ht,hcap,hfew,hfp⟩) Z Z ?_
 rintro _ w13 ⟨⟨ck2,nx2,wt2,tx2,A2,c2⟩,Lr,Lp,rfl,ha2,ho2,hp2,hoc2,hpc2,hj2⟩
 replace H:=H.joinR hj2;clear hj2
 simp only[Co.a,Co.mk.injEq]at ha2
 obtain⟨e1,e2,e3,hma,-,-⟩:=ha2
 obtain rfl:ck=ck2:=e1.symm
 obtain rfl:nx=nx2:=e2.symm
 obtain rfl:wt=wt2:=e3.symm
 dsimp only at ho2 hp2 hoc2 hpc2 H
 refine U<|da 5 N Z<|cd dD (fW txs cA cc _ (H.rd0 0 Z) I gO [.pointer (Qd b3)] ie (fun p=>decide (p.name=s)) (fun e w2 _ hw2=>ny e s b3 w2 ((hw2.block _ (ce (H.ent (i:=1) Z))).trans (H.ent (i:=1) Z)))) Z Z ?_
 rintro _ w14 ⟨rfl,hb⟩;replace H:=H.later hb;clear hb
 refine U<|da 6 N Z<|bl H 0 (#[J ck,J nx,J wt,.slice A2 tx2.length c2]) aF Z Z Z Z Z N N fun w15 H=>U<|da 7 N Z<|G (Wi Z)<|U<|da 8 N Z<|G (Wi Z)<|U<|cz N<|Zt ?_
 exact gw (cs0:= #[J ck,J nx,J wt,.slice A2 tx2.length c2]) (v1:=J (lB (txs.findIdx? fun p=>decide (p.name=s)))) (v2:=J 0) Z ax Z (H.ent (i:=0) Z) Z Z Z ⟨⟨ck,nx,wt,tx2,A2,c2⟩,Lr,Lp,rfl,by unfold Co.a;dsimp only;rw[hma],ho2,hp2,hoc2,hpc2,H.forget (.cons _ (.cons _ (.cons _ (aC _ _)))) (by simp)⟩
theorem z9 (c:Co) (s:ByteArray) (ver:Int) (w:World) (h:c.rd 0 w.heap.size w) (hok:gB c=true) (hn:bM s=true) (hi:fJ c s= -1):dd aa rb [c.v,.string s,J ver] w fun v w2=>v=.tuple #[.agg #[J 0,J 0,J 0,.slice none 0 0],J 0,J 5]/\Below w.heap.size w w2:=by
 refine aE p7 Z Z ?_
 have hcap:=h.cap
 have hfew:=h.few
 have hfp:=h.fewP
 have H:=Hp.startCo h
 obtain⟨ck,nx,wt,txs,cA,cc⟩:=c
 dsimp only at hcap hfew hfp H
 show CW _ _ _ _ (args [.agg #[J ck,J nx,J wt,.slice cA txs.length cc],.string s,J ver]) w
 refine W<|Zr<|fS H Z Z fun w1 b3 H=>eC H cK Z fun w2 b6 H=>G (Wi Z)<|G (Wi Z)<|U<|W<|Zr<|G (Zw ax H 1 Z Z Z)<|G (Yt Z)<|cd ia (lG ⟨ck,nx,wt,txs,cA,cc⟩ s _ ⟨H.rd0 0 Z,fun t ht=>fu H 1 Z ht,hcap,hfew,hfp⟩ hok hn) Z Z ?_
 rintro _ w3 ⟨⟨ck2,nx2,wt2,tx2,A2,c2⟩,Lr,Lp,rfl,ha2,ho2,hp2,hoc2,hpc2,hj2⟩
 replace H:=H.joinR hj2;clear hj2
 simp only[Co.a,Co.mk.injEq]at ha2
 obtain⟨e1,e2,e3,hma,-,-⟩:=ha2
 obtain rfl:ck=ck2:=e1.symm
 obtain rfl:nx=nx2:=e2.symm
 obtain rfl:wt=wt2:=e3.symm
 dsimp only at ho2 hp2 hoc2 hpc2 H
 rw[hi]
 refine G (Yu Z)<|G (Xa Z Z)<|G (Xi Z Z)<|G (Xi Z Z)<|bl H 1 (#[J ck,J nx,J wt,.slice A2 tx2.length c2]) aF Z Z Z Z Z N N fun w4 H=>G (Wi Z)<|G (Wi Z)<|U<|W<|Zb<|W<|Zr<|G (Yi Z)<|G (bX Z Z Z)<|G (Wb Z)<|U<|ZF Z<|W<|Zr<|G (Yi Z)<|G (xD Z Z (by decide))<|G (Wb Z)<|U<|ZT Z<|W<|Zr<|G (bj (cs:= #[J 0,J 0,J 0,.slice none 0 0]) fx cK N)<|bl H 0 (#[J 0,J 0,J 0,.slice none 0 0]) aF Z Z Z Z Z N N fun w5 H=>G (Wi Z)<|G (Wi Z)<|U<|Zt ?_
 exact gw (cs0:= #[J 0,J 0,J 0,.slice none 0 0]) (v1:=J 0) (v2:=J 5) Z ax Z (H.ent (i:=0) Z) Z Z Z ⟨rfl,H.below⟩
theorem yq (c:Co) (s:ByteArray) (ver:Int) (i:Nat) (t:Tx) (w:World) (h:c.rd 0 w.heap.size w) (hok:gB c=true) (hn:bM s=true) (hi:fJ c s=i) (ht:c.txs[i]? =some t) (hv:t.ver≠ver):dd aa rb [c.v,.string s,J ver] w fun v w2=>v=.tuple #[.agg #[J 0,J 0,J 0,.slice none 0 0],J 0,J 10]/\Below w.heap.size w w2:=by
 refine aE p7 Z Z ?_
 have hcap:=h.cap
 have hfew:=h.few
 have hfp:=h.fewP
 have H:=Hp.startCo h
 obtain⟨ck,nx,wt,txs,cA,cc⟩:=c
 dsimp only at hcap hfew hfp H
 show CW _ _ _ _ (args [.agg #[J ck,J nx,J wt,.slice cA txs.length cc],.string s,J ver]) w
 dsimp only at ht
 refine W<|Zr<|fS H Z Z fun w1 b3 H=>eC H cK Z fun w2 b6 H=>G (Wi Z)<|G (Wi Z)<|U<|W<|Zr<|G (Zw ax H 1 Z Z Z)<|G (Yt Z)<|cd ia (lG ⟨ck,nx,wt,txs,cA,cc⟩ s _ ⟨H.rd0 0 Z,fun t ht=>fu H 1 Z ht,hcap,hfew,hfp⟩ hok hn) Z Z ?_
 rintro _ w3 ⟨⟨ck2,nx2,wt2,tx2,A2,c2⟩,Lr,Lp,rfl,ha2,ho2,hp2,hoc2,hpc2,hj2⟩
 replace H:=H.joinR hj2;clear hj2
 simp only[Co.a,Co.mk.injEq]at ha2
 obtain⟨e1,e2,e3,hma,-,-⟩:=ha2
 obtain rfl:ck=ck2:=e1.symm
 obtain rfl:nx=nx2:=e2.symm
 obtain rfl:wt=wt2:=e3.symm
 dsimp only at ho2 hp2 hoc2 hpc2 H
 rw[hi]
 refine G (Yu Z)<|G (Xa Z Z)<|G (Xi Z Z)<|G (Xi Z Z)<|bl H 1 (#[J ck,J nx,J wt,.slice A2 tx2.length c2]) aF Z Z Z Z Z N N fun w4 H=>G (Wi Z)<|G (Wi Z)<|U<|W<|Zb<|W<|Zr<|G (Yi Z)<|G (bX Z Z Z)<|G (Wb Z)<|U<|ZF Z<|W<|Zr<|G (Yi Z)<|G (cY Z Z I)<|G (Wb Z)<|U<|ZF Z<|W ?_
 obtain⟨t2,ht2,hta⟩:=qT hma ht
 have hl2:=(cD ht2).1
 obtain⟨g,cur,rfl,rfl,row⟩:=ho2.row I
 have hver:t2.ver=t.ver:=by show t2.a.ver=t.a.ver;rw[hta]
 refine Zr<|G (Zf cO Z)<|G (Zd dL H 1 Z Z Z)<|G (Yi Z)<|G (cC gH Z Z I)<|G (Zf gx Z)<|G (bQ aj row ht2 2 Z (H.ent (i:=2) Z) Z)<|G (Yi Z)<|G (j9 Z Z I)<|G (Wb Z)<|U<|ZT Z<|W<|Zr<|G (bj (cs:= #[J 0,J 0,J 0,.slice none 0 0]) fx cK N)<|bl H 0 (#[J 0,J 0,J 0,.slice none 0 0]) aF Z Z Z Z Z N N fun w5 H=>G (Wi Z)<|G (Wi Z)<|U<|Zt ?_
 exact gw (cs0:= #[J 0,J 0,J 0,.slice none 0 0]) (v1:=J 0) (v2:=J 10) Z ax Z (H.ent (i:=0) Z) Z Z Z ⟨rfl,H.below⟩
theorem ww (c:Co) (s:ByteArray) (ver:Int) (i:Nat) (t:Tx) (w:World) (h:c.rd 0 w.heap.size w) (hok:gB c=true) (hn:bM s=true) (hi:fJ c s=i) (ht:c.txs[i]? =some t) (hv:t.ver=ver):dd aa rb [c.v,.string s,J ver] w fun v w2=> ∃ (c':Co) (Lr Lp:List (Nat×Obj)),v=.tuple #[c'.v,J (i:Nat),J 0]/\qi w w2 c.a c' Lr Lp:=by
 refine aE p7 Z Z ?_
 have hcap:=h.cap
 have hfew:=h.few
 have hfp:=h.fewP
 have H:=Hp.startCo h
 obtain⟨ck,nx,wt,txs,cA,cc⟩:=c
 dsimp only at hcap hfew hfp H
 show CW _ _ _ _ (args [.agg #[J ck,J nx,J wt,.slice cA txs.length cc],.string s,J ver]) w
 dsimp only at ht
 refine W<|Zr<|fS H Z Z fun w1 b3 H=>eC H cK Z fun w2 b6 H=>G (Wi Z)<|G (Wi Z)<|U<|W<|Zr<|G (Zw ax H 1 Z Z Z)<|G (Yt Z)<|cd ia (lG ⟨ck,nx,wt,txs,cA,cc⟩ s _ ⟨H.rd0 0 Z,fun t ht=>fu H 1 Z ht,hcap,hfew,hfp⟩ hok hn) Z Z ?_
 rintro _ w3 ⟨⟨ck2,nx2,wt2,tx2,A2,c2⟩,Lr,Lp,rfl,ha2,ho2,hp2,hoc2,hpc2,hj2⟩
 replace H:=H.joinR hj2;clear hj2
 simp only[Co.a,Co.mk.injEq]at ha2
 obtain⟨e1,e2,e3,hma,-,-⟩:=ha2
 obtain rfl:ck=ck2:=e1.symm
 obtain rfl:nx=nx2:=e2.symm
 obtain rfl:wt=wt2:=e3.symm
 dsimp only at ho2 hp2 hoc2 hpc2 H
 rw[hi]
 refine G (Yu Z)<|G (Xa Z Z)<|G (Xi Z Z)<|G (Xi Z Z)<|bl H 1 (#[J ck,J nx,J wt,.slice A2 tx2.length c2]) aF Z Z Z Z Z N N fun w4 H=>G (Wi Z)<|G (Wi Z)<|U<|W<|Zb<|W<|Zr<|G (Yi Z)<|G (bX Z Z Z)<|G (Wb Z)<|U<|ZF Z<|W<|Zr<|G (Yi Z)<|G (cY Z Z I)<|G (Wb Z)<|U<|ZF Z<|W ?_
 obtain⟨t2,ht2,hta⟩:=qT hma ht
 have hl2:=(cD ht2).1
 obtain⟨g,cur,rfl,rfl,row⟩:=ho2.row I
 have hver:t2.ver=t.ver:=by show t2.a.ver=t.a.ver;rw[hta]
 refine Zr<|G (Zf cO Z)<|G (Zd dL H 1 Z Z Z)<|G (Yi Z)<|G (cC gH Z Z I)<|G (Zf gx Z)<|G (bQ aj row ht2 2 Z (H.ent (i:=2) Z) Z)<|G (Yi Z)<|G (bX Z Z I)<|G (Wb Z)<|U<|ZF Z<|Zk<|W<|Zr<|G (Zw ax H 1 Z Z Z)<|G (Yi Z)<|bl H 0 (#[J ck,J nx,J wt,.slice (Qd g) tx2.length c2]) aF Z Z Z Z Z N N fun w5 H=>G (Wi Z)<|G (Wi Z)<|U<|Zt ?_
 exact gw (cs0:= #[J ck,J nx,J wt,.slice (Qd g) tx2.length c2]) (v1:=J (i:Nat)) (v2:=J 0) Z ax Z (H.ent (i:=0) Z) Z Z Z ⟨⟨ck,nx,wt,tx2,some ⟨g,0,none⟩,c2⟩,[(g,.cells cur dE (0,0))],Lp,rfl,by unfold Co.a;dsimp only;rw[hma],dU.own row,hp2,hoc2,hpc2,H.forget (.cons _ (.cons _ (aC _ _))) (by simp)⟩
/-- P5.5 -/
def eH (want:Int) (t:Tx):Option Tx:=if t.state=2 then some {t with state:=want}else if t.state=1/\t.done=0 then some {t with done:=want}else if t.state=want∨(t.state=1/\t.done=want)then some t else none
def vx (commit:Bool):Int:=if commit then 3 else 4
theorem ey.same {ts:List Tx} {L:List (Nat×Obj)} {i:Nat} {t t':Tx} (h:ey ts L) (hi:ts[i]? =some t) (h1:t'.A=t.A) (h2:t'.parts=t.parts) (h3:t'.cap=t.cap):ey (ts.set i t') L:=by
 obtain⟨La,Lt,Lb,rfl,ho,hs⟩:=h.at_ hi
 exact hs t' Lt (by rw[h1,h2,h3];exact ho)
theorem Im {t t':Tx} (h:t'.a=t.a) (v:Int):({t' with state:=v}:Tx).a=({t with state:=v}:Tx).a:=congrArg (fun x:Tx=>({x with state:=v}:Tx)) h
theorem Mh {t t':Tx} (h:t'.a=t.a) (v:Int):({t' with done:=v}:Tx).a=({t with done:=v}:Tx).a:=congrArg (fun x:Tx=>({x with done:=v}:Tx)) h
theorem oW {txs tx2:List Tx} (h:tx2.map Tx.a=txs.map Tx.a) (i:Nat) {t t':Tx} (ht:t'.a=t.a):(tx2.set i t').map Tx.a=(txs.set i t).map Tx.a:=by rw[cy,cy,h,ht]
theorem rQ {ts:List Tx} (h: ∀ t∈ts,t.parts.length<=t.cap) {i:Nat} {t t':Tx} (hi:ts[i]? =some t) (h2:t'.parts=t.parts) (h3:t'.cap=t.cap): ∀ x∈ts.set i t',x.parts.length<=x.cap:=fun x hx=>by
 rcases bH hx with hx|rfl
 exact h x hx
 rw[h2,h3];exact h t (ae hi)
theorem LI (c:Co) (s:ByteArray) (ver:Int) (i:Nat) (t:Tx) (w:World) (h:c.rd 0 w.heap.size w) (hok:gB c=true) (hn:bM s=true) (hi:fJ c s=i) (ht:c.txs[i]? =some t) (hv:t.ver=ver):dd aa lO [c.v,.string s,J ver,.bool true] w fun v w2=>match eH 3 t with|none=>v=.tuple #[.agg #[J 0,J 0,J 0,.slice none 0 0],J 12]/\Below w.heap.size w w2|some t'=> ∃ (c':Co) (Lr Lp:List (Nat×Obj)),v=.tuple #[c'.v,J 0]/\qi w w2 (Co.a {c with txs:=c.txs.set i t'}) c' Lr Lp:=by
 refine aE pE Z Z ?_
 have hcap:=h.cap
 have hfew:=h.few
 have hfp:=h.fewP
 have H:=Hp.startCo h
 obtain⟨ck,nx,wt,txs,cA,cc⟩:=c
 dsimp only at hcap hfew hfp H
 show CW _ _ _ _ (args [.agg #[J ck,J nx,J wt,.slice cA txs.length cc],.string s,J ver,.bool true]) w
 dsimp only at ht⊢
 refine W<|Zr<|fS H Z Z fun w1 b4 H=>eC H cK Z fun w2 b8 H=>G (Wi Z)<|U<|W<|Zr<|G (Zw ax H 1 Z Z Z)<|G (Yt Z)<|G (Yi Z)<|cd gC (ww ⟨ck,nx,wt,txs,cA,cc⟩ s ver i t _ ⟨H.rd0 0 Z,fun t ht=>fu H 1 Z ht,hcap,hfew,hfp⟩ hok hn hi ht hv) Z Z ?_
 rintro _ w3 ⟨⟨ck2,nx2,wt2,tx2,A2,c2⟩,Lr,Lp,rfl,ha2,ho2,hp2,hoc2,hpc2,hj2⟩
 replace H:=H.joinR hj2;clear hj2
 simp only[Co.a,Co.mk.injEq]at ha2
 obtain⟨e1,e2,e3,hma,-,-⟩:=ha2
 obtain rfl:ck=ck2:=e1.symm
 obtain rfl:nx=nx2:=e2.symm
 obtain rfl:wt=wt2:=e3.symm
 dsimp only at ho2 hp2 hoc2 hpc2 H
 refine G (Yu Z)<|G (Xa Z Z)<|G (Xi Z Z)<|G (Xi Z Z)<|bl H 1 (#[J ck,J nx,J wt,.slice A2 tx2.length c2]) aF Z Z Z Z Z N N fun w4 H=>G (Wi Z)<|G (Wi Z)<|U<|W<|W<|Zr<|G (Yi Z)<|G (bX Z Z Z)<|U<|ZF Z<|Zk<|W<|Zr<|G (Wi Z)<|U<|W<|W<|Zr<|G (Yb Z)<|U<|ZT Z<|Zr<|G (Wi Z)<|U<|W<|W ?_
 obtain⟨t2,ht2,hta⟩:=qT hma ht
 have hl2:=(cD ht2).1
 obtain⟨g,cur,rfl,rfl,row⟩:=ho2.row I
 have hst:t2.state=t.state:=by show t2.a.state=t.a.state;rw[hta]
 have hdn:t2.done=t.done:=by show t2.a.done=t.a.done;rw[hta]
 refine Zr<|G (Zf cO Z)<|G (Zd dL H 1 Z Z Z)<|G (Yi Z)<|G (cC gH Z Z I)<|G (Wp Z)<|U<|Zb<|W<|Zr<|G (Yp Z)<|G (aI Z)<|G (Zf cS Z)<|G (bQ aj row ht2 3 Z (H.ent (i:=2) Z) Z) ?_
 refine cR (bh Z Z) Z Z Z (fun h37=> ?_) (fun h37=> ?_)
 refine G (Wb Z)<|U<|ZT Z<|Zr<|G (Yp Z)<|G (Yi Z)<|G (aI Z)<|G (Zf cS Z)<|kQ H 2 ({t2 with state:=3}) bI row ht2 3 Z Z Z Z Z Z N fun w6 cur5 row5 H=>U<|W<|Zr<|G (Zw ax H 1 Z Z Z)<|bl H 0 (#[J ck,J nx,J wt,.slice (Qd g) tx2.length c2]) aF Z Z Z Z Z N N fun w7 H=>G (Wi Z)<|U<|Zt ?_
 have hE:eH 3 t=some {t with state:=3}:=by unfold eH;rw[if_pos I]
 rw[hE]
 dsimp only
 exact bG (cs0:= #[J ck,J nx,J wt,.slice (Qd g) tx2.length c2]) (v1:=J 0) Z ax Z (H.ent (i:=0) Z) Z Z ⟨⟨ck,nx,wt,(tx2.set i {t2 with state:=3}),some ⟨g,0,none⟩,c2⟩,[(g,.cells cur5 dE (0,0))],Lp,by unfold Co.v Co.c;dsimp only;rw[ab],by unfold Co.a;dsimp only;rw[oW hma i (Im hta _)],dU.own row5,hp2.same ht2 Z Z Z,by dsimp only;rw[ab];exact hoc2,rQ hpc2 ht2 Z Z,H.forget (.cons _ (.cons _ (aC _ _))) (by simp)⟩
 refine G (Wb Z)<|U<|ZF Z<|W<|Zr<|G (Yp Z)<|G (aI Z)<|G (Zf cS Z)<|G (bQ aj row ht2 3 Z (H.ent (i:=2) Z) Z) ?_
 refine cR (bh Z Z) Z Z Z (fun h47=> ?_) (fun h47=> ?_)
 refine G (Yb Z)<|ZG<|G (Yp Z)<|ZG<|G (aI Z)<|ZG<|G (Zf jg Z)<|ZG<|G (bQ aj row ht2 6 Z (H.ent (i:=2) Z) Z)<|ZG ?_
 refine cR (bh Z Z) Z Z Z (fun h53=> ?_) (fun h53=> ?_)
 refine G (Kt Z Z)<|G (Wb Z)<|U<|ZT Z<|Zr<|G (Yp Z)<|G (Yi Z)<|G (aI Z)<|G (Zf jg Z)<|kQ H 2 ({t2 with done:=3}) bI row ht2 6 Z Z Z Z Z Z N fun w9 cur8 row8 H=>U<|W<|Zr<|G (Zw ax H 1 Z Z Z)<|bl H 0 (#[J ck,J nx,J wt,.slice (Qd g) tx2.length c2]) aF Z Z Z Z Z N N fun w10 H=>G (Wi Z)<|U<|Zt ?_
 have hE:eH 3 t=some {t with done:=3}:=by unfold eH;rw[if_neg I,if_pos I]
 rw[hE]
 dsimp only
 exact bG (cs0:= #[J ck,J nx,J wt,.slice (Qd g) tx2.length c2]) (v1:=J 0) Z ax Z (H.ent (i:=0) Z) Z Z ⟨⟨ck,nx,wt,(tx2.set i {t2 with done:=3}),some ⟨g,0,none⟩,c2⟩,[(g,.cells cur8 dE (0,0))],Lp,by unfold Co.v Co.c;dsimp only;rw[ab],by unfold Co.a;dsimp only;rw[oW hma i (Mh hta _)],dU.own row8,hp2.same ht2 Z Z Z,by dsimp only;rw[ab];exact hoc2,rQ hpc2 ht2 Z Z,H.forget (.cons _ (.cons _ (aC _ _))) (by simp)⟩
 refine G (Kt Z Z)<|G (Wb Z)<|U<|ZF Z<|W<|W<|Zr<|G (Yp Z)<|G (aI Z)<|G (Zf cS Z)<|G (bQ aj row ht2 3 Z (H.ent (i:=2) Z) Z)<|G (Yi Z) ?_
 refine cR (bh Z Z) Z Z Z (fun h65=> ?_) (fun h65=> ?_)
 refine G (Wb Z)<|U<|ZT Z<|Zk<|ZT Z<|Zk<|W<|Zr<|G (Zw ax H 1 Z Z Z)<|bl H 0 (#[J ck,J nx,J wt,.slice (Qd g) tx2.length c2]) aF Z Z Z Z Z N N fun w11 H=>G (Wi Z)<|U<|Zt ?_
 have hE:eH 3 t=some t:=by unfold eH;rw[if_neg I,if_neg I,if_pos I]
 rw[hE]
 dsimp only
 exact bG (cs0:= #[J ck,J nx,J wt,.slice (Qd g) tx2.length c2]) (v1:=J 0) Z ax Z (H.ent (i:=0) Z) Z Z ⟨⟨ck,nx,wt,tx2,some ⟨g,0,none⟩,c2⟩,[(g,.cells cur dE (0,0))],Lp,rfl,by unfold Co.a;dsimp only;rw[iL ht,hma],dU.own row,hp2,hoc2,hpc2,H.forget (.cons _ (.cons _ (aC _ _))) (by simp)⟩
 refine G (Wb Z)<|U<|ZF Z<|Zr<|G (Yp Z)<|G (aI Z)<|G (Zf cS Z)<|G (bQ aj row ht2 3 Z (H.ent (i:=2) Z) Z) ?_
 refine cR (bh Z Z) Z Z Z (fun h70=> ?_) (fun h70=> ?_)
 refine G (Yb Z)<|ZG<|G (Yp Z)<|ZG<|G (aI Z)<|ZG<|G (Zf jg Z)<|ZG<|G (bQ aj row ht2 6 Z (H.ent (i:=2) Z) Z)<|ZG<|G (Yi Z)<|ZG ?_
 refine cR (bh Z Z) Z Z Z (fun h77=> ?_) (fun h77=> ?_)
 refine G (Kt Z Z)<|G (Wb Z)<|U<|ZT Z<|Zk<|W<|Zr<|G (Zw ax H 1 Z Z Z)<|bl H 0 (#[J ck,J nx,J wt,.slice (Qd g) tx2.length c2]) aF Z Z Z Z Z N N fun w12 H=>G (Wi Z)<|U<|Zt ?_
 have hE:eH 3 t=some t:=by unfold eH;rw[if_neg I,if_neg I,if_pos I]
 rw[hE]
 dsimp only
 exact bG (cs0:= #[J ck,J nx,J wt,.slice (Qd g) tx2.length c2]) (v1:=J 0) Z ax Z (H.ent (i:=0) Z) Z Z ⟨⟨ck,nx,wt,tx2,some ⟨g,0,none⟩,c2⟩,[(g,.cells cur dE (0,0))],Lp,rfl,by unfold Co.a;dsimp only;rw[iL ht,hma],dU.own row,hp2,hoc2,hpc2,H.forget (.cons _ (.cons _ (aC _ _))) (by simp)⟩
 refine G (Kt Z Z)<|G (Wb Z)<|U<|ZF Z<|W<|Zr<|G (bj (cs:= #[J 0,J 0,J 0,.slice none 0 0]) fx cK N)<|bl H 0 (#[J 0,J 0,J 0,.slice none 0 0]) aF Z Z Z Z Z N N fun w13 H=>G (Wi Z)<|U<|Zt ?_
 have hE:eH 3 t=none:=by unfold eH;rw[if_neg I,if_neg I,if_neg I]
 rw[hE]
 dsimp only
 exact bG (cs0:= #[J 0,J 0,J 0,.slice none 0 0]) (v1:=J 12) Z ax Z (H.ent (i:=0) Z) Z Z ⟨rfl,H.below⟩
 refine G (Yb Z)<|ZN<|ZN<|ZN<|ZN<|ZN<|ZN<|G (N Z Z)<|G (Wb Z)<|U<|ZF Z<|W<|Zr<|G (bj (cs:= #[J 0,J 0,J 0,.slice none 0 0]) fx cK N)<|bl H 0 (#[J 0,J 0,J 0,.slice none 0 0]) aF Z Z Z Z Z N N fun w14 H=>G (Wi Z)<|U<|Zt ?_
 have hE:eH 3 t=none:=by unfold eH;rw[if_neg I,if_neg I,if_neg I]
 rw[hE]
 dsimp only
 exact bG (cs0:= #[J 0,J 0,J 0,.slice none 0 0]) (v1:=J 12) Z ax Z (H.ent (i:=0) Z) Z Z ⟨rfl,H.below⟩
 refine G (Yb Z)<|ZN<|ZN<|ZN<|ZN<|ZN<|G (N Z Z)<|G (Wb Z)<|U<|ZF Z<|W<|W<|Zr<|G (Yp Z)<|G (aI Z)<|G (Zf cS Z)<|G (bQ aj row ht2 3 Z (H.ent (i:=2) Z) Z)<|G (Yi Z) ?_
 refine cR (bh Z Z) Z Z Z (fun h65=> ?_) (fun h65=> ?_)
 refine G (Wb Z)<|U<|ZT Z<|Zk<|ZT Z<|Zk<|W<|Zr<|G (Zw ax H 1 Z Z Z)<|bl H 0 (#[J ck,J nx,J wt,.slice (Qd g) tx2.length c2]) aF Z Z Z Z Z N N fun w15 H=>G (Wi Z)<|U<|Zt ?_
 have hE:eH 3 t=some t:=by unfold eH;rw[if_neg I,if_neg I,if_pos I]
 rw[hE]
 dsimp only
 exact bG (cs0:= #[J ck,J nx,J wt,.slice (Qd g) tx2.length c2]) (v1:=J 0) Z ax Z (H.ent (i:=0) Z) Z Z ⟨⟨ck,nx,wt,tx2,some ⟨g,0,none⟩,c2⟩,[(g,.cells cur dE (0,0))],Lp,rfl,by unfold Co.a;dsimp only;rw[iL ht,hma],dU.own row,hp2,hoc2,hpc2,H.forget (.cons _ (.cons _ (aC _ _))) (by simp)⟩
 refine G (Wb Z)<|U<|ZF Z<|Zr<|G (Yp Z)<|G (aI Z)<|G (Zf cS Z)<|G (bQ aj row ht2 3 Z (H.ent (i:=2) Z) Z) ?_
 refine cR (bh Z Z) Z Z Z (fun h70=> ?_) (fun h70=> ?_)
 refine G (Yb Z)<|ZG<|G (Yp Z)<|ZG<|G (aI Z)<|ZG<|G (Zf jg Z)<|ZG<|G (bQ aj row ht2 6 Z (H.ent (i:=2) Z) Z)<|ZG<|G (Yi Z)<|ZG ?_
 refine cR (bh Z Z) Z Z Z (fun h77=> ?_) (fun h77=> ?_)
 refine G (Kt Z Z)<|G (Wb Z)<|U<|ZT Z<|Zk<|W<|Zr<|G (Zw ax H 1 Z Z Z)<|bl H 0 (#[J ck,J nx,J wt,.slice (Qd g) tx2.length c2]) aF Z Z Z Z Z N N fun w16 H=>G (Wi Z)<|U<|Zt ?_
 have hE:eH 3 t=some t:=by unfold eH;rw[if_neg I,if_neg I,if_pos I]
 rw[hE]
 dsimp only
 exact bG (cs0:= #[J ck,J nx,J wt,.slice (Qd g) tx2.length c2]) (v1:=J 0) Z ax Z (H.ent (i:=0) Z) Z Z ⟨⟨ck,nx,wt,tx2,some ⟨g,0,none⟩,c2⟩,[(g,.cells cur dE (0,0))],Lp,rfl,by unfold Co.a;dsimp only;rw[iL ht,hma],dU.own row,hp2,hoc2,hpc2,H.forget (.cons _ (.cons _ (aC _ _))) (by simp)⟩
 refine G (Kt Z Z)<|G (Wb Z)<|U<|ZF Z<|W<|Zr<|G (bj (cs:= #[J 0,J 0,J 0,.slice none 0 0]) fx cK N)<|bl H 0 (#[J 0,J 0,J 0,.slice none 0 0]) aF Z Z Z Z Z N N fun w17 H=>G (Wi Z)<|U<|Zt ?_
 have hE:eH 3 t=none:=by unfold eH;rw[if_neg I,if_neg I,if_neg I]
 rw[hE]
 dsimp only
 exact bG (cs0:= #[J 0,J 0,J 0,.slice none 0 0]) (v1:=J 12) Z ax Z (H.ent (i:=0) Z) Z Z ⟨rfl,H.below⟩
 refine G (Yb Z)<|ZN<|ZN<|ZN<|ZN<|ZN<|ZN<|G (N Z Z)<|G (Wb Z)<|U<|ZF Z<|W<|Zr<|G (bj (cs:= #[J 0,J 0,J 0,.slice none 0 0]) fx cK N)<|bl H 0 (#[J 0,J 0,J 0,.slice none 0 0]) aF Z Z Z Z Z N N fun w18 H=>G (Wi Z)<|U<|Zt ?_
 have hE:eH 3 t=none:=by unfold eH;rw[if_neg I,if_neg I,if_neg I]
 rw[hE]
 dsimp only
 exact bG (cs0:= #[J 0,J 0,J 0,.slice none 0 0]) (v1:=J 12) Z ax Z (H.ent (i:=0) Z) Z Z ⟨rfl,H.below⟩
theorem Js (c:Co) (s:ByteArray) (ver:Int) (i:Nat) (t:Tx) (w:World) (h:c.rd 0 w.heap.size w) (hok:gB c=true) (hn:bM s=true) (hi:fJ c s=i) (ht:c.txs[i]? =some t) (hv:t.ver=ver):dd aa lO [c.v,.string s,J ver,.bool false] w fun v w2=>match eH 4 t with|none=>v=.tuple #[.agg #[J 0,J 0,J 0,.slice none 0 0],J 12]/\Below w.heap.size w w2|some t'=> ∃ (c':Co) (Lr Lp:List (Nat×Obj)),v=.tuple #[c'.v,J 0]/\qi w w2 (Co.a {c with txs:=c.txs.set i t'}) c' Lr Lp:=by
 refine aE pE Z Z ?_
 have hcap:=h.cap
 have hfew:=h.few
 have hfp:=h.fewP
 have H:=Hp.startCo h
 obtain⟨ck,nx,wt,txs,cA,cc⟩:=c
 dsimp only at hcap hfew hfp H
 show CW _ _ _ _ (args [.agg #[J ck,J nx,J wt,.slice cA txs.length cc],.string s,J ver,.bool false]) w
 dsimp only at ht⊢
 refine W<|Zr<|fS H Z Z fun w1 b4 H=>eC H cK Z fun w2 b8 H=>G (Wi Z)<|U<|W<|Zr<|G (Zw ax H 1 Z Z Z)<|G (Yt Z)<|G (Yi Z)<|cd gC (ww ⟨ck,nx,wt,txs,cA,cc⟩ s ver i t _ ⟨H.rd0 0 Z,fun t ht=>fu H 1 Z ht,hcap,hfew,hfp⟩ hok hn hi ht hv) Z Z ?_
 rintro _ w3 ⟨⟨ck2,nx2,wt2,tx2,A2,c2⟩,Lr,Lp,rfl,ha2,ho2,hp2,hoc2,hpc2,hj2⟩
 replace H:=H.joinR hj2;clear hj2
 simp only[Co.a,Co.mk.injEq]at ha2
 obtain⟨e1,e2,e3,hma,-,-⟩:=ha2
 obtain rfl:ck=ck2:=e1.symm
 obtain rfl:nx=nx2:=e2.symm
 obtain rfl:wt=wt2:=e3.symm
 dsimp only at ho2 hp2 hoc2 hpc2 H
 refine G (Yu Z)<|G (Xa Z Z)<|G (Xi Z Z)<|G (Xi Z Z)<|bl H 1 (#[J ck,J nx,J wt,.slice A2 tx2.length c2]) aF Z Z Z Z Z N N fun w4 H=>G (Wi Z)<|G (Wi Z)<|U<|W<|W<|Zr<|G (Yi Z)<|G (bX Z Z Z)<|U<|ZF Z<|Zk<|W<|Zr<|G (Wi Z)<|U<|W<|W<|Zr<|G (Yb Z)<|U<|ZF Z<|Zk<|W<|W ?_
 obtain⟨t2,ht2,hta⟩:=qT hma ht
 have hl2:=(cD ht2).1
 obtain⟨g,cur,rfl,rfl,row⟩:=ho2.row I
 have hst:t2.state=t.state:=by show t2.a.state=t.a.state;rw[hta]
 have hdn:t2.done=t.done:=by show t2.a.done=t.a.done;rw[hta]
 refine Zr<|G (Zf cO Z)<|G (Zd dL H 1 Z Z Z)<|G (Yi Z)<|G (cC gH Z Z I)<|G (Wp Z)<|U<|Zb<|W<|Zr<|G (Yp Z)<|G (aI Z)<|G (Zf cS Z)<|G (bQ aj row ht2 3 Z (H.ent (i:=2) Z) Z) ?_
 refine cR (bh Z Z) Z Z Z (fun h37=> ?_) (fun h37=> ?_)
 refine G (Wb Z)<|U<|ZT Z<|Zr<|G (Yp Z)<|G (Yi Z)<|G (aI Z)<|G (Zf cS Z)<|kQ H 2 ({t2 with state:=4}) bI row ht2 3 Z Z Z Z Z Z N fun w6 cur5 row5 H=>U<|W<|Zr<|G (Zw ax H 1 Z Z Z)<|bl H 0 (#[J ck,J nx,J wt,.slice (Qd g) tx2.length c2]) aF Z Z Z Z Z N N fun w7 H=>G (Wi Z)<|U<|Zt ?_
 have hE:eH 4 t=some {t with state:=4}:=by unfold eH;rw[if_pos I]
 rw[hE]
 dsimp only
 exact bG (cs0:= #[J ck,J nx,J wt,.slice (Qd g) tx2.length c2]) (v1:=J 0) Z ax Z (H.ent (i:=0) Z) Z Z ⟨⟨ck,nx,wt,(tx2.set i {t2 with state:=4}),some ⟨g,0,none⟩,c2⟩,[(g,.cells cur5 dE (0,0))],Lp,by unfold Co.v Co.c;dsimp only;rw[ab],by unfold Co.a;dsimp only;rw[oW hma i (Im hta _)],dU.own row5,hp2.same ht2 Z Z Z,by dsimp only;rw[ab];exact hoc2,rQ hpc2 ht2 Z Z,H.forget (.cons _ (.cons _ (aC _ _))) (by simp)⟩
 refine G (Wb Z)<|U<|ZF Z<|W<|Zr<|G (Yp Z)<|G (aI Z)<|G (Zf cS Z)<|G (bQ aj row ht2 3 Z (H.ent (i:=2) Z) Z) ?_
 refine cR (bh Z Z) Z Z Z (fun h47=> ?_) (fun h47=> ?_)
 refine G (Yb Z)<|ZG<|G (Yp Z)<|ZG<|G (aI Z)<|ZG<|G (Zf jg Z)<|ZG<|G (bQ aj row ht2 6 Z (H.ent (i:=2) Z) Z)<|ZG ?_
 refine cR (bh Z Z) Z Z Z (fun h53=> ?_) (fun h53=> ?_)
 refine G (Kt Z Z)<|G (Wb Z)<|U<|ZT Z<|Zr<|G (Yp Z)<|G (Yi Z)<|G (aI Z)<|G (Zf jg Z)<|kQ H 2 ({t2 with done:=4}) bI row ht2 6 Z Z Z Z Z Z N fun w9 cur8 row8 H=>U<|W<|Zr<|G (Zw ax H 1 Z Z Z)<|bl H 0 (#[J ck,J nx,J wt,.slice (Qd g) tx2.length c2]) aF Z Z Z Z Z N N fun w10 H=>G (Wi Z)<|U<|Zt ?_
 have hE:eH 4 t=some {t with done:=4}:=by unfold eH;rw[if_neg I,if_pos I]
 rw[hE]
 dsimp only
 exact bG (cs0:= #[J ck,J nx,J wt,.slice (Qd g) tx2.length c2]) (v1:=J 0) Z ax Z (H.ent (i:=0) Z) Z Z ⟨⟨ck,nx,wt,(tx2.set i {t2 with done:=4}),some ⟨g,0,none⟩,c2⟩,[(g,.cells cur8 dE (0,0))],Lp,by unfold Co.v Co.c;dsimp only;rw[ab],by unfold Co.a;dsimp only;rw[oW hma i (Mh hta _)],dU.own row8,hp2.same ht2 Z Z Z,by dsimp only;rw[ab];exact hoc2,rQ hpc2 ht2 Z Z,H.forget (.cons _ (.cons _ (aC _ _))) (by simp)⟩
 refine G (Kt Z Z)<|G (Wb Z)<|U<|ZF Z<|W<|W<|Zr<|G (Yp Z)<|G (aI Z)<|G (Zf cS Z)<|G (bQ aj row ht2 3 Z (H.ent (i:=2) Z) Z)<|G (Yi Z) ?_
 refine cR (bh Z Z) Z Z Z (fun h65=> ?_) (fun h65=> ?_)
 refine G (Wb Z)<|U<|ZT Z<|Zk<|ZT Z<|Zk<|W<|Zr<|G (Zw ax H 1 Z Z Z)<|bl H 0 (#[J ck,J nx,J wt,.slice (Qd g) tx2.length c2]) aF Z Z Z Z Z N N fun w11 H=>G (Wi Z)<|U<|Zt ?_
 have hE:eH 4 t=some t:=by unfold eH;rw[if_neg I,if_neg I,if_pos I]
 rw[hE]
 dsimp only
 exact bG (cs0:= #[J ck,J nx,J wt,.slice (Qd g) tx2.length c2]) (v1:=J 0) Z ax Z (H.ent (i:=0) Z) Z Z ⟨⟨ck,nx,wt,tx2,some ⟨g,0,none⟩,c2⟩,[(g,.cells cur dE (0,0))],Lp,rfl,by unfold Co.a;dsimp only;rw[iL ht,hma],dU.own row,hp2,hoc2,hpc2,H.forget (.cons _ (.cons _ (aC _ _))) (by simp)⟩
 refine G (Wb Z)<|U<|ZF Z<|Zr<|G (Yp Z)<|G (aI Z)<|G (Zf cS Z)<|G (bQ aj row ht2 3 Z (H.ent (i:=2) Z) Z) ?_
 refine cR (bh Z Z) Z Z Z (fun h70=> ?_) (fun h70=> ?_)
 refine G (Yb Z)<|ZG<|G (Yp Z)<|ZG<|G (aI Z)<|ZG<|G (Zf jg Z)<|ZG<|G (bQ aj row ht2 6 Z (H.ent (i:=2) Z) Z)<|ZG<|G (Yi Z)<|ZG ?_
 refine cR (bh Z Z) Z Z Z (fun h77=> ?_) (fun h77=> ?_)
 refine G (Kt Z Z)<|G (Wb Z)<|U<|ZT Z<|Zk<|W<|Zr<|G (Zw ax H 1 Z Z Z)<|bl H 0 (#[J ck,J nx,J wt,.slice (Qd g) tx2.length c2]) aF Z Z Z Z Z N N fun w12 H=>G (Wi Z)<|U<|Zt ?_
 have hE:eH 4 t=some t:=by unfold eH;rw[if_neg I,if_neg I,if_pos I]
 rw[hE]
 dsimp only
 exact bG (cs0:= #[J ck,J nx,J wt,.slice (Qd g) tx2.length c2]) (v1:=J 0) Z ax Z (H.ent (i:=0) Z) Z Z ⟨⟨ck,nx,wt,tx2,some ⟨g,0,none⟩,c2⟩,[(g,.cells cur dE (0,0))],Lp,rfl,by unfold Co.a;dsimp only;rw[iL ht,hma],dU.own row,hp2,hoc2,hpc2,H.forget (.cons _ (.cons _ (aC _ _))) (by simp)⟩
 refine G (Kt Z Z)<|G (Wb Z)<|U<|ZF Z<|W<|Zr<|G (bj (cs:= #[J 0,J 0,J 0,.slice none 0 0]) fx cK N)<|bl H 0 (#[J 0,J 0,J 0,.slice none 0 0]) aF Z Z Z Z Z N N fun w13 H=>G (Wi Z)<|U<|Zt ?_
 have hE:eH 4 t=none:=by unfold eH;rw[if_neg I,if_neg I,if_neg I]
 rw[hE]
 dsimp only
 exact bG (cs0:= #[J 0,J 0,J 0,.slice none 0 0]) (v1:=J 12) Z ax Z (H.ent (i:=0) Z) Z Z ⟨rfl,H.below⟩
 refine G (Yb Z)<|ZN<|ZN<|ZN<|ZN<|ZN<|ZN<|G (N Z Z)<|G (Wb Z)<|U<|ZF Z<|W<|Zr<|G (bj (cs:= #[J 0,J 0,J 0,.slice none 0 0]) fx cK N)<|bl H 0 (#[J 0,J 0,J 0,.slice none 0 0]) aF Z Z Z Z Z N N fun w14 H=>G (Wi Z)<|U<|Zt ?_
 have hE:eH 4 t=none:=by unfold eH;rw[if_neg I,if_neg I,if_neg I]
 rw[hE]
 dsimp only
 exact bG (cs0:= #[J 0,J 0,J 0,.slice none 0 0]) (v1:=J 12) Z ax Z (H.ent (i:=0) Z) Z Z ⟨rfl,H.below⟩
 refine G (Yb Z)<|ZN<|ZN<|ZN<|ZN<|ZN<|G (N Z Z)<|G (Wb Z)<|U<|ZF Z<|W<|W<|Zr<|G (Yp Z)<|G (aI Z)<|G (Zf cS Z)<|G (bQ aj row ht2 3 Z (H.ent (i:=2) Z) Z)<|G (Yi Z) ?_
 refine cR (bh Z Z) Z Z Z (fun h65=> ?_) (fun h65=> ?_)
 refine G (Wb Z)<|U<|ZT Z<|Zk<|ZT Z<|Zk<|W<|Zr<|G (Zw ax H 1 Z Z Z)<|bl H 0 (#[J ck,J nx,J wt,.slice (Qd g) tx2.length c2]) aF Z Z Z Z Z N N fun w15 H=>G (Wi Z)<|U<|Zt ?_
 have hE:eH 4 t=some t:=by unfold eH;rw[if_neg I,if_neg I,if_pos I]
 rw[hE]
 dsimp only
 exact bG (cs0:= #[J ck,J nx,J wt,.slice (Qd g) tx2.length c2]) (v1:=J 0) Z ax Z (H.ent (i:=0) Z) Z Z ⟨⟨ck,nx,wt,tx2,some ⟨g,0,none⟩,c2⟩,[(g,.cells cur dE (0,0))],Lp,rfl,by unfold Co.a;dsimp only;rw[iL ht,hma],dU.own row,hp2,hoc2,hpc2,H.forget (.cons _ (.cons _ (aC _ _))) (by simp)⟩
 refine G (Wb Z)<|U<|ZF Z<|Zr<|G (Yp Z)<|G (aI Z)<|G (Zf cS Z)<|G (bQ aj row ht2 3 Z (H.ent (i:=2) Z) Z) ?_
 refine cR (bh Z Z) Z Z Z (fun h70=> ?_) (fun h70=> ?_)
 refine G (Yb Z)<|ZG<|G (Yp Z)<|ZG<|G (aI Z)<|ZG<|G (Zf jg Z)<|ZG<|G (bQ aj row ht2 6 Z (H.ent (i:=2) Z) Z)<|ZG<|G (Yi Z)<|ZG ?_
 refine cR (bh Z Z) Z Z Z (fun h77=> ?_) (fun h77=> ?_)
 refine G (Kt Z Z)<|G (Wb Z)<|U<|ZT Z<|Zk<|W<|Zr<|G (Zw ax H 1 Z Z Z)<|bl H 0 (#[J ck,J nx,J wt,.slice (Qd g) tx2.length c2]) aF Z Z Z Z Z N N fun w16 H=>G (Wi Z)<|U<|Zt ?_
 have hE:eH 4 t=some t:=by unfold eH;rw[if_neg I,if_neg I,if_pos I]
 rw[hE]
 dsimp only
 exact bG (cs0:= #[J ck,J nx,J wt,.slice (Qd g) tx2.length c2]) (v1:=J 0) Z ax Z (H.ent (i:=0) Z) Z Z ⟨⟨ck,nx,wt,tx2,some ⟨g,0,none⟩,c2⟩,[(g,.cells cur dE (0,0))],Lp,rfl,by unfold Co.a;dsimp only;rw[iL ht,hma],dU.own row,hp2,hoc2,hpc2,H.forget (.cons _ (.cons _ (aC _ _))) (by simp)⟩
 refine G (Kt Z Z)<|G (Wb Z)<|U<|ZF Z<|W<|Zr<|G (bj (cs:= #[J 0,J 0,J 0,.slice none 0 0]) fx cK N)<|bl H 0 (#[J 0,J 0,J 0,.slice none 0 0]) aF Z Z Z Z Z N N fun w17 H=>G (Wi Z)<|U<|Zt ?_
 have hE:eH 4 t=none:=by unfold eH;rw[if_neg I,if_neg I,if_neg I]
 rw[hE]
 dsimp only
 exact bG (cs0:= #[J 0,J 0,J 0,.slice none 0 0]) (v1:=J 12) Z ax Z (H.ent (i:=0) Z) Z Z ⟨rfl,H.below⟩
 refine G (Yb Z)<|ZN<|ZN<|ZN<|ZN<|ZN<|ZN<|G (N Z Z)<|G (Wb Z)<|U<|ZF Z<|W<|Zr<|G (bj (cs:= #[J 0,J 0,J 0,.slice none 0 0]) fx cK N)<|bl H 0 (#[J 0,J 0,J 0,.slice none 0 0]) aF Z Z Z Z Z N N fun w18 H=>G (Wi Z)<|U<|Zt ?_
 have hE:eH 4 t=none:=by unfold eH;rw[if_neg I,if_neg I,if_neg I]
 rw[hE]
 dsimp only
 exact bG (cs0:= #[J 0,J 0,J 0,.slice none 0 0]) (v1:=J 12) Z ax Z (H.ent (i:=0) Z) Z Z ⟨rfl,H.below⟩
/-- P5.7: what a tick does to one producer's transaction -/
def fk (clock wait:Int) (t:Tx):Tx:=if t.state=2/\wait<=clock-t.since/\t.ver<1073741824 then{t with state:=4,ver:=t.ver+1}else t
theorem Kb (ck wt:Int) (t:Tx):(fk ck wt t).a=fk ck wt t.a:=by
 unfold fk
 by_cases h:t.state=2/\wt<=ck-t.since/\t.ver<1073741824
 rw[if_pos h,if_pos (show t.a.state=2/\wt<=ck-t.a.since/\t.a.ver<1073741824 from h)];rfl
 rw[if_neg h,if_neg (show¬ (t.a.state=2/\wt<=ck-t.a.since/\t.a.ver<1073741824)from h)]
theorem Cf (ck wt:Int) (t:Tx):(fk ck wt t).A=t.A/\(fk ck wt t).parts=t.parts/\(fk ck wt t).cap=t.cap:=by
 unfold fk
 split<;>exact⟨rfl,rfl,rfl⟩
theorem ey.tick (ck wt:Int): ∀ {ts:List Tx} {L:List (Nat×Obj)},ey ts L->ey (ts.map (fk ck wt)) L
 |[],_,h=>h
 |t::_,_,⟨L1,L2,h1,h2,h3⟩=>⟨L1,L2,h1,by obtain⟨a,b,c⟩:=Cf ck wt t;rw[a,b,c];exact h2,ey.tick ck wt h3⟩
def mi (ck wt:Int) (ts:List Tx) (k:Nat):List Tx:=(ts.take k).map (fk ck wt)++ts.drop k
theorem zv (ck wt:Int) (ts:List Tx) (k:Nat):(mi ck wt ts k).length=ts.length:=by
 unfold mi;simp;omega
theorem Ix {ck wt:Int} {ts:List Tx} {k:Nat} {x:Tx} (h:ts[k]? =some x):(mi ck wt ts k)[k]? =some x:=by
 have:=(cD h).1
 unfold mi
 rw[cw (by simp;omega)]
 simp
 rw[show k-min k ts.length=0 by omega]
 simpa using h
theorem r9 {ck wt:Int} {ts:List Tx} {k:Nat} {x:Tx} (h:ts[k]? =some x):(mi ck wt ts k).set k (fk ck wt x)=mi ck wt ts (k+1):=by
 have hl:=(cD h).1
 unfold mi
 rw[eL h,cN h,bk,i9 _ _ (by simp;omega)]
 simp
 rw[show k-min k ts.length=0 by omega]
 simp
theorem uf {ck nx:Int}: ∀ {l pre:List Tx},nU ck nx pre l=true-> ∀ t∈l,fG ck nx t=true
 |[],_,_,_,ht=>by cases ht
 |x::l,pre,h,t,ht=>by
  unfold nU at h
  simp only[aS]at h
  rcases av.1 ht with rfl|ht
  exact h.1.1
  exact uf h.2 t ht
def vy (c:Co) (n:Int):Co:={c with clock:=c.clock+n,txs:=c.txs.map (fk (c.clock+n) c.wait)}
theorem Ms (c:Co) (n:Int) (w:World) (h:c.rd 0 w.heap.size w) (hok:gB c=true) (hn0:0<=n) (hn1:n<=1000) (hcl:c.clock+n<=1073741824):dd aa sv [c.v,J n] w fun v w2=> ∃ (c':Co) (Lr Lp:List (Nat×Obj)),v=.tuple #[c'.v,J 0]/\qi w w2 (vy c.a n) c' Lr Lp:=by
 refine aE ve Z Z ?_
 have hcap:=h.cap
 have hfew:=h.few
 have hfp:=h.fewP
 have H:=Hp.startCo h
 obtain⟨ck,nx,wt,txs,cA,cc⟩:=c
 dsimp only at hcap hfew hfp H
 show CW _ _ _ _ (args [.agg #[J ck,J nx,J wt,.slice cA txs.length cc],J n]) w
 dsimp only at hcl
 obtain⟨q1,q2,q3,q4,q5,q6,q7⟩:=iU.1 hok
 dsimp only at q1 q2 q3 q4 q5 q6
 obtain⟨q8,q9⟩:=uv q1
 refine W<|Zr<|fS H Z Z fun w1 b2 H=>eC H cK Z fun w2 b4 H=>G (Wi Z)<|U<|W<|W<|Zr<|G (Zw ax H 1 Z Z Z)<|cd kw (qc ⟨ck,nx,wt,txs,cA,cc⟩ _ ⟨H.rd0 0 Z,fun t ht=>fu H 1 Z ht,hcap,hfew,hfp⟩) Z Z ?_
 rw[hok]
 rintro _ w3 ⟨rfl,hb⟩;replace H:=H.later hb;clear hb
 refine G (Wi Z)<|U<|W<|Zr<|G (Yi Z)<|G (bX Z Z Z)<|U<|ZF Z<|Zk<|W<|W<|Zr<|G (Yi Z)<|G (cY Z Z I)<|G (Yb Z)<|ZG<|G (Yi Z)<|ZG<|G (er Z Z I)<|G (N Z Z)<|G (Yb Z)<|ZG<|G (Zf km Z)<|ZG<|G (Zd aj H 1 Z Z Z)<|ZG<|G (Yi Z)<|ZG<|G (bp Z Z I I)<|ZG<|G (er Z Z I)<|G (N Z Z)<|U<|ZF Z<|Zk<|W<|Zr<|G (Zw ax H 1 Z Z Z)<|cd i4 (sJ ⟨ck,nx,wt,txs,cA,cc⟩ _ ⟨H.rd0 0 Z,fun t ht=>fu H 1 Z ht,hcap,hfew,hfp⟩) Z Z ?_
 rintro _ w4 ⟨⟨ck2,nx2,wt2,tx2,A2,c2⟩,Lr,Lp,rfl,ha2,ho2,hp2,hoc2,hpc2,hj2⟩
 replace H:=H.joinR hj2;clear hj2
 simp only[Co.a,Co.mk.injEq]at ha2
 obtain⟨e1,e2,e3,hma,-,-⟩:=ha2
 obtain rfl:ck=ck2:=e1.symm
 obtain rfl:nx=nx2:=e2.symm
 obtain rfl:wt=wt2:=e3.symm
 dsimp only at ho2 hp2 hoc2 hpc2 H
 have hlen2:tx2.length=txs.length:=by have:=congrArg cv hma;simpa using this
 refine bl H 1 (#[J ck,J nx,J wt,.slice A2 tx2.length c2]) aF Z Z Z Z Z N N fun w5 H=>U<|W<|Zr<|G (Zf km Z)<|G (Zd aj H 1 Z Z Z)<|G (Yi Z)<|G (bp Z Z I I)<|G (Zf km Z)<|bl H 1 (#[J (ck+n),J nx,J wt,.slice A2 tx2.length c2]) bI Z Z Z Z Z N N fun w6 H=>U<|W<|W<|Zr<|G (Zf cO Z)<|G (Zd dL H 1 Z Z Z)<|G (bn lf Z)<|G (Yi Z)<|U<|Zb ?_
 refine cf (τ:=Nat×Option Addr) [7,8,39,40,41,42,43,44,45,46,47,48,49,50,51,52,53,54,55,56,57,58,59,60,61,62,63,64,65,66,67,68,69,70,71,72,73,74,75,76,77,78,79,80] (fun(k,_)=>[(39,J (k:Nat))]) (fun(k,A2) w'=>k<=tx2.length/\ ∃ L',gi rx (.slice A2 (mi (ck+n) wt tx2 k).length c2) dE (mi (ck+n) wt tx2 k) L'/\Hp w w' ([(b4,.cells #[J 0,J 0,J 0,.slice none 0 0] bf (0,0)),(b2,.cells #[J (ck+n),J nx,J wt,.slice A2 tx2.length c2] bf (0,0))]++L'++(Lp++[])) [dG rx 0 w.heap.size cA txs,iE 0 w.heap.size txs]) (fun(k,_)=>tx2.length-k) (0,A2) ⟨by omega,Lr,by unfold mi;simpa using ho2,by show Hp w _ (_::_::(Lr++(Lp++[]))) _;rw[<-aD];exact H⟩ (dF Z) ?_
 rintro⟨k,A2⟩ ρ1 w7 ⟨hk,L1,ho,H⟩
 show CW _ _ _ _ (dv (gk _ _ ρ1) [(39,J (k:Nat))]) w7
 refine W<|Zr ?_
 refine cR (cG Z Z) Z Z Z (fun h40=> ?_) (fun h40=> ?_)
 refine U<|W<|ZT Z<|Zk<|W<|Zb<|W ?_
 obtain⟨x,hxt⟩: ∃ x,tx2[k]? =some x:=⟨_,ah I⟩
 have hx:=Ix (ck:=ck+n) (wt:=wt) hxt
 have htl:=zv (ck+n) wt tx2 k
 obtain⟨g,cur,rfl,rfl,row⟩:=ho.row I
 obtain⟨t,ht,hta⟩:=qT hma.symm hxt
 have hxo:fG ck nx x=true:=by have h1:fG ck nx t.a=true:=uf q7 t (ae ht);rw[hta]at h1;exact h1
 obtain⟨a1,a2,a3,a4,a5,a6,a7,a8,a9,a10,a11⟩:=cB.1 hxo
 obtain⟨v1,v2⟩:=uv a4
 refine Zr<|G (Yi Z)<|G (Wi Z)<|U<|W<|Zr<|G (Zf cO Z)<|G (Zd dL H 1 Z Z Z)<|G (Yi Z)<|G (cC gH Z Z I)<|G (Wp Z)<|U<|W ?_
 refine bD bZ [0,1,2,3,4,5,6,7,8,9,10,11,12,13,14,15,16,17,18,19,20,21,22,23] [] [] [0,1,2,4,5,6,8,9,10,12,13,15,16,17,18,19,20,22,23] (sp []) N N N N Nq (cI _) ?_
 refine aw Z Z Z Z Z (fun w' hw'=>Yp Z)<|aw Z Z Z Z Z (fun w' hw'=>aI Z)<|aw Z Z Z Z Z (fun w' hw'=>Zf cS Z)<|aw Z Z Z Z Z (fun w' hw'=>bQ aj row hx 3 Z ((H.later hw').ent (i:=2) Z) Z) ?_
 refine Bi Z Z Z Z Z (fun w' hw'=>bh Z Z) (fun h50=> ?_) (fun h50=> ?_)
 refine aw Z Z Z Z Z (fun w' hw'=>Yb Z)<|aw Z Z Z Z Z (fun w' hw'=>Zf km Z)<|aw Z Z Z Z Z (fun w' hw'=>aV aj Z (aB ((H.later hw').ent (i:=1) Z) Z))<|aw Z Z Z Z Z (fun w' hw'=>Yp Z)<|aw Z Z Z Z Z (fun w' hw'=>aI Z)<|aw Z Z Z Z Z (fun w' hw'=>Zf tT Z)<|aw Z Z Z Z Z (fun w' hw'=>bQ aj row hx 5 Z ((H.later hw').ent (i:=2) Z) Z)<|aw Z Z Z Z Z (fun w' hw'=>mX Z Z I I)<|aw Z Z Z Z Z (fun w' hw'=>Zf vO Z)<|aw Z Z Z Z Z (fun w' hw'=>aV aj Z (aB ((H.later hw').ent (i:=1) Z) Z)) ?_
 refine Bi Z Z Z Z Z (fun w' hw'=>ke Z Z) (fun h61=> ?_) (fun h61=> ?_)
 refine aw Z Z Z Z Z (fun w' hw'=>Kt Z Z)<|aw Z Z Z Z Z (fun w' hw'=>Yb Z)<|aw Z Z Z Z Z (fun w' hw'=>Yp Z)<|aw Z Z Z Z Z (fun w' hw'=>aI Z)<|aw Z Z Z Z Z (fun w' hw'=>Zf gx Z)<|aw Z Z Z Z Z (fun w' hw'=>bQ aj row hx 2 Z ((H.later hw').ent (i:=2) Z) Z) ?_
 refine Bi Z Z Z Z Z (fun w' hw'=>cG Z Z) (fun h68=> ?_) (fun h68=> ?_)
 refine aw Z Z Z Z Z (fun w' hw'=>Kt Z Z)<|aU ?_
 intro w8 hw' hF
 replace H:=H.later hw';clear hw' hF
 refine U<|ZT Z<|W<|Zr<|G (Yp Z)<|G (aI Z)<|G (Zf cS Z)<|kQ H 2 ({x with state:=4}) bI row hx 3 Z Z Z Z Z Z N fun w10 cur9 row9 H=>U ?_
 have hx2:((mi (ck+n) wt tx2 k).set k {x with state:=4})[k]? =some {x with state:=4}:=am I
 have hv2:({x with state:=4}:Tx).ver=x.ver:=rfl
 refine Zr<|G (Yp Z)<|G (aI Z)<|G (Zf gx Z)<|G (bQ aj row9 hx2 2 Z (H.ent (i:=2) Z) Z)<|G (bp Z Z I I)<|G (aI Z)<|G (Zf gx Z)<|kQ H 2 ({x with state:=4,ver:=x.ver+1}) bI row9 hx2 2 Z Z Z Z Z Z N fun w12 cur11 row11 H=>U<|Zr<|G (bp Z Z I I)<|G (Yi Z)<|U ?_
 have hT:fk (ck+n) wt x={x with state:=4,ver:=x.ver+1}:=by unfold fk;rw[if_pos I]
 have hS:=r9 (ck:=ck+n) (wt:=wt) hxt
 rw[hT]at hS
 refine⟨(k+1,some ⟨g,0,none⟩),⟨by omega,_,by rw[<-hS];exact dU.own (by have:=row11;rwa[fo]at this),H⟩,dF Z,Qg,by show tx2.length- (k+1)<tx2.length-k;omega⟩
 refine aw Z Z Z Z Z (fun w' hw'=>Kt Z Z)<|aU ?_
 intro w13 hw' hF
 replace H:=H.later hw';clear hw' hF
 refine U<|ZF Z<|Zk<|Zr<|G (bp Z Z I I)<|G (Yi Z)<|U ?_
 have hT:fk (ck+n) wt x=x:=by unfold fk;rw[if_neg I]
 have hS:=r9 (ck:=ck+n) (wt:=wt) hxt
 rw[hT]at hS
 refine⟨(k+1,some ⟨g,0,none⟩),⟨by omega,_,by rw[<-hS];exact dU.own (by rw[iL hx];exact row),H⟩,dF Z,Qg,by show tx2.length- (k+1)<tx2.length-k;omega⟩
 refine aw Z Z Z Z Z (fun w' hw'=>Kt Z Z)<|aw Z Z Z Z Z (fun w' hw'=>Yb Z)<|eU Z Z Z Z<|eU Z Z Z Z<|eU Z Z Z Z<|eU Z Z Z Z<|eU Z Z Z Z<|aw Z Z Z Z Z (fun w' hw'=>N Z Z)<|aU ?_
 intro w14 hw' hF
 replace H:=H.later hw';clear hw' hF
 refine U<|ZF Z<|Zk<|Zr<|G (bp Z Z I I)<|G (Yi Z)<|U ?_
 have hT:fk (ck+n) wt x=x:=by unfold fk;rw[if_neg I]
 have hS:=r9 (ck:=ck+n) (wt:=wt) hxt
 rw[hT]at hS
 refine⟨(k+1,some ⟨g,0,none⟩),⟨by omega,_,by rw[<-hS];exact dU.own (by rw[iL hx];exact row),H⟩,dF Z,Qg,by show tx2.length- (k+1)<tx2.length-k;omega⟩
 refine aw Z Z Z Z Z (fun w' hw'=>Yb Z)<|eU Z Z Z Z<|eU Z Z Z Z<|eU Z Z Z Z<|eU Z Z Z Z<|eU Z Z Z Z<|eU Z Z Z Z<|eU Z Z Z Z<|eU Z Z Z Z<|eU Z Z Z Z<|eU Z Z Z Z<|aw Z Z Z Z Z (fun w' hw'=>N Z Z)<|aw Z Z Z Z Z (fun w' hw'=>Yb Z)<|eU Z Z Z Z<|eU Z Z Z Z<|eU Z Z Z Z<|eU Z Z Z Z<|eU Z Z Z Z<|aw Z Z Z Z Z (fun w' hw'=>N Z Z)<|aU ?_
 intro w15 hw' hF
 replace H:=H.later hw';clear hw' hF
 refine U<|ZF Z<|Zk<|Zr<|G (bp Z Z I I)<|G (Yi Z)<|U ?_
 have hT:fk (ck+n) wt x=x:=by unfold fk;rw[if_neg I]
 have hS:=r9 (ck:=ck+n) (wt:=wt) hxt
 rw[hT]at hS
 refine⟨(k+1,some ⟨g,0,none⟩),⟨by omega,_,by rw[<-hS];exact dU.own (by rw[iL hx];exact row),H⟩,dF Z,Qg,by show tx2.length- (k+1)<tx2.length-k;omega⟩
 have hke:k=tx2.length:=by omega
 have hfin:mi (ck+n) wt tx2 k=tx2.map (fk (ck+n) wt):=by unfold mi;rw[hke,bV,fq,aY]
 have hfl:(mi (ck+n) wt tx2 k).length=tx2.length:=zv _ _ _ _
 rw[hfin]at ho hfl
 have hTa:(tx2.map (fk (ck+n) wt)).map Tx.a=(txs.map Tx.a).map (fk (ck+n) wt):=by rw[<-hma,r4,r4];congr 1;funext t;exact Kb _ _ t
 refine U<|W<|ZF Z<|Zx<|W<|Zr<|G (Zw ax H 1 Z Z Z)<|bl H 0 (#[J (ck+n),J nx,J wt,.slice A2 tx2.length c2]) aF Z Z Z Z Z N N fun w16 H=>G (Wi Z)<|U<|Zt ?_
 exact bG (cs0:= #[J (ck+n),J nx,J wt,.slice A2 tx2.length c2]) (v1:=J 0) Z ax Z (H.ent (i:=0) Z) Z Z ⟨⟨ck+n,nx,wt,tx2.map (fk (ck+n) wt),A2,c2⟩,L1,Lp,by unfold Co.v Co.c;dsimp only;rw[bC],by unfold Co.a vy;dsimp only;rw[hTa],ho,hp2.tick _ _,by dsimp only;rw[bC];exact hoc2,by intro t ht;obtain⟨y,hy,rfl⟩:=bv.1 ht;obtain⟨a,b,c⟩:=Cf (ck+n) wt y;rw[b,c];exact hpc2 y hy,by simpa using H.forget (.cons _ (.cons _ (ap _))) (F':=[]) (by simp)⟩
/-- P5.3: a producer that was there: its version rises, what is under way is aborted -/
def je (t:Tx):Tx:=if t.state=2 then{t with state:=4,ver:=t.ver+1}else{t with ver:=t.ver+1}
theorem Lf {t t':Tx} (h:t'.a=t.a):(je t').a=(je t).a:=by
 have h1:t'.state=t.state:=by show t'.a.state=t.a.state;rw[h]
 unfold je
 by_cases hs:t.state=2
 rw[if_pos (h1.trans hs),if_pos hs]
 exact congrArg (fun x:Tx=>({x with state:=4,ver:=x.ver+1}:Tx)) h
 rw[if_neg (fun q=>hs (h1.symm.trans q)),if_neg hs]
 exact congrArg (fun x:Tx=>({x with ver:=x.ver+1}:Tx)) h
theorem GY (c:Co) (s:ByteArray) (i:Nat) (t:Tx) (w:World) (h:c.rd 0 w.heap.size w) (hok:gB c=true) (hn:bM s=true) (hi:fJ c s=i) (ht:c.txs[i]? =some t) (h3:t.state≠3) (h4:t.state≠4) (hv0:0<=t.ver) (hv:t.ver<1073741824):dd aa mu [c.v,.string s] w fun v w2=> ∃ (c':Co) (Lr Lp:List (Nat×Obj)),v=.tuple #[c'.v,J t.pid,J (t.ver+1),J 0]/\qi w w2 (Co.a {c with txs:=c.txs.set i (je t)}) c' Lr Lp:=by
 refine aE nQ Z Z ?_
 have hcap:=h.cap
 have hfew:=h.few
 have hfp:=h.fewP
 have H:=Hp.startCo h
 obtain⟨ck,nx,wt,txs,cA,cc⟩:=c
 dsimp only at hcap hfew hfp H
 show CW _ _ _ _ (args [.agg #[J ck,J nx,J wt,.slice cA txs.length cc],.string s]) w
 dsimp only at ht⊢
 refine W<|Zr<|fS H Z Z fun w1 b2 H=>eC H cK Z fun w2 b4 H=>G (Wi Z)<|G (Wi Z)<|G (Wi Z)<|U<|W<|Zr<|G (Zw ax H 1 Z Z Z)<|G (Yt Z)<|cd ia (lG ⟨ck,nx,wt,txs,cA,cc⟩ s _ ⟨H.rd0 0 Z,fun t ht=>fu H 1 Z ht,hcap,hfew,hfp⟩ hok hn) Z Z ?_
 rintro _ w3 ⟨⟨ck2,nx2,wt2,tx2,A2,c2⟩,Lr,Lp,rfl,ha2,ho2,hp2,hoc2,hpc2,hj2⟩
 replace H:=H.joinR hj2;clear hj2
 simp only[Co.a,Co.mk.injEq]at ha2
 obtain⟨e1,e2,e3,hma,-,-⟩:=ha2
 obtain rfl:ck=ck2:=e1.symm
 obtain rfl:nx=nx2:=e2.symm
 obtain rfl:wt=wt2:=e3.symm
 dsimp only at ho2 hp2 hoc2 hpc2 H
 rw[hi]
 refine G (Yu Z)<|G (Xa Z Z)<|G (Xi Z Z)<|G (Xi Z Z)<|bl H 1 (#[J ck,J nx,J wt,.slice A2 tx2.length c2]) aF Z Z Z Z Z N N fun w4 H=>G (Wi Z)<|G (Wi Z)<|U<|W<|W<|Zr<|G (Yi Z)<|G (bX Z Z Z)<|U<|ZF Z<|Zk<|W<|W<|Zr<|G (Yi Z)<|G (cY Z Z I)<|U<|ZF Z<|Zk<|W ?_
 obtain⟨t2,ht2,hta⟩:=qT hma ht
 have hl2:=(cD ht2).1
 obtain⟨g,cur,rfl,rfl,row⟩:=ho2.row I
 have hst:t2.state=t.state:=by show t2.a.state=t.a.state;rw[hta]
 have hdn:t2.done=t.done:=by show t2.a.done=t.a.done;rw[hta]
 have hver:t2.ver=t.ver:=by show t2.a.ver=t.a.ver;rw[hta]
 have hpid:t2.pid=t.pid:=by show t2.a.pid=t.a.pid;rw[hta]
 refine Zr<|G (Zf cO Z)<|G (Zd dL H 1 Z Z Z)<|G (Yi Z)<|G (cC gH Z Z (by first|omega|(simp only[ab];omega)))<|G (Wp Z)<|U<|W<|Zb<|W<|Zr<|G (Yp Z)<|G (aI Z)<|G (Zf cS Z)<|G (bQ aj row ht2 3 Z (H.ent (i:=2) Z) Z)<|G (nC Z Z I)<|G (Yb Z)<|ZG<|G (Yp Z)<|ZG<|G (aI Z)<|ZG<|G (Zf cS Z)<|ZG<|G (bQ aj row ht2 3 Z (H.ent (i:=2) Z) Z)<|ZG<|G (nC Z Z I)<|G (N Z Z)<|G (Wb Z)<|U<|ZF Z<|W<|Zr<|G (Yp Z)<|G (aI Z)<|G (Zf gx Z)<|G (bQ aj row ht2 2 Z (H.ent (i:=2) Z) Z)<|G (nC Z Z I)<|G (Wb Z)<|U ?_
 refine ZF Z<|W<|Zr<|G (Yp Z)<|G (aI Z)<|G (Zf cS Z)<|G (bQ aj row ht2 3 Z (H.ent (i:=2) Z) Z) ?_
 refine cR (bh Z Z) Z Z Z (fun h81=> ?_) (fun h81=> ?_)
 refine G (Wb Z)<|U<|ZT Z<|Zr<|G (Yp Z)<|G (aI Z)<|G (Zf cS Z)<|kQ H 2 ({t2 with state:=4}) bI row ht2 3 Z Z Z Z Z Z N fun w6 cur5 row5 H=>U<|W ?_
 have ht3:(tx2.set i {t2 with state:=4})[i]? =some {t2 with state:=4}:=am hl2
 have hv3:({t2 with state:=4}:Tx).ver=t2.ver:=rfl
 refine Zr<|G (Yp Z)<|G (aI Z)<|G (Zf gx Z)<|G (bQ aj row5 ht3 2 Z (H.ent (i:=2) Z) Z)<|G (bp Z Z I I)<|G (aI Z)<|G (Zf gx Z)<|kQ H 2 ({t2 with state:=4,ver:=t2.ver+1}) bI row5 ht3 2 Z Z Z Z Z Z N fun w8 cur7 row7 H=>U<|W ?_
 have ht4:(tx2.set i {t2 with state:=4,ver:=t2.ver+1})[i]? =some {t2 with state:=4,ver:=t2.ver+1}:=am hl2
 rw[fo]at row7
 refine mF bZ (fun w'=>w'.heap[b2]? =some (.cells #[J ck,J nx,J wt,.slice (Qd g) tx2.length c2] bf (0,0))/\w'.heap[g]? =some (.cells cur7 dE (0,0))) ?_
 intro w9 hw';replace H:=H.later hw';clear hw'
 refine aN 0 N N N Z Z Z Z Nq ⟨H.ent (i:=1) Z,H.ent (i:=2) Z⟩ (fun _ hS=>iP ax Z hS.1 Z)<|aN 1 N N N Z Z Z Z Nq ⟨H.ent (i:=1) Z,H.ent (i:=2) Z⟩ (fun _ hS=>Yp Z)<|aN 2 N N N Z Z Z Z Nq ⟨H.ent (i:=1) Z,H.ent (i:=2) Z⟩ (fun _ hS=>aI Z)<|aN 3 N N N Z Z Z Z Nq ⟨H.ent (i:=1) Z,H.ent (i:=2) Z⟩ (fun _ hS=>Zf li Z)<|aN 4 N N N Z Z Z Z Nq ⟨H.ent (i:=1) Z,H.ent (i:=2) Z⟩ (fun _ hS=>bQ aj row7 ht4 1 Z hS.2 Z)<|aN 5 N N N Z Z Z Z Nq ⟨H.ent (i:=1) Z,H.ent (i:=2) Z⟩ (fun _ hS=>Yp Z)<|aN 6 N N N Z Z Z Z Nq ⟨H.ent (i:=1) Z,H.ent (i:=2) Z⟩ (fun _ hS=>aI Z)<|aN 7 N N N Z Z Z Z Nq ⟨H.ent (i:=1) Z,H.ent (i:=2) Z⟩ (fun _ hS=>Zf gx Z)<|aN 8 N N N Z Z Z Z Nq ⟨H.ent (i:=1) Z,H.ent (i:=2) Z⟩ (fun _ hS=>bQ aj row7 ht4 2 Z hS.2 Z)<|r5 9 N Z<|bl H 0 (#[J ck,J nx,J wt,.slice (Qd g) tx2.length c2]) aF Z Z Z Z Z N N fun w10 H=>U ?_
 refine⟨⟨H.ent (i:=1) Z,H.ent (i:=2) Z⟩,?_⟩
 refine aN 10 N N N Z Z Z Z Nq ⟨H.ent (i:=1) Z,H.ent (i:=2) Z⟩ (fun _ hS=>Wi Z)<|aN 11 N N N Z Z Z Z Nq ⟨H.ent (i:=1) Z,H.ent (i:=2) Z⟩ (fun _ hS=>Wi Z)<|aN 12 N N N Z Z Z Z Nq ⟨H.ent (i:=1) Z,H.ent (i:=2) Z⟩ (fun _ hS=>Wi Z)<|jP N<|Zt ?_
 have hI:je t2={t2 with state:=4,ver:=t2.ver+1}:=by unfold je;rw[if_pos I]
 exact mB (cs0:= #[J ck,J nx,J wt,.slice (Qd g) tx2.length c2]) (v1:=J t2.pid) (v2:=J (t2.ver+1)) (v3:=J 0) Z ax Z (H.ent (i:=0) Z) Z Z Z Z ⟨⟨ck,nx,wt,tx2.set i ({t2 with state:=4,ver:=t2.ver+1}),some ⟨g,0,none⟩,c2⟩,[(g,.cells cur7 dE (0,0))],Lp,by unfold Co.v Co.c;dsimp only;rw[ab,hpid,hver],by unfold Co.a;dsimp only;rw[oW hma i (show Tx.a ({t2 with state:=4,ver:=t2.ver+1})=(je t).a by rw[<-hI];exact Lf hta)],by dsimp only;exact dU.own row7,hp2.same ht2 Z Z Z,by dsimp only;rw[ab];exact hoc2,rQ hpc2 ht2 Z Z,H.forget (.cons _ (.cons _ (aC _ _))) (by simp)⟩
 refine G (Wb Z)<|U<|ZF Z<|Zk<|W<|Zr<|G (Yp Z)<|G (aI Z)<|G (Zf gx Z)<|G (bQ aj row ht2 2 Z (H.ent (i:=2) Z) Z)<|G (bp Z Z I I)<|G (aI Z)<|G (Zf gx Z)<|kQ H 2 ({t2 with ver:=t2.ver+1}) bI row ht2 2 Z Z Z Z Z Z N fun w12 cur11 row11 H=>U<|W ?_
 have ht4:(tx2.set i {t2 with ver:=t2.ver+1})[i]? =some {t2 with ver:=t2.ver+1}:=am hl2
 refine mF bZ (fun w'=>w'.heap[b2]? =some (.cells #[J ck,J nx,J wt,.slice (Qd g) tx2.length c2] bf (0,0))/\w'.heap[g]? =some (.cells cur11 dE (0,0))) ?_
 intro w13 hw';replace H:=H.later hw';clear hw'
 refine aN 0 N N N Z Z Z Z Nq ⟨H.ent (i:=1) Z,H.ent (i:=2) Z⟩ (fun _ hS=>iP ax Z hS.1 Z)<|aN 1 N N N Z Z Z Z Nq ⟨H.ent (i:=1) Z,H.ent (i:=2) Z⟩ (fun _ hS=>Yp Z)<|aN 2 N N N Z Z Z Z Nq ⟨H.ent (i:=1) Z,H.ent (i:=2) Z⟩ (fun _ hS=>aI Z)<|aN 3 N N N Z Z Z Z Nq ⟨H.ent (i:=1) Z,H.ent (i:=2) Z⟩ (fun _ hS=>Zf li Z)<|aN 4 N N N Z Z Z Z Nq ⟨H.ent (i:=1) Z,H.ent (i:=2) Z⟩ (fun _ hS=>bQ aj row11 ht4 1 Z hS.2 Z)<|aN 5 N N N Z Z Z Z Nq ⟨H.ent (i:=1) Z,H.ent (i:=2) Z⟩ (fun _ hS=>Yp Z)<|aN 6 N N N Z Z Z Z Nq ⟨H.ent (i:=1) Z,H.ent (i:=2) Z⟩ (fun _ hS=>aI Z)<|aN 7 N N N Z Z Z Z Nq ⟨H.ent (i:=1) Z,H.ent (i:=2) Z⟩ (fun _ hS=>Zf gx Z)<|aN 8 N N N Z Z Z Z Nq ⟨H.ent (i:=1) Z,H.ent (i:=2) Z⟩ (fun _ hS=>bQ aj row11 ht4 2 Z hS.2 Z)<|r5 9 N Z<|bl H 0 (#[J ck,J nx,J wt,.slice (Qd g) tx2.length c2]) aF Z Z Z Z Z N N fun w14 H=>U ?_
 refine⟨⟨H.ent (i:=1) Z,H.ent (i:=2) Z⟩,?_⟩
 refine aN 10 N N N Z Z Z Z Nq ⟨H.ent (i:=1) Z,H.ent (i:=2) Z⟩ (fun _ hS=>Wi Z)<|aN 11 N N N Z Z Z Z Nq ⟨H.ent (i:=1) Z,H.ent (i:=2) Z⟩ (fun _ hS=>Wi Z)<|aN 12 N N N Z Z Z Z Nq ⟨H.ent (i:=1) Z,H.ent (i:=2) Z⟩ (fun _ hS=>Wi Z)<|jP N<|Zt ?_
 have hI:je t2={t2 with ver:=t2.ver+1}:=by unfold je;rw[if_neg I]
 exact mB (cs0:= #[J ck,J nx,J wt,.slice (Qd g) tx2.length c2]) (v1:=J t2.pid) (v2:=J (t2.ver+1)) (v3:=J 0) Z ax Z (H.ent (i:=0) Z) Z Z Z Z ⟨⟨ck,nx,wt,tx2.set i ({t2 with ver:=t2.ver+1}),some ⟨g,0,none⟩,c2⟩,[(g,.cells cur11 dE (0,0))],Lp,by unfold Co.v Co.c;dsimp only;rw[ab,hpid,hver],by unfold Co.a;dsimp only;rw[oW hma i (show Tx.a ({t2 with ver:=t2.ver+1})=(je t).a by rw[<-hI];exact Lf hta)],by dsimp only;exact dU.own row11,hp2.same ht2 Z Z Z,by dsimp only;rw[ab];exact hoc2,rQ hpc2 ht2 Z Z,H.forget (.cons _ (.cons _ (aC _ _))) (by simp)⟩
theorem Kz {w0 w:World} {F:List ci} {a b:Nat×Obj} (Lr Lp:List (Nat×Obj)) (H:Hp w0 w (a::b::((Lr++Lp)++[])) F):Hp w0 w ([a,b]++Lr++Lp) F:=by
 rw[aY]at H
 exact H
theorem Jh (c:Co) (s:ByteArray) (w:World) (h:c.rd 0 w.heap.size w) (hok:gB c=true) (hn:bM s=true) (hi:fJ c s<0) (hf:c.txs.length≠8) (hx:c.next≠1073741824):dd aa mu [c.v,.string s] w fun v w2=> ∃ (c':Co) (Lr Lp:List (Nat×Obj)),v=.tuple #[c'.v,J c.next,J 0,J 0]/\qi w w2 (qb c.a s) c' Lr Lp:=by
 refine aE nQ Z Z ?_
 have hcap:=h.cap
 have hfew:=h.few
 have hfp:=h.fewP
 have H:=Hp.startCo h
 obtain⟨ck,nx,wt,txs,cA,cc⟩:=c
 dsimp only at hcap hfew hfp H
 show CW _ _ _ _ (args [.agg #[J ck,J nx,J wt,.slice cA txs.length cc],.string s]) w
 dsimp only at hf hx⊢
 obtain⟨q1,q2,q3,q4,q5,q6,q7⟩:=iU.1 hok
 dsimp only at q2 q3 q6
 refine W<|Zr<|fS H Z Z fun w1 b2 H=>eC H cK Z fun w2 b4 H=>G (Wi Z)<|G (Wi Z)<|G (Wi Z)<|U<|W<|Zr<|G (Zw ax H 1 Z Z Z)<|G (Yt Z)<|cd ia (lG ⟨ck,nx,wt,txs,cA,cc⟩ s _ ⟨H.rd0 0 Z,fun t ht=>fu H 1 Z ht,hcap,hfew,hfp⟩ hok hn) Z Z ?_
 rintro _ w3 ⟨⟨ck2,nx2,wt2,tx2,A2,c2⟩,Lr,Lp,rfl,ha2,ho2,hp2,hoc2,hpc2,hj2⟩
 replace H:=H.joinR hj2;clear hj2
 simp only[Co.a,Co.mk.injEq]at ha2
 obtain⟨e1,e2,e3,hma,-,-⟩:=ha2
 obtain rfl:ck=ck2:=e1.symm
 obtain rfl:nx=nx2:=e2.symm
 obtain rfl:wt=wt2:=e3.symm
 dsimp only at ho2 hp2 hoc2 hpc2 H
 have hlen2:tx2.length=txs.length:=by have:=congrArg cv hma;simpa using this
 refine G (Yu Z)<|G (Xa Z Z)<|G (Xi Z Z)<|G (Xi Z Z)<|bl H 1 (#[J ck,J nx,J wt,.slice A2 tx2.length c2]) aF Z Z Z Z Z N N fun w4 H=>G (Wi Z)<|G (Wi Z)<|U<|W<|W<|Zr<|G (Yi Z)<|G (bX Z Z Z)<|U<|ZF Z<|Zk<|W<|W<|Zr<|G (Yi Z)<|G (xD Z Z hi)<|U<|ZT Z<|W<|W<|Zr<|G (Zf cO Z)<|G (Zd dL H 1 Z Z Z)<|G (bn lf Z)<|G (nC Z Z I)<|G (Yb Z)<|ZG<|G (Zf kk Z)<|ZG<|G (Zd aj H 1 Z Z Z)<|ZG<|G (nC Z Z I)<|G (N Z Z)<|U<|ZF Z ?_
 refine Zk<|W ?_
 replace H:=Kz Lr Lp H
 refine Zr<|G (Zf cO Z)<|G (Zd dL H 1 Z Z Z)<|G (Yt Z)<|G (Zf kk Z)<|G (Zd aj H 1 Z Z Z)<|G (bj (cs:= #[.string s,J nx,J 0,J 1,.slice none 0 0,J 0,J 0]) NZ Hx N)<|sY (vs:=[.agg #[.string s,J nx,J 0,J 1,.slice none 0 0,J 0,J 0]]) H gH Hx Z Z Z Z Z Z fun w5 b40 H=>vU (Y:=rx) Ig (K:=[(b40,_),(b4,_),(b2,_)]) (L:=Lr) (M:=Lp) H ho2 (news:=[iO s nx]) Z Z Z (vY.row (m:=1) (sz:=rx.sz) (H.ent (i:=0) Z) Z) (by simp only[bP];omega) Z ?_
 intro A41 c41 w6 L41 h41 _ ho41 H
 refine G (Zf cO Z)<|bl H 2 (#[J ck,J nx,J wt,.slice A41 (tx2++[iO s nx]).length c41]) zC Z Z Z Z Z N N fun w7 H=>U<|W<|Zr<|G (Zf kk Z)<|G (Zd aj H 2 Z Z Z)<|G (bp Z Z I I)<|G (Zf kk Z)<|bl H 2 (#[J ck,J (nx+1),J wt,.slice A41 (tx2++[iO s nx]).length c41]) bI Z Z Z Z Z N N fun w8 H=>U<|W ?_
 refine qI bZ [1] [0,2,3,4,5,6,7] [1] 7 N N N Nq ?_
 refine aw Z Z Z Z Z (fun w' hw'=>Zf kk Z)<|aU ?_
 intro w9 hw';replace H:=H.later hw';clear hw'
 refine tj 0 2 N Z Z ?_ ?_
 refine G (Zw ax H 2 Z Z Z)<|U ?_
 refine tj 2 4 N Z Z ?_ ?_
 refine G (Zd aj H 2 Z Z Z)<|U ?_
 refine tj 3 4 N Z Z ?_ ?_
 refine G (mX Z Z I I)<|U<|da 4 N Z<|bl H 1 (#[J ck,J (nx+1),J wt,.slice A41 (tx2++[iO s nx]).length c41]) aF Z Z Z Z Z N N fun w10 H=>U<|da 5 N Z<|G (Wi Z)<|U<|da 6 N Z<|G (Wi Z)<|U<|da 7 N Z<|G (Wi Z)<|U<|cz N<|Zt ?_
 exact mB (cs0:= #[J ck,J (nx+1),J wt,.slice A41 (tx2++[iO s nx]).length c41]) (v1:=J (nx+1-1)) (v2:=J 0) (v3:=J 0) Z ax Z (H.ent (i:=1) Z) Z Z Z Z ⟨⟨ck,nx+1,wt,tx2++[iO s nx],A41,c41⟩,L41,Lp,by rw[show nx+1-1=nx by omega];rfl,by unfold Co.a qb;dsimp only;rw[bk,hma];rfl,ho41,by have:=ey.snoc (t:=iO s nx) (L':=[]) gi.nil hp2;rwa[aY]at this,h41,by intro t ht;rcases ar.1 ht with ht|ht;exact hpc2 t ht;rw[aq.1 ht];exact ao _,H.forget (.cons _ (.cons _ (.cons _ (ap _)))) (by simp)⟩
 refine bl H 1 (#[J ck,J (nx+1),J wt,.slice A41 (tx2++[iO s nx]).length c41]) aF Z Z Z Z Z N N fun w11 H=>U<|da 3 N Z<|G (mX Z Z I I)<|U<|da 5 N Z<|G (Wi Z)<|U<|da 6 N Z<|G (Wi Z)<|U<|da 7 N Z<|G (Wi Z)<|U<|cz N<|Zt ?_
 exact mB (cs0:= #[J ck,J (nx+1),J wt,.slice A41 (tx2++[iO s nx]).length c41]) (v1:=J (nx+1-1)) (v2:=J 0) (v3:=J 0) Z ax Z (H.ent (i:=1) Z) Z Z Z Z ⟨⟨ck,nx+1,wt,tx2++[iO s nx],A41,c41⟩,L41,Lp,by rw[show nx+1-1=nx by omega];rfl,by unfold Co.a qb;dsimp only;rw[bk,hma];rfl,ho41,by have:=ey.snoc (t:=iO s nx) (L':=[]) gi.nil hp2;rwa[aY]at this,h41,by intro t ht;rcases ar.1 ht with ht|ht;exact hpc2 t ht;rw[aq.1 ht];exact ao _,H.forget (.cons _ (.cons _ (.cons _ (ap _)))) (by simp)⟩
 refine bl H 1 (#[J ck,J (nx+1),J wt,.slice A41 (tx2++[iO s nx]).length c41]) aF Z Z Z Z Z N N fun w12 H=>U<|da 2 N Z<|G (Zd aj H 2 Z Z Z)<|U<|da 3 N Z<|G (mX Z Z I I)<|U<|da 5 N Z<|G (Wi Z)<|U<|da 6 N Z<|G (Wi Z)<|U<|da 7 N Z<|G (Wi Z)<|U<|cz N<|Zt ?_
 exact mB (cs0:= #[J ck,J (nx+1),J wt,.slice A41 (tx2++[iO s nx]).length c41]) (v1:=J (nx+1-1)) (v2:=J 0) (v3:=J 0) Z ax Z (H.ent (i:=1) Z) Z Z Z Z ⟨⟨ck,nx+1,wt,tx2++[iO s nx],A41,c41⟩,L41,Lp,by rw[show nx+1-1=nx by omega];rfl,by unfold Co.a qb;dsimp only;rw[bk,hma];rfl,ho41,by have:=ey.snoc (t:=iO s nx) (L':=[]) gi.nil hp2;rwa[aY]at this,h41,by intro t ht;rcases ar.1 ht with ht|ht;exact hpc2 t ht;rw[aq.1 ht];exact ao _,H.forget (.cons _ (.cons _ (.cons _ (ap _)))) (by simp)⟩
 refine G (Zd aj H 2 Z Z Z)<|U ?_
 refine tj 0 3 N Z Z ?_ ?_
 refine G (Zw ax H 2 Z Z Z)<|U ?_
 refine tj 3 4 N Z Z ?_ ?_
 refine G (mX Z Z I I)<|U<|da 4 N Z<|bl H 1 (#[J ck,J (nx+1),J wt,.slice A41 (tx2++[iO s nx]).length c41]) aF Z Z Z Z Z N N fun w13 H=>U<|da 5 N Z<|G (Wi Z)<|U<|da 6 N Z<|G (Wi Z)<|U<|da 7 N Z<|G (Wi Z)<|U<|cz N<|Zt ?_
 exact mB (cs0:= #[J ck,J (nx+1),J wt,.slice A41 (tx2++[iO s nx]).length c41]) (v1:=J (nx+1-1)) (v2:=J 0) (v3:=J 0) Z ax Z (H.ent (i:=1) Z) Z Z Z Z ⟨⟨ck,nx+1,wt,tx2++[iO s nx],A41,c41⟩,L41,Lp,by rw[show nx+1-1=nx by omega];rfl,by unfold Co.a qb;dsimp only;rw[bk,hma];rfl,ho41,by have:=ey.snoc (t:=iO s nx) (L':=[]) gi.nil hp2;rwa[aY]at this,h41,by intro t ht;rcases ar.1 ht with ht|ht;exact hpc2 t ht;rw[aq.1 ht];exact ao _,H.forget (.cons _ (.cons _ (.cons _ (ap _)))) (by simp)⟩
 refine bl H 1 (#[J ck,J (nx+1),J wt,.slice A41 (tx2++[iO s nx]).length c41]) aF Z Z Z Z Z N N fun w14 H=>U<|da 3 N Z<|G (mX Z Z I I)<|U<|da 5 N Z<|G (Wi Z)<|U<|da 6 N Z<|G (Wi Z)<|U<|da 7 N Z<|G (Wi Z)<|U<|cz N<|Zt ?_
 exact mB (cs0:= #[J ck,J (nx+1),J wt,.slice A41 (tx2++[iO s nx]).length c41]) (v1:=J (nx+1-1)) (v2:=J 0) (v3:=J 0) Z ax Z (H.ent (i:=1) Z) Z Z Z Z ⟨⟨ck,nx+1,wt,tx2++[iO s nx],A41,c41⟩,L41,Lp,by rw[show nx+1-1=nx by omega];rfl,by unfold Co.a qb;dsimp only;rw[bk,hma];rfl,ho41,by have:=ey.snoc (t:=iO s nx) (L':=[]) gi.nil hp2;rwa[aY]at this,h41,by intro t ht;rcases ar.1 ht with ht|ht;exact hpc2 t ht;rw[aq.1 ht];exact ao _,H.forget (.cons _ (.cons _ (.cons _ (ap _)))) (by simp)⟩
 refine G (mX Z Z I I)<|U<|da 0 N Z<|G (Zw ax H 2 Z Z Z)<|U<|da 4 N Z<|bl H 1 (#[J ck,J (nx+1),J wt,.slice A41 (tx2++[iO s nx]).length c41]) aF Z Z Z Z Z N N fun w15 H=>U<|da 5 N Z<|G (Wi Z)<|U<|da 6 N Z<|G (Wi Z)<|U<|da 7 N Z<|G (Wi Z)<|U<|cz N<|Zt ?_
 exact mB (cs0:= #[J ck,J (nx+1),J wt,.slice A41 (tx2++[iO s nx]).length c41]) (v1:=J (nx+1-1)) (v2:=J 0) (v3:=J 0) Z ax Z (H.ent (i:=1) Z) Z Z Z Z ⟨⟨ck,nx+1,wt,tx2++[iO s nx],A41,c41⟩,L41,Lp,by rw[show nx+1-1=nx by omega];rfl,by unfold Co.a qb;dsimp only;rw[bk,hma];rfl,ho41,by have:=ey.snoc (t:=iO s nx) (L':=[]) gi.nil hp2;rwa[aY]at this,h41,by intro t ht;rcases ar.1 ht with ht|ht;exact hpc2 t ht;rw[aq.1 ht];exact ao _,H.forget (.cons _ (.cons _ (.cons _ (ap _)))) (by simp)⟩
theorem Du (n:Int) (w:World):dd aa yN [J n] w fun v w2=>v=.bool false/\Below w.heap.size w w2:=by
 refine aE xO Z Z ?_
 have H:=Hp.start w
 refine W<|Zr<|G (Wb Z)<|U<|W<|Zr<|G (Yi Z)<|G (Yi Z)<|G (bX Z Z Z)<|G (Wb Z)<|U<|Zt ?_
 exact cF (v:=.bool false) Z Z ⟨rfl,H.below⟩
theorem Fh (a b:Int) (w:World):dd aa Al [J a,J b] w fun v w2=>v=.bool (decide (a<b))/\Below w.heap.size w w2:=by
 refine aE yR Z Z ?_
 have H:=Hp.start w
 refine W<|Zr<|G (Wb Z)<|U<|W<|Zr<|G (Yi Z)<|cd xV (Du a _) Z Z ?_
 rintro _ w1 ⟨rfl,hb⟩;replace H:=H.later hb;clear hb
 refine G (Yb Z)<|ZN<|ZN<|ZN<|G (N Z Z)<|G (Yb Z)<|ZG<|G (Yi Z)<|ZG<|G (Yi Z)<|ZG ?_
 refine cR (cG Z Z) Z Z Z (fun h15=> ?_) (fun h15=> ?_)
 refine G (N Z Z)<|G (Wb Z)<|U<|Zt ?_
 exact cF (v:=.bool true) Z Z ⟨by rw[decide_eq_true h15],H.below⟩
 refine G (N Z Z)<|G (Wb Z)<|U<|Zt ?_
 exact cF (v:=.bool false) Z Z ⟨by rw[decide_eq_false h15],H.below⟩
theorem sB:aa.funcs[(136:Nat)]? =some Tryz.f136:=Tryz.func136
theorem ss {w0 w:World} {K M Lt:List (Nat×Obj)} {F:List ci} {es:List Int} {x:Int} {i c vb:Nat} {A:Option Addr} (H:Hp w0 w (((vb,.cells (bS.f x).toArray 3 (0,0))::K)++Lt++M) F) (ho:gi bS (.slice A es.length c) 3 es Lt) (hi:i<=es.length) (hb:(es.length+1)*8<=140737488355328):
  dd aa qW [.slice A es.length c,J (i:Nat),.slice (Qd vb) ((1:Nat)) 1] w fun v w2=> ∃ A' c' L',v=.slice A' (es.take i++[x]++es.drop i).length c'/\gi bS (.slice A' (es.take i++[x]++es.drop i).length c') 3 (es.take i++[x]++es.drop i) L'/\Hp w0 w2 (((vb,.cells (bS.f x).toArray 3 (0,0))::K)++L'++M) F:=by
 refine aE qr Z Z ?_
 show CW _ _ _ _ (args [.slice A es.length c,J (i:Nat),.slice (Qd vb) ((1:Nat)) 1]) w
 have hc0:es.length<=c:=by
  obtain⟨_,c',he,hc,_⟩:=ho.form
  injection he with _ _ he
  omega
 have hxs:(bS.f x).length=bS.sz:=bS.len x
 have hx1: ∀ u∈bS.f x,u.oneCell'=true:=fun u hu=>bS.one x u hu
 have hsv: ∀ {w2:World} {K2:List (Nat×Obj)},Hp w0 w2 ((vb,.cells (bS.f x).toArray 3 (0,0))::K2) F->vY w2 (Qd vb) 1 bS.sz (bS.all [x]):=fun h=>⟨by rw[fj.length];rfl,fun _=>⟨_,rfl,fun j u hj=>by rw[all_one]at hj;rw[Addr.add_lit,cE];exact aB (h.ent (i:=0) Z) (by simpa using hj)⟩⟩
 refine W<|Zr<|uO Z Z<|U<|W<|Zr<|mb Z Z<|iv Z Z<|sQ aZ Z Z I I I Z fun A12 hA12=>U<|W<|Zr<|mb Z Z<|uF eF Z Z<|oU Z Z<|U<|W<|W<|Zr<|iv Z Z<|G (nC Z Z (by decide))<|U<|ZF Z<|Zk<|W<|Zr<|mb Z Z<|uF eF Z Z<|oU Z Z<|U<|W<|W<|Zr<|iv Z Z<|iv Z Z ?_
 refine LF Z Z Z (fun h22=> ?_) (fun h22=> ?_)
 ·refine ni ?_
  refine ZT Z<|W<|Zr<|mb Z Z<|mb Z Z<|vU (Y:=bS) (es:=es) (news:=[x]) zf H ho Z Z Z (hsv H) (by show(es.length+1)*8<=_;omega) Z fun A25 c25 w25 L25 h25 h25b ho25 H25=>uO Z Z<|U<|Zt<|cF Z Z ?_
  have hi:i=es.length:=by omega
  subst hi
  have he:es.take es.length++[x]++es.drop es.length=es++[x]:=by rw[bV,fq,aY]
  rw[he]
  exact⟨A25,c25,L25,rfl,ho25,H25⟩
 refine U<|ZF Z<|Zk ?_
 have hlt:i<es.length:=by omega
 obtain⟨g,cur,rfl,rfl,row⟩:=ho.row I
 have hgE:w.heap[g]? =some (.cells cur 3 (0,0)):=H.ent (i:=((vb,.cells (bS.f x).toArray 3 (0,0))::K:List (Nat×Obj)).length) (by simp)
 have hle:=row.le
 have hmx:=row.max
 have hlen:=ut (x:=x) (mf hlt)
 have hfit:=row.fit hle
 have hif:=row.fit (i:=i) I
 have hdr:(bS.all (es.drop i)).length=(es.length-i)*bS.sz:=by rw[fj.length,dI]
 have hsm:(i+1)*bS.sz+(es.length-i)*bS.sz=(es.length+1)*bS.sz:=by rw[<-cQ];congr 1;omega
 have hi3:(i+1)*bS.sz=i*bS.sz+bS.sz:=by rw[cQ,gE]
 refine W<|W<|Zr<|iv Z Z<|iv Z Z<|add Z Z I I Z<|mb Z Z<|G (Ec eF Z) ?_
 refine Jk Z Z Z (fun h31=> ?_) (fun h31=> ?_)
 ·refine ni ?_
  refine ZT Z<|W<|Zr<|mb Z Z<|iv Z Z<|zy aZ Z Z I I Z fun A34 hA34=> ?_
  obtain rfl:=hA34 I
  refine iv Z Z<|iv Z Z<|add Z Z I I Z<|iv Z Z<|sub Z Z I I Z ?_
  refine Qo (m:=es.length+1-i) zf ip H Z (kd:=.i64) (show _=Value.int _ _ from congrArg (Value.int _) (show((es.length:Int)+((1:Nat):Int))- (i:Nat)=((es.length+1-i:Nat):Int) by omega)) (olds:=bS.all (es.take i)) (by rw[fj.length,aH,br I];rfl) (fun j u hj=>by rw[Addr.add_lit,cE];rw[<-row.pre I,df]at hj;split at hj;exact aB hgE (by simpa using hj);cases hj) I I (by show(((i:Nat):Int).toNat+(es.length+1-i))*8<=_;omega) Z ?_
  intro w1 g2 c2 cur2 hs2 hge2 hmx2 hp2 H
  have hs2':cur2.size=c2*bS.sz:=hs2
  have hc2:(es.length+1)*bS.sz<=cur2.size:=by rw[hs2'];exact di _ I
  have hg2:(oO cur2 (i*bS.sz) (bS.f x)).size=cur2.size:=jH (by rw[hxs];omega)
  refine uO Z Z<|U<|W<|Zr<|mb Z Z<|iv Z Z<|sQ aZ Z Z I I I Z fun A43 hA43=>mb Z Z ?_
  have hsrc:=hsv (H.perm (al _ _ _))
  refine NM (K:=[]) (m:=1) (o:=i*bS.sz) aZ H Z Z (Cw Z I) (fun _=>vW.at0 hA43 I) hsrc (by rw[all_one];exact hx1) (by rw[all_one,hxs];omega) Z ?_
  rw[all_one]
  intro w2 H
  refine U<|W ?_
  refine bD bZ [0,1,2,3,4,5,6,7] [8] [] [0,1,2,3,4,5,6,7] (sp []) N N N N Nq (cI _) ?_
  refine aw Z Z Z Z Z (fun _ _=>ij Z)<|aw Z Z Z Z Z (fun _ _=>ij Z)<|aw Z Z Z Z Z (fun _ _=>ij Z)<|aw Z Z Z Z Z (fun _ _=>bp Z Z I I)<|aw Z Z Z Z Z (fun _ _=>pj aZ Z Z I I)<|aw Z Z Z Z Z (fun _ _=>ij Z)<|aw Z Z Z Z Z (fun _ _=>ij Z)<|aw Z Z Z Z Z (fun _ _=>pj aZ Z Z I I)<|aU ?_
  intro w' hw' _;replace H:=H.later hw';clear hw'
  have hgE2:w'.heap[g]? =some (.cells cur 3 (0,0)):=(H.ents (g,.cells cur 3 (0,0)) (by simp)).1
  refine NM (K:=[]) (m:=es.length-i) (o:=(i+1)*bS.sz) aZ H Z Z (Cw I I) (fun _=>AL I) (row.srcFrom hgE2 I (rN (ao _)) I) (fj.all_one _) (by rw[hdr,hg2];omega) Z ?_
  intro w3 H
  refine U<|W<|Zr<|mb Z Z<|uO Z Z<|U<|Zt<|cF Z Z ?_
  exact⟨some ⟨g2,0,none⟩,c2,_,by rw[hlen];show Value.slice _ (((i:Nat):Int).toNat+(es.length+1-i)) _=_;congr 1;omega,dU.own (dU.insNew hs2' hmx2 hp2 (mf hlt) I),H.swapRow⟩
 refine U<|ZF Z<|Zk ?_
 have hroom:es.length+1<=c:=by omega
 have hfr:=row.fit hroom
 refine W<|Zr<|mb Z Z<|iv Z Z<|iv Z Z<|add Z Z I I Z<|zy aZ Z Z I I Z fun A60 hA60=> ?_
 obtain rfl:=hA60 I
 refine uO Z Z<|U<|W<|W<|Zr<|mb Z Z<|mb Z Z<|iv Z Z<|iv Z Z<|add Z Z I I Z<|sQ aZ Z Z I I I Z fun A66 hA66=> ?_
 have hA:=vW.at0 hA66 I
 have hvE:w.heap[vb]? =some (.cells (bS.f x).toArray 3 (0,0)):=H.ent (i:=0) Z
 have hne:vb≠g:=fun he=>by
  have:=H.nodup
  simp only[bk,eI,qo,kN,ar]at this
  exact this.1 (.inl (.inr (by rw[he];exact aA)))
 have hov: ∀ lb cb,(callFunc s9 #[.slice (Qd vb) 1 1,.slice A66 lb cb]).run aa w=.ok (.value (.bool false)) w:=fun lb cb=>by
  rw[hA,run_callFunc_extern sB N N N (e:=Extern.SlicesOverlaps.overlaps #[xZ,xZ] #[jh]) N,
   Lib.run_overlaps_apart w xZ jh cW (eZ aZ).1 bS.sz (by obtain⟨_,j,h1,h2⟩:=eZ aZ;exact fun w=>by rw[fy h1,h2];rfl) ⟨vb,0,none⟩ _ 1 1 lb cb hne cW cW (bS.f x).length cur.size (by simp[World.shape?,hvE]) (by simp[World.shape?,hgE]) (by have:=bS.pos;have:=row.fit (i:=1) I;omega) (by simp[World.frozen?,hvE]) (by simp[World.frozen?,hvE])]
  rfl
 refine Pk (hov _ _) Z Z<|not Z Z<|U<|ZT Z<|W ?_
 refine bD bZ [0,1,2,3,4,5,6,7] [8] [] [0,1,2,3,4,5,6,7] (sp []) N N N N Nq (cI _) ?_
 refine aw Z Z Z Z Z (fun _ _=>ij Z)<|aw Z Z Z Z Z (fun _ _=>ij Z)<|aw Z Z Z Z Z (fun _ _=>ij Z)<|aw Z Z Z Z Z (fun _ _=>bp Z Z I I)<|aw Z Z Z Z Z (fun _ _=>pj aZ Z Z I I)<|aw Z Z Z Z Z (fun _ _=>ij Z)<|aw Z Z Z Z Z (fun _ _=>ij Z)<|aw Z Z Z Z Z (fun _ _=>pj aZ Z Z I I)<|aU ?_
 intro w' hw' _;replace H:=H.later hw';clear hw'
 have hgE2:w'.heap[g]? =some (.cells cur 3 (0,0)):=(H.ents (g,.cells cur 3 (0,0)) (by simp)).1
 have hz1:(oO cur ((i+1)*bS.sz) (bS.all (es.drop i))).size=cur.size:=jH (by rw[hdr];omega)
 refine NM (m:=es.length-i) (o:=(i+1)*bS.sz) aZ H Z Z (NH I I) (fun _=>AL I) (row.srcFrom hgE2 I (rN (ao _)) I) (fj.all_one _) (by rw[hdr];omega) Z ?_
 intro w2 H
 refine U<|W<|Zr<|mb Z Z<|iv Z Z<|sQ aZ Z Z I I I Z fun A80 hA80=>mb Z Z ?_
 have hsrc:=hsv H
 refine NM (m:=1) (o:=i*bS.sz) aZ H Z Z (Cw Z I) (fun _=>vW.at0 hA80 I) hsrc (by rw[all_one];exact hx1) (by rw[all_one,hxs,hz1];omega) Z ?_
 rw[all_one]
 intro w3 H
 refine U<|W<|Zr<|mb Z Z<|uO Z Z<|U<|Zt<|cF Z Z ?_
 exact⟨some ⟨g,0,none⟩,c,_,by rw[hlen];show Value.slice _ ((es.length:Int)+((1:Nat):Int)).toNat _=_;congr 1,dU.own (row.insIn (mf hlt) hroom),H⟩
theorem wP {w0 w:World} {K M Lt:List (Nat×Obj)} {F:List ci} {es:List Int} {i j c:Nat} {A:Option Addr} (H:Hp w0 w (K++Lt++M) F) (ho:gi bS (.slice A es.length c) 3 es Lt) (hij:i<=j) (hj:j<=es.length) (hb:es.length*8<=140737488355328):
  dd aa qY [.slice A es.length c,J (i:Nat),J (j:Nat)] w fun v w2=> ∃ A' c' L',v=.slice A' (es.take i++es.drop j).length c'/\gi bS (.slice A' (es.take i++es.drop j).length c') 3 (es.take i++es.drop j) L'/\Hp w0 w2 (K++L'++M) F:=by
 refine aE qu Z Z ?_
 show CW _ _ _ _ (args [.slice A es.length c,J (i:Nat),J (j:Nat)]) w
 have hc0:es.length<=c:=by
  obtain⟨_,c',he,hc,_⟩:=ho.form
  injection he with _ _ he
  omega
 refine W<|Zr<|uO Z Z<|U<|W<|Zr<|mb Z Z<|iv Z Z<|iv Z Z<|mb Z Z<|uF eF Z Z<|PI aZ Z Z Z Z ⟨by omega,by omega⟩ I I Z fun A13 l13 c13=>U<|W<|W<|Zr<|iv Z Z<|iv Z Z ?_
 refine LF Z Z Z (fun h16=> ?_) (fun h16=> ?_)
 refine U<|ZT Z<|W<|Zr<|mb Z Z<|uO Z Z<|U<|Zt<|cF Z Z ?_
 have hij:i=j:=by omega
 subst hij
 rw[gL]
 exact⟨A,c,Lt,rfl,ho,H⟩
 refine U<|ZF Z<|Zk ?_
 have hlt:i<j:=by omega
 obtain⟨g,cur,rfl,rfl,row⟩:=ho.row I
 have hle:=row.le
 have hmx:=row.max
 have hlen:=D0 hij hj
 have hfit:=row.fit hle
 have hif:=row.fit (i:=i) I
 have hdr:(bS.all (es.drop j)).length=(es.length-j)*bS.sz:=by rw[fj.length,dI]
 refine W<|Zr<|mb Z Z<|uF eF Z Z<|oU Z Z<|U<|W ?_
 refine bD bZ [0,1,2,3,4,5] [6,7] [] [0,1,2,3,4,5] (sp []) N N N N Nq (cI _) ?_
 refine aw Z Z Z Z Z (fun _ _=>ij Z)<|aw Z Z Z Z Z (fun _ _=>ij Z)<|aw Z Z Z Z Z (fun _ _=>Df aZ Z Z I I)<|aw Z Z Z Z Z (fun _ _=>ij Z)<|aw Z Z Z Z Z (fun _ _=>ij Z)<|aw Z Z Z Z Z (fun _ _=>pj aZ Z Z I I)<|aU ?_
 intro w' hw' _;replace H:=H.later hw';clear hw'
 have hgE2:w'.heap[g]? =some (.cells cur 3 (0,0)):=(H.ents (g,.cells cur 3 (0,0)) (by simp)).1
 have hs1:i*bS.sz+(bS.all (es.drop j)).length=(i+(es.length-j))*bS.sz:=by rw[hdr,<-cQ]
 have hs2:=row.fit (i:=i+(es.length-j)) I
 have hz1:(oO cur (i*bS.sz) (bS.all (es.drop j))).size=cur.size:=jH I
 refine QK (k:=i) (c:=c) (m:=es.length-j) aZ H (show _=Value.slice _ _ _ by show Value.slice (cut _ c 0 _) _ _=_;rw[AL I,vZ];rfl) Z (row.srcFrom hgE2 hj (rN hc0) I) (fj.all_one _) I (by show i*bS.sz+_<=_;omega) Z ?_
 intro w1 H
 replace H:Hp w0 w1 (K++[(g,.cells (oO cur (i*bS.sz) (bS.all (es.drop j))) 3 (0,0))]++M) F:=H
 refine uO Z Z<|U<|W<|Zr<|mb Z Z<|mb Z Z<|uF eF Z Z<|iv Z Z<|NB aZ Z Z Z I I I Z fun A31 hA31=> ?_
 have hzc:(((es.length:Nat):Int).toNat- ((i+(es.length-j):Nat):Int).toNat)*bS.sz+(i+(es.length-j))*bS.sz=es.length*bS.sz:=by rw[<-cQ];congr 1;omega
 refine Qi (o:=(i+(es.length-j))*bS.sz) (z:=J 0) aZ N Z Z H Z (fun _=>vW.at0 hA31 I) (by rw[hz1];show _+(((es.length:Nat):Int).toNat- ((i+(es.length-j):Nat):Int).toNat)*bS.sz<=_;omega) ?_
 intro w2 H
 refine U<|W<|Zr<|mb Z Z<|uO Z Z<|U<|Zt<|cF Z Z ?_
 have hzl: ∀ m,(Builtin.zeroCells (Value.cells (J 0)) m).toList.length=m*bS.sz:=fun m=>by rw[cj,size_zeroCells];rfl
 have hr:=row.del hij hj (ao ((i+(es.length-j))*bS.sz)) (zs:=(Builtin.zeroCells (Value.cells (J 0)) (((es.length:Nat):Int).toNat- ((i+(es.length-j):Nat):Int).toNat)).toList) (by
  rw[hzl]
  show _+(((es.length:Nat):Int).toNat- ((i+(es.length-j):Nat):Int).toNat)*bS.sz<=_
  omega)
 exact⟨some ⟨g,0,none⟩,c,_,by rw[hlen];rfl,dU.own hr,H⟩
theorem N3 {P:Program} {ρ:gG} {w:World} {t:TypeId} {p:String} {af:Array Edge} {g:Option (Nat×Bool)} {dst:Option Nat} {x y:Operand} {ty ty':TypeId} {a b:Nat} {k:IntKind} (hx:ev ρ x=.int .u64 a) (hy:ev ρ y=.int k b) (hb:b<=64):(execOp (ev ρ) (Og dst (.binOp .shr ty x y ty') t p af g)).run P w=.ok (.value (.int .u64 (a/2 ^ b:Nat))) w:=by
 have e:(a:Int).fdiv (2 ^ b)=((a/2 ^ b:Nat):Int):=by
  rw[Int.fdiv_eq_ediv_of_nonneg _ (Int.le_of_lt (Int.pow_pos (by decide)))]
  simp
 simp only[execOp,hx,hy,eqGuard,binOp,Op.shift,Sem.run_bind,Sem.run_pure]
 simp[e,br (show b<=IntKind.u64.bits from hb)]
 intro h;omega
theorem OT {n:Nat} (h:n<=9000000000000000000):IntKind.u64.wrap (n:Int)=n:=by
 simp only[IntKind.wrap,IntKind.bits,IntKind.signed]
 simp
 omega
theorem rises {es:List Int} (h:es.Pairwise (· < ·)) {i j:Nat} {a b:Int} (hi:es[i]? =some a) (hj:es[j]? =some b) (hij:i<=j):a<=b:=by
 obtain⟨h1,rfl⟩:=az.1 hi
 obtain⟨h2,rfl⟩:=az.1 hj
 rcases iI i j with h3|h3
 exact Int.le_of_lt (mN.1 h i j h1 h2 h3)
 have:i=j:=by omega
 subst this
 exact ic _
theorem Bp (n:Int) (w:World):dd aa vK [J n] w fun v w2=>v=.bool false/\Below w.heap.size w w2:=by
 refine aE uL Z Z ?_
 have H:=Hp.start w
 refine W<|Zr<|G (Wb Z)<|U<|W<|Zr<|G (Yi Z)<|G (Yi Z)<|G (bX Z Z Z)<|G (Wb Z)<|U<|Zt ?_
 exact cF (v:=.bool false) Z Z ⟨rfl,H.below⟩
theorem qf (es:List Int) (t:Int) (A:Option Addr) (c:Nat) (w:World) (hr:Rd bS 0 w.heap.size A es w) (hb:es.length<=1000000) (hp:es.Pairwise (· < ·)):
  dd aa nn [.slice A es.length c,J t] w fun v w2=> ∃ i:Nat,v=.tuple #[J (i:Nat),.bool (decide (es[i]? =some t))]/\i<=es.length/\(∀ k y,es[k]? =some y->k<i->y<t)/\(∀ k y,es[k]? =some y->i<=k->t<=y)/\Below w.heap.size w w2:=by
 refine aE mV Z Z ?_
 have H:=Hp.startRd hr
 show CW _ _ _ _ (args [.slice A es.length c,J t]) w
 refine W<|Zr<|G (Wi Z)<|G (Wb Z)<|U<|W<|Zr<|G (Ys Z)<|G (bn eF Z)<|G (Wi Z)<|U<|W<|Zr<|G (Yi Z)<|G (Wi Z)<|G (Wi Z)<|U<|W<|Zb ?_
 refine cf (τ:=Nat×Nat) [7,8,9,13,14,15,16,17,18,19,20,21,22,23,24,25,26,27,28,29,30] (fun(l,r)=>[(7,J (l:Nat)),(8,J (r:Nat))]) (fun(l,r) w'=>l<=r/\r<=es.length/\(∀ k y,es[k]? =some y->k<l->y<t)/\(∀ k y,es[k]? =some y->r<=k->t<=y)/\Hp w w' [] [dG bS 0 w.heap.size A es]) (fun(l,r)=>r-l) (0,es.length) ⟨by omega,by omega,by intro k y _ h;omega,by intro k y h1 h2;have:=(cD h1).1;omega,H⟩ (kZ Z Z) ?_
 rintro⟨l,r⟩ ρ1 w1 ⟨hlr,hrn,hlo,hhi,H⟩
 show CW _ _ _ _ (dv (gk _ _ ρ1) [(7,J (l:Nat)),(8,J (r:Nat))]) w1
 refine W<|W<|Zr<|G (Yi Z)<|G (Yi Z) ?_
 refine cR (cG Z Z) Z Z Z (fun h15=> ?_) (fun h15=> ?_)
 refine U<|ZT Z<|Zk<|Zb<|W<|Zr<|G (Yi Z)<|G (Yi Z)<|G (bp Z Z I I) ?_
 rw[show((l:Nat):Int)+((r:Nat):Int)=((l+r:Nat):Int) by omega]
 refine G (CM ip Fk Z (OT I))<|G (N3 Z (b:=1) Z I) ?_
 obtain⟨m,hm,hm1,hm2⟩: ∃ m:Nat,(l+r)/2 ^ 1=m/\l<=m/\m<r:=⟨(l+r)/2,rfl,by omega,by omega⟩
 rw[hm]
 refine G (CM Fk ip Z (uT I))<|G (Wi Z)<|U<|W<|Zr<|G (Ys Z)<|G (Yi Z)<|pK H 0 Z aZ Z Z I I Z fun b2 o2 x2 e2=>G (aV aj Z (e2.cl 0 _ Z))<|G (Yi Z)<|cd yZ (Fh x2 t _) Z Z ?_
 rintro _ w3 ⟨rfl,hb⟩;replace H:=H.later hb;clear hb
 refine U ?_
 refine jm Z (fun hc27=> ?_) (fun hc27=> ?_)
 refine Zr<|G (Yi Z)<|G (bp Z Z I I)<|G (Wi Z)<|U ?_
 refine⟨(m+1,r),⟨by omega,hrn,fun k y h1 h2=>Int.lt_of_le_of_lt (rises hp h1 e2.at_ I) (of_decide_eq_true hc27),hhi,H⟩,kZ Z Z,Qg,by show r- (m+1)<r-l;omega⟩
 refine Zr<|G (Yi Z)<|G (Wi Z)<|U ?_
 refine⟨(l,m),⟨hm1,by omega,hlo,fun k y h1 h2=>by have h3:=rises hp e2.at_ h1 h2;have h4:=of_decide_eq_false hc27;omega,H⟩,kZ Z Z,Qg,by show m-l<r-l;omega⟩
 refine U<|ZF Z<|Zx<|W<|Zr<|G (Yi Z)<|G (Yi Z)<|G (Yi Z) ?_
 refine cR (cG Z Z) Z Z Z (fun h34=> ?_) (fun h34=> ?_)
 refine G (Yb Z)<|ZG<|G (Ys Z)<|ZG<|G (Yi Z)<|ZG<|pK H 0 Z aZ Z Z I I Z fun b4 o4 x4 e4=>ZG<|G (aV aj Z (e4.cl 0 _ Z))<|ZG<|G (Yi Z)<|ZG ?_
 refine cR (bh Z Z) Z Z Z (fun h41=> ?_) (fun h41=> ?_)
 refine ZG<|G (Yb Z)<|ZN<|ZN<|ZN<|ZN<|ZN<|ZN<|ZN<|ZN<|ZN<|ZG<|G (Kt Z Z)<|G (Kt Z Z)<|G (Wi Z)<|G (Wb Z)<|U<|Zt ?_
 have hd:decide (es[l]? =some t)=true:=by rw[e4.at_,h41];exact decide_eq_true Z
 exact l9 Z Z Z ⟨l,by rw[hd];rfl,by omega,hlo,by intro k y h1 h2;exact hhi k y h1 I,H.below⟩
 refine ZG<|G (Yb Z)<|ZG<|G (Ys Z)<|ZG<|G (Yi Z)<|ZG<|pK H 0 Z aZ Z Z I I Z fun b5 o5 x5 e5=>ZG<|G (aV aj Z (e5.cl 0 _ Z))<|ZG<|cd uN (Bp _ _) Z Z ?_
 rintro _ w6 ⟨rfl,hb⟩;replace H:=H.later hb;clear hb
 refine ZG<|G (Yb Z)<|ZN<|ZN<|ZG<|G (N Z Z)<|ZG<|G (N Z Z)<|G (Kt Z Z)<|G (Wi Z)<|G (Wb Z)<|U<|Zt ?_
 have hd:decide (es[l]? =some t)=false:=by rw[e4.at_];exact decide_eq_false (fun h=>h41 (bB h))
 exact l9 Z Z Z ⟨l,by rw[hd];rfl,by omega,hlo,by intro k y h1 h2;exact hhi k y h1 I,H.below⟩
 refine G (Yb Z)<|ZN<|ZN<|ZN<|ZN<|ZN<|ZN<|ZN<|ZN<|ZN<|ZN<|ZN<|ZN<|ZN<|ZN<|ZN<|ZN<|ZN<|G (N Z Z)<|G (Wi Z)<|G (Wb Z)<|U<|Zt ?_
 have hd:decide (es[l]? =some t)=false:=by rw[cJ I];rfl
 exact l9 Z Z Z ⟨l,by rw[hd];rfl,by omega,hlo,by intro k y h1 h2;exact hhi k y h1 I,H.below⟩
/-- a part more, in its place -/
def kB (l:List Int) (p:Int):List Int:=if p∈l then l else l.filter (fun q=>decide (q<p))++[p]++l.filter (fun q=>decide (p<=q))
def iz (ck:Int) (p:Int) (t:Tx):Tx:=if t.state=1 then{t with state:=2,since:=ck,parts:=kB t.parts p}else{t with parts:=kB t.parts p}
theorem Oz {l:List Int} {p:Int} {i:Nat} (h1: ∀ k y,l[k]? =some y->k<i->y<p) (h2: ∀ k y,l[k]? =some y->i<=k->p<=y):l.take i=l.filter (fun q=>decide (q<p))/\l.drop i=l.filter (fun q=>decide (p<=q)):=by
 have ha: ∀ y∈l.take i,y<p:=fun y hy=>by
  obtain⟨k,hk⟩:=aK.1 hy
  rw[df]at hk
  split at hk
  exact h1 k y hk ‹_›
  cases hk
 have hb: ∀ y∈l.drop i,p<=y:=fun y hy=>by
  obtain⟨k,hk⟩:=aK.1 hy
  rw[dK]at hk
  exact h2 _ y hk I
 have e1:l.filter (fun q=>decide (q<p))=(l.take i).filter (fun q=>decide (q<p))++(l.drop i).filter (fun q=>decide (q<p)):=by rw[<-i8,gL]
 have e2:l.filter (fun q=>decide (p<=q))=(l.take i).filter (fun q=>decide (p<=q))++(l.drop i).filter (fun q=>decide (p<=q)):=by rw[<-i8,gL]
 rw[e1,e2,jU.2 (fun y hy=>decide_eq_true (ha y hy)),v6.2 (fun y hy=>by have:=hb y hy;simpa using this),
  v6.2 (fun y hy=>by have:=ha y hy;simpa using this),jU.2 (fun y hy=>decide_eq_true (hb y hy))]
 simp
theorem Eh {l:List Int} {p:Int} {i:Nat} (h1: ∀ k y,l[k]? =some y->k<i->y<p) (h2: ∀ k y,l[k]? =some y->i<=k->p<=y) (hp:l.Pairwise (· < ·)) (hn: ¬ l[i]? =some p):l.take i++[p]++l.drop i=kB l p:=by
 obtain⟨e1,e2⟩:=Oz h1 h2
 have hm:p∉l:=fun hm=>by
  obtain⟨k,hk⟩:=aK.1 hm
  by_cases hki:k<i
  have:=h1 k p hk hki;omega
  have hki:i<=k:=by omega
  have hl:=(cD hk).1
  obtain⟨x,hx⟩: ∃ x,l[i]? =some x:=⟨_,ah I⟩
  have h3:=rises hp hx hk hki
  have h4:=h2 i x hx (ao _)
  exact hn (by rw[hx];congr 1;omega)
 unfold kB
 rw[if_neg hm,e1,e2]
theorem xY {l:List Int} {p:Int} {i:Nat} (h:l[i]? =some p):kB l p=l:=if_pos (ae h)
theorem vc {w0 w:World} {F:List ci} (X A B C:List (Nat×Obj)) (H:Hp w0 w (X++((A++B++C)++[])) F):Hp w0 w ((X++A)++B++C) F:=by simpa using H
theorem Ao {w0 w:World} {F:List ci} (X A B C:List (Nat×Obj)) (H:Hp w0 w ((X++A)++B++C) F):Hp w0 w (X++((A++B++C)++[])) F:=by simpa using H
theorem CT {ck p:Int} {t t':Tx} (h:t'.a=t.a):(iz ck p t').a=(iz ck p t).a:=by
 have e: ∀ t:Tx,(iz ck p t).a=iz ck p t.a:=fun t=>by
  unfold iz
  by_cases h:t.state=1
  rw[if_pos h,if_pos (show t.a.state=1 from h)];rfl
  rw[if_neg h,if_neg (show¬ t.a.state=1 from h)];rfl
 rw[e,e,h]
theorem jO {ts:List Tx} (h: ∀ t∈ts,t.parts.length<=t.cap) (i:Nat) {t':Tx} (h2:t'.parts.length<=t'.cap): ∀ x∈ts.set i t',x.parts.length<=x.cap:=fun x hx=>by
 rcases bH hx with hx|rfl
 exact h x hx
 exact h2
theorem Mc (c:Co) (s:ByteArray) (ver p:Int) (w:World) (h:c.rd 0 w.heap.size w) (hok:gB c=true) (hn:bM s=true) (hi:fJ c s= -1):dd aa oe [c.v,.string s,J ver,J p] w fun v w2=>v=.tuple #[.agg #[J 0,J 0,J 0,.slice none 0 0],J 5]/\Below w.heap.size w w2:=by
 refine aE pF Z Z ?_
 have hcap:=h.cap
 have hfew:=h.few
 have hfp:=h.fewP
 have H:=Hp.startCo h
 obtain⟨ck,nx,wt,txs,cA,cc⟩:=c
 dsimp only at hcap hfew hfp H
 show CW _ _ _ _ (args [.agg #[J ck,J nx,J wt,.slice cA txs.length cc],.string s,J ver,J p]) w
 refine W<|Zr<|fS H Z Z fun w1 b4 H=>eC H cK Z fun w2 b8 H=>G (Wi Z)<|U<|W<|Zr<|G (Zw ax H 1 Z Z Z)<|G (Yt Z)<|G (Yi Z)<|cd gC (z9 ⟨ck,nx,wt,txs,cA,cc⟩ s ver _ ⟨H.rd0 0 Z,fun t ht=>fu H 1 Z ht,hcap,hfew,hfp⟩ hok hn hi) Z Z ?_
 rintro _ w3 ⟨rfl,hb⟩;replace H:=H.later hb;clear hb
 refine G (Yu Z)<|G (Xa Z Z)<|G (Xi Z Z)<|G (Xi Z Z)<|bl H 1 (#[J (0),J (0),J (0),.slice none 0 0]) aF Z Z Z Z Z N N fun w4 H=>G (Wi Z)<|G (Wi Z)<|U<|W<|W<|Zr<|G (Yi Z)<|G (j9 Z Z (by decide))<|U<|ZT Z<|W<|Zr<|G (bj (cs:= #[J (0),J (0),J (0),.slice none 0 0]) fx cK N)<|G (Yi Z)<|bl H 0 (#[J (0),J (0),J (0),.slice none 0 0]) aF Z Z Z Z Z N N fun w5 H=>G (Wi Z)<|U<|Zt ?_
 exact bG (cs0:= #[J 0,J 0,J 0,.slice none 0 0]) (v1:=J 5) Z ax Z (H.ent (i:=0) Z) Z Z ⟨rfl,H.below⟩
theorem JO (c:Co) (s:ByteArray) (ver p:Int) (i:Nat) (t:Tx) (w:World) (h:c.rd 0 w.heap.size w) (hok:gB c=true) (hn:bM s=true) (hi:fJ c s=i) (ht:c.txs[i]? =some t) (hv:t.ver≠ver):dd aa oe [c.v,.string s,J ver,J p] w fun v w2=>v=.tuple #[.agg #[J 0,J 0,J 0,.slice none 0 0],J 10]/\Below w.heap.size w w2:=by
 refine aE pF Z Z ?_
 have hcap:=h.cap
 have hfew:=h.few
 have hfp:=h.fewP
 have H:=Hp.startCo h
 obtain⟨ck,nx,wt,txs,cA,cc⟩:=c
 dsimp only at hcap hfew hfp H
 show CW _ _ _ _ (args [.agg #[J ck,J nx,J wt,.slice cA txs.length cc],.string s,J ver,J p]) w
 dsimp only at ht
 refine W<|Zr<|fS H Z Z fun w1 b4 H=>eC H cK Z fun w2 b8 H=>G (Wi Z)<|U<|W<|Zr<|G (Zw ax H 1 Z Z Z)<|G (Yt Z)<|G (Yi Z)<|cd gC (yq ⟨ck,nx,wt,txs,cA,cc⟩ s ver i t _ ⟨H.rd0 0 Z,fun t ht=>fu H 1 Z ht,hcap,hfew,hfp⟩ hok hn hi ht hv) Z Z ?_
 rintro _ w3 ⟨rfl,hb⟩;replace H:=H.later hb;clear hb
 refine G (Yu Z)<|G (Xa Z Z)<|G (Xi Z Z)<|G (Xi Z Z)<|bl H 1 (#[J (0),J (0),J (0),.slice none 0 0]) aF Z Z Z Z Z N N fun w4 H=>G (Wi Z)<|G (Wi Z)<|U<|W<|W<|Zr<|G (Yi Z)<|G (j9 Z Z (by decide))<|U<|ZT Z<|W<|Zr<|G (bj (cs:= #[J (0),J (0),J (0),.slice none 0 0]) fx cK N)<|G (Yi Z)<|bl H 0 (#[J (0),J (0),J (0),.slice none 0 0]) aF Z Z Z Z Z N N fun w5 H=>G (Wi Z)<|U<|Zt ?_
 exact bG (cs0:= #[J 0,J 0,J 0,.slice none 0 0]) (v1:=J 10) Z ax Z (H.ent (i:=0) Z) Z Z ⟨rfl,H.below⟩
theorem JN (c:Co) (s:ByteArray) (ver p:Int) (i:Nat) (t:Tx) (w:World) (h:c.rd 0 w.heap.size w) (hok:gB c=true) (hn:bM s=true) (hi:fJ c s=i) (ht:c.txs[i]? =some t) (hv:t.ver=ver) (hp0:0<=p) (hp3:p<4) (h1:t.state≠1) (h2:t.state≠2):dd aa oe [c.v,.string s,J ver,J p] w fun v w2=>v=.tuple #[.agg #[J 0,J 0,J 0,.slice none 0 0],J 12]/\Below w.heap.size w w2:=by
 refine aE pF Z Z ?_
 have hcap:=h.cap
 have hfew:=h.few
 have hfp:=h.fewP
 have H:=Hp.startCo h
 obtain⟨ck,nx,wt,txs,cA,cc⟩:=c
 dsimp only at hcap hfew hfp H
 show CW _ _ _ _ (args [.agg #[J ck,J nx,J wt,.slice cA txs.length cc],.string s,J ver,J p]) w
 dsimp only at ht
 refine W<|Zr<|fS H Z Z fun w1 b4 H=>eC H cK Z fun w2 b8 H=>G (Wi Z)<|U<|W<|Zr<|G (Zw ax H 1 Z Z Z)<|G (Yt Z)<|G (Yi Z)<|cd gC (ww ⟨ck,nx,wt,txs,cA,cc⟩ s ver i t _ ⟨H.rd0 0 Z,fun t ht=>fu H 1 Z ht,hcap,hfew,hfp⟩ hok hn hi ht hv) Z Z ?_
 rintro _ w3 ⟨⟨ck2,nx2,wt2,tx2,A2,c2⟩,Lr,Lp,rfl,ha2,ho2,hp2,hoc2,hpc2,hj2⟩
 replace H:=H.joinR hj2;clear hj2
 simp only[Co.a,Co.mk.injEq]at ha2
 obtain⟨e1,e2,e3,hma,-,-⟩:=ha2
 obtain rfl:ck=ck2:=e1.symm
 obtain rfl:nx=nx2:=e2.symm
 obtain rfl:wt=wt2:=e3.symm
 dsimp only at ho2 hp2 hoc2 hpc2 H
 obtain⟨t2,ht2,hta⟩:=qT hma ht
 have hl2:=(cD ht2).1
 obtain⟨g,cur,rfl,rfl,row⟩:=ho2.row I
 have hst:t2.state=t.state:=by show t2.a.state=t.a.state;rw[hta]
 have hdn:t2.done=t.done:=by show t2.a.done=t.a.done;rw[hta]
 have hpt:t2.parts=t.parts:=by show t2.a.parts=t.a.parts;rw[hta]
 refine G (Yu Z)<|G (Xa Z Z)<|G (Xi Z Z)<|G (Xi Z Z)<|bl H 1 (#[J (ck),J (nx),J (wt),.slice (Qd g) tx2.length c2]) aF Z Z Z Z Z N N fun w4 H=>G (Wi Z)<|G (Wi Z)<|U<|W<|W<|Zr<|G (Yi Z)<|G (bX Z Z Z)<|U<|ZF Z<|Zk<|W<|W<|Zr<|G (Yi Z)<|G (cY Z Z I)<|G (Yb Z)<|ZG<|G (Yi Z)<|ZG<|G (rc Z Z I)<|G (N Z Z)<|U<|ZF Z<|Zk<|W<|Zr<|G (Zf cO Z)<|G (Zd dL H 1 Z Z Z)<|G (Yi Z)<|G (cC gH Z Z (by first|omega|(simp only[ab];omega)))<|G (Wp Z)<|U<|W<|W ?_
 refine Zr<|G (Yp Z)<|G (aI Z)<|G (Zf cS Z)<|G (bQ aj row ht2 3 Z (H.ent (i:=2) Z) Z)<|U<|Zb<|W<|Zr<|G (nC Z Z I)<|G (Wb Z)<|U<|ZF Z<|W<|Zr<|G (nC Z Z I)<|G (Wb Z)<|U<|ZF Z<|W<|Zr<|G (bj (cs:= #[J (0),J (0),J (0),.slice none 0 0]) fx cK N)<|bl H 0 (#[J (0),J (0),J (0),.slice none 0 0]) aF Z Z Z Z Z N N fun w5 H=>G (Wi Z)<|U<|Zt ?_
 exact bG (cs0:= #[J 0,J 0,J 0,.slice none 0 0]) (v1:=J 12) Z ax Z (H.ent (i:=0) Z) Z Z ⟨rfl,H.below⟩
theorem OH (c:Co) (s:ByteArray) (ver p:Int) (i:Nat) (t:Tx) (w:World) (h:c.rd 0 w.heap.size w) (hok:gB c=true) (hn:bM s=true) (hi:fJ c s=i) (ht:c.txs[i]? =some t) (hv:t.ver=ver) (hp0:0<=p) (hp3:p<4) (h12:t.state=1∨t.state=2) (hpo:cT (-1) t.parts=true):dd aa oe [c.v,.string s,J ver,J p] w fun v w2=> ∃ (c':Co) (Lr Lp:List (Nat×Obj)),v=.tuple #[c'.v,J 0]/\qi w w2 (Co.a {c with txs:=c.txs.set i (iz c.clock p t)}) c' Lr Lp:=by
 refine aE pF Z Z ?_
 have hcap:=h.cap
 have hfew:=h.few
 have hfp:=h.fewP
 have H:=Hp.startCo h
 obtain⟨ck,nx,wt,txs,cA,cc⟩:=c
 dsimp only at hcap hfew hfp H
 show CW _ _ _ _ (args [.agg #[J ck,J nx,J wt,.slice cA txs.length cc],.string s,J ver,J p]) w
 dsimp only at ht⊢
 refine W<|Zr<|fS H Z Z fun w1 b4 H=>eC H cK Z fun w2 b8 H=>G (Wi Z)<|U<|W<|Zr<|G (Zw ax H 1 Z Z Z)<|G (Yt Z)<|G (Yi Z)<|cd gC (ww ⟨ck,nx,wt,txs,cA,cc⟩ s ver i t _ ⟨H.rd0 0 Z,fun t ht=>fu H 1 Z ht,hcap,hfew,hfp⟩ hok hn hi ht hv) Z Z ?_
 rintro _ w3 ⟨⟨ck2,nx2,wt2,tx2,A2,c2⟩,Lr,Lp,rfl,ha2,ho2,hp2,hoc2,hpc2,hj2⟩
 replace H:=H.joinR hj2;clear hj2
 simp only[Co.a,Co.mk.injEq]at ha2
 obtain⟨e1,e2,e3,hma,-,-⟩:=ha2
 obtain rfl:ck=ck2:=e1.symm
 obtain rfl:nx=nx2:=e2.symm
 obtain rfl:wt=wt2:=e3.symm
 dsimp only at ho2 hp2 hoc2 hpc2 H
 obtain⟨t2,ht2,hta⟩:=qT hma ht
 have hl2:=(cD ht2).1
 obtain⟨g,cur,rfl,rfl,row⟩:=ho2.row I
 have hst:t2.state=t.state:=by show t2.a.state=t.a.state;rw[hta]
 have hdn:t2.done=t.done:=by show t2.a.done=t.a.done;rw[hta]
 have hpt:t2.parts=t.parts:=by show t2.a.parts=t.a.parts;rw[hta]
 refine G (Yu Z)<|G (Xa Z Z)<|G (Xi Z Z)<|G (Xi Z Z)<|bl H 1 (#[J (ck),J (nx),J (wt),.slice (Qd g) tx2.length c2]) aF Z Z Z Z Z N N fun w4 H=>G (Wi Z)<|G (Wi Z)<|U<|W<|W<|Zr<|G (Yi Z)<|G (bX Z Z Z)<|U<|ZF Z<|Zk<|W<|W<|Zr<|G (Yi Z)<|G (cY Z Z I)<|G (Yb Z)<|ZG<|G (Yi Z)<|ZG<|G (rc Z Z I)<|G (N Z Z)<|U<|ZF Z<|Zk<|W<|Zr<|G (Zf cO Z)<|G (Zd dL H 1 Z Z Z)<|G (Yi Z)<|G (cC gH Z Z (by first|omega|(simp only[ab];omega)))<|G (Wp Z)<|U<|W<|W ?_
 refine Zr<|G (Yp Z)<|G (aI Z)<|G (Zf cS Z)<|G (bQ aj row ht2 3 Z (H.ent (i:=2) Z) Z)<|U<|Zb<|W<|Zr ?_
 refine cR (bh Z Z) Z Z Z (fun h44=> ?_) (fun h44=> ?_)
 refine G (Wb Z)<|U<|ZT Z ?_
 refine qI bZ [0,1,2,4,5] [3,6,7,8,9] [0,1,2,4,5] 5 N N N Nq ?_
 refine aw Z Z Z Z Z (fun w' hw'=>Yp Z)<|aw Z Z Z Z Z (fun w' hw'=>Yp Z)<|aw Z Z Z Z Z (fun w' hw'=>Zf km Z)<|aw Z Z Z Z Z (fun w' hw'=>aI Z)<|aw Z Z Z Z Z (fun w' hw'=>Zf cS Z)<|aU ?_
 intro w5 hw';replace H:=H.later hw';clear hw'
 refine tj 3 6 N Z Z ?_ ?_
 refine G (Zd aj H 1 Z Z Z)<|U<|da 6 N Z<|kQ H 2 ({t2 with state:=2}) bI row ht2 3 Z Z Z Z Z Z N fun w7 cur6 row6 H=> ?_
 have hs8:(tx2.set i ({t2 with state:=2}))[i]? =some ({t2 with state:=2}):=am (cD ht2).1
 refine U<|da 7 N Z<|G (aI Z)<|U<|da 8 N Z<|G (Zf tT Z)<|U<|da 9 N Z<|kQ H 2 ({({t2 with state:=2})with since:=ck}) bI row6 hs8 5 Z Z Z Z Z Z N fun w10 cur9 row9 H=> ?_
 have hs11:((tx2.set i ({t2 with state:=2})).set i ({({t2 with state:=2})with since:=ck}))[i]? =some ({({t2 with state:=2})with since:=ck}):=am (cD hs8).1
 refine U<|cz N<|W<|W ?_
 have hrise:=(fI hpo).1
 have hfw:=ml hpo
 rw[<-hpt]at hrise hfw
 obtain⟨La,Lt,Lb,rfl,hot,hset⟩:=hp2.at_ ht2
 refine Zr<|G (Yp Z)<|G (aI Z)<|G (Zf dy Z)<|G (bQ cr row9 hs11 4 Z (H.ent (i:=2) Z) Z)<|G (Yi Z)<|cd d7 (qf t2.parts p t2.A t2.cap _ ((hot.rd (K:=[(b8,.cells #[J (0),J (0),J (0),.slice none 0 0] bf (0,0)),(b4,.cells #[J (ck),J (nx),J (wt),.slice (Qd g) tx2.length c2] bf (0,0)),(g,.cells cur9 dE (0,0))]++La) (M:=Lb) (vc [(b8,.cells #[J (0),J (0),J (0),.slice none 0 0] bf (0,0)),(b4,.cells #[J (ck),J (nx),J (wt),.slice (Qd g) tx2.length c2] bf (0,0)),(g,.cells cur9 dE (0,0))] La Lt Lb H)).mono (bA _) (ao _)) I hrise) Z Z ?_
 rintro _ w12 ⟨j,rfl,hjl,hj1,hj2,hb⟩;replace H:=H.later hb;clear hb
 refine G (Yu Z)<|G (Xi Z Z)<|G (Xb Z Z) ?_
 refine mq 63 Z (fun h63=> ?_) (fun h63=> ?_)
 refine G (Wi Z)<|G (Wb Z)<|U<|W<|Zr<|G (Yb Z)<|G (dO Z)<|U<|ZF Z<|Zk<|W<|Zr<|G (Zw ax H 1 Z Z Z)<|bl H 0 (#[J (ck),J (nx),J (wt),.slice (Qd g) tx2.length c2]) aF Z Z Z Z Z N N fun w13 H=>G (Wi Z)<|U<|Zt ?_
 have hpp:kB t2.parts p=t2.parts:=xY (of_decide_eq_true h63)
 have hX:Tx.a ({t2 with state:=2,since:=ck})=(iz ck p t).a:=by rw[<-CT hta];unfold iz;rw[if_pos I];rw[hpp]
 have hrow:dU rx (tx2.set i ({t2 with state:=2,since:=ck})) c2 cur9:=by have hr:=row9;simp only[fo]at hr;exact hr
 exact bG (cs0:= #[J ck,J nx,J wt,.slice (Qd g) tx2.length c2]) (v1:=J 0) Z ax Z (H.ent (i:=0) Z) Z Z ⟨⟨ck,nx,wt,tx2.set i ({t2 with state:=2,since:=ck}),some ⟨g,0,none⟩,c2⟩,[(g,.cells cur9 dE (0,0))],(La++Lt++Lb),by unfold Co.v Co.c;dsimp only;rw[ab],by unfold Co.a;dsimp only;rw[oW hma i hX],dU.own hrow,hset {t2 with state:=2,since:=ck} Lt hot,by dsimp only;rw[ab];exact hoc2,jO hpc2 i (by exact hpc2 t2 (ae ht2)),H.forget (.cons _ (.cons _ (aC _ _))) (by simp)⟩
 refine G (Wi Z)<|G (Wb Z)<|U<|W<|Zr<|G (Yb Z)<|G (dO Z)<|U<|ZT Z<|Zr<|G (Yp Z)<|G (Yp Z)<|G (aI Z)<|G (Zf dy Z)<|G (bQ cr row9 hs11 4 Z (H.ent (i:=2) Z) Z)<|G (Yi Z)<|G (Yi Z)<|sY (vs:=[J (p)]) H aZ v8 Z Z Z Z Z Z fun w14 b73 H=>cd iD (ss (K:=[(b8,.cells #[J (0),J (0),J (0),.slice none 0 0] bf (0,0)),(b4,.cells #[J (ck),J (nx),J (wt),.slice (Qd g) tx2.length c2] bf (0,0)),(g,.cells cur9 dE (0,0))]++La) (Lt:=Lt) (M:=Lb) (vc [(b73,.cells #[J (p)] cW (0,0)),(b8,.cells #[J (0),J (0),J (0),.slice none 0 0] bf (0,0)),(b4,.cells #[J (ck),J (nx),J (wt),.slice (Qd g) tx2.length c2] bf (0,0)),(g,.cells cur9 dE (0,0))] La Lt Lb H) hot hjl I) Z Z ?_
 rintro _ w15 ⟨A9,c9,L9,rfl,ho9,HI⟩;replace H:Hp w w15 ([(b73,.cells #[J (p)] cW (0,0)),(b8,.cells #[J (0),J (0),J (0),.slice none 0 0] bf (0,0)),(b4,.cells #[J (ck),J (nx),J (wt),.slice (Qd g) tx2.length c2] bf (0,0)),(g,.cells cur9 dE (0,0))]++((La++L9++Lb)++[])) [dG rx 0 w.heap.size cA txs,iE 0 w.heap.size txs]:=Ao [(b73,.cells #[J (p)] cW (0,0)),(b8,.cells #[J (0),J (0),J (0),.slice none 0 0] bf (0,0)),(b4,.cells #[J (ck),J (nx),J (wt),.slice (Qd g) tx2.length c2] bf (0,0)),(g,.cells cur9 dE (0,0))] La L9 Lb HI
 have hc9:(t2.parts.take j++[p]++t2.parts.drop j).length<=c9:=by obtain⟨_,_,e,h,_⟩:=ho9.form;injection e with _ _ e;rw[e];exact h
 refine G (aI Z)<|G (Zf dy Z)<|kQ H 3 ({{t2 with state:=2,since:=ck}with parts:=t2.parts.take j++[p]++t2.parts.drop j,A:=A9,cap:=c9}) jF row9 hs11 4 Z Z Z Z Z Z N fun w17 cur16 row16 H=> ?_
 have hs18:(((tx2.set i ({t2 with state:=2})).set i ({({t2 with state:=2})with since:=ck})).set i ({{t2 with state:=2,since:=ck}with parts:=t2.parts.take j++[p]++t2.parts.drop j,A:=A9,cap:=c9}))[i]? =some ({{t2 with state:=2,since:=ck}with parts:=t2.parts.take j++[p]++t2.parts.drop j,A:=A9,cap:=c9}):=am (cD hs11).1
 refine U<|W<|Zr<|G (Zw ax H 2 Z Z Z)<|bl H 1 (#[J (ck),J (nx),J (wt),.slice (Qd g) tx2.length c2]) aF Z Z Z Z Z N N fun w19 H=>G (Wi Z)<|U<|Zt ?_
 have hpp:=Eh hj1 hj2 hrise (of_decide_eq_false h63)
 have hX:Tx.a ({t2 with state:=2,since:=ck,parts:=t2.parts.take j++[p]++t2.parts.drop j,A:=A9,cap:=c9})=(iz ck p t).a:=by rw[<-CT hta];unfold iz;rw[if_pos I];rw[<-hpp];rfl
 have hrow:dU rx (tx2.set i ({t2 with state:=2,since:=ck,parts:=t2.parts.take j++[p]++t2.parts.drop j,A:=A9,cap:=c9})) c2 cur16:=by have hr:=row16;simp only[fo]at hr;exact hr
 exact bG (cs0:= #[J ck,J nx,J wt,.slice (Qd g) tx2.length c2]) (v1:=J 0) Z ax Z (H.ent (i:=1) Z) Z Z ⟨⟨ck,nx,wt,tx2.set i ({t2 with state:=2,since:=ck,parts:=t2.parts.take j++[p]++t2.parts.drop j,A:=A9,cap:=c9}),some ⟨g,0,none⟩,c2⟩,[(g,.cells cur16 dE (0,0))],(La++L9++Lb),by unfold Co.v Co.c;dsimp only;rw[ab],by unfold Co.a;dsimp only;rw[oW hma i hX],dU.own hrow,hset {t2 with state:=2,since:=ck,parts:=t2.parts.take j++[p]++t2.parts.drop j,A:=A9,cap:=c9} L9 ho9,by dsimp only;rw[ab];exact hoc2,jO hpc2 i (by exact hc9),H.forget (.cons _ (.cons _ (.cons _ (aC _ _)))) (by simp)⟩
 refine kQ H 2 ({t2 with state:=2}) bI row ht2 3 Z Z Z Z Z Z N fun w21 cur20 row20 H=> ?_
 have hs22:(tx2.set i ({t2 with state:=2}))[i]? =some ({t2 with state:=2}):=am (cD ht2).1
 refine U<|da 3 N Z<|G (Zd aj H 1 Z Z Z)<|U<|da 7 N Z<|G (aI Z)<|U<|da 8 N Z<|G (Zf tT Z)<|U<|da 9 N Z<|kQ H 2 ({({t2 with state:=2})with since:=ck}) bI row20 hs22 5 Z Z Z Z Z Z N fun w24 cur23 row23 H=> ?_
 have hs25:((tx2.set i ({t2 with state:=2})).set i ({({t2 with state:=2})with since:=ck}))[i]? =some ({({t2 with state:=2})with since:=ck}):=am (cD hs22).1
 refine U<|cz N<|W<|W ?_
 have hrise:=(fI hpo).1
 have hfw:=ml hpo
 rw[<-hpt]at hrise hfw
 obtain⟨La,Lt,Lb,rfl,hot,hset⟩:=hp2.at_ ht2
 refine Zr<|G (Yp Z)<|G (aI Z)<|G (Zf dy Z)<|G (bQ cr row23 hs25 4 Z (H.ent (i:=2) Z) Z)<|G (Yi Z)<|cd d7 (qf t2.parts p t2.A t2.cap _ ((hot.rd (K:=[(b8,.cells #[J (0),J (0),J (0),.slice none 0 0] bf (0,0)),(b4,.cells #[J (ck),J (nx),J (wt),.slice (Qd g) tx2.length c2] bf (0,0)),(g,.cells cur23 dE (0,0))]++La) (M:=Lb) (vc [(b8,.cells #[J (0),J (0),J (0),.slice none 0 0] bf (0,0)),(b4,.cells #[J (ck),J (nx),J (wt),.slice (Qd g) tx2.length c2] bf (0,0)),(g,.cells cur23 dE (0,0))] La Lt Lb H)).mono (bA _) (ao _)) I hrise) Z Z ?_
 rintro _ w26 ⟨j,rfl,hjl,hj1,hj2,hb⟩;replace H:=H.later hb;clear hb
 refine G (Yu Z)<|G (Xi Z Z)<|G (Xb Z Z) ?_
 refine mq 63 Z (fun h63=> ?_) (fun h63=> ?_)
 refine G (Wi Z)<|G (Wb Z)<|U<|W<|Zr<|G (Yb Z)<|G (dO Z)<|U<|ZF Z<|Zk<|W<|Zr<|G (Zw ax H 1 Z Z Z)<|bl H 0 (#[J (ck),J (nx),J (wt),.slice (Qd g) tx2.length c2]) aF Z Z Z Z Z N N fun w27 H=>G (Wi Z)<|U<|Zt ?_
 have hpp:kB t2.parts p=t2.parts:=xY (of_decide_eq_true h63)
 have hX:Tx.a ({t2 with state:=2,since:=ck})=(iz ck p t).a:=by rw[<-CT hta];unfold iz;rw[if_pos I];rw[hpp]
 have hrow:dU rx (tx2.set i ({t2 with state:=2,since:=ck})) c2 cur23:=by have hr:=row23;simp only[fo]at hr;exact hr
 exact bG (cs0:= #[J ck,J nx,J wt,.slice (Qd g) tx2.length c2]) (v1:=J 0) Z ax Z (H.ent (i:=0) Z) Z Z ⟨⟨ck,nx,wt,tx2.set i ({t2 with state:=2,since:=ck}),some ⟨g,0,none⟩,c2⟩,[(g,.cells cur23 dE (0,0))],(La++Lt++Lb),by unfold Co.v Co.c;dsimp only;rw[ab],by unfold Co.a;dsimp only;rw[oW hma i hX],dU.own hrow,hset {t2 with state:=2,since:=ck} Lt hot,by dsimp only;rw[ab];exact hoc2,jO hpc2 i (by exact hpc2 t2 (ae ht2)),H.forget (.cons _ (.cons _ (aC _ _))) (by simp)⟩
 refine G (Wi Z)<|G (Wb Z)<|U<|W<|Zr<|G (Yb Z)<|G (dO Z)<|U<|ZT Z<|Zr<|G (Yp Z)<|G (Yp Z)<|G (aI Z)<|G (Zf dy Z)<|G (bQ cr row23 hs25 4 Z (H.ent (i:=2) Z) Z)<|G (Yi Z)<|G (Yi Z)<|sY (vs:=[J (p)]) H aZ v8 Z Z Z Z Z Z fun w28 b73 H=>cd iD (ss (K:=[(b8,.cells #[J (0),J (0),J (0),.slice none 0 0] bf (0,0)),(b4,.cells #[J (ck),J (nx),J (wt),.slice (Qd g) tx2.length c2] bf (0,0)),(g,.cells cur23 dE (0,0))]++La) (Lt:=Lt) (M:=Lb) (vc [(b73,.cells #[J (p)] cW (0,0)),(b8,.cells #[J (0),J (0),J (0),.slice none 0 0] bf (0,0)),(b4,.cells #[J (ck),J (nx),J (wt),.slice (Qd g) tx2.length c2] bf (0,0)),(g,.cells cur23 dE (0,0))] La Lt Lb H) hot hjl I) Z Z ?_
 rintro _ w29 ⟨A9,c9,L9,rfl,ho9,HI⟩;replace H:Hp w w29 ([(b73,.cells #[J (p)] cW (0,0)),(b8,.cells #[J (0),J (0),J (0),.slice none 0 0] bf (0,0)),(b4,.cells #[J (ck),J (nx),J (wt),.slice (Qd g) tx2.length c2] bf (0,0)),(g,.cells cur23 dE (0,0))]++((La++L9++Lb)++[])) [dG rx 0 w.heap.size cA txs,iE 0 w.heap.size txs]:=Ao [(b73,.cells #[J (p)] cW (0,0)),(b8,.cells #[J (0),J (0),J (0),.slice none 0 0] bf (0,0)),(b4,.cells #[J (ck),J (nx),J (wt),.slice (Qd g) tx2.length c2] bf (0,0)),(g,.cells cur23 dE (0,0))] La L9 Lb HI
 have hc9:(t2.parts.take j++[p]++t2.parts.drop j).length<=c9:=by obtain⟨_,_,e,h,_⟩:=ho9.form;injection e with _ _ e;rw[e];exact h
 refine G (aI Z)<|G (Zf dy Z)<|kQ H 3 ({{t2 with state:=2,since:=ck}with parts:=t2.parts.take j++[p]++t2.parts.drop j,A:=A9,cap:=c9}) jF row23 hs25 4 Z Z Z Z Z Z N fun w31 cur30 row30 H=> ?_
 have hs32:(((tx2.set i ({t2 with state:=2})).set i ({({t2 with state:=2})with since:=ck})).set i ({{t2 with state:=2,since:=ck}with parts:=t2.parts.take j++[p]++t2.parts.drop j,A:=A9,cap:=c9}))[i]? =some ({{t2 with state:=2,since:=ck}with parts:=t2.parts.take j++[p]++t2.parts.drop j,A:=A9,cap:=c9}):=am (cD hs25).1
 refine U<|W<|Zr<|G (Zw ax H 2 Z Z Z)<|bl H 1 (#[J (ck),J (nx),J (wt),.slice (Qd g) tx2.length c2]) aF Z Z Z Z Z N N fun w33 H=>G (Wi Z)<|U<|Zt ?_
 have hpp:=Eh hj1 hj2 hrise (of_decide_eq_false h63)
 have hX:Tx.a ({t2 with state:=2,since:=ck,parts:=t2.parts.take j++[p]++t2.parts.drop j,A:=A9,cap:=c9})=(iz ck p t).a:=by rw[<-CT hta];unfold iz;rw[if_pos I];rw[<-hpp];rfl
 have hrow:dU rx (tx2.set i ({t2 with state:=2,since:=ck,parts:=t2.parts.take j++[p]++t2.parts.drop j,A:=A9,cap:=c9})) c2 cur30:=by have hr:=row30;simp only[fo]at hr;exact hr
 exact bG (cs0:= #[J ck,J nx,J wt,.slice (Qd g) tx2.length c2]) (v1:=J 0) Z ax Z (H.ent (i:=1) Z) Z Z ⟨⟨ck,nx,wt,tx2.set i ({t2 with state:=2,since:=ck,parts:=t2.parts.take j++[p]++t2.parts.drop j,A:=A9,cap:=c9}),some ⟨g,0,none⟩,c2⟩,[(g,.cells cur30 dE (0,0))],(La++L9++Lb),by unfold Co.v Co.c;dsimp only;rw[ab],by unfold Co.a;dsimp only;rw[oW hma i hX],dU.own hrow,hset {t2 with state:=2,since:=ck,parts:=t2.parts.take j++[p]++t2.parts.drop j,A:=A9,cap:=c9} L9 ho9,by dsimp only;rw[ab];exact hoc2,jO hpc2 i (by exact hc9),H.forget (.cons _ (.cons _ (.cons _ (aC _ _)))) (by simp)⟩
 refine G (Wb Z)<|U<|ZF Z<|W<|Zr<|G (tV Z Z I)<|G (Wb Z)<|U<|ZT Z<|Zk<|W<|W ?_
 have hrise:=(fI hpo).1
 have hfw:=ml hpo
 rw[<-hpt]at hrise hfw
 obtain⟨La,Lt,Lb,rfl,hot,hset⟩:=hp2.at_ ht2
 refine Zr<|G (Yp Z)<|G (aI Z)<|G (Zf dy Z)<|G (bQ cr row ht2 4 Z (H.ent (i:=2) Z) Z)<|G (Yi Z)<|cd d7 (qf t2.parts p t2.A t2.cap _ ((hot.rd (K:=[(b8,.cells #[J (0),J (0),J (0),.slice none 0 0] bf (0,0)),(b4,.cells #[J (ck),J (nx),J (wt),.slice (Qd g) tx2.length c2] bf (0,0)),(g,.cells cur dE (0,0))]++La) (M:=Lb) (vc [(b8,.cells #[J (0),J (0),J (0),.slice none 0 0] bf (0,0)),(b4,.cells #[J (ck),J (nx),J (wt),.slice (Qd g) tx2.length c2] bf (0,0)),(g,.cells cur dE (0,0))] La Lt Lb H)).mono (bA _) (ao _)) I hrise) Z Z ?_
 rintro _ w34 ⟨j,rfl,hjl,hj1,hj2,hb⟩;replace H:=H.later hb;clear hb
 refine G (Yu Z)<|G (Xi Z Z)<|G (Xb Z Z) ?_
 refine mq 63 Z (fun h63=> ?_) (fun h63=> ?_)
 refine G (Wi Z)<|G (Wb Z)<|U<|W<|Zr<|G (Yb Z)<|G (dO Z)<|U<|ZF Z<|Zk<|W<|Zr<|G (Zw ax H 1 Z Z Z)<|bl H 0 (#[J (ck),J (nx),J (wt),.slice (Qd g) tx2.length c2]) aF Z Z Z Z Z N N fun w35 H=>G (Wi Z)<|U<|Zt ?_
 have hpp:kB t2.parts p=t2.parts:=xY (of_decide_eq_true h63)
 have hX:Tx.a (t2)=(iz ck p t).a:=by rw[<-CT hta];unfold iz;rw[if_neg I];rw[hpp]
 have hrow:dU rx (tx2.set i (t2)) c2 cur:=by rw[iL ht2];exact row
 exact bG (cs0:= #[J ck,J nx,J wt,.slice (Qd g) tx2.length c2]) (v1:=J 0) Z ax Z (H.ent (i:=0) Z) Z Z ⟨⟨ck,nx,wt,tx2.set i (t2),some ⟨g,0,none⟩,c2⟩,[(g,.cells cur dE (0,0))],(La++Lt++Lb),by unfold Co.v Co.c;dsimp only;rw[ab],by unfold Co.a;dsimp only;rw[oW hma i hX],dU.own hrow,hset t2 Lt hot,by dsimp only;rw[ab];exact hoc2,jO hpc2 i (by exact hpc2 t2 (ae ht2)),H.forget (.cons _ (.cons _ (aC _ _))) (by simp)⟩
 refine G (Wi Z)<|G (Wb Z)<|U<|W<|Zr<|G (Yb Z)<|G (dO Z)<|U<|ZT Z<|Zr<|G (Yp Z)<|G (Yp Z)<|G (aI Z)<|G (Zf dy Z)<|G (bQ cr row ht2 4 Z (H.ent (i:=2) Z) Z)<|G (Yi Z)<|G (Yi Z)<|sY (vs:=[J (p)]) H aZ v8 Z Z Z Z Z Z fun w36 b73 H=>cd iD (ss (K:=[(b8,.cells #[J (0),J (0),J (0),.slice none 0 0] bf (0,0)),(b4,.cells #[J (ck),J (nx),J (wt),.slice (Qd g) tx2.length c2] bf (0,0)),(g,.cells cur dE (0,0))]++La) (Lt:=Lt) (M:=Lb) (vc [(b73,.cells #[J (p)] cW (0,0)),(b8,.cells #[J (0),J (0),J (0),.slice none 0 0] bf (0,0)),(b4,.cells #[J (ck),J (nx),J (wt),.slice (Qd g) tx2.length c2] bf (0,0)),(g,.cells cur dE (0,0))] La Lt Lb H) hot hjl I) Z Z ?_
 rintro _ w37 ⟨A9,c9,L9,rfl,ho9,HI⟩;replace H:Hp w w37 ([(b73,.cells #[J (p)] cW (0,0)),(b8,.cells #[J (0),J (0),J (0),.slice none 0 0] bf (0,0)),(b4,.cells #[J (ck),J (nx),J (wt),.slice (Qd g) tx2.length c2] bf (0,0)),(g,.cells cur dE (0,0))]++((La++L9++Lb)++[])) [dG rx 0 w.heap.size cA txs,iE 0 w.heap.size txs]:=Ao [(b73,.cells #[J (p)] cW (0,0)),(b8,.cells #[J (0),J (0),J (0),.slice none 0 0] bf (0,0)),(b4,.cells #[J (ck),J (nx),J (wt),.slice (Qd g) tx2.length c2] bf (0,0)),(g,.cells cur dE (0,0))] La L9 Lb HI
 have hc9:(t2.parts.take j++[p]++t2.parts.drop j).length<=c9:=by obtain⟨_,_,e,h,_⟩:=ho9.form;injection e with _ _ e;rw[e];exact h
 refine G (aI Z)<|G (Zf dy Z)<|kQ H 3 ({t2 with parts:=t2.parts.take j++[p]++t2.parts.drop j,A:=A9,cap:=c9}) jF row ht2 4 Z Z Z Z Z Z N fun w39 cur38 row38 H=> ?_
 have hs40:(tx2.set i ({t2 with parts:=t2.parts.take j++[p]++t2.parts.drop j,A:=A9,cap:=c9}))[i]? =some ({t2 with parts:=t2.parts.take j++[p]++t2.parts.drop j,A:=A9,cap:=c9}):=am (cD ht2).1
 refine U<|W<|Zr<|G (Zw ax H 2 Z Z Z)<|bl H 1 (#[J (ck),J (nx),J (wt),.slice (Qd g) tx2.length c2]) aF Z Z Z Z Z N N fun w41 H=>G (Wi Z)<|U<|Zt ?_
 have hpp:=Eh hj1 hj2 hrise (of_decide_eq_false h63)
 have hX:Tx.a ({t2 with parts:=t2.parts.take j++[p]++t2.parts.drop j,A:=A9,cap:=c9})=(iz ck p t).a:=by rw[<-CT hta];unfold iz;rw[if_neg I];rw[<-hpp];rfl
 have hrow:dU rx (tx2.set i ({t2 with parts:=t2.parts.take j++[p]++t2.parts.drop j,A:=A9,cap:=c9})) c2 cur38:=by exact row38
 exact bG (cs0:= #[J ck,J nx,J wt,.slice (Qd g) tx2.length c2]) (v1:=J 0) Z ax Z (H.ent (i:=1) Z) Z Z ⟨⟨ck,nx,wt,tx2.set i ({t2 with parts:=t2.parts.take j++[p]++t2.parts.drop j,A:=A9,cap:=c9}),some ⟨g,0,none⟩,c2⟩,[(g,.cells cur38 dE (0,0))],(La++L9++Lb),by unfold Co.v Co.c;dsimp only;rw[ab],by unfold Co.a;dsimp only;rw[oW hma i hX],dU.own hrow,hset {t2 with parts:=t2.parts.take j++[p]++t2.parts.drop j,A:=A9,cap:=c9} L9 ho9,by dsimp only;rw[ab];exact hoc2,jO hpc2 i (by exact hc9),H.forget (.cons _ (.cons _ (.cons _ (aC _ _)))) (by simp)⟩
def gQ (t:Tx):Bool:=decide (t.state=3)||decide (t.state=4)
def gZ (txs:List Tx) (n:Nat):Option Tx:=(txs.filter gQ)[n]?
def zZ (t:Tx):Value:=.agg #[J 0,J t.pid,J t.ver,J 0,J (if t.state=4 then 3 else 2),.bool true,.string ⟨#[]⟩]
def ym (o:Option Tx):Value:=match o with
 |none=> .tuple #[.string ⟨#[]⟩,J 0,.agg #[J 0,J 0,J 0,J 0,J 0,.bool false,.string ⟨#[]⟩],J 15]
 |some t=> .tuple #[.string t.name,J (t.parts.headD 0),zZ t,J 0]
theorem Hp.partRow {w0 w:World} {L:List (Nat×Obj)} {F:List ci} {lo hi:Nat} {txs:List Tx} (H:Hp w0 w L F) (i:Nat) (hF:F[i]? =some (iE lo hi txs)) {t:Tx} (ht:t∈txs):Hp w0 w L (dG bS lo hi t.A t.parts::F):=by
 refine⟨H.below,H.ents,H.nodup,fun f hf=> ?_⟩
 rcases av.1 hf with rfl|hf
 obtain⟨h1,h2,h3⟩:=H.facts _ (ae hF)
 exact⟨h1 t ht,h2,h3⟩
 exact H.facts f hf
theorem KP {txs:List Tx} {k m:Nat} {x:Tx} (hx:txs[k]? =some x) (he:gQ x=false):((txs.drop k).filter gQ)[m]? =((txs.drop (k+1)).filter gQ)[m]? :=by
 rw[cN hx,oH (by rw[he];decide)]
theorem HO {txs:List Tx} {k:Nat} {x:Tx} (hx:txs[k]? =some x) (he:gQ x=true):((txs.drop k).filter gQ)[0]? =some x:=by
 rw[cN hx,jZ he];rfl
theorem E5 {txs:List Tx} {k m:Nat} {x:Tx} (hx:txs[k]? =some x) (he:gQ x=true) (hm:1<=m):((txs.drop k).filter gQ)[m]? =((txs.drop (k+1)).filter gQ)[m-1]? :=by
 obtain⟨m,rfl⟩: ∃ j,m=j+1:=⟨m-1,by omega⟩
 rw[cN hx,jZ he];rfl
theorem MQ {txs:List Tx} {k m:Nat} (h:txs.length<=k):((txs.drop k).filter gQ)[m]? =none:=by
 rw[eg h];rfl
theorem MU (c:Co) (n:Nat) (w:World) (h:c.rd 0 w.heap.size w) (hok:gB c=true) (hn:n<=1000):dd aa wD [c.v,J (n:Nat)] w fun v w2=>v=ym (gZ c.txs n)/\Below w.heap.size w w2:=by
 refine aE BR Z Z ?_
 have hcap:=h.cap
 have hfew:=h.few
 have hfp:=h.fewP
 have H:=Hp.startCo h
 obtain⟨ck,nx,wt,txs,cA,cc⟩:=c
 dsimp only at hcap hfew hfp H
 show CW _ _ _ _ (args [.agg #[J ck,J nx,J wt,.slice cA txs.length cc],J (n:Nat)]) w
 obtain⟨q1,q2,q3,q4,q5,q6,q7⟩:=iU.1 hok
 dsimp only at q6 q7⊢
 refine W<|Zr<|fS H Z Z fun w1 b2 H=>G (Wt Z)<|G (Wi Z)<|eC H fU Z fun w2 b6 H=>G (Wi Z)<|U<|W<|W<|Zr<|G (Zw ax H 1 Z Z Z)<|cd kw (qc ⟨ck,nx,wt,txs,cA,cc⟩ _ ⟨H.rd0 0 Z,fun t ht=>fu H 1 Z ht,hcap,hfew,hfp⟩) Z Z ?_
 rw[hok]
 rintro _ w3 ⟨rfl,hb⟩;replace H:=H.later hb;clear hb
 refine G (Wi Z)<|U<|W<|Zr<|G (Yi Z)<|G (bX Z Z Z)<|U<|ZF Z<|Zk<|W<|W<|Zr<|G (Zf cO Z)<|G (Zd dL H 1 Z Z Z)<|G (bn lf Z)<|G (Yi Z)<|U<|Zb ?_
 refine cf (τ:=Nat×Nat) [1,4,5,7,10,11,21,22,23,24,25,26,27,28,29,30,31,32,33,34,35,36,37,38,39,40,41,42,43,44,45,46,47,48,49,50,51,52] (fun(k,m)=>[(21,J (k:Nat)),(1,J (m:Nat))]) (fun(k,m) w'=>k<=txs.length/\m<=1000/\(txs.filter gQ)[n]? =((txs.drop k).filter gQ)[m]? /\Hp w w' [(b6,.cells (.agg #[J 0,J 0,J 0,J 0,J 0,.bool false,.string ⟨#[]⟩]:Value).cells dh (0,0)),(b2,.cells #[J (ck),J (nx),J (wt),.slice cA txs.length cc] bf (0,0))] [dG rx 0 w.heap.size cA txs,iE 0 w.heap.size txs]) (fun(k,_)=>txs.length-k) (0,n) ⟨by omega,hn,by rw[lY],H⟩ (kZ Z Z) ?_
 rintro⟨k,m⟩ ρ1 w4 ⟨hk,hm1,hm,H⟩
 show CW _ _ _ _ (dv (gk _ _ ρ1) [(21,J (k:Nat)),(1,J (m:Nat))]) w4
 refine W<|Zr ?_
 refine cR (cG Z Z) Z Z Z (fun h22=> ?_) (fun h22=> ?_)
 refine U<|W<|ZT Z<|Zk<|W<|Zb<|W ?_
 obtain⟨x,hxk⟩: ∃ x,txs[k]? =some x:=⟨_,ah I⟩
 refine Zr<|pK H 0 Z gH Z Z I I Z fun b5 o5 x5 e5=> ?_
 obtain rfl:x=x5:=by have:=e5.at_;rw[hxk]at this;exact bB this
 refine G (jd (xs:=Tx.c x) zh Z Z e5.cl)<|eC H Hx Z fun w6 b10 H=>bl H 0 (#[.string (x.name),J (x.pid),J (x.ver),J (x.state),.slice x.A x.parts.length x.cap,J (x.since),J (x.done)]) HD Z Z Z Z Z N N fun w7 H=>U<|W<|W<|Zr<|G (Zf cS Z)<|G (Zd aj H 0 Z Z Z) ?_
 refine qU (i6 Z Z) Z Z Z (fun h27=> ?_) (fun h27=> ?_)
 refine G (Yb Z)<|ZG<|G (Zf cS Z)<|ZG<|G (Zd aj H 0 Z Z Z)<|ZG ?_
 refine qU (i6 Z Z) Z Z Z (fun h31=> ?_) (fun h31=> ?_)
 refine G (Kt Z Z)<|U<|ZT Z<|Zx<|Zr<|G (bp Z Z I I)<|G (Yi Z)<|U ?_
 have hen:gQ x=false:=by unfold gQ;rw[decide_eq_false I,decide_eq_false I];rfl
 refine⟨(k+1,m),⟨by omega,hm1,by rw[hm];exact KP hxk hen,H.forget (.cons _ (ap _)) (fun _ h=>h)⟩,kZ Z Z,Qg,by show txs.length- (k+1)<txs.length-k;omega⟩
 refine G (Kt Z Z)<|U<|ZF Z<|Zk<|W<|W ?_
 have hen:gQ x=true:=by unfold gQ;simp;omega
 have hxo:fG ck nx x=true:=uf q7 x (ae hxk)
 obtain⟨a1,a2,a3,a4,a5,a6,a7,a8,a9,a10,a11⟩:=cB.1 hxo
 have hpl:x.parts.length≠0:=fun h=>by have:=a11.2 h;unfold gQ at hen;simp[this]at hen
 refine Zr<|G (Yi Z) ?_
 refine cR (bh Z Z) Z Z Z (fun h34=> ?_) (fun h34=> ?_)
 obtain rfl:m=0:=by omega
 have hnth:gZ txs n=some x:=by unfold gZ;rw[hm];exact HO hxk hen
 obtain⟨p0,hp0⟩: ∃ p,x.parts[0]? =some p:=⟨_,ah I⟩
 refine U<|ZT Z<|W<|Zr<|G (Wi Z)<|U<|W<|W<|Zr<|G (Zf cS Z)<|G (Zd aj H 0 Z Z Z) ?_
 refine cR (bh Z Z) Z Z Z (fun h37=> ?_) (fun h37=> ?_)
 refine U<|ZT Z<|Zr<|G (Wi Z)<|U<|W ?_
 replace H:=Hp.partRow H 1 Z (ae hxk)
 refine bD bZ [0,1,2,3,4,5,6,7,8,9,10,11,12,13] [14,15] [] [0,2,4,6,8,10,11,12,13] (sp []) N N N N Nq (cI _) ?_
 refine aw Z Z Z Z Z (fun w' hw'=>Zf om Z)<|aw Z Z Z Z Z (fun w' hw'=>aV ba Z (aB ((H.later hw').ent (i:=0) Z) Z))<|aw Z Z Z Z Z (fun w' hw'=>Zf dy Z)<|aw Z Z Z Z Z (fun w' hw'=>aV cr Z (aB ((H.later hw').ent (i:=0) Z) Z))<|qg (k:=0) H 0 Z Z Z Z Z aZ Z Z I I fun b8 o8 x8 e8=> ?_
 obtain rfl:p0=x8:=by have:=e8.at_;rw[hp0]at this;exact bB this
 refine aw Z Z Z Z Z (fun w' hw'=>aV aj Z (e8.later hw' 0 _ Z))<|aw Z Z Z Z Z (fun w' hw'=>Zf li Z)<|aw Z Z Z Z Z (fun w' hw'=>aV aj Z (aB ((H.later hw').ent (i:=0) Z) Z))<|aw Z Z Z Z Z (fun w' hw'=>Zf gx Z)<|aw Z Z Z Z Z (fun w' hw'=>aV aj Z (aB ((H.later hw').ent (i:=0) Z) Z))<|aw Z Z Z Z Z (fun w' hw'=>Yi Z)<|aw Z Z Z Z Z (fun w' hw'=>bj (cs:= #[J (0),J (x.pid),J (x.ver),J (0),J (3),.bool (true),.string (⟨#[]⟩)]) nW fU N)<|aw Z Z Z Z Z (fun w' hw'=>Wt Z)<|aw Z Z Z Z Z (fun w' hw'=>Wi Z)<|aU ?_
 intro w9 hw' hF
 replace H:=H.later hw';clear hw' hF
 refine bl H 1 (#[J (0),J (x.pid),J (x.ver),J (0),J (3),.bool (true),.string (⟨#[]⟩)]) eM Z Z Z Z Z N N fun w10 H=>G (Wi Z)<|U<|Zt ?_
 rw[hnth]
 have hk2:(if x.state=4 then(3:Int)else 2)=3:=by rw[if_pos I]
 have hh:x.parts.headD 0=p0:=by rw[m6,pb,hp0];rfl
 exact wO (v0:=.string x.name) (v1:=J p0) (cs2:= #[J 0,J x.pid,J x.ver,J 0,J 3,.bool true,.string ⟨#[]⟩]) (v3:=J 0) Z Z Z dB Z (H.ent (i:=1) Z) Z Z ⟨by unfold ym zZ;dsimp only;rw[hk2,hh],H.below⟩
 refine U<|ZF Z<|Zk<|W ?_
 replace H:=Hp.partRow H 1 Z (ae hxk)
 refine bD bZ [0,1,2,3,4,5,6,7,8,9,10,11,12,13] [14,15] [] [0,2,4,6,8,10,11,12,13] (sp []) N N N N Nq (cI _) ?_
 refine aw Z Z Z Z Z (fun w' hw'=>Zf om Z)<|aw Z Z Z Z Z (fun w' hw'=>aV ba Z (aB ((H.later hw').ent (i:=0) Z) Z))<|aw Z Z Z Z Z (fun w' hw'=>Zf dy Z)<|aw Z Z Z Z Z (fun w' hw'=>aV cr Z (aB ((H.later hw').ent (i:=0) Z) Z))<|qg (k:=0) H 0 Z Z Z Z Z aZ Z Z I I fun b11 o11 x11 e11=> ?_
 obtain rfl:p0=x11:=by have:=e11.at_;rw[hp0]at this;exact bB this
 refine aw Z Z Z Z Z (fun w' hw'=>aV aj Z (e11.later hw' 0 _ Z))<|aw Z Z Z Z Z (fun w' hw'=>Zf li Z)<|aw Z Z Z Z Z (fun w' hw'=>aV aj Z (aB ((H.later hw').ent (i:=0) Z) Z))<|aw Z Z Z Z Z (fun w' hw'=>Zf gx Z)<|aw Z Z Z Z Z (fun w' hw'=>aV aj Z (aB ((H.later hw').ent (i:=0) Z) Z))<|aw Z Z Z Z Z (fun w' hw'=>Yi Z)<|aw Z Z Z Z Z (fun w' hw'=>bj (cs:= #[J (0),J (x.pid),J (x.ver),J (0),J (2),.bool (true),.string (⟨#[]⟩)]) nW fU N)<|aw Z Z Z Z Z (fun w' hw'=>Wt Z)<|aw Z Z Z Z Z (fun w' hw'=>Wi Z)<|aU ?_
 intro w12 hw' hF
 replace H:=H.later hw';clear hw' hF
 refine bl H 1 (#[J (0),J (x.pid),J (x.ver),J (0),J (2),.bool (true),.string (⟨#[]⟩)]) eM Z Z Z Z Z N N fun w13 H=>G (Wi Z)<|U<|Zt ?_
 rw[hnth]
 have hk2:(if x.state=4 then(3:Int)else 2)=2:=by rw[if_neg I]
 have hh:x.parts.headD 0=p0:=by rw[m6,pb,hp0];rfl
 exact wO (v0:=.string x.name) (v1:=J p0) (cs2:= #[J 0,J x.pid,J x.ver,J 0,J 2,.bool true,.string ⟨#[]⟩]) (v3:=J 0) Z Z Z dB Z (H.ent (i:=1) Z) Z Z ⟨by unfold ym zZ;dsimp only;rw[hk2,hh],H.below⟩
 refine U<|ZF Z<|Zk<|Zr<|G (Yi Z)<|G (mX Z Z I I)<|G (Wi Z)<|U<|Zr<|G (bp Z Z I I)<|G (Yi Z)<|U ?_
 refine⟨(k+1,m-1),⟨by omega,by omega,by rw[hm];exact E5 hxk hen I,H.forget (.cons _ (ap _)) (fun _ h=>h)⟩,kZ Z (by show Value.int .i64 _=Value.int .i64 _;congr 1;omega),Qg,by show txs.length- (k+1)<txs.length-k;omega⟩
 refine G (Yb Z)<|ZN<|ZN<|ZN<|G (N Z Z)<|U<|ZF Z<|Zk<|W<|W ?_
 have hen:gQ x=true:=by unfold gQ;simp;omega
 have hxo:fG ck nx x=true:=uf q7 x (ae hxk)
 obtain⟨a1,a2,a3,a4,a5,a6,a7,a8,a9,a10,a11⟩:=cB.1 hxo
 have hpl:x.parts.length≠0:=fun h=>by have:=a11.2 h;unfold gQ at hen;simp[this]at hen
 refine Zr<|G (Yi Z) ?_
 refine cR (bh Z Z) Z Z Z (fun h34=> ?_) (fun h34=> ?_)
 obtain rfl:m=0:=by omega
 have hnth:gZ txs n=some x:=by unfold gZ;rw[hm];exact HO hxk hen
 obtain⟨p0,hp0⟩: ∃ p,x.parts[0]? =some p:=⟨_,ah I⟩
 refine U<|ZT Z<|W<|Zr<|G (Wi Z)<|U<|W<|W<|Zr<|G (Zf cS Z)<|G (Zd aj H 0 Z Z Z) ?_
 refine cR (bh Z Z) Z Z Z (fun h37=> ?_) (fun h37=> ?_)
 refine U<|ZT Z<|Zr<|G (Wi Z)<|U<|W ?_
 replace H:=Hp.partRow H 1 Z (ae hxk)
 refine bD bZ [0,1,2,3,4,5,6,7,8,9,10,11,12,13] [14,15] [] [0,2,4,6,8,10,11,12,13] (sp []) N N N N Nq (cI _) ?_
 refine aw Z Z Z Z Z (fun w' hw'=>Zf om Z)<|aw Z Z Z Z Z (fun w' hw'=>aV ba Z (aB ((H.later hw').ent (i:=0) Z) Z))<|aw Z Z Z Z Z (fun w' hw'=>Zf dy Z)<|aw Z Z Z Z Z (fun w' hw'=>aV cr Z (aB ((H.later hw').ent (i:=0) Z) Z))<|qg (k:=0) H 0 Z Z Z Z Z aZ Z Z I I fun b14 o14 x14 e14=> ?_
 obtain rfl:p0=x14:=by have:=e14.at_;rw[hp0]at this;exact bB this
 refine aw Z Z Z Z Z (fun w' hw'=>aV aj Z (e14.later hw' 0 _ Z))<|aw Z Z Z Z Z (fun w' hw'=>Zf li Z)<|aw Z Z Z Z Z (fun w' hw'=>aV aj Z (aB ((H.later hw').ent (i:=0) Z) Z))<|aw Z Z Z Z Z (fun w' hw'=>Zf gx Z)<|aw Z Z Z Z Z (fun w' hw'=>aV aj Z (aB ((H.later hw').ent (i:=0) Z) Z))<|aw Z Z Z Z Z (fun w' hw'=>Yi Z)<|aw Z Z Z Z Z (fun w' hw'=>bj (cs:= #[J (0),J (x.pid),J (x.ver),J (0),J (3),.bool (true),.string (⟨#[]⟩)]) nW fU N)<|aw Z Z Z Z Z (fun w' hw'=>Wt Z)<|aw Z Z Z Z Z (fun w' hw'=>Wi Z)<|aU ?_
 intro w15 hw' hF
 replace H:=H.later hw';clear hw' hF
 refine bl H 1 (#[J (0),J (x.pid),J (x.ver),J (0),J (3),.bool (true),.string (⟨#[]⟩)]) eM Z Z Z Z Z N N fun w16 H=>G (Wi Z)<|U<|Zt ?_
 rw[hnth]
 have hk2:(if x.state=4 then(3:Int)else 2)=3:=by rw[if_pos I]
 have hh:x.parts.headD 0=p0:=by rw[m6,pb,hp0];rfl
 exact wO (v0:=.string x.name) (v1:=J p0) (cs2:= #[J 0,J x.pid,J x.ver,J 0,J 3,.bool true,.string ⟨#[]⟩]) (v3:=J 0) Z Z Z dB Z (H.ent (i:=1) Z) Z Z ⟨by unfold ym zZ;dsimp only;rw[hk2,hh],H.below⟩
 refine U<|ZF Z<|Zk<|W ?_
 replace H:=Hp.partRow H 1 Z (ae hxk)
 refine bD bZ [0,1,2,3,4,5,6,7,8,9,10,11,12,13] [14,15] [] [0,2,4,6,8,10,11,12,13] (sp []) N N N N Nq (cI _) ?_
 refine aw Z Z Z Z Z (fun w' hw'=>Zf om Z)<|aw Z Z Z Z Z (fun w' hw'=>aV ba Z (aB ((H.later hw').ent (i:=0) Z) Z))<|aw Z Z Z Z Z (fun w' hw'=>Zf dy Z)<|aw Z Z Z Z Z (fun w' hw'=>aV cr Z (aB ((H.later hw').ent (i:=0) Z) Z))<|qg (k:=0) H 0 Z Z Z Z Z aZ Z Z I I fun b17 o17 x17 e17=> ?_
 obtain rfl:p0=x17:=by have:=e17.at_;rw[hp0]at this;exact bB this
 refine aw Z Z Z Z Z (fun w' hw'=>aV aj Z (e17.later hw' 0 _ Z))<|aw Z Z Z Z Z (fun w' hw'=>Zf li Z)<|aw Z Z Z Z Z (fun w' hw'=>aV aj Z (aB ((H.later hw').ent (i:=0) Z) Z))<|aw Z Z Z Z Z (fun w' hw'=>Zf gx Z)<|aw Z Z Z Z Z (fun w' hw'=>aV aj Z (aB ((H.later hw').ent (i:=0) Z) Z))<|aw Z Z Z Z Z (fun w' hw'=>Yi Z)<|aw Z Z Z Z Z (fun w' hw'=>bj (cs:= #[J (0),J (x.pid),J (x.ver),J (0),J (2),.bool (true),.string (⟨#[]⟩)]) nW fU N)<|aw Z Z Z Z Z (fun w' hw'=>Wt Z)<|aw Z Z Z Z Z (fun w' hw'=>Wi Z)<|aU ?_
 intro w18 hw' hF
 replace H:=H.later hw';clear hw' hF
 refine bl H 1 (#[J (0),J (x.pid),J (x.ver),J (0),J (2),.bool (true),.string (⟨#[]⟩)]) eM Z Z Z Z Z N N fun w19 H=>G (Wi Z)<|U<|Zt ?_
 rw[hnth]
 have hk2:(if x.state=4 then(3:Int)else 2)=2:=by rw[if_neg I]
 have hh:x.parts.headD 0=p0:=by rw[m6,pb,hp0];rfl
 exact wO (v0:=.string x.name) (v1:=J p0) (cs2:= #[J 0,J x.pid,J x.ver,J 0,J 2,.bool true,.string ⟨#[]⟩]) (v3:=J 0) Z Z Z dB Z (H.ent (i:=1) Z) Z Z ⟨by unfold ym zZ;dsimp only;rw[hk2,hh],H.below⟩
 refine U<|ZF Z<|Zk<|Zr<|G (Yi Z)<|G (mX Z Z I I)<|G (Wi Z)<|U<|Zr<|G (bp Z Z I I)<|G (Yi Z)<|U ?_
 refine⟨(k+1,m-1),⟨by omega,by omega,by rw[hm];exact E5 hxk hen I,H.forget (.cons _ (ap _)) (fun _ h=>h)⟩,kZ Z (by show Value.int .i64 _=Value.int .i64 _;congr 1;omega),Qg,by show txs.length- (k+1)<txs.length-k;omega⟩
 refine U<|W<|ZF Z<|Zx<|W<|Zr<|G (bj (cs:= #[J (0),J (0),J (0),J (0),J (0),.bool (false),.string (⟨#[]⟩)]) nW fU N)<|G (Wt Z)<|G (Wi Z)<|bl H 0 (#[J (0),J (0),J (0),J (0),J (0),.bool (false),.string (⟨#[]⟩)]) eM Z Z Z Z Z N N fun w20 H=>G (Wi Z)<|U<|Zt ?_
 rw[show gZ txs n=none by unfold gZ;rw[hm];exact MQ I]
 exact wO (v0:=.string ⟨#[]⟩) (v1:=J 0) (cs2:= #[J 0,J 0,J 0,J 0,J 0,.bool false,.string ⟨#[]⟩]) (v3:=J 15) Z Z Z dB Z (H.ent (i:=0) Z) Z Z ⟨rfl,H.below⟩
/-- P5.6: a part whose marker is kept -/
def gA (p:Int) (t:Tx):Tx:=if(t.parts.filter fun q=>decide (q≠p)).length=0 then{t with parts:=[],done:=t.state,state:=1}else{t with parts:=t.parts.filter fun q=>decide (q≠p)}
theorem DZ {p:Int} {t t':Tx} (h:t'.a=t.a):(gA p t').a=(gA p t).a:=by
 have e: ∀ t:Tx,(gA p t).a=gA p t.a:=fun t=>by
  unfold gA
  by_cases h:(t.parts.filter fun q=>decide (q≠p)).length=0
  rw[if_pos h,if_pos (show(t.a.parts.filter fun q=>decide (q≠p)).length=0 from h)];rfl
  rw[if_neg h,if_neg (show¬ (t.a.parts.filter fun q=>decide (q≠p)).length=0 from h)];rfl
 rw[e,e,h]
theorem He: ∀ {l:List Int} {p:Int} {j:Nat},l.Pairwise (· < ·)->l[j]? =some p->l.take j++l.drop (j+1)=l.filter fun q=>decide (q≠p)
 |[],_,_,_,h=>by cases h
 |x::l,p,0,hp,h=>by
  cases h
  obtain⟨h1,-⟩:=ek.1 hp
  rw[oH (by simp)]
  simp only[yG,kO,zl,lY]
  exact(jU.2 fun y hy=>decide_eq_true (by have:=h1 y hy;omega)).symm
 |x::l,p,j+1,hp,h=>by
  obtain⟨h1,h2⟩:=ek.1 hp
  have hm:p∈l:=ae (show l[j]? =some p from h)
  have:=h1 p hm
  rw[jZ (by simp;omega),<-He h2 (show l[j]? =some p from h)]
  rfl
theorem there {l:List Int} {p:Int} {i:Nat} (h2: ∀ k y,l[k]? =some y->i<=k->p<=y) (h1: ∀ k y,l[k]? =some y->k<i->y<p) (hp:l.Pairwise (· < ·)) (hm:p∈l):l[i]? =some p:=by
 obtain⟨k,hk⟩:=aK.1 hm
 by_cases hki:k<i
 have:=h1 k p hk hki;omega
 obtain⟨x,hx⟩: ∃ x,l[i]? =some x:=⟨_,ah (by have:=(cD hk).1;omega)⟩
 have h3:=rises hp hx hk I
 have h4:=h2 i x hx (ao _)
 rw[hx];congr 1;omega
theorem Nj (c:Co) (s:ByteArray) (p:Int) (i:Nat) (t:Tx) (w:World) (h:c.rd 0 w.heap.size w) (hok:gB c=true) (hn:bM s=true) (hi:fJ c s=i) (ht:c.txs[i]? =some t) (h34:t.state=3∨t.state=4) (hpm:p∈t.parts) (hpo:cT (-1) t.parts=true):dd aa wE [c.v,.string s,J p] w fun v w2=> ∃ (c':Co) (Lr Lp:List (Nat×Obj)),v=.tuple #[c'.v,J 0]/\qi w w2 (Co.a {c with txs:=c.txs.set i (gA p t)}) c' Lr Lp:=by
 refine aE BS Z Z ?_
 have hcap:=h.cap
 have hfew:=h.few
 have hfp:=h.fewP
 have H:=Hp.startCo h
 obtain⟨ck,nx,wt,txs,cA,cc⟩:=c
 dsimp only at hcap hfew hfp H
 show CW _ _ _ _ (args [.agg #[J ck,J nx,J wt,.slice cA txs.length cc],.string s,J p]) w
 dsimp only at ht⊢
 refine W<|Zr<|fS H Z Z fun w1 b3 H=>eC H cK Z fun w2 b6 H=>G (Wi Z)<|U<|W<|Zr<|G (Zw ax H 1 Z Z Z)<|G (Yt Z)<|cd ia (lG ⟨ck,nx,wt,txs,cA,cc⟩ s _ ⟨H.rd0 0 Z,fun t ht=>fu H 1 Z ht,hcap,hfew,hfp⟩ hok hn) Z Z ?_
 rintro _ w3 ⟨⟨ck2,nx2,wt2,tx2,A2,c2⟩,Lr,Lp,rfl,ha2,ho2,hp2,hoc2,hpc2,hj2⟩
 replace H:=H.joinR hj2;clear hj2
 simp only[Co.a,Co.mk.injEq]at ha2
 obtain⟨e1,e2,e3,hma,-,-⟩:=ha2
 obtain rfl:ck=ck2:=e1.symm
 obtain rfl:nx=nx2:=e2.symm
 obtain rfl:wt=wt2:=e3.symm
 dsimp only at ho2 hp2 hoc2 hpc2 H
 obtain⟨t2,ht2,hta⟩:=qT hma ht
 have hl2:=(cD ht2).1
 obtain⟨g,cur,rfl,rfl,row⟩:=ho2.row I
 have hst:t2.state=t.state:=by show t2.a.state=t.a.state;rw[hta]
 have hdn:t2.done=t.done:=by show t2.a.done=t.a.done;rw[hta]
 have hpt:t2.parts=t.parts:=by show t2.a.parts=t.a.parts;rw[hta]
 rw[hi]
 refine G (Yu Z)<|G (Xa Z Z)<|G (Xi Z Z)<|G (Xi Z Z)<|bl H 1 (#[J (ck),J (nx),J (wt),.slice (Qd g) tx2.length c2]) aF Z Z Z Z Z N N fun w4 H=>G (Wi Z)<|G (Wi Z)<|U<|W<|W<|Zr<|G (Yi Z)<|G (bX Z Z Z)<|U<|ZF Z<|Zk<|W<|W<|Zr<|G (Yi Z)<|G (cY Z Z I)<|U<|ZF Z<|Zk<|W<|Zr<|G (Zf cO Z)<|G (Zd dL H 1 Z Z Z)<|G (Yi Z)<|G (cC gH Z Z (by first|omega|(simp only[ab];omega)))<|G (Wp Z)<|U<|W<|W<|Zr<|G (Yp Z)<|G (aI Z)<|G (Zf cS Z)<|G (bQ aj row ht2 3 Z (H.ent (i:=2) Z) Z)<|G (i6 Z Z) ?_
 refine mq 35 Z (fun h35=> ?_) (fun h35=> ?_)
 refine G (Yb Z)<|ZG<|G (Yp Z)<|ZG<|G (aI Z)<|ZG<|G (Zf cS Z)<|ZG<|G (bQ aj row ht2 3 Z (H.ent (i:=2) Z) Z)<|ZG<|G (bX Z Z (by simp at h35;omega))<|G (Kt Z Z)<|U<|ZF Z<|Zk<|W ?_
 have hrise:=(fI hpo).1
 have hfw:=ml hpo
 rw[<-hpt]at hrise hfw hpm
 obtain⟨La,Lt,Lb,rfl,hot,hset⟩:=hp2.at_ ht2
 refine Zr<|G (Yp Z)<|G (aI Z)<|G (Zf dy Z)<|G (bQ cr row ht2 4 Z (H.ent (i:=2) Z) Z)<|G (Yi Z)<|cd d7 (qf t2.parts p t2.A t2.cap _ ((hot.rd (K:=[(b6,.cells #[J (0),J (0),J (0),.slice none 0 0] bf (0,0)),(b3,.cells #[J (ck),J (nx),J (wt),.slice (Qd g) tx2.length c2] bf (0,0)),(g,.cells cur dE (0,0))]++La) (M:=Lb) (vc [(b6,.cells #[J (0),J (0),J (0),.slice none 0 0] bf (0,0)),(b3,.cells #[J (ck),J (nx),J (wt),.slice (Qd g) tx2.length c2] bf (0,0)),(g,.cells cur dE (0,0))] La Lt Lb H)).mono (bA _) (ao _)) I hrise) Z Z ?_
 rintro _ w5 ⟨j,rfl,hjl,hj1,hj2,hb⟩;replace H:=H.later hb;clear hb
 have hjp:=there hj2 hj1 hrise hpm
 rw[show decide (t2.parts[j]? =some p)=true from decide_eq_true hjp]
 have hdl:=He hrise hjp
 have hjl2:=(cD hjp).1
 refine G (Yu Z)<|G (Xi Z Z)<|G (Xb Z Z)<|G (Wi Z)<|G (Wb Z)<|U<|W<|W<|Zr<|G (Yb Z)<|G (dO Z)<|U<|ZF Z<|Zk<|W<|Zr<|G (Yp Z)<|G (Yp Z)<|G (aI Z)<|G (Zf dy Z)<|G (bQ cr row ht2 4 Z (H.ent (i:=2) Z) Z)<|G (Yi Z)<|G (Yi Z)<|G (bp Z Z I I)<|cd kM (wP (K:=[(b6,.cells #[J (0),J (0),J (0),.slice none 0 0] bf (0,0)),(b3,.cells #[J (ck),J (nx),J (wt),.slice (Qd g) tx2.length c2] bf (0,0)),(g,.cells cur dE (0,0))]++La) (Lt:=Lt) (M:=Lb) (i:=j) (j:=j+1) (vc [(b6,.cells #[J (0),J (0),J (0),.slice none 0 0] bf (0,0)),(b3,.cells #[J (ck),J (nx),J (wt),.slice (Qd g) tx2.length c2] bf (0,0)),(g,.cells cur dE (0,0))] La Lt Lb H) hot I hjl2 I) Z Z ?_
 rintro _ w6 ⟨A9,c9,L9,rfl,ho9,HI⟩;replace H:Hp w w6 ([(b6,.cells #[J (0),J (0),J (0),.slice none 0 0] bf (0,0)),(b3,.cells #[J (ck),J (nx),J (wt),.slice (Qd g) tx2.length c2] bf (0,0)),(g,.cells cur dE (0,0))]++((La++L9++Lb)++[])) [dG rx 0 w.heap.size cA txs,iE 0 w.heap.size txs]:=Ao [(b6,.cells #[J (0),J (0),J (0),.slice none 0 0] bf (0,0)),(b3,.cells #[J (ck),J (nx),J (wt),.slice (Qd g) tx2.length c2] bf (0,0)),(g,.cells cur dE (0,0))] La L9 Lb HI
 have hc9:(t2.parts.take j++t2.parts.drop (j+1)).length<=c9:=by obtain⟨_,_,e,h,_⟩:=ho9.form;injection e with _ _ e;rw[e];exact h
 refine G (aI Z)<|G (Zf dy Z)<|kQ H 2 ({t2 with parts:=t2.parts.take j++t2.parts.drop (j+1),A:=A9,cap:=c9}) jF row ht2 4 Z Z Z Z Z Z N fun w8 cur7 row7 H=> ?_
 have hs9:(tx2.set i ({t2 with parts:=t2.parts.take j++t2.parts.drop (j+1),A:=A9,cap:=c9}))[i]? =some ({t2 with parts:=t2.parts.take j++t2.parts.drop (j+1),A:=A9,cap:=c9}):=am (cD ht2).1
 refine U<|W<|W<|Zr<|G (Yp Z)<|G (aI Z)<|G (Zf dy Z)<|G (bQ cr row7 hs9 4 Z (H.ent (i:=2) Z) Z)<|G (bn eF Z) ?_
 refine cR (bh Z Z) Z Z Z (fun h72=> ?_) (fun h72=> ?_)
 refine U<|ZT Z<|Zr<|G (Yp Z)<|G (Yp Z)<|G (Yp Z)<|G (aI Z)<|G (Zf cS Z)<|G (bQ aj row7 hs9 3 Z (H.ent (i:=2) Z) Z)<|G (aI Z)<|G (Zf cS Z)<|kQ H 2 ({({t2 with parts:=t2.parts.take j++t2.parts.drop (j+1),A:=A9,cap:=c9})with state:=1}) bI row7 hs9 3 Z Z Z Z Z Z N fun w11 cur10 row10 H=> ?_
 have hs12:((tx2.set i ({t2 with parts:=t2.parts.take j++t2.parts.drop (j+1),A:=A9,cap:=c9})).set i ({({t2 with parts:=t2.parts.take j++t2.parts.drop (j+1),A:=A9,cap:=c9})with state:=1}))[i]? =some ({({t2 with parts:=t2.parts.take j++t2.parts.drop (j+1),A:=A9,cap:=c9})with state:=1}):=am (cD hs9).1
 refine G (aI Z)<|G (Zf jg Z)<|kQ H 2 ({({({t2 with parts:=t2.parts.take j++t2.parts.drop (j+1),A:=A9,cap:=c9})with state:=1})with done:=({t2 with parts:=t2.parts.take j++t2.parts.drop (j+1),A:=A9,cap:=c9}).state}) bI row10 hs12 6 Z Z Z Z Z Z N fun w14 cur13 row13 H=> ?_
 have hs15:(((tx2.set i ({t2 with parts:=t2.parts.take j++t2.parts.drop (j+1),A:=A9,cap:=c9})).set i ({({t2 with parts:=t2.parts.take j++t2.parts.drop (j+1),A:=A9,cap:=c9})with state:=1})).set i ({({({t2 with parts:=t2.parts.take j++t2.parts.drop (j+1),A:=A9,cap:=c9})with state:=1})with done:=({t2 with parts:=t2.parts.take j++t2.parts.drop (j+1),A:=A9,cap:=c9}).state}))[i]? =some ({({({t2 with parts:=t2.parts.take j++t2.parts.drop (j+1),A:=A9,cap:=c9})with state:=1})with done:=({t2 with parts:=t2.parts.take j++t2.parts.drop (j+1),A:=A9,cap:=c9}).state}):=am (cD hs12).1
 refine U<|W<|Zr<|G (Zw ax H 1 Z Z Z)<|bl H 0 (#[J (ck),J (nx),J (wt),.slice (Qd g) tx2.length c2]) aF Z Z Z Z Z N N fun w16 H=>G (Wi Z)<|U<|Zt ?_
 have h72b:((t2.parts.take j++t2.parts.drop (j+1)).length:Int)=0:=h72
 have hX:Tx.a ({t2 with parts:=t2.parts.take j++t2.parts.drop (j+1),A:=A9,cap:=c9,done:=t2.state,state:=1})=(gA p t).a:=by rw[<-DZ hta];unfold gA;rw[<-hdl];rw[if_pos I,bU (show(t2.parts.take j++t2.parts.drop (j+1)).length=0 by omega)];rfl
 have hrow:dU rx (tx2.set i ({t2 with parts:=t2.parts.take j++t2.parts.drop (j+1),A:=A9,cap:=c9,done:=t2.state,state:=1})) c2 cur13:=by have hr:=row13;simp only[fo]at hr;exact hr
 exact bG (cs0:= #[J ck,J nx,J wt,.slice (Qd g) tx2.length c2]) (v1:=J 0) Z ax Z (H.ent (i:=0) Z) Z Z ⟨⟨ck,nx,wt,tx2.set i ({t2 with parts:=t2.parts.take j++t2.parts.drop (j+1),A:=A9,cap:=c9,done:=t2.state,state:=1}),some ⟨g,0,none⟩,c2⟩,[(g,.cells cur13 dE (0,0))],(La++L9++Lb),by unfold Co.v Co.c;dsimp only;rw[ab],by unfold Co.a;dsimp only;rw[oW hma i hX],dU.own hrow,hset {t2 with parts:=t2.parts.take j++t2.parts.drop (j+1),A:=A9,cap:=c9,done:=t2.state,state:=1} L9 ho9,by dsimp only;rw[ab];exact hoc2,jO hpc2 i (by exact hc9),H.forget (.cons _ (.cons _ (aC _ _))) (by simp)⟩
 refine U<|ZF Z<|Zk<|W<|Zr<|G (Zw ax H 1 Z Z Z)<|bl H 0 (#[J (ck),J (nx),J (wt),.slice (Qd g) tx2.length c2]) aF Z Z Z Z Z N N fun w17 H=>G (Wi Z)<|U<|Zt ?_
 have h72b: ¬ ((t2.parts.take j++t2.parts.drop (j+1)).length:Int)=0:=h72
 have hX:Tx.a ({t2 with parts:=t2.parts.take j++t2.parts.drop (j+1),A:=A9,cap:=c9})=(gA p t).a:=by rw[<-DZ hta];unfold gA;rw[<-hdl];rw[if_neg I];rfl
 have hrow:dU rx (tx2.set i ({t2 with parts:=t2.parts.take j++t2.parts.drop (j+1),A:=A9,cap:=c9})) c2 cur7:=by exact row7
 exact bG (cs0:= #[J ck,J nx,J wt,.slice (Qd g) tx2.length c2]) (v1:=J 0) Z ax Z (H.ent (i:=0) Z) Z Z ⟨⟨ck,nx,wt,tx2.set i ({t2 with parts:=t2.parts.take j++t2.parts.drop (j+1),A:=A9,cap:=c9}),some ⟨g,0,none⟩,c2⟩,[(g,.cells cur7 dE (0,0))],(La++L9++Lb),by unfold Co.v Co.c;dsimp only;rw[ab],by unfold Co.a;dsimp only;rw[oW hma i hX],dU.own hrow,hset {t2 with parts:=t2.parts.take j++t2.parts.drop (j+1),A:=A9,cap:=c9} L9 ho9,by dsimp only;rw[ab];exact hoc2,jO hpc2 i (by exact hc9),H.forget (.cons _ (.cons _ (aC _ _))) (by simp)⟩
 refine G (Yb Z)<|ZN<|ZN<|ZN<|ZN<|ZN<|G (N Z Z)<|U<|ZF Z<|Zk<|W ?_
 have hrise:=(fI hpo).1
 have hfw:=ml hpo
 rw[<-hpt]at hrise hfw hpm
 obtain⟨La,Lt,Lb,rfl,hot,hset⟩:=hp2.at_ ht2
 refine Zr<|G (Yp Z)<|G (aI Z)<|G (Zf dy Z)<|G (bQ cr row ht2 4 Z (H.ent (i:=2) Z) Z)<|G (Yi Z)<|cd d7 (qf t2.parts p t2.A t2.cap _ ((hot.rd (K:=[(b6,.cells #[J (0),J (0),J (0),.slice none 0 0] bf (0,0)),(b3,.cells #[J (ck),J (nx),J (wt),.slice (Qd g) tx2.length c2] bf (0,0)),(g,.cells cur dE (0,0))]++La) (M:=Lb) (vc [(b6,.cells #[J (0),J (0),J (0),.slice none 0 0] bf (0,0)),(b3,.cells #[J (ck),J (nx),J (wt),.slice (Qd g) tx2.length c2] bf (0,0)),(g,.cells cur dE (0,0))] La Lt Lb H)).mono (bA _) (ao _)) I hrise) Z Z ?_
 rintro _ w18 ⟨j,rfl,hjl,hj1,hj2,hb⟩;replace H:=H.later hb;clear hb
 have hjp:=there hj2 hj1 hrise hpm
 rw[show decide (t2.parts[j]? =some p)=true from decide_eq_true hjp]
 have hdl:=He hrise hjp
 have hjl2:=(cD hjp).1
 refine G (Yu Z)<|G (Xi Z Z)<|G (Xb Z Z)<|G (Wi Z)<|G (Wb Z)<|U<|W<|W<|Zr<|G (Yb Z)<|G (dO Z)<|U<|ZF Z<|Zk<|W<|Zr<|G (Yp Z)<|G (Yp Z)<|G (aI Z)<|G (Zf dy Z)<|G (bQ cr row ht2 4 Z (H.ent (i:=2) Z) Z)<|G (Yi Z)<|G (Yi Z)<|G (bp Z Z I I)<|cd kM (wP (K:=[(b6,.cells #[J (0),J (0),J (0),.slice none 0 0] bf (0,0)),(b3,.cells #[J (ck),J (nx),J (wt),.slice (Qd g) tx2.length c2] bf (0,0)),(g,.cells cur dE (0,0))]++La) (Lt:=Lt) (M:=Lb) (i:=j) (j:=j+1) (vc [(b6,.cells #[J (0),J (0),J (0),.slice none 0 0] bf (0,0)),(b3,.cells #[J (ck),J (nx),J (wt),.slice (Qd g) tx2.length c2] bf (0,0)),(g,.cells cur dE (0,0))] La Lt Lb H) hot I hjl2 I) Z Z ?_
 rintro _ w19 ⟨A9,c9,L9,rfl,ho9,HI⟩;replace H:Hp w w19 ([(b6,.cells #[J (0),J (0),J (0),.slice none 0 0] bf (0,0)),(b3,.cells #[J (ck),J (nx),J (wt),.slice (Qd g) tx2.length c2] bf (0,0)),(g,.cells cur dE (0,0))]++((La++L9++Lb)++[])) [dG rx 0 w.heap.size cA txs,iE 0 w.heap.size txs]:=Ao [(b6,.cells #[J (0),J (0),J (0),.slice none 0 0] bf (0,0)),(b3,.cells #[J (ck),J (nx),J (wt),.slice (Qd g) tx2.length c2] bf (0,0)),(g,.cells cur dE (0,0))] La L9 Lb HI
 have hc9:(t2.parts.take j++t2.parts.drop (j+1)).length<=c9:=by obtain⟨_,_,e,h,_⟩:=ho9.form;injection e with _ _ e;rw[e];exact h
 refine G (aI Z)<|G (Zf dy Z)<|kQ H 2 ({t2 with parts:=t2.parts.take j++t2.parts.drop (j+1),A:=A9,cap:=c9}) jF row ht2 4 Z Z Z Z Z Z N fun w21 cur20 row20 H=> ?_
 have hs22:(tx2.set i ({t2 with parts:=t2.parts.take j++t2.parts.drop (j+1),A:=A9,cap:=c9}))[i]? =some ({t2 with parts:=t2.parts.take j++t2.parts.drop (j+1),A:=A9,cap:=c9}):=am (cD ht2).1
 refine U<|W<|W<|Zr<|G (Yp Z)<|G (aI Z)<|G (Zf dy Z)<|G (bQ cr row20 hs22 4 Z (H.ent (i:=2) Z) Z)<|G (bn eF Z) ?_
 refine cR (bh Z Z) Z Z Z (fun h72=> ?_) (fun h72=> ?_)
 refine U<|ZT Z<|Zr<|G (Yp Z)<|G (Yp Z)<|G (Yp Z)<|G (aI Z)<|G (Zf cS Z)<|G (bQ aj row20 hs22 3 Z (H.ent (i:=2) Z) Z)<|G (aI Z)<|G (Zf cS Z)<|kQ H 2 ({({t2 with parts:=t2.parts.take j++t2.parts.drop (j+1),A:=A9,cap:=c9})with state:=1}) bI row20 hs22 3 Z Z Z Z Z Z N fun w24 cur23 row23 H=> ?_
 have hs25:((tx2.set i ({t2 with parts:=t2.parts.take j++t2.parts.drop (j+1),A:=A9,cap:=c9})).set i ({({t2 with parts:=t2.parts.take j++t2.parts.drop (j+1),A:=A9,cap:=c9})with state:=1}))[i]? =some ({({t2 with parts:=t2.parts.take j++t2.parts.drop (j+1),A:=A9,cap:=c9})with state:=1}):=am (cD hs22).1
 refine G (aI Z)<|G (Zf jg Z)<|kQ H 2 ({({({t2 with parts:=t2.parts.take j++t2.parts.drop (j+1),A:=A9,cap:=c9})with state:=1})with done:=({t2 with parts:=t2.parts.take j++t2.parts.drop (j+1),A:=A9,cap:=c9}).state}) bI row23 hs25 6 Z Z Z Z Z Z N fun w27 cur26 row26 H=> ?_
 have hs28:(((tx2.set i ({t2 with parts:=t2.parts.take j++t2.parts.drop (j+1),A:=A9,cap:=c9})).set i ({({t2 with parts:=t2.parts.take j++t2.parts.drop (j+1),A:=A9,cap:=c9})with state:=1})).set i ({({({t2 with parts:=t2.parts.take j++t2.parts.drop (j+1),A:=A9,cap:=c9})with state:=1})with done:=({t2 with parts:=t2.parts.take j++t2.parts.drop (j+1),A:=A9,cap:=c9}).state}))[i]? =some ({({({t2 with parts:=t2.parts.take j++t2.parts.drop (j+1),A:=A9,cap:=c9})with state:=1})with done:=({t2 with parts:=t2.parts.take j++t2.parts.drop (j+1),A:=A9,cap:=c9}).state}):=am (cD hs25).1
 refine U<|W<|Zr<|G (Zw ax H 1 Z Z Z)<|bl H 0 (#[J (ck),J (nx),J (wt),.slice (Qd g) tx2.length c2]) aF Z Z Z Z Z N N fun w29 H=>G (Wi Z)<|U<|Zt ?_
 have h72b:((t2.parts.take j++t2.parts.drop (j+1)).length:Int)=0:=h72
 have hX:Tx.a ({t2 with parts:=t2.parts.take j++t2.parts.drop (j+1),A:=A9,cap:=c9,done:=t2.state,state:=1})=(gA p t).a:=by rw[<-DZ hta];unfold gA;rw[<-hdl];rw[if_pos I,bU (show(t2.parts.take j++t2.parts.drop (j+1)).length=0 by omega)];rfl
 have hrow:dU rx (tx2.set i ({t2 with parts:=t2.parts.take j++t2.parts.drop (j+1),A:=A9,cap:=c9,done:=t2.state,state:=1})) c2 cur26:=by have hr:=row26;simp only[fo]at hr;exact hr
 exact bG (cs0:= #[J ck,J nx,J wt,.slice (Qd g) tx2.length c2]) (v1:=J 0) Z ax Z (H.ent (i:=0) Z) Z Z ⟨⟨ck,nx,wt,tx2.set i ({t2 with parts:=t2.parts.take j++t2.parts.drop (j+1),A:=A9,cap:=c9,done:=t2.state,state:=1}),some ⟨g,0,none⟩,c2⟩,[(g,.cells cur26 dE (0,0))],(La++L9++Lb),by unfold Co.v Co.c;dsimp only;rw[ab],by unfold Co.a;dsimp only;rw[oW hma i hX],dU.own hrow,hset {t2 with parts:=t2.parts.take j++t2.parts.drop (j+1),A:=A9,cap:=c9,done:=t2.state,state:=1} L9 ho9,by dsimp only;rw[ab];exact hoc2,jO hpc2 i (by exact hc9),H.forget (.cons _ (.cons _ (aC _ _))) (by simp)⟩
 refine U<|ZF Z<|Zk<|W<|Zr<|G (Zw ax H 1 Z Z Z)<|bl H 0 (#[J (ck),J (nx),J (wt),.slice (Qd g) tx2.length c2]) aF Z Z Z Z Z N N fun w30 H=>G (Wi Z)<|U<|Zt ?_
 have h72b: ¬ ((t2.parts.take j++t2.parts.drop (j+1)).length:Int)=0:=h72
 have hX:Tx.a ({t2 with parts:=t2.parts.take j++t2.parts.drop (j+1),A:=A9,cap:=c9})=(gA p t).a:=by rw[<-DZ hta];unfold gA;rw[<-hdl];rw[if_neg I];rfl
 have hrow:dU rx (tx2.set i ({t2 with parts:=t2.parts.take j++t2.parts.drop (j+1),A:=A9,cap:=c9})) c2 cur20:=by exact row20
 exact bG (cs0:= #[J ck,J nx,J wt,.slice (Qd g) tx2.length c2]) (v1:=J 0) Z ax Z (H.ent (i:=0) Z) Z Z ⟨⟨ck,nx,wt,tx2.set i ({t2 with parts:=t2.parts.take j++t2.parts.drop (j+1),A:=A9,cap:=c9}),some ⟨g,0,none⟩,c2⟩,[(g,.cells cur20 dE (0,0))],(La++L9++Lb),by unfold Co.v Co.c;dsimp only;rw[ab],by unfold Co.a;dsimp only;rw[oW hma i hX],dU.own hrow,hset {t2 with parts:=t2.parts.take j++t2.parts.drop (j+1),A:=A9,cap:=c9} L9 ho9,by dsimp only;rw[ab];exact hoc2,jO hpc2 i (by exact hc9),H.forget (.cons _ (.cons _ (aC _ _))) (by simp)⟩
theorem GX (c:Co) (s:ByteArray) (i:Nat) (t:Tx) (w:World) (h:c.rd 0 w.heap.size w) (hok:gB c=true) (hn:bM s=true) (hi:fJ c s=i) (ht:c.txs[i]? =some t) (h34:t.state=3∨t.state=4):dd aa mu [c.v,.string s] w fun v w2=>v=.tuple #[.agg #[J 0,J 0,J 0,.slice none 0 0],J 0,J 0,J 12]/\Below w.heap.size w w2:=by
 refine aE nQ Z Z ?_
 have hcap:=h.cap
 have hfew:=h.few
 have hfp:=h.fewP
 have H:=Hp.startCo h
 obtain⟨ck,nx,wt,txs,cA,cc⟩:=c
 dsimp only at hcap hfew hfp H
 show CW _ _ _ _ (args [.agg #[J ck,J nx,J wt,.slice cA txs.length cc],.string s]) w
 dsimp only at ht
 refine W<|Zr<|fS H Z Z fun w1 b2 H=>eC H cK Z fun w2 b4 H=>G (Wi Z)<|G (Wi Z)<|G (Wi Z)<|U<|W<|Zr<|G (Zw ax H 1 Z Z Z)<|G (Yt Z)<|cd ia (lG ⟨ck,nx,wt,txs,cA,cc⟩ s _ ⟨H.rd0 0 Z,fun t ht=>fu H 1 Z ht,hcap,hfew,hfp⟩ hok hn) Z Z ?_
 rintro _ w3 ⟨⟨ck2,nx2,wt2,tx2,A2,c2⟩,Lr,Lp,rfl,ha2,ho2,hp2,hoc2,hpc2,hj2⟩
 replace H:=H.joinR hj2;clear hj2
 simp only[Co.a,Co.mk.injEq]at ha2
 obtain⟨e1,e2,e3,hma,-,-⟩:=ha2
 obtain rfl:ck=ck2:=e1.symm
 obtain rfl:nx=nx2:=e2.symm
 obtain rfl:wt=wt2:=e3.symm
 dsimp only at ho2 hp2 hoc2 hpc2 H
 obtain⟨t2,ht2,hta⟩:=qT hma ht
 have hl2:=(cD ht2).1
 obtain⟨g,cur,rfl,rfl,row⟩:=ho2.row I
 have hst:t2.state=t.state:=by show t2.a.state=t.a.state;rw[hta]
 have hdn:t2.done=t.done:=by show t2.a.done=t.a.done;rw[hta]
 have hpt:t2.parts=t.parts:=by show t2.a.parts=t.a.parts;rw[hta]
 rw[hi]
 refine G (Yu Z)<|G (Xa Z Z)<|G (Xi Z Z)<|G (Xi Z Z)<|bl H 1 (#[J (ck),J (nx),J (wt),.slice (Qd g) tx2.length c2]) aF Z Z Z Z Z N N fun w4 H=>G (Wi Z)<|G (Wi Z)<|U<|W<|W<|Zr<|G (Yi Z)<|G (bX Z Z Z)<|U<|ZF Z<|Zk<|W<|W<|Zr<|G (Yi Z)<|G (cY Z Z I)<|U<|ZF Z<|Zk<|W<|Zr<|G (Zf cO Z)<|G (Zd dL H 1 Z Z Z)<|G (Yi Z)<|G (cC gH Z Z (by first|omega|(simp only[ab];omega)))<|G (Wp Z)<|U<|W<|Zb<|W<|Zr<|G (Yp Z)<|G (aI Z)<|G (Zf cS Z)<|G (bQ aj row ht2 3 Z (H.ent (i:=2) Z) Z) ?_
 refine cR (bh Z Z) Z Z Z (fun h60=> ?_) (fun h60=> ?_)
 refine G (Yb Z)<|ZN<|ZN<|ZN<|ZN<|ZN<|G (Kt Z Z)<|G (Wb Z)<|U<|ZT Z<|W<|Zr<|G (bj (cs:= #[J (0),J (0),J (0),.slice none 0 0]) fx cK N)<|bl H 0 (#[J (0),J (0),J (0),.slice none 0 0]) aF Z Z Z Z Z N N fun w5 H=>G (Wi Z)<|G (Wi Z)<|G (Wi Z)<|U<|Zt ?_
 exact mB (cs0:= #[J 0,J 0,J 0,.slice none 0 0]) (v1:=J 0) (v2:=J 0) (v3:=J 12) Z ax Z (H.ent (i:=0) Z) Z Z Z Z ⟨rfl,H.below⟩
 refine G (Yb Z)<|ZG<|G (Yp Z)<|ZG<|G (aI Z)<|ZG<|G (Zf cS Z)<|ZG<|G (bQ aj row ht2 3 Z (H.ent (i:=2) Z) Z)<|ZG<|G (tV Z Z I)<|G (N Z Z)<|G (Wb Z)<|U<|ZT Z<|W<|Zr<|G (bj (cs:= #[J (0),J (0),J (0),.slice none 0 0]) fx cK N)<|bl H 0 (#[J (0),J (0),J (0),.slice none 0 0]) aF Z Z Z Z Z N N fun w6 H=>G (Wi Z)<|G (Wi Z)<|G (Wi Z)<|U<|Zt ?_
 exact mB (cs0:= #[J 0,J 0,J 0,.slice none 0 0]) (v1:=J 0) (v2:=J 0) (v3:=J 12) Z ax Z (H.ent (i:=0) Z) Z Z Z Z ⟨rfl,H.below⟩
theorem LJ (c:Co) (s:ByteArray) (ver:Int) (b:Bool) (w:World) (h:c.rd 0 w.heap.size w) (hok:gB c=true) (hn:bM s=true) (hi:fJ c s= -1):dd aa lO [c.v,.string s,J ver,.bool b] w fun v w2=>v=.tuple #[.agg #[J 0,J 0,J 0,.slice none 0 0],J 5]/\Below w.heap.size w w2:=by
 refine aE pE Z Z ?_
 have hcap:=h.cap
 have hfew:=h.few
 have hfp:=h.fewP
 have H:=Hp.startCo h
 obtain⟨ck,nx,wt,txs,cA,cc⟩:=c
 dsimp only at hcap hfew hfp H
 show CW _ _ _ _ (args [.agg #[J ck,J nx,J wt,.slice cA txs.length cc],.string s,J ver,.bool b]) w
 refine W<|Zr<|fS H Z Z fun w1 b4 H=>eC H cK Z fun w2 b8 H=>G (Wi Z)<|U<|W<|Zr<|G (Zw ax H 1 Z Z Z)<|G (Yt Z)<|G (Yi Z)<|cd gC (z9 ⟨ck,nx,wt,txs,cA,cc⟩ s ver _ ⟨H.rd0 0 Z,fun t ht=>fu H 1 Z ht,hcap,hfew,hfp⟩ hok hn hi) Z Z ?_
 rintro _ w3 ⟨rfl,hb⟩;replace H:=H.later hb;clear hb
 refine G (Yu Z)<|G (Xa Z Z)<|G (Xi Z Z)<|G (Xi Z Z)<|bl H 1 (#[J (0),J (0),J (0),.slice none 0 0]) aF Z Z Z Z Z N N fun w4 H=>G (Wi Z)<|G (Wi Z)<|U<|W<|W<|Zr<|G (Yi Z)<|G (j9 Z Z (by decide))<|U<|ZT Z<|W<|Zr<|G (bj (cs:= #[J (0),J (0),J (0),.slice none 0 0]) fx cK N)<|G (Yi Z)<|bl H 0 (#[J (0),J (0),J (0),.slice none 0 0]) aF Z Z Z Z Z N N fun w5 H=>G (Wi Z)<|U<|Zt ?_
 exact bG (cs0:= #[J 0,J 0,J 0,.slice none 0 0]) (v1:=J 5) Z ax Z (H.ent (i:=0) Z) Z Z ⟨rfl,H.below⟩
theorem Jr (c:Co) (s:ByteArray) (ver:Int) (b:Bool) (i:Nat) (t:Tx) (w:World) (h:c.rd 0 w.heap.size w) (hok:gB c=true) (hn:bM s=true) (hi:fJ c s=i) (ht:c.txs[i]? =some t) (hv:t.ver≠ver):dd aa lO [c.v,.string s,J ver,.bool b] w fun v w2=>v=.tuple #[.agg #[J 0,J 0,J 0,.slice none 0 0],J 10]/\Below w.heap.size w w2:=by
 refine aE pE Z Z ?_
 have hcap:=h.cap
 have hfew:=h.few
 have hfp:=h.fewP
 have H:=Hp.startCo h
 obtain⟨ck,nx,wt,txs,cA,cc⟩:=c
 dsimp only at hcap hfew hfp H
 show CW _ _ _ _ (args [.agg #[J ck,J nx,J wt,.slice cA txs.length cc],.string s,J ver,.bool b]) w
 dsimp only at ht
 refine W<|Zr<|fS H Z Z fun w1 b4 H=>eC H cK Z fun w2 b8 H=>G (Wi Z)<|U<|W<|Zr<|G (Zw ax H 1 Z Z Z)<|G (Yt Z)<|G (Yi Z)<|cd gC (yq ⟨ck,nx,wt,txs,cA,cc⟩ s ver i t _ ⟨H.rd0 0 Z,fun t ht=>fu H 1 Z ht,hcap,hfew,hfp⟩ hok hn hi ht hv) Z Z ?_
 rintro _ w3 ⟨rfl,hb⟩;replace H:=H.later hb;clear hb
 refine G (Yu Z)<|G (Xa Z Z)<|G (Xi Z Z)<|G (Xi Z Z)<|bl H 1 (#[J (0),J (0),J (0),.slice none 0 0]) aF Z Z Z Z Z N N fun w4 H=>G (Wi Z)<|G (Wi Z)<|U<|W<|W<|Zr<|G (Yi Z)<|G (j9 Z Z (by decide))<|U<|ZT Z<|W<|Zr<|G (bj (cs:= #[J (0),J (0),J (0),.slice none 0 0]) fx cK N)<|G (Yi Z)<|bl H 0 (#[J (0),J (0),J (0),.slice none 0 0]) aF Z Z Z Z Z N N fun w5 H=>G (Wi Z)<|U<|Zt ?_
 exact bG (cs0:= #[J 0,J 0,J 0,.slice none 0 0]) (v1:=J 10) Z ax Z (H.ent (i:=0) Z) Z Z ⟨rfl,H.below⟩
theorem J9 (c:Co) (n:Int) (w:World) (h:c.rd 0 w.heap.size w) (hok:gB c=true) (hn:1000<n):dd aa sv [c.v,J n] w fun v w2=>v=.tuple #[.agg #[J 0,J 0,J 0,.slice none 0 0],J 2]/\Below w.heap.size w w2:=by
 refine aE ve Z Z ?_
 have hcap:=h.cap
 have hfew:=h.few
 have hfp:=h.fewP
 have H:=Hp.startCo h
 obtain⟨ck,nx,wt,txs,cA,cc⟩:=c
 dsimp only at hcap hfew hfp H
 show CW _ _ _ _ (args [.agg #[J ck,J nx,J wt,.slice cA txs.length cc],J n]) w
 refine W<|Zr<|fS H Z Z fun w1 b2 H=>eC H cK Z fun w2 b4 H=>G (Wi Z)<|U<|W<|W<|Zr<|G (Zw ax H 1 Z Z Z)<|cd kw (qc ⟨ck,nx,wt,txs,cA,cc⟩ _ ⟨H.rd0 0 Z,fun t ht=>fu H 1 Z ht,hcap,hfew,hfp⟩) Z Z ?_
 rw[hok]
 rintro _ w3 ⟨rfl,hb⟩;replace H:=H.later hb;clear hb
 refine G (Wi Z)<|U<|W<|Zr<|G (Yi Z)<|G (bX Z Z Z)<|U<|ZF Z<|Zk<|W<|W<|Zr<|G (Yi Z)<|G (cY Z Z I)<|G (Yb Z)<|ZG<|G (Yi Z)<|ZG<|G (G4 Z Z I)<|G (N Z Z)<|G (Yb Z)<|ZN<|ZN<|ZN<|ZN<|ZN<|G (Kt Z Z)<|U<|ZT Z<|W<|Zr<|G (bj (cs:= #[J (0),J (0),J (0),.slice none 0 0]) fx cK N)<|bl H 0 (#[J (0),J (0),J (0),.slice none 0 0]) aF Z Z Z Z Z N N fun w4 H=>G (Wi Z)<|U<|Zt ?_
 exact bG (cs0:= #[J 0,J 0,J 0,.slice none 0 0]) (v1:=J 2) Z ax Z (H.ent (i:=0) Z) Z Z ⟨rfl,H.below⟩
end Go.Proofs.YtclibalpdhhhfaaGreat
