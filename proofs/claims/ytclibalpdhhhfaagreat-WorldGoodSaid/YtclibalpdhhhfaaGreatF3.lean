/- Part 3 of the proofs over this seat: what its theorems say holds for every input that they name. -/
import Derived.Test.YtclibalpdhhhfaaGreatF2
namespace Go.Proofs.YtclibalpdhhhfaaGreat
open Go Go.Eng Go.RowKit
open Go.Eng renaming nf→U, AD→W, Je→Zr, MU→Zk, Pc→Zt, OD→Zb, OU→Zx, Pk→Yi, Pm→Yb, Pi→Ys, Pj→Yp, Ph→Yt, Pg→Yu, PA→Wi, PC→Wb, Py→Ws, Pz→Wp, Px→Wt, Pp→Zf, Pt→Xi, Pv→Xa, Pu→Xb, O2→Kt, O3→N, pE→ZT, ov→ZF
open _root_.List renaming length_set→aa,getElem?_set_self→ae,mem_of_getElem?→ah,getElem?_eq_getElem→ai,mem_cons_of_mem→al,sublist_append_left→ap,mem_singleton→au,mem_append→ax,mem_cons→ay,length_append→az,getElem?_eq_some_iff→aB,mem_cons_self→aC,append_assoc→aE,length_take→aI,getElem?_map→aL,mem_iff_getElem?→aU,append_nil→aY,findIdx?_eq_some_iff_getElem→bh,map_append→bo,mem_map→bB,mem_or_eq_of_mem_set→bH,length_map→bI,mem_map_of_mem→bP,length_cons→bS,length_singleton→bU,eq_nil_of_length_eq_zero→bY,take_length→bZ,mem_append_right→cm,sublist_append_right→cu,length→cB,getElem?_append_right→cC,map_set→cD,getElem?_eq_none→cL,getElem?_take→dh,findIdx?_eq_none_iff→dq,set_set→dK,length_drop→dL,getElem?_drop→dO,mem_singleton_self→d6,all_eq_true→eh,drop_of_length_le→en,pairwise_cons→ex,map_cons→eM,ext_getElem?→eN,drop_length→fv,perm_append_comm_assoc→fX,take_append_drop→gM,mem_append_left→ij,set_append_right→jc,pairwise_map→jq,filter_eq_self→jU,filter_cons_of_pos→jZ,drop_drop→j0,filter_append→kE,nodup_cons→kQ,mem_filter→kS,getElem?_set→lw,pairwise_append→lY,drop_zero→lZ,map_nil→mh,pairwise_iff_getElem→mM,headD_eq_head?_getD→m5,filter_cons_of_neg→oG,head?_eq_getElem?→oX,getElem?_zipWith→qk,perm_middle→qn,cons_append→qo,drop_set_of_lt→rV,map_map→r5,take_zero→yy,mem_of_mem_take→yz,take_set_of_le→y9,getElem?_range→zb,drop_succ_cons→zc,find?_eq_none→Bb,findIdx?_map→CN
open Go.Proofs.Tryz renaming prog→ab
open _root_.List.Perm renaming swap→am
open _root_.Nat renaming le_refl→ao,le_trans→aS,min_eq_left→bA,zero_le→bK,zero_add→cG,add_mul→cS,mul_le_mul_right→dk,one_mul→gF,lt_or_ge→iL,le_of_lt→mg,add_zero→r3,zero_mul→vU
open _root_.List.Sublist renaming refl→ar,cons_cons→oZ
open _root_.Bool renaming and_eq_true→aR,true_and→gY,not_eq_true'→pb,eq_iff_iff→xc
open _root_.Option.some renaming inj→bN,injEq→lv
open _root_.Array renaming length_toList→cr
open _root_.Option renaming map_some→eX,bind_some→fT,map_eq_some_iff→iK
open _root_.List.Mem renaming head→fG,tail→qy
open _root_.Int renaming le_refl→iX
set_option maxHeartbeats 4000000
set_option maxRecDepth 20000
set_option linter.unusedSimpArgs false
set_option linter.unusedVariables false
set_option linter.unusedSectionVars false
theorem KR {α:Type} {l:List α} {pred:α->Bool} {ix:Option Nat} (h:l.findIdx? pred=ix) (hne:lE ix≠ -1): ∃ (k:Nat) (x:α),ix=some k/\k<l.length/\l[k]? =some x/\pred x=true/\(l.take k).filter (fun m=>!pred m)=l.take k:=by
 cases ix with
 |none=>exact absurd Z hne
 |some k=>
  obtain⟨hl,h1,h2⟩:=bh.1 h
  refine⟨k,_,rfl,hl,ai hl,h1,?_⟩
  rw[jU]
  intro m hm
  obtain⟨j,hj⟩:=aU.1 hm
  rw[dh]at hj
  split at hj
  rename_i hjk
  obtain⟨hjl,rfl⟩:=bT hj
  have:=h2 j hjk
  simpa using this
  cases hj
theorem Mt {α:Type} {l:List α} {pred:α->Bool} {ix:Option Nat} (h:l.findIdx? pred=ix) (hne:lE ix= -1):(l.filter fun m=>!pred m)=l:=by
 cases ix with
 |none=>
  rw[dq]at h
  rw[jU]
  intro m hm
  simp[h m hm]
 |some k=>simp[lE]at hne
theorem MT {w0 w:World} {M:List (Nat×Obj)} {F:List cz} {g n:Nat} {u:Array Value} (ms:List Mem) (c:Nat) (H:Hp w0 w ((g,.cells u df (0,0))::M) F) (row:dz jQ ms c u) (hn:n=ms.length) (hm12:ms.length<=1000) {f:FuncId} {cap:List Value} (hf:bl ab f=true) (pred:Mem->Bool)
  (hp: ∀ e∈ms,∀ (w':World) (u':Array Value),Hp w0 w' ((g,.cells u' df (0,0))::M) F->dg ab f (.agg e.c.toArray::cap) w' fun v w2=>v=.bool (pred e)/\Below w'.heap.size w' w2):
  dg ab fy [.slice (Qd g) n c,.func (.func f) #[] cap.toArray] w fun v w2=> ∃ u2,v=.slice (Qd g) (ms.filter fun m=>!pred m).length c/\dz jQ (ms.filter fun m=>!pred m) c u2/\Hp w0 w2 ((g,.cells u2 df (0,0))::M) F:=by
 refine aF ia Z Z ?_
 have hle:=row.le
 refine W<|Zr<|G (Ws Z)<|U<|W<|Zr<|G (Ys Z)<|G (sQ Z)<|ch dn (by subst hn;exact fO ms _ c _ (row.rd0 (H.ent (i:=0) Z)) I f cap hf pred (fun e w2 he hb=>hp e he w2 u (H.later hb))) Z Z ?_
 rintro _ w1 ⟨rfl,hb⟩;replace H:=H.later hb;clear hb
 obtain⟨ix,hix⟩: ∃ i,ms.findIdx? pred=i:=⟨_,rfl⟩
 rw[hix]
 refine G (Wi Z)<|U<|W<|W<|Zr<|G (Yi Z) ?_
 refine cW (bp Z Z) Z Z Z (fun h12=> ?_) (fun h12=> ?_)
 have hall:=Mt hix I
 refine U<|ZT Z<|W<|Zr<|G (Ys Z)<|G (Ws Z)<|U<|Zt ?_
 exact cH (v:=.slice (Qd g) n c) Z Z ⟨u,by rw[hall,hn],by rw[hall];exact row,H⟩
 refine U<|ZF Z<|Zk<|W<|W ?_
 obtain⟨k0,x0,rfl,hk0l,hk0,hk0p,hkn⟩:=KR hix I
 refine Zr<|G (Yi Z)<|G (bz (a:=((k0:Nat):Int)) Z Z I I)<|G (Wi Z)<|U<|Zb ?_
 refine cy (τ:=Nat×Nat×List Mem×Array Value) [5,6,7,16,17,18,19,20,21,22,23,24,25,26,27,28,29,30,31,32,33,34,35] (fun(j,i,_,_)=>[(6,J (j:Nat)),(5,J (i:Nat))]) (fun(j,i,m,u1) w'=>j<=n/\i<j/\m.length=n/\m.drop j=ms.drop j/\m.take i=(ms.take j).filter (fun m=>!pred m)/\dz jQ m c u1/\Hp w0 w' ((g,.cells u1 df (0,0))::M) F) (fun(j,_,_,_)=>n-j) (k0+1,k0,ms,u) ⟨by omega,by omega,hn.symm,rfl,by rw[fi hk0,kE,hkn];simp[hk0p],row,H⟩ (la Z Z) ?_
 rintro⟨j,i,m,u1⟩ ρ1 w2 ⟨hjn,hij,hml,hdr,htk,row2,H⟩
 show CW _ _ _ _ (dH (gJ _ _ ρ1) [(6,J (j:Nat)),(5,J (i:Nat))]) w2
 refine W<|W<|Zr<|G (Yi Z)<|G (Ys Z)<|G (br gu Z) ?_
 refine cW (cK Z Z) Z Z Z (fun h19=> ?_) (fun h19=> ?_)
 obtain⟨y,hy⟩: ∃ y,m[j]? =some y:=⟨_,ai I⟩
 have hyt:=y5 hdr hy
 have hmy:=ah hyt
 refine U<|ZT Z<|Zk<|W<|Zb<|W<|Zr<|G (Ys Z)<|G (Yi Z)<|G (bV eD Z Z (by first|omega|(simp only[aa];omega)))<|G (oM nI row2 hy Z Z (H.ent (i:=0) Z))<|eI H tg Z fun w3 b7 H=>bg H 0 (#[.string (y.name),J (y.heard),.slice y.A y.parts.length y.cap]) sf Z Z Z Z Z N N fun w4 H=>U<|W<|Zr<|G (sQ Z)<|G (Zw nI H 0 Z Z Z) ?_
 refine MZ hf Z (hp y hmy _ _ (H.forget (.cons _ (ar _)) (fun _ h=>h))) Z Z ?_;rintro _ w5 ⟨rfl,hb2⟩;replace H:=H.later hb2;clear hb2
 refine G (dR Z)<|U ?_
 refine jo Z (fun hc29=> ?_) (fun hc29=> ?_)
 refine W<|Zr<|G (Ys Z)<|G (Yi Z)<|G (Zw nI H 0 Z Z Z)<|G (bV eD Z Z (by first|omega|(simp only[aa];omega))) ?_
 obtain⟨x33,hx33⟩: ∃ x,m[i]? =some x:=⟨_,ai (by first|omega|(simp only[aa];omega))⟩
 refine im H 1 (y) sf row2 hx33 0 Z Z Z Z Z Z N fun w7 cur6 row6 H=> ?_
 have hs8:(m.set i (y))[i]? =some (y):=ae (bT hx33).1
 refine U<|Zr<|G (Yi Z)<|G (bz Z Z I I)<|G (Wi Z)<|U<|Zr<|G (Yi Z)<|G (bz Z Z I I)<|G (Wi Z)<|U ?_
 exact⟨(j+1,i+1,m.set i y,_),⟨by omega,by omega,by simp[hml],by rw[rV I];exact vL hdr I,by rw[B6 I,htk,fi hyt,kE,jZ (by simpa using hc29)];rfl,row6,H.forget (.cons _ (ar _)) (fun _ h=>h)⟩,la Z Z,Qg,by show n- (j+1)<n-j;omega⟩
 refine Zk<|Zr<|G (Yi Z)<|G (bz Z Z I I)<|G (Wi Z)<|U ?_
 exact⟨(j+1,i,m,u1),⟨by omega,by omega,hml,vL hdr I,by rw[htk,fi hyt,kE,oG (by simpa using hc29)];simp,row2,H.forget (.cons _ (ar _)) (fun _ h=>h)⟩,la Z Z,Qg,by show n- (j+1)<n-j;omega⟩
 refine U<|ZF Z<|Zx<|W<|Zr<|G (Ys Z)<|G (Yi Z)<|sO (A:=some ⟨g,0,none⟩) (len:=n) (cap:=c) (i:=((i:Nat):Int)) eD Z Z I I I Z fun A38 hA38=> ?_
 obtain rfl:=vS.at0 hA38 (show i<n by omega)
 show LW _ _ _ _ _ (ft _ _ (.slice (some ⟨g,i*3,none⟩) (n-i) (c-i))) _
 have hsz:=row2.size
 have hzl:(Builtin.zeroCells (Value.cells (.agg #[.string ⟨#[]⟩,J 0,.slice none 0 0])) (n-i)).toList.length=(n-i)*3:=by rw[cr,size_zeroCells];rfl
 refine Pw (K:=[]) (M:=M) (o:=i*3) (z:=.agg #[.string ⟨#[]⟩,J 0,.slice none 0 0]) eD N Z Z H Z (fun _=>rfl) (by rw[hsz];show i*3+(n-i)*3<=c*3;omega) fun w9 H=> ?_
 have row3:=dz.clr row2 (k:=i) (o:=i*3) (zs:=(Builtin.zeroCells (Value.cells (.agg #[.string ⟨#[]⟩,J 0,.slice none 0 0])) (n-i)).toList) I (ao _) (by rw[hzl,hsz];show i*3+(n-i)*3<=c*3;omega)
 refine U<|W<|Zr<|G (Ys Z)<|G (Yi Z)<|zo (A:=some ⟨g,0,none⟩) (len:=n) (cap:=c) (i:=((i:Nat):Int)) eD Z Z I I Z fun A41 hA41=> ?_
 obtain rfl:=hA41 I
 show LW _ _ _ _ _ (ft _ _ (.slice (Qd g) i c)) _
 refine G (Ws Z)<|U<|Zt ?_
 have hfin:m.take i=ms.filter (fun m=>!pred m):=by rw[htk,show j=ms.length by omega,bZ]
 have hfl:i=(ms.filter fun m=>!pred m).length:=by rw[<-hfin,aI];omega
 exact cH (v:=.slice (Qd g) i c) Z Z ⟨_,by rw[<-hfl],hfin▸row3,H⟩
theorem sj {β:Type} (X A C:List β):(X++A++C).Perm (A++(X++C)):=by
 rw[aE]
 exact fX X A C
theorem sm (l:List Mem):(l.map Mem.a).map Mem.name=l.map Mem.name:=by rw[r5];rfl
theorem Lv (ms:List Mem) (p:Nat):(oS ms p).map Mem.a=oS (ms.map Mem.a) p:=by
 unfold oS
 rw[sm,List.map_zipWith,List.zipWith_map_left]
 rfl
theorem AL (ms:List Mem) (p:Nat):(oS ms p).length=ms.length:=by
 unfold oS
 rw[List.length_zipWith,oy,bI];omega
theorem AK {ms:List Mem} {p:Nat} {m:Mem} (h:m∈oS ms p): ∃ i,m.parts=mn (ms.map Mem.name) p i:=by
 obtain⟨i,hi⟩:=aU.1 h
 have hl:=(bT hi).1
 rw[AL]at hl
 obtain⟨x,hx⟩: ∃ x,ms[i]? =some x:=⟨_,ai hl⟩
 have hp:(gL (ms.map Mem.name) p)[i]? =some (mn (ms.map Mem.name) p i):=by
  unfold gL
  rw[aL,bI,zb hl];rfl
 rw[Lu hx hp]at hi
 injection hi with hi
 exact⟨i,by rw[<-hi]⟩
def G5 (g:Gr) (p:Nat):Gr:={g with gen:=g.gen+1,ms:=oS g.ms p}
def De (s:ByteArray) (ck:Int):Mem:=⟨s,ck,[],none,0,0,0⟩
theorem HK {w w2:World} {ck wt gn:Int} {ms' l:List Mem} {mA oA:Option Addr} {mC oC p:Nat} {os:List me} {Lm Lo:List (Nat×Obj)} (ha:ms'.map Mem.a=oS (l.map Mem.a) p) (hl:l.length<=6) (hp:p<=4) (hol:os.length<=4) (ho:gm jQ (.slice mA ms'.length mC) df ms' Lm) (hoo:gm fV (.slice oA os.length oC) ef os Lo) (hoc:os.length<=oC) (hc: ∀ m∈ms',m.parts.length<=m.cap/\w.heap.size<=m.lo) (H:Hp w w2 (Lm++Lo) (ms'.map nb)):yw w w2 ⟨ck,wt,gn,ms',mA,mC,os,oA,oC⟩:=by
 have hml:ms'.length=l.length:=by have:=congrArg cB ha;rw[AL]at this;simpa using this
 have hmc:ms'.length<=mC:=by
  obtain⟨_,c,e,h,_⟩:=ho.form
  injection e with _ _ e
  rw[e];exact h
 refine qO.new (ga:=Gr.a ⟨ck,wt,gn,ms',mA,mC,os,oA,oC⟩) ⟨rfl,ho,hoo,hmc,hoc,hc,H⟩ (by dsimp only;omega) (by dsimp only;omega) fun m hm=> ?_
 have h1:m.a∈oS (l.map Mem.a) p:=ha▸bP hm
 obtain⟨i,hi⟩:=AK h1
 have h2:m.parts=mn ((l.map Mem.a).map Mem.name) p i:=hi
 rw[h2]
 have:=yd ((l.map Mem.a).map Mem.name) p i
 omega
theorem GC (g:Gr) (s:ByteArray) (p:Nat) (w:World) (h:g.rd 0 w.heap.size w) (hok:kV g=true) (hn:bQ s=true) (hp:p<=4) (hg1:g.gen<1073741824) (i:Nat) (hi:pX g s=i):dg ab pq [g.v,.string s,J (p:Nat)] w fun v w2=>v=.tuple #[.agg #[J 0,J 0,J 0,.slice none 0 0,.slice none 0 0],J 6]/\Below w.heap.size w w2:=by
 refine aF ro Z Z ?_
 have hmC:=h.mC
 have hoC:=h.oC
 have hfew:=h.few
 have hfp:=h.fewP
 have H:=Hp.startGr h
 obtain⟨ck,wt,gn,ms,mA,mC,os,oA,oC⟩:=g
 dsimp only at hmC hoC hfew hfp H
 show CW _ _ _ _ (args [.agg #[J (ck),J (wt),J (gn),.slice mA ms.length mC,.slice oA os.length oC],.string (s),J (((p:Nat):Int))]) w
 obtain⟨⟨⟨k1,k2⟩,k3,k4,⟨k5,k6⟩,k7,k8⟩,⟨hmo,hap⟩,hof,hor⟩:=dA.1 hok
 dsimp only at k1 k2 k3 k4 k5 k6 k7 k8 hg1
 refine W<|Zr<|fW H Z Z fun w1 b3 H=>eI H d9 Z fun w2 b6 H=>G (Wi Z)<|U<|W<|Zr<|G (Zw aN H 1 Z Z Z)<|G (Yt Z)<|ch gk (mw ⟨ck,wt,gn,ms,mA,mC,os,oA,oC⟩ s _ ⟨H.rd0 0 Z,fun m hm=>y1 H 1 Z hm,H.rd0 2 Z,hmC,hoC,hfew,hfp⟩ hok hn) Z Z ?_
 rintro _ w3 ⟨⟨ck2,wt2,gn2,ms2,mA2,mC2,os2,oA2,oC2⟩,Lm,Lo,rfl,ha2,ho2,hoo2,hmc2,hoc2,hpc2,hj2⟩
 have hlo2:=H.size
 replace H:=Hp.joinG H hj2 (fun m hm=>(hpc2 m hm).2);clear hj2
 simp only[Gr.a,Gr.mk.injEq]at ha2
 obtain⟨e1,e2,e3,hma,-,-,e4,-,-⟩:=ha2
 obtain rfl:ck=ck2:=e1.symm
 obtain rfl:wt=wt2:=e2.symm
 obtain rfl:gn=gn2:=e3.symm
 obtain rfl:os=os2:=e4.symm
 dsimp only at ho2 hoo2 hmc2 hoc2 hpc2 H
 replace hpc2: ∀ m∈ms2,m.parts.length<=m.cap/\w.heap.size<=m.lo:=fun m hm=>⟨(hpc2 m hm).1,aS hlo2 (hpc2 m hm).2⟩
 have hml2:ms2.length=ms.length:=by have:=congrArg cB hma;simpa using this
 rw[hi]
 refine G (Yu Z)<|G (Xa Z Z)<|G (Xi Z Z)<|G (Xi Z Z)<|bg H 1 (#[J (ck),J (wt),J (gn),.slice mA2 ms2.length mC2,.slice oA2 os.length oC2]) bF Z Z Z Z Z N N fun w4 H=>G (Wi Z)<|G (Wi Z)<|U<|W<|Zb<|W<|Zr<|G (Yi Z)<|G (ce Z Z Z)<|G (Wb Z)<|U<|ZF Z<|W<|Zr<|G (Zw aN H 1 Z Z Z)<|G (Yi Z)<|ch kN (sF ⟨ck,wt,gn,ms2,mA2,mC2,os,oA2,oC2⟩ p _) Z Z ?_
 rw[show iV ⟨ck,wt,gn,ms2,mA2,mC2,os,oA2,oC2⟩ p=true by unfold iV;simp;omega]
 rintro _ w5 ⟨rfl,hb⟩;replace H:=H.later hb;clear hb
 refine G (dR Z)<|G (Wb Z)<|U<|ZF Z<|W<|Zr<|G (Yi Z)<|G (NX Z Z I)<|G (Wb Z)<|U<|ZT Z<|W<|Zr<|G (bn (cs:= #[J (0),J (0),J (0),.slice none 0 0,.slice none 0 0]) j4 d9 N)<|bg H 0 (#[J (0),J (0),J (0),.slice none 0 0,.slice none 0 0]) bF Z Z Z Z Z N N fun w6 H=>G (Wi Z)<|U<|Zt ?_
 exact bG (cs0:= #[J 0,J 0,J 0,.slice none 0 0,.slice none 0 0]) (v1:=J 6) Z aN Z (H.ent (i:=0) Z) Z Z ⟨rfl,H.below⟩
theorem IP (g:Gr) (s:ByteArray) (p:Nat) (w:World) (h:g.rd 0 w.heap.size w) (hok:kV g=true) (hn:bQ s=true) (hp:p<=4) (hg1:g.gen<1073741824) (hi:pX g s= -1) (hf:g.ms.length=6):dg ab pq [g.v,.string s,J (p:Nat)] w fun v w2=>v=.tuple #[.agg #[J 0,J 0,J 0,.slice none 0 0,.slice none 0 0],J 16]/\Below w.heap.size w w2:=by
 refine aF ro Z Z ?_
 have hmC:=h.mC
 have hoC:=h.oC
 have hfew:=h.few
 have hfp:=h.fewP
 have H:=Hp.startGr h
 obtain⟨ck,wt,gn,ms,mA,mC,os,oA,oC⟩:=g
 dsimp only at hmC hoC hfew hfp H
 show CW _ _ _ _ (args [.agg #[J (ck),J (wt),J (gn),.slice mA ms.length mC,.slice oA os.length oC],.string (s),J (((p:Nat):Int))]) w
 obtain⟨⟨⟨k1,k2⟩,k3,k4,⟨k5,k6⟩,k7,k8⟩,⟨hmo,hap⟩,hof,hor⟩:=dA.1 hok
 dsimp only at k1 k2 k3 k4 k5 k6 k7 k8 hg1
 dsimp only at hf
 refine W<|Zr<|fW H Z Z fun w1 b3 H=>eI H d9 Z fun w2 b6 H=>G (Wi Z)<|U<|W<|Zr<|G (Zw aN H 1 Z Z Z)<|G (Yt Z)<|ch gk (mw ⟨ck,wt,gn,ms,mA,mC,os,oA,oC⟩ s _ ⟨H.rd0 0 Z,fun m hm=>y1 H 1 Z hm,H.rd0 2 Z,hmC,hoC,hfew,hfp⟩ hok hn) Z Z ?_
 rintro _ w3 ⟨⟨ck2,wt2,gn2,ms2,mA2,mC2,os2,oA2,oC2⟩,Lm,Lo,rfl,ha2,ho2,hoo2,hmc2,hoc2,hpc2,hj2⟩
 have hlo2:=H.size
 replace H:=Hp.joinG H hj2 (fun m hm=>(hpc2 m hm).2);clear hj2
 simp only[Gr.a,Gr.mk.injEq]at ha2
 obtain⟨e1,e2,e3,hma,-,-,e4,-,-⟩:=ha2
 obtain rfl:ck=ck2:=e1.symm
 obtain rfl:wt=wt2:=e2.symm
 obtain rfl:gn=gn2:=e3.symm
 obtain rfl:os=os2:=e4.symm
 dsimp only at ho2 hoo2 hmc2 hoc2 hpc2 H
 replace hpc2: ∀ m∈ms2,m.parts.length<=m.cap/\w.heap.size<=m.lo:=fun m hm=>⟨(hpc2 m hm).1,aS hlo2 (hpc2 m hm).2⟩
 have hml2:ms2.length=ms.length:=by have:=congrArg cB hma;simpa using this
 rw[hi]
 refine G (Yu Z)<|G (Xa Z Z)<|G (Xi Z Z)<|G (Xi Z Z)<|bg H 1 (#[J (ck),J (wt),J (gn),.slice mA2 ms2.length mC2,.slice oA2 os.length oC2]) bF Z Z Z Z Z N N fun w4 H=>G (Wi Z)<|G (Wi Z)<|U<|W<|Zb<|W<|Zr<|G (Yi Z)<|G (ce Z Z Z)<|G (Wb Z)<|U<|ZF Z<|W<|Zr<|G (Zw aN H 1 Z Z Z)<|G (Yi Z)<|ch kN (sF ⟨ck,wt,gn,ms2,mA2,mC2,os,oA2,oC2⟩ p _) Z Z ?_
 rw[show iV ⟨ck,wt,gn,ms2,mA2,mC2,os,oA2,oC2⟩ p=true by unfold iV;simp;omega]
 rintro _ w5 ⟨rfl,hb⟩;replace H:=H.later hb;clear hb
 refine G (dR Z)<|G (Wb Z)<|U<|ZF Z<|W<|Zr<|G (Yi Z)<|G (rf Z Z (by decide))<|G (Wb Z)<|U<|ZF Z<|W<|Zr<|G (Zf dN Z)<|G (Zd dv H 1 Z Z Z)<|G (br gu Z)<|G (qa Z Z I)<|G (Wb Z)<|U<|ZT Z<|W<|Zr<|G (bn (cs:= #[J (0),J (0),J (0),.slice none 0 0,.slice none 0 0]) j4 d9 N)<|bg H 0 (#[J (0),J (0),J (0),.slice none 0 0,.slice none 0 0]) bF Z Z Z Z Z N N fun w6 H=>G (Wi Z)<|U<|Zt ?_
 exact bG (cs0:= #[J 0,J 0,J 0,.slice none 0 0,.slice none 0 0]) (v1:=J 16) Z aN Z (H.ent (i:=0) Z) Z Z ⟨rfl,H.below⟩
theorem MJ (g:Gr) (s:ByteArray) (p:Nat) (w:World) (h:g.rd 0 w.heap.size w) (hok:kV g=true) (hn:bQ s=true) (hp:p<=4) (hg1:g.gen<1073741824) (hi:pX g s= -1) (hf:g.ms.length≠6):dg ab pq [g.v,.string s,J (p:Nat)] w fun v w2=> ∃ g':Gr,v=.tuple #[g'.v,J 0]/\g'.a=G5 {g.a with ms:=g.a.ms++[De s g.clock]} p/\yw w w2 g':=by
 refine aF ro Z Z ?_
 have hmC:=h.mC
 have hoC:=h.oC
 have hfew:=h.few
 have hfp:=h.fewP
 have H:=Hp.startGr h
 obtain⟨ck,wt,gn,ms,mA,mC,os,oA,oC⟩:=g
 dsimp only at hmC hoC hfew hfp H
 show CW _ _ _ _ (args [.agg #[J (ck),J (wt),J (gn),.slice mA ms.length mC,.slice oA os.length oC],.string (s),J (((p:Nat):Int))]) w
 obtain⟨⟨⟨k1,k2⟩,k3,k4,⟨k5,k6⟩,k7,k8⟩,⟨hmo,hap⟩,hof,hor⟩:=dA.1 hok
 dsimp only at k1 k2 k3 k4 k5 k6 k7 k8 hg1
 dsimp only at hf
 refine W<|Zr<|fW H Z Z fun w1 b3 H=>eI H d9 Z fun w2 b6 H=>G (Wi Z)<|U<|W<|Zr<|G (Zw aN H 1 Z Z Z)<|G (Yt Z)<|ch gk (mw ⟨ck,wt,gn,ms,mA,mC,os,oA,oC⟩ s _ ⟨H.rd0 0 Z,fun m hm=>y1 H 1 Z hm,H.rd0 2 Z,hmC,hoC,hfew,hfp⟩ hok hn) Z Z ?_
 rintro _ w3 ⟨⟨ck2,wt2,gn2,ms2,mA2,mC2,os2,oA2,oC2⟩,Lm,Lo,rfl,ha2,ho2,hoo2,hmc2,hoc2,hpc2,hj2⟩
 have hlo2:=H.size
 replace H:=Hp.joinG H hj2 (fun m hm=>(hpc2 m hm).2);clear hj2
 simp only[Gr.a,Gr.mk.injEq]at ha2
 obtain⟨e1,e2,e3,hma,-,-,e4,-,-⟩:=ha2
 obtain rfl:ck=ck2:=e1.symm
 obtain rfl:wt=wt2:=e2.symm
 obtain rfl:gn=gn2:=e3.symm
 obtain rfl:os=os2:=e4.symm
 dsimp only at ho2 hoo2 hmc2 hoc2 hpc2 H
 replace hpc2: ∀ m∈ms2,m.parts.length<=m.cap/\w.heap.size<=m.lo:=fun m hm=>⟨(hpc2 m hm).1,aS hlo2 (hpc2 m hm).2⟩
 have hml2:ms2.length=ms.length:=by have:=congrArg cB hma;simpa using this
 rw[hi]
 refine G (Yu Z)<|G (Xa Z Z)<|G (Xi Z Z)<|G (Xi Z Z)<|bg H 1 (#[J (ck),J (wt),J (gn),.slice mA2 ms2.length mC2,.slice oA2 os.length oC2]) bF Z Z Z Z Z N N fun w4 H=>G (Wi Z)<|G (Wi Z)<|U<|W<|Zb<|W<|Zr<|G (Yi Z)<|G (ce Z Z Z)<|G (Wb Z)<|U<|ZF Z<|W<|Zr<|G (Zw aN H 1 Z Z Z)<|G (Yi Z)<|ch kN (sF ⟨ck,wt,gn,ms2,mA2,mC2,os,oA2,oC2⟩ p _) Z Z ?_
 rw[show iV ⟨ck,wt,gn,ms2,mA2,mC2,os,oA2,oC2⟩ p=true by unfold iV;simp;omega]
 rintro _ w5 ⟨rfl,hb⟩;replace H:=H.later hb;clear hb
 refine G (dR Z)<|G (Wb Z)<|U<|ZF Z<|W<|Zr<|G (Yi Z)<|G (rf Z Z (by decide))<|G (Wb Z)<|U<|ZF Z<|W<|Zr<|G (Zf dN Z)<|G (Zd dv H 1 Z Z Z)<|G (br gu Z)<|G (nA Z Z I)<|G (Wb Z)<|U<|ZF Z<|Zk<|W<|Zr<|G (Zf dN Z)<|G (Zd dv H 1 Z Z Z)<|G (Yt Z)<|G (Zf jy Z)<|G (Zd ak H 1 Z Z Z)<|G (bn (cs:= #[.string (s),J (ck),.slice none 0 0]) If tg N)<|sW (vs:=[.agg #[.string (s),J (ck),.slice none 0 0]]) H eD tg Z Z Z Z Z Z fun w6 b44 H=>vQ (Y:=jQ) AO (K:=[(b44,.cells #[.string (s),J (ck),.slice none 0 0] df (0,0)),(b6,.cells #[J (0),J (0),J (0),.slice none 0 0,.slice none 0 0] cO (0,0)),(b3,.cells #[J (ck),J (wt),J (gn),.slice mA2 ms2.length mC2,.slice oA2 os.length oC2] cO (0,0))]) (L:=Lm) (M:=Lo) H ho2 (news:=[De s ck]) Z Z Z (vT.row (m:=1) (sz:=jQ.sz) (H.ent (i:=0) Z) Z) (show(ms2.length+1)*48<=140737488355328 by omega) Z ?_
 intro A9 c9 w7 L9 h9 _ ho9 H
 have hl9:(ms2++[De s ck]).length<=6:=by rw[az,bU];omega
 refine G (Zf dN Z)<|bg H 2 (#[J (ck),J (wt),J (gn),.slice A9 ((ms2++[De s ck]).length) c9,.slice oA2 os.length oC2]) tp Z Z Z Z Z N N fun w8 H=>U<|W<|Zr<|G (Zw aN H 2 Z Z Z)<|G (Yi Z)<|ch qM (yv ck wt gn (ms2++[De s ck]) A9 c9 os oA2 oC2 p (H.perm (sj [(b44,.cells #[.string (s),J (ck),.slice none 0 0] df (0,0)),(b6,.cells #[J (0),J (0),J (0),.slice none 0 0,.slice none 0 0] cO (0,0)),(b3,.cells #[J (ck),J (wt),J (gn),.slice A9 ((ms2++[De s ck]).length) c9,.slice oA2 os.length oC2] cO (0,0))] L9 Lo).symm) ho9 I hp I I) Z Z ?_
 rintro _ w9 ⟨ms4,L4,rfl,ha4,ho4,hc4,H⟩
 replace H:=H.perm (sj [(b44,.cells #[.string (s),J (ck),.slice none 0 0] df (0,0)),(b6,.cells #[J (0),J (0),J (0),.slice none 0 0,.slice none 0 0] cO (0,0)),(b3,.cells #[J (ck),J (wt),J (gn),.slice A9 ((ms2++[De s ck]).length) c9,.slice oA2 os.length oC2] cO (0,0))] L4 Lo)
 rw[Lv]at ha4
 refine bg H 1 (#[J (ck),J (wt),J (gn+1),.slice A9 ms4.length c9,.slice oA2 os.length oC2]) bF Z Z Z Z Z N N fun w10 H=>G (Wi Z)<|U<|Zt ?_
 exact bG (cs0:= #[J (ck),J (wt),J (gn+1),.slice A9 ms4.length c9,.slice oA2 os.length oC2]) (v1:=J 0) Z aN Z (H.ent (i:=1) Z) Z Z ⟨⟨ck,wt,gn+1,ms4,A9,c9,os,oA2,oC2⟩,rfl,by unfold Gr.a G5;dsimp only;rw[ha4,bo,hma];rfl,HK ha4 hl9 hp I ho4 hoo2 hoc2 hc4 (H.forget (by rw[aE];exact .cons _ (.cons _ (.cons _ (ar _)))) (fun f hf=>by simp only[ay,ax];grind))⟩
def tq (g:Gr) (n:Int) (m:Mem):Bool:=decide (g.wait<=g.clock+n-m.heard)
def pN (g:Gr) (n:Int) (p:Nat):Gr:=if(g.ms.filter fun m=>!tq g n m).length=g.ms.length then{g with clock:=g.clock+n}else G5 {g with clock:=g.clock+n,ms:=g.ms.filter fun m=>!tq g n m} p
theorem iJ {ck:Int} {l l2:List Mem} (ha:l2.map Mem.a=l.map Mem.a) (hm: ∀ m∈l,uX ck m=true): ∀ m∈l2,m.parts.length<=4:=fun m hm2=>by
 have h1:m.a∈l.map Mem.a:=ha▸bP hm2
 obtain⟨x,hx,he⟩:=bB.1 h1
 have h2:=(jJ.1 (hm x hx)).2.2.2
 have h3:m.parts=x.parts:=(congrArg Mem.parts he).symm
 have:=ml h2
 rw[h3];omega
theorem KN {ck:Int} {l l2:List Mem} (ha:l2.map Mem.a=l.map Mem.a) (hm: ∀ m∈l,uX ck m=true): ∀ m∈l2,0<=m.heard/\m.heard<=ck:=fun m hm2=>by
 have h1:m.a∈l.map Mem.a:=ha▸bP hm2
 obtain⟨x,hx,he⟩:=bB.1 h1
 obtain⟨_,h2,h3,_⟩:=jJ.1 (hm x hx)
 have h4:m.heard=x.heard:=(congrArg Mem.heard he).symm
 rw[h4];exact⟨h2,h3⟩
theorem Fq (l:List Mem) (f:Mem->Bool) (hf: ∀ m,f m.a=f m):(l.filter f).map Mem.a=(l.map Mem.a).filter f:=by
 rw[List.filter_map,show f∘Mem.a=f from funext hf]
theorem GT {α:Type} {l:List α} {f:α->Bool} (h:(l.filter f).length=l.length):l.filter f=l:=jU.2 (List.length_filter_eq_length_iff.1 h)
theorem FU (m:Mem) (b:Nat) (ck wt gn:Int) (v3 v4:Value) (w:World) (hx:w.heap[b]? =some (.cells #[J ck,J wt,J gn,v3,v4] cO (0,0))) (h0:0<=m.heard) (h1:m.heard<=1073741824) (h2:0<=ck) (h3:ck<=1073741824):
  dg ab yF [.agg m.c.toArray,.pointer (Qd b)] w fun v w2=>v=.bool (decide (wt<=ck-m.heard))/\Below w.heap.size w w2:=by
 refine aF xE Z Z ?_
 have H:=Hp.start w
 have hb:=cj hx
 refine W<|Zr<|fW H Z Z fun w1 b2 H=>G (Wb Z)<|U<|W<|Zr<|G (Zf jy Z)<|G (aX ak Z ((H.below.cell (p:=⟨b,_,none⟩) hb).trans (aD (j:=0) hx Z)))<|G (Zf qH Z)<|G (Zd ak H 0 Z Z Z)<|G (mW Z Z I I)<|G (Zf vJ Z)<|G (aX ak Z ((H.below.cell (p:=⟨b,_,none⟩) hb).trans (aD (j:=1) hx Z)))<|G (kf Z Z)<|G (Wb Z)<|U<|Zt ?_
 exact cH Z Z ⟨rfl,H.below⟩
theorem Lg (A:Option Addr) (c:Nat) (w:World) {f:FuncId} {cap:List Value} (hf:bl ab f=true):dg ab fy [.slice A 0 c,.func (.func f) #[] cap.toArray] w fun v w2=>v=.slice A 0 c/\Below w.heap.size w w2:=by
 refine aF ia Z Z ?_
 have H:=Hp.start w
 refine W<|Zr<|G (Ws Z)<|U<|W<|Zr<|G (Ys Z)<|G (sQ Z)<|ch dn (fO [] A c _ Rd.nil (by simp) f cap hf (fun _=>false) (fun e w2 he _=>absurd he (by simp))) Z Z ?_
 rintro _ w1 ⟨rfl,hb⟩;replace H:=H.later hb;clear hb
 refine G (Wi Z)<|U<|W<|W<|Zr<|G (Yi Z)<|G (qa Z Z Z)<|U<|ZT Z<|W<|Zr<|G (Ys Z)<|G (Ws Z)<|U<|Zt ?_
 exact cH (v:=.slice A 0 c) Z Z ⟨rfl,H.below⟩
theorem Lh {w0 w:World} {K M Lt:List (Nat×Obj)} {F:List cz} {ms:List Mem} {c:Nat} {A:Option Addr} (H:Hp w0 w (K++Lt++M) F) (ho:gm jQ (.slice A ms.length c) df ms Lt) (h12:ms.length<=1000) {f:FuncId} {cap:List Value} (hf:bl ab f=true) (pred:Mem->Bool)
  (hp: ∀ e∈ms,∀ (w':World) (L':List (Nat×Obj)),Hp w0 w' (K++L'++M) F->dg ab f (.agg e.c.toArray::cap) w' fun v w2=>v=.bool (pred e)/\Below w'.heap.size w' w2):
  dg ab fy [.slice A ms.length c,.func (.func f) #[] cap.toArray] w fun v w2=> ∃ L',v=.slice A (ms.filter fun m=>!pred m).length c/\gm jQ (.slice A (ms.filter fun m=>!pred m).length c) df (ms.filter fun m=>!pred m) L'/\Hp w0 w2 (K++L'++M) F:=by
 by_cases h0:ms.length=0
 have:=bY h0
 subst this
 exact(Lg A c w hf).mono fun v w2 ⟨h1,h2⟩=>⟨Lt,h1,ho,H.later h2⟩
 obtain⟨g,cur,rfl,rfl,row⟩:=ho.row I
 have hpm: ∀ u:Array Value,(K++[(g,Obj.cells u df (0,0))]++M).Perm ((g,Obj.cells u df (0,0))::(K++M)):=fun u=>by rw[aE];exact qn
 exact(MT ms c (H.perm (hpm cur).symm) row Z h12 hf pred fun e he w' u' H'=>hp e he w' _ (H'.perm (hpm u'))).mono fun v w2 ⟨u2,h1,h2,h3⟩=>⟨_,h1,dz.own (g:=g) (e:=df) h2,h3.perm (hpm u2)⟩
theorem Fe (g:Gr) (n:Int) (p:Nat) (w:World) (h:g.rd 0 w.heap.size w) (hok:kV g=true) (hp:p<=4) (hg1:g.gen<1073741824) (hn0:0<=n) (hn1:n<=1000) (hcl:g.clock+n<=1073741824):dg ab Du [g.v,J n,J (p:Nat)] w fun v w2=> ∃ g':Gr,v=.tuple #[g'.v,J 0]/\g'.a=pN g.a n p/\yw w w2 g':=by
 refine aF BE Z Z ?_
 have hmC:=h.mC
 have hoC:=h.oC
 have hfew:=h.few
 have hfp:=h.fewP
 have H:=Hp.startGr h
 obtain⟨ck,wt,gn,ms,mA,mC,os,oA,oC⟩:=g
 dsimp only at hmC hoC hfew hfp H
 show CW _ _ _ _ (args [.agg #[J (ck),J (wt),J (gn),.slice mA ms.length mC,.slice oA os.length oC],J (n),J (((p:Nat):Int))]) w
 obtain⟨⟨⟨k1,k2⟩,k3,k4,⟨k5,k6⟩,k7,k8⟩,⟨hmo,hap⟩,hof,hor⟩:=dA.1 hok
 dsimp only at k1 k2 k3 k4 k5 k6 k7 k8 hmo
 dsimp only at hg1 hcl
 refine W<|Zr<|fW H Z Z fun w1 b3 H=>eI H d9 Z fun w2 b6 H=>G (Wi Z)<|U<|W<|W<|Zr<|G (Zw aN H 1 Z Z Z)<|ch qe (xA ⟨ck,wt,gn,ms,mA,mC,os,oA,oC⟩ _ ⟨H.rd0 0 Z,fun m hm=>y1 H 1 Z hm,H.rd0 2 Z,hmC,hoC,hfew,hfp⟩ hok) Z Z ?_
 rintro _ w3 ⟨rfl,hb⟩;replace H:=H.later hb;clear hb
 refine G (Wi Z)<|U<|W<|Zr<|G (Yi Z)<|G (ce Z Z Z)<|U<|ZF Z<|Zk<|W<|W<|Zr<|G (Yi Z)<|G (dd Z Z I)<|G (Yb Z)<|ZG<|G (Yi Z)<|ZG<|G (eA Z Z I)<|G (N Z Z)<|G (Yb Z)<|ZG<|G (Zf jy Z)<|ZG<|G (Zd ak H 1 Z Z Z)<|ZG<|G (Yi Z)<|ZG<|G (bz Z Z I I)<|ZG<|G (eA Z Z I)<|G (N Z Z)<|G (Yb Z)<|ZG<|G (Zw aN H 1 Z Z Z)<|ZG<|G (Yi Z)<|ZG<|ch kN (sF ⟨ck,wt,gn,ms,mA,mC,os,oA,oC⟩ p _) Z Z ?_
 rw[show iV ⟨ck,wt,gn,ms,mA,mC,os,oA,oC⟩ p=true by unfold iV;simp;omega]
 rintro _ w4 ⟨rfl,hb⟩;replace H:=H.later hb;clear hb
 refine ZG<|G (dR Z)<|G (N Z Z)<|U<|ZF Z<|Zk<|W<|Zr<|G (Zw aN H 1 Z Z Z)<|ch nQ (wB ⟨ck,wt,gn,ms,mA,mC,os,oA,oC⟩ _ ⟨H.rd0 0 Z,fun m hm=>y1 H 1 Z hm,H.rd0 2 Z,hmC,hoC,hfew,hfp⟩) Z Z ?_
 rintro _ w5 ⟨⟨ck2,wt2,gn2,ms2,mA2,mC2,os2,oA2,oC2⟩,Lm,Lo,rfl,ha2,ho2,hoo2,hmc2,hoc2,hpc2,hj2⟩
 have hlo2:=H.size
 replace H:=Hp.joinG H hj2 (fun m hm=>(hpc2 m hm).2);clear hj2
 simp only[Gr.a,Gr.mk.injEq]at ha2
 obtain⟨e1,e2,e3,hma,-,-,e4,-,-⟩:=ha2
 obtain rfl:ck=ck2:=e1.symm
 obtain rfl:wt=wt2:=e2.symm
 obtain rfl:gn=gn2:=e3.symm
 obtain rfl:os=os2:=e4.symm
 dsimp only at ho2 hoo2 hmc2 hoc2 hpc2 H
 replace hpc2: ∀ m∈ms2,m.parts.length<=m.cap/\w.heap.size<=m.lo:=fun m hm=>⟨(hpc2 m hm).1,aS hlo2 (hpc2 m hm).2⟩
 have hml2:ms2.length=ms.length:=by have:=congrArg cB hma;simpa using this
 have hhd:=KN hma hmo
 refine bg H 1 (#[J (ck),J (wt),J (gn),.slice mA2 ms2.length mC2,.slice oA2 os.length oC2]) bF Z Z Z Z Z N N fun w6 H=>U<|W<|Zr<|G (Zf jy Z)<|G (Zd ak H 1 Z Z Z)<|G (Yi Z)<|G (bz Z Z I I)<|G (Zf jy Z)<|bg H 1 (#[J (ck+n),J (wt),J (gn),.slice mA2 ms2.length mC2,.slice oA2 os.length oC2]) bw Z Z Z Z Z N N fun w7 H=>U<|W<|Zr<|G (Zf dN Z)<|G (Zd dv H 1 Z Z Z)<|G (br gu Z)<|G (Wi Z)<|U<|W<|Zr<|G (Zf dN Z)<|G (Zd dv H 1 Z Z Z)<|G (zH Z)<|ch lq (Lh (K:=[(b6,.cells #[J (0),J (0),J (0),.slice none 0 0,.slice none 0 0] cO (0,0)),(b3,.cells #[J (ck+n),J (wt),J (gn),.slice mA2 ms2.length mC2,.slice oA2 os.length oC2] cO (0,0))]) (Lt:=Lm) (M:=Lo) H ho2 I (cap:=[.pointer (Qd b3)]) xM (fun m=>decide (wt<=(ck+n)-m.heard)) (fun e he w' L' H'=>FU e b3 (ck+n) wt gn _ _ w' (H'.ent (i:=1) Z) (hhd e he).1 (by have:=(hhd e he).2;omega) I hcl)) Z Z ?_
 rintro _ w8 ⟨L9,rfl,ho9,H⟩
 have hl9:(ms2.filter fun m=>!decide (wt<=(ck+n)-m.heard)).length<=6:=by have:=List.length_filter_le (fun m:Mem=>!decide (wt<=(ck+n)-m.heard)) ms2;omega
 refine G (Zf dN Z)<|bg H 1 (#[J (ck+n),J (wt),J (gn),.slice mA2 ((ms2.filter fun m=>!decide (wt<=(ck+n)-m.heard)).length) mC2,.slice oA2 os.length oC2]) tp Z Z Z Z Z N N fun w9 H=>U<|W<|W<|Zr<|G (Zf dN Z)<|G (Zd dv H 1 Z Z Z)<|G (br gu Z)<|G (Yi Z) ?_
 refine cW (bp Z Z) Z Z Z (fun h55=> ?_) (fun h55=> ?_)
 have hall:(ms2.filter fun m=>!decide (wt<=(ck+n)-m.heard))=ms2:=GT I
 have hsl:((ms2.filter fun m=>!decide (wt<=(ck+n)-m.heard)).map Mem.a)=(ms.map Mem.a).filter fun m=>!tq (Gr.a ⟨ck,wt,gn,ms,mA,mC,os,oA,oC⟩) n m:=by rw[Fq _ _ (fun _=>rfl),hma];rfl
 refine U<|ZT Z<|W<|Zr<|G (Zw aN H 1 Z Z Z)<|bg H 0 (#[J (ck+n),J (wt),J (gn),.slice mA2 ((ms2.filter fun m=>!decide (wt<=(ck+n)-m.heard)).length) mC2,.slice oA2 os.length oC2]) bF Z Z Z Z Z N N fun w10 H=>G (Wi Z)<|U<|Zt ?_
 have hT:pN (Gr.a ⟨ck,wt,gn,ms,mA,mC,os,oA,oC⟩) n p={Gr.a ⟨ck,wt,gn,ms,mA,mC,os,oA,oC⟩with clock:=ck+n}:=by unfold pN;rw[if_pos (by show((ms.map Mem.a).filter _).length=(ms.map Mem.a).length;rw[<-hsl,bI,bI];omega)];rfl
 rw[hT]
 rw[hall]at ho9
 exact bG (cs0:= #[J (ck+n),J (wt),J (gn),.slice mA2 (((ms2.filter fun m=>!decide (wt<=(ck+n)-m.heard))).length) mC2,.slice oA2 os.length oC2]) (v1:=J 0) Z aN Z (H.ent (i:=0) Z) Z Z ⟨⟨ck+n,wt,gn,ms2,mA2,mC2,os,oA2,oC2⟩,by rw[hall];rfl,by unfold Gr.a;dsimp only;rw[hma],qO.new (ga:=Gr.a ⟨ck+n,wt,gn,ms2,mA2,mC2,os,oA2,oC2⟩) ⟨rfl,ho9,hoo2,hmc2,hoc2,hpc2,H.forget (by rw[aE];exact .cons _ (.cons _ (ar _))) (fun f hf=>by simp only[ay,ax];grind)⟩ (by dsimp only;omega) (by dsimp only;omega) (iJ hma hmo)⟩
 have hsl:((ms2.filter fun m=>!decide (wt<=(ck+n)-m.heard)).map Mem.a)=(ms.map Mem.a).filter fun m=>!tq (Gr.a ⟨ck,wt,gn,ms,mA,mC,os,oA,oC⟩) n m:=by rw[Fq _ _ (fun _=>rfl),hma];rfl
 refine U<|ZF Z<|Zk<|W<|Zr<|G (Zw aN H 1 Z Z Z)<|G (Yi Z)<|ch qM (yv (ck+n) wt gn (ms2.filter fun m=>!decide (wt<=(ck+n)-m.heard)) mA2 mC2 os oA2 oC2 p (H.perm (sj [(b6,.cells #[J (0),J (0),J (0),.slice none 0 0,.slice none 0 0] cO (0,0)),(b3,.cells #[J (ck+n),J (wt),J (gn),.slice mA2 ((ms2.filter fun m=>!decide (wt<=(ck+n)-m.heard)).length) mC2,.slice oA2 os.length oC2] cO (0,0))] L9 Lo).symm) ho9 I hp I I) Z Z ?_
 rintro _ w11 ⟨ms4,L4,rfl,ha4,ho4,hc4,H⟩
 replace H:=H.perm (sj [(b6,.cells #[J (0),J (0),J (0),.slice none 0 0,.slice none 0 0] cO (0,0)),(b3,.cells #[J (ck+n),J (wt),J (gn),.slice mA2 ((ms2.filter fun m=>!decide (wt<=(ck+n)-m.heard)).length) mC2,.slice oA2 os.length oC2] cO (0,0))] L4 Lo)
 rw[Lv]at ha4
 refine bg H 0 (#[J (ck+n),J (wt),J (gn+1),.slice mA2 ms4.length mC2,.slice oA2 os.length oC2]) bF Z Z Z Z Z N N fun w12 H=>G (Wi Z)<|U<|Zt ?_
 have hT:pN (Gr.a ⟨ck,wt,gn,ms,mA,mC,os,oA,oC⟩) n p=G5 {Gr.a ⟨ck,wt,gn,ms,mA,mC,os,oA,oC⟩with clock:=ck+n,ms:=(ms.map Mem.a).filter fun m=>!tq (Gr.a ⟨ck,wt,gn,ms,mA,mC,os,oA,oC⟩) n m} p:=by unfold pN;rw[if_neg (by show¬ ((ms.map Mem.a).filter _).length=(ms.map Mem.a).length;rw[<-hsl,bI,bI];omega)];rfl
 rw[hT]
 exact bG (cs0:= #[J (ck+n),J (wt),J (gn+1),.slice mA2 ms4.length mC2,.slice oA2 os.length oC2]) (v1:=J 0) Z aN Z (H.ent (i:=0) Z) Z Z ⟨⟨ck+n,wt,gn+1,ms4,mA2,mC2,os,oA2,oC2⟩,rfl,by unfold Gr.a G5;dsimp only;rw[ha4,hsl];rfl,HK ha4 hl9 hp I ho4 hoo2 hoc2 hc4 (H.forget (by rw[aE];exact .cons _ (.cons _ (ar _))) (fun f hf=>by simp only[ay,ax];grind))⟩
theorem lM {α:Type} {Y:fo α} {w0 w:World} {L:List (Nat×Obj)} {F:List cz} {lo hi:Nat} {A:Option Addr} {es:List α} (H:Hp w0 w L F) (hf:dT Y lo hi A es∈F):Rd Y 0 w.heap.size A es w:=by
 obtain⟨h1,h2,-⟩:=H.facts _ hf
 exact Rd.mono h1 (bK _) h2
def Ll (g:Gr) (i:Nat) (t:Mem):Gr:={g with ms:=g.ms.set i {t with heard:=g.clock}}
def tk (os:List me) (part:Int):Int:=match os.find? fun o=>decide (o.part=part)with|some o=>o.at_|none=>0
def mp (os:List me) (part:Int):Nat:=(os.takeWhile fun o=>decide (o.part<part)).length
def gN (os:List me) (part at_:Int):List me:=
 if(os[mp os part]?).map me.part=some part then os.set (mp os part) ⟨part,at_⟩else os.take (mp os part)++[⟨part,at_⟩]++os.drop (mp os part)
theorem zh {α:Type} {f:α->Bool}: ∀ {l:List α} {k:Nat},(∀ x∈l.take k,f x=true)->(∀ x,l[k]? =some x->f x=false)->k<=l.length->(l.takeWhile f).length=k
 |[],k,_,_,h=>by simp at h;simp[h]
 |x::l,0,_,h2,_=>by rw[List.takeWhile_cons_of_neg (by rw[h2 x Z];decide)];rfl
 |x::l,k+1,h1,h2,h3=>by
  rw[List.takeWhile_cons_of_pos (h1 x (by simp)),bS,zh (k:=k) (fun y hy=>h1 y (by simp[hy])) h2 (by simpa using h3)]
theorem Dl (es:List Int) (v:Int) (A:Option Addr) (c:Nat) (w:World) (hr:Rd bW 0 w.heap.size A es w) (hb:es.length<=1000000):dg ab rI [.slice A es.length c,J v] w fun r w2=>(∃ k:Int,r=J k/\(v∈es↔0<=k)/\ -1<=k/\k<=1000000)/\Below w.heap.size w w2:=by
 refine aF rg Z Z ?_
 have H:=Hp.startRd hr
 refine W<|Zr<|G (Wi Z)<|U<|W<|W<|Zr<|G (Ys Z)<|G (br eJ Z)<|G (Yi Z)<|U<|Zb ?_
 refine cy (τ:=Nat) [4,5,8,9,10,11,12,13,14,15,16,17,18] (fun k=>[(8,J (k:Nat))]) (fun k w'=>k<=es.length/\v∉es.take k/\Hp w w' [] [dT bW 0 w.heap.size A es]) (fun k=>es.length-k) 0 ⟨by omega,by simp,H⟩ (dJ Z) ?_
 rintro k ρ1 w1 ⟨hk,hno,H⟩
 show CW _ _ _ _ (dH (gJ _ _ ρ1) [(8,J (k:Nat))]) w1
 refine W<|Zr ?_
 refine cW (cK Z Z) Z Z Z (fun h9=> ?_) (fun h9=> ?_)
 obtain⟨x,hx⟩: ∃ x,es[k]? =some x:=⟨_,ai I⟩
 refine U<|W<|ZT Z<|Zk<|W<|Zb<|W<|Zr<|G (Yi Z)<|G (Wi Z)<|U<|W<|Zr<|G (Yi Z)<|G (Ys Z)<|G (Yi Z)<|ql H 0 Z aT Z Z I I Z fun bq2 o2 x2 e2=> ?_
 obtain rfl:x=x2:=by have:=e2.at_;rw[hx]at this;exact bN this
 refine G (aX ak Z (e2.cl 0 _ Z)) ?_
 refine cW (bp Z Z) Z Z Z (fun h16=> ?_) (fun h16=> ?_)
 refine U<|ZT Z<|W<|Zr<|G (Yi Z)<|G (Wi Z)<|U<|Zt ?_
 exact cH (v:=J (k:Nat)) Z Z ⟨⟨(k:Nat),rfl,⟨fun _=>by omega,fun _=>by rw[h16];exact ah hx⟩,by omega,by omega⟩,H.below⟩
 refine U<|ZF Z<|Zk<|Zr<|G (bz Z Z I I)<|G (Yi Z)<|U ?_
 exact⟨k+1,⟨by omega,by rw[fi hx];simp only[ax,au];rintro(h|h);exact hno h;exact h16 h,H⟩,dJ Z,Qg,by show es.length- (k+1)<es.length-k;omega⟩
 refine U<|W<|ZF Z<|Zx<|W<|Zr<|G (Wi Z)<|U<|Zt ?_
 have hke:k=es.length:=by omega
 rw[hke,bZ]at hno
 exact cH (v:=J (-1)) Z Z ⟨⟨-1,rfl,⟨fun h=>absurd h hno,fun h=>absurd h (by decide)⟩,by omega,by omega⟩,H.below⟩
theorem ly (es:List Int) (v:Int) (A:Option Addr) (c:Nat) (w:World) (hr:Rd bW 0 w.heap.size A es w) (hb:es.length<=1000000):dg ab pV [.slice A es.length c,J v] w fun r w2=>r=.bool (decide (v∈es))/\Below w.heap.size w w2:=by
 refine aF px Z Z ?_
 have H:=Hp.startRd hr
 refine W<|Zr<|G (Wb Z)<|U<|W<|Zr<|G (Ys Z)<|G (Yi Z)<|ch rx (Dl es v A c _ (H.rd0 0 Z) hb) Z Z ?_
 rintro _ w1 ⟨⟨k,rfl,hk,-,-⟩,hb2⟩;replace H:=H.later hb2;clear hb2
 refine G (kf Z Z)<|G (Wb Z)<|U<|Zt ?_
 exact cH (v:=.bool (decide (0<=k))) Z Z ⟨by rw[decide_eq_decide.2 hk.symm],H.below⟩
theorem Jj (g:Gr) (s:ByteArray) (gn_:Int) (w:World) (h:g.rd 0 w.heap.size w) (hok:kV g=true) (hn:bQ s=true) (hi:pX g s= -1):dg ab pr [g.v,.string s,J gn_] w fun v w2=>v=.tuple #[.agg #[J 0,J 0,J 0,.slice none 0 0,.slice none 0 0],J 5]/\Below w.heap.size w w2:=by
 refine aF rp Z Z ?_
 have hmC:=h.mC
 have hoC:=h.oC
 have hfew:=h.few
 have hfp:=h.fewP
 have H:=Hp.startGr h
 obtain⟨ck,wt,gn,ms,mA,mC,os,oA,oC⟩:=g
 dsimp only at hmC hoC hfew hfp H
 show CW _ _ _ _ (args [.agg #[J (ck),J (wt),J (gn),.slice mA ms.length mC,.slice oA os.length oC],.string (s),J (gn_)]) w
 obtain⟨⟨⟨k1,k2⟩,k3,k4,⟨k5,k6⟩,k7,k8⟩,⟨hmo,hap⟩,hof,hor⟩:=dA.1 hok
 dsimp only at k1 k2 k3 k4 k5 k6 k7 k8 hmo
 refine W<|Zr<|fW H Z Z fun w1 b3 H=>eI H d9 Z fun w2 b6 H=>G (Wi Z)<|U<|W<|Zr<|G (Zw aN H 1 Z Z Z)<|G (Yt Z)<|G (Yi Z)<|ch ic (Ct ⟨ck,wt,gn,ms,mA,mC,os,oA,oC⟩ s gn_ _ ⟨H.rd0 0 Z,fun m hm=>y1 H 1 Z hm,H.rd0 2 Z,hmC,hoC,hfew,hfp⟩ hok hn hi) Z Z ?_
 rintro _ w3 ⟨rfl,hb⟩;replace H:=H.later hb;clear hb
 refine G (Yu Z)<|G (Xa Z Z)<|G (Xi Z Z)<|G (Xi Z Z)<|bg H 1 (#[J (0),J (0),J (0),.slice none 0 0,.slice none 0 0]) bF Z Z Z Z Z N N fun w4 H=>G (Wi Z)<|G (Wi Z)<|U<|W<|W<|Zr<|G (Yi Z)<|G (j9 Z Z (by decide))<|U<|ZT Z<|W<|Zr<|G (bn (cs:= #[J (0),J (0),J (0),.slice none 0 0,.slice none 0 0]) j4 d9 N)<|G (Yi Z)<|bg H 0 (#[J (0),J (0),J (0),.slice none 0 0,.slice none 0 0]) bF Z Z Z Z Z N N fun w5 H=>G (Wi Z)<|U<|Zt ?_
 exact bG (cs0:= #[J 0,J 0,J 0,.slice none 0 0,.slice none 0 0]) (v1:=J 5) Z aN Z (H.ent (i:=0) Z) Z Z ⟨rfl,H.below⟩
theorem G3 (g:Gr) (s:ByteArray) (gn_:Int) (w:World) (h:g.rd 0 w.heap.size w) (hok:kV g=true) (hn:bQ s=true) (i:Nat) (hi:pX g s=i) (hg:g.gen≠gn_):dg ab pr [g.v,.string s,J gn_] w fun v w2=>v=.tuple #[.agg #[J 0,J 0,J 0,.slice none 0 0,.slice none 0 0],J 10]/\Below w.heap.size w w2:=by
 refine aF rp Z Z ?_
 have hmC:=h.mC
 have hoC:=h.oC
 have hfew:=h.few
 have hfp:=h.fewP
 have H:=Hp.startGr h
 obtain⟨ck,wt,gn,ms,mA,mC,os,oA,oC⟩:=g
 dsimp only at hmC hoC hfew hfp H
 show CW _ _ _ _ (args [.agg #[J (ck),J (wt),J (gn),.slice mA ms.length mC,.slice oA os.length oC],.string (s),J (gn_)]) w
 obtain⟨⟨⟨k1,k2⟩,k3,k4,⟨k5,k6⟩,k7,k8⟩,⟨hmo,hap⟩,hof,hor⟩:=dA.1 hok
 dsimp only at k1 k2 k3 k4 k5 k6 k7 k8 hmo
 refine W<|Zr<|fW H Z Z fun w1 b3 H=>eI H d9 Z fun w2 b6 H=>G (Wi Z)<|U<|W<|Zr<|G (Zw aN H 1 Z Z Z)<|G (Yt Z)<|G (Yi Z)<|ch ic (Af ⟨ck,wt,gn,ms,mA,mC,os,oA,oC⟩ s gn_ _ ⟨H.rd0 0 Z,fun m hm=>y1 H 1 Z hm,H.rd0 2 Z,hmC,hoC,hfew,hfp⟩ hok hn i hi hg) Z Z ?_
 rintro _ w3 ⟨rfl,hb⟩;replace H:=H.later hb;clear hb
 refine G (Yu Z)<|G (Xa Z Z)<|G (Xi Z Z)<|G (Xi Z Z)<|bg H 1 (#[J (0),J (0),J (0),.slice none 0 0,.slice none 0 0]) bF Z Z Z Z Z N N fun w4 H=>G (Wi Z)<|G (Wi Z)<|U<|W<|W<|Zr<|G (Yi Z)<|G (j9 Z Z (by decide))<|U<|ZT Z<|W<|Zr<|G (bn (cs:= #[J (0),J (0),J (0),.slice none 0 0,.slice none 0 0]) j4 d9 N)<|G (Yi Z)<|bg H 0 (#[J (0),J (0),J (0),.slice none 0 0,.slice none 0 0]) bF Z Z Z Z Z N N fun w5 H=>G (Wi Z)<|U<|Zt ?_
 exact bG (cs0:= #[J 0,J 0,J 0,.slice none 0 0,.slice none 0 0]) (v1:=J 10) Z aN Z (H.ent (i:=0) Z) Z Z ⟨rfl,H.below⟩
theorem M1 (g:Gr) (s:ByteArray) (gn_:Int) (w:World) (h:g.rd 0 w.heap.size w) (hok:kV g=true) (hn:bQ s=true) (i:Nat) (t:Mem) (hi:pX g s=i) (ht:g.ms[i]? =some t) (hg:g.gen=gn_):dg ab pr [g.v,.string s,J gn_] w fun v w2=> ∃ g':Gr,v=.tuple #[g'.v,J 0]/\g'.a=Ll g.a i t.a/\yw w w2 g':=by
 refine aF rp Z Z ?_
 have hmC:=h.mC
 have hoC:=h.oC
 have hfew:=h.few
 have hfp:=h.fewP
 have H:=Hp.startGr h
 obtain⟨ck,wt,gn,ms,mA,mC,os,oA,oC⟩:=g
 dsimp only at hmC hoC hfew hfp H
 show CW _ _ _ _ (args [.agg #[J (ck),J (wt),J (gn),.slice mA ms.length mC,.slice oA os.length oC],.string (s),J (gn_)]) w
 obtain⟨⟨⟨k1,k2⟩,k3,k4,⟨k5,k6⟩,k7,k8⟩,⟨hmo,hap⟩,hof,hor⟩:=dA.1 hok
 dsimp only at k1 k2 k3 k4 k5 k6 k7 k8 hmo
 dsimp only at ht
 refine W<|Zr<|fW H Z Z fun w1 b3 H=>eI H d9 Z fun w2 b6 H=>G (Wi Z)<|U<|W<|Zr<|G (Zw aN H 1 Z Z Z)<|G (Yt Z)<|G (Yi Z)<|ch ic (y3 ⟨ck,wt,gn,ms,mA,mC,os,oA,oC⟩ s gn_ _ ⟨H.rd0 0 Z,fun m hm=>y1 H 1 Z hm,H.rd0 2 Z,hmC,hoC,hfew,hfp⟩ hok hn i hi hg) Z Z ?_
 rintro _ w3 ⟨⟨ck2,wt2,gn2,ms2,mA2,mC2,os2,oA2,oC2⟩,Lm,Lo,rfl,ha2,ho2,hoo2,hmc2,hoc2,hpc2,hj2⟩
 have hlo2:=H.size
 replace H:=Hp.joinG H hj2 (fun m hm=>(hpc2 m hm).2);clear hj2
 simp only[Gr.a,Gr.mk.injEq]at ha2
 obtain⟨e1,e2,e3,hma,-,-,e4,-,-⟩:=ha2
 obtain rfl:ck=ck2:=e1.symm
 obtain rfl:wt=wt2:=e2.symm
 obtain rfl:gn=gn2:=e3.symm
 obtain rfl:os=os2:=e4.symm
 dsimp only at ho2 hoo2 hmc2 hoc2 hpc2 H
 replace hpc2: ∀ m∈ms2,m.parts.length<=m.cap/\w.heap.size<=m.lo:=fun m hm=>⟨(hpc2 m hm).1,aS hlo2 (hpc2 m hm).2⟩
 have hml2:ms2.length=ms.length:=by have:=congrArg cB hma;simpa using this
 refine G (Yu Z)<|G (Xa Z Z)<|G (Xi Z Z)<|G (Xi Z Z)<|bg H 1 (#[J (ck),J (wt),J (gn),.slice mA2 ms2.length mC2,.slice oA2 os.length oC2]) bF Z Z Z Z Z N N fun w4 H=>G (Wi Z)<|G (Wi Z)<|U<|W<|W<|Zr<|G (Yi Z)<|G (ce Z Z Z)<|U<|ZF Z<|Zk<|W ?_
 obtain⟨t2,ht2,hta⟩:=zM hma ht
 have hl2:=(bT ht2).1
 obtain⟨g,cur,rfl,rfl,row⟩:=ho2.row I
 refine Zr<|G (Zf dN Z)<|G (Zd dv H 1 Z Z Z)<|G (Yi Z)<|G (Zf jy Z)<|G (Zd ak H 1 Z Z Z)<|G (bV eD Z Z (by first|omega|(simp only[aa];omega)))<|G (Zf qH Z)<|im H 2 ({t2 with heard:=ck}) bw row ht2 1 Z Z Z Z Z Z N fun w6 cur5 row5 H=> ?_
 have hs7:(ms2.set i ({t2 with heard:=ck}))[i]? =some ({t2 with heard:=ck}):=ae (bT ht2).1
 refine U<|W<|Zr<|G (Zw aN H 1 Z Z Z)<|bg H 0 (#[J (ck),J (wt),J (gn),.slice (Qd g) ms2.length mC2,.slice oA2 os.length oC2]) bF Z Z Z Z Z N N fun w8 H=>G (Wi Z)<|U<|Zt ?_
 have hmf:(ms2.set i {t2 with heard:=ck}).map nb=ms2.map nb:=by rw[cD];apply eN;intro j;rw[lw];split;(rename_i hj;subst hj;rw[aL,ht2,if_pos (by simpa using hl2)];rfl);rfl
 have hma3:(ms2.set i {t2 with heard:=ck}).map Mem.a=(ms.map Mem.a).set i {t.a with heard:=ck}:=by rw[cD,hma];congr 1;exact congrArg (fun x:Mem=>({x with heard:=ck}:Mem)) hta
 have hpl:=iJ hma hmo
 have hown:=dz.own (g:=g) (e:=df) row5
 exact bG (cs0:= #[J (ck),J (wt),J (gn),.slice (Qd g) ms2.length mC2,.slice oA2 os.length oC2]) (v1:=J 0) Z aN Z (H.ent (i:=0) Z) Z Z ⟨⟨ck,wt,gn,ms2.set i {t2 with heard:=ck},some ⟨g,0,none⟩,mC2,os,oA2,oC2⟩,by unfold Gr.v Gr.c;dsimp only;rw[aa],by unfold Gr.a Ll;dsimp only;rw[hma3],qO.new (ga:=Gr.a ⟨ck,wt,gn,ms2.set i {t2 with heard:=ck},some ⟨g,0,none⟩,mC2,os,oA2,oC2⟩) ⟨rfl,hown,hoo2,by dsimp only;rw[aa];exact hmc2,hoc2,fun m hm=>(by rcases bH hm with hm|rfl;exact hpc2 m hm;exact hpc2 t2 (ah ht2)),H.forget (.cons _ (.cons _ (ar _))) (fun f hf=>by dsimp only at hf;rw[hmf]at hf;exact cm _ hf)⟩ (by dsimp only;rw[aa];omega) (by dsimp only;omega) (fun m hm=>(by rcases bH hm with hm|rfl;exact hpl m hm;exact hpl t2 (ah ht2)))⟩
theorem HW {os:List me} {part:Int} {k:Nat} {o:me} (ho:os[k]? =some o) (hp:o.part=part) (hno: ∀ x∈os.take k,x.part≠part):tk os part=o.at_:=by
 have:(os.find? fun o=>decide (o.part=part))=some o:=by
  rw[<-gM k os,List.find?_append,Bb.2 fun x hx=>by simpa using hno x hx,cP ho,List.find?_cons_of_pos (by simpa using hp)]
  rfl
 unfold tk
 rw[this]
theorem FR {os:List me} {part:Int} (hno: ∀ x∈os,x.part≠part):tk os part=0:=by
 unfold tk
 rw[Bb.2 fun x hx=>by simpa using hno x hx]
theorem m7 (os:List me) (part at_:Int):(gN os part at_).length<=os.length+1:=by
 unfold gN
 split
 rw[aa];omega
 rw[az,az,aI,dL,bU];omega
theorem FQ (g:Gr) (s:ByteArray) (part:Int) (w:World) (h:g.rd 0 w.heap.size w) (hok:kV g=true) (hn:bQ s=true) (hi:pX g s= -1):dg ab nO [g.v,.string s,J part] w fun v w2=>v=.tuple #[J 0,J 5]/\Below w.heap.size w w2:=by
 refine aF p6 Z Z ?_
 have hmC:=h.mC
 have hoC:=h.oC
 have hfew:=h.few
 have hfp:=h.fewP
 have H:=Hp.startGr h
 obtain⟨ck,wt,gn,ms,mA,mC,os,oA,oC⟩:=g
 dsimp only at hmC hoC hfew hfp H
 show CW _ _ _ _ (args [.agg #[J (ck),J (wt),J (gn),.slice mA ms.length mC,.slice oA os.length oC],.string (s),J (part)]) w
 obtain⟨⟨⟨k1,k2⟩,k3,k4,⟨k5,k6⟩,k7,k8⟩,⟨hmo,hap⟩,hof,hor⟩:=dA.1 hok
 dsimp only at k1 k2 k3 k4 k5 k6 k7 k8 hmo
 refine W<|Zr<|fW H Z Z fun w1 b3 H=>G (Wi Z)<|G (Wi Z)<|U<|W<|Zr<|G (Zw aN H 0 Z Z Z)<|G (Yt Z)<|ch gk (mw ⟨ck,wt,gn,ms,mA,mC,os,oA,oC⟩ s _ ⟨H.rd0 0 Z,fun m hm=>y1 H 1 Z hm,H.rd0 2 Z,hmC,hoC,hfew,hfp⟩ hok hn) Z Z ?_
 rintro _ w2 ⟨⟨ck2,wt2,gn2,ms2,mA2,mC2,os2,oA2,oC2⟩,Lm,Lo,rfl,ha2,ho2,hoo2,hmc2,hoc2,hpc2,hj2⟩
 have hlo2:=H.size
 replace H:=Hp.joinG H hj2 (fun m hm=>(hpc2 m hm).2);clear hj2
 simp only[Gr.a,Gr.mk.injEq]at ha2
 obtain⟨e1,e2,e3,hma,-,-,e4,-,-⟩:=ha2
 obtain rfl:ck=ck2:=e1.symm
 obtain rfl:wt=wt2:=e2.symm
 obtain rfl:gn=gn2:=e3.symm
 obtain rfl:os=os2:=e4.symm
 dsimp only at ho2 hoo2 hmc2 hoc2 hpc2 H
 replace hpc2: ∀ m∈ms2,m.parts.length<=m.cap/\w.heap.size<=m.lo:=fun m hm=>⟨(hpc2 m hm).1,aS hlo2 (hpc2 m hm).2⟩
 have hml2:ms2.length=ms.length:=by have:=congrArg cB hma;simpa using this
 rw[hi]
 refine G (Yu Z)<|G (Xa Z Z)<|G (Xi Z Z)<|G (Xi Z Z)<|bg H 0 (#[J (ck),J (wt),J (gn),.slice mA2 ms2.length mC2,.slice oA2 os.length oC2]) bF Z Z Z Z Z N N fun w3 H=>G (Wi Z)<|G (Wi Z)<|U<|W<|Zb<|W<|Zr<|G (Yi Z)<|G (ce Z Z Z)<|G (Wb Z)<|U<|ZF Z<|W<|Zr<|G (Yi Z)<|G (xv Z Z (by decide))<|G (Wb Z)<|U<|ZT Z<|W<|Zr<|G (Wi Z)<|G (Wi Z)<|U<|Zt ?_
 exact ma (v:=J 0) (v2:=J 5) Z Z Z ⟨rfl,H.below⟩
theorem Ed (g:Gr) (s:ByteArray) (part:Int) (w:World) (h:g.rd 0 w.heap.size w) (hok:kV g=true) (hn:bQ s=true) (i:Nat) (t:Mem) (hi:pX g s=i) (ht:g.ms[i]? =some t) (hpt:part∉t.parts):dg ab nO [g.v,.string s,J part] w fun v w2=>v=.tuple #[J 0,J 12]/\Below w.heap.size w w2:=by
 refine aF p6 Z Z ?_
 have hmC:=h.mC
 have hoC:=h.oC
 have hfew:=h.few
 have hfp:=h.fewP
 have H:=Hp.startGr h
 obtain⟨ck,wt,gn,ms,mA,mC,os,oA,oC⟩:=g
 dsimp only at hmC hoC hfew hfp H
 show CW _ _ _ _ (args [.agg #[J (ck),J (wt),J (gn),.slice mA ms.length mC,.slice oA os.length oC],.string (s),J (part)]) w
 obtain⟨⟨⟨k1,k2⟩,k3,k4,⟨k5,k6⟩,k7,k8⟩,⟨hmo,hap⟩,hof,hor⟩:=dA.1 hok
 dsimp only at k1 k2 k3 k4 k5 k6 k7 k8 hmo
 dsimp only at ht
 refine W<|Zr<|fW H Z Z fun w1 b3 H=>G (Wi Z)<|G (Wi Z)<|U<|W<|Zr<|G (Zw aN H 0 Z Z Z)<|G (Yt Z)<|ch gk (mw ⟨ck,wt,gn,ms,mA,mC,os,oA,oC⟩ s _ ⟨H.rd0 0 Z,fun m hm=>y1 H 1 Z hm,H.rd0 2 Z,hmC,hoC,hfew,hfp⟩ hok hn) Z Z ?_
 rintro _ w2 ⟨⟨ck2,wt2,gn2,ms2,mA2,mC2,os2,oA2,oC2⟩,Lm,Lo,rfl,ha2,ho2,hoo2,hmc2,hoc2,hpc2,hj2⟩
 have hlo2:=H.size
 replace H:=Hp.joinG H hj2 (fun m hm=>(hpc2 m hm).2);clear hj2
 simp only[Gr.a,Gr.mk.injEq]at ha2
 obtain⟨e1,e2,e3,hma,-,-,e4,-,-⟩:=ha2
 obtain rfl:ck=ck2:=e1.symm
 obtain rfl:wt=wt2:=e2.symm
 obtain rfl:gn=gn2:=e3.symm
 obtain rfl:os=os2:=e4.symm
 dsimp only at ho2 hoo2 hmc2 hoc2 hpc2 H
 replace hpc2: ∀ m∈ms2,m.parts.length<=m.cap/\w.heap.size<=m.lo:=fun m hm=>⟨(hpc2 m hm).1,aS hlo2 (hpc2 m hm).2⟩
 have hml2:ms2.length=ms.length:=by have:=congrArg cB hma;simpa using this
 rw[hi]
 refine G (Yu Z)<|G (Xa Z Z)<|G (Xi Z Z)<|G (Xi Z Z)<|bg H 0 (#[J (ck),J (wt),J (gn),.slice mA2 ms2.length mC2,.slice oA2 os.length oC2]) bF Z Z Z Z Z N N fun w3 H=>G (Wi Z)<|G (Wi Z)<|U<|W<|Zb<|W<|Zr<|G (Yi Z)<|G (ce Z Z Z)<|G (Wb Z)<|U<|ZF Z<|W<|Zr<|G (Yi Z)<|G (dd Z Z I)<|G (Wb Z)<|U<|ZF Z<|W ?_
 obtain⟨t2,ht2,hta⟩:=zM hma ht
 have hl2:=(bT ht2).1
 obtain⟨g,cur,rfl,rfl,row⟩:=ho2.row I
 have htp:t2.parts=t.parts:=(congrArg Mem.parts hta:t2.a.parts=t.a.parts)
 have hpl:=iJ hma hmo t2 (ah ht2)
 have hrp:=lM H (show nb t2∈_ from cm _ (bP (ah ht2)))
 refine Zr<|G (Zf dN Z)<|G (Zd dv H 0 Z Z Z)<|G (Yi Z)<|G (bV eD Z Z (by first|omega|(simp only[aa];omega)))<|G (Zf iU Z)<|G (bf bL row ht2 2 Z (H.ent (i:=1) Z) Z)<|G (Yi Z)<|ch fB (ly t2.parts part t2.A t2.cap _ (lM H (show nb t2∈_ from by first|exact cm _ (bP (ah ht2))|simp[ah ht2])) I) Z Z ?_
 rw[htp,decide_eq_false hpt]
 rintro _ w4 ⟨rfl,hb⟩;replace H:=H.later hb;clear hb
 refine G (dR Z)<|G (Wb Z)<|U<|ZT Z<|W<|Zr<|G (Wi Z)<|G (Wi Z)<|U<|Zt ?_
 exact ma (v:=J 0) (v2:=J 12) Z Z Z ⟨rfl,H.below⟩
theorem JI (g:Gr) (s:ByteArray) (part:Int) (w:World) (h:g.rd 0 w.heap.size w) (hok:kV g=true) (hn:bQ s=true) (i:Nat) (t:Mem) (hi:pX g s=i) (ht:g.ms[i]? =some t) (hpt:part∈t.parts):dg ab nO [g.v,.string s,J part] w fun v w2=>v=.tuple #[J (tk g.os part),J 0]/\Below w.heap.size w w2:=by
 refine aF p6 Z Z ?_
 have hmC:=h.mC
 have hoC:=h.oC
 have hfew:=h.few
 have hfp:=h.fewP
 have H:=Hp.startGr h
 obtain⟨ck,wt,gn,ms,mA,mC,os,oA,oC⟩:=g
 dsimp only at hmC hoC hfew hfp H
 show CW _ _ _ _ (args [.agg #[J (ck),J (wt),J (gn),.slice mA ms.length mC,.slice oA os.length oC],.string (s),J (part)]) w
 obtain⟨⟨⟨k1,k2⟩,k3,k4,⟨k5,k6⟩,k7,k8⟩,⟨hmo,hap⟩,hof,hor⟩:=dA.1 hok
 dsimp only at k1 k2 k3 k4 k5 k6 k7 k8 hmo
 dsimp only at ht
 refine W<|Zr<|fW H Z Z fun w1 b3 H=>G (Wi Z)<|G (Wi Z)<|U<|W<|Zr<|G (Zw aN H 0 Z Z Z)<|G (Yt Z)<|ch gk (mw ⟨ck,wt,gn,ms,mA,mC,os,oA,oC⟩ s _ ⟨H.rd0 0 Z,fun m hm=>y1 H 1 Z hm,H.rd0 2 Z,hmC,hoC,hfew,hfp⟩ hok hn) Z Z ?_
 rintro _ w2 ⟨⟨ck2,wt2,gn2,ms2,mA2,mC2,os2,oA2,oC2⟩,Lm,Lo,rfl,ha2,ho2,hoo2,hmc2,hoc2,hpc2,hj2⟩
 have hlo2:=H.size
 replace H:=Hp.joinG H hj2 (fun m hm=>(hpc2 m hm).2);clear hj2
 simp only[Gr.a,Gr.mk.injEq]at ha2
 obtain⟨e1,e2,e3,hma,-,-,e4,-,-⟩:=ha2
 obtain rfl:ck=ck2:=e1.symm
 obtain rfl:wt=wt2:=e2.symm
 obtain rfl:gn=gn2:=e3.symm
 obtain rfl:os=os2:=e4.symm
 dsimp only at ho2 hoo2 hmc2 hoc2 hpc2 H
 replace hpc2: ∀ m∈ms2,m.parts.length<=m.cap/\w.heap.size<=m.lo:=fun m hm=>⟨(hpc2 m hm).1,aS hlo2 (hpc2 m hm).2⟩
 have hml2:ms2.length=ms.length:=by have:=congrArg cB hma;simpa using this
 rw[hi]
 refine G (Yu Z)<|G (Xa Z Z)<|G (Xi Z Z)<|G (Xi Z Z)<|bg H 0 (#[J (ck),J (wt),J (gn),.slice mA2 ms2.length mC2,.slice oA2 os.length oC2]) bF Z Z Z Z Z N N fun w3 H=>G (Wi Z)<|G (Wi Z)<|U<|W<|Zb<|W<|Zr<|G (Yi Z)<|G (ce Z Z Z)<|G (Wb Z)<|U<|ZF Z<|W<|Zr<|G (Yi Z)<|G (dd Z Z I)<|G (Wb Z)<|U<|ZF Z<|W ?_
 obtain⟨t2,ht2,hta⟩:=zM hma ht
 have hl2:=(bT ht2).1
 obtain⟨g,cur,rfl,rfl,row⟩:=ho2.row I
 have htp:t2.parts=t.parts:=(congrArg Mem.parts hta:t2.a.parts=t.a.parts)
 have hpl:=iJ hma hmo t2 (ah ht2)
 have hrp:=lM H (show nb t2∈_ from cm _ (bP (ah ht2)))
 refine Zr<|G (Zf dN Z)<|G (Zd dv H 0 Z Z Z)<|G (Yi Z)<|G (bV eD Z Z (by first|omega|(simp only[aa];omega)))<|G (Zf iU Z)<|G (bf bL row ht2 2 Z (H.ent (i:=1) Z) Z)<|G (Yi Z)<|ch fB (ly t2.parts part t2.A t2.cap _ (lM H (show nb t2∈_ from by first|exact cm _ (bP (ah ht2))|simp[ah ht2])) I) Z Z ?_
 rw[htp,decide_eq_true hpt]
 rintro _ w4 ⟨rfl,hb⟩;replace H:=H.later hb;clear hb
 refine G (dR Z)<|G (Wb Z)<|U<|ZF Z<|Zk<|W<|W ?_
 obtain⟨lo3,hi3,H⟩:=Hp.sealO (K:=[(b3,.cells #[J (ck),J (wt),J (gn),.slice (Qd g) ms2.length mC2,.slice oA2 os.length oC2] cO (0,0)),(g,.cells cur df (0,0))]) (M:=[]) (by simpa using H) hoo2
 rw[aY]at H
 refine Zr<|G (Zf dZ Z)<|G (Zd eB H 0 Z Z Z)<|G (br hZ Z)<|G (Yi Z)<|U<|Zb ?_
 refine cy (τ:=Nat) [6,7,11,39,40,41,42,43,44,45,46,47,48,49] (fun k=>[(39,J (k:Nat))]) (fun k w'=>k<=os.length/\(∀ x∈os.take k,x.part≠part)/\Hp w w' [(b3,.cells #[J (ck),J (wt),J (gn),.slice (Qd g) ms2.length mC2,.slice oA2 os.length oC2] cO (0,0)),(g,.cells cur df (0,0))] (dT fV lo3 hi3 oA2 os::([dT jQ 0 w.heap.size mA ms,HS 0 w.heap.size ms,dT fV 0 w.heap.size oA os]++ms2.map nb))) (fun k=>os.length-k) 0 ⟨by omega,by simp,H⟩ (dJ Z) ?_
 rintro k ρ1 w5 ⟨hk,hno,H⟩
 show CW _ _ _ _ (dH (gJ _ _ ρ1) [(39,J (k:Nat))]) w5
 refine W<|Zr ?_
 refine cW (cK Z Z) Z Z Z (fun h40=> ?_) (fun h40=> ?_)
 obtain⟨o,ho⟩: ∃ o,os[k]? =some o:=⟨_,ai I⟩
 refine U<|W<|ZT Z<|Zk<|W<|Zb<|W<|Zr<|ql H 0 Z cZ Z Z I I Z fun bq6 o6 x6 e6=> ?_
 obtain rfl:o=x6:=by have:=e6.at_;rw[ho]at this;exact bN this
 refine G (jF (xs:=me.c o) AQ Z Z e6.cl)<|eI H lf Z fun w7 b11 H=>bg H 0 (#[J (o.part),J (o.at_)]) zr Z Z Z Z Z N N fun w8 H=>U<|W<|Zr<|G (Zf jn Z)<|G (Zd ak H 0 Z Z Z)<|G (Yi Z) ?_
 refine cW (bp Z Z) Z Z Z (fun h46=> ?_) (fun h46=> ?_)
 refine U<|ZT Z<|W<|Zr<|G (Zf oq Z)<|G (Zd ak H 0 Z Z Z)<|G (Wi Z)<|G (Wi Z)<|U<|Zt ?_
 exact ma (v:=J o.at_) (v2:=J 0) Z Z Z ⟨by rw[HW ho h46 hno],H.below⟩
 refine U<|ZF Z<|Zk<|Zr<|G (bz Z Z I I)<|G (Yi Z)<|U ?_
 exact⟨k+1,⟨by omega,by rw[fi ho];intro x hx;rcases ax.1 hx with hx|hx;exact hno x hx;rw[au.1 hx];exact h46,H.forget (.cons _ (ar _)) (fun _ h=>h)⟩,dJ Z,Qg,by show os.length- (k+1)<os.length-k;omega⟩
 refine U<|W<|ZF Z<|Zx<|W<|Zr<|G (Wi Z)<|G (Wi Z)<|U<|Zt ?_
 rw[show k=os.length by omega,bZ]at hno
 exact ma (v:=J 0) (v2:=J 0) Z Z Z ⟨by rw[FR hno],H.below⟩
theorem FW (g:Gr) (s:ByteArray) (gn_ part at_:Int) (w:World) (h:g.rd 0 w.heap.size w) (hok:kV g=true) (hn:bQ s=true) (hi:pX g s= -1):dg ab jM [g.v,.string s,J gn_,J part,J at_] w fun v w2=>v=.tuple #[.agg #[J 0,J 0,J 0,.slice none 0 0,.slice none 0 0],J 5]/\Below w.heap.size w w2:=by
 refine aF kg Z Z ?_
 have hmC:=h.mC
 have hoC:=h.oC
 have hfew:=h.few
 have hfp:=h.fewP
 have H:=Hp.startGr h
 obtain⟨ck,wt,gn,ms,mA,mC,os,oA,oC⟩:=g
 dsimp only at hmC hoC hfew hfp H
 show CW _ _ _ _ (args [.agg #[J (ck),J (wt),J (gn),.slice mA ms.length mC,.slice oA os.length oC],.string (s),J (gn_),J (part),J (at_)]) w
 obtain⟨⟨⟨k1,k2⟩,k3,k4,⟨k5,k6⟩,k7,k8⟩,⟨hmo,hap⟩,hof,hor⟩:=dA.1 hok
 dsimp only at k1 k2 k3 k4 k5 k6 k7 k8 hmo
 refine W<|Zr<|fW H Z Z fun w1 b5 H=>eI H d9 Z fun w2 b10 H=>G (Wi Z)<|U<|W<|Zr<|G (Zw aN H 1 Z Z Z)<|G (Yt Z)<|G (Yi Z)<|ch ic (Ct ⟨ck,wt,gn,ms,mA,mC,os,oA,oC⟩ s gn_ _ ⟨H.rd0 0 Z,fun m hm=>y1 H 1 Z hm,H.rd0 2 Z,hmC,hoC,hfew,hfp⟩ hok hn hi) Z Z ?_
 rintro _ w3 ⟨rfl,hb⟩;replace H:=H.later hb;clear hb
 refine G (Yu Z)<|G (Xa Z Z)<|G (Xi Z Z)<|G (Xi Z Z)<|bg H 1 (#[J (0),J (0),J (0),.slice none 0 0,.slice none 0 0]) bF Z Z Z Z Z N N fun w4 H=>G (Wi Z)<|G (Wi Z)<|U<|W<|Zb<|W<|Zr<|G (Yi Z)<|G (j9 Z Z (by decide))<|G (Wb Z)<|U<|ZT Z<|W<|Zr<|G (bn (cs:= #[J (0),J (0),J (0),.slice none 0 0,.slice none 0 0]) j4 d9 N)<|G (Yi Z)<|bg H 0 (#[J (0),J (0),J (0),.slice none 0 0,.slice none 0 0]) bF Z Z Z Z Z N N fun w5 H=>G (Wi Z)<|U<|Zt ?_
 exact bG (cs0:= #[J 0,J 0,J 0,.slice none 0 0,.slice none 0 0]) (v1:=J 5) Z aN Z (H.ent (i:=0) Z) Z Z ⟨rfl,H.below⟩
theorem Eo (g:Gr) (s:ByteArray) (gn_ part at_:Int) (w:World) (h:g.rd 0 w.heap.size w) (hok:kV g=true) (hn:bQ s=true) (i:Nat) (hi:pX g s=i) (hg:g.gen≠gn_):dg ab jM [g.v,.string s,J gn_,J part,J at_] w fun v w2=>v=.tuple #[.agg #[J 0,J 0,J 0,.slice none 0 0,.slice none 0 0],J 10]/\Below w.heap.size w w2:=by
 refine aF kg Z Z ?_
 have hmC:=h.mC
 have hoC:=h.oC
 have hfew:=h.few
 have hfp:=h.fewP
 have H:=Hp.startGr h
 obtain⟨ck,wt,gn,ms,mA,mC,os,oA,oC⟩:=g
 dsimp only at hmC hoC hfew hfp H
 show CW _ _ _ _ (args [.agg #[J (ck),J (wt),J (gn),.slice mA ms.length mC,.slice oA os.length oC],.string (s),J (gn_),J (part),J (at_)]) w
 obtain⟨⟨⟨k1,k2⟩,k3,k4,⟨k5,k6⟩,k7,k8⟩,⟨hmo,hap⟩,hof,hor⟩:=dA.1 hok
 dsimp only at k1 k2 k3 k4 k5 k6 k7 k8 hmo
 refine W<|Zr<|fW H Z Z fun w1 b5 H=>eI H d9 Z fun w2 b10 H=>G (Wi Z)<|U<|W<|Zr<|G (Zw aN H 1 Z Z Z)<|G (Yt Z)<|G (Yi Z)<|ch ic (Af ⟨ck,wt,gn,ms,mA,mC,os,oA,oC⟩ s gn_ _ ⟨H.rd0 0 Z,fun m hm=>y1 H 1 Z hm,H.rd0 2 Z,hmC,hoC,hfew,hfp⟩ hok hn i hi hg) Z Z ?_
 rintro _ w3 ⟨rfl,hb⟩;replace H:=H.later hb;clear hb
 refine G (Yu Z)<|G (Xa Z Z)<|G (Xi Z Z)<|G (Xi Z Z)<|bg H 1 (#[J (0),J (0),J (0),.slice none 0 0,.slice none 0 0]) bF Z Z Z Z Z N N fun w4 H=>G (Wi Z)<|G (Wi Z)<|U<|W<|Zb<|W<|Zr<|G (Yi Z)<|G (j9 Z Z (by decide))<|G (Wb Z)<|U<|ZT Z<|W<|Zr<|G (bn (cs:= #[J (0),J (0),J (0),.slice none 0 0,.slice none 0 0]) j4 d9 N)<|G (Yi Z)<|bg H 0 (#[J (0),J (0),J (0),.slice none 0 0,.slice none 0 0]) bF Z Z Z Z Z N N fun w5 H=>G (Wi Z)<|U<|Zt ?_
 exact bG (cs0:= #[J 0,J 0,J 0,.slice none 0 0,.slice none 0 0]) (v1:=J 10) Z aN Z (H.ent (i:=0) Z) Z Z ⟨rfl,H.below⟩
theorem En (g:Gr) (s:ByteArray) (gn_ part at_:Int) (w:World) (h:g.rd 0 w.heap.size w) (hok:kV g=true) (hn:bQ s=true) (i:Nat) (hi:pX g s=i) (hg:g.gen=gn_) (hat:400<at_):dg ab jM [g.v,.string s,J gn_,J part,J at_] w fun v w2=>v=.tuple #[.agg #[J 0,J 0,J 0,.slice none 0 0,.slice none 0 0],J 2]/\Below w.heap.size w w2:=by
 refine aF kg Z Z ?_
 have hmC:=h.mC
 have hoC:=h.oC
 have hfew:=h.few
 have hfp:=h.fewP
 have H:=Hp.startGr h
 obtain⟨ck,wt,gn,ms,mA,mC,os,oA,oC⟩:=g
 dsimp only at hmC hoC hfew hfp H
 show CW _ _ _ _ (args [.agg #[J (ck),J (wt),J (gn),.slice mA ms.length mC,.slice oA os.length oC],.string (s),J (gn_),J (part),J (at_)]) w
 obtain⟨⟨⟨k1,k2⟩,k3,k4,⟨k5,k6⟩,k7,k8⟩,⟨hmo,hap⟩,hof,hor⟩:=dA.1 hok
 dsimp only at k1 k2 k3 k4 k5 k6 k7 k8 hmo
 refine W<|Zr<|fW H Z Z fun w1 b5 H=>eI H d9 Z fun w2 b10 H=>G (Wi Z)<|U<|W<|Zr<|G (Zw aN H 1 Z Z Z)<|G (Yt Z)<|G (Yi Z)<|ch ic (y3 ⟨ck,wt,gn,ms,mA,mC,os,oA,oC⟩ s gn_ _ ⟨H.rd0 0 Z,fun m hm=>y1 H 1 Z hm,H.rd0 2 Z,hmC,hoC,hfew,hfp⟩ hok hn i hi hg) Z Z ?_
 rintro _ w3 ⟨⟨ck2,wt2,gn2,ms2,mA2,mC2,os2,oA2,oC2⟩,Lm,Lo,rfl,ha2,ho2,hoo2,hmc2,hoc2,hpc2,hj2⟩
 have hlo2:=H.size
 replace H:=Hp.joinG H hj2 (fun m hm=>(hpc2 m hm).2);clear hj2
 simp only[Gr.a,Gr.mk.injEq]at ha2
 obtain⟨e1,e2,e3,hma,-,-,e4,-,-⟩:=ha2
 obtain rfl:ck=ck2:=e1.symm
 obtain rfl:wt=wt2:=e2.symm
 obtain rfl:gn=gn2:=e3.symm
 obtain rfl:os=os2:=e4.symm
 dsimp only at ho2 hoo2 hmc2 hoc2 hpc2 H
 replace hpc2: ∀ m∈ms2,m.parts.length<=m.cap/\w.heap.size<=m.lo:=fun m hm=>⟨(hpc2 m hm).1,aS hlo2 (hpc2 m hm).2⟩
 have hml2:ms2.length=ms.length:=by have:=congrArg cB hma;simpa using this
 refine G (Yu Z)<|G (Xa Z Z)<|G (Xi Z Z)<|G (Xi Z Z)<|bg H 1 (#[J (ck),J (wt),J (gn),.slice mA2 ms2.length mC2,.slice oA2 os.length oC2]) bF Z Z Z Z Z N N fun w4 H=>G (Wi Z)<|G (Wi Z)<|U<|W<|Zb<|W<|Zr<|G (Yi Z)<|G (ce Z Z Z)<|G (Wb Z)<|U<|ZF Z<|W<|Zr<|G (Yi Z)<|G (dd Z Z I)<|G (Yb Z)<|ZG<|G (Yi Z)<|ZG<|G (GO Z Z I)<|G (N Z Z)<|G (Wb Z)<|U<|ZT Z<|W<|Zr<|G (bn (cs:= #[J (0),J (0),J (0),.slice none 0 0,.slice none 0 0]) j4 d9 N)<|bg H 0 (#[J (0),J (0),J (0),.slice none 0 0,.slice none 0 0]) bF Z Z Z Z Z N N fun w5 H=>G (Wi Z)<|U<|Zt ?_
 exact bG (cs0:= #[J 0,J 0,J 0,.slice none 0 0,.slice none 0 0]) (v1:=J 2) Z aN Z (H.ent (i:=0) Z) Z Z ⟨rfl,H.below⟩
theorem Em (g:Gr) (s:ByteArray) (gn_ part at_:Int) (w:World) (h:g.rd 0 w.heap.size w) (hok:kV g=true) (hn:bQ s=true) (i:Nat) (t:Mem) (hi:pX g s=i) (ht:g.ms[i]? =some t) (hg:g.gen=gn_) (hat0:0<=at_) (hat:at_<=400) (hpt:part∉t.parts):dg ab jM [g.v,.string s,J gn_,J part,J at_] w fun v w2=>v=.tuple #[.agg #[J 0,J 0,J 0,.slice none 0 0,.slice none 0 0],J 12]/\Below w.heap.size w w2:=by
 refine aF kg Z Z ?_
 have hmC:=h.mC
 have hoC:=h.oC
 have hfew:=h.few
 have hfp:=h.fewP
 have H:=Hp.startGr h
 obtain⟨ck,wt,gn,ms,mA,mC,os,oA,oC⟩:=g
 dsimp only at hmC hoC hfew hfp H
 show CW _ _ _ _ (args [.agg #[J (ck),J (wt),J (gn),.slice mA ms.length mC,.slice oA os.length oC],.string (s),J (gn_),J (part),J (at_)]) w
 obtain⟨⟨⟨k1,k2⟩,k3,k4,⟨k5,k6⟩,k7,k8⟩,⟨hmo,hap⟩,hof,hor⟩:=dA.1 hok
 dsimp only at k1 k2 k3 k4 k5 k6 k7 k8 hmo
 dsimp only at ht
 refine W<|Zr<|fW H Z Z fun w1 b5 H=>eI H d9 Z fun w2 b10 H=>G (Wi Z)<|U<|W<|Zr<|G (Zw aN H 1 Z Z Z)<|G (Yt Z)<|G (Yi Z)<|ch ic (y3 ⟨ck,wt,gn,ms,mA,mC,os,oA,oC⟩ s gn_ _ ⟨H.rd0 0 Z,fun m hm=>y1 H 1 Z hm,H.rd0 2 Z,hmC,hoC,hfew,hfp⟩ hok hn i hi hg) Z Z ?_
 rintro _ w3 ⟨⟨ck2,wt2,gn2,ms2,mA2,mC2,os2,oA2,oC2⟩,Lm,Lo,rfl,ha2,ho2,hoo2,hmc2,hoc2,hpc2,hj2⟩
 have hlo2:=H.size
 replace H:=Hp.joinG H hj2 (fun m hm=>(hpc2 m hm).2);clear hj2
 simp only[Gr.a,Gr.mk.injEq]at ha2
 obtain⟨e1,e2,e3,hma,-,-,e4,-,-⟩:=ha2
 obtain rfl:ck=ck2:=e1.symm
 obtain rfl:wt=wt2:=e2.symm
 obtain rfl:gn=gn2:=e3.symm
 obtain rfl:os=os2:=e4.symm
 dsimp only at ho2 hoo2 hmc2 hoc2 hpc2 H
 replace hpc2: ∀ m∈ms2,m.parts.length<=m.cap/\w.heap.size<=m.lo:=fun m hm=>⟨(hpc2 m hm).1,aS hlo2 (hpc2 m hm).2⟩
 have hml2:ms2.length=ms.length:=by have:=congrArg cB hma;simpa using this
 refine G (Yu Z)<|G (Xa Z Z)<|G (Xi Z Z)<|G (Xi Z Z)<|bg H 1 (#[J (ck),J (wt),J (gn),.slice mA2 ms2.length mC2,.slice oA2 os.length oC2]) bF Z Z Z Z Z N N fun w4 H=>G (Wi Z)<|G (Wi Z)<|U<|W<|Zb<|W<|Zr<|G (Yi Z)<|G (ce Z Z Z)<|G (Wb Z)<|U<|ZF Z<|W<|Zr<|G (Yi Z)<|G (dd Z Z I)<|G (Yb Z)<|ZG<|G (Yi Z)<|ZG<|G (eA Z Z I)<|G (N Z Z)<|G (Wb Z)<|U<|ZF Z<|W ?_
 obtain⟨t2,ht2,hta⟩:=zM hma ht
 have hl2:=(bT ht2).1
 obtain⟨g,cur,rfl,rfl,row⟩:=ho2.row I
 have htp:t2.parts=t.parts:=(congrArg Mem.parts hta:t2.a.parts=t.a.parts)
 have hpl:=iJ hma hmo t2 (ah ht2)
 have hrp:=lM H (show nb t2∈_ from cm _ (bP (ah ht2)))
 refine Zr<|G (Zf dN Z)<|G (Zd dv H 1 Z Z Z)<|G (Yi Z)<|G (bV eD Z Z (by first|omega|(simp only[aa];omega)))<|G (Zf iU Z)<|G (bf bL row ht2 2 Z (H.ent (i:=2) Z) Z)<|G (Yi Z)<|ch fB (ly t2.parts part t2.A t2.cap _ (lM H (show nb t2∈_ from by first|exact cm _ (bP (ah ht2))|simp[ah ht2])) I) Z Z ?_
 rw[htp,decide_eq_false hpt]
 rintro _ w5 ⟨rfl,hb⟩;replace H:=H.later hb;clear hb
 refine G (dR Z)<|G (Wb Z)<|U<|ZT Z<|W<|Zr<|G (bn (cs:= #[J (0),J (0),J (0),.slice none 0 0,.slice none 0 0]) j4 d9 N)<|bg H 0 (#[J (0),J (0),J (0),.slice none 0 0,.slice none 0 0]) bF Z Z Z Z Z N N fun w6 H=>G (Wi Z)<|U<|Zt ?_
 exact bG (cs0:= #[J 0,J 0,J 0,.slice none 0 0,.slice none 0 0]) (v1:=J 12) Z aN Z (H.ent (i:=0) Z) Z Z ⟨rfl,H.below⟩
theorem JQ (g:Gr) (s:ByteArray) (gn_ part at_:Int) (w:World) (h:g.rd 0 w.heap.size w) (hok:kV g=true) (hn:bQ s=true) (i:Nat) (t:Mem) (hi:pX g s=i) (ht:g.ms[i]? =some t) (hg:g.gen=gn_) (hat0:0<=at_) (hat:at_<=400) (hpt:part∈t.parts):dg ab jM [g.v,.string s,J gn_,J part,J at_] w fun v w2=> ∃ g':Gr,v=.tuple #[g'.v,J 0]/\g'.a={g.a with os:=gN g.os part at_}/\yw w w2 g':=by
 refine aF kg Z Z ?_
 have hmC:=h.mC
 have hoC:=h.oC
 have hfew:=h.few
 have hfp:=h.fewP
 have H:=Hp.startGr h
 obtain⟨ck,wt,gn,ms,mA,mC,os,oA,oC⟩:=g
 dsimp only at hmC hoC hfew hfp H
 show CW _ _ _ _ (args [.agg #[J (ck),J (wt),J (gn),.slice mA ms.length mC,.slice oA os.length oC],.string (s),J (gn_),J (part),J (at_)]) w
 obtain⟨⟨⟨k1,k2⟩,k3,k4,⟨k5,k6⟩,k7,k8⟩,⟨hmo,hap⟩,hof,hor⟩:=dA.1 hok
 dsimp only at k1 k2 k3 k4 k5 k6 k7 k8 hmo
 dsimp only at ht
 refine W<|Zr<|fW H Z Z fun w1 b5 H=>eI H d9 Z fun w2 b10 H=>G (Wi Z)<|U<|W<|Zr<|G (Zw aN H 1 Z Z Z)<|G (Yt Z)<|G (Yi Z)<|ch ic (y3 ⟨ck,wt,gn,ms,mA,mC,os,oA,oC⟩ s gn_ _ ⟨H.rd0 0 Z,fun m hm=>y1 H 1 Z hm,H.rd0 2 Z,hmC,hoC,hfew,hfp⟩ hok hn i hi hg) Z Z ?_
 rintro _ w3 ⟨⟨ck2,wt2,gn2,ms2,mA2,mC2,os2,oA2,oC2⟩,Lm,Lo,rfl,ha2,ho2,hoo2,hmc2,hoc2,hpc2,hj2⟩
 have hlo2:=H.size
 replace H:=Hp.joinG H hj2 (fun m hm=>(hpc2 m hm).2);clear hj2
 simp only[Gr.a,Gr.mk.injEq]at ha2
 obtain⟨e1,e2,e3,hma,-,-,e4,-,-⟩:=ha2
 obtain rfl:ck=ck2:=e1.symm
 obtain rfl:wt=wt2:=e2.symm
 obtain rfl:gn=gn2:=e3.symm
 obtain rfl:os=os2:=e4.symm
 dsimp only at ho2 hoo2 hmc2 hoc2 hpc2 H
 replace hpc2: ∀ m∈ms2,m.parts.length<=m.cap/\w.heap.size<=m.lo:=fun m hm=>⟨(hpc2 m hm).1,aS hlo2 (hpc2 m hm).2⟩
 have hml2:ms2.length=ms.length:=by have:=congrArg cB hma;simpa using this
 refine G (Yu Z)<|G (Xa Z Z)<|G (Xi Z Z)<|G (Xi Z Z)<|bg H 1 (#[J (ck),J (wt),J (gn),.slice mA2 ms2.length mC2,.slice oA2 os.length oC2]) bF Z Z Z Z Z N N fun w4 H=>G (Wi Z)<|G (Wi Z)<|U<|W<|Zb<|W<|Zr<|G (Yi Z)<|G (ce Z Z Z)<|G (Wb Z)<|U<|ZF Z<|W<|Zr<|G (Yi Z)<|G (dd Z Z I)<|G (Yb Z)<|ZG<|G (Yi Z)<|ZG<|G (eA Z Z I)<|G (N Z Z)<|G (Wb Z)<|U<|ZF Z<|W ?_
 obtain⟨t2,ht2,hta⟩:=zM hma ht
 have hl2:=(bT ht2).1
 obtain⟨g,cur,rfl,rfl,row⟩:=ho2.row I
 have htp:t2.parts=t.parts:=(congrArg Mem.parts hta:t2.a.parts=t.a.parts)
 have hpl:=iJ hma hmo t2 (ah ht2)
 have hrp:=lM H (show nb t2∈_ from cm _ (bP (ah ht2)))
 refine Zr<|G (Zf dN Z)<|G (Zd dv H 1 Z Z Z)<|G (Yi Z)<|G (bV eD Z Z (by first|omega|(simp only[aa];omega)))<|G (Zf iU Z)<|G (bf bL row ht2 2 Z (H.ent (i:=2) Z) Z)<|G (Yi Z)<|ch fB (ly t2.parts part t2.A t2.cap _ (lM H (show nb t2∈_ from by first|exact cm _ (bP (ah ht2))|simp[ah ht2])) I) Z Z ?_
 rw[htp,decide_eq_true hpt]
 rintro _ w5 ⟨rfl,hb⟩;replace H:=H.later hb;clear hb
 refine G (dR Z)<|G (Wb Z)<|U<|ZF Z<|Zk<|W<|Zr<|G (Wi Z)<|U<|W<|Zb ?_
 refine cy (τ:=Nat) [14,47,48,49,50,51,52,53,54,55,56,57,58,59,60,61,62,63] (fun k=>[(14,J (k:Nat))]) (fun k w'=>k<=os.length/\(∀ x∈os.take k,x.part<part)/\Hp w w' ([(b10,.cells #[J 0,J 0,J 0,.slice none 0 0,.slice none 0 0] cO (0,0)),(b5,.cells #[J (ck),J (wt),J (gn),.slice (Qd g) ms2.length mC2,.slice oA2 os.length oC2] cO (0,0)),(g,.cells cur df (0,0))]++Lo) ([dT jQ 0 w.heap.size mA ms,HS 0 w.heap.size ms,dT fV 0 w.heap.size oA os]++ms2.map nb)) (fun k=>os.length-k) 0 ⟨by omega,by simp,H⟩ (dJ Z) ?_
 rintro k ρ1 w6 ⟨hk,hwh,H⟩
 show CW _ _ _ _ (dH (gJ _ _ ρ1) [(14,J (k:Nat))]) w6
 refine W<|W<|Zr<|G (Yi Z)<|G (Zf dZ Z)<|G (Zd eB H 1 Z Z Z)<|G (br hZ Z) ?_
 refine cW (cK Z Z) Z Z Z (fun h51=> ?_) (fun h51=> ?_)
 obtain⟨g2,cur2,rfl,rfl,row2⟩:=hoo2.row I
 obtain⟨o,ho⟩: ∃ o,os[k]? =some o:=⟨_,ai I⟩
 refine G (Yb Z)<|ZG<|G (Zf dZ Z)<|ZG<|G (Zd eB H 1 Z Z Z)<|ZG<|G (Yi Z)<|ZG<|G (bV cZ Z Z (by first|omega|(simp only[aa];omega)))<|ZG<|G (Zf jn Z)<|ZG<|G (bf ak row2 ho 0 Z (H.ent (i:=3) Z) Z)<|ZG<|G (Yi Z)<|ZG ?_
 refine cW (cK Z Z) Z Z Z (fun h60=> ?_) (fun h60=> ?_)
 refine G (Kt Z Z)<|U<|ZT Z<|Zk<|Zb<|Zr<|G (Yi Z)<|G (bz Z Z I I)<|G (Wi Z)<|U ?_
 exact⟨k+1,⟨by omega,by rw[fi ho];intro x hx;rcases ax.1 hx with hx|hx;exact hwh x hx;rw[au.1 hx];exact h60,H⟩,dJ Z,Qg,by show os.length- (k+1)<os.length-k;omega⟩
 refine G (Kt Z Z)<|U<|ZF Z<|Zx<|W<|W ?_
 have hkl:mp os part=k:=zh (fun x hx=>by simpa using hwh x hx) (fun x hx=>by rw[ho]at hx;injection hx with hx;subst hx;simpa using h60) hk
 refine Zr<|G (Yi Z)<|G (Zf dZ Z)<|G (Zd eB H 1 Z Z Z)<|G (br hZ Z) ?_
 refine cW (cK Z Z) Z Z Z (fun h68=> ?_) (fun h68=> ?_)
 refine G (Yb Z)<|ZG<|G (Zf dZ Z)<|ZG<|G (Zd eB H 1 Z Z Z)<|ZG<|G (Yi Z)<|ZG<|G (bV cZ Z Z (by first|omega|(simp only[aa];omega)))<|ZG<|G (Zf jn Z)<|ZG<|G (bf ak row2 ho 0 Z (H.ent (i:=3) Z) Z)<|ZG<|G (Yi Z)<|ZG ?_
 refine cW (bp Z Z) Z Z Z (fun h77=> ?_) (fun h77=> ?_)
 refine G (Kt Z Z)<|U<|ZT Z ?_
 have hput:gN os part at_=os.set k {o with at_:=at_}:=by unfold gN;rw[hkl,ho];rw[if_pos (show Option.map me.part (some o)=some part from congrArg some h77)];subst h77;rfl
 refine Zr<|G (Zf dZ Z)<|G (Zd eB H 1 Z Z Z)<|G (Yi Z)<|G (Yi Z)<|G (bV cZ Z Z (by first|omega|(simp only[aa];omega)))<|G (Zf oq Z)<|im H 3 ({o with at_:=at_}) bw row2 ho 1 Z Z Z Z Z Z N fun w8 cur7 row7 H=> ?_
 have hs9:(os.set k ({o with at_:=at_}))[k]? =some ({o with at_:=at_}):=ae (bT ho).1
 refine U<|W<|Zr<|G (Zw aN H 1 Z Z Z)<|bg H 0 (#[J (ck),J (wt),J (gn),.slice (Qd g) ms2.length mC2,.slice (Qd g2) os.length oC2]) bF Z Z Z Z Z N N fun w10 H=>G (Wi Z)<|U<|Zt ?_
 exact bG (cs0:= #[J (ck),J (wt),J (gn),.slice (Qd g) ms2.length mC2,.slice (Qd g2) os.length oC2]) (v1:=J 0) Z aN Z (H.ent (i:=0) Z) Z Z ⟨⟨ck,wt,gn,ms2,some ⟨g,0,none⟩,mC2,os.set k {o with at_:=at_},some ⟨g2,0,none⟩,oC2⟩,by unfold Gr.v Gr.c;dsimp only;rw[aa],by unfold Gr.a;dsimp only;rw[hma];show _=({Gr.a ⟨ck,wt,gn,ms,mA,mC,os,oA,oC⟩with os:=gN os part at_}:Gr);rw[hput];rfl,qO.new (ga:=Gr.a ⟨ck,wt,gn,ms2,some ⟨g,0,none⟩,mC2,os.set k {o with at_:=at_},some ⟨g2,0,none⟩,oC2⟩) ⟨rfl,dz.own row,by dsimp only;rw[aa];have hO:=dz.own (g:=g2) (e:=ef) row7;rw[aa]at hO;exact hO,hmc2,by dsimp only;rw[aa];exact hoc2,hpc2,H.forget (.cons _ (.cons _ (ar _))) (fun f hf=>by simp only[ay,ax];grind)⟩ (by dsimp only;omega) (by dsimp only;rw[<-hput];have:=m7 os part at_;omega) (iJ hma hmo)⟩
 refine G (Kt Z Z)<|U<|ZF Z ?_
 have hput:gN os part at_=os.take k++[⟨part,at_⟩]++os.drop k:=by unfold gN;rw[hkl];rw[if_neg (by rw[ho];intro hx;exact h77 (bN hx))]
 refine Zr<|G (Zf dZ Z)<|G (Zd eB H 1 Z Z Z)<|G (Yi Z)<|G (Yi Z)<|G (Yi Z)<|G (bn (cs:= #[J (part),J (at_)]) ud lf N)<|sW (vs:=[.agg #[J (part),J (at_)]]) H cZ lf Z Z Z Z Z Z fun w11 b91 H=>ch eZ (jv (K:=[(b10,.cells #[J (0),J (0),J (0),.slice none 0 0,.slice none 0 0] cO (0,0)),(b5,.cells #[J (ck),J (wt),J (gn),.slice (Qd g) ms2.length mC2,.slice (Qd g2) os.length oC2] cO (0,0)),(g,.cells cur df (0,0))]) (Lt:=[(g2,.cells cur2 ef (0,0))]) (M:=[]) (x:=⟨part,at_⟩) (i:=k) (by rw[aY];exact H) hoo2 I I) Z Z ?_
 rintro _ w12 ⟨A9,c9,L9,rfl,ho9,HI⟩
 replace H:Hp w w12 ([(b91,.cells #[J (part),J (at_)] ef (0,0)),(b10,.cells #[J (0),J (0),J (0),.slice none 0 0,.slice none 0 0] cO (0,0)),(b5,.cells #[J (ck),J (wt),J (gn),.slice (Qd g) ms2.length mC2,.slice (Qd g2) os.length oC2] cO (0,0)),(g,.cells cur df (0,0))]++L9) ([dT jQ 0 w.heap.size mA ms,HS 0 w.heap.size ms,dT fV 0 w.heap.size oA os]++ms2.map nb):=by rw[aY]at HI;exact HI
 clear HI
 have hc9:(os.take k++[(⟨part,at_⟩:me)]++os.drop k).length<=c9:=by obtain⟨_,_,e,h,_⟩:=ho9.form;injection e with _ _ e;rw[e];exact h
 refine G (Zf dZ Z)<|bg H 2 (#[J (ck),J (wt),J (gn),.slice (Qd g) ms2.length mC2,.slice A9 ((os.take k++[(⟨part,at_⟩:me)]++os.drop k).length) c9]) nW Z Z Z Z Z N N fun w13 H=>U<|W<|Zr<|G (Zw aN H 2 Z Z Z)<|bg H 1 (#[J (ck),J (wt),J (gn),.slice (Qd g) ms2.length mC2,.slice A9 ((os.take k++[(⟨part,at_⟩:me)]++os.drop k).length) c9]) bF Z Z Z Z Z N N fun w14 H=>G (Wi Z)<|U<|Zt ?_
 exact bG (cs0:= #[J (ck),J (wt),J (gn),.slice (Qd g) ms2.length mC2,.slice A9 (((os.take k++[(⟨part,at_⟩:me)]++os.drop k)).length) c9]) (v1:=J 0) Z aN Z (H.ent (i:=1) Z) Z Z ⟨⟨ck,wt,gn,ms2,some ⟨g,0,none⟩,mC2,os.take k++[(⟨part,at_⟩:me)]++os.drop k,A9,c9⟩,rfl,by unfold Gr.a;dsimp only;rw[hma];show _=({Gr.a ⟨ck,wt,gn,ms,mA,mC,os,oA,oC⟩with os:=gN os part at_}:Gr);rw[hput];rfl,qO.new (ga:=Gr.a ⟨ck,wt,gn,ms2,some ⟨g,0,none⟩,mC2,os.take k++[(⟨part,at_⟩:me)]++os.drop k,A9,c9⟩) ⟨rfl,dz.own row,ho9,hmc2,hc9,hpc2,H.forget (.cons _ (.cons _ (.cons _ (ar _)))) (fun f hf=>by simp only[ay,ax];grind)⟩ (by dsimp only;omega) (by dsimp only;rw[<-hput];have:=m7 os part at_;omega) (iJ hma hmo)⟩
 refine G (Yb Z)<|ZN<|ZN<|ZN<|ZN<|ZN<|ZN<|ZN<|ZN<|G (N Z Z)<|U<|ZF Z ?_
 have hput:gN os part at_=os.take k++[⟨part,at_⟩]++os.drop k:=by unfold gN;rw[hkl];rw[if_neg (by rw[cL I];simp)]
 refine Zr<|G (Zf dZ Z)<|G (Zd eB H 1 Z Z Z)<|G (Yi Z)<|G (Yi Z)<|G (Yi Z)<|G (bn (cs:= #[J (part),J (at_)]) ud lf N)<|sW (vs:=[.agg #[J (part),J (at_)]]) H cZ lf Z Z Z Z Z Z fun w15 b91 H=>ch eZ (jv (K:=[(b10,.cells #[J (0),J (0),J (0),.slice none 0 0,.slice none 0 0] cO (0,0)),(b5,.cells #[J (ck),J (wt),J (gn),.slice (Qd g) ms2.length mC2,.slice (Qd g2) os.length oC2] cO (0,0)),(g,.cells cur df (0,0))]) (Lt:=[(g2,.cells cur2 ef (0,0))]) (M:=[]) (x:=⟨part,at_⟩) (i:=k) (by rw[aY];exact H) hoo2 I I) Z Z ?_
 rintro _ w16 ⟨A9,c9,L9,rfl,ho9,HI⟩
 replace H:Hp w w16 ([(b91,.cells #[J (part),J (at_)] ef (0,0)),(b10,.cells #[J (0),J (0),J (0),.slice none 0 0,.slice none 0 0] cO (0,0)),(b5,.cells #[J (ck),J (wt),J (gn),.slice (Qd g) ms2.length mC2,.slice (Qd g2) os.length oC2] cO (0,0)),(g,.cells cur df (0,0))]++L9) ([dT jQ 0 w.heap.size mA ms,HS 0 w.heap.size ms,dT fV 0 w.heap.size oA os]++ms2.map nb):=by rw[aY]at HI;exact HI
 clear HI
 have hc9:(os.take k++[(⟨part,at_⟩:me)]++os.drop k).length<=c9:=by obtain⟨_,_,e,h,_⟩:=ho9.form;injection e with _ _ e;rw[e];exact h
 refine G (Zf dZ Z)<|bg H 2 (#[J (ck),J (wt),J (gn),.slice (Qd g) ms2.length mC2,.slice A9 ((os.take k++[(⟨part,at_⟩:me)]++os.drop k).length) c9]) nW Z Z Z Z Z N N fun w17 H=>U<|W<|Zr<|G (Zw aN H 2 Z Z Z)<|bg H 1 (#[J (ck),J (wt),J (gn),.slice (Qd g) ms2.length mC2,.slice A9 ((os.take k++[(⟨part,at_⟩:me)]++os.drop k).length) c9]) bF Z Z Z Z Z N N fun w18 H=>G (Wi Z)<|U<|Zt ?_
 exact bG (cs0:= #[J (ck),J (wt),J (gn),.slice (Qd g) ms2.length mC2,.slice A9 (((os.take k++[(⟨part,at_⟩:me)]++os.drop k)).length) c9]) (v1:=J 0) Z aN Z (H.ent (i:=1) Z) Z Z ⟨⟨ck,wt,gn,ms2,some ⟨g,0,none⟩,mC2,os.take k++[(⟨part,at_⟩:me)]++os.drop k,A9,c9⟩,rfl,by unfold Gr.a;dsimp only;rw[hma];show _=({Gr.a ⟨ck,wt,gn,ms,mA,mC,os,oA,oC⟩with os:=gN os part at_}:Gr);rw[hput];rfl,qO.new (ga:=Gr.a ⟨ck,wt,gn,ms2,some ⟨g,0,none⟩,mC2,os.take k++[(⟨part,at_⟩:me)]++os.drop k,A9,c9⟩) ⟨rfl,dz.own row,ho9,hmc2,hc9,hpc2,H.forget (.cons _ (.cons _ (.cons _ (ar _)))) (fun f hf=>by simp only[ay,ax];grind)⟩ (by dsimp only;omega) (by dsimp only;rw[<-hput];have:=m7 os part at_;omega) (iJ hma hmo)⟩
 refine G (Yb Z)<|ZN<|ZN<|ZN<|ZN<|ZN<|ZN<|ZN<|ZN<|G (N Z Z)<|U<|ZF Z<|Zx<|W<|W ?_
 have hkl:mp os part=k:=zh (fun x hx=>by simpa using hwh x hx) (fun x hx=>absurd (bT hx).1 I) hk
 refine Zr<|G (Yi Z)<|G (Zf dZ Z)<|G (Zd eB H 1 Z Z Z)<|G (br hZ Z) ?_
 refine cW (cK Z Z) Z Z Z (fun h68=> ?_) (fun h68=> ?_)
 obtain⟨g2,cur2,rfl,rfl,row2⟩:=hoo2.row I
 obtain⟨o,ho⟩: ∃ o,os[k]? =some o:=⟨_,ai I⟩
 refine G (Yb Z)<|ZG<|G (Zf dZ Z)<|ZG<|G (Zd eB H 1 Z Z Z)<|ZG<|G (Yi Z)<|ZG<|G (bV cZ Z Z (by first|omega|(simp only[aa];omega)))<|ZG<|G (Zf jn Z)<|ZG<|G (bf ak row2 ho 0 Z (H.ent (i:=3) Z) Z)<|ZG<|G (Yi Z)<|ZG ?_
 refine cW (bp Z Z) Z Z Z (fun h77=> ?_) (fun h77=> ?_)
 refine G (Kt Z Z)<|U<|ZT Z ?_
 have hput:gN os part at_=os.set k {o with at_:=at_}:=by unfold gN;rw[hkl,ho];rw[if_pos (show Option.map me.part (some o)=some part from congrArg some h77)];subst h77;rfl
 refine Zr<|G (Zf dZ Z)<|G (Zd eB H 1 Z Z Z)<|G (Yi Z)<|G (Yi Z)<|G (bV cZ Z Z (by first|omega|(simp only[aa];omega)))<|G (Zf oq Z)<|im H 3 ({o with at_:=at_}) bw row2 ho 1 Z Z Z Z Z Z N fun w20 cur19 row19 H=> ?_
 have hs21:(os.set k ({o with at_:=at_}))[k]? =some ({o with at_:=at_}):=ae (bT ho).1
 refine U<|W<|Zr<|G (Zw aN H 1 Z Z Z)<|bg H 0 (#[J (ck),J (wt),J (gn),.slice (Qd g) ms2.length mC2,.slice (Qd g2) os.length oC2]) bF Z Z Z Z Z N N fun w22 H=>G (Wi Z)<|U<|Zt ?_
 exact bG (cs0:= #[J (ck),J (wt),J (gn),.slice (Qd g) ms2.length mC2,.slice (Qd g2) os.length oC2]) (v1:=J 0) Z aN Z (H.ent (i:=0) Z) Z Z ⟨⟨ck,wt,gn,ms2,some ⟨g,0,none⟩,mC2,os.set k {o with at_:=at_},some ⟨g2,0,none⟩,oC2⟩,by unfold Gr.v Gr.c;dsimp only;rw[aa],by unfold Gr.a;dsimp only;rw[hma];show _=({Gr.a ⟨ck,wt,gn,ms,mA,mC,os,oA,oC⟩with os:=gN os part at_}:Gr);rw[hput];rfl,qO.new (ga:=Gr.a ⟨ck,wt,gn,ms2,some ⟨g,0,none⟩,mC2,os.set k {o with at_:=at_},some ⟨g2,0,none⟩,oC2⟩) ⟨rfl,dz.own row,by dsimp only;rw[aa];have hO:=dz.own (g:=g2) (e:=ef) row19;rw[aa]at hO;exact hO,hmc2,by dsimp only;rw[aa];exact hoc2,hpc2,H.forget (.cons _ (.cons _ (ar _))) (fun f hf=>by simp only[ay,ax];grind)⟩ (by dsimp only;omega) (by dsimp only;rw[<-hput];have:=m7 os part at_;omega) (iJ hma hmo)⟩
 refine G (Kt Z Z)<|U<|ZF Z ?_
 have hput:gN os part at_=os.take k++[⟨part,at_⟩]++os.drop k:=by unfold gN;rw[hkl];rw[if_neg (by rw[ho];intro hx;exact h77 (bN hx))]
 refine Zr<|G (Zf dZ Z)<|G (Zd eB H 1 Z Z Z)<|G (Yi Z)<|G (Yi Z)<|G (Yi Z)<|G (bn (cs:= #[J (part),J (at_)]) ud lf N)<|sW (vs:=[.agg #[J (part),J (at_)]]) H cZ lf Z Z Z Z Z Z fun w23 b91 H=>ch eZ (jv (K:=[(b10,.cells #[J (0),J (0),J (0),.slice none 0 0,.slice none 0 0] cO (0,0)),(b5,.cells #[J (ck),J (wt),J (gn),.slice (Qd g) ms2.length mC2,.slice (Qd g2) os.length oC2] cO (0,0)),(g,.cells cur df (0,0))]) (Lt:=[(g2,.cells cur2 ef (0,0))]) (M:=[]) (x:=⟨part,at_⟩) (i:=k) (by rw[aY];exact H) hoo2 I I) Z Z ?_
 rintro _ w24 ⟨A9,c9,L9,rfl,ho9,HI⟩
 replace H:Hp w w24 ([(b91,.cells #[J (part),J (at_)] ef (0,0)),(b10,.cells #[J (0),J (0),J (0),.slice none 0 0,.slice none 0 0] cO (0,0)),(b5,.cells #[J (ck),J (wt),J (gn),.slice (Qd g) ms2.length mC2,.slice (Qd g2) os.length oC2] cO (0,0)),(g,.cells cur df (0,0))]++L9) ([dT jQ 0 w.heap.size mA ms,HS 0 w.heap.size ms,dT fV 0 w.heap.size oA os]++ms2.map nb):=by rw[aY]at HI;exact HI
 clear HI
 have hc9:(os.take k++[(⟨part,at_⟩:me)]++os.drop k).length<=c9:=by obtain⟨_,_,e,h,_⟩:=ho9.form;injection e with _ _ e;rw[e];exact h
 refine G (Zf dZ Z)<|bg H 2 (#[J (ck),J (wt),J (gn),.slice (Qd g) ms2.length mC2,.slice A9 ((os.take k++[(⟨part,at_⟩:me)]++os.drop k).length) c9]) nW Z Z Z Z Z N N fun w25 H=>U<|W<|Zr<|G (Zw aN H 2 Z Z Z)<|bg H 1 (#[J (ck),J (wt),J (gn),.slice (Qd g) ms2.length mC2,.slice A9 ((os.take k++[(⟨part,at_⟩:me)]++os.drop k).length) c9]) bF Z Z Z Z Z N N fun w26 H=>G (Wi Z)<|U<|Zt ?_
 exact bG (cs0:= #[J (ck),J (wt),J (gn),.slice (Qd g) ms2.length mC2,.slice A9 (((os.take k++[(⟨part,at_⟩:me)]++os.drop k)).length) c9]) (v1:=J 0) Z aN Z (H.ent (i:=1) Z) Z Z ⟨⟨ck,wt,gn,ms2,some ⟨g,0,none⟩,mC2,os.take k++[(⟨part,at_⟩:me)]++os.drop k,A9,c9⟩,rfl,by unfold Gr.a;dsimp only;rw[hma];show _=({Gr.a ⟨ck,wt,gn,ms,mA,mC,os,oA,oC⟩with os:=gN os part at_}:Gr);rw[hput];rfl,qO.new (ga:=Gr.a ⟨ck,wt,gn,ms2,some ⟨g,0,none⟩,mC2,os.take k++[(⟨part,at_⟩:me)]++os.drop k,A9,c9⟩) ⟨rfl,dz.own row,ho9,hmc2,hc9,hpc2,H.forget (.cons _ (.cons _ (.cons _ (ar _)))) (fun f hf=>by simp only[ay,ax];grind)⟩ (by dsimp only;omega) (by dsimp only;rw[<-hput];have:=m7 os part at_;omega) (iJ hma hmo)⟩
 refine G (Yb Z)<|ZN<|ZN<|ZN<|ZN<|ZN<|ZN<|ZN<|ZN<|G (N Z Z)<|U<|ZF Z ?_
 have hput:gN os part at_=os.take k++[⟨part,at_⟩]++os.drop k:=by unfold gN;rw[hkl];rw[if_neg (by rw[cL I];simp)]
 refine Zr<|G (Zf dZ Z)<|G (Zd eB H 1 Z Z Z)<|G (Yi Z)<|G (Yi Z)<|G (Yi Z)<|G (bn (cs:= #[J (part),J (at_)]) ud lf N)<|sW (vs:=[.agg #[J (part),J (at_)]]) H cZ lf Z Z Z Z Z Z fun w27 b91 H=>ch eZ (jv (K:=[(b10,.cells #[J (0),J (0),J (0),.slice none 0 0,.slice none 0 0] cO (0,0)),(b5,.cells #[J (ck),J (wt),J (gn),.slice (Qd g) ms2.length mC2,.slice oA2 os.length oC2] cO (0,0)),(g,.cells cur df (0,0))]) (Lt:=Lo) (M:=[]) (x:=⟨part,at_⟩) (i:=k) (by rw[aY];exact H) hoo2 I I) Z Z ?_
 rintro _ w28 ⟨A9,c9,L9,rfl,ho9,HI⟩
 replace H:Hp w w28 ([(b91,.cells #[J (part),J (at_)] ef (0,0)),(b10,.cells #[J (0),J (0),J (0),.slice none 0 0,.slice none 0 0] cO (0,0)),(b5,.cells #[J (ck),J (wt),J (gn),.slice (Qd g) ms2.length mC2,.slice oA2 os.length oC2] cO (0,0)),(g,.cells cur df (0,0))]++L9) ([dT jQ 0 w.heap.size mA ms,HS 0 w.heap.size ms,dT fV 0 w.heap.size oA os]++ms2.map nb):=by rw[aY]at HI;exact HI
 clear HI
 have hc9:(os.take k++[(⟨part,at_⟩:me)]++os.drop k).length<=c9:=by obtain⟨_,_,e,h,_⟩:=ho9.form;injection e with _ _ e;rw[e];exact h
 refine G (Zf dZ Z)<|bg H 2 (#[J (ck),J (wt),J (gn),.slice (Qd g) ms2.length mC2,.slice A9 ((os.take k++[(⟨part,at_⟩:me)]++os.drop k).length) c9]) nW Z Z Z Z Z N N fun w29 H=>U<|W<|Zr<|G (Zw aN H 2 Z Z Z)<|bg H 1 (#[J (ck),J (wt),J (gn),.slice (Qd g) ms2.length mC2,.slice A9 ((os.take k++[(⟨part,at_⟩:me)]++os.drop k).length) c9]) bF Z Z Z Z Z N N fun w30 H=>G (Wi Z)<|U<|Zt ?_
 exact bG (cs0:= #[J (ck),J (wt),J (gn),.slice (Qd g) ms2.length mC2,.slice A9 (((os.take k++[(⟨part,at_⟩:me)]++os.drop k)).length) c9]) (v1:=J 0) Z aN Z (H.ent (i:=1) Z) Z Z ⟨⟨ck,wt,gn,ms2,some ⟨g,0,none⟩,mC2,os.take k++[(⟨part,at_⟩:me)]++os.drop k,A9,c9⟩,rfl,by unfold Gr.a;dsimp only;rw[hma];show _=({Gr.a ⟨ck,wt,gn,ms,mA,mC,os,oA,oC⟩with os:=gN os part at_}:Gr);rw[hput];rfl,qO.new (ga:=Gr.a ⟨ck,wt,gn,ms2,some ⟨g,0,none⟩,mC2,os.take k++[(⟨part,at_⟩:me)]++os.drop k,A9,c9⟩) ⟨rfl,dz.own row,ho9,hmc2,hc9,hpc2,H.forget (.cons _ (.cons _ (.cons _ (ar _)))) (fun f hf=>by simp only[ay,ax];grind)⟩ (by dsimp only;omega) (by dsimp only;rw[<-hput];have:=m7 os part at_;omega) (iJ hma hmo)⟩
theorem uf {α:Type} {l:List α} {k:Nat} {a:α} (h:l[k]? =some a):l.set k a=l:=by
 apply eN
 intro i
 rw[lw]
 split
 rename_i hi
 subst hi
 split
 exact h.symm
 rename_i hl
 rw[cL I]at h;cases h
 rfl
def kh (g:Gr) (s:ByteArray):Option (Nat×Mem):=(g.ms.findIdx? fun p=>decide (p.name=s)).bind fun i=>g.ms[i]?.map fun t=>(i,t)
theorem nw {g:Gr} {s:ByteArray} (h:kh g s=none):pX g s= -1:=by
 unfold kh at h
 unfold pX
 cases hi:g.ms.findIdx? fun p=>decide (p.name=s)with
 |none=>rfl
 |some i=>
  obtain⟨hl,-⟩:=bh.1 hi
  rw[hi]at h
  simp[ai hl]at h
theorem nv {g:Gr} {s:ByteArray} {i:Nat} {t:Mem} (h:kh g s=some (i,t)):pX g s=i/\g.ms[i]? =some t/\t.name=s:=by
 unfold kh at h
 unfold pX
 cases hi:g.ms.findIdx? fun p=>decide (p.name=s)with
 |none=>rw[hi]at h;cases h
 |some j=>
  obtain⟨hl,hn,-⟩:=bh.1 hi
  rw[hi]at h
  simp only[fT,ai hl,eX,lv,Prod.mk.injEq]at h
  obtain⟨rfl,rfl⟩:=h
  exact⟨rfl,ai hl,by simpa using hn⟩
theorem HC (g:Gr) (s:ByteArray):kh g.a s=(kh g s).map fun(i,t)=>(i,t.a):=by
 have e:g.a.ms.findIdx? (fun p=>decide (p.name=s))=g.ms.findIdx? fun p=>decide (p.name=s):=by
  show(g.ms.map Mem.a).findIdx? _=_
  rw[CN]
  rfl
 unfold kh
 rw[e]
 cases g.ms.findIdx? fun p=>decide (p.name=s)with
 |none=>rfl
 |some i=>
  show(g.ms.map Mem.a)[i]?.map _=(g.ms[i]?.map _).map _
  rw[aL]
  cases g.ms[i]? <;>rfl
theorem Kv {g:Gr} {s:ByteArray} (h:kh g s=none): ∀ t∈g.ms,t.name≠s:=by
 have:=nw h
 unfold pX at this
 cases hi:g.ms.findIdx? fun p=>decide (p.name=s)with
 |none=>rw[dq]at hi;intro t ht;simpa using hi t ht
 |some i=>rw[hi]at this;simp[lE]at this
def sR (g:Gr) (s:ByteArray) (p:Nat):Gr×Int:=match kh g s with
 |some _=>(AV,6)
 |none=>if g.ms.length=6 then(AV,16)else(G5 {g with ms:=g.ms++[De s g.clock]} p,0)
def wV (g:Gr) (s:ByteArray) (gn:Int):Gr×Int:=match kh g s with
 |none=>(AV,5)
 |some (i,t)=>if g.gen=gn then(Ll g i t,0)else(AV,10)
def sa (g:Gr) (s:ByteArray) (gn part at_:Int):Gr×Int:=match kh g s with
 |none=>(AV,5)
 |some (_,t)=>if g.gen=gn then if 400<at_ then(AV,2)else if part∈t.parts then({g with os:=gN g.os part at_},0)else(AV,12)else(AV,10)
def eR (g:Gr) (s:ByteArray) (part:Int):Int×Int:=match kh g s with
 |none=>(0,5)
 |some (_,t)=>if part∈t.parts then(tk g.os part,0)else(0,12)
theorem Ly (l:List Mem):k9 (l.map Mem.a)↔k9 l:=by
 unfold k9
 rw[sm]
theorem Ah (g:Gr):kV g.a=true↔kV g=true:=by
 rw[dA,dA]
 show(_/\_/\_/\_/\((g.ms.map Mem.a).length:Int)<=6/\_)/\((∀ m∈g.ms.map Mem.a,uX g.clock m=true)/\k9 (g.ms.map Mem.a))/\_/\_↔_
 rw[bI,Ly]
 have:(∀ m∈g.ms.map Mem.a,uX g.clock m=true)↔ ∀ m∈g.ms,uX g.clock m=true:=by
  constructor
  intro h m hm;exact h m.a (bP hm)
  intro h m hm
  obtain⟨x,hx,rfl⟩:=bB.1 hm
  exact h x hx
 rw[this]
 exact Iff.rfl
structure qQ (P:ByteArray->Prop) (wt:Int) (p k:Nat) (g:Gr):Prop where
 ok:kV g=true
 clock:g.clock<=1000*k
 gen:g.gen<=k
 wait:g.wait=wt
 names: ∀ m∈g.ms,P m.name
 asg:g.ms.map Mem.parts=gL (g.ms.map Mem.name) p
theorem qQ.more {P:ByteArray->Prop} {wt:Int} {p k m:Nat} {g:Gr} (h:qQ P wt p k g) (hm:k<=m):qQ P wt p m g:=⟨h.ok,by have:=h.clock;omega,by have:=h.gen;omega,h.wait,h.names,h.asg⟩
theorem yf (l:List Mem):(l.map Mem.a).map Mem.parts=l.map Mem.parts:=by rw[r5];rfl
theorem qQ.a_iff {P:ByteArray->Prop} {wt:Int} {p k:Nat} {g:Gr}:qQ P wt p k g.a↔qQ P wt p k g:=by
 constructor
 rintro⟨h1,h2,h3,h4,h5,h6⟩
 refine⟨(Ah g).1 h1,h2,h3,h4,fun m hm=>h5 m.a (bP hm),?_⟩
 have h6:(g.ms.map Mem.a).map Mem.parts=gL ((g.ms.map Mem.a).map Mem.name) p:=h6
 rw[sm,yf]at h6
 exact h6
 rintro⟨h1,h2,h3,h4,h5,h6⟩
 refine⟨(Ah g).2 h1,h2,h3,h4,fun m hm=> ?_,?_⟩
 obtain⟨x,hx,rfl⟩:=bB.1 (show m∈g.ms.map Mem.a from hm)
 exact h5 x hx
 show(g.ms.map Mem.a).map Mem.parts=gL ((g.ms.map Mem.a).map Mem.name) p
 rw[sm,yf]
 exact h6
theorem qQ.a {P:ByteArray->Prop} {wt:Int} {p k:Nat} {g:Gr} (h:qQ P wt p k g):qQ P wt p k g.a:=qQ.a_iff.2 h
theorem qQ.of_a {P:ByteArray->Prop} {wt:Int} {p k:Nat} {g:Gr} (h:qQ P wt p k g.a):qQ P wt p k g:=qQ.a_iff.1 h
theorem vA: ∀ (l:List Int) (a:Int),l.Pairwise (· < ·)->(∀ q∈l,a<q/\q<4)->cU a l=true
 |[],_,_,_=>rfl
 |x::l,a,hp,hq=>by
  obtain⟨h1,h2⟩:=ex.1 hp
  unfold cU
  have:=hq x (aC ..)
  rw[vA l x h2 fun q hq'=>⟨h1 q hq',(hq q (al _ hq')).2⟩]
  simp[this.1,this.2]
theorem HZ (n:Nat):(qR n).Pairwise (· < ·):=by
 unfold qR
 rw[jq]
 exact List.pairwise_lt_range.imp fun h=>by omega
theorem Gh {names:List ByteArray} {p i:Nat} (hp:p<=4):cU (-1) (mn names p i)=true:=by
 refine vA _ _ ((HZ p).filter _) fun q hq=> ?_
 obtain⟨j,hj,rfl⟩:=v5.1 (kS.1 hq).1
 omega
theorem CG (ms:List Mem) (p:Nat):(oS ms p).map Mem.name=ms.map Mem.name:=by
 unfold oS
 rw[List.map_zipWith]
 refine eN fun i=> ?_
 rw[qk,aL]
 unfold gL
 rw[aL,bI]
 cases h:ms[i]? with
 |none=>rfl
 |some m=>
  have:=(bT h).1
  rw[zb this]
  rfl
theorem FG (ms:List Mem) (p:Nat):(oS ms p).map Mem.parts=gL (ms.map Mem.name) p:=by
 unfold oS
 rw[List.map_zipWith]
 refine eN fun i=> ?_
 rw[qk]
 cases h:ms[i]? with
 |none=>
  have:ms.length<=i:=by simpa using h
  rw[cL (by rw[oy,bI];exact this)]
 |some m=>
  have:=(bT h).1
  have hl:i<(gL (ms.map Mem.name) p).length:=by rw[oy,bI];exact this
  rw[ai hl]
theorem AM {ms:List Mem} {p:Nat} {m:Mem} (h:m∈oS ms p): ∃ x∈ms,m.name=x.name/\m.heard=x.heard:=by
 obtain⟨i,hi⟩:=aU.1 h
 unfold oS at hi
 rw[qk]at hi
 split at hi
 rename_i x l hx hl
 injection hi with hi
 exact⟨x,ah hx,by rw[<-hi],by rw[<-hi]⟩
 cases hi
theorem Lw {P:ByteArray->Prop} {wt:Int} {p k:Nat} {g:Gr} (hp:p<=4) (hk:k<=100000) (hc:0<=g.clock/\g.clock<=1000*(k+1)) (hw:g.wait=wt) (hw1:1<=g.wait/\g.wait<=1000) (hg:0<=g.gen/\g.gen<=k) (hl:(g.ms.length:Int)<=6) (hol:(g.os.length:Int)<=4) (hm: ∀ m∈g.ms,bQ m.name=true/\P m.name/\0<=m.heard/\m.heard<=g.clock) (ha:k9 g.ms) (ho:(∀ o∈g.os,0<=o.part/\o.part<4/\0<=o.at_/\o.at_<=400)/\g.os.Pairwise (fun a b=>a.part<b.part)):qQ P wt p (k+1) (G5 g p):=by
 refine⟨dA.2 ⟨⟨⟨hc.1,by show g.clock<=_;omega⟩,hw1.1,hw1.2,⟨by show 0<=g.gen+1;omega,by show g.gen+1<=_;omega⟩,by show((oS g.ms p).length:Int)<=6;rw[AL];exact hl,hol⟩,⟨fun m hm2=> ?_,?_⟩,ho⟩,by show g.clock<=_;omega,by show g.gen+1<=_;omega,hw,fun m hm2=> ?_,?_⟩
 obtain⟨x,hx,e1,e2⟩:=AM hm2
 obtain⟨i,hi⟩:=AK hm2
 obtain⟨a1,a2,a3,a4⟩:=hm x hx
 exact jJ.2 ⟨by rw[e1];exact a1,by rw[e2];exact a3,by rw[e2];exact a4,by rw[hi];exact Gh hp⟩
 unfold k9
 show((oS g.ms p).map _).Pairwise _
 rw[CG];exact ha
 obtain⟨x,hx,e1,-⟩:=AM hm2
 rw[e1];exact(hm x hx).2.1
 show(oS g.ms p).map _=gL ((oS g.ms p).map _) p
 rw[CG,FG]
theorem qQ.mems {P:ByteArray->Prop} {wt:Int} {p k:Nat} {g:Gr} (h:qQ P wt p k g): ∀ m∈g.ms,bQ m.name=true/\P m.name/\0<=m.heard/\m.heard<=g.clock:=fun m hm=>by
 obtain⟨-,⟨h2,-⟩,-⟩:=dA.1 h.ok
 obtain⟨a1,a2,a3,-⟩:=jJ.1 (h2 m hm)
 exact⟨a1,h.names m hm,a2,a3⟩
theorem qQ.join {P:ByteArray->Prop} {wt:Int} {p k:Nat} {g:Gr} {s:ByteArray} (h:qQ P wt p k g) (hp:p<=4) (hk:k<=100000) (hn:bQ s=true) (hs:P s) (he:(sR g s p).2=0):qQ P wt p (k+1) (sR g s p).1:=by
 obtain⟨⟨h1,h2,h3,h4,h5,h6⟩,⟨h7,h8⟩,h9⟩:=dA.1 h.ok
 unfold sR at he⊢
 cases hf:kh g s with
 |some x=>rw[hf]at he;cases he
 |none=>
  rw[hf]at he
  dsimp only at he⊢
  by_cases hl:g.ms.length=6
  rw[if_pos hl]at he;cases he
  rw[if_neg hl]
  have hno:=Kv hf
  have hck:=h.clock
  refine Lw hp hk ⟨h1.1,by show g.clock<=_;omega⟩ h.wait ⟨h2,h3⟩ ⟨h4.1,h.gen⟩ ?_ h6 (fun m hm=> ?_) ?_ h9
  show((g.ms++[_]).length:Int)<=6
  rw[az,bU];omega
  rcases ax.1 hm with hm|hm
  exact h.mems m hm
  rw[au.1 hm]
  exact⟨hn,hs,h1.1,iX _⟩
  unfold k9 at h8⊢
  show((g.ms++[De s g.clock]).map _).Pairwise _
  rw[bo,lY]
  refine⟨h8,by simp,fun a ha b hb=> ?_⟩
  obtain⟨t,ht,rfl⟩:=bB.1 ha
  simp only[eM,mh,au]at hb
  subst hb
  exact hno t ht
theorem G7 {l:List Mem} {i:Nat} {t t':Mem} (h:k9 l) (hi:l[i]? =some t) (hn:t'.name=t.name):k9 (l.set i t'):=by
 unfold k9 at h⊢
 rw[cD,hn,uf (by rw[aL,hi];rfl)]
 exact h
theorem qQ.beat {P:ByteArray->Prop} {wt:Int} {p k:Nat} {g:Gr} {s:ByteArray} {gn:Int} (h:qQ P wt p k g) (he:(wV g s gn).2=0):qQ P wt p (k+1) (wV g s gn).1:=by
 obtain⟨⟨h1,h2,h3,h4,h5,h6⟩,⟨h7,h8⟩,h9⟩:=dA.1 h.ok
 unfold wV at he⊢
 cases hf:kh g s with
 |none=>rw[hf]at he;cases he
 |some x=>
  obtain⟨i,t⟩:=x
  rw[hf]at he
  dsimp only at he⊢
  obtain⟨-,ht,-⟩:=nv hf
  have hm:=ah ht
  have hck:=h.clock
  have hgn:=h.gen
  by_cases hg:g.gen=gn
  rw[if_pos hg]
  refine⟨dA.2 ⟨⟨h1,h2,h3,h4,?_,h6⟩,⟨fun m hm2=> ?_,G7 h8 ht Z⟩,h9⟩,?_,?_,h.wait,fun m hm2=> ?_,?_⟩
  show((g.ms.set i _).length:Int)<=6
  rw[aa];exact h5
  rcases bH hm2 with hm2|rfl
  exact h7 m hm2
  have:=jJ.1 (h7 t hm)
  exact jJ.2 ⟨this.1,h1.1,iX _,this.2.2.2⟩
  show g.clock<=_;omega
  show g.gen<=_;omega
  rcases bH hm2 with hm2|rfl
  exact h.names m hm2
  exact h.names t hm
  show(g.ms.set i _).map _=gL ((g.ms.set i _).map _) p
  rw[cD,cD]
  rw[uf (by rw[aL,ht];rfl),uf (by rw[aL,ht];rfl)]
  exact h.asg
  rw[if_neg hg]at he;cases he
theorem Gn {os:List me} {part:Int}: ∀ o∈os.take (mp os part),o.part<part:=by
 unfold mp
 intro o ho
 rw[<-List.prefix_iff_eq_take.1 (List.takeWhile_prefix _)]at ho
 have:=eh.1 (List.all_takeWhile (p:=fun o:me=>decide (o.part<part)) (l:=os)) o ho
 simpa using this
theorem zF {os:List me} {part:Int} (h:os.Pairwise (fun a b=>a.part<b.part)): ∀ o∈os.drop (mp os part),part<=o.part:=by
 induction os with
 |nil=>intro o ho;simp at ho
 |cons x l ih=>
  obtain⟨h1,h2⟩:=ex.1 h
  intro o ho
  by_cases hx:x.part<part
  have e:mp (x::l) part=mp l part+1:=by unfold mp;rw[List.takeWhile_cons_of_pos (by simpa using hx)];rfl
  rw[e,zc]at ho
  exact ih h2 o ho
  have e:mp (x::l) part=0:=by unfold mp;rw[List.takeWhile_cons_of_neg (by simpa using hx)];rfl
  rw[e,lZ]at ho
  rcases ay.1 ho with rfl|ho
  omega
  have:=h1 o ho;omega
theorem Ko {os:List me} (h:os.Pairwise (fun a b=>a.part<b.part)) (hb: ∀ o∈os,0<=o.part/\o.part<4):(os.length:Int)<=4:=by
 have h1:cU (-1) (os.map me.part)=true:=vA _ _ (jq.2 h) fun q hq=>by
  obtain⟨o,ho,rfl⟩:=bB.1 hq
  have:=hb o ho;omega
 have:=ml h1
 rw[bI]at this
 omega
theorem Iu {os:List me} {part at_:Int} (h0:0<=part) (h3:part<4) (ha0:0<=at_) (ha:at_<=400) (ho:(∀ o∈os,0<=o.part/\o.part<4/\0<=o.at_/\o.at_<=400)/\os.Pairwise (fun a b=>a.part<b.part)):((∀ o∈gN os part at_,0<=o.part/\o.part<4/\0<=o.at_/\o.at_<=400)/\(gN os part at_).Pairwise (fun a b=>a.part<b.part)):=by
 obtain⟨h1,h2⟩:=ho
 unfold gN
 split
 rename_i hp
 obtain⟨o,hx,hxp⟩:=iK.1 hp
 refine⟨fun y hy=> ?_,?_⟩
 rcases bH hy with hy|rfl
 exact h1 y hy
 exact⟨h0,h3,ha0,ha⟩
 have:(os.set (mp os part) ⟨part,at_⟩).map me.part=os.map me.part:=by
  rw[cD,uf (by rw[aL,hx];show some o.part=some part;rw[hxp])]
 rw[<-jq (f:=me.part) (R:=fun a b:Int=>a<b),this,jq]
 exact h2
 rename_i hp
 refine⟨fun y hy=> ?_,?_⟩
 simp only[ax,au]at hy
 rcases hy with(hy|rfl)|hy
 exact h1 y (yz hy)
 exact⟨h0,h3,ha0,ha⟩
 exact h1 y (List.mem_of_mem_drop hy)
 have hd: ∀ o∈os.drop (mp os part),part<o.part:=fun o ho=>by
  have h4:=zF h2 o ho
  rcases Int.lt_or_eq_of_le h4 with h5|h5
  exact h5
  exfalso
  obtain⟨j,hj⟩:=aU.1 ho
  cases hd:os.drop (mp os part)with
  |nil=>rw[hd]at hj;simp at hj
  |cons y l=>
   have hy:os[mp os part]? =some y:=by
    have:=congrArg (fun l=>l[0]?) hd
    simpa [dO]using this
   have hyp:y.part≠part:=fun h=>hp (by rw[hy];exact congrArg some h)
   have hy1:=zF h2 y (by rw[hd];exact aC ..)
   have hpw:(y::l).Pairwise (fun a b=>a.part<b.part):=hd▸h2.sublist (List.drop_sublist _ _)
   rw[hd]at ho
   rcases ay.1 ho with rfl|ho
   exact hyp h5.symm
   have:=(ex.1 hpw).1 o ho;omega
 rw[aE,lY]
 refine⟨h2.sublist (List.take_sublist _ _),?_,fun a ha b hb=> ?_⟩
 show(_::os.drop (mp os part)).Pairwise _
 exact ex.2 ⟨hd,h2.sublist (List.drop_sublist _ _)⟩
 have h5:=Gn a ha
 rcases ax.1 hb with hb|hb
 rw[au.1 hb];exact h5
 have:=hd b hb;omega
theorem qQ.store {P:ByteArray->Prop} {wt:Int} {p k:Nat} {g:Gr} {s:ByteArray} {gn part at_:Int} (h:qQ P wt p k g) (ha0:0<=at_) (he:(sa g s gn part at_).2=0):qQ P wt p (k+1) (sa g s gn part at_).1:=by
 obtain⟨⟨h1,h2,h3,h4,h5,h6⟩,⟨h7,h8⟩,h9⟩:=dA.1 h.ok
 unfold sa at he⊢
 cases hf:kh g s with
 |none=>rw[hf]at he;cases he
 |some x=>
  obtain⟨i,t⟩:=x
  rw[hf]at he
  dsimp only at he⊢
  obtain⟨-,ht,-⟩:=nv hf
  have hm:=ah ht
  have hck:=h.clock
  have hgn:=h.gen
  by_cases hg:g.gen=gn
  rw[if_pos hg]at he⊢
  by_cases hat:400<at_
  rw[if_pos hat]at he;cases he
  rw[if_neg hat]at he⊢
  by_cases hpt:part∈t.parts
  rw[if_pos hpt]
  have hp4:=(fK (jJ.1 (h7 t hm)).2.2.2).2 part hpt
  have ho:=Iu I hp4.2 ha0 I h9
  exact⟨dA.2 ⟨⟨h1,h2,h3,h4,h5,Ko ho.2 fun o hx=>⟨(ho.1 o hx).1,(ho.1 o hx).2.1⟩⟩,⟨h7,h8⟩,ho⟩,by show g.clock<=_;omega,by show g.gen<=_;omega,h.wait,h.names,h.asg⟩
  rw[if_neg hpt]at he;cases he
  rw[if_neg hg]at he;cases he
theorem qQ.tick {P:ByteArray->Prop} {wt:Int} {p k:Nat} {g:Gr} {n:Int} (h:qQ P wt p k g) (hp:p<=4) (hk:k<=100000) (hn0:0<=n) (hn:n<=1000):qQ P wt p (k+1) (pN g n p):=by
 obtain⟨⟨h1,h2,h3,h4,h5,h6⟩,⟨h7,h8⟩,h9⟩:=dA.1 h.ok
 have hck:=h.clock
 have hgn:=h.gen
 unfold pN
 by_cases hl:(g.ms.filter fun m=>!tq g n m).length=g.ms.length
 rw[if_pos hl]
 refine⟨dA.2 ⟨⟨⟨by show 0<=g.clock+n;omega,by show g.clock+n<=_;omega⟩,h2,h3,h4,h5,h6⟩,⟨fun m hm=> ?_,h8⟩,h9⟩,by show g.clock+n<=_;omega,by show g.gen<=_;omega,h.wait,h.names,h.asg⟩
 obtain⟨a1,a2,a3,a4⟩:=jJ.1 (h7 m hm)
 exact jJ.2 ⟨a1,a2,by show m.heard<=g.clock+n;omega,a4⟩
 rw[if_neg hl]
 have hsub:(g.ms.filter fun m=>!tq g n m).Sublist g.ms:=List.filter_sublist
 refine Lw hp hk ⟨by show 0<=g.clock+n;omega,by show g.clock+n<=_;omega⟩ h.wait ⟨h2,h3⟩ ⟨h4.1,h.gen⟩ ?_ h6 (fun m hm=> ?_) ?_ h9
 have:=hsub.length_le
 show((g.ms.filter fun m=>!tq g n m).length:Int)<=6
 omega
 obtain⟨a1,a2,a3,a4⟩:=h.mems m (hsub.subset hm)
 exact⟨a1,a2,a3,by show m.heard<=g.clock+n;omega⟩
 unfold k9 at h8⊢
 exact h8.sublist (hsub.map _)
theorem qF {g:Gr} {s:ByteArray} {i:Nat} {t:Mem} (h:kh g s=some (i,t)):kh g.a s=some (i,t.a):=by rw[HC,h];rfl
theorem qG {g:Gr} {s:ByteArray} (h:kh g s=none):kh g.a s=none:=by rw[HC,h];rfl
abbrev CP (f:FuncId) (args:List Value) (w:World) (x:Gr×Int):Prop:=dg ab f args w fun v w2=> ∃ g':Gr,v=.tuple #[g'.v,J x.2]/\g'.a=x.1/\yw w w2 g'
theorem IQ (g:Gr) (s:ByteArray) (p:Nat) (w:World) (h:g.rd 0 w.heap.size w) (hok:kV g=true) (hn:bQ s=true) (hp:p<=4) (hg1:g.gen<1073741824):CP pq [g.v,.string s,J (p:Nat)] w (sR g.a s p):=by
 unfold CP sR
 cases hf:kh g s with
 |none=>
  rw[qG hf]
  dsimp only
  by_cases hl:g.ms.length=6
  rw[if_pos (show g.a.ms.length=6 by simpa [Gr.a]using hl)]
  exact(IP g s p w h hok hn hp hg1 (nw hf) hl).mono fun v w2 ⟨h1,h2⟩=>⟨AV,h1,rfl,qA h2⟩
  rw[if_neg (show¬ g.a.ms.length=6 by simpa [Gr.a]using hl)]
  exact MJ g s p w h hok hn hp hg1 (nw hf) hl
 |some x=>
  obtain⟨i,t⟩:=x
  rw[qF hf]
  exact(GC g s p w h hok hn hp hg1 i (nv hf).1).mono fun v w2 ⟨h1,h2⟩=>⟨AV,h1,rfl,qA h2⟩
theorem Jk (g:Gr) (s:ByteArray) (gn:Int) (w:World) (h:g.rd 0 w.heap.size w) (hok:kV g=true) (hn:bQ s=true):CP pr [g.v,.string s,J gn] w (wV g.a s gn):=by
 unfold CP wV
 cases hf:kh g s with
 |none=>
  rw[qG hf]
  exact(Jj g s gn w h hok hn (nw hf)).mono fun v w2 ⟨h1,h2⟩=>⟨AV,h1,rfl,qA h2⟩
 |some x=>
  obtain⟨i,t⟩:=x
  rw[qF hf]
  obtain⟨hi,ht,-⟩:=nv hf
  dsimp only
  by_cases hg:g.gen=gn
  rw[if_pos (show g.a.gen=gn from hg)]
  exact M1 g s gn w h hok hn i t hi ht hg
  rw[if_neg (show¬ g.a.gen=gn from hg)]
  exact(G3 g s gn w h hok hn i hi hg).mono fun v w2 ⟨h1,h2⟩=>⟨AV,h1,rfl,qA h2⟩
theorem FX (g:Gr) (s:ByteArray) (gn part at_:Int) (w:World) (h:g.rd 0 w.heap.size w) (hok:kV g=true) (hn:bQ s=true) (ha:0<=at_):CP jM [g.v,.string s,J gn,J part,J at_] w (sa g.a s gn part at_):=by
 unfold CP sa
 cases hf:kh g s with
 |none=>
  rw[qG hf]
  exact(FW g s gn part at_ w h hok hn (nw hf)).mono fun v w2 ⟨h1,h2⟩=>⟨AV,h1,rfl,qA h2⟩
 |some x=>
  obtain⟨i,t⟩:=x
  rw[qF hf]
  obtain⟨hi,ht,-⟩:=nv hf
  dsimp only
  by_cases hg:g.gen=gn
  rw[if_pos (show g.a.gen=gn from hg)]
  by_cases hat:400<at_
  rw[if_pos hat]
  exact(En g s gn part at_ w h hok hn i hi hg hat).mono fun v w2 ⟨h1,h2⟩=>⟨AV,h1,rfl,qA h2⟩
  rw[if_neg hat]
  by_cases hp:part∈t.parts
  rw[if_pos (show part∈t.a.parts from hp)]
  exact JQ g s gn part at_ w h hok hn i t hi ht hg ha I hp
  rw[if_neg (show¬ part∈t.a.parts from hp)]
  exact(Em g s gn part at_ w h hok hn i t hi ht hg ha I hp).mono fun v w2 ⟨h1,h2⟩=>⟨AV,h1,rfl,qA h2⟩
  rw[if_neg (show¬ g.a.gen=gn from hg)]
  exact(Eo g s gn part at_ w h hok hn i hi hg).mono fun v w2 ⟨h1,h2⟩=>⟨AV,h1,rfl,qA h2⟩
theorem r8 (g:Gr) (s:ByteArray) (part:Int) (w:World) (h:g.rd 0 w.heap.size w) (hok:kV g=true) (hn:bQ s=true):dg ab nO [g.v,.string s,J part] w fun v w2=>v=.tuple #[J (eR g.a s part).1,J (eR g.a s part).2]/\Below w.heap.size w w2:=by
 unfold eR
 cases hf:kh g s with
 |none=>
  rw[qG hf]
  exact FQ g s part w h hok hn (nw hf)
 |some x=>
  obtain⟨i,t⟩:=x
  rw[qF hf]
  obtain⟨hi,ht,-⟩:=nv hf
  dsimp only
  by_cases hp:part∈t.parts
  rw[if_pos (show part∈t.a.parts from hp)]
  exact JI g s part w h hok hn i t hi ht hp
  rw[if_neg (show¬ part∈t.a.parts from hp)]
  exact Ed g s part w h hok hn i t hi ht hp
def Pb:Deep Gr:=⟨fun g=>g.rd,fun _ _ _ _ _ hk h=>h.st hk,fun _ _ _ _ _ _ h h1 h2=>h.mono h1 h2⟩
theorem My (P:ByteArray->Prop) {wt:Int} (p:Nat) (h1:1<=wt) (h2:wt<=1000):qQ P wt p 0 ⟨0,wt,0,[],none,0,[],none,0⟩:=⟨dA.2 ⟨⟨⟨by simp,by simp⟩,h1,h2,⟨by simp,by simp⟩,by simp,by simp⟩,⟨by simp,by simp[k9]⟩,by simp,by simp⟩,by simp,by simp,rfl,by simp,by simp[gL]⟩
theorem qQ.next {P:ByteArray->Prop} {wt:Int} {p k:Nat} {q:Gr} {r:Gr×Int} (h:r.2=0->qQ P wt p (k+1) r.1) (ha:q.a=r.1):r.2=0->qQ P wt p (k+1) q:=fun h0=>qQ.of_a (ha▸h h0)
theorem FD (p t:Tx) (b:Nat) (w:World) (hx:w.heap[b]? =some (.cells t.c.toArray cI (0,0))):
  dg ab rL [p.v,.pointer (Qd b)] w fun v w2=>v=.bool (decide (p.name=t.name)||decide (p.pid=t.pid))/\Below w.heap.size w w2:=by
 refine aF wF Z Z ?_
 have H:=Hp.start w
 have hb:=cj hx
 refine W<|Zr<|fW H Z Z fun w1 b2 H=>G (Wb Z)<|U<|W<|Zr<|G (Zf ol Z)<|G (Zd bc H 0 Z Z Z)<|G (Zf ol Z)<|G (aX bc Z ((H.below.cell (p:=⟨b,_,none⟩) hb).trans (aD (j:=0) hx Z))) ?_
 refine cW (vx Z Z) Z Z Z (fun h8=> ?_) (fun h8=> ?_)
 refine G (Yb Z)<|ZN<|ZN<|ZN<|ZN<|ZN<|G (Kt Z Z)<|G (Wb Z)<|U<|Zt ?_
 have hv:(decide (p.name=t.name)||decide (p.pid=t.pid))=true:=by simp[h8]
 exact cH (v:=.bool true) Z Z ⟨by rw[hv],H.below⟩
 refine G (Yb Z)<|ZG<|G (Zf lj Z)<|ZG<|G (Zd ak H 0 Z Z Z)<|ZG<|G (Zf lj Z)<|ZG<|G (aX ak Z ((H.below.cell (p:=⟨b,_,none⟩) hb).trans (aD (j:=1) hx Z)))<|ZG ?_
 refine cW (bp Z Z) Z Z Z (fun h14=> ?_) (fun h14=> ?_)
 refine G (N Z Z)<|G (Wb Z)<|U<|Zt ?_
 have hv:(decide (p.name=t.name)||decide (p.pid=t.pid))=true:=by simp[h8,h14]
 exact cH (v:=.bool true) Z Z ⟨by rw[hv],H.below⟩
 refine G (N Z Z)<|G (Wb Z)<|U<|Zt ?_
 have hv:(decide (p.name=t.name)||decide (p.pid=t.pid))=false:=by simp[h8,h14]
 exact cH (v:=.bool false) Z Z ⟨by rw[hv],H.below⟩
theorem nu (p:Tx) (s:ByteArray) (b:Nat) (w:World) (hx:w.heap[b]? =some (.cells #[.string s] kD (0,0))):
  dg ab gO [p.v,.pointer (Qd b)] w fun v w2=>v=.bool (decide (p.name=s))/\Below w.heap.size w w2:=by
 refine aF xG Z Z ?_
 have H:=Hp.start w
 have hb:=cj hx
 refine W<|Zr<|fW H Z Z fun w1 b2 H=>G (Wb Z)<|U<|W<|Zr<|G (Zf ol Z)<|G (Zd bc H 0 Z Z Z)<|G (aX bc Z ((H.below.cell (p:=⟨b,_,none⟩) hb).trans (aD (j:=0) hx Z)))<|G (vx Z Z)<|G (Wb Z)<|U<|Zt ?_
 exact cH Z Z ⟨rfl,H.below⟩
theorem FA (n:Int) (w:World) (h1:1<=n) (h2:n<=1000):dg ab Fd [J n] w fun v w2=>v=.tuple #[.agg #[J 0,J 1,J n,.slice none 0 0],J 0]/\Below w.heap.size w w2:=by
 refine aF DK Z Z ?_
 have H:=Hp.start w
 refine W<|Zr<|eI H cM Z fun w1 b2 H=>G (Wi Z)<|U<|W<|W<|Zr<|G (Yi Z)<|G (dd Z Z I)<|G (Yb Z)<|ZG<|G (Yi Z)<|ZG<|G (eA Z Z I)<|G (N Z Z)<|U<|ZF Z<|Zk<|W<|Zr<|G (Yi Z)<|G (bn (cs:= #[J 0,J 1,J n,.slice none 0 0]) fz cM N)<|bg H 0 (#[J 0,J 1,J n,.slice none 0 0]) aA Z Z Z Z Z N N fun w2 H=>G (Wi Z)<|U<|Zt ?_
 exact bG (cs0:= #[J 0,J 1,J n,.slice none 0 0]) (v1:=J 0) Z aq Z (H.ent (i:=0) Z) Z Z ⟨rfl,H.below⟩
theorem Nw (ck nx wt:Int) (At:Option Addr) (n ct:Nat) (t:Tx) (w:World) (hr:Rd bW 0 w.heap.size t.A t.parts w) (hpl:t.parts.length<=1000000):
  dg ab Fb [.agg #[J ck,J nx,J wt,.slice At n ct],t.v] w fun v w2=>v=.bool (fH ck nx t)/\Below w.heap.size w w2:=by
 refine aF DJ Z Z ?_
 have H:=Hp.startRd hr
 refine W<|Zr<|fW H Z Z fun w1 b2 H=>fW H Z Z fun w2 b3 H=>G (Wb Z)<|U<|W<|W<|Zr<|G (Zf ol Z)<|G (Zd bc H 0 Z Z Z)<|ch ry (Df t.name _) Z Z ?_
 rintro _ w3 ⟨rfl,hb⟩;replace H:=H.later hb;clear hb
 refine G (dR Z)<|G (Yb Z) ?_
 refine mq 11 Z (fun h11=> ?_) (fun h11=> ?_)
 refine ZN<|ZN<|ZN<|G (Kt Z Z)<|G (Yb Z)<|ZN<|ZN<|ZN<|ZN<|ZN<|G (Kt Z Z)<|G (Yb Z)<|ZN<|ZN<|ZN<|ZN<|G (Kt Z Z)<|G (Yb Z)<|ZN<|ZN<|ZN<|G (Kt Z Z)<|G (Yb Z)<|ZN<|ZN<|ZN<|G (Kt Z Z)<|G (Yb Z)<|ZN<|ZN<|ZN<|G (Kt Z Z)<|G (Yb Z)<|ZN<|ZN<|ZN<|ZN<|ZN<|G (Kt Z Z)<|G (Yb Z) ?_
 refine ZN<|ZN<|ZN<|ZN<|ZN<|ZN<|ZN<|ZN<|ZN<|ZN<|ZN<|ZN<|ZN<|G (Kt Z Z)<|U<|ZT Z<|W<|Zr<|G (Wb Z)<|U<|Zt ?_
 have hv:fH ck nx t=false:=by
  cases hh:fH ck nx t
  rfl
  obtain⟨a1,a2,a3,a4,a5,a6,a7,a8,a9,a10,a11⟩:=cF.1 hh
  exfalso
  first|omega|simp_all
 exact cH (v:=.bool false) Z Z ⟨by rw[hv],H.below⟩
 refine ZG<|G (Zf lj Z)<|ZG<|G (Zd ak H 0 Z Z Z)<|ZG ?_
 refine cW (cK Z Z) Z Z Z (fun h14=> ?_) (fun h14=> ?_)
 refine G (N Z Z)<|G (Yb Z)<|ZN<|ZN<|ZN<|ZN<|ZN<|G (Kt Z Z)<|G (Yb Z)<|ZN<|ZN<|ZN<|ZN<|G (Kt Z Z)<|G (Yb Z)<|ZN<|ZN<|ZN<|G (Kt Z Z)<|G (Yb Z)<|ZN<|ZN<|ZN<|G (Kt Z Z)<|G (Yb Z)<|ZN<|ZN<|ZN<|G (Kt Z Z)<|G (Yb Z)<|ZN<|ZN<|ZN<|ZN<|ZN<|G (Kt Z Z)<|G (Yb Z)<|ZN<|ZN<|ZN ?_
 refine ZN<|ZN<|ZN<|ZN<|ZN<|ZN<|ZN<|ZN<|ZN<|ZN<|G (Kt Z Z)<|U<|ZT Z<|W<|Zr<|G (Wb Z)<|U<|Zt ?_
 have hv:fH ck nx t=false:=by
  cases hh:fH ck nx t
  rfl
  obtain⟨a1,a2,a3,a4,a5,a6,a7,a8,a9,a10,a11⟩:=cF.1 hh
  exfalso
  first|omega|simp_all
 exact cH (v:=.bool false) Z Z ⟨by rw[hv],H.below⟩
 refine G (N Z Z)<|G (Yb Z)<|ZG<|G (Zf lj Z)<|ZG<|G (Zd ak H 0 Z Z Z)<|ZG<|G (Zf km Z)<|ZG<|G (Zd ak H 1 Z Z Z)<|ZG ?_
 refine cW (kf Z Z) Z Z Z (fun h21=> ?_) (fun h21=> ?_)
 refine G (N Z Z)<|G (Yb Z)<|ZN<|ZN<|ZN<|ZN<|G (Kt Z Z)<|G (Yb Z)<|ZN<|ZN<|ZN<|G (Kt Z Z)<|G (Yb Z)<|ZN<|ZN<|ZN<|G (Kt Z Z)<|G (Yb Z)<|ZN<|ZN<|ZN<|G (Kt Z Z)<|G (Yb Z)<|ZN<|ZN<|ZN<|ZN<|ZN<|G (Kt Z Z)<|G (Yb Z)<|ZN<|ZN<|ZN<|ZN<|ZN<|ZN<|ZN<|ZN<|ZN<|ZN ?_
 refine ZN<|ZN<|ZN<|G (Kt Z Z)<|U<|ZT Z<|W<|Zr<|G (Wb Z)<|U<|Zt ?_
 have hv:fH ck nx t=false:=by
  cases hh:fH ck nx t
  rfl
  obtain⟨a1,a2,a3,a4,a5,a6,a7,a8,a9,a10,a11⟩:=cF.1 hh
  exfalso
  first|omega|simp_all
 exact cH (v:=.bool false) Z Z ⟨by rw[hv],H.below⟩
 refine G (N Z Z)<|G (Yb Z)<|ZG<|G (Zf gz Z)<|ZG<|G (Zd ak H 0 Z Z Z)<|ZG<|ch sV (AF t.ver _) Z Z ?_
 rintro _ w4 ⟨rfl,hb⟩;replace H:=H.later hb;clear hb
 refine ZG<|G (dR Z)<|G (N Z Z)<|G (Yb Z) ?_
 refine mq 29 Z (fun h29=> ?_) (fun h29=> ?_)
 refine ZN<|ZN<|ZN<|G (Kt Z Z)<|G (Yb Z)<|ZN<|ZN<|ZN<|G (Kt Z Z)<|G (Yb Z)<|ZN<|ZN<|ZN<|G (Kt Z Z)<|G (Yb Z)<|ZN<|ZN<|ZN<|ZN<|ZN<|G (Kt Z Z)<|G (Yb Z)<|ZN<|ZN<|ZN<|ZN<|ZN<|ZN<|ZN<|ZN<|ZN<|ZN<|ZN<|ZN<|ZN<|G (Kt Z Z)<|U<|ZT Z<|W<|Zr ?_
 refine G (Wb Z)<|U<|Zt ?_
 have hv:fH ck nx t=false:=by
  cases hh:fH ck nx t
  rfl
  obtain⟨a1,a2,a3,a4,a5,a6,a7,a8,a9,a10,a11⟩:=cF.1 hh
  exfalso
  first|omega|simp_all
 exact cH (v:=.bool false) Z Z ⟨by rw[hv],H.below⟩
 refine ZG<|G (Zf cT Z)<|ZG<|G (Zd ak H 0 Z Z Z)<|ZG ?_
 refine cW (cK Z Z) Z Z Z (fun h32=> ?_) (fun h32=> ?_)
 refine G (N Z Z)<|G (Yb Z)<|ZN<|ZN<|ZN<|G (Kt Z Z)<|G (Yb Z)<|ZN<|ZN<|ZN<|G (Kt Z Z)<|G (Yb Z)<|ZN<|ZN<|ZN<|ZN<|ZN<|G (Kt Z Z)<|G (Yb Z)<|ZN<|ZN<|ZN<|ZN<|ZN<|ZN<|ZN<|ZN<|ZN<|ZN<|ZN<|ZN<|ZN<|G (Kt Z Z)<|U<|ZT Z<|W<|Zr<|G (Wb Z)<|U<|Zt ?_
 have hv:fH ck nx t=false:=by
  cases hh:fH ck nx t
  rfl
  obtain⟨a1,a2,a3,a4,a5,a6,a7,a8,a9,a10,a11⟩:=cF.1 hh
  exfalso
  first|omega|simp_all
 exact cH (v:=.bool false) Z Z ⟨by rw[hv],H.below⟩
 refine G (N Z Z)<|G (Yb Z)<|ZG<|G (Zf cT Z)<|ZG<|G (Zd ak H 0 Z Z Z)<|ZG ?_
 refine cW (ke Z Z) Z Z Z (fun h37=> ?_) (fun h37=> ?_)
 refine G (N Z Z)<|G (Yb Z)<|ZN<|ZN<|ZN<|G (Kt Z Z)<|G (Yb Z)<|ZN<|ZN<|ZN<|ZN<|ZN<|G (Kt Z Z)<|G (Yb Z)<|ZN<|ZN<|ZN<|ZN<|ZN<|ZN<|ZN<|ZN<|ZN<|ZN<|ZN<|ZN<|ZN<|G (Kt Z Z)<|U<|ZT Z<|W<|Zr<|G (Wb Z)<|U<|Zt ?_
 have hv:fH ck nx t=false:=by
  cases hh:fH ck nx t
  rfl
  obtain⟨a1,a2,a3,a4,a5,a6,a7,a8,a9,a10,a11⟩:=cF.1 hh
  exfalso
  first|omega|simp_all
 exact cH (v:=.bool false) Z Z ⟨by rw[hv],H.below⟩
 refine G (N Z Z)<|G (Yb Z)<|ZG<|G (Zf tQ Z)<|ZG<|G (Zd ak H 0 Z Z Z)<|ZG ?_
 refine cW (cK Z Z) Z Z Z (fun h42=> ?_) (fun h42=> ?_)
 refine G (N Z Z)<|G (Yb Z)<|ZN<|ZN<|ZN<|ZN<|ZN<|G (Kt Z Z)<|G (Yb Z)<|ZN<|ZN<|ZN<|ZN<|ZN<|ZN<|ZN<|ZN<|ZN<|ZN<|ZN<|ZN<|ZN<|G (Kt Z Z)<|U<|ZT Z<|W<|Zr<|G (Wb Z)<|U<|Zt ?_
 have hv:fH ck nx t=false:=by
  cases hh:fH ck nx t
  rfl
  obtain⟨a1,a2,a3,a4,a5,a6,a7,a8,a9,a10,a11⟩:=cF.1 hh
  exfalso
  first|omega|simp_all
 exact cH (v:=.bool false) Z Z ⟨by rw[hv],H.below⟩
 refine G (N Z Z)<|G (Yb Z)<|ZG<|G (Zf tQ Z)<|ZG<|G (Zd ak H 0 Z Z Z)<|ZG<|G (Zf ko Z)<|ZG<|G (Zd ak H 1 Z Z Z)<|ZG ?_
 refine cW (ke Z Z) Z Z Z (fun h49=> ?_) (fun h49=> ?_)
 refine G (N Z Z)<|G (Yb Z)<|ZN<|ZN<|ZN<|ZN<|ZN<|ZN<|ZN<|ZN<|ZN<|ZN<|ZN<|ZN<|ZN<|G (Kt Z Z)<|U<|ZT Z<|W<|Zr<|G (Wb Z)<|U<|Zt ?_
 have hv:fH ck nx t=false:=by
  cases hh:fH ck nx t
  rfl
  obtain⟨a1,a2,a3,a4,a5,a6,a7,a8,a9,a10,a11⟩:=cF.1 hh
  exfalso
  first|omega|simp_all
 exact cH (v:=.bool false) Z Z ⟨by rw[hv],H.below⟩
 refine G (N Z Z)<|G (Yb Z)<|ZG<|G (Zf jg Z)<|ZG<|G (Zd ak H 0 Z Z Z)<|ZG ?_
 refine qV (ja Z Z) Z Z Z (fun h54=> ?_) (fun h54=> ?_)
 refine ZG<|G (Yb Z)<|ZG<|G (Zf jg Z)<|ZG<|G (Zd ak H 0 Z Z Z)<|ZG ?_
 refine qV (ja Z Z) Z Z Z (fun h58=> ?_) (fun h58=> ?_)
 refine ZG<|G (Kt Z Z)<|ZG<|G (Yb Z)<|ZG<|G (Zf jg Z)<|ZG<|G (Zd ak H 0 Z Z Z)<|ZG ?_
 refine qV (ja Z Z) Z Z Z (fun h63=> ?_) (fun h63=> ?_)
 refine ZG<|G (Kt Z Z)<|G (N Z Z)<|U<|ZT Z<|W<|Zr<|G (Wb Z)<|U<|Zt ?_
 have hv:fH ck nx t=false:=by
  cases hh:fH ck nx t
  rfl
  obtain⟨a1,a2,a3,a4,a5,a6,a7,a8,a9,a10,a11⟩:=cF.1 hh
  exfalso
  first|omega|simp_all
 exact cH (v:=.bool false) Z Z ⟨by rw[hv],H.below⟩
 refine ZG<|G (Kt Z Z)<|G (N Z Z)<|U<|ZF Z<|Zk<|W<|W<|Zr<|G (Zf dB Z)<|G (Zd bL H 0 Z Z Z)<|G (br eJ Z)<|G (Yi Z)<|U<|Zb ?_
 refine cy (τ:=Nat×Int) [4,5,6,69,70,71,72,73,74,75,76,77,78,79,80,81,82,83,84,85,86,87,88,89,90,91,92,93,94] (fun(k,_)=>[(69,J (k:Nat))]) (fun(k,last) w'=>k<=t.parts.length/\cU (-1) t.parts=cU last (t.parts.drop k)/\(k=0->last= -1)/\(∀ j,k=j+1->t.parts[j]? =some last)/\ -1<=last/\Hp w w' [(b3,.cells t.c.toArray cI (0,0))] [dT bW 0 w.heap.size t.A t.parts]) (fun(k,_)=>t.parts.length-k) (0,-1) ⟨by omega,by rw[lZ],fun _=>rfl,fun j hj=>by omega,by omega,H.forget (oZ _ (.cons _ (ar _))) (fun _ h=>h)⟩ (dJ Z) ?_
 rintro⟨k,last⟩ ρ1 w5 ⟨hk,hpo,hl0,hl1,hl2,H⟩
 show CW _ _ _ _ (dH (gJ _ _ ρ1) [(69,J (k:Nat))]) w5
 refine W<|Zr ?_
 refine cW (cK Z Z) Z Z Z (fun h70=> ?_) (fun h70=> ?_)
 refine U<|W<|ZT Z<|Zk<|W<|Zb<|W<|Zr<|G (Yi Z)<|ql H 0 Z aT Z Z I I Z fun b6 o6 x6 e6=> ?_
 have hxk:=e6.at_
 have hdrop:=cP hxk
 refine G (aX ak Z (e6.cl 0 _ Z))<|G (Wi Z)<|G (Wi Z)<|U<|W<|Zr<|G (Yi Z) ?_
 refine cW (cK Z Z) Z Z Z (fun h75=> ?_) (fun h75=> ?_)
 refine G (Yb Z)<|ZN<|ZN<|G (Kt Z Z)<|G (Yb Z)<|ZN<|ZN<|ZN<|ZN<|ZN<|ZN<|ZN<|ZN<|ZN<|ZN<|ZN<|ZN<|G (Kt Z Z)<|U<|ZT Z<|W<|Zr<|G (Wb Z)<|U<|Zt ?_
 have hv:fH ck nx t=false:=by
  cases hh:fH ck nx t
  rfl
  obtain⟨a1,a2,a3,a4,a5,a6,a7,a8,a9,a10,a11⟩:=cF.1 hh
  exfalso
  rw[hpo,hdrop]at a10
  simp only[cU,aR,decide_eq_true_eq]at a10
  obtain⟨⟨q1,q2⟩,-⟩:=a10
  omega
 exact cH (v:=.bool false) Z Z ⟨by rw[hv],H.below⟩
 refine G (Yb Z)<|ZG<|G (Yi Z)<|ZG ?_
 refine cW (kf Z Z) Z Z Z (fun h78=> ?_) (fun h78=> ?_)
 refine G (N Z Z)<|G (Yb Z)<|ZN<|ZN<|ZN<|ZN<|ZN<|ZN<|ZN<|ZN<|ZN<|ZN<|ZN<|ZN<|G (Kt Z Z)<|U<|ZT Z<|W<|Zr<|G (Wb Z)<|U<|Zt ?_
 have hv:fH ck nx t=false:=by
  cases hh:fH ck nx t
  rfl
  obtain⟨a1,a2,a3,a4,a5,a6,a7,a8,a9,a10,a11⟩:=cF.1 hh
  exfalso
  rw[hpo,hdrop]at a10
  simp only[cU,aR,decide_eq_true_eq]at a10
  obtain⟨⟨q1,q2⟩,-⟩:=a10
  omega
 exact cH (v:=.bool false) Z Z ⟨by rw[hv],H.below⟩
 refine G (N Z Z)<|G (Yb Z)<|ZG<|G (Yi Z)<|ZG ?_
 refine cW (ke Z Z) Z Z Z (fun h82=> ?_) (fun h82=> ?_)
 refine ZG<|G (Yb Z)<|ZG<|G (Zf dB Z)<|ZG<|G (Zd bL H 0 Z Z Z)<|ZG<|G (Yi Z)<|ZG<|G (mW Z Z I I) ?_
 rw[show(k:Int)-1=((k-1:Nat):Int) by omega]
 refine ZG<|ql H 0 Z aT Z Z I I Z fun b7 o7 x7 e7=> ?_
 have hprev:=e7.at_
 refine ZG<|G (aX ak Z (e7.cl 0 _ Z))<|ZG<|G (Yi Z)<|ZG ?_
 refine cW (kf Z Z) Z Z Z (fun h91=> ?_) (fun h91=> ?_)
 refine ZG<|G (Kt Z Z)<|G (N Z Z)<|U<|ZT Z<|W<|Zr<|G (Wb Z)<|U<|Zt ?_
 have hv:fH ck nx t=false:=by
  cases hh:fH ck nx t
  rfl
  obtain⟨a1,a2,a3,a4,a5,a6,a7,a8,a9,a10,a11⟩:=cF.1 hh
  exfalso
  rw[hpo,hdrop]at a10
  simp only[cU,aR,decide_eq_true_eq]at a10
  obtain⟨⟨q1,q2⟩,-⟩:=a10
  obtain⟨j,rfl⟩: ∃ j,k=j+1:=⟨k-1,by omega⟩;have:=hl1 j Z;rw[show j+1-1=j by omega,this]at hprev;injection hprev with hprev;omega
 exact cH (v:=.bool false) Z Z ⟨by rw[hv],H.below⟩
 refine ZG<|G (Kt Z Z)<|G (N Z Z)<|U<|ZF Z<|Zk<|Zr<|G (bz Z Z I I)<|G (Yi Z)<|U ?_
 have hlt:last<x6:=by
  obtain⟨j,rfl⟩: ∃ j,k=j+1:=⟨k-1,by omega⟩
  have h1:=hl1 j Z
  rw[show j+1-1=j by omega,h1]at hprev
  injection hprev with hprev
  omega
 have h4:x6<4:=by omega
 refine⟨(k+1,x6),⟨by omega,?_,fun h=>by omega,fun j hj=> ?_,by omega,H⟩,dJ Z,Qg,by show t.parts.length- (k+1)<t.parts.length-k;omega⟩
 rw[hpo,hdrop];simp only[cU,decide_eq_true hlt,decide_eq_true h4,gY]
 obtain rfl:j=k:=by omega
 exact hxk
 refine ZG<|G (Yb Z)<|ZN<|ZN<|ZN<|ZN<|ZN<|ZN<|ZN<|ZN<|ZG<|G (N Z Z)<|G (N Z Z)<|U<|ZF Z<|Zk<|Zr<|G (bz Z Z I I)<|G (Yi Z)<|U ?_
 have hlt:last<x6:=by
  have:=hl0 I
  omega
 have h4:x6<4:=by omega
 refine⟨(k+1,x6),⟨by omega,?_,fun h=>by omega,fun j hj=> ?_,by omega,H⟩,dJ Z,Qg,by show t.parts.length- (k+1)<t.parts.length-k;omega⟩
 rw[hpo,hdrop];simp only[cU,decide_eq_true hlt,decide_eq_true h4,gY]
 obtain rfl:j=k:=by omega
 exact hxk
 have hke:k=t.parts.length:=by omega
 have hall:cU (-1) t.parts=true:=by rw[hpo,hke,fv];rfl
 refine U<|W<|ZF Z<|Zx<|W<|Zr<|G (Zf cT Z)<|G (Zd ak H 0 Z Z Z)<|G (bp Z Z)<|G (Zf dB Z)<|G (Zd bL H 0 Z Z Z)<|G (br eJ Z)<|G (bp Z Z)<|G (D2 v6 Z Z)<|G (Wb Z)<|U<|Zt ?_
 have hv:fH ck nx t=(decide (t.state=1)==decide ((t.parts.length:Int)=0)):=by
  rw[xc,cF,beq_iff_eq,decide_eq_decide]
  constructor
  rintro⟨-,-,-,-,-,-,-,-,-,-,h⟩
  exact h.trans ⟨fun x=>by omega,fun x=>by omega⟩
  intro h
  exact⟨by simpa using h11,by omega,by omega,by simpa using h29,by omega,by omega,by omega,by omega,by omega,hall,h.trans ⟨fun x=>by omega,fun x=>by omega⟩⟩
 exact cH (v:=.bool (decide (t.state=1)==decide ((t.parts.length:Int)=0))) Z Z ⟨by rw[hv],H.below⟩
 refine ZG<|G (Kt Z Z)<|ZG<|G (Yb Z)<|ZN<|ZN<|ZN<|ZG<|G (N Z Z)<|G (N Z Z)<|U<|ZF Z<|Zk<|W<|W<|Zr<|G (Zf dB Z)<|G (Zd bL H 0 Z Z Z)<|G (br eJ Z)<|G (Yi Z)<|U<|Zb ?_
 refine cy (τ:=Nat×Int) [4,5,6,69,70,71,72,73,74,75,76,77,78,79,80,81,82,83,84,85,86,87,88,89,90,91,92,93,94] (fun(k,_)=>[(69,J (k:Nat))]) (fun(k,last) w'=>k<=t.parts.length/\cU (-1) t.parts=cU last (t.parts.drop k)/\(k=0->last= -1)/\(∀ j,k=j+1->t.parts[j]? =some last)/\ -1<=last/\Hp w w' [(b3,.cells t.c.toArray cI (0,0))] [dT bW 0 w.heap.size t.A t.parts]) (fun(k,_)=>t.parts.length-k) (0,-1) ⟨by omega,by rw[lZ],fun _=>rfl,fun j hj=>by omega,by omega,H.forget (oZ _ (.cons _ (ar _))) (fun _ h=>h)⟩ (dJ Z) ?_
 rintro⟨k,last⟩ ρ1 w8 ⟨hk,hpo,hl0,hl1,hl2,H⟩
 show CW _ _ _ _ (dH (gJ _ _ ρ1) [(69,J (k:Nat))]) w8
 refine W<|Zr ?_
 refine cW (cK Z Z) Z Z Z (fun h70=> ?_) (fun h70=> ?_)
 refine U<|W<|ZT Z<|Zk<|W<|Zb<|W<|Zr<|G (Yi Z)<|ql H 0 Z aT Z Z I I Z fun b9 o9 x9 e9=> ?_
 have hxk:=e9.at_
 have hdrop:=cP hxk
 refine G (aX ak Z (e9.cl 0 _ Z))<|G (Wi Z)<|G (Wi Z)<|U<|W<|Zr<|G (Yi Z) ?_
 refine cW (cK Z Z) Z Z Z (fun h75=> ?_) (fun h75=> ?_)
 refine G (Yb Z)<|ZN<|ZN<|G (Kt Z Z)<|G (Yb Z)<|ZN<|ZN<|ZN<|ZN<|ZN<|ZN<|ZN<|ZN<|ZN<|ZN<|ZN<|ZN<|G (Kt Z Z)<|U<|ZT Z<|W<|Zr<|G (Wb Z)<|U<|Zt ?_
 have hv:fH ck nx t=false:=by
  cases hh:fH ck nx t
  rfl
  obtain⟨a1,a2,a3,a4,a5,a6,a7,a8,a9,a10,a11⟩:=cF.1 hh
  exfalso
  rw[hpo,hdrop]at a10
  simp only[cU,aR,decide_eq_true_eq]at a10
  obtain⟨⟨q1,q2⟩,-⟩:=a10
  omega
 exact cH (v:=.bool false) Z Z ⟨by rw[hv],H.below⟩
 refine G (Yb Z)<|ZG<|G (Yi Z)<|ZG ?_
 refine cW (kf Z Z) Z Z Z (fun h78=> ?_) (fun h78=> ?_)
 refine G (N Z Z)<|G (Yb Z)<|ZN<|ZN<|ZN<|ZN<|ZN<|ZN<|ZN<|ZN<|ZN<|ZN<|ZN<|ZN<|G (Kt Z Z)<|U<|ZT Z<|W<|Zr<|G (Wb Z)<|U<|Zt ?_
 have hv:fH ck nx t=false:=by
  cases hh:fH ck nx t
  rfl
  obtain⟨a1,a2,a3,a4,a5,a6,a7,a8,a9,a10,a11⟩:=cF.1 hh
  exfalso
  rw[hpo,hdrop]at a10
  simp only[cU,aR,decide_eq_true_eq]at a10
  obtain⟨⟨q1,q2⟩,-⟩:=a10
  omega
 exact cH (v:=.bool false) Z Z ⟨by rw[hv],H.below⟩
 refine G (N Z Z)<|G (Yb Z)<|ZG<|G (Yi Z)<|ZG ?_
 refine cW (ke Z Z) Z Z Z (fun h82=> ?_) (fun h82=> ?_)
 refine ZG<|G (Yb Z)<|ZG<|G (Zf dB Z)<|ZG<|G (Zd bL H 0 Z Z Z)<|ZG<|G (Yi Z)<|ZG<|G (mW Z Z I I) ?_
 rw[show(k:Int)-1=((k-1:Nat):Int) by omega]
 refine ZG<|ql H 0 Z aT Z Z I I Z fun b10 o10 x10 e10=> ?_
 have hprev:=e10.at_
 refine ZG<|G (aX ak Z (e10.cl 0 _ Z))<|ZG<|G (Yi Z)<|ZG ?_
 refine cW (kf Z Z) Z Z Z (fun h91=> ?_) (fun h91=> ?_)
 refine ZG<|G (Kt Z Z)<|G (N Z Z)<|U<|ZT Z<|W<|Zr<|G (Wb Z)<|U<|Zt ?_
 have hv:fH ck nx t=false:=by
  cases hh:fH ck nx t
  rfl
  obtain⟨a1,a2,a3,a4,a5,a6,a7,a8,a9,a10,a11⟩:=cF.1 hh
  exfalso
  rw[hpo,hdrop]at a10
  simp only[cU,aR,decide_eq_true_eq]at a10
  obtain⟨⟨q1,q2⟩,-⟩:=a10
  obtain⟨j,rfl⟩: ∃ j,k=j+1:=⟨k-1,by omega⟩;have:=hl1 j Z;rw[show j+1-1=j by omega,this]at hprev;injection hprev with hprev;omega
 exact cH (v:=.bool false) Z Z ⟨by rw[hv],H.below⟩
 refine ZG<|G (Kt Z Z)<|G (N Z Z)<|U<|ZF Z<|Zk<|Zr<|G (bz Z Z I I)<|G (Yi Z)<|U ?_
 have hlt:last<x9:=by
  obtain⟨j,rfl⟩: ∃ j,k=j+1:=⟨k-1,by omega⟩
  have h1:=hl1 j Z
  rw[show j+1-1=j by omega,h1]at hprev
  injection hprev with hprev
  omega
 have h4:x9<4:=by omega
 refine⟨(k+1,x9),⟨by omega,?_,fun h=>by omega,fun j hj=> ?_,by omega,H⟩,dJ Z,Qg,by show t.parts.length- (k+1)<t.parts.length-k;omega⟩
 rw[hpo,hdrop];simp only[cU,decide_eq_true hlt,decide_eq_true h4,gY]
 obtain rfl:j=k:=by omega
 exact hxk
 refine ZG<|G (Yb Z)<|ZN<|ZN<|ZN<|ZN<|ZN<|ZN<|ZN<|ZN<|ZG<|G (N Z Z)<|G (N Z Z)<|U<|ZF Z<|Zk<|Zr<|G (bz Z Z I I)<|G (Yi Z)<|U ?_
 have hlt:last<x9:=by
  have:=hl0 I
  omega
 have h4:x9<4:=by omega
 refine⟨(k+1,x9),⟨by omega,?_,fun h=>by omega,fun j hj=> ?_,by omega,H⟩,dJ Z,Qg,by show t.parts.length- (k+1)<t.parts.length-k;omega⟩
 rw[hpo,hdrop];simp only[cU,decide_eq_true hlt,decide_eq_true h4,gY]
 obtain rfl:j=k:=by omega
 exact hxk
 have hke:k=t.parts.length:=by omega
 have hall:cU (-1) t.parts=true:=by rw[hpo,hke,fv];rfl
 refine U<|W<|ZF Z<|Zx<|W<|Zr<|G (Zf cT Z)<|G (Zd ak H 0 Z Z Z)<|G (bp Z Z)<|G (Zf dB Z)<|G (Zd bL H 0 Z Z Z)<|G (br eJ Z)<|G (bp Z Z)<|G (D2 v6 Z Z)<|G (Wb Z)<|U<|Zt ?_
 have hv:fH ck nx t=(decide (t.state=1)==decide ((t.parts.length:Int)=0)):=by
  rw[xc,cF,beq_iff_eq,decide_eq_decide]
  constructor
  rintro⟨-,-,-,-,-,-,-,-,-,-,h⟩
  exact h.trans ⟨fun x=>by omega,fun x=>by omega⟩
  intro h
  exact⟨by simpa using h11,by omega,by omega,by simpa using h29,by omega,by omega,by omega,by omega,by omega,hall,h.trans ⟨fun x=>by omega,fun x=>by omega⟩⟩
 exact cH (v:=.bool (decide (t.state=1)==decide ((t.parts.length:Int)=0))) Z Z ⟨by rw[hv],H.below⟩
 refine ZG<|G (Yb Z)<|ZN<|ZN<|ZN<|ZG<|G (N Z Z)<|ZG<|G (Yb Z)<|ZN<|ZN<|ZN<|ZG<|G (N Z Z)<|G (N Z Z)<|U<|ZF Z<|Zk<|W<|W<|Zr<|G (Zf dB Z)<|G (Zd bL H 0 Z Z Z)<|G (br eJ Z)<|G (Yi Z)<|U<|Zb ?_
 refine cy (τ:=Nat×Int) [4,5,6,69,70,71,72,73,74,75,76,77,78,79,80,81,82,83,84,85,86,87,88,89,90,91,92,93,94] (fun(k,_)=>[(69,J (k:Nat))]) (fun(k,last) w'=>k<=t.parts.length/\cU (-1) t.parts=cU last (t.parts.drop k)/\(k=0->last= -1)/\(∀ j,k=j+1->t.parts[j]? =some last)/\ -1<=last/\Hp w w' [(b3,.cells t.c.toArray cI (0,0))] [dT bW 0 w.heap.size t.A t.parts]) (fun(k,_)=>t.parts.length-k) (0,-1) ⟨by omega,by rw[lZ],fun _=>rfl,fun j hj=>by omega,by omega,H.forget (oZ _ (.cons _ (ar _))) (fun _ h=>h)⟩ (dJ Z) ?_
 rintro⟨k,last⟩ ρ1 w11 ⟨hk,hpo,hl0,hl1,hl2,H⟩
 show CW _ _ _ _ (dH (gJ _ _ ρ1) [(69,J (k:Nat))]) w11
 refine W<|Zr ?_
 refine cW (cK Z Z) Z Z Z (fun h70=> ?_) (fun h70=> ?_)
 refine U<|W<|ZT Z<|Zk<|W<|Zb<|W<|Zr<|G (Yi Z)<|ql H 0 Z aT Z Z I I Z fun b12 o12 x12 e12=> ?_
 have hxk:=e12.at_
 have hdrop:=cP hxk
 refine G (aX ak Z (e12.cl 0 _ Z))<|G (Wi Z)<|G (Wi Z)<|U<|W<|Zr<|G (Yi Z) ?_
 refine cW (cK Z Z) Z Z Z (fun h75=> ?_) (fun h75=> ?_)
 refine G (Yb Z)<|ZN<|ZN<|G (Kt Z Z)<|G (Yb Z)<|ZN<|ZN<|ZN<|ZN<|ZN<|ZN<|ZN<|ZN<|ZN<|ZN<|ZN<|ZN<|G (Kt Z Z)<|U<|ZT Z<|W<|Zr<|G (Wb Z)<|U<|Zt ?_
 have hv:fH ck nx t=false:=by
  cases hh:fH ck nx t
  rfl
  obtain⟨a1,a2,a3,a4,a5,a6,a7,a8,a9,a10,a11⟩:=cF.1 hh
  exfalso
  rw[hpo,hdrop]at a10
  simp only[cU,aR,decide_eq_true_eq]at a10
  obtain⟨⟨q1,q2⟩,-⟩:=a10
  omega
 exact cH (v:=.bool false) Z Z ⟨by rw[hv],H.below⟩
 refine G (Yb Z)<|ZG<|G (Yi Z)<|ZG ?_
 refine cW (kf Z Z) Z Z Z (fun h78=> ?_) (fun h78=> ?_)
 refine G (N Z Z)<|G (Yb Z)<|ZN<|ZN<|ZN<|ZN<|ZN<|ZN<|ZN<|ZN<|ZN<|ZN<|ZN<|ZN<|G (Kt Z Z)<|U<|ZT Z<|W<|Zr<|G (Wb Z)<|U<|Zt ?_
 have hv:fH ck nx t=false:=by
  cases hh:fH ck nx t
  rfl
  obtain⟨a1,a2,a3,a4,a5,a6,a7,a8,a9,a10,a11⟩:=cF.1 hh
  exfalso
  rw[hpo,hdrop]at a10
  simp only[cU,aR,decide_eq_true_eq]at a10
  obtain⟨⟨q1,q2⟩,-⟩:=a10
  omega
 exact cH (v:=.bool false) Z Z ⟨by rw[hv],H.below⟩
 refine G (N Z Z)<|G (Yb Z)<|ZG<|G (Yi Z)<|ZG ?_
 refine cW (ke Z Z) Z Z Z (fun h82=> ?_) (fun h82=> ?_)
 refine ZG<|G (Yb Z)<|ZG<|G (Zf dB Z)<|ZG<|G (Zd bL H 0 Z Z Z)<|ZG<|G (Yi Z)<|ZG<|G (mW Z Z I I) ?_
 rw[show(k:Int)-1=((k-1:Nat):Int) by omega]
 refine ZG<|ql H 0 Z aT Z Z I I Z fun b13 o13 x13 e13=> ?_
 have hprev:=e13.at_
 refine ZG<|G (aX ak Z (e13.cl 0 _ Z))<|ZG<|G (Yi Z)<|ZG ?_
 refine cW (kf Z Z) Z Z Z (fun h91=> ?_) (fun h91=> ?_)
 refine ZG<|G (Kt Z Z)<|G (N Z Z)<|U<|ZT Z<|W<|Zr<|G (Wb Z)<|U<|Zt ?_
 have hv:fH ck nx t=false:=by
  cases hh:fH ck nx t
  rfl
  obtain⟨a1,a2,a3,a4,a5,a6,a7,a8,a9,a10,a11⟩:=cF.1 hh
  exfalso
  rw[hpo,hdrop]at a10
  simp only[cU,aR,decide_eq_true_eq]at a10
  obtain⟨⟨q1,q2⟩,-⟩:=a10
  obtain⟨j,rfl⟩: ∃ j,k=j+1:=⟨k-1,by omega⟩;have:=hl1 j Z;rw[show j+1-1=j by omega,this]at hprev;injection hprev with hprev;omega
 exact cH (v:=.bool false) Z Z ⟨by rw[hv],H.below⟩
 refine ZG<|G (Kt Z Z)<|G (N Z Z)<|U<|ZF Z<|Zk<|Zr<|G (bz Z Z I I)<|G (Yi Z)<|U ?_
 have hlt:last<x12:=by
  obtain⟨j,rfl⟩: ∃ j,k=j+1:=⟨k-1,by omega⟩
  have h1:=hl1 j Z
  rw[show j+1-1=j by omega,h1]at hprev
  injection hprev with hprev
  omega
 have h4:x12<4:=by omega
 refine⟨(k+1,x12),⟨by omega,?_,fun h=>by omega,fun j hj=> ?_,by omega,H⟩,dJ Z,Qg,by show t.parts.length- (k+1)<t.parts.length-k;omega⟩
 rw[hpo,hdrop];simp only[cU,decide_eq_true hlt,decide_eq_true h4,gY]
 obtain rfl:j=k:=by omega
 exact hxk
 refine ZG<|G (Yb Z)<|ZN<|ZN<|ZN<|ZN<|ZN<|ZN<|ZN<|ZN<|ZG<|G (N Z Z)<|G (N Z Z)<|U<|ZF Z<|Zk<|Zr<|G (bz Z Z I I)<|G (Yi Z)<|U ?_
 have hlt:last<x12:=by
  have:=hl0 I
  omega
 have h4:x12<4:=by omega
 refine⟨(k+1,x12),⟨by omega,?_,fun h=>by omega,fun j hj=> ?_,by omega,H⟩,dJ Z,Qg,by show t.parts.length- (k+1)<t.parts.length-k;omega⟩
 rw[hpo,hdrop];simp only[cU,decide_eq_true hlt,decide_eq_true h4,gY]
 obtain rfl:j=k:=by omega
 exact hxk
 have hke:k=t.parts.length:=by omega
 have hall:cU (-1) t.parts=true:=by rw[hpo,hke,fv];rfl
 refine U<|W<|ZF Z<|Zx<|W<|Zr<|G (Zf cT Z)<|G (Zd ak H 0 Z Z Z)<|G (bp Z Z)<|G (Zf dB Z)<|G (Zd bL H 0 Z Z Z)<|G (br eJ Z)<|G (bp Z Z)<|G (D2 v6 Z Z)<|G (Wb Z)<|U<|Zt ?_
 have hv:fH ck nx t=(decide (t.state=1)==decide ((t.parts.length:Int)=0)):=by
  rw[xc,cF,beq_iff_eq,decide_eq_decide]
  constructor
  rintro⟨-,-,-,-,-,-,-,-,-,-,h⟩
  exact h.trans ⟨fun x=>by omega,fun x=>by omega⟩
  intro h
  exact⟨by simpa using h11,by omega,by omega,by simpa using h29,by omega,by omega,by omega,by omega,by omega,hall,h.trans ⟨fun x=>by omega,fun x=>by omega⟩⟩
 exact cH (v:=.bool (decide (t.state=1)==decide ((t.parts.length:Int)=0))) Z Z ⟨by rw[hv],H.below⟩
/-- a coordinator, and where its rows lie -/
structure Co where
 clock:Int
 next:Int
 wait:Int
 txs:List Tx
 A:Option Addr
 cap:Nat
def Co.c (c:Co):List Value:=[J c.clock,J c.next,J c.wait,.slice c.A c.txs.length c.cap]
abbrev Co.v (c:Co):Value:=.agg c.c.toArray
def iH (lo hi:Nat) (txs:List Tx):cz:=⟨lo,hi,fun w=> ∀ t∈txs,Rd bW lo hi t.A t.parts w,fun _ _ hk h t ht=>(h t ht).st hk⟩
theorem fx {w0 w:World} {L:List (Nat×Obj)} {F:List cz} {lo hi:Nat} {txs:List Tx} (H:Hp w0 w L F) (i:Nat) (hF:F[i]? =some (iH lo hi txs)) {t:Tx} (ht:t∈txs):Rd bW 0 w.heap.size t.A t.parts w:=
 Rd.mono ((H.fact hF) t ht) (bK _) (H.facts _ (ah hF)).2.1
def sg (t:Tx) (p:Tx):Bool:=decide (p.name=t.name)||decide (p.pid=t.pid)
def nT (ck nx:Int):List Tx->List Tx->Bool
 |_,[]=>true
 |pre,t::l=>fH ck nx t&&!(pre.any (sg t))&&nT ck nx (pre++[t]) l
def gi (c:Co):Bool:=iS c.clock&&decide (1<=c.next)&&decide (c.next<=1073741824)&&decide (1<=c.wait)&&decide (c.wait<=1000)&&decide ((c.txs.length:Int)<=8)&&nT c.clock c.next [] c.txs
theorem iW {c:Co}:gi c=true↔iS c.clock=true/\1<=c.next/\c.next<=1073741824/\1<=c.wait/\c.wait<=1000/\(c.txs.length:Int)<=8/\nT c.clock c.next [] c.txs=true:=by
 unfold gi
 simp only[aR,decide_eq_true_eq,and_assoc]
structure Co.rd (c:Co) (lo hi:Nat) (w:World):Prop where
 row:Rd rB lo hi c.A c.txs w
 parts: ∀ t∈c.txs,Rd bW lo hi t.A t.parts w
 cap:c.txs.length<=c.cap
 few:c.txs.length<=1000000
 fewP: ∀ t∈c.txs,t.parts.length<=1000000/\t.parts.length<=t.cap
theorem Hp.startCo {c:Co} {w:World} (h:c.rd 0 w.heap.size w):Hp w w [] [dT rB 0 w.heap.size c.A c.txs,iH 0 w.heap.size c.txs]:=
 ((Hp.start w).learnOld (iH 0 w.heap.size c.txs) h.parts (ao _)).learnOld (dT rB 0 w.heap.size c.A c.txs) h.row (ao _)
theorem nB (c:Co) (w:World) (h:c.rd 0 w.heap.size w):dg ab Bs [c.v] w fun v w2=>v=J (if gi c then 0 else 12)/\Below w.heap.size w w2:=by
 refine aF Ar Z Z ?_
 have hcap:=h.cap
 have hfew:=h.few
 have hfp:=h.fewP
 have H:=Hp.startCo h
 obtain⟨ck,nx,wt,txs,cA,cc⟩:=c
 dsimp only at hcap hfew hfp H
 show CW _ _ _ _ (args [.agg #[J ck,J nx,J wt,.slice cA txs.length cc]]) w
 refine W<|Zr<|fW H Z Z fun w1 b1 H=>G (Wi Z)<|U<|W<|W<|Zr<|G (Zf ko Z)<|G (Zd ak H 0 Z Z Z)<|ch sV (AF ck _) Z Z ?_
 rintro _ w2 ⟨rfl,hb⟩;replace H:=H.later hb;clear hb
 refine G (dR Z)<|G (Yb Z) ?_
 refine mq 9 Z (fun h9=> ?_) (fun h9=> ?_)
 refine ZN<|ZN<|ZN<|G (Kt Z Z)<|G (Yb Z)<|ZN<|ZN<|ZN<|G (Kt Z Z)<|G (Yb Z)<|ZN<|ZN<|ZN<|G (Kt Z Z)<|G (Yb Z)<|ZN<|ZN<|ZN<|G (Kt Z Z)<|G (Yb Z)<|ZN<|ZN<|ZN<|ZN<|G (Kt Z Z)<|U<|ZT Z<|W<|Zr<|G (Wi Z)<|U<|Zt ?_
 have hv:gi ⟨ck,nx,wt,txs,cA,cc⟩=false:=by
  cases hh:gi ⟨ck,nx,wt,txs,cA,cc⟩
  rfl
  obtain⟨a1,a2,a3,a4,a5,a6,a7⟩:=iW.1 hh
  dsimp only at a1 a2 a3 a4 a5 a6 a7
  exfalso
  first|omega|simp_all
 exact cH (v:=J 12) Z Z ⟨by rw[hv];rfl,H.below⟩
 refine ZG<|G (Zf km Z)<|ZG<|G (Zd ak H 0 Z Z Z)<|ZG ?_
 refine cW (cK Z Z) Z Z Z (fun h12=> ?_) (fun h12=> ?_)
 refine G (N Z Z)<|G (Yb Z)<|ZN<|ZN<|ZN<|G (Kt Z Z)<|G (Yb Z)<|ZN<|ZN<|ZN<|G (Kt Z Z)<|G (Yb Z)<|ZN<|ZN<|ZN<|G (Kt Z Z)<|G (Yb Z)<|ZN<|ZN<|ZN<|ZN<|G (Kt Z Z)<|U<|ZT Z<|W<|Zr<|G (Wi Z)<|U<|Zt ?_
 have hv:gi ⟨ck,nx,wt,txs,cA,cc⟩=false:=by
  cases hh:gi ⟨ck,nx,wt,txs,cA,cc⟩
  rfl
  obtain⟨a1,a2,a3,a4,a5,a6,a7⟩:=iW.1 hh
  dsimp only at a1 a2 a3 a4 a5 a6 a7
  exfalso
  first|omega|simp_all
 exact cH (v:=J 12) Z Z ⟨by rw[hv];rfl,H.below⟩
 refine G (N Z Z)<|G (Yb Z)<|ZG<|G (Zf km Z)<|ZG<|G (Zd ak H 0 Z Z Z)<|ZG ?_
 refine cW (ke Z Z) Z Z Z (fun h17=> ?_) (fun h17=> ?_)
 refine G (N Z Z)<|G (Yb Z)<|ZN<|ZN<|ZN<|G (Kt Z Z)<|G (Yb Z)<|ZN<|ZN<|ZN<|G (Kt Z Z)<|G (Yb Z)<|ZN<|ZN<|ZN<|ZN<|G (Kt Z Z)<|U<|ZT Z<|W<|Zr<|G (Wi Z)<|U<|Zt ?_
 have hv:gi ⟨ck,nx,wt,txs,cA,cc⟩=false:=by
  cases hh:gi ⟨ck,nx,wt,txs,cA,cc⟩
  rfl
  obtain⟨a1,a2,a3,a4,a5,a6,a7⟩:=iW.1 hh
  dsimp only at a1 a2 a3 a4 a5 a6 a7
  exfalso
  first|omega|simp_all
 exact cH (v:=J 12) Z Z ⟨by rw[hv];rfl,H.below⟩
 refine G (N Z Z)<|G (Yb Z)<|ZG<|G (Zf vK Z)<|ZG<|G (Zd ak H 0 Z Z Z)<|ZG ?_
 refine cW (cK Z Z) Z Z Z (fun h22=> ?_) (fun h22=> ?_)
 refine G (N Z Z)<|G (Yb Z)<|ZN<|ZN<|ZN<|G (Kt Z Z)<|G (Yb Z)<|ZN<|ZN<|ZN<|ZN<|G (Kt Z Z)<|U<|ZT Z<|W<|Zr<|G (Wi Z)<|U<|Zt ?_
 have hv:gi ⟨ck,nx,wt,txs,cA,cc⟩=false:=by
  cases hh:gi ⟨ck,nx,wt,txs,cA,cc⟩
  rfl
  obtain⟨a1,a2,a3,a4,a5,a6,a7⟩:=iW.1 hh
  dsimp only at a1 a2 a3 a4 a5 a6 a7
  exfalso
  first|omega|simp_all
 exact cH (v:=J 12) Z Z ⟨by rw[hv];rfl,H.below⟩
 refine G (N Z Z)<|G (Yb Z)<|ZG<|G (Zf vK Z)<|ZG<|G (Zd ak H 0 Z Z Z)<|ZG ?_
 refine cW (ke Z Z) Z Z Z (fun h27=> ?_) (fun h27=> ?_)
 refine G (N Z Z)<|G (Yb Z)<|ZN<|ZN<|ZN<|ZN<|G (Kt Z Z)<|U<|ZT Z<|W<|Zr<|G (Wi Z)<|U<|Zt ?_
 have hv:gi ⟨ck,nx,wt,txs,cA,cc⟩=false:=by
  cases hh:gi ⟨ck,nx,wt,txs,cA,cc⟩
  rfl
  obtain⟨a1,a2,a3,a4,a5,a6,a7⟩:=iW.1 hh
  dsimp only at a1 a2 a3 a4 a5 a6 a7
  exfalso
  first|omega|simp_all
 exact cH (v:=J 12) Z Z ⟨by rw[hv];rfl,H.below⟩
 refine G (N Z Z)<|G (Yb Z)<|ZG<|G (Zf cR Z)<|ZG<|G (Zd dP H 0 Z Z Z)<|ZG<|G (br lh Z)<|ZG ?_
 refine cW (ke Z Z) Z Z Z (fun h33=> ?_) (fun h33=> ?_)
 refine G (N Z Z)<|U<|ZT Z<|W<|Zr<|G (Wi Z)<|U<|Zt ?_
 have hv:gi ⟨ck,nx,wt,txs,cA,cc⟩=false:=by
  cases hh:gi ⟨ck,nx,wt,txs,cA,cc⟩
  rfl
  obtain⟨a1,a2,a3,a4,a5,a6,a7⟩:=iW.1 hh
  dsimp only at a1 a2 a3 a4 a5 a6 a7
  exfalso
  first|omega|simp_all
 exact cH (v:=J 12) Z Z ⟨by rw[hv];rfl,H.below⟩
 refine G (N Z Z)<|U<|ZF Z<|Zk<|W<|W<|Zr<|G (Zf cR Z)<|G (Zd dP H 0 Z Z Z)<|G (br lh Z)<|G (Yi Z)<|U<|Zb ?_
 refine cy (τ:=Nat) [2,3,4,38,39,40,41,42,43,44,45,46,47,48,49,50,51,52,53,54,55] (fun k=>[(38,J (k:Nat))]) (fun k w'=>k<=txs.length/\nT ck nx [] txs=nT ck nx (txs.take k) (txs.drop k)/\Hp w w' [(b1,.cells #[J ck,J nx,J wt,.slice cA txs.length cc] bk (0,0))] [dT rB 0 w.heap.size cA txs,iH 0 w.heap.size txs]) (fun k=>txs.length-k) 0 ⟨by omega,by rw[lZ,yy],H⟩ (dJ Z) ?_
 rintro k ρ1 w3 ⟨hk,hto,H⟩
 show CW _ _ _ _ (dH (gJ _ _ ρ1) [(38,J (k:Nat))]) w3
 refine W<|Zr ?_
 refine cW (cK Z Z) Z Z Z (fun h39=> ?_) (fun h39=> ?_)
 refine U<|W<|ZT Z<|Zk<|W<|Zb<|W<|Zr<|G (Yi Z)<|ql H 0 Z gH Z Z I I Z fun b4 o4 x4 e4=> ?_
 have hxk:=e4.at_
 have hdrop:=cP hxk
 refine G (jF (xs:=Tx.c x4) y8 Z Z e4.cl)<|eI H Hf Z fun w5 b4 H=>G (Wi Z)<|JU H 0 Hj Z Z Z Z Z Z fun w6 H=>U<|W<|Zr<|G (Zw aq H 1 Z Z Z)<|G (Zw y8 H 0 Z Z Z)<|ch DY (Nw ck nx wt cA txs.length cc x4 _ (fx H 1 Z (ah hxk)) (hfp _ (ah hxk)).1) Z Z ?_
 rintro _ w7 ⟨rfl,hb⟩;replace H:=H.later hb;clear hb
 refine G (dR Z)<|G (Yb Z) ?_
 refine mq 47 Z (fun h47=> ?_) (fun h47=> ?_)
 refine ZN<|ZN<|ZN<|ZN<|ZN<|ZN<|G (Kt Z Z)<|U<|ZT Z<|W<|Zr<|G (Wi Z)<|U<|Zt ?_
 have hv:gi ⟨ck,nx,wt,txs,cA,cc⟩=false:=by
  cases hh:gi ⟨ck,nx,wt,txs,cA,cc⟩
  rfl
  obtain⟨a1,a2,a3,a4,a5,a6,a7⟩:=iW.1 hh
  dsimp only at a1 a2 a3 a4 a5 a6 a7
  exfalso
  rw[hto,hdrop]at a7
  simp only[nT,aR]at a7
  obtain⟨⟨q1,q2⟩,-⟩:=a7
  rw[pb]at q2
  first|(rw[q2]at hc54;cases hc54)|simp_all
 exact cH (v:=J 12) Z Z ⟨by rw[hv];rfl,H.below⟩
 refine ZG<|G (Zf cR Z)<|ZG<|G (Zd dP H 1 Z Z Z)<|ZG<|G (Yi Z)<|ZG<|sd (k:=k) H 0 Z gH Z Z hcap I Z fun A51 H=> ?_
 have htl:(txs.take k).length=k:=by rw[aI];omega
 refine ZG<|G (zH Z)<|ZG ?_
 have hC:=fun q=>uJ (txs.take k) A51 q _ (H.rd0 0 Z) I rL [.pointer (Qd b4)] wR (sg x4) (fun e w2 _ hw2=>FD e x4 b4 w2 ((hw2.block _ (cj (H.ent (i:=0) Z))).trans (H.ent (i:=0) Z)))
 rw[htl]at hC
 replace hC:=hC cc
 refine ch mV (hC) Z Z ?_
 rintro _ w8 ⟨rfl,hb⟩;replace H:=H.later hb;clear hb
 refine G (N Z Z)<|U ?_
 refine jo Z (fun hc54=> ?_) (fun hc54=> ?_)
 refine W<|Zr<|G (Wi Z)<|U<|Zt ?_
 have hv:gi ⟨ck,nx,wt,txs,cA,cc⟩=false:=by
  cases hh:gi ⟨ck,nx,wt,txs,cA,cc⟩
  rfl
  obtain⟨a1,a2,a3,a4,a5,a6,a7⟩:=iW.1 hh
  dsimp only at a1 a2 a3 a4 a5 a6 a7
  exfalso
  rw[hto,hdrop]at a7
  simp only[nT,aR]at a7
  obtain⟨⟨q1,q2⟩,-⟩:=a7
  rw[pb]at q2
  first|(rw[q2]at hc54;cases hc54)|simp_all
 exact cH (v:=J 12) Z Z ⟨by rw[hv];rfl,H.below⟩
 refine Zk<|Zr<|G (bz Z Z I I)<|G (Yi Z)<|U ?_
 refine⟨k+1,⟨by omega,?_,H.forget (.cons _ (ar _)) (fun _ h=>al _ h)⟩,dJ Z,Qg,by show txs.length- (k+1)<txs.length-k;omega⟩
 rw[hto,hdrop,fi hxk]
 simp only[nT]
 simp_all
 have hke:k=txs.length:=by omega
 have hall:nT ck nx [] txs=true:=by rw[hto,hke,fv];rfl
 refine U<|W<|ZF Z<|Zx<|W<|Zr<|G (Wi Z)<|U<|Zt ?_
 have hv:gi ⟨ck,nx,wt,txs,cA,cc⟩=true:=iW.2 ⟨by simpa using h9,by dsimp only;omega,by dsimp only;omega,by dsimp only;omega,by dsimp only;omega,by dsimp only;omega,hall⟩
 exact cH (v:=J 0) Z Z ⟨by rw[hv];rfl,H.below⟩
def Tx.a (t:Tx):Tx:={t with A:=none,cap:=0}
theorem iO {α:Type} {l:List α} {k:Nat} {a:α} (h:l[k]? =some a):l.set k a=l:=by
 apply eN
 intro i
 rw[lw]
 split
 rename_i hi
 subst hi
 split
 exact h.symm
 rename_i h2;rw[cL I]
 rfl
theorem JO {α:Type} {l:List α} {k:Nat} (h:k<l.length) (a:α):(l.set k a).take (k+1)=l.take k++[a]:=by
 rw[fi (e:=a) (by rw[ae h]),y9 (ao k)]
theorem CD {out txs:List Tx} {k:Nat} {x x':Tx} (hx:out[k]? =some x) (hma:out.map Tx.a=txs.map Tx.a) (hdr:out.drop k=txs.drop k) (ha:x'.a=x.a):(out.set k x').map Tx.a=txs.map Tx.a/\(out.set k x').drop (k+1)=txs.drop (k+1)/\(out.set k x').take (k+1)=out.take k++[x']:=by
 refine⟨?_,?_,JO (bT hx).1 x'⟩
 rw[cD,ha,<-hma]
 exact iO (by rw[aL,hx];rfl)
 rw[rV I]
 have:=congrArg (List.drop 1) hdr
 rwa[j0,j0]at this
def Co.a (c:Co):Co:={c with txs:=c.txs.map Tx.a,A:=none,cap:=0}
theorem Hp.joinParts {w0 w:World} {L:List (Nat×Obj)} {F:List cz} {a b lo hi:Nat} {ts:List Tx} {t:Tx} (H:Hp w0 w L (dT bW a b t.A t.parts::iH lo hi ts::F)) (hL: ∀ e∈L,e.1<lo) (hlo:lo<=a) (hhi:hi<=b):Hp w0 w L (iH lo b (ts++[t])::F):=by
 refine⟨H.below,H.ents,H.nodup,fun f hf=> ?_⟩
 rcases ay.1 hf with rfl|hf
 have h1:=H.facts _ (aC ..)
 have h2:=H.facts _ (al _ (aC ..))
 refine⟨fun x hx=> ?_,h1.2.1,fun e he=> .inl (hL e he)⟩
 rcases ax.1 hx with hx|hx
 exact Rd.mono (h2.1 x hx) (ao _) hhi
 rw[au.1 hx]
 exact Rd.mono (lo':=lo) (hi':=b) (show Rd bW a b t.A t.parts w from h1.1) hlo (ao _)
 exact H.facts f (al _ (al _ hf))
theorem IA {w0 w:World} {L:List (Nat×Obj)} {F:List cz} (H:Hp w0 w L F) (lo:Nat) (hlo: ∀ e∈L,e.1<lo) (h:lo<=w.heap.size):Hp w0 w L (iH lo lo []::F):=by
 refine⟨H.below,H.ents,H.nodup,fun f hf=> ?_⟩
 rcases ay.1 hf with rfl|hf
 exact⟨fun x hx=>absurd hx (by simp),h,fun e he=> .inl (hlo e he)⟩
 exact H.facts f hf
theorem wN (es:List Tx) (A:Option Addr) (c:Nat) (w:World) (hr:Rd rB 0 w.heap.size A es w) (hb:es.length*80<=140737488355328):
  dg ab rJ [.slice A es.length c] w fun v w2=> ∃ A' c' L',v=.slice A' es.length c'/\es.length<=c'/\c'<=maxLen/\gm rB (.slice A' es.length c') cI es L'/\Hp w w2 L' []:=by
 refine aF rj Z Z ?_
 have H:=Hp.startRd hr
 refine W<|Zr<|G (Ws Z)<|U<|W<|W<|Zr<|G (Ys Z) ?_
 refine wl (qB lh Z) Z Z Z (fun h4=> ?_) (fun h4=> ?_)
 refine U<|ZT Z<|W<|Zr<|G (Ws Z)<|U<|Zt ?_
 have he:es=[]:=by
  cases es with
  |nil=>rfl
  |cons e es=>obtain⟨b,o,hA,_⟩:=hr (by simp);subst hA;cases h4
 subst he
 exact cH Z Z ⟨none,0,[],rfl,by simp,by decide,gm.nil,H.forget (by simp) (by simp)⟩
 refine U<|ZF Z<|Zk<|W<|Zr<|Np H gH Z fun w1 b5 H=>G (Ys Z)<|vQ (Y:=rB) HM (K:=[]) (L:=[(b5,_)]) (M:=[]) H (rU.lit (by decide) (by rfl)) (es:=[]) (news:=es) Z Z Z (Rd.src (H.fact (i:=0) Z)) (by simpa using hb) Z ?_
 intro A3 c3 w3 L3 h3a h3b ho3 H
 refine G (Ws Z)<|U<|Zt ?_
 exact cH Z Z ⟨A3,c3,L3,rfl,h3a,h3b,ho3,H.forget (by simp) (by simp)⟩
theorem xJ (c:Co) (w:World) (h:c.rd 0 w.heap.size w):dg ab wz [c.v] w fun v w2=> ∃ (c':Co) (L':List (Nat×Obj)) (lo hi:Nat),v=c'.v/\c'.a=c.a/\gm rB (.slice c'.A c'.txs.length c'.cap) cI c'.txs L'/\c'.txs.length<=c'.cap/\(∀ t∈c'.txs,t.parts.length<=t.cap)/\w.heap.size<=lo/\Hp w w2 L' [iH lo hi c'.txs]:=by
 refine aF va Z Z ?_
 have hcap:=h.cap
 have hfew:=h.few
 have hfp:=h.fewP
 have H:=Hp.startCo h
 obtain⟨ck,nx,wt,txs,cA,cc⟩:=c
 dsimp only at hcap hfew hfp H
 show CW _ _ _ _ (args [.agg #[J ck,J nx,J wt,.slice cA txs.length cc]]) w
 refine W<|Zr<|fW H Z Z fun w1 b1 H=>eI H cM Z fun w2 b2 H=>U<|W<|Zr<|G (Zf cR Z)<|G (Zd dP H 1 Z Z Z)<|ch lr (wN txs cA cc _ (H.rd0 0 Z) I) Z Z ?_
 rintro _ w3 ⟨A6,c6,L6,rfl,hc6,hm6,ho6,hj6⟩;replace H:=H.joinR hj6;clear hj6
 refine G (Zf cR Z)<|bg H 1 (#[J ck,J nx,J wt,.slice A6 txs.length c6]) zt Z Z Z Z Z N N fun w4 H=>U<|W<|W ?_
 have hlt0:=H.ltAll
 obtain⟨lo,hlo⟩: ∃ lo,lo=w4.heap.size:=⟨_,rfl⟩
 rw[<-hlo]at hlt0
 have hlow:w.heap.size<=lo:=by rw[hlo];exact H.size
 replace H:=IA H lo hlt0 I
 have hb1:b1<lo:=hlt0 (b1,_) (qy _ (fG _))
 have hb2:b2<lo:=hlt0 (b2,_) (fG _)
 have hL6: ∀ e∈L6,e.1<lo:=fun e he=>hlt0 e (qy _ (qy _ (ij _ he)))
 refine Zr<|G (Zf cR Z)<|G (Zd dP H 1 Z Z Z)<|G (br lh Z)<|G (Yi Z)<|U<|Zb ?_
 refine cy (τ:=Nat×List Tx×Option Addr×Nat×Nat) [3,11,12,13,14,15,16,17,18,19,20,21,22,23,24,25,26] (fun(k,_)=>[(11,J (k:Nat))]) (fun(k,out,A1,c1,hi) w'=>k<=out.length/\out.length=txs.length/\out.length<=c1/\out.map Tx.a=txs.map Tx.a/\out.drop k=txs.drop k/\(∀ t∈out.take k,t.parts.length<=t.cap)/\lo<=w'.heap.size/\ ∃ L',gm rB (.slice A1 out.length c1) cI out L'/\(∀ e∈L',e.1<lo)/\Hp w w' ([(b2,.cells #[J 0,J 0,J 0,.slice none 0 0] bk (0,0)),(b1,.cells #[J ck,J nx,J wt,.slice A1 out.length c1] bk (0,0))]++L'++[]) [iH lo hi (out.take k),dT rB 0 w.heap.size cA txs,iH 0 w.heap.size txs]) (fun(k,out,_)=>out.length-k) (0,txs,A6,c6,lo) ⟨by omega,rfl,hc6,rfl,rfl,by simp,by omega,L6,ho6,hL6,H⟩ (dJ Z) ?_
 rintro⟨k,out,A1,c1,hi⟩ ρ1 w5 ⟨hk,hol,hoc,hma,hdr,hpc,hlw,L1,ho,hL1,H⟩
 show CW _ _ _ _ (dH (gJ _ _ ρ1) [(11,J (k:Nat))]) w5
 refine W<|Zr ?_
 refine cW (cK Z Z) Z Z Z (fun h12=> ?_) (fun h12=> ?_)
 refine U<|W<|ZT Z<|Zk<|W<|Zb<|W ?_
 obtain⟨x,hx⟩: ∃ x,out[k]? =some x:=⟨_,ai I⟩
 have hxt:txs[k]? =some x:=by have:=congrArg (fun l=>l[0]?) hdr;simp only[dO,r3]at this;rw[<-this];exact hx
 have hmem:=ah hxt
 have hfx:=(hfp x hmem).1
 obtain⟨g,cur,rfl,rfl,row⟩:=ho.row I
 have hg:g<lo:=hL1 (g,_) (d6 _)
 refine Zr<|G (Yi Z)<|G (Wi Z)<|U ?_
 have hhi5:=(H.facts _ (fG _)).2.1
 refine bD ci [0,1,2,3,4,5,6,7,8,9,10,11] [12] [9] [0,2,3,5,6,7,10,11] (sp [(9,Sp.row w5.heap.size bW x.parts)]) N N N N Nq (cJ _) ?_
 refine aw Z Z Z Z Z (fun w' hw'=>Zf cR Z)<|aw Z Z Z Z Z (fun w' hw'=>aX dP Z (aD ((H.later hw').ent (i:=1) Z) Z))<|aw Z Z Z Z Z (fun w' hw'=>Yi Z)<|aw Z Z Z Z Z (fun w' hw'=>Zf cR Z)<|aw Z Z Z Z Z (fun w' hw'=>aX dP Z (aD ((H.later hw').ent (i:=1) Z) Z))<|aw Z Z Z Z Z (fun w' hw'=>Yi Z)<|aw Z Z Z Z Z (fun w' hw'=>bV gH Z Z I)<|aw Z Z Z Z Z (fun w' hw'=>Zf dB Z)<|aw Z Z Z Z Z (fun w' hw'=>bf bL row hx 4 Z ((H.later hw').ent (i:=2) Z) Z)<|CF gj Z Z Z Z Z (fun w' hw'=>hw'.size) (fun w' hw'=>wM x.parts _ _ w' (fx (H.later hw') 2 Z hmem) I) Z fun A23 c23 hc23=>aw Z Z Z Z Z (fun w' hw'=>bV gH Z Z I)<|aw Z Z Z Z Z (fun w' hw'=>Zf dB Z)<|aQ ?_
 intro w6 hw' hF
 have hsz:=hw'.size
 obtain⟨hF,Aq,cq,eq,hcq,hrw23⟩:=hF;cases eq;clear hcq
 replace H:=H.learnRd hw' hrw23
 clear hw' hF
 refine im H 2 ({x with A:=A23,cap:=c23}) jE row hx 4 Z Z Z Z Z Z N fun w8 cur7 row7 H=>U<|Zr<|G (bz Z Z I I)<|G (Yi Z)<|U ?_
 obtain⟨z1,z2,z3⟩:=CD (x':={x with A:=A23,cap:=c23}) hx hma hdr Z
 have hb5:=(H.facts _ (fG _)).2.1
 dsimp only[dT]at hb5
 have HJ:=Hp.joinParts (t:={x with A:=A23,cap:=c23}) H (fun e he=>by rcases ay.1 he with rfl|he;exact hb2;rcases ay.1 he with rfl|he;exact hb1;rw[au.1 he];exact hg) hlw (aS hhi5 hsz)
 rw[<-z3]at HJ
 refine⟨(k+1,out.set k {x with A:=A23,cap:=c23},some ⟨g,0,none⟩,c1,w6.heap.size),⟨by rw[aa];omega,by rw[aa];exact hol,by rw[aa];exact hoc,z1,z2,?_,by omega,_,dz.own row7,fun e he=>by rw[au.1 he];exact hg,?_⟩,dJ Z,Qg,by show(out.set k _).length- (k+1)<out.length-k;rw[aa];omega⟩
 rw[z3];intro t ht;rcases ax.1 ht with ht|ht;exact hpc t ht;rw[au.1 ht];exact hc23
 rw[aa];exact HJ
 have hke:k=out.length:=by omega
 rw[hke,bZ]at H hpc
 refine U<|W<|ZF Z<|Zx<|W<|Zr<|G (Zw aq H 1 Z Z Z)<|bg H 0 (#[J ck,J nx,J wt,.slice A1 out.length c1]) aA Z Z Z Z Z N N fun w9 H=>U<|Zt ?_
 exact eS (cs0:= #[J ck,J nx,J wt,.slice A1 out.length c1]) Z aq Z (H.ent (i:=0) Z) Z ⟨⟨ck,nx,wt,out,A1,c1⟩,L1,lo,hi,rfl,by unfold Co.a;dsimp only;rw[hma],ho,hoc,hpc,hlow,H.forget (.cons _ (.cons _ (ap _ _))) (by simp)⟩
theorem Hp.joinF {w0 w w':World} {L L':List (Nat×Obj)} {F F':List cz} (H:Hp w0 w L F) (H':Hp w w' L' F') (hf': ∀ f∈F',w.heap.size<=f.lo):Hp w0 w' (L++L'++[]) (F'++F):=by
 have HJ:=H.joinR (H'.forget (ar _) (F':=[]) (by simp))
 refine⟨HJ.below,HJ.ents,HJ.nodup,fun f hf=> ?_⟩
 rcases ax.1 hf with hf|hf
 obtain⟨h1,h2,h3⟩:=H'.facts f hf
 refine⟨h1,h2,fun e he=> ?_⟩
 rw[aY]at he
 rcases ax.1 he with he|he
 have:=H.ltAll e he
 have:=hf' f hf
 omega
 exact h3 e he
 exact HJ.facts f hf
def fL (c:Co) (s:ByteArray):Int:=lE (c.txs.findIdx? fun p=>decide (p.name=s))
def LJ (w w2:World) (c c':Co) (L':List (Nat×Obj)) (lo hi:Nat):Prop:=c'.a=c/\gm rB (.slice c'.A c'.txs.length c'.cap) cI c'.txs L'/\c'.txs.length<=c'.cap/\(∀ t∈c'.txs,t.parts.length<=t.cap)/\w.heap.size<=lo/\Hp w w2 L' [iH lo hi c'.txs]
theorem Jh (c:Co) (s:ByteArray) (w:World) (h:c.rd 0 w.heap.size w) (hok:gi c=true) (hn:bQ s=true):dg ab ww [c.v,.string s] w fun v w2=> ∃ (c':Co) (L':List (Nat×Obj)) (lo hi:Nat),v=.tuple #[c'.v,J (fL c s),J 0]/\LJ w w2 c.a c' L' lo hi:=by
 refine aF u6 Z Z ?_
 have hcap:=h.cap
 have hfew:=h.few
 have hfp:=h.fewP
 have H:=Hp.startCo h
 obtain⟨ck,nx,wt,txs,cA,cc⟩:=c
 dsimp only at hcap hfew hfp H
 show CW _ _ _ _ (args [.agg #[J ck,J nx,J wt,.slice cA txs.length cc],.string s]) w
 refine W<|Zr<|fW H Z Z fun w1 b2 H=>Pd H Z Z fun w2 b3 H=>eI H cM Z fun w3 b4 H=>G (Wi Z)<|G (Wi Z)<|U<|W<|W<|Zr<|G (Zw aq H 2 Z Z Z)<|ch jh (nB ⟨ck,nx,wt,txs,cA,cc⟩ _ ⟨H.rd0 0 Z,fun t ht=>fx H 1 Z ht,hcap,hfew,hfp⟩) Z Z ?_
 rw[hok]
 rintro _ w4 ⟨rfl,hb⟩;replace H:=H.later hb;clear hb
 refine G (Wi Z)<|U<|W<|Zr<|G (Yi Z)<|G (ce Z Z Z)<|U<|ZF Z<|Zk<|W<|W<|Zr<|G (Zd bc H 1 Z Z Z)<|ch ry (Df s _) Z Z ?_
 rw[hn]
 rintro _ w5 ⟨rfl,hb⟩;replace H:=H.later hb;clear hb
 refine G (dR Z)<|U<|ZF Z<|Zk<|W ?_
 refine kL ci [2,4] [0,1,3,5,6,7,8] [2,4] 7 N N N Nq ?_
 refine aw Z Z Z Z Z (fun w' hw'=>Zf cR Z)<|aw Z Z Z Z Z (fun w' hw'=>zH Z)<|aQ ?_
 intro w6 hw';replace H:=H.later hw';clear hw'
 refine kF 0 3 N Z Z ?_ ?_
 refine G (Zw aq H 2 Z Z Z)<|U ?_
 refine kF 1 3 N Z Z ?_ ?_
 refine ch i8 (xJ ⟨ck,nx,wt,txs,cA,cc⟩ _ ⟨H.rd0 0 Z,fun t ht=>fx H 1 Z ht,hcap,hfew,hfp⟩) Z Z ?_
 have hsz0:=H.size
 rintro _ w7 ⟨⟨ck2,nx2,wt2,tx2,A2,c2⟩,L2,lo2,hi2,rfl,ha2,ho2,hoc2,hpc2,hlo2,hj2⟩
 replace H:=Hp.joinF H hj2 (by intro f hf;rw[au.1 hf];exact hlo2);clear hj2
 simp only[Co.a,Co.mk.injEq]at ha2
 obtain⟨e1,e2,e3,hma,-,-⟩:=ha2
 obtain rfl:ck=ck2:=e1.symm
 obtain rfl:nx=nx2:=e2.symm
 obtain rfl:wt=wt2:=e3.symm
 dsimp only at ho2 hoc2 hpc2 H
 refine U<|bu 3 N Z<|G (Zd dP H 2 Z Z Z)<|U<|bu 5 N Z<|ch dG (f4 txs cA cc _ (H.rd0 1 Z) I gO [.pointer (Qd b3)] io (fun p=>decide (p.name=s)) (fun e w2 _ hw2=>nu e s b3 w2 ((hw2.block _ (cj (H.ent (i:=1) Z))).trans (H.ent (i:=1) Z)))) Z Z ?_
 rintro _ w8 ⟨rfl,hb⟩;replace H:=H.later hb;clear hb
 refine U<|bu 6 N Z<|bg H 0 (#[J ck,J nx,J wt,.slice A2 tx2.length c2]) aA Z Z Z Z Z N N fun w9 H=>U<|bu 7 N Z<|G (Wi Z)<|U<|bu 8 N Z<|G (Wi Z)<|U<|aZ N<|Zt ?_
 exact gy (cs0:= #[J ck,J nx,J wt,.slice A2 tx2.length c2]) (v1:=J (lE (txs.findIdx? fun p=>decide (p.name=s)))) (v2:=J 0) Z aq Z (H.ent (i:=0) Z) Z Z Z ⟨⟨ck,nx,wt,tx2,A2,c2⟩,L2,lo2,hi2,rfl,by unfold Co.a;dsimp only;rw[hma],ho2,hoc2,hpc2,aS hsz0 hlo2,H.forget (.cons _ (.cons _ (.cons _ (ap _ _)))) (by simp)⟩
 refine G (Zd dP H 2 Z Z Z)<|U<|bu 1 N Z<|ch i8 (xJ ⟨ck,nx,wt,txs,cA,cc⟩ _ ⟨H.rd0 0 Z,fun t ht=>fx H 1 Z ht,hcap,hfew,hfp⟩) Z Z ?_
 have hsz0:=H.size
 rintro _ w10 ⟨⟨ck2,nx2,wt2,tx2,A2,c2⟩,L2,lo2,hi2,rfl,ha2,ho2,hoc2,hpc2,hlo2,hj2⟩
 replace H:=Hp.joinF H hj2 (by intro f hf;rw[au.1 hf];exact hlo2);clear hj2
 simp only[Co.a,Co.mk.injEq]at ha2
 obtain⟨e1,e2,e3,hma,-,-⟩:=ha2
 obtain rfl:ck=ck2:=e1.symm
 obtain rfl:nx=nx2:=e2.symm
 obtain rfl:wt=wt2:=e3.symm
 dsimp only at ho2 hoc2 hpc2 H
 refine U<|bu 5 N Z<|ch dG (f4 txs cA cc _ (H.rd0 1 Z) I gO [.pointer (Qd b3)] io (fun p=>decide (p.name=s)) (fun e w2 _ hw2=>nu e s b3 w2 ((hw2.block _ (cj (H.ent (i:=1) Z))).trans (H.ent (i:=1) Z)))) Z Z ?_
 rintro _ w11 ⟨rfl,hb⟩;replace H:=H.later hb;clear hb
 refine U<|bu 6 N Z<|bg H 0 (#[J ck,J nx,J wt,.slice A2 tx2.length c2]) aA Z Z Z Z Z N N fun w12 H=>U<|bu 7 N Z<|G (Wi Z)<|U<|bu 8 N Z<|G (Wi Z)<|U<|aZ N<|Zt ?_
 exact gy (cs0:= #[J ck,J nx,J wt,.slice A2 tx2.length c2]) (v1:=J (lE (txs.findIdx? fun p=>decide (p.name=s)))) (v2:=J 0) Z aq Z (H.ent (i:=0) Z) Z Z Z ⟨⟨ck,nx,wt,tx2,A2,c2⟩,L2,lo2,hi2,rfl,by unfold Co.a;dsimp only;rw[hma],ho2,hoc2,hpc2,aS hsz0 hlo2,H.forget (.cons _ (.cons _ (.cons _ (ap _ _)))) (by simp)⟩
 refine G (Zd dP H 2 Z Z Z)<|U<|bu 0 N Z<|G (Zw aq H 2 Z Z Z)<|U<|bu 1 N Z<|ch i8 (xJ ⟨ck,nx,wt,txs,cA,cc⟩ _ ⟨H.rd0 0 Z,fun t ht=>fx H 1 Z ht,hcap,hfew,hfp⟩) Z Z ?_
 have hsz0:=H.size
 rintro _ w13 ⟨⟨ck2,nx2,wt2,tx2,A2,c2⟩,L2,lo2,hi2,rfl,ha2,ho2,hoc2,hpc2,hlo2,hj2⟩
 replace H:=Hp.joinF H hj2 (by intro f hf;rw[au.1 hf];exact hlo2);clear hj2
 simp only[Co.a,Co.mk.injEq]at ha2
 obtain⟨e1,e2,e3,hma,-,-⟩:=ha2
 obtain rfl:ck=ck2:=e1.symm
 obtain rfl:nx=nx2:=e2.symm
 obtain rfl:wt=wt2:=e3.symm
 dsimp only at ho2 hoc2 hpc2 H
 refine U<|bu 5 N Z<|ch dG (f4 txs cA cc _ (H.rd0 1 Z) I gO [.pointer (Qd b3)] io (fun p=>decide (p.name=s)) (fun e w2 _ hw2=>nu e s b3 w2 ((hw2.block _ (cj (H.ent (i:=1) Z))).trans (H.ent (i:=1) Z)))) Z Z ?_
 rintro _ w14 ⟨rfl,hb⟩;replace H:=H.later hb;clear hb
 refine U<|bu 6 N Z<|bg H 0 (#[J ck,J nx,J wt,.slice A2 tx2.length c2]) aA Z Z Z Z Z N N fun w15 H=>U<|bu 7 N Z<|G (Wi Z)<|U<|bu 8 N Z<|G (Wi Z)<|U<|aZ N<|Zt ?_
 exact gy (cs0:= #[J ck,J nx,J wt,.slice A2 tx2.length c2]) (v1:=J (lE (txs.findIdx? fun p=>decide (p.name=s)))) (v2:=J 0) Z aq Z (H.ent (i:=0) Z) Z Z Z ⟨⟨ck,nx,wt,tx2,A2,c2⟩,L2,lo2,hi2,rfl,by unfold Co.a;dsimp only;rw[hma],ho2,hoc2,hpc2,aS hsz0 hlo2,H.forget (.cons _ (.cons _ (.cons _ (ap _ _)))) (by simp)⟩
def iR (s:ByteArray) (pid:Int):Tx:=⟨s,pid,0,1,[],0,0,none,0⟩
def qb (c:Co) (s:ByteArray):Co:={c with next:=c.next+1,txs:=c.txs++[iR s c.next]}
theorem FB (c:Co) (s:ByteArray) (w:World) (h:c.rd 0 w.heap.size w) (hok:gi c=true) (hn:bQ s=true) (hi:fL c s<0) (hf:c.txs.length=8):dg ab mu [c.v,.string s] w fun v w2=>v=.tuple #[.agg #[J 0,J 0,J 0,.slice none 0 0],J 0,J 0,J 16]/\Below w.heap.size w w2:=by
 refine aF nP Z Z ?_
 have hcap:=h.cap
 have hfew:=h.few
 have hfp:=h.fewP
 have H:=Hp.startCo h
 obtain⟨ck,nx,wt,txs,cA,cc⟩:=c
 dsimp only at hcap hfew hfp H
 show CW _ _ _ _ (args [.agg #[J ck,J nx,J wt,.slice cA txs.length cc],.string s]) w
 dsimp only at hf
 refine W<|Zr<|fW H Z Z fun w1 b2 H=>eI H cM Z fun w2 b4 H=>G (Wi Z)<|G (Wi Z)<|G (Wi Z)<|U<|W<|Zr<|G (Zw aq H 1 Z Z Z)<|G (Yt Z)<|ch ie (Jh ⟨ck,nx,wt,txs,cA,cc⟩ s _ ⟨H.rd0 0 Z,fun t ht=>fx H 1 Z ht,hcap,hfew,hfp⟩ hok hn) Z Z ?_
 have hsz0:=H.size
 rintro _ w3 ⟨⟨ck2,nx2,wt2,tx2,A2,c2⟩,L2,lo2,hi2,rfl,ha2,ho2,hoc2,hpc2,hlo2,hj2⟩
 replace H:=Hp.joinF H hj2 (by intro f hf;rw[au.1 hf];exact hlo2);clear hj2
 simp only[Co.a,Co.mk.injEq]at ha2
 obtain⟨e1,e2,e3,hma,-,-⟩:=ha2
 obtain rfl:ck=ck2:=e1.symm
 obtain rfl:nx=nx2:=e2.symm
 obtain rfl:wt=wt2:=e3.symm
 dsimp only at ho2 hoc2 hpc2 H
 have hlen2:tx2.length=txs.length:=by have:=congrArg cB hma;simpa using this
 obtain⟨b1,b2_,b3_,b4_,b5_,b6_,b7_⟩:=iW.1 hok
 dsimp only at b2_ b3_ b6_
 refine G (Yu Z)<|G (Xa Z Z)<|G (Xi Z Z)<|G (Xi Z Z)<|bg H 1 (#[J ck,J nx,J wt,.slice A2 tx2.length c2]) aA Z Z Z Z Z N N fun w4 H=>G (Wi Z)<|G (Wi Z)<|U<|W<|W<|Zr<|G (Yi Z)<|G (ce Z Z Z)<|U<|ZF Z<|Zk<|W<|W<|Zr<|G (Yi Z)<|G (xv Z Z hi)<|U<|ZT Z<|W<|W<|Zr<|G (Zf cR Z)<|G (Zd dP H 1 Z Z Z)<|G (br lh Z)<|G (qa Z Z I)<|G (Yb Z)<|ZN<|ZN<|ZN<|G (Kt Z Z)<|U<|ZT Z<|W<|Zr<|G (bn (cs:= #[J 0,J 0,J 0,.slice none 0 0]) fz cM N) ?_
 refine bg H 0 (#[J 0,J 0,J 0,.slice none 0 0]) aA Z Z Z Z Z N N fun w5 H=>G (Wi Z)<|G (Wi Z)<|G (Wi Z)<|U<|Zt ?_
 exact dM (cs0:= #[J 0,J 0,J 0,.slice none 0 0]) (v1:=J 0) (v2:=J 0) (v3:=J 16) Z aq Z (H.ent (i:=0) Z) Z Z Z Z ⟨rfl,H.below⟩
theorem Hi (ck nx:Int): ∀ (l pre:List Tx),nT ck nx pre l=nT ck nx (pre.map Tx.a) (l.map Tx.a)
 |[],_=>rfl
 |t::l,pre=>by
  rw[eM]
  unfold nT
  have e1:(pre.map Tx.a).any (sg t.a)=pre.any (sg t):=by rw[List.any_map];rfl
  have e2:=Hi ck nx l (pre++[t])
  rw[bo]at e2
  rw[e1,e2]
  rfl
theorem ru (c:Co):gi c=gi c.a:=by
 unfold gi
 have:=Hi c.clock c.next c.txs []
 rw[this]
 unfold Co.a
 simp
theorem Hp.learnAlsoF {w0 w w':World} {L:List (Nat×Obj)} {F F0:List cz} (H0:Hp w0 w L F0) (H:Hp w0 w' L F) (f:cz) (hf:f.p w') (hlo:w.heap.size<=f.lo) (hhi:f.hi<=w'.heap.size):Hp w0 w' L (f::F):=by
 refine⟨H.below,H.ents,H.nodup,fun g hg=> ?_⟩
 rcases ay.1 hg with rfl|hg
 exact⟨hf,hhi,fun e he=> .inl (by have:=H0.ltAll e he;omega)⟩
 exact H.facts g hg
structure Hd (w w2:World) (c:Co):Prop where
 below:Below w.heap.size w w2
 row:Rd rB w.heap.size w2.heap.size c.A c.txs w2
 parts: ∀ t∈c.txs,Rd bW w.heap.size w2.heap.size t.A t.parts w2
 cap:c.txs.length<=c.cap
 caps: ∀ t∈c.txs,t.parts.length<=t.cap
theorem LJ.rd {w w2:World} {ca c':Co} {L':List (Nat×Obj)} {lo hi:Nat} (h:LJ w w2 ca c' L' lo hi):Hd w w2 c':=by
 obtain⟨h1,ho,hc,hcs,hlo,hj⟩:=h
 have hf:=hj.facts _ (aC ..)
 have hj0:Hp w w2 L' []:=hj.forget (ar _) (by simp)
 refine⟨hj.below,ho.rd (K:=[]) (M:=[]) (by simpa using hj0),fun t ht=>Rd.mono (hf.1 t ht) hlo hf.2.1,hc,hcs⟩
theorem Hd.learn {w0 w w2:World} {L:List (Nat×Obj)} {F:List cz} {c:Co} (h:Hd w w2 c) (H:Hp w0 w L F):Hp w0 w2 L (iH w.heap.size w2.heap.size c.txs::dT rB w.heap.size w2.heap.size c.A c.txs::F):=
 Hp.learnAlsoF H (H.learnRd h.below h.row) (iH w.heap.size w2.heap.size c.txs) h.parts (ao _) (ao _)
def yA:Co:=⟨0,0,0,[],none,0⟩
theorem Nt {w w2:World} (hb:Below w.heap.size w w2):Hd w w2 yA:=⟨hb,Rd.nil,(by intro t ht;cases ht),ao _,(by intro t ht;cases ht)⟩
/-- the parts of each producer lie in blocks of the call's own -/
def eC:List Tx->List (Nat×Obj)->Prop
 |[],L=>L=[]
 |t::ts,L=> ∃ L1 L2,L=L1++L2/\gm bW (.slice t.A t.parts.length t.cap) db t.parts L1/\eC ts L2
theorem eC.snoc {t:Tx} {L':List (Nat×Obj)} (ht:gm bW (.slice t.A t.parts.length t.cap) db t.parts L'): ∀ {ts:List Tx} {L:List (Nat×Obj)},eC ts L->eC (ts++[t]) (L++L')
 |[],_,h=>⟨L',[],by rw[show _=[]from h];simp,ht,rfl⟩
 |_::_,_,⟨L1,L2,h1,h2,h3⟩=>⟨L1,L2++L',by rw[h1,aE],h2,eC.snoc ht h3⟩
theorem eC.at_: ∀ {ts:List Tx} {L:List (Nat×Obj)} {i:Nat} {t:Tx},eC ts L->ts[i]? =some t-> ∃ La Lt Lb,L=La++Lt++Lb/\gm bW (.slice t.A t.parts.length t.cap) db t.parts Lt/\ ∀ (t':Tx) (Lt':List (Nat×Obj)),gm bW (.slice t'.A t'.parts.length t'.cap) db t'.parts Lt'->eC (ts.set i t') (La++Lt'++Lb)
 |x::ts,L,0,t,⟨L1,L2,h1,h2,h3⟩,hi=>by
  cases hi
  exact⟨[],L1,L2,by simpa using h1,h2,fun t' Lt' h'=>⟨Lt',L2,by simp,h',h3⟩⟩
 |x::ts,L,i+1,t,⟨L1,L2,h1,h2,h3⟩,hi=>by
  obtain⟨La,Lt,Lb,e,ho,hs⟩:=eC.at_ h3 (show ts[i]? =some t from hi)
  exact⟨L1++La,Lt,Lb,by rw[h1,e];simp[aE],ho,fun t' Lt' h'=>⟨L1,La++Lt'++Lb,by simp[aE],h2,hs t' Lt' h'⟩⟩
theorem eC.rd {w0 w:World} {ts:List Tx} {L:List (Nat×Obj)} (h:eC ts L) (H:Hp w0 w L []) {t:Tx} (ht:t∈ts):Rd bW w0.heap.size w.heap.size t.A t.parts w:=by
 obtain⟨i,hi⟩:=aU.1 ht
 obtain⟨La,Lt,Lb,rfl,ho,-⟩:=h.at_ hi
 exact ho.rd (K:=La) (M:=Lb) H
def qi (w w2:World) (ca c':Co) (Lr Lp:List (Nat×Obj)):Prop:=c'.a=ca/\gm rB (.slice c'.A c'.txs.length c'.cap) cI c'.txs Lr/\eC c'.txs Lp/\c'.txs.length<=c'.cap/\(∀ t∈c'.txs,t.parts.length<=t.cap)/\Hp w w2 (Lr++Lp) []
theorem qi.read {w w2:World} {ca c':Co} {Lr Lp:List (Nat×Obj)} (h:qi w w2 ca c' Lr Lp):Hd w w2 c':=by
 obtain⟨_,h2,h3,h4,h5,h6⟩:=h
 refine⟨h6.below,h2.rd (K:=[]) (M:=Lp) (by simpa using h6),fun t ht=>h3.rd (h6.forget (cu _ _) (by simp)) ht,h4,h5⟩
theorem sH (c:Co) (w:World) (h:c.rd 0 w.heap.size w):dg ab wz [c.v] w fun v w2=> ∃ (c':Co) (Lr Lp:List (Nat×Obj)),v=c'.v/\qi w w2 c.a c' Lr Lp:=by
 refine aF va Z Z ?_
 have hcap:=h.cap
 have hfew:=h.few
 have hfp:=h.fewP
 have H:=Hp.startCo h
 obtain⟨ck,nx,wt,txs,cA,cc⟩:=c
 dsimp only at hcap hfew hfp H
 show CW _ _ _ _ (args [.agg #[J ck,J nx,J wt,.slice cA txs.length cc]]) w
 refine W<|Zr<|fW H Z Z fun w1 b1 H=>eI H cM Z fun w2 b2 H=>U<|W<|Zr<|G (Zf cR Z)<|G (Zd dP H 1 Z Z Z)<|ch lr (wN txs cA cc _ (H.rd0 0 Z) I) Z Z ?_
 rintro _ w3 ⟨A6,c6,L6,rfl,hc6,hm6,ho6,hj6⟩;replace H:=H.joinR hj6;clear hj6
 refine G (Zf cR Z)<|bg H 1 (#[J ck,J nx,J wt,.slice A6 txs.length c6]) zt Z Z Z Z Z N N fun w4 H=>U<|W<|W<|Zr<|G (Zf cR Z)<|G (Zd dP H 1 Z Z Z)<|G (br lh Z)<|G (Yi Z)<|U<|Zb ?_
 refine cy (τ:=Nat×List Tx×Option Addr×Nat×List (Nat×Obj)) [3,11,12,13,14,15,16,17,18,19,20,21,22,23,24,25,26] (fun(k,_)=>[(11,J (k:Nat))]) (fun(k,out,A1,c1,Lp) w'=>k<=out.length/\out.length=txs.length/\out.length<=c1/\out.map Tx.a=txs.map Tx.a/\out.drop k=txs.drop k/\(∀ t∈out.take k,t.parts.length<=t.cap)/\eC (out.take k) Lp/\ ∃ L',gm rB (.slice A1 out.length c1) cI out L'/\Hp w w' ([(b2,.cells #[J 0,J 0,J 0,.slice none 0 0] bk (0,0)),(b1,.cells #[J ck,J nx,J wt,.slice A1 out.length c1] bk (0,0))]++L'++Lp) [dT rB 0 w.heap.size cA txs,iH 0 w.heap.size txs]) (fun(k,out,_)=>out.length-k) (0,txs,A6,c6,[]) ⟨by omega,rfl,hc6,rfl,rfl,by simp,rfl,L6,ho6,H⟩ (dJ Z) ?_
 rintro⟨k,out,A1,c1,Lp⟩ ρ1 w5 ⟨hk,hol,hoc,hma,hdr,hpc,hpp,L1,ho,H⟩
 show CW _ _ _ _ (dH (gJ _ _ ρ1) [(11,J (k:Nat))]) w5
 refine W<|Zr ?_
 refine cW (cK Z Z) Z Z Z (fun h12=> ?_) (fun h12=> ?_)
 refine U<|W<|ZT Z<|Zk<|W<|Zb<|W ?_
 obtain⟨x,hx⟩: ∃ x,out[k]? =some x:=⟨_,ai I⟩
 have hxt:txs[k]? =some x:=by have:=congrArg (fun l=>l[0]?) hdr;simp only[dO,r3]at this;rw[<-this];exact hx
 have hmem:=ah hxt
 have hfx:=(hfp x hmem).1
 obtain⟨g,cur,rfl,rfl,row⟩:=ho.row I
 refine Zr<|G (Yi Z)<|G (Wi Z)<|U ?_
 refine bD ci [0,1,2,3,4,5,6,7,8,9,10,11] [12] [9] [0,2,3,5,6,7,10,11] (sp [(9,Sp.orow w5.heap.size bW db x.parts)]) N N N N Nq (cJ _) ?_
 refine aw Z Z Z Z Z (fun w' hw'=>Zf cR Z)<|aw Z Z Z Z Z (fun w' hw'=>aX dP Z (aD ((H.later hw').ent (i:=1) Z) Z))<|aw Z Z Z Z Z (fun w' hw'=>Yi Z)<|aw Z Z Z Z Z (fun w' hw'=>Zf cR Z)<|aw Z Z Z Z Z (fun w' hw'=>aX dP Z (aD ((H.later hw').ent (i:=1) Z) Z))<|aw Z Z Z Z Z (fun w' hw'=>Yi Z)<|aw Z Z Z Z Z (fun w' hw'=>bV gH Z Z I)<|aw Z Z Z Z Z (fun w' hw'=>Zf dB Z)<|aw Z Z Z Z Z (fun w' hw'=>bf bL row hx 4 Z ((H.later hw').ent (i:=2) Z) Z)<|xP gj Z Z Z Z Z (fun w' hw'=>hw'.size) (fun w' hw'=>sI x.parts _ _ w' (fx (H.later hw') 1 Z hmem) I) Z fun A23 c23 hc23=>aw Z Z Z Z Z (fun w' hw'=>bV gH Z Z I)<|aw Z Z Z Z Z (fun w' hw'=>Zf dB Z)<|aQ ?_
 intro w6 hw' hF
 obtain⟨hF,Aq,cq,L23,eq,hcq,hm23,ho23,he23,hn23⟩:=hF;cases eq;clear hcq
 replace H:=H.joinR (Hp.ofNew hw' he23 hn23)
 clear hw' hF
 refine im H 2 ({x with A:=A23,cap:=c23}) jE row hx 4 Z Z Z Z Z Z N fun w8 cur7 row7 H=>U<|Zr<|G (bz Z Z I I)<|G (Yi Z)<|U ?_
 obtain⟨z1,z2,z3⟩:=CD (x':={x with A:=A23,cap:=c23}) hx hma hdr Z
 refine⟨(k+1,out.set k {x with A:=A23,cap:=c23},some ⟨g,0,none⟩,c1,Lp++L23),⟨by rw[aa];omega,by rw[aa];exact hol,by rw[aa];exact hoc,z1,z2,?_,by rw[z3];exact hpp.snoc ho23,_,dz.own row7,?_⟩,dJ Z,Qg,by show(out.set k _).length- (k+1)<out.length-k;rw[aa];omega⟩
 rw[z3];intro t ht;rcases ax.1 ht with ht|ht;exact hpc t ht;rw[au.1 ht];exact hc23
 rw[aa];simpa using H
 have hke:k=out.length:=by omega
 rw[hke,bZ]at hpp hpc
 refine U<|W<|ZF Z<|Zx<|W<|Zr<|G (Zw aq H 1 Z Z Z)<|bg H 0 (#[J ck,J nx,J wt,.slice A1 out.length c1]) aA Z Z Z Z Z N N fun w9 H=>U<|Zt ?_
 exact eS (cs0:= #[J ck,J nx,J wt,.slice A1 out.length c1]) Z aq Z (H.ent (i:=0) Z) Z ⟨⟨ck,nx,wt,out,A1,c1⟩,L1,Lp,rfl,by unfold Co.a;dsimp only;rw[hma],ho,hpp,hoc,hpc,H.forget (.cons _ (.cons _ (ar _))) (by simp)⟩
theorem qU {txs tx2:List Tx} (h:tx2.map Tx.a=txs.map Tx.a) {i:Nat} {t:Tx} (ht:txs[i]? =some t): ∃ t2,tx2[i]? =some t2/\t2.a=t.a:=by
 have h1:=congrArg (fun l=>l[i]?) h
 simp only[aL,ht,eX]at h1
 cases h2:tx2[i]? with
 |none=>rw[h2]at h1;cases h1
 |some t2=>rw[h2]at h1;exact⟨t2,rfl,by simpa using h1⟩
theorem lI (c:Co) (s:ByteArray) (w:World) (h:c.rd 0 w.heap.size w) (hok:gi c=true) (hn:bQ s=true):dg ab ww [c.v,.string s] w fun v w2=> ∃ (c':Co) (Lr Lp:List (Nat×Obj)),v=.tuple #[c'.v,J (fL c s),J 0]/\qi w w2 c.a c' Lr Lp:=by
 refine aF u6 Z Z ?_
 have hcap:=h.cap
 have hfew:=h.few
 have hfp:=h.fewP
 have H:=Hp.startCo h
 obtain⟨ck,nx,wt,txs,cA,cc⟩:=c
 dsimp only at hcap hfew hfp H
 show CW _ _ _ _ (args [.agg #[J ck,J nx,J wt,.slice cA txs.length cc],.string s]) w
 refine W<|Zr<|fW H Z Z fun w1 b2 H=>Pd H Z Z fun w2 b3 H=>eI H cM Z fun w3 b4 H=>G (Wi Z)<|G (Wi Z)<|U<|W<|W<|Zr<|G (Zw aq H 2 Z Z Z)<|ch jh (nB ⟨ck,nx,wt,txs,cA,cc⟩ _ ⟨H.rd0 0 Z,fun t ht=>fx H 1 Z ht,hcap,hfew,hfp⟩) Z Z ?_
 rw[hok]
 rintro _ w4 ⟨rfl,hb⟩;replace H:=H.later hb;clear hb
 refine G (Wi Z)<|U<|W<|Zr<|G (Yi Z)<|G (ce Z Z Z)<|U<|ZF Z<|Zk<|W<|W<|Zr<|G (Zd bc H 1 Z Z Z)<|ch ry (Df s _) Z Z ?_
 rw[hn]
 rintro _ w5 ⟨rfl,hb⟩;replace H:=H.later hb;clear hb
 refine G (dR Z)<|U<|ZF Z<|Zk<|W ?_
 refine kL ci [2,4] [0,1,3,5,6,7,8] [2,4] 7 N N N Nq ?_
 refine aw Z Z Z Z Z (fun w' hw'=>Zf cR Z)<|aw Z Z Z Z Z (fun w' hw'=>zH Z)<|aQ ?_
 intro w6 hw';replace H:=H.later hw';clear hw'
 refine kF 0 3 N Z Z ?_ ?_
 refine G (Zw aq H 2 Z Z Z)<|U ?_
 refine kF 1 3 N Z Z ?_ ?_
 refine ch i8 (sH ⟨ck,nx,wt,txs,cA,cc⟩ _ ⟨H.rd0 0 Z,fun t ht=>fx H 1 Z ht,hcap,hfew,hfp⟩) Z Z ?_
 rintro _ w7 ⟨⟨ck2,nx2,wt2,tx2,A2,c2⟩,Lr,Lp,rfl,ha2,ho2,hp2,hoc2,hpc2,hj2⟩
 replace H:=H.joinR hj2;clear hj2
 simp only[Co.a,Co.mk.injEq]at ha2
 obtain⟨e1,e2,e3,hma,-,-⟩:=ha2
 obtain rfl:ck=ck2:=e1.symm
 obtain rfl:nx=nx2:=e2.symm
 obtain rfl:wt=wt2:=e3.symm
 dsimp only at ho2 hp2 hoc2 hpc2 H
 refine U<|bu 3 N Z<|G (Zd dP H 2 Z Z Z)<|U<|bu 5 N Z<|ch dG (f4 txs cA cc _ (H.rd0 0 Z) I gO [.pointer (Qd b3)] io (fun p=>decide (p.name=s)) (fun e w2 _ hw2=>nu e s b3 w2 ((hw2.block _ (cj (H.ent (i:=1) Z))).trans (H.ent (i:=1) Z)))) Z Z ?_
 rintro _ w8 ⟨rfl,hb⟩;replace H:=H.later hb;clear hb
 refine U<|bu 6 N Z<|bg H 0 (#[J ck,J nx,J wt,.slice A2 tx2.length c2]) aA Z Z Z Z Z N N fun w9 H=>U<|bu 7 N Z<|G (Wi Z)<|U<|bu 8 N Z<|G (Wi Z)<|U<|aZ N<|Zt ?_
 exact gy (cs0:= #[J ck,J nx,J wt,.slice A2 tx2.length c2]) (v1:=J (lE (txs.findIdx? fun p=>decide (p.name=s)))) (v2:=J 0) Z aq Z (H.ent (i:=0) Z) Z Z Z ⟨⟨ck,nx,wt,tx2,A2,c2⟩,Lr,Lp,rfl,by unfold Co.a;dsimp only;rw[hma],ho2,hp2,hoc2,hpc2,H.forget (.cons _ (.cons _ (.cons _ (ap _ _)))) (by simp)⟩
 refine G (Zd dP H 2 Z Z Z)<|U<|bu 1 N Z<|ch i8 (sH ⟨ck,nx,wt,txs,cA,cc⟩ _ ⟨H.rd0 0 Z,fun t ht=>fx H 1 Z ht,hcap,hfew,hfp⟩) Z Z ?_
 rintro _ w10 ⟨⟨ck2,nx2,wt2,tx2,A2,c2⟩,Lr,Lp,rfl,ha2,ho2,hp2,hoc2,hpc2,hj2⟩
 replace H:=H.joinR hj2;clear hj2
 simp only[Co.a,Co.mk.injEq]at ha2
 obtain⟨e1,e2,e3,hma,-,-⟩:=ha2
 obtain rfl:ck=ck2:=e1.symm
 obtain rfl:nx=nx2:=e2.symm
 obtain rfl:wt=wt2:=e3.symm
 dsimp only at ho2 hp2 hoc2 hpc2 H
 refine U<|bu 5 N Z<|ch dG (f4 txs cA cc _ (H.rd0 0 Z) I gO [.pointer (Qd b3)] io (fun p=>decide (p.name=s)) (fun e w2 _ hw2=>nu e s b3 w2 ((hw2.block _ (cj (H.ent (i:=1) Z))).trans (H.ent (i:=1) Z)))) Z Z ?_
 rintro _ w11 ⟨rfl,hb⟩;replace H:=H.later hb;clear hb
 refine U<|bu 6 N Z<|bg H 0 (#[J ck,J nx,J wt,.slice A2 tx2.length c2]) aA Z Z Z Z Z N N fun w12 H=>U<|bu 7 N Z<|G (Wi Z)<|U<|bu 8 N Z<|G (Wi Z)<|U<|aZ N<|Zt ?_
 exact gy (cs0:= #[J ck,J nx,J wt,.slice A2 tx2.length c2]) (v1:=J (lE (txs.findIdx? fun p=>decide (p.name=s)))) (v2:=J 0) Z aq Z (H.ent (i:=0) Z) Z Z Z ⟨⟨ck,nx,wt,tx2,A2,c2⟩,Lr,Lp,rfl,by unfold Co.a;dsimp only;rw[hma],ho2,hp2,hoc2,hpc2,H.forget (.cons _ (.cons _ (.cons _ (ap _ _)))) (by simp)⟩
 refine G (Zd dP H 2 Z Z Z)<|U<|bu 0 N Z<|G (Zw aq H 2 Z Z Z)<|U<|bu 1 N Z<|ch i8 (sH ⟨ck,nx,wt,txs,cA,cc⟩ _ ⟨H.rd0 0 Z,fun t ht=>fx H 1 Z ht,hcap,hfew,hfp⟩) Z Z ?_
 rintro _ w13 ⟨⟨ck2,nx2,wt2,tx2,A2,c2⟩,Lr,Lp,rfl,ha2,ho2,hp2,hoc2,hpc2,hj2⟩
 replace H:=H.joinR hj2;clear hj2
 simp only[Co.a,Co.mk.injEq]at ha2
 obtain⟨e1,e2,e3,hma,-,-⟩:=ha2
 obtain rfl:ck=ck2:=e1.symm
 obtain rfl:nx=nx2:=e2.symm
 obtain rfl:wt=wt2:=e3.symm
 dsimp only at ho2 hp2 hoc2 hpc2 H
 refine U<|bu 5 N Z<|ch dG (f4 txs cA cc _ (H.rd0 0 Z) I gO [.pointer (Qd b3)] io (fun p=>decide (p.name=s)) (fun e w2 _ hw2=>nu e s b3 w2 ((hw2.block _ (cj (H.ent (i:=1) Z))).trans (H.ent (i:=1) Z)))) Z Z ?_
 rintro _ w14 ⟨rfl,hb⟩;replace H:=H.later hb;clear hb
 refine U<|bu 6 N Z<|bg H 0 (#[J ck,J nx,J wt,.slice A2 tx2.length c2]) aA Z Z Z Z Z N N fun w15 H=>U<|bu 7 N Z<|G (Wi Z)<|U<|bu 8 N Z<|G (Wi Z)<|U<|aZ N<|Zt ?_
 exact gy (cs0:= #[J ck,J nx,J wt,.slice A2 tx2.length c2]) (v1:=J (lE (txs.findIdx? fun p=>decide (p.name=s)))) (v2:=J 0) Z aq Z (H.ent (i:=0) Z) Z Z Z ⟨⟨ck,nx,wt,tx2,A2,c2⟩,Lr,Lp,rfl,by unfold Co.a;dsimp only;rw[hma],ho2,hp2,hoc2,hpc2,H.forget (.cons _ (.cons _ (.cons _ (ap _ _)))) (by simp)⟩
theorem zY (c:Co) (s:ByteArray) (ver:Int) (w:World) (h:c.rd 0 w.heap.size w) (hok:gi c=true) (hn:bQ s=true) (hi:fL c s= -1):dg ab re [c.v,.string s,J ver] w fun v w2=>v=.tuple #[.agg #[J 0,J 0,J 0,.slice none 0 0],J 0,J 5]/\Below w.heap.size w w2:=by
 refine aF p7 Z Z ?_
 have hcap:=h.cap
 have hfew:=h.few
 have hfp:=h.fewP
 have H:=Hp.startCo h
 obtain⟨ck,nx,wt,txs,cA,cc⟩:=c
 dsimp only at hcap hfew hfp H
 show CW _ _ _ _ (args [.agg #[J ck,J nx,J wt,.slice cA txs.length cc],.string s,J ver]) w
 refine W<|Zr<|fW H Z Z fun w1 b3 H=>eI H cM Z fun w2 b6 H=>G (Wi Z)<|G (Wi Z)<|U<|W<|Zr<|G (Zw aq H 1 Z Z Z)<|G (Yt Z)<|ch ie (lI ⟨ck,nx,wt,txs,cA,cc⟩ s _ ⟨H.rd0 0 Z,fun t ht=>fx H 1 Z ht,hcap,hfew,hfp⟩ hok hn) Z Z ?_
 rintro _ w3 ⟨⟨ck2,nx2,wt2,tx2,A2,c2⟩,Lr,Lp,rfl,ha2,ho2,hp2,hoc2,hpc2,hj2⟩
 replace H:=H.joinR hj2;clear hj2
 simp only[Co.a,Co.mk.injEq]at ha2
 obtain⟨e1,e2,e3,hma,-,-⟩:=ha2
 obtain rfl:ck=ck2:=e1.symm
 obtain rfl:nx=nx2:=e2.symm
 obtain rfl:wt=wt2:=e3.symm
 dsimp only at ho2 hp2 hoc2 hpc2 H
 rw[hi]
 refine G (Yu Z)<|G (Xa Z Z)<|G (Xi Z Z)<|G (Xi Z Z)<|bg H 1 (#[J ck,J nx,J wt,.slice A2 tx2.length c2]) aA Z Z Z Z Z N N fun w4 H=>G (Wi Z)<|G (Wi Z)<|U<|W<|Zb<|W<|Zr<|G (Yi Z)<|G (ce Z Z Z)<|G (Wb Z)<|U<|ZF Z<|W<|Zr<|G (Yi Z)<|G (xv Z Z (by decide))<|G (Wb Z)<|U<|ZT Z<|W<|Zr<|G (bn (cs:= #[J 0,J 0,J 0,.slice none 0 0]) fz cM N)<|bg H 0 (#[J 0,J 0,J 0,.slice none 0 0]) aA Z Z Z Z Z N N fun w5 H=>G (Wi Z)<|G (Wi Z)<|U<|Zt ?_
 exact gy (cs0:= #[J 0,J 0,J 0,.slice none 0 0]) (v1:=J 0) (v2:=J 5) Z aq Z (H.ent (i:=0) Z) Z Z Z ⟨rfl,H.below⟩
theorem yi (c:Co) (s:ByteArray) (ver:Int) (i:Nat) (t:Tx) (w:World) (h:c.rd 0 w.heap.size w) (hok:gi c=true) (hn:bQ s=true) (hi:fL c s=i) (ht:c.txs[i]? =some t) (hv:t.ver≠ver):dg ab re [c.v,.string s,J ver] w fun v w2=>v=.tuple #[.agg #[J 0,J 0,J 0,.slice none 0 0],J 0,J 10]/\Below w.heap.size w w2:=by
 refine aF p7 Z Z ?_
 have hcap:=h.cap
 have hfew:=h.few
 have hfp:=h.fewP
 have H:=Hp.startCo h
 obtain⟨ck,nx,wt,txs,cA,cc⟩:=c
 dsimp only at hcap hfew hfp H
 show CW _ _ _ _ (args [.agg #[J ck,J nx,J wt,.slice cA txs.length cc],.string s,J ver]) w
 dsimp only at ht
 refine W<|Zr<|fW H Z Z fun w1 b3 H=>eI H cM Z fun w2 b6 H=>G (Wi Z)<|G (Wi Z)<|U<|W<|Zr<|G (Zw aq H 1 Z Z Z)<|G (Yt Z)<|ch ie (lI ⟨ck,nx,wt,txs,cA,cc⟩ s _ ⟨H.rd0 0 Z,fun t ht=>fx H 1 Z ht,hcap,hfew,hfp⟩ hok hn) Z Z ?_
 rintro _ w3 ⟨⟨ck2,nx2,wt2,tx2,A2,c2⟩,Lr,Lp,rfl,ha2,ho2,hp2,hoc2,hpc2,hj2⟩
 replace H:=H.joinR hj2;clear hj2
 simp only[Co.a,Co.mk.injEq]at ha2
 obtain⟨e1,e2,e3,hma,-,-⟩:=ha2
 obtain rfl:ck=ck2:=e1.symm
 obtain rfl:nx=nx2:=e2.symm
 obtain rfl:wt=wt2:=e3.symm
 dsimp only at ho2 hp2 hoc2 hpc2 H
 rw[hi]
 refine G (Yu Z)<|G (Xa Z Z)<|G (Xi Z Z)<|G (Xi Z Z)<|bg H 1 (#[J ck,J nx,J wt,.slice A2 tx2.length c2]) aA Z Z Z Z Z N N fun w4 H=>G (Wi Z)<|G (Wi Z)<|U<|W<|Zb<|W<|Zr<|G (Yi Z)<|G (ce Z Z Z)<|G (Wb Z)<|U<|ZF Z<|W<|Zr<|G (Yi Z)<|G (dd Z Z I)<|G (Wb Z)<|U<|ZF Z<|W ?_
 obtain⟨t2,ht2,hta⟩:=qU hma ht
 have hl2:=(bT ht2).1
 obtain⟨g,cur,rfl,rfl,row⟩:=ho2.row I
 have hver:t2.ver=t.ver:=by show t2.a.ver=t.a.ver;rw[hta]
 refine Zr<|G (Zf cR Z)<|G (Zd dP H 1 Z Z Z)<|G (Yi Z)<|G (bV gH Z Z I)<|G (Zf gz Z)<|G (bf ak row ht2 2 Z (H.ent (i:=2) Z) Z)<|G (Yi Z)<|G (j9 Z Z I)<|G (Wb Z)<|U<|ZT Z<|W<|Zr<|G (bn (cs:= #[J 0,J 0,J 0,.slice none 0 0]) fz cM N)<|bg H 0 (#[J 0,J 0,J 0,.slice none 0 0]) aA Z Z Z Z Z N N fun w5 H=>G (Wi Z)<|G (Wi Z)<|U<|Zt ?_
 exact gy (cs0:= #[J 0,J 0,J 0,.slice none 0 0]) (v1:=J 0) (v2:=J 10) Z aq Z (H.ent (i:=0) Z) Z Z Z ⟨rfl,H.below⟩
theorem wn (c:Co) (s:ByteArray) (ver:Int) (i:Nat) (t:Tx) (w:World) (h:c.rd 0 w.heap.size w) (hok:gi c=true) (hn:bQ s=true) (hi:fL c s=i) (ht:c.txs[i]? =some t) (hv:t.ver=ver):dg ab re [c.v,.string s,J ver] w fun v w2=> ∃ (c':Co) (Lr Lp:List (Nat×Obj)),v=.tuple #[c'.v,J (i:Nat),J 0]/\qi w w2 c.a c' Lr Lp:=by
 refine aF p7 Z Z ?_
 have hcap:=h.cap
 have hfew:=h.few
 have hfp:=h.fewP
 have H:=Hp.startCo h
 obtain⟨ck,nx,wt,txs,cA,cc⟩:=c
 dsimp only at hcap hfew hfp H
 show CW _ _ _ _ (args [.agg #[J ck,J nx,J wt,.slice cA txs.length cc],.string s,J ver]) w
 dsimp only at ht
 refine W<|Zr<|fW H Z Z fun w1 b3 H=>eI H cM Z fun w2 b6 H=>G (Wi Z)<|G (Wi Z)<|U<|W<|Zr<|G (Zw aq H 1 Z Z Z)<|G (Yt Z)<|ch ie (lI ⟨ck,nx,wt,txs,cA,cc⟩ s _ ⟨H.rd0 0 Z,fun t ht=>fx H 1 Z ht,hcap,hfew,hfp⟩ hok hn) Z Z ?_
 rintro _ w3 ⟨⟨ck2,nx2,wt2,tx2,A2,c2⟩,Lr,Lp,rfl,ha2,ho2,hp2,hoc2,hpc2,hj2⟩
 replace H:=H.joinR hj2;clear hj2
 simp only[Co.a,Co.mk.injEq]at ha2
 obtain⟨e1,e2,e3,hma,-,-⟩:=ha2
 obtain rfl:ck=ck2:=e1.symm
 obtain rfl:nx=nx2:=e2.symm
 obtain rfl:wt=wt2:=e3.symm
 dsimp only at ho2 hp2 hoc2 hpc2 H
 rw[hi]
 refine G (Yu Z)<|G (Xa Z Z)<|G (Xi Z Z)<|G (Xi Z Z)<|bg H 1 (#[J ck,J nx,J wt,.slice A2 tx2.length c2]) aA Z Z Z Z Z N N fun w4 H=>G (Wi Z)<|G (Wi Z)<|U<|W<|Zb<|W<|Zr<|G (Yi Z)<|G (ce Z Z Z)<|G (Wb Z)<|U<|ZF Z<|W<|Zr<|G (Yi Z)<|G (dd Z Z I)<|G (Wb Z)<|U<|ZF Z<|W ?_
 obtain⟨t2,ht2,hta⟩:=qU hma ht
 have hl2:=(bT ht2).1
 obtain⟨g,cur,rfl,rfl,row⟩:=ho2.row I
 have hver:t2.ver=t.ver:=by show t2.a.ver=t.a.ver;rw[hta]
 refine Zr<|G (Zf cR Z)<|G (Zd dP H 1 Z Z Z)<|G (Yi Z)<|G (bV gH Z Z I)<|G (Zf gz Z)<|G (bf ak row ht2 2 Z (H.ent (i:=2) Z) Z)<|G (Yi Z)<|G (ce Z Z I)<|G (Wb Z)<|U<|ZF Z<|Zk<|W<|Zr<|G (Zw aq H 1 Z Z Z)<|G (Yi Z)<|bg H 0 (#[J ck,J nx,J wt,.slice (Qd g) tx2.length c2]) aA Z Z Z Z Z N N fun w5 H=>G (Wi Z)<|G (Wi Z)<|U<|Zt ?_
 exact gy (cs0:= #[J ck,J nx,J wt,.slice (Qd g) tx2.length c2]) (v1:=J (i:Nat)) (v2:=J 0) Z aq Z (H.ent (i:=0) Z) Z Z Z ⟨⟨ck,nx,wt,tx2,some ⟨g,0,none⟩,c2⟩,[(g,.cells cur cI (0,0))],Lp,rfl,by unfold Co.a;dsimp only;rw[hma],dz.own row,hp2,hoc2,hpc2,H.forget (.cons _ (.cons _ (ap _ _))) (by simp)⟩
/-- P5.5 -/
def eL (want:Int) (t:Tx):Option Tx:=if t.state=2 then some {t with state:=want}else if t.state=1/\t.done=0 then some {t with done:=want}else if t.state=want∨(t.state=1/\t.done=want)then some t else none
def vu (commit:Bool):Int:=if commit then 3 else 4
theorem eC.same {ts:List Tx} {L:List (Nat×Obj)} {i:Nat} {t t':Tx} (h:eC ts L) (hi:ts[i]? =some t) (h1:t'.A=t.A) (h2:t'.parts=t.parts) (h3:t'.cap=t.cap):eC (ts.set i t') L:=by
 obtain⟨La,Lt,Lb,rfl,ho,hs⟩:=h.at_ hi
 exact hs t' Lt (by rw[h1,h2,h3];exact ho)
theorem HQ {t t':Tx} (h:t'.a=t.a) (v:Int):({t' with state:=v}:Tx).a=({t with state:=v}:Tx).a:=congrArg (fun x:Tx=>({x with state:=v}:Tx)) h
theorem LH {t t':Tx} (h:t'.a=t.a) (v:Int):({t' with done:=v}:Tx).a=({t with done:=v}:Tx).a:=congrArg (fun x:Tx=>({x with done:=v}:Tx)) h
theorem fm {txs tx2:List Tx} (h:tx2.map Tx.a=txs.map Tx.a) (i:Nat) {t t':Tx} (ht:t'.a=t.a):(tx2.set i t').map Tx.a=(txs.set i t).map Tx.a:=by rw[cD,cD,h,ht]
theorem dD {ts:List Tx} (h: ∀ t∈ts,t.parts.length<=t.cap) {i:Nat} {t t':Tx} (hi:ts[i]? =some t) (h2:t'.parts=t.parts) (h3:t'.cap=t.cap): ∀ x∈ts.set i t',x.parts.length<=x.cap:=fun x hx=>by
 rcases bH hx with hx|rfl
 exact h x hx
 rw[h2,h3];exact h t (ah hi)
theorem K8 (c:Co) (s:ByteArray) (ver:Int) (i:Nat) (t:Tx) (w:World) (h:c.rd 0 w.heap.size w) (hok:gi c=true) (hn:bQ s=true) (hi:fL c s=i) (ht:c.txs[i]? =some t) (hv:t.ver=ver):dg ab lQ [c.v,.string s,J ver,.bool true] w fun v w2=>match eL 3 t with|none=>v=.tuple #[.agg #[J 0,J 0,J 0,.slice none 0 0],J 12]/\Below w.heap.size w w2|some t'=> ∃ (c':Co) (Lr Lp:List (Nat×Obj)),v=.tuple #[c'.v,J 0]/\qi w w2 (Co.a {c with txs:=c.txs.set i t'}) c' Lr Lp:=by
 refine aF pz Z Z ?_
 have hcap:=h.cap
 have hfew:=h.few
 have hfp:=h.fewP
 have H:=Hp.startCo h
 obtain⟨ck,nx,wt,txs,cA,cc⟩:=c
 dsimp only at hcap hfew hfp H
 show CW _ _ _ _ (args [.agg #[J ck,J nx,J wt,.slice cA txs.length cc],.string s,J ver,.bool true]) w
 dsimp only at ht⊢
 refine W<|Zr<|fW H Z Z fun w1 b4 H=>eI H cM Z fun w2 b8 H=>G (Wi Z)<|U<|W<|Zr<|G (Zw aq H 1 Z Z Z)<|G (Yt Z)<|G (Yi Z)<|ch gD (wn ⟨ck,nx,wt,txs,cA,cc⟩ s ver i t _ ⟨H.rd0 0 Z,fun t ht=>fx H 1 Z ht,hcap,hfew,hfp⟩ hok hn hi ht hv) Z Z ?_
 rintro _ w3 ⟨⟨ck2,nx2,wt2,tx2,A2,c2⟩,Lr,Lp,rfl,ha2,ho2,hp2,hoc2,hpc2,hj2⟩
 replace H:=H.joinR hj2;clear hj2
 simp only[Co.a,Co.mk.injEq]at ha2
 obtain⟨e1,e2,e3,hma,-,-⟩:=ha2
 obtain rfl:ck=ck2:=e1.symm
 obtain rfl:nx=nx2:=e2.symm
 obtain rfl:wt=wt2:=e3.symm
 dsimp only at ho2 hp2 hoc2 hpc2 H
 refine G (Yu Z)<|G (Xa Z Z)<|G (Xi Z Z)<|G (Xi Z Z)<|bg H 1 (#[J ck,J nx,J wt,.slice A2 tx2.length c2]) aA Z Z Z Z Z N N fun w4 H=>G (Wi Z)<|G (Wi Z)<|U<|W<|W<|Zr<|G (Yi Z)<|G (ce Z Z Z)<|U<|ZF Z<|Zk<|W<|Zr<|G (Wi Z)<|U<|W<|W<|Zr<|G (Yb Z)<|U<|ZT Z<|Zr<|G (Wi Z)<|U<|W<|W ?_
 obtain⟨t2,ht2,hta⟩:=qU hma ht
 have hl2:=(bT ht2).1
 obtain⟨g,cur,rfl,rfl,row⟩:=ho2.row I
 have hst:t2.state=t.state:=by show t2.a.state=t.a.state;rw[hta]
 have hdn:t2.done=t.done:=by show t2.a.done=t.a.done;rw[hta]
 refine Zr<|G (Zf cR Z)<|G (Zd dP H 1 Z Z Z)<|G (Yi Z)<|G (bV gH Z Z I)<|G (Wp Z)<|U<|Zb<|W<|Zr<|G (Yp Z)<|G (aG Z)<|G (Zf cT Z)<|G (bf ak row ht2 3 Z (H.ent (i:=2) Z) Z) ?_
 refine cW (bp Z Z) Z Z Z (fun h37=> ?_) (fun h37=> ?_)
 refine G (Wb Z)<|U<|ZT Z<|Zr<|G (Yp Z)<|G (Yi Z)<|G (aG Z)<|G (Zf cT Z)<|im H 2 ({t2 with state:=3}) bw row ht2 3 Z Z Z Z Z Z N fun w6 cur5 row5 H=>U<|W<|Zr<|G (Zw aq H 1 Z Z Z)<|bg H 0 (#[J ck,J nx,J wt,.slice (Qd g) tx2.length c2]) aA Z Z Z Z Z N N fun w7 H=>G (Wi Z)<|U<|Zt ?_
 have hE:eL 3 t=some {t with state:=3}:=by unfold eL;rw[if_pos I]
 rw[hE]
 dsimp only
 exact bG (cs0:= #[J ck,J nx,J wt,.slice (Qd g) tx2.length c2]) (v1:=J 0) Z aq Z (H.ent (i:=0) Z) Z Z ⟨⟨ck,nx,wt,(tx2.set i {t2 with state:=3}),some ⟨g,0,none⟩,c2⟩,[(g,.cells cur5 cI (0,0))],Lp,by unfold Co.v Co.c;dsimp only;rw[aa],by unfold Co.a;dsimp only;rw[fm hma i (HQ hta _)],dz.own row5,hp2.same ht2 Z Z Z,by dsimp only;rw[aa];exact hoc2,dD hpc2 ht2 Z Z,H.forget (.cons _ (.cons _ (ap _ _))) (by simp)⟩
 refine G (Wb Z)<|U<|ZF Z<|W<|Zr<|G (Yp Z)<|G (aG Z)<|G (Zf cT Z)<|G (bf ak row ht2 3 Z (H.ent (i:=2) Z) Z) ?_
 refine cW (bp Z Z) Z Z Z (fun h47=> ?_) (fun h47=> ?_)
 refine G (Yb Z)<|ZG<|G (Yp Z)<|ZG<|G (aG Z)<|ZG<|G (Zf jg Z)<|ZG<|G (bf ak row ht2 6 Z (H.ent (i:=2) Z) Z)<|ZG ?_
 refine cW (bp Z Z) Z Z Z (fun h53=> ?_) (fun h53=> ?_)
 refine G (Kt Z Z)<|G (Wb Z)<|U<|ZT Z<|Zr<|G (Yp Z)<|G (Yi Z)<|G (aG Z)<|G (Zf jg Z)<|im H 2 ({t2 with done:=3}) bw row ht2 6 Z Z Z Z Z Z N fun w9 cur8 row8 H=>U<|W<|Zr<|G (Zw aq H 1 Z Z Z)<|bg H 0 (#[J ck,J nx,J wt,.slice (Qd g) tx2.length c2]) aA Z Z Z Z Z N N fun w10 H=>G (Wi Z)<|U<|Zt ?_
 have hE:eL 3 t=some {t with done:=3}:=by unfold eL;rw[if_neg I,if_pos I]
 rw[hE]
 dsimp only
 exact bG (cs0:= #[J ck,J nx,J wt,.slice (Qd g) tx2.length c2]) (v1:=J 0) Z aq Z (H.ent (i:=0) Z) Z Z ⟨⟨ck,nx,wt,(tx2.set i {t2 with done:=3}),some ⟨g,0,none⟩,c2⟩,[(g,.cells cur8 cI (0,0))],Lp,by unfold Co.v Co.c;dsimp only;rw[aa],by unfold Co.a;dsimp only;rw[fm hma i (LH hta _)],dz.own row8,hp2.same ht2 Z Z Z,by dsimp only;rw[aa];exact hoc2,dD hpc2 ht2 Z Z,H.forget (.cons _ (.cons _ (ap _ _))) (by simp)⟩
 refine G (Kt Z Z)<|G (Wb Z)<|U<|ZF Z<|W<|W<|Zr<|G (Yp Z)<|G (aG Z)<|G (Zf cT Z)<|G (bf ak row ht2 3 Z (H.ent (i:=2) Z) Z)<|G (Yi Z) ?_
 refine cW (bp Z Z) Z Z Z (fun h65=> ?_) (fun h65=> ?_)
 refine G (Wb Z)<|U<|ZT Z<|Zk<|ZT Z<|Zk<|W<|Zr<|G (Zw aq H 1 Z Z Z)<|bg H 0 (#[J ck,J nx,J wt,.slice (Qd g) tx2.length c2]) aA Z Z Z Z Z N N fun w11 H=>G (Wi Z)<|U<|Zt ?_
 have hE:eL 3 t=some t:=by unfold eL;rw[if_neg I,if_neg I,if_pos I]
 rw[hE]
 dsimp only
 exact bG (cs0:= #[J ck,J nx,J wt,.slice (Qd g) tx2.length c2]) (v1:=J 0) Z aq Z (H.ent (i:=0) Z) Z Z ⟨⟨ck,nx,wt,tx2,some ⟨g,0,none⟩,c2⟩,[(g,.cells cur cI (0,0))],Lp,rfl,by unfold Co.a;dsimp only;rw[iO ht,hma],dz.own row,hp2,hoc2,hpc2,H.forget (.cons _ (.cons _ (ap _ _))) (by simp)⟩
 refine G (Wb Z)<|U<|ZF Z<|Zr<|G (Yp Z)<|G (aG Z)<|G (Zf cT Z)<|G (bf ak row ht2 3 Z (H.ent (i:=2) Z) Z) ?_
 refine cW (bp Z Z) Z Z Z (fun h70=> ?_) (fun h70=> ?_)
 refine G (Yb Z)<|ZG<|G (Yp Z)<|ZG<|G (aG Z)<|ZG<|G (Zf jg Z)<|ZG<|G (bf ak row ht2 6 Z (H.ent (i:=2) Z) Z)<|ZG<|G (Yi Z)<|ZG ?_
 refine cW (bp Z Z) Z Z Z (fun h77=> ?_) (fun h77=> ?_)
 refine G (Kt Z Z)<|G (Wb Z)<|U<|ZT Z<|Zk<|W<|Zr<|G (Zw aq H 1 Z Z Z)<|bg H 0 (#[J ck,J nx,J wt,.slice (Qd g) tx2.length c2]) aA Z Z Z Z Z N N fun w12 H=>G (Wi Z)<|U<|Zt ?_
 have hE:eL 3 t=some t:=by unfold eL;rw[if_neg I,if_neg I,if_pos I]
 rw[hE]
 dsimp only
 exact bG (cs0:= #[J ck,J nx,J wt,.slice (Qd g) tx2.length c2]) (v1:=J 0) Z aq Z (H.ent (i:=0) Z) Z Z ⟨⟨ck,nx,wt,tx2,some ⟨g,0,none⟩,c2⟩,[(g,.cells cur cI (0,0))],Lp,rfl,by unfold Co.a;dsimp only;rw[iO ht,hma],dz.own row,hp2,hoc2,hpc2,H.forget (.cons _ (.cons _ (ap _ _))) (by simp)⟩
 refine G (Kt Z Z)<|G (Wb Z)<|U<|ZF Z<|W<|Zr<|G (bn (cs:= #[J 0,J 0,J 0,.slice none 0 0]) fz cM N)<|bg H 0 (#[J 0,J 0,J 0,.slice none 0 0]) aA Z Z Z Z Z N N fun w13 H=>G (Wi Z)<|U<|Zt ?_
 have hE:eL 3 t=none:=by unfold eL;rw[if_neg I,if_neg I,if_neg I]
 rw[hE]
 dsimp only
 exact bG (cs0:= #[J 0,J 0,J 0,.slice none 0 0]) (v1:=J 12) Z aq Z (H.ent (i:=0) Z) Z Z ⟨rfl,H.below⟩
 refine G (Yb Z)<|ZN<|ZN<|ZN<|ZN<|ZN<|ZN<|G (N Z Z)<|G (Wb Z)<|U<|ZF Z<|W<|Zr<|G (bn (cs:= #[J 0,J 0,J 0,.slice none 0 0]) fz cM N)<|bg H 0 (#[J 0,J 0,J 0,.slice none 0 0]) aA Z Z Z Z Z N N fun w14 H=>G (Wi Z)<|U<|Zt ?_
 have hE:eL 3 t=none:=by unfold eL;rw[if_neg I,if_neg I,if_neg I]
 rw[hE]
 dsimp only
 exact bG (cs0:= #[J 0,J 0,J 0,.slice none 0 0]) (v1:=J 12) Z aq Z (H.ent (i:=0) Z) Z Z ⟨rfl,H.below⟩
 refine G (Yb Z)<|ZN<|ZN<|ZN<|ZN<|ZN<|G (N Z Z)<|G (Wb Z)<|U<|ZF Z<|W<|W<|Zr<|G (Yp Z)<|G (aG Z)<|G (Zf cT Z)<|G (bf ak row ht2 3 Z (H.ent (i:=2) Z) Z)<|G (Yi Z) ?_
 refine cW (bp Z Z) Z Z Z (fun h65=> ?_) (fun h65=> ?_)
 refine G (Wb Z)<|U<|ZT Z<|Zk<|ZT Z<|Zk<|W<|Zr<|G (Zw aq H 1 Z Z Z)<|bg H 0 (#[J ck,J nx,J wt,.slice (Qd g) tx2.length c2]) aA Z Z Z Z Z N N fun w15 H=>G (Wi Z)<|U<|Zt ?_
 have hE:eL 3 t=some t:=by unfold eL;rw[if_neg I,if_neg I,if_pos I]
 rw[hE]
 dsimp only
 exact bG (cs0:= #[J ck,J nx,J wt,.slice (Qd g) tx2.length c2]) (v1:=J 0) Z aq Z (H.ent (i:=0) Z) Z Z ⟨⟨ck,nx,wt,tx2,some ⟨g,0,none⟩,c2⟩,[(g,.cells cur cI (0,0))],Lp,rfl,by unfold Co.a;dsimp only;rw[iO ht,hma],dz.own row,hp2,hoc2,hpc2,H.forget (.cons _ (.cons _ (ap _ _))) (by simp)⟩
 refine G (Wb Z)<|U<|ZF Z<|Zr<|G (Yp Z)<|G (aG Z)<|G (Zf cT Z)<|G (bf ak row ht2 3 Z (H.ent (i:=2) Z) Z) ?_
 refine cW (bp Z Z) Z Z Z (fun h70=> ?_) (fun h70=> ?_)
 refine G (Yb Z)<|ZG<|G (Yp Z)<|ZG<|G (aG Z)<|ZG<|G (Zf jg Z)<|ZG<|G (bf ak row ht2 6 Z (H.ent (i:=2) Z) Z)<|ZG<|G (Yi Z)<|ZG ?_
 refine cW (bp Z Z) Z Z Z (fun h77=> ?_) (fun h77=> ?_)
 refine G (Kt Z Z)<|G (Wb Z)<|U<|ZT Z<|Zk<|W<|Zr<|G (Zw aq H 1 Z Z Z)<|bg H 0 (#[J ck,J nx,J wt,.slice (Qd g) tx2.length c2]) aA Z Z Z Z Z N N fun w16 H=>G (Wi Z)<|U<|Zt ?_
 have hE:eL 3 t=some t:=by unfold eL;rw[if_neg I,if_neg I,if_pos I]
 rw[hE]
 dsimp only
 exact bG (cs0:= #[J ck,J nx,J wt,.slice (Qd g) tx2.length c2]) (v1:=J 0) Z aq Z (H.ent (i:=0) Z) Z Z ⟨⟨ck,nx,wt,tx2,some ⟨g,0,none⟩,c2⟩,[(g,.cells cur cI (0,0))],Lp,rfl,by unfold Co.a;dsimp only;rw[iO ht,hma],dz.own row,hp2,hoc2,hpc2,H.forget (.cons _ (.cons _ (ap _ _))) (by simp)⟩
 refine G (Kt Z Z)<|G (Wb Z)<|U<|ZF Z<|W<|Zr<|G (bn (cs:= #[J 0,J 0,J 0,.slice none 0 0]) fz cM N)<|bg H 0 (#[J 0,J 0,J 0,.slice none 0 0]) aA Z Z Z Z Z N N fun w17 H=>G (Wi Z)<|U<|Zt ?_
 have hE:eL 3 t=none:=by unfold eL;rw[if_neg I,if_neg I,if_neg I]
 rw[hE]
 dsimp only
 exact bG (cs0:= #[J 0,J 0,J 0,.slice none 0 0]) (v1:=J 12) Z aq Z (H.ent (i:=0) Z) Z Z ⟨rfl,H.below⟩
 refine G (Yb Z)<|ZN<|ZN<|ZN<|ZN<|ZN<|ZN<|G (N Z Z)<|G (Wb Z)<|U<|ZF Z<|W<|Zr<|G (bn (cs:= #[J 0,J 0,J 0,.slice none 0 0]) fz cM N)<|bg H 0 (#[J 0,J 0,J 0,.slice none 0 0]) aA Z Z Z Z Z N N fun w18 H=>G (Wi Z)<|U<|Zt ?_
 have hE:eL 3 t=none:=by unfold eL;rw[if_neg I,if_neg I,if_neg I]
 rw[hE]
 dsimp only
 exact bG (cs0:= #[J 0,J 0,J 0,.slice none 0 0]) (v1:=J 12) Z aq Z (H.ent (i:=0) Z) Z Z ⟨rfl,H.below⟩
theorem I6 (c:Co) (s:ByteArray) (ver:Int) (i:Nat) (t:Tx) (w:World) (h:c.rd 0 w.heap.size w) (hok:gi c=true) (hn:bQ s=true) (hi:fL c s=i) (ht:c.txs[i]? =some t) (hv:t.ver=ver):dg ab lQ [c.v,.string s,J ver,.bool false] w fun v w2=>match eL 4 t with|none=>v=.tuple #[.agg #[J 0,J 0,J 0,.slice none 0 0],J 12]/\Below w.heap.size w w2|some t'=> ∃ (c':Co) (Lr Lp:List (Nat×Obj)),v=.tuple #[c'.v,J 0]/\qi w w2 (Co.a {c with txs:=c.txs.set i t'}) c' Lr Lp:=by
 refine aF pz Z Z ?_
 have hcap:=h.cap
 have hfew:=h.few
 have hfp:=h.fewP
 have H:=Hp.startCo h
 obtain⟨ck,nx,wt,txs,cA,cc⟩:=c
 dsimp only at hcap hfew hfp H
 show CW _ _ _ _ (args [.agg #[J ck,J nx,J wt,.slice cA txs.length cc],.string s,J ver,.bool false]) w
 dsimp only at ht⊢
 refine W<|Zr<|fW H Z Z fun w1 b4 H=>eI H cM Z fun w2 b8 H=>G (Wi Z)<|U<|W<|Zr<|G (Zw aq H 1 Z Z Z)<|G (Yt Z)<|G (Yi Z)<|ch gD (wn ⟨ck,nx,wt,txs,cA,cc⟩ s ver i t _ ⟨H.rd0 0 Z,fun t ht=>fx H 1 Z ht,hcap,hfew,hfp⟩ hok hn hi ht hv) Z Z ?_
 rintro _ w3 ⟨⟨ck2,nx2,wt2,tx2,A2,c2⟩,Lr,Lp,rfl,ha2,ho2,hp2,hoc2,hpc2,hj2⟩
 replace H:=H.joinR hj2;clear hj2
 simp only[Co.a,Co.mk.injEq]at ha2
 obtain⟨e1,e2,e3,hma,-,-⟩:=ha2
 obtain rfl:ck=ck2:=e1.symm
 obtain rfl:nx=nx2:=e2.symm
 obtain rfl:wt=wt2:=e3.symm
 dsimp only at ho2 hp2 hoc2 hpc2 H
 refine G (Yu Z)<|G (Xa Z Z)<|G (Xi Z Z)<|G (Xi Z Z)<|bg H 1 (#[J ck,J nx,J wt,.slice A2 tx2.length c2]) aA Z Z Z Z Z N N fun w4 H=>G (Wi Z)<|G (Wi Z)<|U<|W<|W<|Zr<|G (Yi Z)<|G (ce Z Z Z)<|U<|ZF Z<|Zk<|W<|Zr<|G (Wi Z)<|U<|W<|W<|Zr<|G (Yb Z)<|U<|ZF Z<|Zk<|W<|W ?_
 obtain⟨t2,ht2,hta⟩:=qU hma ht
 have hl2:=(bT ht2).1
 obtain⟨g,cur,rfl,rfl,row⟩:=ho2.row I
 have hst:t2.state=t.state:=by show t2.a.state=t.a.state;rw[hta]
 have hdn:t2.done=t.done:=by show t2.a.done=t.a.done;rw[hta]
 refine Zr<|G (Zf cR Z)<|G (Zd dP H 1 Z Z Z)<|G (Yi Z)<|G (bV gH Z Z I)<|G (Wp Z)<|U<|Zb<|W<|Zr<|G (Yp Z)<|G (aG Z)<|G (Zf cT Z)<|G (bf ak row ht2 3 Z (H.ent (i:=2) Z) Z) ?_
 refine cW (bp Z Z) Z Z Z (fun h37=> ?_) (fun h37=> ?_)
 refine G (Wb Z)<|U<|ZT Z<|Zr<|G (Yp Z)<|G (Yi Z)<|G (aG Z)<|G (Zf cT Z)<|im H 2 ({t2 with state:=4}) bw row ht2 3 Z Z Z Z Z Z N fun w6 cur5 row5 H=>U<|W<|Zr<|G (Zw aq H 1 Z Z Z)<|bg H 0 (#[J ck,J nx,J wt,.slice (Qd g) tx2.length c2]) aA Z Z Z Z Z N N fun w7 H=>G (Wi Z)<|U<|Zt ?_
 have hE:eL 4 t=some {t with state:=4}:=by unfold eL;rw[if_pos I]
 rw[hE]
 dsimp only
 exact bG (cs0:= #[J ck,J nx,J wt,.slice (Qd g) tx2.length c2]) (v1:=J 0) Z aq Z (H.ent (i:=0) Z) Z Z ⟨⟨ck,nx,wt,(tx2.set i {t2 with state:=4}),some ⟨g,0,none⟩,c2⟩,[(g,.cells cur5 cI (0,0))],Lp,by unfold Co.v Co.c;dsimp only;rw[aa],by unfold Co.a;dsimp only;rw[fm hma i (HQ hta _)],dz.own row5,hp2.same ht2 Z Z Z,by dsimp only;rw[aa];exact hoc2,dD hpc2 ht2 Z Z,H.forget (.cons _ (.cons _ (ap _ _))) (by simp)⟩
 refine G (Wb Z)<|U<|ZF Z<|W<|Zr<|G (Yp Z)<|G (aG Z)<|G (Zf cT Z)<|G (bf ak row ht2 3 Z (H.ent (i:=2) Z) Z) ?_
 refine cW (bp Z Z) Z Z Z (fun h47=> ?_) (fun h47=> ?_)
 refine G (Yb Z)<|ZG<|G (Yp Z)<|ZG<|G (aG Z)<|ZG<|G (Zf jg Z)<|ZG<|G (bf ak row ht2 6 Z (H.ent (i:=2) Z) Z)<|ZG ?_
 refine cW (bp Z Z) Z Z Z (fun h53=> ?_) (fun h53=> ?_)
 refine G (Kt Z Z)<|G (Wb Z)<|U<|ZT Z<|Zr<|G (Yp Z)<|G (Yi Z)<|G (aG Z)<|G (Zf jg Z)<|im H 2 ({t2 with done:=4}) bw row ht2 6 Z Z Z Z Z Z N fun w9 cur8 row8 H=>U<|W<|Zr<|G (Zw aq H 1 Z Z Z)<|bg H 0 (#[J ck,J nx,J wt,.slice (Qd g) tx2.length c2]) aA Z Z Z Z Z N N fun w10 H=>G (Wi Z)<|U<|Zt ?_
 have hE:eL 4 t=some {t with done:=4}:=by unfold eL;rw[if_neg I,if_pos I]
 rw[hE]
 dsimp only
 exact bG (cs0:= #[J ck,J nx,J wt,.slice (Qd g) tx2.length c2]) (v1:=J 0) Z aq Z (H.ent (i:=0) Z) Z Z ⟨⟨ck,nx,wt,(tx2.set i {t2 with done:=4}),some ⟨g,0,none⟩,c2⟩,[(g,.cells cur8 cI (0,0))],Lp,by unfold Co.v Co.c;dsimp only;rw[aa],by unfold Co.a;dsimp only;rw[fm hma i (LH hta _)],dz.own row8,hp2.same ht2 Z Z Z,by dsimp only;rw[aa];exact hoc2,dD hpc2 ht2 Z Z,H.forget (.cons _ (.cons _ (ap _ _))) (by simp)⟩
 refine G (Kt Z Z)<|G (Wb Z)<|U<|ZF Z<|W<|W<|Zr<|G (Yp Z)<|G (aG Z)<|G (Zf cT Z)<|G (bf ak row ht2 3 Z (H.ent (i:=2) Z) Z)<|G (Yi Z) ?_
 refine cW (bp Z Z) Z Z Z (fun h65=> ?_) (fun h65=> ?_)
 refine G (Wb Z)<|U<|ZT Z<|Zk<|ZT Z<|Zk<|W<|Zr<|G (Zw aq H 1 Z Z Z)<|bg H 0 (#[J ck,J nx,J wt,.slice (Qd g) tx2.length c2]) aA Z Z Z Z Z N N fun w11 H=>G (Wi Z)<|U<|Zt ?_
 have hE:eL 4 t=some t:=by unfold eL;rw[if_neg I,if_neg I,if_pos I]
 rw[hE]
 dsimp only
 exact bG (cs0:= #[J ck,J nx,J wt,.slice (Qd g) tx2.length c2]) (v1:=J 0) Z aq Z (H.ent (i:=0) Z) Z Z ⟨⟨ck,nx,wt,tx2,some ⟨g,0,none⟩,c2⟩,[(g,.cells cur cI (0,0))],Lp,rfl,by unfold Co.a;dsimp only;rw[iO ht,hma],dz.own row,hp2,hoc2,hpc2,H.forget (.cons _ (.cons _ (ap _ _))) (by simp)⟩
 refine G (Wb Z)<|U<|ZF Z<|Zr<|G (Yp Z)<|G (aG Z)<|G (Zf cT Z)<|G (bf ak row ht2 3 Z (H.ent (i:=2) Z) Z) ?_
 refine cW (bp Z Z) Z Z Z (fun h70=> ?_) (fun h70=> ?_)
 refine G (Yb Z)<|ZG<|G (Yp Z)<|ZG<|G (aG Z)<|ZG<|G (Zf jg Z)<|ZG<|G (bf ak row ht2 6 Z (H.ent (i:=2) Z) Z)<|ZG<|G (Yi Z)<|ZG ?_
 refine cW (bp Z Z) Z Z Z (fun h77=> ?_) (fun h77=> ?_)
 refine G (Kt Z Z)<|G (Wb Z)<|U<|ZT Z<|Zk<|W<|Zr<|G (Zw aq H 1 Z Z Z)<|bg H 0 (#[J ck,J nx,J wt,.slice (Qd g) tx2.length c2]) aA Z Z Z Z Z N N fun w12 H=>G (Wi Z)<|U<|Zt ?_
 have hE:eL 4 t=some t:=by unfold eL;rw[if_neg I,if_neg I,if_pos I]
 rw[hE]
 dsimp only
 exact bG (cs0:= #[J ck,J nx,J wt,.slice (Qd g) tx2.length c2]) (v1:=J 0) Z aq Z (H.ent (i:=0) Z) Z Z ⟨⟨ck,nx,wt,tx2,some ⟨g,0,none⟩,c2⟩,[(g,.cells cur cI (0,0))],Lp,rfl,by unfold Co.a;dsimp only;rw[iO ht,hma],dz.own row,hp2,hoc2,hpc2,H.forget (.cons _ (.cons _ (ap _ _))) (by simp)⟩
 refine G (Kt Z Z)<|G (Wb Z)<|U<|ZF Z<|W<|Zr<|G (bn (cs:= #[J 0,J 0,J 0,.slice none 0 0]) fz cM N)<|bg H 0 (#[J 0,J 0,J 0,.slice none 0 0]) aA Z Z Z Z Z N N fun w13 H=>G (Wi Z)<|U<|Zt ?_
 have hE:eL 4 t=none:=by unfold eL;rw[if_neg I,if_neg I,if_neg I]
 rw[hE]
 dsimp only
 exact bG (cs0:= #[J 0,J 0,J 0,.slice none 0 0]) (v1:=J 12) Z aq Z (H.ent (i:=0) Z) Z Z ⟨rfl,H.below⟩
 refine G (Yb Z)<|ZN<|ZN<|ZN<|ZN<|ZN<|ZN<|G (N Z Z)<|G (Wb Z)<|U<|ZF Z<|W<|Zr<|G (bn (cs:= #[J 0,J 0,J 0,.slice none 0 0]) fz cM N)<|bg H 0 (#[J 0,J 0,J 0,.slice none 0 0]) aA Z Z Z Z Z N N fun w14 H=>G (Wi Z)<|U<|Zt ?_
 have hE:eL 4 t=none:=by unfold eL;rw[if_neg I,if_neg I,if_neg I]
 rw[hE]
 dsimp only
 exact bG (cs0:= #[J 0,J 0,J 0,.slice none 0 0]) (v1:=J 12) Z aq Z (H.ent (i:=0) Z) Z Z ⟨rfl,H.below⟩
 refine G (Yb Z)<|ZN<|ZN<|ZN<|ZN<|ZN<|G (N Z Z)<|G (Wb Z)<|U<|ZF Z<|W<|W<|Zr<|G (Yp Z)<|G (aG Z)<|G (Zf cT Z)<|G (bf ak row ht2 3 Z (H.ent (i:=2) Z) Z)<|G (Yi Z) ?_
 refine cW (bp Z Z) Z Z Z (fun h65=> ?_) (fun h65=> ?_)
 refine G (Wb Z)<|U<|ZT Z<|Zk<|ZT Z<|Zk<|W<|Zr<|G (Zw aq H 1 Z Z Z)<|bg H 0 (#[J ck,J nx,J wt,.slice (Qd g) tx2.length c2]) aA Z Z Z Z Z N N fun w15 H=>G (Wi Z)<|U<|Zt ?_
 have hE:eL 4 t=some t:=by unfold eL;rw[if_neg I,if_neg I,if_pos I]
 rw[hE]
 dsimp only
 exact bG (cs0:= #[J ck,J nx,J wt,.slice (Qd g) tx2.length c2]) (v1:=J 0) Z aq Z (H.ent (i:=0) Z) Z Z ⟨⟨ck,nx,wt,tx2,some ⟨g,0,none⟩,c2⟩,[(g,.cells cur cI (0,0))],Lp,rfl,by unfold Co.a;dsimp only;rw[iO ht,hma],dz.own row,hp2,hoc2,hpc2,H.forget (.cons _ (.cons _ (ap _ _))) (by simp)⟩
 refine G (Wb Z)<|U<|ZF Z<|Zr<|G (Yp Z)<|G (aG Z)<|G (Zf cT Z)<|G (bf ak row ht2 3 Z (H.ent (i:=2) Z) Z) ?_
 refine cW (bp Z Z) Z Z Z (fun h70=> ?_) (fun h70=> ?_)
 refine G (Yb Z)<|ZG<|G (Yp Z)<|ZG<|G (aG Z)<|ZG<|G (Zf jg Z)<|ZG<|G (bf ak row ht2 6 Z (H.ent (i:=2) Z) Z)<|ZG<|G (Yi Z)<|ZG ?_
 refine cW (bp Z Z) Z Z Z (fun h77=> ?_) (fun h77=> ?_)
 refine G (Kt Z Z)<|G (Wb Z)<|U<|ZT Z<|Zk<|W<|Zr<|G (Zw aq H 1 Z Z Z)<|bg H 0 (#[J ck,J nx,J wt,.slice (Qd g) tx2.length c2]) aA Z Z Z Z Z N N fun w16 H=>G (Wi Z)<|U<|Zt ?_
 have hE:eL 4 t=some t:=by unfold eL;rw[if_neg I,if_neg I,if_pos I]
 rw[hE]
 dsimp only
 exact bG (cs0:= #[J ck,J nx,J wt,.slice (Qd g) tx2.length c2]) (v1:=J 0) Z aq Z (H.ent (i:=0) Z) Z Z ⟨⟨ck,nx,wt,tx2,some ⟨g,0,none⟩,c2⟩,[(g,.cells cur cI (0,0))],Lp,rfl,by unfold Co.a;dsimp only;rw[iO ht,hma],dz.own row,hp2,hoc2,hpc2,H.forget (.cons _ (.cons _ (ap _ _))) (by simp)⟩
 refine G (Kt Z Z)<|G (Wb Z)<|U<|ZF Z<|W<|Zr<|G (bn (cs:= #[J 0,J 0,J 0,.slice none 0 0]) fz cM N)<|bg H 0 (#[J 0,J 0,J 0,.slice none 0 0]) aA Z Z Z Z Z N N fun w17 H=>G (Wi Z)<|U<|Zt ?_
 have hE:eL 4 t=none:=by unfold eL;rw[if_neg I,if_neg I,if_neg I]
 rw[hE]
 dsimp only
 exact bG (cs0:= #[J 0,J 0,J 0,.slice none 0 0]) (v1:=J 12) Z aq Z (H.ent (i:=0) Z) Z Z ⟨rfl,H.below⟩
 refine G (Yb Z)<|ZN<|ZN<|ZN<|ZN<|ZN<|ZN<|G (N Z Z)<|G (Wb Z)<|U<|ZF Z<|W<|Zr<|G (bn (cs:= #[J 0,J 0,J 0,.slice none 0 0]) fz cM N)<|bg H 0 (#[J 0,J 0,J 0,.slice none 0 0]) aA Z Z Z Z Z N N fun w18 H=>G (Wi Z)<|U<|Zt ?_
 have hE:eL 4 t=none:=by unfold eL;rw[if_neg I,if_neg I,if_neg I]
 rw[hE]
 dsimp only
 exact bG (cs0:= #[J 0,J 0,J 0,.slice none 0 0]) (v1:=J 12) Z aq Z (H.ent (i:=0) Z) Z Z ⟨rfl,H.below⟩
/-- P5.7: what a tick does to one producer's transaction -/
def fp (clock wait:Int) (t:Tx):Tx:=if t.state=2/\wait<=clock-t.since/\t.ver<1073741824 then{t with state:=4,ver:=t.ver+1}else t
theorem JM (ck wt:Int) (t:Tx):(fp ck wt t).a=fp ck wt t.a:=by
 unfold fp
 by_cases h:t.state=2/\wt<=ck-t.since/\t.ver<1073741824
 rw[if_pos h,if_pos (show t.a.state=2/\wt<=ck-t.a.since/\t.a.ver<1073741824 from h)];rfl
 rw[if_neg h,if_neg (show¬ (t.a.state=2/\wt<=ck-t.a.since/\t.a.ver<1073741824)from h)]
theorem B4 (ck wt:Int) (t:Tx):(fp ck wt t).A=t.A/\(fp ck wt t).parts=t.parts/\(fp ck wt t).cap=t.cap:=by
 unfold fp
 split<;>exact⟨rfl,rfl,rfl⟩
theorem eC.tick (ck wt:Int): ∀ {ts:List Tx} {L:List (Nat×Obj)},eC ts L->eC (ts.map (fp ck wt)) L
 |[],_,h=>h
 |t::_,_,⟨L1,L2,h1,h2,h3⟩=>⟨L1,L2,h1,by obtain⟨a,b,c⟩:=B4 ck wt t;rw[a,b,c];exact h2,eC.tick ck wt h3⟩
def mi (ck wt:Int) (ts:List Tx) (k:Nat):List Tx:=(ts.take k).map (fp ck wt)++ts.drop k
theorem zl (ck wt:Int) (ts:List Tx) (k:Nat):(mi ck wt ts k).length=ts.length:=by
 unfold mi;simp;omega
theorem Ia {ck wt:Int} {ts:List Tx} {k:Nat} {x:Tx} (h:ts[k]? =some x):(mi ck wt ts k)[k]? =some x:=by
 have:=(bT h).1
 unfold mi
 rw[cC (by simp;omega)]
 simp
 rw[show k-min k ts.length=0 by omega]
 simpa using h
theorem r9 {ck wt:Int} {ts:List Tx} {k:Nat} {x:Tx} (h:ts[k]? =some x):(mi ck wt ts k).set k (fp ck wt x)=mi ck wt ts (k+1):=by
 have hl:=(bT h).1
 unfold mi
 rw[fi h,cP h,bo,jc _ _ (by simp;omega)]
 simp
 rw[show k-min k ts.length=0 by omega]
 simp
theorem ub {ck nx:Int}: ∀ {l pre:List Tx},nT ck nx pre l=true-> ∀ t∈l,fH ck nx t=true
 |[],_,_,_,ht=>by cases ht
 |x::l,pre,h,t,ht=>by
  unfold nT at h
  simp only[aR]at h
  rcases ay.1 ht with rfl|ht
  exact h.1.1
  exact ub h.2 t ht
def vv (c:Co) (n:Int):Co:={c with clock:=c.clock+n,txs:=c.txs.map (fp (c.clock+n) c.wait)}
theorem LT (c:Co) (n:Int) (w:World) (h:c.rd 0 w.heap.size w) (hok:gi c=true) (hn0:0<=n) (hn1:n<=1000) (hcl:c.clock+n<=1073741824):dg ab su [c.v,J n] w fun v w2=> ∃ (c':Co) (Lr Lp:List (Nat×Obj)),v=.tuple #[c'.v,J 0]/\qi w w2 (vv c.a n) c' Lr Lp:=by
 refine aF u7 Z Z ?_
 have hcap:=h.cap
 have hfew:=h.few
 have hfp:=h.fewP
 have H:=Hp.startCo h
 obtain⟨ck,nx,wt,txs,cA,cc⟩:=c
 dsimp only at hcap hfew hfp H
 show CW _ _ _ _ (args [.agg #[J ck,J nx,J wt,.slice cA txs.length cc],J n]) w
 dsimp only at hcl
 obtain⟨q1,q2,q3,q4,q5,q6,q7⟩:=iW.1 hok
 dsimp only at q1 q2 q3 q4 q5 q6
 obtain⟨q8,q9⟩:=ur q1
 refine W<|Zr<|fW H Z Z fun w1 b2 H=>eI H cM Z fun w2 b4 H=>G (Wi Z)<|U<|W<|W<|Zr<|G (Zw aq H 1 Z Z Z)<|ch jh (nB ⟨ck,nx,wt,txs,cA,cc⟩ _ ⟨H.rd0 0 Z,fun t ht=>fx H 1 Z ht,hcap,hfew,hfp⟩) Z Z ?_
 rw[hok]
 rintro _ w3 ⟨rfl,hb⟩;replace H:=H.later hb;clear hb
 refine G (Wi Z)<|U<|W<|Zr<|G (Yi Z)<|G (ce Z Z Z)<|U<|ZF Z<|Zk<|W<|W<|Zr<|G (Yi Z)<|G (dd Z Z I)<|G (Yb Z)<|ZG<|G (Yi Z)<|ZG<|G (eA Z Z I)<|G (N Z Z)<|G (Yb Z)<|ZG<|G (Zf ko Z)<|ZG<|G (Zd ak H 1 Z Z Z)<|ZG<|G (Yi Z)<|ZG<|G (bz Z Z I I)<|ZG<|G (eA Z Z I)<|G (N Z Z)<|U<|ZF Z<|Zk<|W<|Zr<|G (Zw aq H 1 Z Z Z)<|ch i8 (sH ⟨ck,nx,wt,txs,cA,cc⟩ _ ⟨H.rd0 0 Z,fun t ht=>fx H 1 Z ht,hcap,hfew,hfp⟩) Z Z ?_
 rintro _ w4 ⟨⟨ck2,nx2,wt2,tx2,A2,c2⟩,Lr,Lp,rfl,ha2,ho2,hp2,hoc2,hpc2,hj2⟩
 replace H:=H.joinR hj2;clear hj2
 simp only[Co.a,Co.mk.injEq]at ha2
 obtain⟨e1,e2,e3,hma,-,-⟩:=ha2
 obtain rfl:ck=ck2:=e1.symm
 obtain rfl:nx=nx2:=e2.symm
 obtain rfl:wt=wt2:=e3.symm
 dsimp only at ho2 hp2 hoc2 hpc2 H
 have hlen2:tx2.length=txs.length:=by have:=congrArg cB hma;simpa using this
 refine bg H 1 (#[J ck,J nx,J wt,.slice A2 tx2.length c2]) aA Z Z Z Z Z N N fun w5 H=>U<|W<|Zr<|G (Zf ko Z)<|G (Zd ak H 1 Z Z Z)<|G (Yi Z)<|G (bz Z Z I I)<|G (Zf ko Z)<|bg H 1 (#[J (ck+n),J nx,J wt,.slice A2 tx2.length c2]) bw Z Z Z Z Z N N fun w6 H=>U<|W<|W<|Zr<|G (Zf cR Z)<|G (Zd dP H 1 Z Z Z)<|G (br lh Z)<|G (Yi Z)<|U<|Zb ?_
 refine cy (τ:=Nat×Option Addr) [7,8,39,40,41,42,43,44,45,46,47,48,49,50,51,52,53,54,55,56,57,58,59,60,61,62,63,64,65,66,67,68,69,70,71,72,73,74,75,76,77,78,79,80] (fun(k,_)=>[(39,J (k:Nat))]) (fun(k,A2) w'=>k<=tx2.length/\ ∃ L',gm rB (.slice A2 (mi (ck+n) wt tx2 k).length c2) cI (mi (ck+n) wt tx2 k) L'/\Hp w w' ([(b4,.cells #[J 0,J 0,J 0,.slice none 0 0] bk (0,0)),(b2,.cells #[J (ck+n),J nx,J wt,.slice A2 tx2.length c2] bk (0,0))]++L'++(Lp++[])) [dT rB 0 w.heap.size cA txs,iH 0 w.heap.size txs]) (fun(k,_)=>tx2.length-k) (0,A2) ⟨by omega,Lr,by unfold mi;simpa using ho2,by show Hp w _ (_::_::(Lr++(Lp++[]))) _;rw[<-aE];exact H⟩ (dJ Z) ?_
 rintro⟨k,A2⟩ ρ1 w7 ⟨hk,L1,ho,H⟩
 show CW _ _ _ _ (dH (gJ _ _ ρ1) [(39,J (k:Nat))]) w7
 refine W<|Zr ?_
 refine cW (cK Z Z) Z Z Z (fun h40=> ?_) (fun h40=> ?_)
 refine U<|W<|ZT Z<|Zk<|W<|Zb<|W ?_
 obtain⟨x,hxt⟩: ∃ x,tx2[k]? =some x:=⟨_,ai I⟩
 have hx:=Ia (ck:=ck+n) (wt:=wt) hxt
 have htl:=zl (ck+n) wt tx2 k
 obtain⟨g,cur,rfl,rfl,row⟩:=ho.row I
 obtain⟨t,ht,hta⟩:=qU hma.symm hxt
 have hxo:fH ck nx x=true:=by have h1:fH ck nx t.a=true:=ub q7 t (ah ht);rw[hta]at h1;exact h1
 obtain⟨a1,a2,a3,a4,a5,a6,a7,a8,a9,a10,a11⟩:=cF.1 hxo
 obtain⟨v1,v2⟩:=ur a4
 refine Zr<|G (Yi Z)<|G (Wi Z)<|U<|W<|Zr<|G (Zf cR Z)<|G (Zd dP H 1 Z Z Z)<|G (Yi Z)<|G (bV gH Z Z I)<|G (Wp Z)<|U<|W ?_
 refine bD ci [0,1,2,3,4,5,6,7,8,9,10,11,12,13,14,15,16,17,18,19,20,21,22,23] [] [] [0,1,2,4,5,6,8,9,10,12,13,15,16,17,18,19,20,22,23] (sp []) N N N N Nq (cJ _) ?_
 refine aw Z Z Z Z Z (fun w' hw'=>Yp Z)<|aw Z Z Z Z Z (fun w' hw'=>aG Z)<|aw Z Z Z Z Z (fun w' hw'=>Zf cT Z)<|aw Z Z Z Z Z (fun w' hw'=>bf ak row hx 3 Z ((H.later hw').ent (i:=2) Z) Z) ?_
 refine AY Z Z Z Z Z (fun w' hw'=>bp Z Z) (fun h50=> ?_) (fun h50=> ?_)
 refine aw Z Z Z Z Z (fun w' hw'=>Yb Z)<|aw Z Z Z Z Z (fun w' hw'=>Zf ko Z)<|aw Z Z Z Z Z (fun w' hw'=>aX ak Z (aD ((H.later hw').ent (i:=1) Z) Z))<|aw Z Z Z Z Z (fun w' hw'=>Yp Z)<|aw Z Z Z Z Z (fun w' hw'=>aG Z)<|aw Z Z Z Z Z (fun w' hw'=>Zf tQ Z)<|aw Z Z Z Z Z (fun w' hw'=>bf ak row hx 5 Z ((H.later hw').ent (i:=2) Z) Z)<|aw Z Z Z Z Z (fun w' hw'=>mW Z Z I I)<|aw Z Z Z Z Z (fun w' hw'=>Zf vK Z)<|aw Z Z Z Z Z (fun w' hw'=>aX ak Z (aD ((H.later hw').ent (i:=1) Z) Z)) ?_
 refine AY Z Z Z Z Z (fun w' hw'=>kf Z Z) (fun h61=> ?_) (fun h61=> ?_)
 refine aw Z Z Z Z Z (fun w' hw'=>Kt Z Z)<|aw Z Z Z Z Z (fun w' hw'=>Yb Z)<|aw Z Z Z Z Z (fun w' hw'=>Yp Z)<|aw Z Z Z Z Z (fun w' hw'=>aG Z)<|aw Z Z Z Z Z (fun w' hw'=>Zf gz Z)<|aw Z Z Z Z Z (fun w' hw'=>bf ak row hx 2 Z ((H.later hw').ent (i:=2) Z) Z) ?_
 refine AY Z Z Z Z Z (fun w' hw'=>cK Z Z) (fun h68=> ?_) (fun h68=> ?_)
 refine aw Z Z Z Z Z (fun w' hw'=>Kt Z Z)<|aQ ?_
 intro w8 hw' hF
 replace H:=H.later hw';clear hw' hF
 refine U<|ZT Z<|W<|Zr<|G (Yp Z)<|G (aG Z)<|G (Zf cT Z)<|im H 2 ({x with state:=4}) bw row hx 3 Z Z Z Z Z Z N fun w10 cur9 row9 H=>U ?_
 have hx2:((mi (ck+n) wt tx2 k).set k {x with state:=4})[k]? =some {x with state:=4}:=ae I
 have hv2:({x with state:=4}:Tx).ver=x.ver:=rfl
 refine Zr<|G (Yp Z)<|G (aG Z)<|G (Zf gz Z)<|G (bf ak row9 hx2 2 Z (H.ent (i:=2) Z) Z)<|G (bz Z Z I I)<|G (aG Z)<|G (Zf gz Z)<|im H 2 ({x with state:=4,ver:=x.ver+1}) bw row9 hx2 2 Z Z Z Z Z Z N fun w12 cur11 row11 H=>U<|Zr<|G (bz Z Z I I)<|G (Yi Z)<|U ?_
 have hT:fp (ck+n) wt x={x with state:=4,ver:=x.ver+1}:=by unfold fp;rw[if_pos I]
 have hS:=r9 (ck:=ck+n) (wt:=wt) hxt
 rw[hT]at hS
 refine⟨(k+1,some ⟨g,0,none⟩),⟨by omega,_,by rw[<-hS];exact dz.own (by have:=row11;rwa[dK]at this),H⟩,dJ Z,Qg,by show tx2.length- (k+1)<tx2.length-k;omega⟩
 refine aw Z Z Z Z Z (fun w' hw'=>Kt Z Z)<|aQ ?_
 intro w13 hw' hF
 replace H:=H.later hw';clear hw' hF
 refine U<|ZF Z<|Zk<|Zr<|G (bz Z Z I I)<|G (Yi Z)<|U ?_
 have hT:fp (ck+n) wt x=x:=by unfold fp;rw[if_neg I]
 have hS:=r9 (ck:=ck+n) (wt:=wt) hxt
 rw[hT]at hS
 refine⟨(k+1,some ⟨g,0,none⟩),⟨by omega,_,by rw[<-hS];exact dz.own (by rw[iO hx];exact row),H⟩,dJ Z,Qg,by show tx2.length- (k+1)<tx2.length-k;omega⟩
 refine aw Z Z Z Z Z (fun w' hw'=>Kt Z Z)<|aw Z Z Z Z Z (fun w' hw'=>Yb Z)<|eU Z Z Z Z<|eU Z Z Z Z<|eU Z Z Z Z<|eU Z Z Z Z<|eU Z Z Z Z<|aw Z Z Z Z Z (fun w' hw'=>N Z Z)<|aQ ?_
 intro w14 hw' hF
 replace H:=H.later hw';clear hw' hF
 refine U<|ZF Z<|Zk<|Zr<|G (bz Z Z I I)<|G (Yi Z)<|U ?_
 have hT:fp (ck+n) wt x=x:=by unfold fp;rw[if_neg I]
 have hS:=r9 (ck:=ck+n) (wt:=wt) hxt
 rw[hT]at hS
 refine⟨(k+1,some ⟨g,0,none⟩),⟨by omega,_,by rw[<-hS];exact dz.own (by rw[iO hx];exact row),H⟩,dJ Z,Qg,by show tx2.length- (k+1)<tx2.length-k;omega⟩
 refine aw Z Z Z Z Z (fun w' hw'=>Yb Z)<|eU Z Z Z Z<|eU Z Z Z Z<|eU Z Z Z Z<|eU Z Z Z Z<|eU Z Z Z Z<|eU Z Z Z Z<|eU Z Z Z Z<|eU Z Z Z Z<|eU Z Z Z Z<|eU Z Z Z Z<|aw Z Z Z Z Z (fun w' hw'=>N Z Z)<|aw Z Z Z Z Z (fun w' hw'=>Yb Z)<|eU Z Z Z Z<|eU Z Z Z Z<|eU Z Z Z Z<|eU Z Z Z Z<|eU Z Z Z Z<|aw Z Z Z Z Z (fun w' hw'=>N Z Z)<|aQ ?_
 intro w15 hw' hF
 replace H:=H.later hw';clear hw' hF
 refine U<|ZF Z<|Zk<|Zr<|G (bz Z Z I I)<|G (Yi Z)<|U ?_
 have hT:fp (ck+n) wt x=x:=by unfold fp;rw[if_neg I]
 have hS:=r9 (ck:=ck+n) (wt:=wt) hxt
 rw[hT]at hS
 refine⟨(k+1,some ⟨g,0,none⟩),⟨by omega,_,by rw[<-hS];exact dz.own (by rw[iO hx];exact row),H⟩,dJ Z,Qg,by show tx2.length- (k+1)<tx2.length-k;omega⟩
 have hke:k=tx2.length:=by omega
 have hfin:mi (ck+n) wt tx2 k=tx2.map (fp (ck+n) wt):=by unfold mi;rw[hke,bZ,fv,aY]
 have hfl:(mi (ck+n) wt tx2 k).length=tx2.length:=zl _ _ _ _
 rw[hfin]at ho hfl
 have hTa:(tx2.map (fp (ck+n) wt)).map Tx.a=(txs.map Tx.a).map (fp (ck+n) wt):=by rw[<-hma,r5,r5];congr 1;funext t;exact JM _ _ t
 refine U<|W<|ZF Z<|Zx<|W<|Zr<|G (Zw aq H 1 Z Z Z)<|bg H 0 (#[J (ck+n),J nx,J wt,.slice A2 tx2.length c2]) aA Z Z Z Z Z N N fun w16 H=>G (Wi Z)<|U<|Zt ?_
 exact bG (cs0:= #[J (ck+n),J nx,J wt,.slice A2 tx2.length c2]) (v1:=J 0) Z aq Z (H.ent (i:=0) Z) Z Z ⟨⟨ck+n,nx,wt,tx2.map (fp (ck+n) wt),A2,c2⟩,L1,Lp,by unfold Co.v Co.c;dsimp only;rw[bI],by unfold Co.a vv;dsimp only;rw[hTa],ho,hp2.tick _ _,by dsimp only;rw[bI];exact hoc2,by intro t ht;obtain⟨y,hy,rfl⟩:=bB.1 ht;obtain⟨a,b,c⟩:=B4 (ck+n) wt y;rw[b,c];exact hpc2 y hy,by simpa using H.forget (.cons _ (.cons _ (ar _))) (F':=[]) (by simp)⟩
/-- P5.3: a producer that was there: its version rises, what is under way is aborted -/
def bx (t:Tx):Tx:=if t.state=2 then{t with state:=4,ver:=t.ver+1}else{t with ver:=t.ver+1}
theorem fD {t t':Tx} (h:t'.a=t.a):(bx t').a=(bx t).a:=by
 have h1:t'.state=t.state:=by show t'.a.state=t.a.state;rw[h]
 unfold bx
 by_cases hs:t.state=2
 rw[if_pos (h1.trans hs),if_pos hs]
 exact congrArg (fun x:Tx=>({x with state:=4,ver:=x.ver+1}:Tx)) h
 rw[if_neg (fun q=>hs (h1.symm.trans q)),if_neg hs]
 exact congrArg (fun x:Tx=>({x with ver:=x.ver+1}:Tx)) h
theorem GH (c:Co) (s:ByteArray) (i:Nat) (t:Tx) (w:World) (h:c.rd 0 w.heap.size w) (hok:gi c=true) (hn:bQ s=true) (hi:fL c s=i) (ht:c.txs[i]? =some t) (h3:t.state≠3) (h4:t.state≠4) (hv0:0<=t.ver) (hv:t.ver<1073741824):dg ab mu [c.v,.string s] w fun v w2=> ∃ (c':Co) (Lr Lp:List (Nat×Obj)),v=.tuple #[c'.v,J t.pid,J (t.ver+1),J 0]/\qi w w2 (Co.a {c with txs:=c.txs.set i (bx t)}) c' Lr Lp:=by
 refine aF nP Z Z ?_
 have hcap:=h.cap
 have hfew:=h.few
 have hfp:=h.fewP
 have H:=Hp.startCo h
 obtain⟨ck,nx,wt,txs,cA,cc⟩:=c
 dsimp only at hcap hfew hfp H
 show CW _ _ _ _ (args [.agg #[J ck,J nx,J wt,.slice cA txs.length cc],.string s]) w
 dsimp only at ht⊢
 refine W<|Zr<|fW H Z Z fun w1 b2 H=>eI H cM Z fun w2 b4 H=>G (Wi Z)<|G (Wi Z)<|G (Wi Z)<|U<|W<|Zr<|G (Zw aq H 1 Z Z Z)<|G (Yt Z)<|ch ie (lI ⟨ck,nx,wt,txs,cA,cc⟩ s _ ⟨H.rd0 0 Z,fun t ht=>fx H 1 Z ht,hcap,hfew,hfp⟩ hok hn) Z Z ?_
 rintro _ w3 ⟨⟨ck2,nx2,wt2,tx2,A2,c2⟩,Lr,Lp,rfl,ha2,ho2,hp2,hoc2,hpc2,hj2⟩
 replace H:=H.joinR hj2;clear hj2
 simp only[Co.a,Co.mk.injEq]at ha2
 obtain⟨e1,e2,e3,hma,-,-⟩:=ha2
 obtain rfl:ck=ck2:=e1.symm
 obtain rfl:nx=nx2:=e2.symm
 obtain rfl:wt=wt2:=e3.symm
 dsimp only at ho2 hp2 hoc2 hpc2 H
 rw[hi]
 refine G (Yu Z)<|G (Xa Z Z)<|G (Xi Z Z)<|G (Xi Z Z)<|bg H 1 (#[J ck,J nx,J wt,.slice A2 tx2.length c2]) aA Z Z Z Z Z N N fun w4 H=>G (Wi Z)<|G (Wi Z)<|U<|W<|W<|Zr<|G (Yi Z)<|G (ce Z Z Z)<|U<|ZF Z<|Zk<|W<|W<|Zr<|G (Yi Z)<|G (dd Z Z I)<|U<|ZF Z<|Zk<|W ?_
 obtain⟨t2,ht2,hta⟩:=qU hma ht
 have hl2:=(bT ht2).1
 obtain⟨g,cur,rfl,rfl,row⟩:=ho2.row I
 have hst:t2.state=t.state:=by show t2.a.state=t.a.state;rw[hta]
 have hdn:t2.done=t.done:=by show t2.a.done=t.a.done;rw[hta]
 have hver:t2.ver=t.ver:=by show t2.a.ver=t.a.ver;rw[hta]
 have hpid:t2.pid=t.pid:=by show t2.a.pid=t.a.pid;rw[hta]
 refine Zr<|G (Zf cR Z)<|G (Zd dP H 1 Z Z Z)<|G (Yi Z)<|G (bV gH Z Z I)<|G (Wp Z)<|U<|W<|Zb<|W<|Zr<|G (Yp Z)<|G (aG Z)<|G (Zf cT Z)<|G (bf ak row ht2 3 Z (H.ent (i:=2) Z) Z)<|G (nA Z Z I)<|G (Yb Z)<|ZG<|G (Yp Z)<|ZG<|G (aG Z)<|ZG<|G (Zf cT Z)<|ZG<|G (bf ak row ht2 3 Z (H.ent (i:=2) Z) Z)<|ZG<|G (nA Z Z I)<|G (N Z Z)<|G (Wb Z)<|U<|ZF Z<|W<|Zr<|G (Yp Z)<|G (aG Z)<|G (Zf gz Z)<|G (bf ak row ht2 2 Z (H.ent (i:=2) Z) Z)<|G (nA Z Z I)<|G (Wb Z)<|U ?_
 refine ZF Z<|W<|Zr<|G (Yp Z)<|G (aG Z)<|G (Zf cT Z)<|G (bf ak row ht2 3 Z (H.ent (i:=2) Z) Z) ?_
 refine cW (bp Z Z) Z Z Z (fun h81=> ?_) (fun h81=> ?_)
 refine G (Wb Z)<|U<|ZT Z<|Zr<|G (Yp Z)<|G (aG Z)<|G (Zf cT Z)<|im H 2 ({t2 with state:=4}) bw row ht2 3 Z Z Z Z Z Z N fun w6 cur5 row5 H=>U<|W ?_
 have ht3:(tx2.set i {t2 with state:=4})[i]? =some {t2 with state:=4}:=ae hl2
 have hv3:({t2 with state:=4}:Tx).ver=t2.ver:=rfl
 refine Zr<|G (Yp Z)<|G (aG Z)<|G (Zf gz Z)<|G (bf ak row5 ht3 2 Z (H.ent (i:=2) Z) Z)<|G (bz Z Z I I)<|G (aG Z)<|G (Zf gz Z)<|im H 2 ({t2 with state:=4,ver:=t2.ver+1}) bw row5 ht3 2 Z Z Z Z Z Z N fun w8 cur7 row7 H=>U<|W ?_
 have ht4:(tx2.set i {t2 with state:=4,ver:=t2.ver+1})[i]? =some {t2 with state:=4,ver:=t2.ver+1}:=ae hl2
 rw[dK]at row7
 refine kL ci [1,2,3,5,6,7] [0,4,8,9,10,11,12] [1,2,3,5,6,7] 7 N N N Nq ?_
 refine aw Z Z Z Z Z (fun w' hw'=>Yp Z)<|aw Z Z Z Z Z (fun w' hw'=>aG Z)<|aw Z Z Z Z Z (fun w' hw'=>Zf lj Z)<|aw Z Z Z Z Z (fun w' hw'=>Yp Z)<|aw Z Z Z Z Z (fun w' hw'=>aG Z)<|aw Z Z Z Z Z (fun w' hw'=>Zf gz Z)<|aQ ?_
 intro w9 hw';replace H:=H.later hw';clear hw'
 refine M6 0 4 8 N Z Z Z ?_ ?_ ?_
 refine G (Zw aq H 1 Z Z Z)<|U ?_
 refine M6 4 8 9 N Z Z Z ?_ ?_ ?_
 refine G (bf ak row7 ht4 1 Z (H.ent (i:=2) Z) Z)<|U ?_
 refine kF 8 9 N Z Z ?_ ?_
 refine G (bf ak row7 ht4 2 Z (H.ent (i:=2) Z) Z)<|U<|bu 9 N Z<|bg H 0 (#[J ck,J nx,J wt,.slice (Qd g) tx2.length c2]) aA Z Z Z Z Z N N fun w10 H=>U<|bu 10 N Z<|G (Wi Z)<|U<|bu 11 N Z<|G (Wi Z)<|U<|bu 12 N Z<|G (Wi Z)<|U<|aZ N<|Zt ?_
 have hI:bx t2={t2 with state:=4,ver:=t2.ver+1}:=by unfold bx;rw[if_pos I]
 exact dM (cs0:= #[J ck,J nx,J wt,.slice (Qd g) tx2.length c2]) (v1:=J t2.pid) (v2:=J (t2.ver+1)) (v3:=J 0) Z aq Z (H.ent (i:=0) Z) Z Z Z Z ⟨⟨ck,nx,wt,tx2.set i ({t2 with state:=4,ver:=t2.ver+1}),some ⟨g,0,none⟩,c2⟩,[(g,.cells cur7 cI (0,0))],Lp,by unfold Co.v Co.c;dsimp only;rw[aa,hpid,hver],by unfold Co.a;dsimp only;rw[fm hma i (show Tx.a ({t2 with state:=4,ver:=t2.ver+1})=(bx t).a by rw[<-hI];exact fD hta)],by dsimp only;exact dz.own row7,hp2.same ht2 Z Z Z,by dsimp only;rw[aa];exact hoc2,dD hpc2 ht2 Z Z,H.forget (.cons _ (.cons _ (ap _ _))) (by simp)⟩
 refine bg H 0 (#[J ck,J nx,J wt,.slice (Qd g) tx2.length c2]) aA Z Z Z Z Z N N fun w11 H=>U ?_
 refine kF 8 10 N Z Z ?_ ?_
 refine G (bf ak row7 ht4 2 Z (H.ent (i:=2) Z) Z)<|U<|bu 10 N Z<|G (Wi Z)<|U<|bu 11 N Z<|G (Wi Z)<|U<|bu 12 N Z<|G (Wi Z)<|U<|aZ N<|Zt ?_
 have hI:bx t2={t2 with state:=4,ver:=t2.ver+1}:=by unfold bx;rw[if_pos I]
 exact dM (cs0:= #[J ck,J nx,J wt,.slice (Qd g) tx2.length c2]) (v1:=J t2.pid) (v2:=J (t2.ver+1)) (v3:=J 0) Z aq Z (H.ent (i:=0) Z) Z Z Z Z ⟨⟨ck,nx,wt,tx2.set i ({t2 with state:=4,ver:=t2.ver+1}),some ⟨g,0,none⟩,c2⟩,[(g,.cells cur7 cI (0,0))],Lp,by unfold Co.v Co.c;dsimp only;rw[aa,hpid,hver],by unfold Co.a;dsimp only;rw[fm hma i (show Tx.a ({t2 with state:=4,ver:=t2.ver+1})=(bx t).a by rw[<-hI];exact fD hta)],by dsimp only;exact dz.own row7,hp2.same ht2 Z Z Z,by dsimp only;rw[aa];exact hoc2,dD hpc2 ht2 Z Z,H.forget (.cons _ (.cons _ (ap _ _))) (by simp)⟩
 refine G (Wi Z)<|U<|bu 8 N Z<|G (bf ak row7 ht4 2 Z (H.ent (i:=2) Z) Z)<|U<|bu 11 N Z<|G (Wi Z)<|U<|bu 12 N Z<|G (Wi Z)<|U<|aZ N<|Zt ?_
 have hI:bx t2={t2 with state:=4,ver:=t2.ver+1}:=by unfold bx;rw[if_pos I]
 exact dM (cs0:= #[J ck,J nx,J wt,.slice (Qd g) tx2.length c2]) (v1:=J t2.pid) (v2:=J (t2.ver+1)) (v3:=J 0) Z aq Z (H.ent (i:=0) Z) Z Z Z Z ⟨⟨ck,nx,wt,tx2.set i ({t2 with state:=4,ver:=t2.ver+1}),some ⟨g,0,none⟩,c2⟩,[(g,.cells cur7 cI (0,0))],Lp,by unfold Co.v Co.c;dsimp only;rw[aa,hpid,hver],by unfold Co.a;dsimp only;rw[fm hma i (show Tx.a ({t2 with state:=4,ver:=t2.ver+1})=(bx t).a by rw[<-hI];exact fD hta)],by dsimp only;exact dz.own row7,hp2.same ht2 Z Z Z,by dsimp only;rw[aa];exact hoc2,dD hpc2 ht2 Z Z,H.forget (.cons _ (.cons _ (ap _ _))) (by simp)⟩
 refine G (bf ak row7 ht4 2 Z (H.ent (i:=2) Z) Z)<|U ?_
 refine kF 4 9 N Z Z ?_ ?_
 refine G (bf ak row7 ht4 1 Z (H.ent (i:=2) Z) Z)<|U<|bu 9 N Z<|bg H 0 (#[J ck,J nx,J wt,.slice (Qd g) tx2.length c2]) aA Z Z Z Z Z N N fun w12 H=>U<|bu 10 N Z<|G (Wi Z)<|U<|bu 11 N Z<|G (Wi Z)<|U<|bu 12 N Z<|G (Wi Z)<|U<|aZ N<|Zt ?_
 have hI:bx t2={t2 with state:=4,ver:=t2.ver+1}:=by unfold bx;rw[if_pos I]
 exact dM (cs0:= #[J ck,J nx,J wt,.slice (Qd g) tx2.length c2]) (v1:=J t2.pid) (v2:=J (t2.ver+1)) (v3:=J 0) Z aq Z (H.ent (i:=0) Z) Z Z Z Z ⟨⟨ck,nx,wt,tx2.set i ({t2 with state:=4,ver:=t2.ver+1}),some ⟨g,0,none⟩,c2⟩,[(g,.cells cur7 cI (0,0))],Lp,by unfold Co.v Co.c;dsimp only;rw[aa,hpid,hver],by unfold Co.a;dsimp only;rw[fm hma i (show Tx.a ({t2 with state:=4,ver:=t2.ver+1})=(bx t).a by rw[<-hI];exact fD hta)],by dsimp only;exact dz.own row7,hp2.same ht2 Z Z Z,by dsimp only;rw[aa];exact hoc2,dD hpc2 ht2 Z Z,H.forget (.cons _ (.cons _ (ap _ _))) (by simp)⟩
 refine bg H 0 (#[J ck,J nx,J wt,.slice (Qd g) tx2.length c2]) aA Z Z Z Z Z N N fun w13 H=>U<|bu 4 N Z<|G (bf ak row7 ht4 1 Z (H.ent (i:=2) Z) Z)<|U<|bu 10 N Z<|G (Wi Z)<|U<|bu 11 N Z<|G (Wi Z)<|U<|bu 12 N Z<|G (Wi Z)<|U<|aZ N<|Zt ?_
 have hI:bx t2={t2 with state:=4,ver:=t2.ver+1}:=by unfold bx;rw[if_pos I]
 exact dM (cs0:= #[J ck,J nx,J wt,.slice (Qd g) tx2.length c2]) (v1:=J t2.pid) (v2:=J (t2.ver+1)) (v3:=J 0) Z aq Z (H.ent (i:=0) Z) Z Z Z Z ⟨⟨ck,nx,wt,tx2.set i ({t2 with state:=4,ver:=t2.ver+1}),some ⟨g,0,none⟩,c2⟩,[(g,.cells cur7 cI (0,0))],Lp,by unfold Co.v Co.c;dsimp only;rw[aa,hpid,hver],by unfold Co.a;dsimp only;rw[fm hma i (show Tx.a ({t2 with state:=4,ver:=t2.ver+1})=(bx t).a by rw[<-hI];exact fD hta)],by dsimp only;exact dz.own row7,hp2.same ht2 Z Z Z,by dsimp only;rw[aa];exact hoc2,dD hpc2 ht2 Z Z,H.forget (.cons _ (.cons _ (ap _ _))) (by simp)⟩
 refine bg H 0 (#[J ck,J nx,J wt,.slice (Qd g) tx2.length c2]) aA Z Z Z Z Z N N fun w14 H=>U ?_
 refine kF 4 8 N Z Z ?_ ?_
 refine G (bf ak row7 ht4 1 Z (H.ent (i:=2) Z) Z)<|U ?_
 refine kF 8 10 N Z Z ?_ ?_
 refine G (bf ak row7 ht4 2 Z (H.ent (i:=2) Z) Z)<|U<|bu 10 N Z<|G (Wi Z)<|U<|bu 11 N Z<|G (Wi Z)<|U<|bu 12 N Z<|G (Wi Z)<|U<|aZ N<|Zt ?_
 have hI:bx t2={t2 with state:=4,ver:=t2.ver+1}:=by unfold bx;rw[if_pos I]
 exact dM (cs0:= #[J ck,J nx,J wt,.slice (Qd g) tx2.length c2]) (v1:=J t2.pid) (v2:=J (t2.ver+1)) (v3:=J 0) Z aq Z (H.ent (i:=0) Z) Z Z Z Z ⟨⟨ck,nx,wt,tx2.set i ({t2 with state:=4,ver:=t2.ver+1}),some ⟨g,0,none⟩,c2⟩,[(g,.cells cur7 cI (0,0))],Lp,by unfold Co.v Co.c;dsimp only;rw[aa,hpid,hver],by unfold Co.a;dsimp only;rw[fm hma i (show Tx.a ({t2 with state:=4,ver:=t2.ver+1})=(bx t).a by rw[<-hI];exact fD hta)],by dsimp only;exact dz.own row7,hp2.same ht2 Z Z Z,by dsimp only;rw[aa];exact hoc2,dD hpc2 ht2 Z Z,H.forget (.cons _ (.cons _ (ap _ _))) (by simp)⟩
 refine G (Wi Z)<|U<|bu 8 N Z<|G (bf ak row7 ht4 2 Z (H.ent (i:=2) Z) Z)<|U<|bu 11 N Z<|G (Wi Z)<|U<|bu 12 N Z<|G (Wi Z)<|U<|aZ N<|Zt ?_
 have hI:bx t2={t2 with state:=4,ver:=t2.ver+1}:=by unfold bx;rw[if_pos I]
 exact dM (cs0:= #[J ck,J nx,J wt,.slice (Qd g) tx2.length c2]) (v1:=J t2.pid) (v2:=J (t2.ver+1)) (v3:=J 0) Z aq Z (H.ent (i:=0) Z) Z Z Z Z ⟨⟨ck,nx,wt,tx2.set i ({t2 with state:=4,ver:=t2.ver+1}),some ⟨g,0,none⟩,c2⟩,[(g,.cells cur7 cI (0,0))],Lp,by unfold Co.v Co.c;dsimp only;rw[aa,hpid,hver],by unfold Co.a;dsimp only;rw[fm hma i (show Tx.a ({t2 with state:=4,ver:=t2.ver+1})=(bx t).a by rw[<-hI];exact fD hta)],by dsimp only;exact dz.own row7,hp2.same ht2 Z Z Z,by dsimp only;rw[aa];exact hoc2,dD hpc2 ht2 Z Z,H.forget (.cons _ (.cons _ (ap _ _))) (by simp)⟩
 refine G (bf ak row7 ht4 2 Z (H.ent (i:=2) Z) Z)<|U<|bu 4 N Z<|G (bf ak row7 ht4 1 Z (H.ent (i:=2) Z) Z)<|U<|bu 10 N Z<|G (Wi Z)<|U<|bu 11 N Z<|G (Wi Z)<|U<|bu 12 N Z<|G (Wi Z)<|U<|aZ N<|Zt ?_
 have hI:bx t2={t2 with state:=4,ver:=t2.ver+1}:=by unfold bx;rw[if_pos I]
 exact dM (cs0:= #[J ck,J nx,J wt,.slice (Qd g) tx2.length c2]) (v1:=J t2.pid) (v2:=J (t2.ver+1)) (v3:=J 0) Z aq Z (H.ent (i:=0) Z) Z Z Z Z ⟨⟨ck,nx,wt,tx2.set i ({t2 with state:=4,ver:=t2.ver+1}),some ⟨g,0,none⟩,c2⟩,[(g,.cells cur7 cI (0,0))],Lp,by unfold Co.v Co.c;dsimp only;rw[aa,hpid,hver],by unfold Co.a;dsimp only;rw[fm hma i (show Tx.a ({t2 with state:=4,ver:=t2.ver+1})=(bx t).a by rw[<-hI];exact fD hta)],by dsimp only;exact dz.own row7,hp2.same ht2 Z Z Z,by dsimp only;rw[aa];exact hoc2,dD hpc2 ht2 Z Z,H.forget (.cons _ (.cons _ (ap _ _))) (by simp)⟩
 refine G (bf ak row7 ht4 1 Z (H.ent (i:=2) Z) Z)<|U ?_
 refine kF 0 8 N Z Z ?_ ?_
 refine G (Zw aq H 1 Z Z Z)<|U ?_
 refine kF 8 9 N Z Z ?_ ?_
 refine G (bf ak row7 ht4 2 Z (H.ent (i:=2) Z) Z)<|U<|bu 9 N Z<|bg H 0 (#[J ck,J nx,J wt,.slice (Qd g) tx2.length c2]) aA Z Z Z Z Z N N fun w15 H=>U<|bu 10 N Z<|G (Wi Z)<|U<|bu 11 N Z<|G (Wi Z)<|U<|bu 12 N Z<|G (Wi Z)<|U<|aZ N<|Zt ?_
 have hI:bx t2={t2 with state:=4,ver:=t2.ver+1}:=by unfold bx;rw[if_pos I]
 exact dM (cs0:= #[J ck,J nx,J wt,.slice (Qd g) tx2.length c2]) (v1:=J t2.pid) (v2:=J (t2.ver+1)) (v3:=J 0) Z aq Z (H.ent (i:=0) Z) Z Z Z Z ⟨⟨ck,nx,wt,tx2.set i ({t2 with state:=4,ver:=t2.ver+1}),some ⟨g,0,none⟩,c2⟩,[(g,.cells cur7 cI (0,0))],Lp,by unfold Co.v Co.c;dsimp only;rw[aa,hpid,hver],by unfold Co.a;dsimp only;rw[fm hma i (show Tx.a ({t2 with state:=4,ver:=t2.ver+1})=(bx t).a by rw[<-hI];exact fD hta)],by dsimp only;exact dz.own row7,hp2.same ht2 Z Z Z,by dsimp only;rw[aa];exact hoc2,dD hpc2 ht2 Z Z,H.forget (.cons _ (.cons _ (ap _ _))) (by simp)⟩
 refine bg H 0 (#[J ck,J nx,J wt,.slice (Qd g) tx2.length c2]) aA Z Z Z Z Z N N fun w16 H=>U ?_
 refine kF 8 10 N Z Z ?_ ?_
 refine G (bf ak row7 ht4 2 Z (H.ent (i:=2) Z) Z)<|U<|bu 10 N Z<|G (Wi Z)<|U<|bu 11 N Z<|G (Wi Z)<|U<|bu 12 N Z<|G (Wi Z)<|U<|aZ N<|Zt ?_
 have hI:bx t2={t2 with state:=4,ver:=t2.ver+1}:=by unfold bx;rw[if_pos I]
 exact dM (cs0:= #[J ck,J nx,J wt,.slice (Qd g) tx2.length c2]) (v1:=J t2.pid) (v2:=J (t2.ver+1)) (v3:=J 0) Z aq Z (H.ent (i:=0) Z) Z Z Z Z ⟨⟨ck,nx,wt,tx2.set i ({t2 with state:=4,ver:=t2.ver+1}),some ⟨g,0,none⟩,c2⟩,[(g,.cells cur7 cI (0,0))],Lp,by unfold Co.v Co.c;dsimp only;rw[aa,hpid,hver],by unfold Co.a;dsimp only;rw[fm hma i (show Tx.a ({t2 with state:=4,ver:=t2.ver+1})=(bx t).a by rw[<-hI];exact fD hta)],by dsimp only;exact dz.own row7,hp2.same ht2 Z Z Z,by dsimp only;rw[aa];exact hoc2,dD hpc2 ht2 Z Z,H.forget (.cons _ (.cons _ (ap _ _))) (by simp)⟩
 refine G (Wi Z)<|U<|bu 8 N Z<|G (bf ak row7 ht4 2 Z (H.ent (i:=2) Z) Z)<|U<|bu 11 N Z<|G (Wi Z)<|U<|bu 12 N Z<|G (Wi Z)<|U<|aZ N<|Zt ?_
 have hI:bx t2={t2 with state:=4,ver:=t2.ver+1}:=by unfold bx;rw[if_pos I]
 exact dM (cs0:= #[J ck,J nx,J wt,.slice (Qd g) tx2.length c2]) (v1:=J t2.pid) (v2:=J (t2.ver+1)) (v3:=J 0) Z aq Z (H.ent (i:=0) Z) Z Z Z Z ⟨⟨ck,nx,wt,tx2.set i ({t2 with state:=4,ver:=t2.ver+1}),some ⟨g,0,none⟩,c2⟩,[(g,.cells cur7 cI (0,0))],Lp,by unfold Co.v Co.c;dsimp only;rw[aa,hpid,hver],by unfold Co.a;dsimp only;rw[fm hma i (show Tx.a ({t2 with state:=4,ver:=t2.ver+1})=(bx t).a by rw[<-hI];exact fD hta)],by dsimp only;exact dz.own row7,hp2.same ht2 Z Z Z,by dsimp only;rw[aa];exact hoc2,dD hpc2 ht2 Z Z,H.forget (.cons _ (.cons _ (ap _ _))) (by simp)⟩
 refine G (bf ak row7 ht4 2 Z (H.ent (i:=2) Z) Z)<|U<|bu 0 N Z<|G (Zw aq H 1 Z Z Z)<|U<|bu 9 N Z<|bg H 0 (#[J ck,J nx,J wt,.slice (Qd g) tx2.length c2]) aA Z Z Z Z Z N N fun w17 H=>U<|bu 10 N Z<|G (Wi Z)<|U<|bu 11 N Z<|G (Wi Z)<|U<|bu 12 N Z<|G (Wi Z)<|U<|aZ N<|Zt ?_
 have hI:bx t2={t2 with state:=4,ver:=t2.ver+1}:=by unfold bx;rw[if_pos I]
 exact dM (cs0:= #[J ck,J nx,J wt,.slice (Qd g) tx2.length c2]) (v1:=J t2.pid) (v2:=J (t2.ver+1)) (v3:=J 0) Z aq Z (H.ent (i:=0) Z) Z Z Z Z ⟨⟨ck,nx,wt,tx2.set i ({t2 with state:=4,ver:=t2.ver+1}),some ⟨g,0,none⟩,c2⟩,[(g,.cells cur7 cI (0,0))],Lp,by unfold Co.v Co.c;dsimp only;rw[aa,hpid,hver],by unfold Co.a;dsimp only;rw[fm hma i (show Tx.a ({t2 with state:=4,ver:=t2.ver+1})=(bx t).a by rw[<-hI];exact fD hta)],by dsimp only;exact dz.own row7,hp2.same ht2 Z Z Z,by dsimp only;rw[aa];exact hoc2,dD hpc2 ht2 Z Z,H.forget (.cons _ (.cons _ (ap _ _))) (by simp)⟩
 refine G (bf ak row7 ht4 2 Z (H.ent (i:=2) Z) Z)<|U ?_
 refine kF 0 4 N Z Z ?_ ?_
 refine G (Zw aq H 1 Z Z Z)<|U ?_
 refine kF 4 9 N Z Z ?_ ?_
 refine G (bf ak row7 ht4 1 Z (H.ent (i:=2) Z) Z)<|U<|bu 9 N Z<|bg H 0 (#[J ck,J nx,J wt,.slice (Qd g) tx2.length c2]) aA Z Z Z Z Z N N fun w18 H=>U<|bu 10 N Z<|G (Wi Z)<|U<|bu 11 N Z<|G (Wi Z)<|U<|bu 12 N Z<|G (Wi Z)<|U<|aZ N<|Zt ?_
 have hI:bx t2={t2 with state:=4,ver:=t2.ver+1}:=by unfold bx;rw[if_pos I]
 exact dM (cs0:= #[J ck,J nx,J wt,.slice (Qd g) tx2.length c2]) (v1:=J t2.pid) (v2:=J (t2.ver+1)) (v3:=J 0) Z aq Z (H.ent (i:=0) Z) Z Z Z Z ⟨⟨ck,nx,wt,tx2.set i ({t2 with state:=4,ver:=t2.ver+1}),some ⟨g,0,none⟩,c2⟩,[(g,.cells cur7 cI (0,0))],Lp,by unfold Co.v Co.c;dsimp only;rw[aa,hpid,hver],by unfold Co.a;dsimp only;rw[fm hma i (show Tx.a ({t2 with state:=4,ver:=t2.ver+1})=(bx t).a by rw[<-hI];exact fD hta)],by dsimp only;exact dz.own row7,hp2.same ht2 Z Z Z,by dsimp only;rw[aa];exact hoc2,dD hpc2 ht2 Z Z,H.forget (.cons _ (.cons _ (ap _ _))) (by simp)⟩
 refine bg H 0 (#[J ck,J nx,J wt,.slice (Qd g) tx2.length c2]) aA Z Z Z Z Z N N fun w19 H=>U<|bu 4 N Z<|G (bf ak row7 ht4 1 Z (H.ent (i:=2) Z) Z)<|U<|bu 10 N Z<|G (Wi Z)<|U<|bu 11 N Z<|G (Wi Z)<|U<|bu 12 N Z<|G (Wi Z)<|U<|aZ N<|Zt ?_
 have hI:bx t2={t2 with state:=4,ver:=t2.ver+1}:=by unfold bx;rw[if_pos I]
 exact dM (cs0:= #[J ck,J nx,J wt,.slice (Qd g) tx2.length c2]) (v1:=J t2.pid) (v2:=J (t2.ver+1)) (v3:=J 0) Z aq Z (H.ent (i:=0) Z) Z Z Z Z ⟨⟨ck,nx,wt,tx2.set i ({t2 with state:=4,ver:=t2.ver+1}),some ⟨g,0,none⟩,c2⟩,[(g,.cells cur7 cI (0,0))],Lp,by unfold Co.v Co.c;dsimp only;rw[aa,hpid,hver],by unfold Co.a;dsimp only;rw[fm hma i (show Tx.a ({t2 with state:=4,ver:=t2.ver+1})=(bx t).a by rw[<-hI];exact fD hta)],by dsimp only;exact dz.own row7,hp2.same ht2 Z Z Z,by dsimp only;rw[aa];exact hoc2,dD hpc2 ht2 Z Z,H.forget (.cons _ (.cons _ (ap _ _))) (by simp)⟩
 refine G (bf ak row7 ht4 1 Z (H.ent (i:=2) Z) Z)<|U<|bu 0 N Z<|G (Zw aq H 1 Z Z Z)<|U<|bu 9 N Z<|bg H 0 (#[J ck,J nx,J wt,.slice (Qd g) tx2.length c2]) aA Z Z Z Z Z N N fun w20 H=>U<|bu 10 N Z<|G (Wi Z)<|U<|bu 11 N Z<|G (Wi Z)<|U<|bu 12 N Z<|G (Wi Z)<|U<|aZ N<|Zt ?_
 have hI:bx t2={t2 with state:=4,ver:=t2.ver+1}:=by unfold bx;rw[if_pos I]
 exact dM (cs0:= #[J ck,J nx,J wt,.slice (Qd g) tx2.length c2]) (v1:=J t2.pid) (v2:=J (t2.ver+1)) (v3:=J 0) Z aq Z (H.ent (i:=0) Z) Z Z Z Z ⟨⟨ck,nx,wt,tx2.set i ({t2 with state:=4,ver:=t2.ver+1}),some ⟨g,0,none⟩,c2⟩,[(g,.cells cur7 cI (0,0))],Lp,by unfold Co.v Co.c;dsimp only;rw[aa,hpid,hver],by unfold Co.a;dsimp only;rw[fm hma i (show Tx.a ({t2 with state:=4,ver:=t2.ver+1})=(bx t).a by rw[<-hI];exact fD hta)],by dsimp only;exact dz.own row7,hp2.same ht2 Z Z Z,by dsimp only;rw[aa];exact hoc2,dD hpc2 ht2 Z Z,H.forget (.cons _ (.cons _ (ap _ _))) (by simp)⟩
 refine G (Wb Z)<|U<|ZF Z<|Zk<|W<|Zr<|G (Yp Z)<|G (aG Z)<|G (Zf gz Z)<|G (bf ak row ht2 2 Z (H.ent (i:=2) Z) Z)<|G (bz Z Z I I)<|G (aG Z)<|G (Zf gz Z)<|im H 2 ({t2 with ver:=t2.ver+1}) bw row ht2 2 Z Z Z Z Z Z N fun w22 cur21 row21 H=>U<|W ?_
 have ht4:(tx2.set i {t2 with ver:=t2.ver+1})[i]? =some {t2 with ver:=t2.ver+1}:=ae hl2
 refine kL ci [1,2,3,5,6,7] [0,4,8,9,10,11,12] [1,2,3,5,6,7] 7 N N N Nq ?_
 refine aw Z Z Z Z Z (fun w' hw'=>Yp Z)<|aw Z Z Z Z Z (fun w' hw'=>aG Z)<|aw Z Z Z Z Z (fun w' hw'=>Zf lj Z)<|aw Z Z Z Z Z (fun w' hw'=>Yp Z)<|aw Z Z Z Z Z (fun w' hw'=>aG Z)<|aw Z Z Z Z Z (fun w' hw'=>Zf gz Z)<|aQ ?_
 intro w23 hw';replace H:=H.later hw';clear hw'
 refine M6 0 4 8 N Z Z Z ?_ ?_ ?_
 refine G (Zw aq H 1 Z Z Z)<|U ?_
 refine M6 4 8 9 N Z Z Z ?_ ?_ ?_
 refine G (bf ak row21 ht4 1 Z (H.ent (i:=2) Z) Z)<|U ?_
 refine kF 8 9 N Z Z ?_ ?_
 refine G (bf ak row21 ht4 2 Z (H.ent (i:=2) Z) Z)<|U<|bu 9 N Z<|bg H 0 (#[J ck,J nx,J wt,.slice (Qd g) tx2.length c2]) aA Z Z Z Z Z N N fun w24 H=>U<|bu 10 N Z<|G (Wi Z)<|U<|bu 11 N Z<|G (Wi Z)<|U<|bu 12 N Z<|G (Wi Z)<|U<|aZ N<|Zt ?_
 have hI:bx t2={t2 with ver:=t2.ver+1}:=by unfold bx;rw[if_neg I]
 exact dM (cs0:= #[J ck,J nx,J wt,.slice (Qd g) tx2.length c2]) (v1:=J t2.pid) (v2:=J (t2.ver+1)) (v3:=J 0) Z aq Z (H.ent (i:=0) Z) Z Z Z Z ⟨⟨ck,nx,wt,tx2.set i ({t2 with ver:=t2.ver+1}),some ⟨g,0,none⟩,c2⟩,[(g,.cells cur21 cI (0,0))],Lp,by unfold Co.v Co.c;dsimp only;rw[aa,hpid,hver],by unfold Co.a;dsimp only;rw[fm hma i (show Tx.a ({t2 with ver:=t2.ver+1})=(bx t).a by rw[<-hI];exact fD hta)],by dsimp only;exact dz.own row21,hp2.same ht2 Z Z Z,by dsimp only;rw[aa];exact hoc2,dD hpc2 ht2 Z Z,H.forget (.cons _ (.cons _ (ap _ _))) (by simp)⟩
 refine bg H 0 (#[J ck,J nx,J wt,.slice (Qd g) tx2.length c2]) aA Z Z Z Z Z N N fun w25 H=>U ?_
 refine kF 8 10 N Z Z ?_ ?_
 refine G (bf ak row21 ht4 2 Z (H.ent (i:=2) Z) Z)<|U<|bu 10 N Z<|G (Wi Z)<|U<|bu 11 N Z<|G (Wi Z)<|U<|bu 12 N Z<|G (Wi Z)<|U<|aZ N<|Zt ?_
 have hI:bx t2={t2 with ver:=t2.ver+1}:=by unfold bx;rw[if_neg I]
 exact dM (cs0:= #[J ck,J nx,J wt,.slice (Qd g) tx2.length c2]) (v1:=J t2.pid) (v2:=J (t2.ver+1)) (v3:=J 0) Z aq Z (H.ent (i:=0) Z) Z Z Z Z ⟨⟨ck,nx,wt,tx2.set i ({t2 with ver:=t2.ver+1}),some ⟨g,0,none⟩,c2⟩,[(g,.cells cur21 cI (0,0))],Lp,by unfold Co.v Co.c;dsimp only;rw[aa,hpid,hver],by unfold Co.a;dsimp only;rw[fm hma i (show Tx.a ({t2 with ver:=t2.ver+1})=(bx t).a by rw[<-hI];exact fD hta)],by dsimp only;exact dz.own row21,hp2.same ht2 Z Z Z,by dsimp only;rw[aa];exact hoc2,dD hpc2 ht2 Z Z,H.forget (.cons _ (.cons _ (ap _ _))) (by simp)⟩
 refine G (Wi Z)<|U<|bu 8 N Z<|G (bf ak row21 ht4 2 Z (H.ent (i:=2) Z) Z)<|U<|bu 11 N Z<|G (Wi Z)<|U<|bu 12 N Z<|G (Wi Z)<|U<|aZ N<|Zt ?_
 have hI:bx t2={t2 with ver:=t2.ver+1}:=by unfold bx;rw[if_neg I]
 exact dM (cs0:= #[J ck,J nx,J wt,.slice (Qd g) tx2.length c2]) (v1:=J t2.pid) (v2:=J (t2.ver+1)) (v3:=J 0) Z aq Z (H.ent (i:=0) Z) Z Z Z Z ⟨⟨ck,nx,wt,tx2.set i ({t2 with ver:=t2.ver+1}),some ⟨g,0,none⟩,c2⟩,[(g,.cells cur21 cI (0,0))],Lp,by unfold Co.v Co.c;dsimp only;rw[aa,hpid,hver],by unfold Co.a;dsimp only;rw[fm hma i (show Tx.a ({t2 with ver:=t2.ver+1})=(bx t).a by rw[<-hI];exact fD hta)],by dsimp only;exact dz.own row21,hp2.same ht2 Z Z Z,by dsimp only;rw[aa];exact hoc2,dD hpc2 ht2 Z Z,H.forget (.cons _ (.cons _ (ap _ _))) (by simp)⟩
 refine G (bf ak row21 ht4 2 Z (H.ent (i:=2) Z) Z)<|U ?_
 refine kF 4 9 N Z Z ?_ ?_
 refine G (bf ak row21 ht4 1 Z (H.ent (i:=2) Z) Z)<|U<|bu 9 N Z<|bg H 0 (#[J ck,J nx,J wt,.slice (Qd g) tx2.length c2]) aA Z Z Z Z Z N N fun w26 H=>U<|bu 10 N Z<|G (Wi Z)<|U<|bu 11 N Z<|G (Wi Z)<|U<|bu 12 N Z<|G (Wi Z)<|U<|aZ N<|Zt ?_
 have hI:bx t2={t2 with ver:=t2.ver+1}:=by unfold bx;rw[if_neg I]
 exact dM (cs0:= #[J ck,J nx,J wt,.slice (Qd g) tx2.length c2]) (v1:=J t2.pid) (v2:=J (t2.ver+1)) (v3:=J 0) Z aq Z (H.ent (i:=0) Z) Z Z Z Z ⟨⟨ck,nx,wt,tx2.set i ({t2 with ver:=t2.ver+1}),some ⟨g,0,none⟩,c2⟩,[(g,.cells cur21 cI (0,0))],Lp,by unfold Co.v Co.c;dsimp only;rw[aa,hpid,hver],by unfold Co.a;dsimp only;rw[fm hma i (show Tx.a ({t2 with ver:=t2.ver+1})=(bx t).a by rw[<-hI];exact fD hta)],by dsimp only;exact dz.own row21,hp2.same ht2 Z Z Z,by dsimp only;rw[aa];exact hoc2,dD hpc2 ht2 Z Z,H.forget (.cons _ (.cons _ (ap _ _))) (by simp)⟩
 refine bg H 0 (#[J ck,J nx,J wt,.slice (Qd g) tx2.length c2]) aA Z Z Z Z Z N N fun w27 H=>U<|bu 4 N Z<|G (bf ak row21 ht4 1 Z (H.ent (i:=2) Z) Z)<|U<|bu 10 N Z<|G (Wi Z)<|U<|bu 11 N Z<|G (Wi Z)<|U<|bu 12 N Z<|G (Wi Z)<|U<|aZ N<|Zt ?_
 have hI:bx t2={t2 with ver:=t2.ver+1}:=by unfold bx;rw[if_neg I]
 exact dM (cs0:= #[J ck,J nx,J wt,.slice (Qd g) tx2.length c2]) (v1:=J t2.pid) (v2:=J (t2.ver+1)) (v3:=J 0) Z aq Z (H.ent (i:=0) Z) Z Z Z Z ⟨⟨ck,nx,wt,tx2.set i ({t2 with ver:=t2.ver+1}),some ⟨g,0,none⟩,c2⟩,[(g,.cells cur21 cI (0,0))],Lp,by unfold Co.v Co.c;dsimp only;rw[aa,hpid,hver],by unfold Co.a;dsimp only;rw[fm hma i (show Tx.a ({t2 with ver:=t2.ver+1})=(bx t).a by rw[<-hI];exact fD hta)],by dsimp only;exact dz.own row21,hp2.same ht2 Z Z Z,by dsimp only;rw[aa];exact hoc2,dD hpc2 ht2 Z Z,H.forget (.cons _ (.cons _ (ap _ _))) (by simp)⟩
 refine bg H 0 (#[J ck,J nx,J wt,.slice (Qd g) tx2.length c2]) aA Z Z Z Z Z N N fun w28 H=>U ?_
 refine kF 4 8 N Z Z ?_ ?_
 refine G (bf ak row21 ht4 1 Z (H.ent (i:=2) Z) Z)<|U ?_
 refine kF 8 10 N Z Z ?_ ?_
 refine G (bf ak row21 ht4 2 Z (H.ent (i:=2) Z) Z)<|U<|bu 10 N Z<|G (Wi Z)<|U<|bu 11 N Z<|G (Wi Z)<|U<|bu 12 N Z<|G (Wi Z)<|U<|aZ N<|Zt ?_
 have hI:bx t2={t2 with ver:=t2.ver+1}:=by unfold bx;rw[if_neg I]
 exact dM (cs0:= #[J ck,J nx,J wt,.slice (Qd g) tx2.length c2]) (v1:=J t2.pid) (v2:=J (t2.ver+1)) (v3:=J 0) Z aq Z (H.ent (i:=0) Z) Z Z Z Z ⟨⟨ck,nx,wt,tx2.set i ({t2 with ver:=t2.ver+1}),some ⟨g,0,none⟩,c2⟩,[(g,.cells cur21 cI (0,0))],Lp,by unfold Co.v Co.c;dsimp only;rw[aa,hpid,hver],by unfold Co.a;dsimp only;rw[fm hma i (show Tx.a ({t2 with ver:=t2.ver+1})=(bx t).a by rw[<-hI];exact fD hta)],by dsimp only;exact dz.own row21,hp2.same ht2 Z Z Z,by dsimp only;rw[aa];exact hoc2,dD hpc2 ht2 Z Z,H.forget (.cons _ (.cons _ (ap _ _))) (by simp)⟩
 refine G (Wi Z)<|U<|bu 8 N Z<|G (bf ak row21 ht4 2 Z (H.ent (i:=2) Z) Z)<|U<|bu 11 N Z<|G (Wi Z)<|U<|bu 12 N Z<|G (Wi Z)<|U<|aZ N<|Zt ?_
 have hI:bx t2={t2 with ver:=t2.ver+1}:=by unfold bx;rw[if_neg I]
 exact dM (cs0:= #[J ck,J nx,J wt,.slice (Qd g) tx2.length c2]) (v1:=J t2.pid) (v2:=J (t2.ver+1)) (v3:=J 0) Z aq Z (H.ent (i:=0) Z) Z Z Z Z ⟨⟨ck,nx,wt,tx2.set i ({t2 with ver:=t2.ver+1}),some ⟨g,0,none⟩,c2⟩,[(g,.cells cur21 cI (0,0))],Lp,by unfold Co.v Co.c;dsimp only;rw[aa,hpid,hver],by unfold Co.a;dsimp only;rw[fm hma i (show Tx.a ({t2 with ver:=t2.ver+1})=(bx t).a by rw[<-hI];exact fD hta)],by dsimp only;exact dz.own row21,hp2.same ht2 Z Z Z,by dsimp only;rw[aa];exact hoc2,dD hpc2 ht2 Z Z,H.forget (.cons _ (.cons _ (ap _ _))) (by simp)⟩
 refine G (bf ak row21 ht4 2 Z (H.ent (i:=2) Z) Z)<|U<|bu 4 N Z<|G (bf ak row21 ht4 1 Z (H.ent (i:=2) Z) Z)<|U<|bu 10 N Z<|G (Wi Z)<|U<|bu 11 N Z<|G (Wi Z)<|U<|bu 12 N Z<|G (Wi Z)<|U<|aZ N<|Zt ?_
 have hI:bx t2={t2 with ver:=t2.ver+1}:=by unfold bx;rw[if_neg I]
 exact dM (cs0:= #[J ck,J nx,J wt,.slice (Qd g) tx2.length c2]) (v1:=J t2.pid) (v2:=J (t2.ver+1)) (v3:=J 0) Z aq Z (H.ent (i:=0) Z) Z Z Z Z ⟨⟨ck,nx,wt,tx2.set i ({t2 with ver:=t2.ver+1}),some ⟨g,0,none⟩,c2⟩,[(g,.cells cur21 cI (0,0))],Lp,by unfold Co.v Co.c;dsimp only;rw[aa,hpid,hver],by unfold Co.a;dsimp only;rw[fm hma i (show Tx.a ({t2 with ver:=t2.ver+1})=(bx t).a by rw[<-hI];exact fD hta)],by dsimp only;exact dz.own row21,hp2.same ht2 Z Z Z,by dsimp only;rw[aa];exact hoc2,dD hpc2 ht2 Z Z,H.forget (.cons _ (.cons _ (ap _ _))) (by simp)⟩
 refine G (bf ak row21 ht4 1 Z (H.ent (i:=2) Z) Z)<|U ?_
 refine kF 0 8 N Z Z ?_ ?_
 refine G (Zw aq H 1 Z Z Z)<|U ?_
 refine kF 8 9 N Z Z ?_ ?_
 refine G (bf ak row21 ht4 2 Z (H.ent (i:=2) Z) Z)<|U<|bu 9 N Z<|bg H 0 (#[J ck,J nx,J wt,.slice (Qd g) tx2.length c2]) aA Z Z Z Z Z N N fun w29 H=>U<|bu 10 N Z<|G (Wi Z)<|U<|bu 11 N Z<|G (Wi Z)<|U<|bu 12 N Z<|G (Wi Z)<|U<|aZ N<|Zt ?_
 have hI:bx t2={t2 with ver:=t2.ver+1}:=by unfold bx;rw[if_neg I]
 exact dM (cs0:= #[J ck,J nx,J wt,.slice (Qd g) tx2.length c2]) (v1:=J t2.pid) (v2:=J (t2.ver+1)) (v3:=J 0) Z aq Z (H.ent (i:=0) Z) Z Z Z Z ⟨⟨ck,nx,wt,tx2.set i ({t2 with ver:=t2.ver+1}),some ⟨g,0,none⟩,c2⟩,[(g,.cells cur21 cI (0,0))],Lp,by unfold Co.v Co.c;dsimp only;rw[aa,hpid,hver],by unfold Co.a;dsimp only;rw[fm hma i (show Tx.a ({t2 with ver:=t2.ver+1})=(bx t).a by rw[<-hI];exact fD hta)],by dsimp only;exact dz.own row21,hp2.same ht2 Z Z Z,by dsimp only;rw[aa];exact hoc2,dD hpc2 ht2 Z Z,H.forget (.cons _ (.cons _ (ap _ _))) (by simp)⟩
 refine bg H 0 (#[J ck,J nx,J wt,.slice (Qd g) tx2.length c2]) aA Z Z Z Z Z N N fun w30 H=>U ?_
 refine kF 8 10 N Z Z ?_ ?_
 refine G (bf ak row21 ht4 2 Z (H.ent (i:=2) Z) Z)<|U<|bu 10 N Z<|G (Wi Z)<|U<|bu 11 N Z<|G (Wi Z)<|U<|bu 12 N Z<|G (Wi Z)<|U<|aZ N<|Zt ?_
 have hI:bx t2={t2 with ver:=t2.ver+1}:=by unfold bx;rw[if_neg I]
 exact dM (cs0:= #[J ck,J nx,J wt,.slice (Qd g) tx2.length c2]) (v1:=J t2.pid) (v2:=J (t2.ver+1)) (v3:=J 0) Z aq Z (H.ent (i:=0) Z) Z Z Z Z ⟨⟨ck,nx,wt,tx2.set i ({t2 with ver:=t2.ver+1}),some ⟨g,0,none⟩,c2⟩,[(g,.cells cur21 cI (0,0))],Lp,by unfold Co.v Co.c;dsimp only;rw[aa,hpid,hver],by unfold Co.a;dsimp only;rw[fm hma i (show Tx.a ({t2 with ver:=t2.ver+1})=(bx t).a by rw[<-hI];exact fD hta)],by dsimp only;exact dz.own row21,hp2.same ht2 Z Z Z,by dsimp only;rw[aa];exact hoc2,dD hpc2 ht2 Z Z,H.forget (.cons _ (.cons _ (ap _ _))) (by simp)⟩
 refine G (Wi Z)<|U<|bu 8 N Z<|G (bf ak row21 ht4 2 Z (H.ent (i:=2) Z) Z)<|U<|bu 11 N Z<|G (Wi Z)<|U<|bu 12 N Z<|G (Wi Z)<|U<|aZ N<|Zt ?_
 have hI:bx t2={t2 with ver:=t2.ver+1}:=by unfold bx;rw[if_neg I]
 exact dM (cs0:= #[J ck,J nx,J wt,.slice (Qd g) tx2.length c2]) (v1:=J t2.pid) (v2:=J (t2.ver+1)) (v3:=J 0) Z aq Z (H.ent (i:=0) Z) Z Z Z Z ⟨⟨ck,nx,wt,tx2.set i ({t2 with ver:=t2.ver+1}),some ⟨g,0,none⟩,c2⟩,[(g,.cells cur21 cI (0,0))],Lp,by unfold Co.v Co.c;dsimp only;rw[aa,hpid,hver],by unfold Co.a;dsimp only;rw[fm hma i (show Tx.a ({t2 with ver:=t2.ver+1})=(bx t).a by rw[<-hI];exact fD hta)],by dsimp only;exact dz.own row21,hp2.same ht2 Z Z Z,by dsimp only;rw[aa];exact hoc2,dD hpc2 ht2 Z Z,H.forget (.cons _ (.cons _ (ap _ _))) (by simp)⟩
 refine G (bf ak row21 ht4 2 Z (H.ent (i:=2) Z) Z)<|U<|bu 0 N Z<|G (Zw aq H 1 Z Z Z)<|U<|bu 9 N Z<|bg H 0 (#[J ck,J nx,J wt,.slice (Qd g) tx2.length c2]) aA Z Z Z Z Z N N fun w31 H=>U<|bu 10 N Z<|G (Wi Z)<|U<|bu 11 N Z<|G (Wi Z)<|U<|bu 12 N Z<|G (Wi Z)<|U<|aZ N<|Zt ?_
 have hI:bx t2={t2 with ver:=t2.ver+1}:=by unfold bx;rw[if_neg I]
 exact dM (cs0:= #[J ck,J nx,J wt,.slice (Qd g) tx2.length c2]) (v1:=J t2.pid) (v2:=J (t2.ver+1)) (v3:=J 0) Z aq Z (H.ent (i:=0) Z) Z Z Z Z ⟨⟨ck,nx,wt,tx2.set i ({t2 with ver:=t2.ver+1}),some ⟨g,0,none⟩,c2⟩,[(g,.cells cur21 cI (0,0))],Lp,by unfold Co.v Co.c;dsimp only;rw[aa,hpid,hver],by unfold Co.a;dsimp only;rw[fm hma i (show Tx.a ({t2 with ver:=t2.ver+1})=(bx t).a by rw[<-hI];exact fD hta)],by dsimp only;exact dz.own row21,hp2.same ht2 Z Z Z,by dsimp only;rw[aa];exact hoc2,dD hpc2 ht2 Z Z,H.forget (.cons _ (.cons _ (ap _ _))) (by simp)⟩
 refine G (bf ak row21 ht4 2 Z (H.ent (i:=2) Z) Z)<|U ?_
 refine kF 0 4 N Z Z ?_ ?_
 refine G (Zw aq H 1 Z Z Z)<|U ?_
 refine kF 4 9 N Z Z ?_ ?_
 refine G (bf ak row21 ht4 1 Z (H.ent (i:=2) Z) Z)<|U<|bu 9 N Z<|bg H 0 (#[J ck,J nx,J wt,.slice (Qd g) tx2.length c2]) aA Z Z Z Z Z N N fun w32 H=>U<|bu 10 N Z<|G (Wi Z)<|U<|bu 11 N Z<|G (Wi Z)<|U<|bu 12 N Z<|G (Wi Z)<|U<|aZ N<|Zt ?_
 have hI:bx t2={t2 with ver:=t2.ver+1}:=by unfold bx;rw[if_neg I]
 exact dM (cs0:= #[J ck,J nx,J wt,.slice (Qd g) tx2.length c2]) (v1:=J t2.pid) (v2:=J (t2.ver+1)) (v3:=J 0) Z aq Z (H.ent (i:=0) Z) Z Z Z Z ⟨⟨ck,nx,wt,tx2.set i ({t2 with ver:=t2.ver+1}),some ⟨g,0,none⟩,c2⟩,[(g,.cells cur21 cI (0,0))],Lp,by unfold Co.v Co.c;dsimp only;rw[aa,hpid,hver],by unfold Co.a;dsimp only;rw[fm hma i (show Tx.a ({t2 with ver:=t2.ver+1})=(bx t).a by rw[<-hI];exact fD hta)],by dsimp only;exact dz.own row21,hp2.same ht2 Z Z Z,by dsimp only;rw[aa];exact hoc2,dD hpc2 ht2 Z Z,H.forget (.cons _ (.cons _ (ap _ _))) (by simp)⟩
 refine bg H 0 (#[J ck,J nx,J wt,.slice (Qd g) tx2.length c2]) aA Z Z Z Z Z N N fun w33 H=>U<|bu 4 N Z<|G (bf ak row21 ht4 1 Z (H.ent (i:=2) Z) Z)<|U<|bu 10 N Z<|G (Wi Z)<|U<|bu 11 N Z<|G (Wi Z)<|U<|bu 12 N Z<|G (Wi Z)<|U<|aZ N<|Zt ?_
 have hI:bx t2={t2 with ver:=t2.ver+1}:=by unfold bx;rw[if_neg I]
 exact dM (cs0:= #[J ck,J nx,J wt,.slice (Qd g) tx2.length c2]) (v1:=J t2.pid) (v2:=J (t2.ver+1)) (v3:=J 0) Z aq Z (H.ent (i:=0) Z) Z Z Z Z ⟨⟨ck,nx,wt,tx2.set i ({t2 with ver:=t2.ver+1}),some ⟨g,0,none⟩,c2⟩,[(g,.cells cur21 cI (0,0))],Lp,by unfold Co.v Co.c;dsimp only;rw[aa,hpid,hver],by unfold Co.a;dsimp only;rw[fm hma i (show Tx.a ({t2 with ver:=t2.ver+1})=(bx t).a by rw[<-hI];exact fD hta)],by dsimp only;exact dz.own row21,hp2.same ht2 Z Z Z,by dsimp only;rw[aa];exact hoc2,dD hpc2 ht2 Z Z,H.forget (.cons _ (.cons _ (ap _ _))) (by simp)⟩
 refine G (bf ak row21 ht4 1 Z (H.ent (i:=2) Z) Z)<|U<|bu 0 N Z<|G (Zw aq H 1 Z Z Z)<|U<|bu 9 N Z<|bg H 0 (#[J ck,J nx,J wt,.slice (Qd g) tx2.length c2]) aA Z Z Z Z Z N N fun w34 H=>U<|bu 10 N Z<|G (Wi Z)<|U<|bu 11 N Z<|G (Wi Z)<|U<|bu 12 N Z<|G (Wi Z)<|U<|aZ N<|Zt ?_
 have hI:bx t2={t2 with ver:=t2.ver+1}:=by unfold bx;rw[if_neg I]
 exact dM (cs0:= #[J ck,J nx,J wt,.slice (Qd g) tx2.length c2]) (v1:=J t2.pid) (v2:=J (t2.ver+1)) (v3:=J 0) Z aq Z (H.ent (i:=0) Z) Z Z Z Z ⟨⟨ck,nx,wt,tx2.set i ({t2 with ver:=t2.ver+1}),some ⟨g,0,none⟩,c2⟩,[(g,.cells cur21 cI (0,0))],Lp,by unfold Co.v Co.c;dsimp only;rw[aa,hpid,hver],by unfold Co.a;dsimp only;rw[fm hma i (show Tx.a ({t2 with ver:=t2.ver+1})=(bx t).a by rw[<-hI];exact fD hta)],by dsimp only;exact dz.own row21,hp2.same ht2 Z Z Z,by dsimp only;rw[aa];exact hoc2,dD hpc2 ht2 Z Z,H.forget (.cons _ (.cons _ (ap _ _))) (by simp)⟩
theorem J8 {w0 w:World} {F:List cz} {a b:Nat×Obj} (Lr Lp:List (Nat×Obj)) (H:Hp w0 w (a::b::((Lr++Lp)++[])) F):Hp w0 w ([a,b]++Lr++Lp) F:=by
 rw[aY]at H
 exact H
theorem IV (c:Co) (s:ByteArray) (w:World) (h:c.rd 0 w.heap.size w) (hok:gi c=true) (hn:bQ s=true) (hi:fL c s<0) (hf:c.txs.length≠8) (hx:c.next≠1073741824):dg ab mu [c.v,.string s] w fun v w2=> ∃ (c':Co) (Lr Lp:List (Nat×Obj)),v=.tuple #[c'.v,J c.next,J 0,J 0]/\qi w w2 (qb c.a s) c' Lr Lp:=by
 refine aF nP Z Z ?_
 have hcap:=h.cap
 have hfew:=h.few
 have hfp:=h.fewP
 have H:=Hp.startCo h
 obtain⟨ck,nx,wt,txs,cA,cc⟩:=c
 dsimp only at hcap hfew hfp H
 show CW _ _ _ _ (args [.agg #[J ck,J nx,J wt,.slice cA txs.length cc],.string s]) w
 dsimp only at hf hx⊢
 obtain⟨q1,q2,q3,q4,q5,q6,q7⟩:=iW.1 hok
 dsimp only at q2 q3 q6
 refine W<|Zr<|fW H Z Z fun w1 b2 H=>eI H cM Z fun w2 b4 H=>G (Wi Z)<|G (Wi Z)<|G (Wi Z)<|U<|W<|Zr<|G (Zw aq H 1 Z Z Z)<|G (Yt Z)<|ch ie (lI ⟨ck,nx,wt,txs,cA,cc⟩ s _ ⟨H.rd0 0 Z,fun t ht=>fx H 1 Z ht,hcap,hfew,hfp⟩ hok hn) Z Z ?_
 rintro _ w3 ⟨⟨ck2,nx2,wt2,tx2,A2,c2⟩,Lr,Lp,rfl,ha2,ho2,hp2,hoc2,hpc2,hj2⟩
 replace H:=H.joinR hj2;clear hj2
 simp only[Co.a,Co.mk.injEq]at ha2
 obtain⟨e1,e2,e3,hma,-,-⟩:=ha2
 obtain rfl:ck=ck2:=e1.symm
 obtain rfl:nx=nx2:=e2.symm
 obtain rfl:wt=wt2:=e3.symm
 dsimp only at ho2 hp2 hoc2 hpc2 H
 have hlen2:tx2.length=txs.length:=by have:=congrArg cB hma;simpa using this
 refine G (Yu Z)<|G (Xa Z Z)<|G (Xi Z Z)<|G (Xi Z Z)<|bg H 1 (#[J ck,J nx,J wt,.slice A2 tx2.length c2]) aA Z Z Z Z Z N N fun w4 H=>G (Wi Z)<|G (Wi Z)<|U<|W<|W<|Zr<|G (Yi Z)<|G (ce Z Z Z)<|U<|ZF Z<|Zk<|W<|W<|Zr<|G (Yi Z)<|G (xv Z Z hi)<|U<|ZT Z<|W<|W<|Zr<|G (Zf cR Z)<|G (Zd dP H 1 Z Z Z)<|G (br lh Z)<|G (nA Z Z I)<|G (Yb Z)<|ZG<|G (Zf km Z)<|ZG<|G (Zd ak H 1 Z Z Z)<|ZG<|G (nA Z Z I)<|G (N Z Z)<|U<|ZF Z ?_
 refine Zk<|W ?_
 replace H:=J8 Lr Lp H
 refine Zr<|G (Zf cR Z)<|G (Zd dP H 1 Z Z Z)<|G (Yt Z)<|G (Zf km Z)<|G (Zd ak H 1 Z Z Z)<|G (bn (cs:= #[.string s,J nx,J 0,J 1,.slice none 0 0,J 0,J 0]) Nz Hf N)<|sW (vs:=[.agg #[.string s,J nx,J 0,J 1,.slice none 0 0,J 0,J 0]]) H gH Hf Z Z Z Z Z Z fun w5 b40 H=>vQ (Y:=rB) HM (K:=[(b40,_),(b4,_),(b2,_)]) (L:=Lr) (M:=Lp) H ho2 (news:=[iR s nx]) Z Z Z (vT.row (m:=1) (sz:=rB.sz) (H.ent (i:=0) Z) Z) (by simp only[bU];omega) Z ?_
 intro A41 c41 w6 L41 h41 _ ho41 H
 refine G (Zf cR Z)<|bg H 2 (#[J ck,J nx,J wt,.slice A41 (tx2++[iR s nx]).length c41]) zt Z Z Z Z Z N N fun w7 H=>U<|W<|Zr<|G (Zf km Z)<|G (Zd ak H 2 Z Z Z)<|G (bz Z Z I I)<|G (Zf km Z)<|bg H 2 (#[J ck,J (nx+1),J wt,.slice A41 (tx2++[iR s nx]).length c41]) bw Z Z Z Z Z N N fun w8 H=>U<|W ?_
 refine kL ci [1] [0,2,3,4,5,6,7] [1] 7 N N N Nq ?_
 refine aw Z Z Z Z Z (fun w' hw'=>Zf km Z)<|aQ ?_
 intro w9 hw';replace H:=H.later hw';clear hw'
 refine kF 0 2 N Z Z ?_ ?_
 refine G (Zw aq H 2 Z Z Z)<|U ?_
 refine kF 2 4 N Z Z ?_ ?_
 refine G (Zd ak H 2 Z Z Z)<|U ?_
 refine kF 3 4 N Z Z ?_ ?_
 refine G (mW Z Z I I)<|U<|bu 4 N Z<|bg H 1 (#[J ck,J (nx+1),J wt,.slice A41 (tx2++[iR s nx]).length c41]) aA Z Z Z Z Z N N fun w10 H=>U<|bu 5 N Z<|G (Wi Z)<|U<|bu 6 N Z<|G (Wi Z)<|U<|bu 7 N Z<|G (Wi Z)<|U<|aZ N<|Zt ?_
 exact dM (cs0:= #[J ck,J (nx+1),J wt,.slice A41 (tx2++[iR s nx]).length c41]) (v1:=J (nx+1-1)) (v2:=J 0) (v3:=J 0) Z aq Z (H.ent (i:=1) Z) Z Z Z Z ⟨⟨ck,nx+1,wt,tx2++[iR s nx],A41,c41⟩,L41,Lp,by rw[show nx+1-1=nx by omega];rfl,by unfold Co.a qb;dsimp only;rw[bo,hma];rfl,ho41,by have:=eC.snoc (t:=iR s nx) (L':=[]) gm.nil hp2;rwa[aY]at this,h41,by intro t ht;rcases ax.1 ht with ht|ht;exact hpc2 t ht;rw[au.1 ht];exact ao _,H.forget (.cons _ (.cons _ (.cons _ (ar _)))) (by simp)⟩
 refine bg H 1 (#[J ck,J (nx+1),J wt,.slice A41 (tx2++[iR s nx]).length c41]) aA Z Z Z Z Z N N fun w11 H=>U<|bu 3 N Z<|G (mW Z Z I I)<|U<|bu 5 N Z<|G (Wi Z)<|U<|bu 6 N Z<|G (Wi Z)<|U<|bu 7 N Z<|G (Wi Z)<|U<|aZ N<|Zt ?_
 exact dM (cs0:= #[J ck,J (nx+1),J wt,.slice A41 (tx2++[iR s nx]).length c41]) (v1:=J (nx+1-1)) (v2:=J 0) (v3:=J 0) Z aq Z (H.ent (i:=1) Z) Z Z Z Z ⟨⟨ck,nx+1,wt,tx2++[iR s nx],A41,c41⟩,L41,Lp,by rw[show nx+1-1=nx by omega];rfl,by unfold Co.a qb;dsimp only;rw[bo,hma];rfl,ho41,by have:=eC.snoc (t:=iR s nx) (L':=[]) gm.nil hp2;rwa[aY]at this,h41,by intro t ht;rcases ax.1 ht with ht|ht;exact hpc2 t ht;rw[au.1 ht];exact ao _,H.forget (.cons _ (.cons _ (.cons _ (ar _)))) (by simp)⟩
 refine bg H 1 (#[J ck,J (nx+1),J wt,.slice A41 (tx2++[iR s nx]).length c41]) aA Z Z Z Z Z N N fun w12 H=>U<|bu 2 N Z<|G (Zd ak H 2 Z Z Z)<|U<|bu 3 N Z<|G (mW Z Z I I)<|U<|bu 5 N Z<|G (Wi Z)<|U<|bu 6 N Z<|G (Wi Z)<|U<|bu 7 N Z<|G (Wi Z)<|U<|aZ N<|Zt ?_
 exact dM (cs0:= #[J ck,J (nx+1),J wt,.slice A41 (tx2++[iR s nx]).length c41]) (v1:=J (nx+1-1)) (v2:=J 0) (v3:=J 0) Z aq Z (H.ent (i:=1) Z) Z Z Z Z ⟨⟨ck,nx+1,wt,tx2++[iR s nx],A41,c41⟩,L41,Lp,by rw[show nx+1-1=nx by omega];rfl,by unfold Co.a qb;dsimp only;rw[bo,hma];rfl,ho41,by have:=eC.snoc (t:=iR s nx) (L':=[]) gm.nil hp2;rwa[aY]at this,h41,by intro t ht;rcases ax.1 ht with ht|ht;exact hpc2 t ht;rw[au.1 ht];exact ao _,H.forget (.cons _ (.cons _ (.cons _ (ar _)))) (by simp)⟩
 refine G (Zd ak H 2 Z Z Z)<|U ?_
 refine kF 0 3 N Z Z ?_ ?_
 refine G (Zw aq H 2 Z Z Z)<|U ?_
 refine kF 3 4 N Z Z ?_ ?_
 refine G (mW Z Z I I)<|U<|bu 4 N Z<|bg H 1 (#[J ck,J (nx+1),J wt,.slice A41 (tx2++[iR s nx]).length c41]) aA Z Z Z Z Z N N fun w13 H=>U<|bu 5 N Z<|G (Wi Z)<|U<|bu 6 N Z<|G (Wi Z)<|U<|bu 7 N Z<|G (Wi Z)<|U<|aZ N<|Zt ?_
 exact dM (cs0:= #[J ck,J (nx+1),J wt,.slice A41 (tx2++[iR s nx]).length c41]) (v1:=J (nx+1-1)) (v2:=J 0) (v3:=J 0) Z aq Z (H.ent (i:=1) Z) Z Z Z Z ⟨⟨ck,nx+1,wt,tx2++[iR s nx],A41,c41⟩,L41,Lp,by rw[show nx+1-1=nx by omega];rfl,by unfold Co.a qb;dsimp only;rw[bo,hma];rfl,ho41,by have:=eC.snoc (t:=iR s nx) (L':=[]) gm.nil hp2;rwa[aY]at this,h41,by intro t ht;rcases ax.1 ht with ht|ht;exact hpc2 t ht;rw[au.1 ht];exact ao _,H.forget (.cons _ (.cons _ (.cons _ (ar _)))) (by simp)⟩
 refine bg H 1 (#[J ck,J (nx+1),J wt,.slice A41 (tx2++[iR s nx]).length c41]) aA Z Z Z Z Z N N fun w14 H=>U<|bu 3 N Z<|G (mW Z Z I I)<|U<|bu 5 N Z<|G (Wi Z)<|U<|bu 6 N Z<|G (Wi Z)<|U<|bu 7 N Z<|G (Wi Z)<|U<|aZ N<|Zt ?_
 exact dM (cs0:= #[J ck,J (nx+1),J wt,.slice A41 (tx2++[iR s nx]).length c41]) (v1:=J (nx+1-1)) (v2:=J 0) (v3:=J 0) Z aq Z (H.ent (i:=1) Z) Z Z Z Z ⟨⟨ck,nx+1,wt,tx2++[iR s nx],A41,c41⟩,L41,Lp,by rw[show nx+1-1=nx by omega];rfl,by unfold Co.a qb;dsimp only;rw[bo,hma];rfl,ho41,by have:=eC.snoc (t:=iR s nx) (L':=[]) gm.nil hp2;rwa[aY]at this,h41,by intro t ht;rcases ax.1 ht with ht|ht;exact hpc2 t ht;rw[au.1 ht];exact ao _,H.forget (.cons _ (.cons _ (.cons _ (ar _)))) (by simp)⟩
 refine G (mW Z Z I I)<|U<|bu 0 N Z<|G (Zw aq H 2 Z Z Z)<|U<|bu 4 N Z<|bg H 1 (#[J ck,J (nx+1),J wt,.slice A41 (tx2++[iR s nx]).length c41]) aA Z Z Z Z Z N N fun w15 H=>U<|bu 5 N Z<|G (Wi Z)<|U<|bu 6 N Z<|G (Wi Z)<|U<|bu 7 N Z<|G (Wi Z)<|U<|aZ N<|Zt ?_
 exact dM (cs0:= #[J ck,J (nx+1),J wt,.slice A41 (tx2++[iR s nx]).length c41]) (v1:=J (nx+1-1)) (v2:=J 0) (v3:=J 0) Z aq Z (H.ent (i:=1) Z) Z Z Z Z ⟨⟨ck,nx+1,wt,tx2++[iR s nx],A41,c41⟩,L41,Lp,by rw[show nx+1-1=nx by omega];rfl,by unfold Co.a qb;dsimp only;rw[bo,hma];rfl,ho41,by have:=eC.snoc (t:=iR s nx) (L':=[]) gm.nil hp2;rwa[aY]at this,h41,by intro t ht;rcases ax.1 ht with ht|ht;exact hpc2 t ht;rw[au.1 ht];exact ao _,H.forget (.cons _ (.cons _ (.cons _ (ar _)))) (by simp)⟩
theorem Dk (n:Int) (w:World):dg ab yG [J n] w fun v w2=>v=.bool false/\Below w.heap.size w w2:=by
 refine aF xH Z Z ?_
 have H:=Hp.start w
 refine W<|Zr<|G (Wb Z)<|U<|W<|Zr<|G (Yi Z)<|G (Yi Z)<|G (ce Z Z Z)<|G (Wb Z)<|U<|Zt ?_
 exact cH (v:=.bool false) Z Z ⟨rfl,H.below⟩
theorem EZ (a b:Int) (w:World):dg ab Ac [J a,J b] w fun v w2=>v=.bool (decide (a<b))/\Below w.heap.size w w2:=by
 refine aF yK Z Z ?_
 have H:=Hp.start w
 refine W<|Zr<|G (Wb Z)<|U<|W<|Zr<|G (Yi Z)<|ch xO (Dk a _) Z Z ?_
 rintro _ w1 ⟨rfl,hb⟩;replace H:=H.later hb;clear hb
 refine G (Yb Z)<|ZN<|ZN<|ZN<|G (N Z Z)<|G (Yb Z)<|ZG<|G (Yi Z)<|ZG<|G (Yi Z)<|ZG ?_
 refine cW (cK Z Z) Z Z Z (fun h15=> ?_) (fun h15=> ?_)
 refine G (N Z Z)<|G (Wb Z)<|U<|Zt ?_
 exact cH (v:=.bool true) Z Z ⟨by rw[decide_eq_true h15],H.below⟩
 refine G (N Z Z)<|G (Wb Z)<|U<|Zt ?_
 exact cH (v:=.bool false) Z Z ⟨by rw[decide_eq_false h15],H.below⟩
theorem sy:ab.funcs[(136:Nat)]? =some Tryz.f136:=Tryz.func136
theorem sr {w0 w:World} {K M Lt:List (Nat×Obj)} {F:List cz} {es:List Int} {x:Int} {i c vb:Nat} {A:Option Addr} (H:Hp w0 w (((vb,.cells (bW.f x).toArray 3 (0,0))::K)++Lt++M) F) (ho:gm bW (.slice A es.length c) 3 es Lt) (hi:i<=es.length) (hb:(es.length+1)*8<=140737488355328):
  dg ab qY [.slice A es.length c,J (i:Nat),.slice (Qd vb) ((1:Nat)) 1] w fun v w2=> ∃ A' c' L',v=.slice A' (es.take i++[x]++es.drop i).length c'/\gm bW (.slice A' (es.take i++[x]++es.drop i).length c') 3 (es.take i++[x]++es.drop i) L'/\Hp w0 w2 (((vb,.cells (bW.f x).toArray 3 (0,0))::K)++L'++M) F:=by
 refine aF qt Z Z ?_
 show CW _ _ _ _ (args [.slice A es.length c,J (i:Nat),.slice (Qd vb) ((1:Nat)) 1]) w
 have hc0:es.length<=c:=by
  obtain⟨_,c',he,hc,_⟩:=ho.form
  injection he with _ _ he
  omega
 have hxs:(bW.f x).length=bW.sz:=bW.len x
 have hx1: ∀ u∈bW.f x,u.oneCell'=true:=fun u hu=>bW.one x u hu
 have hsv: ∀ {w2:World} {K2:List (Nat×Obj)},Hp w0 w2 ((vb,.cells (bW.f x).toArray 3 (0,0))::K2) F->vT w2 (Qd vb) 1 bW.sz (bW.all [x]):=fun h=>⟨by rw[fo.length];rfl,fun _=>⟨_,rfl,fun j u hj=>by rw[all_one]at hj;rw[Addr.add_lit,cG];exact aD (h.ent (i:=0) Z) (by simpa using hj)⟩⟩
 refine W<|Zr<|uL Z Z<|U<|W<|Zr<|mc Z Z<|iz Z Z<|sO aT Z Z I I I Z fun A12 hA12=>U<|W<|Zr<|mc Z Z<|uC eJ Z Z<|oT Z Z<|U<|W<|W<|Zr<|iz Z Z<|G (nA Z Z (by decide))<|U<|ZF Z<|Zk<|W<|Zr<|mc Z Z<|uC eJ Z Z<|oT Z Z<|U<|W<|W<|Zr<|iz Z Z<|iz Z Z ?_
 refine K5 Z Z Z (fun h22=> ?_) (fun h22=> ?_)
 ·refine nf ?_
  refine ZT Z<|W<|Zr<|mc Z Z<|mc Z Z<|vQ (Y:=bW) (es:=es) (news:=[x]) y6 H ho Z Z Z (hsv H) (by show(es.length+1)*8<=_;omega) Z fun A25 c25 w25 L25 h25 h25b ho25 H25=>uL Z Z<|U<|Zt<|cH Z Z ?_
  have hi:i=es.length:=by omega
  subst hi
  have he:es.take es.length++[x]++es.drop es.length=es++[x]:=by rw[bZ,fv,aY]
  rw[he]
  exact⟨A25,c25,L25,rfl,ho25,H25⟩
 refine U<|ZF Z<|Zk ?_
 have hlt:i<es.length:=by omega
 obtain⟨g,cur,rfl,rfl,row⟩:=ho.row I
 have hgE:w.heap[g]? =some (.cells cur 3 (0,0)):=H.ent (i:=((vb,.cells (bW.f x).toArray 3 (0,0))::K:List (Nat×Obj)).length) (by simp)
 have hle:=row.le
 have hmx:=row.max
 have hlen:=un (x:=x) (mg hlt)
 have hfit:=row.fit hle
 have hif:=row.fit (i:=i) I
 have hdr:(bW.all (es.drop i)).length=(es.length-i)*bW.sz:=by rw[fo.length,dL]
 have hsm:(i+1)*bW.sz+(es.length-i)*bW.sz=(es.length+1)*bW.sz:=by rw[<-cS];congr 1;omega
 have hi3:(i+1)*bW.sz=i*bW.sz+bW.sz:=by rw[cS,gF]
 refine W<|W<|Zr<|iz Z Z<|iz Z Z<|add Z Z I I Z<|mc Z Z<|G (D1 eJ Z) ?_
 refine IY Z Z Z (fun h31=> ?_) (fun h31=> ?_)
 ·refine nf ?_
  refine ZT Z<|W<|Zr<|mc Z Z<|iz Z Z<|zo aT Z Z I I Z fun A34 hA34=> ?_
  obtain rfl:=hA34 I
  refine iz Z Z<|iz Z Z<|add Z Z I I Z<|iz Z Z<|sub Z Z I I Z ?_
  refine PD (m:=es.length+1-i) y6 iv H Z (kd:=.i64) (show _=Value.int _ _ from congrArg (Value.int _) (show((es.length:Int)+((1:Nat):Int))- (i:Nat)=((es.length+1-i:Nat):Int) by omega)) (olds:=bW.all (es.take i)) (by rw[fo.length,aI,bA I];rfl) (fun j u hj=>by rw[Addr.add_lit,cG];rw[<-row.pre I,dh]at hj;split at hj;exact aD hgE (by simpa using hj);cases hj) I I (by show(((i:Nat):Int).toNat+(es.length+1-i))*8<=_;omega) Z ?_
  intro w1 g2 c2 cur2 hs2 hge2 hmx2 hp2 H
  have hs2':cur2.size=c2*bW.sz:=hs2
  have hc2:(es.length+1)*bW.sz<=cur2.size:=by rw[hs2'];exact dk _ I
  have hg2:(oN cur2 (i*bW.sz) (bW.f x)).size=cur2.size:=jG (by rw[hxs];omega)
  refine uL Z Z<|U<|W<|Zr<|mc Z Z<|iz Z Z<|sO aT Z Z I I I Z fun A43 hA43=>mc Z Z ?_
  have hsrc:=hsv (H.perm (am _ _ _))
  refine Nm (K:=[]) (m:=1) (o:=i*bW.sz) aT H Z Z (Ck Z I) (fun _=>vS.at0 hA43 I) hsrc (by rw[all_one];exact hx1) (by rw[all_one,hxs];omega) Z ?_
  rw[all_one]
  intro w2 H
  refine U<|W ?_
  refine bD ci [0,1,2,3,4,5,6,7] [8] [] [0,1,2,3,4,5,6,7] (sp []) N N N N Nq (cJ _) ?_
  refine aw Z Z Z Z Z (fun _ _=>iq Z)<|aw Z Z Z Z Z (fun _ _=>iq Z)<|aw Z Z Z Z Z (fun _ _=>iq Z)<|aw Z Z Z Z Z (fun _ _=>bz Z Z I I)<|aw Z Z Z Z Z (fun _ _=>pg aT Z Z I I)<|aw Z Z Z Z Z (fun _ _=>iq Z)<|aw Z Z Z Z Z (fun _ _=>iq Z)<|aw Z Z Z Z Z (fun _ _=>pg aT Z Z I I)<|aQ ?_
  intro w' hw' _;replace H:=H.later hw';clear hw'
  have hgE2:w'.heap[g]? =some (.cells cur 3 (0,0)):=(H.ents (g,.cells cur 3 (0,0)) (by simp)).1
  refine Nm (K:=[]) (m:=es.length-i) (o:=(i+1)*bW.sz) aT H Z Z (Ck I I) (fun _=>AE I) (row.srcFrom hgE2 I (rO (ao _)) I) (fo.all_one _) (by rw[hdr,hg2];omega) Z ?_
  intro w3 H
  refine U<|W<|Zr<|mc Z Z<|uL Z Z<|U<|Zt<|cH Z Z ?_
  exact⟨some ⟨g2,0,none⟩,c2,_,by rw[hlen];show Value.slice _ (((i:Nat):Int).toNat+(es.length+1-i)) _=_;congr 1;omega,dz.own (dz.insNew hs2' hmx2 hp2 (mg hlt) I),H.swapRow⟩
 refine U<|ZF Z<|Zk ?_
 have hroom:es.length+1<=c:=by omega
 have hfr:=row.fit hroom
 refine W<|Zr<|mc Z Z<|iz Z Z<|iz Z Z<|add Z Z I I Z<|zo aT Z Z I I Z fun A60 hA60=> ?_
 obtain rfl:=hA60 I
 refine uL Z Z<|U<|W<|W<|Zr<|mc Z Z<|mc Z Z<|iz Z Z<|iz Z Z<|add Z Z I I Z<|sO aT Z Z I I I Z fun A66 hA66=> ?_
 have hA:=vS.at0 hA66 I
 have hvE:w.heap[vb]? =some (.cells (bW.f x).toArray 3 (0,0)):=H.ent (i:=0) Z
 have hne:vb≠g:=fun he=>by
  have:=H.nodup
  simp only[bo,eM,qo,kQ,ax]at this
  exact this.1 (.inl (.inr (by rw[he];exact aC)))
 have hov: ∀ lb cb,(callFunc s7 #[.slice (Qd vb) 1 1,.slice A66 lb cb]).run ab w=.ok (.value (.bool false)) w:=fun lb cb=>by
  rw[hA,run_callFunc_extern sy N N N (e:=Extern.SlicesOverlaps.overlaps #[xS,xS] #[ji]) N,
   Lib.run_overlaps_apart w xS ji db (fa aT).1 bW.sz (by obtain⟨_,j,h1,h2⟩:=fa aT;exact fun w=>by rw[fJ h1,h2];rfl) ⟨vb,0,none⟩ _ 1 1 lb cb hne db db (bW.f x).length cur.size (by simp[World.shape?,hvE]) (by simp[World.shape?,hgE]) (by have:=bW.pos;have:=row.fit (i:=1) I;omega) (by simp[World.frozen?,hvE]) (by simp[World.frozen?,hvE])]
  rfl
 refine OH (hov _ _) Z Z<|not Z Z<|U<|ZT Z<|W ?_
 refine bD ci [0,1,2,3,4,5,6,7] [8] [] [0,1,2,3,4,5,6,7] (sp []) N N N N Nq (cJ _) ?_
 refine aw Z Z Z Z Z (fun _ _=>iq Z)<|aw Z Z Z Z Z (fun _ _=>iq Z)<|aw Z Z Z Z Z (fun _ _=>iq Z)<|aw Z Z Z Z Z (fun _ _=>bz Z Z I I)<|aw Z Z Z Z Z (fun _ _=>pg aT Z Z I I)<|aw Z Z Z Z Z (fun _ _=>iq Z)<|aw Z Z Z Z Z (fun _ _=>iq Z)<|aw Z Z Z Z Z (fun _ _=>pg aT Z Z I I)<|aQ ?_
 intro w' hw' _;replace H:=H.later hw';clear hw'
 have hgE2:w'.heap[g]? =some (.cells cur 3 (0,0)):=(H.ents (g,.cells cur 3 (0,0)) (by simp)).1
 have hz1:(oN cur ((i+1)*bW.sz) (bW.all (es.drop i))).size=cur.size:=jG (by rw[hdr];omega)
 refine Nm (m:=es.length-i) (o:=(i+1)*bW.sz) aT H Z Z (Nh I I) (fun _=>AE I) (row.srcFrom hgE2 I (rO (ao _)) I) (fo.all_one _) (by rw[hdr];omega) Z ?_
 intro w2 H
 refine U<|W<|Zr<|mc Z Z<|iz Z Z<|sO aT Z Z I I I Z fun A80 hA80=>mc Z Z ?_
 have hsrc:=hsv H
 refine Nm (m:=1) (o:=i*bW.sz) aT H Z Z (Ck Z I) (fun _=>vS.at0 hA80 I) hsrc (by rw[all_one];exact hx1) (by rw[all_one,hxs,hz1];omega) Z ?_
 rw[all_one]
 intro w3 H
 refine U<|W<|Zr<|mc Z Z<|uL Z Z<|U<|Zt<|cH Z Z ?_
 exact⟨some ⟨g,0,none⟩,c,_,by rw[hlen];show Value.slice _ ((es.length:Int)+((1:Nat):Int)).toNat _=_;congr 1,dz.own (row.insIn (mg hlt) hroom),H⟩
theorem wJ {w0 w:World} {K M Lt:List (Nat×Obj)} {F:List cz} {es:List Int} {i j c:Nat} {A:Option Addr} (H:Hp w0 w (K++Lt++M) F) (ho:gm bW (.slice A es.length c) 3 es Lt) (hij:i<=j) (hj:j<=es.length) (hb:es.length*8<=140737488355328):
  dg ab ra [.slice A es.length c,J (i:Nat),J (j:Nat)] w fun v w2=> ∃ A' c' L',v=.slice A' (es.take i++es.drop j).length c'/\gm bW (.slice A' (es.take i++es.drop j).length c') 3 (es.take i++es.drop j) L'/\Hp w0 w2 (K++L'++M) F:=by
 refine aF qv Z Z ?_
 show CW _ _ _ _ (args [.slice A es.length c,J (i:Nat),J (j:Nat)]) w
 have hc0:es.length<=c:=by
  obtain⟨_,c',he,hc,_⟩:=ho.form
  injection he with _ _ he
  omega
 refine W<|Zr<|uL Z Z<|U<|W<|Zr<|mc Z Z<|iz Z Z<|iz Z Z<|mc Z Z<|uC eJ Z Z<|O0 aT Z Z Z Z ⟨by omega,by omega⟩ I I Z fun A13 l13 c13=>U<|W<|W<|Zr<|iz Z Z<|iz Z Z ?_
 refine K5 Z Z Z (fun h16=> ?_) (fun h16=> ?_)
 refine U<|ZT Z<|W<|Zr<|mc Z Z<|uL Z Z<|U<|Zt<|cH Z Z ?_
 have hij:i=j:=by omega
 subst hij
 rw[gM]
 exact⟨A,c,Lt,rfl,ho,H⟩
 refine U<|ZF Z<|Zk ?_
 have hlt:i<j:=by omega
 obtain⟨g,cur,rfl,rfl,row⟩:=ho.row I
 have hle:=row.le
 have hmx:=row.max
 have hlen:=DP hij hj
 have hfit:=row.fit hle
 have hif:=row.fit (i:=i) I
 have hdr:(bW.all (es.drop j)).length=(es.length-j)*bW.sz:=by rw[fo.length,dL]
 refine W<|Zr<|mc Z Z<|uC eJ Z Z<|oT Z Z<|U<|W ?_
 refine bD ci [0,1,2,3,4,5] [6,7] [] [0,1,2,3,4,5] (sp []) N N N N Nq (cJ _) ?_
 refine aw Z Z Z Z Z (fun _ _=>iq Z)<|aw Z Z Z Z Z (fun _ _=>iq Z)<|aw Z Z Z Z Z (fun _ _=>C4 aT Z Z I I)<|aw Z Z Z Z Z (fun _ _=>iq Z)<|aw Z Z Z Z Z (fun _ _=>iq Z)<|aw Z Z Z Z Z (fun _ _=>pg aT Z Z I I)<|aQ ?_
 intro w' hw' _;replace H:=H.later hw';clear hw'
 have hgE2:w'.heap[g]? =some (.cells cur 3 (0,0)):=(H.ents (g,.cells cur 3 (0,0)) (by simp)).1
 have hs1:i*bW.sz+(bW.all (es.drop j)).length=(i+(es.length-j))*bW.sz:=by rw[hdr,<-cS]
 have hs2:=row.fit (i:=i+(es.length-j)) I
 have hz1:(oN cur (i*bW.sz) (bW.all (es.drop j))).size=cur.size:=jG I
 refine P0 (k:=i) (c:=c) (m:=es.length-j) aT H (show _=Value.slice _ _ _ by show Value.slice (cut _ c 0 _) _ _=_;rw[AE I,vU];rfl) Z (row.srcFrom hgE2 hj (rO hc0) I) (fo.all_one _) I (by show i*bW.sz+_<=_;omega) Z ?_
 intro w1 H
 replace H:Hp w0 w1 (K++[(g,.cells (oN cur (i*bW.sz) (bW.all (es.drop j))) 3 (0,0))]++M) F:=H
 refine uL Z Z<|U<|W<|Zr<|mc Z Z<|mc Z Z<|uC eJ Z Z<|iz Z Z<|Na aT Z Z Z I I I Z fun A31 hA31=> ?_
 have hzc:(((es.length:Nat):Int).toNat- ((i+(es.length-j):Nat):Int).toNat)*bW.sz+(i+(es.length-j))*bW.sz=es.length*bW.sz:=by rw[<-cS];congr 1;omega
 refine Pw (o:=(i+(es.length-j))*bW.sz) (z:=J 0) aT N Z Z H Z (fun _=>vS.at0 hA31 I) (by rw[hz1];show _+(((es.length:Nat):Int).toNat- ((i+(es.length-j):Nat):Int).toNat)*bW.sz<=_;omega) ?_
 intro w2 H
 refine U<|W<|Zr<|mc Z Z<|uL Z Z<|U<|Zt<|cH Z Z ?_
 have hzl: ∀ m,(Builtin.zeroCells (Value.cells (J 0)) m).toList.length=m*bW.sz:=fun m=>by rw[cr,size_zeroCells];rfl
 have hr:=row.del hij hj (ao ((i+(es.length-j))*bW.sz)) (zs:=(Builtin.zeroCells (Value.cells (J 0)) (((es.length:Nat):Int).toNat- ((i+(es.length-j):Nat):Int).toNat)).toList) (by
  rw[hzl]
  show _+(((es.length:Nat):Int).toNat- ((i+(es.length-j):Nat):Int).toNat)*bW.sz<=_
  omega)
 exact⟨some ⟨g,0,none⟩,c,_,by rw[hlen];rfl,dz.own hr,H⟩
theorem NC {P:Program} {ρ:gT} {w:World} {t:TypeId} {p:String} {af:Array Edge} {g:Option (Nat×Bool)} {dst:Option Nat} {x y:Operand} {ty ty':TypeId} {a b:Nat} {k:IntKind} (hx:ev ρ x=.int .u64 a) (hy:ev ρ y=.int k b) (hb:b<=64):(execOp (ev ρ) (Og dst (.binOp .shr ty x y ty') t p af g)).run P w=.ok (.value (.int .u64 (a/2 ^ b:Nat))) w:=by
 have e:(a:Int).fdiv (2 ^ b)=((a/2 ^ b:Nat):Int):=by
  rw[Int.fdiv_eq_ediv_of_nonneg _ (Int.le_of_lt (Int.pow_pos (by decide)))]
  simp
 simp only[execOp,hx,hy,eqGuard,binOp,Op.shift,Sem.run_bind,Sem.run_pure]
 simp[e,bA (show b<=IntKind.u64.bits from hb)]
 intro h;omega
theorem Ol {n:Nat} (h:n<=9000000000000000000):IntKind.u64.wrap (n:Int)=n:=by
 simp only[IntKind.wrap,IntKind.bits,IntKind.signed]
 simp
 omega
theorem rises {es:List Int} (h:es.Pairwise (· < ·)) {i j:Nat} {a b:Int} (hi:es[i]? =some a) (hj:es[j]? =some b) (hij:i<=j):a<=b:=by
 obtain⟨h1,rfl⟩:=aB.1 hi
 obtain⟨h2,rfl⟩:=aB.1 hj
 rcases iL i j with h3|h3
 exact Int.le_of_lt (mM.1 h i j h1 h2 h3)
 have:i=j:=by omega
 subst this
 exact iX _
theorem Be (n:Int) (w:World):dg ab vG [J n] w fun v w2=>v=.bool false/\Below w.heap.size w w2:=by
 refine aF uI Z Z ?_
 have H:=Hp.start w
 refine W<|Zr<|G (Wb Z)<|U<|W<|Zr<|G (Yi Z)<|G (Yi Z)<|G (ce Z Z Z)<|G (Wb Z)<|U<|Zt ?_
 exact cH (v:=.bool false) Z Z ⟨rfl,H.below⟩
theorem qf (es:List Int) (t:Int) (A:Option Addr) (c:Nat) (w:World) (hr:Rd bW 0 w.heap.size A es w) (hb:es.length<=1000000) (hp:es.Pairwise (· < ·)):
  dg ab ni [.slice A es.length c,J t] w fun v w2=> ∃ i:Nat,v=.tuple #[J (i:Nat),.bool (decide (es[i]? =some t))]/\i<=es.length/\(∀ k y,es[k]? =some y->k<i->y<t)/\(∀ k y,es[k]? =some y->i<=k->t<=y)/\Below w.heap.size w w2:=by
 refine aF mU Z Z ?_
 have H:=Hp.startRd hr
 show CW _ _ _ _ (args [.slice A es.length c,J t]) w
 refine W<|Zr<|G (Wi Z)<|G (Wb Z)<|U<|W<|Zr<|G (Ys Z)<|G (br eJ Z)<|G (Wi Z)<|U<|W<|Zr<|G (Yi Z)<|G (Wi Z)<|G (Wi Z)<|U<|W<|Zb ?_
 refine cy (τ:=Nat×Nat) [7,8,9,13,14,15,16,17,18,19,20,21,22,23,24,25,26,27,28,29,30] (fun(l,r)=>[(7,J (l:Nat)),(8,J (r:Nat))]) (fun(l,r) w'=>l<=r/\r<=es.length/\(∀ k y,es[k]? =some y->k<l->y<t)/\(∀ k y,es[k]? =some y->r<=k->t<=y)/\Hp w w' [] [dT bW 0 w.heap.size A es]) (fun(l,r)=>r-l) (0,es.length) ⟨by omega,by omega,by intro k y _ h;omega,by intro k y h1 h2;have:=(bT h1).1;omega,H⟩ (la Z Z) ?_
 rintro⟨l,r⟩ ρ1 w1 ⟨hlr,hrn,hlo,hhi,H⟩
 show CW _ _ _ _ (dH (gJ _ _ ρ1) [(7,J (l:Nat)),(8,J (r:Nat))]) w1
 refine W<|W<|Zr<|G (Yi Z)<|G (Yi Z) ?_
 refine cW (cK Z Z) Z Z Z (fun h15=> ?_) (fun h15=> ?_)
 refine U<|ZT Z<|Zk<|Zb<|W<|Zr<|G (Yi Z)<|G (Yi Z)<|G (bz Z Z I I) ?_
 rw[show((l:Nat):Int)+((r:Nat):Int)=((l+r:Nat):Int) by omega]
 refine G (CA iv E2 Z (Ol I))<|G (NC Z (b:=1) Z I) ?_
 obtain⟨m,hm,hm1,hm2⟩: ∃ m:Nat,(l+r)/2 ^ 1=m/\l<=m/\m<r:=⟨(l+r)/2,rfl,by omega,by omega⟩
 rw[hm]
 refine G (CA E2 iv Z (uN I))<|G (Wi Z)<|U<|W<|Zr<|G (Ys Z)<|G (Yi Z)<|ql H 0 Z aT Z Z I I Z fun b2 o2 x2 e2=>G (aX ak Z (e2.cl 0 _ Z))<|G (Yi Z)<|ch yS (EZ x2 t _) Z Z ?_
 rintro _ w3 ⟨rfl,hb⟩;replace H:=H.later hb;clear hb
 refine U ?_
 refine jo Z (fun hc27=> ?_) (fun hc27=> ?_)
 refine Zr<|G (Yi Z)<|G (bz Z Z I I)<|G (Wi Z)<|U ?_
 refine⟨(m+1,r),⟨by omega,hrn,fun k y h1 h2=>Int.lt_of_le_of_lt (rises hp h1 e2.at_ I) (of_decide_eq_true hc27),hhi,H⟩,la Z Z,Qg,by show r- (m+1)<r-l;omega⟩
 refine Zr<|G (Yi Z)<|G (Wi Z)<|U ?_
 refine⟨(l,m),⟨hm1,by omega,hlo,fun k y h1 h2=>by have h3:=rises hp e2.at_ h1 h2;have h4:=of_decide_eq_false hc27;omega,H⟩,la Z Z,Qg,by show m-l<r-l;omega⟩
 refine U<|ZF Z<|Zx<|W<|Zr<|G (Yi Z)<|G (Yi Z)<|G (Yi Z) ?_
 refine cW (cK Z Z) Z Z Z (fun h34=> ?_) (fun h34=> ?_)
 refine G (Yb Z)<|ZG<|G (Ys Z)<|ZG<|G (Yi Z)<|ZG<|ql H 0 Z aT Z Z I I Z fun b4 o4 x4 e4=>ZG<|G (aX ak Z (e4.cl 0 _ Z))<|ZG<|G (Yi Z)<|ZG ?_
 refine cW (bp Z Z) Z Z Z (fun h41=> ?_) (fun h41=> ?_)
 refine ZG<|G (Yb Z)<|ZN<|ZN<|ZN<|ZN<|ZN<|ZN<|ZN<|ZN<|ZN<|ZG<|G (Kt Z Z)<|G (Kt Z Z)<|G (Wi Z)<|G (Wb Z)<|U<|Zt ?_
 have hd:decide (es[l]? =some t)=true:=by rw[e4.at_,h41];exact decide_eq_true Z
 exact ma Z Z Z ⟨l,by rw[hd];rfl,by omega,hlo,by intro k y h1 h2;exact hhi k y h1 I,H.below⟩
 refine ZG<|G (Yb Z)<|ZG<|G (Ys Z)<|ZG<|G (Yi Z)<|ZG<|ql H 0 Z aT Z Z I I Z fun b5 o5 x5 e5=>ZG<|G (aX ak Z (e5.cl 0 _ Z))<|ZG<|ch uK (Be _ _) Z Z ?_
 rintro _ w6 ⟨rfl,hb⟩;replace H:=H.later hb;clear hb
 refine ZG<|G (Yb Z)<|ZN<|ZN<|ZG<|G (N Z Z)<|ZG<|G (N Z Z)<|G (Kt Z Z)<|G (Wi Z)<|G (Wb Z)<|U<|Zt ?_
 have hd:decide (es[l]? =some t)=false:=by rw[e4.at_];exact decide_eq_false (fun h=>h41 (bN h))
 exact ma Z Z Z ⟨l,by rw[hd];rfl,by omega,hlo,by intro k y h1 h2;exact hhi k y h1 I,H.below⟩
 refine G (Yb Z)<|ZN<|ZN<|ZN<|ZN<|ZN<|ZN<|ZN<|ZN<|ZN<|ZN<|ZN<|ZN<|ZN<|ZN<|ZN<|ZN<|ZN<|G (N Z Z)<|G (Wi Z)<|G (Wb Z)<|U<|Zt ?_
 have hd:decide (es[l]? =some t)=false:=by rw[cL I];rfl
 exact ma Z Z Z ⟨l,by rw[hd];rfl,by omega,hlo,by intro k y h1 h2;exact hhi k y h1 I,H.below⟩
/-- a part more, in its place -/
def kB (l:List Int) (p:Int):List Int:=if p∈l then l else l.filter (fun q=>decide (q<p))++[p]++l.filter (fun q=>decide (p<=q))
def iE (ck:Int) (p:Int) (t:Tx):Tx:=if t.state=1 then{t with state:=2,since:=ck,parts:=kB t.parts p}else{t with parts:=kB t.parts p}
theorem N2 {l:List Int} {p:Int} {i:Nat} (h1: ∀ k y,l[k]? =some y->k<i->y<p) (h2: ∀ k y,l[k]? =some y->i<=k->p<=y):l.take i=l.filter (fun q=>decide (q<p))/\l.drop i=l.filter (fun q=>decide (p<=q)):=by
 have ha: ∀ y∈l.take i,y<p:=fun y hy=>by
  obtain⟨k,hk⟩:=aU.1 hy
  rw[dh]at hk
  split at hk
  exact h1 k y hk ‹_›
  cases hk
 have hb: ∀ y∈l.drop i,p<=y:=fun y hy=>by
  obtain⟨k,hk⟩:=aU.1 hy
  rw[dO]at hk
  exact h2 _ y hk I
 have e1:l.filter (fun q=>decide (q<p))=(l.take i).filter (fun q=>decide (q<p))++(l.drop i).filter (fun q=>decide (q<p)):=by rw[<-kE,gM]
 have e2:l.filter (fun q=>decide (p<=q))=(l.take i).filter (fun q=>decide (p<=q))++(l.drop i).filter (fun q=>decide (p<=q)):=by rw[<-kE,gM]
 rw[e1,e2,jU.2 (fun y hy=>decide_eq_true (ha y hy)),List.filter_eq_nil_iff.2 (fun y hy=>by have:=hb y hy;simpa using this),
  List.filter_eq_nil_iff.2 (fun y hy=>by have:=ha y hy;simpa using this),jU.2 (fun y hy=>decide_eq_true (hb y hy))]
 simp
theorem D6 {l:List Int} {p:Int} {i:Nat} (h1: ∀ k y,l[k]? =some y->k<i->y<p) (h2: ∀ k y,l[k]? =some y->i<=k->p<=y) (hp:l.Pairwise (· < ·)) (hn: ¬ l[i]? =some p):l.take i++[p]++l.drop i=kB l p:=by
 obtain⟨e1,e2⟩:=N2 h1 h2
 have hm:p∉l:=fun hm=>by
  obtain⟨k,hk⟩:=aU.1 hm
  by_cases hki:k<i
  have:=h1 k p hk hki;omega
  have hki:i<=k:=by omega
  have hl:=(bT hk).1
  obtain⟨x,hx⟩: ∃ x,l[i]? =some x:=⟨_,ai I⟩
  have h3:=rises hp hx hk hki
  have h4:=h2 i x hx (ao _)
  exact hn (by rw[hx];congr 1;omega)
 unfold kB
 rw[if_neg hm,e1,e2]
theorem xR {l:List Int} {p:Int} {i:Nat} (h:l[i]? =some p):kB l p=l:=if_pos (ah h)
theorem u5 {w0 w:World} {F:List cz} (X A B C:List (Nat×Obj)) (H:Hp w0 w (X++((A++B++C)++[])) F):Hp w0 w ((X++A)++B++C) F:=by simpa using H
theorem Ae {w0 w:World} {F:List cz} (X A B C:List (Nat×Obj)) (H:Hp w0 w ((X++A)++B++C) F):Hp w0 w (X++((A++B++C)++[])) F:=by simpa using H
theorem CH {ck p:Int} {t t':Tx} (h:t'.a=t.a):(iE ck p t').a=(iE ck p t).a:=by
 have e: ∀ t:Tx,(iE ck p t).a=iE ck p t.a:=fun t=>by
  unfold iE
  by_cases h:t.state=1
  rw[if_pos h,if_pos (show t.a.state=1 from h)];rfl
  rw[if_neg h,if_neg (show¬ t.a.state=1 from h)];rfl
 rw[e,e,h]
theorem jP {ts:List Tx} (h: ∀ t∈ts,t.parts.length<=t.cap) (i:Nat) {t':Tx} (h2:t'.parts.length<=t'.cap): ∀ x∈ts.set i t',x.parts.length<=x.cap:=fun x hx=>by
 rcases bH hx with hx|rfl
 exact h x hx
 exact h2
theorem LC (c:Co) (s:ByteArray) (ver p:Int) (w:World) (h:c.rd 0 w.heap.size w) (hok:gi c=true) (hn:bQ s=true) (hi:fL c s= -1):dg ab od [c.v,.string s,J ver,J p] w fun v w2=>v=.tuple #[.agg #[J 0,J 0,J 0,.slice none 0 0],J 5]/\Below w.heap.size w w2:=by
 refine aF pB Z Z ?_
 have hcap:=h.cap
 have hfew:=h.few
 have hfp:=h.fewP
 have H:=Hp.startCo h
 obtain⟨ck,nx,wt,txs,cA,cc⟩:=c
 dsimp only at hcap hfew hfp H
 show CW _ _ _ _ (args [.agg #[J ck,J nx,J wt,.slice cA txs.length cc],.string s,J ver,J p]) w
 refine W<|Zr<|fW H Z Z fun w1 b4 H=>eI H cM Z fun w2 b8 H=>G (Wi Z)<|U<|W<|Zr<|G (Zw aq H 1 Z Z Z)<|G (Yt Z)<|G (Yi Z)<|ch gD (zY ⟨ck,nx,wt,txs,cA,cc⟩ s ver _ ⟨H.rd0 0 Z,fun t ht=>fx H 1 Z ht,hcap,hfew,hfp⟩ hok hn hi) Z Z ?_
 rintro _ w3 ⟨rfl,hb⟩;replace H:=H.later hb;clear hb
 refine G (Yu Z)<|G (Xa Z Z)<|G (Xi Z Z)<|G (Xi Z Z)<|bg H 1 (#[J (0),J (0),J (0),.slice none 0 0]) aA Z Z Z Z Z N N fun w4 H=>G (Wi Z)<|G (Wi Z)<|U<|W<|W<|Zr<|G (Yi Z)<|G (j9 Z Z (by decide))<|U<|ZT Z<|W<|Zr<|G (bn (cs:= #[J (0),J (0),J (0),.slice none 0 0]) fz cM N)<|G (Yi Z)<|bg H 0 (#[J (0),J (0),J (0),.slice none 0 0]) aA Z Z Z Z Z N N fun w5 H=>G (Wi Z)<|U<|Zt ?_
 exact bG (cs0:= #[J 0,J 0,J 0,.slice none 0 0]) (v1:=J 5) Z aq Z (H.ent (i:=0) Z) Z Z ⟨rfl,H.below⟩
theorem Js (c:Co) (s:ByteArray) (ver p:Int) (i:Nat) (t:Tx) (w:World) (h:c.rd 0 w.heap.size w) (hok:gi c=true) (hn:bQ s=true) (hi:fL c s=i) (ht:c.txs[i]? =some t) (hv:t.ver≠ver):dg ab od [c.v,.string s,J ver,J p] w fun v w2=>v=.tuple #[.agg #[J 0,J 0,J 0,.slice none 0 0],J 10]/\Below w.heap.size w w2:=by
 refine aF pB Z Z ?_
 have hcap:=h.cap
 have hfew:=h.few
 have hfp:=h.fewP
 have H:=Hp.startCo h
 obtain⟨ck,nx,wt,txs,cA,cc⟩:=c
 dsimp only at hcap hfew hfp H
 show CW _ _ _ _ (args [.agg #[J ck,J nx,J wt,.slice cA txs.length cc],.string s,J ver,J p]) w
 dsimp only at ht
 refine W<|Zr<|fW H Z Z fun w1 b4 H=>eI H cM Z fun w2 b8 H=>G (Wi Z)<|U<|W<|Zr<|G (Zw aq H 1 Z Z Z)<|G (Yt Z)<|G (Yi Z)<|ch gD (yi ⟨ck,nx,wt,txs,cA,cc⟩ s ver i t _ ⟨H.rd0 0 Z,fun t ht=>fx H 1 Z ht,hcap,hfew,hfp⟩ hok hn hi ht hv) Z Z ?_
 rintro _ w3 ⟨rfl,hb⟩;replace H:=H.later hb;clear hb
 refine G (Yu Z)<|G (Xa Z Z)<|G (Xi Z Z)<|G (Xi Z Z)<|bg H 1 (#[J (0),J (0),J (0),.slice none 0 0]) aA Z Z Z Z Z N N fun w4 H=>G (Wi Z)<|G (Wi Z)<|U<|W<|W<|Zr<|G (Yi Z)<|G (j9 Z Z (by decide))<|U<|ZT Z<|W<|Zr<|G (bn (cs:= #[J (0),J (0),J (0),.slice none 0 0]) fz cM N)<|G (Yi Z)<|bg H 0 (#[J (0),J (0),J (0),.slice none 0 0]) aA Z Z Z Z Z N N fun w5 H=>G (Wi Z)<|U<|Zt ?_
 exact bG (cs0:= #[J 0,J 0,J 0,.slice none 0 0]) (v1:=J 10) Z aq Z (H.ent (i:=0) Z) Z Z ⟨rfl,H.below⟩
theorem Jr (c:Co) (s:ByteArray) (ver p:Int) (i:Nat) (t:Tx) (w:World) (h:c.rd 0 w.heap.size w) (hok:gi c=true) (hn:bQ s=true) (hi:fL c s=i) (ht:c.txs[i]? =some t) (hv:t.ver=ver) (hp0:0<=p) (hp3:p<4) (h1:t.state≠1) (h2:t.state≠2):dg ab od [c.v,.string s,J ver,J p] w fun v w2=>v=.tuple #[.agg #[J 0,J 0,J 0,.slice none 0 0],J 12]/\Below w.heap.size w w2:=by
 refine aF pB Z Z ?_
 have hcap:=h.cap
 have hfew:=h.few
 have hfp:=h.fewP
 have H:=Hp.startCo h
 obtain⟨ck,nx,wt,txs,cA,cc⟩:=c
 dsimp only at hcap hfew hfp H
 show CW _ _ _ _ (args [.agg #[J ck,J nx,J wt,.slice cA txs.length cc],.string s,J ver,J p]) w
 dsimp only at ht
 refine W<|Zr<|fW H Z Z fun w1 b4 H=>eI H cM Z fun w2 b8 H=>G (Wi Z)<|U<|W<|Zr<|G (Zw aq H 1 Z Z Z)<|G (Yt Z)<|G (Yi Z)<|ch gD (wn ⟨ck,nx,wt,txs,cA,cc⟩ s ver i t _ ⟨H.rd0 0 Z,fun t ht=>fx H 1 Z ht,hcap,hfew,hfp⟩ hok hn hi ht hv) Z Z ?_
 rintro _ w3 ⟨⟨ck2,nx2,wt2,tx2,A2,c2⟩,Lr,Lp,rfl,ha2,ho2,hp2,hoc2,hpc2,hj2⟩
 replace H:=H.joinR hj2;clear hj2
 simp only[Co.a,Co.mk.injEq]at ha2
 obtain⟨e1,e2,e3,hma,-,-⟩:=ha2
 obtain rfl:ck=ck2:=e1.symm
 obtain rfl:nx=nx2:=e2.symm
 obtain rfl:wt=wt2:=e3.symm
 dsimp only at ho2 hp2 hoc2 hpc2 H
 obtain⟨t2,ht2,hta⟩:=qU hma ht
 have hl2:=(bT ht2).1
 obtain⟨g,cur,rfl,rfl,row⟩:=ho2.row I
 have hst:t2.state=t.state:=by show t2.a.state=t.a.state;rw[hta]
 have hdn:t2.done=t.done:=by show t2.a.done=t.a.done;rw[hta]
 have hpt:t2.parts=t.parts:=by show t2.a.parts=t.a.parts;rw[hta]
 refine G (Yu Z)<|G (Xa Z Z)<|G (Xi Z Z)<|G (Xi Z Z)<|bg H 1 (#[J (ck),J (nx),J (wt),.slice (Qd g) tx2.length c2]) aA Z Z Z Z Z N N fun w4 H=>G (Wi Z)<|G (Wi Z)<|U<|W<|W<|Zr<|G (Yi Z)<|G (ce Z Z Z)<|U<|ZF Z<|Zk<|W<|W<|Zr<|G (Yi Z)<|G (dd Z Z I)<|G (Yb Z)<|ZG<|G (Yi Z)<|ZG<|G (rf Z Z I)<|G (N Z Z)<|U<|ZF Z<|Zk<|W<|Zr<|G (Zf cR Z)<|G (Zd dP H 1 Z Z Z)<|G (Yi Z)<|G (bV gH Z Z (by first|omega|(simp only[aa];omega)))<|G (Wp Z)<|U<|W<|W ?_
 refine Zr<|G (Yp Z)<|G (aG Z)<|G (Zf cT Z)<|G (bf ak row ht2 3 Z (H.ent (i:=2) Z) Z)<|U<|Zb<|W<|Zr<|G (nA Z Z I)<|G (Wb Z)<|U<|ZF Z<|W<|Zr<|G (nA Z Z I)<|G (Wb Z)<|U<|ZF Z<|W<|Zr<|G (bn (cs:= #[J (0),J (0),J (0),.slice none 0 0]) fz cM N)<|bg H 0 (#[J (0),J (0),J (0),.slice none 0 0]) aA Z Z Z Z Z N N fun w5 H=>G (Wi Z)<|U<|Zt ?_
 exact bG (cs0:= #[J 0,J 0,J 0,.slice none 0 0]) (v1:=J 12) Z aq Z (H.ent (i:=0) Z) Z Z ⟨rfl,H.below⟩
theorem N9 (c:Co) (s:ByteArray) (ver p:Int) (i:Nat) (t:Tx) (w:World) (h:c.rd 0 w.heap.size w) (hok:gi c=true) (hn:bQ s=true) (hi:fL c s=i) (ht:c.txs[i]? =some t) (hv:t.ver=ver) (hp0:0<=p) (hp3:p<4) (h12:t.state=1∨t.state=2) (hpo:cU (-1) t.parts=true):dg ab od [c.v,.string s,J ver,J p] w fun v w2=> ∃ (c':Co) (Lr Lp:List (Nat×Obj)),v=.tuple #[c'.v,J 0]/\qi w w2 (Co.a {c with txs:=c.txs.set i (iE c.clock p t)}) c' Lr Lp:=by
 refine aF pB Z Z ?_
 have hcap:=h.cap
 have hfew:=h.few
 have hfp:=h.fewP
 have H:=Hp.startCo h
 obtain⟨ck,nx,wt,txs,cA,cc⟩:=c
 dsimp only at hcap hfew hfp H
 show CW _ _ _ _ (args [.agg #[J ck,J nx,J wt,.slice cA txs.length cc],.string s,J ver,J p]) w
 dsimp only at ht⊢
 refine W<|Zr<|fW H Z Z fun w1 b4 H=>eI H cM Z fun w2 b8 H=>G (Wi Z)<|U<|W<|Zr<|G (Zw aq H 1 Z Z Z)<|G (Yt Z)<|G (Yi Z)<|ch gD (wn ⟨ck,nx,wt,txs,cA,cc⟩ s ver i t _ ⟨H.rd0 0 Z,fun t ht=>fx H 1 Z ht,hcap,hfew,hfp⟩ hok hn hi ht hv) Z Z ?_
 rintro _ w3 ⟨⟨ck2,nx2,wt2,tx2,A2,c2⟩,Lr,Lp,rfl,ha2,ho2,hp2,hoc2,hpc2,hj2⟩
 replace H:=H.joinR hj2;clear hj2
 simp only[Co.a,Co.mk.injEq]at ha2
 obtain⟨e1,e2,e3,hma,-,-⟩:=ha2
 obtain rfl:ck=ck2:=e1.symm
 obtain rfl:nx=nx2:=e2.symm
 obtain rfl:wt=wt2:=e3.symm
 dsimp only at ho2 hp2 hoc2 hpc2 H
 obtain⟨t2,ht2,hta⟩:=qU hma ht
 have hl2:=(bT ht2).1
 obtain⟨g,cur,rfl,rfl,row⟩:=ho2.row I
 have hst:t2.state=t.state:=by show t2.a.state=t.a.state;rw[hta]
 have hdn:t2.done=t.done:=by show t2.a.done=t.a.done;rw[hta]
 have hpt:t2.parts=t.parts:=by show t2.a.parts=t.a.parts;rw[hta]
 refine G (Yu Z)<|G (Xa Z Z)<|G (Xi Z Z)<|G (Xi Z Z)<|bg H 1 (#[J (ck),J (nx),J (wt),.slice (Qd g) tx2.length c2]) aA Z Z Z Z Z N N fun w4 H=>G (Wi Z)<|G (Wi Z)<|U<|W<|W<|Zr<|G (Yi Z)<|G (ce Z Z Z)<|U<|ZF Z<|Zk<|W<|W<|Zr<|G (Yi Z)<|G (dd Z Z I)<|G (Yb Z)<|ZG<|G (Yi Z)<|ZG<|G (rf Z Z I)<|G (N Z Z)<|U<|ZF Z<|Zk<|W<|Zr<|G (Zf cR Z)<|G (Zd dP H 1 Z Z Z)<|G (Yi Z)<|G (bV gH Z Z (by first|omega|(simp only[aa];omega)))<|G (Wp Z)<|U<|W<|W ?_
 refine Zr<|G (Yp Z)<|G (aG Z)<|G (Zf cT Z)<|G (bf ak row ht2 3 Z (H.ent (i:=2) Z) Z)<|U<|Zb<|W<|Zr ?_
 refine cW (bp Z Z) Z Z Z (fun h44=> ?_) (fun h44=> ?_)
 refine G (Wb Z)<|U<|ZT Z ?_
 refine kL ci [0,1,2,4,5] [3,6,7,8,9] [0,1,2,4,5] 5 N N N Nq ?_
 refine aw Z Z Z Z Z (fun w' hw'=>Yp Z)<|aw Z Z Z Z Z (fun w' hw'=>Yp Z)<|aw Z Z Z Z Z (fun w' hw'=>Zf ko Z)<|aw Z Z Z Z Z (fun w' hw'=>aG Z)<|aw Z Z Z Z Z (fun w' hw'=>Zf cT Z)<|aQ ?_
 intro w5 hw';replace H:=H.later hw';clear hw'
 refine kF 3 6 N Z Z ?_ ?_
 refine G (Zd ak H 1 Z Z Z)<|U<|bu 6 N Z<|im H 2 ({t2 with state:=2}) bw row ht2 3 Z Z Z Z Z Z N fun w7 cur6 row6 H=> ?_
 have hs8:(tx2.set i ({t2 with state:=2}))[i]? =some ({t2 with state:=2}):=ae (bT ht2).1
 refine U<|bu 7 N Z<|G (aG Z)<|U<|bu 8 N Z<|G (Zf tQ Z)<|U<|bu 9 N Z<|im H 2 ({({t2 with state:=2})with since:=ck}) bw row6 hs8 5 Z Z Z Z Z Z N fun w10 cur9 row9 H=> ?_
 have hs11:((tx2.set i ({t2 with state:=2})).set i ({({t2 with state:=2})with since:=ck}))[i]? =some ({({t2 with state:=2})with since:=ck}):=ae (bT hs8).1
 refine U<|aZ N<|W<|W ?_
 have hrise:=(fK hpo).1
 have hfw:=ml hpo
 rw[<-hpt]at hrise hfw
 obtain⟨La,Lt,Lb,rfl,hot,hset⟩:=hp2.at_ ht2
 refine Zr<|G (Yp Z)<|G (aG Z)<|G (Zf dB Z)<|G (bf bL row9 hs11 4 Z (H.ent (i:=2) Z) Z)<|G (Yi Z)<|ch ee (qf t2.parts p t2.A t2.cap _ ((hot.rd (K:=[(b8,.cells #[J (0),J (0),J (0),.slice none 0 0] bk (0,0)),(b4,.cells #[J (ck),J (nx),J (wt),.slice (Qd g) tx2.length c2] bk (0,0)),(g,.cells cur9 cI (0,0))]++La) (M:=Lb) (u5 [(b8,.cells #[J (0),J (0),J (0),.slice none 0 0] bk (0,0)),(b4,.cells #[J (ck),J (nx),J (wt),.slice (Qd g) tx2.length c2] bk (0,0)),(g,.cells cur9 cI (0,0))] La Lt Lb H)).mono (bK _) (ao _)) I hrise) Z Z ?_
 rintro _ w12 ⟨j,rfl,hjl,hj1,hj2,hb⟩;replace H:=H.later hb;clear hb
 refine G (Yu Z)<|G (Xi Z Z)<|G (Xb Z Z) ?_
 refine mq 63 Z (fun h63=> ?_) (fun h63=> ?_)
 refine G (Wi Z)<|G (Wb Z)<|U<|W<|Zr<|G (Yb Z)<|G (dR Z)<|U<|ZF Z<|Zk<|W<|Zr<|G (Zw aq H 1 Z Z Z)<|bg H 0 (#[J (ck),J (nx),J (wt),.slice (Qd g) tx2.length c2]) aA Z Z Z Z Z N N fun w13 H=>G (Wi Z)<|U<|Zt ?_
 have hpp:kB t2.parts p=t2.parts:=xR (of_decide_eq_true h63)
 have hX:Tx.a ({t2 with state:=2,since:=ck})=(iE ck p t).a:=by rw[<-CH hta];unfold iE;rw[if_pos I];rw[hpp]
 have hrow:dz rB (tx2.set i ({t2 with state:=2,since:=ck})) c2 cur9:=by have hr:=row9;simp only[dK]at hr;exact hr
 exact bG (cs0:= #[J ck,J nx,J wt,.slice (Qd g) tx2.length c2]) (v1:=J 0) Z aq Z (H.ent (i:=0) Z) Z Z ⟨⟨ck,nx,wt,tx2.set i ({t2 with state:=2,since:=ck}),some ⟨g,0,none⟩,c2⟩,[(g,.cells cur9 cI (0,0))],(La++Lt++Lb),by unfold Co.v Co.c;dsimp only;rw[aa],by unfold Co.a;dsimp only;rw[fm hma i hX],dz.own hrow,hset {t2 with state:=2,since:=ck} Lt hot,by dsimp only;rw[aa];exact hoc2,jP hpc2 i (by exact hpc2 t2 (ah ht2)),H.forget (.cons _ (.cons _ (ap _ _))) (by simp)⟩
 refine G (Wi Z)<|G (Wb Z)<|U<|W<|Zr<|G (Yb Z)<|G (dR Z)<|U<|ZT Z<|Zr<|G (Yp Z)<|G (Yp Z)<|G (aG Z)<|G (Zf dB Z)<|G (bf bL row9 hs11 4 Z (H.ent (i:=2) Z) Z)<|G (Yi Z)<|G (Yi Z)<|sW (vs:=[J (p)]) H aT vX Z Z Z Z Z Z fun w14 b73 H=>ch iG (sr (K:=[(b8,.cells #[J (0),J (0),J (0),.slice none 0 0] bk (0,0)),(b4,.cells #[J (ck),J (nx),J (wt),.slice (Qd g) tx2.length c2] bk (0,0)),(g,.cells cur9 cI (0,0))]++La) (Lt:=Lt) (M:=Lb) (u5 [(b73,.cells #[J (p)] db (0,0)),(b8,.cells #[J (0),J (0),J (0),.slice none 0 0] bk (0,0)),(b4,.cells #[J (ck),J (nx),J (wt),.slice (Qd g) tx2.length c2] bk (0,0)),(g,.cells cur9 cI (0,0))] La Lt Lb H) hot hjl I) Z Z ?_
 rintro _ w15 ⟨A9,c9,L9,rfl,ho9,HI⟩;replace H:Hp w w15 ([(b73,.cells #[J (p)] db (0,0)),(b8,.cells #[J (0),J (0),J (0),.slice none 0 0] bk (0,0)),(b4,.cells #[J (ck),J (nx),J (wt),.slice (Qd g) tx2.length c2] bk (0,0)),(g,.cells cur9 cI (0,0))]++((La++L9++Lb)++[])) [dT rB 0 w.heap.size cA txs,iH 0 w.heap.size txs]:=Ae [(b73,.cells #[J (p)] db (0,0)),(b8,.cells #[J (0),J (0),J (0),.slice none 0 0] bk (0,0)),(b4,.cells #[J (ck),J (nx),J (wt),.slice (Qd g) tx2.length c2] bk (0,0)),(g,.cells cur9 cI (0,0))] La L9 Lb HI
 have hc9:(t2.parts.take j++[p]++t2.parts.drop j).length<=c9:=by obtain⟨_,_,e,h,_⟩:=ho9.form;injection e with _ _ e;rw[e];exact h
 refine G (aG Z)<|G (Zf dB Z)<|im H 3 ({{t2 with state:=2,since:=ck}with parts:=t2.parts.take j++[p]++t2.parts.drop j,A:=A9,cap:=c9}) jE row9 hs11 4 Z Z Z Z Z Z N fun w17 cur16 row16 H=> ?_
 have hs18:(((tx2.set i ({t2 with state:=2})).set i ({({t2 with state:=2})with since:=ck})).set i ({{t2 with state:=2,since:=ck}with parts:=t2.parts.take j++[p]++t2.parts.drop j,A:=A9,cap:=c9}))[i]? =some ({{t2 with state:=2,since:=ck}with parts:=t2.parts.take j++[p]++t2.parts.drop j,A:=A9,cap:=c9}):=ae (bT hs11).1
 refine U<|W<|Zr<|G (Zw aq H 2 Z Z Z)<|bg H 1 (#[J (ck),J (nx),J (wt),.slice (Qd g) tx2.length c2]) aA Z Z Z Z Z N N fun w19 H=>G (Wi Z)<|U<|Zt ?_
 have hpp:=D6 hj1 hj2 hrise (of_decide_eq_false h63)
 have hX:Tx.a ({t2 with state:=2,since:=ck,parts:=t2.parts.take j++[p]++t2.parts.drop j,A:=A9,cap:=c9})=(iE ck p t).a:=by rw[<-CH hta];unfold iE;rw[if_pos I];rw[<-hpp];rfl
 have hrow:dz rB (tx2.set i ({t2 with state:=2,since:=ck,parts:=t2.parts.take j++[p]++t2.parts.drop j,A:=A9,cap:=c9})) c2 cur16:=by have hr:=row16;simp only[dK]at hr;exact hr
 exact bG (cs0:= #[J ck,J nx,J wt,.slice (Qd g) tx2.length c2]) (v1:=J 0) Z aq Z (H.ent (i:=1) Z) Z Z ⟨⟨ck,nx,wt,tx2.set i ({t2 with state:=2,since:=ck,parts:=t2.parts.take j++[p]++t2.parts.drop j,A:=A9,cap:=c9}),some ⟨g,0,none⟩,c2⟩,[(g,.cells cur16 cI (0,0))],(La++L9++Lb),by unfold Co.v Co.c;dsimp only;rw[aa],by unfold Co.a;dsimp only;rw[fm hma i hX],dz.own hrow,hset {t2 with state:=2,since:=ck,parts:=t2.parts.take j++[p]++t2.parts.drop j,A:=A9,cap:=c9} L9 ho9,by dsimp only;rw[aa];exact hoc2,jP hpc2 i (by exact hc9),H.forget (.cons _ (.cons _ (.cons _ (ap _ _)))) (by simp)⟩
 refine im H 2 ({t2 with state:=2}) bw row ht2 3 Z Z Z Z Z Z N fun w21 cur20 row20 H=> ?_
 have hs22:(tx2.set i ({t2 with state:=2}))[i]? =some ({t2 with state:=2}):=ae (bT ht2).1
 refine U<|bu 3 N Z<|G (Zd ak H 1 Z Z Z)<|U<|bu 7 N Z<|G (aG Z)<|U<|bu 8 N Z<|G (Zf tQ Z)<|U<|bu 9 N Z<|im H 2 ({({t2 with state:=2})with since:=ck}) bw row20 hs22 5 Z Z Z Z Z Z N fun w24 cur23 row23 H=> ?_
 have hs25:((tx2.set i ({t2 with state:=2})).set i ({({t2 with state:=2})with since:=ck}))[i]? =some ({({t2 with state:=2})with since:=ck}):=ae (bT hs22).1
 refine U<|aZ N<|W<|W ?_
 have hrise:=(fK hpo).1
 have hfw:=ml hpo
 rw[<-hpt]at hrise hfw
 obtain⟨La,Lt,Lb,rfl,hot,hset⟩:=hp2.at_ ht2
 refine Zr<|G (Yp Z)<|G (aG Z)<|G (Zf dB Z)<|G (bf bL row23 hs25 4 Z (H.ent (i:=2) Z) Z)<|G (Yi Z)<|ch ee (qf t2.parts p t2.A t2.cap _ ((hot.rd (K:=[(b8,.cells #[J (0),J (0),J (0),.slice none 0 0] bk (0,0)),(b4,.cells #[J (ck),J (nx),J (wt),.slice (Qd g) tx2.length c2] bk (0,0)),(g,.cells cur23 cI (0,0))]++La) (M:=Lb) (u5 [(b8,.cells #[J (0),J (0),J (0),.slice none 0 0] bk (0,0)),(b4,.cells #[J (ck),J (nx),J (wt),.slice (Qd g) tx2.length c2] bk (0,0)),(g,.cells cur23 cI (0,0))] La Lt Lb H)).mono (bK _) (ao _)) I hrise) Z Z ?_
 rintro _ w26 ⟨j,rfl,hjl,hj1,hj2,hb⟩;replace H:=H.later hb;clear hb
 refine G (Yu Z)<|G (Xi Z Z)<|G (Xb Z Z) ?_
 refine mq 63 Z (fun h63=> ?_) (fun h63=> ?_)
 refine G (Wi Z)<|G (Wb Z)<|U<|W<|Zr<|G (Yb Z)<|G (dR Z)<|U<|ZF Z<|Zk<|W<|Zr<|G (Zw aq H 1 Z Z Z)<|bg H 0 (#[J (ck),J (nx),J (wt),.slice (Qd g) tx2.length c2]) aA Z Z Z Z Z N N fun w27 H=>G (Wi Z)<|U<|Zt ?_
 have hpp:kB t2.parts p=t2.parts:=xR (of_decide_eq_true h63)
 have hX:Tx.a ({t2 with state:=2,since:=ck})=(iE ck p t).a:=by rw[<-CH hta];unfold iE;rw[if_pos I];rw[hpp]
 have hrow:dz rB (tx2.set i ({t2 with state:=2,since:=ck})) c2 cur23:=by have hr:=row23;simp only[dK]at hr;exact hr
 exact bG (cs0:= #[J ck,J nx,J wt,.slice (Qd g) tx2.length c2]) (v1:=J 0) Z aq Z (H.ent (i:=0) Z) Z Z ⟨⟨ck,nx,wt,tx2.set i ({t2 with state:=2,since:=ck}),some ⟨g,0,none⟩,c2⟩,[(g,.cells cur23 cI (0,0))],(La++Lt++Lb),by unfold Co.v Co.c;dsimp only;rw[aa],by unfold Co.a;dsimp only;rw[fm hma i hX],dz.own hrow,hset {t2 with state:=2,since:=ck} Lt hot,by dsimp only;rw[aa];exact hoc2,jP hpc2 i (by exact hpc2 t2 (ah ht2)),H.forget (.cons _ (.cons _ (ap _ _))) (by simp)⟩
 refine G (Wi Z)<|G (Wb Z)<|U<|W<|Zr<|G (Yb Z)<|G (dR Z)<|U<|ZT Z<|Zr<|G (Yp Z)<|G (Yp Z)<|G (aG Z)<|G (Zf dB Z)<|G (bf bL row23 hs25 4 Z (H.ent (i:=2) Z) Z)<|G (Yi Z)<|G (Yi Z)<|sW (vs:=[J (p)]) H aT vX Z Z Z Z Z Z fun w28 b73 H=>ch iG (sr (K:=[(b8,.cells #[J (0),J (0),J (0),.slice none 0 0] bk (0,0)),(b4,.cells #[J (ck),J (nx),J (wt),.slice (Qd g) tx2.length c2] bk (0,0)),(g,.cells cur23 cI (0,0))]++La) (Lt:=Lt) (M:=Lb) (u5 [(b73,.cells #[J (p)] db (0,0)),(b8,.cells #[J (0),J (0),J (0),.slice none 0 0] bk (0,0)),(b4,.cells #[J (ck),J (nx),J (wt),.slice (Qd g) tx2.length c2] bk (0,0)),(g,.cells cur23 cI (0,0))] La Lt Lb H) hot hjl I) Z Z ?_
 rintro _ w29 ⟨A9,c9,L9,rfl,ho9,HI⟩;replace H:Hp w w29 ([(b73,.cells #[J (p)] db (0,0)),(b8,.cells #[J (0),J (0),J (0),.slice none 0 0] bk (0,0)),(b4,.cells #[J (ck),J (nx),J (wt),.slice (Qd g) tx2.length c2] bk (0,0)),(g,.cells cur23 cI (0,0))]++((La++L9++Lb)++[])) [dT rB 0 w.heap.size cA txs,iH 0 w.heap.size txs]:=Ae [(b73,.cells #[J (p)] db (0,0)),(b8,.cells #[J (0),J (0),J (0),.slice none 0 0] bk (0,0)),(b4,.cells #[J (ck),J (nx),J (wt),.slice (Qd g) tx2.length c2] bk (0,0)),(g,.cells cur23 cI (0,0))] La L9 Lb HI
 have hc9:(t2.parts.take j++[p]++t2.parts.drop j).length<=c9:=by obtain⟨_,_,e,h,_⟩:=ho9.form;injection e with _ _ e;rw[e];exact h
 refine G (aG Z)<|G (Zf dB Z)<|im H 3 ({{t2 with state:=2,since:=ck}with parts:=t2.parts.take j++[p]++t2.parts.drop j,A:=A9,cap:=c9}) jE row23 hs25 4 Z Z Z Z Z Z N fun w31 cur30 row30 H=> ?_
 have hs32:(((tx2.set i ({t2 with state:=2})).set i ({({t2 with state:=2})with since:=ck})).set i ({{t2 with state:=2,since:=ck}with parts:=t2.parts.take j++[p]++t2.parts.drop j,A:=A9,cap:=c9}))[i]? =some ({{t2 with state:=2,since:=ck}with parts:=t2.parts.take j++[p]++t2.parts.drop j,A:=A9,cap:=c9}):=ae (bT hs25).1
 refine U<|W<|Zr<|G (Zw aq H 2 Z Z Z)<|bg H 1 (#[J (ck),J (nx),J (wt),.slice (Qd g) tx2.length c2]) aA Z Z Z Z Z N N fun w33 H=>G (Wi Z)<|U<|Zt ?_
 have hpp:=D6 hj1 hj2 hrise (of_decide_eq_false h63)
 have hX:Tx.a ({t2 with state:=2,since:=ck,parts:=t2.parts.take j++[p]++t2.parts.drop j,A:=A9,cap:=c9})=(iE ck p t).a:=by rw[<-CH hta];unfold iE;rw[if_pos I];rw[<-hpp];rfl
 have hrow:dz rB (tx2.set i ({t2 with state:=2,since:=ck,parts:=t2.parts.take j++[p]++t2.parts.drop j,A:=A9,cap:=c9})) c2 cur30:=by have hr:=row30;simp only[dK]at hr;exact hr
 exact bG (cs0:= #[J ck,J nx,J wt,.slice (Qd g) tx2.length c2]) (v1:=J 0) Z aq Z (H.ent (i:=1) Z) Z Z ⟨⟨ck,nx,wt,tx2.set i ({t2 with state:=2,since:=ck,parts:=t2.parts.take j++[p]++t2.parts.drop j,A:=A9,cap:=c9}),some ⟨g,0,none⟩,c2⟩,[(g,.cells cur30 cI (0,0))],(La++L9++Lb),by unfold Co.v Co.c;dsimp only;rw[aa],by unfold Co.a;dsimp only;rw[fm hma i hX],dz.own hrow,hset {t2 with state:=2,since:=ck,parts:=t2.parts.take j++[p]++t2.parts.drop j,A:=A9,cap:=c9} L9 ho9,by dsimp only;rw[aa];exact hoc2,jP hpc2 i (by exact hc9),H.forget (.cons _ (.cons _ (.cons _ (ap _ _)))) (by simp)⟩
 refine G (Wb Z)<|U<|ZF Z<|W<|Zr<|G (qa Z Z I)<|G (Wb Z)<|U<|ZT Z<|Zk<|W<|W ?_
 have hrise:=(fK hpo).1
 have hfw:=ml hpo
 rw[<-hpt]at hrise hfw
 obtain⟨La,Lt,Lb,rfl,hot,hset⟩:=hp2.at_ ht2
 refine Zr<|G (Yp Z)<|G (aG Z)<|G (Zf dB Z)<|G (bf bL row ht2 4 Z (H.ent (i:=2) Z) Z)<|G (Yi Z)<|ch ee (qf t2.parts p t2.A t2.cap _ ((hot.rd (K:=[(b8,.cells #[J (0),J (0),J (0),.slice none 0 0] bk (0,0)),(b4,.cells #[J (ck),J (nx),J (wt),.slice (Qd g) tx2.length c2] bk (0,0)),(g,.cells cur cI (0,0))]++La) (M:=Lb) (u5 [(b8,.cells #[J (0),J (0),J (0),.slice none 0 0] bk (0,0)),(b4,.cells #[J (ck),J (nx),J (wt),.slice (Qd g) tx2.length c2] bk (0,0)),(g,.cells cur cI (0,0))] La Lt Lb H)).mono (bK _) (ao _)) I hrise) Z Z ?_
 rintro _ w34 ⟨j,rfl,hjl,hj1,hj2,hb⟩;replace H:=H.later hb;clear hb
 refine G (Yu Z)<|G (Xi Z Z)<|G (Xb Z Z) ?_
 refine mq 63 Z (fun h63=> ?_) (fun h63=> ?_)
 refine G (Wi Z)<|G (Wb Z)<|U<|W<|Zr<|G (Yb Z)<|G (dR Z)<|U<|ZF Z<|Zk<|W<|Zr<|G (Zw aq H 1 Z Z Z)<|bg H 0 (#[J (ck),J (nx),J (wt),.slice (Qd g) tx2.length c2]) aA Z Z Z Z Z N N fun w35 H=>G (Wi Z)<|U<|Zt ?_
 have hpp:kB t2.parts p=t2.parts:=xR (of_decide_eq_true h63)
 have hX:Tx.a (t2)=(iE ck p t).a:=by rw[<-CH hta];unfold iE;rw[if_neg I];rw[hpp]
 have hrow:dz rB (tx2.set i (t2)) c2 cur:=by rw[iO ht2];exact row
 exact bG (cs0:= #[J ck,J nx,J wt,.slice (Qd g) tx2.length c2]) (v1:=J 0) Z aq Z (H.ent (i:=0) Z) Z Z ⟨⟨ck,nx,wt,tx2.set i (t2),some ⟨g,0,none⟩,c2⟩,[(g,.cells cur cI (0,0))],(La++Lt++Lb),by unfold Co.v Co.c;dsimp only;rw[aa],by unfold Co.a;dsimp only;rw[fm hma i hX],dz.own hrow,hset t2 Lt hot,by dsimp only;rw[aa];exact hoc2,jP hpc2 i (by exact hpc2 t2 (ah ht2)),H.forget (.cons _ (.cons _ (ap _ _))) (by simp)⟩
 refine G (Wi Z)<|G (Wb Z)<|U<|W<|Zr<|G (Yb Z)<|G (dR Z)<|U<|ZT Z<|Zr<|G (Yp Z)<|G (Yp Z)<|G (aG Z)<|G (Zf dB Z)<|G (bf bL row ht2 4 Z (H.ent (i:=2) Z) Z)<|G (Yi Z)<|G (Yi Z)<|sW (vs:=[J (p)]) H aT vX Z Z Z Z Z Z fun w36 b73 H=>ch iG (sr (K:=[(b8,.cells #[J (0),J (0),J (0),.slice none 0 0] bk (0,0)),(b4,.cells #[J (ck),J (nx),J (wt),.slice (Qd g) tx2.length c2] bk (0,0)),(g,.cells cur cI (0,0))]++La) (Lt:=Lt) (M:=Lb) (u5 [(b73,.cells #[J (p)] db (0,0)),(b8,.cells #[J (0),J (0),J (0),.slice none 0 0] bk (0,0)),(b4,.cells #[J (ck),J (nx),J (wt),.slice (Qd g) tx2.length c2] bk (0,0)),(g,.cells cur cI (0,0))] La Lt Lb H) hot hjl I) Z Z ?_
 rintro _ w37 ⟨A9,c9,L9,rfl,ho9,HI⟩;replace H:Hp w w37 ([(b73,.cells #[J (p)] db (0,0)),(b8,.cells #[J (0),J (0),J (0),.slice none 0 0] bk (0,0)),(b4,.cells #[J (ck),J (nx),J (wt),.slice (Qd g) tx2.length c2] bk (0,0)),(g,.cells cur cI (0,0))]++((La++L9++Lb)++[])) [dT rB 0 w.heap.size cA txs,iH 0 w.heap.size txs]:=Ae [(b73,.cells #[J (p)] db (0,0)),(b8,.cells #[J (0),J (0),J (0),.slice none 0 0] bk (0,0)),(b4,.cells #[J (ck),J (nx),J (wt),.slice (Qd g) tx2.length c2] bk (0,0)),(g,.cells cur cI (0,0))] La L9 Lb HI
 have hc9:(t2.parts.take j++[p]++t2.parts.drop j).length<=c9:=by obtain⟨_,_,e,h,_⟩:=ho9.form;injection e with _ _ e;rw[e];exact h
 refine G (aG Z)<|G (Zf dB Z)<|im H 3 ({t2 with parts:=t2.parts.take j++[p]++t2.parts.drop j,A:=A9,cap:=c9}) jE row ht2 4 Z Z Z Z Z Z N fun w39 cur38 row38 H=> ?_
 have hs40:(tx2.set i ({t2 with parts:=t2.parts.take j++[p]++t2.parts.drop j,A:=A9,cap:=c9}))[i]? =some ({t2 with parts:=t2.parts.take j++[p]++t2.parts.drop j,A:=A9,cap:=c9}):=ae (bT ht2).1
 refine U<|W<|Zr<|G (Zw aq H 2 Z Z Z)<|bg H 1 (#[J (ck),J (nx),J (wt),.slice (Qd g) tx2.length c2]) aA Z Z Z Z Z N N fun w41 H=>G (Wi Z)<|U<|Zt ?_
 have hpp:=D6 hj1 hj2 hrise (of_decide_eq_false h63)
 have hX:Tx.a ({t2 with parts:=t2.parts.take j++[p]++t2.parts.drop j,A:=A9,cap:=c9})=(iE ck p t).a:=by rw[<-CH hta];unfold iE;rw[if_neg I];rw[<-hpp];rfl
 have hrow:dz rB (tx2.set i ({t2 with parts:=t2.parts.take j++[p]++t2.parts.drop j,A:=A9,cap:=c9})) c2 cur38:=by exact row38
 exact bG (cs0:= #[J ck,J nx,J wt,.slice (Qd g) tx2.length c2]) (v1:=J 0) Z aq Z (H.ent (i:=1) Z) Z Z ⟨⟨ck,nx,wt,tx2.set i ({t2 with parts:=t2.parts.take j++[p]++t2.parts.drop j,A:=A9,cap:=c9}),some ⟨g,0,none⟩,c2⟩,[(g,.cells cur38 cI (0,0))],(La++L9++Lb),by unfold Co.v Co.c;dsimp only;rw[aa],by unfold Co.a;dsimp only;rw[fm hma i hX],dz.own hrow,hset {t2 with parts:=t2.parts.take j++[p]++t2.parts.drop j,A:=A9,cap:=c9} L9 ho9,by dsimp only;rw[aa];exact hoc2,jP hpc2 i (by exact hc9),H.forget (.cons _ (.cons _ (.cons _ (ap _ _)))) (by simp)⟩
def gR (t:Tx):Bool:=decide (t.state=3)||decide (t.state=4)
def g8 (txs:List Tx) (n:Nat):Option Tx:=(txs.filter gR)[n]?
def zQ (t:Tx):Value:=.agg #[J 0,J t.pid,J t.ver,J 0,J (if t.state=4 then 3 else 2),.bool true,.string ⟨#[]⟩]
def ye (o:Option Tx):Value:=match o with
 |none=> .tuple #[.string ⟨#[]⟩,J 0,.agg #[J 0,J 0,J 0,J 0,J 0,.bool false,.string ⟨#[]⟩],J 15]
 |some t=> .tuple #[.string t.name,J (t.parts.headD 0),zQ t,J 0]
theorem Hp.partRow {w0 w:World} {L:List (Nat×Obj)} {F:List cz} {lo hi:Nat} {txs:List Tx} (H:Hp w0 w L F) (i:Nat) (hF:F[i]? =some (iH lo hi txs)) {t:Tx} (ht:t∈txs):Hp w0 w L (dT bW lo hi t.A t.parts::F):=by
 refine⟨H.below,H.ents,H.nodup,fun f hf=> ?_⟩
 rcases ay.1 hf with rfl|hf
 obtain⟨h1,h2,h3⟩:=H.facts _ (ah hF)
 exact⟨h1 t ht,h2,h3⟩
 exact H.facts f hf
theorem Kp {txs:List Tx} {k m:Nat} {x:Tx} (hx:txs[k]? =some x) (he:gR x=false):((txs.drop k).filter gR)[m]? =((txs.drop (k+1)).filter gR)[m]? :=by
 rw[cP hx,oG (by rw[he];decide)]
theorem Ht {txs:List Tx} {k:Nat} {x:Tx} (hx:txs[k]? =some x) (he:gR x=true):((txs.drop k).filter gR)[0]? =some x:=by
 rw[cP hx,jZ he];rfl
theorem EP {txs:List Tx} {k m:Nat} {x:Tx} (hx:txs[k]? =some x) (he:gR x=true) (hm:1<=m):((txs.drop k).filter gR)[m]? =((txs.drop (k+1)).filter gR)[m-1]? :=by
 obtain⟨m,rfl⟩: ∃ j,m=j+1:=⟨m-1,by omega⟩
 rw[cP hx,jZ he];rfl
theorem Ms {txs:List Tx} {k m:Nat} (h:txs.length<=k):((txs.drop k).filter gR)[m]? =none:=by
 rw[en h];rfl
theorem Mw (c:Co) (n:Nat) (w:World) (h:c.rd 0 w.heap.size w) (hok:gi c=true) (hn:n<=1000):dg ab wx [c.v,J (n:Nat)] w fun v w2=>v=ye (g8 c.txs n)/\Below w.heap.size w w2:=by
 refine aF BH Z Z ?_
 have hcap:=h.cap
 have hfew:=h.few
 have hfp:=h.fewP
 have H:=Hp.startCo h
 obtain⟨ck,nx,wt,txs,cA,cc⟩:=c
 dsimp only at hcap hfew hfp H
 show CW _ _ _ _ (args [.agg #[J ck,J nx,J wt,.slice cA txs.length cc],J (n:Nat)]) w
 obtain⟨q1,q2,q3,q4,q5,q6,q7⟩:=iW.1 hok
 dsimp only at q6 q7⊢
 refine W<|Zr<|fW H Z Z fun w1 b2 H=>G (Wt Z)<|G (Wi Z)<|eI H gh Z fun w2 b6 H=>G (Wi Z)<|U<|W<|W<|Zr<|G (Zw aq H 1 Z Z Z)<|ch jh (nB ⟨ck,nx,wt,txs,cA,cc⟩ _ ⟨H.rd0 0 Z,fun t ht=>fx H 1 Z ht,hcap,hfew,hfp⟩) Z Z ?_
 rw[hok]
 rintro _ w3 ⟨rfl,hb⟩;replace H:=H.later hb;clear hb
 refine G (Wi Z)<|U<|W<|Zr<|G (Yi Z)<|G (ce Z Z Z)<|U<|ZF Z<|Zk<|W<|W<|Zr<|G (Zf cR Z)<|G (Zd dP H 1 Z Z Z)<|G (br lh Z)<|G (Yi Z)<|U<|Zb ?_
 refine cy (τ:=Nat×Nat) [1,4,5,7,10,11,21,22,23,24,25,26,27,28,29,30,31,32,33,34,35,36,37,38,39,40,41,42,43,44,45,46,47,48,49,50,51,52] (fun(k,m)=>[(21,J (k:Nat)),(1,J (m:Nat))]) (fun(k,m) w'=>k<=txs.length/\m<=1000/\(txs.filter gR)[n]? =((txs.drop k).filter gR)[m]? /\Hp w w' [(b6,.cells (.agg #[J 0,J 0,J 0,J 0,J 0,.bool false,.string ⟨#[]⟩]:Value).cells dy (0,0)),(b2,.cells #[J (ck),J (nx),J (wt),.slice cA txs.length cc] bk (0,0))] [dT rB 0 w.heap.size cA txs,iH 0 w.heap.size txs]) (fun(k,_)=>txs.length-k) (0,n) ⟨by omega,hn,by rw[lZ],H⟩ (la Z Z) ?_
 rintro⟨k,m⟩ ρ1 w4 ⟨hk,hm1,hm,H⟩
 show CW _ _ _ _ (dH (gJ _ _ ρ1) [(21,J (k:Nat)),(1,J (m:Nat))]) w4
 refine W<|Zr ?_
 refine cW (cK Z Z) Z Z Z (fun h22=> ?_) (fun h22=> ?_)
 refine U<|W<|ZT Z<|Zk<|W<|Zb<|W ?_
 obtain⟨x,hxk⟩: ∃ x,txs[k]? =some x:=⟨_,ai I⟩
 refine Zr<|ql H 0 Z gH Z Z I I Z fun b5 o5 x5 e5=> ?_
 obtain rfl:x=x5:=by have:=e5.at_;rw[hxk]at this;exact bN this
 refine G (jF (xs:=Tx.c x) y8 Z Z e5.cl)<|eI H Hf Z fun w6 b10 H=>bg H 0 (#[.string (x.name),J (x.pid),J (x.ver),J (x.state),.slice x.A x.parts.length x.cap,J (x.since),J (x.done)]) Hj Z Z Z Z Z N N fun w7 H=>U<|W<|W<|Zr<|G (Zf cT Z)<|G (Zd ak H 0 Z Z Z) ?_
 refine qV (ja Z Z) Z Z Z (fun h27=> ?_) (fun h27=> ?_)
 refine G (Yb Z)<|ZG<|G (Zf cT Z)<|ZG<|G (Zd ak H 0 Z Z Z)<|ZG ?_
 refine qV (ja Z Z) Z Z Z (fun h31=> ?_) (fun h31=> ?_)
 refine G (Kt Z Z)<|U<|ZT Z<|Zx<|Zr<|G (bz Z Z I I)<|G (Yi Z)<|U ?_
 have hen:gR x=false:=by unfold gR;rw[decide_eq_false I,decide_eq_false I];rfl
 refine⟨(k+1,m),⟨by omega,hm1,by rw[hm];exact Kp hxk hen,H.forget (.cons _ (ar _)) (fun _ h=>h)⟩,la Z Z,Qg,by show txs.length- (k+1)<txs.length-k;omega⟩
 refine G (Kt Z Z)<|U<|ZF Z<|Zk<|W<|W ?_
 have hen:gR x=true:=by unfold gR;simp;omega
 have hxo:fH ck nx x=true:=ub q7 x (ah hxk)
 obtain⟨a1,a2,a3,a4,a5,a6,a7,a8,a9,a10,a11⟩:=cF.1 hxo
 have hpl:x.parts.length≠0:=fun h=>by have:=a11.2 h;unfold gR at hen;simp[this]at hen
 refine Zr<|G (Yi Z) ?_
 refine cW (bp Z Z) Z Z Z (fun h34=> ?_) (fun h34=> ?_)
 obtain rfl:m=0:=by omega
 have hnth:g8 txs n=some x:=by unfold g8;rw[hm];exact Ht hxk hen
 obtain⟨p0,hp0⟩: ∃ p,x.parts[0]? =some p:=⟨_,ai I⟩
 refine U<|ZT Z<|W<|Zr<|G (Wi Z)<|U<|W<|W<|Zr<|G (Zf cT Z)<|G (Zd ak H 0 Z Z Z) ?_
 refine cW (bp Z Z) Z Z Z (fun h37=> ?_) (fun h37=> ?_)
 refine U<|ZT Z<|Zr<|G (Wi Z)<|U<|W ?_
 replace H:=Hp.partRow H 1 Z (ah hxk)
 refine bD ci [0,1,2,3,4,5,6,7,8,9,10,11,12,13] [14,15] [] [0,2,4,6,8,10,11,12,13] (sp []) N N N N Nq (cJ _) ?_
 refine aw Z Z Z Z Z (fun w' hw'=>Zf ol Z)<|aw Z Z Z Z Z (fun w' hw'=>aX bc Z (aD ((H.later hw').ent (i:=0) Z) Z))<|aw Z Z Z Z Z (fun w' hw'=>Zf dB Z)<|aw Z Z Z Z Z (fun w' hw'=>aX bL Z (aD ((H.later hw').ent (i:=0) Z) Z))<|qg (k:=0) H 0 Z Z Z Z Z aT Z Z I I fun b8 o8 x8 e8=> ?_
 obtain rfl:p0=x8:=by have:=e8.at_;rw[hp0]at this;exact bN this
 refine aw Z Z Z Z Z (fun w' hw'=>aX ak Z (e8.later hw' 0 _ Z))<|aw Z Z Z Z Z (fun w' hw'=>Zf lj Z)<|aw Z Z Z Z Z (fun w' hw'=>aX ak Z (aD ((H.later hw').ent (i:=0) Z) Z))<|aw Z Z Z Z Z (fun w' hw'=>Zf gz Z)<|aw Z Z Z Z Z (fun w' hw'=>aX ak Z (aD ((H.later hw').ent (i:=0) Z) Z))<|aw Z Z Z Z Z (fun w' hw'=>Yi Z)<|aw Z Z Z Z Z (fun w' hw'=>bn (cs:= #[J (0),J (x.pid),J (x.ver),J (0),J (3),.bool (true),.string (⟨#[]⟩)]) nV gh N)<|aw Z Z Z Z Z (fun w' hw'=>Wt Z)<|aw Z Z Z Z Z (fun w' hw'=>Wi Z)<|aQ ?_
 intro w9 hw' hF
 replace H:=H.later hw';clear hw' hF
 refine bg H 1 (#[J (0),J (x.pid),J (x.ver),J (0),J (3),.bool (true),.string (⟨#[]⟩)]) eV Z Z Z Z Z N N fun w10 H=>G (Wi Z)<|U<|Zt ?_
 rw[hnth]
 have hk2:(if x.state=4 then(3:Int)else 2)=3:=by rw[if_pos I]
 have hh:x.parts.headD 0=p0:=by rw[m5,oX,hp0];rfl
 exact wI (v0:=.string x.name) (v1:=J p0) (cs2:= #[J 0,J x.pid,J x.ver,J 0,J 3,.bool true,.string ⟨#[]⟩]) (v3:=J 0) Z Z Z dI Z (H.ent (i:=1) Z) Z Z ⟨by unfold ye zQ;dsimp only;rw[hk2,hh],H.below⟩
 refine U<|ZF Z<|Zk<|W ?_
 replace H:=Hp.partRow H 1 Z (ah hxk)
 refine bD ci [0,1,2,3,4,5,6,7,8,9,10,11,12,13] [14,15] [] [0,2,4,6,8,10,11,12,13] (sp []) N N N N Nq (cJ _) ?_
 refine aw Z Z Z Z Z (fun w' hw'=>Zf ol Z)<|aw Z Z Z Z Z (fun w' hw'=>aX bc Z (aD ((H.later hw').ent (i:=0) Z) Z))<|aw Z Z Z Z Z (fun w' hw'=>Zf dB Z)<|aw Z Z Z Z Z (fun w' hw'=>aX bL Z (aD ((H.later hw').ent (i:=0) Z) Z))<|qg (k:=0) H 0 Z Z Z Z Z aT Z Z I I fun b11 o11 x11 e11=> ?_
 obtain rfl:p0=x11:=by have:=e11.at_;rw[hp0]at this;exact bN this
 refine aw Z Z Z Z Z (fun w' hw'=>aX ak Z (e11.later hw' 0 _ Z))<|aw Z Z Z Z Z (fun w' hw'=>Zf lj Z)<|aw Z Z Z Z Z (fun w' hw'=>aX ak Z (aD ((H.later hw').ent (i:=0) Z) Z))<|aw Z Z Z Z Z (fun w' hw'=>Zf gz Z)<|aw Z Z Z Z Z (fun w' hw'=>aX ak Z (aD ((H.later hw').ent (i:=0) Z) Z))<|aw Z Z Z Z Z (fun w' hw'=>Yi Z)<|aw Z Z Z Z Z (fun w' hw'=>bn (cs:= #[J (0),J (x.pid),J (x.ver),J (0),J (2),.bool (true),.string (⟨#[]⟩)]) nV gh N)<|aw Z Z Z Z Z (fun w' hw'=>Wt Z)<|aw Z Z Z Z Z (fun w' hw'=>Wi Z)<|aQ ?_
 intro w12 hw' hF
 replace H:=H.later hw';clear hw' hF
 refine bg H 1 (#[J (0),J (x.pid),J (x.ver),J (0),J (2),.bool (true),.string (⟨#[]⟩)]) eV Z Z Z Z Z N N fun w13 H=>G (Wi Z)<|U<|Zt ?_
 rw[hnth]
 have hk2:(if x.state=4 then(3:Int)else 2)=2:=by rw[if_neg I]
 have hh:x.parts.headD 0=p0:=by rw[m5,oX,hp0];rfl
 exact wI (v0:=.string x.name) (v1:=J p0) (cs2:= #[J 0,J x.pid,J x.ver,J 0,J 2,.bool true,.string ⟨#[]⟩]) (v3:=J 0) Z Z Z dI Z (H.ent (i:=1) Z) Z Z ⟨by unfold ye zQ;dsimp only;rw[hk2,hh],H.below⟩
 refine U<|ZF Z<|Zk<|Zr<|G (Yi Z)<|G (mW Z Z I I)<|G (Wi Z)<|U<|Zr<|G (bz Z Z I I)<|G (Yi Z)<|U ?_
 refine⟨(k+1,m-1),⟨by omega,by omega,by rw[hm];exact EP hxk hen I,H.forget (.cons _ (ar _)) (fun _ h=>h)⟩,la Z (by show Value.int .i64 _=Value.int .i64 _;congr 1;omega),Qg,by show txs.length- (k+1)<txs.length-k;omega⟩
 refine G (Yb Z)<|ZN<|ZN<|ZN<|G (N Z Z)<|U<|ZF Z<|Zk<|W<|W ?_
 have hen:gR x=true:=by unfold gR;simp;omega
 have hxo:fH ck nx x=true:=ub q7 x (ah hxk)
 obtain⟨a1,a2,a3,a4,a5,a6,a7,a8,a9,a10,a11⟩:=cF.1 hxo
 have hpl:x.parts.length≠0:=fun h=>by have:=a11.2 h;unfold gR at hen;simp[this]at hen
 refine Zr<|G (Yi Z) ?_
 refine cW (bp Z Z) Z Z Z (fun h34=> ?_) (fun h34=> ?_)
 obtain rfl:m=0:=by omega
 have hnth:g8 txs n=some x:=by unfold g8;rw[hm];exact Ht hxk hen
 obtain⟨p0,hp0⟩: ∃ p,x.parts[0]? =some p:=⟨_,ai I⟩
 refine U<|ZT Z<|W<|Zr<|G (Wi Z)<|U<|W<|W<|Zr<|G (Zf cT Z)<|G (Zd ak H 0 Z Z Z) ?_
 refine cW (bp Z Z) Z Z Z (fun h37=> ?_) (fun h37=> ?_)
 refine U<|ZT Z<|Zr<|G (Wi Z)<|U<|W ?_
 replace H:=Hp.partRow H 1 Z (ah hxk)
 refine bD ci [0,1,2,3,4,5,6,7,8,9,10,11,12,13] [14,15] [] [0,2,4,6,8,10,11,12,13] (sp []) N N N N Nq (cJ _) ?_
 refine aw Z Z Z Z Z (fun w' hw'=>Zf ol Z)<|aw Z Z Z Z Z (fun w' hw'=>aX bc Z (aD ((H.later hw').ent (i:=0) Z) Z))<|aw Z Z Z Z Z (fun w' hw'=>Zf dB Z)<|aw Z Z Z Z Z (fun w' hw'=>aX bL Z (aD ((H.later hw').ent (i:=0) Z) Z))<|qg (k:=0) H 0 Z Z Z Z Z aT Z Z I I fun b14 o14 x14 e14=> ?_
 obtain rfl:p0=x14:=by have:=e14.at_;rw[hp0]at this;exact bN this
 refine aw Z Z Z Z Z (fun w' hw'=>aX ak Z (e14.later hw' 0 _ Z))<|aw Z Z Z Z Z (fun w' hw'=>Zf lj Z)<|aw Z Z Z Z Z (fun w' hw'=>aX ak Z (aD ((H.later hw').ent (i:=0) Z) Z))<|aw Z Z Z Z Z (fun w' hw'=>Zf gz Z)<|aw Z Z Z Z Z (fun w' hw'=>aX ak Z (aD ((H.later hw').ent (i:=0) Z) Z))<|aw Z Z Z Z Z (fun w' hw'=>Yi Z)<|aw Z Z Z Z Z (fun w' hw'=>bn (cs:= #[J (0),J (x.pid),J (x.ver),J (0),J (3),.bool (true),.string (⟨#[]⟩)]) nV gh N)<|aw Z Z Z Z Z (fun w' hw'=>Wt Z)<|aw Z Z Z Z Z (fun w' hw'=>Wi Z)<|aQ ?_
 intro w15 hw' hF
 replace H:=H.later hw';clear hw' hF
 refine bg H 1 (#[J (0),J (x.pid),J (x.ver),J (0),J (3),.bool (true),.string (⟨#[]⟩)]) eV Z Z Z Z Z N N fun w16 H=>G (Wi Z)<|U<|Zt ?_
 rw[hnth]
 have hk2:(if x.state=4 then(3:Int)else 2)=3:=by rw[if_pos I]
 have hh:x.parts.headD 0=p0:=by rw[m5,oX,hp0];rfl
 exact wI (v0:=.string x.name) (v1:=J p0) (cs2:= #[J 0,J x.pid,J x.ver,J 0,J 3,.bool true,.string ⟨#[]⟩]) (v3:=J 0) Z Z Z dI Z (H.ent (i:=1) Z) Z Z ⟨by unfold ye zQ;dsimp only;rw[hk2,hh],H.below⟩
 refine U<|ZF Z<|Zk<|W ?_
 replace H:=Hp.partRow H 1 Z (ah hxk)
 refine bD ci [0,1,2,3,4,5,6,7,8,9,10,11,12,13] [14,15] [] [0,2,4,6,8,10,11,12,13] (sp []) N N N N Nq (cJ _) ?_
 refine aw Z Z Z Z Z (fun w' hw'=>Zf ol Z)<|aw Z Z Z Z Z (fun w' hw'=>aX bc Z (aD ((H.later hw').ent (i:=0) Z) Z))<|aw Z Z Z Z Z (fun w' hw'=>Zf dB Z)<|aw Z Z Z Z Z (fun w' hw'=>aX bL Z (aD ((H.later hw').ent (i:=0) Z) Z))<|qg (k:=0) H 0 Z Z Z Z Z aT Z Z I I fun b17 o17 x17 e17=> ?_
 obtain rfl:p0=x17:=by have:=e17.at_;rw[hp0]at this;exact bN this
 refine aw Z Z Z Z Z (fun w' hw'=>aX ak Z (e17.later hw' 0 _ Z))<|aw Z Z Z Z Z (fun w' hw'=>Zf lj Z)<|aw Z Z Z Z Z (fun w' hw'=>aX ak Z (aD ((H.later hw').ent (i:=0) Z) Z))<|aw Z Z Z Z Z (fun w' hw'=>Zf gz Z)<|aw Z Z Z Z Z (fun w' hw'=>aX ak Z (aD ((H.later hw').ent (i:=0) Z) Z))<|aw Z Z Z Z Z (fun w' hw'=>Yi Z)<|aw Z Z Z Z Z (fun w' hw'=>bn (cs:= #[J (0),J (x.pid),J (x.ver),J (0),J (2),.bool (true),.string (⟨#[]⟩)]) nV gh N)<|aw Z Z Z Z Z (fun w' hw'=>Wt Z)<|aw Z Z Z Z Z (fun w' hw'=>Wi Z)<|aQ ?_
 intro w18 hw' hF
 replace H:=H.later hw';clear hw' hF
 refine bg H 1 (#[J (0),J (x.pid),J (x.ver),J (0),J (2),.bool (true),.string (⟨#[]⟩)]) eV Z Z Z Z Z N N fun w19 H=>G (Wi Z)<|U<|Zt ?_
 rw[hnth]
 have hk2:(if x.state=4 then(3:Int)else 2)=2:=by rw[if_neg I]
 have hh:x.parts.headD 0=p0:=by rw[m5,oX,hp0];rfl
 exact wI (v0:=.string x.name) (v1:=J p0) (cs2:= #[J 0,J x.pid,J x.ver,J 0,J 2,.bool true,.string ⟨#[]⟩]) (v3:=J 0) Z Z Z dI Z (H.ent (i:=1) Z) Z Z ⟨by unfold ye zQ;dsimp only;rw[hk2,hh],H.below⟩
 refine U<|ZF Z<|Zk<|Zr<|G (Yi Z)<|G (mW Z Z I I)<|G (Wi Z)<|U<|Zr<|G (bz Z Z I I)<|G (Yi Z)<|U ?_
 refine⟨(k+1,m-1),⟨by omega,by omega,by rw[hm];exact EP hxk hen I,H.forget (.cons _ (ar _)) (fun _ h=>h)⟩,la Z (by show Value.int .i64 _=Value.int .i64 _;congr 1;omega),Qg,by show txs.length- (k+1)<txs.length-k;omega⟩
 refine U<|W<|ZF Z<|Zx<|W<|Zr<|G (bn (cs:= #[J (0),J (0),J (0),J (0),J (0),.bool (false),.string (⟨#[]⟩)]) nV gh N)<|G (Wt Z)<|G (Wi Z)<|bg H 0 (#[J (0),J (0),J (0),J (0),J (0),.bool (false),.string (⟨#[]⟩)]) eV Z Z Z Z Z N N fun w20 H=>G (Wi Z)<|U<|Zt ?_
 rw[show g8 txs n=none by unfold g8;rw[hm];exact Ms I]
 exact wI (v0:=.string ⟨#[]⟩) (v1:=J 0) (cs2:= #[J 0,J 0,J 0,J 0,J 0,.bool false,.string ⟨#[]⟩]) (v3:=J 15) Z Z Z dI Z (H.ent (i:=0) Z) Z Z ⟨rfl,H.below⟩
end Go.Proofs.YtclibalpdhhhfaaGreat
