/- Part 2 of the proofs over this seat: what its theorems say holds for every input that they name. -/
import Derived.Test.YtclibalpdhhhfaaGreatDoorCF1
namespace Go.Proofs.YtclibalpdhhhfaaGreatDoor
open Go Go.Eng Go.RowKit
open Go.Eng renaming nL→U, C6→W, MC→Zr, Q6→Zk, TK→Zt, S9→Zb, Ts→Zx, TS→Yi, TU→Yb, TQ→Ys, TR→Yp, TP→Yt, TO→Yu, Ub→Wi, Uc→Wb, T9→Ws, Ua→Wp, TY→Zf, T4→Xi, T6→Xa, T3→Xs, TB→Kt, TC→N, qg→ZT, oY→ZF
open Go.Proofs.Tryz renaming prog→aa
open _root_.List renaming mem_of_getElem?→ab,length_set→ae,getElem?_eq_getElem→ai,mem_cons_of_mem→aj,getElem?_set_self→ak,replicate→ao,mem_singleton→aq,mem_append→ar,length_append→av,mem_cons→ay,mem_cons_self→aA,append_assoc→aB,getElem?_eq_some_iff→aC,mem_or_eq_of_mem_set→aD,findIdx?_eq_some_iff_getElem→aF,length_take→aI,getElem?_map→aJ,mem_iff_getElem?→aN,getElem?_set_ne→aO,append_nil→aP,length_replicate→bc,length_cons→bf,map_append→bi,take_length→br,mem_nil_iff→bu,length_singleton→bv,length_map→bF,mem_map→bK,getElem?_eq_none→bL,mem_map_of_mem→bM,eq_nil_of_length_eq_zero→bS,getElem?_append_left→bU,mem_append_right→ce,sublist_append_right→ci,getElem?_append_right→cy,findIdx?_eq_none_iff→cD,map_set→cO,getD_eq_getElem?_getD→cS,eq_of_mem_replicate→cT,length→cY,getElem?_drop→df,ext_getElem?→dg,getElem?_replicate→dq,take_take→dt,getElem?_take→dz,map_cons→dB,length_drop→dL,pairwise_cons→ec,mem_singleton_self→eh,all_eq_true→eD,drop_of_length_le→eE,pairwise_map→eQ,pairwise_iff_getElem→fF,set_set→fS,perm_append_comm_assoc→gu,mem_filter→gT,take_append_drop→g7,replicate_succ→iS,filter_append→jr,set_append_right→jt,nodup_cons→jB,filter_eq_self→ke,prefix_refl→ki,filter_cons_of_pos→kj,drop_length→kk,drop_drop→km,take_append_of_le_length→kQ,range→kR,getElem?_set→lQ,pairwise_append→mE,map_nil→mT,range_succ→oe,filter_cons_of_neg→pj,nodup_append→pQ,getElem?_zipWith→qU,take_subset→qX,perm_middle→qY,cons_append→qZ,getElem?_range→tg,drop_set_of_lt→tj,map_map→tu,take→ug,set_cons_zero→uv,perm_append_singleton→uw,length_range→vS,findIdx?_map→vT,any_eq_false→vU,getElem_mem→xn,perm_append_comm→y8,take_zero→AJ,mem_range→AK,mem_of_mem_take→AL,take_set_of_le→BG,drop_succ_cons→BJ,set_comm→Dr,find?_eq_none→Dy
open _root_.List.Perm renaming cons→ah,swap→am
open _root_.Nat renaming le_refl→ap,zero_le→aV,le_trans→aW,le_succ→bz,min_eq_left→bE,zero_add→cC,mul_le_mul_right→cN,add_mul→cW,beq→eG,lt_of_lt_of_le→gg,one_mul→gj,mod_lt→jU,sub_self→mQ,le_of_lt→mR,le_of_eq→Ff
open _root_.List.Sublist renaming refl→au
open _root_.Option.some renaming inj→aZ,injEq→jI
open _root_.Bool renaming and_eq_true→bg,or_eq_true→sL,not_eq_true'→vV,true_and→wy
open _root_.Array renaming length_toList→ch
open _root_.Option renaming bind_some→cQ,map_some→dA,map_eq_some_iff→i4
open _root_.Int renaming le_refl→fj,toNat_natCast→lR
open _root_.List.Mem renaming head→ik
set_option maxHeartbeats 4000000
set_option maxRecDepth 20000
set_option linter.unusedSimpArgs false
set_option linter.unusedVariables false
set_option linter.unusedSectionVars false
/-- so many entries are alike, by the times of their leaders -/
def dV:List cd->List cd->Nat
 |a::l,b::m=>if a.epoch=b.epoch then dV l m+1 else 0
 |_,_=>0
theorem sT: ∀ (a b:List cd),dV a b<=a.length/\dV a b<=b.length
 |[],_=>by simp[dV]
 |_::_,[]=>by simp[dV]
 |a::l,b::m=>by
  have:=sT l m
  unfold dV
  split
  simp;omega
  simp
theorem Hq {a b:List cd} {n:Nat} {x y:cd} (hx:a[n]? =some x) (hy:b[n]? =some y) (h:x.epoch=y.epoch):dV (a.drop n) (b.drop n)=dV (a.drop (n+1)) (b.drop (n+1))+1:=by
 rw[du hx,du hy]
 exact if_pos h
theorem Ho {a b:List cd} {n:Nat} {x y:cd} (hx:a[n]? =some x) (hy:b[n]? =some y) (h: ¬ x.epoch=y.epoch):dV (a.drop n) (b.drop n)=0:=by
 rw[du hx,du hy]
 exact if_neg h
theorem Cp {a b:List cd} {n:Nat} (h:a.length<=n∨b.length<=n):dV (a.drop n) (b.drop n)=0:=by
 rcases h with h|h
 rw[eE h];rfl
 rw[eE (l:=b) h];cases(a.drop n)<;>rfl
def io (x y:RA) (hl:Int):RA×Int:=match y.es[dV x.es y.es]? with
 |some z=>(⟨x.up,x.es.take (dV x.es y.es)++[z],min x.s (dV x.es y.es),min (max x.high hl) ((dV x.es y.es:Nat)+1)⟩,1)
 |none=>(⟨x.up,x.es.take (dV x.es y.es),min x.s (dV x.es y.es),min (max x.high hl) (dV x.es y.es:Nat)⟩,0)
def iU (p:gi) (r:Nat):gi×Int×Int:=match p.reps[r]? with
 |none=>(mF,0,5)
 |some x=>if p.leader<0∨p.leader=r then(mF,0,8)else if x.up=false then(mF,0,7)else match p.reps[p.leader.toNat]? with
  |none=>(mF,0,12)
  |some y=>let kn:=p.known.set r (min x.s (dV x.es y.es):Nat)
   let hl:=max y.high (min (dr p.isr kn 400) y.es.length)
   ({p with known:=kn,reps:=(p.reps.set p.leader.toNat {y with high:=hl}).set r (io x y hl).1},(io x y hl).2,0)
theorem nX {p:gi} {r l:Nat} {x y:RA} (hx:p.reps[r]? =some x) (hl:p.leader=l) (hne:r≠l) (hu:x.up=true) (hy:p.reps[l]? =some y):iU p r=({p with known:=p.known.set r (min x.s (dV x.es y.es):Nat),reps:=(p.reps.set l {y with high:=max y.high (min (dr p.isr (p.known.set r (min x.s (dV x.es y.es):Nat)) 400) y.es.length)}).set r (io x y (max y.high (min (dr p.isr (p.known.set r (min x.s (dV x.es y.es):Nat)) 400) y.es.length))).1},(io x y (max y.high (min (dr p.isr (p.known.set r (min x.s (dV x.es y.es):Nat)) 400) y.es.length))).2,0):=by
 have h1:p.leader.toNat=l:=by omega
 unfold iU
 rw[hx];dsimp only
 rw[if_neg I,if_neg (by simp[hu]),h1,hy]
theorem IZ (l:ph) (n:Nat) (w:World) (h:l.ok w) (hn:n<=l.es.length):di aa EV [.agg l.c.toArray,J (n:Nat)] w fun v w2=> ∃ A' c',v=.tuple #[.agg #[.slice A' (bJ (l.es.take n)).length c',J (iF (l.es.take n) (min l.s n):Nat)],J 0]/\(bJ (l.es.take n)).length<=c'/\Rd dQ w.heap.size w2.heap.size A' (bJ (l.es.take n)) w2/\Below w.heap.size w w2:=
 (Li l n w h hn).mono fun _ _ ⟨A',c',h1,h2,h3⟩=>⟨A',c',h1,h2.2.1,h2.2.2,h3⟩
theorem LF (p:Pa) (r:Nat) (w:World) (h:p.rd 0 w.heap.size w) (hok:p.a.ok) (hr:r<p.reps.length):di aa FY [p.v,J (r:Nat)] w fun v w2=> ∃ p':Pa,v=.tuple #[p'.v,J (iU p.a r).2.1,J (iU p.a r).2.2]/\p'.a=(iU p.a r).1/\iI w w2 p':=by
 refine aG DT Z Z ?_
 obtain⟨hn1,hn2,hil,hkl,hf1,hf2,he0,he1,hl0,hl1,hb0,hb1,hsm⟩:=Pa.facts hok
 have hkn:=hok.known
 have hiC:=h.iC
 have hkC:=h.kC
 have hrC:=h.rC
 have hfew:=h.few
 have H:=Hp.startPa h
 obtain⟨ep,ld,isr,iA,iC,kn,kA,kC,reps,rA,rC,fw,bs⟩:=p
 simp only[Pa.a]at hkn
 dsimp only at H hn1 hn2 hil hkl hf1 hf2 he0 he1 hl0 hl1 hb0 hb1 hsm hiC hkC hrC hfew
 dsimp only at hr
 show CW _ _ _ _ (args [.agg #[J (ep),J (ld),.slice iA isr.length iC,.slice kA kn.length kC,.slice rA reps.length rC,J (fw),J (bs)],J (((r:Nat):Int))]) w
 refine W<|Zr<|gU H Z Z fun w1 b2 H=>fc H bT Z fun w2 b4 H=>G (Wi Z)<|G (Wi Z)<|U<|W<|Zr<|G (Zw bo H 1 Z Z Z)<|G (Yi Z)<|cE xR (Ja ⟨ep,ld,isr,iA,iC,kn,kA,kC,reps,rA,rC,fw,bs⟩ r _ (Hp.pa H 0 Z) hok hr) Z Z ?_
 rintro _ w3 ⟨⟨ep2,ld2,is2,iA2,c1,kn2,kA2,c2,rs,rA2,c3,fw2,bs2⟩,g1,g2,g3,u1,u2,u3,rfl,ha2,ho⟩
 simp only[Pa.a,gi.mk.injEq]at ha2
 obtain⟨e1,e2,e3,e4,hma,e6,e7⟩:=ha2
 obtain rfl:ep=ep2:=e1.symm
 obtain rfl:ld=ld2:=e2.symm
 obtain rfl:isr=is2:=e3.symm
 obtain rfl:kn=kn2:=e4.symm
 obtain rfl:fw=fw2:=e6.symm
 obtain rfl:bs=bs2:=e7.symm
 have hrl:rs.length=reps.length:=by have:=congrArg cY hma;simpa using this
 obtain⟨i1,i2,i3,row1,row2,row3,hcp,hlos,-,hjn⟩:=ho
 dsimp only at i1 i2 i3 row1 row2 row3 hcp hlos hjn
 subst i1;subst i2;subst i3
 have hlo0:=H.size
 replace H:=H.joinF hjn (by intro f hf;obtain⟨r,hr,rfl⟩:=bK.1 hf;exact hlos r hr)
 replace hlos: ∀ r∈rs,w.heap.size<=r.lo:=fun r hr=>aW hlo0 (hlos r hr)
 clear hjn
 have hlg:=uM.of (F:=[MV 0 w.heap.size ⟨ep,ld,isr,iA,iC,kn,kA,kC,reps,rA,rC,fw,bs⟩,ee fJ 0 w.heap.size iA isr,ee bR 0 w.heap.size kA kn,ee iT 0 w.heap.size rA reps]) hcp hlos
 have hok2: ∀ {i:Nat} {x:gh},rs[i]? =some x->GL x.es x.s/\0<=x.high/\x.high<=x.es.length:=fun hx=>Ko hma hok hx
 obtain⟨x,hx⟩: ∃ x,rs[r]? =some x:=⟨_,ai I⟩
 have hxa:=Jk hma hx
 refine G (Yu Z)<|G (Xa Z Z)<|G (Xi Z Z)<|bI H 4 (#[J (ep),J (ld),.slice (Qd g1) isr.length c1,.slice (Qd g2) kn.length c2,.slice (Qd g3) rs.length c3,J (fw),J (bs)]) bk Z Z Z Z Z N N fun w4 H=>G (Wi Z)<|U<|W<|W<|Zr<|G (Yi Z)<|G (cj Z Z Z)<|U<|ZF Z<|Zk<|W<|W<|Zr<|G (Zf eu Z)<|G (Zd al H 4 Z Z Z) ?_
 refine dZ (cI Z Z) Z Z Z (fun h31=> ?_) (fun h31=> ?_)
 refine G (Yb Z)<|ZN<|ZN<|ZN<|ZN<|G (Kt Z Z)<|U<|ZT Z<|W<|Zr<|G (bp (cs:= #[J (0),J (0),.slice none 0 0,.slice none 0 0,.slice none 0 0,J (0),J (0)]) dx bT N)<|bI H 3 (#[J (0),J (0),.slice none 0 0,.slice none 0 0,.slice none 0 0,J (0),J (0)]) bk Z Z Z Z Z N N fun w5 H=>G (Wi Z)<|G (Wi Z)<|U<|Zt ?_
 have hS:iU (Pa.a ⟨ep,ld,isr,iA,iC,kn,kA,kC,reps,rA,rC,fw,bs⟩) r=(mF,0,8):=by simp[iU,Pa.a,hxa,gh.a,show ld<0∨ld=(r:Int) by omega]
 rw[hS]
 exact gM (cs0:= #[J 0,J 0,.slice none 0 0,.slice none 0 0,.slice none 0 0,J 0,J 0]) (v1:=J 0) (v2:=J 8) Z bo Z (H.ent (i:=3) Z) Z Z Z ⟨KS,rfl,rfl,iI.zero H.below⟩
 refine G (Yb Z)<|ZG<|G (Zf eu Z)<|ZG<|G (Zd al H 4 Z Z Z)<|ZG<|G (Yi Z)<|ZG ?_
 refine dZ (cr Z Z) Z Z Z (fun h36=> ?_) (fun h36=> ?_)
 refine G (N Z Z)<|U<|ZT Z<|W<|Zr<|G (bp (cs:= #[J (0),J (0),.slice none 0 0,.slice none 0 0,.slice none 0 0,J (0),J (0)]) dx bT N)<|bI H 3 (#[J (0),J (0),.slice none 0 0,.slice none 0 0,.slice none 0 0,J (0),J (0)]) bk Z Z Z Z Z N N fun w6 H=>G (Wi Z)<|G (Wi Z)<|U<|Zt ?_
 have hS:iU (Pa.a ⟨ep,ld,isr,iA,iC,kn,kA,kC,reps,rA,rC,fw,bs⟩) r=(mF,0,8):=by simp[iU,Pa.a,hxa,gh.a,show ld<0∨ld=(r:Int) by omega]
 rw[hS]
 exact gM (cs0:= #[J 0,J 0,.slice none 0 0,.slice none 0 0,.slice none 0 0,J 0,J 0]) (v1:=J 0) (v2:=J 8) Z bo Z (H.ent (i:=3) Z) Z Z Z ⟨KS,rfl,rfl,iI.zero H.below⟩
 refine G (N Z Z)<|U<|ZF Z<|Zk<|W ?_
 obtain⟨l,hld⟩: ∃ l:Nat,ld=l:=⟨ld.toNat,by omega⟩
 have hrl1:r≠l:=by omega
 have hrl2:=hrl1
 obtain⟨y,hy⟩: ∃ y,rs[l]? =some y:=⟨_,ai I⟩
 refine Zr<|G (Zf dI Z)<|G (Zd cF H 4 Z Z Z)<|G (Yi Z)<|G (cL bQ Z Z (by first|omega|(simp only[ae];omega)))<|G (Wp Z)<|U<|W<|W<|Zr<|G (Yp Z)<|G (aM Z)<|G (Zf kZ Z) ?_
 refine By (bW eP row3 hx 0 Z (H.ent (i:=2) Z) Z) Z Z Z (fun h46=> ?_) (fun h46=> ?_)
 refine G (d9 Z)<|U<|ZF Z<|Zk<|W<|Zr<|G (Zf dI Z)<|G (Zd cF H 4 Z Z Z)<|G (Zf eu Z)<|G (Zd al H 4 Z Z Z)<|G (cL (k:=l) bQ Z (congrArg (Value.int .i64) hld) (by first|omega|(simp only[ae];omega)))<|G (Zf dM Z)<|G (xC 1 [.slice y.A ((bJ y.es).length) y.cap,J (((iF y.es y.s:Nat):Int))] fx row3 hy Z Z (H.ent (i:=2) Z) Z)<|cE f5 (gA y.A y.cap y.es y.s _ (hlg.log H hy (hok2 hy).1)) Z Z ?_
 have hloth:=H.size
 rintro _ w7 ⟨Ath,cth,rfl,hrth,hcth,hbth⟩;replace H:=H.learnRd hbth hrth;clear hrth hbth
 refine G (Yu Z)<|G (Xs Z Z)<|G (Xi Z Z)<|G (Xi Z Z)<|G (Ws Z)<|G (Wi Z)<|G (Wi Z)<|U<|W<|Zr<|G (Yp Z)<|G (aM Z)<|G (Zf dM Z)<|G (xC 1 [.slice x.A ((bJ x.es).length) x.cap,J (((iF x.es x.s:Nat):Int))] fx row3 hx Z Z (H.ent (i:=2) Z) Z)<|cE f5 (gA x.A x.cap x.es x.s _ ((hlg.cons (f:=ee gC w4.heap.size w7.heap.size Ath y.es)).log H hx (hok2 hx).1)) Z Z ?_
 have hlomi:=H.size
 rintro _ w8 ⟨Ami,cmi,rfl,hrmi,hcmi,hbmi⟩;replace H:=H.learnRd hbmi hrmi;clear hrmi hbmi
 refine G (Yu Z)<|G (Xs Z Z)<|G (Xi Z Z)<|G (Xi Z Z)<|G (Ws Z)<|G (Wi Z)<|G (Wi Z)<|U<|W<|Zr<|G (Wi Z)<|U<|W ?_
 obtain⟨n,hmn⟩: ∃ n,dV x.es y.es=n:=⟨_,rfl⟩
 have hnx:n<=x.es.length:=hmn▸(sT x.es y.es).1
 have hny:n<=y.es.length:=hmn▸(sT x.es y.es).2
 have hlg2:=(hlg.cons (f:=ee gC w4.heap.size w7.heap.size Ath y.es)).cons (f:=ee gC w7.heap.size w8.heap.size Ami x.es)
 refine gp (τ:=Unit) [15,70,71,72,73,74,75,76,77,78,79,80,81,82,83,84,85,86,87,88,89,90,91,92,93,94] (fun _=>[(15,J ((n:Nat):Int))]) (fun _ w'=>Hp w w' [(g1,.cells u1 kb (0,0)),(g2,.cells u2 cM (0,0)),(g3,.cells u3 fM (0,0)),(b4,.cells #[J (0),J (0),.slice none 0 0,.slice none 0 0,.slice none 0 0,J (0),J (0)] bY (0,0)),(b2,.cells #[J (ep),J (ld),.slice (Qd g1) isr.length c1,.slice (Qd g2) kn.length c2,.slice (Qd g3) rs.length c3,J (fw),J (bs)] bY (0,0))] ([ee gC w7.heap.size w8.heap.size Ami x.es,ee gC w4.heap.size w7.heap.size Ath y.es,MV 0 w.heap.size ⟨ep,ld,isr,iA,iC,kn,kA,kC,reps,rA,rC,fw,bs⟩,ee fJ 0 w.heap.size iA isr,ee bR 0 w.heap.size kA kn,ee iT 0 w.heap.size rA reps]++wT rs)) ?_ ?_
 refine Zb ?_
 refine bV (τ:=Nat) [15,70,71,72,73,74,75,76,77,78,79,80,81,82,83,84,85,86,87,88,89,90,91,92,93,94] (fun j=>[(15,J (j:Nat))]) (fun j w'=>j<=x.es.length/\j<=y.es.length/\dV x.es y.es=j+dV (x.es.drop j) (y.es.drop j)/\Hp w w' [(g1,.cells u1 kb (0,0)),(g2,.cells u2 cM (0,0)),(g3,.cells u3 fM (0,0)),(b4,.cells #[J (0),J (0),.slice none 0 0,.slice none 0 0,.slice none 0 0,J (0),J (0)] bY (0,0)),(b2,.cells #[J (ep),J (ld),.slice (Qd g1) isr.length c1,.slice (Qd g2) kn.length c2,.slice (Qd g3) rs.length c3,J (fw),J (bs)] bY (0,0))] ([ee gC w7.heap.size w8.heap.size Ami x.es,ee gC w4.heap.size w7.heap.size Ath y.es,MV 0 w.heap.size ⟨ep,ld,isr,iA,iC,kn,kA,kC,reps,rA,rC,fw,bs⟩,ee fJ 0 w.heap.size iA isr,ee bR 0 w.heap.size kA kn,ee iT 0 w.heap.size rA reps]++wT rs)) (fun j=>x.es.length-j) 0 ⟨by omega,by omega,by simp,H⟩ (ef Z) ?_
 rintro j ρ1 w9 ⟨hj1,hj2,hj,H⟩
 have hyl:=(hok2 hy).1.len
 show CW _ _ _ _ (dO (ij _ _ ρ1) [(15,J (j:Nat))]) w9
 refine W<|W ?_
 refine bG cv [0,1,2,3,4,5,6,7,8,9,10,11,12,13,14,15,16,17,18,19,20,21,22] [] [] [0,1,2,3,4,5,6,7,8,9,10,11,12,13,14,16,17,18,19,21,22] (sp []) N N N N Nq (cG _) ?_
 refine aw Z Z Z Z Z (fun w' hw'=>Yi Z)<|aw Z Z Z Z Z (fun w' hw'=>Ys Z)<|aw Z Z Z Z Z (fun w' hw'=>bl dW Z) ?_
 refine Ef Z Z Z Z Z (fun w' hw'=>cI Z Z) (fun h73=> ?_) (fun h73=> ?_)
 refine aw Z Z Z Z Z (fun w' hw'=>Yb Z)<|aw Z Z Z Z Z (fun w' hw'=>Yi Z)<|aw Z Z Z Z Z (fun w' hw'=>Ys Z)<|aw Z Z Z Z Z (fun w' hw'=>bl dW Z) ?_
 refine Ef Z Z Z Z Z (fun w' hw'=>cI Z Z) (fun h78=> ?_) (fun h78=> ?_)
 refine aw Z Z Z Z Z (fun w' hw'=>Kt Z Z)<|aw Z Z Z Z Z (fun w' hw'=>Yb Z)<|aw Z Z Z Z Z (fun w' hw'=>Ys Z)<|aw Z Z Z Z Z (fun w' hw'=>Yi Z)<|pP H 0 Z Z Z Z Z dY Z Z I I fun b10 o10 x10 e10=>aw Z Z Z Z Z (fun w' hw'=>Zf nY Z)<|aw Z Z Z Z Z (fun w' hw'=>bd al Z (e10.later hw' 0 _ Z))<|aw Z Z Z Z Z (fun w' hw'=>Ys Z)<|aw Z Z Z Z Z (fun w' hw'=>Yi Z)<|pP H 1 Z Z Z Z Z dY Z Z I I fun b11 o11 x11 e11=>aw Z Z Z Z Z (fun w' hw'=>Zf nY Z)<|aw Z Z Z Z Z (fun w' hw'=>bd al Z (e11.later hw' 0 _ Z)) ?_
 refine Ef Z Z Z Z Z (fun w' hw'=>cr Z Z) (fun h91=> ?_) (fun h91=> ?_)
 refine aw Z Z Z Z Z (fun w' hw'=>Kt Z Z)<|aT ?_
 intro w12 hw' hF
 replace H:=H.later hw';clear hw' hF
 refine U<|ZT Z<|Zk<|Zb<|Zr<|G (Yi Z)<|G (bn Z Z I I)<|G (Wi Z)<|U ?_
 refine⟨j+1,⟨by omega,by omega,by rw[hj,Hq e10.at_ e11.at_ h91];omega,H⟩,ef Z,Qg,by show x.es.length- (j+1)<x.es.length-j;omega⟩
 refine aw Z Z Z Z Z (fun w' hw'=>Kt Z Z)<|aT ?_
 intro w13 hw' hF
 replace H:=H.later hw';clear hw' hF
 refine U<|ZF Z<|Zx ?_
 have hjn:j=n:=by rw[<-hmn,hj];rw[Ho e10.at_ e11.at_ h91];rfl
 exact⟨(),H,ef (by rw[<-hjn];rfl),Qg⟩
 refine aw Z Z Z Z Z (fun w' hw'=>Kt Z Z)<|aw Z Z Z Z Z (fun w' hw'=>Yb Z)<|eW Z Z Z Z<|eW Z Z Z Z<|eW Z Z Z Z<|eW Z Z Z Z<|eW Z Z Z Z<|eW Z Z Z Z<|eW Z Z Z Z<|eW Z Z Z Z<|eW Z Z Z Z<|eW Z Z Z Z<|eW Z Z Z Z<|aw Z Z Z Z Z (fun w' hw'=>N Z Z)<|aT ?_
 intro w14 hw' hF
 replace H:=H.later hw';clear hw' hF
 refine U<|ZF Z<|Zx ?_
 have hjn:j=n:=by rw[<-hmn,hj];rw[Cp I];rfl
 exact⟨(),H,ef (by rw[<-hjn];rfl),Qg⟩
 refine aw Z Z Z Z Z (fun w' hw'=>Yb Z)<|eW Z Z Z Z<|eW Z Z Z Z<|eW Z Z Z Z<|eW Z Z Z Z<|aw Z Z Z Z Z (fun w' hw'=>N Z Z)<|aw Z Z Z Z Z (fun w' hw'=>Yb Z)<|eW Z Z Z Z<|eW Z Z Z Z<|eW Z Z Z Z<|eW Z Z Z Z<|eW Z Z Z Z<|eW Z Z Z Z<|eW Z Z Z Z<|eW Z Z Z Z<|eW Z Z Z Z<|eW Z Z Z Z<|eW Z Z Z Z<|aw Z Z Z Z Z (fun w' hw'=>N Z Z)<|aT ?_
 intro w15 hw' hF
 replace H:=H.later hw';clear hw' hF
 refine U<|ZF Z<|Zx ?_
 have hjn:j=n:=by rw[<-hmn,hj];rw[Cp I];rfl
 exact⟨(),H,ef (by rw[<-hjn];rfl),Qg⟩
 rintro⟨⟩ ρ1 w16 H
 have hyl:=(hok2 hy).1.len
 refine W<|Zr<|G (Yp Z)<|G (Yp Z)<|G (aM Z)<|G (Zf dM Z)<|G (xC 1 [.slice x.A ((bJ x.es).length) x.cap,J (((iF x.es x.s:Nat):Int))] fx row3 hx Z Z (H.ent (i:=2) Z) Z)<|G (Yi Z)<|cE JQ (IZ (gh.log x) n _ (hlg2.log H hx (hok2 hx).1) hnx) Z Z ?_
 have hlo9:=H.size
 rintro _ w17 ⟨A102,c102,rfl,hc102,hr102,hb102⟩;replace H:=H.learnRd hb102 hr102;clear hr102 hb102
 refine G (Yu Z)<|G (Xa Z Z)<|G (Xi Z Z)<|G (aM Z)<|G (Zf dM Z)<|nt H 2 ({x with A:=A102,cap:=c102,es:=x.es.take n,s:=min x.s n,lo:=w16.heap.size,hi:=w17.heap.size}) kU row3 hx 1 Z Z Z Z Z Z N fun w19 cur18 row18 H=> ?_
 have hs20:(rs.set r ({x with A:=A102,cap:=c102,es:=x.es.take n,s:=min x.s n,lo:=w16.heap.size,hi:=w17.heap.size}))[r]? =some ({x with A:=A102,cap:=c102,es:=x.es.take n,s:=min x.s n,lo:=w16.heap.size,hi:=w17.heap.size}):=ak (bZ hx).1
 refine U<|W ?_
 have hlo1:=hlo9
 have hlg3:=(hlg2.cons (f:=ee dQ w16.heap.size w17.heap.size A102 (bJ (x.es.take n)))).set r (x:={x with A:=A102,cap:=c102,es:=x.es.take n,s:=min x.s n,lo:=w16.heap.size,hi:=w17.heap.size}) ⟨hc102,hlo1,ik _⟩
 have hx2:(rs.set r {x with A:=A102,cap:=c102,es:=x.es.take n,s:=min x.s n,lo:=w16.heap.size,hi:=w17.heap.size})[r]? =some {x with A:=A102,cap:=c102,es:=x.es.take n,s:=min x.s n,lo:=w16.heap.size,hi:=w17.heap.size}:=ak I
 have hy2:(rs.set r {x with A:=A102,cap:=c102,es:=x.es.take n,s:=min x.s n,lo:=w16.heap.size,hi:=w17.heap.size})[l]? =some y:=by rw[aO hrl1];exact hy
 have hgl2:GL (x.es.take n) (min x.s n:Nat):=(hok2 hx).1.take n (by simp;omega)
 obtain⟨kx,hkx⟩: ∃ kx,kn[r]? =some kx:=⟨_,ai I⟩
 refine bG cv [0,1,2,3,4,5,6,7,8,9] [10] [5] [0,2,4,6,7,8,9] (sp [(5,Sp.one (.tuple #[J (((x.es.take n).length:Nat):Int),J ((min x.s n:Nat):Int)]))]) N N N N Nq (cG _) ?_
 refine aw Z Z Z Z Z (fun w' hw'=>Zf iZ Z)<|aw Z Z Z Z Z (fun w' hw'=>bd cP Z (aK ((H.later hw').ent (i:=4) Z) Z))<|aw Z Z Z Z Z (fun w' hw'=>Yi Z)<|aw Z Z Z Z Z (fun w' hw'=>kh bo Z ((H.later hw').ent (i:=4) Z) Z)<|aw Z Z Z Z Z (fun w' hw'=>Yi Z)<|jy lg Z Z Z Z Z (fun w' hw'=>(by have hA:=sP ⟨ep,ld,isr,some ⟨g1,0,none⟩,c1,kn,some ⟨g2,0,none⟩,c2,(rs.set r {x with A:=A102,cap:=c102,es:=x.es.take n,s:=min x.s n,lo:=w16.heap.size,hi:=w17.heap.size}),some ⟨g3,0,none⟩,c3,fw,bs⟩ r {x with A:=A102,cap:=c102,es:=x.es.take n,s:=min x.s n,lo:=w16.heap.size,hi:=w17.heap.size} w' (row18.rd0 ((H.later hw').ent (i:=2) Z)) hx2 (hlg3.log (H.later hw') hx2 hgl2);simp only[Pa.v,Pa.c,ae]at hA;exact hA)) Z<|aw Z Z Z Z Z (fun w' hw'=>Yu Z)<|aw Z Z Z Z Z (fun w' hw'=>Xi Z Z)<|aw Z Z Z Z Z (fun w' hw'=>Xi Z Z)<|aw Z Z Z Z Z (fun w' hw'=>cL bj Z Z (by first|omega|(simp only[ae];omega)))<|aT ?_
 intro w21 hw' hF
 replace H:=H.later hw';clear hw' hF
 refine nt H 1 ((((min x.s n:Nat):Int))) bN row2 hkx 0 Z Z Z Z Z Z N fun w23 cur22 row22 H=> ?_
 have hs24:(kn.set r ((((min x.s n:Nat):Int))))[r]? =some ((((min x.s n:Nat):Int))):=ak (bZ hkx).1
 refine U<|W<|Zr<|G (Zw bo H 4 Z Z Z)<|cE pI ((by have hA:=FJ ep ld isr c1 (kn.set r ((min x.s n:Nat):Int)) c2 (rs.set r {x with A:=A102,cap:=c102,es:=x.es.take n,s:=min x.s n,lo:=w16.heap.size,hi:=w17.heap.size}) c3 fw bs l y H row1 row22 row18 (by simp only[ae];omega) (by simp only[ae];omega) (by simp only[ae];omega) hld hy2 (hlg3 _ (ab hy2)).2.2 (hok2 hy).1 (hlg3 _ (ab hy2)).1;simp only[Pa.v,Pa.c,ae]at hA;exact hA)) Z Z ?_
 rintro _ w25 ⟨u9,rfl,row9,H⟩
 replace hlg3:=hlg3.same l (x':={y with high:=(max y.high (min (dr isr (kn.set r ((min x.s n:Nat):Int)) 400) (y.es.length:Nat)))}) hy2 Z Z Z Z Z
 have hx3:((rs.set r {x with A:=A102,cap:=c102,es:=x.es.take n,s:=min x.s n,lo:=w16.heap.size,hi:=w17.heap.size}).set l {y with high:=(max y.high (min (dr isr (kn.set r ((min x.s n:Nat):Int)) 400) (y.es.length:Nat)))})[r]? =some {x with A:=A102,cap:=c102,es:=x.es.take n,s:=min x.s n,lo:=w16.heap.size,hi:=w17.heap.size}:=by rw[aO (Ne.symm hrl1),ak I]
 have hy3:((rs.set r {x with A:=A102,cap:=c102,es:=x.es.take n,s:=min x.s n,lo:=w16.heap.size,hi:=w17.heap.size}).set l {y with high:=(max y.high (min (dr isr (kn.set r ((min x.s n:Nat):Int)) 400) (y.es.length:Nat)))})[l]? =some {y with high:=(max y.high (min (dr isr (kn.set r ((min x.s n:Nat):Int)) 400) (y.es.length:Nat)))}:=ak (by simp only[ae];omega)
 refine bI H 4 (#[J (ep),J (ld),.slice (Qd g1) isr.length c1,.slice (Qd g2) kn.length c2,.slice (Qd g3) rs.length c3,J (fw),J (bs)]) bk Z Z Z Z Z N N fun w26 H=>U<|W<|Zr<|G (Wi Z)<|U<|W<|W<|Zr<|G (Yi Z)<|G (Ys Z)<|G (bl dW Z) ?_
 refine dZ (cI Z Z) Z Z Z (fun h122=> ?_) (fun h122=> ?_)
 refine U<|ZT Z<|W ?_
 obtain⟨z,hz⟩: ∃ z,y.es[n]? =some z:=⟨_,ai I⟩
 have hgz:lj z:=(hok2 hy).1.good z (ab hz)
 have hrm:(x.es.take n).length<400:=by have:=(hok2 hy).1.len;simp;omega
 have hlo9:=H.size
 refine bG cv [0,1,2,3,4,5,6,7,8,9,10,11,12] [13,14] [8,12] [0,1,2,4,5,6,9,10,11] (sp [(8,Sp.nrow w26.heap.size dQ (bJ (x.es.take n++[z])) (fun A c=> .tuple #[.agg #[.slice A (bJ (x.es.take n++[z])).length c,J (iF (x.es.take n++[z]) (min x.s n:Nat):Nat)],J 0])),(12,Sp.blk w26.heap.size (.agg #[.slice none 0 0,J 0]) ID)]) N N N N Nq (cG _) ?_
 refine aw Z Z Z Z Z (fun w' hw'=>Yp Z)<|aw Z Z Z Z Z (fun w' hw'=>aM Z)<|aw Z Z Z Z Z (fun w' hw'=>Zf dM Z)<|aw Z Z Z Z Z (fun w' hw'=>xC 1 [.slice (({x with A:=A102,cap:=c102,es:=x.es.take n,s:=min x.s n,lo:=w16.heap.size,hi:=w17.heap.size}).A) ((bJ ({x with A:=A102,cap:=c102,es:=x.es.take n,s:=min x.s n,lo:=w16.heap.size,hi:=w17.heap.size}).es).length) (({x with A:=A102,cap:=c102,es:=x.es.take n,s:=min x.s n,lo:=w16.heap.size,hi:=w17.heap.size}).cap),J (((iF ({x with A:=A102,cap:=c102,es:=x.es.take n,s:=min x.s n,lo:=w16.heap.size,hi:=w17.heap.size}).es ({x with A:=A102,cap:=c102,es:=x.es.take n,s:=min x.s n,lo:=w16.heap.size,hi:=w17.heap.size}).s:Nat):Int))] fx row9 hx3 Z Z ((H.later hw').ent (i:=2) Z) Z)<|aw Z Z Z Z Z (fun w' hw'=>Ys Z)<|aw Z Z Z Z Z (fun w' hw'=>Yi Z)<|pP H 2 Z Z Z Z Z dY Z Z I I fun b27 o27 x27 e27=> ?_
 obtain rfl:z=x27:=by have:=e27.at_;rw[hz]at this;exact aZ this
 refine aw Z Z Z Z Z (fun w' hw'=>jF (xs:=cd.c z) dJ Z Z (e27.later hw'))<|JU (gv:=(fun A c=> .tuple #[.agg #[.slice A (bJ (x.es.take n++[z])).length c,J (iF (x.es.take n++[z]) (min x.s n:Nat):Nat)],J 0])) xf Z Z Z Z Z (fun w' hw'=>hw'.size) (fun w' hw'=>wS (gh.log {x with A:=A102,cap:=c102,es:=x.es.take n,s:=min x.s n,lo:=w16.heap.size,hi:=w17.heap.size}) z w' (hlg3.log (H.later hw') hx3 hgl2) hgz hrm) Z fun A132 c132 hc132=>aw Z Z Z Z Z (fun w' hw'=>Yu Z)<|aw Z Z Z Z Z (fun w' hw'=>Xa Z Z)<|aw Z Z Z Z Z (fun w' hw'=>Xi Z Z)<|y1 uh Z Z Z Z Z (fun w' hw'=>hw'.size) fun b17=>aT ?_
 intro w28 hw' hF
 obtain⟨hF,bq,eq,hge17,hbl17⟩:=hF;cases eq
 obtain⟨hF,Aq,cq,eq,hcq,hrw132⟩:=hF;cases eq;clear hcq
 have Hb:=H
 replace H:=H.adoptNew hw' hbl17 hge17
 obtain⟨lo132,hi132,hlo132,H'⟩:=Hb.learnApart H hw'.size hrw132 (xe hbl17);replace H:=H';clear H'
 clear hw' hF
 refine bI H 0 (#[.slice A132 ((bJ (x.es.take n++[z])).length) c132,J (((iF (x.es.take n++[z]) (min x.s n:Nat):Nat):Int))]) kU Z Z Z Z Z N N fun w29 H=>G (Wi Z)<|U<|W<|Zr<|G (Yi Z)<|G (sw Z Z Z)<|U<|ZT Z<|Zr<|G (Yp Z)<|G (Zw fx H 0 Z Z Z)<|G (aM Z)<|G (Zf dM Z)<|nt H 3 ({x with A:=A132,cap:=c132,es:=x.es.take n++[z],s:=min x.s n,lo:=lo132,hi:=hi132}) kU row9 hx3 1 Z Z Z Z Z Z N fun w31 cur30 row30 H=> ?_
 have hs32:((((rs.set r {x with A:=A102,cap:=c102,es:=x.es.take n,s:=min x.s n,lo:=w16.heap.size,hi:=w17.heap.size}).set l {y with high:=(max y.high (min (dr isr (kn.set r ((min x.s n:Nat):Int)) 400) (y.es.length:Nat)))})).set r ({x with A:=A132,cap:=c132,es:=x.es.take n++[z],s:=min x.s n,lo:=lo132,hi:=hi132}))[r]? =some ({x with A:=A132,cap:=c132,es:=x.es.take n++[z],s:=min x.s n,lo:=lo132,hi:=hi132}):=ak (bZ hx3).1
 refine G (Wi Z)<|U<|W ?_
 have hlg8:=(hlg3.cons (f:=ee dQ lo132 hi132 A132 (bJ (x.es.take n++[z])))).set r (x:={x with A:=A132,cap:=c132,es:=x.es.take n++[z],s:=min x.s n,lo:=lo132,hi:=hi132}) ⟨hc132,aW hlo9 hlo132,ik _⟩
 have hx8:(((rs.set r {x with A:=A102,cap:=c102,es:=x.es.take n,s:=min x.s n,lo:=w16.heap.size,hi:=w17.heap.size}).set l {y with high:=(max y.high (min (dr isr (kn.set r ((min x.s n:Nat):Int)) 400) (y.es.length:Nat)))}).set r {x with A:=A132,cap:=c132,es:=x.es.take n++[z],s:=min x.s n,lo:=lo132,hi:=hi132})[r]? =some {x with A:=A132,cap:=c132,es:=x.es.take n++[z],s:=min x.s n,lo:=lo132,hi:=hi132}:=ak (by simp only[ae];omega)
 have hy8:(((rs.set r {x with A:=A102,cap:=c102,es:=x.es.take n,s:=min x.s n,lo:=w16.heap.size,hi:=w17.heap.size}).set l {y with high:=(max y.high (min (dr isr (kn.set r ((min x.s n:Nat):Int)) 400) (y.es.length:Nat)))}).set r {x with A:=A132,cap:=c132,es:=x.es.take n++[z],s:=min x.s n,lo:=lo132,hi:=hi132})[l]? =some {y with high:=(max y.high (min (dr isr (kn.set r ((min x.s n:Nat):Int)) 400) (y.es.length:Nat)))}:=by rw[aO hrl1,ak (by simp only[ae];omega)]
 refine bG cv [0,1,2,3,4,5,6,7,8,9,10,11,12,13,14,15,16,17,18] [19] [] [0,1,2,3,5,7,9,10,12,13,14,15,16,17,18] (sp []) N N N N Nq (cG _) ?_
 refine aw Z Z Z Z Z (fun w' hw'=>Yp Z)<|aw Z Z Z Z Z (fun w' hw'=>Yp Z)<|aw Z Z Z Z Z (fun w' hw'=>aM Z)<|aw Z Z Z Z Z (fun w' hw'=>Zf eU Z)<|aw Z Z Z Z Z (fun w' hw'=>bW al row30 hx8 3 Z ((H.later hw').ent (i:=3) Z) Z)<|aw Z Z Z Z Z (fun w' hw'=>Zf dI Z)<|aw Z Z Z Z Z (fun w' hw'=>bd cF Z (aK ((H.later hw').ent (i:=5) Z) Z))<|aw Z Z Z Z Z (fun w' hw'=>Zf eu Z)<|aw Z Z Z Z Z (fun w' hw'=>bd al Z (aK ((H.later hw').ent (i:=5) Z) Z))<|aw Z Z Z Z Z (fun w' hw'=>cL (k:=l) bQ Z (congrArg (Value.int .i64) hld) (by first|omega|(simp only[ae];omega)))<|aw Z Z Z Z Z (fun w' hw'=>Zf eU Z)<|aw Z Z Z Z Z (fun w' hw'=>bW al row30 hy8 3 Z ((H.later hw').ent (i:=3) Z) Z)<|aw Z Z Z Z Z (fun w' hw'=>FS Z Z)<|aw Z Z Z Z Z (fun w' hw'=>Yi Z)<|aw Z Z Z Z Z (fun w' hw'=>Yi Z)<|aw Z Z Z Z Z (fun w' hw'=>bn Z Z I I)<|aw Z Z Z Z Z (fun w' hw'=>zu Z Z)<|aw Z Z Z Z Z (fun w' hw'=>aM Z)<|aw Z Z Z Z Z (fun w' hw'=>Zf eU Z)<|aT ?_
 intro w33 hw' hF
 replace H:=H.later hw';clear hw' hF
 refine nt H 3 ({x with A:=A132,cap:=c132,es:=x.es.take n++[z],s:=min x.s n,lo:=lo132,hi:=hi132,high:=min (max x.high (max y.high (min (dr isr (kn.set r ((min x.s n:Nat):Int)) 400) (y.es.length:Nat)))) ((n:Nat)+1)}) bN row30 hx8 3 Z Z Z Z Z Z N fun w35 cur34 row34 H=> ?_
 have hs36:(((((rs.set r {x with A:=A102,cap:=c102,es:=x.es.take n,s:=min x.s n,lo:=w16.heap.size,hi:=w17.heap.size}).set l {y with high:=(max y.high (min (dr isr (kn.set r ((min x.s n:Nat):Int)) 400) (y.es.length:Nat)))})).set r ({x with A:=A132,cap:=c132,es:=x.es.take n++[z],s:=min x.s n,lo:=lo132,hi:=hi132})).set r ({x with A:=A132,cap:=c132,es:=x.es.take n++[z],s:=min x.s n,lo:=lo132,hi:=hi132,high:=min (max x.high (max y.high (min (dr isr (kn.set r ((min x.s n:Nat):Int)) 400) (y.es.length:Nat)))) ((n:Nat)+1)}))[r]? =some ({x with A:=A132,cap:=c132,es:=x.es.take n++[z],s:=min x.s n,lo:=lo132,hi:=hi132,high:=min (max x.high (max y.high (min (dr isr (kn.set r ((min x.s n:Nat):Int)) 400) (y.es.length:Nat)))) ((n:Nat)+1)}):=ak (bZ hx8).1
 refine U<|W<|Zr<|G (Zw bo H 5 Z Z Z)<|G (Yi Z)<|bI H 4 (#[J (ep),J (ld),.slice (Qd g1) isr.length c1,.slice (Qd g2) kn.length c2,.slice (Qd g3) rs.length c3,J (fw),J (bs)]) bk Z Z Z Z Z N N fun w37 H=>G (Wi Z)<|G (Wi Z)<|U<|Zt ?_
 have hzf:io x.a y.a (max y.high (min (dr isr (kn.set r ((min x.s n:Nat):Int)) 400) (y.es.length:Nat)))=(⟨x.up,x.es.take n++[z],min x.s n,min (max x.high (max y.high (min (dr isr (kn.set r ((min x.s n:Nat):Int)) 400) (y.es.length:Nat)))) ((n:Nat)+1)⟩,1):=by unfold io;rw[show dV x.a.es y.a.es=n from hmn,show y.a.es[n]? =some z from hz];rfl
 have hS:=nX (p:=(Pa.a ⟨ep,ld,isr,iA,iC,kn,kA,kC,reps,rA,rC,fw,bs⟩)) hxa hld hrl1 (show x.a.up=true from h46) (Jk hma hy)
 rw[show dV x.a.es y.a.es=n from hmn]at hS
 change iU (Pa.a ⟨ep,ld,isr,iA,iC,kn,kA,kC,reps,rA,rC,fw,bs⟩) r=({(Pa.a ⟨ep,ld,isr,iA,iC,kn,kA,kC,reps,rA,rC,fw,bs⟩)with known:=(kn.set r ((min x.s n:Nat):Int)),reps:=((reps.map gh.a).set l {y.a with high:=(max y.high (min (dr isr (kn.set r ((min x.s n:Nat):Int)) 400) (y.es.length:Nat)))}).set r (io x.a y.a (max y.high (min (dr isr (kn.set r ((min x.s n:Nat):Int)) 400) (y.es.length:Nat)))).1},(io x.a y.a (max y.high (min (dr isr (kn.set r ((min x.s n:Nat):Int)) 400) (y.es.length:Nat)))).2,0)at hS
 rw[hS,hzf]
 have hlg9:=hlg8.same r (x':={x with A:=A132,cap:=c132,es:=x.es.take n++[z],s:=min x.s n,lo:=lo132,hi:=hi132,high:=min (max x.high (max y.high (min (dr isr (kn.set r ((min x.s n:Nat):Int)) 400) (y.es.length:Nat)))) ((n:Nat)+1)}) hx8 Z Z Z Z Z
 exact gM (cs0:= #[J (ep),J (ld),.slice (Qd g1) isr.length c1,.slice (Qd g2) kn.length c2,.slice (Qd g3) rs.length c3,J (fw),J (bs)]) (v1:=J 1) (v2:=J 0) Z bo Z (H.ent (i:=4) Z) Z Z Z ⟨_,by simp[Pa.c],by simp only[Pa.a,cO,hma,gh.a,fS,Dr _ _ hrl2],(iI.mk_ (p:=⟨ep,ld,isr,some ⟨g1,0,none⟩,c1,(kn.set r ((min x.s n:Nat):Int)),some ⟨g2,0,none⟩,c2,_,some ⟨g3,0,none⟩,c3,fw,bs⟩) Z Z Z row1 row22 row34 hlg9 (by dsimp only;first|omega|(simp only[ae,bc];omega)) H ⟨by simp,by simp,by simp⟩)⟩
 refine U<|ZF Z<|Zk<|W ?_
 refine bG cv [0,1,2,3,4,5,6,7,8,9,10,11,12,13,14,15,16,17,18] [19] [] [0,1,2,3,5,7,9,10,12,13,14,15,16,17,18] (sp []) N N N N Nq (cG _) ?_
 refine aw Z Z Z Z Z (fun w' hw'=>Yp Z)<|aw Z Z Z Z Z (fun w' hw'=>Yp Z)<|aw Z Z Z Z Z (fun w' hw'=>aM Z)<|aw Z Z Z Z Z (fun w' hw'=>Zf eU Z)<|aw Z Z Z Z Z (fun w' hw'=>bW al row9 hx3 3 Z ((H.later hw').ent (i:=2) Z) Z)<|aw Z Z Z Z Z (fun w' hw'=>Zf dI Z)<|aw Z Z Z Z Z (fun w' hw'=>bd cF Z (aK ((H.later hw').ent (i:=4) Z) Z))<|aw Z Z Z Z Z (fun w' hw'=>Zf eu Z)<|aw Z Z Z Z Z (fun w' hw'=>bd al Z (aK ((H.later hw').ent (i:=4) Z) Z))<|aw Z Z Z Z Z (fun w' hw'=>cL (k:=l) bQ Z (congrArg (Value.int .i64) hld) (by first|omega|(simp only[ae];omega)))<|aw Z Z Z Z Z (fun w' hw'=>Zf eU Z)<|aw Z Z Z Z Z (fun w' hw'=>bW al row9 hy3 3 Z ((H.later hw').ent (i:=2) Z) Z)<|aw Z Z Z Z Z (fun w' hw'=>FS Z Z)<|aw Z Z Z Z Z (fun w' hw'=>Yi Z)<|aw Z Z Z Z Z (fun w' hw'=>Yi Z)<|aw Z Z Z Z Z (fun w' hw'=>bn Z Z I I)<|aw Z Z Z Z Z (fun w' hw'=>zu Z Z)<|aw Z Z Z Z Z (fun w' hw'=>aM Z)<|aw Z Z Z Z Z (fun w' hw'=>Zf eU Z)<|aT ?_
 intro w38 hw' hF
 replace H:=H.later hw';clear hw' hF
 refine nt H 2 ({x with A:=A102,cap:=c102,es:=x.es.take n,s:=min x.s n,lo:=w16.heap.size,hi:=w17.heap.size,high:=min (max x.high (max y.high (min (dr isr (kn.set r ((min x.s n:Nat):Int)) 400) (y.es.length:Nat)))) (n:Nat)}) bN row9 hx3 3 Z Z Z Z Z Z N fun w40 cur39 row39 H=> ?_
 have hs41:((((rs.set r {x with A:=A102,cap:=c102,es:=x.es.take n,s:=min x.s n,lo:=w16.heap.size,hi:=w17.heap.size}).set l {y with high:=(max y.high (min (dr isr (kn.set r ((min x.s n:Nat):Int)) 400) (y.es.length:Nat)))})).set r ({x with A:=A102,cap:=c102,es:=x.es.take n,s:=min x.s n,lo:=w16.heap.size,hi:=w17.heap.size,high:=min (max x.high (max y.high (min (dr isr (kn.set r ((min x.s n:Nat):Int)) 400) (y.es.length:Nat)))) (n:Nat)}))[r]? =some ({x with A:=A102,cap:=c102,es:=x.es.take n,s:=min x.s n,lo:=w16.heap.size,hi:=w17.heap.size,high:=min (max x.high (max y.high (min (dr isr (kn.set r ((min x.s n:Nat):Int)) 400) (y.es.length:Nat)))) (n:Nat)}):=ak (bZ hx3).1
 refine U<|W<|Zr<|G (Zw bo H 4 Z Z Z)<|G (Yi Z)<|bI H 3 (#[J (ep),J (ld),.slice (Qd g1) isr.length c1,.slice (Qd g2) kn.length c2,.slice (Qd g3) rs.length c3,J (fw),J (bs)]) bk Z Z Z Z Z N N fun w42 H=>G (Wi Z)<|G (Wi Z)<|U<|Zt ?_
 have hzf:io x.a y.a (max y.high (min (dr isr (kn.set r ((min x.s n:Nat):Int)) 400) (y.es.length:Nat)))=(⟨x.up,x.es.take n,min x.s n,min (max x.high (max y.high (min (dr isr (kn.set r ((min x.s n:Nat):Int)) 400) (y.es.length:Nat)))) (n:Nat)⟩,0):=by unfold io;rw[show dV x.a.es y.a.es=n from hmn,show y.a.es[n]? =none from bL (by show y.es.length<=n;omega)];rfl
 have hS:=nX (p:=(Pa.a ⟨ep,ld,isr,iA,iC,kn,kA,kC,reps,rA,rC,fw,bs⟩)) hxa hld hrl1 (show x.a.up=true from h46) (Jk hma hy)
 rw[show dV x.a.es y.a.es=n from hmn]at hS
 change iU (Pa.a ⟨ep,ld,isr,iA,iC,kn,kA,kC,reps,rA,rC,fw,bs⟩) r=({(Pa.a ⟨ep,ld,isr,iA,iC,kn,kA,kC,reps,rA,rC,fw,bs⟩)with known:=(kn.set r ((min x.s n:Nat):Int)),reps:=((reps.map gh.a).set l {y.a with high:=(max y.high (min (dr isr (kn.set r ((min x.s n:Nat):Int)) 400) (y.es.length:Nat)))}).set r (io x.a y.a (max y.high (min (dr isr (kn.set r ((min x.s n:Nat):Int)) 400) (y.es.length:Nat)))).1},(io x.a y.a (max y.high (min (dr isr (kn.set r ((min x.s n:Nat):Int)) 400) (y.es.length:Nat)))).2,0)at hS
 rw[hS,hzf]
 have hlg9:=hlg3.same r (x':={x with A:=A102,cap:=c102,es:=x.es.take n,s:=min x.s n,lo:=w16.heap.size,hi:=w17.heap.size,high:=min (max x.high (max y.high (min (dr isr (kn.set r ((min x.s n:Nat):Int)) 400) (y.es.length:Nat)))) (n:Nat)}) hx3 Z Z Z Z Z
 exact gM (cs0:= #[J (ep),J (ld),.slice (Qd g1) isr.length c1,.slice (Qd g2) kn.length c2,.slice (Qd g3) rs.length c3,J (fw),J (bs)]) (v1:=J 0) (v2:=J 0) Z bo Z (H.ent (i:=3) Z) Z Z Z ⟨_,by simp[Pa.c],by simp only[Pa.a,cO,hma,gh.a,fS,Dr _ _ hrl2],(iI.mk_ (p:=⟨ep,ld,isr,some ⟨g1,0,none⟩,c1,(kn.set r ((min x.s n:Nat):Int)),some ⟨g2,0,none⟩,c2,_,some ⟨g3,0,none⟩,c3,fw,bs⟩) Z Z Z row1 row22 row39 hlg9 (by dsimp only;first|omega|(simp only[ae,bc];omega)) H ⟨by simp,by simp,by simp⟩)⟩
 refine G (d9 Z)<|U<|ZT Z<|W<|Zr<|G (bp (cs:= #[J (0),J (0),.slice none 0 0,.slice none 0 0,.slice none 0 0,J (0),J (0)]) dx bT N)<|bI H 3 (#[J (0),J (0),.slice none 0 0,.slice none 0 0,.slice none 0 0,J (0),J (0)]) bk Z Z Z Z Z N N fun w43 H=>G (Wi Z)<|G (Wi Z)<|U<|Zt ?_
 have hS:iU (Pa.a ⟨ep,ld,isr,iA,iC,kn,kA,kC,reps,rA,rC,fw,bs⟩) r=(mF,0,7):=by simp[iU,Pa.a,hxa,gh.a,show¬ (ld<0∨ld=(r:Int)) by omega,h46]
 rw[hS]
 exact gM (cs0:= #[J 0,J 0,.slice none 0 0,.slice none 0 0,.slice none 0 0,J 0,J 0]) (v1:=J 0) (v2:=J 7) Z bo Z (H.ent (i:=3) Z) Z Z Z ⟨KS,rfl,rfl,iI.zero H.below⟩
abbrev mo (n few b25 b27 b29:Nat):Array Value:= #[J 0,J (-1),.slice (Qd b25) n n,.slice (Qd b27) n n,.slice (Qd b29) n n,J ((few:Nat):Int),J 0]
theorem gd:(aa.info? kb).map (fun i=>(i.zero,i.size,i.bytes))=some (some (.bool false),1,1):=by kernel_rfl
theorem ic:(aa.info? fM).map (fun i=>(i.zero,i.size,i.bytes))=some (some (.agg #[.bool false,.slice none 0 0,J 0,J 0]),4,48):=by kernel_rfl
theorem NM {α:Type} {l:List α} {n:Nat} {a:α} (hl:l.length=n) (h: ∀ j,j<n->l[j]? =some a):l=ao n a:=by
 rw[List.eq_replicate_iff]
 refine⟨hl,fun b hb=> ?_⟩
 obtain⟨j,hj⟩:=aN.1 hb
 have:=h j (by have:=(bZ hj).1;omega)
 rw[hj]at this
 exact aZ this
def l8 (n few:Nat):gi:=⟨0,-1,ao n true,ao n 0,ao n ⟨true,[],0,0⟩,few,0⟩
theorem Qq (n few:Nat) (w:World) (hn:1<=n) (hn5:n<=5) (hf:1<=few) (hfn:few<=n):di aa Jx [J (n:Nat),J (few:Nat)] w fun v w2=> ∃ p':Pa,v=.tuple #[p'.v,J 0]/\p'.a=l8 n few/\iI w w2 p':=by
 refine aG HT Z Z ?_
 have H:=Hp.start w
 refine W<|Zr<|fc H bT Z fun w1 b4 H=>G (Wi Z)<|U<|W<|W<|Zr<|G (Yi Z)<|G (cV Z Z I)<|G (Yb Z)<|ZG<|G (Yi Z)<|ZG<|G (dX Z Z I)<|G (N Z Z)<|G (Yb Z)<|ZG<|G (Yi Z)<|ZG<|G (cV Z Z I)<|G (N Z Z)<|G (Yb Z)<|ZG<|G (Yi Z)<|ZG<|G (Yi Z)<|ZG<|G (dX Z Z I)<|G (N Z Z)<|U<|ZF Z<|Zk<|W ?_
 refine gp (τ:=Nat×Nat×Nat×Nat) [6,24,25,26,27,28,29,30,31] (fun(b6,_)=>[(6,.pointer (Qd b6))]) (fun(b6,b25,b27,b29) w'=> ∃ v1 v2 v3,d8 fJ (ao n false) n v1/\d8 bR (ao n 0) n v2/\d8 iT (ao n ⟨false,none,0,[],0,0,w.heap.size,w.heap.size⟩) n v3/\Hp w w' [(b6,.cells #[J 0,J (-1),.slice (Qd b25) n n,.slice (Qd b27) n n,.slice (Qd b29) n n,J ((few:Nat):Int),J 0] bY (0,0)),(b25,.cells v1 kb (0,0)),(b27,.cells v2 cM (0,0)),(b29,.cells v3 fM (0,0)),(b4,.cells #[J 0,J 0,.slice none 0 0,.slice none 0 0,.slice none 0 0,J 0,J 0] bY (0,0))] []) ?_ ?_
 ·skip
  refine rL cv [0,2,4,6] [1,3,5,7,8,9] [0,2,4,6] 6 N N N Nq ?_
  refine aw Z Z Z Z Z (fun w' hw'=>Yi Z)<|aw Z Z Z Z Z (fun w' hw'=>Yi Z)<|aw Z Z Z Z Z (fun w' hw'=>Yi Z)<|aw Z Z Z Z Z (fun w' hw'=>Yi Z)<|aT ?_
  intro w2 hw';replace H:=H.later hw';clear hw'
  refine Uh 1 3 5 8 N Z Z Z Z ?_ ?_ ?_ ?_
  ·
   refine pM (Y:=fJ) (false) n H ff gd Z Z Z I I Z fun w3 b25 cur25 row25 H=>U ?_
   refine Tl 3 5 8 N Z Z Z ?_ ?_ ?_
   ·
    refine pM (Y:=bR) (0) n H bj gJ Z Z Z I I Z fun w4 b27 cur27 row27 H=>U ?_
    refine uN 5 8 N Z Z ?_ ?_
    ·
     refine pM (Y:=iT) (⟨false,none,0,[],0,0,w.heap.size,w.heap.size⟩) n H bQ ic Z Z Z I I Z fun w5 b29 cur29 row29 H=>U ?_
     refine uN 7 8 N Z Z ?_ ?_
     ·
      refine G (bp (cs:=(mo n few b25 b27 b29)) dx bT N)<|U<|db 8 N Z<|fc H bT Z fun w6 b6 H=>U<|db 9 N Z<|bI H 0 (mo n few b25 b27 b29) bk Z Z Z Z Z N N fun w7 H=>U<|cz N ?_
      exact⟨(b6,b25,b27,b29),⟨_,_,_,row25,row27,row29,H.perm ((ah _ (ah _ (am _ _ _))).trans ((ah _ (am _ _ _)).trans (ah _ (ah _ (am _ _ _)))))⟩,ef Z,Qg⟩
     ·
      refine fc H bT Z fun w8 b6 H=>U<|db 7 N Z<|G (bp (cs:=(mo n few b25 b27 b29)) dx bT N)<|U<|db 9 N Z<|bI H 0 (mo n few b25 b27 b29) bk Z Z Z Z Z N N fun w9 H=>U<|cz N ?_
      exact⟨(b6,b25,b27,b29),⟨_,_,_,row25,row27,row29,H.perm ((ah _ (ah _ (am _ _ _))).trans ((ah _ (am _ _ _)).trans (ah _ (ah _ (am _ _ _)))))⟩,ef Z,Qg⟩
    ·
     refine fc H bT Z fun w10 b6 H=>U<|db 5 N Z<|pM (Y:=iT) (⟨false,none,0,[],0,0,w.heap.size,w.heap.size⟩) n H bQ ic Z Z Z I I Z fun w11 b29 cur29 row29 H=>U<|db 7 N Z<|G (bp (cs:=(mo n few b25 b27 b29)) dx bT N)<|U<|db 9 N Z<|bI H 1 (mo n few b25 b27 b29) bk Z Z Z Z Z N N fun w12 H=>U<|cz N ?_
     exact⟨(b6,b25,b27,b29),⟨_,_,_,row25,row27,row29,H.perm ((ah _ (ah _ (am _ _ _))).trans ((ah _ (am _ _ _)).trans ((am _ _ _).trans (ah _ (ah _ (am _ _ _))))))⟩,ef Z,Qg⟩
   ·
    refine pM (Y:=iT) (⟨false,none,0,[],0,0,w.heap.size,w.heap.size⟩) n H bQ ic Z Z Z I I Z fun w13 b29 cur29 row29 H=>U ?_
    refine uN 3 8 N Z Z ?_ ?_
    ·
     refine pM (Y:=bR) (0) n H bj gJ Z Z Z I I Z fun w14 b27 cur27 row27 H=>U ?_
     refine uN 7 8 N Z Z ?_ ?_
     ·
      refine G (bp (cs:=(mo n few b25 b27 b29)) dx bT N)<|U<|db 8 N Z<|fc H bT Z fun w15 b6 H=>U<|db 9 N Z<|bI H 0 (mo n few b25 b27 b29) bk Z Z Z Z Z N N fun w16 H=>U<|cz N ?_
      exact⟨(b6,b25,b27,b29),⟨_,_,_,row25,row27,row29,H.perm ((ah _ (am _ _ _)).trans (ah _ (ah _ (am _ _ _))))⟩,ef Z,Qg⟩
     ·
      refine fc H bT Z fun w17 b6 H=>U<|db 7 N Z<|G (bp (cs:=(mo n few b25 b27 b29)) dx bT N)<|U<|db 9 N Z<|bI H 0 (mo n few b25 b27 b29) bk Z Z Z Z Z N N fun w18 H=>U<|cz N ?_
      exact⟨(b6,b25,b27,b29),⟨_,_,_,row25,row27,row29,H.perm ((ah _ (am _ _ _)).trans (ah _ (ah _ (am _ _ _))))⟩,ef Z,Qg⟩
    ·
     refine fc H bT Z fun w19 b6 H=>U<|db 3 N Z<|pM (Y:=bR) (0) n H bj gJ Z Z Z I I Z fun w20 b27 cur27 row27 H=>U<|db 7 N Z<|G (bp (cs:=(mo n few b25 b27 b29)) dx bT N)<|U<|db 9 N Z<|bI H 1 (mo n few b25 b27 b29) bk Z Z Z Z Z N N fun w21 H=>U<|cz N ?_
     exact⟨(b6,b25,b27,b29),⟨_,_,_,row25,row27,row29,H.perm ((ah _ (am _ _ _)).trans ((am _ _ _).trans (ah _ (ah _ (am _ _ _)))))⟩,ef Z,Qg⟩
   ·
    refine fc H bT Z fun w22 b6 H=>U ?_
    refine uN 3 5 N Z Z ?_ ?_
    ·
     refine pM (Y:=bR) (0) n H bj gJ Z Z Z I I Z fun w23 b27 cur27 row27 H=>U<|db 5 N Z<|pM (Y:=iT) (⟨false,none,0,[],0,0,w.heap.size,w.heap.size⟩) n H bQ ic Z Z Z I I Z fun w24 b29 cur29 row29 H=>U<|db 7 N Z<|G (bp (cs:=(mo n few b25 b27 b29)) dx bT N)<|U<|db 9 N Z<|bI H 2 (mo n few b25 b27 b29) bk Z Z Z Z Z N N fun w25 H=>U<|cz N ?_
     exact⟨(b6,b25,b27,b29),⟨_,_,_,row25,row27,row29,H.perm ((ah _ (ah _ (am _ _ _))).trans ((ah _ (am _ _ _)).trans ((am _ _ _).trans ((ah _ (ah _ (am _ _ _))).trans (ah _ (am _ _ _))))))⟩,ef Z,Qg⟩
    ·
     refine pM (Y:=iT) (⟨false,none,0,[],0,0,w.heap.size,w.heap.size⟩) n H bQ ic Z Z Z I I Z fun w26 b29 cur29 row29 H=>U<|db 3 N Z<|pM (Y:=bR) (0) n H bj gJ Z Z Z I I Z fun w27 b27 cur27 row27 H=>U<|db 7 N Z<|G (bp (cs:=(mo n few b25 b27 b29)) dx bT N)<|U<|db 9 N Z<|bI H 2 (mo n few b25 b27 b29) bk Z Z Z Z Z N N fun w28 H=>U<|cz N ?_
     exact⟨(b6,b25,b27,b29),⟨_,_,_,row25,row27,row29,H.perm ((ah _ (am _ _ _)).trans ((am _ _ _).trans ((ah _ (ah _ (am _ _ _))).trans (ah _ (am _ _ _)))))⟩,ef Z,Qg⟩
  ·
   refine pM (Y:=bR) (0) n H bj gJ Z Z Z I I Z fun w29 b27 cur27 row27 H=>U ?_
   refine Tl 1 5 8 N Z Z Z ?_ ?_ ?_
   ·
    refine pM (Y:=fJ) (false) n H ff gd Z Z Z I I Z fun w30 b25 cur25 row25 H=>U ?_
    refine uN 5 8 N Z Z ?_ ?_
    ·
     refine pM (Y:=iT) (⟨false,none,0,[],0,0,w.heap.size,w.heap.size⟩) n H bQ ic Z Z Z I I Z fun w31 b29 cur29 row29 H=>U ?_
     refine uN 7 8 N Z Z ?_ ?_
     ·
      refine G (bp (cs:=(mo n few b25 b27 b29)) dx bT N)<|U<|db 8 N Z<|fc H bT Z fun w32 b6 H=>U<|db 9 N Z<|bI H 0 (mo n few b25 b27 b29) bk Z Z Z Z Z N N fun w33 H=>U<|cz N ?_
      exact⟨(b6,b25,b27,b29),⟨_,_,_,row25,row27,row29,H.perm ((ah _ (ah _ (am _ _ _))).trans (ah _ (am _ _ _)))⟩,ef Z,Qg⟩
     ·
      refine fc H bT Z fun w34 b6 H=>U<|db 7 N Z<|G (bp (cs:=(mo n few b25 b27 b29)) dx bT N)<|U<|db 9 N Z<|bI H 0 (mo n few b25 b27 b29) bk Z Z Z Z Z N N fun w35 H=>U<|cz N ?_
      exact⟨(b6,b25,b27,b29),⟨_,_,_,row25,row27,row29,H.perm ((ah _ (ah _ (am _ _ _))).trans (ah _ (am _ _ _)))⟩,ef Z,Qg⟩
    ·
     refine fc H bT Z fun w36 b6 H=>U<|db 5 N Z<|pM (Y:=iT) (⟨false,none,0,[],0,0,w.heap.size,w.heap.size⟩) n H bQ ic Z Z Z I I Z fun w37 b29 cur29 row29 H=>U<|db 7 N Z<|G (bp (cs:=(mo n few b25 b27 b29)) dx bT N)<|U<|db 9 N Z<|bI H 1 (mo n few b25 b27 b29) bk Z Z Z Z Z N N fun w38 H=>U<|cz N ?_
     exact⟨(b6,b25,b27,b29),⟨_,_,_,row25,row27,row29,H.perm ((ah _ (ah _ (am _ _ _))).trans ((ah _ (am _ _ _)).trans (am _ _ _)))⟩,ef Z,Qg⟩
   ·
    refine pM (Y:=iT) (⟨false,none,0,[],0,0,w.heap.size,w.heap.size⟩) n H bQ ic Z Z Z I I Z fun w39 b29 cur29 row29 H=>U ?_
    refine uN 1 8 N Z Z ?_ ?_
    ·
     refine pM (Y:=fJ) (false) n H ff gd Z Z Z I I Z fun w40 b25 cur25 row25 H=>U ?_
     refine uN 7 8 N Z Z ?_ ?_
     ·
      refine G (bp (cs:=(mo n few b25 b27 b29)) dx bT N)<|U<|db 8 N Z<|fc H bT Z fun w41 b6 H=>U<|db 9 N Z<|bI H 0 (mo n few b25 b27 b29) bk Z Z Z Z Z N N fun w42 H=>U<|cz N ?_
      exact⟨(b6,b25,b27,b29),⟨_,_,_,row25,row27,row29,H.perm (ah _ (ah _ (am _ _ _)))⟩,ef Z,Qg⟩
     ·
      refine fc H bT Z fun w43 b6 H=>U<|db 7 N Z<|G (bp (cs:=(mo n few b25 b27 b29)) dx bT N)<|U<|db 9 N Z<|bI H 0 (mo n few b25 b27 b29) bk Z Z Z Z Z N N fun w44 H=>U<|cz N ?_
      exact⟨(b6,b25,b27,b29),⟨_,_,_,row25,row27,row29,H.perm (ah _ (ah _ (am _ _ _)))⟩,ef Z,Qg⟩
    ·
     refine fc H bT Z fun w45 b6 H=>U<|db 1 N Z<|pM (Y:=fJ) (false) n H ff gd Z Z Z I I Z fun w46 b25 cur25 row25 H=>U<|db 7 N Z<|G (bp (cs:=(mo n few b25 b27 b29)) dx bT N)<|U<|db 9 N Z<|bI H 1 (mo n few b25 b27 b29) bk Z Z Z Z Z N N fun w47 H=>U<|cz N ?_
     exact⟨(b6,b25,b27,b29),⟨_,_,_,row25,row27,row29,H.perm ((am _ _ _).trans (ah _ (ah _ (am _ _ _))))⟩,ef Z,Qg⟩
   ·
    refine fc H bT Z fun w48 b6 H=>U ?_
    refine uN 1 5 N Z Z ?_ ?_
    ·
     refine pM (Y:=fJ) (false) n H ff gd Z Z Z I I Z fun w49 b25 cur25 row25 H=>U<|db 5 N Z<|pM (Y:=iT) (⟨false,none,0,[],0,0,w.heap.size,w.heap.size⟩) n H bQ ic Z Z Z I I Z fun w50 b29 cur29 row29 H=>U<|db 7 N Z<|G (bp (cs:=(mo n few b25 b27 b29)) dx bT N)<|U<|db 9 N Z<|bI H 2 (mo n few b25 b27 b29) bk Z Z Z Z Z N N fun w51 H=>U<|cz N ?_
     exact⟨(b6,b25,b27,b29),⟨_,_,_,row25,row27,row29,H.perm ((ah _ (ah _ (am _ _ _))).trans ((ah _ (am _ _ _)).trans ((am _ _ _).trans (ah _ (am _ _ _)))))⟩,ef Z,Qg⟩
    ·
     refine pM (Y:=iT) (⟨false,none,0,[],0,0,w.heap.size,w.heap.size⟩) n H bQ ic Z Z Z I I Z fun w52 b29 cur29 row29 H=>U<|db 1 N Z<|pM (Y:=fJ) (false) n H ff gd Z Z Z I I Z fun w53 b25 cur25 row25 H=>U<|db 7 N Z<|G (bp (cs:=(mo n few b25 b27 b29)) dx bT N)<|U<|db 9 N Z<|bI H 2 (mo n few b25 b27 b29) bk Z Z Z Z Z N N fun w54 H=>U<|cz N ?_
     exact⟨(b6,b25,b27,b29),⟨_,_,_,row25,row27,row29,H.perm ((am _ _ _).trans ((ah _ (ah _ (am _ _ _))).trans (ah _ (am _ _ _))))⟩,ef Z,Qg⟩
  ·
   refine pM (Y:=iT) (⟨false,none,0,[],0,0,w.heap.size,w.heap.size⟩) n H bQ ic Z Z Z I I Z fun w55 b29 cur29 row29 H=>U ?_
   refine Tl 1 3 8 N Z Z Z ?_ ?_ ?_
   ·
    refine pM (Y:=fJ) (false) n H ff gd Z Z Z I I Z fun w56 b25 cur25 row25 H=>U ?_
    refine uN 3 8 N Z Z ?_ ?_
    ·
     refine pM (Y:=bR) (0) n H bj gJ Z Z Z I I Z fun w57 b27 cur27 row27 H=>U ?_
     refine uN 7 8 N Z Z ?_ ?_
     ·
      refine G (bp (cs:=(mo n few b25 b27 b29)) dx bT N)<|U<|db 8 N Z<|fc H bT Z fun w58 b6 H=>U<|db 9 N Z<|bI H 0 (mo n few b25 b27 b29) bk Z Z Z Z Z N N fun w59 H=>U<|cz N ?_
      exact⟨(b6,b25,b27,b29),⟨_,_,_,row25,row27,row29,H.perm (ah _ (am _ _ _))⟩,ef Z,Qg⟩
     ·
      refine fc H bT Z fun w60 b6 H=>U<|db 7 N Z<|G (bp (cs:=(mo n few b25 b27 b29)) dx bT N)<|U<|db 9 N Z<|bI H 0 (mo n few b25 b27 b29) bk Z Z Z Z Z N N fun w61 H=>U<|cz N ?_
      exact⟨(b6,b25,b27,b29),⟨_,_,_,row25,row27,row29,H.perm (ah _ (am _ _ _))⟩,ef Z,Qg⟩
    ·
     refine fc H bT Z fun w62 b6 H=>U<|db 3 N Z<|pM (Y:=bR) (0) n H bj gJ Z Z Z I I Z fun w63 b27 cur27 row27 H=>U<|db 7 N Z<|G (bp (cs:=(mo n few b25 b27 b29)) dx bT N)<|U<|db 9 N Z<|bI H 1 (mo n few b25 b27 b29) bk Z Z Z Z Z N N fun w64 H=>U<|cz N ?_
     exact⟨(b6,b25,b27,b29),⟨_,_,_,row25,row27,row29,H.perm ((ah _ (am _ _ _)).trans (am _ _ _))⟩,ef Z,Qg⟩
   ·
    refine pM (Y:=bR) (0) n H bj gJ Z Z Z I I Z fun w65 b27 cur27 row27 H=>U ?_
    refine uN 1 8 N Z Z ?_ ?_
    ·
     refine pM (Y:=fJ) (false) n H ff gd Z Z Z I I Z fun w66 b25 cur25 row25 H=>U ?_
     refine uN 7 8 N Z Z ?_ ?_
     ·
      refine G (bp (cs:=(mo n few b25 b27 b29)) dx bT N)<|U<|db 8 N Z<|fc H bT Z fun w67 b6 H=>U<|db 9 N Z<|bI H 0 (mo n few b25 b27 b29) bk Z Z Z Z Z N N fun w68 H=>U<|cz N ?_
      exact⟨(b6,b25,b27,b29),⟨_,_,_,row25,row27,row29,H.perm (List.Perm.refl _)⟩,ef Z,Qg⟩
     ·
      refine fc H bT Z fun w69 b6 H=>U<|db 7 N Z<|G (bp (cs:=(mo n few b25 b27 b29)) dx bT N)<|U<|db 9 N Z<|bI H 0 (mo n few b25 b27 b29) bk Z Z Z Z Z N N fun w70 H=>U<|cz N ?_
      exact⟨(b6,b25,b27,b29),⟨_,_,_,row25,row27,row29,H.perm (List.Perm.refl _)⟩,ef Z,Qg⟩
    ·
     refine fc H bT Z fun w71 b6 H=>U<|db 1 N Z<|pM (Y:=fJ) (false) n H ff gd Z Z Z I I Z fun w72 b25 cur25 row25 H=>U<|db 7 N Z<|G (bp (cs:=(mo n few b25 b27 b29)) dx bT N)<|U<|db 9 N Z<|bI H 1 (mo n few b25 b27 b29) bk Z Z Z Z Z N N fun w73 H=>U<|cz N ?_
     exact⟨(b6,b25,b27,b29),⟨_,_,_,row25,row27,row29,H.perm (am _ _ _)⟩,ef Z,Qg⟩
   ·
    refine fc H bT Z fun w74 b6 H=>U ?_
    refine uN 1 3 N Z Z ?_ ?_
    ·
     refine pM (Y:=fJ) (false) n H ff gd Z Z Z I I Z fun w75 b25 cur25 row25 H=>U<|db 3 N Z<|pM (Y:=bR) (0) n H bj gJ Z Z Z I I Z fun w76 b27 cur27 row27 H=>U<|db 7 N Z<|G (bp (cs:=(mo n few b25 b27 b29)) dx bT N)<|U<|db 9 N Z<|bI H 2 (mo n few b25 b27 b29) bk Z Z Z Z Z N N fun w77 H=>U<|cz N ?_
     exact⟨(b6,b25,b27,b29),⟨_,_,_,row25,row27,row29,H.perm ((ah _ (am _ _ _)).trans ((am _ _ _).trans (ah _ (am _ _ _))))⟩,ef Z,Qg⟩
    ·
     refine pM (Y:=bR) (0) n H bj gJ Z Z Z I I Z fun w78 b27 cur27 row27 H=>U<|db 1 N Z<|pM (Y:=fJ) (false) n H ff gd Z Z Z I I Z fun w79 b25 cur25 row25 H=>U<|db 7 N Z<|G (bp (cs:=(mo n few b25 b27 b29)) dx bT N)<|U<|db 9 N Z<|bI H 2 (mo n few b25 b27 b29) bk Z Z Z Z Z N N fun w80 H=>U<|cz N ?_
     exact⟨(b6,b25,b27,b29),⟨_,_,_,row25,row27,row29,H.perm ((am _ _ _).trans (ah _ (am _ _ _)))⟩,ef Z,Qg⟩
  ·
   refine fc H bT Z fun w81 b6 H=>U ?_
   refine Tl 1 3 5 N Z Z Z ?_ ?_ ?_
   ·
    refine pM (Y:=fJ) (false) n H ff gd Z Z Z I I Z fun w82 b25 cur25 row25 H=>U ?_
    refine uN 3 5 N Z Z ?_ ?_
    ·
     refine pM (Y:=bR) (0) n H bj gJ Z Z Z I I Z fun w83 b27 cur27 row27 H=>U<|db 5 N Z<|pM (Y:=iT) (⟨false,none,0,[],0,0,w.heap.size,w.heap.size⟩) n H bQ ic Z Z Z I I Z fun w84 b29 cur29 row29 H=>U<|db 7 N Z<|G (bp (cs:=(mo n few b25 b27 b29)) dx bT N)<|U<|db 9 N Z<|bI H 3 (mo n few b25 b27 b29) bk Z Z Z Z Z N N fun w85 H=>U<|cz N ?_
     exact⟨(b6,b25,b27,b29),⟨_,_,_,row25,row27,row29,H.perm ((ah _ (ah _ (am _ _ _))).trans ((ah _ (am _ _ _)).trans ((am _ _ _).trans ((ah _ (ah _ (am _ _ _))).trans ((ah _ (am _ _ _)).trans (ah _ (ah _ (am _ _ _))))))))⟩,ef Z,Qg⟩
    ·
     refine pM (Y:=iT) (⟨false,none,0,[],0,0,w.heap.size,w.heap.size⟩) n H bQ ic Z Z Z I I Z fun w86 b29 cur29 row29 H=>U<|db 3 N Z<|pM (Y:=bR) (0) n H bj gJ Z Z Z I I Z fun w87 b27 cur27 row27 H=>U<|db 7 N Z<|G (bp (cs:=(mo n few b25 b27 b29)) dx bT N)<|U<|db 9 N Z<|bI H 3 (mo n few b25 b27 b29) bk Z Z Z Z Z N N fun w88 H=>U<|cz N ?_
     exact⟨(b6,b25,b27,b29),⟨_,_,_,row25,row27,row29,H.perm ((ah _ (am _ _ _)).trans ((am _ _ _).trans ((ah _ (ah _ (am _ _ _))).trans ((ah _ (am _ _ _)).trans (ah _ (ah _ (am _ _ _)))))))⟩,ef Z,Qg⟩
   ·
    refine pM (Y:=bR) (0) n H bj gJ Z Z Z I I Z fun w89 b27 cur27 row27 H=>U ?_
    refine uN 1 5 N Z Z ?_ ?_
    ·
     refine pM (Y:=fJ) (false) n H ff gd Z Z Z I I Z fun w90 b25 cur25 row25 H=>U<|db 5 N Z<|pM (Y:=iT) (⟨false,none,0,[],0,0,w.heap.size,w.heap.size⟩) n H bQ ic Z Z Z I I Z fun w91 b29 cur29 row29 H=>U<|db 7 N Z<|G (bp (cs:=(mo n few b25 b27 b29)) dx bT N)<|U<|db 9 N Z<|bI H 3 (mo n few b25 b27 b29) bk Z Z Z Z Z N N fun w92 H=>U<|cz N ?_
     exact⟨(b6,b25,b27,b29),⟨_,_,_,row25,row27,row29,H.perm ((ah _ (ah _ (am _ _ _))).trans ((ah _ (am _ _ _)).trans ((am _ _ _).trans ((ah _ (am _ _ _)).trans (ah _ (ah _ (am _ _ _)))))))⟩,ef Z,Qg⟩
    ·
     refine pM (Y:=iT) (⟨false,none,0,[],0,0,w.heap.size,w.heap.size⟩) n H bQ ic Z Z Z I I Z fun w93 b29 cur29 row29 H=>U<|db 1 N Z<|pM (Y:=fJ) (false) n H ff gd Z Z Z I I Z fun w94 b25 cur25 row25 H=>U<|db 7 N Z<|G (bp (cs:=(mo n few b25 b27 b29)) dx bT N)<|U<|db 9 N Z<|bI H 3 (mo n few b25 b27 b29) bk Z Z Z Z Z N N fun w95 H=>U<|cz N ?_
     exact⟨(b6,b25,b27,b29),⟨_,_,_,row25,row27,row29,H.perm ((am _ _ _).trans ((ah _ (ah _ (am _ _ _))).trans ((ah _ (am _ _ _)).trans (ah _ (ah _ (am _ _ _))))))⟩,ef Z,Qg⟩
   ·
    refine pM (Y:=iT) (⟨false,none,0,[],0,0,w.heap.size,w.heap.size⟩) n H bQ ic Z Z Z I I Z fun w96 b29 cur29 row29 H=>U ?_
    refine uN 1 3 N Z Z ?_ ?_
    ·
     refine pM (Y:=fJ) (false) n H ff gd Z Z Z I I Z fun w97 b25 cur25 row25 H=>U<|db 3 N Z<|pM (Y:=bR) (0) n H bj gJ Z Z Z I I Z fun w98 b27 cur27 row27 H=>U<|db 7 N Z<|G (bp (cs:=(mo n few b25 b27 b29)) dx bT N)<|U<|db 9 N Z<|bI H 3 (mo n few b25 b27 b29) bk Z Z Z Z Z N N fun w99 H=>U<|cz N ?_
     exact⟨(b6,b25,b27,b29),⟨_,_,_,row25,row27,row29,H.perm ((ah _ (am _ _ _)).trans ((am _ _ _).trans ((ah _ (am _ _ _)).trans (ah _ (ah _ (am _ _ _))))))⟩,ef Z,Qg⟩
    ·
     refine pM (Y:=bR) (0) n H bj gJ Z Z Z I I Z fun w100 b27 cur27 row27 H=>U<|db 1 N Z<|pM (Y:=fJ) (false) n H ff gd Z Z Z I I Z fun w101 b25 cur25 row25 H=>U<|db 7 N Z<|G (bp (cs:=(mo n few b25 b27 b29)) dx bT N)<|U<|db 9 N Z<|bI H 3 (mo n few b25 b27 b29) bk Z Z Z Z Z N N fun w102 H=>U<|cz N ?_
     exact⟨(b6,b25,b27,b29),⟨_,_,_,row25,row27,row29,H.perm ((am _ _ _).trans ((ah _ (am _ _ _)).trans (ah _ (ah _ (am _ _ _)))))⟩,ef Z,Qg⟩
 rintro⟨b6,b25,b27,b29⟩ ρ1 w103 ⟨v1,v2,v3,row25,row27,row29,H⟩
 show CW _ _ _ _ (dO (ij _ _ ρ1) [(6,.pointer (Qd b6))]) w103
 refine W<|W<|Zr<|G (Zf dI Z)<|G (Zd cF H 0 Z Z Z)<|G (bl im Z)<|G (Yi Z)<|U<|Zb ?_
 refine bV (τ:=Nat×List Bool×List gh×Array Value×Array Value) [7,35,36,37,38,39,40,41,42,43,44,45,46,47] (fun(k,_)=>[(35,J (k:Nat))]) (fun(k,il,rl,v1,v3) w'=>k<=n/\il.length=n/\rl.length=n/\(∀ j,j<k->il[j]? =some true)/\(∀ j,j<k->rl[j]? =some ⟨true,none,0,[],0,0,w.heap.size,w.heap.size⟩)/\(∀ j,k<=j->j<n->rl[j]? =some ⟨false,none,0,[],0,0,w.heap.size,w.heap.size⟩)/\d8 fJ il n v1/\d8 iT rl n v3/\Hp w w' [(b6,.cells (mo n few b25 b27 b29) bY (0,0)),(b25,.cells v1 kb (0,0)),(b27,.cells v2 cM (0,0)),(b29,.cells v3 fM (0,0)),(b4,.cells #[J (0),J (0),.slice none 0 0,.slice none 0 0,.slice none 0 0,J (0),J (0)] bY (0,0))] []) (fun(k,_)=>n-k) (0,ao n false,ao n ⟨false,none,0,[],0,0,w.heap.size,w.heap.size⟩,v1,v3) ⟨by omega,by simp,by simp,by intro j hj;omega,by intro j hj;omega,by intro j _ hj;rw[dq,if_pos hj],row25,row29,H⟩ (ef Z) ?_
 rintro⟨k,il,rl,v1,v3⟩ ρ1 w104 ⟨hk,hil,hrl,hi1,hr1,hr2,row25,row29,H⟩
 show CW _ _ _ _ (dO (ij _ _ ρ1) [(35,J (k:Nat))]) w104
 refine W<|Zr ?_
 refine dZ (cI Z Z) Z Z Z (fun h36=> ?_) (fun h36=> ?_)
 ·
  refine U<|W<|ZT Z<|Zk<|W<|Zb<|W ?_
  obtain⟨b,hb⟩: ∃ b,il[k]? =some b:=⟨_,ai I⟩
  have hz:=hr2 k (ap k) I
  refine Zr<|G (Yi Z)<|G (Wi Z)<|U ?_
  refine wv cv (fun w'=>w'.heap[b6]? =some (.cells #[J 0,J (-1),.slice (Qd b25) n n,.slice (Qd b27) n n,.slice (Qd b29) n n,J ((few:Nat):Int),J 0] bY (0,0))) ?_
  intro w105 hw';replace H:=H.later hw';clear hw'
  refine cJ 0 N N N Z Z Z Z Nq (H.ent (i:=0) Z) (fun _ hS=>Zf la Z)<|cJ 1 N N N Z Z Z Z Nq (H.ent (i:=0) Z) (fun _ hS=>bd mn Z (aK hS Z))<|cJ 2 N N N Z Z Z Z Nq (H.ent (i:=0) Z) (fun _ hS=>Yi Z)<|cJ 3 N N N Z Z Z Z Nq (H.ent (i:=0) Z) (fun _ hS=>Zf dI Z)<|cJ 4 N N N Z Z Z Z Nq (H.ent (i:=0) Z) (fun _ hS=>bd cF Z (aK hS Z))<|cJ 5 N N N Z Z Z Z Nq (H.ent (i:=0) Z) (fun _ hS=>Yi Z)<|cJ 6 N N N Z Z Z Z Nq (H.ent (i:=0) Z) (fun _ hS=>cL ff Z Z (by first|omega|(simp only[ae];omega)))<|MY 7 N Z<|nt H 1 (true) mW row25 hb 0 Z Z Z Z Z Z N fun w107 cur106 row106 H=> ?_
  have hs108:(il.set k (true))[k]? =some (true):=ak (bZ hb).1
  refine U ?_
  refine⟨(H.ent (i:=0) Z),?_⟩
  refine cJ 8 N N N Z Z Z Z Nq (H.ent (i:=0) Z) (fun _ hS=>cL bQ Z Z (by first|omega|(simp only[ae];omega)))<|cJ 9 N N N Z Z Z Z Nq (H.ent (i:=0) Z) (fun _ hS=>Zf kZ Z)<|MY 10 N Z<|nt H 3 (⟨true,none,0,[],0,0,w.heap.size,w.heap.size⟩) mW row29 hz 0 Z Z Z Z Z Z N fun w110 cur109 row109 H=> ?_
  have hs111:(rl.set k (⟨true,none,0,[],0,0,w.heap.size,w.heap.size⟩))[k]? =some (⟨true,none,0,[],0,0,w.heap.size,w.heap.size⟩):=ak (bZ hz).1
  refine U ?_
  refine⟨(H.ent (i:=0) Z),?_⟩
  refine y9 N<|Zr<|G (bn Z Z I I)<|G (Yi Z)<|U ?_
  refine⟨(k+1,il.set k true,rl.set k ⟨true,none,0,[],0,0,w.heap.size,w.heap.size⟩,cur106,cur109),⟨by omega,by rw[ae];exact hil,by rw[ae];exact hrl,fun j hj=> ?_,fun j hj=> ?_,fun j hj hjn=> ?_,row106,row109,H⟩,ef Z,Qg,by show n- (k+1)<n-k;omega⟩
  ·by_cases hjk:k=j
   ·subst hjk;exact ak I
   ·rw[aO hjk];exact hi1 j I
  ·by_cases hjk:k=j
   ·subst hjk;exact ak I
   ·rw[aO hjk];exact hr1 j I
  ·rw[aO I];exact hr2 j I hjn
 ·
  have hke:n=k:=by omega
  subst hke
  have hie:=NM hil hi1
  have hre:=NM hrl hr1
  subst hie
  subst hre
  refine U<|W<|ZF Z<|Zx<|W<|Zr<|G (Zw bo H 0 Z Z Z)<|bI H 4 (mo n few b25 b27 b29) bk Z Z Z Z Z N N fun w112 H=>G (Wi Z)<|U<|Zt ?_
  replace H:=H.learnNil (Y:=dQ) w.heap.size H.size none
  exact cu (cs0:= #[J 0,J (-1),.slice (Qd b25) n n,.slice (Qd b27) n n,.slice (Qd b29) n n,J ((few:Nat):Int),J 0]) (v1:=J 0) Z bo Z (H.ent (i:=4) Z) Z Z ⟨⟨0,-1,ao n true,some ⟨b25,0,none⟩,n,ao n 0,some ⟨b27,0,none⟩,n,ao n ⟨true,none,0,[],0,0,w.heap.size,w.heap.size⟩,some ⟨b29,0,none⟩,n,(few:Nat),0⟩,by simp[Pa.c],by simp[Pa.a,l8,gh.a],iI.mk_ Z Z Z row25 row27 row29 (F:=[ee dQ w.heap.size w.heap.size none []]) (fun r hr=>by rw[cT hr];exact⟨by simp[bJ],ap _,eh _⟩) (by simp;omega) H ⟨by simp,by simp,by simp⟩⟩
theorem I9 (p:Pa) (a m:Int) (w:World) (h:p.rd 0 w.heap.size w) (hok:p.a.ok) (hl:p.leader<0):di aa vm [p.v,J a,J m] w fun v w2=>v=.tuple #[.slice none 0 0,J 0,J 8]/\Below w.heap.size w w2:=by
 refine aG tS Z Z ?_
 obtain⟨hn1,hn2,hil,hkl,hf1,hf2,he0,he1,hl0,hl1,hb0,hb1,hsm⟩:=Pa.facts hok
 have hkn:=hok.known
 have hiC:=h.iC
 have hkC:=h.kC
 have hrC:=h.rC
 have hfew:=h.few
 have H:=Hp.startPa h
 obtain⟨ep,ld,isr,iA,iC,kn,kA,kC,reps,rA,rC,fw,bs⟩:=p
 simp only[Pa.a]at hkn
 dsimp only at H hn1 hn2 hil hkl hf1 hf2 he0 he1 hl0 hl1 hb0 hb1 hsm hiC hkC hrC hfew
 dsimp only at hl
 show CW _ _ _ _ (args [.agg #[J (ep),J (ld),.slice iA isr.length iC,.slice kA kn.length kC,.slice rA reps.length rC,J (fw),J (bs)],J (a),J (m)]) w
 refine W<|Zr<|gU H Z Z fun w1 b3 H=>G (Ws Z)<|G (Wi Z)<|G (Wi Z)<|U<|W<|W<|Zr<|G (Zw bo H 0 Z Z Z)<|cE lM (sQ ⟨ep,ld,isr,iA,iC,kn,kA,kC,reps,rA,rC,fw,bs⟩ _ (Hp.pa H 0 Z) hok) Z Z ?_
 rintro _ w2 ⟨rfl,hb⟩;replace H:=H.later hb;clear hb
 refine G (Wi Z)<|U<|W<|Zr<|G (Yi Z)<|G (cj Z Z Z)<|U<|ZF Z<|Zk<|W<|W<|Zr<|G (Zf eu Z)<|G (Zd al H 0 Z Z Z)<|G (xB Z Z hl)<|U<|ZT Z<|W<|Zr<|G (Ws Z)<|G (Wi Z)<|G (Wi Z)<|U<|Zt ?_
 exact JH Z Z Z Z ⟨rfl,H.below⟩
theorem N0 (p:Pa) (a most l:Nat) (r:gh) (w:World) (h:p.rd 0 w.heap.size w) (hok:p.a.ok) (hld:p.leader=l) (hr:p.reps[l]? =some r) (ha:a<=r.es.length) (hm1:1<=most) (hm2:most<=20):di aa vm [p.v,J (a:Nat),J (most:Nat)] w fun v w2=> ∃ (st:Nat) (out:List ByteArray) (b:Nat) (A':Option Addr) (c':Nat),rW (r.es.take r.high.toNat) st/\Do r.es r.high.toNat st a most out b/\v=.tuple #[.slice A' out.length c',J (b:Nat),J 0]/\Rd nu w.heap.size w2.heap.size A' out w2/\out.length<=c'/\Below w.heap.size w w2:=by
 refine aG tS Z Z ?_
 obtain⟨hn1,hn2,hil,hkl,hf1,hf2,he0,he1,hl0,hl1,hb0,hb1,hsm⟩:=Pa.facts hok
 have hkn:=hok.known
 have hiC:=h.iC
 have hkC:=h.kC
 have hrC:=h.rC
 have hfew:=h.few
 have H:=Hp.startPa h
 obtain⟨ep,ld,isr,iA,iC,kn,kA,kC,reps,rA,rC,fw,bs⟩:=p
 simp only[Pa.a]at hkn
 dsimp only at H hn1 hn2 hil hkl hf1 hf2 he0 he1 hl0 hl1 hb0 hb1 hsm hiC hkC hrC hfew
 dsimp only at hld hr
 have hll:=(bZ hr).1
 show CW _ _ _ _ (args [.agg #[J (ep),J (ld),.slice iA isr.length iC,.slice kA kn.length kC,.slice rA reps.length rC,J (fw),J (bs)],J (((a:Nat):Int)),J (((most:Nat):Int))]) w
 refine W<|Zr<|gU H Z Z fun w1 b3 H=>G (Ws Z)<|G (Wi Z)<|G (Wi Z)<|U<|W<|W<|Zr<|G (Zw bo H 0 Z Z Z)<|cE lM (sQ ⟨ep,ld,isr,iA,iC,kn,kA,kC,reps,rA,rC,fw,bs⟩ _ (Hp.pa H 0 Z) hok) Z Z ?_
 rintro _ w2 ⟨rfl,hb⟩;replace H:=H.later hb;clear hb
 refine G (Wi Z)<|U<|W<|Zr<|G (Yi Z)<|G (cj Z Z Z)<|U<|ZF Z<|Zk<|W<|W<|Zr<|G (Zf eu Z)<|G (Zd al H 0 Z Z Z)<|G (cV Z Z I)<|U<|ZF Z<|Zk<|W<|Zr<|G (Zf dI Z)<|G (Zd cF H 0 Z Z Z)<|G (Zf eu Z)<|G (Zd al H 0 Z Z Z)<|rE (k:=l) H 3 Z bQ Z (congrArg (Value.int .i64) hld) I I Z fun bq3 o3 x3 e3=> ?_
 obtain rfl:x3=r:=by have:=e3.at_;rw[hr]at this;exact(aZ this).symm
 obtain⟨n,hnn⟩: ∃ n:Nat,x3.high=n:=⟨x3.high.toNat,by have:=(Pa.repOk hok (i:=l) hr).2.1;omega⟩
 refine G (jF (xs:=gh.c x3) mB Z Z e3.cl)<|fc H ql Z fun w4 b10 H=>bI H 0 (#[.bool (x3.up),.slice x3.A ((bJ x3.es).length) x3.cap,J (((iF x3.es x3.s:Nat):Int)),J (x3.high)]) mj Z Z Z Z Z N N fun w5 H=>U<|W<|Zr<|G (Zf dM Z)<|G (jW 1 [.slice x3.A ((bJ x3.es).length) x3.cap,J (((iF x3.es x3.s:Nat):Int))] fx Z Z (H.ent (i:=0) Z) Z)<|cE f5 (gA x3.A x3.cap x3.es x3.s _ (Pa.log (Hp.pa H 0 Z) hok (i:=l) hr)) Z Z ?_
 have hloen:=H.size
 rintro _ w6 ⟨Aen,cen,rfl,hren,hcen,hben⟩;replace H:=H.learnRd hben hren;clear hren hben
 refine G (Yu Z)<|G (Xs Z Z)<|G (Xi Z Z)<|G (Xi Z Z)<|G (Ws Z)<|G (Wi Z)<|G (Wi Z)<|U<|W<|Zr<|G (Ys Z)<|G (Zf eU Z)<|G (Zd al H 0 Z Z Z)<|G (Yi Z)<|G (Yi Z)<|cE t9 ((by have hA:=Kj x3.es Aen cen n a most _ (H.rd0 0 Z) hcen (by have:=(Pa.repOk hok (i:=l) hr).1.len;omega) (by have:=(Pa.repOk hok (i:=l) hr).2.2;omega) ha hm1 hm2;rw[<-hnn]at hA;exact hA)) Z Z ?_
 have hlo:=H.size
 rintro _ w7 ⟨st,out,b,A9,c9,hs9,hr9,rfl,hrd9,hc9,hb9⟩
 refine G (Xs Z Z)<|G (Xi Z Z)<|G (Xi Z Z)<|G (Ws Z)<|G (Wi Z)<|G (Wi Z)<|U<|Zt ?_
 have hnt:x3.high.toNat=n:=by omega
 rw[hnt]
 exact JH Z Z Z Z ⟨st,out,b,A9,c9,hs9,hr9,rfl,hrd9.mono hlo (ap _),hc9,H.below.trans (hb9.mono hlo)⟩
theorem GL.of {es:List cd} {s:Nat} (hg: ∀ e∈es,lj e) (hl:es.length<=400) (hs:s<=es.length):GL es s:=by
 have:=Gp es hg
 exact⟨hg,hl,by omega,hs⟩
def gi.small (m:Nat) (p:gi):Prop:= ∀ r∈p.reps,r.es.length<=m
theorem gi.ok.at_ {p:gi} (h:p.ok) {i:Nat} {x:RA} (hx:p.reps[i]? =some x):x.ok:=h.reps x (ab hx)
theorem Kn {p:gi} (h:p.ok) {rs:List RA} (hl:rs.length=p.reps.length) (hr: ∀ r∈rs,r.ok) (hu: ∀ (l:Nat) (r:RA),p.leader=l->rs[l]? =some r->r.up=true):({p with reps:=rs}:gi).ok:=
 ⟨by dsimp only;rw[hl];exact h.n1,by dsimp only;rw[hl];exact h.n2,by dsimp only;rw[hl];exact h.isrl,by dsimp only;rw[hl];exact h.knownl,h.few1,by dsimp only;rw[hl];exact h.few2,h.ep0,h.ep1,h.ld0,by dsimp only;rw[hl];exact h.ld1,h.base0,h.base1,h.some_,
  fun l r h1 h2=>by
   have hlt:=(aC.1 h2).1
   dsimp only at hlt h1 h2
   obtain⟨y,hy⟩: ∃ y,p.reps[l]? =some y:=⟨_,ai I⟩
   exact⟨(h.lead l y h1 hy).1,hu l r h1 h2⟩,hr,h.known⟩
theorem R9 {p:gi} (h:p.ok) {i:Nat} {x x':RA} (hx:p.reps[i]? =some x) (hk:x'.ok) (hu:x'.up=x.up):({p with reps:=p.reps.set i x'}:gi).ok:=
 Kn h (ae ..) (fun r hr=>by
  rcases aD hr with hr|rfl
  exact h.reps r hr
  exact hk) (fun l r h1 h2=>by
  by_cases hi:i=l
  subst hi
  rw[ak (bZ hx).1]at h2
  cases h2
  rw[hu];exact(h.lead i x h1 hx).2
  rw[aO hi]at h2
  exact(h.lead l r h1 h2).2)
theorem Hl {p:gi} (h:p.ok) {kn:List Int} (hl:kn.length=p.known.length) (hb: ∀ n∈kn,0<=n/\n<=400):({p with known:=kn}:gi).ok:=
 ⟨h.n1,h.n2,h.isrl,by dsimp only;rw[hl];exact h.knownl,h.few1,h.few2,h.ep0,h.ep1,h.ld0,h.ld1,h.base0,h.base1,h.some_,h.lead,h.reps,hb⟩
theorem FK {p:gi} (h:p.ok) (r:Nat) {v:Int} (h1:0<=v) (h2:v<=400):({p with known:=p.known.set r v}:gi).ok:=
 Hl h (ae ..) fun n hn=>by
  rcases aD hn with hn|rfl
  exact h.known n hn
  exact⟨h1,h2⟩
theorem Qw {p:gi} (h:p.ok):({p with leader:= -1}:gi).ok:=
 ⟨h.n1,h.n2,h.isrl,h.knownl,h.few1,h.few2,h.ep0,h.ep1,by dsimp only;omega,by have:=h.n1;dsimp only;omega,h.base0,h.base1,h.some_,fun l r h1 h2=>by dsimp only at h1;omega,h.reps,h.known⟩
theorem Qx {p:gi} (h:p.ok) {r:Nat} {x:RA} {b:Int} (hx:p.reps[r]? =some x) (hu:x.up=true) (hi:p.isr[r]? =some true) (he:p.epoch≠1073741824) (hb0:0<=b) (hb1:b<=400):({p with epoch:=p.epoch+1,leader:=r,base:=b}:gi).ok:=
 ⟨h.n1,h.n2,h.isrl,h.knownl,h.few1,h.few2,by have:=h.ep0;dsimp only;omega,by have:=h.ep1;dsimp only;omega,by dsimp only;omega,by have:=(bZ hx).1;dsimp only;omega,hb0,hb1,h.some_,fun l y h1 h2=>by
  dsimp only at h1 h2
  have:l=r:=by omega
  subst this
  rw[hx]at h2;cases h2
  exact⟨hi,hu⟩,h.reps,h.known⟩
theorem Sa {p:gi} (h:p.ok):(nB p).ok:=by
 unfold nB
 split
 rename_i x hx
 split
 exact h
 have hk:=h.at_ hx
 have:=hk.high0
 have:=hk.high1
 exact R9 h hx ⟨hk.gl,by dsimp only;omega,by dsimp only;omega⟩ Z
 exact h
theorem yg {p:gi} {r:Nat} (he:(mi p r).2=0): ∃ x,p.reps[r]? =some x/\x.up=true/\(mi p r).1=if p.leader=r then nB {p with reps:=p.reps.set r {x with s:=x.es.length},known:=p.known.set r x.es.length}else{p with reps:=p.reps.set r {x with s:=x.es.length}}:=by
 unfold mi at he⊢
 cases hx:p.reps[r]? with
 |none=>rw[hx]at he;simp at he
 |some x=>
  rw[hx]at he
  dsimp only at he⊢
  by_cases hu:x.up=false
  rw[if_pos hu]at he;simp at he
  rw[if_neg hu]
  exact⟨x,rfl,by simpa using hu,by split<;>rfl⟩
theorem zK {p:gi} {r:Nat} (hil:p.isr.length=p.reps.length) (he:(fo p r).2=0): ∃ x,p.reps[r]? =some x/\x.up=true/\p.isr[r]? =some true/\p.leader≠r/\p.epoch≠1073741824/\(fo p r).1=nB {p with epoch:=p.epoch+1,leader:=r,known:=(ao p.reps.length 0).set r x.s,base:=x.es.length}:=by
 unfold fo at he⊢
 cases hx:p.reps[r]? with
 |none=>rw[hx]at he;simp at he
 |some x=>
  rw[hx]at he
  dsimp only at he⊢
  by_cases hu:x.up=false
  rw[if_pos hu]at he;simp at he
  rw[if_neg hu]at he⊢
  by_cases hi:p.isr[r]? =some false
  rw[if_pos hi]at he;simp at he
  rw[if_neg hi]at he⊢
  by_cases hl:p.leader=r
  rw[if_pos hl]at he;simp at he
  rw[if_neg hl]at he⊢
  by_cases hp:p.epoch=1073741824
  rw[if_pos hp]at he;simp at he
  rw[if_neg hp]
  obtain⟨b,hb⟩: ∃ b,p.isr[r]? =some b:=⟨_,ai (by have:=(bZ hx).1;omega)⟩
  refine⟨x,rfl,by simpa using hu,?_,hl,hp,rfl⟩
  rw[hb]at hi⊢
  cases b
  exact absurd Z hi
  rfl
theorem wq {p:gi} {r:Nat} (h:p.ok) (he:(iU p r).2.2=0): ∃ (x y:RA) (l:Nat),p.reps[r]? =some x/\p.leader=l/\r≠l/\x.up=true/\p.reps[l]? =some y:=by
 unfold iU at he
 cases hx:p.reps[r]? with
 |none=>rw[hx]at he;simp at he
 |some x=>
  rw[hx]at he
  dsimp only at he
  by_cases h1:p.leader<0∨p.leader=r
  rw[if_pos h1]at he;simp at he
  rw[if_neg h1]at he
  by_cases hu:x.up=false
  rw[if_pos hu]at he;simp at he
  have h2:=h.ld1
  exact⟨x,p.reps[p.leader.toNat]'(by omega),p.leader.toNat,rfl,by omega,by omega,by simpa using hu,ai I⟩
theorem Bs {p:gi} {e:cd} (he:(eF p e).2.2=0): ∃ (x:RA) (l:Nat),p.leader=l/\p.reps[l]? =some x/\lj {e with epoch:=p.epoch}/\(eI x.es {e with epoch:=p.epoch}).2=0/\
  ((0<=(eI x.es {e with epoch:=p.epoch}).1/\(eF p e).1=p/\(eF p e).2.1=(eI x.es {e with epoch:=p.epoch}).1)∨((eI x.es {e with epoch:=p.epoch}).1<0/\p.few<=IG p.isr p.reps 0/\(eF p e).1={p with reps:=p.reps.set l {x with es:=x.es++[{e with epoch:=p.epoch}]}}/\(eF p e).2.1=x.es.length)):=by
 unfold eF at he⊢
 by_cases h1:p.leader<0
 rw[if_pos h1]at he;simp at he
 rw[if_neg h1]at he⊢
 cases hx:p.reps[p.leader.toNat]? with
 |none=>rw[hx]at he;simp at he
 |some x=>
  rw[hx]at he
  dsimp only at he⊢
  by_cases h2:eA {e with epoch:=p.epoch}≠0
  rw[if_pos h2]at he;exact absurd he h2
  rw[if_neg h2]at he⊢
  by_cases h3:(eI x.es {e with epoch:=p.epoch}).2≠0
  rw[if_pos h3]at he;exact absurd he h3
  rw[if_neg h3]at he⊢
  refine⟨x,p.leader.toNat,by omega,hx,by unfold lj;simpa using h2,by simpa using h3,?_⟩
  by_cases h4:0<=(eI x.es {e with epoch:=p.epoch}).1
  rw[if_pos h4]
  exact .inl ⟨h4,rfl,rfl⟩
  rw[if_neg h4]at he⊢
  by_cases h5:IG p.isr p.reps 0<p.few
  rw[if_pos h5]at he;simp at he
  rw[if_neg h5]
  exact .inr ⟨by omega,by omega,rfl,rfl⟩
theorem eZ {α:Type} {l:List α} {r:Nat} {x':α} {i:Nat} {y:α} (h:(l.set r x')[i]? =some y):(i=r/\y=x')∨(i≠r/\l[i]? =some y):=by
 by_cases hi:r=i
 subst hi
 have hl:=(aC.1 h).1
 rw[ae]at hl
 rw[ak hl]at h
 cases h
 exact .inl ⟨rfl,rfl⟩
 rw[aO hi]at h
 exact .inr ⟨fun h=>hi h.symm,h⟩
structure Dz (K:List cd) (p:gi):Prop where
 ep: ∀ (i:Nat) (x:RA),p.reps[i]? =some x-> ∀ e∈x.es,e.epoch<=p.epoch
 lm: ∀ (i j:Nat) (x y:RA) (n:Nat) (e f:cd),p.reps[i]? =some x->p.reps[j]? =some y->x.es[n]? =some e->y.es[n]? =some f->e.epoch=f.epoch->x.es.take (n+1)=y.es.take (n+1)
 cur: ∀ (l:Nat) (y:RA) (i:Nat) (x:RA) (n:Nat) (e:cd),p.leader=l->p.reps[l]? =some y->p.reps[i]? =some x->x.es[n]? =some e->e.epoch=p.epoch->n<y.es.length
 hi: ∀ (i:Nat) (x:RA),p.reps[i]? =some x->x.high.toNat<=K.length/\x.es.take x.high.toNat=K.take x.high.toNat
 keep: ∀ (i:Nat) (x:RA),p.reps[i]? =some x->p.isr[i]? =some true->K.length<=x.s/\x.es.take K.length=K
 kn: ∀ (l:Nat) (y:RA) (i:Nat) (x:RA) (v:Int),p.leader=l->p.reps[l]? =some y->p.reps[i]? =some x->p.known[i]? =some v->v.toNat<=x.s/\v.toNat<=y.es.length/\x.es.take v.toNat=y.es.take v.toNat
 base: ∀ (l:Nat) (y:RA),p.leader=l->p.reps[l]? =some y->(K.length:Int)<=max p.base y.high
theorem Dz.set {K:List cd} {p:gi} (h:Dz K p) {r:Nat} {x x':RA} (hx:p.reps[r]? =some x)
  (c_ep: ∀ e∈x'.es,e.epoch<=p.epoch)
  (c_lm: ∀ (j:Nat) (y:RA) (n:Nat) (e f:cd),j≠r->p.reps[j]? =some y->x'.es[n]? =some e->y.es[n]? =some f->e.epoch=f.epoch->x'.es.take (n+1)=y.es.take (n+1))
  (c_cur1: ∀ (l:Nat) (y:RA) (n:Nat) (e:cd),p.leader=l->l≠r->p.reps[l]? =some y->x'.es[n]? =some e->e.epoch=p.epoch->n<y.es.length)
  (c_cur2:p.leader=r->x.es.length<=x'.es.length)
  (c_hi:x'.high.toNat<=K.length/\x'.es.take x'.high.toNat=K.take x'.high.toNat)
  (c_keep:p.isr[r]? =some true->K.length<=x'.s/\x'.es.take K.length=K)
  (c_kn1: ∀ (l:Nat) (y:RA) (v:Int),p.leader=l->l≠r->p.reps[l]? =some y->p.known[r]? =some v->v.toNat<=x'.s/\v.toNat<=y.es.length/\x'.es.take v.toNat=y.es.take v.toNat)
  (c_kn2:p.leader=r-> ∀ (i:Nat) (z:RA) (v:Int),i≠r->p.reps[i]? =some z->p.known[i]? =some v->v.toNat<=x'.es.length/\z.es.take v.toNat=x'.es.take v.toNat)
  (c_kn3:p.leader=r-> ∀ v:Int,p.known[r]? =some v->v.toNat<=x'.s/\v.toNat<=x'.es.length)
  (c_base:p.leader=r->(K.length:Int)<=max p.base x'.high):Dz K {p with reps:=p.reps.set r x'}:=by
 refine⟨fun i y hy e he=> ?_,fun i j y z n e f hy hz he hf hef=> ?_,fun l y i z n e hl hy hz he hee=> ?_,fun i y hy=> ?_,fun i y hy hi=> ?_,fun l y i z v hl hy hz hv=> ?_,fun l y hl hy=> ?_⟩
 rcases eZ hy with⟨rfl,rfl⟩|⟨_,hy2⟩
 exact c_ep e he
 exact h.ep i y hy2 e he
 rcases eZ hy with⟨rfl,rfl⟩|⟨hi,hy2⟩
 rcases eZ hz with⟨rfl,rfl⟩|⟨hj,hz2⟩
 rfl
 exact c_lm j z n e f hj hz2 he hf hef
 rcases eZ hz with⟨rfl,rfl⟩|⟨hj,hz2⟩
 exact(c_lm i y n f e hi hy2 hf he hef.symm).symm
 exact h.lm i j y z n e f hy2 hz2 he hf hef
 rcases eZ hy with⟨rfl,rfl⟩|⟨hlr,hy2⟩
 rcases eZ hz with⟨rfl,rfl⟩|⟨hir,hz2⟩
 exact(bZ he).1
 exact gg (h.cur l x i z n e hl hx hz2 he hee) (c_cur2 hl)
 rcases eZ hz with⟨rfl,rfl⟩|⟨hir,hz2⟩
 exact c_cur1 l y n e hl hlr hy2 he hee
 exact h.cur l y i z n e hl hy2 hz2 he hee
 rcases eZ hy with⟨rfl,rfl⟩|⟨_,hy2⟩
 exact c_hi
 exact h.hi i y hy2
 rcases eZ hy with⟨rfl,rfl⟩|⟨_,hy2⟩
 exact c_keep hi
 exact h.keep i y hy2 hi
 rcases eZ hy with⟨rfl,rfl⟩|⟨hlr,hy2⟩
 rcases eZ hz with⟨rfl,rfl⟩|⟨hir,hz2⟩
 obtain⟨h1,h2⟩:=c_kn3 hl v hv
 exact⟨h1,h2,rfl⟩
 have h1:=c_kn2 hl i z v hir hz2 hv
 exact⟨(h.kn l x i z v hl hx hz2 hv).1,h1⟩
 rcases eZ hz with⟨rfl,rfl⟩|⟨hir,hz2⟩
 exact c_kn1 l y v hl hlr hy2 hv
 exact h.kn l y i z v hl hy2 hz2 hv
 rcases eZ hy with⟨rfl,rfl⟩|⟨_,hy2⟩
 exact c_base hl
 exact h.base l y hl hy2
theorem Dz.setK {K:List cd} {p:gi} (h:Dz K p) {r:Nat} {w:Int} (hw: ∀ (l:Nat) (y x:RA),p.leader=l->p.reps[l]? =some y->p.reps[r]? =some x->w.toNat<=x.s/\w.toNat<=y.es.length/\x.es.take w.toNat=y.es.take w.toNat):Dz K {p with known:=p.known.set r w}:=
 ⟨h.ep,h.lm,h.cur,h.hi,h.keep,fun l y i x v hl hy hx hv=>by
  rcases eZ hv with⟨rfl,rfl⟩|⟨_,hv⟩
  exact hw l y x hl hy hx
  exact h.kn l y i x v hl hy hx hv,h.base⟩
theorem Dz.setK0 {K:List cd} {p:gi} (h:Dz K p) (r:Nat):Dz K {p with known:=p.known.set r 0}:=h.setK fun _ _ _ _ _ _=>by simp
theorem Dz.none {K:List cd} {p:gi} (h:Dz K p):Dz K {p with leader:= -1}:=
 ⟨h.ep,h.lm,fun l y i x n e hl=>by dsimp only at hl;omega,h.hi,h.keep,fun l y i x v hl=>by dsimp only at hl;omega,fun l y hl=>by dsimp only at hl;omega⟩
theorem Dz.rebase {K:List cd} {p:gi} (h:Dz K p) {b:Int} (hb: ∀ (l:Nat) (y:RA),p.leader=l->p.reps[l]? =some y->(K.length:Int)<=max b y.high):Dz K {p with base:=b}:=
 ⟨h.ep,h.lm,h.cur,h.hi,h.keep,h.kn,hb⟩
theorem Hx: ∀ (isr:List Bool) (kn:List Int) (m:Int),dr isr kn m<=m/\ ∀ (i:Nat) (v:Int),isr[i]? =some true->kn[i]? =some v->dr isr kn m<=v
 |[],_,m=>by simp[dr]
 |_::_,[],m=>by simp[dr]
 |b::bs,n::ns,m=>by
  obtain⟨h1,h2⟩:=Hx bs ns (if b then min m n else m)
  refine⟨by unfold dr;split at h1<;>split<;>first|omega|simp_all,fun i v hi hv=> ?_⟩
  unfold dr
  cases i with
  |zero=>
   simp at hi hv
   subst hi;subst hv
   simp at h1⊢
   omega
  |succ i=>exact h2 i v (by simpa using hi) (by simpa using hv)
theorem Ni {α:Type} {a b:List α} {n m:Nat} (h:a.take m=b.take m) (hn:n<=m):a.take n=b.take n:=by
 have:=congrArg (ug n) h
 rwa[dt,dt,bE hn]at this
theorem Dz.adv {K:List cd} {p:gi} (h:Dz K p) (hok:p.ok): ∃ K',K<+:K'/\Dz K' (nB p):=by
 by_cases hneg:p.leader<0
 have:nB p=p:=by
  unfold nB
  split
  rw[if_pos hneg]
  rfl
 rw[this]
 exact⟨K,ki K,h⟩
 obtain⟨l,hl⟩: ∃ l:Nat,p.leader=l:=⟨p.leader.toNat,by omega⟩
 obtain⟨y,hy⟩: ∃ y,p.reps[l]? =some y:=⟨_,ai (by have:=hok.ld1;omega)⟩
 rw[BE hl hy]
 obtain⟨hisr,hup⟩:=hok.lead l y hl hy
 obtain⟨hkp1,hkp2⟩:=h.keep l y hy hisr
 have hyok:=hok.at_ hy
 have hys:=hyok.gl.sle
 have hy0:=hyok.high0
 obtain⟨hh1,hh2⟩:=h.hi l y hy
 generalize hH:max y.high (min (dr p.isr p.known 400) y.es.length)=H
 by_cases hle:H.toNat<=K.length
 refine⟨K,ki K,h.set hy (h.ep l y hy) (fun j z n e f hj hz he hf hef=>h.lm l j y z n e f hy hz he hf hef) (fun l' y' n e h1 h2=>absurd I h2) (fun _=>ap _) ⟨hle,?_⟩ (fun hi=>h.keep l y hy hi) (fun l' y' v h1 h2=>absurd I h2) (fun _ i z v _ hz hv=>(h.kn l y i z v hl hy hz hv).2) (fun _ v hv=>⟨(h.kn l y l y v hl hy hy hv).1,(h.kn l y l y v hl hy hy hv).2.1⟩) (fun _=> ?_)⟩
 have:=congrArg (ug H.toNat) hkp2
 rwa[dt,bE hle]at this
 have:=h.base l y hl hy;dsimp only;omega
 have hHm:H=min (dr p.isr p.known 400) y.es.length:=by omega
 have hHl:H.toNat<=y.es.length:=by omega
 have hlen:(y.es.take H.toNat).length=H.toNat:=by rw[aI];omega
 have hKy:K=(y.es.take H.toNat).take K.length:=by rw[dt,bE I];exact hkp2.symm
 have hpre:K<+:y.es.take H.toNat:=by rw[hKy];exact List.take_prefix _ _
 have hKt: ∀ n,n<=K.length->K.take n=(y.es.take H.toNat).take n:=fun n hn=>by
  have:=congrArg (ug n) hkp2
  rw[dt,bE hn]at this
  rw[<-this,dt,bE I]
 have hG:Dz (y.es.take H.toNat) {p with base:=H}:=by
  refine⟨h.ep,h.lm,h.cur,fun i x hx=> ?_,fun i x hx hi=> ?_,h.kn,fun l' y' hl' hy'=>by dsimp only;omega⟩
  obtain⟨h1,h2⟩:=h.hi i x hx
  exact⟨by omega,by rw[h2];exact hKt _ h1⟩
  obtain⟨v,hv⟩: ∃ v,p.known[i]? =some v:=⟨_,ai (by have:=(bZ hx).1;have:=hok.knownl;dsimp only at*;omega)⟩
  have h1:=(Hx p.isr p.known 400).2 i v hi hv
  obtain⟨h2,h3,h4⟩:=h.kn l y i x v hl hy hx hv
  refine⟨by rw[hlen];omega,?_⟩
  rw[hlen]
  exact Ni h4 I
 have hS:=hG.set (x':={y with high:=H}) hy (h.ep l y hy) (fun j z n e f hj hz he hf hef=>h.lm l j y z n e f hy hz he hf hef) (fun l' y' n e h1 h2=>absurd (by dsimp only at h1;omega) h2) (fun _=>ap _) ⟨by rw[hlen];exact ap _,by rw[dt,Nat.min_self]⟩ (fun hi=>hG.keep l y hy hi) (fun l' y' v h1 h2=>absurd (by dsimp only at h1;omega) h2) (fun _ i z v _ hz hv=>(h.kn l y i z v hl hy hz hv).2) (fun _ v hv=>⟨(h.kn l y l y v hl hy hy hv).1,(h.kn l y l y v hl hy hy hv).2.1⟩) (fun _=>by dsimp only;omega)
 refine⟨_,hpre,hS.rebase (b:=p.base) fun l' z h1 hz=> ?_⟩
 dsimp only at h1 hz
 have:l'=l:=by omega
 subst this
 rw[ak (bZ hy).1]at hz
 cases hz
 dsimp only
 omega
section
/-- a part that may be: m bounds its logs, n replicas, Φ holds of all entries -/
structure Gd (Φ:cd->Prop) (K:List cd) (m n:Nat) (few:Int) (p:gi):Prop where
 ok:p.ok
 inv:Dz K p
 small: ∀ (i:Nat) (x:RA),p.reps[i]? =some x->x.es.length<=m
 ents: ∀ (i:Nat) (x:RA),p.reps[i]? =some x-> ∀ e∈x.es,Φ e
 len:p.reps.length=n
 few:p.few=few
variable {Φ:cd->Prop} {K:List cd} {m n:Nat} {few:Int} {p:gi} {r:Nat}
theorem Gd.mono (h:Gd Φ K m n few p) {m':Nat} (hm:m<=m'):Gd Φ K m' n few p:=⟨h.ok,h.inv,fun i x hx=>aW (h.small i x hx) hm,h.ents,h.len,h.few⟩
theorem Qv {p:gi} (h:p.ok) {i:Nat} {x x':RA} (hx:p.reps[i]? =some x) (hk:x'.ok) (hu:p.leader=i->x'.up=true):({p with reps:=p.reps.set i x'}:gi).ok:=
 Kn h (ae ..) (fun r hr=>by
  rcases aD hr with hr|rfl
  exact h.reps r hr
  exact hk) (fun l r h1 h2=>by
  rcases eZ h2 with⟨rfl,rfl⟩|⟨_,h3⟩
  exact hu h1
  exact(h.lead l r h1 h3).2)
theorem Gd.set (h:Gd Φ K m n few p) {r:Nat} {x x':RA} (hx:p.reps[r]? =some x) (hk:x'.ok) (hu:p.leader=r->x'.up=true) (hm:x'.es.length<=m) (hΦ: ∀ e∈x'.es,Φ e)
  (c_ep: ∀ e∈x'.es,e.epoch<=p.epoch)
  (c_lm: ∀ (j:Nat) (y:RA) (n:Nat) (e f:cd),j≠r->p.reps[j]? =some y->x'.es[n]? =some e->y.es[n]? =some f->e.epoch=f.epoch->x'.es.take (n+1)=y.es.take (n+1))
  (c_cur1: ∀ (l:Nat) (y:RA) (n:Nat) (e:cd),p.leader=l->l≠r->p.reps[l]? =some y->x'.es[n]? =some e->e.epoch=p.epoch->n<y.es.length)
  (c_cur2:p.leader=r->x.es.length<=x'.es.length)
  (c_hi:x'.high.toNat<=K.length/\x'.es.take x'.high.toNat=K.take x'.high.toNat)
  (c_keep:p.isr[r]? =some true->K.length<=x'.s/\x'.es.take K.length=K)
  (c_kn1: ∀ (l:Nat) (y:RA) (v:Int),p.leader=l->l≠r->p.reps[l]? =some y->p.known[r]? =some v->v.toNat<=x'.s/\v.toNat<=y.es.length/\x'.es.take v.toNat=y.es.take v.toNat)
  (c_kn2:p.leader=r-> ∀ (i:Nat) (z:RA) (v:Int),i≠r->p.reps[i]? =some z->p.known[i]? =some v->v.toNat<=x'.es.length/\z.es.take v.toNat=x'.es.take v.toNat)
  (c_kn3:p.leader=r-> ∀ v:Int,p.known[r]? =some v->v.toNat<=x'.s/\v.toNat<=x'.es.length)
  (c_base:p.leader=r->(K.length:Int)<=max p.base x'.high):Gd Φ K m n few {p with reps:=p.reps.set r x'}:=
 ⟨Qv h.ok hx hk hu,h.inv.set hx c_ep c_lm c_cur1 c_cur2 c_hi c_keep c_kn1 c_kn2 c_kn3 c_base,fun i y hy=>by
  rcases eZ hy with⟨_,rfl⟩|⟨_,hy⟩
  exact hm
  exact h.small i y hy,fun i y hy=>by
  rcases eZ hy with⟨_,rfl⟩|⟨_,hy⟩
  exact hΦ
  exact h.ents i y hy,by dsimp only;rw[ae];exact h.len,h.few⟩
theorem Gd.setK0 (h:Gd Φ K m n few p) (r:Nat):Gd Φ K m n few {p with known:=p.known.set r 0}:=⟨FK h.ok r I I,h.inv.setK0 r,h.small,h.ents,h.len,h.few⟩
theorem Gd.none (h:Gd Φ K m n few p):Gd Φ K m n few {p with leader:= -1}:=⟨Qw h.ok,h.inv.none,h.small,h.ents,h.len,h.few⟩
theorem wx {p:gi} {i:Nat} {x:RA} (h:(nB p).reps[i]? =some x): ∃ y,p.reps[i]? =some y/\x.es=y.es/\x.s=y.s/\x.up=y.up:=by
 unfold nB at h
 split at h
 rename_i z hz
 split at h
 exact⟨x,h,rfl,rfl,rfl⟩
 rcases eZ h with⟨rfl,rfl⟩|⟨_,h⟩
 exact⟨z,hz,rfl,rfl,rfl⟩
 exact⟨x,h,rfl,rfl,rfl⟩
 exact⟨x,h,rfl,rfl,rfl⟩
theorem ue {p:gi}:(nB p).reps.length=p.reps.length/\(nB p).few=p.few/\(nB p).epoch=p.epoch/\(nB p).leader=p.leader/\(nB p).isr=p.isr/\(nB p).known=p.known:=by
 unfold nB
 split
 split
 simp
 simp
 simp
theorem Gd.adv (h:Gd Φ K m n few p): ∃ K',K<+:K'/\Gd Φ K' m n few (nB p):=by
 obtain⟨K',h1,h2⟩:=h.inv.adv h.ok
 refine⟨K',h1,Sa h.ok,h2,fun i x hx=> ?_,fun i x hx e he=> ?_,ue.1.trans h.len,ue.2.1.trans h.few⟩
 obtain⟨y,hy,he,-⟩:=wx hx
 rw[he];exact h.small i y hy
 obtain⟨y,hy,hee,-⟩:=wx hx
 rw[hee]at he;exact h.ents i y hy e he
theorem Gd.same (h:Gd Φ K m n few p) {x x':RA} (hx:p.reps[r]? =some x) (he:x'.es=x.es) (hh:x'.high=x.high) (hs:x.s<=x'.s) (hsl:x'.s<=x.es.length) (hu:p.leader=r->x'.up=true):Gd Φ K m n few {p with reps:=p.reps.set r x'}:=by
 have hk:=h.ok.at_ hx
 refine h.set hx ⟨by rw[he];exact⟨hk.gl.good,hk.gl.len,hk.gl.sz,hsl⟩,by rw[hh];exact hk.high0,by rw[hh,he];exact hk.high1⟩ hu (by rw[he];exact h.small r x hx) (by rw[he];exact h.ents r x hx) (by rw[he];exact h.inv.ep r x hx) (fun j y n e f hj hy=>by rw[he];exact h.inv.lm r j x y n e f hx hy) (fun l y n e h1 h2 hy=>by rw[he];exact h.inv.cur l y r x n e h1 hy hx) (fun _=>by rw[he];exact ap _) (by rw[he,hh];exact h.inv.hi r x hx) (fun hi=> ?_) (fun l y v h1 h2 hy hv=> ?_) (fun h1 i z v hi hz hv=> ?_) (fun h1 v hv=> ?_) (fun h1=>by rw[hh];exact h.inv.base r x h1 hx)
 obtain⟨h1,h2⟩:=h.inv.keep r x hx hi
 exact⟨by omega,by rw[he];exact h2⟩
 obtain⟨h3,h4,h5⟩:=h.inv.kn l y r x v h1 hy hx hv
 exact⟨by omega,h4,by rw[he];exact h5⟩
 obtain⟨h3,h4,h5⟩:=h.inv.kn r x i z v h1 hx hz hv
 rw[he];exact⟨h4,h5⟩
 obtain⟨h3,h4,h5⟩:=h.inv.kn r x r x v h1 hx hx hv
 rw[he];exact⟨by omega,h4⟩
theorem P3 (h:Gd Φ K m n few p) (he:(mi p r).2=0): ∃ K',K<+:K'/\Gd Φ K' m n few (mi p r).1:=by
 obtain⟨x,hx,hu,hS⟩:=yg he
 have hk:=h.ok.at_ hx
 have hsl:=hk.gl.sle
 have h1:=h.same (x':={x with s:=x.es.length}) hx Z Z hsl (ap _) (fun _=>hu)
 rw[hS]
 split
 rename_i hl
 have hx1:(p.reps.set r {x with s:=x.es.length})[r]? =some {x with s:=x.es.length}:=ak (bZ hx).1
 have h2:Gd Φ K m n few {p with reps:=p.reps.set r {x with s:=x.es.length},known:=p.known.set r x.es.length}:=
  ⟨FK h1.ok r I (by have:=hk.gl.len;omega),h1.inv.setK (w:=x.es.length) fun l y z hl' hy hz=>by
   dsimp only at hl' hy hz
   have:l=r:=by omega
   subst this
   rw[hx1]at hy hz;cases hy;cases hz
   simp,h1.small,h1.ents,h1.len,h1.few⟩
 exact h2.adv
 exact⟨K,ki K,h1⟩
end
section
variable {Φ:cd->Prop} {K:List cd} {m n:Nat} {few:Int} {p:gi} {r:Nat}
theorem O8 (h:Gd Φ K m n few p) (he:(fo p r).2=0): ∃ K',K<+:K'/\Gd Φ K' m n few (fo p r).1:=by
 obtain⟨x,hx,hu,hi,hne,hep,hS⟩:=zK h.ok.isrl he
 rw[hS]
 have hk:=h.ok.at_ hx
 have hsl:=hk.gl.sle
 have hln:=hk.gl.len
 obtain⟨k1,k2⟩:=h.inv.keep r x hx hi
 have hok1:=Qx h.ok (b:=(x.es.length:Nat)) hx hu hi hep I I
 have h1:Gd Φ K m n few {p with epoch:=p.epoch+1,leader:=(r:Nat),known:=(ao p.reps.length 0).set r x.s,base:=(x.es.length:Nat)}:=by
  refine⟨Hl hok1 (by simp[h.ok.knownl]) (fun v hv=> ?_),⟨fun i y hy e he=> ?_,h.inv.lm,fun l y i z j e hl hy hz hj hee=> ?_,h.inv.hi,h.inv.keep,fun l y i z v hl hy hz hv=> ?_,fun l y hl hy=> ?_⟩,h.small,h.ents,h.len,h.few⟩
  rcases aD hv with hv|rfl
  rw[cT hv];omega
  omega
  have:=h.inv.ep i y hy e he;dsimp only;omega
  have:=h.inv.ep i z hz e (ab hj);dsimp only at hee;omega
  dsimp only at hl hy hz hv
  have:l=r:=by omega
  subst this
  rw[hx]at hy;cases hy
  rcases eZ hv with⟨rfl,rfl⟩|⟨_,hv⟩
  rw[hx]at hz;cases hz
  simp;omega
  have:=cT (ab hv)
  subst this
  simp
  dsimp only at hl hy⊢
  have:l=r:=by omega
  subst this
  rw[hx]at hy;cases hy
  omega
 exact h1.adv
theorem R3 {e:cd} (h:Gd Φ K m n few p) (hΦ:Φ {e with epoch:=p.epoch}) (hm:m<400) (he:(eF p e).2.2=0): ∃ K',K<+:K'/\Gd Φ K' (m+1) n few (eF p e).1:=by
 obtain⟨x,l,hl,hx,hg,-,hS⟩:=Bs he
 rcases hS with⟨-,hS,-⟩|⟨-,-,hS,-⟩
 rw[hS];exact⟨K,ki K,h.mono (bz m)⟩
 rw[hS]
 have hk:=h.ok.at_ hx
 have hsm:=h.small l x hx
 have hm1:=h.mono (bz m)
 have hlu:=(h.ok.lead l x hl hx).2
 have happ: ∀ {j:Nat} {f:cd},(x.es++[{e with epoch:=p.epoch}])[j]? =some f->x.es[j]? =some f∨(j=x.es.length/\f={e with epoch:=p.epoch}):=fun{j f} hj=>by
  by_cases hjl:j<x.es.length
  rw[bU hjl]at hj;exact .inl hj
  have h1:=(aC.1 hj).1
  simp at h1
  have:j=x.es.length:=by omega
  subst this
  simp at hj
  exact .inr ⟨rfl,hj.symm⟩
 have htk: ∀ j,j<=x.es.length->(x.es++[{e with epoch:=p.epoch}]).take j=x.es.take j:=fun j hj=>kQ hj
 have hhi:=hk.high1
 have hh0:=hk.high0
 have hsl:=hk.gl.sle
 refine⟨K,ki K,hm1.set (x':={x with es:=x.es++[{e with epoch:=p.epoch}]}) hx ⟨GL.of (fun f hf=> ?_) (by simp;omega) (by simp;omega),hh0,by simp;omega⟩ (fun _=>hlu) (by simp;omega) (fun f hf=> ?_) (fun f hf=> ?_) (fun j y i e' f hj hy h4 h5 hef=> ?_) (fun l' y i e' h1 h2=>absurd I h2) (fun _=>by simp) ?_ (fun hi=> ?_) (fun l' y v h1 h2=>absurd I h2) (fun _ i z v hi hz hv=> ?_) (fun _ v hv=> ?_) (fun _=>h.inv.base l x hl hx)⟩
 rcases ar.1 hf with hf|hf
 exact hk.gl.good f hf
 rw[aq.1 hf];exact hg
 rcases ar.1 hf with hf|hf
 exact h.ents l x hx f hf
 rw[aq.1 hf];exact hΦ
 rcases ar.1 hf with hf|hf
 exact h.inv.ep l x hx f hf
 rw[aq.1 hf];exact fj _
 rcases happ h4 with h6|⟨rfl,rfl⟩
 have:=h.inv.lm l j x y i e' f hx hy h6 h5 hef
 dsimp only
 rw[htk _ (by have:=(bZ h6).1;omega)];exact this
 have:=h.inv.cur l x j y _ f hl hx hy h5 hef.symm
 omega
 obtain⟨h1,h2⟩:=h.inv.hi l x hx
 exact⟨h1,by dsimp only;rw[htk _ I];exact h2⟩
 obtain⟨h1,h2⟩:=h.inv.keep l x hx hi
 exact⟨h1,by dsimp only;rw[htk _ I];exact h2⟩
 obtain⟨h1,h2,h3⟩:=h.inv.kn l x i z v hl hx hz hv
 exact⟨by simp;omega,by dsimp only;rw[htk _ h2];exact h3⟩
 obtain⟨h1,h2,h3⟩:=h.inv.kn l x l x v hl hx hx hv
 exact⟨h1,by simp;omega⟩
theorem Cn: ∀ {a b:List cd} {k:Nat},k<=a.length->a.take k=b.take k->k<=dV a b
 |_,_,0,_,_=>aV _
 |[],_,k+1,h,_=>by simp at h
 |a::l,[],k+1,_,h=>by simp at h
 |a::l,b::m,k+1,hl,h=>by
  simp at h
  obtain⟨rfl,h⟩:=h
  unfold dV
  rw[if_pos Z]
  have:=Cn (by simpa using hl) h
  omega
theorem xy: ∀ {a b:List cd} {k:Nat},k<dV a b-> ∃ e f,a[k]? =some e/\b[k]? =some f/\e.epoch=f.epoch
 |[],_,_,h=>by simp[dV]at h
 |_::_,[],_,h=>by simp[dV]at h
 |a::l,b::m,k,h=>by
  unfold dV at h
  split at h
  rename_i hab
  cases k with
  |zero=>exact⟨a,b,rfl,rfl,hab⟩
  |succ k=>
   obtain⟨e,f,h1,h2,h3⟩:=xy (a:=l) (b:=m) (k:=k) I
   exact⟨e,f,h1,h2,h3⟩
  omega
theorem OW (h:Gd Φ K m n few p) (he:(iU p r).2.2=0): ∃ K',K<+:K'/\Gd Φ K' m n few (iU p r).1:=by
 obtain⟨x,y,l,hx,hl,hne,hu,hy⟩:=wq h.ok he
 rw[nX hx hl hne hu hy]
 have hkx:=h.ok.at_ hx
 have hky:=h.ok.at_ hy
 have hle:=sT x.es y.es
 have hge:=fun k h1 h2=>Cn (a:=x.es) (b:=y.es) (k:=k) h1 h2
 have hpre:x.es.take (dV x.es y.es)=y.es.take (dV x.es y.es):=by
  cases hc:dV x.es y.es with
  |zero=>simp
  |succ c=>
   obtain⟨e,f,h1,h2,h3⟩:=xy (a:=x.es) (b:=y.es) (k:=c) I
   exact h.inv.lm r l x y c e f hx hy h1 h2 h3
 generalize hc:dV x.es y.es=c at*
 have hlen:(x.es.take c).length=c:=by rw[aI];omega
 have hsx:=hkx.gl.sle
 have hxh0:=hkx.high0
 have hyh0:=hky.high0
 have hyh1:=hky.high1
 have hyl:=hky.gl.len
 have hkn:r<p.known.length:=by rw[h.ok.knownl];exact(bZ hx).1
 have hlr:p.leader≠(r:Nat):=by omega
 obtain⟨hb1,hb2⟩:=h.inv.keep l y hy (h.ok.lead l y hl hy).1
 have key: ∀ {K:List cd} {q:gi} {x0:RA} (x1:RA) (c':Nat) (y':RA),Gd Φ K m n few q->q.reps[r]? =some x0->q.leader=l->q.reps[l]? =some y'->y'.es=y.es->q.epoch=p.epoch->x1.es=y.es.take c'->c'<=y.es.length->x1.s<=c'->0<=x1.high->x1.high<=c'->x1.high.toNat<=K.length->
   (q.isr[r]? =some true->K.length<=x1.s)->(∀ v:Int,q.known[r]? =some v->v.toNat<=x1.s)->Gd Φ K m n few {q with reps:=q.reps.set r x1}:=by
  intro K q x0 x1 c' y' hq hx0 hql hqy hye hqe h1 hc' h2 h3 h4 h5 h6 h7
  have hqlr:q.leader≠(r:Nat):=by omega
  obtain⟨hb3,hb4⟩:=hq.inv.keep l y' hqy (hq.ok.lead l y' hql hqy).1
  have hKl:K.length<=y.es.length:=by have:=(hq.ok.at_ hqy).gl.sle;rw[hye]at this;omega
  rw[hye]at hb4
  have hmem: ∀ e∈x1.es,e∈y'.es:=fun e he=>by rw[h1]at he;rw[hye];exact qX _ _ he
  have hget: ∀ {j:Nat} {e:cd},x1.es[j]? =some e->y.es[j]? =some e/\j<c':=fun{j e} hj=>by
   rw[h1,dz]at hj
   split at hj
   exact⟨hj,by assumption⟩
   cases hj
  have hKt: ∀ k,k<=K.length->y.es.take k=K.take k:=fun k hk=>by
   have:=congrArg (ug k) hb4
   rwa[dt,bE hk]at this
  have hx1l:x1.es.length=c':=by rw[h1,aI];omega
  refine hq.set hx0 ⟨GL.of (fun e he=>(hq.ok.at_ hqy).gl.good e (hmem e he)) I I,h3,by omega⟩ (fun hl=>absurd hl hqlr) (by have:=hq.small l y' hqy;rw[hye]at this;omega) (fun e he=>hq.ents l y' hqy e (hmem e he)) (fun e he=>hq.inv.ep l y' hqy e (hmem e he)) (fun j z i e f hj hz h8 h9 hef=> ?_) (fun l' z i e hl' hlr' hz h8 hee=> ?_) (fun hl=>absurd hl hqlr) ⟨h5,?_⟩ (fun hi=>⟨h6 hi,?_⟩) (fun l' z v hl' hlr' hz hv=> ?_) (fun hl=>absurd hl hqlr) (fun hl=>absurd hl hqlr) (fun hl=>absurd hl hqlr)
  obtain⟨h10,h11⟩:=hget h8
  have:=hq.inv.lm l j y' z i e f hqy hz (by rw[hye];exact h10) h9 hef
  rw[h1,dt,bE I,<-hye];exact this
  have:l'=l:=by omega
  subst this
  rw[hqy]at hz;cases hz
  rw[hye]
  exact(bZ (hget h8).1).1
  rw[h1,dt,bE I]
  exact hKt _ h5
  have:=h6 hi
  rw[h1,dt,bE I];exact hb4
  have:l'=l:=by omega
  subst this
  rw[hqy]at hz;cases hz
  have:=h7 v hv
  exact⟨this,by rw[hye];omega,by rw[h1,dt,bE I,hye]⟩
 have hKc:p.isr[r]? =some true->K.length<=min x.s c:=fun hi=>by
  obtain⟨h1,h2⟩:=h.inv.keep r x hx hi
  have:=hge K.length I (by rw[h2,hb2])
  omega
 obtain⟨hhx1,hhx2⟩:=h.inv.hi r x hx
 have hmx:min x.s c<=c:=by omega
 have g1:=h.setK0 r
 have g2:=key (K:=K) (q:={p with known:=p.known.set r 0}) (x0:=x) ⟨x.up,y.es.take c,min x.s c,min x.high c⟩ c y g1 hx hl hy Z Z Z hle.2 hmx (by dsimp only;omega) (by dsimp only;omega) (by dsimp only;omega) hKc (fun v hv=>by
  dsimp only at hv
  rw[ak hkn]at hv
  cases hv;simp)
 have hx2:(p.reps.set r ⟨x.up,y.es.take c,min x.s c,min x.high c⟩)[r]? =some ⟨x.up,y.es.take c,min x.s c,min x.high c⟩:=ak (bZ hx).1
 have hy2:(p.reps.set r ⟨x.up,y.es.take c,min x.s c,min x.high c⟩)[l]? =some y:=by rw[aO hne];exact hy
 have g3:Gd Φ K m n few {p with reps:=p.reps.set r ⟨x.up,y.es.take c,min x.s c,min x.high c⟩,known:=p.known.set r (min x.s c:Nat)}:=by
  refine⟨?_,?_,g2.small,g2.ents,g2.len,g2.few⟩
  have:=FK g2.ok r (v:=(min x.s c:Nat)) I (by have:=hky.gl.len;omega)
  dsimp only at this
  rw[fS]at this
  exact this
  have:=g2.inv.setK (r:=r) (w:=(min x.s c:Nat)) fun l' z z2 hl' hz hz2=>by
   dsimp only at hl' hz hz2
   have:l'=l:=by omega
   subst this
   rw[hy2]at hz;cases hz
   rw[hx2]at hz2;cases hz2
   dsimp only
   simp only[lR]
   refine⟨ap _,by omega,by rw[dt,bE hmx]⟩
  dsimp only at this
  rw[fS]at this
  exact this
 obtain⟨K',hK',g4⟩:=g3.adv
 rw[BE (p:={p with reps:=p.reps.set r ⟨x.up,y.es.take c,min x.s c,min x.high c⟩,known:=p.known.set r (min x.s c:Nat)}) (l:=l) (r:=y) hl hy2]at g4
 generalize hH:max y.high (min (dr p.isr (p.known.set r (min x.s c:Nat)) 400) y.es.length)=H at*
 have hy4:((p.reps.set r ⟨x.up,y.es.take c,min x.s c,min x.high c⟩).set l {y with high:=H})[l]? =some {y with high:=H}:=ak (by rw[ae];exact(bZ hy).1)
 have hx4:((p.reps.set r ⟨x.up,y.es.take c,min x.s c,min x.high c⟩).set l {y with high:=H})[r]? =some ⟨x.up,y.es.take c,min x.s c,min x.high c⟩:=by rw[aO (Ne.symm hne)];exact hx2
 have hK'l:K.length<=K'.length:=hK'.length_le
 have hHK:H.toNat<=K'.length:=(g4.inv.hi l _ hy4).1
 have hset: ∀ x1:RA,(((p.reps.set r ⟨x.up,y.es.take c,min x.s c,min x.high c⟩).set l {y with high:=H}).set r x1)=(p.reps.set l {y with high:=H}).set r x1:=fun x1=>by
  rw[Dr _ _ (Ne.symm hne),fS,Dr _ _ hne]
 have hK'c:p.isr[r]? =some true->K'.length<=min x.s c:=fun hi=>(g4.inv.keep r _ hx4 hi).1
 have hknr: ∀ v:Int,(p.known.set r (min x.s c:Nat))[r]? =some v->v.toNat<=min x.s c:=fun v hv=>by
  rw[ak hkn]at hv
  cases hv;simp
 refine⟨K',hK',?_⟩
 unfold io
 rw[hc]
 cases hz:y.es[c]? with
 |none=>
  have g5:=key ⟨x.up,x.es.take c,min x.s c,min (max x.high H) (c:Nat)⟩ c {y with high:=H} g4 hx4 hl hy4 Z Z hpre hle.2 hmx (by dsimp only;omega) (by dsimp only;omega) (by dsimp only;omega) hK'c hknr
  dsimp only at g5⊢
  rw[hset]at g5
  exact g5
 |some z=>
  have hzl:=(bZ hz).1
  have hes:x.es.take c++[z]=y.es.take (c+1):=by rw[hpre,List.take_add_one,hz];rfl
  have g5:=key ⟨x.up,x.es.take c++[z],min x.s c,min (max x.high H) ((c:Nat)+1)⟩ (c+1) {y with high:=H} g4 hx4 hl hy4 Z Z hes I (by dsimp only;omega) (by dsimp only;omega) (by dsimp only;omega) (by dsimp only;omega) hK'c hknr
  dsimp only at g5⊢
  rw[hset]at g5
  exact g5
theorem FM {n few:Nat} (h1:1<=n) (h5:n<=5) (hf:1<=few) (hfn:few<=n):Gd Φ [] 0 n few (l8 n few):=by
 have hr: ∀ (i:Nat) (x:RA),(l8 n few).reps[i]? =some x->x=⟨true,[],0,0⟩:=fun i x hx=>cT (ab hx)
 refine⟨⟨by simp[l8]<;>omega,by simp[l8]<;>omega,by simp[l8]<;>omega,by simp[l8]<;>omega,by simp[l8]<;>omega,by simp[l8]<;>omega,by simp[l8]<;>omega,by simp[l8]<;>omega,by simp[l8]<;>omega,by simp[l8]<;>omega,by simp[l8]<;>omega,by simp[l8]<;>omega,by simp[l8]<;>omega,fun l r hl=>by simp[l8]at hl<;>omega,fun r hr=> ?_,fun v hv=> ?_⟩,⟨fun i x hx=>by rw[hr i x hx];simp,fun i j x y k e f hx hy he=>by rw[hr i x hx]at he;simp at he,fun l y i x k e hl=>by simp[l8]at hl<;>omega,fun i x hx=>by rw[hr i x hx];simp,fun i x hx _=>by rw[hr i x hx];simp,fun l y i x v hl=>by simp[l8]at hl<;>omega,fun l y hl=>by simp[l8]at hl<;>omega⟩,fun i x hx=>by rw[hr i x hx];simp,fun i x hx=>by rw[hr i x hx];simp,by simp[l8]<;>omega,rfl⟩
 rw[cT hr]
 exact⟨GL.of (by simp) (by simp) (by simp),by simp,by simp⟩
 rw[cT hv];omega
end

def Tr:Deep Pa:=⟨fun p=>p.rd,fun _ _ _ _ _ hk h=>h.st hk,fun _ _ _ _ _ _ h h1 h2=>h.mono h1 h2⟩
/-- a producer's transactions, and where its parts lie -/
structure Tx where
 name:ByteArray
 pid:Int
 ver:Int
 state:Int
 parts:List Int
 since:Int
 done:Int
 A:Option Addr
 cap:Nat
def Tx.c (t:Tx):List Value:=[.string t.name,.int .i64 t.pid,.int .i64 t.ver,.int .i64 t.state,.slice t.A t.parts.length t.cap,.int .i64 t.since,.int .i64 t.done]
abbrev Tx.v (t:Tx):Value:=.agg t.c.toArray
def sJ:fu Tx:=⟨Tx.c,7,fun _=>rfl,by decide,fun a u hu=>by
 simp only[Tx.c,ay,bu,or_false]at hu
 rcases hu with h|h|h|h|h|h|h<;>subst h<;>rfl⟩
def rX (c:UInt8):Bool:=decide (97<=(c.toNat:Int))&&decide ((c.toNat:Int)<=122)
def bC (s:ByteArray):Bool:=decide (s≠⟨#[]⟩)&&decide ((s.size:Int)<=8)&&s.data.toList.all rX
def fa:Int->List Int->Bool
 |_,[]=>true
 |last,p::l=>decide (last<p)&&decide (p<4)&&fa p l
def ra (clock next:Int) (t:Tx):Bool:=bC t.name&&decide (1<=t.pid)&&decide (t.pid<next)&&iu t.ver&&decide (1<=t.state)&&decide (t.state<=4)&&decide (0<=t.since)&&decide (t.since<=clock)&&(decide (t.done=0)||decide (t.done=3)||decide (t.done=4))
 &&fa (-1) t.parts&&(decide (t.state=1)==decide (t.parts.length=0))
theorem dp {ck nx:Int} {t:Tx}:ra ck nx t=true↔bC t.name=true/\1<=t.pid/\t.pid<nx/\iu t.ver=true/\1<=t.state/\t.state<=4/\0<=t.since/\t.since<=ck/\(t.done=0∨t.done=3∨t.done=4)/\fa (-1) t.parts=true/\(t.state=1↔t.parts.length=0):=by
 unfold ra
 simp only[bg,sL,decide_eq_true_eq,beq_iff_eq,decide_eq_decide,and_assoc,or_assoc]
theorem yv (es:List UInt8) (A:Option Addr) (c:Nat) (w:World) (hr:Rd dQ 0 w.heap.size A es w) (hb:es.length<=1000000) (f:FuncId) (cap:List Value) (hf:bh aa f=true) (pred:UInt8->Bool)
  (hp: ∀ e w',e∈es->Below w.heap.size w w'->di aa f (.int .u8 (e.toNat:Nat)::cap) w' fun v w2=>v=.bool (pred e)/\Below w'.heap.size w' w2):
  di aa oH [.slice A es.length c,.func (.func f) #[] cap.toArray] w fun v w2=>v=J (lH (es.findIdx? pred))/\Below w.heap.size w w2:=by
 refine aG nQ Z Z ?_
 have H:=Hp.startRd hr
 refine W<|Zr<|G (Wi Z)<|U<|W<|W<|Zr<|G (Ys Z)<|G (bl eY Z)<|G (Yi Z)<|U<|Zb ?_
 refine bV (τ:=Nat) [4,5,8,9,10,11,12,13,14,15,16,17,18] (fun k=>[(8,J (k:Nat))]) (fun k w'=>k<=es.length/\(∀ j e,j<k->es[j]? =some e->pred e=false)/\Hp w w' [] [ee dQ 0 w.heap.size A es]) (fun k=>es.length-k) 0 ⟨by omega,by intro j e hj;omega,H⟩ (ef Z) ?_
 rintro k ρ1 w1 ⟨hk,hno,H⟩
 show CW _ _ _ _ (dO (ij _ _ ρ1) [(8,J (k:Nat))]) w1
 refine W<|Zr ?_
 refine dZ (cI Z Z) Z Z Z (fun h9=> ?_) (fun h9=> ?_)
 refine U<|W<|ZT Z<|Zk<|W<|Zb<|W<|Zr<|G (Yi Z)<|G (Wi Z)<|U<|W<|Zr<|G (uj Z)<|G (Ys Z)<|G (Yi Z)<|rE H 0 Z eJ Z Z I I Z fun b2 o2 x2 e2=>G (bd mZ Z (e2.cl 0 _ Z)) ?_
 refine Re hf Z (hp x2 _ (ab e2.at_) H.below) Z Z ?_;rintro _ w3 ⟨rfl,hb2⟩;replace H:=H.later hb2;clear hb2
 refine px 16 Z (fun h16=> ?_) (fun h16=> ?_)
 refine U<|ZT Z<|W<|Zr<|G (Yi Z)<|G (Wi Z)<|U<|Zt ?_
 have hi:es.findIdx? pred=some k:=by
  rw[aF]
  obtain⟨hl,hx⟩:=bZ e2.at_
  exact⟨hl,by rw[hx];exact h16,fun j hj=>by rw[hno j _ hj (ai I)];simp⟩
 exact cU (v:=J (k:Nat)) Z Z ⟨by rw[hi];rfl,H.below⟩
 refine U<|ZF Z<|Zk<|Zr<|G (bn Z Z I I)<|G (Yi Z)<|U ?_
 refine⟨k+1,⟨by omega,fun j e hj he=> ?_,H⟩,ef Z,Qg,by show es.length- (k+1)<es.length-k;omega⟩
 by_cases hji:j<k
 exact hno j e hji he
 have:j=k:=by omega
 subst this;have he2:=e2.at_;rw[he]at he2;injection he2 with he2;subst he2;exact h16
 refine U<|W<|ZF Z<|Zx<|W<|Zr<|G (Wi Z)<|U<|Zt ?_
 have hi:es.findIdx? pred=none:=by
  rw[cD]
  intro e he
  obtain⟨j,hj⟩:=aN.1 he
  exact hno j e (by have:=(bZ hj).1;omega) hj
 exact cU (v:=J (-1)) Z Z ⟨by rw[hi];rfl,H.below⟩
theorem oZ (es:List UInt8) (A:Option Addr) (c:Nat) (w:World) (hr:Rd dQ 0 w.heap.size A es w) (hb:es.length<=1000000) (f:FuncId) (cap:List Value) (hf:bh aa f=true) (pred:UInt8->Bool)
  (hp: ∀ e w',e∈es->Below w.heap.size w w'->di aa f (.int .u8 (e.toNat:Nat)::cap) w' fun v w2=>v=.bool (pred e)/\Below w'.heap.size w' w2):
  di aa m3 [.slice A es.length c,.func (.func f) #[] cap.toArray] w fun v w2=>v=.bool (es.any pred)/\Below w.heap.size w w2:=by
 refine aG mJ Z Z ?_
 have H:=Hp.start w
 refine W<|Zr<|G (Wb Z)<|U<|W<|Zr<|G (Ys Z)<|G (uj Z)<|cE n7 (yv es _ _ _ hr hb f cap hf pred hp) Z Z ?_
 rintro _ w1 ⟨rfl,hb⟩;replace H:=H.later hb;clear hb
 refine G (pN Z Z)<|G (Wb Z)<|U<|Zt ?_
 have hv:decide (0<=lH (es.findIdx? pred))=es.any pred:=by
  cases hi:es.findIdx? pred with
  |none=>rw[cD]at hi;simp[lH];exact fun a h=>hi a h
  |some i=>
   obtain⟨hl,h1,-⟩:=aF.1 hi
   have:es.any pred=true:=List.any_eq_true.2 ⟨_,xn hl,h1⟩
   rw[this];simp[lH]
 exact cU (v:=.bool (decide (0<=lH (es.findIdx? pred)))) Z Z ⟨by rw[hv],H.below⟩
theorem gx (es:List Tx) (A:Option Addr) (c:Nat) (w:World) (hr:Rd sJ 0 w.heap.size A es w) (hb:es.length<=1000000) (f:FuncId) (cap:List Value) (hf:bh aa f=true) (pred:Tx->Bool)
  (hp: ∀ e w',e∈es->Below w.heap.size w w'->di aa f (.agg (sJ.f e).toArray::cap) w' fun v w2=>v=.bool (pred e)/\Below w'.heap.size w' w2):
  di aa p7 [.slice A es.length c,.func (.func f) #[] cap.toArray] w fun v w2=>v=J (lH (es.findIdx? pred))/\Below w.heap.size w w2:=by
 refine aG pG Z Z ?_
 have H:=Hp.startRd hr
 refine W<|Zr<|G (Wi Z)<|U<|W<|W<|Zr<|G (Ys Z)<|G (bl lG Z)<|G (Yi Z)<|U<|Zb ?_
 refine bV (τ:=Nat) [4,5,8,9,10,11,12,13,14,15,16,17,18] (fun k=>[(8,J (k:Nat))]) (fun k w'=>k<=es.length/\(∀ j e,j<k->es[j]? =some e->pred e=false)/\Hp w w' [] [ee sJ 0 w.heap.size A es]) (fun k=>es.length-k) 0 ⟨by omega,by intro j e hj;omega,H⟩ (ef Z) ?_
 rintro k ρ1 w1 ⟨hk,hno,H⟩
 show CW _ _ _ _ (dO (ij _ _ ρ1) [(8,J (k:Nat))]) w1
 refine W<|Zr ?_
 refine dZ (cI Z Z) Z Z Z (fun h9=> ?_) (fun h9=> ?_)
 refine U<|W<|ZT Z<|Zk<|W<|Zb<|W<|Zr<|G (Yi Z)<|G (Wi Z)<|U<|W<|Zr<|G (uj Z)<|G (Ys Z)<|G (Yi Z)<|rE H 0 Z gY Z Z I I Z fun b2 o2 x2 e2=>G (jF (xs:=sJ.f x2) BD Z Z e2.cl) ?_
 refine Re hf Z (hp x2 _ (ab e2.at_) H.below) Z Z ?_;rintro _ w3 ⟨rfl,hb2⟩;replace H:=H.later hb2;clear hb2
 refine px 16 Z (fun h16=> ?_) (fun h16=> ?_)
 refine U<|ZT Z<|W<|Zr<|G (Yi Z)<|G (Wi Z)<|U<|Zt ?_
 have hi:es.findIdx? pred=some k:=by
  rw[aF]
  obtain⟨hl,hx⟩:=bZ e2.at_
  exact⟨hl,by rw[hx];exact h16,fun j hj=>by rw[hno j _ hj (ai I)];simp⟩
 exact cU (v:=J (k:Nat)) Z Z ⟨by rw[hi];rfl,H.below⟩
 refine U<|ZF Z<|Zk<|Zr<|G (bn Z Z I I)<|G (Yi Z)<|U ?_
 refine⟨k+1,⟨by omega,fun j e hj he=> ?_,H⟩,ef Z,Qg,by show es.length- (k+1)<es.length-k;omega⟩
 by_cases hji:j<k
 exact hno j e hji he
 have:j=k:=by omega
 subst this;have he2:=e2.at_;rw[he]at he2;injection he2 with he2;subst he2;exact h16
 refine U<|W<|ZF Z<|Zx<|W<|Zr<|G (Wi Z)<|U<|Zt ?_
 have hi:es.findIdx? pred=none:=by
  rw[cD]
  intro e he
  obtain⟨j,hj⟩:=aN.1 he
  exact hno j e (by have:=(bZ hj).1;omega) hj
 exact cU (v:=J (-1)) Z Z ⟨by rw[hi];rfl,H.below⟩
theorem wI (es:List Tx) (A:Option Addr) (c:Nat) (w:World) (hr:Rd sJ 0 w.heap.size A es w) (hb:es.length<=1000000) (f:FuncId) (cap:List Value) (hf:bh aa f=true) (pred:Tx->Bool)
  (hp: ∀ e w',e∈es->Below w.heap.size w w'->di aa f (.agg (sJ.f e).toArray::cap) w' fun v w2=>v=.bool (pred e)/\Below w'.heap.size w' w2):
  di aa nN [.slice A es.length c,.func (.func f) #[] cap.toArray] w fun v w2=>v=.bool (es.any pred)/\Below w.heap.size w w2:=by
 refine aG ny Z Z ?_
 have H:=Hp.start w
 refine W<|Zr<|G (Wb Z)<|U<|W<|Zr<|G (Ys Z)<|G (uj Z)<|cE dG (gx es _ _ _ hr hb f cap hf pred hp) Z Z ?_
 rintro _ w1 ⟨rfl,hb⟩;replace H:=H.later hb;clear hb
 refine G (pN Z Z)<|G (Wb Z)<|U<|Zt ?_
 have hv:decide (0<=lH (es.findIdx? pred))=es.any pred:=by
  cases hi:es.findIdx? pred with
  |none=>rw[cD]at hi;simp[lH];exact fun a h=>hi a h
  |some i=>
   obtain⟨hl,h1,-⟩:=aF.1 hi
   have:es.any pred=true:=List.any_eq_true.2 ⟨_,xn hl,h1⟩
   rw[this];simp[lH]
 exact cU (v:=.bool (decide (0<=lH (es.findIdx? pred)))) Z Z ⟨by rw[hv],H.below⟩
theorem C8 (n:Int) (w:World):di aa CG [J n] w fun v w2=>v=.bool (iu n)/\Below w.heap.size w w2:=by
 refine aG Bb Z Z ?_
 have H:=Hp.start w
 refine W<|Zr<|G (Wb Z)<|U<|W<|Zr<|G (Yi Z) ?_
 refine dZ (pN Z Z) Z Z Z (fun h4=> ?_) (fun h4=> ?_)
 refine G (Yb Z)<|ZG<|G (Yi Z)<|ZG ?_
 refine dZ (Kv Z Z) Z Z Z (fun h7=> ?_) (fun h7=> ?_)
 refine G (Kt Z Z)<|G (Wb Z)<|U<|Zt ?_
 have hv:iu n=true:=by unfold iu;simp;omega
 exact cU (v:=.bool true) Z Z ⟨by rw[hv],H.below⟩
 refine G (Kt Z Z)<|G (Wb Z)<|U<|Zt ?_
 have hv:iu n=false:=by unfold iu;simp;omega
 exact cU (v:=.bool false) Z Z ⟨by rw[hv],H.below⟩
 refine G (Yb Z)<|ZN<|ZN<|G (N Z Z)<|G (Wb Z)<|U<|Zt ?_
 have hv:iu n=false:=by unfold iu;simp;omega
 exact cU (v:=.bool false) Z Z ⟨by rw[hv],H.below⟩
theorem Je (c:UInt8) (w:World):di aa un [.int .u8 (c.toNat:Nat)] w fun v w2=>v=.bool (!rX c)/\Below w.heap.size w w2:=by
 refine aG zF Z Z ?_
 have H:=Hp.start w
 refine W<|Zr<|G (Wb Z)<|U<|W<|Zr<|G (Yi Z) ?_
 refine dZ (cI Z Z) Z Z Z (fun h4=> ?_) (fun h4=> ?_)
 refine G (Yb Z)<|ZN<|ZN<|G (Kt Z Z)<|G (Wb Z)<|U<|Zt ?_
 have hv:(!rX c)=true:=by unfold rX;simp;omega
 exact cU (v:=.bool true) Z Z ⟨by rw[hv],H.below⟩
 refine G (Yb Z)<|ZG<|G (Yi Z)<|ZG ?_
 refine dZ (nC Z Z) Z Z Z (fun h7=> ?_) (fun h7=> ?_)
 refine G (N Z Z)<|G (Wb Z)<|U<|Zt ?_
 have hv:(!rX c)=true:=by unfold rX;simp;omega
 exact cU (v:=.bool true) Z Z ⟨by rw[hv],H.below⟩
 refine G (N Z Z)<|G (Wb Z)<|U<|Zt ?_
 have hv:(!rX c)=false:=by unfold rX;simp;omega
 exact cU (v:=.bool false) Z Z ⟨by rw[hv],H.below⟩
theorem FP (s:ByteArray) (w:World):di aa F8 [.string s] w fun v w2=>v=.bool (bC s)/\Below w.heap.size w w2:=by
 refine aG D0 Z Z ?_
 have H:=Hp.start w
 refine W<|Zr<|G (Wb Z)<|U<|W<|W<|Zr<|G (Yt Z) ?_
 refine dZ (uZ Z Z) Z Z Z (fun h4=> ?_) (fun h4=> ?_)
 refine G (Yb Z)<|ZN<|ZN<|ZN<|G (Kt Z Z)<|U<|ZT Z<|W<|Zr<|G (Wb Z)<|U<|Zt ?_
 have hv:bC s=false:=by unfold bC;simp;simp[h4]
 exact cU (v:=.bool false) Z Z ⟨by rw[hv],H.below⟩
 refine G (Yb Z)<|ZG<|G (Yt Z)<|ZG<|G (FT jf Z)<|ZG ?_
 refine dZ (nC Z Z) Z Z Z (fun h8=> ?_) (fun h8=> ?_)
 refine G (N Z Z)<|U<|ZT Z<|W<|Zr<|G (Wb Z)<|U<|Zt ?_
 have hv:bC s=false:=by unfold bC;simp;omega
 exact cU (v:=.bool false) Z Z ⟨by rw[hv],H.below⟩
 refine G (N Z Z)<|U<|ZF Z<|Zk<|W<|Zr<|G (Yt Z)<|Ta (Y:=dQ) H jf eJ iH Z (fun _=>rfl) Z Z fun w1 A11 c11 hc11 H=> ?_
 have hlen:s.data.toList.length=s.size:=by rw[ch];rfl
 refine cE iQ (oZ s.data.toList _ _ _ (H.rd0 0 Z) I un [] zS (fun c=>!rX c) (fun e w2 _ _=>Je e w2)) Z Z ?_
 rintro _ w2 ⟨rfl,hb⟩;replace H:=H.later hb;clear hb
 refine G (d9 Z)<|G (Wb Z)<|U<|Zt ?_
 have h8b:decide ((s.size:Int)<=8)=true:=decide_eq_true I
 have hv:bC s=!(s.data.toList.any fun c=>!rX c):=by unfold bC;rw[decide_eq_true h4,h8b,wy,wy,List.all_eq_not_any_not]
 exact cU (v:=.bool (!(s.data.toList.any fun c=>!rX c))) Z Z ⟨by rw[hv],H.below⟩
section
/-- an insertion sort's inner loop -/
def BX {α:Type} (lt:α->α->Bool):Nat->List α->List α
 |0,l=>l
 |j+1,l=>match l[j]?,l[j+1]? with
  |some a,some b=>if lt b a then BX lt j ((l.set (j+1) a).set j b)else l
  |_,_=>l
def kw {α:Type} (lt:α->α->Bool):Nat->List α->List α
 |0,l=>l
 |i+1,l=>BX lt i (kw lt i l)
theorem G4 {α:Type} {lt:α->α->Bool}: ∀ {j:Nat} {l:List α},(BX lt j l).length=l.length
 |0,_=>rfl
 |j+1,l=>by
  unfold BX
  split
  split
  rw[G4];simp
  rfl
  rfl
theorem CB {α:Type} {lt:α->α->Bool}: ∀ {i:Nat} {l:List α},(kw lt i l).length=l.length
 |0,_=>rfl
 |i+1,l=>by unfold kw;rw[G4,CB]
theorem Kc {α:Type} {lt:α->α->Bool} {j:Nat} {l:List α} {a b:α} (ha:l[j]? =some a) (hb:l[j+1]? =some b) (h:lt b a=true):BX lt (j+1) l=BX lt j ((l.set (j+1) a).set j b):=by
 conv=>lhs;unfold BX
 rw[ha,hb]
 dsimp only
 rw[if_pos h]
theorem EF {α:Type} {lt:α->α->Bool} {j:Nat} {l:List α} {a b:α} (ha:l[j]? =some a) (hb:l[j+1]? =some b) (h:lt b a=false):BX lt (j+1) l=l:=by
 conv=>lhs;unfold BX
 rw[ha,hb]
 dsimp only
 rw[if_neg (by rw[h];decide)]
theorem zf {P:Program} {ρ:gV} {w:World} {t:TypeId} {p:String} {af:Array Edge} {g:Option (Nat×Bool)} {dst:Option Nat} {x y:Operand} {ty ty':TypeId} {a b:Int} (c:Int) (hx:ev ρ x=.int .i64 a) (hy:ev ρ y=.int .i64 b) (hc:a-b=c) (h1: -9000000000000000000<=c) (h2:c<=9000000000000000000):(execOp (ev ρ) (Og dst (.binOp .sub ty x y ty') t p af g)).run P w=.ok (.value (.int .i64 c)) w:=by
 subst hc
 exact qt hx hy h1 h2
theorem xP {α:Type} {m es:List α} {a b:Nat} (h:m.drop a=es.drop a) (hb:a<=b):m.drop b=es.drop b:=by
 have:=congrArg (List.drop (b-a)) h
 rw[km,km]at this
 rwa[show a+(b-a)=b by omega]at this
theorem Ew {α:Type} {l:List α} {k:Nat} (h:k<l.length) (a:α):(l.set k a).take (k+1)=l.take k++[a]:=by
 rw[ed (e:=a) (by rw[ak h]),BG (ap k)]
theorem getD_some {α:Type} {l:List α} {i:Nat} (d:α) (h:i<l.length):l[i]? =some (l.getD i d):=by
 rw[cS,ai h];rfl
theorem Nt {α:Type} {lt:α->α->Bool} {es l:List α} {i n:Nat} (hl:l=kw lt i es) (h1:1<=i) (h2:i<=n+1) (h3:n≠0->i<=n) (h4:n<=i):l=kw lt n es:=by
 by_cases h0:n=0
 have:i=1:=by omega
 rw[hl,this,h0];rfl
 rw[hl,show i=n by omega]
section
variable {α:Type} {lt:α->α->Bool}
theorem G5: ∀ (n:Nat) (p:List α) (x:α) (s:List α),p.length=n-> ∃ p1 p2,p=p1++p2/\BX lt n (p++x::s)=p1++x::p2++s/\(∀ y∈p2,lt x y=true)/\(∀ y,p1.getLast? =some y->lt x y=false)
 |0,p,x,s,h=>by
  rw[bS h]
  exact⟨[],[],rfl,rfl,by simp,by simp⟩
 |n+1,p,x,s,h=>by
  obtain⟨q,y,rfl⟩: ∃ q y,p=q++[y]:=⟨p.dropLast,p.getLast (by intro e;rw[e]at h;cases h),(List.dropLast_concat_getLast _).symm⟩
  have hq:q.length=n:=by simpa using h
  have ha:(q++[y]++x::s)[n]? =some y:=by rw[aB,cy (by omega),hq];simp
  have hb:(q++[y]++x::s)[n+1]? =some x:=by rw[aB,cy (by omega),hq];simp
  cases hl:lt x y with
  |false=>
   refine⟨q++[y],[],by simp,?_,by simp,?_⟩
   rw[EF ha hb hl];simp
   intro z hz
   simp only[List.getLast?_append,List.getLast?_singleton,Option.some_or,jI]at hz
   rw[<-hz];exact hl
  |true=>
   have hs:((q++[y]++x::s).set (n+1) y).set n x=q++x::(y::s):=by
    rw[aB,jt _ _ (by omega),jt _ _ (by omega),hq,mQ,show n+1-n=1 by omega]
    rfl
   obtain⟨p1,p2,hp,h1,h2,h3⟩:=G5 n q x (y::s) hq
   refine⟨p1,p2++[y],by rw[hp];simp,?_,?_,h3⟩
   rw[Kc ha hb hl,hs,h1];simp
   intro z hz
   rcases ar.1 hz with hz|hz
   exact h2 z hz
   rw[aq.1 hz];exact hl
theorem CA: ∀ (i:Nat) (l:List α),i<=l.length-> ∃ p,kw lt i l=p++l.drop i/\p.Perm (l.take i)
 |0,l,_=>⟨[],by simp[kw],by simp⟩
 |i+1,l,h=>by
  obtain⟨p,h1,h2⟩:=CA i l (by omega)
  obtain⟨x,hx⟩: ∃ x,l[i]? =some x:=⟨_,ai (by omega)⟩
  have hl:p.length=i:=by rw[h2.length_eq,aI];omega
  obtain⟨p1,p2,hp,h4,-,-⟩:=G5 (lt:=lt) i p x (l.drop (i+1)) hl
  refine⟨p1++x::p2,?_,?_⟩
  unfold kw
  rw[h1,du hx,h4]
  rw[ed hx]
  refine(qY).trans ?_
  rw[<-hp]
  exact(ah x h2).trans (uw x _).symm
theorem Cz (l:List α):(kw lt l.length l).Perm l:=by
 obtain⟨p,h1,h2⟩:=CA (lt:=lt) l.length l (ap _)
 rw[kk,aP]at h1
 rw[br]at h2
 rw[h1];exact h2
end
theorem Hp.sealO {α:Type} {Y:fu α} {e:TypeId} {w0 w:World} {K L M:List (Nat×Obj)} {F:List cf} {A:Option Addr} {es:List α} {c:Nat} (H:Hp w0 w (K++L++M) F) (ho:gb Y (.slice A es.length c) e es L): ∃ lo hi,Hp w0 w (K++M) (ee Y lo hi A es::F):=by
 have H1:Hp w0 w (K++M) F:=H.forget (by rw[aB];exact(au K).append (ci L M)) (fun _ h=>h)
 by_cases h0:es.length=0
 have:=bS h0
 subst this
 refine⟨0,0,H1.below,H1.ents,H1.nodup,fun f hf=> ?_⟩
 rcases ay.1 hf with rfl|hf
 exact⟨Rd.nil,aV _,fun x _=> .inr (aV _)⟩
 exact H1.facts f hf
 obtain⟨g,cur,rfl,rfl,row⟩:=ho.row (by omega)
 have hg:=H.ents (g,.cells cur e (0,0)) (by simp)
 refine⟨g,g+1,H1.below,H1.ents,H1.nodup,fun f hf=> ?_⟩
 rcases ay.1 hf with rfl|hf
 refine⟨row.rd hg.1,bX hg.1,fun x hx=> ?_⟩
 have hne:x.1≠g:=fun h=>by
  have hn:=H.nodup
  rw[aB,bi,bi,pQ]at hn
  obtain⟨n1,n2,n3⟩:=hn
  rcases ar.1 hx with hx|hx
  exact n3 x.1 (bM hx) g (by simp) h
  have:=(jB.1 n2).1
  have hm:=bM (f:=_root_.Prod.fst) hx
  rw[h]at hm
  exact this hm
 show x.1<g∨g+1<=x.1
 omega
 exact H1.facts f hf
theorem d8.clr {α:Type} {Y:fu α} {es:List α} {c k o:Nat} {cur:Array Value} {zs:List Value} (h:d8 Y es c cur) (hk:k<=es.length) (ho:k*Y.sz<=o) (hz:o+zs.length<=cur.size):d8 Y (es.take k) c (pz cur o zs):=by
 refine⟨by rw[jX hz,h.size],?_,by rw[aI];have:=h.le;omega,h.max⟩
 rw[aI,bE hk,Cv ho (by omega),h.pre hk]
end
/-- a member, and where its parts lie -/
structure Mem where
 name:ByteArray
 heard:Int
 parts:List Int
 A:Option Addr
 cap:Nat
 lo:Nat
 hi:Nat
def Mem.c (m:Mem):List Value:=[.string m.name,J m.heard,.slice m.A m.parts.length m.cap]
def j8:fu Mem:=⟨Mem.c,3,fun _=>rfl,by decide,fun a u hu=>by
 simp only[Mem.c,ay,bu,or_false]at hu
 rcases hu with h|h|h<;>subst h<;>rfl⟩
structure mP where
 part:Int
 at_:Int
def mP.c (o:mP):List Value:=[J o.part,J o.at_]
def gm:fu mP:=⟨mP.c,2,fun _=>rfl,by decide,fun a u hu=>by
 simp only[mP.c,ay,bu,or_false]at hu
 rcases hu with h|h<;>subst h<;>rfl⟩
structure Gr where
 clock:Int
 wait:Int
 gen:Int
 ms:List Mem
 mA:Option Addr
 mC:Nat
 os:List mP
 oA:Option Addr
 oC:Nat
def Gr.c (g:Gr):List Value:=[J g.clock,J g.wait,J g.gen,.slice g.mA g.ms.length g.mC,.slice g.oA g.os.length g.oC]
abbrev Gr.v (g:Gr):Value:=.agg g.c.toArray
def Mem.a (m:Mem):Mem:={m with A:=none,cap:=0,lo:=0,hi:=0}
abbrev nJ (m:Mem):cf:=ee bR m.lo m.hi m.A m.parts
def Gr.a (g:Gr):Gr:={g with ms:=g.ms.map Mem.a,mA:=none,mC:=0,oA:=none,oC:=0}
def wU (ck:Int) (m:Mem):Bool:=bC m.name&&decide (0<=m.heard)&&decide (m.heard<=ck)&&fa (-1) m.parts
def pZ (m p:Mem):Bool:=decide (p.name=m.name)
def zv (ck:Int):List Mem->List Mem->Bool
 |_,[]=>true
 |pre,m::l=>wU ck m&&!(pre.any (pZ m))&&zv ck (pre++[m]) l
def zq:Int->List mP->Bool
 |_,[]=>true
 |last,o::l=>decide (last<o.part)&&decide (o.part<4)&&decide (0<=o.at_)&&decide (o.at_<=400)&&zq o.part l
def ma (g:Gr):Bool:=iu g.clock&&decide (1<=g.wait)&&decide (g.wait<=1000)&&iu g.gen&&decide ((g.ms.length:Int)<=6)&&decide ((g.os.length:Int)<=4)&&zv g.clock [] g.ms&&zq (-1) g.os
theorem OM {g:Gr}:ma g=true↔iu g.clock=true/\1<=g.wait/\g.wait<=1000/\iu g.gen=true/\(g.ms.length:Int)<=6/\(g.os.length:Int)<=4/\zv g.clock [] g.ms=true/\zq (-1) g.os=true:=by
 unfold ma
 simp only[bg,decide_eq_true_eq,and_assoc]
theorem j0 {ck:Int} {m:Mem}:wU ck m=true↔bC m.name=true/\0<=m.heard/\m.heard<=ck/\fa (-1) m.parts=true:=by
 unfold wU
 simp only[bg,decide_eq_true_eq,and_assoc]
def KQ (lo hi:Nat) (ms:List Mem):cf:=⟨lo,hi,fun w=> ∀ m∈ms,Rd bR lo hi m.A m.parts w,fun _ _ hk h m hm=>(h m hm).st hk⟩
theorem Bv {w0 w:World} {L:List (Nat×Obj)} {F:List cf} {lo hi:Nat} {ms:List Mem} (H:Hp w0 w L F) (i:Nat) (hF:F[i]? =some (KQ lo hi ms)) {m:Mem} (hm:m∈ms):Rd bR 0 w.heap.size m.A m.parts w:=
 Rd.mono ((H.fact hF) m hm) (aV _) (H.facts _ (ab hF)).2.1
theorem Hp.mpRow {w0 w:World} {L:List (Nat×Obj)} {F:List cf} {lo hi:Nat} {ms:List Mem} (H:Hp w0 w L F) (i:Nat) (hF:F[i]? =some (KQ lo hi ms)) {m:Mem} (hm:m∈ms):Hp w0 w L (ee bR lo hi m.A m.parts::F):=by
 refine⟨H.below,H.ents,H.nodup,fun f hf=> ?_⟩
 rcases ay.1 hf with rfl|hf
 obtain⟨h1,h2,h3⟩:=H.facts _ (ab hF)
 exact⟨h1 m hm,h2,h3⟩
 exact H.facts f hf
structure Gr.rd (g:Gr) (lo hi:Nat) (w:World):Prop where
 row:Rd j8 lo hi g.mA g.ms w
 parts: ∀ m∈g.ms,Rd bR lo hi m.A m.parts w
 offs:Rd gm lo hi g.oA g.os w
 mC:g.ms.length<=g.mC
 oC:g.os.length<=g.oC
 few:g.ms.length<=1000000/\g.os.length<=1000000
 fewP: ∀ m∈g.ms,m.parts.length<=1000000/\m.parts.length<=m.cap
theorem Gr.rd.st {g:Gr} {lo hi:Nat} {w w':World} (hk: ∀ k,lo<=k->k<hi->w'.heap[k]? =w.heap[k]?) (h:g.rd lo hi w):g.rd lo hi w':=
 ⟨h.row.st hk,fun m hm=>(h.parts m hm).st hk,h.offs.st hk,h.mC,h.oC,h.few,h.fewP⟩
theorem Gr.rd.mono {g:Gr} {lo hi lo' hi':Nat} {w:World} (h:g.rd lo hi w) (hl:lo'<=lo) (hh:hi<=hi'):g.rd lo' hi' w:=
 ⟨h.row.mono hl hh,fun m hm=>(h.parts m hm).mono hl hh,h.offs.mono hl hh,h.mC,h.oC,h.few,h.fewP⟩
def UE (lo hi:Nat) (g:Gr):cf:=⟨lo,hi,g.rd lo hi,fun _ _ hk h=>h.st hk⟩
theorem Hp.gr {w0 w:World} {L:List (Nat×Obj)} {F:List cf} {lo hi:Nat} {g:Gr} (H:Hp w0 w L F) (i:Nat) (hF:F[i]? =some (UE lo hi g)):g.rd 0 w.heap.size w:=
 Gr.rd.mono (H.fact hF) (aV _) (H.facts _ (ab hF)).2.1
theorem Hp.startGr {g:Gr} {w:World} (h:g.rd 0 w.heap.size w):Hp w w [] [ee j8 0 w.heap.size g.mA g.ms,KQ 0 w.heap.size g.ms,ee gm 0 w.heap.size g.oA g.os]:=
 (((Hp.start w).learnOld (ee gm 0 w.heap.size g.oA g.os) h.offs (ap _)).learnOld (KQ 0 w.heap.size g.ms) h.parts (ap _)).learnOld (ee j8 0 w.heap.size g.mA g.ms) h.row (ap _)
def AH (w w2:World) (g:Gr):Prop:=g.rd w.heap.size w2.heap.size w2/\Below w.heap.size w w2
def Du:Gr:=⟨0,0,0,[],none,0,[],none,0⟩
theorem ry {w w2:World} (h:Below w.heap.size w w2):AH w w2 Du:=⟨⟨Rd.nil,by simp[Du],Rd.nil,by simp[Du],by simp[Du],by simp[Du],by simp[Du]⟩,h⟩
def rP (w w2:World) (ga g':Gr) (Lm Lo:List (Nat×Obj)):Prop:=g'.a=ga/\gb j8 (.slice g'.mA g'.ms.length g'.mC) de g'.ms Lm/\gb gm (.slice g'.oA g'.os.length g'.oC) eC g'.os Lo/\g'.ms.length<=g'.mC/\g'.os.length<=g'.oC/\(∀ m∈g'.ms,m.parts.length<=m.cap/\w.heap.size<=m.lo)/\Hp w w2 (Lm++Lo) (g'.ms.map nJ)
theorem rP.new {w w2:World} {ga g':Gr} {Lm Lo:List (Nat×Obj)} (h:rP w w2 ga g' Lm Lo) (h1:g'.ms.length<=6) (h2:g'.os.length<=1000000) (h3: ∀ m∈g'.ms,m.parts.length<=4):AH w w2 g':=by
 obtain⟨_,a2,a3,a4,a5,a6,a8⟩:=h
 have h0:Hp w w2 (Lm++Lo) []:=a8.forget (au _) (by simp)
 refine⟨⟨a2.rd (K:=[]) (M:=Lo) (by simpa using h0),fun m hm=> ?_,a3.rd (K:=Lm) (M:=[]) (by simpa using h0),a4,a5,by omega,fun m hm=>⟨by have:=h3 m hm;omega,(a6 m hm).1⟩⟩,a8.below⟩
 obtain⟨f1,f2,-⟩:=a8.facts (nJ m) (bM hm)
 exact Rd.mono f1 (a6 m hm).2 f2
theorem Hh {α:Type} {Y:fu α} {v:Value} {e:TypeId} {es:List α} {L:List (Nat×Obj)} (h:gb Y v e es L): ∀ x∈L,∃ cur,x.2=.cells cur e (0,0):=by
 rcases h.2 with⟨rfl,_⟩|⟨g,cap,cur,rfl,_⟩
 intro x hx;cases hx
 intro x hx;rw[aq.1 hx];exact⟨cur,rfl⟩
theorem Hp.join2 {α β:Type} {Y1:fu α} {Y2:fu β} {v1 v2:Value} {T1 T2:TypeId} {es1:List α} {es2:List β} {w0 w w':World} {L L1 L2:List (Nat×Obj)} {F:List cf} (H:Hp w0 w L F) (H1:Hp w w' L1 []) (H2:Hp w w' L2 []) (o1:gb Y1 v1 T1 es1 L1) (o2:gb Y2 v2 T2 es2 L2) (hT:eG T1 T2=false):Hp w0 w' (L++L1++L2) F:=by
 have HJ:=H.joinR H1
 rw[aP]at HJ
 refine⟨HJ.below,fun e he=> ?_,?_,fun f hf=> ?_⟩
 rcases ar.1 he with he|he
 exact HJ.ents e he
 obtain⟨h1,h2⟩:=H2.ents e he
 exact⟨h1,aW H.size h2⟩
 rw[bi,pQ]
 refine⟨HJ.nodup,H2.nodup,fun a ha b hb hab=> ?_⟩
 obtain⟨x,hx,rfl⟩:=bK.1 ha
 obtain⟨y,hy,rfl⟩:=bK.1 hb
 have hy2:=H2.ents y hy
 rcases ar.1 hx with hx|hx
 have:=H.ltAll x hx;omega
 have hx2:=H1.ents x hx
 obtain⟨c1,e1⟩:=Hh o1 x hx
 obtain⟨c2,e2⟩:=Hh o2 y hy
 rw[e1]at hx2
 rw[e2]at hy2
 exact tb hx2.1 hy2.1 hT hab
 obtain⟨h1,h2,h3⟩:=HJ.facts f hf
 refine⟨h1,h2,fun e he=> ?_⟩
 rcases ar.1 he with he|he
 exact h3 e he
 have:=(H.facts f hf).2.1
 have:=(H2.ents e he).2
 exact .inr I
theorem Ci {F:List cf} {l:List Mem} {m:Mem} {f:cf} (h:f∈F++(l++[m]).map nJ):f∈nJ m::(F++l.map nJ):=by
 simp only[bi,dB,mT,ar,ay,bu,or_false]at h⊢
 grind
theorem HN (c:UInt8) (w:World):di aa um [.int .u8 (c.toNat:Nat)] w fun v w2=>v=.bool (!rX c)/\Below w.heap.size w w2:=by
 refine aG zB Z Z ?_
 have H:=Hp.start w
 refine W<|Zr<|G (Wb Z)<|U<|W<|Zr<|G (Yi Z) ?_
 refine dZ (cI Z Z) Z Z Z (fun h4=> ?_) (fun h4=> ?_)
 refine G (Yb Z)<|ZN<|ZN<|G (Kt Z Z)<|G (Wb Z)<|U<|Zt ?_
 have hv:(!rX c)=true:=by unfold rX;simp;omega
 exact cU (v:=.bool true) Z Z ⟨by rw[hv],H.below⟩
 refine G (Yb Z)<|ZG<|G (Yi Z)<|ZG ?_
 refine dZ (nC Z Z) Z Z Z (fun h7=> ?_) (fun h7=> ?_)
 refine G (N Z Z)<|G (Wb Z)<|U<|Zt ?_
 have hv:(!rX c)=true:=by unfold rX;simp;omega
 exact cU (v:=.bool true) Z Z ⟨by rw[hv],H.below⟩
 refine G (N Z Z)<|G (Wb Z)<|U<|Zt ?_
 have hv:(!rX c)=false:=by unfold rX;simp;omega
 exact cU (v:=.bool false) Z Z ⟨by rw[hv],H.below⟩
theorem HM (s:ByteArray) (w:World):di aa F4 [.string s] w fun v w2=>v=.bool (bC s)/\Below w.heap.size w w2:=by
 refine aG DW Z Z ?_
 have H:=Hp.start w
 refine W<|Zr<|G (Wb Z)<|U<|W<|W<|Zr<|G (Yt Z) ?_
 refine dZ (uZ Z Z) Z Z Z (fun h4=> ?_) (fun h4=> ?_)
 refine G (Yb Z)<|ZN<|ZN<|ZN<|G (Kt Z Z)<|U<|ZT Z<|W<|Zr<|G (Wb Z)<|U<|Zt ?_
 have hv:bC s=false:=by unfold bC;simp;simp[h4]
 exact cU (v:=.bool false) Z Z ⟨by rw[hv],H.below⟩
 refine G (Yb Z)<|ZG<|G (Yt Z)<|ZG<|G (FT jf Z)<|ZG ?_
 refine dZ (nC Z Z) Z Z Z (fun h8=> ?_) (fun h8=> ?_)
 refine G (N Z Z)<|U<|ZT Z<|W<|Zr<|G (Wb Z)<|U<|Zt ?_
 have hv:bC s=false:=by unfold bC;simp;omega
 exact cU (v:=.bool false) Z Z ⟨by rw[hv],H.below⟩
 refine G (N Z Z)<|U<|ZF Z<|Zk<|W<|Zr<|G (Yt Z)<|Ta (Y:=dQ) H jf eJ iH Z (fun _=>rfl) Z Z fun w1 A11 c11 hc11 H=> ?_
 have hlen:s.data.toList.length=s.size:=by rw[ch];rfl
 refine cE iQ (oZ s.data.toList _ _ _ (H.rd0 0 Z) I um [] zQ (fun c=>!rX c) (fun e w2 _ _=>HN e w2)) Z Z ?_
 rintro _ w2 ⟨rfl,hb⟩;replace H:=H.later hb;clear hb
 refine G (d9 Z)<|G (Wb Z)<|U<|Zt ?_
 have h8b:decide ((s.size:Int)<=8)=true:=decide_eq_true I
 have hv:bC s=!(s.data.toList.any fun c=>!rX c):=by unfold bC;rw[decide_eq_true h4,h8b,wy,wy,List.all_eq_not_any_not]
 exact cU (v:=.bool (!(s.data.toList.any fun c=>!rX c))) Z Z ⟨by rw[hv],H.below⟩
theorem gf (es:List Mem) (A:Option Addr) (c:Nat) (w:World) (hr:Rd j8 0 w.heap.size A es w) (hb:es.length<=1000000) (f:FuncId) (cap:List Value) (hf:bh aa f=true) (pred:Mem->Bool)
  (hp: ∀ e w',e∈es->Below w.heap.size w w'->di aa f (.agg (j8.f e).toArray::cap) w' fun v w2=>v=.bool (pred e)/\Below w'.heap.size w' w2):
  di aa mH [.slice A es.length c,.func (.func f) #[] cap.toArray] w fun v w2=>v=J (lH (es.findIdx? pred))/\Below w.heap.size w w2:=by
 refine aG mc Z Z ?_
 have H:=Hp.startRd hr
 refine W<|Zr<|G (Wi Z)<|U<|W<|W<|Zr<|G (Ys Z)<|G (bl gI Z)<|G (Yi Z)<|U<|Zb ?_
 refine bV (τ:=Nat) [4,5,8,9,10,11,12,13,14,15,16,17,18] (fun k=>[(8,J (k:Nat))]) (fun k w'=>k<=es.length/\(∀ j e,j<k->es[j]? =some e->pred e=false)/\Hp w w' [] [ee j8 0 w.heap.size A es]) (fun k=>es.length-k) 0 ⟨by omega,by intro j e hj;omega,H⟩ (ef Z) ?_
 rintro k ρ1 w1 ⟨hk,hno,H⟩
 show CW _ _ _ _ (dO (ij _ _ ρ1) [(8,J (k:Nat))]) w1
 refine W<|Zr ?_
 refine dZ (cI Z Z) Z Z Z (fun h9=> ?_) (fun h9=> ?_)
 refine U<|W<|ZT Z<|Zk<|W<|Zb<|W<|Zr<|G (Yi Z)<|G (Wi Z)<|U<|W<|Zr<|G (uj Z)<|G (Ys Z)<|G (Yi Z)<|rE H 0 Z eM Z Z I I Z fun b2 o2 x2 e2=>G (jF (xs:=j8.f x2) od Z Z e2.cl) ?_
 refine Re hf Z (hp x2 _ (ab e2.at_) H.below) Z Z ?_;rintro _ w3 ⟨rfl,hb2⟩;replace H:=H.later hb2;clear hb2
 refine px 16 Z (fun h16=> ?_) (fun h16=> ?_)
 refine U<|ZT Z<|W<|Zr<|G (Yi Z)<|G (Wi Z)<|U<|Zt ?_
 have hi:es.findIdx? pred=some k:=by
  rw[aF]
  obtain⟨hl,hx⟩:=bZ e2.at_
  exact⟨hl,by rw[hx];exact h16,fun j hj=>by rw[hno j _ hj (ai I)];simp⟩
 exact cU (v:=J (k:Nat)) Z Z ⟨by rw[hi];rfl,H.below⟩
 refine U<|ZF Z<|Zk<|Zr<|G (bn Z Z I I)<|G (Yi Z)<|U ?_
 refine⟨k+1,⟨by omega,fun j e hj he=> ?_,H⟩,ef Z,Qg,by show es.length- (k+1)<es.length-k;omega⟩
 by_cases hji:j<k
 exact hno j e hji he
 have:j=k:=by omega
 subst this;have he2:=e2.at_;rw[he]at he2;injection he2 with he2;subst he2;exact h16
 refine U<|W<|ZF Z<|Zx<|W<|Zr<|G (Wi Z)<|U<|Zt ?_
 have hi:es.findIdx? pred=none:=by
  rw[cD]
  intro e he
  obtain⟨j,hj⟩:=aN.1 he
  exact hno j e (by have:=(bZ hj).1;omega) hj
 exact cU (v:=J (-1)) Z Z ⟨by rw[hi];rfl,H.below⟩
theorem tZ (es:List Mem) (A:Option Addr) (c:Nat) (w:World) (hr:Rd j8 0 w.heap.size A es w) (hb:es.length<=1000000) (f:FuncId) (cap:List Value) (hf:bh aa f=true) (pred:Mem->Bool)
  (hp: ∀ e w',e∈es->Below w.heap.size w w'->di aa f (.agg (j8.f e).toArray::cap) w' fun v w2=>v=.bool (pred e)/\Below w'.heap.size w' w2):
  di aa lu [.slice A es.length c,.func (.func f) #[] cap.toArray] w fun v w2=>v=.bool (es.any pred)/\Below w.heap.size w w2:=by
 refine aG kX Z Z ?_
 have H:=Hp.start w
 refine W<|Zr<|G (Wb Z)<|U<|W<|Zr<|G (Ys Z)<|G (uj Z)<|cE dm (gf es _ _ _ hr hb f cap hf pred hp) Z Z ?_
 rintro _ w1 ⟨rfl,hb⟩;replace H:=H.later hb;clear hb
 refine G (pN Z Z)<|G (Wb Z)<|U<|Zt ?_
 have hv:decide (0<=lH (es.findIdx? pred))=es.any pred:=by
  cases hi:es.findIdx? pred with
  |none=>rw[cD]at hi;simp[lH];exact fun a h=>hi a h
  |some i=>
   obtain⟨hl,h1,-⟩:=aF.1 hi
   have:es.any pred=true:=List.any_eq_true.2 ⟨_,xn hl,h1⟩
   rw[this];simp[lH]
 exact cU (v:=.bool (decide (0<=lH (es.findIdx? pred)))) Z Z ⟨by rw[hv],H.below⟩
theorem Bi (es:List Mem) (A:Option Addr) (c:Nat) (w:World) (hr:Rd j8 0 w.heap.size A es w) (hb:es.length*48<=140737488355328):
  di aa oJ [.slice A es.length c] w fun v w2=> ∃ A' c' L',v=.slice A' es.length c'/\es.length<=c'/\c'<=maxLen/\gb j8 (.slice A' es.length c') de es L'/\Hp w w2 L' []:=by
 refine aG nT Z Z ?_
 have H:=Hp.startRd hr
 refine W<|Zr<|G (Ws Z)<|U<|W<|W<|Zr<|G (Ys Z) ?_
 refine By (pX gI Z) Z Z Z (fun h4=> ?_) (fun h4=> ?_)
 refine U<|ZT Z<|W<|Zr<|G (Ws Z)<|U<|Zt ?_
 have he:es=[]:=by
  cases es with
  |nil=>rfl
  |cons e es=>obtain⟨b,o,hA,_⟩:=hr (by simp);subst hA;cases h4
 subst he
 exact cU Z Z ⟨none,0,[],rfl,by simp,by decide,gb.nil,H.forget (by simp) (by simp)⟩
 refine U<|ZF Z<|Zk<|W<|Zr<|Rg H eM Z fun w1 b5 H=>G (Ys Z)<|uO (Y:=j8) Dh (K:=[]) (L:=[(b5,_)]) (M:=[]) H (sI.lit (by decide) (by rfl)) (es:=[]) (news:=es) Z Z Z (Rd.src (H.fact (i:=0) Z)) (by simpa using hb) Z ?_
 intro A3 c3 w3 L3 h3a h3b ho3 H
 refine G (Ws Z)<|U<|Zt ?_
 exact cU Z Z ⟨A3,c3,L3,rfl,h3a,h3b,ho3,H.forget (by simp) (by simp)⟩
theorem Bh (es:List mP) (A:Option Addr) (c:Nat) (w:World) (hr:Rd gm 0 w.heap.size A es w) (hb:es.length*16<=140737488355328):
  di aa oI [.slice A es.length c] w fun v w2=> ∃ A' c' L',v=.slice A' es.length c'/\es.length<=c'/\c'<=maxLen/\gb gm (.slice A' es.length c') eC es L'/\Hp w w2 L' []:=by
 refine aG nS Z Z ?_
 have H:=Hp.startRd hr
 refine W<|Zr<|G (Ws Z)<|U<|W<|W<|Zr<|G (Ys Z) ?_
 refine By (pX ir Z) Z Z Z (fun h4=> ?_) (fun h4=> ?_)
 refine U<|ZT Z<|W<|Zr<|G (Ws Z)<|U<|Zt ?_
 have he:es=[]:=by
  cases es with
  |nil=>rfl
  |cons e es=>obtain⟨b,o,hA,_⟩:=hr (by simp);subst hA;cases h4
 subst he
 exact cU Z Z ⟨none,0,[],rfl,by simp,by decide,gb.nil,H.forget (by simp) (by simp)⟩
 refine U<|ZF Z<|Zk<|W<|Zr<|Rg H da Z fun w1 b5 H=>G (Ys Z)<|uO (Y:=gm) xU (K:=[]) (L:=[(b5,_)]) (M:=[]) H (sI.lit (by decide) (by rfl)) (es:=[]) (news:=es) Z Z Z (Rd.src (H.fact (i:=0) Z)) (by simpa using hb) Z ?_
 intro A3 c3 w3 L3 h3a h3b ho3 H
 refine G (Ws Z)<|U<|Zt ?_
 exact cU Z Z ⟨A3,c3,L3,rfl,h3a,h3b,ho3,H.forget (by simp) (by simp)⟩
theorem fE: ∀ {l:List Int} {a:Int},fa a l=true->l.Pairwise (· < ·)/\(∀ p∈l,a<p/\p<4)
 |[],_,_=>⟨List.Pairwise.nil,by intro p hp;cases hp⟩
 |x::l,a,h=>by
  unfold fa at h
  simp only[bg,decide_eq_true_eq]at h
  obtain⟨h1,h2⟩:=fE h.2
  refine⟨ec.2 ⟨fun y hy=>(h2 y hy).1,h1⟩,fun p hp=> ?_⟩
  rcases ay.1 hp with rfl|hp
  exact h.1
  have:=h2 p hp;omega
theorem mX: ∀ {l:List Int} {a:Int},fa a l=true->(l.length:Int)<=max 0 (3-a)
 |[],_,_=>by simp;omega
 |x::l,a,h=>by
  unfold fa at h
  simp only[bg,decide_eq_true_eq]at h
  have:=mX h.2
  simp only[bf]
  omega
theorem Cf {ck:Int}: ∀ {l pre:List Mem},zv ck pre l=true↔(∀ m∈l,wU ck m=true)/\(∀ m∈l,∀ p∈pre,pZ m p=false)/\l.Pairwise (fun p m=>pZ m p=false)
 |[],pre=>by simp[zv]
 |t::l,pre=>by
  unfold zv
  rw[bg,bg,Cf,ec]
  simp only[ay,ar,aq,forall_eq_or_imp,vV,vU]
  constructor
  rintro⟨⟨h1,h2⟩,h3,h4,h5⟩
  exact⟨⟨h1,h3⟩,⟨fun p hp=>by simpa using h2 p hp,fun a ha p hp=>h4 a ha p (.inl hp)⟩,fun a ha=>h4 a ha t (by simp),h5⟩
  rintro⟨⟨h1,h3⟩,⟨h2,h4⟩,h5,h6⟩
  exact⟨⟨h1,fun p hp=>by simpa using h2 p hp⟩,h3,fun a ha p hp=>hp.elim (h4 a ha p) (fun h=>by have:=h5 a ha;simp at h;rwa[h]),h6⟩
def ly (l:List Mem):Prop:=(l.map Mem.name).Pairwise (· ≠ ·)
theorem Dg {l:List Mem}:ly l↔l.Pairwise (fun p m=>pZ m p=false):=by
 unfold ly
 rw[eQ]
 constructor<;>intro h<;>refine h.imp fun{a b} hab=> ?_
 simpa [pZ]using hab
 simpa [pZ]using hab
theorem Ca: ∀ {l:List mP} {last:Int},zq last l=true↔(∀ o∈l,last<o.part/\o.part<4/\0<=o.at_/\o.at_<=400)/\l.Pairwise (fun a b=>a.part<b.part)
 |[],_=>by simp[zq]
 |o::l,last=>by
  unfold zq
  simp only[bg,decide_eq_true_eq,Ca,ec,ay,forall_eq_or_imp]
  constructor
  rintro⟨⟨⟨⟨h1,h2⟩,h3⟩,h4⟩,h5,h6⟩
  exact⟨⟨⟨h1,h2,h3,h4⟩,fun a ha=>by have:=h5 a ha;omega⟩,fun a ha=>(h5 a ha).1,h6⟩
  rintro⟨⟨⟨h1,h2,h3,h4⟩,h5⟩,h6,h7⟩
  exact⟨⟨⟨⟨h1,h2⟩,h3⟩,h4⟩,fun a ha=>by have:=h5 a ha;have:=h6 a ha;omega,h7⟩
theorem dC {g:Gr}:ma g=true↔((0<=g.clock/\g.clock<=1073741824)/\1<=g.wait/\g.wait<=1000/\(0<=g.gen/\g.gen<=1073741824)/\(g.ms.length:Int)<=6/\(g.os.length:Int)<=4)/\((∀ m∈g.ms,wU g.clock m=true)/\ly g.ms)/\(∀ o∈g.os,0<=o.part/\o.part<4/\0<=o.at_/\o.at_<=400)/\g.os.Pairwise (fun a b=>a.part<b.part):=by
 rw[OM,Cf,Dg,Ca]
 unfold iu
 simp only[bg,decide_eq_true_eq]
 constructor
 rintro⟨h1,h2,h3,h4,h5,h6,⟨h7,_,h9⟩,h10,h11⟩;exact⟨⟨h1,h2,h3,h4,h5,h6⟩,⟨h7,h9⟩,fun o ho=>by have:=h10 o ho;omega,h11⟩
 rintro⟨⟨h1,h2,h3,h4,h5,h6⟩,⟨h7,h9⟩,h10,h11⟩;exact⟨h1,h2,h3,h4,h5,h6,⟨h7,by simp,h9⟩,fun o ho=>by have:=h10 o ho;omega,h11⟩
theorem Kg {α:Type} {f:α->Int} {l:List α} (h:l.Pairwise (fun a b=>f a<f b)) {i:Nat} {a b:α} (ha:l[i]? =some a) (hb:l[i+1]? =some b):f a<f b:=by
 obtain⟨h1,rfl⟩:=bZ ha
 obtain⟨h2,rfl⟩:=bZ hb
 exact fF.1 h i (i+1) h1 h2 I
theorem JX {l:List Mem} (h:ly l) {k:Nat} {x:Mem} (hx:l[k]? =some x):(l.take k).any (pZ x)=false:=by
 rw[vU]
 intro p hp
 obtain⟨j,hj⟩:=aN.1 hp
 rw[dz]at hj
 split at hj
 rename_i hjk
 rw[Dg]at h
 obtain⟨h1,rfl⟩:=bZ hj
 obtain⟨h2,rfl⟩:=bZ hx
 have:=fF.1 h j k h1 h2 hjk
 rw[this];decide
 cases hj
theorem Gc (p t:Mem) (b:Nat) (w:World) (hx:w.heap[b]? =some (.cells t.c.toArray de (0,0))):
  di aa s5 [.agg p.c.toArray,.pointer (Qd b)] w fun v w2=>v=.bool (pZ t p)/\Below w.heap.size w w2:=by
 refine aG yH Z Z ?_
 have H:=Hp.start w
 have hb:=bX hx
 refine W<|Zr<|gU H Z Z fun w1 b2 H=>G (Wb Z)<|U<|W<|Zr<|G (Zf oU Z)<|G (Zd aY H 0 Z Z Z)<|G (Zf oU Z)<|G (bd aY Z ((H.below.cell (p:=⟨b,_,none⟩) hb).trans (aK (j:=0) hx Z)))<|G (uZ Z Z)<|G (Wb Z)<|U<|Zt ?_
 exact cU Z Z ⟨rfl,H.below⟩
theorem vn (p:Mem) (s:ByteArray) (b:Nat) (w:World) (hx:w.heap[b]? =some (.cells #[.string s] lP (0,0))):
  di aa lT [.agg p.c.toArray,.pointer (Qd b)] w fun v w2=>v=.bool (decide (p.name=s))/\Below w.heap.size w w2:=by
 refine aG zC Z Z ?_
 have H:=Hp.start w
 have hb:=bX hx
 refine W<|Zr<|gU H Z Z fun w1 b2 H=>G (Wb Z)<|U<|W<|Zr<|G (Zf oU Z)<|G (Zd aY H 0 Z Z Z)<|G (bd aY Z ((H.below.cell (p:=⟨b,_,none⟩) hb).trans (aK (j:=0) hx Z)))<|G (uZ Z Z)<|G (Wb Z)<|U<|Zt ?_
 exact cU Z Z ⟨rfl,H.below⟩
theorem EY (g:Gr) (w:World) (h:g.rd 0 w.heap.size w) (hok:ma g=true):di aa DN [g.v] w fun v w2=>v=J 0/\Below w.heap.size w w2:=by
 refine aG CS Z Z ?_
 have hmC:=h.mC
 have hoC:=h.oC
 have hfew:=h.few
 have hfp:=h.fewP
 have H:=Hp.startGr h
 obtain⟨ck,wt,gn,ms,mA,mC,os,oA,oC⟩:=g
 dsimp only at hmC hoC hfew hfp H
 show CW _ _ _ _ (args [.agg #[J (ck),J (wt),J (gn),.slice mA ms.length mC,.slice oA os.length oC]]) w
 obtain⟨⟨⟨k1,k2⟩,k3,k4,⟨k5,k6⟩,k7,k8⟩,⟨hmo,hap⟩,hof,hor⟩:=dC.1 hok
 dsimp only at k1 k2 k3 k4 k5 k6 k7 k8 hmo hap hof hor
 refine W<|Zr<|gU H Z Z fun w1 b1 H=>G (Wi Z)<|U<|W<|W<|Zr<|G (Zf jR Z)<|G (Zd al H 0 Z Z Z)<|G (cV Z Z I)<|G (Yb Z)<|ZG<|G (Zf jR Z)<|ZG<|G (Zd al H 0 Z Z Z)<|ZG<|G (dX Z Z I)<|G (N Z Z)<|G (Yb Z)<|ZG<|G (Zf xN Z)<|ZG<|G (Zd al H 0 Z Z Z)<|ZG<|G (cV Z Z I)<|G (N Z Z)<|G (Yb Z)<|ZG<|G (Zf xN Z)<|ZG<|G (Zd al H 0 Z Z Z)<|ZG<|G (dX Z Z I)<|G (N Z Z)<|G (Yb Z)<|ZG<|G (Zf kI Z)<|ZG<|G (Zd al H 0 Z Z Z) ?_
 refine ZG<|G (cV Z Z I)<|G (N Z Z)<|G (Yb Z)<|ZG<|G (Zf kI Z)<|ZG<|G (Zd al H 0 Z Z Z)<|ZG<|G (dX Z Z I)<|G (N Z Z)<|G (Yb Z)<|ZG<|G (Zf dN Z)<|ZG<|G (Zd dv H 0 Z Z Z)<|ZG<|G (bl gI Z)<|ZG<|G (dX Z Z I)<|G (N Z Z)<|G (Yb Z)<|ZG<|G (Zf d7 Z)<|ZG<|G (Zd eK H 0 Z Z Z)<|ZG<|G (bl ir Z)<|ZG<|G (dX Z Z I)<|G (N Z Z)<|U<|ZF Z<|Zk<|W<|W<|Zr<|G (Zf dN Z)<|G (Zd dv H 0 Z Z Z)<|G (bl gI Z) ?_
 refine G (Yi Z)<|U<|Zb ?_
 refine bV (τ:=Nat) [2,3,4,5,6,52,53,54,55,56,57,58,59,60,61,62,63,64,65,66,67,68,69,70,71,72,73,74,75,76,77,78,79,80,81,82,83,84,85,86,87,88,89,90,91,92,93,94,95,96,97,98,99,100,101,102,103,104,105,106,107,108,109,110] (fun k=>[(52,J (k:Nat))]) (fun k w'=>k<=ms.length/\Hp w w' [(b1,.cells #[J (ck),J (wt),J (gn),.slice mA ms.length mC,.slice oA os.length oC] cK (0,0))] [ee j8 0 w.heap.size mA ms,KQ 0 w.heap.size ms,ee gm 0 w.heap.size oA os]) (fun k=>ms.length-k) 0 ⟨by omega,H⟩ (ef Z) ?_
 rintro k ρ1 w2 ⟨hk,H⟩
 show CW _ _ _ _ (dO (ij _ _ ρ1) [(52,J (k:Nat))]) w2
 refine W<|Zr ?_
 refine dZ (cI Z Z) Z Z Z (fun h53=> ?_) (fun h53=> ?_)
 refine U<|W<|ZT Z<|Zk<|W<|Zb<|W ?_
 obtain⟨x,hx⟩: ∃ x,ms[k]? =some x:=⟨_,ai I⟩
 have hmem:=ab hx
 obtain⟨hxn,hx0,hxc,hxp⟩:=j0.1 (hmo x hmem)
 have hxl:=(hfp x hmem).1
 obtain⟨hris,hbnd⟩:=fE hxp
 refine Zr<|G (Yi Z)<|rE H 0 Z eM Z Z I I Z fun bq3 o3 x3 e3=> ?_
 obtain rfl:x=x3:=by have:=e3.at_;rw[hx]at this;exact aZ this
 refine G (jF (xs:=Mem.c x) od Z Z e3.cl)<|fc H uR Z fun w4 b4 H=>G (Wi Z)<|bI H 0 (#[.string (x.name),J (x.heard),.slice x.A x.parts.length x.cap]) tF Z Z Z Z Z N N fun w5 H=>U<|W<|W<|Zr<|G (Zf oU Z)<|G (Zd aY H 0 Z Z Z)<|cE xg (HM x.name _) Z Z ?_
 rw[hxn]
 rintro _ w6 ⟨rfl,hb⟩;replace H:=H.later hb;clear hb
 refine G (d9 Z)<|G (Yb Z)<|ZG<|G (Zf rI Z)<|ZG<|G (Zd al H 0 Z Z Z)<|ZG<|G (cV Z Z I)<|G (N Z Z)<|G (Yb Z)<|ZG<|G (Zf rI Z)<|ZG<|G (Zd al H 0 Z Z Z)<|ZG<|G (Zf jR Z)<|ZG<|G (Zd al H 1 Z Z Z)<|ZG<|G (dX Z Z I)<|G (N Z Z)<|G (Yb Z)<|ZG<|G (Zf dN Z)<|ZG<|G (Zd dv H 1 Z Z Z)<|ZG<|G (Yi Z)<|ZG<|xu (k:=k) H 0 Z eM Z Z hmC I Z fun A77 H=> ?_
 have htl:(ms.take k).length=k:=by rw[aI];omega
 refine ZG<|G (Ce Z)<|ZG ?_
 have hC:=fun q=>tZ (ms.take k) A77 q _ (H.rd0 0 Z) I s5 [.pointer (Qd b4)] yU (pZ x) (fun e w2 _ hw2=>Gc e x b4 w2 ((hw2.block _ (bX (H.ent (i:=0) Z))).trans (H.ent (i:=0) Z)))
 rw[htl,JX hap hx]at hC
 replace hC:=hC mC
 refine cE lf (hC) Z Z ?_
 rintro _ w7 ⟨rfl,hb⟩;replace H:=H.later hb;clear hb
 refine G (N Z Z)<|U<|ZF Z<|Zk<|W ?_
 replace H:=Hp.mpRow H 2 Z hmem
 refine Zr<|G (Zf i9 Z)<|G (Zd cP H 0 Z Z Z)<|G (bl fp Z)<|G (Yi Z)<|U<|Zb ?_
 refine bV (τ:=Nat) [2,5,6,84,85,86,87,88,89,90,91,92,93,94,95,96,97,98,99,100,101,102,103,104,105,106,107,108,109] (fun j=>[(84,J (j:Nat))]) (fun j w'=>j<=x.parts.length/\Hp w w' [(b4,.cells #[.string (x.name),J (x.heard),.slice x.A x.parts.length x.cap] de (0,0)),(b1,.cells #[J (ck),J (wt),J (gn),.slice mA ms.length mC,.slice oA os.length oC] cK (0,0))] [ee bR 0 w.heap.size x.A x.parts,ee j8 0 w.heap.size A77 (ms.take k),ee j8 0 w.heap.size mA ms,KQ 0 w.heap.size ms,ee gm 0 w.heap.size oA os]) (fun j=>x.parts.length-j) 0 ⟨by omega,H⟩ (ef Z) ?_
 rintro j ρ2 w8 ⟨hj,H⟩
 show CW _ _ _ _ (dO (ij _ _ ρ2) [(84,J (j:Nat))]) w8
 refine W<|Zr ?_
 refine dZ (cI Z Z) Z Z Z (fun h85=> ?_) (fun h85=> ?_)
 refine U<|W<|ZT Z<|Zk<|W<|Zb<|W ?_
 obtain⟨p,hp⟩: ∃ p,x.parts[j]? =some p:=⟨_,ai I⟩
 have hpb:=hbnd p (ab hp)
 refine Zr<|G (Yi Z)<|rE H 0 Z bj Z Z I I Z fun bq9 o9 x9 e9=> ?_
 obtain rfl:p=x9:=by have:=e9.at_;rw[hp]at this;exact aZ this
 refine G (bd al Z (e9.cl 0 _ Z))<|G (Wi Z)<|G (Wi Z)<|U<|W<|Zr<|G (Yi Z)<|G (cV Z Z I)<|G (Yb Z)<|ZG<|G (Yi Z)<|ZG<|G (nP Z Z I)<|G (N Z Z)<|G (Yb Z)<|ZG<|G (Yi Z)<|ZG ?_
 refine dZ (nC Z Z) Z Z Z (fun h97=> ?_) (fun h97=> ?_)
 obtain⟨i,hji⟩: ∃ i,j=i+1:=⟨j-1,by omega⟩
 obtain⟨q,hq⟩: ∃ q,x.parts[i]? =some q:=⟨_,ai I⟩
 have hqp:q<p:=Kg (f:=fun a:Int=>a) hris hq (hji▸hp)
 refine ZG<|G (Yb Z)<|ZG<|G (Zf i9 Z)<|ZG<|G (Zd cP H 0 Z Z Z)<|ZG<|G (Yi Z)<|ZG<|G (zf ((i:Nat):Int) Z Z I I I)<|ZG<|rE H 0 Z bj Z Z I I Z fun bq10 o10 x10 e10=> ?_
 obtain rfl:q=x10:=by have:=e10.at_;rw[hq]at this;exact aZ this
 refine ZG<|G (bd al Z (e10.cl 0 _ Z))<|ZG<|G (Yi Z)<|ZG<|G (nP Z Z I)<|ZG<|G (Kt Z Z)<|G (N Z Z)<|U<|ZF Z<|Zk<|Zr<|G (bn Z Z I I)<|G (Yi Z)<|U ?_
 exact⟨j+1,⟨by omega,H⟩,ef Z,Qg,by show x.parts.length- (j+1)<x.parts.length-j;omega⟩
 refine ZG<|G (Yb Z)<|ZN<|ZN<|ZN<|ZN<|ZN<|ZN<|ZN<|ZN<|ZG<|G (N Z Z)<|G (N Z Z)<|U<|ZF Z<|Zk<|Zr<|G (bn Z Z I I)<|G (Yi Z)<|U ?_
 exact⟨j+1,⟨by omega,H⟩,ef Z,Qg,by show x.parts.length- (j+1)<x.parts.length-j;omega⟩
 refine U<|W<|ZF Z<|Zx<|Zr<|G (bn Z Z I I)<|G (Yi Z)<|U ?_
 exact⟨k+1,⟨by omega,H.forget (.cons _ (au _)) (fun f hf=>by simp only[ay]at hf⊢;grind)⟩,ef Z,Qg,by show ms.length- (k+1)<ms.length-k;omega⟩
 refine U<|W<|ZF Z<|Zx<|W<|W<|Zr<|G (Zf d7 Z)<|G (Zd eK H 0 Z Z Z)<|G (bl ir Z)<|G (Yi Z)<|U<|Zb ?_
 refine bV (τ:=Nat) [2,7,8,114,115,116,117,118,119,120,121,122,123,124,125,126,127,128,129,130,131,132,133,134,135,136,137,138,139,140,141,142,143,144,145,146,147,148,149,150,151,152,153] (fun n=>[(114,J (n:Nat))]) (fun n w'=>n<=os.length/\Hp w w' [(b1,.cells #[J (ck),J (wt),J (gn),.slice mA ms.length mC,.slice oA os.length oC] cK (0,0))] [ee j8 0 w.heap.size mA ms,KQ 0 w.heap.size ms,ee gm 0 w.heap.size oA os]) (fun n=>os.length-n) 0 ⟨by omega,H⟩ (ef Z) ?_
 rintro n ρ3 w11 ⟨hn,H⟩
 show CW _ _ _ _ (dO (ij _ _ ρ3) [(114,J (n:Nat))]) w11
 refine W<|Zr ?_
 refine dZ (cI Z Z) Z Z Z (fun h115=> ?_) (fun h115=> ?_)
 refine U<|W<|ZT Z<|Zk<|W<|Zb<|W ?_
 obtain⟨o,ho⟩: ∃ o,os[n]? =some o:=⟨_,ai I⟩
 have hob:=hof o (ab ho)
 refine Zr<|G (Yi Z)<|rE H 2 Z da Z Z I I Z fun bq12 o12 x12 e12=> ?_
 obtain rfl:o=x12:=by have:=e12.at_;rw[ho]at this;exact aZ this
 refine G (jF (xs:=mP.c o) Dj Z Z e12.cl)<|fc H lz Z fun w13 b8 H=>G (Wi Z)<|bI H 0 (#[J (o.part),J (o.at_)]) BV Z Z Z Z Z N N fun w14 H=>U<|W ?_
 refine bG cv [0,1,2,3,4,5,6,7,8,9,10,11,12,13,14,15,16,17,18,19,20,21,22,23,24,25,26,27,28,29,30,31,32,33] [] [] [0,2,3,4,6,7,8,9,11,12,13,14,16,17,18,19,20,21,22,24,25,26,27,29,31,32,33] (sp []) N N N N Nq (cG _) ?_
 refine aw Z Z Z Z Z (fun w' hw'=>Zf jH Z)<|aw Z Z Z Z Z (fun w' hw'=>bd al Z (aK ((H.later hw').ent (i:=0) Z) Z))<|aw Z Z Z Z Z (fun w' hw'=>cV Z Z I)<|aw Z Z Z Z Z (fun w' hw'=>Yb Z)<|aw Z Z Z Z Z (fun w' hw'=>Zf jH Z)<|aw Z Z Z Z Z (fun w' hw'=>bd al Z (aK ((H.later hw').ent (i:=0) Z) Z))<|aw Z Z Z Z Z (fun w' hw'=>nP Z Z I)<|aw Z Z Z Z Z (fun w' hw'=>N Z Z)<|aw Z Z Z Z Z (fun w' hw'=>Yb Z)<|aw Z Z Z Z Z (fun w' hw'=>Zf oT Z)<|aw Z Z Z Z Z (fun w' hw'=>bd al Z (aK ((H.later hw').ent (i:=0) Z) Z))<|aw Z Z Z Z Z (fun w' hw'=>cV Z Z I)<|aw Z Z Z Z Z (fun w' hw'=>N Z Z)<|aw Z Z Z Z Z (fun w' hw'=>Yb Z)<|aw Z Z Z Z Z (fun w' hw'=>Zf oT Z)<|aw Z Z Z Z Z (fun w' hw'=>bd al Z (aK ((H.later hw').ent (i:=0) Z) Z))<|aw Z Z Z Z Z (fun w' hw'=>dX Z Z I)<|aw Z Z Z Z Z (fun w' hw'=>N Z Z)<|aw Z Z Z Z Z (fun w' hw'=>Yb Z)<|aw Z Z Z Z Z (fun w' hw'=>Yi Z) ?_
 refine Ef Z Z Z Z Z (fun w' hw'=>nC Z Z) (fun h139=> ?_) (fun h139=> ?_)
 obtain⟨i,hni⟩: ∃ i,n=i+1:=⟨n-1,by omega⟩
 obtain⟨q,hq⟩: ∃ q,os[i]? =some q:=⟨_,ai I⟩
 have hqp:q.part<o.part:=Kg (f:=mP.part) hor hq (hni▸ho)
 refine aw Z Z Z Z Z (fun w' hw'=>Yb Z)<|aw Z Z Z Z Z (fun w' hw'=>Zf d7 Z)<|aw Z Z Z Z Z (fun w' hw'=>bd eK Z (aK ((H.later hw').ent (i:=1) Z) Z))<|aw Z Z Z Z Z (fun w' hw'=>Yi Z)<|aw Z Z Z Z Z (fun w' hw'=>zf ((i:Nat):Int) Z Z I I I)<|pP H 2 Z Z Z Z Z da Z Z I I fun bq15 o15 x15 e15=> ?_
 obtain rfl:q=x15:=by have:=e15.at_;rw[hq]at this;exact aZ this
 refine aw Z Z Z Z Z (fun w' hw'=>Zf jH Z)<|aw Z Z Z Z Z (fun w' hw'=>bd al Z (e15.later hw' 0 _ Z))<|aw Z Z Z Z Z (fun w' hw'=>Zf jH Z)<|aw Z Z Z Z Z (fun w' hw'=>bd al Z (aK ((H.later hw').ent (i:=0) Z) Z))<|aw Z Z Z Z Z (fun w' hw'=>nP Z Z I)<|aw Z Z Z Z Z (fun w' hw'=>Kt Z Z)<|aw Z Z Z Z Z (fun w' hw'=>N Z Z)<|aT ?_
 intro w16 hw' hF
 replace H:=H.later hw';clear hw' hF
 refine U<|ZF Z<|Zk<|Zr<|G (bn Z Z I I)<|G (Yi Z)<|U ?_
 exact⟨n+1,⟨by omega,H.forget (.cons _ (au _)) (fun _ h=>h)⟩,ef Z,Qg,by show os.length- (n+1)<os.length-n;omega⟩
 refine aw Z Z Z Z Z (fun w' hw'=>Yb Z)<|eW Z Z Z Z<|eW Z Z Z Z<|eW Z Z Z Z<|eW Z Z Z Z<|eW Z Z Z Z<|eW Z Z Z Z<|eW Z Z Z Z<|eW Z Z Z Z<|eW Z Z Z Z<|eW Z Z Z Z<|aw Z Z Z Z Z (fun w' hw'=>N Z Z)<|aw Z Z Z Z Z (fun w' hw'=>N Z Z)<|aT ?_
 intro w17 hw' hF
 replace H:=H.later hw';clear hw' hF
 refine U<|ZF Z<|Zk<|Zr<|G (bn Z Z I I)<|G (Yi Z)<|U ?_
 exact⟨n+1,⟨by omega,H.forget (.cons _ (au _)) (fun _ h=>h)⟩,ef Z,Qg,by show os.length- (n+1)<os.length-n;omega⟩
 refine U<|W<|ZF Z<|Zx<|W<|Zr<|G (Wi Z)<|U<|Zt ?_
 exact cU Z Z ⟨rfl,H.below⟩
theorem yE (g:Gr) (w:World) (h:g.rd 0 w.heap.size w):di aa F7 [g.v] w fun v w2=> ∃ (g':Gr) (Lm Lo:List (Nat×Obj)),v=g'.v/\rP w w2 g.a g' Lm Lo:=by
 refine aG DZ Z Z ?_
 have hmC:=h.mC
 have hoC:=h.oC
 have hfew:=h.few
 have hfp:=h.fewP
 have H:=Hp.startGr h
 obtain⟨ck,wt,gn,ms,mA,mC,os,oA,oC⟩:=g
 dsimp only at hmC hoC hfew hfp H
 show CW _ _ _ _ (args [.agg #[J (ck),J (wt),J (gn),.slice mA ms.length mC,.slice oA os.length oC]]) w
 refine W<|Zr<|gU H Z Z fun w1 b1 H=>fc H eo Z fun w2 b2 H=>U<|W ?_
 refine bG cv [0,1,3,4,2,6,5] [7,8,9] [2,5] [0,3,6] (sp [(2,Sp.orow w2.heap.size j8 de ms),(5,Sp.orow w2.heap.size gm eC os)]) N N N N Nq (cG _) ?_
 refine aw Z Z Z Z Z (fun w' hw'=>Zf dN Z)<|aw Z Z Z Z Z (fun w' hw'=>bd dv Z (aK ((H.later hw').ent (i:=1) Z) Z))<|aw Z Z Z Z Z (fun w' hw'=>Zf d7 Z)<|aw Z Z Z Z Z (fun w' hw'=>bd eK Z (aK ((H.later hw').ent (i:=1) Z) Z))<|zW oa Z Z Z Z Z (fun w' hw'=>hw'.size) (fun w' hw'=>Bi ms _ _ w' ((H.later hw').rd0 0 Z) I) Z fun A6 c6 hc6=>aw Z Z Z Z Z (fun w' hw'=>Zf dN Z)<|zW n9 Z Z Z Z Z (fun w' hw'=>hw'.size) (fun w' hw'=>Bh os _ _ w' ((H.later hw').rd0 2 Z) I) Z fun A9 c9 hc9=>aT ?_
 intro w3 hw' hF
 obtain⟨hF,Aq,cq,L9,eq,hcq,hm9,ho9,he9,hn9⟩:=hF;cases eq;clear hcq
 obtain⟨hF,Aq,cq,L6,eq,hcq,hm6,ho6,he6,hn6⟩:=hF;cases eq;clear hcq
 replace H:=Hp.join2 H (Hp.ofNew hw' he6 hn6) (Hp.ofNew hw' he9 hn9) ho6 ho9 Z
 clear hw' hF
 refine bI H 1 (#[J (ck),J (wt),J (gn),.slice A6 ms.length c6,.slice oA os.length oC]) uX Z Z Z Z Z N N fun w4 H=>G (Zf d7 Z)<|bI H 1 (#[J (ck),J (wt),J (gn),.slice A6 ms.length c6,.slice A9 os.length c9]) ox Z Z Z Z Z N N fun w5 H=>U<|W<|W<|Zr<|G (Zf dN Z)<|G (Zd dv H 1 Z Z Z)<|G (bl gI Z)<|G (Yi Z)<|U<|Zb ?_
 refine bV (τ:=Nat×List Mem×Option Addr) [3,15,16,17,18,19,20,21,22,23,24,25,26,27,28,29,30] (fun(k,_,_)=>[(15,J (k:Nat))]) (fun(k,out,A1) w'=>k<=out.length/\out.length=ms.length/\out.map Mem.a=ms.map Mem.a/\out.drop k=ms.drop k/\(∀ m∈out.take k,m.parts.length<=m.cap/\w.heap.size<=m.lo)/\ ∃ Lm,gb j8 (.slice A1 out.length c6) de out Lm/\Hp w w' ([(b2,.cells #[J 0,J 0,J 0,.slice none 0 0,.slice none 0 0] cK (0,0)),(b1,.cells #[J (ck),J (wt),J (gn),.slice A1 out.length c6,.slice A9 os.length c9] cK (0,0))]++Lm++L9) ([ee j8 0 w.heap.size mA ms,KQ 0 w.heap.size ms,ee gm 0 w.heap.size oA os]++(out.take k).map nJ)) (fun(k,out,_)=>out.length-k) (0,ms,A6) ⟨by omega,rfl,rfl,rfl,by simp,L6,ho6,H⟩ (ef Z) ?_
 rintro⟨k,out,A1⟩ ρ1 w6 ⟨hk,hol,hma,hdr,hpc,Lm,ho,H⟩
 show CW _ _ _ _ (dO (ij _ _ ρ1) [(15,J (k:Nat))]) w6
 refine W<|Zr ?_
 refine dZ (cI Z Z) Z Z Z (fun h16=> ?_) (fun h16=> ?_)
 refine U<|W<|ZT Z<|Zk<|W<|Zb<|W ?_
 obtain⟨x,hx⟩: ∃ x,out[k]? =some x:=⟨_,ai I⟩
 have hxt:=BB hdr hx
 have hmem:=ab hxt
 have hfx:=(hfp x hmem).1
 obtain⟨g,cur,rfl,rfl,row⟩:=ho.row I
 refine Zr<|G (Yi Z)<|G (Wi Z)<|U ?_
 have hlo:=H.size
 refine bG cv [0,1,2,3,4,5,6,7,8,9,10,11] [12] [9] [0,2,3,5,6,7,10,11] (sp [(9,Sp.row w6.heap.size bR x.parts)]) N N N N Nq (cG _) ?_
 refine aw Z Z Z Z Z (fun w' hw'=>Zf dN Z)<|aw Z Z Z Z Z (fun w' hw'=>bd dv Z (aK ((H.later hw').ent (i:=1) Z) Z))<|aw Z Z Z Z Z (fun w' hw'=>Yi Z)<|aw Z Z Z Z Z (fun w' hw'=>Zf dN Z)<|aw Z Z Z Z Z (fun w' hw'=>bd dv Z (aK ((H.later hw').ent (i:=1) Z) Z))<|aw Z Z Z Z Z (fun w' hw'=>Yi Z)<|aw Z Z Z Z Z (fun w' hw'=>cL eM Z Z (by first|omega|(simp only[ae];omega)))<|aw Z Z Z Z Z (fun w' hw'=>Zf i9 Z)<|aw Z Z Z Z Z (fun w' hw'=>bW cP row hx 2 Z ((H.later hw').ent (i:=2) Z) Z)<|E8 gD Z Z Z Z Z (fun w' hw'=>hw'.size) (fun w' hw'=>yS x.parts _ _ w' (Bv (H.later hw') 1 Z hmem) I) Z fun A27 c27 hc27=>aw Z Z Z Z Z (fun w' hw'=>cL eM Z Z (by first|omega|(simp only[ae];omega)))<|aw Z Z Z Z Z (fun w' hw'=>Zf i9 Z)<|aT ?_
 intro w7 hw' hF
 obtain⟨hF,Aq,cq,eq,hcq,hrw27⟩:=hF;cases eq;clear hcq
 replace H:=H.learnRd hw' hrw27
 clear hw' hF
 refine nt H 2 ({x with A:=A27,cap:=c27,lo:=w6.heap.size,hi:=w7.heap.size}) jV row hx 2 Z Z Z Z Z Z N fun w9 cur8 row8 H=> ?_
 have hs10:(out.set k ({x with A:=A27,cap:=c27,lo:=w6.heap.size,hi:=w7.heap.size}))[k]? =some ({x with A:=A27,cap:=c27,lo:=w6.heap.size,hi:=w7.heap.size}):=ak (bZ hx).1
 refine U<|Zr<|G (bn Z Z I I)<|G (Yi Z)<|U ?_
 obtain⟨z1,z2,z3⟩:=RK (x':={x with A:=A27,cap:=c27,lo:=w6.heap.size,hi:=w7.heap.size}) hx hma hdr Z
 have hown:=d8.own (g:=g) (e:=de) row8
 refine⟨(k+1,out.set k {x with A:=A27,cap:=c27,lo:=w6.heap.size,hi:=w7.heap.size},some ⟨g,0,none⟩),⟨by rw[ae];omega,by rw[ae];exact hol,z1,z2,?_,_,hown,?_⟩,ef Z,Qg,by show(out.set k _).length- (k+1)<out.length-k;rw[ae];omega⟩
 rw[z3];intro t ht;rcases ar.1 ht with ht|ht;exact hpc t ht;rw[aq.1 ht];exact⟨hc27,hlo⟩
 rw[ae];exact H.forget (au _) (fun f hf=>by rw[z3]at hf;exact Ci hf)
 refine U<|W<|ZF Z<|Zx<|W<|Zr<|G (Zw aR H 1 Z Z Z)<|bI H 0 (#[J (ck),J (wt),J (gn),.slice A1 out.length c6,.slice A9 os.length c9]) bD Z Z Z Z Z N N fun w11 H=>U<|Zt ?_
 have hke:k=out.length:=by omega
 rw[hke,br]at H hpc
 exact gB (cs0:= #[J (ck),J (wt),J (gn),.slice A1 out.length c6,.slice A9 os.length c9]) Z aR Z (H.ent (i:=0) Z) Z ⟨⟨ck,wt,gn,out,A1,c6,os,A9,c9⟩,Lm,L9,rfl,by unfold Gr.a;dsimp only;rw[hma],ho,ho9,by dsimp only;omega,hc9,hpc,H.forget (by rw[aB];exact .cons _ (.cons _ (au _))) (fun f hf=>ce _ hf)⟩
theorem Hp.joinG {w0 w w':World} {L Lm Lo:List (Nat×Obj)} {F:List cf} {ms:List Mem} (H:Hp w0 w L F) (H':Hp w w' (Lm++Lo) (ms.map nJ)) (hlo: ∀ m∈ms,w.heap.size<=m.lo):Hp w0 w' (L++Lm++Lo) (F++ms.map nJ):=by
 refine(H.joinF H' fun f hf=> ?_).perm ?_
 obtain⟨m,hm,rfl⟩:=bK.1 hf
 exact hlo m hm
 rw[aB];exact y8
def qD (g:Gr) (s:ByteArray):Int:=lH (g.ms.findIdx? fun p=>decide (p.name=s))
theorem Cj {l l2:List Mem} (h:l2.map Mem.a=l.map Mem.a) {i:Nat} {t:Mem} (ht:l[i]? =some t): ∃ t2,l2[i]? =some t2/\t2.a=t.a:=by
 have:=congrArg (fun x=>x[i]?) h
 simp only[aJ,ht,dA]at this
 exact i4.1 this
def jc (g:Gr) (n:Int):Bool:=decide (0<=n)&&decide (n<=4)&&decide (g.gen<1073741824)
theorem Q2 (n:Int) (w:World) (h1:1<=n) (h2:n<=1000):di aa HG [J n] w fun v w2=>v=.tuple #[.agg #[J 0,J n,J 0,.slice none 0 0,.slice none 0 0],J 0]/\Below w.heap.size w w2:=by
 refine aG Gl Z Z ?_
 have H:=Hp.start w
 refine W<|Zr<|fc H eo Z fun w1 b2 H=>G (Wi Z)<|U<|W<|W<|Zr<|G (Yi Z)<|G (cV Z Z I)<|G (Yb Z)<|ZG<|G (Yi Z)<|ZG<|G (dX Z Z I)<|G (N Z Z)<|U<|ZF Z<|Zk<|W<|Zr<|G (Yi Z)<|G (bp (cs:= #[J (0),J (n),J (0),.slice none 0 0,.slice none 0 0]) ko eo N)<|bI H 0 (#[J (0),J (n),J (0),.slice none 0 0,.slice none 0 0]) bD Z Z Z Z Z N N fun w2 H=>G (Wi Z)<|U<|Zt ?_
 exact cu (cs0:= #[J 0,J n,J 0,.slice none 0 0,.slice none 0 0]) (v1:=J 0) Z aR Z (H.ent (i:=0) Z) Z Z ⟨rfl,H.below⟩
theorem tW (g:Gr) (n:Int) (w:World):di aa AT [g.v,J n] w fun v w2=>v=.bool (jc g n)/\Below w.heap.size w w2:=by
 refine aG zD Z Z ?_
 have H:=Hp.start w
 obtain⟨ck,wt,gn,ms,mA,mC,os,oA,oC⟩:=g
 show CW _ _ _ _ (args [.agg #[J (ck),J (wt),J (gn),.slice mA ms.length mC,.slice oA os.length oC],J (n)]) w
 refine W<|Zr<|gU H Z Z fun w1 b2 H=>G (Wb Z)<|U<|W<|Zr<|G (Yi Z) ?_
 refine dZ (pN Z Z) Z Z Z (fun h6=> ?_) (fun h6=> ?_)
 refine G (Yb Z)<|ZG<|G (Yi Z)<|ZG ?_
 refine dZ (Kv Z Z) Z Z Z (fun h9=> ?_) (fun h9=> ?_)
 refine G (Kt Z Z)<|G (Yb Z)<|ZG<|G (Zf kI Z)<|ZG<|G (Zd al H 0 Z Z Z)<|ZG ?_
 refine dZ (cI Z Z) Z Z Z (fun h14=> ?_) (fun h14=> ?_)
 refine G (Kt Z Z)<|G (Wb Z)<|U<|Zt ?_
 have hv:jc ⟨ck,wt,gn,ms,mA,mC,os,oA,oC⟩ n=true:=by unfold jc;simp;omega
 exact cU (v:=.bool true) Z Z ⟨by rw[hv],H.below⟩
 refine G (Kt Z Z)<|G (Wb Z)<|U<|Zt ?_
 have hv:jc ⟨ck,wt,gn,ms,mA,mC,os,oA,oC⟩ n=false:=by unfold jc;simp;omega
 exact cU (v:=.bool false) Z Z ⟨by rw[hv],H.below⟩
 refine G (Kt Z Z)<|G (Yb Z)<|ZN<|ZN<|ZN<|G (N Z Z)<|G (Wb Z)<|U<|Zt ?_
 have hv:jc ⟨ck,wt,gn,ms,mA,mC,os,oA,oC⟩ n=false:=by unfold jc;simp;omega
 exact cU (v:=.bool false) Z Z ⟨by rw[hv],H.below⟩
 refine G (Yb Z)<|ZN<|ZN<|G (N Z Z)<|G (Yb Z)<|ZN<|ZN<|ZN<|G (N Z Z)<|G (Wb Z)<|U<|Zt ?_
 have hv:jc ⟨ck,wt,gn,ms,mA,mC,os,oA,oC⟩ n=false:=by unfold jc;simp;omega
 exact cU (v:=.bool false) Z Z ⟨by rw[hv],H.below⟩
theorem m5 (g:Gr) (s:ByteArray) (w:World) (h:g.rd 0 w.heap.size w) (hok:ma g=true) (hn:bC s=true):di aa F5 [g.v,.string s] w fun v w2=> ∃ (g':Gr) (Lm Lo:List (Nat×Obj)),v=.tuple #[g'.v,J (qD g s),J 0]/\rP w w2 g.a g' Lm Lo:=by
 refine aG DX Z Z ?_
 have hmC:=h.mC
 have hoC:=h.oC
 have hfew:=h.few
 have hfp:=h.fewP
 have H:=Hp.startGr h
 obtain⟨ck,wt,gn,ms,mA,mC,os,oA,oC⟩:=g
 dsimp only at hmC hoC hfew hfp H
 show CW _ _ _ _ (args [.agg #[J (ck),J (wt),J (gn),.slice mA ms.length mC,.slice oA os.length oC],.string (s)]) w
 refine W<|Zr<|gU H Z Z fun w1 b2 H=>TL H Z Z fun w2 b3 H=>fc H eo Z fun w3 b4 H=>G (Wi Z)<|G (Wi Z)<|U<|W<|W<|Zr<|G (Zw aR H 2 Z Z Z)<|cE vK (EY ⟨ck,wt,gn,ms,mA,mC,os,oA,oC⟩ _ ⟨H.rd0 0 Z,fun m hm=>Bv H 1 Z hm,H.rd0 2 Z,hmC,hoC,hfew,hfp⟩ hok) Z Z ?_
 rintro _ w4 ⟨rfl,hb⟩;replace H:=H.later hb;clear hb
 refine G (Wi Z)<|U<|W<|Zr<|G (Yi Z)<|G (cj Z Z Z)<|U<|ZF Z<|Zk<|W<|W<|Zr<|G (Zd aY H 1 Z Z Z)<|cE xg (HM s _) Z Z ?_
 rw[hn]
 rintro _ w5 ⟨rfl,hb⟩;replace H:=H.later hb;clear hb
 refine G (d9 Z)<|U<|ZF Z<|Zk<|W ?_
 refine rL cv [2,4] [0,1,3,5,6,7,8] [2,4] 7 N N N Nq ?_
 refine aw Z Z Z Z Z (fun w' hw'=>Zf dN Z)<|aw Z Z Z Z Z (fun w' hw'=>Ce Z)<|aT ?_
 intro w6 hw';replace H:=H.later hw';clear hw'
 refine uN 0 3 N Z Z ?_ ?_
 refine G (Zw aR H 2 Z Z Z)<|U ?_
 refine uN 1 3 N Z Z ?_ ?_
 refine cE ou (yE ⟨ck,wt,gn,ms,mA,mC,os,oA,oC⟩ _ ⟨H.rd0 0 Z,fun m hm=>Bv H 1 Z hm,H.rd0 2 Z,hmC,hoC,hfew,hfp⟩) Z Z ?_
 rintro _ w7 ⟨⟨ck2,wt2,gn2,ms2,mA2,mC2,os2,oA2,oC2⟩,Lm,Lo,rfl,ha2,ho2,hoo2,hmc2,hoc2,hpc2,hj2⟩
 have hlo2:=H.size
 replace H:=Hp.joinG H hj2 (fun m hm=>(hpc2 m hm).2);clear hj2
 simp only[Gr.a,Gr.mk.injEq]at ha2
 obtain⟨e1,e2,e3,hma,-,-,e4,-,-⟩:=ha2
 obtain rfl:ck=ck2:=e1.symm
 obtain rfl:wt=wt2:=e2.symm
 obtain rfl:gn=gn2:=e3.symm
 obtain rfl:os=os2:=e4.symm
 dsimp only at ho2 hoo2 hmc2 hoc2 hpc2 H
 replace hpc2: ∀ m∈ms2,m.parts.length<=m.cap/\w.heap.size<=m.lo:=fun m hm=>⟨(hpc2 m hm).1,aW hlo2 (hpc2 m hm).2⟩
 have hml2:ms2.length=ms.length:=by have:=congrArg cY hma;simpa using this
 refine U<|db 3 N Z<|G (Zd dv H 2 Z Z Z)<|U<|db 5 N Z<|cE dm (gf ms mA mC _ (H.rd0 0 Z) I lT [.pointer (Qd b3)] ob (fun p=>decide (p.name=s)) (fun e w2 _ hw2=>vn e s b3 w2 ((hw2.block _ (bX (H.ent (i:=1) Z))).trans (H.ent (i:=1) Z)))) Z Z ?_
 rintro _ w8 ⟨rfl,hb⟩;replace H:=H.later hb;clear hb
 refine U<|db 6 N Z<|bI H 0 (#[J (ck),J (wt),J (gn),.slice mA2 ms2.length mC2,.slice oA2 os.length oC2]) bD Z Z Z Z Z N N fun w9 H=>U<|db 7 N Z<|G (Wi Z)<|U<|db 8 N Z<|G (Wi Z)<|U<|cz N<|Zt ?_
 exact gM (cs0:= #[J (ck),J (wt),J (gn),.slice mA2 ms2.length mC2,.slice oA2 os.length oC2]) (v1:=J (lH (ms.findIdx? fun p=>decide (p.name=s)))) (v2:=J 0) Z aR Z (H.ent (i:=0) Z) Z Z Z ⟨⟨ck,wt,gn,ms2,mA2,mC2,os,oA2,oC2⟩,Lm,Lo,rfl,by unfold Gr.a;dsimp only;rw[hma],ho2,hoo2,hmc2,hoc2,hpc2,H.forget (by rw[aB];exact .cons _ (.cons _ (.cons _ (au _)))) (fun f hf=>by simp only[ay,ar];grind)⟩
 refine G (Zd dv H 2 Z Z Z)<|U<|db 1 N Z<|cE ou (yE ⟨ck,wt,gn,ms,mA,mC,os,oA,oC⟩ _ ⟨H.rd0 0 Z,fun m hm=>Bv H 1 Z hm,H.rd0 2 Z,hmC,hoC,hfew,hfp⟩) Z Z ?_
 rintro _ w10 ⟨⟨ck2,wt2,gn2,ms2,mA2,mC2,os2,oA2,oC2⟩,Lm,Lo,rfl,ha2,ho2,hoo2,hmc2,hoc2,hpc2,hj2⟩
 have hlo2:=H.size
 replace H:=Hp.joinG H hj2 (fun m hm=>(hpc2 m hm).2);clear hj2
 simp only[Gr.a,Gr.mk.injEq]at ha2
 obtain⟨e1,e2,e3,hma,-,-,e4,-,-⟩:=ha2
 obtain rfl:ck=ck2:=e1.symm
 obtain rfl:wt=wt2:=e2.symm
 obtain rfl:gn=gn2:=e3.symm
 obtain rfl:os=os2:=e4.symm
 dsimp only at ho2 hoo2 hmc2 hoc2 hpc2 H
 replace hpc2: ∀ m∈ms2,m.parts.length<=m.cap/\w.heap.size<=m.lo:=fun m hm=>⟨(hpc2 m hm).1,aW hlo2 (hpc2 m hm).2⟩
 have hml2:ms2.length=ms.length:=by have:=congrArg cY hma;simpa using this
 refine U<|db 5 N Z<|cE dm (gf ms mA mC _ (H.rd0 0 Z) I lT [.pointer (Qd b3)] ob (fun p=>decide (p.name=s)) (fun e w2 _ hw2=>vn e s b3 w2 ((hw2.block _ (bX (H.ent (i:=1) Z))).trans (H.ent (i:=1) Z)))) Z Z ?_
 rintro _ w11 ⟨rfl,hb⟩;replace H:=H.later hb;clear hb
 refine U<|db 6 N Z<|bI H 0 (#[J (ck),J (wt),J (gn),.slice mA2 ms2.length mC2,.slice oA2 os.length oC2]) bD Z Z Z Z Z N N fun w12 H=>U<|db 7 N Z<|G (Wi Z)<|U<|db 8 N Z<|G (Wi Z)<|U<|cz N<|Zt ?_
 exact gM (cs0:= #[J (ck),J (wt),J (gn),.slice mA2 ms2.length mC2,.slice oA2 os.length oC2]) (v1:=J (lH (ms.findIdx? fun p=>decide (p.name=s)))) (v2:=J 0) Z aR Z (H.ent (i:=0) Z) Z Z Z ⟨⟨ck,wt,gn,ms2,mA2,mC2,os,oA2,oC2⟩,Lm,Lo,rfl,by unfold Gr.a;dsimp only;rw[hma],ho2,hoo2,hmc2,hoc2,hpc2,H.forget (by rw[aB];exact .cons _ (.cons _ (.cons _ (au _)))) (fun f hf=>by simp only[ay,ar];grind)⟩
 refine G (Zd dv H 2 Z Z Z)<|U<|db 0 N Z<|G (Zw aR H 2 Z Z Z)<|U<|db 1 N Z<|cE ou (yE ⟨ck,wt,gn,ms,mA,mC,os,oA,oC⟩ _ ⟨H.rd0 0 Z,fun m hm=>Bv H 1 Z hm,H.rd0 2 Z,hmC,hoC,hfew,hfp⟩) Z Z ?_
 rintro _ w13 ⟨⟨ck2,wt2,gn2,ms2,mA2,mC2,os2,oA2,oC2⟩,Lm,Lo,rfl,ha2,ho2,hoo2,hmc2,hoc2,hpc2,hj2⟩
 have hlo2:=H.size
 replace H:=Hp.joinG H hj2 (fun m hm=>(hpc2 m hm).2);clear hj2
 simp only[Gr.a,Gr.mk.injEq]at ha2
 obtain⟨e1,e2,e3,hma,-,-,e4,-,-⟩:=ha2
 obtain rfl:ck=ck2:=e1.symm
 obtain rfl:wt=wt2:=e2.symm
 obtain rfl:gn=gn2:=e3.symm
 obtain rfl:os=os2:=e4.symm
 dsimp only at ho2 hoo2 hmc2 hoc2 hpc2 H
 replace hpc2: ∀ m∈ms2,m.parts.length<=m.cap/\w.heap.size<=m.lo:=fun m hm=>⟨(hpc2 m hm).1,aW hlo2 (hpc2 m hm).2⟩
 have hml2:ms2.length=ms.length:=by have:=congrArg cY hma;simpa using this
 refine U<|db 5 N Z<|cE dm (gf ms mA mC _ (H.rd0 0 Z) I lT [.pointer (Qd b3)] ob (fun p=>decide (p.name=s)) (fun e w2 _ hw2=>vn e s b3 w2 ((hw2.block _ (bX (H.ent (i:=1) Z))).trans (H.ent (i:=1) Z)))) Z Z ?_
 rintro _ w14 ⟨rfl,hb⟩;replace H:=H.later hb;clear hb
 refine U<|db 6 N Z<|bI H 0 (#[J (ck),J (wt),J (gn),.slice mA2 ms2.length mC2,.slice oA2 os.length oC2]) bD Z Z Z Z Z N N fun w15 H=>U<|db 7 N Z<|G (Wi Z)<|U<|db 8 N Z<|G (Wi Z)<|U<|cz N<|Zt ?_
 exact gM (cs0:= #[J (ck),J (wt),J (gn),.slice mA2 ms2.length mC2,.slice oA2 os.length oC2]) (v1:=J (lH (ms.findIdx? fun p=>decide (p.name=s)))) (v2:=J 0) Z aR Z (H.ent (i:=0) Z) Z Z Z ⟨⟨ck,wt,gn,ms2,mA2,mC2,os,oA2,oC2⟩,Lm,Lo,rfl,by unfold Gr.a;dsimp only;rw[hma],ho2,hoo2,hmc2,hoc2,hpc2,H.forget (by rw[aB];exact .cons _ (.cons _ (.cons _ (au _)))) (fun f hf=>by simp only[ay,ar];grind)⟩
theorem EX (g:Gr) (s:ByteArray) (gn_:Int) (w:World) (h:g.rd 0 w.heap.size w) (hok:ma g=true) (hn:bC s=true) (hi:qD g s= -1):di aa tM [g.v,.string s,J gn_] w fun v w2=>v=.tuple #[.agg #[J 0,J 0,J 0,.slice none 0 0,.slice none 0 0],J 0,J 5]/\Below w.heap.size w w2:=by
 refine aG sm Z Z ?_
 have hmC:=h.mC
 have hoC:=h.oC
 have hfew:=h.few
 have hfp:=h.fewP
 have H:=Hp.startGr h
 obtain⟨ck,wt,gn,ms,mA,mC,os,oA,oC⟩:=g
 dsimp only at hmC hoC hfew hfp H
 show CW _ _ _ _ (args [.agg #[J (ck),J (wt),J (gn),.slice mA ms.length mC,.slice oA os.length oC],.string (s),J (gn_)]) w
 refine W<|Zr<|gU H Z Z fun w1 b3 H=>fc H eo Z fun w2 b6 H=>G (Wi Z)<|G (Wi Z)<|U<|W<|Zr<|G (Zw aR H 1 Z Z Z)<|G (Yt Z)<|cE gE (m5 ⟨ck,wt,gn,ms,mA,mC,os,oA,oC⟩ s _ ⟨H.rd0 0 Z,fun m hm=>Bv H 1 Z hm,H.rd0 2 Z,hmC,hoC,hfew,hfp⟩ hok hn) Z Z ?_
 rintro _ w3 ⟨⟨ck2,wt2,gn2,ms2,mA2,mC2,os2,oA2,oC2⟩,Lm,Lo,rfl,ha2,ho2,hoo2,hmc2,hoc2,hpc2,hj2⟩
 have hlo2:=H.size
 replace H:=Hp.joinG H hj2 (fun m hm=>(hpc2 m hm).2);clear hj2
 simp only[Gr.a,Gr.mk.injEq]at ha2
 obtain⟨e1,e2,e3,hma,-,-,e4,-,-⟩:=ha2
 obtain rfl:ck=ck2:=e1.symm
 obtain rfl:wt=wt2:=e2.symm
 obtain rfl:gn=gn2:=e3.symm
 obtain rfl:os=os2:=e4.symm
 dsimp only at ho2 hoo2 hmc2 hoc2 hpc2 H
 replace hpc2: ∀ m∈ms2,m.parts.length<=m.cap/\w.heap.size<=m.lo:=fun m hm=>⟨(hpc2 m hm).1,aW hlo2 (hpc2 m hm).2⟩
 have hml2:ms2.length=ms.length:=by have:=congrArg cY hma;simpa using this
 rw[hi]
 refine G (Yu Z)<|G (Xa Z Z)<|G (Xi Z Z)<|G (Xi Z Z)<|bI H 1 (#[J (ck),J (wt),J (gn),.slice mA2 ms2.length mC2,.slice oA2 os.length oC2]) bD Z Z Z Z Z N N fun w4 H=>G (Wi Z)<|G (Wi Z)<|U<|W<|Zb<|W<|Zr<|G (Yi Z)<|G (cj Z Z Z)<|G (Wb Z)<|U<|ZF Z<|W<|Zr<|G (Yi Z)<|G (xB Z Z (by decide))<|G (Wb Z)<|U<|ZT Z<|W<|Zr<|G (bp (cs:= #[J (0),J (0),J (0),.slice none 0 0,.slice none 0 0]) ko eo N)<|bI H 0 (#[J (0),J (0),J (0),.slice none 0 0,.slice none 0 0]) bD Z Z Z Z Z N N fun w5 H=>G (Wi Z)<|G (Wi Z)<|U<|Zt ?_
 exact gM (cs0:= #[J 0,J 0,J 0,.slice none 0 0,.slice none 0 0]) (v1:=J 0) (v2:=J 5) Z aR Z (H.ent (i:=0) Z) Z Z Z ⟨rfl,H.below⟩
theorem CK (g:Gr) (s:ByteArray) (gn_:Int) (w:World) (h:g.rd 0 w.heap.size w) (hok:ma g=true) (hn:bC s=true) (i:Nat) (hi:qD g s=i) (hg:g.gen≠gn_):di aa tM [g.v,.string s,J gn_] w fun v w2=>v=.tuple #[.agg #[J 0,J 0,J 0,.slice none 0 0,.slice none 0 0],J 0,J 10]/\Below w.heap.size w w2:=by
 refine aG sm Z Z ?_
 have hmC:=h.mC
 have hoC:=h.oC
 have hfew:=h.few
 have hfp:=h.fewP
 have H:=Hp.startGr h
 obtain⟨ck,wt,gn,ms,mA,mC,os,oA,oC⟩:=g
 dsimp only at hmC hoC hfew hfp H
 show CW _ _ _ _ (args [.agg #[J (ck),J (wt),J (gn),.slice mA ms.length mC,.slice oA os.length oC],.string (s),J (gn_)]) w
 dsimp only at hg
 refine W<|Zr<|gU H Z Z fun w1 b3 H=>fc H eo Z fun w2 b6 H=>G (Wi Z)<|G (Wi Z)<|U<|W<|Zr<|G (Zw aR H 1 Z Z Z)<|G (Yt Z)<|cE gE (m5 ⟨ck,wt,gn,ms,mA,mC,os,oA,oC⟩ s _ ⟨H.rd0 0 Z,fun m hm=>Bv H 1 Z hm,H.rd0 2 Z,hmC,hoC,hfew,hfp⟩ hok hn) Z Z ?_
 rintro _ w3 ⟨⟨ck2,wt2,gn2,ms2,mA2,mC2,os2,oA2,oC2⟩,Lm,Lo,rfl,ha2,ho2,hoo2,hmc2,hoc2,hpc2,hj2⟩
 have hlo2:=H.size
 replace H:=Hp.joinG H hj2 (fun m hm=>(hpc2 m hm).2);clear hj2
 simp only[Gr.a,Gr.mk.injEq]at ha2
 obtain⟨e1,e2,e3,hma,-,-,e4,-,-⟩:=ha2
 obtain rfl:ck=ck2:=e1.symm
 obtain rfl:wt=wt2:=e2.symm
 obtain rfl:gn=gn2:=e3.symm
 obtain rfl:os=os2:=e4.symm
 dsimp only at ho2 hoo2 hmc2 hoc2 hpc2 H
 replace hpc2: ∀ m∈ms2,m.parts.length<=m.cap/\w.heap.size<=m.lo:=fun m hm=>⟨(hpc2 m hm).1,aW hlo2 (hpc2 m hm).2⟩
 have hml2:ms2.length=ms.length:=by have:=congrArg cY hma;simpa using this
 rw[hi]
 refine G (Yu Z)<|G (Xa Z Z)<|G (Xi Z Z)<|G (Xi Z Z)<|bI H 1 (#[J (ck),J (wt),J (gn),.slice mA2 ms2.length mC2,.slice oA2 os.length oC2]) bD Z Z Z Z Z N N fun w4 H=>G (Wi Z)<|G (Wi Z)<|U<|W<|Zb<|W<|Zr<|G (Yi Z)<|G (cj Z Z Z)<|G (Wb Z)<|U<|ZF Z<|W<|Zr<|G (Yi Z)<|G (cV Z Z I)<|G (Wb Z)<|U<|ZF Z<|W<|Zr<|G (Zf kI Z)<|G (Zd al H 1 Z Z Z)<|G (Yi Z)<|G (l9 Z Z I)<|G (Wb Z)<|U<|ZT Z<|W<|Zr<|G (bp (cs:= #[J (0),J (0),J (0),.slice none 0 0,.slice none 0 0]) ko eo N)<|bI H 0 (#[J (0),J (0),J (0),.slice none 0 0,.slice none 0 0]) bD Z Z Z Z Z N N fun w5 H=>G (Wi Z)<|G (Wi Z)<|U ?_
 refine Zt ?_
 exact gM (cs0:= #[J 0,J 0,J 0,.slice none 0 0,.slice none 0 0]) (v1:=J 0) (v2:=J 10) Z aR Z (H.ent (i:=0) Z) Z Z Z ⟨rfl,H.below⟩
theorem Bz (g:Gr) (s:ByteArray) (gn_:Int) (w:World) (h:g.rd 0 w.heap.size w) (hok:ma g=true) (hn:bC s=true) (i:Nat) (hi:qD g s=i) (hg:g.gen=gn_):di aa tM [g.v,.string s,J gn_] w fun v w2=> ∃ (g':Gr) (Lm Lo:List (Nat×Obj)),v=.tuple #[g'.v,J (i:Nat),J 0]/\rP w w2 g.a g' Lm Lo:=by
 refine aG sm Z Z ?_
 have hmC:=h.mC
 have hoC:=h.oC
 have hfew:=h.few
 have hfp:=h.fewP
 have H:=Hp.startGr h
 obtain⟨ck,wt,gn,ms,mA,mC,os,oA,oC⟩:=g
 dsimp only at hmC hoC hfew hfp H
 show CW _ _ _ _ (args [.agg #[J (ck),J (wt),J (gn),.slice mA ms.length mC,.slice oA os.length oC],.string (s),J (gn_)]) w
 dsimp only at hg
 refine W<|Zr<|gU H Z Z fun w1 b3 H=>fc H eo Z fun w2 b6 H=>G (Wi Z)<|G (Wi Z)<|U<|W<|Zr<|G (Zw aR H 1 Z Z Z)<|G (Yt Z)<|cE gE (m5 ⟨ck,wt,gn,ms,mA,mC,os,oA,oC⟩ s _ ⟨H.rd0 0 Z,fun m hm=>Bv H 1 Z hm,H.rd0 2 Z,hmC,hoC,hfew,hfp⟩ hok hn) Z Z ?_
 rintro _ w3 ⟨⟨ck2,wt2,gn2,ms2,mA2,mC2,os2,oA2,oC2⟩,Lm,Lo,rfl,ha2,ho2,hoo2,hmc2,hoc2,hpc2,hj2⟩
 have hlo2:=H.size
 replace H:=Hp.joinG H hj2 (fun m hm=>(hpc2 m hm).2);clear hj2
 simp only[Gr.a,Gr.mk.injEq]at ha2
 obtain⟨e1,e2,e3,hma,-,-,e4,-,-⟩:=ha2
 obtain rfl:ck=ck2:=e1.symm
 obtain rfl:wt=wt2:=e2.symm
 obtain rfl:gn=gn2:=e3.symm
 obtain rfl:os=os2:=e4.symm
 dsimp only at ho2 hoo2 hmc2 hoc2 hpc2 H
 replace hpc2: ∀ m∈ms2,m.parts.length<=m.cap/\w.heap.size<=m.lo:=fun m hm=>⟨(hpc2 m hm).1,aW hlo2 (hpc2 m hm).2⟩
 have hml2:ms2.length=ms.length:=by have:=congrArg cY hma;simpa using this
 rw[hi]
 refine G (Yu Z)<|G (Xa Z Z)<|G (Xi Z Z)<|G (Xi Z Z)<|bI H 1 (#[J (ck),J (wt),J (gn),.slice mA2 ms2.length mC2,.slice oA2 os.length oC2]) bD Z Z Z Z Z N N fun w4 H=>G (Wi Z)<|G (Wi Z)<|U<|W<|Zb<|W<|Zr<|G (Yi Z)<|G (cj Z Z Z)<|G (Wb Z)<|U<|ZF Z<|W<|Zr<|G (Yi Z)<|G (cV Z Z I)<|G (Wb Z)<|U<|ZF Z<|W<|Zr<|G (Zf kI Z)<|G (Zd al H 1 Z Z Z)<|G (Yi Z)<|G (cj Z Z I)<|G (Wb Z)<|U<|ZF Z<|Zk<|W<|Zr<|G (Zw aR H 1 Z Z Z)<|G (Yi Z)<|bI H 0 (#[J (ck),J (wt),J (gn),.slice mA2 ms2.length mC2,.slice oA2 os.length oC2]) bD Z Z Z Z Z N N fun w5 H=>G (Wi Z) ?_
 refine G (Wi Z)<|U<|Zt ?_
 exact gM (cs0:= #[J (ck),J (wt),J (gn),.slice mA2 ms2.length mC2,.slice oA2 os.length oC2]) (v1:=J (i:Nat)) (v2:=J 0) Z aR Z (H.ent (i:=0) Z) Z Z Z ⟨⟨ck,wt,gn,ms2,mA2,mC2,os,oA2,oC2⟩,Lm,Lo,rfl,by unfold Gr.a;dsimp only;rw[hma],ho2,hoo2,hmc2,hoc2,hpc2,H.forget (by rw[aB];exact .cons _ (.cons _ (au _))) (fun f hf=>by simp only[ay,ar];grind)⟩
/-- a comparing function's answer says less or not -/
def PQ (cmpv:Int->Int->Int) (a b:Int):Bool:=decide (cmpv a b<0)
theorem L7 {w0 w:World} {M:List (Nat×Obj)} {F:List cf} {g n:Nat} {u:Array Value} (es:List Int) (c:Nat) (H:Hp w0 w ((g,.cells u cM (0,0))::M) F) (row:d8 bR es c u) (hn:n=es.length) (h12:es.length<=19) {f:FuncId} {cap:List Value} (hf:bh aa f=true) (cmpv:Int->Int->Int) (hp: ∀ a b:Int,a∈es->b∈es-> ∀ (w':World) (u':Array Value),Hp w0 w' ((g,.cells u' cM (0,0))::M) F->di aa f (J a::J b::cap) w' fun v w2=>v=J (cmpv a b)/\Below w'.heap.size w' w2):
  di aa mG [.slice (Qd g) n c,J 0,J (n:Nat),.func (.func f) #[] cap.toArray] w fun v w2=> ∃ u2,v=.tuple #[]/\d8 bR (kw (PQ cmpv) n es) c u2/\Hp w0 w2 ((g,.cells u2 cM (0,0))::M) F:=by
 refine aG mb Z Z ?_
 have hle:=row.le
 refine W<|Zr<|G (Yi Z)<|G (bn Z Z I I)<|G (Wi Z)<|U<|Zb ?_
 refine bV (τ:=Nat×List Int×Array Value) [8,9,12,13,14,15,16,17,18,19,20,21,22,23,24,25,26,27,28,29,30,31,32,33,34,35,36,37,38,39,40,41,42,43,44,45,46,47,48,49,50,51,52] (fun(i,_,_)=>[(8,J (i:Nat))]) (fun(i,l,u1) w'=>1<=i/\i<=n+1/\(n≠0->i<=n)/\l=kw (PQ cmpv) i es/\(∀ y∈l,y∈es)/\d8 bR l c u1/\Hp w0 w' ((g,.cells u1 cM (0,0))::M) F) (fun(i,_)=>n+1-i) (1,es,u) ⟨by omega,by omega,by omega,rfl,fun _ h=>h,row,H⟩ (ef Z) ?_
 rintro⟨i,l,u1⟩ ρ1 w1 ⟨hi1,hin,hi0,hl,hle1,row1,H⟩
 show CW _ _ _ _ (dO (ij _ _ ρ1) [(8,J (i:Nat))]) w1
 have hll:l.length=n:=by rw[hl,CB,hn]
 refine W<|W<|Zr<|G (Yi Z)<|G (Yi Z) ?_
 refine dZ (cI Z Z) Z Z Z (fun h14=> ?_) (fun h14=> ?_)
 refine U<|ZT Z<|Zk<|W<|Zb<|W<|Zr<|G (Yi Z)<|G (Wi Z)<|U<|Zb ?_
 refine bV (τ:=Nat×List Int×Array Value) [9,18,19,20,21,22,23,24,25,26,27,28,29,30,31,32,33,34,35,36,37,38,39,40,41,42,43,44,45,46,47,48,49,50,51,52] (fun(j,_,_)=>[(9,J (j:Nat))]) (fun(j,m,u2) w'=>j<=i/\m.length=n/\BX (PQ cmpv) j m=kw (PQ cmpv) (i+1) es/\(∀ y∈m,y∈es)/\d8 bR m c u2/\Hp w0 w' ((g,.cells u2 cM (0,0))::M) F) (fun(j,_)=>j) (i,l,u1) ⟨by omega,hll,by rw[hl];rfl,hle1,row1,H⟩ (ef Z) ?_
 rintro⟨j,m,u2⟩ ρ2 w2 ⟨hj,hml,hm,hle2,row2,H⟩
 show CW _ _ _ _ (dO (ij _ _ ρ2) [(9,J (j:Nat))]) w2
 refine W<|W ?_
 obtain⟨a,ha0⟩: ∃ a,a=m.getD (j-1) 0:=⟨_,rfl⟩
 obtain⟨b,hb0⟩: ∃ b,b=m.getD j 0:=⟨_,rfl⟩
 refine bG cv [0,1,2,3,4,5,6,7,8,9,10,11,12,13,14,15,16] [] [14] [0,1,2,3,4,5,6,7,9,10,11,12,15,16] (sp [(14,Sp.one (J (cmpv b a)))]) N N N N Nq (cG _) ?_
 refine aw Z Z Z Z Z (fun w' hw'=>Yi Z)<|aw Z Z Z Z Z (fun w' hw'=>Yi Z) ?_
 refine Ef Z Z Z Z Z (fun w' hw'=>nC Z Z) (fun h20=> ?_) (fun h20=> ?_)
 obtain⟨q,rfl⟩: ∃ q,j=q+1:=⟨j-1,by omega⟩
 have ha:m[q]? =some a:=by rw[ha0];exact getD_some 0 I
 have hb:m[q+1]? =some b:=by rw[hb0];exact getD_some 0 I
 have ha2:(m.set (q+1) a)[q]? =some a:=by rw[aO I];exact ha
 have hma:=hle2 a (ab ha)
 have hmb:=hle2 b (ab hb)
 refine aw Z Z Z Z Z (fun w' hw'=>Yb Z)<|aw Z Z Z Z Z (fun w' hw'=>uj Z)<|aw Z Z Z Z Z (fun w' hw'=>Ys Z)<|aw Z Z Z Z Z (fun w' hw'=>Yi Z)<|aw Z Z Z Z Z (fun w' hw'=>cL bj Z Z (by first|omega|(simp only[ae];omega)))<|aw Z Z Z Z Z (fun w' hw'=>bW al row2 hb 0 Z ((H.later hw').ent (i:=0) Z) Z)<|aw Z Z Z Z Z (fun w' hw'=>Ys Z)<|aw Z Z Z Z Z (fun w' hw'=>Yi Z)<|aw Z Z Z Z Z (fun w' hw'=>zf ((q:Nat):Int) Z Z I I I)<|aw Z Z Z Z Z (fun w' hw'=>cL bj Z Z (by first|omega|(simp only[ae];omega)))<|aw Z Z Z Z Z (fun w' hw'=>bW al row2 ha 0 Z ((H.later hw').ent (i:=0) Z) Z)<|Rj hf Z Z Z Z Z Z (fun w' hw'=>hp b a hmb hma w' u2 (H.later hw')) Z ?_
 refine Ef Z Z Z Z Z (fun w' hw'=>cI Z Z) (fun h33=> ?_) (fun h33=> ?_)
 refine aw Z Z Z Z Z (fun w' hw'=>Kt Z Z)<|aT ?_
 intro w3 hw' hF
 replace H:=H.later hw';clear hw' hF
 refine U<|ZT Z<|Zk<|W<|Zb ?_
 refine bG cv [0,1,2,3,4,5,6,7,8,9,10,11,12,13,14] [15,16,17] [] [0,1,2,3,4,5,6,7,8,10,11,12,14] (sp []) N N N N Nq (cG _) ?_
 refine aw Z Z Z Z Z (fun w' hw'=>Ys Z)<|aw Z Z Z Z Z (fun w' hw'=>Yi Z)<|aw Z Z Z Z Z (fun w' hw'=>Ys Z)<|aw Z Z Z Z Z (fun w' hw'=>Yi Z)<|aw Z Z Z Z Z (fun w' hw'=>zf ((q:Nat):Int) Z Z I I I)<|aw Z Z Z Z Z (fun w' hw'=>Ys Z)<|aw Z Z Z Z Z (fun w' hw'=>Yi Z)<|aw Z Z Z Z Z (fun w' hw'=>zf ((q:Nat):Int) Z Z I I I)<|aw Z Z Z Z Z (fun w' hw'=>cL bj Z Z (by first|omega|(simp only[ae];omega)))<|aw Z Z Z Z Z (fun w' hw'=>bW al row2 ha 0 Z ((H.later hw').ent (i:=0) Z) Z)<|aw Z Z Z Z Z (fun w' hw'=>Ys Z)<|aw Z Z Z Z Z (fun w' hw'=>Yi Z)<|aw Z Z Z Z Z (fun w' hw'=>cL bj Z Z (by first|omega|(simp only[ae];omega)))<|aw Z Z Z Z Z (fun w' hw'=>bW al row2 hb 0 Z ((H.later hw').ent (i:=0) Z) Z)<|aw Z Z Z Z Z (fun w' hw'=>cL bj Z Z (by first|omega|(simp only[ae];omega)))<|aT ?_
 intro w4 hw' hF
 replace H:=H.later hw';clear hw' hF
 refine nt H 0 (a) bN row2 hb 0 Z Z Z Z Z Z N fun w6 cur5 row5 H=> ?_
 have hs7:(m.set (q+1) (a))[(q+1)]? =some (a):=ak (bZ hb).1
 refine G (cL bj Z Z (by first|omega|(simp only[ae];omega)))<|nt H 0 (b) bN row5 ha2 0 Z Z Z Z Z Z N fun w9 cur8 row8 H=> ?_
 have hs10:((m.set (q+1) (a)).set q (b))[q]? =some (b):=ak (bZ ha2).1
 refine U<|Zr<|G (Yi Z)<|G (zf ((q:Nat):Int) Z Z I I I)<|G (Wi Z)<|U ?_
 exact⟨(q,(m.set (q+1) a).set q b,_),⟨by omega,by simp[hml],by rw[<-hm,Kc ha hb (decide_eq_true h33)],fun y hy=>(by rcases aD hy with hy|rfl;rcases aD hy with hy|rfl;exact hle2 y hy;exact hma;exact hmb),row8,H⟩,ef Z,Qg,by show q<q+1;omega⟩
 refine aw Z Z Z Z Z (fun w' hw'=>Kt Z Z)<|aT ?_
 intro w11 hw' hF
 replace H:=H.later hw';clear hw' hF
 refine U<|ZF Z<|Zx<|Zr<|G (Yi Z)<|G (bn Z Z I I)<|G (Wi Z)<|U ?_
 have hm2:m=kw (PQ cmpv) (i+1) es:=by rw[<-hm,EF ha hb (decide_eq_false h33)]
 exact⟨(i+1,m,u2),⟨by omega,by omega,by omega,hm2,hle2,row2,H⟩,ef Z,Qg,by show n+1- (i+1)<n+1-i;omega⟩
 refine aw Z Z Z Z Z (fun w' hw'=>Yb Z)<|eW Z Z Z Z<|eW Z Z Z Z<|eW Z Z Z Z<|eW Z Z Z Z<|eW Z Z Z Z<|eW Z Z Z Z<|eW Z Z Z Z<|eW Z Z Z Z<|eW Z Z Z Z<|eW Z Z Z Z<|eW Z Z Z Z<|eW Z Z Z Z<|aw Z Z Z Z Z (fun w' hw'=>N Z Z)<|aT ?_
 intro w12 hw' hF
 replace H:=H.later hw';clear hw' hF
 refine U<|ZF Z<|Zx<|Zr<|G (Yi Z)<|G (bn Z Z I I)<|G (Wi Z)<|U ?_
 have hm2:m=kw (PQ cmpv) (i+1) es:=by rw[<-hm,show j=0 by omega];rfl
 exact⟨(i+1,m,u2),⟨by omega,by omega,by omega,hm2,hle2,row2,H⟩,ef Z,Qg,by show n+1- (i+1)<n+1-i;omega⟩
 refine U<|ZF Z<|Zx ?_
 have hfin:=Nt (n:=n) hl hi1 hin hi0 I
 subst hfin
 dsimp only[Fu,TM,OJ,eG,cond]
 exact So Z ⟨u1,rfl,row1,H⟩
theorem Fw {w0 w:World} {M:List (Nat×Obj)} {F:List cf} {g n:Nat} {u:Array Value} (es:List Int) (c:Nat) (H:Hp w0 w ((g,.cells u cM (0,0))::M) F) (row:d8 bR es c u) (hn:n=es.length) (h12:es.length<=19) {f:FuncId} {cap:List Value} (hf:bh aa f=true) (cmpv:Int->Int->Int) (hp: ∀ a b:Int,a∈es->b∈es-> ∀ (w':World) (u':Array Value),Hp w0 w' ((g,.cells u' cM (0,0))::M) F->di aa f (J a::J b::cap) w' fun v w2=>v=J (cmpv a b)/\Below w'.heap.size w' w2):
  di aa qA [.slice (Qd g) n c,J (n:Nat),.func (.func f) #[] cap.toArray] w fun v w2=> ∃ u2,v=.tuple #[]/\d8 bR (kw (PQ cmpv) n es) c u2/\Hp w0 w2 ((g,.cells u2 cM (0,0))::M) F:=by
 refine aG qa Z Z ?_
 have hle:=row.le
 refine W<|Zr<|G (Wi Z)<|U<|W<|Zr<|G (Yi Z)<|G (Wi Z)<|G (Wi Z)<|U<|W<|Zb ?_
 refine bV (τ:=Unit) [7,8,11,12,13,14,15,16,17,18,19,20,21,22] (fun _=>[(7,J 0),(8,J 20)]) (fun _ w'=>w'=w) (fun _=>0) () Z (jT Z Z) ?_
 rintro _ ρ1 _ rfl
 show CW _ _ _ _ (dO (ij _ _ ρ1) [(7,J 0),(8,J 20)]) _
 refine W<|W<|Zr<|G (Yi Z)<|G (Yi Z)<|G (OA Z Z I)<|U<|ZF Z<|Zx<|W<|Zr<|G (Ys Z)<|G (Yi Z)<|G (Yi Z)<|G (uj Z)<|cE mg (L7 es c H row hn h12 hf cmpv hp) Z Z ?_
 rintro _ w1 ⟨u2,rfl,row2,H⟩
 refine U<|Zb ?_
 refine bV (τ:=Unit) [6,7,8,9,28,29,30,31,32,33,34,35,36,37,38,39,40,41,42,43,44,45,46,47,48,49,50,51,52,53,54,55,56,57,58,59,60,61,62] (fun _=>[(6,J 20)]) (fun _ w'=>Hp w0 w' ((g,.cells u2 cM (0,0))::M) F) (fun _=>0) () H (ef Z) ?_
 rintro _ ρ2 w2 H
 show CW _ _ _ _ (dO (ij _ _ ρ2) [(6,J 20)]) w2
 refine W<|W<|Zr<|G (Yi Z)<|G (Yi Z)<|G (cV Z Z I)<|U<|ZF Z<|Zx ?_
 dsimp only[Fu,TM,OJ,eG,cond]
 exact So Z ⟨u2,rfl,row2,H⟩
theorem DA {w0 w:World} {M:List (Nat×Obj)} {F:List cf} {g n:Nat} {u:Array Value} (es:List Int) (c:Nat) (H:Hp w0 w ((g,.cells u cM (0,0))::M) F) (row:d8 bR es c u) (hn:n=es.length) (h12:es.length<=19) {f:FuncId} {cap:List Value} (hf:bh aa f=true) (cmpv:Int->Int->Int) (hp: ∀ a b:Int,a∈es->b∈es-> ∀ (w':World) (u':Array Value),Hp w0 w' ((g,.cells u' cM (0,0))::M) F->di aa f (J a::J b::cap) w' fun v w2=>v=J (cmpv a b)/\Below w'.heap.size w' w2):
  di aa m1 [.slice (Qd g) n c,.func (.func f) #[] cap.toArray] w fun v w2=> ∃ u2,v=.tuple #[]/\d8 bR (kw (PQ cmpv) n es) c u2/\Hp w0 w2 ((g,.cells u2 cM (0,0))::M) F:=by
 refine aG mI Z Z ?_
 have hle:=row.le
 refine Zr<|G (Ys Z)<|G (Ys Z)<|G (bl fp Z)<|G (uj Z)<|cE qh (Fw es c H row hn h12 hf cmpv hp) Z Z ?_
 rintro _ w1 ⟨u2,rfl,row2,H⟩
 refine U ?_
 show MU aa Tryz.f150 _ .normal _ _
 exact So Z ⟨u2,rfl,row2,H⟩
/-- a list of numbers, and where it lies -/
structure Il where
 A:Option Addr
 cap:Nat
 es:List Int
def Il.c (x:Il):List Value:=[.slice x.A x.es.length x.cap]
def SL:fu Il:=⟨Il.c,1,fun _=>rfl,by decide,fun a u hu=>by
 simp only[Il.c,aq]at hu;subst hu;rfl⟩
def Tw:Il:=⟨none,0,[]⟩
def ut:List Il->List (Nat×Obj)->Prop
 |[],L=>L=[]
 |t::ts,L=> ∃ L1 L2,L=L1++L2/\gb bR (.slice t.A t.es.length t.cap) cM t.es L1/\ut ts L2
theorem ut.at_: ∀ {ts:List Il} {L:List (Nat×Obj)} {i:Nat} {t:Il},ut ts L->ts[i]? =some t-> ∃ La Lt Lb,L=La++Lt++Lb/\gb bR (.slice t.A t.es.length t.cap) cM t.es Lt/\ ∀ (t':Il) (Lt':List (Nat×Obj)),gb bR (.slice t'.A t'.es.length t'.cap) cM t'.es Lt'->ut (ts.set i t') (La++Lt'++Lb)
 |x::ts,L,0,t,⟨L1,L2,h1,h2,h3⟩,hi=>by
  cases hi
  exact⟨[],L1,L2,by simpa using h1,h2,fun t' Lt' h'=>⟨Lt',L2,by simp,h',h3⟩⟩
 |x::ts,L,i+1,t,⟨L1,L2,h1,h2,h3⟩,hi=>by
  obtain⟨La,Lt,Lb,e,ho,hs⟩:=ut.at_ h3 (show ts[i]? =some t from hi)
  exact⟨L1++La,Lt,Lb,by rw[h1,e];simp[aB],ho,fun t' Lt' h'=>⟨L1,La++Lt'++Lb,by simp[aB],h2,hs t' Lt' h'⟩⟩
theorem ut.nils: ∀ n:Nat,ut (ao n Tw) []
 |0=>rfl
 |n+1=>⟨[],[],rfl,gb.nil,ut.nils n⟩
theorem ut.rd {w0 w:World} {K L:List (Nat×Obj)} {F:List cf} {ts:List Il} (h:ut ts L) (H:Hp w0 w (K++L) F) {t:Il} (ht:t∈ts):Rd bR w0.heap.size w.heap.size t.A t.es w/\t.es.length<=t.cap:=by
 obtain⟨i,hi⟩:=aN.1 ht
 obtain⟨La,Lt,Lb,rfl,ho,-⟩:=h.at_ hi
 refine⟨ho.rd (K:=K++La) (M:=Lb) (F:=F) (by simpa [aB]using H),?_⟩
 obtain⟨_,c,e,hc,_⟩:=ho.form
 injection e with _ _ e
 subst e;exact hc
theorem Si {w0 w:World} {F:List cf} (X A B C:List (Nat×Obj)) (H:Hp w0 w (X++(A++B++C)) F):Hp w0 w ((X++A)++B++C) F:=by simpa [aB]using H
theorem QZ {w0 w:World} {F:List cf} (X A B C:List (Nat×Obj)) (H:Hp w0 w ((X++A)++B++C) F):Hp w0 w (X++(A++B++C)) F:=by simpa [aB]using H
def Ip (x y:ByteArray):Int:=if SJ x y then-1 else if !(SJ x y||x.toList==y.toList)then 1 else 0
def FQ (names:List ByteArray) (a:Int):ByteArray:=names.getD a.toNat ⟨#[]⟩
def SA (names:List ByteArray) (a b:Int):Int:=Ip (FQ names a) (FQ names b)
def rT (n:Nat):List Int:=(kR n).map fun(i:Nat)=>(i:Int)
def LI (names:List ByteArray):List Int:=kw (PQ (SA names)) names.length (rT names.length)
def BO (names:List ByteArray) (q:Nat):Int:=(LI names).getD (q%names.length) 0
def mY (names:List ByteArray) (p:Nat) (i:Nat):List Int:=(rT p).filter fun q=>decide (BO names q.toNat=i)
def gZ (names:List ByteArray) (p:Nat):List (List Int):=(kR names.length).map (mY names p)
theorem Eo (n:Nat):rT (n+1)=rT n++[(n:Int)]:=by unfold rT;rw[oe,bi];rfl
theorem lD (n:Nat):(rT n).length=n:=by simp[rT]
theorem yf {n:Nat} {x:Int}:x∈rT n↔ ∃ i:Nat,i<n/\x=i:=by
 unfold rT
 simp only[bK,AK]
 constructor<;>rintro⟨i,h1,h2⟩<;>exact⟨i,h1,h2.symm⟩
theorem FI (names:List ByteArray) (p i:Nat):mY names (p+1) i=if BO names p=i then mY names p i++[(p:Int)]else mY names p i:=by
 unfold mY
 rw[Eo,jr]
 by_cases h:BO names p=i
 rw[if_pos h,kj (by simpa using h)];rfl
 rw[if_neg h,pj (by simpa using h)];simp
theorem Me:(aa.info? 3).map (fun i=>(i.zero,i.size,i.bytes))=some (some (J 0),1,8):=by kernel_rfl
theorem Ju:(aa.info? 23).map (fun i=>(i.zero,i.size,i.bytes))=some (some (.slice none 0 0),1,24):=by kernel_rfl
theorem KC {i n:Nat} (h:i<n):(rT i++ao (n-i) (0:Int))[i]? =some 0:=by
 rw[cy (by rw[lD];omega),lD,mQ,dq,if_pos I]
theorem OU {i n:Nat} (h:i<n):(rT i++ao (n-i) (0:Int)).set i (i:Int)=rT (i+1)++ao (n- (i+1)) 0:=by
 rw[jt _ _ (by rw[lD];omega),lD,mQ,show n-i=(n- (i+1))+1 by omega,iS,uv,Eo,aB]
 rfl
theorem EI (names:List ByteArray):(LI names).Perm (rT names.length):=by
 have:=Cz (lt:=PQ (SA names)) (rT names.length)
 rwa[lD]at this
theorem R7 {names:List ByteArray} {q:Nat} (h:names.length≠0): ∃ i:Nat,i<names.length/\(LI names)[q%names.length]? =some (i:Int)/\BO names q=i:=by
 have hl:(LI names).length=names.length:=by rw[(EI names).length_eq,lD]
 have hm:q%names.length<(LI names).length:=by rw[hl];exact jU _ I
 have h1:=getD_some (0:Int) hm
 obtain⟨i,hi,he⟩:=yf.1 ((EI names).mem_iff.1 (ab h1))
 exact⟨i,hi,by rw[h1,he],he⟩
theorem Ai (names:List ByteArray) (p i:Nat):(mY names p i).length<=p:=by
 have:=List.length_filter_le (fun q=>decide (BO names q.toNat=i)) (rT p)
 rwa[lD]at this
theorem GG (names:List ByteArray) (A:Option Addr) (c:Nat) (x y:ByteArray) (i j b:Nat) (w:World) (hx:w.heap[b]? =some (.cells #[.slice A names.length c] mD (0,0))) (hr:Rd nu 0 w.heap.size A names w) (hi:names[i]? =some x) (hj:names[j]? =some y):
  di aa yy [J (i:Nat),J (j:Nat),.pointer (Qd b)] w fun v w2=>v=J (Ip x y)/\Below w.heap.size w w2:=by
 refine aG xJ Z Z ?_
 have H:=Hp.startRd hr
 have hb:=bX hx
 have hil:=(bZ hi).1
 have hjl:=(bZ hj).1
 refine W<|Zr<|G (Wi Z)<|U<|W<|Zb<|W ?_
 refine bG cv [0,1,2,3,4,5,6,7,8,9] [] [] [1,2,5,6,8,9] (sp []) N N N N Nq (cG _) ?_
 refine aw Z Z Z Z Z (fun w' hw'=>bd jE Z (((H.later hw').below.cell (p:=⟨b,_,none⟩) hb).trans (aK (j:=0) hx Z)))<|aw Z Z Z Z Z (fun w' hw'=>Yi Z)<|pP H 0 Z Z Z Z Z g9 Z Z I I fun bq1 o1 x1 e1=> ?_
 obtain rfl:x=x1:=by have:=e1.at_;rw[hi]at this;exact aZ this
 refine aw Z Z Z Z Z (fun w' hw'=>bd aY Z (e1.later hw' 0 _ Z))<|aw Z Z Z Z Z (fun w' hw'=>bd jE Z (((H.later hw').below.cell (p:=⟨b,_,none⟩) hb).trans (aK (j:=0) hx Z)))<|aw Z Z Z Z Z (fun w' hw'=>Yi Z)<|pP H 0 Z Z Z Z Z g9 Z Z I I fun bq2 o2 x2 e2=> ?_
 obtain rfl:y=x2:=by have:=e2.at_;rw[hj]at this;exact aZ this
 refine aw Z Z Z Z Z (fun w' hw'=>bd aY Z (e2.later hw' 0 _ Z))<|aw Z Z Z Z Z (fun w' hw'=>RX Z Z)<|aw Z Z Z Z Z (fun w' hw'=>Wb Z)<|aT ?_
 intro w3 hw' hF
 replace H:=H.later hw';clear hw' hF
 refine U ?_
 refine qL Z (fun hc6=> ?_) (fun hc6=> ?_)
 refine W<|Zr<|G (Wi Z)<|U<|Zt ?_
 have hv:Ip x y= -1:=by unfold Ip;rw[if_pos hc6]
 exact cU (v:=J (-1)) Z Z ⟨by rw[hv],H.below⟩
 refine W ?_
 refine bG cv [0,1,2,3,4,5,6,7,8,9] [] [] [1,2,5,6,8,9] (sp []) N N N N Nq (cG _) ?_
 refine aw Z Z Z Z Z (fun w' hw'=>bd jE Z (((H.later hw').below.cell (p:=⟨b,_,none⟩) hb).trans (aK (j:=0) hx Z)))<|aw Z Z Z Z Z (fun w' hw'=>Yi Z)<|pP H 0 Z Z Z Z Z g9 Z Z I I fun bq4 o4 x4 e4=> ?_
 obtain rfl:x=x4:=by have:=e4.at_;rw[hi]at this;exact aZ this
 refine aw Z Z Z Z Z (fun w' hw'=>bd aY Z (e4.later hw' 0 _ Z))<|aw Z Z Z Z Z (fun w' hw'=>bd jE Z (((H.later hw').below.cell (p:=⟨b,_,none⟩) hb).trans (aK (j:=0) hx Z)))<|aw Z Z Z Z Z (fun w' hw'=>Yi Z)<|pP H 0 Z Z Z Z Z g9 Z Z I I fun bq5 o5 x5 e5=> ?_
 obtain rfl:y=x5:=by have:=e5.at_;rw[hj]at this;exact aZ this
 refine aw Z Z Z Z Z (fun w' hw'=>bd aY Z (e5.later hw' 0 _ Z))<|aw Z Z Z Z Z (fun w' hw'=>R0 Z Z)<|aw Z Z Z Z Z (fun w' hw'=>Wb Z)<|aT ?_
 intro w6 hw' hF
 replace H:=H.later hw';clear hw' hF
 refine U ?_
 refine qL Z (fun hc16=> ?_) (fun hc16=> ?_)
 refine W<|Zr<|G (Wi Z)<|U<|Zt ?_
 have hv:Ip x y=1:=by unfold Ip;rw[if_neg (by rw[hc6];decide),if_pos hc16]
 exact cU (v:=J (1)) Z Z ⟨by rw[hv],H.below⟩
 refine Zk<|W<|Zr<|G (Wi Z)<|U<|Zt ?_
 have hv:Ip x y=0:=by unfold Ip;rw[if_neg (by rw[hc6];decide),if_neg (by rw[hc16];decide)]
 exact cU (v:=J (0)) Z Z ⟨by rw[hv],H.below⟩
theorem MI (names:List ByteArray) (A:Option Addr) (c p:Nat) (w:World) (hr:Rd nu 0 w.heap.size A names w) (hn:names.length<=6) (hp:p<=4):
  di aa CF [.slice A names.length c,J (p:Nat)] w fun v w2=> ∃ (out:List Il) (B:Option Addr) (d:Nat),v=.slice B out.length d/\out.length<=d/\out.map Il.es=gZ names p/\Rd SL w.heap.size w2.heap.size B out w2/\(∀ x∈out,Rd bR w.heap.size w2.heap.size x.A x.es w2/\x.es.length<=x.cap)/\Below w.heap.size w w2:=by
 refine aG Ba Z Z ?_
 have H:=Hp.startRd hr
 refine W<|Zr<|Uw H Z Z fun w1 b2 H=>G (Ws Z)<|U<|W<|Zr<|G (Zd jE H 0 Z Z Z)<|G (bl ku Z)<|pM (Y:=bR) (0) names.length H bj Me Z Z Z I I Z fun w2 b12 cur12 row12 H=>G (Ws Z)<|U<|W<|W<|Zr<|G (Ys Z)<|G (bl fp Z)<|G (Yi Z)<|U<|Zb ?_
 refine bV (τ:=Nat×Array Value) [6,15,16,17,18,19,20,21,22] (fun(i,_)=>[(15,J (i:Nat))]) (fun(i,u1) w'=>i<=names.length/\d8 bR (rT i++ao (names.length-i) 0) names.length u1/\Hp w w' [(b12,.cells u1 cM (0,0)),(b2,.cells #[.slice A names.length c] mD (0,0))] [ee nu 0 w.heap.size A names]) (fun(i,_)=>names.length-i) (0,cur12) ⟨by omega,row12,H⟩ (ef Z) ?_
 rintro⟨i,u1⟩ ρ1 w3 ⟨hi,row,H⟩
 show CW _ _ _ _ (dO (ij _ _ ρ1) [(15,J (i:Nat))]) w3
 have hfl:(rT i++ao (names.length-i) (0:Int)).length=names.length:=by simp[lD];omega
 refine W<|Zr ?_
 refine dZ (cI Z Z) Z Z Z (fun h16=> ?_) (fun h16=> ?_)
 refine U<|W<|ZT Z<|Zk<|W<|Zb<|W<|Zr<|G (Yi Z)<|G (Wi Z)<|U<|Zr<|G (Ys Z)<|G (Yi Z)<|G (Yi Z)<|G (cL bj Z Z (by first|omega|(simp only[ae];omega)))<|nt H 0 ((i:Int)) bN row (KC I) 0 Z Z Z Z Z Z N fun w5 cur4 row4 H=> ?_
 have hs6:(((rT i++ao (names.length-i) 0)).set i ((i:Int)))[i]? =some ((i:Int)):=ak (bZ (KC I)).1
 refine U<|Zr<|G (bn Z Z I I)<|G (Yi Z)<|U ?_
 exact⟨(i+1,_),⟨by omega,(OU (show i<names.length by omega))▸row4,H⟩,ef Z,Qg,by show names.length- (i+1)<names.length-i;omega⟩
 refine U<|W<|ZF Z<|Zx<|W ?_
 obtain rfl:i=names.length:=by omega
 rw[mQ,List.replicate_zero,aP]at row
 refine Zr<|G (Ys Z)<|G (Ce Z)<|cE mM (DA (M:=[(b2,.cells #[.slice A names.length c] mD (0,0))]) (rT names.length) names.length H row (lD _).symm (by rw[lD];omega) (cap:=[.pointer (Qd b2)]) xS (SA names) (fun a b ha hb w' u' H'=>by obtain⟨i,hi,rfl⟩:=yf.1 ha;obtain⟨j,hj,rfl⟩:=yf.1 hb;exact GG names A c (FQ names i) (FQ names j) i j b2 w' (H'.ent (i:=1) Z) (H'.rd0 0 Z) (getD_some _ hi) (getD_some _ hj))) Z Z ?_
 rintro _ w7 ⟨u2,rfl,row2,H⟩
 replace row2:d8 bR (LI names) names.length u2:=row2
 refine U<|W<|Zr<|G (Zd jE H 1 Z Z Z)<|G (bl ku Z)<|pM (Y:=SL) (Tw) names.length H yj Ju Z Z Z I I Z fun w8 b28 cur28 row28 H=>G (Ws Z)<|U<|W<|W<|Zr<|G (Zd jE H 2 Z Z Z)<|G (bl ku Z) ?_
 refine dZ (cr Z Z) Z Z Z (fun h31=> ?_) (fun h31=> ?_)
 have hn0:names.length=0:=by omega
 refine U<|ZT Z<|W<|Zr<|G (Ys Z)<|G (Ws Z)<|U<|Zt ?_
 exact cU (v:=.slice (Qd b28) names.length names.length) Z Z ⟨[],_,names.length,by rw[hn0];rfl,aV _,by unfold gZ;rw[hn0];rfl,Rd.nil,by simp,H.below⟩
 refine U<|ZF Z<|Zk<|W<|W<|Zr<|G (Yi Z)<|G (FS Z Z) ?_
 rw[show max ((p:Nat):Int) 0=((p:Nat):Int) by omega]
 refine G (Yi Z)<|U<|Zb ?_
 refine bV (τ:=Nat×List Il×Array Value) [8,9,35,36,37,38,39,40,41,42,43,44,45,46,47,48,49,50,51,52,53,54,55] (fun(q,_,_)=>[(35,J (q:Nat))]) (fun(q,out,u3) w'=>q<=p/\out.length=names.length/\(∀ i x,out[i]? =some x->x.es=mY names q i)/\d8 SL out names.length u3/\ ∃ Lp,ut out Lp/\Hp w w' ([(b28,.cells u3 zZ (0,0)),(b12,.cells u2 cM (0,0)),(b2,.cells #[.slice A names.length c] mD (0,0))]++Lp) [ee nu 0 w.heap.size A names]) (fun(q,_,_)=>p-q) (0,ao names.length Tw,cur28) ⟨by omega,by simp,(fun i x hx=>by rw[dq]at hx;split at hx;injection hx with hx;rw[<-hx];rfl;cases hx),row28,[],ut.nils _,H⟩ (ef Z) ?_
 rintro⟨q,out,u3⟩ ρ2 w9 ⟨hq,hol,hes,row3,Lp,hop,H⟩
 show CW _ _ _ _ (dO (ij _ _ ρ2) [(35,J (q:Nat))]) w9
 refine W<|Zr ?_
 refine dZ (cI Z Z) Z Z Z (fun h36=> ?_) (fun h36=> ?_)
 refine U<|W<|ZT Z<|Zk<|W<|Zb<|W<|Zr<|G (Yi Z)<|G (Wi Z)<|U<|W ?_
 obtain⟨i,hin,hod,htn⟩:=R7 (names:=names) (q:=q) I
 obtain⟨r,hrq⟩: ∃ r,q%names.length=r:=⟨_,rfl⟩
 rw[hrq]at hod
 have hrn:r<names.length:=hrq▸jU _ I
 obtain⟨x,hx⟩: ∃ x,out[i]? =some x:=⟨_,ai I⟩
 have hxe:=hes i x hx
 have hxl:x.es.length<=4:=by rw[hxe];have:=Ai names q i;omega
 refine Zr<|G (Ys Z)<|G (Yi Z)<|G (Ys Z)<|G (bl fp Z)<|G (Rz Z Z I I) ?_
 rw[show((q:Nat):Int)%((names.length:Nat):Int)=((r:Nat):Int)from by rw[<-hrq];exact(Int.natCast_emod q names.length).symm]
 refine G (cL bj Z Z (by first|omega|(simp only[ae];omega)))<|G (bW al row2 hod 0 Z (H.ent (i:=1) Z) Z)<|G (Wi Z)<|U ?_
 obtain⟨La,Lt,Lb,rfl,hot,hset⟩:=hop.at_ hx
 refine Zr<|G (Ys Z)<|G (Yi Z)<|G (Ys Z)<|G (Yi Z)<|G (cL yj Z Z (by first|omega|(simp only[ae];omega)))<|G (bW cP row3 hx 0 Z (H.ent (i:=0) Z) Z)<|G (Yi Z)<|sK (vs:=[J (((q:Nat):Int))]) H bj Eh Z Z Z Z Z Z fun w10 b52 H=>uO (Y:=bR) BC (K:=[(b52,.cells #[J (((q:Nat):Int))] cM (0,0)),(b28,.cells u3 zZ (0,0)),(b12,.cells u2 cM (0,0)),(b2,.cells #[.slice A names.length c] mD (0,0))]++La) (L:=Lt) (M:=Lb) (Si _ La Lt Lb H) hot (news:=[((q:Nat):Int)]) Z Z Z (wL.row (m:=1) (sz:=bR.sz) (H.ent (i:=0) Z) Z) (show(x.es.length+1)*8<=140737488355328 by omega) Z ?_
 intro A53 c53 w11 L53 h53 _ ho53 HI
 replace H:=QZ [(b52,.cells #[J (((q:Nat):Int))] cM (0,0)),(b28,.cells u3 zZ (0,0)),(b12,.cells u2 cM (0,0)),(b2,.cells #[.slice A names.length c] mD (0,0))] La L53 Lb HI;clear HI
 refine G (cL yj Z Z (by first|omega|(simp only[ae];omega)))<|nt H 1 ({A:=A53,cap:=c53,es:=x.es++[((q:Nat):Int)]}) jV row3 hx 0 Z Z Z Z Z Z N fun w13 cur12 row12 H=> ?_
 have hs14:(out.set i ({A:=A53,cap:=c53,es:=x.es++[((q:Nat):Int)]}))[i]? =some ({A:=A53,cap:=c53,es:=x.es++[((q:Nat):Int)]}):=ak (bZ hx).1
 refine U<|Zr<|G (bn Z Z I I)<|G (Yi Z)<|U ?_
 refine⟨(q+1,out.set i {A:=A53,cap:=c53,es:=x.es++[((q:Nat):Int)]},_),⟨by omega,by rw[ae];exact hol,fun j y hy=> ?_,row12,_,hset _ L53 ho53,H.forget (.cons _ (au _)) (fun _ h=>h)⟩,ef Z,Qg,by show p- (q+1)<p-q;omega⟩
 rw[FI,htn]
 by_cases hij:i=j
 subst hij;rw[ak (bZ hx).1]at hy;injection hy with hy;rw[<-hy,if_pos Z,hxe]
 rw[aO hij]at hy;rw[if_neg I];exact hes j y hy
 refine U<|W<|ZF Z<|Zx<|W<|Zr<|G (Ys Z)<|G (Ws Z)<|U<|Zt ?_
 obtain rfl:q=p:=by omega
 have hmap:out.map Il.es=gZ names q:=by
  apply dg
  intro j
  unfold gZ
  rw[aJ,aJ]
  by_cases hj:j<names.length
  obtain⟨y,hy⟩: ∃ y,out[j]? =some y:=⟨_,ai I⟩
  rw[hy,tg hj];exact congrArg some (hes j y hy)
  rw[bL I,bL (by rw[vS];omega)];rfl
 exact cU (v:=.slice (Qd b28) names.length names.length) Z Z ⟨out,_,names.length,by rw[hol],by omega,hmap,(d8.own row3).rd (K:=[]) (M:=(b12,_)::(b2,.cells #[.slice A names.length c] mD (0,0))::Lp) H,fun x hx=>hop.rd (K:=[(b28,_),(b12,_),(b2,.cells #[.slice A names.length c] mD (0,0))]) H hx,H.below⟩
/-- lists of numbers that a call has made, to be read -/
def Rq (lo hi:Nat) (B:Option Addr) (out:List Il):cf:=⟨lo,hi,fun w=>Rd SL lo hi B out w/\ ∀ x∈out,Rd bR lo hi x.A x.es w,fun _ _ hk h=>⟨h.1.st hk,fun x hx=>(h.2 x hx).st hk⟩⟩
theorem Hp.ilRow {w0 w:World} {L:List (Nat×Obj)} {F:List cf} {lo hi:Nat} {B:Option Addr} {out:List Il} (H:Hp w0 w L F) (i:Nat) (hF:F[i]? =some (Rq lo hi B out)):Hp w0 w L (ee SL lo hi B out::F):=by
 refine⟨H.below,H.ents,H.nodup,fun f hf=> ?_⟩
 rcases ay.1 hf with rfl|hf
 obtain⟨h1,h2,h3⟩:=H.facts _ (ab hF)
 exact⟨h1.1,h2,h3⟩
 exact H.facts f hf
theorem Hp.ilPart {w0 w:World} {L:List (Nat×Obj)} {F:List cf} {lo hi:Nat} {B:Option Addr} {out:List Il} (H:Hp w0 w L F) (i:Nat) (hF:F[i]? =some (Rq lo hi B out)) {x:Il} (hx:x∈out):Hp w0 w L (ee bR lo hi x.A x.es::F):=by
 refine⟨H.below,H.ents,H.nodup,fun f hf=> ?_⟩
 rcases ay.1 hf with rfl|hf
 obtain⟨h1,h2,h3⟩:=H.facts _ (ab hF)
 exact⟨h1.2 x hx,h2,h3⟩
 exact H.facts f hf
def pJ (ms:List Mem) (p:Nat):List Mem:=List.zipWith (fun(m:Mem) l=>{m with parts:=l}) ms (gZ (ms.map Mem.name) p)
theorem pe (names:List ByteArray) (p:Nat):(gZ names p).length=names.length:=by simp[gZ]
theorem Pu {ms:List Mem} {p i:Nat} {m:Mem} {l:List Int} (hm:ms[i]? =some m) (hl:(gZ (ms.map Mem.name) p)[i]? =some l):(pJ ms p)[i]? =some {m with parts:=l}:=by
 unfold pJ
 rw[qU,hm,hl]
theorem AF {w0 w:World} {M Lm:List (Nat×Obj)} {F:List cf} (ck wt gn:Int) (ms:List Mem) (mA:Option Addr) (mC:Nat) (os:List mP) (oA:Option Addr) (oC p:Nat) (H:Hp w0 w (Lm++M) F) (ho:gb j8 (.slice mA ms.length mC) de ms Lm) (hml:ms.length<=6) (hp:p<=4) (hg0:0<=gn) (hg1:gn<1073741824):
  di aa zy [.agg #[J (ck),J (wt),J (gn),.slice mA ms.length mC,.slice oA os.length oC],J (p:Nat)] w fun v w2=> ∃ (ms':List Mem) (Lm':List (Nat×Obj)),v=.agg #[J (ck),J (wt),J (gn+1),.slice mA ms'.length mC,.slice oA os.length oC]/\ms'.map Mem.a=(pJ ms p).map Mem.a/\gb j8 (.slice mA ms'.length mC) de ms' Lm'/\(∀ m∈ms',m.parts.length<=m.cap/\w0.heap.size<=m.lo)/\Hp w0 w2 (Lm'++M) (F++ms'.map nJ):=by
 refine aG yG Z Z ?_
 refine W<|Zr<|gU H Z Z fun w1 b2 H=>fc H eo Z fun w2 b4 H=>U<|W<|Zr<|G (Zf kI Z)<|G (Zd al H 1 Z Z Z)<|G (bn Z Z I I)<|G (Zf kI Z)<|bI H 1 (#[J (ck),J (wt),J (gn+1),.slice mA ms.length mC,.slice oA os.length oC]) bN Z Z Z Z Z N N fun w3 H=>U<|W<|Zr<|G (Ws Z)<|U<|W<|W<|Zr<|G (Zf dN Z)<|G (Zd dv H 1 Z Z Z)<|G (bl gI Z)<|G (Yi Z)<|U<|Zb ?_
 refine bV (τ:=Nat×List ByteArray×Option Addr×Nat) [5,7,17,18,19,20,21,22,23,24,25,26] (fun(k,nl,A1,c1)=>[(17,J (k:Nat)),(5,.slice A1 nl.length c1)]) (fun(k,nl,A1,c1) w'=>k<=ms.length/\nl=(ms.take k).map Mem.name/\ ∃ Ln,gb nu (.slice A1 nl.length c1) lP nl Ln/\Hp w0 w' ((([(b4,.cells #[J 0,J 0,J 0,.slice none 0 0,.slice none 0 0] cK (0,0)),(b2,.cells #[J (ck),J (wt),J (gn+1),.slice mA ms.length mC,.slice oA os.length oC] cK (0,0))]++Lm++M)++Ln)++[]) F) (fun(k,_)=>ms.length-k) (0,[],none,0) ⟨by omega,rfl,[],gb.nil,(by rw[aP,aP];exact H)⟩ (jT Z Z) ?_
 rintro⟨k,nl,A1,c1⟩ ρ1 w4 ⟨hk,hnl,Ln,hoN,H⟩
 show CW _ _ _ _ (dO (ij _ _ ρ1) [(17,J (k:Nat)),(5,.slice A1 nl.length c1)]) w4
 have hnll:nl.length<=6:=by rw[hnl,bF,aI];omega
 refine W<|Zr ?_
 refine dZ (cI Z Z) Z Z Z (fun h18=> ?_) (fun h18=> ?_)
 refine U<|W<|ZT Z<|Zk<|W<|Zb<|W ?_
 obtain⟨x,hx⟩: ∃ x,ms[k]? =some x:=⟨_,ai I⟩
 obtain⟨g,cur,rfl,rfl,row⟩:=ho.row I
 refine Zr<|G (cL eM Z Z (by first|omega|(simp only[ae];omega)))<|G (py od row hx Z Z (H.ent (i:=2) Z))<|fc H uR Z fun w5 b7 H=>bI H 0 (#[.string (x.name),J (x.heard),.slice x.A x.parts.length x.cap]) tF Z Z Z Z Z N N fun w6 H=>U<|Zr<|G (Ys Z)<|G (Zf oU Z)<|G (Zd aY H 0 Z Z Z)<|sK (vs:=[.string (x.name)]) H g9 yc Z Z Z Z Z Z fun w7 b24 H=>uO (Y:=nu) xT (K:=[(b24,.cells #[.string (x.name)] lP (0,0)),(b7,.cells #[.string (x.name),J (x.heard),.slice x.A x.parts.length x.cap] de (0,0)),(b4,.cells #[J (0),J (0),J (0),.slice none 0 0,.slice none 0 0] cK (0,0)),(b2,.cells #[J (ck),J (wt),J (gn+1),.slice (Qd g) ms.length mC,.slice oA os.length oC] cK (0,0)),(g,.cells cur de (0,0))]++M) (L:=Ln) (M:=[]) H hoN (news:=[x.name]) Z Z Z (wL.row (m:=1) (sz:=nu.sz) (H.ent (i:=0) Z) Z) (show(nl.length+1)*16<=140737488355328 by omega) Z ?_
 intro A25 c25 w8 L25 h25 _ ho25 H
 refine G (Ws Z)<|U<|Zr<|G (bn Z Z I I)<|G (Yi Z)<|U ?_
 exact⟨(k+1,nl++[x.name],A25,c25),⟨by omega,by rw[ed hx,bi,hnl];rfl,L25,ho25,H.forget (.cons _ (.cons _ (au _))) (fun _ h=>h)⟩,jT Z Z,Qg,by show ms.length- (k+1)<ms.length-k;omega⟩
 refine U<|W<|ZF Z<|Zx<|W<|W ?_
 have hke:k=ms.length:=by omega
 rw[hke,br]at hnl
 subst hnl
 obtain⟨lo2,hi2,H⟩:=Hp.sealO (K:=[(b4,.cells #[J 0,J 0,J 0,.slice none 0 0,.slice none 0 0] cK (0,0)),(b2,.cells #[J (ck),J (wt),J (gn+1),.slice mA ms.length mC,.slice oA os.length oC] cK (0,0))]++Lm++M) (M:=[]) H hoN
 have hlo1:=H.size
 refine Zr<|G (Ys Z)<|G (Yi Z)<|cE Bl (by have hA:=MI (ms.map Mem.name) A1 c1 p _ ((H.rd0 0 Z)) (by simp;omega) hp;exact hA) Z Z ?_
 rintro _ w9 ⟨out,B,d,rfl,hbd,hout,hrB,hrx,hb⟩
 obtain⟨lo3,h3⟩: ∃ n,w4.heap.size=n:=⟨_,rfl⟩
 obtain⟨hi3,h4⟩: ∃ n,w9.heap.size=n:=⟨_,rfl⟩
 rw[h3]at hrB hrx
 rw[h4]at hrB hrx
 have hlw:w0.heap.size<=lo3:=by rw[<-h3];exact hlo1
 replace H:=H.learn hb (Rq lo3 hi3 B out) ⟨hrB,fun x hx=>(hrx x hx).1⟩ (Ff h3) (Ff h4.symm)
 have hol:out.length=ms.length:=by have:=congrArg cY hout;rw[pe]at this;simpa using this
 replace H:=Hp.ilRow H 0 Z
 refine G (bl LQ Z)<|G (Yi Z)<|U<|Zb ?_
 refine bV (τ:=Nat×List Mem) [8,9,31,32,33,34,35,36,37,38,39,40,41,42] (fun(i,_)=>[(31,J (i:Nat))]) (fun(i,ms1) w'=>i<=ms.length/\ms1.length=ms.length/\ms1.drop i=ms.drop i/\(ms1.take i).map Mem.a=((pJ ms p).take i).map Mem.a/\(∀ m∈ms1.take i,m.parts.length<=m.cap/\w0.heap.size<=m.lo)/\ ∃ Lm1,gb j8 (.slice mA ms1.length mC) de ms1 Lm1/\Hp w0 w' ([(b4,.cells #[J 0,J 0,J 0,.slice none 0 0,.slice none 0 0] cK (0,0)),(b2,.cells #[J (ck),J (wt),J (gn+1),.slice mA ms1.length mC,.slice oA os.length oC] cK (0,0))]++Lm1++M) ((ee SL lo3 hi3 B out::Rq lo3 hi3 B out::F)++(ms1.take i).map nJ)) (fun(i,_)=>ms.length-i) (0,ms) ⟨by omega,rfl,rfl,rfl,by simp,Lm,ho,H.forget (by simp) (fun f hf=>by simp only[AJ,mT,aP,ay]at hf⊢;grind)⟩ (ef Z) ?_
 rintro⟨i,ms1⟩ ρ2 w10 ⟨hi,hm1,hdr,htk,hlc,Lm1,hom,H⟩
 show CW _ _ _ _ (dO (ij _ _ ρ2) [(31,J (i:Nat))]) w10
 refine W<|Zr ?_
 refine dZ (cI Z Z) Z Z Z (fun h32=> ?_) (fun h32=> ?_)
 refine U<|W<|ZT Z<|Zk<|W<|Zb<|W ?_
 obtain⟨x,hx⟩: ∃ x,out[i]? =some x:=⟨_,ai I⟩
 have hmx:=ab hx
 obtain⟨y,hy⟩: ∃ y,ms1[i]? =some y:=⟨_,ai I⟩
 have hyt:=BB hdr hy
 obtain⟨g,cur,rfl,rfl,row⟩:=hom.row I
 refine Zr<|G (Yi Z)<|rE H 0 Z yj Z Z I I Z fun bq11 o11 x11 e11=> ?_
 obtain rfl:x=x11:=by have:=e11.at_;rw[hx]at this;exact aZ this
 refine G (bd cP Z (e11.cl 0 _ Z))<|G (Wi Z)<|G (Ws Z)<|U<|Zr<|G (Zf dN Z)<|G (Zd dv H 1 Z Z Z)<|G (Yi Z)<|G (Ys Z)<|G (cL eM Z Z (by first|omega|(simp only[ae];omega)))<|G (Zf i9 Z)<|nt H 2 ({y with parts:=x.es,A:=x.A,cap:=x.cap,lo:=lo3,hi:=hi3}) jV row hy 2 Z Z Z Z Z Z N fun w13 cur12 row12 H=> ?_
 have hs14:(ms1.set i ({y with parts:=x.es,A:=x.A,cap:=x.cap,lo:=lo3,hi:=hi3}))[i]? =some ({y with parts:=x.es,A:=x.A,cap:=x.cap,lo:=lo3,hi:=hi3}):=ak (bZ hy).1
 refine U<|Zr<|G (bn Z Z I I)<|G (Yi Z)<|U ?_
 replace H:=Hp.ilPart H 1 Z hmx
 have hown:=d8.own (g:=g) (e:=de) row12
 have z3:=Ew (show i<ms1.length by omega) ({y with parts:=x.es,A:=x.A,cap:=x.cap,lo:=lo3,hi:=hi3})
 have hle:(gZ (ms.map Mem.name) p)[i]? =some x.es:=by rw[<-hout,aJ,hx];rfl
 refine⟨(i+1,ms1.set i {y with parts:=x.es,A:=x.A,cap:=x.cap,lo:=lo3,hi:=hi3}),⟨by omega,by rw[ae];exact hm1,?_,?_,?_,_,hown,?_⟩,ef Z,Qg,by show ms.length- (i+1)<ms.length-i;omega⟩
 rw[tj I];exact xP hdr I
 rw[z3,ed (Pu hyt hle),bi,bi,htk];rfl
 rw[z3];intro m hm;rcases ar.1 hm with hm|hm;exact hlc m hm;rw[aq.1 hm];exact⟨(hrx x hmx).2,hlw⟩
 rw[ae];exact H.forget (au _) (fun f hf=>by rw[z3]at hf;simp only[bi,dB,mT,ar,ay,bu,or_false]at hf⊢;grind)
 refine U<|W<|ZF Z<|Zx<|W<|Zr<|G (Zw aR H 1 Z Z Z)<|bI H 0 (#[J (ck),J (wt),J (gn+1),.slice mA ms1.length mC,.slice oA os.length oC]) bD Z Z Z Z Z N N fun w15 H=>U<|Zt ?_
 obtain rfl:i=ms.length:=by omega
 rw[show ms.length=ms1.length from hm1.symm,br,show ms1.length=(pJ ms p).length by unfold pJ;rw[List.length_zipWith,pe,bF,hm1];omega,br]at htk
 rw[<-hm1,br]at hlc H
 exact gB (cs0:= #[J (ck),J (wt),J (gn+1),.slice mA ms1.length mC,.slice oA os.length oC]) Z aR Z (H.ent (i:=0) Z) Z ⟨ms1,Lm1,rfl,htk,hom,hlc,H.forget (.cons _ (.cons _ (au _))) (fun f hf=>by simp only[ay,ar];grind)⟩
theorem oN:aa.funcs[(140:Nat)]? =some Tryz.f140:=Tryz.func140
theorem jN {w0 w:World} {K M Lt:List (Nat×Obj)} {F:List cf} {es:List mP} {x:mP} {i c vb:Nat} {A:Option Addr} (H:Hp w0 w (((vb,.cells (gm.f x).toArray eC (0,0))::K)++Lt++M) F) (ho:gb gm (.slice A es.length c) eC es Lt) (hi:i<=es.length) (hb:(es.length+1)*16<=140737488355328):
  di aa nM [.slice A es.length c,J (i:Nat),.slice (Qd vb) ((1:Nat)) 1] w fun v w2=> ∃ A' c' L',v=.slice A' (es.take i++[x]++es.drop i).length c'/\gb gm (.slice A' (es.take i++[x]++es.drop i).length c') eC (es.take i++[x]++es.drop i) L'/\Hp w0 w2 (((vb,.cells (gm.f x).toArray eC (0,0))::K)++L'++M) F:=by
 refine aG nw Z Z ?_
 show CW _ _ _ _ (args [.slice A es.length c,J (i:Nat),.slice (Qd vb) ((1:Nat)) 1]) w
 have hc0:es.length<=c:=by
  obtain⟨_,c',he,hc,_⟩:=ho.form
  injection he with _ _ he
  omega
 have hxs:(gm.f x).length=gm.sz:=gm.len x
 have hx1: ∀ u∈gm.f x,u.oneCell'=true:=fun u hu=>gm.one x u hu
 have hsv: ∀ {w2:World} {K2:List (Nat×Obj)},Hp w0 w2 ((vb,.cells (gm.f x).toArray eC (0,0))::K2) F->wL w2 (Qd vb) 1 gm.sz (gm.all [x]):=fun h=>⟨by rw[fu.length];rfl,fun _=>⟨_,rfl,fun j u hj=>by rw[all_one]at hj;rw[Addr.add_lit,cC];exact aK (h.ent (i:=0) Z) (by simpa using hj)⟩⟩
 refine W<|Zr<|wK Z Z<|U<|W<|Zr<|mO Z Z<|iN Z Z<|ui da Z Z I I I Z fun A12 hA12=>U<|W<|Zr<|mO Z Z<|wA ir Z Z<|pK Z Z<|U<|W<|W<|Zr<|iN Z Z<|G (me Z Z (by decide))<|U<|ZF Z<|Zk<|W<|Zr<|mO Z Z<|wA ir Z Z<|pK Z Z<|U<|W<|W<|Zr<|iN Z Z<|iN Z Z ?_
 refine O2 Z Z Z (fun h22=> ?_) (fun h22=> ?_)
 ·refine nL ?_
  refine ZT Z<|W<|Zr<|mO Z Z<|mO Z Z<|uO (Y:=gm) (es:=es) (news:=[x]) xU H ho Z Z Z (hsv H) (by show(es.length+1)*16<=_;omega) Z fun A25 c25 w25 L25 h25 h25b ho25 H25=>wK Z Z<|U<|Zt<|cU Z Z ?_
  have hi:i=es.length:=by omega
  subst hi
  have he:es.take es.length++[x]++es.drop es.length=es++[x]:=by rw[br,kk,aP]
  rw[he]
  exact⟨A25,c25,L25,rfl,ho25,H25⟩
 refine U<|ZF Z<|Zk ?_
 have hlt:i<es.length:=by omega
 obtain⟨g,cur,rfl,rfl,row⟩:=ho.row I
 have hgE:w.heap[g]? =some (.cells cur eC (0,0)):=H.ent (i:=((vb,.cells (gm.f x).toArray eC (0,0))::K:List (Nat×Obj)).length) (by simp)
 have hle:=row.le
 have hmx:=row.max
 have hlen:=wk (x:=x) (mR hlt)
 have hfit:=row.fit hle
 have hif:=row.fit (i:=i) I
 have hdr:(gm.all (es.drop i)).length=(es.length-i)*gm.sz:=by rw[fu.length,dL]
 have hsm:(i+1)*gm.sz+(es.length-i)*gm.sz=(es.length+1)*gm.sz:=by rw[<-cW];congr 1;omega
 have hi3:(i+1)*gm.sz=i*gm.sz+gm.sz:=by rw[cW,gj]
 refine W<|W<|Zr<|iN Z Z<|iN Z Z<|add Z Z I I Z<|mO Z Z<|G (GF ir Z) ?_
 refine Mh Z Z Z (fun h31=> ?_) (fun h31=> ?_)
 ·refine nL ?_
  refine ZT Z<|W<|Zr<|mO Z Z<|iN Z Z<|BS da Z Z I I Z fun A34 hA34=> ?_
  obtain rfl:=hA34 I
  refine iN Z Z<|iN Z Z<|add Z Z I I Z<|iN Z Z<|sub Z Z I I Z ?_
  refine Ud (m:=es.length+1-i) xU iK H Z (kd:=.i64) (show _=Value.int _ _ from congrArg (Value.int _) (show((es.length:Int)+((1:Nat):Int))- (i:Nat)=((es.length+1-i:Nat):Int) by omega)) (olds:=gm.all (es.take i)) (by rw[fu.length,aI,bE I];rfl) (fun j u hj=>by rw[Addr.add_lit,cC];rw[<-row.pre I,dz]at hj;split at hj;exact aK hgE (by simpa using hj);cases hj) I I (by show(((i:Nat):Int).toNat+(es.length+1-i))*16<=_;omega) Z ?_
  intro w1 g2 c2 cur2 hs2 hge2 hmx2 hp2 H
  have hs2':cur2.size=c2*gm.sz:=hs2
  have hc2:(es.length+1)*gm.sz<=cur2.size:=by rw[hs2'];exact cN _ I
  have hg2:(pz cur2 (i*gm.sz) (gm.f x)).size=cur2.size:=jX (by rw[hxs];omega)
  refine wK Z Z<|U<|W<|Zr<|mO Z Z<|iN Z Z<|ui da Z Z I I I Z fun A43 hA43=>mO Z Z ?_
  have hsrc:=hsv (H.perm (am _ _ _))
  refine RJ (K:=[]) (m:=1) (o:=i*gm.sz) da H Z Z (EM Z I) (fun _=>xW.at0 hA43 I) hsrc (by rw[all_one];exact hx1) (by rw[all_one,hxs];omega) Z ?_
  rw[all_one]
  intro w2 H
  refine U<|W ?_
  refine bG cv [0,1,2,3,4,5,6,7] [8] [] [0,1,2,3,4,5,6,7] (sp []) N N N N Nq (cG _) ?_
  refine aw Z Z Z Z Z (fun _ _=>iG Z)<|aw Z Z Z Z Z (fun _ _=>iG Z)<|aw Z Z Z Z Z (fun _ _=>iG Z)<|aw Z Z Z Z Z (fun _ _=>bn Z Z I I)<|aw Z Z Z Z Z (fun _ _=>pY da Z Z I I)<|aw Z Z Z Z Z (fun _ _=>iG Z)<|aw Z Z Z Z Z (fun _ _=>iG Z)<|aw Z Z Z Z Z (fun _ _=>pY da Z Z I I)<|aT ?_
  intro w' hw' _;replace H:=H.later hw';clear hw'
  have hgE2:w'.heap[g]? =some (.cells cur eC (0,0)):=(H.ents (g,.cells cur eC (0,0)) (by simp)).1
  refine RJ (K:=[]) (m:=es.length-i) (o:=(i+1)*gm.sz) da H Z Z (EM I I) (fun _=>C7 I) (row.srcFrom hgE2 I (s9 (ap _)) I) (fu.all_one _) (by rw[hdr,hg2];omega) Z ?_
  intro w3 H
  refine U<|W<|Zr<|mO Z Z<|wK Z Z<|U<|Zt<|cU Z Z ?_
  exact⟨some ⟨g2,0,none⟩,c2,_,by rw[hlen];show Value.slice _ (((i:Nat):Int).toNat+(es.length+1-i)) _=_;congr 1;omega,d8.own (d8.insNew hs2' hmx2 hp2 (mR hlt) I),H.swapRow⟩
 refine U<|ZF Z<|Zk ?_
 have hroom:es.length+1<=c:=by omega
 have hfr:=row.fit hroom
 refine W<|Zr<|mO Z Z<|iN Z Z<|iN Z Z<|add Z Z I I Z<|BS da Z Z I I Z fun A60 hA60=> ?_
 obtain rfl:=hA60 I
 refine wK Z Z<|U<|W<|W<|Zr<|mO Z Z<|mO Z Z<|iN Z Z<|iN Z Z<|add Z Z I I Z<|ui da Z Z I I I Z fun A66 hA66=> ?_
 have hA:=xW.at0 hA66 I
 have hvE:w.heap[vb]? =some (.cells (gm.f x).toArray eC (0,0)):=H.ent (i:=0) Z
 have hne:vb≠g:=fun he=>by
  have:=H.nodup
  simp only[bi,dB,qZ,jB,ar]at this
  exact this.1 (.inl (.inr (by rw[he];exact aA)))
 have hov: ∀ lb cb,(callFunc pD #[.slice (Qd vb) 1 1,.slice A66 lb cb]).run aa w=.ok (.value (.bool false)) w:=fun lb cb=>by
  rw[hA,run_callFunc_extern oN N N N (e:=Extern.SlicesOverlaps.overlaps #[z0,z0] #[kb]) N,
   Lib.run_overlaps_apart w z0 kb eC (fe da).1 gm.sz (by obtain⟨_,j,h1,h2⟩:=fe da;exact fun w=>by rw[fV h1,h2];rfl) ⟨vb,0,none⟩ _ 1 1 lb cb hne eC eC (gm.f x).length cur.size (by simp[World.shape?,hvE]) (by simp[World.shape?,hgE]) (by have:=gm.pos;have:=row.fit (i:=1) I;omega) (by simp[World.frozen?,hvE]) (by simp[World.frozen?,hvE])]
  rfl
 refine Td (hov _ _) Z Z<|not Z Z<|U<|ZT Z<|W ?_
 refine bG cv [0,1,2,3,4,5,6,7] [8] [] [0,1,2,3,4,5,6,7] (sp []) N N N N Nq (cG _) ?_
 refine aw Z Z Z Z Z (fun _ _=>iG Z)<|aw Z Z Z Z Z (fun _ _=>iG Z)<|aw Z Z Z Z Z (fun _ _=>iG Z)<|aw Z Z Z Z Z (fun _ _=>bn Z Z I I)<|aw Z Z Z Z Z (fun _ _=>pY da Z Z I I)<|aw Z Z Z Z Z (fun _ _=>iG Z)<|aw Z Z Z Z Z (fun _ _=>iG Z)<|aw Z Z Z Z Z (fun _ _=>pY da Z Z I I)<|aT ?_
 intro w' hw' _;replace H:=H.later hw';clear hw'
 have hgE2:w'.heap[g]? =some (.cells cur eC (0,0)):=(H.ents (g,.cells cur eC (0,0)) (by simp)).1
 have hz1:(pz cur ((i+1)*gm.sz) (gm.all (es.drop i))).size=cur.size:=jX (by rw[hdr];omega)
 refine RJ (m:=es.length-i) (o:=(i+1)*gm.sz) da H Z Z (RE I I) (fun _=>C7 I) (row.srcFrom hgE2 I (s9 (ap _)) I) (fu.all_one _) (by rw[hdr];omega) Z ?_
 intro w2 H
 refine U<|W<|Zr<|mO Z Z<|iN Z Z<|ui da Z Z I I I Z fun A80 hA80=>mO Z Z ?_
 have hsrc:=hsv H
 refine RJ (m:=1) (o:=i*gm.sz) da H Z Z (EM Z I) (fun _=>xW.at0 hA80 I) hsrc (by rw[all_one];exact hx1) (by rw[all_one,hxs,hz1];omega) Z ?_
 rw[all_one]
 intro w3 H
 refine U<|W<|Zr<|mO Z Z<|wK Z Z<|U<|Zt<|cU Z Z ?_
 exact⟨some ⟨g,0,none⟩,c,_,by rw[hlen];show Value.slice _ ((es.length:Int)+((1:Nat):Int)).toNat _=_;congr 1,d8.own (row.insIn (mR hlt) hroom),H⟩
theorem OQ {α:Type} {l:List α} {pred:α->Bool} {ix:Option Nat} (h:l.findIdx? pred=ix) (hne:lH ix≠ -1): ∃ (k:Nat) (x:α),ix=some k/\k<l.length/\l[k]? =some x/\pred x=true/\(l.take k).filter (fun m=>!pred m)=l.take k:=by
 cases ix with
 |none=>exact absurd Z hne
 |some k=>
  obtain⟨hl,h1,h2⟩:=aF.1 h
  refine⟨k,_,rfl,hl,ai hl,h1,?_⟩
  rw[ke]
  intro m hm
  obtain⟨j,hj⟩:=aN.1 hm
  rw[dz]at hj
  split at hj
  rename_i hjk
  obtain⟨hjl,rfl⟩:=bZ hj
  have:=h2 j hjk
  simpa using this
  cases hj
theorem Qz {α:Type} {l:List α} {pred:α->Bool} {ix:Option Nat} (h:l.findIdx? pred=ix) (hne:lH ix= -1):(l.filter fun m=>!pred m)=l:=by
 cases ix with
 |none=>
  rw[cD]at h
  rw[ke]
  intro m hm
  simp[h m hm]
 |some k=>simp[lH]at hne
theorem Q5 {w0 w:World} {M:List (Nat×Obj)} {F:List cf} {g n:Nat} {u:Array Value} (ms:List Mem) (c:Nat) (H:Hp w0 w ((g,.cells u de (0,0))::M) F) (row:d8 j8 ms c u) (hn:n=ms.length) (hm12:ms.length<=1000) {f:FuncId} {cap:List Value} (hf:bh aa f=true) (pred:Mem->Bool)
  (hp: ∀ e∈ms,∀ (w':World) (u':Array Value),Hp w0 w' ((g,.cells u' de (0,0))::M) F->di aa f (.agg e.c.toArray::cap) w' fun v w2=>v=.bool (pred e)/\Below w'.heap.size w' w2):
  di aa fH [.slice (Qd g) n c,.func (.func f) #[] cap.toArray] w fun v w2=> ∃ u2,v=.slice (Qd g) (ms.filter fun m=>!pred m).length c/\d8 j8 (ms.filter fun m=>!pred m) c u2/\Hp w0 w2 ((g,.cells u2 de (0,0))::M) F:=by
 refine aG iv Z Z ?_
 have hle:=row.le
 refine W<|Zr<|G (Ws Z)<|U<|W<|Zr<|G (Ys Z)<|G (uj Z)<|cE dm (by subst hn;exact gf ms _ c _ (row.rd0 (H.ent (i:=0) Z)) I f cap hf pred (fun e w2 he hb=>hp e he w2 u (H.later hb))) Z Z ?_
 rintro _ w1 ⟨rfl,hb⟩;replace H:=H.later hb;clear hb
 obtain⟨ix,hix⟩: ∃ i,ms.findIdx? pred=i:=⟨_,rfl⟩
 rw[hix]
 refine G (Wi Z)<|U<|W<|W<|Zr<|G (Yi Z) ?_
 refine dZ (cr Z Z) Z Z Z (fun h12=> ?_) (fun h12=> ?_)
 have hall:=Qz hix I
 refine U<|ZT Z<|W<|Zr<|G (Ys Z)<|G (Ws Z)<|U<|Zt ?_
 exact cU (v:=.slice (Qd g) n c) Z Z ⟨u,by rw[hall,hn],by rw[hall];exact row,H⟩
 refine U<|ZF Z<|Zk<|W<|W ?_
 obtain⟨k0,x0,rfl,hk0l,hk0,hk0p,hkn⟩:=OQ hix I
 refine Zr<|G (Yi Z)<|G (bn (a:=((k0:Nat):Int)) Z Z I I)<|G (Wi Z)<|U<|Zb ?_
 refine bV (τ:=Nat×Nat×List Mem×Array Value) [5,6,7,16,17,18,19,20,21,22,23,24,25,26,27,28,29,30,31,32,33,34,35] (fun(j,i,_,_)=>[(6,J (j:Nat)),(5,J (i:Nat))]) (fun(j,i,m,u1) w'=>j<=n/\i<j/\m.length=n/\m.drop j=ms.drop j/\m.take i=(ms.take j).filter (fun m=>!pred m)/\d8 j8 m c u1/\Hp w0 w' ((g,.cells u1 de (0,0))::M) F) (fun(j,_,_,_)=>n-j) (k0+1,k0,ms,u) ⟨by omega,by omega,hn.symm,rfl,by rw[ed hk0,jr,hkn];simp[hk0p],row,H⟩ (jT Z Z) ?_
 rintro⟨j,i,m,u1⟩ ρ1 w2 ⟨hjn,hij,hml,hdr,htk,row2,H⟩
 show CW _ _ _ _ (dO (ij _ _ ρ1) [(6,J (j:Nat)),(5,J (i:Nat))]) w2
 refine W<|W<|Zr<|G (Yi Z)<|G (Ys Z)<|G (bl gI Z) ?_
 refine dZ (cI Z Z) Z Z Z (fun h19=> ?_) (fun h19=> ?_)
 obtain⟨y,hy⟩: ∃ y,m[j]? =some y:=⟨_,ai I⟩
 have hyt:=BB hdr hy
 have hmy:=ab hyt
 refine U<|ZT Z<|Zk<|W<|Zb<|W<|Zr<|G (Ys Z)<|G (Yi Z)<|G (cL eM Z Z (by first|omega|(simp only[ae];omega)))<|G (py od row2 hy Z Z (H.ent (i:=0) Z))<|fc H uR Z fun w3 b7 H=>bI H 0 (#[.string (y.name),J (y.heard),.slice y.A y.parts.length y.cap]) tF Z Z Z Z Z N N fun w4 H=>U<|W<|Zr<|G (uj Z)<|G (Zw od H 0 Z Z Z) ?_
 refine Re hf Z (hp y hmy _ _ (H.forget (.cons _ (au _)) (fun _ h=>h))) Z Z ?_;rintro _ w5 ⟨rfl,hb2⟩;replace H:=H.later hb2;clear hb2
 refine G (d9 Z)<|U ?_
 refine qL Z (fun hc29=> ?_) (fun hc29=> ?_)
 refine W<|Zr<|G (Ys Z)<|G (Yi Z)<|G (Zw od H 0 Z Z Z)<|G (cL eM Z Z (by first|omega|(simp only[ae];omega))) ?_
 obtain⟨x33,hx33⟩: ∃ x,m[i]? =some x:=⟨_,ai (by first|omega|(simp only[ae];omega))⟩
 refine nt H 1 (y) tF row2 hx33 0 Z Z Z Z Z Z N fun w7 cur6 row6 H=> ?_
 have hs8:(m.set i (y))[i]? =some (y):=ak (bZ hx33).1
 refine U<|Zr<|G (Yi Z)<|G (bn Z Z I I)<|G (Wi Z)<|U<|Zr<|G (Yi Z)<|G (bn Z Z I I)<|G (Wi Z)<|U ?_
 exact⟨(j+1,i+1,m.set i y,_),⟨by omega,by omega,by simp[hml],by rw[tj I];exact xP hdr I,by rw[Ew I,htk,ed hyt,jr,kj (by simpa using hc29)];rfl,row6,H.forget (.cons _ (au _)) (fun _ h=>h)⟩,jT Z Z,Qg,by show n- (j+1)<n-j;omega⟩
 refine Zk<|Zr<|G (Yi Z)<|G (bn Z Z I I)<|G (Wi Z)<|U ?_
 exact⟨(j+1,i,m,u1),⟨by omega,by omega,hml,xP hdr I,by rw[htk,ed hyt,jr,pj (by simpa using hc29)];simp,row2,H.forget (.cons _ (au _)) (fun _ h=>h)⟩,jT Z Z,Qg,by show n- (j+1)<n-j;omega⟩
 refine U<|ZF Z<|Zx<|W<|Zr<|G (Ys Z)<|G (Yi Z)<|ui (A:=some ⟨g,0,none⟩) (len:=n) (cap:=c) (i:=((i:Nat):Int)) eM Z Z I I I Z fun A38 hA38=> ?_
 obtain rfl:=xW.at0 hA38 (show i<n by omega)
 show LW _ _ _ _ _ (fB _ _ (.slice (some ⟨g,i*3,none⟩) (n-i) (c-i))) _
 have hsz:=row2.size
 have hzl:(Builtin.zeroCells (Value.cells (.agg #[.string ⟨#[]⟩,J 0,.slice none 0 0])) (n-i)).toList.length=(n-i)*3:=by rw[ch,size_zeroCells];rfl
 refine T7 (K:=[]) (M:=M) (o:=i*3) (z:=.agg #[.string ⟨#[]⟩,J 0,.slice none 0 0]) eM N Z Z H Z (fun _=>rfl) (by rw[hsz];show i*3+(n-i)*3<=c*3;omega) fun w9 H=> ?_
 have row3:=d8.clr row2 (k:=i) (o:=i*3) (zs:=(Builtin.zeroCells (Value.cells (.agg #[.string ⟨#[]⟩,J 0,.slice none 0 0])) (n-i)).toList) I (ap _) (by rw[hzl,hsz];show i*3+(n-i)*3<=c*3;omega)
 refine U<|W<|Zr<|G (Ys Z)<|G (Yi Z)<|BS (A:=some ⟨g,0,none⟩) (len:=n) (cap:=c) (i:=((i:Nat):Int)) eM Z Z I I Z fun A41 hA41=> ?_
 obtain rfl:=hA41 I
 show LW _ _ _ _ _ (fB _ _ (.slice (Qd g) i c)) _
 refine G (Ws Z)<|U<|Zt ?_
 have hfin:m.take i=ms.filter (fun m=>!pred m):=by rw[htk,show j=ms.length by omega,br]
 have hfl:i=(ms.filter fun m=>!pred m).length:=by rw[<-hfin,aI];omega
 exact cU (v:=.slice (Qd g) i c) Z Z ⟨_,by rw[<-hfl],hfin▸row3,H⟩
theorem tI {β:Type} (X A C:List β):(X++A++C).Perm (A++(X++C)):=by
 rw[aB]
 exact gu X A C
theorem tK (l:List Mem):(l.map Mem.a).map Mem.name=l.map Mem.name:=by rw[tu];rfl
theorem Pv (ms:List Mem) (p:Nat):(pJ ms p).map Mem.a=pJ (ms.map Mem.a) p:=by
 unfold pJ
 rw[tK,List.map_zipWith,List.zipWith_map_left]
 rfl
theorem De (ms:List Mem) (p:Nat):(pJ ms p).length=ms.length:=by
 unfold pJ
 rw[List.length_zipWith,pe,bF];omega
theorem Dd {ms:List Mem} {p:Nat} {m:Mem} (h:m∈pJ ms p): ∃ i,m.parts=mY (ms.map Mem.name) p i:=by
 obtain⟨i,hi⟩:=aN.1 h
 have hl:=(bZ hi).1
 rw[De]at hl
 obtain⟨x,hx⟩: ∃ x,ms[i]? =some x:=⟨_,ai hl⟩
 have hp:(gZ (ms.map Mem.name) p)[i]? =some (mY (ms.map Mem.name) p i):=by
  unfold gZ
  rw[aJ,bF,tg hl];rfl
 rw[Pu hx hp]at hi
 injection hi with hi
 exact⟨i,by rw[<-hi]⟩
def JW (g:Gr) (p:Nat):Gr:={g with gen:=g.gen+1,ms:=pJ g.ms p}
def FO (s:ByteArray) (ck:Int):Mem:=⟨s,ck,[],none,0,0,0⟩
theorem KI {w w2:World} {ck wt gn:Int} {ms' l:List Mem} {mA oA:Option Addr} {mC oC p:Nat} {os:List mP} {Lm Lo:List (Nat×Obj)} (ha:ms'.map Mem.a=pJ (l.map Mem.a) p) (hl:l.length<=6) (hp:p<=4) (hol:os.length<=4) (ho:gb j8 (.slice mA ms'.length mC) de ms' Lm) (hoo:gb gm (.slice oA os.length oC) eC os Lo) (hoc:os.length<=oC) (hc: ∀ m∈ms',m.parts.length<=m.cap/\w.heap.size<=m.lo) (H:Hp w w2 (Lm++Lo) (ms'.map nJ)):AH w w2 ⟨ck,wt,gn,ms',mA,mC,os,oA,oC⟩:=by
 have hml:ms'.length=l.length:=by have:=congrArg cY ha;rw[De]at this;simpa using this
 have hmc:ms'.length<=mC:=by
  obtain⟨_,c,e,h,_⟩:=ho.form
  injection e with _ _ e
  rw[e];exact h
 refine rP.new (ga:=Gr.a ⟨ck,wt,gn,ms',mA,mC,os,oA,oC⟩) ⟨rfl,ho,hoo,hmc,hoc,hc,H⟩ (by dsimp only;omega) (by dsimp only;omega) fun m hm=> ?_
 have h1:m.a∈pJ (l.map Mem.a) p:=ha▸bM hm
 obtain⟨i,hi⟩:=Dd h1
 have h2:m.parts=mY ((l.map Mem.a).map Mem.name) p i:=hi
 rw[h2]
 have:=Ai ((l.map Mem.a).map Mem.name) p i
 omega
theorem Jq (g:Gr) (s:ByteArray) (p:Nat) (w:World) (h:g.rd 0 w.heap.size w) (hok:ma g=true) (hn:bC s=true) (hp:p<=4) (hg1:g.gen<1073741824) (i:Nat) (hi:qD g s=i):di aa p8 [g.v,.string s,J (p:Nat)] w fun v w2=>v=.tuple #[.agg #[J 0,J 0,J 0,.slice none 0 0,.slice none 0 0],J 6]/\Below w.heap.size w w2:=by
 refine aG sr Z Z ?_
 have hmC:=h.mC
 have hoC:=h.oC
 have hfew:=h.few
 have hfp:=h.fewP
 have H:=Hp.startGr h
 obtain⟨ck,wt,gn,ms,mA,mC,os,oA,oC⟩:=g
 dsimp only at hmC hoC hfew hfp H
 show CW _ _ _ _ (args [.agg #[J (ck),J (wt),J (gn),.slice mA ms.length mC,.slice oA os.length oC],.string (s),J (((p:Nat):Int))]) w
 obtain⟨⟨⟨k1,k2⟩,k3,k4,⟨k5,k6⟩,k7,k8⟩,⟨hmo,hap⟩,hof,hor⟩:=dC.1 hok
 dsimp only at k1 k2 k3 k4 k5 k6 k7 k8 hg1
 refine W<|Zr<|gU H Z Z fun w1 b3 H=>fc H eo Z fun w2 b6 H=>G (Wi Z)<|U<|W<|Zr<|G (Zw aR H 1 Z Z Z)<|G (Yt Z)<|cE gE (m5 ⟨ck,wt,gn,ms,mA,mC,os,oA,oC⟩ s _ ⟨H.rd0 0 Z,fun m hm=>Bv H 1 Z hm,H.rd0 2 Z,hmC,hoC,hfew,hfp⟩ hok hn) Z Z ?_
 rintro _ w3 ⟨⟨ck2,wt2,gn2,ms2,mA2,mC2,os2,oA2,oC2⟩,Lm,Lo,rfl,ha2,ho2,hoo2,hmc2,hoc2,hpc2,hj2⟩
 have hlo2:=H.size
 replace H:=Hp.joinG H hj2 (fun m hm=>(hpc2 m hm).2);clear hj2
 simp only[Gr.a,Gr.mk.injEq]at ha2
 obtain⟨e1,e2,e3,hma,-,-,e4,-,-⟩:=ha2
 obtain rfl:ck=ck2:=e1.symm
 obtain rfl:wt=wt2:=e2.symm
 obtain rfl:gn=gn2:=e3.symm
 obtain rfl:os=os2:=e4.symm
 dsimp only at ho2 hoo2 hmc2 hoc2 hpc2 H
 replace hpc2: ∀ m∈ms2,m.parts.length<=m.cap/\w.heap.size<=m.lo:=fun m hm=>⟨(hpc2 m hm).1,aW hlo2 (hpc2 m hm).2⟩
 have hml2:ms2.length=ms.length:=by have:=congrArg cY hma;simpa using this
 rw[hi]
 refine G (Yu Z)<|G (Xa Z Z)<|G (Xi Z Z)<|G (Xi Z Z)<|bI H 1 (#[J (ck),J (wt),J (gn),.slice mA2 ms2.length mC2,.slice oA2 os.length oC2]) bD Z Z Z Z Z N N fun w4 H=>G (Wi Z)<|G (Wi Z)<|U<|W<|Zb<|W<|Zr<|G (Yi Z)<|G (cj Z Z Z)<|G (Wb Z)<|U<|ZF Z<|W<|Zr<|G (Zw aR H 1 Z Z Z)<|G (Yi Z)<|cE lh (tW ⟨ck,wt,gn,ms2,mA2,mC2,os,oA2,oC2⟩ p _) Z Z ?_
 rw[show jc ⟨ck,wt,gn,ms2,mA2,mC2,os,oA2,oC2⟩ p=true by unfold jc;simp;omega]
 rintro _ w5 ⟨rfl,hb⟩;replace H:=H.later hb;clear hb
 refine G (d9 Z)<|G (Wb Z)<|U<|ZF Z<|W<|Zr<|G (Yi Z)<|G (Sm Z Z I)<|G (Wb Z)<|U<|ZT Z<|W<|Zr<|G (bp (cs:= #[J (0),J (0),J (0),.slice none 0 0,.slice none 0 0]) ko eo N)<|bI H 0 (#[J (0),J (0),J (0),.slice none 0 0,.slice none 0 0]) bD Z Z Z Z Z N N fun w6 H=>G (Wi Z)<|U<|Zt ?_
 exact cu (cs0:= #[J 0,J 0,J 0,.slice none 0 0,.slice none 0 0]) (v1:=J 6) Z aR Z (H.ent (i:=0) Z) Z Z ⟨rfl,H.below⟩
theorem LU (g:Gr) (s:ByteArray) (p:Nat) (w:World) (h:g.rd 0 w.heap.size w) (hok:ma g=true) (hn:bC s=true) (hp:p<=4) (hg1:g.gen<1073741824) (hi:qD g s= -1) (hf:g.ms.length=6):di aa p8 [g.v,.string s,J (p:Nat)] w fun v w2=>v=.tuple #[.agg #[J 0,J 0,J 0,.slice none 0 0,.slice none 0 0],J 16]/\Below w.heap.size w w2:=by
 refine aG sr Z Z ?_
 have hmC:=h.mC
 have hoC:=h.oC
 have hfew:=h.few
 have hfp:=h.fewP
 have H:=Hp.startGr h
 obtain⟨ck,wt,gn,ms,mA,mC,os,oA,oC⟩:=g
 dsimp only at hmC hoC hfew hfp H
 show CW _ _ _ _ (args [.agg #[J (ck),J (wt),J (gn),.slice mA ms.length mC,.slice oA os.length oC],.string (s),J (((p:Nat):Int))]) w
 obtain⟨⟨⟨k1,k2⟩,k3,k4,⟨k5,k6⟩,k7,k8⟩,⟨hmo,hap⟩,hof,hor⟩:=dC.1 hok
 dsimp only at k1 k2 k3 k4 k5 k6 k7 k8 hg1
 dsimp only at hf
 refine W<|Zr<|gU H Z Z fun w1 b3 H=>fc H eo Z fun w2 b6 H=>G (Wi Z)<|U<|W<|Zr<|G (Zw aR H 1 Z Z Z)<|G (Yt Z)<|cE gE (m5 ⟨ck,wt,gn,ms,mA,mC,os,oA,oC⟩ s _ ⟨H.rd0 0 Z,fun m hm=>Bv H 1 Z hm,H.rd0 2 Z,hmC,hoC,hfew,hfp⟩ hok hn) Z Z ?_
 rintro _ w3 ⟨⟨ck2,wt2,gn2,ms2,mA2,mC2,os2,oA2,oC2⟩,Lm,Lo,rfl,ha2,ho2,hoo2,hmc2,hoc2,hpc2,hj2⟩
 have hlo2:=H.size
 replace H:=Hp.joinG H hj2 (fun m hm=>(hpc2 m hm).2);clear hj2
 simp only[Gr.a,Gr.mk.injEq]at ha2
 obtain⟨e1,e2,e3,hma,-,-,e4,-,-⟩:=ha2
 obtain rfl:ck=ck2:=e1.symm
 obtain rfl:wt=wt2:=e2.symm
 obtain rfl:gn=gn2:=e3.symm
 obtain rfl:os=os2:=e4.symm
 dsimp only at ho2 hoo2 hmc2 hoc2 hpc2 H
 replace hpc2: ∀ m∈ms2,m.parts.length<=m.cap/\w.heap.size<=m.lo:=fun m hm=>⟨(hpc2 m hm).1,aW hlo2 (hpc2 m hm).2⟩
 have hml2:ms2.length=ms.length:=by have:=congrArg cY hma;simpa using this
 rw[hi]
 refine G (Yu Z)<|G (Xa Z Z)<|G (Xi Z Z)<|G (Xi Z Z)<|bI H 1 (#[J (ck),J (wt),J (gn),.slice mA2 ms2.length mC2,.slice oA2 os.length oC2]) bD Z Z Z Z Z N N fun w4 H=>G (Wi Z)<|G (Wi Z)<|U<|W<|Zb<|W<|Zr<|G (Yi Z)<|G (cj Z Z Z)<|G (Wb Z)<|U<|ZF Z<|W<|Zr<|G (Zw aR H 1 Z Z Z)<|G (Yi Z)<|cE lh (tW ⟨ck,wt,gn,ms2,mA2,mC2,os,oA2,oC2⟩ p _) Z Z ?_
 rw[show jc ⟨ck,wt,gn,ms2,mA2,mC2,os,oA2,oC2⟩ p=true by unfold jc;simp;omega]
 rintro _ w5 ⟨rfl,hb⟩;replace H:=H.later hb;clear hb
 refine G (d9 Z)<|G (Wb Z)<|U<|ZF Z<|W<|Zr<|G (Yi Z)<|G (nP Z Z (by decide))<|G (Wb Z)<|U<|ZF Z<|W<|Zr<|G (Zf dN Z)<|G (Zd dv H 1 Z Z Z)<|G (bl gI Z)<|G (sw Z Z I)<|G (Wb Z)<|U<|ZT Z<|W<|Zr<|G (bp (cs:= #[J (0),J (0),J (0),.slice none 0 0,.slice none 0 0]) ko eo N)<|bI H 0 (#[J (0),J (0),J (0),.slice none 0 0,.slice none 0 0]) bD Z Z Z Z Z N N fun w6 H=>G (Wi Z)<|U<|Zt ?_
 exact cu (cs0:= #[J 0,J 0,J 0,.slice none 0 0,.slice none 0 0]) (v1:=J 16) Z aR Z (H.ent (i:=0) Z) Z Z ⟨rfl,H.below⟩
theorem QT (g:Gr) (s:ByteArray) (p:Nat) (w:World) (h:g.rd 0 w.heap.size w) (hok:ma g=true) (hn:bC s=true) (hp:p<=4) (hg1:g.gen<1073741824) (hi:qD g s= -1) (hf:g.ms.length≠6):di aa p8 [g.v,.string s,J (p:Nat)] w fun v w2=> ∃ g':Gr,v=.tuple #[g'.v,J 0]/\g'.a=JW {g.a with ms:=g.a.ms++[FO s g.clock]} p/\AH w w2 g':=by
 refine aG sr Z Z ?_
 have hmC:=h.mC
 have hoC:=h.oC
 have hfew:=h.few
 have hfp:=h.fewP
 have H:=Hp.startGr h
 obtain⟨ck,wt,gn,ms,mA,mC,os,oA,oC⟩:=g
 dsimp only at hmC hoC hfew hfp H
 show CW _ _ _ _ (args [.agg #[J (ck),J (wt),J (gn),.slice mA ms.length mC,.slice oA os.length oC],.string (s),J (((p:Nat):Int))]) w
 obtain⟨⟨⟨k1,k2⟩,k3,k4,⟨k5,k6⟩,k7,k8⟩,⟨hmo,hap⟩,hof,hor⟩:=dC.1 hok
 dsimp only at k1 k2 k3 k4 k5 k6 k7 k8 hg1
 dsimp only at hf
 refine W<|Zr<|gU H Z Z fun w1 b3 H=>fc H eo Z fun w2 b6 H=>G (Wi Z)<|U<|W<|Zr<|G (Zw aR H 1 Z Z Z)<|G (Yt Z)<|cE gE (m5 ⟨ck,wt,gn,ms,mA,mC,os,oA,oC⟩ s _ ⟨H.rd0 0 Z,fun m hm=>Bv H 1 Z hm,H.rd0 2 Z,hmC,hoC,hfew,hfp⟩ hok hn) Z Z ?_
 rintro _ w3 ⟨⟨ck2,wt2,gn2,ms2,mA2,mC2,os2,oA2,oC2⟩,Lm,Lo,rfl,ha2,ho2,hoo2,hmc2,hoc2,hpc2,hj2⟩
 have hlo2:=H.size
 replace H:=Hp.joinG H hj2 (fun m hm=>(hpc2 m hm).2);clear hj2
 simp only[Gr.a,Gr.mk.injEq]at ha2
 obtain⟨e1,e2,e3,hma,-,-,e4,-,-⟩:=ha2
 obtain rfl:ck=ck2:=e1.symm
 obtain rfl:wt=wt2:=e2.symm
 obtain rfl:gn=gn2:=e3.symm
 obtain rfl:os=os2:=e4.symm
 dsimp only at ho2 hoo2 hmc2 hoc2 hpc2 H
 replace hpc2: ∀ m∈ms2,m.parts.length<=m.cap/\w.heap.size<=m.lo:=fun m hm=>⟨(hpc2 m hm).1,aW hlo2 (hpc2 m hm).2⟩
 have hml2:ms2.length=ms.length:=by have:=congrArg cY hma;simpa using this
 rw[hi]
 refine G (Yu Z)<|G (Xa Z Z)<|G (Xi Z Z)<|G (Xi Z Z)<|bI H 1 (#[J (ck),J (wt),J (gn),.slice mA2 ms2.length mC2,.slice oA2 os.length oC2]) bD Z Z Z Z Z N N fun w4 H=>G (Wi Z)<|G (Wi Z)<|U<|W<|Zb<|W<|Zr<|G (Yi Z)<|G (cj Z Z Z)<|G (Wb Z)<|U<|ZF Z<|W<|Zr<|G (Zw aR H 1 Z Z Z)<|G (Yi Z)<|cE lh (tW ⟨ck,wt,gn,ms2,mA2,mC2,os,oA2,oC2⟩ p _) Z Z ?_
 rw[show jc ⟨ck,wt,gn,ms2,mA2,mC2,os,oA2,oC2⟩ p=true by unfold jc;simp;omega]
 rintro _ w5 ⟨rfl,hb⟩;replace H:=H.later hb;clear hb
 refine G (d9 Z)<|G (Wb Z)<|U<|ZF Z<|W<|Zr<|G (Yi Z)<|G (nP Z Z (by decide))<|G (Wb Z)<|U<|ZF Z<|W<|Zr<|G (Zf dN Z)<|G (Zd dv H 1 Z Z Z)<|G (bl gI Z)<|G (me Z Z I)<|G (Wb Z)<|U<|ZF Z<|Zk<|W<|Zr<|G (Zf dN Z)<|G (Zd dv H 1 Z Z Z)<|G (Yt Z)<|G (Zf jR Z)<|G (Zd al H 1 Z Z Z)<|G (bp (cs:= #[.string (s),J (ck),.slice none 0 0]) K8 uR N)<|sK (vs:=[.agg #[.string (s),J (ck),.slice none 0 0]]) H eM uR Z Z Z Z Z Z fun w6 b44 H=>uO (Y:=j8) Dh (K:=[(b44,.cells #[.string (s),J (ck),.slice none 0 0] de (0,0)),(b6,.cells #[J (0),J (0),J (0),.slice none 0 0,.slice none 0 0] cK (0,0)),(b3,.cells #[J (ck),J (wt),J (gn),.slice mA2 ms2.length mC2,.slice oA2 os.length oC2] cK (0,0))]) (L:=Lm) (M:=Lo) H ho2 (news:=[FO s ck]) Z Z Z (wL.row (m:=1) (sz:=j8.sz) (H.ent (i:=0) Z) Z) (show(ms2.length+1)*48<=140737488355328 by omega) Z ?_
 intro A9 c9 w7 L9 h9 _ ho9 H
 have hl9:(ms2++[FO s ck]).length<=6:=by rw[av,bv];omega
 refine G (Zf dN Z)<|bI H 2 (#[J (ck),J (wt),J (gn),.slice A9 ((ms2++[FO s ck]).length) c9,.slice oA2 os.length oC2]) uX Z Z Z Z Z N N fun w8 H=>U<|W<|Zr<|G (Zw aR H 2 Z Z Z)<|G (Yi Z)<|cE rN (AF ck wt gn (ms2++[FO s ck]) A9 c9 os oA2 oC2 p (H.perm (tI [(b44,.cells #[.string (s),J (ck),.slice none 0 0] de (0,0)),(b6,.cells #[J (0),J (0),J (0),.slice none 0 0,.slice none 0 0] cK (0,0)),(b3,.cells #[J (ck),J (wt),J (gn),.slice A9 ((ms2++[FO s ck]).length) c9,.slice oA2 os.length oC2] cK (0,0))] L9 Lo).symm) ho9 I hp I I) Z Z ?_
 rintro _ w9 ⟨ms4,L4,rfl,ha4,ho4,hc4,H⟩
 replace H:=H.perm (tI [(b44,.cells #[.string (s),J (ck),.slice none 0 0] de (0,0)),(b6,.cells #[J (0),J (0),J (0),.slice none 0 0,.slice none 0 0] cK (0,0)),(b3,.cells #[J (ck),J (wt),J (gn),.slice A9 ((ms2++[FO s ck]).length) c9,.slice oA2 os.length oC2] cK (0,0))] L4 Lo)
 rw[Pv]at ha4
 refine bI H 1 (#[J (ck),J (wt),J (gn+1),.slice A9 ms4.length c9,.slice oA2 os.length oC2]) bD Z Z Z Z Z N N fun w10 H=>G (Wi Z)<|U<|Zt ?_
 exact cu (cs0:= #[J (ck),J (wt),J (gn+1),.slice A9 ms4.length c9,.slice oA2 os.length oC2]) (v1:=J 0) Z aR Z (H.ent (i:=1) Z) Z Z ⟨⟨ck,wt,gn+1,ms4,A9,c9,os,oA2,oC2⟩,rfl,by unfold Gr.a JW;dsimp only;rw[ha4,bi,hma];rfl,KI ha4 hl9 hp I ho4 hoo2 hoc2 hc4 (H.forget (by rw[aB];exact .cons _ (.cons _ (.cons _ (au _)))) (fun f hf=>by simp only[ay,ar];grind))⟩
def uY (g:Gr) (n:Int) (m:Mem):Bool:=decide (g.wait<=g.clock+n-m.heard)
def qo (g:Gr) (n:Int) (p:Nat):Gr:=if(g.ms.filter fun m=>!uY g n m).length=g.ms.length then{g with clock:=g.clock+n}else JW {g with clock:=g.clock+n,ms:=g.ms.filter fun m=>!uY g n m} p
theorem iY {ck:Int} {l l2:List Mem} (ha:l2.map Mem.a=l.map Mem.a) (hm: ∀ m∈l,wU ck m=true): ∀ m∈l2,m.parts.length<=4:=fun m hm2=>by
 have h1:m.a∈l.map Mem.a:=ha▸bM hm2
 obtain⟨x,hx,he⟩:=bK.1 h1
 have h2:=(j0.1 (hm x hx)).2.2.2
 have h3:m.parts=x.parts:=(congrArg Mem.parts he).symm
 have:=mX h2
 rw[h3];omega
theorem OK {ck:Int} {l l2:List Mem} (ha:l2.map Mem.a=l.map Mem.a) (hm: ∀ m∈l,wU ck m=true): ∀ m∈l2,0<=m.heard/\m.heard<=ck:=fun m hm2=>by
 have h1:m.a∈l.map Mem.a:=ha▸bM hm2
 obtain⟨x,hx,he⟩:=bK.1 h1
 obtain⟨_,h2,h3,_⟩:=j0.1 (hm x hx)
 have h4:m.heard=x.heard:=(congrArg Mem.heard he).symm
 rw[h4];exact⟨h2,h3⟩
theorem HW (l:List Mem) (f:Mem->Bool) (hf: ∀ m,f m.a=f m):(l.filter f).map Mem.a=(l.map Mem.a).filter f:=by
 rw[List.filter_map,show f∘Mem.a=f from funext hf]
theorem JI {α:Type} {l:List α} {f:α->Bool} (h:(l.filter f).length=l.length):l.filter f=l:=ke.2 (List.length_filter_eq_length_iff.1 h)
theorem IP (m:Mem) (b:Nat) (ck wt gn:Int) (v3 v4:Value) (w:World) (hx:w.heap[b]? =some (.cells #[J ck,J wt,J gn,v3,v4] cK (0,0))) (h0:0<=m.heard) (h1:m.heard<=1073741824) (h2:0<=ck) (h3:ck<=1073741824):
  di aa AU [.agg m.c.toArray,.pointer (Qd b)] w fun v w2=>v=.bool (decide (wt<=ck-m.heard))/\Below w.heap.size w w2:=by
 refine aG zE Z Z ?_
 have H:=Hp.start w
 have hb:=bX hx
 refine W<|Zr<|gU H Z Z fun w1 b2 H=>G (Wb Z)<|U<|W<|Zr<|G (Zf jR Z)<|G (bd al Z ((H.below.cell (p:=⟨b,_,none⟩) hb).trans (aK (j:=0) hx Z)))<|G (Zf rI Z)<|G (Zd al H 0 Z Z Z)<|G (qt Z Z I I)<|G (Zf xN Z)<|G (bd al Z ((H.below.cell (p:=⟨b,_,none⟩) hb).trans (aK (j:=1) hx Z)))<|G (pN Z Z)<|G (Wb Z)<|U<|Zt ?_
 exact cU Z Z ⟨rfl,H.below⟩
theorem Ph (A:Option Addr) (c:Nat) (w:World) {f:FuncId} {cap:List Value} (hf:bh aa f=true):di aa fH [.slice A 0 c,.func (.func f) #[] cap.toArray] w fun v w2=>v=.slice A 0 c/\Below w.heap.size w w2:=by
 refine aG iv Z Z ?_
 have H:=Hp.start w
 refine W<|Zr<|G (Ws Z)<|U<|W<|Zr<|G (Ys Z)<|G (uj Z)<|cE dm (gf [] A c _ Rd.nil (by simp) f cap hf (fun _=>false) (fun e w2 he _=>absurd he (by simp))) Z Z ?_
 rintro _ w1 ⟨rfl,hb⟩;replace H:=H.later hb;clear hb
 refine G (Wi Z)<|U<|W<|W<|Zr<|G (Yi Z)<|G (sw Z Z Z)<|U<|ZT Z<|W<|Zr<|G (Ys Z)<|G (Ws Z)<|U<|Zt ?_
 exact cU (v:=.slice A 0 c) Z Z ⟨rfl,H.below⟩
theorem Pj {w0 w:World} {K M Lt:List (Nat×Obj)} {F:List cf} {ms:List Mem} {c:Nat} {A:Option Addr} (H:Hp w0 w (K++Lt++M) F) (ho:gb j8 (.slice A ms.length c) de ms Lt) (h12:ms.length<=1000) {f:FuncId} {cap:List Value} (hf:bh aa f=true) (pred:Mem->Bool)
  (hp: ∀ e∈ms,∀ (w':World) (L':List (Nat×Obj)),Hp w0 w' (K++L'++M) F->di aa f (.agg e.c.toArray::cap) w' fun v w2=>v=.bool (pred e)/\Below w'.heap.size w' w2):
  di aa fH [.slice A ms.length c,.func (.func f) #[] cap.toArray] w fun v w2=> ∃ L',v=.slice A (ms.filter fun m=>!pred m).length c/\gb j8 (.slice A (ms.filter fun m=>!pred m).length c) de (ms.filter fun m=>!pred m) L'/\Hp w0 w2 (K++L'++M) F:=by
 by_cases h0:ms.length=0
 have:=bS h0
 subst this
 exact(Ph A c w hf).mono fun v w2 ⟨h1,h2⟩=>⟨Lt,h1,ho,H.later h2⟩
 obtain⟨g,cur,rfl,rfl,row⟩:=ho.row I
 have hpm: ∀ u:Array Value,(K++[(g,Obj.cells u de (0,0))]++M).Perm ((g,Obj.cells u de (0,0))::(K++M)):=fun u=>by rw[aB];exact qY
 exact(Q5 ms c (H.perm (hpm cur).symm) row Z h12 hf pred fun e he w' u' H'=>hp e he w' _ (H'.perm (hpm u'))).mono fun v w2 ⟨u2,h1,h2,h3⟩=>⟨_,h1,d8.own (g:=g) (e:=de) h2,h3.perm (hpm u2)⟩
theorem HL (g:Gr) (n:Int) (p:Nat) (w:World) (h:g.rd 0 w.heap.size w) (hok:ma g=true) (hp:p<=4) (hg1:g.gen<1073741824) (hn0:0<=n) (hn1:n<=1000) (hcl:g.clock+n<=1073741824):di aa F6 [g.v,J n,J (p:Nat)] w fun v w2=> ∃ g':Gr,v=.tuple #[g'.v,J 0]/\g'.a=qo g.a n p/\AH w w2 g':=by
 refine aG DY Z Z ?_
 have hmC:=h.mC
 have hoC:=h.oC
 have hfew:=h.few
 have hfp:=h.fewP
 have H:=Hp.startGr h
 obtain⟨ck,wt,gn,ms,mA,mC,os,oA,oC⟩:=g
 dsimp only at hmC hoC hfew hfp H
 show CW _ _ _ _ (args [.agg #[J (ck),J (wt),J (gn),.slice mA ms.length mC,.slice oA os.length oC],J (n),J (((p:Nat):Int))]) w
 obtain⟨⟨⟨k1,k2⟩,k3,k4,⟨k5,k6⟩,k7,k8⟩,⟨hmo,hap⟩,hof,hor⟩:=dC.1 hok
 dsimp only at k1 k2 k3 k4 k5 k6 k7 k8 hmo
 dsimp only at hg1 hcl
 refine W<|Zr<|gU H Z Z fun w1 b3 H=>fc H eo Z fun w2 b6 H=>G (Wi Z)<|U<|W<|W<|Zr<|G (Zw aR H 1 Z Z Z)<|cE vK (EY ⟨ck,wt,gn,ms,mA,mC,os,oA,oC⟩ _ ⟨H.rd0 0 Z,fun m hm=>Bv H 1 Z hm,H.rd0 2 Z,hmC,hoC,hfew,hfp⟩ hok) Z Z ?_
 rintro _ w3 ⟨rfl,hb⟩;replace H:=H.later hb;clear hb
 refine G (Wi Z)<|U<|W<|Zr<|G (Yi Z)<|G (cj Z Z Z)<|U<|ZF Z<|Zk<|W<|W<|Zr<|G (Yi Z)<|G (cV Z Z I)<|G (Yb Z)<|ZG<|G (Yi Z)<|ZG<|G (dX Z Z I)<|G (N Z Z)<|G (Yb Z)<|ZG<|G (Zf jR Z)<|ZG<|G (Zd al H 1 Z Z Z)<|ZG<|G (Yi Z)<|ZG<|G (bn Z Z I I)<|ZG<|G (dX Z Z I)<|G (N Z Z)<|G (Yb Z)<|ZG<|G (Zw aR H 1 Z Z Z)<|ZG<|G (Yi Z)<|ZG<|cE lh (tW ⟨ck,wt,gn,ms,mA,mC,os,oA,oC⟩ p _) Z Z ?_
 rw[show jc ⟨ck,wt,gn,ms,mA,mC,os,oA,oC⟩ p=true by unfold jc;simp;omega]
 rintro _ w4 ⟨rfl,hb⟩;replace H:=H.later hb;clear hb
 refine ZG<|G (d9 Z)<|G (N Z Z)<|U<|ZF Z<|Zk<|W<|Zr<|G (Zw aR H 1 Z Z Z)<|cE ou (yE ⟨ck,wt,gn,ms,mA,mC,os,oA,oC⟩ _ ⟨H.rd0 0 Z,fun m hm=>Bv H 1 Z hm,H.rd0 2 Z,hmC,hoC,hfew,hfp⟩) Z Z ?_
 rintro _ w5 ⟨⟨ck2,wt2,gn2,ms2,mA2,mC2,os2,oA2,oC2⟩,Lm,Lo,rfl,ha2,ho2,hoo2,hmc2,hoc2,hpc2,hj2⟩
 have hlo2:=H.size
 replace H:=Hp.joinG H hj2 (fun m hm=>(hpc2 m hm).2);clear hj2
 simp only[Gr.a,Gr.mk.injEq]at ha2
 obtain⟨e1,e2,e3,hma,-,-,e4,-,-⟩:=ha2
 obtain rfl:ck=ck2:=e1.symm
 obtain rfl:wt=wt2:=e2.symm
 obtain rfl:gn=gn2:=e3.symm
 obtain rfl:os=os2:=e4.symm
 dsimp only at ho2 hoo2 hmc2 hoc2 hpc2 H
 replace hpc2: ∀ m∈ms2,m.parts.length<=m.cap/\w.heap.size<=m.lo:=fun m hm=>⟨(hpc2 m hm).1,aW hlo2 (hpc2 m hm).2⟩
 have hml2:ms2.length=ms.length:=by have:=congrArg cY hma;simpa using this
 have hhd:=OK hma hmo
 refine bI H 1 (#[J (ck),J (wt),J (gn),.slice mA2 ms2.length mC2,.slice oA2 os.length oC2]) bD Z Z Z Z Z N N fun w6 H=>U<|W<|Zr<|G (Zf jR Z)<|G (Zd al H 1 Z Z Z)<|G (Yi Z)<|G (bn Z Z I I)<|G (Zf jR Z)<|bI H 1 (#[J (ck+n),J (wt),J (gn),.slice mA2 ms2.length mC2,.slice oA2 os.length oC2]) bN Z Z Z Z Z N N fun w7 H=>U<|W<|Zr<|G (Zf dN Z)<|G (Zd dv H 1 Z Z Z)<|G (bl gI Z)<|G (Wi Z)<|U<|W<|Zr<|G (Zf dN Z)<|G (Zd dv H 1 Z Z Z)<|G (Ce Z)<|cE lK (Pj (K:=[(b6,.cells #[J (0),J (0),J (0),.slice none 0 0,.slice none 0 0] cK (0,0)),(b3,.cells #[J (ck+n),J (wt),J (gn),.slice mA2 ms2.length mC2,.slice oA2 os.length oC2] cK (0,0))]) (Lt:=Lm) (M:=Lo) H ho2 I (cap:=[.pointer (Qd b3)]) zR (fun m=>decide (wt<=(ck+n)-m.heard)) (fun e he w' L' H'=>IP e b3 (ck+n) wt gn _ _ w' (H'.ent (i:=1) Z) (hhd e he).1 (by have:=(hhd e he).2;omega) I hcl)) Z Z ?_
 rintro _ w8 ⟨L9,rfl,ho9,H⟩
 have hl9:(ms2.filter fun m=>!decide (wt<=(ck+n)-m.heard)).length<=6:=by have:=List.length_filter_le (fun m:Mem=>!decide (wt<=(ck+n)-m.heard)) ms2;omega
 refine G (Zf dN Z)<|bI H 1 (#[J (ck+n),J (wt),J (gn),.slice mA2 ((ms2.filter fun m=>!decide (wt<=(ck+n)-m.heard)).length) mC2,.slice oA2 os.length oC2]) uX Z Z Z Z Z N N fun w9 H=>U<|W<|W<|Zr<|G (Zf dN Z)<|G (Zd dv H 1 Z Z Z)<|G (bl gI Z)<|G (Yi Z) ?_
 refine dZ (cr Z Z) Z Z Z (fun h55=> ?_) (fun h55=> ?_)
 have hall:(ms2.filter fun m=>!decide (wt<=(ck+n)-m.heard))=ms2:=JI I
 have hsl:((ms2.filter fun m=>!decide (wt<=(ck+n)-m.heard)).map Mem.a)=(ms.map Mem.a).filter fun m=>!uY (Gr.a ⟨ck,wt,gn,ms,mA,mC,os,oA,oC⟩) n m:=by rw[HW _ _ (fun _=>rfl),hma];rfl
 refine U<|ZT Z<|W<|Zr<|G (Zw aR H 1 Z Z Z)<|bI H 0 (#[J (ck+n),J (wt),J (gn),.slice mA2 ((ms2.filter fun m=>!decide (wt<=(ck+n)-m.heard)).length) mC2,.slice oA2 os.length oC2]) bD Z Z Z Z Z N N fun w10 H=>G (Wi Z)<|U<|Zt ?_
 have hT:qo (Gr.a ⟨ck,wt,gn,ms,mA,mC,os,oA,oC⟩) n p={Gr.a ⟨ck,wt,gn,ms,mA,mC,os,oA,oC⟩with clock:=ck+n}:=by unfold qo;rw[if_pos (by show((ms.map Mem.a).filter _).length=(ms.map Mem.a).length;rw[<-hsl,bF,bF];omega)];rfl
 rw[hT]
 rw[hall]at ho9
 exact cu (cs0:= #[J (ck+n),J (wt),J (gn),.slice mA2 (((ms2.filter fun m=>!decide (wt<=(ck+n)-m.heard))).length) mC2,.slice oA2 os.length oC2]) (v1:=J 0) Z aR Z (H.ent (i:=0) Z) Z Z ⟨⟨ck+n,wt,gn,ms2,mA2,mC2,os,oA2,oC2⟩,by rw[hall];rfl,by unfold Gr.a;dsimp only;rw[hma],rP.new (ga:=Gr.a ⟨ck+n,wt,gn,ms2,mA2,mC2,os,oA2,oC2⟩) ⟨rfl,ho9,hoo2,hmc2,hoc2,hpc2,H.forget (by rw[aB];exact .cons _ (.cons _ (au _))) (fun f hf=>by simp only[ay,ar];grind)⟩ (by dsimp only;omega) (by dsimp only;omega) (iY hma hmo)⟩
 have hsl:((ms2.filter fun m=>!decide (wt<=(ck+n)-m.heard)).map Mem.a)=(ms.map Mem.a).filter fun m=>!uY (Gr.a ⟨ck,wt,gn,ms,mA,mC,os,oA,oC⟩) n m:=by rw[HW _ _ (fun _=>rfl),hma];rfl
 refine U<|ZF Z<|Zk<|W<|Zr<|G (Zw aR H 1 Z Z Z)<|G (Yi Z)<|cE rN (AF (ck+n) wt gn (ms2.filter fun m=>!decide (wt<=(ck+n)-m.heard)) mA2 mC2 os oA2 oC2 p (H.perm (tI [(b6,.cells #[J (0),J (0),J (0),.slice none 0 0,.slice none 0 0] cK (0,0)),(b3,.cells #[J (ck+n),J (wt),J (gn),.slice mA2 ((ms2.filter fun m=>!decide (wt<=(ck+n)-m.heard)).length) mC2,.slice oA2 os.length oC2] cK (0,0))] L9 Lo).symm) ho9 I hp I I) Z Z ?_
 rintro _ w11 ⟨ms4,L4,rfl,ha4,ho4,hc4,H⟩
 replace H:=H.perm (tI [(b6,.cells #[J (0),J (0),J (0),.slice none 0 0,.slice none 0 0] cK (0,0)),(b3,.cells #[J (ck+n),J (wt),J (gn),.slice mA2 ((ms2.filter fun m=>!decide (wt<=(ck+n)-m.heard)).length) mC2,.slice oA2 os.length oC2] cK (0,0))] L4 Lo)
 rw[Pv]at ha4
 refine bI H 0 (#[J (ck+n),J (wt),J (gn+1),.slice mA2 ms4.length mC2,.slice oA2 os.length oC2]) bD Z Z Z Z Z N N fun w12 H=>G (Wi Z)<|U<|Zt ?_
 have hT:qo (Gr.a ⟨ck,wt,gn,ms,mA,mC,os,oA,oC⟩) n p=JW {Gr.a ⟨ck,wt,gn,ms,mA,mC,os,oA,oC⟩with clock:=ck+n,ms:=(ms.map Mem.a).filter fun m=>!uY (Gr.a ⟨ck,wt,gn,ms,mA,mC,os,oA,oC⟩) n m} p:=by unfold qo;rw[if_neg (by show¬ ((ms.map Mem.a).filter _).length=(ms.map Mem.a).length;rw[<-hsl,bF,bF];omega)];rfl
 rw[hT]
 exact cu (cs0:= #[J (ck+n),J (wt),J (gn+1),.slice mA2 ms4.length mC2,.slice oA2 os.length oC2]) (v1:=J 0) Z aR Z (H.ent (i:=0) Z) Z Z ⟨⟨ck+n,wt,gn+1,ms4,mA2,mC2,os,oA2,oC2⟩,rfl,by unfold Gr.a JW;dsimp only;rw[ha4,hsl];rfl,KI ha4 hl9 hp I ho4 hoo2 hoc2 hc4 (H.forget (by rw[aB];exact .cons _ (.cons _ (au _))) (fun f hf=>by simp only[ay,ar];grind))⟩
theorem ml {α:Type} {Y:fu α} {w0 w:World} {L:List (Nat×Obj)} {F:List cf} {lo hi:Nat} {A:Option Addr} {es:List α} (H:Hp w0 w L F) (hf:ee Y lo hi A es∈F):Rd Y 0 w.heap.size A es w:=by
 obtain⟨h1,h2,-⟩:=H.facts _ hf
 exact Rd.mono h1 (aV _) h2
def Pr (g:Gr) (i:Nat) (t:Mem):Gr:={g with ms:=g.ms.set i {t with heard:=g.clock}}
def uT (os:List mP) (part:Int):Int:=match os.find? fun o=>decide (o.part=part)with|some o=>o.at_|none=>0
def m0 (os:List mP) (part:Int):Nat:=(os.takeWhile fun o=>decide (o.part<part)).length
def hJ (os:List mP) (part at_:Int):List mP:=
 if(os[m0 os part]?).map mP.part=some part then os.set (m0 os part) ⟨part,at_⟩else os.take (m0 os part)++[⟨part,at_⟩]++os.drop (m0 os part)
theorem BN {α:Type} {f:α->Bool}: ∀ {l:List α} {k:Nat},(∀ x∈l.take k,f x=true)->(∀ x,l[k]? =some x->f x=false)->k<=l.length->(l.takeWhile f).length=k
 |[],k,_,_,h=>by simp at h;simp[h]
 |x::l,0,_,h2,_=>by rw[List.takeWhile_cons_of_neg (by rw[h2 x Z];decide)];rfl
 |x::l,k+1,h1,h2,h3=>by
  rw[List.takeWhile_cons_of_pos (h1 x (by simp)),bf,BN (k:=k) (fun y hy=>h1 y (by simp[hy])) h2 (by simpa using h3)]
theorem FV (es:List Int) (v:Int) (A:Option Addr) (c:Nat) (w:World) (hr:Rd bR 0 w.heap.size A es w) (hb:es.length<=1000000):di aa sX [.slice A es.length c,J v] w fun r w2=>(∃ k:Int,r=J k/\(v∈es↔0<=k)/\ -1<=k/\k<=1000000)/\Below w.heap.size w w2:=by
 refine aG sg Z Z ?_
 have H:=Hp.startRd hr
 refine W<|Zr<|G (Wi Z)<|U<|W<|W<|Zr<|G (Ys Z)<|G (bl fp Z)<|G (Yi Z)<|U<|Zb ?_
 refine bV (τ:=Nat) [4,5,8,9,10,11,12,13,14,15,16,17,18] (fun k=>[(8,J (k:Nat))]) (fun k w'=>k<=es.length/\v∉es.take k/\Hp w w' [] [ee bR 0 w.heap.size A es]) (fun k=>es.length-k) 0 ⟨by omega,by simp,H⟩ (ef Z) ?_
 rintro k ρ1 w1 ⟨hk,hno,H⟩
 show CW _ _ _ _ (dO (ij _ _ ρ1) [(8,J (k:Nat))]) w1
 refine W<|Zr ?_
 refine dZ (cI Z Z) Z Z Z (fun h9=> ?_) (fun h9=> ?_)
 obtain⟨x,hx⟩: ∃ x,es[k]? =some x:=⟨_,ai I⟩
 refine U<|W<|ZT Z<|Zk<|W<|Zb<|W<|Zr<|G (Yi Z)<|G (Wi Z)<|U<|W<|Zr<|G (Yi Z)<|G (Ys Z)<|G (Yi Z)<|rE H 0 Z bj Z Z I I Z fun bq2 o2 x2 e2=> ?_
 obtain rfl:x=x2:=by have:=e2.at_;rw[hx]at this;exact aZ this
 refine G (bd al Z (e2.cl 0 _ Z)) ?_
 refine dZ (cr Z Z) Z Z Z (fun h16=> ?_) (fun h16=> ?_)
 refine U<|ZT Z<|W<|Zr<|G (Yi Z)<|G (Wi Z)<|U<|Zt ?_
 exact cU (v:=J (k:Nat)) Z Z ⟨⟨(k:Nat),rfl,⟨fun _=>by omega,fun _=>by rw[h16];exact ab hx⟩,by omega,by omega⟩,H.below⟩
 refine U<|ZF Z<|Zk<|Zr<|G (bn Z Z I I)<|G (Yi Z)<|U ?_
 exact⟨k+1,⟨by omega,by rw[ed hx];simp only[ar,aq];rintro(h|h);exact hno h;exact h16 h,H⟩,ef Z,Qg,by show es.length- (k+1)<es.length-k;omega⟩
 refine U<|W<|ZF Z<|Zx<|W<|Zr<|G (Wi Z)<|U<|Zt ?_
 have hke:k=es.length:=by omega
 rw[hke,br]at hno
 exact cU (v:=J (-1)) Z Z ⟨⟨-1,rfl,⟨fun h=>absurd h hno,fun h=>absurd h (by decide)⟩,by omega,by omega⟩,H.below⟩
theorem lU (es:List Int) (v:Int) (A:Option Addr) (c:Nat) (w:World) (hr:Rd bR 0 w.heap.size A es w) (hb:es.length<=1000000):di aa qB [.slice A es.length c,J v] w fun r w2=>r=.bool (decide (v∈es))/\Below w.heap.size w w2:=by
 refine aG qb Z Z ?_
 have H:=Hp.startRd hr
 refine W<|Zr<|G (Wb Z)<|U<|W<|Zr<|G (Ys Z)<|G (Yi Z)<|cE sB (FV es v A c _ (H.rd0 0 Z) hb) Z Z ?_
 rintro _ w1 ⟨⟨k,rfl,hk,-,-⟩,hb2⟩;replace H:=H.later hb2;clear hb2
 refine G (pN Z Z)<|G (Wb Z)<|U<|Zt ?_
 exact cU (v:=.bool (decide (0<=k))) Z Z ⟨by rw[decide_eq_decide.2 hk.symm],H.below⟩
theorem MG (g:Gr) (s:ByteArray) (gn_:Int) (w:World) (h:g.rd 0 w.heap.size w) (hok:ma g=true) (hn:bC s=true) (hi:qD g s= -1):di aa p9 [g.v,.string s,J gn_] w fun v w2=>v=.tuple #[.agg #[J 0,J 0,J 0,.slice none 0 0,.slice none 0 0],J 5]/\Below w.heap.size w w2:=by
 refine aG ss Z Z ?_
 have hmC:=h.mC
 have hoC:=h.oC
 have hfew:=h.few
 have hfp:=h.fewP
 have H:=Hp.startGr h
 obtain⟨ck,wt,gn,ms,mA,mC,os,oA,oC⟩:=g
 dsimp only at hmC hoC hfew hfp H
 show CW _ _ _ _ (args [.agg #[J (ck),J (wt),J (gn),.slice mA ms.length mC,.slice oA os.length oC],.string (s),J (gn_)]) w
 obtain⟨⟨⟨k1,k2⟩,k3,k4,⟨k5,k6⟩,k7,k8⟩,⟨hmo,hap⟩,hof,hor⟩:=dC.1 hok
 dsimp only at k1 k2 k3 k4 k5 k6 k7 k8 hmo
 refine W<|Zr<|gU H Z Z fun w1 b3 H=>fc H eo Z fun w2 b6 H=>G (Wi Z)<|U<|W<|Zr<|G (Zw aR H 1 Z Z Z)<|G (Yt Z)<|G (Yi Z)<|cE iy (EX ⟨ck,wt,gn,ms,mA,mC,os,oA,oC⟩ s gn_ _ ⟨H.rd0 0 Z,fun m hm=>Bv H 1 Z hm,H.rd0 2 Z,hmC,hoC,hfew,hfp⟩ hok hn hi) Z Z ?_
 rintro _ w3 ⟨rfl,hb⟩;replace H:=H.later hb;clear hb
 refine G (Yu Z)<|G (Xa Z Z)<|G (Xi Z Z)<|G (Xi Z Z)<|bI H 1 (#[J (0),J (0),J (0),.slice none 0 0,.slice none 0 0]) bD Z Z Z Z Z N N fun w4 H=>G (Wi Z)<|G (Wi Z)<|U<|W<|W<|Zr<|G (Yi Z)<|G (l9 Z Z (by decide))<|U<|ZT Z<|W<|Zr<|G (bp (cs:= #[J (0),J (0),J (0),.slice none 0 0,.slice none 0 0]) ko eo N)<|G (Yi Z)<|bI H 0 (#[J (0),J (0),J (0),.slice none 0 0,.slice none 0 0]) bD Z Z Z Z Z N N fun w5 H=>G (Wi Z)<|U<|Zt ?_
 exact cu (cs0:= #[J 0,J 0,J 0,.slice none 0 0,.slice none 0 0]) (v1:=J 5) Z aR Z (H.ent (i:=0) Z) Z Z ⟨rfl,H.below⟩
theorem JT (g:Gr) (s:ByteArray) (gn_:Int) (w:World) (h:g.rd 0 w.heap.size w) (hok:ma g=true) (hn:bC s=true) (i:Nat) (hi:qD g s=i) (hg:g.gen≠gn_):di aa p9 [g.v,.string s,J gn_] w fun v w2=>v=.tuple #[.agg #[J 0,J 0,J 0,.slice none 0 0,.slice none 0 0],J 10]/\Below w.heap.size w w2:=by
 refine aG ss Z Z ?_
 have hmC:=h.mC
 have hoC:=h.oC
 have hfew:=h.few
 have hfp:=h.fewP
 have H:=Hp.startGr h
 obtain⟨ck,wt,gn,ms,mA,mC,os,oA,oC⟩:=g
 dsimp only at hmC hoC hfew hfp H
 show CW _ _ _ _ (args [.agg #[J (ck),J (wt),J (gn),.slice mA ms.length mC,.slice oA os.length oC],.string (s),J (gn_)]) w
 obtain⟨⟨⟨k1,k2⟩,k3,k4,⟨k5,k6⟩,k7,k8⟩,⟨hmo,hap⟩,hof,hor⟩:=dC.1 hok
 dsimp only at k1 k2 k3 k4 k5 k6 k7 k8 hmo
 refine W<|Zr<|gU H Z Z fun w1 b3 H=>fc H eo Z fun w2 b6 H=>G (Wi Z)<|U<|W<|Zr<|G (Zw aR H 1 Z Z Z)<|G (Yt Z)<|G (Yi Z)<|cE iy (CK ⟨ck,wt,gn,ms,mA,mC,os,oA,oC⟩ s gn_ _ ⟨H.rd0 0 Z,fun m hm=>Bv H 1 Z hm,H.rd0 2 Z,hmC,hoC,hfew,hfp⟩ hok hn i hi hg) Z Z ?_
 rintro _ w3 ⟨rfl,hb⟩;replace H:=H.later hb;clear hb
 refine G (Yu Z)<|G (Xa Z Z)<|G (Xi Z Z)<|G (Xi Z Z)<|bI H 1 (#[J (0),J (0),J (0),.slice none 0 0,.slice none 0 0]) bD Z Z Z Z Z N N fun w4 H=>G (Wi Z)<|G (Wi Z)<|U<|W<|W<|Zr<|G (Yi Z)<|G (l9 Z Z (by decide))<|U<|ZT Z<|W<|Zr<|G (bp (cs:= #[J (0),J (0),J (0),.slice none 0 0,.slice none 0 0]) ko eo N)<|G (Yi Z)<|bI H 0 (#[J (0),J (0),J (0),.slice none 0 0,.slice none 0 0]) bD Z Z Z Z Z N N fun w5 H=>G (Wi Z)<|U<|Zt ?_
 exact cu (cs0:= #[J 0,J 0,J 0,.slice none 0 0,.slice none 0 0]) (v1:=J 10) Z aR Z (H.ent (i:=0) Z) Z Z ⟨rfl,H.below⟩
theorem Ri (g:Gr) (s:ByteArray) (gn_:Int) (w:World) (h:g.rd 0 w.heap.size w) (hok:ma g=true) (hn:bC s=true) (i:Nat) (t:Mem) (hi:qD g s=i) (ht:g.ms[i]? =some t) (hg:g.gen=gn_):di aa p9 [g.v,.string s,J gn_] w fun v w2=> ∃ g':Gr,v=.tuple #[g'.v,J 0]/\g'.a=Pr g.a i t.a/\AH w w2 g':=by
 refine aG ss Z Z ?_
 have hmC:=h.mC
 have hoC:=h.oC
 have hfew:=h.few
 have hfp:=h.fewP
 have H:=Hp.startGr h
 obtain⟨ck,wt,gn,ms,mA,mC,os,oA,oC⟩:=g
 dsimp only at hmC hoC hfew hfp H
 show CW _ _ _ _ (args [.agg #[J (ck),J (wt),J (gn),.slice mA ms.length mC,.slice oA os.length oC],.string (s),J (gn_)]) w
 obtain⟨⟨⟨k1,k2⟩,k3,k4,⟨k5,k6⟩,k7,k8⟩,⟨hmo,hap⟩,hof,hor⟩:=dC.1 hok
 dsimp only at k1 k2 k3 k4 k5 k6 k7 k8 hmo
 dsimp only at ht
 refine W<|Zr<|gU H Z Z fun w1 b3 H=>fc H eo Z fun w2 b6 H=>G (Wi Z)<|U<|W<|Zr<|G (Zw aR H 1 Z Z Z)<|G (Yt Z)<|G (Yi Z)<|cE iy (Bz ⟨ck,wt,gn,ms,mA,mC,os,oA,oC⟩ s gn_ _ ⟨H.rd0 0 Z,fun m hm=>Bv H 1 Z hm,H.rd0 2 Z,hmC,hoC,hfew,hfp⟩ hok hn i hi hg) Z Z ?_
 rintro _ w3 ⟨⟨ck2,wt2,gn2,ms2,mA2,mC2,os2,oA2,oC2⟩,Lm,Lo,rfl,ha2,ho2,hoo2,hmc2,hoc2,hpc2,hj2⟩
 have hlo2:=H.size
 replace H:=Hp.joinG H hj2 (fun m hm=>(hpc2 m hm).2);clear hj2
 simp only[Gr.a,Gr.mk.injEq]at ha2
 obtain⟨e1,e2,e3,hma,-,-,e4,-,-⟩:=ha2
 obtain rfl:ck=ck2:=e1.symm
 obtain rfl:wt=wt2:=e2.symm
 obtain rfl:gn=gn2:=e3.symm
 obtain rfl:os=os2:=e4.symm
 dsimp only at ho2 hoo2 hmc2 hoc2 hpc2 H
 replace hpc2: ∀ m∈ms2,m.parts.length<=m.cap/\w.heap.size<=m.lo:=fun m hm=>⟨(hpc2 m hm).1,aW hlo2 (hpc2 m hm).2⟩
 have hml2:ms2.length=ms.length:=by have:=congrArg cY hma;simpa using this
 refine G (Yu Z)<|G (Xa Z Z)<|G (Xi Z Z)<|G (Xi Z Z)<|bI H 1 (#[J (ck),J (wt),J (gn),.slice mA2 ms2.length mC2,.slice oA2 os.length oC2]) bD Z Z Z Z Z N N fun w4 H=>G (Wi Z)<|G (Wi Z)<|U<|W<|W<|Zr<|G (Yi Z)<|G (cj Z Z Z)<|U<|ZF Z<|Zk<|W ?_
 obtain⟨t2,ht2,hta⟩:=Cj hma ht
 have hl2:=(bZ ht2).1
 obtain⟨g,cur,rfl,rfl,row⟩:=ho2.row I
 refine Zr<|G (Zf dN Z)<|G (Zd dv H 1 Z Z Z)<|G (Yi Z)<|G (Zf jR Z)<|G (Zd al H 1 Z Z Z)<|G (cL eM Z Z (by first|omega|(simp only[ae];omega)))<|G (Zf rI Z)<|nt H 2 ({t2 with heard:=ck}) bN row ht2 1 Z Z Z Z Z Z N fun w6 cur5 row5 H=> ?_
 have hs7:(ms2.set i ({t2 with heard:=ck}))[i]? =some ({t2 with heard:=ck}):=ak (bZ ht2).1
 refine U<|W<|Zr<|G (Zw aR H 1 Z Z Z)<|bI H 0 (#[J (ck),J (wt),J (gn),.slice (Qd g) ms2.length mC2,.slice oA2 os.length oC2]) bD Z Z Z Z Z N N fun w8 H=>G (Wi Z)<|U<|Zt ?_
 have hmf:(ms2.set i {t2 with heard:=ck}).map nJ=ms2.map nJ:=by rw[cO];apply dg;intro j;rw[lQ];split;(rename_i hj;subst hj;rw[aJ,ht2,if_pos (by simpa using hl2)];rfl);rfl
 have hma3:(ms2.set i {t2 with heard:=ck}).map Mem.a=(ms.map Mem.a).set i {t.a with heard:=ck}:=by rw[cO,hma];congr 1;exact congrArg (fun x:Mem=>({x with heard:=ck}:Mem)) hta
 have hpl:=iY hma hmo
 have hown:=d8.own (g:=g) (e:=de) row5
 exact cu (cs0:= #[J (ck),J (wt),J (gn),.slice (Qd g) ms2.length mC2,.slice oA2 os.length oC2]) (v1:=J 0) Z aR Z (H.ent (i:=0) Z) Z Z ⟨⟨ck,wt,gn,ms2.set i {t2 with heard:=ck},some ⟨g,0,none⟩,mC2,os,oA2,oC2⟩,by unfold Gr.v Gr.c;dsimp only;rw[ae],by unfold Gr.a Pr;dsimp only;rw[hma3],rP.new (ga:=Gr.a ⟨ck,wt,gn,ms2.set i {t2 with heard:=ck},some ⟨g,0,none⟩,mC2,os,oA2,oC2⟩) ⟨rfl,hown,hoo2,by dsimp only;rw[ae];exact hmc2,hoc2,fun m hm=>(by rcases aD hm with hm|rfl;exact hpc2 m hm;exact hpc2 t2 (ab ht2)),H.forget (.cons _ (.cons _ (au _))) (fun f hf=>by dsimp only at hf;rw[hmf]at hf;exact ce _ hf)⟩ (by dsimp only;rw[ae];omega) (by dsimp only;omega) (fun m hm=>(by rcases aD hm with hm|rfl;exact hpl m hm;exact hpl t2 (ab ht2)))⟩
theorem KT {os:List mP} {part:Int} {k:Nat} {o:mP} (ho:os[k]? =some o) (hp:o.part=part) (hno: ∀ x∈os.take k,x.part≠part):uT os part=o.at_:=by
 have:(os.find? fun o=>decide (o.part=part))=some o:=by
  rw[<-g7 k os,List.find?_append,Dy.2 fun x hx=>by simpa using hno x hx,du ho,List.find?_cons_of_pos (by simpa using hp)]
  rfl
 unfold uT
 rw[this]
theorem IJ {os:List mP} {part:Int} (hno: ∀ x∈os,x.part≠part):uT os part=0:=by
 unfold uT
 rw[Dy.2 fun x hx=>by simpa using hno x hx]
theorem nH (os:List mP) (part at_:Int):(hJ os part at_).length<=os.length+1:=by
 unfold hJ
 split
 rw[ae];omega
 rw[av,av,aI,dL,bv];omega
theorem II (g:Gr) (s:ByteArray) (part:Int) (w:World) (h:g.rd 0 w.heap.size w) (hok:ma g=true) (hn:bC s=true) (hi:qD g s= -1):di aa oo [g.v,.string s,J part] w fun v w2=>v=.tuple #[J 0,J 5]/\Below w.heap.size w w2:=by
 refine aG qH Z Z ?_
 have hmC:=h.mC
 have hoC:=h.oC
 have hfew:=h.few
 have hfp:=h.fewP
 have H:=Hp.startGr h
 obtain⟨ck,wt,gn,ms,mA,mC,os,oA,oC⟩:=g
 dsimp only at hmC hoC hfew hfp H
 show CW _ _ _ _ (args [.agg #[J (ck),J (wt),J (gn),.slice mA ms.length mC,.slice oA os.length oC],.string (s),J (part)]) w
 obtain⟨⟨⟨k1,k2⟩,k3,k4,⟨k5,k6⟩,k7,k8⟩,⟨hmo,hap⟩,hof,hor⟩:=dC.1 hok
 dsimp only at k1 k2 k3 k4 k5 k6 k7 k8 hmo
 refine W<|Zr<|gU H Z Z fun w1 b3 H=>G (Wi Z)<|G (Wi Z)<|U<|W<|Zr<|G (Zw aR H 0 Z Z Z)<|G (Yt Z)<|cE gE (m5 ⟨ck,wt,gn,ms,mA,mC,os,oA,oC⟩ s _ ⟨H.rd0 0 Z,fun m hm=>Bv H 1 Z hm,H.rd0 2 Z,hmC,hoC,hfew,hfp⟩ hok hn) Z Z ?_
 rintro _ w2 ⟨⟨ck2,wt2,gn2,ms2,mA2,mC2,os2,oA2,oC2⟩,Lm,Lo,rfl,ha2,ho2,hoo2,hmc2,hoc2,hpc2,hj2⟩
 have hlo2:=H.size
 replace H:=Hp.joinG H hj2 (fun m hm=>(hpc2 m hm).2);clear hj2
 simp only[Gr.a,Gr.mk.injEq]at ha2
 obtain⟨e1,e2,e3,hma,-,-,e4,-,-⟩:=ha2
 obtain rfl:ck=ck2:=e1.symm
 obtain rfl:wt=wt2:=e2.symm
 obtain rfl:gn=gn2:=e3.symm
 obtain rfl:os=os2:=e4.symm
 dsimp only at ho2 hoo2 hmc2 hoc2 hpc2 H
 replace hpc2: ∀ m∈ms2,m.parts.length<=m.cap/\w.heap.size<=m.lo:=fun m hm=>⟨(hpc2 m hm).1,aW hlo2 (hpc2 m hm).2⟩
 have hml2:ms2.length=ms.length:=by have:=congrArg cY hma;simpa using this
 rw[hi]
 refine G (Yu Z)<|G (Xa Z Z)<|G (Xi Z Z)<|G (Xi Z Z)<|bI H 0 (#[J (ck),J (wt),J (gn),.slice mA2 ms2.length mC2,.slice oA2 os.length oC2]) bD Z Z Z Z Z N N fun w3 H=>G (Wi Z)<|G (Wi Z)<|U<|W<|Zb<|W<|Zr<|G (Yi Z)<|G (cj Z Z Z)<|G (Wb Z)<|U<|ZF Z<|W<|Zr<|G (Yi Z)<|G (xB Z Z (by decide))<|G (Wb Z)<|U<|ZT Z<|W<|Zr<|G (Wi Z)<|G (Wi Z)<|U<|Zt ?_
 exact mK (v:=J 0) (v2:=J 5) Z Z Z ⟨rfl,H.below⟩
theorem GN (g:Gr) (s:ByteArray) (part:Int) (w:World) (h:g.rd 0 w.heap.size w) (hok:ma g=true) (hn:bC s=true) (i:Nat) (t:Mem) (hi:qD g s=i) (ht:g.ms[i]? =some t) (hpt:part∉t.parts):di aa oo [g.v,.string s,J part] w fun v w2=>v=.tuple #[J 0,J 12]/\Below w.heap.size w w2:=by
 refine aG qH Z Z ?_
 have hmC:=h.mC
 have hoC:=h.oC
 have hfew:=h.few
 have hfp:=h.fewP
 have H:=Hp.startGr h
 obtain⟨ck,wt,gn,ms,mA,mC,os,oA,oC⟩:=g
 dsimp only at hmC hoC hfew hfp H
 show CW _ _ _ _ (args [.agg #[J (ck),J (wt),J (gn),.slice mA ms.length mC,.slice oA os.length oC],.string (s),J (part)]) w
 obtain⟨⟨⟨k1,k2⟩,k3,k4,⟨k5,k6⟩,k7,k8⟩,⟨hmo,hap⟩,hof,hor⟩:=dC.1 hok
 dsimp only at k1 k2 k3 k4 k5 k6 k7 k8 hmo
 dsimp only at ht
 refine W<|Zr<|gU H Z Z fun w1 b3 H=>G (Wi Z)<|G (Wi Z)<|U<|W<|Zr<|G (Zw aR H 0 Z Z Z)<|G (Yt Z)<|cE gE (m5 ⟨ck,wt,gn,ms,mA,mC,os,oA,oC⟩ s _ ⟨H.rd0 0 Z,fun m hm=>Bv H 1 Z hm,H.rd0 2 Z,hmC,hoC,hfew,hfp⟩ hok hn) Z Z ?_
 rintro _ w2 ⟨⟨ck2,wt2,gn2,ms2,mA2,mC2,os2,oA2,oC2⟩,Lm,Lo,rfl,ha2,ho2,hoo2,hmc2,hoc2,hpc2,hj2⟩
 have hlo2:=H.size
 replace H:=Hp.joinG H hj2 (fun m hm=>(hpc2 m hm).2);clear hj2
 simp only[Gr.a,Gr.mk.injEq]at ha2
 obtain⟨e1,e2,e3,hma,-,-,e4,-,-⟩:=ha2
 obtain rfl:ck=ck2:=e1.symm
 obtain rfl:wt=wt2:=e2.symm
 obtain rfl:gn=gn2:=e3.symm
 obtain rfl:os=os2:=e4.symm
 dsimp only at ho2 hoo2 hmc2 hoc2 hpc2 H
 replace hpc2: ∀ m∈ms2,m.parts.length<=m.cap/\w.heap.size<=m.lo:=fun m hm=>⟨(hpc2 m hm).1,aW hlo2 (hpc2 m hm).2⟩
 have hml2:ms2.length=ms.length:=by have:=congrArg cY hma;simpa using this
 rw[hi]
 refine G (Yu Z)<|G (Xa Z Z)<|G (Xi Z Z)<|G (Xi Z Z)<|bI H 0 (#[J (ck),J (wt),J (gn),.slice mA2 ms2.length mC2,.slice oA2 os.length oC2]) bD Z Z Z Z Z N N fun w3 H=>G (Wi Z)<|G (Wi Z)<|U<|W<|Zb<|W<|Zr<|G (Yi Z)<|G (cj Z Z Z)<|G (Wb Z)<|U<|ZF Z<|W<|Zr<|G (Yi Z)<|G (cV Z Z I)<|G (Wb Z)<|U<|ZF Z<|W ?_
 obtain⟨t2,ht2,hta⟩:=Cj hma ht
 have hl2:=(bZ ht2).1
 obtain⟨g,cur,rfl,rfl,row⟩:=ho2.row I
 have htp:t2.parts=t.parts:=(congrArg Mem.parts hta:t2.a.parts=t.a.parts)
 have hpl:=iY hma hmo t2 (ab ht2)
 have hrp:=ml H (show nJ t2∈_ from ce _ (bM (ab ht2)))
 refine Zr<|G (Zf dN Z)<|G (Zd dv H 0 Z Z Z)<|G (Yi Z)<|G (cL eM Z Z (by first|omega|(simp only[ae];omega)))<|G (Zf i9 Z)<|G (bW cP row ht2 2 Z (H.ent (i:=1) Z) Z)<|G (Yi Z)<|cE fP (lU t2.parts part t2.A t2.cap _ (ml H (show nJ t2∈_ from by first|exact ce _ (bM (ab ht2))|simp[ab ht2])) I) Z Z ?_
 rw[htp,decide_eq_false hpt]
 rintro _ w4 ⟨rfl,hb⟩;replace H:=H.later hb;clear hb
 refine G (d9 Z)<|G (Wb Z)<|U<|ZT Z<|W<|Zr<|G (Wi Z)<|G (Wi Z)<|U<|Zt ?_
 exact mK (v:=J 0) (v2:=J 12) Z Z Z ⟨rfl,H.below⟩
theorem M9 (g:Gr) (s:ByteArray) (part:Int) (w:World) (h:g.rd 0 w.heap.size w) (hok:ma g=true) (hn:bC s=true) (i:Nat) (t:Mem) (hi:qD g s=i) (ht:g.ms[i]? =some t) (hpt:part∈t.parts):di aa oo [g.v,.string s,J part] w fun v w2=>v=.tuple #[J (uT g.os part),J 0]/\Below w.heap.size w w2:=by
 refine aG qH Z Z ?_
 have hmC:=h.mC
 have hoC:=h.oC
 have hfew:=h.few
 have hfp:=h.fewP
 have H:=Hp.startGr h
 obtain⟨ck,wt,gn,ms,mA,mC,os,oA,oC⟩:=g
 dsimp only at hmC hoC hfew hfp H
 show CW _ _ _ _ (args [.agg #[J (ck),J (wt),J (gn),.slice mA ms.length mC,.slice oA os.length oC],.string (s),J (part)]) w
 obtain⟨⟨⟨k1,k2⟩,k3,k4,⟨k5,k6⟩,k7,k8⟩,⟨hmo,hap⟩,hof,hor⟩:=dC.1 hok
 dsimp only at k1 k2 k3 k4 k5 k6 k7 k8 hmo
 dsimp only at ht
 refine W<|Zr<|gU H Z Z fun w1 b3 H=>G (Wi Z)<|G (Wi Z)<|U<|W<|Zr<|G (Zw aR H 0 Z Z Z)<|G (Yt Z)<|cE gE (m5 ⟨ck,wt,gn,ms,mA,mC,os,oA,oC⟩ s _ ⟨H.rd0 0 Z,fun m hm=>Bv H 1 Z hm,H.rd0 2 Z,hmC,hoC,hfew,hfp⟩ hok hn) Z Z ?_
 rintro _ w2 ⟨⟨ck2,wt2,gn2,ms2,mA2,mC2,os2,oA2,oC2⟩,Lm,Lo,rfl,ha2,ho2,hoo2,hmc2,hoc2,hpc2,hj2⟩
 have hlo2:=H.size
 replace H:=Hp.joinG H hj2 (fun m hm=>(hpc2 m hm).2);clear hj2
 simp only[Gr.a,Gr.mk.injEq]at ha2
 obtain⟨e1,e2,e3,hma,-,-,e4,-,-⟩:=ha2
 obtain rfl:ck=ck2:=e1.symm
 obtain rfl:wt=wt2:=e2.symm
 obtain rfl:gn=gn2:=e3.symm
 obtain rfl:os=os2:=e4.symm
 dsimp only at ho2 hoo2 hmc2 hoc2 hpc2 H
 replace hpc2: ∀ m∈ms2,m.parts.length<=m.cap/\w.heap.size<=m.lo:=fun m hm=>⟨(hpc2 m hm).1,aW hlo2 (hpc2 m hm).2⟩
 have hml2:ms2.length=ms.length:=by have:=congrArg cY hma;simpa using this
 rw[hi]
 refine G (Yu Z)<|G (Xa Z Z)<|G (Xi Z Z)<|G (Xi Z Z)<|bI H 0 (#[J (ck),J (wt),J (gn),.slice mA2 ms2.length mC2,.slice oA2 os.length oC2]) bD Z Z Z Z Z N N fun w3 H=>G (Wi Z)<|G (Wi Z)<|U<|W<|Zb<|W<|Zr<|G (Yi Z)<|G (cj Z Z Z)<|G (Wb Z)<|U<|ZF Z<|W<|Zr<|G (Yi Z)<|G (cV Z Z I)<|G (Wb Z)<|U<|ZF Z<|W ?_
 obtain⟨t2,ht2,hta⟩:=Cj hma ht
 have hl2:=(bZ ht2).1
 obtain⟨g,cur,rfl,rfl,row⟩:=ho2.row I
 have htp:t2.parts=t.parts:=(congrArg Mem.parts hta:t2.a.parts=t.a.parts)
 have hpl:=iY hma hmo t2 (ab ht2)
 have hrp:=ml H (show nJ t2∈_ from ce _ (bM (ab ht2)))
 refine Zr<|G (Zf dN Z)<|G (Zd dv H 0 Z Z Z)<|G (Yi Z)<|G (cL eM Z Z (by first|omega|(simp only[ae];omega)))<|G (Zf i9 Z)<|G (bW cP row ht2 2 Z (H.ent (i:=1) Z) Z)<|G (Yi Z)<|cE fP (lU t2.parts part t2.A t2.cap _ (ml H (show nJ t2∈_ from by first|exact ce _ (bM (ab ht2))|simp[ab ht2])) I) Z Z ?_
 rw[htp,decide_eq_true hpt]
 rintro _ w4 ⟨rfl,hb⟩;replace H:=H.later hb;clear hb
 refine G (d9 Z)<|G (Wb Z)<|U<|ZF Z<|Zk<|W<|W ?_
 obtain⟨lo3,hi3,H⟩:=Hp.sealO (K:=[(b3,.cells #[J (ck),J (wt),J (gn),.slice (Qd g) ms2.length mC2,.slice oA2 os.length oC2] cK (0,0)),(g,.cells cur de (0,0))]) (M:=[]) (by simpa using H) hoo2
 rw[aP]at H
 refine Zr<|G (Zf d7 Z)<|G (Zd eK H 0 Z Z Z)<|G (bl ir Z)<|G (Yi Z)<|U<|Zb ?_
 refine bV (τ:=Nat) [6,7,11,39,40,41,42,43,44,45,46,47,48,49] (fun k=>[(39,J (k:Nat))]) (fun k w'=>k<=os.length/\(∀ x∈os.take k,x.part≠part)/\Hp w w' [(b3,.cells #[J (ck),J (wt),J (gn),.slice (Qd g) ms2.length mC2,.slice oA2 os.length oC2] cK (0,0)),(g,.cells cur de (0,0))] (ee gm lo3 hi3 oA2 os::([ee j8 0 w.heap.size mA ms,KQ 0 w.heap.size ms,ee gm 0 w.heap.size oA os]++ms2.map nJ))) (fun k=>os.length-k) 0 ⟨by omega,by simp,H⟩ (ef Z) ?_
 rintro k ρ1 w5 ⟨hk,hno,H⟩
 show CW _ _ _ _ (dO (ij _ _ ρ1) [(39,J (k:Nat))]) w5
 refine W<|Zr ?_
 refine dZ (cI Z Z) Z Z Z (fun h40=> ?_) (fun h40=> ?_)
 obtain⟨o,ho⟩: ∃ o,os[k]? =some o:=⟨_,ai I⟩
 refine U<|W<|ZT Z<|Zk<|W<|Zb<|W<|Zr<|rE H 0 Z da Z Z I I Z fun bq6 o6 x6 e6=> ?_
 obtain rfl:o=x6:=by have:=e6.at_;rw[ho]at this;exact aZ this
 refine G (jF (xs:=mP.c o) Dj Z Z e6.cl)<|fc H lz Z fun w7 b11 H=>bI H 0 (#[J (o.part),J (o.at_)]) BV Z Z Z Z Z N N fun w8 H=>U<|W<|Zr<|G (Zf jH Z)<|G (Zd al H 0 Z Z Z)<|G (Yi Z) ?_
 refine dZ (cr Z Z) Z Z Z (fun h46=> ?_) (fun h46=> ?_)
 refine U<|ZT Z<|W<|Zr<|G (Zf oT Z)<|G (Zd al H 0 Z Z Z)<|G (Wi Z)<|G (Wi Z)<|U<|Zt ?_
 exact mK (v:=J o.at_) (v2:=J 0) Z Z Z ⟨by rw[KT ho h46 hno],H.below⟩
 refine U<|ZF Z<|Zk<|Zr<|G (bn Z Z I I)<|G (Yi Z)<|U ?_
 exact⟨k+1,⟨by omega,by rw[ed ho];intro x hx;rcases ar.1 hx with hx|hx;exact hno x hx;rw[aq.1 hx];exact h46,H.forget (.cons _ (au _)) (fun _ h=>h)⟩,ef Z,Qg,by show os.length- (k+1)<os.length-k;omega⟩
 refine U<|W<|ZF Z<|Zx<|W<|Zr<|G (Wi Z)<|G (Wi Z)<|U<|Zt ?_
 rw[show k=os.length by omega,br]at hno
 exact mK (v:=J 0) (v2:=J 0) Z Z Z ⟨by rw[IJ hno],H.below⟩
theorem IR (g:Gr) (s:ByteArray) (gn_ part at_:Int) (w:World) (h:g.rd 0 w.heap.size w) (hok:ma g=true) (hn:bC s=true) (hi:qD g s= -1):di aa j5 [g.v,.string s,J gn_,J part,J at_] w fun v w2=>v=.tuple #[.agg #[J 0,J 0,J 0,.slice none 0 0,.slice none 0 0],J 5]/\Below w.heap.size w w2:=by
 refine aG kD Z Z ?_
 have hmC:=h.mC
 have hoC:=h.oC
 have hfew:=h.few
 have hfp:=h.fewP
 have H:=Hp.startGr h
 obtain⟨ck,wt,gn,ms,mA,mC,os,oA,oC⟩:=g
 dsimp only at hmC hoC hfew hfp H
 show CW _ _ _ _ (args [.agg #[J (ck),J (wt),J (gn),.slice mA ms.length mC,.slice oA os.length oC],.string (s),J (gn_),J (part),J (at_)]) w
 obtain⟨⟨⟨k1,k2⟩,k3,k4,⟨k5,k6⟩,k7,k8⟩,⟨hmo,hap⟩,hof,hor⟩:=dC.1 hok
 dsimp only at k1 k2 k3 k4 k5 k6 k7 k8 hmo
 refine W<|Zr<|gU H Z Z fun w1 b5 H=>fc H eo Z fun w2 b10 H=>G (Wi Z)<|U<|W<|Zr<|G (Zw aR H 1 Z Z Z)<|G (Yt Z)<|G (Yi Z)<|cE iy (EX ⟨ck,wt,gn,ms,mA,mC,os,oA,oC⟩ s gn_ _ ⟨H.rd0 0 Z,fun m hm=>Bv H 1 Z hm,H.rd0 2 Z,hmC,hoC,hfew,hfp⟩ hok hn hi) Z Z ?_
 rintro _ w3 ⟨rfl,hb⟩;replace H:=H.later hb;clear hb
 refine G (Yu Z)<|G (Xa Z Z)<|G (Xi Z Z)<|G (Xi Z Z)<|bI H 1 (#[J (0),J (0),J (0),.slice none 0 0,.slice none 0 0]) bD Z Z Z Z Z N N fun w4 H=>G (Wi Z)<|G (Wi Z)<|U<|W<|Zb<|W<|Zr<|G (Yi Z)<|G (l9 Z Z (by decide))<|G (Wb Z)<|U<|ZT Z<|W<|Zr<|G (bp (cs:= #[J (0),J (0),J (0),.slice none 0 0,.slice none 0 0]) ko eo N)<|G (Yi Z)<|bI H 0 (#[J (0),J (0),J (0),.slice none 0 0,.slice none 0 0]) bD Z Z Z Z Z N N fun w5 H=>G (Wi Z)<|U<|Zt ?_
 exact cu (cs0:= #[J 0,J 0,J 0,.slice none 0 0,.slice none 0 0]) (v1:=J 5) Z aR Z (H.ent (i:=0) Z) Z Z ⟨rfl,H.below⟩
theorem GY (g:Gr) (s:ByteArray) (gn_ part at_:Int) (w:World) (h:g.rd 0 w.heap.size w) (hok:ma g=true) (hn:bC s=true) (i:Nat) (hi:qD g s=i) (hg:g.gen≠gn_):di aa j5 [g.v,.string s,J gn_,J part,J at_] w fun v w2=>v=.tuple #[.agg #[J 0,J 0,J 0,.slice none 0 0,.slice none 0 0],J 10]/\Below w.heap.size w w2:=by
 refine aG kD Z Z ?_
 have hmC:=h.mC
 have hoC:=h.oC
 have hfew:=h.few
 have hfp:=h.fewP
 have H:=Hp.startGr h
 obtain⟨ck,wt,gn,ms,mA,mC,os,oA,oC⟩:=g
 dsimp only at hmC hoC hfew hfp H
 show CW _ _ _ _ (args [.agg #[J (ck),J (wt),J (gn),.slice mA ms.length mC,.slice oA os.length oC],.string (s),J (gn_),J (part),J (at_)]) w
 obtain⟨⟨⟨k1,k2⟩,k3,k4,⟨k5,k6⟩,k7,k8⟩,⟨hmo,hap⟩,hof,hor⟩:=dC.1 hok
 dsimp only at k1 k2 k3 k4 k5 k6 k7 k8 hmo
 refine W<|Zr<|gU H Z Z fun w1 b5 H=>fc H eo Z fun w2 b10 H=>G (Wi Z)<|U<|W<|Zr<|G (Zw aR H 1 Z Z Z)<|G (Yt Z)<|G (Yi Z)<|cE iy (CK ⟨ck,wt,gn,ms,mA,mC,os,oA,oC⟩ s gn_ _ ⟨H.rd0 0 Z,fun m hm=>Bv H 1 Z hm,H.rd0 2 Z,hmC,hoC,hfew,hfp⟩ hok hn i hi hg) Z Z ?_
 rintro _ w3 ⟨rfl,hb⟩;replace H:=H.later hb;clear hb
 refine G (Yu Z)<|G (Xa Z Z)<|G (Xi Z Z)<|G (Xi Z Z)<|bI H 1 (#[J (0),J (0),J (0),.slice none 0 0,.slice none 0 0]) bD Z Z Z Z Z N N fun w4 H=>G (Wi Z)<|G (Wi Z)<|U<|W<|Zb<|W<|Zr<|G (Yi Z)<|G (l9 Z Z (by decide))<|G (Wb Z)<|U<|ZT Z<|W<|Zr<|G (bp (cs:= #[J (0),J (0),J (0),.slice none 0 0,.slice none 0 0]) ko eo N)<|G (Yi Z)<|bI H 0 (#[J (0),J (0),J (0),.slice none 0 0,.slice none 0 0]) bD Z Z Z Z Z N N fun w5 H=>G (Wi Z)<|U<|Zt ?_
 exact cu (cs0:= #[J 0,J 0,J 0,.slice none 0 0,.slice none 0 0]) (v1:=J 10) Z aR Z (H.ent (i:=0) Z) Z Z ⟨rfl,H.below⟩
theorem GX (g:Gr) (s:ByteArray) (gn_ part at_:Int) (w:World) (h:g.rd 0 w.heap.size w) (hok:ma g=true) (hn:bC s=true) (i:Nat) (hi:qD g s=i) (hg:g.gen=gn_) (hat:400<at_):di aa j5 [g.v,.string s,J gn_,J part,J at_] w fun v w2=>v=.tuple #[.agg #[J 0,J 0,J 0,.slice none 0 0,.slice none 0 0],J 2]/\Below w.heap.size w w2:=by
 refine aG kD Z Z ?_
 have hmC:=h.mC
 have hoC:=h.oC
 have hfew:=h.few
 have hfp:=h.fewP
 have H:=Hp.startGr h
 obtain⟨ck,wt,gn,ms,mA,mC,os,oA,oC⟩:=g
 dsimp only at hmC hoC hfew hfp H
 show CW _ _ _ _ (args [.agg #[J (ck),J (wt),J (gn),.slice mA ms.length mC,.slice oA os.length oC],.string (s),J (gn_),J (part),J (at_)]) w
 obtain⟨⟨⟨k1,k2⟩,k3,k4,⟨k5,k6⟩,k7,k8⟩,⟨hmo,hap⟩,hof,hor⟩:=dC.1 hok
 dsimp only at k1 k2 k3 k4 k5 k6 k7 k8 hmo
 refine W<|Zr<|gU H Z Z fun w1 b5 H=>fc H eo Z fun w2 b10 H=>G (Wi Z)<|U<|W<|Zr<|G (Zw aR H 1 Z Z Z)<|G (Yt Z)<|G (Yi Z)<|cE iy (Bz ⟨ck,wt,gn,ms,mA,mC,os,oA,oC⟩ s gn_ _ ⟨H.rd0 0 Z,fun m hm=>Bv H 1 Z hm,H.rd0 2 Z,hmC,hoC,hfew,hfp⟩ hok hn i hi hg) Z Z ?_
 rintro _ w3 ⟨⟨ck2,wt2,gn2,ms2,mA2,mC2,os2,oA2,oC2⟩,Lm,Lo,rfl,ha2,ho2,hoo2,hmc2,hoc2,hpc2,hj2⟩
 have hlo2:=H.size
 replace H:=Hp.joinG H hj2 (fun m hm=>(hpc2 m hm).2);clear hj2
 simp only[Gr.a,Gr.mk.injEq]at ha2
 obtain⟨e1,e2,e3,hma,-,-,e4,-,-⟩:=ha2
 obtain rfl:ck=ck2:=e1.symm
 obtain rfl:wt=wt2:=e2.symm
 obtain rfl:gn=gn2:=e3.symm
 obtain rfl:os=os2:=e4.symm
 dsimp only at ho2 hoo2 hmc2 hoc2 hpc2 H
 replace hpc2: ∀ m∈ms2,m.parts.length<=m.cap/\w.heap.size<=m.lo:=fun m hm=>⟨(hpc2 m hm).1,aW hlo2 (hpc2 m hm).2⟩
 have hml2:ms2.length=ms.length:=by have:=congrArg cY hma;simpa using this
 refine G (Yu Z)<|G (Xa Z Z)<|G (Xi Z Z)<|G (Xi Z Z)<|bI H 1 (#[J (ck),J (wt),J (gn),.slice mA2 ms2.length mC2,.slice oA2 os.length oC2]) bD Z Z Z Z Z N N fun w4 H=>G (Wi Z)<|G (Wi Z)<|U<|W<|Zb<|W<|Zr<|G (Yi Z)<|G (cj Z Z Z)<|G (Wb Z)<|U<|ZF Z<|W<|Zr<|G (Yi Z)<|G (cV Z Z I)<|G (Yb Z)<|ZG<|G (Yi Z)<|ZG<|G (Jz Z Z I)<|G (N Z Z)<|G (Wb Z)<|U<|ZT Z<|W<|Zr<|G (bp (cs:= #[J (0),J (0),J (0),.slice none 0 0,.slice none 0 0]) ko eo N)<|bI H 0 (#[J (0),J (0),J (0),.slice none 0 0,.slice none 0 0]) bD Z Z Z Z Z N N fun w5 H=>G (Wi Z)<|U<|Zt ?_
 exact cu (cs0:= #[J 0,J 0,J 0,.slice none 0 0,.slice none 0 0]) (v1:=J 2) Z aR Z (H.ent (i:=0) Z) Z Z ⟨rfl,H.below⟩
theorem GW (g:Gr) (s:ByteArray) (gn_ part at_:Int) (w:World) (h:g.rd 0 w.heap.size w) (hok:ma g=true) (hn:bC s=true) (i:Nat) (t:Mem) (hi:qD g s=i) (ht:g.ms[i]? =some t) (hg:g.gen=gn_) (hat0:0<=at_) (hat:at_<=400) (hpt:part∉t.parts):di aa j5 [g.v,.string s,J gn_,J part,J at_] w fun v w2=>v=.tuple #[.agg #[J 0,J 0,J 0,.slice none 0 0,.slice none 0 0],J 12]/\Below w.heap.size w w2:=by
 refine aG kD Z Z ?_
 have hmC:=h.mC
 have hoC:=h.oC
 have hfew:=h.few
 have hfp:=h.fewP
 have H:=Hp.startGr h
 obtain⟨ck,wt,gn,ms,mA,mC,os,oA,oC⟩:=g
 dsimp only at hmC hoC hfew hfp H
 show CW _ _ _ _ (args [.agg #[J (ck),J (wt),J (gn),.slice mA ms.length mC,.slice oA os.length oC],.string (s),J (gn_),J (part),J (at_)]) w
 obtain⟨⟨⟨k1,k2⟩,k3,k4,⟨k5,k6⟩,k7,k8⟩,⟨hmo,hap⟩,hof,hor⟩:=dC.1 hok
 dsimp only at k1 k2 k3 k4 k5 k6 k7 k8 hmo
 dsimp only at ht
 refine W<|Zr<|gU H Z Z fun w1 b5 H=>fc H eo Z fun w2 b10 H=>G (Wi Z)<|U<|W<|Zr<|G (Zw aR H 1 Z Z Z)<|G (Yt Z)<|G (Yi Z)<|cE iy (Bz ⟨ck,wt,gn,ms,mA,mC,os,oA,oC⟩ s gn_ _ ⟨H.rd0 0 Z,fun m hm=>Bv H 1 Z hm,H.rd0 2 Z,hmC,hoC,hfew,hfp⟩ hok hn i hi hg) Z Z ?_
 rintro _ w3 ⟨⟨ck2,wt2,gn2,ms2,mA2,mC2,os2,oA2,oC2⟩,Lm,Lo,rfl,ha2,ho2,hoo2,hmc2,hoc2,hpc2,hj2⟩
 have hlo2:=H.size
 replace H:=Hp.joinG H hj2 (fun m hm=>(hpc2 m hm).2);clear hj2
 simp only[Gr.a,Gr.mk.injEq]at ha2
 obtain⟨e1,e2,e3,hma,-,-,e4,-,-⟩:=ha2
 obtain rfl:ck=ck2:=e1.symm
 obtain rfl:wt=wt2:=e2.symm
 obtain rfl:gn=gn2:=e3.symm
 obtain rfl:os=os2:=e4.symm
 dsimp only at ho2 hoo2 hmc2 hoc2 hpc2 H
 replace hpc2: ∀ m∈ms2,m.parts.length<=m.cap/\w.heap.size<=m.lo:=fun m hm=>⟨(hpc2 m hm).1,aW hlo2 (hpc2 m hm).2⟩
 have hml2:ms2.length=ms.length:=by have:=congrArg cY hma;simpa using this
 refine G (Yu Z)<|G (Xa Z Z)<|G (Xi Z Z)<|G (Xi Z Z)<|bI H 1 (#[J (ck),J (wt),J (gn),.slice mA2 ms2.length mC2,.slice oA2 os.length oC2]) bD Z Z Z Z Z N N fun w4 H=>G (Wi Z)<|G (Wi Z)<|U<|W<|Zb<|W<|Zr<|G (Yi Z)<|G (cj Z Z Z)<|G (Wb Z)<|U<|ZF Z<|W<|Zr<|G (Yi Z)<|G (cV Z Z I)<|G (Yb Z)<|ZG<|G (Yi Z)<|ZG<|G (dX Z Z I)<|G (N Z Z)<|G (Wb Z)<|U<|ZF Z<|W ?_
 obtain⟨t2,ht2,hta⟩:=Cj hma ht
 have hl2:=(bZ ht2).1
 obtain⟨g,cur,rfl,rfl,row⟩:=ho2.row I
 have htp:t2.parts=t.parts:=(congrArg Mem.parts hta:t2.a.parts=t.a.parts)
 have hpl:=iY hma hmo t2 (ab ht2)
 have hrp:=ml H (show nJ t2∈_ from ce _ (bM (ab ht2)))
 refine Zr<|G (Zf dN Z)<|G (Zd dv H 1 Z Z Z)<|G (Yi Z)<|G (cL eM Z Z (by first|omega|(simp only[ae];omega)))<|G (Zf i9 Z)<|G (bW cP row ht2 2 Z (H.ent (i:=2) Z) Z)<|G (Yi Z)<|cE fP (lU t2.parts part t2.A t2.cap _ (ml H (show nJ t2∈_ from by first|exact ce _ (bM (ab ht2))|simp[ab ht2])) I) Z Z ?_
 rw[htp,decide_eq_false hpt]
 rintro _ w5 ⟨rfl,hb⟩;replace H:=H.later hb;clear hb
 refine G (d9 Z)<|G (Wb Z)<|U<|ZT Z<|W<|Zr<|G (bp (cs:= #[J (0),J (0),J (0),.slice none 0 0,.slice none 0 0]) ko eo N)<|bI H 0 (#[J (0),J (0),J (0),.slice none 0 0,.slice none 0 0]) bD Z Z Z Z Z N N fun w6 H=>G (Wi Z)<|U<|Zt ?_
 exact cu (cs0:= #[J 0,J 0,J 0,.slice none 0 0,.slice none 0 0]) (v1:=J 12) Z aR Z (H.ent (i:=0) Z) Z Z ⟨rfl,H.below⟩
theorem Nl (g:Gr) (s:ByteArray) (gn_ part at_:Int) (w:World) (h:g.rd 0 w.heap.size w) (hok:ma g=true) (hn:bC s=true) (i:Nat) (t:Mem) (hi:qD g s=i) (ht:g.ms[i]? =some t) (hg:g.gen=gn_) (hat0:0<=at_) (hat:at_<=400) (hpt:part∈t.parts):di aa j5 [g.v,.string s,J gn_,J part,J at_] w fun v w2=> ∃ g':Gr,v=.tuple #[g'.v,J 0]/\g'.a={g.a with os:=hJ g.os part at_}/\AH w w2 g':=by
 refine aG kD Z Z ?_
 have hmC:=h.mC
 have hoC:=h.oC
 have hfew:=h.few
 have hfp:=h.fewP
 have H:=Hp.startGr h
 obtain⟨ck,wt,gn,ms,mA,mC,os,oA,oC⟩:=g
 dsimp only at hmC hoC hfew hfp H
 show CW _ _ _ _ (args [.agg #[J (ck),J (wt),J (gn),.slice mA ms.length mC,.slice oA os.length oC],.string (s),J (gn_),J (part),J (at_)]) w
 obtain⟨⟨⟨k1,k2⟩,k3,k4,⟨k5,k6⟩,k7,k8⟩,⟨hmo,hap⟩,hof,hor⟩:=dC.1 hok
 dsimp only at k1 k2 k3 k4 k5 k6 k7 k8 hmo
 dsimp only at ht
 refine W<|Zr<|gU H Z Z fun w1 b5 H=>fc H eo Z fun w2 b10 H=>G (Wi Z)<|U<|W<|Zr<|G (Zw aR H 1 Z Z Z)<|G (Yt Z)<|G (Yi Z)<|cE iy (Bz ⟨ck,wt,gn,ms,mA,mC,os,oA,oC⟩ s gn_ _ ⟨H.rd0 0 Z,fun m hm=>Bv H 1 Z hm,H.rd0 2 Z,hmC,hoC,hfew,hfp⟩ hok hn i hi hg) Z Z ?_
 rintro _ w3 ⟨⟨ck2,wt2,gn2,ms2,mA2,mC2,os2,oA2,oC2⟩,Lm,Lo,rfl,ha2,ho2,hoo2,hmc2,hoc2,hpc2,hj2⟩
 have hlo2:=H.size
 replace H:=Hp.joinG H hj2 (fun m hm=>(hpc2 m hm).2);clear hj2
 simp only[Gr.a,Gr.mk.injEq]at ha2
 obtain⟨e1,e2,e3,hma,-,-,e4,-,-⟩:=ha2
 obtain rfl:ck=ck2:=e1.symm
 obtain rfl:wt=wt2:=e2.symm
 obtain rfl:gn=gn2:=e3.symm
 obtain rfl:os=os2:=e4.symm
 dsimp only at ho2 hoo2 hmc2 hoc2 hpc2 H
 replace hpc2: ∀ m∈ms2,m.parts.length<=m.cap/\w.heap.size<=m.lo:=fun m hm=>⟨(hpc2 m hm).1,aW hlo2 (hpc2 m hm).2⟩
 have hml2:ms2.length=ms.length:=by have:=congrArg cY hma;simpa using this
 refine G (Yu Z)<|G (Xa Z Z)<|G (Xi Z Z)<|G (Xi Z Z)<|bI H 1 (#[J (ck),J (wt),J (gn),.slice mA2 ms2.length mC2,.slice oA2 os.length oC2]) bD Z Z Z Z Z N N fun w4 H=>G (Wi Z)<|G (Wi Z)<|U<|W<|Zb<|W<|Zr<|G (Yi Z)<|G (cj Z Z Z)<|G (Wb Z)<|U<|ZF Z<|W<|Zr<|G (Yi Z)<|G (cV Z Z I)<|G (Yb Z)<|ZG<|G (Yi Z)<|ZG<|G (dX Z Z I)<|G (N Z Z)<|G (Wb Z)<|U<|ZF Z<|W ?_
 obtain⟨t2,ht2,hta⟩:=Cj hma ht
 have hl2:=(bZ ht2).1
 obtain⟨g,cur,rfl,rfl,row⟩:=ho2.row I
 have htp:t2.parts=t.parts:=(congrArg Mem.parts hta:t2.a.parts=t.a.parts)
 have hpl:=iY hma hmo t2 (ab ht2)
 have hrp:=ml H (show nJ t2∈_ from ce _ (bM (ab ht2)))
 refine Zr<|G (Zf dN Z)<|G (Zd dv H 1 Z Z Z)<|G (Yi Z)<|G (cL eM Z Z (by first|omega|(simp only[ae];omega)))<|G (Zf i9 Z)<|G (bW cP row ht2 2 Z (H.ent (i:=2) Z) Z)<|G (Yi Z)<|cE fP (lU t2.parts part t2.A t2.cap _ (ml H (show nJ t2∈_ from by first|exact ce _ (bM (ab ht2))|simp[ab ht2])) I) Z Z ?_
 rw[htp,decide_eq_true hpt]
 rintro _ w5 ⟨rfl,hb⟩;replace H:=H.later hb;clear hb
 refine G (d9 Z)<|G (Wb Z)<|U<|ZF Z<|Zk<|W<|Zr<|G (Wi Z)<|U<|W<|Zb ?_
 refine bV (τ:=Nat) [14,47,48,49,50,51,52,53,54,55,56,57,58,59,60,61,62,63] (fun k=>[(14,J (k:Nat))]) (fun k w'=>k<=os.length/\(∀ x∈os.take k,x.part<part)/\Hp w w' ([(b10,.cells #[J 0,J 0,J 0,.slice none 0 0,.slice none 0 0] cK (0,0)),(b5,.cells #[J (ck),J (wt),J (gn),.slice (Qd g) ms2.length mC2,.slice oA2 os.length oC2] cK (0,0)),(g,.cells cur de (0,0))]++Lo) ([ee j8 0 w.heap.size mA ms,KQ 0 w.heap.size ms,ee gm 0 w.heap.size oA os]++ms2.map nJ)) (fun k=>os.length-k) 0 ⟨by omega,by simp,H⟩ (ef Z) ?_
 rintro k ρ1 w6 ⟨hk,hwh,H⟩
 show CW _ _ _ _ (dO (ij _ _ ρ1) [(14,J (k:Nat))]) w6
 refine W<|W<|Zr<|G (Yi Z)<|G (Zf d7 Z)<|G (Zd eK H 1 Z Z Z)<|G (bl ir Z) ?_
 refine dZ (cI Z Z) Z Z Z (fun h51=> ?_) (fun h51=> ?_)
 obtain⟨g2,cur2,rfl,rfl,row2⟩:=hoo2.row I
 obtain⟨o,ho⟩: ∃ o,os[k]? =some o:=⟨_,ai I⟩
 refine G (Yb Z)<|ZG<|G (Zf d7 Z)<|ZG<|G (Zd eK H 1 Z Z Z)<|ZG<|G (Yi Z)<|ZG<|G (cL da Z Z (by first|omega|(simp only[ae];omega)))<|ZG<|G (Zf jH Z)<|ZG<|G (bW al row2 ho 0 Z (H.ent (i:=3) Z) Z)<|ZG<|G (Yi Z)<|ZG ?_
 refine dZ (cI Z Z) Z Z Z (fun h60=> ?_) (fun h60=> ?_)
 refine G (Kt Z Z)<|U<|ZT Z<|Zk<|Zb<|Zr<|G (Yi Z)<|G (bn Z Z I I)<|G (Wi Z)<|U ?_
 exact⟨k+1,⟨by omega,by rw[ed ho];intro x hx;rcases ar.1 hx with hx|hx;exact hwh x hx;rw[aq.1 hx];exact h60,H⟩,ef Z,Qg,by show os.length- (k+1)<os.length-k;omega⟩
 refine G (Kt Z Z)<|U<|ZF Z<|Zx<|W<|W ?_
 have hkl:m0 os part=k:=BN (fun x hx=>by simpa using hwh x hx) (fun x hx=>by rw[ho]at hx;injection hx with hx;subst hx;simpa using h60) hk
 refine Zr<|G (Yi Z)<|G (Zf d7 Z)<|G (Zd eK H 1 Z Z Z)<|G (bl ir Z) ?_
 refine dZ (cI Z Z) Z Z Z (fun h68=> ?_) (fun h68=> ?_)
 refine G (Yb Z)<|ZG<|G (Zf d7 Z)<|ZG<|G (Zd eK H 1 Z Z Z)<|ZG<|G (Yi Z)<|ZG<|G (cL da Z Z (by first|omega|(simp only[ae];omega)))<|ZG<|G (Zf jH Z)<|ZG<|G (bW al row2 ho 0 Z (H.ent (i:=3) Z) Z)<|ZG<|G (Yi Z)<|ZG ?_
 refine dZ (cr Z Z) Z Z Z (fun h77=> ?_) (fun h77=> ?_)
 refine G (Kt Z Z)<|U<|ZT Z ?_
 have hput:hJ os part at_=os.set k {o with at_:=at_}:=by unfold hJ;rw[hkl,ho];rw[if_pos (show Option.map mP.part (some o)=some part from congrArg some h77)];subst h77;rfl
 refine Zr<|G (Zf d7 Z)<|G (Zd eK H 1 Z Z Z)<|G (Yi Z)<|G (Yi Z)<|G (cL da Z Z (by first|omega|(simp only[ae];omega)))<|G (Zf oT Z)<|nt H 3 ({o with at_:=at_}) bN row2 ho 1 Z Z Z Z Z Z N fun w8 cur7 row7 H=> ?_
 have hs9:(os.set k ({o with at_:=at_}))[k]? =some ({o with at_:=at_}):=ak (bZ ho).1
 refine U<|W<|Zr<|G (Zw aR H 1 Z Z Z)<|bI H 0 (#[J (ck),J (wt),J (gn),.slice (Qd g) ms2.length mC2,.slice (Qd g2) os.length oC2]) bD Z Z Z Z Z N N fun w10 H=>G (Wi Z)<|U<|Zt ?_
 exact cu (cs0:= #[J (ck),J (wt),J (gn),.slice (Qd g) ms2.length mC2,.slice (Qd g2) os.length oC2]) (v1:=J 0) Z aR Z (H.ent (i:=0) Z) Z Z ⟨⟨ck,wt,gn,ms2,some ⟨g,0,none⟩,mC2,os.set k {o with at_:=at_},some ⟨g2,0,none⟩,oC2⟩,by unfold Gr.v Gr.c;dsimp only;rw[ae],by unfold Gr.a;dsimp only;rw[hma];show _=({Gr.a ⟨ck,wt,gn,ms,mA,mC,os,oA,oC⟩with os:=hJ os part at_}:Gr);rw[hput];rfl,rP.new (ga:=Gr.a ⟨ck,wt,gn,ms2,some ⟨g,0,none⟩,mC2,os.set k {o with at_:=at_},some ⟨g2,0,none⟩,oC2⟩) ⟨rfl,d8.own row,by dsimp only;rw[ae];have hO:=d8.own (g:=g2) (e:=eC) row7;rw[ae]at hO;exact hO,hmc2,by dsimp only;rw[ae];exact hoc2,hpc2,H.forget (.cons _ (.cons _ (au _))) (fun f hf=>by simp only[ay,ar];grind)⟩ (by dsimp only;omega) (by dsimp only;rw[<-hput];have:=nH os part at_;omega) (iY hma hmo)⟩
 refine G (Kt Z Z)<|U<|ZF Z ?_
 have hput:hJ os part at_=os.take k++[⟨part,at_⟩]++os.drop k:=by unfold hJ;rw[hkl];rw[if_neg (by rw[ho];intro hx;exact h77 (aZ hx))]
 refine Zr<|G (Zf d7 Z)<|G (Zd eK H 1 Z Z Z)<|G (Yi Z)<|G (Yi Z)<|G (Yi Z)<|G (bp (cs:= #[J (part),J (at_)]) vY lz N)<|sK (vs:=[.agg #[J (part),J (at_)]]) H da lz Z Z Z Z Z Z fun w11 b91 H=>cE fb (jN (K:=[(b10,.cells #[J (0),J (0),J (0),.slice none 0 0,.slice none 0 0] cK (0,0)),(b5,.cells #[J (ck),J (wt),J (gn),.slice (Qd g) ms2.length mC2,.slice (Qd g2) os.length oC2] cK (0,0)),(g,.cells cur de (0,0))]) (Lt:=[(g2,.cells cur2 eC (0,0))]) (M:=[]) (x:=⟨part,at_⟩) (i:=k) (by rw[aP];exact H) hoo2 I I) Z Z ?_
 rintro _ w12 ⟨A9,c9,L9,rfl,ho9,HI⟩
 replace H:Hp w w12 ([(b91,.cells #[J (part),J (at_)] eC (0,0)),(b10,.cells #[J (0),J (0),J (0),.slice none 0 0,.slice none 0 0] cK (0,0)),(b5,.cells #[J (ck),J (wt),J (gn),.slice (Qd g) ms2.length mC2,.slice (Qd g2) os.length oC2] cK (0,0)),(g,.cells cur de (0,0))]++L9) ([ee j8 0 w.heap.size mA ms,KQ 0 w.heap.size ms,ee gm 0 w.heap.size oA os]++ms2.map nJ):=by rw[aP]at HI;exact HI
 clear HI
 have hc9:(os.take k++[(⟨part,at_⟩:mP)]++os.drop k).length<=c9:=by obtain⟨_,_,e,h,_⟩:=ho9.form;injection e with _ _ e;rw[e];exact h
 refine G (Zf d7 Z)<|bI H 2 (#[J (ck),J (wt),J (gn),.slice (Qd g) ms2.length mC2,.slice A9 ((os.take k++[(⟨part,at_⟩:mP)]++os.drop k).length) c9]) ox Z Z Z Z Z N N fun w13 H=>U<|W<|Zr<|G (Zw aR H 2 Z Z Z)<|bI H 1 (#[J (ck),J (wt),J (gn),.slice (Qd g) ms2.length mC2,.slice A9 ((os.take k++[(⟨part,at_⟩:mP)]++os.drop k).length) c9]) bD Z Z Z Z Z N N fun w14 H=>G (Wi Z)<|U<|Zt ?_
 exact cu (cs0:= #[J (ck),J (wt),J (gn),.slice (Qd g) ms2.length mC2,.slice A9 (((os.take k++[(⟨part,at_⟩:mP)]++os.drop k)).length) c9]) (v1:=J 0) Z aR Z (H.ent (i:=1) Z) Z Z ⟨⟨ck,wt,gn,ms2,some ⟨g,0,none⟩,mC2,os.take k++[(⟨part,at_⟩:mP)]++os.drop k,A9,c9⟩,rfl,by unfold Gr.a;dsimp only;rw[hma];show _=({Gr.a ⟨ck,wt,gn,ms,mA,mC,os,oA,oC⟩with os:=hJ os part at_}:Gr);rw[hput];rfl,rP.new (ga:=Gr.a ⟨ck,wt,gn,ms2,some ⟨g,0,none⟩,mC2,os.take k++[(⟨part,at_⟩:mP)]++os.drop k,A9,c9⟩) ⟨rfl,d8.own row,ho9,hmc2,hc9,hpc2,H.forget (.cons _ (.cons _ (.cons _ (au _)))) (fun f hf=>by simp only[ay,ar];grind)⟩ (by dsimp only;omega) (by dsimp only;rw[<-hput];have:=nH os part at_;omega) (iY hma hmo)⟩
 refine G (Yb Z)<|ZN<|ZN<|ZN<|ZN<|ZN<|ZN<|ZN<|ZN<|G (N Z Z)<|U<|ZF Z ?_
 have hput:hJ os part at_=os.take k++[⟨part,at_⟩]++os.drop k:=by unfold hJ;rw[hkl];rw[if_neg (by rw[bL I];simp)]
 refine Zr<|G (Zf d7 Z)<|G (Zd eK H 1 Z Z Z)<|G (Yi Z)<|G (Yi Z)<|G (Yi Z)<|G (bp (cs:= #[J (part),J (at_)]) vY lz N)<|sK (vs:=[.agg #[J (part),J (at_)]]) H da lz Z Z Z Z Z Z fun w15 b91 H=>cE fb (jN (K:=[(b10,.cells #[J (0),J (0),J (0),.slice none 0 0,.slice none 0 0] cK (0,0)),(b5,.cells #[J (ck),J (wt),J (gn),.slice (Qd g) ms2.length mC2,.slice (Qd g2) os.length oC2] cK (0,0)),(g,.cells cur de (0,0))]) (Lt:=[(g2,.cells cur2 eC (0,0))]) (M:=[]) (x:=⟨part,at_⟩) (i:=k) (by rw[aP];exact H) hoo2 I I) Z Z ?_
 rintro _ w16 ⟨A9,c9,L9,rfl,ho9,HI⟩
 replace H:Hp w w16 ([(b91,.cells #[J (part),J (at_)] eC (0,0)),(b10,.cells #[J (0),J (0),J (0),.slice none 0 0,.slice none 0 0] cK (0,0)),(b5,.cells #[J (ck),J (wt),J (gn),.slice (Qd g) ms2.length mC2,.slice (Qd g2) os.length oC2] cK (0,0)),(g,.cells cur de (0,0))]++L9) ([ee j8 0 w.heap.size mA ms,KQ 0 w.heap.size ms,ee gm 0 w.heap.size oA os]++ms2.map nJ):=by rw[aP]at HI;exact HI
 clear HI
 have hc9:(os.take k++[(⟨part,at_⟩:mP)]++os.drop k).length<=c9:=by obtain⟨_,_,e,h,_⟩:=ho9.form;injection e with _ _ e;rw[e];exact h
 refine G (Zf d7 Z)<|bI H 2 (#[J (ck),J (wt),J (gn),.slice (Qd g) ms2.length mC2,.slice A9 ((os.take k++[(⟨part,at_⟩:mP)]++os.drop k).length) c9]) ox Z Z Z Z Z N N fun w17 H=>U<|W<|Zr<|G (Zw aR H 2 Z Z Z)<|bI H 1 (#[J (ck),J (wt),J (gn),.slice (Qd g) ms2.length mC2,.slice A9 ((os.take k++[(⟨part,at_⟩:mP)]++os.drop k).length) c9]) bD Z Z Z Z Z N N fun w18 H=>G (Wi Z)<|U<|Zt ?_
 exact cu (cs0:= #[J (ck),J (wt),J (gn),.slice (Qd g) ms2.length mC2,.slice A9 (((os.take k++[(⟨part,at_⟩:mP)]++os.drop k)).length) c9]) (v1:=J 0) Z aR Z (H.ent (i:=1) Z) Z Z ⟨⟨ck,wt,gn,ms2,some ⟨g,0,none⟩,mC2,os.take k++[(⟨part,at_⟩:mP)]++os.drop k,A9,c9⟩,rfl,by unfold Gr.a;dsimp only;rw[hma];show _=({Gr.a ⟨ck,wt,gn,ms,mA,mC,os,oA,oC⟩with os:=hJ os part at_}:Gr);rw[hput];rfl,rP.new (ga:=Gr.a ⟨ck,wt,gn,ms2,some ⟨g,0,none⟩,mC2,os.take k++[(⟨part,at_⟩:mP)]++os.drop k,A9,c9⟩) ⟨rfl,d8.own row,ho9,hmc2,hc9,hpc2,H.forget (.cons _ (.cons _ (.cons _ (au _)))) (fun f hf=>by simp only[ay,ar];grind)⟩ (by dsimp only;omega) (by dsimp only;rw[<-hput];have:=nH os part at_;omega) (iY hma hmo)⟩
 refine G (Yb Z)<|ZN<|ZN<|ZN<|ZN<|ZN<|ZN<|ZN<|ZN<|G (N Z Z)<|U<|ZF Z<|Zx<|W<|W ?_
 have hkl:m0 os part=k:=BN (fun x hx=>by simpa using hwh x hx) (fun x hx=>absurd (bZ hx).1 I) hk
 refine Zr<|G (Yi Z)<|G (Zf d7 Z)<|G (Zd eK H 1 Z Z Z)<|G (bl ir Z) ?_
 refine dZ (cI Z Z) Z Z Z (fun h68=> ?_) (fun h68=> ?_)
 obtain⟨g2,cur2,rfl,rfl,row2⟩:=hoo2.row I
 obtain⟨o,ho⟩: ∃ o,os[k]? =some o:=⟨_,ai I⟩
 refine G (Yb Z)<|ZG<|G (Zf d7 Z)<|ZG<|G (Zd eK H 1 Z Z Z)<|ZG<|G (Yi Z)<|ZG<|G (cL da Z Z (by first|omega|(simp only[ae];omega)))<|ZG<|G (Zf jH Z)<|ZG<|G (bW al row2 ho 0 Z (H.ent (i:=3) Z) Z)<|ZG<|G (Yi Z)<|ZG ?_
 refine dZ (cr Z Z) Z Z Z (fun h77=> ?_) (fun h77=> ?_)
 refine G (Kt Z Z)<|U<|ZT Z ?_
 have hput:hJ os part at_=os.set k {o with at_:=at_}:=by unfold hJ;rw[hkl,ho];rw[if_pos (show Option.map mP.part (some o)=some part from congrArg some h77)];subst h77;rfl
 refine Zr<|G (Zf d7 Z)<|G (Zd eK H 1 Z Z Z)<|G (Yi Z)<|G (Yi Z)<|G (cL da Z Z (by first|omega|(simp only[ae];omega)))<|G (Zf oT Z)<|nt H 3 ({o with at_:=at_}) bN row2 ho 1 Z Z Z Z Z Z N fun w20 cur19 row19 H=> ?_
 have hs21:(os.set k ({o with at_:=at_}))[k]? =some ({o with at_:=at_}):=ak (bZ ho).1
 refine U<|W<|Zr<|G (Zw aR H 1 Z Z Z)<|bI H 0 (#[J (ck),J (wt),J (gn),.slice (Qd g) ms2.length mC2,.slice (Qd g2) os.length oC2]) bD Z Z Z Z Z N N fun w22 H=>G (Wi Z)<|U<|Zt ?_
 exact cu (cs0:= #[J (ck),J (wt),J (gn),.slice (Qd g) ms2.length mC2,.slice (Qd g2) os.length oC2]) (v1:=J 0) Z aR Z (H.ent (i:=0) Z) Z Z ⟨⟨ck,wt,gn,ms2,some ⟨g,0,none⟩,mC2,os.set k {o with at_:=at_},some ⟨g2,0,none⟩,oC2⟩,by unfold Gr.v Gr.c;dsimp only;rw[ae],by unfold Gr.a;dsimp only;rw[hma];show _=({Gr.a ⟨ck,wt,gn,ms,mA,mC,os,oA,oC⟩with os:=hJ os part at_}:Gr);rw[hput];rfl,rP.new (ga:=Gr.a ⟨ck,wt,gn,ms2,some ⟨g,0,none⟩,mC2,os.set k {o with at_:=at_},some ⟨g2,0,none⟩,oC2⟩) ⟨rfl,d8.own row,by dsimp only;rw[ae];have hO:=d8.own (g:=g2) (e:=eC) row19;rw[ae]at hO;exact hO,hmc2,by dsimp only;rw[ae];exact hoc2,hpc2,H.forget (.cons _ (.cons _ (au _))) (fun f hf=>by simp only[ay,ar];grind)⟩ (by dsimp only;omega) (by dsimp only;rw[<-hput];have:=nH os part at_;omega) (iY hma hmo)⟩
 refine G (Kt Z Z)<|U<|ZF Z ?_
 have hput:hJ os part at_=os.take k++[⟨part,at_⟩]++os.drop k:=by unfold hJ;rw[hkl];rw[if_neg (by rw[ho];intro hx;exact h77 (aZ hx))]
 refine Zr<|G (Zf d7 Z)<|G (Zd eK H 1 Z Z Z)<|G (Yi Z)<|G (Yi Z)<|G (Yi Z)<|G (bp (cs:= #[J (part),J (at_)]) vY lz N)<|sK (vs:=[.agg #[J (part),J (at_)]]) H da lz Z Z Z Z Z Z fun w23 b91 H=>cE fb (jN (K:=[(b10,.cells #[J (0),J (0),J (0),.slice none 0 0,.slice none 0 0] cK (0,0)),(b5,.cells #[J (ck),J (wt),J (gn),.slice (Qd g) ms2.length mC2,.slice (Qd g2) os.length oC2] cK (0,0)),(g,.cells cur de (0,0))]) (Lt:=[(g2,.cells cur2 eC (0,0))]) (M:=[]) (x:=⟨part,at_⟩) (i:=k) (by rw[aP];exact H) hoo2 I I) Z Z ?_
 rintro _ w24 ⟨A9,c9,L9,rfl,ho9,HI⟩
 replace H:Hp w w24 ([(b91,.cells #[J (part),J (at_)] eC (0,0)),(b10,.cells #[J (0),J (0),J (0),.slice none 0 0,.slice none 0 0] cK (0,0)),(b5,.cells #[J (ck),J (wt),J (gn),.slice (Qd g) ms2.length mC2,.slice (Qd g2) os.length oC2] cK (0,0)),(g,.cells cur de (0,0))]++L9) ([ee j8 0 w.heap.size mA ms,KQ 0 w.heap.size ms,ee gm 0 w.heap.size oA os]++ms2.map nJ):=by rw[aP]at HI;exact HI
 clear HI
 have hc9:(os.take k++[(⟨part,at_⟩:mP)]++os.drop k).length<=c9:=by obtain⟨_,_,e,h,_⟩:=ho9.form;injection e with _ _ e;rw[e];exact h
 refine G (Zf d7 Z)<|bI H 2 (#[J (ck),J (wt),J (gn),.slice (Qd g) ms2.length mC2,.slice A9 ((os.take k++[(⟨part,at_⟩:mP)]++os.drop k).length) c9]) ox Z Z Z Z Z N N fun w25 H=>U<|W<|Zr<|G (Zw aR H 2 Z Z Z)<|bI H 1 (#[J (ck),J (wt),J (gn),.slice (Qd g) ms2.length mC2,.slice A9 ((os.take k++[(⟨part,at_⟩:mP)]++os.drop k).length) c9]) bD Z Z Z Z Z N N fun w26 H=>G (Wi Z)<|U<|Zt ?_
 exact cu (cs0:= #[J (ck),J (wt),J (gn),.slice (Qd g) ms2.length mC2,.slice A9 (((os.take k++[(⟨part,at_⟩:mP)]++os.drop k)).length) c9]) (v1:=J 0) Z aR Z (H.ent (i:=1) Z) Z Z ⟨⟨ck,wt,gn,ms2,some ⟨g,0,none⟩,mC2,os.take k++[(⟨part,at_⟩:mP)]++os.drop k,A9,c9⟩,rfl,by unfold Gr.a;dsimp only;rw[hma];show _=({Gr.a ⟨ck,wt,gn,ms,mA,mC,os,oA,oC⟩with os:=hJ os part at_}:Gr);rw[hput];rfl,rP.new (ga:=Gr.a ⟨ck,wt,gn,ms2,some ⟨g,0,none⟩,mC2,os.take k++[(⟨part,at_⟩:mP)]++os.drop k,A9,c9⟩) ⟨rfl,d8.own row,ho9,hmc2,hc9,hpc2,H.forget (.cons _ (.cons _ (.cons _ (au _)))) (fun f hf=>by simp only[ay,ar];grind)⟩ (by dsimp only;omega) (by dsimp only;rw[<-hput];have:=nH os part at_;omega) (iY hma hmo)⟩
 refine G (Yb Z)<|ZN<|ZN<|ZN<|ZN<|ZN<|ZN<|ZN<|ZN<|G (N Z Z)<|U<|ZF Z ?_
 have hput:hJ os part at_=os.take k++[⟨part,at_⟩]++os.drop k:=by unfold hJ;rw[hkl];rw[if_neg (by rw[bL I];simp)]
 refine Zr<|G (Zf d7 Z)<|G (Zd eK H 1 Z Z Z)<|G (Yi Z)<|G (Yi Z)<|G (Yi Z)<|G (bp (cs:= #[J (part),J (at_)]) vY lz N)<|sK (vs:=[.agg #[J (part),J (at_)]]) H da lz Z Z Z Z Z Z fun w27 b91 H=>cE fb (jN (K:=[(b10,.cells #[J (0),J (0),J (0),.slice none 0 0,.slice none 0 0] cK (0,0)),(b5,.cells #[J (ck),J (wt),J (gn),.slice (Qd g) ms2.length mC2,.slice oA2 os.length oC2] cK (0,0)),(g,.cells cur de (0,0))]) (Lt:=Lo) (M:=[]) (x:=⟨part,at_⟩) (i:=k) (by rw[aP];exact H) hoo2 I I) Z Z ?_
 rintro _ w28 ⟨A9,c9,L9,rfl,ho9,HI⟩
 replace H:Hp w w28 ([(b91,.cells #[J (part),J (at_)] eC (0,0)),(b10,.cells #[J (0),J (0),J (0),.slice none 0 0,.slice none 0 0] cK (0,0)),(b5,.cells #[J (ck),J (wt),J (gn),.slice (Qd g) ms2.length mC2,.slice oA2 os.length oC2] cK (0,0)),(g,.cells cur de (0,0))]++L9) ([ee j8 0 w.heap.size mA ms,KQ 0 w.heap.size ms,ee gm 0 w.heap.size oA os]++ms2.map nJ):=by rw[aP]at HI;exact HI
 clear HI
 have hc9:(os.take k++[(⟨part,at_⟩:mP)]++os.drop k).length<=c9:=by obtain⟨_,_,e,h,_⟩:=ho9.form;injection e with _ _ e;rw[e];exact h
 refine G (Zf d7 Z)<|bI H 2 (#[J (ck),J (wt),J (gn),.slice (Qd g) ms2.length mC2,.slice A9 ((os.take k++[(⟨part,at_⟩:mP)]++os.drop k).length) c9]) ox Z Z Z Z Z N N fun w29 H=>U<|W<|Zr<|G (Zw aR H 2 Z Z Z)<|bI H 1 (#[J (ck),J (wt),J (gn),.slice (Qd g) ms2.length mC2,.slice A9 ((os.take k++[(⟨part,at_⟩:mP)]++os.drop k).length) c9]) bD Z Z Z Z Z N N fun w30 H=>G (Wi Z)<|U<|Zt ?_
 exact cu (cs0:= #[J (ck),J (wt),J (gn),.slice (Qd g) ms2.length mC2,.slice A9 (((os.take k++[(⟨part,at_⟩:mP)]++os.drop k)).length) c9]) (v1:=J 0) Z aR Z (H.ent (i:=1) Z) Z Z ⟨⟨ck,wt,gn,ms2,some ⟨g,0,none⟩,mC2,os.take k++[(⟨part,at_⟩:mP)]++os.drop k,A9,c9⟩,rfl,by unfold Gr.a;dsimp only;rw[hma];show _=({Gr.a ⟨ck,wt,gn,ms,mA,mC,os,oA,oC⟩with os:=hJ os part at_}:Gr);rw[hput];rfl,rP.new (ga:=Gr.a ⟨ck,wt,gn,ms2,some ⟨g,0,none⟩,mC2,os.take k++[(⟨part,at_⟩:mP)]++os.drop k,A9,c9⟩) ⟨rfl,d8.own row,ho9,hmc2,hc9,hpc2,H.forget (.cons _ (.cons _ (.cons _ (au _)))) (fun f hf=>by simp only[ay,ar];grind)⟩ (by dsimp only;omega) (by dsimp only;rw[<-hput];have:=nH os part at_;omega) (iY hma hmo)⟩
theorem v6 {α:Type} {l:List α} {k:Nat} {a:α} (h:l[k]? =some a):l.set k a=l:=by
 apply dg
 intro i
 rw[lQ]
 split
 rename_i hi
 subst hi
 split
 exact h.symm
 rename_i hl
 rw[bL I]at h;cases h
 rfl
def kE (g:Gr) (s:ByteArray):Option (Nat×Mem):=(g.ms.findIdx? fun p=>decide (p.name=s)).bind fun i=>g.ms[i]?.map fun t=>(i,t)
theorem nW {g:Gr} {s:ByteArray} (h:kE g s=none):qD g s= -1:=by
 unfold kE at h
 unfold qD
 cases hi:g.ms.findIdx? fun p=>decide (p.name=s)with
 |none=>rfl
 |some i=>
  obtain⟨hl,-⟩:=aF.1 hi
  rw[hi]at h
  simp[ai hl]at h
theorem nV {g:Gr} {s:ByteArray} {i:Nat} {t:Mem} (h:kE g s=some (i,t)):qD g s=i/\g.ms[i]? =some t/\t.name=s:=by
 unfold kE at h
 unfold qD
 cases hi:g.ms.findIdx? fun p=>decide (p.name=s)with
 |none=>rw[hi]at h;cases h
 |some j=>
  obtain⟨hl,hn,-⟩:=aF.1 hi
  rw[hi]at h
  simp only[cQ,ai hl,dA,jI,Prod.mk.injEq]at h
  obtain⟨rfl,rfl⟩:=h
  exact⟨rfl,ai hl,by simpa using hn⟩
theorem KA (g:Gr) (s:ByteArray):kE g.a s=(kE g s).map fun(i,t)=>(i,t.a):=by
 have e:g.a.ms.findIdx? (fun p=>decide (p.name=s))=g.ms.findIdx? fun p=>decide (p.name=s):=by
  show(g.ms.map Mem.a).findIdx? _=_
  rw[vT]
  rfl
 unfold kE
 rw[e]
 cases g.ms.findIdx? fun p=>decide (p.name=s)with
 |none=>rfl
 |some i=>
  show(g.ms.map Mem.a)[i]?.map _=(g.ms[i]?.map _).map _
  rw[aJ]
  cases g.ms[i]? <;>rfl
theorem Od {g:Gr} {s:ByteArray} (h:kE g s=none): ∀ t∈g.ms,t.name≠s:=by
 have:=nW h
 unfold qD at this
 cases hi:g.ms.findIdx? fun p=>decide (p.name=s)with
 |none=>rw[cD]at hi;intro t ht;simpa using hi t ht
 |some i=>rw[hi]at this;simp[lH]at this
def uk (g:Gr) (s:ByteArray) (p:Nat):Gr×Int:=match kE g s with
 |some _=>(Du,6)
 |none=>if g.ms.length=6 then(Du,16)else(JW {g with ms:=g.ms++[FO s g.clock]} p,0)
def y0 (g:Gr) (s:ByteArray) (gn:Int):Gr×Int:=match kE g s with
 |none=>(Du,5)
 |some (i,t)=>if g.gen=gn then(Pr g i t,0)else(Du,10)
def tC (g:Gr) (s:ByteArray) (gn part at_:Int):Gr×Int:=match kE g s with
 |none=>(Du,5)
 |some (_,t)=>if g.gen=gn then if 400<at_ then(Du,2)else if part∈t.parts then({g with os:=hJ g.os part at_},0)else(Du,12)else(Du,10)
def eS (g:Gr) (s:ByteArray) (part:Int):Int×Int:=match kE g s with
 |none=>(0,5)
 |some (_,t)=>if part∈t.parts then(uT g.os part,0)else(0,12)
theorem Py (l:List Mem):ly (l.map Mem.a)↔ly l:=by
 unfold ly
 rw[tK]
theorem Gb (g:Gr):ma g.a=true↔ma g=true:=by
 rw[dC,dC]
 show(_/\_/\_/\_/\((g.ms.map Mem.a).length:Int)<=6/\_)/\((∀ m∈g.ms.map Mem.a,wU g.clock m=true)/\ly (g.ms.map Mem.a))/\_/\_↔_
 rw[bF,Py]
 have:(∀ m∈g.ms.map Mem.a,wU g.clock m=true)↔ ∀ m∈g.ms,wU g.clock m=true:=by
  constructor
  intro h m hm;exact h m.a (bM hm)
  intro h m hm
  obtain⟨x,hx,rfl⟩:=bK.1 hm
  exact h x hx
 rw[this]
 exact Iff.rfl
structure rR (P:ByteArray->Prop) (wt:Int) (p k:Nat) (g:Gr):Prop where
 ok:ma g=true
 clock:g.clock<=1000*k
 gen:g.gen<=k
 wait:g.wait=wt
 names: ∀ m∈g.ms,P m.name
 asg:g.ms.map Mem.parts=gZ (g.ms.map Mem.name) p
theorem rR.more {P:ByteArray->Prop} {wt:Int} {p k m:Nat} {g:Gr} (h:rR P wt p k g) (hm:k<=m):rR P wt p m g:=⟨h.ok,by have:=h.clock;omega,by have:=h.gen;omega,h.wait,h.names,h.asg⟩
theorem Ak (l:List Mem):(l.map Mem.a).map Mem.parts=l.map Mem.parts:=by rw[tu];rfl
theorem rR.a_iff {P:ByteArray->Prop} {wt:Int} {p k:Nat} {g:Gr}:rR P wt p k g.a↔rR P wt p k g:=by
 constructor
 rintro⟨h1,h2,h3,h4,h5,h6⟩
 refine⟨(Gb g).1 h1,h2,h3,h4,fun m hm=>h5 m.a (bM hm),?_⟩
 have h6:(g.ms.map Mem.a).map Mem.parts=gZ ((g.ms.map Mem.a).map Mem.name) p:=h6
 rw[tK,Ak]at h6
 exact h6
 rintro⟨h1,h2,h3,h4,h5,h6⟩
 refine⟨(Gb g).2 h1,h2,h3,h4,fun m hm=> ?_,?_⟩
 obtain⟨x,hx,rfl⟩:=bK.1 (show m∈g.ms.map Mem.a from hm)
 exact h5 x hx
 show(g.ms.map Mem.a).map Mem.parts=gZ ((g.ms.map Mem.a).map Mem.name) p
 rw[tK,Ak]
 exact h6
theorem rR.a {P:ByteArray->Prop} {wt:Int} {p k:Nat} {g:Gr} (h:rR P wt p k g):rR P wt p k g.a:=rR.a_iff.2 h
theorem rR.of_a {P:ByteArray->Prop} {wt:Int} {p k:Nat} {g:Gr} (h:rR P wt p k g.a):rR P wt p k g:=rR.a_iff.1 h
theorem xx: ∀ (l:List Int) (a:Int),l.Pairwise (· < ·)->(∀ q∈l,a<q/\q<4)->fa a l=true
 |[],_,_,_=>rfl
 |x::l,a,hp,hq=>by
  obtain⟨h1,h2⟩:=ec.1 hp
  unfold fa
  have:=hq x (aA ..)
  rw[xx l x h2 fun q hq'=>⟨h1 q hq',(hq q (aj _ hq')).2⟩]
  simp[this.1,this.2]
theorem KX (n:Nat):(rT n).Pairwise (· < ·):=by
 unfold rT
 rw[eQ]
 exact List.pairwise_lt_range.imp fun h=>by omega
theorem I8 {names:List ByteArray} {p i:Nat} (hp:p<=4):fa (-1) (mY names p i)=true:=by
 refine xx _ _ ((KX p).filter _) fun q hq=> ?_
 obtain⟨j,hj,rfl⟩:=yf.1 (gT.1 hq).1
 omega
theorem E9 (ms:List Mem) (p:Nat):(pJ ms p).map Mem.name=ms.map Mem.name:=by
 unfold pJ
 rw[List.map_zipWith]
 refine dg fun i=> ?_
 rw[qU,aJ]
 unfold gZ
 rw[aJ,bF]
 cases h:ms[i]? with
 |none=>rfl
 |some m=>
  have:=(bZ h).1
  rw[tg this]
  rfl
theorem Iu (ms:List Mem) (p:Nat):(pJ ms p).map Mem.parts=gZ (ms.map Mem.name) p:=by
 unfold pJ
 rw[List.map_zipWith]
 refine dg fun i=> ?_
 rw[qU]
 cases h:ms[i]? with
 |none=>
  have:ms.length<=i:=by simpa using h
  rw[bL (by rw[pe,bF];exact this)]
 |some m=>
  have:=(bZ h).1
  have hl:i<(gZ (ms.map Mem.name) p).length:=by rw[pe,bF];exact this
  rw[ai hl]
theorem Df {ms:List Mem} {p:Nat} {m:Mem} (h:m∈pJ ms p): ∃ x∈ms,m.name=x.name/\m.heard=x.heard:=by
 obtain⟨i,hi⟩:=aN.1 h
 unfold pJ at hi
 rw[qU]at hi
 split at hi
 rename_i x l hx hl
 injection hi with hi
 exact⟨x,ab hx,by rw[<-hi],by rw[<-hi]⟩
 cases hi
theorem Pw {P:ByteArray->Prop} {wt:Int} {p k:Nat} {g:Gr} (hp:p<=4) (hk:k<=100000) (hc:0<=g.clock/\g.clock<=1000*(k+1)) (hw:g.wait=wt) (hw1:1<=g.wait/\g.wait<=1000) (hg:0<=g.gen/\g.gen<=k) (hl:(g.ms.length:Int)<=6) (hol:(g.os.length:Int)<=4) (hm: ∀ m∈g.ms,bC m.name=true/\P m.name/\0<=m.heard/\m.heard<=g.clock) (ha:ly g.ms) (ho:(∀ o∈g.os,0<=o.part/\o.part<4/\0<=o.at_/\o.at_<=400)/\g.os.Pairwise (fun a b=>a.part<b.part)):rR P wt p (k+1) (JW g p):=by
 refine⟨dC.2 ⟨⟨⟨hc.1,by show g.clock<=_;omega⟩,hw1.1,hw1.2,⟨by show 0<=g.gen+1;omega,by show g.gen+1<=_;omega⟩,by show((pJ g.ms p).length:Int)<=6;rw[De];exact hl,hol⟩,⟨fun m hm2=> ?_,?_⟩,ho⟩,by show g.clock<=_;omega,by show g.gen+1<=_;omega,hw,fun m hm2=> ?_,?_⟩
 obtain⟨x,hx,e1,e2⟩:=Df hm2
 obtain⟨i,hi⟩:=Dd hm2
 obtain⟨a1,a2,a3,a4⟩:=hm x hx
 exact j0.2 ⟨by rw[e1];exact a1,by rw[e2];exact a3,by rw[e2];exact a4,by rw[hi];exact I8 hp⟩
 unfold ly
 show((pJ g.ms p).map _).Pairwise _
 rw[E9];exact ha
 obtain⟨x,hx,e1,-⟩:=Df hm2
 rw[e1];exact(hm x hx).2.1
 show(pJ g.ms p).map _=gZ ((pJ g.ms p).map _) p
 rw[E9,Iu]
theorem rR.mems {P:ByteArray->Prop} {wt:Int} {p k:Nat} {g:Gr} (h:rR P wt p k g): ∀ m∈g.ms,bC m.name=true/\P m.name/\0<=m.heard/\m.heard<=g.clock:=fun m hm=>by
 obtain⟨-,⟨h2,-⟩,-⟩:=dC.1 h.ok
 obtain⟨a1,a2,a3,-⟩:=j0.1 (h2 m hm)
 exact⟨a1,h.names m hm,a2,a3⟩
theorem rR.join {P:ByteArray->Prop} {wt:Int} {p k:Nat} {g:Gr} {s:ByteArray} (h:rR P wt p k g) (hp:p<=4) (hk:k<=100000) (hn:bC s=true) (hs:P s) (he:(uk g s p).2=0):rR P wt p (k+1) (uk g s p).1:=by
 obtain⟨⟨h1,h2,h3,h4,h5,h6⟩,⟨h7,h8⟩,h9⟩:=dC.1 h.ok
 unfold uk at he⊢
 cases hf:kE g s with
 |some x=>rw[hf]at he;cases he
 |none=>
  rw[hf]at he
  dsimp only at he⊢
  by_cases hl:g.ms.length=6
  rw[if_pos hl]at he;cases he
  rw[if_neg hl]
  have hno:=Od hf
  have hck:=h.clock
  refine Pw hp hk ⟨h1.1,by show g.clock<=_;omega⟩ h.wait ⟨h2,h3⟩ ⟨h4.1,h.gen⟩ ?_ h6 (fun m hm=> ?_) ?_ h9
  show((g.ms++[_]).length:Int)<=6
  rw[av,bv];omega
  rcases ar.1 hm with hm|hm
  exact h.mems m hm
  rw[aq.1 hm]
  exact⟨hn,hs,h1.1,fj _⟩
  unfold ly at h8⊢
  show((g.ms++[FO s g.clock]).map _).Pairwise _
  rw[bi,mE]
  refine⟨h8,by simp,fun a ha b hb=> ?_⟩
  obtain⟨t,ht,rfl⟩:=bK.1 ha
  simp only[dB,mT,aq]at hb
  subst hb
  exact hno t ht
theorem JY {l:List Mem} {i:Nat} {t t':Mem} (h:ly l) (hi:l[i]? =some t) (hn:t'.name=t.name):ly (l.set i t'):=by
 unfold ly at h⊢
 rw[cO,hn,v6 (by rw[aJ,hi];rfl)]
 exact h
theorem rR.beat {P:ByteArray->Prop} {wt:Int} {p k:Nat} {g:Gr} {s:ByteArray} {gn:Int} (h:rR P wt p k g) (he:(y0 g s gn).2=0):rR P wt p (k+1) (y0 g s gn).1:=by
 obtain⟨⟨h1,h2,h3,h4,h5,h6⟩,⟨h7,h8⟩,h9⟩:=dC.1 h.ok
 unfold y0 at he⊢
 cases hf:kE g s with
 |none=>rw[hf]at he;cases he
 |some x=>
  obtain⟨i,t⟩:=x
  rw[hf]at he
  dsimp only at he⊢
  obtain⟨-,ht,-⟩:=nV hf
  have hm:=ab ht
  have hck:=h.clock
  have hgn:=h.gen
  by_cases hg:g.gen=gn
  rw[if_pos hg]
  refine⟨dC.2 ⟨⟨h1,h2,h3,h4,?_,h6⟩,⟨fun m hm2=> ?_,JY h8 ht Z⟩,h9⟩,?_,?_,h.wait,fun m hm2=> ?_,?_⟩
  show((g.ms.set i _).length:Int)<=6
  rw[ae];exact h5
  rcases aD hm2 with hm2|rfl
  exact h7 m hm2
  have:=j0.1 (h7 t hm)
  exact j0.2 ⟨this.1,h1.1,fj _,this.2.2.2⟩
  show g.clock<=_;omega
  show g.gen<=_;omega
  rcases aD hm2 with hm2|rfl
  exact h.names m hm2
  exact h.names t hm
  show(g.ms.set i _).map _=gZ ((g.ms.set i _).map _) p
  rw[cO,cO]
  rw[v6 (by rw[aJ,ht];rfl),v6 (by rw[aJ,ht];rfl)]
  exact h.asg
  rw[if_neg hg]at he;cases he
theorem Jc {os:List mP} {part:Int}: ∀ o∈os.take (m0 os part),o.part<part:=by
 unfold m0
 intro o ho
 rw[<-List.prefix_iff_eq_take.1 (List.takeWhile_prefix _)]at ho
 have:=eD.1 (List.all_takeWhile (p:=fun o:mP=>decide (o.part<part)) (l:=os)) o ho
 simpa using this
theorem Cb {os:List mP} {part:Int} (h:os.Pairwise (fun a b=>a.part<b.part)): ∀ o∈os.drop (m0 os part),part<=o.part:=by
 induction os with
 |nil=>intro o ho;simp at ho
 |cons x l ih=>
  obtain⟨h1,h2⟩:=ec.1 h
  intro o ho
  by_cases hx:x.part<part
  have e:m0 (x::l) part=m0 l part+1:=by unfold m0;rw[List.takeWhile_cons_of_pos (by simpa using hx)];rfl
  rw[e,BJ]at ho
  exact ih h2 o ho
  have e:m0 (x::l) part=0:=by unfold m0;rw[List.takeWhile_cons_of_neg (by simpa using hx)];rfl
  rw[e,List.drop_zero]at ho
  rcases ay.1 ho with rfl|ho
  omega
  have:=h1 o ho;omega
theorem N7 {os:List mP} (h:os.Pairwise (fun a b=>a.part<b.part)) (hb: ∀ o∈os,0<=o.part/\o.part<4):(os.length:Int)<=4:=by
 have h1:fa (-1) (os.map mP.part)=true:=xx _ _ (eQ.2 h) fun q hq=>by
  obtain⟨o,ho,rfl⟩:=bK.1 hq
  have:=hb o ho;omega
 have:=mX h1
 rw[bF]at this
 omega
theorem Ly {os:List mP} {part at_:Int} (h0:0<=part) (h3:part<4) (ha0:0<=at_) (ha:at_<=400) (ho:(∀ o∈os,0<=o.part/\o.part<4/\0<=o.at_/\o.at_<=400)/\os.Pairwise (fun a b=>a.part<b.part)):((∀ o∈hJ os part at_,0<=o.part/\o.part<4/\0<=o.at_/\o.at_<=400)/\(hJ os part at_).Pairwise (fun a b=>a.part<b.part)):=by
 obtain⟨h1,h2⟩:=ho
 unfold hJ
 split
 rename_i hp
 obtain⟨o,hx,hxp⟩:=i4.1 hp
 refine⟨fun y hy=> ?_,?_⟩
 rcases aD hy with hy|rfl
 exact h1 y hy
 exact⟨h0,h3,ha0,ha⟩
 have:(os.set (m0 os part) ⟨part,at_⟩).map mP.part=os.map mP.part:=by
  rw[cO,v6 (by rw[aJ,hx];show some o.part=some part;rw[hxp])]
 rw[<-eQ (f:=mP.part) (R:=fun a b:Int=>a<b),this,eQ]
 exact h2
 rename_i hp
 refine⟨fun y hy=> ?_,?_⟩
 simp only[ar,aq]at hy
 rcases hy with(hy|rfl)|hy
 exact h1 y (AL hy)
 exact⟨h0,h3,ha0,ha⟩
 exact h1 y (List.mem_of_mem_drop hy)
 have hd: ∀ o∈os.drop (m0 os part),part<o.part:=fun o ho=>by
  have h4:=Cb h2 o ho
  rcases Int.lt_or_eq_of_le h4 with h5|h5
  exact h5
  exfalso
  obtain⟨j,hj⟩:=aN.1 ho
  cases hd:os.drop (m0 os part)with
  |nil=>rw[hd]at hj;simp at hj
  |cons y l=>
   have hy:os[m0 os part]? =some y:=by
    have:=congrArg (fun l=>l[0]?) hd
    simpa [df]using this
   have hyp:y.part≠part:=fun h=>hp (by rw[hy];exact congrArg some h)
   have hy1:=Cb h2 y (by rw[hd];exact aA ..)
   have hpw:(y::l).Pairwise (fun a b=>a.part<b.part):=hd▸h2.sublist (List.drop_sublist _ _)
   rw[hd]at ho
   rcases ay.1 ho with rfl|ho
   exact hyp h5.symm
   have:=(ec.1 hpw).1 o ho;omega
 rw[aB,mE]
 refine⟨h2.sublist (List.take_sublist _ _),?_,fun a ha b hb=> ?_⟩
 show(_::os.drop (m0 os part)).Pairwise _
 exact ec.2 ⟨hd,h2.sublist (List.drop_sublist _ _)⟩
 have h5:=Jc a ha
 rcases ar.1 hb with hb|hb
 rw[aq.1 hb];exact h5
 have:=hd b hb;omega
theorem rR.store {P:ByteArray->Prop} {wt:Int} {p k:Nat} {g:Gr} {s:ByteArray} {gn part at_:Int} (h:rR P wt p k g) (ha0:0<=at_) (he:(tC g s gn part at_).2=0):rR P wt p (k+1) (tC g s gn part at_).1:=by
 obtain⟨⟨h1,h2,h3,h4,h5,h6⟩,⟨h7,h8⟩,h9⟩:=dC.1 h.ok
 unfold tC at he⊢
 cases hf:kE g s with
 |none=>rw[hf]at he;cases he
 |some x=>
  obtain⟨i,t⟩:=x
  rw[hf]at he
  dsimp only at he⊢
  obtain⟨-,ht,-⟩:=nV hf
  have hm:=ab ht
  have hck:=h.clock
  have hgn:=h.gen
  by_cases hg:g.gen=gn
  rw[if_pos hg]at he⊢
  by_cases hat:400<at_
  rw[if_pos hat]at he;cases he
  rw[if_neg hat]at he⊢
  by_cases hpt:part∈t.parts
  rw[if_pos hpt]
  have hp4:=(fE (j0.1 (h7 t hm)).2.2.2).2 part hpt
  have ho:=Ly I hp4.2 ha0 I h9
  exact⟨dC.2 ⟨⟨h1,h2,h3,h4,h5,N7 ho.2 fun o hx=>⟨(ho.1 o hx).1,(ho.1 o hx).2.1⟩⟩,⟨h7,h8⟩,ho⟩,by show g.clock<=_;omega,by show g.gen<=_;omega,h.wait,h.names,h.asg⟩
  rw[if_neg hpt]at he;cases he
  rw[if_neg hg]at he;cases he
theorem rR.tick {P:ByteArray->Prop} {wt:Int} {p k:Nat} {g:Gr} {n:Int} (h:rR P wt p k g) (hp:p<=4) (hk:k<=100000) (hn0:0<=n) (hn:n<=1000):rR P wt p (k+1) (qo g n p):=by
 obtain⟨⟨h1,h2,h3,h4,h5,h6⟩,⟨h7,h8⟩,h9⟩:=dC.1 h.ok
 have hck:=h.clock
 have hgn:=h.gen
 unfold qo
 by_cases hl:(g.ms.filter fun m=>!uY g n m).length=g.ms.length
 rw[if_pos hl]
 refine⟨dC.2 ⟨⟨⟨by show 0<=g.clock+n;omega,by show g.clock+n<=_;omega⟩,h2,h3,h4,h5,h6⟩,⟨fun m hm=> ?_,h8⟩,h9⟩,by show g.clock+n<=_;omega,by show g.gen<=_;omega,h.wait,h.names,h.asg⟩
 obtain⟨a1,a2,a3,a4⟩:=j0.1 (h7 m hm)
 exact j0.2 ⟨a1,a2,by show m.heard<=g.clock+n;omega,a4⟩
 rw[if_neg hl]
 have hsub:(g.ms.filter fun m=>!uY g n m).Sublist g.ms:=List.filter_sublist
 refine Pw hp hk ⟨by show 0<=g.clock+n;omega,by show g.clock+n<=_;omega⟩ h.wait ⟨h2,h3⟩ ⟨h4.1,h.gen⟩ ?_ h6 (fun m hm=> ?_) ?_ h9
 have:=hsub.length_le
 show((g.ms.filter fun m=>!uY g n m).length:Int)<=6
 omega
 obtain⟨a1,a2,a3,a4⟩:=h.mems m (hsub.subset hm)
 exact⟨a1,a2,a3,by show m.heard<=g.clock+n;omega⟩
 unfold ly at h8⊢
 exact h8.sublist (hsub.map _)
theorem rG {g:Gr} {s:ByteArray} {i:Nat} {t:Mem} (h:kE g s=some (i,t)):kE g.a s=some (i,t.a):=by rw[KA,h];rfl
theorem rH {g:Gr} {s:ByteArray} (h:kE g s=none):kE g.a s=none:=by rw[KA,h];rfl
abbrev Fi (f:FuncId) (args:List Value) (w:World) (x:Gr×Int):Prop:=di aa f args w fun v w2=> ∃ g':Gr,v=.tuple #[g'.v,J x.2]/\g'.a=x.1/\AH w w2 g'
theorem LV (g:Gr) (s:ByteArray) (p:Nat) (w:World) (h:g.rd 0 w.heap.size w) (hok:ma g=true) (hn:bC s=true) (hp:p<=4) (hg1:g.gen<1073741824):Fi p8 [g.v,.string s,J (p:Nat)] w (uk g.a s p):=by
 unfold Fi uk
 cases hf:kE g s with
 |none=>
  rw[rH hf]
  dsimp only
  by_cases hl:g.ms.length=6
  rw[if_pos (show g.a.ms.length=6 by simpa [Gr.a]using hl)]
  exact(LU g s p w h hok hn hp hg1 (nW hf) hl).mono fun v w2 ⟨h1,h2⟩=>⟨Du,h1,rfl,ry h2⟩
  rw[if_neg (show¬ g.a.ms.length=6 by simpa [Gr.a]using hl)]
  exact QT g s p w h hok hn hp hg1 (nW hf) hl
 |some x=>
  obtain⟨i,t⟩:=x
  rw[rG hf]
  exact(Jq g s p w h hok hn hp hg1 i (nV hf).1).mono fun v w2 ⟨h1,h2⟩=>⟨Du,h1,rfl,ry h2⟩
theorem MH (g:Gr) (s:ByteArray) (gn:Int) (w:World) (h:g.rd 0 w.heap.size w) (hok:ma g=true) (hn:bC s=true):Fi p9 [g.v,.string s,J gn] w (y0 g.a s gn):=by
 unfold Fi y0
 cases hf:kE g s with
 |none=>
  rw[rH hf]
  exact(MG g s gn w h hok hn (nW hf)).mono fun v w2 ⟨h1,h2⟩=>⟨Du,h1,rfl,ry h2⟩
 |some x=>
  obtain⟨i,t⟩:=x
  rw[rG hf]
  obtain⟨hi,ht,-⟩:=nV hf
  dsimp only
  by_cases hg:g.gen=gn
  rw[if_pos (show g.a.gen=gn from hg)]
  exact Ri g s gn w h hok hn i t hi ht hg
  rw[if_neg (show¬ g.a.gen=gn from hg)]
  exact(JT g s gn w h hok hn i hi hg).mono fun v w2 ⟨h1,h2⟩=>⟨Du,h1,rfl,ry h2⟩
theorem IS (g:Gr) (s:ByteArray) (gn part at_:Int) (w:World) (h:g.rd 0 w.heap.size w) (hok:ma g=true) (hn:bC s=true) (ha:0<=at_):Fi j5 [g.v,.string s,J gn,J part,J at_] w (tC g.a s gn part at_):=by
 unfold Fi tC
 cases hf:kE g s with
 |none=>
  rw[rH hf]
  exact(IR g s gn part at_ w h hok hn (nW hf)).mono fun v w2 ⟨h1,h2⟩=>⟨Du,h1,rfl,ry h2⟩
 |some x=>
  obtain⟨i,t⟩:=x
  rw[rG hf]
  obtain⟨hi,ht,-⟩:=nV hf
  dsimp only
  by_cases hg:g.gen=gn
  rw[if_pos (show g.a.gen=gn from hg)]
  by_cases hat:400<at_
  rw[if_pos hat]
  exact(GX g s gn part at_ w h hok hn i hi hg hat).mono fun v w2 ⟨h1,h2⟩=>⟨Du,h1,rfl,ry h2⟩
  rw[if_neg hat]
  by_cases hp:part∈t.parts
  rw[if_pos (show part∈t.a.parts from hp)]
  exact Nl g s gn part at_ w h hok hn i t hi ht hg ha I hp
  rw[if_neg (show¬ part∈t.a.parts from hp)]
  exact(GW g s gn part at_ w h hok hn i t hi ht hg ha I hp).mono fun v w2 ⟨h1,h2⟩=>⟨Du,h1,rfl,ry h2⟩
  rw[if_neg (show¬ g.a.gen=gn from hg)]
  exact(GY g s gn part at_ w h hok hn i hi hg).mono fun v w2 ⟨h1,h2⟩=>⟨Du,h1,rfl,ry h2⟩
theorem tA (g:Gr) (s:ByteArray) (part:Int) (w:World) (h:g.rd 0 w.heap.size w) (hok:ma g=true) (hn:bC s=true):di aa oo [g.v,.string s,J part] w fun v w2=>v=.tuple #[J (eS g.a s part).1,J (eS g.a s part).2]/\Below w.heap.size w w2:=by
 unfold eS
 cases hf:kE g s with
 |none=>
  rw[rH hf]
  exact II g s part w h hok hn (nW hf)
 |some x=>
  obtain⟨i,t⟩:=x
  rw[rG hf]
  obtain⟨hi,ht,-⟩:=nV hf
  dsimp only
  by_cases hp:part∈t.parts
  rw[if_pos (show part∈t.a.parts from hp)]
  exact M9 g s part w h hok hn i t hi ht hp
  rw[if_neg (show¬ part∈t.a.parts from hp)]
  exact GN g s part w h hok hn i t hi ht hp
def TJ:Deep Gr:=⟨fun g=>g.rd,fun _ _ _ _ _ hk h=>h.st hk,fun _ _ _ _ _ _ h h1 h2=>h.mono h1 h2⟩
theorem QG (P:ByteArray->Prop) {wt:Int} (p:Nat) (h1:1<=wt) (h2:wt<=1000):rR P wt p 0 ⟨0,wt,0,[],none,0,[],none,0⟩:=⟨dC.2 ⟨⟨⟨by simp,by simp⟩,h1,h2,⟨by simp,by simp⟩,by simp,by simp⟩,⟨by simp,by simp[ly]⟩,by simp,by simp⟩,by simp,by simp,rfl,by simp,by simp[gZ]⟩
theorem rR.next {P:ByteArray->Prop} {wt:Int} {p k:Nat} {q:Gr} {r:Gr×Int} (h:r.2=0->rR P wt p (k+1) r.1) (ha:q.a=r.1):r.2=0->rR P wt p (k+1) q:=fun h0=>rR.of_a (ha▸h h0)
end Go.Proofs.YtclibalpdhhhfaaGreatDoor
