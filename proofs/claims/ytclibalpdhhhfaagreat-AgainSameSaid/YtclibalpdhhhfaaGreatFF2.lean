/- Part 2 of the proofs over this seat: what its theorems say holds for every input that they name. -/
import Derived.Test.YtclibalpdhhhfaaGreatFF1
namespace Go.Proofs.YtclibalpdhhhfaaGreat
open Go Go.Eng Go.RowKit
open Go.Eng renaming nG→U, BH→W, KA→Zr, OL→Zk, Rh→Zt, QD→Zb, QW→Zx, Rr→Yi, Rs→Yb, Rp→Ys, Rq→Yp, Ro→Yt, Rm→Yu, RH→Wi, RI→Wb, RF→Ws, RG→Wp, Rv→Zf, Ry→Xi, RC→Xa, Rx→Xs, Q3→Kt, Q4→N, pV→ZT, oQ→ZF
open Go.Proofs.Tryz renaming prog→aa
open _root_.List renaming mem_of_getElem?→ab,length_set→ae,getElem?_eq_getElem→ah,getElem?_set_self→al,mem_append→ap,mem_singleton→aq,replicate→au,mem_cons→ax,length_append→ay,mem_cons_self→az,getElem?_eq_some_iff→aA,append_assoc→aD,length_take→aI,getElem?_map→aL,mem_or_eq_of_mem_set→aM,findIdx?_eq_some_iff_getElem→aS,mem_iff_getElem?→aT,append_nil→aZ,map_append→bl,mem_map→bp,length_replicate→bI,length_map→bJ,take_length→bN,length_singleton→bO,getElem?_set_ne→bQ,mem_map_of_mem→bS,eq_nil_of_length_eq_zero→bT,mem_nil_iff→bU,length_cons→bV,getElem?_append_right→bX,getD_eq_getElem?_getD→bY,length→ci,mem_append_right→cj,sublist_append_right→cr,getElem?_append_left→cu,map_set→cE,getElem?_eq_none→cL,findIdx?_eq_none_iff→cV,eq_of_mem_replicate→dg,take_take→dk,getElem?_take→dm,length_drop→dI,pairwise_cons→dY,mem_singleton_self→d5,ext_getElem?→en,drop_of_length_le→eo,map_cons→ey,set_set→fy,prefix_refl→fz,drop_length→fA,getElem?_replicate→f5,pairwise_map→gm,take_append_of_le_length→iu,filter_append→jj,set_append_right→jk,replicate_succ→j0,filter_eq_self→j4,take_subset→j9,filter_cons_of_pos→ka,drop_drop→kb,nodup_cons→kX,perm_append_singleton→mi,map_nil→mB,pairwise_iff_getElem→m8,filter_cons_of_neg→oX,nodup_append→px,getElem?_zipWith→qx,perm_middle→qz,cons_append→qA,drop_set_of_lt→sk,take→tc,any_eq_false→uD,getElem_mem→vU,perm_append_comm→xQ,take_zero→zh,take_set_of_le→zS,getElem?_range→zU,set_comm→BY,set_cons_zero→B3,range→B4
open _root_.List.Perm renaming cons→ai,swap→am
open _root_.Nat renaming le_refl→ao,le_trans→aU,min_eq_left→bu,le_succ→bC,zero_le→bG,zero_add→cJ,add_mul→cR,mul_le_mul_right→dp,beq→ez,lt_of_lt_of_le→f4,one_mul→gL,mod_lt→jJ,sub_self→my,le_of_lt→mz
open _root_.List.Sublist renaming refl→ar
open _root_.Bool renaming and_eq_true→aR,true_and→hJ,not_eq_true'→pD,or_eq_true→rQ
open _root_.Option.some renaming inj→ba,injEq→lB
open _root_.Array renaming length_toList→cn
open _root_.Option renaming map_some→eY,map_eq_some_iff→iS
open _root_.Int renaming le_refl→fj,toNat_natCast→uE
open _root_.List.Mem renaming head→fM
set_option maxHeartbeats 4000000
set_option maxRecDepth 20000
set_option linter.unusedSimpArgs false
set_option linter.unusedVariables false
set_option linter.unusedSectionVars false
/-- P4.7: a replica's crash -/
def kE (p:fD) (r keep:Nat):fD×Int:=match p.reps[r]? with
 |none=>(gw,5)
 |some x=>if x.up=false then(gw,7)else
  ({p with reps:=p.reps.set r {up:=false,es:=x.es.take (jZ x.es x.s keep),s:=jZ x.es x.s keep,high:=min x.high (((x.es.take (jZ x.es x.s keep)).length:Nat):Int)},known:=p.known.set r 0,leader:=if p.leader=r then-1 else p.leader},0)
def oe (p:fD) (r:Nat):fD×Int:=match p.reps[r]? with
 |none=>(gw,5)
 |some x=>if x.up=true then(gw,12)else if true∉p.isr.set r false then(gw,8)else
  ({p with reps:=p.reps.set r ⟨false,[],0,0⟩,known:=p.known.set r 0,isr:=p.isr.set r false},0)
theorem JW (p:Pa) (r keep:Nat) (w:World) (h:p.rd 0 w.heap.size w) (hok:p.a.ok) (hr:r<p.reps.length) (hkp:keep<=1000000000000):dh aa Et [p.v,J (r:Nat),J (keep:Nat)] w fun v w2=> ∃ p':Pa,v=.tuple #[p'.v,J (kE p.a r keep).2]/\p'.a=(kE p.a r keep).1/\eA w w2 p':=by
 refine aE Cu Z Z ?_
 obtain⟨hn1,hn2,hil,hkl,hf1,hf2,he0,he1,hl0,hl1,hb0,hb1,hsm⟩:=Pa.facts hok
 have hkn:=hok.known
 have hiC:=h.iC
 have hkC:=h.kC
 have hrC:=h.rC
 have hfew:=h.few
 have H:=Hp.startPa h
 obtain⟨ep,ld,isr,iA,iC,kn,kA,kC,reps,rA,rC,fw,bs⟩:=p
 simp only[Pa.a]at hkn
 dsimp only at H hn1 hn2 hil hkl hf1 hf2 he0 he1 hl0 hl1 hb0 hb1 hsm hiC hkC hrC hfew
 dsimp only at hr
 show CW _ _ _ _ (args [.agg #[J (ep),J (ld),.slice iA isr.length iC,.slice kA kn.length kC,.slice rA reps.length rC,J (fw),J (bs)],J (((r:Nat):Int)),J (((keep:Nat):Int))]) w
 refine W<|Zr<|f7 H Z Z fun w1 b3 H=>eP H bv Z fun w2 b6 H=>G (Wi Z)<|U<|W<|Zr<|G (Zw aH H 1 Z Z Z)<|G (Yi Z)<|ch kG (tQ ⟨ep,ld,isr,iA,iC,kn,kA,kC,reps,rA,rC,fw,bs⟩ r _ (Hp.pa H 0 Z) hok hr) Z Z ?_
 rintro _ w3 ⟨⟨ep2,ld2,is2,iA2,c1,kn2,kA2,c2,rs,rA2,c3,fw2,bs2⟩,g1,g2,g3,u1,u2,u3,rfl,ha2,ho⟩
 simp only[Pa.a,fD.mk.injEq]at ha2
 obtain⟨e1,e2,e3,e4,hma,e6,e7⟩:=ha2
 obtain rfl:ep=ep2:=e1.symm
 obtain rfl:ld=ld2:=e2.symm
 obtain rfl:isr=is2:=e3.symm
 obtain rfl:kn=kn2:=e4.symm
 obtain rfl:fw=fw2:=e6.symm
 obtain rfl:bs=bs2:=e7.symm
 have hrl:rs.length=reps.length:=by have:=congrArg ci hma;simpa using this
 obtain⟨i1,i2,i3,row1,row2,row3,hcp,hlos,-,hjn⟩:=ho
 dsimp only at i1 i2 i3 row1 row2 row3 hcp hlos hjn
 subst i1;subst i2;subst i3
 have hlo0:=H.size
 replace H:=H.joinF hjn (by intro f hf;obtain⟨r,hr,rfl⟩:=bp.1 hf;exact hlos r hr)
 replace hlos: ∀ r∈rs,w.heap.size<=r.lo:=fun r hr=>aU hlo0 (hlos r hr)
 clear hjn
 have hlg:=qw.of (F:=[DM 0 w.heap.size ⟨ep,ld,isr,iA,iC,kn,kA,kC,reps,rA,rC,fw,bs⟩,dU eX 0 w.heap.size iA isr,dU bR 0 w.heap.size kA kn,dU g8 0 w.heap.size rA reps]) hcp hlos
 have hok2: ∀ {i:Nat} {x:fk},rs[i]? =some x->GL x.es x.s/\0<=x.high/\x.high<=x.es.length:=fun hx=>wV hma hok hx
 obtain⟨x,hx⟩: ∃ x,rs[r]? =some x:=⟨_,ah I⟩
 have hxa:=wh hma hx
 refine G (Yu Z)<|G (Xa Z Z)<|G (Xi Z Z)<|bo H 4 (#[J (ep),J (ld),.slice (Qd g1) isr.length c1,.slice (Qd g2) kn.length c2,.slice (Qd g3) rs.length c3,J (fw),J (bs)]) aK Z Z Z Z Z N N fun w4 H=>G (Wi Z)<|U<|W<|W<|Zr<|G (Yi Z)<|G (bZ Z Z Z)<|U<|ZF Z<|Zk<|W<|Zr<|G (Zf cU Z)<|G (Zd bW H 4 Z Z Z)<|G (Yi Z)<|G (cG bx Z Z (by first|omega|(simp only[ae];omega)))<|G (Wp Z)<|U<|W<|W<|Zr<|G (Yp Z)<|G (aJ Z)<|G (Zf fB Z) ?_
 refine wW (bP dS row3 hx 0 Z (H.ent (i:=2) Z) Z) Z Z Z (fun h30=> ?_) (fun h30=> ?_)
 refine G (dM Z)<|U<|ZF Z<|Zk<|W ?_
 obtain⟨m,hm⟩: ∃ m,jZ x.es x.s keep=m:=⟨_,rfl⟩
 have hlo:=H.size
 refine Zr<|G (Yp Z)<|G (aJ Z)<|G (Zf dA Z)<|G (tW 1 [.slice x.A ((bj x.es).length) x.cap,J (((fW x.es x.s:Nat):Int))] eV row3 hx Z Z (H.ent (i:=2) Z) Z)<|G (Yi Z)<|ch EU ((by have hA:=FD (fk.log x) keep _ (hlg.log H hx (hok2 hx).1) hkp;dsimp only[fk.log]at hA;rw[hm]at hA;exact hA)) Z Z ?_
 rintro _ w5 ⟨A39,c39,rfl,⟨hgl9,hc39,hr39⟩,hb39⟩;replace H:=H.learnRd hb39 hr39;clear hb39 hr39
 refine G (Yu Z)<|G (Xa Z Z)<|G (Xi Z Z)<|eP H p6 Z fun w6 b10 H=>bo H 0 (#[.slice A39 ((bj (x.es.take m)).length) c39,J (((fW (x.es.take m) m:Nat):Int))]) jl Z Z Z Z Z N N fun w7 H=>G (Wi Z)<|U<|W<|W<|Zr<|G (Yi Z)<|G (bZ Z Z Z)<|U<|ZF Z<|Zk<|W ?_
 obtain⟨kx,hkx⟩: ∃ kx,kn[r]? =some kx:=⟨_,ah I⟩
 refine eN (τ:=Unit) [46,47,48,49,50,51,52,53,54,55,56] (fun _=>[]) (fun _ w'=> ∃ v2 v3,dX bR (kn.set r 0) c2 v2/\dX g8 (rs.set r {x with up:=false,A:=A39,cap:=c39,es:=(x.es.take m),s:=m,lo:=w4.heap.size,hi:=w5.heap.size}) c3 v3/\Hp w w' [(b10,.cells #[.slice A39 ((bj (x.es.take m)).length) c39,J (((fW (x.es.take m) m:Nat):Int))] BW (0,0)),(g1,.cells u1 jr (0,0)),(g2,.cells v2 db (0,0)),(g3,.cells v3 fZ (0,0)),(b6,.cells #[J 0,J 0,.slice none 0 0,.slice none 0 0,.slice none 0 0,J 0,J 0] bF (0,0)),(b3,.cells #[J (ep),J (ld),.slice (Qd g1) isr.length c1,.slice (Qd g2) kn.length c2,.slice (Qd g3) rs.length c3,J (fw),J (bs)] bF (0,0))] ([dU dC w4.heap.size w5.heap.size A39 (bj (x.es.take m)),DM 0 w.heap.size ⟨ep,ld,isr,iA,iC,kn,kA,kC,reps,rA,rC,fw,bs⟩,dU eX 0 w.heap.size iA isr,dU bR 0 w.heap.size kA kn,dU g8 0 w.heap.size rA reps]++te rs)) ?_ ?_
 refine pW cd (fun w'=>w'.heap[b3]? =some (.cells #[J (ep),J (ld),.slice (Qd g1) isr.length c1,.slice (Qd g2) kn.length c2,.slice (Qd g3) rs.length c3,J (fw),J (bs)] bF (0,0))/\w'.heap[b10]? =some (.cells #[.slice A39 ((bj (x.es.take m)).length) c39,J (((fW (x.es.take m) m:Nat):Int))] BW (0,0))) ?_
 intro w8 hw';replace H:=H.later hw';clear hw'
 refine bh 0 N N N Z Z Z Z Nq ⟨H.ent (i:=5) Z,H.ent (i:=0) Z⟩ (fun _ hS=>Yp Z)<|bh 1 N N N Z Z Z Z Nq ⟨H.ent (i:=5) Z,H.ent (i:=0) Z⟩ (fun _ hS=>Yp Z)<|bh 2 N N N Z Z Z Z Nq ⟨H.ent (i:=5) Z,H.ent (i:=0) Z⟩ (fun _ hS=>Zf gh Z)<|bh 3 N N N Z Z Z Z Nq ⟨H.ent (i:=5) Z,H.ent (i:=0) Z⟩ (fun _ hS=>aW cy Z (aB hS.1 Z))<|bh 4 N N N Z Z Z Z Nq ⟨H.ent (i:=5) Z,H.ent (i:=0) Z⟩ (fun _ hS=>Yi Z)<|bh 5 N N N Z Z Z Z Nq ⟨H.ent (i:=5) Z,H.ent (i:=0) Z⟩ (fun _ hS=>jL eV Z hS.2 Z)<|bh 6 N N N Z Z Z Z Nq ⟨H.ent (i:=5) Z,H.ent (i:=0) Z⟩ (fun _ hS=>aJ Z)<|bh 7 N N N Z Z Z Z Nq ⟨H.ent (i:=5) Z,H.ent (i:=0) Z⟩ (fun _ hS=>Zf dA Z)<|wK 8 N Z<|k9 H 3 ({x with A:=A39,cap:=c39,es:=(x.es.take m),s:=m,lo:=w4.heap.size,hi:=w5.heap.size}) jl row3 hx 1 Z Z Z Z Z Z N fun w10 cur9 row9 H=> ?_
 have hs11:(rs.set r ({x with A:=A39,cap:=c39,es:=(x.es.take m),s:=m,lo:=w4.heap.size,hi:=w5.heap.size}))[r]? =some ({x with A:=A39,cap:=c39,es:=(x.es.take m),s:=m,lo:=w4.heap.size,hi:=w5.heap.size}):=al (cC hx).1
 refine U ?_
 refine⟨⟨H.ent (i:=5) Z,H.ent (i:=0) Z⟩,?_⟩
 refine bh 9 N N N Z Z Z Z Nq ⟨H.ent (i:=5) Z,H.ent (i:=0) Z⟩ (fun _ hS=>aJ Z)<|bh 10 N N N Z Z Z Z Nq ⟨H.ent (i:=5) Z,H.ent (i:=0) Z⟩ (fun _ hS=>Zf fB Z)<|wK 11 N Z<|k9 H 3 ({x with up:=false,A:=A39,cap:=c39,es:=(x.es.take m),s:=m,lo:=w4.heap.size,hi:=w5.heap.size}) iU row9 hs11 0 Z Z Z Z Z Z N fun w13 cur12 row12 H=> ?_
 have hs14:((rs.set r ({x with A:=A39,cap:=c39,es:=(x.es.take m),s:=m,lo:=w4.heap.size,hi:=w5.heap.size})).set r ({x with up:=false,A:=A39,cap:=c39,es:=(x.es.take m),s:=m,lo:=w4.heap.size,hi:=w5.heap.size}))[r]? =some ({x with up:=false,A:=A39,cap:=c39,es:=(x.es.take m),s:=m,lo:=w4.heap.size,hi:=w5.heap.size}):=al (cC hs11).1
 refine U ?_
 refine⟨⟨H.ent (i:=5) Z,H.ent (i:=0) Z⟩,?_⟩
 refine bh 12 N N N Z Z Z Z Nq ⟨H.ent (i:=5) Z,H.ent (i:=0) Z⟩ (fun _ hS=>cG bc Z Z (by first|omega|(simp only[ae];omega)))<|wK 13 N Z<|k9 H 2 ((0)) bH row2 hkx 0 Z Z Z Z Z Z N fun w16 cur15 row15 H=> ?_
 have hs17:(kn.set r ((0)))[r]? =some ((0)):=al (cC hkx).1
 refine U ?_
 refine⟨⟨H.ent (i:=5) Z,H.ent (i:=0) Z⟩,?_⟩
 refine ny N ?_
 exact⟨(),⟨_,_,row15,(by have:=row12;rwa[fy]at this),H⟩,wC,Qg⟩
 rintro⟨⟩ ρ1 w18 ⟨v2,v3,row2b,row3b,H⟩
 have hs2:(rs.set r {x with up:=false,A:=A39,cap:=c39,es:=(x.es.take m),s:=m,lo:=w4.heap.size,hi:=w5.heap.size})[r]? =some {x with up:=false,A:=A39,cap:=c39,es:=(x.es.take m),s:=m,lo:=w4.heap.size,hi:=w5.heap.size}:=al I
 refine W ?_
 have hlg2:=(hlg.cons (f:=dU dC w4.heap.size w5.heap.size A39 (bj (x.es.take m)))).set r (x:={x with up:=false,A:=A39,cap:=c39,es:=(x.es.take m),s:=m,lo:=w4.heap.size,hi:=w5.heap.size}) ⟨hc39,hlo,fM _⟩
 refine Zr<|G (Zw aH H 5 Z Z Z)<|G (Yi Z)<|ch jI ((by have hA:=qb ⟨ep,ld,isr,some ⟨g1,0,none⟩,c1,kn.set r 0,some ⟨g2,0,none⟩,c2,rs.set r {x with up:=false,A:=A39,cap:=c39,es:=(x.es.take m),s:=m,lo:=w4.heap.size,hi:=w5.heap.size},some ⟨g3,0,none⟩,c3,fw,bs⟩ r {x with up:=false,A:=A39,cap:=c39,es:=(x.es.take m),s:=m,lo:=w4.heap.size,hi:=w5.heap.size} _ (row3b.rd0 (H.ent (i:=3) Z)) hs2 (hlg2.log H hs2 hgl9);simp only[Pa.v,Pa.c,ae]at hA;exact hA)) Z Z ?_
 rintro _ w19 ⟨rfl,hb⟩;replace H:=H.later hb;clear hb
 refine G (Yu Z)<|G (Xi Z Z)<|G (Xi Z Z)<|G (Wi Z)<|G (Wi Z)<|U<|W<|Zr<|G (Yp Z)<|G (Yp Z)<|G (aJ Z)<|G (Zf dZ Z)<|G (bP ak row3b hs2 3 Z (H.ent (i:=3) Z) Z)<|G (Yi Z)<|G (tR Z Z)<|G (aJ Z)<|G (Zf dZ Z)<|k9 H 3 ({x with up:=false,A:=A39,cap:=c39,es:=(x.es.take m),s:=m,lo:=w4.heap.size,hi:=w5.heap.size,high:=min x.high (((x.es.take m).length:Nat):Int)}) bH row3b hs2 3 Z Z Z Z Z Z N fun w21 cur20 row20 H=> ?_
 have hs22:((rs.set r {x with up:=false,A:=A39,cap:=c39,es:=(x.es.take m),s:=m,lo:=w4.heap.size,hi:=w5.heap.size}).set r ({x with up:=false,A:=A39,cap:=c39,es:=(x.es.take m),s:=m,lo:=w4.heap.size,hi:=w5.heap.size,high:=min x.high (((x.es.take m).length:Nat):Int)}))[r]? =some ({x with up:=false,A:=A39,cap:=c39,es:=(x.es.take m),s:=m,lo:=w4.heap.size,hi:=w5.heap.size,high:=min x.high (((x.es.take m).length:Nat):Int)}):=al (cC hs2).1
 refine U<|W<|W<|Zr<|G (Zf dt Z)<|G (Zd ak H 5 Z Z Z)<|G (Yi Z) ?_
 refine cW (bn Z Z) Z Z Z (fun h75=> ?_) (fun h75=> ?_)
 refine U<|ZT Z<|Zr<|G (Zf dt Z)<|bo H 5 (#[J (ep),J ((-1)),.slice (Qd g1) isr.length c1,.slice (Qd g2) kn.length c2,.slice (Qd g3) rs.length c3,J (fw),J (bs)]) bH Z Z Z Z Z N N fun w23 H=>U<|W<|Zr<|G (Zw aH H 5 Z Z Z)<|bo H 4 (#[J (ep),J ((-1)),.slice (Qd g1) isr.length c1,.slice (Qd g2) kn.length c2,.slice (Qd g3) rs.length c3,J (fw),J (bs)]) aK Z Z Z Z Z N N fun w24 H=>G (Wi Z)<|U<|Zt ?_
 have hlg3:=hlg2.same r (x':={x with up:=false,A:=A39,cap:=c39,es:=(x.es.take m),s:=m,lo:=w4.heap.size,hi:=w5.heap.size,high:=min x.high (((x.es.take m).length:Nat):Int)}) (al I) Z Z Z Z Z
 have hS:kE (Pa.a ⟨ep,ld,isr,iA,iC,kn,kA,kC,reps,rA,rC,fw,bs⟩) r keep=({Pa.a ⟨ep,ld,isr,iA,iC,kn,kA,kC,reps,rA,rC,fw,bs⟩with reps:=(reps.map fk.a).set r {up:=false,es:=x.es.take m,s:=m,high:=min x.high (((x.es.take m).length:Nat):Int)},known:=kn.set r 0,leader:= -1},0):=by simp[kE,Pa.a,hxa,fk.a,h30,hm,h75]
 rw[hS]
 exact bE (cs0:= #[J (ep),J ((-1)),.slice (Qd g1) isr.length c1,.slice (Qd g2) kn.length c2,.slice (Qd g3) rs.length c3,J (fw),J (bs)]) (v1:=J 0) Z aH Z (H.ent (i:=4) Z) Z Z ⟨_,by simp[Pa.c],by simp[Pa.a,cE,hma,fk.a],(eA.mk_ (p:=⟨ep,-1,isr,some ⟨g1,0,none⟩,c1,kn.set r 0,some ⟨g2,0,none⟩,c2,_,some ⟨g3,0,none⟩,c3,fw,bs⟩) Z Z Z row1 row2b row20 hlg3 (by dsimp only;first|omega|(simp only[ae,bI];omega)) H ⟨by simp,by simp,by simp⟩)⟩
 refine U<|ZF Z<|Zk<|W<|Zr<|G (Zw aH H 5 Z Z Z)<|bo H 4 (#[J (ep),J (ld),.slice (Qd g1) isr.length c1,.slice (Qd g2) kn.length c2,.slice (Qd g3) rs.length c3,J (fw),J (bs)]) aK Z Z Z Z Z N N fun w25 H=>G (Wi Z)<|U<|Zt ?_
 have hlg3:=hlg2.same r (x':={x with up:=false,A:=A39,cap:=c39,es:=(x.es.take m),s:=m,lo:=w4.heap.size,hi:=w5.heap.size,high:=min x.high (((x.es.take m).length:Nat):Int)}) (al I) Z Z Z Z Z
 have hS:kE (Pa.a ⟨ep,ld,isr,iA,iC,kn,kA,kC,reps,rA,rC,fw,bs⟩) r keep=({Pa.a ⟨ep,ld,isr,iA,iC,kn,kA,kC,reps,rA,rC,fw,bs⟩with reps:=(reps.map fk.a).set r {up:=false,es:=x.es.take m,s:=m,high:=min x.high (((x.es.take m).length:Nat):Int)},known:=kn.set r 0,leader:=ld},0):=by simp[kE,Pa.a,hxa,fk.a,h30,hm,h75]
 rw[hS]
 exact bE (cs0:= #[J (ep),J (ld),.slice (Qd g1) isr.length c1,.slice (Qd g2) kn.length c2,.slice (Qd g3) rs.length c3,J (fw),J (bs)]) (v1:=J 0) Z aH Z (H.ent (i:=4) Z) Z Z ⟨_,by simp[Pa.c],by simp[Pa.a,cE,hma,fk.a],(eA.mk_ (p:=⟨ep,ld,isr,some ⟨g1,0,none⟩,c1,kn.set r 0,some ⟨g2,0,none⟩,c2,_,some ⟨g3,0,none⟩,c3,fw,bs⟩) Z Z Z row1 row2b row20 hlg3 (by dsimp only;first|omega|(simp only[ae,bI];omega)) H ⟨by simp,by simp,by simp⟩)⟩
 refine G (dM Z)<|U<|ZT Z<|W<|Zr<|G (bg (cs:= #[J (0),J (0),.slice none 0 0,.slice none 0 0,.slice none 0 0,J (0),J (0)]) cN bv N)<|bo H 3 (#[J (0),J (0),.slice none 0 0,.slice none 0 0,.slice none 0 0,J (0),J (0)]) aK Z Z Z Z Z N N fun w26 H=>G (Wi Z)<|U<|Zt ?_
 have hS:kE (Pa.a ⟨ep,ld,isr,iA,iC,kn,kA,kC,reps,rA,rC,fw,bs⟩) r keep=(gw,7):=by simp[kE,Pa.a,hxa,fk.a,h30]
 rw[hS]
 exact bE (cs0:= #[J 0,J 0,.slice none 0 0,.slice none 0 0,.slice none 0 0,J 0,J 0]) (v1:=J 7) Z aH Z (H.ent (i:=3) Z) Z Z ⟨zY,rfl,rfl,eA.zero H.below⟩
theorem LZ (p:Pa) (r:Nat) (w:World) (h:p.rd 0 w.heap.size w) (hok:p.a.ok) (hr:r<p.reps.length):dh aa Gj [p.v,J (r:Nat)] w fun v w2=> ∃ p':Pa,v=.tuple #[p'.v,J (oe p.a r).2]/\p'.a=(oe p.a r).1/\eA w w2 p':=by
 refine aE EI Z Z ?_
 obtain⟨hn1,hn2,hil,hkl,hf1,hf2,he0,he1,hl0,hl1,hb0,hb1,hsm⟩:=Pa.facts hok
 have hkn:=hok.known
 have hiC:=h.iC
 have hkC:=h.kC
 have hrC:=h.rC
 have hfew:=h.few
 have H:=Hp.startPa h
 obtain⟨ep,ld,isr,iA,iC,kn,kA,kC,reps,rA,rC,fw,bs⟩:=p
 simp only[Pa.a]at hkn
 dsimp only at H hn1 hn2 hil hkl hf1 hf2 he0 he1 hl0 hl1 hb0 hb1 hsm hiC hkC hrC hfew
 dsimp only at hr
 show CW _ _ _ _ (args [.agg #[J (ep),J (ld),.slice iA isr.length iC,.slice kA kn.length kC,.slice rA reps.length rC,J (fw),J (bs)],J (((r:Nat):Int))]) w
 refine W<|Zr<|f7 H Z Z fun w1 b2 H=>eP H bv Z fun w2 b4 H=>G (Wi Z)<|U<|W<|Zr<|G (Zw aH H 1 Z Z Z)<|G (Yi Z)<|ch kG (tQ ⟨ep,ld,isr,iA,iC,kn,kA,kC,reps,rA,rC,fw,bs⟩ r _ (Hp.pa H 0 Z) hok hr) Z Z ?_
 rintro _ w3 ⟨⟨ep2,ld2,is2,iA2,c1,kn2,kA2,c2,rs,rA2,c3,fw2,bs2⟩,g1,g2,g3,u1,u2,u3,rfl,ha2,ho⟩
 simp only[Pa.a,fD.mk.injEq]at ha2
 obtain⟨e1,e2,e3,e4,hma,e6,e7⟩:=ha2
 obtain rfl:ep=ep2:=e1.symm
 obtain rfl:ld=ld2:=e2.symm
 obtain rfl:isr=is2:=e3.symm
 obtain rfl:kn=kn2:=e4.symm
 obtain rfl:fw=fw2:=e6.symm
 obtain rfl:bs=bs2:=e7.symm
 have hrl:rs.length=reps.length:=by have:=congrArg ci hma;simpa using this
 obtain⟨i1,i2,i3,row1,row2,row3,hcp,hlos,-,hjn⟩:=ho
 dsimp only at i1 i2 i3 row1 row2 row3 hcp hlos hjn
 subst i1;subst i2;subst i3
 have hlo0:=H.size
 replace H:=H.joinF hjn (by intro f hf;obtain⟨r,hr,rfl⟩:=bp.1 hf;exact hlos r hr)
 replace hlos: ∀ r∈rs,w.heap.size<=r.lo:=fun r hr=>aU hlo0 (hlos r hr)
 clear hjn
 have hlg:=qw.of (F:=[DM 0 w.heap.size ⟨ep,ld,isr,iA,iC,kn,kA,kC,reps,rA,rC,fw,bs⟩,dU eX 0 w.heap.size iA isr,dU bR 0 w.heap.size kA kn,dU g8 0 w.heap.size rA reps]) hcp hlos
 have hok2: ∀ {i:Nat} {x:fk},rs[i]? =some x->GL x.es x.s/\0<=x.high/\x.high<=x.es.length:=fun hx=>wV hma hok hx
 obtain⟨x,hx⟩: ∃ x,rs[r]? =some x:=⟨_,ah I⟩
 have hxa:=wh hma hx
 refine G (Yu Z)<|G (Xa Z Z)<|G (Xi Z Z)<|bo H 4 (#[J (ep),J (ld),.slice (Qd g1) isr.length c1,.slice (Qd g2) kn.length c2,.slice (Qd g3) rs.length c3,J (fw),J (bs)]) aK Z Z Z Z Z N N fun w4 H=>G (Wi Z)<|U<|W<|W<|Zr<|G (Yi Z)<|G (bZ Z Z Z)<|U<|ZF Z<|Zk<|W<|W<|Zr<|G (Zf cU Z)<|G (Zd bW H 4 Z Z Z)<|G (Yi Z)<|G (cG bx Z Z (by first|omega|(simp only[ae];omega)))<|G (Zf fB Z) ?_
 refine wW (bP dS row3 hx 0 Z (H.ent (i:=2) Z) Z) Z Z Z (fun h22=> ?_) (fun h22=> ?_)
 refine U<|ZT Z<|W<|Zr<|G (bg (cs:= #[J (0),J (0),.slice none 0 0,.slice none 0 0,.slice none 0 0,J (0),J (0)]) cN bv N)<|bo H 3 (#[J (0),J (0),.slice none 0 0,.slice none 0 0,.slice none 0 0,J (0),J (0)]) aK Z Z Z Z Z N N fun w5 H=>G (Wi Z)<|U<|Zt ?_
 have hS:oe (Pa.a ⟨ep,ld,isr,iA,iC,kn,kA,kC,reps,rA,rC,fw,bs⟩) r=(gw,12):=by simp[oe,Pa.a,hxa,fk.a,h22]
 rw[hS]
 exact bE (cs0:= #[J 0,J 0,.slice none 0 0,.slice none 0 0,.slice none 0 0,J 0,J 0]) (v1:=J 12) Z aH Z (H.ent (i:=3) Z) Z Z ⟨zY,rfl,rfl,eA.zero H.below⟩
 refine U<|ZF Z<|Zk<|W ?_
 obtain⟨b,hb⟩: ∃ b,isr[r]? =some b:=⟨_,ah I⟩
 refine Zr<|G (Zf gi Z)<|G (Zd gN H 4 Z Z Z)<|G (Yi Z)<|G (cG ed Z Z (by first|omega|(simp only[ae];omega)))<|k9 H 0 ((false)) iU row1 hb 0 Z Z Z Z Z Z N fun w7 cur6 row6 H=> ?_
 have hs8:(isr.set r ((false)))[r]? =some ((false)):=al (cC hb).1
 refine U<|W<|W<|Zr<|G (Zf gi Z)<|G (Zd gN H 4 Z Z Z)<|ch jx ((by have hA:=sd (isr.set r false) (Qd g1) c1 _ (row6.rd0 (H.ent (i:=0) Z)) (by simp only[ae];omega);simp only[ae]at hA;exact hA)) Z Z ?_
 rintro _ w9 ⟨rfl,hb⟩;replace H:=H.later hb;clear hb
 refine G (dM Z)<|U ?_
 refine jw Z (fun hc31=> ?_) (fun hc31=> ?_)
 refine W<|Zr<|G (bg (cs:= #[J (0),J (0),.slice none 0 0,.slice none 0 0,.slice none 0 0,J (0),J (0)]) cN bv N)<|bo H 3 (#[J (0),J (0),.slice none 0 0,.slice none 0 0,.slice none 0 0,J (0),J (0)]) aK Z Z Z Z Z N N fun w10 H=>G (Wi Z)<|U<|Zt ?_
 have hno:true∉isr.set r false:=by simpa using hc31
 have hS:oe (Pa.a ⟨ep,ld,isr,iA,iC,kn,kA,kC,reps,rA,rC,fw,bs⟩) r=(gw,8):=by simp[oe,Pa.a,hxa,fk.a,h22,hno]
 rw[hS]
 exact bE (cs0:= #[J 0,J 0,.slice none 0 0,.slice none 0 0,.slice none 0 0,J 0,J 0]) (v1:=J 8) Z aH Z (H.ent (i:=3) Z) Z Z ⟨zY,rfl,rfl,eA.zero H.below⟩
 refine Zk<|W ?_
 obtain⟨kx,hkx⟩: ∃ kx,kn[r]? =some kx:=⟨_,ah I⟩
 refine eN (τ:=Unit) [33,34,35,36,37,38,39,40,41] (fun _=>[]) (fun _ w'=> ∃ v2 v3,dX bR (kn.set r 0) c2 v2/\dX g8 (rs.set r ⟨false,none,0,[],0,0,w.heap.size,w.heap.size⟩) c3 v3/\Hp w w' [(g1,.cells cur6 jr (0,0)),(g2,.cells v2 db (0,0)),(g3,.cells v3 fZ (0,0)),(b4,.cells #[J 0,J 0,.slice none 0 0,.slice none 0 0,.slice none 0 0,J 0,J 0] bF (0,0)),(b2,.cells #[J (ep),J (ld),.slice (Qd g1) isr.length c1,.slice (Qd g2) kn.length c2,.slice (Qd g3) rs.length c3,J (fw),J (bs)] bF (0,0))] ([DM 0 w.heap.size ⟨ep,ld,isr,iA,iC,kn,kA,kC,reps,rA,rC,fw,bs⟩,dU eX 0 w.heap.size iA isr,dU bR 0 w.heap.size kA kn,dU g8 0 w.heap.size rA reps]++te rs)) ?_ ?_
 refine pW cd (fun w'=>w'.heap[b2]? =some (.cells #[J (ep),J (ld),.slice (Qd g1) isr.length c1,.slice (Qd g2) kn.length c2,.slice (Qd g3) rs.length c3,J (fw),J (bs)] bF (0,0))) ?_
 intro w11 hw';replace H:=H.later hw';clear hw'
 refine bh 0 N N N Z Z Z Z Nq (H.ent (i:=4) Z) (fun _ hS=>Zf cU Z)<|bh 1 N N N Z Z Z Z Nq (H.ent (i:=4) Z) (fun _ hS=>aW bW Z (aB hS Z))<|bh 2 N N N Z Z Z Z Nq (H.ent (i:=4) Z) (fun _ hS=>Yi Z)<|bh 3 N N N Z Z Z Z Nq (H.ent (i:=4) Z) (fun _ hS=>Zf gh Z)<|bh 4 N N N Z Z Z Z Nq (H.ent (i:=4) Z) (fun _ hS=>aW cy Z (aB hS Z))<|bh 5 N N N Z Z Z Z Nq (H.ent (i:=4) Z) (fun _ hS=>Yi Z)<|bh 6 N N N Z Z Z Z Nq (H.ent (i:=4) Z) (fun _ hS=>bg (cs:= #[.bool (false),.slice none 0 0,J (0),J (0)]) Hj pZ N)<|bh 7 N N N Z Z Z Z Nq (H.ent (i:=4) Z) (fun _ hS=>cG bx Z Z (by first|omega|(simp only[ae];omega)))<|wK 8 N Z<|k9 H 2 (⟨false,none,0,[],0,0,w.heap.size,w.heap.size⟩) lW row3 hx 0 Z Z Z Z Z Z N fun w13 cur12 row12 H=> ?_
 have hs14:(rs.set r (⟨false,none,0,[],0,0,w.heap.size,w.heap.size⟩))[r]? =some (⟨false,none,0,[],0,0,w.heap.size,w.heap.size⟩):=al (cC hx).1
 refine U ?_
 refine⟨(H.ent (i:=4) Z),?_⟩
 refine bh 9 N N N Z Z Z Z Nq (H.ent (i:=4) Z) (fun _ hS=>cG bc Z Z (by first|omega|(simp only[ae];omega)))<|wK 10 N Z<|k9 H 1 ((0)) bH row2 hkx 0 Z Z Z Z Z Z N fun w16 cur15 row15 H=> ?_
 have hs17:(kn.set r ((0)))[r]? =some ((0)):=al (cC hkx).1
 refine U ?_
 refine⟨(H.ent (i:=4) Z),?_⟩
 refine ny N ?_
 exact⟨(),⟨_,_,row15,row12,H⟩,wC,Qg⟩
 rintro⟨⟩ ρ1 w18 ⟨v2,v3,row2b,row3b,H⟩
 refine W<|Zr<|G (Zw aH H 4 Z Z Z)<|bo H 3 (#[J (ep),J (ld),.slice (Qd g1) isr.length c1,.slice (Qd g2) kn.length c2,.slice (Qd g3) rs.length c3,J (fw),J (bs)]) aK Z Z Z Z Z N N fun w19 H=>G (Wi Z)<|U<|Zt ?_
 have hye:true∈isr.set r false:=by simpa using hc31
 have hS:oe (Pa.a ⟨ep,ld,isr,iA,iC,kn,kA,kC,reps,rA,rC,fw,bs⟩) r=({Pa.a ⟨ep,ld,isr,iA,iC,kn,kA,kC,reps,rA,rC,fw,bs⟩with reps:=(reps.map fk.a).set r ⟨false,[],0,0⟩,known:=kn.set r 0,isr:=isr.set r false},0):=by simp[oe,Pa.a,hxa,fk.a,h22,hye]
 rw[hS]
 replace H:=H.learnNil (Y:=dC) w.heap.size H.size none
 have hlg1:=(hlg.cons (f:=dU dC w.heap.size w.heap.size none [])).set r (x:=⟨false,none,0,[],0,0,w.heap.size,w.heap.size⟩) ⟨by simp[bj],ao _,fM _⟩
 exact bE (cs0:= #[J (ep),J (ld),.slice (Qd g1) isr.length c1,.slice (Qd g2) kn.length c2,.slice (Qd g3) rs.length c3,J (fw),J (bs)]) (v1:=J 0) Z aH Z (H.ent (i:=3) Z) Z Z ⟨_,by simp[Pa.c],by simp[Pa.a,cE,hma,fk.a],(eA.mk_ (p:=⟨ep,ld,isr.set r false,some ⟨g1,0,none⟩,c1,kn.set r 0,some ⟨g2,0,none⟩,c2,_,some ⟨g3,0,none⟩,c3,fw,bs⟩) Z Z Z row6 row2b row3b hlg1 (by dsimp only;first|omega|(simp only[ae,bI];omega)) H ⟨by simp,by simp,by simp⟩)⟩
theorem gC:(aa.info? db).map (fun i=>(i.zero,i.size,i.bytes))=some (some (J 0),1,8):=by kernel_rfl
theorem NU (m:Nat) (h:m<=1000000):dX bR (au m (0:Int)) m (au m (Value.int .i64 0)).toArray:=by
 have hl: ∀ m:Nat,bR.all (au m (0:Int))=au m (Value.int .i64 0):=by
  intro m
  induction m with
  |zero=>rfl
  |succ m ih=>rw[j0,j0,<-ih];rfl
 refine⟨by simp[bR],?_,by simp,by simp only[maxLen];omega⟩
 rw[hl]
 simp[bR]
def fU (p:fD) (r:Nat):fD×Int:=match p.reps[r]? with
 |none=>(gw,5)
 |some x=>if x.up=false then(gw,7)else if p.isr[r]? =some false then(gw,13)else if p.leader=r then(gw,6)else if p.epoch=1073741824 then(gw,2)else
  (lU {p with epoch:=p.epoch+1,leader:=r,known:=(au p.reps.length 0).set r x.s,base:=x.es.length},0)
def hZ (p:fD) (r:Nat):fD×Int:=if p.leader<0∨p.leader=r then(gw,8)else if p.isr[r]? =some false then(gw,13)else(lU {p with isr:=p.isr.set r false},0)
def sQ (p:fD):Int:=match p.reps[p.leader.toNat]? with
 |some x=>x.high
 |none=>0
def fT (p:fD) (r:Nat):fD×Int:=if p.leader<0∨p.leader=r then(gw,8)else if p.isr[r]? =some true then(gw,6)else match p.reps[r]? with
 |none=>(gw,5)
 |some x=>if x.up=false then(gw,7)else if p.known.getD r 0<max p.base (sQ p)then(gw,13)else({p with isr:=p.isr.set r true},0)
theorem JV (p:Pa) (r:Nat) (w:World) (h:p.rd 0 w.heap.size w) (hok:p.a.ok) (hr:r<p.reps.length):dh aa Es [p.v,J (r:Nat)] w fun v w2=> ∃ p':Pa,v=.tuple #[p'.v,J (fU p.a r).2]/\p'.a=(fU p.a r).1/\eA w w2 p':=by
 refine aE Ct Z Z ?_
 obtain⟨hn1,hn2,hil,hkl,hf1,hf2,he0,he1,hl0,hl1,hb0,hb1,hsm⟩:=Pa.facts hok
 have hkn:=hok.known
 have hiC:=h.iC
 have hkC:=h.kC
 have hrC:=h.rC
 have hfew:=h.few
 have H:=Hp.startPa h
 obtain⟨ep,ld,isr,iA,iC,kn,kA,kC,reps,rA,rC,fw,bs⟩:=p
 simp only[Pa.a]at hkn
 dsimp only at H hn1 hn2 hil hkl hf1 hf2 he0 he1 hl0 hl1 hb0 hb1 hsm hiC hkC hrC hfew
 dsimp only at hr
 show CW _ _ _ _ (args [.agg #[J (ep),J (ld),.slice iA isr.length iC,.slice kA kn.length kC,.slice rA reps.length rC,J (fw),J (bs)],J (((r:Nat):Int))]) w
 refine W<|Zr<|f7 H Z Z fun w1 b2 H=>eP H bv Z fun w2 b4 H=>G (Wi Z)<|U<|W<|Zr<|G (Zw aH H 1 Z Z Z)<|G (Yi Z)<|ch kG (tQ ⟨ep,ld,isr,iA,iC,kn,kA,kC,reps,rA,rC,fw,bs⟩ r _ (Hp.pa H 0 Z) hok hr) Z Z ?_
 rintro _ w3 ⟨⟨ep2,ld2,is2,iA2,c1,kn2,kA2,c2,rs,rA2,c3,fw2,bs2⟩,g1,g2,g3,u1,u2,u3,rfl,ha2,ho⟩
 simp only[Pa.a,fD.mk.injEq]at ha2
 obtain⟨e1,e2,e3,e4,hma,e6,e7⟩:=ha2
 obtain rfl:ep=ep2:=e1.symm
 obtain rfl:ld=ld2:=e2.symm
 obtain rfl:isr=is2:=e3.symm
 obtain rfl:kn=kn2:=e4.symm
 obtain rfl:fw=fw2:=e6.symm
 obtain rfl:bs=bs2:=e7.symm
 have hrl:rs.length=reps.length:=by have:=congrArg ci hma;simpa using this
 obtain⟨i1,i2,i3,row1,row2,row3,hcp,hlos,-,hjn⟩:=ho
 dsimp only at i1 i2 i3 row1 row2 row3 hcp hlos hjn
 subst i1;subst i2;subst i3
 have hlo0:=H.size
 replace H:=H.joinF hjn (by intro f hf;obtain⟨r,hr,rfl⟩:=bp.1 hf;exact hlos r hr)
 replace hlos: ∀ r∈rs,w.heap.size<=r.lo:=fun r hr=>aU hlo0 (hlos r hr)
 clear hjn
 have hlg:=qw.of (F:=[DM 0 w.heap.size ⟨ep,ld,isr,iA,iC,kn,kA,kC,reps,rA,rC,fw,bs⟩,dU eX 0 w.heap.size iA isr,dU bR 0 w.heap.size kA kn,dU g8 0 w.heap.size rA reps]) hcp hlos
 have hok2: ∀ {i:Nat} {x:fk},rs[i]? =some x->GL x.es x.s/\0<=x.high/\x.high<=x.es.length:=fun hx=>wV hma hok hx
 obtain⟨x,hx⟩: ∃ x,rs[r]? =some x:=⟨_,ah I⟩
 have hxa:=wh hma hx
 refine G (Yu Z)<|G (Xa Z Z)<|G (Xi Z Z)<|bo H 4 (#[J (ep),J (ld),.slice (Qd g1) isr.length c1,.slice (Qd g2) kn.length c2,.slice (Qd g3) rs.length c3,J (fw),J (bs)]) aK Z Z Z Z Z N N fun w4 H=>G (Wi Z)<|U<|W<|W<|Zr<|G (Yi Z)<|G (bZ Z Z Z)<|U<|ZF Z<|Zk<|W<|Zb<|W ?_
 obtain⟨b,hb⟩: ∃ b,isr[r]? =some b:=⟨_,ah I⟩
 refine Zr<|G (Zf cU Z)<|G (Zd bW H 4 Z Z Z)<|G (Yi Z)<|G (cG bx Z Z (by first|omega|(simp only[ae];omega)))<|G (Zf fB Z) ?_
 refine wW (bP dS row3 hx 0 Z (H.ent (i:=2) Z) Z) Z Z Z (fun h23=> ?_) (fun h23=> ?_)
 ·
  refine G (dM Z)<|G (Wb Z)<|U<|ZF Z<|W<|Zr<|G (Zf gi Z)<|G (Zd gN H 4 Z Z Z)<|G (Yi Z)<|G (cG ed Z Z (by first|omega|(simp only[ae];omega))) ?_
  refine wW (bP dS row1 hb 0 Z (H.ent (i:=0) Z) Z) Z Z Z (fun h31=> ?_) (fun h31=> ?_)
  ·
   refine G (dM Z)<|G (Wb Z)<|U<|ZF Z<|W<|Zr<|G (Zf dt Z)<|G (Zd ak H 4 Z Z Z)<|G (Yi Z) ?_
   refine cW (bn Z Z) Z Z Z (fun h38=> ?_) (fun h38=> ?_)
   ·
    refine G (Wb Z)<|U<|ZT Z<|W<|Zr<|G (bg (cs:= #[J (0),J (0),.slice none 0 0,.slice none 0 0,.slice none 0 0,J (0),J (0)]) cN bv N)<|bo H 3 (#[J (0),J (0),.slice none 0 0,.slice none 0 0,.slice none 0 0,J (0),J (0)]) aK Z Z Z Z Z N N fun w5 H=>G (Wi Z)<|U<|Zt ?_
    have hS:fU (Pa.a ⟨ep,ld,isr,iA,iC,kn,kA,kC,reps,rA,rC,fw,bs⟩) r=(gw,6):=by simp[fU,Pa.a,hxa,fk.a,h23,hb,h31,<-h38]
    rw[hS]
    exact bE (cs0:= #[J 0,J 0,.slice none 0 0,.slice none 0 0,.slice none 0 0,J 0,J 0]) (v1:=J 6) Z aH Z (H.ent (i:=3) Z) Z Z ⟨zY,rfl,rfl,eA.zero H.below⟩
   ·
    refine G (Wb Z)<|U<|ZF Z<|W<|Zr<|G (Zf p5 Z)<|G (Zd ak H 4 Z Z Z) ?_
    refine cW (bn Z Z) Z Z Z (fun h43=> ?_) (fun h43=> ?_)
    ·
     refine G (Wb Z)<|U<|ZT Z<|W<|Zr<|G (bg (cs:= #[J (0),J (0),.slice none 0 0,.slice none 0 0,.slice none 0 0,J (0),J (0)]) cN bv N)<|bo H 3 (#[J (0),J (0),.slice none 0 0,.slice none 0 0,.slice none 0 0,J (0),J (0)]) aK Z Z Z Z Z N N fun w6 H=>G (Wi Z)<|U<|Zt ?_
     have hS:fU (Pa.a ⟨ep,ld,isr,iA,iC,kn,kA,kC,reps,rA,rC,fw,bs⟩) r=(gw,2):=by simp[fU,Pa.a,hxa,fk.a,h23,hb,h31,h38,h43]
     rw[hS]
     exact bE (cs0:= #[J 0,J 0,.slice none 0 0,.slice none 0 0,.slice none 0 0,J 0,J 0]) (v1:=J 2) Z aH Z (H.ent (i:=3) Z) Z Z ⟨zY,rfl,rfl,eA.zero H.below⟩
    ·
     refine G (Wb Z)<|U<|ZF Z<|Zk<|W<|Zr<|G (Zf p5 Z)<|G (Zd ak H 4 Z Z Z)<|G (bw Z Z I I)<|G (Zf p5 Z)<|bo H 4 (#[J (ep+1),J (ld),.slice (Qd g1) isr.length c1,.slice (Qd g2) kn.length c2,.slice (Qd g3) rs.length c3,J (fw),J (bs)]) bH Z Z Z Z Z N N fun w7 H=>U<|W<|Zr<|G (Yi Z)<|G (Zf dt Z)<|bo H 4 (#[J (ep+1),J (((r:Nat):Int)),.slice (Qd g1) isr.length c1,.slice (Qd g2) kn.length c2,.slice (Qd g3) rs.length c3,J (fw),J (bs)]) bH Z Z Z Z Z N N fun w8 H=>U<|W<|Zr<|G (Zf cU Z)<|G (Zd bW H 4 Z Z Z)<|G (br ib Z)<|RV (m:=rs.length) H bc gC Z Z Z I I Z fun w9 b54 H=> ?_
     have row54:=NU rs.length I
     refine G (Zf gh Z)<|bo H 5 (#[J (ep+1),J (((r:Nat):Int)),.slice (Qd g1) isr.length c1,.slice (Qd b54) rs.length rs.length,.slice (Qd g3) rs.length c3,J (fw),J (bs)]) jK Z Z Z Z Z N N fun w10 H=>U<|W ?_
     refine bA cd [0,1,2,3,4,5,6,7,8,9] [10,11,12] [5] [0,2,4,6,7,8,9] (sp [(5,Sp.one (.tuple #[J ((x.es.length:Nat):Int),J ((x.s:Nat):Int)]))]) N N N N Nq (cI _) ?_
     refine aw Z Z Z Z Z (fun w' hw'=>Zf gh Z)<|aw Z Z Z Z Z (fun w' hw'=>aW cy Z (aB ((H.later hw').ent (i:=5) Z) Z))<|aw Z Z Z Z Z (fun w' hw'=>Yi Z)<|aw Z Z Z Z Z (fun w' hw'=>jL aH Z ((H.later hw').ent (i:=5) Z) Z)<|aw Z Z Z Z Z (fun w' hw'=>Yi Z)<|ic jI Z Z Z Z Z (fun w' hw'=>(by have hA:=qb ⟨ep+1,(r:Nat),isr,some ⟨g1,0,none⟩,c1,au rs.length 0,some ⟨b54,0,none⟩,rs.length,rs,some ⟨g3,0,none⟩,c3,fw,bs⟩ r x w' (row3.rd0 ((H.later hw').ent (i:=3) Z)) hx (hlg.log (H.later hw') hx (hok2 hx).1);simp only[Pa.v,Pa.c,bI]at hA;exact hA)) Z<|aw Z Z Z Z Z (fun w' hw'=>Yu Z)<|aw Z Z Z Z Z (fun w' hw'=>Xi Z Z)<|aw Z Z Z Z Z (fun w' hw'=>Xi Z Z)<|aw Z Z Z Z Z (fun w' hw'=>Zf u6 Z)<|aV ?_
     intro w11 hw' hF
     replace H:=H.later hw';clear hw' hF
     refine bo H 5 (#[J (ep+1),J (((r:Nat):Int)),.slice (Qd g1) isr.length c1,.slice (Qd b54) rs.length rs.length,.slice (Qd g3) rs.length c3,J (fw),J (((x.es.length:Nat):Int))]) bH Z Z Z Z Z N N fun w12 H=>G (cG bc Z Z (by first|omega|(simp only[ae];omega))) ?_
     refine k9 H 0 ((((x.s:Nat):Int))) bH row54 (show(au rs.length (0:Int))[r]? =some 0 by rw[f5,if_pos I]) 0 Z Z Z Z Z Z N ?_;intro w14 cur13 row13 H
     have hs15:((au rs.length (0:Int)).set r ((((x.s:Nat):Int))))[r]? =some ((((x.s:Nat):Int))):=al (cC (show(au rs.length (0:Int))[r]? =some 0 by rw[f5,if_pos I])).1
     refine U<|W<|Zr<|G (Zw aH H 5 Z Z Z)<|ch lG ((by have hA:=zJ (g2:=b54) (M:=[(g2,.cells u2 db (0,0)),(b4,.cells #[J 0,J 0,.slice none 0 0,.slice none 0 0,.slice none 0 0,J 0,J 0] bF (0,0)),(b2,.cells #[J (ep+1),J (((r:Nat):Int)),.slice (Qd g1) isr.length c1,.slice (Qd b54) rs.length rs.length,.slice (Qd g3) rs.length c3,J (fw),J (((x.es.length:Nat):Int))] bF (0,0))]) (ep+1) ((r:Nat):Int) isr c1 ((au rs.length 0).set r ((x.s:Nat):Int)) rs.length rs c3 fw ((x.es.length:Nat):Int) r x (H.perm ((am _ _ _).trans (.cons _ (.cons _ (am _ _ _))))) row1 row13 row3 I (by simp) I Z hx (hlg _ (ab hx)).2.2 (hok2 hx).1 (hlg _ (ab hx)).1;simp only[Pa.v,Pa.c,ae,bI]at hA;exact hA)) Z Z ?_
     rintro _ w16 ⟨u9,rfl,row9,H⟩
     refine bo H 4 (#[J (ep+1),J (((r:Nat):Int)),.slice (Qd g1) isr.length c1,.slice (Qd b54) rs.length rs.length,.slice (Qd g3) rs.length c3,J (fw),J (((x.es.length:Nat):Int))]) aK Z Z Z Z Z N N fun w17 H=>G (Wi Z)<|U<|Zt ?_
     have hS:fU (Pa.a ⟨ep,ld,isr,iA,iC,kn,kA,kC,reps,rA,rC,fw,bs⟩) r=(lU {Pa.a ⟨ep,ld,isr,iA,iC,kn,kA,kC,reps,rA,rC,fw,bs⟩with epoch:=ep+1,leader:=(r:Nat),known:=(au (reps.map fk.a).length 0).set r ((x.s:Nat):Int),base:=((x.es.length:Nat):Int)},0):=by simp[fU,Pa.a,hxa,fk.a,h23,hb,h31,h38,h43]
     rw[hS]
     rw[xK (l:=r) (r:=x.a) Z hxa]
     have hlg1:=hlg.same r (x':={x with high:=max x.high (min (dv isr ((au rs.length 0).set r ((x.s:Nat):Int)) 400) (x.es.length:Nat))}) hx Z Z Z Z Z
     exact bE (cs0:= #[J (ep+1),J (((r:Nat):Int)),.slice (Qd g1) isr.length c1,.slice (Qd b54) rs.length rs.length,.slice (Qd g3) rs.length c3,J (fw),J (((x.es.length:Nat):Int))]) (v1:=J 0) Z aH Z (H.ent (i:=4) Z) Z Z ⟨_,by simp[Pa.c],by simp[Pa.a,cE,hma,hrl,fk.a],(eA.mk_ (p:=⟨ep+1,(r:Nat),isr,some ⟨g1,0,none⟩,c1,(au rs.length 0).set r ((x.s:Nat):Int),some ⟨b54,0,none⟩,rs.length,_,some ⟨g3,0,none⟩,c3,fw,((x.es.length:Nat):Int)⟩) Z Z Z row1 row13 row9 hlg1 (by dsimp only;try simp only[ae,bI];omega) H ⟨by simp,by simp,by simp⟩)⟩
  ·
   refine G (dM Z)<|G (Wb Z)<|U<|ZT Z<|W<|Zr<|G (bg (cs:= #[J (0),J (0),.slice none 0 0,.slice none 0 0,.slice none 0 0,J (0),J (0)]) cN bv N)<|bo H 3 (#[J (0),J (0),.slice none 0 0,.slice none 0 0,.slice none 0 0,J (0),J (0)]) aK Z Z Z Z Z N N fun w18 H=>G (Wi Z)<|U<|Zt ?_
   have hS:fU (Pa.a ⟨ep,ld,isr,iA,iC,kn,kA,kC,reps,rA,rC,fw,bs⟩) r=(gw,13):=by simp[fU,Pa.a,hxa,fk.a,h23,hb,h31]
   rw[hS]
   exact bE (cs0:= #[J 0,J 0,.slice none 0 0,.slice none 0 0,.slice none 0 0,J 0,J 0]) (v1:=J 13) Z aH Z (H.ent (i:=3) Z) Z Z ⟨zY,rfl,rfl,eA.zero H.below⟩
 ·
  refine G (dM Z)<|G (Wb Z)<|U<|ZT Z<|W<|Zr<|G (bg (cs:= #[J (0),J (0),.slice none 0 0,.slice none 0 0,.slice none 0 0,J (0),J (0)]) cN bv N)<|bo H 3 (#[J (0),J (0),.slice none 0 0,.slice none 0 0,.slice none 0 0,J (0),J (0)]) aK Z Z Z Z Z N N fun w19 H=>G (Wi Z)<|U<|Zt ?_
  have hS:fU (Pa.a ⟨ep,ld,isr,iA,iC,kn,kA,kC,reps,rA,rC,fw,bs⟩) r=(gw,7):=by simp[fU,Pa.a,hxa,fk.a,h23]
  rw[hS]
  exact bE (cs0:= #[J 0,J 0,.slice none 0 0,.slice none 0 0,.slice none 0 0,J 0,J 0]) (v1:=J 7) Z aH Z (H.ent (i:=3) Z) Z Z ⟨zY,rfl,rfl,eA.zero H.below⟩
theorem FL (p:Pa) (r:Nat) (w:World) (h:p.rd 0 w.heap.size w) (hok:p.a.ok) (hr:r<p.reps.length) (hl:0<=p.leader) (hne:p.leader≠r):dh aa ry [p.v,J (r:Nat)] w fun v w2=> ∃ p':Pa,v=.tuple #[p'.v,J (hZ p.a r).2]/\p'.a=(hZ p.a r).1/\eA w w2 p':=by
 refine aE ue Z Z ?_
 obtain⟨hn1,hn2,hil,hkl,hf1,hf2,he0,he1,hl0,hl1,hb0,hb1,hsm⟩:=Pa.facts hok
 have hkn:=hok.known
 have hiC:=h.iC
 have hkC:=h.kC
 have hrC:=h.rC
 have hfew:=h.few
 have H:=Hp.startPa h
 obtain⟨ep,ld,isr,iA,iC,kn,kA,kC,reps,rA,rC,fw,bs⟩:=p
 simp only[Pa.a]at hkn
 dsimp only at H hn1 hn2 hil hkl hf1 hf2 he0 he1 hl0 hl1 hb0 hb1 hsm hiC hkC hrC hfew
 dsimp only at hr hl hne
 show CW _ _ _ _ (args [.agg #[J (ep),J (ld),.slice iA isr.length iC,.slice kA kn.length kC,.slice rA reps.length rC,J (fw),J (bs)],J (((r:Nat):Int))]) w
 refine W<|Zr<|f7 H Z Z fun w1 b2 H=>eP H bv Z fun w2 b4 H=>G (Wi Z)<|U<|W<|Zr<|G (Zw aH H 1 Z Z Z)<|G (Yi Z)<|ch qX (IV ⟨ep,ld,isr,iA,iC,kn,kA,kC,reps,rA,rC,fw,bs⟩ r _ (Hp.pa H 0 Z) hok hr hl hne) Z Z ?_
 rintro _ w3 ⟨⟨ep2,ld2,is2,iA2,c1,kn2,kA2,c2,rs,rA2,c3,fw2,bs2⟩,g1,g2,g3,u1,u2,u3,rfl,ha2,ho⟩
 simp only[Pa.a,fD.mk.injEq]at ha2
 obtain⟨e1,e2,e3,e4,hma,e6,e7⟩:=ha2
 obtain rfl:ep=ep2:=e1.symm
 obtain rfl:ld=ld2:=e2.symm
 obtain rfl:isr=is2:=e3.symm
 obtain rfl:kn=kn2:=e4.symm
 obtain rfl:fw=fw2:=e6.symm
 obtain rfl:bs=bs2:=e7.symm
 have hrl:rs.length=reps.length:=by have:=congrArg ci hma;simpa using this
 obtain⟨i1,i2,i3,row1,row2,row3,hcp,hlos,-,hjn⟩:=ho
 dsimp only at i1 i2 i3 row1 row2 row3 hcp hlos hjn
 subst i1;subst i2;subst i3
 have hlo0:=H.size
 replace H:=H.joinF hjn (by intro f hf;obtain⟨r,hr,rfl⟩:=bp.1 hf;exact hlos r hr)
 replace hlos: ∀ r∈rs,w.heap.size<=r.lo:=fun r hr=>aU hlo0 (hlos r hr)
 clear hjn
 have hlg:=qw.of (F:=[DM 0 w.heap.size ⟨ep,ld,isr,iA,iC,kn,kA,kC,reps,rA,rC,fw,bs⟩,dU eX 0 w.heap.size iA isr,dU bR 0 w.heap.size kA kn,dU g8 0 w.heap.size rA reps]) hcp hlos
 have hok2: ∀ {i:Nat} {x:fk},rs[i]? =some x->GL x.es x.s/\0<=x.high/\x.high<=x.es.length:=fun hx=>wV hma hok hx
 obtain⟨x,hx⟩: ∃ x,rs[r]? =some x:=⟨_,ah I⟩
 have hxa:=wh hma hx
 refine G (Yu Z)<|G (Xa Z Z)<|G (Xi Z Z)<|bo H 4 (#[J (ep),J (ld),.slice (Qd g1) isr.length c1,.slice (Qd g2) kn.length c2,.slice (Qd g3) rs.length c3,J (fw),J (bs)]) aK Z Z Z Z Z N N fun w4 H=>G (Wi Z)<|U<|W<|W<|Zr<|G (Yi Z)<|G (bZ Z Z Z)<|U<|ZF Z<|Zk<|W<|W ?_
 obtain⟨b,hb⟩: ∃ b,isr[r]? =some b:=⟨_,ah I⟩
 have hneg: ¬ ld<0:=by omega
 obtain⟨l,hld⟩: ∃ l:Nat,ld=l:=⟨ld.toNat,by omega⟩
 obtain⟨y,hy⟩: ∃ y,rs[l]? =some y:=⟨_,ah I⟩
 refine Zr<|G (Zf gi Z)<|G (Zd gN H 4 Z Z Z)<|G (Yi Z)<|G (cG ed Z Z (by first|omega|(simp only[ae];omega))) ?_
 refine wW (bP dS row1 hb 0 Z (H.ent (i:=0) Z) Z) Z Z Z (fun h21=> ?_) (fun h21=> ?_)
 refine G (dM Z)<|U<|ZF Z<|Zk<|W<|Zr<|G (Zf gi Z)<|G (Zd gN H 4 Z Z Z)<|G (Yi Z)<|G (cG ed Z Z (by first|omega|(simp only[ae];omega)))<|k9 H 0 ((false)) iU row1 hb 0 Z Z Z Z Z Z N fun w6 cur5 row5 H=> ?_
 have hs7:(isr.set r ((false)))[r]? =some ((false)):=al (cC hb).1
 refine U<|W<|Zr<|G (Zw aH H 4 Z Z Z)<|ch lG ((by have hA:=zJ ep ld (isr.set r false) c1 kn c2 rs c3 fw bs l y H row5 row2 row3 (by simp only[ae];omega) I I hld hy (hlg _ (ab hy)).2.2 (hok2 hy).1 (hlg _ (ab hy)).1;simp only[Pa.v,Pa.c,ae]at hA;exact hA)) Z Z ?_
 rintro _ w8 ⟨u9,rfl,row9,H⟩
 refine bo H 3 (#[J (ep),J (ld),.slice (Qd g1) isr.length c1,.slice (Qd g2) kn.length c2,.slice (Qd g3) rs.length c3,J (fw),J (bs)]) aK Z Z Z Z Z N N fun w9 H=>G (Wi Z)<|U<|Zt ?_
 have hS:hZ (Pa.a ⟨ep,ld,isr,iA,iC,kn,kA,kC,reps,rA,rC,fw,bs⟩) r=(lU {Pa.a ⟨ep,ld,isr,iA,iC,kn,kA,kC,reps,rA,rC,fw,bs⟩with isr:=isr.set r false},0):=by simp[hZ,Pa.a,hneg,hne,hb,h21]
 rw[hS]
 rw[xK (l:=l) (r:=y.a) hld (wh hma hy)]
 have hlg1:=hlg.same l (x':={y with high:=max y.high (min (dv (isr.set r false) kn 400) (y.es.length:Nat))}) hy Z Z Z Z Z
 exact bE (cs0:= #[J (ep),J (ld),.slice (Qd g1) isr.length c1,.slice (Qd g2) kn.length c2,.slice (Qd g3) rs.length c3,J (fw),J (bs)]) (v1:=J 0) Z aH Z (H.ent (i:=3) Z) Z Z ⟨_,by simp[Pa.c],by simp[Pa.a,cE,hma,hrl,fk.a],(eA.mk_ (p:=⟨ep,ld,isr.set r false,some ⟨g1,0,none⟩,c1,kn,some ⟨g2,0,none⟩,c2,_,some ⟨g3,0,none⟩,c3,fw,bs⟩) Z Z Z row5 row2 row9 hlg1 (by dsimp only;try simp only[ae,bI];omega) H ⟨by simp,by simp,by simp⟩)⟩
 refine G (dM Z)<|U<|ZT Z<|W<|Zr<|G (bg (cs:= #[J (0),J (0),.slice none 0 0,.slice none 0 0,.slice none 0 0,J (0),J (0)]) cN bv N)<|bo H 3 (#[J (0),J (0),.slice none 0 0,.slice none 0 0,.slice none 0 0,J (0),J (0)]) aK Z Z Z Z Z N N fun w10 H=>G (Wi Z)<|U<|Zt ?_
 have hS:hZ (Pa.a ⟨ep,ld,isr,iA,iC,kn,kA,kC,reps,rA,rC,fw,bs⟩) r=(gw,13):=by simp[hZ,Pa.a,hneg,hne,hb,h21]
 rw[hS]
 exact bE (cs0:= #[J 0,J 0,.slice none 0 0,.slice none 0 0,.slice none 0 0,J 0,J 0]) (v1:=J 13) Z aH Z (H.ent (i:=3) Z) Z Z ⟨zY,rfl,rfl,eA.zero H.below⟩
theorem FM (p:Pa) (r:Nat) (w:World) (h:p.rd 0 w.heap.size w) (hok:p.a.ok) (hr:r<p.reps.length) (hl:p.leader<0∨p.leader=r):dh aa ry [p.v,J (r:Nat)] w fun v w2=>v=.tuple #[.agg #[J 0,J 0,.slice none 0 0,.slice none 0 0,.slice none 0 0,J 0,J 0],J 8]/\Below w.heap.size w w2:=by
 refine aE ue Z Z ?_
 obtain⟨hn1,hn2,hil,hkl,hf1,hf2,he0,he1,hl0,hl1,hb0,hb1,hsm⟩:=Pa.facts hok
 have hkn:=hok.known
 have hiC:=h.iC
 have hkC:=h.kC
 have hrC:=h.rC
 have hfew:=h.few
 have H:=Hp.startPa h
 obtain⟨ep,ld,isr,iA,iC,kn,kA,kC,reps,rA,rC,fw,bs⟩:=p
 simp only[Pa.a]at hkn
 dsimp only at H hn1 hn2 hil hkl hf1 hf2 he0 he1 hl0 hl1 hb0 hb1 hsm hiC hkC hrC hfew
 dsimp only at hr hl
 show CW _ _ _ _ (args [.agg #[J (ep),J (ld),.slice iA isr.length iC,.slice kA kn.length kC,.slice rA reps.length rC,J (fw),J (bs)],J (((r:Nat):Int))]) w
 refine W<|Zr<|f7 H Z Z fun w1 b2 H=>eP H bv Z fun w2 b4 H=>G (Wi Z)<|U<|W<|Zr<|G (Zw aH H 1 Z Z Z)<|G (Yi Z)<|ch qX (FO ⟨ep,ld,isr,iA,iC,kn,kA,kC,reps,rA,rC,fw,bs⟩ r _ (Hp.pa H 0 Z) hok hr hl) Z Z ?_
 rintro _ w3 ⟨rfl,hb⟩;replace H:=H.later hb;clear hb
 refine G (Yu Z)<|G (Xa Z Z)<|G (Xi Z Z)<|bo H 1 (#[J (0),J (0),.slice none 0 0,.slice none 0 0,.slice none 0 0,J (0),J (0)]) aK Z Z Z Z Z N N fun w4 H=>G (Wi Z)<|U<|W<|W<|Zr<|G (Yi Z)<|G (kh Z Z (by decide))<|U<|ZT Z<|W<|Zr<|G (bg (cs:= #[J (0),J (0),.slice none 0 0,.slice none 0 0,.slice none 0 0,J (0),J (0)]) cN bv N)<|G (Yi Z)<|bo H 0 (#[J (0),J (0),.slice none 0 0,.slice none 0 0,.slice none 0 0,J (0),J (0)]) aK Z Z Z Z Z N N fun w5 H=>G (Wi Z)<|U<|Zt ?_
 exact bE (cs0:= #[J 0,J 0,.slice none 0 0,.slice none 0 0,.slice none 0 0,J 0,J 0]) (v1:=J 8) Z aH Z (H.ent (i:=0) Z) Z Z ⟨rfl,H.below⟩
theorem FQ (p:Pa) (r:Nat) (w:World) (h:p.rd 0 w.heap.size w) (hok:p.a.ok) (hr:r<p.reps.length) (hl:p.leader<0∨p.leader=r):dh aa rz [p.v,J (r:Nat)] w fun v w2=>v=.tuple #[.agg #[J 0,J 0,.slice none 0 0,.slice none 0 0,.slice none 0 0,J 0,J 0],J 8]/\Below w.heap.size w w2:=by
 refine aE uf Z Z ?_
 obtain⟨hn1,hn2,hil,hkl,hf1,hf2,he0,he1,hl0,hl1,hb0,hb1,hsm⟩:=Pa.facts hok
 have hkn:=hok.known
 have hiC:=h.iC
 have hkC:=h.kC
 have hrC:=h.rC
 have hfew:=h.few
 have H:=Hp.startPa h
 obtain⟨ep,ld,isr,iA,iC,kn,kA,kC,reps,rA,rC,fw,bs⟩:=p
 simp only[Pa.a]at hkn
 dsimp only at H hn1 hn2 hil hkl hf1 hf2 he0 he1 hl0 hl1 hb0 hb1 hsm hiC hkC hrC hfew
 dsimp only at hr hl
 show CW _ _ _ _ (args [.agg #[J (ep),J (ld),.slice iA isr.length iC,.slice kA kn.length kC,.slice rA reps.length rC,J (fw),J (bs)],J (((r:Nat):Int))]) w
 refine W<|Zr<|f7 H Z Z fun w1 b2 H=>eP H bv Z fun w2 b4 H=>G (Wi Z)<|U<|W<|Zr<|G (Zw aH H 1 Z Z Z)<|G (Yi Z)<|ch qX (FO ⟨ep,ld,isr,iA,iC,kn,kA,kC,reps,rA,rC,fw,bs⟩ r _ (Hp.pa H 0 Z) hok hr hl) Z Z ?_
 rintro _ w3 ⟨rfl,hb⟩;replace H:=H.later hb;clear hb
 refine G (Yu Z)<|G (Xa Z Z)<|G (Xi Z Z)<|bo H 1 (#[J (0),J (0),.slice none 0 0,.slice none 0 0,.slice none 0 0,J (0),J (0)]) aK Z Z Z Z Z N N fun w4 H=>G (Wi Z)<|U<|W<|W<|Zr<|G (Yi Z)<|G (kh Z Z (by decide))<|U<|ZT Z<|W<|Zr<|G (bg (cs:= #[J (0),J (0),.slice none 0 0,.slice none 0 0,.slice none 0 0,J (0),J (0)]) cN bv N)<|G (Yi Z)<|bo H 0 (#[J (0),J (0),.slice none 0 0,.slice none 0 0,.slice none 0 0,J (0),J (0)]) aK Z Z Z Z Z N N fun w5 H=>G (Wi Z)<|U<|Zt ?_
 exact bE (cs0:= #[J 0,J 0,.slice none 0 0,.slice none 0 0,.slice none 0 0,J 0,J 0]) (v1:=J 8) Z aH Z (H.ent (i:=0) Z) Z Z ⟨rfl,H.below⟩
theorem FP (p:Pa) (r:Nat) (w:World) (h:p.rd 0 w.heap.size w) (hok:p.a.ok) (hr:r<p.reps.length) (hl:0<=p.leader) (hne:p.leader≠r):dh aa rz [p.v,J (r:Nat)] w fun v w2=> ∃ p':Pa,v=.tuple #[p'.v,J (fT p.a r).2]/\p'.a=(fT p.a r).1/\eA w w2 p':=by
 refine aE uf Z Z ?_
 obtain⟨hn1,hn2,hil,hkl,hf1,hf2,he0,he1,hl0,hl1,hb0,hb1,hsm⟩:=Pa.facts hok
 have hkn:=hok.known
 have hiC:=h.iC
 have hkC:=h.kC
 have hrC:=h.rC
 have hfew:=h.few
 have H:=Hp.startPa h
 obtain⟨ep,ld,isr,iA,iC,kn,kA,kC,reps,rA,rC,fw,bs⟩:=p
 simp only[Pa.a]at hkn
 dsimp only at H hn1 hn2 hil hkl hf1 hf2 he0 he1 hl0 hl1 hb0 hb1 hsm hiC hkC hrC hfew
 dsimp only at hr hl hne
 show CW _ _ _ _ (args [.agg #[J (ep),J (ld),.slice iA isr.length iC,.slice kA kn.length kC,.slice rA reps.length rC,J (fw),J (bs)],J (((r:Nat):Int))]) w
 refine W<|Zr<|f7 H Z Z fun w1 b2 H=>eP H bv Z fun w2 b4 H=>G (Wi Z)<|U<|W<|Zr<|G (Zw aH H 1 Z Z Z)<|G (Yi Z)<|ch qX (IV ⟨ep,ld,isr,iA,iC,kn,kA,kC,reps,rA,rC,fw,bs⟩ r _ (Hp.pa H 0 Z) hok hr hl hne) Z Z ?_
 rintro _ w3 ⟨⟨ep2,ld2,is2,iA2,c1,kn2,kA2,c2,rs,rA2,c3,fw2,bs2⟩,g1,g2,g3,u1,u2,u3,rfl,ha2,ho⟩
 simp only[Pa.a,fD.mk.injEq]at ha2
 obtain⟨e1,e2,e3,e4,hma,e6,e7⟩:=ha2
 obtain rfl:ep=ep2:=e1.symm
 obtain rfl:ld=ld2:=e2.symm
 obtain rfl:isr=is2:=e3.symm
 obtain rfl:kn=kn2:=e4.symm
 obtain rfl:fw=fw2:=e6.symm
 obtain rfl:bs=bs2:=e7.symm
 have hrl:rs.length=reps.length:=by have:=congrArg ci hma;simpa using this
 obtain⟨i1,i2,i3,row1,row2,row3,hcp,hlos,-,hjn⟩:=ho
 dsimp only at i1 i2 i3 row1 row2 row3 hcp hlos hjn
 subst i1;subst i2;subst i3
 have hlo0:=H.size
 replace H:=H.joinF hjn (by intro f hf;obtain⟨r,hr,rfl⟩:=bp.1 hf;exact hlos r hr)
 replace hlos: ∀ r∈rs,w.heap.size<=r.lo:=fun r hr=>aU hlo0 (hlos r hr)
 clear hjn
 have hlg:=qw.of (F:=[DM 0 w.heap.size ⟨ep,ld,isr,iA,iC,kn,kA,kC,reps,rA,rC,fw,bs⟩,dU eX 0 w.heap.size iA isr,dU bR 0 w.heap.size kA kn,dU g8 0 w.heap.size rA reps]) hcp hlos
 have hok2: ∀ {i:Nat} {x:fk},rs[i]? =some x->GL x.es x.s/\0<=x.high/\x.high<=x.es.length:=fun hx=>wV hma hok hx
 obtain⟨x,hx⟩: ∃ x,rs[r]? =some x:=⟨_,ah I⟩
 have hxa:=wh hma hx
 refine G (Yu Z)<|G (Xa Z Z)<|G (Xi Z Z)<|bo H 4 (#[J (ep),J (ld),.slice (Qd g1) isr.length c1,.slice (Qd g2) kn.length c2,.slice (Qd g3) rs.length c3,J (fw),J (bs)]) aK Z Z Z Z Z N N fun w4 H=>G (Wi Z)<|U<|W<|W<|Zr<|G (Yi Z)<|G (bZ Z Z Z)<|U<|ZF Z<|Zk<|W<|Zb<|W ?_
 obtain⟨b,hb⟩: ∃ b,isr[r]? =some b:=⟨_,ah I⟩
 have hneg: ¬ ld<0:=by omega
 obtain⟨l,hld⟩: ∃ l:Nat,ld=l:=⟨ld.toNat,by omega⟩
 obtain⟨y,hy⟩: ∃ y,rs[l]? =some y:=⟨_,ah I⟩
 refine Zr<|G (Zf gi Z)<|G (Zd gN H 4 Z Z Z)<|G (Yi Z)<|G (cG ed Z Z (by first|omega|(simp only[ae];omega))) ?_
 refine wW (bP dS row1 hb 0 Z (H.ent (i:=0) Z) Z) Z Z Z (fun h22=> ?_) (fun h22=> ?_)
 refine G (Wb Z)<|U<|ZT Z<|W<|Zr<|G (bg (cs:= #[J (0),J (0),.slice none 0 0,.slice none 0 0,.slice none 0 0,J (0),J (0)]) cN bv N)<|bo H 3 (#[J (0),J (0),.slice none 0 0,.slice none 0 0,.slice none 0 0,J (0),J (0)]) aK Z Z Z Z Z N N fun w5 H=>G (Wi Z)<|U<|Zt ?_
 have hS:fT (Pa.a ⟨ep,ld,isr,iA,iC,kn,kA,kC,reps,rA,rC,fw,bs⟩) r=(gw,6):=by simp[fT,Pa.a,hneg,hne,hb,hxa,fk.a,h22]
 rw[hS]
 exact bE (cs0:= #[J 0,J 0,.slice none 0 0,.slice none 0 0,.slice none 0 0,J 0,J 0]) (v1:=J 6) Z aH Z (H.ent (i:=3) Z) Z Z ⟨zY,rfl,rfl,eA.zero H.below⟩
 refine G (Wb Z)<|U<|ZF Z<|W<|Zr<|G (Zf cU Z)<|G (Zd bW H 4 Z Z Z)<|G (Yi Z)<|G (cG bx Z Z (by first|omega|(simp only[ae];omega)))<|G (Zf fB Z) ?_
 refine wW (bP dS row3 hx 0 Z (H.ent (i:=2) Z) Z) Z Z Z (fun h30=> ?_) (fun h30=> ?_)
 refine G (dM Z)<|G (Wb Z)<|U<|ZF Z<|W ?_
 obtain⟨kx,hkx⟩: ∃ kx,kn[r]? =some kx:=⟨_,ah I⟩
 refine bA cd [0,1,2,3,4,5,6,7,8,9,10,11,12,13,14,15,16] [] [] [0,2,3,5,7,9,11,12,14,15,16] (sp []) N N N N Nq (cI _) ?_
 refine aw Z Z Z Z Z (fun w' hw'=>Zf gh Z)<|aw Z Z Z Z Z (fun w' hw'=>aW cy Z (aB ((H.later hw').ent (i:=4) Z) Z))<|aw Z Z Z Z Z (fun w' hw'=>Yi Z)<|aw Z Z Z Z Z (fun w' hw'=>cG bc Z Z (by first|omega|(simp only[ae];omega)))<|aw Z Z Z Z Z (fun w' hw'=>bP ak row2 hkx 0 Z ((H.later hw').ent (i:=1) Z) Z)<|aw Z Z Z Z Z (fun w' hw'=>Zf u6 Z)<|aw Z Z Z Z Z (fun w' hw'=>aW ak Z (aB ((H.later hw').ent (i:=4) Z) Z))<|aw Z Z Z Z Z (fun w' hw'=>Zf cU Z)<|aw Z Z Z Z Z (fun w' hw'=>aW bW Z (aB ((H.later hw').ent (i:=4) Z) Z))<|aw Z Z Z Z Z (fun w' hw'=>Zf dt Z)<|aw Z Z Z Z Z (fun w' hw'=>aW ak Z (aB ((H.later hw').ent (i:=4) Z) Z))<|aw Z Z Z Z Z (fun w' hw'=>cG (k:=l) bx Z (congrArg (Value.int .i64) hld) (by first|omega|(simp only[ae];omega)))<|aw Z Z Z Z Z (fun w' hw'=>Zf dZ Z)<|aw Z Z Z Z Z (fun w' hw'=>bP ak row3 hy 3 Z ((H.later hw').ent (i:=2) Z) Z)<|aw Z Z Z Z Z (fun w' hw'=>AJ Z Z) ?_
 refine B2 Z Z Z Z Z (fun w' hw'=>cK Z Z) (fun h49=> ?_) (fun h49=> ?_)
 refine aw Z Z Z Z Z (fun w' hw'=>Wb Z)<|aV ?_
 intro w6 hw' hF
 replace H:=H.later hw';clear hw' hF
 refine U<|ZT Z<|W<|Zr<|G (bg (cs:= #[J (0),J (0),.slice none 0 0,.slice none 0 0,.slice none 0 0,J (0),J (0)]) cN bv N)<|bo H 3 (#[J (0),J (0),.slice none 0 0,.slice none 0 0,.slice none 0 0,J (0),J (0)]) aK Z Z Z Z Z N N fun w7 H=>G (Wi Z)<|U<|Zt ?_
 have hho:sQ (Pa.a ⟨ep,ld,isr,iA,iC,kn,kA,kC,reps,rA,rC,fw,bs⟩)=y.high:=by unfold sQ;rw[show(Pa.a ⟨ep,ld,isr,iA,iC,kn,kA,kC,reps,rA,rC,fw,bs⟩).leader.toNat=l by show ld.toNat=l;omega,show(Pa.a ⟨ep,ld,isr,iA,iC,kn,kA,kC,reps,rA,rC,fw,bs⟩).reps[l]? =some y.a from wh hma hy];rfl
 have hkg:kn.getD r 0=kx:=by rw[bY,hkx];rfl
 simp only[Pa.a]at hho
 have hS:fT (Pa.a ⟨ep,ld,isr,iA,iC,kn,kA,kC,reps,rA,rC,fw,bs⟩) r=(gw,13):=by simp[fT,Pa.a,hneg,hne,hb,hxa,fk.a,h22,h30,hho,hkx,h49]
 rw[hS]
 exact bE (cs0:= #[J 0,J 0,.slice none 0 0,.slice none 0 0,.slice none 0 0,J 0,J 0]) (v1:=J 13) Z aH Z (H.ent (i:=3) Z) Z Z ⟨zY,rfl,rfl,eA.zero H.below⟩
 refine aw Z Z Z Z Z (fun w' hw'=>Wb Z)<|aV ?_
 intro w8 hw' hF
 replace H:=H.later hw';clear hw' hF
 refine U<|ZF Z<|Zk<|W<|Zr<|G (Zf gi Z)<|G (Zd gN H 4 Z Z Z)<|G (Yi Z)<|G (cG ed Z Z (by first|omega|(simp only[ae];omega)))<|k9 H 0 ((true)) iU row1 hb 0 Z Z Z Z Z Z N fun w10 cur9 row9 H=> ?_
 have hs11:(isr.set r ((true)))[r]? =some ((true)):=al (cC hb).1
 refine U<|W<|Zr<|G (Zw aH H 4 Z Z Z)<|bo H 3 (#[J (ep),J (ld),.slice (Qd g1) isr.length c1,.slice (Qd g2) kn.length c2,.slice (Qd g3) rs.length c3,J (fw),J (bs)]) aK Z Z Z Z Z N N fun w12 H=>G (Wi Z)<|U<|Zt ?_
 have hho:sQ (Pa.a ⟨ep,ld,isr,iA,iC,kn,kA,kC,reps,rA,rC,fw,bs⟩)=y.high:=by unfold sQ;rw[show(Pa.a ⟨ep,ld,isr,iA,iC,kn,kA,kC,reps,rA,rC,fw,bs⟩).leader.toNat=l by show ld.toNat=l;omega,show(Pa.a ⟨ep,ld,isr,iA,iC,kn,kA,kC,reps,rA,rC,fw,bs⟩).reps[l]? =some y.a from wh hma hy];rfl
 have hkg:kn.getD r 0=kx:=by rw[bY,hkx];rfl
 simp only[Pa.a]at hho
 have hS:fT (Pa.a ⟨ep,ld,isr,iA,iC,kn,kA,kC,reps,rA,rC,fw,bs⟩) r=({Pa.a ⟨ep,ld,isr,iA,iC,kn,kA,kC,reps,rA,rC,fw,bs⟩with isr:=isr.set r true},0):=by simp[fT,Pa.a,hneg,hne,hb,hxa,fk.a,h22,h30,hho,hkx,show¬ kx<max bs y.high from h49]
 rw[hS]
 exact bE (cs0:= #[J (ep),J (ld),.slice (Qd g1) isr.length c1,.slice (Qd g2) kn.length c2,.slice (Qd g3) rs.length c3,J (fw),J (bs)]) (v1:=J 0) Z aH Z (H.ent (i:=3) Z) Z Z ⟨_,by simp[Pa.c],by simp[Pa.a,hma],(eA.mk_ (p:=⟨ep,ld,isr.set r true,some ⟨g1,0,none⟩,c1,kn,some ⟨g2,0,none⟩,c2,rs,some ⟨g3,0,none⟩,c3,fw,bs⟩) Z Z Z row9 row2 row3 hlg (by dsimp only;try simp only[ae,bI];omega) H ⟨by simp,by simp,by simp⟩)⟩
 refine G (dM Z)<|G (Wb Z)<|U<|ZT Z<|W<|Zr<|G (bg (cs:= #[J (0),J (0),.slice none 0 0,.slice none 0 0,.slice none 0 0,J (0),J (0)]) cN bv N)<|bo H 3 (#[J (0),J (0),.slice none 0 0,.slice none 0 0,.slice none 0 0,J (0),J (0)]) aK Z Z Z Z Z N N fun w13 H=>G (Wi Z)<|U<|Zt ?_
 have hS:fT (Pa.a ⟨ep,ld,isr,iA,iC,kn,kA,kC,reps,rA,rC,fw,bs⟩) r=(gw,7):=by simp[fT,Pa.a,hneg,hne,hb,hxa,fk.a,h22,h30]
 rw[hS]
 exact bE (cs0:= #[J 0,J 0,.slice none 0 0,.slice none 0 0,.slice none 0 0,J 0,J 0]) (v1:=J 7) Z aH Z (H.ent (i:=3) Z) Z Z ⟨zY,rfl,rfl,eA.zero H.below⟩
theorem Hy (p:Pa) (r:Nat) (w:World) (h:p.rd 0 w.heap.size w) (hok:p.a.ok) (hr:r<p.reps.length):dh aa ry [p.v,J (r:Nat)] w fun v w2=> ∃ p':Pa,v=.tuple #[p'.v,J (hZ p.a r).2]/\p'.a=(hZ p.a r).1/\eA w w2 p':=by
 by_cases hl:p.leader<0∨p.leader=r
 have hS:hZ p.a r=(gw,8):=by unfold hZ;exact if_pos hl
 rw[hS]
 exact(FM p r w h hok hr hl).mono fun _ _ ⟨h1,h2⟩=>⟨zY,h1,rfl,eA.zero h2⟩
 exact FL p r w h hok hr I I
theorem HA (p:Pa) (r:Nat) (w:World) (h:p.rd 0 w.heap.size w) (hok:p.a.ok) (hr:r<p.reps.length):dh aa rz [p.v,J (r:Nat)] w fun v w2=> ∃ p':Pa,v=.tuple #[p'.v,J (fT p.a r).2]/\p'.a=(fT p.a r).1/\eA w w2 p':=by
 by_cases hl:p.leader<0∨p.leader=r
 have hS:fT p.a r=(gw,8):=by unfold fT;exact if_pos hl
 rw[hS]
 exact(FQ p r w h hok hr hl).mono fun _ _ ⟨h1,h2⟩=>⟨zY,h1,rfl,eA.zero h2⟩
 exact FP p r w h hok hr I I
/-- how many of those that keep up are up -/
def G6:List Bool->List RA->Int->Int
 |b::bs,y::ys,n=>G6 bs ys (if(b&&y.up)=true then n+1 else n)
 |_,_,n=>n
theorem DR {isr:List Bool} {ys:List RA} {k:Nat} {b:Bool} {y:RA} {n:Int} (hb:isr[k]? =some b) (hy:ys[k]? =some y):G6 (isr.drop k) (ys.drop k) n=G6 (isr.drop (k+1)) (ys.drop (k+1)) (if(b&&y.up)=true then n+1 else n):=by
 rw[cP hb,cP hy]
 rfl
def er (p:fD) (e:cz):fD×Int×Int:=if p.leader<0 then(gw,0,8)else match p.reps[p.leader.toNat]? with
 |none=>(gw,0,12)
 |some x=>if eD {e with epoch:=p.epoch}≠0 then(gw,0,eD {e with epoch:=p.epoch})else
  if(fc x.es {e with epoch:=p.epoch}).2≠0 then(gw,0,(fc x.es {e with epoch:=p.epoch}).2)else
  if 0<=(fc x.es {e with epoch:=p.epoch}).1 then(p,(fc x.es {e with epoch:=p.epoch}).1,0)else
  if G6 p.isr p.reps 0<p.few then(gw,0,9)else({p with reps:=p.reps.set p.leader.toNat {x with es:=x.es++[{e with epoch:=p.epoch}]}},(x.es.length:Nat),0)
theorem Mj {es:List cz} {s:Nat} {x:cz} (h:GL es s) (hx:kT x) (hl:es.length<400): ¬ Cn es x:=by
 have h1:=EP (es++[x]) (fun e he=>by
  rcases ap.1 he with he|he
  exact h.good e he
  rw[aq.1 he];exact hx)
 rw[kP,ay,ay]at h1
 simp only[bO]at h1
 unfold Cn
 omega
theorem vA (l:m7) (x:cz) (w:World) (h:l.ok w) (hx:kT x) (hf:l.es.length<400):dh aa xd [.agg l.c.toArray,x.v] w fun v w2=> ∃ A' c',v=.tuple #[.agg #[.slice A' (bj (l.es++[x])).length c',J (fW (l.es++[x]) l.s:Nat)],J 0]/\(bj (l.es++[x])).length<=c'/\Rd dC w.heap.size w2.heap.size A' (bj (l.es++[x])) w2/\Below w.heap.size w w2:=
 (D7 l x w h hx (Mj h.gl hx hf)).mono fun _ _ ⟨A',c',h1,h2,h3⟩=>⟨A',c',h1,h2.2.1,h2.2.2,h3⟩
theorem vJ {w:World} {b:Nat} {l:List UInt8} (h:w.heap[b]? =some (.cells #[.slice none 0 0,J 0] BW (0,0))) (h0:0<l.length): ∃ (j:Nat) (u:Value),(dC.all l)[j]? =some u/\ ∀ k,w.cell? ⟨b,k,none⟩≠some u:=by
 obtain⟨x,l,rfl⟩: ∃ x t,l=x::t:=by cases l<;>simp at h0⊢
 refine⟨0,.int .u8 (x.toNat:Nat),rfl,fun k hk=> ?_⟩
 have:=OP h hk
 simp at this
theorem zI (p:Pa) (e:cz) (w:World) (h:p.rd 0 w.heap.size w) (hok:p.a.ok) (hroom: ∀ (l:Nat) (x:fk),p.leader=l->p.reps[l]? =some x->x.es.length<400):dh aa Ia [p.v,e.v] w fun v w2=> ∃ p':Pa,v=.tuple #[p'.v,J (er p.a e).2.1,J (er p.a e).2.2]/\p'.a=(er p.a e).1/\eA w w2 p':=by
 refine aE GA Z Z ?_
 obtain⟨hn1,hn2,hil,hkl,hf1,hf2,he0,he1,hl0,hl1,hb0,hb1,hsm⟩:=Pa.facts hok
 have hkn:=hok.known
 have hiC:=h.iC
 have hkC:=h.kC
 have hrC:=h.rC
 have hfew:=h.few
 have H:=Hp.startPa h
 obtain⟨ep,ld,isr,iA,iC,kn,kA,kC,reps,rA,rC,fw,bs⟩:=p
 simp only[Pa.a]at hkn
 dsimp only at H hn1 hn2 hil hkl hf1 hf2 he0 he1 hl0 hl1 hb0 hb1 hsm hiC hkC hrC hfew
 dsimp only at hroom
 show CW _ _ _ _ (args [.agg #[J (ep),J (ld),.slice iA isr.length iC,.slice kA kn.length kC,.slice rA reps.length rC,J (fw),J (bs)],.agg #[J (e.epoch),J (e.pid),J (e.ver),J (e.seq),J (e.kind),.bool (e.txn),.string (e.text)]]) w
 refine W<|Zr<|f7 H Z Z fun w1 b2 H=>f7 H Z Z fun w2 b3 H=>eP H bv Z fun w3 b4 H=>G (Wi Z)<|G (Wi Z)<|U<|W<|W<|Zr<|G (Zw aH H 2 Z Z Z)<|ch lx (rU ⟨ep,ld,isr,iA,iC,kn,kA,kC,reps,rA,rC,fw,bs⟩ _ (Hp.pa H 0 Z) hok) Z Z ?_
 rintro _ w4 ⟨rfl,hb⟩;replace H:=H.later hb;clear hb
 refine G (Wi Z)<|U<|W<|Zr<|G (Yi Z)<|G (bZ Z Z Z)<|U<|ZF Z<|Zk<|W<|W<|Zr<|G (Zf dt Z)<|G (Zd ak H 2 Z Z Z) ?_
 refine cW (cK Z Z) Z Z Z (fun h27=> ?_) (fun h27=> ?_)
 refine U<|ZT Z<|W<|Zr<|G (bg (cs:= #[J (0),J (0),.slice none 0 0,.slice none 0 0,.slice none 0 0,J (0),J (0)]) cN bv N)<|bo H 0 (#[J (0),J (0),.slice none 0 0,.slice none 0 0,.slice none 0 0,J (0),J (0)]) aK Z Z Z Z Z N N fun w5 H=>G (Wi Z)<|G (Wi Z)<|U<|Zt ?_
 have hS:er (Pa.a ⟨ep,ld,isr,iA,iC,kn,kA,kC,reps,rA,rC,fw,bs⟩) e=(gw,0,8):=by unfold er;exact if_pos h27
 rw[hS]
 exact gE (cs0:= #[J 0,J 0,.slice none 0 0,.slice none 0 0,.slice none 0 0,J 0,J 0]) (v1:=J (0)) (v2:=J (8)) Z aH Z (H.ent (i:=0) Z) Z Z Z ⟨zY,rfl,rfl,eA.zero H.below⟩
 refine U<|ZF Z<|Zk<|W ?_
 obtain⟨l,hld⟩: ∃ l:Nat,ld=l:=⟨ld.toNat,by omega⟩
 refine Zr<|G (Zw aH H 2 Z Z Z)<|ch mZ (Ax ⟨ep,ld,isr,iA,iC,kn,kA,kC,reps,rA,rC,fw,bs⟩ _ (Hp.pa H 0 Z) hok) Z Z ?_
 rintro _ w6 ⟨⟨ep2,ld2,is2,iA2,c1,kn2,kA2,c2,rs,rA2,c3,fw2,bs2⟩,g1,g2,g3,u1,u2,u3,rfl,ha2,ho⟩
 simp only[Pa.a,fD.mk.injEq]at ha2
 obtain⟨e1,e2,e3,e4,hma,e6,e7⟩:=ha2
 obtain rfl:ep=ep2:=e1.symm
 obtain rfl:ld=ld2:=e2.symm
 obtain rfl:isr=is2:=e3.symm
 obtain rfl:kn=kn2:=e4.symm
 obtain rfl:fw=fw2:=e6.symm
 obtain rfl:bs=bs2:=e7.symm
 have hrl:rs.length=reps.length:=by have:=congrArg ci hma;simpa using this
 obtain⟨i1,i2,i3,row1,row2,row3,hcp,hlos,-,hjn⟩:=ho
 dsimp only at i1 i2 i3 row1 row2 row3 hcp hlos hjn
 subst i1;subst i2;subst i3
 have hlo0:=H.size
 replace H:=H.joinF hjn (by intro f hf;obtain⟨r,hr,rfl⟩:=bp.1 hf;exact hlos r hr)
 replace hlos: ∀ r∈rs,w.heap.size<=r.lo:=fun r hr=>aU hlo0 (hlos r hr)
 clear hjn
 have hlg:=qw.of (F:=[DM 0 w.heap.size ⟨ep,ld,isr,iA,iC,kn,kA,kC,reps,rA,rC,fw,bs⟩,dU eX 0 w.heap.size iA isr,dU bR 0 w.heap.size kA kn,dU g8 0 w.heap.size rA reps]) hcp hlos
 have hok2: ∀ {i:Nat} {x:fk},rs[i]? =some x->GL x.es x.s/\0<=x.high/\x.high<=x.es.length:=fun hx=>wV hma hok hx
 obtain⟨x,hx⟩: ∃ x,rs[l]? =some x:=⟨_,ah I⟩
 have hxa:=wh hma hx
 refine bo H 5 (#[J (ep),J (ld),.slice (Qd g1) isr.length c1,.slice (Qd g2) kn.length c2,.slice (Qd g3) rs.length c3,J (fw),J (bs)]) aK Z Z Z Z Z N N fun w7 H=>U<|W<|Zr<|G (Zf cU Z)<|G (Zd bW H 5 Z Z Z)<|G (Zf dt Z)<|G (Zd ak H 5 Z Z Z)<|G (cG (k:=l) bx Z (congrArg (Value.int .i64) hld) (by first|omega|(simp only[ae];omega)))<|G (Wp Z)<|U<|W<|Zr<|G (Yp Z)<|G (aJ Z)<|G (Zf dA Z)<|G (tW 1 [.slice x.A ((bj x.es).length) x.cap,J (((fW x.es x.s:Nat):Int))] eV row3 hx Z Z (H.ent (i:=2) Z) Z)<|ch gJ (ik x.A x.cap x.es x.s _ (hlg.log H hx (hok2 hx).1)) Z Z ?_
 have hloen:=H.size
 rintro _ w8 ⟨Aen,cen,rfl,hren,hcen,hben⟩;replace H:=H.learnRd hben hren;clear hren hben
 refine G (Yu Z)<|G (Xs Z Z)<|G (Xi Z Z)<|G (Xi Z Z)<|G (Ws Z)<|G (Wi Z)<|G (Wi Z)<|U<|W<|Zr<|G (Zf p5 Z)<|G (Zd ak H 5 Z Z Z)<|G (Zf nR Z)<|bo H 4 (#[J (ep),J (e.pid),J (e.ver),J (e.seq),J (e.kind),.bool (e.txn),.string (e.text)]) bH Z Z Z Z Z N N fun w9 H=>U<|W<|W<|Zr<|G (Zw dG H 4 Z Z Z)<|ch rM (xT {e with epoch:=ep} _) Z Z ?_
 rintro _ w10 ⟨rfl,hb⟩;replace H:=H.later hb;clear hb
 refine G (Wi Z)<|U<|W<|Zr<|G (Yi Z) ?_
 refine ro (jh Z Z) Z Z Z (fun h51=> ?_) (fun h51=> ?_)
 refine U<|ZT Z<|W<|Zr<|G (bg (cs:= #[J (0),J (0),.slice none 0 0,.slice none 0 0,.slice none 0 0,J (0),J (0)]) cN bv N)<|G (Yi Z)<|bo H 3 (#[J (0),J (0),.slice none 0 0,.slice none 0 0,.slice none 0 0,J (0),J (0)]) aK Z Z Z Z Z N N fun w11 H=>G (Wi Z)<|G (Wi Z)<|U<|Zt ?_
 have hlr:(Pa.a ⟨ep,ld,isr,iA,iC,kn,kA,kC,reps,rA,rC,fw,bs⟩).reps[ld.toNat]? =some x.a:=by rw[show ld.toNat=l by omega];exact hxa
 have hS:er (Pa.a ⟨ep,ld,isr,iA,iC,kn,kA,kC,reps,rA,rC,fw,bs⟩) e=(gw,0,eD {e with epoch:=ep}):=by unfold er;rw[if_neg (show¬ (Pa.a ⟨ep,ld,isr,iA,iC,kn,kA,kC,reps,rA,rC,fw,bs⟩).leader<0 from by show¬ ld<0;omega),show(Pa.a ⟨ep,ld,isr,iA,iC,kn,kA,kC,reps,rA,rC,fw,bs⟩).leader.toNat=ld.toNat from rfl,hlr];simp[Pa.a,fk.a,h51]
 rw[hS]
 exact gE (cs0:= #[J 0,J 0,.slice none 0 0,.slice none 0 0,.slice none 0 0,J 0,J 0]) (v1:=J (0)) (v2:=J (eD {e with epoch:=ep})) Z aH Z (H.ent (i:=3) Z) Z Z Z ⟨zY,rfl,rfl,eA.zero H.below⟩
 refine U<|ZF Z<|Zk<|W<|Zr<|G (Ys Z)<|G (Zw dG H 4 Z Z Z)<|ch CI (Jr x.es Aen cen {e with epoch:=ep} _ (H.rd0 0 Z) (by have:=(hok2 hx).1.len;omega) (JE (hok2 hx).1.good)) Z Z ?_
 rintro _ w12 ⟨rfl,hb⟩;replace H:=H.later hb;clear hb
 refine G (Yu Z)<|G (Xi Z Z)<|G (Xi Z Z)<|G (Wi Z)<|G (Wi Z)<|U<|W<|W<|Zr<|G (Yi Z) ?_
 refine ro (jh Z Z) Z Z Z (fun h61=> ?_) (fun h61=> ?_)
 refine U<|ZT Z<|W<|Zr<|G (bg (cs:= #[J (0),J (0),.slice none 0 0,.slice none 0 0,.slice none 0 0,J (0),J (0)]) cN bv N)<|G (Yi Z)<|bo H 3 (#[J (0),J (0),.slice none 0 0,.slice none 0 0,.slice none 0 0,J (0),J (0)]) aK Z Z Z Z Z N N fun w13 H=>G (Wi Z)<|G (Wi Z)<|U<|Zt ?_
 have hlr:(Pa.a ⟨ep,ld,isr,iA,iC,kn,kA,kC,reps,rA,rC,fw,bs⟩).reps[ld.toNat]? =some x.a:=by rw[show ld.toNat=l by omega];exact hxa
 have hS:er (Pa.a ⟨ep,ld,isr,iA,iC,kn,kA,kC,reps,rA,rC,fw,bs⟩) e=(gw,0,(fc x.es {e with epoch:=ep}).2):=by unfold er;rw[if_neg (show¬ (Pa.a ⟨ep,ld,isr,iA,iC,kn,kA,kC,reps,rA,rC,fw,bs⟩).leader<0 from by show¬ ld<0;omega),show(Pa.a ⟨ep,ld,isr,iA,iC,kn,kA,kC,reps,rA,rC,fw,bs⟩).leader.toNat=ld.toNat from rfl,hlr];simp[Pa.a,fk.a,h51,h61]
 rw[hS]
 exact gE (cs0:= #[J 0,J 0,.slice none 0 0,.slice none 0 0,.slice none 0 0,J 0,J 0]) (v1:=J (0)) (v2:=J ((fc x.es {e with epoch:=ep}).2)) Z aH Z (H.ent (i:=3) Z) Z Z Z ⟨zY,rfl,rfl,eA.zero H.below⟩
 refine U<|ZF Z<|Zk<|W<|W<|Zr<|G (Yi Z) ?_
 refine cW (ko Z Z) Z Z Z (fun h65=> ?_) (fun h65=> ?_)
 refine U<|ZT Z<|W<|Zr<|G (Zw aH H 5 Z Z Z)<|G (Yi Z)<|bo H 3 (#[J (ep),J (ld),.slice (Qd g1) isr.length c1,.slice (Qd g2) kn.length c2,.slice (Qd g3) rs.length c3,J (fw),J (bs)]) aK Z Z Z Z Z N N fun w14 H=>G (Wi Z)<|G (Wi Z)<|U<|Zt ?_
 have hlr:(Pa.a ⟨ep,ld,isr,iA,iC,kn,kA,kC,reps,rA,rC,fw,bs⟩).reps[ld.toNat]? =some x.a:=by rw[show ld.toNat=l by omega];exact hxa
 have hS:er (Pa.a ⟨ep,ld,isr,iA,iC,kn,kA,kC,reps,rA,rC,fw,bs⟩) e=((Pa.a ⟨ep,ld,isr,iA,iC,kn,kA,kC,reps,rA,rC,fw,bs⟩),(fc x.es {e with epoch:=ep}).1,0):=by unfold er;rw[if_neg (show¬ (Pa.a ⟨ep,ld,isr,iA,iC,kn,kA,kC,reps,rA,rC,fw,bs⟩).leader<0 from by show¬ ld<0;omega),show(Pa.a ⟨ep,ld,isr,iA,iC,kn,kA,kC,reps,rA,rC,fw,bs⟩).leader.toNat=ld.toNat from rfl,hlr];simp[Pa.a,fk.a,h51,h61,h65]
 rw[hS]
 exact gE (cs0:= #[J (ep),J (ld),.slice (Qd g1) isr.length c1,.slice (Qd g2) kn.length c2,.slice (Qd g3) rs.length c3,J (fw),J (bs)]) (v1:=J ((fc x.es {e with epoch:=ep}).1)) (v2:=J (0)) Z aH Z (H.ent (i:=3) Z) Z Z Z ⟨_,by simp[Pa.c],by simp[Pa.a,cE,hma,fk.a],(eA.mk_ (p:=⟨ep,ld,isr,some ⟨g1,0,none⟩,c1,kn,some ⟨g2,0,none⟩,c2,rs,some ⟨g3,0,none⟩,c3,fw,bs⟩) Z Z Z row1 row2 row3 hlg.cons (by dsimp only;first|omega|(simp only[ae,bI];omega)) H ⟨by simp,by simp,by simp⟩)⟩
 refine U<|ZF Z<|Zk<|W<|Zr<|G (Wi Z)<|U<|W<|W<|Zr<|G (Zf cU Z)<|G (Zd bW H 5 Z Z Z)<|G (br ib Z)<|G (Yi Z)<|U<|Zb ?_
 refine cD (τ:=Nat×Int) [15,16,17,71,72,73,74,75,76,77,78,79,80,81,82,83,84,85,86,87] (fun(k,n)=>[(71,J (k:Nat)),(15,J n)]) (fun(k,n) w'=>k<=rs.length/\(0<=n/\n<=k)/\G6 (isr.drop k) ((rs.map fk.a).drop k) n=G6 isr (rs.map fk.a) 0/\Hp w w' [(g1,.cells u1 jr (0,0)),(g2,.cells u2 db (0,0)),(g3,.cells u3 fZ (0,0)),(b4,.cells #[J (0),J (0),.slice none 0 0,.slice none 0 0,.slice none 0 0,J (0),J (0)] bF (0,0)),(b3,.cells #[J (ep),J (e.pid),J (e.ver),J (e.seq),J (e.kind),.bool (e.txn),.string (e.text)] dw (0,0)),(b2,.cells #[J (ep),J (ld),.slice (Qd g1) isr.length c1,.slice (Qd g2) kn.length c2,.slice (Qd g3) rs.length c3,J (fw),J (bs)] bF (0,0))] ([dU gV w7.heap.size w8.heap.size Aen x.es,DM 0 w.heap.size ⟨ep,ld,isr,iA,iC,kn,kA,kC,reps,rA,rC,fw,bs⟩,dU eX 0 w.heap.size iA isr,dU bR 0 w.heap.size kA kn,dU g8 0 w.heap.size rA reps]++te rs)) (fun(k,_)=>rs.length-k) (0,0) ⟨by omega,by omega,rfl,H⟩ (li Z Z) ?_
 rintro⟨k,n⟩ ρ1 w15 ⟨hk,⟨hn0,hnk⟩,hm,H⟩
 show CW _ _ _ _ (dH (gZ _ _ ρ1) [(71,J (k:Nat)),(15,J n)]) w15
 refine W<|Zr ?_
 refine cW (cK Z Z) Z Z Z (fun h72=> ?_) (fun h72=> ?_)
 refine U<|W<|ZT Z<|Zk<|W<|Zb<|W ?_
 obtain⟨y,hy⟩: ∃ y,rs[k]? =some y:=⟨_,ah I⟩
 obtain⟨b,hb⟩: ∃ b,isr[k]? =some b:=⟨_,ah I⟩
 refine Zr<|G (Yi Z)<|G (cG bx Z Z (by first|omega|(simp only[ae];omega)))<|G (pe oU row3 hy Z Z (H.ent (i:=2) Z))<|eP H pZ Z fun w16 b17 H=>G (Wi Z)<|bo H 0 (#[.bool (y.up),.slice y.A ((bj y.es).length) y.cap,J (((fW y.es y.s:Nat):Int)),J (y.high)]) lW Z Z Z Z Z N N fun w17 H=>U<|W<|Zr<|G (Zf gi Z)<|G (Zd gN H 6 Z Z Z)<|G (Yi Z)<|G (cG ed Z Z (by first|omega|(simp only[ae];omega))) ?_
 refine wW (bP dS row1 hb 0 Z (H.ent (i:=1) Z) Z) Z Z Z (fun h80=> ?_) (fun h80=> ?_)
 refine G (Yb Z)<|ZG<|G (Zf fB Z)<|ZG ?_
 refine wW (aW dS Z (aB (H.ent (i:=0) Z) Z)) Z Z Z (fun h83=> ?_) (fun h83=> ?_)
 refine G (Kt Z Z)<|U<|ZT Z<|Zr<|G (Yi Z)<|G (bw Z Z I I)<|G (Wi Z)<|U<|Zr<|G (bw Z Z I I)<|G (Yi Z)<|U ?_
 refine⟨(k+1,n+1),⟨by omega,by omega,by rw[<-hm,DR hb (show(rs.map fk.a)[k]? =some y.a by rw[aL,hy];rfl)];simp[fk.a,h80,h83],H.forget (.cons _ (ar _)) (fun _ h=>h)⟩,li Z Z,Qg,by show rs.length- (k+1)<rs.length-k;omega⟩
 refine G (Kt Z Z)<|U<|ZF Z<|Zk<|Zr<|G (bw Z Z I I)<|G (Yi Z)<|U ?_
 refine⟨(k+1,n),⟨by omega,by omega,by rw[<-hm,DR hb (show(rs.map fk.a)[k]? =some y.a by rw[aL,hy];rfl)];simp[fk.a,h80,h83],H.forget (.cons _ (ar _)) (fun _ h=>h)⟩,li Z Z,Qg,by show rs.length- (k+1)<rs.length-k;omega⟩
 refine G (Yb Z)<|ZN<|ZN<|G (N Z Z)<|U<|ZF Z<|Zk<|Zr<|G (bw Z Z I I)<|G (Yi Z)<|U ?_
 refine⟨(k+1,n),⟨by omega,by omega,by rw[<-hm,DR hb (show(rs.map fk.a)[k]? =some y.a by rw[aL,hy];rfl)];simp[fk.a,h80],H.forget (.cons _ (ar _)) (fun _ h=>h)⟩,li Z Z,Qg,by show rs.length- (k+1)<rs.length-k;omega⟩
 have hke:k=rs.length:=by omega
 have hm2:n=G6 isr (rs.map fk.a) 0:=by rw[<-hm,eo (l:=isr) I];rfl
 refine U<|W<|ZF Z<|Zx<|W<|W<|Zr<|G (Yi Z)<|G (Zf yv Z)<|G (Zd ak H 5 Z Z Z) ?_
 refine cW (cK Z Z) Z Z Z (fun h91=> ?_) (fun h91=> ?_)
 refine U<|ZT Z<|W<|Zr<|G (bg (cs:= #[J (0),J (0),.slice none 0 0,.slice none 0 0,.slice none 0 0,J (0),J (0)]) cN bv N)<|bo H 3 (#[J (0),J (0),.slice none 0 0,.slice none 0 0,.slice none 0 0,J (0),J (0)]) aK Z Z Z Z Z N N fun w18 H=>G (Wi Z)<|G (Wi Z)<|U<|Zt ?_
 have hlr:(Pa.a ⟨ep,ld,isr,iA,iC,kn,kA,kC,reps,rA,rC,fw,bs⟩).reps[ld.toNat]? =some x.a:=by rw[show ld.toNat=l by omega];exact hxa
 have hS:er (Pa.a ⟨ep,ld,isr,iA,iC,kn,kA,kC,reps,rA,rC,fw,bs⟩) e=(gw,0,9):=by unfold er;rw[if_neg (show¬ (Pa.a ⟨ep,ld,isr,iA,iC,kn,kA,kC,reps,rA,rC,fw,bs⟩).leader<0 from by show¬ ld<0;omega),show(Pa.a ⟨ep,ld,isr,iA,iC,kn,kA,kC,reps,rA,rC,fw,bs⟩).leader.toNat=ld.toNat from rfl,hlr];simp[Pa.a,fk.a,h51,h61,h65,<-hma,<-hm2,h91]
 rw[hS]
 exact gE (cs0:= #[J 0,J 0,.slice none 0 0,.slice none 0 0,.slice none 0 0,J 0,J 0]) (v1:=J (0)) (v2:=J (9)) Z aH Z (H.ent (i:=3) Z) Z Z Z ⟨zY,rfl,rfl,eA.zero H.below⟩
 refine U<|ZF Z<|Zk<|W ?_
 have hgd:kT {e with epoch:=ep}:=by simpa [kT]using h51
 have hrm:x.es.length<400:=by obtain⟨z,hz⟩: ∃ z,reps[l]? =some z:=⟨_,ah I⟩;have h1:=hroom l z hld hz;have h2:=hxa;rw[aL,hz]at h2;injection h2 with h2;have h3:z.es=x.es:=congrArg RA.es h2;rw[<-h3];exact h1
 have hlo:=H.size
 refine bA cd [0,1,2,3,4,5,6,7,8,9] [10,11] [5,9] [0,1,2,6,7,8] (sp [(5,Sp.nrow w15.heap.size dC (bj (x.es++[{e with epoch:=ep}])) (fun A c=> .tuple #[.agg #[.slice A (bj (x.es++[{e with epoch:=ep}])).length c,J (fW (x.es++[{e with epoch:=ep}]) x.s:Nat)],J 0])),(9,Sp.blk w15.heap.size (.agg #[.slice none 0 0,J 0]) BW)]) N N N N Nq (cI _) ?_
 refine aw Z Z Z Z Z (fun w' hw'=>Yp Z)<|aw Z Z Z Z Z (fun w' hw'=>aJ Z)<|aw Z Z Z Z Z (fun w' hw'=>Zf dA Z)<|aw Z Z Z Z Z (fun w' hw'=>tW 1 [.slice x.A ((bj x.es).length) x.cap,J (((fW x.es x.s:Nat):Int))] eV row3 hx Z Z ((H.later hw').ent (i:=2) Z) Z)<|aw Z Z Z Z Z (fun w' hw'=>jL dG Z ((H.later hw').ent (i:=4) Z) Z)<|Iz (gv:=(fun A c=> .tuple #[.agg #[.slice A (bj (x.es++[{e with epoch:=ep}])).length c,J (fW (x.es++[{e with epoch:=ep}]) x.s:Nat)],J 0])) vK Z Z Z Z Z (fun w' hw'=>hw'.size) (fun w' hw'=>vA (fk.log x) {e with epoch:=ep} w' ((hlg.cons (f:=dU gV w7.heap.size w8.heap.size Aen x.es)).log (H.later hw') hx (hok2 hx).1) hgd hrm) Z fun A99 c99 hc99=>aw Z Z Z Z Z (fun w' hw'=>Yu Z)<|aw Z Z Z Z Z (fun w' hw'=>Xa Z Z)<|aw Z Z Z Z Z (fun w' hw'=>Xi Z Z)<|xG p6 Z Z Z Z Z (fun w' hw'=>hw'.size) fun b18=>aV ?_
 intro w19 hw' hF
 obtain⟨hF,bq,eq,hge18,hbl18⟩:=hF;cases eq
 obtain⟨hF,Aq,cq,eq,hcq,hrw99⟩:=hF;cases eq;clear hcq
 have Hb:=H
 replace H:=H.adoptNew hw' hbl18 hge18
 obtain⟨lo99,hi99,hlo99,H'⟩:=Hb.learnApart H hw'.size hrw99 (vJ hbl18);replace H:=H';clear H'
 clear hw' hF
 refine bo H 0 (#[.slice A99 ((bj (x.es++[{e with epoch:=ep}])).length) c99,J (((fW (x.es++[{e with epoch:=ep}]) x.s:Nat):Int))]) jl Z Z Z Z Z N N fun w20 H=>G (Wi Z)<|U<|W<|W<|Zr<|G (Yi Z)<|G (bZ Z Z Z)<|U<|ZF Z<|Zk<|W<|Zr<|G (Yp Z)<|G (Zw eV H 0 Z Z Z)<|G (aJ Z)<|G (Zf dA Z)<|k9 H 3 ({x with A:=A99,cap:=c99,es:=(x.es++[{e with epoch:=ep}]),lo:=lo99,hi:=hi99}) jl row3 hx 1 Z Z Z Z Z Z N fun w22 cur21 row21 H=> ?_
 have hs23:(rs.set l ({x with A:=A99,cap:=c99,es:=(x.es++[{e with epoch:=ep}]),lo:=lo99,hi:=hi99}))[l]? =some ({x with A:=A99,cap:=c99,es:=(x.es++[{e with epoch:=ep}]),lo:=lo99,hi:=hi99}):=al (cC hx).1
 refine U<|W ?_
 have hlg1:=((hlg.cons (f:=dU gV w7.heap.size w8.heap.size Aen x.es)).cons (f:=dU dC lo99 hi99 A99 (bj (x.es++[{e with epoch:=ep}])))).set l (x:={x with A:=A99,cap:=c99,es:=(x.es++[{e with epoch:=ep}]),lo:=lo99,hi:=hi99}) ⟨hc99,aU hlo hlo99,fM _⟩
 refine Zr<|G (Zw aH H 6 Z Z Z)<|G (Ys Z)<|G (br eH Z)<|bo H 4 (#[J (ep),J (ld),.slice (Qd g1) isr.length c1,.slice (Qd g2) kn.length c2,.slice (Qd g3) rs.length c3,J (fw),J (bs)]) aK Z Z Z Z Z N N fun w24 H=>G (Wi Z)<|G (Wi Z)<|U<|Zt ?_
 have hlr:(Pa.a ⟨ep,ld,isr,iA,iC,kn,kA,kC,reps,rA,rC,fw,bs⟩).reps[ld.toNat]? =some x.a:=by rw[show ld.toNat=l by omega];exact hxa
 have hS:er (Pa.a ⟨ep,ld,isr,iA,iC,kn,kA,kC,reps,rA,rC,fw,bs⟩) e=({(Pa.a ⟨ep,ld,isr,iA,iC,kn,kA,kC,reps,rA,rC,fw,bs⟩)with reps:=(reps.map fk.a).set ld.toNat {x.a with es:=(x.es++[{e with epoch:=ep}])}},((x.es.length:Nat):Int),0):=by unfold er;rw[if_neg (show¬ (Pa.a ⟨ep,ld,isr,iA,iC,kn,kA,kC,reps,rA,rC,fw,bs⟩).leader<0 from by show¬ ld<0;omega),show(Pa.a ⟨ep,ld,isr,iA,iC,kn,kA,kC,reps,rA,rC,fw,bs⟩).leader.toNat=ld.toNat from rfl,hlr];simp[Pa.a,fk.a,h51,h61,h65,<-hma,<-hm2,h91]
 rw[hS]
 exact gE (cs0:= #[J (ep),J (ld),.slice (Qd g1) isr.length c1,.slice (Qd g2) kn.length c2,.slice (Qd g3) rs.length c3,J (fw),J (bs)]) (v1:=J (((x.es.length:Nat):Int))) (v2:=J (0)) Z aH Z (H.ent (i:=4) Z) Z Z Z ⟨_,by simp[Pa.c],by simp[Pa.a,cE,hma,fk.a,show ld.toNat=l by omega],(eA.mk_ (p:=⟨ep,ld,isr,some ⟨g1,0,none⟩,c1,kn,some ⟨g2,0,none⟩,c2,rs.set l {x with A:=A99,cap:=c99,es:=(x.es++[{e with epoch:=ep}]),lo:=lo99,hi:=hi99},some ⟨g3,0,none⟩,c3,fw,bs⟩) Z Z Z row1 row2 row21 hlg1 (by dsimp only;first|omega|(simp only[ae,bI];omega)) H ⟨by simp,by simp,by simp⟩)⟩
/-- so many entries are alike, by the times of their leaders -/
def ei:List cz->List cz->Nat
 |a::l,b::m=>if a.epoch=b.epoch then ei l m+1 else 0
 |_,_=>0
theorem uT: ∀ (a b:List cz),ei a b<=a.length/\ei a b<=b.length
 |[],_=>by simp[ei]
 |_::_,[]=>by simp[ei]
 |a::l,b::m=>by
  have:=uT l m
  unfold ei
  split
  simp;omega
  simp
theorem F3 {a b:List cz} {n:Nat} {x y:cz} (hx:a[n]? =some x) (hy:b[n]? =some y) (h:x.epoch=y.epoch):ei (a.drop n) (b.drop n)=ei (a.drop (n+1)) (b.drop (n+1))+1:=by
 rw[cP hx,cP hy]
 exact if_pos h
theorem FZ {a b:List cz} {n:Nat} {x y:cz} (hx:a[n]? =some x) (hy:b[n]? =some y) (h: ¬ x.epoch=y.epoch):ei (a.drop n) (b.drop n)=0:=by
 rw[cP hx,cP hy]
 exact if_neg h
theorem AK {a b:List cz} {n:Nat} (h:a.length<=n∨b.length<=n):ei (a.drop n) (b.drop n)=0:=by
 rcases h with h|h
 rw[eo h];rfl
 rw[eo (l:=b) h];cases(a.drop n)<;>rfl
def jn (x y:RA) (hl:Int):RA×Int:=match y.es[ei x.es y.es]? with
 |some z=>(⟨x.up,x.es.take (ei x.es y.es)++[z],min x.s (ei x.es y.es),min (max x.high hl) ((ei x.es y.es:Nat)+1)⟩,1)
 |none=>(⟨x.up,x.es.take (ei x.es y.es),min x.s (ei x.es y.es),min (max x.high hl) (ei x.es y.es:Nat)⟩,0)
def jc (p:fD) (r:Nat):fD×Int×Int:=match p.reps[r]? with
 |none=>(gw,0,5)
 |some x=>if p.leader<0∨p.leader=r then(gw,0,8)else if x.up=false then(gw,0,7)else match p.reps[p.leader.toNat]? with
  |none=>(gw,0,12)
  |some y=>let kn:=p.known.set r (min x.s (ei x.es y.es):Nat)
   let hl:=max y.high (min (dv p.isr kn 400) y.es.length)
   ({p with known:=kn,reps:=(p.reps.set p.leader.toNat {y with high:=hl}).set r (jn x y hl).1},(jn x y hl).2,0)
theorem r8 {p:fD} {r l:Nat} {x y:RA} (hx:p.reps[r]? =some x) (hl:p.leader=l) (hne:r≠l) (hu:x.up=true) (hy:p.reps[l]? =some y):jc p r=({p with known:=p.known.set r (min x.s (ei x.es y.es):Nat),reps:=(p.reps.set l {y with high:=max y.high (min (dv p.isr (p.known.set r (min x.s (ei x.es y.es):Nat)) 400) y.es.length)}).set r (jn x y (max y.high (min (dv p.isr (p.known.set r (min x.s (ei x.es y.es):Nat)) 400) y.es.length))).1},(jn x y (max y.high (min (dv p.isr (p.known.set r (min x.s (ei x.es y.es):Nat)) 400) y.es.length))).2,0):=by
 have h1:p.leader.toNat=l:=by omega
 unfold jc
 rw[hx];dsimp only
 rw[if_neg I,if_neg (by simp[hu]),h1,hy]
theorem Hq (l:m7) (n:Nat) (w:World) (h:l.ok w) (hn:n<=l.es.length):dh aa Dn [.agg l.c.toArray,J (n:Nat)] w fun v w2=> ∃ A' c',v=.tuple #[.agg #[.slice A' (bj (l.es.take n)).length c',J (fW (l.es.take n) (min l.s n):Nat)],J 0]/\(bj (l.es.take n)).length<=c'/\Rd dC w.heap.size w2.heap.size A' (bj (l.es.take n)) w2/\Below w.heap.size w w2:=
 (JI l n w h hn).mono fun _ _ ⟨A',c',h1,h2,h3⟩=>⟨A',c',h1,h2.2.1,h2.2.2,h3⟩
theorem JU (p:Pa) (r:Nat) (w:World) (h:p.rd 0 w.heap.size w) (hok:p.a.ok) (hr:r<p.reps.length):dh aa Er [p.v,J (r:Nat)] w fun v w2=> ∃ p':Pa,v=.tuple #[p'.v,J (jc p.a r).2.1,J (jc p.a r).2.2]/\p'.a=(jc p.a r).1/\eA w w2 p':=by
 refine aE Cs Z Z ?_
 obtain⟨hn1,hn2,hil,hkl,hf1,hf2,he0,he1,hl0,hl1,hb0,hb1,hsm⟩:=Pa.facts hok
 have hkn:=hok.known
 have hiC:=h.iC
 have hkC:=h.kC
 have hrC:=h.rC
 have hfew:=h.few
 have H:=Hp.startPa h
 obtain⟨ep,ld,isr,iA,iC,kn,kA,kC,reps,rA,rC,fw,bs⟩:=p
 simp only[Pa.a]at hkn
 dsimp only at H hn1 hn2 hil hkl hf1 hf2 he0 he1 hl0 hl1 hb0 hb1 hsm hiC hkC hrC hfew
 dsimp only at hr
 show CW _ _ _ _ (args [.agg #[J (ep),J (ld),.slice iA isr.length iC,.slice kA kn.length kC,.slice rA reps.length rC,J (fw),J (bs)],J (((r:Nat):Int))]) w
 refine W<|Zr<|f7 H Z Z fun w1 b2 H=>eP H bv Z fun w2 b4 H=>G (Wi Z)<|G (Wi Z)<|U<|W<|Zr<|G (Zw aH H 1 Z Z Z)<|G (Yi Z)<|ch kG (tQ ⟨ep,ld,isr,iA,iC,kn,kA,kC,reps,rA,rC,fw,bs⟩ r _ (Hp.pa H 0 Z) hok hr) Z Z ?_
 rintro _ w3 ⟨⟨ep2,ld2,is2,iA2,c1,kn2,kA2,c2,rs,rA2,c3,fw2,bs2⟩,g1,g2,g3,u1,u2,u3,rfl,ha2,ho⟩
 simp only[Pa.a,fD.mk.injEq]at ha2
 obtain⟨e1,e2,e3,e4,hma,e6,e7⟩:=ha2
 obtain rfl:ep=ep2:=e1.symm
 obtain rfl:ld=ld2:=e2.symm
 obtain rfl:isr=is2:=e3.symm
 obtain rfl:kn=kn2:=e4.symm
 obtain rfl:fw=fw2:=e6.symm
 obtain rfl:bs=bs2:=e7.symm
 have hrl:rs.length=reps.length:=by have:=congrArg ci hma;simpa using this
 obtain⟨i1,i2,i3,row1,row2,row3,hcp,hlos,-,hjn⟩:=ho
 dsimp only at i1 i2 i3 row1 row2 row3 hcp hlos hjn
 subst i1;subst i2;subst i3
 have hlo0:=H.size
 replace H:=H.joinF hjn (by intro f hf;obtain⟨r,hr,rfl⟩:=bp.1 hf;exact hlos r hr)
 replace hlos: ∀ r∈rs,w.heap.size<=r.lo:=fun r hr=>aU hlo0 (hlos r hr)
 clear hjn
 have hlg:=qw.of (F:=[DM 0 w.heap.size ⟨ep,ld,isr,iA,iC,kn,kA,kC,reps,rA,rC,fw,bs⟩,dU eX 0 w.heap.size iA isr,dU bR 0 w.heap.size kA kn,dU g8 0 w.heap.size rA reps]) hcp hlos
 have hok2: ∀ {i:Nat} {x:fk},rs[i]? =some x->GL x.es x.s/\0<=x.high/\x.high<=x.es.length:=fun hx=>wV hma hok hx
 obtain⟨x,hx⟩: ∃ x,rs[r]? =some x:=⟨_,ah I⟩
 have hxa:=wh hma hx
 refine G (Yu Z)<|G (Xa Z Z)<|G (Xi Z Z)<|bo H 4 (#[J (ep),J (ld),.slice (Qd g1) isr.length c1,.slice (Qd g2) kn.length c2,.slice (Qd g3) rs.length c3,J (fw),J (bs)]) aK Z Z Z Z Z N N fun w4 H=>G (Wi Z)<|U<|W<|W<|Zr<|G (Yi Z)<|G (bZ Z Z Z)<|U<|ZF Z<|Zk<|W<|W<|Zr<|G (Zf dt Z)<|G (Zd ak H 4 Z Z Z) ?_
 refine cW (cK Z Z) Z Z Z (fun h31=> ?_) (fun h31=> ?_)
 refine G (Yb Z)<|ZN<|ZN<|ZN<|ZN<|G (Kt Z Z)<|U<|ZT Z<|W<|Zr<|G (bg (cs:= #[J (0),J (0),.slice none 0 0,.slice none 0 0,.slice none 0 0,J (0),J (0)]) cN bv N)<|bo H 3 (#[J (0),J (0),.slice none 0 0,.slice none 0 0,.slice none 0 0,J (0),J (0)]) aK Z Z Z Z Z N N fun w5 H=>G (Wi Z)<|G (Wi Z)<|U<|Zt ?_
 have hS:jc (Pa.a ⟨ep,ld,isr,iA,iC,kn,kA,kC,reps,rA,rC,fw,bs⟩) r=(gw,0,8):=by simp[jc,Pa.a,hxa,fk.a,show ld<0∨ld=(r:Int) by omega]
 rw[hS]
 exact gE (cs0:= #[J 0,J 0,.slice none 0 0,.slice none 0 0,.slice none 0 0,J 0,J 0]) (v1:=J 0) (v2:=J 8) Z aH Z (H.ent (i:=3) Z) Z Z Z ⟨zY,rfl,rfl,eA.zero H.below⟩
 refine G (Yb Z)<|ZG<|G (Zf dt Z)<|ZG<|G (Zd ak H 4 Z Z Z)<|ZG<|G (Yi Z)<|ZG ?_
 refine cW (bn Z Z) Z Z Z (fun h36=> ?_) (fun h36=> ?_)
 refine G (N Z Z)<|U<|ZT Z<|W<|Zr<|G (bg (cs:= #[J (0),J (0),.slice none 0 0,.slice none 0 0,.slice none 0 0,J (0),J (0)]) cN bv N)<|bo H 3 (#[J (0),J (0),.slice none 0 0,.slice none 0 0,.slice none 0 0,J (0),J (0)]) aK Z Z Z Z Z N N fun w6 H=>G (Wi Z)<|G (Wi Z)<|U<|Zt ?_
 have hS:jc (Pa.a ⟨ep,ld,isr,iA,iC,kn,kA,kC,reps,rA,rC,fw,bs⟩) r=(gw,0,8):=by simp[jc,Pa.a,hxa,fk.a,show ld<0∨ld=(r:Int) by omega]
 rw[hS]
 exact gE (cs0:= #[J 0,J 0,.slice none 0 0,.slice none 0 0,.slice none 0 0,J 0,J 0]) (v1:=J 0) (v2:=J 8) Z aH Z (H.ent (i:=3) Z) Z Z Z ⟨zY,rfl,rfl,eA.zero H.below⟩
 refine G (N Z Z)<|U<|ZF Z<|Zk<|W ?_
 obtain⟨l,hld⟩: ∃ l:Nat,ld=l:=⟨ld.toNat,by omega⟩
 have hrl1:r≠l:=by omega
 have hrl2:=hrl1
 obtain⟨y,hy⟩: ∃ y,rs[l]? =some y:=⟨_,ah I⟩
 refine Zr<|G (Zf cU Z)<|G (Zd bW H 4 Z Z Z)<|G (Yi Z)<|G (cG bx Z Z (by first|omega|(simp only[ae];omega)))<|G (Wp Z)<|U<|W<|W<|Zr<|G (Yp Z)<|G (aJ Z)<|G (Zf fB Z) ?_
 refine wW (bP dS row3 hx 0 Z (H.ent (i:=2) Z) Z) Z Z Z (fun h46=> ?_) (fun h46=> ?_)
 refine G (dM Z)<|U<|ZF Z<|Zk<|W<|Zr<|G (Zf cU Z)<|G (Zd bW H 4 Z Z Z)<|G (Zf dt Z)<|G (Zd ak H 4 Z Z Z)<|G (cG (k:=l) bx Z (congrArg (Value.int .i64) hld) (by first|omega|(simp only[ae];omega)))<|G (Zf dA Z)<|G (tW 1 [.slice y.A ((bj y.es).length) y.cap,J (((fW y.es y.s:Nat):Int))] eV row3 hy Z Z (H.ent (i:=2) Z) Z)<|ch gJ (ik y.A y.cap y.es y.s _ (hlg.log H hy (hok2 hy).1)) Z Z ?_
 have hloth:=H.size
 rintro _ w7 ⟨Ath,cth,rfl,hrth,hcth,hbth⟩;replace H:=H.learnRd hbth hrth;clear hrth hbth
 refine G (Yu Z)<|G (Xs Z Z)<|G (Xi Z Z)<|G (Xi Z Z)<|G (Ws Z)<|G (Wi Z)<|G (Wi Z)<|U<|W<|Zr<|G (Yp Z)<|G (aJ Z)<|G (Zf dA Z)<|G (tW 1 [.slice x.A ((bj x.es).length) x.cap,J (((fW x.es x.s:Nat):Int))] eV row3 hx Z Z (H.ent (i:=2) Z) Z)<|ch gJ (ik x.A x.cap x.es x.s _ ((hlg.cons (f:=dU gV w4.heap.size w7.heap.size Ath y.es)).log H hx (hok2 hx).1)) Z Z ?_
 have hlomi:=H.size
 rintro _ w8 ⟨Ami,cmi,rfl,hrmi,hcmi,hbmi⟩;replace H:=H.learnRd hbmi hrmi;clear hrmi hbmi
 refine G (Yu Z)<|G (Xs Z Z)<|G (Xi Z Z)<|G (Xi Z Z)<|G (Ws Z)<|G (Wi Z)<|G (Wi Z)<|U<|W<|Zr<|G (Wi Z)<|U<|W ?_
 obtain⟨n,hmn⟩: ∃ n,ei x.es y.es=n:=⟨_,rfl⟩
 have hnx:n<=x.es.length:=hmn▸(uT x.es y.es).1
 have hny:n<=y.es.length:=hmn▸(uT x.es y.es).2
 have hlg2:=(hlg.cons (f:=dU gV w4.heap.size w7.heap.size Ath y.es)).cons (f:=dU gV w7.heap.size w8.heap.size Ami x.es)
 refine eN (τ:=Unit) [15,70,71,72,73,74,75,76,77,78,79,80,81,82,83,84,85,86,87,88,89,90,91,92,93,94] (fun _=>[(15,J ((n:Nat):Int))]) (fun _ w'=>Hp w w' [(g1,.cells u1 jr (0,0)),(g2,.cells u2 db (0,0)),(g3,.cells u3 fZ (0,0)),(b4,.cells #[J (0),J (0),.slice none 0 0,.slice none 0 0,.slice none 0 0,J (0),J (0)] bF (0,0)),(b2,.cells #[J (ep),J (ld),.slice (Qd g1) isr.length c1,.slice (Qd g2) kn.length c2,.slice (Qd g3) rs.length c3,J (fw),J (bs)] bF (0,0))] ([dU gV w7.heap.size w8.heap.size Ami x.es,dU gV w4.heap.size w7.heap.size Ath y.es,DM 0 w.heap.size ⟨ep,ld,isr,iA,iC,kn,kA,kC,reps,rA,rC,fw,bs⟩,dU eX 0 w.heap.size iA isr,dU bR 0 w.heap.size kA kn,dU g8 0 w.heap.size rA reps]++te rs)) ?_ ?_
 refine Zb ?_
 refine cD (τ:=Nat) [15,70,71,72,73,74,75,76,77,78,79,80,81,82,83,84,85,86,87,88,89,90,91,92,93,94] (fun j=>[(15,J (j:Nat))]) (fun j w'=>j<=x.es.length/\j<=y.es.length/\ei x.es y.es=j+ei (x.es.drop j) (y.es.drop j)/\Hp w w' [(g1,.cells u1 jr (0,0)),(g2,.cells u2 db (0,0)),(g3,.cells u3 fZ (0,0)),(b4,.cells #[J (0),J (0),.slice none 0 0,.slice none 0 0,.slice none 0 0,J (0),J (0)] bF (0,0)),(b2,.cells #[J (ep),J (ld),.slice (Qd g1) isr.length c1,.slice (Qd g2) kn.length c2,.slice (Qd g3) rs.length c3,J (fw),J (bs)] bF (0,0))] ([dU gV w7.heap.size w8.heap.size Ami x.es,dU gV w4.heap.size w7.heap.size Ath y.es,DM 0 w.heap.size ⟨ep,ld,isr,iA,iC,kn,kA,kC,reps,rA,rC,fw,bs⟩,dU eX 0 w.heap.size iA isr,dU bR 0 w.heap.size kA kn,dU g8 0 w.heap.size rA reps]++te rs)) (fun j=>x.es.length-j) 0 ⟨by omega,by omega,by simp,H⟩ (dP Z) ?_
 rintro j ρ1 w9 ⟨hj1,hj2,hj,H⟩
 have hyl:=(hok2 hy).1.len
 show CW _ _ _ _ (dH (gZ _ _ ρ1) [(15,J (j:Nat))]) w9
 refine W<|W ?_
 refine bA cd [0,1,2,3,4,5,6,7,8,9,10,11,12,13,14,15,16,17,18,19,20,21,22] [] [] [0,1,2,3,4,5,6,7,8,9,10,11,12,13,14,16,17,18,19,21,22] (sp []) N N N N Nq (cI _) ?_
 refine aw Z Z Z Z Z (fun w' hw'=>Yi Z)<|aw Z Z Z Z Z (fun w' hw'=>Ys Z)<|aw Z Z Z Z Z (fun w' hw'=>br eH Z) ?_
 refine B2 Z Z Z Z Z (fun w' hw'=>cK Z Z) (fun h73=> ?_) (fun h73=> ?_)
 refine aw Z Z Z Z Z (fun w' hw'=>Yb Z)<|aw Z Z Z Z Z (fun w' hw'=>Yi Z)<|aw Z Z Z Z Z (fun w' hw'=>Ys Z)<|aw Z Z Z Z Z (fun w' hw'=>br eH Z) ?_
 refine B2 Z Z Z Z Z (fun w' hw'=>cK Z Z) (fun h78=> ?_) (fun h78=> ?_)
 refine aw Z Z Z Z Z (fun w' hw'=>Kt Z Z)<|aw Z Z Z Z Z (fun w' hw'=>Yb Z)<|aw Z Z Z Z Z (fun w' hw'=>Ys Z)<|aw Z Z Z Z Z (fun w' hw'=>Yi Z)<|jO H 0 Z Z Z Z Z dV Z Z I I fun b10 o10 x10 e10=>aw Z Z Z Z Z (fun w' hw'=>Zf nR Z)<|aw Z Z Z Z Z (fun w' hw'=>aW ak Z (e10.later hw' 0 _ Z))<|aw Z Z Z Z Z (fun w' hw'=>Ys Z)<|aw Z Z Z Z Z (fun w' hw'=>Yi Z)<|jO H 1 Z Z Z Z Z dV Z Z I I fun b11 o11 x11 e11=>aw Z Z Z Z Z (fun w' hw'=>Zf nR Z)<|aw Z Z Z Z Z (fun w' hw'=>aW ak Z (e11.later hw' 0 _ Z)) ?_
 refine B2 Z Z Z Z Z (fun w' hw'=>bn Z Z) (fun h91=> ?_) (fun h91=> ?_)
 refine aw Z Z Z Z Z (fun w' hw'=>Kt Z Z)<|aV ?_
 intro w12 hw' hF
 replace H:=H.later hw';clear hw' hF
 refine U<|ZT Z<|Zk<|Zb<|Zr<|G (Yi Z)<|G (bw Z Z I I)<|G (Wi Z)<|U ?_
 refine⟨j+1,⟨by omega,by omega,by rw[hj,F3 e10.at_ e11.at_ h91];omega,H⟩,dP Z,Qg,by show x.es.length- (j+1)<x.es.length-j;omega⟩
 refine aw Z Z Z Z Z (fun w' hw'=>Kt Z Z)<|aV ?_
 intro w13 hw' hF
 replace H:=H.later hw';clear hw' hF
 refine U<|ZF Z<|Zx ?_
 have hjn:j=n:=by rw[<-hmn,hj];rw[FZ e10.at_ e11.at_ h91];rfl
 exact⟨(),H,dP (by rw[<-hjn];rfl),Qg⟩
 refine aw Z Z Z Z Z (fun w' hw'=>Kt Z Z)<|aw Z Z Z Z Z (fun w' hw'=>Yb Z)<|eU Z Z Z Z<|eU Z Z Z Z<|eU Z Z Z Z<|eU Z Z Z Z<|eU Z Z Z Z<|eU Z Z Z Z<|eU Z Z Z Z<|eU Z Z Z Z<|eU Z Z Z Z<|eU Z Z Z Z<|eU Z Z Z Z<|aw Z Z Z Z Z (fun w' hw'=>N Z Z)<|aV ?_
 intro w14 hw' hF
 replace H:=H.later hw';clear hw' hF
 refine U<|ZF Z<|Zx ?_
 have hjn:j=n:=by rw[<-hmn,hj];rw[AK I];rfl
 exact⟨(),H,dP (by rw[<-hjn];rfl),Qg⟩
 refine aw Z Z Z Z Z (fun w' hw'=>Yb Z)<|eU Z Z Z Z<|eU Z Z Z Z<|eU Z Z Z Z<|eU Z Z Z Z<|aw Z Z Z Z Z (fun w' hw'=>N Z Z)<|aw Z Z Z Z Z (fun w' hw'=>Yb Z)<|eU Z Z Z Z<|eU Z Z Z Z<|eU Z Z Z Z<|eU Z Z Z Z<|eU Z Z Z Z<|eU Z Z Z Z<|eU Z Z Z Z<|eU Z Z Z Z<|eU Z Z Z Z<|eU Z Z Z Z<|eU Z Z Z Z<|aw Z Z Z Z Z (fun w' hw'=>N Z Z)<|aV ?_
 intro w15 hw' hF
 replace H:=H.later hw';clear hw' hF
 refine U<|ZF Z<|Zx ?_
 have hjn:j=n:=by rw[<-hmn,hj];rw[AK I];rfl
 exact⟨(),H,dP (by rw[<-hjn];rfl),Qg⟩
 rintro⟨⟩ ρ1 w16 H
 have hyl:=(hok2 hy).1.len
 refine W<|Zr<|G (Yp Z)<|G (Yp Z)<|G (aJ Z)<|G (Zf dA Z)<|G (tW 1 [.slice x.A ((bj x.es).length) x.cap,J (((fW x.es x.s:Nat):Int))] eV row3 hx Z Z (H.ent (i:=2) Z) Z)<|G (Yi Z)<|ch Iu (Hq (fk.log x) n _ (hlg2.log H hx (hok2 hx).1) hnx) Z Z ?_
 have hlo9:=H.size
 rintro _ w17 ⟨A102,c102,rfl,hc102,hr102,hb102⟩;replace H:=H.learnRd hb102 hr102;clear hr102 hb102
 refine G (Yu Z)<|G (Xa Z Z)<|G (Xi Z Z)<|G (aJ Z)<|G (Zf dA Z)<|k9 H 2 ({x with A:=A102,cap:=c102,es:=x.es.take n,s:=min x.s n,lo:=w16.heap.size,hi:=w17.heap.size}) jl row3 hx 1 Z Z Z Z Z Z N fun w19 cur18 row18 H=> ?_
 have hs20:(rs.set r ({x with A:=A102,cap:=c102,es:=x.es.take n,s:=min x.s n,lo:=w16.heap.size,hi:=w17.heap.size}))[r]? =some ({x with A:=A102,cap:=c102,es:=x.es.take n,s:=min x.s n,lo:=w16.heap.size,hi:=w17.heap.size}):=al (cC hx).1
 refine U<|W ?_
 have hlo1:=hlo9
 have hlg3:=(hlg2.cons (f:=dU dC w16.heap.size w17.heap.size A102 (bj (x.es.take n)))).set r (x:={x with A:=A102,cap:=c102,es:=x.es.take n,s:=min x.s n,lo:=w16.heap.size,hi:=w17.heap.size}) ⟨hc102,hlo1,fM _⟩
 have hx2:(rs.set r {x with A:=A102,cap:=c102,es:=x.es.take n,s:=min x.s n,lo:=w16.heap.size,hi:=w17.heap.size})[r]? =some {x with A:=A102,cap:=c102,es:=x.es.take n,s:=min x.s n,lo:=w16.heap.size,hi:=w17.heap.size}:=al I
 have hy2:(rs.set r {x with A:=A102,cap:=c102,es:=x.es.take n,s:=min x.s n,lo:=w16.heap.size,hi:=w17.heap.size})[l]? =some y:=by rw[bQ hrl1];exact hy
 have hgl2:GL (x.es.take n) (min x.s n:Nat):=(hok2 hx).1.take n (by simp;omega)
 obtain⟨kx,hkx⟩: ∃ kx,kn[r]? =some kx:=⟨_,ah I⟩
 refine bA cd [0,1,2,3,4,5,6,7,8,9] [10] [5] [0,2,4,6,7,8,9] (sp [(5,Sp.one (.tuple #[J (((x.es.take n).length:Nat):Int),J ((min x.s n:Nat):Int)]))]) N N N N Nq (cI _) ?_
 refine aw Z Z Z Z Z (fun w' hw'=>Zf gh Z)<|aw Z Z Z Z Z (fun w' hw'=>aW cy Z (aB ((H.later hw').ent (i:=4) Z) Z))<|aw Z Z Z Z Z (fun w' hw'=>Yi Z)<|aw Z Z Z Z Z (fun w' hw'=>jL aH Z ((H.later hw').ent (i:=4) Z) Z)<|aw Z Z Z Z Z (fun w' hw'=>Yi Z)<|ic jI Z Z Z Z Z (fun w' hw'=>(by have hA:=qb ⟨ep,ld,isr,some ⟨g1,0,none⟩,c1,kn,some ⟨g2,0,none⟩,c2,(rs.set r {x with A:=A102,cap:=c102,es:=x.es.take n,s:=min x.s n,lo:=w16.heap.size,hi:=w17.heap.size}),some ⟨g3,0,none⟩,c3,fw,bs⟩ r {x with A:=A102,cap:=c102,es:=x.es.take n,s:=min x.s n,lo:=w16.heap.size,hi:=w17.heap.size} w' (row18.rd0 ((H.later hw').ent (i:=2) Z)) hx2 (hlg3.log (H.later hw') hx2 hgl2);simp only[Pa.v,Pa.c,ae]at hA;exact hA)) Z<|aw Z Z Z Z Z (fun w' hw'=>Yu Z)<|aw Z Z Z Z Z (fun w' hw'=>Xi Z Z)<|aw Z Z Z Z Z (fun w' hw'=>Xi Z Z)<|aw Z Z Z Z Z (fun w' hw'=>cG bc Z Z (by first|omega|(simp only[ae];omega)))<|aV ?_
 intro w21 hw' hF
 replace H:=H.later hw';clear hw' hF
 refine k9 H 1 ((((min x.s n:Nat):Int))) bH row2 hkx 0 Z Z Z Z Z Z N fun w23 cur22 row22 H=> ?_
 have hs24:(kn.set r ((((min x.s n:Nat):Int))))[r]? =some ((((min x.s n:Nat):Int))):=al (cC hkx).1
 refine U<|W<|Zr<|G (Zw aH H 4 Z Z Z)<|ch lG ((by have hA:=zJ ep ld isr c1 (kn.set r ((min x.s n:Nat):Int)) c2 (rs.set r {x with A:=A102,cap:=c102,es:=x.es.take n,s:=min x.s n,lo:=w16.heap.size,hi:=w17.heap.size}) c3 fw bs l y H row1 row22 row18 (by simp only[ae];omega) (by simp only[ae];omega) (by simp only[ae];omega) hld hy2 (hlg3 _ (ab hy2)).2.2 (hok2 hy).1 (hlg3 _ (ab hy2)).1;simp only[Pa.v,Pa.c,ae]at hA;exact hA)) Z Z ?_
 rintro _ w25 ⟨u9,rfl,row9,H⟩
 replace hlg3:=hlg3.same l (x':={y with high:=(max y.high (min (dv isr (kn.set r ((min x.s n:Nat):Int)) 400) (y.es.length:Nat)))}) hy2 Z Z Z Z Z
 have hx3:((rs.set r {x with A:=A102,cap:=c102,es:=x.es.take n,s:=min x.s n,lo:=w16.heap.size,hi:=w17.heap.size}).set l {y with high:=(max y.high (min (dv isr (kn.set r ((min x.s n:Nat):Int)) 400) (y.es.length:Nat)))})[r]? =some {x with A:=A102,cap:=c102,es:=x.es.take n,s:=min x.s n,lo:=w16.heap.size,hi:=w17.heap.size}:=by rw[bQ (Ne.symm hrl1),al I]
 have hy3:((rs.set r {x with A:=A102,cap:=c102,es:=x.es.take n,s:=min x.s n,lo:=w16.heap.size,hi:=w17.heap.size}).set l {y with high:=(max y.high (min (dv isr (kn.set r ((min x.s n:Nat):Int)) 400) (y.es.length:Nat)))})[l]? =some {y with high:=(max y.high (min (dv isr (kn.set r ((min x.s n:Nat):Int)) 400) (y.es.length:Nat)))}:=al (by simp only[ae];omega)
 refine bo H 4 (#[J (ep),J (ld),.slice (Qd g1) isr.length c1,.slice (Qd g2) kn.length c2,.slice (Qd g3) rs.length c3,J (fw),J (bs)]) aK Z Z Z Z Z N N fun w26 H=>U<|W<|Zr<|G (Wi Z)<|U<|W<|W<|Zr<|G (Yi Z)<|G (Ys Z)<|G (br eH Z) ?_
 refine cW (cK Z Z) Z Z Z (fun h122=> ?_) (fun h122=> ?_)
 refine U<|ZT Z<|W ?_
 obtain⟨z,hz⟩: ∃ z,y.es[n]? =some z:=⟨_,ah I⟩
 have hgz:kT z:=(hok2 hy).1.good z (ab hz)
 have hrm:(x.es.take n).length<400:=by have:=(hok2 hy).1.len;simp;omega
 have hlo9:=H.size
 refine bA cd [0,1,2,3,4,5,6,7,8,9,10,11,12] [13,14] [8,12] [0,1,2,4,5,6,9,10,11] (sp [(8,Sp.nrow w26.heap.size dC (bj (x.es.take n++[z])) (fun A c=> .tuple #[.agg #[.slice A (bj (x.es.take n++[z])).length c,J (fW (x.es.take n++[z]) (min x.s n:Nat):Nat)],J 0])),(12,Sp.blk w26.heap.size (.agg #[.slice none 0 0,J 0]) BW)]) N N N N Nq (cI _) ?_
 refine aw Z Z Z Z Z (fun w' hw'=>Yp Z)<|aw Z Z Z Z Z (fun w' hw'=>aJ Z)<|aw Z Z Z Z Z (fun w' hw'=>Zf dA Z)<|aw Z Z Z Z Z (fun w' hw'=>tW 1 [.slice (({x with A:=A102,cap:=c102,es:=x.es.take n,s:=min x.s n,lo:=w16.heap.size,hi:=w17.heap.size}).A) ((bj ({x with A:=A102,cap:=c102,es:=x.es.take n,s:=min x.s n,lo:=w16.heap.size,hi:=w17.heap.size}).es).length) (({x with A:=A102,cap:=c102,es:=x.es.take n,s:=min x.s n,lo:=w16.heap.size,hi:=w17.heap.size}).cap),J (((fW ({x with A:=A102,cap:=c102,es:=x.es.take n,s:=min x.s n,lo:=w16.heap.size,hi:=w17.heap.size}).es ({x with A:=A102,cap:=c102,es:=x.es.take n,s:=min x.s n,lo:=w16.heap.size,hi:=w17.heap.size}).s:Nat):Int))] eV row9 hx3 Z Z ((H.later hw').ent (i:=2) Z) Z)<|aw Z Z Z Z Z (fun w' hw'=>Ys Z)<|aw Z Z Z Z Z (fun w' hw'=>Yi Z)<|jO H 2 Z Z Z Z Z dV Z Z I I fun b27 o27 x27 e27=> ?_
 obtain rfl:z=x27:=by have:=e27.at_;rw[hz]at this;exact ba this
 refine aw Z Z Z Z Z (fun w' hw'=>j7 (xs:=cz.c z) dG Z Z (e27.later hw'))<|Iz (gv:=(fun A c=> .tuple #[.agg #[.slice A (bj (x.es.take n++[z])).length c,J (fW (x.es.take n++[z]) (min x.s n:Nat):Nat)],J 0])) vK Z Z Z Z Z (fun w' hw'=>hw'.size) (fun w' hw'=>vA (fk.log {x with A:=A102,cap:=c102,es:=x.es.take n,s:=min x.s n,lo:=w16.heap.size,hi:=w17.heap.size}) z w' (hlg3.log (H.later hw') hx3 hgl2) hgz hrm) Z fun A132 c132 hc132=>aw Z Z Z Z Z (fun w' hw'=>Yu Z)<|aw Z Z Z Z Z (fun w' hw'=>Xa Z Z)<|aw Z Z Z Z Z (fun w' hw'=>Xi Z Z)<|xG p6 Z Z Z Z Z (fun w' hw'=>hw'.size) fun b17=>aV ?_
 intro w28 hw' hF
 obtain⟨hF,bq,eq,hge17,hbl17⟩:=hF;cases eq
 obtain⟨hF,Aq,cq,eq,hcq,hrw132⟩:=hF;cases eq;clear hcq
 have Hb:=H
 replace H:=H.adoptNew hw' hbl17 hge17
 obtain⟨lo132,hi132,hlo132,H'⟩:=Hb.learnApart H hw'.size hrw132 (vJ hbl17);replace H:=H';clear H'
 clear hw' hF
 refine bo H 0 (#[.slice A132 ((bj (x.es.take n++[z])).length) c132,J (((fW (x.es.take n++[z]) (min x.s n:Nat):Nat):Int))]) jl Z Z Z Z Z N N fun w29 H=>G (Wi Z)<|U<|W<|Zr<|G (Yi Z)<|G (lQ Z Z Z)<|U<|ZT Z<|Zr<|G (Yp Z)<|G (Zw eV H 0 Z Z Z)<|G (aJ Z)<|G (Zf dA Z)<|k9 H 3 ({x with A:=A132,cap:=c132,es:=x.es.take n++[z],s:=min x.s n,lo:=lo132,hi:=hi132}) jl row9 hx3 1 Z Z Z Z Z Z N fun w31 cur30 row30 H=> ?_
 have hs32:((((rs.set r {x with A:=A102,cap:=c102,es:=x.es.take n,s:=min x.s n,lo:=w16.heap.size,hi:=w17.heap.size}).set l {y with high:=(max y.high (min (dv isr (kn.set r ((min x.s n:Nat):Int)) 400) (y.es.length:Nat)))})).set r ({x with A:=A132,cap:=c132,es:=x.es.take n++[z],s:=min x.s n,lo:=lo132,hi:=hi132}))[r]? =some ({x with A:=A132,cap:=c132,es:=x.es.take n++[z],s:=min x.s n,lo:=lo132,hi:=hi132}):=al (cC hx3).1
 refine G (Wi Z)<|U<|W ?_
 have hlg8:=(hlg3.cons (f:=dU dC lo132 hi132 A132 (bj (x.es.take n++[z])))).set r (x:={x with A:=A132,cap:=c132,es:=x.es.take n++[z],s:=min x.s n,lo:=lo132,hi:=hi132}) ⟨hc132,aU hlo9 hlo132,fM _⟩
 have hx8:(((rs.set r {x with A:=A102,cap:=c102,es:=x.es.take n,s:=min x.s n,lo:=w16.heap.size,hi:=w17.heap.size}).set l {y with high:=(max y.high (min (dv isr (kn.set r ((min x.s n:Nat):Int)) 400) (y.es.length:Nat)))}).set r {x with A:=A132,cap:=c132,es:=x.es.take n++[z],s:=min x.s n,lo:=lo132,hi:=hi132})[r]? =some {x with A:=A132,cap:=c132,es:=x.es.take n++[z],s:=min x.s n,lo:=lo132,hi:=hi132}:=al (by simp only[ae];omega)
 have hy8:(((rs.set r {x with A:=A102,cap:=c102,es:=x.es.take n,s:=min x.s n,lo:=w16.heap.size,hi:=w17.heap.size}).set l {y with high:=(max y.high (min (dv isr (kn.set r ((min x.s n:Nat):Int)) 400) (y.es.length:Nat)))}).set r {x with A:=A132,cap:=c132,es:=x.es.take n++[z],s:=min x.s n,lo:=lo132,hi:=hi132})[l]? =some {y with high:=(max y.high (min (dv isr (kn.set r ((min x.s n:Nat):Int)) 400) (y.es.length:Nat)))}:=by rw[bQ hrl1,al (by simp only[ae];omega)]
 refine bA cd [0,1,2,3,4,5,6,7,8,9,10,11,12,13,14,15,16,17,18] [19] [] [0,1,2,3,5,7,9,10,12,13,14,15,16,17,18] (sp []) N N N N Nq (cI _) ?_
 refine aw Z Z Z Z Z (fun w' hw'=>Yp Z)<|aw Z Z Z Z Z (fun w' hw'=>Yp Z)<|aw Z Z Z Z Z (fun w' hw'=>aJ Z)<|aw Z Z Z Z Z (fun w' hw'=>Zf dZ Z)<|aw Z Z Z Z Z (fun w' hw'=>bP ak row30 hx8 3 Z ((H.later hw').ent (i:=3) Z) Z)<|aw Z Z Z Z Z (fun w' hw'=>Zf cU Z)<|aw Z Z Z Z Z (fun w' hw'=>aW bW Z (aB ((H.later hw').ent (i:=5) Z) Z))<|aw Z Z Z Z Z (fun w' hw'=>Zf dt Z)<|aw Z Z Z Z Z (fun w' hw'=>aW ak Z (aB ((H.later hw').ent (i:=5) Z) Z))<|aw Z Z Z Z Z (fun w' hw'=>cG (k:=l) bx Z (congrArg (Value.int .i64) hld) (by first|omega|(simp only[ae];omega)))<|aw Z Z Z Z Z (fun w' hw'=>Zf dZ Z)<|aw Z Z Z Z Z (fun w' hw'=>bP ak row30 hy8 3 Z ((H.later hw').ent (i:=3) Z) Z)<|aw Z Z Z Z Z (fun w' hw'=>AJ Z Z)<|aw Z Z Z Z Z (fun w' hw'=>Yi Z)<|aw Z Z Z Z Z (fun w' hw'=>Yi Z)<|aw Z Z Z Z Z (fun w' hw'=>bw Z Z I I)<|aw Z Z Z Z Z (fun w' hw'=>tR Z Z)<|aw Z Z Z Z Z (fun w' hw'=>aJ Z)<|aw Z Z Z Z Z (fun w' hw'=>Zf dZ Z)<|aV ?_
 intro w33 hw' hF
 replace H:=H.later hw';clear hw' hF
 refine k9 H 3 ({x with A:=A132,cap:=c132,es:=x.es.take n++[z],s:=min x.s n,lo:=lo132,hi:=hi132,high:=min (max x.high (max y.high (min (dv isr (kn.set r ((min x.s n:Nat):Int)) 400) (y.es.length:Nat)))) ((n:Nat)+1)}) bH row30 hx8 3 Z Z Z Z Z Z N fun w35 cur34 row34 H=> ?_
 have hs36:(((((rs.set r {x with A:=A102,cap:=c102,es:=x.es.take n,s:=min x.s n,lo:=w16.heap.size,hi:=w17.heap.size}).set l {y with high:=(max y.high (min (dv isr (kn.set r ((min x.s n:Nat):Int)) 400) (y.es.length:Nat)))})).set r ({x with A:=A132,cap:=c132,es:=x.es.take n++[z],s:=min x.s n,lo:=lo132,hi:=hi132})).set r ({x with A:=A132,cap:=c132,es:=x.es.take n++[z],s:=min x.s n,lo:=lo132,hi:=hi132,high:=min (max x.high (max y.high (min (dv isr (kn.set r ((min x.s n:Nat):Int)) 400) (y.es.length:Nat)))) ((n:Nat)+1)}))[r]? =some ({x with A:=A132,cap:=c132,es:=x.es.take n++[z],s:=min x.s n,lo:=lo132,hi:=hi132,high:=min (max x.high (max y.high (min (dv isr (kn.set r ((min x.s n:Nat):Int)) 400) (y.es.length:Nat)))) ((n:Nat)+1)}):=al (cC hx8).1
 refine U<|W<|Zr<|G (Zw aH H 5 Z Z Z)<|G (Yi Z)<|bo H 4 (#[J (ep),J (ld),.slice (Qd g1) isr.length c1,.slice (Qd g2) kn.length c2,.slice (Qd g3) rs.length c3,J (fw),J (bs)]) aK Z Z Z Z Z N N fun w37 H=>G (Wi Z)<|G (Wi Z)<|U<|Zt ?_
 have hzf:jn x.a y.a (max y.high (min (dv isr (kn.set r ((min x.s n:Nat):Int)) 400) (y.es.length:Nat)))=(⟨x.up,x.es.take n++[z],min x.s n,min (max x.high (max y.high (min (dv isr (kn.set r ((min x.s n:Nat):Int)) 400) (y.es.length:Nat)))) ((n:Nat)+1)⟩,1):=by unfold jn;rw[show ei x.a.es y.a.es=n from hmn,show y.a.es[n]? =some z from hz];rfl
 have hS:=r8 (p:=(Pa.a ⟨ep,ld,isr,iA,iC,kn,kA,kC,reps,rA,rC,fw,bs⟩)) hxa hld hrl1 (show x.a.up=true from h46) (wh hma hy)
 rw[show ei x.a.es y.a.es=n from hmn]at hS
 change jc (Pa.a ⟨ep,ld,isr,iA,iC,kn,kA,kC,reps,rA,rC,fw,bs⟩) r=({(Pa.a ⟨ep,ld,isr,iA,iC,kn,kA,kC,reps,rA,rC,fw,bs⟩)with known:=(kn.set r ((min x.s n:Nat):Int)),reps:=((reps.map fk.a).set l {y.a with high:=(max y.high (min (dv isr (kn.set r ((min x.s n:Nat):Int)) 400) (y.es.length:Nat)))}).set r (jn x.a y.a (max y.high (min (dv isr (kn.set r ((min x.s n:Nat):Int)) 400) (y.es.length:Nat)))).1},(jn x.a y.a (max y.high (min (dv isr (kn.set r ((min x.s n:Nat):Int)) 400) (y.es.length:Nat)))).2,0)at hS
 rw[hS,hzf]
 have hlg9:=hlg8.same r (x':={x with A:=A132,cap:=c132,es:=x.es.take n++[z],s:=min x.s n,lo:=lo132,hi:=hi132,high:=min (max x.high (max y.high (min (dv isr (kn.set r ((min x.s n:Nat):Int)) 400) (y.es.length:Nat)))) ((n:Nat)+1)}) hx8 Z Z Z Z Z
 exact gE (cs0:= #[J (ep),J (ld),.slice (Qd g1) isr.length c1,.slice (Qd g2) kn.length c2,.slice (Qd g3) rs.length c3,J (fw),J (bs)]) (v1:=J 1) (v2:=J 0) Z aH Z (H.ent (i:=4) Z) Z Z Z ⟨_,by simp[Pa.c],by simp only[Pa.a,cE,hma,fk.a,fy,BY _ _ hrl2],(eA.mk_ (p:=⟨ep,ld,isr,some ⟨g1,0,none⟩,c1,(kn.set r ((min x.s n:Nat):Int)),some ⟨g2,0,none⟩,c2,_,some ⟨g3,0,none⟩,c3,fw,bs⟩) Z Z Z row1 row22 row34 hlg9 (by dsimp only;first|omega|(simp only[ae,bI];omega)) H ⟨by simp,by simp,by simp⟩)⟩
 refine U<|ZF Z<|Zk<|W ?_
 refine bA cd [0,1,2,3,4,5,6,7,8,9,10,11,12,13,14,15,16,17,18] [19] [] [0,1,2,3,5,7,9,10,12,13,14,15,16,17,18] (sp []) N N N N Nq (cI _) ?_
 refine aw Z Z Z Z Z (fun w' hw'=>Yp Z)<|aw Z Z Z Z Z (fun w' hw'=>Yp Z)<|aw Z Z Z Z Z (fun w' hw'=>aJ Z)<|aw Z Z Z Z Z (fun w' hw'=>Zf dZ Z)<|aw Z Z Z Z Z (fun w' hw'=>bP ak row9 hx3 3 Z ((H.later hw').ent (i:=2) Z) Z)<|aw Z Z Z Z Z (fun w' hw'=>Zf cU Z)<|aw Z Z Z Z Z (fun w' hw'=>aW bW Z (aB ((H.later hw').ent (i:=4) Z) Z))<|aw Z Z Z Z Z (fun w' hw'=>Zf dt Z)<|aw Z Z Z Z Z (fun w' hw'=>aW ak Z (aB ((H.later hw').ent (i:=4) Z) Z))<|aw Z Z Z Z Z (fun w' hw'=>cG (k:=l) bx Z (congrArg (Value.int .i64) hld) (by first|omega|(simp only[ae];omega)))<|aw Z Z Z Z Z (fun w' hw'=>Zf dZ Z)<|aw Z Z Z Z Z (fun w' hw'=>bP ak row9 hy3 3 Z ((H.later hw').ent (i:=2) Z) Z)<|aw Z Z Z Z Z (fun w' hw'=>AJ Z Z)<|aw Z Z Z Z Z (fun w' hw'=>Yi Z)<|aw Z Z Z Z Z (fun w' hw'=>Yi Z)<|aw Z Z Z Z Z (fun w' hw'=>bw Z Z I I)<|aw Z Z Z Z Z (fun w' hw'=>tR Z Z)<|aw Z Z Z Z Z (fun w' hw'=>aJ Z)<|aw Z Z Z Z Z (fun w' hw'=>Zf dZ Z)<|aV ?_
 intro w38 hw' hF
 replace H:=H.later hw';clear hw' hF
 refine k9 H 2 ({x with A:=A102,cap:=c102,es:=x.es.take n,s:=min x.s n,lo:=w16.heap.size,hi:=w17.heap.size,high:=min (max x.high (max y.high (min (dv isr (kn.set r ((min x.s n:Nat):Int)) 400) (y.es.length:Nat)))) (n:Nat)}) bH row9 hx3 3 Z Z Z Z Z Z N fun w40 cur39 row39 H=> ?_
 have hs41:((((rs.set r {x with A:=A102,cap:=c102,es:=x.es.take n,s:=min x.s n,lo:=w16.heap.size,hi:=w17.heap.size}).set l {y with high:=(max y.high (min (dv isr (kn.set r ((min x.s n:Nat):Int)) 400) (y.es.length:Nat)))})).set r ({x with A:=A102,cap:=c102,es:=x.es.take n,s:=min x.s n,lo:=w16.heap.size,hi:=w17.heap.size,high:=min (max x.high (max y.high (min (dv isr (kn.set r ((min x.s n:Nat):Int)) 400) (y.es.length:Nat)))) (n:Nat)}))[r]? =some ({x with A:=A102,cap:=c102,es:=x.es.take n,s:=min x.s n,lo:=w16.heap.size,hi:=w17.heap.size,high:=min (max x.high (max y.high (min (dv isr (kn.set r ((min x.s n:Nat):Int)) 400) (y.es.length:Nat)))) (n:Nat)}):=al (cC hx3).1
 refine U<|W<|Zr<|G (Zw aH H 4 Z Z Z)<|G (Yi Z)<|bo H 3 (#[J (ep),J (ld),.slice (Qd g1) isr.length c1,.slice (Qd g2) kn.length c2,.slice (Qd g3) rs.length c3,J (fw),J (bs)]) aK Z Z Z Z Z N N fun w42 H=>G (Wi Z)<|G (Wi Z)<|U<|Zt ?_
 have hzf:jn x.a y.a (max y.high (min (dv isr (kn.set r ((min x.s n:Nat):Int)) 400) (y.es.length:Nat)))=(⟨x.up,x.es.take n,min x.s n,min (max x.high (max y.high (min (dv isr (kn.set r ((min x.s n:Nat):Int)) 400) (y.es.length:Nat)))) (n:Nat)⟩,0):=by unfold jn;rw[show ei x.a.es y.a.es=n from hmn,show y.a.es[n]? =none from cL (by show y.es.length<=n;omega)];rfl
 have hS:=r8 (p:=(Pa.a ⟨ep,ld,isr,iA,iC,kn,kA,kC,reps,rA,rC,fw,bs⟩)) hxa hld hrl1 (show x.a.up=true from h46) (wh hma hy)
 rw[show ei x.a.es y.a.es=n from hmn]at hS
 change jc (Pa.a ⟨ep,ld,isr,iA,iC,kn,kA,kC,reps,rA,rC,fw,bs⟩) r=({(Pa.a ⟨ep,ld,isr,iA,iC,kn,kA,kC,reps,rA,rC,fw,bs⟩)with known:=(kn.set r ((min x.s n:Nat):Int)),reps:=((reps.map fk.a).set l {y.a with high:=(max y.high (min (dv isr (kn.set r ((min x.s n:Nat):Int)) 400) (y.es.length:Nat)))}).set r (jn x.a y.a (max y.high (min (dv isr (kn.set r ((min x.s n:Nat):Int)) 400) (y.es.length:Nat)))).1},(jn x.a y.a (max y.high (min (dv isr (kn.set r ((min x.s n:Nat):Int)) 400) (y.es.length:Nat)))).2,0)at hS
 rw[hS,hzf]
 have hlg9:=hlg3.same r (x':={x with A:=A102,cap:=c102,es:=x.es.take n,s:=min x.s n,lo:=w16.heap.size,hi:=w17.heap.size,high:=min (max x.high (max y.high (min (dv isr (kn.set r ((min x.s n:Nat):Int)) 400) (y.es.length:Nat)))) (n:Nat)}) hx3 Z Z Z Z Z
 exact gE (cs0:= #[J (ep),J (ld),.slice (Qd g1) isr.length c1,.slice (Qd g2) kn.length c2,.slice (Qd g3) rs.length c3,J (fw),J (bs)]) (v1:=J 0) (v2:=J 0) Z aH Z (H.ent (i:=3) Z) Z Z Z ⟨_,by simp[Pa.c],by simp only[Pa.a,cE,hma,fk.a,fy,BY _ _ hrl2],(eA.mk_ (p:=⟨ep,ld,isr,some ⟨g1,0,none⟩,c1,(kn.set r ((min x.s n:Nat):Int)),some ⟨g2,0,none⟩,c2,_,some ⟨g3,0,none⟩,c3,fw,bs⟩) Z Z Z row1 row22 row39 hlg9 (by dsimp only;first|omega|(simp only[ae,bI];omega)) H ⟨by simp,by simp,by simp⟩)⟩
 refine G (dM Z)<|U<|ZT Z<|W<|Zr<|G (bg (cs:= #[J (0),J (0),.slice none 0 0,.slice none 0 0,.slice none 0 0,J (0),J (0)]) cN bv N)<|bo H 3 (#[J (0),J (0),.slice none 0 0,.slice none 0 0,.slice none 0 0,J (0),J (0)]) aK Z Z Z Z Z N N fun w43 H=>G (Wi Z)<|G (Wi Z)<|U<|Zt ?_
 have hS:jc (Pa.a ⟨ep,ld,isr,iA,iC,kn,kA,kC,reps,rA,rC,fw,bs⟩) r=(gw,0,7):=by simp[jc,Pa.a,hxa,fk.a,show¬ (ld<0∨ld=(r:Int)) by omega,h46]
 rw[hS]
 exact gE (cs0:= #[J 0,J 0,.slice none 0 0,.slice none 0 0,.slice none 0 0,J 0,J 0]) (v1:=J 0) (v2:=J 7) Z aH Z (H.ent (i:=3) Z) Z Z Z ⟨zY,rfl,rfl,eA.zero H.below⟩
theorem fX:(aa.info? jr).map (fun i=>(i.zero,i.size,i.bytes))=some (some (.bool false),1,1):=by kernel_rfl
theorem g9:(aa.info? fZ).map (fun i=>(i.zero,i.size,i.bytes))=some (some (.agg #[.bool false,.slice none 0 0,J 0,J 0]),4,48):=by kernel_rfl
theorem LM {α:Type} {l:List α} {n:Nat} {a:α} (hl:l.length=n) (h: ∀ j,j<n->l[j]? =some a):l=au n a:=by
 rw[List.eq_replicate_iff]
 refine⟨hl,fun b hb=> ?_⟩
 obtain⟨j,hj⟩:=aT.1 hb
 have:=h j (by have:=(cC hj).1;omega)
 rw[hj]at this
 exact ba this
def mL (n few:Nat):fD:=⟨0,-1,au n true,au n 0,au n ⟨true,[],0,0⟩,few,0⟩
theorem N5 (n few:Nat) (w:World) (hn:1<=n) (hn5:n<=5) (hf:1<=few) (hfn:few<=n):dh aa Ib [J (n:Nat),J (few:Nat)] w fun v w2=> ∃ p':Pa,v=.tuple #[p'.v,J 0]/\p'.a=mL n few/\eA w w2 p':=by
 refine aE GB Z Z ?_
 have H:=Hp.start w
 refine W<|Zr<|eP H bv Z fun w1 b4 H=>G (Wi Z)<|U<|W<|W<|Zr<|G (Yi Z)<|G (dd Z Z I)<|G (Yb Z)<|ZG<|G (Yi Z)<|ZG<|G (eB Z Z I)<|G (N Z Z)<|G (Yb Z)<|ZG<|G (Yi Z)<|ZG<|G (dd Z Z I)<|G (N Z Z)<|G (Yb Z)<|ZG<|G (Yi Z)<|ZG<|G (Yi Z)<|ZG<|G (eB Z Z I)<|G (N Z Z)<|U<|ZF Z<|Zk<|W ?_
 refine eN (τ:=Nat×Nat×Nat×Nat) [6,24,25,26,27,28,29,30,31] (fun(b6,_)=>[(6,.pointer (Qd b6))]) (fun(b6,b25,b27,b29) w'=> ∃ v1 v2 v3,dX eX (au n false) n v1/\dX bR (au n 0) n v2/\dX g8 (au n ⟨false,none,0,[],0,0,w.heap.size,w.heap.size⟩) n v3/\Hp w w' [(b6,.cells #[J 0,J (-1),.slice (Qd b25) n n,.slice (Qd b27) n n,.slice (Qd b29) n n,J ((few:Nat):Int),J 0] bF (0,0)),(b25,.cells v1 jr (0,0)),(b27,.cells v2 db (0,0)),(b29,.cells v3 fZ (0,0)),(b4,.cells #[J 0,J 0,.slice none 0 0,.slice none 0 0,.slice none 0 0,J 0,J 0] bF (0,0))] []) ?_ ?_
 ·skip
  refine qW cd [0,2,4,6] [1,3,5,7,8,9] [0,2,4,6] 6 N N N Nq ?_
  refine aw Z Z Z Z Z (fun w' hw'=>Yi Z)<|aw Z Z Z Z Z (fun w' hw'=>Yi Z)<|aw Z Z Z Z Z (fun w' hw'=>Yi Z)<|aw Z Z Z Z Z (fun w' hw'=>Yi Z)<|aV ?_
  intro w2 hw';replace H:=H.later hw';clear hw'
  refine RL 1 3 5 8 N Z Z Z Z ?_ ?_ ?_ ?_
  ·
   refine pw (Y:=eX) (false) n H ed fX Z Z Z I I Z fun w3 b25 cur25 row25 H=>U ?_
   refine QO 3 5 8 N Z Z Z ?_ ?_ ?_
   ·
    refine pw (Y:=bR) (0) n H bc gC Z Z Z I I Z fun w4 b27 cur27 row27 H=>U ?_
    refine tH 5 8 N Z Z ?_ ?_
    ·
     refine pw (Y:=g8) (⟨false,none,0,[],0,0,w.heap.size,w.heap.size⟩) n H bx g9 Z Z Z I I Z fun w5 b29 cur29 row29 H=>U ?_
     refine tH 7 8 N Z Z ?_ ?_
     ·
      refine G (bg (cs:= #[J (0),J ((-1)),.slice (Qd b25) n n,.slice (Qd b27) n n,.slice (Qd b29) n n,J (((few:Nat):Int)),J (0)]) cN bv N)<|U<|de 8 N Z<|eP H bv Z fun w6 b6 H=>U<|de 9 N Z<|bo H 0 (#[J (0),J ((-1)),.slice (Qd b25) n n,.slice (Qd b27) n n,.slice (Qd b29) n n,J (((few:Nat):Int)),J (0)]) aK Z Z Z Z Z N N fun w7 H=>U<|cF N ?_
      exact⟨(b6,b25,b27,b29),⟨_,_,_,row25,row27,row29,H.perm ((ai _ (ai _ (am _ _ _))).trans ((ai _ (am _ _ _)).trans (ai _ (ai _ (am _ _ _)))))⟩,dP Z,Qg⟩
     ·
      refine eP H bv Z fun w8 b6 H=>U<|de 7 N Z<|G (bg (cs:= #[J (0),J ((-1)),.slice (Qd b25) n n,.slice (Qd b27) n n,.slice (Qd b29) n n,J (((few:Nat):Int)),J (0)]) cN bv N)<|U<|de 9 N Z<|bo H 0 (#[J (0),J ((-1)),.slice (Qd b25) n n,.slice (Qd b27) n n,.slice (Qd b29) n n,J (((few:Nat):Int)),J (0)]) aK Z Z Z Z Z N N fun w9 H=>U<|cF N ?_
      exact⟨(b6,b25,b27,b29),⟨_,_,_,row25,row27,row29,H.perm ((ai _ (ai _ (am _ _ _))).trans ((ai _ (am _ _ _)).trans (ai _ (ai _ (am _ _ _)))))⟩,dP Z,Qg⟩
    ·
     refine eP H bv Z fun w10 b6 H=>U<|de 5 N Z<|pw (Y:=g8) (⟨false,none,0,[],0,0,w.heap.size,w.heap.size⟩) n H bx g9 Z Z Z I I Z fun w11 b29 cur29 row29 H=>U<|de 7 N Z<|G (bg (cs:= #[J (0),J ((-1)),.slice (Qd b25) n n,.slice (Qd b27) n n,.slice (Qd b29) n n,J (((few:Nat):Int)),J (0)]) cN bv N)<|U<|de 9 N Z<|bo H 1 (#[J (0),J ((-1)),.slice (Qd b25) n n,.slice (Qd b27) n n,.slice (Qd b29) n n,J (((few:Nat):Int)),J (0)]) aK Z Z Z Z Z N N fun w12 H=>U<|cF N ?_
     exact⟨(b6,b25,b27,b29),⟨_,_,_,row25,row27,row29,H.perm ((ai _ (ai _ (am _ _ _))).trans ((ai _ (am _ _ _)).trans ((am _ _ _).trans (ai _ (ai _ (am _ _ _))))))⟩,dP Z,Qg⟩
   ·
    refine pw (Y:=g8) (⟨false,none,0,[],0,0,w.heap.size,w.heap.size⟩) n H bx g9 Z Z Z I I Z fun w13 b29 cur29 row29 H=>U ?_
    refine tH 3 8 N Z Z ?_ ?_
    ·
     refine pw (Y:=bR) (0) n H bc gC Z Z Z I I Z fun w14 b27 cur27 row27 H=>U ?_
     refine tH 7 8 N Z Z ?_ ?_
     ·
      refine G (bg (cs:= #[J (0),J ((-1)),.slice (Qd b25) n n,.slice (Qd b27) n n,.slice (Qd b29) n n,J (((few:Nat):Int)),J (0)]) cN bv N)<|U<|de 8 N Z<|eP H bv Z fun w15 b6 H=>U<|de 9 N Z<|bo H 0 (#[J (0),J ((-1)),.slice (Qd b25) n n,.slice (Qd b27) n n,.slice (Qd b29) n n,J (((few:Nat):Int)),J (0)]) aK Z Z Z Z Z N N fun w16 H=>U<|cF N ?_
      exact⟨(b6,b25,b27,b29),⟨_,_,_,row25,row27,row29,H.perm ((ai _ (am _ _ _)).trans (ai _ (ai _ (am _ _ _))))⟩,dP Z,Qg⟩
     ·
      refine eP H bv Z fun w17 b6 H=>U<|de 7 N Z<|G (bg (cs:= #[J (0),J ((-1)),.slice (Qd b25) n n,.slice (Qd b27) n n,.slice (Qd b29) n n,J (((few:Nat):Int)),J (0)]) cN bv N)<|U<|de 9 N Z<|bo H 0 (#[J (0),J ((-1)),.slice (Qd b25) n n,.slice (Qd b27) n n,.slice (Qd b29) n n,J (((few:Nat):Int)),J (0)]) aK Z Z Z Z Z N N fun w18 H=>U<|cF N ?_
      exact⟨(b6,b25,b27,b29),⟨_,_,_,row25,row27,row29,H.perm ((ai _ (am _ _ _)).trans (ai _ (ai _ (am _ _ _))))⟩,dP Z,Qg⟩
    ·
     refine eP H bv Z fun w19 b6 H=>U<|de 3 N Z<|pw (Y:=bR) (0) n H bc gC Z Z Z I I Z fun w20 b27 cur27 row27 H=>U<|de 7 N Z<|G (bg (cs:= #[J (0),J ((-1)),.slice (Qd b25) n n,.slice (Qd b27) n n,.slice (Qd b29) n n,J (((few:Nat):Int)),J (0)]) cN bv N)<|U<|de 9 N Z<|bo H 1 (#[J (0),J ((-1)),.slice (Qd b25) n n,.slice (Qd b27) n n,.slice (Qd b29) n n,J (((few:Nat):Int)),J (0)]) aK Z Z Z Z Z N N fun w21 H=>U<|cF N ?_
     exact⟨(b6,b25,b27,b29),⟨_,_,_,row25,row27,row29,H.perm ((ai _ (am _ _ _)).trans ((am _ _ _).trans (ai _ (ai _ (am _ _ _)))))⟩,dP Z,Qg⟩
   ·
    refine eP H bv Z fun w22 b6 H=>U ?_
    refine tH 3 5 N Z Z ?_ ?_
    ·
     refine pw (Y:=bR) (0) n H bc gC Z Z Z I I Z fun w23 b27 cur27 row27 H=>U<|de 5 N Z<|pw (Y:=g8) (⟨false,none,0,[],0,0,w.heap.size,w.heap.size⟩) n H bx g9 Z Z Z I I Z fun w24 b29 cur29 row29 H=>U<|de 7 N Z<|G (bg (cs:= #[J (0),J ((-1)),.slice (Qd b25) n n,.slice (Qd b27) n n,.slice (Qd b29) n n,J (((few:Nat):Int)),J (0)]) cN bv N)<|U<|de 9 N Z<|bo H 2 (#[J (0),J ((-1)),.slice (Qd b25) n n,.slice (Qd b27) n n,.slice (Qd b29) n n,J (((few:Nat):Int)),J (0)]) aK Z Z Z Z Z N N fun w25 H=>U<|cF N ?_
     exact⟨(b6,b25,b27,b29),⟨_,_,_,row25,row27,row29,H.perm ((ai _ (ai _ (am _ _ _))).trans ((ai _ (am _ _ _)).trans ((am _ _ _).trans ((ai _ (ai _ (am _ _ _))).trans (ai _ (am _ _ _))))))⟩,dP Z,Qg⟩
    ·
     refine pw (Y:=g8) (⟨false,none,0,[],0,0,w.heap.size,w.heap.size⟩) n H bx g9 Z Z Z I I Z fun w26 b29 cur29 row29 H=>U<|de 3 N Z<|pw (Y:=bR) (0) n H bc gC Z Z Z I I Z fun w27 b27 cur27 row27 H=>U<|de 7 N Z<|G (bg (cs:= #[J (0),J ((-1)),.slice (Qd b25) n n,.slice (Qd b27) n n,.slice (Qd b29) n n,J (((few:Nat):Int)),J (0)]) cN bv N)<|U<|de 9 N Z<|bo H 2 (#[J (0),J ((-1)),.slice (Qd b25) n n,.slice (Qd b27) n n,.slice (Qd b29) n n,J (((few:Nat):Int)),J (0)]) aK Z Z Z Z Z N N fun w28 H=>U<|cF N ?_
     exact⟨(b6,b25,b27,b29),⟨_,_,_,row25,row27,row29,H.perm ((ai _ (am _ _ _)).trans ((am _ _ _).trans ((ai _ (ai _ (am _ _ _))).trans (ai _ (am _ _ _)))))⟩,dP Z,Qg⟩
  ·
   refine pw (Y:=bR) (0) n H bc gC Z Z Z I I Z fun w29 b27 cur27 row27 H=>U ?_
   refine QO 1 5 8 N Z Z Z ?_ ?_ ?_
   ·
    refine pw (Y:=eX) (false) n H ed fX Z Z Z I I Z fun w30 b25 cur25 row25 H=>U ?_
    refine tH 5 8 N Z Z ?_ ?_
    ·
     refine pw (Y:=g8) (⟨false,none,0,[],0,0,w.heap.size,w.heap.size⟩) n H bx g9 Z Z Z I I Z fun w31 b29 cur29 row29 H=>U ?_
     refine tH 7 8 N Z Z ?_ ?_
     ·
      refine G (bg (cs:= #[J (0),J ((-1)),.slice (Qd b25) n n,.slice (Qd b27) n n,.slice (Qd b29) n n,J (((few:Nat):Int)),J (0)]) cN bv N)<|U<|de 8 N Z<|eP H bv Z fun w32 b6 H=>U<|de 9 N Z<|bo H 0 (#[J (0),J ((-1)),.slice (Qd b25) n n,.slice (Qd b27) n n,.slice (Qd b29) n n,J (((few:Nat):Int)),J (0)]) aK Z Z Z Z Z N N fun w33 H=>U<|cF N ?_
      exact⟨(b6,b25,b27,b29),⟨_,_,_,row25,row27,row29,H.perm ((ai _ (ai _ (am _ _ _))).trans (ai _ (am _ _ _)))⟩,dP Z,Qg⟩
     ·
      refine eP H bv Z fun w34 b6 H=>U<|de 7 N Z<|G (bg (cs:= #[J (0),J ((-1)),.slice (Qd b25) n n,.slice (Qd b27) n n,.slice (Qd b29) n n,J (((few:Nat):Int)),J (0)]) cN bv N)<|U<|de 9 N Z<|bo H 0 (#[J (0),J ((-1)),.slice (Qd b25) n n,.slice (Qd b27) n n,.slice (Qd b29) n n,J (((few:Nat):Int)),J (0)]) aK Z Z Z Z Z N N fun w35 H=>U<|cF N ?_
      exact⟨(b6,b25,b27,b29),⟨_,_,_,row25,row27,row29,H.perm ((ai _ (ai _ (am _ _ _))).trans (ai _ (am _ _ _)))⟩,dP Z,Qg⟩
    ·
     refine eP H bv Z fun w36 b6 H=>U<|de 5 N Z<|pw (Y:=g8) (⟨false,none,0,[],0,0,w.heap.size,w.heap.size⟩) n H bx g9 Z Z Z I I Z fun w37 b29 cur29 row29 H=>U<|de 7 N Z<|G (bg (cs:= #[J (0),J ((-1)),.slice (Qd b25) n n,.slice (Qd b27) n n,.slice (Qd b29) n n,J (((few:Nat):Int)),J (0)]) cN bv N)<|U<|de 9 N Z<|bo H 1 (#[J (0),J ((-1)),.slice (Qd b25) n n,.slice (Qd b27) n n,.slice (Qd b29) n n,J (((few:Nat):Int)),J (0)]) aK Z Z Z Z Z N N fun w38 H=>U<|cF N ?_
     exact⟨(b6,b25,b27,b29),⟨_,_,_,row25,row27,row29,H.perm ((ai _ (ai _ (am _ _ _))).trans ((ai _ (am _ _ _)).trans (am _ _ _)))⟩,dP Z,Qg⟩
   ·
    refine pw (Y:=g8) (⟨false,none,0,[],0,0,w.heap.size,w.heap.size⟩) n H bx g9 Z Z Z I I Z fun w39 b29 cur29 row29 H=>U ?_
    refine tH 1 8 N Z Z ?_ ?_
    ·
     refine pw (Y:=eX) (false) n H ed fX Z Z Z I I Z fun w40 b25 cur25 row25 H=>U ?_
     refine tH 7 8 N Z Z ?_ ?_
     ·
      refine G (bg (cs:= #[J (0),J ((-1)),.slice (Qd b25) n n,.slice (Qd b27) n n,.slice (Qd b29) n n,J (((few:Nat):Int)),J (0)]) cN bv N)<|U<|de 8 N Z<|eP H bv Z fun w41 b6 H=>U<|de 9 N Z<|bo H 0 (#[J (0),J ((-1)),.slice (Qd b25) n n,.slice (Qd b27) n n,.slice (Qd b29) n n,J (((few:Nat):Int)),J (0)]) aK Z Z Z Z Z N N fun w42 H=>U<|cF N ?_
      exact⟨(b6,b25,b27,b29),⟨_,_,_,row25,row27,row29,H.perm (ai _ (ai _ (am _ _ _)))⟩,dP Z,Qg⟩
     ·
      refine eP H bv Z fun w43 b6 H=>U<|de 7 N Z<|G (bg (cs:= #[J (0),J ((-1)),.slice (Qd b25) n n,.slice (Qd b27) n n,.slice (Qd b29) n n,J (((few:Nat):Int)),J (0)]) cN bv N)<|U<|de 9 N Z<|bo H 0 (#[J (0),J ((-1)),.slice (Qd b25) n n,.slice (Qd b27) n n,.slice (Qd b29) n n,J (((few:Nat):Int)),J (0)]) aK Z Z Z Z Z N N fun w44 H=>U<|cF N ?_
      exact⟨(b6,b25,b27,b29),⟨_,_,_,row25,row27,row29,H.perm (ai _ (ai _ (am _ _ _)))⟩,dP Z,Qg⟩
    ·
     refine eP H bv Z fun w45 b6 H=>U<|de 1 N Z<|pw (Y:=eX) (false) n H ed fX Z Z Z I I Z fun w46 b25 cur25 row25 H=>U<|de 7 N Z<|G (bg (cs:= #[J (0),J ((-1)),.slice (Qd b25) n n,.slice (Qd b27) n n,.slice (Qd b29) n n,J (((few:Nat):Int)),J (0)]) cN bv N)<|U<|de 9 N Z<|bo H 1 (#[J (0),J ((-1)),.slice (Qd b25) n n,.slice (Qd b27) n n,.slice (Qd b29) n n,J (((few:Nat):Int)),J (0)]) aK Z Z Z Z Z N N fun w47 H=>U<|cF N ?_
     exact⟨(b6,b25,b27,b29),⟨_,_,_,row25,row27,row29,H.perm ((am _ _ _).trans (ai _ (ai _ (am _ _ _))))⟩,dP Z,Qg⟩
   ·
    refine eP H bv Z fun w48 b6 H=>U ?_
    refine tH 1 5 N Z Z ?_ ?_
    ·
     refine pw (Y:=eX) (false) n H ed fX Z Z Z I I Z fun w49 b25 cur25 row25 H=>U<|de 5 N Z<|pw (Y:=g8) (⟨false,none,0,[],0,0,w.heap.size,w.heap.size⟩) n H bx g9 Z Z Z I I Z fun w50 b29 cur29 row29 H=>U<|de 7 N Z<|G (bg (cs:= #[J (0),J ((-1)),.slice (Qd b25) n n,.slice (Qd b27) n n,.slice (Qd b29) n n,J (((few:Nat):Int)),J (0)]) cN bv N)<|U<|de 9 N Z<|bo H 2 (#[J (0),J ((-1)),.slice (Qd b25) n n,.slice (Qd b27) n n,.slice (Qd b29) n n,J (((few:Nat):Int)),J (0)]) aK Z Z Z Z Z N N fun w51 H=>U<|cF N ?_
     exact⟨(b6,b25,b27,b29),⟨_,_,_,row25,row27,row29,H.perm ((ai _ (ai _ (am _ _ _))).trans ((ai _ (am _ _ _)).trans ((am _ _ _).trans (ai _ (am _ _ _)))))⟩,dP Z,Qg⟩
    ·
     refine pw (Y:=g8) (⟨false,none,0,[],0,0,w.heap.size,w.heap.size⟩) n H bx g9 Z Z Z I I Z fun w52 b29 cur29 row29 H=>U<|de 1 N Z<|pw (Y:=eX) (false) n H ed fX Z Z Z I I Z fun w53 b25 cur25 row25 H=>U<|de 7 N Z<|G (bg (cs:= #[J (0),J ((-1)),.slice (Qd b25) n n,.slice (Qd b27) n n,.slice (Qd b29) n n,J (((few:Nat):Int)),J (0)]) cN bv N)<|U<|de 9 N Z<|bo H 2 (#[J (0),J ((-1)),.slice (Qd b25) n n,.slice (Qd b27) n n,.slice (Qd b29) n n,J (((few:Nat):Int)),J (0)]) aK Z Z Z Z Z N N fun w54 H=>U<|cF N ?_
     exact⟨(b6,b25,b27,b29),⟨_,_,_,row25,row27,row29,H.perm ((am _ _ _).trans ((ai _ (ai _ (am _ _ _))).trans (ai _ (am _ _ _))))⟩,dP Z,Qg⟩
  ·
   refine pw (Y:=g8) (⟨false,none,0,[],0,0,w.heap.size,w.heap.size⟩) n H bx g9 Z Z Z I I Z fun w55 b29 cur29 row29 H=>U ?_
   refine QO 1 3 8 N Z Z Z ?_ ?_ ?_
   ·
    refine pw (Y:=eX) (false) n H ed fX Z Z Z I I Z fun w56 b25 cur25 row25 H=>U ?_
    refine tH 3 8 N Z Z ?_ ?_
    ·
     refine pw (Y:=bR) (0) n H bc gC Z Z Z I I Z fun w57 b27 cur27 row27 H=>U ?_
     refine tH 7 8 N Z Z ?_ ?_
     ·
      refine G (bg (cs:= #[J (0),J ((-1)),.slice (Qd b25) n n,.slice (Qd b27) n n,.slice (Qd b29) n n,J (((few:Nat):Int)),J (0)]) cN bv N)<|U<|de 8 N Z<|eP H bv Z fun w58 b6 H=>U<|de 9 N Z<|bo H 0 (#[J (0),J ((-1)),.slice (Qd b25) n n,.slice (Qd b27) n n,.slice (Qd b29) n n,J (((few:Nat):Int)),J (0)]) aK Z Z Z Z Z N N fun w59 H=>U<|cF N ?_
      exact⟨(b6,b25,b27,b29),⟨_,_,_,row25,row27,row29,H.perm (ai _ (am _ _ _))⟩,dP Z,Qg⟩
     ·
      refine eP H bv Z fun w60 b6 H=>U<|de 7 N Z<|G (bg (cs:= #[J (0),J ((-1)),.slice (Qd b25) n n,.slice (Qd b27) n n,.slice (Qd b29) n n,J (((few:Nat):Int)),J (0)]) cN bv N)<|U<|de 9 N Z<|bo H 0 (#[J (0),J ((-1)),.slice (Qd b25) n n,.slice (Qd b27) n n,.slice (Qd b29) n n,J (((few:Nat):Int)),J (0)]) aK Z Z Z Z Z N N fun w61 H=>U<|cF N ?_
      exact⟨(b6,b25,b27,b29),⟨_,_,_,row25,row27,row29,H.perm (ai _ (am _ _ _))⟩,dP Z,Qg⟩
    ·
     refine eP H bv Z fun w62 b6 H=>U<|de 3 N Z<|pw (Y:=bR) (0) n H bc gC Z Z Z I I Z fun w63 b27 cur27 row27 H=>U<|de 7 N Z<|G (bg (cs:= #[J (0),J ((-1)),.slice (Qd b25) n n,.slice (Qd b27) n n,.slice (Qd b29) n n,J (((few:Nat):Int)),J (0)]) cN bv N)<|U<|de 9 N Z<|bo H 1 (#[J (0),J ((-1)),.slice (Qd b25) n n,.slice (Qd b27) n n,.slice (Qd b29) n n,J (((few:Nat):Int)),J (0)]) aK Z Z Z Z Z N N fun w64 H=>U<|cF N ?_
     exact⟨(b6,b25,b27,b29),⟨_,_,_,row25,row27,row29,H.perm ((ai _ (am _ _ _)).trans (am _ _ _))⟩,dP Z,Qg⟩
   ·
    refine pw (Y:=bR) (0) n H bc gC Z Z Z I I Z fun w65 b27 cur27 row27 H=>U ?_
    refine tH 1 8 N Z Z ?_ ?_
    ·
     refine pw (Y:=eX) (false) n H ed fX Z Z Z I I Z fun w66 b25 cur25 row25 H=>U ?_
     refine tH 7 8 N Z Z ?_ ?_
     ·
      refine G (bg (cs:= #[J (0),J ((-1)),.slice (Qd b25) n n,.slice (Qd b27) n n,.slice (Qd b29) n n,J (((few:Nat):Int)),J (0)]) cN bv N)<|U<|de 8 N Z<|eP H bv Z fun w67 b6 H=>U<|de 9 N Z<|bo H 0 (#[J (0),J ((-1)),.slice (Qd b25) n n,.slice (Qd b27) n n,.slice (Qd b29) n n,J (((few:Nat):Int)),J (0)]) aK Z Z Z Z Z N N fun w68 H=>U<|cF N ?_
      exact⟨(b6,b25,b27,b29),⟨_,_,_,row25,row27,row29,H.perm (List.Perm.refl _)⟩,dP Z,Qg⟩
     ·
      refine eP H bv Z fun w69 b6 H=>U<|de 7 N Z<|G (bg (cs:= #[J (0),J ((-1)),.slice (Qd b25) n n,.slice (Qd b27) n n,.slice (Qd b29) n n,J (((few:Nat):Int)),J (0)]) cN bv N)<|U<|de 9 N Z<|bo H 0 (#[J (0),J ((-1)),.slice (Qd b25) n n,.slice (Qd b27) n n,.slice (Qd b29) n n,J (((few:Nat):Int)),J (0)]) aK Z Z Z Z Z N N fun w70 H=>U<|cF N ?_
      exact⟨(b6,b25,b27,b29),⟨_,_,_,row25,row27,row29,H.perm (List.Perm.refl _)⟩,dP Z,Qg⟩
    ·
     refine eP H bv Z fun w71 b6 H=>U<|de 1 N Z<|pw (Y:=eX) (false) n H ed fX Z Z Z I I Z fun w72 b25 cur25 row25 H=>U<|de 7 N Z<|G (bg (cs:= #[J (0),J ((-1)),.slice (Qd b25) n n,.slice (Qd b27) n n,.slice (Qd b29) n n,J (((few:Nat):Int)),J (0)]) cN bv N)<|U<|de 9 N Z<|bo H 1 (#[J (0),J ((-1)),.slice (Qd b25) n n,.slice (Qd b27) n n,.slice (Qd b29) n n,J (((few:Nat):Int)),J (0)]) aK Z Z Z Z Z N N fun w73 H=>U<|cF N ?_
     exact⟨(b6,b25,b27,b29),⟨_,_,_,row25,row27,row29,H.perm (am _ _ _)⟩,dP Z,Qg⟩
   ·
    refine eP H bv Z fun w74 b6 H=>U ?_
    refine tH 1 3 N Z Z ?_ ?_
    ·
     refine pw (Y:=eX) (false) n H ed fX Z Z Z I I Z fun w75 b25 cur25 row25 H=>U<|de 3 N Z<|pw (Y:=bR) (0) n H bc gC Z Z Z I I Z fun w76 b27 cur27 row27 H=>U<|de 7 N Z<|G (bg (cs:= #[J (0),J ((-1)),.slice (Qd b25) n n,.slice (Qd b27) n n,.slice (Qd b29) n n,J (((few:Nat):Int)),J (0)]) cN bv N)<|U<|de 9 N Z<|bo H 2 (#[J (0),J ((-1)),.slice (Qd b25) n n,.slice (Qd b27) n n,.slice (Qd b29) n n,J (((few:Nat):Int)),J (0)]) aK Z Z Z Z Z N N fun w77 H=>U<|cF N ?_
     exact⟨(b6,b25,b27,b29),⟨_,_,_,row25,row27,row29,H.perm ((ai _ (am _ _ _)).trans ((am _ _ _).trans (ai _ (am _ _ _))))⟩,dP Z,Qg⟩
    ·
     refine pw (Y:=bR) (0) n H bc gC Z Z Z I I Z fun w78 b27 cur27 row27 H=>U<|de 1 N Z<|pw (Y:=eX) (false) n H ed fX Z Z Z I I Z fun w79 b25 cur25 row25 H=>U<|de 7 N Z<|G (bg (cs:= #[J (0),J ((-1)),.slice (Qd b25) n n,.slice (Qd b27) n n,.slice (Qd b29) n n,J (((few:Nat):Int)),J (0)]) cN bv N)<|U<|de 9 N Z<|bo H 2 (#[J (0),J ((-1)),.slice (Qd b25) n n,.slice (Qd b27) n n,.slice (Qd b29) n n,J (((few:Nat):Int)),J (0)]) aK Z Z Z Z Z N N fun w80 H=>U<|cF N ?_
     exact⟨(b6,b25,b27,b29),⟨_,_,_,row25,row27,row29,H.perm ((am _ _ _).trans (ai _ (am _ _ _)))⟩,dP Z,Qg⟩
  ·
   refine eP H bv Z fun w81 b6 H=>U ?_
   refine QO 1 3 5 N Z Z Z ?_ ?_ ?_
   ·
    refine pw (Y:=eX) (false) n H ed fX Z Z Z I I Z fun w82 b25 cur25 row25 H=>U ?_
    refine tH 3 5 N Z Z ?_ ?_
    ·
     refine pw (Y:=bR) (0) n H bc gC Z Z Z I I Z fun w83 b27 cur27 row27 H=>U<|de 5 N Z<|pw (Y:=g8) (⟨false,none,0,[],0,0,w.heap.size,w.heap.size⟩) n H bx g9 Z Z Z I I Z fun w84 b29 cur29 row29 H=>U<|de 7 N Z<|G (bg (cs:= #[J (0),J ((-1)),.slice (Qd b25) n n,.slice (Qd b27) n n,.slice (Qd b29) n n,J (((few:Nat):Int)),J (0)]) cN bv N)<|U<|de 9 N Z<|bo H 3 (#[J (0),J ((-1)),.slice (Qd b25) n n,.slice (Qd b27) n n,.slice (Qd b29) n n,J (((few:Nat):Int)),J (0)]) aK Z Z Z Z Z N N fun w85 H=>U<|cF N ?_
     exact⟨(b6,b25,b27,b29),⟨_,_,_,row25,row27,row29,H.perm ((ai _ (ai _ (am _ _ _))).trans ((ai _ (am _ _ _)).trans ((am _ _ _).trans ((ai _ (ai _ (am _ _ _))).trans ((ai _ (am _ _ _)).trans (ai _ (ai _ (am _ _ _))))))))⟩,dP Z,Qg⟩
    ·
     refine pw (Y:=g8) (⟨false,none,0,[],0,0,w.heap.size,w.heap.size⟩) n H bx g9 Z Z Z I I Z fun w86 b29 cur29 row29 H=>U<|de 3 N Z<|pw (Y:=bR) (0) n H bc gC Z Z Z I I Z fun w87 b27 cur27 row27 H=>U<|de 7 N Z<|G (bg (cs:= #[J (0),J ((-1)),.slice (Qd b25) n n,.slice (Qd b27) n n,.slice (Qd b29) n n,J (((few:Nat):Int)),J (0)]) cN bv N)<|U<|de 9 N Z<|bo H 3 (#[J (0),J ((-1)),.slice (Qd b25) n n,.slice (Qd b27) n n,.slice (Qd b29) n n,J (((few:Nat):Int)),J (0)]) aK Z Z Z Z Z N N fun w88 H=>U<|cF N ?_
     exact⟨(b6,b25,b27,b29),⟨_,_,_,row25,row27,row29,H.perm ((ai _ (am _ _ _)).trans ((am _ _ _).trans ((ai _ (ai _ (am _ _ _))).trans ((ai _ (am _ _ _)).trans (ai _ (ai _ (am _ _ _)))))))⟩,dP Z,Qg⟩
   ·
    refine pw (Y:=bR) (0) n H bc gC Z Z Z I I Z fun w89 b27 cur27 row27 H=>U ?_
    refine tH 1 5 N Z Z ?_ ?_
    ·
     refine pw (Y:=eX) (false) n H ed fX Z Z Z I I Z fun w90 b25 cur25 row25 H=>U<|de 5 N Z<|pw (Y:=g8) (⟨false,none,0,[],0,0,w.heap.size,w.heap.size⟩) n H bx g9 Z Z Z I I Z fun w91 b29 cur29 row29 H=>U<|de 7 N Z<|G (bg (cs:= #[J (0),J ((-1)),.slice (Qd b25) n n,.slice (Qd b27) n n,.slice (Qd b29) n n,J (((few:Nat):Int)),J (0)]) cN bv N)<|U<|de 9 N Z<|bo H 3 (#[J (0),J ((-1)),.slice (Qd b25) n n,.slice (Qd b27) n n,.slice (Qd b29) n n,J (((few:Nat):Int)),J (0)]) aK Z Z Z Z Z N N fun w92 H=>U<|cF N ?_
     exact⟨(b6,b25,b27,b29),⟨_,_,_,row25,row27,row29,H.perm ((ai _ (ai _ (am _ _ _))).trans ((ai _ (am _ _ _)).trans ((am _ _ _).trans ((ai _ (am _ _ _)).trans (ai _ (ai _ (am _ _ _)))))))⟩,dP Z,Qg⟩
    ·
     refine pw (Y:=g8) (⟨false,none,0,[],0,0,w.heap.size,w.heap.size⟩) n H bx g9 Z Z Z I I Z fun w93 b29 cur29 row29 H=>U<|de 1 N Z<|pw (Y:=eX) (false) n H ed fX Z Z Z I I Z fun w94 b25 cur25 row25 H=>U<|de 7 N Z<|G (bg (cs:= #[J (0),J ((-1)),.slice (Qd b25) n n,.slice (Qd b27) n n,.slice (Qd b29) n n,J (((few:Nat):Int)),J (0)]) cN bv N)<|U<|de 9 N Z<|bo H 3 (#[J (0),J ((-1)),.slice (Qd b25) n n,.slice (Qd b27) n n,.slice (Qd b29) n n,J (((few:Nat):Int)),J (0)]) aK Z Z Z Z Z N N fun w95 H=>U<|cF N ?_
     exact⟨(b6,b25,b27,b29),⟨_,_,_,row25,row27,row29,H.perm ((am _ _ _).trans ((ai _ (ai _ (am _ _ _))).trans ((ai _ (am _ _ _)).trans (ai _ (ai _ (am _ _ _))))))⟩,dP Z,Qg⟩
   ·
    refine pw (Y:=g8) (⟨false,none,0,[],0,0,w.heap.size,w.heap.size⟩) n H bx g9 Z Z Z I I Z fun w96 b29 cur29 row29 H=>U ?_
    refine tH 1 3 N Z Z ?_ ?_
    ·
     refine pw (Y:=eX) (false) n H ed fX Z Z Z I I Z fun w97 b25 cur25 row25 H=>U<|de 3 N Z<|pw (Y:=bR) (0) n H bc gC Z Z Z I I Z fun w98 b27 cur27 row27 H=>U<|de 7 N Z<|G (bg (cs:= #[J (0),J ((-1)),.slice (Qd b25) n n,.slice (Qd b27) n n,.slice (Qd b29) n n,J (((few:Nat):Int)),J (0)]) cN bv N)<|U<|de 9 N Z<|bo H 3 (#[J (0),J ((-1)),.slice (Qd b25) n n,.slice (Qd b27) n n,.slice (Qd b29) n n,J (((few:Nat):Int)),J (0)]) aK Z Z Z Z Z N N fun w99 H=>U<|cF N ?_
     exact⟨(b6,b25,b27,b29),⟨_,_,_,row25,row27,row29,H.perm ((ai _ (am _ _ _)).trans ((am _ _ _).trans ((ai _ (am _ _ _)).trans (ai _ (ai _ (am _ _ _))))))⟩,dP Z,Qg⟩
    ·
     refine pw (Y:=bR) (0) n H bc gC Z Z Z I I Z fun w100 b27 cur27 row27 H=>U<|de 1 N Z<|pw (Y:=eX) (false) n H ed fX Z Z Z I I Z fun w101 b25 cur25 row25 H=>U<|de 7 N Z<|G (bg (cs:= #[J (0),J ((-1)),.slice (Qd b25) n n,.slice (Qd b27) n n,.slice (Qd b29) n n,J (((few:Nat):Int)),J (0)]) cN bv N)<|U<|de 9 N Z<|bo H 3 (#[J (0),J ((-1)),.slice (Qd b25) n n,.slice (Qd b27) n n,.slice (Qd b29) n n,J (((few:Nat):Int)),J (0)]) aK Z Z Z Z Z N N fun w102 H=>U<|cF N ?_
     exact⟨(b6,b25,b27,b29),⟨_,_,_,row25,row27,row29,H.perm ((am _ _ _).trans ((ai _ (am _ _ _)).trans (ai _ (ai _ (am _ _ _)))))⟩,dP Z,Qg⟩
 rintro⟨b6,b25,b27,b29⟩ ρ1 w103 ⟨v1,v2,v3,row25,row27,row29,H⟩
 show CW _ _ _ _ (dH (gZ _ _ ρ1) [(6,.pointer (Qd b6))]) w103
 refine W<|W<|Zr<|G (Zf cU Z)<|G (Zd bW H 0 Z Z Z)<|G (br ib Z)<|G (Yi Z)<|U<|Zb ?_
 refine cD (τ:=Nat×List Bool×List fk×Array Value×Array Value) [7,35,36,37,38,39,40,41,42,43,44,45,46,47] (fun(k,_)=>[(35,J (k:Nat))]) (fun(k,il,rl,v1,v3) w'=>k<=n/\il.length=n/\rl.length=n/\(∀ j,j<k->il[j]? =some true)/\(∀ j,j<k->rl[j]? =some ⟨true,none,0,[],0,0,w.heap.size,w.heap.size⟩)/\(∀ j,k<=j->j<n->rl[j]? =some ⟨false,none,0,[],0,0,w.heap.size,w.heap.size⟩)/\dX eX il n v1/\dX g8 rl n v3/\Hp w w' [(b6,.cells #[J (0),J ((-1)),.slice (Qd b25) n n,.slice (Qd b27) n n,.slice (Qd b29) n n,J (((few:Nat):Int)),J (0)] bF (0,0)),(b25,.cells v1 jr (0,0)),(b27,.cells v2 db (0,0)),(b29,.cells v3 fZ (0,0)),(b4,.cells #[J (0),J (0),.slice none 0 0,.slice none 0 0,.slice none 0 0,J (0),J (0)] bF (0,0))] []) (fun(k,_)=>n-k) (0,au n false,au n ⟨false,none,0,[],0,0,w.heap.size,w.heap.size⟩,v1,v3) ⟨by omega,by simp,by simp,by intro j hj;omega,by intro j hj;omega,by intro j _ hj;rw[f5,if_pos hj],row25,row29,H⟩ (dP Z) ?_
 rintro⟨k,il,rl,v1,v3⟩ ρ1 w104 ⟨hk,hil,hrl,hi1,hr1,hr2,row25,row29,H⟩
 show CW _ _ _ _ (dH (gZ _ _ ρ1) [(35,J (k:Nat))]) w104
 refine W<|Zr ?_
 refine cW (cK Z Z) Z Z Z (fun h36=> ?_) (fun h36=> ?_)
 ·
  refine U<|W<|ZT Z<|Zk<|W<|Zb<|W ?_
  obtain⟨b,hb⟩: ∃ b,il[k]? =some b:=⟨_,ah I⟩
  have hz:=hr2 k (ao k) I
  refine Zr<|G (Yi Z)<|G (Wi Z)<|U ?_
  refine pW cd (fun w'=>w'.heap[b6]? =some (.cells #[J 0,J (-1),.slice (Qd b25) n n,.slice (Qd b27) n n,.slice (Qd b29) n n,J ((few:Nat):Int),J 0] bF (0,0))) ?_
  intro w105 hw';replace H:=H.later hw';clear hw'
  refine bh 0 N N N Z Z Z Z Nq (H.ent (i:=0) Z) (fun _ hS=>Zf gi Z)<|bh 1 N N N Z Z Z Z Nq (H.ent (i:=0) Z) (fun _ hS=>aW gN Z (aB hS Z))<|bh 2 N N N Z Z Z Z Nq (H.ent (i:=0) Z) (fun _ hS=>Yi Z)<|bh 3 N N N Z Z Z Z Nq (H.ent (i:=0) Z) (fun _ hS=>Zf cU Z)<|bh 4 N N N Z Z Z Z Nq (H.ent (i:=0) Z) (fun _ hS=>aW bW Z (aB hS Z))<|bh 5 N N N Z Z Z Z Nq (H.ent (i:=0) Z) (fun _ hS=>Yi Z)<|bh 6 N N N Z Z Z Z Nq (H.ent (i:=0) Z) (fun _ hS=>cG ed Z Z (by first|omega|(simp only[ae];omega)))<|wK 7 N Z<|k9 H 1 (true) iU row25 hb 0 Z Z Z Z Z Z N fun w107 cur106 row106 H=> ?_
  have hs108:(il.set k (true))[k]? =some (true):=al (cC hb).1
  refine U ?_
  refine⟨(H.ent (i:=0) Z),?_⟩
  refine bh 8 N N N Z Z Z Z Nq (H.ent (i:=0) Z) (fun _ hS=>cG bx Z Z (by first|omega|(simp only[ae];omega)))<|bh 9 N N N Z Z Z Z Nq (H.ent (i:=0) Z) (fun _ hS=>Zf fB Z)<|wK 10 N Z<|k9 H 3 (⟨true,none,0,[],0,0,w.heap.size,w.heap.size⟩) iU row29 hz 0 Z Z Z Z Z Z N fun w110 cur109 row109 H=> ?_
  have hs111:(rl.set k (⟨true,none,0,[],0,0,w.heap.size,w.heap.size⟩))[k]? =some (⟨true,none,0,[],0,0,w.heap.size,w.heap.size⟩):=al (cC hz).1
  refine U ?_
  refine⟨(H.ent (i:=0) Z),?_⟩
  refine ny N<|Zr<|G (bw Z Z I I)<|G (Yi Z)<|U ?_
  refine⟨(k+1,il.set k true,rl.set k ⟨true,none,0,[],0,0,w.heap.size,w.heap.size⟩,cur106,cur109),⟨by omega,by rw[ae];exact hil,by rw[ae];exact hrl,fun j hj=> ?_,fun j hj=> ?_,fun j hj hjn=> ?_,row106,row109,H⟩,dP Z,Qg,by show n- (k+1)<n-k;omega⟩
  ·by_cases hjk:k=j
   ·subst hjk;exact al I
   ·rw[bQ hjk];exact hi1 j I
  ·by_cases hjk:k=j
   ·subst hjk;exact al I
   ·rw[bQ hjk];exact hr1 j I
  ·rw[bQ I];exact hr2 j I hjn
 ·
  have hke:n=k:=by omega
  subst hke
  have hie:=LM hil hi1
  have hre:=LM hrl hr1
  subst hie
  subst hre
  refine U<|W<|ZF Z<|Zx<|W<|Zr<|G (Zw aH H 0 Z Z Z)<|bo H 4 (#[J (0),J ((-1)),.slice (Qd b25) n n,.slice (Qd b27) n n,.slice (Qd b29) n n,J (((few:Nat):Int)),J (0)]) aK Z Z Z Z Z N N fun w112 H=>G (Wi Z)<|U<|Zt ?_
  replace H:=H.learnNil (Y:=dC) w.heap.size H.size none
  exact bE (cs0:= #[J 0,J (-1),.slice (Qd b25) n n,.slice (Qd b27) n n,.slice (Qd b29) n n,J ((few:Nat):Int),J 0]) (v1:=J 0) Z aH Z (H.ent (i:=4) Z) Z Z ⟨⟨0,-1,au n true,some ⟨b25,0,none⟩,n,au n 0,some ⟨b27,0,none⟩,n,au n ⟨true,none,0,[],0,0,w.heap.size,w.heap.size⟩,some ⟨b29,0,none⟩,n,(few:Nat),0⟩,by simp[Pa.c],by simp[Pa.a,mL,fk.a],eA.mk_ Z Z Z row25 row27 row29 (F:=[dU dC w.heap.size w.heap.size none []]) (fun r hr=>by rw[dg hr];exact⟨by simp[bj],ao _,d5 _⟩) (by simp;omega) H ⟨by simp,by simp,by simp⟩⟩
theorem Hz (p:Pa) (a m:Int) (w:World) (h:p.rd 0 w.heap.size w) (hok:p.a.ok) (hl:p.leader<0):dh aa t9 [p.v,J a,J m] w fun v w2=>v=.tuple #[.slice none 0 0,J 0,J 8]/\Below w.heap.size w w2:=by
 refine aE sU Z Z ?_
 obtain⟨hn1,hn2,hil,hkl,hf1,hf2,he0,he1,hl0,hl1,hb0,hb1,hsm⟩:=Pa.facts hok
 have hkn:=hok.known
 have hiC:=h.iC
 have hkC:=h.kC
 have hrC:=h.rC
 have hfew:=h.few
 have H:=Hp.startPa h
 obtain⟨ep,ld,isr,iA,iC,kn,kA,kC,reps,rA,rC,fw,bs⟩:=p
 simp only[Pa.a]at hkn
 dsimp only at H hn1 hn2 hil hkl hf1 hf2 he0 he1 hl0 hl1 hb0 hb1 hsm hiC hkC hrC hfew
 dsimp only at hl
 show CW _ _ _ _ (args [.agg #[J (ep),J (ld),.slice iA isr.length iC,.slice kA kn.length kC,.slice rA reps.length rC,J (fw),J (bs)],J (a),J (m)]) w
 refine W<|Zr<|f7 H Z Z fun w1 b3 H=>G (Ws Z)<|G (Wi Z)<|G (Wi Z)<|U<|W<|W<|Zr<|G (Zw aH H 0 Z Z Z)<|ch lx (rU ⟨ep,ld,isr,iA,iC,kn,kA,kC,reps,rA,rC,fw,bs⟩ _ (Hp.pa H 0 Z) hok) Z Z ?_
 rintro _ w2 ⟨rfl,hb⟩;replace H:=H.later hb;clear hb
 refine G (Wi Z)<|U<|W<|Zr<|G (Yi Z)<|G (bZ Z Z Z)<|U<|ZF Z<|Zk<|W<|W<|Zr<|G (Zf dt Z)<|G (Zd ak H 0 Z Z Z)<|G (yg Z Z hl)<|U<|ZT Z<|W<|Zr<|G (Ws Z)<|G (Wi Z)<|G (Wi Z)<|U<|Zt ?_
 exact Ik Z Z Z Z ⟨rfl,H.below⟩
theorem Ma (p:Pa) (a most l:Nat) (r:fk) (w:World) (h:p.rd 0 w.heap.size w) (hok:p.a.ok) (hld:p.leader=l) (hr:p.reps[l]? =some r) (ha:a<=r.es.length) (hm1:1<=most) (hm2:most<=20):dh aa t9 [p.v,J (a:Nat),J (most:Nat)] w fun v w2=> ∃ (st:Nat) (out:List ByteArray) (b:Nat) (A':Option Addr) (c':Nat),t6 (r.es.take r.high.toNat) st/\BX r.es r.high.toNat st a most out b/\v=.tuple #[.slice A' out.length c',J (b:Nat),J 0]/\Rd nz w.heap.size w2.heap.size A' out w2/\out.length<=c'/\Below w.heap.size w w2:=by
 refine aE sU Z Z ?_
 obtain⟨hn1,hn2,hil,hkl,hf1,hf2,he0,he1,hl0,hl1,hb0,hb1,hsm⟩:=Pa.facts hok
 have hkn:=hok.known
 have hiC:=h.iC
 have hkC:=h.kC
 have hrC:=h.rC
 have hfew:=h.few
 have H:=Hp.startPa h
 obtain⟨ep,ld,isr,iA,iC,kn,kA,kC,reps,rA,rC,fw,bs⟩:=p
 simp only[Pa.a]at hkn
 dsimp only at H hn1 hn2 hil hkl hf1 hf2 he0 he1 hl0 hl1 hb0 hb1 hsm hiC hkC hrC hfew
 dsimp only at hld hr
 have hll:=(cC hr).1
 show CW _ _ _ _ (args [.agg #[J (ep),J (ld),.slice iA isr.length iC,.slice kA kn.length kC,.slice rA reps.length rC,J (fw),J (bs)],J (((a:Nat):Int)),J (((most:Nat):Int))]) w
 refine W<|Zr<|f7 H Z Z fun w1 b3 H=>G (Ws Z)<|G (Wi Z)<|G (Wi Z)<|U<|W<|W<|Zr<|G (Zw aH H 0 Z Z Z)<|ch lx (rU ⟨ep,ld,isr,iA,iC,kn,kA,kC,reps,rA,rC,fw,bs⟩ _ (Hp.pa H 0 Z) hok) Z Z ?_
 rintro _ w2 ⟨rfl,hb⟩;replace H:=H.later hb;clear hb
 refine G (Wi Z)<|U<|W<|Zr<|G (Yi Z)<|G (bZ Z Z Z)<|U<|ZF Z<|Zk<|W<|W<|Zr<|G (Zf dt Z)<|G (Zd ak H 0 Z Z Z)<|G (dd Z Z I)<|U<|ZF Z<|Zk<|W<|Zr<|G (Zf cU Z)<|G (Zd bW H 0 Z Z Z)<|G (Zf dt Z)<|G (Zd ak H 0 Z Z Z)<|qB (k:=l) H 3 Z bx Z (congrArg (Value.int .i64) hld) I I Z fun bq3 o3 x3 e3=> ?_
 obtain rfl:x3=r:=by have:=e3.at_;rw[hr]at this;exact(ba this).symm
 obtain⟨n,hnn⟩: ∃ n:Nat,x3.high=n:=⟨x3.high.toNat,by have:=(Pa.repOk hok (i:=l) hr).2.1;omega⟩
 refine G (j7 (xs:=fk.c x3) oU Z Z e3.cl)<|eP H pZ Z fun w4 b10 H=>bo H 0 (#[.bool (x3.up),.slice x3.A ((bj x3.es).length) x3.cap,J (((fW x3.es x3.s:Nat):Int)),J (x3.high)]) lW Z Z Z Z Z N N fun w5 H=>U<|W<|Zr<|G (Zf dA Z)<|G (j6 1 [.slice x3.A ((bj x3.es).length) x3.cap,J (((fW x3.es x3.s:Nat):Int))] eV Z Z (H.ent (i:=0) Z) Z)<|ch gJ (ik x3.A x3.cap x3.es x3.s _ (Pa.log (Hp.pa H 0 Z) hok (i:=l) hr)) Z Z ?_
 have hloen:=H.size
 rintro _ w6 ⟨Aen,cen,rfl,hren,hcen,hben⟩;replace H:=H.learnRd hben hren;clear hren hben
 refine G (Yu Z)<|G (Xs Z Z)<|G (Xi Z Z)<|G (Xi Z Z)<|G (Ws Z)<|G (Wi Z)<|G (Wi Z)<|U<|W<|Zr<|G (Ys Z)<|G (Zf dZ Z)<|G (Zd ak H 0 Z Z Z)<|G (Yi Z)<|G (Yi Z)<|ch xy ((by have hA:=NW x3.es Aen cen n a most _ (H.rd0 0 Z) hcen (by have:=(Pa.repOk hok (i:=l) hr).1.len;omega) (by have:=(Pa.repOk hok (i:=l) hr).2.2;omega) ha hm1 hm2;rw[<-hnn]at hA;exact hA)) Z Z ?_
 have hlo:=H.size
 rintro _ w7 ⟨st,out,b,A9,c9,hs9,hr9,rfl,hrd9,hc9,hb9⟩
 refine G (Xs Z Z)<|G (Xi Z Z)<|G (Xi Z Z)<|G (Ws Z)<|G (Wi Z)<|G (Wi Z)<|U<|Zt ?_
 have hnt:x3.high.toNat=n:=by omega
 rw[hnt]
 exact Ik Z Z Z Z ⟨st,out,b,A9,c9,hs9,hr9,rfl,hrd9.mono hlo (ao _),hc9,H.below.trans (hb9.mono hlo)⟩
theorem GL.of {es:List cz} {s:Nat} (hg: ∀ e∈es,kT e) (hl:es.length<=400) (hs:s<=es.length):GL es s:=by
 have:=EP es hg
 exact⟨hg,hl,by omega,hs⟩
def fD.small (m:Nat) (p:fD):Prop:= ∀ r∈p.reps,r.es.length<=m
theorem fD.ok.at_ {p:fD} (h:p.ok) {i:Nat} {x:RA} (hx:p.reps[i]? =some x):x.ok:=h.reps x (ab hx)
theorem IW {p:fD} (h:p.ok) {rs:List RA} (hl:rs.length=p.reps.length) (hr: ∀ r∈rs,r.ok) (hu: ∀ (l:Nat) (r:RA),p.leader=l->rs[l]? =some r->r.up=true):({p with reps:=rs}:fD).ok:=
 ⟨by dsimp only;rw[hl];exact h.n1,by dsimp only;rw[hl];exact h.n2,by dsimp only;rw[hl];exact h.isrl,by dsimp only;rw[hl];exact h.knownl,h.few1,by dsimp only;rw[hl];exact h.few2,h.ep0,h.ep1,h.ld0,by dsimp only;rw[hl];exact h.ld1,h.base0,h.base1,h.some_,
  fun l r h1 h2=>by
   have hlt:=(aA.1 h2).1
   dsimp only at hlt h1 h2
   obtain⟨y,hy⟩: ∃ y,p.reps[l]? =some y:=⟨_,ah I⟩
   exact⟨(h.lead l y h1 hy).1,hu l r h1 h2⟩,hr,h.known⟩
theorem PG {p:fD} (h:p.ok) {i:Nat} {x x':RA} (hx:p.reps[i]? =some x) (hk:x'.ok) (hu:x'.up=x.up):({p with reps:=p.reps.set i x'}:fD).ok:=
 IW h (ae ..) (fun r hr=>by
  rcases aM hr with hr|rfl
  exact h.reps r hr
  exact hk) (fun l r h1 h2=>by
  by_cases hi:i=l
  subst hi
  rw[al (cC hx).1]at h2
  cases h2
  rw[hu];exact(h.lead i x h1 hx).2
  rw[bQ hi]at h2
  exact(h.lead l r h1 h2).2)
theorem FU {p:fD} (h:p.ok) {kn:List Int} (hl:kn.length=p.known.length) (hb: ∀ n∈kn,0<=n/\n<=400):({p with known:=kn}:fD).ok:=
 ⟨h.n1,h.n2,h.isrl,by dsimp only;rw[hl];exact h.knownl,h.few1,h.few2,h.ep0,h.ep1,h.ld0,h.ld1,h.base0,h.base1,h.some_,h.lead,h.reps,hb⟩
theorem Ed {p:fD} (h:p.ok) (r:Nat) {v:Int} (h1:0<=v) (h2:v<=400):({p with known:=p.known.set r v}:fD).ok:=
 FU h (ae ..) fun n hn=>by
  rcases aM hn with hn|rfl
  exact h.known n hn
  exact⟨h1,h2⟩
theorem HC {p:fD} (h:p.ok) {is:List Bool} (hl:is.length=p.isr.length) (hs:true∈is) (hd: ∀ l:Nat,p.leader=l->is[l]? =some true):({p with isr:=is}:fD).ok:=
 ⟨h.n1,h.n2,by dsimp only;rw[hl];exact h.isrl,h.knownl,h.few1,h.few2,h.ep0,h.ep1,h.ld0,h.ld1,h.base0,h.base1,hs,fun l r h1 h2=>⟨hd l h1,(h.lead l r h1 h2).2⟩,h.reps,h.known⟩
theorem N9 {p:fD} (h:p.ok):({p with leader:= -1}:fD).ok:=
 ⟨h.n1,h.n2,h.isrl,h.knownl,h.few1,h.few2,h.ep0,h.ep1,by dsimp only;omega,by have:=h.n1;dsimp only;omega,h.base0,h.base1,h.some_,fun l r h1 h2=>by dsimp only at h1;omega,h.reps,h.known⟩
theorem Oa {p:fD} (h:p.ok) {r:Nat} {x:RA} {b:Int} (hx:p.reps[r]? =some x) (hu:x.up=true) (hi:p.isr[r]? =some true) (he:p.epoch≠1073741824) (hb0:0<=b) (hb1:b<=400):({p with epoch:=p.epoch+1,leader:=r,base:=b}:fD).ok:=
 ⟨h.n1,h.n2,h.isrl,h.knownl,h.few1,h.few2,by have:=h.ep0;dsimp only;omega,by have:=h.ep1;dsimp only;omega,by dsimp only;omega,by have:=(cC hx).1;dsimp only;omega,hb0,hb1,h.some_,fun l y h1 h2=>by
  dsimp only at h1 h2
  have:l=r:=by omega
  subst this
  rw[hx]at h2;cases h2
  exact⟨hi,hu⟩,h.reps,h.known⟩
theorem PH {p:fD} (h:p.ok):(lU p).ok:=by
 unfold lU
 split
 rename_i x hx
 split
 exact h
 have hk:=h.at_ hx
 have:=hk.high0
 have:=hk.high1
 exact PG h hx ⟨hk.gl,by dsimp only;omega,by dsimp only;omega⟩ Z
 exact h
theorem Ac {p:fD} {r:Nat} (he:(oh p r).2=0): ∃ x,p.reps[r]? =some x/\x.up=true/\(oh p r).1=if p.leader=r then lU {p with reps:=p.reps.set r {x with s:=x.es.length},known:=p.known.set r x.es.length}else{p with reps:=p.reps.set r {x with s:=x.es.length}}:=by
 unfold oh at he⊢
 cases hx:p.reps[r]? with
 |none=>rw[hx]at he;simp at he
 |some x=>
  rw[hx]at he
  dsimp only at he⊢
  by_cases hu:x.up=false
  rw[if_pos hu]at he;simp at he
  rw[if_neg hu]
  exact⟨x,rfl,by simpa using hu,by split<;>rfl⟩
theorem FF {p:fD} {r:Nat} (he:(p9 p r).2=0): ∃ x,p.reps[r]? =some x/\x.up=false/\(p9 p r).1={p with reps:=p.reps.set r {x with up:=true}}:=by
 unfold p9 at he⊢
 cases hx:p.reps[r]? with
 |none=>rw[hx]at he;simp at he
 |some x=>
  rw[hx]at he
  dsimp only at he⊢
  by_cases hu:x.up=true
  rw[if_pos hu]at he;simp at he
  rw[if_neg hu]
  exact⟨x,rfl,by simpa using hu,rfl⟩
theorem Dy {p:fD} {r keep:Nat} (he:(kE p r keep).2=0): ∃ x,p.reps[r]? =some x/\x.up=true/\(kE p r keep).1={p with reps:=p.reps.set r {up:=false,es:=x.es.take (jZ x.es x.s keep),s:=jZ x.es x.s keep,high:=min x.high (((x.es.take (jZ x.es x.s keep)).length:Nat):Int)},known:=p.known.set r 0,leader:=if p.leader=r then-1 else p.leader}:=by
 unfold kE at he⊢
 cases hx:p.reps[r]? with
 |none=>rw[hx]at he;simp at he
 |some x=>
  rw[hx]at he
  dsimp only at he⊢
  by_cases hu:x.up=false
  rw[if_pos hu]at he;simp at he
  rw[if_neg hu]
  exact⟨x,rfl,by simpa using hu,rfl⟩
theorem Fd {p:fD} {r:Nat} (he:(oe p r).2=0): ∃ x,p.reps[r]? =some x/\x.up=false/\true∈p.isr.set r false/\(oe p r).1={p with reps:=p.reps.set r ⟨false,[],0,0⟩,known:=p.known.set r 0,isr:=p.isr.set r false}:=by
 unfold oe at he⊢
 cases hx:p.reps[r]? with
 |none=>rw[hx]at he;simp at he
 |some x=>
  rw[hx]at he
  dsimp only at he⊢
  by_cases hu:x.up=true
  rw[if_pos hu]at he;simp at he
  rw[if_neg hu]at he⊢
  by_cases ht:true∉p.isr.set r false
  rw[if_pos ht]at he;simp at he
  rw[if_neg ht]
  exact⟨x,rfl,by simpa using hu,by simpa using ht,rfl⟩
theorem Dv {p:fD} {r:Nat} (hil:p.isr.length=p.reps.length) (he:(fU p r).2=0): ∃ x,p.reps[r]? =some x/\x.up=true/\p.isr[r]? =some true/\p.leader≠r/\p.epoch≠1073741824/\(fU p r).1=lU {p with epoch:=p.epoch+1,leader:=r,known:=(au p.reps.length 0).set r x.s,base:=x.es.length}:=by
 unfold fU at he⊢
 cases hx:p.reps[r]? with
 |none=>rw[hx]at he;simp at he
 |some x=>
  rw[hx]at he
  dsimp only at he⊢
  by_cases hu:x.up=false
  rw[if_pos hu]at he;simp at he
  rw[if_neg hu]at he⊢
  by_cases hi:p.isr[r]? =some false
  rw[if_pos hi]at he;simp at he
  rw[if_neg hi]at he⊢
  by_cases hl:p.leader=r
  rw[if_pos hl]at he;simp at he
  rw[if_neg hl]at he⊢
  by_cases hp:p.epoch=1073741824
  rw[if_pos hp]at he;simp at he
  rw[if_neg hp]
  obtain⟨b,hb⟩: ∃ b,p.isr[r]? =some b:=⟨_,ah (by have:=(cC hx).1;omega)⟩
  refine⟨x,rfl,by simpa using hu,?_,hl,hp,rfl⟩
  rw[hb]at hi⊢
  cases b
  exact absurd Z hi
  rfl
theorem Am {p:fD} {r:Nat} (he:(hZ p r).2=0):0<=p.leader/\p.leader≠r/\(hZ p r).1=lU {p with isr:=p.isr.set r false}:=by
 unfold hZ at he⊢
 by_cases h1:p.leader<0∨p.leader=r
 rw[if_pos h1]at he;simp at he
 rw[if_neg h1]at he⊢
 by_cases h2:p.isr[r]? =some false
 rw[if_pos h2]at he;simp at he
 rw[if_neg h2]
 exact⟨by omega,by omega,rfl⟩
theorem BA {p:fD} {r:Nat} (he:(fT p r).2=0): ∃ x,p.reps[r]? =some x/\0<=p.leader/\p.leader≠r/\x.up=true/\max p.base (sQ p)<=p.known.getD r 0/\(fT p r).1={p with isr:=p.isr.set r true}:=by
 unfold fT at he⊢
 by_cases h1:p.leader<0∨p.leader=r
 rw[if_pos h1]at he;simp at he
 rw[if_neg h1]at he⊢
 by_cases h2:p.isr[r]? =some true
 rw[if_pos h2]at he;simp at he
 rw[if_neg h2]at he⊢
 cases hx:p.reps[r]? with
 |none=>rw[hx]at he;simp at he
 |some x=>
  rw[hx]at he
  dsimp only at he⊢
  by_cases hu:x.up=false
  rw[if_pos hu]at he;simp at he
  rw[if_neg hu]at he⊢
  by_cases hk:p.known.getD r 0<max p.base (sQ p)
  rw[if_pos hk]at he;simp at he
  rw[if_neg hk]
  exact⟨x,rfl,by omega,by omega,by simpa using hu,by omega,rfl⟩
theorem yu {p:fD} {r:Nat} (h:p.ok) (he:(jc p r).2.2=0): ∃ (x y:RA) (l:Nat),p.reps[r]? =some x/\p.leader=l/\r≠l/\x.up=true/\p.reps[l]? =some y:=by
 unfold jc at he
 cases hx:p.reps[r]? with
 |none=>rw[hx]at he;simp at he
 |some x=>
  rw[hx]at he
  dsimp only at he
  by_cases h1:p.leader<0∨p.leader=r
  rw[if_pos h1]at he;simp at he
  rw[if_neg h1]at he
  by_cases hu:x.up=false
  rw[if_pos hu]at he;simp at he
  have h2:=h.ld1
  exact⟨x,p.reps[p.leader.toNat]'(by omega),p.leader.toNat,rfl,by omega,by omega,by simpa using hu,ah I⟩
theorem Ea {p:fD} {e:cz} (he:(er p e).2.2=0): ∃ (x:RA) (l:Nat),p.leader=l/\p.reps[l]? =some x/\kT {e with epoch:=p.epoch}/\(fc x.es {e with epoch:=p.epoch}).2=0/\
  ((0<=(fc x.es {e with epoch:=p.epoch}).1/\(er p e).1=p/\(er p e).2.1=(fc x.es {e with epoch:=p.epoch}).1)∨((fc x.es {e with epoch:=p.epoch}).1<0/\p.few<=G6 p.isr p.reps 0/\(er p e).1={p with reps:=p.reps.set l {x with es:=x.es++[{e with epoch:=p.epoch}]}}/\(er p e).2.1=x.es.length)):=by
 unfold er at he⊢
 by_cases h1:p.leader<0
 rw[if_pos h1]at he;simp at he
 rw[if_neg h1]at he⊢
 cases hx:p.reps[p.leader.toNat]? with
 |none=>rw[hx]at he;simp at he
 |some x=>
  rw[hx]at he
  dsimp only at he⊢
  by_cases h2:eD {e with epoch:=p.epoch}≠0
  rw[if_pos h2]at he;exact absurd he h2
  rw[if_neg h2]at he⊢
  by_cases h3:(fc x.es {e with epoch:=p.epoch}).2≠0
  rw[if_pos h3]at he;exact absurd he h3
  rw[if_neg h3]at he⊢
  refine⟨x,p.leader.toNat,by omega,hx,by unfold kT;simpa using h2,by simpa using h3,?_⟩
  by_cases h4:0<=(fc x.es {e with epoch:=p.epoch}).1
  rw[if_pos h4]
  exact .inl ⟨h4,rfl,rfl⟩
  rw[if_neg h4]at he⊢
  by_cases h5:G6 p.isr p.reps 0<p.few
  rw[if_pos h5]at he;simp at he
  rw[if_neg h5]
  exact .inr ⟨by omega,by omega,rfl,rfl⟩
theorem eZ {α:Type} {l:List α} {r:Nat} {x':α} {i:Nat} {y:α} (h:(l.set r x')[i]? =some y):(i=r/\y=x')∨(i≠r/\l[i]? =some y):=by
 by_cases hi:r=i
 subst hi
 have hl:=(aA.1 h).1
 rw[ae]at hl
 rw[al hl]at h
 cases h
 exact .inl ⟨rfl,rfl⟩
 rw[bQ hi]at h
 exact .inr ⟨fun h=>hi h.symm,h⟩
structure zE (K:List cz) (p:fD):Prop where
 ep: ∀ (i:Nat) (x:RA),p.reps[i]? =some x-> ∀ e∈x.es,e.epoch<=p.epoch
 lm: ∀ (i j:Nat) (x y:RA) (n:Nat) (e f:cz),p.reps[i]? =some x->p.reps[j]? =some y->x.es[n]? =some e->y.es[n]? =some f->e.epoch=f.epoch->x.es.take (n+1)=y.es.take (n+1)
 cur: ∀ (l:Nat) (y:RA) (i:Nat) (x:RA) (n:Nat) (e:cz),p.leader=l->p.reps[l]? =some y->p.reps[i]? =some x->x.es[n]? =some e->e.epoch=p.epoch->n<y.es.length
 hi: ∀ (i:Nat) (x:RA),p.reps[i]? =some x->x.high.toNat<=K.length/\x.es.take x.high.toNat=K.take x.high.toNat
 keep: ∀ (i:Nat) (x:RA),p.reps[i]? =some x->p.isr[i]? =some true->K.length<=x.s/\x.es.take K.length=K
 kn: ∀ (l:Nat) (y:RA) (i:Nat) (x:RA) (v:Int),p.leader=l->p.reps[l]? =some y->p.reps[i]? =some x->p.known[i]? =some v->v.toNat<=x.s/\v.toNat<=y.es.length/\x.es.take v.toNat=y.es.take v.toNat
 base: ∀ (l:Nat) (y:RA),p.leader=l->p.reps[l]? =some y->(K.length:Int)<=max p.base y.high
theorem zE.set {K:List cz} {p:fD} (h:zE K p) {r:Nat} {x x':RA} (hx:p.reps[r]? =some x)
  (c_ep: ∀ e∈x'.es,e.epoch<=p.epoch)
  (c_lm: ∀ (j:Nat) (y:RA) (n:Nat) (e f:cz),j≠r->p.reps[j]? =some y->x'.es[n]? =some e->y.es[n]? =some f->e.epoch=f.epoch->x'.es.take (n+1)=y.es.take (n+1))
  (c_cur1: ∀ (l:Nat) (y:RA) (n:Nat) (e:cz),p.leader=l->l≠r->p.reps[l]? =some y->x'.es[n]? =some e->e.epoch=p.epoch->n<y.es.length)
  (c_cur2:p.leader=r->x.es.length<=x'.es.length)
  (c_hi:x'.high.toNat<=K.length/\x'.es.take x'.high.toNat=K.take x'.high.toNat)
  (c_keep:p.isr[r]? =some true->K.length<=x'.s/\x'.es.take K.length=K)
  (c_kn1: ∀ (l:Nat) (y:RA) (v:Int),p.leader=l->l≠r->p.reps[l]? =some y->p.known[r]? =some v->v.toNat<=x'.s/\v.toNat<=y.es.length/\x'.es.take v.toNat=y.es.take v.toNat)
  (c_kn2:p.leader=r-> ∀ (i:Nat) (z:RA) (v:Int),i≠r->p.reps[i]? =some z->p.known[i]? =some v->v.toNat<=x'.es.length/\z.es.take v.toNat=x'.es.take v.toNat)
  (c_kn3:p.leader=r-> ∀ v:Int,p.known[r]? =some v->v.toNat<=x'.s/\v.toNat<=x'.es.length)
  (c_base:p.leader=r->(K.length:Int)<=max p.base x'.high):zE K {p with reps:=p.reps.set r x'}:=by
 refine⟨fun i y hy e he=> ?_,fun i j y z n e f hy hz he hf hef=> ?_,fun l y i z n e hl hy hz he hee=> ?_,fun i y hy=> ?_,fun i y hy hi=> ?_,fun l y i z v hl hy hz hv=> ?_,fun l y hl hy=> ?_⟩
 rcases eZ hy with⟨rfl,rfl⟩|⟨_,hy2⟩
 exact c_ep e he
 exact h.ep i y hy2 e he
 rcases eZ hy with⟨rfl,rfl⟩|⟨hi,hy2⟩
 rcases eZ hz with⟨rfl,rfl⟩|⟨hj,hz2⟩
 rfl
 exact c_lm j z n e f hj hz2 he hf hef
 rcases eZ hz with⟨rfl,rfl⟩|⟨hj,hz2⟩
 exact(c_lm i y n f e hi hy2 hf he hef.symm).symm
 exact h.lm i j y z n e f hy2 hz2 he hf hef
 rcases eZ hy with⟨rfl,rfl⟩|⟨hlr,hy2⟩
 rcases eZ hz with⟨rfl,rfl⟩|⟨hir,hz2⟩
 exact(cC he).1
 exact f4 (h.cur l x i z n e hl hx hz2 he hee) (c_cur2 hl)
 rcases eZ hz with⟨rfl,rfl⟩|⟨hir,hz2⟩
 exact c_cur1 l y n e hl hlr hy2 he hee
 exact h.cur l y i z n e hl hy2 hz2 he hee
 rcases eZ hy with⟨rfl,rfl⟩|⟨_,hy2⟩
 exact c_hi
 exact h.hi i y hy2
 rcases eZ hy with⟨rfl,rfl⟩|⟨_,hy2⟩
 exact c_keep hi
 exact h.keep i y hy2 hi
 rcases eZ hy with⟨rfl,rfl⟩|⟨hlr,hy2⟩
 rcases eZ hz with⟨rfl,rfl⟩|⟨hir,hz2⟩
 obtain⟨h1,h2⟩:=c_kn3 hl v hv
 exact⟨h1,h2,rfl⟩
 have h1:=c_kn2 hl i z v hir hz2 hv
 exact⟨(h.kn l x i z v hl hx hz2 hv).1,h1⟩
 rcases eZ hz with⟨rfl,rfl⟩|⟨hir,hz2⟩
 exact c_kn1 l y v hl hlr hy2 hv
 exact h.kn l y i z v hl hy2 hz2 hv
 rcases eZ hy with⟨rfl,rfl⟩|⟨_,hy2⟩
 exact c_base hl
 exact h.base l y hl hy2
theorem zE.setK {K:List cz} {p:fD} (h:zE K p) {r:Nat} {w:Int} (hw: ∀ (l:Nat) (y x:RA),p.leader=l->p.reps[l]? =some y->p.reps[r]? =some x->w.toNat<=x.s/\w.toNat<=y.es.length/\x.es.take w.toNat=y.es.take w.toNat):zE K {p with known:=p.known.set r w}:=
 ⟨h.ep,h.lm,h.cur,h.hi,h.keep,fun l y i x v hl hy hx hv=>by
  rcases eZ hv with⟨rfl,rfl⟩|⟨_,hv⟩
  exact hw l y x hl hy hx
  exact h.kn l y i x v hl hy hx hv,h.base⟩
theorem zE.setK0 {K:List cz} {p:fD} (h:zE K p) (r:Nat):zE K {p with known:=p.known.set r 0}:=h.setK fun _ _ _ _ _ _=>by simp
theorem zE.none {K:List cz} {p:fD} (h:zE K p):zE K {p with leader:= -1}:=
 ⟨h.ep,h.lm,fun l y i x n e hl=>by dsimp only at hl;omega,h.hi,h.keep,fun l y i x v hl=>by dsimp only at hl;omega,fun l y hl=>by dsimp only at hl;omega⟩
theorem zE.isrF {K:List cz} {p:fD} (h:zE K p) (r:Nat):zE K {p with isr:=p.isr.set r false}:=
 ⟨h.ep,h.lm,h.cur,h.hi,fun i x hx hi=>by
  rcases eZ hi with⟨_,h0⟩|⟨_,hi⟩
  cases h0
  exact h.keep i x hx hi,h.kn,h.base⟩
theorem zE.rebase {K:List cz} {p:fD} (h:zE K p) {b:Int} (hb: ∀ (l:Nat) (y:RA),p.leader=l->p.reps[l]? =some y->(K.length:Int)<=max b y.high):zE K {p with base:=b}:=
 ⟨h.ep,h.lm,h.cur,h.hi,h.keep,h.kn,hb⟩
theorem Gb: ∀ (isr:List Bool) (kn:List Int) (m:Int),dv isr kn m<=m/\ ∀ (i:Nat) (v:Int),isr[i]? =some true->kn[i]? =some v->dv isr kn m<=v
 |[],_,m=>by simp[dv]
 |_::_,[],m=>by simp[dv]
 |b::bs,n::ns,m=>by
  obtain⟨h1,h2⟩:=Gb bs ns (if b then min m n else m)
  refine⟨by unfold dv;split at h1<;>split<;>first|omega|simp_all,fun i v hi hv=> ?_⟩
  unfold dv
  cases i with
  |zero=>
   simp at hi hv
   subst hi;subst hv
   simp at h1⊢
   omega
  |succ i=>exact h2 i v (by simpa using hi) (by simpa using hv)
theorem Aa {α:Type} {a b:List α} {n m:Nat} (h:a.take m=b.take m) (hn:n<=m):a.take n=b.take n:=by
 have:=congrArg (tc n) h
 rwa[dk,dk,bu hn]at this
theorem zE.adv {K:List cz} {p:fD} (h:zE K p) (hok:p.ok): ∃ K',K<+:K'/\zE K' (lU p):=by
 by_cases hneg:p.leader<0
 have:lU p=p:=by
  unfold lU
  split
  rw[if_pos hneg]
  rfl
 rw[this]
 exact⟨K,fz K,h⟩
 obtain⟨l,hl⟩: ∃ l:Nat,p.leader=l:=⟨p.leader.toNat,by omega⟩
 obtain⟨y,hy⟩: ∃ y,p.reps[l]? =some y:=⟨_,ah (by have:=hok.ld1;omega)⟩
 rw[xK hl hy]
 obtain⟨hisr,hup⟩:=hok.lead l y hl hy
 obtain⟨hkp1,hkp2⟩:=h.keep l y hy hisr
 have hyok:=hok.at_ hy
 have hys:=hyok.gl.sle
 have hy0:=hyok.high0
 obtain⟨hh1,hh2⟩:=h.hi l y hy
 generalize hH:max y.high (min (dv p.isr p.known 400) y.es.length)=H
 by_cases hle:H.toNat<=K.length
 refine⟨K,fz K,h.set hy (h.ep l y hy) (fun j z n e f hj hz he hf hef=>h.lm l j y z n e f hy hz he hf hef) (fun l' y' n e h1 h2=>absurd I h2) (fun _=>ao _) ⟨hle,?_⟩ (fun hi=>h.keep l y hy hi) (fun l' y' v h1 h2=>absurd I h2) (fun _ i z v _ hz hv=>(h.kn l y i z v hl hy hz hv).2) (fun _ v hv=>⟨(h.kn l y l y v hl hy hy hv).1,(h.kn l y l y v hl hy hy hv).2.1⟩) (fun _=> ?_)⟩
 have:=congrArg (tc H.toNat) hkp2
 rwa[dk,bu hle]at this
 have:=h.base l y hl hy;dsimp only;omega
 have hHm:H=min (dv p.isr p.known 400) y.es.length:=by omega
 have hHl:H.toNat<=y.es.length:=by omega
 have hlen:(y.es.take H.toNat).length=H.toNat:=by rw[aI];omega
 have hKy:K=(y.es.take H.toNat).take K.length:=by rw[dk,bu I];exact hkp2.symm
 have hpre:K<+:y.es.take H.toNat:=by rw[hKy];exact List.take_prefix _ _
 have hKt: ∀ n,n<=K.length->K.take n=(y.es.take H.toNat).take n:=fun n hn=>by
  have:=congrArg (tc n) hkp2
  rw[dk,bu hn]at this
  rw[<-this,dk,bu I]
 have hG:zE (y.es.take H.toNat) {p with base:=H}:=by
  refine⟨h.ep,h.lm,h.cur,fun i x hx=> ?_,fun i x hx hi=> ?_,h.kn,fun l' y' hl' hy'=>by dsimp only;omega⟩
  obtain⟨h1,h2⟩:=h.hi i x hx
  exact⟨by omega,by rw[h2];exact hKt _ h1⟩
  obtain⟨v,hv⟩: ∃ v,p.known[i]? =some v:=⟨_,ah (by have:=(cC hx).1;have:=hok.knownl;dsimp only at*;omega)⟩
  have h1:=(Gb p.isr p.known 400).2 i v hi hv
  obtain⟨h2,h3,h4⟩:=h.kn l y i x v hl hy hx hv
  refine⟨by rw[hlen];omega,?_⟩
  rw[hlen]
  exact Aa h4 I
 have hS:=hG.set (x':={y with high:=H}) hy (h.ep l y hy) (fun j z n e f hj hz he hf hef=>h.lm l j y z n e f hy hz he hf hef) (fun l' y' n e h1 h2=>absurd (by dsimp only at h1;omega) h2) (fun _=>ao _) ⟨by rw[hlen];exact ao _,by rw[dk,Nat.min_self]⟩ (fun hi=>hG.keep l y hy hi) (fun l' y' v h1 h2=>absurd (by dsimp only at h1;omega) h2) (fun _ i z v _ hz hv=>(h.kn l y i z v hl hy hz hv).2) (fun _ v hv=>⟨(h.kn l y l y v hl hy hy hv).1,(h.kn l y l y v hl hy hy hv).2.1⟩) (fun _=>by dsimp only;omega)
 refine⟨_,hpre,hS.rebase (b:=p.base) fun l' z h1 hz=> ?_⟩
 dsimp only at h1 hz
 have:l'=l:=by omega
 subst this
 rw[al (cC hy).1]at hz
 cases hz
 dsimp only
 omega
section
/-- a part that may be: m bounds its logs, n replicas, Φ holds of all entries -/
structure Gd (Φ:cz->Prop) (K:List cz) (m n:Nat) (few:Int) (p:fD):Prop where
 ok:p.ok
 inv:zE K p
 small: ∀ (i:Nat) (x:RA),p.reps[i]? =some x->x.es.length<=m
 ents: ∀ (i:Nat) (x:RA),p.reps[i]? =some x-> ∀ e∈x.es,Φ e
 len:p.reps.length=n
 few:p.few=few
variable {Φ:cz->Prop} {K:List cz} {m n:Nat} {few:Int} {p:fD} {r:Nat}
theorem Gd.mono (h:Gd Φ K m n few p) {m':Nat} (hm:m<=m'):Gd Φ K m' n few p:=⟨h.ok,h.inv,fun i x hx=>aU (h.small i x hx) hm,h.ents,h.len,h.few⟩
theorem N8 {p:fD} (h:p.ok) {i:Nat} {x x':RA} (hx:p.reps[i]? =some x) (hk:x'.ok) (hu:p.leader=i->x'.up=true):({p with reps:=p.reps.set i x'}:fD).ok:=
 IW h (ae ..) (fun r hr=>by
  rcases aM hr with hr|rfl
  exact h.reps r hr
  exact hk) (fun l r h1 h2=>by
  rcases eZ h2 with⟨rfl,rfl⟩|⟨_,h3⟩
  exact hu h1
  exact(h.lead l r h1 h3).2)
theorem Gd.set (h:Gd Φ K m n few p) {r:Nat} {x x':RA} (hx:p.reps[r]? =some x) (hk:x'.ok) (hu:p.leader=r->x'.up=true) (hm:x'.es.length<=m) (hΦ: ∀ e∈x'.es,Φ e)
  (c_ep: ∀ e∈x'.es,e.epoch<=p.epoch)
  (c_lm: ∀ (j:Nat) (y:RA) (n:Nat) (e f:cz),j≠r->p.reps[j]? =some y->x'.es[n]? =some e->y.es[n]? =some f->e.epoch=f.epoch->x'.es.take (n+1)=y.es.take (n+1))
  (c_cur1: ∀ (l:Nat) (y:RA) (n:Nat) (e:cz),p.leader=l->l≠r->p.reps[l]? =some y->x'.es[n]? =some e->e.epoch=p.epoch->n<y.es.length)
  (c_cur2:p.leader=r->x.es.length<=x'.es.length)
  (c_hi:x'.high.toNat<=K.length/\x'.es.take x'.high.toNat=K.take x'.high.toNat)
  (c_keep:p.isr[r]? =some true->K.length<=x'.s/\x'.es.take K.length=K)
  (c_kn1: ∀ (l:Nat) (y:RA) (v:Int),p.leader=l->l≠r->p.reps[l]? =some y->p.known[r]? =some v->v.toNat<=x'.s/\v.toNat<=y.es.length/\x'.es.take v.toNat=y.es.take v.toNat)
  (c_kn2:p.leader=r-> ∀ (i:Nat) (z:RA) (v:Int),i≠r->p.reps[i]? =some z->p.known[i]? =some v->v.toNat<=x'.es.length/\z.es.take v.toNat=x'.es.take v.toNat)
  (c_kn3:p.leader=r-> ∀ v:Int,p.known[r]? =some v->v.toNat<=x'.s/\v.toNat<=x'.es.length)
  (c_base:p.leader=r->(K.length:Int)<=max p.base x'.high):Gd Φ K m n few {p with reps:=p.reps.set r x'}:=
 ⟨N8 h.ok hx hk hu,h.inv.set hx c_ep c_lm c_cur1 c_cur2 c_hi c_keep c_kn1 c_kn2 c_kn3 c_base,fun i y hy=>by
  rcases eZ hy with⟨_,rfl⟩|⟨_,hy⟩
  exact hm
  exact h.small i y hy,fun i y hy=>by
  rcases eZ hy with⟨_,rfl⟩|⟨_,hy⟩
  exact hΦ
  exact h.ents i y hy,by dsimp only;rw[ae];exact h.len,h.few⟩
theorem Gd.setK0 (h:Gd Φ K m n few p) (r:Nat):Gd Φ K m n few {p with known:=p.known.set r 0}:=⟨Ed h.ok r I I,h.inv.setK0 r,h.small,h.ents,h.len,h.few⟩
theorem Gd.none (h:Gd Φ K m n few p):Gd Φ K m n few {p with leader:= -1}:=⟨N9 h.ok,h.inv.none,h.small,h.ents,h.len,h.few⟩
theorem zR {p:fD} {i:Nat} {x:RA} (h:(lU p).reps[i]? =some x): ∃ y,p.reps[i]? =some y/\x.es=y.es/\x.s=y.s/\x.up=y.up:=by
 unfold lU at h
 split at h
 rename_i z hz
 split at h
 exact⟨x,h,rfl,rfl,rfl⟩
 rcases eZ h with⟨rfl,rfl⟩|⟨_,h⟩
 exact⟨z,hz,rfl,rfl,rfl⟩
 exact⟨x,h,rfl,rfl,rfl⟩
 exact⟨x,h,rfl,rfl,rfl⟩
theorem xJ {p:fD}:(lU p).reps.length=p.reps.length/\(lU p).few=p.few/\(lU p).epoch=p.epoch/\(lU p).leader=p.leader/\(lU p).isr=p.isr/\(lU p).known=p.known:=by
 unfold lU
 split
 split
 simp
 simp
 simp
theorem Gd.adv (h:Gd Φ K m n few p): ∃ K',K<+:K'/\Gd Φ K' m n few (lU p):=by
 obtain⟨K',h1,h2⟩:=h.inv.adv h.ok
 refine⟨K',h1,PH h.ok,h2,fun i x hx=> ?_,fun i x hx e he=> ?_,xJ.1.trans h.len,xJ.2.1.trans h.few⟩
 obtain⟨y,hy,he,-⟩:=zR hx
 rw[he];exact h.small i y hy
 obtain⟨y,hy,hee,-⟩:=zR hx
 rw[hee]at he;exact h.ents i y hy e he
theorem Gd.same (h:Gd Φ K m n few p) {x x':RA} (hx:p.reps[r]? =some x) (he:x'.es=x.es) (hh:x'.high=x.high) (hs:x.s<=x'.s) (hsl:x'.s<=x.es.length) (hu:p.leader=r->x'.up=true):Gd Φ K m n few {p with reps:=p.reps.set r x'}:=by
 have hk:=h.ok.at_ hx
 refine h.set hx ⟨by rw[he];exact⟨hk.gl.good,hk.gl.len,hk.gl.sz,hsl⟩,by rw[hh];exact hk.high0,by rw[hh,he];exact hk.high1⟩ hu (by rw[he];exact h.small r x hx) (by rw[he];exact h.ents r x hx) (by rw[he];exact h.inv.ep r x hx) (fun j y n e f hj hy=>by rw[he];exact h.inv.lm r j x y n e f hx hy) (fun l y n e h1 h2 hy=>by rw[he];exact h.inv.cur l y r x n e h1 hy hx) (fun _=>by rw[he];exact ao _) (by rw[he,hh];exact h.inv.hi r x hx) (fun hi=> ?_) (fun l y v h1 h2 hy hv=> ?_) (fun h1 i z v hi hz hv=> ?_) (fun h1 v hv=> ?_) (fun h1=>by rw[hh];exact h.inv.base r x h1 hx)
 obtain⟨h1,h2⟩:=h.inv.keep r x hx hi
 exact⟨by omega,by rw[he];exact h2⟩
 obtain⟨h3,h4,h5⟩:=h.inv.kn l y r x v h1 hy hx hv
 exact⟨by omega,h4,by rw[he];exact h5⟩
 obtain⟨h3,h4,h5⟩:=h.inv.kn r x i z v h1 hx hz hv
 rw[he];exact⟨h4,h5⟩
 obtain⟨h3,h4,h5⟩:=h.inv.kn r x r x v h1 hx hx hv
 rw[he];exact⟨by omega,h4⟩
theorem NG (h:Gd Φ K m n few p) (he:(oh p r).2=0): ∃ K',K<+:K'/\Gd Φ K' m n few (oh p r).1:=by
 obtain⟨x,hx,hu,hS⟩:=Ac he
 have hk:=h.ok.at_ hx
 have hsl:=hk.gl.sle
 have h1:=h.same (x':={x with s:=x.es.length}) hx Z Z hsl (ao _) (fun _=>hu)
 rw[hS]
 split
 rename_i hl
 have hx1:(p.reps.set r {x with s:=x.es.length})[r]? =some {x with s:=x.es.length}:=al (cC hx).1
 have h2:Gd Φ K m n few {p with reps:=p.reps.set r {x with s:=x.es.length},known:=p.known.set r x.es.length}:=
  ⟨Ed h1.ok r I (by have:=hk.gl.len;omega),h1.inv.setK (w:=x.es.length) fun l y z hl' hy hz=>by
   dsimp only at hl' hy hz
   have:l=r:=by omega
   subst this
   rw[hx1]at hy hz;cases hy;cases hz
   simp,h1.small,h1.ents,h1.len,h1.few⟩
 exact h2.adv
 exact⟨K,fz K,h1⟩
theorem NQ (h:Gd Φ K m n few p) (he:(p9 p r).2=0): ∃ K',K<+:K'/\Gd Φ K' m n few (p9 p r).1:=by
 obtain⟨x,hx,hu,hS⟩:=FF he
 rw[hS]
 exact⟨K,fz K,h.same hx Z Z (ao _) (h.ok.at_ hx).gl.sle (fun _=>rfl)⟩
theorem M8 {keep:Nat} (h:Gd Φ K m n few p) (he:(kE p r keep).2=0): ∃ K',K<+:K'/\Gd Φ K' m n few (kE p r keep).1:=by
 obtain⟨x,hx,hu,hS⟩:=Dy he
 rw[hS]
 have hk:=h.ok.at_ hx
 have hge:=KB (keep:=keep) hk.gl.sle
 have hle:=Dz x.es x.s keep
 generalize hc:jZ x.es x.s keep=c at*
 have hlen:(x.es.take c).length=c:=by rw[aI];omega
 rw[hlen]
 obtain⟨q,hq,hqe⟩: ∃ q:fD,q={p with leader:=if p.leader=r then-1 else p.leader}/\Gd Φ K m n few q:=by
  refine⟨_,rfl,?_⟩
  by_cases hl:p.leader=r
  rw[if_pos hl];exact h.none
  rw[if_neg hl];exact h
 have h2:=hqe.setK0 r
 have hql:q.leader≠r:=by rw[hq];dsimp only;split<;>omega
 have e1:q.reps=p.reps:=by rw[hq]
 have e2:q.isr=p.isr:=by rw[hq]
 have e3:q.epoch=p.epoch:=by rw[hq]
 have e4:q.known=p.known:=by rw[hq]
 have hxq:q.reps[r]? =some x:=by rw[e1];exact hx
 have hkn:r<q.known.length:=by rw[e4,h.ok.knownl];exact(cC hx).1
 have h0:=hk.high0
 have hgt: ∀ {j:Nat} {e:cz},(x.es.take c)[j]? =some e->x.es[j]? =some e/\j<c:=fun{j e} hj=>by
  rw[dm]at hj
  split at hj
  exact⟨hj,by assumption⟩
  cases hj
 refine⟨K,fz K,?_⟩
 have h3:=h2.set (x':=⟨false,x.es.take c,c,min x.high (c:Nat)⟩) hxq ⟨hk.gl.take c (by rw[hlen];exact ao _),by dsimp only;omega,by dsimp only;omega⟩ (fun hl=>absurd hl hql) (by dsimp only;rw[hlen];have:=h.small r x hx;omega) (fun e he=>h.ents r x hx e (j9 _ _ he)) (fun e he=>by rw[show({q with known:=q.known.set r 0}:fD).epoch=p.epoch from e3];exact h.inv.ep r x hx e (j9 _ _ he))
  (fun j y n e f hj hy h4 h5 hef=>by
   obtain⟨h6,h7⟩:=hgt h4
   have:=h.inv.lm r j x y n e f hx (by rw[<-e1];exact hy) h6 h5 hef
   dsimp only
   rw[dk,bu I];exact this)
  (fun l y n e hl hlr hy h4 hee=>by
   obtain⟨h6,h7⟩:=hgt h4
   have:=hqe.inv.cur l y r x n e hl hy hxq h6 hee
   exact this) (fun hl=>absurd hl hql) ?_ (fun hi=> ?_) (fun l y v hl hlr hy hv=> ?_) (fun hl=>absurd hl hql) (fun hl=>absurd hl hql) (fun hl=>absurd hl hql)
 subst hq;exact h3
 obtain⟨h4,h5⟩:=h.inv.hi r x hx
 dsimp only
 have h6:(min x.high (c:Int)).toNat<=x.high.toNat:=by omega
 refine⟨by omega,?_⟩
 rw[dk,bu I]
 exact Aa h5 h6
 obtain⟨h4,h5⟩:=h.inv.keep r x hx (by rw[<-e2];exact hi)
 dsimp only
 exact⟨by omega,by rw[dk,bu I];exact h5⟩
 dsimp only at hv
 rw[al hkn]at hv
 cases hv
 simp
end
section
variable {Φ:cz->Prop} {K:List cz} {m n:Nat} {few:Int} {p:fD} {r:Nat}
theorem NC (h:Gd Φ K m n few p) (he:(oe p r).2=0): ∃ K',K<+:K'/\Gd Φ K' m n few (oe p r).1:=by
 obtain⟨x,hx,hu,hi,hS⟩:=Fd he
 rw[hS]
 have hlr:p.leader≠r:=fun hl=>by
  have:=(h.ok.lead r x hl hx).2
  rw[hu]at this;cases this
 have h1:Gd Φ K m n few {p with isr:=p.isr.set r false}:=
  ⟨HC h.ok (ae ..) hi (fun l hl=>by
   have hlt:l<p.reps.length:=by have:=h.ok.ld1;omega
   rw[bQ (by rintro rfl;exact hlr hl)]
   exact(h.ok.lead l _ hl (ah hlt)).1),h.inv.isrF r,h.small,h.ents,h.len,h.few⟩
 have h2:=h1.setK0 r
 have hkn:r<p.known.length:=by rw[h.ok.knownl];exact(cC hx).1
 have hil:r<p.isr.length:=by rw[h.ok.isrl];exact(cC hx).1
 refine⟨K,fz K,?_⟩
 have h3:=h2.set (x':=⟨false,[],0,0⟩) hx ⟨GL.of (by simp) (by simp) (by simp),by simp,by simp⟩ (fun hl=>absurd hl hlr) (by simp) (by simp) (by simp) (fun j y n e f hj hy h4=>by simp at h4) (fun l y n e hl hlr hy h4=>by simp at h4) (fun hl=>absurd hl hlr) (by simp) (fun hi=> ?_) (fun l y v hl hlr hy hv=> ?_) (fun hl=>absurd hl hlr) (fun hl=>absurd hl hlr) (fun hl=>absurd hl hlr)
 exact h3
 dsimp only at hi
 rw[al hil]at hi
 cases hi
 dsimp only at hv
 rw[al hkn]at hv
 cases hv
 simp
theorem JC (h:Gd Φ K m n few p) (he:(hZ p r).2=0): ∃ K',K<+:K'/\Gd Φ K' m n few (hZ p r).1:=by
 obtain⟨h0,hne,hS⟩:=Am he
 rw[hS]
 obtain⟨l,hl⟩: ∃ l:Nat,p.leader=l:=⟨p.leader.toNat,by omega⟩
 have hlt:l<p.reps.length:=by have:=h.ok.ld1;omega
 have hli:=(h.ok.lead l _ hl (ah hlt)).1
 have hlr:r≠l:=by omega
 have h1:Gd Φ K m n few {p with isr:=p.isr.set r false}:=
  ⟨HC h.ok (ae ..) (ab (i:=l) (by rw[bQ hlr];exact hli)) (fun l' hl'=>by
   have:l'=l:=by omega
   subst this
   rw[bQ hlr];exact hli),h.inv.isrF r,h.small,h.ents,h.len,h.few⟩
 exact h1.adv
theorem Kn (h:Gd Φ K m n few p) (he:(fT p r).2=0): ∃ K',K<+:K'/\Gd Φ K' m n few (fT p r).1:=by
 obtain⟨x,hx,h0,hne,hu,hk,hS⟩:=BA he
 rw[hS]
 obtain⟨l,hl⟩: ∃ l:Nat,p.leader=l:=⟨p.leader.toNat,by omega⟩
 obtain⟨y,hy⟩: ∃ y,p.reps[l]? =some y:=⟨_,ah (by have:=h.ok.ld1;omega)⟩
 have hli:=(h.ok.lead l y hl hy).1
 have hlr:r≠l:=by omega
 have hho:sQ p=y.high:=by
  unfold sQ
  rw[show p.leader.toNat=l by omega,hy]
 obtain⟨v,hv⟩: ∃ v,p.known[r]? =some v:=⟨_,ah (by rw[h.ok.knownl];exact(cC hx).1)⟩
 have hkg:p.known.getD r 0=v:=by rw[bY,hv];rfl
 rw[hho,hkg]at hk
 have hb:=h.inv.base l y hl hy
 obtain⟨k1,k2,k3⟩:=h.inv.kn l y r x v hl hy hx hv
 obtain⟨k4,k5⟩:=h.inv.keep l y hy hli
 refine⟨K,fz K,⟨HC h.ok (ae ..) (ab (i:=r) (al (by rw[h.ok.isrl];exact(cC hx).1))) (fun l' hl'=>by
   have:l'=l:=by omega
   subst this
   rw[bQ hlr];exact hli),⟨h.inv.ep,h.inv.lm,h.inv.cur,h.inv.hi,fun i z hz hi=> ?_,h.inv.kn,h.inv.base⟩,h.small,h.ents,h.len,h.few⟩⟩
 rcases eZ hi with⟨rfl,_⟩|⟨_,hi⟩
 dsimp only at hz
 rw[hx]at hz;cases hz
 have h1:K.length<=v.toNat:=by omega
 exact⟨by omega,by rw[Aa k3 h1];exact k5⟩
 exact h.inv.keep i z hz hi
theorem M3 (h:Gd Φ K m n few p) (he:(fU p r).2=0): ∃ K',K<+:K'/\Gd Φ K' m n few (fU p r).1:=by
 obtain⟨x,hx,hu,hi,hne,hep,hS⟩:=Dv h.ok.isrl he
 rw[hS]
 have hk:=h.ok.at_ hx
 have hsl:=hk.gl.sle
 have hln:=hk.gl.len
 obtain⟨k1,k2⟩:=h.inv.keep r x hx hi
 have hok1:=Oa h.ok (b:=(x.es.length:Nat)) hx hu hi hep I I
 have h1:Gd Φ K m n few {p with epoch:=p.epoch+1,leader:=(r:Nat),known:=(au p.reps.length 0).set r x.s,base:=(x.es.length:Nat)}:=by
  refine⟨FU hok1 (by simp[h.ok.knownl]) (fun v hv=> ?_),⟨fun i y hy e he=> ?_,h.inv.lm,fun l y i z j e hl hy hz hj hee=> ?_,h.inv.hi,h.inv.keep,fun l y i z v hl hy hz hv=> ?_,fun l y hl hy=> ?_⟩,h.small,h.ents,h.len,h.few⟩
  rcases aM hv with hv|rfl
  rw[dg hv];omega
  omega
  have:=h.inv.ep i y hy e he;dsimp only;omega
  have:=h.inv.ep i z hz e (ab hj);dsimp only at hee;omega
  dsimp only at hl hy hz hv
  have:l=r:=by omega
  subst this
  rw[hx]at hy;cases hy
  rcases eZ hv with⟨rfl,rfl⟩|⟨_,hv⟩
  rw[hx]at hz;cases hz
  simp;omega
  have:=dg (ab hv)
  subst this
  simp
  dsimp only at hl hy⊢
  have:l=r:=by omega
  subst this
  rw[hx]at hy;cases hy
  omega
 exact h1.adv
theorem PA {e:cz} (h:Gd Φ K m n few p) (hΦ:Φ {e with epoch:=p.epoch}) (hm:m<400) (he:(er p e).2.2=0): ∃ K',K<+:K'/\Gd Φ K' (m+1) n few (er p e).1:=by
 obtain⟨x,l,hl,hx,hg,-,hS⟩:=Ea he
 rcases hS with⟨-,hS,-⟩|⟨-,-,hS,-⟩
 rw[hS];exact⟨K,fz K,h.mono (bC m)⟩
 rw[hS]
 have hk:=h.ok.at_ hx
 have hsm:=h.small l x hx
 have hm1:=h.mono (bC m)
 have hlu:=(h.ok.lead l x hl hx).2
 have happ: ∀ {j:Nat} {f:cz},(x.es++[{e with epoch:=p.epoch}])[j]? =some f->x.es[j]? =some f∨(j=x.es.length/\f={e with epoch:=p.epoch}):=fun{j f} hj=>by
  by_cases hjl:j<x.es.length
  rw[cu hjl]at hj;exact .inl hj
  have h1:=(aA.1 hj).1
  simp at h1
  have:j=x.es.length:=by omega
  subst this
  simp at hj
  exact .inr ⟨rfl,hj.symm⟩
 have htk: ∀ j,j<=x.es.length->(x.es++[{e with epoch:=p.epoch}]).take j=x.es.take j:=fun j hj=>iu hj
 have hhi:=hk.high1
 have hh0:=hk.high0
 have hsl:=hk.gl.sle
 refine⟨K,fz K,hm1.set (x':={x with es:=x.es++[{e with epoch:=p.epoch}]}) hx ⟨GL.of (fun f hf=> ?_) (by simp;omega) (by simp;omega),hh0,by simp;omega⟩ (fun _=>hlu) (by simp;omega) (fun f hf=> ?_) (fun f hf=> ?_) (fun j y i e' f hj hy h4 h5 hef=> ?_) (fun l' y i e' h1 h2=>absurd I h2) (fun _=>by simp) ?_ (fun hi=> ?_) (fun l' y v h1 h2=>absurd I h2) (fun _ i z v hi hz hv=> ?_) (fun _ v hv=> ?_) (fun _=>h.inv.base l x hl hx)⟩
 rcases ap.1 hf with hf|hf
 exact hk.gl.good f hf
 rw[aq.1 hf];exact hg
 rcases ap.1 hf with hf|hf
 exact h.ents l x hx f hf
 rw[aq.1 hf];exact hΦ
 rcases ap.1 hf with hf|hf
 exact h.inv.ep l x hx f hf
 rw[aq.1 hf];exact fj _
 rcases happ h4 with h6|⟨rfl,rfl⟩
 have:=h.inv.lm l j x y i e' f hx hy h6 h5 hef
 dsimp only
 rw[htk _ (by have:=(cC h6).1;omega)];exact this
 have:=h.inv.cur l x j y _ f hl hx hy h5 hef.symm
 omega
 obtain⟨h1,h2⟩:=h.inv.hi l x hx
 exact⟨h1,by dsimp only;rw[htk _ I];exact h2⟩
 obtain⟨h1,h2⟩:=h.inv.keep l x hx hi
 exact⟨h1,by dsimp only;rw[htk _ I];exact h2⟩
 obtain⟨h1,h2,h3⟩:=h.inv.kn l x i z v hl hx hz hv
 exact⟨by simp;omega,by dsimp only;rw[htk _ h2];exact h3⟩
 obtain⟨h1,h2,h3⟩:=h.inv.kn l x l x v hl hx hx hv
 exact⟨h1,by simp;omega⟩
theorem FY: ∀ {a b:List cz} {k:Nat},k<=a.length->a.take k=b.take k->k<=ei a b
 |_,_,0,_,_=>bG _
 |[],_,k+1,h,_=>by simp at h
 |a::l,[],k+1,_,h=>by simp at h
 |a::l,b::m,k+1,hl,h=>by
  simp at h
  obtain⟨rfl,h⟩:=h
  unfold ei
  rw[if_pos Z]
  have:=FY (by simpa using hl) h
  omega
theorem wd: ∀ {a b:List cz} {k:Nat},k<ei a b-> ∃ e f,a[k]? =some e/\b[k]? =some f/\e.epoch=f.epoch
 |[],_,_,h=>by simp[ei]at h
 |_::_,[],_,h=>by simp[ei]at h
 |a::l,b::m,k,h=>by
  unfold ei at h
  split at h
  rename_i hab
  cases k with
  |zero=>exact⟨a,b,rfl,rfl,hab⟩
  |succ k=>
   obtain⟨e,f,h1,h2,h3⟩:=wd (a:=l) (b:=m) (k:=k) I
   exact⟨e,f,h1,h2,h3⟩
  omega
theorem MS (h:Gd Φ K m n few p) (he:(jc p r).2.2=0): ∃ K',K<+:K'/\Gd Φ K' m n few (jc p r).1:=by
 obtain⟨x,y,l,hx,hl,hne,hu,hy⟩:=yu h.ok he
 rw[r8 hx hl hne hu hy]
 have hkx:=h.ok.at_ hx
 have hky:=h.ok.at_ hy
 have hle:=uT x.es y.es
 have hge:=fun k h1 h2=>FY (a:=x.es) (b:=y.es) (k:=k) h1 h2
 have hpre:x.es.take (ei x.es y.es)=y.es.take (ei x.es y.es):=by
  cases hc:ei x.es y.es with
  |zero=>simp
  |succ c=>
   obtain⟨e,f,h1,h2,h3⟩:=wd (a:=x.es) (b:=y.es) (k:=c) I
   exact h.inv.lm r l x y c e f hx hy h1 h2 h3
 generalize hc:ei x.es y.es=c at*
 have hlen:(x.es.take c).length=c:=by rw[aI];omega
 have hsx:=hkx.gl.sle
 have hxh0:=hkx.high0
 have hyh0:=hky.high0
 have hyh1:=hky.high1
 have hyl:=hky.gl.len
 have hkn:r<p.known.length:=by rw[h.ok.knownl];exact(cC hx).1
 have hlr:p.leader≠(r:Nat):=by omega
 obtain⟨hb1,hb2⟩:=h.inv.keep l y hy (h.ok.lead l y hl hy).1
 have key: ∀ {K:List cz} {q:fD} {x0:RA} (x1:RA) (c':Nat) (y':RA),Gd Φ K m n few q->q.reps[r]? =some x0->q.leader=l->q.reps[l]? =some y'->y'.es=y.es->q.epoch=p.epoch->x1.es=y.es.take c'->c'<=y.es.length->x1.s<=c'->0<=x1.high->x1.high<=c'->x1.high.toNat<=K.length->
   (q.isr[r]? =some true->K.length<=x1.s)->(∀ v:Int,q.known[r]? =some v->v.toNat<=x1.s)->Gd Φ K m n few {q with reps:=q.reps.set r x1}:=by
  intro K q x0 x1 c' y' hq hx0 hql hqy hye hqe h1 hc' h2 h3 h4 h5 h6 h7
  have hqlr:q.leader≠(r:Nat):=by omega
  obtain⟨hb3,hb4⟩:=hq.inv.keep l y' hqy (hq.ok.lead l y' hql hqy).1
  have hKl:K.length<=y.es.length:=by have:=(hq.ok.at_ hqy).gl.sle;rw[hye]at this;omega
  rw[hye]at hb4
  have hmem: ∀ e∈x1.es,e∈y'.es:=fun e he=>by rw[h1]at he;rw[hye];exact j9 _ _ he
  have hget: ∀ {j:Nat} {e:cz},x1.es[j]? =some e->y.es[j]? =some e/\j<c':=fun{j e} hj=>by
   rw[h1,dm]at hj
   split at hj
   exact⟨hj,by assumption⟩
   cases hj
  have hKt: ∀ k,k<=K.length->y.es.take k=K.take k:=fun k hk=>by
   have:=congrArg (tc k) hb4
   rwa[dk,bu hk]at this
  have hx1l:x1.es.length=c':=by rw[h1,aI];omega
  refine hq.set hx0 ⟨GL.of (fun e he=>(hq.ok.at_ hqy).gl.good e (hmem e he)) I I,h3,by omega⟩ (fun hl=>absurd hl hqlr) (by have:=hq.small l y' hqy;rw[hye]at this;omega) (fun e he=>hq.ents l y' hqy e (hmem e he)) (fun e he=>hq.inv.ep l y' hqy e (hmem e he)) (fun j z i e f hj hz h8 h9 hef=> ?_) (fun l' z i e hl' hlr' hz h8 hee=> ?_) (fun hl=>absurd hl hqlr) ⟨h5,?_⟩ (fun hi=>⟨h6 hi,?_⟩) (fun l' z v hl' hlr' hz hv=> ?_) (fun hl=>absurd hl hqlr) (fun hl=>absurd hl hqlr) (fun hl=>absurd hl hqlr)
  obtain⟨h10,h11⟩:=hget h8
  have:=hq.inv.lm l j y' z i e f hqy hz (by rw[hye];exact h10) h9 hef
  rw[h1,dk,bu I,<-hye];exact this
  have:l'=l:=by omega
  subst this
  rw[hqy]at hz;cases hz
  rw[hye]
  exact(cC (hget h8).1).1
  rw[h1,dk,bu I]
  exact hKt _ h5
  have:=h6 hi
  rw[h1,dk,bu I];exact hb4
  have:l'=l:=by omega
  subst this
  rw[hqy]at hz;cases hz
  have:=h7 v hv
  exact⟨this,by rw[hye];omega,by rw[h1,dk,bu I,hye]⟩
 have hKc:p.isr[r]? =some true->K.length<=min x.s c:=fun hi=>by
  obtain⟨h1,h2⟩:=h.inv.keep r x hx hi
  have:=hge K.length I (by rw[h2,hb2])
  omega
 obtain⟨hhx1,hhx2⟩:=h.inv.hi r x hx
 have hmx:min x.s c<=c:=by omega
 have g1:=h.setK0 r
 have g2:=key (K:=K) (q:={p with known:=p.known.set r 0}) (x0:=x) ⟨x.up,y.es.take c,min x.s c,min x.high c⟩ c y g1 hx hl hy Z Z Z hle.2 hmx (by dsimp only;omega) (by dsimp only;omega) (by dsimp only;omega) hKc (fun v hv=>by
  dsimp only at hv
  rw[al hkn]at hv
  cases hv;simp)
 have hx2:(p.reps.set r ⟨x.up,y.es.take c,min x.s c,min x.high c⟩)[r]? =some ⟨x.up,y.es.take c,min x.s c,min x.high c⟩:=al (cC hx).1
 have hy2:(p.reps.set r ⟨x.up,y.es.take c,min x.s c,min x.high c⟩)[l]? =some y:=by rw[bQ hne];exact hy
 have g3:Gd Φ K m n few {p with reps:=p.reps.set r ⟨x.up,y.es.take c,min x.s c,min x.high c⟩,known:=p.known.set r (min x.s c:Nat)}:=by
  refine⟨?_,?_,g2.small,g2.ents,g2.len,g2.few⟩
  have:=Ed g2.ok r (v:=(min x.s c:Nat)) I (by have:=hky.gl.len;omega)
  dsimp only at this
  rw[fy]at this
  exact this
  have:=g2.inv.setK (r:=r) (w:=(min x.s c:Nat)) fun l' z z2 hl' hz hz2=>by
   dsimp only at hl' hz hz2
   have:l'=l:=by omega
   subst this
   rw[hy2]at hz;cases hz
   rw[hx2]at hz2;cases hz2
   dsimp only
   simp only[uE]
   refine⟨ao _,by omega,by rw[dk,bu hmx]⟩
  dsimp only at this
  rw[fy]at this
  exact this
 obtain⟨K',hK',g4⟩:=g3.adv
 rw[xK (p:={p with reps:=p.reps.set r ⟨x.up,y.es.take c,min x.s c,min x.high c⟩,known:=p.known.set r (min x.s c:Nat)}) (l:=l) (r:=y) hl hy2]at g4
 generalize hH:max y.high (min (dv p.isr (p.known.set r (min x.s c:Nat)) 400) y.es.length)=H at*
 have hy4:((p.reps.set r ⟨x.up,y.es.take c,min x.s c,min x.high c⟩).set l {y with high:=H})[l]? =some {y with high:=H}:=al (by rw[ae];exact(cC hy).1)
 have hx4:((p.reps.set r ⟨x.up,y.es.take c,min x.s c,min x.high c⟩).set l {y with high:=H})[r]? =some ⟨x.up,y.es.take c,min x.s c,min x.high c⟩:=by rw[bQ (Ne.symm hne)];exact hx2
 have hK'l:K.length<=K'.length:=hK'.length_le
 have hHK:H.toNat<=K'.length:=(g4.inv.hi l _ hy4).1
 have hset: ∀ x1:RA,(((p.reps.set r ⟨x.up,y.es.take c,min x.s c,min x.high c⟩).set l {y with high:=H}).set r x1)=(p.reps.set l {y with high:=H}).set r x1:=fun x1=>by
  rw[BY _ _ (Ne.symm hne),fy,BY _ _ hne]
 have hK'c:p.isr[r]? =some true->K'.length<=min x.s c:=fun hi=>(g4.inv.keep r _ hx4 hi).1
 have hknr: ∀ v:Int,(p.known.set r (min x.s c:Nat))[r]? =some v->v.toNat<=min x.s c:=fun v hv=>by
  rw[al hkn]at hv
  cases hv;simp
 refine⟨K',hK',?_⟩
 unfold jn
 rw[hc]
 cases hz:y.es[c]? with
 |none=>
  have g5:=key ⟨x.up,x.es.take c,min x.s c,min (max x.high H) (c:Nat)⟩ c {y with high:=H} g4 hx4 hl hy4 Z Z hpre hle.2 hmx (by dsimp only;omega) (by dsimp only;omega) (by dsimp only;omega) hK'c hknr
  dsimp only at g5⊢
  rw[hset]at g5
  exact g5
 |some z=>
  have hzl:=(cC hz).1
  have hes:x.es.take c++[z]=y.es.take (c+1):=by rw[hpre,List.take_add_one,hz];rfl
  have g5:=key ⟨x.up,x.es.take c++[z],min x.s c,min (max x.high H) ((c:Nat)+1)⟩ (c+1) {y with high:=H} g4 hx4 hl hy4 Z Z hes I (by dsimp only;omega) (by dsimp only;omega) (by dsimp only;omega) (by dsimp only;omega) hK'c hknr
  dsimp only at g5⊢
  rw[hset]at g5
  exact g5
theorem Ef {n few:Nat} (h1:1<=n) (h5:n<=5) (hf:1<=few) (hfn:few<=n):Gd Φ [] 0 n few (mL n few):=by
 have hr: ∀ (i:Nat) (x:RA),(mL n few).reps[i]? =some x->x=⟨true,[],0,0⟩:=fun i x hx=>dg (ab hx)
 refine⟨⟨by simp[mL]<;>omega,by simp[mL]<;>omega,by simp[mL]<;>omega,by simp[mL]<;>omega,by simp[mL]<;>omega,by simp[mL]<;>omega,by simp[mL]<;>omega,by simp[mL]<;>omega,by simp[mL]<;>omega,by simp[mL]<;>omega,by simp[mL]<;>omega,by simp[mL]<;>omega,by simp[mL]<;>omega,fun l r hl=>by simp[mL]at hl<;>omega,fun r hr=> ?_,fun v hv=> ?_⟩,⟨fun i x hx=>by rw[hr i x hx];simp,fun i j x y k e f hx hy he=>by rw[hr i x hx]at he;simp at he,fun l y i x k e hl=>by simp[mL]at hl<;>omega,fun i x hx=>by rw[hr i x hx];simp,fun i x hx _=>by rw[hr i x hx];simp,fun l y i x v hl=>by simp[mL]at hl<;>omega,fun l y hl=>by simp[mL]at hl<;>omega⟩,fun i x hx=>by rw[hr i x hx];simp,fun i x hx=>by rw[hr i x hx];simp,by simp[mL]<;>omega,rfl⟩
 rw[dg hr]
 exact⟨GL.of (by simp) (by simp) (by simp),by simp,by simp⟩
 rw[dg hv];omega
end

def QV:Deep Pa:=⟨fun p=>p.rd,fun _ _ _ _ _ hk h=>h.st hk,fun _ _ _ _ _ _ h h1 h2=>h.mono h1 h2⟩
/-- a producer's transactions, and where its parts lie -/
structure Tx where
 name:ByteArray
 pid:Int
 ver:Int
 state:Int
 parts:List Int
 since:Int
 done:Int
 A:Option Addr
 cap:Nat
def Tx.c (t:Tx):List Value:=[.string t.name,.int .i64 t.pid,.int .i64 t.ver,.int .i64 t.state,.slice t.A t.parts.length t.cap,.int .i64 t.since,.int .i64 t.done]
abbrev Tx.v (t:Tx):Value:=.agg t.c.toArray
def rP:fq Tx:=⟨Tx.c,7,fun _=>rfl,by decide,fun a u hu=>by
 simp only[Tx.c,ax,bU,or_false]at hu
 rcases hu with h|h|h|h|h|h|h<;>subst h<;>rfl⟩
def rq (c:UInt8):Bool:=decide (97<=(c.toNat:Int))&&decide ((c.toNat:Int)<=122)
def bL (s:ByteArray):Bool:=decide (s≠⟨#[]⟩)&&decide ((s.size:Int)<=8)&&s.data.toList.all rq
def cT:Int->List Int->Bool
 |_,[]=>true
 |last,p::l=>decide (last<p)&&decide (p<4)&&cT p l
def fN (clock next:Int) (t:Tx):Bool:=bL t.name&&decide (1<=t.pid)&&decide (t.pid<next)&&iK t.ver&&decide (1<=t.state)&&decide (t.state<=4)&&decide (0<=t.since)&&decide (t.since<=clock)&&(decide (t.done=0)||decide (t.done=3)||decide (t.done=4))
 &&cT (-1) t.parts&&(decide (t.state=1)==decide (t.parts.length=0))
theorem cv {ck nx:Int} {t:Tx}:fN ck nx t=true↔bL t.name=true/\1<=t.pid/\t.pid<nx/\iK t.ver=true/\1<=t.state/\t.state<=4/\0<=t.since/\t.since<=ck/\(t.done=0∨t.done=3∨t.done=4)/\cT (-1) t.parts=true/\(t.state=1↔t.parts.length=0):=by
 unfold fN
 simp only[aR,rQ,decide_eq_true_eq,beq_iff_eq,decide_eq_decide,and_assoc,or_assoc]
theorem xc (es:List UInt8) (A:Option Addr) (c:Nat) (w:World) (hr:Rd dC 0 w.heap.size A es w) (hb:es.length<=1000000) (f:FuncId) (cap:List Value) (hf:bk aa f=true) (pred:UInt8->Bool)
  (hp: ∀ e w',e∈es->Below w.heap.size w w'->dh aa f (.int .u8 (e.toNat:Nat)::cap) w' fun v w2=>v=.bool (pred e)/\Below w'.heap.size w' w2):
  dh aa oz [.slice A es.length c,.func (.func f) #[] cap.toArray] w fun v w2=>v=J (lL (es.findIdx? pred))/\Below w.heap.size w w2:=by
 refine aE nK Z Z ?_
 have H:=Hp.startRd hr
 refine W<|Zr<|G (Wi Z)<|U<|W<|W<|Zr<|G (Ys Z)<|G (br eO Z)<|G (Yi Z)<|U<|Zb ?_
 refine cD (τ:=Nat) [4,5,8,9,10,11,12,13,14,15,16,17,18] (fun k=>[(8,J (k:Nat))]) (fun k w'=>k<=es.length/\(∀ j e,j<k->es[j]? =some e->pred e=false)/\Hp w w' [] [dU dC 0 w.heap.size A es]) (fun k=>es.length-k) 0 ⟨by omega,by intro j e hj;omega,H⟩ (dP Z) ?_
 rintro k ρ1 w1 ⟨hk,hno,H⟩
 show CW _ _ _ _ (dH (gZ _ _ ρ1) [(8,J (k:Nat))]) w1
 refine W<|Zr ?_
 refine cW (cK Z Z) Z Z Z (fun h9=> ?_) (fun h9=> ?_)
 refine U<|W<|ZT Z<|Zk<|W<|Zb<|W<|Zr<|G (Yi Z)<|G (Wi Z)<|U<|W<|Zr<|G (tg Z)<|G (Ys Z)<|G (Yi Z)<|qB H 0 Z ec Z Z I I Z fun b2 o2 x2 e2=>G (aW mJ Z (e2.cl 0 _ Z)) ?_
 refine OQ hf Z (hp x2 _ (ab e2.at_) H.below) Z Z ?_;rintro _ w3 ⟨rfl,hb2⟩;replace H:=H.later hb2;clear hb2
 refine mM 16 Z (fun h16=> ?_) (fun h16=> ?_)
 refine U<|ZT Z<|W<|Zr<|G (Yi Z)<|G (Wi Z)<|U<|Zt ?_
 have hi:es.findIdx? pred=some k:=by
  rw[aS]
  obtain⟨hl,hx⟩:=cC e2.at_
  exact⟨hl,by rw[hx];exact h16,fun j hj=>by rw[hno j _ hj (ah I)];simp⟩
 exact cH (v:=J (k:Nat)) Z Z ⟨by rw[hi];rfl,H.below⟩
 refine U<|ZF Z<|Zk<|Zr<|G (bw Z Z I I)<|G (Yi Z)<|U ?_
 refine⟨k+1,⟨by omega,fun j e hj he=> ?_,H⟩,dP Z,Qg,by show es.length- (k+1)<es.length-k;omega⟩
 by_cases hji:j<k
 exact hno j e hji he
 have:j=k:=by omega
 subst this;have he2:=e2.at_;rw[he]at he2;injection he2 with he2;subst he2;exact h16
 refine U<|W<|ZF Z<|Zx<|W<|Zr<|G (Wi Z)<|U<|Zt ?_
 have hi:es.findIdx? pred=none:=by
  rw[cV]
  intro e he
  obtain⟨j,hj⟩:=aT.1 he
  exact hno j e (by have:=(cC hj).1;omega) hj
 exact cH (v:=J (-1)) Z Z ⟨by rw[hi];rfl,H.below⟩
theorem oR (es:List UInt8) (A:Option Addr) (c:Nat) (w:World) (hr:Rd dC 0 w.heap.size A es w) (hb:es.length<=1000000) (f:FuncId) (cap:List Value) (hf:bk aa f=true) (pred:UInt8->Bool)
  (hp: ∀ e w',e∈es->Below w.heap.size w w'->dh aa f (.int .u8 (e.toNat:Nat)::cap) w' fun v w2=>v=.bool (pred e)/\Below w'.heap.size w' w2):
  dh aa mP [.slice A es.length c,.func (.func f) #[] cap.toArray] w fun v w2=>v=.bool (es.any pred)/\Below w.heap.size w w2:=by
 refine aE mq Z Z ?_
 have H:=Hp.start w
 refine W<|Zr<|G (Wb Z)<|U<|W<|Zr<|G (Ys Z)<|G (tg Z)<|ch nU (xc es _ _ _ hr hb f cap hf pred hp) Z Z ?_
 rintro _ w1 ⟨rfl,hb⟩;replace H:=H.later hb;clear hb
 refine G (ko Z Z)<|G (Wb Z)<|U<|Zt ?_
 have hv:decide (0<=lL (es.findIdx? pred))=es.any pred:=by
  cases hi:es.findIdx? pred with
  |none=>rw[cV]at hi;simp[lL];exact fun a h=>hi a h
  |some i=>
   obtain⟨hl,h1,-⟩:=aS.1 hi
   have:es.any pred=true:=List.any_eq_true.2 ⟨_,vU hl,h1⟩
   rw[this];simp[lL]
 exact cH (v:=.bool (decide (0<=lL (es.findIdx? pred)))) Z Z ⟨by rw[hv],H.below⟩
theorem gf (es:List Tx) (A:Option Addr) (c:Nat) (w:World) (hr:Rd rP 0 w.heap.size A es w) (hb:es.length<=1000000) (f:FuncId) (cap:List Value) (hf:bk aa f=true) (pred:Tx->Bool)
  (hp: ∀ e w',e∈es->Below w.heap.size w w'->dh aa f (.agg (rP.f e).toArray::cap) w' fun v w2=>v=.bool (pred e)/\Below w'.heap.size w' w2):
  dh aa pM [.slice A es.length c,.func (.func f) #[] cap.toArray] w fun v w2=>v=J (lL (es.findIdx? pred))/\Below w.heap.size w w2:=by
 refine aE pj Z Z ?_
 have H:=Hp.startRd hr
 refine W<|Zr<|G (Wi Z)<|U<|W<|W<|Zr<|G (Ys Z)<|G (br ln Z)<|G (Yi Z)<|U<|Zb ?_
 refine cD (τ:=Nat) [4,5,8,9,10,11,12,13,14,15,16,17,18] (fun k=>[(8,J (k:Nat))]) (fun k w'=>k<=es.length/\(∀ j e,j<k->es[j]? =some e->pred e=false)/\Hp w w' [] [dU rP 0 w.heap.size A es]) (fun k=>es.length-k) 0 ⟨by omega,by intro j e hj;omega,H⟩ (dP Z) ?_
 rintro k ρ1 w1 ⟨hk,hno,H⟩
 show CW _ _ _ _ (dH (gZ _ _ ρ1) [(8,J (k:Nat))]) w1
 refine W<|Zr ?_
 refine cW (cK Z Z) Z Z Z (fun h9=> ?_) (fun h9=> ?_)
 refine U<|W<|ZT Z<|Zk<|W<|Zb<|W<|Zr<|G (Yi Z)<|G (Wi Z)<|U<|W<|Zr<|G (tg Z)<|G (Ys Z)<|G (Yi Z)<|qB H 0 Z gM Z Z I I Z fun b2 o2 x2 e2=>G (j7 (xs:=rP.f x2) zQ Z Z e2.cl) ?_
 refine OQ hf Z (hp x2 _ (ab e2.at_) H.below) Z Z ?_;rintro _ w3 ⟨rfl,hb2⟩;replace H:=H.later hb2;clear hb2
 refine mM 16 Z (fun h16=> ?_) (fun h16=> ?_)
 refine U<|ZT Z<|W<|Zr<|G (Yi Z)<|G (Wi Z)<|U<|Zt ?_
 have hi:es.findIdx? pred=some k:=by
  rw[aS]
  obtain⟨hl,hx⟩:=cC e2.at_
  exact⟨hl,by rw[hx];exact h16,fun j hj=>by rw[hno j _ hj (ah I)];simp⟩
 exact cH (v:=J (k:Nat)) Z Z ⟨by rw[hi];rfl,H.below⟩
 refine U<|ZF Z<|Zk<|Zr<|G (bw Z Z I I)<|G (Yi Z)<|U ?_
 refine⟨k+1,⟨by omega,fun j e hj he=> ?_,H⟩,dP Z,Qg,by show es.length- (k+1)<es.length-k;omega⟩
 by_cases hji:j<k
 exact hno j e hji he
 have:j=k:=by omega
 subst this;have he2:=e2.at_;rw[he]at he2;injection he2 with he2;subst he2;exact h16
 refine U<|W<|ZF Z<|Zx<|W<|Zr<|G (Wi Z)<|U<|Zt ?_
 have hi:es.findIdx? pred=none:=by
  rw[cV]
  intro e he
  obtain⟨j,hj⟩:=aT.1 he
  exact hno j e (by have:=(cC hj).1;omega) hj
 exact cH (v:=J (-1)) Z Z ⟨by rw[hi];rfl,H.below⟩
theorem vm (es:List Tx) (A:Option Addr) (c:Nat) (w:World) (hr:Rd rP 0 w.heap.size A es w) (hb:es.length<=1000000) (f:FuncId) (cap:List Value) (hf:bk aa f=true) (pred:Tx->Bool)
  (hp: ∀ e w',e∈es->Below w.heap.size w w'->dh aa f (.agg (rP.f e).toArray::cap) w' fun v w2=>v=.bool (pred e)/\Below w'.heap.size w' w2):
  dh aa nI [.slice A es.length c,.func (.func f) #[] cap.toArray] w fun v w2=>v=.bool (es.any pred)/\Below w.heap.size w w2:=by
 refine aE ng Z Z ?_
 have H:=Hp.start w
 refine W<|Zr<|G (Wb Z)<|U<|W<|Zr<|G (Ys Z)<|G (tg Z)<|ch dE (gf es _ _ _ hr hb f cap hf pred hp) Z Z ?_
 rintro _ w1 ⟨rfl,hb⟩;replace H:=H.later hb;clear hb
 refine G (ko Z Z)<|G (Wb Z)<|U<|Zt ?_
 have hv:decide (0<=lL (es.findIdx? pred))=es.any pred:=by
  cases hi:es.findIdx? pred with
  |none=>rw[cV]at hi;simp[lL];exact fun a h=>hi a h
  |some i=>
   obtain⟨hl,h1,-⟩:=aS.1 hi
   have:es.any pred=true:=List.any_eq_true.2 ⟨_,vU hl,h1⟩
   rw[this];simp[lL]
 exact cH (v:=.bool (decide (0<=lL (es.findIdx? pred)))) Z Z ⟨by rw[hv],H.below⟩
theorem BJ (n:Int) (w:World):dh aa Be [J n] w fun v w2=>v=.bool (iK n)/\Below w.heap.size w w2:=by
 refine aE zt Z Z ?_
 have H:=Hp.start w
 refine W<|Zr<|G (Wb Z)<|U<|W<|Zr<|G (Yi Z) ?_
 refine cW (ko Z Z) Z Z Z (fun h4=> ?_) (fun h4=> ?_)
 refine G (Yb Z)<|ZG<|G (Yi Z)<|ZG ?_
 refine cW (My Z Z) Z Z Z (fun h7=> ?_) (fun h7=> ?_)
 refine G (Kt Z Z)<|G (Wb Z)<|U<|Zt ?_
 have hv:iK n=true:=by unfold iK;simp;omega
 exact cH (v:=.bool true) Z Z ⟨by rw[hv],H.below⟩
 refine G (Kt Z Z)<|G (Wb Z)<|U<|Zt ?_
 have hv:iK n=false:=by unfold iK;simp;omega
 exact cH (v:=.bool false) Z Z ⟨by rw[hv],H.below⟩
 refine G (Yb Z)<|ZN<|ZN<|G (N Z Z)<|G (Wb Z)<|U<|Zt ?_
 have hv:iK n=false:=by unfold iK;simp;omega
 exact cH (v:=.bool false) Z Z ⟨by rw[hv],H.below⟩
theorem HF (c:UInt8) (w:World):dh aa tm [.int .u8 (c.toNat:Nat)] w fun v w2=>v=.bool (!rq c)/\Below w.heap.size w w2:=by
 refine aE yq Z Z ?_
 have H:=Hp.start w
 refine W<|Zr<|G (Wb Z)<|U<|W<|Zr<|G (Yi Z) ?_
 refine cW (cK Z Z) Z Z Z (fun h4=> ?_) (fun h4=> ?_)
 refine G (Yb Z)<|ZN<|ZN<|G (Kt Z Z)<|G (Wb Z)<|U<|Zt ?_
 have hv:(!rq c)=true:=by unfold rq;simp;omega
 exact cH (v:=.bool true) Z Z ⟨by rw[hv],H.below⟩
 refine G (Yb Z)<|ZG<|G (Yi Z)<|ZG ?_
 refine cW (km Z Z) Z Z Z (fun h7=> ?_) (fun h7=> ?_)
 refine G (N Z Z)<|G (Wb Z)<|U<|Zt ?_
 have hv:(!rq c)=true:=by unfold rq;simp;omega
 exact cH (v:=.bool true) Z Z ⟨by rw[hv],H.below⟩
 refine G (N Z Z)<|G (Wb Z)<|U<|Zt ?_
 have hv:(!rq c)=false:=by unfold rq;simp;omega
 exact cH (v:=.bool false) Z Z ⟨by rw[hv],H.below⟩
theorem Eh (s:ByteArray) (w:World):dh aa Ez [.string s] w fun v w2=>v=.bool (bL s)/\Below w.heap.size w w2:=by
 refine aE CB Z Z ?_
 have H:=Hp.start w
 refine W<|Zr<|G (Wb Z)<|U<|W<|W<|Zr<|G (Yt Z) ?_
 refine cW (v7 Z Z) Z Z Z (fun h4=> ?_) (fun h4=> ?_)
 refine G (Yb Z)<|ZN<|ZN<|ZN<|G (Kt Z Z)<|U<|ZT Z<|W<|Zr<|G (Wb Z)<|U<|Zt ?_
 have hv:bL s=false:=by unfold bL;simp;simp[h4]
 exact cH (v:=.bool false) Z Z ⟨by rw[hv],H.below⟩
 refine G (Yb Z)<|ZG<|G (Yt Z)<|ZG<|G (HP jy Z)<|ZG ?_
 refine cW (km Z Z) Z Z Z (fun h8=> ?_) (fun h8=> ?_)
 refine G (N Z Z)<|U<|ZT Z<|W<|Zr<|G (Wb Z)<|U<|Zt ?_
 have hv:bL s=false:=by unfold bL;simp;omega
 exact cH (v:=.bool false) Z Z ⟨by rw[hv],H.below⟩
 refine G (N Z Z)<|U<|ZF Z<|Zk<|W<|Zr<|G (Yt Z)<|QE (Y:=dC) H jy ec iE Z (fun _=>rfl) Z Z fun w1 A11 c11 hc11 H=> ?_
 have hlen:s.data.toList.length=s.size:=by rw[cn];rfl
 refine ch iL (oR s.data.toList _ _ _ (H.rd0 0 Z) I tm [] yA (fun c=>!rq c) (fun e w2 _ _=>HF e w2)) Z Z ?_
 rintro _ w2 ⟨rfl,hb⟩;replace H:=H.later hb;clear hb
 refine G (dM Z)<|G (Wb Z)<|U<|Zt ?_
 have h8b:decide ((s.size:Int)<=8)=true:=decide_eq_true I
 have hv:bL s=!(s.data.toList.any fun c=>!rq c):=by unfold bL;rw[decide_eq_true h4,h8b,hJ,hJ,List.all_eq_not_any_not]
 exact cH (v:=.bool (!(s.data.toList.any fun c=>!rq c))) Z Z ⟨by rw[hv],H.below⟩
section
/-- an insertion sort's inner loop -/
def Al {α:Type} (lt:α->α->Bool):Nat->List α->List α
 |0,l=>l
 |j+1,l=>match l[j]?,l[j+1]? with
  |some a,some b=>if lt b a then Al lt j ((l.set (j+1) a).set j b)else l
  |_,_=>l
def ki {α:Type} (lt:α->α->Bool):Nat->List α->List α
 |0,l=>l
 |i+1,l=>Al lt i (ki lt i l)
theorem Fy {α:Type} {lt:α->α->Bool}: ∀ {j:Nat} {l:List α},(Al lt j l).length=l.length
 |0,_=>rfl
 |j+1,l=>by
  unfold Al
  split
  split
  rw[Fy];simp
  rfl
  rfl
theorem AY {α:Type} {lt:α->α->Bool}: ∀ {i:Nat} {l:List α},(ki lt i l).length=l.length
 |0,_=>rfl
 |i+1,l=>by unfold ki;rw[Fy,AY]
theorem IP {α:Type} {lt:α->α->Bool} {j:Nat} {l:List α} {a b:α} (ha:l[j]? =some a) (hb:l[j+1]? =some b) (h:lt b a=true):Al lt (j+1) l=Al lt j ((l.set (j+1) a).set j b):=by
 conv=>lhs;unfold Al
 rw[ha,hb]
 dsimp only
 rw[if_pos h]
theorem Db {α:Type} {lt:α->α->Bool} {j:Nat} {l:List α} {a b:α} (ha:l[j]? =some a) (hb:l[j+1]? =some b) (h:lt b a=false):Al lt (j+1) l=l:=by
 conv=>lhs;unfold Al
 rw[ha,hb]
 dsimp only
 rw[if_neg (by rw[h];decide)]
theorem xV {P:Program} {ρ:gY} {w:World} {t:TypeId} {p:String} {af:Array Edge} {g:Option (Nat×Bool)} {dst:Option Nat} {x y:Operand} {ty ty':TypeId} {a b:Int} (c:Int) (hx:ev ρ x=.int .i64 a) (hy:ev ρ y=.int .i64 b) (hc:a-b=c) (h1: -9000000000000000000<=c) (h2:c<=9000000000000000000):(execOp (ev ρ) (Og dst (.binOp .sub ty x y ty') t p af g)).run P w=.ok (.value (.int .i64 c)) w:=by
 subst hc
 exact jf hx hy h1 h2
theorem wu {α:Type} {m es:List α} {a b:Nat} (h:m.drop a=es.drop a) (hb:a<=b):m.drop b=es.drop b:=by
 have:=congrArg (List.drop (b-a)) h
 rw[kb,kb]at this
 rwa[show a+(b-a)=b by omega]at this
theorem C2 {α:Type} {l:List α} {k:Nat} (h:k<l.length) (a:α):(l.set k a).take (k+1)=l.take k++[a]:=by
 rw[eu (e:=a) (by rw[al h]),zS (ao k)]
theorem getD_some {α:Type} {l:List α} {i:Nat} (d:α) (h:i<l.length):l[i]? =some (l.getD i d):=by
 rw[bY,ah h];rfl
theorem Ly {α:Type} {lt:α->α->Bool} {es l:List α} {i n:Nat} (hl:l=ki lt i es) (h1:1<=i) (h2:i<=n+1) (h3:n≠0->i<=n) (h4:n<=i):l=ki lt n es:=by
 by_cases h0:n=0
 have:i=1:=by omega
 rw[hl,this,h0];rfl
 rw[hl,show i=n by omega]
section
variable {α:Type} {lt:α->α->Bool}
theorem Fz: ∀ (n:Nat) (p:List α) (x:α) (s:List α),p.length=n-> ∃ p1 p2,p=p1++p2/\Al lt n (p++x::s)=p1++x::p2++s/\(∀ y∈p2,lt x y=true)/\(∀ y,p1.getLast? =some y->lt x y=false)
 |0,p,x,s,h=>by
  rw[bT h]
  exact⟨[],[],rfl,rfl,by simp,by simp⟩
 |n+1,p,x,s,h=>by
  obtain⟨q,y,rfl⟩: ∃ q y,p=q++[y]:=⟨p.dropLast,p.getLast (by intro e;rw[e]at h;cases h),(List.dropLast_concat_getLast _).symm⟩
  have hq:q.length=n:=by simpa using h
  have ha:(q++[y]++x::s)[n]? =some y:=by rw[aD,bX (by omega),hq];simp
  have hb:(q++[y]++x::s)[n+1]? =some x:=by rw[aD,bX (by omega),hq];simp
  cases hl:lt x y with
  |false=>
   refine⟨q++[y],[],by simp,?_,by simp,?_⟩
   rw[Db ha hb hl];simp
   intro z hz
   simp only[List.getLast?_append,List.getLast?_singleton,Option.some_or,lB]at hz
   rw[<-hz];exact hl
  |true=>
   have hs:((q++[y]++x::s).set (n+1) y).set n x=q++x::(y::s):=by
    rw[aD,jk _ _ (by omega),jk _ _ (by omega),hq,my,show n+1-n=1 by omega]
    rfl
   obtain⟨p1,p2,hp,h1,h2,h3⟩:=Fz n q x (y::s) hq
   refine⟨p1,p2++[y],by rw[hp];simp,?_,?_,h3⟩
   rw[IP ha hb hl,hs,h1];simp
   intro z hz
   rcases ap.1 hz with hz|hz
   exact h2 z hz
   rw[aq.1 hz];exact hl
theorem AV: ∀ (i:Nat) (l:List α),i<=l.length-> ∃ p,ki lt i l=p++l.drop i/\p.Perm (l.take i)
 |0,l,_=>⟨[],by simp[ki],by simp⟩
 |i+1,l,h=>by
  obtain⟨p,h1,h2⟩:=AV i l (by omega)
  obtain⟨x,hx⟩: ∃ x,l[i]? =some x:=⟨_,ah (by omega)⟩
  have hl:p.length=i:=by rw[h2.length_eq,aI];omega
  obtain⟨p1,p2,hp,h4,-,-⟩:=Fz (lt:=lt) i p x (l.drop (i+1)) hl
  refine⟨p1++x::p2,?_,?_⟩
  unfold ki
  rw[h1,cP hx,h4]
  rw[eu hx]
  refine(qz).trans ?_
  rw[<-hp]
  exact(ai x h2).trans (mi x _).symm
theorem AU (l:List α):(ki lt l.length l).Perm l:=by
 obtain⟨p,h1,h2⟩:=AV (lt:=lt) l.length l (ao _)
 rw[fA,aZ]at h1
 rw[bN]at h2
 rw[h1];exact h2
end
theorem Hp.sealO {α:Type} {Y:fq α} {e:TypeId} {w0 w:World} {K L M:List (Nat×Obj)} {F:List cB} {A:Option Addr} {es:List α} {c:Nat} (H:Hp w0 w (K++L++M) F) (ho:gz Y (.slice A es.length c) e es L): ∃ lo hi,Hp w0 w (K++M) (dU Y lo hi A es::F):=by
 have H1:Hp w0 w (K++M) F:=H.forget (by rw[aD];exact(ar K).append (cr L M)) (fun _ h=>h)
 by_cases h0:es.length=0
 have:=bT h0
 subst this
 refine⟨0,0,H1.below,H1.ents,H1.nodup,fun f hf=> ?_⟩
 rcases ax.1 hf with rfl|hf
 exact⟨Rd.nil,bG _,fun x _=> .inr (bG _)⟩
 exact H1.facts f hf
 obtain⟨g,cur,rfl,rfl,row⟩:=ho.row (by omega)
 have hg:=H.ents (g,.cells cur e (0,0)) (by simp)
 refine⟨g,g+1,H1.below,H1.ents,H1.nodup,fun f hf=> ?_⟩
 rcases ax.1 hf with rfl|hf
 refine⟨row.rd hg.1,ce hg.1,fun x hx=> ?_⟩
 have hne:x.1≠g:=fun h=>by
  have hn:=H.nodup
  rw[aD,bl,bl,px]at hn
  obtain⟨n1,n2,n3⟩:=hn
  rcases ap.1 hx with hx|hx
  exact n3 x.1 (bS hx) g (by simp) h
  have:=(kX.1 n2).1
  have hm:=bS (f:=_root_.Prod.fst) hx
  rw[h]at hm
  exact this hm
 show x.1<g∨g+1<=x.1
 omega
 exact H1.facts f hf
theorem dX.clr {α:Type} {Y:fq α} {es:List α} {c k o:Nat} {cur:Array Value} {zs:List Value} (h:dX Y es c cur) (hk:k<=es.length) (ho:k*Y.sz<=o) (hz:o+zs.length<=cur.size):dX Y (es.take k) c (pf cur o zs):=by
 refine⟨by rw[jM hz,h.size],?_,by rw[aI];have:=h.le;omega,h.max⟩
 rw[aI,bu hk,AR ho (by omega),h.pre hk]
end
/-- a member, and where its parts lie -/
structure Mem where
 name:ByteArray
 heard:Int
 parts:List Int
 A:Option Addr
 cap:Nat
 lo:Nat
 hi:Nat
def Mem.c (m:Mem):List Value:=[.string m.name,J m.heard,.slice m.A m.parts.length m.cap]
def jW:fq Mem:=⟨Mem.c,3,fun _=>rfl,by decide,fun a u hu=>by
 simp only[Mem.c,ax,bU,or_false]at hu
 rcases hu with h|h|h<;>subst h<;>rfl⟩
structure mw where
 part:Int
 at_:Int
def mw.c (o:mw):List Value:=[J o.part,J o.at_]
def f6:fq mw:=⟨mw.c,2,fun _=>rfl,by decide,fun a u hu=>by
 simp only[mw.c,ax,bU,or_false]at hu
 rcases hu with h|h<;>subst h<;>rfl⟩
structure Gr where
 clock:Int
 wait:Int
 gen:Int
 ms:List Mem
 mA:Option Addr
 mC:Nat
 os:List mw
 oA:Option Addr
 oC:Nat
def Gr.c (g:Gr):List Value:=[J g.clock,J g.wait,J g.gen,.slice g.mA g.ms.length g.mC,.slice g.oA g.os.length g.oC]
abbrev Gr.v (g:Gr):Value:=.agg g.c.toArray
def Mem.a (m:Mem):Mem:={m with A:=none,cap:=0,lo:=0,hi:=0}
abbrev nE (m:Mem):cB:=dU bR m.lo m.hi m.A m.parts
def Gr.a (g:Gr):Gr:={g with ms:=g.ms.map Mem.a,mA:=none,mC:=0,oA:=none,oC:=0}
def vB (ck:Int) (m:Mem):Bool:=bL m.name&&decide (0<=m.heard)&&decide (m.heard<=ck)&&cT (-1) m.parts
def pI (m p:Mem):Bool:=decide (p.name=m.name)
def yf (ck:Int):List Mem->List Mem->Bool
 |_,[]=>true
 |pre,m::l=>vB ck m&&!(pre.any (pI m))&&yf ck (pre++[m]) l
def yc:Int->List mw->Bool
 |_,[]=>true
 |last,o::l=>decide (last<o.part)&&decide (o.part<4)&&decide (0<=o.at_)&&decide (o.at_<=400)&&yc o.part l
def lM (g:Gr):Bool:=iK g.clock&&decide (1<=g.wait)&&decide (g.wait<=1000)&&iK g.gen&&decide ((g.ms.length:Int)<=6)&&decide ((g.os.length:Int)<=4)&&yf g.clock [] g.ms&&yc (-1) g.os
theorem MJ {g:Gr}:lM g=true↔iK g.clock=true/\1<=g.wait/\g.wait<=1000/\iK g.gen=true/\(g.ms.length:Int)<=6/\(g.os.length:Int)<=4/\yf g.clock [] g.ms=true/\yc (-1) g.os=true:=by
 unfold lM
 simp only[aR,decide_eq_true_eq,and_assoc]
theorem jQ {ck:Int} {m:Mem}:vB ck m=true↔bL m.name=true/\0<=m.heard/\m.heard<=ck/\cT (-1) m.parts=true:=by
 unfold vB
 simp only[aR,decide_eq_true_eq,and_assoc]
def Jl (lo hi:Nat) (ms:List Mem):cB:=⟨lo,hi,fun w=> ∀ m∈ms,Rd bR lo hi m.A m.parts w,fun _ _ hk h m hm=>(h m hm).st hk⟩
theorem zL {w0 w:World} {L:List (Nat×Obj)} {F:List cB} {lo hi:Nat} {ms:List Mem} (H:Hp w0 w L F) (i:Nat) (hF:F[i]? =some (Jl lo hi ms)) {m:Mem} (hm:m∈ms):Rd bR 0 w.heap.size m.A m.parts w:=
 Rd.mono ((H.fact hF) m hm) (bG _) (H.facts _ (ab hF)).2.1
theorem Hp.mpRow {w0 w:World} {L:List (Nat×Obj)} {F:List cB} {lo hi:Nat} {ms:List Mem} (H:Hp w0 w L F) (i:Nat) (hF:F[i]? =some (Jl lo hi ms)) {m:Mem} (hm:m∈ms):Hp w0 w L (dU bR lo hi m.A m.parts::F):=by
 refine⟨H.below,H.ents,H.nodup,fun f hf=> ?_⟩
 rcases ax.1 hf with rfl|hf
 obtain⟨h1,h2,h3⟩:=H.facts _ (ab hF)
 exact⟨h1 m hm,h2,h3⟩
 exact H.facts f hf
structure Gr.rd (g:Gr) (lo hi:Nat) (w:World):Prop where
 row:Rd jW lo hi g.mA g.ms w
 parts: ∀ m∈g.ms,Rd bR lo hi m.A m.parts w
 offs:Rd f6 lo hi g.oA g.os w
 mC:g.ms.length<=g.mC
 oC:g.os.length<=g.oC
 few:g.ms.length<=1000000/\g.os.length<=1000000
 fewP: ∀ m∈g.ms,m.parts.length<=1000000/\m.parts.length<=m.cap
theorem Gr.rd.st {g:Gr} {lo hi:Nat} {w w':World} (hk: ∀ k,lo<=k->k<hi->w'.heap[k]? =w.heap[k]?) (h:g.rd lo hi w):g.rd lo hi w':=
 ⟨h.row.st hk,fun m hm=>(h.parts m hm).st hk,h.offs.st hk,h.mC,h.oC,h.few,h.fewP⟩
theorem Gr.rd.mono {g:Gr} {lo hi lo' hi':Nat} {w:World} (h:g.rd lo hi w) (hl:lo'<=lo) (hh:hi<=hi'):g.rd lo' hi' w:=
 ⟨h.row.mono hl hh,fun m hm=>(h.parts m hm).mono hl hh,h.offs.mono hl hh,h.mC,h.oC,h.few,h.fewP⟩
def R7 (lo hi:Nat) (g:Gr):cB:=⟨lo,hi,g.rd lo hi,fun _ _ hk h=>h.st hk⟩
theorem Hp.gr {w0 w:World} {L:List (Nat×Obj)} {F:List cB} {lo hi:Nat} {g:Gr} (H:Hp w0 w L F) (i:Nat) (hF:F[i]? =some (R7 lo hi g)):g.rd 0 w.heap.size w:=
 Gr.rd.mono (H.fact hF) (bG _) (H.facts _ (ab hF)).2.1
theorem Hp.startGr {g:Gr} {w:World} (h:g.rd 0 w.heap.size w):Hp w w [] [dU jW 0 w.heap.size g.mA g.ms,Jl 0 w.heap.size g.ms,dU f6 0 w.heap.size g.oA g.os]:=
 (((Hp.start w).learnOld (dU f6 0 w.heap.size g.oA g.os) h.offs (ao _)).learnOld (Jl 0 w.heap.size g.ms) h.parts (ao _)).learnOld (dU jW 0 w.heap.size g.mA g.ms) h.row (ao _)
def zf (w w2:World) (g:Gr):Prop:=g.rd w.heap.size w2.heap.size w2/\Below w.heap.size w w2
def B0:Gr:=⟨0,0,0,[],none,0,[],none,0⟩
theorem qN {w w2:World} (h:Below w.heap.size w w2):zf w w2 B0:=⟨⟨Rd.nil,by simp[B0],Rd.nil,by simp[B0],by simp[B0],by simp[B0],by simp[B0]⟩,h⟩
def rc (w w2:World) (ga g':Gr) (Lm Lo:List (Nat×Obj)):Prop:=g'.a=ga/\gz jW (.slice g'.mA g'.ms.length g'.mC) df g'.ms Lm/\gz f6 (.slice g'.oA g'.os.length g'.oC) ef g'.os Lo/\g'.ms.length<=g'.mC/\g'.os.length<=g'.oC/\(∀ m∈g'.ms,m.parts.length<=m.cap/\w.heap.size<=m.lo)/\Hp w w2 (Lm++Lo) (g'.ms.map nE)
theorem rc.new {w w2:World} {ga g':Gr} {Lm Lo:List (Nat×Obj)} (h:rc w w2 ga g' Lm Lo) (h1:g'.ms.length<=6) (h2:g'.os.length<=1000000) (h3: ∀ m∈g'.ms,m.parts.length<=4):zf w w2 g':=by
 obtain⟨_,a2,a3,a4,a5,a6,a8⟩:=h
 have h0:Hp w w2 (Lm++Lo) []:=a8.forget (ar _) (by simp)
 refine⟨⟨a2.rd (K:=[]) (M:=Lo) (by simpa using h0),fun m hm=> ?_,a3.rd (K:=Lm) (M:=[]) (by simpa using h0),a4,a5,by omega,fun m hm=>⟨by have:=h3 m hm;omega,(a6 m hm).1⟩⟩,a8.below⟩
 obtain⟨f1,f2,-⟩:=a8.facts (nE m) (bS hm)
 exact Rd.mono f1 (a6 m hm).2 f2
theorem FR {α:Type} {Y:fq α} {v:Value} {e:TypeId} {es:List α} {L:List (Nat×Obj)} (h:gz Y v e es L): ∀ x∈L,∃ cur,x.2=.cells cur e (0,0):=by
 rcases h.2 with⟨rfl,_⟩|⟨g,cap,cur,rfl,_⟩
 intro x hx;cases hx
 intro x hx;rw[aq.1 hx];exact⟨cur,rfl⟩
theorem Hp.join2 {α β:Type} {Y1:fq α} {Y2:fq β} {v1 v2:Value} {T1 T2:TypeId} {es1:List α} {es2:List β} {w0 w w':World} {L L1 L2:List (Nat×Obj)} {F:List cB} (H:Hp w0 w L F) (H1:Hp w w' L1 []) (H2:Hp w w' L2 []) (o1:gz Y1 v1 T1 es1 L1) (o2:gz Y2 v2 T2 es2 L2) (hT:ez T1 T2=false):Hp w0 w' (L++L1++L2) F:=by
 have HJ:=H.joinR H1
 rw[aZ]at HJ
 refine⟨HJ.below,fun e he=> ?_,?_,fun f hf=> ?_⟩
 rcases ap.1 he with he|he
 exact HJ.ents e he
 obtain⟨h1,h2⟩:=H2.ents e he
 exact⟨h1,aU H.size h2⟩
 rw[bl,px]
 refine⟨HJ.nodup,H2.nodup,fun a ha b hb hab=> ?_⟩
 obtain⟨x,hx,rfl⟩:=bp.1 ha
 obtain⟨y,hy,rfl⟩:=bp.1 hb
 have hy2:=H2.ents y hy
 rcases ap.1 hx with hx|hx
 have:=H.ltAll x hx;omega
 have hx2:=H1.ents x hx
 obtain⟨c1,e1⟩:=FR o1 x hx
 obtain⟨c2,e2⟩:=FR o2 y hy
 rw[e1]at hx2
 rw[e2]at hy2
 exact se hx2.1 hy2.1 hT hab
 obtain⟨h1,h2,h3⟩:=HJ.facts f hf
 refine⟨h1,h2,fun e he=> ?_⟩
 rcases ap.1 he with he|he
 exact h3 e he
 have:=(H.facts f hf).2.1
 have:=(H2.ents e he).2
 exact .inr I
theorem AF {F:List cB} {l:List Mem} {m:Mem} {f:cB} (h:f∈F++(l++[m]).map nE):f∈nE m::(F++l.map nE):=by
 simp only[bl,ey,mB,ap,ax,bU,or_false]at h⊢
 grind
theorem Gv (c:UInt8) (w:World):dh aa tl [.int .u8 (c.toNat:Nat)] w fun v w2=>v=.bool (!rq c)/\Below w.heap.size w w2:=by
 refine aE ym Z Z ?_
 have H:=Hp.start w
 refine W<|Zr<|G (Wb Z)<|U<|W<|Zr<|G (Yi Z) ?_
 refine cW (cK Z Z) Z Z Z (fun h4=> ?_) (fun h4=> ?_)
 refine G (Yb Z)<|ZN<|ZN<|G (Kt Z Z)<|G (Wb Z)<|U<|Zt ?_
 have hv:(!rq c)=true:=by unfold rq;simp;omega
 exact cH (v:=.bool true) Z Z ⟨by rw[hv],H.below⟩
 refine G (Yb Z)<|ZG<|G (Yi Z)<|ZG ?_
 refine cW (km Z Z) Z Z Z (fun h7=> ?_) (fun h7=> ?_)
 refine G (N Z Z)<|G (Wb Z)<|U<|Zt ?_
 have hv:(!rq c)=true:=by unfold rq;simp;omega
 exact cH (v:=.bool true) Z Z ⟨by rw[hv],H.below⟩
 refine G (N Z Z)<|G (Wb Z)<|U<|Zt ?_
 have hv:(!rq c)=false:=by unfold rq;simp;omega
 exact cH (v:=.bool false) Z Z ⟨by rw[hv],H.below⟩
theorem Gu (s:ByteArray) (w:World):dh aa Ev [.string s] w fun v w2=>v=.bool (bL s)/\Below w.heap.size w w2:=by
 refine aE Cx Z Z ?_
 have H:=Hp.start w
 refine W<|Zr<|G (Wb Z)<|U<|W<|W<|Zr<|G (Yt Z) ?_
 refine cW (v7 Z Z) Z Z Z (fun h4=> ?_) (fun h4=> ?_)
 refine G (Yb Z)<|ZN<|ZN<|ZN<|G (Kt Z Z)<|U<|ZT Z<|W<|Zr<|G (Wb Z)<|U<|Zt ?_
 have hv:bL s=false:=by unfold bL;simp;simp[h4]
 exact cH (v:=.bool false) Z Z ⟨by rw[hv],H.below⟩
 refine G (Yb Z)<|ZG<|G (Yt Z)<|ZG<|G (HP jy Z)<|ZG ?_
 refine cW (km Z Z) Z Z Z (fun h8=> ?_) (fun h8=> ?_)
 refine G (N Z Z)<|U<|ZT Z<|W<|Zr<|G (Wb Z)<|U<|Zt ?_
 have hv:bL s=false:=by unfold bL;simp;omega
 exact cH (v:=.bool false) Z Z ⟨by rw[hv],H.below⟩
 refine G (N Z Z)<|U<|ZF Z<|Zk<|W<|Zr<|G (Yt Z)<|QE (Y:=dC) H jy ec iE Z (fun _=>rfl) Z Z fun w1 A11 c11 hc11 H=> ?_
 have hlen:s.data.toList.length=s.size:=by rw[cn];rfl
 refine ch iL (oR s.data.toList _ _ _ (H.rd0 0 Z) I tl [] yy (fun c=>!rq c) (fun e w2 _ _=>Gv e w2)) Z Z ?_
 rintro _ w2 ⟨rfl,hb⟩;replace H:=H.later hb;clear hb
 refine G (dM Z)<|G (Wb Z)<|U<|Zt ?_
 have h8b:decide ((s.size:Int)<=8)=true:=decide_eq_true I
 have hv:bL s=!(s.data.toList.any fun c=>!rq c):=by unfold bL;rw[decide_eq_true h4,h8b,hJ,hJ,List.all_eq_not_any_not]
 exact cH (v:=.bool (!(s.data.toList.any fun c=>!rq c))) Z Z ⟨by rw[hv],H.below⟩
theorem fY (es:List Mem) (A:Option Addr) (c:Nat) (w:World) (hr:Rd jW 0 w.heap.size A es w) (hb:es.length<=1000000) (f:FuncId) (cap:List Value) (hf:bk aa f=true) (pred:Mem->Bool)
  (hp: ∀ e w',e∈es->Below w.heap.size w w'->dh aa f (.agg (jW.f e).toArray::cap) w' fun v w2=>v=.bool (pred e)/\Below w'.heap.size w' w2):
  dh aa mo [.slice A es.length c,.func (.func f) #[] cap.toArray] w fun v w2=>v=J (lL (es.findIdx? pred))/\Below w.heap.size w w2:=by
 refine aE lO Z Z ?_
 have H:=Hp.startRd hr
 refine W<|Zr<|G (Wi Z)<|U<|W<|W<|Zr<|G (Ys Z)<|G (br gB Z)<|G (Yi Z)<|U<|Zb ?_
 refine cD (τ:=Nat) [4,5,8,9,10,11,12,13,14,15,16,17,18] (fun k=>[(8,J (k:Nat))]) (fun k w'=>k<=es.length/\(∀ j e,j<k->es[j]? =some e->pred e=false)/\Hp w w' [] [dU jW 0 w.heap.size A es]) (fun k=>es.length-k) 0 ⟨by omega,by intro j e hj;omega,H⟩ (dP Z) ?_
 rintro k ρ1 w1 ⟨hk,hno,H⟩
 show CW _ _ _ _ (dH (gZ _ _ ρ1) [(8,J (k:Nat))]) w1
 refine W<|Zr ?_
 refine cW (cK Z Z) Z Z Z (fun h9=> ?_) (fun h9=> ?_)
 refine U<|W<|ZT Z<|Zk<|W<|Zb<|W<|Zr<|G (Yi Z)<|G (Wi Z)<|U<|W<|Zr<|G (tg Z)<|G (Ys Z)<|G (Yi Z)<|qB H 0 Z eG Z Z I I Z fun b2 o2 x2 e2=>G (j7 (xs:=jW.f x2) n6 Z Z e2.cl) ?_
 refine OQ hf Z (hp x2 _ (ab e2.at_) H.below) Z Z ?_;rintro _ w3 ⟨rfl,hb2⟩;replace H:=H.later hb2;clear hb2
 refine mM 16 Z (fun h16=> ?_) (fun h16=> ?_)
 refine U<|ZT Z<|W<|Zr<|G (Yi Z)<|G (Wi Z)<|U<|Zt ?_
 have hi:es.findIdx? pred=some k:=by
  rw[aS]
  obtain⟨hl,hx⟩:=cC e2.at_
  exact⟨hl,by rw[hx];exact h16,fun j hj=>by rw[hno j _ hj (ah I)];simp⟩
 exact cH (v:=J (k:Nat)) Z Z ⟨by rw[hi];rfl,H.below⟩
 refine U<|ZF Z<|Zk<|Zr<|G (bw Z Z I I)<|G (Yi Z)<|U ?_
 refine⟨k+1,⟨by omega,fun j e hj he=> ?_,H⟩,dP Z,Qg,by show es.length- (k+1)<es.length-k;omega⟩
 by_cases hji:j<k
 exact hno j e hji he
 have:j=k:=by omega
 subst this;have he2:=e2.at_;rw[he]at he2;injection he2 with he2;subst he2;exact h16
 refine U<|W<|ZF Z<|Zx<|W<|Zr<|G (Wi Z)<|U<|Zt ?_
 have hi:es.findIdx? pred=none:=by
  rw[cV]
  intro e he
  obtain⟨j,hj⟩:=aT.1 he
  exact hno j e (by have:=(cC hj).1;omega) hj
 exact cH (v:=J (-1)) Z Z ⟨by rw[hi];rfl,H.below⟩
theorem sZ (es:List Mem) (A:Option Addr) (c:Nat) (w:World) (hr:Rd jW 0 w.heap.size A es w) (hb:es.length<=1000000) (f:FuncId) (cap:List Value) (hf:bk aa f=true) (pred:Mem->Bool)
  (hp: ∀ e w',e∈es->Below w.heap.size w w'->dh aa f (.agg (jW.f e).toArray::cap) w' fun v w2=>v=.bool (pred e)/\Below w'.heap.size w' w2):
  dh aa lf [.slice A es.length c,.func (.func f) #[] cap.toArray] w fun v w2=>v=.bool (es.any pred)/\Below w.heap.size w w2:=by
 refine aE kO Z Z ?_
 have H:=Hp.start w
 refine W<|Zr<|G (Wb Z)<|U<|W<|Zr<|G (Ys Z)<|G (tg Z)<|ch dq (fY es _ _ _ hr hb f cap hf pred hp) Z Z ?_
 rintro _ w1 ⟨rfl,hb⟩;replace H:=H.later hb;clear hb
 refine G (ko Z Z)<|G (Wb Z)<|U<|Zt ?_
 have hv:decide (0<=lL (es.findIdx? pred))=es.any pred:=by
  cases hi:es.findIdx? pred with
  |none=>rw[cV]at hi;simp[lL];exact fun a h=>hi a h
  |some i=>
   obtain⟨hl,h1,-⟩:=aS.1 hi
   have:es.any pred=true:=List.any_eq_true.2 ⟨_,vU hl,h1⟩
   rw[this];simp[lL]
 exact cH (v:=.bool (decide (0<=lL (es.findIdx? pred)))) Z Z ⟨by rw[hv],H.below⟩
theorem zA (es:List Mem) (A:Option Addr) (c:Nat) (w:World) (hr:Rd jW 0 w.heap.size A es w) (hb:es.length*48<=140737488355328):
  dh aa oD [.slice A es.length c] w fun v w2=> ∃ A' c' L',v=.slice A' es.length c'/\es.length<=c'/\c'<=maxLen/\gz jW (.slice A' es.length c') df es L'/\Hp w w2 L' []:=by
 refine aE nN Z Z ?_
 have H:=Hp.startRd hr
 refine W<|Zr<|G (Ws Z)<|U<|W<|W<|Zr<|G (Ys Z) ?_
 refine wW (qO gB Z) Z Z Z (fun h4=> ?_) (fun h4=> ?_)
 refine U<|ZT Z<|W<|Zr<|G (Ws Z)<|U<|Zt ?_
 have he:es=[]:=by
  cases es with
  |nil=>rfl
  |cons e es=>obtain⟨b,o,hA,_⟩:=hr (by simp);subst hA;cases h4
 subst he
 exact cH Z Z ⟨none,0,[],rfl,by simp,by decide,gz.nil,H.forget (by simp) (by simp)⟩
 refine U<|ZF Z<|Zk<|W<|Zr<|Pe H eG Z fun w1 b5 H=>G (Ys Z)<|vP (Y:=jW) BS (K:=[]) (L:=[(b5,_)]) (M:=[]) H (sj.lit (by decide) (by rfl)) (es:=[]) (news:=es) Z Z Z (Rd.src (H.fact (i:=0) Z)) (by simpa using hb) Z ?_
 intro A3 c3 w3 L3 h3a h3b ho3 H
 refine G (Ws Z)<|U<|Zt ?_
 exact cH Z Z ⟨A3,c3,L3,rfl,h3a,h3b,ho3,H.forget (by simp) (by simp)⟩
theorem zz (es:List mw) (A:Option Addr) (c:Nat) (w:World) (hr:Rd f6 0 w.heap.size A es w) (hb:es.length*16<=140737488355328):
  dh aa oB [.slice A es.length c] w fun v w2=> ∃ A' c' L',v=.slice A' es.length c'/\es.length<=c'/\c'<=maxLen/\gz f6 (.slice A' es.length c') ef es L'/\Hp w w2 L' []:=by
 refine aE nM Z Z ?_
 have H:=Hp.startRd hr
 refine W<|Zr<|G (Ws Z)<|U<|W<|W<|Zr<|G (Ys Z) ?_
 refine wW (qO im Z) Z Z Z (fun h4=> ?_) (fun h4=> ?_)
 refine U<|ZT Z<|W<|Zr<|G (Ws Z)<|U<|Zt ?_
 have he:es=[]:=by
  cases es with
  |nil=>rfl
  |cons e es=>obtain⟨b,o,hA,_⟩:=hr (by simp);subst hA;cases h4
 subst he
 exact cH Z Z ⟨none,0,[],rfl,by simp,by decide,gz.nil,H.forget (by simp) (by simp)⟩
 refine U<|ZF Z<|Zk<|W<|Zr<|Pe H cZ Z fun w1 b5 H=>G (Ys Z)<|vP (Y:=f6) wx (K:=[]) (L:=[(b5,_)]) (M:=[]) H (sj.lit (by decide) (by rfl)) (es:=[]) (news:=es) Z Z Z (Rd.src (H.fact (i:=0) Z)) (by simpa using hb) Z ?_
 intro A3 c3 w3 L3 h3a h3b ho3 H
 refine G (Ws Z)<|U<|Zt ?_
 exact cH Z Z ⟨A3,c3,L3,rfl,h3a,h3b,ho3,H.forget (by simp) (by simp)⟩
theorem fQ: ∀ {l:List Int} {a:Int},cT a l=true->l.Pairwise (· < ·)/\(∀ p∈l,a<p/\p<4)
 |[],_,_=>⟨List.Pairwise.nil,by intro p hp;cases hp⟩
 |x::l,a,h=>by
  unfold cT at h
  simp only[aR,decide_eq_true_eq]at h
  obtain⟨h1,h2⟩:=fQ h.2
  refine⟨dY.2 ⟨fun y hy=>(h2 y hy).1,h1⟩,fun p hp=> ?_⟩
  rcases ax.1 hp with rfl|hp
  exact h.1
  have:=h2 p hp;omega
theorem mG: ∀ {l:List Int} {a:Int},cT a l=true->(l.length:Int)<=max 0 (3-a)
 |[],_,_=>by simp;omega
 |x::l,a,h=>by
  unfold cT at h
  simp only[aR,decide_eq_true_eq]at h
  have:=mG h.2
  simp only[bV]
  omega
theorem AC {ck:Int}: ∀ {l pre:List Mem},yf ck pre l=true↔(∀ m∈l,vB ck m=true)/\(∀ m∈l,∀ p∈pre,pI m p=false)/\l.Pairwise (fun p m=>pI m p=false)
 |[],pre=>by simp[yf]
 |t::l,pre=>by
  unfold yf
  rw[aR,aR,AC,dY]
  simp only[ax,ap,aq,forall_eq_or_imp,pD,uD]
  constructor
  rintro⟨⟨h1,h2⟩,h3,h4,h5⟩
  exact⟨⟨h1,h3⟩,⟨fun p hp=>by simpa using h2 p hp,fun a ha p hp=>h4 a ha p (.inl hp)⟩,fun a ha=>h4 a ha t (by simp),h5⟩
  rintro⟨⟨h1,h3⟩,⟨h2,h4⟩,h5,h6⟩
  exact⟨⟨h1,fun p hp=>by simpa using h2 p hp⟩,h3,fun a ha p hp=>hp.elim (h4 a ha p) (fun h=>by have:=h5 a ha;simp at h;rwa[h]),h6⟩
def lh (l:List Mem):Prop:=(l.map Mem.name).Pairwise (· ≠ ·)
theorem BR {l:List Mem}:lh l↔l.Pairwise (fun p m=>pI m p=false):=by
 unfold lh
 rw[gm]
 constructor<;>intro h<;>refine h.imp fun{a b} hab=> ?_
 simpa [pI]using hab
 simpa [pI]using hab
theorem Ay: ∀ {l:List mw} {last:Int},yc last l=true↔(∀ o∈l,last<o.part/\o.part<4/\0<=o.at_/\o.at_<=400)/\l.Pairwise (fun a b=>a.part<b.part)
 |[],_=>by simp[yc]
 |o::l,last=>by
  unfold yc
  simp only[aR,decide_eq_true_eq,Ay,dY,ax,forall_eq_or_imp]
  constructor
  rintro⟨⟨⟨⟨h1,h2⟩,h3⟩,h4⟩,h5,h6⟩
  exact⟨⟨⟨h1,h2,h3,h4⟩,fun a ha=>by have:=h5 a ha;omega⟩,fun a ha=>(h5 a ha).1,h6⟩
  rintro⟨⟨⟨h1,h2,h3,h4⟩,h5⟩,h6,h7⟩
  exact⟨⟨⟨⟨h1,h2⟩,h3⟩,h4⟩,fun a ha=>by have:=h5 a ha;have:=h6 a ha;omega,h7⟩
theorem dy {g:Gr}:lM g=true↔((0<=g.clock/\g.clock<=1073741824)/\1<=g.wait/\g.wait<=1000/\(0<=g.gen/\g.gen<=1073741824)/\(g.ms.length:Int)<=6/\(g.os.length:Int)<=4)/\((∀ m∈g.ms,vB g.clock m=true)/\lh g.ms)/\(∀ o∈g.os,0<=o.part/\o.part<4/\0<=o.at_/\o.at_<=400)/\g.os.Pairwise (fun a b=>a.part<b.part):=by
 rw[MJ,AC,BR,Ay]
 unfold iK
 simp only[aR,decide_eq_true_eq]
 constructor
 rintro⟨h1,h2,h3,h4,h5,h6,⟨h7,_,h9⟩,h10,h11⟩;exact⟨⟨h1,h2,h3,h4,h5,h6⟩,⟨h7,h9⟩,fun o ho=>by have:=h10 o ho;omega,h11⟩
 rintro⟨⟨h1,h2,h3,h4,h5,h6⟩,⟨h7,h9⟩,h10,h11⟩;exact⟨h1,h2,h3,h4,h5,h6,⟨h7,by simp,h9⟩,fun o ho=>by have:=h10 o ho;omega,h11⟩
theorem IR {α:Type} {f:α->Int} {l:List α} (h:l.Pairwise (fun a b=>f a<f b)) {i:Nat} {a b:α} (ha:l[i]? =some a) (hb:l[i+1]? =some b):f a<f b:=by
 obtain⟨h1,rfl⟩:=cC ha
 obtain⟨h2,rfl⟩:=cC hb
 exact m8.1 h i (i+1) h1 h2 I
theorem IB {l:List Mem} (h:lh l) {k:Nat} {x:Mem} (hx:l[k]? =some x):(l.take k).any (pI x)=false:=by
 rw[uD]
 intro p hp
 obtain⟨j,hj⟩:=aT.1 hp
 rw[dm]at hj
 split at hj
 rename_i hjk
 rw[BR]at h
 obtain⟨h1,rfl⟩:=cC hj
 obtain⟨h2,rfl⟩:=cC hx
 have:=m8.1 h j k h1 h2 hjk
 rw[this];decide
 cases hj
theorem EC (p t:Mem) (b:Nat) (w:World) (hx:w.heap[b]? =some (.cells t.c.toArray df (0,0))):
  dh aa rZ [.agg p.c.toArray,.pointer (Qd b)] w fun v w2=>v=.bool (pI t p)/\Below w.heap.size w w2:=by
 refine aE xn Z Z ?_
 have H:=Hp.start w
 have hb:=ce hx
 refine W<|Zr<|f7 H Z Z fun w1 b2 H=>G (Wb Z)<|U<|W<|Zr<|G (Zf oN Z)<|G (Zd bd H 0 Z Z Z)<|G (Zf oN Z)<|G (aW bd Z ((H.below.cell (p:=⟨b,_,none⟩) hb).trans (aB (j:=0) hx Z)))<|G (v7 Z Z)<|G (Wb Z)<|U<|Zt ?_
 exact cH Z Z ⟨rfl,H.below⟩
theorem ua (p:Mem) (s:ByteArray) (b:Nat) (w:World) (hx:w.heap[b]? =some (.cells #[.string s] kL (0,0))):
  dh aa lE [.agg p.c.toArray,.pointer (Qd b)] w fun v w2=>v=.bool (decide (p.name=s))/\Below w.heap.size w w2:=by
 refine aE yn Z Z ?_
 have H:=Hp.start w
 have hb:=ce hx
 refine W<|Zr<|f7 H Z Z fun w1 b2 H=>G (Wb Z)<|U<|W<|Zr<|G (Zf oN Z)<|G (Zd bd H 0 Z Z Z)<|G (aW bd Z ((H.below.cell (p:=⟨b,_,none⟩) hb).trans (aB (j:=0) hx Z)))<|G (v7 Z Z)<|G (Wb Z)<|U<|Zt ?_
 exact cH Z Z ⟨rfl,H.below⟩
theorem Dq (g:Gr) (w:World) (h:g.rd 0 w.heap.size w) (hok:lM g=true):dh aa Ck [g.v] w fun v w2=>v=J 0/\Below w.heap.size w w2:=by
 refine aE Bq Z Z ?_
 have hmC:=h.mC
 have hoC:=h.oC
 have hfew:=h.few
 have hfp:=h.fewP
 have H:=Hp.startGr h
 obtain⟨ck,wt,gn,ms,mA,mC,os,oA,oC⟩:=g
 dsimp only at hmC hoC hfew hfp H
 show CW _ _ _ _ (args [.agg #[J (ck),J (wt),J (gn),.slice mA ms.length mC,.slice oA os.length oC]]) w
 obtain⟨⟨⟨k1,k2⟩,k3,k4,⟨k5,k6⟩,k7,k8⟩,⟨hmo,hap⟩,hof,hor⟩:=dy.1 hok
 dsimp only at k1 k2 k3 k4 k5 k6 k7 k8 hmo hap hof hor
 refine W<|Zr<|f7 H Z Z fun w1 b1 H=>G (Wi Z)<|U<|W<|W<|Zr<|G (Zf jG Z)<|G (Zd ak H 0 Z Z Z)<|G (dd Z Z I)<|G (Yb Z)<|ZG<|G (Zf jG Z)<|ZG<|G (Zd ak H 0 Z Z Z)<|ZG<|G (eB Z Z I)<|G (N Z Z)<|G (Yb Z)<|ZG<|G (Zf wq Z)<|ZG<|G (Zd ak H 0 Z Z Z)<|ZG<|G (dd Z Z I)<|G (N Z Z)<|G (Yb Z)<|ZG<|G (Zf wq Z)<|ZG<|G (Zd ak H 0 Z Z Z)<|ZG<|G (eB Z Z I)<|G (N Z Z)<|G (Yb Z)<|ZG<|G (Zf kw Z)<|ZG<|G (Zd ak H 0 Z Z Z) ?_
 refine ZG<|G (dd Z Z I)<|G (N Z Z)<|G (Yb Z)<|ZG<|G (Zf kw Z)<|ZG<|G (Zd ak H 0 Z Z Z)<|ZG<|G (eB Z Z I)<|G (N Z Z)<|G (Yb Z)<|ZG<|G (Zf dK Z)<|ZG<|G (Zd du H 0 Z Z Z)<|ZG<|G (br gB Z)<|ZG<|G (eB Z Z I)<|G (N Z Z)<|G (Yb Z)<|ZG<|G (Zf dW Z)<|ZG<|G (Zd eC H 0 Z Z Z)<|ZG<|G (br im Z)<|ZG<|G (eB Z Z I)<|G (N Z Z)<|U<|ZF Z<|Zk<|W<|W<|Zr<|G (Zf dK Z)<|G (Zd du H 0 Z Z Z)<|G (br gB Z) ?_
 refine G (Yi Z)<|U<|Zb ?_
 refine cD (τ:=Nat) [2,3,4,5,6,52,53,54,55,56,57,58,59,60,61,62,63,64,65,66,67,68,69,70,71,72,73,74,75,76,77,78,79,80,81,82,83,84,85,86,87,88,89,90,91,92,93,94,95,96,97,98,99,100,101,102,103,104,105,106,107,108,109,110] (fun k=>[(52,J (k:Nat))]) (fun k w'=>k<=ms.length/\Hp w w' [(b1,.cells #[J (ck),J (wt),J (gn),.slice mA ms.length mC,.slice oA os.length oC] cO (0,0))] [dU jW 0 w.heap.size mA ms,Jl 0 w.heap.size ms,dU f6 0 w.heap.size oA os]) (fun k=>ms.length-k) 0 ⟨by omega,H⟩ (dP Z) ?_
 rintro k ρ1 w2 ⟨hk,H⟩
 show CW _ _ _ _ (dH (gZ _ _ ρ1) [(52,J (k:Nat))]) w2
 refine W<|Zr ?_
 refine cW (cK Z Z) Z Z Z (fun h53=> ?_) (fun h53=> ?_)
 refine U<|W<|ZT Z<|Zk<|W<|Zb<|W ?_
 obtain⟨x,hx⟩: ∃ x,ms[k]? =some x:=⟨_,ah I⟩
 have hmem:=ab hx
 obtain⟨hxn,hx0,hxc,hxp⟩:=jQ.1 (hmo x hmem)
 have hxl:=(hfp x hmem).1
 obtain⟨hris,hbnd⟩:=fQ hxp
 refine Zr<|G (Yi Z)<|qB H 0 Z eG Z Z I I Z fun bq3 o3 x3 e3=> ?_
 obtain rfl:x=x3:=by have:=e3.at_;rw[hx]at this;exact ba this
 refine G (j7 (xs:=Mem.c x) n6 Z Z e3.cl)<|eP H tJ Z fun w4 b4 H=>G (Wi Z)<|bo H 0 (#[.string (x.name),J (x.heard),.slice x.A x.parts.length x.cap]) sH Z Z Z Z Z N N fun w5 H=>U<|W<|W<|Zr<|G (Zf oN Z)<|G (Zd bd H 0 Z Z Z)<|ch vL (Gu x.name _) Z Z ?_
 rw[hxn]
 rintro _ w6 ⟨rfl,hb⟩;replace H:=H.later hb;clear hb
 refine G (dM Z)<|G (Yb Z)<|ZG<|G (Zf qT Z)<|ZG<|G (Zd ak H 0 Z Z Z)<|ZG<|G (dd Z Z I)<|G (N Z Z)<|G (Yb Z)<|ZG<|G (Zf qT Z)<|ZG<|G (Zd ak H 0 Z Z Z)<|ZG<|G (Zf jG Z)<|ZG<|G (Zd ak H 1 Z Z Z)<|ZG<|G (eB Z Z I)<|G (N Z Z)<|G (Yb Z)<|ZG<|G (Zf dK Z)<|ZG<|G (Zd du H 1 Z Z Z)<|ZG<|G (Yi Z)<|ZG<|sF (k:=k) H 0 Z eG Z Z hmC I Z fun A77 H=> ?_
 have htl:(ms.take k).length=k:=by rw[aI];omega
 refine ZG<|G (AB Z)<|ZG ?_
 have hC:=fun q=>sZ (ms.take k) A77 q _ (H.rd0 0 Z) I rZ [.pointer (Qd b4)] xz (pI x) (fun e w2 _ hw2=>EC e x b4 w2 ((hw2.block _ (ce (H.ent (i:=0) Z))).trans (H.ent (i:=0) Z)))
 rw[htl,IB hap hx]at hC
 replace hC:=hC mC
 refine ch kR (hC) Z Z ?_
 rintro _ w7 ⟨rfl,hb⟩;replace H:=H.later hb;clear hb
 refine G (N Z Z)<|U<|ZF Z<|Zk<|W ?_
 replace H:=Hp.mpRow H 2 Z hmem
 refine Zr<|G (Zf i6 Z)<|G (Zd cy H 0 Z Z Z)<|G (br eM Z)<|G (Yi Z)<|U<|Zb ?_
 refine cD (τ:=Nat) [2,5,6,84,85,86,87,88,89,90,91,92,93,94,95,96,97,98,99,100,101,102,103,104,105,106,107,108,109] (fun j=>[(84,J (j:Nat))]) (fun j w'=>j<=x.parts.length/\Hp w w' [(b4,.cells #[.string (x.name),J (x.heard),.slice x.A x.parts.length x.cap] df (0,0)),(b1,.cells #[J (ck),J (wt),J (gn),.slice mA ms.length mC,.slice oA os.length oC] cO (0,0))] [dU bR 0 w.heap.size x.A x.parts,dU jW 0 w.heap.size A77 (ms.take k),dU jW 0 w.heap.size mA ms,Jl 0 w.heap.size ms,dU f6 0 w.heap.size oA os]) (fun j=>x.parts.length-j) 0 ⟨by omega,H⟩ (dP Z) ?_
 rintro j ρ2 w8 ⟨hj,H⟩
 show CW _ _ _ _ (dH (gZ _ _ ρ2) [(84,J (j:Nat))]) w8
 refine W<|Zr ?_
 refine cW (cK Z Z) Z Z Z (fun h85=> ?_) (fun h85=> ?_)
 refine U<|W<|ZT Z<|Zk<|W<|Zb<|W ?_
 obtain⟨p,hp⟩: ∃ p,x.parts[j]? =some p:=⟨_,ah I⟩
 have hpb:=hbnd p (ab hp)
 refine Zr<|G (Yi Z)<|qB H 0 Z bc Z Z I I Z fun bq9 o9 x9 e9=> ?_
 obtain rfl:p=x9:=by have:=e9.at_;rw[hp]at this;exact ba this
 refine G (aW ak Z (e9.cl 0 _ Z))<|G (Wi Z)<|G (Wi Z)<|U<|W<|Zr<|G (Yi Z)<|G (dd Z Z I)<|G (Yb Z)<|ZG<|G (Yi Z)<|ZG<|G (rD Z Z I)<|G (N Z Z)<|G (Yb Z)<|ZG<|G (Yi Z)<|ZG ?_
 refine cW (km Z Z) Z Z Z (fun h97=> ?_) (fun h97=> ?_)
 obtain⟨i,hji⟩: ∃ i,j=i+1:=⟨j-1,by omega⟩
 obtain⟨q,hq⟩: ∃ q,x.parts[i]? =some q:=⟨_,ah I⟩
 have hqp:q<p:=IR (f:=fun a:Int=>a) hris hq (hji▸hp)
 refine ZG<|G (Yb Z)<|ZG<|G (Zf i6 Z)<|ZG<|G (Zd cy H 0 Z Z Z)<|ZG<|G (Yi Z)<|ZG<|G (xV ((i:Nat):Int) Z Z I I I)<|ZG<|qB H 0 Z bc Z Z I I Z fun bq10 o10 x10 e10=> ?_
 obtain rfl:q=x10:=by have:=e10.at_;rw[hq]at this;exact ba this
 refine ZG<|G (aW ak Z (e10.cl 0 _ Z))<|ZG<|G (Yi Z)<|ZG<|G (rD Z Z I)<|ZG<|G (Kt Z Z)<|G (N Z Z)<|U<|ZF Z<|Zk<|Zr<|G (bw Z Z I I)<|G (Yi Z)<|U ?_
 exact⟨j+1,⟨by omega,H⟩,dP Z,Qg,by show x.parts.length- (j+1)<x.parts.length-j;omega⟩
 refine ZG<|G (Yb Z)<|ZN<|ZN<|ZN<|ZN<|ZN<|ZN<|ZN<|ZN<|ZG<|G (N Z Z)<|G (N Z Z)<|U<|ZF Z<|Zk<|Zr<|G (bw Z Z I I)<|G (Yi Z)<|U ?_
 exact⟨j+1,⟨by omega,H⟩,dP Z,Qg,by show x.parts.length- (j+1)<x.parts.length-j;omega⟩
 refine U<|W<|ZF Z<|Zx<|Zr<|G (bw Z Z I I)<|G (Yi Z)<|U ?_
 exact⟨k+1,⟨by omega,H.forget (.cons _ (ar _)) (fun f hf=>by simp only[ax]at hf⊢;grind)⟩,dP Z,Qg,by show ms.length- (k+1)<ms.length-k;omega⟩
 refine U<|W<|ZF Z<|Zx<|W<|W<|Zr<|G (Zf dW Z)<|G (Zd eC H 0 Z Z Z)<|G (br im Z)<|G (Yi Z)<|U<|Zb ?_
 refine cD (τ:=Nat) [2,7,8,114,115,116,117,118,119,120,121,122,123,124,125,126,127,128,129,130,131,132,133,134,135,136,137,138,139,140,141,142,143,144,145,146,147,148,149,150,151,152,153] (fun n=>[(114,J (n:Nat))]) (fun n w'=>n<=os.length/\Hp w w' [(b1,.cells #[J (ck),J (wt),J (gn),.slice mA ms.length mC,.slice oA os.length oC] cO (0,0))] [dU jW 0 w.heap.size mA ms,Jl 0 w.heap.size ms,dU f6 0 w.heap.size oA os]) (fun n=>os.length-n) 0 ⟨by omega,H⟩ (dP Z) ?_
 rintro n ρ3 w11 ⟨hn,H⟩
 show CW _ _ _ _ (dH (gZ _ _ ρ3) [(114,J (n:Nat))]) w11
 refine W<|Zr ?_
 refine cW (cK Z Z) Z Z Z (fun h115=> ?_) (fun h115=> ?_)
 refine U<|W<|ZT Z<|Zk<|W<|Zb<|W ?_
 obtain⟨o,ho⟩: ∃ o,os[n]? =some o:=⟨_,ah I⟩
 have hob:=hof o (ab ho)
 refine Zr<|G (Yi Z)<|qB H 2 Z cZ Z Z I I Z fun bq12 o12 x12 e12=> ?_
 obtain rfl:o=x12:=by have:=e12.at_;rw[ho]at this;exact ba this
 refine G (j7 (xs:=mw.c o) BU Z Z e12.cl)<|eP H lj Z fun w13 b8 H=>G (Wi Z)<|bo H 0 (#[J (o.part),J (o.at_)]) Ai Z Z Z Z Z N N fun w14 H=>U<|W ?_
 refine bA cd [0,1,2,3,4,5,6,7,8,9,10,11,12,13,14,15,16,17,18,19,20,21,22,23,24,25,26,27,28,29,30,31,32,33] [] [] [0,2,3,4,6,7,8,9,11,12,13,14,16,17,18,19,20,21,22,24,25,26,27,29,31,32,33] (sp []) N N N N Nq (cI _) ?_
 refine aw Z Z Z Z Z (fun w' hw'=>Zf jv Z)<|aw Z Z Z Z Z (fun w' hw'=>aW ak Z (aB ((H.later hw').ent (i:=0) Z) Z))<|aw Z Z Z Z Z (fun w' hw'=>dd Z Z I)<|aw Z Z Z Z Z (fun w' hw'=>Yb Z)<|aw Z Z Z Z Z (fun w' hw'=>Zf jv Z)<|aw Z Z Z Z Z (fun w' hw'=>aW ak Z (aB ((H.later hw').ent (i:=0) Z) Z))<|aw Z Z Z Z Z (fun w' hw'=>rD Z Z I)<|aw Z Z Z Z Z (fun w' hw'=>N Z Z)<|aw Z Z Z Z Z (fun w' hw'=>Yb Z)<|aw Z Z Z Z Z (fun w' hw'=>Zf oM Z)<|aw Z Z Z Z Z (fun w' hw'=>aW ak Z (aB ((H.later hw').ent (i:=0) Z) Z))<|aw Z Z Z Z Z (fun w' hw'=>dd Z Z I)<|aw Z Z Z Z Z (fun w' hw'=>N Z Z)<|aw Z Z Z Z Z (fun w' hw'=>Yb Z)<|aw Z Z Z Z Z (fun w' hw'=>Zf oM Z)<|aw Z Z Z Z Z (fun w' hw'=>aW ak Z (aB ((H.later hw').ent (i:=0) Z) Z))<|aw Z Z Z Z Z (fun w' hw'=>eB Z Z I)<|aw Z Z Z Z Z (fun w' hw'=>N Z Z)<|aw Z Z Z Z Z (fun w' hw'=>Yb Z)<|aw Z Z Z Z Z (fun w' hw'=>Yi Z) ?_
 refine B2 Z Z Z Z Z (fun w' hw'=>km Z Z) (fun h139=> ?_) (fun h139=> ?_)
 obtain⟨i,hni⟩: ∃ i,n=i+1:=⟨n-1,by omega⟩
 obtain⟨q,hq⟩: ∃ q,os[i]? =some q:=⟨_,ah I⟩
 have hqp:q.part<o.part:=IR (f:=mw.part) hor hq (hni▸ho)
 refine aw Z Z Z Z Z (fun w' hw'=>Yb Z)<|aw Z Z Z Z Z (fun w' hw'=>Zf dW Z)<|aw Z Z Z Z Z (fun w' hw'=>aW eC Z (aB ((H.later hw').ent (i:=1) Z) Z))<|aw Z Z Z Z Z (fun w' hw'=>Yi Z)<|aw Z Z Z Z Z (fun w' hw'=>xV ((i:Nat):Int) Z Z I I I)<|jO H 2 Z Z Z Z Z cZ Z Z I I fun bq15 o15 x15 e15=> ?_
 obtain rfl:q=x15:=by have:=e15.at_;rw[hq]at this;exact ba this
 refine aw Z Z Z Z Z (fun w' hw'=>Zf jv Z)<|aw Z Z Z Z Z (fun w' hw'=>aW ak Z (e15.later hw' 0 _ Z))<|aw Z Z Z Z Z (fun w' hw'=>Zf jv Z)<|aw Z Z Z Z Z (fun w' hw'=>aW ak Z (aB ((H.later hw').ent (i:=0) Z) Z))<|aw Z Z Z Z Z (fun w' hw'=>rD Z Z I)<|aw Z Z Z Z Z (fun w' hw'=>Kt Z Z)<|aw Z Z Z Z Z (fun w' hw'=>N Z Z)<|aV ?_
 intro w16 hw' hF
 replace H:=H.later hw';clear hw' hF
 refine U<|ZF Z<|Zk<|Zr<|G (bw Z Z I I)<|G (Yi Z)<|U ?_
 exact⟨n+1,⟨by omega,H.forget (.cons _ (ar _)) (fun _ h=>h)⟩,dP Z,Qg,by show os.length- (n+1)<os.length-n;omega⟩
 refine aw Z Z Z Z Z (fun w' hw'=>Yb Z)<|eU Z Z Z Z<|eU Z Z Z Z<|eU Z Z Z Z<|eU Z Z Z Z<|eU Z Z Z Z<|eU Z Z Z Z<|eU Z Z Z Z<|eU Z Z Z Z<|eU Z Z Z Z<|eU Z Z Z Z<|aw Z Z Z Z Z (fun w' hw'=>N Z Z)<|aw Z Z Z Z Z (fun w' hw'=>N Z Z)<|aV ?_
 intro w17 hw' hF
 replace H:=H.later hw';clear hw' hF
 refine U<|ZF Z<|Zk<|Zr<|G (bw Z Z I I)<|G (Yi Z)<|U ?_
 exact⟨n+1,⟨by omega,H.forget (.cons _ (ar _)) (fun _ h=>h)⟩,dP Z,Qg,by show os.length- (n+1)<os.length-n;omega⟩
 refine U<|W<|ZF Z<|Zx<|W<|Zr<|G (Wi Z)<|U<|Zt ?_
 exact cH Z Z ⟨rfl,H.below⟩
theorem xk (g:Gr) (w:World) (h:g.rd 0 w.heap.size w):dh aa Ey [g.v] w fun v w2=> ∃ (g':Gr) (Lm Lo:List (Nat×Obj)),v=g'.v/\rc w w2 g.a g' Lm Lo:=by
 refine aE CA Z Z ?_
 have hmC:=h.mC
 have hoC:=h.oC
 have hfew:=h.few
 have hfp:=h.fewP
 have H:=Hp.startGr h
 obtain⟨ck,wt,gn,ms,mA,mC,os,oA,oC⟩:=g
 dsimp only at hmC hoC hfew hfp H
 show CW _ _ _ _ (args [.agg #[J (ck),J (wt),J (gn),.slice mA ms.length mC,.slice oA os.length oC]]) w
 refine W<|Zr<|f7 H Z Z fun w1 b1 H=>eP H d8 Z fun w2 b2 H=>U<|W ?_
 refine bA cd [0,1,3,4,2,6,5] [7,8,9] [2,5] [0,3,6] (sp [(2,Sp.orow w2.heap.size jW df ms),(5,Sp.orow w2.heap.size f6 ef os)]) N N N N Nq (cI _) ?_
 refine aw Z Z Z Z Z (fun w' hw'=>Zf dK Z)<|aw Z Z Z Z Z (fun w' hw'=>aW du Z (aB ((H.later hw').ent (i:=1) Z) Z))<|aw Z Z Z Z Z (fun w' hw'=>Zf dW Z)<|aw Z Z Z Z Z (fun w' hw'=>aW eC Z (aB ((H.later hw').ent (i:=1) Z) Z))<|yC nX Z Z Z Z Z (fun w' hw'=>hw'.size) (fun w' hw'=>zA ms _ _ w' ((H.later hw').rd0 0 Z) I) Z fun A6 c6 hc6=>aw Z Z Z Z Z (fun w' hw'=>Zf dK Z)<|yC nW Z Z Z Z Z (fun w' hw'=>hw'.size) (fun w' hw'=>zz os _ _ w' ((H.later hw').rd0 2 Z) I) Z fun A9 c9 hc9=>aV ?_
 intro w3 hw' hF
 obtain⟨hF,Aq,cq,L9,eq,hcq,hm9,ho9,he9,hn9⟩:=hF;cases eq;clear hcq
 obtain⟨hF,Aq,cq,L6,eq,hcq,hm6,ho6,he6,hn6⟩:=hF;cases eq;clear hcq
 replace H:=Hp.join2 H (Hp.ofNew hw' he6 hn6) (Hp.ofNew hw' he9 hn9) ho6 ho9 Z
 clear hw' hF
 refine bo H 1 (#[J (ck),J (wt),J (gn),.slice A6 ms.length c6,.slice oA os.length oC]) tO Z Z Z Z Z N N fun w4 H=>G (Zf dW Z)<|bo H 1 (#[J (ck),J (wt),J (gn),.slice A6 ms.length c6,.slice A9 os.length c9]) om Z Z Z Z Z N N fun w5 H=>U<|W<|W<|Zr<|G (Zf dK Z)<|G (Zd du H 1 Z Z Z)<|G (br gB Z)<|G (Yi Z)<|U<|Zb ?_
 refine cD (τ:=Nat×List Mem×Option Addr) [3,15,16,17,18,19,20,21,22,23,24,25,26,27,28,29,30] (fun(k,_,_)=>[(15,J (k:Nat))]) (fun(k,out,A1) w'=>k<=out.length/\out.length=ms.length/\out.map Mem.a=ms.map Mem.a/\out.drop k=ms.drop k/\(∀ m∈out.take k,m.parts.length<=m.cap/\w.heap.size<=m.lo)/\ ∃ Lm,gz jW (.slice A1 out.length c6) df out Lm/\Hp w w' ([(b2,.cells #[J 0,J 0,J 0,.slice none 0 0,.slice none 0 0] cO (0,0)),(b1,.cells #[J (ck),J (wt),J (gn),.slice A1 out.length c6,.slice A9 os.length c9] cO (0,0))]++Lm++L9) ([dU jW 0 w.heap.size mA ms,Jl 0 w.heap.size ms,dU f6 0 w.heap.size oA os]++(out.take k).map nE)) (fun(k,out,_)=>out.length-k) (0,ms,A6) ⟨by omega,rfl,rfl,rfl,by simp,L6,ho6,H⟩ (dP Z) ?_
 rintro⟨k,out,A1⟩ ρ1 w6 ⟨hk,hol,hma,hdr,hpc,Lm,ho,H⟩
 show CW _ _ _ _ (dH (gZ _ _ ρ1) [(15,J (k:Nat))]) w6
 refine W<|Zr ?_
 refine cW (cK Z Z) Z Z Z (fun h16=> ?_) (fun h16=> ?_)
 refine U<|W<|ZT Z<|Zk<|W<|Zb<|W ?_
 obtain⟨x,hx⟩: ∃ x,out[k]? =some x:=⟨_,ah I⟩
 have hxt:=zO hdr hx
 have hmem:=ab hxt
 have hfx:=(hfp x hmem).1
 obtain⟨g,cur,rfl,rfl,row⟩:=ho.row I
 refine Zr<|G (Yi Z)<|G (Wi Z)<|U ?_
 have hlo:=H.size
 refine bA cd [0,1,2,3,4,5,6,7,8,9,10,11] [12] [9] [0,2,3,5,6,7,10,11] (sp [(9,Sp.row w6.heap.size bR x.parts)]) N N N N Nq (cI _) ?_
 refine aw Z Z Z Z Z (fun w' hw'=>Zf dK Z)<|aw Z Z Z Z Z (fun w' hw'=>aW du Z (aB ((H.later hw').ent (i:=1) Z) Z))<|aw Z Z Z Z Z (fun w' hw'=>Yi Z)<|aw Z Z Z Z Z (fun w' hw'=>Zf dK Z)<|aw Z Z Z Z Z (fun w' hw'=>aW du Z (aB ((H.later hw').ent (i:=1) Z) Z))<|aw Z Z Z Z Z (fun w' hw'=>Yi Z)<|aw Z Z Z Z Z (fun w' hw'=>cG eG Z Z (by first|omega|(simp only[ae];omega)))<|aw Z Z Z Z Z (fun w' hw'=>Zf i6 Z)<|aw Z Z Z Z Z (fun w' hw'=>bP cy row hx 2 Z ((H.later hw').ent (i:=2) Z) Z)<|DC gx Z Z Z Z Z (fun w' hw'=>hw'.size) (fun w' hw'=>xw x.parts _ _ w' (zL (H.later hw') 1 Z hmem) I) Z fun A27 c27 hc27=>aw Z Z Z Z Z (fun w' hw'=>cG eG Z Z (by first|omega|(simp only[ae];omega)))<|aw Z Z Z Z Z (fun w' hw'=>Zf i6 Z)<|aV ?_
 intro w7 hw' hF
 obtain⟨hF,Aq,cq,eq,hcq,hrw27⟩:=hF;cases eq;clear hcq
 replace H:=H.learnRd hw' hrw27
 clear hw' hF
 refine k9 H 2 ({x with A:=A27,cap:=c27,lo:=w6.heap.size,hi:=w7.heap.size}) jK row hx 2 Z Z Z Z Z Z N fun w9 cur8 row8 H=> ?_
 have hs10:(out.set k ({x with A:=A27,cap:=c27,lo:=w6.heap.size,hi:=w7.heap.size}))[k]? =some ({x with A:=A27,cap:=c27,lo:=w6.heap.size,hi:=w7.heap.size}):=al (cC hx).1
 refine U<|Zr<|G (bw Z Z I I)<|G (Yi Z)<|U ?_
 obtain⟨z1,z2,z3⟩:=Pc (x':={x with A:=A27,cap:=c27,lo:=w6.heap.size,hi:=w7.heap.size}) hx hma hdr Z
 have hown:=dX.own (g:=g) (e:=df) row8
 refine⟨(k+1,out.set k {x with A:=A27,cap:=c27,lo:=w6.heap.size,hi:=w7.heap.size},some ⟨g,0,none⟩),⟨by rw[ae];omega,by rw[ae];exact hol,z1,z2,?_,_,hown,?_⟩,dP Z,Qg,by show(out.set k _).length- (k+1)<out.length-k;rw[ae];omega⟩
 rw[z3];intro t ht;rcases ap.1 ht with ht|ht;exact hpc t ht;rw[aq.1 ht];exact⟨hc27,hlo⟩
 rw[ae];exact H.forget (ar _) (fun f hf=>by rw[z3]at hf;exact AF hf)
 refine U<|W<|ZF Z<|Zx<|W<|Zr<|G (Zw aQ H 1 Z Z Z)<|bo H 0 (#[J (ck),J (wt),J (gn),.slice A1 out.length c6,.slice A9 os.length c9]) bD Z Z Z Z Z N N fun w11 H=>U<|Zt ?_
 have hke:k=out.length:=by omega
 rw[hke,bN]at H hpc
 exact eS (cs0:= #[J (ck),J (wt),J (gn),.slice A1 out.length c6,.slice A9 os.length c9]) Z aQ Z (H.ent (i:=0) Z) Z ⟨⟨ck,wt,gn,out,A1,c6,os,A9,c9⟩,Lm,L9,rfl,by unfold Gr.a;dsimp only;rw[hma],ho,ho9,by dsimp only;omega,hc9,hpc,H.forget (by rw[aD];exact .cons _ (.cons _ (ar _))) (fun f hf=>cj _ hf)⟩
theorem Hp.joinG {w0 w w':World} {L Lm Lo:List (Nat×Obj)} {F:List cB} {ms:List Mem} (H:Hp w0 w L F) (H':Hp w w' (Lm++Lo) (ms.map nE)) (hlo: ∀ m∈ms,w.heap.size<=m.lo):Hp w0 w' (L++Lm++Lo) (F++ms.map nE):=by
 refine(H.joinF H' fun f hf=> ?_).perm ?_
 obtain⟨m,hm,rfl⟩:=bp.1 hf
 exact hlo m hm
 rw[aD];exact xQ
def qg (g:Gr) (s:ByteArray):Int:=lL (g.ms.findIdx? fun p=>decide (p.name=s))
theorem AG {l l2:List Mem} (h:l2.map Mem.a=l.map Mem.a) {i:Nat} {t:Mem} (ht:l[i]? =some t): ∃ t2,l2[i]? =some t2/\t2.a=t.a:=by
 have:=congrArg (fun x=>x[i]?) h
 simp only[aL,ht,eY]at this
 exact iS.1 this
def i7 (g:Gr) (n:Int):Bool:=decide (0<=n)&&decide (n<=4)&&decide (g.gen<1073741824)
theorem OG (n:Int) (w:World) (h1:1<=n) (h2:n<=1000):dh aa Gm [J n] w fun v w2=>v=.tuple #[.agg #[J 0,J n,J 0,.slice none 0 0,.slice none 0 0],J 0]/\Below w.heap.size w w2:=by
 refine aE EM Z Z ?_
 have H:=Hp.start w
 refine W<|Zr<|eP H d8 Z fun w1 b2 H=>G (Wi Z)<|U<|W<|W<|Zr<|G (Yi Z)<|G (dd Z Z I)<|G (Yb Z)<|ZG<|G (Yi Z)<|ZG<|G (eB Z Z I)<|G (N Z Z)<|U<|ZF Z<|Zk<|W<|Zr<|G (Yi Z)<|G (bg (cs:= #[J (0),J (n),J (0),.slice none 0 0,.slice none 0 0]) kc d8 N)<|bo H 0 (#[J (0),J (n),J (0),.slice none 0 0,.slice none 0 0]) bD Z Z Z Z Z N N fun w2 H=>G (Wi Z)<|U<|Zt ?_
 exact bE (cs0:= #[J 0,J n,J 0,.slice none 0 0,.slice none 0 0]) (v1:=J 0) Z aQ Z (H.ent (i:=0) Z) Z Z ⟨rfl,H.below⟩
theorem sY (g:Gr) (n:Int) (w:World):dh aa zn [g.v,J n] w fun v w2=>v=.bool (i7 g n)/\Below w.heap.size w w2:=by
 refine aE yo Z Z ?_
 have H:=Hp.start w
 obtain⟨ck,wt,gn,ms,mA,mC,os,oA,oC⟩:=g
 show CW _ _ _ _ (args [.agg #[J (ck),J (wt),J (gn),.slice mA ms.length mC,.slice oA os.length oC],J (n)]) w
 refine W<|Zr<|f7 H Z Z fun w1 b2 H=>G (Wb Z)<|U<|W<|Zr<|G (Yi Z) ?_
 refine cW (ko Z Z) Z Z Z (fun h6=> ?_) (fun h6=> ?_)
 refine G (Yb Z)<|ZG<|G (Yi Z)<|ZG ?_
 refine cW (My Z Z) Z Z Z (fun h9=> ?_) (fun h9=> ?_)
 refine G (Kt Z Z)<|G (Yb Z)<|ZG<|G (Zf kw Z)<|ZG<|G (Zd ak H 0 Z Z Z)<|ZG ?_
 refine cW (cK Z Z) Z Z Z (fun h14=> ?_) (fun h14=> ?_)
 refine G (Kt Z Z)<|G (Wb Z)<|U<|Zt ?_
 have hv:i7 ⟨ck,wt,gn,ms,mA,mC,os,oA,oC⟩ n=true:=by unfold i7;simp;omega
 exact cH (v:=.bool true) Z Z ⟨by rw[hv],H.below⟩
 refine G (Kt Z Z)<|G (Wb Z)<|U<|Zt ?_
 have hv:i7 ⟨ck,wt,gn,ms,mA,mC,os,oA,oC⟩ n=false:=by unfold i7;simp;omega
 exact cH (v:=.bool false) Z Z ⟨by rw[hv],H.below⟩
 refine G (Kt Z Z)<|G (Yb Z)<|ZN<|ZN<|ZN<|G (N Z Z)<|G (Wb Z)<|U<|Zt ?_
 have hv:i7 ⟨ck,wt,gn,ms,mA,mC,os,oA,oC⟩ n=false:=by unfold i7;simp;omega
 exact cH (v:=.bool false) Z Z ⟨by rw[hv],H.below⟩
 refine G (Yb Z)<|ZN<|ZN<|G (N Z Z)<|G (Yb Z)<|ZN<|ZN<|ZN<|G (N Z Z)<|G (Wb Z)<|U<|Zt ?_
 have hv:i7 ⟨ck,wt,gn,ms,mA,mC,os,oA,oC⟩ n=false:=by unfold i7;simp;omega
 exact cH (v:=.bool false) Z Z ⟨by rw[hv],H.below⟩
theorem mR (g:Gr) (s:ByteArray) (w:World) (h:g.rd 0 w.heap.size w) (hok:lM g=true) (hn:bL s=true):dh aa Ew [g.v,.string s] w fun v w2=> ∃ (g':Gr) (Lm Lo:List (Nat×Obj)),v=.tuple #[g'.v,J (qg g s),J 0]/\rc w w2 g.a g' Lm Lo:=by
 refine aE Cy Z Z ?_
 have hmC:=h.mC
 have hoC:=h.oC
 have hfew:=h.few
 have hfp:=h.fewP
 have H:=Hp.startGr h
 obtain⟨ck,wt,gn,ms,mA,mC,os,oA,oC⟩:=g
 dsimp only at hmC hoC hfew hfp H
 show CW _ _ _ _ (args [.agg #[J (ck),J (wt),J (gn),.slice mA ms.length mC,.slice oA os.length oC],.string (s)]) w
 refine W<|Zr<|f7 H Z Z fun w1 b2 H=>Ri H Z Z fun w2 b3 H=>eP H d8 Z fun w3 b4 H=>G (Wi Z)<|G (Wi Z)<|U<|W<|W<|Zr<|G (Zw aQ H 2 Z Z Z)<|ch uw (Dq ⟨ck,wt,gn,ms,mA,mC,os,oA,oC⟩ _ ⟨H.rd0 0 Z,fun m hm=>zL H 1 Z hm,H.rd0 2 Z,hmC,hoC,hfew,hfp⟩ hok) Z Z ?_
 rintro _ w4 ⟨rfl,hb⟩;replace H:=H.later hb;clear hb
 refine G (Wi Z)<|U<|W<|Zr<|G (Yi Z)<|G (bZ Z Z Z)<|U<|ZF Z<|Zk<|W<|W<|Zr<|G (Zd bd H 1 Z Z Z)<|ch vL (Gu s _) Z Z ?_
 rw[hn]
 rintro _ w5 ⟨rfl,hb⟩;replace H:=H.later hb;clear hb
 refine G (dM Z)<|U<|ZF Z<|Zk<|W ?_
 refine qW cd [2,4] [0,1,3,5,6,7,8] [2,4] 7 N N N Nq ?_
 refine aw Z Z Z Z Z (fun w' hw'=>Zf dK Z)<|aw Z Z Z Z Z (fun w' hw'=>AB Z)<|aV ?_
 intro w6 hw';replace H:=H.later hw';clear hw'
 refine tH 0 3 N Z Z ?_ ?_
 refine G (Zw aQ H 2 Z Z Z)<|U ?_
 refine tH 1 3 N Z Z ?_ ?_
 refine ch oc (xk ⟨ck,wt,gn,ms,mA,mC,os,oA,oC⟩ _ ⟨H.rd0 0 Z,fun m hm=>zL H 1 Z hm,H.rd0 2 Z,hmC,hoC,hfew,hfp⟩) Z Z ?_
 rintro _ w7 ⟨⟨ck2,wt2,gn2,ms2,mA2,mC2,os2,oA2,oC2⟩,Lm,Lo,rfl,ha2,ho2,hoo2,hmc2,hoc2,hpc2,hj2⟩
 have hlo2:=H.size
 replace H:=Hp.joinG H hj2 (fun m hm=>(hpc2 m hm).2);clear hj2
 simp only[Gr.a,Gr.mk.injEq]at ha2
 obtain⟨e1,e2,e3,hma,-,-,e4,-,-⟩:=ha2
 obtain rfl:ck=ck2:=e1.symm
 obtain rfl:wt=wt2:=e2.symm
 obtain rfl:gn=gn2:=e3.symm
 obtain rfl:os=os2:=e4.symm
 dsimp only at ho2 hoo2 hmc2 hoc2 hpc2 H
 replace hpc2: ∀ m∈ms2,m.parts.length<=m.cap/\w.heap.size<=m.lo:=fun m hm=>⟨(hpc2 m hm).1,aU hlo2 (hpc2 m hm).2⟩
 have hml2:ms2.length=ms.length:=by have:=congrArg ci hma;simpa using this
 refine U<|de 3 N Z<|G (Zd du H 2 Z Z Z)<|U<|de 5 N Z<|ch dq (fY ms mA mC _ (H.rd0 0 Z) I lE [.pointer (Qd b3)] nY (fun p=>decide (p.name=s)) (fun e w2 _ hw2=>ua e s b3 w2 ((hw2.block _ (ce (H.ent (i:=1) Z))).trans (H.ent (i:=1) Z)))) Z Z ?_
 rintro _ w8 ⟨rfl,hb⟩;replace H:=H.later hb;clear hb
 refine U<|de 6 N Z<|bo H 0 (#[J (ck),J (wt),J (gn),.slice mA2 ms2.length mC2,.slice oA2 os.length oC2]) bD Z Z Z Z Z N N fun w9 H=>U<|de 7 N Z<|G (Wi Z)<|U<|de 8 N Z<|G (Wi Z)<|U<|cF N<|Zt ?_
 exact gE (cs0:= #[J (ck),J (wt),J (gn),.slice mA2 ms2.length mC2,.slice oA2 os.length oC2]) (v1:=J (lL (ms.findIdx? fun p=>decide (p.name=s)))) (v2:=J 0) Z aQ Z (H.ent (i:=0) Z) Z Z Z ⟨⟨ck,wt,gn,ms2,mA2,mC2,os,oA2,oC2⟩,Lm,Lo,rfl,by unfold Gr.a;dsimp only;rw[hma],ho2,hoo2,hmc2,hoc2,hpc2,H.forget (by rw[aD];exact .cons _ (.cons _ (.cons _ (ar _)))) (fun f hf=>by simp only[ax,ap];grind)⟩
 refine G (Zd du H 2 Z Z Z)<|U<|de 1 N Z<|ch oc (xk ⟨ck,wt,gn,ms,mA,mC,os,oA,oC⟩ _ ⟨H.rd0 0 Z,fun m hm=>zL H 1 Z hm,H.rd0 2 Z,hmC,hoC,hfew,hfp⟩) Z Z ?_
 rintro _ w10 ⟨⟨ck2,wt2,gn2,ms2,mA2,mC2,os2,oA2,oC2⟩,Lm,Lo,rfl,ha2,ho2,hoo2,hmc2,hoc2,hpc2,hj2⟩
 have hlo2:=H.size
 replace H:=Hp.joinG H hj2 (fun m hm=>(hpc2 m hm).2);clear hj2
 simp only[Gr.a,Gr.mk.injEq]at ha2
 obtain⟨e1,e2,e3,hma,-,-,e4,-,-⟩:=ha2
 obtain rfl:ck=ck2:=e1.symm
 obtain rfl:wt=wt2:=e2.symm
 obtain rfl:gn=gn2:=e3.symm
 obtain rfl:os=os2:=e4.symm
 dsimp only at ho2 hoo2 hmc2 hoc2 hpc2 H
 replace hpc2: ∀ m∈ms2,m.parts.length<=m.cap/\w.heap.size<=m.lo:=fun m hm=>⟨(hpc2 m hm).1,aU hlo2 (hpc2 m hm).2⟩
 have hml2:ms2.length=ms.length:=by have:=congrArg ci hma;simpa using this
 refine U<|de 5 N Z<|ch dq (fY ms mA mC _ (H.rd0 0 Z) I lE [.pointer (Qd b3)] nY (fun p=>decide (p.name=s)) (fun e w2 _ hw2=>ua e s b3 w2 ((hw2.block _ (ce (H.ent (i:=1) Z))).trans (H.ent (i:=1) Z)))) Z Z ?_
 rintro _ w11 ⟨rfl,hb⟩;replace H:=H.later hb;clear hb
 refine U<|de 6 N Z<|bo H 0 (#[J (ck),J (wt),J (gn),.slice mA2 ms2.length mC2,.slice oA2 os.length oC2]) bD Z Z Z Z Z N N fun w12 H=>U<|de 7 N Z<|G (Wi Z)<|U<|de 8 N Z<|G (Wi Z)<|U<|cF N<|Zt ?_
 exact gE (cs0:= #[J (ck),J (wt),J (gn),.slice mA2 ms2.length mC2,.slice oA2 os.length oC2]) (v1:=J (lL (ms.findIdx? fun p=>decide (p.name=s)))) (v2:=J 0) Z aQ Z (H.ent (i:=0) Z) Z Z Z ⟨⟨ck,wt,gn,ms2,mA2,mC2,os,oA2,oC2⟩,Lm,Lo,rfl,by unfold Gr.a;dsimp only;rw[hma],ho2,hoo2,hmc2,hoc2,hpc2,H.forget (by rw[aD];exact .cons _ (.cons _ (.cons _ (ar _)))) (fun f hf=>by simp only[ax,ap];grind)⟩
 refine G (Zd du H 2 Z Z Z)<|U<|de 0 N Z<|G (Zw aQ H 2 Z Z Z)<|U<|de 1 N Z<|ch oc (xk ⟨ck,wt,gn,ms,mA,mC,os,oA,oC⟩ _ ⟨H.rd0 0 Z,fun m hm=>zL H 1 Z hm,H.rd0 2 Z,hmC,hoC,hfew,hfp⟩) Z Z ?_
 rintro _ w13 ⟨⟨ck2,wt2,gn2,ms2,mA2,mC2,os2,oA2,oC2⟩,Lm,Lo,rfl,ha2,ho2,hoo2,hmc2,hoc2,hpc2,hj2⟩
 have hlo2:=H.size
 replace H:=Hp.joinG H hj2 (fun m hm=>(hpc2 m hm).2);clear hj2
 simp only[Gr.a,Gr.mk.injEq]at ha2
 obtain⟨e1,e2,e3,hma,-,-,e4,-,-⟩:=ha2
 obtain rfl:ck=ck2:=e1.symm
 obtain rfl:wt=wt2:=e2.symm
 obtain rfl:gn=gn2:=e3.symm
 obtain rfl:os=os2:=e4.symm
 dsimp only at ho2 hoo2 hmc2 hoc2 hpc2 H
 replace hpc2: ∀ m∈ms2,m.parts.length<=m.cap/\w.heap.size<=m.lo:=fun m hm=>⟨(hpc2 m hm).1,aU hlo2 (hpc2 m hm).2⟩
 have hml2:ms2.length=ms.length:=by have:=congrArg ci hma;simpa using this
 refine U<|de 5 N Z<|ch dq (fY ms mA mC _ (H.rd0 0 Z) I lE [.pointer (Qd b3)] nY (fun p=>decide (p.name=s)) (fun e w2 _ hw2=>ua e s b3 w2 ((hw2.block _ (ce (H.ent (i:=1) Z))).trans (H.ent (i:=1) Z)))) Z Z ?_
 rintro _ w14 ⟨rfl,hb⟩;replace H:=H.later hb;clear hb
 refine U<|de 6 N Z<|bo H 0 (#[J (ck),J (wt),J (gn),.slice mA2 ms2.length mC2,.slice oA2 os.length oC2]) bD Z Z Z Z Z N N fun w15 H=>U<|de 7 N Z<|G (Wi Z)<|U<|de 8 N Z<|G (Wi Z)<|U<|cF N<|Zt ?_
 exact gE (cs0:= #[J (ck),J (wt),J (gn),.slice mA2 ms2.length mC2,.slice oA2 os.length oC2]) (v1:=J (lL (ms.findIdx? fun p=>decide (p.name=s)))) (v2:=J 0) Z aQ Z (H.ent (i:=0) Z) Z Z Z ⟨⟨ck,wt,gn,ms2,mA2,mC2,os,oA2,oC2⟩,Lm,Lo,rfl,by unfold Gr.a;dsimp only;rw[hma],ho2,hoo2,hmc2,hoc2,hpc2,H.forget (by rw[aD];exact .cons _ (.cons _ (.cons _ (ar _)))) (fun f hf=>by simp only[ax,ap];grind)⟩
theorem Dp (g:Gr) (s:ByteArray) (gn_:Int) (w:World) (h:g.rd 0 w.heap.size w) (hok:lM g=true) (hn:bL s=true) (hi:qg g s= -1):dh aa sO [g.v,.string s,J gn_] w fun v w2=>v=.tuple #[.agg #[J 0,J 0,J 0,.slice none 0 0,.slice none 0 0],J 0,J 5]/\Below w.heap.size w w2:=by
 refine aE rH Z Z ?_
 have hmC:=h.mC
 have hoC:=h.oC
 have hfew:=h.few
 have hfp:=h.fewP
 have H:=Hp.startGr h
 obtain⟨ck,wt,gn,ms,mA,mC,os,oA,oC⟩:=g
 dsimp only at hmC hoC hfew hfp H
 show CW _ _ _ _ (args [.agg #[J (ck),J (wt),J (gn),.slice mA ms.length mC,.slice oA os.length oC],.string (s),J (gn_)]) w
 refine W<|Zr<|f7 H Z Z fun w1 b3 H=>eP H d8 Z fun w2 b6 H=>G (Wi Z)<|G (Wi Z)<|U<|W<|Zr<|G (Zw aQ H 1 Z Z Z)<|G (Yt Z)<|ch gy (mR ⟨ck,wt,gn,ms,mA,mC,os,oA,oC⟩ s _ ⟨H.rd0 0 Z,fun m hm=>zL H 1 Z hm,H.rd0 2 Z,hmC,hoC,hfew,hfp⟩ hok hn) Z Z ?_
 rintro _ w3 ⟨⟨ck2,wt2,gn2,ms2,mA2,mC2,os2,oA2,oC2⟩,Lm,Lo,rfl,ha2,ho2,hoo2,hmc2,hoc2,hpc2,hj2⟩
 have hlo2:=H.size
 replace H:=Hp.joinG H hj2 (fun m hm=>(hpc2 m hm).2);clear hj2
 simp only[Gr.a,Gr.mk.injEq]at ha2
 obtain⟨e1,e2,e3,hma,-,-,e4,-,-⟩:=ha2
 obtain rfl:ck=ck2:=e1.symm
 obtain rfl:wt=wt2:=e2.symm
 obtain rfl:gn=gn2:=e3.symm
 obtain rfl:os=os2:=e4.symm
 dsimp only at ho2 hoo2 hmc2 hoc2 hpc2 H
 replace hpc2: ∀ m∈ms2,m.parts.length<=m.cap/\w.heap.size<=m.lo:=fun m hm=>⟨(hpc2 m hm).1,aU hlo2 (hpc2 m hm).2⟩
 have hml2:ms2.length=ms.length:=by have:=congrArg ci hma;simpa using this
 rw[hi]
 refine G (Yu Z)<|G (Xa Z Z)<|G (Xi Z Z)<|G (Xi Z Z)<|bo H 1 (#[J (ck),J (wt),J (gn),.slice mA2 ms2.length mC2,.slice oA2 os.length oC2]) bD Z Z Z Z Z N N fun w4 H=>G (Wi Z)<|G (Wi Z)<|U<|W<|Zb<|W<|Zr<|G (Yi Z)<|G (bZ Z Z Z)<|G (Wb Z)<|U<|ZF Z<|W<|Zr<|G (Yi Z)<|G (yg Z Z (by decide))<|G (Wb Z)<|U<|ZT Z<|W<|Zr<|G (bg (cs:= #[J (0),J (0),J (0),.slice none 0 0,.slice none 0 0]) kc d8 N)<|bo H 0 (#[J (0),J (0),J (0),.slice none 0 0,.slice none 0 0]) bD Z Z Z Z Z N N fun w5 H=>G (Wi Z)<|G (Wi Z)<|U<|Zt ?_
 exact gE (cs0:= #[J 0,J 0,J 0,.slice none 0 0,.slice none 0 0]) (v1:=J 0) (v2:=J 5) Z aQ Z (H.ent (i:=0) Z) Z Z Z ⟨rfl,H.below⟩
theorem Bi (g:Gr) (s:ByteArray) (gn_:Int) (w:World) (h:g.rd 0 w.heap.size w) (hok:lM g=true) (hn:bL s=true) (i:Nat) (hi:qg g s=i) (hg:g.gen≠gn_):dh aa sO [g.v,.string s,J gn_] w fun v w2=>v=.tuple #[.agg #[J 0,J 0,J 0,.slice none 0 0,.slice none 0 0],J 0,J 10]/\Below w.heap.size w w2:=by
 refine aE rH Z Z ?_
 have hmC:=h.mC
 have hoC:=h.oC
 have hfew:=h.few
 have hfp:=h.fewP
 have H:=Hp.startGr h
 obtain⟨ck,wt,gn,ms,mA,mC,os,oA,oC⟩:=g
 dsimp only at hmC hoC hfew hfp H
 show CW _ _ _ _ (args [.agg #[J (ck),J (wt),J (gn),.slice mA ms.length mC,.slice oA os.length oC],.string (s),J (gn_)]) w
 dsimp only at hg
 refine W<|Zr<|f7 H Z Z fun w1 b3 H=>eP H d8 Z fun w2 b6 H=>G (Wi Z)<|G (Wi Z)<|U<|W<|Zr<|G (Zw aQ H 1 Z Z Z)<|G (Yt Z)<|ch gy (mR ⟨ck,wt,gn,ms,mA,mC,os,oA,oC⟩ s _ ⟨H.rd0 0 Z,fun m hm=>zL H 1 Z hm,H.rd0 2 Z,hmC,hoC,hfew,hfp⟩ hok hn) Z Z ?_
 rintro _ w3 ⟨⟨ck2,wt2,gn2,ms2,mA2,mC2,os2,oA2,oC2⟩,Lm,Lo,rfl,ha2,ho2,hoo2,hmc2,hoc2,hpc2,hj2⟩
 have hlo2:=H.size
 replace H:=Hp.joinG H hj2 (fun m hm=>(hpc2 m hm).2);clear hj2
 simp only[Gr.a,Gr.mk.injEq]at ha2
 obtain⟨e1,e2,e3,hma,-,-,e4,-,-⟩:=ha2
 obtain rfl:ck=ck2:=e1.symm
 obtain rfl:wt=wt2:=e2.symm
 obtain rfl:gn=gn2:=e3.symm
 obtain rfl:os=os2:=e4.symm
 dsimp only at ho2 hoo2 hmc2 hoc2 hpc2 H
 replace hpc2: ∀ m∈ms2,m.parts.length<=m.cap/\w.heap.size<=m.lo:=fun m hm=>⟨(hpc2 m hm).1,aU hlo2 (hpc2 m hm).2⟩
 have hml2:ms2.length=ms.length:=by have:=congrArg ci hma;simpa using this
 rw[hi]
 refine G (Yu Z)<|G (Xa Z Z)<|G (Xi Z Z)<|G (Xi Z Z)<|bo H 1 (#[J (ck),J (wt),J (gn),.slice mA2 ms2.length mC2,.slice oA2 os.length oC2]) bD Z Z Z Z Z N N fun w4 H=>G (Wi Z)<|G (Wi Z)<|U<|W<|Zb<|W<|Zr<|G (Yi Z)<|G (bZ Z Z Z)<|G (Wb Z)<|U<|ZF Z<|W<|Zr<|G (Yi Z)<|G (dd Z Z I)<|G (Wb Z)<|U<|ZF Z<|W<|Zr<|G (Zf kw Z)<|G (Zd ak H 1 Z Z Z)<|G (Yi Z)<|G (kh Z Z I)<|G (Wb Z)<|U<|ZT Z<|W<|Zr<|G (bg (cs:= #[J (0),J (0),J (0),.slice none 0 0,.slice none 0 0]) kc d8 N)<|bo H 0 (#[J (0),J (0),J (0),.slice none 0 0,.slice none 0 0]) bD Z Z Z Z Z N N fun w5 H=>G (Wi Z)<|G (Wi Z)<|U ?_
 refine Zt ?_
 exact gE (cs0:= #[J 0,J 0,J 0,.slice none 0 0,.slice none 0 0]) (v1:=J 0) (v2:=J 10) Z aQ Z (H.ent (i:=0) Z) Z Z Z ⟨rfl,H.below⟩
theorem zM (g:Gr) (s:ByteArray) (gn_:Int) (w:World) (h:g.rd 0 w.heap.size w) (hok:lM g=true) (hn:bL s=true) (i:Nat) (hi:qg g s=i) (hg:g.gen=gn_):dh aa sO [g.v,.string s,J gn_] w fun v w2=> ∃ (g':Gr) (Lm Lo:List (Nat×Obj)),v=.tuple #[g'.v,J (i:Nat),J 0]/\rc w w2 g.a g' Lm Lo:=by
 refine aE rH Z Z ?_
 have hmC:=h.mC
 have hoC:=h.oC
 have hfew:=h.few
 have hfp:=h.fewP
 have H:=Hp.startGr h
 obtain⟨ck,wt,gn,ms,mA,mC,os,oA,oC⟩:=g
 dsimp only at hmC hoC hfew hfp H
 show CW _ _ _ _ (args [.agg #[J (ck),J (wt),J (gn),.slice mA ms.length mC,.slice oA os.length oC],.string (s),J (gn_)]) w
 dsimp only at hg
 refine W<|Zr<|f7 H Z Z fun w1 b3 H=>eP H d8 Z fun w2 b6 H=>G (Wi Z)<|G (Wi Z)<|U<|W<|Zr<|G (Zw aQ H 1 Z Z Z)<|G (Yt Z)<|ch gy (mR ⟨ck,wt,gn,ms,mA,mC,os,oA,oC⟩ s _ ⟨H.rd0 0 Z,fun m hm=>zL H 1 Z hm,H.rd0 2 Z,hmC,hoC,hfew,hfp⟩ hok hn) Z Z ?_
 rintro _ w3 ⟨⟨ck2,wt2,gn2,ms2,mA2,mC2,os2,oA2,oC2⟩,Lm,Lo,rfl,ha2,ho2,hoo2,hmc2,hoc2,hpc2,hj2⟩
 have hlo2:=H.size
 replace H:=Hp.joinG H hj2 (fun m hm=>(hpc2 m hm).2);clear hj2
 simp only[Gr.a,Gr.mk.injEq]at ha2
 obtain⟨e1,e2,e3,hma,-,-,e4,-,-⟩:=ha2
 obtain rfl:ck=ck2:=e1.symm
 obtain rfl:wt=wt2:=e2.symm
 obtain rfl:gn=gn2:=e3.symm
 obtain rfl:os=os2:=e4.symm
 dsimp only at ho2 hoo2 hmc2 hoc2 hpc2 H
 replace hpc2: ∀ m∈ms2,m.parts.length<=m.cap/\w.heap.size<=m.lo:=fun m hm=>⟨(hpc2 m hm).1,aU hlo2 (hpc2 m hm).2⟩
 have hml2:ms2.length=ms.length:=by have:=congrArg ci hma;simpa using this
 rw[hi]
 refine G (Yu Z)<|G (Xa Z Z)<|G (Xi Z Z)<|G (Xi Z Z)<|bo H 1 (#[J (ck),J (wt),J (gn),.slice mA2 ms2.length mC2,.slice oA2 os.length oC2]) bD Z Z Z Z Z N N fun w4 H=>G (Wi Z)<|G (Wi Z)<|U<|W<|Zb<|W<|Zr<|G (Yi Z)<|G (bZ Z Z Z)<|G (Wb Z)<|U<|ZF Z<|W<|Zr<|G (Yi Z)<|G (dd Z Z I)<|G (Wb Z)<|U<|ZF Z<|W<|Zr<|G (Zf kw Z)<|G (Zd ak H 1 Z Z Z)<|G (Yi Z)<|G (bZ Z Z I)<|G (Wb Z)<|U<|ZF Z<|Zk<|W<|Zr<|G (Zw aQ H 1 Z Z Z)<|G (Yi Z)<|bo H 0 (#[J (ck),J (wt),J (gn),.slice mA2 ms2.length mC2,.slice oA2 os.length oC2]) bD Z Z Z Z Z N N fun w5 H=>G (Wi Z) ?_
 refine G (Wi Z)<|U<|Zt ?_
 exact gE (cs0:= #[J (ck),J (wt),J (gn),.slice mA2 ms2.length mC2,.slice oA2 os.length oC2]) (v1:=J (i:Nat)) (v2:=J 0) Z aQ Z (H.ent (i:=0) Z) Z Z Z ⟨⟨ck,wt,gn,ms2,mA2,mC2,os,oA2,oC2⟩,Lm,Lo,rfl,by unfold Gr.a;dsimp only;rw[hma],ho2,hoo2,hmc2,hoc2,hpc2,H.forget (by rw[aD];exact .cons _ (.cons _ (ar _))) (fun f hf=>by simp only[ax,ap];grind)⟩
/-- a comparing function's answer says less or not -/
def Ny (cmpv:Int->Int->Int) (a b:Int):Bool:=decide (cmpv a b<0)
theorem Kb {w0 w:World} {M:List (Nat×Obj)} {F:List cB} {g n:Nat} {u:Array Value} (es:List Int) (c:Nat) (H:Hp w0 w ((g,.cells u db (0,0))::M) F) (row:dX bR es c u) (hn:n=es.length) (h12:es.length<=19) {f:FuncId} {cap:List Value} (hf:bk aa f=true) (cmpv:Int->Int->Int) (hp: ∀ a b:Int,a∈es->b∈es-> ∀ (w':World) (u':Array Value),Hp w0 w' ((g,.cells u' db (0,0))::M) F->dh aa f (J a::J b::cap) w' fun v w2=>v=J (cmpv a b)/\Below w'.heap.size w' w2):
  dh aa mn [.slice (Qd g) n c,J 0,J (n:Nat),.func (.func f) #[] cap.toArray] w fun v w2=> ∃ u2,v=.tuple #[]/\dX bR (ki (Ny cmpv) n es) c u2/\Hp w0 w2 ((g,.cells u2 db (0,0))::M) F:=by
 refine aE lN Z Z ?_
 have hle:=row.le
 refine W<|Zr<|G (Yi Z)<|G (bw Z Z I I)<|G (Wi Z)<|U<|Zb ?_
 refine cD (τ:=Nat×List Int×Array Value) [8,9,12,13,14,15,16,17,18,19,20,21,22,23,24,25,26,27,28,29,30,31,32,33,34,35,36,37,38,39,40,41,42,43,44,45,46,47,48,49,50,51,52] (fun(i,_,_)=>[(8,J (i:Nat))]) (fun(i,l,u1) w'=>1<=i/\i<=n+1/\(n≠0->i<=n)/\l=ki (Ny cmpv) i es/\(∀ y∈l,y∈es)/\dX bR l c u1/\Hp w0 w' ((g,.cells u1 db (0,0))::M) F) (fun(i,_)=>n+1-i) (1,es,u) ⟨by omega,by omega,by omega,rfl,fun _ h=>h,row,H⟩ (dP Z) ?_
 rintro⟨i,l,u1⟩ ρ1 w1 ⟨hi1,hin,hi0,hl,hle1,row1,H⟩
 show CW _ _ _ _ (dH (gZ _ _ ρ1) [(8,J (i:Nat))]) w1
 have hll:l.length=n:=by rw[hl,AY,hn]
 refine W<|W<|Zr<|G (Yi Z)<|G (Yi Z) ?_
 refine cW (cK Z Z) Z Z Z (fun h14=> ?_) (fun h14=> ?_)
 refine U<|ZT Z<|Zk<|W<|Zb<|W<|Zr<|G (Yi Z)<|G (Wi Z)<|U<|Zb ?_
 refine cD (τ:=Nat×List Int×Array Value) [9,18,19,20,21,22,23,24,25,26,27,28,29,30,31,32,33,34,35,36,37,38,39,40,41,42,43,44,45,46,47,48,49,50,51,52] (fun(j,_,_)=>[(9,J (j:Nat))]) (fun(j,m,u2) w'=>j<=i/\m.length=n/\Al (Ny cmpv) j m=ki (Ny cmpv) (i+1) es/\(∀ y∈m,y∈es)/\dX bR m c u2/\Hp w0 w' ((g,.cells u2 db (0,0))::M) F) (fun(j,_)=>j) (i,l,u1) ⟨by omega,hll,by rw[hl];rfl,hle1,row1,H⟩ (dP Z) ?_
 rintro⟨j,m,u2⟩ ρ2 w2 ⟨hj,hml,hm,hle2,row2,H⟩
 show CW _ _ _ _ (dH (gZ _ _ ρ2) [(9,J (j:Nat))]) w2
 refine W<|W ?_
 obtain⟨a,ha0⟩: ∃ a,a=m.getD (j-1) 0:=⟨_,rfl⟩
 obtain⟨b,hb0⟩: ∃ b,b=m.getD j 0:=⟨_,rfl⟩
 refine bA cd [0,1,2,3,4,5,6,7,8,9,10,11,12,13,14,15,16] [] [14] [0,1,2,3,4,5,6,7,9,10,11,12,15,16] (sp [(14,Sp.one (J (cmpv b a)))]) N N N N Nq (cI _) ?_
 refine aw Z Z Z Z Z (fun w' hw'=>Yi Z)<|aw Z Z Z Z Z (fun w' hw'=>Yi Z) ?_
 refine B2 Z Z Z Z Z (fun w' hw'=>km Z Z) (fun h20=> ?_) (fun h20=> ?_)
 obtain⟨q,rfl⟩: ∃ q,j=q+1:=⟨j-1,by omega⟩
 have ha:m[q]? =some a:=by rw[ha0];exact getD_some 0 I
 have hb:m[q+1]? =some b:=by rw[hb0];exact getD_some 0 I
 have ha2:(m.set (q+1) a)[q]? =some a:=by rw[bQ I];exact ha
 have hma:=hle2 a (ab ha)
 have hmb:=hle2 b (ab hb)
 refine aw Z Z Z Z Z (fun w' hw'=>Yb Z)<|aw Z Z Z Z Z (fun w' hw'=>tg Z)<|aw Z Z Z Z Z (fun w' hw'=>Ys Z)<|aw Z Z Z Z Z (fun w' hw'=>Yi Z)<|aw Z Z Z Z Z (fun w' hw'=>cG bc Z Z (by first|omega|(simp only[ae];omega)))<|aw Z Z Z Z Z (fun w' hw'=>bP ak row2 hb 0 Z ((H.later hw').ent (i:=0) Z) Z)<|aw Z Z Z Z Z (fun w' hw'=>Ys Z)<|aw Z Z Z Z Z (fun w' hw'=>Yi Z)<|aw Z Z Z Z Z (fun w' hw'=>xV ((q:Nat):Int) Z Z I I I)<|aw Z Z Z Z Z (fun w' hw'=>cG bc Z Z (by first|omega|(simp only[ae];omega)))<|aw Z Z Z Z Z (fun w' hw'=>bP ak row2 ha 0 Z ((H.later hw').ent (i:=0) Z) Z)<|OT hf Z Z Z Z Z Z (fun w' hw'=>hp b a hmb hma w' u2 (H.later hw')) Z ?_
 refine B2 Z Z Z Z Z (fun w' hw'=>cK Z Z) (fun h33=> ?_) (fun h33=> ?_)
 refine aw Z Z Z Z Z (fun w' hw'=>Kt Z Z)<|aV ?_
 intro w3 hw' hF
 replace H:=H.later hw';clear hw' hF
 refine U<|ZT Z<|Zk<|W<|Zb ?_
 refine bA cd [0,1,2,3,4,5,6,7,8,9,10,11,12,13,14] [15,16,17] [] [0,1,2,3,4,5,6,7,8,10,11,12,14] (sp []) N N N N Nq (cI _) ?_
 refine aw Z Z Z Z Z (fun w' hw'=>Ys Z)<|aw Z Z Z Z Z (fun w' hw'=>Yi Z)<|aw Z Z Z Z Z (fun w' hw'=>Ys Z)<|aw Z Z Z Z Z (fun w' hw'=>Yi Z)<|aw Z Z Z Z Z (fun w' hw'=>xV ((q:Nat):Int) Z Z I I I)<|aw Z Z Z Z Z (fun w' hw'=>Ys Z)<|aw Z Z Z Z Z (fun w' hw'=>Yi Z)<|aw Z Z Z Z Z (fun w' hw'=>xV ((q:Nat):Int) Z Z I I I)<|aw Z Z Z Z Z (fun w' hw'=>cG bc Z Z (by first|omega|(simp only[ae];omega)))<|aw Z Z Z Z Z (fun w' hw'=>bP ak row2 ha 0 Z ((H.later hw').ent (i:=0) Z) Z)<|aw Z Z Z Z Z (fun w' hw'=>Ys Z)<|aw Z Z Z Z Z (fun w' hw'=>Yi Z)<|aw Z Z Z Z Z (fun w' hw'=>cG bc Z Z (by first|omega|(simp only[ae];omega)))<|aw Z Z Z Z Z (fun w' hw'=>bP ak row2 hb 0 Z ((H.later hw').ent (i:=0) Z) Z)<|aw Z Z Z Z Z (fun w' hw'=>cG bc Z Z (by first|omega|(simp only[ae];omega)))<|aV ?_
 intro w4 hw' hF
 replace H:=H.later hw';clear hw' hF
 refine k9 H 0 (a) bH row2 hb 0 Z Z Z Z Z Z N fun w6 cur5 row5 H=> ?_
 have hs7:(m.set (q+1) (a))[(q+1)]? =some (a):=al (cC hb).1
 refine G (cG bc Z Z (by first|omega|(simp only[ae];omega)))<|k9 H 0 (b) bH row5 ha2 0 Z Z Z Z Z Z N fun w9 cur8 row8 H=> ?_
 have hs10:((m.set (q+1) (a)).set q (b))[q]? =some (b):=al (cC ha2).1
 refine U<|Zr<|G (Yi Z)<|G (xV ((q:Nat):Int) Z Z I I I)<|G (Wi Z)<|U ?_
 exact⟨(q,(m.set (q+1) a).set q b,_),⟨by omega,by simp[hml],by rw[<-hm,IP ha hb (decide_eq_true h33)],fun y hy=>(by rcases aM hy with hy|rfl;rcases aM hy with hy|rfl;exact hle2 y hy;exact hma;exact hmb),row8,H⟩,dP Z,Qg,by show q<q+1;omega⟩
 refine aw Z Z Z Z Z (fun w' hw'=>Kt Z Z)<|aV ?_
 intro w11 hw' hF
 replace H:=H.later hw';clear hw' hF
 refine U<|ZF Z<|Zx<|Zr<|G (Yi Z)<|G (bw Z Z I I)<|G (Wi Z)<|U ?_
 have hm2:m=ki (Ny cmpv) (i+1) es:=by rw[<-hm,Db ha hb (decide_eq_false h33)]
 exact⟨(i+1,m,u2),⟨by omega,by omega,by omega,hm2,hle2,row2,H⟩,dP Z,Qg,by show n+1- (i+1)<n+1-i;omega⟩
 refine aw Z Z Z Z Z (fun w' hw'=>Yb Z)<|eU Z Z Z Z<|eU Z Z Z Z<|eU Z Z Z Z<|eU Z Z Z Z<|eU Z Z Z Z<|eU Z Z Z Z<|eU Z Z Z Z<|eU Z Z Z Z<|eU Z Z Z Z<|eU Z Z Z Z<|eU Z Z Z Z<|eU Z Z Z Z<|aw Z Z Z Z Z (fun w' hw'=>N Z Z)<|aV ?_
 intro w12 hw' hF
 replace H:=H.later hw';clear hw' hF
 refine U<|ZF Z<|Zx<|Zr<|G (Yi Z)<|G (bw Z Z I I)<|G (Wi Z)<|U ?_
 have hm2:m=ki (Ny cmpv) (i+1) es:=by rw[<-hm,show j=0 by omega];rfl
 exact⟨(i+1,m,u2),⟨by omega,by omega,by omega,hm2,hle2,row2,H⟩,dP Z,Qg,by show n+1- (i+1)<n+1-i;omega⟩
 refine U<|ZF Z<|Zx ?_
 have hfin:=Ly (n:=n) hl hi1 hin hi0 I
 subst hfin
 dsimp only[B6,Rj,MH,ez,cond]
 exact PW Z ⟨u1,rfl,row1,H⟩
theorem DV {w0 w:World} {M:List (Nat×Obj)} {F:List cB} {g n:Nat} {u:Array Value} (es:List Int) (c:Nat) (H:Hp w0 w ((g,.cells u db (0,0))::M) F) (row:dX bR es c u) (hn:n=es.length) (h12:es.length<=19) {f:FuncId} {cap:List Value} (hf:bk aa f=true) (cmpv:Int->Int->Int) (hp: ∀ a b:Int,a∈es->b∈es-> ∀ (w':World) (u':Array Value),Hp w0 w' ((g,.cells u' db (0,0))::M) F->dh aa f (J a::J b::cap) w' fun v w2=>v=J (cmpv a b)/\Below w'.heap.size w' w2):
  dh aa qd [.slice (Qd g) n c,J (n:Nat),.func (.func f) #[] cap.toArray] w fun v w2=> ∃ u2,v=.tuple #[]/\dX bR (ki (Ny cmpv) n es) c u2/\Hp w0 w2 ((g,.cells u2 db (0,0))::M) F:=by
 refine aE pP Z Z ?_
 have hle:=row.le
 refine W<|Zr<|G (Wi Z)<|U<|W<|Zr<|G (Yi Z)<|G (Wi Z)<|G (Wi Z)<|U<|W<|Zb ?_
 refine cD (τ:=Unit) [7,8,11,12,13,14,15,16,17,18,19,20,21,22] (fun _=>[(7,J 0),(8,J 20)]) (fun _ w'=>w'=w) (fun _=>0) () Z (li Z Z) ?_
 rintro _ ρ1 _ rfl
 show CW _ _ _ _ (dH (gZ _ _ ρ1) [(7,J 0),(8,J 20)]) _
 refine W<|W<|Zr<|G (Yi Z)<|G (Yi Z)<|G (PN Z Z I)<|U<|ZF Z<|Zx<|W<|Zr<|G (Ys Z)<|G (Yi Z)<|G (Yi Z)<|G (tg Z)<|ch lT (Kb es c H row hn h12 hf cmpv hp) Z Z ?_
 rintro _ w1 ⟨u2,rfl,row2,H⟩
 refine U<|Zb ?_
 refine cD (τ:=Unit) [6,7,8,9,28,29,30,31,32,33,34,35,36,37,38,39,40,41,42,43,44,45,46,47,48,49,50,51,52,53,54,55,56,57,58,59,60,61,62] (fun _=>[(6,J 20)]) (fun _ w'=>Hp w0 w' ((g,.cells u2 db (0,0))::M) F) (fun _=>0) () H (dP Z) ?_
 rintro _ ρ2 w2 H
 show CW _ _ _ _ (dH (gZ _ _ ρ2) [(6,J 20)]) w2
 refine W<|W<|Zr<|G (Yi Z)<|G (Yi Z)<|G (dd Z Z I)<|U<|ZF Z<|Zx ?_
 dsimp only[B6,Rj,MH,ez,cond]
 exact PW Z ⟨u2,rfl,row2,H⟩
theorem B7 {w0 w:World} {M:List (Nat×Obj)} {F:List cB} {g n:Nat} {u:Array Value} (es:List Int) (c:Nat) (H:Hp w0 w ((g,.cells u db (0,0))::M) F) (row:dX bR es c u) (hn:n=es.length) (h12:es.length<=19) {f:FuncId} {cap:List Value} (hf:bk aa f=true) (cmpv:Int->Int->Int) (hp: ∀ a b:Int,a∈es->b∈es-> ∀ (w':World) (u':Array Value),Hp w0 w' ((g,.cells u' db (0,0))::M) F->dh aa f (J a::J b::cap) w' fun v w2=>v=J (cmpv a b)/\Below w'.heap.size w' w2):
  dh aa mO [.slice (Qd g) n c,.func (.func f) #[] cap.toArray] w fun v w2=> ∃ u2,v=.tuple #[]/\dX bR (ki (Ny cmpv) n es) c u2/\Hp w0 w2 ((g,.cells u2 db (0,0))::M) F:=by
 refine aE mp Z Z ?_
 have hle:=row.le
 refine Zr<|G (Ys Z)<|G (Ys Z)<|G (br eM Z)<|G (tg Z)<|ch pX (DV es c H row hn h12 hf cmpv hp) Z Z ?_
 rintro _ w1 ⟨u2,rfl,row2,H⟩
 refine U ?_
 show KR aa Tryz.f141 _ .normal _ _
 exact PW Z ⟨u2,rfl,row2,H⟩
/-- a list of numbers, and where it lies -/
structure Il where
 A:Option Addr
 cap:Nat
 es:List Int
def Il.c (x:Il):List Value:=[.slice x.A x.es.length x.cap]
def Qk:fq Il:=⟨Il.c,1,fun _=>rfl,by decide,fun a u hu=>by
 simp only[Il.c,aq]at hu;subst hu;rfl⟩
def QZ:Il:=⟨none,0,[]⟩
def tr:List Il->List (Nat×Obj)->Prop
 |[],L=>L=[]
 |t::ts,L=> ∃ L1 L2,L=L1++L2/\gz bR (.slice t.A t.es.length t.cap) db t.es L1/\tr ts L2
theorem tr.at_: ∀ {ts:List Il} {L:List (Nat×Obj)} {i:Nat} {t:Il},tr ts L->ts[i]? =some t-> ∃ La Lt Lb,L=La++Lt++Lb/\gz bR (.slice t.A t.es.length t.cap) db t.es Lt/\ ∀ (t':Il) (Lt':List (Nat×Obj)),gz bR (.slice t'.A t'.es.length t'.cap) db t'.es Lt'->tr (ts.set i t') (La++Lt'++Lb)
 |x::ts,L,0,t,⟨L1,L2,h1,h2,h3⟩,hi=>by
  cases hi
  exact⟨[],L1,L2,by simpa using h1,h2,fun t' Lt' h'=>⟨Lt',L2,by simp,h',h3⟩⟩
 |x::ts,L,i+1,t,⟨L1,L2,h1,h2,h3⟩,hi=>by
  obtain⟨La,Lt,Lb,e,ho,hs⟩:=tr.at_ h3 (show ts[i]? =some t from hi)
  exact⟨L1++La,Lt,Lb,by rw[h1,e];simp[aD],ho,fun t' Lt' h'=>⟨L1,La++Lt'++Lb,by simp[aD],h2,hs t' Lt' h'⟩⟩
theorem tr.nils: ∀ n:Nat,tr (au n QZ) []
 |0=>rfl
 |n+1=>⟨[],[],rfl,gz.nil,tr.nils n⟩
theorem tr.rd {w0 w:World} {K L:List (Nat×Obj)} {F:List cB} {ts:List Il} (h:tr ts L) (H:Hp w0 w (K++L) F) {t:Il} (ht:t∈ts):Rd bR w0.heap.size w.heap.size t.A t.es w/\t.es.length<=t.cap:=by
 obtain⟨i,hi⟩:=aT.1 ht
 obtain⟨La,Lt,Lb,rfl,ho,-⟩:=h.at_ hi
 refine⟨ho.rd (K:=K++La) (M:=Lb) (F:=F) (by simpa [aD]using H),?_⟩
 obtain⟨_,c,e,hc,_⟩:=ho.form
 injection e with _ _ e
 subst e;exact hc
theorem PQ {w0 w:World} {F:List cB} (X A B C:List (Nat×Obj)) (H:Hp w0 w (X++(A++B++C)) F):Hp w0 w ((X++A)++B++C) F:=by simpa [aD]using H
theorem OD {w0 w:World} {F:List cB} (X A B C:List (Nat×Obj)) (H:Hp w0 w ((X++A)++B++C) F):Hp w0 w (X++(A++B++C)) F:=by simpa [aD]using H
def GS (x y:ByteArray):Int:=if Qi x y then-1 else if !(Qi x y||x.toList==y.toList)then 1 else 0
def Ei (names:List ByteArray) (a:Int):ByteArray:=names.getD a.toNat ⟨#[]⟩
def P7 (names:List ByteArray) (a b:Int):Int:=GS (Ei names a) (Ei names b)
def rg (n:Nat):List Int:=(B4 n).map fun(i:Nat)=>(i:Int)
def JY (names:List ByteArray):List Int:=ki (Ny (P7 names)) names.length (rg names.length)
def z7 (names:List ByteArray) (q:Nat):Int:=(JY names).getD (q%names.length) 0
def mI (names:List ByteArray) (p:Nat) (i:Nat):List Int:=(rg p).filter fun q=>decide (z7 names q.toNat=i)
def gO (names:List ByteArray) (p:Nat):List (List Int):=(B4 names.length).map (mI names p)
theorem CX (n:Nat):rg (n+1)=rg n++[(n:Int)]:=by unfold rg;rw[List.range_succ,bl];rfl
theorem lk (n:Nat):(rg n).length=n:=by simp[rg]
theorem wM {n:Nat} {x:Int}:x∈rg n↔ ∃ i:Nat,i<n/\x=i:=by
 unfold rg
 simp only[bp,List.mem_range]
 constructor<;>rintro⟨i,h1,h2⟩<;>exact⟨i,h1,h2.symm⟩
theorem Ec (names:List ByteArray) (p i:Nat):mI names (p+1) i=if z7 names p=i then mI names p i++[(p:Int)]else mI names p i:=by
 unfold mI
 rw[CX,jj]
 by_cases h:z7 names p=i
 rw[if_pos h,ka (by simpa using h)];rfl
 rw[if_neg h,oX (by simpa using h)];simp
theorem Kg:(aa.info? 3).map (fun i=>(i.zero,i.size,i.bytes))=some (some (J 0),1,8):=by kernel_rfl
theorem HY:(aa.info? 44).map (fun i=>(i.zero,i.size,i.bytes))=some (some (.slice none 0 0),1,24):=by kernel_rfl
theorem I9 {i n:Nat} (h:i<n):(rg i++au (n-i) (0:Int))[i]? =some 0:=by
 rw[bX (by rw[lk];omega),lk,my,f5,if_pos I]
theorem MQ {i n:Nat} (h:i<n):(rg i++au (n-i) (0:Int)).set i (i:Int)=rg (i+1)++au (n- (i+1)) 0:=by
 rw[jk _ _ (by rw[lk];omega),lk,my,show n-i=(n- (i+1))+1 by omega,j0,B3,CX,aD]
 rfl
theorem De (names:List ByteArray):(JY names).Perm (rg names.length):=by
 have:=AU (lt:=Ny (P7 names)) (rg names.length)
 rwa[lk]at this
theorem PE {names:List ByteArray} {q:Nat} (h:names.length≠0): ∃ i:Nat,i<names.length/\(JY names)[q%names.length]? =some (i:Int)/\z7 names q=i:=by
 have hl:(JY names).length=names.length:=by rw[(De names).length_eq,lk]
 have hm:q%names.length<(JY names).length:=by rw[hl];exact jJ _ I
 have h1:=getD_some (0:Int) hm
 obtain⟨i,hi,he⟩:=wM.1 ((De names).mem_iff.1 (ab h1))
 exact⟨i,hi,by rw[h1,he],he⟩
theorem yP (names:List ByteArray) (p i:Nat):(mI names p i).length<=p:=by
 have:=List.length_filter_le (fun q=>decide (z7 names q.toNat=i)) (rg p)
 rwa[lk]at this
theorem E4 (names:List ByteArray) (A:Option Addr) (c:Nat) (x y:ByteArray) (i j b:Nat) (w:World) (hx:w.heap[b]? =some (.cells #[.slice A names.length c] mh (0,0))) (hr:Rd nz 0 w.heap.size A names w) (hi:names[i]? =some x) (hj:names[j]? =some y):
  dh aa xe [J (i:Nat),J (j:Nat),.pointer (Qd b)] w fun v w2=>v=J (GS x y)/\Below w.heap.size w w2:=by
 refine aE wn Z Z ?_
 have H:=Hp.startRd hr
 have hb:=ce hx
 have hil:=(cC hi).1
 have hjl:=(cC hj).1
 refine W<|Zr<|G (Wi Z)<|U<|W<|Zb<|W ?_
 refine bA cd [0,1,2,3,4,5,6,7,8,9] [] [] [1,2,5,6,8,9] (sp []) N N N N Nq (cI _) ?_
 refine aw Z Z Z Z Z (fun w' hw'=>aW jt Z (((H.later hw').below.cell (p:=⟨b,_,none⟩) hb).trans (aB (j:=0) hx Z)))<|aw Z Z Z Z Z (fun w' hw'=>Yi Z)<|jO H 0 Z Z Z Z Z iy Z Z I I fun bq1 o1 x1 e1=> ?_
 obtain rfl:x=x1:=by have:=e1.at_;rw[hi]at this;exact ba this
 refine aw Z Z Z Z Z (fun w' hw'=>aW bd Z (e1.later hw' 0 _ Z))<|aw Z Z Z Z Z (fun w' hw'=>aW jt Z (((H.later hw').below.cell (p:=⟨b,_,none⟩) hb).trans (aB (j:=0) hx Z)))<|aw Z Z Z Z Z (fun w' hw'=>Yi Z)<|jO H 0 Z Z Z Z Z iy Z Z I I fun bq2 o2 x2 e2=> ?_
 obtain rfl:y=x2:=by have:=e2.at_;rw[hj]at this;exact ba this
 refine aw Z Z Z Z Z (fun w' hw'=>aW bd Z (e2.later hw' 0 _ Z))<|aw Z Z Z Z Z (fun w' hw'=>Ps Z Z)<|aw Z Z Z Z Z (fun w' hw'=>Wb Z)<|aV ?_
 intro w3 hw' hF
 replace H:=H.later hw';clear hw' hF
 refine U ?_
 refine jw Z (fun hc6=> ?_) (fun hc6=> ?_)
 refine W<|Zr<|G (Wi Z)<|U<|Zt ?_
 have hv:GS x y= -1:=by unfold GS;rw[if_pos hc6]
 exact cH (v:=J (-1)) Z Z ⟨by rw[hv],H.below⟩
 refine W ?_
 refine bA cd [0,1,2,3,4,5,6,7,8,9] [] [] [1,2,5,6,8,9] (sp []) N N N N Nq (cI _) ?_
 refine aw Z Z Z Z Z (fun w' hw'=>aW jt Z (((H.later hw').below.cell (p:=⟨b,_,none⟩) hb).trans (aB (j:=0) hx Z)))<|aw Z Z Z Z Z (fun w' hw'=>Yi Z)<|jO H 0 Z Z Z Z Z iy Z Z I I fun bq4 o4 x4 e4=> ?_
 obtain rfl:x=x4:=by have:=e4.at_;rw[hi]at this;exact ba this
 refine aw Z Z Z Z Z (fun w' hw'=>aW bd Z (e4.later hw' 0 _ Z))<|aw Z Z Z Z Z (fun w' hw'=>aW jt Z (((H.later hw').below.cell (p:=⟨b,_,none⟩) hb).trans (aB (j:=0) hx Z)))<|aw Z Z Z Z Z (fun w' hw'=>Yi Z)<|jO H 0 Z Z Z Z Z iy Z Z I I fun bq5 o5 x5 e5=> ?_
 obtain rfl:y=x5:=by have:=e5.at_;rw[hj]at this;exact ba this
 refine aw Z Z Z Z Z (fun w' hw'=>aW bd Z (e5.later hw' 0 _ Z))<|aw Z Z Z Z Z (fun w' hw'=>Pv Z Z)<|aw Z Z Z Z Z (fun w' hw'=>Wb Z)<|aV ?_
 intro w6 hw' hF
 replace H:=H.later hw';clear hw' hF
 refine U ?_
 refine jw Z (fun hc16=> ?_) (fun hc16=> ?_)
 refine W<|Zr<|G (Wi Z)<|U<|Zt ?_
 have hv:GS x y=1:=by unfold GS;rw[if_neg (by rw[hc6];decide),if_pos hc16]
 exact cH (v:=J (1)) Z Z ⟨by rw[hv],H.below⟩
 refine Zk<|W<|Zr<|G (Wi Z)<|U<|Zt ?_
 have hv:GS x y=0:=by unfold GS;rw[if_neg (by rw[hc6];decide),if_neg (by rw[hc16];decide)]
 exact cH (v:=J (0)) Z Z ⟨by rw[hv],H.below⟩
theorem KH (names:List ByteArray) (A:Option Addr) (c p:Nat) (w:World) (hr:Rd nz 0 w.heap.size A names w) (hn:names.length<=6) (hp:p<=4):
  dh aa Bd [.slice A names.length c,J (p:Nat)] w fun v w2=> ∃ (out:List Il) (B:Option Addr) (d:Nat),v=.slice B out.length d/\out.length<=d/\out.map Il.es=gO names p/\Rd Qk w.heap.size w2.heap.size B out w2/\(∀ x∈out,Rd bR w.heap.size w2.heap.size x.A x.es w2/\x.es.length<=x.cap)/\Below w.heap.size w w2:=by
 refine aE zr Z Z ?_
 have H:=Hp.startRd hr
 refine W<|Zr<|RZ H Z Z fun w1 b2 H=>G (Ws Z)<|U<|W<|Zr<|G (Zd jt H 0 Z Z Z)<|G (br l5 Z)<|pw (Y:=bR) (0) names.length H bc Kg Z Z Z I I Z fun w2 b12 cur12 row12 H=>G (Ws Z)<|U<|W<|W<|Zr<|G (Ys Z)<|G (br eM Z)<|G (Yi Z)<|U<|Zb ?_
 refine cD (τ:=Nat×Array Value) [6,15,16,17,18,19,20,21,22] (fun(i,_)=>[(15,J (i:Nat))]) (fun(i,u1) w'=>i<=names.length/\dX bR (rg i++au (names.length-i) 0) names.length u1/\Hp w w' [(b12,.cells u1 db (0,0)),(b2,.cells #[.slice A names.length c] mh (0,0))] [dU nz 0 w.heap.size A names]) (fun(i,_)=>names.length-i) (0,cur12) ⟨by omega,row12,H⟩ (dP Z) ?_
 rintro⟨i,u1⟩ ρ1 w3 ⟨hi,row,H⟩
 show CW _ _ _ _ (dH (gZ _ _ ρ1) [(15,J (i:Nat))]) w3
 have hfl:(rg i++au (names.length-i) (0:Int)).length=names.length:=by simp[lk];omega
 refine W<|Zr ?_
 refine cW (cK Z Z) Z Z Z (fun h16=> ?_) (fun h16=> ?_)
 refine U<|W<|ZT Z<|Zk<|W<|Zb<|W<|Zr<|G (Yi Z)<|G (Wi Z)<|U<|Zr<|G (Ys Z)<|G (Yi Z)<|G (Yi Z)<|G (cG bc Z Z (by first|omega|(simp only[ae];omega)))<|k9 H 0 ((i:Int)) bH row (I9 I) 0 Z Z Z Z Z Z N fun w5 cur4 row4 H=> ?_
 have hs6:(((rg i++au (names.length-i) 0)).set i ((i:Int)))[i]? =some ((i:Int)):=al (cC (I9 I)).1
 refine U<|Zr<|G (bw Z Z I I)<|G (Yi Z)<|U ?_
 exact⟨(i+1,_),⟨by omega,(MQ (show i<names.length by omega))▸row4,H⟩,dP Z,Qg,by show names.length- (i+1)<names.length-i;omega⟩
 refine U<|W<|ZF Z<|Zx<|W ?_
 obtain rfl:i=names.length:=by omega
 rw[my,List.replicate_zero,aZ]at row
 refine Zr<|G (Ys Z)<|G (AB Z)<|ch mt (B7 (M:=[(b2,.cells #[.slice A names.length c] mh (0,0))]) (rg names.length) names.length H row (lk _).symm (by rw[lk];omega) (cap:=[.pointer (Qd b2)]) wv (P7 names) (fun a b ha hb w' u' H'=>by obtain⟨i,hi,rfl⟩:=wM.1 ha;obtain⟨j,hj,rfl⟩:=wM.1 hb;exact E4 names A c (Ei names i) (Ei names j) i j b2 w' (H'.ent (i:=1) Z) (H'.rd0 0 Z) (getD_some _ hi) (getD_some _ hj))) Z Z ?_
 rintro _ w7 ⟨u2,rfl,row2,H⟩
 replace row2:dX bR (JY names) names.length u2:=row2
 refine U<|W<|Zr<|G (Zd jt H 1 Z Z Z)<|G (br l5 Z)<|pw (Y:=Qk) (QZ) names.length H wR HY Z Z Z I I Z fun w8 b28 cur28 row28 H=>G (Ws Z)<|U<|W<|W<|Zr<|G (Zd jt H 2 Z Z Z)<|G (br l5 Z) ?_
 refine cW (bn Z Z) Z Z Z (fun h31=> ?_) (fun h31=> ?_)
 have hn0:names.length=0:=by omega
 refine U<|ZT Z<|W<|Zr<|G (Ys Z)<|G (Ws Z)<|U<|Zt ?_
 exact cH (v:=.slice (Qd b28) names.length names.length) Z Z ⟨[],_,names.length,by rw[hn0];rfl,bG _,by unfold gO;rw[hn0];rfl,Rd.nil,by simp,H.below⟩
 refine U<|ZF Z<|Zk<|W<|W<|Zr<|G (Yi Z)<|G (AJ Z Z) ?_
 rw[show max ((p:Nat):Int) 0=((p:Nat):Int) by omega]
 refine G (Yi Z)<|U<|Zb ?_
 refine cD (τ:=Nat×List Il×Array Value) [8,9,35,36,37,38,39,40,41,42,43,44,45,46,47,48,49,50,51,52,53,54,55] (fun(q,_,_)=>[(35,J (q:Nat))]) (fun(q,out,u3) w'=>q<=p/\out.length=names.length/\(∀ i x,out[i]? =some x->x.es=mI names q i)/\dX Qk out names.length u3/\ ∃ Lp,tr out Lp/\Hp w w' ([(b28,.cells u3 yF (0,0)),(b12,.cells u2 db (0,0)),(b2,.cells #[.slice A names.length c] mh (0,0))]++Lp) [dU nz 0 w.heap.size A names]) (fun(q,_,_)=>p-q) (0,au names.length QZ,cur28) ⟨by omega,by simp,(fun i x hx=>by rw[f5]at hx;split at hx;injection hx with hx;rw[<-hx];rfl;cases hx),row28,[],tr.nils _,H⟩ (dP Z) ?_
 rintro⟨q,out,u3⟩ ρ2 w9 ⟨hq,hol,hes,row3,Lp,hop,H⟩
 show CW _ _ _ _ (dH (gZ _ _ ρ2) [(35,J (q:Nat))]) w9
 refine W<|Zr ?_
 refine cW (cK Z Z) Z Z Z (fun h36=> ?_) (fun h36=> ?_)
 refine U<|W<|ZT Z<|Zk<|W<|Zb<|W<|Zr<|G (Yi Z)<|G (Wi Z)<|U<|W ?_
 obtain⟨i,hin,hod,htn⟩:=PE (names:=names) (q:=q) I
 obtain⟨r,hrq⟩: ∃ r,q%names.length=r:=⟨_,rfl⟩
 rw[hrq]at hod
 have hrn:r<names.length:=hrq▸jJ _ I
 obtain⟨x,hx⟩: ∃ x,out[i]? =some x:=⟨_,ah I⟩
 have hxe:=hes i x hx
 have hxl:x.es.length<=4:=by rw[hxe];have:=yP names q i;omega
 refine Zr<|G (Ys Z)<|G (Yi Z)<|G (Ys Z)<|G (br eM Z)<|G (O3 Z Z I I) ?_
 rw[show((q:Nat):Int)%((names.length:Nat):Int)=((r:Nat):Int)from by rw[<-hrq];exact(Int.natCast_emod q names.length).symm]
 refine G (cG bc Z Z (by first|omega|(simp only[ae];omega)))<|G (bP ak row2 hod 0 Z (H.ent (i:=1) Z) Z)<|G (Wi Z)<|U ?_
 obtain⟨La,Lt,Lb,rfl,hot,hset⟩:=hop.at_ hx
 refine Zr<|G (Ys Z)<|G (Yi Z)<|G (Ys Z)<|G (Yi Z)<|G (cG wR Z Z (by first|omega|(simp only[ae];omega)))<|G (bP cy row3 hx 0 Z (H.ent (i:=0) Z) Z)<|G (Yi Z)<|s9 (vs:=[J (((q:Nat):Int))]) H bc wI Z Z Z Z Z Z fun w10 b52 H=>vP (Y:=bR) zP (K:=[(b52,.cells #[J (((q:Nat):Int))] db (0,0)),(b28,.cells u3 yF (0,0)),(b12,.cells u2 db (0,0)),(b2,.cells #[.slice A names.length c] mh (0,0))]++La) (L:=Lt) (M:=Lb) (PQ _ La Lt Lb H) hot (news:=[((q:Nat):Int)]) Z Z Z (wz.row (m:=1) (sz:=bR.sz) (H.ent (i:=0) Z) Z) (show(x.es.length+1)*8<=140737488355328 by omega) Z ?_
 intro A53 c53 w11 L53 h53 _ ho53 HI
 replace H:=OD [(b52,.cells #[J (((q:Nat):Int))] db (0,0)),(b28,.cells u3 yF (0,0)),(b12,.cells u2 db (0,0)),(b2,.cells #[.slice A names.length c] mh (0,0))] La L53 Lb HI;clear HI
 refine G (cG wR Z Z (by first|omega|(simp only[ae];omega)))<|k9 H 1 ({A:=A53,cap:=c53,es:=x.es++[((q:Nat):Int)]}) jK row3 hx 0 Z Z Z Z Z Z N fun w13 cur12 row12 H=> ?_
 have hs14:(out.set i ({A:=A53,cap:=c53,es:=x.es++[((q:Nat):Int)]}))[i]? =some ({A:=A53,cap:=c53,es:=x.es++[((q:Nat):Int)]}):=al (cC hx).1
 refine U<|Zr<|G (bw Z Z I I)<|G (Yi Z)<|U ?_
 refine⟨(q+1,out.set i {A:=A53,cap:=c53,es:=x.es++[((q:Nat):Int)]},_),⟨by omega,by rw[ae];exact hol,fun j y hy=> ?_,row12,_,hset _ L53 ho53,H.forget (.cons _ (ar _)) (fun _ h=>h)⟩,dP Z,Qg,by show p- (q+1)<p-q;omega⟩
 rw[Ec,htn]
 by_cases hij:i=j
 subst hij;rw[al (cC hx).1]at hy;injection hy with hy;rw[<-hy,if_pos Z,hxe]
 rw[bQ hij]at hy;rw[if_neg I];exact hes j y hy
 refine U<|W<|ZF Z<|Zx<|W<|Zr<|G (Ys Z)<|G (Ws Z)<|U<|Zt ?_
 obtain rfl:q=p:=by omega
 have hmap:out.map Il.es=gO names q:=by
  apply en
  intro j
  unfold gO
  rw[aL,aL]
  by_cases hj:j<names.length
  obtain⟨y,hy⟩: ∃ y,out[j]? =some y:=⟨_,ah I⟩
  rw[hy,zU hj];exact congrArg some (hes j y hy)
  rw[cL I,cL (by rw[List.length_range];omega)];rfl
 exact cH (v:=.slice (Qd b28) names.length names.length) Z Z ⟨out,_,names.length,by rw[hol],by omega,hmap,(dX.own row3).rd (K:=[]) (M:=(b12,_)::(b2,.cells #[.slice A names.length c] mh (0,0))::Lp) H,fun x hx=>hop.rd (K:=[(b28,_),(b12,_),(b2,.cells #[.slice A names.length c] mh (0,0))]) H hx,H.below⟩
/-- lists of numbers that a call has made, to be read -/
def OW (lo hi:Nat) (B:Option Addr) (out:List Il):cB:=⟨lo,hi,fun w=>Rd Qk lo hi B out w/\ ∀ x∈out,Rd bR lo hi x.A x.es w,fun _ _ hk h=>⟨h.1.st hk,fun x hx=>(h.2 x hx).st hk⟩⟩
theorem Hp.ilRow {w0 w:World} {L:List (Nat×Obj)} {F:List cB} {lo hi:Nat} {B:Option Addr} {out:List Il} (H:Hp w0 w L F) (i:Nat) (hF:F[i]? =some (OW lo hi B out)):Hp w0 w L (dU Qk lo hi B out::F):=by
 refine⟨H.below,H.ents,H.nodup,fun f hf=> ?_⟩
 rcases ax.1 hf with rfl|hf
 obtain⟨h1,h2,h3⟩:=H.facts _ (ab hF)
 exact⟨h1.1,h2,h3⟩
 exact H.facts f hf
theorem Hp.ilPart {w0 w:World} {L:List (Nat×Obj)} {F:List cB} {lo hi:Nat} {B:Option Addr} {out:List Il} (H:Hp w0 w L F) (i:Nat) (hF:F[i]? =some (OW lo hi B out)) {x:Il} (hx:x∈out):Hp w0 w L (dU bR lo hi x.A x.es::F):=by
 refine⟨H.below,H.ents,H.nodup,fun f hf=> ?_⟩
 rcases ax.1 hf with rfl|hf
 obtain⟨h1,h2,h3⟩:=H.facts _ (ab hF)
 exact⟨h1.2 x hx,h2,h3⟩
 exact H.facts f hf
def pn (ms:List Mem) (p:Nat):List Mem:=List.zipWith (fun(m:Mem) l=>{m with parts:=l}) ms (gO (ms.map Mem.name) p)
theorem oS (names:List ByteArray) (p:Nat):(gO names p).length=names.length:=by simp[gO]
theorem Nc {ms:List Mem} {p i:Nat} {m:Mem} {l:List Int} (hm:ms[i]? =some m) (hl:(gO (ms.map Mem.name) p)[i]? =some l):(pn ms p)[i]? =some {m with parts:=l}:=by
 unfold pn
 rw[qx,hm,hl]
theorem ze {w0 w:World} {M Lm:List (Nat×Obj)} {F:List cB} (ck wt gn:Int) (ms:List Mem) (mA:Option Addr) (mC:Nat) (os:List mw) (oA:Option Addr) (oC p:Nat) (H:Hp w0 w (Lm++M) F) (ho:gz jW (.slice mA ms.length mC) df ms Lm) (hml:ms.length<=6) (hp:p<=4) (hg0:0<=gn) (hg1:gn<1073741824):
  dh aa yk [.agg #[J (ck),J (wt),J (gn),.slice mA ms.length mC,.slice oA os.length oC],J (p:Nat)] w fun v w2=> ∃ (ms':List Mem) (Lm':List (Nat×Obj)),v=.agg #[J (ck),J (wt),J (gn+1),.slice mA ms'.length mC,.slice oA os.length oC]/\ms'.map Mem.a=(pn ms p).map Mem.a/\gz jW (.slice mA ms'.length mC) df ms' Lm'/\(∀ m∈ms',m.parts.length<=m.cap/\w0.heap.size<=m.lo)/\Hp w0 w2 (Lm'++M) (F++ms'.map nE):=by
 refine aE xm Z Z ?_
 refine W<|Zr<|f7 H Z Z fun w1 b2 H=>eP H d8 Z fun w2 b4 H=>U<|W<|Zr<|G (Zf kw Z)<|G (Zd ak H 1 Z Z Z)<|G (bw Z Z I I)<|G (Zf kw Z)<|bo H 1 (#[J (ck),J (wt),J (gn+1),.slice mA ms.length mC,.slice oA os.length oC]) bH Z Z Z Z Z N N fun w3 H=>U<|W<|Zr<|G (Ws Z)<|U<|W<|W<|Zr<|G (Zf dK Z)<|G (Zd du H 1 Z Z Z)<|G (br gB Z)<|G (Yi Z)<|U<|Zb ?_
 refine cD (τ:=Nat×List ByteArray×Option Addr×Nat) [5,7,17,18,19,20,21,22,23,24,25,26] (fun(k,nl,A1,c1)=>[(17,J (k:Nat)),(5,.slice A1 nl.length c1)]) (fun(k,nl,A1,c1) w'=>k<=ms.length/\nl=(ms.take k).map Mem.name/\ ∃ Ln,gz nz (.slice A1 nl.length c1) kL nl Ln/\Hp w0 w' ((([(b4,.cells #[J 0,J 0,J 0,.slice none 0 0,.slice none 0 0] cO (0,0)),(b2,.cells #[J (ck),J (wt),J (gn+1),.slice mA ms.length mC,.slice oA os.length oC] cO (0,0))]++Lm++M)++Ln)++[]) F) (fun(k,_)=>ms.length-k) (0,[],none,0) ⟨by omega,rfl,[],gz.nil,(by rw[aZ,aZ];exact H)⟩ (li Z Z) ?_
 rintro⟨k,nl,A1,c1⟩ ρ1 w4 ⟨hk,hnl,Ln,hoN,H⟩
 show CW _ _ _ _ (dH (gZ _ _ ρ1) [(17,J (k:Nat)),(5,.slice A1 nl.length c1)]) w4
 have hnll:nl.length<=6:=by rw[hnl,bJ,aI];omega
 refine W<|Zr ?_
 refine cW (cK Z Z) Z Z Z (fun h18=> ?_) (fun h18=> ?_)
 refine U<|W<|ZT Z<|Zk<|W<|Zb<|W ?_
 obtain⟨x,hx⟩: ∃ x,ms[k]? =some x:=⟨_,ah I⟩
 obtain⟨g,cur,rfl,rfl,row⟩:=ho.row I
 refine Zr<|G (cG eG Z Z (by first|omega|(simp only[ae];omega)))<|G (pe n6 row hx Z Z (H.ent (i:=2) Z))<|eP H tJ Z fun w5 b7 H=>bo H 0 (#[.string (x.name),J (x.heard),.slice x.A x.parts.length x.cap]) sH Z Z Z Z Z N N fun w6 H=>U<|Zr<|G (Ys Z)<|G (Zf oN Z)<|G (Zd bd H 0 Z Z Z)<|s9 (vs:=[.string (x.name)]) H iy wH Z Z Z Z Z Z fun w7 b24 H=>vP (Y:=nz) ww (K:=[(b24,.cells #[.string (x.name)] kL (0,0)),(b7,.cells #[.string (x.name),J (x.heard),.slice x.A x.parts.length x.cap] df (0,0)),(b4,.cells #[J (0),J (0),J (0),.slice none 0 0,.slice none 0 0] cO (0,0)),(b2,.cells #[J (ck),J (wt),J (gn+1),.slice (Qd g) ms.length mC,.slice oA os.length oC] cO (0,0)),(g,.cells cur df (0,0))]++M) (L:=Ln) (M:=[]) H hoN (news:=[x.name]) Z Z Z (wz.row (m:=1) (sz:=nz.sz) (H.ent (i:=0) Z) Z) (show(nl.length+1)*16<=140737488355328 by omega) Z ?_
 intro A25 c25 w8 L25 h25 _ ho25 H
 refine G (Ws Z)<|U<|Zr<|G (bw Z Z I I)<|G (Yi Z)<|U ?_
 exact⟨(k+1,nl++[x.name],A25,c25),⟨by omega,by rw[eu hx,bl,hnl];rfl,L25,ho25,H.forget (.cons _ (.cons _ (ar _))) (fun _ h=>h)⟩,li Z Z,Qg,by show ms.length- (k+1)<ms.length-k;omega⟩
 refine U<|W<|ZF Z<|Zx<|W<|W ?_
 have hke:k=ms.length:=by omega
 rw[hke,bN]at hnl
 subst hnl
 obtain⟨lo2,hi2,H⟩:=Hp.sealO (K:=[(b4,.cells #[J 0,J 0,J 0,.slice none 0 0,.slice none 0 0] cO (0,0)),(b2,.cells #[J (ck),J (wt),J (gn+1),.slice mA ms.length mC,.slice oA os.length oC] cO (0,0))]++Lm++M) (M:=[]) H hoN
 have hlo1:=H.size
 refine Zr<|G (Ys Z)<|G (Yi Z)<|ch zB (by have hA:=KH (ms.map Mem.name) A1 c1 p _ ((H.rd0 0 Z)) (by simp;omega) hp;exact hA) Z Z ?_
 rintro _ w9 ⟨out,B,d,rfl,hbd,hout,hrB,hrx,hb⟩
 obtain⟨lo3,h3⟩: ∃ n,w4.heap.size=n:=⟨_,rfl⟩
 obtain⟨hi3,h4⟩: ∃ n,w9.heap.size=n:=⟨_,rfl⟩
 rw[h3]at hrB hrx
 rw[h4]at hrB hrx
 have hlw:w0.heap.size<=lo3:=by rw[<-h3];exact hlo1
 replace H:=H.learn hb (OW lo3 hi3 B out) ⟨hrB,fun x hx=>(hrx x hx).1⟩ (Nat.le_of_eq h3) (Nat.le_of_eq h4.symm)
 have hol:out.length=ms.length:=by have:=congrArg ci hout;rw[oS]at this;simpa using this
 replace H:=Hp.ilRow H 0 Z
 refine G (br J6 Z)<|G (Yi Z)<|U<|Zb ?_
 refine cD (τ:=Nat×List Mem) [8,9,31,32,33,34,35,36,37,38,39,40,41,42] (fun(i,_)=>[(31,J (i:Nat))]) (fun(i,ms1) w'=>i<=ms.length/\ms1.length=ms.length/\ms1.drop i=ms.drop i/\(ms1.take i).map Mem.a=((pn ms p).take i).map Mem.a/\(∀ m∈ms1.take i,m.parts.length<=m.cap/\w0.heap.size<=m.lo)/\ ∃ Lm1,gz jW (.slice mA ms1.length mC) df ms1 Lm1/\Hp w0 w' ([(b4,.cells #[J 0,J 0,J 0,.slice none 0 0,.slice none 0 0] cO (0,0)),(b2,.cells #[J (ck),J (wt),J (gn+1),.slice mA ms1.length mC,.slice oA os.length oC] cO (0,0))]++Lm1++M) ((dU Qk lo3 hi3 B out::OW lo3 hi3 B out::F)++(ms1.take i).map nE)) (fun(i,_)=>ms.length-i) (0,ms) ⟨by omega,rfl,rfl,rfl,by simp,Lm,ho,H.forget (by simp) (fun f hf=>by simp only[zh,mB,aZ,ax]at hf⊢;grind)⟩ (dP Z) ?_
 rintro⟨i,ms1⟩ ρ2 w10 ⟨hi,hm1,hdr,htk,hlc,Lm1,hom,H⟩
 show CW _ _ _ _ (dH (gZ _ _ ρ2) [(31,J (i:Nat))]) w10
 refine W<|Zr ?_
 refine cW (cK Z Z) Z Z Z (fun h32=> ?_) (fun h32=> ?_)
 refine U<|W<|ZT Z<|Zk<|W<|Zb<|W ?_
 obtain⟨x,hx⟩: ∃ x,out[i]? =some x:=⟨_,ah I⟩
 have hmx:=ab hx
 obtain⟨y,hy⟩: ∃ y,ms1[i]? =some y:=⟨_,ah I⟩
 have hyt:=zO hdr hy
 obtain⟨g,cur,rfl,rfl,row⟩:=hom.row I
 refine Zr<|G (Yi Z)<|qB H 0 Z wR Z Z I I Z fun bq11 o11 x11 e11=> ?_
 obtain rfl:x=x11:=by have:=e11.at_;rw[hx]at this;exact ba this
 refine G (aW cy Z (e11.cl 0 _ Z))<|G (Wi Z)<|G (Ws Z)<|U<|Zr<|G (Zf dK Z)<|G (Zd du H 1 Z Z Z)<|G (Yi Z)<|G (Ys Z)<|G (cG eG Z Z (by first|omega|(simp only[ae];omega)))<|G (Zf i6 Z)<|k9 H 2 ({y with parts:=x.es,A:=x.A,cap:=x.cap,lo:=lo3,hi:=hi3}) jK row hy 2 Z Z Z Z Z Z N fun w13 cur12 row12 H=> ?_
 have hs14:(ms1.set i ({y with parts:=x.es,A:=x.A,cap:=x.cap,lo:=lo3,hi:=hi3}))[i]? =some ({y with parts:=x.es,A:=x.A,cap:=x.cap,lo:=lo3,hi:=hi3}):=al (cC hy).1
 refine U<|Zr<|G (bw Z Z I I)<|G (Yi Z)<|U ?_
 replace H:=Hp.ilPart H 1 Z hmx
 have hown:=dX.own (g:=g) (e:=df) row12
 have z3:=C2 (show i<ms1.length by omega) ({y with parts:=x.es,A:=x.A,cap:=x.cap,lo:=lo3,hi:=hi3})
 have hle:(gO (ms.map Mem.name) p)[i]? =some x.es:=by rw[<-hout,aL,hx];rfl
 refine⟨(i+1,ms1.set i {y with parts:=x.es,A:=x.A,cap:=x.cap,lo:=lo3,hi:=hi3}),⟨by omega,by rw[ae];exact hm1,?_,?_,?_,_,hown,?_⟩,dP Z,Qg,by show ms.length- (i+1)<ms.length-i;omega⟩
 rw[sk I];exact wu hdr I
 rw[z3,eu (Nc hyt hle),bl,bl,htk];rfl
 rw[z3];intro m hm;rcases ap.1 hm with hm|hm;exact hlc m hm;rw[aq.1 hm];exact⟨(hrx x hmx).2,hlw⟩
 rw[ae];exact H.forget (ar _) (fun f hf=>by rw[z3]at hf;simp only[bl,ey,mB,ap,ax,bU,or_false]at hf⊢;grind)
 refine U<|W<|ZF Z<|Zx<|W<|Zr<|G (Zw aQ H 1 Z Z Z)<|bo H 0 (#[J (ck),J (wt),J (gn+1),.slice mA ms1.length mC,.slice oA os.length oC]) bD Z Z Z Z Z N N fun w15 H=>U<|Zt ?_
 obtain rfl:i=ms.length:=by omega
 rw[show ms.length=ms1.length from hm1.symm,bN,show ms1.length=(pn ms p).length by unfold pn;rw[List.length_zipWith,oS,bJ,hm1];omega,bN]at htk
 rw[<-hm1,bN]at hlc H
 exact eS (cs0:= #[J (ck),J (wt),J (gn+1),.slice mA ms1.length mC,.slice oA os.length oC]) Z aQ Z (H.ent (i:=0) Z) Z ⟨ms1,Lm1,rfl,htk,hom,hlc,H.forget (.cons _ (.cons _ (ar _))) (fun f hf=>by simp only[ax,ap];grind)⟩
theorem oG:aa.funcs[(132:Nat)]? =some Tryz.f132:=Tryz.func132
theorem jB {w0 w:World} {K M Lt:List (Nat×Obj)} {F:List cB} {es:List mw} {x:mw} {i c vb:Nat} {A:Option Addr} (H:Hp w0 w (((vb,.cells (f6.f x).toArray ef (0,0))::K)++Lt++M) F) (ho:gz f6 (.slice A es.length c) ef es Lt) (hi:i<=es.length) (hb:(es.length+1)*16<=140737488355328):
  dh aa nH [.slice A es.length c,J (i:Nat),.slice (Qd vb) ((1:Nat)) 1] w fun v w2=> ∃ A' c' L',v=.slice A' (es.take i++[x]++es.drop i).length c'/\gz f6 (.slice A' (es.take i++[x]++es.drop i).length c') ef (es.take i++[x]++es.drop i) L'/\Hp w0 w2 (((vb,.cells (f6.f x).toArray ef (0,0))::K)++L'++M) F:=by
 refine aE nf Z Z ?_
 show CW _ _ _ _ (args [.slice A es.length c,J (i:Nat),.slice (Qd vb) ((1:Nat)) 1]) w
 have hc0:es.length<=c:=by
  obtain⟨_,c',he,hc,_⟩:=ho.form
  injection he with _ _ he
  omega
 have hxs:(f6.f x).length=f6.sz:=f6.len x
 have hx1: ∀ u∈f6.f x,u.oneCell'=true:=fun u hu=>f6.one x u hu
 have hsv: ∀ {w2:World} {K2:List (Nat×Obj)},Hp w0 w2 ((vb,.cells (f6.f x).toArray ef (0,0))::K2) F->wz w2 (Qd vb) 1 f6.sz (f6.all [x]):=fun h=>⟨by rw[fq.length];rfl,fun _=>⟨_,rfl,fun j u hj=>by rw[all_one]at hj;rw[Addr.add_lit,cJ];exact aB (h.ent (i:=0) Z) (by simpa using hj)⟩⟩
 refine W<|Zr<|vp Z Z<|U<|W<|Zr<|mu Z Z<|iI Z Z<|td cZ Z Z I I I Z fun A12 hA12=>U<|W<|Zr<|mu Z Z<|ve im Z Z<|pp Z Z<|U<|W<|W<|Zr<|iI Z Z<|G (nS Z Z (by decide))<|U<|ZF Z<|Zk<|W<|Zr<|mu Z Z<|ve im Z Z<|pp Z Z<|U<|W<|W<|Zr<|iI Z Z<|iI Z Z ?_
 refine MX Z Z Z (fun h22=> ?_) (fun h22=> ?_)
 ·refine nG ?_
  refine ZT Z<|W<|Zr<|mu Z Z<|mu Z Z<|vP (Y:=f6) (es:=es) (news:=[x]) wx H ho Z Z Z (hsv H) (by show(es.length+1)*16<=_;omega) Z fun A25 c25 w25 L25 h25 h25b ho25 H25=>vp Z Z<|U<|Zt<|cH Z Z ?_
  have hi:i=es.length:=by omega
  subst hi
  have he:es.take es.length++[x]++es.drop es.length=es++[x]:=by rw[bN,fA,aZ]
  rw[he]
  exact⟨A25,c25,L25,rfl,ho25,H25⟩
 refine U<|ZF Z<|Zk ?_
 have hlt:i<es.length:=by omega
 obtain⟨g,cur,rfl,rfl,row⟩:=ho.row I
 have hgE:w.heap[g]? =some (.cells cur ef (0,0)):=H.ent (i:=((vb,.cells (f6.f x).toArray ef (0,0))::K:List (Nat×Obj)).length) (by simp)
 have hle:=row.le
 have hmx:=row.max
 have hlen:=uV (x:=x) (mz hlt)
 have hfit:=row.fit hle
 have hif:=row.fit (i:=i) I
 have hdr:(f6.all (es.drop i)).length=(es.length-i)*f6.sz:=by rw[fq.length,dI]
 have hsm:(i+1)*f6.sz+(es.length-i)*f6.sz=(es.length+1)*f6.sz:=by rw[<-cR];congr 1;omega
 have hi3:(i+1)*f6.sz=i*f6.sz+f6.sz:=by rw[cR,gL]
 refine W<|W<|Zr<|iI Z Z<|iI Z Z<|add Z Z I I Z<|mu Z Z<|G (E2 im Z) ?_
 refine Ki Z Z Z (fun h31=> ?_) (fun h31=> ?_)
 ·refine nG ?_
  refine ZT Z<|W<|Zr<|mu Z Z<|iI Z Z<|Ae cZ Z Z I I Z fun A34 hA34=> ?_
  obtain rfl:=hA34 I
  refine iI Z Z<|iI Z Z<|add Z Z I I Z<|iI Z Z<|sub Z Z I I Z ?_
  refine RJ (m:=es.length+1-i) wx iF H Z (kd:=.i64) (show _=Value.int _ _ from congrArg (Value.int _) (show((es.length:Int)+((1:Nat):Int))- (i:Nat)=((es.length+1-i:Nat):Int) by omega)) (olds:=f6.all (es.take i)) (by rw[fq.length,aI,bu I];rfl) (fun j u hj=>by rw[Addr.add_lit,cJ];rw[<-row.pre I,dm]at hj;split at hj;exact aB hgE (by simpa using hj);cases hj) I I (by show(((i:Nat):Int).toNat+(es.length+1-i))*16<=_;omega) Z ?_
  intro w1 g2 c2 cur2 hs2 hge2 hmx2 hp2 H
  have hs2':cur2.size=c2*f6.sz:=hs2
  have hc2:(es.length+1)*f6.sz<=cur2.size:=by rw[hs2'];exact dp _ I
  have hg2:(pf cur2 (i*f6.sz) (f6.f x)).size=cur2.size:=jM (by rw[hxs];omega)
  refine vp Z Z<|U<|W<|Zr<|mu Z Z<|iI Z Z<|td cZ Z Z I I I Z fun A43 hA43=>mu Z Z ?_
  have hsrc:=hsv (H.perm (am _ _ _))
  refine Pb (K:=[]) (m:=1) (o:=i*f6.sz) cZ H Z Z (Dg Z I) (fun _=>wA.at0 hA43 I) hsrc (by rw[all_one];exact hx1) (by rw[all_one,hxs];omega) Z ?_
  rw[all_one]
  intro w2 H
  refine U<|W ?_
  refine bA cd [0,1,2,3,4,5,6,7] [8] [] [0,1,2,3,4,5,6,7] (sp []) N N N N Nq (cI _) ?_
  refine aw Z Z Z Z Z (fun _ _=>iD Z)<|aw Z Z Z Z Z (fun _ _=>iD Z)<|aw Z Z Z Z Z (fun _ _=>iD Z)<|aw Z Z Z Z Z (fun _ _=>bw Z Z I I)<|aw Z Z Z Z Z (fun _ _=>pH cZ Z Z I I)<|aw Z Z Z Z Z (fun _ _=>iD Z)<|aw Z Z Z Z Z (fun _ _=>iD Z)<|aw Z Z Z Z Z (fun _ _=>pH cZ Z Z I I)<|aV ?_
  intro w' hw' _;replace H:=H.later hw';clear hw'
  have hgE2:w'.heap[g]? =some (.cells cur ef (0,0)):=(H.ents (g,.cells cur ef (0,0)) (by simp)).1
  refine Pb (K:=[]) (m:=es.length-i) (o:=(i+1)*f6.sz) cZ H Z Z (Dg I I) (fun _=>BI I) (row.srcFrom hgE2 I (sa (ao _)) I) (fq.all_one _) (by rw[hdr,hg2];omega) Z ?_
  intro w3 H
  refine U<|W<|Zr<|mu Z Z<|vp Z Z<|U<|Zt<|cH Z Z ?_
  exact⟨some ⟨g2,0,none⟩,c2,_,by rw[hlen];show Value.slice _ (((i:Nat):Int).toNat+(es.length+1-i)) _=_;congr 1;omega,dX.own (dX.insNew hs2' hmx2 hp2 (mz hlt) I),H.swapRow⟩
 refine U<|ZF Z<|Zk ?_
 have hroom:es.length+1<=c:=by omega
 have hfr:=row.fit hroom
 refine W<|Zr<|mu Z Z<|iI Z Z<|iI Z Z<|add Z Z I I Z<|Ae cZ Z Z I I Z fun A60 hA60=> ?_
 obtain rfl:=hA60 I
 refine vp Z Z<|U<|W<|W<|Zr<|mu Z Z<|mu Z Z<|iI Z Z<|iI Z Z<|add Z Z I I Z<|td cZ Z Z I I I Z fun A66 hA66=> ?_
 have hA:=wA.at0 hA66 I
 have hvE:w.heap[vb]? =some (.cells (f6.f x).toArray ef (0,0)):=H.ent (i:=0) Z
 have hne:vb≠g:=fun he=>by
  have:=H.nodup
  simp only[bl,ey,qA,kX,ap]at this
  exact this.1 (.inl (.inr (by rw[he];exact az)))
 have hov: ∀ lb cb,(callFunc ph #[.slice (Qd vb) 1 1,.slice A66 lb cb]).run aa w=.ok (.value (.bool false)) w:=fun lb cb=>by
  rw[hA,run_callFunc_extern oG N N N (e:=Extern.SlicesOverlaps.overlaps #[yG,yG] #[jr]) N,
   Lib.run_overlaps_apart w yG jr ef (fd cZ).1 f6.sz (by obtain⟨_,j,h1,h2⟩:=fd cZ;exact fun w=>by rw[fP h1,h2];rfl) ⟨vb,0,none⟩ _ 1 1 lb cb hne ef ef (f6.f x).length cur.size (by simp[World.shape?,hvE]) (by simp[World.shape?,hgE]) (by have:=f6.pos;have:=row.fit (i:=1) I;omega) (by simp[World.frozen?,hvE]) (by simp[World.frozen?,hvE])]
  rfl
 refine QH (hov _ _) Z Z<|not Z Z<|U<|ZT Z<|W ?_
 refine bA cd [0,1,2,3,4,5,6,7] [8] [] [0,1,2,3,4,5,6,7] (sp []) N N N N Nq (cI _) ?_
 refine aw Z Z Z Z Z (fun _ _=>iD Z)<|aw Z Z Z Z Z (fun _ _=>iD Z)<|aw Z Z Z Z Z (fun _ _=>iD Z)<|aw Z Z Z Z Z (fun _ _=>bw Z Z I I)<|aw Z Z Z Z Z (fun _ _=>pH cZ Z Z I I)<|aw Z Z Z Z Z (fun _ _=>iD Z)<|aw Z Z Z Z Z (fun _ _=>iD Z)<|aw Z Z Z Z Z (fun _ _=>pH cZ Z Z I I)<|aV ?_
 intro w' hw' _;replace H:=H.later hw';clear hw'
 have hgE2:w'.heap[g]? =some (.cells cur ef (0,0)):=(H.ents (g,.cells cur ef (0,0)) (by simp)).1
 have hz1:(pf cur ((i+1)*f6.sz) (f6.all (es.drop i))).size=cur.size:=jM (by rw[hdr];omega)
 refine Pb (m:=es.length-i) (o:=(i+1)*f6.sz) cZ H Z Z (O5 I I) (fun _=>BI I) (row.srcFrom hgE2 I (sa (ao _)) I) (fq.all_one _) (by rw[hdr];omega) Z ?_
 intro w2 H
 refine U<|W<|Zr<|mu Z Z<|iI Z Z<|td cZ Z Z I I I Z fun A80 hA80=>mu Z Z ?_
 have hsrc:=hsv H
 refine Pb (m:=1) (o:=i*f6.sz) cZ H Z Z (Dg Z I) (fun _=>wA.at0 hA80 I) hsrc (by rw[all_one];exact hx1) (by rw[all_one,hxs,hz1];omega) Z ?_
 rw[all_one]
 intro w3 H
 refine U<|W<|Zr<|mu Z Z<|vp Z Z<|U<|Zt<|cH Z Z ?_
 exact⟨some ⟨g,0,none⟩,c,_,by rw[hlen];show Value.slice _ ((es.length:Int)+((1:Nat):Int)).toNat _=_;congr 1,dX.own (row.insIn (mz hlt) hroom),H⟩
theorem MM {α:Type} {l:List α} {pred:α->Bool} {ix:Option Nat} (h:l.findIdx? pred=ix) (hne:lL ix≠ -1): ∃ (k:Nat) (x:α),ix=some k/\k<l.length/\l[k]? =some x/\pred x=true/\(l.take k).filter (fun m=>!pred m)=l.take k:=by
 cases ix with
 |none=>exact absurd Z hne
 |some k=>
  obtain⟨hl,h1,h2⟩:=aS.1 h
  refine⟨k,_,rfl,hl,ah hl,h1,?_⟩
  rw[j4]
  intro m hm
  obtain⟨j,hj⟩:=aT.1 hm
  rw[dm]at hj
  split at hj
  rename_i hjk
  obtain⟨hjl,rfl⟩:=cC hj
  have:=h2 j hjk
  simpa using this
  cases hj
theorem Oc {α:Type} {l:List α} {pred:α->Bool} {ix:Option Nat} (h:l.findIdx? pred=ix) (hne:lL ix= -1):(l.filter fun m=>!pred m)=l:=by
 cases ix with
 |none=>
  rw[cV]at h
  rw[j4]
  intro m hm
  simp[h m hm]
 |some k=>simp[lL]at hne
theorem OK {w0 w:World} {M:List (Nat×Obj)} {F:List cB} {g n:Nat} {u:Array Value} (ms:List Mem) (c:Nat) (H:Hp w0 w ((g,.cells u df (0,0))::M) F) (row:dX jW ms c u) (hn:n=ms.length) (hm12:ms.length<=1000) {f:FuncId} {cap:List Value} (hf:bk aa f=true) (pred:Mem->Bool)
  (hp: ∀ e∈ms,∀ (w':World) (u':Array Value),Hp w0 w' ((g,.cells u' df (0,0))::M) F->dh aa f (.agg e.c.toArray::cap) w' fun v w2=>v=.bool (pred e)/\Below w'.heap.size w' w2):
  dh aa fF [.slice (Qd g) n c,.func (.func f) #[] cap.toArray] w fun v w2=> ∃ u2,v=.slice (Qd g) (ms.filter fun m=>!pred m).length c/\dX jW (ms.filter fun m=>!pred m) c u2/\Hp w0 w2 ((g,.cells u2 df (0,0))::M) F:=by
 refine aE io Z Z ?_
 have hle:=row.le
 refine W<|Zr<|G (Ws Z)<|U<|W<|Zr<|G (Ys Z)<|G (tg Z)<|ch dq (by subst hn;exact fY ms _ c _ (row.rd0 (H.ent (i:=0) Z)) I f cap hf pred (fun e w2 he hb=>hp e he w2 u (H.later hb))) Z Z ?_
 rintro _ w1 ⟨rfl,hb⟩;replace H:=H.later hb;clear hb
 obtain⟨ix,hix⟩: ∃ i,ms.findIdx? pred=i:=⟨_,rfl⟩
 rw[hix]
 refine G (Wi Z)<|U<|W<|W<|Zr<|G (Yi Z) ?_
 refine cW (bn Z Z) Z Z Z (fun h12=> ?_) (fun h12=> ?_)
 have hall:=Oc hix I
 refine U<|ZT Z<|W<|Zr<|G (Ys Z)<|G (Ws Z)<|U<|Zt ?_
 exact cH (v:=.slice (Qd g) n c) Z Z ⟨u,by rw[hall,hn],by rw[hall];exact row,H⟩
 refine U<|ZF Z<|Zk<|W<|W ?_
 obtain⟨k0,x0,rfl,hk0l,hk0,hk0p,hkn⟩:=MM hix I
 refine Zr<|G (Yi Z)<|G (bw (a:=((k0:Nat):Int)) Z Z I I)<|G (Wi Z)<|U<|Zb ?_
 refine cD (τ:=Nat×Nat×List Mem×Array Value) [5,6,7,16,17,18,19,20,21,22,23,24,25,26,27,28,29,30,31,32,33,34,35] (fun(j,i,_,_)=>[(6,J (j:Nat)),(5,J (i:Nat))]) (fun(j,i,m,u1) w'=>j<=n/\i<j/\m.length=n/\m.drop j=ms.drop j/\m.take i=(ms.take j).filter (fun m=>!pred m)/\dX jW m c u1/\Hp w0 w' ((g,.cells u1 df (0,0))::M) F) (fun(j,_,_,_)=>n-j) (k0+1,k0,ms,u) ⟨by omega,by omega,hn.symm,rfl,by rw[eu hk0,jj,hkn];simp[hk0p],row,H⟩ (li Z Z) ?_
 rintro⟨j,i,m,u1⟩ ρ1 w2 ⟨hjn,hij,hml,hdr,htk,row2,H⟩
 show CW _ _ _ _ (dH (gZ _ _ ρ1) [(6,J (j:Nat)),(5,J (i:Nat))]) w2
 refine W<|W<|Zr<|G (Yi Z)<|G (Ys Z)<|G (br gB Z) ?_
 refine cW (cK Z Z) Z Z Z (fun h19=> ?_) (fun h19=> ?_)
 obtain⟨y,hy⟩: ∃ y,m[j]? =some y:=⟨_,ah I⟩
 have hyt:=zO hdr hy
 have hmy:=ab hyt
 refine U<|ZT Z<|Zk<|W<|Zb<|W<|Zr<|G (Ys Z)<|G (Yi Z)<|G (cG eG Z Z (by first|omega|(simp only[ae];omega)))<|G (pe n6 row2 hy Z Z (H.ent (i:=0) Z))<|eP H tJ Z fun w3 b7 H=>bo H 0 (#[.string (y.name),J (y.heard),.slice y.A y.parts.length y.cap]) sH Z Z Z Z Z N N fun w4 H=>U<|W<|Zr<|G (tg Z)<|G (Zw n6 H 0 Z Z Z) ?_
 refine OQ hf Z (hp y hmy _ _ (H.forget (.cons _ (ar _)) (fun _ h=>h))) Z Z ?_;rintro _ w5 ⟨rfl,hb2⟩;replace H:=H.later hb2;clear hb2
 refine G (dM Z)<|U ?_
 refine jw Z (fun hc29=> ?_) (fun hc29=> ?_)
 refine W<|Zr<|G (Ys Z)<|G (Yi Z)<|G (Zw n6 H 0 Z Z Z)<|G (cG eG Z Z (by first|omega|(simp only[ae];omega))) ?_
 obtain⟨x33,hx33⟩: ∃ x,m[i]? =some x:=⟨_,ah (by first|omega|(simp only[ae];omega))⟩
 refine k9 H 1 (y) sH row2 hx33 0 Z Z Z Z Z Z N fun w7 cur6 row6 H=> ?_
 have hs8:(m.set i (y))[i]? =some (y):=al (cC hx33).1
 refine U<|Zr<|G (Yi Z)<|G (bw Z Z I I)<|G (Wi Z)<|U<|Zr<|G (Yi Z)<|G (bw Z Z I I)<|G (Wi Z)<|U ?_
 exact⟨(j+1,i+1,m.set i y,_),⟨by omega,by omega,by simp[hml],by rw[sk I];exact wu hdr I,by rw[C2 I,htk,eu hyt,jj,ka (by simpa using hc29)];rfl,row6,H.forget (.cons _ (ar _)) (fun _ h=>h)⟩,li Z Z,Qg,by show n- (j+1)<n-j;omega⟩
 refine Zk<|Zr<|G (Yi Z)<|G (bw Z Z I I)<|G (Wi Z)<|U ?_
 exact⟨(j+1,i,m,u1),⟨by omega,by omega,hml,wu hdr I,by rw[htk,eu hyt,jj,oX (by simpa using hc29)];simp,row2,H.forget (.cons _ (ar _)) (fun _ h=>h)⟩,li Z Z,Qg,by show n- (j+1)<n-j;omega⟩
 refine U<|ZF Z<|Zx<|W<|Zr<|G (Ys Z)<|G (Yi Z)<|td (A:=some ⟨g,0,none⟩) (len:=n) (cap:=c) (i:=((i:Nat):Int)) eG Z Z I I I Z fun A38 hA38=> ?_
 obtain rfl:=wA.at0 hA38 (show i<n by omega)
 show LW _ _ _ _ _ (fv _ _ (.slice (some ⟨g,i*3,none⟩) (n-i) (c-i))) _
 have hsz:=row2.size
 have hzl:(Builtin.zeroCells (Value.cells (.agg #[.string ⟨#[]⟩,J 0,.slice none 0 0])) (n-i)).toList.length=(n-i)*3:=by rw[cn,size_zeroCells];rfl
 refine RD (K:=[]) (M:=M) (o:=i*3) (z:=.agg #[.string ⟨#[]⟩,J 0,.slice none 0 0]) eG N Z Z H Z (fun _=>rfl) (by rw[hsz];show i*3+(n-i)*3<=c*3;omega) fun w9 H=> ?_
 have row3:=dX.clr row2 (k:=i) (o:=i*3) (zs:=(Builtin.zeroCells (Value.cells (.agg #[.string ⟨#[]⟩,J 0,.slice none 0 0])) (n-i)).toList) I (ao _) (by rw[hzl,hsz];show i*3+(n-i)*3<=c*3;omega)
 refine U<|W<|Zr<|G (Ys Z)<|G (Yi Z)<|Ae (A:=some ⟨g,0,none⟩) (len:=n) (cap:=c) (i:=((i:Nat):Int)) eG Z Z I I Z fun A41 hA41=> ?_
 obtain rfl:=hA41 I
 show LW _ _ _ _ _ (fv _ _ (.slice (Qd g) i c)) _
 refine G (Ws Z)<|U<|Zt ?_
 have hfin:m.take i=ms.filter (fun m=>!pred m):=by rw[htk,show j=ms.length by omega,bN]
 have hfl:i=(ms.filter fun m=>!pred m).length:=by rw[<-hfin,aI];omega
 exact cH (v:=.slice (Qd g) i c) Z Z ⟨_,by rw[<-hfl],hfin▸row3,H⟩
end Go.Proofs.YtclibalpdhhhfaaGreat
